/- ConfBegins: in plain words. Parts of the proof of the law. Conditions: none. -/
import Derived.Test.YtaocgmkcjemecaaConfA
namespace Go.Proofs.Ytaocgmkcjemecaa
set_option linter.unusedVariables false
set_option linter.unusedSimpArgs false

/-- Where a unit begins. -/
def startC (u : UnitS) : ConfS := ⟨List.replicate u.regs.length 0, u.regs.map fun r => List.replicate r.toNat 0, u.init, List.replicate u.regs.length []⟩
theorem own_m (n : Nat) (l : List Int) (h : l.length ≤ 1000000) : m_conf_own_int (n + 1) l = some l := by
  simp only [m_conf_own_int, bif_decide (show l.length * 9 ≤ 140737488355328 by omega)]
  cases l with
  | nil => rfl
  | cons a l => rfl
theorem rightU_thread {u : UnitS} (h : rightU u = true) (i : Nat) (hi : i < u.regs.length) (hc : i < u.code.length) : (0 ≤ u.regs[i] ∧ u.regs[i] ≤ 6) ∧ rowOk u.code[i] u.regs[i] u.init.length = true := by
  simp only [rightU, Bool.and_eq_true, List.all_eq_true] at h
  have := h.2 i (by simpa using hi)
  rw [threadOk_of hi hc, Bool.and_eq_true, decide_eq_true_eq] at this
  exact this
theorem start_L (n : Nat) (u : UnitS) (hr : ∀ i (h : i < u.regs.length), 0 ≤ u.regs[i] ∧ u.regs[i] ≤ 6) (hN : u.regs.length ≤ 4) : ∀ (m k i : Nat) (acc : List (List Int)), i + m = u.regs.length → m < k → acc.length = i → conf_Start_L0 n u k (i : Int) acc = some (.out (acc ++ (u.regs.drop i).map fun r => List.replicate r.toNat 0)) := by
  intro m
  induction m with
  | zero =>
    intro k i acc hi hk ha
    obtain ⟨k, rfl⟩ : ∃ j, k = j + 1 := ⟨k - 1, by omega⟩
    have hd : u.regs.drop i = [] := List.drop_of_length_le (by omega)
    have hge : ¬ ((i : Int) < (u.regs.length : Int)) := by omega
    rw [conf_Start_L0, bif_not hge, hd]
    simp
  | succ m ih =>
    intro k i acc hi hk ha
    obtain ⟨k, rfl⟩ : ∃ j, k = j + 1 := ⟨k - 1, by omega⟩
    have hlt : i < u.regs.length := by omega
    have hlt' : (i : Int) < (u.regs.length : Int) := by omega
    have hx := hr i hlt
    have c1 : (decide (0 ≤ u.regs[i]) && decide ((8 : Int) * u.regs[i] ≤ 140737488355328)) = true := by
      rw [decide_eq_true hx.1, decide_eq_true (by omega)]; rfl
    have c2 : (acc.length + 1) * 25 ≤ 140737488355328 := by omega
    rw [conf_Start_L0, bif_decide hlt', idx_get hlt, List.drop_eq_getElem_cons hlt]
    have w1 := wrap_one i (by omega)
    simp only [Option.bind_some, c1, cond_true, bif_decide c2, w1]
    rw [ih k (i + 1) _ (by omega) (by omega) (by simp [ha])]
    simp only [List.map_cons, List.append_assoc, List.cons_append, List.nil_append]
theorem start_m (n : Nat) (u : UnitS) (h : rightU u = true) (hn : 20 < n) : m_conf_Start n u = some (startC u, 0) := by
  obtain ⟨n, rfl⟩ : ∃ j, n = j + 2 := ⟨n - 2, by omega⟩
  obtain ⟨u1, u2, u3, u4⟩ := rightU_len h
  have hr : ∀ i (h : i < u.regs.length), 0 ≤ u.regs[i] ∧ u.regs[i] ≤ 6 := fun i hi => (rightU_thread h i hi (by omega)).1
  have c1 : (decide (0 ≤ (u.regs.length : Int)) && decide ((8 : Int) * (u.regs.length : Int) ≤ 140737488355328)) = true := by
    rw [decide_eq_true (by omega), decide_eq_true (by omega)]; rfl
  have c2 : (decide (0 ≤ (u.regs.length : Int)) && decide ((24 : Int) * (u.regs.length : Int) ≤ 140737488355328)) = true := by
    rw [decide_eq_true (by omega), decide_eq_true (by omega)]; rfl
  have hL := start_L (n + 1) u hr u3 u.regs.length (n + 1) 0 [] (by omega) (by omega) rfl
  have hL : conf_Start_L0 (n + 1) u (n + 1) 0 [] = _ := hL
  simp only [m_conf_Start, m_lower_Right, h, Option.bind_some, cond_true, c1, c2, own_m n u.init (by omega), hL]
  simp [startC]
theorem start_light (u : UnitS) (h : rightU u = true) : LightC (startC u) := by
  obtain ⟨u1, u2, u3, u4⟩ := rightU_len h
  refine ⟨by simp [startC]; omega, by simp [startC]; omega, by simp [startC]; omega, by simp [startC]; omega, fun i hi => ?_, fun i hi => ?_⟩
  · have hi' : i < u.regs.length := by simpa [startC] using hi
    have := (rightU_thread h i hi' (by omega)).1
    simp only [startC, List.getElem_map, List.length_replicate]
    omega
  · simp [startC]
theorem allB_of {l : List Int} {mod : Int} (h : ∀ i (hi : i < l.length), 0 ≤ l[i] ∧ l[i] < mod) : allB l mod = true := by
  refine all_range_true fun i hi => ?_
  have := h i hi
  simp only [numOk, List.getElem?_eq_getElem hi, decide_eq_false (show ¬ l[i] < 0 by omega), decide_eq_false (show ¬ mod ≤ l[i] by omega)]
  rfl
theorem bufOk_empty {model room mod locs : Int} (hm : 1 ≤ model ∧ model ≤ 3) (hr : 1 ≤ room ∧ room ≤ 4) (hmod : 2 ≤ mod ∧ mod ≤ 16) : bufOk [] model room mod locs = true := by
  have h1 : numsOk room mod = true := by
    simp only [numsOk, decide_eq_false (show ¬ room < 1 by omega), decide_eq_false (show ¬ 4 < room by omega), decide_eq_false (show ¬ mod < 2 by omega), decide_eq_false (show ¬ 16 < mod by omega)]; rfl
  have h2 : endOk [] model room = true := by
    have : model = 1 ∨ model = 2 ∨ model = 3 := by omega
    rcases this with rfl | rfl | rfl
    · rfl
    · simp only [endOk]; simp; omega
    · rfl
  simp only [bufOk, h1, h2]; rfl
theorem start_right (u : UnitS) (h : rightU u = true) {model room : Int} (hm : 1 ≤ model ∧ model ≤ 3) (hr : 1 ≤ room ∧ room ≤ 4) : confOk u (startC u) model room = true := by
  obtain ⟨u1, u2, u3, u4⟩ := rightU_len h
  have hmod : 2 ≤ u.mod ∧ u.mod ≤ 16 := by
    simp only [rightU, headOk, Bool.and_eq_true, decide_eq_true_eq] at h; omega
  have hmem : allB u.init u.mod = true := by
    refine allB_of fun i hi => ?_
    simp only [rightU, allIn, Bool.and_eq_true, List.all_eq_true] at h
    have := h.1.2 _ (List.getElem_mem hi)
    simpa [inB] using this
  have hall : (List.range' 0 u.regs.length).all (thrOk u (startC u) model room) = true := by
    refine all_range_true fun i hi => ?_
    have hc : i < u.code.length := by omega
    obtain ⟨t1, t2⟩ := rightU_thread h i hi hc
    have hrow : 1 ≤ u.code[i].length := by
      simp only [rowOk, Bool.and_eq_true, decide_eq_true_eq] at t2; omega
    have e1 : (List.replicate u.regs.length (0 : Int))[i]? = some 0 := by simp [hi]
    have e2 : (u.regs.map fun r => List.replicate r.toNat (0 : Int))[i]? = some (List.replicate u.regs[i].toNat 0) := by simp [hi]
    have e3 : (List.replicate u.regs.length ([] : List EntryS))[i]? = some [] := by simp [hi]
    have e4 : allB (List.replicate u.regs[i].toNat 0) u.mod = true := allB_of fun k hk => by
      simp only [List.getElem_replicate]; omega
    have e5 : (((List.replicate u.regs[i].toNat (0 : Int)).length : Nat) : Int) = u.regs[i] := by simp; omega
    simp only [thrOk, startC, e1, e2, e3, List.getElem?_eq_getElem hc, List.getElem?_eq_getElem hi, e4, e5, beq_self_eq_true, bufOk_empty hm hr hmod, decide_eq_false (show ¬ ((u.code[i].length : Int) ≤ 0) by omega), decide_eq_false (Int.lt_irrefl 0)]
    rfl
  have l1 : (startC u).pc.length = u.regs.length := by simp [startC]
  have l2 : (startC u).regs.length = u.regs.length := by simp [startC]
  have l3 : (startC u).buf.length = u.regs.length := by simp [startC]
  simp only [confOk, l1, l2, l3, hall, beq_self_eq_true, show (startC u).mem = u.init from rfl, hmem]
  rfl
theorem start_quiet (u : UnitS) : quietOk (startC u) = true := by
  refine all_range_true fun i hi => ?_
  have hi : i < u.regs.length := by simpa [startC] using hi
  have e3 : (List.replicate u.regs.length ([] : List EntryS))[i]? = some [] := by simp [hi]
  simp only [startC, e3]; rfl
def shortAt (u : UnitS) (i : Nat) : Bool := match u.code[i]? with
  | some r => r.length == 1
  | none => false
theorem begins_L (n : Nat) (u : UnitS) (hu : u.code.length ≤ 8) : ∀ (m k i : Nat) (b : Bool), i + m = u.code.length → m < k → law09_ConfBegins_L0 n u k b (i : Int) = some (.out (b && (List.range' i m).all (shortAt u))) := by
  intro m
  induction m with
  | zero =>
    intro k i b hi hk
    obtain ⟨k, rfl⟩ : ∃ j, k = j + 1 := ⟨k - 1, by omega⟩
    have hge : ¬ ((i : Int) < (u.code.length : Int)) := by omega
    rw [law09_ConfBegins_L0, bif_not hge]
    simp
  | succ m ih =>
    intro k i b hi hk
    obtain ⟨k, rfl⟩ : ∃ j, k = j + 1 := ⟨k - 1, by omega⟩
    have hlt : i < u.code.length := by omega
    have hlt' : (i : Int) < (u.code.length : Int) := by omega
    have w1 := wrap_one i (by omega)
    rw [law09_ConfBegins_L0, bif_decide hlt', idx_get hlt, range_step]
    simp only [Option.bind_some, w1, shortAt, List.getElem?_eq_getElem hlt]
    have e : ((u.code[i].length : Int) == 1) = (u.code[i].length == 1) := natEq _ 1
    rw [e]
    cases b with
    | true => simp only [cond_true]; rw [ih k (i + 1) _ (by omega) (by omega)]; rfl
    | false => simp only [cond_false]; rw [ih k (i + 1) _ (by omega) (by omega)]; rfl
theorem start_final (u : UnitS) (h : rightU u = true) : finalOk u (startC u) = (List.range' 0 u.code.length).all (shortAt u) := by
  obtain ⟨u1, u2, u3, u4⟩ := rightU_len h
  rw [finalOk, start_quiet, Bool.and_true]
  refine all_range_congr fun i hi => ?_
  have hi' : i < u.regs.length := by omega
  obtain ⟨t1, t2⟩ := rightU_thread h i hi' hi
  have e1 : (List.replicate u.regs.length (0 : Int))[i]? = some 0 := by simp [hi']
  simp only [endedOk, shortAt, startC, if_pos (show (0 : Int) ≤ (i : Int) by omega), Int.toNat_natCast, List.getElem?_eq_getElem hi, e1, if_pos (Int.le_refl 0)]
  simp only [rowOk, Bool.and_eq_true, decide_eq_true_eq, List.all_eq_true] at t2
  obtain ⟨⟨a1, a2⟩, a3⟩ := t2
  have h0 : 0 < u.code[i].length := by omega
  have h0' : (0 : Int).toNat = 0 := rfl
  rw [h0', List.getElem?_eq_getElem h0]
  simp only
  by_cases hl : u.code[i].length = 1
  · rw [show u.code[i].length - 1 = 0 by omega, List.getElem?_eq_getElem h0] at a2
    simp only [doneOk, Bool.and_eq_true, decide_eq_true_eq] at a2
    rw [beq_iff_eq.2 hl]
    have := a2.1.1.1.1.1.1
    rw [this]; rfl
  · have a4 := a3 0 (by simp; omega)
    rw [List.getElem?_eq_getElem h0] at a4
    simp only [instrOk] at a4
    rw [beq_eq_false_iff_ne.2 hl]
    have : u.code[i][0].op ≠ 22 := fun e => by
      rw [e] at a4
      simp [needsOf] at a4
    exact beq_eq_false_iff_ne.2 this
theorem confBegins_m (u : UnitS) (model room : Int) (h1 : (Lit.int .u8 model).wf = true) (h2 : (Lit.int .u8 room).wf = true) : m_law09_ConfBegins 102 u model room = some true := by
  have b1 : 0 ≤ model ∧ model ≤ 255 := by simpa [Lit.wf, IntKind.min, IntKind.max, IntKind.bits, IntKind.signed] using h1
  have b2 : 0 ≤ room ∧ room ≤ 255 := by simpa [Lit.wf, IntKind.min, IntKind.max, IntKind.bits, IntKind.signed] using h2
  simp only [m_law09_ConfBegins, m_ref07_Light, m_ref07_Right, Option.bind_some, m_law09_known]
  cases hu : lightU u with
  | false => rfl
  | true =>
  cases hr : rightU u with
  | false => rfl
  | true =>
  have hu := lightU_code hu
  have hl := start_light u hr
  have hL := begins_L 101 u hu u.code.length 101 0 true (by omega) (by omega)
  have hL : law09_ConfBegins_L0 101 u 101 true 0 = _ := hL
  have w1 : IntKind.i64.wrap (1 + Int.tmod (IntKind.i64.wrap model) 3) = 1 + model % 3 := by
    rw [wrap64 (n := model) (by omega), Int.tmod_eq_emod_of_nonneg b1.1, wrap64 (by omega)]
  have w2 : IntKind.i64.wrap (1 + Int.tmod (IntKind.i64.wrap room) 4) = 1 + room % 4 := by
    rw [wrap64 (n := room) (by omega), Int.tmod_eq_emod_of_nonneg b2.1, wrap64 (by omega)]
  simp only [cond_true, start_m 101 u hr (by omega), hL, Option.bind_some, w1, w2, cright_m 101 u _ _ _ hl (by omega), hr, start_right u hr (show 1 ≤ 1 + model % 3 ∧ 1 + model % 3 ≤ 3 by omega) (show 1 ≤ 1 + room % 4 ∧ 1 + room % 4 ≤ 4 by omega), quiet_m 101 _ hl (by omega), start_quiet, final_m 101 u _ hl hu (by omega), start_final u hr, Bool.true_and, beq_self_eq_true, Bool.and_self]
end Go.Proofs.Ytaocgmkcjemecaa
