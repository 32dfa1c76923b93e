/- The interpreter is sound: plain operations. Parts of the proofs of the laws. Conditions: none. -/
import Derived.Test.YtaocgmkcjemecaaAbsB
namespace Go.Proofs.Ytaocgmkcjemecaa
open Go.RowKit
set_option linter.unusedVariables false
set_option linter.unusedSimpArgs false

section force
variable {ρ : Type}
theorem force1_eq (K : AV → Option ρ) (a : AV) : force1 K a = K a := by cases a <;> rfl
theorem forceL_eq {g : (AV → Option ρ) → AV → Option ρ} (hg : ∀ K a, g K a = K a) (K : List AV → Option ρ) (l : List AV) : forceL g K l = K l := by
  induction l generalizing K with
  | nil => rfl
  | cons a t ih => simp only [forceL, hg, ih]
theorem forceO_eq (K : List Oper → Option ρ) (l : List Oper) : forceO K l = K l := by
  induction l generalizing K with
  | nil => rfl
  | cons a t ih => simp only [forceO, ih]
theorem runOps_cons {P : Program} {H : Hints} {call : CallT} {f : FuncId} {ops : List Oper} {o : Oper} {l : List Oper} {tm : Tm} {hp : Hp} {K : Tm → Hp → Option ρ} : runOps P H call f ops (o :: l) tm hp K = opThen P H call f ops o (runOps P H call f ops l) tm hp K := rfl
theorem runC_region {P : Program} {H : Hints} {call : CallT} {f : FuncId} {fuel id : Nat} {ops : Array Oper} {d : Bool} {tm : Tm} {hp : Hp} {K : Ex → Tm → Hp → Option ρ} : runC P H call f fuel (.region id ops d) tm hp K = runOps P H call f ops.toList (orderL ops.toList (H.order f id)) tm hp fun tm hp => K .normal tm hp := forceO_eq _ _
theorem runC_cond {P : Program} {H : Hints} {call : CallT} {f : FuncId} {fuel : Nat} {x : Operand} {a b : Code} {tm : Tm} {hp : Hp} {K : Ex → Tm → Hp → Option ρ} : runC P H call f fuel (.cond x a b) tm hp K = match ev tm x with
      | .bool t => bif t then runC P H call f fuel a tm hp K else runC P H call f fuel b tm hp K
      | _ => none := rfl
theorem runC_loop {P : Program} {H : Hints} {call : CallT} {f : FuncId} {fuel : Nat} {b : Code} {tm : Tm} {hp : Hp} {K : Ex → Tm → Hp → Option ρ} : runC P H call f fuel (.loop b) tm hp K = forceHp (fun hp1 => forceL force (fun tm => forceHp (fun hp2 => rounds (runC P H call f fuel b) (H.keep f (firstReg b)) hp1.length fuel tm hp2 K) (waneHp hp1.length hp1)) (keepTm (H.keep f (firstReg b) 0) hp1.length hp1 0 tm)) (upsHp P (H.ups f) hp) := rfl
theorem force2_eq (K : AV → Option ρ) (a : AV) : force2 K a = K a := by
  cases a <;> simp only [force2, forceL_eq force1_eq, force1_eq]
theorem force_eq (K : AV → Option ρ) (a : AV) : force K a = K a := by
  cases a <;> simp only [force, forceL_eq force2_eq, force2_eq]
theorem forceOb_eq (K : Ob → Option ρ) (o : Ob) : forceOb K o = K o := by
  cases o <;> simp only [forceOb, forceL_eq force2_eq]
theorem forceHp_eq (K : Hp → Option ρ) (l : Hp) : forceHp K l = K l := by
  induction l generalizing K with
  | nil => rfl
  | cons a t ih => simp only [forceHp, forceOb_eq, ih]
theorem setK_eq {α : Type} (K : List α → Option ρ) (v : α) (l : List α) (n : Nat) : setK K v l n = K (setNth l n v) := by
  induction l generalizing K n with
  | nil => rfl
  | cons a t ih => cases n with
    | zero => rfl
    | succ n => simp only [setK, ih, setNth]
theorem putK_eq (tm : Tm) (d : Option Tmp) (v : AV) (K : Tm → Option ρ) : putK tm d v K = K (put tm d v) := by
  cases d <;> simp only [putK, put, force_eq, setK_eq]
end force

theorem wf_wrap (k : IntKind) (n : Int) : (Lit.int k (k.wrap n)).wf = true := by
  cases k <;> simp only [Lit.wf, IntKind.wrap, IntKind.min, IntKind.max, IntKind.bits, IntKind.signed, Bool.true_and, Bool.false_and, if_true, Bool.and_eq_true, decide_eq_true_eq] <;>
    first
    | (simp; omega)
    | (split <;> simp at * <;> omega)
theorem wf_tmod {k : IntKind} {a b : Int} (h : (Lit.int k a).wf = true) (hb : b ≠ 0) : (Lit.int k (a.tmod b)).wf = true := by
  have h1 : -a.natAbs ≤ a.tmod b ∧ a.tmod b ≤ a.natAbs := by
    have := Int.natAbs_tmod a b
    have h2 : a.natAbs % b.natAbs ≤ a.natAbs := Nat.mod_le _ _
    omega
  have h3 : 0 ≤ a → 0 ≤ a.tmod b := fun h => Int.tmod_nonneg b h
  have h4 : a ≤ 0 → a.tmod b ≤ 0 := fun h => by
    have := Int.neg_tmod (a := a) (b := b)
    have h5 := Int.tmod_nonneg b (a := -a) (by omega)
    omega
  cases k <;> simp only [Lit.wf, IntKind.min, IntKind.max, IntKind.bits, IntKind.signed, Bool.and_eq_true, decide_eq_true_eq, if_true, Bool.false_eq_true, if_false] at h ⊢ <;> omega
theorem wf_len {n : Nat} (h : n ≤ maxLen) : (Lit.int .i64 (n : Int)).wf = true := by
  unfold maxLen at h
  simp [Lit.wf, IntKind.min, IntKind.max, IntKind.bits, IntKind.signed]; omega
theorem wf_byte (b : UInt8) : (Lit.int .u8 (b.toNat : Int)).wf = true := by
  have := b.toNat_lt
  simp [Lit.wf, IntKind.min, IntKind.max, IntKind.bits, IntKind.signed]; omega

section
variable {S : Nat → Nat → Prop} {w : World} {hp : Hp} {φ : List Pl}

theorem lit1_rep (v : Value) : Rep S w hp φ (lit1 v) v := by
  unfold lit1
  split
  · exact .bool _ _ _
  · split
    · rename_i h; exact .int _ _ _ _ h
    · exact .junk _ _ _
  · rename_i s
    split
    · rename_i h
      have := Rep.str (S := S) (w := w) hp φ s.data.toList (by have := of_decide_eq_true h; unfold maxLen; omega)
      simpa [bs] using this
    · exact .junk _ _ _
  · exact .nilp _ _
  · exact .nils _ _
  · exact .nilf _ _
  · exact .junk _ _ _
theorem lit_rep (v : Value) : Rep S w hp φ (lit v) v := by
  unfold lit
  split
  · rename_i cs
    split
    · rename_i h
      have := Rep.agg (S := S) (w := w) hp φ (cs.toList.map lit1) cs.toList (Reps.of (by simp) fun i a v h1 h2 => by
        rw [List.getElem?_map] at h1
        rw [h2] at h1
        cases h1
        exact lit1_rep v) (by rw [List.all_eq_true] at h; exact h)
      simpa using this
    · exact .junk _ _ _
  · exact lit1_rep _
theorem ev_rep {tm : Tm} {a : Act} (h : Reps S w hp φ tm a.tmps.toList) (x : Operand) : Rep S w hp φ (ev tm x) (a.eval x) := by
  cases x with
  | tmp t =>
    simp only [ev, Act.eval, nth_eq]
    cases hv : a.tmps[t]? with
    | none =>
      have : tm[t]? = none := by
        rw [List.getElem?_eq_none_iff, h.length]
        simpa using hv
      rw [this]; exact .junk _ _ _
    | some v =>
      obtain ⟨x, h1, h2⟩ := h.get (i := t) (v := v) (by simpa using hv)
      have : a.tmps.getD t undef = v := by simp [Array.getD_eq_getD_getElem?, hv]
      rw [h1, this]; exact h2
  | const v => exact lit_rep v
  | func f => exact .func _ _ f [] [] [] [] (.nil _ _) (.nil _ _)
  | global g => exact .junk _ _ _

/-- What an operation that leaves the world alone yields. -/
def Gives (P : Program) (S : Nat → Nat → Prop) (w : World) (hp : Hp) (φ : List Pl) (e : Operand → Value) (o : Oper) (v : AV) : Prop := ∃ u, (execOp e o).run P w = .ok (.value u) w ∧ Rep S w hp φ v u

variable {P : Program} {e : Operand → Value} {o : Oper} {tm : Tm} {ρ : Type} {r : ρ} {K : AV → Option ρ}

theorem gives_move (ht : ∀ x, Rep S w hp φ (ev tm x) (e x)) {x : Operand} (ho : o.op = .move x ∨ o.op = .assign x) : Gives P S w hp φ e o (ev tm x) := by
  refine ⟨e x, ?_, ht x⟩
  rcases ho with ho | ho <;> simp [execOp, ho, go_sem]
theorem gives_pick (ht : ∀ x, Rep S w hp φ (ev tm x) (e x)) {c x y : Operand} (ho : o.op = .pick c x y) {t : Bool} (hc : ev tm c = .bool t) : Gives P S w hp φ e o (bif t then ev tm x else ev tm y) := by
  have h1 := ht c
  rw [hc] at h1
  cases he : e c <;> rw [he] at h1 <;> cases h1
  cases t
  · exact ⟨e y, by simp [execOp, ho, go_sem, he, asBool], ht y⟩
  · exact ⟨e x, by simp [execOp, ho, go_sem, he, asBool], ht x⟩
theorem gives_not (ht : ∀ x, Rep S w hp φ (ev tm x) (e x)) {x : Operand} {t : TypeId} (ho : o.op = .unOp .not t x) {b : Bool} (hc : ev tm x = .bool b) : Gives P S w hp φ e o (.bool (!b)) := by
  have h1 := ht x
  rw [hc] at h1
  cases he : e x <;> rw [he] at h1 <;> cases h1
  exact ⟨.bool (!b), by simp [execOp, ho, go_sem, he, Op.unary], .bool _ _ _⟩
theorem gives_neg (ht : ∀ x, Rep S w hp φ (ev tm x) (e x)) {x : Operand} {t : TypeId} (ho : o.op = .unOp .neg t x) {k : IntKind} {n : Int} (hc : ev tm x = .int k n) : Gives P S w hp φ e o (.int k (k.wrap (0 - n))) := by
  have h1 := ht x
  rw [hc] at h1
  cases he : e x <;> rw [he] at h1 <;> cases h1
  exact ⟨.int k (k.wrap (0 - n)), by simp [execOp, ho, go_sem, he, Op.unary, Op.intArith], .int _ _ _ _ (wf_wrap _ _)⟩
theorem gives_extract (ht : ∀ x, Rep S w hp φ (ev tm x) (e x)) {x : Operand} {k : Nat} (ho : o.op = .extract x k) {cs : List AV} (hc : ev tm x = .tup cs) {v : AV} (hk : nth? cs k = some v) : Gives P S w hp φ e o v := by
  have h1 := ht x
  rw [hc] at h1
  cases he : e x <;> rw [he] at h1 <;> cases h1
  rename_i vs hr
  rw [nth?_eq] at hk
  obtain ⟨u, h2, h3⟩ := hr.get' hk
  exact ⟨u, by simp [execOp, ho, go_sem, he, Instr.extract, h2], h3⟩
theorem gives_binInt (op : BinOp) {t t' : TypeId} {x y : Operand} (ho : o.op = .binOp op t x y t') {k : IntKind} {m n : Int} (hx : e x = .int k m) (hy : e y = .int k n) (hm : (Lit.int k m).wf = true)
    (h : binInt op k m n K = some r) : ∃ v, K v = some r ∧ Gives P S w hp φ e o v := by
  cases op <;> simp only [binInt] at h <;> first | (cases h; done) | skip
  case add => exact ⟨_, h, _, by simp [execOp, ho, go_sem, hx, hy, eqGuard, binOp, Op.intArith], .int _ _ _ _ (wf_wrap _ _)⟩
  case sub => exact ⟨_, h, _, by simp [execOp, ho, go_sem, hx, hy, eqGuard, binOp, Op.intArith], .int _ _ _ _ (wf_wrap _ _)⟩
  case mul => exact ⟨_, h, _, by simp [execOp, ho, go_sem, hx, hy, eqGuard, binOp, Op.intArith], .int _ _ _ _ (wf_wrap _ _)⟩
  case quo =>
    by_cases hn : n = 0
    · simp [hn] at h
    · rw [decide_eq_false hn] at h
      exact ⟨_, h, _, by simp [execOp, ho, go_sem, hx, hy, eqGuard, binOp, Op.intDiv, hn], .int _ _ _ _ (wf_wrap _ _)⟩
  case rem =>
    by_cases hn : n = 0
    · simp [hn] at h
    · rw [decide_eq_false hn] at h
      exact ⟨_, h, _, by simp [execOp, ho, go_sem, hx, hy, eqGuard, binOp, Op.intDiv, hn], .int _ _ _ _ (wf_tmod hm hn)⟩
  case eql => exact ⟨_, h, _, by simp [execOp, ho, go_sem, hx, hy, eqGuard, binOp, Op.intCmp], .bool _ _ _⟩
  case neq => exact ⟨_, h, _, by simp [execOp, ho, go_sem, hx, hy, eqGuard, binOp, Op.intCmp], .bool _ _ _⟩
  case lss => exact ⟨_, h, _, by simp [execOp, ho, go_sem, hx, hy, eqGuard, binOp, Op.intCmp], .bool _ _ _⟩
  case leq => exact ⟨_, h, _, by simp [execOp, ho, go_sem, hx, hy, eqGuard, binOp, Op.intCmp], .bool _ _ _⟩
  case gtr => exact ⟨_, h, _, by simp [execOp, ho, go_sem, hx, hy, eqGuard, binOp, Op.intCmp], .bool _ _ _⟩
  case geq => exact ⟨_, h, _, by simp [execOp, ho, go_sem, hx, hy, eqGuard, binOp, Op.intCmp], .bool _ _ _⟩

theorem flatten_at {α : Type} {vss : List (List α)} {size : Nat} (h : ∀ vs ∈ vss, vs.length = size) {i j : Nat} {vs : List α} (hi : vss[i]? = some vs) (hj : j < size) : vss.flatten[i * size + j]? = vs[j]? := by
  induction vss generalizing i with
  | nil => simp at hi
  | cons a t ih =>
    have ha := h a (by simp)
    cases i with
    | zero =>
      simp at hi; subst hi
      rw [List.flatten_cons, Nat.zero_mul, Nat.zero_add, List.getElem?_append_left (by omega)]
    | succ i =>
      rw [List.flatten_cons, List.getElem?_append_right (by rw [ha, Nat.succ_mul]; omega), ha, show (i + 1) * size + j - size = i * size + j by rw [Nat.succ_mul]; omega]
      exact ih (fun vs hv => h vs (by simp [hv])) (by simpa using hi)
theorem flatten_len {α : Type} {vss : List (List α)} {size : Nat} (h : ∀ vs ∈ vss, vs.length = size) : vss.flatten.length = vss.length * size := by
  induction vss with
  | nil => simp
  | cons a t ih => rw [List.flatten_cons, List.length_append, ih (fun vs hv => h vs (by simp [hv])), h a (by simp), List.length_cons, Nat.succ_mul]; omega
theorem add_none (b o j : Nat) : (⟨b, o, none⟩ : Addr).add j = ⟨b, o + j, none⟩ := by unfold Addr.add; split <;> simp_all
theorem sub_some {l : List AV} {off n : Nat} {K : List AV → Option ρ} (h : sub l off n K = some r) : off + n ≤ l.length ∧ K ((l.drop off).take n) = some r := by
  unfold sub at h
  by_cases hn : off + n ≤ l.length
  · rw [decide_eq_true hn] at h; exact ⟨hn, h⟩
  · rw [decide_eq_false hn] at h; cases h
theorem run_isAgg {t : TypeId} {b : Bool} (h : aggOf P t = some b) : (isAgg t).run P w = .ok b w := by
  unfold aggOf at h
  cases hu : P.underlying t with
  | none => rw [hu] at h; cases h
  | some d => rw [hu] at h; cases d <;> simp at h <;> subst h <;> simp [isAgg, run_underlying hu]
theorem info_of_agg {t : TypeId} {b : Bool} (h : aggOf P t = some b) : ∃ i, P.info? t = some i ∧ P.cellsOf t = i.size := by
  unfold aggOf Program.underlying at h
  cases hi : P.info? t with
  | none => rw [hi] at h; simp at h
  | some i => exact ⟨i, rfl, by simp [Program.cellsOf, hi]⟩

/-- Cells that are read as a value of a type. -/
theorem read_cells {t : TypeId} {ad : Addr} {cs : List AV} {vs : List Value} (hr : Reps S w hp φ cs vs) (h1 : Ones vs) (hc : ∀ j v, vs[j]? = some v → w.cell? (ad.add j) = some v) (hl : cs.length = P.cellsOf t)
    (h : mkAgg (aggOf P t) cs K = some r) : ∃ v u, K v = some r ∧ (loadVar t ad).run P w = .ok u w ∧ Rep S w hp φ v u := by
  cases hb : aggOf P t with
  | none => rw [hb] at h; simp [mkAgg] at h
  | some b =>
    rw [hb] at h
    obtain ⟨i, hi, hsz⟩ := info_of_agg hb
    have hra := run_isAgg (w := w) hb
    cases b with
    | true =>
      refine ⟨.agg cs, .agg vs.toArray, h, ?_, .agg _ _ _ _ hr h1⟩
      have hlen : vs.length = i.size := by rw [← hr.length, hl, hsz]
      have hl2 := run_loadCells_list (P := P) w ad vs hc
      rw [hlen] at hl2
      simp [loadVar, hra, sizeOf, typeInfo, hi, hl2]
    | false =>
      cases hr with
      | nil => simp [mkAgg] at h
      | cons _ _ a v l vs ha ht =>
        cases l with
        | cons _ _ => simp [mkAgg] at h
        | nil =>
          refine ⟨a, v, h, ?_, ha⟩
          have := hc 0 v rfl
          rw [Addr.add, if_pos rfl] at this
          simp [loadVar, hra, go_sem, this]

theorem load_var {base : Nat} (hs : Sim P base S w hp φ) {t : TypeId} {av : AV} {ex : Value} (hx : Rep S w hp φ av ex) (h : load P hp t K av = some r) : ∃ ad v u, ex = .pointer (some ad) ∧ K v = some r ∧ (loadVar t ad).run P w = .ok u w ∧ Rep S w hp φ v u := by
  have fin : ∀ ad, ex = .pointer (some ad) → (∃ v u, K v = some r ∧ (loadVar t ad).run P w = .ok u w ∧ Rep S w hp φ v u) → ∃ ad v u, ex = .pointer (some ad) ∧ K v = some r ∧ (loadVar t ad).run P w = .ok u w ∧ Rep S w hp φ v u := by
    rintro ad he ⟨v, u, h1, h2, h3⟩
    exact ⟨ad, v, u, he, h1, h2, h3⟩
  cases hav : av <;> rw [hav] at h hx <;> simp only [load] at h <;> first | (cases h; done) | skip
  case ptr id off =>
    obtain ⟨b, hb, hex⟩ := hx.ptr_inv
    rw [nth?_eq] at h
    cases ho' : hp[id]? with
    | none => rw [ho'] at h; cases h
    | some ob =>
      rw [ho'] at h
      cases ob <;> simp only at h <;> first | (cases h; done) | skip
      rename_i E cs
      obtain ⟨hle, h⟩ := sub_some h
      obtain ⟨b', vs, E', h1, h2, h3, h4, h5, h6⟩ := hs.obj id _ ho'
      rw [hb] at h1; cases h1
      refine fin _ hex (read_cells (h4.drop off |>.take _) (fun v hv => h5 v (List.mem_of_mem_drop (List.mem_of_mem_take hv))) ?_ ?_ h)
      · intro j v hj
        rw [add_none]
        have : vs[off + j]? = some v := by
          rw [List.getElem?_take] at hj
          split at hj
          · rwa [List.getElem?_drop] at hj
          · cases hj
        simp [World.cell?, h3, this]
      · rw [List.length_take, List.length_drop]; omega
  case pte id i off =>
    obtain ⟨b, size, els, hb, hob, hex⟩ := hx.pte_inv
    rw [nth?_eq] at h hob
    rw [hob] at h
    simp only at h
    cases hel : nth? els i with
    | none => rw [hel] at h; cases h
    | some el =>
      rw [hel] at h
      simp only at h
      rw [nth?_eq] at hel
      obtain ⟨hle, h⟩ := sub_some h
      obtain ⟨b', vss, ex, E', h1, h2, h3, h4, h5, h6⟩ := hs.obj id _ hob
      rw [hb] at h1; cases h1
      obtain ⟨vs, hv1, hv2, hv3⟩ := h4.get hel
      have hsz : vs.length = size := h5 vs (List.mem_of_getElem? hv1)
      have hv2' := Reps.mono (hp' := hp) (φ' := φ) (SExt.refl S w) hv2 ⟨fun _ _ h => by simp at h, fun _ _ _ h => by simp [nth?] at h, fun _ _ _ _ h => by simp [nth?] at h⟩
      refine fin _ hex (read_cells (hv2'.drop off |>.take _) (fun v hv => hv3 v (List.mem_of_mem_drop (List.mem_of_mem_take hv))) ?_ ?_ h)
      · intro j v hj
        rw [add_none]
        have hj' : vs[off + j]? = some v := by
          rw [List.getElem?_take] at hj
          split at hj
          · rwa [List.getElem?_drop] at hj
          · cases hj
        have hlt := (List.getElem?_eq_some_iff.1 hj').1
        have h0 : vss.flatten[i * size + (off + j)]? = some v := by rw [flatten_at h5 hv1 (by omega), hj']
        have : (vss.flatten ++ ex)[i * size + (off + j)]? = some v := by rw [List.getElem?_append_left (List.getElem?_eq_some_iff.1 h0).1]; exact h0
        simp [World.cell?, h3]
        rw [show i * size + off + j = i * size + (off + j) by omega]
        simpa using this
      · rw [List.length_take, List.length_drop]; omega
  case rptr el off =>
    obtain ⟨vs, b, ob, hr, h1, hl, hex⟩ := hx.rptr_inv
    obtain ⟨hle, h⟩ := sub_some h
    have hr' := Reps.mono (hp' := hp) (φ' := φ) (SExt.refl S w) hr ⟨fun _ _ h => by simp at h, fun _ _ _ h => by simp [nth?] at h, fun _ _ _ _ h => by simp [nth?] at h⟩
    refine fin _ hex (read_cells (hr'.drop off |>.take _) (fun v hv => h1 v (List.mem_of_mem_drop (List.mem_of_mem_take hv))) ?_ ?_ h)
    · intro j v hj
      rw [add_none]
      have hj' : vs[off + j]? = some v := by
        rw [List.getElem?_take] at hj
        split at hj
        · rwa [List.getElem?_drop] at hj
        · cases hj
      have := (hl _ _ hj').2
      rwa [← Nat.add_assoc] at this
    · rw [List.length_take, List.length_drop]; omega

theorem gives_load {base : Nat} (hs : Sim P base S w hp φ) (ht : ∀ x, Rep S w hp φ (ev tm x) (e x)) {t : TypeId} {x : Operand} (ho : o.op = .load t x) (h : load P hp t K (ev tm x) = some r) : ∃ v, K v = some r ∧ Gives P S w hp φ e o v := by
  obtain ⟨ad, v, u, he, h1, h2, h3⟩ := load_var hs (ht x) h
  exact ⟨v, h1, u, by simp only [execOp, ho, Instr.loadAt, Instr.sureAddr, he, Sem.run_bind, Sem.run_pure, Result.andThen_ok, h2], h3⟩
theorem run_sizeOf {t : TypeId} (h : 0 < P.cellsOf t) : (sizeOf t).run P w = .ok (P.cellsOf t) w := by
  unfold Program.cellsOf at h ⊢
  cases hi : P.info? t with
  | none => rw [hi] at h; simp at h
  | some i => simp [sizeOf, typeInfo, hi]
theorem elem_of {t et : TypeId} (h : elemOf P t = some et) : P.underlying t = some (.slice et) := by
  unfold elemOf at h
  cases hu : P.underlying t with
  | none => rw [hu] at h; cases h
  | some d => rw [hu] at h; cases d <;> simp at h; subst h; rfl
theorem field_of {t : TypeId} {f off : Nat} {ft : TypeId} (h : fieldOf P t f = some (off, ft)) : ∃ fs fd, P.underlying t = some (.struct fs) ∧ fs[f]? = some fd ∧ fd.offset = off ∧ fd.type = ft := by
  unfold fieldOf at h
  cases hu : P.underlying t with
  | none => rw [hu] at h; cases h
  | some d =>
    rw [hu] at h
    cases d <;> simp at h
    rename_i fs
    obtain ⟨fd, h1, h2, h3⟩ := h
    exact ⟨fs, fd, rfl, h1, h2, h3⟩

theorem gives_fieldAddr (ht : ∀ x, Rep S w hp φ (ev tm x) (e x)) {t : TypeId} {x : Operand} {f : Nat} (ho : o.op = .fieldAddr t x f) {p : Nat × TypeId} (hf : fieldOf P t f = some p) (hp0 : 0 < P.cellsOf p.2) (h : shiftP K (ev tm x) p.1 = some r) : ∃ v, K v = some r ∧ Gives P S w hp φ e o v := by
  have hx := ht x
  obtain ⟨off, ft⟩ := p
  obtain ⟨fs, fd, hu, hfd, h1, h2⟩ := field_of hf
  subst h1; subst h2
  have hz := run_sizeOf (w := w) hp0
  generalize ev tm x = av at *
  have fin : ∀ b o', e x = .pointer (some ⟨b, o', none⟩) → (execOp e o).run P w = .ok (.value (.pointer (some ⟨b, o' + fd.offset, none⟩))) w := by
    intro b o' he
    have hne : P.cellsOf fd.type ≠ 0 := by simp only at hp0; omega
    simp only [execOp, ho, Instr.fieldAt, Instr.sureAddr, he, fieldPlace, Sem.run_bind, Sem.run_pure, Result.andThen_ok, run_underlying hu, hfd, hz, if_neg hne, add_none]
  generalize hex : e x = ex at hx
  cases hx <;> simp only [shiftP] at h <;> first | (cases h; done) | skip
  case ptr id off b hb => exact ⟨_, h, _, fin _ _ hex, .ptr _ _ id _ b hb⟩
  case pte id i off b size els hb hob => exact ⟨_, h, _, fin _ _ hex, by rw [Nat.add_assoc]; exact .pte _ _ id i _ b size els (by assumption) (by assumption)⟩
  case rptr el off vs b ob hr h1 hl => exact ⟨_, h, _, fin _ _ hex, by rw [Nat.add_assoc]; exact .rptr _ _ el _ vs b ob hr h1 hl⟩

theorem arr_of {t : TypeId} {n : Nat} {et : TypeId} (h : arrOf P t = some (n, et)) : P.underlying t = some (.array n et) := by
  unfold arrOf at h
  cases hu : P.underlying t with
  | none => rw [hu] at h; cases h
  | some d => rw [hu] at h; cases d <;> simp at h; obtain ⟨rfl, rfl⟩ := h; rfl
theorem gives_indexArr (ht : ∀ x, Rep S w hp φ (ev tm x) (e x)) {t : TypeId} {x y : Operand} (ho : o.op = .indexAddr t x y) {k : IntKind} {i : Int} (hy : ev tm y = .int k i) {n : Nat} {et : TypeId} (ha : arrOf P t = some (n, et)) (hz : 0 < P.cellsOf et) (h0 : 0 ≤ i) (hlt : i < n) (h : shiftP K (ev tm x) (i.toNat * P.cellsOf et) = some r) : ∃ v, K v = some r ∧ Gives P S w hp φ e o v := by
  have hx := ht x
  have hi := ht y
  rw [hy] at hi
  have hu := arr_of ha
  have hey : e y = .int k i := by generalize hex : e y = ex at hi; cases hi; rfl
  have hsz := run_sizeOf (w := w) hz
  generalize ev tm x = av at *
  have fin : ∀ b o', e x = .pointer (some ⟨b, o', none⟩) → (execOp e o).run P w = .ok (.value (.pointer (some ⟨b, o' + i.toNat * P.cellsOf et, none⟩))) w := by
    intro b o' he
    simp only [execOp, ho, Instr.indexAt, Instr.sureAddr, he, hey, asIntOf, Sem.run_bind, Sem.run_pure, Result.andThen_ok, run_underlying hu, h0, hlt, and_self, if_true, hsz, add_none]
  generalize hex : e x = ex at hx
  cases hx <;> simp only [shiftP] at h <;> first | (cases h; done) | skip
  case ptr id off b hb => exact ⟨_, h, _, fin _ _ hex, .ptr _ _ id _ b hb⟩
  case pte id j off b size els hb hob => exact ⟨_, h, _, fin _ _ hex, by rw [Nat.add_assoc]; exact .pte _ _ id j _ b size els (by assumption) (by assumption)⟩
  case rptr el off vs b ob hr h1 hl => exact ⟨_, h, _, fin _ _ hex, by rw [Nat.add_assoc]; exact .rptr _ _ el _ vs b ob hr h1 hl⟩

theorem gives_len_fin {x : Operand} {t : TypeId} (ho : o.op = .call { callee := .builtin .len, args := #[x], argTypes := #[t] }) (n : Nat) (hn : n ≤ maxLen) (hr : (Builtin.len_ #[t] o.type #[e x]).run P w = .ok (.int .i64 (n : Int)) w) : Gives P S w hp φ e o (.int .i64 n) := by
  refine ⟨_, ?_, .int _ _ _ _ (wf_len hn)⟩
  simp only [execOp, ho, resolve, invoke, builtin, Sem.run_bind, Sem.run_pure, Result.andThen_ok, List.map_toArray, List.map_cons, List.map_nil, hr]
theorem gives_len_str (ht : ∀ x, Rep S w hp φ (ev tm x) (e x)) {x : Operand} {t : TypeId} (ho : o.op = .call { callee := .builtin .len, args := #[x], argTypes := #[t] }) (hu : P.underlying t = some .string) {s : List UInt8} (h : ev tm x = .str s) : Gives P S w hp φ e o (.int .i64 s.length) := by
  have hx := ht x
  rw [h] at hx
  generalize hex : e x = ex at hx
  cases hx with
  | str _ _ _ hs => exact gives_len_fin ho _ hs (by rw [hex]; simp only [Builtin.len_, run_underlying hu, goInt, Sem.run_bind, Sem.run_pure, Result.andThen_ok, List.getElem?_toArray, List.getElem?_cons_zero]; rfl)
theorem gives_len_slice (ht : ∀ x, Rep S w hp φ (ev tm x) (e x)) {x : Operand} {t et : TypeId} (ho : o.op = .call { callee := .builtin .len, args := #[x], argTypes := #[t] }) (hu : P.underlying t = some (.slice et)) (h : alen (fun n => K (.int .i64 n)) (ev tm x) = some r) : ∃ v, K v = some r ∧ Gives P S w hp φ e o v := by
  have hx := ht x
  generalize ev tm x = av at *
  generalize hex : e x = ex at hx
  have fin : ∀ (a : Option Addr) (n cap : Nat), ex = .slice a n cap → n ≤ maxLen → K (.int .i64 n) = some r → ∃ v, K v = some r ∧ Gives P S w hp φ e o v := fun a n cap he hn hK => by
    subst he
    exact ⟨_, hK, gives_len_fin ho n hn (by rw [hex]; simp [Builtin.len_, run_underlying hu, goInt])⟩
  cases av <;> simp only [alen] at h <;> first | (cases h; done) | skip
  case nils => exact fin _ 0 _ hx.nils_inv (by unfold maxLen; omega) h
  case sl size els =>
    obtain ⟨vss, a, cap, hr, hl, hc, rfl⟩ := hx.sl_inv
    exact fin _ _ _ rfl (by have := hc.1; have := hc.2.1; omega) h
  case row id n =>
    obtain ⟨et', size, els, ho', hn, hs, hcur⟩ := hx.row_inv
    obtain ⟨vss, a, cap, hr, hl, hc, rfl⟩ := hs.sl_inv
    have hlen : (els.take n).length = n := by rw [List.length_take]; omega
    exact fin a _ cap rfl (by have := hc.1; have := hc.2.1; omega) (by rw [hlen]; exact h)
  case own id off n =>
    obtain ⟨b, size, els, cap, ad, hb, hob, hn, had, hc, rfl⟩ := hx.own_inv
    exact fin _ _ _ rfl (by have := hc.1; have := hc.2.1; omega) h
theorem elemAt_some {size n : Nat} {els : List (List AV)} {i : Int} {sz : Nat} (h : elemAt size n els i sz K = some r) : ∃ el, (size = sz ∧ 0 < sz) ∧ 0 ≤ i ∧ i < n ∧ els[i.toNat]? = some el ∧ K (.rptr el 0) = some r := by
  unfold elemAt at h
  split at h
  · rename_i hsz
    simp only [Bool.and_eq_true, decide_eq_true_eq] at hsz
    by_cases hb : (0 ≤ i ∧ i < n)
    · rw [decide_eq_true hb.1, decide_eq_true hb.2] at h
      rw [nth?_eq] at h
      simp only [Bool.and_self, cond_true] at h
      cases he : els[i.toNat]? with
      | none => rw [he] at h; cases h
      | some el => rw [he] at h; exact ⟨el, hsz, hb.1, hb.2, rfl, h⟩
    · have : (decide (0 ≤ i) && decide (i < n)) = false := by
        rw [Bool.eq_false_iff]; intro hh
        simp only [Bool.and_eq_true, decide_eq_true_eq] at hh
        exact hb hh
      rw [this] at h; cases h
  · cases h
theorem gives_indexAddr {base : Nat} (hs : Sim P base S w hp φ) (ht : ∀ x, Rep S w hp φ (ev tm x) (e x)) {t : TypeId} {x y : Operand} (ho : o.op = .indexAddr t x y) {k : IntKind} {i : Int} (hy : ev tm y = .int k i) (h : indexA P hp t (ev tm x) i K = some r) : ∃ v, K v = some r ∧ Gives P S w hp φ e o v := by
  have hx := ht x
  have hi := ht y
  rw [hy] at hi
  unfold indexA at h
  cases het : elemOf P t with
  | none =>
    rw [het] at h
    simp only at h
    split at h
    · rename_i p hp1
      obtain ⟨n, et⟩ := p
      split at h
      · rename_i hz
        by_cases hb : (decide (0 ≤ i) && decide (i < (n : Int))) = true
        · rw [hb] at h
          simp only [Bool.and_eq_true, decide_eq_true_eq] at hb hz
          exact gives_indexArr ht ho hy hp1 hz hb.1 hb.2 h
        · rw [Bool.not_eq_true] at hb; rw [hb] at h; cases h
      · cases h
    · cases h
  | some et =>
  rw [het] at h
  simp only at h
  have hu := elem_of het
  have hey : e y = .int k i := by generalize hex : e y = ex at hi; cases hi; rfl
  have fin : ∀ (b ob len cap : Nat) (v : AV), e x = .slice (some ⟨b, ob, none⟩) len cap → 0 ≤ i → i < len → 0 < P.cellsOf et → K v = some r → Rep S w hp φ v (.pointer (some ⟨b, ob + i.toNat * P.cellsOf et, none⟩)) → ∃ v, K v = some r ∧ Gives P S w hp φ e o v := by
    intro b ob len cap v he h0 hlt hz hK hv
    refine ⟨v, hK, _, ?_, hv⟩
    have hsz := run_sizeOf (w := w) hz
    simp only [execOp, ho, Instr.indexAt, he, hey, asIntOf, Sem.run_bind, Sem.run_pure, Result.andThen_ok, run_underlying hu, h0, hlt, and_self, if_true, hsz, add_none]
  have fin2 : ∀ (a : Option Addr) (cap : Nat) (els : List (List AV)) (vss : List (List Value)) (el : List AV), e x = .slice a els.length cap → Repss S w els vss → Laid S w a (P.cellsOf et) vss → 0 ≤ i → i < els.length → els[i.toNat]? = some el → K (.rptr el 0) = some r → 0 < P.cellsOf et → ∃ v, K v = some r ∧ Gives P S w hp φ e o v := by
    intro a cap els vss el he hr hl h0 hlt hel hK hz
    obtain ⟨vs, hv1, hv2, hv3⟩ := hr.get hel
    · have hlen := hl.1 vs (List.mem_of_getElem? hv1)
      obtain ⟨u, hu0⟩ : ∃ u, vs[0]? = some u := ⟨_, List.getElem?_eq_getElem (by omega)⟩
      obtain ⟨b, ob, ha, _, _⟩ := hl.2 _ _ _ _ hv1 hu0
      subst ha
      refine fin b ob _ _ _ he h0 hlt hz hK (.rptr _ _ el 0 vs b _ hv2 hv3 fun j u hj => ?_)
      obtain ⟨b', o', e1, e2, e3⟩ := hl.2 _ _ _ _ hv1 hj
      cases e1
      exact ⟨e2, e3⟩
  generalize ev tm x = av at *
  cases av <;> simp only at h <;> first | (cases h; done) | skip
  case sl size els =>
    obtain ⟨vss, a, cap, hr, hl, hc, hex⟩ := hx.sl_inv
    obtain ⟨el, ⟨h1, hz⟩, h2, h3, h4, h5⟩ := elemAt_some h
    subst h1
    exact fin2 _ _ _ _ _ hex hr hl h2 h3 h4 h5 hz
  case row id n =>
    obtain ⟨et', size, els, ho', hn, hs', hcur⟩ := hx.row_inv
    obtain ⟨vss, a, cap, hr, hl, hc, hex⟩ := hs'.sl_inv
    rw [ho'] at h
    obtain ⟨el, ⟨h1, hz⟩, h2, h3, h4, h5⟩ := elemAt_some h
    subst h1
    have hlen : (els.take n).length = n := by rw [List.length_take]; omega
    refine fin2 _ _ _ _ el hex hr hl h2 (by omega) ?_ h5 hz
    rw [List.getElem?_take, if_pos (by omega)]; exact h4
  case own id off n =>
    obtain ⟨b, size, els, cap, ad, hb, hob, hn, had, hc, hex⟩ := hx.own_inv
    rw [hob] at h
    simp only at h
    split at h
    · rename_i hsz
      simp only [Bool.and_eq_true, decide_eq_true_eq] at hsz
      obtain ⟨hsz, hz⟩ := hsz
      subst hsz
      by_cases hbd : ((decide (0 ≤ i) && decide (i < n)) && decide (off + n ≤ els.length)) = true
      · rw [hbd] at h
        simp only [Bool.and_eq_true, decide_eq_true_eq] at hbd
        have had' := had (by omega)
        subst had'
        refine fin b _ _ _ _ hex hbd.1.1 hbd.1.2 hz h ?_
        have := Rep.pte (S := S) (w := w) hp φ id (off + i.toNat) 0 b _ els hb hob
        rw [Nat.add_mul, Nat.add_zero] at this
        exact this
      · rw [Bool.not_eq_true] at hbd
        rw [hbd] at h; cases h
    · cases h
end
end Go.Proofs.Ytaocgmkcjemecaa
