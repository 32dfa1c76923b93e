/- ConfTells: in plain words. Parts of the proof of the law. Conditions: none. -/
import Derived.Test.YtaocgmkcjemecaaConfP
namespace Go.Proofs.Ytaocgmkcjemecaa
set_option linter.unusedVariables false
set_option linter.unusedSimpArgs false

def numOk (l : List Int) (mod : Int) (i : Nat) : Bool := match l[i]? with
  | none => false
  | some x => !decide (x < 0) && !decide (mod ≤ x)
def allB (l : List Int) (mod : Int) : Bool := (List.range' 0 l.length).all (numOk l mod)
theorem below_m (n : Nat) (l : List Int) (mod many : Int) (hn : l.length + 2 < n) (hl : l.length < 1000000) : m_conf_below n l mod many = some (allB l mod && ((l.length : Int) == many)) := by
  obtain ⟨n, rfl⟩ : ∃ j, n = j + 1 := ⟨n - 1, by omega⟩
  have : conf_below_L0 n l mod n 0 = some (bif allB l mod then .out () else .ret false) := by
    refine all_loop0 (L := fun k i => conf_below_L0 n l mod k i) l.length _ (fun k i hi => ?_) (fun k => ?_) (by omega)
    · have hlen : (i : Int) < (l.length : Int) := by omega
      simp only [conf_below_L0, bif_decide hlen, idx_get hi, Option.bind_some, wrap_one i (by omega), numOk, List.getElem?_eq_getElem hi]
      cases decide (l[i] < 0) <;> cases decide (mod ≤ l[i]) <;> rfl
    · simp only [conf_below_L0, bif_not (Int.lt_irrefl _)]
  simp only [m_conf_below, this, Option.bind_some]
  cases allB l mod <;> rfl
theorem in_m (n : Nat) (x mod : Int) : m_ref06_in (n + 1) x mod = some (!decide (x < 0) && !decide (mod ≤ x)) := by
  simp only [m_ref06_in]
  by_cases h : 0 ≤ x
  · rw [bif_decide h, decide_eq_false (show ¬ x < 0 by omega)]
    by_cases h2 : x < mod
    · rw [decide_eq_true h2, decide_eq_false (show ¬ mod ≤ x by omega)]; rfl
    · rw [decide_eq_false h2, decide_eq_true (show mod ≤ x by omega)]; rfl
  · rw [bif_not h, decide_eq_true (show x < 0 by omega)]; rfl
theorem all_m (n : Nat) (l : List Int) (mod : Int) (hn : l.length + 3 < n) (hl : l.length < 1000000) : m_ref06_All n l mod = some (allB l mod) := by
  obtain ⟨n, rfl⟩ : ∃ j, n = j + 2 := ⟨n - 2, by omega⟩
  have : ref06_All_L0 (n + 1) l mod (n + 1) 0 = some (bif allB l mod then .out () else .ret false) := by
    refine all_loop0 (L := fun k i => ref06_All_L0 (n + 1) l mod k i) l.length _ (fun k i hi => ?_) (fun k => ?_) (by omega)
    · have hlen : (i : Int) < (l.length : Int) := by omega
      simp only [ref06_All_L0, bif_decide hlen, idx_get hi, Option.bind_some, in_m, wrap_one i (by omega), numOk, List.getElem?_eq_getElem hi]
    · simp only [ref06_All_L0, bif_not (Int.lt_irrefl _)]
  simp only [m_ref06_All, this, Option.bind_some]
  cases allB l mod <;> rfl

/-- Is a thread's state right? -/
def thrOk (u : UnitS) (c : ConfS) (model room : Int) (i : Nat) : Bool := match c.pc[i]?, u.code[i]?, c.regs[i]?, u.regs[i]?, c.buf[i]? with
  | some pc, some code, some r, some m, some b => !decide (pc < 0) && !decide ((code.length : Int) ≤ pc) && (allB r u.mod && ((r.length : Int) == m)) && bufOk b model room u.mod u.init.length
  | _, _, _, _, _ => false
def confOk (u : UnitS) (c : ConfS) (model room : Int) : Bool :=
  (allB c.mem u.mod && c.mem.length == u.init.length) && c.pc.length == u.regs.length && c.regs.length == u.regs.length && c.buf.length == u.regs.length && (List.range' 0 u.regs.length).all (thrOk u c model room)
/-- A configuration whose lists are short. -/
structure LightC (c : ConfS) : Prop where
  pc : c.pc.length ≤ 8
  mem : c.mem.length ≤ 20
  regsN : c.regs.length ≤ 8
  bufN : c.buf.length ≤ 8
  regs : ∀ i (h : i < c.regs.length), c.regs[i].length ≤ 20
  buf : ∀ i (h : i < c.buf.length), c.buf[i].length ≤ 60
theorem rightU_len {u : UnitS} (h : rightU u = true) : u.code.length = u.regs.length ∧ 1 ≤ u.regs.length ∧ u.regs.length ≤ 4 ∧ u.init.length ≤ 6 := by
  simp only [rightU, headOk, Bool.and_eq_true, decide_eq_true_eq] at h
  omega
theorem cright_m (n : Nat) (u : UnitS) (c : ConfS) (model room : Int) (hl : LightC c) (hn : 80 < n) : m_conf_Right n u c model room = some (rightU u && confOk u c model room) := by
  obtain ⟨n, rfl⟩ : ∃ j, n = j + 2 := ⟨n - 2, by omega⟩
  simp only [m_conf_Right, m_lower_Right, Option.bind_some]
  cases hr : rightU u with
  | false => rfl
  | true =>
  obtain ⟨u1, u2, u3, u4⟩ := rightU_len hr
  simp only [cond_true, below_m (n + 1) c.mem u.mod _ (by have := hl.mem; omega) (by have := hl.mem; omega), Option.bind_some, natEq, natNe, confOk, Bool.true_and]
  cases allB c.mem u.mod && c.mem.length == u.init.length with
  | false => rfl
  | true =>
  cases h1 : c.pc.length == u.regs.length with
  | false => rfl
  | true =>
  cases h2 : c.regs.length == u.regs.length with
  | false => rfl
  | true =>
  cases h3 : c.buf.length == u.regs.length with
  | false => rfl
  | true =>
  have h1 := eq_of_beq h1
  have h2 := eq_of_beq h2
  have h3 := eq_of_beq h3
  have hL : conf_Right_L0 (n + 1) u c model room (n + 1) 0 = some (bif (List.range' 0 u.regs.length).all (thrOk u c model room) then .out () else .ret false) := by
    refine all_loop0 (L := fun k i => conf_Right_L0 (n + 1) u c model room k i) u.regs.length _ (fun k i hi => ?_) (fun k => ?_) (by omega)
    · have hlen : (i : Int) < (c.pc.length : Int) := by omega
      have i1 : i < c.pc.length := by omega
      have i2 : i < u.code.length := by omega
      have i3 : i < c.regs.length := by omega
      have i4 : i < c.buf.length := by omega
      have k1 := hl.regs i i3
      have k2 := hl.buf i i4
      simp only [conf_Right_L0, bif_decide hlen, idx_get i1, idx_get i2, idx_get i3, idx_get i4, idx_get hi, Option.bind_some, wrap_one i (by omega), thrOk, List.getElem?_eq_getElem i1, List.getElem?_eq_getElem i2, List.getElem?_eq_getElem i3, List.getElem?_eq_getElem i4, List.getElem?_eq_getElem hi, below_m (n + 1) c.regs[i] u.mod _ (by omega) (by omega), sright_m (n + 1) c.buf[i] model room u.mod _ (by omega) (by omega)]
      cases decide (c.pc[i] < 0) <;> cases decide ((u.code[i].length : Int) ≤ c.pc[i]) <;> cases (allB c.regs[i] u.mod && ((c.regs[i].length : Int) == u.regs[i])) <;> cases bufOk c.buf[i] model room u.mod u.init.length <;> rfl
    · have : ¬ (u.regs.length : Int) < (c.pc.length : Int) := by omega
      simp only [conf_Right_L0, bif_not this]
  simp only [cond_true, Bool.not_true, cond_false, hL, Option.bind_some, Bool.and_true, Bool.true_and]
  cases (List.range' 0 u.regs.length).all (thrOk u c model room) <;> rfl
theorem rright9_m (n : Nat) (u : UnitS) (c : ConfS) (model room : Int) (hl : LightC c) (hn : 80 < n) : m_ref09_Right n u c model room = some (rightU u && confOk u c model room) := by
  obtain ⟨n, rfl⟩ : ∃ j, n = j + 2 := ⟨n - 2, by omega⟩
  simp only [m_ref09_Right, m_ref07_Right, Option.bind_some]
  cases hr : rightU u with
  | false => rfl
  | true =>
  obtain ⟨u1, u2, u3, u4⟩ := rightU_len hr
  simp only [cond_true, natEq, natNe, confOk, Bool.true_and]
  cases h1 : c.pc.length == u.regs.length with
  | false => simp
  | true =>
  cases h2 : c.regs.length == u.regs.length with
  | false => simp
  | true =>
  cases h3 : c.buf.length == u.regs.length with
  | false => simp
  | true =>
  cases h4 : c.mem.length == u.init.length with
  | false => simp
  | true =>
  have h1 := eq_of_beq h1
  have h2 := eq_of_beq h2
  have h3 := eq_of_beq h3
  have hL : ref09_Right_L0 (n + 1) u c model room (n + 1) 0 = some (bif (List.range' 0 u.regs.length).all (thrOk u c model room) then .out () else .ret false) := by
    refine all_loop0 (L := fun k i => ref09_Right_L0 (n + 1) u c model room k i) u.regs.length _ (fun k i hi => ?_) (fun k => ?_) (by omega)
    · have hlen : (i : Int) < (u.regs.length : Int) := by omega
      have i1 : i < c.pc.length := by omega
      have i2 : i < u.code.length := by omega
      have i3 : i < c.regs.length := by omega
      have i4 : i < c.buf.length := by omega
      have k1 := hl.regs i i3
      have k2 := hl.buf i i4
      simp only [ref09_Right_L0, bif_decide hlen, idx_get i1, idx_get i2, idx_get i3, idx_get i4, idx_get hi, Option.bind_some, wrap_one i (by omega), thrOk, List.getElem?_eq_getElem i1, List.getElem?_eq_getElem i2, List.getElem?_eq_getElem i3, List.getElem?_eq_getElem i4, List.getElem?_eq_getElem hi, all_m (n + 1) c.regs[i] u.mod (by omega) (by omega), rright_m (n + 1) c.buf[i] model room u.mod _ (by omega) (by omega), bne]
      cases decide (c.pc[i] < 0) <;> cases decide ((u.code[i].length : Int) ≤ c.pc[i]) <;> cases allB c.regs[i] u.mod <;> cases ((c.regs[i].length : Int) == u.regs[i]) <;> cases bufOk c.buf[i] model room u.mod u.init.length <;> rfl
    · simp only [ref09_Right_L0, bif_not (Int.lt_irrefl _)]
  simp only [cond_true, Bool.not_true, cond_false, hL, Option.bind_some, Bool.and_true, Bool.true_and, all_m (n + 1) c.mem u.mod (by have := hl.mem; omega) (by have := hl.mem; omega)]
  cases allB c.mem u.mod with
  | false => rfl
  | true =>
  cases ha : (List.range' 0 u.regs.length).all (thrOk u c model room) with
  | false => rfl
  | true =>
    have h0 := of_all_range ha (i := 0) (by omega)
    have hb : bufOk [] model room u.mod u.init.length = true := by
      unfold thrOk at h0
      split at h0
      · simp only [Bool.and_eq_true] at h0
        exact bufOk_nil h0.2
      · cases h0
    simp only [cond_true, Bool.and_self]
    rw [rright_m (n + 1) [] model room u.mod _ (by simp; omega) (by simp), hb]
    rfl
theorem quiet_L (n : Nat) (c : ConfS) : ∀ (k : Nat) (i : Int), ref09_Quiet_L0 n c k i = conf_Quiet_L0 n c k i := by
  intro k
  induction k with
  | zero => intro i; rfl
  | succ k ih => intro i; simp only [ref09_Quiet_L0, conf_Quiet_L0, ih]
def quietOk (c : ConfS) : Bool := (List.range' 0 c.buf.length).all fun i => match c.buf[i]? with
  | some b => b.length == 0
  | none => false
theorem quiet_m (n : Nat) (c : ConfS) (hl : LightC c) (hn : 20 < n) : m_conf_Quiet n c = some (quietOk c) := by
  obtain ⟨n, rfl⟩ : ∃ j, n = j + 1 := ⟨n - 1, by omega⟩
  have hb := hl.bufN
  have : conf_Quiet_L0 n c n 0 = some (bif quietOk c then .out () else .ret false) := by
    refine all_loop0 (L := fun k i => conf_Quiet_L0 n c k i) c.buf.length _ (fun k i hi => ?_) (fun k => ?_) (by omega)
    · have hlen : (i : Int) < (c.buf.length : Int) := by omega
      simp only [conf_Quiet_L0, bif_decide hlen, idx_get hi, Option.bind_some, wrap_one i (by omega), List.getElem?_eq_getElem hi]
      by_cases h : c.buf[i].length = 0
      · have : ¬ (0 : Int) < (c.buf[i].length : Int) := by omega
        rw [bif_not this, beq_iff_eq.2 h]; rfl
      · have : (0 : Int) < (c.buf[i].length : Int) := by omega
        rw [bif_decide this, beq_eq_false_iff_ne.2 h]; rfl
    · simp only [conf_Quiet_L0, bif_not (Int.lt_irrefl _)]
  simp only [m_conf_Quiet, this, Option.bind_some]
  cases quietOk c <;> rfl
theorem quiet_ref (n : Nat) (c : ConfS) : m_ref09_Quiet n c = m_conf_Quiet n c := by
  cases n with
  | zero => rfl
  | succ n => simp only [m_ref09_Quiet, m_conf_Quiet, quiet_L]
/-- Is a thread at its end? -/
def endedOk (u : UnitS) (c : ConfS) (t : Int) : Bool := if 0 ≤ t then match u.code[t.toNat]?, c.pc[t.toNat]? with
    | some r, some pc => if 0 ≤ pc then match r[pc.toNat]? with
      | some x => x.op == 22
      | none => false
      else false
    | _, _ => false
  else false
theorem ended_m (n : Nat) (u : UnitS) (c : ConfS) (t : Int) : m_conf_Ended (n + 1) u c t = some (endedOk u c t) := by
  simp only [m_conf_Ended, endedOk]
  by_cases h0 : t < 0
  · rw [bif_decide h0, if_neg (by omega)]
  rw [bif_not h0, if_pos (by omega)]
  by_cases h1 : (u.code.length : Int) ≤ t
  · rw [bif_decide h1, List.getElem?_eq_none (by omega)]
  rw [bif_not h1]
  have g1 : t.toNat < u.code.length := by omega
  by_cases h2 : (c.pc.length : Int) ≤ t
  · rw [bif_decide h2, List.getElem?_eq_getElem g1, List.getElem?_eq_none (by omega)]
  rw [bif_not h2]
  have g2 : t.toNat < c.pc.length := by omega
  simp only [idx_of (show 0 ≤ t by omega), List.getElem?_eq_getElem g1, List.getElem?_eq_getElem g2, Option.bind_some]
  by_cases h3 : 0 ≤ c.pc[t.toNat]
  · rw [bif_decide h3, if_pos h3]
    by_cases h4 : c.pc[t.toNat] < (u.code[t.toNat].length : Int)
    · rw [bif_decide h4, idx_of h3, List.getElem?_eq_getElem (by omega)]; rfl
    · rw [bif_not h4, List.getElem?_eq_none (by omega)]
  · rw [bif_not h3, if_neg h3]
theorem ended_ref (n : Nat) (u : UnitS) (c : ConfS) (t : Int) : m_ref09_Ended (n + 1) u c t = some (endedOk u c t) := by
  simp only [m_ref09_Ended, endedOk]
  by_cases h0 : t < 0
  · rw [bif_decide h0, if_neg (by omega)]
  rw [bif_not h0, if_pos (by omega)]
  by_cases h1 : (u.code.length : Int) ≤ t
  · rw [bif_decide h1, List.getElem?_eq_none (by omega)]
  rw [bif_not h1]
  have g1 : t.toNat < u.code.length := by omega
  by_cases h2 : (c.pc.length : Int) ≤ t
  · rw [bif_decide h2, List.getElem?_eq_getElem g1, List.getElem?_eq_none (by omega)]
  rw [bif_not h2]
  have g2 : t.toNat < c.pc.length := by omega
  simp only [idx_of (show 0 ≤ t by omega), List.getElem?_eq_getElem g1, List.getElem?_eq_getElem g2, Option.bind_some]
  by_cases h3 : c.pc[t.toNat] < 0
  · rw [bif_decide h3, if_neg (by omega)]
  rw [bif_not h3, if_pos (by omega)]
  by_cases h4 : (u.code[t.toNat].length : Int) ≤ c.pc[t.toNat]
  · rw [bif_decide h4, List.getElem?_eq_none (by omega)]
  · rw [bif_not h4, idx_of (by omega), List.getElem?_eq_getElem (by omega)]; rfl
def finalOk (u : UnitS) (c : ConfS) : Bool := (List.range' 0 u.code.length).all (fun i => endedOk u c i) && quietOk c
theorem final_m (n : Nat) (u : UnitS) (c : ConfS) (hl : LightC c) (hu : u.code.length ≤ 8) (hn : 30 < n) : m_conf_Final n u c = some (finalOk u c) := by
  obtain ⟨n, rfl⟩ : ∃ j, n = j + 2 := ⟨n - 2, by omega⟩
  have : conf_Final_L0 (n + 1) u c (n + 1) 0 = some (bif (List.range' 0 u.code.length).all (fun i => endedOk u c i) then .out () else .ret false) := by
    refine all_loop0 (L := fun k i => conf_Final_L0 (n + 1) u c k i) u.code.length _ (fun k i hi => ?_) (fun k => ?_) (by omega)
    · have hlen : (i : Int) < (u.code.length : Int) := by omega
      simp only [conf_Final_L0, bif_decide hlen, ended_m, Option.bind_some, wrap_one i (by omega)]
    · simp only [conf_Final_L0, bif_not (Int.lt_irrefl _)]
  simp only [m_conf_Final, this, Option.bind_some, finalOk, quiet_m (n + 1) c hl (by omega)]
  cases (List.range' 0 u.code.length).all (fun i => endedOk u c i) <;> rfl
theorem final_ref (n : Nat) (u : UnitS) (c : ConfS) (hl : LightC c) (hu : u.code.length ≤ 8) (hn : 30 < n) : m_ref09_Final n u c = some (finalOk u c) := by
  obtain ⟨n, rfl⟩ : ∃ j, n = j + 2 := ⟨n - 2, by omega⟩
  have : ref09_Final_L0 (n + 1) u c (n + 1) 0 = some (bif (List.range' 0 u.code.length).all (fun i => endedOk u c i) then .out () else .ret false) := by
    refine all_loop0 (L := fun k i => ref09_Final_L0 (n + 1) u c k i) u.code.length _ (fun k i hi => ?_) (fun k => ?_) (by omega)
    · have hlen : (i : Int) < (u.code.length : Int) := by omega
      simp only [ref09_Final_L0, bif_decide hlen, ended_ref, Option.bind_some, wrap_one i (by omega)]
    · simp only [ref09_Final_L0, bif_not (Int.lt_irrefl _)]
  simp only [m_ref09_Final, this, Option.bind_some, finalOk, quiet_ref, quiet_m (n + 1) c hl (by omega)]
  cases (List.range' 0 u.code.length).all (fun i => endedOk u c i) <;> rfl
/-- Light: if it is so, the lists are short. -/
theorem light_m (n : Nat) (c : ConfS) (hn : 20 < n) : ∃ b, m_ref09_Light n c = some b ∧ (b = true → LightC c) := by
  obtain ⟨n, rfl⟩ : ∃ j, n = j + 1 := ⟨n - 1, by omega⟩
  simp only [m_ref09_Light]
  by_cases h1 : (8 : Int) < (c.pc.length : Int)
  · exact ⟨false, by rw [bif_decide h1], fun h => by cases h⟩
  by_cases h2 : (8 : Int) < (c.regs.length : Int)
  · exact ⟨false, by rw [bif_not h1, bif_decide h2], fun h => by cases h⟩
  by_cases h3 : (8 : Int) < (c.buf.length : Int)
  · exact ⟨false, by rw [bif_not h1, bif_not h2, bif_decide h3], fun h => by cases h⟩
  by_cases h4 : (20 : Int) < (c.mem.length : Int)
  · exact ⟨false, by rw [bif_not h1, bif_not h2, bif_not h3, bif_decide h4], fun h => by cases h⟩
  rw [bif_not h1, bif_not h2, bif_not h3, bif_not h4]
  have hL0 : ref09_Light_L0 n c n 0 = some (bif (List.range' 0 c.regs.length).all (fun i => match c.regs[i]? with | some r => !decide ((20 : Int) < (r.length : Int)) | none => false) then .out () else .ret false) := by
    refine all_loop0 (L := fun k i => ref09_Light_L0 n c k i) c.regs.length _ (fun k i hi => ?_) (fun k => ?_) (by omega)
    · have hlen : (i : Int) < (c.regs.length : Int) := by omega
      simp only [ref09_Light_L0, bif_decide hlen, idx_get hi, Option.bind_some, wrap_one i (by omega), List.getElem?_eq_getElem hi]
      cases decide ((20 : Int) < (c.regs[i].length : Int)) <;> rfl
    · simp only [ref09_Light_L0, bif_not (Int.lt_irrefl _)]
  have hL1 : ref09_Light_L1 n c n 0 = some (bif (List.range' 0 c.buf.length).all (fun i => match c.buf[i]? with | some r => !decide ((60 : Int) < (r.length : Int)) | none => false) then .out () else .ret false) := by
    refine all_loop0 (L := fun k i => ref09_Light_L1 n c k i) c.buf.length _ (fun k i hi => ?_) (fun k => ?_) (by omega)
    · have hlen : (i : Int) < (c.buf.length : Int) := by omega
      simp only [ref09_Light_L1, bif_decide hlen, idx_get hi, Option.bind_some, wrap_one i (by omega), List.getElem?_eq_getElem hi]
      cases decide ((60 : Int) < (c.buf[i].length : Int)) <;> rfl
    · simp only [ref09_Light_L1, bif_not (Int.lt_irrefl _)]
  rw [hL0, hL1]
  cases ha : (List.range' 0 c.regs.length).all (fun i => match c.regs[i]? with | some r => !decide ((20 : Int) < (r.length : Int)) | none => false) with
  | false => exact ⟨false, rfl, fun h => by cases h⟩
  | true =>
  cases hb : (List.range' 0 c.buf.length).all (fun i => match c.buf[i]? with | some r => !decide ((60 : Int) < (r.length : Int)) | none => false) with
  | false => exact ⟨false, rfl, fun h => by cases h⟩
  | true =>
  refine ⟨true, rfl, fun _ => ⟨by omega, by omega, by omega, by omega, fun i hi => ?_, fun i hi => ?_⟩⟩
  · have := of_all_range ha hi
    rw [List.getElem?_eq_getElem hi] at this
    simp only [Bool.not_eq_true', decide_eq_false_iff_not] at this
    omega
  · have := of_all_range hb hi
    rw [List.getElem?_eq_getElem hi] at this
    simp only [Bool.not_eq_true', decide_eq_false_iff_not] at this
    omega
theorem lightU_code {u : UnitS} (h : lightU u = true) : u.code.length ≤ 8 := by
  simp only [lightU, Bool.and_eq_true, decide_eq_true_eq] at h
  omega
theorem confTells_m (u : UnitS) (c : ConfS) (how : Int × Int × Int) : m_law09_ConfTells 102 u c how = some true := by
  simp only [m_law09_ConfTells, m_ref07_Light, Option.bind_some, m_law09_known]
  cases hu : lightU u with
  | false => rfl
  | true =>
  have hu := lightU_code hu
  obtain ⟨b, hb, hl⟩ := light_m 101 c (by omega)
  simp only [hb, Option.bind_some, cond_true]
  cases b with
  | false => rfl
  | true =>
  have hl := hl rfl
  simp only [cond_true, cright_m 101 u c _ _ hl (by omega), rright9_m 101 u c _ _ hl (by omega), quiet_ref, quiet_m 101 c hl (by omega), final_m 101 u c hl hu (by omega), final_ref 101 u c hl hu (by omega), ended_m, ended_ref, Option.bind_some, beq_self_eq_true]
end Go.Proofs.Ytaocgmkcjemecaa
