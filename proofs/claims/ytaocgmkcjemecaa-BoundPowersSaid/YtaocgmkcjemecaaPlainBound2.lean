/- Plain: more room, other models. Parts of the proofs of the laws of layer 22. Conditions: none. -/
import Derived.Test.YtaocgmkcjemecaaPlainBound
namespace Go.Proofs.Ytaocgmkcjemecaa
set_option linter.unusedVariables false
set_option linter.unusedSimpArgs false

theorem min_mono {a b : Nat} (h : a ≤ b) (c : Nat) : min a c ≤ min b c := by omega
theorem timesN_mono {a b c d : Nat} (h1 : a ≤ c) (h2 : b ≤ d) : timesN a b ≤ timesN c d := min_mono (Nat.mul_le_mul h1 h2) _
theorem timesN_pos {a b : Nat} (h1 : 1 ≤ a) (h2 : 1 ≤ b) : 1 ≤ timesN a b := Nat.le_min.2 ⟨Nat.mul_pos h1 h2, by decide⟩
theorem powN_mono {a b : Nat} (h : a ≤ b) (n : Nat) : powN a n ≤ powN b n := min_mono (Nat.pow_le_pow_left h n) _
theorem powN_pos {a : Nat} (h : 1 ≤ a) (n : Nat) : 1 ≤ powN a n := Nat.le_min.2 ⟨Nat.pow_pos h, by decide⟩
theorem sumN_step (a k : Nat) : sumN a k ≤ sumN a (k + 1) := by
  have := sumN_le a k
  show sumN a k ≤ min (sumN a k + powN a k) cutN
  omega
theorem sumN_mono (a : Nat) {j k : Nat} (h : j ≤ k) : sumN a j ≤ sumN a k := by
  induction k with
  | zero => obtain rfl : j = 0 := by omega
            exact Nat.le_refl _
  | succ k ih =>
    rcases Nat.lt_or_ge j (k + 1) with h1 | h1
    · exact Nat.le_trans (ih (by omega)) (sumN_step a k)
    · obtain rfl : j = k + 1 := by omega
      exact Nat.le_refl _
theorem sumN_pos (a k : Nat) : 1 ≤ sumN a (k + 1) := Nat.le_trans (by show 1 ≤ min (0 + min (a ^ 0) cutN) cutN; rw [Nat.pow_zero]; decide) (sumN_mono a (by omega : 1 ≤ k + 1))

/-- Where there is room, and modulus, and locations. -/
def placeOk (locs mod room : Int) : Prop := 0 ≤ locs ∧ locs ≤ 6 ∧ 2 ≤ mod ∧ mod ≤ 16 ∧ 1 ≤ room ∧ room ≤ 4
theorem buffersN_of {locs mod room : Int} (h : placeOk locs mod room) (model : Int) : buffersN locs mod model room =
    if model = 1 then 1 else if model = 2 then sumN (locs * mod).toNat (room.toNat + 1) else if model = 3 then powN (sumN mod.toNat (room.toNat + 1)) locs.toNat else 0 := by
  obtain ⟨h1, h2, h3, h4, h5, h6⟩ := h
  unfold buffersN
  rw [if_neg (by omega)]
theorem buffersN_room {locs mod room : Int} (h : placeOk locs mod room) (h' : placeOk locs mod (room + 1)) (model : Int) : buffersN locs mod model room ≤ buffersN locs mod model (room + 1) := by
  rw [buffersN_of h, buffersN_of h']
  have hr : room.toNat + 1 ≤ (room + 1).toNat + 1 := by obtain ⟨_, _, _, _, h5, _⟩ := h; omega
  repeat' split
  · exact Nat.le_refl _
  · exact sumN_mono _ hr
  · exact powN_mono (sumN_mono _ hr) _
  · exact Nat.le_refl _
theorem buffersN_pos {locs mod room model : Int} (h : placeOk locs mod room) (h1 : 1 ≤ model ∧ model ≤ 3) : 1 ≤ buffersN locs mod model room := by
  rw [buffersN_of h]
  repeat' split
  · exact Nat.le_refl _
  · exact sumN_pos _ _
  · exact powN_pos (sumN_pos _ _) _
  · omega
theorem buffersN_sc {locs mod room : Int} (h : placeOk locs mod room) : buffersN locs mod 1 room = 1 := by rw [buffersN_of h, if_pos rfl]
theorem buffersN_one {mod room : Int} (h : placeOk 1 mod room) : buffersN 1 mod 2 room = buffersN 1 mod 3 room := by
  rw [buffersN_of h, buffersN_of h, Int.one_mul]
  simp only [Int.reduceEq, if_false, if_true]
  exact (powN_one' (sumN_le _ _)).symm

theorem rightU_head' {u : UnitS} (h : rightU u = true) : 2 ≤ u.mod ∧ u.mod ≤ 16 ∧ u.init.length ≤ 6 ∧ 1 ≤ u.regs.length ∧ u.regs.length ≤ 4 ∧ u.code.length = u.regs.length := by
  simp only [rightU, Bool.and_eq_true, headOk, decide_eq_true_eq] at h
  exact h.1.1
theorem rightU_thread {u : UnitS} (h : rightU u = true) {t : Nat} (ht : t < u.regs.length) : threadOk u t = true := by
  simp only [rightU, Bool.and_eq_true, List.all_eq_true] at h
  exact h.2 t (by simpa using ht)
theorem rightU_row {u : UnitS} (h : rightU u = true) {t : Nat} (h1 : t < u.regs.length) (h2 : t < u.code.length) : 0 ≤ u.regs[t] ∧ u.regs[t] ≤ 6 ∧ 1 ≤ u.code[t].length ∧ u.code[t].length ≤ 1000 := by
  have := rightU_thread h h1
  rw [threadOk_of h1 h2] at this
  simp only [Bool.and_eq_true, decide_eq_true_eq, rowOk] at this
  exact ⟨this.1.1, this.1.2, this.2.1.1.1, this.2.1.1.2⟩

theorem placeOk_of {u : UnitS} (h : rightU u = true) {room : Int} (hr : 1 ≤ room ∧ room ≤ 4) : placeOk u.init.length u.mod room := by
  have := rightU_head' h
  unfold placeOk
  omega
theorem threadN_at {u : UnitS} {t : Nat} (h1 : t < u.regs.length) (h2 : t < u.code.length) (model room : Int) : threadN u t model room = timesN (timesN u.code[t].length (powN u.mod.toNat u.regs[t].toNat)) (buffersN u.init.length u.mod model room) := by
  simp only [threadN, List.getElem?_eq_getElem h1, List.getElem?_eq_getElem h2]

theorem countGo_mono {u : UnitS} {m1 r1 m2 r2 : Int} (h : buffersN u.init.length u.mod m1 r1 ≤ buffersN u.init.length u.mod m2 r2) (hr : rightU u = true) {t : Nat} (ht : t ≤ u.regs.length) : countGo u m1 r1 t ≤ countGo u m2 r2 t := by
  induction t with
  | zero => exact Nat.le_refl _
  | succ t ih =>
    have hc := (rightU_head' hr).2.2.2.2.2
    refine timesN_mono (ih (by omega)) ?_
    rw [threadN_at (by omega) (by omega), threadN_at (by omega) (by omega)]
    exact timesN_mono (Nat.le_refl _) h
theorem countGo_eq {u : UnitS} {m1 r1 m2 r2 : Int} (h : buffersN u.init.length u.mod m1 r1 = buffersN u.init.length u.mod m2 r2) (hr : rightU u = true) : countGo u m1 r1 u.regs.length = countGo u m2 r2 u.regs.length :=
  Nat.le_antisymm (countGo_mono (Nat.le_of_eq h) hr (Nat.le_refl _)) (countGo_mono (Nat.le_of_eq h.symm) hr (Nat.le_refl _))
theorem countGo_pos {u : UnitS} {m r : Int} (hr : rightU u = true) (h : 1 ≤ buffersN u.init.length u.mod m r) {t : Nat} (ht : t ≤ u.regs.length) : 1 ≤ countGo u m r t := by
  have hh := rightU_head' hr
  induction t with
  | zero => exact powN_pos (by omega) _
  | succ t ih =>
    refine timesN_pos (ih (by omega)) ?_
    rw [threadN_at (by omega) (by omega)]
    have := rightU_row hr (t := t) (by omega) (by omega)
    exact timesN_pos (timesN_pos this.2.2.1 (powN_pos (by omega) _)) h

end Go.Proofs.Ytaocgmkcjemecaa
