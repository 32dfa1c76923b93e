/- The program's numbers that are cut. Parts of the proofs of the laws of layer 22. Conditions: none. -/
import Derived.Test.YtaocgmkcjemecaaLowE
import Derived.Test.YtaocgmkcjemecaaPlainBound2
namespace Go.Proofs.Ytaocgmkcjemecaa
open Go.RowKit
set_option linter.unusedVariables false
set_option linter.unusedSimpArgs false

def NumIs (m : Nat) (w : World) (e : Ending) (w' : World) : Prop := e = .returned (.agg #[.int .i64 (m : Int)]) ∧ Below w.heap.size w w'
def IntIs (m : Int) (w : World) (e : Ending) (w' : World) : Prop := e = .returned (.int .i64 m) ∧ Below w.heap.size w w'

theorem below_alloc2 {w : World} (o1 o2 : Obj) : Below w.heap.size w ((w.alloc o1).alloc o2) := by
  refine Below.alloc (Below.alloc (Below.refl _ _) (Nat.le_refl _) _) ?_ _
  all_goals simp only [World.size_alloc]
  all_goals omega
theorem below_alloc3 {w : World} (o1 o2 o3 : Obj) : Below w.heap.size w (((w.alloc o1).alloc o2).alloc o3) := by
  refine Below.alloc (Below.alloc (Below.alloc (Below.refl _ _) (Nat.le_refl _) _) ?_ _) ?_ _
  all_goals simp only [World.size_alloc]
  all_goals omega

theorem below_set {w w' : World} {p : Addr} (h : Below w.heap.size w w') (v : Value) (hp : w.heap.size ≤ p.block) : Below w.heap.size w (w'.setCell p v) := h.setCell hp v

theorem div_int {a b n : Nat} : n / a < b ↔ (n : Int) / (a : Int) < (b : Int) := by rw [← Int.natCast_ediv]; exact Int.ofNat_lt.symm
theorem times_cut {a b : Nat} (h0 : a ≠ 0) (h : 1125899906842624 / a < b) : timesN a b = 1125899906842624 := by
  unfold timesN
  have := (Nat.div_lt_iff_lt_mul (by omega)).1 h
  rw [Nat.mul_comm a b]
  exact Nat.min_eq_right (Nat.le_of_lt this)
theorem times_own {a b : Nat} (h0 : a ≠ 0) (h : ¬ 1125899906842624 / a < b) : timesN a b = a * b ∧ a * b ≤ 1125899906842624 := by
  unfold timesN
  have := (Nat.le_div_iff_mul_le (by omega)).1 (Nat.le_of_not_lt h)
  rw [Nat.mul_comm a b]
  exact ⟨Nat.min_eq_left this, this⟩

set_option maxHeartbeats 1000000 in
theorem bof_any (n : Nat) (w : World) (hn : n ≤ 9223372036854775807) : Calls Try.prog 56 #[.int .i64 n] w (NumIs (min n 1125899906842624) w) := by
  by_cases h : n ≤ 1125899906842624
  · have HN := Lib.hid (Nat.min_eq_left h)
    rw [HN.out]
    go_enter Try.func56, Try.ntmps56
    go_wp2
    exact bodyPost_ret (v := .agg #[.int .i64 n]) (by simp [results, Try.results56, go_sem]) rfl ⟨rfl, (Below.refl _ _).alloc (Nat.le_refl _) _⟩
  · have HN := Lib.hid (Nat.min_eq_right (Nat.le_of_not_le h))
    rw [HN.out]
    go_enter Try.func56, Try.ntmps56
    go_wp2
    exact bodyPost_ret (v := .agg #[.int .i64 1125899906842624]) (by simp [results, Try.results56, go_sem]) rfl ⟨rfl, (Below.refl _ _).alloc (Nat.le_refl _) _⟩

set_option maxHeartbeats 1000000 in
theorem plus_any (a b : Nat) (w : World) (ha : a ≤ 1125899906842624) (hb : b ≤ 1125899906842624) : Calls Try.prog 90 #[.agg #[.int .i64 a], .agg #[.int .i64 b]] w (NumIs (min (a + b) 1125899906842624) w) := by
  by_cases h : a + b ≤ 1125899906842624
  · have HN := Lib.hid (Nat.min_eq_left h)
    rw [HN.out]
    go_enter Try.func90, Try.ntmps90
    go_wp2
    exact bodyPost_ret (v := .agg #[.int .i64 ((a + b : Nat) : Int)]) (by simp [results, Try.results90, go_sem]) rfl ⟨rfl, below_alloc3 _ _ _⟩
  · have HN := Lib.hid (Nat.min_eq_right (Nat.le_of_not_le h))
    rw [HN.out]
    go_enter Try.func90, Try.ntmps90
    go_wp2
    exact bodyPost_ret (v := .agg #[.int .i64 1125899906842624]) (by simp [results, Try.results90, go_sem]) rfl ⟨rfl, below_alloc3 _ _ _⟩

set_option maxHeartbeats 1000000 in
theorem times_any (a b : Nat) (w : World) (ha : a ≤ 1125899906842624) (hb : b ≤ 1125899906842624) : Calls Try.prog 57 #[.agg #[.int .i64 a], .agg #[.int .i64 b]] w (NumIs (timesN a b) w) := by
  by_cases h0 : a = 0
  · subst h0
    have HZ := Lib.hid (show timesN 0 b = 0 by simp [timesN])
    rw [HZ.out]
    go_enter Try.func57, Try.ntmps57
    go_wp2_with fail
    go_quiet (fail)
    go_wp2
    exact bodyPost_ret (v := .agg #[.int .i64 0]) (by simp [results, Try.results57, go_sem]) rfl ⟨rfl, below_set (below_drewN (below_alloc3 _ _ _) _) _ (by show _ ≤ _ + 1 + 1; omega)⟩
  · have d0 : ((a : Int) != 0) = true := by simpa using h0
    have h1a : 1 ≤ (a : Int) := by omega
    by_cases h1 : 1125899906842624 / a < b
    · have HZ := Lib.hid (times_cut h0 h1)
      rw [HZ.out]
      have d1 : (1125899906842624 : Int) / (a : Int) < (b : Int) := div_int.1 h1
      clear h0 h1
      go_enter Try.func57, Try.ntmps57
      go_wp2_with fail
      go_quiet (fail)
      go_wp2
      exact bodyPost_ret (v := .agg #[.int .i64 1125899906842624]) (by simp [results, Try.results57, go_sem]) rfl ⟨rfl, below_set (below_drewN (below_alloc3 _ _ _) _) _ (by show _ ≤ _ + 1 + 1; omega)⟩
    · obtain ⟨e1, e2⟩ := times_own h0 h1
      have HZ := Lib.hid e1
      rw [HZ.out]
      have d1 : decide ((1125899906842624 : Int) / (a : Int) < (b : Int)) = false := decide_eq_false fun h => h1 (div_int.2 h)
      have d2 : (a : Int) * (b : Int) ≤ 1125899906842624 := by rw [← Int.natCast_mul]; exact Int.ofNat_le.2 e2
      have d3 : 0 ≤ (a : Int) * (b : Int) := Int.mul_nonneg (by omega) (by omega)
      clear h0 h1 e1 e2
      go_enter Try.func57, Try.ntmps57
      go_wp2_with fail
      go_quiet (fail)
      go_wp2
      exact bodyPost_ret (v := .agg #[.int .i64 ((a * b : Nat) : Int)]) (by simp [results, Try.results57, go_sem]) rfl ⟨rfl, below_set (below_drewN (below_alloc3 _ _ _) _) _ (by show _ ≤ _ + 1 + 1; omega)⟩

end Go.Proofs.Ytaocgmkcjemecaa
