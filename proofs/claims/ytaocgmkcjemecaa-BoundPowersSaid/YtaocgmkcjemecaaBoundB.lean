/- Reference 22's powers, sums, buffers. Parts of the proofs of the laws of layer 22. Conditions: none. -/
import Derived.Test.YtaocgmkcjemecaaBoundA
namespace Go.Proofs.Ytaocgmkcjemecaa
open Go.RowKit
set_option linter.unusedVariables false
set_option linter.unusedSimpArgs false

def IntSame (m : Int) (w : World) (e : Ending) (w' : World) : Prop := e = .returned (.int .i64 m) ∧ w = w'

set_option maxHeartbeats 1000000 in
theorem rtimes_any (a b : Nat) (w : World) (ha : a ≤ 1125899906842624) (hb : b ≤ 1125899906842624) : Calls Try.prog 58 #[.int .i64 a, .int .i64 b] w (IntSame (timesN a b) w) := by
  by_cases h0 : a = 0
  · subst h0
    have HZ := Lib.hid (show timesN 0 b = 0 by simp [timesN])
    rw [HZ.out]
    go_enter Try.func58, Try.ntmps58
    go_wp2
    go_ret
    exact ⟨rfl, rfl⟩
  · have d0 : ((a : Int) == 0) = false := by simpa using h0
    by_cases hb0 : b = 0
    · subst hb0
      have HZ := Lib.hid (show timesN a 0 = 0 by simp [timesN])
      rw [HZ.out]
      clear h0
      go_enter Try.func58, Try.ntmps58
      go_wp2
      go_ret
      exact ⟨rfl, rfl⟩
    · have d2 : ((b : Int) == 0) = false := by simpa using hb0
      have h1b : 1 ≤ (b : Int) := by omega
      by_cases h1 : 1125899906842624 / b < a
      · have HZ := Lib.hid (show timesN a b = 1125899906842624 by rw [show timesN a b = timesN b a by unfold timesN; rw [Nat.mul_comm]]; exact times_cut hb0 h1)
        rw [HZ.out]
        have d1 : (1125899906842624 : Int) / (b : Int) < (a : Int) := div_int.1 h1
        clear h0 hb0 h1
        go_enter Try.func58, Try.ntmps58
        go_wp2
        go_ret
        exact ⟨rfl, rfl⟩
      · obtain ⟨e1, e2⟩ := times_own hb0 h1
        have HZ := Lib.hid (show timesN a b = a * b by rw [show timesN a b = timesN b a by unfold timesN; rw [Nat.mul_comm]]; rw [e1, Nat.mul_comm])
        rw [HZ.out]
        rw [Nat.mul_comm] at e2
        have d1 : ¬ (1125899906842624 : Int) / (b : Int) < (a : Int) := fun h => h1 (div_int.2 h)
        have d2 : (a : Int) * (b : Int) ≤ 1125899906842624 := by rw [← Int.natCast_mul]; exact Int.ofNat_le.2 e2
        have d3 : 0 ≤ (a : Int) * (b : Int) := Int.mul_nonneg (by omega) (by omega)
        clear h0 hb0 h1 e1 e2
        go_enter Try.func58, Try.ntmps58
        go_wp2
        go_ret
        exact ⟨rfl, rfl⟩

set_option maxHeartbeats 1000000 in
theorem rpower_neg (a n : Int) (w : World) (h : a < 0 ∨ n < 0) : Calls Try.prog 25 #[.int .i64 a, .int .i64 n] w (IntSame 0 w) := by
  by_cases h1 : a < 0
  · clear h
    go_enter Try.func25, Try.ntmps25
    go_wp2
    go_ret
    exact ⟨rfl, rfl⟩
  · have h2 : n < 0 := by omega
    clear h
    go_enter Try.func25, Try.ntmps25
    go_wp2
    go_ret
    exact ⟨rfl, rfl⟩

set_option maxHeartbeats 2000000 in
theorem rpower_any (a n : Nat) (w : World) : Calls Try.prog 25 #[.int .i64 a, .int .i64 n] w (IntSame (powN a n) w) := by
  obtain ⟨A, hA⟩ : ∃ A, min a cutN = A := ⟨_, rfl⟩
  have hAc : A ≤ 1125899906842624 := by rw [← hA]; exact Nat.min_le_right _ _
  obtain ⟨r, hr⟩ : ∃ r, powN a n = r := ⟨_, rfl⟩
  have HP : Hid (∀ k, k = n → r = powN A k) := fun k hk => by rw [← hA, ← hr, hk]; exact (powN_cut a n).symm
  have HQ : Hid (60 ≤ n → r = powN A 60) := fun h => by rw [← hA, ← hr, ← powN_many _ h]; exact (powN_cut a n).symm
  rw [hr]
  clear hr
  have HS : Hid (∀ k, timesN (powN A k) A = powN A (k + 1)) := fun k => powN_succ hAc k
  have hcase : (A = a ∧ a ≤ 1125899906842624) ∨ (A = 1125899906842624 ∧ 1125899906842624 < a) := by
    have : cutN = 1125899906842624 := rfl
    omega
  clear hA
  have HA : Hid (A ≤ 1125899906842624) := hAc
  rcases hcase with ⟨rfl, h1⟩ | ⟨rfl, h1⟩
  · clear hAc
    go_enter Try.func25, Try.ntmps25
    go_wp2
    go_loop [5, 6] (fun p i => ∃ k : Nat, i = .int .i64 k ∧ k ≤ n ∧ k ≤ 60 ∧ p = .int .i64 (powN A k)) (fun _ i => n - (intOf i).toNat)
    case atStart => exact ⟨0, rfl, by omega, by omega, rfl⟩
    case round =>
      obtain ⟨k, rfl, hk, hk2, rfl⟩ := hrel
      have hp := powN_le A k
      have hp2 : powN A k ≤ 1125899906842624 := hp
      clear hp
      by_cases c1 : k < n
      · by_cases c2 : k < 60
        · go_wp2_with (first | (go_at_call 58; refine (rtimes_any _ _ _ hp2 HA.out).mono ?_; rintro e w' ⟨rfl, rfl⟩))
          go_round
          case rel => exact ⟨k + 1, by go_num, by omega, by omega, by rw [HS.out]⟩
          case measure => simp [intOf]; omega
        · have HN := Lib.hid (show r = powN A k by rw [HQ.out (by omega), show k = 60 by omega])
          go_wp2
          go_ret
          exact ⟨by rw [HN.out]; rfl, rfl⟩
      · have HN := Lib.hid (HP.out k (by omega))
        go_wp2
        go_ret
        exact ⟨by rw [HN.out]; rfl, rfl⟩
  · clear hAc
    go_enter Try.func25, Try.ntmps25
    go_wp2
    go_loop [5, 6] (fun p i => ∃ k : Nat, i = .int .i64 k ∧ k ≤ n ∧ k ≤ 60 ∧ p = .int .i64 (powN (1125899906842624 : Nat) k)) (fun _ i => n - (intOf i).toNat)
    case atStart => exact ⟨0, rfl, by omega, by omega, rfl⟩
    case round =>
      obtain ⟨k, rfl, hk, hk2, rfl⟩ := hrel
      have hp := powN_le (1125899906842624 : Nat) k
      have hp2 : powN (1125899906842624 : Nat) k ≤ 1125899906842624 := hp
      clear hp
      by_cases c1 : k < n
      · by_cases c2 : k < 60
        · go_wp2_with (first | (go_at_call 58; refine (rtimes_any _ _ _ hp2 HA.out).mono ?_; rintro e w' ⟨rfl, rfl⟩))
          go_round
          case rel => exact ⟨k + 1, by go_num, by omega, by omega, by rw [HS.out]⟩
          case measure => simp [intOf]; omega
        · have HN := Lib.hid (show r = powN (1125899906842624 : Nat) k by rw [HQ.out (by omega), show k = 60 by omega])
          go_wp2
          go_ret
          exact ⟨by rw [HN.out]; rfl, rfl⟩
      · have HN := Lib.hid (HP.out k (by omega))
        go_wp2
        go_ret
        exact ⟨by rw [HN.out]; rfl, rfl⟩

set_option maxHeartbeats 2000000 in
theorem rsum_any (a n : Nat) (w : World) (hn : n ≤ 1000) : Calls Try.prog 63 #[.int .i64 a, .int .i64 n] w (IntSame (sumN a (n + 1)) w) := by
  go_enter Try.func63, Try.ntmps63
  go_wp2
  go_loop [5, 6] (fun s i => ∃ k : Nat, i = .int .i64 k ∧ k ≤ n + 1 ∧ s = .int .i64 (sumN a k)) (fun _ i => n + 1 - (intOf i).toNat)
  case atStart => exact ⟨0, rfl, by omega, rfl⟩
  case round =>
    obtain ⟨k, rfl, hk, rfl⟩ := hrel
    have hs : sumN a k ≤ 1125899906842624 := sumN_le a k
    have hp : powN a k ≤ 1125899906842624 := powN_le a k
    have HS := Lib.hid (show sumN a (k + 1) = min (sumN a k + powN a k) 1125899906842624 from rfl)
    by_cases c1 : k ≤ n
    · go_wp2_with (first | (go_at_call 25; refine (rpower_any _ _ _).mono ?_; rintro e w' ⟨rfl, rfl⟩))
      go_round
      case rel => exact ⟨k + 1, by go_num, by omega, by rw [HS.out]; congr 1; omega⟩
      case measure => simp [intOf]; omega
    · have HN := Lib.hid (show sumN a (n + 1) = sumN a k by rw [show k = n + 1 by omega])
      go_wp2
      go_ret
      exact ⟨by rw [HN.out]; rfl, rfl⟩

set_option maxHeartbeats 2000000 in
theorem rbuffers_any (locs mod model room : Int) (w : World) : Calls Try.prog 27 #[.int .i64 locs, .int .i64 mod, .int .i64 model, .int .i64 room] w (IntSame (buffersN locs mod model room) w) := by
  by_cases hp : locs < 0 ∨ 6 < locs ∨ mod < 2 ∨ 16 < mod ∨ room < 1 ∨ 4 < room
  · have HN := Lib.hid (show buffersN locs mod model room = 0 by unfold buffersN; rw [if_pos hp])
    have HH : Hid (0 ≤ locs → locs ≤ 6 → 2 ≤ mod → mod ≤ 16 → 1 ≤ room → room ≤ 4 → False) := fun _ _ _ _ _ _ => by omega
    rw [HN.out]
    clear hp
    go_enter Try.func27, Try.ntmps27
    go_wp2_with fail
    all_goals
      first
      | (go_ret; exact ⟨rfl, rfl⟩)
      | (exfalso; exact HH.out (by omega) (by omega) (by omega) (by omega) (by omega) (by omega))
  · have HP : Hid (placeOk locs mod room) := by unfold placeOk; exact (by omega : 0 ≤ locs ∧ locs ≤ 6 ∧ 2 ≤ mod ∧ mod ≤ 16 ∧ 1 ≤ room ∧ room ≤ 4)
    obtain ⟨h1, h2, h3, h4, h5, h6⟩ := HP.out
    have HN := Lib.hid (buffersN_of HP.out model)
    rw [HN.out]
    obtain ⟨l, rfl⟩ := Int.eq_ofNat_of_zero_le h1
    obtain ⟨m, rfl⟩ := Int.eq_ofNat_of_zero_le (show 0 ≤ mod by omega)
    obtain ⟨r, rfl⟩ := Int.eq_ofNat_of_zero_le (show 0 ≤ room by omega)
    have g1 : l ≤ 6 := by omega
    have g2 : m ≤ 16 := by omega
    have g3 : r ≤ 4 := by omega
    have e1 : ((l : Int) * (m : Int)).toNat = l * m := by rw [← Int.natCast_mul]; rfl
    have e2 : ((r : Int)).toNat = r := rfl
    have e3 : ((m : Int)).toNat = m := rfl
    have e4 : ((l : Int)).toNat = l := rfl
    rw [e1, e2, e3, e4]
    have q1 : (l : Int) * (m : Int) ≤ 96 := by rw [← Int.natCast_mul]; exact Int.ofNat_le.2 (Nat.mul_le_mul g1 g2)
    have q2 : 0 ≤ (l : Int) * (m : Int) := by rw [← Int.natCast_mul]; exact Int.natCast_nonneg _
    have HM := Lib.hid (Int.natCast_mul l m)
    clear hp HN e1 e2 e3 e4
    by_cases c1 : model = 1
    · subst c1
      go_enter Try.func27, Try.ntmps27
      go_wp2_with fail
      go_ret
      exact ⟨rfl, rfl⟩
    · by_cases c2 : model = 2
      · subst c2
        go_enter Try.func27, Try.ntmps27
        go_wp2_with fail
        rw [← HM.out]
        refine (rsum_any _ _ _ (by omega)).mono ?_
        rintro e w' ⟨rfl, rfl⟩
        go_wp2
        go_ret
        exact ⟨rfl, rfl⟩
      · by_cases c3 : model = 3
        · subst c3
          go_enter Try.func27, Try.ntmps27
          go_wp2_with (first | (go_at_call 63; refine (rsum_any _ _ _ (by omega)).mono ?_; rintro e w' ⟨rfl, rfl⟩) | (go_at_call 25; refine (rpower_any _ _ _).mono ?_; rintro e w' ⟨rfl, rfl⟩))
          go_ret
          exact ⟨rfl, rfl⟩
        · have d1 : (model == 1) = false := ib_no c1
          have d2 : (model == 2) = false := ib_no c2
          have d3 : (model == 3) = false := ib_no c3
          rw [if_neg c1, if_neg c2, if_neg c3]
          clear c1 c2 c3
          go_enter Try.func27, Try.ntmps27
          go_wp2_with fail
          go_ret
          exact ⟨rfl, rfl⟩

end Go.Proofs.Ytaocgmkcjemecaa
