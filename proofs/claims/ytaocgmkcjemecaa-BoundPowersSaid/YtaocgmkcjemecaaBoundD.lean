/- The program's powers, sums, buffers. Parts of the proofs of the laws of layer 22. Conditions: none. -/
import Derived.Test.YtaocgmkcjemecaaBoundC
import Derived.Test.YtaocgmkcjemecaaQTail
namespace Go.Proofs.Ytaocgmkcjemecaa
open Go.RowKit
set_option linter.unusedVariables false
set_option linter.unusedSimpArgs false

theorem numField : ∀ (x : Int) (w : World), (Instr.field 83 (.agg #[.int .i64 x]) 0).run Try.prog w = .ok (.int .i64 x) w := fun _ _ => by kernel_rfl

set_option maxHeartbeats 1000000 in
theorem bpower_neg (a n : Int) (w : World) (h : a < 0 ∨ n < 0) : Calls Try.prog 24 #[.int .i64 a, .int .i64 n] w (IntIs 0 w) := by
  by_cases h1 : a < 0
  · clear h
    go_enter Try.func24, Try.ntmps24
    go_wp2_with fail
    go_ret
    exact ⟨rfl, Below.refl _ _⟩
  · have h2 : n < 0 := by omega
    clear h
    go_enter Try.func24, Try.ntmps24
    go_wp2_with fail
    go_ret
    exact ⟨rfl, Below.refl _ _⟩

set_option maxRecDepth 100000 in
set_option maxHeartbeats 1000000 in
theorem bpower_any (a n : Nat) (w : World) (ha : a ≤ 9223372036854775807) (hn : n ≤ 9223372036854775807) : Calls Try.prog 24 #[.int .i64 a, .int .i64 n] w (IntIs (powN a n) w) := by
  obtain ⟨A, hA⟩ : ∃ A, min a 1125899906842624 = A := ⟨_, rfl⟩
  have hAc : A ≤ 1125899906842624 := by rw [← hA]; exact Nat.min_le_right _ _
  have HP := Lib.hid (show powN a n = powN A n by rw [← hA]; exact (powN_cut a n).symm)
  have HA := Lib.hid hA
  clear hA
  go_enter Try.func24, Try.ntmps24
  go_wp2_with fail
  refine (bof_any a _ ha).mono ?_
  rintro e w1 ⟨rfl, hb⟩
  rw [HA.out]
  have HB := Lib.hid hb; clear hb
  go_wp2_with fail
  refine (power_any A n _ hAc hn).mono ?_
  rintro e w2 ⟨rfl, hb⟩
  have HB2 := Lib.hid (HB.out.trans (hb.mono HB.out.size)); clear hb
  have hf := numField
  go_wp2_with fail
  go_ret
  exact ⟨by rw [HP.out]; rfl, HB2.out⟩

theorem bof_zero (w : World) : Calls Try.prog 56 #[.int .i64 0] w (NumIs 0 w) := by
  have := bof_any 0 w (by omega)
  rw [Nat.zero_min] at this
  exact this

set_option maxRecDepth 100000 in
set_option maxHeartbeats 2000000 in
theorem bsum_any (a n : Nat) (w : World) (ha : a ≤ 1125899906842624) (hn : n ≤ 1000) : Calls Try.prog 62 #[.int .i64 a, .int .i64 n] w (NumIs (sumN a (n + 1)) w) := by
  have HMA := Lib.hid (Nat.min_eq_left ha)
  go_enter Try.func62, Try.ntmps62
  go_wp2_with fail
  refine (bof_zero _).mono ?_
  rintro e w1 ⟨rfl, hb⟩
  have HB0 := Lib.hid (((Below.refl _ _).alloc (Nat.le_refl _) _).trans (hb.mono (by simp only [World.size_alloc]; omega)))
  have hz := hb.size
  simp only [World.size_alloc] at hz
  have vr := (VarAt.new w #[.int .i64 0] 83 0 _ rfl).later hb
  have VR := Lib.hid vr
  clear hb vr
  go_wp2_with fail
  have hB : Below w.heap.size w (w1.alloc (.cells #[.int .i64 0] 83)) := HB0.out.alloc (by omega) _
  have vs := VarAt.new w1 #[.int .i64 0] 83 0 _ rfl
  have vr := VR.out.later ((Below.refl _ _).alloc (Nat.le_refl _) (.cells #[.int .i64 0] 83))
  go_loopw [10] (fun i wr => ∃ k : Nat, i = .int .i64 k ∧ k ≤ n + 1 ∧ VarAt wr w1.heap.size 0 (.int .i64 (sumN a k)) ∧ VarAt wr w.heap.size 0 (.int .i64 0) ∧ Below w.heap.size w wr) (fun i _ => n + 1 - (intOf i).toNat)
  case atStart => exact ⟨0, rfl, by omega, vs, vr, hB⟩
  case round =>
    obtain ⟨k, rfl, hk, vs, vr, hb⟩ := hrel
    have HB := Lib.hid hb; clear hb
    have VS := Lib.hid vs; have VRR := Lib.hid vr
    have hzz := vs.lt
    have hs : sumN a k ≤ 1125899906842624 := sumN_le a k
    have hp : powN a k ≤ 1125899906842624 := powN_le a k
    have HS := Lib.hid (show min (sumN a k + powN a k) 1125899906842624 = sumN a (k + 1) from rfl)
    by_cases c1 : k < n + 1
    · obtain ⟨cs, fs⟩ := vs
      obtain ⟨cr, fr⟩ := vr
      have e1 := Later.cell cs
      go_wp2_with fail
      refine wp_region_later_tail 6 (by kernel_rfl) (by kernel_rfl) ?_
      simp only [List.take_succ_cons, List.take_zero, List.drop_succ_cons, List.drop_zero]
      repeat (go_big_quiet_step (first
        | (go_at_call 56; exact Calls.later (bof_any a _ (by omega)) (fun _ _ h => by rw [HMA.out] at h; exact h))
        | (go_at_call 55; exact Calls.later (power_any a k _ ha (by omega)) (fun _ _ h => h))
        | (go_at_call 90; exact Calls.later (plus_any (sumN a k) (powN a k) _ hs hp) (fun _ _ h => by rw [HS.out] at h; exact h))))
      refine wpQuiet_nil ?_
      rintro w2 ⟨⟨w3, hb3⟩, rfl⟩
      clear e1 cs fs cr fr
      have vs3 := VS.out.later hb3; have VR3 := Lib.hid (VRR.out.later hb3)
      have VS3 := Lib.hid vs3
      have HB3 := Lib.hid (HB.out.trans (hb3.mono HB.out.size))
      have hz3 := vs3.lt
      obtain ⟨cs, fs⟩ := vs3
      clear hb3
      go_wp2_with fail
      go_roundw
      case rel => exact ⟨k + 1, by go_num, by omega, VS3.out.set _, VR3.out.other (.inl (by show w1.heap.size ≠ _; omega)) _, below_set HB3.out _ (by show _ ≤ w1.heap.size; omega)⟩
      case measure => simp [intOf]; omega
    · have HN := Lib.hid (show sumN a (n + 1) = sumN a k by rw [show k = n + 1 by omega])
      obtain ⟨cs, fs⟩ := vs
      obtain ⟨cr, fr⟩ := vr
      go_wp2_with fail
      exact bodyPost_ret (v := .agg #[.int .i64 (sumN a k)]) (by simp [results, Try.results62, go_sem, (VRR.out.set (.int .i64 (sumN a k))).1]) rfl ⟨by rw [HN.out], below_set HB.out _ (by show _ ≤ w.heap.size; omega)⟩

end Go.Proofs.Ytaocgmkcjemecaa
