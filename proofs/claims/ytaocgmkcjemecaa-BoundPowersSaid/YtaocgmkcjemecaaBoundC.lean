/- The program's powers, sums, buffers. Parts of the proofs of the laws of layer 22. Conditions: none. -/
import Derived.Test.YtaocgmkcjemecaaBoundB
import Derived.Test.YtaocgmkcjemecaaVar
namespace Go.Proofs.Ytaocgmkcjemecaa
open Go.RowKit
set_option linter.unusedVariables false
set_option linter.unusedSimpArgs false

set_option maxRecDepth 100000 in
set_option maxHeartbeats 4000000 in
theorem power_any (a n : Nat) (w : World) (ha : a ≤ 1125899906842624) (hn : n ≤ 9223372036854775807) : Calls Try.prog 55 #[.agg #[.int .i64 a], .int .i64 n] w (NumIs (powN a n) w) := by
  obtain ⟨r, hr⟩ : ∃ r, powN a n = r := ⟨_, rfl⟩
  have HR := Lib.hid hr
  rw [hr]
  clear hr
  go_enter Try.func55, Try.ntmps55
  go_wp2_with fail
  refine (bof_any 1 _ (by omega)).mono ?_
  rintro e w1 ⟨rfl, hb⟩
  have HB0 := Lib.hid ((below_alloc2 (w := w) _ _).trans (hb.mono (by simp only [World.size_alloc]; omega)))
  have hz := hb.size
  simp only [World.size_alloc] at hz
  have va := ((VarAt.new w #[.int .i64 a] 83 0 _ rfl).later ((Below.refl _ _).alloc (Nat.le_refl _) (.cells #[.int .i64 0] 83))).later hb
  have vr := (VarAt.new (w.alloc (.cells #[.int .i64 a] 83)) #[.int .i64 0] 83 0 _ rfl).later hb
  simp only [World.size_alloc] at vr
  have VA := Lib.hid va; have VR := Lib.hid vr
  clear hb va vr
  go_wp2_with fail
  have hB : Below w.heap.size w (w1.alloc (.cells #[.int .i64 ((min 1 1125899906842624 : Nat) : Int)] 83)) := HB0.out.alloc (by omega) _
  have vp := VarAt.new w1 #[.int .i64 ((min 1 1125899906842624 : Nat) : Int)] 83 0 _ rfl
  have va := VA.out.later ((Below.refl _ _).alloc (Nat.le_refl _) (.cells #[.int .i64 ((min 1 1125899906842624 : Nat) : Int)] 83))
  have vr := VR.out.later ((Below.refl _ _).alloc (Nat.le_refl _) (.cells #[.int .i64 ((min 1 1125899906842624 : Nat) : Int)] 83))
  go_loopw [1] (fun nv wr => ∃ m p A : Nat, nv = .int .i64 m ∧ p ≤ 1125899906842624 ∧ A ≤ 1125899906842624 ∧ m ≤ n ∧ timesN p (powN A m) = r ∧ VarAt wr w.heap.size 0 (.int .i64 A) ∧ VarAt wr w1.heap.size 0 (.int .i64 p) ∧ VarAt wr (w.heap.size + 1) 0 (.int .i64 0) ∧ Below w.heap.size w wr) (fun nv _ => (intOf nv).toNat)
  case atStart => exact ⟨n, 1, a, rfl, by omega, ha, by omega, by rw [← HR.out]; exact (show min (1 * powN a n) cutN = powN a n by rw [Nat.one_mul]; exact Nat.min_eq_left (powN_le a n)), va, vp, vr, hB⟩
  case round =>
    obtain ⟨m, p, A, rfl, hp, hA, hm, hrel, va, vp, vr, hb⟩ := hrel
    have HL := Lib.hid hrel; have HB := Lib.hid hb
    have hzz := vp.lt
    have VA := Lib.hid va; have VP := Lib.hid vp; have VR := Lib.hid vr
    obtain ⟨ca, fa⟩ := va
    obtain ⟨cp, fp⟩ := vp
    obtain ⟨cr, fr⟩ := vr
    clear hrel hb
    by_cases h0 : 0 < m
    · by_cases hodd : m % 2 = 1
      · have d1 : ((m : Int) % 2 == 1) = true := ib_yes (by omega)
        go_wp2_with fail
        refine (times_any p A _ hp hA).mono ?_
        rintro e w2 ⟨rfl, hb⟩
        have VA2 := VA.out.later hb; have VP2 := VP.out.later hb; have VR2 := VR.out.later hb
        obtain ⟨cp2, fp2⟩ := VP2
        have HB2 := Lib.hid (HB.out.trans (hb.mono HB.out.size))
        clear hb
        go_upto_region 6 with (fail)
        have va3 := VA2.other (p := ⟨w1.heap.size, 0, none⟩) (.inl (by show w1.heap.size ≠ _; omega)) (.int .i64 (timesN p A))
        have vp3 := VarAt.set ⟨cp2, fp2⟩ (.int .i64 (timesN p A))
        have vr3 := VR2.other (p := ⟨w1.heap.size, 0, none⟩) (.inl (by show w1.heap.size ≠ _; omega)) (.int .i64 (timesN p A))
        have hb3 : Below w.heap.size w (w2.setCell ⟨w1.heap.size, 0, none⟩ (.int .i64 (timesN p A))) := below_set HB2.out _ (by show _ ≤ w1.heap.size; omega)
        clear VA2 VR2 cp2 fp2 ca fa cp fp cr fr
        generalize w2.setCell ⟨w1.heap.size, 0, none⟩ (.int .i64 (timesN p A)) = w3 at *
        have VA3 := Lib.hid va3; have VP3 := Lib.hid vp3; have VR3 := Lib.hid vr3; have HB3 := Lib.hid hb3
        have hz3 := va3.lt
        obtain ⟨ca, fa⟩ := va3
        clear vp3 vr3 hb3
        go_wp2_with fail
        refine (times_any A A _ hA hA).mono ?_
        rintro e w4 ⟨rfl, hb⟩
        have va4 := VA3.out.later hb; have VP4 := Lib.hid (VP3.out.later hb); have VR4 := Lib.hid (VR3.out.later hb)
        have VA4 := Lib.hid va4
        obtain ⟨ca4, fa4⟩ := va4
        have HB4 := Lib.hid (HB3.out.trans (hb.mono HB3.out.size))
        clear hb ca fa
        go_wp2_with fail
        go_roundw
        case rel => exact ⟨m / 2, timesN p A, timesN A A, by go_num, timesN_le _ _, timesN_le _ _, by omega, by rw [pow_sq]; exact pow_odd hodd HL.out, VA4.out.set _, VP4.out.other (.inl (by show w.heap.size ≠ _; omega)) _, VR4.out.other (.inl (by show w.heap.size ≠ _; omega)) _, below_set HB4.out _ (Nat.le_refl _)⟩
        case measure => simp [intOf]; omega
      · have d1 : ((m : Int) % 2 == 1) = false := ib_no (by omega)
        have hodd : m % 2 = 0 := by omega
        clear ca fa cp fp cr fr
        have va3 := VA.out; have vp3 := VP.out; have vr3 := VR.out; have hb3 := HB.out
        have VA3 := Lib.hid va3; have VP3 := Lib.hid vp3; have VR3 := Lib.hid vr3; have HB3 := Lib.hid hb3
        have hz3 := va3.lt
        obtain ⟨ca, fa⟩ := va3
        clear vp3 vr3 hb3
        go_wp2_with fail
        refine (times_any A A _ hA hA).mono ?_
        rintro e w4 ⟨rfl, hb⟩
        have va4 := VA3.out.later hb; have VP4 := Lib.hid (VP3.out.later hb); have VR4 := Lib.hid (VR3.out.later hb)
        have VA4 := Lib.hid va4
        obtain ⟨ca4, fa4⟩ := va4
        have HB4 := Lib.hid (HB3.out.trans (hb.mono HB3.out.size))
        clear hb ca fa
        go_wp2_with fail
        go_roundw
        case rel => exact ⟨m / 2, p, timesN A A, by go_num, hp, timesN_le _ _, by omega, by rw [pow_sq]; exact pow_even (by omega) HL.out, VA4.out.set _, VP4.out.other (.inl (by show w.heap.size ≠ _; omega)) _, VR4.out.other (.inl (by show w.heap.size ≠ _; omega)) _, below_set HB4.out _ (Nat.le_refl _)⟩
        case measure => simp [intOf]; omega
    · have HN := Lib.hid (show p = r by
        rw [← HL.out, show m = 0 by omega, powN_zero]
        exact (show p = min (p * 1) cutN by rw [Nat.mul_one]; exact (Nat.min_eq_left hp).symm))
      go_wp2_with fail
      exact bodyPost_ret (v := .agg #[.int .i64 p]) (by simp [results, Try.results55, go_sem, (VR.out.set (.int .i64 p)).1]) rfl ⟨by rw [HN.out], below_set HB.out _ (by show _ ≤ w.heap.size + 1; omega)⟩

end Go.Proofs.Ytaocgmkcjemecaa
