/- The program's buffers, threads. Parts of the proofs of the laws of layer 22. Conditions: none. -/
import Derived.Test.YtaocgmkcjemecaaBoundD
import Derived.Test.YtaocgmkcjemecaaQAlloc
namespace Go.Proofs.Ytaocgmkcjemecaa
open Go.RowKit
set_option linter.unusedVariables false
set_option linter.unusedSimpArgs false

set_option maxRecDepth 100000 in
set_option maxHeartbeats 2000000 in
theorem bbuffers_any (locs mod model room : Int) (w : World) : Calls Try.prog 26 #[.int .i64 locs, .int .i64 mod, .int .i64 model, .int .i64 room] w (IntIs (buffersN locs mod model room) w) := by
  have hf := numField
  by_cases hp : locs < 0 ∨ 6 < locs ∨ mod < 2 ∨ 16 < mod ∨ room < 1 ∨ 4 < room
  · have HN := Lib.hid (show buffersN locs mod model room = 0 by unfold buffersN; rw [if_pos hp])
    have HH : Hid (0 ≤ locs → locs ≤ 6 → 2 ≤ mod → mod ≤ 16 → 1 ≤ room → room ≤ 4 → False) := fun _ _ _ _ _ _ => by omega
    rw [HN.out]
    clear hp
    go_enter Try.func26, Try.ntmps26
    go_wp2_with fail
    all_goals
      first
      | (go_ret; exact ⟨rfl, Below.refl _ _⟩)
      | (exfalso; exact HH.out (by omega) (by omega) (by omega) (by omega) (by omega) (by omega))
  · have HP : Hid (placeOk locs mod room) := by unfold placeOk; exact (by omega : 0 ≤ locs ∧ locs ≤ 6 ∧ 2 ≤ mod ∧ mod ≤ 16 ∧ 1 ≤ room ∧ room ≤ 4)
    obtain ⟨h1, h2, h3, h4, h5, h6⟩ := HP.out
    have HN := Lib.hid (buffersN_of HP.out model)
    rw [HN.out]
    obtain ⟨l, rfl⟩ := Int.eq_ofNat_of_zero_le h1
    obtain ⟨m, rfl⟩ := Int.eq_ofNat_of_zero_le (show 0 ≤ mod by omega)
    obtain ⟨r, rfl⟩ := Int.eq_ofNat_of_zero_le (show 0 ≤ room by omega)
    have g1 : l ≤ 6 := by omega
    have g2 : m ≤ 16 := by omega
    have g3 : r ≤ 4 := by omega
    have e1 : ((l : Int) * (m : Int)).toNat = l * m := by rw [← Int.natCast_mul]; rfl
    have e2 : ((r : Int)).toNat = r := rfl
    have e3 : ((m : Int)).toNat = m := rfl
    have e4 : ((l : Int)).toNat = l := rfl
    rw [e1, e2, e3, e4]
    have q0 : l * m ≤ 96 := Nat.mul_le_mul g1 g2
    have q1 : (l : Int) * (m : Int) ≤ 96 := by rw [← Int.natCast_mul]; exact Int.ofNat_le.2 q0
    have q2 : 0 ≤ (l : Int) * (m : Int) := by rw [← Int.natCast_mul]; exact Int.natCast_nonneg _
    have HM := Lib.hid (Int.natCast_mul l m)
    have HQ := Lib.hid q0
    have HS := Lib.hid (sumN_le m (r + 1))
    clear hp HN e1 e2 e3 e4 q0
    by_cases c1 : model = 1
    · subst c1
      go_enter Try.func26, Try.ntmps26
      go_wp2_with fail
      go_ret
      exact ⟨rfl, Below.refl _ _⟩
    · by_cases c2 : model = 2
      · subst c2
        go_enter Try.func26, Try.ntmps26
        go_wp2_with fail
        rw [← HM.out]
        refine (bsum_any (l * m) r _ (by have := HQ.out; omega) (by omega)).mono ?_
        rintro e w1 ⟨rfl, hb⟩
        have HB := Lib.hid hb; clear hb
        go_wp2_with fail
        go_ret
        exact ⟨rfl, HB.out⟩
      · by_cases c3 : model = 3
        · subst c3
          go_enter Try.func26, Try.ntmps26
          go_wp2_with fail
          refine (bsum_any m r _ (by omega) (by omega)).mono ?_
          rintro e w1 ⟨rfl, hb⟩
          have HB := Lib.hid hb; clear hb
          go_wp2_with fail
          refine (power_any (sumN m (r + 1)) l _ HS.out (by omega)).mono ?_
          rintro e w2 ⟨rfl, hb⟩
          have HB2 := Lib.hid (HB.out.trans (hb.mono HB.out.size)); clear hb
          go_wp2_with fail
          go_ret
          exact ⟨rfl, HB2.out⟩
        · have d1 : (model == 1) = false := ib_no c1
          have d2 : (model == 2) = false := ib_no c2
          have d3 : (model == 3) = false := ib_no c3
          rw [if_neg c1, if_neg c2, if_neg c3]
          clear c1 c2 c3
          go_enter Try.func26, Try.ntmps26
          go_wp2_with fail
          go_ret
          exact ⟨rfl, Below.refl _ _⟩

theorem bof_small (n : Nat) (w : World) (hn : n ≤ 1125899906842624) : Calls Try.prog 56 #[.int .i64 n] w (NumIs n w) := by
  have := bof_any n w (by omega)
  rw [Nat.min_eq_left hn] at this
  exact this

/-- A thread that there is not has no states. -/
def noThread (u : UnitS) (t : Int) : Prop := t < 0 ∨ (u.regs.length : Int) ≤ t ∨ (u.code.length : Int) ≤ t

set_option maxRecDepth 100000 in
set_option maxHeartbeats 4000000 in
theorem bthread_none (u : UnitS) (v : Value) (t model room : Int) (w : World) (hv : UnitV w v u) (hno : noThread u t) :
    Calls Try.prog 22 #[v, .int .i64 t, .int .i64 model, .int .i64 room] w (IntIs 0 w) := by
  obtain ⟨vi, vr, vc, rfl, s1, s2, s3, m1, m2⟩ := hv
  have l1 := s1.len; have l2 := s2.len; have l3 := s3.len
  obtain ⟨a1, c1, rfl, h1⟩ := ints_view s1
  obtain ⟨a2, c2, rfl, h2⟩ := ints_view s2
  obtain ⟨a3, c3, rfl, h3⟩ := slices_view s3
  clear s1 s2 s3 h1 h2 h3
  obtain ⟨mod, init, regs, code⟩ := u
  dsimp only [noThread] at *
  generalize init.length = n1 at *
  generalize regs.length = n2 at *
  generalize code.length = n3 at *
  have HH : Hid (0 ≤ t → t < n2 → t < n3 → False) := fun _ _ _ => by omega
  clear hno
  go_enter Try.func22, Try.ntmps22
  go_wp2_with fail
  all_goals
    first
    | (go_ret; exact ⟨rfl, (Below.refl _ _).alloc (Nat.le_refl _) _⟩)
    | (exfalso; exact HH.out (by omega) (by omega) (by omega))

set_option maxRecDepth 100000 in
set_option maxHeartbeats 4000000 in
theorem bthread_any (u : UnitS) (v : Value) (t : Nat) (model room : Int) (w : World) (hv : UnitV w v u) (hr : rightU u = true) (ht : t < u.regs.length) :
    Calls Try.prog 22 #[v, .int .i64 t, .int .i64 model, .int .i64 room] w (IntIs (threadN u t model room) w) := by
  have hh := rightU_head' hr
  have htc : t < u.code.length := by omega
  have hrow := rightU_row hr ht htc
  have HT := Lib.hid (threadN_at ht htc model room)
  obtain ⟨res, hres⟩ : ∃ r, threadN u t model room = r := ⟨_, rfl⟩
  have HR := Lib.hid hres
  rw [hres]
  clear hres hr
  obtain ⟨vi, vr, vc, rfl, s1, s2, s3, m1, m2⟩ := hv
  have l1 := s1.len; have l2 := s2.len; have l3 := s3.len
  obtain ⟨a1, c1, rfl, h1⟩ := ints_view s1
  obtain ⟨a2, c2, rfl, h2⟩ := ints_view s2
  obtain ⟨a3, c3, rfl, h3⟩ := slices_view s3
  obtain ⟨mod, init, regs, code⟩ := u
  dsimp only at *
  obtain ⟨b2, o2, rfl, x2, bd1, bd2⟩ := h2 t ht
  clear bd1 bd2
  obtain ⟨b3, o3, vr, rfl, x3, sr⟩ := h3 t htc
  obtain ⟨x, hx⟩ : ∃ x, regs[t] = x := ⟨_, rfl⟩
  obtain ⟨row, hrw⟩ : ∃ r, code[t] = r := ⟨_, rfl⟩
  rw [hx] at x2 hrow HT
  rw [hrw] at sr hrow HT
  obtain ⟨ar, cr, rfl, hrr⟩ := instrs_view sr
  obtain ⟨q1, q2, q3, q4⟩ := hrow
  obtain ⟨xn, rfl⟩ := Int.eq_ofNat_of_zero_le q1
  obtain ⟨M, rfl⟩ := Int.eq_ofNat_of_zero_le (show 0 ≤ mod by omega)
  clear h1 h2 h3 s1 s2 s3 sr hx hrw hrr
  generalize init.length = n1 at *
  generalize regs.length = n2 at *
  generalize code.length = n3 at *
  generalize row.length = n4 at *
  obtain ⟨g1, g2, g3, g4, g5, rfl⟩ := hh
  have hf := numField
  go_enter Try.func22, Try.ntmps22
  go_wp2_with fail
  have hBW : Below w.heap.size w (w.alloc (.cells #[.int .i64 (M : Int), .slice a1 n1 c1, .slice (some ⟨b2, o2, none⟩) n3 c2, .slice (some ⟨b3, o3, none⟩) n3 c3] 25)) := (Below.refl _ _).alloc (Nat.le_refl _) _
  have z0 := new_cell w #[.int .i64 (M : Int), .slice a1 n1 c1, .slice (some ⟨b2, o2, none⟩) n3 c2, .slice (some ⟨b3, o3, none⟩) n3 c3] 25 0 _ rfl
  have z1 := new_cell w #[.int .i64 (M : Int), .slice a1 n1 c1, .slice (some ⟨b2, o2, none⟩) n3 c2, .slice (some ⟨b3, o3, none⟩) n3 c3] 25 1 _ rfl
  have z2 := new_cell w #[.int .i64 (M : Int), .slice a1 n1 c1, .slice (some ⟨b2, o2, none⟩) n3 c2, .slice (some ⟨b3, o3, none⟩) n3 c3] 25 2 _ rfl
  have z3 := new_cell w #[.int .i64 (M : Int), .slice a1 n1 c1, .slice (some ⟨b2, o2, none⟩) n3 c2, .slice (some ⟨b3, o3, none⟩) n3 c3] 25 3 _ rfl
  have y2 := cell_later hBW x2
  have y3 := cell_later hBW x3
  have HBW := Lib.hid hBW
  have hWs : w.heap.size < (w.alloc (.cells #[.int .i64 (M : Int), .slice a1 n1 c1, .slice (some ⟨b2, o2, none⟩) n3 c2, .slice (some ⟨b3, o3, none⟩) n3 c3] 25)).heap.size := by simp
  clear hBW x2 x3
  generalize w.alloc (.cells #[.int .i64 (M : Int), .slice a1 n1 c1, .slice (some ⟨b2, o2, none⟩) n3 c2, .slice (some ⟨b3, o3, none⟩) n3 c3] 25) = W at *
  have f0 := Later.cell z0
  have f2 := Later.cell z2
  have f4 := Later.cell y2
  refine wp_region_alloc 9 (.cells #[.int .i64 0] 83) rfl (by kernel_rfl) (by kernel_rfl) (Makes.of rfl rfl (fun _ _ => rfl)) ?_
  simp only [List.take_succ_cons, List.take_zero, List.drop_succ_cons, List.drop_zero]
  repeat (
    refine wpLater_step (fun K hK => ?_)
    go_simp
    first
    | (refine hK _ ?_; clear hK K)
    | (apply Exists.intro
       refine ⟨fun _ => ?_, hK _ ?_⟩
       · first
         | (go_at_call 56; exact (bof_small M _ (by omega)).mono fun _ _ h => h)
         | (go_at_call 55; exact (power_any M xn _ (by omega) (by omega)).mono fun _ _ h => h)
       clear hK K))
  refine wpLater_nil ?_
  intro B hBz w1 hb1 hfr
  have hv1 := VarAt.set hfr.var (.int .i64 (powN M xn))
  have hv0 := hfr.var
  have HV1 := Lib.hid hv1
  have HB1 := Lib.hid (below_set hb1 (.int .i64 (powN M xn)) (p := ⟨B, 0, none⟩) hBz)
  have hzz := hb1.size
  obtain ⟨cB, fB⟩ := hv0
  clear hv1 hb1 hfr f0 f2 f4
  go_upto_region 4 with (fail)
  have z0' := cell_later HB1.out z0
  have z1' := cell_later HB1.out z1
  have z3' := cell_later HB1.out z3
  have y3' := cell_later HB1.out y3
  obtain ⟨cp, fp⟩ := HV1.out
  have hzz2 := HB1.out.size
  clear cB fB z0 z1 z2 z3 y2 y3
  generalize w1.setCell ⟨B, 0, none⟩ (.int .i64 (powN M xn)) = w2 at *
  have f0 := Later.cell z0'
  have f1 := Later.cell z1'
  have f3 := Later.cell z3'
  have f5 := Later.cell y3'
  have f9 := Later.cell cp
  have hp1 := powN_le M xn
  have HP1 := Lib.hid (show powN M xn ≤ 1125899906842624 from hp1)
  have HP2 := Lib.hid (show timesN n4 (powN M xn) ≤ 1125899906842624 from timesN_le _ _)
  have HP3 := Lib.hid (show buffersN n1 M model room ≤ 1125899906842624 from buffersN_le _ _ _ _)
  clear hp1
  refine wp_region_later_tail 20 (by kernel_rfl) (by kernel_rfl) ?_
  simp only [List.take_succ_cons, List.take_zero, List.drop_succ_cons, List.drop_zero]
  repeat (go_big_quiet_step (first
    | (go_at_call_of 56 (Value.int .i64 (n4 : Int)); exact Calls.later (bof_small n4 _ (by omega)) (fun _ _ h => h))
    | (go_at_call_of 57 (Value.agg #[Value.int .i64 (n4 : Int)]); exact Calls.later (times_any n4 (powN M xn) _ (by omega) HP1.out) (fun _ _ h => h))
    | (go_at_call 26; exact Calls.later (bbuffers_any n1 M model room _) (fun _ _ h => h))
    | (go_at_call_of 56 (Value.int .i64 (buffersN n1 M model room : Int)); exact Calls.later (bof_small (buffersN n1 M model room) _ HP3.out) (fun _ _ h => h))
    | (go_at_call_of 57 (Value.agg #[Value.int .i64 (timesN n4 (powN M xn) : Int)]); exact Calls.later (times_any (timesN n4 (powN M xn)) (buffersN n1 M model room) _ HP2.out HP3.out) (fun _ _ h => h))))
  refine wpQuiet_nil ?_
  rintro w3 ⟨⟨w4, hb4⟩, rfl⟩
  have HB4 := Lib.hid (HBW.out.trans ((HB1.out.mono (by omega)).trans (hb4.mono (by omega))))
  clear hb4 f0 f1 f3 f5 f9
  have HN := Lib.hid (show timesN (timesN n4 (powN M xn)) (buffersN n1 M model room) = res from (HR.out.symm.trans HT.out).symm)
  go_wp2_with fail
  go_ret
  exact ⟨by rw [← HN.out]; rfl, HB4.out⟩

end Go.Proofs.Ytaocgmkcjemecaa
