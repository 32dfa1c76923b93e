/- The program's Count. Parts of the proofs of the laws of layer 22. Conditions: none. -/
import Derived.Test.YtaocgmkcjemecaaBoundE
namespace Go.Proofs.Ytaocgmkcjemecaa
open Go.RowKit
set_option linter.unusedVariables false
set_option linter.unusedSimpArgs false

def PairIs (m : Int × Int) (w : World) (e : Ending) (w' : World) : Prop := e = .returned (.tuple #[.int .i64 m.1, .int .i64 m.2]) ∧ Below w.heap.size w w'

/-- A unit's value laid in a variable: what its cells hold. -/
theorem unit_cells {w : World} {u : UnitS} {v : Value} (hv : UnitV w v u) : ∃ a1 c1 a2 c2 a3 c3, v = .agg #[.int .i64 u.mod, .slice a1 u.init.length c1, .slice a2 u.regs.length c2, .slice a3 u.code.length c3] := by
  obtain ⟨vi, vr, vc, rfl, s1, s2, s3, _⟩ := hv
  obtain ⟨a1, c1, rfl, _⟩ := ints_view s1
  obtain ⟨a2, c2, rfl, _⟩ := ints_view s2
  obtain ⟨a3, c3, rfl, _⟩ := slices_view s3
  exact ⟨a1, c1, a2, c2, a3, c3, rfl⟩

theorem countU_form {u : UnitS} {model room : Int} (h : rightU u = false) : countU u model room = (0, 8) := by simp only [countU, h, if_true]
theorem countU_arg {u : UnitS} {model room : Int} (h : rightU u = true) (h2 : model < 1 ∨ 3 < model ∨ room < 1 ∨ 4 < room) : countU u model room = (0, 1) := by
  simp only [countU, h, Bool.true_eq_false, if_false, if_pos h2]
theorem countU_ok {u : UnitS} {model room : Int} (h : rightU u = true) (h2 : ¬ (model < 1 ∨ 3 < model ∨ room < 1 ∨ 4 < room)) : countU u model room = ((countGo u model room u.regs.length : Int), 0) := by
  simp only [countU, h, Bool.true_eq_false, if_false, if_neg h2]

set_option maxRecDepth 100000 in
set_option maxHeartbeats 4000000 in
theorem bcount_any (u : UnitS) (v : Value) (model room : Int) (w : World) (hv : UnitV w v u) :
    Calls Try.prog 19 #[v, .int .i64 model, .int .i64 room] w (PairIs (countU u model room) w) := by
  obtain ⟨a1, c1, a2, c2, a3, c3, rfl⟩ := unit_cells hv
  obtain ⟨_, _, _, he, s1, s2, s3, m1, m2⟩ := hv
  have l1 := s1.len; have l2 := s2.len; have l3 := s3.len
  have HV := Lib.hid (show UnitV w _ u from ⟨_, _, _, he, s1, s2, s3, m1, m2⟩)
  clear he s1 s2 s3
  obtain ⟨n1, hn1⟩ : ∃ n, u.init.length = n := ⟨_, rfl⟩
  obtain ⟨n2, hn2⟩ : ∃ n, u.regs.length = n := ⟨_, rfl⟩
  obtain ⟨n3, hn3⟩ : ∃ n, u.code.length = n := ⟨_, rfl⟩
  obtain ⟨mod, hmod⟩ : ∃ n, u.mod = n := ⟨_, rfl⟩
  rw [hn1, hn2, hn3, hmod] at HV ⊢
  rw [hn1] at l1; rw [hn2] at l2; rw [hn3] at l3; rw [hmod] at m1 m2
  have N1 := Lib.hid hn1; have N2 := Lib.hid hn2; have N3 := Lib.hid hn3; have NM := Lib.hid hmod
  clear hn1 hn2 hn3 hmod
  obtain ⟨r1, r2, hres⟩ : ∃ r1 r2, countU u model room = (r1, r2) := ⟨_, _, rfl⟩
  have HR := Lib.hid hres
  rw [hres]
  clear hres
  have hBW : Below w.heap.size w (w.alloc (.cells #[.int .i64 mod, .slice a1 n1 c1, .slice a2 n2 c2, .slice a3 n3 c3] 25)) := (Below.refl _ _).alloc (Nat.le_refl _) _
  have z0 := new_cell w #[.int .i64 mod, .slice a1 n1 c1, .slice a2 n2 c2, .slice a3 n3 c3] 25 0 _ rfl
  have z1 := new_cell w #[.int .i64 mod, .slice a1 n1 c1, .slice a2 n2 c2, .slice a3 n3 c3] 25 1 _ rfl
  have z2 := new_cell w #[.int .i64 mod, .slice a1 n1 c1, .slice a2 n2 c2, .slice a3 n3 c3] 25 2 _ rfl
  have z3 := new_cell w #[.int .i64 mod, .slice a1 n1 c1, .slice a2 n2 c2, .slice a3 n3 c3] 25 3 _ rfl
  have ZZ : Hid (Below w.heap.size w (w.alloc (.cells #[.int .i64 mod, .slice a1 n1 c1, .slice a2 n2 c2, .slice a3 n3 c3] 25)) ∧ _ ∧ _ ∧ _ ∧ _) := ⟨hBW, z0, z1, z2, z3⟩
  clear hBW z0 z1 z2 z3
  go_enter Try.func19, Try.ntmps19
  go_wp2_with fail
  refine (lowRight_any u _ _ (HV.out.mono ZZ.out.1)).mono ?_
  rintro e w1 ⟨rfl, hb⟩
  obtain ⟨hBW, z0, z1, z2, z3⟩ := ZZ.out
  have y0 := cell_later hb z0; have y1 := cell_later hb z1; have y2 := cell_later hb z2; have y3 := cell_later hb z3
  have HB := Lib.hid (hBW.trans (hb.mono hBW.size))
  have hz : w.heap.size < w1.heap.size := by have := hb.size; simp only [World.size_alloc] at this; omega
  clear hb z0 z1 z2 z3 hBW
  cases hr : rightU u
  · have HN := Lib.hid (countU_form (model := model) (room := room) hr)
    clear hr
    go_wp2_with fail
    go_ret2
    exact ⟨by rw [← HR.out, HN.out]; rfl, HB.out⟩
  · have HRT := Lib.hid hr
    clear hr
    by_cases hbad : model < 1 ∨ 3 < model ∨ room < 1 ∨ 4 < room
    · have HN := Lib.hid (countU_arg HRT.out hbad)
      have HH : Hid (1 ≤ model → model ≤ 3 → 1 ≤ room → room ≤ 4 → False) := fun _ _ _ _ => by omega
      clear hbad
      go_wp2_with fail
      all_goals
        first
        | (go_ret2; exact ⟨by rw [← HR.out, HN.out]; rfl, HB.out⟩)
        | (exfalso; exact HH.out (by omega) (by omega) (by omega) (by omega))
    · have HN := Lib.hid (countU_ok HRT.out hbad)
      have hm1 : 1 ≤ model := by omega
      have hm2 : model ≤ 3 := by omega
      have hr1 : 1 ≤ room := by omega
      have hr2 : room ≤ 4 := by omega
      clear hbad
      have hh := rightU_head' HRT.out
      rw [N1.out, N2.out, N3.out, NM.out] at hh
      obtain ⟨g1, g2, g3, g4, g5, g6⟩ := hh
      have G6 := Lib.hid g6
      clear g6
      have d1 : decide (model < 1) = false := decide_eq_false (by omega)
      have d2 : decide (3 < model) = false := decide_eq_false (by omega)
      have d3 : decide (room < 1) = false := decide_eq_false (by omega)
      have d4 : decide (4 < room) = false := decide_eq_false (by omega)
      obtain ⟨M, rfl⟩ := Int.eq_ofNat_of_zero_le (show 0 ≤ mod by omega)
      have MM : Hid (u.mod.toNat = M) := by rw [NM.out]; rfl
      go_upto_region 5 with (fail)
      have f0 := Later.cell y0
      have f1 := Later.cell y1
      refine wp_region_alloc 7 (.cells #[.int .i64 0] 83) rfl (by kernel_rfl) (by kernel_rfl) (Makes.of rfl rfl (fun _ _ => rfl)) ?_
      simp only [List.take_succ_cons, List.take_zero, List.drop_succ_cons, List.drop_zero]
      repeat (
        refine wpLater_step (fun K hK => ?_)
        go_simp
        first
        | (refine hK _ ?_; clear hK K)
        | (apply Exists.intro
           refine ⟨fun _ => ?_, hK _ ?_⟩
           · first
             | (go_at_call 56; exact (bof_small M _ (by omega)).mono fun _ _ h => h)
             | (go_at_call 55; exact (power_any M n1 _ (by omega) (by omega)).mono fun _ _ h => h)
           clear hK K))
      refine wpLater_nil ?_
      intro B hBz w2 hb1 hfr
      have hv1 := VarAt.set hfr.var (.int .i64 (powN M n1))
      have hv0 := hfr.var
      have HV1 := Lib.hid hv1
      have HB1 := Lib.hid (below_set hb1 (.int .i64 (powN M n1)) (p := ⟨B, 0, none⟩) hBz)
      have hzz := hb1.size
      obtain ⟨cB, fB⟩ := hv0
      have x2 := (HB1.out.cell (p := ⟨w.heap.size, 2, none⟩) (by show w.heap.size < _; omega)).trans y2
      clear hv1 hb1 hfr f0 f1
      go_upto_region 6 with (fail)
      generalize w2.setCell ⟨B, 0, none⟩ (.int .i64 (powN M n1)) = w3 at *
      have hw3 := HB1.out.size
      go_wp2_with fail
      go_loopw [39] (fun i wr => ∃ k : Nat, i = .int .i64 k ∧ k ≤ n2 ∧ VarAt wr B 0 (.int .i64 (countGo u model room k)) ∧ Below w1.heap.size w1 wr) (fun i _ => n2 - (intOf i).toNat)
      case atStart => exact ⟨0, rfl, by omega, by simp only [countGo]; rw [MM.out, N1.out]; exact HV1.out, HB1.out⟩
      case round =>
        obtain ⟨k, rfl, hk, vs, hb⟩ := hrel
        have VS := Lib.hid vs; have HBk := Lib.hid hb
        have hzz := vs.lt
        have hwr := hb.size
        have t0 := cell_later hb y0; have t1 := cell_later hb y1; have t2 := cell_later hb y2; have t3 := cell_later hb y3
        obtain ⟨cs, fs⟩ := vs
        clear hb
        by_cases c1 : k < n2
        · have e0 := Later.cell t0; have e1 := Later.cell t1; have e2 := Later.cell t2; have e3 := Later.cell t3; have e4 := Later.cell cs
          have HP1 := Lib.hid (show countGo u model room k ≤ 1125899906842624 from countGo_le _ _ _ _)
          have HP2 := Lib.hid (show threadN u k model room ≤ 1125899906842624 from threadN_le _ _ _ _)
          go_wp2_with fail
          refine wp_region_later_tail 8 (by kernel_rfl) (by kernel_rfl) ?_
          simp only [List.take_succ_cons, List.take_zero, List.drop_succ_cons, List.drop_zero]
          repeat (go_big_quiet_step (first
            | (go_at_call 22; exact Calls.later (bthread_any u _ k model room _ (((HV.out.mono HB.out).mono HBk.out).mono (Later.below _)) HRT.out (by rw [N2.out]; omega)) (fun _ _ h => h))
            | (go_at_call 56; exact Calls.later (bof_small (threadN u k model room) _ HP2.out) (fun _ _ h => h))
            | (go_at_call 57; exact Calls.later (times_any (countGo u model room k) (threadN u k model room) _ HP1.out HP2.out) (fun _ _ h => h))))
          refine wpQuiet_nil ?_
          rintro w4 ⟨⟨w5, hb5⟩, rfl⟩
          have vs5 := VS.out.later hb5
          have VS5 := Lib.hid vs5
          have HB5 := Lib.hid (HBk.out.trans (hb5.mono hwr))
          have hz5 := vs5.lt
          obtain ⟨cs5, fs5⟩ := vs5
          clear hb5 e0 e1 e2 e3 e4 cs fs t0 t1 t2 t3
          go_wp2_with fail
          go_roundw
          case rel => exact ⟨k + 1, by go_num, by omega, VS5.out.set _, below_set HB5.out _ hBz⟩
          case measure => simp [intOf]; omega
        · have HE := Lib.hid (show ((countGo u model room k : Int), (0 : Int)) = (r1, r2) by rw [← HR.out, HN.out, N2.out, show k = n2 by omega])
          clear t0 t1 t2 t3
          go_wp2_with fail
          go_ret2
          exact ⟨by rw [← HE.out]; rfl, HB.out.trans (HBk.out.mono (by omega))⟩

end Go.Proofs.Ytaocgmkcjemecaa
