/- The law BoundMore: the walk. Conditions: none. -/
import Derived.Test.YtaocgmkcjemecaaBoundL
namespace Go.Proofs.Ytaocgmkcjemecaa
open Go.RowKit
set_option linter.unusedVariables false
set_option linter.unusedSimpArgs false

/-- How many, of a unit that is right, where there is such a model, and such a room. -/
theorem bcount_ok (u : UnitS) (v : Value) (model room : Int) (w : World) (hv : UnitV w v u) (hr : rightU u = true) (hm : 1 ≤ model ∧ model ≤ 3) (hk : 1 ≤ room ∧ room ≤ 4) :
    Calls Try.prog 19 #[v, .int .i64 model, .int .i64 room] w (PairIs ((countGo u model room u.regs.length : Int), 0) w) := by
  rw [← countU_ok hr (by omega)]
  exact bcount_any u v model room w hv

set_option maxRecDepth 100000 in
set_option maxHeartbeats 8000000 in
theorem boundMore_walk (W : World) (v : Value) (u : UnitS) (hv : UnitV W v u) (x : Int) (hx : 0 ≤ x ∧ x ≤ 255) :
    Calls Try.prog 7 #[v, .int .u8 x] W (LawTrue W) := by
  obtain ⟨a1, c1, a2, c2, a3, c3, rfl⟩ := unit_cells hv
  have HV := Lib.hid hv
  clear hv
  obtain ⟨n1, hn1⟩ : ∃ n, u.init.length = n := ⟨_, rfl⟩
  obtain ⟨n2, hn2⟩ : ∃ n, u.regs.length = n := ⟨_, rfl⟩
  obtain ⟨n3, hn3⟩ : ∃ n, u.code.length = n := ⟨_, rfl⟩
  obtain ⟨mod, hmod⟩ : ∃ n, u.mod = n := ⟨_, rfl⟩
  rw [hn1, hn2, hn3, hmod] at HV ⊢
  have N1 := Lib.hid hn1
  clear hn1 hn2 hn3 hmod
  obtain ⟨hx1, hx2⟩ := hx
  have ZZ : Hid (_ ∧ _ ∧ _ ∧ _ ∧ _) := ⟨(Below.refl W.heap.size W).alloc (Nat.le_refl _) (.cells #[.int .i64 mod, .slice a1 n1 c1, .slice a2 n2 c2, .slice a3 n3 c3] 25), new_cell W #[.int .i64 mod, .slice a1 n1 c1, .slice a2 n2 c2, .slice a3 n3 c3] 25 0 _ rfl, new_cell W #[.int .i64 mod, .slice a1 n1 c1, .slice a2 n2 c2, .slice a3 n3 c3] 25 1 _ rfl, new_cell W #[.int .i64 mod, .slice a1 n1 c1, .slice a2 n2 c2, .slice a3 n3 c3] 25 2 _ rfl, new_cell W #[.int .i64 mod, .slice a1 n1 c1, .slice a2 n2 c2, .slice a3 n3 c3] 25 3 _ rfl⟩
  go_enter Try.func7, Try.ntmps7
  go_wp2_with fail
  obtain ⟨hBW, z0, z1, z2, z3⟩ := ZZ.out
  clear ZZ
  generalize W.alloc (.cells #[.int .i64 mod, .slice a1 n1 c1, .slice a2 n2 c2, .slice a3 n3 c3] 25) = w0 at *
  have HV0 := Lib.hid (HV.out.mono hBW)
  have HB0 := Lib.hid hBW
  clear hBW
  refine (light07_any u _ _ HV0.out).mono ?_
  rintro e w1 ⟨rfl, hb⟩
  have k0 := cell_later hb z0; have k1 := cell_later hb z1; have k2 := cell_later hb z2; have k3 := cell_later hb z3
  have HB1 := Lib.hid (HB0.out.trans (hb.mono HB0.out.size))
  have HV1 := Lib.hid (HV0.out.mono hb)
  clear hb z0 z1 z2 z3
  cases hl : lightU u
  · clear hl
    go_wp2_with fail
    refine (known22_any _).mono ?_
    rintro e w2 ⟨rfl, hb⟩
    have HB2 := Lib.hid (HB1.out.trans (hb.mono HB1.out.size))
    clear hb
    go_wp2_with fail
    go_ret
    exact ⟨rfl, HB2.out⟩
  clear hl
  go_wp2_with fail
  refine (right07_any u _ _ HV1.out).mono ?_
  rintro e w2 ⟨rfl, hb⟩
  have y0 := cell_later hb k0; have y1 := cell_later hb k1; have y2 := cell_later hb k2; have y3 := cell_later hb k3
  have HB2 := Lib.hid (HB1.out.trans (hb.mono HB1.out.size))
  have HV2 := Lib.hid (HV1.out.mono hb)
  clear hb k0 k1 k2 k3
  cases hr : rightU u
  · clear hr
    go_wp2_with fail
    refine (known22_any _).mono ?_
    rintro e w3 ⟨rfl, hb⟩
    have HB3 := Lib.hid (HB2.out.trans (hb.mono HB2.out.size))
    clear hb
    go_wp2_with fail
    go_ret
    exact ⟨rfl, HB3.out⟩
  have HR := Lib.hid hr
  clear hr
  obtain ⟨K, hK⟩ : ∃ K, 1 + x % 3 = K := ⟨_, rfl⟩
  have hK1 : 1 ≤ K := by omega
  have hK2 : K ≤ 3 := by omega
  have hx3 : -9223372036854775808 ≤ x := by omega
  have hx4 : x ≤ 9223372036854775807 := by omega
  go_upto_region 4 with (fail)
  clear hK
  go_wp2_with fail
  go_loopw [6] (fun i wr => ∃ m : Nat, i = .int .i64 m ∧ 1 ≤ m ∧ m ≤ 4 ∧ Below w2.heap.size w2 wr) (fun i _ => 4 - (intOf i).toNat)
  case atStart => exact ⟨1, rfl, by omega, by omega, Below.refl _ _⟩
  case round =>
    obtain ⟨m, rfl, hm1, hm2, hb⟩ := hrel
    have HBk := Lib.hid hb
    have t0 := cell_later hb y0; have t1 := cell_later hb y1; have t2 := cell_later hb y2; have t3 := cell_later hb y3
    have hwr := hb.size
    clear hb
    have HVk := Lib.hid (HV2.out.mono HBk.out)
    have hp := placeOk_of HR.out (room := K) (by omega)
    have hp2 := placeOk_of HR.out (room := K + 1) (by omega)
    by_cases c1 : m ≤ 3
    · have q1 := countGo_mono (u := u) (m1 := m) (r1 := K) (m2 := m) (r2 := K + 1) (buffersN_room hp hp2 m) HR.out (Nat.le_refl _)
      have q2 := countGo_mono (u := u) (m1 := 1) (r1 := K) (m2 := m) (r2 := K) (by rw [buffersN_sc hp]; exact buffersN_pos hp (by omega)) HR.out (Nat.le_refl _)
      have q3 := countGo_pos (u := u) (m := 1) (r := K) HR.out (buffersN_pos hp (by omega)) (Nat.le_refl _)
      obtain ⟨A, hA⟩ : ∃ A, countGo u m K u.regs.length = A := ⟨_, rfl⟩
      obtain ⟨B, hB⟩ : ∃ A, countGo u m (K + 1) u.regs.length = A := ⟨_, rfl⟩
      obtain ⟨C, hC⟩ : ∃ A, countGo u 1 K u.regs.length = A := ⟨_, rfl⟩
      rw [hA, hB] at q1
      rw [hC, hA] at q2
      rw [hC] at q3
      have HAA := Lib.hid hA; have HBB := Lib.hid hB; have HCC := Lib.hid hC
      clear hA hB hC hp hp2
      go_wp2_with fail
      refine (bcount_ok u _ m K _ HVk.out HR.out (by omega) (by omega)).mono ?_
      rintro e w3 ⟨rfl, hb⟩
      rw [HAA.out]
      have s0 := cell_later hb t0; have s1 := cell_later hb t1; have s2 := cell_later hb t2; have s3 := cell_later hb t3
      have HB3 := Lib.hid (HBk.out.trans (hb.mono hwr))
      have HV3 := Lib.hid (HVk.out.mono hb)
      clear hb t0 t1 t2 t3
      go_wp2_with fail
      refine (bcount_ok u _ m (K + 1) _ HV3.out HR.out (by omega) (by omega)).mono ?_
      rintro e w4 ⟨rfl, hb⟩
      rw [HBB.out]
      have t0 := cell_later hb s0; have t1 := cell_later hb s1; have t2 := cell_later hb s2; have t3 := cell_later hb s3
      have HB4 := Lib.hid (HB3.out.trans (hb.mono HB3.out.size))
      have HV4 := Lib.hid (HV3.out.mono hb)
      clear hb s0 s1 s2 s3
      go_wp2_with fail
      refine (bcount_ok u _ 1 K _ HV4.out HR.out (by omega) (by omega)).mono ?_
      rintro e w5 ⟨rfl, hb⟩
      rw [HCC.out]
      have HB5 := Lib.hid (HB4.out.trans (hb.mono HB4.out.size))
      clear hb t0 t1 t2 t3
      go_wp2_with fail
      go_roundw
      case rel => exact ⟨m + 1, by go_num, by omega, by omega, HB5.out⟩
      case measure => simp [intOf]; omega
    · clear hp hp2
      by_cases c2 : n1 = 1
      · have hp := placeOk_of HR.out (room := K) (by omega)
        have he : countGo u 2 K u.regs.length = countGo u 3 K u.regs.length := countGo_eq (by rw [N1.out, c2] at hp ⊢; exact buffersN_one hp) HR.out
        obtain ⟨A, hA⟩ : ∃ A, countGo u 3 K u.regs.length = A := ⟨_, rfl⟩
        rw [hA] at he
        have HAA := Lib.hid hA; have HEE := Lib.hid he
        clear hA he hp
        subst c2
        go_wp2_with fail
        refine (bcount_ok u _ 2 K _ HVk.out HR.out (by omega) (by omega)).mono ?_
        rintro e w3 ⟨rfl, hb⟩
        rw [HEE.out]
        have s0 := cell_later hb t0; have s1 := cell_later hb t1; have s2 := cell_later hb t2; have s3 := cell_later hb t3
        have HB3 := Lib.hid (HBk.out.trans (hb.mono hwr))
        have HV3 := Lib.hid (HVk.out.mono hb)
        clear hb t0 t1 t2 t3
        go_wp2_with fail
        refine (bcount_ok u _ 3 K _ HV3.out HR.out (by omega) (by omega)).mono ?_
        rintro e w4 ⟨rfl, hb⟩
        rw [HAA.out]
        have HB4 := Lib.hid (HB3.out.trans (hb.mono HB3.out.size))
        clear hb s0 s1 s2 s3
        go_wp2_with fail
        refine (known22_any _).mono ?_
        rintro e w5 ⟨rfl, hb⟩
        have HB5 := Lib.hid (HB2.out.trans ((HB4.out.trans (hb.mono HB4.out.size)).mono HB2.out.size))
        clear hb
        go_wp2_with fail
        go_ret
        exact ⟨rfl, HB5.out⟩
      · have d1 : ((n1 : Int) == 1) = false := ib_no (by omega)
        clear c2
        go_wp2_with fail
        refine (known22_any _).mono ?_
        rintro e w5 ⟨rfl, hb⟩
        have HB5 := Lib.hid (HB2.out.trans ((HBk.out.trans (hb.mono hwr)).mono HB2.out.size))
        clear hb
        go_wp2_with fail
        go_ret
        exact ⟨rfl, HB5.out⟩

theorem boundMore_frame (W : World) (v : Value) (u : UnitS) (hv : UnitV W v u) (x : Int) (hx : (Lit.int .u8 x).wf = true) : Calls Try.prog 7 #[v, .int .u8 x] W (LawTrue W) :=
  boundMore_walk W v u hv x (bounds_u8 hx)

end Go.Proofs.Ytaocgmkcjemecaa
