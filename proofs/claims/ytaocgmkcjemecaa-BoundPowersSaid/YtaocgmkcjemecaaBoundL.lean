/- The laws BoundCounts, BoundPowers: the walks. Conditions: none. -/
import Derived.Test.YtaocgmkcjemecaaBoundK
namespace Go.Proofs.Ytaocgmkcjemecaa
open Go.RowKit
set_option linter.unusedVariables false
set_option linter.unusedSimpArgs false

def LawTrue (w : World) (e : Ending) (w' : World) : Prop := e = .returned (.bool true) ∧ Below w.heap.size w w'

def powI (a n : Int) : Int := if a < 0 ∨ n < 0 then 0 else (powN a.toNat n.toNat : Nat)
theorem bpowerI (a n : Int) (w : World) (ha : a ≤ 9223372036854775807) (hn : n ≤ 9223372036854775807) : Calls Try.prog 24 #[.int .i64 a, .int .i64 n] w (IntIs (powI a n) w) := by
  unfold powI
  by_cases h : a < 0 ∨ n < 0
  · rw [if_pos h]; exact bpower_neg a n w h
  · rw [if_neg h]
    obtain ⟨a', rfl⟩ := Int.eq_ofNat_of_zero_le (show 0 ≤ a by omega)
    obtain ⟨n', rfl⟩ := Int.eq_ofNat_of_zero_le (show 0 ≤ n by omega)
    exact bpower_any a' n' w (by omega) (by omega)
theorem rpowerI (a n : Int) (w : World) : Calls Try.prog 25 #[.int .i64 a, .int .i64 n] w (IntIs (powI a n) w) := by
  unfold powI
  by_cases h : a < 0 ∨ n < 0
  · rw [if_pos h]; exact (rpower_neg a n w h).mono fun _ _ h => h.below
  · rw [if_neg h]
    obtain ⟨a', rfl⟩ := Int.eq_ofNat_of_zero_le (show 0 ≤ a by omega)
    obtain ⟨n', rfl⟩ := Int.eq_ofNat_of_zero_le (show 0 ≤ n by omega)
    exact (rpower_any a' n' w).mono fun _ _ h => h.below

set_option maxRecDepth 100000 in
set_option maxHeartbeats 4000000 in
theorem boundPowers_walk (W : World) (x0 x1 x2 x3 : Int) (h0 : x0 ≤ 9223372036854775807) (h1 : x1 ≤ 9223372036854775807) :
    Calls Try.prog 4 #[.agg #[.int .i64 x0, .int .i64 x1, .int .i64 x2, .int .i64 x3]] W (LawTrue W) := by
  go_enter Try.func4, Try.ntmps4
  go_wp2_with fail
  have hBW : Below W.heap.size W (W.alloc (.cells #[.int .i64 x0, .int .i64 x1, .int .i64 x2, .int .i64 x3] 34)) := (Below.refl _ _).alloc (Nat.le_refl _) _
  have z := new_cell W #[.int .i64 x0, .int .i64 x1, .int .i64 x2, .int .i64 x3] 34
  have z0 := z 0 _ rfl; have z1 := z 1 _ rfl; have z2 := z 2 _ rfl; have z3 := z 3 _ rfl
  have HW := Lib.hid hBW
  clear hBW z
  generalize W.alloc (.cells #[.int .i64 x0, .int .i64 x1, .int .i64 x2, .int .i64 x3] 34) = w0 at *
  have f0 := Later.cell z0; have f1 := Later.cell z1; have f2 := Later.cell z2; have f3 := Later.cell z3
  refine wp_region_later (by kernel_rfl) (by kernel_rfl) ?_
  repeat (go_big_quiet_step (first
    | (go_at_call 24; exact Calls.later (bpowerI x0 x1 _ h0 h1) (fun _ _ h => h))
    | (go_at_call 25; exact Calls.later (rpowerI x0 x1 _) (fun _ _ h => h))
    | (go_at_call 26; exact Calls.later (bbuffers_any x0 x1 x2 x3 _) (fun _ _ h => h))
    | (go_at_call 27; exact Calls.later (rbuffers_any x0 x1 x2 x3 _) (fun _ _ h => h.below))
    | (go_at_call 18; exact Calls.later (known22_any _) (fun _ _ h => h))))
  refine wpQuiet_nil ?_
  rintro w4 ⟨⟨w5, hb5⟩, rfl⟩
  have HB5 := Lib.hid (HW.out.trans (hb5.mono HW.out.size))
  clear f0 f1 f2 f3 hb5
  go_wp2_with fail
  go_ret
  exact ⟨rfl, HB5.out⟩

def threadI (u : UnitS) (t model room : Int) : Int := if 0 ≤ t ∧ t < u.regs.length then (threadN u t.toNat model room : Nat) else 0
theorem bthreadI (u : UnitS) (v : Value) (t model room : Int) (w : World) (hv : UnitV w v u) (hr : rightU u = true) : Calls Try.prog 22 #[v, .int .i64 t, .int .i64 model, .int .i64 room] w (IntIs (threadI u t model room) w) := by
  unfold threadI
  by_cases h : 0 ≤ t ∧ t < u.regs.length
  · rw [if_pos h]
    obtain ⟨t', rfl⟩ := Int.eq_ofNat_of_zero_le h.1
    exact bthread_any u v t' model room w hv hr (by have := h.2; omega)
  · rw [if_neg h]
    exact bthread_none u v t model room w hv (by unfold noThread; omega)
theorem rthreadI (u : UnitS) (v : Value) (t model room : Int) (w : World) (hv : UnitV w v u) (hr : rightU u = true) : Calls Try.prog 23 #[v, .int .i64 t, .int .i64 model, .int .i64 room] w (IntIs (threadI u t model room) w) := by
  unfold threadI
  by_cases h : 0 ≤ t ∧ t < u.regs.length
  · rw [if_pos h]
    obtain ⟨t', rfl⟩ := Int.eq_ofNat_of_zero_le h.1
    exact rthread_any u v t' model room w hv hr (by have := h.2; omega)
  · rw [if_neg h]
    exact rthread_none u v t model room w hv (by omega)

set_option maxRecDepth 100000 in
set_option maxHeartbeats 8000000 in
theorem boundCounts_walk (W : World) (v : Value) (u : UnitS) (hv : UnitV W v u) (x0 x1 x2 : Int) :
    Calls Try.prog 3 #[v, .agg #[.int .i64 x0, .int .i64 x1, .int .i64 x2]] W (LawTrue W) := by
  obtain ⟨a1, c1, a2, c2, a3, c3, rfl⟩ := unit_cells hv
  have HV := Lib.hid hv
  clear hv
  obtain ⟨n1, hn1⟩ : ∃ n, u.init.length = n := ⟨_, rfl⟩
  obtain ⟨n2, hn2⟩ : ∃ n, u.regs.length = n := ⟨_, rfl⟩
  obtain ⟨n3, hn3⟩ : ∃ n, u.code.length = n := ⟨_, rfl⟩
  obtain ⟨mod, hmod⟩ : ∃ n, u.mod = n := ⟨_, rfl⟩
  rw [hn1, hn2, hn3, hmod] at HV ⊢
  clear hn1 hn2 hn3 hmod
  have hz : (W.alloc (.cells #[.int .i64 mod, .slice a1 n1 c1, .slice a2 n2 c2, .slice a3 n3 c3] 25)).heap.size = W.heap.size + 1 := World.size_alloc _ _
  have hBW : Below W.heap.size W ((W.alloc (.cells #[.int .i64 mod, .slice a1 n1 c1, .slice a2 n2 c2, .slice a3 n3 c3] 25)).alloc (.cells #[.int .i64 x0, .int .i64 x1, .int .i64 x2] 26)) := below_alloc2 _ _
  have zu := fun k u h => past_cell (o := .cells #[.int .i64 x0, .int .i64 x1, .int .i64 x2] 26) (new_cell W #[.int .i64 mod, .slice a1 n1 c1, .slice a2 n2 c2, .slice a3 n3 c3] 25 k u h) (by simp)
  have zx := new_cell (W.alloc (.cells #[.int .i64 mod, .slice a1 n1 c1, .slice a2 n2 c2, .slice a3 n3 c3] 25)) #[.int .i64 x0, .int .i64 x1, .int .i64 x2] 26
  rw [hz] at zx
  have ZZ : Hid (_ ∧ _ ∧ _ ∧ _ ∧ _ ∧ _ ∧ _ ∧ _) := ⟨hBW, zu 0 _ rfl, zu 1 _ rfl, zu 2 _ rfl, zu 3 _ rfl, zx 0 _ rfl, zx 1 _ rfl, zx 2 _ rfl⟩
  clear hBW zu zx hz
  go_enter Try.func3, Try.ntmps3
  go_wp2_with fail
  obtain ⟨hBW, z0, z1, z2, z3, z4, z5, z6⟩ := ZZ.out
  clear ZZ
  generalize (W.alloc (.cells #[.int .i64 mod, .slice a1 n1 c1, .slice a2 n2 c2, .slice a3 n3 c3] 25)).alloc (.cells #[.int .i64 x0, .int .i64 x1, .int .i64 x2] 26) = w0 at *
  have HV0 := Lib.hid (HV.out.mono hBW)
  have HB0 := Lib.hid hBW
  clear hBW
  refine (light07_any u _ _ HV0.out).mono ?_
  rintro e w1 ⟨rfl, hb⟩
  have k0 := cell_later hb z0; have k1 := cell_later hb z1; have k2 := cell_later hb z2; have k3 := cell_later hb z3; have k4 := cell_later hb z4; have k5 := cell_later hb z5; have k6 := cell_later hb z6
  have HB1 := Lib.hid (HB0.out.trans (hb.mono HB0.out.size))
  have HV1 := Lib.hid (HV0.out.mono hb)
  clear hb z0 z1 z2 z3 z4 z5 z6
  cases hl : lightU u
  · clear hl
    go_wp2_with fail
    refine (known22_any _).mono ?_
    rintro e w2 ⟨rfl, hb⟩
    have HB2 := Lib.hid (HB1.out.trans (hb.mono HB1.out.size))
    clear hb
    go_wp2_with fail
    go_ret
    exact ⟨rfl, HB2.out⟩
  · clear hl
    go_wp2_with fail
    refine (bcount_any u _ x0 x1 _ HV1.out).mono ?_
    rintro e w2 ⟨rfl, hb⟩
    have y0 := cell_later hb k0; have y1 := cell_later hb k1; have y2 := cell_later hb k2; have y3 := cell_later hb k3; have y4 := cell_later hb k4; have y5 := cell_later hb k5; have y6 := cell_later hb k6
    have HB2 := Lib.hid (HB1.out.trans (hb.mono HB1.out.size))
    have HV2 := Lib.hid (HV1.out.mono hb)
    clear hb k0 k1 k2 k3 k4 k5 k6
    go_wp2_with fail
    refine (rcount_any u _ x0 x1 _ HV2.out).mono ?_
    rintro e w3 ⟨rfl, hb⟩
    have t0 := cell_later hb y0; have t1 := cell_later hb y1; have t2 := cell_later hb y2; have t3 := cell_later hb y3; have t4 := cell_later hb y4; have t5 := cell_later hb y5; have t6 := cell_later hb y6
    have HB3 := Lib.hid (HB2.out.trans (hb.mono HB2.out.size))
    have HV3 := Lib.hid (HV2.out.mono hb)
    clear hb y0 y1 y2 y3 y4 y5 y6
    go_wp2_with fail
    have f0 := Later.cell t0; have f1 := Later.cell t1; have f2 := Later.cell t2; have f3 := Later.cell t3; have f4 := Later.cell t4; have f5 := Later.cell t5; have f6 := Later.cell t6
    obtain ⟨r, hr⟩ : ∃ r, rightU u = r := ⟨_, rfl⟩
    have HRR := Lib.hid hr
    clear hr
    cases r
    all_goals
      refine wp_region_later (by kernel_rfl) (by kernel_rfl) ?_
      repeat (go_big_quiet_step (first
        | (go_at_call 21; exact Calls.later (right07_any u _ _ (HV3.out.mono (Later.below _))) (fun _ _ h => by rw [HRR.out] at h; exact h))
        | (go_at_call 22; exact Calls.later (bthreadI u _ x2 x0 x1 _ (HV3.out.mono (Later.below _)) HRR.out) (fun _ _ h => h))
        | (go_at_call 23; exact Calls.later (rthreadI u _ x2 x0 x1 _ (HV3.out.mono (Later.below _)) HRR.out) (fun _ _ h => h))))
      refine wpQuiet_nil ?_
      rintro w4 ⟨⟨w5, hb5⟩, rfl⟩
      have HB5 := Lib.hid (HB3.out.trans (hb5.mono HB3.out.size))
      clear f0 f1 f2 f3 f4 f5 f6 hb5 t0 t1 t2 t3 t4 t5 t6
      go_wp2_with fail
      refine (known22_any _).mono ?_
      rintro e w6 ⟨rfl, hb⟩
      have HB6 := Lib.hid (HB5.out.trans (hb.mono HB5.out.size))
      clear hb
      go_wp2_with fail
      go_ret
      exact ⟨rfl, HB6.out⟩

theorem boundPowers_frame (W : World) (x0 x1 x2 x3 : Int) (b0 : -9223372036854775808 ≤ x0 ∧ x0 ≤ 9223372036854775807) (b1 : -9223372036854775808 ≤ x1 ∧ x1 ≤ 9223372036854775807) (_ : -9223372036854775808 ≤ x2 ∧ x2 ≤ 9223372036854775807) (_ : -9223372036854775808 ≤ x3 ∧ x3 ≤ 9223372036854775807) :
    Calls Try.prog 4 #[.agg #[.int .i64 x0, .int .i64 x1, .int .i64 x2, .int .i64 x3]] W (LawTrue W) := boundPowers_walk W x0 x1 x2 x3 b0.2 b1.2
theorem boundCounts_frame (W : World) (v : Value) (u : UnitS) (hv : UnitV W v u) (x0 x1 x2 : Int) (_ : -9223372036854775808 ≤ x0 ∧ x0 ≤ 9223372036854775807) (_ : -9223372036854775808 ≤ x1 ∧ x1 ≤ 9223372036854775807) (_ : -9223372036854775808 ≤ x2 ∧ x2 ≤ 9223372036854775807) :
    Calls Try.prog 3 #[v, .agg #[.int .i64 x0, .int .i64 x1, .int .i64 x2]] W (LawTrue W) := boundCounts_walk W v u hv x0 x1 x2

end Go.Proofs.Ytaocgmkcjemecaa
