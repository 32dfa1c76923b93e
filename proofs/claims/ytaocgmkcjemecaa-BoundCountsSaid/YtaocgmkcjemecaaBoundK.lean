/- The fixed calls of layer 22. Parts of the proofs of the laws of layer 22. Conditions: none. -/
import Derived.Test.YtaocgmkcjemecaaBoundH
import Derived.Test.YtaocgmkcjemecaaLowK
import Derived.Test.YtaocgmkcjemecaaLitUnit
namespace Go.Proofs.Ytaocgmkcjemecaa
open Go.RowKit
set_option linter.unusedVariables false
set_option linter.unusedSimpArgs false

theorem kpower (a n m : Nat) (h : powN a n = m) (ha : a ≤ 1000) (hn : n ≤ 1000) (w : World) : Calls Try.prog 24 #[.int .i64 a, .int .i64 n] w (IntIs m w) := by
  rw [← h]; exact bpower_any a n w (by omega) (by omega)
theorem kbuffers (l m k r : Int) (x : Nat) (h : buffersN l m k r = x) (w : World) : Calls Try.prog 26 #[.int .i64 l, .int .i64 m, .int .i64 k, .int .i64 r] w (IntIs x w) := by
  rw [← h]; exact bbuffers_any l m k r w
theorem kcount (u : UnitS) (v : Value) (k r a b : Int) (h : countU u k r = (a, b)) (w : World) (hv : UnitV w v u) : Calls Try.prog 19 #[v, .int .i64 k, .int .i64 r] w (PairIs (a, b) w) := by
  rw [← h]; exact bcount_any u v k r w hv
theorem kc1 : countU (litU 2 0) 2 2 = (56, 0) := by decide +kernel
theorem kc2 : countU zeroU 2 2 = (0, 8) := by decide +kernel
theorem kc3 : countU (litU 2 0) 4 2 = (0, 1) := by decide +kernel
theorem kt0 : threadN (litU 2 0) 0 2 2 = 28 := by decide +kernel
theorem kthread0 (v : Value) (w : World) (hv : UnitV w v (litU 2 0)) : Calls Try.prog 22 #[v, .int .i64 0, .int .i64 2, .int .i64 2] w (IntIs (28 : Nat) w) := by
  rw [← kt0]; exact bthread_any (litU 2 0) v 0 2 2 w hv (by decide +kernel) (by decide)
theorem kright : rightU (litU 2 0) = true := by decide +kernel
theorem kp1 : powN 3 4 = 81 := by decide +kernel
theorem kp2 : powN 2 60 = 1125899906842624 := by decide +kernel
theorem kp3 : powN 0 0 = 1 := by decide +kernel
theorem kb1 : buffersN 1 2 2 2 = 7 := by decide +kernel
theorem kb2 : buffersN 2 2 3 1 = 9 := by decide +kernel
theorem kb3 : buffersN 2 2 1 1 = 1 := by decide +kernel

set_option maxRecDepth 100000 in
set_option maxHeartbeats 4000000 in
theorem known22_any (w : World) : Calls Try.prog 18 #[] w (BoolBelow true w) := by
  go_enter Try.func18, Try.ntmps18
  go_upto_region 2 with (fail)
  obtain ⟨W, hW⟩ : ∃ W, W = (((((w.alloc (.cells #[.int .i64 0] 3)).alloc (.cells #[.int .i64 1] 3)).alloc (.cells #[.int .i64 8, .int .i64 0, .int .i64 0, .slice none 0 0, .slice none 0 0, .bool false, .int .i64 0, .int .i64 22, .int .i64 0, .int .i64 0, .slice none 0 0, .slice none 0 0, .bool false, .int .i64 0] 81)).alloc (.cells #[.slice (some ⟨w.heap.size + 1 + 1, 0, none⟩) 2 2] 67)).alloc (.cells #[.int .i64 2, .slice (some ⟨w.heap.size, 0, none⟩) 1 1, .slice (some ⟨w.heap.size + 1, 0, none⟩) 1 1, .slice (some ⟨w.heap.size + 1 + 1 + 1, 0, none⟩) 1 1] 25)) := ⟨_, rfl⟩
  rw [← hW]
  obtain ⟨hb0, l1, l2, l3, l4, l5⟩ := lay5 w _ _ _ _ _ _ _ _ _ _ hW
  have hu : UnitV W (.agg #[.int .i64 2, .slice (some ⟨w.heap.size, 0, none⟩) 1 1, .slice (some ⟨w.heap.size + 1, 0, none⟩) 1 1, .slice (some ⟨w.heap.size + 1 + 1 + 1, 0, none⟩) 1 1]) (litU 2 0) :=
    lit_unit (by decide) (by decide) (l1 0 _ rfl) (l2 0 _ rfl) (fun j u hj => l3 j u (by simpa using hj)) (l4 0 _ rfl)
  have y0 := l5 0 _ rfl; have y1 := l5 1 _ rfl; have y2 := l5 2 _ rfl; have y3 := l5 3 _ rfl
  clear hW l1 l2 l3 l4 l5
  have HU0 := Lib.hid hu; have HB0 := Lib.hid hb0
  clear hu hb0
  go_wp2_with fail
  refine (kcount (litU 2 0) _ 2 2 56 0 kc1 _ HU0.out).mono ?_
  rintro e w1 ⟨rfl, hb⟩
  have ya0 := cell_later hb y0; have ya1 := cell_later hb y1; have ya2 := cell_later hb y2; have ya3 := cell_later hb y3
  have HB1 := Lib.hid (HB0.out.trans (hb.mono HB0.out.size))
  have HU1 := Lib.hid (HU0.out.mono hb)
  clear y0 y1 y2 y3 hb
  go_wp2_with fail
  refine (kcount zeroU _ 2 2 0 8 kc2 _ (zero_unit _)).mono ?_
  rintro e w2 ⟨rfl, hb⟩
  have yb0 := cell_later hb ya0; have yb1 := cell_later hb ya1; have yb2 := cell_later hb ya2; have yb3 := cell_later hb ya3
  have HB2 := Lib.hid (HB1.out.trans (hb.mono HB1.out.size))
  have HU2 := Lib.hid (HU1.out.mono hb)
  clear ya0 ya1 ya2 ya3 hb
  go_wp2_with fail
  refine (kcount (litU 2 0) _ 4 2 0 1 kc3 _ HU2.out).mono ?_
  rintro e w3 ⟨rfl, hb⟩
  have yc0 := cell_later hb yb0; have yc1 := cell_later hb yb1; have yc2 := cell_later hb yb2; have yc3 := cell_later hb yb3
  have HB3 := Lib.hid (HB2.out.trans (hb.mono HB2.out.size))
  have HU3 := Lib.hid (HU2.out.mono hb)
  clear yb0 yb1 yb2 yb3 hb
  go_upto_region 5 with (fail)
  have f0 := Later.cell yc0; have f1 := Later.cell yc1; have f2 := Later.cell yc2; have f3 := Later.cell yc3
  have hk1 := kb1; have hk2 := kb2; have hk3 := kb3
  refine wp_region_later' ?_
  repeat (go_big_quiet_step (first
    | (go_at_call_of 24 (Value.int .i64 3); exact Calls.later (kpower 3 4 81 kp1 (by omega) (by omega) _) (fun _ _ h => h))
    | (go_at_call_of 24 (Value.int .i64 60); exact Calls.later (kpower 2 60 _ kp2 (by omega) (by omega) _) (fun _ _ h => h))
    | (go_at_call_of 24 (Value.int .i64 0); exact Calls.later (kpower 0 0 1 kp3 (by omega) (by omega) _) (fun _ _ h => h))
    | (go_at_call 24; exact Calls.later (bpower_neg (-1) 2 _ (by omega)) (fun _ _ h => h))
    | (go_at_call 26; exact Calls.later (bbuffers_any _ _ _ _ _) (fun _ _ h => h))
    | (go_at_call_of 22 (Value.int .i64 0); exact Calls.later (kthread0 _ _ (HU3.out.mono (Later.below _))) (fun _ _ h => h))
    | (go_at_call_of 22 (Value.int .i64 1); exact Calls.later (bthread_none (litU 2 0) _ 1 2 2 _ (HU3.out.mono (Later.below _)) (by unfold noThread litU; simp)) (fun _ _ h => h))))
  refine wpQuiet_nil ?_
  rintro w4 ⟨⟨w5, hb5⟩, rfl⟩
  have HB5 := Lib.hid (HB3.out.trans (hb5.mono HB3.out.size))
  clear f0 f1 f2 f3 hb5 hk1 hk2 hk3
  go_wp2_with fail
  go_ret
  exact ⟨rfl, HB5.out⟩

end Go.Proofs.Ytaocgmkcjemecaa
