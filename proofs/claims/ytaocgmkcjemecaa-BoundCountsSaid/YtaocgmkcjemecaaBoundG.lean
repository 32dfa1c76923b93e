/- Reference 22's Thread. Parts of the proofs of the laws of layer 22. Conditions: none. -/
import Derived.Test.YtaocgmkcjemecaaBoundE
namespace Go.Proofs.Ytaocgmkcjemecaa
open Go.RowKit
set_option linter.unusedVariables false
set_option linter.unusedSimpArgs false

theorem IntSame.below {m : Int} {w : World} {e : Ending} {w' : World} (h : IntSame m w e w') : e = .returned (.int .i64 m) ∧ Below w.heap.size w w' := ⟨h.1, h.2 ▸ Below.refl _ _⟩

set_option maxRecDepth 100000 in
set_option maxHeartbeats 4000000 in
theorem rthread_none (u : UnitS) (v : Value) (t model room : Int) (w : World) (hv : UnitV w v u) (hno : t < 0 ∨ (u.regs.length : Int) ≤ t) :
    Calls Try.prog 23 #[v, .int .i64 t, .int .i64 model, .int .i64 room] w (IntIs 0 w) := by
  obtain ⟨vi, vr, vc, rfl, s1, s2, s3, m1, m2⟩ := hv
  have l1 := s1.len; have l2 := s2.len; have l3 := s3.len
  obtain ⟨a1, c1, rfl, h1⟩ := ints_view s1
  obtain ⟨a2, c2, rfl, h2⟩ := ints_view s2
  obtain ⟨a3, c3, rfl, h3⟩ := slices_view s3
  clear s1 s2 s3 h1 h2 h3
  obtain ⟨mod, init, regs, code⟩ := u
  dsimp only at *
  generalize init.length = n1 at *
  generalize regs.length = n2 at *
  generalize code.length = n3 at *
  have HH : Hid (0 ≤ t → t < n2 → False) := fun _ _ => by omega
  clear hno
  go_enter Try.func23, Try.ntmps23
  go_wp2_with fail
  all_goals
    first
    | (go_ret; exact ⟨rfl, (Below.refl _ _).alloc (Nat.le_refl _) _⟩)
    | (exfalso; exact HH.out (by omega) (by omega))

set_option maxRecDepth 100000 in
set_option maxHeartbeats 4000000 in
theorem rthread_any (u : UnitS) (v : Value) (t : Nat) (model room : Int) (w : World) (hv : UnitV w v u) (hr : rightU u = true) (ht : t < u.regs.length) :
    Calls Try.prog 23 #[v, .int .i64 t, .int .i64 model, .int .i64 room] w (IntIs (threadN u t model room) w) := by
  have hh := rightU_head' hr
  have htc : t < u.code.length := by omega
  have hrow := rightU_row hr ht htc
  have HT := Lib.hid (threadN_at ht htc model room)
  obtain ⟨res, hres⟩ : ∃ r, threadN u t model room = r := ⟨_, rfl⟩
  have HR := Lib.hid hres
  rw [hres]
  clear hres hr
  obtain ⟨vi, vr, vc, rfl, s1, s2, s3, m1, m2⟩ := hv
  have l1 := s1.len; have l2 := s2.len; have l3 := s3.len
  obtain ⟨a1, c1, rfl, h1⟩ := ints_view s1
  obtain ⟨a2, c2, rfl, h2⟩ := ints_view s2
  obtain ⟨a3, c3, rfl, h3⟩ := slices_view s3
  obtain ⟨mod, init, regs, code⟩ := u
  dsimp only at *
  obtain ⟨b2, o2, rfl, x2, bd1, bd2⟩ := h2 t ht
  clear bd1 bd2
  obtain ⟨b3, o3, vr, rfl, x3, sr⟩ := h3 t htc
  obtain ⟨x, hx⟩ : ∃ x, regs[t] = x := ⟨_, rfl⟩
  obtain ⟨row, hrw⟩ : ∃ r, code[t] = r := ⟨_, rfl⟩
  rw [hx] at x2 hrow HT
  rw [hrw] at sr hrow HT
  obtain ⟨ar, cr, rfl, hrr⟩ := instrs_view sr
  obtain ⟨q1, q2, q3, q4⟩ := hrow
  obtain ⟨xn, rfl⟩ := Int.eq_ofNat_of_zero_le q1
  obtain ⟨M, rfl⟩ := Int.eq_ofNat_of_zero_le (show 0 ≤ mod by omega)
  clear h1 h2 h3 s1 s2 s3 sr hx hrw hrr
  generalize init.length = n1 at *
  generalize regs.length = n2 at *
  generalize code.length = n3 at *
  generalize row.length = n4 at *
  obtain ⟨g1, g2, g3, g4, g5, rfl⟩ := hh
  go_enter Try.func23, Try.ntmps23
  go_wp2_with fail
  have hBW : Below w.heap.size w (w.alloc (.cells #[.int .i64 (M : Int), .slice a1 n1 c1, .slice (some ⟨b2, o2, none⟩) n3 c2, .slice (some ⟨b3, o3, none⟩) n3 c3] 25)) := (Below.refl _ _).alloc (Nat.le_refl _) _
  have z0 := new_cell w #[.int .i64 (M : Int), .slice a1 n1 c1, .slice (some ⟨b2, o2, none⟩) n3 c2, .slice (some ⟨b3, o3, none⟩) n3 c3] 25 0 _ rfl
  have z1 := new_cell w #[.int .i64 (M : Int), .slice a1 n1 c1, .slice (some ⟨b2, o2, none⟩) n3 c2, .slice (some ⟨b3, o3, none⟩) n3 c3] 25 1 _ rfl
  have z2 := new_cell w #[.int .i64 (M : Int), .slice a1 n1 c1, .slice (some ⟨b2, o2, none⟩) n3 c2, .slice (some ⟨b3, o3, none⟩) n3 c3] 25 2 _ rfl
  have z3 := new_cell w #[.int .i64 (M : Int), .slice a1 n1 c1, .slice (some ⟨b2, o2, none⟩) n3 c2, .slice (some ⟨b3, o3, none⟩) n3 c3] 25 3 _ rfl
  have y2 := cell_later hBW x2
  have y3 := cell_later hBW x3
  have HBW := Lib.hid hBW
  have hWs : w.heap.size < (w.alloc (.cells #[.int .i64 (M : Int), .slice a1 n1 c1, .slice (some ⟨b2, o2, none⟩) n3 c2, .slice (some ⟨b3, o3, none⟩) n3 c3] 25)).heap.size := by simp
  clear hBW x2 x3
  generalize w.alloc (.cells #[.int .i64 (M : Int), .slice a1 n1 c1, .slice (some ⟨b2, o2, none⟩) n3 c2, .slice (some ⟨b3, o3, none⟩) n3 c3] 25) = W at *
  have f0 := Later.cell z0
  have f1 := Later.cell z1
  have f2 := Later.cell z2
  have f3 := Later.cell z3
  have f4 := Later.cell y2
  have f5 := Later.cell y3
  have HP1 := Lib.hid (show powN M xn ≤ 1125899906842624 from powN_le M xn)
  have HP2 := Lib.hid (show timesN n4 (powN M xn) ≤ 1125899906842624 from timesN_le _ _)
  have HP3 := Lib.hid (show buffersN n1 M model room ≤ 1125899906842624 from buffersN_le _ _ _ _)
  refine wp_region_later (by kernel_rfl) (by kernel_rfl) ?_
  repeat (go_big_quiet_step (first
    | (go_at_call 25; exact Calls.later (rpower_any M xn _) (fun _ _ h => h.below))
    | (go_at_call_of 58 (Value.int .i64 (n4 : Int)); exact Calls.later (rtimes_any n4 (powN M xn) _ (by omega) HP1.out) (fun _ _ h => h.below))
    | (go_at_call 27; exact Calls.later (rbuffers_any n1 M model room _) (fun _ _ h => h.below))
    | (go_at_call_of 58 (Value.int .i64 (timesN n4 (powN M xn) : Int)); exact Calls.later (rtimes_any (timesN n4 (powN M xn)) (buffersN n1 M model room) _ HP2.out HP3.out) (fun _ _ h => h.below))))
  refine wpQuiet_nil ?_
  rintro w3 ⟨⟨w4, hb4⟩, rfl⟩
  have HB4 := Lib.hid (HBW.out.trans (hb4.mono (by omega)))
  clear hb4 f0 f1 f2 f3 f4 f5
  have HN := Lib.hid (show timesN (timesN n4 (powN M xn)) (buffersN n1 M model room) = res from (HR.out.symm.trans HT.out).symm)
  go_wp2_with fail
  go_ret
  exact ⟨by rw [← HN.out]; rfl, HB4.out⟩

end Go.Proofs.Ytaocgmkcjemecaa
