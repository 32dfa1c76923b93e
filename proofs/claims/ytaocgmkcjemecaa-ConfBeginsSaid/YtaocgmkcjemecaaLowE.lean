/- The program's lower.Right: a unit that can be. Parts of the proofs of the laws of layers 6 to 22. Conditions: none. -/
import Derived.Test.YtaocgmkcjemecaaLowD
import Derived.Test.YtaocgmkcjemecaaLater
namespace Go.Proofs.Ytaocgmkcjemecaa
open Go.RowKit
set_option linter.unusedVariables false
set_option linter.unusedSimpArgs false

theorem eq_of_ne {a b : Nat} (h : ((a : Int) != (b : Int)) = false) : a = b := by simp only [bne_eq_false_iff_eq] at h; omega
theorem headOk_no {u : UnitS} (h : headOk u = false) (h1 : 2 ≤ u.mod) (h2 : u.mod ≤ 16) (h3 : u.init.length ≤ 6) (h4 : 1 ≤ u.regs.length) (h5 : u.regs.length ≤ 4) (h6 : u.code.length = u.regs.length) : False := by
  simp only [headOk, decide_eq_false_iff_not] at h
  omega

set_option maxRecDepth 100000 in
set_option maxHeartbeats 4000000 in
theorem lowRight_head (u : UnitS) (v : Value) (w : World) (hv : UnitV w v u) (hh : headOk u = false) :
    Calls Try.prog 54 #[v] w (BoolBelow false w) := by
  obtain ⟨vi, vr, vc, rfl, s1, s2, s3, m1, m2⟩ := hv
  have l1 := s1.len; have l2 := s2.len; have l3 := s3.len
  obtain ⟨a1, c1, rfl, h1⟩ := ints_view s1
  obtain ⟨a2, c2, rfl, h2⟩ := ints_view s2
  obtain ⟨a3, c3, rfl, h3⟩ := slices_view s3
  clear s1 s2 s3 h1 h2 h3
  have HH : Hid (2 ≤ u.mod → u.mod ≤ 16 → u.init.length ≤ 6 → 1 ≤ u.regs.length → u.regs.length ≤ 4 → u.code.length = u.regs.length → False) := headOk_no hh
  clear hh
  obtain ⟨mod, init, regs, code⟩ := u
  dsimp only at *
  generalize init.length = n1 at *
  generalize regs.length = n2 at *
  generalize code.length = n3 at *
  go_enter Try.func54, Try.ntmps54
  go_wp2
  all_goals
    first
    | (go_ret; exact ⟨rfl, (Below.refl _ _).alloc (Nat.le_refl _) _⟩)
    | (exfalso; exact HH.out (by omega) (by omega) (by omega) (by omega) (by omega) (by first | omega | exact eq_of_ne (by first | assumption | exact (by assumption : _ ∧ ((n3 : Int) != (n2 : Int)) = false).2)))

set_option maxRecDepth 100000 in
set_option maxHeartbeats 8000000 in
theorem lowRight_main (u : UnitS) (v : Value) (w : World) (hv : UnitV w v u) (hh : headOk u = true) :
    Calls Try.prog 54 #[v] w (BoolBelow (rightU u) w) := by
  obtain ⟨vi, vr, vc, rfl, s1, s2, s3, m1, m2⟩ := hv
  have l1 := s1.len; have l2 := s2.len; have l3 := s3.len
  obtain ⟨a1, c1, rfl, h1⟩ := ints_view s1
  obtain ⟨a2, c2, rfl, h2⟩ := ints_view s2
  obtain ⟨a3, c3, rfl, h3⟩ := slices_view s3
  have H1 := Lib.hid h1; have H2 := Lib.hid h2; have H3 := Lib.hid h3
  clear s1 s2 s3 h1 h2 h3
  have HH := Lib.hid hh
  simp only [headOk, decide_eq_true_eq] at hh
  obtain ⟨g1, g2, g3, g4, g5, g6⟩ := hh
  have HU := Lib.hid (Eq.refl (rightU u))
  obtain ⟨res, hres⟩ : ∃ r, rightU u = r := ⟨_, rfl⟩
  have HR := Lib.hid hres
  rw [hres]
  clear hres
  obtain ⟨mod, init, regs, code⟩ := u
  dsimp only at *
  obtain ⟨n1, hn1⟩ : ∃ n, init.length = n := ⟨_, rfl⟩
  obtain ⟨n2, hn2⟩ : ∃ n, regs.length = n := ⟨_, rfl⟩
  rw [hn1] at g3 ⊢
  rw [hn2] at g4 g5 g6 ⊢
  rw [g6]
  have N1 := Lib.hid hn1; have N2 := Lib.hid hn2; have N3 := Lib.hid g6
  clear hn1 hn2 g6 l1 l2 l3
  have d0 : ((n2 : Int) == 0) = false := ib_no (by omega)
  go_enter Try.func54, Try.ntmps54
  go_wp2
  go_loop [45] (fun i => ∃ k : Nat, i = .int .i64 k ∧ k ≤ n1 ∧ ∀ j (h : j < init.length), j < k → inB init[j] mod = true) (fun i => n1 - (intOf i).toNat)
  case atStart => exact ⟨0, rfl, by omega, fun j _ h => absurd h (by omega)⟩
  case round =>
    obtain ⟨k, rfl, hk, hall⟩ := hrel
    have Hall := Lib.hid hall; clear hall
    by_cases hlt : k < n1
    · have hki : k < init.length := by have := N1.out; omega
      obtain ⟨b, o, rfl, x1, _, _⟩ := H1.out k hki
      obtain ⟨x, hx⟩ : ∃ x, init[k]'hki = x := ⟨_, rfl⟩
      rw [hx] at x1
      have HX := Lib.hid hx; clear hx
      have hbl : b < w.heap.size := World.block_lt_of_cell? _ _ x1
      have hbn : b ≠ w.heap.size := by omega
      by_cases c1 : x < 0
      · have HN := Lib.hid (show res = false by rw [← HR.out]; exact rightU_init (allIn_bad hki (by show inB (init[k]'hki) mod = false; rw [HX.out]; exact in_false (.inl c1))))
        go_wp2
        go_ret
        exact ⟨by rw [HN.out]; rfl, (Below.refl _ _).alloc (Nat.le_refl _) _⟩
      · by_cases c2 : mod ≤ x
        · have HN := Lib.hid (show res = false by rw [← HR.out]; exact rightU_init (allIn_bad hki (by show inB (init[k]'hki) mod = false; rw [HX.out]; exact in_false (.inr c2))))
          go_wp2
          go_ret
          exact ⟨by rw [HN.out]; rfl, (Below.refl _ _).alloc (Nat.le_refl _) _⟩
        · go_wp2
          go_round
          case rel => exact ⟨k + 1, by go_num, by omega, fun j h2 h3 => by
            rcases Nat.lt_or_ge j k with h | h
            · exact Hall.out j h2 h
            · obtain rfl : j = k := by omega
              rw [HX.out]; exact in_true (by omega)⟩
          case measure => simp [intOf]; omega
    · have HI := Lib.hid (show allIn init mod = true from allIn_good fun j hj => Hall.out j hj (by have := N1.out; omega))
      clear Hall
      go_wp2_with fail
      have hBW : Below w.heap.size w (w.alloc (.cells #[.int .i64 mod, .slice a1 n1 c1, .slice a2 n2 c2, .slice a3 n2 c3] 25)) := (Below.refl _ _).alloc (Nat.le_refl _) _
      have q1 := new_cell w #[.int .i64 mod, .slice a1 n1 c1, .slice a2 n2 c2, .slice a3 n2 c3] 25 1 _ rfl
      have q2 := new_cell w #[.int .i64 mod, .slice a1 n1 c1, .slice a2 n2 c2, .slice a3 n2 c3] 25 2 _ rfl
      have q3 := new_cell w #[.int .i64 mod, .slice a1 n1 c1, .slice a2 n2 c2, .slice a3 n2 c3] 25 3 _ rfl
      have hWs : w.heap.size < (w.alloc (.cells #[.int .i64 mod, .slice a1 n1 c1, .slice a2 n2 c2, .slice a3 n2 c3] 25)).heap.size := by simp
      generalize w.alloc (.cells #[.int .i64 mod, .slice a1 n1 c1, .slice a2 n2 c2, .slice a3 n2 c3] 25) = W at *
      have HW := Lib.hid hBW
      clear hBW
      go_loopw [61] (fun i wr => ∃ k : Nat, i = .int .i64 k ∧ k ≤ n2 ∧ (∀ j, j < regs.length → j < k → threadOk ⟨mod, init, regs, code⟩ j = true) ∧ Below W.heap.size W wr) (fun i _ => n2 - (intOf i).toNat)
      case atStart => exact ⟨0, rfl, by omega, fun j _ h => absurd h (by omega), Below.refl _ _⟩
      case round =>
        obtain ⟨k, rfl, hk, hall, hb⟩ := hrel
        have Hall := Lib.hid hall; have HB := Lib.hid hb
        have hz := hb.size
        clear hall hb
        by_cases hlt : k < n2
        · have hkr : k < regs.length := by have := N2.out; omega
          have hkc : k < code.length := by have := N3.out; omega
          obtain ⟨b, o, rfl, x1, _, _⟩ := H2.out k hkr
          obtain ⟨b3, o3, vr, rfl, x3, sr⟩ := H3.out k hkc
          obtain ⟨x, hx⟩ : ∃ x, regs[k]'hkr = x := ⟨_, rfl⟩
          obtain ⟨row, hrow⟩ : ∃ r, code[k]'hkc = r := ⟨_, rfl⟩
          rw [hx] at x1
          rw [hrow] at sr
          have HT := Lib.hid (show threadOk ⟨mod, init, regs, code⟩ k = (decide (0 ≤ x ∧ x ≤ 6) && rowOk row x n1) by rw [threadOk_of (u := ⟨mod, init, regs, code⟩) hkr hkc, hx, hrow, N1.out])
          clear hx hrow
          have y1 := cell_later HB.out (cell_later HW.out x1)
          have y3 := cell_later HB.out (cell_later HW.out x3)
          have z1 := cell_later HB.out q2
          have z1' := cell_later HB.out q1
          have z3 := cell_later HB.out q3
          have SR := Lib.hid ((sr.mono mono_instr HW.out).mono mono_instr HB.out)
          clear x1 x3 sr
          have Hbad : Hid (threadOk ⟨mod, init, regs, code⟩ k = false → res = false) := fun h => by rw [← HR.out]; exact rightU_bad (u := ⟨mod, init, regs, code⟩) hkr h
          by_cases c1 : x < 0
          · have HN := Lib.hid (Hbad.out (by rw [HT.out, decide_eq_false (by omega), Bool.false_and]))
            go_wp2_with fail
            refine wp_region_later (by kernel_rfl) (by kernel_rfl) ?_
            repeat (go_big_quiet_step (fail))
            refine wpQuiet_nil ?_
            rintro w2 ⟨⟨w3, hb3⟩, rfl⟩
            have HB3 := Lib.hid (HB.out.trans (hb3.mono hz)); clear hb3
            go_wp2_with fail
            go_ret
            exact ⟨by rw [HN.out]; rfl, HW.out.trans (HB3.out.mono (by omega))⟩
          · have d1 : decide (x < 0) = false := decide_eq_false c1
            by_cases c2 : 6 < x
            · have HN := Lib.hid (Hbad.out (by rw [HT.out, decide_eq_false (by omega), Bool.false_and]))
              go_wp2_with fail
              refine wp_region_later (by kernel_rfl) (by kernel_rfl) ?_
              repeat (go_big_quiet_step (fail))
              refine wpQuiet_nil ?_
              rintro w2 ⟨⟨w3, hb3⟩, rfl⟩
              have HB3 := Lib.hid (HB.out.trans (hb3.mono hz)); clear hb3
              go_wp2_with fail
              go_ret
              exact ⟨by rw [HN.out]; rfl, HW.out.trans (HB3.out.mono (by omega))⟩
            · have d2 : decide (6 < x) = false := decide_eq_false c2
              go_wp2_with fail
              have e1 := Later.cell z1'
              have e3 := Later.cell z3
              have e4 := Later.cell y3
              refine wp_region_later (by kernel_rfl) (by kernel_rfl) ?_
              repeat (go_big_quiet_step ((go_at_call 84; exact Calls.later (row_any row vr x n1 _ (SR.out.mono mono_instr (Later.below _))) (fun _ _ h => h))))
              refine wpQuiet_nil ?_
              rintro w2 ⟨⟨w3, hb3⟩, rfl⟩
              clear e1 e3 e4
              have HB3 := Lib.hid (HB.out.trans (hb3.mono hz)); clear hb3
              cases hr : rowOk row x n1
              · have HN := Lib.hid (Hbad.out (by rw [HT.out, hr, Bool.and_false]))
                clear hr
                go_wp2_with fail
                go_ret
                exact ⟨by rw [HN.out]; rfl, HW.out.trans (HB3.out.mono (by omega))⟩
              · have HO := Lib.hid (show threadOk ⟨mod, init, regs, code⟩ k = true by rw [HT.out, hr, decide_eq_true (by omega)]; rfl)
                clear hr
                go_wp2_with fail
                go_roundw
                case rel => exact ⟨k + 1, by go_num, by omega, fun j h2 h3 => by
                  rcases Nat.lt_or_ge j k with h | h
                  · exact Hall.out j h2 h
                  · obtain rfl : j = k := by omega
                    exact HO.out, HB3.out⟩
                case measure => simp [intOf]; omega
        · have HG := Lib.hid (show res = true by rw [← HR.out]; exact rightU_good (u := ⟨mod, init, regs, code⟩) HH.out HI.out (fun j hj => Hall.out j hj (by have := N2.out; dsimp only at hj; omega)))
          go_wp2
          go_ret
          exact ⟨by rw [HG.out]; rfl, HW.out.trans (HB.out.mono (by omega))⟩

theorem lowRight_any (u : UnitS) (v : Value) (w : World) (hv : UnitV w v u) : Calls Try.prog 54 #[v] w (BoolBelow (rightU u) w) := by
  cases hh : headOk u
  · rw [rightU_head hh]; exact lowRight_head u v w hv hh
  · exact lowRight_main u v w hv hh

end Go.Proofs.Ytaocgmkcjemecaa
