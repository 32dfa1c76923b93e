/- Reference 07's Right: a unit that can be. Parts of the proofs of the laws of layers 6 to 22. Conditions: none. -/
import Derived.Test.YtaocgmkcjemecaaLowG
import Derived.Test.YtaocgmkcjemecaaLowH
import Derived.Test.YtaocgmkcjemecaaLowI
namespace Go.Proofs.Ytaocgmkcjemecaa
open Go.RowKit
set_option linter.unusedVariables false
set_option linter.unusedSimpArgs false

set_option maxRecDepth 100000 in
set_option maxHeartbeats 4000000 in
theorem one07_none (op reg loc : Int) (le lf : List OpS) (ne : Bool) (goal : Int) (ve vf : Value) (regs locs many : Int) (w : World) (he : Sl rOp w ve le) (hf : Sl rOp w vf lf) (h : needsOf op = none) :
    Calls Try.prog 61 #[.agg #[.int .i64 op, .int .i64 reg, .int .i64 loc, ve, vf, .bool ne, .int .i64 goal], .int .i64 regs, .int .i64 locs, .int .i64 many] w (BoolBelow (instrOk regs locs many ⟨op, reg, loc, le, lf, ne, goal⟩) w) := by
  have HN := Lib.hid (show instrOk regs locs many ⟨op, reg, loc, le, lf, ne, goal⟩ = false by simp [instrOk, h])
  rw [HN.out]
  obtain ⟨ae, ce, rfl, h1⟩ := ops_view he
  obtain ⟨af, cf, rfl, h2⟩ := ops_view hf
  have H := Lib.hid h
  clear he hf h1 h2 h
  go_enter Try.func61, Try.ntmps61
  go_wp2_with (first | (go_at_call 86; refine (parts_none op _ H.out).mono ?_; rintro e w' ⟨rfl, rfl⟩))
  go_ret
  exact ⟨rfl, (Below.refl _ _).alloc (Nat.le_refl _) _⟩

theorem needs_kinds (op : Int) : (op = 2 ∨ op = 3 ∨ op = 4 ∨ op = 5 ∨ op = 6 ∨ op = 7 ∨ op = 8 ∨ op = 9 ∨ op = 20 ∨ op = 21) ∨ needsOf op = none := by
  by_cases h : op = 2 ∨ op = 3 ∨ op = 4 ∨ op = 5 ∨ op = 6 ∨ op = 7 ∨ op = 8 ∨ op = 9 ∨ op = 20 ∨ op = 21
  · exact .inl h
  · right
    simp only [needsOf]
    repeat rw [if_neg (by omega)]

theorem one07_any (op reg loc : Int) (le lf : List OpS) (ne : Bool) (goal : Int) (ve vf : Value) (regs locs many : Int) (w : World) (he : Sl rOp w ve le) (hf : Sl rOp w vf lf) :
    Calls Try.prog 61 #[.agg #[.int .i64 op, .int .i64 reg, .int .i64 loc, ve, vf, .bool ne, .int .i64 goal], .int .i64 regs, .int .i64 locs, .int .i64 many] w (BoolBelow (instrOk regs locs many ⟨op, reg, loc, le, lf, ne, goal⟩) w) := by
  rcases needs_kinds op with (rfl | rfl | rfl | rfl | rfl | rfl | rfl | rfl | rfl | rfl) | h
  · exact one07_2 _ _ _ _ _ _ _ _ _ _ _ _ he hf
  · exact one07_3 _ _ _ _ _ _ _ _ _ _ _ _ he hf
  · exact one07_4 _ _ _ _ _ _ _ _ _ _ _ _ he hf
  · exact one07_5 _ _ _ _ _ _ _ _ _ _ _ _ he hf
  · exact one07_6 _ _ _ _ _ _ _ _ _ _ _ _ he hf
  · exact one07_7 _ _ _ _ _ _ _ _ _ _ _ _ he hf
  · exact one07_8 _ _ _ _ _ _ _ _ _ _ _ _ he hf
  · exact one07_9 _ _ _ _ _ _ _ _ _ _ _ _ he hf
  · exact one07_20 _ _ _ _ _ _ _ _ _ _ _ _ he hf
  · exact one07_21 _ _ _ _ _ _ _ _ _ _ _ _ he hf
  · exact one07_none _ _ _ _ _ _ _ _ _ _ _ _ _ he hf h

set_option maxRecDepth 100000 in
set_option maxHeartbeats 4000000 in
theorem right07_head (u : UnitS) (v : Value) (w : World) (hv : UnitV w v u) (hh : headOk u = false ∨ allIn u.init u.mod = false) :
    Calls Try.prog 21 #[v] w (BoolBelow false w) := by
  obtain ⟨vi, vr, vc, rfl, s1, s2, s3, m1, m2⟩ := hv
  have l1 := s1.len; have l2 := s2.len; have l3 := s3.len
  have S1 := Lib.hid s1
  obtain ⟨a1, c1, rfl, h1⟩ := ints_view s1
  obtain ⟨a2, c2, rfl, h2⟩ := ints_view s2
  obtain ⟨a3, c3, rfl, h3⟩ := slices_view s3
  clear s1 s2 s3 h1 h2 h3
  obtain ⟨b, hb⟩ : ∃ b, allIn u.init u.mod = b := ⟨_, rfl⟩
  have HH : Hid (2 ≤ u.mod → u.mod ≤ 16 → b = true → u.init.length ≤ 6 → 1 ≤ u.regs.length → u.regs.length ≤ 4 → u.code.length = u.regs.length → False) := fun h1 h2 h3 h4 h5 h6 h7 => by
    rcases hh with hh | hh
    · exact headOk_no hh h1 h2 h4 h5 h6 h7
    · rw [hb, h3] at hh; cases hh
  clear hh
  obtain ⟨mod, init, regs, code⟩ := u
  dsimp only at *
  have HBB := Lib.hid hb
  clear hb
  obtain ⟨n1, hn1⟩ : ∃ n, init.length = n := ⟨_, rfl⟩
  rw [hn1] at l1 S1 HH ⊢
  clear hn1
  generalize regs.length = n2 at *
  generalize code.length = n3 at *
  cases b
  all_goals
    go_enter Try.func21, Try.ntmps21
    go_wp2_with (first | (go_at_call 59; refine (all06_any init mod _ _ (S1.out.mono (mono_int _) ((Below.refl _ _).alloc (Nat.le_refl _) _))).mono ?_; rintro e w' ⟨rfl, rfl⟩; rw [HBB.out]))
    all_goals
      first
      | (go_ret; exact ⟨rfl, (Below.refl _ _).alloc (Nat.le_refl _) _⟩)
      | (exfalso; exact HH.out (by omega) (by omega) (by first | rfl | trivial) (by omega) (by omega) (by omega) (by first | omega | exact eq_of_ne (by first | assumption | exact (by assumption : _ ∧ ((n3 : Int) != (n2 : Int)) = false).2)))

set_option maxRecDepth 100000 in
set_option maxHeartbeats 8000000 in
theorem right07_main (u : UnitS) (v : Value) (w : World) (hv : UnitV w v u) (hh : headOk u = true) (hi : allIn u.init u.mod = true) :
    Calls Try.prog 21 #[v] w (BoolBelow (rightU u) w) := by
  obtain ⟨vi, vr, vc, rfl, s1, s2, s3, m1, m2⟩ := hv
  have l1 := s1.len; have l2 := s2.len; have l3 := s3.len
  have S1 := Lib.hid s1
  obtain ⟨a1, c1, rfl, h1⟩ := ints_view s1
  obtain ⟨a2, c2, rfl, h2⟩ := ints_view s2
  obtain ⟨a3, c3, rfl, h3⟩ := slices_view s3
  have H2 := Lib.hid h2; have H3 := Lib.hid h3
  clear s1 s2 s3 h1 h2 h3
  have HH := Lib.hid hh
  have HI := Lib.hid hi
  simp only [headOk, decide_eq_true_eq] at hh
  obtain ⟨g1, g2, g3, g4, g5, g6⟩ := hh
  obtain ⟨res, hres⟩ : ∃ r, rightU u = r := ⟨_, rfl⟩
  have HR := Lib.hid hres
  rw [hres]
  clear hres hi
  obtain ⟨mod, init, regs, code⟩ := u
  dsimp only at *
  obtain ⟨n1, hn1⟩ : ∃ n, init.length = n := ⟨_, rfl⟩
  obtain ⟨n2, hn2⟩ : ∃ n, regs.length = n := ⟨_, rfl⟩
  rw [hn1] at g3 S1 ⊢
  rw [hn2] at g4 g5 g6 ⊢
  rw [g6]
  have N1 := Lib.hid hn1; have N2 := Lib.hid hn2; have N3 := Lib.hid g6
  clear hn1 hn2 g6 l1 l2 l3
  have hBW : Below w.heap.size w (w.alloc (.cells #[.int .i64 mod, .slice a1 n1 c1, .slice a2 n2 c2, .slice a3 n2 c3] 25)) := (Below.refl _ _).alloc (Nat.le_refl _) _
  have q1 := new_cell w #[.int .i64 mod, .slice a1 n1 c1, .slice a2 n2 c2, .slice a3 n2 c3] 25 1 _ rfl
  have q2 := new_cell w #[.int .i64 mod, .slice a1 n1 c1, .slice a2 n2 c2, .slice a3 n2 c3] 25 2 _ rfl
  have q3 := new_cell w #[.int .i64 mod, .slice a1 n1 c1, .slice a2 n2 c2, .slice a3 n2 c3] 25 3 _ rfl
  have hWs : w.heap.size < (w.alloc (.cells #[.int .i64 mod, .slice a1 n1 c1, .slice a2 n2 c2, .slice a3 n2 c3] 25)).heap.size := by simp
  have ZZ : Hid (Below w.heap.size w (w.alloc (.cells #[.int .i64 mod, .slice a1 n1 c1, .slice a2 n2 c2, .slice a3 n2 c3] 25)) ∧ _ ∧ _ ∧ _ ∧ _) := ⟨hBW, q1, q2, q3, hWs⟩
  clear hBW q1 q2 q3 hWs
  go_enter Try.func21, Try.ntmps21
  go_wp2_with (first | (go_at_call 59; refine (all06_any init mod _ _ (S1.out.mono (mono_int _) ZZ.out.1)).mono ?_; rintro e w' ⟨rfl, rfl⟩; rw [HI.out]))
  obtain ⟨hBW, q1, q2, q3, hWs⟩ := ZZ.out
  generalize w.alloc (.cells #[.int .i64 mod, .slice a1 n1 c1, .slice a2 n2 c2, .slice a3 n2 c3] 25) = W at *
  have HW := Lib.hid hBW
  clear hBW ZZ
  go_loopw [3] (fun i wr => ∃ k : Nat, i = .int .i64 k ∧ k ≤ n2 ∧ (∀ j, j < regs.length → j < k → threadOk ⟨mod, init, regs, code⟩ j = true) ∧ Below W.heap.size W wr) (fun i _ => n2 - (intOf i).toNat)
  case atStart => exact ⟨0, rfl, by omega, fun j _ h => absurd h (by omega), Below.refl _ _⟩
  case round =>
    obtain ⟨k, rfl, hk, hall, hb⟩ := hrel
    have Hall := Lib.hid hall; have HB := Lib.hid hb
    have hz := hb.size
    have z1 := cell_later hb q1
    have z2 := cell_later hb q2
    have z3 := cell_later hb q3
    clear hall hb
    by_cases hlt : k < n2
    · have hkr : k < regs.length := by have := N2.out; omega
      have hkc : k < code.length := by have := N3.out; omega
      obtain ⟨b, o, rfl, x1, bd1, bd2⟩ := H2.out k hkr
      obtain ⟨b3, o3, vr, rfl, x3, sr⟩ := H3.out k hkc
      clear bd1 bd2
      obtain ⟨x, hx⟩ : ∃ x, regs[k]'hkr = x := ⟨_, rfl⟩
      obtain ⟨row, hrow⟩ : ∃ r, code[k]'hkc = r := ⟨_, rfl⟩
      rw [hx] at x1
      rw [hrow] at sr
      have HT := Lib.hid (show threadOk ⟨mod, init, regs, code⟩ k = (decide (0 ≤ x ∧ x ≤ 6) && rowOk row x n1) by rw [threadOk_of (u := ⟨mod, init, regs, code⟩) hkr hkc, hx, hrow, N1.out])
      clear hx hrow
      have y1 := cell_later HB.out (cell_later HW.out x1)
      have y3 := cell_later HB.out (cell_later HW.out x3)
      have hl4 := sr.len
      obtain ⟨ar, cr, rfl, hr⟩ := instrs_view sr
      have HRW := Lib.hid hr
      clear x1 x3 sr hr
      have Hbad : Hid (threadOk ⟨mod, init, regs, code⟩ k = false → res = false) := fun h => by rw [← HR.out]; exact rightU_bad (u := ⟨mod, init, regs, code⟩) hkr h
      have Hno : Hid (¬ (0 ≤ x ∧ x ≤ 6) ∨ rowOk row x n1 = false → res = false) := fun h => Hbad.out (by
        rw [HT.out]
        rcases h with h | h
        · rw [decide_eq_false h]; rfl
        · rw [h, Bool.and_false])
      have hend : ∀ w', Below wr.heap.size wr w' → Below w.heap.size w w' := fun w' hb => HW.out.trans ((HB.out.trans (hb.mono hz)).mono (by omega))
      have Hend := Lib.hid hend
      clear hend
      obtain ⟨n4, hn4⟩ : ∃ n, row.length = n := ⟨_, rfl⟩
      rw [hn4] at hl4 y3
      have N4 := Lib.hid hn4
      clear hn4
      by_cases c1 : x < 0
      · have HN := Lib.hid (Hno.out (.inl (by omega)))
        go_wp2_with fail
        go_ret
        exact ⟨by rw [HN.out]; rfl, Hend.out _ (Below.refl _ _)⟩
      by_cases c2 : 6 < x
      · have HN := Lib.hid (Hno.out (.inl (by omega)))
        go_wp2_with fail
        go_ret
        exact ⟨by rw [HN.out]; rfl, Hend.out _ (Below.refl _ _)⟩
      by_cases c3 : n4 = 0
      · have HN := Lib.hid (Hno.out (.inr (rowOk_size (by rw [N4.out]; omega))))
        subst c3
        go_wp2_with fail
        go_ret
        exact ⟨by rw [HN.out]; rfl, Hend.out _ (Below.refl _ _)⟩
      by_cases c4 : 1000 < n4
      · have HN := Lib.hid (Hno.out (.inr (rowOk_size (by rw [N4.out]; omega))))
        go_wp2_with fail
        go_ret
        exact ⟨by rw [HN.out]; rfl, Hend.out _ (Below.refl _ _)⟩
      obtain ⟨m, rfl⟩ : ∃ m, n4 = m + 1 := ⟨n4 - 1, by omega⟩
      have hml : m < row.length := by have := N4.out; omega
      obtain ⟨br, orr, ve, vf, rfl, i0, i1, i2, i3, i4, i5, i6, e1, e2, bd⟩ := HRW.out m hml
      clear bd
      obtain ⟨y, hy⟩ : ∃ y, row[m]'hml = y := ⟨_, rfl⟩
      rw [hy] at i0 i1 i2 i5 i6 e1 e2
      have HL : Hid (∀ h : row.length - 1 < row.length, row[row.length - 1]'h = y) := fun h => by rw [← hy]; congr 1; have := N4.out; omega
      clear hy
      have j0 := cell_later HB.out (cell_later HW.out i0); have j1 := cell_later HB.out (cell_later HW.out i1); have j2 := cell_later HB.out (cell_later HW.out i2); have j3 := cell_later HB.out (cell_later HW.out i3)
      have j4 := cell_later HB.out (cell_later HW.out i4); have j5 := cell_later HB.out (cell_later HW.out i5); have j6 := cell_later HB.out (cell_later HW.out i6)
      have E1 := Lib.hid ((e1.mono mono_op HW.out).mono mono_op HB.out); have E2 := Lib.hid ((e2.mono mono_op HW.out).mono mono_op HB.out)
      clear i0 i1 i2 i3 i4 i5 i6 e1 e2 c3
      have d1 : decide (x < 0) = false := decide_eq_false c1
      have d2 : decide (6 < x) = false := decide_eq_false c2
      have hm9 : m ≤ 999 := by omega
      go_wp2_with fail
      refine (done07_any y ve vf _ E1.out E2.out).mono ?_
      rintro e w1 ⟨rfl, hb1⟩
      have HB1 := Lib.hid (HB.out.trans (hb1.mono hz))
      have pp1 := cell_later hb1 z1; have pp2 := cell_later hb1 z2; have pp3 := cell_later hb1 z3; have ppy := cell_later hb1 y1
      have hz1 := hb1.size
      have Hend1 := Lib.hid (Hend.out _ hb1)
      clear hb1 j0 j1 j2 j3 j4 j5 j6 z1 z2 z3 y1 y3
      cases hd : doneOk y
      · have HN := Lib.hid (Hno.out (.inr (rowOk_last (by omega) (by rw [HL.out (by omega)]; exact hd))))
        clear hd
        go_wp2_with fail
        go_ret
        exact ⟨by rw [HN.out]; rfl, Hend1.out⟩
      have HD := Lib.hid hd
      clear hd
      go_wp2_with fail
      have hrlen : row.length = m + 1 := N4.out
      have HRL := Lib.hid hrlen
      clear hrlen hml
      go_loopw [5] (fun i wq => ∃ t : Nat, i = .int .i64 t ∧ t ≤ m ∧ (∀ j (h : j < row.length), j < t → instrOk x n1 row.length row[j] = true) ∧ Below w1.heap.size w1 wq) (fun i _ => m - (intOf i).toNat)
      case atStart => exact ⟨0, rfl, by omega, fun j _ h => absurd h (by omega), Below.refl _ _⟩
      case round =>
        obtain ⟨t, rfl, ht, halli, hbi⟩ := hrel
        have Halli := Lib.hid halli; have HBI := Lib.hid hbi
        have hzi := hbi.size
        have v1 := cell_later hbi pp1; have v2 := cell_later hbi pp2; have v3 := cell_later hbi pp3; have vy := cell_later hbi ppy
        clear halli hbi
        by_cases hti : t < m
        · have htl : t < row.length := by have := HRL.out; omega
          obtain ⟨br2, or2, ve2, vf2, heq, i0, i1, i2, i3, i4, i5, i6, e1, e2, bd⟩ := HRW.out t htl
          simp only [Option.some.injEq, Addr.mk.injEq, and_true] at heq
          obtain ⟨rfl, rfl⟩ := heq
          clear bd
          obtain ⟨yy, hyy⟩ : ∃ yy, row[t]'htl = yy := ⟨_, rfl⟩
          rw [hyy] at i0 i1 i2 i5 i6 e1 e2
          have HY := Lib.hid hyy; clear hyy
          obtain ⟨op, reg, loc, le, lf, ne, goal⟩ := yy
          dsimp only at i0 i1 i2 i5 i6 e1 e2
          have j0 := cell_later HBI.out (cell_later HB1.out (cell_later HW.out i0)); have j1 := cell_later HBI.out (cell_later HB1.out (cell_later HW.out i1)); have j2 := cell_later HBI.out (cell_later HB1.out (cell_later HW.out i2)); have j3 := cell_later HBI.out (cell_later HB1.out (cell_later HW.out i3))
          have j4 := cell_later HBI.out (cell_later HB1.out (cell_later HW.out i4)); have j5 := cell_later HBI.out (cell_later HB1.out (cell_later HW.out i5)); have j6 := cell_later HBI.out (cell_later HB1.out (cell_later HW.out i6))
          have F1 := Lib.hid (((e1.mono mono_op HW.out).mono mono_op HB1.out).mono mono_op HBI.out); have F2 := Lib.hid (((e2.mono mono_op HW.out).mono mono_op HB1.out).mono mono_op HBI.out)
          clear i0 i1 i2 i3 i4 i5 i6 e1 e2
          have f1 := Later.cell v1; have f2 := Later.cell v2; have fy := Later.cell vy
          have g0 := Later.cell j0; have g1 := Later.cell j1; have g2 := Later.cell j2; have g3 := Later.cell j3; have g4 := Later.cell j4; have g5 := Later.cell j5; have g6 := Later.cell j6
          go_wp2_with fail
          refine wp_region_later (by kernel_rfl) (by kernel_rfl) ?_
          repeat (go_big_quiet_step ((go_at_call 61; exact Calls.later (one07_any op reg loc le lf ne goal ve2 vf2 x n1 ((m : Int) + 1) _ (F1.out.mono mono_op (Later.below _)) (F2.out.mono mono_op (Later.below _))) (fun _ _ h => h))))
          refine wpQuiet_nil ?_
          rintro w4 ⟨⟨w5, hb5⟩, rfl⟩
          clear f1 f2 fy g0 g1 g2 g3 g4 g5 g6 j0 j1 j2 j3 j4 j5 j6 v1 v2 v3 vy
          have HB5 := Lib.hid (HBI.out.trans (hb5.mono hzi))
          clear hb5
          cases hok : instrOk x n1 ((m : Int) + 1) ⟨op, reg, loc, le, lf, ne, goal⟩
          · have HN := Lib.hid (Hno.out (.inr (rowOk_bad (k := t) (by have := HRL.out; omega) (by rw [HY.out, HRL.out]; exact hok))))
            clear hok
            go_wp2_with fail
            go_ret
            exact ⟨by rw [HN.out]; rfl, Hend1.out.trans (HB5.out.mono (by have := Hend1.out.size; omega))⟩
          · have HO := Lib.hid hok
            clear hok
            go_wp2_with fail
            go_roundw
            case rel => exact ⟨t + 1, by go_num, by omega, fun j h2 h3 => by
              rcases Nat.lt_or_ge j t with h | h
              · exact Halli.out j h2 h
              · obtain rfl : j = t := by omega
                rw [HY.out, HRL.out]; exact HO.out, HB5.out⟩
            case measure => simp [intOf]; omega
        · have HO := Lib.hid (show threadOk ⟨mod, init, regs, code⟩ k = true by
            rw [HT.out, decide_eq_true (by omega), rowOk_good (by have := HRL.out; omega) (by have := HRL.out; omega) (by rw [HL.out (by have := HRL.out; omega)]; exact HD.out) (fun j hj => Halli.out j (by omega) (by have := HRL.out; omega))]
            rfl)
          clear v1 v2 v3 vy
          go_wp2_with fail
          go_roundw
          case rel => exact ⟨k + 1, by go_num, by omega, fun j h2 h3 => by
            rcases Nat.lt_or_ge j k with h | h
            · exact Hall.out j h2 h
            · obtain rfl : j = k := by omega
              exact HO.out, HB1.out.trans (HBI.out.mono (by omega))⟩
          case measure => simp [intOf]; omega
    · have HG := Lib.hid (show res = true by rw [← HR.out]; exact rightU_good (u := ⟨mod, init, regs, code⟩) HH.out HI.out (fun j hj => Hall.out j hj (by have := N2.out; dsimp only at hj; omega)))
      go_wp2_with fail
      go_ret
      exact ⟨by rw [HG.out]; rfl, HW.out.trans (HB.out.mono (by omega))⟩

theorem right07_any (u : UnitS) (v : Value) (w : World) (hv : UnitV w v u) : Calls Try.prog 21 #[v] w (BoolBelow (rightU u) w) := by
  cases hh : headOk u
  · rw [rightU_head hh]; exact right07_head u v w hv (.inl hh)
  · cases hi : allIn u.init u.mod
    · rw [rightU_init hi]; exact right07_head u v w hv (.inr hi)
    · exact right07_main u v w hv hh hi

end Go.Proofs.Ytaocgmkcjemecaa
