/- Reference 07's Light: a unit whose lists are short. Parts of the proofs of the laws of layers 6 to 22. Conditions: none. -/
import Derived.Test.YtaocgmkcjemecaaLowE
namespace Go.Proofs.Ytaocgmkcjemecaa
open Go.RowKit
set_option linter.unusedVariables false
set_option linter.unusedSimpArgs false

theorem lightU_head {u : UnitS} (h : ¬ (u.init.length ≤ 20 ∧ u.regs.length ≤ 20 ∧ u.code.length ≤ 8)) : lightU u = false := by simp only [lightU, decide_eq_false h, Bool.false_and]
theorem lightU_bad {u : UnitS} {k : Nat} (hk : k < u.code.length) (h : lightRow u.code[k] = false) : lightU u = false := by
  have : u.code.all lightRow = false := by
    rw [Bool.eq_false_iff]; intro e; rw [List.all_eq_true] at e
    have := e _ (List.getElem_mem hk); rw [h] at this; simp at this
  simp only [lightU, this, Bool.and_false]
theorem lightU_good {u : UnitS} (h : u.init.length ≤ 20 ∧ u.regs.length ≤ 20 ∧ u.code.length ≤ 8) (h2 : ∀ k (hk : k < u.code.length), lightRow u.code[k] = true) : lightU u = true := by
  have : u.code.all lightRow = true := by
    rw [List.all_eq_true]; intro x hx; obtain ⟨k, hk, rfl⟩ := List.getElem_of_mem hx; exact h2 k hk
  simp only [lightU, this, decide_eq_true h, Bool.and_self]
theorem lightRow_size {r : List InstrS} (h : 200 < r.length) : lightRow r = false := by simp only [lightRow, decide_eq_false (show ¬ r.length ≤ 200 by omega), Bool.false_and]
theorem lightRow_bad {r : List InstrS} {k : Nat} (hk : k < r.length) (h : ¬ (r[k].e.length ≤ 300 ∧ r[k].f.length ≤ 300)) : lightRow r = false := by
  have : (r.all fun x => decide (x.e.length ≤ 300 ∧ x.f.length ≤ 300)) = false := by
    rw [Bool.eq_false_iff]; intro e; rw [List.all_eq_true] at e
    have := e _ (List.getElem_mem hk); exact h (of_decide_eq_true this)
  simp only [lightRow, this, Bool.and_false]
theorem lightRow_good {r : List InstrS} (h : r.length ≤ 200) (h2 : ∀ k (hk : k < r.length), r[k].e.length ≤ 300 ∧ r[k].f.length ≤ 300) : lightRow r = true := by
  have : (r.all fun x => decide (x.e.length ≤ 300 ∧ x.f.length ≤ 300)) = true := by
    rw [List.all_eq_true]; intro x hx; obtain ⟨k, hk, rfl⟩ := List.getElem_of_mem hx; exact decide_eq_true (h2 k hk)
  simp only [lightRow, this, decide_eq_true h, Bool.and_self]

set_option maxRecDepth 100000 in
set_option maxHeartbeats 4000000 in
theorem light07_any (u : UnitS) (v : Value) (w : World) (hv : UnitV w v u) : Calls Try.prog 17 #[v] w (BoolBelow (lightU u) w) := by
  obtain ⟨vi, vr, vc, rfl, s1, s2, s3, m1, m2⟩ := hv
  have l1 := s1.len; have l2 := s2.len; have l3 := s3.len
  obtain ⟨a1, c1, rfl, h1⟩ := ints_view s1
  obtain ⟨a2, c2, rfl, h2⟩ := ints_view s2
  obtain ⟨a3, c3, rfl, h3⟩ := slices_view s3
  have H3 := Lib.hid h3
  clear s1 s2 s3 h1 h2 h3
  obtain ⟨res, hres⟩ : ∃ r, lightU u = r := ⟨_, rfl⟩
  have HR := Lib.hid hres
  rw [hres]
  clear hres
  obtain ⟨mod, init, regs, code⟩ := u
  dsimp only at *
  obtain ⟨n1, hn1⟩ : ∃ n, init.length = n := ⟨_, rfl⟩
  obtain ⟨n2, hn2⟩ : ∃ n, regs.length = n := ⟨_, rfl⟩
  obtain ⟨n3, hn3⟩ : ∃ n, code.length = n := ⟨_, rfl⟩
  rw [hn1] at l1 ⊢; rw [hn2] at l2 ⊢; rw [hn3] at l3 ⊢
  have N1 := Lib.hid hn1; have N2 := Lib.hid hn2; have N3 := Lib.hid hn3
  clear hn1 hn2 hn3
  have HA := Lib.hid ((Below.refl w.heap.size w).alloc (Nat.le_refl _) (.cells #[.int .i64 mod, .slice a1 n1 c1, .slice a2 n2 c2, .slice a3 n3 c3] 25))
  by_cases hbig : ¬ (n1 ≤ 20 ∧ n2 ≤ 20 ∧ n3 ≤ 8)
  · have HN := Lib.hid (show res = false by rw [← HR.out]; exact lightU_head (u := ⟨mod, init, regs, code⟩) (by rw [← N1.out, ← N2.out, ← N3.out] at hbig; exact hbig))
    have HH : Hid (n1 ≤ 20 → n2 ≤ 20 → n3 ≤ 8 → False) := fun h1 h2 h3 => hbig ⟨h1, h2, h3⟩
    rw [HN.out]
    clear hbig
    go_enter Try.func17, Try.ntmps17
    go_wp2_with fail
    all_goals
      first
      | (go_ret; exact ⟨rfl, HA.out⟩)
      | (exfalso; exact HH.out (by omega) (by omega) (by omega))
  · obtain ⟨g1, g2, g3⟩ := Decidable.not_not.1 hbig
    clear hbig
    go_enter Try.func17, Try.ntmps17
    go_wp2_with fail
    have q3 := new_cell w #[.int .i64 mod, .slice a1 n1 c1, .slice a2 n2 c2, .slice a3 n3 c3] 25 3 _ rfl
    generalize w.alloc (.cells #[.int .i64 mod, .slice a1 n1 c1, .slice a2 n2 c2, .slice a3 n3 c3] 25) = W at *
    go_loop [3] (fun i => ∃ k : Nat, i = .int .i64 k ∧ k ≤ n3 ∧ ∀ j (h : j < code.length), j < k → lightRow code[j] = true) (fun i => n3 - (intOf i).toNat)
    case atStart => exact ⟨0, rfl, by omega, fun j _ h => absurd h (by omega)⟩
    case round =>
      obtain ⟨k, rfl, hk, hall⟩ := hrel
      have Hall := Lib.hid hall; clear hall
      by_cases hlt : k < n3
      · have hkc : k < code.length := by have := N3.out; omega
        obtain ⟨b3, o3, vr, rfl, x3, sr⟩ := H3.out k hkc
        obtain ⟨row, hrow⟩ : ∃ r, code[k]'hkc = r := ⟨_, rfl⟩
        rw [hrow] at sr
        have HROW := Lib.hid hrow
        clear hrow
        have y3 := cell_later HA.out x3
        have hl4 := sr.len
        obtain ⟨ar, cr, rfl, hr⟩ := instrs_view sr
        have HRW := Lib.hid hr
        clear x3 sr hr
        obtain ⟨n4, hn4⟩ : ∃ n, row.length = n := ⟨_, rfl⟩
        rw [hn4] at hl4 y3
        have N4 := Lib.hid hn4
        clear hn4
        have Hbad : Hid (lightRow row = false → res = false) := fun h => by rw [← HR.out]; exact lightU_bad (u := ⟨mod, init, regs, code⟩) hkc (by show lightRow (code[k]'hkc) = false; rw [HROW.out]; exact h)
        by_cases c4 : 200 < n4
        · have HN := Lib.hid (Hbad.out (lightRow_size (by rw [N4.out]; exact c4)))
          go_wp2_with fail
          go_ret
          exact ⟨by rw [HN.out]; rfl, HA.out⟩
        · go_wp2_with fail
          go_loop [4] (fun i => ∃ t : Nat, i = .int .i64 t ∧ t ≤ n4 ∧ ∀ j (h : j < row.length), j < t → row[j].e.length ≤ 300 ∧ row[j].f.length ≤ 300) (fun i => n4 - (intOf i).toNat)
          case atStart => exact ⟨0, rfl, by omega, fun j _ h => absurd h (by omega)⟩
          case round =>
            obtain ⟨t, rfl, ht, halli⟩ := hrel
            have Halli := Lib.hid halli; clear halli
            by_cases hti : t < n4
            · have htl : t < row.length := by have := N4.out; omega
              obtain ⟨br2, or2, ve2, vf2, rfl, i0, i1, i2, i3, i4, i5, i6, e1, e2, bd⟩ := HRW.out t htl
              obtain ⟨yy, hyy⟩ : ∃ yy, row[t]'htl = yy := ⟨_, rfl⟩
              rw [hyy] at e1 e2
              have HY := Lib.hid hyy
              clear hyy bd i0 i1 i2 i5 i6
              have k1 := e1.len; have k2 := e2.len
              obtain ⟨ae, ce, rfl, _⟩ := ops_view e1
              obtain ⟨af, cf, rfl, _⟩ := ops_view e2
              have j3 := cell_later HA.out i3; have j4 := cell_later HA.out i4
              clear e1 e2 i3 i4
              obtain ⟨p1, hp1⟩ : ∃ n, yy.e.length = n := ⟨_, rfl⟩
              obtain ⟨p2, hp2⟩ : ∃ n, yy.f.length = n := ⟨_, rfl⟩
              rw [hp1] at j3 k1
              rw [hp2] at j4 k2
              have P1 := Lib.hid hp1; have P2 := Lib.hid hp2
              clear hp1 hp2
              by_cases d1 : 300 < p1
              · have HN := Lib.hid (Hbad.out (lightRow_bad htl (by rw [HY.out, P1.out, P2.out]; omega)))
                go_wp2_with fail
                go_ret
                exact ⟨by rw [HN.out]; rfl, HA.out⟩
              · by_cases d2 : 300 < p2
                · have HN := Lib.hid (Hbad.out (lightRow_bad htl (by rw [HY.out, P1.out, P2.out]; omega)))
                  go_wp2_with fail
                  go_ret
                  exact ⟨by rw [HN.out]; rfl, HA.out⟩
                · go_wp2_with fail
                  go_round
                  case rel => exact ⟨t + 1, by go_num, by omega, fun j h2 h3 => by
                    rcases Nat.lt_or_ge j t with h | h
                    · exact Halli.out j h2 h
                    · obtain rfl : j = t := by omega
                      rw [HY.out, P1.out, P2.out]; omega⟩
                  case measure => simp [intOf]; omega
            · have HG := Lib.hid (show lightRow row = true from lightRow_good (by rw [N4.out]; omega) (fun j hj => Halli.out j hj (by have := N4.out; omega)))
              go_wp2_with fail
              go_round
              case rel => exact ⟨k + 1, by go_num, by omega, fun j h2 h3 => by
                rcases Nat.lt_or_ge j k with h | h
                · exact Hall.out j h2 h
                · obtain rfl : j = k := by omega
                  rw [HROW.out]; exact HG.out⟩
              case measure => simp [intOf]; omega
      · have HG := Lib.hid (show res = true by rw [← HR.out]; exact lightU_good (u := ⟨mod, init, regs, code⟩) (by show init.length ≤ 20 ∧ regs.length ≤ 20 ∧ code.length ≤ 8; rw [N1.out, N2.out, N3.out]; exact ⟨g1, g2, g3⟩) (fun j hj => Hall.out j hj (by have := N3.out; dsimp only at hj; omega)))
        go_wp2_with fail
        go_ret
        exact ⟨by rw [HG.out]; rfl, HA.out⟩

end Go.Proofs.Ytaocgmkcjemecaa
