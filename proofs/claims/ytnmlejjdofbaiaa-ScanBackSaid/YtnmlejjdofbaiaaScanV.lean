/- Parts of the proofs of the laws of layer 1, scan (text ScanV). Conditions: none. -/
import Derived.Test.YtnmlejjdofbaiaaScanS
/- The walk of ScanBack. -/
namespace Go.Proofs.Ytnmlejjdofbaiaa
open Go.RowKit

theorem good_str {s : ByteArray} {q : Nat} {tx : List UInt8} (h : (s.data.toList.drop q).take tx.length = tx) : ((s.extract q (q + tx.length)).toList == tx) = true := by
  rw [Lib.extract_toList, show q + tx.length - q = tx.length by omega, h]
  exact list_eq rfl

set_option maxRecDepth 100000 in
set_option maxHeartbeats 4000000 in
theorem scanBack_walk (w : World) (s : ByteArray) (hs : s.size ≤ maxLen) : Calls Try.prog 5 #[.string s] w (LawPost w) := by
  unfold maxLen at hs
  by_cases hbig : 3000 < s.size
  · go_enter Try.func5, Try.ntmps5
    go_wp2_with fail
    refine go_known (w0 := w) _ (Below.refl _ _) fun w1 hb => ?_
    go_wp2
    go_ret
    exact ⟨rfl, hb⟩
  · have HE := Lib.hid (fun h => scan_err (l := s.data.toList) (by rw [len_toList]; omega) h)
    have HG := Lib.hid (fun h => scan_back (L := s.data.toList) (by rw [len_toList]; omega) h)
    obtain ⟨r, hr⟩ : ∃ r, scanL s.data.toList = r := ⟨_, rfl⟩
    rw [hr, len_toList] at HE
    rw [hr] at HG
    have HR := Lib.hid hr; clear hr
    go_enter Try.func5, Try.ntmps5
    go_wp2_with fail
    refine (scan_any s _).mono ?_
    rintro e w1 ⟨v1, rfl, ho1, hb1⟩
    rw [HR.out] at ho1 ⊢
    have hT : Toks w1 v1 r.toks := Arr.of_owns ho1
    have hlen := owns_len ho1
    have HT := Lib.hid hT; have HB1 := Lib.hid hb1
    clear ho1 hb1
    obtain ⟨a, c, rfl, hc⟩ := hT.view
    have HC := Lib.hid hc; clear hc hT
    by_cases he : r.err = 0
    · have d0 : (r.err != 0) = false := by rw [he]; rfl
      obtain ⟨g1, g2, g3, g4, g5, g6, g7⟩ := HG.out he
      clear he
      obtain ⟨r2, hr2⟩ : ∃ r2, scanL (showB r.toks r.toks.length) = r2 := ⟨_, rfl⟩
      rw [hr2] at g6 g7
      have HR2 := Lib.hid hr2; have G1 := Lib.hid g1; have G2 := Lib.hid g2; have G4 := Lib.hid g4; have G7 := Lib.hid g7
      have d1 : (r2.err == 0) = true := by rw [g6]; rfl
      clear hr2 g1 g2 g4 g7 g6 HE HG
      go_wp2_with fail
      refine (show_any r.toks _ 3000 _ HT.out (by omega) (by omega) G4.out).mono ?_
      rintro e w2 ⟨rfl, hb2⟩
      have HB2 := Lib.hid (HB1.out.trans (hb2.mono HB1.out.size)); have HT2 := Lib.hid (HT.out.mono hb2); clear hb2
      go_wp2_with fail
      refine (scan_any (bs (showB r.toks r.toks.length)) _).mono ?_
      rintro e w3 ⟨v3, rfl, ho3, hb3⟩
      have e3 : (bs (showB r.toks r.toks.length)).data.toList = showB r.toks r.toks.length := rfl
      rw [e3, HR2.out] at ho3 ⊢
      clear e3
      have HB3 := Lib.hid (HB2.out.trans (hb3.mono HB2.out.size)); have HT3 := Lib.hid (HT2.out.mono hb3)
      have hl3 := owns_len ho3
      have HM3 := Lib.hid (Arr.of_owns ho3)
      clear ho3 hb3
      have hc3 : ∀ k (hk : k < r.toks.length), ∃ b off, a = some ⟨b, off, none⟩ ∧ w3.cell? ⟨b, off + k * 4 + 1, none⟩ = some (.string (bs r.toks[k].text)) ∧ w3.cell? ⟨b, off + k * 4 + 3, none⟩ = some (.int .i64 r.toks[k].at') := by
        obtain ⟨a', c', e', hc'⟩ := HT3.out.view
        cases e'
        intro k hk
        obtain ⟨b, o, e, _, h2, _, h4⟩ := hc' k hk
        exact ⟨b, o, e, h2, h4⟩
      have HC3 := Lib.hid hc3; clear hc3
      go_wp2
      go_loopw [9] (fun i wr => ∃ k n : Nat, i = .int .i64 k ∧ k ≤ r.toks.length ∧ wr = w3.drewN n) (fun i _ => r.toks.length - (intOf i).toNat)
      case atStart => exact ⟨0, 0, rfl, by omega, rfl⟩
      case round =>
        obtain ⟨k, m, rfl, hk, rfl⟩ := hrel
        by_cases hlt : k < r.toks.length
        · obtain ⟨q, vn, hat, _, hend, htext, _⟩ := G1.out _ (List.getElem_mem hlt)
          have HX := Lib.hid (good_str htext)
          obtain ⟨b, o, rfl, x2, x4⟩ := HC3.out k hlt
          rw [hat] at x4
          rw [len_toList] at hend
          obtain ⟨tx, htx⟩ : ∃ tx, r.toks[k].text = tx := ⟨_, rfl⟩
          rw [htx] at x2 hend HX
          clear htext htx
          have hx := HX.out
          have f1 : decide ((q : Int) < 0) = false := by rw [decide_eq_false_iff_not]; omega
          have f2 : decide ((s.size : Int) < (q : Int) + (tx.length : Int)) = false := by rw [decide_eq_false_iff_not]; omega
          by_cases h0 : 0 < k
          · obtain ⟨b', o', e', y2, y4⟩ := HC3.out (k - 1) (by omega)
            cases e'
            have hsort := List.pairwise_iff_getElem.1 G2.out (k - 1) k (by omega) hlt (by omega)
            obtain ⟨q2, _, hat2, _⟩ := G1.out _ (List.getElem_mem (show k - 1 < r.toks.length by omega))
            rw [hat2] at y4 hsort
            rw [hat] at hsort
            have y5 : w3.cell? ⟨b, o + (k - 1) * 4 + 3, none⟩ = some (.int .i64 q2) := y4
            have hq : q2 < q := by omega
            have hqb : q2 ≤ 3000 := by omega
            clear hat hat2 hsort y4
            have f3 : decide ((0 : Int) < (k : Int)) = true := by rw [decide_eq_true_eq]; omega
            have f4 : decide ((q : Int) ≤ (q2 : Int)) = false := by rw [decide_eq_false_iff_not]; omega
            go_wp2
            go_quiet (fail)
            go_wp2
            go_quiet (fail)
            go_wp2
            go_roundw
            case rel => exact ⟨k + 1, _, by go_num, by omega, rfl⟩
            case measure => simp [intOf]; omega
          · have f3 : decide ((0 : Int) < (k : Int)) = false := by rw [decide_eq_false_iff_not]; omega
            clear hat
            go_wp2
            go_quiet (fail)
            go_wp2
            go_quiet (fail)
            go_wp2
            go_roundw
            case rel => exact ⟨k + 1, _, by go_num, by omega, rfl⟩
            case measure => simp [intOf]; omega
        · go_wp2_with fail
          refine (same_any r.toks r2.toks _ v3 false _ (HT3.out.mono (below_drewN (Below.refl _ _) _)) (Arr.mono HM3.out (below_drewN (Below.refl _ _) _)) hlen hl3).mono ?_
          rintro e w6 ⟨rfl, n6, rfl⟩
          rw [G7.out]
          go_wp2_with fail
          refine go_known (w0 := w) _ (below_drewN HB3.out _) fun w6 hb => ?_
          go_wp2
          go_ret
          exact ⟨rfl, hb⟩
    · have d0 : (r.err != 0) = true := by simpa using he
      obtain ⟨g1, g2, g3⟩ := HE.out he
      have g1' : r.toks.length = 0 := by rw [g1]; rfl
      clear he g1
      go_wp2_with fail
      refine go_known (w0 := w) _ HB1.out fun w6 hb => ?_
      go_wp2
      go_ret
      exact ⟨rfl, hb⟩

end Go.Proofs.Ytnmlejjdofbaiaa
