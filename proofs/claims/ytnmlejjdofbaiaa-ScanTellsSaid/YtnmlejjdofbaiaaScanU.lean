/- Parts of the proofs of the laws of layer 1, scan (text ScanU). Conditions: none. -/
import Derived.Test.YtnmlejjdofbaiaaScanS
/- The walk of ScanTells. -/
namespace Go.Proofs.Ytnmlejjdofbaiaa
open Go.RowKit

set_option maxRecDepth 100000 in
set_option maxHeartbeats 4000000 in
theorem scanTells_walk (w : World) (s : ByteArray) (hs : s.size ≤ maxLen) (v : Value) (l : List Tok) (hv : Toks w v l ∧ l.length ≤ 9223372036854775807) : Calls Try.prog 4 #[.string s, v] w (LawPost w) := by
  unfold maxLen at hs
  obtain ⟨hv, hl⟩ := hv
  have HV := Lib.hid hv
  obtain ⟨a, c, rfl, hc⟩ := hv.view
  have HC := Lib.hid hc; clear hc hv
  by_cases hbig : 300 < s.size
  · go_enter Try.func4, Try.ntmps4
    go_wp2_with fail
    refine go_known (w0 := w) _ (Below.refl _ _) fun w1 hb => ?_
    go_wp2
    go_ret
    exact ⟨rfl, hb⟩
  · by_cases hlong : 100 < l.length
    · go_enter Try.func4, Try.ntmps4
      go_wp2_with fail
      refine go_known (w0 := w) _ (Below.refl _ _) fun w1 hb => ?_
      go_wp2
      go_ret
      exact ⟨rfl, hb⟩
    · go_enter Try.func4, Try.ntmps4
      go_wp2
      go_loop [5] (fun i => ∃ k : Nat, i = .int .i64 k ∧ k ≤ l.length ∧ ∀ j (h : j < l.length), j < k → l[j].text.length ≤ 100) (fun i => l.length - (intOf i).toNat)
      case atStart => exact ⟨0, rfl, by omega, fun j _ h => absurd h (by omega)⟩
      case round =>
        obtain ⟨k, rfl, hk, hall⟩ := hrel
        have Hall := Lib.hid hall; clear hall
        by_cases hlt : k < l.length
        · obtain ⟨b, o, rfl, x1, x2, x3, x4⟩ := HC.out k hlt
          by_cases h100 : 100 < l[k].text.length
          · go_wp2_with fail
            refine go_known (w0 := w) _ (Below.refl _ _) fun w1 hb => ?_
            go_wp2
            go_ret
            exact ⟨rfl, hb⟩
          · go_wp2
            go_round
            case rel => exact ⟨k + 1, by go_num, by omega, fun j h1 h2 => by
              rcases Nat.lt_or_ge j k with h | h
              · exact Hall.out j h1 h
              · obtain rfl : j = k := by omega
                omega⟩
            case measure => simp [intOf]; omega
        · have Hm : Hid (∀ t ∈ l, t.text.length ≤ 100) := fun t ht => by
            obtain ⟨j, hj, rfl⟩ := List.getElem_of_mem ht
            exact Hall.out j hj (by omega)
          go_wp2_with fail
          refine (keyword_any s _).mono ?_
          rintro e wk ⟨rfl, rfl⟩
          go_wp2_with fail
          refine (refKeyword_any s _).mono ?_
          rintro e w1 ⟨rfl, hb1⟩
          have HB1 := Lib.hid hb1; have HV1 := Lib.hid (HV.out.mono hb1); clear hb1
          go_wp2_with fail
          refine (name_any s _ hs).mono ?_
          rintro e w2 ⟨rfl, hb2⟩
          have HB2 := Lib.hid (HB1.out.trans (hb2.mono HB1.out.size)); have HV2 := Lib.hid (HV1.out.mono hb2); clear hb2
          go_wp2_with fail
          refine (refName_any s _ hs).mono ?_
          rintro e w3 ⟨rfl, hb3⟩
          have HB3 := Lib.hid (HB2.out.trans (hb3.mono HB2.out.size)); have HV3 := Lib.hid (HV2.out.mono hb3); clear hb3
          go_wp2_with fail
          refine (show_any l _ 100 _ HV3.out (by omega) (by omega) Hm.out).mono ?_
          rintro e w4 ⟨rfl, hb4⟩
          have HB4 := Lib.hid (HB3.out.trans (hb4.mono HB3.out.size)); have HV4 := Lib.hid (HV3.out.mono hb4); clear hb4
          go_wp2_with fail
          refine (refShow_any l _ 100 _ HV4.out (by omega) (by omega) Hm.out).mono ?_
          rintro e w5 ⟨rfl, hb5⟩
          have HB5 := Lib.hid (HB4.out.trans (hb5.mono HB4.out.size)); clear hb5
          go_wp2_with fail
          refine go_known (w0 := w) _ HB5.out fun w6 hb => ?_
          go_wp2
          go_ret
          exact ⟨rfl, hb⟩

end Go.Proofs.Ytnmlejjdofbaiaa
