/- Parts of the proofs of the laws of layer 1, scan (text ScanJ). Conditions: none. -/
import Derived.Test.YtnmlejjdofbaiaaScanI
import Derived.Test.YtnmlejjdofbaiaaScanD
namespace Go.Proofs.Ytnmlejjdofbaiaa
open Go.RowKit

def RNamePost (s : ByteArray) (w : World) (e : Ending) (w' : World) : Prop := e = .returned (.bool (nameB s.data.toList)) ∧ Below w.heap.size w w'

theorem nameB_long {l : List UInt8} (h : 16 < l.length) : nameB l = false := by
  have : decide (l.length ≤ 16) = false := by simp; omega
  simp [nameB, this]
theorem nameB_kw {l : List UInt8} (h : kwB l = true) : nameB l = false := by simp [nameB, h]
theorem nameB_empty : nameB [] = false := rfl

set_option maxHeartbeats 2000000 in
theorem refName_any (s : ByteArray) (w : World) (hs : s.size ≤ 9223372036854775807) :
    Calls Try.prog 15 #[.string s] w (RNamePost s w) := by
  by_cases h0 : s.size < 1
  · have hN : nameB s.data.toList = false := by
      have : s.data.toList = [] := List.eq_nil_of_length_eq_zero (by rw [len_toList]; omega)
      rw [this]; rfl
    have HN := Lib.hid hN; clear hN
    go_enter Try.func15, Try.ntmps15
    go_wp2
    go_ret
    exact ⟨by rw [HN.out]; rfl, Below.refl _ _⟩
  · by_cases h16 : 16 < s.size
    · have HN := Lib.hid (nameB_long (l := s.data.toList) (by rw [len_toList]; exact h16))
      go_enter Try.func15, Try.ntmps15
      go_wp2
      go_ret
      exact ⟨by rw [HN.out]; rfl, Below.refl _ _⟩
    · have h0' : 0 < s.size := by omega
      have hA := nameAt_of s 0 h0'
      have HA := Lib.hid hA; clear hA
      by_cases h1 : letterB (s[0]'h0').toNat = true
      · by_cases h2 : kwB s.data.toList = true
        · have HN := Lib.hid (nameB_kw h2)
          go_enter Try.func15, Try.ntmps15
          go_wp2_with (first
            | (go_at_call 28; refine (refLetter_any _ _).mono ?_; rintro e w' ⟨rfl, rfl⟩)
            | (go_at_call 13; refine (refKeyword_any _ _).mono ?_; rintro e w' ⟨rfl, hb⟩))
          go_ret
          exact ⟨by rw [HN.out]; rfl, hb⟩
        · have h2' : kwB s.data.toList = false := by simpa using h2
          clear h2
          go_enter Try.func15, Try.ntmps15
          go_wp2_with (first
            | (go_at_call 28; refine (refLetter_any _ _).mono ?_; rintro e w' ⟨rfl, rfl⟩)
            | (go_at_call 13; refine (refKeyword_any _ _).mono ?_; rintro e w' ⟨rfl, hb⟩))
          have Hb := Lib.hid hb; clear hb
          have H1 := Lib.hid h1; clear h1
          have H2 := Lib.hid h2'; clear h2'
          go_loop [3] (fun i => ∃ k : Nat, i = .int .i64 k ∧ k ≤ s.size ∧ ∀ j, j < k → nameAt s.data.toList j = true) (fun i => s.size - (intOf i).toNat)
          case atStart => exact ⟨0, rfl, by omega, fun j h => absurd h (by omega)⟩
          case round =>
            obtain ⟨k, rfl, hk, hall⟩ := hrel
            have Hall := Lib.hid hall; clear hall
            by_cases hlt : k < s.size
            · have HK := Lib.hid (nameAt_of s k hlt)
              by_cases h3 : letterB (s[k]'hlt).toNat = true
              · go_wp2_with (first
                  | (go_at_call 28; refine (refLetter_any _ _).mono ?_; rintro e w' ⟨rfl, rfl⟩))
                go_round
                case rel => exact ⟨k + 1, by go_num, by omega, fun j h2 => by
                    rcases Nat.lt_or_ge j k with h | h
                    · exact Hall.out j h
                    · obtain rfl : j = k := by omega
                      rw [HK.out, h3]; rfl⟩
                case measure => simp [intOf]; omega
              · have h3' : letterB (s[k]'hlt).toNat = false := by simpa using h3
                clear h3
                by_cases h4 : digitB (s[k]'hlt).toNat = true
                · go_wp2_with (first
                    | (go_at_call 28; refine (refLetter_any _ _).mono ?_; rintro e w' ⟨rfl, rfl⟩)
                    | (go_at_call 29; refine (refDigit_any _ _).mono ?_; rintro e w' ⟨rfl, rfl⟩))
                  go_round
                  case rel => exact ⟨k + 1, by go_num, by omega, fun j h2 => by
                      rcases Nat.lt_or_ge j k with h | h
                      · exact Hall.out j h
                      · obtain rfl : j = k := by omega
                        have : 0 < j := by
                          rcases Nat.eq_zero_or_pos j with h5 | h5
                          · subst h5
                            have := H1.out
                            rw [h3'] at this
                            simp at this
                          · exact h5
                        rw [HK.out, h4]; simp [this]⟩
                  case measure => simp [intOf]; omega
                · have h4' : digitB (s[k]'hlt).toNat = false := by simpa using h4
                  clear h4
                  have HN := Lib.hid (nameB_bad (l := s.data.toList) (k := k) (by rw [len_toList]; exact hlt) (by rw [HK.out, h3', h4']; simp))
                  go_wp2_with (first
                    | (go_at_call 28; refine (refLetter_any _ _).mono ?_; rintro e w' ⟨rfl, rfl⟩)
                    | (go_at_call 29; refine (refDigit_any _ _).mono ?_; rintro e w' ⟨rfl, rfl⟩))
                  go_ret
                  exact ⟨by rw [HN.out]; rfl, Hb.out⟩
            · have hN := nameB_good (l := s.data.toList) (fun j hj => Hall.out j (by rw [len_toList] at hj; omega))
              have hN2 : nameB s.data.toList = true := by
                rw [hN, H2.out, len_toList]
                have : s.data.toList.isEmpty = false := by
                  rw [Bool.eq_false_iff]
                  intro h
                  have := List.isEmpty_iff.1 h
                  have := congrArg List.length this
                  rw [len_toList, List.length_nil] at this
                  omega
                rw [this, decide_eq_true (show s.size ≤ 16 by omega)]; rfl
              have HN := Lib.hid hN2; clear hN hN2
              go_wp2
              go_ret
              exact ⟨by rw [HN.out]; rfl, Hb.out⟩
      · have h1' : letterB (s[0]'h0').toNat = false := by simpa using h1
        have HN := Lib.hid (nameB_bad (l := s.data.toList) (k := 0) (by rw [len_toList]; exact h0') (by rw [HA.out, h1']; simp))
        clear h1
        go_enter Try.func15, Try.ntmps15
        go_wp2_with (first
          | (go_at_call 28; refine (refLetter_any _ _).mono ?_; rintro e w' ⟨rfl, rfl⟩))
        go_ret
        exact ⟨by rw [HN.out]; rfl, Below.refl _ _⟩

end Go.Proofs.Ytnmlejjdofbaiaa
