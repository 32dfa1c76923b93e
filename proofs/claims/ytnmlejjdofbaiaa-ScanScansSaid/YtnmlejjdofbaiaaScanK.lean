/- Parts of the proofs of the laws of layer 1, scan (text ScanK). Conditions: none. -/
import Derived.Test.YtnmlejjdofbaiaaScanI
import Derived.Test.YtnmlejjdofbaiaaScanD
namespace Go.Proofs.Ytnmlejjdofbaiaa
open Go.RowKit

theorem drop_at (s : ByteArray) (k : Nat) (hk : k < s.size) : s.data.toList.drop k = s[k] :: s.data.toList.drop (k + 1) := by
  rw [List.drop_eq_getElem_cons (by rw [len_toList]; exact hk)]
  rfl

theorem byte_is {c : UInt8} {n : Nat} (h : c.toNat = n) : ((c.toNat : Int) == (n : Int)) = true := by simp [h]
theorem byte_isnt {c : UInt8} {n : Nat} (h : c.toNat ≠ n) : ((c.toNat : Int) == (n : Int)) = false := by rw [beq_eq_false_iff_ne]; omega
theorem byte_isnt' {c : UInt8} {n : Nat} (h : c.toNat ≠ n) : ((c.toNat : Int) != (n : Int)) = true := by rw [bne_iff_ne]; omega

def GapPost (s : ByteArray) (p : Nat) (w : World) (e : Ending) (w' : World) : Prop := e = .returned (.int .i64 (p + gapS false (s.data.toList.drop p) : Nat)) ∧ w = w'

set_option maxHeartbeats 4000000 in
theorem gap_any (s : ByteArray) (p : Nat) (w : World) (hs : s.size ≤ 4000000000000000000) (hp : p ≤ s.size) :
    Calls Try.prog 25 #[.string s, .int .i64 p] w (GapPost s p w) := by
  go_enter Try.func25, Try.ntmps25
  go_wp2
  go_loop [1] (fun i => ∃ k : Nat, i = .int .i64 k ∧ k ≤ s.size ∧ k + gapS false (s.data.toList.drop k) = p + gapS false (s.data.toList.drop p)) (fun i => s.size - (intOf i).toNat)
  case atStart => exact ⟨p, rfl, by omega, rfl⟩
  case round =>
    obtain ⟨k, rfl, hk, hrel⟩ := hrel
    have HR := Lib.hid hrel; clear hrel
    by_cases hlt : k < s.size
    · have HD := Lib.hid (drop_at s k hlt)
      by_cases h1 : blankB (s[k]'hlt).toNat = true
      · have HG : Hid (gapS false (s.data.toList.drop k) = 1 + gapS false (s.data.toList.drop (k + 1))) := by
          simp only [Hid]
          rw [HD.out, gapS, if_pos h1]
        by_cases c1 : (s[k]'hlt).toNat = 32
        · have d1 : (((s[k]'hlt).toNat : Int) == 32) = true := byte_is (n := 32) c1
          clear h1 c1
          go_wp2
          go_round
          case rel => exact ⟨k + 1, by go_num, by omega, by rw [← HR.out, HG.out]; omega⟩
          case measure => simp [intOf]; omega
        · have d1 : (((s[k]'hlt).toNat : Int) == 32) = false := byte_isnt (n := 32) c1
          by_cases c2 : (s[k]'hlt).toNat = 9
          · have d2 : (((s[k]'hlt).toNat : Int) == 9) = true := byte_is (n := 9) c2
            clear h1 c1 c2
            go_wp2
            go_round
            case rel => exact ⟨k + 1, by go_num, by omega, by rw [← HR.out, HG.out]; omega⟩
            case measure => simp [intOf]; omega
          · have d2 : (((s[k]'hlt).toNat : Int) == 9) = false := byte_isnt (n := 9) c2
            by_cases c3 : (s[k]'hlt).toNat = 10
            · have d3 : (((s[k]'hlt).toNat : Int) == 10) = true := byte_is (n := 10) c3
              clear h1 c1 c2 c3
              go_wp2
              go_round
              case rel => exact ⟨k + 1, by go_num, by omega, by rw [← HR.out, HG.out]; omega⟩
              case measure => simp [intOf]; omega
            · have d3 : (((s[k]'hlt).toNat : Int) == 10) = false := byte_isnt (n := 10) c3
              have d4 : (((s[k]'hlt).toNat : Int) == 13) = true := byte_is (n := 13) (by simp only [blankB, decide_eq_true_eq] at h1; omega)
              clear h1 c1 c2 c3
              go_wp2
              go_round
              case rel => exact ⟨k + 1, by go_num, by omega, by rw [← HR.out, HG.out]; omega⟩
              case measure => simp [intOf]; omega
      · have h1' : ¬ ((s[k]'hlt).toNat = 32 ∨ (s[k]'hlt).toNat = 9 ∨ (s[k]'hlt).toNat = 10 ∨ (s[k]'hlt).toNat = 13) := by
          simp only [blankB, decide_eq_true_eq] at h1; omega
        have d1 : (((s[k]'hlt).toNat : Int) == 32) = false := byte_isnt (n := 32) (by omega)
        have d2 : (((s[k]'hlt).toNat : Int) == 9) = false := byte_isnt (n := 9) (by omega)
        have d3 : (((s[k]'hlt).toNat : Int) == 10) = false := byte_isnt (n := 10) (by omega)
        have d4 : (((s[k]'hlt).toNat : Int) == 13) = false := byte_isnt (n := 13) (by omega)
        by_cases h2 : (s[k]'hlt).toNat = 35
        · have d5 : (((s[k]'hlt).toNat : Int) == 35) = true := byte_is (n := 35) h2
          have HG : Hid (gapS false (s.data.toList.drop k) = gapS true (s.data.toList.drop k)) := by
            simp only [Hid]
            rw [HD.out, gapS, gapS, if_neg h1, if_pos h2, if_neg (by omega)]
          have H2 := Lib.hid h2
          clear h1 h1' h2
          go_wp2
          go_loop [1] (fun i => ∃ j : Nat, i = .int .i64 j ∧ k ≤ j ∧ j ≤ s.size ∧ j + gapS true (s.data.toList.drop j) = p + gapS false (s.data.toList.drop p)) (fun i => s.size - (intOf i).toNat)
          case atStart => exact ⟨k, rfl, by omega, by omega, by rw [← HR.out, HG.out]⟩
          case round =>
            obtain ⟨j, rfl, hkj, hj, hrel⟩ := hrel
            have HR2 := Lib.hid hrel; clear hrel
            clear d1 d2 d3 d4 d5
            by_cases hlj : j < s.size
            · have HD2 := Lib.hid (drop_at s j hlj)
              by_cases h3 : (s[j]'hlj).toNat = 10
              · have d6 : (((s[j]'hlj).toNat : Int) != 10) = false := by rw [h3]; rfl
                have HG2 : Hid (gapS true (s.data.toList.drop j) = gapS false (s.data.toList.drop j)) := by
                  simp only [Hid]
                  rw [HD2.out, gapS, gapS, if_pos h3, if_pos (by simp [blankB, h3])]
                have hne : k < j := by
                  rcases Nat.lt_or_ge k j with h | h
                  · exact h
                  · obtain rfl : k = j := by omega
                    have := H2.out
                    omega
                clear h3
                go_wp2
                go_round
                case rel => exact ⟨j, rfl, by omega, by rw [← HR2.out, HG2.out]⟩
                case measure => simp [intOf]; omega
              · have d6 : (((s[j]'hlj).toNat : Int) != 10) = true := byte_isnt' (n := 10) h3
                have HG2 : Hid (gapS true (s.data.toList.drop j) = 1 + gapS true (s.data.toList.drop (j + 1))) := by
                  simp only [Hid]
                  rw [HD2.out, gapS, if_neg h3]
                clear h3
                go_wp2
                go_round
                case rel => exact ⟨j + 1, by go_num, by omega, by omega, by rw [← HR2.out, HG2.out]; omega⟩
                case measure => simp [intOf]; omega
            · have HG2 : Hid (gapS true (s.data.toList.drop j) = gapS false (s.data.toList.drop j)) := by
                simp only [Hid]
                rw [List.drop_eq_nil_of_le (by rw [len_toList]; omega)]; rfl
              go_wp2
              go_round
              case rel => exact ⟨j, rfl, by omega, by rw [← HR2.out, HG2.out]⟩
              case measure => simp [intOf]; omega
        · have d5 : (((s[k]'hlt).toNat : Int) == 35) = false := byte_isnt (n := 35) h2
          have HG : Hid (gapS false (s.data.toList.drop k) = 0) := by
            simp only [Hid]
            rw [HD.out, gapS, if_neg h1, if_neg h2]
          clear h1 h1' h2
          go_wp2
          go_ret
          exact ⟨by rw [← HR.out, HG.out]; rfl, rfl⟩
    · have HG : Hid (gapS false (s.data.toList.drop k) = 0) := by
        simp only [Hid]
        rw [List.drop_eq_nil_of_le (by rw [len_toList]; omega)]; rfl
      go_wp2
      go_ret
      exact ⟨by rw [← HR.out, HG.out]; rfl, rfl⟩

theorem gap_at (s : ByteArray) (z : Int) (p : Nat) (w : World) (hz : z = p) (hs : s.size ≤ 4000000000000000000) (hp : p ≤ s.size) :
    Calls Try.prog 25 #[.string s, .int .i64 z] w (GapPost s p w) := by
  subst hz
  exact gap_any s p w hs hp

end Go.Proofs.Ytnmlejjdofbaiaa
