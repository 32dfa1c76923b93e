/- Parts of the proofs of the laws of layer 1, scan (text ScanF). Conditions: none. -/
import Derived.Test.YtnmlejjdofbaiaaScanC
import Derived.Test.YtnmlejjdofbaiaaPlainName
namespace Go.Proofs.Ytnmlejjdofbaiaa
open Go.RowKit

def NamePost (s : ByteArray) (w : World) (e : Ending) (w' : World) : Prop := e = .returned (.bool (nameB s.data.toList)) ∧ Below w.heap.size w w'

theorem name_no (s : ByteArray) (w w' : World) (k : Nat) (hk : k < s.size) (h1 : letterB s[k].toNat = false) (h2 : k = 0 ∨ digitB s[k].toNat = false) (hb : Below w.heap.size w w') : NamePost s w (.returned (.bool false)) w' := by
  refine ⟨?_, hb⟩
  rw [nameB_bad (l := s.data.toList) (k := k) (by rw [len_toList]; exact hk)]
  rw [nameAt_of s k hk, h1]
  rcases h2 with rfl | h2
  · simp
  · simp [h2]

set_option maxHeartbeats 2000000 in
theorem name_any (s : ByteArray) (w : World) (hs : s.size ≤ 9223372036854775807) :
    Calls Try.prog 14 #[.string s] w (NamePost s w) := by
  go_enter Try.func14, Try.ntmps14
  go_wp2
  go_loopw [] (fun w' => ∃ pos : Nat, w' = w.iter s pos ∧ pos ≤ s.size ∧ ∀ k, k < pos → nameAt s.data.toList k = true) (fun w' => s.size - w'.iterPos w.heap.size)
  case atStart => exact ⟨0, rfl, by omega, fun k h => absurd h (by omega)⟩
  case round =>
    obtain ⟨pos, rfl, hpos, hall⟩ := hrel
    have Hall := Lib.hid hall; clear hall
    have hB : Below w.heap.size w (w.iter s (pos + 1)) := ((Below.refl _ _).alloc (Nat.le_refl _) _)
    have hB2 : Below w.heap.size w (w.iter s (pos + (Utf8.decode s pos).2)) := ((Below.refl _ _).alloc (Nat.le_refl _) _)
    have HB := Lib.hid hB; have HB2 := Lib.hid hB2
    clear hB hB2
    by_cases hlt : pos < s.size
    · have hat := nameAt_of s pos hlt
      have HA := Lib.hid hat; clear hat
      by_cases ha : (s[pos]'hlt).toNat < 128
      · have hnx : ∀ ty, (Instr.next (.pointer (some ⟨w.heap.size, 0, none⟩)) true ty).run Try.prog (w.iter s pos) = _ := fun ty => run_next_ascii w s pos ty hlt ha
        clear ha
        by_cases h1 : letterB (s[pos]'hlt).toNat = true
        · go_wp2_with (first
            | (go_at_call 20; refine (letter_any _ _).mono ?_; rintro e w' ⟨rfl, rfl⟩))
          go_roundw
          case rel =>
            refine ⟨pos + 1, rfl, by omega, fun k hk => ?_⟩
            rcases Nat.lt_or_ge k pos with h | h
            · exact Hall.out k h
            · obtain rfl : k = pos := by omega
              rw [HA.out, h1]; rfl
          case measure => simp; omega
        · have h1' : letterB (s[pos]'hlt).toNat = false := by simpa using h1
          clear h1
          by_cases h0 : pos = 0
          · subst h0
            go_wp2_with (first
              | (go_at_call 20; refine (letter_any _ _).mono ?_; rintro e w' ⟨rfl, rfl⟩))
            go_ret
            exact name_no s _ _ 0 hlt h1' (.inl rfl) HB.out
          · have h0' : ((pos : Int) == 0) = false := by rw [beq_eq_false_iff_ne]; omega
            by_cases h2 : digitB (s[pos]'hlt).toNat = true
            · go_wp2_with (first
                | (go_at_call 20; refine (letter_any _ _).mono ?_; rintro e w' ⟨rfl, rfl⟩)
                | (go_at_call 22; refine (digit_any _ _).mono ?_; rintro e w' ⟨rfl, rfl⟩))
              go_roundw
              case rel =>
                refine ⟨pos + 1, rfl, by omega, fun k hk => ?_⟩
                rcases Nat.lt_or_ge k pos with h | h
                · exact Hall.out k h
                · obtain rfl : k = pos := by omega
                  rw [HA.out, h2]; simp; omega
              case measure => simp; omega
            · have h2' : digitB (s[pos]'hlt).toNat = false := by simpa using h2
              clear h2
              go_wp2_with (first
                | (go_at_call 20; refine (letter_any _ _).mono ?_; rintro e w' ⟨rfl, rfl⟩)
                | (go_at_call 22; refine (digit_any _ _).mono ?_; rintro e w' ⟨rfl, rfl⟩))
              go_ret
              exact name_no s _ _ pos hlt h1' (.inr h2') HB.out
      · have hnx : ∀ ty, (Instr.next (.pointer (some ⟨w.heap.size, 0, none⟩)) true ty).run Try.prog (w.iter s pos) = _ := fun ty => run_next_any w s pos ty hlt
        have hd := (decode_high s pos hlt (by omega)).1
        have h1' : letterB (Utf8.decode s pos).1 = false := letterB_high (by omega)
        have h2' : digitB (Utf8.decode s pos).1 = false := digitB_high (by omega)
        have h3 : letterB (s[pos]'hlt).toNat = false := letterB_high (by omega)
        have h4 : digitB (s[pos]'hlt).toNat = false := digitB_high (by omega)
        by_cases h0 : pos = 0
        · subst h0
          go_wp2_with (first
            | (go_at_call 20; refine (letter_any _ _).mono ?_; rintro e w' ⟨rfl, rfl⟩))
          go_ret
          exact name_no s _ _ 0 hlt h3 (.inl rfl) (by have := HB2.out; rw [Nat.zero_add] at this; exact this)
        · have h0' : ((pos : Int) == 0) = false := by rw [beq_eq_false_iff_ne]; omega
          go_wp2_with (first
            | (go_at_call 20; refine (letter_any _ _).mono ?_; rintro e w' ⟨rfl, rfl⟩)
            | (go_at_call 22; refine (digit_any _ _).mono ?_; rintro e w' ⟨rfl, rfl⟩))
          go_ret
          exact name_no s _ _ pos hlt h3 (.inr h4) HB2.out
    · have hnx : ∀ ty, (Instr.next (.pointer (some ⟨w.heap.size, 0, none⟩)) true ty).run Try.prog (w.iter s pos) = _ := fun ty => run_next_end w s pos ty hlt
      have hn := nameB_good (l := s.data.toList) (fun k hk => Hall.out k (by rw [len_toList] at hk; omega))
      rw [len_toList] at hn
      have hB : Below w.heap.size w (w.iter s pos) := ((Below.refl _ _).alloc (Nat.le_refl _) _)
      have HN := Lib.hid hn; clear hn
      by_cases he : s.data.toList = []
      · obtain rfl := bytes_of he
        go_wp2
        go_ret
        exact ⟨by rw [HN.out]; rfl, hB⟩
      · have he1 : s.toList.isEmpty = false := by rw [ByteArray.toList_eq]; simpa using he
        have he2 : s.data.toList.isEmpty = false := by simpa using he
        clear he
        by_cases h16 : s.size ≤ 16
        · go_wp2_with (first
            | (go_at_call 12; refine (keyword_any _ _).mono ?_; rintro e w' ⟨rfl, rfl⟩))
          go_ret
          exact ⟨by rw [HN.out]; simp [he2, h16], hB⟩
        · go_wp2
          go_ret
          exact ⟨by rw [HN.out]; simp [he2, h16], hB⟩

end Go.Proofs.Ytnmlejjdofbaiaa
