/- Parts of the proofs of the laws of layer 1, scan (text ScanL). Conditions: none. -/
import Derived.Test.YtnmlejjdofbaiaaScanK
import Derived.Test.YtnmlejjdofbaiaaScanE
namespace Go.Proofs.Ytnmlejjdofbaiaa
open Go.RowKit

def OnePost (s : ByteArray) (p : Nat) (w : World) (e : Ending) (w' : World) : Prop := e = .returned (oneVal (s.data.toList.drop p) p) ∧ Below w.heap.size w w'

theorem extract_bs (s : ByteArray) (a b : Nat) : s.extract a b = bs ((s.data.toList.drop a).take (b - a)) := bytes_of (Lib.extract_data s a b)

theorem one_word {s : ByteArray} {p j : Nat} (hp : p < s.size) (hl : letterB (s[p]'hp).toNat = true) (hr : runLen wordB (s.data.toList.drop p) = j - p) :
    (16 < j - p → oneVal (s.data.toList.drop p) p = .tuple #[.agg #[.int .i64 0, .string ⟨#[]⟩, .int .i64 0, .int .i64 0], .int .i64 2]) ∧
    (j - p ≤ 16 → oneVal (s.data.toList.drop p) p = .tuple #[.agg #[.int .i64 1, .string (s.extract p j), .int .i64 0, .int .i64 p], .int .i64 0]) := by
  have e : oneL (s.data.toList.drop p) = if runLen wordB (s.data.toList.drop p) > 16 then .err 2 else .tok 1 (runLen wordB (s.data.toList.drop p)) 0 := by
    conv => lhs; rw [drop_at s p hp]
    simp only [oneL, hl, if_true]
    rw [← drop_at s p hp]
  refine ⟨fun h => ?_, fun h => ?_⟩
  · unfold oneVal
    rw [e, if_pos (by omega)]
    rfl
  · unfold oneVal
    rw [e, if_neg (by omega), hr, extract_bs]
    rfl

set_option maxHeartbeats 4000000 in
theorem one_any_word (s : ByteArray) (p : Nat) (w : World) (hs : s.size ≤ 4000000000000000000) (hp : p < s.size) (hl : letterB (s[p]'hp).toNat = true) :
    Calls Try.prog 26 #[.string s, .int .i64 p] w (OnePost s p w) := by
  have Hl := Lib.hid hl; clear hl
  go_enter Try.func26, Try.ntmps26
  go_wp2
  go_loop [6] (fun i => ∃ j : Nat, i = .int .i64 j ∧ p ≤ j ∧ j ≤ s.size ∧ ∀ i (hi : i < s.data.toList.length), p ≤ i → i < j → wordB s.data.toList[i].toNat = true) (fun i => s.size - (intOf i).toNat)
  case atStart => exact ⟨p, rfl, by omega, by omega, fun i _ h1 h2 => absurd h1 (by omega)⟩
  case round =>
    obtain ⟨j, rfl, hpj, hj, hall⟩ := hrel
    have Hall := Lib.hid hall; clear hall
    by_cases hlt : j < s.size
    · by_cases h1 : letterB (s[j]'hlt).toNat = true
      · go_wp2_with (first
          | (go_at_call 28; refine (refLetter_any _ _).mono ?_; rintro e w' ⟨rfl, rfl⟩))
        go_round
        case rel => exact ⟨j + 1, by go_num, by omega, by omega, fun i hi h2 h3 => by
          rcases Nat.lt_or_ge i j with h | h
          · exact Hall.out i hi h2 h
          · obtain rfl : i = j := by omega
            simp only [wordB, Bool.or_eq_true]
            exact .inl h1⟩
        case measure => simp [intOf]; omega
      · have h1' : letterB (s[j]'hlt).toNat = false := by simpa using h1
        have hne : p < j := by
          rcases Nat.lt_or_ge p j with h | h
          · exact h
          · obtain rfl : p = j := by omega
            have := Hl.out
            rw [h1'] at this
            simp at this
        clear h1
        by_cases h2 : digitB (s[j]'hlt).toNat = true
        · go_wp2_with (first
            | (go_at_call 28; refine (refLetter_any _ _).mono ?_; rintro e w' ⟨rfl, rfl⟩)
            | (go_at_call 29; refine (refDigit_any _ _).mono ?_; rintro e w' ⟨rfl, rfl⟩))
          go_round
          case rel => exact ⟨j + 1, by go_num, by omega, by omega, fun i hi h3 h4 => by
            rcases Nat.lt_or_ge i j with h | h
            · exact Hall.out i hi h3 h
            · obtain rfl : i = j := by omega
              simp only [wordB, Bool.or_eq_true]
              exact .inr h2⟩
          case measure => simp [intOf]; omega
        · have h2' : digitB (s[j]'hlt).toNat = false := by simpa using h2
          clear h2
          have HR := Lib.hid (one_word hp Hl.out (runLen_from hpj (by rw [len_toList]; omega) Hall.out (fun hj => by
            have : (s.data.toList[j]) = s[j]'hlt := rfl
            rw [this]; simp [wordB, h1', h2'])))
          go_wp2_with (first
            | (go_at_call 28; refine (refLetter_any _ _).mono ?_; rintro e w' ⟨rfl, rfl⟩)
            | (go_at_call 29; refine (refDigit_any _ _).mono ?_; rintro e w' ⟨rfl, rfl⟩))
          · refine bodyPost_ret (v := .tuple #[.agg #[.int .i64 0, .string ⟨#[]⟩, .int .i64 0, .int .i64 0], .int .i64 2]) (by simp [results, Try.results26, go_sem]) rfl ?_
            exact ⟨by rw [HR.out.1 (by omega)], (Below.refl _ _).alloc (Nat.le_refl _) _⟩
          · refine bodyPost_ret (v := .tuple #[.agg #[.int .i64 1, .string (s.extract p j), .int .i64 0, .int .i64 p], .int .i64 0]) (by simp [results, Try.results26, go_sem]) rfl ?_
            exact ⟨by rw [HR.out.2 (by omega)], (Below.refl _ _).alloc (Nat.le_refl _) _⟩
    · have HR := Lib.hid (one_word hp Hl.out (runLen_from hpj (by rw [len_toList]; omega) Hall.out (fun hj => absurd hj (by rw [len_toList]; omega))))
      have hne : p < j := by omega
      go_wp2_with (first
        | (go_at_call 28; refine (refLetter_any _ _).mono ?_; rintro e w' ⟨rfl, rfl⟩))
      · refine bodyPost_ret (v := .tuple #[.agg #[.int .i64 0, .string ⟨#[]⟩, .int .i64 0, .int .i64 0], .int .i64 2]) (by simp [results, Try.results26, go_sem]) rfl ?_
        exact ⟨by rw [HR.out.1 (by omega)], (Below.refl _ _).alloc (Nat.le_refl _) _⟩
      · refine bodyPost_ret (v := .tuple #[.agg #[.int .i64 1, .string (s.extract p j), .int .i64 0, .int .i64 p], .int .i64 0]) (by simp [results, Try.results26, go_sem]) rfl ?_
        exact ⟨by rw [HR.out.2 (by omega)], (Below.refl _ _).alloc (Nat.le_refl _) _⟩

end Go.Proofs.Ytnmlejjdofbaiaa
