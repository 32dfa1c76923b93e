/- Parts of the proofs of the laws of layer 1, scan (text ScanM). Conditions: none. -/
import Derived.Test.YtnmlejjdofbaiaaScanL
namespace Go.Proofs.Ytnmlejjdofbaiaa
open Go.RowKit

theorem letter_of_digit {c : Int} (h : digitB c = true) : letterB c = false := by
  simp only [digitB, decide_eq_true_eq] at h
  simp only [letterB, decide_eq_false_iff_not]
  omega

theorem one_number {s : ByteArray} {p j : Nat} (hp : p < s.size) (_hj : p ≤ j) (hl : digitB (s[p]'hp).toNat = true) (hr : runLen digitB (s.data.toList.drop p) = j - p) :
    (9999 < valueL ((s.data.toList.drop p).take (j - p)) → oneVal (s.data.toList.drop p) p = .tuple #[.agg #[.int .i64 0, .string ⟨#[]⟩, .int .i64 0, .int .i64 0], .int .i64 4]) ∧
    (valueL ((s.data.toList.drop p).take (j - p)) ≤ 9999 → oneVal (s.data.toList.drop p) p = .tuple #[.agg #[.int .i64 2, .string (s.extract p j), .int .i64 (valueL ((s.data.toList.drop p).take (j - p))), .int .i64 p], .int .i64 0]) := by
  have e : oneL (s.data.toList.drop p) = if valueL ((s.data.toList.drop p).take (runLen digitB (s.data.toList.drop p))) > 9999 then .err 4 else .tok 2 (runLen digitB (s.data.toList.drop p)) (valueL ((s.data.toList.drop p).take (runLen digitB (s.data.toList.drop p)))) := by
    conv => lhs; rw [drop_at s p hp]
    simp only [oneL, hl, letter_of_digit hl, if_true, if_false, Bool.false_eq_true]
    rw [← drop_at s p hp]
  rw [hr] at e
  refine ⟨fun h => ?_, fun h => ?_⟩
  · unfold oneVal
    rw [e, if_pos (by omega)]
    rfl
  · unfold oneVal
    rw [e, if_neg (by omega), extract_bs]
    rfl

theorem valueL_grow (s : ByteArray) (p j : Nat) (hpj : p ≤ j) (hj : j < s.size) : valueL ((s.data.toList.drop p).take (j + 1 - p)) = min (10 * valueL ((s.data.toList.drop p).take (j - p)) + ((s[j]'hj).toNat - 48)) 10000 := by
  have e : (s.data.toList.drop p).take (j + 1 - p) = (s.data.toList.drop p).take (j - p) ++ [s[j]'hj] := by
    rw [show j + 1 - p = (j - p) + 1 by omega, List.take_succ_eq_append_getElem (by rw [List.length_drop, len_toList]; omega)]
    congr 2
    rw [List.getElem_drop]
    have : p + (j - p) = j := by omega
    simp only [this]
    rfl
  rw [e]
  simp [valueL]

set_option maxHeartbeats 4000000 in
theorem one_any_number (s : ByteArray) (p : Nat) (w : World) (hs : s.size ≤ 4000000000000000000) (hp : p < s.size) (hd : digitB (s[p]'hp).toNat = true) :
    Calls Try.prog 26 #[.string s, .int .i64 p] w (OnePost s p w) := by
  have hl := letter_of_digit hd
  have Hd := Lib.hid hd
  clear hd
  go_enter Try.func26, Try.ntmps26
  go_wp2
  go_loop [6] (fun i => i = .int .i64 p) (fun i => 0)
  case atStart => rfl
  case round =>
    obtain rfl := hrel
    go_wp2_with (first
      | (go_at_call 28; refine (refLetter_any _ _).mono ?_; rintro e w' ⟨rfl, rfl⟩))
    have Hl := Lib.hid hl; clear hl
    go_loop [6, 7] (fun i v => ∃ j : Nat, i = .int .i64 j ∧ p ≤ j ∧ j ≤ s.size ∧ v = .int .i64 (valueL ((s.data.toList.drop p).take (j - p))) ∧ ∀ i (hi : i < s.data.toList.length), p ≤ i → i < j → digitB s.data.toList[i].toNat = true) (fun i _ => s.size - (intOf i).toNat)
    case atStart => exact ⟨p, rfl, by omega, by omega, by rw [Nat.sub_self]; rfl, fun i _ h1 h2 => absurd h1 (by omega)⟩
    case round =>
      obtain ⟨j, rfl, hpj, hj, rfl, hall⟩ := hrel
      have Hall := Lib.hid hall; clear hall
      have hvl := valueL_le ((s.data.toList.drop p).take (j - p))
      by_cases hlt : j < s.size
      · by_cases h2 : digitB (s[j]'hlt).toNat = true
        · have hd2 := h2
          simp only [digitB, decide_eq_true_eq] at hd2
          obtain ⟨g1, g2⟩ := hd2
          have HS := Lib.hid (valueL_grow s p j hpj hlt)
          go_wp2_with (first
            | (go_at_call 29; refine (refDigit_any _ _).mono ?_; rintro e w' ⟨rfl, rfl⟩))
          all_goals
            go_round
            case rel => exact ⟨j + 1, by go_num, by omega, by omega, by rw [HS.out]; first | go_num | (congr 1; omega), fun i hi h3 h4 => by
              rcases Nat.lt_or_ge i j with h | h
              · exact Hall.out i hi h3 h
              · obtain rfl : i = j := by omega
                exact h2⟩
            case measure => simp [intOf]; omega
        · have h2' : digitB (s[j]'hlt).toNat = false := by simpa using h2
          have hne : p < j := by
            rcases Nat.lt_or_ge p j with h | h
            · exact h
            · obtain rfl : p = j := by omega
              have := Hd.out
              rw [h2'] at this
              simp at this
          clear h2
          have HR := Lib.hid (one_number hp hpj Hd.out (runLen_from hpj (by rw [len_toList]; omega) Hall.out (fun hj => h2')))
          go_wp2_with (first
            | (go_at_call 29; refine (refDigit_any _ _).mono ?_; rintro e w' ⟨rfl, rfl⟩))
          · refine bodyPost_ret (v := .tuple #[.agg #[.int .i64 0, .string ⟨#[]⟩, .int .i64 0, .int .i64 0], .int .i64 4]) (by simp [results, Try.results26, go_sem]) rfl ?_
            exact ⟨by rw [HR.out.1 (by omega)], (Below.refl _ _).alloc (Nat.le_refl _) _⟩
          · refine bodyPost_ret (v := .tuple #[.agg #[.int .i64 2, .string (s.extract p j), .int .i64 (valueL ((s.data.toList.drop p).take (j - p))), .int .i64 p], .int .i64 0]) (by simp [results, Try.results26, go_sem]) rfl ?_
            exact ⟨by rw [HR.out.2 (by omega)], (Below.refl _ _).alloc (Nat.le_refl _) _⟩
      · have HR := Lib.hid (one_number hp hpj Hd.out (runLen_from hpj (by rw [len_toList]; omega) Hall.out (fun hj => absurd hj (by rw [len_toList]; omega))))
        have hne : p < j := by omega
        go_wp2
        · refine bodyPost_ret (v := .tuple #[.agg #[.int .i64 0, .string ⟨#[]⟩, .int .i64 0, .int .i64 0], .int .i64 4]) (by simp [results, Try.results26, go_sem]) rfl ?_
          exact ⟨by rw [HR.out.1 (by omega)], (Below.refl _ _).alloc (Nat.le_refl _) _⟩
        · refine bodyPost_ret (v := .tuple #[.agg #[.int .i64 2, .string (s.extract p j), .int .i64 (valueL ((s.data.toList.drop p).take (j - p))), .int .i64 p], .int .i64 0]) (by simp [results, Try.results26, go_sem]) rfl ?_
          exact ⟨by rw [HR.out.2 (by omega)], (Below.refl _ _).alloc (Nat.le_refl _) _⟩

end Go.Proofs.Ytnmlejjdofbaiaa
