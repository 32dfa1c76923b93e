/- Parts of the proofs of the laws of layer 1, scan (text ScanN). Conditions: none. -/
import Derived.Test.YtnmlejjdofbaiaaScanL
namespace Go.Proofs.Ytnmlejjdofbaiaa
open Go.RowKit

theorem one_sign {s : ByteArray} {p : Nat} (hp : p < s.size) (hl : letterB (s[p]'hp).toNat = false) (hd : digitB (s[p]'hp).toNat = false) :
    oneL (s.data.toList.drop p) = if signLen (s.data.toList.drop p) = 0 then .err 3 else .tok 3 (signLen (s.data.toList.drop p)) 0 := by
  conv => lhs; rw [drop_at s p hp]
  simp only [oneL, hl, hd, Bool.false_eq_true, if_false]
  rw [← drop_at s p hp]

theorem one_sign_at {s : ByteArray} {p k : Nat} (hp : p < s.size) (hl : letterB (s[p]'hp).toNat = false) (hd : digitB (s[p]'hp).toNat = false)
    (hk : k < signsL.length) (_he : p + signsL[k].length ≤ s.size) (hm : ((s.extract p (p + signsL[k].length)).toList == signsL[k]) = true) (hn : ∀ j (h : j < signsL.length), j < k → ¬ signsL[j] <+: s.data.toList.drop p) :
    oneVal (s.data.toList.drop p) p = .tuple #[.agg #[.int .i64 3, .string (bs signsL[k]), .int .i64 0, .int .i64 p], .int .i64 0] := by
  have hpre : signsL[k] <+: s.data.toList.drop p := by
    rw [Lib.extract_toList] at hm
    have := beq_iff_eq.1 hm
    rw [← this]
    exact List.take_prefix _ _
  obtain ⟨h1, h2⟩ := signLen_first hk hpre hn
  have hpos : 0 < signsL[k].length := by
    have : ∀ m ∈ signsL, 0 < m.length := by decide
    exact this _ (List.getElem_mem hk)
  unfold oneVal
  rw [one_sign hp hl hd, if_neg (by omega)]
  simp only [h1, h2]
  rfl

theorem sign_not {s : ByteArray} {p k : Nat} (hk : k < signsL.length) (h : ¬ (p + signsL[k].length ≤ s.size ∧ ((s.extract p (p + signsL[k].length)).toList == signsL[k]) = true)) : ¬ signsL[k] <+: s.data.toList.drop p := by
  intro hp
  refine h ⟨?_, ?_⟩
  · have := hp.length_le
    rw [List.length_drop, len_toList] at this
    have hpos : 0 < signsL[k].length := by
      have : ∀ m ∈ signsL, 0 < m.length := by decide
      exact this _ (List.getElem_mem hk)
    omega
  · rw [Lib.extract_toList]
    have := take_of_prefix hp
    simp [this]

theorem one_sign_none {s : ByteArray} {p : Nat} (hp : p < s.size) (hl : letterB (s[p]'hp).toNat = false) (hd : digitB (s[p]'hp).toNat = false)
    (hn : ∀ j (h : j < signsL.length), ¬ signsL[j] <+: s.data.toList.drop p) :
    oneVal (s.data.toList.drop p) p = .tuple #[.agg #[.int .i64 0, .string ⟨#[]⟩, .int .i64 0, .int .i64 0], .int .i64 3] := by
  unfold oneVal
  rw [one_sign hp hl hd, if_pos (signLen_none hn)]
  rfl

set_option maxHeartbeats 4000000 in
theorem one_any_sign (s : ByteArray) (p : Nat) (w : World) (hs : s.size ≤ 4000000000000000000) (hp : p < s.size) (hl : letterB (s[p]'hp).toNat = false) (hd : digitB (s[p]'hp).toNat = false) :
    Calls Try.prog 26 #[.string s, .int .i64 p] w (OnePost s p w) := by
  go_enter Try.func26, Try.ntmps26
  go_wp2
  go_loop [6] (fun i => i = .int .i64 p) (fun i => 0)
  case atStart => rfl
  case round =>
    obtain rfl := hrel
    go_wp2_with (first
      | (go_at_call 28; refine (refLetter_any _ _).mono ?_; rintro e w' ⟨rfl, rfl⟩))
    go_loop [6, 7] (fun i v => i = .int .i64 p ∧ v = .int .i64 0) (fun i _ => 0)
    case atStart => exact ⟨rfl, rfl⟩
    case round =>
      obtain ⟨rfl, rfl⟩ := hrel
      go_wp2_with (first
        | (go_at_call 29; refine (refDigit_any _ _).mono ?_; rintro e w' ⟨rfl, rfl⟩)
        | (go_at_call 30; refine (signs_any _).mono ?_; rintro e w1 ⟨rfl, hc, hb⟩))
      have Hl := Lib.hid hl; have Hd := Lib.hid hd; have Hc := Lib.hid hc
      clear hl hd hc
      obtain ⟨hbc, hbf⟩ := bcell hb
      have hz := hb.size
      simp only [World.size_alloc] at hz
      have B0 : Below w.heap.size w w1 := ((Below.refl _ _).alloc (Nat.le_refl _) _).trans (hb.mono (by simp))
      have HB := Lib.hid B0
      have hlen : signsL.length = 18 := rfl
      have hcell : ∀ k (hk : k < 18), w1.cell? ⟨w.heap.size + 1, k, none⟩ = some (.string (bs (signsL[k]'(by rw [hlen]; exact hk)))) := fun k hk => by
        have := Hc.out k (by rw [hlen]; exact hk)
        simpa using this
      have q0 : w1.cell? ⟨w.heap.size, 0, none⟩ = some (.int .i64 0) := by rw [hbc _ _ (by simp)]; simp [go_sem]
      have q1 : w1.cell? ⟨w.heap.size, 1, none⟩ = some (.string ⟨#[]⟩) := by rw [hbc _ _ (by simp)]; simp [go_sem]
      have q2 : w1.cell? ⟨w.heap.size, 2, none⟩ = some (.int .i64 0) := by rw [hbc _ _ (by simp)]; simp [go_sem]
      have q3 : w1.cell? ⟨w.heap.size, 3, none⟩ = some (.int .i64 0) := by rw [hbc _ _ (by simp)]; simp [go_sem]
      have HCell := Lib.hid hcell
      clear hcell hb B0
      go_loopw [9] (fun i w' => ∃ k n : Nat, i = .int .i64 k ∧ k ≤ 18 ∧ w' = w1.drewN n ∧ ∀ j (h : j < signsL.length), j < k → ¬ signsL[j] <+: s.data.toList.drop p) (fun i _ => 18 - (intOf i).toNat)
      case atStart => exact ⟨0, 0, rfl, by omega, rfl, fun j _ h => absurd h (by omega)⟩
      case round =>
        obtain ⟨k, m, rfl, hk, rfl, hall⟩ := hrel
        have Hall := Lib.hid hall; clear hall
        by_cases hlt : k < 18
        · have hlt' : k < signsL.length := by rw [hlen]; exact hlt
          have x1 := HCell.out k hlt
          have hl2 : signsL[k].length ≤ 2 := by
            have : ∀ m ∈ signsL, m.length ≤ 2 := by decide
            exact this _ (List.getElem_mem hlt')
          by_cases h1 : p + signsL[k].length ≤ s.size
          · have h1i : (p : Int) + (signsL[k].length : Int) ≤ (s.size : Int) := by omega
            have h1d : decide ((p : Int) + (signsL[k].length : Int) ≤ (s.size : Int)) = true := decide_eq_true h1i
            by_cases h2 : ((s.extract p (p + signsL[k].length)).toList == signsL[k]) = true
            · have HV := Lib.hid (one_sign_at hp Hl.out Hd.out hlt' h1 h2 Hall.out)
              go_wp2
              go_quiet (fail)
              go_wp2
              refine bodyPost_ret (v := .tuple #[.agg #[.int .i64 3, .string (bs signsL[k]), .int .i64 0, .int .i64 p], .int .i64 0]) (by simp [results, Try.results26, go_sem, q0, q1, q2, q3]) rfl ?_
              exact ⟨by rw [HV.out], ((((below_drewN HB.out _).setCell (Nat.le_refl _) _).setCell (Nat.le_refl _) _).setCell (Nat.le_refl _) _).setCell (Nat.le_refl _) _⟩
            · have h2' : ((s.extract p (p + signsL[k].length)).toList == signsL[k]) = false := by simpa using h2
              have HN := Lib.hid (sign_not hlt' (fun h => h2 h.2))
              clear h2
              go_wp2
              go_quiet (fail)
              go_wp2
              go_roundw
              case rel => exact ⟨k + 1, m + nq, by go_num, by omega, rfl, fun j h1 h2 => by
                  rcases Nat.lt_or_ge j k with h | h
                  · exact Hall.out j h1 h
                  · obtain rfl : j = k := by omega
                    exact HN.out⟩
              case measure => simp [intOf]; omega
          · have h1' : decide ((p : Int) + signsL[k].length ≤ s.size) = false := by simp; omega
            have HN := Lib.hid (sign_not hlt' (fun h => h1 h.1))
            go_wp2
            go_quiet (fail)
            go_wp2
            go_roundw
            case rel => exact ⟨k + 1, m + nq, by go_num, by omega, rfl, fun j h1 h2 => by
                rcases Nat.lt_or_ge j k with h | h
                · exact Hall.out j h1 h
                · obtain rfl : j = k := by omega
                  exact HN.out⟩
            case measure => simp [intOf]; omega
        · have HV := Lib.hid (one_sign_none hp Hl.out Hd.out (fun j hj => Hall.out j hj (by rw [hlen] at hj; omega)))
          go_wp2
          refine bodyPost_ret (v := .tuple #[.agg #[.int .i64 0, .string ⟨#[]⟩, .int .i64 0, .int .i64 0], .int .i64 3]) (by simp [results, Try.results26, go_sem, q0, q1, q2, q3]) rfl ?_
          exact ⟨by rw [HV.out], ((((below_drewN HB.out _).setCell (Nat.le_refl _) _).setCell (Nat.le_refl _) _).setCell (Nat.le_refl _) _).setCell (Nat.le_refl _) _⟩

end Go.Proofs.Ytnmlejjdofbaiaa
