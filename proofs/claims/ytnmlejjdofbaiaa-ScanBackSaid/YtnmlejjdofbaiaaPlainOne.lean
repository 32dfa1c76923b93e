/- Parts of the proofs of the laws of layer 1, scan (text PlainOne). Conditions: none. -/
import Derived.Test.YtnmlejjdofbaiaaPlainLex
/- Plain: the token at a place, found sign by sign. -/
namespace Go.Proofs.Ytnmlejjdofbaiaa

def signsL : List (List UInt8) := signs2 ++ signs1.map fun c => [c]

theorem signs2_len {m : List UInt8} (h : m ∈ signs2) : m.length = 2 := by
  simp only [signs2, List.mem_cons, List.not_mem_nil, or_false] at h
  rcases h with rfl | rfl | rfl | rfl | rfl <;> rfl

theorem take_of_prefix {m l : List UInt8} (h : m <+: l) : l.take m.length = m := by
  obtain ⟨t, rfl⟩ := h
  simp

theorem signLen_first {l : List UInt8} {k : Nat} (hk : k < signsL.length) (hp : signsL[k] <+: l) (hn : ∀ j (h : j < signsL.length), j < k → ¬ signsL[j] <+: l) :
    signLen l = signsL[k].length ∧ l.take signsL[k].length = signsL[k] := by
  refine ⟨?_, take_of_prefix hp⟩
  have h5 : signs2.length = 5 := rfl
  have hcont : ∀ (h : l.take 2 ∈ signs2), ∃ j, ∃ (hj : j < signs2.length), signs2[j] <+: l := fun h => by
    obtain ⟨j, hj, e⟩ := List.getElem_of_mem h
    exact ⟨j, hj, by rw [e]; exact List.take_prefix 2 l⟩
  rcases Nat.lt_or_ge k 5 with hlt | hge
  · have e : signsL[k] = signs2[k]'(by omega) := by simp only [signsL]; rw [List.getElem_append_left]
    rw [e] at hp ⊢
    have hm : signs2[k]'(by omega) ∈ signs2 := List.getElem_mem _
    have hl := signs2_len hm
    have ht := take_of_prefix hp
    rw [hl] at ht ⊢
    unfold signLen
    rw [if_pos (by rw [ht]; exact List.contains_iff_mem.2 hm)]
  · have e : signsL[k] = [signs1[k - 5]'(by simp [signsL, h5] at hk; omega)] := by
      simp only [signsL]
      rw [List.getElem_append_right (by omega)]
      simp [h5]
    rw [e] at hp ⊢
    have hno : ¬ l.take 2 ∈ signs2 := fun h => by
      obtain ⟨j, hj, hj2⟩ := hcont h
      refine hn j (by simp [signsL]; omega) (by omega) ?_
      have e : signsL[j]'(by simp [signsL]; omega) = signs2[j] := by simp only [signsL]; rw [List.getElem_append_left]
      rw [e]; exact hj2
    obtain ⟨t, rfl⟩ := hp
    unfold signLen
    rw [if_neg (by simpa using hno)]
    simp

theorem signLen_none {l : List UInt8} (hn : ∀ j (h : j < signsL.length), ¬ signsL[j] <+: l) : signLen l = 0 := by
  have h5 : signs2.length = 5 := rfl
  unfold signLen
  rw [if_neg, if_neg]
  · intro h
    rcases l with _ | ⟨c, t⟩
    · simp at h
    · simp only [List.head?_cons, Option.any_some] at h
      have h' := List.contains_iff_mem.1 h
      obtain ⟨j, hj, e⟩ := List.getElem_of_mem h'
      refine hn (5 + j) (by simp [signsL, h5]; omega) ?_
      have e2 : signsL[5 + j]'(by simp [signsL, h5]; omega) = [signs1[j]] := by
        simp only [signsL]
        rw [List.getElem_append_right (by omega)]
        simp [h5]
      rw [e2, e]
      exact ⟨t, rfl⟩
  · intro h
    have h' := List.contains_iff_mem.1 h
    obtain ⟨j, hj, e⟩ := List.getElem_of_mem h'
    refine hn j (by simp [signsL]; omega) ?_
    have e2 : signsL[j]'(by simp [signsL]; omega) = signs2[j] := by simp only [signsL]; rw [List.getElem_append_left]
    rw [e2, e]
    exact List.take_prefix 2 l

/-- What 'one' hands back. -/
def tokVal (t : Tok) : Value := .agg #[.int .i64 t.kind, .string (bs t.text), .int .i64 t.n, .int .i64 t.at']
def oneVal (l : List UInt8) (p : Nat) : Value := match oneL l with
  | .err e => .tuple #[tokVal ⟨0, [], 0, 0⟩, .int .i64 e]
  | .tok k n v => .tuple #[tokVal ⟨k, l.take n, v, p⟩, .int .i64 0]

/-- The length of a run from a place on, by the places. -/
theorem runLen_from {p : Int → Bool} {l : List UInt8} {a j : Nat} (haj : a ≤ j) (hj : j ≤ l.length) (h : ∀ i (hi : i < l.length), a ≤ i → i < j → p l[i].toNat = true) (hs : ∀ (hj : j < l.length), p l[j].toNat = false) : runLen p (l.drop a) = j - a := by
  rcases Nat.lt_or_ge j l.length with hlt | hge
  · refine runLen_stop (fun k hk hkn => ?_) (by simp; omega) ?_
    · rw [List.getElem_drop]; exact h (a + k) (by simp at hk; omega) (by omega) (by omega)
    · rw [List.getElem_drop]
      have e : a + (j - a) = j := by omega
      simp only [e]
      exact hs hlt
  · rw [runLen_all (fun k hk => by rw [List.getElem_drop]; exact h (a + k) (by simp at hk; omega) (by omega) (by simp at hk; omega))]
    simp; omega

end Go.Proofs.Ytnmlejjdofbaiaa
