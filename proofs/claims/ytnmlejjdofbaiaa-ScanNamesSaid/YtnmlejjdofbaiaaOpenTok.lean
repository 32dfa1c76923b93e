/- Parts of the proofs of the laws of layer 1, scan (text OpenTok). Conditions: none. -/
import Derived.Test.YtnmlejjdofbaiaaRows
import Derived.Test.YtnmlejjdofbaiaaTok
/- A []api.Token that came in reads as tokens. -/
namespace Go.Proofs.Ytnmlejjdofbaiaa

theorem opens_tok : Opens Try.prog 29 rTok :=
  opens_map _ (opens_struct Try.underlying29 (by kernel_rfl)
    (fields_cons rfl (opens_int Try.underlying3 (by kernel_rfl)) (fields_cons rfl (opens_str Try.underlying9 (by kernel_rfl))
      (fields_cons rfl (opens_int Try.underlying3 (by kernel_rfl)) (fields_one rfl (opens_int Try.underlying3 (by kernel_rfl))) (by decide)) (by decide)) (by decide)))
theorem opens_toks : Opens Try.prog 23 (rSlice rTok) := opens_slice Try.underlying23 (by kernel_rfl) opens_tok (by decide)

theorem toks_of {w : World} {v : Value} {l : List Tok} (h : (rSlice rTok).rel w [v] l) : Toks w v l ∧ l.length ≤ 9223372036854775807 := by
  refine ⟨Arr.of_slice (cells := Tok.cells) (by decide) Tok.cells_length rTok_rel h, ?_⟩
  obtain ⟨a, cap, h1, ⟨h2, h3, _⟩, _⟩ := h
  unfold maxLen at h3
  omega

end Go.Proofs.Ytnmlejjdofbaiaa
