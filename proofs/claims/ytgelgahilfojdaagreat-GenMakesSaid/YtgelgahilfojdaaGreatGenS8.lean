/- Parts of the proofs: what they lean on. Conditions: none. -/
import Derived.ProofKit
import Derived.Deep.Slices
import Derived.Test.YtgelgahilfojdaaGreatGenS7
section
namespace Go.Proofs.YtgelgahilfojdaaGreat
open Go.RowKit Go.ChangeShapes Go.WideShapes
set_option linter.unusedVariables false
set_option linter.unusedSimpArgs false

/-- How a type's values read: their number of cells, and what cells read as what. -/
structure Rd (α : Type) where
  size : Nat
  rel : World → List Value → α → Prop

def rInt (k : IntKind) : Rd Int := ⟨1, fun _ cs n => cs = [.int k n] ∧ (Lit.int k n).wf = true⟩
def rBool : Rd Bool := ⟨1, fun _ cs b => cs = [.bool b]⟩
def rPair {α β : Type} (r : Rd α) (s : Rd β) : Rd (α × β) := ⟨r.size + s.size, fun w cs x => r.rel w (cs.take r.size) x.1 ∧ s.rel w (cs.drop r.size) x.2⟩
def rMap {α β : Type} (f : α → β) (r : Rd α) : Rd β := ⟨r.size, fun w cs y => ∃ x, r.rel w cs x ∧ y = f x⟩
def rSlice {α : Type} (r : Rd α) : Rd (List α) := ⟨1, fun w cs l => ∃ a cap, cs = [.slice a l.length cap] ∧ (l.length ≤ cap ∧ cap ≤ maxLen ∧ (a = none → cap = 0)) ∧
  ∀ k (hk : k < l.length), ∃ b off cs', a = some ⟨b, off, none⟩ ∧ cs'.length = r.size ∧ (∀ j u, cs'[j]? = some u → w.cell? ⟨b, off + k * r.size + j, none⟩ = some u) ∧ r.rel w cs' l[k]⟩

/-- What reads so goes on reading so where nothing that was there turns. -/
def Mono {α : Type} (r : Rd α) : Prop := ∀ (w w' : World) (cs : List Value) (x : α), r.rel w cs x → Below w.heap.size w w' → r.rel w' cs x

theorem mono_int (k : IntKind) : Mono (rInt k) := fun _ _ _ _ h _ => h
theorem mono_bool : Mono rBool := fun _ _ _ _ h _ => h
theorem mono_pair {α β : Type} {r : Rd α} {s : Rd β} (hr : Mono r) (hs : Mono s) : Mono (rPair r s) := fun w w' _ _ h hb => ⟨hr w w' _ _ h.1 hb, hs w w' _ _ h.2 hb⟩
theorem mono_map {α β : Type} {r : Rd α} (f : α → β) (hr : Mono r) : Mono (rMap f r) := fun w w' _ _ ⟨x, h, e⟩ hb => ⟨x, hr w w' _ _ h hb, e⟩
theorem mono_slice {α : Type} {r : Rd α} (hr : Mono r) : Mono (rSlice r) := fun w w' _ _ ⟨a, cap, h1, h2, h3⟩ hb =>
  ⟨a, cap, h1, h2, fun k hk => let ⟨b, off, cs', e1, e2, e3, e4⟩ := h3 k hk; ⟨b, off, cs', e1, e2, fun j u hj => cell_later hb (e3 j u hj), hr w w' _ _ e4 hb⟩⟩

end Go.Proofs.YtgelgahilfojdaaGreat
end

