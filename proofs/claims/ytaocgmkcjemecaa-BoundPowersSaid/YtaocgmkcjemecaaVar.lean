/- Cells of the call's own that are written. Parts of the proofs of the laws of layers 6 to 22. Conditions: none. -/
import Derived.Test.YtaocgmkcjemecaaLater
namespace Go.Proofs.Ytaocgmkcjemecaa
open Go.RowKit
set_option linter.unusedVariables false
set_option linter.unusedSimpArgs false

/-- The cell k of the block b holds v, and may be written. -/
def VarAt (w : World) (b k : Nat) (v : Value) : Prop := w.cell? ⟨b, k, none⟩ = some v ∧ w.frozen? ⟨b, k, none⟩ = false

theorem VarAt.lt {w : World} {b k : Nat} {v : Value} (h : VarAt w b k v) : b < w.heap.size := World.block_lt_of_cell? _ _ h.1
theorem VarAt.later {w w' : World} {b k : Nat} {v : Value} (h : VarAt w b k v) (hb : Below w.heap.size w w') : VarAt w' b k v :=
  ⟨cell_later hb h.1, (hb.frozen (p := ⟨b, k, none⟩) h.lt).trans h.2⟩
theorem VarAt.new (w : World) (cs : Array Value) (E : TypeId) (k : Nat) (u : Value) (h : cs[k]? = some u) : VarAt (w.alloc (.cells cs E)) w.heap.size k u := by
  refine ⟨by simp [h], ?_⟩
  simp
theorem VarAt.set {w : World} {b k : Nat} {v : Value} (h : VarAt w b k v) (u : Value) : VarAt (w.setCell ⟨b, k, none⟩ u) b k u :=
  ⟨World.cell?_setCell_same _ _ _ h.1, (World.frozen?_setCell _ _ _ _).trans h.2⟩
theorem VarAt.other {w : World} {b k : Nat} {v : Value} (h : VarAt w b k v) {p : Addr} (hp : p.block ≠ b ∨ p.off ≠ k) (u : Value) : VarAt (w.setCell p u) b k v := by
  refine ⟨?_, (World.frozen?_setCell _ _ _ _).trans h.2⟩
  rw [World.cell?_setCell_other]
  · exact h.1
  · rintro rfl
    simp at hp
theorem VarAt.drew {w : World} {b k : Nat} {v : Value} (h : VarAt w b k v) (n : Nat) : VarAt (w.drewN n) b k v := h.later (below_drewN (Below.refl _ _) n)

end Go.Proofs.Ytaocgmkcjemecaa
