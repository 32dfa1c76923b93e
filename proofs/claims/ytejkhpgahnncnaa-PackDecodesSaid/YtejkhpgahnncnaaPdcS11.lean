/- Parts of the proofs: what they lean on. Conditions: none. -/
import Derived.OneCell
import Derived.Test.YtejkhpgahnncnaaPdcS10
section
namespace Go.Proofs.Ytejkhpgahnncnaa
open Go.RowKit
set_option linter.unusedVariables false
set_option linter.unusedSimpArgs false

section
variable {P : Program} {ops : Array Oper} {md : Region.Mode} {w0 : World} {m : Nat}

/-- A block of the call's own: new, and what it holds. -/
def Fresh (w : World) (B : Nat) (o : Obj) : Prop := w.heap[B]? = some o
theorem Fresh.later {w w' : World} {B : Nat} {o : Obj} (h : Fresh w B o) (hb : Below w.heap.size w w') : Fresh w' B o :=
  (hb.block B (Array.getElem?_eq_some_iff.1 h).1).trans h

def LYields (P : Program) (ops : Array Oper) (w0 : World) (o : Oper) (v : Value) (a : Act) : Prop :=
  (Region.wanted o (yielded ops a.tmps) = true ∧ ∀ s : Later w0, o.quietAt P a (fun w'' => Below s.world.heap.size s.world w'') s.world v) ∨
  (Region.wanted o (yielded ops a.tmps) = false ∧ v = undef)

theorem LYields.of_same {o : Oper} {v : Value} {a a' : Act} (hy : LYields P ops w0 o v a) (he : execOp a'.eval o = execOp a.eval o)
    (hw : Region.wanted o (yielded ops a'.tmps) = Region.wanted o (yielded ops a.tmps)) : LYields P ops w0 o v a' := by
  unfold LYields at *
  rw [hw]
  rcases hy with ⟨h1, h2⟩ | h
  · exact .inl ⟨h1, fun s => by unfold Oper.quietAt at *; rw [he]; exact h2 s⟩
  · exact .inr h

/-- What is asked of the operation that makes the variable. -/
structure Makes (P : Program) (ops : Array Oper) (m : Nat) (o : Obj) : Prop where
  guard : ∀ oa, ops[m]? = some oa → ∀ a : Act, Region.wanted oa (yielded ops a.tmps) = true
  run : ∀ oa, ops[m]? = some oa → ∀ (a : Act) (w : World), (execOp a.eval oa).run P w = .ok (.value (.pointer (some ⟨w.heap.size, 0, none⟩))) (w.alloc o)

/-- The lexical walk. -/
def wpLater (P : Program) (ops : Array Oper) (w0 : World) (Q : Act → Prop) : List Oper → Act → Prop
  | [], a => Q a
  | o :: rest, a => ∃ v, LYields P ops w0 o v a ∧ wpLater P ops w0 Q rest (a.put o.dst v)

end

theorem wpLater_nil {P : Program} {ops : Array Oper} {w0 : World} {Q : Act → Prop} {a : Act} (h : Q a) : wpLater P ops w0 Q [] a := h
theorem wpLater_step {P : Program} {ops : Array Oper} {w0 : World} {Q : Act → Prop} {a : Act} {o : Oper} {rest : List Oper}
    (h : ∀ K : Act → Prop, (∀ a, wpLater P ops w0 Q rest a → K a) → if Region.wanted o (yielded ops a.tmps) then ∃ v, (∀ s : Later w0, Oper.quietUpon P (fun w'' => Below s.world.heap.size s.world w'') s.world v ((execOp a.eval o).run P s.world)) ∧ K (a.put o.dst v) else K (a.put o.dst undef)) :
    wpLater P ops w0 Q (o :: rest) a := by
  have := h _ (fun _ h => h)
  split at this
  · rename_i hw
    obtain ⟨v, h1, h2⟩ := this
    exact ⟨v, .inl ⟨hw, h1⟩, h2⟩
  · rename_i hw
    exact ⟨undef, .inr ⟨by simpa using hw, rfl⟩, this⟩

theorem Makes.of {P : Program} {l : List Oper} {m : Nat} {o : Obj} {oa : Oper} (hoa : l[m]? = some oa) (hg : oa.guard = none) (hr : ∀ (a : Act) (w : World), (execOp a.eval oa).run P w = .ok (.value (.pointer (some ⟨w.heap.size, 0, none⟩))) (w.alloc o)) : Makes P l.toArray m o := by
  constructor
  · intro o' h a
    obtain rfl : oa = o' := by simpa [hoa] using h
    simp [Region.wanted, hg]
  · intro o' h a w
    obtain rfl : oa = o' := by simpa [hoa] using h
    exact hr a w

theorem Fresh.var {w : World} {B : Nat} {v : Value} {E : TypeId} (h : Fresh w B (.cells #[v] E (0, 0))) : VarAt w B 0 v := ⟨cell_of_one h, free_of_one h⟩

end Go.Proofs.Ytejkhpgahnncnaa
end

