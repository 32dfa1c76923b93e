/- Parts of the proofs: what they lean on. Conditions: none. -/
import Derived.OneCell
import Derived.Test.YtfabdppicogkmaaGreatGsfS21
section
namespace Go.Proofs.YtfabdppicogkmaaGreat
open Go.RowKit
set_option linter.unusedVariables false
set_option linter.unusedSimpArgs false
section
variable {P:Program} {ops:Array Oper} {md:Region.Mode} {w0:World} {m:Nat}
def Fresh (w:World) (B:Nat) (o:Obj):Prop:=w.heap[B]?=some o
theorem Fresh.later {w w':World} {B:Nat} {o:Obj} (h:Fresh w B o) (hb:Below w.heap.size w w'):Fresh w' B o :=
 (hb.block B (Array.getElem?_eq_some_iff.1 h).1).trans h
structure Makes (P:Program) (ops:Array Oper) (m:Nat) (o:Obj):Prop where
 guard:∀ oa,ops[m]?=some oa→∀ a:Act,Region.wanted oa (yielded ops a.tmps)=true
 run:∀ oa,ops[m]?=some oa→∀ (a:Act) (w:World),(execOp a.eval oa).run P w=.ok (.value (.pointer (some ⟨w.heap.size,0,none⟩))) (w.alloc o)
end
theorem Makes.of {P:Program} {l:List Oper} {m:Nat} {o:Obj} {oa:Oper} (hoa:l[m]?=some oa) (hg:oa.guard=none) (hr:∀ (a:Act) (w:World),(execOp a.eval oa).run P w=.ok (.value (.pointer (some ⟨w.heap.size,0,none⟩))) (w.alloc o)):Makes P l.toArray m o:=by
 constructor
 ·intro o' h a
  obtain rfl:oa=o':=by simpa [hoa] using h
  simp[Region.wanted,hg]
 ·intro o' h a w
  obtain rfl:oa=o':=by simpa [hoa] using h
  exact hr a w
theorem Fresh.var {w:World} {B:Nat} {v:Value} {E:TypeId} (h:Fresh w B (.cells #[v] E (0,0))):VarAt w B 0 v:=⟨cell_of_one h,free_of_one h⟩
end Go.Proofs.YtfabdppicogkmaaGreat
end
