/- Parts of the proofs: what they lean on. Conditions: none. -/
import Derived.ProofKit
import Derived.Deep.Slices
import Derived.Test.YtnijlelbihnamaaPrbS7
section
namespace Go.Proofs.Ytnijlelbihnamaa
open Go.RowKit Go.ChangeShapes Go.WideShapes
set_option linter.unusedVariables false
set_option linter.unusedSimpArgs false
structure Rd (α:Type) where
 size:Nat
 rel:World→List Value→α→Prop
def An0 (k:IntKind):Rd Int:=⟨1,fun _ cs n=>cs=[.int k n]∧(Lit.int k n).wf=true⟩
def Aju:Rd Bool:=⟨1,fun _ cs b=>cs=[.bool b]⟩
def Amf:Rd (List UInt8):=⟨1,fun _ cs s=>cs=[.string (bs s)]∧s.length≤maxLen⟩
def Rt {α β:Type} (r:Rd α) (s:Rd β):Rd (α×β):=⟨r.size+s.size,fun w cs x=>r.rel w (cs.take r.size) x.1∧s.rel w (cs.drop r.size) x.2⟩
def Acm {α β:Type} (f:α→β) (r:Rd α):Rd β:=⟨r.size,fun w cs y=>∃ x,r.rel w cs x∧y=f x⟩
def X1 {α:Type} (r:Rd α):Rd (List α):=⟨1,fun w cs l=>∃ a cap,cs=[.slice a l.length cap]∧(l.length≤cap∧cap≤maxLen∧(a=none→cap=0)) ∧
 ∀ k (hk:k < l.length),∃ b off cs',a=some ⟨b,off,none⟩∧cs'.length=r.size∧(∀ j u,cs'[j]?=some u→w.cell? ⟨b,off+k*r.size+j,none⟩=some u)∧r.rel w cs' l[k]⟩
def Ny {α:Type} (r:Rd α):Prop:=∀ (w w':World) (cs:List Value) (x:α),r.rel w cs x→Below w.heap.size w w'→r.rel w' cs x
theorem Hl (k:IntKind):Ny (An0 k):=fun _ _ _ _ h _=>h
theorem Agl:Ny Aju:=fun _ _ _ _ h _=>h
theorem Ki {α β:Type} {r:Rd α} {s:Rd β} (hr:Ny r) (hs:Ny s):Ny (Rt r s):=fun w w' _ _ h hb=>⟨hr w w' _ _ h.1 hb,hs w w' _ _ h.2 hb⟩
theorem A2c {α β:Type} {r:Rd α} (f:α→β) (hr:Ny r):Ny (Acm f r):=fun w w' _ _ ⟨x,h,e⟩ hb=>⟨x,hr w w' _ _ h hb,e⟩
theorem R0 {α:Type} {r:Rd α} (hr:Ny r):Ny (X1 r):=fun w w' _ _ ⟨a,cap,h1,h2,h3⟩ hb =>
 ⟨a,cap,h1,h2,fun k hk=>let ⟨b,off,cs',e1,e2,e3,e4⟩:=h3 k hk;⟨b,off,cs',e1,e2,fun j u hj=>cell_later hb (e3 j u hj),hr w w' _ _ e4 hb⟩⟩
def Adu {α:Type} (P:Program) (t:TypeId) (r:Rd α):Prop :=
 P.cellsOf t=r.size∧∀ (H:Type) (enc:TypeId×Value→H) (w:World) (base:Nat) (spare:Nat→Bool) (held:Bool) (fuel:Nat) (cs:List Value) (x:DataW H×List MemPlace),DataW.trod enc P w base spare held fuel t cs=some x→∃ y,r.rel w cs y
theorem Agq {P:Program} {t:TypeId} (ht:P.underlying t=some .string) (hc:P.cellsOf t=1):Adu P t Amf :=
 ⟨hc,fun _ _ _ _ _ _ _ _ _ h=>let ⟨s,h1,_,h3⟩:=DataW.trod_string ht h;⟨s.data.toList,h1,by rw[Array.length_toList];exact h3⟩⟩
theorem Ahk {α:Type} {P:Program} {t:TypeId} {r:Rd α} (h:Adu P t r) {H:Type} {enc:TypeId×Value→H} {w:World} {v:Value} {d:DataW H} {p:List MemPlace} (ht:DataW.Trod enc P w 0 (fun _=>true) true t v d p):∃ y,r.rel w v.cells.toList y:=by
 obtain⟨fuel,hf⟩:=ht
 exact h.2 _ _ _ _ _ _ _ _ _ hf
end Go.Proofs.Ytnijlelbihnamaa
end
