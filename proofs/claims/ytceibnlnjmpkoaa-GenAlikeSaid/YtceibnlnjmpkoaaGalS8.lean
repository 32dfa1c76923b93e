/- Parts of the proofs: what they lean on. Conditions: none. -/
import Derived.ProofKit
import Derived.Deep.Slices
import Derived.Test.YtceibnlnjmpkoaaGalS7
section
namespace Go.Proofs.Ytceibnlnjmpkoaa
open Go.RowKit Go.ChangeShapes Go.WideShapes
set_option linter.unusedVariables false
set_option linter.unusedSimpArgs false
structure Rd (α:Type) where
 size:Nat
 rel:World→List Value→α→Prop
def A7e (k:IntKind):Rd Int:=⟨1,fun _ cs n=>cs=[.int k n]∧(Lit.int k n).wf=true⟩
def A6e:Rd Bool:=⟨1,fun _ cs b=>cs=[.bool b]⟩
def Ml {α β:Type} (r:Rd α) (s:Rd β):Rd (α×β):=⟨r.size+s.size,fun w cs x=>r.rel w (cs.take r.size) x.1∧s.rel w (cs.drop r.size) x.2⟩
def A3u {α β:Type} (f:α→β) (r:Rd α):Rd β:=⟨r.size,fun w cs y=>∃ x,r.rel w cs x∧y=f x⟩
def Qq {α:Type} (r:Rd α):Rd (List α):=⟨1,fun w cs l=>∃ a cap,cs=[.slice a l.length cap]∧(l.length≤cap∧cap≤maxLen∧(a=none→cap=0)) ∧
 ∀ k (hk:k < l.length),∃ b off cs',a=some ⟨b,off,none⟩∧cs'.length=r.size∧(∀ j u,cs'[j]?=some u→w.cell? ⟨b,off+k*r.size+j,none⟩=some u)∧r.rel w cs' l[k]⟩
def Il {α:Type} (r:Rd α):Prop:=∀ (w w':World) (cs:List Value) (x:α),r.rel w cs x→Below w.heap.size w w'→r.rel w' cs x
theorem Eh (k:IntKind):Il (A7e k):=fun _ _ _ _ h _=>h
theorem A48:Il A6e:=fun _ _ _ _ h _=>h
theorem Gb {α β:Type} {r:Rd α} {s:Rd β} (hr:Il r) (hs:Il s):Il (Ml r s):=fun w w' _ _ h hb=>⟨hr w w' _ _ h.1 hb,hs w w' _ _ h.2 hb⟩
theorem Ud {α β:Type} {r:Rd α} (f:α→β) (hr:Il r):Il (A3u f r):=fun w w' _ _ ⟨x,h,e⟩ hb=>⟨x,hr w w' _ _ h hb,e⟩
theorem Kv {α:Type} {r:Rd α} (hr:Il r):Il (Qq r):=fun w w' _ _ ⟨a,cap,h1,h2,h3⟩ hb =>
 ⟨a,cap,h1,h2,fun k hk=>let ⟨b,off,cs',e1,e2,e3,e4⟩:=h3 k hk;⟨b,off,cs',e1,e2,fun j u hj=>cell_later hb (e3 j u hj),hr w w' _ _ e4 hb⟩⟩
end Go.Proofs.Ytceibnlnjmpkoaa
end
