/- Parts of the proofs: what they lean on. Conditions: none. -/
import Derived.ProofKit
import Derived.Deep.Slices
import Derived.Test.YtfabdppicogkmaaGreatGsfS7
section
namespace Go.Proofs.YtfabdppicogkmaaGreat
open Go.RowKit Go.ChangeShapes Go.WideShapes
set_option linter.unusedVariables false
set_option linter.unusedSimpArgs false
structure Rd (α:Type) where
 size:Nat
 rel:World→List Value→α→Prop
def A98 (k:IntKind):Rd Int:=⟨1,fun _ cs n=>cs=[.int k n]∧(Lit.int k n).wf=true⟩
def Ap3:Rd Bool:=⟨1,fun _ cs b=>cs=[.bool b]⟩
def Lt {α β:Type} (r:Rd α) (s:Rd β):Rd (α×β):=⟨r.size+s.size,fun w cs x=>r.rel w (cs.take r.size) x.1∧s.rel w (cs.drop r.size) x.2⟩
def A4r {α β:Type} (f:α→β) (r:Rd α):Rd β:=⟨r.size,fun w cs y=>∃ x,r.rel w cs x∧y=f x⟩
def Li {α:Type} (r:Rd α):Rd (List α):=⟨1,fun w cs l=>∃ a cap,cs=[.slice a l.length cap]∧(l.length≤cap∧cap≤maxLen∧(a=none→cap=0)) ∧
 ∀ k (hk:k < l.length),∃ b off cs',a=some ⟨b,off,none⟩∧cs'.length=r.size∧(∀ j u,cs'[j]?=some u→w.cell? ⟨b,off+k*r.size+j,none⟩=some u)∧r.rel w cs' l[k]⟩
def Lz {α:Type} (r:Rd α):Prop:=∀ (w w':World) (cs:List Value) (x:α),r.rel w cs x→Below w.heap.size w w'→r.rel w' cs x
theorem F3 (k:IntKind):Lz (A98 k):=fun _ _ _ _ h _=>h
theorem Agt:Lz Ap3:=fun _ _ _ _ h _=>h
theorem Jh {α β:Type} {r:Rd α} {s:Rd β} (hr:Lz r) (hs:Lz s):Lz (Lt r s):=fun w w' _ _ h hb=>⟨hr w w' _ _ h.1 hb,hs w w' _ _ h.2 hb⟩
theorem A0m {α β:Type} {r:Rd α} (f:α→β) (hr:Lz r):Lz (A4r f r):=fun w w' _ _ ⟨x,h,e⟩ hb=>⟨x,hr w w' _ _ h hb,e⟩
theorem P2 {α:Type} {r:Rd α} (hr:Lz r):Lz (Li r):=fun w w' _ _ ⟨a,cap,h1,h2,h3⟩ hb =>
 ⟨a,cap,h1,h2,fun k hk=>let ⟨b,off,cs',e1,e2,e3,e4⟩:=h3 k hk;⟨b,off,cs',e1,e2,fun j u hj=>cell_later hb (e3 j u hj),hr w w' _ _ e4 hb⟩⟩
def Ap6 {α:Type} (P:Program) (t:TypeId) (r:Rd α):Prop :=
 P.cellsOf t=r.size∧∀ (H:Type) (enc:TypeId×Value→H) (w:World) (base:Nat) (spare:Nat→Bool) (held:Bool) (fuel:Nat) (cs:List Value) (x:DataW H×List MemPlace),DataW.trod enc P w base spare held fuel t cs=some x→∃ y,r.rel w cs y
theorem Aq4 {α:Type} {n:Nat} {p:Nat→α→Prop} (h:∀ i,i < n→∃ y,p i y):∃ l:List α,l.length=n∧∀ i (hi:i < l.length),p i l[i]:=by
 induction n with
 | zero=>exact⟨[],rfl,fun i hi=>absurd hi (by simp)⟩
 | succ n ih =>
  obtain⟨l,hl,hp⟩:=ih fun i hi=>h i (by omega)
  obtain⟨y,hy⟩:=h n (by omega)
  refine⟨l++[y],by simp[hl],fun i hi=>?_⟩
  rcases Nat.lt_or_ge i l.length with h1 | h1
  ·rw[List.getElem_append_left h1];exact hp i h1
  ·have:i=n:=by simp at hi;omega
   subst this
   rw[List.getElem_append_right h1]
   simpa using hy
theorem Amb {α:Type} {P:Program} {t:TypeId} {r:Rd α} (h:Ap6 P t r) {H:Type} {enc:TypeId×Value→H} {w:World} {v:Value} {d:DataW H} {p:List MemPlace} (ht:DataW.Trod enc P w 0 (fun _=>true) true t v d p):∃ y,r.rel w v.cells.toList y:=by
 obtain⟨fuel,hf⟩:=ht
 exact h.2 _ _ _ _ _ _ _ _ _ hf
end Go.Proofs.YtfabdppicogkmaaGreat
end
