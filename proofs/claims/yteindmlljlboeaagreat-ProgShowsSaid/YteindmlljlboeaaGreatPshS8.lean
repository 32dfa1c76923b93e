/- Parts of the proofs: what they lean on. Conditions: none. -/
import Derived.ProofKit
import Derived.Deep.Slices
import Derived.Test.YteindmlljlboeaaGreatPshS7
section
namespace Go.Proofs.YteindmlljlboeaaGreat
open Go.RowKit Go.ChangeShapes Go.WideShapes
set_option linter.unusedVariables false
set_option linter.unusedSimpArgs false
structure Rd (α:Type) where
 size:Nat
 rel:World→List Value→α→Prop
def Ac7 (k:IntKind):Rd Int:=⟨1,fun _ cs n=>cs=[.int k n]∧(Lit.int k n).wf=true⟩
def A7k:Rd Bool:=⟨1,fun _ cs b=>cs=[.bool b]⟩
def Ah6:Rd (List UInt8):=⟨1,fun _ cs s=>cs=[.string (bs s)]∧s.length≤maxLen⟩
def E0 {α β:Type} (r:Rd α) (s:Rd β):Rd (α×β):=⟨r.size+s.size,fun w cs x=>r.rel w (cs.take r.size) x.1∧s.rel w (cs.drop r.size) x.2⟩
def Vp {α β:Type} (f:α→β) (r:Rd α):Rd β:=⟨r.size,fun w cs y=>∃ x,r.rel w cs x∧y=f x⟩
def Kw {α:Type} (r:Rd α):Rd (List α):=⟨1,fun w cs l=>∃ a cap,cs=[.slice a l.length cap]∧(l.length≤cap∧cap≤maxLen∧(a=none→cap=0)) ∧
 ∀ k (hk:k < l.length),∃ b off cs',a=some ⟨b,off,none⟩∧cs'.length=r.size∧(∀ j u,cs'[j]?=some u→w.cell? ⟨b,off+k*r.size+j,none⟩=some u)∧r.rel w cs' l[k]⟩
def Ll {α:Type} (r:Rd α):Prop:=∀ (w w':World) (cs:List Value) (x:α),r.rel w cs x→Below w.heap.size w w'→r.rel w' cs x
theorem D5 (k:IntKind):Ll (Ac7 k):=fun _ _ _ _ h _=>h
theorem A9x:Ll A7k:=fun _ _ _ _ h _=>h
theorem Qm:Ll Ah6:=fun _ _ _ _ h _=>h
theorem Ck {α β:Type} {r:Rd α} {s:Rd β} (hr:Ll r) (hs:Ll s):Ll (E0 r s):=fun w w' _ _ h hb=>⟨hr w w' _ _ h.1 hb,hs w w' _ _ h.2 hb⟩
theorem Qg {α β:Type} {r:Rd α} (f:α→β) (hr:Ll r):Ll (Vp f r):=fun w w' _ _ ⟨x,h,e⟩ hb=>⟨x,hr w w' _ _ h hb,e⟩
theorem Kc {α:Type} {r:Rd α} (hr:Ll r):Ll (Kw r):=fun w w' _ _ ⟨a,cap,h1,h2,h3⟩ hb =>
 ⟨a,cap,h1,h2,fun k hk=>let ⟨b,off,cs',e1,e2,e3,e4⟩:=h3 k hk;⟨b,off,cs',e1,e2,fun j u hj=>cell_later hb (e3 j u hj),hr w w' _ _ e4 hb⟩⟩
def Hg {α:Type} (P:Program) (t:TypeId) (r:Rd α):Prop :=
 P.cellsOf t=r.size∧∀ (H:Type) (enc:TypeId×Value→H) (w:World) (base:Nat) (spare:Nat→Bool) (held:Bool) (fuel:Nat) (cs:List Value) (x:DataW H×List MemPlace),DataW.trod enc P w base spare held fuel t cs=some x→∃ y,r.rel w cs y
theorem Ajj {P:Program} {t:TypeId} {k:IntKind} (ht:P.underlying t=some (.int k)) (hc:P.cellsOf t=1):Hg P t (Ac7 k) :=
 ⟨hc,fun _ _ _ _ _ _ _ _ _ h=>let ⟨n,h1,_,h3⟩:=DataW.trod_int ht h;⟨n,h1,h3⟩⟩
theorem Aj8 {P:Program} {t:TypeId} (ht:P.underlying t=some .string) (hc:P.cellsOf t=1):Hg P t Ah6 :=
 ⟨hc,fun _ _ _ _ _ _ _ _ _ h=>let ⟨s,h1,_,h3⟩:=DataW.trod_string ht h;⟨s.data.toList,h1,by rw[Array.length_toList];exact h3⟩⟩
theorem Ah8 {P:Program} {t:TypeId} (ht:P.underlying t=some .bool) (hc:P.cellsOf t=1):Hg P t A7k :=
 ⟨hc,fun _ _ _ _ _ _ _ _ _ h=>let ⟨b,h1,_⟩:=DataW.trod_bool ht h;⟨b,h1⟩⟩
theorem Agc {α:Type} {n:Nat} {p:Nat→α→Prop} (h:∀ i,i < n→∃ y,p i y):∃ l:List α,l.length=n∧∀ i (hi:i < l.length),p i l[i]:=by
 induction n with
 | zero=>exact⟨[],rfl,fun i hi=>absurd hi (by simp)⟩
 | succ n ih =>
  obtain⟨l,hl,hp⟩:=ih fun i hi=>h i (by omega)
  obtain⟨y,hy⟩:=h n (by omega)
  refine⟨l++[y],by simp[hl],fun i hi=>?_⟩
  rcases Nat.lt_or_ge i l.length with h1 | h1
  ·rw[List.getElem_append_left h1];exact hp i h1
  ·have:i=n:=by simp at hi;omega
   subst this
   rw[List.getElem_append_right h1]
   simpa using hy
theorem Pe {α:Type} {P:Program} {t e:TypeId} {r:Rd α} (ht:P.underlying t=some (.slice e)) (hc:P.cellsOf t=1) (hr:Hg P e r) (hpos:0 < r.size):Hg P t (Kw r):=by
 refine⟨hc,fun H enc w base spare held fuel cs x h=>?_⟩
 rcases Deep.open_slice ht h with ⟨rfl,_⟩ | ⟨a,len,cap,m,n,D,Pl,rfl,_,hl,hm,hmm,_,hi⟩
 ·exact⟨[],none,0,rfl,by simp,fun k hk=>absurd hk (by simp)⟩
 ·have hle:len≤m:=by rw[hmm];split<;>omega
  rw[hr.1] at hi
  obtain⟨l,hlen,hp⟩:=Agc (n:=len) (p:=fun i y=>∃ cs',cs'.length=r.size∧(∀ j u,cs'[j]?=some u→w.cell? (a.add (i*r.size+j))=some u)∧r.rel w cs' y) (fun i hlt=>by
   obtain⟨cs',h1,h2⟩:=hi i (by omega)
   obtain⟨_,h3,h4⟩:=World.cells?_some h1
   obtain⟨y,hy⟩:=hr.2 _ _ _ _ _ _ _ _ _ h2
   refine⟨y,cs',h3,fun j u hj=>?_,hy⟩
   have hj2:j < r.size:=by rw[← h3];exact(List.getElem?_eq_some_iff.1 hj).1
   rw[← Deep.add_add,h4 j hj2,hj])
  refine⟨l,some a,cap,by rw[hlen],⟨by omega,hm,by simp⟩,fun k hk=>?_⟩
  obtain⟨b,off,spot⟩:=a
  have hsp:spot=none:=by
   obtain⟨cs',h1,h2,_⟩:=hp 0 (by omega)
   have h3:=h2 0 _ (B7 (by omega))
   simpa [Addr.add] using World.cell?_spot h3
  subst hsp
  obtain⟨cs',h1,h2,h3⟩:=hp k hk
  refine⟨b,off,cs',rfl,h1,fun j u hj=>?_,h3⟩
  have:=h2 j u hj
  have hadd:(⟨b,off,none⟩:Addr).add (k*r.size+j)=⟨b,off+k*r.size+j,none⟩:=by
   unfold Addr.add
   split
   ·rename_i h0;rw[Nat.add_assoc,h0,Nat.add_zero]
   ·simp[Nat.add_assoc]
  rw[hadd] at this
  exact this
def Wc {α:Type} (P:Program) (fs:List Field) (off:Nat) (r:Rd α):Prop :=
 ∀ (H:Type) (enc:TypeId×Value→H) (w:World) (base:Nat) (spare:Nat→Bool) (held:Bool) (n:Nat) (cs:List Value),cs.length=r.size →
   (∀ f ∈ fs,off≤f.offset∧∃ y,DataW.trod enc P w base spare held n f.type ((cs.drop (f.offset - off)).take (P.cellsOf f.type))=some y)→∃ y,r.rel w cs y
theorem Ra {α:Type} {P:Program} {f:Field} {off:Nat} {r:Rd α} (ho:f.offset=off) (hr:Hg P f.type r):Wc P [f] off r:=by
 intro H enc w base spare held n cs hlen h
 obtain⟨_,y,hy⟩:=h f (by simp)
 rw[ho,Nat.sub_self,List.drop_zero,hr.1,← hlen,List.take_length] at hy
 exact hr.2 _ _ _ _ _ _ _ _ _ hy
theorem Cp {α β:Type} {P:Program} {f:Field} {fs:List Field} {off:Nat} {r:Rd α} {s:Rd β} (ho:f.offset=off) (hr:Hg P f.type r) (hs:Wc P fs (off+r.size) s) (hge:∀ g ∈ fs,off+r.size≤g.offset) :
 Wc P (f :: fs) off (E0 r s):=by
 intro H enc w base spare held n cs hlen h
 obtain⟨_,y,hy⟩:=h f (by simp)
 rw[ho,Nat.sub_self,List.drop_zero,hr.1] at hy
 obtain⟨x1,hx1⟩:=hr.2 _ _ _ _ _ _ _ _ _ hy
 have hl2:cs.length=r.size+s.size:=hlen
 obtain⟨x2,hx2⟩:=hs H enc w base spare held n (cs.drop r.size) (by rw[List.length_drop,hl2];omega) (fun g hg=>by
  obtain⟨h1,y,hy⟩:=h g (by simp[hg])
  have h2:=hge g hg
  refine⟨h2,y,?_⟩
  rw[List.drop_drop,show r.size+(g.offset - (off+r.size))=g.offset - off by omega]
  exact hy)
 exact⟨(x1,x2),hx1,hx2⟩
theorem Oc {α:Type} {P:Program} {t:TypeId} {fs:Array Field} {r:Rd α} (ht:P.underlying t=some (.struct fs)) (hc:P.cellsOf t=r.size) (hf:Wc P fs.toList 0 r):Hg P t r:=by
 refine⟨hc,fun H enc w base spare held fuel cs x h=>?_⟩
 obtain⟨xs,n,_,_,hlen,hxs,hi⟩:=DataW.trod_struct ht h
 refine hf H enc w base spare held n cs (by rw[hlen,hc]) fun f hfm=>?_
 obtain⟨i,hil,hie⟩:=List.getElem_of_mem hfm
 have hfi:fs[i]?=some f:=by
  have:i < fs.size:=by simpa using hil
  rw[Array.getElem?_eq_getElem this]
  rw[← hie];simp
 have h2:=hi i f hfi
 refine⟨Nat.zero_le _,?_⟩
 rw[Nat.sub_zero,h2]
 have:i < xs.length:=by rw[hxs];simpa using hil
 exact⟨_,B7 this⟩
theorem T8 {α β:Type} {P:Program} {t:TypeId} {r:Rd α} (f:α→β) (h:Hg P t r):Hg P t (Vp f r) :=
 ⟨h.1,fun _ _ _ _ _ _ _ _ _ ht=>let ⟨x,hx⟩:=h.2 _ _ _ _ _ _ _ _ _ ht;⟨_,x,hx,rfl⟩⟩
theorem Alk {α:Type} {P:Program} {t:TypeId} {r:Rd α} (h:Hg P t r) {H:Type} {enc:TypeId×Value→H} {w:World} {v:Value} {d:DataW H} {p:List MemPlace} (ht:DataW.Trod enc P w 0 (fun _=>true) true t v d p):∃ y,r.rel w v.cells.toList y:=by
 obtain⟨fuel,hf⟩:=ht
 exact h.2 _ _ _ _ _ _ _ _ _ hf
theorem Arr.of_slice {α:Type} {r:Rd α} {cells:α→List Value} {w:World} {v:Value} {l:List α} (hpos:0 < r.size) (hcl:∀ x,(cells x).length=r.size) (hrel:∀ w cs x,r.rel w cs x→cs=cells x) (h:(Kw r).rel w [v] l):Arr w r.size v l.length (l.flatMap cells):=by
 obtain⟨a,cap,h1,h2,h3⟩:=h
 simp only[List.cons.injEq,and_true] at h1
 subst h1
 refine⟨Z1 cells r.size hcl l,a,cap,rfl,h2,fun j u hj=>?_⟩
 have hj1:j < (l.flatMap cells).length:=(List.getElem?_eq_some_iff.1 hj).1
 rw[Z1 cells r.size hcl l] at hj1
 have hk:j / r.size < l.length:=Nat.div_lt_of_lt_mul (by rw[Nat.mul_comm];exact hj1)
 obtain⟨b,off,cs',e1,e2,e3,e4⟩:=h3 (j / r.size) hk
 refine⟨b,off,e1,?_⟩
 have hm:j % r.size < r.size:=Nat.mod_lt _ hpos
 have hdm:=Nat.div_add_mod j r.size
 have h5:(l.flatMap cells)[j / r.size*r.size+j % r.size]?=(cells l[j / r.size])[j % r.size]?:=Ag0 cells r.size hcl l _ hk _ hm
 rw[Nat.mul_comm] at hdm
 rw[hdm,hj,← hrel _ _ _ e4] at h5
 have:=e3 (j % r.size) u h5.symm
 rw[Nat.add_assoc,hdm] at this
 exact this
end Go.Proofs.YteindmlljlboeaaGreat
end
