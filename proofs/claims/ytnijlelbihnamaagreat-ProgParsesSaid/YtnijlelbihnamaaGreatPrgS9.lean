/- Parts of the proofs: what they lean on. Conditions: none. -/
import Derived.OpenShut
import Derived.Test.YtnijlelbihnamaaGreatPrgS8
section
namespace Go.Proofs.YtnijlelbihnamaaGreat
open Go.RowKit
set_option linter.unusedVariables false
set_option linter.unusedSimpArgs false
structure OpS where
 op:Int
 n:Int
 t:Int
 deriving DecidableEq
structure Aol where
 op:Int
 reg:Int
 loc:Int
 e:List OpS
 f:List OpS
 ne:Bool
 goal:Int
 deriving DecidableEq
structure B01 where
 mod:Int
 init:List Int
 regs:List Int
 code:List (List Aol)
 deriving DecidableEq
structure Ao9 where
 loc:Int
 n:Int
 deriving DecidableEq
structure Azx where
 pc:List Int
 regs:List (List Int)
 mem:List Int
 buf:List (List Ao9)
 deriving DecidableEq
abbrev rI:Rd Int:=Aod .i64
def B04:Rd (List Int):=Uv rI
def rOp:Rd OpS:=A4p (fun x=>⟨x.1,x.2.1,x.2.2⟩) (Lf rI (Lf rI rI))
def Azs:Rd (List OpS):=Uv rOp
def Axa:Rd Aol:=A4p (fun x=>⟨x.1,x.2.1,x.2.2.1,x.2.2.2.1,x.2.2.2.2.1,x.2.2.2.2.2.1,x.2.2.2.2.2.2⟩) (Lf rI (Lf rI (Lf rI (Lf Azs (Lf Azs (Lf Ah2 rI))))))
def Aro:Rd (List Aol):=Uv Axa
def Ax3:Rd Ao9:=A4p (fun x=>⟨x.1,x.2⟩) (Lf rI rI)
def Aoc:Rd (List Ao9):=Uv Ax3
theorem Avw:Yq B04:=A1l (R9 _)
theorem B13:Yq rOp:=Aep _ (Us (R9 _) (Us (R9 _) (R9 _)))
theorem Aps:Yq Azs:=A1l B13
theorem Au5:Yq Axa:=Aep _ (Us (R9 _) (Us (R9 _) (Us (R9 _) (Us Aps (Us Aps (Us Avp (R9 _)))))))
theorem Aqt:Yq Aro:=A1l Au5
theorem Asg:Yq Ax3:=Aep _ (Us (R9 _) (R9 _))
theorem Anb:Yq Aoc:=A1l Asg
abbrev Sl {α:Type} (r:Rd α) (w:World) (v:Value) (l:List α):Prop:=(Uv r).rel w [v] l
theorem Sl.mono {α:Type} {r:Rd α} (hm:Yq r) {w w':World} {v:Value} {l:List α} (h:Sl r w v l) (hb:Below w.heap.size w w'):Sl r w' v l:=A1l hm _ _ _ _ h hb
theorem Sl.len {α:Type} {r:Rd α} {w:World} {v:Value} {l:List α} (h:Sl r w v l):l.length≤9223372036854775807:=by
 obtain⟨a,cap,_,⟨h1,h2,_⟩,_⟩:=h
 unfold maxLen at h2;omega
def UnitV (w:World) (v:Value) (u:B01):Prop:=∃ vi vr vc,v=.agg #[.int .i64 u.mod,vi,vr,vc]∧Sl rI w vi u.init∧Sl rI w vr u.regs∧Sl Aro w vc u.code∧ -9223372036854775808≤u.mod∧u.mod≤9223372036854775807
theorem UnitV.mono {w w':World} {v:Value} {u:B01} (h:UnitV w v u) (hb:Below w.heap.size w w'):UnitV w' v u:=by
 obtain⟨vi,vr,vc,h0,h1,h2,h3,h4⟩:=h
 exact⟨vi,vr,vc,h0,h1.mono (R9 _) hb,h2.mono (R9 _) hb,h3.mono Aqt hb,h4⟩
def ConfV (w:World) (v:Value) (c:Azx):Prop:=∃ vp vr vm vb,v=.agg #[vp,vr,vm,vb]∧Sl rI w vp c.pc∧Sl B04 w vr c.regs∧Sl rI w vm c.mem∧Sl Aoc w vb c.buf
theorem ConfV.mono {w w':World} {v:Value} {c:Azx} (h:ConfV w v c) (hb:Below w.heap.size w w'):ConfV w' v c:=by
 obtain⟨vp,vr,vm,vb,h0,h1,h2,h3,h4⟩:=h
 exact⟨vp,vr,vm,vb,h0,h1.mono (R9 _) hb,h2.mono Avw hb,h3.mono (R9 _) hb,h4.mono Anb hb⟩
def SAll (w:World) (b o:Nat):Prop:=∃ u,stay w b o=some u
def Enc {α:Type} (r:Rd α) (enc:α→List AV):Prop:=∀ (w:World) (cs:List Value) (x:α),r.rel w cs x→Reps (SAll w) w [] [] (enc x) cs∧Pi cs
theorem B1j (k:IntKind):Enc (Aod k) (fun n=>[.int k n]):=by
 rintro w cs x ⟨rfl,h⟩
 exact⟨.cons _ _ _ _ _ _ (.int _ _ _ _ h) (.nil _ _),by intro v hv;simp at hv;subst hv;rfl⟩
theorem Ay5:Enc Ah2 (fun b=>[.bool b]):=by
 rintro w cs x rfl
 exact⟨.cons _ _ _ _ _ _ (.bool _ _ _) (.nil _ _),by intro v hv;simp at hv;subst hv;rfl⟩
theorem B0q:Enc Aui (fun s=>[.str s]):=by
 rintro w cs x ⟨rfl,h⟩
 exact⟨.cons _ _ _ _ _ _ (.str _ _ _ h) (.nil _ _),by intro v hv;simp at hv;subst hv;rfl⟩
theorem Ko {α β:Type} {r:Rd α} {s:Rd β} {f:α→List AV} {g:β→List AV} (hf:Enc r f) (hg:Enc s g):Enc (Lf r s) (fun x=>f x.1++g x.2):=by
 rintro w cs x ⟨h1,h2⟩
 obtain⟨a1,a2⟩:=hf _ _ _ h1
 obtain⟨b1,b2⟩:=hg _ _ _ h2
 have:=a1.append b1
 rw[List.take_append_drop] at this
 refine⟨this,fun v hv=>?_⟩
 rw[← List.take_append_drop r.size cs,List.mem_append] at hv
 exact hv.elim (a2 v) (b2 v)
theorem A5n {α β:Type} {r:Rd α} {f:α→β} {g:α→List AV} {g':β→List AV} (he:∀ x,g' (f x)=g x) (h:Enc r g):Enc (A4p f r) g':=by
 rintro w cs x ⟨y,h1,rfl⟩
 rw[he];exact h _ _ _ h1
theorem Aq6 {S:Nat→Nat→Prop} {w:World}:∀ {els:List (List AV)} {vss:List (List Value)},els.length=vss.length→(∀ (k:Nat) (el:List AV) (vs:List Value),els[k]?=some el→vss[k]?=some vs→Reps S w [] [] el vs∧Pi vs)→Repss S w els vss
 | [],[],_,_=>.nil
 | el :: els,vs :: vss,hl,h=>.cons _ _ _ _ (h 0 el vs rfl rfl).1 (h 0 el vs rfl rfl).2 (Aq6 (by simpa using hl) fun k a b h1 h2=>h (k+1) a b (by simpa using h1) (by simpa using h2))
theorem A0h {α:Type} {r:Rd α} {f:α→List AV} (hf:Enc r f):Enc (Uv r) (fun l=>[.sl r.size (l.map f)]):=by
 rintro w cs l ⟨a,cap,rfl,hc,hi⟩
 obtain⟨vss,hlen,hv⟩:=Ark (n:=l.length) (p:=fun k cs'=>∃ hk:k < l.length,∃ b off,a=some ⟨b,off,none⟩∧cs'.length=r.size∧(∀ j u,cs'[j]?=some u→w.cell? ⟨b,off+k*r.size+j,none⟩=some u)∧r.rel w cs' l[k]) (fun k hk=>by
  obtain⟨b,off,cs',h⟩:=hi k hk
  exact⟨cs',hk,b,off,h⟩)
 have hrep:Repss (SAll w) w (l.map f) vss:=by
  refine Aq6 (by rw[Au,hlen]) fun k el vs h1 h2=>?_
  obtain⟨hk2,rfl⟩:=List.getElem?_eq_some_iff.1 h2
  obtain⟨hk,b,off,_,_,_,h6⟩:=hv k hk2
  rw[List.getElem?_map,Ax hk] at h1
  simp at h1;subst h1
  exact hf _ _ _ h6
 refine⟨.cons _ _ _ _ _ _ ?_ (.nil _ _),by intro v hv;simp at hv;subst hv;rfl⟩
 have:=Rep.sl (S:=SAll w) (w:=w) [] [] r.size (l.map f) vss a cap hrep ⟨fun vs hm=>?_,fun j vs t u h1 h2=>?_⟩ (by rw[Au];exact hc)
 ·rw[Au] at this;exact this
 ·obtain⟨k,hk,rfl⟩:=List.getElem_of_mem hm
  obtain⟨_,_,_,_,h,_⟩:=hv k hk
  exact h
 ·obtain⟨hk2,rfl⟩:=List.getElem?_eq_some_iff.1 h1
  obtain⟨hk,b,off,h4,h5,h6,_⟩:=hv j hk2
  exact⟨b,off,h4,⟨_,(A6c (h6 t u h2)).choose_spec⟩,h6 t u h2⟩
theorem Ala {X:Ext} (hX:A7l Tryz.prog X) {n:Nat} {g:FuncId} {args:List AV} {W:World} {vs:List Value} (h:Mt Tryz.prog HH X n g args []=some (.bool true,[])) (hr:Reps (SAll W) W [] [] args vs):Calls Tryz.prog g vs.toArray W fun e w'=>e=.returned (.bool true)∧Below W.heap.size W w':=by
 refine(Ayo hX n false g args [] _ _ h W.heap.size (SAll W) W [] vs ⟨rfl,Nat.le_refl _,fun _ _ ⟨u,hu⟩=>⟨u,hu,fun hb=>absurd (Vu hu) (by omega)⟩,fun id o ho=>by simp at ho,fun i j b hi=>by simp[Bk] at hi⟩ hr).mono ?_
 rintro e w' ⟨u,S',φ',rfl,hu,_,ht⟩
 exact⟨by rw[hu.bool_inv],ht.below⟩
theorem A5a {w w':World} (hb:Below w.heap.size w w') {b o:Nat} (h:∃ u,stay w b o=some u):stay w' b o=stay w b o:=by
 obtain⟨u,hu⟩:=h
 exact W8 (hb.block b (Vu hu)) o
theorem SAll.ext {w w':World} (hb:Below w.heap.size w w'):SExt (SAll w) w (SAll w') w':=fun b o h=>⟨by
 have:=A5a hb h
 obtain⟨u,hu⟩:=h
 exact⟨u,this.trans hu⟩,A5a hb h⟩
theorem Aab {S:Nat→Nat→Prop} {w w':World} (hc:∀ b o,S b o→∃ u,stay w b o=some u) (hb:Below w.heap.size w w'):SExt S w S w'∧∀ b o,S b o→∃ u,stay w' b o=some u∧(w.heap.size≤b→u.2.2=(0,0)) :=
 ⟨fun b o h=>⟨h,A5a hb (hc b o h)⟩,fun b o h=>by
  obtain⟨u,hu⟩:=hc b o h
  exact⟨u,(A5a hb ⟨u,hu⟩).trans hu,fun hb=>absurd (Vu hu) (by omega)⟩⟩
abbrev Ayx:=List (FuncId×(List AV→Option AV))
def Ahb:Ayx→Ext
 | [],_=>none
 | (g,k) :: l,f=>match Nat.beq g f with
   | true=>some k
   | false=>Ahb l f
def A9n (P:Program) (g:FuncId) (k:List AV→Option AV):Prop:=∀ (args:List AV) (v:AV),k args=some v→∀ (S:Nat→Nat→Prop) (w:World) (vs:List Value),(∀ b o,S b o→∃ u,stay w b o=some u)→Reps S w [] [] args vs →
 Calls P g vs.toArray w fun e w'=>∃ u S',e=.returned u∧Rep S' w' [] [] v u∧(∀ b o,S' b o→∃ u,stay w' b o=some u∧(w.heap.size≤b→u.2.2=(0,0)))∧SExt S w S' w'∧(∀ b o,S' b o→S b o∨w.heap.size≤b)∧Below w.heap.size w w'
theorem Ael {P:Program}:∀ {l:Ayx},(∀ p ∈ l,A9n P p.1 p.2)→A7l P (Ahb l)
 | [],_=>fun g k h=>by simp[Ahb] at h
 | (g,k) :: l,hl=>fun f k' h=>by
  simp only[Ahb] at h
  split at h
  ·rename_i he
   have he:=Nat.eq_of_beq_eq_true he
   cases h
   have:=hl (g,k) (by simp)
   rw[← he];exact this
  ·exact Ael (fun p hp=>hl p (by simp[hp])) f k' h
def Atx (b:Bool) (w:World) (e:Ending) (w':World):Prop:=e=.returned (.bool b)∧Below w.heap.size w w'
theorem Arf {ρ:Type} {cont:Tm→Hp→Option ρ} {tm tm':Tm} {hp hp':Hp} {r:Option ρ} (h:cont tm' hp'=r) (h1:tm=tm') (h2:hp=hp'):cont tm hp=r:=by rw[h1,h2];exact h
def Dy (n:Int):List AV:=[.int .i64 n]
abbrev aIs (l:List Int):AV:=.sl 1 (l.map Dy)
def B28 (l:List Int):List AV:=[aIs l]
inductive LR (τ ν:Type) where
 | out (t:τ)
 | ret (v:ν)
 deriving DecidableEq
def Abf {ρ τ ν:Type} (K:Ex→Tm→Hp→Option ρ) (id:Nat) (tmX:τ→(Nat→Nat)→Tm) (hpX:τ→(Nat→Nat)→Hp) (encR:ν→ρ) (r:Option ρ):LR τ ν→Prop
 | .out t=>∀ a,K (.exit id) (tmX t a) (hpX t a)=r
 | .ret v=>r=some (encR v)
theorem Aic {ρ σ τ ν:Type} {body:Tm→Hp→(Ex→Tm→Hp→Option ρ)→Option ρ} {keep:Nat→List Nat} {h0:Nat} {K:Ex→Tm→Hp→Option ρ} {r:Option ρ} (id:Nat) (tmOf:σ→(Nat→Nat)→Tm) (hpOf:σ→(Nat→Nat)→Hp) (tmX:τ→(Nat→Nat)→Tm) (hpX:τ→(Nat→Nat)→Hp) (encR:ν→ρ) (L:Nat→σ→Option (LR τ ν)) (hL:∀ s,L 0 s=none) (o:LR τ ν)
 (hround:∀ (k:Nat) (s:σ) (a:Nat→Nat) (K':Ex→Tm→Hp→Option ρ) (cont:Tm→Hp→Option ρ),(∀ tm hp,K' .ret tm hp=K .ret tm hp)→(∀ s' a',L k s'=some o→cont (tmOf s' a') (hpOf s' a')=r)→L (k+1) s=some o→Abf K' id tmX hpX encR r o →
  Mf force (fun tm=>F7 (fun hp=>body tm hp (fun e tm hp=>Mf force (fun tm=>F7 (fun hp=>match e with
   | .normal=>cont tm hp
   | .exit id=>K' (.exit id) tm hp
   | .ret=>K' .ret tm hp) (Nz h0 hp)) (A49 (keep (Abe e)) h0 hp 0 tm))) (hpOf s a)) (tmOf s a)=r) :
 ∀ (n:Nat) (s:σ) (a:Nat→Nat) (tm:Tm) (hp:Hp),L n s=some o→Abf K id tmX hpX encR r o→tm=tmOf s a→hp=hpOf s a→rounds body keep h0 n tm hp K=r:=by
 intro n
 induction n with
 | zero=>intro s a tm hp h;rw[hL] at h;cases h
 | succ n ih =>
  intro s a tm hp h hr h1 h2
  subst h1;subst h2
  unfold rounds
  have:=hround n s a K (fun tm hp=>rounds body keep h0 n tm hp K) (fun _ _=>rfl) (fun s' a' h'=>ih s' a' _ _ h' hr rfl rfl) h hr
  rw[L7 A2n,Cc] at this
  exact this
def B3d (b:Bool):List AV:=[.bool b]
def Dv (s:List UInt8):List AV:=[.str s]
def fieldsOf (P:Program) (t:TypeId):List Field:=match P.underlying t with
 | some (.struct fs)=>fs.toList
 | _=>[]
theorem An3 {α:Type} {c:Bool} {a:Option α} {r:α} (h:(bif c then a else none)=some r):c=true∧a=some r:=by
 cases c
 ·cases h
 ·exact⟨rfl,h⟩
theorem bind_some {α β:Type} {o:Option α} {f:α→Option β} {r:β} (h:o.bind f=some r):∃ x,o=some x∧f x=some r:=by
 cases o with
 | none=>cases h
 | some x=>exact⟨x,rfl,h⟩
theorem B6 {α:Type} {c:Bool} {a:Option α} {r:α} {G:Prop} (h:(bif c then a else none)=some r) (h1:c=true→a=some r→G):G:=h1 (An3 h).1 (An3 h).2
theorem As {α β:Type} {o:Option α} {f:α→Option β} {r:β} {G:Prop} (h:o.bind f=some r) (k:∀ x,o=some x→f x=some r→G):G:=by
 obtain⟨x,h1,h2⟩:=bind_some h
 exact k x h1 h2
def idx {α:Type} (l:List α) (i:Int):Option α:=bif decide (0≤i) then l[i.toNat]? else none
theorem Ani {α:Type} {l:List α} {i:Int} {x:α} (h:idx l i=some x):0≤i∧i < l.length∧l[i.toNat]?=some x:=by
 unfold idx at h
 by_cases h0:0≤i
 ·rw[decide_eq_true h0] at h
  have:=(List.getElem?_eq_some_iff.1 h).1
  exact⟨h0,by omega,h⟩
 ·rw[decide_eq_false h0] at h;cases h
theorem Ga {α:Type} {l:List α} {i:Int} {x:α} (h:idx l i=some x):(decide (0≤i)&&decide (i < (l.length:Int)))=true:=by
 obtain⟨h1,h2,_⟩:=Ani h
 rw[decide_eq_true h1,decide_eq_true h2];rfl
theorem Pd {α β:Type} {l:List α} {f:α→β} {i:Int} {x:α} (h:idx l i=some x):(decide (0≤i)&&decide (i < ((l.map f).length:Int)))=true:=by
 rw[Au];exact Ga h
theorem Ik {α:Type} {f:α→List AV} {l:List α} {i:Int} {x:α} (h:idx l i=some x):nth? (l.map f) i.toNat=some (f x):=by
 rw[nth?_eq,List.getElem?_map,(Ani h).2.2];rfl
theorem Ars {l:List UInt8} {i:Int} {x:UInt8} (h:idx l i=some x):nth? l i.toNat=some x:=by rw[nth?_eq,(Ani h).2.2]
theorem Qg {α:Type} (l:List α) (k:Nat):idx l (k:Int)=l[k]?:=by simp[idx]
theorem Lu {n a a' k k' b B:Nat} (h:decide ((a+k)*B≤140737488355328)=true) (hn:n=a) (ha:a'=a) (hk:k'=k) (hb:b+1=B):(decide (n=a')&&decide ((a'+k')*(b+1)≤140737488355328))=true:=by
 subst hn;subst ha;subst hk;rw[hb,h];simp
theorem Jq {a a' k k' b B:Nat} (h:decide ((a+k)*B≤140737488355328)=true) (ha:a'=a) (hk:k'=k) (hb:b+1=B):(decide True&&decide ((a'+k')*(b+1)≤140737488355328))=true:=by
 subst ha;subst hk;rw[hb,h];simp
theorem Arq {k k' b B:Nat} (h:decide (k*B≤140737488355328)=true) (hk:k'=k) (hb:b+1=B):decide (k'*(b+1)≤140737488355328)=true:=by
 subst hk;rw[hb,h]
theorem C0 {α β:Type} (f:α→β) (l:List α):List.take l.length (List.map f l)=List.map f l:=List.take_of_length_le (by rw[Au];exact Nat.le_refl _)
theorem Arj {ρ:Type} {K:Ex→Tm→Hp→Option ρ} {e:Ex} {tm tm':Tm} {hp hp':Hp} {r:Option ρ} (h:K e tm' hp'=r) (h1:tm=tm') (h2:hp=hp'):K e tm hp=r:=by rw[h1,h2];exact h
theorem Ss {α β:Type} {l:List α} {f:α→β} {i:Int} {x:α} (h:idx l i=some x):(decide (0≤i)&&decide (i < ((l.length:Nat):Int))&&decide (0+l.length≤(l.map f).length))=true:=by
 rw[Ga h];simp
theorem Hw {α:Type} {l:List α} {i:Int} {x:α} (h:idx l i=some x):(decide (0≤i)&&decide (i < ((l.length:Nat):Int))&&decide (0+l.length≤l.length))=true:=by
 rw[Ga h];simp
theorem Awf {i:Int} {n:Nat} (h:(decide (0≤i)&&decide (i≤(n:Int)))=true):i.toNat≤n:=by
 simp only[Ah,C1] at h
 omega
def B03 {α:Type} (l:List α) (off n:Nat) (src:List α):List α:=if off+n≤l.length then List.take off l++(List.take n src++List.drop (off+Nat.min src.length n) l) else l
theorem J4 {α:Type} {l:List α} {off n:Nat} {src:List α}:(B03 l off n src).length=l.length:=by
 unfold B03
 split
 ·have:Nat.min src.length n=min src.length n:=rfl
  simp only[List.length_append,List.length_take,List.length_drop,this];omega
 ·rfl
theorem Em (n:Nat):decide (n=n)=true:=by simp
def Bf {κ ν:Type} [DecidableEq κ]:List (κ×ν)→κ→ν→ν
 | [],_,z=>z
 | p :: l,k,z=>if k=p.1 then p.2 else Bf l k z
def V2 {κ ν:Type} [DecidableEq κ]:List (κ×ν)→κ→Bool
 | [],_=>false
 | p :: l,k=>if k=p.1 then true else V2 l k
def Re {κ ν:Type} [DecidableEq κ]:List (κ×ν)→κ→ν→List (κ×ν)
 | [],k,v=>[(k,v)]
 | p :: l,k,v=>if k=p.1 then(p.1,v) :: l else p :: Re l k v
theorem Aam (s u:List UInt8):Tg (.str s) (.str u)=decide (s=u):=by
 show(s==u)=_
 by_cases h:s=u<;>simp[h]
theorem Aev {κ ν:Type} [DecidableEq κ] {ek:κ→AV} {ev:ν→AV} {c:κ×ν→List AV} (hc:∀ p,c p=[ek p.1,ev p.2]) (hk:∀ a b,Tg (ek a) (ek b)=decide (a=b)) (k:κ) (z:ν):∀ l:List (κ×ν),N7 (ev z) (l.map c) (ek k)=ev (Bf l k z)
 | []=>rfl
 | p :: l=>by
  rw[List.map_cons,hc]
  simp only[N7,Bf,hk,Aev hc hk k z l]
  by_cases h:k=p.1<;>simp[h]
theorem Aiv {κ ν:Type} [DecidableEq κ] {ek:κ→AV} {ev:ν→AV} {c:κ×ν→List AV} (hc:∀ p,c p=[ek p.1,ev p.2]) (hk:∀ a b,Tg (ek a) (ek b)=decide (a=b)) (k:κ) (v:ν):∀ l:List (κ×ν),T3 (l.map c) (ek k) (ev v)=(Re l k v).map c
 | []=>by rw[Re,List.map_cons,hc];rfl
 | p :: l=>by
  rw[List.map_cons,hc]
  simp only[T3,Re,hk,Aiv hc hk k v l]
  by_cases h:k=p.1<;>simp[h,hc]
end Go.Proofs.YtnijlelbihnamaaGreat
end
