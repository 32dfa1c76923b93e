/- Parts of the proofs: what they lean on. Conditions: none. -/
import Derived.OpenShut
import Derived.Test.YtnijlelbihnamaaPrbS8
section
namespace Go.Proofs.Ytnijlelbihnamaa
open Go.RowKit
set_option linter.unusedVariables false
set_option linter.unusedSimpArgs false
structure OpS where
 op:Int
 n:Int
 t:Int
 deriving DecidableEq
structure A8n where
 op:Int
 reg:Int
 loc:Int
 e:List OpS
 f:List OpS
 ne:Bool
 goal:Int
 deriving DecidableEq
structure Ajw where
 mod:Int
 init:List Int
 regs:List Int
 code:List (List A8n)
 deriving DecidableEq
structure A9a where
 loc:Int
 n:Int
 deriving DecidableEq
structure Ajx where
 pc:List Int
 regs:List (List Int)
 mem:List Int
 buf:List (List A9a)
 deriving DecidableEq
abbrev rI:Rd Int:=An0 .i64
def Ajt:Rd (List Int):=X1 rI
def rOp:Rd OpS:=Acm (fun x=>⟨x.1,x.2.1,x.2.2⟩) (Rt rI (Rt rI rI))
def Aio:Rd (List OpS):=X1 rOp
def Ag8:Rd A8n:=Acm (fun x=>⟨x.1,x.2.1,x.2.2.1,x.2.2.2.1,x.2.2.2.2.1,x.2.2.2.2.2.1,x.2.2.2.2.2.2⟩) (Rt rI (Rt rI (Rt rI (Rt Aio (Rt Aio (Rt Aju rI))))))
def Abj:Rd (List A8n):=X1 Ag8
def Aex:Rd A9a:=Acm (fun x=>⟨x.1,x.2⟩) (Rt rI rI)
def A8c:Rd (List A9a):=X1 Aex
theorem Afq:Ny Ajt:=R0 (Hl _)
theorem Ak5:Ny rOp:=A2c _ (Ki (Hl _) (Ki (Hl _) (Hl _)))
theorem A96:Ny Aio:=R0 Ak5
theorem Adt:Ny Ag8:=A2c _ (Ki (Hl _) (Ki (Hl _) (Ki (Hl _) (Ki A96 (Ki A96 (Ki Agl (Hl _)))))))
theorem Aak:Ny Abj:=R0 Adt
theorem Ace:Ny Aex:=A2c _ (Ki (Hl _) (Hl _))
theorem A9f:Ny A8c:=R0 Ace
abbrev Sl {α:Type} (r:Rd α) (w:World) (v:Value) (l:List α):Prop:=(X1 r).rel w [v] l
theorem Sl.mono {α:Type} {r:Rd α} (hm:Ny r) {w w':World} {v:Value} {l:List α} (h:Sl r w v l) (hb:Below w.heap.size w w'):Sl r w' v l:=R0 hm _ _ _ _ h hb
theorem Sl.len {α:Type} {r:Rd α} {w:World} {v:Value} {l:List α} (h:Sl r w v l):l.length≤9223372036854775807:=by
 obtain⟨a,cap,_,⟨h1,h2,_⟩,_⟩:=h
 unfold maxLen at h2;omega
def UnitV (w:World) (v:Value) (u:Ajw):Prop:=∃ vi vr vc,v=.agg #[.int .i64 u.mod,vi,vr,vc]∧Sl rI w vi u.init∧Sl rI w vr u.regs∧Sl Abj w vc u.code∧ -9223372036854775808≤u.mod∧u.mod≤9223372036854775807
theorem UnitV.mono {w w':World} {v:Value} {u:Ajw} (h:UnitV w v u) (hb:Below w.heap.size w w'):UnitV w' v u:=by
 obtain⟨vi,vr,vc,h0,h1,h2,h3,h4⟩:=h
 exact⟨vi,vr,vc,h0,h1.mono (Hl _) hb,h2.mono (Hl _) hb,h3.mono Aak hb,h4⟩
def ConfV (w:World) (v:Value) (c:Ajx):Prop:=∃ vp vr vm vb,v=.agg #[vp,vr,vm,vb]∧Sl rI w vp c.pc∧Sl Ajt w vr c.regs∧Sl rI w vm c.mem∧Sl A8c w vb c.buf
theorem ConfV.mono {w w':World} {v:Value} {c:Ajx} (h:ConfV w v c) (hb:Below w.heap.size w w'):ConfV w' v c:=by
 obtain⟨vp,vr,vm,vb,h0,h1,h2,h3,h4⟩:=h
 exact⟨vp,vr,vm,vb,h0,h1.mono (Hl _) hb,h2.mono Afq hb,h3.mono (Hl _) hb,h4.mono A9f hb⟩
def SAll (w:World) (b o:Nat):Prop:=∃ u,stay w b o=some u
theorem Agz {X:Ext} (hX:U3 Try.prog X) {n:Nat} {g:FuncId} {args:List AV} {W:World} {vs:List Value} (h:Hh Try.prog HH X n g args []=some (.bool true,[])) (hr:Reps (SAll W) W [] [] args vs):Calls Try.prog g vs.toArray W fun e w'=>e=.returned (.bool true)∧Below W.heap.size W w':=by
 refine(Ahq hX n false g args [] _ _ h W.heap.size (SAll W) W [] vs ⟨rfl,Nat.le_refl _,fun _ _ ⟨u,hu⟩=>⟨u,hu,fun hb=>absurd (Lg hu) (by omega)⟩,fun id o ho=>by simp at ho,fun i j b hi=>by simp[Ae] at hi⟩ hr).mono ?_
 rintro e w' ⟨u,S',φ',rfl,hu,_,ht⟩
 exact⟨by rw[hu.bool_inv],ht.below⟩
theorem Sz {w w':World} (hb:Below w.heap.size w w') {b o:Nat} (h:∃ u,stay w b o=some u):stay w' b o=stay w b o:=by
 obtain⟨u,hu⟩:=h
 exact Lr (hb.block b (Lg hu)) o
theorem SAll.ext {w w':World} (hb:Below w.heap.size w w'):SExt (SAll w) w (SAll w') w':=fun b o h=>⟨by
 have:=Sz hb h
 obtain⟨u,hu⟩:=h
 exact⟨u,this.trans hu⟩,Sz hb h⟩
theorem Y5 {S:Nat→Nat→Prop} {w w':World} (hc:∀ b o,S b o→∃ u,stay w b o=some u) (hb:Below w.heap.size w w'):SExt S w S w'∧∀ b o,S b o→∃ u,stay w' b o=some u∧(w.heap.size≤b→u.2.2=(0,0)) :=
 ⟨fun b o h=>⟨h,Sz hb (hc b o h)⟩,fun b o h=>by
  obtain⟨u,hu⟩:=hc b o h
  exact⟨u,(Sz hb ⟨u,hu⟩).trans hu,fun hb=>absurd (Lg hu) (by omega)⟩⟩
abbrev Air:=List (FuncId×(List AV→Option AV))
def A3m:Air→Ext
 | [],_=>none
 | (g,k) :: l,f=>match Nat.beq g f with
   | true=>some k
   | false=>A3m l f
def X0 (P:Program) (g:FuncId) (k:List AV→Option AV):Prop:=∀ (args:List AV) (v:AV),k args=some v→∀ (S:Nat→Nat→Prop) (w:World) (vs:List Value),(∀ b o,S b o→∃ u,stay w b o=some u)→Reps S w [] [] args vs →
 Calls P g vs.toArray w fun e w'=>∃ u S',e=.returned u∧Rep S' w' [] [] v u∧(∀ b o,S' b o→∃ u,stay w' b o=some u∧(w.heap.size≤b→u.2.2=(0,0)))∧SExt S w S' w'∧(∀ b o,S' b o→S b o∨w.heap.size≤b)∧Below w.heap.size w w'
theorem A1e {P:Program}:∀ {l:Air},(∀ p ∈ l,X0 P p.1 p.2)→U3 P (A3m l)
 | [],_=>fun g k h=>by simp[A3m] at h
 | (g,k) :: l,hl=>fun f k' h=>by
  simp only[A3m] at h
  split at h
  ·rename_i he
   have he:=Nat.eq_of_beq_eq_true he
   cases h
   have:=hl (g,k) (by simp)
   rw[← he];exact this
  ·exact A1e (fun p hp=>hl p (by simp[hp])) f k' h
def Acn (b:Bool) (w:World) (e:Ending) (w':World):Prop:=e=.returned (.bool b)∧Below w.heap.size w w'
theorem Ali {ρ:Type} {cont:Tm→Hp→Option ρ} {tm tm':Tm} {hp hp':Hp} {r:Option ρ} (h:cont tm' hp'=r) (h1:tm=tm') (h2:hp=hp'):cont tm hp=r:=by rw[h1,h2];exact h
def Dx (n:Int):List AV:=[.int .i64 n]
inductive LR (τ ν:Type) where
 | out (t:τ)
 | ret (v:ν)
 deriving DecidableEq
def A97 {ρ τ ν:Type} (K:Ex→Tm→Hp→Option ρ) (id:Nat) (tmX:τ→(Nat→Nat)→Tm) (hpX:τ→(Nat→Nat)→Hp) (encR:ν→ρ) (r:Option ρ):LR τ ν→Prop
 | .out t=>∀ a,K (.exit id) (tmX t a) (hpX t a)=r
 | .ret v=>r=some (encR v)
theorem Acv {ρ σ τ ν:Type} {body:Tm→Hp→(Ex→Tm→Hp→Option ρ)→Option ρ} {keep:Nat→List Nat} {h0:Nat} {K:Ex→Tm→Hp→Option ρ} {r:Option ρ} (id:Nat) (tmOf:σ→(Nat→Nat)→Tm) (hpOf:σ→(Nat→Nat)→Hp) (tmX:τ→(Nat→Nat)→Tm) (hpX:τ→(Nat→Nat)→Hp) (encR:ν→ρ) (L:Nat→σ→Option (LR τ ν)) (hL:∀ s,L 0 s=none) (o:LR τ ν)
 (hround:∀ (k:Nat) (s:σ) (a:Nat→Nat) (K':Ex→Tm→Hp→Option ρ) (cont:Tm→Hp→Option ρ),(∀ tm hp,K' .ret tm hp=K .ret tm hp)→(∀ s' a',L k s'=some o→cont (tmOf s' a') (hpOf s' a')=r)→L (k+1) s=some o→A97 K' id tmX hpX encR r o →
  Fo force (fun tm=>Cc (fun hp=>body tm hp (fun e tm hp=>Fo force (fun tm=>Cc (fun hp=>match e with
   | .normal=>cont tm hp
   | .exit id=>K' (.exit id) tm hp
   | .ret=>K' .ret tm hp) (Gc h0 hp)) (Uh (keep (A37 e)) h0 hp 0 tm))) (hpOf s a)) (tmOf s a)=r) :
 ∀ (n:Nat) (s:σ) (a:Nat→Nat) (tm:Tm) (hp:Hp),L n s=some o→A97 K id tmX hpX encR r o→tm=tmOf s a→hp=hpOf s a→rounds body keep h0 n tm hp K=r:=by
 intro n
 induction n with
 | zero=>intro s a tm hp h;rw[hL] at h;cases h
 | succ n ih =>
  intro s a tm hp h hr h1 h2
  subst h1;subst h2
  unfold rounds
  have:=hround n s a K (fun tm hp=>rounds body keep h0 n tm hp K) (fun _ _=>rfl) (fun s' a' h'=>ih s' a' _ _ h' hr rfl rfl) h hr
  rw[Dv Ri,Ay] at this
  exact this
def Fk (s:List UInt8):List AV:=[.str s]
def fieldsOf (P:Program) (t:TypeId):List Field:=match P.underlying t with
 | some (.struct fs)=>fs.toList
 | _=>[]
theorem A7n {α:Type} {c:Bool} {a:Option α} {r:α} (h:(bif c then a else none)=some r):c=true∧a=some r:=by
 cases c
 ·cases h
 ·exact⟨rfl,h⟩
theorem bind_some {α β:Type} {o:Option α} {f:α→Option β} {r:β} (h:o.bind f=some r):∃ x,o=some x∧f x=some r:=by
 cases o with
 | none=>cases h
 | some x=>exact⟨x,rfl,h⟩
theorem B0 {α:Type} {c:Bool} {a:Option α} {r:α} {G:Prop} (h:(bif c then a else none)=some r) (h1:c=true→a=some r→G):G:=h1 (A7n h).1 (A7n h).2
theorem Av {α β:Type} {o:Option α} {f:α→Option β} {r:β} {G:Prop} (h:o.bind f=some r) (k:∀ x,o=some x→f x=some r→G):G:=by
 obtain⟨x,h1,h2⟩:=bind_some h
 exact k x h1 h2
def idx {α:Type} (l:List α) (i:Int):Option α:=bif decide (0≤i) then l[i.toNat]? else none
theorem A7c {α:Type} {l:List α} {i:Int} {x:α} (h:idx l i=some x):0≤i∧i < l.length∧l[i.toNat]?=some x:=by
 unfold idx at h
 by_cases h0:0≤i
 ·rw[decide_eq_true h0] at h
  have:=(List.getElem?_eq_some_iff.1 h).1
  exact⟨h0,by omega,h⟩
 ·rw[decide_eq_false h0] at h;cases h
theorem H1 {α:Type} {l:List α} {i:Int} {x:α} (h:idx l i=some x):(decide (0≤i)&&decide (i < (l.length:Int)))=true:=by
 obtain⟨h1,h2,_⟩:=A7c h
 rw[decide_eq_true h1,decide_eq_true h2];rfl
theorem Q7 {α β:Type} {l:List α} {f:α→β} {i:Int} {x:α} (h:idx l i=some x):(decide (0≤i)&&decide (i < ((l.map f).length:Int)))=true:=by
 rw[Bd];exact H1 h
theorem K0 {α:Type} {f:α→List AV} {l:List α} {i:Int} {x:α} (h:idx l i=some x):nth? (l.map f) i.toNat=some (f x):=by
 rw[nth?_eq,List.getElem?_map,(A7c h).2.2];rfl
theorem Akp {l:List UInt8} {i:Int} {x:UInt8} (h:idx l i=some x):nth? l i.toNat=some x:=by rw[nth?_eq,(A7c h).2.2]
theorem Ws {α:Type} (l:List α) (k:Nat):idx l (k:Int)=l[k]?:=by simp[idx]
theorem Wz {n a a' k k' b B:Nat} (h:decide ((a+k)*B≤140737488355328)=true) (hn:n=a) (ha:a'=a) (hk:k'=k) (hb:b+1=B):(decide (n=a')&&decide ((a'+k')*(b+1)≤140737488355328))=true:=by
 subst hn;subst ha;subst hk;rw[hb,h];simp
theorem U1 {a a' k k' b B:Nat} (h:decide ((a+k)*B≤140737488355328)=true) (ha:a'=a) (hk:k'=k) (hb:b+1=B):(decide True&&decide ((a'+k')*(b+1)≤140737488355328))=true:=by
 subst ha;subst hk;rw[hb,h];simp
theorem Aks {k k' b B:Nat} (h:decide (k*B≤140737488355328)=true) (hk:k'=k) (hb:b+1=B):decide (k'*(b+1)≤140737488355328)=true:=by
 subst hk;rw[hb,h]
theorem D2 {α β:Type} (f:α→β) (l:List α):List.take l.length (List.map f l)=List.map f l:=List.take_of_length_le (by rw[Bd];exact Nat.le_refl _)
theorem Alt {ρ:Type} {K:Ex→Tm→Hp→Option ρ} {e:Ex} {tm tm':Tm} {hp hp':Hp} {r:Option ρ} (h:K e tm' hp'=r) (h1:tm=tm') (h2:hp=hp'):K e tm hp=r:=by rw[h1,h2];exact h
theorem Ur {α β:Type} {l:List α} {f:α→β} {i:Int} {x:α} (h:idx l i=some x):(decide (0≤i)&&decide (i < ((l.length:Nat):Int))&&decide (0+l.length≤(l.map f).length))=true:=by
 rw[H1 h];simp
theorem Id {α:Type} {l:List α} {i:Int} {x:α} (h:idx l i=some x):(decide (0≤i)&&decide (i < ((l.length:Nat):Int))&&decide (0+l.length≤l.length))=true:=by
 rw[H1 h];simp
theorem An2 {i:Int} {n:Nat} (h:(decide (0≤i)&&decide (i≤(n:Int)))=true):i.toNat≤n:=by
 simp only[A8,Bf] at h
 omega
def Ajy {α:Type} (l:List α) (off n:Nat) (src:List α):List α:=if off+n≤l.length then List.take off l++(List.take n src++List.drop (off+Nat.min src.length n) l) else l
theorem I6 {α:Type} {l:List α} {off n:Nat} {src:List α}:(Ajy l off n src).length=l.length:=by
 unfold Ajy
 split
 ·have:Nat.min src.length n=min src.length n:=rfl
  simp only[List.length_append,List.length_take,List.length_drop,this];omega
 ·rfl
theorem Eo (n:Nat):decide (n=n)=true:=by simp
def B6 {κ ν:Type} [DecidableEq κ]:List (κ×ν)→κ→ν→ν
 | [],_,z=>z
 | p :: l,k,z=>if k=p.1 then p.2 else B6 l k z
def Us {κ ν:Type} [DecidableEq κ]:List (κ×ν)→κ→Bool
 | [],_=>false
 | p :: l,k=>if k=p.1 then true else Us l k
def Ok {κ ν:Type} [DecidableEq κ]:List (κ×ν)→κ→ν→List (κ×ν)
 | [],k,v=>[(k,v)]
 | p :: l,k,v=>if k=p.1 then(p.1,v) :: l else p :: Ok l k v
theorem A7t (s u:List UInt8):J5 (.str s) (.str u)=decide (s=u):=by
 show(s==u)=_
 by_cases h:s=u<;>simp[h]
theorem A9l {κ ν:Type} [DecidableEq κ] {ek:κ→AV} {ev:ν→AV} {c:κ×ν→List AV} (hc:∀ p,c p=[ek p.1,ev p.2]) (hk:∀ a b,J5 (ek a) (ek b)=decide (a=b)) (k:κ) (z:ν):∀ l:List (κ×ν),Fm (ev z) (l.map c) (ek k)=ev (B6 l k z)
 | []=>rfl
 | p :: l=>by
  rw[List.map_cons,hc]
  simp only[Fm,B6,hk,A9l hc hk k z l]
  by_cases h:k=p.1<;>simp[h]
theorem Ac2 {κ ν:Type} [DecidableEq κ] {ek:κ→AV} {ev:ν→AV} {c:κ×ν→List AV} (hc:∀ p,c p=[ek p.1,ev p.2]) (hk:∀ a b,J5 (ek a) (ek b)=decide (a=b)) (k:κ) (v:ν):∀ l:List (κ×ν),Kd (l.map c) (ek k) (ev v)=(Ok l k v).map c
 | []=>by rw[Ok,List.map_cons,hc];rfl
 | p :: l=>by
  rw[List.map_cons,hc]
  simp only[Kd,Ok,hk,Ac2 hc hk k v l]
  by_cases h:k=p.1<;>simp[h,hc]
end Go.Proofs.Ytnijlelbihnamaa
end
