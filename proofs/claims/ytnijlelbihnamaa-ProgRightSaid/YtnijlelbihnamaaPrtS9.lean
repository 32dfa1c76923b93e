/- Parts of the proofs: what they lean on. Conditions: none. -/
import Derived.OpenShut
import Derived.Test.YtnijlelbihnamaaPrtS8
section
namespace Go.Proofs.Ytnijlelbihnamaa
open Go.RowKit
set_option linter.unusedVariables false
set_option linter.unusedSimpArgs false
structure OpS where
 op:Int
 n:Int
 t:Int
 deriving DecidableEq
structure Abg where
 op:Int
 reg:Int
 loc:Int
 e:List OpS
 f:List OpS
 ne:Bool
 goal:Int
 deriving DecidableEq
structure Apw where
 mod:Int
 init:List Int
 regs:List Int
 code:List (List Abg)
 deriving DecidableEq
structure Adq where
 loc:Int
 n:Int
 deriving DecidableEq
structure Apq where
 pc:List Int
 regs:List (List Int)
 mem:List Int
 buf:List (List Adq)
 deriving DecidableEq
abbrev rI:Rd Int:=Ass .i64
def Apl:Rd (List Int):=Yv rI
def rOp:Rd OpS:=Aic (fun x=>⟨x.1,x.2.1,x.2.2⟩) (U4 rI (U4 rI rI))
def Ao1:Rd (List OpS):=Yv rOp
def Al4:Rd Abg:=Aic (fun x=>⟨x.1,x.2.1,x.2.2.1,x.2.2.2.1,x.2.2.2.2.1,x.2.2.2.2.2.1,x.2.2.2.2.2.2⟩) (U4 rI (U4 rI (U4 rI (U4 Ao1 (U4 Ao1 (U4 Apx rI))))))
def Agh:Rd (List Abg):=Yv Al4
def Ali:Rd Adq:=Aic (fun x=>⟨x.1,x.2⟩) (U4 rI rI)
def Acd:Rd (List Adq):=Yv Ali
theorem Ajz:P4 Apl:=Sd (J6 _)
theorem Ar5:P4 rOp:=A4f _ (M8 (J6 _) (M8 (J6 _) (J6 _)))
theorem Adf:P4 Ao1:=Sd Ar5
theorem Air:P4 Al4:=A4f _ (M8 (J6 _) (M8 (J6 _) (M8 (J6 _) (M8 Adf (M8 Adf (M8 Ak1 (J6 _)))))))
theorem Afc:P4 Agh:=Sd Air
theorem Ahp:P4 Ali:=A4f _ (M8 (J6 _) (J6 _))
theorem Adv:P4 Acd:=Sd Ahp
abbrev Sl {α:Type} (r:Rd α) (w:World) (v:Value) (l:List α):Prop:=(Yv r).rel w [v] l
theorem Sl.mono {α:Type} {r:Rd α} (hm:P4 r) {w w':World} {v:Value} {l:List α} (h:Sl r w v l) (hb:Below w.heap.size w w'):Sl r w' v l:=Sd hm _ _ _ _ h hb
theorem Sl.len {α:Type} {r:Rd α} {w:World} {v:Value} {l:List α} (h:Sl r w v l):l.length≤9223372036854775807:=by
 obtain⟨a,cap,_,⟨h1,h2,_⟩,_⟩:=h
 unfold maxLen at h2;omega
def UnitV (w:World) (v:Value) (u:Apw):Prop:=∃ vi vr vc,v=.agg #[.int .i64 u.mod,vi,vr,vc]∧Sl rI w vi u.init∧Sl rI w vr u.regs∧Sl Agh w vc u.code∧ -9223372036854775808≤u.mod∧u.mod≤9223372036854775807
theorem UnitV.mono {w w':World} {v:Value} {u:Apw} (h:UnitV w v u) (hb:Below w.heap.size w w'):UnitV w' v u:=by
 obtain⟨vi,vr,vc,h0,h1,h2,h3,h4⟩:=h
 exact⟨vi,vr,vc,h0,h1.mono (J6 _) hb,h2.mono (J6 _) hb,h3.mono Afc hb,h4⟩
def ConfV (w:World) (v:Value) (c:Apq):Prop:=∃ vp vr vm vb,v=.agg #[vp,vr,vm,vb]∧Sl rI w vp c.pc∧Sl Apl w vr c.regs∧Sl rI w vm c.mem∧Sl Acd w vb c.buf
theorem ConfV.mono {w w':World} {v:Value} {c:Apq} (h:ConfV w v c) (hb:Below w.heap.size w w'):ConfV w' v c:=by
 obtain⟨vp,vr,vm,vb,h0,h1,h2,h3,h4⟩:=h
 exact⟨vp,vr,vm,vb,h0,h1.mono (J6 _) hb,h2.mono Ajz hb,h3.mono (J6 _) hb,h4.mono Adv hb⟩
def SAll (w:World) (b o:Nat):Prop:=∃ u,stay w b o=some u
theorem Am9 {X:Ext} (hX:X3 Try.prog X) {n:Nat} {g:FuncId} {args:List AV} {W:World} {vs:List Value} (h:J4 Try.prog HH X n g args []=some (.bool true,[])) (hr:Reps (SAll W) W [] [] args vs):Calls Try.prog g vs.toArray W fun e w'=>e=.returned (.bool true)∧Below W.heap.size W w':=by
 refine(Aow hX n false g args [] _ _ h W.heap.size (SAll W) W [] vs ⟨rfl,Nat.le_refl _,fun _ _ ⟨u,hu⟩=>⟨u,hu,fun hb=>absurd (Nl hu) (by omega)⟩,fun id o ho=>by simp at ho,fun i j b hi=>by simp[Ah] at hi⟩ hr).mono ?_
 rintro e w' ⟨u,S',φ',rfl,hu,_,ht⟩
 exact⟨by rw[hu.bool_inv],ht.below⟩
theorem Uw {w w':World} (hb:Below w.heap.size w w') {b o:Nat} (h:∃ u,stay w b o=some u):stay w' b o=stay w b o:=by
 obtain⟨u,hu⟩:=h
 exact Ns (hb.block b (Nl hu)) o
theorem SAll.ext {w w':World} (hb:Below w.heap.size w w'):SExt (SAll w) w (SAll w') w':=fun b o h=>⟨by
 have:=Uw hb h
 obtain⟨u,hu⟩:=h
 exact⟨u,this.trans hu⟩,Uw hb h⟩
theorem Zk {S:Nat→Nat→Prop} {w w':World} (hc:∀ b o,S b o→∃ u,stay w b o=some u) (hb:Below w.heap.size w w'):SExt S w S w'∧∀ b o,S b o→∃ u,stay w' b o=some u∧(w.heap.size≤b→u.2.2=(0,0)) :=
 ⟨fun b o h=>⟨h,Uw hb (hc b o h)⟩,fun b o h=>by
  obtain⟨u,hu⟩:=hc b o h
  exact⟨u,(Uw hb ⟨u,hu⟩).trans hu,fun hb=>absurd (Nl hu) (by omega)⟩⟩
abbrev Ap7:=List (FuncId×(List AV→Option AV))
def A68:Ap7→Ext
 | [],_=>none
 | (g,k) :: l,f=>match Nat.beq g f with
   | true=>some k
   | false=>A68 l f
def Yy (P:Program) (g:FuncId) (k:List AV→Option AV):Prop:=∀ (args:List AV) (v:AV),k args=some v→∀ (S:Nat→Nat→Prop) (w:World) (vs:List Value),(∀ b o,S b o→∃ u,stay w b o=some u)→Reps S w [] [] args vs →
 Calls P g vs.toArray w fun e w'=>∃ u S',e=.returned u∧Rep S' w' [] [] v u∧(∀ b o,S' b o→∃ u,stay w' b o=some u∧(w.heap.size≤b→u.2.2=(0,0)))∧SExt S w S' w'∧(∀ b o,S' b o→S b o∨w.heap.size≤b)∧Below w.heap.size w w'
theorem A3n {P:Program}:∀ {l:Ap7},(∀ p ∈ l,Yy P p.1 p.2)→X3 P (A68 l)
 | [],_=>fun g k h=>by simp[A68] at h
 | (g,k) :: l,hl=>fun f k' h=>by
  simp only[A68] at h
  split at h
  ·rename_i he
   have he:=Nat.eq_of_beq_eq_true he
   cases h
   have:=hl (g,k) (by simp)
   rw[← he];exact this
  ·exact A3n (fun p hp=>hl p (by simp[hp])) f k' h
def Ah8 (b:Bool) (w:World) (e:Ending) (w':World):Prop:=e=.returned (.bool b)∧Below w.heap.size w w'
theorem Aq6 {ρ:Type} {cont:Tm→Hp→Option ρ} {tm tm':Tm} {hp hp':Hp} {r:Option ρ} (h:cont tm' hp'=r) (h1:tm=tm') (h2:hp=hp'):cont tm hp=r:=by rw[h1,h2];exact h
def Es (n:Int):List AV:=[.int .i64 n]
inductive LR (τ ν:Type) where
 | out (t:τ)
 | ret (v:ν)
 deriving DecidableEq
def Adk {ρ τ ν:Type} (K:Ex→Tm→Hp→Option ρ) (id:Nat) (tmX:τ→(Nat→Nat)→Tm) (hpX:τ→(Nat→Nat)→Hp) (encR:ν→ρ) (r:Option ρ):LR τ ν→Prop
 | .out t=>∀ a,K (.exit id) (tmX t a) (hpX t a)=r
 | .ret v=>r=some (encR v)
theorem Ai4 {ρ σ τ ν:Type} {body:Tm→Hp→(Ex→Tm→Hp→Option ρ)→Option ρ} {keep:Nat→List Nat} {h0:Nat} {K:Ex→Tm→Hp→Option ρ} {r:Option ρ} (id:Nat) (tmOf:σ→(Nat→Nat)→Tm) (hpOf:σ→(Nat→Nat)→Hp) (tmX:τ→(Nat→Nat)→Tm) (hpX:τ→(Nat→Nat)→Hp) (encR:ν→ρ) (L:Nat→σ→Option (LR τ ν)) (hL:∀ s,L 0 s=none) (o:LR τ ν)
 (hround:∀ (k:Nat) (s:σ) (a:Nat→Nat) (K':Ex→Tm→Hp→Option ρ) (cont:Tm→Hp→Option ρ),(∀ tm hp,K' .ret tm hp=K .ret tm hp)→(∀ s' a',L k s'=some o→cont (tmOf s' a') (hpOf s' a')=r)→L (k+1) s=some o→Adk K' id tmX hpX encR r o →
  Gl force (fun tm=>Ci (fun hp=>body tm hp (fun e tm hp=>Gl force (fun tm=>Ci (fun hp=>match e with
   | .normal=>cont tm hp
   | .exit id=>K' (.exit id) tm hp
   | .ret=>K' .ret tm hp) (Hh h0 hp)) (Wz (keep (A6x e)) h0 hp 0 tm))) (hpOf s a)) (tmOf s a)=r) :
 ∀ (n:Nat) (s:σ) (a:Nat→Nat) (tm:Tm) (hp:Hp),L n s=some o→Adk K id tmX hpX encR r o→tm=tmOf s a→hp=hpOf s a→rounds body keep h0 n tm hp K=r:=by
 intro n
 induction n with
 | zero=>intro s a tm hp h;rw[hL] at h;cases h
 | succ n ih =>
  intro s a tm hp h hr h1 h2
  subst h1;subst h2
  unfold rounds
  have:=hround n s a K (fun tm hp=>rounds body keep h0 n tm hp K) (fun _ _=>rfl) (fun s' a' h'=>ih s' a' _ _ h' hr rfl rfl) h hr
  rw[Ek Tj,B2] at this
  exact this
def Gm (s:List UInt8):List AV:=[.str s]
def fieldsOf (P:Program) (t:TypeId):List Field:=match P.underlying t with
 | some (.struct fs)=>fs.toList
 | _=>[]
theorem Aee {α:Type} {c:Bool} {a:Option α} {r:α} (h:(bif c then a else none)=some r):c=true∧a=some r:=by
 cases c
 ·cases h
 ·exact⟨rfl,h⟩
theorem bind_some {α β:Type} {o:Option α} {f:α→Option β} {r:β} (h:o.bind f=some r):∃ x,o=some x∧f x=some r:=by
 cases o with
 | none=>cases h
 | some x=>exact⟨x,rfl,h⟩
theorem B8 {α:Type} {c:Bool} {a:Option α} {r:α} {G:Prop} (h:(bif c then a else none)=some r) (h1:c=true→a=some r→G):G:=h1 (Aee h).1 (Aee h).2
theorem B0 {α β:Type} {o:Option α} {f:α→Option β} {r:β} {G:Prop} (h:o.bind f=some r) (k:∀ x,o=some x→f x=some r→G):G:=by
 obtain⟨x,h1,h2⟩:=bind_some h
 exact k x h1 h2
def idx {α:Type} (l:List α) (i:Int):Option α:=bif decide (0≤i) then l[i.toNat]? else none
theorem Ae5 {α:Type} {l:List α} {i:Int} {x:α} (h:idx l i=some x):0≤i∧i < l.length∧l[i.toNat]?=some x:=by
 unfold idx at h
 by_cases h0:0≤i
 ·rw[decide_eq_true h0] at h
  have:=(List.getElem?_eq_some_iff.1 h).1
  exact⟨h0,by omega,h⟩
 ·rw[decide_eq_false h0] at h;cases h
theorem If {α:Type} {l:List α} {i:Int} {x:α} (h:idx l i=some x):(decide (0≤i)&&decide (i < (l.length:Int)))=true:=by
 obtain⟨h1,h2,_⟩:=Ae5 h
 rw[decide_eq_true h1,decide_eq_true h2];rfl
theorem Rp {α β:Type} {l:List α} {f:α→β} {i:Int} {x:α} (h:idx l i=some x):(decide (0≤i)&&decide (i < ((l.map f).length:Int)))=true:=by
 rw[B6];exact If h
theorem M5 {α:Type} {f:α→List AV} {l:List α} {i:Int} {x:α} (h:idx l i=some x):nth? (l.map f) i.toNat=some (f x):=by
 rw[nth?_eq,List.getElem?_map,(Ae5 h).2.2];rfl
theorem Aq2 {l:List UInt8} {i:Int} {x:UInt8} (h:idx l i=some x):nth? l i.toNat=some x:=by rw[nth?_eq,(Ae5 h).2.2]
theorem Vh {α:Type} (l:List α) (k:Nat):idx l (k:Int)=l[k]?:=by simp[idx]
theorem Z5 {n a a' k k' b B:Nat} (h:decide ((a+k)*B≤140737488355328)=true) (hn:n=a) (ha:a'=a) (hk:k'=k) (hb:b+1=B):(decide (n=a')&&decide ((a'+k')*(b+1)≤140737488355328))=true:=by
 subst hn;subst ha;subst hk;rw[hb,h];simp
theorem W1 {a a' k k' b B:Nat} (h:decide ((a+k)*B≤140737488355328)=true) (ha:a'=a) (hk:k'=k) (hb:b+1=B):(decide True&&decide ((a'+k')*(b+1)≤140737488355328))=true:=by
 subst ha;subst hk;rw[hb,h];simp
theorem Art {k k' b B:Nat} (h:decide (k*B≤140737488355328)=true) (hk:k'=k) (hb:b+1=B):decide (k'*(b+1)≤140737488355328)=true:=by
 subst hk;rw[hb,h]
theorem Dj {α β:Type} (f:α→β) (l:List α):List.take l.length (List.map f l)=List.map f l:=List.take_of_length_le (by rw[B6];exact Nat.le_refl _)
theorem Arh {ρ:Type} {K:Ex→Tm→Hp→Option ρ} {e:Ex} {tm tm':Tm} {hp hp':Hp} {r:Option ρ} (h:K e tm' hp'=r) (h1:tm=tm') (h2:hp=hp'):K e tm hp=r:=by rw[h1,h2];exact h
theorem Ws {α β:Type} {l:List α} {f:α→β} {i:Int} {x:α} (h:idx l i=some x):(decide (0≤i)&&decide (i < ((l.length:Nat):Int))&&decide (0+l.length≤(l.map f).length))=true:=by
 rw[If h];simp
theorem Kc {α:Type} {l:List α} {i:Int} {x:α} (h:idx l i=some x):(decide (0≤i)&&decide (i < ((l.length:Nat):Int))&&decide (0+l.length≤l.length))=true:=by
 rw[If h];simp
theorem Ath {i:Int} {n:Nat} (h:(decide (0≤i)&&decide (i≤(n:Int)))=true):i.toNat≤n:=by
 simp only[A7,B3] at h
 omega
def Aph {α:Type} (l:List α) (off n:Nat) (src:List α):List α:=if off+n≤l.length then List.take off l++(List.take n src++List.drop (off+Nat.min src.length n) l) else l
theorem K1 {α:Type} {l:List α} {off n:Nat} {src:List α}:(Aph l off n src).length=l.length:=by
 unfold Aph
 split
 ·have:Nat.min src.length n=min src.length n:=rfl
  simp only[List.length_append,List.length_take,List.length_drop,this];omega
 ·rfl
theorem Fk (n:Nat):decide (n=n)=true:=by simp
def Bf {κ ν:Type} [DecidableEq κ]:List (κ×ν)→κ→ν→ν
 | [],_,z=>z
 | p :: l,k,z=>if k=p.1 then p.2 else Bf l k z
def X5 {κ ν:Type} [DecidableEq κ]:List (κ×ν)→κ→Bool
 | [],_=>false
 | p :: l,k=>if k=p.1 then true else X5 l k
def Qc {κ ν:Type} [DecidableEq κ]:List (κ×ν)→κ→ν→List (κ×ν)
 | [],k,v=>[(k,v)]
 | p :: l,k,v=>if k=p.1 then(p.1,v) :: l else p :: Qc l k v
theorem Adu (s u:List UInt8):Ld (.str s) (.str u)=decide (s=u):=by
 show(s==u)=_
 by_cases h:s=u<;>simp[h]
theorem Ad0 {κ ν:Type} [DecidableEq κ] {ek:κ→AV} {ev:ν→AV} {c:κ×ν→List AV} (hc:∀ p,c p=[ek p.1,ev p.2]) (hk:∀ a b,Ld (ek a) (ek b)=decide (a=b)) (k:κ) (z:ν):∀ l:List (κ×ν),Gf (ev z) (l.map c) (ek k)=ev (Bf l k z)
 | []=>rfl
 | p :: l=>by
  rw[List.map_cons,hc]
  simp only[Gf,Bf,hk,Ad0 hc hk k z l]
  by_cases h:k=p.1<;>simp[h]
theorem Agz {κ ν:Type} [DecidableEq κ] {ek:κ→AV} {ev:ν→AV} {c:κ×ν→List AV} (hc:∀ p,c p=[ek p.1,ev p.2]) (hk:∀ a b,Ld (ek a) (ek b)=decide (a=b)) (k:κ) (v:ν):∀ l:List (κ×ν),M7 (l.map c) (ek k) (ev v)=(Qc l k v).map c
 | []=>by rw[Qc,List.map_cons,hc];rfl
 | p :: l=>by
  rw[List.map_cons,hc]
  simp only[M7,Qc,hk,Agz hc hk k v l]
  by_cases h:k=p.1<;>simp[h,hc]
end Go.Proofs.Ytnijlelbihnamaa
end
