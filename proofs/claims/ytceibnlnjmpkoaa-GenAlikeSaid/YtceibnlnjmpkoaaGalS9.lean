/- Parts of the proofs: what they lean on. Conditions: none. -/
import Derived.OpenShut
import Derived.Test.YtceibnlnjmpkoaaGalS8
section
namespace Go.Proofs.Ytceibnlnjmpkoaa
open Go.RowKit
set_option linter.unusedVariables false
set_option linter.unusedSimpArgs false
structure OpS where
 op:Int
 n:Int
 t:Int
 deriving DecidableEq
structure A0 where
 op:Int
 reg:Int
 loc:Int
 e:List OpS
 f:List OpS
 ne:Bool
 goal:Int
 deriving DecidableEq
structure Kf where
 mod:Int
 init:List Int
 regs:List Int
 code:List (List A0)
 deriving DecidableEq
structure A0z where
 loc:Int
 n:Int
 deriving DecidableEq
structure A6f where
 pc:List Int
 regs:List (List Int)
 mem:List Int
 buf:List (List A0z)
 deriving DecidableEq
abbrev rI:Rd Int:=A7e .i64
def A6i:Rd (List Int):=Qq rI
def rOp:Rd OpS:=A3u (fun x=>⟨x.1,x.2.1,x.2.2⟩) (Ml rI (Ml rI rI))
def A5w:Rd (List OpS):=Qq rOp
def A46:Rd A0:=A3u (fun x=>⟨x.1,x.2.1,x.2.2.1,x.2.2.2.1,x.2.2.2.2.1,x.2.2.2.2.2.1,x.2.2.2.2.2.2⟩) (Ml rI (Ml rI (Ml rI (Ml A5w (Ml A5w (Ml A6e rI))))))
def A29:Rd (List A0):=Qq A46
def A4b:Rd A0z:=A3u (fun x=>⟨x.1,x.2⟩) (Ml rI rI)
def A0w:Rd (List A0z):=Qq A4b
theorem A4f:Il A6i:=Kv (Eh _)
theorem A6o:Il rOp:=Ud _ (Gb (Eh _) (Gb (Eh _) (Eh _)))
theorem Zb:Il A5w:=Kv A6o
theorem A3h:Il A46:=Ud _ (Gb (Eh _) (Gb (Eh _) (Gb (Eh _) (Gb Zb (Gb Zb (Gb A48 (Eh _)))))))
theorem A1y:Il A29:=Kv A3h
theorem A3f:Il A4b:=Ud _ (Gb (Eh _) (Eh _))
theorem A11:Il A0w:=Kv A3f
abbrev Sl {α:Type} (r:Rd α) (w:World) (v:Value) (l:List α):Prop:=(Qq r).rel w [v] l
theorem Sl.mono {α:Type} {r:Rd α} (hm:Il r) {w w':World} {v:Value} {l:List α} (h:Sl r w v l) (hb:Below w.heap.size w w'):Sl r w' v l:=Kv hm _ _ _ _ h hb
theorem Sl.len {α:Type} {r:Rd α} {w:World} {v:Value} {l:List α} (h:Sl r w v l):l.length≤9223372036854775807:=by
 obtain⟨a,cap,_,⟨h1,h2,_⟩,_⟩:=h
 unfold maxLen at h2;omega
def UnitV (w:World) (v:Value) (u:Kf):Prop:=∃ vi vr vc,v=.agg #[.int .i64 u.mod,vi,vr,vc]∧Sl rI w vi u.init∧Sl rI w vr u.regs∧Sl A29 w vc u.code∧ -9223372036854775808≤u.mod∧u.mod≤9223372036854775807
theorem UnitV.mono {w w':World} {v:Value} {u:Kf} (h:UnitV w v u) (hb:Below w.heap.size w w'):UnitV w' v u:=by
 obtain⟨vi,vr,vc,h0,h1,h2,h3,h4⟩:=h
 exact⟨vi,vr,vc,h0,h1.mono (Eh _) hb,h2.mono (Eh _) hb,h3.mono A1y hb,h4⟩
def ConfV (w:World) (v:Value) (c:A6f):Prop:=∃ vp vr vm vb,v=.agg #[vp,vr,vm,vb]∧Sl rI w vp c.pc∧Sl A6i w vr c.regs∧Sl rI w vm c.mem∧Sl A0w w vb c.buf
theorem ConfV.mono {w w':World} {v:Value} {c:A6f} (h:ConfV w v c) (hb:Below w.heap.size w w'):ConfV w' v c:=by
 obtain⟨vp,vr,vm,vb,h0,h1,h2,h3,h4⟩:=h
 exact⟨vp,vr,vm,vb,h0,h1.mono (Eh _) hb,h2.mono A4f hb,h3.mono (Eh _) hb,h4.mono A11 hb⟩
def SAll (w:World) (b o:Nat):Prop:=∃ u,stay w b o=some u
theorem A4g {X:Ext} (hX:P3 Try.prog X) {n:Nat} {g:FuncId} {args:List AV} {W:World} {vs:List Value} (h:Ge Try.prog HH X n g args []=some (.bool true,[])) (hr:Reps (SAll W) W [] [] args vs):Calls Try.prog g vs.toArray W fun e w'=>e=.returned (.bool true)∧Below W.heap.size W w':=by
 refine(A64 hX n false g args [] _ _ h W.heap.size (SAll W) W [] vs ⟨rfl,Nat.le_refl _,fun _ _ ⟨u,hu⟩=>⟨u,hu,fun hb=>absurd (Gx hu) (by omega)⟩,fun id o ho=>by simp at ho,fun i j b hi=>by simp[Af] at hi⟩ hr).mono ?_
 rintro e w' ⟨u,S',φ',rfl,hu,_,ht⟩
 exact⟨by rw[hu.bool_inv],ht.below⟩
theorem O0 {w w':World} (hb:Below w.heap.size w w') {b o:Nat} (h:∃ u,stay w b o=some u):stay w' b o=stay w b o:=by
 obtain⟨u,hu⟩:=h
 exact Hb (hb.block b (Gx hu)) o
theorem SAll.ext {w w':World} (hb:Below w.heap.size w w'):SExt (SAll w) w (SAll w') w':=fun b o h=>⟨by
 have:=O0 hb h
 obtain⟨u,hu⟩:=h
 exact⟨u,this.trans hu⟩,O0 hb h⟩
theorem A3g {S:Nat→Nat→Prop} {w w':World} (hc:∀ b o,S b o→∃ u,stay w b o=some u) (hb:Below w.heap.size w w'):SExt S w S w'∧∀ b o,S b o→∃ u,stay w' b o=some u∧(w.heap.size≤b→u.2.2=(0,0)) :=
 ⟨fun b o h=>⟨h,O0 hb (hc b o h)⟩,fun b o h=>by
  obtain⟨u,hu⟩:=hc b o h
  exact⟨u,(O0 hb ⟨u,hu⟩).trans hu,fun hb=>absurd (Gx hu) (by omega)⟩⟩
abbrev A5s:=List (FuncId×(List AV→Option AV))
def Uy:A5s→Ext
 | [],_=>none
 | (g,k) :: l,f=>match Nat.beq g f with
   | true=>some k
   | false=>Uy l f
def W6 (P:Program) (g:FuncId) (k:List AV→Option AV):Prop:=∀ (args:List AV) (v:AV),k args=some v→∀ (S:Nat→Nat→Prop) (w:World) (vs:List Value),(∀ b o,S b o→∃ u,stay w b o=some u)→Reps S w [] [] args vs →
 Calls P g vs.toArray w fun e w'=>∃ u S',e=.returned u∧Rep S' w' [] [] v u∧(∀ b o,S' b o→∃ u,stay w' b o=some u∧(w.heap.size≤b→u.2.2=(0,0)))∧SExt S w S' w'∧(∀ b o,S' b o→S b o∨w.heap.size≤b)∧Below w.heap.size w w'
theorem Tx {P:Program}:∀ {l:A5s},(∀ p ∈ l,W6 P p.1 p.2)→P3 P (Uy l)
 | [],_=>fun g k h=>by simp[Uy] at h
 | (g,k) :: l,hl=>fun f k' h=>by
  simp only[Uy] at h
  split at h
  ·rename_i he
   have he:=Nat.eq_of_beq_eq_true he
   cases h
   have:=hl (g,k) (by simp)
   rw[← he];exact this
  ·exact Tx (fun p hp=>hl p (by simp[hp])) f k' h
def A2p (b:Bool) (w:World) (e:Ending) (w':World):Prop:=e=.returned (.bool b)∧Below w.heap.size w w'
theorem A6u {ρ:Type} {cont:Tm→Hp→Option ρ} {tm tm':Tm} {hp hp':Hp} {r:Option ρ} (h:cont tm' hp'=r) (h1:tm=tm') (h2:hp=hp'):cont tm hp=r:=by rw[h1,h2];exact h
def Cf (n:Int):List AV:=[.int .i64 n]
def At (x:OpS):List AV:=[.int .i64 x.op,.int .i64 x.n,.int .i64 x.t]
abbrev A7c (l:List OpS):AV:=.sl 3 (l.map At)
def A9 (x:A0):List AV:=[.int .i64 x.op,.int .i64 x.reg,.int .i64 x.loc,A7c x.e,A7c x.f,.bool x.ne,.int .i64 x.goal]
abbrev A7y (l:List A0):AV:=.sl 7 (l.map A9)
def I0 (l:List A0):List AV:=[A7y l]
inductive LR (τ ν:Type) where
 | out (t:τ)
 | ret (v:ν)
 deriving DecidableEq
def A0g {ρ τ ν:Type} (K:Ex→Tm→Hp→Option ρ) (id:Nat) (tmX:τ→(Nat→Nat)→Tm) (hpX:τ→(Nat→Nat)→Hp) (encR:ν→ρ) (r:Option ρ):LR τ ν→Prop
 | .out t=>∀ a,K (.exit id) (tmX t a) (hpX t a)=r
 | .ret v=>r=some (encR v)
theorem A36 {ρ σ τ ν:Type} {body:Tm→Hp→(Ex→Tm→Hp→Option ρ)→Option ρ} {keep:Nat→List Nat} {h0:Nat} {K:Ex→Tm→Hp→Option ρ} {r:Option ρ} (id:Nat) (tmOf:σ→(Nat→Nat)→Tm) (hpOf:σ→(Nat→Nat)→Hp) (tmX:τ→(Nat→Nat)→Tm) (hpX:τ→(Nat→Nat)→Hp) (encR:ν→ρ) (L:Nat→σ→Option (LR τ ν)) (hL:∀ s,L 0 s=none) (o:LR τ ν)
 (hround:∀ (k:Nat) (s:σ) (a:Nat→Nat) (K':Ex→Tm→Hp→Option ρ) (cont:Tm→Hp→Option ρ),(∀ tm hp,K' .ret tm hp=K .ret tm hp)→(∀ s' a',L k s'=some o→cont (tmOf s' a') (hpOf s' a')=r)→L (k+1) s=some o→A0g K' id tmX hpX encR r o →
  Di force (fun tm=>Bw (fun hp=>body tm hp (fun e tm hp=>Di force (fun tm=>Bw (fun hp=>match e with
   | .normal=>cont tm hp
   | .exit id=>K' (.exit id) tm hp
   | .ret=>K' .ret tm hp) (Dr h0 hp)) (P9 (keep (W3 e)) h0 hp 0 tm))) (hpOf s a)) (tmOf s a)=r) :
 ∀ (n:Nat) (s:σ) (a:Nat→Nat) (tm:Tm) (hp:Hp),L n s=some o→A0g K id tmX hpX encR r o→tm=tmOf s a→hp=hpOf s a→rounds body keep h0 n tm hp K=r:=by
 intro n
 induction n with
 | zero=>intro s a tm hp h;rw[hL] at h;cases h
 | succ n ih =>
  intro s a tm hp h hr h1 h2
  subst h1;subst h2
  unfold rounds
  have:=hround n s a K (fun tm hp=>rounds body keep h0 n tm hp K) (fun _ _=>rfl) (fun s' a' h'=>ih s' a' _ _ h' hr rfl rfl) h hr
  rw[Cq M5,Av] at this
  exact this
def Aw (s:List UInt8):List AV:=[.str s]
def fieldsOf (P:Program) (t:TypeId):List Field:=match P.underlying t with
 | some (.struct fs)=>fs.toList
 | _=>[]
theorem A14 {α:Type} {c:Bool} {a:Option α} {r:α} (h:(bif c then a else none)=some r):c=true∧a=some r:=by
 cases c
 ·cases h
 ·exact⟨rfl,h⟩
theorem Kn {α β:Type} {o:Option α} {f:α→Option β} {r:β} (h:o.bind f=some r):∃ x,o=some x∧f x=some r:=by
 cases o with
 | none=>cases h
 | some x=>exact⟨x,rfl,h⟩
theorem Ay {α:Type} {c:Bool} {a:Option α} {r:α} {G:Prop} (h:(bif c then a else none)=some r) (h1:c=true→a=some r→G):G:=h1 (A14 h).1 (A14 h).2
theorem Ak {α β:Type} {o:Option α} {f:α→Option β} {r:β} {G:Prop} (h:o.bind f=some r) (k:∀ x,o=some x→f x=some r→G):G:=by
 obtain⟨x,h1,h2⟩:=Kn h
 exact k x h1 h2
def idx {α:Type} (l:List α) (i:Int):Option α:=bif decide (0≤i) then l[i.toNat]? else none
theorem A13 {α:Type} {l:List α} {i:Int} {x:α} (h:idx l i=some x):0≤i∧i < l.length∧l[i.toNat]?=some x:=by
 unfold idx at h
 by_cases h0:0≤i
 ·rw[decide_eq_true h0] at h
  have:=(List.getElem?_eq_some_iff.1 h).1
  exact⟨h0,by omega,h⟩
 ·rw[decide_eq_false h0] at h;cases h
theorem Eo {α:Type} {l:List α} {i:Int} {x:α} (h:idx l i=some x):(decide (0≤i)&&decide (i < (l.length:Int)))=true:=by
 obtain⟨h1,h2,_⟩:=A13 h
 rw[decide_eq_true h1,decide_eq_true h2];rfl
theorem M6 {α β:Type} {l:List α} {f:α→β} {i:Int} {x:α} (h:idx l i=some x):(decide (0≤i)&&decide (i < ((l.map f).length:Int)))=true:=by
 rw[Bs];exact Eo h
theorem I8 {α:Type} {f:α→List AV} {l:List α} {i:Int} {x:α} (h:idx l i=some x):nth? (l.map f) i.toNat=some (f x):=by
 rw[nth?_eq,List.getElem?_map,(A13 h).2.2];rfl
theorem A6t {l:List UInt8} {i:Int} {x:UInt8} (h:idx l i=some x):nth? l i.toNat=some x:=by rw[nth?_eq,(A13 h).2.2]
theorem A25 {n a a' k k' b B:Nat} (h:decide ((a+k)*B≤140737488355328)=true) (hn:n=a) (ha:a'=a) (hk:k'=k) (hb:b+1=B):(decide (n=a')&&decide ((a'+k')*(b+1)≤140737488355328))=true:=by
 subst hn;subst ha;subst hk;rw[hb,h];simp
theorem Zy {a a' k k' b B:Nat} (h:decide ((a+k)*B≤140737488355328)=true) (ha:a'=a) (hk:k'=k) (hb:b+1=B):(decide True&&decide ((a'+k')*(b+1)≤140737488355328))=true:=by
 subst ha;subst hk;rw[hb,h];simp
theorem A6k {k k' b B:Nat} (h:decide (k*B≤140737488355328)=true) (hk:k'=k) (hb:b+1=B):decide (k'*(b+1)≤140737488355328)=true:=by
 subst hk;rw[hb,h]
theorem A6q {l l':Int} {b B:Nat} (h:(decide (0≤l)&&decide ((B:Int)*l≤140737488355328))=true) (hl:l=l') (hb:b=B):(decide (0≤l)&&decide (l=l')&&decide ((b:Int)*l≤140737488355328))=true:=by
 subst hl;subst hb;simpa using h
theorem A62 {l:Int} {b B:Nat} (h:(decide (0≤l)&&decide ((B:Int)*l≤140737488355328))=true) (hb:b=B):(decide (0≤l)&&decide True&&decide ((b:Int)*l≤140737488355328))=true:=by
 subst hb;simpa using h
theorem Cw {α β:Type} (f:α→β) (l:List α):List.take l.length (List.map f l)=List.map f l:=List.take_of_length_le (by rw[Bs];exact Nat.le_refl _)
theorem A6s {ρ:Type} {K:Ex→Tm→Hp→Option ρ} {e:Ex} {tm tm':Tm} {hp hp':Hp} {r:Option ρ} (h:K e tm' hp'=r) (h1:tm=tm') (h2:hp=hp'):K e tm hp=r:=by rw[h1,h2];exact h
theorem Ql {α β:Type} {l:List α} {f:α→β} {i:Int} {x:α} (h:idx l i=some x):(decide (0≤i)&&decide (i < ((l.length:Nat):Int))&&decide (0+l.length≤(l.map f).length))=true:=by
 rw[Eo h];simp
theorem G3 {α:Type} {l:List α} {i:Int} {x:α} (h:idx l i=some x):(decide (0≤i)&&decide (i < ((l.length:Nat):Int))&&decide (0+l.length≤l.length))=true:=by
 rw[Eo h];simp
theorem A79 {i:Int} {n:Nat} (h:(decide (0≤i)&&decide (i≤(n:Int)))=true):i.toNat≤n:=by
 simp only[Ar,Bk] at h
 omega
def A6g {α:Type} (l:List α) (off n:Nat) (src:List α):List α:=if off+n≤l.length then List.take off l++(List.take n src++List.drop (off+Nat.min src.length n) l) else l
theorem Ez {α:Type} {l:List α} {off n:Nat} {src:List α}:(A6g l off n src).length=l.length:=by
 unfold A6g
 split
 ·have:Nat.min src.length n=min src.length n:=rfl
  simp only[List.length_append,List.length_take,List.length_drop,this];omega
 ·rfl
theorem E3 (n:Nat):decide (n=n)=true:=by simp
end Go.Proofs.Ytceibnlnjmpkoaa
end
