/- Parts of the proofs: what they lean on. Conditions: none. -/
import Derived.OpenShut
import Derived.Test.YteindmlljlboeaaGreatPshS8
section
namespace Go.Proofs.YteindmlljlboeaaGreat
open Go.RowKit
set_option linter.unusedVariables false
set_option linter.unusedSimpArgs false
structure OpS where
 op:Int
 n:Int
 t:Int
 deriving DecidableEq
structure Adw where
 op:Int
 reg:Int
 loc:Int
 e:List OpS
 f:List OpS
 ne:Bool
 goal:Int
 deriving DecidableEq
structure Amp where
 mod:Int
 init:List Int
 regs:List Int
 code:List (List Adw)
 deriving DecidableEq
structure Ad0 where
 loc:Int
 n:Int
 deriving DecidableEq
structure Ame where
 pc:List Int
 regs:List (List Int)
 mem:List Int
 buf:List (List Ad0)
 deriving DecidableEq
abbrev rI:Rd Int:=Ac7 .i64
def Amj:Rd (List Int):=Kw rI
def rOp:Rd OpS:=Vp (fun x=>⟨x.1,x.2.1,x.2.2⟩) (E0 rI (E0 rI rI))
def Akx:Rd (List OpS):=Kw rOp
def Ak3:Rd Adw:=Vp (fun x=>⟨x.1,x.2.1,x.2.2.1,x.2.2.2.1,x.2.2.2.2.1,x.2.2.2.2.2.1,x.2.2.2.2.2.2⟩) (E0 rI (E0 rI (E0 rI (E0 Akx (E0 Akx (E0 A7k rI))))))
def Ag4:Rd (List Adw):=Kw Ak3
def Ajr:Rd Ad0:=Vp (fun x=>⟨x.1,x.2⟩) (E0 rI rI)
def Ac5:Rd (List Ad0):=Kw Ajr
theorem Aj4:Ll Amj:=Kc (D5 _)
theorem Anc:Ll rOp:=Qg _ (Ck (D5 _) (Ck (D5 _) (D5 _)))
theorem Ad3:Ll Akx:=Kc Anc
theorem Ai2:Ll Ak3:=Qg _ (Ck (D5 _) (Ck (D5 _) (Ck (D5 _) (Ck Ad3 (Ck Ad3 (Ck A9x (D5 _)))))))
theorem Afe:Ll Ag4:=Kc Ai2
theorem Ai3:Ll Ajr:=Qg _ (Ck (D5 _) (D5 _))
theorem Ae5:Ll Ac5:=Kc Ai3
abbrev Sl {α:Type} (r:Rd α) (w:World) (v:Value) (l:List α):Prop:=(Kw r).rel w [v] l
theorem Sl.mono {α:Type} {r:Rd α} (hm:Ll r) {w w':World} {v:Value} {l:List α} (h:Sl r w v l) (hb:Below w.heap.size w w'):Sl r w' v l:=Kc hm _ _ _ _ h hb
theorem Sl.len {α:Type} {r:Rd α} {w:World} {v:Value} {l:List α} (h:Sl r w v l):l.length≤9223372036854775807:=by
 obtain⟨a,cap,_,⟨h1,h2,_⟩,_⟩:=h
 unfold maxLen at h2;omega
def UnitV (w:World) (v:Value) (u:Amp):Prop:=∃ vi vr vc,v=.agg #[.int .i64 u.mod,vi,vr,vc]∧Sl rI w vi u.init∧Sl rI w vr u.regs∧Sl Ag4 w vc u.code∧ -9223372036854775808≤u.mod∧u.mod≤9223372036854775807
theorem UnitV.mono {w w':World} {v:Value} {u:Amp} (h:UnitV w v u) (hb:Below w.heap.size w w'):UnitV w' v u:=by
 obtain⟨vi,vr,vc,h0,h1,h2,h3,h4⟩:=h
 exact⟨vi,vr,vc,h0,h1.mono (D5 _) hb,h2.mono (D5 _) hb,h3.mono Afe hb,h4⟩
def ConfV (w:World) (v:Value) (c:Ame):Prop:=∃ vp vr vm vb,v=.agg #[vp,vr,vm,vb]∧Sl rI w vp c.pc∧Sl Amj w vr c.regs∧Sl rI w vm c.mem∧Sl Ac5 w vb c.buf
theorem ConfV.mono {w w':World} {v:Value} {c:Ame} (h:ConfV w v c) (hb:Below w.heap.size w w'):ConfV w' v c:=by
 obtain⟨vp,vr,vm,vb,h0,h1,h2,h3,h4⟩:=h
 exact⟨vp,vr,vm,vb,h0,h1.mono (D5 _) hb,h2.mono Aj4 hb,h3.mono (D5 _) hb,h4.mono Ae5 hb⟩
def SAll (w:World) (b o:Nat):Prop:=∃ u,stay w b o=some u
def Enc {α:Type} (r:Rd α) (enc:α→List AV):Prop:=∀ (w:World) (cs:List Value) (x:α),r.rel w cs x→Reps (SAll w) w [] [] (enc x) cs∧Gw cs
theorem Ana (k:IntKind):Enc (Ac7 k) (fun n=>[.int k n]):=by
 rintro w cs x ⟨rfl,h⟩
 exact⟨.cons _ _ _ _ _ _ (.int _ _ _ _ h) (.nil _ _),by intro v hv;simp at hv;subst hv;rfl⟩
theorem Al3:Enc A7k (fun b=>[.bool b]):=by
 rintro w cs x rfl
 exact⟨.cons _ _ _ _ _ _ (.bool _ _ _) (.nil _ _),by intro v hv;simp at hv;subst hv;rfl⟩
theorem Anr:Enc Ah6 (fun s=>[.str s]):=by
 rintro w cs x ⟨rfl,h⟩
 exact⟨.cons _ _ _ _ _ _ (.str _ _ _ h) (.nil _ _),by intro v hv;simp at hv;subst hv;rfl⟩
theorem Dr {α β:Type} {r:Rd α} {s:Rd β} {f:α→List AV} {g:β→List AV} (hf:Enc r f) (hg:Enc s g):Enc (E0 r s) (fun x=>f x.1++g x.2):=by
 rintro w cs x ⟨h1,h2⟩
 obtain⟨a1,a2⟩:=hf _ _ _ h1
 obtain⟨b1,b2⟩:=hg _ _ _ h2
 have:=a1.append b1
 rw[List.take_append_drop] at this
 refine⟨this,fun v hv=>?_⟩
 rw[← List.take_append_drop r.size cs,List.mem_append] at hv
 exact hv.elim (a2 v) (b2 v)
theorem Ws {α β:Type} {r:Rd α} {f:α→β} {g:α→List AV} {g':β→List AV} (he:∀ x,g' (f x)=g x) (h:Enc r g):Enc (Vp f r) g':=by
 rintro w cs x ⟨y,h1,rfl⟩
 rw[he];exact h _ _ _ h1
theorem Adc {S:Nat→Nat→Prop} {w:World}:∀ {els:List (List AV)} {vss:List (List Value)},els.length=vss.length→(∀ (k:Nat) (el:List AV) (vs:List Value),els[k]?=some el→vss[k]?=some vs→Reps S w [] [] el vs∧Gw vs)→Repss S w els vss
 | [],[],_,_=>.nil
 | el :: els,vs :: vss,hl,h=>.cons _ _ _ _ (h 0 el vs rfl rfl).1 (h 0 el vs rfl rfl).2 (Adc (by simpa using hl) fun k a b h1 h2=>h (k+1) a b (by simpa using h1) (by simpa using h2))
theorem T5 {α:Type} {r:Rd α} {f:α→List AV} (hf:Enc r f):Enc (Kw r) (fun l=>[.sl r.size (l.map f)]):=by
 rintro w cs l ⟨a,cap,rfl,hc,hi⟩
 obtain⟨vss,hlen,hv⟩:=Agc (n:=l.length) (p:=fun k cs'=>∃ hk:k < l.length,∃ b off,a=some ⟨b,off,none⟩∧cs'.length=r.size∧(∀ j u,cs'[j]?=some u→w.cell? ⟨b,off+k*r.size+j,none⟩=some u)∧r.rel w cs' l[k]) (fun k hk=>by
  obtain⟨b,off,cs',h⟩:=hi k hk
  exact⟨cs',hk,b,off,h⟩)
 have hrep:Repss (SAll w) w (l.map f) vss:=by
  refine Adc (by rw[B3,hlen]) fun k el vs h1 h2=>?_
  obtain⟨hk2,rfl⟩:=List.getElem?_eq_some_iff.1 h2
  obtain⟨hk,b,off,_,_,_,h6⟩:=hv k hk2
  rw[List.getElem?_map,B7 hk] at h1
  simp at h1;subst h1
  exact hf _ _ _ h6
 refine⟨.cons _ _ _ _ _ _ ?_ (.nil _ _),by intro v hv;simp at hv;subst hv;rfl⟩
 have:=Rep.sl (S:=SAll w) (w:=w) [] [] r.size (l.map f) vss a cap hrep ⟨fun vs hm=>?_,fun j vs t u h1 h2=>?_⟩ (by rw[B3];exact hc)
 ·rw[B3] at this;exact this
 ·obtain⟨k,hk,rfl⟩:=List.getElem_of_mem hm
  obtain⟨_,_,_,_,h,_⟩:=hv k hk
  exact h
 ·obtain⟨hk2,rfl⟩:=List.getElem?_eq_some_iff.1 h1
  obtain⟨hk,b,off,h4,h5,h6,_⟩:=hv j hk2
  exact⟨b,off,h4,⟨_,(Xm (h6 t u h2)).choose_spec⟩,h6 t u h2⟩
def Agz (W:World) (e:Ending) (w':World):Prop:=e=.returned (.bool true)∧Below W.heap.size W w'
theorem Rg {w w':World} (hb:Below w.heap.size w w') {b o:Nat} (h:∃ u,stay w b o=some u):stay w' b o=stay w b o:=by
 obtain⟨u,hu⟩:=h
 exact Oe (hb.block b (O2 hu)) o
theorem SAll.ext {w w':World} (hb:Below w.heap.size w w'):SExt (SAll w) w (SAll w') w':=fun b o h=>⟨by
 have:=Rg hb h
 obtain⟨u,hu⟩:=h
 exact⟨u,this.trans hu⟩,Rg hb h⟩
theorem A19 {S:Nat→Nat→Prop} {w w':World} (hc:∀ b o,S b o→∃ u,stay w b o=some u) (hb:Below w.heap.size w w'):SExt S w S w'∧∀ b o,S b o→∃ u,stay w' b o=some u∧(w.heap.size≤b→u.2.2=(0,0)) :=
 ⟨fun b o h=>⟨h,Rg hb (hc b o h)⟩,fun b o h=>by
  obtain⟨u,hu⟩:=hc b o h
  exact⟨u,(Rg hb ⟨u,hu⟩).trans hu,fun hb=>absurd (O2 hu) (by omega)⟩⟩
abbrev Akv:=List (FuncId×(List AV→Option AV))
def A6p:Akv→Ext
 | [],_=>none
 | (g,k) :: l,f=>match Nat.beq g f with
   | true=>some k
   | false=>A6p l f
def A03 (P:Program) (g:FuncId) (k:List AV→Option AV):Prop:=∀ (args:List AV) (v:AV),k args=some v→∀ (S:Nat→Nat→Prop) (w:World) (vs:List Value),(∀ b o,S b o→∃ u,stay w b o=some u)→Reps S w [] [] args vs →
 Calls P g vs.toArray w fun e w'=>∃ u S',e=.returned u∧Rep S' w' [] [] v u∧(∀ b o,S' b o→∃ u,stay w' b o=some u∧(w.heap.size≤b→u.2.2=(0,0)))∧SExt S w S' w'∧(∀ b o,S' b o→S b o∨w.heap.size≤b)∧Below w.heap.size w w'
theorem A4h {P:Program}:∀ {l:Akv},(∀ p ∈ l,A03 P p.1 p.2)→A0j P (A6p l)
 | [],_=>fun g k h=>by simp[A6p] at h
 | (g,k) :: l,hl=>fun f k' h=>by
  simp only[A6p] at h
  split at h
  ·rename_i he
   have he:=Nat.eq_of_beq_eq_true he
   cases h
   have:=hl (g,k) (by simp)
   rw[← he];exact this
  ·exact A4h (fun p hp=>hl p (by simp[hp])) f k' h
def Agx (b:Bool) (w:World) (e:Ending) (w':World):Prop:=e=.returned (.bool b)∧Below w.heap.size w w'
theorem An4 {ρ:Type} {cont:Tm→Hp→Option ρ} {tm tm':Tm} {hp hp':Hp} {r:Option ρ} (h:cont tm' hp'=r) (h1:tm=tm') (h2:hp=hp'):cont tm hp=r:=by rw[h1,h2];exact h
def Cz (n:Int):List AV:=[.int .i64 n]
inductive LR (τ ν:Type) where
 | out (t:τ)
 | ret (v:ν)
 deriving DecidableEq
def Adr {ρ τ ν:Type} (K:Ex→Tm→Hp→Option ρ) (id:Nat) (tmX:τ→(Nat→Nat)→Tm) (hpX:τ→(Nat→Nat)→Hp) (encR:ν→ρ) (r:Option ρ):LR τ ν→Prop
 | .out t=>∀ a,K (.exit id) (tmX t a) (hpX t a)=r
 | .ret v=>r=some (encR v)
theorem Agk {ρ σ τ ν:Type} {body:Tm→Hp→(Ex→Tm→Hp→Option ρ)→Option ρ} {keep:Nat→List Nat} {h0:Nat} {K:Ex→Tm→Hp→Option ρ} {r:Option ρ} (id:Nat) (tmOf:σ→(Nat→Nat)→Tm) (hpOf:σ→(Nat→Nat)→Hp) (tmX:τ→(Nat→Nat)→Tm) (hpX:τ→(Nat→Nat)→Hp) (encR:ν→ρ) (L:Nat→σ→Option (LR τ ν)) (hL:∀ s,L 0 s=none) (o:LR τ ν)
 (hround:∀ (k:Nat) (s:σ) (a:Nat→Nat) (K':Ex→Tm→Hp→Option ρ) (cont:Tm→Hp→Option ρ),(∀ tm hp,K' .ret tm hp=K .ret tm hp)→(∀ s' a',L k s'=some o→cont (tmOf s' a') (hpOf s' a')=r)→L (k+1) s=some o→Adr K' id tmX hpX encR r o →
  Fg force (fun tm=>C5 (fun hp=>body tm hp (fun e tm hp=>Fg force (fun tm=>C5 (fun hp=>match e with
   | .normal=>cont tm hp
   | .exit id=>K' (.exit id) tm hp
   | .ret=>K' .ret tm hp) (Hb h0 hp)) (X0 (keep (A6t e)) h0 hp 0 tm))) (hpOf s a)) (tmOf s a)=r) :
 ∀ (n:Nat) (s:σ) (a:Nat→Nat) (tm:Tm) (hp:Hp),L n s=some o→Adr K id tmX hpX encR r o→tm=tmOf s a→hp=hpOf s a→rounds body keep h0 n tm hp K=r:=by
 intro n
 induction n with
 | zero=>intro s a tm hp h;rw[hL] at h;cases h
 | succ n ih =>
  intro s a tm hp h hr h1 h2
  subst h1;subst h2
  unfold rounds
  have:=hround n s a K (fun tm hp=>rounds body keep h0 n tm hp K) (fun _ _=>rfl) (fun s' a' h'=>ih s' a' _ _ h' hr rfl rfl) h hr
  rw[Dn Sm,B6] at this
  exact this
def Apq (b:Bool):List AV:=[.bool b]
def D6 (s:List UInt8):List AV:=[.str s]
def fieldsOf (P:Program) (t:TypeId):List Field:=match P.underlying t with
 | some (.struct fs)=>fs.toList
 | _=>[]
theorem Ad4 {α:Type} {c:Bool} {a:Option α} {r:α} (h:(bif c then a else none)=some r):c=true∧a=some r:=by
 cases c
 ·cases h
 ·exact⟨rfl,h⟩
theorem Aji {α β:Type} {o:Option α} {f:α→Option β} {r:β} (h:o.bind f=some r):∃ x,o=some x∧f x=some r:=by
 cases o with
 | none=>cases h
 | some x=>exact⟨x,rfl,h⟩
theorem Ad {α:Type} {c:Bool} {a:Option α} {r:α} {G:Prop} (h:(bif c then a else none)=some r) (h1:c=true→a=some r→G):G:=h1 (Ad4 h).1 (Ad4 h).2
theorem Av {α β:Type} {o:Option α} {f:α→Option β} {r:β} {G:Prop} (h:o.bind f=some r) (k:∀ x,o=some x→f x=some r→G):G:=by
 obtain⟨x,h1,h2⟩:=Aji h
 exact k x h1 h2
def idx {α:Type} (l:List α) (i:Int):Option α:=bif decide (0≤i) then l[i.toNat]? else none
theorem Adx {α:Type} {l:List α} {i:Int} {x:α} (h:idx l i=some x):0≤i∧i < l.length∧l[i.toNat]?=some x:=by
 unfold idx at h
 by_cases h0:0≤i
 ·rw[decide_eq_true h0] at h
  have:=(List.getElem?_eq_some_iff.1 h).1
  exact⟨h0,by omega,h⟩
 ·rw[decide_eq_false h0] at h;cases h
theorem Fh {α:Type} {l:List α} {i:Int} {x:α} (h:idx l i=some x):(decide (0≤i)&&decide (i < (l.length:Int)))=true:=by
 obtain⟨h1,h2,_⟩:=Adx h
 rw[decide_eq_true h1,decide_eq_true h2];rfl
theorem T1 {α β:Type} {l:List α} {f:α→β} {i:Int} {x:α} (h:idx l i=some x):(decide (0≤i)&&decide (i < ((l.map f).length:Int)))=true:=by
 rw[B3];exact Fh h
theorem Kp {α:Type} {f:α→List AV} {l:List α} {i:Int} {x:α} (h:idx l i=some x):nth? (l.map f) i.toNat=some (f x):=by
 rw[nth?_eq,List.getElem?_map,(Adx h).2.2];rfl
theorem Anx {l:List UInt8} {i:Int} {x:UInt8} (h:idx l i=some x):nth? l i.toNat=some x:=by rw[nth?_eq,(Adx h).2.2]
theorem Rf {α:Type} (l:List α) (k:Nat):idx l (k:Int)=l[k]?:=by simp[idx]
theorem Zk {n a a' k k' b B:Nat} (h:decide ((a+k)*B≤140737488355328)=true) (hn:n=a) (ha:a'=a) (hk:k'=k) (hb:b+1=B):(decide (n=a')&&decide ((a'+k')*(b+1)≤140737488355328))=true:=by
 subst hn;subst ha;subst hk;rw[hb,h];simp
theorem X8 {a a' k k' b B:Nat} (h:decide ((a+k)*B≤140737488355328)=true) (ha:a'=a) (hk:k'=k) (hb:b+1=B):(decide True&&decide ((a'+k')*(b+1)≤140737488355328))=true:=by
 subst ha;subst hk;rw[hb,h];simp
theorem Anj {k k' b B:Nat} (h:decide (k*B≤140737488355328)=true) (hk:k'=k) (hb:b+1=B):decide (k'*(b+1)≤140737488355328)=true:=by
 subst hk;rw[hb,h]
theorem Cu {α β:Type} (f:α→β) (l:List α):List.take l.length (List.map f l)=List.map f l:=List.take_of_length_le (by rw[B3];exact Nat.le_refl _)
theorem Ane {ρ:Type} {K:Ex→Tm→Hp→Option ρ} {e:Ex} {tm tm':Tm} {hp hp':Hp} {r:Option ρ} (h:K e tm' hp'=r) (h1:tm=tm') (h2:hp=hp'):K e tm hp=r:=by rw[h1,h2];exact h
theorem Wu {α β:Type} {l:List α} {f:α→β} {i:Int} {x:α} (h:idx l i=some x):(decide (0≤i)&&decide (i < ((l.length:Nat):Int))&&decide (0+l.length≤(l.map f).length))=true:=by
 rw[Fh h];simp
theorem Kq {α:Type} {l:List α} {i:Int} {x:α} (h:idx l i=some x):(decide (0≤i)&&decide (i < ((l.length:Nat):Int))&&decide (0+l.length≤l.length))=true:=by
 rw[Fh h];simp
theorem Aoe {i:Int} {n:Nat} (h:(decide (0≤i)&&decide (i≤(n:Int)))=true):i.toNat≤n:=by
 simp only[Ap,Bb] at h
 omega
def Amf {α:Type} (l:List α) (off n:Nat) (src:List α):List α:=if off+n≤l.length then List.take off l++(List.take n src++List.drop (off+Nat.min src.length n) l) else l
theorem Kn {α:Type} {l:List α} {off n:Nat} {src:List α}:(Amf l off n src).length=l.length:=by
 unfold Amf
 split
 ·have:Nat.min src.length n=min src.length n:=rfl
  simp only[List.length_append,List.length_take,List.length_drop,this];omega
 ·rfl
theorem Ep (n:Nat):decide (n=n)=true:=by simp
def Bc {κ ν:Type} [DecidableEq κ]:List (κ×ν)→κ→ν→ν
 | [],_,z=>z
 | p :: l,k,z=>if k=p.1 then p.2 else Bc l k z
def Xa {κ ν:Type} [DecidableEq κ]:List (κ×ν)→κ→Bool
 | [],_=>false
 | p :: l,k=>if k=p.1 then true else Xa l k
def Rj {κ ν:Type} [DecidableEq κ]:List (κ×ν)→κ→ν→List (κ×ν)
 | [],k,v=>[(k,v)]
 | p :: l,k,v=>if k=p.1 then(p.1,v) :: l else p :: Rj l k v
theorem Ads (s u:List UInt8):Lu (.str s) (.str u)=decide (s=u):=by
 show(s==u)=_
 by_cases h:s=u<;>simp[h]
theorem Acm {κ ν:Type} [DecidableEq κ] {ek:κ→AV} {ev:ν→AV} {c:κ×ν→List AV} (hc:∀ p,c p=[ek p.1,ev p.2]) (hk:∀ a b,Lu (ek a) (ek b)=decide (a=b)) (k:κ) (z:ν):∀ l:List (κ×ν),Fw (ev z) (l.map c) (ek k)=ev (Bc l k z)
 | []=>rfl
 | p :: l=>by
  rw[List.map_cons,hc]
  simp only[Fw,Bc,hk,Acm hc hk k z l]
  by_cases h:k=p.1<;>simp[h]
theorem Age {κ ν:Type} [DecidableEq κ] {ek:κ→AV} {ev:ν→AV} {c:κ×ν→List AV} (hc:∀ p,c p=[ek p.1,ev p.2]) (hk:∀ a b,Lu (ek a) (ek b)=decide (a=b)) (k:κ) (v:ν):∀ l:List (κ×ν),N6 (l.map c) (ek k) (ev v)=(Rj l k v).map c
 | []=>by rw[Rj,List.map_cons,hc];rfl
 | p :: l=>by
  rw[List.map_cons,hc]
  simp only[N6,Rj,hk,Age hc hk k v l]
  by_cases h:k=p.1<;>simp[h,hc]
end Go.Proofs.YteindmlljlboeaaGreat
end
