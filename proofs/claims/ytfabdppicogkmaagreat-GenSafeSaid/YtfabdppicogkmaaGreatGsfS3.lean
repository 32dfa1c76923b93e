/- Parts of the proofs: what they lean on. Conditions: none. -/
import Derived.Laws.BytesString
import Derived.Test.YtfabdppicogkmaaGreatGsfS2
section
namespace Go.Proofs.YtfabdppicogkmaaGreat
open Go.RowKit
set_option linter.unusedVariables false
set_option linter.unusedSimpArgs false
def Agv:Ob→Bool
 | .var _ _=>false
 | .mpo _ _=>false
 | _=>true
structure Np (hp:Hp) (φ:List Pl) (hp':Hp) (φ':List Pl) (q:Nat→Option Nat):Prop where
 pl:∀ id k,q id=some k→φ'[k]?=φ[id]?
 ob:∀ id k o,q id=some k→nth? hp id=some o→Agv o=true→nth? hp' k=some o
section
variable {S:Nat→Nat→Prop} {w:World} {hp hp':Hp} {φ φ':List Pl} {P:Program} {base:Nat} {q:Nat→Option Nat}
theorem Gz {g:AV→AV} (hg:∀ a v,Rep S w hp φ a v→Rep S w hp' φ' (g a) v) {l:List AV} {vs:List Value} (h:Reps S w hp φ l vs):Reps S w hp' φ' (l.map g) vs:=by
 induction l generalizing vs with
 | nil=>cases h;exact .nil _ _
 | cons a l ih=>cases h with | cons _ _ _ v _ vs h t=>exact .cons _ _ _ _ _ _ (hg a v h) (ih t)
theorem W1 (hq:Np hp φ hp' φ' q) {a:AV} {v:Value} (h:Rep S w hp φ a v):Rep S w hp' φ' (A0z q a) v:=by
 cases a<;>simp only[A0z]<;>first | exact .junk _ _ _ | skip
 case bool=>cases h;exact .bool _ _ _
 case int=>cases h;exact .int _ _ _ _ (by assumption)
 case str=>cases h;exact .str _ _ _ (by assumption)
 case nilp=>cases h;exact .nilp _ _
 case ptr id off =>
  obtain⟨b,hb,rfl⟩:=h.ptr_inv
  cases hk:q id with
  | none=>exact .junk _ _ _
  | some k=>exact .ptr _ _ _ off b ((hq.pl id k hk).trans hb)
 case vsl id off n c =>
  obtain⟨b,hb,rfl⟩:=h.vsl_inv
  cases hk:q id with
  | none=>exact .junk _ _ _
  | some k=>exact .vsl _ _ _ off n c b ((hq.pl id k hk).trans hb)
 case vel id off =>
  obtain⟨b,hb,rfl⟩:=h.vel_inv
  cases hk:q id with
  | none=>exact .junk _ _ _
  | some k=>exact .vel _ _ _ off b ((hq.pl id k hk).trans hb)
 case pte id i off =>
  obtain⟨b,size,els,o0,hb,hob,rfl⟩:=h.pte_inv
  cases hk:q id with
  | none=>exact .junk _ _ _
  | some k=>exact .pte _ _ _ i off b size els o0 ((hq.pl id k hk).trans hb) (hq.ob id k _ hk hob rfl)
 case rptr el off=>obtain⟨vs,b,ob,h1,h2,h3,rfl⟩:=h.rptr_inv;exact .rptr _ _ _ _ _ _ _ h1 h2 h3
 case nils=>have:=h.nils_inv;subst this;exact .nils _ _
 case sl size els=>obtain⟨vss,a,cap,h1,h2,h3,rfl⟩:=h.sl_inv;exact .sl _ _ _ _ _ _ _ h1 h2 h3
 case row id n =>
  obtain⟨et,size,els,h1,h2,h3,h4⟩:=h.row_inv
  cases hk:q id with
  | none=>exact .junk _ _ _
  | some k=>exact .row _ _ _ n v et size els (hq.ob id k _ hk h1 rfl) h2 h3 fun hn=>(hq.pl id k hk).trans (h4 hn)
 case own id off n =>
  obtain⟨b,size,els,cap,ad,o0,hb,hob,hle,had,hc,rfl⟩:=h.own_inv
  cases hk:q id with
  | none=>exact .junk _ _ _
  | some k=>exact .own _ _ _ off n b size els cap o0 ((hq.pl id k hk).trans hb) (hq.ob id k _ hk hob rfl) hle ad had hc
 case stk id ver n =>
  obtain⟨h0,ver',e,size,els,h1,h2,h3⟩:=h.stk_inv
  cases hk:q id with
  | none=>exact .junk _ _ _
  | some k=>exact .stk _ _ _ _ _ _ ⟨h0,ver',e,size,els,hq.ob id k _ hk h1 rfl,h2,fun hv=>by
   obtain⟨c1,v0,c2,c3⟩:=h3 hv
   exact⟨c1,v0,(hq.pl id k hk).trans c2,c3⟩⟩
 case pts id ver i off =>
  obtain⟨h0,ver',e,size,els,h1,h2,h3⟩:=h.pts_inv
  cases hk:q id with
  | none=>exact .junk _ _ _
  | some k=>exact .pts _ _ _ _ _ _ _ ⟨h0,ver',e,size,els,hq.ob id k _ hk h1 rfl,h2,fun hv=>by
   obtain⟨g,len,cap,c2,c3⟩:=h3 hv
   exact⟨g,len,cap,(hq.pl id k hk).trans c2,c3⟩⟩
 case func f x y =>
  cases x<;>cases y<;>simp only[A0z]<;>first | exact .junk _ _ _ | skip
  obtain⟨a,b,h1,h2,rfl⟩:=h.func_inv
  cases h1;cases h2
  exact .func _ _ _ _ _ _ _ (.nil _ _) (.nil _ _)
 case nilf=>cases h;exact .nilf _ _
 case mapp id =>
  obtain⟨b,hb,rfl⟩:=h.mapp_inv
  cases hk:q id with
  | none=>exact .junk _ _ _
  | some k=>exact .mapp _ _ _ b ((hq.pl id k hk).trans hb)
 case mcl kd els=>exact h.mcl_any
 case ifc t a=>exact h.ifc_any
 case nili=>cases h;exact .nili _ _
theorem Mb (hq:Np hp φ hp' φ' q) {a:AV} {v:Value} (h:Rep S w hp φ a v):Rep S w hp' φ' (T8 q a) v:=by
 cases a<;>simp only[T8]<;>first | exact W1 hq h | skip
 case agg cs =>
  obtain⟨vs,h1,h2,rfl⟩:=h.agg_inv
  exact .agg _ _ _ _ (Gz (fun a v h=>W1 hq h) h1) h2
 case func f x y =>
  obtain⟨a,b,h1,h2,rfl⟩:=h.func_inv
  exact .func _ _ _ _ _ _ _ (Gz (fun a v h=>W1 hq h) h1) (Gz (fun a v h=>W1 hq h) h2)
theorem A0w (hq:Np hp φ hp' φ' q) {a:AV} {v:Value} (h:Rep S w hp φ a v):Rep S w hp' φ' (Aad q a) v:=by
 cases a<;>simp only[Aad]<;>first | exact Mb hq h | skip
 case tup cs =>
  obtain⟨vs,h1,rfl⟩:=h.tup_inv
  exact .tup _ _ _ _ (Gz (fun a v h=>Mb hq h) h1)
 case mfn kd els =>
  obtain⟨vss,b,es,h1,h2,hk,h3,h4,rfl⟩:=h.mfn_inv
  exact .mfn _ _ _ _ _ b es (h1.mapped fun a v h=>Mb hq h) h2 (hk.mapped (fun _ _=>rfl) fun _=>rfl) h3 h4
theorem U0 {a:AV} {v:Value} (h:Rep S w hp φ a v):Rep S w hp φ (P7 hp a) v:=by
 cases a<;>simp only[P7]<;>first | exact h | skip
 case row id n =>
  obtain⟨et,size,els,h1,h2,h3,h4⟩:=h.row_inv
  rw[h1];exact h3.lift
theorem A61 {a:AV} {v:Value} (h:Rep S w hp φ a v):Rep S w hp φ (Wd hp a) v:=by
 cases a<;>simp only[Wd]<;>first | exact U0 h | skip
 case agg cs =>
  obtain⟨vs,h1,h2,rfl⟩:=h.agg_inv
  exact .agg _ _ _ _ (Gz (fun a v h=>U0 h) h1) h2
 case func f x y =>
  obtain⟨a,b,h1,h2,rfl⟩:=h.func_inv
  exact .func _ _ _ _ _ _ _ (Gz (fun a v h=>U0 h) h1) (Gz (fun a v h=>U0 h) h2)
theorem Ajv {nr:Bool} {a:AV} {v:Value} (h:Rep S w hp φ a v):Rep S w hp φ (U8 nr hp a) v:=by
 cases nr with
 | true=>exact h
 | false=>exact A61 h
theorem ObOk.ren (hq:Np hp φ hp' φ' q) {id k:Nat} (hφ:φ'[k]?=φ[id]?) {o:Ob} (h:ObOk P base S w hp φ id o):ObOk P base S w hp' φ' k (Jb P q o):=by
 cases o with
 | var t cs =>
  obtain⟨b,vs,E,g1,g2,g3,g4,g5,g6⟩:=h
  exact⟨b,vs,E,hφ.trans g1,g2,g3,Of (Gz (fun a v h=>Mb hq h) g4),g5,g6⟩
 | arr size els =>
  obtain⟨b,vss,ex,E,pre,g1,g2,g3,g4,g5,g6⟩:=h
  exact⟨b,vss,ex,E,pre,hφ.trans g1,g2,g3,g4,g5,g6⟩
 | row e size els =>
  obtain⟨v,vss,g1,g2,g3,g4,g5,g6,g7⟩:=h
  exact⟨v,vss,hφ.trans g1,g2,g3,g4,g5,g6,g7⟩
 | stk ver e size els =>
  obtain⟨v,vss,g1,g2,g3,g4,g5,g6,g7⟩:=h
  exact⟨v,vss,hφ.trans g1,g2,g3,g4,g5,g6,g7⟩
 | mp kd frz els =>
  obtain⟨b,vss,es,g1,g2,g3,g4,g5,g6⟩:=h
  exact⟨b,vss,es,hφ.trans g1,g2,g3,g4,g5,g6⟩
 | mpo kd els =>
  obtain⟨b,vss,es,g1,g2,g3,g4,g5,g6⟩:=h
  exact⟨b,vss,es,hφ.trans g1,g2,g3,g4.mapped (fun a v h=>Mb hq h),⟨g5.1,g5.2.mapped (fun _ _=>rfl) fun _=>rfl⟩,g6⟩
end
theorem A9h (l:List Nat) (a:Nat):Kd l a=true↔a ∈ l:=by
 induction l with
 | nil=>simp[Kd]
 | cons b l ih =>
  simp only[Kd,List.mem_cons]
  cases hb:Nat.beq b a with
  | true=>have:=Nat.eq_of_beq_eq_true hb;subst this;simp
  | false =>
   have:a≠b:=fun e=>by subst e;rw[Nat.beq_refl] at hb;cases hb
   simp[ih,this]
theorem Age:∀ (l:List Nat) (i id k:Nat),Iv l i id=some k→i≤k∧l[k - i]?=some id:=by
 intro l
 induction l with
 | nil=>intro i id k h;cases h
 | cons a l ih =>
  intro i id k h
  simp only[Iv] at h
  cases hb:Nat.beq a id with
  | true=>rw[hb] at h;cases h;have:=Nat.eq_of_beq_eq_true hb;subst this;simp
  | false =>
   rw[hb] at h
   obtain⟨h1,h2⟩:=ih (i+1) id k h
   refine⟨by omega,?_⟩
   rw[show k - i=(k - (i+1))+1 by omega,List.getElem?_cons_succ];exact h2
theorem A9g {l:List Nat} {id k:Nat} (h:Iv l 0 id=some k):l[k]?=some id:=by simpa using(Age l 0 id k h).2
theorem Ane {l:List Nat} (hn:l.Nodup) {i j a:Nat} (hi:l[i]?=some a) (hj:l[j]?=some a):i=j:=by
 have h1:=nth?_lt hi
 have h2:=nth?_lt hj
 rw[A6 h1] at hi
 rw[A6 h2] at hj
 exact(List.getElem_inj hn).1 ((Option.some.inj hi).trans (Option.some.inj hj).symm)
theorem A0u (hp:Hp):∀ (n:Nat) (todo done ids:List Nat),P8 hp n todo done=some ids→done.Nodup→(∀ id ∈ done,id < hp.length)→ids.Nodup∧(∀ id ∈ ids,id < hp.length)∧(∀ id ∈ done,id ∈ ids)∧∀ hp2:Hp,(∀ id ∈ ids,nth? hp2 id=nth? hp id)→P8 hp2 n todo done=some ids:=by
 intro n
 induction n with
 | zero=>intro todo done ids h h1 h2;cases todo<;>cases h<;>exact⟨h1,h2,fun _ h=>h,fun _ _=>rfl⟩
 | succ n ih =>
  intro todo done ids h h1 h2
  cases todo with
  | nil=>cases h;exact⟨h1,h2,fun _ h=>h,fun _ _=>rfl⟩
  | cons id todo =>
   simp only[P8] at h ⊢
   cases hh:Kd done id with
   | true=>rw[hh] at h;exact ih _ _ _ h h1 h2
   | false =>
    rw[hh] at h
    simp only at h ⊢
    cases ho:nth? hp id with
    | none=>rw[ho] at h;cases h
    | some o =>
     rw[ho] at h
     have hni:id ∉ done:=fun h=>by rw[(A9h done id).2 h] at hh;cases hh
     obtain⟨g1,g2,g3,g4⟩:=ih _ _ _ h (by
      rw[List.nodup_append]
      exact⟨h1,by simp,fun a ha b hb e=>by simp at hb;subst e;subst hb;exact hni ha⟩) (by
      intro a ha
      rcases List.mem_append.1 ha with ha | ha
      ·exact h2 a ha
      ·simp at ha;subst ha
       rw[nth?_eq] at ho;exact nth?_lt ho)
     refine⟨g1,g2,fun a ha=>g3 a (List.mem_append_left _ ha),fun hp2 hp2s=>?_⟩
     have:=hp2s id (g3 id (List.mem_append_right _ (by simp)))
     rw[this,ho]
     exact g4 hp2 hp2s
theorem A8r {n:Nat}:∀ {l:List Nat},idB n l=true→∀ id ∈ l,id < n
 | [],_,id,h=>by cases h
 | a :: l,hb,id,h=>by
  simp only[idB] at hb
  split at hb
  ·rename_i hlt
   rcases List.mem_cons.1 h with rfl | h
   ·exact Nat.lt_of_lt_of_le (Nat.lt_succ_self _) (B4 hlt)
   ·exact A8r hb id h
  ·cases hb
def D5 {α:Type}:List Nat→List α→List α→List α
 | id :: l,x :: m,xs=>D5 l m (xs.set id x)
 | _,_,xs=>xs
theorem R2 {α:Type}:∀ (l:List Nat) (m xs:List α),(D5 l m xs).length=xs.length
 | [],m,xs=>by cases m<;>rfl
 | id :: l,[],xs=>rfl
 | id :: l,x :: m,xs=>by rw[D5,R2 l m];simp
theorem Md {α:Type}:∀ (l:List Nat) (m xs:List α) (j:Nat),j ∉ l→(D5 l m xs)[j]?=xs[j]?
 | [],m,xs,j,h=>by cases m<;>rfl
 | id :: l,[],xs,j,h=>rfl
 | id :: l,x :: m,xs,j,h=>by
  rw[D5,Md l m _ j fun h'=>h (List.mem_cons_of_mem _ h'),List.getElem?_set_ne fun e=>h (by rw[e];exact List.mem_cons_self)]
theorem Wg {α:Type}:∀ (l:List Nat) (m xs:List α) (k j:Nat),l.Nodup→(∀ id ∈ l,id < xs.length)→l.length=m.length→l[k]?=some j→(D5 l m xs)[j]?=m[k]?
 | [],m,xs,k,j,hn,hb,hl,h=>by simp at h
 | id :: l,[],xs,k,j,hn,hb,hl,h=>by simp at hl
 | id :: l,x :: m,xs,k,j,hn,hb,hl,h=>by
  rw[D5]
  rw[List.nodup_cons] at hn
  cases k with
  | zero =>
   simp at h;subst h
   rw[Md l m _ _ hn.1,List.getElem?_set_self (hb _ List.mem_cons_self)];rfl
  | succ k =>
   rw[List.getElem?_cons_succ] at h
   rw[Wg l m _ k j hn.2 (fun a ha=>by simpa using hb a (List.mem_cons_of_mem _ ha)) (by simpa using hl) h,List.getElem?_cons_succ]
theorem Tk (P:Program) (ids:List Nat):∀ (l:List Nat) (hpn hp:Hp),T1 P ids l hpn hp=D5 l (hpn.map (Jb P (nth? ids))) hp
 | [],hpn,hp=>by cases hpn<;>rfl
 | id :: l,[],hp=>rfl
 | id :: l,o :: hpn,hp=>by rw[T1,B8,Tk P ids l,List.map_cons,D5]
theorem So (P:Program) (q:Nat→Option Nat) (hp:Hp):∀ (l:List Nat),(∀ id ∈ l,id < hp.length)→(Lu P q hp l).length=l.length∧∀ (k id:Nat) (o:Ob),l[k]?=some id→hp[id]?=some o→(Lu P q hp l)[k]?=some (Jb P q o)
 | [],h=>⟨rfl,fun k id o h=>by simp at h⟩
 | a :: l,h=>by
  obtain⟨h1,h2⟩:=So P q hp l fun id hid=>h id (List.mem_cons_of_mem _ hid)
  have ha:=h a List.mem_cons_self
  have:nth? hp a=some hp[a]:=by rw[nth?_eq];exact A6 ha
  simp only[Lu,this]
  refine⟨by simp[h1],fun k id o hk ho=>?_⟩
  cases k with
  | zero =>
   simp at hk;subst hk
   rw[A6 ha] at ho
   rw[← Option.some.inj ho];rfl
  | succ k =>
   rw[List.getElem?_cons_succ] at hk ⊢
   exact h2 k id o hk ho
section
variable {S:Nat→Nat→Prop} {w:World} {hp:Hp} {φ:List Pl} {P:Program} {base:Nat}
def Ls (φ:List Pl) (ids:List Nat):List Pl:=ids.map fun id=>(φ[id]?).getD (.blk 0)
theorem L4 {ids:List Nat} (hin:∀ id ∈ ids,id < φ.length) {k id:Nat} (h:ids[k]?=some id):(Ls φ ids)[k]?=φ[id]?:=by
 have hlt:=hin id (List.mem_of_getElem? h)
 simp only[Ls,List.getElem?_map,h,Option.map_some,A6 hlt,Option.getD_some]
theorem Lo {ids:List Nat} (hin:∀ id ∈ ids,id < φ.length) {k b:Nat} (h:Af (Ls φ ids) k=some b):∃ id,ids[k]?=some id∧Af φ id=some b:=by
 cases hk:ids[k]? with
 | none =>
  have:(Ls φ ids)[k]?=none:=by simp[Ls,List.getElem?_map,hk]
  simp[Af,this] at h
 | some id =>
  refine⟨id,rfl,?_⟩
  unfold Af at h ⊢
  rw[L4 hin hk] at h;exact h
theorem A5n {ids:List Nat} (hs:Sim P base S w hp φ) (hin:∀ id ∈ ids,id < hp.length):Np hp φ (Lu P (Iv ids 0) hp ids) (Ls φ ids) (Iv ids 0):=by
 refine⟨fun id k hk=>L4 (by rw[hs.len];exact hin) (A9g hk),fun id k o hk ho hne=>?_⟩
 rw[nth?_eq] at ho ⊢
 rw[(So P (Iv ids 0) hp ids hin).2 k id o (A9g hk) ho]
 cases o with
 | var t cs=>cases hne
 | mpo kd els=>cases hne
 | _=>rfl
theorem Sim.sub (hs:Sim P base S w hp φ) {ids:List Nat} (hnd:ids.Nodup) (hin:∀ id ∈ ids,id < hp.length):Sim P base S w (Lu P (Iv ids 0) hp ids) (Ls φ ids):=by
 have hin':∀ id ∈ ids,id < φ.length:=by rw[hs.len];exact hin
 have hsub:=So P (Iv ids 0) hp ids hin
 refine⟨by rw[hsub.1];simp[Ls],hs.low,hs.cell,fun k o ho=>?_,fun i j b hi hj=>?_⟩
 ·have hlt:=nth?_lt ho
  rw[hsub.1] at hlt
  have hk:=A6 hlt
  have hid:=hin _ (List.getElem_mem hlt)
  have ho2:=A6 hid
  rw[hsub.2 k _ _ hk ho2] at ho
  rw[← Option.some.inj ho]
  exact(hs.obj _ _ ho2).ren (A5n hs hin) (L4 hin' hk)
 ·obtain⟨a,ha1,ha2⟩:=Lo hin' hi
  obtain⟨c,hc1,hc2⟩:=Lo hin' hj
  have:=hs.apart a c b ha2 hc2
  subst this
  exact Ane hnd ha1 hc1
theorem Sim.back (hs:Sim P base S w hp φ) {ids:List Nat} (hnd:ids.Nodup) (hin:∀ id ∈ ids,id < hp.length) {S':Nat→Nat→Prop} {w':World} {hpn:Hp} {φn:List Pl} (h2:Sim P base S' w' hpn φn) (h3:Trans base S w (Lu P (Iv ids 0) hp ids) (Ls φ ids) S' w' hpn φn) (hl:hpn.length=ids.length) :
 ∃ φ',Sim P base S' w' (T1 P ids ids hpn hp) φ'∧Trans base S w hp φ S' w' (T1 P ids ids hpn hp) φ'∧Np hpn φn (T1 P ids ids hpn hp) φ' (nth? ids):=by
 have hin':∀ id ∈ ids,id < φ.length:=by rw[hs.len];exact hin
 have hsub:=So P (Iv ids 0) hp ids hin
 rw[Tk]
 have hφl:ids.length=φn.length:=by rw[h2.len,hl]
 have hpin:∀ k j,ids[k]?=some j→(D5 ids (hpn.map (Jb P (nth? ids))) hp)[j]?=(hpn[k]?).map (Jb P (nth? ids)):=fun k j h=>by
  rw[Wg ids _ hp k j hnd hin (by simp[hl]) h,List.getElem?_map]
 have hpout:∀ j,j ∉ ids→(D5 ids (hpn.map (Jb P (nth? ids))) hp)[j]?=hp[j]?:=fun j h=>Md ids _ hp j h
 have plin:∀ k j,ids[k]?=some j→(D5 ids φn φ)[j]?=φn[k]?:=fun k j h=>Wg ids φn φ k j hnd hin' hφl h
 have plout:∀ j,j ∉ ids→(D5 ids φn φ)[j]?=φ[j]?:=fun j h=>Md ids φn φ j h
 have hren:Np hpn φn (D5 ids (hpn.map (Jb P (nth? ids))) hp) (D5 ids φn φ) (nth? ids):=by
  refine⟨fun k j h=>?_,fun k j o h ho hne=>?_⟩
  ·rw[nth?_eq] at h;exact plin k j h
  ·rw[nth?_eq] at h ho ⊢
   rw[hpin k j h,ho]
   cases o with
   | var t cs=>cases hne
   | mpo kd els=>cases hne
   | _=>rfl
 have hblk:∀ j b,Af (D5 ids φn φ) j=some b→(∃ k,ids[k]?=some j∧Af φn k=some b)∨(j ∉ ids∧Af φ j=some b):=by
  intro j b h
  by_cases hj:j ∈ ids
  ·obtain⟨k,hk⟩:=List.getElem?_of_mem hj
   refine .inl ⟨k,hk,?_⟩
   unfold Af at h ⊢;rw[plin k j hk] at h;exact h
  ·refine .inr ⟨hj,?_⟩
   unfold Af at h ⊢;rw[plout j hj] at h;exact h
 have hmine:∀ b,N8 w (Ls φ ids) b→N8 w φ b:=fun b h=>h.elim (fun⟨k,hk⟩=>let ⟨id,_,h⟩:=Lo hin' hk;.inl ⟨id,h⟩) .inr
 have hnot:∀ j b,j ∉ ids→Af φ j=some b→¬ N8 w (Ls φ ids) b:=by
  rintro j b hj hb (⟨k,hk⟩ | h)
  ·obtain⟨id,h1,h4⟩:=Lo hin' hk
   have:=hs.apart j id b hb h4
   subst this
   exact hj (List.mem_of_getElem? h1)
  ·have:=(hs.block_lt hb).2;omega
 have hold:∀ j b,j ∉ ids→Af φ j=some b→w'.heap[b]?=w.heap[b]?∧∀ o,S' b o↔S b o:=fun j b hj hb=>by
  have hn:=hnot j b hj hb
  exact⟨h3.keep b hn,fun o=>⟨fun h=>(h3.mine b o h).elim (fun h=>h) fun h=>absurd h hn,fun h=>(h3.s b o h).1⟩⟩
 have hE:HpExt hp φ (D5 ids (hpn.map (Jb P (nth? ids))) hp) (D5 ids φn φ):=by
  refine⟨fun id p hp' hb=>?_,fun id size els he=>?_,fun id e size els he=>?_,fun id ver e size els he=>?_⟩
  ·by_cases hid:id ∈ ids
   ·obtain⟨k,hk⟩:=List.getElem?_of_mem hid
    rw[plin k id hk]
    exact h3.hp.blk k _ hp' ((L4 hin' hk).trans hb)
   ·rw[plout id hid];exact hb
  ·rw[nth?_eq] at he
   simp only[nth?_eq]
   by_cases hid:id ∈ ids
   ·obtain⟨k,hk⟩:=List.getElem?_of_mem hid
    obtain⟨els',e1,e2⟩:=h3.hp.arr k size els (by rw[nth?_eq,hsub.2 k id _ hk he];rfl)
    rw[nth?_eq] at e1
    exact⟨els',by rw[hpin k id hk,e1];rfl,e2⟩
   ·exact⟨els,by rw[hpout id hid];exact he,rfl⟩
  ·rw[nth?_eq] at he
   simp only[nth?_eq]
   by_cases hid:id ∈ ids
   ·obtain⟨k,hk⟩:=List.getElem?_of_mem hid
    obtain⟨more,e1,e2⟩:=h3.hp.row k e size els (by rw[nth?_eq,hsub.2 k id _ hk he];rfl)
    rw[nth?_eq] at e1
    exact⟨more,by rw[hpin k id hk,e1];rfl,fun hm v hv=>(plin k id hk).trans (e2 hm v ((L4 hin' hk).trans hv))⟩
   ·exact⟨[],by rw[hpout id hid,List.append_nil];exact he,fun _ v hv=>(plout id hid).trans hv⟩
  ·rw[nth?_eq] at he
   simp only[nth?_eq]
   by_cases hid:id ∈ ids
   ·obtain⟨k,hk⟩:=List.getElem?_of_mem hid
    obtain⟨ver',els',e1,e2,e3⟩:=h3.hp.stk k ver e size els (by rw[nth?_eq,hsub.2 k id _ hk he];rfl)
    rw[nth?_eq] at e1
    exact⟨ver',els',by rw[hpin k id hk,e1];rfl,e2,fun hv=>⟨(e3 hv).1,(plin k id hk).trans ((e3 hv).2.trans (L4 hin' hk))⟩⟩
   ·exact⟨ver,els,by rw[hpout id hid];exact he,Nat.le_refl _,fun _=>⟨rfl,plout id hid⟩⟩
 refine⟨D5 ids φn φ,⟨by rw[R2,R2];exact hs.len,h2.low,h2.cell,fun j o ho=>?_,fun i j b hi hj=>?_⟩,⟨h3.s,hE,h3.below,h3.new,fun b o h=>(h3.mine b o h).elim .inl fun h=>.inr (hmine b h),fun i b h=>?_,fun b h=>h3.keep b fun h'=>h (hmine b h')⟩,hren⟩
 ·by_cases hj:j ∈ ids
  ·obtain⟨k,hk⟩:=List.getElem?_of_mem hj
   rw[hpin k j hk] at ho
   cases hq:hpn[k]? with
   | none=>rw[hq] at ho;cases ho
   | some o' =>
    rw[hq] at ho
    rw[← Option.some.inj ho]
    exact(h2.obj k o' hq).ren hren (plin k j hk)
  ·rw[hpout j hj] at ho
   exact(hs.obj j o ho).keep h3.s hE (plout j hj) fun b hb=>hold j b hj hb
 ·rcases hblk i b hi with ⟨k,i1,i2⟩ | ⟨i1,i2⟩<;>rcases hblk j b hj with ⟨m,j1,j2⟩ | ⟨j1,j2⟩
  ·have:=h2.apart k m b i2 j2
   subst this
   rw[i1] at j1;exact Option.some.inj j1
  ·exact absurd (h3.fr k b i2) (hnot j b j1 j2)
  ·exact absurd (h3.fr m b j2) (hnot i b i1 i2)
  ·exact hs.apart i j b i2 j2
 ·rcases hblk i b h with ⟨k,_,i2⟩ | ⟨_,i2⟩
  ·exact hmine b (h3.fr k b i2)
  ·exact .inl ⟨i,i2⟩
theorem Amx (P:Program) (q:Nat→Option Nat):∀ (ids:List Nat) (hpn hp:Hp),ids.Nodup→(∀ id ∈ ids,id < hp.length)→ids.length≤hpn.length→(Lw P q ids hpn hp).length=hp.length+(hpn.length - ids.length)∧(∀ (k j:Nat),ids[k]?=some j→(Lw P q ids hpn hp)[j]?=(hpn[k]?).map (Jb P q))∧(∀ j,j < hp.length→j ∉ ids→(Lw P q ids hpn hp)[j]?=hp[j]?)∧∀ i,(Lw P q ids hpn hp)[hp.length+i]?=(hpn[ids.length+i]?).map (Jb P q):=by
 intro ids
 induction ids with
 | nil =>
  intro hpn hp _ _ _
  refine⟨by simp[Lw],fun k j h=>by simp at h,fun j hj _=>by simp[Lw,List.getElem?_append_left hj],fun i=>?_⟩
  simp only[Lw,List.length_nil,Nat.zero_add]
  rw[List.getElem?_append_right (by omega),show hp.length+i - hp.length=i by omega,List.getElem?_map]
 | cons a l ih =>
  intro hpn hp hnd hin hlen
  cases hpn with
  | nil=>simp at hlen
  | cons o hpn =>
   have hnd':=List.nodup_cons.1 hnd
   have ha:=hin a (List.mem_cons_self ..)
   obtain⟨h1,h2,h3,h4⟩:=ih hpn (Bq hp a (Jb P q o)) hnd'.2 (fun id h=>by rw[B8,List.length_set];exact hin id (List.mem_cons_of_mem _ h)) (by simpa using hlen)
   simp only[B8,List.length_set] at h1 h2 h3 h4
   simp only[Lw,B8]
   refine⟨by rw[h1];simp,fun k j hk=>?_,fun j hj hn=>?_,fun i=>?_⟩
   ·cases k with
    | zero =>
     simp only[List.getElem?_cons_zero,Option.some.injEq] at hk
     subst hk
     rw[h3 a ha hnd'.1,List.getElem?_set_self ha];rfl
    | succ k=>exact h2 k j (by simpa using hk)
   ·rw[h3 j hj (fun h=>hn (List.mem_cons_of_mem _ h)),List.getElem?_set_ne (fun e=>hn (by rw[e];exact List.mem_cons_self ..))]
   ·rw[h4 i,show(a :: l).length+i=(l.length+i)+1 by simp;omega,List.getElem?_cons_succ]
theorem Sim.backA (hs:Sim P base S w hp φ) {ids:List Nat} (hnd:ids.Nodup) (hin:∀ id ∈ ids,id < hp.length) {S':Nat→Nat→Prop} {w':World} {hpn:Hp} {φn:List Pl} (h2:Sim P base S' w' hpn φn) (h3:Trans base S w (Lu P (Iv ids 0) hp ids) (Ls φ ids) S' w' hpn φn) (hl:ids.length≤hpn.length) :
 ∃ φ',Sim P base S' w' (Lw P (qA ids hp.length) ids hpn hp) φ'∧Trans base S w hp φ S' w' (Lw P (qA ids hp.length) ids hpn hp) φ'∧Np hpn φn (Lw P (qA ids hp.length) ids hpn hp) φ' (qA ids hp.length):=by
 have hin':∀ id ∈ ids,id < φ.length:=by rw[hs.len];exact hin
 have hsub:=So P (Iv ids 0) hp ids hin
 obtain⟨b1,b2,b3,b4⟩:=Amx P (qA ids hp.length) ids hpn hp hnd hin hl
 generalize hQ:Lw P (qA ids hp.length) ids hpn hp=hp' at *
 have hφn:=h2.len
 have hφ:=hs.len
 have hφl:ids.length=(φn.take ids.length).length:=by rw[List.length_take];omega
 let φ':List Pl:=D5 ids (φn.take ids.length) φ++φn.drop ids.length
 have hbl:(D5 ids (φn.take ids.length) φ).length=hp.length:=by rw[R2];exact hφ
 have plin:∀ k j,ids[k]?=some j→φ'[j]?=φn[k]?:=fun k j h=>by
  have hk:=nth?_lt h
  have hj:=hin j (List.mem_of_getElem? h)
  rw[List.getElem?_append_left (by omega),Wg ids _ φ k j hnd hin' hφl h,List.getElem?_take,if_pos hk]
 have plout:∀ j,j < hp.length→j ∉ ids→φ'[j]?=φ[j]?:=fun j hj h=>by rw[List.getElem?_append_left (by omega),Md ids _ φ j h]
 have plnew:∀ i,φ'[hp.length+i]?=φn[ids.length+i]?:=fun i=>by
  rw[List.getElem?_append_right (by omega),hbl,show hp.length+i - hp.length=i by omega,List.getElem?_drop]
 have hq:∀ k j,qA ids hp.length k=some j→(ids[k]?=some j)∨(ids.length≤k∧j=hp.length+(k - ids.length)):=by
  intro k j h
  unfold qA at h
  rw[nth?_eq] at h
  cases hk:ids[k]? with
  | some i=>rw[hk] at h;exact .inl h
  | none=>rw[hk] at h;exact .inr ⟨by simpa using hk,(Option.some.inj h).symm⟩
 have pin:∀ k j,qA ids hp.length k=some j→hp'[j]?=(hpn[k]?).map (Jb P (qA ids hp.length))∧φ'[j]?=φn[k]?:=by
  intro k j h
  rcases hq k j h with h1 | ⟨h1,rfl⟩
  ·exact⟨b2 k j h1,plin k j h1⟩
  ·have e:ids.length+(k - ids.length)=k:=by omega
   exact⟨by rw[b4,e],by rw[plnew,e]⟩
 have hren:Np hpn φn hp' φ' (qA ids hp.length):=by
  refine⟨fun k j h=>(pin k j h).2,fun k j o h ho hne=>?_⟩
  rw[nth?_eq] at ho ⊢
  rw[(pin k j h).1,ho]
  cases o with
  | var t cs=>cases hne
  | mpo kd els=>cases hne
  | _=>rfl
 have hcase:∀ j,j < hp'.length→(∃ k,qA ids hp.length k=some j)∨(j ∉ ids∧j < hp.length):=by
  intro j hj
  rcases Nat.lt_or_ge j hp.length with h | h
  ·by_cases hm:j ∈ ids
   ·obtain⟨k,hk⟩:=List.getElem?_of_mem hm
    exact .inl ⟨k,by unfold qA;rw[nth?_eq,hk]⟩
   ·exact .inr ⟨hm,h⟩
  ·refine .inl ⟨ids.length+(j - hp.length),?_⟩
   unfold qA;rw[nth?_eq,List.getElem?_eq_none (by omega)]
   exact congrArg some (by omega)
 have hφ'l:φ'.length=hp'.length:=by
  rw[List.length_append,hbl,List.length_drop,b1];omega
 have hblk:∀ j b,Af φ' j=some b→(∃ k,qA ids hp.length k=some j∧Af φn k=some b)∨(j ∉ ids∧j < hp.length∧Af φ j=some b):=by
  intro j b h
  have hj:j < φ'.length:=by
   unfold Af at h
   rcases Nat.lt_or_ge j φ'.length with h' | h'
   ·exact h'
   ·rw[List.getElem?_eq_none h'] at h;cases h
  rcases hcase j (by omega) with ⟨k,hk⟩ | ⟨h1,h2⟩
  ·refine .inl ⟨k,hk,?_⟩
   unfold Af at h ⊢;rw[(pin k j hk).2] at h;exact h
  ·refine .inr ⟨h1,h2,?_⟩
   unfold Af at h ⊢;rw[plout j h2 h1] at h;exact h
 have hmine:∀ b,N8 w (Ls φ ids) b→N8 w φ b:=fun b h=>h.elim (fun⟨k,hk⟩=>let ⟨id,_,h⟩:=Lo hin' hk;.inl ⟨id,h⟩) .inr
 have hnot:∀ j b,j ∉ ids→Af φ j=some b→¬ N8 w (Ls φ ids) b:=by
  rintro j b hj hb (⟨k,hk⟩ | h)
  ·obtain⟨id,h1,h4⟩:=Lo hin' hk
   have:=hs.apart j id b hb h4
   subst this
   exact hj (List.mem_of_getElem? h1)
  ·have:=(hs.block_lt hb).2;omega
 have hold:∀ j b,j ∉ ids→Af φ j=some b→w'.heap[b]?=w.heap[b]?∧∀ o,S' b o↔S b o:=fun j b hj hb=>by
  have hn:=hnot j b hj hb
  exact⟨h3.keep b hn,fun o=>⟨fun h=>(h3.mine b o h).elim (fun h=>h) fun h=>absurd h hn,fun h=>(h3.s b o h).1⟩⟩
 have hE:HpExt hp φ hp' φ':=by
  refine⟨fun id p hp' hb=>?_,fun id size els he=>?_,fun id e size els he=>?_,fun id ver e size els he=>?_⟩
  ·by_cases hid:id ∈ ids
   ·obtain⟨k,hk⟩:=List.getElem?_of_mem hid
    rw[plin k id hk]
    exact h3.hp.blk k _ hp' ((L4 hin' hk).trans hb)
   ·rw[plout id (by have:=nth?_lt hb;omega) hid];exact hb
  ·rw[nth?_eq] at he
   simp only[nth?_eq]
   by_cases hid:id ∈ ids
   ·obtain⟨k,hk⟩:=List.getElem?_of_mem hid
    obtain⟨els',e1,e2⟩:=h3.hp.arr k size els (by rw[nth?_eq,hsub.2 k id _ hk he];rfl)
    rw[nth?_eq] at e1
    exact⟨els',by rw[b2 k id hk,e1];rfl,e2⟩
   ·exact⟨els,by rw[b3 id (nth?_lt he) hid];exact he,rfl⟩
  ·rw[nth?_eq] at he
   simp only[nth?_eq]
   by_cases hid:id ∈ ids
   ·obtain⟨k,hk⟩:=List.getElem?_of_mem hid
    obtain⟨more,e1,e2⟩:=h3.hp.row k e size els (by rw[nth?_eq,hsub.2 k id _ hk he];rfl)
    rw[nth?_eq] at e1
    exact⟨more,by rw[b2 k id hk,e1];rfl,fun hm v hv=>(plin k id hk).trans (e2 hm v ((L4 hin' hk).trans hv))⟩
   ·exact⟨[],by rw[b3 id (nth?_lt he) hid,List.append_nil];exact he,fun _ v hv=>(plout id (nth?_lt he) hid).trans hv⟩
  ·rw[nth?_eq] at he
   simp only[nth?_eq]
   by_cases hid:id ∈ ids
   ·obtain⟨k,hk⟩:=List.getElem?_of_mem hid
    obtain⟨ver',els',e1,e2,e3⟩:=h3.hp.stk k ver e size els (by rw[nth?_eq,hsub.2 k id _ hk he];rfl)
    rw[nth?_eq] at e1
    exact⟨ver',els',by rw[b2 k id hk,e1];rfl,e2,fun hv=>⟨(e3 hv).1,(plin k id hk).trans ((e3 hv).2.trans (L4 hin' hk))⟩⟩
   ·exact⟨ver,els,by rw[b3 id (nth?_lt he) hid];exact he,Nat.le_refl _,fun _=>⟨rfl,plout id (nth?_lt he) hid⟩⟩
 refine⟨φ',⟨hφ'l,h2.low,h2.cell,fun j o ho=>?_,fun i j b hi hj=>?_⟩,⟨h3.s,hE,h3.below,h3.new,fun b o h=>(h3.mine b o h).elim .inl fun h=>.inr (hmine b h),fun i b h=>?_,fun b h=>h3.keep b fun h'=>h (hmine b h')⟩,hren⟩
 ·rcases hcase j (nth?_lt ho) with ⟨k,hk⟩ | ⟨hj,hlt⟩
  ·rw[(pin k j hk).1] at ho
   cases hq:hpn[k]? with
   | none=>rw[hq] at ho;cases ho
   | some o' =>
    rw[hq] at ho
    rw[← Option.some.inj ho]
    exact(h2.obj k o' hq).ren hren (pin k j hk).2
  ·rw[b3 j hlt hj] at ho
   exact(hs.obj j o ho).keep h3.s hE (plout j hlt hj) fun b hb=>hold j b hj hb
 ·rcases hblk i b hi with ⟨k,i1,i2⟩ | ⟨i1,i3,i2⟩<;>rcases hblk j b hj with ⟨m,j1,j2⟩ | ⟨j1,j3,j2⟩
  ·have:=h2.apart k m b i2 j2
   subst this
   rw[i1] at j1;exact Option.some.inj j1
  ·exact absurd (h3.fr k b i2) (hnot j b j1 j2)
  ·exact absurd (h3.fr m b j2) (hnot i b i1 i2)
  ·exact hs.apart i j b i2 j2
 ·rcases hblk i b h with ⟨k,_,i2⟩ | ⟨_,_,i2⟩
  ·exact hmine b (h3.fr k b i2)
  ·exact .inl ⟨i,i2⟩
variable {e:Operand→Value} {o:Oper} {tm:Tm} {ρ:Type} {r:ρ}
theorem A1a {ad:Addr} {cs:List Value} {n:Nat} (hn:cs.length=n) (h:∀ j v,cs[j]?=some v→w.cell? (ad.add j)=some v):(loadCells ad n).run P w=.ok cs.toArray w:=by subst hn;exact run_loadCells_list (P:=P) w ad cs h
theorem Aby:∀ (ns:List Int) (s:List UInt8),ns.foldl (fun(r:ByteArray) (n:Int)=>r.push (UInt8.ofNat n.toNat)) (bs s)=bs (s++ns.map fun n=>UInt8.ofNat n.toNat)
 | [],s=>by simp
 | n :: ns,s=>by
  have h1:(bs s).push (UInt8.ofNat n.toNat)=bs (s++[UInt8.ofNat n.toNat]):=by
   apply ByteArray.ext
   apply Array.ext'
   simp[bs,ByteArray.push]
  rw[List.foldl_cons,h1,Aby ns,List.map_cons,List.append_assoc];rfl
theorem Agn {els:List (List AV)} {vss:List (List Value)} (h:Repss S w els vss) (hb:els.all A1l=true):∃ ns:List Int,vss.flatten=ns.map (Value.int .u8)∧els.map Uv=ns.map (fun n=>UInt8.ofNat n.toNat):=by
 induction els generalizing vss with
 | nil=>cases h;exact⟨[],rfl,rfl⟩
 | cons el l ih =>
  cases h with
  | cons _ vs _ vss h h1 t =>
   simp only[List.all_cons,A8] at hb
   obtain⟨ns,e1,e2⟩:=ih t hb.2
   match el,hb.1,h with
   | [.int .u8 n],_,h =>
    cases h with
    | cons _ _ _ v _ vs ha ht =>
     cases ht
     obtain⟨rfl,_⟩:=ha.int_inv
     exact⟨n :: ns,by simp[e1],by simp[Uv,e2]⟩
theorem Abw (hs:Sim P base S w hp φ) (ht:∀ x,Rep S w hp φ (ev tm x) (e x)) {s t et:TypeId} {x:Operand} (ho:o.op=.convert s t x) (hu:P.underlying t=some .string) (hsu:P.underlying s=some (.slice et)) (he:P.underlying et=some (.int .u8)) {els:List (List AV)} (hx:E0 hp 1 (ev tm x)=some els) (hb:els.all A1l=true) (hl:els.length≤140737488355328):Gives P S w hp φ e o (.str (els.map Uv)):=by
 obtain⟨ad,c,vss,hxe,hr,hlen,hcell,hnone⟩:=Ss hs (ht x) hx
 obtain⟨ns,e1,e2⟩:=Agn hr hb
 refine⟨.string (bs (els.map Uv)),?_,.str _ _ _ (by rw[A5];unfold maxLen;omega)⟩
 have hfl:vss.flatten.length=els.length:=by rw[Da hlen,← hr.length,Nat.mul_one]
 have hconv:(convert s t (e x)).run P w=.ok (.string (bs (els.map Uv))) w:=by
  rw[hxe,run_convert_bytes_string w s t et ad els.length c hsu he hu]
  cases ad with
  | none =>
   obtain⟨e3,_⟩:=hnone rfl
   subst e3
   rfl
  | some a =>
   have hload:=A1a (P:=P) (w:=w) (ad:=a) hfl fun j u hj=>by
    obtain⟨a',e4,e5⟩:=hcell j u hj
    cases e4;exact e5
   rw[e1] at hload
   rw[run_bytesToString w a els.length c ns hload,e2]
   have:=Aby ns []
   rw[List.nil_append] at this
   rw[← this];rfl
 simp only[execOp,ho,Sem.run_bind,Sem.run_pure,Result.andThen_ok,hconv]
theorem Aen (ht:∀ x,Rep S w hp φ (ev tm x) (e x)) {s t:TypeId} {x:Operand} (ho:o.op=.convert s t x) (hu:P.underlying t=some .string) {k k':IntKind} (hsu:P.underlying s=some (.int k)) {n:Int} (hx:ev tm x=.int k' n) (h0:0≤n) (h1:n < 128):Gives P S w hp φ e o (.str [UInt8.ofNat n.toNat]):=by
 have h:=ht x
 rw[hx] at h
 obtain⟨he,_⟩:=h.int_inv
 refine⟨.string (bs [UInt8.ofNat n.toNat]),?_,.str _ _ _ (by unfold maxLen;simp)⟩
 have henc:Utf8.encode n=bs [UInt8.ofNat n.toNat]:=by
  have hv:Utf8.valid n=true:=by simp[Utf8.valid];omega
  have hlt:n.toNat < 128:=by omega
  simp[Utf8.encode,hv,hlt,bs]
 simp only[execOp,ho,he,convert,Sem.run_bind,Sem.run_pure,Result.andThen_ok,run_underlying hu,run_underlying hsu,Conv.intToString,henc]
theorem A8e {α:Type} {vss:List (List α)} {size:Nat} (h:∀ vs ∈ vss,vs.length=size) (k:Nat):(vss.drop k).flatten=vss.flatten.drop (k*size):=by
 induction vss generalizing k with
 | nil=>simp
 | cons a t ih =>
  cases k with
  | zero=>simp
  | succ k =>
   have ha:=h a (by simp)
   rw[List.drop_succ_cons,List.flatten_cons,ih (fun vs hv=>h vs (by simp[hv])),show(k+1)*size=a.length+k*size by rw[ha,Nat.succ_mul];omega,List.drop_append,show List.drop (a.length+k*size) a=[] from List.drop_of_length_le (by omega),List.nil_append,Nat.add_sub_cancel_left]
theorem A45 {α:Type} {vss nvss:List (List α)} {size:Nat} (h:∀ vs ∈ vss,vs.length=size) (hn:∀ vs ∈ nvss,vs.length=size) (off k:Nat) :
 vss.flatten.take (off*size)++nvss.flatten.take (k*size)++vss.flatten.drop (off*size+k*size)=(vss.take off++(nvss.take k++vss.drop (off+k))).flatten:=by
 rw[List.flatten_append,List.flatten_append,Pd h,Pd hn,← Nat.add_mul,A8e h,List.append_assoc]
theorem Ak3 (hs:Sim P base S w hp φ) (ht:∀ x,Rep S w hp φ (ev tm x) (e x)) {t t' et:TypeId} {d x:Operand} (ho:o.op=.call { callee:=.builtin .copy,args:=#[d,x],argTypes:=#[t,t'] }) (hu:P.underlying t=some (.slice et)) {id off n size:Nat} (hd:ev tm d=.own id off n) {els:List (List AV)} (hob:nth? hp id=some (.arr size els)) (hsz:size=P.cellsOf et) (hz:0 < size)
 {news:List (List AV)} (hx:E0 hp size (ev tm x)=some news) (hle:off+n≤els.length) :
 Acts P base S w hp φ e o (.int .i64 ((Nat.min news.length n:Nat):Int)) (Bq hp id (.arr size (els.take off++(news.take n++els.drop (off+Nat.min news.length n))))):=by
 have hdd:=ht d
 rw[hd] at hdd
 obtain⟨b,size',els',cap,ad,o0,hb,hob',hle',had,hcp,hde⟩:=hdd.own_inv
 rw[hob] at hob';cases hob'
 obtain⟨ad2,c,nvss,hxe,hnr,hnl,hncell,hnone⟩:=Ss hs (ht x) hx
 have hid:hp[id]?=some (.arr size els):=by rw[← nth?_eq];exact hob
 obtain⟨b',vss,ex,E,pre,g1,g2,g3,g4,g5,g6⟩:=hs.obj id _ hid
 rw[hb] at g1;cases g1
 obtain⟨k,hk⟩:∃ k,Nat.min news.length n=k:=⟨_,rfl⟩
 rw[hk]
 have hk1:k≤news.length:=by rw[← hk];exact Nat.min_le_left _ _
 have hk2:k≤n:=by rw[← hk];exact Nat.min_le_right _ _
 have hlv:=g4.length
 have hln:=hnr.length
 have hfl:=Da g5
 have hnfl:=Da hnl
 have hszr:=L0 (P:=P) (w:=w) (t:=et) (by omega)
 rw[← hsz] at hszr
 have hcsl:(nvss.flatten.take (k*size)).length=k*size:=by
  rw[List.length_take,hnfl,← hln];exact Nat.min_eq_left (Nat.mul_le_mul_right _ hk1)
 have hfirst:(Builtin.firstCells size k (.slice ad2 news.length c)).run P w=.ok (nvss.flatten.take (k*size)).toArray w:=by
  cases ad2 with
  | none =>
   obtain⟨e1,_⟩:=hnone rfl
   subst e1
   have:nvss=[]:=List.eq_nil_of_length_eq_zero (by simpa using hln.symm)
   subst this
   rw[run_firstCells_none w];simp
  | some a =>
   refine run_firstCells_some w size k a _ _ _ hcsl fun j v hj=>?_
   rw[List.getElem?_take] at hj
   split at hj
   ·obtain⟨a',e1,e2⟩:=hncell j v hj
    cases e1;exact e2
   ·cases hj
 have hk':min news.length n=k:=hk
 have hnews:news.take n=news.take k:=by
  rcases Nat.le_total news.length n with h | h
  ·rw[List.take_of_length_le h,List.take_of_length_le (by rw[← hk',Nat.min_eq_left h];exact Nat.le_refl _)]
  ·rw[← hk',Nat.min_eq_right h]
 rw[hnews,B8]
 have hint:Rep S w hp φ (.int .i64 ((k:Nat):Int)) (.int .i64 ((k:Nat):Int)):=.int _ _ _ _ (A8i (by have:=hcp.1;have:=hcp.2.1;omega))
 have hrun:∀ w',(∀ a,ad=some a→(storeCells a (nvss.flatten.take (k*size))).run P w=.ok () w')→(ad=none→w'=w)→(execOp e o).run P w=.ok (.value (.int .i64 ((k:Nat):Int))) w':=by
  intro w' h1 h2
  have hl:(Builtin.lenOf (e x)).run P w=.ok news.length w:=by rw[hxe];rfl
  rw[← hxe] at hfirst
  have hcopy:(Builtin.copy_ #[t,t'] o.type #[e d,e x]).run P w=.ok (.int .i64 ((k:Nat):Int)) w':=by
   rw[hde]
   cases ad with
   | none =>
    rw[h2 rfl]
    simp[Builtin.copy_,Sem.run_bind,run_underlying hu,hl,hk,hszr,hfirst,goInt]
   | some a=>simp[Builtin.copy_,Sem.run_bind,run_underlying hu,hl,hk,hszr,hfirst,goInt,h1 a rfl]
  simp only[execOp,ho,resolve,invoke,builtin,Sem.run_bind,Sem.run_pure,Result.andThen_ok,List.map_toArray,List.map_cons,List.map_nil,hcopy]
 rcases Nat.eq_zero_or_pos n with hn0 | hn0
 ·-- nothing is written
  have hk0:k=0:=by omega
  subst hk0
  have hsame:els.take off++(news.take 0++els.drop (off+0))=els:=by simp
  have hset:hp.set id (.arr size els)=hp:=by
   have hlt:=nth?_lt hid
   rw[A6 hlt] at hid
   rw[← Option.some.inj hid];exact List.set_getElem_self hlt
  rw[hsame,hset]
  exact⟨_,S,φ,w,.inl (hrun w (fun a ha=>by rw[Nat.zero_mul,List.take_zero];rfl) fun _=>rfl),hint,hs,.refl _ _ _ _ _⟩
 ·have hadd:=had hn0
  have hat:Af φ id=some b:=by simp[Af,hb]
  have hnew:(els.take off++(news.take k++els.drop (off+k))).length=els.length:=by
   simp only[List.length_append,List.length_take,List.length_drop];omega
  have hE:=A63 hp φ (els':=els.take off++(news.take k++els.drop (off+k))) hid hnew
  have hoff:off*size+k*size≤vss.flatten.length:=by
   rw[hfl,← hlv,← Nat.add_mul];exact Nat.mul_le_mul_right _ (by omega)
  have hones:E5 (nvss.flatten.take (k*size)):=by
   intro u hu
   obtain⟨vs,hvs,hu⟩:=List.mem_flatten.1 (List.mem_of_mem_take hu)
   obtain⟨j,hj,rfl⟩:=List.getElem_of_mem hvs
   obtain⟨el,hel⟩:∃ el,news[j]?=some el:=⟨_,A6 (by omega)⟩
   obtain⟨vs',e1,e2,e3⟩:=hnr.get hel
   rw[A6 hj] at e1;cases e1
   exact e3 u hu
  have hst:=run_storeCells_at P b (pre.length+off*size) E (nvss.flatten.take (k*size)) 0 (pre++(vss.flatten++ex)).toArray w g3 (by simp only[hcsl,List.size_toArray,List.length_append];omega) hones
  have hcs0:((vss.flatten++ex).take (off*size)++nvss.flatten.take (k*size)++(vss.flatten++ex).drop (off*size+k*size))=(vss.take off++(nvss.take k++vss.drop (off+k))).flatten++ex:=by
   rw[← A45 g5 hnl,List.take_append_of_le_length (by omega),List.drop_append_of_le_length hoff]
   simp[List.append_assoc]
  have hcs:((pre++(vss.flatten++ex)).toArray.toList.take (pre.length+off*size+0)++nvss.flatten.take (k*size)++(pre++(vss.flatten++ex)).toArray.toList.drop (pre.length+off*size+0+(nvss.flatten.take (k*size)).length))=pre++((vss.take off++(nvss.take k++vss.drop (off+k))).flatten++ex):=by
   simp only[Nat.add_zero,hcsl]
   rw[← hcs0,List.take_append,List.drop_append,List.take_of_length_le (by omega),List.drop_of_length_le (show pre.length≤pre.length+off*size+k*size by omega),Nat.add_sub_cancel_left,show pre.length+off*size+k*size - pre.length=off*size+k*size by omega]
   simp only[List.nil_append,List.append_assoc]
  rw[hcs] at hst
  have hS:SExt S w S (w.setRow b (pre++((vss.take off++(nvss.take k++vss.drop (off+k))).flatten++ex)).toArray):=fun b' o' hb'=>⟨hb',I4 w b _ b' o' fun e1=>by
   have e1:b'=b:=e1
   subst e1;exact g6 o' hb'⟩
  obtain⟨s1,s2⟩:=hs.write hat g6 (pre++((vss.take off++(nvss.take k++vss.drop (off+k))).flatten++ex)).toArray hE (nth?_lt hid) ⟨b,vss.take off++(nvss.take k++vss.drop (off+k)),ex,E,pre,hb,g2,setRow_heap w b _ _ E (0,0) g3,Repss.mono hS ((g4.take off).append ((hnr.take k).append (g4.drop (off+k)))),fun vs hv=>by
   rcases List.mem_append.1 hv with hv | hv
   ·exact g5 vs (List.mem_of_mem_take hv)
   ·rcases List.mem_append.1 hv with hv | hv
    ·exact hnl vs (List.mem_of_mem_take hv)
    ·exact g5 vs (List.mem_of_mem_drop hv),g6⟩
  exact⟨_,S,φ,_,.inl (hrun _ (fun a ha=>by rw[hadd] at ha;cases ha;exact hst) fun ha=>by rw[hadd] at ha;cases ha),.int _ _ _ _ (by obtain⟨_,h⟩:=hint.int_inv;exact h),s1,s2⟩
end
section
variable {P:Program}
def Upped (a b:Nat) (l l':List AV):Prop:=l'.length=l.length∧∀ (i:Nat) (x:AV),l'[i]?=some x→l[i]?=some x∨(l[i]?=some AV.nils∧((∃ id,x=AV.row id 0∧a≤id∧id < b)∨∃ sz,x=AV.sl sz []))
theorem Upped.cons {a b:Nat} {l l':List AV} {x y:AV} (h:Upped a b l l') (hx:y=x∨(x=.nils∧((∃ id,y=.row id 0∧a≤id∧id < b)∨∃ sz,y=.sl sz []))):Upped a b (x :: l) (y :: l'):=by
 refine⟨by simp[h.1],fun i z hz=>?_⟩
 cases i with
 | zero =>
  simp at hz;subst hz
  rcases hx with rfl | ⟨rfl,h⟩
  ·exact .inl rfl
  ·exact .inr ⟨rfl,h⟩
 | succ i=>simpa using h.2 i z (by simpa using hz)
theorem Upped.mono {a b a' b':Nat} {l l':List AV} (h:Upped a b l l') (ha:a'≤a) (hb:b≤b'):Upped a' b' l l' :=
 ⟨h.1,fun i x hx=>(h.2 i x hx).imp id fun⟨e,h⟩=>⟨e,h.imp (fun⟨id,e1,e2,e3⟩=>⟨id,e1,by omega,by omega⟩) id⟩⟩
theorem Upped.refl (a b:Nat) (l:List AV):Upped a b l l:=⟨rfl,fun i x h=>.inl h⟩
def Zd (P:Program) (l:List Ob):Prop:=∀ o ∈ l,∃ e,o=.row e (P.cellsOf e) []∧0 < P.cellsOf e
theorem A77 {z:Nat→Bool}:∀ (ts:List TypeId) (l:List AV) (n:Nat),Upped n (n+(Ca P z n ts l).2.length) l (Ca P z n ts l).1∧Zd P (Ca P z n ts l).2:=by
 intro ts
 induction ts with
 | nil=>intro l n;cases l<;>exact⟨.refl _ _ _,fun o h=>by simp[Ca] at h⟩
 | cons t ts ih =>
  intro l n
  cases l with
  | nil=>exact⟨.refl _ _ _,fun o h=>by simp[Ca] at h⟩
  | cons x l =>
   have other:(∀ y,x=y→Ca P z n (t :: ts) (x :: l)=(x :: (Ca P z n ts l).1,(Ca P z n ts l).2))→Upped n (n+(Ca P z n (t :: ts) (x :: l)).2.length) (x :: l) (Ca P z n (t :: ts) (x :: l)).1∧Zd P (Ca P z n (t :: ts) (x :: l)).2:=fun h=>by
    rw[h x rfl]
    exact⟨(ih l n).1.cons (.inl rfl),(ih l n).2⟩
   cases x<;>first | exact other (fun _ _=>rfl) | skip
   cases he:Fr P t with
   | none=>exact other fun _ _=>by simp only[Ca,he]
   | some e =>
    cases hz:decide (0 < P.cellsOf e) with
    | false=>exact other fun _ _=>by simp only[Ca,he,hz]
    | true =>
     cases hq:z (P.cellsOf e) with
     | true =>
      have heq:Ca P z n (t :: ts) (.nils :: l)=(.sl (P.cellsOf e) [] :: (Ca P z n ts l).1,(Ca P z n ts l).2):=by simp only[Ca,he,hz,hq]
      rw[heq]
      exact⟨(ih l n).1.cons (.inr ⟨rfl,.inr ⟨_,rfl⟩⟩),(ih l n).2⟩
     | false =>
      have heq:Ca P z n (t :: ts) (.nils :: l)=(.row n 0 :: (Ca P z (n+1) ts l).1,.row e (P.cellsOf e) [] :: (Ca P z (n+1) ts l).2):=by simp only[Ca,he,hz,hq]
      rw[heq]
      obtain⟨h1,h2⟩:=ih l (n+1)
      refine⟨(h1.mono (by omega) (by simp only[List.length_cons];omega)).cons (.inr ⟨rfl,.inl ⟨n,rfl,Nat.le_refl _,by simp only[List.length_cons];omega⟩⟩),fun o ho=>?_⟩
      rcases List.mem_cons.1 ho with rfl | ho
      ·exact⟨e,rfl,of_decide_eq_true hz⟩
      ·exact h2 o ho
def UppedOb (a b:Nat):Ob→Ob→Prop
 | .var t cs,o=>∃ cs',o=.var t cs'∧Upped a b cs cs'
 | o,o'=>o'=o
theorem UppedOb.mono {a b a' b':Nat} {o o':Ob} (h:UppedOb a b o o') (ha:a'≤a) (hb:b≤b'):UppedOb a' b' o o':=by
 cases o with
 | var t cs=>obtain⟨cs',h1,h2⟩:=h;exact⟨cs',h1,h2.mono ha hb⟩
 | row _ _ _=>exact h
 | arr _ _=>exact h
 | stk _ _ _ _=>exact h
 | mp _ _ _=>exact h
 | mpo _ _=>exact h
theorem Abd {z:Nat→Bool}:∀ (l:List Ob) (n:Nat),(Dq P z n l).1.length=l.length∧(∀ (i:Nat) o',(Dq P z n l).1[i]?=some o'→∃ o,l[i]?=some o∧UppedOb n (n+(Dq P z n l).2.length) o o')∧Zd P (Dq P z n l).2:=by
 intro l
 induction l with
 | nil=>intro n;exact⟨rfl,fun i o h=>by simp[Dq] at h,fun o h=>by simp[Dq] at h⟩
 | cons o l ih =>
  intro n
  have other:Dq P z n (o :: l)=(o :: (Dq P z n l).1,(Dq P z n l).2)→UppedOb n (n+(Dq P z n (o :: l)).2.length) o o→(Dq P z n (o :: l)).1.length=(o :: l).length∧(∀ (i:Nat) o',(Dq P z n (o :: l)).1[i]?=some o'→∃ q,(o :: l)[i]?=some q∧UppedOb n (n+(Dq P z n (o :: l)).2.length) q o')∧Zd P (Dq P z n (o :: l)).2:=fun h hu=>by
   rw[h] at hu ⊢
   obtain⟨h1,h2,h3⟩:=ih n
   refine⟨by simp[h1],fun i o' ho=>?_,h3⟩
   cases i with
   | zero=>simp at ho;subst ho;exact⟨_,rfl,hu⟩
   | succ i=>exact h2 i o' (by simpa using ho)
  cases o with
  | row _ _ _=>exact other rfl rfl
  | arr _ _=>exact other rfl rfl
  | stk _ _ _ _=>exact other rfl rfl
  | mp _ _ _=>exact other rfl rfl
  | mpo _ _=>exact other rfl rfl
  | var t cs =>
   obtain⟨c1,c2⟩:=A77 (P:=P) (z:=z) (Gk P 6 t) cs n
   obtain⟨h1,h2,h3⟩:=ih (n+(Ca P z n (Gk P 6 t) cs).2.length)
   refine⟨by simp[Dq,h1],fun i o' ho=>?_,fun o ho=>?_⟩
   ·cases i with
    | zero =>
     simp[Dq] at ho;subst ho
     exact⟨_,rfl,_,rfl,c1.mono (Nat.le_refl _) (by simp[Dq])⟩
    | succ i =>
     obtain⟨q,e1,e2⟩:=h2 i o' (by simpa [Dq] using ho)
     exact⟨q,e1,e2.mono (by omega) (by simp[Dq];omega)⟩
   ·simp only[Dq] at ho
    rcases List.mem_append.1 ho with ho | ho
    ·exact c2 o ho
    ·exact h3 o ho
theorem Xi {base:Nat} {S:Nat→Nat→Prop} {w:World} {hp:Hp} {φ:List Pl} (z:Nat→Bool) (b:Bool) (hs:Sim P base S w hp φ):∃ φ',Sim P base S w (Qb P z b hp) φ'∧Trans base S w hp φ S w (Qb P z b hp) φ':=by
 cases b with
 | false=>exact⟨φ,hs,.refl _ _ _ _ _⟩
 | true =>
  obtain⟨h1,h2,h3⟩:=Abd (P:=P) (z:=z) hp hp.length
  simp only[Qb]
  generalize (Dq P z hp.length hp).1=L1 at *
  generalize (Dq P z hp.length hp).2=L2 at *
  refine⟨φ++L2.map fun _=>.sv (.slice none 0 0),?_⟩
  have hφl:=hs.len
  have old:∀ id o',id < hp.length→(L1++L2)[id]?=some o'→∃ o,hp[id]?=some o∧UppedOb hp.length (hp.length+L2.length) o o':=fun id o' hid ho=>by
   rw[List.getElem?_append_left (by omega)] at ho
   exact h2 id o' ho
  have new:∀ id,hp.length≤id→id < hp.length+L2.length→∃ e,(L1++L2)[id]?=some (.row e (P.cellsOf e) [])∧0 < P.cellsOf e∧(φ++L2.map fun _=>Pl.sv (.slice none 0 0))[id]?=some (.sv (.slice none 0 0)):=fun id i1 i2=>by
   have hlt:id - hp.length < L2.length:=by omega
   obtain⟨e,e1,e2⟩:=h3 L2[id - hp.length] (List.getElem_mem hlt)
   refine⟨e,?_,e2,?_⟩
   ·rw[List.getElem?_append_right (by omega),h1,A6 hlt,e1]
   ·rw[List.getElem?_append_right (by omega),hφl,List.getElem?_map,A6 hlt];rfl
  have hφold:∀ id,id < hp.length→(φ++L2.map fun _=>Pl.sv (.slice none 0 0))[id]?=φ[id]?:=fun id hid=>List.getElem?_append_left (by omega)
  have same:∀ id o,hp[id]?=some o→(∀ t cs,o≠Ob.var t cs)→(L1++L2)[id]?=some o:=fun id o ho hne=>by
   have hid:=nth?_lt ho
   obtain⟨o',ho'⟩:∃ o',(L1++L2)[id]?=some o':=⟨_,A6 (by simp;omega)⟩
   obtain⟨q,e1,e2⟩:=old id o' hid ho'
   rw[ho] at e1;cases e1
   cases o with
   | var t cs=>exact absurd rfl (hne t cs)
   | row _ _ _=>rw[ho',show o'=_ from e2]
   | arr _ _=>rw[ho',show o'=_ from e2]
   | stk _ _ _ _=>rw[ho',show o'=_ from e2]
   | mp _ _ _=>rw[ho',show o'=_ from e2]
   | mpo _ _=>rw[ho',show o'=_ from e2]
  have hE:HpExt hp φ (L1++L2) (φ++L2.map fun _=>.sv (.slice none 0 0)):=by
   refine⟨fun id p hp' h=>?_,fun id size els h=>⟨els,?_,rfl⟩,fun id e size els h=>⟨[],?_,fun _ v hv=>?_⟩,fun id ver e size els h=>⟨ver,els,?_,Nat.le_refl _,fun _=>⟨rfl,?_⟩⟩⟩
   ·rw[hφold id (by have:=nth?_lt h;omega)];exact h
   ·rw[nth?_eq] at h ⊢;exact same id _ h (fun _ _ e=>by cases e)
   ·rw[nth?_eq] at h ⊢;rw[List.append_nil];exact same id _ h (fun _ _ e=>by cases e)
   ·rw[hφold id (by have:=nth?_lt hv;omega)];exact hv
   ·rw[nth?_eq] at h ⊢;exact same id _ h (fun _ _ e=>by cases e)
   ·rw[nth?_eq] at h;exact hφold id (by have:=nth?_lt h;omega)
  have hat:∀ i b,Af (φ++L2.map fun _=>Pl.sv (.slice none 0 0)) i=some b→Af φ i=some b:=by
   intro i b h
   unfold Af at h ⊢
   rcases Nat.lt_or_ge i hp.length with hi | hi
   ·rw[hφold i hi] at h;exact h
   ·rw[List.getElem?_append_right (by omega),List.getElem?_map] at h
    cases hL:L2[i - φ.length]? with
    | none=>rw[hL] at h;simp at h
    | some q=>rw[hL] at h;simp[Value.ownBlock] at h
  refine⟨⟨by simp[hφl,h1],hs.low,hs.cell,fun id o' ho=>?_,fun i j b hi hj=>hs.apart i j b (hat i b hi) (hat j b hj)⟩,⟨.refl _ _,hE,.refl _ _,fun _ _ h=>.inl h,fun _ _ h=>.inl h,fun i b h=>.inl ⟨i,hat i b h⟩,fun _ _=>rfl⟩⟩
  rcases Nat.lt_or_ge id hp.length with hid | hid
  ·obtain⟨o,e1,e2⟩:=old id o' hid ho
   have hok:=(hs.obj id o e1).keep (S':=S) (w':=w) (.refl _ _) hE (hφold id hid) fun b hb=>⟨rfl,fun _=>.rfl⟩
   cases o with
   | row _ _ _=>rw[show o'=_ from e2];exact hok
   | arr _ _=>rw[show o'=_ from e2];exact hok
   | stk _ _ _ _=>rw[show o'=_ from e2];exact hok
   | mp _ _ _=>rw[show o'=_ from e2];exact hok
   | mpo _ _=>rw[show o'=_ from e2];exact hok
   | var t cs =>
    obtain⟨cs',rfl,hu⟩:=e2
    obtain⟨b,vs,E,g1,g2,g3,g4,g5,g6⟩:=hok
    refine⟨b,vs,E,g1,g2,g3,Reps.of (by rw[hu.1,g4.length]) (fun i x v hx hv=>?_),g5,g6⟩
    rcases hu.2 i x hx with hx' | ⟨hx',⟨rid,rfl,r1,r2⟩ | ⟨sz,rfl⟩⟩
    ·obtain⟨v',e1,e2⟩:=g4.get' hx'
     rw[hv] at e1;cases e1
     exact e2
    ·obtain⟨v',e1,e2⟩:=g4.get' hx'
     rw[hv] at e1;cases e1
     have:=e2.nils_inv
     subst this
     obtain⟨e,n1,n2,n3⟩:=new rid r1 r2
     exact .row _ _ rid 0 _ e (P.cellsOf e) [] (by rw[nth?_eq];exact n1) (Nat.le_refl _) (.sl _ _ _ [] [] none 0 .nil ⟨by simp,fun j vs t u hj=>by simp at hj⟩ ⟨Nat.le_refl _,by unfold maxLen;omega,fun _=>rfl⟩) fun _=>n3
    ·obtain⟨v',e1,e2⟩:=g4.get' hx'
     rw[hv] at e1;cases e1
     have:=e2.nils_inv
     subst this
     exact Rep.sl _ _ sz [] [] none 0 .nil ⟨by simp,fun j vs t x h2 h3=>by simp at h2⟩ ⟨Nat.le_refl _,by decide,fun _=>rfl⟩
  ·obtain⟨e,n1,n2,n3⟩:=new id hid (by have:=nth?_lt ho;simp at this;omega)
   rw[ho] at n1;cases n1
   exact⟨.slice none 0 0,[],n3,World.ownsRow_nil w base e _,.nil,by simp,n2,rfl,fun g hg=>by simp[Value.ownBlock] at hg⟩
end
end Go.Proofs.YtfabdppicogkmaaGreat
end
