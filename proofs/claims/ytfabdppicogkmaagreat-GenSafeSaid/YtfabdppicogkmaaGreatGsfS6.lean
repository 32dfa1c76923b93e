/- Parts of the proofs: what they lean on. Conditions: none. -/
import Derived.LoopN
import Derived.Scope
import Derived.Test.YtfabdppicogkmaaGreatGsfS5
section
namespace Go.Proofs.YtfabdppicogkmaaGreat
open Go.RowKit
set_option linter.unusedVariables false
set_option linter.unusedSimpArgs false
def Ajd:Ex→Exit
 | .normal=>.normal
 | .exit id=>.exit id
 | .ret=>.ret
def F5 (H:Bv) (f:FuncId):Code→Bool
 | .region id ops draw=>Vp H f id ops draw
 | .seq a b=>F5 H f a&&F5 H f b
 | .cond _ a b=>F5 H f a&&F5 H f b
 | .block _ b=>F5 H f b
 | .loop b=>F5 H f b
 | .scope b=>F5 H f b
 | _=>true
section
variable {P:Program} {H:Bv} {call:Bp} {f:FuncId} {base fuel:Nat} {ρ:Type}
def At7 (P:Program) (base:Nat) (Q:Exit→Act→World→Prop) (K:Ex→Tm→Hp→Option ρ) (r:ρ) (S0:Nat→Nat→Prop) (w0:World) (hp0:Hp) (φ0:List Pl) (a:Act):Prop :=
 ∀ e tm' hp' S' φ' a' w',K e tm' hp'=some r→Reps S' w' hp' φ' tm' a'.tmps.toList→Sim P base S' w' hp' φ'→Trans base S0 w0 hp0 φ0 S' w' hp' φ'→a'.defers=a.defers→Q (Ajd e) a' w'
theorem Trans.le {S0:Nat→Nat→Prop} {w0:World} {hp0:Hp} {φ0:List Pl} {S:Nat→Nat→Prop} {w:World} {hp:Hp} {φ:List Pl} (h:Trans base S0 w0 hp0 φ0 S w hp φ) (h0:Sim P base S0 w0 hp0 φ0) (hs:Sim P base S w hp φ):hp0.length≤hp.length:=by
 refine Nat.le_of_not_lt fun hlt=>?_
 have hn:hp[hp.length]?=none:=List.getElem?_eq_none (Nat.le_refl _)
 have hφ:∀ p,φ[hp.length]?≠some p:=fun p hp'=>by
  rw[List.getElem?_eq_none (by rw[hs.len];exact Nat.le_refl _)] at hp';cases hp'
 have ho:=A6 hlt
 have hk:=h0.obj _ _ ho
 generalize hp0[hp.length]'hlt=o at ho hk
 cases o with
 | var t cs=>obtain⟨b,vs,E,g1,_⟩:=hk;exact hφ _ (h.hp.blk _ _ rfl g1)
 | arr size els =>
  obtain⟨els',g1,_⟩:=h.hp.arr _ _ _ ((nth?_eq _ _).trans ho)
  rw[nth?_eq,hn] at g1;cases g1
 | row e size els =>
  obtain⟨els',g1,_⟩:=h.hp.row _ _ _ _ ((nth?_eq _ _).trans ho)
  rw[nth?_eq,hn] at g1;cases g1
 | stk ver e size els =>
  obtain⟨ver',els',g1,_⟩:=h.hp.stk _ _ _ _ _ ((nth?_eq _ _).trans ho)
  rw[nth?_eq,hn] at g1;cases g1
 | mp kd frz els=>obtain⟨b,vss,es,g1,_⟩:=hk;exact hφ _ (h.hp.blk _ _ rfl g1)
 | mpo kd els=>obtain⟨b,vss,es,g1,_⟩:=hk;exact hφ _ (h.hp.blk _ _ rfl g1)
theorem ObOk.sw {S:Nat→Nat→Prop} {w:World} {hp:Hp} {φ:List Pl} {hp':Hp} {φ':List Pl} {q:Nat→Option Nat} (hq:Np hp φ hp' φ' q) {id k:Nat} (hφ:φ'[k]?=φ[id]?) {o:Ob} (h:ObOk P base S w hp φ id o):ObOk P base S w hp' φ' k (Xh q o):=by
 cases o with
 | var t cs =>
  obtain⟨b,vs,E,g1,g2,g3,g4,g5,g6⟩:=h
  exact⟨b,vs,E,hφ.trans g1,g2,g3,Gz (fun a v h=>Mb hq h) g4,g5,g6⟩
 | _=>exact ObOk.ren hq hφ h
def swN (k i x:Nat):Nat:=if x=k then i else if x=i then k else x
theorem Zn (k i x:Nat):swN k i (swN k i x)=x:=by
 unfold swN;repeat (split<;>try omega)
theorem Apr {k i x y:Nat} (h:swN k i x=swN k i y):x=y:=by rw[← Zn k i x,h,Zn]
theorem Ah0 (k i x:Nat):swp k i x=some (swN k i x):=by
 unfold swp swN
 by_cases h1:x=k
 ·subst h1;rw[show Nat.beq x x=true from by simp,if_pos rfl]
 ·rw[show Nat.beq x k=false from by cases hb:Nat.beq x k with | true=>exact absurd (Nat.eq_of_beq_eq_true hb) h1 | false=>rfl,if_neg h1]
  by_cases h2:x=i
  ·subst h2;rw[show Nat.beq x x=true from by simp,if_pos rfl]
  ·rw[show Nat.beq x i=false from by cases hb:Nat.beq x i with | true=>exact absurd (Nat.eq_of_beq_eq_true hb) h2 | false=>rfl,if_neg h2]
theorem Ac7 {α:Type} {l:List α} {k i:Nat} {a b:α} (ha:l[k]?=some a) (hb:l[i]?=some b) (j:Nat):((l.set k b).set i a)[j]?=l[swN k i j]?:=by
 have hk:k < l.length:=by rcases Nat.lt_or_ge k l.length with h | h;exact h;rw[List.getElem?_eq_none h] at ha;cases ha
 have hi:i < l.length:=by rcases Nat.lt_or_ge i l.length with h | h;exact h;rw[List.getElem?_eq_none h] at hb;cases hb
 rw[List.getElem?_set,List.getElem?_set,List.length_set]
 unfold swN
 by_cases h1:i=j
 ·subst h1
  rw[if_pos rfl,if_pos hi]
  by_cases h2:i=k
  ·subst h2;rw[if_pos rfl,hb];rw[ha] at hb;exact hb
  ·rw[if_neg h2,if_pos rfl,ha]
 ·rw[if_neg h1]
  by_cases h2:k=j
  ·subst h2;rw[if_pos rfl,if_pos hk,if_pos rfl,hb]
  ·rw[if_neg h2,if_neg (fun h=>h2 h.symm),if_neg (fun h=>h1 h.symm)]
theorem Aff {S0:Nat→Nat→Prop} {w0:World} {hp0:Hp} {φ0:List Pl} {S:Nat→Nat→Prop} {w:World} {hp:Hp} {φ:List Pl} (h0:Sim P base S0 w0 hp0 φ0) (hs:Sim P base S w hp φ) (T0:Trans base S0 w0 hp0 φ0 S w hp φ) {k i:Nat} (hk:hp0.length≤k) (hki:k < i) {a b:Ob} (ha:nth? hp k=some a) (hb:nth? hp i=some b) :
 ∃ φ',Sim P base S w ((Bq (Bq hp k b) i a).map (Xh (swp k i))) φ'∧Trans base S0 w0 hp0 φ0 S w ((Bq (Bq hp k b) i a).map (Xh (swp k i))) φ'∧Np hp φ ((Bq (Bq hp k b) i a).map (Xh (swp k i))) φ' (swp k i):=by
 rw[nth?_eq] at ha hb
 have hk':k < hp.length:=by rcases Nat.lt_or_ge k hp.length with h | h;exact h;rw[List.getElem?_eq_none h] at ha;cases ha
 have hi':i < hp.length:=by rcases Nat.lt_or_ge i hp.length with h | h;exact h;rw[List.getElem?_eq_none h] at hb;cases hb
 obtain⟨pa,hpa⟩:∃ p,φ[k]?=some p:=⟨_,A6 (by rw[hs.len];exact hk')⟩
 obtain⟨pb,hpb⟩:∃ p,φ[i]?=some p:=⟨_,A6 (by rw[hs.len];exact hi')⟩
 rw[B8,B8]
 have hat:∀ j,(((hp.set k b).set i a).map (Xh (swp k i)))[j]?=(hp[swN k i j]?).map (Xh (swp k i)):=fun j=>by
  rw[List.getElem?_map,Ac7 ha hb]
 have hpl:∀ j,((φ.set k pb).set i pa)[j]?=φ[swN k i j]?:=Ac7 hpa hpb
 generalize hq:swp k i=q at *
 generalize hhp':((hp.set k b).set i a).map (Xh q)=hp' at *
 generalize hφ':(φ.set k pb).set i pa=φ' at *
 have hlo:∀ id,id < hp0.length→swN k i id=id:=fun id hid=>by unfold swN;rw[if_neg (by omega),if_neg (by omega)]
 have hren:Np hp φ hp' φ' q:=by
  refine⟨fun id k' h=>?_,fun id k' o h ho hsm=>?_⟩
  ·rw[← hq,Ah0] at h;cases h;rw[hpl,Zn]
  ·rw[← hq,Ah0] at h;cases h
   rw[nth?_eq] at ho ⊢
   rw[hat,Zn,ho]
   cases o<;>first | rfl | cases hsm
 have hblk:∀ j,Af φ' j=Af φ (swN k i j):=fun j=>by unfold Af;rw[hpl]
 have hnth:∀ id o,id < hp0.length→nth? hp id=some o→Agv o=true→nth? hp' id=some o:=fun id o hid ho hsm=>by
  rw[nth?_eq] at ho ⊢
  rw[hat,hlo id hid,ho]
  cases o<;>first | rfl | cases hsm
 have hlt0:∀ {id:Nat} {o:Ob},nth? hp0 id=some o→id < hp0.length:=fun {id o} h=>by
  rw[nth?_eq] at h
  rcases Nat.lt_or_ge id hp0.length with h' | h'
  ·exact h'
  ·rw[List.getElem?_eq_none h'] at h;cases h
 have hE:HpExt hp0 φ0 hp' φ':=by
  refine⟨fun id p h1 h2=>?_,fun id size els h=>?_,fun id e size els h=>?_,fun id ver e size els h=>?_⟩
  ·have hid:id < hp0.length:=by
    rw[← h0.len]
    rcases Nat.lt_or_ge id φ0.length with h' | h'
    ·exact h'
    ·rw[List.getElem?_eq_none h'] at h2;cases h2
   rw[hpl,hlo id hid];exact T0.hp.blk id p h1 h2
  ·obtain⟨els',g1,g2⟩:=T0.hp.arr id size els h
   exact⟨els',hnth _ _ (hlt0 h) g1 rfl,g2⟩
  ·obtain⟨more,g1,g2⟩:=T0.hp.row id e size els h
   exact⟨more,hnth _ _ (hlt0 h) g1 rfl,fun hm v hv=>by rw[hpl,hlo id (hlt0 h)];exact g2 hm v hv⟩
  ·obtain⟨ver',els',g1,g2,g3⟩:=T0.hp.stk id ver e size els h
   exact⟨ver',els',hnth _ _ (hlt0 h) g1 rfl,g2,fun hv=>by rw[hpl,hlo id (hlt0 h)];exact g3 hv⟩
 refine⟨φ',⟨?_,hs.low,hs.cell,fun id o ho=>?_,fun x y g hx hy=>?_⟩,⟨T0.s,hE,T0.below,T0.new,T0.mine,fun j g hj=>T0.fr _ g (by rw[← hblk];exact hj),T0.keep⟩,hren⟩
 ·rw[← hφ',← hhp',List.length_set,List.length_set,A5,List.length_set,List.length_set];exact hs.len
 ·rw[hat] at ho
  cases ho':hp[swN k i id]? with
  | none=>rw[ho'] at ho;cases ho
  | some o' =>
   rw[ho'] at ho
   rw[← Option.some.inj ho]
   exact(hs.obj _ o' ho').sw hren (hpl id)
 ·rw[hblk] at hx hy
  exact Apr (hs.apart _ _ g hx hy)
theorem Akg {S0:Nat→Nat→Prop} {w0:World} {hp0:Hp} {φ0:List Pl} {S:Nat→Nat→Prop} {w:World} {hp:Hp} {φ:List Pl} (h0:Sim P base S0 w0 hp0 φ0) (hs:Sim P base S w hp φ) (T0:Trans base S0 w0 hp0 φ0 S w hp φ) {tm0 tm:Tm} {K:Tm→Hp→Option ρ} {r:ρ} {vs:List Value} (ht:Reps S w hp φ tm vs) {l:List Nat} (h:swR hp0.length tm0 K tm hp l=some r) :
 ∃ tm' hp' φ',K tm' hp'=some r∧Reps S w hp' φ' tm' vs∧Sim P base S w hp' φ'∧Trans base S0 w0 hp0 φ0 S w hp' φ':=by
 cases l with
 | nil=>exact⟨tm,hp,φ,h,ht,hs,T0⟩
 | cons s l =>
  simp only[swR] at h
  split at h<;>first | (cases h;done) | skip
  rename_i k _ _
  split at h<;>first | (cases h;done) | skip
  rename_i i _ _
  split at h<;>first | (cases h;done) | skip
  rename_i hc
  simp only[A8,Ai] at hc
  split at h<;>first | (cases h;done) | skip
  rename_i a ha
  split at h<;>first | (cases h;done) | skip
  rename_i b hb
  obtain⟨φ',g1,g2,g3⟩:=Aff h0 hs T0 hc.1 hc.2 ha hb
  rw[Dp Q4,B2] at h
  exact⟨_,_,φ',h,Gz (fun a v h=>A0w g3 h) ht,g1,g2⟩
theorem Sb (hm:P.follows .mixedOrders=true) (hH:My P H) (hc:Fy P H call) {S0:Nat→Nat→Prop} {w0:World} {hp0:Hp} {φ0:List Pl} (h0:Sim P base S0 w0 hp0 φ0):∀ (c:Code),F5 H f c=true→∀ {r:ρ} {K:Ex→Tm→Hp→Option ρ} {Q:Exit→Act→World→Prop} {S:Nat→Nat→Prop} {w:World} {tm:Tm} {hp:Hp} {φ:List Pl} {a:Act},Trans base S0 w0 hp0 φ0 S w hp φ→Sim P base S w hp φ→Reps S w hp φ tm a.tmps.toList→O0 P H call f fuel hp0.length c tm hp K=some r→At7 P base Q K r S0 w0 hp0 φ0 a→c.wp P Q a w:=by
 intro c
 induction c with
 | skip=>intro _ r K Q S w tm hp φ a T0 hs ht h hn;exact wp_skip (hn .normal _ _ _ _ _ _ h ht hs T0 rfl)
 | region id ops draw =>
  intro hd r K Q S w tm hp φ a T0 hs ht h hn
  rw[Ab3] at h
  split at h
  ·rw[Ac9] at h
   refine Y8 hm hH hc (by simpa [F5] using hd) hs ht h fun tm' hp' S' φ' a' w' g1 g2 g3 g4 g5=>?_
   obtain⟨tm2,hp2,φ2,k1,k2,k3,k4⟩:=Akg h0 g3 (T0.trans g4) g2 g1
   exact hn .normal _ _ _ _ _ _ k1 k2 k3 k4 g5
  ·rw[Amd,Ac9] at h
   refine Y8 hm hH hc (by simpa [F5] using hd) hs ht h fun tm' hp' S' φ' a' w' g1 g2 g3 g4 g5=>?_
   rw[Dp Q4] at g1
   exact hn .normal _ _ _ _ _ _ g1 (A36 0 g2) g3 (T0.trans g4) g5
 | seq x y ihx ihy =>
  intro hd r K Q S w tm hp φ a T0 hs ht h hn
  simp only[F5,A8] at hd
  refine wp_seq (ihx hd.1 T0 hs ht h fun e tm' hp' S' φ' a' w' g1 g2 g3 g4 g5=>?_)
  cases e with
  | normal=>exact ihy hd.2 g4 g3 g2 g1 fun e tm'' hp'' S'' φ'' a'' w'' k1 k2 k3 k4 k5=>hn e _ _ _ _ _ _ k1 k2 k3 k4 (k5.trans g5)
  | exit id=>exact hn (.exit id) _ _ _ _ _ _ g1 g2 g3 g4 g5
  | ret=>exact hn .ret _ _ _ _ _ _ g1 g2 g3 g4 g5
 | cond x y z ihy ihz =>
  intro hd r K Q S w tm hp φ a T0 hs ht h hn
  simp only[F5,A8] at hd
  rw[Aid] at h
  have hx:=A8d ht x
  cases hb:ev tm x<;>rw[hb] at h<;>simp only at h<;>first | (cases h;done) | skip
  rename_i t
  rw[hb] at hx
  have hbe:=hx.bool_inv
  cases t with
  | true=>exact wp_cond_true hbe (ihy hd.1 T0 hs ht h hn)
  | false=>exact wp_cond_false hbe (ihz hd.2 T0 hs ht h hn)
 | block id y ih =>
  intro hd r K Q S w tm hp φ a T0 hs ht h hn
  simp only[F5] at hd
  refine wp_block (ih hd T0 hs ht h fun e tm' hp' S' φ' a' w' g1 g2 g3 g4 g5=>?_)
  cases e with
  | normal=>exact hn .normal _ _ _ _ _ _ g1 g2 g3 g4 g5
  | ret=>exact hn .ret _ _ _ _ _ _ g1 g2 g3 g4 g5
  | exit k =>
   simp only at g1
   simp only[Ajd,Exit.inBlock]
   by_cases hk:k=id
   ·rw[decide_eq_true hk] at g1
    rw[if_pos hk]
    exact hn .normal _ _ _ _ _ _ g1 g2 g3 g4 g5
   ·rw[decide_eq_false hk] at g1
    rw[if_neg hk]
    exact hn (.exit k) _ _ _ _ _ _ g1 g2 g3 g4 g5
 | loop y ih =>
  intro hd r K Q S w tm hp φ a T0 hs ht h hn
  simp only[F5] at hd
  rw[Ahe] at h
  simp only[B2,Dp Q4] at h
  obtain⟨φ1,hs1,tr1⟩:=Xi (H.upz f) (H.ups f) hs
  generalize hhp1:Qb P (H.upz f) (H.ups f) hp=hp1 at *
  have hle:hp0.length≤hp1.length∧φ0.length=hp0.length:=⟨(T0.trans tr1).le h0 hs1,h0.len⟩
  have ht1:=Reps.mono tr1.s ht tr1.hp
  have ht2:=A3h (h0:=hp1.length) (keep:=H.keep f (O3 y) 0) hs1 ht1 0
  have hs2:=hs1.wane (h0:=hp1.length)
  have tr2:=(T0.trans tr1).wane (h0:=hp1.length) hs1 hle.1 hle.2
  have key:∀ (n:Nat) (S1:Nat→Nat→Prop) (w1:World) (tm1:Tm) (hp2:Hp) (φ2:List Pl) (a1:Act),Sim P base S1 w1 hp2 φ2→Reps S1 w1 hp2 φ2 tm1 a1.tmps.toList→Trans base S0 w0 hp0 φ0 S1 w1 hp2 φ2→a1.defers=a.defers→rounds (O0 P H call f fuel hp0.length y) (H.keep f (O3 y)) hp1.length n tm1 hp2 K=some r→Code.rounds P y Q n a1 w1:=by
   intro n
   induction n with
   | zero=>intro S1 w1 tm1 hp2 φ2 a1 _ _ _ _ h;simp[rounds] at h
   | succ n ihn =>
    intro S1 w1 tm1 hp2 φ2 a1 k1 k2 k3 k4 h
    rw[rounds_succ]
    rw[rounds] at h
    refine ih hd k3 k1 k2 h fun e tm' hp' S' φ' a' w' g1 g2 g3 g4 g5=>?_
    simp only[B2,Dp Q4] at g1
    have t1:=A3h (h0:=hp1.length) (keep:=H.keep f (O3 y) (A1s e)) g3 g2 0
    have t2:=g3.wane (h0:=hp1.length)
    have t3:=g4.wane (h0:=hp1.length) g3 hle.1 hle.2
    cases e with
    | normal=>exact ihn _ _ _ _ _ a' t2 t1 t3 (g5.trans k4) g1
    | exit id=>exact hn (.exit id) _ _ _ _ _ _ g1 t1 t2 t3 (g5.trans k4)
    | ret=>exact hn .ret _ _ _ _ _ _ g1 t1 t2 t3 (g5.trans k4)
  exact wp_loop_rounds fuel (key fuel _ _ _ _ _ a hs2 ht2 tr2 rfl h)
 | scope y ih =>
  intro hd r K Q S w tm hp φ a T0 hs ht h hn
  simp only[F5] at hd
  refine wp_scope_straight (ih hd T0 hs ht h fun e tm' hp' S' φ' a' w' g1 g2 g3 g4 g5=>?_)
  cases e<;>exact hn _ _ _ _ _ _ _ g1 g2 g3 g4 g5
 | label l=>intro _ r K Q S w tm hp φ a T0 hs ht h hn;exact wp_label (hn .normal _ _ _ _ _ _ h ht hs T0 rfl)
 | exit id=>intro _ r K Q S w tm hp φ a T0 hs ht h hn;exact wp_exit (hn (.exit id) _ _ _ _ _ _ h ht hs T0 rfl)
 | ret=>intro _ r K Q S w tm hp φ a T0 hs ht h hn;exact wp_ret (hn .ret _ _ _ _ _ _ h ht hs T0 rfl)
 | _=>intros;rename_i h _;cases h
def Yt (tmps:Array Value):ResultVar→Sem Value
 | .tmp t=>pure (tmps.getD t undef)
 | .cell a t=>do loadVar t (← asAddr (tmps.getD a undef))
theorem A3f {S:Nat→Nat→Prop} {w:World} {tm:Tm} {hp:Hp} {φ:List Pl} {tmps:Array Value} {r:ρ} (hs:Sim P base S w hp φ) (ht:Reps S w hp φ tm tmps.toList):∀ (rs:List ResultVar) (C:List AV→Option ρ),A3x P tm hp C rs=some r →
 ∃ vs us,C vs=some r∧(rs.mapM (Yt tmps)).run P w=.ok us w∧Reps S w hp φ vs us:=by
 have at':∀ t,Rep S w hp φ (nth .junk tm t) (tmps.getD t undef):=fun t=>A8d (a:=⟨tmps,[]⟩) ht (.tmp t)
 intro rs
 induction rs with
 | nil=>intro C h;exact⟨[],[],h,by simp,.nil _ _⟩
 | cons q rs ih =>
  intro C h
  cases q with
  | tmp t =>
   simp only[A3x] at h
   obtain⟨vs,us,h1,h2,h3⟩:=ih _ h
   refine⟨_,tmps.getD t undef :: us,h1,?_,.cons _ _ _ _ _ _ (at' t) h3⟩
   rw[List.mapM_cons]
   simp only[Yt,Sem.run_bind,Sem.run_pure,Result.andThen_ok,h2]
  | cell t ty =>
   simp only[A3x] at h
   obtain⟨ad,v,u,he,h1,h2,h3⟩:=A8v hs (at' t) h
   obtain⟨vs,us,g1,g2,g3⟩:=ih _ h1
   refine⟨_,u :: us,g1,?_,.cons _ _ _ _ _ _ h3 g3⟩
   rw[List.mapM_cons]
   simp only[Yt,he,asAddr,Sem.run_bind,Sem.run_pure,Result.andThen_ok,h2,g2]
def Ap5:List Value→Value
 | [u]=>u
 | us=>.tuple us.toArray
theorem A0e {fn:Func} {tmps:Array Value} {w:World} {us:List Value} (h:(fn.results.toList.mapM (Yt tmps)).run P w=.ok us w):(results fn tmps).run P w=.ok (Ap5 us) w:=by
 have e:results fn tmps=(do let vs ← fn.results.mapM (Yt tmps);pure (if h:vs.size=1 then vs[0] else .tuple vs)):=by
  unfold results
  congr 2
 rw[e,Array.mapM_eq_mapM_toList]
 simp only[Sem.run_bind,Sem.run_map,h,Result.andThen_ok,Sem.run_pure]
 congr 1
 match us with
 | []=>rfl
 | [u]=>rfl
 | u :: u2 :: us=>simp[Ap5]
theorem Sim.normed {S0:Nat→Nat→Prop} {w0:World} {hp0:Hp} {φ0:List Pl} {S:Nat→Nat→Prop} {w:World} {hp:Hp} {φ:List Pl} {v:AV} {u:Value} (hs:Sim P base S w hp φ) (ht:Trans base S0 w0 hp0 φ0 S w hp φ) (hv:Rep S w hp φ v u):Sim P base S w (hp.map (Nl P)) φ∧Trans base S0 w0 hp0 φ0 S w (hp.map (Nl P)) φ∧Rep S w (hp.map (Nl P)) φ v u:=by
 have hat:∀ id,(hp.map (Nl P))[id]?=(hp[id]?).map (Nl P):=fun id=>List.getElem?_map ..
 have hE:HpExt hp φ (hp.map (Nl P)) φ:=by
  refine⟨fun _ _ _ h=>h,fun id size els h=>⟨els,?_,rfl⟩,fun id e size els h=>⟨[],?_,fun _ v hv=>hv⟩,fun id ver e size els h=>⟨ver,els,?_,Nat.le_refl _,fun _=>⟨rfl,rfl⟩⟩⟩
  ·rw[nth?_eq] at h ⊢;rw[hat,h];rfl
  ·rw[nth?_eq] at h ⊢;rw[hat,h,List.append_nil];rfl
  ·rw[nth?_eq] at h ⊢;rw[hat,h];rfl
 refine⟨⟨by rw[A5];exact hs.len,hs.low,hs.cell,fun id o ho=>?_,hs.apart⟩,ht.trans ⟨.refl _ _,hE,.refl _ _,fun _ _ h=>.inl h,fun _ _ h=>.inl h,Ie,fun _ _=>rfl⟩,Rep.mono (.refl _ _) hv hE⟩
 rw[hat] at ho
 cases hq:hp[id]? with
 | none=>rw[hq] at ho;cases ho
 | some o' =>
  rw[hq] at ho
  rw[← Option.some.inj ho]
  have:=(hs.obj id o' hq).keep (S':=S) (w':=w) (.refl _ _) hE rfl fun b hb=>⟨rfl,fun _=>.rfl⟩
  cases o' with
  | var t cs =>
   obtain⟨b,vs,E,g1,g2,g3,g4,g5,g6⟩:=this
   exact⟨b,vs,E,g1,g2,g3,Of g4,g5,g6⟩
  | _=>exact this
theorem Amt (hm:P.follows .mixedOrders=true) (hH:My P H) (hc:Fy P H call) (hd:∀ g fn c,H.plain.contains g=true→P.funcs[g]?=some fn→fn.body=some c→F5 H g c=true) {g:FuncId} {args:List AV} {hp:Hp} {v:AV} {hp':Hp} {stay:Bool} (h:Zo P H call fuel stay g args hp=some (v,hp'))
 {S:Nat→Nat→Prop} {w:World} {φ:List Pl} {vs:List Value} (hs:Sim P base S w hp φ) (hr:Reps S w hp φ args vs):Calls P g vs.toArray w fun e w'=>∃ u S' φ',e=.returned u∧Rep S' w' hp' φ' v u∧Sim P base S' w' hp' φ'∧Trans base S w hp φ S' w' hp' φ':=by
 unfold Zo at h
 cases hf:P.funcs[g]? with
 | none=>rw[hf] at h;cases h
 | some fn =>
  rw[hf] at h
  simp only at h
  cases hb:fn.body with
  | none=>rw[hb] at h;cases h
  | some c =>
   rw[hb] at h
   simp only at h
   split at h
   ·rename_i hq
    simp only[A8,Ai] at hq
    refine calls_of_wp hf hb ?_
    have hlen:=hr.length
    have hund:∀ n,Reps S w hp φ (List.replicate n .junk) (List.replicate n undef):=by
     intro n
     induction n with
     | zero=>exact .nil _ _
     | succ n ih=>exact .cons _ _ _ _ _ _ (.junk _ _ _) ih
    refine Sb hm hH hc hs c (hd g fn c hq.1 hf hb) (a:=⟨vs.toArray++Array.replicate (fn.ntmps - vs.toArray.size) undef,[]⟩) (.refl _ _ _ _ _) hs ?_ h ?_
    ·simp only[Array.toList_append,Array.toList_replicate,List.size_toArray,← hlen]
     exact hr.append (hund _)
    ·intro e tm' hp1 S' φ' a' w' g1 g2 g3 g4 g5
     have fin:Wb P fn tm' hp1 (fun v=>A7q P stay hp.length v hp1)=some (v,hp')→a'.defers=[]∧∃ u,(results fn a'.tmps).run P w'=.ok u w'∧∃ u' S' φ',Ending.returned u=.returned u'∧Rep S' w' hp' φ' v u'∧Sim P base S' w' hp' φ'∧Trans base S w hp φ S' w' hp' φ':=by
      intro hres
      refine⟨g5,?_⟩
      obtain⟨as,us,r1,r2,r3⟩:=A3f g3 g2 fn.results.toList _ hres
      have fin2:∀ (x:AV) (u:Value),Rep S' w' hp1 φ' x u→(results fn a'.tmps).run P w'=.ok u w'→(A7q P stay hp.length x hp1)=some (v,hp')→∃ u,(results fn a'.tmps).run P w'=.ok u w'∧∃ u' S' φ',Ending.returned u=.returned u'∧Rep S' w' hp' φ' v u'∧Sim P base S' w' hp' φ'∧Trans base S w hp φ S' w' hp' φ':=by
       intro x u hx hrun he
       unfold A7q at he
       split at he
       ·cases he
        exact⟨u,hrun,u,_,_,rfl,hx,g3,g4⟩
       ·cases he
        obtain⟨n1,n2,n3⟩:=(g3.wane (h0:=hp.length)).normed (g4.wane g3 (Nat.le_refl _) hs.len) (A9f g3 hx)
        exact⟨u,hrun,u,_,_,rfl,n3,n1,n2⟩
      have hrun:=A0e r2
      clear r2
      match as,us,r1,r3,hrun with
      | [],[],r1,r3,hrun=>exact fin2 _ _ (.tup _ _ _ _ (H1 r3)) hrun r1
      | [x],[u],r1,r3,hrun=>cases r3 with | cons _ _ _ _ _ _ hx _=>exact fin2 _ _ (A12 hx) hrun r1
      | x :: y :: l,u :: u2 :: us,r1,r3,hrun=>exact fin2 _ _ (.tup _ _ _ _ (H1 r3)) hrun r1
     cases e with
     | exit id=>cases g1
     | normal=>exact fin g1
     | ret=>exact fin g1
   ·cases h
end
def I1 (P:Program) (X:Ext):Prop:=∀ (g:FuncId) (k:List AV→Option AV),X g=some k→∀ (args:List AV) (v:AV),k args=some v→∀ (S:Nat→Nat→Prop) (w:World) (vs:List Value),(∀ b o,S b o→∃ u,stay w b o=some u)→Reps S w [] [] args vs →
 Calls P g vs.toArray w fun e w'=>∃ u S',e=.returned u∧Rep S' w' [] [] v u∧(∀ b o,S' b o→∃ u,stay w' b o=some u∧(w.heap.size≤b→u.2.2=(0,0)))∧SExt S w S' w'∧(∀ b o,S' b o→S b o∨w.heap.size≤b)∧Below w.heap.size w w'
theorem A02 {P:Program} {H:Bv} {X:Ext} (hm:P.follows .mixedOrders=true) (hH:My P H) (hX:I1 P X) (hd:∀ g fn c,H.plain.contains g=true→P.funcs[g]?=some fn→fn.body=some c→F5 H g c=true):∀ n,Fy P H (Qk P H X n)
 | 0=>fun st g args hp v hp' h=>by simp[Qk] at h
 | n+1=>by
  have ih:=A02 hm hH hX hd n
  intro st g args hp v hp' h base S w φ vs hs hr
  simp only[Qk] at h
  cases hx:X g with
  | none =>
   rw[hx] at h
   exact Amt hm hH ih hd h hs hr
  | some k =>
   rw[hx] at h
   cases hp with
   | cons _ _=>cases h
   | nil =>
    simp only at h
    cases hk:k args with
    | none=>rw[hk] at h;cases h
    | some u =>
     rw[hk] at h;cases h
     have hφ:φ=[]:=List.eq_nil_of_length_eq_zero hs.len
     subst hφ
     refine(hX g k hx args v hk S w vs (fun b o h=>let ⟨u,hu,_⟩:=hs.cell b o h;⟨u,hu⟩) hr).mono ?_
     rintro e w' ⟨u,S',rfl,h1,h2,h3,h4,h5⟩
     exact⟨u,S',[],rfl,h1,⟨rfl,Nat.le_trans hs.low h5.size,fun b o h=>(by
      obtain⟨v,hv,hf⟩:=h2 b o h
      refine⟨v,hv,fun hb=>?_⟩
      rcases h4 b o h with h' | h'
      ·obtain⟨u,hu,hf'⟩:=hs.cell b o h'
       have:=(h3 b o h').2
       rw[hv,hu] at this
       cases this
       exact hf' hb
      ·exact hf h'),fun id o ho=>by simp at ho,fun i j b hi=>by simp[Af] at hi⟩,⟨h3,.refl _ _,h5.mono hs.low,fun b o h=>(h4 b o h).elim .inl fun h=>.inr (Nat.le_trans hs.low h),fun b o h=>(h4 b o h).elim .inl fun h=>.inr (.inr h),fun i b h=>by simp[Af] at h,fun b h=>h5.block b (Hz h).1⟩⟩
end Go.Proofs.YtfabdppicogkmaaGreat
end
