/- Parts of the proofs: what they lean on. Conditions: none. -/
import Derived.Test.YtfabdppicogkmaaGreatGsfS20
section
namespace Go.Proofs.YtfabdppicogkmaaGreat
open Go.RowKit
set_option linter.unusedVariables false
set_option maxRecDepth 100000
theorem Amn:I1 Tryz.prog X0:=Jo (List.forall_mem_cons.2 ⟨Et Hk Aph,A1c⟩)
theorem A24:∀ p ∈ Afp,Nn Tryz.prog p.1 p.2:=by
 unfold Afp
 refine List.forall_mem_cons.2 ⟨Et Hk As1,?_⟩
 refine List.forall_mem_cons.2 ⟨Et Amn Ask,?_⟩
 refine List.forall_mem_cons.2 ⟨Et Hk Asf,?_⟩
 refine List.forall_mem_cons.2 ⟨Et Hk Aqo,?_⟩
 refine List.forall_mem_cons.2 ⟨Et Hk Apb,?_⟩
 refine List.forall_mem_cons.2 ⟨Et Hk As4,?_⟩
 exact A1c
theorem A93:I1 Tryz.prog X1:=Jo A24
theorem Am6:I1 Tryz.prog X2:=Jo (List.forall_mem_cons.2 ⟨Et A93 Ali,A24⟩)
set_option linter.unusedSimpArgs false
def inB (n most:Int):Bool:=decide (0≤n∧n < most)
def A2h:List OpS→Int→Int→Int×Int
 | [],n,m=>(n,m)
 | x :: t,n,m =>
  if 1≤x.op∧x.op≤4 then A2h t (n+1) (max m (n+1))
  else if x.op=5∧1≤n then A2h t n (max m n)
  else if 6≤x.op∧x.op≤14∧2≤n then A2h t (n - 1) (max m (n - 1))
  else(-1,-1)
def Asj (l:List OpS):Int×Int:=A2h l 0 0
def At1 (regs:List Int) (own locs:Int) (x:OpS):Bool :=
 if x.op=1 then inB x.n 10000
 else if x.op=2 then inB x.n own
 else if x.op=3 then inB x.n locs
 else if x.op=4 then(match regs[x.t.toNat]? with | some m=>decide (0≤x.t)&&inB x.n m | none=>false)
 else true
def Aro (l:List OpS) (regs:List Int) (own locs:Int):Bool:=l.all (At1 regs own locs)&&decide ((Asj l).1=1)
structure Ap4 where
 reg:Bool
 loc:Bool
 e:Bool
 f:Bool
 ne:Bool
 goal:Bool
def Mz (op:Int):Option Ap4 :=
 if op=2 then some ⟨true,false,true,false,false,false⟩
 else if op=3 then some ⟨true,true,false,false,false,false⟩
 else if op=4 then some ⟨false,true,true,false,false,false⟩
 else if op=5 then some ⟨true,true,true,true,false,false⟩
 else if op=6 then some ⟨true,true,true,false,false,false⟩
 else if op=7 then some ⟨true,true,true,false,false,false⟩
 else if op=8 then some ⟨false,false,false,false,false,false⟩
 else if op=9 then some ⟨false,true,true,false,true,false⟩
 else if op=20 then some ⟨false,false,false,false,false,true⟩
 else if op=21 then some ⟨false,false,true,false,false,true⟩
 else none
def Sw (has:Bool) (n most:Int):Bool:=if has then inB n most else decide (n=0)
def Aoq (has:Bool) (l:List OpS) (regs:Int):Bool:=if has then Aro l [] regs 0 else l.isEmpty
def Zf (regs locs many:Int) (x:Ay):Bool:=match Mz x.op with
 | none=>false
 | some n=>(!x.ne || n.ne)&&Sw n.reg x.reg regs&&Sw n.loc x.loc locs&&Sw n.goal x.goal many&&Aoq n.e x.e regs&&Aoq n.f x.f regs
def Aie (x:Ay):Bool:=decide (x.op=22)&&decide (x.reg=0)&&decide (x.loc=0)&&decide (x.goal=0)&&!x.ne&&x.e.isEmpty&&x.f.isEmpty
def A35 (l:List Ay) (regs locs:Int):Bool :=
 decide (1≤l.length∧l.length≤1000)&&(match l[l.length - 1]? with | some x=>Aie x | none=>false)&&(List.range (l.length - 1)).all fun i=>match l[i]? with | some x=>Zf regs locs l.length x | none=>true
def Ap0 (l:List Int) (mod:Int):Bool:=l.all fun n=>inB n mod
def Wj (u:Ak) (t:Nat):Bool:=match u.regs[t]?,u.code[t]? with
 | some n,some r=>decide (0≤n∧n≤6)&&A35 r n u.init.length
 | _,_=>false
def A9v (u:Ak):Bool:=decide (2≤u.mod∧u.mod≤16∧u.init.length≤6∧1≤u.regs.length∧u.regs.length≤4∧u.code.length=u.regs.length)
def C7 (u:Ak):Bool:=A9v u&&Ap0 u.init u.mod&&(List.range u.regs.length).all (Wj u)
theorem As9 {u:Ak} (h:A9v u=false):C7 u=false:=by simp[C7,h]
theorem Uk {u:Ak} {t:Nat} (h1:t < u.regs.length) (h2:t < u.code.length):Wj u t=(decide (0≤u.regs[t]∧u.regs[t]≤6)&&A35 u.code[t] u.regs[t] u.init.length):=by
 simp only[Wj,A6 h1,A6 h2]
def Vv (r:List Ay):Bool:=decide (r.length≤200)&&r.all fun x=>decide (x.e.length≤300∧x.f.length≤300)
def G6 (u:Ak):Bool:=decide (u.init.length≤20∧u.regs.length≤20∧u.code.length≤8)&&u.code.all Vv
abbrev Ha:Nat:=1125899906842624
def Qq (a b:Nat):Nat:=min (a*b) Ha
def Pt (a n:Nat):Nat:=min (a ^ n) Ha
def A0q (a:Nat):Nat→Nat
 | 0=>0
 | k+1=>min (A0q a k+Pt a k) Ha
theorem Sd (x y:Nat):Qq (min x Ha) (min y Ha)=min (x*y) Ha:=by
 unfold Qq
 rcases Nat.le_total x Ha with hx | hx<;>rcases Nat.le_total y Ha with hy | hy
 ·rw[Nat.min_eq_left hx,Nat.min_eq_left hy]
 ·rw[Nat.min_eq_left hx,Nat.min_eq_right hy]
  cases x with
  | zero=>simp
  | succ x =>
   have h1:Ha≤(x+1)*Ha:=Nat.le_mul_of_pos_left _ (Nat.succ_pos x)
   have h2:Ha≤(x+1)*y:=Nat.le_trans hy (Nat.le_mul_of_pos_left _ (Nat.succ_pos x))
   rw[Nat.min_eq_right h1,Nat.min_eq_right h2]
 ·rw[Nat.min_eq_right hx,Nat.min_eq_left hy]
  cases y with
  | zero=>simp
  | succ y =>
   have h1:Ha≤Ha*(y+1):=Nat.le_mul_of_pos_right _ (Nat.succ_pos y)
   have h2:Ha≤x*(y+1):=Nat.le_trans hx (Nat.le_mul_of_pos_right _ (Nat.succ_pos y))
   rw[Nat.min_eq_right h1,Nat.min_eq_right h2]
 ·rw[Nat.min_eq_right hx,Nat.min_eq_right hy]
  have h1:Ha≤Ha*Ha:=Nat.le_mul_of_pos_left _ (by decide)
  have h2:Ha≤x*y:=Nat.le_trans hx (Nat.le_mul_of_pos_right _ (Nat.lt_of_lt_of_le (by decide) hy))
  rw[Nat.min_eq_right h1,Nat.min_eq_right h2]
theorem Ann (a n:Nat):Pt (min a Ha) n=Pt a n:=by
 induction n with
 | zero=>rfl
 | succ n ih =>
  have e:∀ b:Nat,Pt b (n+1)=Qq (Pt b n) (min b Ha):=fun b=>by unfold Pt;rw[Sd,Nat.pow_succ]
  rw[e,e,ih,Nat.min_eq_left (Nat.min_le_right a Ha)]
def Th (locs mod model room:Int):Nat :=
 if locs < 0∨6 < locs∨mod < 2∨16 < mod∨room < 1∨4 < room then 0
 else if model=1 then 1
 else if model=2 then A0q (locs*mod).toNat (room.toNat+1)
 else if model=3 then Pt (A0q mod.toNat (room.toNat+1)) locs.toNat
 else 0
def A4z (u:Ak) (t:Nat) (model room:Int):Nat:=match u.regs[t]?,u.code[t]? with
 | some n,some r=>Qq (Qq r.length (Pt u.mod.toNat n.toNat)) (Th u.init.length u.mod model room)
 | _,_=>0
def Zh (u:Ak) (model room:Int):Nat→Nat
 | 0=>Pt u.mod.toNat u.init.length
 | t+1=>Qq (Zh u model room t) (A4z u t model room)
def Z9 (locs mod room:Int):Prop:=0≤locs∧locs≤6∧2≤mod∧mod≤16∧1≤room∧room≤4
theorem Abq {locs mod room:Int} (h:Z9 locs mod room) (model:Int):Th locs mod model room =
 if model=1 then 1 else if model=2 then A0q (locs*mod).toNat (room.toNat+1) else if model=3 then Pt (A0q mod.toNat (room.toNat+1)) locs.toNat else 0:=by
 obtain⟨h1,h2,h3,h4,h5,h6⟩:=h
 unfold Th
 rw[if_neg (by omega)]
theorem Cc {u:Ak} (h:C7 u=true):2≤u.mod∧u.mod≤16∧u.init.length≤6∧1≤u.regs.length∧u.regs.length≤4∧u.code.length=u.regs.length:=by
 simp only[C7,A8,A9v,Ai] at h
 exact h.1.1
theorem Re {u:Ak} (h:C7 u=true) {t:Nat} (ht:t < u.regs.length):Wj u t=true:=by
 simp only[C7,A8,List.all_eq_true] at h
 exact h.2 t (by simpa using ht)
theorem Pe {u:Ak} (h:C7 u=true) {t:Nat} (h1:t < u.regs.length) (h2:t < u.code.length):0≤u.regs[t]∧u.regs[t]≤6∧1≤u.code[t].length∧u.code[t].length≤1000:=by
 have:=Re h h1
 rw[Uk h1 h2] at this
 simp only[A8,Ai,A35] at this
 exact⟨this.1.1,this.1.2,this.2.1.1.1,this.2.1.1.2⟩
theorem Aew {u:Ak} (h:C7 u=true) {room:Int} (hr:1≤room∧room≤4):Z9 u.init.length u.mod room:=by
 have:=Cc h
 unfold Z9
 omega
theorem Ag9 {u:Ak} {t:Nat} (h1:t < u.regs.length) (h2:t < u.code.length) (model room:Int):A4z u t model room=Qq (Qq u.code[t].length (Pt u.mod.toNat u.regs[t].toNat)) (Th u.init.length u.mod model room):=by
 simp only[A4z,A6 h1,A6 h2]
theorem A7y:∀ (P:Nat) (l:List Nat),l.Nodup→(∀ x ∈ l,x < P)→l.length≤P
 | 0,l,_,h=>by
  cases l with
  | nil=>exact Nat.le_refl _
  | cons a l=>exact absurd (h a (by simp)) (by omega)
 | P+1,l,hd,h=>by
  by_cases hm:P ∈ l
  ·have h1:=A7y P (l.erase P) (hd.erase P) (fun x hx=>by
    have h2:=h x (List.mem_of_mem_erase hx)
    have h3:x≠P:=fun e=>by
     subst e
     rw[hd.mem_erase_iff] at hx
     exact hx.1 rfl
    omega)
   rw[List.length_erase_of_mem hm] at h1
   omega
  ·have:=A7y P l hd (fun x hx=>by
    have h2:=h x hx
    have h3:x≠P:=fun e=>hm (e ▸ hx)
    omega)
   omega
theorem Apa {α:Type} (f:α→Nat) (P:Nat) (l:List α) (hd:l.Nodup) (hi:∀ x ∈ l,∀ y ∈ l,f x=f y→x=y) (h:∀ x ∈ l,f x < P):l.length≤P:=by
 have h1:(l.map f).Nodup:=by
  rw[List.nodup_iff_pairwise_ne,List.pairwise_map]
  rw[List.nodup_iff_pairwise_ne] at hd
  exact hd.imp_of_mem (fun ha hb hne e=>hne (hi _ ha _ hb e))
 have:=A7y P (l.map f) h1 (fun x hx=>by
  obtain⟨y,hy,rfl⟩:=List.mem_map.1 hx
  exact h y hy)
 simpa using this
def prN (a A b:Nat):Nat:=a+A*b
theorem Nh {a A b B:Nat} (h1:a < A) (h2:b < B):prN a A b < A*B:=by
 unfold prN
 have:A*(b+1)≤A*B:=Nat.mul_le_mul_left _ h2
 rw[Nat.mul_add,Nat.mul_one] at this
 omega
theorem Pw {a A b a' b':Nat} (h1:a < A) (h2:a' < A) (e:prN a A b=prN a' A b'):a=a'∧b=b':=by
 unfold prN at e
 have e1:(a+A*b) % A=a:=by rw[Nat.add_mul_mod_self_left,Nat.mod_eq_of_lt h1]
 have e2:(a'+A*b') % A=a':=by rw[Nat.add_mul_mod_self_left,Nat.mod_eq_of_lt h2]
 have e3:(a+A*b) / A=b:=by rw[Nat.add_mul_div_left _ _ (by omega),Nat.div_eq_of_lt h1,Nat.zero_add]
 have e4:(a'+A*b') / A=b':=by rw[Nat.add_mul_div_left _ _ (by omega),Nat.div_eq_of_lt h2,Nat.zero_add]
 rw[e] at e1 e3
 exact⟨e1.symm.trans e2,e3.symm.trans e4⟩
def Ue (m:Nat):List Nat→Nat
 | []=>0
 | d :: l=>prN d m (Ue m l)
theorem V3 {m:Nat}:∀ l:List Nat,(∀ d ∈ l,d < m)→Ue m l < m ^ l.length
 | [],_=>by simp[Ue]
 | d :: l,h=>by
  rw[Ue,List.length_cons,Nat.pow_succ,Nat.mul_comm]
  exact Nh (h d (by simp)) (V3 l (fun x hx=>h x (by simp[hx])))
theorem A9o {m:Nat}:∀ l l':List Nat,l.length=l'.length→(∀ d ∈ l,d < m)→(∀ d ∈ l',d < m)→Ue m l=Ue m l'→l=l'
 | [],[],_,_,_,_=>rfl
 | [],_ :: _,h,_,_,_=>by simp at h
 | _ :: _,[],h,_,_,_=>by simp at h
 | d :: l,d' :: l',h,h1,h2,e=>by
  obtain⟨e1,e2⟩:=Pw (h1 d (by simp)) (h2 d' (by simp)) e
  rw[e1,A9o l l' (by simpa using h) (fun x hx=>h1 x (by simp[hx])) (fun x hx=>h2 x (by simp[hx])) e2]
def P0 (a:Nat):List Nat→Nat
 | []=>0
 | d :: l=>1+prN d a (P0 a l)
def geo (a:Nat):Nat→Nat
 | 0=>0
 | k+1=>geo a k+a ^ k
theorem A10 (a:Nat):∀ k,geo a (k+1)=1+a*geo a k
 | 0=>by simp[geo]
 | k+1=>by
  show geo a (k+1)+a ^ (k+1)=1+a*(geo a k+a ^ k)
  rw[A10 a k,Nat.mul_add,Nat.pow_succ,Nat.mul_comm (a ^ k) a]
  omega
theorem Za {a:Nat}:∀ (l:List Nat) (k:Nat),l.length≤k→(∀ d ∈ l,d < a)→P0 a l < geo a (k+1)
 | [],k,_,_=>by rw[A10];simp[P0];omega
 | d :: l,0,h,_=>by simp at h
 | d :: l,k+1,h,hd=>by
  have h1:=Za l k (by simpa using h) (fun x hx=>hd x (by simp[hx]))
  rw[A10,P0]
  have:=Nh (hd d (by simp)) h1
  omega
theorem A0s {a:Nat}:∀ l l':List Nat,(∀ d ∈ l,d < a)→(∀ d ∈ l',d < a)→P0 a l=P0 a l'→l=l'
 | [],[],_,_,_=>rfl
 | [],_ :: _,_,_,e=>by simp only[P0] at e;omega
 | _ :: _,[],_,_,e=>by simp only[P0] at e;omega
 | d :: l,d' :: l',h1,h2,e=>by
  simp only[P0] at e
  obtain⟨e1,e2⟩:=Pw (h1 d (by simp)) (h2 d' (by simp)) (show prN d a (P0 a l)=prN d' a (P0 a l') by omega)
  rw[e1,A0s l l' (fun x hx=>h1 x (by simp[hx])) (fun x hx=>h2 x (by simp[hx])) e2]
def A0v (S:Nat) (f:Nat→Nat):Nat→Nat
 | 0=>0
 | k+1=>prN (A0v S f k) (S ^ k) (f k)
theorem Z3 {S:Nat} {f:Nat→Nat}:∀ k,(∀ i,i < k→f i < S)→A0v S f k < S ^ k
 | 0,_=>by simp[A0v]
 | k+1,h=>by
  rw[A0v,Nat.pow_succ]
  exact Nh (Z3 k fun i hi=>h i (by omega)) (h k (by omega))
theorem A8n {S:Nat} {f g:Nat→Nat}:∀ k,(∀ i,i < k→f i < S)→(∀ i,i < k→g i < S)→A0v S f k=A0v S g k→∀ i,i < k→f i=g i
 | 0,_,_,_,i,h=>by omega
 | k+1,h1,h2,e,i,hi=>by
  obtain⟨e1,e2⟩:=Pw (Z3 k fun i hi=>h1 i (by omega)) (Z3 k fun i hi=>h2 i (by omega)) e
  rcases Nat.lt_or_ge i k with c | c
  ·exact A8n k (fun i hi=>h1 i (by omega)) (fun i hi=>h2 i (by omega)) e1 i c
  ·obtain rfl:i=k:=by omega
   exact e2
def Mw:List A2→Prop
 | []=>True
 | x :: l=>(∀ y ∈ l,x.loc≤y.loc)∧Mw l
def Uo (b:List A2) (model room mod locs:Int):Prop:=(∀ x ∈ b,0≤x.loc∧x.loc < locs∧0≤x.n∧x.n < mod)∧(model=1→b=[])∧(model=2→(b.length:Int)≤room)∧(model=3→Mw b∧∀ loc,(((b.filter fun x=>x.loc==loc).length:Nat):Int)≤room)
theorem A6l:∀ (b b':List A2),Mw b→Mw b'→(∀ loc:Int,b.filter (fun x=>x.loc==loc)=b'.filter (fun x=>x.loc==loc))→b=b'
 | [],[],_,_,_=>rfl
 | [],y :: b',_,_,h=>by have:=h y.loc;simp at this
 | x :: b,[],_,_,h=>by have:=h x.loc;simp at this
 | x :: b,y :: b',h1,h2,h=>by
  have hxy:x.loc=y.loc:=by
   have a1:x ∈ (y :: b').filter (fun z=>z.loc==x.loc):=by rw[← h x.loc];simp
   have a2:y ∈ (x :: b).filter (fun z=>z.loc==y.loc):=by rw[h y.loc];simp
   have b1:x ∈ y :: b':=(List.mem_filter.1 a1).1
   have b2:y ∈ x :: b:=(List.mem_filter.1 a2).1
   have c1:y.loc≤x.loc:=by
    rcases List.mem_cons.1 b1 with e | e
    ·rw[e];exact Int.le_refl _
    ·exact h2.1 x e
   have c2:x.loc≤y.loc:=by
    rcases List.mem_cons.1 b2 with e | e
    ·rw[e];exact Int.le_refl _
    ·exact h1.1 y e
   omega
  have h3:=h x.loc
  simp only[List.filter_cons,beq_self_eq_true,if_true,hxy] at h3
  injection h3 with h3 h4
  subst h3
  have:b=b':=by
   refine A6l b b' h1.2 h2.2 (fun loc=>?_)
   have:=h loc
   simp only[List.filter_cons] at this
   split at this
   ·injection this
   ·exact this
  rw[this]
def Ae4 (mod:Nat) (x:A2):Nat:=prN x.n.toNat mod x.loc.toNat
def A5b (b:List A2) (i:Nat):List Nat:=(b.filter fun x=>x.loc==(i:Int)).map fun x=>x.n.toNat
def Zk (model:Int) (mod locs:Nat) (room:Nat) (b:List A2):Nat:=if model=1 then 0 else if model=2 then P0 (locs*mod) (b.map (Ae4 mod)) else A0v (geo mod (room+1)) (fun i=>P0 mod (A5b b i)) locs
def A8f (model:Int) (mod locs:Nat) (room:Nat):Nat:=if model=1 then 1 else if model=2 then geo (locs*mod) (room+1) else geo mod (room+1) ^ locs
theorem An8 {model:Int} {mod locs room:Nat} {b:List A2} (hm:1≤model∧model≤3) (h:Uo b model room mod locs):Zk model mod locs room b < A8f model mod locs room:=by
 obtain⟨h1,h2,h3,h4⟩:=h
 unfold Zk A8f
 by_cases c1:model=1
 ·rw[if_pos c1,if_pos c1];omega
 by_cases c2:model=2
 ·rw[if_neg c1,if_neg c1,if_pos c2,if_pos c2]
  refine Za _ room (by rw[A5];have:=h3 c2;omega) (fun d hd=>?_)
  obtain⟨x,hx,rfl⟩:=List.mem_map.1 hd
  have:=h1 x hx
  rw[Nat.mul_comm]
  exact Nh (by omega) (by omega)
 ·rw[if_neg c1,if_neg c1,if_neg c2,if_neg c2]
  have c3:model=3:=by omega
  refine Z3 _ (fun i hi=>Za _ room ?_ (fun d hd=>?_))
  ·unfold A5b;rw[A5];have:=(h4 c3).2 i;omega
  ·obtain⟨x,hx,rfl⟩:=List.mem_map.1 hd
   have:=h1 x (List.mem_filter.1 hx).1
   omega
theorem Aoe {mod locs:Int} {x y:A2} (hx:0≤x.loc∧x.loc < locs∧0≤x.n∧x.n < mod) (hy:0≤y.loc∧y.loc < locs∧0≤y.n∧y.n < mod) (e:Ae4 mod.toNat x=Ae4 mod.toNat y):x=y:=by
 obtain⟨e1,e2⟩:=Pw (by omega) (by omega) e
 obtain⟨a,b⟩:=x
 obtain⟨a',b'⟩:=y
 simp only at *
 rw[show a=a' by omega,show b=b' by omega]
theorem Rm {α β:Type} {f:α→β}:∀ {l l':List α},(∀ x ∈ l,∀ y ∈ l',f x=f y→x=y)→l.map f=l'.map f→l=l'
 | [],[],_,_=>rfl
 | [],_ :: _,_,h=>by simp at h
 | _ :: _,[],_,h=>by simp at h
 | a :: l,b :: l',hi,h=>by
  simp only[List.map_cons,List.cons.injEq] at h
  rw[hi a (by simp) b (by simp) h.1,Rm (fun x hx y hy=>hi x (by simp[hx]) y (by simp[hy])) h.2]
theorem Ajx {model:Int} {mod locs room:Nat} {b b':List A2} (hm:1≤model∧model≤3) (h:Uo b model room mod locs) (h':Uo b' model room mod locs) (e:Zk model mod locs room b=Zk model mod locs room b'):b=b':=by
 obtain⟨h1,h2,h3,h4⟩:=h
 obtain⟨g1,g2,g3,g4⟩:=h'
 unfold Zk at e
 by_cases c1:model=1
 ·rw[h2 c1,g2 c1]
 by_cases c2:model=2
 ·rw[if_neg c1,if_neg c1,if_pos c2,if_pos c2] at e
  have hd:∀ (b:List A2),(∀ x ∈ b,0≤x.loc∧x.loc < (locs:Int)∧0≤x.n∧x.n < (mod:Int))→∀ d ∈ b.map (Ae4 mod),d < locs*mod:=by
   intro b h d hd
   obtain⟨x,hx,rfl⟩:=List.mem_map.1 hd
   have:=h x hx
   rw[Nat.mul_comm]
   exact Nh (by omega) (by omega)
  have:=A0s _ _ (hd b h1) (hd b' g1) e
  exact Rm (fun x hx y hy e=>Aoe (mod:=(mod:Int)) (h1 x hx) (g1 y hy) (by simpa using e)) this
 ·rw[if_neg c1,if_neg c1,if_neg c2,if_neg c2] at e
  have c3:model=3:=by omega
  obtain⟨s1,k1⟩:=h4 c3
  obtain⟨s2,k2⟩:=g4 c3
  have hd:∀ (b:List A2),(∀ x ∈ b,0≤x.loc∧x.loc < (locs:Int)∧0≤x.n∧x.n < (mod:Int))→∀ i,∀ d ∈ A5b b i,d < mod:=by
   intro b h i d hd
   obtain⟨x,hx,rfl⟩:=List.mem_map.1 hd
   have:=h x (List.mem_filter.1 hx).1
   omega
  have hlt:∀ (b:List A2),(∀ x ∈ b,0≤x.loc∧x.loc < (locs:Int)∧0≤x.n∧x.n < (mod:Int))→(∀ loc:Int,(((b.filter fun x=>x.loc==loc).length:Nat):Int)≤(room:Int))→∀ i,i < locs→P0 mod (A5b b i) < geo mod (room+1):=fun b h k i _=>Za _ room (by unfold A5b;rw[A5];have:=k i;omega) (hd b h i)
  have he:=A8n locs (hlt b h1 k1) (hlt b' g1 k2) e
  refine A6l b b' s1 s2 (fun loc=>?_)
  by_cases cl:0≤loc∧loc < (locs:Int)
  ·have e2:=A0s _ _ (hd b h1 loc.toNat) (hd b' g1 loc.toNat) (he loc.toNat (by omega))
   unfold A5b at e2
   rw[show((loc.toNat:Nat):Int)=loc by omega] at e2
   refine Rm (fun x hx y hy e=>?_) e2
   obtain⟨x1,x2⟩:=List.mem_filter.1 hx
   obtain⟨y1,y2⟩:=List.mem_filter.1 hy
   have b1:=h1 x x1
   have b2:=g1 y y1
   have x3:=eq_of_beq x2
   have y3:=eq_of_beq y2
   obtain⟨p,q⟩:=x
   obtain⟨p',q'⟩:=y
   simp only at *
   rw[x3,y3,show q=q' by omega]
  ·have hn:∀ (b:List A2),(∀ x ∈ b,0≤x.loc∧x.loc < (locs:Int)∧0≤x.n∧x.n < (mod:Int))→b.filter (fun x=>x.loc==loc)=[]:=by
    intro b h
    rw[List.filter_eq_nil_iff]
    intro x hx e
    have:=h x hx
    have:=eq_of_beq e
    omega
   rw[hn b h1,hn b' g1]
theorem A11 (a:Nat):∀ k,A0q a k=min (geo a k) Ha
 | 0=>rfl
 | k+1=>by
  have:=Nat.min_le_right (a ^ k) Ha
  rw[A0q,A11 a k,geo,Pt]
  omega
theorem Aek {locs mod room:Int} (h:Z9 locs mod room) {model:Int} (hm:1≤model∧model≤3):Th locs mod model room=min (A8f model mod.toNat locs.toNat room.toNat) Ha:=by
 have h':=h
 obtain⟨h1,h2,h3,h4,h5,h6⟩:=h
 rw[Abq h']
 unfold A8f
 by_cases c1:model=1
 ·rw[if_pos c1,if_pos c1];decide
 by_cases c2:model=2
 ·rw[if_neg c1,if_neg c1,if_pos c2,if_pos c2,A11,show(locs*mod).toNat=locs.toNat*mod.toNat from Int.toNat_mul h1 (by omega)]
 ·rw[if_neg c1,if_neg c1,if_neg c2,if_neg c2,if_pos (show model=3 by omega),A11,Ann]
  rfl
structure Arc (u:Ak) (c:Ac) (model room:Int) (t:Nat) (p:Int) (r:List Int) (b:List A2) (code:List Ay) (nr:Int):Prop where
 pc0:0≤p
 pc1:p < (code.length:Int)
 len:(r.length:Int)=nr
 regs:∀ x ∈ r,0≤x∧x < u.mod
 buf:Uo b model room u.mod u.init.length
structure D2 (u:Ak) (c:Ac) (model room:Int):Prop where
 lpc:c.pc.length=u.regs.length
 lregs:c.regs.length=u.regs.length
 lbuf:c.buf.length=u.regs.length
 lmem:c.mem.length=u.init.length
 mem:∀ x ∈ c.mem,0≤x∧x < u.mod
 thr:∀ t p r b code nr,c.pc[t]?=some p→c.regs[t]?=some r→c.buf[t]?=some b→u.code[t]?=some code→u.regs[t]?=some nr→Arc u c model room t p r b code nr
def A5o (u:Ak) (c:Ac) (model room:Int) (t:Nat):Nat:=match c.pc[t]?,c.regs[t]?,c.buf[t]?,u.code[t]? with
 | some p,some r,some b,some code=>prN (prN p.toNat code.length (Ue u.mod.toNat (r.map Int.toNat))) (code.length*u.mod.toNat ^ r.length) (Zk model u.mod.toNat u.init.length room.toNat b)
 | _,_,_,_=>0
def Ade (u:Ak) (model room:Int) (t:Nat):Nat:=match u.regs[t]?,u.code[t]? with
 | some n,some code=>code.length*u.mod.toNat ^ n.toNat*A8f model u.mod.toNat u.init.length room.toNat
 | _,_=>0
def A3z (u:Ak) (model room:Int):Nat→Nat
 | 0=>u.mod.toNat ^ u.init.length
 | t+1=>A3z u model room t*Ade u model room t
def Wf (u:Ak) (c:Ac) (model room:Int):Nat→Nat
 | 0=>Ue u.mod.toNat (c.mem.map Int.toNat)
 | t+1=>prN (Wf u c model room t) (A3z u model room t) (A5o u c model room t)
theorem Sf {m:Int} {l:List Int} (h:∀ x ∈ l,0≤x∧x < m):∀ d ∈ l.map Int.toNat,d < m.toNat:=by
 intro d hd
 obtain⟨x,hx,rfl⟩:=List.mem_map.1 hd
 have:=h x hx
 omega
theorem A82 {m:Int} {l l':List Int} (h:∀ x ∈ l,0≤x∧x < m) (h':∀ x ∈ l',0≤x∧x < m) (hl:l.length=l'.length) (e:Ue m.toNat (l.map Int.toNat)=Ue m.toNat (l'.map Int.toNat)):l=l':=by
 have:=A9o _ _ (by simpa using hl) (Sf h) (Sf h') e
 exact Rm (fun x hx y hy e=>by have:=h x hx;have:=h' y hy;omega) this
section
variable {u:Ak} {model room:Int} (hu:C7 u=true) (hm:1≤model∧model≤3) (hr:1≤room∧room≤4)
theorem A3t {b:List A2} (hu:C7 u=true) (hr:1≤room∧room≤4) (h:Uo b model room u.mod u.init.length):Uo b model (room.toNat:Int) (u.mod.toNat:Int) u.init.length:=by
 have:=Cc hu
 rw[show((u.mod.toNat:Nat):Int)=u.mod by omega,show((room.toNat:Nat):Int)=room by omega]
 exact h
theorem Aqf (hu:C7 u=true) (hm:1≤model∧model≤3) (hr:1≤room∧room≤4) {c:Ac} (hc:D2 u c model room) {t:Nat} (ht:t < u.regs.length):A5o u c model room t < Ade u model room t:=by
 have hh:=Cc hu
 have t1:t < c.pc.length:=by rw[hc.lpc];exact ht
 have t2:t < c.regs.length:=by rw[hc.lregs];exact ht
 have t3:t < c.buf.length:=by rw[hc.lbuf];exact ht
 have t4:t < u.code.length:=by omega
 have H:=hc.thr t _ _ _ _ _ (A6 t1) (A6 t2) (A6 t3) (A6 t4) (A6 ht)
 simp only[A5o,Ade,A6 t1,A6 t2,A6 t3,A6 t4,A6 ht]
 have hl:(c.regs[t]).length=(u.regs[t]).toNat:=by have:=H.len;omega
 rw[← hl]
 refine Nh (Nh (by have:=H.pc0;have:=H.pc1;omega) ?_) (An8 hm (A3t hu hr H.buf))
 have:=V3 _ (Sf H.regs)
 rwa [A5] at this
theorem Ami (hu:C7 u=true) (hm:1≤model∧model≤3) (hr:1≤room∧room≤4) {c d:Ac} (hc:D2 u c model room) (hd:D2 u d model room) {t:Nat} (ht:t < u.regs.length) (e:A5o u c model room t=A5o u d model room t):c.pc[t]?=d.pc[t]?∧c.regs[t]?=d.regs[t]?∧c.buf[t]?=d.buf[t]?:=by
 have hh:=Cc hu
 have t1:t < c.pc.length:=by rw[hc.lpc];exact ht
 have t2:t < c.regs.length:=by rw[hc.lregs];exact ht
 have t3:t < c.buf.length:=by rw[hc.lbuf];exact ht
 have s1:t < d.pc.length:=by rw[hd.lpc];exact ht
 have s2:t < d.regs.length:=by rw[hd.lregs];exact ht
 have s3:t < d.buf.length:=by rw[hd.lbuf];exact ht
 have t4:t < u.code.length:=by omega
 have H:=hc.thr t _ _ _ _ _ (A6 t1) (A6 t2) (A6 t3) (A6 t4) (A6 ht)
 have G:=hd.thr t _ _ _ _ _ (A6 s1) (A6 s2) (A6 s3) (A6 t4) (A6 ht)
 simp only[A5o,A6 t1,A6 t2,A6 t3,A6 t4,A6 s1,A6 s2,A6 s3] at e ⊢
 have hl:(c.regs[t]).length=(u.regs[t]).toNat:=by have:=H.len;omega
 have gl:(d.regs[t]).length=(u.regs[t]).toNat:=by have:=G.len;omega
 have k1:=V3 _ (Sf H.regs)
 have k2:=V3 _ (Sf G.regs)
 rw[A5,hl] at k1
 rw[A5,gl] at k2
 have p1:(c.pc[t]).toNat < (u.code[t]).length:=by have:=H.pc0;have:=H.pc1;omega
 have p2:(d.pc[t]).toNat < (u.code[t]).length:=by have:=G.pc0;have:=G.pc1;omega
 rw[hl,gl] at e
 obtain⟨e1,e2⟩:=Pw (Nh p1 k1) (Nh p2 k2) e
 obtain⟨e3,e4⟩:=Pw p1 p2 e1
 refine⟨by have:=H.pc0;have:=G.pc0;congr 1;omega,by rw[A82 H.regs G.regs (by rw[hl,gl]) e4],by rw[Ajx hm (A3t hu hr H.buf) (A3t hu hr G.buf) e2]⟩
theorem We (hu:C7 u=true) (hm:1≤model∧model≤3) (hr:1≤room∧room≤4) {c:Ac} (hc:D2 u c model room):∀ t,t≤u.regs.length→Wf u c model room t < A3z u model room t
 | 0,_=>by
  have:=V3 _ (Sf hc.mem)
  rw[A5,hc.lmem] at this
  exact this
 | t+1,ht=>Nh (We hu hm hr hc t (by omega)) (Aqf hu hm hr hc (by omega))
theorem A65 (hu:C7 u=true) (hm:1≤model∧model≤3) (hr:1≤room∧room≤4) {c d:Ac} (hc:D2 u c model room) (hd:D2 u d model room):∀ t,t≤u.regs.length→Wf u c model room t=Wf u d model room t→c.mem=d.mem∧∀ i,i < t→c.pc[i]?=d.pc[i]?∧c.regs[i]?=d.regs[i]?∧c.buf[i]?=d.buf[i]?
 | 0,_,e=>⟨A82 hc.mem hd.mem (by rw[hc.lmem,hd.lmem]) e,fun i hi=>by omega⟩
 | t+1,ht,e=>by
  obtain⟨e1,e2⟩:=Pw (We hu hm hr hc t (by omega)) (We hu hm hr hd t (by omega)) e
  obtain⟨a,b⟩:=A65 hu hm hr hc hd t (by omega) e1
  refine⟨a,fun i hi=>?_⟩
  rcases Nat.lt_or_ge i t with h | h
  ·exact b i h
  ·obtain rfl:i=t:=by omega
   exact Ami hu hm hr hc hd (by omega) e2
theorem Aml (hu:C7 u=true) (hm:1≤model∧model≤3) (hr:1≤room∧room≤4) {c d:Ac} (hc:D2 u c model room) (hd:D2 u d model room) (e:Wf u c model room u.regs.length=Wf u d model room u.regs.length):c=d:=by
 obtain⟨a,b⟩:=A65 hu hm hr hc hd _ (Nat.le_refl _) e
 have ext:∀ {α:Type} (l l':List α),l.length=u.regs.length→l'.length=u.regs.length→(∀ i,i < u.regs.length→l[i]?=l'[i]?)→l=l':=fun l l' h1 h2 h=>by
  apply List.ext_getElem?
  intro i
  rcases Nat.lt_or_ge i u.regs.length with q | q
  ·exact h i q
  ·rw[List.getElem?_eq_none (by omega),List.getElem?_eq_none (by omega)]
 have e1:=ext _ _ hc.lpc hd.lpc fun i hi=>(b i hi).1
 have e2:=ext _ _ hc.lregs hd.lregs fun i hi=>(b i hi).2.1
 have e3:=ext _ _ hc.lbuf hd.lbuf fun i hi=>(b i hi).2.2
 obtain⟨c1,c2,c3,c4⟩:=c
 obtain⟨d1,d2,d3,d4⟩:=d
 simp only at a e1 e2 e3
 rw[a,e1,e2,e3]
theorem A6q (hu:C7 u=true) (hm:1≤model∧model≤3) (hr:1≤room∧room≤4):∀ t,t≤u.regs.length→Zh u model room t=min (A3z u model room t) Ha
 | 0,_=>rfl
 | t+1,ht=>by
  have hh:=Cc hu
  have t4:t < u.code.length:=by omega
  have hrow:=Pe hu (t:=t) (by omega) t4
  rw[Zh,A6q hu hm hr t (by omega),A3z,← Sd]
  congr 1
  rw[Ag9 (by omega) t4,Aek (Aew hu hr) hm,Ade,A6 (show t < u.regs.length by omega),A6 t4]
  simp only
  have e1:u.code[t].length=min u.code[t].length Ha:=by rw[Nat.min_eq_left];have hcut:Ha=1125899906842624:=rfl;omega
  rw[Int.toNat_natCast]
  conv=>lhs;rw[e1]
  rw[Pt,Sd,Sd]
theorem Atc (hu:C7 u=true) (hm:1≤model∧model≤3) (hr:1≤room∧room≤4) (l:List Ac) (hd:l.Nodup) (hc:∀ c ∈ l,D2 u c model room) (hl:l.length≤1000000):l.length≤Zh u model room u.regs.length:=by
 have:=Apa (fun c=>Wf u c model room u.regs.length) (A3z u model room u.regs.length) l hd (fun x hx y hy e=>Aml hu hm hr (hc x hx) (hc y hy) e) (fun x hx=>We hu hm hr (hc x hx) _ (Nat.le_refl _))
 rw[A6q hu hm hr _ (Nat.le_refl _)]
 have hcut:Ha=1125899906842624:=rfl
 omega
end
def Nz (e:A2):List A2→List A2
 | []=>[e]
 | x :: l=>if e.loc < x.loc then e :: x :: l else x :: Nz e l
def Zj (b:List A2) (model:Int) (e:A2):List A2:=if model=3 then Nz e b else if model=2 then b++[e] else b
theorem A18 {e y:A2}:∀ {l:List A2},y ∈ Nz e l→y=e∨y ∈ l
 | [],h=>by simp[Nz] at h;exact .inl h
 | x :: l,h=>by
  rw[Nz] at h
  split at h
  ·simp only[List.mem_cons] at h ⊢;exact h
  ·simp only[List.mem_cons] at h ⊢
   rcases h with h | h
   ·exact .inr (.inl h)
   ·rcases A18 h with h | h
    ·exact .inl h
    ·exact .inr (.inr h)
theorem A00 {e:A2}:∀ {l:List A2},Mw l→Mw (Nz e l)
 | [],_=>⟨by simp,trivial⟩
 | x :: l,h=>by
  rw[Nz]
  split
  ·rename_i c
   refine⟨fun y hy=>?_,h⟩
   rcases List.mem_cons.1 hy with rfl | hy
   ·omega
   ·have:=h.1 y hy;omega
  ·rename_i c
   refine⟨fun y hy=>?_,A00 h.2⟩
   rcases A18 hy with rfl | hy
   ·omega
   ·exact h.1 y hy
theorem A1t {e:A2} (loc:Int):∀ l:List A2,((Nz e l).filter fun x=>x.loc==loc).length=(l.filter fun x=>x.loc==loc).length+(if e.loc=loc then 1 else 0)
 | []=>by
  by_cases c:e.loc=loc
  ·simp[Nz,c]
  ·simp[Nz,c]
 | x :: l=>by
  rw[Nz]
  split
  ·by_cases c:e.loc=loc
   ·simp[List.filter_cons,c]
   ·simp[List.filter_cons,c]
  ·rw[List.filter_cons,List.filter_cons]
   have:=A1t (e:=e) loc l
   split
   ·simp only[List.length_cons,this];omega
   ·exact this
theorem Adk {b:List A2} {model room mod locs:Int} {e:A2} (hm:model=2∨model=3) (h:Uo b model room mod locs) (he:0≤e.loc∧e.loc < locs∧0≤e.n∧e.n < mod) (hr:(model=2→(b.length:Int) < room)∧(model=3→(((b.filter fun x=>x.loc==e.loc).length:Nat):Int) < room)):Uo (Zj b model e) model room mod locs:=by
 obtain⟨h1,h2,h3,h4⟩:=h
 rcases hm with rfl | rfl
 ·rw[Zj,if_neg (by decide),if_pos rfl]
  refine⟨fun x hx=>?_,fun h=>by omega,fun _=>by have:=hr.1 rfl;simp;omega,fun h=>by omega⟩
  rcases List.mem_append.1 hx with hx | hx
  ·exact h1 x hx
  ·rw[List.mem_singleton.1 hx];exact he
 ·rw[Zj,if_pos rfl]
  obtain⟨s1,s2⟩:=h4 rfl
  refine⟨fun x hx=>?_,fun h=>by omega,fun h=>by omega,fun _=>⟨A00 s1,fun loc=>?_⟩⟩
  ·rcases A18 hx with rfl | hx
   ·exact he
   ·exact h1 x hx
  ·rw[A1t]
   have:=s2 loc
   split
   ·rename_i c;subst c;have:=hr.2 rfl;omega
   ·omega
theorem Y6:∀ (l:List A2) (i:Nat),Mw l→Mw (l.eraseIdx i)
 | [],i,h=>by simp[Mw]
 | x :: l,0,h=>h.2
 | x :: l,i+1,h=>⟨fun y hy=>h.1 y (List.mem_of_mem_eraseIdx hy),Y6 l i h.2⟩
theorem Ah7 {b:List A2} {model room mod locs:Int} (i:Nat) (h:Uo b model room mod locs):Uo (b.eraseIdx i) model room mod locs:=by
 obtain⟨h1,h2,h3,h4⟩:=h
 refine⟨fun x hx=>h1 x (List.mem_of_mem_eraseIdx hx),fun h=>by rw[h2 h];rfl,fun h=>?_,fun h=>⟨Y6 _ _ (h4 h).1,fun loc=>?_⟩⟩
 ·have:=h3 h
  have:=List.length_eraseIdx_le b i
  omega
 ·have h5:=(h4 h).2 loc
  have:((b.eraseIdx i).filter fun x=>x.loc==loc).length≤(b.filter fun x=>x.loc==loc).length:=((List.eraseIdx_sublist b i).filter _).length_le
  omega
theorem R0 {α:Type} {l:List α} {i j:Nat} {x y:α} (h:(l.set i x)[j]?=some y):(j=i∧y=x)∨(j≠i∧l[j]?=some y):=by
 rw[List.getElem?_set] at h
 split at h
 ·rename_i c
  subst c
  split at h
  ·exact .inl ⟨rfl,(Option.some.inj h).symm⟩
  ·cases h
 ·rename_i c;exact .inr ⟨fun e=>c e.symm,h⟩
theorem Aak {u:Ak} {c:Ac} {model room:Int} (h:D2 u c model room) {t:Nat} {p':Int} {r':List Int} {b':List A2} {mem':List Int} (hm:mem'.length=u.init.length) (hm2:∀ x ∈ mem',0≤x∧x < u.mod)
 (ht:∀ code nr,u.code[t]?=some code→u.regs[t]?=some nr→Arc u c model room t p' r' b' code nr):D2 u ⟨c.pc.set t p',c.regs.set t r',mem',c.buf.set t b'⟩ model room:=by
 refine⟨by simpa using h.lpc,by simpa using h.lregs,by simpa using h.lbuf,hm,hm2,fun j p r b code nr e1 e2 e3 e4 e5=>?_⟩
 rcases R0 e1 with ⟨rfl,rfl⟩ | ⟨n1,e1⟩
 ·rcases R0 e2 with ⟨_,rfl⟩ | ⟨n2,_⟩
  ·rcases R0 e3 with ⟨_,rfl⟩ | ⟨n3,_⟩
   ·have:=ht code nr e4 e5
    exact⟨this.pc0,this.pc1,this.len,this.regs,this.buf⟩
   ·exact absurd rfl n3
  ·exact absurd rfl n2
 ·rcases R0 e2 with ⟨q,_⟩ | ⟨_,e2⟩
  ·exact absurd q n1
  ·rcases R0 e3 with ⟨q,_⟩ | ⟨_,e3⟩
   ·exact absurd q n1
   ·have:=h.thr j p r b code nr e1 e2 e3 e4 e5
    exact⟨this.pc0,this.pc1,this.len,this.regs,this.buf⟩
theorem Om {l:List Int} {i:Nat} {x m:Int} (h:∀ y ∈ l,0≤y∧y < m) (hx:0≤x∧x < m):∀ y ∈ l.set i x,0≤y∧y < m:=fun y hy=>by
 rcases List.mem_or_eq_of_mem_set hy with hy | rfl
 ·exact h y hy
 ·exact hx
def pcS (x:Ay) (e p:Int):Int:=if x.op=20 then x.goal else if x.op=21∧e=0 then x.goal else p+1
def rgS (x:Ay) (e rd ml:Int) (r:List Int):List Int:=if x.op=2 then r.set x.reg.toNat e else if x.op=3 then r.set x.reg.toNat rd else if 5≤x.op∧x.op≤7 then r.set x.reg.toNat ml else r
def bfS (model:Int) (x:Ay) (e:Int) (b:List A2):List A2:=if x.op=4∧model≠1 then Zj b model ⟨x.loc,e⟩ else b
def mmS (model mod:Int) (x:Ay) (e f ml:Int) (m:List Int):List Int:=if x.op=4∧model=1 then m.set x.loc.toNat e else if x.op=5∧ml=e then m.set x.loc.toNat f else if x.op=6 then m.set x.loc.toNat ((ml+e) % mod) else if x.op=7 then m.set x.loc.toNat e else m
def Hs (u:Ak) (c:Ac) (model:Int) (t:Nat) (x:Ay) (e f rd ml p:Int) (r:List Int) (b:List A2):Ac:=⟨c.pc.set t (pcS x e p),c.regs.set t (rgS x e rd ml r),mmS model u.mod x e f ml c.mem,c.buf.set t (bfS model x e b)⟩
theorem A94 {u:Ak} (hu:C7 u=true) {t:Nat} {code:List Ay} {nr:Int} (h1:u.code[t]?=some code) (h2:u.regs[t]?=some nr) {p:Nat} {x:Ay} (hx:code[p]?=some x):(x.op=22∧p+1=code.length)∨(p+1 < code.length∧Zf nr u.init.length code.length x=true):=by
 obtain⟨t1,rfl⟩:=List.getElem?_eq_some_iff.1 h1
 obtain⟨t2,rfl⟩:=List.getElem?_eq_some_iff.1 h2
 have h:=Re hu t2
 rw[Uk t2 t1] at h
 simp only[A8,A35,Ai] at h
 obtain⟨_,⟨hl,hlast⟩,hall⟩:=h
 obtain⟨hp,rfl⟩:=List.getElem?_eq_some_iff.1 hx
 rcases Nat.lt_or_ge (p+1) (u.code[t]).length with c | c
 ·right
  refine⟨c,?_⟩
  rw[List.all_eq_true] at hall
  have:=hall p (by simp;omega)
  rw[A6 hp] at this
  exact this
 ·left
  have e:p=(u.code[t]).length - 1:=by omega
  subst e
  rw[A6 hp] at hlast
  simp only[Aie,A8,Ai] at hlast
  exact⟨hlast.1.1.1.1.1.1,by omega⟩
theorem A0h {op:Int} {n:Ap4} (h:Mz op=some n):op=2∨op=3∨op=4∨op=5∨op=6∨op=7∨op=8∨op=9∨op=20∨op=21:=by
 unfold Mz at h
 repeat' split at h
 all_goals first | omega | cases h
theorem Aeu {u:Ak} {c:Ac} {model room:Int} (hu:C7 u=true) (hm:1≤model∧model≤3) (h:D2 u c model room) {t:Nat} {p nr e f rd ml:Int} {r:List Int} {b:List A2} {code:List Ay} {x:Ay}
 (e1:c.pc[t]?=some p) (e2:c.regs[t]?=some r) (e3:c.buf[t]?=some b) (e4:u.code[t]?=some code) (e5:u.regs[t]?=some nr) (hx:code[p.toNat]?=some x) (hop:x.op≠22)
 (he:0≤e∧e < u.mod) (hf:0≤f∧f < u.mod) (hrd:0≤rd∧rd < u.mod) (hml:0≤ml∧ml < u.mod)
 (hroom:x.op=4→(model=2→(b.length:Int) < room)∧(model=3→(((b.filter fun y=>y.loc==x.loc).length:Nat):Int) < room)):D2 u (Hs u c model t x e f rd ml p r b) model room:=by
 have hh:=Cc hu
 have H:=h.thr t _ _ _ _ _ e1 e2 e3 e4 e5
 have hp0:=H.pc0
 have hp1:=H.pc1
 rcases A94 hu e4 e5 hx with ⟨q,_⟩ | ⟨hlt,hok⟩
 ·exact absurd q hop
 unfold Zf at hok
 cases hn:Mz x.op with
 | none=>rw[hn] at hok;cases hok
 | some n =>
 rw[hn] at hok
 simp only[A8] at hok
 obtain⟨⟨⟨⟨⟨_,k1⟩,k2⟩,k3⟩,_⟩,_⟩:=hok
 have hops:=A0h hn
 have hgoal:(x.op=20∨x.op=21)→0≤x.goal∧x.goal < (code.length:Int):=by
  intro ho
  have:n.goal=true:=by
   rcases ho with ho | ho<;>(rw[ho] at hn;simp[Mz] at hn;rw[← hn])
  rw[this] at k3
  simpa [Sw,inB] using k3
 have hloc:x.op=4→0≤x.loc∧x.loc < (u.init.length:Int):=by
  intro ho
  have:n.loc=true:=by rw[ho] at hn;simp[Mz] at hn;rw[← hn]
  rw[this] at k2
  simpa [Sw,inB] using k2
 unfold Hs
 refine Aak h ?_ ?_ (fun code' nr' g1 g2=>?_)
 ·unfold mmS
  repeat' split
  all_goals ((try simp only[List.length_set]);exact h.lmem)
 ·unfold mmS
  have hmod:0≤(ml+e) % u.mod∧(ml+e) % u.mod < u.mod:=⟨Int.emod_nonneg _ (by omega),Int.emod_lt_of_pos _ (by omega)⟩
  split
  ·exact Om h.mem he
  ·split
   ·exact Om h.mem hf
   ·split
    ·exact Om h.mem hmod
    ·split
     ·exact Om h.mem he
     ·exact h.mem
 ·rw[e4] at g1;rw[e5] at g2
  cases g1;cases g2
  refine⟨?_,?_,?_,?_,?_⟩
  ·unfold pcS
   split
   ·exact(hgoal (.inl (by assumption))).1
   ·split
    ·exact(hgoal (.inr (by rename_i q;exact q.1))).1
    ·omega
  ·unfold pcS
   split
   ·exact(hgoal (.inl (by assumption))).2
   ·split
    ·exact(hgoal (.inr (by rename_i q;exact q.1))).2
    ·omega
  ·unfold rgS
   repeat' split
   all_goals ((try simp only[List.length_set]);exact H.len)
  ·unfold rgS
   split
   ·exact Om H.regs he
   ·split
    ·exact Om H.regs hrd
    ·split
     ·exact Om H.regs hml
     ·exact H.regs
  ·unfold bfS
   split
   ·rename_i q
    have:=hloc q.1
    refine Adk (by omega) H.buf ⟨this.1,this.2,he.1,he.2⟩ (hroom q.1)
   ·exact H.buf
def Tf (c:Ac) (t i:Nat) (b:List A2) (x:A2):Ac:=⟨c.pc,c.regs,c.mem.set x.loc.toNat x.n,c.buf.set t (b.eraseIdx i)⟩
theorem Aau {u:Ak} {c:Ac} {model room:Int} (h:D2 u c model room) {t i:Nat} {b:List A2} {x:A2} (e3:c.buf[t]?=some b) (hx:b[i]?=some x) (ht:t < u.regs.length) (htc:t < u.code.length):D2 u (Tf c t i b x) model room:=by
 have t1:t < c.pc.length:=by rw[h.lpc];exact ht
 have t2:t < c.regs.length:=by rw[h.lregs];exact ht
 have H:=h.thr t _ _ _ _ _ (A6 t1) (A6 t2) e3 (A6 htc) (A6 ht)
 have hxb:=H.buf.1 x (List.mem_of_getElem? hx)
 have:=Aak h (t:=t) (p':=c.pc[t]) (r':=c.regs[t]) (b':=b.eraseIdx i) (mem':=c.mem.set x.loc.toNat x.n) (by simp[h.lmem]) (Om h.mem hxb.2.2) (fun code nr g1 g2=>by
  rw[A6 htc] at g1;rw[A6 ht] at g2
  cases g1;cases g2
  exact⟨H.pc0,H.pc1,H.len,H.regs,Ah7 i H.buf⟩)
 rw[List.set_getElem_self,List.set_getElem_self] at this
 exact this
theorem Bu {α:Type} {l:List α} {i:Nat} (h:i < l.length):idx l (i:Int)=some l[i]:=by rw[Oo,A6 h]
theorem Be (k:Nat) (h:k < 4611686018427387904):IntKind.i64.wrap ((k:Int)+1)=((k+1:Nat):Int):=Akl k (by omega)
theorem Ad {α:Type} {p:Prop} [Decidable p] (h:p) (a b:α):(bif decide p then a else b)=a:=by rw[decide_eq_true h];rfl
theorem Ap {α:Type} {p:Prop} [Decidable p] (h:¬ p) (a b:α):(bif decide p then a else b)=b:=by rw[decide_eq_false h];rfl
theorem Asa (a b:Nat):((a:Int)==(b:Int))=(a==b):=by
 by_cases h:a=b
 ·subst h;simp
 ·have:¬ (a:Int)=(b:Int):=by omega
  rw[Cg.2 h,Cg.2 this]
theorem Ap2 (a b:Nat):((a:Int) != (b:Int))=!(a==b):=by rw[← Asa];rfl
theorem P4 {α:Type} {l:List α} {i:Int} (h0:0≤i):idx l i=l[i.toNat]?:=by unfold idx;rw[decide_eq_true h0];rfl
theorem Aje {α σ ρ:Type} (l:List α) (L:Nat→Nat→σ→Option ρ) (F:List α→σ→Option ρ) (Inv:Nat→σ→Prop)
 (h0:∀ k s,Inv l.length s→L (k+1) l.length s=F [] s)
 (h1:∀ k i s x,i < l.length→l[i]?=some x→Inv i s→(∀ s',Inv (i+1) s'→L k (i+1) s'=F (l.drop (i+1)) s')→L (k+1) i s=F (x :: l.drop (i+1)) s) :
 ∀ (m k i:Nat) (s:σ),i+m=l.length→m < k→Inv i s→L k i s=F (l.drop i) s:=by
 intro m
 induction m with
 | zero =>
  intro k i s hi hk hs
  obtain⟨k,rfl⟩:∃ j,k=j+1:=⟨k - 1,by omega⟩
  obtain rfl:i=l.length:=by omega
  rw[h0 k s hs,List.drop_length]
 | succ m ih =>
  intro k i s hi hk hs
  obtain⟨k,rfl⟩:∃ j,k=j+1:=⟨k - 1,by omega⟩
  have hlt:i < l.length:=by omega
  rw[h1 k i s l[i] hlt (A6 hlt) hs (fun s' hs'=>ih k (i+1) s' (by omega) (by omega) hs'),List.drop_eq_getElem_cons hlt]
theorem Oy {α σ ρ:Type} (l:List α) (L:Nat→Nat→σ→Option ρ) (F:List α→σ→Option ρ) (Inv:Nat→σ→Prop) {k:Nat} {s:σ} (hk:l.length < k) (hs:Inv 0 s)
 (h0:∀ k s,Inv l.length s→L (k+1) l.length s=F [] s)
 (h1:∀ k i s x,i < l.length→l[i]?=some x→Inv i s→(∀ s',Inv (i+1) s'→L k (i+1) s'=F (l.drop (i+1)) s')→L (k+1) i s=F (x :: l.drop (i+1)) s) :
 L k 0 s=F l s:=Aje l L F Inv h0 h1 l.length k 0 s (by omega) hk hs
theorem Pn {α:Type} {l:List α} {i:Nat} {x:α} (h:l[i]?=some x):idx l (i:Int)=some x:=by rw[Oo,h]
theorem A8k (op:Int):op < 1∨15≤op∨op=1∨op=2∨op=3∨op=4∨op=5∨op=6∨op=7∨op=8∨op=9∨op=10∨op=11∨op=12∨op=13∨op=14:=by omega
theorem A9c {α:Type} (l:List α) (L:Nat→Nat→Option (LR Unit Bool)) (p:α→Bool) (h0:∀ k,L (k+1) l.length=some (.out ()))
 (h1:∀ k i x,i < l.length→l[i]?=some x→L (k+1) i=bif p x then L k (i+1) else some (.ret false)) {k:Nat} (hk:l.length < k):L k 0=bif l.all p then some (.out ()) else some (.ret false):=by
 refine Oy l (fun k i (_:Unit)=>L k i) (fun l _=>bif l.all p then some (.out ()) else some (.ret false)) (fun _ _=>True) (s:=()) hk trivial (fun k s _=>h0 k) ?_
 intro k i s x hi hx _ ih
 rw[h1 k i x hi hx,ih () trivial,List.all_cons]
 cases p x<;>rfl
def F1 (op:Int):Int:=if 1≤op∧op≤4 then 0 else if op=5 then 1 else if 6≤op∧op≤14 then 2 else 1000000
def Jv:List OpS→Int×Int→Int×Int
 | [],s=>s
 | x :: l,s=>if s.1 < F1 x.op then(-1,-1) else Jv l (s.1+(1 - F1 x.op),if s.2 < s.1+(1 - F1 x.op) then s.1+(1 - F1 x.op) else s.2)
def Rp (regs:List Int) (own locs:Int) (x:OpS):Bool :=
 if x.op=1 then decide (0≤x.n∧x.n < 10000) else if x.op=2 then decide (0≤x.n∧x.n < own) else if x.op=3 then decide (0≤x.n∧x.n < locs)
 else if x.op=4 then(if 0≤x.t then match regs[x.t.toNat]? with | some r=>decide (0≤x.n∧x.n < r) | none=>false else false) else true
def Uz (l:List OpS) (regs:List Int) (own locs:Int):Bool:=l.all (Rp regs own locs)&&decide ((Jv l (0,0)).1=1)
def b2i (c:Bool):Int:=bif c then 1 else 0
def A17 (op a b mod:Int):Int:=if op=5 then b2i (b==0) else if op=6 then Int.tmod (a+b) mod else if op=7 then Int.tmod (a+mod - b) mod else if op=8 then Int.tmod (a*b) mod
 else if op=9 then b2i (a==b) else if op=10 then b2i (a != b) else if op=11 then b2i (decide (a < b)) else if op=12 then b2i (decide (a≤b)) else if op=13 then b2i (a*b != 0) else b2i (a+b != 0)
def inR (mod v:Int):Prop:=0≤v∧v < mod
theorem Arf (c:Bool) {mod:Int} (h:2≤mod):inR mod (b2i c):=by cases c<;>(unfold inR b2i;simp;omega)
theorem A5d {x mod:Int} (h:2≤mod) (hx:0≤x):inR mod (Int.tmod x mod):=by
 rw[Int.tmod_eq_emod_of_nonneg hx];exact⟨Int.emod_nonneg _ (by omega),Int.emod_lt_of_pos _ (by omega)⟩
theorem Agw {a b mod:Int} (h:2≤mod∧mod≤16) (ha:inR mod a) (hb:inR mod b):0≤a*b∧a*b≤256:=by
 obtain⟨a0,a1⟩:=ha;obtain⟨b0,b1⟩:=hb
 refine⟨Int.mul_nonneg a0 b0,?_⟩
 calc a*b≤16*16:=Int.mul_le_mul (by omega) (by omega) b0 (by omega)
  _≤256:=by omega
theorem Z0 {op a b mod:Int} (h:2≤mod∧mod≤16) (ha:inR mod a) (hb:inR mod b):inR mod (A17 op a b mod):=by
 have:=Agw h ha hb
 obtain⟨a0,a1⟩:=ha;obtain⟨b0,b1⟩:=hb
 unfold A17
 repeat' split
 all_goals first | exact Arf _ h.1 | exact A5d h.1 (by omega)
def Nu (mod:Int) (own:List Int) (all:List (List Int)) (mem:List Int):List OpS→List Int→List Int
 | [],R=>R
 | x :: l,R=>Nu mod own all mem l (if x.op=1 then Int.tmod x.n mod :: R else if x.op=2 then own.getD x.n.toNat 0 :: R else if x.op=3 then mem.getD x.n.toNat 0 :: R
     else if x.op=4 then(all.getD x.t.toNat []).getD x.n.toNat 0 :: R else if x.op=5 then A17 5 0 (R.getD 0 0) mod :: R.drop 1 else A17 x.op (R.getD 1 0) (R.getD 0 0) mod :: R.drop 2)
structure Amg (mod:Int) (own:List Int) (all:List (List Int)) (mem:List Int):Prop where
 h:2≤mod∧mod≤16
 own:∀ v ∈ own,inR mod v
 all:∀ r ∈ all,∀ v ∈ r,inR mod v
 mem:∀ v ∈ mem,inR mod v
def Le (all:List (List Int)):List Int:=all.map fun r=>((r.length:Nat):Int)
def I7 (mod:Int) (l:List Int):Bool:=l.all fun v=>decide (0≤v∧v < mod)
theorem Ap9 (mod:Int) (own:List Int) (all:List (List Int)) (mem:List Int):∀ (l:List OpS) (R:List Int) (m:Int),R.length+l.length < 1000000→(Jv l ((R.length:Int),m)).1≠ -1→((Nu mod own all mem l R).length:Int)=(Jv l ((R.length:Int),m)).1:=by
 intro l
 induction l with
 | nil=>intro R m _ _;rfl
 | cons x l ih =>
  intro R m hb h
  rw[List.length_cons] at hb
  rw[Jv] at h ⊢
  by_cases c:(R.length:Int) < F1 x.op
  ·rw[if_pos c] at h;exact absurd rfl h
  ·rw[if_neg c] at h ⊢
   rw[Nu]
   dsimp only at h ⊢
   have key:∀ R':List Int,(R'.length:Int)=(R.length:Int)+(1 - F1 x.op)→0≤F1 x.op→((Nu mod own all mem l R').length:Int)=(Jv l ((R.length:Int)+(1 - F1 x.op),if m < (R.length:Int)+(1 - F1 x.op) then(R.length:Int)+(1 - F1 x.op) else m)).1:=by
    intro R' e h0
    rw[← e] at h ⊢
    exact ih R' _ (by omega) h
   have bad:x.op < 1∨15≤x.op→False:=by
    intro g
    have:F1 x.op=1000000:=by unfold F1;repeat' split
                             all_goals omega
    omega
   rcases A8k x.op with g | g | g | g | g | g | g | g | g | g | g | g | g | g | g | g
   ·exact(bad (.inl g)).elim
   ·exact(bad (.inr g)).elim
   all_goals refine key _ ?_ (by rw[g];decide)
   all_goals rw[g] at c ⊢;simp only[F1] at c ⊢;simp at c ⊢;try omega
theorem Arb {mod:Int} {own:List Int} {all:List (List Int)} {mem:List Int} (G:Amg mod own all mem):∀ (l:List OpS) (R:List Int),(∀ x ∈ l,Rp (Le all) own.length mem.length x=true)→(∀ v ∈ R,inR mod v)→∀ v ∈ Nu mod own all mem l R,inR mod v:=by
 intro l
 have hm:=G.h
 have z:inR mod 0:=⟨by omega,by omega⟩
 have gd:∀ (R:List Int),(∀ v ∈ R,inR mod v)→∀ j,inR mod (R.getD j 0):=by
  intro R hR j
  rw[List.getD_eq_getElem?_getD]
  cases h:R[j]? with
  | none=>exact z
  | some v=>exact hR v (List.mem_of_getElem? h)
 induction l with
 | nil=>intro R _ h;exact h
 | cons x l ih =>
  intro R hx hR
  rw[Nu]
  refine ih _ (fun y hy=>hx y (List.mem_cons_of_mem _ hy)) ?_
  have ho:=hx x (List.mem_cons_self ..)
  have two:∀ {v:Int} {R':List Int},inR mod v→(∀ w ∈ R',inR mod w)→∀ w ∈ v :: R',inR mod w:=by
   intro v R' a b w hw
   rcases List.mem_cons.1 hw with rfl | hw
   ·exact a
   ·exact b w hw
  unfold Rp at ho
  split
  ·rename_i c;rw[if_pos c,Ai] at ho;exact two (A5d hm.1 ho.1) hR
  split
  ·exact two (gd _ G.own _) hR
  split
  ·exact two (gd _ G.mem _) hR
  split
  ·refine two (gd _ ?_ _) hR
   rw[List.getD_eq_getElem?_getD]
   cases h:all[x.t.toNat]? with
   | none=>intro v hv;cases hv
   | some r=>exact G.all r (List.mem_of_getElem? h)
  split
  ·exact two (Z0 hm z (gd R hR 0)) (fun w hw=>hR w (List.mem_of_mem_drop hw))
  ·exact two (Z0 hm (gd R hR 1) (gd R hR 0)) (fun w hw=>hR w (List.mem_of_mem_drop hw))
def Nq (l:List OpS) (mod:Int) (own:List Int) (all:List (List Int)) (mem:List Int):Bool :=
 decide (2≤mod∧mod≤16)&&(I7 mod own&&(I7 mod mem&&(all.all (I7 mod)&&Uz l (Le all) own.length mem.length)))
def Aej (l:List OpS) (mod:Int) (own:List Int) (all:List (List Int)) (mem:List Int):Int×Bool :=
 bif Nq l mod own all mem then((Nu mod own all mem l []).getD 0 0,true) else(0,false)
theorem Acm {l:List OpS} {mod:Int} {own:List Int} {all:List (List Int)} {mem:List Int} (h:Nq l mod own all mem=true) :
 Amg mod own all mem∧(∀ x ∈ l,Rp (Le all) own.length mem.length x=true)∧(Jv l (0,0)).1=1:=by
 simp only[Nq,Uz,I7,A8,Ai,List.all_eq_true] at h
 obtain⟨h1,h2,h3,h4,h5,h6⟩:=h
 exact⟨⟨h1,h2,h4,h3⟩,h5,h6⟩
theorem Acp {l:List OpS} {mod:Int} {own:List Int} {all:List (List Int)} {mem:List Int} (h:Nq l mod own all mem=true) (hl:l.length < 1000000) :
 ∃ v,Nu mod own all mem l []=[v]∧inR mod v:=by
 obtain⟨G,h1,h2⟩:=Acm h
 have e:=Ap9 mod own all mem l [] 0 (by simp;omega) (by show(Jv l (0,0)).1≠ -1;rw[h2];decide)
 have e2:((Nu mod own all mem l []).length:Int)=1:=e.trans h2
 have hin:=Arb G l [] h1 (by intro v hv;cases hv)
 match hr:Nu mod own all mem l [] with
 | []=>rw[hr] at e2;simp at e2
 | [v]=>exact⟨v,rfl,hin v (by rw[hr];exact List.mem_cons_self ..)⟩
 | a :: b :: c=>rw[hr] at e2;simp at e2;omega
def A5i (b:List A2) (loc:Int):Nat:=(b.filter fun x=>x.loc==loc).length
def A2y (b:List A2) (model room loc:Int):Bool:=if model=2 then decide ((b.length:Int) < room) else if model=3 then decide ((A5i b loc:Int) < room) else false
def Qc (b:List A2) (loc:Int):Option Int:=(b.reverse.find? fun x=>x.loc==loc).map fun x=>x.n
def Yz (b:List A2) (model loc:Int):Option Nat:=match b.findIdx? (fun x=>x.loc==loc || (decide (model=2)&&decide (loc < 0))) with
 | some i=>if model=2∧0 < i∨(model≠2∧model≠3) then none else some i
 | none=>none
def Lj (c:Ac) (t loc:Int):Int:=if t < 0∨(c.buf.length:Int)≤t∨loc < 0∨(c.mem.length:Int)≤loc then 0 else match Qc (c.buf.getD t.toNat []) loc with
 | some n=>n
 | none=>c.mem.getD loc.toNat 0
def Eu (u:Ak) (c:Ac) (t:Nat) (l:List OpS):Int:=(Aej l u.mod (c.regs.getD t []) [] []).1
def Po (u:Ak) (c:Ac) (t:Nat):Option Ay:=match u.code[t]?,c.pc[t]? with
 | some code,some p=>if 0≤p then code[p.toNat]? else none
 | _,_=>none
def enX (u:Ak) (c:Ac) (model room:Int) (t:Nat) (x:Ay):Bool:=if x.op=22 then false else if x.op=4 then decide (model=1) || A2y (c.buf.getD t []) model room x.loc else if 5≤x.op∧x.op≤8 then(c.buf.getD t []).isEmpty else if x.op=9 then(Lj c t x.loc==Eu u c t x.e) != x.ne else true
def enC (u:Ak) (c:Ac) (model room:Int) (t:Nat):Bool:=match Po u c t with
 | some x=>enX u c model room t x
 | none=>false
def A9k (u:Ak) (c:Ac) (model:Int) (t:Nat) (x:Ay):Ac:=Hs u c model t x (Eu u c t x.e) (Eu u c t x.f) (Lj c t x.loc) (c.mem.getD x.loc.toNat 0) (c.pc.getD t 0) (c.regs.getD t []) (c.buf.getD t [])
def Um (u:Ak) (c:Ac) (model room:Int) (t:Nat):Ac×Bool:=match Po u c t with
 | some x=>if enX u c model room t x=true then(A9k u c model t x,true) else(c,false)
 | none=>(c,false)
def Gy (c:Ac) (model:Int) (t:Nat) (loc:Int):Ac×Bool:=match Yz (c.buf.getD t []) model loc with
 | some i=>match (c.buf.getD t [])[i]? with
   | some x=>(Tf c t i (c.buf.getD t []) x,true)
   | none=>(c,false)
 | none=>(c,false)
theorem A46 {u:Ak} {c:Ac} {t:Nat} {l:List OpS} (hm:2≤u.mod∧u.mod≤16) (hl:l.length < 1000000):0≤Eu u c t l∧Eu u c t l < u.mod:=by
 unfold Eu Aej
 cases h:Nq l u.mod (c.regs.getD t []) [] [] with
 | false=>exact⟨Int.le_refl 0,show(0:Int) < u.mod by omega⟩
 | true =>
  obtain⟨v,hv,h1,h2⟩:=Acp h hl
  rw[As,hv]
  exact⟨h1,h2⟩
theorem Alw {b:List A2} {loc n:Int} (h:Qc b loc=some n):∃ x ∈ b,x.n=n:=by
 unfold Qc at h
 obtain⟨x,hx,rfl⟩:=Option.map_eq_some_iff.1 h
 exact⟨x,by simpa using List.mem_of_find?_eq_some hx,rfl⟩
section
variable {u:Ak} {c:Ac} {model room:Int}
theorem Ak2 (hu:C7 u=true) (h:D2 u c model room) (t loc:Int):0≤Lj c t loc∧Lj c t loc < u.mod:=by
 have hh:=Cc hu
 unfold Lj
 split
 ·omega
 ·rename_i g
  have tl:t.toNat < c.buf.length:=by omega
  have e1:c.buf.getD t.toNat []=c.buf[t.toNat]:=by rw[List.getD_eq_getElem?_getD,A6 tl];rfl
  rw[e1]
  split
  ·rename_i n hn
   obtain⟨x,hx,rfl⟩:=Alw hn
   have t0:t.toNat < u.regs.length:=by have:=h.lbuf;omega
   have t1:t.toNat < c.pc.length:=by have:=h.lpc;omega
   have t2:t.toNat < c.regs.length:=by have:=h.lregs;omega
   have H:=h.thr t.toNat _ _ _ _ _ (A6 t1) (A6 t2) (A6 tl) (A6 (show t.toNat < u.code.length by omega)) (A6 t0)
   exact(H.buf.1 x hx).2.2
  ·have ll:loc.toNat < c.mem.length:=by omega
   rw[List.getD_eq_getElem?_getD,A6 ll]
   exact h.mem _ (List.getElem_mem ll)
theorem Ac1 (hu:C7 u=true) (h:D2 u c model room) (i:Nat):0≤c.mem.getD i 0∧c.mem.getD i 0 < u.mod:=by
 have hh:=Cc hu
 rw[List.getD_eq_getElem?_getD]
 cases e:c.mem[i]? with
 | none=>exact⟨by decide,by simp;omega⟩
 | some x=>exact h.mem x (List.mem_of_getElem? e)
theorem Agq (hu:C7 u=true) (hm:1≤model∧model≤3) (h:D2 u c model room) {t:Nat} (ht:t < u.regs.length) (hl:∀ code ∈ u.code,∀ x ∈ code,x.e.length < 1000000∧x.f.length < 1000000):D2 u (Um u c model room t).1 model room:=by
 unfold Um
 split
 ·rename_i x hx
  split
  ·rename_i he
   have hh:=Cc hu
   have t1:t < c.pc.length:=by have:=h.lpc;omega
   have t2:t < c.regs.length:=by have:=h.lregs;omega
   have t3:t < c.buf.length:=by have:=h.lbuf;omega
   have t4:t < u.code.length:=by omega
   unfold Po at hx
   rw[A6 t1,A6 t4] at hx
   simp only at hx
   split at hx
   ·rename_i p0
    have e1:c.pc.getD t 0=c.pc[t]:=by rw[List.getD_eq_getElem?_getD,A6 t1];rfl
    have e2:c.regs.getD t []=c.regs[t]:=by rw[List.getD_eq_getElem?_getD,A6 t2];rfl
    have e3:c.buf.getD t []=c.buf[t]:=by rw[List.getD_eq_getElem?_getD,A6 t3];rfl
    have hxl:=hl _ (List.getElem_mem t4) x (List.mem_of_getElem? hx)
    have hop:x.op≠22:=by intro e;unfold enX at he;rw[if_pos e] at he;cases he
    unfold A9k
    rw[e1,e2,e3]
    refine Aeu hu hm h (A6 t1) (A6 t2) (A6 t3) (A6 t4) (A6 ht) hx hop (A46 (by omega) hxl.1) (A46 (by omega) hxl.2) (Ak2 hu h _ _) (Ac1 hu h _) (fun h4=>?_)
    unfold enX at he
    rw[if_neg hop,if_pos h4,e3] at he
    refine⟨fun m2=>?_,fun m3=>?_⟩
    ·rw[m2] at he;simpa [A2y] using he
    ·rw[m3] at he;simp[A2y,A5i] at he;exact of_decide_eq_true he
   ·cases hx
  ·exact h
 ·exact h
theorem Ye (hu:C7 u=true) (h:D2 u c model room) {t:Nat} (ht:t < u.regs.length) (loc:Int):D2 u (Gy c model t loc).1 model room:=by
 have hh:=Cc hu
 have t3:t < c.buf.length:=by have:=h.lbuf;omega
 have e3:c.buf.getD t []=c.buf[t]:=by rw[List.getD_eq_getElem?_getD,A6 t3];rfl
 unfold Gy
 rw[e3]
 split
 ·split
  ·rename_i x hx
   exact Aau h (A6 t3) hx ht (by omega)
  ·exact h
 ·exact h
end
noncomputable def Xt {α:Type} (enc:α→List AV) (f:α→AV) (args:List AV):Option AV:=by
 classical
 exact if h:∃ x,args=enc x then some (f h.choose) else none
theorem Acl {α:Type} {enc:α→List AV} {f:α→AV} (hi:∀ x y,enc x=enc y→x=y) (x:α):Xt enc f (enc x)=some (f x):=by
 have h:∃ y,enc x=enc y:=⟨x,rfl⟩
 unfold Xt
 rw[dif_pos h]
 exact congrArg (fun z=>some (f z)) (hi _ _ h.choose_spec).symm
theorem Aix (x y:Ac) (h:aC x=aC y):x=y:=by
 cases x;cases y
 simp only[aC,Cj,AV.agg.injEq,List.cons.injEq,and_true] at h
 obtain⟨h1,h2,h3,h4⟩:=h
 have e2:∀ a b:List Int,Ag a=Ag b→a=b:=fun a b h=>V0 (by simpa only [Ag,List.cons.injEq,and_true] using h)
 have e3:∀ a b:A2,At a=At b→a=b:=fun a b h=>by
  cases a;cases b
  simp only[At,List.cons.injEq,AV.int.injEq,true_and,and_true] at h
  simp[h.1,h.2]
 have e4:∀ a b:List A2,An a=An b→a=b:=fun a b h=>by
  simp only[An,List.cons.injEq,and_true] at h
  exact Oh e3 (AV.sl.inj h).2
 simp[V0 h1,Oh e2 (AV.sl.inj h2).2,V0 h3,Oh e4 (AV.sl.inj h4).2]
abbrev A90:={p:Ak×Ac×Int×Int×Nat // C7 p.1=true∧G6 p.1=true∧(1≤p.2.2.1∧p.2.2.1≤3)∧(1≤p.2.2.2.1∧p.2.2.2.1≤4)∧D2 p.1 p.2.1 p.2.2.1 p.2.2.2.1∧p.2.2.2.2 < p.1.regs.length}
def Vi (p:A90):List AV:=[aU p.1.1,aC p.1.2.1,.int .i64 p.1.2.2.1,.int .i64 p.1.2.2.2.1,.int .i64 (p.1.2.2.2.2:Int)]
theorem Ad2 (x y:A90) (h:Vi x=Vi y):x=y:=by
 obtain⟨⟨a,b,c,d,e⟩,hx⟩:=x
 obtain⟨⟨a',b',c',d',e'⟩,hy⟩:=y
 simp only[Vi,List.cons.injEq] at h
 obtain⟨h1,h2,h3,h4,h5,_⟩:=h
 have e1:=Arl _ _ h1
 have e2:=Aix _ _ h2
 injection h3 with _ h3;injection h4 with _ h4;injection h5 with _ h5
 have h5:=Int.ofNat.inj h5
 subst e1;subst e2;subst h3;subst h4;subst h5
 rfl
abbrev A19:={p:Ac×Int×Nat×Int // ∃ u room,C7 u=true∧(1≤p.2.1∧p.2.1≤3)∧(1≤room∧room≤4)∧D2 u p.1 p.2.1 room∧p.2.2.1 < u.regs.length}
def Pr (p:A19):List AV:=[aC p.1.1,.int .i64 p.1.2.1,.int .i64 (p.1.2.2.1:Int),.int .i64 p.1.2.2.2]
theorem A8w (x y:A19) (h:Pr x=Pr y):x=y:=by
 obtain⟨⟨a,b,c,d⟩,hx⟩:=x
 obtain⟨⟨a',b',c',d'⟩,hy⟩:=y
 simp only[Pr,List.cons.injEq] at h
 obtain⟨h1,h2,h3,h4,_⟩:=h
 have e1:=Aix _ _ h1
 injection h2 with _ h2;injection h3 with _ h3;injection h4 with _ h4
 have h3:=Int.ofNat.inj h3
 subst e1;subst h2;subst h3;subst h4
 rfl
noncomputable def Ar9 (p:A90):AV:=.tup [aC (Um p.1.1 p.1.2.1 p.1.2.2.1 p.1.2.2.2.1 p.1.2.2.2.2).1,.bool (Um p.1.1 p.1.2.1 p.1.2.2.1 p.1.2.2.2.1 p.1.2.2.2.2).2]
noncomputable def Aic (p:A19):AV:=.tup [aC (Gy p.1.1 p.1.2.1 p.1.2.2.1 p.1.2.2.2).1,.bool (Gy p.1.1 p.1.2.1 p.1.2.2.1 p.1.2.2.2).2]
theorem Ks {P:Program} {H:Bv} {X:Ext} {n:Nat} {f:FuncId} {g:List AV→Option AV} {args:List AV} {v:AV} (hx:X f=some g) (h:g args=some v):Al P H X (n+1) f args []=some (v,[]):=by
 simp only[Al,Qk,hx,h]
def XB0:Ext:=Qg []
theorem A6i:I1 Tryz.prog XB0:=Jo (l:=[]) (fun _ h=>by cases h)
theorem Sim.add_var {P:Program} {base:Nat} {S:Nat→Nat→Prop} {w:World} {hp:Hp} {φ:List Pl} (hs:Sim P base S w hp φ) {b:Nat} {vs ex:List Value} {E:TypeId} (t:TypeId) {cs:List AV} (hb:base≤b) (hh:w.heap[b]?=some (.cells (vs++ex).toArray E (0,0))) (hr:Reps S w hp φ cs vs) (h1:E5 vs) (hS:∀ o,¬ S b o) (hn:∀ i,Af φ i≠some b):Sim P base S w (hp++[.var t cs]) (φ++[.blk b]):=by
 have hE:HpExt hp φ (hp++[.var t cs]) (φ++[.blk b]):=HpExt.append hs.len _ _
 have hat:∀ i b',Af (φ++[.blk b]) i=some b'→(i < φ.length∧Af φ i=some b')∨(i=φ.length∧b'=b):=by
  intro i b' h
  unfold Af at h ⊢
  rcases Nat.lt_or_ge i φ.length with hi | hi
  ·rw[List.getElem?_append_left hi] at h;exact .inl ⟨hi,h⟩
  ·rw[List.getElem?_append_right hi] at h
   cases hk:i - φ.length with
   | zero=>rw[hk] at h;simp at h;exact .inr ⟨by omega,h.symm⟩
   | succ k=>rw[hk] at h;simp at h
 refine⟨by simp[hs.len],hs.low,hs.cell,fun id o ho=>?_,fun i j b' hi hj=>?_⟩
 ·rcases Nat.lt_or_ge id hp.length with hi | hi
  ·rw[List.getElem?_append_left hi] at ho
   exact(hs.obj id o ho).keep (.refl _ _) hE (List.getElem?_append_left (by rw[hs.len];exact hi)) fun b hb=>⟨rfl,fun _=>.rfl⟩
  ·rw[List.getElem?_append_right hi] at ho
   cases hk:id - hp.length with
   | succ k=>rw[hk] at ho;simp at ho
   | zero =>
    rw[hk] at ho
    simp at ho
    subst ho
    have:id=φ.length:=by rw[hs.len];omega
    subst this
    exact⟨b,vs,E,by simp,hb,⟨ex,hh⟩,Reps.mono (.refl _ _) hr hE,h1,hS⟩
 ·rcases hat i b' hi with ⟨i1,i2⟩ | ⟨i1,i2⟩<;>rcases hat j b' hj with ⟨j1,j2⟩ | ⟨j1,j2⟩
  ·exact hs.apart i j b' i2 j2
  ·subst j2;exact absurd i2 (hn i)
  ·subst i2;exact absurd j2 (hn j)
  ·omega
theorem Sim.more {P:Program} {base:Nat} {S S':Nat→Nat→Prop} {w:World} (hs:Sim P base S w [] []) (hS:∀ b o,S b o→S' b o) (hc:∀ b o,S' b o→S b o∨∃ v,stay w b o=some v∧v.2.2=(0,0)):Sim P base S' w [] [] :=
 ⟨rfl,hs.low,fun b o h=>(hc b o h).elim (fun h=>hs.cell b o h) fun⟨v,h1,h2⟩=>⟨v,h1,fun _=>h2⟩,fun id o ho=>by simp at ho,fun i j b hi=>by simp[Af] at hi⟩
theorem Ts {P:Program} {base:Nat} {S S':Nat→Nat→Prop} {w:World} {hp:Hp} {φ:List Pl} (hs:Sim P base S w hp φ) {id n cap:Nat} {v:Value} (h:Rep S w hp φ (.vsl id 0 n cap) v) {t:TypeId} {cs:List AV} (ho:hp[id]?=some (.var t cs)) {els:List (List AV)} (hl:els.length=n) (hn:n≤cs.length) (hcap:n≤cap∧cap≤maxLen) (hcl:∀ (k:Nat) (a:AV) (x:Value),k < n→cs[k]?=some a→Rep S w hp φ a x→∃ a',els[k]?=some [a']∧Rep S' w [] [] a' x) (hin:∀ b,φ[id]?=some (.blk b)→∀ o,o < n→S' b o):Rep S' w [] [] (.sl 1 els) v:=by
 obtain⟨b,hb,rfl⟩:=h.vsl_inv
 obtain⟨b',vs,E,g1,g2,⟨ex,g3⟩,g4,g5,g6⟩:=hs.obj id _ ho
 rw[hb] at g1;cases g1
 have hlv:=g4.length
 subst hl
 have e:els.length=(List.range els.length).length:=by simp
 have hget:∀ k,k < els.length→∃ x,vs[k]?=some x∧w.cell? ⟨b,k,none⟩=some x:=fun k hk=>by
  have hk':k < vs.length:=by omega
  refine⟨vs[k],A6 hk',?_⟩
  have h2:(vs++ex)[k]?=some vs[k]:=by rw[List.getElem?_append_left hk'];exact A6 hk'
  simp only[World.cell?,g3]
  simpa using h2
 have hR:Repss S' w els ((vs.take els.length).map fun x=>[x]):=by
  refine A8z (by rw[A5,List.length_take];omega) fun k el us e1 e2=>?_
  have hk:k < els.length:=(List.getElem?_eq_some_iff.1 e1).1
  obtain⟨x,hx,_⟩:=hget k hk
  rw[List.getElem?_map,List.getElem?_take,if_pos hk,hx] at e2
  cases e2
  have hk2:k < cs.length:=by omega
  obtain⟨a0,ha0,hr0⟩:=g4.get hx
  obtain⟨a',ha,hra⟩:=hcl k a0 x hk ha0 hr0
  rw[ha] at e1
  cases e1
  exact⟨.cons _ _ _ _ _ _ hra (.nil _ _),fun u hu=>by simp at hu;subst hu;exact g5 u (List.mem_of_getElem? hx)⟩
 refine .sl _ _ 1 els _ _ cap hR ⟨fun us hu=>?_,fun j us t u h1 h2=>?_⟩ ⟨hcap.1,hcap.2,fun h=>by cases h⟩
 ·obtain⟨x,_,rfl⟩:=List.mem_map.1 hu
  rfl
 ·rw[List.getElem?_map,List.getElem?_take] at h1
  split at h1
  ·rename_i hj
   obtain⟨x,hx,hc⟩:=hget j hj
   rw[hx] at h1
   cases h1
   cases t with
   | succ t=>simp at h2
   | zero =>
    cases h2
    exact⟨b,0,rfl,by simpa using hin b hb j hj,by simpa using hc⟩
  ·cases h1
theorem A33 {P:Program} {g:FuncId} {α:Type} {enc:α→List AV} {f:α→AV} (hc:∀ (x:α) (S:Nat→Nat→Prop) (vs:List Value) (w:World),(∀ b o,S b o→∃ u,stay w b o=some u)→Reps S w [] [] (enc x) vs→Calls P g vs.toArray w fun e w'=>∃ u S',e=.returned u∧Rep S' w' [] [] (f x) u∧(∀ b o,S' b o→∃ u,stay w' b o=some u∧(w.heap.size≤b→u.2.2=(0,0)))∧SExt S w S' w'∧(∀ b o,S' b o→S b o∨w.heap.size≤b)∧Below w.heap.size w w'):Nn P g (Xt enc f):=by
 intro args v h S w vs hS hr
 unfold Xt at h
 split at h
 ·rename_i hx
  cases h
  have:=hx.choose_spec
  generalize hx.choose=x at *
  subst this
  exact hc x S vs w hS hr
 ·cases h
structure Later (w:World) where
 world:World
 below:Below w.heap.size w world
def Later.self (w:World):Later w:=⟨w,Below.refl _ _⟩
instance (w:World):Nonempty (Later w):=⟨Later.self w⟩
theorem Later.cell {w:World} {p:Addr} {v:Value} (h:w.cell? p=some v):∀ s:Later w,s.world.cell? p=some v:=fun s=>cell_later s.below h
theorem Calls.later {P:Program} {f:FuncId} {args:Array Value} {w:World} {s:Later w} {v:Value} {Post:Ending→World→Prop} (h:Calls P f args s.world Post) (hp:∀ e w',Post e w'→e=.returned v∧Below s.world.heap.size s.world w') :
 Calls P f args s.world fun e w''=>e=.returned v∧∃ t:Later w,w''=t.world :=
 h.mono fun e w'' hpost=>⟨(hp e w'' hpost).1,⟨w'',s.below.trans ((hp e w'' hpost).2.mono s.below.size)⟩,rfl⟩
def VarAt (w:World) (b k:Nat) (v:Value):Prop:=w.cell? ⟨b,k,none⟩=some v∧w.frozen? ⟨b,k,none⟩=false
theorem VarAt.lt {w:World} {b k:Nat} {v:Value} (h:VarAt w b k v):b < w.heap.size:=World.block_lt_of_cell? _ _ h.1
theorem VarAt.later {w w':World} {b k:Nat} {v:Value} (h:VarAt w b k v) (hb:Below w.heap.size w w'):VarAt w' b k v :=
 ⟨cell_later hb h.1,(hb.frozen (p:=⟨b,k,none⟩) h.lt).trans h.2⟩
theorem VarAt.new (w:World) (cs:Array Value) (E:TypeId) (k:Nat) (u:Value) (h:cs[k]?=some u):VarAt (w.alloc (.cells cs E)) w.heap.size k u:=by
 refine⟨by simp[h],?_⟩
 simp
theorem VarAt.set {w:World} {b k:Nat} {v:Value} (h:VarAt w b k v) (u:Value):VarAt (w.setCell ⟨b,k,none⟩ u) b k u :=
 ⟨World.cell?_setCell_same _ _ _ h.1,(World.frozen?_setCell _ _ _ _).trans h.2⟩
theorem VarAt.other {w:World} {b k:Nat} {v:Value} (h:VarAt w b k v) {p:Addr} (hp:p.block≠b∨p.off≠k) (u:Value):VarAt (w.setCell p u) b k v:=by
 refine⟨?_,(World.frozen?_setCell _ _ _ _).trans h.2⟩
 rw[World.cell?_setCell_other]
 ·exact h.1
 ·rintro rfl
  simp at hp
theorem VarAt.drew {w:World} {b k:Nat} {v:Value} (h:VarAt w b k v) (n:Nat):VarAt (w.drewN n) b k v:=h.later (below_drewN (Below.refl _ _) n)
end Go.Proofs.YtfabdppicogkmaaGreat
end
