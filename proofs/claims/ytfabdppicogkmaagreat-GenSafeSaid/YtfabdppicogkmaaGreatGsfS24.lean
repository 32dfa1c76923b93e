/- Parts of the proofs: what they lean on. Conditions: none. -/
import Derived.Test.YtfabdppicogkmaaGreatGsfS23
section
namespace Go.Proofs.YtfabdppicogkmaaGreat
set_option linter.unusedVariables false
set_option linter.unusedSimpArgs false
set_option maxRecDepth 100000
def Als (r:LR (Int×Int) (Int×Int)):Int×Int:=match r with
 | .out x=>x
 | .ret x=>x
theorem A87 {mod:Int} {l:List Int} (hl:∀ v ∈ l,inR mod v) {n:Int} (hn:0≤n∧n < (l.length:Int)):idx l n=some (l.getD n.toNat 0)∧inR mod (l.getD n.toNat 0):=by
 have h:n.toNat < l.length:=by omega
 rw[P4 hn.1,List.getD_eq_getElem?_getD,A6 h]
 exact⟨rfl,hl _ (List.getElem_mem h)⟩
theorem Aca {R:List Int} {j:Nat} (h:j < R.length):R.reverse[R.length - 1 - j]?=some (R.getD j 0):=by
 rw[List.getElem?_reverse (by omega),List.getD_eq_getElem?_getD]
 have:R.length - 1 - (R.length - 1 - j)=j:=by omega
 rw[this,A6 h];rfl
theorem take_set {α:Type} (v:α):∀ (l:List α) (n:Nat),n < l.length→List.take (n+1) (l.set n v)=l.take n++[v]
 | [],n,h=>by simp at h
 | a :: l,0,h=>by simp
 | a :: l,n+1,h=>by
  rw[List.set_cons_succ,List.take_succ_cons,List.take_succ_cons,take_set v l n (by simpa using h)];rfl
theorem Aco {R:List Int} {t:Nat} (v:Int) (h:1≤t∧t≤R.length):List.take (R.length - t+1) (R.reverse.set (R.length - t) v)=(v :: R.drop t).reverse:=by
 rw[take_set v _ _ (by rw[List.length_reverse];omega),List.take_reverse,List.reverse_cons,show R.length - (R.length - t)=t by omega]
theorem Aqm (n:Nat) (l:List OpS) (hl:l.length < 1000000) {k:Nat} (hk:l.length < k):(Cn n l k 0 0 0).map Als=some (Jv l (0,0)):=by
 refine Oy l (fun k i s=>(Cn n l k s.1 s.2 (i:Int)).map Als) (fun l s=>some (Jv l s)) (fun i s=>0≤s.1∧s.1≤i∧0≤s.2∧s.2≤i) (s:=(0,0)) hk (by simp) ?_ ?_
 ·intro k s hs
  rw[Cn,Ap (by omega)];rfl
 ·rintro k i ⟨a,b⟩ x hi hx ⟨h1,h2,h3,h4⟩ ih
  dsimp only at h1 h2 h3 h4 ⊢
  have hlt:(i:Int) < (l.length:Int):=by omega
  rw[Cn,Ad hlt,Pn hx,Be i (by omega),G3 (n:=a+1) (by omega),G3 (n:=a - 1) (by omega)]
  simp only[A4,Jv]
  have go:∀ d:Int,(d=0∨d=1∨d= -1)→0≤a+d→(Cn n l k (a+d) (if b < a+d then a+d else b) ((i+1:Nat):Int)).map Als=some (Jv (l.drop (i+1)) (a+d,if b < a+d then a+d else b)):=by
   intro d hd h0
   have hm:0≤(if b < a+d then a+d else b)∧(if b < a+d then a+d else b)≤((i+1:Nat):Int):=by split<;>omega
   exact ih (_,_) ⟨h0,by dsimp only;omega,hm.1,hm.2⟩
  by_cases c1:1≤x.op∧x.op≤4
  ·have ht:F1 x.op=0:=by unfold F1;rw[if_pos c1]
   rw[Ad c1.1,Ad c1.2,ht,if_neg (show ¬ a < 0 by omega)]
   exact go 1 (by omega) (by omega)
  by_cases c5:x.op=5
  ·rw[c5]
   have ht:F1 5=1:=rfl
   simp only[ht,show ¬ (5:Int)≤4 by omega,show(1:Int)≤5 by omega,show ¬ (6:Int)≤5 by omega,decide_true,decide_false,As,B3,beq_self_eq_true]
   by_cases c:1≤a
   ·rw[Ad c,if_neg (show ¬ a < 1 by omega)]
    have:=go 0 (by omega) (by omega)
    rw[Int.add_zero] at this
    simpa using this
   ·rw[Ap c,if_pos (show a < 1 by omega)];rfl
  by_cases c6:6≤x.op∧x.op≤14
  ·have ht:F1 x.op=2:=by unfold F1;rw[if_neg c1,if_neg c5,if_pos c6]
   simp only[Ad (show 1≤x.op by omega),Ap (show ¬ x.op≤4 by omega),Cg.2 c5,B3,Ad c6.1,Ad c6.2,ht]
   by_cases c:2≤a
   ·rw[Ad c,if_neg (show ¬ a < 2 by omega)]
    exact go (-1) (by omega) (by omega)
   ·rw[Ap c,if_pos (show a < 2 by omega)];rfl
  ·have ht:F1 x.op=1000000:=by unfold F1;rw[if_neg c1,if_neg c5,if_neg c6]
   rw[ht,if_pos (show a < 1000000 by omega),Cg.2 c5]
   simp only[B3]
   by_cases g:x.op < 1
   ·simp only[Ap (show ¬ 1≤x.op by omega),Ap (show ¬ 6≤x.op by omega)];rfl
   ·simp only[Ad (show 1≤x.op by omega),Ap (show ¬ x.op≤4 by omega),Ad (show 6≤x.op by omega),Ap (show ¬ x.op≤14 by omega)];rfl
theorem Aqr (n:Nat) (l:List OpS) (hl:l.length < 1000000) (hn:l.length+2 < n):Iq n l=some (Jv l (0,0)):=by
 obtain⟨n,rfl⟩:∃ j,n=j+1:=⟨n - 1,by omega⟩
 have:=Aqm n l hl (k:=n) (by omega)
 obtain⟨r,h1,h2⟩:=Option.map_eq_some_iff.1 this
 rw[Iq,h1]
 cases r with
 | out x=>obtain⟨a,b⟩:=x;exact congrArg some h2
 | ret x=>exact congrArg some h2
theorem Aoy (n:Nat) (a b:Int):G9 (n+1) a b=some (decide (0≤a∧a < b)):=by
 rw[G9]
 by_cases h:0≤a<;>simp[h]
theorem An3 (n:Nat) (l:List OpS) (regs:List Int) (own locs:Int) (hl:l.length < 1000000) (hn:l.length+4 < n):Hx n l regs own locs=some (Uz l regs own locs):=by
 obtain⟨n,rfl⟩:∃ j,n=j+2:=⟨n - 2,by omega⟩
 have hL:Cp (n+1) l regs own locs (n+1) 0=bif l.all (Rp regs own locs) then some (.out ()) else some (.ret false):=by
  refine A9c l (fun k i=>Cp (n+1) l regs own locs k (i:Int)) _ (fun k=>?_) (fun k i x hi hx=>?_) (by omega)
  ·rw[Cp,Ap (by omega)]
  ·rw[Cp,Ad (by omega),Pn hx,Be i (by omega)]
   simp only[A4,Aoy]
   generalize Cp (n+1) l regs own locs k ((i+1:Nat):Int)=r
   unfold Rp
   by_cases c1:x.op=1
   ·rw[if_pos c1,c1];rfl
   by_cases c2:x.op=2
   ·rw[if_neg c1,if_pos c2,c2];rfl
   by_cases c3:x.op=3
   ·rw[if_neg c1,if_neg c2,if_pos c3,c3];rfl
   rw[if_neg c1,if_neg c2,if_neg c3,Cg.2 c1,Cg.2 c2,Cg.2 c3]
   by_cases c4:x.op=4
   ·rw[if_pos c4,c4]
    by_cases g0:0≤x.t
    ·rw[if_pos g0]
     by_cases g1:x.t < (regs.length:Int)
     ·rw[P4 g0,A6 (by omega),decide_eq_true (show 0≤x.t∧x.t < (regs.length:Int) from⟨g0,g1⟩)]
      rfl
     ·rw[List.getElem?_eq_none (by omega),decide_eq_false (show ¬ (0≤x.t∧x.t < (regs.length:Int)) by omega)];rfl
    ·rw[if_neg g0,decide_eq_false (show ¬ (0≤x.t∧x.t < (regs.length:Int)) by omega)];rfl
   ·rw[if_neg c4,Cg.2 c4];rfl
 rw[Hx,hL,Uz]
 cases l.all (Rp regs own locs) with
 | false=>rfl
 | true =>
  simp only[As,A4,Aqr (n+1) l hl (by omega),Bool.true_and]
  rfl
theorem A9p (n:Nat) (mod:Int) (l:List Int) (hl:l.length < 1000000) (hn:l.length+2 < n):Hm n l mod=some (I7 mod l):=by
 obtain⟨n,rfl⟩:∃ j,n=j+2:=⟨n - 2,by omega⟩
 have hL:Ec (n+1) l mod (n+1) 0=bif I7 mod l then some (.out ()) else some (.ret false):=by
  refine A9c l (fun k i=>Ec (n+1) l mod k (i:Int)) _ (fun k=>?_) (fun k i x hi hx=>?_) (by omega)
  ·rw[Ec,Ap (by omega)]
  ·rw[Ec,Ad (by omega),Pn hx,A4,Aoy,Be i (by omega)];rfl
 rw[Hm,hL]
 cases I7 mod l<;>rfl
theorem Ar0 (n:Nat) (mod:Int) (all:List (List Int)) (hl:all.length < 1000000) (h2:∀ r ∈ all,r.length < 1000000) (h3:∀ r ∈ all,r.length+2 < n) {k:Nat} (hk:all.length < k) :
 Db n mod all k 0 []=bif all.all (I7 mod) then some (.out (Le all)) else some (.ret (0,false)):=by
 have:=Oy all (fun k i s=>Db n mod all k (i:Int) s) (fun l s=>bif l.all (I7 mod) then some (.out (s++Le l)) else some (.ret (0,false))) (fun i s=>s.length=i) (s:=[]) hk rfl (fun k s _=>?_) ?_
 ·exact this
 ·show Db n mod all (k+1) _ s=_
  rw[Db,Ap (by omega)];simp[Le]
 ·intro k i s x hi hx hs ih
  have hm:=List.mem_of_getElem? hx
  rw[Db,Ad (by omega),Pn hx,A4,A9p n mod x (h2 x hm) (h3 x hm),A4,A4,Ad (by omega),Be i (by omega),ih _ (by simp[hs]),List.all_cons]
  cases I7 mod x with
  | false=>rfl
  | true=>simp[Le]
theorem Oa (n:Nat) (c:Bool):De (n+1) c=some (b2i c):=by cases c<;>rfl
theorem Ara (n:Nat) {op a b mod:Int} (h:2≤mod∧mod≤16) (ha:inR mod a) (hb:inR mod b) (ho:6≤op∧op≤14):Jp (n+2) op a b mod=some (A17 op a b mod):=by
 have hm:=Agw h ha hb
 obtain⟨a0,a1⟩:=ha;obtain⟨b0,b1⟩:=hb
 have w1:IntKind.i64.wrap (a+b)=a+b:=G3 (by omega)
 have w2:IntKind.i64.wrap (a*b)=a*b:=G3 (by omega)
 have w3:IntKind.i64.wrap (a - b)=a - b:=G3 (by omega)
 have w4:IntKind.i64.wrap (a - b+mod)=a+mod - b:=by rw[G3 (by omega)];omega
 have w5:¬ mod=0:=by omega
 rcases A8k op with h | h | h | h | h | h | h | h | h | h | h | h | h | h | h | h
 all_goals try omega
 all_goals subst h;rw[Jp]
 ·simp only[Ap w5,w1];rfl
 ·simp only[Ap w5,w3,w4];rfl
 ·simp only[Ap w5,w2];rfl
 ·simp only[Oa];rfl
 ·simp only[Oa];rfl
 ·simp only[Oa];rfl
 ·simp only[Oa];rfl
 ·simp only[Oa]
  show(bif a != 0 then _ else _)=some (b2i (a*b != 0))
  by_cases ca:a=0
  ·subst ca;simp
  ·have e:(a*b != 0)=(b != 0):=by
    by_cases cb:b=0
    ·subst cb;simp
    ·have:¬ a*b=0:=fun h=>(Int.mul_eq_zero.1 h).elim ca cb
     rw[bne_iff_ne.2 this,bne_iff_ne.2 cb]
   have:(a != 0)=true:=by simpa using ca
   rw[this,e];rfl
 ·simp only[Oa]
  show(bif a != 0 then _ else _)=some (b2i (a+b != 0))
  by_cases ca:a=0
  ·subst ca;simp
  ·have:(a != 0)=true:=by simpa using ca
   have e:(a+b != 0)=true:=by simp;omega
   rw[this,e];rfl
theorem Arm (n:Nat) (l:List OpS) {mod:Int} {own:List Int} {all:List (List Int)} {mem:List Int} (G:Amg mod own all mem) (hl:l.length < 1000000) (hok:∀ x ∈ l,Rp (Le all) own.length mem.length x=true) (hr:(Jv l (0,0)).1≠ -1) {k:Nat} (hk:l.length < k) :
 Ce (n+2) l mod own all mem k 0 []=some (.out (Nu mod own all mem l []).reverse):=by
 refine Oy l (fun k i R=>Ce (n+2) l mod own all mem k (i:Int) R.reverse) (fun l R=>some (.out (Nu mod own all mem l R).reverse))
  (fun i R=>R.length≤i∧(∀ v ∈ R,inR mod v)∧∃ m,(Jv (l.drop i) ((R.length:Int),m)).1≠ -1) (s:=[]) hk ⟨Nat.le_refl _,by simp,0,hr⟩ ?_ ?_
 ·intro k s hs
  rw[Ce,Ap (by omega)];rfl
 ·rintro k i R x hi hx ⟨r1,r2,m,r3⟩ ih
  have hlt:(i:Int) < (l.length:Int):=by omega
  have hd:l.drop i=x :: l.drop (i+1):=by rw[List.drop_eq_getElem_cons hi];rw[A6 hi] at hx;rw[Option.some.inj hx]
  have hmem:x ∈ l:=List.mem_of_getElem? hx
  have ho:=hok x hmem
  have hmod:=G.h
  rw[hd,Jv] at r3
  have ht:¬ ((R.length:Int) < F1 x.op):=by
   intro c;rw[if_pos c] at r3;exact r3 rfl
  rw[if_neg ht] at r3
  rw[Ce,Ad hlt,Pn hx,Be i (by omega)]
  have c0:¬ mod=0:=by omega
  simp only[A4,Nu,List.length_reverse,Ap c0,Ad (show(R.length+1)*9≤140737488355328 by omega)]
  have push:∀ v,inR mod v→F1 x.op=0→Ce (n+2) l mod own all mem k ((i+1:Nat):Int) (R.reverse++[v])=some (.out (Nu mod own all mem (l.drop (i+1)) (v :: R)).reverse):=by
   intro v hv h0
   have:=ih (v :: R) ⟨by simp;omega,by simpa using⟨hv,r2⟩,_,by
    rw[List.length_cons]
    rw[h0] at r3
    have e:((R.length+1:Nat):Int)=(R.length:Int)+(1 - 0):=by omega
    rw[e];exact r3⟩
   rw[← this,List.reverse_cons]
  unfold Rp at ho
  by_cases c1:x.op=1
  ·rw[if_pos c1,Ai] at ho
   simp only[c1,if_true,beq_self_eq_true,As]
   exact push _ (A5d hmod.1 ho.1) (by rw[c1];rfl)
  by_cases c2:x.op=2
  ·rw[if_neg c1,if_pos c2,Ai] at ho
   simp only[c1,c2,if_true,if_false,beq_self_eq_true,As,B3,Cg.2 c1,show((2:Int)==1)=false from rfl,show ¬ (2:Int)=1 by omega]
   obtain⟨e1,e2⟩:=A87 G.own ho
   rw[e1]
   exact push _ e2 (by rw[c2];rfl)
  by_cases c3:x.op=3
  ·rw[if_neg c1,if_neg c2,if_pos c3,Ai] at ho
   simp only[c3,if_true,if_false,beq_self_eq_true,As,B3,show((3:Int)==1)=false from rfl,show((3:Int)==2)=false from rfl,show ¬ (3:Int)=1 by omega,show ¬ (3:Int)=2 by omega]
   obtain⟨e1,e2⟩:=A87 G.mem ho
   rw[e1]
   exact push _ e2 (by rw[c3];rfl)
  rw[if_neg c1,if_neg c2,if_neg c3] at ho
  rw[Cg.2 c1,Cg.2 c2,Cg.2 c3,if_neg c1,if_neg c2,if_neg c3]
  by_cases c4:x.op=4
  ·rw[if_pos c4] at ho
   rw[c4,if_pos rfl]
   split at ho
   ·rename_i g0
    split at ho
    ·rename_i r hr
     rw[Le,List.getElem?_map] at hr
     obtain⟨u,hu,rfl⟩:=Option.map_eq_some_iff.1 hr
     rw[Ai] at ho
     have hu':idx all x.t=some u:=by rw[P4 g0,hu]
     obtain⟨e1,e2⟩:=A87 (G.all u (List.mem_of_getElem? hu)) ho
     have e3:all.getD x.t.toNat []=u:=by rw[List.getD_eq_getElem?_getD,hu];rfl
     simp only[B3,beq_self_eq_true,As,hu',A4,e1,e3]
     exact push _ e2 (by rw[c4];rfl)
    ·cases ho
   ·cases ho
  rw[if_neg c4,Cg.2 c4]
  have h5:5≤x.op∧x.op≤14:=by unfold F1 at ht;repeat' split at ht
                             all_goals omega
  have tk:F1 x.op=if x.op=5 then 1 else 2:=by unfold F1;rw[if_neg (by omega)];split
                                              ·rfl
                                              ·rw[if_pos (by omega)]
  obtain⟨t,ht1,ht2,ht3⟩:∃ t:Nat,F1 x.op=t∧1≤t∧t≤R.length:=⟨(F1 x.op).toNat,by rw[tk];split<;>rfl,by rw[tk];split<;>decide,by rw[tk] at ht ⊢;split at ht<;>split<;>omega⟩
  have gin:∀ j,j < R.length→inR mod (R.getD j 0):=fun j hj=>by
   rw[List.getD_eq_getElem?_getD,A6 hj];exact r2 _ (List.getElem_mem hj)
  have p2:idx R.reverse ((R.length:Int) - 1)=some (R.getD 0 0):=by
   rw[show(R.length:Int) - 1=((R.length - 1 - 0:Nat):Int) by omega,Oo,Aca (by omega)]
  have fin:∀ v,inR mod v→Ce (n+2) l mod own all mem k ((i+1:Nat):Int) (v :: R.drop t).reverse=some (.out (Nu mod own all mem (l.drop (i+1)) (v :: R.drop t)).reverse):=by
   intro v hv
   refine ih (v :: R.drop t) ⟨by simp;omega,fun w hw=>by
    rcases List.mem_cons.1 hw with rfl | hw
    ·exact hv
    ·exact r2 w (List.mem_of_mem_drop hw),_,by
    rw[List.length_cons,List.length_drop]
    have e:((R.length - t+1:Nat):Int)=(R.length:Int)+(1 - F1 x.op):=by omega
    rw[e];exact r3⟩
  rw[tk] at ht1
  rw[G3 (n:=(R.length:Int) - 1) (by omega),G3 (n:=(R.length:Int) - 2) (by omega),p2]
  by_cases c5:x.op=5
  ·rw[if_pos c5] at ht1 ⊢
   obtain rfl:t=1:=by omega
   rw[c5]
   simp only[B3,As,beq_self_eq_true,A4,Oa]
   have e:=Aco (R:=R) (A17 5 0 (R.getD 0 0) mod) ⟨ht2,ht3⟩
   rw[List.take_of_length_le (by rw[List.length_set,List.length_reverse];omega)] at e
   rw[show((R.length:Int) - 1).toNat=R.length - 1 by omega]
   have e2:b2i (R.getD 0 0==0)=A17 5 0 (R.getD 0 0) mod:=rfl
   rw[e2,e]
   exact fin _ (Z0 hmod ⟨by omega,by omega⟩ (gin 0 (by omega)))
  ·rw[if_neg c5] at ht1 ⊢
   obtain rfl:t=2:=by omega
   have p1:idx R.reverse ((R.length:Int) - 2)=some (R.getD 1 0):=by
    rw[show(R.length:Int) - 2=((R.length - 1 - 1:Nat):Int) by omega,Oo,Aca (by omega)]
   rw[p1,Cg.2 c5]
   simp only[B3,A4,Ara n hmod (gin 1 (by omega)) (gin 0 (by omega)) (show 6≤x.op∧x.op≤14 by omega),List.length_set,List.length_reverse]
   have cc:(decide (0≤(R.length:Int) - 1)&&decide ((R.length:Int) - 1≤(R.length:Int)))=true:=by
    rw[decide_eq_true (by omega),decide_eq_true (by omega)];rfl
   rw[cc,As,show((R.length:Int) - 1).toNat=R.length - 2+1 by omega,show((R.length:Int) - 2).toNat=R.length - 2 by omega,Aco _ ⟨ht2,ht3⟩]
   exact fin _ (Z0 hmod (gin 1 (by omega)) (gin 0 (by omega)))
theorem Am8 (n:Nat) (l:List OpS) (mod:Int) (own:List Int) (all:List (List Int)) (mem:List Int) (hl:l.length < 10000) (ho:own.length < 10000) (ha:all.length < 10000) (hm:mem.length < 10000) (hr:∀ r ∈ all,r.length < 10000)
 (hn:l.length+10 < n) (n1:own.length+10 < n) (n2:all.length+10 < n) (n3:mem.length+10 < n) (n4:∀ r ∈ all,r.length+10 < n) (n5:10 < n):H6 n l mod own all mem=some (Aej l mod own all mem):=by
 obtain⟨n,rfl⟩:∃ j,n=j+3:=⟨n - 3,by omega⟩
 rw[H6]
 unfold Aej
 by_cases c1:mod < 2
 ·have:Nq l mod own all mem=false:=by rw[Nq,decide_eq_false (by omega)];rfl
  rw[Ad c1,this];rfl
 by_cases c2:16 < mod
 ·have:Nq l mod own all mem=false:=by rw[Nq,decide_eq_false (by omega)];rfl
  rw[Ap c1,Ad c2,this];rfl
 have b3:=Ar0 (n+2) mod all (by omega) (fun r h=>by have:=hr r h;omega) (fun r h=>by have:=n4 r h;omega) (k:=n+2) (by omega)
 have b4:=An3 (n+2) l (Le all) own.length mem.length (by omega) (by omega)
 rw[Ap c1,Ap c2,A9p _ _ own (by omega) (by omega),A9p _ _ mem (by omega) (by omega),b3]
 have e:Nq l mod own all mem=(I7 mod own&&(I7 mod mem&&(all.all (I7 mod)&&Uz l (Le all) own.length mem.length))):=by
  rw[Nq,decide_eq_true (by omega),Bool.true_and]
 simp only[A4]
 cases g1:I7 mod own with
 | false=>rw[e,g1];rfl
 | true =>
 cases g0:I7 mod mem with
 | false=>rw[e,g1,g0];rfl
 | true =>
 cases g2:all.all (I7 mod) with
 | false=>rw[e,g1,g0,g2];rfl
 | true =>
 simp only[As,A4,b4]
 cases g3:Uz l (Le all) own.length mem.length with
 | false=>rw[e,g1,g0,g2,g3];rfl
 | true =>
  have ok:Nq l mod own all mem=true:=by rw[e,g1,g0,g2,g3];rfl
  obtain⟨G,h1,h2⟩:=Acm ok
  obtain⟨v,hv,_⟩:=Acp ok (by omega)
  have hL:=Arm n l G (by omega) h1 (by rw[h2];decide) (k:=n+2) (by omega)
  rw[ok,hL,hv]
  rfl
theorem S8 (k:Nat) (h:k < 4611686018427387904):IntKind.i64.wrap ((k:Int) - 1)=(k:Int) - 1:=G3 (by omega)
theorem Aoc (n:Nat) (b:List A2) (loc:Int) (hb:b.length < 1000000):∀ (j k i c:Nat),i+j=b.length→j < k→c≤i→Dl n b loc k (c:Int) (i:Int)=some (.out ((c+A5i (b.drop i) loc:Nat):Int)):=by
 intro j
 induction j with
 | zero =>
  intro k i c hi hk hc
  obtain⟨k,rfl⟩:∃ j,k=j+1:=⟨k - 1,by omega⟩
  rw[Dl,Ap (by omega),List.drop_of_length_le (by omega)]
  rfl
 | succ j ih =>
  intro k i c hi hk hc
  obtain⟨k,rfl⟩:∃ j,k=j+1:=⟨k - 1,by omega⟩
  have hlt:i < b.length:=by omega
  rw[Dl,Ad (by omega),Bu hlt,A4,Be i (by omega),Be c (by omega),List.drop_eq_getElem_cons hlt]
  cases h:(b[i].loc==loc) with
  | true =>
   rw[As,ih k (i+1) (c+1) (by omega) (by omega) (by omega)]
   simp only[A5i,List.filter_cons,h,if_true,List.length_cons]
   congr 3;omega
  | false =>
   rw[B3,ih k (i+1) c (by omega) (by omega) (by omega)]
   simp only[A5i,List.filter_cons,h,Bool.false_eq_true,if_false]
theorem Alm (n:Nat) (b:List A2) (loc:Int) (hb:b.length < 1000000) (hn:b.length+2 < n):Hv n b loc=some (A5i b loc:Int):=by
 obtain⟨n,rfl⟩:∃ j,n=j+1:=⟨n - 1,by omega⟩
 have:=Aoc n b loc hb b.length n 0 0 (by omega) (by omega) (by omega)
 rw[Hv,show(0:Int)=((0:Nat):Int) from rfl,this,A4]
 simp
theorem App (n:Nat) (b:List A2) (model room loc:Int) (hb:b.length < 1000000) (hn:b.length+4 < n):In n b model room loc=some (A2y b model room loc):=by
 obtain⟨n,rfl⟩:∃ j,n=j+1:=⟨n - 1,by omega⟩
 rw[In,A2y]
 by_cases c2:model=2
 ·rw[if_pos c2,c2];rfl
 rw[if_neg c2,Cg.2 c2,B3]
 by_cases c3:model=3
 ·rw[if_pos c3,beq_iff_eq.2 c3,As,Alm n b loc hb (by omega)];rfl
 ·rw[if_neg c3,Cg.2 c3];rfl
theorem Acb (n:Nat) (b:List A2) (loc:Int) (hb:b.length < 1000000):∀ (j k:Nat),j≤b.length→j < k→E8 n b loc k ((j:Int) - 1)=some (match Qc (b.take j) loc with | some x=>.ret (x,true) | none=>.out ())
 | 0,k,_,hk=>by
  obtain⟨k,rfl⟩:∃ j,k=j+1:=⟨k - 1,by omega⟩
  rw[E8,Ap (by omega),List.take_zero];rfl
 | j+1,k,hj,hk=>by
  obtain⟨k,rfl⟩:∃ j,k=j+1:=⟨k - 1,by omega⟩
  have hlt:j < b.length:=by omega
  rw[show((j+1:Nat):Int) - 1=(j:Int) by omega,E8,Ad (by omega)]
  simp only[Bu hlt,A4,S8 j (by omega)]
  have e:Qc (b.take (j+1)) loc=if(b[j].loc==loc)=true then some b[j].n else Qc (b.take j) loc:=by
   unfold Qc
   rw[List.take_add_one,A6 hlt,Option.toList_some,List.reverse_append,List.reverse_singleton,List.singleton_append,List.find?_cons]
   cases b[j].loc==loc<;>rfl
  rw[e,Acb n b loc hb j k (by omega) (by omega)]
  cases b[j].loc==loc<;>rfl
theorem Aps (n:Nat) (b:List A2) (loc:Int) (hb:b.length < 1000000) (hn:b.length+2 < n):Ir n b loc=some (match Qc b loc with | some x=>(x,true) | none=>(0,false)):=by
 obtain⟨n,rfl⟩:∃ j,n=j+1:=⟨n - 1,by omega⟩
 rw[Ir,S8 _ (by omega),Acb n b loc hb b.length n (Nat.le_refl _) (by omega),List.take_length,A4]
 cases Qc b loc<;>rfl
def Pp (model loc:Int) (x:A2):Bool:=x.loc==loc || (decide (model=2)&&decide (loc < 0))
def Wi (o:Option Nat):Int:=match o with | some i=>(i:Int) | none=> -1
theorem Ac3 (n:Nat) (b:List A2) (model loc:Int) (hb:b.length < 1000000):∀ (j k:Nat),j≤b.length→j < k→Cz n b model loc k (Wi (((b.drop j).findIdx? (Pp model loc)).map (·+j))) ((j:Int) - 1)=some (.out (Wi (b.findIdx? (Pp model loc))))
 | 0,k,_,hk=>by
  obtain⟨k,rfl⟩:∃ j,k=j+1:=⟨k - 1,by omega⟩
  rw[Cz,Ap (by omega),List.drop_zero]
  cases b.findIdx? (Pp model loc)<;>rfl
 | j+1,k,hj,hk=>by
  obtain⟨k,rfl⟩:∃ j,k=j+1:=⟨k - 1,by omega⟩
  have hlt:j < b.length:=by omega
  rw[show((j+1:Nat):Int) - 1=(j:Int) by omega,Cz,Ad (by omega)]
  simp only[Bu hlt,A4,S8 j (by omega)]
  have ih:=Ac3 n b model loc hb j k (by omega) (by omega)
  rw[List.drop_eq_getElem_cons hlt,List.findIdx?_cons] at ih
  cases hp:Pp model loc b[j] with
  | true =>
   rw[hp,if_pos rfl] at ih
   have ih':Cz n b model loc k (j:Int) ((j:Int) - 1)=some (.out (Wi (b.findIdx? (Pp model loc)))):=by
    rw[← ih]
    simp[Wi]
   cases h1:(b[j].loc==loc) with
   | true=>rw[As];exact ih'
   | false =>
    rw[B3]
    unfold Pp at hp
    rw[h1,Bool.false_or,A8,Ai,Ai] at hp
    rw[beq_iff_eq.2 hp.1,As,Ad hp.2]
    exact ih'
  | false =>
   rw[hp] at ih
   simp only[Bool.false_eq_true,if_false,Option.map_map] at ih
   have ih':Cz n b model loc k (Wi (((b.drop (j+1)).findIdx? (Pp model loc)).map (·+(j+1)))) ((j:Int) - 1)=some (.out (Wi (b.findIdx? (Pp model loc)))):=by
    rw[← ih]
    congr 2
    cases (b.drop (j+1)).findIdx? (Pp model loc) with
    | none=>rfl
    | some z=>simp only[Option.map_some,Function.comp];rw[Nat.add_assoc,Nat.add_comm 1 j]
   unfold Pp at hp
   rw[Bool.or_eq_false_iff,Bool.and_eq_false_iff,decide_eq_false_iff_not,decide_eq_false_iff_not] at hp
   rw[hp.1,B3]
   rcases hp.2 with q | q
   ·rw[Cg.2 q,B3];exact ih'
   ·rw[Ap q]
    cases (model==2)<;>exact ih'
def Rt (at':Int) (i:Nat) (l:List A2):List A2:=if(i:Int)≤at' then l.eraseIdx (at'.toNat - i) else l
theorem Aiq (b:List A2) (at':Int) (L:Nat→Nat→List A2→Option (LR (List A2) (List A2×A2×Bool)))
 (h0:∀ k s,L (k+1) b.length s=some (.out s)) (h1:∀ k i s (hi:i < b.length),s.length≤i→L (k+1) i s=if(i:Int)≠at' then L k (i+1) (s++[b[i]]) else L k (i+1) s):∀ (j k i:Nat) (s:List A2),i+j=b.length→j < k→s.length≤i→L k i s=some (.out (s++Rt at' i (b.drop i))):=by
 intro j
 induction j with
 | zero =>
  intro k i s hi hk hs
  obtain⟨k,rfl⟩:∃ j,k=j+1:=⟨k - 1,by omega⟩
  obtain rfl:i=b.length:=by omega
  rw[h0,List.drop_length,Rt]
  split<;>simp
 | succ j ih =>
  intro k i s hi hk hs
  obtain⟨k,rfl⟩:∃ j,k=j+1:=⟨k - 1,by omega⟩
  have hlt:i < b.length:=by omega
  rw[h1 k i s hlt hs,List.drop_eq_getElem_cons hlt]
  by_cases c:(i:Int)=at'
  ·rw[if_neg (by simpa using c),ih k (i+1) s (by omega) (by omega) (by omega)]
   simp only[Rt]
   rw[if_neg (by omega),if_pos (by omega),show at'.toNat - i=0 by omega]
   rfl
  ·rw[if_pos c,ih k (i+1) _ (by omega) (by omega) (by simp;omega)]
   simp only[Rt]
   by_cases c2:(i:Int)≤at'
   ·rw[if_pos (by omega),if_pos c2,show at'.toNat - i=(at'.toNat - (i+1))+1 by omega,List.eraseIdx_cons_succ];simp
   ·rw[if_neg (by omega),if_neg c2];simp
theorem A9b (b:List A2):Rt (-1) 0 b=b:=by rw[Rt,if_neg (by omega)]
theorem Aqi (b:List A2) (i:Nat):Rt (i:Int) 0 b=b.eraseIdx i:=by rw[Rt,if_pos (by omega)];simp
theorem Ajp (n:Nat) (b:List A2) (model loc:Int) (hb:b.length < 1000000) (hn:b.length+3 < n):Jq n b model loc=some (match Yz b model loc with
 | some i=>(match b[i]? with | some x=>(b.eraseIdx i,x,true) | none=>(b,⟨0,0⟩,false))
 | none=>(b,⟨0,0⟩,false)):=by
 obtain⟨n,rfl⟩:∃ j,n=j+1:=⟨n - 1,by omega⟩
 have h0:=Ac3 n b model loc hb b.length n (Nat.le_refl _) (by omega)
 rw[List.drop_length] at h0
 have h0':Cz n b model loc n (-1) ((b.length:Int) - 1)=some (.out (Wi (b.findIdx? (Pp model loc)))):=h0
 have hpI:Yz b model loc=match b.findIdx? (Pp model loc) with
  | some i=>if model=2∧0 < i∨(model≠2∧model≠3) then none else some i
  | none=>none:=rfl
 have st:∀ (i:Nat) (s:List A2) (h:i < b.length),s.length≤i→decide ((s.length+1)*17≤140737488355328)=true∧idx b (i:Int)=some b[i]:=fun i s h1 h2=>⟨decide_eq_true (by omega),Bu h1⟩
 have g:∀ (at':Int) (L:Nat→Int→List A2→Option (LR (List A2) (List A2×A2×Bool))),(∀ k i s,L (k+1) i s=(bif decide (i < ((b.length:Nat):Int)) then(bif (i != at') then((idx b i).bind fun x32=>(bif decide ((s.length+1)*17≤140737488355328) then(L k (IntKind.i64.wrap (i+1)) (s++([x32]:List A2))) else none)) else(L k (IntKind.i64.wrap (i+1)) s)) else(some (.out s))))→L n 0 []=some (.out (Rt at' 0 b)):=by
  intro at' L hL
  have:=Aiq b at' (fun k i s=>L k (i:Int) s) (fun k s=>by rw[hL,Ap (by omega)]) (fun k i s hi hs=>by
   obtain⟨s1,s2⟩:=st i s hi hs
   rw[hL,Ad (by omega),Be i (by omega)]
   by_cases c:(i:Int)=at'
   ·rw[if_neg (by simpa using c),c,show(at' != at')=false by simp,B3]
   ·rw[if_pos c,bne_iff_ne.2 c,As,s2,A4,s1,As]) b.length n 0 [] (by omega) (by omega) (by simp)
  exact this
 have g1:=g (-1) (F7 n b) (fun k i s=>by rw[F7])
 have g5:=g (-1) (F9 n b) (fun k i s=>by rw[F9])
 rw[A9b] at g1 g5
 rw[Jq,S8 _ (by omega),h0',A4]
 simp only
 cases hf:b.findIdx? (Pp model loc) with
 | none =>
  have hp:Yz b model loc=none:=by rw[hpI,hf]
  rw[show Wi none= -1 from rfl,hp]
  have g4:=g (-1) (Dw n b (-1)) (fun k i s=>by rw[Dw])
  have g6:=g (-1) (Du n b (-1)) (fun k i s=>by rw[Du])
  have g7:=g (-1) (F8 n b (-1)) (fun k i s=>by rw[F8])
  rw[A9b] at g4 g6 g7
  by_cases c2:model=2
  ·rw[beq_iff_eq.2 c2,As,Ap (by omega),show(model != 2)=false by simp[c2],B3,g4];rfl
  ·rw[Cg.2 c2,B3,bne_iff_ne.2 c2,As]
   by_cases c3:model=3
   ·rw[show(model != 3)=false by simp[c3],B3,g6];rfl
   ·rw[bne_iff_ne.2 c3,As,g5];rfl
 | some z =>
  have hz:z < b.length:=(List.findIdx?_eq_some_iff_getElem.1 hf).1
  have hp:Yz b model loc=if model=2∧0 < z∨(model≠2∧model≠3) then none else some z:=by rw[hpI,hf]
  rw[show Wi (some z)=(z:Int) from rfl,hp]
  have g4:=g (z:Int) (Dw n b (z:Int)) (fun k i s=>by rw[Dw])
  have g6:=g (z:Int) (Du n b (z:Int)) (fun k i s=>by rw[Du])
  rw[Aqi] at g4 g6
  by_cases c2:model=2
  ·rw[beq_iff_eq.2 c2,As]
   by_cases c0:0 < z
   ·rw[Ad (by omega),g1,if_pos (.inl ⟨c2,c0⟩)];rfl
   ·rw[Ap (by omega),show(model != 2)=false by simp[c2],B3,g4,A4,if_neg (by omega)]
    simp only
    rw[Ap (by omega),Bu hz,A6 hz]
    rfl
  ·rw[Cg.2 c2,B3,bne_iff_ne.2 c2,As]
   by_cases c3:model=3
   ·rw[show(model != 3)=false by simp[c3],B3,g6,A4,if_neg (by omega)]
    simp only
    rw[Ap (by omega),Bu hz,A6 hz]
    rfl
   ·rw[bne_iff_ne.2 c3,As,g5,if_pos (.inr ⟨c2,c3⟩)];rfl
theorem Aq8 (n:Nat) (b:List A2) (e:A2) (hb:b.length < 1000000):∀ (j k i:Nat) (put:Bool) (s:List A2),i+j=b.length→j < k→s.length≤i+(bif put then 1 else 0)→∃ p s',Fb n b e k put (i:Int) s=some (.out (p,s'))∧(bif p then s' else s'++[e])=s++(bif put then b.drop i else Nz e (b.drop i))∧s'.length≤b.length+1:=by
 intro j
 induction j with
 | zero =>
  intro k i put s hi hk hs
  obtain⟨k,rfl⟩:∃ j,k=j+1:=⟨k - 1,by omega⟩
  rw[Fb,Ap (by omega),List.drop_of_length_le (by omega)]
  refine⟨put,s,rfl,?_,by cases put<;>simp at hs<;>omega⟩
  cases put<;>simp[Nz]
 | succ j ih =>
  intro k i put s hi hk hs
  obtain⟨k,rfl⟩:∃ j,k=j+1:=⟨k - 1,by omega⟩
  have hlt:i < b.length:=by omega
  have hs1:s.length≤i+1:=by cases put<;>simp at hs<;>omega
  have hm:decide ((s.length+1)*17≤140737488355328)=true:=decide_eq_true (by omega)
  rw[Fb,Ad (by omega)]
  simp only[Bu hlt,A4,Be i (by omega),hm,As]
  rw[List.drop_eq_getElem_cons hlt]
  cases put with
  | true =>
   obtain⟨p,s',e1,e2,e3⟩:=ih k (i+1) true (s++[b[i]]) (by omega) (by omega) (by simp at hs ⊢;omega)
   exact⟨p,s',e1,by rw[e2];simp,e3⟩
  | false =>
   simp only[B3] at hs ⊢
   by_cases c:e.loc < b[i].loc
   ·have hm2:decide (((s++[e]).length+1)*17≤140737488355328)=true:=decide_eq_true (by simp;omega)
    obtain⟨p,s',e1,e2,e3⟩:=ih k (i+1) true ((s++[e])++[b[i]]) (by omega) (by omega) (by simp;omega)
    rw[Ad c,hm2,As]
    exact⟨p,s',e1,by rw[e2,Nz,if_pos c];simp,e3⟩
   ·obtain⟨p,s',e1,e2,e3⟩:=ih k (i+1) false (s++[b[i]]) (by omega) (by omega) (by simp;omega)
    rw[Ap c]
    exact⟨p,s',e1,by rw[e2,Nz,if_neg c];simp,e3⟩
theorem Aqt (n:Nat) (b:List A2) (model:Int) (e:A2) (hb:b.length < 1000000) (hn:b.length+3 < n):P1 n b model e=some (Zj b model e):=by
 obtain⟨n,rfl⟩:∃ j,n=j+1:=⟨n - 1,by omega⟩
 rw[P1,Zj]
 by_cases c3:model=3
 ·obtain⟨p,s',e1,e2,e3⟩:=Aq8 n b e hb b.length n 0 false [] (by omega) (by omega) (by simp)
  rw[show(model != 3)=false by simp[c3],B3,if_pos c3,show(0:Int)=((0:Nat):Int) from rfl,e1,A4]
  simp only[List.nil_append,B3,List.drop_zero] at e2
  simp only
  cases p with
  | true=>rw[As] at e2 ⊢;rw[e2]
  | false=>rw[B3] at e2 ⊢;rw[Ad (by omega),e2]
 ·rw[bne_iff_ne.2 c3,As,if_neg c3,Ad (by simp;omega)]
  by_cases c2:model=2
  ·rw[beq_iff_eq.2 c2,As,Ad (by simp;omega),if_pos c2];rfl
  ·rw[Cg.2 c2,B3,if_neg c2];rfl
structure A4l (u:Ak) (c:Ac):Prop where
 lpc:c.pc.length=u.regs.length
 lregs:c.regs.length=u.regs.length
 lbuf:c.buf.length=u.regs.length
 lmem:c.mem.length≤6
 regs:∀ r ∈ c.regs,r.length≤6
 buf:∀ b ∈ c.buf,b.length≤1000
theorem Acj (n:Nat) (c:Ac) (t loc:Int) (hb:∀ b ∈ c.buf,b.length≤1000) (hn:1100 < n):I0 n c t loc=some (Lj c t loc):=by
 obtain⟨n,rfl⟩:∃ j,n=j+1:=⟨n - 1,by omega⟩
 rw[I0,Lj]
 by_cases c1:t < 0
 ·rw[Ad c1,if_pos (.inl c1)]
 by_cases c2:(c.buf.length:Int)≤t
 ·rw[Ap c1,Ad c2,if_pos (.inr (.inl c2))]
 by_cases c3:loc < 0
 ·rw[Ap c1,Ap c2,Ad c3,if_pos (.inr (.inr (.inl c3)))]
 by_cases c4:(c.mem.length:Int)≤loc
 ·rw[Ap c1,Ap c2,Ap c3,Ad c4,if_pos (.inr (.inr (.inr c4)))]
 have t1:t.toNat < c.buf.length:=by omega
 have t2:loc.toNat < c.mem.length:=by omega
 have e1:idx c.buf t=some c.buf[t.toNat]:=by rw[P4 (by omega),A6 t1]
 have e2:idx c.mem loc=some c.mem[loc.toNat]:=by rw[P4 (by omega),A6 t2]
 have e3:c.buf.getD t.toNat []=c.buf[t.toNat]:=by rw[List.getD_eq_getElem?_getD,A6 t1];rfl
 have e4:c.mem.getD loc.toNat 0=c.mem[loc.toNat]:=by rw[List.getD_eq_getElem?_getD,A6 t2];rfl
 have hl:=hb _ (List.getElem_mem t1)
 rw[Ap c1,Ap c2,Ap c3,Ap c4,if_neg (by omega),e1,A4,Aps n _ loc (by omega) (by omega),A4,e2,e3,e4]
 cases Qc c.buf[t.toNat] loc<;>rfl
theorem Yk (n:Nat) (u:Ak) (c:Ac) (t:Nat) (l:List OpS) (ht:t < c.regs.length) (hr:∀ r ∈ c.regs,r.length≤6) (hl:l.length≤300) (hn:1100 < n):Hu n u c (t:Int) l=some (Eu u c t l):=by
 obtain⟨n,rfl⟩:∃ j,n=j+1:=⟨n - 1,by omega⟩
 have e1:c.regs.getD t []=c.regs[t]:=by rw[List.getD_eq_getElem?_getD,A6 ht];rfl
 have h6:=hr _ (List.getElem_mem ht)
 rw[Hu,Bu ht,A4,Am8 n l u.mod c.regs[t] [] [] (by omega) (by omega) (by simp) (by simp) (by simp) (by omega) (by omega) (by simp;omega) (by simp;omega) (by simp) (by omega),A4,Eu,e1]
theorem A04 (n:Nat) (u:Ak) (c:Ac) (model room:Int) (t:Nat) (hu:C7 u=true) (hlu:G6 u=true) (h:D2 u c model room) (hz:A4l u c) (ht:t < u.regs.length) (hn:1200 < n):Gt n u c model room (t:Int)=some (enC u c model room t):=by
 obtain⟨n,rfl⟩:∃ j,n=j+1:=⟨n - 1,by omega⟩
 have hh:=Cc hu
 have t1:t < c.pc.length:=by have:=h.lpc;omega
 have t2:t < c.regs.length:=by have:=h.lregs;omega
 have t3:t < c.buf.length:=by have:=h.lbuf;omega
 have t4:t < u.code.length:=by omega
 have H:=h.thr t _ _ _ _ _ (A6 t1) (A6 t2) (A6 t3) (A6 t4) (A6 ht)
 have p0:=H.pc0
 have p1:=H.pc1
 have pl:(c.pc[t]).toNat < (u.code[t]).length:=by omega
 have e3:c.buf.getD t []=c.buf[t]:=by rw[List.getD_eq_getElem?_getD,A6 t3];rfl
 have hbl:=hz.buf _ (List.getElem_mem t3)
 have hx:Po u c t=some u.code[t][(c.pc[t]).toNat]:=by
  rw[Po,A6 t4,A6 t1]
  simp only
  rw[if_pos p0,A6 pl]
 have hxl:(u.code[t][(c.pc[t]).toNat]).e.length≤300:=by
  simp only[G6,Vv,A8,List.all_eq_true,Ai] at hlu
  exact((hlu.2 _ (List.getElem_mem t4)).2 _ (List.getElem_mem pl)).1
 rw[Gt,Ap (by omega),Ap (by omega),Bu t4,A4,Bu t1,A4,P4 p0,A6 pl,A4,enC,hx]
 generalize u.code[t][(c.pc[t]).toNat]=x at *
 simp only[enX,e3,Bu t3,A4]
 by_cases c22:x.op=22
 ·rw[if_pos c22,beq_iff_eq.2 c22];rfl
 rw[if_neg c22,Cg.2 c22,B3]
 by_cases c4:x.op=4
 ·rw[if_pos c4,beq_iff_eq.2 c4,As]
  by_cases m1:model=1
  ·rw[beq_iff_eq.2 m1,decide_eq_true m1];rfl
  ·rw[Cg.2 m1,decide_eq_false m1,B3,App n _ _ _ _ (by omega) (by omega)];rfl
 rw[if_neg c4,Cg.2 c4,B3]
 have hem:(((c.buf[t].length:Nat):Int)==0)=c.buf[t].isEmpty:=by
  cases c.buf[t] with
  | nil=>rfl
  | cons a l=>rw[Cg.2 (by simp;omega)];rfl
 by_cases c58:5≤x.op∧x.op≤8
 ·rw[if_pos c58,hem]
  obtain q | q | q | q:x.op=5∨x.op=6∨x.op=7∨x.op=8:=by omega
  all_goals rw[q];rfl
 rw[if_neg c58,Cg.2 (show ¬ x.op=8 by omega),Cg.2 (show ¬ x.op=5 by omega),Cg.2 (show ¬ x.op=6 by omega),Cg.2 (show ¬ x.op=7 by omega)]
 simp only[B3]
 by_cases c9:x.op=9
 ·rw[if_pos c9,beq_iff_eq.2 c9,As,Acj n c _ _ hz.buf (by omega),A4,Yk n u c t _ t2 hz.regs hxl (by omega),A4]
  rfl
 ·rw[if_neg c9,Cg.2 c9];rfl
theorem Yi (n:Nat) (c:Ac) (model:Int) (t:Nat) (loc:Int) (ht:t < c.buf.length) (hb:∀ b ∈ c.buf,b.length≤1000) (hn:1100 < n):Fv n c model (t:Int) loc=some (Gy c model t loc).2:=by
 obtain⟨n,rfl⟩:∃ j,n=j+1:=⟨n - 1,by omega⟩
 have e3:c.buf.getD t []=c.buf[t]:=by rw[List.getD_eq_getElem?_getD,A6 ht];rfl
 have hl:=hb _ (List.getElem_mem ht)
 rw[Fv,Ap (by omega),Ap (by omega),Bu ht,A4,Ajp n _ model loc (by omega) (by omega),A4,Gy,e3]
 cases Yz c.buf[t] model loc with
 | none=>rfl
 | some i =>
  simp only
  cases c.buf[t][i]?<;>rfl
theorem Yf {α:Type} (p:α→Bool):∀ l:List α,l.length=(l.filter p).length+(l.filter fun x=>!p x).length
 | []=>rfl
 | a :: l=>by
  have:=Yf p l
  rw[List.filter_cons,List.filter_cons]
  cases p a<;>simp<;>omega
theorem Te {u:Ak} {c:Ac} {model room:Int} (hu:C7 u=true) (hm:1≤model∧model≤3) (hr:1≤room∧room≤4) (h:D2 u c model room):A4l u c:=by
 have hh:=Cc hu
 have get:∀ t (h3:t < c.buf.length),∃ p r code nr,c.pc[t]?=some p∧c.regs[t]?=some r∧u.code[t]?=some code∧u.regs[t]?=some nr:=fun t h3=>by
  have:=h.lbuf;have:=h.lpc;have:=h.lregs
  exact⟨_,_,_,_,A6 (by omega),A6 (by omega),A6 (show t < u.code.length by omega),A6 (by omega)⟩
 refine⟨h.lpc,h.lregs,h.lbuf,by rw[h.lmem];omega,fun r hr2=>?_,fun b hb=>?_⟩
 ·obtain⟨t,ht,rfl⟩:=List.getElem_of_mem hr2
  have l1:=h.lregs;have l2:=h.lbuf;have l3:=h.lpc
  have H:=h.thr t _ _ _ _ _ (A6 (show t < c.pc.length by omega)) (A6 ht) (A6 (show t < c.buf.length by omega)) (A6 (show t < u.code.length by omega)) (A6 (show t < u.regs.length by omega))
  have:=Pe hu (t:=t) (by omega) (by omega)
  have:=H.len
  omega
 ·obtain⟨t,ht,rfl⟩:=List.getElem_of_mem hb
  have l1:=h.lregs;have l2:=h.lbuf;have l3:=h.lpc
  have H:=h.thr t _ _ _ _ _ (A6 (show t < c.pc.length by omega)) (A6 (show t < c.regs.length by omega)) (A6 ht) (A6 (show t < u.code.length by omega)) (A6 (show t < u.regs.length by omega))
  obtain⟨b1,b2,b3,b4⟩:=H.buf
  rcases(show model=1∨model=2∨model=3 by omega) with q | q | q
  ·rw[b2 q];simp
  ·have:=b3 q;omega
  ·have k:=(b4 q).2
   have:∀ (m:Nat) (l:List A2),(∀ x ∈ l,0≤x.loc∧x.loc < (m:Int))→(∀ loc:Int,(((l.filter fun x=>x.loc==loc).length:Nat):Int)≤4)→l.length≤4*m:=by
    intro m
    induction m with
    | zero=>intro l hl _;cases l with
            | nil=>simp
            | cons a l=>have:=hl a (by simp);omega
    | succ m ih =>
     intro l hl hk
     have h1:=ih (l.filter fun x=>!(x.loc==(m:Int))) (fun x hx=>by
      obtain⟨x1,x2⟩:=List.mem_filter.1 hx
      have:=hl x x1
      have:x.loc≠(m:Int):=by simpa using x2
      omega) (fun loc=>by
      have:=hk loc
      have h2:(((l.filter fun x=>!(x.loc==(m:Int))).filter fun x=>x.loc==loc).length)≤(l.filter fun x=>x.loc==loc).length:=(List.filter_sublist.filter _).length_le
      omega)
     have h2:=hk (m:Int)
     have h3:l.length=(l.filter fun x=>x.loc==(m:Int)).length+(l.filter fun x=>!(x.loc==(m:Int))).length:=by
      exact Yf (fun x:A2=>x.loc==(m:Int)) l
     omega
   have:=this u.init.length _ (fun x hx=>⟨(b1 x hx).1,(b1 x hx).2.1⟩) (fun loc=>by have:=k loc;omega)
   omega
open Go.RowKit
set_option maxHeartbeats 8000000
def Aot:Option Code→Code
 | some (.seq _ (.seq _ c))=>c
 | _=>.skip
noncomputable def Bc (call:Bp) (u:Ak) (c:Ac) (m r:Int) (t:Nat) (hp:Hp):Option (AV×Hp):=O0 Tryz.prog HH call 50 1000 9 (Aot (Tryz.f50).body) ((((((((List.replicate 214 AV.junk).set 5 (.ptr 0 0)).set 6 (.ptr 1 0)).set 10 (.ptr 2 0)).set 12 (.ptr 8 0)).set 2 (.int .i64 m)).set 3 (.int .i64 r)).set 4 (.int .i64 (t:Int))) hp (fun e tm hp'=>match e with | .exit _=>none | _=>Wb Tryz.prog Tryz.f50 tm hp' fun v=>some (v,hp'))
abbrev Bb (u:Ak) (c:Ac) (R:List AV) (PC BF:List AV) (o5 o6:Ob) (RH D:List AV):Hp:=[.var 61 (T2 u),.var 90 (Cj c),.var 90 R,.var 1000001 PC,.var 1000001 BF,o5,o6,.var 1000001 RH,.var 90 D]
abbrev C6:List AV:=[.nils,.nils,.nils,.nils]
abbrev Br:Ob:=.row 3 1 []
theorem M2 {l:List AV} {k:Nat} (h:k < l.length) (L:List AV):l.length≤(Bn l k L).length:=by
 unfold Bn
 simp only[List.length_append,List.length_take,List.length_drop]
 omega
abbrev Dr (x:Ay):Ob:=.var 119 [.int .i64 x.op,.int .i64 x.reg,.int .i64 x.loc,.sl 3 (x.e.map C0),.sl 3 (x.f.map C0),.bool x.ne,.int .i64 x.goal]
theorem Acx (u:Ak) (c:Ac) (m r:Int) (t:Nat) (n cp cr cb cm ct rn mn:Nat) (PC BF ME RO RH:List AV) (ms:List (List AV)) (call:Bp)
 (h1:call false 80 [.agg [.int .i64 u.mod,.sl 1 (u.init.map A0),.sl 1 (u.regs.map A0),.sl 1 (u.code.map Ah)],.agg [.sl 1 (c.pc.map A0),.sl 1 (c.regs.map Ag),.sl 1 (c.mem.map A0),.sl 1 (c.buf.map An)],.int .i64 m,.int .i64 r,.int .i64 (t:Int)] []=some (.bool false,[]))
  :
 Bc call u c m r t (Bb u c C6 PC BF (.var 1000001 ME) (.var 1000001 RO) RH [.vsl 3 0 n cp,.vsl 7 0 n cr,.vsl 5 0 mn cm,.vsl 4 0 n cb])=some (.tup [.agg [.vsl 3 0 n cp,.vsl 7 0 n cr,.vsl 5 0 mn cm,.vsl 4 0 n cb],.bool false],Bb u c [.vsl 3 0 n cp,.vsl 7 0 n cr,.vsl 5 0 mn cm,.vsl 4 0 n cb] PC BF (.var 1000001 ME) (.var 1000001 RO) RH [.vsl 3 0 n cp,.vsl 7 0 n cr,.vsl 5 0 mn cm,.vsl 4 0 n cb]):=by
 have hc1:Program.cellsOf Tryz.prog 3=1:=by kernel_rfl
 have hc2:Program.cellsOf Tryz.prog 31=1:=by kernel_rfl
 have hc3:Program.cellsOf Tryz.prog 152=1:=by kernel_rfl
 unfold Bc
 conv=>lhs;whnf
 repeat (first | (refine B0 (by(first | (with_reducible assumption) | omega | (simp only[A8,Bool.or_eq_true,Bool.not_eq_true',Bool.and_eq_false_imp,Bool.or_eq_false_iff,Ai,decide_eq_false_iff_not,beq_iff_eq,bne_iff_ne,beq_eq_false_iff_ne,bne_eq_false_iff_eq,ne_eq,A5,List.length_replicate,List.length_append,List.length_cons,List.length_nil,List.length_take,Int.toNat_natCast];omega) | (with_reducible rfl))) ?_;conv=>lhs;whnf) | (refine Cl (by(first | (with_reducible assumption) | omega | (simp only[A8,Bool.or_eq_true,Bool.not_eq_true',Bool.and_eq_false_imp,Bool.or_eq_false_iff,Ai,decide_eq_false_iff_not,beq_iff_eq,bne_iff_ne,beq_eq_false_iff_ne,bne_eq_false_iff_eq,ne_eq,A5,List.length_replicate,List.length_append,List.length_cons,List.length_nil,List.length_take,Int.toNat_natCast];omega) | (with_reducible rfl))) ?_;conv=>lhs;whnf) | (simp only[h1,hc1,hc2,hc3];conv=>lhs;whnf))
 rfl
theorem Abr (u:Ak) (c:Ac) (m r:Int) (t:Nat) (n cp cr cb cm ct rn mn:Nat) (PC BF ME RO RH:List AV) (ms:List (List AV)) (call:Bp) (code:List Ay) (x:Ay) (p:Nat) (e:Int)
 (h1:call false 80 [.agg [.int .i64 u.mod,.sl 1 (u.init.map A0),.sl 1 (u.regs.map A0),.sl 1 (u.code.map Ah)],.agg [.sl 1 (c.pc.map A0),.sl 1 (c.regs.map Ag),.sl 1 (c.mem.map A0),.sl 1 (c.buf.map An)],.int .i64 m,.int .i64 r,.int .i64 (t:Int)] []=some (.bool true,[]))
 (h2:call false 82 [.agg [.int .i64 u.mod,.sl 1 (u.init.map A0),.sl 1 (u.regs.map A0),.sl 1 (u.code.map Ah)],.agg [.sl 1 (c.pc.map A0),.sl 1 (c.regs.map Ag),.sl 1 (c.mem.map A0),.sl 1 (c.buf.map An)],.int .i64 (t:Int),.sl 3 (x.e.map C0)] []=some (.int .i64 e,[]))
 (gc:nth? (u.code.map Ah) ((t:Int)).toNat=some (Ah code)) (gp:nth? (c.pc.map A0) ((t:Int)).toNat=some [.int .i64 (p:Int)]) (gx:nth? (code.map Bx) ((p:Int)).toNat=some (Bx x))
 (b1:t < u.code.length) (b2:t < c.pc.length) (b3:p < code.length) (b4:t < n) (lp:PC.length=n) (ew:IntKind.i64.wrap ((p:Int)+1)=((p+1:Nat):Int))
 (n20:¬ x.op=20) (n21:¬ x.op=21) (n2:¬ x.op=2) (n3:¬ x.op=3) (n4:¬ x.op=4) (n5:¬ x.op=5) (n6:¬ x.op=6) (n7:¬ x.op=7) :
 Bc call u c m r t (Bb u c C6 PC BF (.var 1000001 ME) (.var 1000001 RO) RH [.vsl 3 0 n cp,.vsl 7 0 n cr,.vsl 5 0 mn cm,.vsl 4 0 n cb])=some (.tup [.agg [.vsl 3 0 n cp,.vsl 7 0 n cr,.vsl 5 0 mn cm,.vsl 4 0 n cb],.bool true],Bb u c [.vsl 3 0 n cp,.vsl 7 0 n cr,.vsl 5 0 mn cm,.vsl 4 0 n cb] (Bn PC (0+((t:Int)).toNat) [.int .i64 ((p+1:Nat):Int)]) BF (.var 1000001 ME) (.var 1000001 RO) RH [.vsl 3 0 n cp,.vsl 7 0 n cr,.vsl 5 0 mn cm,.vsl 4 0 n cb]++[Dr x]):=by
 have hc1:Program.cellsOf Tryz.prog 3=1:=by kernel_rfl
 have hc2:Program.cellsOf Tryz.prog 31=1:=by kernel_rfl
 have hc3:Program.cellsOf Tryz.prog 152=1:=by kernel_rfl
 unfold Bc
 conv=>lhs;whnf
 repeat (first | (refine B0 (by(first | (with_reducible assumption) | omega | (simp only[A8,Bool.or_eq_true,Bool.not_eq_true',Bool.and_eq_false_imp,Bool.or_eq_false_iff,Ai,decide_eq_false_iff_not,beq_iff_eq,bne_iff_ne,beq_eq_false_iff_ne,bne_eq_false_iff_eq,ne_eq,A5,List.length_replicate,List.length_append,List.length_cons,List.length_nil,List.length_take,Int.toNat_natCast];omega) | (with_reducible rfl))) ?_;conv=>lhs;whnf) | (refine Cl (by(first | (with_reducible assumption) | omega | (simp only[A8,Bool.or_eq_true,Bool.not_eq_true',Bool.and_eq_false_imp,Bool.or_eq_false_iff,Ai,decide_eq_false_iff_not,beq_iff_eq,bne_iff_ne,beq_eq_false_iff_ne,bne_eq_false_iff_eq,ne_eq,A5,List.length_replicate,List.length_append,List.length_cons,List.length_nil,List.length_take,Int.toNat_natCast];omega) | (with_reducible rfl))) ?_;conv=>lhs;whnf) | (simp only[h1,h2,gc,gp,gx,ew,hc1,hc2,hc3];conv=>lhs;whnf))
 rfl
theorem Aba (u:Ak) (c:Ac) (m r:Int) (t:Nat) (n cp cr cb cm ct rn mn:Nat) (PC BF ME RO RH:List AV) (ms:List (List AV)) (call:Bp) (code:List Ay) (x:Ay) (p:Nat) (e:Int)
 (h1:call false 80 [.agg [.int .i64 u.mod,.sl 1 (u.init.map A0),.sl 1 (u.regs.map A0),.sl 1 (u.code.map Ah)],.agg [.sl 1 (c.pc.map A0),.sl 1 (c.regs.map Ag),.sl 1 (c.mem.map A0),.sl 1 (c.buf.map An)],.int .i64 m,.int .i64 r,.int .i64 (t:Int)] []=some (.bool true,[]))
 (h2:call false 82 [.agg [.int .i64 u.mod,.sl 1 (u.init.map A0),.sl 1 (u.regs.map A0),.sl 1 (u.code.map Ah)],.agg [.sl 1 (c.pc.map A0),.sl 1 (c.regs.map Ag),.sl 1 (c.mem.map A0),.sl 1 (c.buf.map An)],.int .i64 (t:Int),.sl 3 (x.e.map C0)] []=some (.int .i64 e,[]))
 (gc:nth? (u.code.map Ah) ((t:Int)).toNat=some (Ah code)) (gp:nth? (c.pc.map A0) ((t:Int)).toNat=some [.int .i64 (p:Int)]) (gx:nth? (code.map Bx) ((p:Int)).toNat=some (Bx x))
 (b1:t < u.code.length) (b2:t < c.pc.length) (b3:p < code.length) (b4:t < n) (lp:PC.length=n) (ew:IntKind.i64.wrap ((p:Int)+1)=((p+1:Nat):Int))
 (hx:x.op=20) :
 Bc call u c m r t (Bb u c C6 PC BF (.var 1000001 ME) (.var 1000001 RO) RH [.vsl 3 0 n cp,.vsl 7 0 n cr,.vsl 5 0 mn cm,.vsl 4 0 n cb])=some (.tup [.agg [.vsl 3 0 n cp,.vsl 7 0 n cr,.vsl 5 0 mn cm,.vsl 4 0 n cb],.bool true],Bb u c [.vsl 3 0 n cp,.vsl 7 0 n cr,.vsl 5 0 mn cm,.vsl 4 0 n cb] (Bn (Bn PC (0+((t:Int)).toNat) [.int .i64 ((p+1:Nat):Int)]) (0+((t:Int)).toNat) [.int .i64 x.goal]) BF (.var 1000001 ME) (.var 1000001 RO) RH [.vsl 3 0 n cp,.vsl 7 0 n cr,.vsl 5 0 mn cm,.vsl 4 0 n cb]++[Dr x]):=by
 have hc1:Program.cellsOf Tryz.prog 3=1:=by kernel_rfl
 have hc2:Program.cellsOf Tryz.prog 31=1:=by kernel_rfl
 have hc3:Program.cellsOf Tryz.prog 152=1:=by kernel_rfl
 have lq:∀ L:List AV,decide (0+((t:Int)).toNat+1≤(Bn PC (0+((t:Int)).toNat) L).length)=true:=fun L=>decide_eq_true (by
  have:=M2 (l:=PC) (k:=0+((t:Int)).toNat) (by rw[lp,Int.toNat_natCast];omega) L
  rw[Int.toNat_natCast] at this ⊢
  omega)
 unfold Bc
 conv=>lhs;whnf
 repeat (first | (refine B0 (by(first | (with_reducible assumption) | omega | (simp only[A8,Bool.or_eq_true,Bool.not_eq_true',Bool.and_eq_false_imp,Bool.or_eq_false_iff,Ai,decide_eq_false_iff_not,beq_iff_eq,bne_iff_ne,beq_eq_false_iff_ne,bne_eq_false_iff_eq,ne_eq,A5,List.length_replicate,List.length_append,List.length_cons,List.length_nil,List.length_take,Int.toNat_natCast];omega) | (with_reducible rfl))) ?_;conv=>lhs;whnf) | (refine Cl (by(first | (with_reducible assumption) | omega | (simp only[A8,Bool.or_eq_true,Bool.not_eq_true',Bool.and_eq_false_imp,Bool.or_eq_false_iff,Ai,decide_eq_false_iff_not,beq_iff_eq,bne_iff_ne,beq_eq_false_iff_ne,bne_eq_false_iff_eq,ne_eq,A5,List.length_replicate,List.length_append,List.length_cons,List.length_nil,List.length_take,Int.toNat_natCast];omega) | (with_reducible rfl))) ?_;conv=>lhs;whnf) | (simp only[h1,h2,gc,gp,gx,ew,hc1,hc2,hc3,lq];conv=>lhs;whnf))
 rfl
theorem Ahy (u:Ak) (c:Ac) (m r:Int) (t:Nat) (n cp cr cb cm ct rn mn:Nat) (PC BF ME RO RH:List AV) (ms:List (List AV)) (call:Bp) (code:List Ay) (x:Ay) (p:Nat) (e:Int)
 (h1:call false 80 [.agg [.int .i64 u.mod,.sl 1 (u.init.map A0),.sl 1 (u.regs.map A0),.sl 1 (u.code.map Ah)],.agg [.sl 1 (c.pc.map A0),.sl 1 (c.regs.map Ag),.sl 1 (c.mem.map A0),.sl 1 (c.buf.map An)],.int .i64 m,.int .i64 r,.int .i64 (t:Int)] []=some (.bool true,[]))
 (h2:call false 82 [.agg [.int .i64 u.mod,.sl 1 (u.init.map A0),.sl 1 (u.regs.map A0),.sl 1 (u.code.map Ah)],.agg [.sl 1 (c.pc.map A0),.sl 1 (c.regs.map Ag),.sl 1 (c.mem.map A0),.sl 1 (c.buf.map An)],.int .i64 (t:Int),.sl 3 (x.e.map C0)] []=some (.int .i64 e,[]))
 (gc:nth? (u.code.map Ah) ((t:Int)).toNat=some (Ah code)) (gp:nth? (c.pc.map A0) ((t:Int)).toNat=some [.int .i64 (p:Int)]) (gx:nth? (code.map Bx) ((p:Int)).toNat=some (Bx x))
 (b1:t < u.code.length) (b2:t < c.pc.length) (b3:p < code.length) (b4:t < n) (lp:PC.length=n) (ew:IntKind.i64.wrap ((p:Int)+1)=((p+1:Nat):Int))
 (hx:x.op=21) (he:e=0) :
 Bc call u c m r t (Bb u c C6 PC BF (.var 1000001 ME) (.var 1000001 RO) RH [.vsl 3 0 n cp,.vsl 7 0 n cr,.vsl 5 0 mn cm,.vsl 4 0 n cb])=some (.tup [.agg [.vsl 3 0 n cp,.vsl 7 0 n cr,.vsl 5 0 mn cm,.vsl 4 0 n cb],.bool true],Bb u c [.vsl 3 0 n cp,.vsl 7 0 n cr,.vsl 5 0 mn cm,.vsl 4 0 n cb] (Bn (Bn PC (0+((t:Int)).toNat) [.int .i64 ((p+1:Nat):Int)]) (0+((t:Int)).toNat) [.int .i64 x.goal]) BF (.var 1000001 ME) (.var 1000001 RO) RH [.vsl 3 0 n cp,.vsl 7 0 n cr,.vsl 5 0 mn cm,.vsl 4 0 n cb]++[Dr x]):=by
 have hc1:Program.cellsOf Tryz.prog 3=1:=by kernel_rfl
 have hc2:Program.cellsOf Tryz.prog 31=1:=by kernel_rfl
 have hc3:Program.cellsOf Tryz.prog 152=1:=by kernel_rfl
 have lq:∀ L:List AV,decide (0+((t:Int)).toNat+1≤(Bn PC (0+((t:Int)).toNat) L).length)=true:=fun L=>decide_eq_true (by
  have:=M2 (l:=PC) (k:=0+((t:Int)).toNat) (by rw[lp,Int.toNat_natCast];omega) L
  rw[Int.toNat_natCast] at this ⊢
  omega)
 unfold Bc
 conv=>lhs;whnf
 repeat (first | (refine B0 (by(first | (with_reducible assumption) | omega | (simp only[A8,Bool.or_eq_true,Bool.not_eq_true',Bool.and_eq_false_imp,Bool.or_eq_false_iff,Ai,decide_eq_false_iff_not,beq_iff_eq,bne_iff_ne,beq_eq_false_iff_ne,bne_eq_false_iff_eq,ne_eq,A5,List.length_replicate,List.length_append,List.length_cons,List.length_nil,List.length_take,Int.toNat_natCast];omega) | (with_reducible rfl))) ?_;conv=>lhs;whnf) | (refine Cl (by(first | (with_reducible assumption) | omega | (simp only[A8,Bool.or_eq_true,Bool.not_eq_true',Bool.and_eq_false_imp,Bool.or_eq_false_iff,Ai,decide_eq_false_iff_not,beq_iff_eq,bne_iff_ne,beq_eq_false_iff_ne,bne_eq_false_iff_eq,ne_eq,A5,List.length_replicate,List.length_append,List.length_cons,List.length_nil,List.length_take,Int.toNat_natCast];omega) | (with_reducible rfl))) ?_;conv=>lhs;whnf) | (simp only[h1,h2,gc,gp,gx,ew,hc1,hc2,hc3,lq];conv=>lhs;whnf))
 rfl
theorem Afk (u:Ak) (c:Ac) (m r:Int) (t:Nat) (n cp cr cb cm ct rn mn:Nat) (PC BF ME RO RH:List AV) (ms:List (List AV)) (call:Bp) (code:List Ay) (x:Ay) (p:Nat) (e:Int)
 (h1:call false 80 [.agg [.int .i64 u.mod,.sl 1 (u.init.map A0),.sl 1 (u.regs.map A0),.sl 1 (u.code.map Ah)],.agg [.sl 1 (c.pc.map A0),.sl 1 (c.regs.map Ag),.sl 1 (c.mem.map A0),.sl 1 (c.buf.map An)],.int .i64 m,.int .i64 r,.int .i64 (t:Int)] []=some (.bool true,[]))
 (h2:call false 82 [.agg [.int .i64 u.mod,.sl 1 (u.init.map A0),.sl 1 (u.regs.map A0),.sl 1 (u.code.map Ah)],.agg [.sl 1 (c.pc.map A0),.sl 1 (c.regs.map Ag),.sl 1 (c.mem.map A0),.sl 1 (c.buf.map An)],.int .i64 (t:Int),.sl 3 (x.e.map C0)] []=some (.int .i64 e,[]))
 (gc:nth? (u.code.map Ah) ((t:Int)).toNat=some (Ah code)) (gp:nth? (c.pc.map A0) ((t:Int)).toNat=some [.int .i64 (p:Int)]) (gx:nth? (code.map Bx) ((p:Int)).toNat=some (Bx x))
 (b1:t < u.code.length) (b2:t < c.pc.length) (b3:p < code.length) (b4:t < n) (lp:PC.length=n) (ew:IntKind.i64.wrap ((p:Int)+1)=((p+1:Nat):Int))
 (hx:x.op=21) (he:¬ e=0) :
 Bc call u c m r t (Bb u c C6 PC BF (.var 1000001 ME) (.var 1000001 RO) RH [.vsl 3 0 n cp,.vsl 7 0 n cr,.vsl 5 0 mn cm,.vsl 4 0 n cb])=some (.tup [.agg [.vsl 3 0 n cp,.vsl 7 0 n cr,.vsl 5 0 mn cm,.vsl 4 0 n cb],.bool true],Bb u c [.vsl 3 0 n cp,.vsl 7 0 n cr,.vsl 5 0 mn cm,.vsl 4 0 n cb] (Bn PC (0+((t:Int)).toNat) [.int .i64 ((p+1:Nat):Int)]) BF (.var 1000001 ME) (.var 1000001 RO) RH [.vsl 3 0 n cp,.vsl 7 0 n cr,.vsl 5 0 mn cm,.vsl 4 0 n cb]++[Dr x]):=by
 have hc1:Program.cellsOf Tryz.prog 3=1:=by kernel_rfl
 have hc2:Program.cellsOf Tryz.prog 31=1:=by kernel_rfl
 have hc3:Program.cellsOf Tryz.prog 152=1:=by kernel_rfl
 unfold Bc
 conv=>lhs;whnf
 repeat (first | (refine B0 (by(first | (with_reducible assumption) | omega | (simp only[A8,Bool.or_eq_true,Bool.not_eq_true',Bool.and_eq_false_imp,Bool.or_eq_false_iff,Ai,decide_eq_false_iff_not,beq_iff_eq,bne_iff_ne,beq_eq_false_iff_ne,bne_eq_false_iff_eq,ne_eq,A5,List.length_replicate,List.length_append,List.length_cons,List.length_nil,List.length_take,Int.toNat_natCast];omega) | (with_reducible rfl))) ?_;conv=>lhs;whnf) | (refine Cl (by(first | (with_reducible assumption) | omega | (simp only[A8,Bool.or_eq_true,Bool.not_eq_true',Bool.and_eq_false_imp,Bool.or_eq_false_iff,Ai,decide_eq_false_iff_not,beq_iff_eq,bne_iff_ne,beq_eq_false_iff_ne,bne_eq_false_iff_eq,ne_eq,A5,List.length_replicate,List.length_append,List.length_cons,List.length_nil,List.length_take,Int.toNat_natCast];omega) | (with_reducible rfl))) ?_;conv=>lhs;whnf) | (simp only[h1,h2,gc,gp,gx,ew,hc1,hc2,hc3];conv=>lhs;whnf))
 rfl
theorem Abx (u:Ak) (c:Ac) (m r:Int) (t:Nat) (n cp cr cb cm ct rn mn:Nat) (PC BF ME RO RH:List AV) (ms:List (List AV)) (call:Bp) (code:List Ay) (x:Ay) (p:Nat) (e:Int)
 (h1:call false 80 [.agg [.int .i64 u.mod,.sl 1 (u.init.map A0),.sl 1 (u.regs.map A0),.sl 1 (u.code.map Ah)],.agg [.sl 1 (c.pc.map A0),.sl 1 (c.regs.map Ag),.sl 1 (c.mem.map A0),.sl 1 (c.buf.map An)],.int .i64 m,.int .i64 r,.int .i64 (t:Int)] []=some (.bool true,[]))
 (h2:call false 82 [.agg [.int .i64 u.mod,.sl 1 (u.init.map A0),.sl 1 (u.regs.map A0),.sl 1 (u.code.map Ah)],.agg [.sl 1 (c.pc.map A0),.sl 1 (c.regs.map Ag),.sl 1 (c.mem.map A0),.sl 1 (c.buf.map An)],.int .i64 (t:Int),.sl 3 (x.e.map C0)] []=some (.int .i64 e,[]))
 (gc:nth? (u.code.map Ah) ((t:Int)).toNat=some (Ah code)) (gp:nth? (c.pc.map A0) ((t:Int)).toNat=some [.int .i64 (p:Int)]) (gx:nth? (code.map Bx) ((p:Int)).toNat=some (Bx x))
 (b1:t < u.code.length) (b2:t < c.pc.length) (b3:p < code.length) (b4:t < n) (lp:PC.length=n) (ew:IntKind.i64.wrap ((p:Int)+1)=((p+1:Nat):Int))
 (hx:x.op=4) (hm:¬ m=1) (bt b2:List A2) (gb:nth? (c.buf.map An) ((t:Int)).toNat=some [.sl 2 (bt.map At)]) (b5:t < c.buf.length) (lb:BF.length=n) (h3:call false 84 [.sl 2 (bt.map At),.int .i64 m,.agg [.int .i64 x.loc,.int .i64 e]] []=some (.sl 2 (b2.map At),[])) :
 Bc call u c m r t (Bb u c C6 PC BF (.var 1000001 ME) (.var 1000001 RO) RH [.vsl 3 0 n cp,.vsl 7 0 n cr,.vsl 5 0 mn cm,.vsl 4 0 n cb])=some (.tup [.agg [.vsl 3 0 n cp,.vsl 7 0 n cr,.vsl 5 0 mn cm,.vsl 4 0 n cb],.bool true],Bb u c [.vsl 3 0 n cp,.vsl 7 0 n cr,.vsl 5 0 mn cm,.vsl 4 0 n cb] (Bn PC (0+((t:Int)).toNat) [.int .i64 ((p+1:Nat):Int)]) (Bn BF (0+((t:Int)).toNat) [.sl 2 (b2.map At)]) (.var 1000001 ME) (.var 1000001 RO) RH [.vsl 3 0 n cp,.vsl 7 0 n cr,.vsl 5 0 mn cm,.vsl 4 0 n cb]++[Dr x]):=by
 have hc1:Program.cellsOf Tryz.prog 3=1:=by kernel_rfl
 have hc2:Program.cellsOf Tryz.prog 31=1:=by kernel_rfl
 have hc3:Program.cellsOf Tryz.prog 152=1:=by kernel_rfl
 unfold Bc
 conv=>lhs;whnf
 repeat (first | (refine B0 (by(first | (with_reducible assumption) | omega | (simp only[A8,Bool.or_eq_true,Bool.not_eq_true',Bool.and_eq_false_imp,Bool.or_eq_false_iff,Ai,decide_eq_false_iff_not,beq_iff_eq,bne_iff_ne,beq_eq_false_iff_ne,bne_eq_false_iff_eq,ne_eq,A5,List.length_replicate,List.length_append,List.length_cons,List.length_nil,List.length_take,Int.toNat_natCast];omega) | (with_reducible rfl))) ?_;conv=>lhs;whnf) | (refine Cl (by(first | (with_reducible assumption) | omega | (simp only[A8,Bool.or_eq_true,Bool.not_eq_true',Bool.and_eq_false_imp,Bool.or_eq_false_iff,Ai,decide_eq_false_iff_not,beq_iff_eq,bne_iff_ne,beq_eq_false_iff_ne,bne_eq_false_iff_eq,ne_eq,A5,List.length_replicate,List.length_append,List.length_cons,List.length_nil,List.length_take,Int.toNat_natCast];omega) | (with_reducible rfl))) ?_;conv=>lhs;whnf) | (simp only[h1,h2,gc,gp,gx,ew,hc1,hc2,hc3,h3,gb];conv=>lhs;whnf))
 rfl
theorem Afr (u:Ak) (c:Ac) (m r:Int) (t:Nat) (n cp cr cb cm ct rn mn:Nat) (PC BF ME RO RH:List AV) (ms:List (List AV)) (call:Bp) (code:List Ay) (x:Ay) (p:Nat) (e:Int)
 (h1:call false 80 [.agg [.int .i64 u.mod,.sl 1 (u.init.map A0),.sl 1 (u.regs.map A0),.sl 1 (u.code.map Ah)],.agg [.sl 1 (c.pc.map A0),.sl 1 (c.regs.map Ag),.sl 1 (c.mem.map A0),.sl 1 (c.buf.map An)],.int .i64 m,.int .i64 r,.int .i64 (t:Int)] []=some (.bool true,[]))
 (h2:call false 82 [.agg [.int .i64 u.mod,.sl 1 (u.init.map A0),.sl 1 (u.regs.map A0),.sl 1 (u.code.map Ah)],.agg [.sl 1 (c.pc.map A0),.sl 1 (c.regs.map Ag),.sl 1 (c.mem.map A0),.sl 1 (c.buf.map An)],.int .i64 (t:Int),.sl 3 (x.e.map C0)] []=some (.int .i64 e,[]))
 (gc:nth? (u.code.map Ah) ((t:Int)).toNat=some (Ah code)) (gp:nth? (c.pc.map A0) ((t:Int)).toNat=some [.int .i64 (p:Int)]) (gx:nth? (code.map Bx) ((p:Int)).toNat=some (Bx x))
 (b1:t < u.code.length) (b2:t < c.pc.length) (b3:p < code.length) (b4:t < n) (lp:PC.length=n) (ew:IntKind.i64.wrap ((p:Int)+1)=((p+1:Nat):Int))
 (hx:x.op=2) (lr:RH.length=n) (gr:List.take 1 (List.drop (0+((t:Int)).toNat) RH)=[.vsl 6 0 rn ct]) (lro:RO.length=rn) (b5:0≤x.reg) (b6:x.reg < rn) :
 Bc call u c m r t (Bb u c C6 PC BF (.var 1000001 ME) (.var 1000001 RO) RH [.vsl 3 0 n cp,.vsl 7 0 n cr,.vsl 5 0 mn cm,.vsl 4 0 n cb])=some (.tup [.agg [.vsl 3 0 n cp,.vsl 7 0 n cr,.vsl 5 0 mn cm,.vsl 4 0 n cb],.bool true],Bb u c [.vsl 3 0 n cp,.vsl 7 0 n cr,.vsl 5 0 mn cm,.vsl 4 0 n cb] (Bn PC (0+((t:Int)).toNat) [.int .i64 ((p+1:Nat):Int)]) BF (.var 1000001 ME) (.var 1000001 (Bn RO (0+x.reg.toNat) [.int .i64 e])) RH [.vsl 3 0 n cp,.vsl 7 0 n cr,.vsl 5 0 mn cm,.vsl 4 0 n cb]++[Dr x]):=by
 have hc1:Program.cellsOf Tryz.prog 3=1:=by kernel_rfl
 have hc2:Program.cellsOf Tryz.prog 31=1:=by kernel_rfl
 have hc3:Program.cellsOf Tryz.prog 152=1:=by kernel_rfl
 unfold Bc
 conv=>lhs;whnf
 repeat (first | (refine B0 (by(first | (with_reducible assumption) | omega | (simp only[A8,Bool.or_eq_true,Bool.not_eq_true',Bool.and_eq_false_imp,Bool.or_eq_false_iff,Ai,decide_eq_false_iff_not,beq_iff_eq,bne_iff_ne,beq_eq_false_iff_ne,bne_eq_false_iff_eq,ne_eq,A5,List.length_replicate,List.length_append,List.length_cons,List.length_nil,List.length_take,Int.toNat_natCast];omega) | (with_reducible rfl))) ?_;conv=>lhs;whnf) | (refine Cl (by(first | (with_reducible assumption) | omega | (simp only[A8,Bool.or_eq_true,Bool.not_eq_true',Bool.and_eq_false_imp,Bool.or_eq_false_iff,Ai,decide_eq_false_iff_not,beq_iff_eq,bne_iff_ne,beq_eq_false_iff_ne,bne_eq_false_iff_eq,ne_eq,A5,List.length_replicate,List.length_append,List.length_cons,List.length_nil,List.length_take,Int.toNat_natCast];omega) | (with_reducible rfl))) ?_;conv=>lhs;whnf) | (simp only[h1,h2,gc,gp,gx,ew,hc1,hc2,hc3,gr];conv=>lhs;whnf))
 rfl
theorem Ab4 (u:Ak) (c:Ac) (m r:Int) (t:Nat) (n cp cr cb cm ct rn mn:Nat) (PC BF ME RO RH:List AV) (ms:List (List AV)) (call:Bp) (code:List Ay) (x:Ay) (p:Nat) (e:Int)
 (h1:call false 80 [.agg [.int .i64 u.mod,.sl 1 (u.init.map A0),.sl 1 (u.regs.map A0),.sl 1 (u.code.map Ah)],.agg [.sl 1 (c.pc.map A0),.sl 1 (c.regs.map Ag),.sl 1 (c.mem.map A0),.sl 1 (c.buf.map An)],.int .i64 m,.int .i64 r,.int .i64 (t:Int)] []=some (.bool true,[]))
 (h2:call false 82 [.agg [.int .i64 u.mod,.sl 1 (u.init.map A0),.sl 1 (u.regs.map A0),.sl 1 (u.code.map Ah)],.agg [.sl 1 (c.pc.map A0),.sl 1 (c.regs.map Ag),.sl 1 (c.mem.map A0),.sl 1 (c.buf.map An)],.int .i64 (t:Int),.sl 3 (x.e.map C0)] []=some (.int .i64 e,[]))
 (gc:nth? (u.code.map Ah) ((t:Int)).toNat=some (Ah code)) (gp:nth? (c.pc.map A0) ((t:Int)).toNat=some [.int .i64 (p:Int)]) (gx:nth? (code.map Bx) ((p:Int)).toNat=some (Bx x))
 (b1:t < u.code.length) (b2:t < c.pc.length) (b3:p < code.length) (b4:t < n) (lp:PC.length=n) (ew:IntKind.i64.wrap ((p:Int)+1)=((p+1:Nat):Int))
 (hx:x.op=3) (lr:RH.length=n) (gr:List.take 1 (List.drop (0+((t:Int)).toNat) RH)=[.vsl 6 0 rn ct]) (lro:RO.length=rn) (b5:0≤x.reg) (b6:x.reg < rn) (d:Int) (h3:call false 83 [.agg [.sl 1 (c.pc.map A0),.sl 1 (c.regs.map Ag),.sl 1 (c.mem.map A0),.sl 1 (c.buf.map An)],.int .i64 (t:Int),.int .i64 x.loc] []=some (.int .i64 d,[])) :
 Bc call u c m r t (Bb u c C6 PC BF (.var 1000001 ME) (.var 1000001 RO) RH [.vsl 3 0 n cp,.vsl 7 0 n cr,.vsl 5 0 mn cm,.vsl 4 0 n cb])=some (.tup [.agg [.vsl 3 0 n cp,.vsl 7 0 n cr,.vsl 5 0 mn cm,.vsl 4 0 n cb],.bool true],Bb u c [.vsl 3 0 n cp,.vsl 7 0 n cr,.vsl 5 0 mn cm,.vsl 4 0 n cb] (Bn PC (0+((t:Int)).toNat) [.int .i64 ((p+1:Nat):Int)]) BF (.var 1000001 ME) (.var 1000001 (Bn RO (0+x.reg.toNat) [.int .i64 d])) RH [.vsl 3 0 n cp,.vsl 7 0 n cr,.vsl 5 0 mn cm,.vsl 4 0 n cb]++[Dr x]):=by
 have hc1:Program.cellsOf Tryz.prog 3=1:=by kernel_rfl
 have hc2:Program.cellsOf Tryz.prog 31=1:=by kernel_rfl
 have hc3:Program.cellsOf Tryz.prog 152=1:=by kernel_rfl
 unfold Bc
 conv=>lhs;whnf
 repeat (first | (refine B0 (by(first | (with_reducible assumption) | omega | (simp only[A8,Bool.or_eq_true,Bool.not_eq_true',Bool.and_eq_false_imp,Bool.or_eq_false_iff,Ai,decide_eq_false_iff_not,beq_iff_eq,bne_iff_ne,beq_eq_false_iff_ne,bne_eq_false_iff_eq,ne_eq,A5,List.length_replicate,List.length_append,List.length_cons,List.length_nil,List.length_take,Int.toNat_natCast];omega) | (with_reducible rfl))) ?_;conv=>lhs;whnf) | (refine Cl (by(first | (with_reducible assumption) | omega | (simp only[A8,Bool.or_eq_true,Bool.not_eq_true',Bool.and_eq_false_imp,Bool.or_eq_false_iff,Ai,decide_eq_false_iff_not,beq_iff_eq,bne_iff_ne,beq_eq_false_iff_ne,bne_eq_false_iff_eq,ne_eq,A5,List.length_replicate,List.length_append,List.length_cons,List.length_nil,List.length_take,Int.toNat_natCast];omega) | (with_reducible rfl))) ?_;conv=>lhs;whnf) | (simp only[h1,h2,gc,gp,gx,ew,hc1,hc2,hc3,gr,h3];conv=>lhs;whnf))
 rfl
theorem Ahl (u:Ak) (c:Ac) (m r:Int) (t:Nat) (n cp cr cb cm ct rn mn:Nat) (PC BF ME RO RH:List AV) (ms:List (List AV)) (call:Bp) (code:List Ay) (x:Ay) (p:Nat) (e:Int)
 (h1:call false 80 [.agg [.int .i64 u.mod,.sl 1 (u.init.map A0),.sl 1 (u.regs.map A0),.sl 1 (u.code.map Ah)],.agg [.sl 1 (c.pc.map A0),.sl 1 (c.regs.map Ag),.sl 1 (c.mem.map A0),.sl 1 (c.buf.map An)],.int .i64 m,.int .i64 r,.int .i64 (t:Int)] []=some (.bool true,[]))
 (h2:call false 82 [.agg [.int .i64 u.mod,.sl 1 (u.init.map A0),.sl 1 (u.regs.map A0),.sl 1 (u.code.map Ah)],.agg [.sl 1 (c.pc.map A0),.sl 1 (c.regs.map Ag),.sl 1 (c.mem.map A0),.sl 1 (c.buf.map An)],.int .i64 (t:Int),.sl 3 (x.e.map C0)] []=some (.int .i64 e,[]))
 (gc:nth? (u.code.map Ah) ((t:Int)).toNat=some (Ah code)) (gp:nth? (c.pc.map A0) ((t:Int)).toNat=some [.int .i64 (p:Int)]) (gx:nth? (code.map Bx) ((p:Int)).toNat=some (Bx x))
 (b1:t < u.code.length) (b2:t < c.pc.length) (b3:p < code.length) (b4:t < n) (lp:PC.length=n) (ew:IntKind.i64.wrap ((p:Int)+1)=((p+1:Nat):Int))
 (hx:x.op=4) (hm:m=1) (lm:ME.length=mn) (b7:0≤x.loc) (b8:x.loc < mn) :
 Bc call u c m r t (Bb u c C6 PC BF (.var 1000001 ME) (.var 1000001 RO) RH [.vsl 3 0 n cp,.vsl 7 0 n cr,.vsl 5 0 mn cm,.vsl 4 0 n cb])=some (.tup [.agg [.vsl 3 0 n cp,.vsl 7 0 n cr,.vsl 5 0 mn cm,.vsl 4 0 n cb],.bool true],Bb u c [.vsl 3 0 n cp,.vsl 7 0 n cr,.vsl 5 0 mn cm,.vsl 4 0 n cb] (Bn PC (0+((t:Int)).toNat) [.int .i64 ((p+1:Nat):Int)]) BF (.var 1000001 (Bn ME (0+x.loc.toNat) [.int .i64 e])) (.var 1000001 RO) RH [.vsl 3 0 n cp,.vsl 7 0 n cr,.vsl 5 0 mn cm,.vsl 4 0 n cb]++[Dr x]):=by
 have hc1:Program.cellsOf Tryz.prog 3=1:=by kernel_rfl
 have hc2:Program.cellsOf Tryz.prog 31=1:=by kernel_rfl
 have hc3:Program.cellsOf Tryz.prog 152=1:=by kernel_rfl
 unfold Bc
 conv=>lhs;whnf
 repeat (first | (refine B0 (by(first | (with_reducible assumption) | omega | (simp only[A8,Bool.or_eq_true,Bool.not_eq_true',Bool.and_eq_false_imp,Bool.or_eq_false_iff,Ai,decide_eq_false_iff_not,beq_iff_eq,bne_iff_ne,beq_eq_false_iff_ne,bne_eq_false_iff_eq,ne_eq,A5,List.length_replicate,List.length_append,List.length_cons,List.length_nil,List.length_take,Int.toNat_natCast];omega) | (with_reducible rfl))) ?_;conv=>lhs;whnf) | (refine Cl (by(first | (with_reducible assumption) | omega | (simp only[A8,Bool.or_eq_true,Bool.not_eq_true',Bool.and_eq_false_imp,Bool.or_eq_false_iff,Ai,decide_eq_false_iff_not,beq_iff_eq,bne_iff_ne,beq_eq_false_iff_ne,bne_eq_false_iff_eq,ne_eq,A5,List.length_replicate,List.length_append,List.length_cons,List.length_nil,List.length_take,Int.toNat_natCast];omega) | (with_reducible rfl))) ?_;conv=>lhs;whnf) | (simp only[h1,h2,gc,gp,gx,ew,hc1,hc2,hc3];conv=>lhs;whnf))
 rfl
theorem Af4 (u:Ak) (c:Ac) (m r:Int) (t:Nat) (n cp cr cb cm ct rn mn:Nat) (PC BF ME RO RH:List AV) (ms:List (List AV)) (call:Bp) (code:List Ay) (x:Ay) (p:Nat) (e:Int)
 (h1:call false 80 [.agg [.int .i64 u.mod,.sl 1 (u.init.map A0),.sl 1 (u.regs.map A0),.sl 1 (u.code.map Ah)],.agg [.sl 1 (c.pc.map A0),.sl 1 (c.regs.map Ag),.sl 1 (c.mem.map A0),.sl 1 (c.buf.map An)],.int .i64 m,.int .i64 r,.int .i64 (t:Int)] []=some (.bool true,[]))
 (h2:call false 82 [.agg [.int .i64 u.mod,.sl 1 (u.init.map A0),.sl 1 (u.regs.map A0),.sl 1 (u.code.map Ah)],.agg [.sl 1 (c.pc.map A0),.sl 1 (c.regs.map Ag),.sl 1 (c.mem.map A0),.sl 1 (c.buf.map An)],.int .i64 (t:Int),.sl 3 (x.e.map C0)] []=some (.int .i64 e,[]))
 (gc:nth? (u.code.map Ah) ((t:Int)).toNat=some (Ah code)) (gp:nth? (c.pc.map A0) ((t:Int)).toNat=some [.int .i64 (p:Int)]) (gx:nth? (code.map Bx) ((p:Int)).toNat=some (Bx x))
 (b1:t < u.code.length) (b2:t < c.pc.length) (b3:p < code.length) (b4:t < n) (lp:PC.length=n) (ew:IntKind.i64.wrap ((p:Int)+1)=((p+1:Nat):Int))
 (hx:x.op=5) (lr:RH.length=n) (gr:List.take 1 (List.drop (0+((t:Int)).toNat) RH)=[.vsl 6 0 rn ct]) (lro:RO.length=rn) (b5:0≤x.reg) (b6:x.reg < rn) (lm:ME.length=mn) (b7:0≤x.loc) (b8:x.loc < mn) (v:Int) (gm:nth? (c.mem.map A0) x.loc.toNat=some [.int .i64 v]) (b9:x.loc < c.mem.length) (d:Int) (hv:v=e) (h3:call false 82 [.agg [.int .i64 u.mod,.sl 1 (u.init.map A0),.sl 1 (u.regs.map A0),.sl 1 (u.code.map Ah)],.agg [.sl 1 (c.pc.map A0),.sl 1 (c.regs.map Ag),.sl 1 (c.mem.map A0),.sl 1 (c.buf.map An)],.int .i64 (t:Int),.sl 3 (x.f.map C0)] []=some (.int .i64 d,[])) :
 Bc call u c m r t (Bb u c C6 PC BF (.var 1000001 ME) (.var 1000001 RO) RH [.vsl 3 0 n cp,.vsl 7 0 n cr,.vsl 5 0 mn cm,.vsl 4 0 n cb])=some (.tup [.agg [.vsl 3 0 n cp,.vsl 7 0 n cr,.vsl 5 0 mn cm,.vsl 4 0 n cb],.bool true],Bb u c [.vsl 3 0 n cp,.vsl 7 0 n cr,.vsl 5 0 mn cm,.vsl 4 0 n cb] (Bn PC (0+((t:Int)).toNat) [.int .i64 ((p+1:Nat):Int)]) BF (.var 1000001 (Bn ME (0+x.loc.toNat) [.int .i64 d])) (.var 1000001 (Bn RO (0+x.reg.toNat) [.int .i64 v])) RH [.vsl 3 0 n cp,.vsl 7 0 n cr,.vsl 5 0 mn cm,.vsl 4 0 n cb]++[Dr x]):=by
 have hc1:Program.cellsOf Tryz.prog 3=1:=by kernel_rfl
 have hc2:Program.cellsOf Tryz.prog 31=1:=by kernel_rfl
 have hc3:Program.cellsOf Tryz.prog 152=1:=by kernel_rfl
 unfold Bc
 conv=>lhs;whnf
 repeat (first | (refine B0 (by(first | (with_reducible assumption) | omega | (simp only[A8,Bool.or_eq_true,Bool.not_eq_true',Bool.and_eq_false_imp,Bool.or_eq_false_iff,Ai,decide_eq_false_iff_not,beq_iff_eq,bne_iff_ne,beq_eq_false_iff_ne,bne_eq_false_iff_eq,ne_eq,A5,List.length_replicate,List.length_append,List.length_cons,List.length_nil,List.length_take,Int.toNat_natCast];omega) | (with_reducible rfl))) ?_;conv=>lhs;whnf) | (refine Cl (by(first | (with_reducible assumption) | omega | (simp only[A8,Bool.or_eq_true,Bool.not_eq_true',Bool.and_eq_false_imp,Bool.or_eq_false_iff,Ai,decide_eq_false_iff_not,beq_iff_eq,bne_iff_ne,beq_eq_false_iff_ne,bne_eq_false_iff_eq,ne_eq,A5,List.length_replicate,List.length_append,List.length_cons,List.length_nil,List.length_take,Int.toNat_natCast];omega) | (with_reducible rfl))) ?_;conv=>lhs;whnf) | (simp only[h1,h2,gc,gp,gx,ew,hc1,hc2,hc3,gr,gm,h3];conv=>lhs;whnf))
 rfl
theorem Aaz (u:Ak) (c:Ac) (m r:Int) (t:Nat) (n cp cr cb cm ct rn mn:Nat) (PC BF ME RO RH:List AV) (ms:List (List AV)) (call:Bp) (code:List Ay) (x:Ay) (p:Nat) (e:Int)
 (h1:call false 80 [.agg [.int .i64 u.mod,.sl 1 (u.init.map A0),.sl 1 (u.regs.map A0),.sl 1 (u.code.map Ah)],.agg [.sl 1 (c.pc.map A0),.sl 1 (c.regs.map Ag),.sl 1 (c.mem.map A0),.sl 1 (c.buf.map An)],.int .i64 m,.int .i64 r,.int .i64 (t:Int)] []=some (.bool true,[]))
 (h2:call false 82 [.agg [.int .i64 u.mod,.sl 1 (u.init.map A0),.sl 1 (u.regs.map A0),.sl 1 (u.code.map Ah)],.agg [.sl 1 (c.pc.map A0),.sl 1 (c.regs.map Ag),.sl 1 (c.mem.map A0),.sl 1 (c.buf.map An)],.int .i64 (t:Int),.sl 3 (x.e.map C0)] []=some (.int .i64 e,[]))
 (gc:nth? (u.code.map Ah) ((t:Int)).toNat=some (Ah code)) (gp:nth? (c.pc.map A0) ((t:Int)).toNat=some [.int .i64 (p:Int)]) (gx:nth? (code.map Bx) ((p:Int)).toNat=some (Bx x))
 (b1:t < u.code.length) (b2:t < c.pc.length) (b3:p < code.length) (b4:t < n) (lp:PC.length=n) (ew:IntKind.i64.wrap ((p:Int)+1)=((p+1:Nat):Int))
 (hx:x.op=5) (lr:RH.length=n) (gr:List.take 1 (List.drop (0+((t:Int)).toNat) RH)=[.vsl 6 0 rn ct]) (lro:RO.length=rn) (b5:0≤x.reg) (b6:x.reg < rn) (v:Int) (gm:nth? (c.mem.map A0) x.loc.toNat=some [.int .i64 v]) (b9:x.loc < c.mem.length) (hv:¬ v=e) (b7:0≤x.loc) :
 Bc call u c m r t (Bb u c C6 PC BF (.var 1000001 ME) (.var 1000001 RO) RH [.vsl 3 0 n cp,.vsl 7 0 n cr,.vsl 5 0 mn cm,.vsl 4 0 n cb])=some (.tup [.agg [.vsl 3 0 n cp,.vsl 7 0 n cr,.vsl 5 0 mn cm,.vsl 4 0 n cb],.bool true],Bb u c [.vsl 3 0 n cp,.vsl 7 0 n cr,.vsl 5 0 mn cm,.vsl 4 0 n cb] (Bn PC (0+((t:Int)).toNat) [.int .i64 ((p+1:Nat):Int)]) BF (.var 1000001 ME) (.var 1000001 (Bn RO (0+x.reg.toNat) [.int .i64 v])) RH [.vsl 3 0 n cp,.vsl 7 0 n cr,.vsl 5 0 mn cm,.vsl 4 0 n cb]++[Dr x]):=by
 have hc1:Program.cellsOf Tryz.prog 3=1:=by kernel_rfl
 have hc2:Program.cellsOf Tryz.prog 31=1:=by kernel_rfl
 have hc3:Program.cellsOf Tryz.prog 152=1:=by kernel_rfl
 unfold Bc
 conv=>lhs;whnf
 repeat (first | (refine B0 (by(first | (with_reducible assumption) | omega | (simp only[A8,Bool.or_eq_true,Bool.not_eq_true',Bool.and_eq_false_imp,Bool.or_eq_false_iff,Ai,decide_eq_false_iff_not,beq_iff_eq,bne_iff_ne,beq_eq_false_iff_ne,bne_eq_false_iff_eq,ne_eq,A5,List.length_replicate,List.length_append,List.length_cons,List.length_nil,List.length_take,Int.toNat_natCast];omega) | (with_reducible rfl))) ?_;conv=>lhs;whnf) | (refine Cl (by(first | (with_reducible assumption) | omega | (simp only[A8,Bool.or_eq_true,Bool.not_eq_true',Bool.and_eq_false_imp,Bool.or_eq_false_iff,Ai,decide_eq_false_iff_not,beq_iff_eq,bne_iff_ne,beq_eq_false_iff_ne,bne_eq_false_iff_eq,ne_eq,A5,List.length_replicate,List.length_append,List.length_cons,List.length_nil,List.length_take,Int.toNat_natCast];omega) | (with_reducible rfl))) ?_;conv=>lhs;whnf) | (simp only[h1,h2,gc,gp,gx,ew,hc1,hc2,hc3,gr,gm];conv=>lhs;whnf))
 rfl
theorem Afm (u:Ak) (c:Ac) (m r:Int) (t:Nat) (n cp cr cb cm ct rn mn:Nat) (PC BF ME RO RH:List AV) (ms:List (List AV)) (call:Bp) (code:List Ay) (x:Ay) (p:Nat) (e:Int)
 (h1:call false 80 [.agg [.int .i64 u.mod,.sl 1 (u.init.map A0),.sl 1 (u.regs.map A0),.sl 1 (u.code.map Ah)],.agg [.sl 1 (c.pc.map A0),.sl 1 (c.regs.map Ag),.sl 1 (c.mem.map A0),.sl 1 (c.buf.map An)],.int .i64 m,.int .i64 r,.int .i64 (t:Int)] []=some (.bool true,[]))
 (h2:call false 82 [.agg [.int .i64 u.mod,.sl 1 (u.init.map A0),.sl 1 (u.regs.map A0),.sl 1 (u.code.map Ah)],.agg [.sl 1 (c.pc.map A0),.sl 1 (c.regs.map Ag),.sl 1 (c.mem.map A0),.sl 1 (c.buf.map An)],.int .i64 (t:Int),.sl 3 (x.e.map C0)] []=some (.int .i64 e,[]))
 (gc:nth? (u.code.map Ah) ((t:Int)).toNat=some (Ah code)) (gp:nth? (c.pc.map A0) ((t:Int)).toNat=some [.int .i64 (p:Int)]) (gx:nth? (code.map Bx) ((p:Int)).toNat=some (Bx x))
 (b1:t < u.code.length) (b2:t < c.pc.length) (b3:p < code.length) (b4:t < n) (lp:PC.length=n) (ew:IntKind.i64.wrap ((p:Int)+1)=((p+1:Nat):Int))
 (hx:x.op=6) (lr:RH.length=n) (gr:List.take 1 (List.drop (0+((t:Int)).toNat) RH)=[.vsl 6 0 rn ct]) (lro:RO.length=rn) (b5:0≤x.reg) (b6:x.reg < rn) (lm:ME.length=mn) (b7:0≤x.loc) (b8:x.loc < mn) (v:Int) (gm:nth? (c.mem.map A0) x.loc.toNat=some [.int .i64 v]) (b9:x.loc < c.mem.length) (hm0:¬ u.mod=0) :
 Bc call u c m r t (Bb u c C6 PC BF (.var 1000001 ME) (.var 1000001 RO) RH [.vsl 3 0 n cp,.vsl 7 0 n cr,.vsl 5 0 mn cm,.vsl 4 0 n cb])=some (.tup [.agg [.vsl 3 0 n cp,.vsl 7 0 n cr,.vsl 5 0 mn cm,.vsl 4 0 n cb],.bool true],Bb u c [.vsl 3 0 n cp,.vsl 7 0 n cr,.vsl 5 0 mn cm,.vsl 4 0 n cb] (Bn PC (0+((t:Int)).toNat) [.int .i64 ((p+1:Nat):Int)]) BF (.var 1000001 (Bn ME (0+x.loc.toNat) [.int .i64 ((IntKind.i64.wrap (v+e)).tmod u.mod)])) (.var 1000001 (Bn RO (0+x.reg.toNat) [.int .i64 v])) RH [.vsl 3 0 n cp,.vsl 7 0 n cr,.vsl 5 0 mn cm,.vsl 4 0 n cb]++[Dr x]):=by
 have hc1:Program.cellsOf Tryz.prog 3=1:=by kernel_rfl
 have hc2:Program.cellsOf Tryz.prog 31=1:=by kernel_rfl
 have hc3:Program.cellsOf Tryz.prog 152=1:=by kernel_rfl
 unfold Bc
 conv=>lhs;whnf
 repeat (first | (refine B0 (by(first | (with_reducible assumption) | omega | (simp only[A8,Bool.or_eq_true,Bool.not_eq_true',Bool.and_eq_false_imp,Bool.or_eq_false_iff,Ai,decide_eq_false_iff_not,beq_iff_eq,bne_iff_ne,beq_eq_false_iff_ne,bne_eq_false_iff_eq,ne_eq,A5,List.length_replicate,List.length_append,List.length_cons,List.length_nil,List.length_take,Int.toNat_natCast];omega) | (with_reducible rfl))) ?_;conv=>lhs;whnf) | (refine Cl (by(first | (with_reducible assumption) | omega | (simp only[A8,Bool.or_eq_true,Bool.not_eq_true',Bool.and_eq_false_imp,Bool.or_eq_false_iff,Ai,decide_eq_false_iff_not,beq_iff_eq,bne_iff_ne,beq_eq_false_iff_ne,bne_eq_false_iff_eq,ne_eq,A5,List.length_replicate,List.length_append,List.length_cons,List.length_nil,List.length_take,Int.toNat_natCast];omega) | (with_reducible rfl))) ?_;conv=>lhs;whnf) | (simp only[h1,h2,gc,gp,gx,ew,hc1,hc2,hc3,gr,gm];conv=>lhs;whnf))
 rfl
theorem Abe (u:Ak) (c:Ac) (m r:Int) (t:Nat) (n cp cr cb cm ct rn mn:Nat) (PC BF ME RO RH:List AV) (ms:List (List AV)) (call:Bp) (code:List Ay) (x:Ay) (p:Nat) (e:Int)
 (h1:call false 80 [.agg [.int .i64 u.mod,.sl 1 (u.init.map A0),.sl 1 (u.regs.map A0),.sl 1 (u.code.map Ah)],.agg [.sl 1 (c.pc.map A0),.sl 1 (c.regs.map Ag),.sl 1 (c.mem.map A0),.sl 1 (c.buf.map An)],.int .i64 m,.int .i64 r,.int .i64 (t:Int)] []=some (.bool true,[]))
 (h2:call false 82 [.agg [.int .i64 u.mod,.sl 1 (u.init.map A0),.sl 1 (u.regs.map A0),.sl 1 (u.code.map Ah)],.agg [.sl 1 (c.pc.map A0),.sl 1 (c.regs.map Ag),.sl 1 (c.mem.map A0),.sl 1 (c.buf.map An)],.int .i64 (t:Int),.sl 3 (x.e.map C0)] []=some (.int .i64 e,[]))
 (gc:nth? (u.code.map Ah) ((t:Int)).toNat=some (Ah code)) (gp:nth? (c.pc.map A0) ((t:Int)).toNat=some [.int .i64 (p:Int)]) (gx:nth? (code.map Bx) ((p:Int)).toNat=some (Bx x))
 (b1:t < u.code.length) (b2:t < c.pc.length) (b3:p < code.length) (b4:t < n) (lp:PC.length=n) (ew:IntKind.i64.wrap ((p:Int)+1)=((p+1:Nat):Int))
 (hx:x.op=7) (lr:RH.length=n) (gr:List.take 1 (List.drop (0+((t:Int)).toNat) RH)=[.vsl 6 0 rn ct]) (lro:RO.length=rn) (b5:0≤x.reg) (b6:x.reg < rn) (lm:ME.length=mn) (b7:0≤x.loc) (b8:x.loc < mn) (v:Int) (gm:nth? (c.mem.map A0) x.loc.toNat=some [.int .i64 v]) (b9:x.loc < c.mem.length) :
 Bc call u c m r t (Bb u c C6 PC BF (.var 1000001 ME) (.var 1000001 RO) RH [.vsl 3 0 n cp,.vsl 7 0 n cr,.vsl 5 0 mn cm,.vsl 4 0 n cb])=some (.tup [.agg [.vsl 3 0 n cp,.vsl 7 0 n cr,.vsl 5 0 mn cm,.vsl 4 0 n cb],.bool true],Bb u c [.vsl 3 0 n cp,.vsl 7 0 n cr,.vsl 5 0 mn cm,.vsl 4 0 n cb] (Bn PC (0+((t:Int)).toNat) [.int .i64 ((p+1:Nat):Int)]) BF (.var 1000001 (Bn ME (0+x.loc.toNat) [.int .i64 e])) (.var 1000001 (Bn RO (0+x.reg.toNat) [.int .i64 v])) RH [.vsl 3 0 n cp,.vsl 7 0 n cr,.vsl 5 0 mn cm,.vsl 4 0 n cb]++[Dr x]):=by
 have hc1:Program.cellsOf Tryz.prog 3=1:=by kernel_rfl
 have hc2:Program.cellsOf Tryz.prog 31=1:=by kernel_rfl
 have hc3:Program.cellsOf Tryz.prog 152=1:=by kernel_rfl
 unfold Bc
 conv=>lhs;whnf
 repeat (first | (refine B0 (by(first | (with_reducible assumption) | omega | (simp only[A8,Bool.or_eq_true,Bool.not_eq_true',Bool.and_eq_false_imp,Bool.or_eq_false_iff,Ai,decide_eq_false_iff_not,beq_iff_eq,bne_iff_ne,beq_eq_false_iff_ne,bne_eq_false_iff_eq,ne_eq,A5,List.length_replicate,List.length_append,List.length_cons,List.length_nil,List.length_take,Int.toNat_natCast];omega) | (with_reducible rfl))) ?_;conv=>lhs;whnf) | (refine Cl (by(first | (with_reducible assumption) | omega | (simp only[A8,Bool.or_eq_true,Bool.not_eq_true',Bool.and_eq_false_imp,Bool.or_eq_false_iff,Ai,decide_eq_false_iff_not,beq_iff_eq,bne_iff_ne,beq_eq_false_iff_ne,bne_eq_false_iff_eq,ne_eq,A5,List.length_replicate,List.length_append,List.length_cons,List.length_nil,List.length_take,Int.toNat_natCast];omega) | (with_reducible rfl))) ?_;conv=>lhs;whnf) | (simp only[h1,h2,gc,gp,gx,ew,hc1,hc2,hc3,gr,gm];conv=>lhs;whnf))
 rfl
theorem Adl (u:Ak) (c:Ac) (m r:Int) (t:Nat) (n cp cr cb cm ct rn mn:Nat) (PC BF ME RO RH:List AV) (ms:List (List AV)) (call:Bp)
 (h1:call false 80 [.agg [.int .i64 u.mod,.sl 1 (u.init.map A0),.sl 1 (u.regs.map A0),.sl 1 (u.code.map Ah)],.agg [.sl 1 (c.pc.map A0),.sl 1 (c.regs.map Ag),.sl 1 (c.mem.map A0),.sl 1 (c.buf.map An)],.int .i64 m,.int .i64 r,.int .i64 (t:Int)] []=some (.bool false,[]))
  :
 Bc call u c m r t (Bb u c C6 PC BF (.var 1000001 ME) Br RH [.vsl 3 0 n cp,.vsl 7 0 n cr,.vsl 5 0 mn cm,.vsl 4 0 n cb])=some (.tup [.agg [.vsl 3 0 n cp,.vsl 7 0 n cr,.vsl 5 0 mn cm,.vsl 4 0 n cb],.bool false],Bb u c [.vsl 3 0 n cp,.vsl 7 0 n cr,.vsl 5 0 mn cm,.vsl 4 0 n cb] PC BF (.var 1000001 ME) Br RH [.vsl 3 0 n cp,.vsl 7 0 n cr,.vsl 5 0 mn cm,.vsl 4 0 n cb]):=by
 have hc1:Program.cellsOf Tryz.prog 3=1:=by kernel_rfl
 have hc2:Program.cellsOf Tryz.prog 31=1:=by kernel_rfl
 have hc3:Program.cellsOf Tryz.prog 152=1:=by kernel_rfl
 unfold Bc
 conv=>lhs;whnf
 repeat (first | (refine B0 (by(first | (with_reducible assumption) | omega | (simp only[A8,Bool.or_eq_true,Bool.not_eq_true',Bool.and_eq_false_imp,Bool.or_eq_false_iff,Ai,decide_eq_false_iff_not,beq_iff_eq,bne_iff_ne,beq_eq_false_iff_ne,bne_eq_false_iff_eq,ne_eq,A5,List.length_replicate,List.length_append,List.length_cons,List.length_nil,List.length_take,Int.toNat_natCast];omega) | (with_reducible rfl))) ?_;conv=>lhs;whnf) | (refine Cl (by(first | (with_reducible assumption) | omega | (simp only[A8,Bool.or_eq_true,Bool.not_eq_true',Bool.and_eq_false_imp,Bool.or_eq_false_iff,Ai,decide_eq_false_iff_not,beq_iff_eq,bne_iff_ne,beq_eq_false_iff_ne,bne_eq_false_iff_eq,ne_eq,A5,List.length_replicate,List.length_append,List.length_cons,List.length_nil,List.length_take,Int.toNat_natCast];omega) | (with_reducible rfl))) ?_;conv=>lhs;whnf) | (simp only[h1,hc1,hc2,hc3];conv=>lhs;whnf))
 rfl
theorem Abn (u:Ak) (c:Ac) (m r:Int) (t:Nat) (n cp cr cb cm ct rn mn:Nat) (PC BF ME RO RH:List AV) (ms:List (List AV)) (call:Bp) (code:List Ay) (x:Ay) (p:Nat) (e:Int)
 (h1:call false 80 [.agg [.int .i64 u.mod,.sl 1 (u.init.map A0),.sl 1 (u.regs.map A0),.sl 1 (u.code.map Ah)],.agg [.sl 1 (c.pc.map A0),.sl 1 (c.regs.map Ag),.sl 1 (c.mem.map A0),.sl 1 (c.buf.map An)],.int .i64 m,.int .i64 r,.int .i64 (t:Int)] []=some (.bool true,[]))
 (h2:call false 82 [.agg [.int .i64 u.mod,.sl 1 (u.init.map A0),.sl 1 (u.regs.map A0),.sl 1 (u.code.map Ah)],.agg [.sl 1 (c.pc.map A0),.sl 1 (c.regs.map Ag),.sl 1 (c.mem.map A0),.sl 1 (c.buf.map An)],.int .i64 (t:Int),.sl 3 (x.e.map C0)] []=some (.int .i64 e,[]))
 (gc:nth? (u.code.map Ah) ((t:Int)).toNat=some (Ah code)) (gp:nth? (c.pc.map A0) ((t:Int)).toNat=some [.int .i64 (p:Int)]) (gx:nth? (code.map Bx) ((p:Int)).toNat=some (Bx x))
 (b1:t < u.code.length) (b2:t < c.pc.length) (b3:p < code.length) (b4:t < n) (lp:PC.length=n) (ew:IntKind.i64.wrap ((p:Int)+1)=((p+1:Nat):Int))
 (n20:¬ x.op=20) (n21:¬ x.op=21) (n2:¬ x.op=2) (n3:¬ x.op=3) (n4:¬ x.op=4) (n5:¬ x.op=5) (n6:¬ x.op=6) (n7:¬ x.op=7) :
 Bc call u c m r t (Bb u c C6 PC BF (.var 1000001 ME) Br RH [.vsl 3 0 n cp,.vsl 7 0 n cr,.vsl 5 0 mn cm,.vsl 4 0 n cb])=some (.tup [.agg [.vsl 3 0 n cp,.vsl 7 0 n cr,.vsl 5 0 mn cm,.vsl 4 0 n cb],.bool true],Bb u c [.vsl 3 0 n cp,.vsl 7 0 n cr,.vsl 5 0 mn cm,.vsl 4 0 n cb] (Bn PC (0+((t:Int)).toNat) [.int .i64 ((p+1:Nat):Int)]) BF (.var 1000001 ME) Br RH [.vsl 3 0 n cp,.vsl 7 0 n cr,.vsl 5 0 mn cm,.vsl 4 0 n cb]++[Dr x]):=by
 have hc1:Program.cellsOf Tryz.prog 3=1:=by kernel_rfl
 have hc2:Program.cellsOf Tryz.prog 31=1:=by kernel_rfl
 have hc3:Program.cellsOf Tryz.prog 152=1:=by kernel_rfl
 unfold Bc
 conv=>lhs;whnf
 repeat (first | (refine B0 (by(first | (with_reducible assumption) | omega | (simp only[A8,Bool.or_eq_true,Bool.not_eq_true',Bool.and_eq_false_imp,Bool.or_eq_false_iff,Ai,decide_eq_false_iff_not,beq_iff_eq,bne_iff_ne,beq_eq_false_iff_ne,bne_eq_false_iff_eq,ne_eq,A5,List.length_replicate,List.length_append,List.length_cons,List.length_nil,List.length_take,Int.toNat_natCast];omega) | (with_reducible rfl))) ?_;conv=>lhs;whnf) | (refine Cl (by(first | (with_reducible assumption) | omega | (simp only[A8,Bool.or_eq_true,Bool.not_eq_true',Bool.and_eq_false_imp,Bool.or_eq_false_iff,Ai,decide_eq_false_iff_not,beq_iff_eq,bne_iff_ne,beq_eq_false_iff_ne,bne_eq_false_iff_eq,ne_eq,A5,List.length_replicate,List.length_append,List.length_cons,List.length_nil,List.length_take,Int.toNat_natCast];omega) | (with_reducible rfl))) ?_;conv=>lhs;whnf) | (simp only[h1,h2,gc,gp,gx,ew,hc1,hc2,hc3];conv=>lhs;whnf))
 rfl
theorem Aax (u:Ak) (c:Ac) (m r:Int) (t:Nat) (n cp cr cb cm ct rn mn:Nat) (PC BF ME RO RH:List AV) (ms:List (List AV)) (call:Bp) (code:List Ay) (x:Ay) (p:Nat) (e:Int)
 (h1:call false 80 [.agg [.int .i64 u.mod,.sl 1 (u.init.map A0),.sl 1 (u.regs.map A0),.sl 1 (u.code.map Ah)],.agg [.sl 1 (c.pc.map A0),.sl 1 (c.regs.map Ag),.sl 1 (c.mem.map A0),.sl 1 (c.buf.map An)],.int .i64 m,.int .i64 r,.int .i64 (t:Int)] []=some (.bool true,[]))
 (h2:call false 82 [.agg [.int .i64 u.mod,.sl 1 (u.init.map A0),.sl 1 (u.regs.map A0),.sl 1 (u.code.map Ah)],.agg [.sl 1 (c.pc.map A0),.sl 1 (c.regs.map Ag),.sl 1 (c.mem.map A0),.sl 1 (c.buf.map An)],.int .i64 (t:Int),.sl 3 (x.e.map C0)] []=some (.int .i64 e,[]))
 (gc:nth? (u.code.map Ah) ((t:Int)).toNat=some (Ah code)) (gp:nth? (c.pc.map A0) ((t:Int)).toNat=some [.int .i64 (p:Int)]) (gx:nth? (code.map Bx) ((p:Int)).toNat=some (Bx x))
 (b1:t < u.code.length) (b2:t < c.pc.length) (b3:p < code.length) (b4:t < n) (lp:PC.length=n) (ew:IntKind.i64.wrap ((p:Int)+1)=((p+1:Nat):Int))
 (hx:x.op=20) :
 Bc call u c m r t (Bb u c C6 PC BF (.var 1000001 ME) Br RH [.vsl 3 0 n cp,.vsl 7 0 n cr,.vsl 5 0 mn cm,.vsl 4 0 n cb])=some (.tup [.agg [.vsl 3 0 n cp,.vsl 7 0 n cr,.vsl 5 0 mn cm,.vsl 4 0 n cb],.bool true],Bb u c [.vsl 3 0 n cp,.vsl 7 0 n cr,.vsl 5 0 mn cm,.vsl 4 0 n cb] (Bn (Bn PC (0+((t:Int)).toNat) [.int .i64 ((p+1:Nat):Int)]) (0+((t:Int)).toNat) [.int .i64 x.goal]) BF (.var 1000001 ME) Br RH [.vsl 3 0 n cp,.vsl 7 0 n cr,.vsl 5 0 mn cm,.vsl 4 0 n cb]++[Dr x]):=by
 have hc1:Program.cellsOf Tryz.prog 3=1:=by kernel_rfl
 have hc2:Program.cellsOf Tryz.prog 31=1:=by kernel_rfl
 have hc3:Program.cellsOf Tryz.prog 152=1:=by kernel_rfl
 have lq:∀ L:List AV,decide (0+((t:Int)).toNat+1≤(Bn PC (0+((t:Int)).toNat) L).length)=true:=fun L=>decide_eq_true (by
  have:=M2 (l:=PC) (k:=0+((t:Int)).toNat) (by rw[lp,Int.toNat_natCast];omega) L
  rw[Int.toNat_natCast] at this ⊢
  omega)
 unfold Bc
 conv=>lhs;whnf
 repeat (first | (refine B0 (by(first | (with_reducible assumption) | omega | (simp only[A8,Bool.or_eq_true,Bool.not_eq_true',Bool.and_eq_false_imp,Bool.or_eq_false_iff,Ai,decide_eq_false_iff_not,beq_iff_eq,bne_iff_ne,beq_eq_false_iff_ne,bne_eq_false_iff_eq,ne_eq,A5,List.length_replicate,List.length_append,List.length_cons,List.length_nil,List.length_take,Int.toNat_natCast];omega) | (with_reducible rfl))) ?_;conv=>lhs;whnf) | (refine Cl (by(first | (with_reducible assumption) | omega | (simp only[A8,Bool.or_eq_true,Bool.not_eq_true',Bool.and_eq_false_imp,Bool.or_eq_false_iff,Ai,decide_eq_false_iff_not,beq_iff_eq,bne_iff_ne,beq_eq_false_iff_ne,bne_eq_false_iff_eq,ne_eq,A5,List.length_replicate,List.length_append,List.length_cons,List.length_nil,List.length_take,Int.toNat_natCast];omega) | (with_reducible rfl))) ?_;conv=>lhs;whnf) | (simp only[h1,h2,gc,gp,gx,ew,hc1,hc2,hc3,lq];conv=>lhs;whnf))
 rfl
theorem Ajw (u:Ak) (c:Ac) (m r:Int) (t:Nat) (n cp cr cb cm ct rn mn:Nat) (PC BF ME RO RH:List AV) (ms:List (List AV)) (call:Bp) (code:List Ay) (x:Ay) (p:Nat) (e:Int)
 (h1:call false 80 [.agg [.int .i64 u.mod,.sl 1 (u.init.map A0),.sl 1 (u.regs.map A0),.sl 1 (u.code.map Ah)],.agg [.sl 1 (c.pc.map A0),.sl 1 (c.regs.map Ag),.sl 1 (c.mem.map A0),.sl 1 (c.buf.map An)],.int .i64 m,.int .i64 r,.int .i64 (t:Int)] []=some (.bool true,[]))
 (h2:call false 82 [.agg [.int .i64 u.mod,.sl 1 (u.init.map A0),.sl 1 (u.regs.map A0),.sl 1 (u.code.map Ah)],.agg [.sl 1 (c.pc.map A0),.sl 1 (c.regs.map Ag),.sl 1 (c.mem.map A0),.sl 1 (c.buf.map An)],.int .i64 (t:Int),.sl 3 (x.e.map C0)] []=some (.int .i64 e,[]))
 (gc:nth? (u.code.map Ah) ((t:Int)).toNat=some (Ah code)) (gp:nth? (c.pc.map A0) ((t:Int)).toNat=some [.int .i64 (p:Int)]) (gx:nth? (code.map Bx) ((p:Int)).toNat=some (Bx x))
 (b1:t < u.code.length) (b2:t < c.pc.length) (b3:p < code.length) (b4:t < n) (lp:PC.length=n) (ew:IntKind.i64.wrap ((p:Int)+1)=((p+1:Nat):Int))
 (hx:x.op=21) (he:e=0) :
 Bc call u c m r t (Bb u c C6 PC BF (.var 1000001 ME) Br RH [.vsl 3 0 n cp,.vsl 7 0 n cr,.vsl 5 0 mn cm,.vsl 4 0 n cb])=some (.tup [.agg [.vsl 3 0 n cp,.vsl 7 0 n cr,.vsl 5 0 mn cm,.vsl 4 0 n cb],.bool true],Bb u c [.vsl 3 0 n cp,.vsl 7 0 n cr,.vsl 5 0 mn cm,.vsl 4 0 n cb] (Bn (Bn PC (0+((t:Int)).toNat) [.int .i64 ((p+1:Nat):Int)]) (0+((t:Int)).toNat) [.int .i64 x.goal]) BF (.var 1000001 ME) Br RH [.vsl 3 0 n cp,.vsl 7 0 n cr,.vsl 5 0 mn cm,.vsl 4 0 n cb]++[Dr x]):=by
 have hc1:Program.cellsOf Tryz.prog 3=1:=by kernel_rfl
 have hc2:Program.cellsOf Tryz.prog 31=1:=by kernel_rfl
 have hc3:Program.cellsOf Tryz.prog 152=1:=by kernel_rfl
 have lq:∀ L:List AV,decide (0+((t:Int)).toNat+1≤(Bn PC (0+((t:Int)).toNat) L).length)=true:=fun L=>decide_eq_true (by
  have:=M2 (l:=PC) (k:=0+((t:Int)).toNat) (by rw[lp,Int.toNat_natCast];omega) L
  rw[Int.toNat_natCast] at this ⊢
  omega)
 unfold Bc
 conv=>lhs;whnf
 repeat (first | (refine B0 (by(first | (with_reducible assumption) | omega | (simp only[A8,Bool.or_eq_true,Bool.not_eq_true',Bool.and_eq_false_imp,Bool.or_eq_false_iff,Ai,decide_eq_false_iff_not,beq_iff_eq,bne_iff_ne,beq_eq_false_iff_ne,bne_eq_false_iff_eq,ne_eq,A5,List.length_replicate,List.length_append,List.length_cons,List.length_nil,List.length_take,Int.toNat_natCast];omega) | (with_reducible rfl))) ?_;conv=>lhs;whnf) | (refine Cl (by(first | (with_reducible assumption) | omega | (simp only[A8,Bool.or_eq_true,Bool.not_eq_true',Bool.and_eq_false_imp,Bool.or_eq_false_iff,Ai,decide_eq_false_iff_not,beq_iff_eq,bne_iff_ne,beq_eq_false_iff_ne,bne_eq_false_iff_eq,ne_eq,A5,List.length_replicate,List.length_append,List.length_cons,List.length_nil,List.length_take,Int.toNat_natCast];omega) | (with_reducible rfl))) ?_;conv=>lhs;whnf) | (simp only[h1,h2,gc,gp,gx,ew,hc1,hc2,hc3,lq];conv=>lhs;whnf))
 rfl
theorem Ado (u:Ak) (c:Ac) (m r:Int) (t:Nat) (n cp cr cb cm ct rn mn:Nat) (PC BF ME RO RH:List AV) (ms:List (List AV)) (call:Bp) (code:List Ay) (x:Ay) (p:Nat) (e:Int)
 (h1:call false 80 [.agg [.int .i64 u.mod,.sl 1 (u.init.map A0),.sl 1 (u.regs.map A0),.sl 1 (u.code.map Ah)],.agg [.sl 1 (c.pc.map A0),.sl 1 (c.regs.map Ag),.sl 1 (c.mem.map A0),.sl 1 (c.buf.map An)],.int .i64 m,.int .i64 r,.int .i64 (t:Int)] []=some (.bool true,[]))
 (h2:call false 82 [.agg [.int .i64 u.mod,.sl 1 (u.init.map A0),.sl 1 (u.regs.map A0),.sl 1 (u.code.map Ah)],.agg [.sl 1 (c.pc.map A0),.sl 1 (c.regs.map Ag),.sl 1 (c.mem.map A0),.sl 1 (c.buf.map An)],.int .i64 (t:Int),.sl 3 (x.e.map C0)] []=some (.int .i64 e,[]))
 (gc:nth? (u.code.map Ah) ((t:Int)).toNat=some (Ah code)) (gp:nth? (c.pc.map A0) ((t:Int)).toNat=some [.int .i64 (p:Int)]) (gx:nth? (code.map Bx) ((p:Int)).toNat=some (Bx x))
 (b1:t < u.code.length) (b2:t < c.pc.length) (b3:p < code.length) (b4:t < n) (lp:PC.length=n) (ew:IntKind.i64.wrap ((p:Int)+1)=((p+1:Nat):Int))
 (hx:x.op=21) (he:¬ e=0) :
 Bc call u c m r t (Bb u c C6 PC BF (.var 1000001 ME) Br RH [.vsl 3 0 n cp,.vsl 7 0 n cr,.vsl 5 0 mn cm,.vsl 4 0 n cb])=some (.tup [.agg [.vsl 3 0 n cp,.vsl 7 0 n cr,.vsl 5 0 mn cm,.vsl 4 0 n cb],.bool true],Bb u c [.vsl 3 0 n cp,.vsl 7 0 n cr,.vsl 5 0 mn cm,.vsl 4 0 n cb] (Bn PC (0+((t:Int)).toNat) [.int .i64 ((p+1:Nat):Int)]) BF (.var 1000001 ME) Br RH [.vsl 3 0 n cp,.vsl 7 0 n cr,.vsl 5 0 mn cm,.vsl 4 0 n cb]++[Dr x]):=by
 have hc1:Program.cellsOf Tryz.prog 3=1:=by kernel_rfl
 have hc2:Program.cellsOf Tryz.prog 31=1:=by kernel_rfl
 have hc3:Program.cellsOf Tryz.prog 152=1:=by kernel_rfl
 unfold Bc
 conv=>lhs;whnf
 repeat (first | (refine B0 (by(first | (with_reducible assumption) | omega | (simp only[A8,Bool.or_eq_true,Bool.not_eq_true',Bool.and_eq_false_imp,Bool.or_eq_false_iff,Ai,decide_eq_false_iff_not,beq_iff_eq,bne_iff_ne,beq_eq_false_iff_ne,bne_eq_false_iff_eq,ne_eq,A5,List.length_replicate,List.length_append,List.length_cons,List.length_nil,List.length_take,Int.toNat_natCast];omega) | (with_reducible rfl))) ?_;conv=>lhs;whnf) | (refine Cl (by(first | (with_reducible assumption) | omega | (simp only[A8,Bool.or_eq_true,Bool.not_eq_true',Bool.and_eq_false_imp,Bool.or_eq_false_iff,Ai,decide_eq_false_iff_not,beq_iff_eq,bne_iff_ne,beq_eq_false_iff_ne,bne_eq_false_iff_eq,ne_eq,A5,List.length_replicate,List.length_append,List.length_cons,List.length_nil,List.length_take,Int.toNat_natCast];omega) | (with_reducible rfl))) ?_;conv=>lhs;whnf) | (simp only[h1,h2,gc,gp,gx,ew,hc1,hc2,hc3];conv=>lhs;whnf))
 rfl
theorem Abj (u:Ak) (c:Ac) (m r:Int) (t:Nat) (n cp cr cb cm ct rn mn:Nat) (PC BF ME RO RH:List AV) (ms:List (List AV)) (call:Bp) (code:List Ay) (x:Ay) (p:Nat) (e:Int)
 (h1:call false 80 [.agg [.int .i64 u.mod,.sl 1 (u.init.map A0),.sl 1 (u.regs.map A0),.sl 1 (u.code.map Ah)],.agg [.sl 1 (c.pc.map A0),.sl 1 (c.regs.map Ag),.sl 1 (c.mem.map A0),.sl 1 (c.buf.map An)],.int .i64 m,.int .i64 r,.int .i64 (t:Int)] []=some (.bool true,[]))
 (h2:call false 82 [.agg [.int .i64 u.mod,.sl 1 (u.init.map A0),.sl 1 (u.regs.map A0),.sl 1 (u.code.map Ah)],.agg [.sl 1 (c.pc.map A0),.sl 1 (c.regs.map Ag),.sl 1 (c.mem.map A0),.sl 1 (c.buf.map An)],.int .i64 (t:Int),.sl 3 (x.e.map C0)] []=some (.int .i64 e,[]))
 (gc:nth? (u.code.map Ah) ((t:Int)).toNat=some (Ah code)) (gp:nth? (c.pc.map A0) ((t:Int)).toNat=some [.int .i64 (p:Int)]) (gx:nth? (code.map Bx) ((p:Int)).toNat=some (Bx x))
 (b1:t < u.code.length) (b2:t < c.pc.length) (b3:p < code.length) (b4:t < n) (lp:PC.length=n) (ew:IntKind.i64.wrap ((p:Int)+1)=((p+1:Nat):Int))
 (hx:x.op=4) (hm:¬ m=1) (bt b2:List A2) (gb:nth? (c.buf.map An) ((t:Int)).toNat=some [.sl 2 (bt.map At)]) (b5:t < c.buf.length) (lb:BF.length=n) (h3:call false 84 [.sl 2 (bt.map At),.int .i64 m,.agg [.int .i64 x.loc,.int .i64 e]] []=some (.sl 2 (b2.map At),[])) :
 Bc call u c m r t (Bb u c C6 PC BF (.var 1000001 ME) Br RH [.vsl 3 0 n cp,.vsl 7 0 n cr,.vsl 5 0 mn cm,.vsl 4 0 n cb])=some (.tup [.agg [.vsl 3 0 n cp,.vsl 7 0 n cr,.vsl 5 0 mn cm,.vsl 4 0 n cb],.bool true],Bb u c [.vsl 3 0 n cp,.vsl 7 0 n cr,.vsl 5 0 mn cm,.vsl 4 0 n cb] (Bn PC (0+((t:Int)).toNat) [.int .i64 ((p+1:Nat):Int)]) (Bn BF (0+((t:Int)).toNat) [.sl 2 (b2.map At)]) (.var 1000001 ME) Br RH [.vsl 3 0 n cp,.vsl 7 0 n cr,.vsl 5 0 mn cm,.vsl 4 0 n cb]++[Dr x]):=by
 have hc1:Program.cellsOf Tryz.prog 3=1:=by kernel_rfl
 have hc2:Program.cellsOf Tryz.prog 31=1:=by kernel_rfl
 have hc3:Program.cellsOf Tryz.prog 152=1:=by kernel_rfl
 unfold Bc
 conv=>lhs;whnf
 repeat (first | (refine B0 (by(first | (with_reducible assumption) | omega | (simp only[A8,Bool.or_eq_true,Bool.not_eq_true',Bool.and_eq_false_imp,Bool.or_eq_false_iff,Ai,decide_eq_false_iff_not,beq_iff_eq,bne_iff_ne,beq_eq_false_iff_ne,bne_eq_false_iff_eq,ne_eq,A5,List.length_replicate,List.length_append,List.length_cons,List.length_nil,List.length_take,Int.toNat_natCast];omega) | (with_reducible rfl))) ?_;conv=>lhs;whnf) | (refine Cl (by(first | (with_reducible assumption) | omega | (simp only[A8,Bool.or_eq_true,Bool.not_eq_true',Bool.and_eq_false_imp,Bool.or_eq_false_iff,Ai,decide_eq_false_iff_not,beq_iff_eq,bne_iff_ne,beq_eq_false_iff_ne,bne_eq_false_iff_eq,ne_eq,A5,List.length_replicate,List.length_append,List.length_cons,List.length_nil,List.length_take,Int.toNat_natCast];omega) | (with_reducible rfl))) ?_;conv=>lhs;whnf) | (simp only[h1,h2,gc,gp,gx,ew,hc1,hc2,hc3,h3,gb];conv=>lhs;whnf))
 rfl
theorem Aii (u:Ak) (c:Ac) (m r:Int) (t:Nat) (n cp cr cb cm ct rn mn:Nat) (PC BF ME RO RH:List AV) (ms:List (List AV)) (call:Bp) (code:List Ay) (x:Ay) (p:Nat) (e:Int)
 (h1:call false 80 [.agg [.int .i64 u.mod,.sl 1 (u.init.map A0),.sl 1 (u.regs.map A0),.sl 1 (u.code.map Ah)],.agg [.sl 1 (c.pc.map A0),.sl 1 (c.regs.map Ag),.sl 1 (c.mem.map A0),.sl 1 (c.buf.map An)],.int .i64 m,.int .i64 r,.int .i64 (t:Int)] []=some (.bool true,[]))
 (h2:call false 82 [.agg [.int .i64 u.mod,.sl 1 (u.init.map A0),.sl 1 (u.regs.map A0),.sl 1 (u.code.map Ah)],.agg [.sl 1 (c.pc.map A0),.sl 1 (c.regs.map Ag),.sl 1 (c.mem.map A0),.sl 1 (c.buf.map An)],.int .i64 (t:Int),.sl 3 (x.e.map C0)] []=some (.int .i64 e,[]))
 (gc:nth? (u.code.map Ah) ((t:Int)).toNat=some (Ah code)) (gp:nth? (c.pc.map A0) ((t:Int)).toNat=some [.int .i64 (p:Int)]) (gx:nth? (code.map Bx) ((p:Int)).toNat=some (Bx x))
 (b1:t < u.code.length) (b2:t < c.pc.length) (b3:p < code.length) (b4:t < n) (lp:PC.length=n) (ew:IntKind.i64.wrap ((p:Int)+1)=((p+1:Nat):Int))
 (hx:x.op=4) (hm:m=1) (lm:ME.length=mn) (b7:0≤x.loc) (b8:x.loc < mn) :
 Bc call u c m r t (Bb u c C6 PC BF (.var 1000001 ME) Br RH [.vsl 3 0 n cp,.vsl 7 0 n cr,.vsl 5 0 mn cm,.vsl 4 0 n cb])=some (.tup [.agg [.vsl 3 0 n cp,.vsl 7 0 n cr,.vsl 5 0 mn cm,.vsl 4 0 n cb],.bool true],Bb u c [.vsl 3 0 n cp,.vsl 7 0 n cr,.vsl 5 0 mn cm,.vsl 4 0 n cb] (Bn PC (0+((t:Int)).toNat) [.int .i64 ((p+1:Nat):Int)]) BF (.var 1000001 (Bn ME (0+x.loc.toNat) [.int .i64 e])) Br RH [.vsl 3 0 n cp,.vsl 7 0 n cr,.vsl 5 0 mn cm,.vsl 4 0 n cb]++[Dr x]):=by
 have hc1:Program.cellsOf Tryz.prog 3=1:=by kernel_rfl
 have hc2:Program.cellsOf Tryz.prog 31=1:=by kernel_rfl
 have hc3:Program.cellsOf Tryz.prog 152=1:=by kernel_rfl
 unfold Bc
 conv=>lhs;whnf
 repeat (first | (refine B0 (by(first | (with_reducible assumption) | omega | (simp only[A8,Bool.or_eq_true,Bool.not_eq_true',Bool.and_eq_false_imp,Bool.or_eq_false_iff,Ai,decide_eq_false_iff_not,beq_iff_eq,bne_iff_ne,beq_eq_false_iff_ne,bne_eq_false_iff_eq,ne_eq,A5,List.length_replicate,List.length_append,List.length_cons,List.length_nil,List.length_take,Int.toNat_natCast];omega) | (with_reducible rfl))) ?_;conv=>lhs;whnf) | (refine Cl (by(first | (with_reducible assumption) | omega | (simp only[A8,Bool.or_eq_true,Bool.not_eq_true',Bool.and_eq_false_imp,Bool.or_eq_false_iff,Ai,decide_eq_false_iff_not,beq_iff_eq,bne_iff_ne,beq_eq_false_iff_ne,bne_eq_false_iff_eq,ne_eq,A5,List.length_replicate,List.length_append,List.length_cons,List.length_nil,List.length_take,Int.toNat_natCast];omega) | (with_reducible rfl))) ?_;conv=>lhs;whnf) | (simp only[h1,h2,gc,gp,gx,ew,hc1,hc2,hc3];conv=>lhs;whnf))
 rfl
theorem Afs (u:Ak) (c:Ac) (m r:Int) (t:Nat) (n cp cr cb cm ct rn mn:Nat) (PC BF ME RO RH:List AV) (ms:List (List AV)) (call:Bp)
 (h1:call false 80 [.agg [.int .i64 u.mod,.sl 1 (u.init.map A0),.sl 1 (u.regs.map A0),.sl 1 (u.code.map Ah)],.agg [.sl 1 (c.pc.map A0),.sl 1 (c.regs.map Ag),.sl 1 (c.mem.map A0),.sl 1 (c.buf.map An)],.int .i64 m,.int .i64 r,.int .i64 (t:Int)] []=some (.bool false,[]))
  :
 Bc call u c m r t (Bb u c C6 PC BF Br (.var 1000001 RO) RH [.vsl 3 0 n cp,.vsl 7 0 n cr,.sl 1 ms,.vsl 4 0 n cb])=some (.tup [.agg [.vsl 3 0 n cp,.vsl 7 0 n cr,.sl 1 ms,.vsl 4 0 n cb],.bool false],Bb u c [.vsl 3 0 n cp,.vsl 7 0 n cr,.sl 1 ms,.vsl 4 0 n cb] PC BF Br (.var 1000001 RO) RH [.vsl 3 0 n cp,.vsl 7 0 n cr,.sl 1 ms,.vsl 4 0 n cb]):=by
 have hc1:Program.cellsOf Tryz.prog 3=1:=by kernel_rfl
 have hc2:Program.cellsOf Tryz.prog 31=1:=by kernel_rfl
 have hc3:Program.cellsOf Tryz.prog 152=1:=by kernel_rfl
 unfold Bc
 conv=>lhs;whnf
 repeat (first | (refine B0 (by(first | (with_reducible assumption) | omega | (simp only[A8,Bool.or_eq_true,Bool.not_eq_true',Bool.and_eq_false_imp,Bool.or_eq_false_iff,Ai,decide_eq_false_iff_not,beq_iff_eq,bne_iff_ne,beq_eq_false_iff_ne,bne_eq_false_iff_eq,ne_eq,A5,List.length_replicate,List.length_append,List.length_cons,List.length_nil,List.length_take,Int.toNat_natCast];omega) | (with_reducible rfl))) ?_;conv=>lhs;whnf) | (refine Cl (by(first | (with_reducible assumption) | omega | (simp only[A8,Bool.or_eq_true,Bool.not_eq_true',Bool.and_eq_false_imp,Bool.or_eq_false_iff,Ai,decide_eq_false_iff_not,beq_iff_eq,bne_iff_ne,beq_eq_false_iff_ne,bne_eq_false_iff_eq,ne_eq,A5,List.length_replicate,List.length_append,List.length_cons,List.length_nil,List.length_take,Int.toNat_natCast];omega) | (with_reducible rfl))) ?_;conv=>lhs;whnf) | (simp only[h1,hc1,hc2,hc3];conv=>lhs;whnf))
 rfl
theorem Ab0 (u:Ak) (c:Ac) (m r:Int) (t:Nat) (n cp cr cb cm ct rn mn:Nat) (PC BF ME RO RH:List AV) (ms:List (List AV)) (call:Bp) (code:List Ay) (x:Ay) (p:Nat) (e:Int)
 (h1:call false 80 [.agg [.int .i64 u.mod,.sl 1 (u.init.map A0),.sl 1 (u.regs.map A0),.sl 1 (u.code.map Ah)],.agg [.sl 1 (c.pc.map A0),.sl 1 (c.regs.map Ag),.sl 1 (c.mem.map A0),.sl 1 (c.buf.map An)],.int .i64 m,.int .i64 r,.int .i64 (t:Int)] []=some (.bool true,[]))
 (h2:call false 82 [.agg [.int .i64 u.mod,.sl 1 (u.init.map A0),.sl 1 (u.regs.map A0),.sl 1 (u.code.map Ah)],.agg [.sl 1 (c.pc.map A0),.sl 1 (c.regs.map Ag),.sl 1 (c.mem.map A0),.sl 1 (c.buf.map An)],.int .i64 (t:Int),.sl 3 (x.e.map C0)] []=some (.int .i64 e,[]))
 (gc:nth? (u.code.map Ah) ((t:Int)).toNat=some (Ah code)) (gp:nth? (c.pc.map A0) ((t:Int)).toNat=some [.int .i64 (p:Int)]) (gx:nth? (code.map Bx) ((p:Int)).toNat=some (Bx x))
 (b1:t < u.code.length) (b2:t < c.pc.length) (b3:p < code.length) (b4:t < n) (lp:PC.length=n) (ew:IntKind.i64.wrap ((p:Int)+1)=((p+1:Nat):Int))
 (n20:¬ x.op=20) (n21:¬ x.op=21) (n2:¬ x.op=2) (n3:¬ x.op=3) (n4:¬ x.op=4) (n5:¬ x.op=5) (n6:¬ x.op=6) (n7:¬ x.op=7) :
 Bc call u c m r t (Bb u c C6 PC BF Br (.var 1000001 RO) RH [.vsl 3 0 n cp,.vsl 7 0 n cr,.sl 1 ms,.vsl 4 0 n cb])=some (.tup [.agg [.vsl 3 0 n cp,.vsl 7 0 n cr,.sl 1 ms,.vsl 4 0 n cb],.bool true],Bb u c [.vsl 3 0 n cp,.vsl 7 0 n cr,.sl 1 ms,.vsl 4 0 n cb] (Bn PC (0+((t:Int)).toNat) [.int .i64 ((p+1:Nat):Int)]) BF Br (.var 1000001 RO) RH [.vsl 3 0 n cp,.vsl 7 0 n cr,.sl 1 ms,.vsl 4 0 n cb]++[Dr x]):=by
 have hc1:Program.cellsOf Tryz.prog 3=1:=by kernel_rfl
 have hc2:Program.cellsOf Tryz.prog 31=1:=by kernel_rfl
 have hc3:Program.cellsOf Tryz.prog 152=1:=by kernel_rfl
 unfold Bc
 conv=>lhs;whnf
 repeat (first | (refine B0 (by(first | (with_reducible assumption) | omega | (simp only[A8,Bool.or_eq_true,Bool.not_eq_true',Bool.and_eq_false_imp,Bool.or_eq_false_iff,Ai,decide_eq_false_iff_not,beq_iff_eq,bne_iff_ne,beq_eq_false_iff_ne,bne_eq_false_iff_eq,ne_eq,A5,List.length_replicate,List.length_append,List.length_cons,List.length_nil,List.length_take,Int.toNat_natCast];omega) | (with_reducible rfl))) ?_;conv=>lhs;whnf) | (refine Cl (by(first | (with_reducible assumption) | omega | (simp only[A8,Bool.or_eq_true,Bool.not_eq_true',Bool.and_eq_false_imp,Bool.or_eq_false_iff,Ai,decide_eq_false_iff_not,beq_iff_eq,bne_iff_ne,beq_eq_false_iff_ne,bne_eq_false_iff_eq,ne_eq,A5,List.length_replicate,List.length_append,List.length_cons,List.length_nil,List.length_take,Int.toNat_natCast];omega) | (with_reducible rfl))) ?_;conv=>lhs;whnf) | (simp only[h1,h2,gc,gp,gx,ew,hc1,hc2,hc3];conv=>lhs;whnf))
 rfl
theorem Aaq (u:Ak) (c:Ac) (m r:Int) (t:Nat) (n cp cr cb cm ct rn mn:Nat) (PC BF ME RO RH:List AV) (ms:List (List AV)) (call:Bp) (code:List Ay) (x:Ay) (p:Nat) (e:Int)
 (h1:call false 80 [.agg [.int .i64 u.mod,.sl 1 (u.init.map A0),.sl 1 (u.regs.map A0),.sl 1 (u.code.map Ah)],.agg [.sl 1 (c.pc.map A0),.sl 1 (c.regs.map Ag),.sl 1 (c.mem.map A0),.sl 1 (c.buf.map An)],.int .i64 m,.int .i64 r,.int .i64 (t:Int)] []=some (.bool true,[]))
 (h2:call false 82 [.agg [.int .i64 u.mod,.sl 1 (u.init.map A0),.sl 1 (u.regs.map A0),.sl 1 (u.code.map Ah)],.agg [.sl 1 (c.pc.map A0),.sl 1 (c.regs.map Ag),.sl 1 (c.mem.map A0),.sl 1 (c.buf.map An)],.int .i64 (t:Int),.sl 3 (x.e.map C0)] []=some (.int .i64 e,[]))
 (gc:nth? (u.code.map Ah) ((t:Int)).toNat=some (Ah code)) (gp:nth? (c.pc.map A0) ((t:Int)).toNat=some [.int .i64 (p:Int)]) (gx:nth? (code.map Bx) ((p:Int)).toNat=some (Bx x))
 (b1:t < u.code.length) (b2:t < c.pc.length) (b3:p < code.length) (b4:t < n) (lp:PC.length=n) (ew:IntKind.i64.wrap ((p:Int)+1)=((p+1:Nat):Int))
 (hx:x.op=20) :
 Bc call u c m r t (Bb u c C6 PC BF Br (.var 1000001 RO) RH [.vsl 3 0 n cp,.vsl 7 0 n cr,.sl 1 ms,.vsl 4 0 n cb])=some (.tup [.agg [.vsl 3 0 n cp,.vsl 7 0 n cr,.sl 1 ms,.vsl 4 0 n cb],.bool true],Bb u c [.vsl 3 0 n cp,.vsl 7 0 n cr,.sl 1 ms,.vsl 4 0 n cb] (Bn (Bn PC (0+((t:Int)).toNat) [.int .i64 ((p+1:Nat):Int)]) (0+((t:Int)).toNat) [.int .i64 x.goal]) BF Br (.var 1000001 RO) RH [.vsl 3 0 n cp,.vsl 7 0 n cr,.sl 1 ms,.vsl 4 0 n cb]++[Dr x]):=by
 have hc1:Program.cellsOf Tryz.prog 3=1:=by kernel_rfl
 have hc2:Program.cellsOf Tryz.prog 31=1:=by kernel_rfl
 have hc3:Program.cellsOf Tryz.prog 152=1:=by kernel_rfl
 have lq:∀ L:List AV,decide (0+((t:Int)).toNat+1≤(Bn PC (0+((t:Int)).toNat) L).length)=true:=fun L=>decide_eq_true (by
  have:=M2 (l:=PC) (k:=0+((t:Int)).toNat) (by rw[lp,Int.toNat_natCast];omega) L
  rw[Int.toNat_natCast] at this ⊢
  omega)
 unfold Bc
 conv=>lhs;whnf
 repeat (first | (refine B0 (by(first | (with_reducible assumption) | omega | (simp only[A8,Bool.or_eq_true,Bool.not_eq_true',Bool.and_eq_false_imp,Bool.or_eq_false_iff,Ai,decide_eq_false_iff_not,beq_iff_eq,bne_iff_ne,beq_eq_false_iff_ne,bne_eq_false_iff_eq,ne_eq,A5,List.length_replicate,List.length_append,List.length_cons,List.length_nil,List.length_take,Int.toNat_natCast];omega) | (with_reducible rfl))) ?_;conv=>lhs;whnf) | (refine Cl (by(first | (with_reducible assumption) | omega | (simp only[A8,Bool.or_eq_true,Bool.not_eq_true',Bool.and_eq_false_imp,Bool.or_eq_false_iff,Ai,decide_eq_false_iff_not,beq_iff_eq,bne_iff_ne,beq_eq_false_iff_ne,bne_eq_false_iff_eq,ne_eq,A5,List.length_replicate,List.length_append,List.length_cons,List.length_nil,List.length_take,Int.toNat_natCast];omega) | (with_reducible rfl))) ?_;conv=>lhs;whnf) | (simp only[h1,h2,gc,gp,gx,ew,hc1,hc2,hc3,lq];conv=>lhs;whnf))
 rfl
theorem Ak9 (u:Ak) (c:Ac) (m r:Int) (t:Nat) (n cp cr cb cm ct rn mn:Nat) (PC BF ME RO RH:List AV) (ms:List (List AV)) (call:Bp) (code:List Ay) (x:Ay) (p:Nat) (e:Int)
 (h1:call false 80 [.agg [.int .i64 u.mod,.sl 1 (u.init.map A0),.sl 1 (u.regs.map A0),.sl 1 (u.code.map Ah)],.agg [.sl 1 (c.pc.map A0),.sl 1 (c.regs.map Ag),.sl 1 (c.mem.map A0),.sl 1 (c.buf.map An)],.int .i64 m,.int .i64 r,.int .i64 (t:Int)] []=some (.bool true,[]))
 (h2:call false 82 [.agg [.int .i64 u.mod,.sl 1 (u.init.map A0),.sl 1 (u.regs.map A0),.sl 1 (u.code.map Ah)],.agg [.sl 1 (c.pc.map A0),.sl 1 (c.regs.map Ag),.sl 1 (c.mem.map A0),.sl 1 (c.buf.map An)],.int .i64 (t:Int),.sl 3 (x.e.map C0)] []=some (.int .i64 e,[]))
 (gc:nth? (u.code.map Ah) ((t:Int)).toNat=some (Ah code)) (gp:nth? (c.pc.map A0) ((t:Int)).toNat=some [.int .i64 (p:Int)]) (gx:nth? (code.map Bx) ((p:Int)).toNat=some (Bx x))
 (b1:t < u.code.length) (b2:t < c.pc.length) (b3:p < code.length) (b4:t < n) (lp:PC.length=n) (ew:IntKind.i64.wrap ((p:Int)+1)=((p+1:Nat):Int))
 (hx:x.op=21) (he:e=0) :
 Bc call u c m r t (Bb u c C6 PC BF Br (.var 1000001 RO) RH [.vsl 3 0 n cp,.vsl 7 0 n cr,.sl 1 ms,.vsl 4 0 n cb])=some (.tup [.agg [.vsl 3 0 n cp,.vsl 7 0 n cr,.sl 1 ms,.vsl 4 0 n cb],.bool true],Bb u c [.vsl 3 0 n cp,.vsl 7 0 n cr,.sl 1 ms,.vsl 4 0 n cb] (Bn (Bn PC (0+((t:Int)).toNat) [.int .i64 ((p+1:Nat):Int)]) (0+((t:Int)).toNat) [.int .i64 x.goal]) BF Br (.var 1000001 RO) RH [.vsl 3 0 n cp,.vsl 7 0 n cr,.sl 1 ms,.vsl 4 0 n cb]++[Dr x]):=by
 have hc1:Program.cellsOf Tryz.prog 3=1:=by kernel_rfl
 have hc2:Program.cellsOf Tryz.prog 31=1:=by kernel_rfl
 have hc3:Program.cellsOf Tryz.prog 152=1:=by kernel_rfl
 have lq:∀ L:List AV,decide (0+((t:Int)).toNat+1≤(Bn PC (0+((t:Int)).toNat) L).length)=true:=fun L=>decide_eq_true (by
  have:=M2 (l:=PC) (k:=0+((t:Int)).toNat) (by rw[lp,Int.toNat_natCast];omega) L
  rw[Int.toNat_natCast] at this ⊢
  omega)
 unfold Bc
 conv=>lhs;whnf
 repeat (first | (refine B0 (by(first | (with_reducible assumption) | omega | (simp only[A8,Bool.or_eq_true,Bool.not_eq_true',Bool.and_eq_false_imp,Bool.or_eq_false_iff,Ai,decide_eq_false_iff_not,beq_iff_eq,bne_iff_ne,beq_eq_false_iff_ne,bne_eq_false_iff_eq,ne_eq,A5,List.length_replicate,List.length_append,List.length_cons,List.length_nil,List.length_take,Int.toNat_natCast];omega) | (with_reducible rfl))) ?_;conv=>lhs;whnf) | (refine Cl (by(first | (with_reducible assumption) | omega | (simp only[A8,Bool.or_eq_true,Bool.not_eq_true',Bool.and_eq_false_imp,Bool.or_eq_false_iff,Ai,decide_eq_false_iff_not,beq_iff_eq,bne_iff_ne,beq_eq_false_iff_ne,bne_eq_false_iff_eq,ne_eq,A5,List.length_replicate,List.length_append,List.length_cons,List.length_nil,List.length_take,Int.toNat_natCast];omega) | (with_reducible rfl))) ?_;conv=>lhs;whnf) | (simp only[h1,h2,gc,gp,gx,ew,hc1,hc2,hc3,lq];conv=>lhs;whnf))
 rfl
theorem Ag7 (u:Ak) (c:Ac) (m r:Int) (t:Nat) (n cp cr cb cm ct rn mn:Nat) (PC BF ME RO RH:List AV) (ms:List (List AV)) (call:Bp) (code:List Ay) (x:Ay) (p:Nat) (e:Int)
 (h1:call false 80 [.agg [.int .i64 u.mod,.sl 1 (u.init.map A0),.sl 1 (u.regs.map A0),.sl 1 (u.code.map Ah)],.agg [.sl 1 (c.pc.map A0),.sl 1 (c.regs.map Ag),.sl 1 (c.mem.map A0),.sl 1 (c.buf.map An)],.int .i64 m,.int .i64 r,.int .i64 (t:Int)] []=some (.bool true,[]))
 (h2:call false 82 [.agg [.int .i64 u.mod,.sl 1 (u.init.map A0),.sl 1 (u.regs.map A0),.sl 1 (u.code.map Ah)],.agg [.sl 1 (c.pc.map A0),.sl 1 (c.regs.map Ag),.sl 1 (c.mem.map A0),.sl 1 (c.buf.map An)],.int .i64 (t:Int),.sl 3 (x.e.map C0)] []=some (.int .i64 e,[]))
 (gc:nth? (u.code.map Ah) ((t:Int)).toNat=some (Ah code)) (gp:nth? (c.pc.map A0) ((t:Int)).toNat=some [.int .i64 (p:Int)]) (gx:nth? (code.map Bx) ((p:Int)).toNat=some (Bx x))
 (b1:t < u.code.length) (b2:t < c.pc.length) (b3:p < code.length) (b4:t < n) (lp:PC.length=n) (ew:IntKind.i64.wrap ((p:Int)+1)=((p+1:Nat):Int))
 (hx:x.op=21) (he:¬ e=0) :
 Bc call u c m r t (Bb u c C6 PC BF Br (.var 1000001 RO) RH [.vsl 3 0 n cp,.vsl 7 0 n cr,.sl 1 ms,.vsl 4 0 n cb])=some (.tup [.agg [.vsl 3 0 n cp,.vsl 7 0 n cr,.sl 1 ms,.vsl 4 0 n cb],.bool true],Bb u c [.vsl 3 0 n cp,.vsl 7 0 n cr,.sl 1 ms,.vsl 4 0 n cb] (Bn PC (0+((t:Int)).toNat) [.int .i64 ((p+1:Nat):Int)]) BF Br (.var 1000001 RO) RH [.vsl 3 0 n cp,.vsl 7 0 n cr,.sl 1 ms,.vsl 4 0 n cb]++[Dr x]):=by
 have hc1:Program.cellsOf Tryz.prog 3=1:=by kernel_rfl
 have hc2:Program.cellsOf Tryz.prog 31=1:=by kernel_rfl
 have hc3:Program.cellsOf Tryz.prog 152=1:=by kernel_rfl
 unfold Bc
 conv=>lhs;whnf
 repeat (first | (refine B0 (by(first | (with_reducible assumption) | omega | (simp only[A8,Bool.or_eq_true,Bool.not_eq_true',Bool.and_eq_false_imp,Bool.or_eq_false_iff,Ai,decide_eq_false_iff_not,beq_iff_eq,bne_iff_ne,beq_eq_false_iff_ne,bne_eq_false_iff_eq,ne_eq,A5,List.length_replicate,List.length_append,List.length_cons,List.length_nil,List.length_take,Int.toNat_natCast];omega) | (with_reducible rfl))) ?_;conv=>lhs;whnf) | (refine Cl (by(first | (with_reducible assumption) | omega | (simp only[A8,Bool.or_eq_true,Bool.not_eq_true',Bool.and_eq_false_imp,Bool.or_eq_false_iff,Ai,decide_eq_false_iff_not,beq_iff_eq,bne_iff_ne,beq_eq_false_iff_ne,bne_eq_false_iff_eq,ne_eq,A5,List.length_replicate,List.length_append,List.length_cons,List.length_nil,List.length_take,Int.toNat_natCast];omega) | (with_reducible rfl))) ?_;conv=>lhs;whnf) | (simp only[h1,h2,gc,gp,gx,ew,hc1,hc2,hc3];conv=>lhs;whnf))
 rfl
theorem Abs (u:Ak) (c:Ac) (m r:Int) (t:Nat) (n cp cr cb cm ct rn mn:Nat) (PC BF ME RO RH:List AV) (ms:List (List AV)) (call:Bp) (code:List Ay) (x:Ay) (p:Nat) (e:Int)
 (h1:call false 80 [.agg [.int .i64 u.mod,.sl 1 (u.init.map A0),.sl 1 (u.regs.map A0),.sl 1 (u.code.map Ah)],.agg [.sl 1 (c.pc.map A0),.sl 1 (c.regs.map Ag),.sl 1 (c.mem.map A0),.sl 1 (c.buf.map An)],.int .i64 m,.int .i64 r,.int .i64 (t:Int)] []=some (.bool true,[]))
 (h2:call false 82 [.agg [.int .i64 u.mod,.sl 1 (u.init.map A0),.sl 1 (u.regs.map A0),.sl 1 (u.code.map Ah)],.agg [.sl 1 (c.pc.map A0),.sl 1 (c.regs.map Ag),.sl 1 (c.mem.map A0),.sl 1 (c.buf.map An)],.int .i64 (t:Int),.sl 3 (x.e.map C0)] []=some (.int .i64 e,[]))
 (gc:nth? (u.code.map Ah) ((t:Int)).toNat=some (Ah code)) (gp:nth? (c.pc.map A0) ((t:Int)).toNat=some [.int .i64 (p:Int)]) (gx:nth? (code.map Bx) ((p:Int)).toNat=some (Bx x))
 (b1:t < u.code.length) (b2:t < c.pc.length) (b3:p < code.length) (b4:t < n) (lp:PC.length=n) (ew:IntKind.i64.wrap ((p:Int)+1)=((p+1:Nat):Int))
 (hx:x.op=4) (hm:¬ m=1) (bt b2:List A2) (gb:nth? (c.buf.map An) ((t:Int)).toNat=some [.sl 2 (bt.map At)]) (b5:t < c.buf.length) (lb:BF.length=n) (h3:call false 84 [.sl 2 (bt.map At),.int .i64 m,.agg [.int .i64 x.loc,.int .i64 e]] []=some (.sl 2 (b2.map At),[])) :
 Bc call u c m r t (Bb u c C6 PC BF Br (.var 1000001 RO) RH [.vsl 3 0 n cp,.vsl 7 0 n cr,.sl 1 ms,.vsl 4 0 n cb])=some (.tup [.agg [.vsl 3 0 n cp,.vsl 7 0 n cr,.sl 1 ms,.vsl 4 0 n cb],.bool true],Bb u c [.vsl 3 0 n cp,.vsl 7 0 n cr,.sl 1 ms,.vsl 4 0 n cb] (Bn PC (0+((t:Int)).toNat) [.int .i64 ((p+1:Nat):Int)]) (Bn BF (0+((t:Int)).toNat) [.sl 2 (b2.map At)]) Br (.var 1000001 RO) RH [.vsl 3 0 n cp,.vsl 7 0 n cr,.sl 1 ms,.vsl 4 0 n cb]++[Dr x]):=by
 have hc1:Program.cellsOf Tryz.prog 3=1:=by kernel_rfl
 have hc2:Program.cellsOf Tryz.prog 31=1:=by kernel_rfl
 have hc3:Program.cellsOf Tryz.prog 152=1:=by kernel_rfl
 unfold Bc
 conv=>lhs;whnf
 repeat (first | (refine B0 (by(first | (with_reducible assumption) | omega | (simp only[A8,Bool.or_eq_true,Bool.not_eq_true',Bool.and_eq_false_imp,Bool.or_eq_false_iff,Ai,decide_eq_false_iff_not,beq_iff_eq,bne_iff_ne,beq_eq_false_iff_ne,bne_eq_false_iff_eq,ne_eq,A5,List.length_replicate,List.length_append,List.length_cons,List.length_nil,List.length_take,Int.toNat_natCast];omega) | (with_reducible rfl))) ?_;conv=>lhs;whnf) | (refine Cl (by(first | (with_reducible assumption) | omega | (simp only[A8,Bool.or_eq_true,Bool.not_eq_true',Bool.and_eq_false_imp,Bool.or_eq_false_iff,Ai,decide_eq_false_iff_not,beq_iff_eq,bne_iff_ne,beq_eq_false_iff_ne,bne_eq_false_iff_eq,ne_eq,A5,List.length_replicate,List.length_append,List.length_cons,List.length_nil,List.length_take,Int.toNat_natCast];omega) | (with_reducible rfl))) ?_;conv=>lhs;whnf) | (simp only[h1,h2,gc,gp,gx,ew,hc1,hc2,hc3,h3,gb];conv=>lhs;whnf))
 rfl
theorem Ag0 (u:Ak) (c:Ac) (m r:Int) (t:Nat) (n cp cr cb cm ct rn mn:Nat) (PC BF ME RO RH:List AV) (ms:List (List AV)) (call:Bp) (code:List Ay) (x:Ay) (p:Nat) (e:Int)
 (h1:call false 80 [.agg [.int .i64 u.mod,.sl 1 (u.init.map A0),.sl 1 (u.regs.map A0),.sl 1 (u.code.map Ah)],.agg [.sl 1 (c.pc.map A0),.sl 1 (c.regs.map Ag),.sl 1 (c.mem.map A0),.sl 1 (c.buf.map An)],.int .i64 m,.int .i64 r,.int .i64 (t:Int)] []=some (.bool true,[]))
 (h2:call false 82 [.agg [.int .i64 u.mod,.sl 1 (u.init.map A0),.sl 1 (u.regs.map A0),.sl 1 (u.code.map Ah)],.agg [.sl 1 (c.pc.map A0),.sl 1 (c.regs.map Ag),.sl 1 (c.mem.map A0),.sl 1 (c.buf.map An)],.int .i64 (t:Int),.sl 3 (x.e.map C0)] []=some (.int .i64 e,[]))
 (gc:nth? (u.code.map Ah) ((t:Int)).toNat=some (Ah code)) (gp:nth? (c.pc.map A0) ((t:Int)).toNat=some [.int .i64 (p:Int)]) (gx:nth? (code.map Bx) ((p:Int)).toNat=some (Bx x))
 (b1:t < u.code.length) (b2:t < c.pc.length) (b3:p < code.length) (b4:t < n) (lp:PC.length=n) (ew:IntKind.i64.wrap ((p:Int)+1)=((p+1:Nat):Int))
 (hx:x.op=2) (lr:RH.length=n) (gr:List.take 1 (List.drop (0+((t:Int)).toNat) RH)=[.vsl 6 0 rn ct]) (lro:RO.length=rn) (b5:0≤x.reg) (b6:x.reg < rn) :
 Bc call u c m r t (Bb u c C6 PC BF Br (.var 1000001 RO) RH [.vsl 3 0 n cp,.vsl 7 0 n cr,.sl 1 ms,.vsl 4 0 n cb])=some (.tup [.agg [.vsl 3 0 n cp,.vsl 7 0 n cr,.sl 1 ms,.vsl 4 0 n cb],.bool true],Bb u c [.vsl 3 0 n cp,.vsl 7 0 n cr,.sl 1 ms,.vsl 4 0 n cb] (Bn PC (0+((t:Int)).toNat) [.int .i64 ((p+1:Nat):Int)]) BF Br (.var 1000001 (Bn RO (0+x.reg.toNat) [.int .i64 e])) RH [.vsl 3 0 n cp,.vsl 7 0 n cr,.sl 1 ms,.vsl 4 0 n cb]++[Dr x]):=by
 have hc1:Program.cellsOf Tryz.prog 3=1:=by kernel_rfl
 have hc2:Program.cellsOf Tryz.prog 31=1:=by kernel_rfl
 have hc3:Program.cellsOf Tryz.prog 152=1:=by kernel_rfl
 unfold Bc
 conv=>lhs;whnf
 repeat (first | (refine B0 (by(first | (with_reducible assumption) | omega | (simp only[A8,Bool.or_eq_true,Bool.not_eq_true',Bool.and_eq_false_imp,Bool.or_eq_false_iff,Ai,decide_eq_false_iff_not,beq_iff_eq,bne_iff_ne,beq_eq_false_iff_ne,bne_eq_false_iff_eq,ne_eq,A5,List.length_replicate,List.length_append,List.length_cons,List.length_nil,List.length_take,Int.toNat_natCast];omega) | (with_reducible rfl))) ?_;conv=>lhs;whnf) | (refine Cl (by(first | (with_reducible assumption) | omega | (simp only[A8,Bool.or_eq_true,Bool.not_eq_true',Bool.and_eq_false_imp,Bool.or_eq_false_iff,Ai,decide_eq_false_iff_not,beq_iff_eq,bne_iff_ne,beq_eq_false_iff_ne,bne_eq_false_iff_eq,ne_eq,A5,List.length_replicate,List.length_append,List.length_cons,List.length_nil,List.length_take,Int.toNat_natCast];omega) | (with_reducible rfl))) ?_;conv=>lhs;whnf) | (simp only[h1,h2,gc,gp,gx,ew,hc1,hc2,hc3,gr];conv=>lhs;whnf))
 rfl
theorem Aas (u:Ak) (c:Ac) (m r:Int) (t:Nat) (n cp cr cb cm ct rn mn:Nat) (PC BF ME RO RH:List AV) (ms:List (List AV)) (call:Bp) (code:List Ay) (x:Ay) (p:Nat) (e:Int)
 (h1:call false 80 [.agg [.int .i64 u.mod,.sl 1 (u.init.map A0),.sl 1 (u.regs.map A0),.sl 1 (u.code.map Ah)],.agg [.sl 1 (c.pc.map A0),.sl 1 (c.regs.map Ag),.sl 1 (c.mem.map A0),.sl 1 (c.buf.map An)],.int .i64 m,.int .i64 r,.int .i64 (t:Int)] []=some (.bool true,[]))
 (h2:call false 82 [.agg [.int .i64 u.mod,.sl 1 (u.init.map A0),.sl 1 (u.regs.map A0),.sl 1 (u.code.map Ah)],.agg [.sl 1 (c.pc.map A0),.sl 1 (c.regs.map Ag),.sl 1 (c.mem.map A0),.sl 1 (c.buf.map An)],.int .i64 (t:Int),.sl 3 (x.e.map C0)] []=some (.int .i64 e,[]))
 (gc:nth? (u.code.map Ah) ((t:Int)).toNat=some (Ah code)) (gp:nth? (c.pc.map A0) ((t:Int)).toNat=some [.int .i64 (p:Int)]) (gx:nth? (code.map Bx) ((p:Int)).toNat=some (Bx x))
 (b1:t < u.code.length) (b2:t < c.pc.length) (b3:p < code.length) (b4:t < n) (lp:PC.length=n) (ew:IntKind.i64.wrap ((p:Int)+1)=((p+1:Nat):Int))
 (hx:x.op=3) (lr:RH.length=n) (gr:List.take 1 (List.drop (0+((t:Int)).toNat) RH)=[.vsl 6 0 rn ct]) (lro:RO.length=rn) (b5:0≤x.reg) (b6:x.reg < rn) (d:Int) (h3:call false 83 [.agg [.sl 1 (c.pc.map A0),.sl 1 (c.regs.map Ag),.sl 1 (c.mem.map A0),.sl 1 (c.buf.map An)],.int .i64 (t:Int),.int .i64 x.loc] []=some (.int .i64 d,[])) :
 Bc call u c m r t (Bb u c C6 PC BF Br (.var 1000001 RO) RH [.vsl 3 0 n cp,.vsl 7 0 n cr,.sl 1 ms,.vsl 4 0 n cb])=some (.tup [.agg [.vsl 3 0 n cp,.vsl 7 0 n cr,.sl 1 ms,.vsl 4 0 n cb],.bool true],Bb u c [.vsl 3 0 n cp,.vsl 7 0 n cr,.sl 1 ms,.vsl 4 0 n cb] (Bn PC (0+((t:Int)).toNat) [.int .i64 ((p+1:Nat):Int)]) BF Br (.var 1000001 (Bn RO (0+x.reg.toNat) [.int .i64 d])) RH [.vsl 3 0 n cp,.vsl 7 0 n cr,.sl 1 ms,.vsl 4 0 n cb]++[Dr x]):=by
 have hc1:Program.cellsOf Tryz.prog 3=1:=by kernel_rfl
 have hc2:Program.cellsOf Tryz.prog 31=1:=by kernel_rfl
 have hc3:Program.cellsOf Tryz.prog 152=1:=by kernel_rfl
 unfold Bc
 conv=>lhs;whnf
 repeat (first | (refine B0 (by(first | (with_reducible assumption) | omega | (simp only[A8,Bool.or_eq_true,Bool.not_eq_true',Bool.and_eq_false_imp,Bool.or_eq_false_iff,Ai,decide_eq_false_iff_not,beq_iff_eq,bne_iff_ne,beq_eq_false_iff_ne,bne_eq_false_iff_eq,ne_eq,A5,List.length_replicate,List.length_append,List.length_cons,List.length_nil,List.length_take,Int.toNat_natCast];omega) | (with_reducible rfl))) ?_;conv=>lhs;whnf) | (refine Cl (by(first | (with_reducible assumption) | omega | (simp only[A8,Bool.or_eq_true,Bool.not_eq_true',Bool.and_eq_false_imp,Bool.or_eq_false_iff,Ai,decide_eq_false_iff_not,beq_iff_eq,bne_iff_ne,beq_eq_false_iff_ne,bne_eq_false_iff_eq,ne_eq,A5,List.length_replicate,List.length_append,List.length_cons,List.length_nil,List.length_take,Int.toNat_natCast];omega) | (with_reducible rfl))) ?_;conv=>lhs;whnf) | (simp only[h1,h2,gc,gp,gx,ew,hc1,hc2,hc3,gr,h3];conv=>lhs;whnf))
 rfl
theorem Af5 (u:Ak) (c:Ac) (m r:Int) (t:Nat) (n cp cr cb cm ct rn mn:Nat) (PC BF ME RO RH:List AV) (ms:List (List AV)) (call:Bp)
 (h1:call false 80 [.agg [.int .i64 u.mod,.sl 1 (u.init.map A0),.sl 1 (u.regs.map A0),.sl 1 (u.code.map Ah)],.agg [.sl 1 (c.pc.map A0),.sl 1 (c.regs.map Ag),.sl 1 (c.mem.map A0),.sl 1 (c.buf.map An)],.int .i64 m,.int .i64 r,.int .i64 (t:Int)] []=some (.bool false,[]))
  :
 Bc call u c m r t (Bb u c C6 PC BF Br Br RH [.vsl 3 0 n cp,.vsl 7 0 n cr,.sl 1 ms,.vsl 4 0 n cb])=some (.tup [.agg [.vsl 3 0 n cp,.vsl 7 0 n cr,.sl 1 ms,.vsl 4 0 n cb],.bool false],Bb u c [.vsl 3 0 n cp,.vsl 7 0 n cr,.sl 1 ms,.vsl 4 0 n cb] PC BF Br Br RH [.vsl 3 0 n cp,.vsl 7 0 n cr,.sl 1 ms,.vsl 4 0 n cb]):=by
 have hc1:Program.cellsOf Tryz.prog 3=1:=by kernel_rfl
 have hc2:Program.cellsOf Tryz.prog 31=1:=by kernel_rfl
 have hc3:Program.cellsOf Tryz.prog 152=1:=by kernel_rfl
 unfold Bc
 conv=>lhs;whnf
 repeat (first | (refine B0 (by(first | (with_reducible assumption) | omega | (simp only[A8,Bool.or_eq_true,Bool.not_eq_true',Bool.and_eq_false_imp,Bool.or_eq_false_iff,Ai,decide_eq_false_iff_not,beq_iff_eq,bne_iff_ne,beq_eq_false_iff_ne,bne_eq_false_iff_eq,ne_eq,A5,List.length_replicate,List.length_append,List.length_cons,List.length_nil,List.length_take,Int.toNat_natCast];omega) | (with_reducible rfl))) ?_;conv=>lhs;whnf) | (refine Cl (by(first | (with_reducible assumption) | omega | (simp only[A8,Bool.or_eq_true,Bool.not_eq_true',Bool.and_eq_false_imp,Bool.or_eq_false_iff,Ai,decide_eq_false_iff_not,beq_iff_eq,bne_iff_ne,beq_eq_false_iff_ne,bne_eq_false_iff_eq,ne_eq,A5,List.length_replicate,List.length_append,List.length_cons,List.length_nil,List.length_take,Int.toNat_natCast];omega) | (with_reducible rfl))) ?_;conv=>lhs;whnf) | (simp only[h1,hc1,hc2,hc3];conv=>lhs;whnf))
 rfl
theorem Ab2 (u:Ak) (c:Ac) (m r:Int) (t:Nat) (n cp cr cb cm ct rn mn:Nat) (PC BF ME RO RH:List AV) (ms:List (List AV)) (call:Bp) (code:List Ay) (x:Ay) (p:Nat) (e:Int)
 (h1:call false 80 [.agg [.int .i64 u.mod,.sl 1 (u.init.map A0),.sl 1 (u.regs.map A0),.sl 1 (u.code.map Ah)],.agg [.sl 1 (c.pc.map A0),.sl 1 (c.regs.map Ag),.sl 1 (c.mem.map A0),.sl 1 (c.buf.map An)],.int .i64 m,.int .i64 r,.int .i64 (t:Int)] []=some (.bool true,[]))
 (h2:call false 82 [.agg [.int .i64 u.mod,.sl 1 (u.init.map A0),.sl 1 (u.regs.map A0),.sl 1 (u.code.map Ah)],.agg [.sl 1 (c.pc.map A0),.sl 1 (c.regs.map Ag),.sl 1 (c.mem.map A0),.sl 1 (c.buf.map An)],.int .i64 (t:Int),.sl 3 (x.e.map C0)] []=some (.int .i64 e,[]))
 (gc:nth? (u.code.map Ah) ((t:Int)).toNat=some (Ah code)) (gp:nth? (c.pc.map A0) ((t:Int)).toNat=some [.int .i64 (p:Int)]) (gx:nth? (code.map Bx) ((p:Int)).toNat=some (Bx x))
 (b1:t < u.code.length) (b2:t < c.pc.length) (b3:p < code.length) (b4:t < n) (lp:PC.length=n) (ew:IntKind.i64.wrap ((p:Int)+1)=((p+1:Nat):Int))
 (n20:¬ x.op=20) (n21:¬ x.op=21) (n2:¬ x.op=2) (n3:¬ x.op=3) (n4:¬ x.op=4) (n5:¬ x.op=5) (n6:¬ x.op=6) (n7:¬ x.op=7) :
 Bc call u c m r t (Bb u c C6 PC BF Br Br RH [.vsl 3 0 n cp,.vsl 7 0 n cr,.sl 1 ms,.vsl 4 0 n cb])=some (.tup [.agg [.vsl 3 0 n cp,.vsl 7 0 n cr,.sl 1 ms,.vsl 4 0 n cb],.bool true],Bb u c [.vsl 3 0 n cp,.vsl 7 0 n cr,.sl 1 ms,.vsl 4 0 n cb] (Bn PC (0+((t:Int)).toNat) [.int .i64 ((p+1:Nat):Int)]) BF Br Br RH [.vsl 3 0 n cp,.vsl 7 0 n cr,.sl 1 ms,.vsl 4 0 n cb]++[Dr x]):=by
 have hc1:Program.cellsOf Tryz.prog 3=1:=by kernel_rfl
 have hc2:Program.cellsOf Tryz.prog 31=1:=by kernel_rfl
 have hc3:Program.cellsOf Tryz.prog 152=1:=by kernel_rfl
 unfold Bc
 conv=>lhs;whnf
 repeat (first | (refine B0 (by(first | (with_reducible assumption) | omega | (simp only[A8,Bool.or_eq_true,Bool.not_eq_true',Bool.and_eq_false_imp,Bool.or_eq_false_iff,Ai,decide_eq_false_iff_not,beq_iff_eq,bne_iff_ne,beq_eq_false_iff_ne,bne_eq_false_iff_eq,ne_eq,A5,List.length_replicate,List.length_append,List.length_cons,List.length_nil,List.length_take,Int.toNat_natCast];omega) | (with_reducible rfl))) ?_;conv=>lhs;whnf) | (refine Cl (by(first | (with_reducible assumption) | omega | (simp only[A8,Bool.or_eq_true,Bool.not_eq_true',Bool.and_eq_false_imp,Bool.or_eq_false_iff,Ai,decide_eq_false_iff_not,beq_iff_eq,bne_iff_ne,beq_eq_false_iff_ne,bne_eq_false_iff_eq,ne_eq,A5,List.length_replicate,List.length_append,List.length_cons,List.length_nil,List.length_take,Int.toNat_natCast];omega) | (with_reducible rfl))) ?_;conv=>lhs;whnf) | (simp only[h1,h2,gc,gp,gx,ew,hc1,hc2,hc3];conv=>lhs;whnf))
 rfl
theorem Aar (u:Ak) (c:Ac) (m r:Int) (t:Nat) (n cp cr cb cm ct rn mn:Nat) (PC BF ME RO RH:List AV) (ms:List (List AV)) (call:Bp) (code:List Ay) (x:Ay) (p:Nat) (e:Int)
 (h1:call false 80 [.agg [.int .i64 u.mod,.sl 1 (u.init.map A0),.sl 1 (u.regs.map A0),.sl 1 (u.code.map Ah)],.agg [.sl 1 (c.pc.map A0),.sl 1 (c.regs.map Ag),.sl 1 (c.mem.map A0),.sl 1 (c.buf.map An)],.int .i64 m,.int .i64 r,.int .i64 (t:Int)] []=some (.bool true,[]))
 (h2:call false 82 [.agg [.int .i64 u.mod,.sl 1 (u.init.map A0),.sl 1 (u.regs.map A0),.sl 1 (u.code.map Ah)],.agg [.sl 1 (c.pc.map A0),.sl 1 (c.regs.map Ag),.sl 1 (c.mem.map A0),.sl 1 (c.buf.map An)],.int .i64 (t:Int),.sl 3 (x.e.map C0)] []=some (.int .i64 e,[]))
 (gc:nth? (u.code.map Ah) ((t:Int)).toNat=some (Ah code)) (gp:nth? (c.pc.map A0) ((t:Int)).toNat=some [.int .i64 (p:Int)]) (gx:nth? (code.map Bx) ((p:Int)).toNat=some (Bx x))
 (b1:t < u.code.length) (b2:t < c.pc.length) (b3:p < code.length) (b4:t < n) (lp:PC.length=n) (ew:IntKind.i64.wrap ((p:Int)+1)=((p+1:Nat):Int))
 (hx:x.op=20) :
 Bc call u c m r t (Bb u c C6 PC BF Br Br RH [.vsl 3 0 n cp,.vsl 7 0 n cr,.sl 1 ms,.vsl 4 0 n cb])=some (.tup [.agg [.vsl 3 0 n cp,.vsl 7 0 n cr,.sl 1 ms,.vsl 4 0 n cb],.bool true],Bb u c [.vsl 3 0 n cp,.vsl 7 0 n cr,.sl 1 ms,.vsl 4 0 n cb] (Bn (Bn PC (0+((t:Int)).toNat) [.int .i64 ((p+1:Nat):Int)]) (0+((t:Int)).toNat) [.int .i64 x.goal]) BF Br Br RH [.vsl 3 0 n cp,.vsl 7 0 n cr,.sl 1 ms,.vsl 4 0 n cb]++[Dr x]):=by
 have hc1:Program.cellsOf Tryz.prog 3=1:=by kernel_rfl
 have hc2:Program.cellsOf Tryz.prog 31=1:=by kernel_rfl
 have hc3:Program.cellsOf Tryz.prog 152=1:=by kernel_rfl
 have lq:∀ L:List AV,decide (0+((t:Int)).toNat+1≤(Bn PC (0+((t:Int)).toNat) L).length)=true:=fun L=>decide_eq_true (by
  have:=M2 (l:=PC) (k:=0+((t:Int)).toNat) (by rw[lp,Int.toNat_natCast];omega) L
  rw[Int.toNat_natCast] at this ⊢
  omega)
 unfold Bc
 conv=>lhs;whnf
 repeat (first | (refine B0 (by(first | (with_reducible assumption) | omega | (simp only[A8,Bool.or_eq_true,Bool.not_eq_true',Bool.and_eq_false_imp,Bool.or_eq_false_iff,Ai,decide_eq_false_iff_not,beq_iff_eq,bne_iff_ne,beq_eq_false_iff_ne,bne_eq_false_iff_eq,ne_eq,A5,List.length_replicate,List.length_append,List.length_cons,List.length_nil,List.length_take,Int.toNat_natCast];omega) | (with_reducible rfl))) ?_;conv=>lhs;whnf) | (refine Cl (by(first | (with_reducible assumption) | omega | (simp only[A8,Bool.or_eq_true,Bool.not_eq_true',Bool.and_eq_false_imp,Bool.or_eq_false_iff,Ai,decide_eq_false_iff_not,beq_iff_eq,bne_iff_ne,beq_eq_false_iff_ne,bne_eq_false_iff_eq,ne_eq,A5,List.length_replicate,List.length_append,List.length_cons,List.length_nil,List.length_take,Int.toNat_natCast];omega) | (with_reducible rfl))) ?_;conv=>lhs;whnf) | (simp only[h1,h2,gc,gp,gx,ew,hc1,hc2,hc3,lq];conv=>lhs;whnf))
 rfl
theorem Ajq (u:Ak) (c:Ac) (m r:Int) (t:Nat) (n cp cr cb cm ct rn mn:Nat) (PC BF ME RO RH:List AV) (ms:List (List AV)) (call:Bp) (code:List Ay) (x:Ay) (p:Nat) (e:Int)
 (h1:call false 80 [.agg [.int .i64 u.mod,.sl 1 (u.init.map A0),.sl 1 (u.regs.map A0),.sl 1 (u.code.map Ah)],.agg [.sl 1 (c.pc.map A0),.sl 1 (c.regs.map Ag),.sl 1 (c.mem.map A0),.sl 1 (c.buf.map An)],.int .i64 m,.int .i64 r,.int .i64 (t:Int)] []=some (.bool true,[]))
 (h2:call false 82 [.agg [.int .i64 u.mod,.sl 1 (u.init.map A0),.sl 1 (u.regs.map A0),.sl 1 (u.code.map Ah)],.agg [.sl 1 (c.pc.map A0),.sl 1 (c.regs.map Ag),.sl 1 (c.mem.map A0),.sl 1 (c.buf.map An)],.int .i64 (t:Int),.sl 3 (x.e.map C0)] []=some (.int .i64 e,[]))
 (gc:nth? (u.code.map Ah) ((t:Int)).toNat=some (Ah code)) (gp:nth? (c.pc.map A0) ((t:Int)).toNat=some [.int .i64 (p:Int)]) (gx:nth? (code.map Bx) ((p:Int)).toNat=some (Bx x))
 (b1:t < u.code.length) (b2:t < c.pc.length) (b3:p < code.length) (b4:t < n) (lp:PC.length=n) (ew:IntKind.i64.wrap ((p:Int)+1)=((p+1:Nat):Int))
 (hx:x.op=21) (he:e=0) :
 Bc call u c m r t (Bb u c C6 PC BF Br Br RH [.vsl 3 0 n cp,.vsl 7 0 n cr,.sl 1 ms,.vsl 4 0 n cb])=some (.tup [.agg [.vsl 3 0 n cp,.vsl 7 0 n cr,.sl 1 ms,.vsl 4 0 n cb],.bool true],Bb u c [.vsl 3 0 n cp,.vsl 7 0 n cr,.sl 1 ms,.vsl 4 0 n cb] (Bn (Bn PC (0+((t:Int)).toNat) [.int .i64 ((p+1:Nat):Int)]) (0+((t:Int)).toNat) [.int .i64 x.goal]) BF Br Br RH [.vsl 3 0 n cp,.vsl 7 0 n cr,.sl 1 ms,.vsl 4 0 n cb]++[Dr x]):=by
 have hc1:Program.cellsOf Tryz.prog 3=1:=by kernel_rfl
 have hc2:Program.cellsOf Tryz.prog 31=1:=by kernel_rfl
 have hc3:Program.cellsOf Tryz.prog 152=1:=by kernel_rfl
 have lq:∀ L:List AV,decide (0+((t:Int)).toNat+1≤(Bn PC (0+((t:Int)).toNat) L).length)=true:=fun L=>decide_eq_true (by
  have:=M2 (l:=PC) (k:=0+((t:Int)).toNat) (by rw[lp,Int.toNat_natCast];omega) L
  rw[Int.toNat_natCast] at this ⊢
  omega)
 unfold Bc
 conv=>lhs;whnf
 repeat (first | (refine B0 (by(first | (with_reducible assumption) | omega | (simp only[A8,Bool.or_eq_true,Bool.not_eq_true',Bool.and_eq_false_imp,Bool.or_eq_false_iff,Ai,decide_eq_false_iff_not,beq_iff_eq,bne_iff_ne,beq_eq_false_iff_ne,bne_eq_false_iff_eq,ne_eq,A5,List.length_replicate,List.length_append,List.length_cons,List.length_nil,List.length_take,Int.toNat_natCast];omega) | (with_reducible rfl))) ?_;conv=>lhs;whnf) | (refine Cl (by(first | (with_reducible assumption) | omega | (simp only[A8,Bool.or_eq_true,Bool.not_eq_true',Bool.and_eq_false_imp,Bool.or_eq_false_iff,Ai,decide_eq_false_iff_not,beq_iff_eq,bne_iff_ne,beq_eq_false_iff_ne,bne_eq_false_iff_eq,ne_eq,A5,List.length_replicate,List.length_append,List.length_cons,List.length_nil,List.length_take,Int.toNat_natCast];omega) | (with_reducible rfl))) ?_;conv=>lhs;whnf) | (simp only[h1,h2,gc,gp,gx,ew,hc1,hc2,hc3,lq];conv=>lhs;whnf))
 rfl
theorem Acw (u:Ak) (c:Ac) (m r:Int) (t:Nat) (n cp cr cb cm ct rn mn:Nat) (PC BF ME RO RH:List AV) (ms:List (List AV)) (call:Bp) (code:List Ay) (x:Ay) (p:Nat) (e:Int)
 (h1:call false 80 [.agg [.int .i64 u.mod,.sl 1 (u.init.map A0),.sl 1 (u.regs.map A0),.sl 1 (u.code.map Ah)],.agg [.sl 1 (c.pc.map A0),.sl 1 (c.regs.map Ag),.sl 1 (c.mem.map A0),.sl 1 (c.buf.map An)],.int .i64 m,.int .i64 r,.int .i64 (t:Int)] []=some (.bool true,[]))
 (h2:call false 82 [.agg [.int .i64 u.mod,.sl 1 (u.init.map A0),.sl 1 (u.regs.map A0),.sl 1 (u.code.map Ah)],.agg [.sl 1 (c.pc.map A0),.sl 1 (c.regs.map Ag),.sl 1 (c.mem.map A0),.sl 1 (c.buf.map An)],.int .i64 (t:Int),.sl 3 (x.e.map C0)] []=some (.int .i64 e,[]))
 (gc:nth? (u.code.map Ah) ((t:Int)).toNat=some (Ah code)) (gp:nth? (c.pc.map A0) ((t:Int)).toNat=some [.int .i64 (p:Int)]) (gx:nth? (code.map Bx) ((p:Int)).toNat=some (Bx x))
 (b1:t < u.code.length) (b2:t < c.pc.length) (b3:p < code.length) (b4:t < n) (lp:PC.length=n) (ew:IntKind.i64.wrap ((p:Int)+1)=((p+1:Nat):Int))
 (hx:x.op=21) (he:¬ e=0) :
 Bc call u c m r t (Bb u c C6 PC BF Br Br RH [.vsl 3 0 n cp,.vsl 7 0 n cr,.sl 1 ms,.vsl 4 0 n cb])=some (.tup [.agg [.vsl 3 0 n cp,.vsl 7 0 n cr,.sl 1 ms,.vsl 4 0 n cb],.bool true],Bb u c [.vsl 3 0 n cp,.vsl 7 0 n cr,.sl 1 ms,.vsl 4 0 n cb] (Bn PC (0+((t:Int)).toNat) [.int .i64 ((p+1:Nat):Int)]) BF Br Br RH [.vsl 3 0 n cp,.vsl 7 0 n cr,.sl 1 ms,.vsl 4 0 n cb]++[Dr x]):=by
 have hc1:Program.cellsOf Tryz.prog 3=1:=by kernel_rfl
 have hc2:Program.cellsOf Tryz.prog 31=1:=by kernel_rfl
 have hc3:Program.cellsOf Tryz.prog 152=1:=by kernel_rfl
 unfold Bc
 conv=>lhs;whnf
 repeat (first | (refine B0 (by(first | (with_reducible assumption) | omega | (simp only[A8,Bool.or_eq_true,Bool.not_eq_true',Bool.and_eq_false_imp,Bool.or_eq_false_iff,Ai,decide_eq_false_iff_not,beq_iff_eq,bne_iff_ne,beq_eq_false_iff_ne,bne_eq_false_iff_eq,ne_eq,A5,List.length_replicate,List.length_append,List.length_cons,List.length_nil,List.length_take,Int.toNat_natCast];omega) | (with_reducible rfl))) ?_;conv=>lhs;whnf) | (refine Cl (by(first | (with_reducible assumption) | omega | (simp only[A8,Bool.or_eq_true,Bool.not_eq_true',Bool.and_eq_false_imp,Bool.or_eq_false_iff,Ai,decide_eq_false_iff_not,beq_iff_eq,bne_iff_ne,beq_eq_false_iff_ne,bne_eq_false_iff_eq,ne_eq,A5,List.length_replicate,List.length_append,List.length_cons,List.length_nil,List.length_take,Int.toNat_natCast];omega) | (with_reducible rfl))) ?_;conv=>lhs;whnf) | (simp only[h1,h2,gc,gp,gx,ew,hc1,hc2,hc3];conv=>lhs;whnf))
 rfl
theorem Aaw (u:Ak) (c:Ac) (m r:Int) (t:Nat) (n cp cr cb cm ct rn mn:Nat) (PC BF ME RO RH:List AV) (ms:List (List AV)) (call:Bp) (code:List Ay) (x:Ay) (p:Nat) (e:Int)
 (h1:call false 80 [.agg [.int .i64 u.mod,.sl 1 (u.init.map A0),.sl 1 (u.regs.map A0),.sl 1 (u.code.map Ah)],.agg [.sl 1 (c.pc.map A0),.sl 1 (c.regs.map Ag),.sl 1 (c.mem.map A0),.sl 1 (c.buf.map An)],.int .i64 m,.int .i64 r,.int .i64 (t:Int)] []=some (.bool true,[]))
 (h2:call false 82 [.agg [.int .i64 u.mod,.sl 1 (u.init.map A0),.sl 1 (u.regs.map A0),.sl 1 (u.code.map Ah)],.agg [.sl 1 (c.pc.map A0),.sl 1 (c.regs.map Ag),.sl 1 (c.mem.map A0),.sl 1 (c.buf.map An)],.int .i64 (t:Int),.sl 3 (x.e.map C0)] []=some (.int .i64 e,[]))
 (gc:nth? (u.code.map Ah) ((t:Int)).toNat=some (Ah code)) (gp:nth? (c.pc.map A0) ((t:Int)).toNat=some [.int .i64 (p:Int)]) (gx:nth? (code.map Bx) ((p:Int)).toNat=some (Bx x))
 (b1:t < u.code.length) (b2:t < c.pc.length) (b3:p < code.length) (b4:t < n) (lp:PC.length=n) (ew:IntKind.i64.wrap ((p:Int)+1)=((p+1:Nat):Int))
 (hx:x.op=4) (hm:¬ m=1) (bt b2:List A2) (gb:nth? (c.buf.map An) ((t:Int)).toNat=some [.sl 2 (bt.map At)]) (b5:t < c.buf.length) (lb:BF.length=n) (h3:call false 84 [.sl 2 (bt.map At),.int .i64 m,.agg [.int .i64 x.loc,.int .i64 e]] []=some (.sl 2 (b2.map At),[])) :
 Bc call u c m r t (Bb u c C6 PC BF Br Br RH [.vsl 3 0 n cp,.vsl 7 0 n cr,.sl 1 ms,.vsl 4 0 n cb])=some (.tup [.agg [.vsl 3 0 n cp,.vsl 7 0 n cr,.sl 1 ms,.vsl 4 0 n cb],.bool true],Bb u c [.vsl 3 0 n cp,.vsl 7 0 n cr,.sl 1 ms,.vsl 4 0 n cb] (Bn PC (0+((t:Int)).toNat) [.int .i64 ((p+1:Nat):Int)]) (Bn BF (0+((t:Int)).toNat) [.sl 2 (b2.map At)]) Br Br RH [.vsl 3 0 n cp,.vsl 7 0 n cr,.sl 1 ms,.vsl 4 0 n cb]++[Dr x]):=by
 have hc1:Program.cellsOf Tryz.prog 3=1:=by kernel_rfl
 have hc2:Program.cellsOf Tryz.prog 31=1:=by kernel_rfl
 have hc3:Program.cellsOf Tryz.prog 152=1:=by kernel_rfl
 unfold Bc
 conv=>lhs;whnf
 repeat (first | (refine B0 (by(first | (with_reducible assumption) | omega | (simp only[A8,Bool.or_eq_true,Bool.not_eq_true',Bool.and_eq_false_imp,Bool.or_eq_false_iff,Ai,decide_eq_false_iff_not,beq_iff_eq,bne_iff_ne,beq_eq_false_iff_ne,bne_eq_false_iff_eq,ne_eq,A5,List.length_replicate,List.length_append,List.length_cons,List.length_nil,List.length_take,Int.toNat_natCast];omega) | (with_reducible rfl))) ?_;conv=>lhs;whnf) | (refine Cl (by(first | (with_reducible assumption) | omega | (simp only[A8,Bool.or_eq_true,Bool.not_eq_true',Bool.and_eq_false_imp,Bool.or_eq_false_iff,Ai,decide_eq_false_iff_not,beq_iff_eq,bne_iff_ne,beq_eq_false_iff_ne,bne_eq_false_iff_eq,ne_eq,A5,List.length_replicate,List.length_append,List.length_cons,List.length_nil,List.length_take,Int.toNat_natCast];omega) | (with_reducible rfl))) ?_;conv=>lhs;whnf) | (simp only[h1,h2,gc,gp,gx,ew,hc1,hc2,hc3,h3,gb];conv=>lhs;whnf))
 rfl
abbrev iL (l:List Int):List AV:=l.map (AV.int .i64)
def InL (φ:List Pl) (l:List Nat):Prop:=∀ i b,Af φ i=some b→b ∈ l
theorem Zw {φ:List Pl} {p:Pl} {i b:Nat} (h:Af (φ++[p]) i=some b):Af φ i=some b∨Af [p] 0=some b:=by
 unfold Af at h ⊢
 rcases Nat.lt_or_ge i φ.length with hi | hi
 ·rw[List.getElem?_append_left hi] at h;exact .inl h
 ·rw[List.getElem?_append_right hi] at h
  cases hk:i - φ.length with
  | zero=>rw[hk] at h;exact .inr h
  | succ k=>rw[hk] at h;simp at h
structure Ctx (S:Nat→Nat→Prop) (w2:World) (base:Nat) (hp:Hp) (φ:List Pl) (l:List Nat):Prop where
 sim:Sim Tryz.prog base S w2 hp φ
 inl:InL φ l
theorem Ctx.add {S:Nat→Nat→Prop} {w2:World} {base:Nat} {hp:Hp} {φ:List Pl} {l:List Nat} (h:Ctx S w2 base hp φ l) {b:Nat} {vs ex:List Value} {E:TypeId} (t:TypeId) {cs:List AV} (hb:base≤b) (hh:w2.heap[b]?=some (.cells (vs++ex).toArray E (0,0))) (hr:Reps S w2 hp φ cs vs) (h1:E5 vs) (hS:∀ o,¬ S b o) (hn:b ∉ l):Ctx S w2 base (hp++[.var t cs]) (φ++[.blk b]) (l++[b]) :=
 ⟨h.sim.add_var t hb hh hr h1 hS fun i hi=>hn (h.inl i b hi),fun i b' hi=>by
  rcases Zw hi with h' | h'
  ·exact List.mem_append_left _ (h.inl i b' h')
  ·have:b=b':=by simpa [Af] using h'
   subst this
   simp⟩
theorem Ctx.dum {S:Nat→Nat→Prop} {w2:World} {base:Nat} {hp:Hp} {φ:List Pl} {l:List Nat} (h:Ctx S w2 base hp φ l):Ctx S w2 base (hp++[Br]) (φ++[.sv (.slice none 0 0)]) l :=
 ⟨by
  have hz:0 < Program.cellsOf Tryz.prog 3:=by decide +kernel
  have:=(h.sim.nil_row 3 hz).1
  have e:Program.cellsOf Tryz.prog 3=1:=by kernel_rfl
  rw[e] at this
  exact this,fun i b' hi=>by
  rcases Zw hi with h' | h'
  ·exact h.inl i b' h'
  ·simp[Af,Value.ownBlock] at h'⟩
theorem Yv {S:Nat→Nat→Prop} {w:World} {B:Nat} {e:TypeId} {size:Nat} {x:Value} {n:Nat} (ho:w.ownsRow B e size x n []) (hs:0 < size):Rep S w [] [] (.sl size []) x:=by
 have hn:n=0:=by
  have h1:([]:List Value).length=n*size:=ho.1
  rw[List.length_nil] at h1
  rcases Nat.mul_eq_zero.1 h1.symm with h | h
  ·exact h
  ·omega
 rcases ho.2 with ⟨rfl,_⟩ | ⟨g,cap,cur,rfl,hg,hh,hc,hm,_⟩
 ·exact Rep.sl [] [] size [] [] none 0 .nil ⟨by simp,fun j vs t x h2 h3=>by simp at h2⟩ ⟨Nat.le_refl _,by decide,fun _=>rfl⟩
 ·rw[hn];exact Rep.sl [] [] size [] [] _ cap .nil ⟨by simp,fun j vs t x h2 h3=>by simp at h2⟩ ⟨Nat.zero_le _,hm,fun h=>by cases h⟩
theorem Je {w:World} {g:Nat} {cs cs':Array Value} {E E':TypeId} (h:w.heap[g]?=some (.cells cs E (0,0))) (h':w.heap[g]?=some (.cells cs' E' (0,0))):E=E':=by
 rw[h] at h'
 injection h' with h'
 injection h'
theorem Reps.getk {S:Nat→Nat→Prop} {w:World} {hp:Hp} {φ:List Pl} {l:List AV} {vs:List Value} (hl:l.length=vs.length) (h:∀ (i:Nat) a v,l[i]?=some a→vs[i]?=some v→Rep S w hp φ a v):Reps S w hp φ l vs:=by
 induction l generalizing vs with
 | nil =>
  cases vs with
  | nil=>exact .nil _ _
  | cons v vs=>simp at hl
 | cons a l ih =>
  cases vs with
  | nil=>simp at hl
  | cons v vs=>exact .cons _ _ _ _ _ _ (h 0 a v rfl rfl) (ih (by simpa using hl) fun i a v h1 h2=>h (i+1) a v (by simpa using h1) (by simpa using h2))
set_option maxHeartbeats 4000000 in
theorem Ar5 {S:Nat→Nat→Prop} {w w2:World} {B bD:Nat} {u:Ak} {c:Ac} {vsU vsC:List Value} {n t gp gr gb cp cr cb:Nat} {vm:Value} {xr xb:List Value}
 (hS:∀ b o,S b o→∃ u,stay w b o=some u) (hb:Below w.heap.size w w2) (hB:w.heap.size+3≤B)
 (fU:w2.heap[w.heap.size]?=some (.cells vsU.toArray 61 (0,0))) (fC:w2.heap[w.heap.size+1]?=some (.cells vsC.toArray 90 (0,0)))
 (fR:w2.heap[w.heap.size+2]?=some (.cells #[.slice none 0 0,.slice none 0 0,.slice none 0 0,.slice none 0 0] 90 (0,0)))
 (fD:w2.heap[bD]?=some (.cells #[.slice (some ⟨gp,0,none⟩) n cp,.slice (some ⟨gr,0,none⟩) n cr,vm,.slice (some ⟨gb,0,none⟩) n cb] 90 (0,0)))
 (hU:Reps S w [] [] (T2 u) vsU) (oU:E5 vsU) (hC:Reps S w [] [] (Cj c) vsC) (oC:E5 vsC)
 (hO:A5h B w2 c (.slice (some ⟨gp,0,none⟩) n cp) (.slice (some ⟨gr,0,none⟩) n cr) vm (.slice (some ⟨gb,0,none⟩) n cb) xr xb) (hD:B≤bD) (wf:WfC c)
 (lp:c.pc.length=n) (lr:c.regs.length=n) (lb:c.buf.length=n) (ht:t < n) {row:List Int} (hrow:c.regs[t]?=some row) :
 ∃ (L:List Nat) (o5 o6:Ob) (MV:AV) (RH:List AV) (φ:List Pl),Sim Tryz.prog w.heap.size (SX S w2 w.heap.size L) w2 (Bb u c C6 (iL c.pc) (c.buf.map aEs) o5 o6 RH [.vsl 3 0 n cp,.vsl 7 0 n cr,MV,.vsl 4 0 n cb]) φ
   ∧(φ[0]?=some (.blk w.heap.size)∧φ[1]?=some (.blk (w.heap.size+1))∧φ[2]?=some (.blk (w.heap.size+2))∧φ[8]?=some (.blk bD))
   ∧RH.length=n
   ∧((c.mem=[]∧o5=Br∧MV=.sl 1 [])∨∃ cm,c.mem.length≤cm∧cm≤maxLen∧o5=.var 1000001 (iL c.mem)∧MV=.vsl 5 0 c.mem.length cm)
   ∧((row=[]∧o6=Br∧RH=(c.regs.map aIs).set t (.sl 1 []))∨∃ ct,row.length≤ct∧ct≤maxLen∧o6=.var 1000001 (iL row)∧RH=(c.regs.map aIs).set t (.vsl 6 0 row.length ct))
   ∧(n≤cp∧cp≤maxLen)∧(n≤cr∧cr≤maxLen)∧(n≤cb∧cb≤maxLen):=by
 obtain⟨xp,hp1,hp2,hp3,hp4⟩:=Rn hO.pc
 obtain⟨xg,hr1,hr2,hr3,hr4⟩:=Rn hO.regs.own
 obtain⟨xq,hb1,hb2,hb3,hb4⟩:=Rn hO.buf.own
 have lr':(c.regs.map (List.map (Value.int .i64))).length=n:=by rw[A5,lr]
 have lb':(c.buf.map (List.flatMap N9)).length=n:=by rw[A5,lb]
 have lxr:xr.length=n:=hO.regs.len.trans lr'
 have lxb:xb.length=n:=hO.buf.len.trans lb'
 obtain⟨xt,hxt⟩:∃ x,xr[t]?=some x:=⟨_,A6 (by omega)⟩
 obtain⟨mt,hmt⟩:=hO.regs.row t xt _ hxt (by rw[List.getElem?_map,hrow];rfl)
 have hDc:∀ g cs E,w2.heap[g]?=some (.cells cs E (0,0))→E≠90→g≠bD:=fun g cs E h hE e=>hE (by rw[e] at h;exact Je h fD)
 obtain⟨L,hL⟩:∃ L,[w.heap.size,w.heap.size+1,w.heap.size+2,gp,gb,gr,bD]++vm.ownBlock.toList++xt.ownBlock.toList=L:=⟨_,rfl⟩
 have memL:∀ b,b ∈ L↔(b=w.heap.size∨b=w.heap.size+1∨b=w.heap.size+2∨b=gp∨b=gb∨b=gr∨b=bD)∨vm.ownBlock=some b∨xt.ownBlock=some b:=by
  intro b
  rw[← hL]
  simp[or_assoc]
 have tgp:∀ {cs E},w2.heap[gp]?=some (.cells cs E (0,0))→E=3:=fun h=>(Je hp1 h).symm
 have tgr:∀ {cs E},w2.heap[gr]?=some (.cells cs E (0,0))→E=31:=fun h=>(Je hr1 h).symm
 have tgb:∀ {cs E},w2.heap[gb]?=some (.cells cs E (0,0))→E=152:=fun h=>(Je hb1 h).symm
 have tvm:∀ {g cs E},vm.ownBlock=some g→w2.heap[g]?=some (.cells cs E (0,0))→E=3:=fun hg h=>by
  obtain⟨_,cs',h'⟩:=Kt hO.mem hg
  exact(Je h' h).symm
 have txt:∀ {g cs E},xt.ownBlock=some g→w2.heap[g]?=some (.cells cs E (0,0))→E=3:=fun hg h=>by
  obtain⟨_,cs',h'⟩:=Kt hmt hg
  exact(Je h' h).symm
 have bvm:∀ {g},vm.ownBlock=some g→B≤g:=fun hg=>(Kt hO.mem hg).1
 have bxt:∀ {g},xt.ownBlock=some g→B≤g:=fun hg=>(Kt hmt hg).1
 have npr:gr≠gp:=fun e=>absurd (tgp (e ▸ hr1)) (by decide)
 have npb:gb≠gp:=fun e=>absurd (tgp (e ▸ hb1)) (by decide)
 have nrb:gr≠gb:=fun e=>absurd (tgb (e ▸ hr1)) (by decide)
 have ndp:gp≠bD:=hDc gp _ _ hp1 (by decide)
 have ndr:gr≠bD:=hDc gr _ _ hr1 (by decide)
 have ndb:gb≠bD:=hDc gb _ _ hb1 (by decide)
 have hNot:∀ b,w.heap.size≤b→b ∈ L→∀ o,¬ SX S w2 w.heap.size L b o:=fun b h1 h2 o=>Ais hS h1 h2 o
 have rowsR:∀ (i:Nat) (x:List Int) (v:Value),i≠t→c.regs[i]?=some x→xr[i]?=some v→Rep (SX S w2 w.heap.size L) w2 [] [] (aIs x) v:=by
  intro i x v hi h1 h2
  obtain⟨m,hm⟩:=hO.regs.row i v _ h2 (by rw[List.getElem?_map,h1];rfl)
  refine Xu (wf.regs x (List.mem_of_getElem? h1)) hm fun g cs o hg hBg hh ho=>Zl (by omega) (fun hm'=>?_) hh ho
  rcases(memL g).1 hm' with (e | e | e | e | e | e | e) | e | e
  ·omega
  ·omega
  ·omega
  ·exact(hO.pr i v g h2 hg).1 (by rw[e];rfl)
  ·exact absurd (tgb (e ▸ hh)) (by decide)
  ·exact hO.regs.apart i v g h2 hg (by rw[e];rfl)
  ·exact hDc g _ _ hh (by decide) e
  ·exact(hO.pr i v g h2 hg).2 e
  ·exact hi (hO.regs.dist i t v xt g h2 hxt hg e)
 have rowsB:∀ (i:Nat) (x:List A2) (v:Value),c.buf[i]?=some x→xb[i]?=some v→Rep (SX S w2 w.heap.size L) w2 [] [] (aEs x) v:=by
  intro i x v h1 h2
  obtain⟨m,hm⟩:=hO.buf.row i v _ h2 (by rw[List.getElem?_map,h1];rfl)
  refine A6r (wf.buf x (List.mem_of_getElem? h1)) hm fun g cs o hg hBg hh ho=>Zl (by omega) (fun hm'=>?_) hh ho
  rcases(memL g).1 hm' with (e | e | e | e | e | e | e) | e | e
  ·omega
  ·omega
  ·omega
  ·exact absurd (tgp (e ▸ hh)) (by decide)
  ·exact hO.buf.apart i v g h2 hg (by rw[e];rfl)
  ·exact absurd (tgr (e ▸ hh)) (by decide)
  ·exact hDc g _ _ hh (by decide) e
  ·exact absurd (tvm e hh) (by decide)
  ·exact absurd (txt e hh) (by decide)
 have c0:Ctx (SX S w2 w.heap.size L) w2 w.heap.size [] [] []:=⟨Akn hS hb L,fun i b h=>by simp[Af] at h⟩
 have c1:=c0.add 61 (b:=w.heap.size) (vs:=vsU) (ex:=[]) (Nat.le_refl _) (by rw[List.append_nil];exact fU) (Reps.lift (Reps.mono (Xe hS hb L) hU (.refl _ _))) oU (hNot _ (Nat.le_refl _) ((memL _).2 (.inl (.inl rfl)))) (by simp)
 have c2:=c1.add 90 (b:=w.heap.size+1) (vs:=vsC) (ex:=[]) (by omega) (by rw[List.append_nil];exact fC) (Reps.lift (Reps.mono (Xe hS hb L) hC (.refl _ _))) oC (hNot _ (by omega) ((memL _).2 (.inl (.inr (.inl rfl))))) (by simp)
 have c3:=c2.add 90 (b:=w.heap.size+2) (vs:=[.slice none 0 0,.slice none 0 0,.slice none 0 0,.slice none 0 0]) (ex:=[]) (cs:=C6) (by omega) (by rw[List.append_nil];exact fR) (.cons _ _ _ _ _ _ (.nils _ _) (.cons _ _ _ _ _ _ (.nils _ _) (.cons _ _ _ _ _ _ (.nils _ _) (.cons _ _ _ _ _ _ (.nils _ _) (.nil _ _))))) (by intro v hv;simp at hv;subst hv;rfl) (hNot _ (by omega) ((memL _).2 (.inl (.inr (.inr (.inl rfl)))))) (by simp)
 have c4:=c3.add 1000001 (b:=gp) (vs:=c.pc.map (Value.int .i64)) (ex:=xp) (cs:=iL c.pc) (by omega) hp1 (Pc _ wf.pc) (Mh _) (hNot _ (by omega) ((memL _).2 (.inl (.inr (.inr (.inr (.inl rfl))))))) (by simp;omega)
 have c5:=c4.add 1000001 (b:=gb) (vs:=xb) (ex:=xq) (cs:=c.buf.map aEs) (by omega) hb1 (Xj c.buf xb (by omega) fun i x v h1 h2=>(rowsB i x v h1 h2).lift) (fun v hv=>by
  obtain⟨i,hi,rfl⟩:=List.getElem_of_mem hv
  obtain⟨m,hm⟩:=hO.buf.row i xb[i] _ (A6 hi) (A6 (by omega))
  exact Mk hm) (hNot _ (by omega) ((memL _).2 (.inl (.inr (.inr (.inr (.inr (.inl rfl)))))))) (by simp;omega)
 obtain⟨o5,MV,p5,l6,c6,hl6,hMV,hM5⟩:∃ (o5:Ob) (MV:AV) (p5:Pl) (l6:List Nat),Ctx (SX S w2 w.heap.size L) w2 w.heap.size ([.var 61 (T2 u),.var 90 (Cj c),.var 90 C6,.var 1000001 (iL c.pc),.var 1000001 (c.buf.map aEs)]++[o5]) ([.blk w.heap.size,.blk (w.heap.size+1),.blk (w.heap.size+2),.blk gp,.blk gb]++[p5]) l6∧(∀ b ∈ l6,b < B∨b=gp∨b=gb∨vm.ownBlock=some b)∧(∀ hp φ,φ[5]?=some p5→Rep (SX S w2 w.heap.size L) w2 hp φ MV vm)∧((c.mem=[]∧o5=Br∧MV=.sl 1 [])∨∃ cm,c.mem.length≤cm∧cm≤maxLen∧o5=.var 1000001 (iL c.mem)∧MV=.vsl 5 0 c.mem.length cm):=by
  by_cases hm0:c.mem=[]
  ·refine⟨_,.sl 1 [],_,_,c5.dum,fun b hb'=>?_,fun hp φ _=>?_,.inl ⟨hm0,rfl,rfl⟩⟩
   ·simp at hb';omega
   ·have:=hO.mem
    rw[hm0] at this
    exact(Yv this (by decide)).lift
  ·rcases Kw hO.mem with ⟨_,h0⟩ | ⟨g,cap,ex,rfl,hg,hh,hc,hm,hsz⟩
   ·exact absurd (List.eq_nil_of_length_eq_zero h0) hm0
   ·have n1:g≠gp:=fun e=>hO.pm gp rfl (by rw[← e];rfl)
    have n2:g≠gb:=fun e=>absurd (tgb (e ▸ hh)) (by decide)
    refine⟨_,.vsl 5 0 c.mem.length cap,_,_,c5.add 1000001 (b:=g) (vs:=c.mem.map (Value.int .i64)) (ex:=ex) (cs:=iL c.mem) (by omega) hh (Pc _ wf.mem) (Mh _) (hNot _ (by omega) ((memL _).2 (.inr (.inl rfl)))) (by simp;omega),fun b hb'=>?_,fun hp φ h=>.vsl _ _ _ _ _ _ _ h,.inr ⟨cap,hc,hm,rfl,rfl⟩⟩
    simp at hb'
    rcases hb' with e | e | e | e | e | e
    ·omega
    ·omega
    ·omega
    ·exact .inr (.inl e)
    ·exact .inr (.inr (.inl e))
    ·exact .inr (.inr (.inr (by rw[e];rfl)))
 obtain⟨o6,AT,p6,l7,c7,hl7,hAT,hM6⟩:∃ (o6:Ob) (AT:AV) (p6:Pl) (l7:List Nat),Ctx (SX S w2 w.heap.size L) w2 w.heap.size ([.var 61 (T2 u),.var 90 (Cj c),.var 90 C6,.var 1000001 (iL c.pc),.var 1000001 (c.buf.map aEs),o5]++[o6]) ([.blk w.heap.size,.blk (w.heap.size+1),.blk (w.heap.size+2),.blk gp,.blk gb,p5]++[p6]) l7∧(∀ b ∈ l7,b < B∨b=gp∨b=gb∨vm.ownBlock=some b∨xt.ownBlock=some b)∧(∀ hp φ,φ[6]?=some p6→Rep (SX S w2 w.heap.size L) w2 hp φ AT xt)∧((row=[]∧o6=Br∧AT=.sl 1 [])∨∃ ct,row.length≤ct∧ct≤maxLen∧o6=.var 1000001 (iL row)∧AT=.vsl 6 0 row.length ct):=by
  have hmt':=hmt
  obtain rfl:=A0r hmt' (by decide) (k:=row.length) (by simp)
  by_cases hm0:row=[]
  ·refine⟨_,.sl 1 [],_,_,c6.dum,fun b hb'=>?_,fun hp φ _=>?_,.inl ⟨hm0,rfl,rfl⟩⟩
   ·have:=hl6 b hb'
    rcases this with e | e | e | e
    ·exact .inl e
    ·exact .inr (.inl e)
    ·exact .inr (.inr (.inl e))
    ·exact .inr (.inr (.inr (.inl e)))
   ·rw[hm0] at hmt
    exact(Yv hmt (by decide)).lift
  ·rcases Kw hmt with ⟨_,h0⟩ | ⟨g,cap,ex,rfl,hg,hh,hc,hm,hsz⟩
   ·exact absurd (List.eq_nil_of_length_eq_zero h0) hm0
   ·refine⟨_,.vsl 6 0 row.length cap,_,_,c6.add 1000001 (b:=g) (vs:=row.map (Value.int .i64)) (ex:=ex) (cs:=iL row) (by omega) hh (Pc _ (wf.regs row (List.mem_of_getElem? hrow))) (Mh _) (hNot _ (by omega) ((memL _).2 (.inr (.inr rfl)))) (fun h=>?_),fun b hb'=>?_,fun hp φ h=>.vsl _ _ _ _ _ _ _ h,.inr ⟨cap,hc,hm,rfl,rfl⟩⟩
    ·rcases hl6 g h with e | e | e | e
     ·omega
     ·exact(hO.pr t _ g hxt rfl).1 (by rw[e];rfl)
     ·exact absurd (tgb (e ▸ hh)) (by decide)
     ·exact(hO.pr t _ g hxt rfl).2 e
    ·rcases List.mem_append.1 hb' with hb' | hb'
     ·rcases hl6 b hb' with e | e | e | e
      ·exact .inl e
      ·exact .inr (.inl e)
      ·exact .inr (.inr (.inl e))
      ·exact .inr (.inr (.inr (.inl e)))
     ·simp at hb'
      exact .inr (.inr (.inr (.inr (by rw[hb'];rfl))))
 have c8:=c7.add 1000001 (b:=gr) (vs:=xr) (ex:=xg) (cs:=(c.regs.map aIs).set t AT) (by omega) hr1 (Reps.getk (by simp;omega) fun i a v h1 h2=>by
  rw[List.getElem?_set] at h1
  split at h1
  ·rename_i e
   subst e
   rw[hxt] at h2
   cases h2
   split at h1
   ·cases h1
    exact hAT _ _ rfl
   ·cases h1
  ·rename_i e
   rw[List.getElem?_map] at h1
   cases hk:c.regs[i]? with
   | none=>rw[hk] at h1;cases h1
   | some y =>
    rw[hk] at h1
    cases h1
    exact(rowsR i y v (fun e'=>e e'.symm) hk h2).lift) (fun v hv=>by
  obtain⟨i,hi,rfl⟩:=List.getElem_of_mem hv
  obtain⟨m,hm⟩:=hO.regs.row i xr[i] _ (A6 hi) (A6 (by omega))
  exact Mk hm) (hNot _ (by omega) ((memL _).2 (.inl (.inr (.inr (.inr (.inr (.inr (.inl rfl)))))))))
  (fun h=>by
   rcases hl7 gr h with e | e | e | e | e
   ·omega
   ·exact npr e
   ·exact nrb e
   ·exact absurd (tvm e hr1) (by decide)
   ·exact absurd (txt e hr1) (by decide))
 have c9:=c8.add 90 (b:=bD) (vs:=[.slice (some ⟨gp,0,none⟩) n cp,.slice (some ⟨gr,0,none⟩) n cr,vm,.slice (some ⟨gb,0,none⟩) n cb]) (ex:=[]) (cs:=[.vsl 3 0 n cp,.vsl 7 0 n cr,MV,.vsl 4 0 n cb]) (by omega) (by rw[List.append_nil];exact fD)
  (.cons _ _ _ _ _ _ (.vsl _ _ _ _ _ _ _ rfl) (.cons _ _ _ _ _ _ (.vsl _ _ _ _ _ _ _ rfl) (.cons _ _ _ _ _ _ (hMV _ _ rfl) (.cons _ _ _ _ _ _ (.vsl _ _ _ _ _ _ _ rfl) (.nil _ _)))))
  (by
   intro v hv
   simp at hv
   rcases hv with rfl | rfl | rfl | rfl
   ·rfl
   ·rfl
   ·exact Mk hO.mem
   ·rfl)
  (hNot _ (by omega) ((memL _).2 (.inl (.inr (.inr (.inr (.inr (.inr (.inr rfl)))))))))
  (fun h=>by
   rcases List.mem_append.1 h with h | h
   ·rcases hl7 bD h with e | e | e | e | e
    ·omega
    ·exact ndp e.symm
    ·exact ndb e.symm
    ·obtain⟨_,cs',h'⟩:=Kt hO.mem e
     exact hDc _ _ _ h' (by decide) rfl
    ·obtain⟨_,cs',h'⟩:=Kt hmt e
     exact hDc _ _ _ h' (by decide) rfl
   ·simp at h
    exact ndr h.symm)
 refine⟨L,o5,o6,MV,_,_,c9.sim,⟨rfl,rfl,rfl,rfl⟩,by simp;omega,hM5,?_,⟨by omega,hp4⟩,⟨by omega,hr4⟩,⟨by omega,hb4⟩⟩
 rcases hM6 with ⟨e1,e2,e3⟩ | ⟨ct,e1,e2,e3,e4⟩
 ·exact .inl ⟨e1,e2,by rw[e3]⟩
 ·exact .inr ⟨ct,e1,e2,e3,by rw[e4]⟩
theorem A6f {P:Program} {H:Bv} {call:Bp} {f:FuncId} {fuel base:Nat} (hm:P.follows .mixedOrders=true) (hH:My P H) (hc:Fy P H call) {c1 c2 c3:Code} (hd1:F5 H f c1=true) (hd2:F5 H f c2=true) (hd3:F5 H f c3=true)
 {S:Nat→Nat→Prop} {W:World} {hp:Hp} {φ:List Pl} {tm:Tm} {A:Act} (hs:Sim P base S W hp φ) (ht:Reps S W hp φ tm A.tmps.toList) (hdef:A.defers=[]) {fn:Func} {v:AV} {hp':Hp}
 (h:O0 P H call f fuel hp.length (.seq (.seq c1 c2) c3) tm hp (fun e tm hp2=>match e with
  | .exit _=>none
  | _=>Wb P fn tm hp2 fun v=>some (v,hp2))=some (v,hp'))
 {R:Ending→World→Prop} (hR:∀ u S' w' φ',Rep S' w' hp' φ' v u→Sim P base S' w' hp' φ'→Trans base S W hp φ S' w' hp' φ'→R (.returned u) w')
 {K K1:Act→World→Prop} (hK:∀ a w,c2.wp P (Exit.then K1 (bodyPost P fn R)) a w→K a w) (hK1:∀ a w,c3.wp P (bodyPost P fn R) a w→K1 a w):c1.wp P (Exit.then K (Exit.then K1 (bodyPost P fn R))) A W:=by
 have fin:∀ {tm'':Tm} {hp2:Hp} {S'':Nat→Nat→Prop} {w'':World} {φ'':List Pl} {a'':Act},Wb P fn tm'' hp2 (fun v=>some (v,hp2))=some (v,hp')→Reps S'' w'' hp2 φ'' tm'' a''.tmps.toList→Sim P base S'' w'' hp2 φ''→Trans base S W hp φ S'' w'' hp2 φ''→a''.defers=[]→a''.defers=[]∧∃ u,(results fn a''.tmps).run P w''=.ok u w''∧R (.returned u) w'':=by
  intro tm'' hp2 S'' w'' φ'' a'' hres k2 k3 k4 k5
  refine⟨k5,?_⟩
  obtain⟨avs,us,r1,r2,r3⟩:=A3f k3 k2 fn.results.toList _ hres
  have fin2:∀ (x:AV) (u:Value),Rep S'' w'' hp2 φ'' x u→(results fn a''.tmps).run P w''=.ok u w''→(some (x,hp2):Option (AV×Hp))=some (v,hp')→∃ u,(results fn a''.tmps).run P w''=.ok u w''∧R (.returned u) w'':=by
   intro x u hx hrun he
   cases he
   exact⟨u,hrun,hR u _ _ _ hx k3 k4⟩
  have hrun:=A0e r2
  clear r2
  match avs,us,r1,r3,hrun with
  | [],[],r1,r3,hrun=>exact fin2 _ _ (.tup _ _ _ _ (H1 r3)) hrun r1
  | [x],[u],r1,r3,hrun=>cases r3 with | cons _ _ _ _ _ _ hx _=>exact fin2 _ _ (A12 hx) hrun r1
  | x :: y :: l,u :: u2 :: us,r1,r3,hrun=>exact fin2 _ _ (.tup _ _ _ _ (H1 r3)) hrun r1
 refine Sb hm hH hc hs c1 hd1 (.refl _ _ _ _ _) hs ht h ?_
 intro e tm' hp1 S' φ' a' w' g1 g2 g3 g4 g5
 cases e with
 | exit id=>cases g1
 | ret=>exact fin g1 g2 g3 g4 (g5.trans hdef)
 | normal =>
  refine hK _ _ (Sb hm hH hc hs c2 hd2 g4 g3 g2 g1 ?_)
  intro e tm'' hp2 S'' φ'' a'' w'' k1 k2 k3 k4 k5
  cases e with
  | exit id=>cases k1
  | ret=>exact fin k1 k2 k3 k4 (k5.trans (g5.trans hdef))
  | normal =>
   refine hK1 _ _ (Sb hm hH hc hs c3 hd3 k4 k3 k2 k1 ?_)
   intro e tm3 hp3 S3 φ3 a3 w3 j1 j2 j3 j4 j5
   cases e with
   | exit id=>cases j1
   | normal=>exact fin j1 j2 j3 j4 (j5.trans (k5.trans (g5.trans hdef)))
   | ret=>exact fin j1 j2 j3 j4 (j5.trans (k5.trans (g5.trans hdef)))
theorem Ach {S S1 S':Nat→Nat→Prop} {w w2 w':World} {P:Program} {hp hp':Hp} {φ φ':List Pl} (hS:∀ b o,S b o→∃ u,stay w b o=some u) (hb:Below w.heap.size w w2) (hx:SExt S w S1 w2) (hn:∀ b o,S1 b o→S b o∨w.heap.size≤b) (hs:Sim P w.heap.size S' w' hp' φ') (T:Trans w.heap.size S1 w2 hp φ S' w' hp' φ') {C:Nat→Nat→Prop} (hC:∀ b o,C b o→w.heap.size≤b∧∃ v,stay w' b o=some v∧v.2.2=(0,0)) :
 (∀ b o,(S' b o∨C b o)→∃ u,stay w' b o=some u∧(w.heap.size≤b→u.2.2=(0,0)))∧SExt S w (fun b o=>S' b o∨C b o) w'∧(∀ b o,(S' b o∨C b o)→S b o∨w.heap.size≤b)∧Below w.heap.size w w':=by
 refine⟨fun b o h=>?_,fun b o h=>?_,fun b o h=>?_,hb.trans T.below⟩
 ·rcases h with h | h
  ·exact hs.cell b o h
  ·obtain⟨_,v,h1,h2⟩:=hC b o h
   exact⟨v,h1,fun _=>h2⟩
 ·obtain⟨h1,h2⟩:=hx.trans T.s b o h
  exact⟨.inl h1,h2⟩
 ·rcases h with h | h
  ·rcases T.new b o h with h | h
   ·exact hn b o h
   ·exact .inr h
  ·exact .inr (hC b o h).1
def Sc (w:World) (φ:List Pl) (b o:Nat):Prop:=(∃ id:Nat,φ[id]?=some (Pl.blk b))∧∃ v,stay w b o=some v∧v.2.2=(0,0)
theorem A5y {P:Program} {base:Nat} {S:Nat→Nat→Prop} {w:World} {hp:Hp} {φ:List Pl} (hs:Sim P base S w hp φ):∀ b o,Sc w φ b o→base≤b∧∃ v,stay w b o=some v∧v.2.2=(0,0):=by
 rintro b o ⟨⟨id,hid⟩,h⟩
 exact⟨(hs.block_lt (id:=id) (by simp[Af,hid])).1,h⟩
theorem Vs {P:Program} {base:Nat} {S:Nat→Nat→Prop} {w:World} {hp:Hp} {φ:List Pl} (hs:Sim P base S w hp φ) {id:Nat} {t:TypeId} {cs:List AV} (ho:hp[id]?=some (.var t cs)) {b:Nat} (hb:φ[id]?=some (Pl.blk b)) {o:Nat} (h:o < cs.length):Sc w φ b o:=by
 obtain⟨b',vs,E,g1,g2,⟨ex,g3⟩,g4,g5,g6⟩:=hs.obj id _ ho
 rw[hb] at g1;cases g1
 have hl:=g4.length
 refine⟨⟨id,hb⟩,((vs++ex)[o]'(by simp;omega),none,(0,0)),Lr g3 ?_,rfl⟩
 simp only[World.cell?,g3]
 have:o < (vs++ex).length:=by simp;omega
 simp[this]
theorem Jf {w:World} {B:Nat} {e:TypeId} {size n:Nat} {v:Value} {xs:List Value} (h:w.ownsRow B e size v n xs):∃ a c,v=.slice a n c:=by
 rcases h.2 with ⟨rfl,rfl⟩ | ⟨g,cap,cur,rfl,_⟩<;>exact⟨_,_,rfl⟩
theorem A2t {S:Nat→Nat→Prop} {w:World} {hp:Hp} {φ:List Pl}:∀ l:List Value,Reps S w hp φ (List.replicate l.length .junk) l
 | []=>.nil _ _
 | v :: l=>.cons _ _ _ _ _ _ (.junk _ _ _) (A2t l)
theorem A2g {S:Nat→Nat→Prop} {w:World} {hp:Hp} {φ:List Pl} {n:Nat} {l:List Value} (h:l.length=n):Reps S w hp φ (List.replicate n .junk) l:=h ▸ A2t l
theorem Gl {S:Nat→Nat→Prop} {w:World} {hp:Hp} {φ:List Pl} {tm:Tm} {L:List Value} (h:Reps S w hp φ tm L) {i:Nat} {a:AV} {u:Value} (ha:Rep S w hp φ a u) (hi:L[i]?=some u):Reps S w hp φ (tm.set i a) L:=by
 have:=h.set i ha
 have e:L.set i u=L:=by
  apply List.ext_getElem?
  intro j
  rw[List.getElem?_set]
  split
  ·rename_i e
   subst e
   rw[hi]
   split
   ·rfl
   ·rename_i h'
    exact absurd (List.getElem?_eq_some_iff.1 hi).1 h'
  ·rfl
 rwa [e] at this
structure Jw (c:Ac) (t:Nat) (o5 o6:Ob) (MV:AV) (RH:List AV) (n cp cr cb:Nat):Prop where
 hn:c.pc.length=n
 len:RH.length=n
 mem:(c.mem=[]∧o5=Br∧MV=.sl 1 [])∨∃ cm,c.mem.length≤cm∧cm≤maxLen∧o5=.var 1000001 (iL c.mem)∧MV=.vsl 5 0 c.mem.length cm
 row:∃ row,c.regs[t]?=some row∧((row=[]∧o6=Br∧RH=(c.regs.map aIs).set t (.sl 1 []))∨∃ ct,row.length≤ct∧ct≤maxLen∧o6=.var 1000001 (iL row)∧RH=(c.regs.map aIs).set t (.vsl 6 0 row.length ct))
 hcp:n≤cp∧cp≤maxLen
 hcr:n≤cr∧cr≤maxLen
 hcb:n≤cb∧cb≤maxLen
set_option maxRecDepth 100000 in
set_option maxHeartbeats 8000000 in
theorem Ai6 (S:Nat→Nat→Prop) (w:World) (u:Ak) (c:Ac) (m r:Int) (t:Nat) (a1 a2 a3 a4 a5 a6 a7:Option Addr) (n1 n2 n3 n4 n5 n6 n7 c1 c2 c3 c4 c5 c6 c7:Nat) (R:Ending→World→Prop)
 (hS:∀ b o,S b o→∃ u,stay w b o=some u)
 (hU:Reps S w [] [] (T2 u) [.int .i64 u.mod,.slice a1 n1 c1,.slice a2 n2 c2,.slice a3 n3 c3]) (hC:Reps S w [] [] (Cj c) [.slice a4 n4 c4,.slice a5 n5 c5,.slice a6 n6 c6,.slice a7 n7 c7])
 (hv:ConfV w (.agg #[.slice a4 n4 c4,.slice a5 n5 c5,.slice a6 n6 c6,.slice a7 n7 c7]) c) (hl:A1o c) (om:okI m) (or:okI r) (ot:okI (t:Int))
 (lr:c.regs.length=c.pc.length) (lb:c.buf.length=c.pc.length) (ht:t < c.pc.length)
 (hR:∀ (w2:World) (L:List Nat) (o5 o6:Ob) (MV:AV) (RH:List AV) (φ:List Pl) (n cp cr cb:Nat),Below w.heap.size w w2→Jw c t o5 o6 MV RH n cp cr cb →
  Sim Tryz.prog w.heap.size (SX S w2 w.heap.size L) w2 (Bb u c C6 (iL c.pc) (c.buf.map aEs) o5 o6 RH [.vsl 3 0 n cp,.vsl 7 0 n cr,MV,.vsl 4 0 n cb]) φ →
  ∃ v hp',Bc (cN XB0 1500) u c m r t (Bb u c C6 (iL c.pc) (c.buf.map aEs) o5 o6 RH [.vsl 3 0 n cp,.vsl 7 0 n cr,MV,.vsl 4 0 n cb])=some (v,hp') ∧
    ∀ u' S' w' φ',Rep S' w' hp' φ' v u'→Sim Tryz.prog w.heap.size S' w' hp' φ'→Trans w.heap.size (SX S w2 w.heap.size L) w2 (Bb u c C6 (iL c.pc) (c.buf.map aEs) o5 o6 RH [.vsl 3 0 n cp,.vsl 7 0 n cr,MV,.vsl 4 0 n cb]) φ S' w' hp' φ'→R (.returned u') w') :
 Calls Tryz.prog 50 #[.agg #[.int .i64 u.mod,.slice a1 n1 c1,.slice a2 n2 c2,.slice a3 n3 c3],.agg #[.slice a4 n4 c4,.slice a5 n5 c5,.slice a6 n6 c6,.slice a7 n7 c7],.int .i64 m,.int .i64 r,.int .i64 (t:Int)] w R:=by
 obtain⟨W0,hW0⟩:∃ W,W=((w.alloc (.cells #[.int .i64 u.mod,.slice a1 n1 c1,.slice a2 n2 c2,.slice a3 n3 c3] 61)).alloc (.cells #[.slice a4 n4 c4,.slice a5 n5 c5,.slice a6 n6 c6,.slice a7 n7 c7] 90)).alloc (.cells #[.slice none 0 0,.slice none 0 0,.slice none 0 0,.slice none 0 0] 90):=⟨_,rfl⟩
 have hb0:Below w.heap.size w W0:=hW0 ▸ (((Below.refl _ _).alloc (Nat.le_refl _) _).alloc (by simp) _).alloc (by simp;omega) _
 have hsz:W0.heap.size=w.heap.size+3:=by rw[hW0];simp
 have fu:Fresh W0 w.heap.size (.cells #[.int .i64 u.mod,.slice a1 n1 c1,.slice a2 n2 c2,.slice a3 n3 c3] 61):=by
  rw[hW0];exact((Fresh.new w _).later ((Below.refl _ _).alloc (Nat.le_refl _) _)).later ((Below.refl _ _).alloc (Nat.le_refl _) _)
 have fc:Fresh W0 (w.heap.size+1) (.cells #[.slice a4 n4 c4,.slice a5 n5 c5,.slice a6 n6 c6,.slice a7 n7 c7] 90):=by
  have:=Fresh.new (w.alloc (.cells #[.int .i64 u.mod,.slice a1 n1 c1,.slice a2 n2 c2,.slice a3 n3 c3] 61)) (.cells #[.slice a4 n4 c4,.slice a5 n5 c5,.slice a6 n6 c6,.slice a7 n7 c7] 90)
  rw[World.size_alloc] at this
  rw[hW0];exact this.later ((Below.refl _ _).alloc (Nat.le_refl _) _)
 have fr:Fresh W0 (w.heap.size+2) (.cells #[.slice none 0 0,.slice none 0 0,.slice none 0 0,.slice none 0 0] 90):=by
  have:=Fresh.new ((w.alloc (.cells #[.int .i64 u.mod,.slice a1 n1 c1,.slice a2 n2 c2,.slice a3 n3 c3] 61)).alloc (.cells #[.slice a4 n4 c4,.slice a5 n5 c5,.slice a6 n6 c6,.slice a7 n7 c7] 90)) (.cells #[.slice none 0 0,.slice none 0 0,.slice none 0 0,.slice none 0 0] 90)
  rw[World.size_alloc,World.size_alloc] at this
  rw[hW0];exact this
 have FU:=Lib.hid fu;have FC:=Lib.hid fc;have FR:=Lib.hid fr;have HB:=Lib.hid hb0;have HSZ:=Lib.hid hsz
 have HV:=Lib.hid hv;have HL:=Lib.hid hl;have HU:=Lib.hid hU;have HC:=Lib.hid hC;have HS:=Lib.hid hS;have HR:=Lib.hid hR
 have OM:=Lib.hid om;have OR:=Lib.hid or;have OT:=Lib.hid ot;have LR:=Lib.hid lr;have LB:=Lib.hid lb;have HT:=Lib.hid ht
 clear hv hl hU hC hS hR om or ot lr lb ht
 go_enter Tryz.func50,Tryz.ntmps50
 go_upto_region 1 with (fail)
 rw[← hW0]
 have y0:=(fc.open (k:=0) rfl).1;have y1:=(fc.open (k:=1) rfl).1;have y2:=(fc.open (k:=2) rfl).1;have y3:=(fc.open (k:=3) rfl).1
 clear hW0 hb0 hsz fu fc fr
 go_wp2_with fail
 refine(A1x _ _ c (HV.out.mono HB.out) HL.out).mono ?_
 rintro e w1 ⟨hb1,vp,vr,vm,vb,xr,xb,rfl,hO⟩
 clear y0 y1 y2 y3
 obtain⟨p1,k1,rfl⟩:=Jf hO.pc
 obtain⟨p2,k2,rfl⟩:=Jf hO.regs.own
 obtain⟨p3,k3,rfl⟩:=Jf hO.mem
 obtain⟨p4,k4,rfl⟩:=Jf hO.buf.own
 simp only[A5] at hO ⊢
 rw[LR.out,LB.out] at hO ⊢
 have HO:=Lib.hid hO;have HB1:=Lib.hid hb1
 clear hO hb1
 go_upto_region 2 with (fail)
 have hn0:=HT.out
 have hnn:∀ {w0:World} {B:Nat} {e:TypeId} {a:Option Addr} {n k:Nat} {xs:List Value},w0.ownsRow B e 1 (.slice a n k) n xs→0 < n→∃ g,a=some ⟨g,0,none⟩:=by
  intro w0 B e a n k xs h h0
  rcases h.2 with ⟨h1,h2⟩ | ⟨g,cap,cur,e1,_⟩
  ·omega
  ·exact⟨g,(Value.slice.inj e1).1⟩
 have g2:=HO.out.regs.own
 have g4:=HO.out.buf.own
 rw[A5,LR.out] at g2
 rw[A5,LB.out] at g4
 obtain⟨gp,rfl⟩:=hnn HO.out.pc (by omega)
 obtain⟨gr,rfl⟩:=hnn g2 (by omega)
 obtain⟨gb,rfl⟩:=hnn g4 (by omega)
 clear g2 g4 hnn
 obtain⟨row,hrow⟩:∃ row,c.regs[t]?=some row:=⟨_,A6 (by have:=LR.out;omega)⟩
 obtain⟨W2,hW2⟩:∃ W,w1.alloc (.cells #[.slice (some ⟨gp,0,none⟩) c.pc.length k1,.slice (some ⟨gr,0,none⟩) c.pc.length k2,.slice p3 c.mem.length k3,.slice (some ⟨gb,0,none⟩) c.pc.length k4] 90)=W:=⟨_,rfl⟩
 have hA:Below w1.heap.size w1 W2:=hW2 ▸ (Below.refl _ _).alloc (Nat.le_refl _) _
 have fD:Fresh W2 w1.heap.size (.cells #[.slice (some ⟨gp,0,none⟩) c.pc.length k1,.slice (some ⟨gr,0,none⟩) c.pc.length k2,.slice p3 c.mem.length k3,.slice (some ⟨gb,0,none⟩) c.pc.length k4] 90):=hW2 ▸ Fresh.new w1 _
 have hbW:Below w.heap.size w W2:=(HB.out.trans (HB1.out.mono HB.out.size)).trans (hA.mono (Nat.le_trans HB.out.size HB1.out.size))
 have hO2:A5h W0.heap.size W2 c (.slice (some ⟨gp,0,none⟩) c.pc.length k1) (.slice (some ⟨gr,0,none⟩) c.pc.length k2) (.slice p3 c.mem.length k3) (.slice (some ⟨gb,0,none⟩) c.pc.length k4) xr xb:=⟨⟨Dn HO.out.pc hA,HO.out.regs.below hA,Dn HO.out.mem hA,HO.out.buf.below hA⟩,HO.out.pm,HO.out.pr⟩
 obtain⟨L,o5,o6,MV,RH,φ,hsim,⟨φ0,φ1,φ2,φ8⟩,hlen,hM5,hM6,hcp,hcr,hcb⟩:=Ar5 (u:=u) (bD:=w1.heap.size) (t:=t) HS.out hbW (by have:=HSZ.out;omega) ((FU.out.later HB1.out).later hA) ((FC.out.later HB1.out).later hA) ((FR.out.later HB1.out).later hA) fD HU.out (by intro v hv;simp at hv;rcases hv with rfl | rfl | rfl | rfl<;>rfl) HC.out (by intro v hv;simp at hv;rcases hv with rfl | rfl | rfl | rfl<;>rfl) hO2 HB1.out.size HV.out.wf rfl LR.out LB.out HT.out hrow
 obtain⟨v,hp',hrun,hend⟩:=HR.out W2 L o5 o6 MV RH φ _ _ _ _ hbW ⟨rfl,hlen,hM5,⟨row,hrow,hM6⟩,hcp,hcr,hcb⟩ hsim
 rw[hW2]
 refine A6f (call:=cN XB0 1500) (f:=50) (fuel:=1000) (tm:=((((((((List.replicate 214 AV.junk).set 5 (.ptr 0 0)).set 6 (.ptr 1 0)).set 10 (.ptr 2 0)).set 12 (.ptr 8 0)).set 2 (.int .i64 m)).set 3 (.int .i64 r)).set 4 (.int .i64 (t:Int)))) (v:=v) (hp':=hp') Af3 A7t (Wp A6i 1500) (by kernel_rfl) (by kernel_rfl) (by kernel_rfl) hsim ?_ rfl hrun hend (by assumption) (by assumption)
 refine Gl ?_ (.int _ _ _ _ OT.out) rfl
 refine Gl ?_ (.int _ _ _ _ OR.out) rfl
 refine Gl ?_ (.int _ _ _ _ OM.out) rfl
 refine Gl ?_ (.ptr _ _ 8 0 _ φ8) rfl
 refine Gl ?_ (.ptr _ _ 2 0 _ φ2) rfl
 refine Gl ?_ (.ptr _ _ 1 0 _ φ1) rfl
 refine Gl ?_ (.ptr _ _ 0 0 _ φ0) rfl
 exact A2g rfl
theorem Qu {S S':Nat→Nat→Prop} {w:World} {hp:Hp} {φ:List Pl} {size:Nat} {els:List (List AV)} {v:Value} (h:Rep S w hp φ (.sl size els) v) (hS:∀ b o,S b o→S' b o):Rep S' w [] [] (.sl size els) v:=by
 have:Rep S w [] [] (.sl size els) v:=by cases h;exact .sl _ _ _ _ _ _ _ ‹_› ‹_› ‹_›
 exact Rep.mono (fun b o hb=>⟨hS b o hb,rfl⟩) this (.refl _ _)
structure En (c':Ac) (t:Nat) (hp:Hp) (MV:AV) (n cp cr cb:Nat):Prop where
 pc:hp[3]?=some (.var 1000001 (iL c'.pc))
 buf:hp[4]?=some (.var 1000001 (c'.buf.map aEs))
 mem:(MV=.sl 1 []∧c'.mem=[])∨∃ cm,c'.mem.length≤cm∧cm≤maxLen∧MV=.vsl 5 0 c'.mem.length cm∧hp[5]?=some (.var 1000001 (iL c'.mem))
 regs:∃ AT row,c'.regs[t]?=some row∧hp[7]?=some (.var 1000001 ((c'.regs.map aIs).set t AT))∧((AT=.sl 1 []∧row=[])∨∃ ct,row.length≤ct∧ct≤maxLen∧AT=.vsl 6 0 row.length ct∧hp[6]?=some (.var 1000001 (iL row)))
 lp:c'.pc.length=n
 lr:c'.regs.length=n
 lb:c'.buf.length=n
 hcp:n≤cp∧cp≤maxLen
 hcr:n≤cr∧cr≤maxLen
 hcb:n≤cb∧cb≤maxLen
theorem S9 {P:Program} {base:Nat} {S S':Nat→Nat→Prop} {w:World} {hp:Hp} {φ:List Pl} (hs:Sim P base S w hp φ) (hS:∀ b o,Sc w φ b o→S' b o) {id cap:Nat} {v:Value} {l:List Int} (h:Rep S w hp φ (.vsl id 0 l.length cap) v) {t:TypeId} (ho:hp[id]?=some (.var t (iL l))) (hcap:l.length≤cap∧cap≤maxLen):Rep S' w [] [] (aIs l) v:=by
 refine Ts hs h ho (els:=l.map A0) (by simp) (by simp) hcap (fun k a x hk ha hr=>?_) fun b hb o ho'=>hS b o (Vs hs ho hb (by simpa using ho'))
 rw[List.getElem?_map,A6 hk] at ha
 cases ha
 refine⟨.int .i64 l[k],by rw[List.getElem?_map,A6 hk];rfl,?_⟩
 obtain⟨rfl,hw⟩:=hr.int_inv
 exact .int _ _ _ _ hw
theorem Ah4 {P:Program} {base:Nat} {S S':Nat→Nat→Prop} {w:World} {hp:Hp} {φ:List Pl} (hs:Sim P base S w hp φ) (hS:∀ b o,Sc w φ b o→S' b o) (hS2:∀ b o,S b o→S' b o) {c':Ac} {t n cp cr cb:Nat} {MV:AV} {b:Bool} {u':Value} (hE:En c' t hp MV n cp cr cb) (h:Rep S w hp φ (.tup [.agg [.vsl 3 0 n cp,.vsl 7 0 n cr,MV,.vsl 4 0 n cb],.bool b]) u'):Rep S' w [] [] (.tup [aC c',.bool b]) u':=by
 obtain⟨e1,e2,e3,⟨AT,row,e4,e5,e6⟩,e7,e8,e9,e10,e11,e12⟩:=hE
 obtain⟨vs,hr,rfl⟩:=h.tup_inv
 cases hr with | cons _ _ _ va _ _ ha hr =>
 cases hr with | cons _ _ _ vb _ _ hb hr =>
 cases hr
 obtain⟨ds,hd,od,rfl⟩:=ha.agg_inv
 cases hd with | cons _ _ _ d0 _ _ h0 hd =>
 cases hd with | cons _ _ _ d1 _ _ h1 hd =>
 cases hd with | cons _ _ _ d2 _ _ h2 hd =>
 cases hd with | cons _ _ _ d3 _ _ h3 hd =>
 cases hd
 have hb':=hb.bool_inv
 subst hb'
 refine .tup _ _ _ _ (.cons _ _ _ _ _ _ (.agg _ _ _ [d0,d1,d2,d3] (.cons _ _ _ _ _ _ ?_ (.cons _ _ _ _ _ _ ?_ (.cons _ _ _ _ _ _ ?_ (.cons _ _ _ _ _ _ ?_ (.nil _ _))))) od) (.cons _ _ _ _ _ _ (.bool _ _ _) (.nil _ _)))
 ·subst e7
  exact S9 hs hS h0 e1 e10
 ·refine Ts hs h1 e5 (els:=c'.regs.map Ag) (by simp[e8]) (by simp[e8]) e11 (fun k a x hk ha hr=>?_) fun b hb o ho'=>hS b o (Vs hs e5 hb (by simp[e8];exact ho'))
  rw[List.getElem?_set] at ha
  split at ha
  ·rename_i e
   subst e
   split at ha
   ·cases ha
    refine⟨aIs row,by rw[List.getElem?_map,e4];rfl,?_⟩
    rcases e6 with ⟨rfl,rfl⟩ | ⟨ct,k1,k2,rfl,k3⟩
    ·exact Qu hr hS2
    ·exact S9 hs hS hr k3 ⟨k1,k2⟩
   ·cases ha
  ·rw[List.getElem?_map] at ha
   cases hk2:c'.regs[k]? with
   | none=>rw[hk2] at ha;cases ha
   | some y =>
    rw[hk2] at ha
    cases ha
    exact⟨aIs y,by rw[List.getElem?_map,hk2];rfl,Qu hr hS2⟩
 ·rcases e3 with ⟨rfl,k1⟩ | ⟨cm,k1,k2,rfl,k3⟩
  ·rw[k1]
   exact Qu h2 hS2
  ·exact S9 hs hS h2 k3 ⟨k1,k2⟩
 ·refine Ts hs h3 e2 (els:=c'.buf.map An) (by simp[e9]) (by simp[e9]) e12 (fun k a x hk ha hr=>?_) fun b hb o ho'=>hS b o (Vs hs e2 hb (by simp[e9];exact ho'))
  rw[List.getElem?_map] at ha
  cases hk2:c'.buf[k]? with
  | none=>rw[hk2] at ha;cases ha
  | some y =>
   rw[hk2] at ha
   cases ha
   exact⟨aEs y,by rw[List.getElem?_map,hk2];rfl,Qu hr hS2⟩
theorem M8 {α:Type} (f:α→AV) (l:List α) {k j:Nat} (hk:k=j) (y:α) (h:j < l.length):Bn (l.map f) k [f y]=(l.set j y).map f:=by
 subst hk
 unfold Bn
 rw[List.set_eq_take_append_cons_drop,if_pos h,List.map_append,List.map_cons,List.map_take,List.map_drop]
 rfl
theorem Yy {α:Type} (l:List α) (i:Nat) (x y:α):(l.set i x).set i y=l.set i y:=List.set_set ..
theorem Kf {u:Ak} {c c':Ac} {t n cp cr cb:Nat} {o5 o6 o5' o6':Ob} {MV:AV} {RH PC' BF':List AV} {D:List AV} {X:Hp} (hO:Jw c t o5 o6 MV RH n cp cr cb) (lr:c.regs.length=n) (lb:c.buf.length=n)
 (h3:PC'=iL c'.pc) (l3:c'.pc.length=n) (h4:BF'=c'.buf.map aEs) (l4:c'.buf.length=n)
 (hm:(c.mem=[]→c'.mem=[] )∧(∀ cm,o5=.var 1000001 (iL c.mem)→MV=.vsl 5 0 c.mem.length cm→c'.mem.length=c.mem.length∧o5'=.var 1000001 (iL c'.mem)))
 (hr:∀ row,c.regs[t]?=some row→∃ row',c'.regs=c.regs.set t row'∧row'.length=row.length∧(o6=.var 1000001 (iL row)→o6'=.var 1000001 (iL row'))) :
 En c' t (Bb u c D PC' BF' o5' o6' RH D++X) MV n cp cr cb:=by
 obtain⟨row,e1,e2⟩:=hO.row
 obtain⟨row',f1,f2,f3⟩:=hr row e1
 have ht:t < c.regs.length:=(List.getElem?_eq_some_iff.1 e1).1
 refine⟨by rw[h3];rfl,by rw[h4];rfl,?_,?_,l3,by rw[f1,List.length_set,lr],l4,hO.hcp,hO.hcr,hO.hcb⟩
 ·rcases hO.mem with ⟨k1,k2,k3⟩ | ⟨cm,k1,k2,k3,k4⟩
  ·exact .inl ⟨k3,hm.1 k1⟩
  ·obtain⟨m1,m2⟩:=hm.2 cm k3 k4
   exact .inr ⟨cm,by omega,k2,by rw[m1];exact k4,by rw[m2];rfl⟩
 ·rcases e2 with ⟨k1,k2,k3⟩ | ⟨ct,k1,k2,k3,k4⟩
  ·refine⟨.sl 1 [],row',by rw[f1];exact List.getElem?_set_self ht,?_,.inl ⟨rfl,?_⟩⟩
   ·rw[f1,List.map_set,Yy,k3];rfl
   ·rw[k1] at f2;exact List.eq_nil_of_length_eq_zero f2
  ·refine⟨.vsl 6 0 row'.length ct,row',by rw[f1];exact List.getElem?_set_self ht,?_,?_⟩
   ·rw[f1,List.map_set,Yy,f2,k4];rfl
   ·exact .inr ⟨ct,by omega,k2,rfl,by rw[f3 k3];rfl⟩
theorem Wr (f:FuncId) (args:List AV):cN XB0 1500 false f args []=Al Tryz.prog HH XB0 1500 f args []:=rfl
theorem Al3 {c:Ac} {t:Nat} {row:List Int} (h:c.regs[t]?=some row):c.regs=c.regs.set t row:=by
 obtain⟨h1,rfl⟩:=List.getElem?_eq_some_iff.1 h
 exact(List.set_getElem_self h1).symm
abbrev cD (n cp cr cb:Nat) (MV:AV):List AV:=[.vsl 3 0 n cp,.vsl 7 0 n cr,MV,.vsl 4 0 n cb]
theorem An2 {u:Ak} {c:Ac} {m r:Int} {t n cp cr cb:Nat} {o5 o6:Ob} {MV:AV} {RH:List AV} (hO:Jw c t o5 o6 MV RH n cp cr cb) (lr:c.regs.length=n) (lb:c.buf.length=n)
 (h1:cN XB0 1500 false 80 [.agg [.int .i64 u.mod,.sl 1 (u.init.map A0),.sl 1 (u.regs.map A0),.sl 1 (u.code.map Ah)],.agg [.sl 1 (c.pc.map A0),.sl 1 (c.regs.map Ag),.sl 1 (c.mem.map A0),.sl 1 (c.buf.map An)],.int .i64 m,.int .i64 r,.int .i64 (t:Int)] []=some (.bool false,[])) :
 ∃ hp',Bc (cN XB0 1500) u c m r t (Bb u c C6 (iL c.pc) (c.buf.map aEs) o5 o6 RH (cD n cp cr cb MV))=some (.tup [.agg (cD n cp cr cb MV),.bool false],hp')∧En c t hp' MV n cp cr cb:=by
 have hE:En c t (Bb u c (cD n cp cr cb MV) (iL c.pc) (c.buf.map aEs) o5 o6 RH (cD n cp cr cb MV)++[]) MV n cp cr cb:=Kf hO lr lb rfl hO.hn rfl lb ⟨fun h=>h,fun cm h _=>⟨rfl,h⟩⟩ fun row h=>⟨row,Al3 h,rfl,fun h=>h⟩
 rw[List.append_nil] at hE
 obtain⟨row,e1,e2⟩:=hO.row
 rcases hO.mem with ⟨k1,rfl,rfl⟩ | ⟨cm,k1,k2,rfl,rfl⟩<;>rcases e2 with ⟨j1,rfl,j3⟩ | ⟨ct,j1,j2,rfl,j4⟩
 ·exact⟨_,Af5 u c m r t n cp cr cb 0 0 0 0 _ _ [] [] RH [] _ h1,hE⟩
 ·exact⟨_,Afs u c m r t n cp cr cb 0 0 0 0 _ _ [] _ RH [] _ h1,hE⟩
 ·exact⟨_,Adl u c m r t n cp cr cb cm 0 0 _ _ _ _ [] RH [] _ h1,hE⟩
 ·exact⟨_,Acx u c m r t n cp cr cb cm 0 0 _ _ _ _ _ RH [] _ h1,hE⟩
structure StepF (u:Ak) (c:Ac) (m r:Int) (t:Nat) (code:List Ay) (x:Ay) (p:Nat) (e:Int) (row:List Int) (b:List A2):Prop where
 h1:cN XB0 1500 false 80 [.agg [.int .i64 u.mod,.sl 1 (u.init.map A0),.sl 1 (u.regs.map A0),.sl 1 (u.code.map Ah)],.agg [.sl 1 (c.pc.map A0),.sl 1 (c.regs.map Ag),.sl 1 (c.mem.map A0),.sl 1 (c.buf.map An)],.int .i64 m,.int .i64 r,.int .i64 (t:Int)] []=some (.bool true,[])
 h2:cN XB0 1500 false 82 [.agg [.int .i64 u.mod,.sl 1 (u.init.map A0),.sl 1 (u.regs.map A0),.sl 1 (u.code.map Ah)],.agg [.sl 1 (c.pc.map A0),.sl 1 (c.regs.map Ag),.sl 1 (c.mem.map A0),.sl 1 (c.buf.map An)],.int .i64 (t:Int),.sl 3 (x.e.map C0)] []=some (.int .i64 e,[])
 fcode:u.code[t]?=some code
 fpc:c.pc[t]?=some (p:Int)
 fx:code[p]?=some x
 frow:c.regs[t]?=some row
 fbuf:c.buf[t]?=some b
 ew:p < 1000000
section
variable {u:Ak} {c:Ac} {m r:Int} {t:Nat} {code:List Ay} {x:Ay} {p:Nat} {e:Int} {row:List Int} {b:List A2}
theorem StepF.gc (F:StepF u c m r t code x p e row b):nth? (u.code.map Ah) ((t:Int)).toNat=some (Ah code):=by rw[Int.toNat_natCast,nth?_eq,List.getElem?_map,F.fcode];rfl
theorem StepF.gp (F:StepF u c m r t code x p e row b):nth? (c.pc.map A0) ((t:Int)).toNat=some [.int .i64 (p:Int)]:=by rw[Int.toNat_natCast,nth?_eq,List.getElem?_map,F.fpc];rfl
theorem StepF.gx (F:StepF u c m r t code x p e row b):nth? (code.map Bx) ((p:Int)).toNat=some (Bx x):=by rw[Int.toNat_natCast,nth?_eq,List.getElem?_map,F.fx];rfl
theorem StepF.gb (F:StepF u c m r t code x p e row b):nth? (c.buf.map An) ((t:Int)).toNat=some [.sl 2 (b.map At)]:=by rw[Int.toNat_natCast,nth?_eq,List.getElem?_map,F.fbuf];rfl
theorem StepF.b1 (F:StepF u c m r t code x p e row b):t < u.code.length:=(List.getElem?_eq_some_iff.1 F.fcode).1
theorem StepF.b2 (F:StepF u c m r t code x p e row b):t < c.pc.length:=(List.getElem?_eq_some_iff.1 F.fpc).1
theorem StepF.b3 (F:StepF u c m r t code x p e row b):p < code.length:=(List.getElem?_eq_some_iff.1 F.fx).1
theorem StepF.b5 (F:StepF u c m r t code x p e row b):t < c.buf.length:=(List.getElem?_eq_some_iff.1 F.fbuf).1
theorem StepF.w (F:StepF u c m r t code x p e row b):IntKind.i64.wrap ((p:Int)+1)=((p+1:Nat):Int):=by have:=F.ew;rw[G3 (by omega)];omega
theorem StepF.sb (F:StepF u c m r t code x p e row b):c.buf.map aEs=(c.buf.set t b).map aEs:=by
 obtain⟨h1,h2⟩:=List.getElem?_eq_some_iff.1 F.fbuf
 rw[← h2,List.set_getElem_self h1]
theorem StepF.p1 (F:StepF u c m r t code x p e row b) (v:Int):Bn (iL c.pc) (0+((t:Int)).toNat) [.int .i64 v]=iL (c.pc.set t v):=M8 (AV.int .i64) c.pc (by simp) v F.b2
theorem StepF.p2 (F:StepF u c m r t code x p e row b) (v v':Int):Bn (Bn (iL c.pc) (0+((t:Int)).toNat) [.int .i64 v]) (0+((t:Int)).toNat) [.int .i64 v']=iL (c.pc.set t v'):=by
 rw[F.p1 v,M8 (AV.int .i64) (c.pc.set t v) (j:=t) (by simp) v' (by rw[List.length_set];exact F.b2),Yy]
end
theorem Jd (l:List Int) {k:Int} (v:Int) (h0:0≤k) (h:k < l.length):Bn (iL l) (0+k.toNat) [.int .i64 v]=iL (l.set k.toNat v):=M8 (AV.int .i64) l (by simp) v (by omega)
theorem Ma {c:Ac} {t:Nat} {a:AV} (h:t < c.regs.length):List.take 1 (List.drop (0+((t:Int)).toNat) ((c.regs.map aIs).set t a))=[a]:=by
 have e:0+((t:Int)).toNat=t:=by simp
 rw[e]
 have h1:t < ((c.regs.map aIs).set t a).length:=by simp;exact h
 rw[List.drop_eq_getElem_cons h1]
 simp
theorem Ak8 {u:Ak} {c:Ac} {m r:Int} {t n cp cr cb:Nat} {o5 o6:Ob} {MV:AV} {RH:List AV} {code:List Ay} {x:Ay} {p:Nat} {e:Int} {row:List Int} {b:List A2} (F:StepF u c m r t code x p e row b) (hO:Jw c t o5 o6 MV RH n cp cr cb) (lr:c.regs.length=n) (lb:c.buf.length=n)
 (n20:¬ x.op=20) (n21:¬ x.op=21) (n2:¬ x.op=2) (n3:¬ x.op=3) (n4:¬ x.op=4) (n5:¬ x.op=5) (n6:¬ x.op=6) (n7:¬ x.op=7) :
 ∃ hp',Bc (cN XB0 1500) u c m r t (Bb u c C6 (iL c.pc) (c.buf.map aEs) o5 o6 RH (cD n cp cr cb MV))=some (.tup [.agg (cD n cp cr cb MV),.bool true],hp')∧En ⟨c.pc.set t ((p+1:Nat):Int),c.regs.set t row,c.mem,c.buf.set t b⟩ t hp' MV n cp cr cb:=by
 have hn:=hO.hn
 have hE:∀ o5' o6' PC' BF',PC'=iL (c.pc.set t ((p+1:Nat):Int))→BF'=(c.buf.set t b).map aEs→(o5'=o5)→(o6'=o6)→En ⟨c.pc.set t ((p+1:Nat):Int),c.regs.set t row,c.mem,c.buf.set t b⟩ t (Bb u c (cD n cp cr cb MV) PC' BF' o5' o6' RH (cD n cp cr cb MV)++[Dr x]) MV n cp cr cb:=fun o5' o6' PC' BF' h3 h4 h5 h6=>Kf hO lr lb h3 (by simp;exact hn) h4 (by simp;exact lb) (⟨fun h=>h,fun cm h _=>⟨rfl,h5.trans h⟩⟩) (fun row0 h=>by
  have:=h.symm.trans F.frow
  cases this
  exact⟨row,rfl,rfl,fun h=>h6.trans h⟩)
 obtain⟨row1,e1,e2⟩:=hO.row
 obtain rfl:row=row1:=by have:=F.frow.symm.trans e1;cases this;rfl
 have tr:t < c.regs.length:=(List.getElem?_eq_some_iff.1 e1).1
 have lp:(iL c.pc).length=n:=by simp;exact hn
 have b4:t < n:=by have:=F.b2;omega
 rcases hO.mem with ⟨k1,rfl,rfl⟩ | ⟨cm,k1,k2,rfl,rfl⟩<;>rcases e2 with ⟨j1,rfl,j3⟩ | ⟨ct,j1,j2,rfl,j4⟩
 ·exact⟨_,Ab2 u c m r t n cp cr cb 0 0 0 0 _ _ [] [] RH [] _ code x p e F.h1 F.h2 F.gc F.gp F.gx F.b1 F.b2 F.b3 b4 lp F.w n20 n21 n2 n3 n4 n5 n6 n7,hE _ _ _ _ (F.p1 _) (F.sb) rfl rfl⟩
 ·exact⟨_,Ab0 u c m r t n cp cr cb 0 ct row.length 0 _ _ [] _ RH [] _ code x p e F.h1 F.h2 F.gc F.gp F.gx F.b1 F.b2 F.b3 b4 lp F.w n20 n21 n2 n3 n4 n5 n6 n7,hE _ _ _ _ (F.p1 _) (F.sb) rfl rfl⟩
 ·exact⟨_,Abn u c m r t n cp cr cb cm 0 0 c.mem.length _ _ _ [] RH [] _ code x p e F.h1 F.h2 F.gc F.gp F.gx F.b1 F.b2 F.b3 b4 lp F.w n20 n21 n2 n3 n4 n5 n6 n7,hE _ _ _ _ (F.p1 _) (F.sb) rfl rfl⟩
 ·exact⟨_,Abr u c m r t n cp cr cb cm ct row.length c.mem.length _ _ _ _ RH [] _ code x p e F.h1 F.h2 F.gc F.gp F.gx F.b1 F.b2 F.b3 b4 lp F.w n20 n21 n2 n3 n4 n5 n6 n7,hE _ _ _ _ (F.p1 _) (F.sb) rfl rfl⟩
theorem Ai9 {u:Ak} {c:Ac} {m r:Int} {t n cp cr cb:Nat} {o5 o6:Ob} {MV:AV} {RH:List AV} {code:List Ay} {x:Ay} {p:Nat} {e:Int} {row:List Int} {b:List A2} (F:StepF u c m r t code x p e row b) (hO:Jw c t o5 o6 MV RH n cp cr cb) (lr:c.regs.length=n) (lb:c.buf.length=n)
 (hx:x.op=20) :
 ∃ hp',Bc (cN XB0 1500) u c m r t (Bb u c C6 (iL c.pc) (c.buf.map aEs) o5 o6 RH (cD n cp cr cb MV))=some (.tup [.agg (cD n cp cr cb MV),.bool true],hp')∧En ⟨c.pc.set t x.goal,c.regs.set t row,c.mem,c.buf.set t b⟩ t hp' MV n cp cr cb:=by
 have hn:=hO.hn
 have hE:∀ o5' o6' PC' BF',PC'=iL (c.pc.set t x.goal)→BF'=(c.buf.set t b).map aEs→(o5'=o5)→(o6'=o6)→En ⟨c.pc.set t x.goal,c.regs.set t row,c.mem,c.buf.set t b⟩ t (Bb u c (cD n cp cr cb MV) PC' BF' o5' o6' RH (cD n cp cr cb MV)++[Dr x]) MV n cp cr cb:=fun o5' o6' PC' BF' h3 h4 h5 h6=>Kf hO lr lb h3 (by simp;exact hn) h4 (by simp;exact lb) (⟨fun h=>h,fun cm h _=>⟨rfl,h5.trans h⟩⟩) (fun row0 h=>by
  have:=h.symm.trans F.frow
  cases this
  exact⟨row,rfl,rfl,fun h=>h6.trans h⟩)
 obtain⟨row1,e1,e2⟩:=hO.row
 obtain rfl:row=row1:=by have:=F.frow.symm.trans e1;cases this;rfl
 have tr:t < c.regs.length:=(List.getElem?_eq_some_iff.1 e1).1
 have lp:(iL c.pc).length=n:=by simp;exact hn
 have b4:t < n:=by have:=F.b2;omega
 rcases hO.mem with ⟨k1,rfl,rfl⟩ | ⟨cm,k1,k2,rfl,rfl⟩<;>rcases e2 with ⟨j1,rfl,j3⟩ | ⟨ct,j1,j2,rfl,j4⟩
 ·exact⟨_,Aar u c m r t n cp cr cb 0 0 0 0 _ _ [] [] RH [] _ code x p e F.h1 F.h2 F.gc F.gp F.gx F.b1 F.b2 F.b3 b4 lp F.w hx,hE _ _ _ _ (F.p2 _ _) (F.sb) rfl rfl⟩
 ·exact⟨_,Aaq u c m r t n cp cr cb 0 ct row.length 0 _ _ [] _ RH [] _ code x p e F.h1 F.h2 F.gc F.gp F.gx F.b1 F.b2 F.b3 b4 lp F.w hx,hE _ _ _ _ (F.p2 _ _) (F.sb) rfl rfl⟩
 ·exact⟨_,Aax u c m r t n cp cr cb cm 0 0 c.mem.length _ _ _ [] RH [] _ code x p e F.h1 F.h2 F.gc F.gp F.gx F.b1 F.b2 F.b3 b4 lp F.w hx,hE _ _ _ _ (F.p2 _ _) (F.sb) rfl rfl⟩
 ·exact⟨_,Aba u c m r t n cp cr cb cm ct row.length c.mem.length _ _ _ _ RH [] _ code x p e F.h1 F.h2 F.gc F.gp F.gx F.b1 F.b2 F.b3 b4 lp F.w hx,hE _ _ _ _ (F.p2 _ _) (F.sb) rfl rfl⟩
theorem Aql {u:Ak} {c:Ac} {m r:Int} {t n cp cr cb:Nat} {o5 o6:Ob} {MV:AV} {RH:List AV} {code:List Ay} {x:Ay} {p:Nat} {e:Int} {row:List Int} {b:List A2} (F:StepF u c m r t code x p e row b) (hO:Jw c t o5 o6 MV RH n cp cr cb) (lr:c.regs.length=n) (lb:c.buf.length=n)
 (hx:x.op=21) (he:e=0) :
 ∃ hp',Bc (cN XB0 1500) u c m r t (Bb u c C6 (iL c.pc) (c.buf.map aEs) o5 o6 RH (cD n cp cr cb MV))=some (.tup [.agg (cD n cp cr cb MV),.bool true],hp')∧En ⟨c.pc.set t x.goal,c.regs.set t row,c.mem,c.buf.set t b⟩ t hp' MV n cp cr cb:=by
 have hn:=hO.hn
 have hE:∀ o5' o6' PC' BF',PC'=iL (c.pc.set t x.goal)→BF'=(c.buf.set t b).map aEs→(o5'=o5)→(o6'=o6)→En ⟨c.pc.set t x.goal,c.regs.set t row,c.mem,c.buf.set t b⟩ t (Bb u c (cD n cp cr cb MV) PC' BF' o5' o6' RH (cD n cp cr cb MV)++[Dr x]) MV n cp cr cb:=fun o5' o6' PC' BF' h3 h4 h5 h6=>Kf hO lr lb h3 (by simp;exact hn) h4 (by simp;exact lb) (⟨fun h=>h,fun cm h _=>⟨rfl,h5.trans h⟩⟩) (fun row0 h=>by
  have:=h.symm.trans F.frow
  cases this
  exact⟨row,rfl,rfl,fun h=>h6.trans h⟩)
 obtain⟨row1,e1,e2⟩:=hO.row
 obtain rfl:row=row1:=by have:=F.frow.symm.trans e1;cases this;rfl
 have tr:t < c.regs.length:=(List.getElem?_eq_some_iff.1 e1).1
 have lp:(iL c.pc).length=n:=by simp;exact hn
 have b4:t < n:=by have:=F.b2;omega
 rcases hO.mem with ⟨k1,rfl,rfl⟩ | ⟨cm,k1,k2,rfl,rfl⟩<;>rcases e2 with ⟨j1,rfl,j3⟩ | ⟨ct,j1,j2,rfl,j4⟩
 ·exact⟨_,Ajq u c m r t n cp cr cb 0 0 0 0 _ _ [] [] RH [] _ code x p e F.h1 F.h2 F.gc F.gp F.gx F.b1 F.b2 F.b3 b4 lp F.w hx he,hE _ _ _ _ (F.p2 _ _) (F.sb) rfl rfl⟩
 ·exact⟨_,Ak9 u c m r t n cp cr cb 0 ct row.length 0 _ _ [] _ RH [] _ code x p e F.h1 F.h2 F.gc F.gp F.gx F.b1 F.b2 F.b3 b4 lp F.w hx he,hE _ _ _ _ (F.p2 _ _) (F.sb) rfl rfl⟩
 ·exact⟨_,Ajw u c m r t n cp cr cb cm 0 0 c.mem.length _ _ _ [] RH [] _ code x p e F.h1 F.h2 F.gc F.gp F.gx F.b1 F.b2 F.b3 b4 lp F.w hx he,hE _ _ _ _ (F.p2 _ _) (F.sb) rfl rfl⟩
 ·exact⟨_,Ahy u c m r t n cp cr cb cm ct row.length c.mem.length _ _ _ _ RH [] _ code x p e F.h1 F.h2 F.gc F.gp F.gx F.b1 F.b2 F.b3 b4 lp F.w hx he,hE _ _ _ _ (F.p2 _ _) (F.sb) rfl rfl⟩
theorem Ao7 {u:Ak} {c:Ac} {m r:Int} {t n cp cr cb:Nat} {o5 o6:Ob} {MV:AV} {RH:List AV} {code:List Ay} {x:Ay} {p:Nat} {e:Int} {row:List Int} {b:List A2} (F:StepF u c m r t code x p e row b) (hO:Jw c t o5 o6 MV RH n cp cr cb) (lr:c.regs.length=n) (lb:c.buf.length=n)
 (hx:x.op=21) (he:¬ e=0) :
 ∃ hp',Bc (cN XB0 1500) u c m r t (Bb u c C6 (iL c.pc) (c.buf.map aEs) o5 o6 RH (cD n cp cr cb MV))=some (.tup [.agg (cD n cp cr cb MV),.bool true],hp')∧En ⟨c.pc.set t ((p+1:Nat):Int),c.regs.set t row,c.mem,c.buf.set t b⟩ t hp' MV n cp cr cb:=by
 have hn:=hO.hn
 have hE:∀ o5' o6' PC' BF',PC'=iL (c.pc.set t ((p+1:Nat):Int))→BF'=(c.buf.set t b).map aEs→(o5'=o5)→(o6'=o6)→En ⟨c.pc.set t ((p+1:Nat):Int),c.regs.set t row,c.mem,c.buf.set t b⟩ t (Bb u c (cD n cp cr cb MV) PC' BF' o5' o6' RH (cD n cp cr cb MV)++[Dr x]) MV n cp cr cb:=fun o5' o6' PC' BF' h3 h4 h5 h6=>Kf hO lr lb h3 (by simp;exact hn) h4 (by simp;exact lb) (⟨fun h=>h,fun cm h _=>⟨rfl,h5.trans h⟩⟩) (fun row0 h=>by
  have:=h.symm.trans F.frow
  cases this
  exact⟨row,rfl,rfl,fun h=>h6.trans h⟩)
 obtain⟨row1,e1,e2⟩:=hO.row
 obtain rfl:row=row1:=by have:=F.frow.symm.trans e1;cases this;rfl
 have tr:t < c.regs.length:=(List.getElem?_eq_some_iff.1 e1).1
 have lp:(iL c.pc).length=n:=by simp;exact hn
 have b4:t < n:=by have:=F.b2;omega
 rcases hO.mem with ⟨k1,rfl,rfl⟩ | ⟨cm,k1,k2,rfl,rfl⟩<;>rcases e2 with ⟨j1,rfl,j3⟩ | ⟨ct,j1,j2,rfl,j4⟩
 ·exact⟨_,Acw u c m r t n cp cr cb 0 0 0 0 _ _ [] [] RH [] _ code x p e F.h1 F.h2 F.gc F.gp F.gx F.b1 F.b2 F.b3 b4 lp F.w hx he,hE _ _ _ _ (F.p1 _) (F.sb) rfl rfl⟩
 ·exact⟨_,Ag7 u c m r t n cp cr cb 0 ct row.length 0 _ _ [] _ RH [] _ code x p e F.h1 F.h2 F.gc F.gp F.gx F.b1 F.b2 F.b3 b4 lp F.w hx he,hE _ _ _ _ (F.p1 _) (F.sb) rfl rfl⟩
 ·exact⟨_,Ado u c m r t n cp cr cb cm 0 0 c.mem.length _ _ _ [] RH [] _ code x p e F.h1 F.h2 F.gc F.gp F.gx F.b1 F.b2 F.b3 b4 lp F.w hx he,hE _ _ _ _ (F.p1 _) (F.sb) rfl rfl⟩
 ·exact⟨_,Afk u c m r t n cp cr cb cm ct row.length c.mem.length _ _ _ _ RH [] _ code x p e F.h1 F.h2 F.gc F.gp F.gx F.b1 F.b2 F.b3 b4 lp F.w hx he,hE _ _ _ _ (F.p1 _) (F.sb) rfl rfl⟩
theorem Agl {u:Ak} {c:Ac} {m r:Int} {t n cp cr cb:Nat} {o5 o6:Ob} {MV:AV} {RH:List AV} {code:List Ay} {x:Ay} {p:Nat} {e:Int} {row:List Int} {b:List A2} (F:StepF u c m r t code x p e row b) (hO:Jw c t o5 o6 MV RH n cp cr cb) (lr:c.regs.length=n) (lb:c.buf.length=n)
 (hx:x.op=4) (hm:¬ m=1) (b2:List A2) (h3:cN XB0 1500 false 84 [.sl 2 (b.map At),.int .i64 m,.agg [.int .i64 x.loc,.int .i64 e]] []=some (.sl 2 (b2.map At),[])) :
 ∃ hp',Bc (cN XB0 1500) u c m r t (Bb u c C6 (iL c.pc) (c.buf.map aEs) o5 o6 RH (cD n cp cr cb MV))=some (.tup [.agg (cD n cp cr cb MV),.bool true],hp')∧En ⟨c.pc.set t ((p+1:Nat):Int),c.regs.set t row,c.mem,c.buf.set t b2⟩ t hp' MV n cp cr cb:=by
 have hn:=hO.hn
 have hE:∀ o5' o6' PC' BF',PC'=iL (c.pc.set t ((p+1:Nat):Int))→BF'=(c.buf.set t b2).map aEs→(o5'=o5)→(o6'=o6)→En ⟨c.pc.set t ((p+1:Nat):Int),c.regs.set t row,c.mem,c.buf.set t b2⟩ t (Bb u c (cD n cp cr cb MV) PC' BF' o5' o6' RH (cD n cp cr cb MV)++[Dr x]) MV n cp cr cb:=fun o5' o6' PC' BF' h3 h4 h5 h6=>Kf hO lr lb h3 (by simp;exact hn) h4 (by simp;exact lb) (⟨fun h=>h,fun cm h _=>⟨rfl,h5.trans h⟩⟩) (fun row0 h=>by
  have:=h.symm.trans F.frow
  cases this
  exact⟨row,rfl,rfl,fun h=>h6.trans h⟩)
 obtain⟨row1,e1,e2⟩:=hO.row
 obtain rfl:row=row1:=by have:=F.frow.symm.trans e1;cases this;rfl
 have tr:t < c.regs.length:=(List.getElem?_eq_some_iff.1 e1).1
 have lp:(iL c.pc).length=n:=by simp;exact hn
 have b4:t < n:=by have:=F.b2;omega
 rcases hO.mem with ⟨k1,rfl,rfl⟩ | ⟨cm,k1,k2,rfl,rfl⟩<;>rcases e2 with ⟨j1,rfl,j3⟩ | ⟨ct,j1,j2,rfl,j4⟩
 ·exact⟨_,Aaw u c m r t n cp cr cb 0 0 0 0 _ _ [] [] RH [] _ code x p e F.h1 F.h2 F.gc F.gp F.gx F.b1 F.b2 F.b3 b4 lp F.w hx hm b b2 F.gb F.b5 (by rw[A5];exact lb) h3,hE _ _ _ _ (F.p1 _) (M8 aEs c.buf (by simp) b2 F.b5) rfl rfl⟩
 ·exact⟨_,Abs u c m r t n cp cr cb 0 ct row.length 0 _ _ [] _ RH [] _ code x p e F.h1 F.h2 F.gc F.gp F.gx F.b1 F.b2 F.b3 b4 lp F.w hx hm b b2 F.gb F.b5 (by rw[A5];exact lb) h3,hE _ _ _ _ (F.p1 _) (M8 aEs c.buf (by simp) b2 F.b5) rfl rfl⟩
 ·exact⟨_,Abj u c m r t n cp cr cb cm 0 0 c.mem.length _ _ _ [] RH [] _ code x p e F.h1 F.h2 F.gc F.gp F.gx F.b1 F.b2 F.b3 b4 lp F.w hx hm b b2 F.gb F.b5 (by rw[A5];exact lb) h3,hE _ _ _ _ (F.p1 _) (M8 aEs c.buf (by simp) b2 F.b5) rfl rfl⟩
 ·exact⟨_,Abx u c m r t n cp cr cb cm ct row.length c.mem.length _ _ _ _ RH [] _ code x p e F.h1 F.h2 F.gc F.gp F.gx F.b1 F.b2 F.b3 b4 lp F.w hx hm b b2 F.gb F.b5 (by rw[A5];exact lb) h3,hE _ _ _ _ (F.p1 _) (M8 aEs c.buf (by simp) b2 F.b5) rfl rfl⟩
theorem Anq {u:Ak} {c:Ac} {m r:Int} {t n cp cr cb:Nat} {o5 o6:Ob} {MV:AV} {RH:List AV} {code:List Ay} {x:Ay} {p:Nat} {e:Int} {row:List Int} {b:List A2} (F:StepF u c m r t code x p e row b) (hO:Jw c t o5 o6 MV RH n cp cr cb) (lr:c.regs.length=n) (lb:c.buf.length=n)
 (hx:x.op=2) (hr0:0≤x.reg) (hr1:x.reg < row.length) :
 ∃ hp',Bc (cN XB0 1500) u c m r t (Bb u c C6 (iL c.pc) (c.buf.map aEs) o5 o6 RH (cD n cp cr cb MV))=some (.tup [.agg (cD n cp cr cb MV),.bool true],hp')∧En ⟨c.pc.set t ((p+1:Nat):Int),c.regs.set t (row.set x.reg.toNat e),c.mem,c.buf.set t b⟩ t hp' MV n cp cr cb:=by
 have hn:=hO.hn
 have hE:∀ o5' o6' PC' BF',PC'=iL (c.pc.set t ((p+1:Nat):Int))→BF'=(c.buf.set t b).map aEs→(o5'=o5)→(o6=.var 1000001 (iL row)→o6'=.var 1000001 (iL (row.set x.reg.toNat e)))→En ⟨c.pc.set t ((p+1:Nat):Int),c.regs.set t (row.set x.reg.toNat e),c.mem,c.buf.set t b⟩ t (Bb u c (cD n cp cr cb MV) PC' BF' o5' o6' RH (cD n cp cr cb MV)++[Dr x]) MV n cp cr cb:=fun o5' o6' PC' BF' h3 h4 h5 h6=>Kf hO lr lb h3 (by simp;exact hn) h4 (by simp;exact lb) (⟨fun h=>h,fun cm h _=>⟨rfl,h5.trans h⟩⟩) (fun row0 h=>by
  have:=h.symm.trans F.frow
  cases this
  exact⟨(row.set x.reg.toNat e),rfl,List.length_set ..,h6⟩)
 obtain⟨row1,e1,e2⟩:=hO.row
 obtain rfl:row=row1:=by have:=F.frow.symm.trans e1;cases this;rfl
 have tr:t < c.regs.length:=(List.getElem?_eq_some_iff.1 e1).1
 have lp:(iL c.pc).length=n:=by simp;exact hn
 have b4:t < n:=by have:=F.b2;omega
 rcases hO.mem with ⟨k1,rfl,rfl⟩ | ⟨cm,k1,k2,rfl,rfl⟩<;>rcases e2 with ⟨j1,rfl,j3⟩ | ⟨ct,j1,j2,rfl,j4⟩
 ·subst j1;simp at hr1;omega
 ·exact⟨_,Ag0 u c m r t n cp cr cb 0 ct row.length 0 _ _ [] _ RH [] _ code x p e F.h1 F.h2 F.gc F.gp F.gx F.b1 F.b2 F.b3 b4 lp F.w hx (by rw[j4];simp;exact lr) (by rw[j4];exact Ma tr) (by simp) hr0 hr1,hE _ _ _ _ (F.p1 _) (F.sb) rfl (fun _=>by rw[Jd _ _ hr0 hr1])⟩
 ·subst j1;simp at hr1;omega
 ·exact⟨_,Afr u c m r t n cp cr cb cm ct row.length c.mem.length _ _ _ _ RH [] _ code x p e F.h1 F.h2 F.gc F.gp F.gx F.b1 F.b2 F.b3 b4 lp F.w hx (by rw[j4];simp;exact lr) (by rw[j4];exact Ma tr) (by simp) hr0 hr1,hE _ _ _ _ (F.p1 _) (F.sb) rfl (fun _=>by rw[Jd _ _ hr0 hr1])⟩
theorem Aj3 {u:Ak} {c:Ac} {m r:Int} {t n cp cr cb:Nat} {o5 o6:Ob} {MV:AV} {RH:List AV} {code:List Ay} {x:Ay} {p:Nat} {e:Int} {row:List Int} {b:List A2} (F:StepF u c m r t code x p e row b) (hO:Jw c t o5 o6 MV RH n cp cr cb) (lr:c.regs.length=n) (lb:c.buf.length=n)
 (hx:x.op=3) (hr0:0≤x.reg) (hr1:x.reg < row.length) (d:Int) (h3:cN XB0 1500 false 83 [.agg [.sl 1 (c.pc.map A0),.sl 1 (c.regs.map Ag),.sl 1 (c.mem.map A0),.sl 1 (c.buf.map An)],.int .i64 (t:Int),.int .i64 x.loc] []=some (.int .i64 d,[])) :
 ∃ hp',Bc (cN XB0 1500) u c m r t (Bb u c C6 (iL c.pc) (c.buf.map aEs) o5 o6 RH (cD n cp cr cb MV))=some (.tup [.agg (cD n cp cr cb MV),.bool true],hp')∧En ⟨c.pc.set t ((p+1:Nat):Int),c.regs.set t (row.set x.reg.toNat d),c.mem,c.buf.set t b⟩ t hp' MV n cp cr cb:=by
 have hn:=hO.hn
 have hE:∀ o5' o6' PC' BF',PC'=iL (c.pc.set t ((p+1:Nat):Int))→BF'=(c.buf.set t b).map aEs→(o5'=o5)→(o6=.var 1000001 (iL row)→o6'=.var 1000001 (iL (row.set x.reg.toNat d)))→En ⟨c.pc.set t ((p+1:Nat):Int),c.regs.set t (row.set x.reg.toNat d),c.mem,c.buf.set t b⟩ t (Bb u c (cD n cp cr cb MV) PC' BF' o5' o6' RH (cD n cp cr cb MV)++[Dr x]) MV n cp cr cb:=fun o5' o6' PC' BF' h3 h4 h5 h6=>Kf hO lr lb h3 (by simp;exact hn) h4 (by simp;exact lb) (⟨fun h=>h,fun cm h _=>⟨rfl,h5.trans h⟩⟩) (fun row0 h=>by
  have:=h.symm.trans F.frow
  cases this
  exact⟨(row.set x.reg.toNat d),rfl,List.length_set ..,h6⟩)
 obtain⟨row1,e1,e2⟩:=hO.row
 obtain rfl:row=row1:=by have:=F.frow.symm.trans e1;cases this;rfl
 have tr:t < c.regs.length:=(List.getElem?_eq_some_iff.1 e1).1
 have lp:(iL c.pc).length=n:=by simp;exact hn
 have b4:t < n:=by have:=F.b2;omega
 rcases hO.mem with ⟨k1,rfl,rfl⟩ | ⟨cm,k1,k2,rfl,rfl⟩<;>rcases e2 with ⟨j1,rfl,j3⟩ | ⟨ct,j1,j2,rfl,j4⟩
 ·subst j1;simp at hr1;omega
 ·exact⟨_,Aas u c m r t n cp cr cb 0 ct row.length 0 _ _ [] _ RH [] _ code x p e F.h1 F.h2 F.gc F.gp F.gx F.b1 F.b2 F.b3 b4 lp F.w hx (by rw[j4];simp;exact lr) (by rw[j4];exact Ma tr) (by simp) hr0 hr1 d h3,hE _ _ _ _ (F.p1 _) (F.sb) rfl (fun _=>by rw[Jd _ _ hr0 hr1])⟩
 ·subst j1;simp at hr1;omega
 ·exact⟨_,Ab4 u c m r t n cp cr cb cm ct row.length c.mem.length _ _ _ _ RH [] _ code x p e F.h1 F.h2 F.gc F.gp F.gx F.b1 F.b2 F.b3 b4 lp F.w hx (by rw[j4];simp;exact lr) (by rw[j4];exact Ma tr) (by simp) hr0 hr1 d h3,hE _ _ _ _ (F.p1 _) (F.sb) rfl (fun _=>by rw[Jd _ _ hr0 hr1])⟩
theorem Aqz {u:Ak} {c:Ac} {m r:Int} {t n cp cr cb:Nat} {o5 o6:Ob} {MV:AV} {RH:List AV} {code:List Ay} {x:Ay} {p:Nat} {e:Int} {row:List Int} {b:List A2} (F:StepF u c m r t code x p e row b) (hO:Jw c t o5 o6 MV RH n cp cr cb) (lr:c.regs.length=n) (lb:c.buf.length=n)
 (hx:x.op=4) (hm:m=1) (hl0:0≤x.loc) (hl1:x.loc < c.mem.length) :
 ∃ hp',Bc (cN XB0 1500) u c m r t (Bb u c C6 (iL c.pc) (c.buf.map aEs) o5 o6 RH (cD n cp cr cb MV))=some (.tup [.agg (cD n cp cr cb MV),.bool true],hp')∧En ⟨c.pc.set t ((p+1:Nat):Int),c.regs.set t row,(c.mem.set x.loc.toNat e),c.buf.set t b⟩ t hp' MV n cp cr cb:=by
 have hn:=hO.hn
 have hE:∀ o5' o6' PC' BF',PC'=iL (c.pc.set t ((p+1:Nat):Int))→BF'=(c.buf.set t b).map aEs→(o5=.var 1000001 (iL c.mem)→o5'=.var 1000001 (iL (c.mem.set x.loc.toNat e)))→(o6'=o6)→En ⟨c.pc.set t ((p+1:Nat):Int),c.regs.set t row,(c.mem.set x.loc.toNat e),c.buf.set t b⟩ t (Bb u c (cD n cp cr cb MV) PC' BF' o5' o6' RH (cD n cp cr cb MV)++[Dr x]) MV n cp cr cb:=fun o5' o6' PC' BF' h3 h4 h5 h6=>Kf hO lr lb h3 (by simp;exact hn) h4 (by simp;exact lb) (⟨fun h=>by show(c.mem.set x.loc.toNat e)=[];rw[h];rfl,fun cm h _=>⟨List.length_set ..,h5 h⟩⟩) (fun row0 h=>by
  have:=h.symm.trans F.frow
  cases this
  exact⟨row,rfl,rfl,fun h=>h6.trans h⟩)
 obtain⟨row1,e1,e2⟩:=hO.row
 obtain rfl:row=row1:=by have:=F.frow.symm.trans e1;cases this;rfl
 have tr:t < c.regs.length:=(List.getElem?_eq_some_iff.1 e1).1
 have lp:(iL c.pc).length=n:=by simp;exact hn
 have b4:t < n:=by have:=F.b2;omega
 rcases hO.mem with ⟨k1,rfl,rfl⟩ | ⟨cm,k1,k2,rfl,rfl⟩<;>rcases e2 with ⟨j1,rfl,j3⟩ | ⟨ct,j1,j2,rfl,j4⟩
 ·rw[k1] at hl1;simp at hl1;omega
 ·rw[k1] at hl1;simp at hl1;omega
 ·exact⟨_,Aii u c m r t n cp cr cb cm 0 0 c.mem.length _ _ _ [] RH [] _ code x p e F.h1 F.h2 F.gc F.gp F.gx F.b1 F.b2 F.b3 b4 lp F.w hx hm (by simp) hl0 hl1,hE _ _ _ _ (F.p1 _) (F.sb) (fun _=>by rw[Jd _ _ hl0 hl1]) rfl⟩
 ·exact⟨_,Ahl u c m r t n cp cr cb cm ct row.length c.mem.length _ _ _ _ RH [] _ code x p e F.h1 F.h2 F.gc F.gp F.gx F.b1 F.b2 F.b3 b4 lp F.w hx hm (by simp) hl0 hl1,hE _ _ _ _ (F.p1 _) (F.sb) (fun _=>by rw[Jd _ _ hl0 hl1]) rfl⟩
theorem Aob {u:Ak} {c:Ac} {m r:Int} {t n cp cr cb:Nat} {o5 o6:Ob} {MV:AV} {RH:List AV} {code:List Ay} {x:Ay} {p:Nat} {e:Int} {row:List Int} {b:List A2} (F:StepF u c m r t code x p e row b) (hO:Jw c t o5 o6 MV RH n cp cr cb) (lr:c.regs.length=n) (lb:c.buf.length=n)
 (hx:x.op=5) (hr0:0≤x.reg) (hr1:x.reg < row.length) (hl0:0≤x.loc) (hl1:x.loc < c.mem.length) (v:Int) (gm:nth? (c.mem.map A0) x.loc.toNat=some [.int .i64 v]) (d:Int) (hv:v=e) (h3:cN XB0 1500 false 82 [.agg [.int .i64 u.mod,.sl 1 (u.init.map A0),.sl 1 (u.regs.map A0),.sl 1 (u.code.map Ah)],.agg [.sl 1 (c.pc.map A0),.sl 1 (c.regs.map Ag),.sl 1 (c.mem.map A0),.sl 1 (c.buf.map An)],.int .i64 (t:Int),.sl 3 (x.f.map C0)] []=some (.int .i64 d,[])) :
 ∃ hp',Bc (cN XB0 1500) u c m r t (Bb u c C6 (iL c.pc) (c.buf.map aEs) o5 o6 RH (cD n cp cr cb MV))=some (.tup [.agg (cD n cp cr cb MV),.bool true],hp')∧En ⟨c.pc.set t ((p+1:Nat):Int),c.regs.set t (row.set x.reg.toNat v),(c.mem.set x.loc.toNat d),c.buf.set t b⟩ t hp' MV n cp cr cb:=by
 have hn:=hO.hn
 have hE:∀ o5' o6' PC' BF',PC'=iL (c.pc.set t ((p+1:Nat):Int))→BF'=(c.buf.set t b).map aEs→(o5=.var 1000001 (iL c.mem)→o5'=.var 1000001 (iL (c.mem.set x.loc.toNat d)))→(o6=.var 1000001 (iL row)→o6'=.var 1000001 (iL (row.set x.reg.toNat v)))→En ⟨c.pc.set t ((p+1:Nat):Int),c.regs.set t (row.set x.reg.toNat v),(c.mem.set x.loc.toNat d),c.buf.set t b⟩ t (Bb u c (cD n cp cr cb MV) PC' BF' o5' o6' RH (cD n cp cr cb MV)++[Dr x]) MV n cp cr cb:=fun o5' o6' PC' BF' h3 h4 h5 h6=>Kf hO lr lb h3 (by simp;exact hn) h4 (by simp;exact lb) (⟨fun h=>by show(c.mem.set x.loc.toNat d)=[];rw[h];rfl,fun cm h _=>⟨List.length_set ..,h5 h⟩⟩) (fun row0 h=>by
  have:=h.symm.trans F.frow
  cases this
  exact⟨(row.set x.reg.toNat v),rfl,List.length_set ..,h6⟩)
 obtain⟨row1,e1,e2⟩:=hO.row
 obtain rfl:row=row1:=by have:=F.frow.symm.trans e1;cases this;rfl
 have tr:t < c.regs.length:=(List.getElem?_eq_some_iff.1 e1).1
 have lp:(iL c.pc).length=n:=by simp;exact hn
 have b4:t < n:=by have:=F.b2;omega
 rcases hO.mem with ⟨k1,rfl,rfl⟩ | ⟨cm,k1,k2,rfl,rfl⟩<;>rcases e2 with ⟨j1,rfl,j3⟩ | ⟨ct,j1,j2,rfl,j4⟩
 ·rw[k1] at hl1;simp at hl1;omega
 ·rw[k1] at hl1;simp at hl1;omega
 ·subst j1;simp at hr1;omega
 ·exact⟨_,Af4 u c m r t n cp cr cb cm ct row.length c.mem.length _ _ _ _ RH [] _ code x p e F.h1 F.h2 F.gc F.gp F.gx F.b1 F.b2 F.b3 b4 lp F.w hx (by rw[j4];simp;exact lr) (by rw[j4];exact Ma tr) (by simp) hr0 hr1 (by simp) hl0 hl1 v gm hl1 d hv h3,hE _ _ _ _ (F.p1 _) (F.sb) (fun _=>by rw[Jd _ _ hl0 hl1]) (fun _=>by rw[Jd _ _ hr0 hr1])⟩
theorem Aj5 {u:Ak} {c:Ac} {m r:Int} {t n cp cr cb:Nat} {o5 o6:Ob} {MV:AV} {RH:List AV} {code:List Ay} {x:Ay} {p:Nat} {e:Int} {row:List Int} {b:List A2} (F:StepF u c m r t code x p e row b) (hO:Jw c t o5 o6 MV RH n cp cr cb) (lr:c.regs.length=n) (lb:c.buf.length=n)
 (hx:x.op=5) (hr0:0≤x.reg) (hr1:x.reg < row.length) (hl0:0≤x.loc) (hl1:x.loc < c.mem.length) (v:Int) (gm:nth? (c.mem.map A0) x.loc.toNat=some [.int .i64 v]) (hv:¬ v=e) :
 ∃ hp',Bc (cN XB0 1500) u c m r t (Bb u c C6 (iL c.pc) (c.buf.map aEs) o5 o6 RH (cD n cp cr cb MV))=some (.tup [.agg (cD n cp cr cb MV),.bool true],hp')∧En ⟨c.pc.set t ((p+1:Nat):Int),c.regs.set t (row.set x.reg.toNat v),c.mem,c.buf.set t b⟩ t hp' MV n cp cr cb:=by
 have hn:=hO.hn
 have hE:∀ o5' o6' PC' BF',PC'=iL (c.pc.set t ((p+1:Nat):Int))→BF'=(c.buf.set t b).map aEs→(o5'=o5)→(o6=.var 1000001 (iL row)→o6'=.var 1000001 (iL (row.set x.reg.toNat v)))→En ⟨c.pc.set t ((p+1:Nat):Int),c.regs.set t (row.set x.reg.toNat v),c.mem,c.buf.set t b⟩ t (Bb u c (cD n cp cr cb MV) PC' BF' o5' o6' RH (cD n cp cr cb MV)++[Dr x]) MV n cp cr cb:=fun o5' o6' PC' BF' h3 h4 h5 h6=>Kf hO lr lb h3 (by simp;exact hn) h4 (by simp;exact lb) (⟨fun h=>h,fun cm h _=>⟨rfl,h5.trans h⟩⟩) (fun row0 h=>by
  have:=h.symm.trans F.frow
  cases this
  exact⟨(row.set x.reg.toNat v),rfl,List.length_set ..,h6⟩)
 obtain⟨row1,e1,e2⟩:=hO.row
 obtain rfl:row=row1:=by have:=F.frow.symm.trans e1;cases this;rfl
 have tr:t < c.regs.length:=(List.getElem?_eq_some_iff.1 e1).1
 have lp:(iL c.pc).length=n:=by simp;exact hn
 have b4:t < n:=by have:=F.b2;omega
 rcases hO.mem with ⟨k1,rfl,rfl⟩ | ⟨cm,k1,k2,rfl,rfl⟩<;>rcases e2 with ⟨j1,rfl,j3⟩ | ⟨ct,j1,j2,rfl,j4⟩
 ·rw[k1] at hl1;simp at hl1;omega
 ·rw[k1] at hl1;simp at hl1;omega
 ·subst j1;simp at hr1;omega
 ·exact⟨_,Aaz u c m r t n cp cr cb cm ct row.length c.mem.length _ _ _ _ RH [] _ code x p e F.h1 F.h2 F.gc F.gp F.gx F.b1 F.b2 F.b3 b4 lp F.w hx (by rw[j4];simp;exact lr) (by rw[j4];exact Ma tr) (by simp) hr0 hr1 v gm hl1 hv hl0,hE _ _ _ _ (F.p1 _) (F.sb) rfl (fun _=>by rw[Jd _ _ hr0 hr1])⟩
theorem Amy {u:Ak} {c:Ac} {m r:Int} {t n cp cr cb:Nat} {o5 o6:Ob} {MV:AV} {RH:List AV} {code:List Ay} {x:Ay} {p:Nat} {e:Int} {row:List Int} {b:List A2} (F:StepF u c m r t code x p e row b) (hO:Jw c t o5 o6 MV RH n cp cr cb) (lr:c.regs.length=n) (lb:c.buf.length=n)
 (hx:x.op=6) (hr0:0≤x.reg) (hr1:x.reg < row.length) (hl0:0≤x.loc) (hl1:x.loc < c.mem.length) (v:Int) (gm:nth? (c.mem.map A0) x.loc.toNat=some [.int .i64 v]) (hm0:¬ u.mod=0) :
 ∃ hp',Bc (cN XB0 1500) u c m r t (Bb u c C6 (iL c.pc) (c.buf.map aEs) o5 o6 RH (cD n cp cr cb MV))=some (.tup [.agg (cD n cp cr cb MV),.bool true],hp')∧En ⟨c.pc.set t ((p+1:Nat):Int),c.regs.set t (row.set x.reg.toNat v),(c.mem.set x.loc.toNat ((IntKind.i64.wrap (v+e)).tmod u.mod)),c.buf.set t b⟩ t hp' MV n cp cr cb:=by
 have hn:=hO.hn
 have hE:∀ o5' o6' PC' BF',PC'=iL (c.pc.set t ((p+1:Nat):Int))→BF'=(c.buf.set t b).map aEs→(o5=.var 1000001 (iL c.mem)→o5'=.var 1000001 (iL (c.mem.set x.loc.toNat ((IntKind.i64.wrap (v+e)).tmod u.mod))))→(o6=.var 1000001 (iL row)→o6'=.var 1000001 (iL (row.set x.reg.toNat v)))→En ⟨c.pc.set t ((p+1:Nat):Int),c.regs.set t (row.set x.reg.toNat v),(c.mem.set x.loc.toNat ((IntKind.i64.wrap (v+e)).tmod u.mod)),c.buf.set t b⟩ t (Bb u c (cD n cp cr cb MV) PC' BF' o5' o6' RH (cD n cp cr cb MV)++[Dr x]) MV n cp cr cb:=fun o5' o6' PC' BF' h3 h4 h5 h6=>Kf hO lr lb h3 (by simp;exact hn) h4 (by simp;exact lb) (⟨fun h=>by show(c.mem.set x.loc.toNat ((IntKind.i64.wrap (v+e)).tmod u.mod))=[];rw[h];rfl,fun cm h _=>⟨List.length_set ..,h5 h⟩⟩) (fun row0 h=>by
  have:=h.symm.trans F.frow
  cases this
  exact⟨(row.set x.reg.toNat v),rfl,List.length_set ..,h6⟩)
 obtain⟨row1,e1,e2⟩:=hO.row
 obtain rfl:row=row1:=by have:=F.frow.symm.trans e1;cases this;rfl
 have tr:t < c.regs.length:=(List.getElem?_eq_some_iff.1 e1).1
 have lp:(iL c.pc).length=n:=by simp;exact hn
 have b4:t < n:=by have:=F.b2;omega
 rcases hO.mem with ⟨k1,rfl,rfl⟩ | ⟨cm,k1,k2,rfl,rfl⟩<;>rcases e2 with ⟨j1,rfl,j3⟩ | ⟨ct,j1,j2,rfl,j4⟩
 ·rw[k1] at hl1;simp at hl1;omega
 ·rw[k1] at hl1;simp at hl1;omega
 ·subst j1;simp at hr1;omega
 ·exact⟨_,Afm u c m r t n cp cr cb cm ct row.length c.mem.length _ _ _ _ RH [] _ code x p e F.h1 F.h2 F.gc F.gp F.gx F.b1 F.b2 F.b3 b4 lp F.w hx (by rw[j4];simp;exact lr) (by rw[j4];exact Ma tr) (by simp) hr0 hr1 (by simp) hl0 hl1 v gm hl1 hm0,hE _ _ _ _ (F.p1 _) (F.sb) (fun _=>by rw[Jd _ _ hl0 hl1]) (fun _=>by rw[Jd _ _ hr0 hr1])⟩
theorem Aj1 {u:Ak} {c:Ac} {m r:Int} {t n cp cr cb:Nat} {o5 o6:Ob} {MV:AV} {RH:List AV} {code:List Ay} {x:Ay} {p:Nat} {e:Int} {row:List Int} {b:List A2} (F:StepF u c m r t code x p e row b) (hO:Jw c t o5 o6 MV RH n cp cr cb) (lr:c.regs.length=n) (lb:c.buf.length=n)
 (hx:x.op=7) (hr0:0≤x.reg) (hr1:x.reg < row.length) (hl0:0≤x.loc) (hl1:x.loc < c.mem.length) (v:Int) (gm:nth? (c.mem.map A0) x.loc.toNat=some [.int .i64 v]) :
 ∃ hp',Bc (cN XB0 1500) u c m r t (Bb u c C6 (iL c.pc) (c.buf.map aEs) o5 o6 RH (cD n cp cr cb MV))=some (.tup [.agg (cD n cp cr cb MV),.bool true],hp')∧En ⟨c.pc.set t ((p+1:Nat):Int),c.regs.set t (row.set x.reg.toNat v),(c.mem.set x.loc.toNat e),c.buf.set t b⟩ t hp' MV n cp cr cb:=by
 have hn:=hO.hn
 have hE:∀ o5' o6' PC' BF',PC'=iL (c.pc.set t ((p+1:Nat):Int))→BF'=(c.buf.set t b).map aEs→(o5=.var 1000001 (iL c.mem)→o5'=.var 1000001 (iL (c.mem.set x.loc.toNat e)))→(o6=.var 1000001 (iL row)→o6'=.var 1000001 (iL (row.set x.reg.toNat v)))→En ⟨c.pc.set t ((p+1:Nat):Int),c.regs.set t (row.set x.reg.toNat v),(c.mem.set x.loc.toNat e),c.buf.set t b⟩ t (Bb u c (cD n cp cr cb MV) PC' BF' o5' o6' RH (cD n cp cr cb MV)++[Dr x]) MV n cp cr cb:=fun o5' o6' PC' BF' h3 h4 h5 h6=>Kf hO lr lb h3 (by simp;exact hn) h4 (by simp;exact lb) (⟨fun h=>by show(c.mem.set x.loc.toNat e)=[];rw[h];rfl,fun cm h _=>⟨List.length_set ..,h5 h⟩⟩) (fun row0 h=>by
  have:=h.symm.trans F.frow
  cases this
  exact⟨(row.set x.reg.toNat v),rfl,List.length_set ..,h6⟩)
 obtain⟨row1,e1,e2⟩:=hO.row
 obtain rfl:row=row1:=by have:=F.frow.symm.trans e1;cases this;rfl
 have tr:t < c.regs.length:=(List.getElem?_eq_some_iff.1 e1).1
 have lp:(iL c.pc).length=n:=by simp;exact hn
 have b4:t < n:=by have:=F.b2;omega
 rcases hO.mem with ⟨k1,rfl,rfl⟩ | ⟨cm,k1,k2,rfl,rfl⟩<;>rcases e2 with ⟨j1,rfl,j3⟩ | ⟨ct,j1,j2,rfl,j4⟩
 ·rw[k1] at hl1;simp at hl1;omega
 ·rw[k1] at hl1;simp at hl1;omega
 ·subst j1;simp at hr1;omega
 ·exact⟨_,Abe u c m r t n cp cr cb cm ct row.length c.mem.length _ _ _ _ RH [] _ code x p e F.h1 F.h2 F.gc F.gp F.gx F.b1 F.b2 F.b3 b4 lp F.w hx (by rw[j4];simp;exact lr) (by rw[j4];exact Ma tr) (by simp) hr0 hr1 (by simp) hl0 hl1 v gm hl1,hE _ _ _ _ (F.p1 _) (F.sb) (fun _=>by rw[Jd _ _ hl0 hl1]) (fun _=>by rw[Jd _ _ hr0 hr1])⟩
theorem Zi {α:Type} {l:List α} {i:Nat} {x d:α} (h:l[i]?=some x):l.getD i d=x:=by rw[List.getD_eq_getElem?_getD,h];rfl
set_option maxHeartbeats 4000000 in
theorem Ame {u:Ak} {c:Ac} {m r:Int} {t n cp cr cb:Nat} {o5 o6:Ob} {MV:AV} {RH:List AV} (hu:C7 u=true) (hlu:G6 u=true) (hm:1≤m∧m≤3) (hr:1≤r∧r≤4) (h:D2 u c m r) (ht:t < u.regs.length) (hO:Jw c t o5 o6 MV RH n cp cr cb) :
 ∃ hp',Bc (cN XB0 1500) u c m r t (Bb u c C6 (iL c.pc) (c.buf.map aEs) o5 o6 RH (cD n cp cr cb MV))=some (.tup [.agg (cD n cp cr cb MV),.bool (Um u c m r t).2],hp')∧En (Um u c m r t).1 t hp' MV n cp cr cb:=by
 have hz:=Te hu hm hr h
 have hh:=Cc hu
 have t1:t < c.pc.length:=by have:=h.lpc;omega
 have t2:t < c.regs.length:=by have:=h.lregs;omega
 have t3:t < c.buf.length:=by have:=h.lbuf;omega
 have t4:t < u.code.length:=by omega
 have lr:c.regs.length=n:=by have:=hO.hn;have:=h.lpc;have:=h.lregs;omega
 have lb:c.buf.length=n:=by have:=hO.hn;have:=h.lpc;have:=h.lbuf;omega
 have H:=h.thr t _ _ _ _ _ (A6 t1) (A6 t2) (A6 t3) (A6 t4) (A6 ht)
 have p0:=H.pc0
 have p1:=H.pc1
 have pl:(c.pc[t]).toNat < (u.code[t]).length:=by omega
 obtain⟨p,hp⟩:∃ p:Nat,c.pc[t]=(p:Int):=⟨c.pc[t].toNat,by omega⟩
 obtain⟨code,hcode⟩:∃ code,u.code[t]=code:=⟨_,rfl⟩
 obtain⟨row,hrow⟩:∃ row,c.regs[t]=row:=⟨_,rfl⟩
 obtain⟨b,hb⟩:∃ b,c.buf[t]=b:=⟨_,rfl⟩
 have epc:c.pc[t]?=some (p:Int):=by rw[A6 t1,hp]
 have erow:c.regs[t]?=some row:=by rw[A6 t2,hrow]
 have ebuf:c.buf[t]?=some b:=by rw[A6 t3,hb]
 have ecode:u.code[t]?=some code:=by rw[A6 t4,hcode]
 rw[hcode,hp] at pl p1
 rw[Int.toNat_natCast] at pl
 obtain⟨x,hx⟩:∃ x,code[p]?=some x:=⟨_,A6 pl⟩
 have hin:Po u c t=some x:=by
  rw[Po,ecode,epc]
  simp only
  rw[if_pos (by omega),Int.toNat_natCast,hx]
 have hen:enC u c m r t=enX u c m r t x:=by rw[enC,hin]
 have G1:=(Wr _ _).trans (Zs (A04 1500 u c m r t hu hlu h hz ht (by omega)))
 rw[hen] at G1
 have hxl:x.e.length≤300∧x.f.length≤300:=by
  have hlu':=hlu
  simp only[G6,Vv,A8,List.all_eq_true,Ai] at hlu'
  have:=(hlu'.2 _ (List.mem_of_getElem? ecode)).2 _ (List.mem_of_getElem? hx)
  exact⟨this.1,this.2⟩
 have hcl:code.length≤1000:=by
  have hT:=Re hu ht
  rw[Uk ht t4] at hT
  simp only[A8,A35,Ai] at hT
  obtain⟨_,⟨hl,_⟩,_⟩:=hT
  rw[hcode] at hl
  exact hl.2
 have hact:Um u c m r t=if enX u c m r t x=true then(A9k u c m t x,true) else(c,false):=by rw[Um,hin]
 cases he:enX u c m r t x with
 | false =>
  rw[he] at G1 hact
  rw[hact]
  exact An2 hO lr lb G1
 | true =>
  rw[he] at G1 hact
  rw[hact]
  simp only[if_true]
  have hop:x.op≠22:=by intro e;unfold enX at he;rw[if_pos e] at he;cases he
  have V1:=(Wr _ _).trans (Pb (Yk 1500 u c t x.e t2 hz.regs hxl.1 (by omega)))
  have V2:=(Wr _ _).trans (Pb (Yk 1500 u c t x.f t2 hz.regs hxl.2 (by omega)))
  have RD:=(Wr _ _).trans (U9 (Acj 1500 c (t:Int) x.loc hz.buf (by omega)))
  have F:StepF u c m r t code x p (Eu u c t x.e) row b:=⟨G1,V1,ecode,epc,hx,erow,ebuf,by omega⟩
  have e0:0≤Eu u c t x.e∧Eu u c t x.e < u.mod:=A46 (by omega) (by omega)
  have hax:A9k u c m t x=Hs u c m t x (Eu u c t x.e) (Eu u c t x.f) (Lj c t x.loc) (c.mem.getD x.loc.toNat 0) (p:Int) row b:=by
   rw[A9k,Zi epc,Zi erow,Zi ebuf]
  rw[hax]
  rcases A94 hu ecode (A6 ht) hx with ⟨q,_⟩ | ⟨hlt,hok⟩
  ·exact absurd q hop
  unfold Zf at hok
  cases hn:Mz x.op with
  | none=>rw[hn] at hok;cases hok
  | some nd =>
  rw[hn] at hok
  simp only[A8] at hok
  obtain⟨⟨⟨⟨⟨_,k1⟩,k2⟩,k3⟩,_⟩,_⟩:=hok
  have hops:=A0h hn
  have hlen:(row.length:Int)=u.regs[t]:=by rw[← hrow];exact H.len
  have hreg:(x.op=2∨x.op=3∨x.op=5∨x.op=6∨x.op=7)→0≤x.reg∧x.reg < (row.length:Int):=by
   intro ho
   have:nd.reg=true:=by
    rcases ho with ho | ho | ho | ho | ho<;>(rw[ho] at hn;simp[Mz] at hn;rw[← hn])
   rw[this] at k1
   rw[hlen]
   simpa [Sw,inB] using k1
  have hloc:(x.op=4∨x.op=5∨x.op=6∨x.op=7)→0≤x.loc∧x.loc < (c.mem.length:Int):=by
   intro ho
   have:nd.loc=true:=by
    rcases ho with ho | ho | ho | ho<;>(rw[ho] at hn;simp[Mz] at hn;rw[← hn])
   rw[this] at k2
   rw[h.lmem]
   simpa [Sw,inB] using k2
  have hgm:∀ (h0:0≤x.loc∧x.loc < (c.mem.length:Int)),nth? (c.mem.map A0) x.loc.toNat=some [.int .i64 (c.mem.getD x.loc.toNat 0)]:=fun h0=>by
   have h1:x.loc.toNat < c.mem.length:=by omega
   rw[nth?_eq,List.getElem?_map,A6 h1,Zi (A6 h1)];rfl
  have hpc:(p:Int)+1=((p+1:Nat):Int):=by omega
  by_cases o20:x.op=20
  ·have:=Ai9 F hO lr lb o20
   simpa [Hs,pcS,rgS,mmS,bfS,o20] using this
  by_cases o21:x.op=21
  ·by_cases z:Eu u c t x.e=0
   ·have:=Aql F hO lr lb o21 z
    simpa [Hs,pcS,rgS,mmS,bfS,o21,z] using this
   ·have:=Ao7 F hO lr lb o21 z
    simpa [Hs,pcS,rgS,mmS,bfS,o21,z] using this
  by_cases o2:x.op=2
  ·obtain⟨a1,a2⟩:=hreg (by omega)
   have:=Anq F hO lr lb o2 a1 a2
   simpa [Hs,pcS,rgS,mmS,bfS,o2] using this
  by_cases o3:x.op=3
  ·obtain⟨a1,a2⟩:=hreg (by omega)
   have:=Aj3 F hO lr lb o3 a1 a2 _ RD
   simpa [Hs,pcS,rgS,mmS,bfS,o3] using this
  by_cases o4:x.op=4
  ·obtain⟨a1,a2⟩:=hloc (by omega)
   by_cases m1:m=1
   ·have:=Aqz F hO lr lb o4 m1 a1 a2
    simpa [Hs,pcS,rgS,mmS,bfS,o4,m1] using this
   ·have hbl:=hz.buf _ (List.mem_of_getElem? ebuf)
    have PU:=(Wr _ _).trans (A5g (Aqt 1500 b m ⟨x.loc,Eu u c t x.e⟩ (by omega) (by omega)))
    have:=Agl F hO lr lb o4 m1 _ PU
    simpa [Hs,pcS,rgS,mmS,bfS,o4,m1] using this
  by_cases o5':x.op=5
  ·obtain⟨a1,a2⟩:=hreg (by omega)
   obtain⟨b1,b2⟩:=hloc (by omega)
   by_cases z:c.mem.getD x.loc.toNat 0=Eu u c t x.e
   ·have:=Aob F hO lr lb o5' a1 a2 b1 b2 _ (hgm ⟨b1,b2⟩) _ z V2
    have e5:(5:Int)≤x.op∧x.op≤7:=by omega
    have q4:¬ (x.op=4∧m=1):=by omega
    have q4':¬ (x.op=4∧m≠1):=by omega
    have q21:¬ (x.op=21∧Eu u c t x.e=0):=by omega
    have hc:Hs u c m t x (Eu u c t x.e) (Eu u c t x.f) (Lj c t x.loc) (c.mem.getD x.loc.toNat 0) (p:Int) row b=⟨c.pc.set t ((p+1:Nat):Int),c.regs.set t (row.set x.reg.toNat (c.mem.getD x.loc.toNat 0)),c.mem.set x.loc.toNat (Eu u c t x.f),c.buf.set t b⟩:=by
     simp only[Hs,pcS,rgS,mmS,bfS,if_neg o20,if_neg q21,if_neg o2,if_neg o3,if_pos e5,if_neg q4,if_neg q4',if_pos (And.intro o5' z),hpc]
    rw[hc]
    exact this
   ·have:=Aj5 F hO lr lb o5' a1 a2 b1 b2 _ (hgm ⟨b1,b2⟩) z
    have e5:(5:Int)≤x.op∧x.op≤7:=by omega
    have q4:¬ (x.op=4∧m=1):=by omega
    have q4':¬ (x.op=4∧m≠1):=by omega
    have q21:¬ (x.op=21∧Eu u c t x.e=0):=by omega
    have q5:¬ (x.op=5∧c.mem.getD x.loc.toNat 0=Eu u c t x.e):=fun q=>z q.2
    have q6:¬ x.op=6:=by omega
    have q7:¬ x.op=7:=by omega
    have hc:Hs u c m t x (Eu u c t x.e) (Eu u c t x.f) (Lj c t x.loc) (c.mem.getD x.loc.toNat 0) (p:Int) row b=⟨c.pc.set t ((p+1:Nat):Int),c.regs.set t (row.set x.reg.toNat (c.mem.getD x.loc.toNat 0)),c.mem,c.buf.set t b⟩:=by
     simp only[Hs,pcS,rgS,mmS,bfS,if_neg o20,if_neg q21,if_neg o2,if_neg o3,if_pos e5,if_neg q4,if_neg q4',if_neg q5,if_neg q6,if_neg q7,hpc]
    rw[hc]
    exact this
  by_cases o6':x.op=6
  ·obtain⟨a1,a2⟩:=hreg (by omega)
   obtain⟨b1,b2⟩:=hloc (by omega)
   have:=Amy F hO lr lb o6' a1 a2 b1 b2 _ (hgm ⟨b1,b2⟩) (by omega)
   have e5:(5:Int)≤x.op∧x.op≤7:=by omega
   have q4:¬ (x.op=4∧m=1):=by omega
   have q4':¬ (x.op=4∧m≠1):=by omega
   have q21:¬ (x.op=21∧Eu u c t x.e=0):=by omega
   have q5:¬ (x.op=5∧c.mem.getD x.loc.toNat 0=Eu u c t x.e):=fun q=>o5' q.1
   have hv:=Ac1 hu h x.loc.toNat
   have hw:(IntKind.i64.wrap (c.mem.getD x.loc.toNat 0+Eu u c t x.e)).tmod u.mod=(c.mem.getD x.loc.toNat 0+Eu u c t x.e) % u.mod:=by
    rw[G3 (by omega),Int.tmod_eq_emod_of_nonneg (by omega)]
   rw[hw] at this
   have hc:Hs u c m t x (Eu u c t x.e) (Eu u c t x.f) (Lj c t x.loc) (c.mem.getD x.loc.toNat 0) (p:Int) row b=⟨c.pc.set t ((p+1:Nat):Int),c.regs.set t (row.set x.reg.toNat (c.mem.getD x.loc.toNat 0)),c.mem.set x.loc.toNat ((c.mem.getD x.loc.toNat 0+Eu u c t x.e) % u.mod),c.buf.set t b⟩:=by
    simp only[Hs,pcS,rgS,mmS,bfS,if_neg o20,if_neg q21,if_neg o2,if_neg o3,if_pos e5,if_neg q4,if_neg q4',if_neg q5,if_pos o6',hpc]
   rw[hc]
   exact this
  by_cases o7:x.op=7
  ·obtain⟨a1,a2⟩:=hreg (by omega)
   obtain⟨b1,b2⟩:=hloc (by omega)
   have:=Aj1 F hO lr lb o7 a1 a2 b1 b2 _ (hgm ⟨b1,b2⟩)
   have e5:(5:Int)≤x.op∧x.op≤7:=by omega
   have q4:¬ (x.op=4∧m=1):=by omega
   have q4':¬ (x.op=4∧m≠1):=by omega
   have q21:¬ (x.op=21∧Eu u c t x.e=0):=by omega
   have q5:¬ (x.op=5∧c.mem.getD x.loc.toNat 0=Eu u c t x.e):=fun q=>o5' q.1
   have hc:Hs u c m t x (Eu u c t x.e) (Eu u c t x.f) (Lj c t x.loc) (c.mem.getD x.loc.toNat 0) (p:Int) row b=⟨c.pc.set t ((p+1:Nat):Int),c.regs.set t (row.set x.reg.toNat (c.mem.getD x.loc.toNat 0)),c.mem.set x.loc.toNat (Eu u c t x.e),c.buf.set t b⟩:=by
    simp only[Hs,pcS,rgS,mmS,bfS,if_neg o20,if_neg q21,if_neg o2,if_neg o3,if_pos e5,if_neg q4,if_neg q4',if_neg q5,if_neg o6',if_pos o7,hpc]
   rw[hc]
   exact this
  have:=Ak8 F hO lr lb o20 o21 o2 o3 o4 o5' o6' o7
  have q:¬ (5≤x.op∧x.op≤7):=by omega
  simpa [Hs,pcS,rgS,mmS,bfS,o20,o21,o2,o3,o4,o5',o6',o7,q] using this
theorem Aim {u:Ak} {c:Ac} {model room:Int} (hu:C7 u=true) (hm:1≤model∧model≤3) (hr:1≤room∧room≤4) (h:D2 u c model room):∀ b ∈ c.buf,b.length≤300:=by
 have hh:=Cc hu
 intro b hb
 ·obtain⟨t,ht,rfl⟩:=List.getElem_of_mem hb
  have l1:=h.lregs;have l2:=h.lbuf;have l3:=h.lpc
  have H:=h.thr t _ _ _ _ _ (A6 (show t < c.pc.length by omega)) (A6 (show t < c.regs.length by omega)) (A6 ht) (A6 (show t < u.code.length by omega)) (A6 (show t < u.regs.length by omega))
  obtain⟨b1,b2,b3,b4⟩:=H.buf
  rcases(show model=1∨model=2∨model=3 by omega) with q | q | q
  ·rw[b2 q];simp
  ·have:=b3 q;omega
  ·have k:=(b4 q).2
   have:∀ (m:Nat) (l:List A2),(∀ x ∈ l,0≤x.loc∧x.loc < (m:Int))→(∀ loc:Int,(((l.filter fun x=>x.loc==loc).length:Nat):Int)≤4)→l.length≤4*m:=by
    intro m
    induction m with
    | zero=>intro l hl _;cases l with
            | nil=>simp
            | cons a l=>have:=hl a (by simp);omega
    | succ m ih =>
     intro l hl hk
     have h1:=ih (l.filter fun x=>!(x.loc==(m:Int))) (fun x hx=>by
      obtain⟨x1,x2⟩:=List.mem_filter.1 hx
      have:=hl x x1
      have:x.loc≠(m:Int):=by simpa using x2
      omega) (fun loc=>by
      have:=hk loc
      have h2:(((l.filter fun x=>!(x.loc==(m:Int))).filter fun x=>x.loc==loc).length)≤(l.filter fun x=>x.loc==loc).length:=(List.filter_sublist.filter _).length_le
      omega)
     have h2:=hk (m:Int)
     have h3:l.length=(l.filter fun x=>x.loc==(m:Int)).length+(l.filter fun x=>!(x.loc==(m:Int))).length:=by
      exact Yf (fun x:A2=>x.loc==(m:Int)) l
     omega
   have:=this u.init.length _ (fun x hx=>⟨(b1 x hx).1,(b1 x hx).2.1⟩) (fun loc=>by have:=k loc;omega)
   omega
theorem A8g {u:Ak} {c:Ac} {model room:Int} (hu:C7 u=true) (hm:1≤model∧model≤3) (hr:1≤room∧room≤4) (h:D2 u c model room):A1o c:=by
 have hh:=Cc hu
 have hz:=Te hu hm hr h
 have hb:=Aim hu hm hr h
 refine⟨by have:=hz.lpc;omega,by have:=hz.lmem;omega,by have:=hz.lregs;omega,by have:=hz.lbuf;omega,fun i hi=>?_,fun i hi=>hb _ (List.getElem_mem hi)⟩
 have:=hz.regs _ (List.getElem_mem hi)
 omega
set_option maxHeartbeats 4000000 in
theorem Afo:Nn Tryz.prog 50 (Xt Vi Ar9):=by
 refine A33 fun x S vs w hS hr=>?_
 obtain⟨⟨u,c,m,r,t⟩,hu,hlu,hm,hrm,hcr,ht⟩:=x
 simp only at hu hlu hm hrm hcr ht
 replace hr:Reps S w [] [] [aU u,aC c,.int .i64 m,.int .i64 r,.int .i64 (t:Int)] vs:=hr
 cases hr with | cons _ _ _ vu _ _ ru hr =>
 cases hr with | cons _ _ _ vc _ _ rc hr =>
 cases hr with | cons _ _ _ vm _ _ rm hr =>
 cases hr with | cons _ _ _ vr _ _ rr hr =>
 cases hr with | cons _ _ _ vt _ _ rt hr =>
 cases hr
 obtain⟨rfl,om⟩:=rm.int_inv
 obtain⟨rfl,or⟩:=rr.int_inv
 obtain⟨rfl,ot⟩:=rt.int_inv
 have hv:=A69 rc
 obtain⟨us,hU,oU,rfl⟩:=ru.agg_inv
 cases hU with | cons _ _ _ u0 _ _ q0 hU =>
 cases hU with | cons _ _ _ u1 _ _ q1 hU =>
 cases hU with | cons _ _ _ u2 _ _ q2 hU =>
 cases hU with | cons _ _ _ u3 _ _ q3 hU =>
 cases hU
 obtain⟨rfl,_⟩:=q0.int_inv
 obtain⟨_,a1,c1,_,_,_,rfl⟩:=q1.sl_inv
 obtain⟨_,a2,c2,_,_,_,rfl⟩:=q2.sl_inv
 obtain⟨_,a3,c3,_,_,_,rfl⟩:=q3.sl_inv
 obtain⟨cs,hC,oC,rfl⟩:=rc.agg_inv
 cases hC with | cons _ _ _ v0 _ _ r0 hC =>
 cases hC with | cons _ _ _ v1 _ _ r1 hC =>
 cases hC with | cons _ _ _ v2 _ _ r2 hC =>
 cases hC with | cons _ _ _ v3 _ _ r3 hC =>
 cases hC
 obtain⟨_,a4,c4,_,_,_,rfl⟩:=r0.sl_inv
 obtain⟨_,a5,c5,_,_,_,rfl⟩:=r1.sl_inv
 obtain⟨_,a6,c6,_,_,_,rfl⟩:=r2.sl_inv
 obtain⟨_,a7,c7,_,_,_,rfl⟩:=r3.sl_inv
 refine Ai6 S w u c m r t a1 a2 a3 a4 a5 a6 a7 _ _ _ _ _ _ _ c1 c2 c3 c4 c5 c6 c7 _ hS (.cons _ _ _ _ _ _ q0 (.cons _ _ _ _ _ _ q1 (.cons _ _ _ _ _ _ q2 (.cons _ _ _ _ _ _ q3 (.nil _ _))))) (.cons _ _ _ _ _ _ r0 (.cons _ _ _ _ _ _ r1 (.cons _ _ _ _ _ _ r2 (.cons _ _ _ _ _ _ r3 (.nil _ _))))) hv (A8g hu hm hrm hcr) om or ot (by have:=hcr.lpc;have:=hcr.lregs;omega) (by have:=hcr.lpc;have:=hcr.lbuf;omega) (by have:=hcr.lpc;omega) fun w2 L o5 o6 MV RH φ n cp cr cb hb hO hsim=>?_
 obtain⟨hp',hrun,hE⟩:=Ame hu hlu hm hrm hcr ht hO
 refine⟨_,hp',hrun,fun u' S' w' φ' h1 h2 h3=>?_⟩
 obtain⟨g1,g2,g3,g4⟩:=Ach hS hb (Xe hS hb L) (fun b o h=>h.elim .inl fun h=>.inr h.1) h2 h3 (C:=Sc w' φ') (A5y h2)
 exact⟨u',fun b o=>S' b o∨Sc w' φ' b o,rfl,Ah4 h2 (fun b o h=>.inr h) (fun b o h=>.inl h) hE h1,g1,g2,g3,g4⟩
noncomputable def Rw (call:Bp) (c:Ac) (m:Int) (t:Nat) (l:Int) (hp:Hp):Option (AV×Hp):=O0 Tryz.prog HH call 51 1000 5 (Aot (Tryz.f51).body) ((((((((List.replicate (Tryz.f51).ntmps AV.junk).set 4 (.ptr 0 0)).set 8 (.ptr 1 0)).set 10 (.ptr 4 0)).set 1 (.int .i64 m)).set 2 (.int .i64 (t:Int))).set 3 (.int .i64 l))) hp (fun e tm hp'=>match e with | .exit _=>none | _=>Wb Tryz.prog Tryz.f51 tm hp' fun v=>some (v,hp'))
abbrev Q7 (c:Ac) (R:List AV) (BF:List AV) (o3:Ob) (D:List AV):Hp:=[.var 90 (Cj c),.var 90 R,.var 1000001 BF,o3,.var 90 D]
theorem Amq (c:Ac) (m:Int) (t:Nat) (l:Int) (n cb mn cm:Nat) (BF ME:List AV) (pcs rgs ms:List (List AV)) (call:Bp)
 (h1:call false 81 [.agg [.sl 1 (c.pc.map A0),.sl 1 (c.regs.map Ag),.sl 1 (c.mem.map A0),.sl 1 (c.buf.map An)],.int .i64 m,.int .i64 (t:Int),.int .i64 l] []=some (.bool false,[])) :
 Rw call c m t l (Q7 c C6 BF (.var 1000001 ME) [.sl 1 pcs,.sl 1 rgs,.vsl 3 0 mn cm,.vsl 2 0 n cb])=some (.tup [.agg [.sl 1 pcs,.sl 1 rgs,.vsl 3 0 mn cm,.vsl 2 0 n cb],.bool false],Q7 c [.sl 1 pcs,.sl 1 rgs,.vsl 3 0 mn cm,.vsl 2 0 n cb] BF (.var 1000001 ME) [.sl 1 pcs,.sl 1 rgs,.vsl 3 0 mn cm,.vsl 2 0 n cb]):=by
 have hc1:Program.cellsOf Tryz.prog 3=1:=by kernel_rfl
 have hc3:Program.cellsOf Tryz.prog 152=1:=by kernel_rfl
 unfold Rw
 conv=>lhs;whnf
 repeat (first | (refine B0 (by(first | (with_reducible assumption) | omega | (simp only[A8,Bool.or_eq_true,Bool.not_eq_true',Bool.and_eq_false_imp,Bool.or_eq_false_iff,Ai,decide_eq_false_iff_not,beq_iff_eq,bne_iff_ne,beq_eq_false_iff_ne,bne_eq_false_iff_eq,ne_eq,A5,List.length_replicate,List.length_append,List.length_cons,List.length_nil,List.length_take,Int.toNat_natCast];omega) | (with_reducible rfl))) ?_;conv=>lhs;whnf) | (refine Cl (by(first | (with_reducible assumption) | omega | (simp only[A8,Bool.or_eq_true,Bool.not_eq_true',Bool.and_eq_false_imp,Bool.or_eq_false_iff,Ai,decide_eq_false_iff_not,beq_iff_eq,bne_iff_ne,beq_eq_false_iff_ne,bne_eq_false_iff_eq,ne_eq,A5,List.length_replicate,List.length_append,List.length_cons,List.length_nil,List.length_take,Int.toNat_natCast];omega) | (with_reducible rfl))) ?_;conv=>lhs;whnf) | (simp only[hc1,hc3,h1];conv=>lhs;whnf))
 rfl
theorem Alc (c:Ac) (m:Int) (t:Nat) (l:Int) (n cb mn cm:Nat) (BF ME:List AV) (pcs rgs ms:List (List AV)) (call:Bp)
 (h1:call false 81 [.agg [.sl 1 (c.pc.map A0),.sl 1 (c.regs.map Ag),.sl 1 (c.mem.map A0),.sl 1 (c.buf.map An)],.int .i64 m,.int .i64 (t:Int),.int .i64 l] []=some (.bool false,[])) :
 Rw call c m t l (Q7 c C6 BF Br [.sl 1 pcs,.sl 1 rgs,.sl 1 ms,.vsl 2 0 n cb])=some (.tup [.agg [.sl 1 pcs,.sl 1 rgs,.sl 1 ms,.vsl 2 0 n cb],.bool false],Q7 c [.sl 1 pcs,.sl 1 rgs,.sl 1 ms,.vsl 2 0 n cb] BF Br [.sl 1 pcs,.sl 1 rgs,.sl 1 ms,.vsl 2 0 n cb]):=by
 have hc1:Program.cellsOf Tryz.prog 3=1:=by kernel_rfl
 have hc3:Program.cellsOf Tryz.prog 152=1:=by kernel_rfl
 unfold Rw
 conv=>lhs;whnf
 repeat (first | (refine B0 (by(first | (with_reducible assumption) | omega | (simp only[A8,Bool.or_eq_true,Bool.not_eq_true',Bool.and_eq_false_imp,Bool.or_eq_false_iff,Ai,decide_eq_false_iff_not,beq_iff_eq,bne_iff_ne,beq_eq_false_iff_ne,bne_eq_false_iff_eq,ne_eq,A5,List.length_replicate,List.length_append,List.length_cons,List.length_nil,List.length_take,Int.toNat_natCast];omega) | (with_reducible rfl))) ?_;conv=>lhs;whnf) | (refine Cl (by(first | (with_reducible assumption) | omega | (simp only[A8,Bool.or_eq_true,Bool.not_eq_true',Bool.and_eq_false_imp,Bool.or_eq_false_iff,Ai,decide_eq_false_iff_not,beq_iff_eq,bne_iff_ne,beq_eq_false_iff_ne,bne_eq_false_iff_eq,ne_eq,A5,List.length_replicate,List.length_append,List.length_cons,List.length_nil,List.length_take,Int.toNat_natCast];omega) | (with_reducible rfl))) ?_;conv=>lhs;whnf) | (simp only[hc1,hc3,h1];conv=>lhs;whnf))
 rfl
theorem Asc (c:Ac) (m:Int) (t:Nat) (l:Int) (n cb mn cm:Nat) (BF ME:List AV) (pcs rgs ms:List (List AV)) (call:Bp)
 (h1:call false 81 [.agg [.sl 1 (c.pc.map A0),.sl 1 (c.regs.map Ag),.sl 1 (c.mem.map A0),.sl 1 (c.buf.map An)],.int .i64 m,.int .i64 (t:Int),.int .i64 l] []=some (.bool true,[])) (bt b2:List A2) (x:A2) (b4:t < n) (gb:nth? (c.buf.map An) ((t:Int)).toNat=some [.sl 2 (bt.map At)]) (b5:t < c.buf.length) (lb:BF.length=n) (h2:call false 85 [.sl 2 (bt.map At),.int .i64 m,.int .i64 l] []=some (.tup [.sl 2 (b2.map At),.agg [.int .i64 x.loc,.int .i64 x.n],.bool true],[])) (lm:ME.length=mn) (b7:0≤x.loc) (b8:x.loc < mn) :
 Rw call c m t l (Q7 c C6 BF (.var 1000001 ME) [.sl 1 pcs,.sl 1 rgs,.vsl 3 0 mn cm,.vsl 2 0 n cb])=some (.tup [.agg [.sl 1 pcs,.sl 1 rgs,.vsl 3 0 mn cm,.vsl 2 0 n cb],.bool true],Q7 c [.sl 1 pcs,.sl 1 rgs,.vsl 3 0 mn cm,.vsl 2 0 n cb] (Bn BF (0+((t:Int)).toNat) [.sl 2 (b2.map At)]) (.var 1000001 (Bn ME (0+x.loc.toNat) [.int .i64 x.n])) [.sl 1 pcs,.sl 1 rgs,.vsl 3 0 mn cm,.vsl 2 0 n cb]++[.var 157 [.int .i64 x.loc,.int .i64 x.n]]):=by
 have hc1:Program.cellsOf Tryz.prog 3=1:=by kernel_rfl
 have hc3:Program.cellsOf Tryz.prog 152=1:=by kernel_rfl
 unfold Rw
 conv=>lhs;whnf
 repeat (first | (refine B0 (by(first | (with_reducible assumption) | omega | (simp only[A8,Bool.or_eq_true,Bool.not_eq_true',Bool.and_eq_false_imp,Bool.or_eq_false_iff,Ai,decide_eq_false_iff_not,beq_iff_eq,bne_iff_ne,beq_eq_false_iff_ne,bne_eq_false_iff_eq,ne_eq,A5,List.length_replicate,List.length_append,List.length_cons,List.length_nil,List.length_take,Int.toNat_natCast];omega) | (with_reducible rfl))) ?_;conv=>lhs;whnf) | (refine Cl (by(first | (with_reducible assumption) | omega | (simp only[A8,Bool.or_eq_true,Bool.not_eq_true',Bool.and_eq_false_imp,Bool.or_eq_false_iff,Ai,decide_eq_false_iff_not,beq_iff_eq,bne_iff_ne,beq_eq_false_iff_ne,bne_eq_false_iff_eq,ne_eq,A5,List.length_replicate,List.length_append,List.length_cons,List.length_nil,List.length_take,Int.toNat_natCast];omega) | (with_reducible rfl))) ?_;conv=>lhs;whnf) | (simp only[hc1,hc3,h1,h2,gb];conv=>lhs;whnf))
 rfl
end Go.Proofs.YtfabdppicogkmaaGreat
end
