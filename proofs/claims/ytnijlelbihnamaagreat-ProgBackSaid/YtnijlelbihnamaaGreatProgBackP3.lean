/- Parts of the proofs: what they lean on. Conditions: none. -/
import Derived.Test.YtnijlelbihnamaaGreatProgBackP2
section
namespace Go.Proofs.YtnijlelbihnamaaGreat
set_option linter.unusedVariables false
set_option linter.unusedSimpArgs false
set_option maxRecDepth 10000
theorem At4 (n:Nat) (y:List Nd×Int×Int×Int):∀ (m i k:Nat) (x:List Nd),y.1.length=x.length→x.length - i≤m→m < k→i≤x.length→x.length < 1000000→Df n y k (i:Int) x=some (.out (x.take i++(x.drop i).map H5)):=by
 intro m
 induction m with
 | zero =>
  intro i k x hy hm hk hi hx
  obtain⟨k,rfl⟩:∃ j,k=j+1:=⟨k - 1,by omega⟩
  rw[Df,hy,Aq (by omega),List.drop_of_length_le (by omega),List.take_of_length_le (by omega)];simp
 | succ m ih =>
  intro i k x hy hm hk hi hx
  obtain⟨k,rfl⟩:∃ j,k=j+1:=⟨k - 1,by omega⟩
  by_cases c:i < x.length
  ·rw[Df,hy,A6 (by omega),C8 c,A1,A1,Ay i (by omega)]
   have key:∀ z:List Nd,z.length=x.length→z.take (i+1)=x.take i++[H5 x[i]]→z.drop (i+1)=x.drop (i+1)→z.take (i+1)++(z.drop (i+1)).map H5=x.take i++(x.drop i).map H5:=by
    intro z _ h1 h2
    rw[h1,h2,List.drop_eq_getElem_cons c,List.map_cons,List.append_assoc];rfl
   by_cases h2:x[i].B3=2
   ·rw[h2,show((2:Int)==2)=true from rfl,Af,ih (i+1) k _ (by rw[List.length_set];exact hy) (by rw[List.length_set];omega) (by omega) (by rw[List.length_set];omega) (by rw[List.length_set];omega)]
    rw[key _ (by rw[List.length_set]) ?_ ?_]
    ·rw[Int.toNat_natCast,List.take_set,List.take_add_one,Ax c,Option.toList_some,List.set_append_right _ _ (by rw[List.length_take];omega),List.length_take,show i - min i x.length=0 by omega,List.set_cons_zero]
     simp[H5,h2]
    ·rw[Int.toNat_natCast,List.drop_set];rw[if_pos (by omega)]
   ·rw[Ca.2 h2,An,ih (i+1) k _ hy (by omega) (by omega) (by omega) hx]
    rw[key x rfl ?_ rfl]
    rw[List.take_add_one,Ax c]
    simp[H5,h2]
  ·rw[Df,hy,Aq (by omega),List.drop_of_length_le (by omega),List.take_of_length_le (by omega)];simp
theorem Asn {T:Nat} {l:List Tk} (hk:Toks T l) {k:Int} {s:Ps} (h1:s.1 < l.length) (hz:PsZ s):PsZ (clF k l s).2:=by
 unfold clF
 exact Uu (Ahu hz (Ahq hk (show s.1+1≤l.length from h1)))
theorem Ajq {T:Nat} {l:List Tk} (hk:Toks T l) (n:Nat) (k:Int) (s:Ps) (h1:s.1 < l.length) (hz:PsZ s) (hn:18*l.length+T+1000≤n) :
 I0 n k (N0 l s.1).Ab l ((s.1+1:Nat):Int) s.2.1 s.2.2=some ((clF k l s).1,((clF k l s).2.1:Int),(clF k l s).2.2.1,(clF k l s).2.2.2):=by
 have hl:=hk.len
 obtain⟨n,rfl⟩:∃ j,n=j+6:=⟨n - 6,by omega⟩
 have hi:s.1+1≤l.length:=h1
 obtain⟨g1,g2,g3⟩:=A9l hk hi
 have hx:(peQ l (s.1+1)).1.length≤200:=by
  rcases V8 hk hi with ⟨_,h,_⟩ | ⟨_,_,_,_,_,h⟩
  ·rw[h];simp
  ·simp only[Ep,Ah,C1] at h;exact h.1.2
 have ea:(clF k l s).1=⟨k,(peQ l (s.1+1)).1.map H5,(N0 l s.1).Ab⟩:=by unfold clF;rw[A3c h1,Qo h1]
 rw[I0,Aua hk hi (by omega),A1]
 have fin:∀ (E:List Nd),(bif (faF s.2 (peQ l (s.1+1)).2.2.1 (peQ l (s.1+1)).2.2.2).1==0 then(By (n+5) [59] l (peQ l (s.1+1)).2.1 (faF s.2 (peQ l (s.1+1)).2.2.1 (peQ l (s.1+1)).2.2.2).1 (faF s.2 (peQ l (s.1+1)).2.2.1 (peQ l (s.1+1)).2.2.2).2).bind fun y16=>some ((⟨k,E,(N0 l s.1).Ab⟩:Ag),y16.1,y16.2.1,y16.2.2)
  else(By (n+5) [59] l ((s.1+1:Nat):Int) (faF s.2 (peQ l (s.1+1)).2.2.1 (peQ l (s.1+1)).2.2.2).1 (faF s.2 (peQ l (s.1+1)).2.2.1 (peQ l (s.1+1)).2.2.2).2).bind fun y18=>some ((⟨k,E,(N0 l s.1).Ab⟩:Ag),y18.1,y18.2.1,y18.2.2))=some ((⟨k,E,(N0 l s.1).Ab⟩:Ag),((clF k l s).2.1:Int),(clF k l s).2.2.1,(clF k l s).2.2.2):=by
  intro E
  have e1:=Qj n [59] l (if(faF s.2 (peQ l (s.1+1)).2.2.1 (peQ l (s.1+1)).2.2.2).1=0 then(peQ l (s.1+1)).2.1.toNat else s.1+1,faF s.2 (peQ l (s.1+1)).2.2.1 (peQ l (s.1+1)).2.2.2) hl
  unfold clF
  dsimp only at e1 ⊢
  by_cases c:(faF s.2 (peQ l (s.1+1)).2.2.1 (peQ l (s.1+1)).2.2.2).1=0
  ·rw[if_pos c] at e1 ⊢
   rw[g1] at e1
   rw[beq_iff_eq.2 c,Af,e1,A1]
  ·rw[if_neg c] at e1 ⊢
   rw[Ca.2 c,An,e1,A1]
 rw[ea]
 have pf:=A73 (n+4) (peQ l (s.1+1)).2.2.1 (peQ l (s.1+1)).2.2.2 l ((s.1+1:Nat):Int) s.2 hz (Ahq hk hi)
 by_cases hzz:(peQ l (s.1+1)).1.length=0
 ·have hz':(peQ l (s.1+1)).1=[]:=List.length_eq_zero_iff.1 hzz
  rw[A6 hzz,pf,A1,show Hm (n+5) (n+5)=some (.out ()) from rfl,A1,hz']
  exact fin []
 ·have hL:=At4 (n+5) (peQ l (s.1+1)) (peQ l (s.1+1)).1.length 0 (n+5) (peQ l (s.1+1)).1 rfl (by omega) (by omega) (by omega) (by omega)
  rw[show((0:Nat):Int)=0 from rfl,List.take_zero,List.drop_zero,List.nil_append] at hL
  rw[Aq hzz,pf,A1,hL,A1]
  exact fin _
def cw (j:Nat):List UInt8:=cwS.getD j []
theorem Air (n:Nat) (j:Nat) (h:1≤j∧j≤3):Km (n+1) (j:Int)=some (cw j):=by
 have:j=1∨j=2∨j=3:=by omega
 rcases this with rfl | rfl | rfl<;>rfl
theorem Af4 {l:List Tk} {i:Nat} {w w':List UInt8} (h:Zj l i w=true) (hw:w≠w'):Zj l i w'=false:=by
 unfold Zj at h ⊢
 cases hx:l[i]? with
 | none=>rfl
 | some t =>
  rw[hx] at h
  simp only[Ah,beq_iff_eq] at h
  dsimp only
  rw[h.2,Ca.2 hw,Bool.and_false]
theorem A2o {l:List Tk} {s:Ps} {w w':List UInt8} (h:C9 w l s=true) (hw:w≠w'):C9 w' l s=false:=by
 unfold C9 at h ⊢
 rw[Ah] at h
 rw[Af4 h.2 hw,Bool.and_false]
theorem Aet {l:List Tk} {s:Ps} {j:Nat} (hj:1≤j∧j≤3) (h:C9 (cw j) l s=true):Hb l s=(j:Int):=by
 have:j=1∨j=2∨j=3:=by omega
 unfold Hb
 rcases this with rfl | rfl | rfl
 ·rw[show C9 [102,111,114,97,108,108] l s=true from h];rfl
 ·have h:C9 [101,120,105,115,116,115] l s=true:=h
  rw[A2o h (w':=[102,111,114,97,108,108]) (by decide),h];rfl
 ·have h:C9 [97,108,119,97,121,115] l s=true:=h
  rw[A2o h (w':=[102,111,114,97,108,108]) (by decide),A2o h (w':=[101,120,105,115,116,115]) (by decide),h];rfl
theorem Un {l:List Tk} {s:Ps} (h:∀ j,1≤j∧j≤3→C9 (cw j) l s=false):Hb l s=0:=by
 unfold Hb
 rw[show C9 [102,111,114,97,108,108] l s=false from h 1 (by omega),show C9 [101,120,105,115,116,115] l s=false from h 2 (by omega),show C9 [97,108,119,97,121,115] l s=false from h 3 (by omega)];rfl
theorem A6p {l:List Tk} {s:Ps} (h:s.2.1≠0):Hb l s=0:=Un fun j _=>A2l h
theorem Aak {T:Nat} {l:List Tk} (hk:Toks T l) {k:Int} {s:Ps} (hs:Cb l s) (h1:s.1 < l.length) (h0:s.2.1=0):Cb l (clF k l s).2∧Ew l (clF k l s).2 < Ew l s:=by
 obtain⟨q2,q3⟩:=Ahd hk k h1 h0
 exact⟨q2,Rq h0 hs q3 q2⟩
theorem Aex {T:Nat} {l:List Tk} (hk:Toks T l):∀ (m K K':Nat) (s:Ps) (acc:List Cl),Cb l s→Ew l s≤m→m < K→m < K'→Ia l K s acc=Ia l K' s acc:=by
 intro m
 induction m with
 | zero =>
  intro K K' s acc hs hm hK hK'
  obtain⟨K,rfl⟩:∃ j,K=j+1:=⟨K - 1,by omega⟩
  obtain⟨K',rfl⟩:∃ j,K'=j+1:=⟨K' - 1,by omega⟩
  rw[Ia,Ia,Un fun j _=>Yu hm];rfl
 | succ m ih =>
  intro K K' s acc hs hm hK hK'
  obtain⟨K,rfl⟩:∃ j,K=j+1:=⟨K - 1,by omega⟩
  obtain⟨K',rfl⟩:∃ j,K'=j+1:=⟨K' - 1,by omega⟩
  rw[Ia,Ia]
  by_cases c:0 < Hb l s
  ·obtain⟨h1,h0,_⟩:=A0o c
   obtain⟨g1,g2⟩:=Aak hk (k:=Hb l s) hs h1 h0
   rw[A6 c,A6 c]
   exact ih K K' _ _ g1 (by omega) (by omega) (by omega)
  ·rw[Aq c,Aq c]
noncomputable def Qv (l:List Tk) (s:Ps) (acc:List Cl):List Cl×Ps:=Ia l (l.length+2) s acc
theorem Ac9 {T:Nat} {l:List Tk} (hk:Toks T l) {s:Ps} {acc:List Cl} {j:Nat} (hj:1≤j∧j≤3) (hs:Cb l s) (h:C9 (cw j) l s=true):Qv l s acc=Qv l (clF (j:Int) l s).2 (acc++[(clF (j:Int) l s).1]):=by
 obtain⟨h1,h0⟩:=Je h
 obtain⟨g1,g2⟩:=Aak hk (k:=(j:Int)) hs h1 h0
 have hb:Ew l s≤l.length+1:=Og
 unfold Qv
 rw[show l.length+2=(l.length+1)+1 from rfl,Ia,Aet hj h,A6 (by omega)]
 exact Aex hk (l.length) _ _ _ _ g1 (by omega) (by omega) (by omega)
theorem Wj {l:List Tk} {s:Ps} {acc:List Cl} (h:Hb l s=0):Qv l s acc=(acc,s):=by
 unfold Qv
 rw[Ia,h];rfl
noncomputable def Fk (l:List Tk) (j:Nat) (r:Bool×Ps×List Cl):Bool×Ps×List Cl:=bif C9 (cw j) l r.2.1 then(true,(clF (j:Int) l r.2.1).2,r.2.2++[(clF (j:Int) l r.2.1).1]) else r
structure Aa9 (l:List Tk) (s0:Ps) (a0:List Cl) (r:Bool×Ps×List Cl):Prop where
 ok:Cb l r.2.1
 z:PsZ r.2.1
 same:Qv l r.2.1 r.2.2=Qv l s0 a0
 off:r.1=false→r.2.1=s0∧r.2.2=a0
 on:r.1=true→Ew l r.2.1 < Ew l s0
 le:Ew l r.2.1≤Ew l s0
 cnt:r.2.2.length+Ew l r.2.1≤a0.length+Ew l s0
theorem Yj {T:Nat} {l:List Tk} (hk:Toks T l) {s0:Ps} {a0:List Cl} {r:Bool×Ps×List Cl} {j:Nat} (hj:1≤j∧j≤3) (h:Aa9 l s0 a0 r):Aa9 l s0 a0 (Fk l j r):=by
 unfold Fk
 cases hc:C9 (cw j) l r.2.1 with
 | false=>exact h
 | true =>
  obtain⟨h1,h0⟩:=Je hc
  obtain⟨g1,g2⟩:=Aak hk (k:=(j:Int)) h.ok h1 h0
  have hle:=h.le
  refine⟨g1,Asn hk (k:=(j:Int)) h1 h.z,?_,fun e=>(by cases e),fun _=>?_,?_,?_⟩
  ·dsimp only [cond_true];rw[← Ac9 hk hj h.ok hc];exact h.same
  ·show Ew l (clF (j:Int) l r.2.1).2 < _;omega
  ·show Ew l (clF (j:Int) l r.2.1).2≤_;omega
  ·show(r.2.2++[(clF (j:Int) l r.2.1).1]).length+Ew l (clF (j:Int) l r.2.1).2≤_
   have:=h.cnt
   rw[List.length_append,List.length_singleton];omega
theorem Ta {T:Nat} {l:List Tk} (hk:Toks T l) (n:Nat) (y:List Tk×Int×Int) (hy:y.1=l) (hn:18*l.length+T+1000≤n) (k:Nat) (j:Nat) (hj:1≤j∧j≤3) (r:Bool×Ps×List Cl) (hs:Cb l r.2.1) (hz:PsZ r.2.1) (ha:r.2.2.length≤l.length+5) :
 E3 n y (k+1) r.1 (j:Int) (r.2.1.1:Int) r.2.1.2.1 r.2.1.2.2 r.2.2=E3 n y k (Fk l j r).1 ((j+1:Nat):Int) ((Fk l j r).2.1.1:Int) (Fk l j r).2.1.2.1 (Fk l j r).2.1.2.2 (Fk l j r).2.2:=by
 subst hy
 have hl:=hk.len
 obtain⟨n,rfl⟩:∃ q,n=q+6:=⟨n - 6,by omega⟩
 have hnx:=Oi (n+4) 1 (cw j) y.1 r.2.1 hl
 rw[E3,A6 (by omega),Air (n+5) j hj,A1,Le,hnx,A1,Tb,Ay j (by omega),Fk]
 cases hc:C9 (cw j) y.1 r.2.1 with
 | false=>rfl
 | true =>
  obtain⟨h1,h0⟩:=Je hc
  dsimp only [nxB,cond_true]
  rw[Ajq hk (n+6) (j:Int) r.2.1 h1 hz (by omega),A1,A6 (by omega)]
theorem Afu {T:Nat} {l:List Tk} (hk:Toks T l) (n:Nat) (y:List Tk×Int×Int) (hy:y.1=l) (hn:18*l.length+T+1000≤n):∀ (m k:Nat) (s:Ps) (acc:List Cl),Cb l s→PsZ s→Ew l s≤m→m+1 < k→acc.length+Ew l s≤l.length+2 →
 Hs n y k true (s.1:Int) s.2.1 s.2.2 acc=some (.out (((Qv l s acc).2.1:Int),(Qv l s acc).2.2.1,(Qv l s acc).2.2.2,(Qv l s acc).1))∧Cb l (Qv l s acc).2∧PsZ (Qv l s acc).2:=by
 have hl:=hk.len
 intro m
 induction m with
 | zero=>
   intro k s acc hs hz hm hk' ha
   obtain⟨k,rfl⟩:∃ j,k=j+2:=⟨k - 2,by omega⟩
   obtain⟨n,rfl⟩:∃ q,n=q+6:=⟨n - 6,by omega⟩
   have c0:Aa9 l s acc (false,s,acc):=⟨hs,hz,rfl,fun _=>⟨rfl,rfl⟩,fun e=>(by cases e),Nat.le_refl _,Nat.le_refl _⟩
   have kn:∀ w,C9 w l s=false:=fun w=>Yu hm
   have w1:=Ta hk (n+6) y hy hn (n+5) 1 (by omega) (false,s,acc) hs hz (by dsimp only;omega)
   have e1:Fk l 1 (false,s,acc)=(false,s,acc):=by unfold Fk;rw[kn];rfl
   have w2:=Ta hk (n+6) y hy hn (n+4) 2 (by omega) (false,s,acc) hs hz (by dsimp only;omega)
   have e2:Fk l 2 (false,s,acc)=(false,s,acc):=by unfold Fk;rw[kn];rfl
   have w3:=Ta hk (n+6) y hy hn (n+3) 3 (by omega) (false,s,acc) hs hz (by dsimp only;omega)
   have e3:Fk l 3 (false,s,acc)=(false,s,acc):=by unfold Fk;rw[kn];rfl
   rw[e1] at w1;rw[e2] at w2;rw[e3] at w3
   have w:E3 (n+6) y (n+6) false 1 (s.1:Int) s.2.1 s.2.2 acc=some (.out (false,(s.1:Int),s.2.1,s.2.2,acc)):=by
    refine w1.trans (w2.trans (w3.trans ?_))
    rw[E3,Aq (by omega)]
   rw[Hs,Af,w,A1,Wj (Un fun j _=>kn _)]
   exact⟨rfl,hs,hz⟩
 | succ m ih =>
  intro k s acc hs hz hm hk' ha
  obtain⟨k,rfl⟩:∃ j,k=j+2:=⟨k - 2,by omega⟩
  have c0:Aa9 l s acc (false,s,acc):=⟨hs,hz,rfl,fun _=>⟨rfl,rfl⟩,fun e=>(by cases e),Nat.le_refl _,Nat.le_refl _⟩
  have c1:=Yj hk (j:=1) (by omega) c0
  have c2:=Yj hk (j:=2) (by omega) c1
  have c3:=Yj hk (j:=3) (by omega) c2
  obtain⟨n,rfl⟩:∃ q,n=q+6:=⟨n - 6,by omega⟩
  have w1:=Ta hk (n+6) y hy hn (n+5) 1 (by omega) (false,s,acc) hs hz (by dsimp only;omega)
  have w2:=Ta hk (n+6) y hy hn (n+4) 2 (by omega) _ c1.ok c1.z (by have:=c1.cnt;omega)
  have w3:=Ta hk (n+6) y hy hn (n+3) 3 (by omega) _ c2.ok c2.z (by have:=c2.cnt;omega)
  generalize hR:Fk l 3 (Fk l 2 (Fk l 1 (false,s,acc)))=R at *
  have w:E3 (n+6) y (n+6) false 1 (s.1:Int) s.2.1 s.2.2 acc=some (.out (R.1,(R.2.1.1:Int),R.2.1.2.1,R.2.1.2.2,R.2.2)):=by
   refine w1.trans (w2.trans (w3.trans ?_))
   rw[E3,Aq (by omega)]
  rw[Hs,Af,w,A1]
  dsimp only
  cases hf:R.1 with
  | true =>
   have h1:=c3.on hf
   have:=ih (k+1) R.2.1 R.2.2 c3.ok c3.z (by omega) (by omega) (by have:=c3.cnt;omega)
   rw[c3.same] at this
   exact this
  | false =>
   obtain⟨h1,h2⟩:=c3.off hf
   have hno:∀ j,1≤j∧j≤3→C9 (cw j) l s=false:=by
    have d1:(Fk l 2 (Fk l 1 (false,s,acc))).1=false∧C9 (cw 3) l (Fk l 2 (Fk l 1 (false,s,acc))).2.1=false:=by
     rw[← hR] at hf
     generalize Fk l 2 (Fk l 1 (false,s,acc))=q at hf ⊢
     unfold Fk at hf
     cases hc:C9 (cw 3) l q.2.1 with
     | true=>rw[hc] at hf;cases hf
     | false=>rw[hc] at hf;exact⟨hf,rfl⟩
    have d2:(Fk l 1 (false,s,acc)).1=false∧C9 (cw 2) l (Fk l 1 (false,s,acc)).2.1=false:=by
     have hf:=d1.1
     generalize Fk l 1 (false,s,acc)=q at hf ⊢
     unfold Fk at hf
     cases hc:C9 (cw 2) l q.2.1 with
     | true=>rw[hc] at hf;cases hf
     | false=>rw[hc] at hf;exact⟨hf,rfl⟩
    have d3:C9 (cw 1) l s=false:=by
     have hf:=d2.1
     unfold Fk at hf
     cases hc:C9 (cw 1) l s with
     | true=>rw[show C9 (cw 1) l (false,s,acc).2.1=true from hc] at hf;cases hf
     | false=>rfl
    have k2:=d2.2
    rw[(c1.off d2.1).1] at k2
    have k3:=d1.2
    rw[(c2.off d1.1).1] at k3
    intro j hj
    have:j=1∨j=2∨j=3:=by omega
    rcases this with rfl | rfl | rfl
    ·exact d3
    ·exact k2
    ·exact k3
   rw[h1,h2,Wj (Un hno)]
   exact⟨rfl,hs,hz⟩
theorem Aj8 {s:List UInt8} (hs:s.length≤20000) {n:Nat} (hn:20*s.length+1200≤n):Gj n s=some (Qb s):=by
 obtain⟨n,rfl⟩:∃ j,n=j+6:=⟨n - 6,by omega⟩
 have hk:=A2e s (by omega)
 have hlen:=(Wb s).2
 have hl:=hk.len
 rw[Gj,Ae0 (n+5) s (by omega),A1,Qb]
 cases herr:(Hr s).err != 0 with
 | true =>
  rw[show((Rc (Hr s)).2.1 != 0)=true from herr,Af,Af];rfl
 | false =>
  rw[show((Rc (Hr s)).2.1 != 0)=false from herr,An,An]
  have hy:(Rc (Hr s)).1=Qx s:=rfl
  generalize hY:Rc (Hr s)=y at *
  rw[hy]
  generalize Qx s=l at *
  have hfin:∀ (m:Int) (v:List Va) (t:List Th) (c:List Cl) (z:Ps),Cb l z→(bif decide ((z.1:Int) < ((l.length:Nat):Int)) then(Dk (n+5) l (z.1:Int) z.2.1 z.2.2).bind fun y93=>bif y93.1 != 0 then some ((⟨0,[],[],[]⟩:Az),y93.1,y93.2) else some ((⟨m,v,t,c⟩:Az),0,0) else bif z.2.1 != 0 then some ((⟨0,[],[],[]⟩:Az),z.2.1,z.2.2) else some ((⟨m,v,t,c⟩:Az),0,0))=some (bif (Oh l z).2.1 != 0 then(noP,(Oh l z).2) else(⟨m,v,t,c⟩,0,0)):=by
   intro m v t c z hz
   unfold Oh
   by_cases h:z.1 < l.length
   ·rw[A6 (show(z.1:Int) < ((l.length:Nat):Int) by omega),decide_eq_true h,Af,A7d (n+3) l z hl,A1]
    cases (wr l z).2.1 != 0<;>rfl
   ·rw[Aq (show ¬ (z.1:Int) < ((l.length:Nat):Int) by omega),decide_eq_false h,An]
    cases z.2.1 != 0<;>rfl
  have m1:=A9o (n+2) 1 [109,111,100] l ((0,0,0):Ps) hl
  rw[show(((0:Nat),(0:Int),(0:Int)).1:Int)=0 from rfl] at m1
  dsimp only at m1
  rw[Le,m1,A1]
  dsimp only
  have hm0:mtB ((0:Int)==0&&isT 1 [109,111,100] l 0) l (0,0,0)=bif C9 [109,111,100] l (0,0,0) then(1,0,0) else wr l (0,0,0):=rfl
  have p1:Cb l (bif C9 [109,111,100] l (0,0,0) then((1,0,0):Ps) else wr l (0,0,0)):=by
   cases hc:C9 [109,111,100] l (0,0,0) with
   | true=>exact(Je hc).1
   | false=>show(wr l (0,0,0)).1≤l.length;rw[U7];exact Nat.zero_le _
  have z1:PsZ (bif C9 [109,111,100] l (0,0,0) then((1,0,0):Ps) else wr l (0,0,0)):=by
   cases hc:C9 [109,111,100] l (0,0,0) with
   | true=>exact fun _=>rfl
   | false=>exact Aa8 l (0,0,0)
  rw[hm0]
  have hst:Li l=((nuF l (bif C9 [109,111,100] l (0,0,0) then((1,0,0):Ps) else wr l (0,0,0))).1,sgF [59] l (nuF l (bif C9 [109,111,100] l (0,0,0) then((1,0,0):Ps) else wr l (0,0,0))).2):=rfl
  unfold T4
  rw[hst]
  generalize (bif C9 [109,111,100] l (0,0,0) then((1,0,0):Ps) else wr l (0,0,0))=S0 at *
  obtain⟨tk,e1,e2⟩:=Abp (n+2) l S0 hl
  rw[e1,A1]
  dsimp only
  have p2:=A1i p1
  have p3:=Kt (w:=[59]) p2
  have z3:PsZ (sgF [59] l (nuF l S0).2):=Uu (Ahj z1)
  have e3:=Qj n [59] l (nuF l S0).2 hl
  rw[e3,A1,Le]
  dsimp only
  rw[e2]
  generalize (nuF l S0).1=md at *
  generalize hS1:sgF [59] l (nuF l S0).2=S1 at *
  have e4:=Oi (n+3) 1 [108,111,99] l S1 hl
  rw[e4,A1,Tb]
  obtain⟨v1,v2⟩:=Ao8 hk (n+5) y hy (by omega) (l.length+1) (n+5) (l.length+2) S1 [] p3 Og (by omega) (by omega) (by simp)
  obtain⟨p4,_⟩:=A5v (l.length+2) S1 [] p3 (Nat.zero_le _)
  have z4:=v2 z3
  rw[v1,A1]
  dsimp only
  rw[Le]
  generalize hV:Fh l (l.length+2) S1 []=V at *
  have e5:=Oi (n+3) 1 [116,104,114,101,97,100] l V.2 hl
  rw[e5,A1,Tb]
  obtain⟨t1,p5,z5⟩:=Anh hk (n+5) y hy (by omega) (l.length+1) (n+5) (l.length+2) V.2 [] p4 z4 Og (by omega) (by omega) (by simp)
  rw[t1,A1]
  dsimp only
  obtain⟨q1,q2,q3⟩:=Akf l (l.length+2) V.2 []
  generalize hW:L6 l (l.length+2) V.2 []=W at *
  generalize hF:Gs l (l.length+2) V.2 []=F at *
  obtain⟨c1,p6,z6⟩:=Afu hk (n+5) y hy (by omega) (l.length+1) (n+5) W.2 [] p5 z5 Og (by omega) (by have:=Og (l:=l) (s:=W.2);simp;omega)
  rw[c1,A1]
  dsimp only
  rw[hfin _ _ _ _ _ p6]
  have hA:Ia l (l.length+2) F.2 []=Qv l F.2 []:=rfl
  rw[hA,← q1]
  by_cases c:W.2.2.1=0
  ·rw[q3 c]
  ·rw[Wj (A6p c),Wj (A6p (by rw[← q2];exact c))]
   dsimp only
   have l1:(Oh l W.2).2=W.2.2:=by
    unfold Oh wr
    cases decide (W.2.1 < l.length)<;>rw[Ca.2 c]<;>rfl
   have l2:(Oh l F.2).2=W.2.2:=by
    unfold Oh wr
    rw[q2] at c ⊢
    cases decide (F.2.1 < l.length)<;>rw[Ca.2 c]<;>rfl
   rw[l1,l2,bne_iff_ne.2 c]
abbrev Mi:=List (List UInt8×Int)
abbrev Mm:=List (List UInt8×Mi)
theorem Yc {ν:Type}:∀ (m:List (List UInt8×ν)) (x s:List UInt8) (v z:ν),Bf (Re m x v) s z=if s=x then v else Bf m s z
 | [],x,s,v,z=>by simp only[Re,Bf]
 | p :: m,x,s,v,z=>by
  rw[Re]
  by_cases h:x=p.1
  ·subst h
   rw[if_pos rfl,Bf,Bf]
   by_cases h2:s=p.1
   ·rw[if_pos h2,if_pos h2]
   ·rw[if_neg h2,if_neg h2,if_neg h2]
  ·rw[if_neg h,Bf,Bf,Yc m x s v z]
   by_cases h2:s=p.1
   ·rw[if_pos h2,if_pos h2,if_neg (by rw[h2];exact fun e=>h e.symm)]
   ·rw[if_neg h2,if_neg h2]
theorem A3w {ν:Type}:∀ (m:List (List UInt8×ν)) (x s:List UInt8) (v:ν),V2 (Re m x v) s=(decide (s=x) || V2 m s)
 | [],x,s,v=>by simp only[Re,V2];by_cases h:s=x<;>simp[h]
 | p :: m,x,s,v=>by
  rw[Re]
  by_cases h:x=p.1
  ·subst h
   rw[if_pos rfl,V2,V2]
   by_cases h2:s=p.1<;>simp[h2]
  ·rw[if_neg h,V2,V2,A3w m x s v]
   by_cases h2:s=p.1
   ·simp[h2]
   ·simp[h2]
def Cnt (m:Mi) (l:List (List UInt8)) (b:Nat):Prop:=∀ s,0≤Bf m s 0∧Bf m s 0≤(b:Int)∧(0 < Bf m s 0↔s ∈ l)
theorem Cnt.nil:Cnt [] [] 0:=fun s=>⟨Int.le_refl _,Int.le_refl _,by simp[Bf]⟩
theorem Cnt.step {m:Mi} {l:List (List UInt8)} {b:Nat} (h:Cnt m l b) (hb:b < 1000000) (x:List UInt8):Cnt (Re m x (IntKind.i64.wrap (Bf m x 0+1))) (l++[x]) (b+1):=by
 intro s
 obtain⟨h1,h2,h3⟩:=h s
 obtain⟨k1,k2,k3⟩:=h x
 rw[Yc,Cx (by omega)]
 by_cases e:s=x
 ·subst e;rw[if_pos rfl];exact⟨by omega,by omega,by constructor;·simp
                                                    ·intro _;omega⟩
 ·rw[if_neg e];refine⟨h1,by omega,?_⟩
  rw[h3];simp[e]
theorem Cnt.has {m:Mi} {l:List (List UInt8)} {b:Nat} (h:Cnt m l b) (s:List UInt8):decide (0 < Bf m s 0)=l.contains s:=by
 rw[Bool.eq_iff_iff,C1,List.contains_iff_mem];exact(h s).2.2
theorem Cnt.no {m:Mi} {l:List (List UInt8)} {b:Nat} (h:Cnt m l b) (s:List UInt8):(Bf m s 0==0)=!l.contains s:=by
 rw[← h.has s,Bool.eq_iff_iff,beq_iff_eq,Bool.not_eq_true',decide_eq_false_iff_not]
 have:=(h s).1;omega
def nmT (l:List Th):List (List UInt8):=l.map Ae.Ao
def TM (m:Mm) (l:List Th):Prop:=∀ s,V2 m s=(nmT l).contains s∧match l.find? (fun t=>t.Ao==s) with
 | some t=>∃ b,Cnt (Bf m s []) t.Bh b
 | none=>Bf m s []=[]
theorem TM.nil:TM [] []:=fun s=>⟨rfl,rfl⟩
theorem A40 {l:List Th} {s:List UInt8}:l.find? (fun t=>t.Ao==s)=none↔(nmT l).contains s=false:=by
 rw[List.find?_eq_none,← Bool.not_eq_true,List.contains_iff_mem,nmT,List.mem_map]
 constructor
 ·rintro h ⟨t,ht,e⟩;exact h t ht (by rw[e];simp)
 ·rintro h t ht e;exact h ⟨t,ht,by simpa using e⟩
theorem TM.step {m:Mm} {l:List Th} (h:TM m l) (t:Th) {r:Mi} {b:Nat} (hr:Cnt r t.Bh b):TM (if V2 m t.Ao then m else Re m t.Ao r) (l++[t]):=by
 intro s
 obtain⟨h1,h2⟩:=h s
 have hc:(nmT (l++[t])).contains s=((nmT l).contains s || decide (s=t.Ao)):=by
  rw[Bool.eq_iff_iff,List.contains_iff_mem,Bool.or_eq_true,List.contains_iff_mem,C1];simp[nmT]
 rw[List.find?_append]
 by_cases c:V2 m t.Ao=true
 ·rw[if_pos c]
  refine⟨?_,?_⟩
  ·rw[hc,h1];by_cases e:s=t.Ao
   ·subst e;rw[← h1,c];rfl
   ·simp[e]
  ·cases hf:l.find? (fun t=>t.Ao==s) with
   | some u=>rw[hf] at h2;exact h2
   | none =>
    rw[hf] at h2
    have e:(t.Ao==s)=false:=by
     rw[beq_eq_false_iff_ne];intro e
     have:=A40.1 hf
     rw[← h1,← e,c] at this;cases this
    simp only[List.find?_cons,e,List.find?_nil,Option.none_or]
    exact h2
 ·rw[if_neg c]
  refine⟨?_,?_⟩
  ·rw[hc,A3w,h1,Bool.or_comm]
  ·rw[Yc]
   by_cases e:s=t.Ao
   ·subst e
    have hf:l.find? (fun u=>u.Ao==t.Ao)=none:=A40.2 (by rw[← h1];simpa using c)
    rw[hf,if_pos rfl]
    simp only[List.find?_cons,beq_self_eq_true,Option.none_or]
    exact⟨b,hr⟩
   ·rw[if_neg e]
    cases hf:l.find? (fun t=>t.Ao==s) with
    | some u=>rw[hf] at h2;exact h2
    | none =>
     rw[hf] at h2
     simp only[List.find?_cons,Ca.2 (Ne.symm e),List.find?_nil,Option.none_or]
     exact h2
def lgX (x:St):Bool:=!decide (100 < ((x.Bd.length:Nat):Int))&&(!decide (100 < ((x.Be.length:Nat):Int))&&(Hn x.Bm&&Hn x.C6))
theorem B1w {x:St} (h:lgX x=true):LightX x:=by
 simp only[lgX,Ah,Bool.not_eq_true',decide_eq_false_iff_not] at h
 exact⟨by omega,by omega,h.2.2.1,h.2.2.2⟩
theorem Axf (n:Nat) (l:List St) (hn:400 < n):X5 n l=some (!decide (60 < ((l.length:Nat):Int))&&l.all lgX):=by
 obtain⟨n,rfl⟩:∃ j,n=j+1:=⟨n - 1,by omega⟩
 rw[X5]
 by_cases c:60 < ((l.length:Nat):Int)
 ·rw[A6 c,decide_eq_true c];rfl
 have hL:O9 n l n 0=bif l.all lgX then some (.out ()) else some (.ret false):=by
  refine Nh l (fun k i=>O9 n l k (i:Int)) _ (fun k=>?_) (fun k i x hi hx=>?_) (by omega)
  ·rw[O9,Aq (by omega)]
  ·rw[O9,A6 (by omega)]
   simp only[Cn hx,A1,Ad8 n x.Bm (by omega),Ad8 n x.C6 (by omega),Ay i (show i < 4611686018427387904 by omega)]
   unfold lgX
   cases decide (100 < ((x.Bd.length:Nat):Int))<;>cases decide (100 < ((x.Be.length:Nat):Int))<;>cases Hn x.Bm<;>cases Hn x.C6<;>rfl
 rw[Aq c,decide_eq_false c,hL]
 cases l.all lgX<;>rfl
def lgT (t:Th):Bool:=!decide (100 < ((t.Ao.length:Nat):Int))&&(!decide (20 < ((t.Bh.length:Nat):Int))&&((!decide (60 < ((t.B5.length:Nat):Int))&&t.B5.all lgX)&&t.Bh.all (fun r=>!decide (100 < ((r.length:Nat):Int)))))
def lgP (p:Pg):Bool:=!decide (20 < ((p.B0.length:Nat):Int))&&(!decide (8 < ((p.Ak.length:Nat):Int))&&(!decide (12 < ((p.Ar.length:Nat):Int))&&(p.B0.all (fun v=>!decide (100 < ((v.Ao.length:Nat):Int)))&&(p.Ak.all lgT&&p.Ar.all (fun c=>Hn c.Bm)))))
theorem Azu (n:Nat) (p:Pg) (hn:1000 < n):X2 n p=some (lgP p):=by
 obtain⟨n,rfl⟩:∃ j,n=j+1:=⟨n - 1,by omega⟩
 rw[X2,lgP]
 by_cases c1:20 < ((p.B0.length:Nat):Int)
 ·rw[A6 c1,decide_eq_true c1];rfl
 by_cases c2:8 < ((p.Ak.length:Nat):Int)
 ·rw[Aq c1,A6 c2,decide_eq_true c2,decide_eq_false c1];rfl
 by_cases c3:12 < ((p.Ar.length:Nat):Int)
 ·rw[Aq c1,Aq c2,A6 c3,decide_eq_true c3,decide_eq_false c1,decide_eq_false c2];rfl
 have hA:O8 n p n 0=bif p.B0.all (fun v=>!decide (100 < ((v.Ao.length:Nat):Int))) then some (.out ()) else some (.ret false):=by
  refine Nh p.B0 (fun k i=>O8 n p k (i:Int)) _ (fun k=>?_) (fun k i x hi hx=>?_) (by omega)
  ·rw[O8,Aq (by omega)]
  ·rw[O8,A6 (by omega),Cn hx,A1,Ay i (by omega)]
   cases decide (100 < ((x.Ao.length:Nat):Int))<;>rfl
 have hB:Om n p n 0=bif p.Ak.all lgT then some (.out ()) else some (.ret false):=by
  refine Nh p.Ak (fun k i=>Om n p k (i:Int)) _ (fun k=>?_) (fun k i x hi hx=>?_) (by omega)
  ·rw[Om,Aq (by omega)]
  ·rw[Om,A6 (by omega),Cn hx,A1,Axf n x.B5 (by omega),Ay i (by omega)]
   unfold lgT
   by_cases d2:20 < ((x.Bh.length:Nat):Int)
   ·rw[A6 d2,decide_eq_true d2];cases decide (100 < ((x.Ao.length:Nat):Int))<;>rfl
   have hR:Oa n x n 0=bif x.Bh.all (fun r=>!decide (100 < ((r.length:Nat):Int))) then some (.out ()) else some (.ret false):=by
    refine Nh x.Bh (fun k i=>Oa n x k (i:Int)) _ (fun k=>?_) (fun k i y hi hy=>?_) (by omega)
    ·rw[Oa,Aq (by omega)]
    ·rw[Oa,A6 (by omega),Cn hy,A1,Ay i (by omega)]
     cases decide (100 < ((y.length:Nat):Int))<;>rfl
   rw[Aq d2,decide_eq_false d2,hR]
   simp only[A1]
   cases decide (100 < ((x.Ao.length:Nat):Int))<;>cases (!decide (60 < ((x.B5.length:Nat):Int))&&x.B5.all lgX)<;>cases x.Bh.all (fun r=>!decide (100 < ((r.length:Nat):Int)))<;>rfl
 have hC:Oe n p n 0=bif p.Ar.all (fun c=>Hn c.Bm) then some (.out ()) else some (.ret false):=by
  refine Nh p.Ar (fun k i=>Oe n p k (i:Int)) _ (fun k=>?_) (fun k i x hi hx=>?_) (by omega)
  ·rw[Oe,Aq (by omega)]
  ·rw[Oe,A6 (by omega),Cn hx,A1,Ad8 n x.Bm (by omega),A1,Ay i (by omega)]
 rw[Aq c1,Aq c2,Aq c3,decide_eq_false c1,decide_eq_false c2,decide_eq_false c3,hA,hB,hC]
 cases p.B0.all (fun v=>!decide (100 < ((v.Ao.length:Nat):Int)))<;>cases p.Ak.all lgT<;>cases p.Ar.all (fun c=>Hn c.Bm)<;>rfl
theorem Avg {p:Pg} (h:lgP p=true):Ux p∧p.B0.length≤20:=by
 simp only[lgP,lgT,Ah,Bool.not_eq_true',decide_eq_false_iff_not,List.all_eq_true] at h
 obtain⟨h1,h2,h3,h4,h5,h6⟩:=h
 refine⟨⟨by omega,by omega,by omega,fun v hv=>?_,fun t ht=>?_,h6⟩,by omega⟩
 ·have:=h4 v hv;omega
 ·obtain⟨a1,a2,⟨a3,a4⟩,a5⟩:=h5 t ht
  exact⟨by omega,by omega,fun r hr=>by have:=a5 r hr;omega,by omega,fun x hx=>B1w (a4 x hx)⟩
def zN (x:Nd):Nd:=⟨x.B3,x.Bs,x.Ao,x.Cq,0⟩
def zS (x:St):St:=⟨x.A7,x.Bd,x.Be,x.Bm.map zN,x.C6.map zN,x.Br,x.B5,x.Ch,0⟩
def zV (v:Va):Va:=⟨v.Ao,v.Bs,0⟩
def zT (t:Th):Th:=⟨t.Ao,t.Bh,t.B5.map zS,0⟩
def zC (c:Cl):Cl:=⟨c.A7,c.Bm.map zN,0⟩
def zP (p:Pg):Pg:=⟨p.Bo,p.B0.map zV,p.Ak.map zT,p.Ar.map zC⟩
def zNb (pl:Bool) (x:Nd):Nd:=bif pl then x else zN x
def zSb (pl:Bool) (x:St):St:=bif pl then x else zS x
def zVb (pl:Bool) (x:Va):Va:=bif pl then x else zV x
def zTb (pl:Bool) (x:Th):Th:=bif pl then x else zT x
def zCb (pl:Bool) (x:Cl):Cl:=bif pl then x else zC x
theorem Sf {α β:Type} {f:α→β} {a b:List α} (h:a.map f=b.map f):a.length=b.length:=by have:=congrArg List.length h;simpa using this
theorem Y0 {α β:Type} {f:α→β} {a b:List α} (h:a.map f=b.map f) {i:Nat} (hi:i < a.length) (hj:i < b.length):f a[i]=f b[i]:=by
 have:=congrArg (fun l=>l[i]?) h
 simpa [Ax hi,Ax hj] using this
theorem As7 {pl:Bool} {x y:Nd} (h:zNb pl x=zNb pl y):x.B3=y.B3∧x.Bs=y.Bs∧x.Ao=y.Ao∧x.Cq=y.Cq∧(pl=true→x.Ab=y.Ab):=by
 cases pl with
 | true=>have h:x=y:=h;subst h;exact⟨rfl,rfl,rfl,rfl,fun _=>rfl⟩
 | false =>
  have h:zN x=zN y:=h
  unfold zN at h
  injection h with h1 h2 h3 h4
  exact⟨h1,h2,h3,h4,fun e=>by cases e⟩
theorem Atc {pl:Bool} {x y:St} (h:zSb pl x=zSb pl y):x.A7=y.A7∧x.Bd=y.Bd∧x.Be=y.Be∧x.Br=y.Br∧x.B5=y.B5∧x.Ch=y.Ch∧x.Bm.map (zNb pl)=y.Bm.map (zNb pl)∧x.C6.map (zNb pl)=y.C6.map (zNb pl)∧(pl=true→x.Ab=y.Ab):=by
 cases pl with
 | true=>have h:x=y:=h;subst h;exact⟨rfl,rfl,rfl,rfl,rfl,rfl,rfl,rfl,fun _=>rfl⟩
 | false =>
  have h:zS x=zS y:=h
  unfold zS at h
  injection h with h1 h2 h3 h4 h5 h6 h7 h8
  exact⟨h1,h2,h3,h6,h7,h8,h4,h5,fun e=>by cases e⟩
theorem Au4 {pl:Bool} {x y:Va} (h:zVb pl x=zVb pl y):x.Ao=y.Ao∧x.Bs=y.Bs∧(pl=true→x.Ab=y.Ab):=by
 cases pl with
 | true=>have h:x=y:=h;subst h;exact⟨rfl,rfl,fun _=>rfl⟩
 | false =>
  have h:zV x=zV y:=h
  unfold zV at h
  injection h with h1 h2
  exact⟨h1,h2,fun e=>by cases e⟩
theorem Aue {pl:Bool} {x y:Th} (h:zTb pl x=zTb pl y):x.Ao=y.Ao∧x.Bh=y.Bh∧x.B5.map (zSb pl)=y.B5.map (zSb pl)∧(pl=true→x.Ab=y.Ab):=by
 cases pl with
 | true=>have h:x=y:=h;subst h;exact⟨rfl,rfl,rfl,fun _=>rfl⟩
 | false =>
  have h:zT x=zT y:=h
  unfold zT at h
  injection h with h1 h2 h3
  exact⟨h1,h2,h3,fun e=>by cases e⟩
theorem Ast {pl:Bool} {x y:Cl} (h:zCb pl x=zCb pl y):x.A7=y.A7∧x.Bm.map (zNb pl)=y.Bm.map (zNb pl)∧(pl=true→x.Ab=y.Ab):=by
 cases pl with
 | true=>have h:x=y:=h;subst h;exact⟨rfl,rfl,fun _=>rfl⟩
 | false =>
  have h:zC x=zC y:=h
  unfold zC at h
  injection h with h1 h2
  exact⟨h1,h2,fun e=>by cases e⟩
theorem Q6 {τ:Type} (N:Nat) (hN:N < 1000000) (L:Nat→Nat→Option τ) (o:Option τ) (h0:∀ k,L (k+1) N=o) (h1:∀ k i,i < N→L (k+1) i=L k (i+1)):∀ (m i k:Nat),i+m=N→m < k→L k i=o:=by
 intro m
 induction m with
 | zero =>
  intro i k h hk
  obtain⟨k,rfl⟩:∃ j,k=j+1:=⟨k - 1,by omega⟩
  obtain rfl:i=N:=by omega
  exact h0 k
 | succ m ih =>
  intro i k h hk
  obtain⟨k,rfl⟩:∃ j,k=j+1:=⟨k - 1,by omega⟩
  rw[h1 k i (by omega)]
  exact ih (i+1) k (by omega) (by omega)
theorem A2y (n:Nat) (pl:Bool) (a b:List Nd) (h:a.map (zNb pl)=b.map (zNb pl)) (hl:a.length < 1000000) (hn:a.length+2 < n):Hh n a b pl=some true:=by
 obtain⟨n,rfl⟩:∃ j,n=j+1:=⟨n - 1,by omega⟩
 have hab:=Sf h
 have:=Q6 a.length hl (fun k i=>Fz n a b k pl (i:Int)) (some (.out ())) (fun k=>by rw[Fz,Aq (by omega)]) (fun k i hi=>?_) a.length 0 n (by omega) (by omega)
 ·have this:Fz n a b n pl 0=some (.out ()):=this
  rw[Hh,hab,bne_self_eq_false,An,this];rfl
 ·obtain⟨f1,f2,f3,f4,f5⟩:=As7 (Y0 h hi (by omega))
  rw[Fz,A6 (by omega)]
  simp only[C8 hi,C8 (show i < b.length by omega),A1,f1,f2,f3,f4,bne_self_eq_false,An,beq_self_eq_true,Af,Ay i (show i < 4611686018427387904 by omega)]
  cases pl with
  | false=>rfl
  | true=>rw[f5 rfl,bne_self_eq_false];rfl
theorem Ais (n:Nat) (pl:Bool) (a b:List St) (h:a.map (zSb pl)=b.map (zSb pl)) (hl:a.length≤4000) (hx:∀ x ∈ a,x.Bm.length≤4000∧x.C6.length≤4000) (hn:4100 < n):O2 n a b pl=some true:=by
 obtain⟨n,rfl⟩:∃ j,n=j+1:=⟨n - 1,by omega⟩
 have hab:=Sf h
 have:=Q6 a.length (by omega) (fun k i=>Fv n a b k pl (i:Int)) (some (.out ())) (fun k=>by rw[Fv,Aq (by omega)]) (fun k i hi=>?_) a.length 0 n (by omega) (by omega)
 ·have this:Fv n a b n pl 0=some (.out ()):=this
  rw[O2,hab,bne_self_eq_false,An,this];rfl
 ·have hj:i < b.length:=by omega
  obtain⟨f1,f2,f3,f4,f5,f6,f7,f8,f9⟩:=Atc (Y0 h hi hj)
  have h2:=hx a[i] (List.getElem_mem hi)
  rw[Fv,A6 (by omega)]
  have g1:=A2y n pl _ _ f7 (by omega) (by omega)
  have g2:=A2y n pl _ _ f8 (by omega) (by omega)
  simp only[C8 hi,C8 hj,A1,f1,f2,f3,f4,f5,f6,bne_self_eq_false,An,beq_self_eq_true,Af,Ay i (show i < 4611686018427387904 by omega)]
  cases pl with
  | false=>rw[An,g1,A1,Af,g2];rfl
  | true=>rw[f9 rfl,bne_self_eq_false,Af,An,g1,A1,Af,g2];rfl
structure Abc (p:Pg):Prop where
 locs:p.B0.length≤4000
 threads:p.Ak.length≤4000
 claims:p.Ar.length≤4000
 thr:∀ t ∈ p.Ak,t.Bh.length≤4000∧t.B5.length≤4000∧∀ x ∈ t.B5,x.Bm.length≤4000∧x.C6.length≤4000
 cl:∀ c ∈ p.Ar,c.Bm.length≤4000
theorem As6 (n:Nat) (x y:Th) (h:x.Bh=y.Bh) (hl:x.Bh.length≤4000) (hn:4100 < n):Gm n x y n 0=some (.out ()):=by
 refine Q6 x.Bh.length (by omega) (fun k i=>Gm n x y k (i:Int)) (some (.out ())) (fun k=>by rw[Gm,Aq (by omega)]) (fun k i hi=>?_) x.Bh.length 0 n (by omega) (by omega)
 rw[Gm,A6 (by omega),← h,C8 hi,A1,A1,beq_self_eq_true,Af,Ay i (by omega)]
theorem As8 (n:Nat) (x y:Th) (h:x.Bh=y.Bh) (hl:x.Bh.length≤4000) (hn:4100 < n):Gn n x y n 0=some (.out ()):=by
 refine Q6 x.Bh.length (by omega) (fun k i=>Gn n x y k (i:Int)) (some (.out ())) (fun k=>by rw[Gn,Aq (by omega)]) (fun k i hi=>?_) x.Bh.length 0 n (by omega) (by omega)
 rw[Gn,A6 (by omega),← h,C8 hi,A1,A1,beq_self_eq_true,Af,Ay i (by omega)]
structure Agf (pl:Bool) (p q:Pg):Prop where
 md:p.Bo=q.Bo
 locs:p.B0.map (zVb pl)=q.B0.map (zVb pl)
 threads:p.Ak.map (zTb pl)=q.Ak.map (zTb pl)
 claims:p.Ar.map (zCb pl)=q.Ar.map (zCb pl)
theorem B24 {p q:Pg} (h:zP p=zP q):Agf false p q:=by
 unfold zP at h
 injection h with h1 h2 h3 h4
 exact⟨h1,h2,h3,h4⟩
theorem Ak8 (n:Nat) (pl:Bool) (a b:Pg) (h:Agf pl a b) (hs:Abc a) (hn:4200 < n):O0 n a b pl=some true:=by
 obtain⟨n,rfl⟩:∃ j,n=j+1:=⟨n - 1,by omega⟩
 have s1:=hs.locs
 have s2:=hs.threads
 have s3:=hs.claims
 have l1:=Sf h.locs
 have l2:=Sf h.threads
 have l3:=Sf h.claims
 have L0:Fw n a b n pl 0=some (.out pl):=by
  refine Q6 a.B0.length (by omega) (fun k i=>Fw n a b k pl (i:Int)) (some (.out pl)) (fun k=>by rw[Fw,Aq (by omega)]) (fun k i hi=>?_) a.B0.length 0 n (by omega) (by omega)
  have hj:i < b.B0.length:=by omega
  obtain⟨f1,f2,f3⟩:=Au4 (Y0 h.locs hi hj)
  rw[Fw,A6 (by omega)]
  simp only[C8 hi,C8 hj,A1,f1,f2,bne_self_eq_false,An,beq_self_eq_true,Af,Ay i (show i < 4611686018427387904 by omega)]
  cases pl with
  | false=>rfl
  | true=>rw[f3 rfl,bne_self_eq_false];rfl
 have L1:Fx n a b n pl 0=some (.out pl):=by
  refine Q6 a.Ak.length (by omega) (fun k i=>Fx n a b k pl (i:Int)) (some (.out pl)) (fun k=>by rw[Fx,Aq (by omega)]) (fun k i hi=>?_) a.Ak.length 0 n (by omega) (by omega)
  have hj:i < b.Ak.length:=by omega
  obtain⟨f1,f2,f3,f4⟩:=Aue (Y0 h.threads hi hj)
  obtain⟨t1,t2,t3⟩:=hs.thr _ (List.getElem_mem hi)
  have g:=Ais n pl _ _ f3 t2 t3 (by omega)
  rw[Fx,A6 (by omega)]
  simp only[C8 hi,C8 hj,A1,f1,bne_self_eq_false,An,beq_self_eq_true,Af,Ay i (show i < 4611686018427387904 by omega)]
  rw[show(((a.Ak[i].Bh.length:Nat):Int) != ((b.Ak[i].Bh.length:Nat):Int))=false by rw[f2,bne_self_eq_false],An,g,A1,Af]
  cases pl with
  | false=>rw[An,As8 n _ _ f2 t1 (by omega)];rfl
  | true=>rw[Af,f4 rfl,bne_self_eq_false,An,As6 n _ _ f2 t1 (by omega)];rfl
 have L4:Fy n a b n pl 0=some (.out ()):=by
  refine Q6 a.Ar.length (by omega) (fun k i=>Fy n a b k pl (i:Int)) (some (.out ())) (fun k=>by rw[Fy,Aq (by omega)]) (fun k i hi=>?_) a.Ar.length 0 n (by omega) (by omega)
  have hj:i < b.Ar.length:=by omega
  obtain⟨f1,f2,f3⟩:=Ast (Y0 h.claims hi hj)
  have t1:=hs.cl _ (List.getElem_mem hi)
  have g:=A2y n pl _ _ f2 (by omega) (by omega)
  rw[Fy,A6 (by omega)]
  simp only[C8 hi,C8 hj,A1,f1,bne_self_eq_false,An,beq_self_eq_true,Af,Ay i (show i < 4611686018427387904 by omega)]
  rw[g,A1,Af]
  cases pl with
  | false=>rfl
  | true=>rw[f3 rfl,bne_self_eq_false];rfl
 rw[O0,h.md,l1,l2,l3,bne_self_eq_false,bne_self_eq_false,bne_self_eq_false,bne_self_eq_false]
 simp only[An]
 rw[L0,A1]
 dsimp only
 rw[L1,A1]
 dsimp only
 rw[L4];rfl
theorem Q4 {s:List UInt8} (h:Cp s=true):s.length≤16:=by
 simp only[Cp,Ah,C1] at h;exact h.1.1.2
theorem Afa {x:Nd} (h:E2 x=true):x.Ao.length≤100∧x.Cq.length≤100:=by
 simp only[E2,Ah] at h
 have h:=h.2
 split at h
 ·simp only[Ah,beq_iff_eq] at h;rw[h.2.1,h.2.2];simp
 ·split at h
  ·simp only[Ah,beq_iff_eq] at h;have:=Q4 h.2.1;rw[h.2.2];exact⟨by omega,by simp⟩
  ·split at h
   ·simp only[Ah,beq_iff_eq] at h;have:=Q4 h.2.1;have:=Q4 h.2.2;exact⟨by omega,by omega⟩
   ·simp only[Ah,beq_iff_eq] at h;rw[h.2.1,h.2.2];simp
theorem A1m {l:List Nd} (h:Ep l=true):Hn l=true:=by
 simp only[Ep,Ah,C1,List.all_eq_true] at h
 simp only[Hn,Ah,C1,List.all_eq_true]
 exact⟨by omega,fun x hx=>Afa (h.2.2.1 x hx)⟩
theorem A77 {f:List UInt8} {c:Int} {l:List Nd} (h:fL f c l=true):Hn l=true:=by
 unfold fL at h
 split at h
 ·rw[Ah] at h;exact A1m h.2
 ·have:l=[]:=List.length_eq_zero_iff.1 (by rw[beq_iff_eq] at h;omega)
  subst this;rfl
theorem Acq {f:List UInt8} {c:Int} {s:List UInt8} (h:fN f c s=true):s.length≤100:=by
 unfold fN at h
 split at h
 ·have:=Q4 h;omega
 ·rw[beq_iff_eq] at h;rw[h];simp
theorem Aae {x:St} (h:Fo x=true):LightX x:=by
 simp only[Fo,Ah] at h
 exact⟨Acq h.2.2.2.1,Acq h.2.2.2.2.1,A77 h.2.2.2.2.2.1,A77 h.2.2.2.2.2.2.1⟩
theorem A8f {p:Pg} (h:Lh p=true) (h1:p.B0.length≤4000) (h2:p.Ak.length≤4000) (h3:p.Ar.length≤4000) (h4:∀ t ∈ p.Ak,t.Bh.length≤4000):Ux p:=by
 simp only[Lh,Ah,List.all_eq_true] at h
 obtain⟨_,hv,ht,hc⟩:=h
 refine⟨h1,h2,h3,fun v hm=>?_,fun t hm=>?_,fun c hm=>?_⟩
 ·have:=hv v hm
  simp only[Pv,Ah] at this
  have:=Q4 this.1;omega
 ·have:=ht t hm
  simp only[Nf,Ah,List.all_eq_true] at this
  have hn:=Q4 this.1
  obtain⟨F,_,_,_,f4,f5⟩:=Z9 this.2.2.1
  exact⟨by omega,h4 t hm,fun r hr=>by have:=Q4 (this.2.2.2 r hr);omega,by omega,fun x hx=>Aae (f5 x hx)⟩
 ·have:=hc c hm
  simp only[P6,Ah] at this
  exact A1m this.2.2.1
def V4 (B:Nat) (a:Int):Prop:=0≤a∧a≤B
structure Acx (B:Nat) (t:Th):Prop where
 at':V4 B t.Ab
 st:∀ x ∈ t.B5,A66 B x
theorem Sa {w:List UInt8} {l:List Tk} {s:Ps} (h:(sgF w l s).2.1=0):s.2.1=0:=Decidable.byContradiction fun c=>Zo c h
theorem A1g {l:List Tk} {s:Ps} (h:(nmF l s).2.2.1=0):s.2.1=0∧isN l s.1=true∧(nmF l s).1=txt l s.1:=by
 rcases A75 (l:=l) (s:=s) with ⟨_,h1,h0,h2,_⟩ | ⟨h1,_⟩
 ·exact⟨h0,h1,h2⟩
 ·exact absurd h h1
theorem Abz {l:List Tk} {s:Ps} (h:(nuF l s).2.2.1=0):s.2.1=0∧isK l s.1=true∧(nuF l s).1=Wn l s.1:=by
 rcases A5z (l:=l) (s:=s) with ⟨_,h1,h0,h2,_⟩ | ⟨h1,_⟩
 ·exact⟨h0,h1,h2⟩
 ·exact absurd h h1
theorem A9b {T:Nat} {l:List Tk} (hk:Toks T l) (i:Nat):A1p (Wn l i)=true:=by
 unfold Wn
 cases h:l[i]? with
 | none=>decide
 | some t=>have:=hk.ok t (List.mem_of_getElem? h);exact decide_eq_true ⟨this.2.1,this.2.2⟩
theorem Vq {B T:Nat} {l:List Tk} (hl:TokB B T l) (i:Nat):V4 B (atA l i):=by
 unfold atA
 cases h:l[i]? with
 | none=>exact⟨(show(0:Int)≤0 by decide),(show(0:Int)≤B by omega)⟩
 | some t=>exact hl.tk h
theorem A6o {B:Nat} {a:Int} (h:V4 B a):decide (0≤a)=true:=decide_eq_true h.1
theorem Aft {B T:Nat} {l:List Tk} (hl:TokB B T l) {s:Ps} (h:(N8 l s).2.2.1=0):Pv (N8 l s).1=true∧V4 B (N8 l s).1.Ab:=by
 unfold N8 at h ⊢
 dsimp only at h ⊢
 obtain⟨a1,_,a3⟩:=Abz (Sa h)
 obtain⟨_,b2,b3⟩:=A1g (Sa a1)
 refine⟨?_,Vq hl _⟩
 simp only[Pv,Ah]
 exact⟨by rw[b3];exact Td b2,by rw[a3];exact A9b hl.toks _,A6o (Vq hl _)⟩
theorem A4g {B T:Nat} {l:List Tk} (hl:TokB B T l):∀ (K:Nat) (s:Ps) (acc:List Va),(s.2.1=0→∀ v ∈ acc,Pv v=true∧V4 B v.Ab)→(Fh l K s acc).2.2.1=0→s.2.1=0∧∀ v ∈ (Fh l K s acc).1,Pv v=true∧V4 B v.Ab
 | 0,s,acc,h,h0=>⟨h0,h h0⟩
 | K+1,s,acc,h,h0=>by
  rw[Fh] at h0 ⊢
  cases hc:C9 [108,111,99] l s with
  | false=>rw[hc] at h0;exact⟨h0,h h0⟩
  | true =>
   rw[hc,Af] at h0
   rw[Af]
   have hs:=(Je hc).2
   refine⟨hs,(A4g hl K _ _ (fun e v hv=>?_) h0).2⟩
   rcases List.mem_append.1 hv with hv | hv
   ·exact h hs v hv
   ·rw[List.mem_singleton.1 hv];exact Aft hl e
theorem A44 {l:List Tk}:∀ (K:Nat) (s:Ps) (acc:List (List UInt8)),(s.2.1=0→∀ v ∈ acc,Cp v=true)→(Dw l K s acc).2.2.1=0→s.2.1=0∧∀ v ∈ (Dw l K s acc).1,Cp v=true
 | 0,s,acc,h,h0=>⟨h0,h h0⟩
 | K+1,s,acc,h,h0=>by
  rw[Dw] at h0 ⊢
  cases hc:s.2.1==0&&Bj l s.1 [44] with
  | false=>rw[hc] at h0;exact⟨h0,h h0⟩
  | true =>
   rw[hc,Af] at h0
   rw[Af]
   rw[Ah,beq_iff_eq] at hc
   refine⟨hc.1,(A44 K _ _ (fun e v hv=>?_) h0).2⟩
   rcases List.mem_append.1 hv with hv | hv
   ·exact h hc.1 v hv
   ·obtain⟨_,b2,b3⟩:=A1g e
    rw[List.mem_singleton.1 hv,b3];exact Td b2
theorem A60 {l:List Tk}:∀ (K:Nat) (s:Ps) (acc:List (List UInt8)),acc.length≤s.1→(Dw l K s acc).1.length≤(Dw l K s acc).2.1
 | 0,s,acc,h=>h
 | K+1,s,acc,h=>by
  rw[Dw]
  cases hc:s.2.1==0&&Bj l s.1 [44] with
  | false=>exact h
  | true =>
   have b1:=Ni (l:=l) (s:=(s.1+1,s.2))
   dsimp only at b1
   exact A60 K _ _ (by rw[List.length_append];simp;omega)
theorem Adg {T:Nat} {l:List Tk} (hk:Toks T l) {s:Ps} (h:(G1 l s).2.2.1=0):s.2.1=0∧∀ v ∈ (G1 l s).1,Cp v=true:=by
 unfold G1 at h ⊢
 cases hc:C9 [114,101,103] l s with
 | false=>rw[hc] at h;exact⟨h,fun v hv=>(by cases hv)⟩
 | true =>
  rw[hc,Af] at h
  refine⟨(Je hc).2,(A44 _ _ _ (fun e v hv=>?_) (Sa h)).2⟩
  obtain⟨_,b2,b3⟩:=A1g e
  rw[List.mem_singleton.1 hv,b3];exact Td b2
theorem Acf {T:Nat} {l:List Tk} (hk:Toks T l) {s:Ps}:(G1 l s).1.length≤l.length+1:=by
 unfold G1
 cases hc:C9 [114,101,103] l s with
 | false=>simp
 | true =>
  obtain⟨h1,h2⟩:=Je hc
  have a1:Cb l (nmF l (s.1+1,s.2)).2:=Ng h1
  have b1:=Ni (l:=l) (s:=(s.1+1,s.2))
  dsimp only at b1
  obtain⟨r2,_⟩:=A2v (l.length+2) (nmF l (s.1+1,s.2)).2 [(nmF l (s.1+1,s.2)).1] a1
  have:=A60 (l:=l) (l.length+2) (nmF l (s.1+1,s.2)).2 [(nmF l (s.1+1,s.2)).1] (by simp;omega)
  unfold Cb at r2
  show(Dw l (l.length+2) (nmF l (s.1+1,s.2)).2 [(nmF l (s.1+1,s.2)).1]).1.length≤l.length+1
  omega
theorem Ac6 {B T:Nat} {l:List Tk} (hl:TokB B T l) {s:Ps} (hs:Cb l s) (h:(Jl l s).2.2.1=0):s.2.1=0∧No (Jl l s).1=true∧∀ x ∈ (Jl l s).1,A66 B x:=by
 unfold Jl at h ⊢
 cases hc:s.2.1==0 with
 | false =>
  rw[hc,An] at h
  rw[beq_eq_false_iff_ne] at hc
  exact absurd (Sa h) hc
 | true =>
  rw[hc,Af] at h
  rw[beq_iff_eq] at hc
  rw[Af]
  refine⟨hc,?_,(Aob hl hs).1⟩
  rcases A08 hl.toks hs with ⟨g,_⟩ | ⟨_,_,_,_,g,_⟩
  ·exact absurd (Sa h) (Xf g)
  ·exact g
theorem Aew {B T:Nat} {l:List Tk} (hl:TokB B T l) {s:Ps} (h1:s.1 < l.length) (h:(Jv l s).2.2.1=0):Nf (Jv l s).1=true∧Acx B (Jv l s).1:=by
 have a1:Cb l (nmF l (s.1+1,s.2)).2:=Ng h1
 have a2:=Kt (w:=[123]) a1
 obtain⟨a3,_⟩:=A0v hl.toks a2
 unfold Jv at h ⊢
 dsimp only at h ⊢
 obtain⟨b1,b2,b3⟩:=Ac6 hl a3 h
 obtain⟨c1,c2⟩:=Adg hl.toks b1
 obtain⟨_,d2,d3⟩:=A1g (Sa c1)
 refine⟨?_,⟨Vq hl _,b3⟩⟩
 simp only[Nf,Ah,List.all_eq_true]
 exact⟨by rw[d3];exact Td d2,A6o (Vq hl _),b2,c2⟩
theorem A48 {B T:Nat} {l:List Tk} (hl:TokB B T l):∀ (K:Nat) (s:Ps) (acc:List Th),(s.2.1=0→∀ v ∈ acc,Nf v=true∧Acx B v)→(∀ v ∈ acc,v.Bh.length≤l.length+1)→(Gs l K s acc).2.2.1=0→s.2.1=0∧(∀ v ∈ (Gs l K s acc).1,Nf v=true∧Acx B v)∧∀ v ∈ (Gs l K s acc).1,v.Bh.length≤l.length+1
 | 0,s,acc,h,hr,h0=>⟨h0,h h0,hr⟩
 | K+1,s,acc,h,hr,h0=>by
  rw[Gs] at h0 ⊢
  cases hc:C9 [116,104,114,101,97,100] l s with
  | false=>rw[hc] at h0;exact⟨h0,h h0,hr⟩
  | true =>
   rw[hc,Af] at h0
   rw[Af]
   obtain⟨h1,hs⟩:=Je hc
   refine⟨hs,(A48 hl K _ _ (fun e v hv=>?_) (fun v hv=>?_) h0).2⟩
   ·rcases List.mem_append.1 hv with hv | hv
    ·exact h hs v hv
    ·rw[List.mem_singleton.1 hv];exact Aew hl h1 e
   ·rcases List.mem_append.1 hv with hv | hv
    ·exact hr v hv
    ·rw[List.mem_singleton.1 hv];exact Acf hl.toks
theorem A19 (x:Nd):Dl (H5 x).B3=Dl x.B3:=by
 unfold H5;split
 ·rename_i h;rw[h];show Dl 3=Dl 2;decide
 ·rfl
theorem Adf:∀ (l:List Nd) (w:Nat),H6 (l.map H5) w=H6 l w
 | [],w=>rfl
 | x :: l,w=>by rw[List.map_cons,H6,H6,Adf l,A19]
theorem A6b:∀ (l:List Nd) (s:Int×List Int),Ff (l.map H5) s=Ff l s
 | [],s=>rfl
 | x :: l,(m,R)=>by rw[List.map_cons,Ff,Ff,A6b l,A6b l,A19]
theorem Afb {x:Nd} (h:E2 x=true):E2 (H5 x)=true:=by
 unfold H5
 by_cases c:x.B3=2
 ·rw[if_pos c]
  simp only[E2,c] at h ⊢
  exact h
 ·rw[if_neg c];exact h
theorem Af1 {l:List Nd} (h:Ep l=true):Ep (l.map H5)=true:=by
 simp only[Ep,Ah,Au,Adf,A6b] at h ⊢
 refine⟨h.1,h.2.1,?_,h.2.2.2⟩
 rw[List.all_eq_true] at h ⊢
 intro x hx
 obtain⟨y,hy,rfl⟩:=List.mem_map.1 hx
 exact Afb (h.2.2.1 y hy)
theorem Au0 (l:List Nd):clB (l.map H5)=true:=by
 unfold clB
 rw[List.all_eq_true]
 intro x hx
 obtain⟨hx,_⟩:=List.mem_filter.1 hx
 obtain⟨y,_,rfl⟩:=List.mem_map.1 hx
 unfold H5
 split
 ·rfl
 ·rename_i c;rw[Ca.2 c];rfl
theorem Aj5 {B T:Nat} {l:List Tk} (hl:TokB B T l) {k:Int} (hk:1≤k∧k≤3) {s:Ps} (h1:s.1 < l.length) (h:(clF k l s).2.2.1=0):P6 (clF k l s).1=true∧V4 B (clF k l s).1.Ab∧∀ x ∈ (clF k l s).1.Bm,Ox B x:=by
 unfold clF at h ⊢
 dsimp only at h ⊢
 refine⟨?_,Vq hl _,fun x hx=>?_⟩
 ·simp only[P6,Ah]
  refine⟨Au0 _,decide_eq_true hk,?_,A6o (Vq hl _)⟩
  rcases V8 hl.toks (show s.1+1≤l.length from h1) with ⟨g,_⟩ | ⟨_,_,_,_,_,g⟩
  ·exact absurd (Sa h) (Xf g)
  ·exact Af1 g
 ·obtain⟨y,hy,rfl⟩:=List.mem_map.1 hx
  have:=(An9 hl (show s.1+1≤l.length from h1)).1 y hy
  unfold H5;split<;>exact this
theorem A6u {B T:Nat} {l:List Tk} (hl:TokB B T l):∀ (K:Nat) (s:Ps) (acc:List Cl),(s.2.1=0→∀ v ∈ acc,P6 v=true∧V4 B v.Ab∧∀ x ∈ v.Bm,Ox B x)→(Ia l K s acc).2.2.1=0→s.2.1=0∧∀ v ∈ (Ia l K s acc).1,P6 v=true∧V4 B v.Ab∧∀ x ∈ v.Bm,Ox B x
 | 0,s,acc,h,h0=>⟨h0,h h0⟩
 | K+1,s,acc,h,h0=>by
  rw[Ia] at h0 ⊢
  by_cases hc:0 < Hb l s
  ·rw[A6 hc] at h0 ⊢
   obtain⟨h1,hs,hk⟩:=A0o hc
   refine⟨hs,(A6u hl K _ _ (fun e v hv=>?_) h0).2⟩
   rcases List.mem_append.1 hv with hv | hv
   ·exact h hs v hv
   ·rw[List.mem_singleton.1 hv];exact Aj5 hl (by omega) h1 e
  ·rw[Aq hc] at h0 ⊢
   exact⟨h0,h h0⟩
theorem Afg {l:List Tk} {s:Ps} (h:(Oh l s).2.1=0):s.2.1=0:=by
 unfold Oh at h
 cases hc:decide (s.1 < l.length) with
 | true=>rw[hc] at h;exact absurd h (A74 l s)
 | false=>rw[hc] at h;exact h
theorem Aa5 {T:Nat} {l:List Tk} (hk:Toks T l) (h:(Li l).2.2.1=0):A1p (Li l).1=true:=by
 unfold Li at h ⊢
 dsimp only at h ⊢
 obtain⟨_,_,a3⟩:=Abz (Sa h)
 rw[a3];exact A9b hk _
theorem Aiu (s:List UInt8) (hs:s.length≤90000):TokB s.length s.length (Qx s):=⟨A2e s hs,by omega,(Wb s).1⟩
def A22 (v:Va):List UInt8:=[108,111,99]++(32 :: (v.Ao++(32 :: ([61]++(32 :: (Ki v.Bs++([59]++[10])))))))
def A7o (v:Va):List Ck:=[(1,[108,111,99],0),(1,v.Ao,0),(3,[61],0),(2,Ki v.Bs,v.Bs),(3,[59],0)]
def A8d:List (List UInt8)→List UInt8
 | []=>[59]++[10]
 | r :: rs=>[44]++(32 :: (r++A8d rs))
def A3l:List (List UInt8)→List Ck
 | []=>[(3,[59],0)]
 | r :: rs=>(3,[44],0) :: (1,r,0) :: A3l rs
def A5i:List (List UInt8)→List UInt8
 | []=>[]
 | r :: rs=>32 :: 32 :: ([114,101,103]++(32 :: (r++A8d rs)))
def A5l:List (List UInt8)→List Ck
 | []=>[]
 | r :: rs=>(1,[114,101,103],0) :: (1,r,0) :: A3l rs
open Classical in
noncomputable def trS (l:List St):SF:=if h:∃ F:SF,F.wf∧F.flat=l then h.choose else .nil
theorem A9r {l:List St} (h:No l=true):(trS l).wf∧(trS l).flat=l∧(trS l).dep≤30∧∀ x ∈ (trS l).flat,Fo x=true:=by
 obtain⟨F,f1,f2,f3,_,f5⟩:=Z9 h
 have hx:∃ F:SF,F.wf∧F.flat=l:=⟨F,f1,f2⟩
 have e:trS l=hx.choose:=by unfold trS;rw[dif_pos hx]
 obtain⟨g1,g2⟩:=hx.choose_spec
 rw[← e] at g1 g2
 refine⟨g1,g2,?_,by rw[g2];exact f5⟩
 have a:=Vx F (l.length+1) f1 (by rw[f2];omega)
 have b:=Vx (trS l) (l.length+1) g1 (by rw[g2];omega)
 rw[f2] at a
 rw[g2,a] at b
 have:=Option.some.inj b
 omega
noncomputable def A1k (t:Th):List UInt8:=[116,104,114,101,97,100]++(32 :: (t.Ao++(32 :: ([123]++([10]++(A5i t.Bh++(Od (trS t.B5) 1++([125]++[10]))))))))
noncomputable def Zh (t:Th):List Ck:=(1,[116,104,114,101,97,100],0) :: (1,t.Ao,0) :: (3,[123],0) :: (A5l t.Bh++(Jy (trS t.B5)++[(3,[125],0)]))
def cwF (k:Int):List UInt8:=cwS.getD k.toNat []
def clT (c:Cl):List UInt8:=cwF c.A7++(32 :: (N5 c.Bm++([59]++[10])))
noncomputable def Yd (c:Cl):List Ck:=(1,cwF c.A7,0) :: (A8q c.Bm++[(3,[59],0)])
noncomputable def Xx (p:Pg):List UInt8:=[109,111,100]++(32 :: (Ki p.Bo++([59]++([10]++(p.B0.flatMap A22++(p.Ak.flatMap A1k++p.Ar.flatMap clT))))))
noncomputable def Asm (p:Pg):List Ck:=(1,[109,111,100],0) :: (2,Ki p.Bo,p.Bo) :: (3,[59],0) :: (p.B0.flatMap A7o++(p.Ak.flatMap Zh++p.Ar.flatMap Yd))
theorem A6e {c:UInt8} (h:H8 c.toNat=false) (t:List UInt8):A6s (c :: t):=.inr ⟨c,t,rfl,h⟩
theorem Ah3:Seg (fun _=>True) [10] []:=Ai6 (by decide)
theorem Akm:Seg (fun _=>True) ([59]++[10]) [(3,[59],0)]:=Co Afi Ah3 (fun _ _=>trivial)
theorem Agz {w:List UInt8} (h:∃ c t,w=c :: t∧Et c.toNat=true∧(∀ d ∈ c :: t,H8 d.toNat=true)∧(c :: t).length≤16) {s:List UInt8} {ts:List Ck} (hs:Seg (fun _=>True) s ts):Seg (fun _=>True) (w++(32 :: s)) ((1,w,0) :: ts):=Co (Afr h) (Mx hs) (fun r _=>A6e (by decide) _)
theorem Aca {n:Int} (h:A1p n=true):0≤n∧n≤9999:=of_decide_eq_true h
theorem B0k {v:Va} (h:Pv v=true):Seg (fun _=>True) (A22 v) (A7o v):=by
 simp only[Pv,Ah] at h
 have a:Seg (fun _=>True) (Ki v.Bs++([59]++[10])) ((2,Ki v.Bs,v.Bs) :: [(3,[59],0)]):=Co (Aj9 (Aca h.2.1)) Akm (fun r _=>A6e (by decide) _)
 have b:Seg (fun _=>True) ([61]++(32 :: (Ki v.Bs++([59]++[10])))) ((3,[61],0) :: ((2,Ki v.Bs,v.Bs) :: [(3,[59],0)])):=Co Avi (Mx a) (fun r _=>⟨_,rfl⟩)
 have c:Seg (fun _=>True) (v.Ao++(32 :: ([61]++(32 :: (Ki v.Bs++([59]++[10])))))) ((1,v.Ao,0) :: ((3,[61],0) :: ((2,Ki v.Bs,v.Bs) :: [(3,[59],0)]))):=Co (Wc h.1) (Mx b) (fun r _=>A6e (by decide) _)
 exact Agz ⟨108,[111,99],rfl,by decide,by decide,by decide⟩ c
theorem Apl (rs:List (List UInt8)) (r:List UInt8):A6s (A8d rs++r):=by
 cases rs with
 | nil=>exact A6e (by decide) _
 | cons a rs=>exact A6e (by decide) _
theorem Ao6:∀ rs:List (List UInt8),(∀ r ∈ rs,Cp r=true)→Seg (fun _=>True) (A8d rs) (A3l rs)
 | [],_=>Akm
 | r :: rs,h=>by
  have a:Seg (fun _=>True) (r++A8d rs) ((1,r,0) :: A3l rs):=Co (Wc (h r (List.mem_cons_self ..))) (Ao6 rs fun q hq=>h q (List.mem_cons_of_mem _ hq)) (fun q _=>Apl rs q)
  exact Co Ako (Mx a) (fun _ _=>trivial)
theorem Ayt:∀ rs:List (List UInt8),(∀ r ∈ rs,Cp r=true)→Seg (fun _=>True) (A5i rs) (A5l rs)
 | [],_=>A5q
 | r :: rs,h=>by
  have a:Seg (fun _=>True) (r++A8d rs) ((1,r,0) :: A3l rs):=Co (Wc (h r (List.mem_cons_self ..))) (Ao6 rs fun q hq=>h q (List.mem_cons_of_mem _ hq)) (fun q _=>Apl rs q)
  exact Mx (Mx (Agz ⟨114,[101,103],rfl,by decide,by decide,by decide⟩ a))
theorem B19 {t:Th} (h:Nf t=true):Seg (fun _=>True) (A1k t) (Zh t):=by
 simp only[Nf,Ah,List.all_eq_true] at h
 obtain⟨_,g2,_,g4⟩:=A9r h.2.2.1
 have a:Seg (fun _=>True) (Od (trS t.B5) 1++([125]++[10])) (Jy (trS t.B5)++[(3,[125],0)]):=Co (A83 (trS t.B5) 1 g4) (Co Aiy Ah3 (fun _ _=>trivial)) (fun _ _=>trivial)
 have b:=Co (Ayt t.Bh h.2.2.2) a (fun _ _=>trivial)
 have b2:Seg (fun _=>True) ([10]++(A5i t.Bh++(Od (trS t.B5) 1++([125]++[10])))) (A5l t.Bh++(Jy (trS t.B5)++[(3,[125],0)])):=by have:=Co Ah3 b (fun _ _=>trivial);exact this
 have c:Seg (fun _=>True) ([123]++([10]++(A5i t.Bh++(Od (trS t.B5) 1++([125]++[10]))))) ((3,[123],0) :: (A5l t.Bh++(Jy (trS t.B5)++[(3,[125],0)]))):=Co As0 b2 (fun _ _=>trivial)
 have d:Seg (fun _=>True) (t.Ao++(32 :: ([123]++([10]++(A5i t.Bh++(Od (trS t.B5) 1++([125]++[10]))))))) ((1,t.Ao,0) :: ((3,[123],0) :: (A5l t.Bh++(Jy (trS t.B5)++[(3,[125],0)])))):=Co (Wc h.1) (Mx c) (fun r _=>A6e (by decide) _)
 exact Agz ⟨116,[104,114,101,97,100],rfl,by decide,by decide,by decide⟩ d
theorem B31 {k:Int} (h:1≤k∧k≤3):∃ c t,cwF k=c :: t∧Et c.toNat=true∧(∀ d ∈ c :: t,H8 d.toNat=true)∧(c :: t).length≤16:=by
 have:k=1∨k=2∨k=3:=by omega
 rcases this with rfl | rfl | rfl<;>exact⟨_,_,rfl,by decide,by decide,by decide⟩
theorem B2h {c:Cl} (h:P6 c=true):Seg (fun _=>True) (clT c) (Yd c):=by
 simp only[P6,Ah,C1] at h
 have a:Seg (fun _=>True) (N5 c.Bm++([59]++[10])) (A8q c.Bm++[(3,[59],0)]):=Co (Aeq h.2.2.1) Akm (fun r _=>.inr ⟨_,.inr (.inr (.inr (.inl rfl)))⟩)
 exact Agz (B31 h.2.1) a
theorem Adn {α:Type} {f:α→List UInt8} {g:α→List Ck}:∀ l:List α,(∀ x ∈ l,Seg (fun _=>True) (f x) (g x))→Seg (fun _=>True) (l.flatMap f) (l.flatMap g)
 | [],_=>A5q
 | x :: l,h=>by
  rw[List.flatMap_cons,List.flatMap_cons]
  exact Co (h x (List.mem_cons_self ..)) (Adn l fun y hy=>h y (List.mem_cons_of_mem _ hy)) (fun _ _=>trivial)
theorem Ay3 {p:Pg} (h:Lh p=true):Seg (fun _=>True) (Xx p) (Asm p):=by
 simp only[Lh,Ah,List.all_eq_true] at h
 obtain⟨h1,h2,h3,h4⟩:=h
 have a:=Co (Adn p.B0 (f:=A22) (g:=A7o) fun x hx=>B0k (h2 x hx)) (Co (Adn p.Ak (f:=A1k) (g:=Zh) fun x hx=>B19 (h3 x hx)) (Adn p.Ar (f:=clT) (g:=Yd) fun x hx=>B2h (h4 x hx)) (fun _ _=>trivial)) (fun _ _=>trivial)
 have a2:Seg (fun _=>True) ([10]++(p.B0.flatMap A22++(p.Ak.flatMap A1k++p.Ar.flatMap clT))) (p.B0.flatMap A7o++(p.Ak.flatMap Zh++p.Ar.flatMap Yd)):=by have:=Co Ah3 a (fun _ _=>trivial);exact this
 have b:=Co Afi a2 (fun _ _=>trivial)
 have c:=Co (Aj9 (Aca h1)) b (fun r _=>A6e (by decide) _)
 exact Agz ⟨109,[111,100],rfl,by decide,by decide,by decide⟩ c
def Pw {α:Type} (R:α→α→Prop):List α→List α→Prop
 | [],[]=>True
 | a :: l,b :: m=>R a b∧Pw R l m
 | _,_=>False
theorem Pw.app {α:Type} {R:α→α→Prop}:∀ {a b c d:List α},Pw R a b→Pw R c d→Pw R (a++c) (b++d)
 | [],[],_,_,_,h=>h
 | _ :: a,_ :: b,_,_,h,h'=>⟨h.1,Pw.app h.2 h'⟩
 | [],_ :: _,_,_,h,_=>h.elim
 | _ :: _,[],_,_,h,_=>h.elim
def Asz (a b:Th):Prop:=b.Ao=a.Ao∧b.Bh=a.Bh∧All2 a.B5 b.B5
def Auv (a b:Cl):Prop:=b.A7=a.A7∧b.Bm.map zN=a.Bm.map zN
structure Ata (p q:Pg):Prop where
 md:q.Bo=p.Bo
 loc:q.B0.map zV=p.B0.map zV
 thr:Pw Asz p.Ak q.Ak
 cl:Pw Auv p.Ar q.Ar
def Afe (w:List UInt8) (cs:List Ck):Prop:=∀ c r,cs=c :: r→¬ (c.1=1∧c.2.1=w)
theorem A0x {l:List Tk} {i:Nat} {k v:Int} {w:List UInt8} {cs:List Ck} (h:Ge l i ((k,w,v) :: cs)) (w':List UInt8):C9 w' l (i,0,0)=(k==1&&w==w'):=by
 obtain⟨t,h1,h2,_⟩:=J2 h
 injection h2 with e1 e2;injection e2 with e2 e3
 simp only[C9,Zj,h1,e1,e2,beq_self_eq_true,Bool.true_and]
theorem Aif {l:List Tk} {i:Nat} {cs:List Ck} (h:Ge l i cs) {w:List UInt8} (hn:Afe w cs):C9 w l (i,0,0)=false:=by
 cases cs with
 | nil=>simp only[C9,Zj,A6w h,Bool.and_false]
 | cons c r =>
  obtain⟨k,w',v⟩:=c
  rw[A0x h w]
  have:=hn _ _ rfl
  dsimp only at this
  by_cases h1:k=1
  ·by_cases h2:w'=w
   ·exact absurd ⟨h1,h2⟩ this
   ·rw[Ca.2 h2,Bool.and_false]
  ·rw[Ca.2 h1,Bool.false_and]
theorem A2a {l:List Tk} {i:Nat} {v:Int} {w:List UInt8} {cs:List Ck} (h:Ge l i ((3,w,v) :: cs)):sgF w l (i,0,0)=(i+1,0,0):=by
 unfold sgF
 rw[show Bj l ((i,0,0):Ps).1 w=true by rw[Nj h];simp];rfl
theorem Adm {l:List Tk} {i:Nat} {v:Int} {w:List UInt8} {cs:List Ck} (h:Ge l i ((1,w,v) :: cs)) (hw:Cp w=true):nmF l (i,0,0)=(w,(i+1,0,0)):=by
 obtain⟨h1,h2⟩:=Ag4 h hw
 unfold nmF
 dsimp only
 rw[h1,h2];rfl
theorem Ari {l:List Tk} {i:Nat} {v:Int} {w:List UInt8} {cs:List Ck} (h:Ge l i ((2,w,v) :: cs)):nuF l (i,0,0)=(v,(i+1,0,0)):=by
 obtain⟨t,h1,h2,_⟩:=J2 h
 injection h2 with e1 e2;injection e2 with e2 e3
 have:isK l i=true:=by simp[isK,h1,e1]
 have hn:Wn l i=v:=by simp[Wn,h1,e3]
 unfold nuF
 dsimp only
 rw[this,hn];rfl
theorem Nq {l:List Tk} {i:Nat} {c:Ck} {cs:List Ck} (h:Ge l i (c :: cs)):Ge l (i+1) cs:=by obtain⟨_,_,_,h1⟩:=J2 h;exact h1
theorem Ay6 {l:List Tk} {i:Nat} {v:Va} {cs:List Ck} (h:Ge l i (A7o v++cs)) (hv:Pv v=true):N8 l (i,0,0)=(⟨v.Ao,v.Bs,atA l i⟩,(i+5,0,0))∧C9 [108,111,99] l (i,0,0)=true:=by
 simp only[Pv,Ah] at hv
 simp only[A7o,List.cons_append,List.nil_append] at h
 have h1:=Nq h
 have h2:=Nq h1
 have h3:=Nq h2
 have h4:=Nq h3
 have e1:=Adm h1 hv.1
 have e2:=A2a h2
 have e3:=Ari h3
 have e4:=A2a h4
 refine⟨?_,by rw[A0x h];rfl⟩
 unfold N8
 dsimp only
 rw[e1]
 dsimp only
 rw[e2,e3]
 dsimp only
 rw[e4]
theorem Akw {l:List Tk} {rest:List Ck} (hn:Afe [108,111,99] rest):∀ (vs:List Va) (K i:Nat) (acc:List Va),vs.length < K→(∀ v ∈ vs,Pv v=true)→Ge l i (vs.flatMap A7o++rest)→∃ ws,ws.map zV=vs.map zV∧Fh l K (i,0,0) acc=(acc++ws,(i+(vs.flatMap A7o).length,0,0))
 | [],K,i,acc,hK,_,h=>by
  obtain⟨K,rfl⟩:∃ j,K=j+1:=⟨K - 1,by simp at hK;omega⟩
  have h:Ge l i rest:=h
  exact⟨[],rfl,by rw[Fh,Aif h hn];simp⟩
 | v :: vs,K,i,acc,hK,hv,h=>by
  obtain⟨K,rfl⟩:∃ j,K=j+1:=⟨K - 1,by simp at hK;omega⟩
  rw[List.flatMap_cons,List.append_assoc] at h
  obtain⟨e1,e2⟩:=Ay6 h (hv v (List.mem_cons_self ..))
  obtain⟨ws,w1,w2⟩:=Akw hn vs K (i+5) (acc++[⟨v.Ao,v.Bs,atA l i⟩]) (by simp at hK;omega) (fun u hu=>hv u (List.mem_cons_of_mem _ hu)) (Ip h)
  refine⟨⟨v.Ao,v.Bs,atA l i⟩ :: ws,by rw[List.map_cons,List.map_cons,w1];rfl,?_⟩
  rw[Fh,e2,Af,e1]
  dsimp only
  rw[w2,List.append_assoc,List.flatMap_cons,List.length_append,show(A7o v).length=5 from rfl,← Nat.add_assoc];rfl
theorem Al2 {l:List Tk} {rest:List Ck}:∀ (rs:List (List UInt8)) (K i:Nat) (acc:List (List UInt8)),rs.length < K→(∀ r ∈ rs,Cp r=true)→Ge l i (A3l rs++rest)→Dw l K (i,0,0) acc=(acc++rs,(i+2*rs.length,0,0))∧Ge l (i+2*rs.length) ((3,[59],0) :: rest)
 | [],K,i,acc,hK,_,h=>by
  obtain⟨K,rfl⟩:∃ j,K=j+1:=⟨K - 1,by simp at hK;omega⟩
  have h:Ge l i ((3,[59],0) :: rest):=h
  refine⟨?_,h⟩
  rw[Dw]
  dsimp only
  rw[Nj h,show(([59]:List UInt8)==[44])=false from rfl,Bool.and_false];simp
 | r :: rs,K,i,acc,hK,hr,h=>by
  obtain⟨K,rfl⟩:∃ j,K=j+1:=⟨K - 1,by simp at hK;omega⟩
  have h:Ge l i ((3,[44],0) :: (1,r,0) :: (A3l rs++rest)):=h
  have h1:=Nq h
  have e1:=Adm h1 (hr r (List.mem_cons_self ..))
  obtain⟨w1,w2⟩:=Al2 rs K (i+1+1) (acc++[r]) (by simp at hK;omega) (fun u hu=>hr u (List.mem_cons_of_mem _ hu)) (Nq h1)
  have e:i+1+1+2*rs.length=i+2*(r :: rs).length:=by simp;omega
  rw[e] at w1 w2
  refine⟨?_,w2⟩
  rw[Dw]
  dsimp only
  rw[Nj h,show(([44]:List UInt8)==[44])=true from rfl,e1]
  dsimp only
  rw[w1,List.append_assoc];rfl
theorem Ack:∀ rs:List (List UInt8),(A3l rs).length=2*rs.length+1
 | []=>rfl
 | r :: rs=>by simp[A3l,Ack rs];omega
theorem Avl {l:List Tk} {i:Nat} {rs:List (List UInt8)} {rest:List Ck} (hi:i≤l.length) (hr:∀ r ∈ rs,Cp r=true) (h:Ge l i (A5l rs++rest)) (hn:Afe [114,101,103] rest):G1 l (i,0,0)=(rs,(i+(A5l rs).length,0,0)):=by
 have hlen:=Vb h hi
 cases rs with
 | nil =>
  have h:Ge l i rest:=h
  unfold G1
  rw[Aif h hn];rfl
 | cons r rs =>
  have h:Ge l i ((1,[114,101,103],0) :: (1,r,0) :: (A3l rs++rest)):=h
  have h1:=Nq h
  have e1:=Adm h1 (hr r (List.mem_cons_self ..))
  simp only[A5l,List.length_cons,Ack] at hlen
  obtain⟨w1,w2⟩:=Al2 rs (l.length+2) (i+1+1) [r] (by omega) (fun u hu=>hr u (List.mem_cons_of_mem _ hu)) (Nq h1)
  unfold G1
  rw[A0x h,show((1:Int)==1&&([114,101,103]:List UInt8)==[114,101,103])=true from rfl,Af]
  dsimp only
  rw[e1]
  dsimp only
  rw[w1]
  dsimp only
  rw[A2a w2]
  simp only[A5l,List.length_cons,Ack,List.singleton_append]
  congr 2;omega
theorem B1q {T:Nat} {l:List Tk} (hk:Toks T l) {i:Nat} (hi:i≤l.length) {r:SR} (hr:SE l false 0 i r):seQ l i=Sc l i r:=by
 obtain⟨r',hr',e⟩:=A15 hk hi
 have h1:=A8y hk hr' hi (n:=18*l.length+T+960) (by omega)
 have h2:=A8y hk hr hi (n:=18*l.length+T+960) (by omega)
 rw[h1] at h2
 rw[e];exact Option.some.inj h2
theorem B1p {T:Nat} {l:List Tk} (hk:Toks T l) {i:Nat} (hi:i≤l.length) {r:PR} (hr:PE l (.fl 0) 0 i r):peQ l i=Ly l i r:=by
 obtain⟨r',hr',e⟩:=A25 hk hi
 have h1:=Wl hk.len hk.ok hk.txt hk.small hr' hi (n:=12*l.length+T+200) (by omega)
 have h2:=Wl hk.len hk.ok hk.txt hk.small hr hi (n:=12*l.length+T+200) (by omega)
 rw[h1] at h2
 rw[e];exact Option.some.inj h2
theorem Awo {T:Nat} {l:List Tk} (hk:Toks T l) {i:Nat} {b:List St} {rest:List Ck} (hi:i≤l.length) (hb:No b=true) (h:Ge l i (Jy (trS b)++(3,[125],0) :: rest)):∃ y,Jl l (i,0,0)=(y,(i+(Jy (trS b)).length+1,0,0))∧All2 b y:=by
 obtain⟨f1,f2,f3,f4⟩:=A9r hb
 obtain⟨y,y1,y2⟩:=A27 hk (trS b) i 0 _ f1 f4 hi h (by omega) (.inr ⟨0,rest,rfl⟩)
 rw[f2] at y2
 have hl:=Awh hb
 have e:=B1q hk hi y1
 rw[Sc,if_neg (by have:=y2.len;omega)] at e
 refine⟨y,?_,y2⟩
 unfold Jl
 dsimp only
 rw[e]
 have:=A2a (Ip h)
 dsimp only [faF]
 rw[Int.toNat_natCast]
 show(y,sgF [125] l (i+(Jy (trS b)).length,0,0))=_
 rw[this]
theorem Auw:∀ (F:SF) (rest:List Ck),(∀ x ∈ F.flat,Fo x=true)→Afe [114,101,103] (Jy F++(3,[125],0) :: rest)
 | .nil,rest,_=>by
  intro c r e
  have e:(3,[125],0) :: rest=c :: r:=e
  obtain⟨rfl,_⟩:=List.cons.inj e
  exact fun h=>absurd h.1 (by decide)
 | .cons x a b r',rest,h=>by
  intro c r e
  have hx:=(Agc (h x (by simp[SF.flat]))).1
  rw[Jy,A3d,List.cons_append,List.cons_append] at e
  obtain⟨rfl,_⟩:=List.cons.inj e
  rintro ⟨_,h2⟩
  have c:x.A7=1∨x.A7=2∨x.A7=3∨x.A7=4∨x.A7=5∨x.A7=6∨x.A7=7∨x.A7=8∨x.A7=9∨x.A7=10∨x.A7=11∨x.A7=12∨x.A7=13:=by omega
  dsimp only at h2
  rcases c with c | c | c | c | c | c | c | c | c | c | c | c | c<;>rw[c] at h2<;>exact absurd h2 (by decide)
theorem Ay2 {T:Nat} {l:List Tk} (hk:Toks T l) {i:Nat} {t:Th} {rest:List Ck} (hi:i≤l.length) (ht:Nf t=true) (h:Ge l i (Zh t++rest)):C9 [116,104,114,101,97,100] l (i,0,0)=true∧∃ u,Jv l (i,0,0)=(u,(i+(Zh t).length,0,0))∧Asz t u:=by
 simp only[Nf,Ah,List.all_eq_true] at ht
 obtain⟨_,f2,_,f4⟩:=A9r ht.2.2.1
 have hlen:=Vb h hi
 simp only[Zh,List.cons_append,List.append_assoc,List.nil_append] at h
 have h1:=Nq h
 have h2:=Nq h1
 have h3:=Nq h2
 simp only[Zh,List.length_cons,List.length_append,List.length_nil] at hlen
 have e1:=Adm h1 ht.1
 have e2:=A2a h2
 have e3:=Avl (by omega) ht.2.2.2 h3 (Auw _ rest f4)
 obtain⟨y,y1,y2⟩:=Awo hk (by omega) ht.2.2.1 (Ip h3)
 refine⟨by rw[A0x h];rfl,⟨t.Ao,t.Bh,y,atA l i⟩,?_,rfl,rfl,y2⟩
 unfold Jv
 dsimp only
 rw[e1]
 dsimp only
 rw[e2,e3]
 dsimp only
 rw[y1]
 simp only[Zh,List.length_cons,List.length_append,List.length_nil]
 congr 2;omega
theorem Alo {T:Nat} {l:List Tk} (hk:Toks T l) {rest:List Ck} (hn:Afe [116,104,114,101,97,100] rest):∀ (ts:List Th) (K i:Nat) (acc:List Th),i≤l.length→ts.length < K→(∀ v ∈ ts,Nf v=true)→Ge l i (ts.flatMap Zh++rest)→∃ us,Pw Asz ts us∧Gs l K (i,0,0) acc=(acc++us,(i+(ts.flatMap Zh).length,0,0))
 | [],K,i,acc,hi,hK,_,h=>by
  obtain⟨K,rfl⟩:∃ j,K=j+1:=⟨K - 1,by simp at hK;omega⟩
  have h:Ge l i rest:=h
  exact⟨[],trivial,by rw[Gs,Aif h hn];simp⟩
 | v :: vs,K,i,acc,hi,hK,hv,h=>by
  obtain⟨K,rfl⟩:∃ j,K=j+1:=⟨K - 1,by simp at hK;omega⟩
  rw[List.flatMap_cons,List.append_assoc] at h
  obtain⟨e2,u,e1,e3⟩:=Ay2 hk hi (hv v (List.mem_cons_self ..)) h
  obtain⟨ws,w1,w2⟩:=Alo hk hn vs K (i+(Zh v).length) (acc++[u]) (Vb h hi) (by simp at hK;omega) (fun u hu=>hv u (List.mem_cons_of_mem _ hu)) (Ip h)
  refine⟨u :: ws,⟨e3,w1⟩,?_⟩
  rw[Gs,e2,Af,e1]
  dsimp only
  rw[w2,List.append_assoc,List.flatMap_cons,List.length_append,← Nat.add_assoc];rfl
theorem Azi {x z:Nd} (hx:x.B3≠2) (hz:z.B3≠3) (h:Cy z=Cy x):zN (H5 z)=zN x:=by
 unfold Cy at h
 injection h with h1 h2 h3 h4
 unfold H5 zN
 by_cases c:x.B3=3
 ·rw[if_pos c,if_neg hz] at h1
  rw[if_pos h1]
  dsimp only
  rw[c,h2,h3,h4]
 ·rw[if_neg c,if_neg hz] at h1
  rw[if_neg (by omega)]
  rw[h1,h2,h3,h4]
theorem Akq:∀ {x z:List Nd},(∀ a ∈ x,a.B3≠2)→(∀ a ∈ z,a.B3≠3)→z.map Cy=x.map Cy→(z.map H5).map zN=x.map zN
 | [],[],_,_,_=>rfl
 | [],_ :: _,_,_,h=>by cases h
 | _ :: _,[],_,_,h=>by cases h
 | a :: x,b :: z,hx,hz,h=>by
  rw[List.map_cons,List.map_cons] at h
  obtain⟨h1,h2⟩:=List.cons.inj h
  rw[List.map_cons,List.map_cons,List.map_cons,Azi (hx a (List.mem_cons_self ..)) (hz b (List.mem_cons_self ..)) h1,Akq (fun c hc=>hx c (List.mem_cons_of_mem _ hc)) (fun c hc=>hz c (List.mem_cons_of_mem _ hc)) h2]
theorem Azm {T:Nat} {l:List Tk} (hk:Toks T l) {i:Nat} {x:List Nd} {rest:List Ck} (hi:i≤l.length) (h:Ep x=true) (hf:Ge l i (A8q x++rest)) (hs:Wv rest):∃ y,peQ l i=(y,((i+(A8q x).length:Nat):Int),0,0)∧y.map Cy=x.map Cy∧∀ z ∈ y,z.B3≠3:=by
 obtain⟨h1,h2,h3,h4,h5,_⟩:=Abw h
 obtain⟨y,y1,y2⟩:=(Arp (trE x) h1 (by rw[h2];exact h5)).2 i 0 rest hf (by omega) hs
 rw[h2] at y2
 have hg:=Xn hk.ok y1
 dsimp only at hg
 have hlen:y.length=x.length:=by simpa using congrArg List.length y2
 have hd:(Ff x (0,[])).1≤30:=by
  simp only[Ep,Ah,C1] at h;exact h.2.2.2
 have e:=B1p hk hi y1
 rw[Ly,if_neg (by rw[Aop y2];omega),if_neg (by omega)] at e
 exact⟨y,e,y2,fun z hz=>(hg.2 z hz).2⟩
theorem B1k {c:Cl} (h:P6 c=true):∀ x ∈ c.Bm,x.B3≠2:=by
 intro x hx e
 simp only[P6,Ah,clB,List.all_eq_true] at h
 have:=h.1 x (List.mem_filter.2 ⟨hx,by simp[Gb,e]⟩)
 rw[e] at this;revert this;decide
theorem Avu {l:List Tk} {i:Nat} {k v:Int} {cs:List Ck} (hk:1≤k∧k≤3) (h:Ge l i ((1,cwF k,v) :: cs)):Hb l (i,0,0)=k:=by
 unfold Hb
 rw[A0x h,A0x h,A0x h]
 have:k=1∨k=2∨k=3:=by omega
 rcases this with rfl | rfl | rfl<;>rfl
theorem B0p {T:Nat} {l:List Tk} (hk:Toks T l) {i:Nat} {c:Cl} {rest:List Ck} (hi:i≤l.length) (hc:P6 c=true) (h:Ge l i (Yd c++rest)):Hb l (i,0,0)=c.A7∧∃ d,clF c.A7 l (i,0,0)=(d,(i+(Yd c).length,0,0))∧Auv c d:=by
 have h2:=B1k hc
 simp only[P6,Ah,C1] at hc
 have hlen:=Vb h hi
 simp only[Yd,List.cons_append,List.append_assoc,List.nil_append] at h
 simp only[Yd,List.length_cons,List.length_append,List.length_nil] at hlen
 have h1:=Nq h
 obtain⟨y,y1,y2,y3⟩:=Azm hk (by omega) hc.2.2.1 h1 (Alp _ _)
 have e:=A2a (Ip h1)
 refine⟨Avu hc.2.1 h,⟨c.A7,y.map H5,atA l i⟩,?_,rfl,Akq h2 y3 y2⟩
 unfold clF
 dsimp only
 rw[y1]
 show((⟨c.A7,y.map H5,atA l i⟩:Cl),sgF [59] l (((i+1+(A8q c.Bm).length:Nat):Int).toNat,0,0))=_
 rw[Int.toNat_natCast,e]
 simp only[Yd,List.length_cons,List.length_append,List.length_nil]
 congr 2;omega
theorem Anp {T:Nat} {l:List Tk} (hk:Toks T l):∀ (cs:List Cl) (K i:Nat) (acc:List Cl),i≤l.length→cs.length < K→(∀ v ∈ cs,P6 v=true)→Ge l i (cs.flatMap Yd)→∃ ds,Pw Auv cs ds∧Ia l K (i,0,0) acc=(acc++ds,(i+(cs.flatMap Yd).length,0,0))
 | [],K,i,acc,hi,hK,_,h=>by
  obtain⟨K,rfl⟩:∃ j,K=j+1:=⟨K - 1,by simp at hK;omega⟩
  have h:Ge l i []:=h
  have no:∀ w,C9 w l (i,0,0)=false:=fun w=>Aif h (fun c r e=>by cases e)
  exact⟨[],trivial,by rw[Ia];unfold Hb;rw[no,no,no];simp⟩
 | v :: vs,K,i,acc,hi,hK,hv,h=>by
  obtain⟨K,rfl⟩:∃ j,K=j+1:=⟨K - 1,by simp at hK;omega⟩
  rw[List.flatMap_cons] at h
  have hc:=hv v (List.mem_cons_self ..)
  obtain⟨e2,u,e1,e3⟩:=B0p hk hi hc h
  obtain⟨ws,w1,w2⟩:=Anp hk vs K (i+(Yd v).length) (acc++[u]) (Vb h hi) (by simp at hK;omega) (fun u hu=>hv u (List.mem_cons_of_mem _ hu)) (Ip h)
  refine⟨u :: ws,⟨e3,w1⟩,?_⟩
  simp only[P6,Ah,C1] at hc
  rw[Ia,e2,decide_eq_true (show 0 < v.A7 by omega),Af,e1]
  dsimp only
  rw[w2,List.append_assoc,List.flatMap_cons,List.length_append,← Nat.add_assoc];rfl
theorem Ax9 {w:List UInt8} (hw:w≠[102,111,114,97,108,108]∧w≠[101,120,105,115,116,115]∧w≠[97,108,119,97,121,115]):∀ cs:List Cl,(∀ v ∈ cs,P6 v=true)→Afe w (cs.flatMap Yd)
 | [],_=>fun c r e=>by cases e
 | v :: vs,h=>by
  intro c r e
  have hc:=h v (List.mem_cons_self ..)
  simp only[P6,Ah,C1] at hc
  rw[List.flatMap_cons,Yd,List.cons_append] at e
  obtain⟨rfl,_⟩:=List.cons.inj e
  rintro ⟨_,h2⟩
  dsimp only at h2
  have:v.A7=1∨v.A7=2∨v.A7=3:=by omega
  rcases this with k | k | k<;>rw[k] at h2
  ·exact hw.1 h2.symm
  ·exact hw.2.1 h2.symm
  ·exact hw.2.2 h2.symm
theorem B16 {cs:List Cl} (hc:∀ v ∈ cs,P6 v=true):∀ ts:List Th,Afe [108,111,99] (ts.flatMap Zh++cs.flatMap Yd)
 | []=>Ax9 ⟨by decide,by decide,by decide⟩ cs hc
 | t :: ts=>by
  intro c r e
  rw[List.flatMap_cons,Zh,List.cons_append,List.cons_append] at e
  obtain⟨rfl,_⟩:=List.cons.inj e
  rintro ⟨_,h2⟩
  exact absurd h2 (by decide)
theorem Adl {α:Type} {f:α→List Ck} (hf:∀ x,1≤(f x).length):∀ l:List α,l.length≤(l.flatMap f).length
 | []=>Nat.le_refl _
 | x :: l=>by
  have:=hf x
  have:=Adl hf l
  rw[List.flatMap_cons,List.length_append,List.length_cons];omega
theorem Awl {T:Nat} {l:List Tk} (hk:Toks T l) {p:Pg} (hp:Lh p=true) (h:Ge l 0 (Asm p)) (hlen:l.length=(Asm p).length):∃ q,T4 l=(q,0,0)∧Ata p q:=by
 simp only[Lh,Ah,List.all_eq_true] at hp
 obtain⟨p1,p2,p3,p4⟩:=hp
 unfold Asm at h hlen
 simp only[List.length_cons,List.length_append] at hlen
 have g1:=Adl (f:=A7o) (fun x=>by simp[A7o]) p.B0
 have g2:=Adl (f:=Zh) (fun x=>by simp[Zh]) p.Ak
 have g3:=Adl (f:=Yd) (fun x=>by simp[Yd]) p.Ar
 have h1:=Nq h
 have h2:=Nq h1
 have h3:=Nq h2
 have h4:=Ip h3
 have h5:=Ip h4
 have e0:Li l=(p.Bo,(3,0,0)):=by
  unfold Li
  rw[A0x h,show((1:Int)==1&&([109,111,100]:List UInt8)==[109,111,100])=true from rfl,Af,Ari h1]
  dsimp only
  rw[A2a h2]
 obtain⟨vs,v1,v2⟩:=Akw (B16 p4 p.Ak) p.B0 (l.length+2) 3 [] (by omega) p2 h3
 obtain⟨ts,t1,t2⟩:=Alo hk (Ax9 ⟨by decide,by decide,by decide⟩ p.Ar p4) p.Ak (l.length+2) _ [] (by omega) (by omega) p3 h4
 obtain⟨cs,c1,c2⟩:=Anp hk p.Ar (l.length+2) _ [] (by omega) (by omega) p4 h5
 rw[List.nil_append] at v2 t2 c2
 refine⟨⟨p.Bo,vs,ts,cs⟩,?_,rfl,v1,t1,c1⟩
 unfold T4
 rw[e0]
 dsimp only
 rw[show(0+1+1+1:Nat)=3 from rfl] at *
 rw[v2]
 dsimp only
 rw[t2]
 dsimp only
 rw[c2]
 dsimp only
 unfold Oh
 rw[decide_eq_false (by dsimp only;omega)];rfl
theorem Az4 {s:List UInt8} {ts:List Ck} (h:Seg (fun _=>True) s ts) (hl:s.length≤20000):(Hr s).err=0:=by
 obtain⟨toks,h1,h2⟩:=h [] 0 [] trivial
 have:=h2 (s.length+1) 1 (by simp) (by simp)
 rw[List.append_nil] at this
 have e:Hr s=⟨toks,0,0⟩:=by rw[Hr,if_neg (by omega),this];simp[Ed,D7]
 rw[e]
theorem Atw {p:Pg} (hp:Lh p=true) (hl:(Xx p).length≤20000):∃ q,Qb (Xx p)=(q,0,0)∧Ata p q:=by
 have hs:=Ay3 hp
 obtain⟨h1,h2⟩:=Ayp hs hl
 obtain⟨q,q1,q2⟩:=Awl (A2e (Xx p) (by omega)) hp h1 h2
 exact⟨q,by unfold Qb;rw[Az4 hs hl];exact q1,q2⟩
theorem Y3 {x y:Nd} (h:Cy x=Cy y):Dl x.B3=Dl y.B3:=by
 have:=congrArg A2.B3 h
 simp only[Cy] at this
 by_cases c1:x.B3=3<;>by_cases c2:y.B3=3
 ·rw[c1,c2]
 ·rw[if_pos c1,if_neg c2] at this;rw[c1,← this];decide
 ·rw[if_neg c1,if_pos c2] at this;rw[c2,this];decide
 ·rw[if_neg c1,if_neg c2] at this;rw[this]
theorem Ax1 {x y:Nd} (h:Cy x=Cy y):(if x.B3=1 then Ki x.Bs else if x.B3=4 then x.Cq++[46]++x.Ao else x.Ao)=(if y.B3=1 then Ki y.Bs else if y.B3=4 then y.Cq++[46]++y.Ao else y.Ao):=by
 unfold Cy at h
 injection h with h1 h2 h3 h4
 rw[h2,h3,h4]
 by_cases c1:x.B3=3<;>by_cases c2:y.B3=3
 ·rw[c1,c2]
 ·rw[if_pos c1,if_neg c2] at h1;rw[c1,← h1];rfl
 ·rw[if_neg c1,if_pos c2] at h1;rw[c2,h1];rfl
 ·rw[if_neg c1,if_neg c2] at h1;rw[h1]
theorem Ax6 {x y:Nd} (h:Cy x=Cy y) (hk:Dl x.B3=2):Ez x.B3=Ez y.B3:=by
 have hk2:=Y3 h
 have:=congrArg A2.B3 h
 simp only[Cy] at this
 by_cases c1:x.B3=3
 ·rw[c1] at hk;exact absurd hk (by decide)
 by_cases c2:y.B3=3
 ·rw[hk,c2] at hk2;exact absurd hk2 (by decide)
 rw[if_neg c1,if_neg c2] at this;rw[this]
theorem B0l:∀ (t u:Tr) (r r':List Nd),t.wf→u.wf→(t.flat++r).map Cy=(u.flat++r').map Cy→(∀ o,Ig t o=Ig u o)∧r.map Cy=r'.map Cy:=by
 intro t
 induction t with
 | leaf x =>
  intro u r r' ht hu h
  cases u with
  | leaf y =>
   have h:Cy x :: r.map Cy=Cy y :: r'.map Cy:=h
   obtain⟨h1,h2⟩:=List.cons.inj h
   exact⟨fun o=>Ax1 h1,h2⟩
  | un y a =>
   have h:Cy x :: r.map Cy=Cy y :: (a.flat++r').map Cy:=h
   have hk:=Y3 (List.cons.inj h).1
   have h1:Dl x.B3=0:=ht
   rw[h1,hu.1] at hk;exact absurd hk (by decide)
  | bin y a b =>
   have h:Cy x :: r.map Cy=Cy y :: ((a.flat++b.flat)++r').map Cy:=h
   have hk:=Y3 (List.cons.inj h).1
   have h1:Dl x.B3=0:=ht
   rw[h1,hu.1] at hk;exact absurd hk (by decide)
 | un x a ih =>
  intro u r r' ht hu h
  cases u with
  | leaf y =>
   have h:Cy x :: (a.flat++r).map Cy=Cy y :: r'.map Cy:=h
   have hk:=Y3 (List.cons.inj h).1
   have h1:Dl y.B3=0:=hu
   rw[h1,ht.1] at hk;exact absurd hk (by decide)
  | un y b =>
   have h:Cy x :: (a.flat++r).map Cy=Cy y :: (b.flat++r').map Cy:=h
   obtain⟨_,h2⟩:=List.cons.inj h
   obtain⟨g1,g2⟩:=ih b r r' ht.2 hu.2 h2
   exact⟨fun o=>by rw[Ig,Ig,g1],g2⟩
  | bin y b c =>
   have h:Cy x :: (a.flat++r).map Cy=Cy y :: ((b.flat++c.flat)++r').map Cy:=h
   have hk:=Y3 (List.cons.inj h).1
   rw[ht.1,hu.1] at hk;exact absurd hk (by decide)
 | bin x a b iha ihb =>
  intro u r r' ht hu h
  cases u with
  | leaf y =>
   have h:Cy x :: ((a.flat++b.flat)++r).map Cy=Cy y :: r'.map Cy:=h
   have hk:=Y3 (List.cons.inj h).1
   have h1:Dl y.B3=0:=hu
   rw[h1,ht.1] at hk;exact absurd hk (by decide)
  | un y c =>
   have h:Cy x :: ((a.flat++b.flat)++r).map Cy=Cy y :: (c.flat++r').map Cy:=h
   have hk:=Y3 (List.cons.inj h).1
   rw[ht.1,hu.1] at hk;exact absurd hk (by decide)
  | bin y c d =>
   have h:Cy x :: ((a.flat++b.flat)++r).map Cy=Cy y :: ((c.flat++d.flat)++r').map Cy:=h
   obtain⟨h1,h2⟩:=List.cons.inj h
   rw[List.append_assoc,List.append_assoc] at h2
   obtain⟨g1,g2⟩:=iha c (b.flat++r) (d.flat++r') ht.2.1 hu.2.1 h2
   obtain⟨k1,k2⟩:=ihb d r r' ht.2.2 hu.2.2 g2
   exact⟨fun o=>by rw[Ig,Ig,g1,k1,Ax6 h1 ht.1],k2⟩
theorem Agv {x y:List Nd} (hx:Ep x=true) (hy:Ep y=true) (h:x.map Cy=y.map Cy):N5 x=N5 y:=by
 obtain⟨a1,a2,_,_,_,a6⟩:=Abw hx
 obtain⟨b1,b2,_,_,_,b6⟩:=Abw hy
 rw[a6,b6]
 exact(B0l (trE x) (trE y) [] [] a1 b1 (by rw[List.append_nil,List.append_nil,a2,b2];exact h)).1 false
theorem Awi {x y:List Nd} (h:x.map zN=y.map zN):x.map Cy=y.map Cy:=by
 have e:∀ l:List Nd,l.map Cy=(l.map zN).map Cy:=fun l=>by rw[List.map_map];rfl
 rw[e x,e y,h]
theorem As5 {f:List UInt8} {c:Int} {x y:List Nd} (hx:fL f c x=true) (hy:fL f c y=true) (h:x.map zN=y.map zN):N5 x=N5 y:=by
 unfold fL at hx hy
 split at hx
 ·rename_i hc
  rw[if_pos hc] at hy
  rw[Ah] at hx hy
  exact Agv hx.2 hy.2 (Awi h)
 ·rename_i hc
  rw[if_neg hc] at hy
  rw[beq_iff_eq] at hx hy
  rw[List.length_eq_zero_iff.1 (show x.length=0 by omega),List.length_eq_zero_iff.1 (show y.length=0 by omega)]
theorem B2d {x y:St} (hx:Fo x=true) (hy:Fo y=true) (h:zS x=zS y):A87 x=A87 y:=by
 unfold zS at h
 injection h with h1 h2 h3 h4 h5 h6 h7 h8
 simp only[Fo,Ah] at hx hy
 rw[← h1] at hy
 have e1:=As5 hx.2.2.2.2.2.1 hy.2.2.2.2.2.1 h4
 have e2:=As5 hx.2.2.2.2.2.2.1 hy.2.2.2.2.2.2.1 h5
 have ep:Sy x=Sy y:=by funext c;unfold Sy;rw[h2,h3,e1,e2,h6]
 unfold A87
 rw[ep,h1]
theorem B07:∀ (F G:SF),F.wf→G.wf→(∀ x ∈ F.flat,Fo x=true)→(∀ x ∈ G.flat,Fo x=true)→F.flat.map zS=G.flat.map zS→∀ d,Od F d=Od G d:=by
 intro F
 induction F with
 | nil =>
  intro G _ _ _ _ h d
  cases G with
  | nil=>rfl
  | cons y a b r=>cases h
 | cons x a b r iha ihb ihr =>
  intro G hF hG fx fy h d
  cases G with
  | nil=>cases h
  | cons y a' b' r' =>
   obtain⟨w1,w2,wa,wb,wr⟩:=hF
   obtain⟨v1,v2,va,vb,vr⟩:=hG
   simp only[SF.flat,List.map_cons,List.map_append] at h
   obtain⟨h1,h2⟩:=List.cons.inj h
   have hx:=fx x (by simp[SF.flat])
   have hy:=fy y (by simp[SF.flat])
   have eh:=B2d hx hy h1
   have h1':=h1
   unfold zS at h1'
   injection h1' with k1 k2 k3 k4 k5 k6 k7 k8
   have la:a.flat.length=a'.flat.length:=by rw[w1,v1] at k7;omega
   have lb:b.flat.length=b'.flat.length:=by rw[w2,v2] at k8;omega
   obtain⟨ea,h3⟩:=List.append_inj h2 (by simp[la])
   obtain⟨eb,er⟩:=List.append_inj h3 (by simp[lb])
   have ia:=iha a' wa va (fun z hz=>fx z (by simp[SF.flat,hz])) (fun z hz=>fy z (by simp[SF.flat,hz])) ea
   have ib:=ihb b' wb vb (fun z hz=>fx z (by simp[SF.flat,hz])) (fun z hz=>fy z (by simp[SF.flat,hz])) eb
   have ir:=ihr r' wr vr (fun z hz=>fx z (by simp[SF.flat,hz])) (fun z hz=>fy z (by simp[SF.flat,hz])) er
   have be:(b.flat=[])=(b'.flat=[]):=by
    rw[← List.length_eq_zero_iff,← List.length_eq_zero_iff,lb]
   simp only[Od,eh,ia,ib,ir,k1,be]
theorem A89 {α:Type} {f:α→List UInt8} {z:α→α} {P:α→Prop} (hf:∀ x y,P x→P y→z x=z y→f x=f y):∀ (l m:List α),(∀ x ∈ l,P x)→(∀ x ∈ m,P x)→l.map z=m.map z→l.flatMap f=m.flatMap f
 | [],[],_,_,_=>rfl
 | [],_ :: _,_,_,h=>by cases h
 | _ :: _,[],_,_,h=>by cases h
 | x :: l,y :: m,hl,hm,h=>by
  rw[List.map_cons,List.map_cons] at h
  obtain⟨h1,h2⟩:=List.cons.inj h
  rw[List.flatMap_cons,List.flatMap_cons,hf x y (hl x (List.mem_cons_self ..)) (hm y (List.mem_cons_self ..)) h1,A89 hf l m (fun a ha=>hl a (List.mem_cons_of_mem _ ha)) (fun a ha=>hm a (List.mem_cons_of_mem _ ha)) h2]
theorem B2f {p q:Pg} (hp:Lh p=true) (hq:Lh q=true) (h:zP p=zP q):Xx p=Xx q:=by
 simp only[Lh,Ah,List.all_eq_true] at hp hq
 unfold zP at h
 injection h with h1 h2 h3 h4
 unfold Xx
 rw[h1,A89 (f:=A22) (z:=zV) (P:=fun _=>True) (fun x y _ _ e=>by unfold zV at e;injection e with e1 e2;unfold A22;rw[e1,e2]) _ _ (fun _ _=>trivial) (fun _ _=>trivial) h2,
  A89 (f:=A1k) (z:=zT) (P:=fun t=>Nf t=true) (fun x y hx hy e=>by
   unfold zT at e
   injection e with e1 e2 e3
   simp only[Nf,Ah,List.all_eq_true] at hx hy
   obtain⟨a1,a2,_,a4⟩:=A9r hx.2.2.1
   obtain⟨b1,b2,_,b4⟩:=A9r hy.2.2.1
   have:=B07 _ _ a1 b1 a4 b4 (by rw[a2,b2];exact e3) 1
   unfold A1k
   rw[e1,e2,this]) _ _ hp.2.2.1 hq.2.2.1 h3,
  A89 (f:=clT) (z:=zC) (P:=fun c=>P6 c=true) (fun x y hx hy e=>by
   unfold zC at e
   injection e with e1 e2
   simp only[P6,Ah] at hx hy
   unfold clT
   rw[e1,Agv hx.2.2.1 hy.2.2.1 (Awi e2)]) _ _ hp.2.2.2 hq.2.2.2 h4]
theorem Arz {x y:List Nd} (h:SameX x y):x.map zN=y.map zN:=by
 obtain⟨h1,h2,h3⟩:=h
 have key:∀ {x y:List Nd},(∀ z ∈ x,z.B3≠3)→(∀ z ∈ y,z.B3≠3)→x.map Cy=y.map Cy→x.map zN=y.map zN:=by
  intro x
  induction x with
  | nil=>intro y _ _ h;cases y with
    | nil=>rfl
    | cons b y=>cases h
  | cons a x ih =>
   intro y hx hy h
   cases y with
   | nil=>cases h
   | cons b y =>
    rw[List.map_cons,List.map_cons] at h
    obtain⟨e1,e2⟩:=List.cons.inj h
    rw[List.map_cons,List.map_cons,ih (fun z hz=>hx z (List.mem_cons_of_mem _ hz)) (fun z hz=>hy z (List.mem_cons_of_mem _ hz)) e2]
    have ha:=hx a (List.mem_cons_self ..)
    have hb:=hy b (List.mem_cons_self ..)
    unfold Cy at e1
    rw[if_neg ha,if_neg hb] at e1
    injection e1 with q1 q2 q3 q4
    unfold zN;rw[q1,q2,q3,q4]
 exact key h2 h3 h1
theorem B1d {x y:St} (h:SameS x y):zS x=zS y:=by
 unfold zS
 rw[h.k,h.r,h.l,h.n,h.b,h.c,Arz h.e,Arz h.f]
theorem Awn:∀ {l m:List St},All2 l m→l.map zS=m.map zS
 | [],[],_=>rfl
 | _ :: l,_ :: m,h=>by rw[List.map_cons,List.map_cons,B1d h.1,Awn h.2]
 | [],_ :: _,h=>h.elim
 | _ :: _,[],h=>h.elim
theorem Axs {α:Type} {R:α→α→Prop} {z:α→α} (hz:∀ x y,R x y→z y=z x):∀ {l m:List α},Pw R l m→m.map z=l.map z
 | [],[],_=>rfl
 | _ :: l,_ :: m,h=>by rw[List.map_cons,List.map_cons,hz _ _ h.1,Axs hz h.2]
 | [],_ :: _,h=>h.elim
 | _ :: _,[],h=>h.elim
theorem B0a {p q:Pg} (h:Ata p q):zP q=zP p:=by
 unfold zP
 rw[h.md,h.loc,Axs (z:=zT) (fun x y h=>by unfold zT;rw[h.1,h.2.1,Awn h.2.2]) h.thr,Axs (z:=zC) (fun x y h=>by unfold zC;rw[h.1,h.2]) h.cl]
theorem B20:∀ (k:Nat) (x:Int),Im k x=F8 k x:=by
 intro k
 induction k with
 | zero=>intro x;rfl
 | succ k ih=>intro x;rw[Im,F8,ih]
theorem Aok {x:Int} (h:0≤x∧x≤9999) {n:Nat} (hn:4≤n):Im n x=some (Ki x)∧(Ki x).length≤4:=by
 obtain⟨d1,d2⟩:=Amp h
 exact⟨by rw[B20];exact d2 n hn,d1⟩
theorem Aax {α τ:Type} (l:List α) (f:α→List UInt8) (B C:Nat) (L:Nat→List UInt8→Nat→Option (LR (List UInt8) τ)) (hB:∀ x ∈ l,(f x).length≤B) (h0:∀ k acc,L (k+1) acc l.length=some (.out acc))
 (h1:∀ k acc i x,i < l.length→l[i]?=some x→acc.length≤C+i*B→L (k+1) acc i=L k (acc++f x) (i+1)):∀ (m k i:Nat) (acc:List UInt8),i+m=l.length→m < k→acc.length≤C+i*B→L k acc i=some (.out (acc++(l.drop i).flatMap f)):=by
 intro m
 induction m with
 | zero =>
  intro k i acc hi hk ha
  obtain⟨k,rfl⟩:∃ j,k=j+1:=⟨k - 1,by omega⟩
  obtain rfl:i=l.length:=by omega
  rw[h0,List.drop_length];simp
 | succ m ih =>
  intro k i acc hi hk ha
  obtain⟨k,rfl⟩:∃ j,k=j+1:=⟨k - 1,by omega⟩
  have hlt:i < l.length:=by omega
  have hb:=hB l[i] (List.getElem_mem hlt)
  rw[h1 k acc i l[i] hlt (Ax hlt) ha,ih k (i+1) (acc++f l[i]) (by omega) (by omega) (by rw[List.length_append,Nat.succ_mul];omega),List.drop_eq_getElem_cons hlt,List.flatMap_cons,List.append_assoc]
theorem A85 {l:List UInt8} (h:Cp l=true):l.length≤16:=by
 simp only[Cp,Ah,C1] at h;exact h.1.1.2
theorem Aq4 {v:Va} (h:Pv v=true):(A22 v).length≤100:=by
 simp only[Pv,Ah] at h
 have h1:=A85 h.1
 have h2:=(Aok (Aca h.2.1) (n:=4) (by omega)).2
 simp[A22];omega
def A0w (r:List UInt8):List UInt8:=[44,32]++r
theorem Agi:∀ rs:List (List UInt8),A8d rs=rs.flatMap A0w++[59,10]
 | []=>rfl
 | r :: rs=>by rw[A8d,Agi rs,List.flatMap_cons];simp[A0w]
def A3r:List (List UInt8)→List UInt8
 | []=>[]
 | r :: rs=>([32,32,114,101,103,32]++r)++rs.flatMap A0w
theorem Arh (rs:List (List UInt8)):A5i rs=if rs.length=0 then [] else A3r rs++[59,10]:=by
 cases rs with
 | nil=>rfl
 | cons r rs=>rw[if_neg (by simp),A5i,A3r,Agi];simp
theorem Akx {rs:List (List UInt8)} (hr:∀ r ∈ rs,r.length≤100) (hl:rs.length≤4000):(A3r rs).length≤1000000:=by
 have:∀ q:List (List UInt8),(∀ r ∈ q,r.length≤100)→(q.flatMap A0w).length≤q.length*102:=by
  intro q
  induction q with
  | nil=>intro _;simp
  | cons r q ih =>
   intro h
   have h1:=h r (List.mem_cons_self ..)
   have h2:=ih fun x hx=>h x (List.mem_cons_of_mem _ hx)
   rw[List.flatMap_cons,List.length_append,List.length_cons,Nat.succ_mul]
   have:(A0w r).length≤102:=by simp[A0w];omega
   omega
 cases rs with
 | nil=>simp[A3r]
 | cons r rs =>
  have h1:=hr r (List.mem_cons_self ..)
  have h2:=this rs fun x hx=>hr x (List.mem_cons_of_mem _ hx)
  simp only[List.length_cons] at hl
  rw[A3r,List.length_append,List.length_append]
  simp only[List.length_cons,List.length_nil]
  omega
theorem B2n (n:Nat) (t:Th) (hr:∀ r ∈ t.Bh,r.length≤100) (hl:t.Bh.length≤4000) (acc:List UInt8) (ha:acc.length≤100000000000000) (hn:4100 < n) :
 Ie n t n acc [32,32,114,101,103,32] 0=some (.out (acc++A3r t.Bh)):=by
 obtain⟨n,rfl⟩:∃ j,n=j+1:=⟨n - 1,by omega⟩
 cases hq:t.Bh with
 | nil=>rw[Ie,hq,Aq (by simp)];simp[A3r]
 | cons r rs =>
  have hlen:t.Bh.length=rs.length+1:=by rw[hq];rfl
  have hi0:idx t.Bh 0=some r:=by rw[hq];rfl
  have h1:=hr r (by rw[hq];exact List.mem_cons_self ..)
  rw[Ie,A6 (by omega),hi0,A1,A6 (by simp;omega),A6 (by simp;omega)]
  have:=Aax (τ:=List UInt8) t.Bh A0w 102 (acc.length+106) (fun k a i=>Ie (n+1) t k a [44,32] (i:Int)) (fun x hx=>by have:=hr x hx;simp[A0w];omega)
   (fun k a=>by rw[Ie,Aq (by omega)])
   (fun k a i x hi hx hc=>by
    have h2:=hr x (List.mem_of_getElem? hx)
    rw[Ie,A6 (by omega),Cn hx,A1,A6 (by simp;omega),A6 (by simp;omega),Ay i (by omega)];rfl)
   rs.length n 1 (acc++([32,32,114,101,103,32]++r)) (by omega) (by omega) (by simp;omega)
  have e:IntKind.i64.wrap ((0:Int)+1)=((1:Nat):Int):=by decide +kernel
  rw[e]
  refine this.trans ?_
  rw[hq,List.drop_one,List.tail_cons,A3r,List.append_assoc]
theorem Alk {t:Th} (h:No t.B5=true) (hl:t.B5.length≤250) {n:Nat} (hn:6000 < n):O4 n t.B5 1=some (Od (trS t.B5) 1)∧(Od (trS t.B5) 1).length≤25000000:=by
 obtain⟨g1,g2,_,g4⟩:=A9r h
 have e:=B0j g1 (by rw[g2];exact h) 1 n (by omega) hn
 rw[g2] at e
 refine⟨e,?_⟩
 have h1:=A0p (trS t.B5) 1 g4 (by rw[g2];omega)
 rw[g2] at h1
 have:100000*t.B5.length≤100000*250:=Nat.mul_le_mul_left _ hl
 omega
theorem Are (t:Th):A1k t=((([116,104,114,101,97,100,32]++t.Ao)++[32,123,10])++A5i t.Bh)++(Od (trS t.B5) 1++[125,10]):=by
 simp[A1k]
theorem Apa {t:Th} (h:Nf t=true) (hb:Adc t):(A1k t).length≤30000000:=by
 simp only[Nf,Ah,List.all_eq_true] at h
 have h1:=A85 h.1
 have h2:=(Alk h.2.2.1 hb.body (n:=6001) (by omega)).2
 have h3:=Akx hb.reg hb.regs
 have h4:(A5i t.Bh).length≤1000002:=by
  rw[Arh];split
  ·simp
  ·simp;omega
 rw[Are]
 simp only[List.length_append,List.length_cons,List.length_nil]
 omega
theorem Ave (c:Cl):clT c=(((cwF c.A7++[32])++N5 c.Bm)++[59,10]):=by simp[clT]
theorem As4 {k:Int} (h:1≤k∧k≤3):(cwF k).length≤6:=by
 have:k=1∨k=2∨k=3:=by omega
 rcases this with rfl | rfl | rfl<;>decide
theorem B0i {c:Cl} (h:P6 c=true):(clT c).length≤10000:=by
 simp only[P6,Ah,C1] at h
 obtain⟨_,_,_,_,_,_,_,h7,_⟩:=Afd h.2.2.1
 have:=As4 h.2.1
 rw[Ave]
 simp only[List.length_append,List.length_cons,List.length_nil]
 omega
theorem B1u (n:Nat) {k:Int} (h:1≤k∧k≤3):Km (n+1) k=some (cwF k):=by
 have:k=1∨k=2∨k=3:=by omega
 rcases this with rfl | rfl | rfl<;>rfl
theorem Af3 {α:Type} (f:α→List UInt8) (B:Nat):∀ l:List α,(∀ x ∈ l,(f x).length≤B)→(l.flatMap f).length≤l.length*B
 | [],_=>by simp
 | x :: l,h=>by
  have h1:=h x (List.mem_cons_self ..)
  have h2:=Af3 f B l fun y hy=>h y (List.mem_cons_of_mem _ hy)
  rw[List.flatMap_cons,List.length_append,List.length_cons,Nat.succ_mul];omega
theorem Awq {p:Pg} (h:Lh p=true) (hb:Ux p) {n:Nat} (hn:7000 < n):Pe n p=some (Xx p):=by
 obtain⟨n,rfl⟩:∃ j,n=j+1:=⟨n - 1,by omega⟩
 have hr:=Arn n p hb (by omega)
 have h':=h
 simp only[Lh,Ah,List.all_eq_true] at h'
 obtain⟨hm,hv,ht,hc⟩:=h'
 obtain⟨d1,d2⟩:=Aok (Aca hm) (n:=n) (by omega)
 have b1:=hb.locs
 have b2:=hb.threads
 have b3:=hb.claims
 rw[Pe,hr,A1,h,Af,d1,A1,A6 (by simp;omega),A6 (by simp;omega)]
 generalize hh:((([109,111,100,32]:List UInt8)++Ki p.Bo)++[59,10])=H0
 have l0:H0.length≤10:=by rw[← hh];simp;omega
 have e1:=Aax (τ:=List UInt8) p.B0 A22 100 10 (fun k a i=>Jr n p k a (i:Int)) (fun x hx=>Aq4 (hv x hx)) (fun k a=>by rw[Jr,Aq (by omega)])
  (fun k a i x hi hx hcap=>by
   have ok:=hv x (List.mem_of_getElem? hx)
   simp only[Pv,Ah] at ok
   have q1:=A85 ok.1
   obtain⟨q2,q3⟩:=Aok (Aca ok.2.1) (n:=n) (by omega)
   rw[Jr,A6 (by omega),Cn hx,A1,A6 (by simp;omega),A6 (by simp;omega),q2,A1,A6 (by simp;omega),A6 (by simp;omega),A6 (by simp;omega),Ay i (by omega)]
   congr 1
   simp[A22])
  p.B0.length n 0 H0 (by omega) (by omega) (by omega)
 rw[List.drop_zero] at e1
 have e1:Jr n p n H0 0=some (.out (H0++p.B0.flatMap A22)):=e1
 rw[e1,A1]
 dsimp only
 have l1:(H0++p.B0.flatMap A22).length≤500000:=by
  have:=Af3 A22 100 p.B0 fun x hx=>Aq4 (hv x hx)
  rw[List.length_append];omega
 generalize hH1:H0++p.B0.flatMap A22=H1 at *
 have e2:=Aax (τ:=List UInt8) p.Ak A1k 30000000 500000 (fun k a i=>Id n p k a (i:Int)) (fun x hx=>Apa (ht x hx) (hb.thr x hx)) (fun k a=>by rw[Id,Aq (by omega)])
  (fun k a i x hi hx hcap=>by
   have ok:=ht x (List.mem_of_getElem? hx)
   have bt:=hb.thr x (List.mem_of_getElem? hx)
   simp only[Nf,Ah] at ok
   have q1:=A85 ok.1
   obtain⟨q2,q3⟩:=Alk ok.2.2.1 bt.body (n:=n) (by omega)
   have q4:=Akx bt.reg bt.regs
   have hi':i*30000000≤4000*30000000:=Nat.mul_le_mul_right _ (by omega)
   rw[Id,A6 (by omega),Cn hx,A1,A6 (by simp;omega),A6 (by simp;omega),A6 (by simp;omega),B2n n x bt.reg bt.regs _ (by simp;omega) (by omega),A1]
   dsimp only
   rw[Are,Arh,q2,A1,A1,Ay i (by omega)]
   by_cases hz:x.Bh.length=0
   ·rw[if_pos hz,Aq (by omega),List.length_eq_zero_iff.1 hz]
    rw[A6 (by simp;omega),A6 (by simp[A3r];omega)]
    congr 1
    simp[A3r]
   ·rw[if_neg hz,A6 (show(0:Int) < ((x.Bh.length:Nat):Int) by omega),A6 (by simp;omega),A6 (by simp;omega),A6 (by simp;omega)]
    congr 1
    simp)
  p.Ak.length n 0 H1 (by omega) (by omega) (by omega)
 rw[List.drop_zero] at e2
 have e2:Id n p n H1 0=some (.out (H1++p.Ak.flatMap A1k)):=e2
 rw[e2,A1]
 dsimp only
 have l2:(H1++p.Ak.flatMap A1k).length≤200000000000:=by
  have:=Af3 A1k 30000000 p.Ak fun x hx=>Apa (ht x hx) (hb.thr x hx)
  have hi':p.Ak.length*30000000≤4000*30000000:=Nat.mul_le_mul_right _ (by omega)
  rw[List.length_append];omega
 generalize hH2:H1++p.Ak.flatMap A1k=H2 at *
 have e3:=Aax (τ:=List UInt8) p.Ar clT 10000 200000000000 (fun k a i=>K0 n p k a (i:Int)) (fun x hx=>B0i (hc x hx)) (fun k a=>by rw[K0,Aq (by omega)])
  (fun k a i x hi hx hcap=>by
   have ok:=hc x (List.mem_of_getElem? hx)
   simp only[P6,Ah,C1] at ok
   obtain⟨_,_,_,_,_,_,_,q1,q2⟩:=Afd ok.2.2.1
   have q3:=As4 ok.2.1
   obtain⟨n,rfl⟩:∃ j,n=j+1:=⟨n - 1,by omega⟩
   rw[K0,A6 (by omega),Cn hx,A1,B1u n ok.2.1,A1,A6 (by simp;omega),q2 (n+1) (by omega),A1,A6 (by simp;omega),A6 (by simp;omega),A6 (by simp;omega),Ay i (by omega),Ave])
  p.Ar.length n 0 H2 (by omega) (by omega) (by omega)
 rw[List.drop_zero] at e3
 have e3:K0 n p n H2 0=some (.out (H2++p.Ar.flatMap clT)):=e3
 rw[e3,A1]
 dsimp only
 rw[← hH2,← hH1,← hh]
 simp[Xx]
set_option maxRecDepth 100000
theorem Yp {l:List Nd} (h:Hn l=true):l.length≤250:=by
 simp only[Hn,Ah,C1] at h;exact h.1
theorem Af9 {p:Pg} (h:Ux p):Abc p:=by
 refine⟨h.locs,h.threads,h.claims,fun t ht=>?_,fun c hc=>?_⟩
 ·have b:=h.thr t ht
  refine⟨b.regs,by have:=b.body;omega,fun x hx=>?_⟩
  obtain⟨_,_,l1,l2⟩:=b.st x hx
  have:=Yp l1
  have:=Yp l2
  exact⟨by omega,by omega⟩
 ·have:=Yp (h.cl c hc);omega
theorem Asx {B T:Nat} {l:List Tk} (hl:TokB B T l) (h0:(T4 l).2.1=0):Lh (T4 l).1=true:=by
 unfold T4 at h0 ⊢
 dsimp only at h0 ⊢
 cases he:(Oh l (Ia l (l.length+2) (Gs l (l.length+2) (Fh l (l.length+2) (Li l).2 []).2 []).2 []).2).2.1 != 0 with
 | true =>
  rw[he,Af] at h0
  rw[bne_iff_ne] at he;exact absurd h0 he
 | false =>
  rw[An]
  rw[bne_eq_false_iff_eq] at he
  obtain⟨c1,c2⟩:=A6u hl _ _ [] (fun _ v hv=>(by cases hv)) (Afg he)
  obtain⟨t1,t2,t3⟩:=A48 hl _ _ [] (fun _ v hv=>(by cases hv)) (fun v hv=>(by cases hv)) c1
  obtain⟨v1,v2⟩:=A4g hl _ _ [] (fun _ v hv=>(by cases hv)) t1
  simp only[Lh,Ah,List.all_eq_true]
  exact⟨Aa5 hl.toks v1,fun v hv=>(v2 v hv).1,fun v hv=>(t2 v hv).1,fun v hv=>(c2 v hv).1⟩
theorem Apb {s:List UInt8} (hs:s.length≤20000) (h0:(Qb s).2.1=0):Lh (Qb s).1=true:=by
 unfold Qb at h0 ⊢
 cases he:(Hr s).err != 0 with
 | true=>rw[he,Af] at h0;rw[bne_iff_ne] at he;exact absurd h0 he
 | false=>rw[he,An] at h0;exact Asx (Aiu s (by omega)) h0
theorem Au8 {p q:Pg} (h:zP q=zP p) (hb:Ux p) (hq:Lh q=true):Ux q:=by
 unfold zP at h
 injection h with h1 h2 h3 h4
 have l1:=Sf h2
 have l2:=Sf h3
 have l3:=Sf h4
 have b1:=hb.locs
 have b2:=hb.threads
 have b3:=hb.claims
 refine A8f hq (by omega) (by omega) (by omega) fun t ht=>?_
 have hm:zT t ∈ p.Ak.map zT:=by rw[← h3];exact List.mem_map_of_mem ht
 obtain⟨u,hu,e⟩:=List.mem_map.1 hm
 have e2:u.Bh=t.Bh:=by have:=congrArg Ae.Bh e;exact this
 rw[← e2];exact(hb.thr u hu).regs
theorem Aws (p:Pg) (h:Lh p=true):∃ y,Gj 500000 (Xx p)=some y∧(¬ 20000 < (((Xx p).length:Nat):Int)→∃ q,y=(q,0,0)∧zP q=zP p∧Lh q=true):=by
 by_cases c2:20000 < (Xx p).length
 ·refine⟨(noP,2,20000),?_,fun h=>absurd (by omega) h⟩
  rw[Gj,Ae0 499999 _ (.inr ⟨c2,by omega⟩),A1,Hr,if_pos (by omega)];rfl
 ·obtain⟨q,q1,q2⟩:=Atw h (by omega)
  refine⟨_,Aj8 (by omega) (by omega),fun _=>⟨q,q1,B0a q2,?_⟩⟩
  have:=Apb (s:=Xx p) (by omega) (by rw[q1])
  rw[q1] at this;exact this
theorem Atn (k4:Ir 500000=some true) (p:Pg):Tw 500001 p=some true:=by
 rw[Tw,Azu 500000 p (by omega),A1]
 cases hl:lgP p with
 | false=>rw[An,k4];rfl
 | true =>
  obtain⟨hb,_⟩:=Avg hl
  rw[Af,Arn 500000 p hb (by omega),A1]
  cases hr:Lh p with
  | false=>rw[An,k4];rfl
  | true =>
   obtain⟨y,y1,y2⟩:=Aws p hr
   rw[Af,Awq hr hb (by omega),A1,y1,A1]
   by_cases c2:20000 < (((Xx p).length:Nat):Int)
   ·rw[A6 c2,k4];rfl
   ·obtain⟨q,rfl,q2,q3⟩:=y2 c2
    rw[Aq c2]
    dsimp only
    rw[show((0:Int)==0)=true from rfl,Af,Af,Ak8 500000 false p q (B24 q2.symm) (Af9 hb) (by omega),A1,Af,Awq q3 (Au8 q2 hb q3) (by omega),A1,B2f q3 hr q2,beq_self_eq_true,Af,k4];rfl
theorem Akg:Ir 500000=some true:=by decide +kernel
theorem Auc (p:Pg):Tw 500001 p=some true:=Atn Akg p
set_option maxHeartbeats 4000000
theorem Ya {n:Nat} ⦃Dm:Int⦄ ⦃r:Int⦄:Jk n Dm=some r→CN n 106 [iA Dm] []=some (iA r,[]):=by
 intro h;rcases n with _|n;cases h
 rw[Jk] at h
 refine Ai Tryz.func106 (by rfl) rfl rfl (Ap rfl) ?_
 intro call hc;conv=>lhs;whnf
 revert h
 refine br ?_ ?_
 refine br ?_ ?_
 exact rz
 refine br ?_ ?_
 exact rz
 refine br ?_ ?_
 refine br ?_ ?_
 exact rz
 exact rz
 exact rz
 refine br ?_ ?_
 exact rz
 refine br ?_ ?_
 refine br ?_ ?_
 exact rz
 exact rz
 exact rz
theorem A8l {n:Nat} ⦃Aa:(List A2)⦄ ⦃Bb:Int⦄ ⦃r:Int⦄:Qr n Aa Bb=some r→CN n 93 [AV.sl 5 (List.map A3 Aa),iA Bb] []=some (iA r,[]):=by
 intro h;rcases n with _|n;cases h
 rw[Qr] at h
 refine Ai Tryz.func93 (by rfl) rfl rfl (Ap rfl) ?_
 intro call hc;conv=>lhs;whnf
 revert h
 refine br ?_ ?_
 exact rz
 intro h;refine As h ?_;clear h;intro o11 ho11 h
 refine lq (σ:=(Int×Int)) (τ:=Unit) (ν:=Int) 0 (fun(s2,s3) a5=>B9 31 [(0,AV.sl 5 (List.map A3 Aa)),(1,iA s2),(5,iA s3)]) (fun(s2,s3) a5=>[]) (fun _ a18=>B9 31 []) (fun _ a18=>[]) (fun v=>(iA v,[])) (fun k s=>He n Aa k s.1 s.2) (fun s=>rfl) o11 n (Bb,1) (fun _=>0) ho11 ?_ ?_
 intro k4 ss a5 K6 cont7 hK8 hcont9 h hr10
 obtain⟨s2,s3⟩:=ss
 replace h:He n Aa (k4+1) s2 s3=some o11:=h
 rw[He] at h
 conv=>lhs;whnf
 revert h
 refine br ?_ ?_
 refine ix ?_;intro x13
 refine ca hc (fun _ h=>Ya h) ?_;intro y14
 refine br ?_ ?_
 intro h;cases sj h
 refine(hK8 _ _).trans ?_
 refine Eq.trans ?_ (Eq.symm (show _=some _ from hr10))
 conv=>lhs;whnf
 exact rq
 refine br ?_ ?_
 intro h;cases sj h
 refine(hK8 _ _).trans ?_
 refine Eq.trans ?_ (Eq.symm (show _=some _ from hr10))
 conv=>lhs;whnf
 exact rq
 exact fun h=>cq (hcont9 (IntKind.i64.wrap (s2+1),IntKind.i64.wrap (s3+(IntKind.i64.wrap (y14 - 1)))) (fun _=>0) h)
 intro h;cases sj h
 exact kq (hr10 (fun _=>0))
 refine lrc ?_ ?_
 intro v e;subst e;cases sj h;rfl
 intro t a18 e;subst e
 dsimp only at h
 conv=>lhs;whnf
 revert h
 exact rz
theorem Xd {n:Nat} ⦃Aa:(List A2)⦄ ⦃r:(List A2)⦄:Lq n Aa=some r→CN n 74 [AV.sl 5 (List.map A3 Aa)] []=some (AV.sl 5 (List.map A3 r),[]):=by
 intro h;rcases n with _|n;cases h
 rw[Lq] at h
 refine Ai Tryz.func74 (by rfl) rfl rfl (Ap rfl) ?_
 intro call hc;conv=>lhs;whnf
 revert h
 intro h;refine As h ?_;clear h;intro o10 ho10 h
 refine lq (σ:=(Int×(List A2))) (τ:=(List A2)) (ν:=(List A2)) 0 (fun(s1,s2) a4=>B9 24 [(3,AV.row 0 (List.length s2)),(6,AV.sl 5 (List.map A3 Aa)),(7,iA (((Aa.length:Nat):Int))),(8,iA s1)]) (fun(s1,s2) a4=>[Ob.row 47 5 (List.map A3 s2)]) (fun x23 a22=>B9 24 [(3,AV.row 0 (List.length x23))]) (fun x23 a22=>[Ob.row 47 5 (List.map A3 x23)]) (fun v=>(AV.sl 5 (List.map A3 v),[])) (fun k s=>Ek n Aa k s.1 s.2) (fun s=>rfl) o10 n (0,([]:List A2)) (fun _=>0) ho10 ?_ ?_
 intro k3 ss a4 K5 cont6 hK7 hcont8 h hr9
 obtain⟨s1,s2⟩:=ss
 replace h:Ek n Aa (k3+1) s1 s2=some o10:=h
 rw[Ek] at h
 conv=>lhs;whnf
 revert h
 refine br ?_ ?_
 refine ix ?_;intro x12
 refine br ?_ ?_
 refine ar (ap A3 (List.map A3 s2) s2 ([[iA x12.B3,iA x12.Bs,sA x12.Ao,sA x12.Cq,iA x12.Ab]]) ([x12]:List A2)) ?_
 exact fun h=>cq (hcont8 (IntKind.i64.wrap (s1+1),(s2++([x12]:List A2))) (fun _=>0) h)
 refine br ?_ ?_
 refine ar (ap A3 (List.map A3 s2) s2 ([[iA x12.B3,iA x12.Bs,sA x12.Ao,sA x12.Cq,iA x12.Ab]]) ([x12]:List A2)) ?_
 exact fun h=>cq (hcont8 (IntKind.i64.wrap (s1+1),(s2++([x12]:List A2))) (fun _=>0) h)
 refine br ?_ ?_
 refine ar (ap A3 (List.map A3 s2) s2 ([[iA x12.B3,iA x12.Bs,sA x12.Ao,sA x12.Cq,iA x12.Ab]]) ([x12]:List A2)) ?_
 exact fun h=>cq (hcont8 (IntKind.i64.wrap (s1+1),(s2++([x12]:List A2))) (fun _=>0) h)
 exact fun h=>cq (hcont8 (IntKind.i64.wrap (s1+1),s2) (fun _=>0) h)
 intro h;cases sj h
 exact kq (hr9 (fun _=>0))
 refine lrc ?_ ?_
 intro v e;subst e;cases sj h;rfl
 intro x23 a22 e;subst e
 dsimp only at h
 conv=>lhs;whnf
 revert h
 intro h;obtain rfl:=sj h
 try simp only[ls]
 exact fq (y:=some (AV.sl 5 (List.take (List.length x23) (List.map A3 x23)),[]))
theorem X8 {n:Nat} ⦃Aa:(List A2)⦄ ⦃r:Int⦄:Lz n Aa=some r→CN n 82 [AV.sl 5 (List.map A3 Aa)] []=some (iA r,[]):=by
 intro h;rcases n with _|n;cases h
 rw[Lz] at h
 refine Ai Tryz.func82 (by rfl) rfl rfl (Ap rfl) ?_
 intro call hc;conv=>lhs;whnf
 revert h
 intro h;refine As h ?_;clear h;intro o11 ho11 h
 refine lq (σ:=(Int×Int×(List Int))) (τ:=(Int×(List Int))) (ν:=Int) 0 (fun(s1,s2,s3) a5=>B9 50 [(3,AV.stk 0 (a5 0) (List.length s3)),(4,iA s1),(9,AV.sl 5 (List.map A3 Aa)),(10,iA (((Aa.length:Nat):Int))),(11,iA s2)]) (fun(s1,s2,s3) a5=>[Ob.stk (a5 0) 3 1 (List.map Dy s3)]) (fun(x41,x42) a40=>B9 50 [(4,iA x41)]) (fun(x41,x42) a40=>[Ob.stk (a40 0) 3 1 (List.map Dy x42)]) (fun v=>(iA v,[])) (fun k s=>Fu n Aa k s.1 s.2.1 s.2.2) (fun s=>rfl) o11 n (0,0,([]:List Int)) (fun j=>(bif Nat.beq j 0 then 0 else 0)) ho11 ?_ ?_
 intro k4 ss a5 K6 cont7 hK8 hcont9 h hr10
 obtain⟨s1,s2,s3⟩:=ss
 replace h:Fu n Aa (k4+1) s1 s2 s3=some o11:=h
 rw[Fu] at h
 conv=>lhs;whnf
 revert h
 refine br ?_ ?_
 refine ix ?_;intro x13
 refine ca hc (fun _ h=>Ya h) ?_;intro y14
 refine br ?_ ?_
 intro h
 refine B6 h ?_;clear h;intro hc19 h
 try simp only[Em]
 conv=>lhs;whnf
 first|refine B4 (Lu hc19 (by first|rfl|simp only [Au]) (by first|rfl|simp only [Au]) (by first|rfl|simp only [Au,C0]) (by kernel_rfl)) ?_|refine B4 (Jq hc19 (by first|rfl|simp only [Au]) (by first|rfl|simp only [Au,C0]) (by kernel_rfl)) ?_
 try simp only[lt]
 have hp17:(List.map Dy s3:List (List AV))++[[iA y14]]=List.map Dy (s3++([y14]:List Int)):=by first|rfl|(rw[List.map_append];rfl)|(rw[List.map_append];done)|(simp only[List.map_append,List.map_cons,List.map_nil,List.nil_append,Dy]<;>rfl)
 have hl18:List.length (List.map Dy s3:List (List AV))+List.length ([[iA y14]]:List (List AV))=List.length (s3++([y14]:List Int)):=by simp only[Au,List.length_append]<;>rfl
 have hl18_b:List.length s3+List.length ([[iA y14]]:List (List AV))=List.length (s3++([y14]:List Int)):=by simp only[Au,List.length_append]<;>rfl
 have hl18_c:List.length s3+List.length ([y14]:List Int)=List.length (s3++([y14]:List Int)):=by simp only[Au,List.length_append]<;>rfl
 first|simp only [hp17,hl18]|(simp only[Au,C0];simp only[hp17,hl18_b,hl18_c])
 try simp only[ls]
 conv=>lhs;whnf
 revert h
 exact fun h=>cq (hcont9 ((if s1<((s3.length:Nat):Int) then((s3.length:Nat):Int) else s1),IntKind.i64.wrap (s2+1),(s3++([y14]:List Int))) (fun j=>(bif Nat.beq j 0 then((a5 0)+1) else 0)) h)
 intro h;refine As h ?_;clear h;intro o28 ho28 h
 refine lq (σ:=(List Int)) (τ:=(List Int)) (ν:=Int) 2 (fun s20 a22=>B9 50 [(3,AV.stk 0 (a22 0) (List.length s20)),(4,iA ((if s1<((s3.length:Nat):Int) then((s3.length:Nat):Int) else s1))),(9,AV.sl 5 (List.map A3 Aa)),(10,iA (((Aa.length:Nat):Int))),(11,iA s2)]) (fun s20 a22=>[Ob.stk (a22 0) 3 1 (List.map Dy s20),Ob.var 47 [iA x13.B3,iA x13.Bs,sA x13.Ao,sA x13.Cq,iA x13.Ab]]) (fun x38 a37=>B9 50 [(3,AV.stk 0 (a37 0) (List.length x38)),(4,iA ((if s1<((s3.length:Nat):Int) then((s3.length:Nat):Int) else s1))),(9,AV.sl 5 (List.map A3 Aa)),(10,iA (((Aa.length:Nat):Int))),(11,iA s2)]) (fun x38 a37=>[Ob.stk (a37 0) 3 1 (List.map Dy x38),Ob.var 47 [iA x13.B3,iA x13.Bs,sA x13.Ao,sA x13.Cq,iA x13.Ab]]) (fun v=>(iA v,[])) (fun k s=>Ht n k s) (fun s=>rfl) o28 n s3 (fun j=>(bif Nat.beq j 0 then(a5 0) else 0)) ho28 ?_ ?_
 intro k21 s20 a22 K23 cont24 hK25 hcont26 h hr27
 replace h:Ht n (k21+1) s20=some o28:=h
 rw[Ht] at h
 conv=>lhs;whnf
 revert h
 refine br ?_ ?_
 intro h
 refine As h ?_;clear h;intro x30 hx30 h
 try simp only[Em]
 conv=>lhs;whnf
 try simp only[ls]
 refine B4 (by first|exact Ga hx30|exact Pd hx30|exact Ss hx30|exact Hw hx30|(have q:=Ga hx30;simp only[List.length_set] at q;exact q)|(have q:=Hw hx30;simp only[List.length_set,Nat.zero_add] at q ⊢;exact q)) ?_
 conv=>lhs;whnf
 try simp only[Ik (f:=Dy) hx30,Em,ls]
 conv=>lhs;whnf
 revert h
 intro h
 refine As h ?_;clear h;intro x31 hx31 h
 try simp only[Em]
 conv=>lhs;whnf
 try simp only[ls]
 refine B4 (by first|exact Ga hx31|exact Pd hx31|exact Ss hx31|exact Hw hx31|(have q:=Ga hx31;simp only[List.length_set] at q;exact q)|(have q:=Hw hx31;simp only[List.length_set,Nat.zero_add] at q ⊢;exact q)) ?_
 conv=>lhs;whnf
 try simp only[Ik (f:=Dy) hx31,Em,ls]
 conv=>lhs;whnf
 revert h
 intro h
 have hs32:E8 (List.map Dy s20) (IntKind.i64.wrap (((s20.length:Nat):Int) - 1)).toNat [iA (IntKind.i64.wrap (x30 - 1))]=List.map Dy (List.set s20 (IntKind.i64.wrap (((s20.length:Nat):Int) - 1)).toNat (IntKind.i64.wrap (x30 - 1))):=by rw[D2,List.map_set];rfl
 have hs32_u:E8 (List.map Dy s20) (IntKind.i64.wrap (((s20.length:Nat):Int) - 1)).toNat (S4 (Dy x31) 0 [iA (IntKind.i64.wrap (x30 - 1))])=List.map Dy (List.set s20 (IntKind.i64.wrap (((s20.length:Nat):Int) - 1)).toNat (IntKind.i64.wrap (x30 - 1))):=by rw[D2,List.map_set];rfl
 try simp only[Ik (f:=Dy) hx31,Em]
 conv=>lhs;whnf
 try simp only[hs32,hs32_u,Em]
 conv=>lhs;whnf
 revert h
 intro h
 refine As h ?_;clear h;intro x33 hx33 h
 try simp only[Em]
 conv=>lhs;whnf
 try simp only[ls]
 refine B4 (by first|exact Ga hx33|exact Pd hx33|exact Ss hx33|exact Hw hx33|(have q:=Ga hx33;simp only[List.length_set] at q;exact q)|(have q:=Hw hx33;simp only[List.length_set,Nat.zero_add] at q ⊢;exact q)) ?_
 conv=>lhs;whnf
 try simp only[Ik (f:=Dy) hx33,Em,ls]
 conv=>lhs;whnf
 revert h
 refine br ?_ ?_
 intro h;cases sj h
 exact kq (hr27 (fun j=>(bif Nat.beq j 0 then(a22 0) else 0)))
 intro h
 refine B6 h ?_;clear h;intro hc36 h
 try simp only[Em]
 conv=>lhs;whnf
 try simp only[ls]
 first|refine B4 hc36 ?_|(refine B4 (by have q:=hc36;simp only[List.length_set] at q;exact q) ?_)
 have hs35:List.take ((IntKind.i64.wrap (((s20.length:Nat):Int) - 1)).toNat) (List.map Dy (List.set s20 (IntKind.i64.wrap (((s20.length:Nat):Int) - 1)).toNat (IntKind.i64.wrap (x30 - 1))))=List.map Dy (List.take ((IntKind.i64.wrap (((s20.length:Nat):Int) - 1)).toNat) (List.set s20 (IntKind.i64.wrap (((s20.length:Nat):Int) - 1)).toNat (IntKind.i64.wrap (x30 - 1)))):=by rw[List.map_take]
 have hs35_l:List.length (List.take ((IntKind.i64.wrap (((s20.length:Nat):Int) - 1)).toNat) (List.set s20 (IntKind.i64.wrap (((s20.length:Nat):Int) - 1)).toNat (IntKind.i64.wrap (x30 - 1))))=(IntKind.i64.wrap (((s20.length:Nat):Int) - 1)).toNat:=by simp only[List.length_take];exact Nat.min_eq_left (Awf hc36)
 conv=>lhs;whnf
 try simp only[Em,hs35]
 conv=>lhs;whnf
 try simp only[hs35]
 have hs35_s:∀ q,AV.stk 0 q ((IntKind.i64.wrap (((s20.length:Nat):Int) - 1)).toNat)=AV.stk 0 q (List.length (List.take ((IntKind.i64.wrap (((s20.length:Nat):Int) - 1)).toNat) (List.set s20 (IntKind.i64.wrap (((s20.length:Nat):Int) - 1)).toNat (IntKind.i64.wrap (x30 - 1))))):=fun q=>by rw[hs35_l]
 try simp only[hs35_s]
 conv=>lhs;whnf
 revert h
 exact fun h=>cq (hcont26 (List.take ((IntKind.i64.wrap (((s20.length:Nat):Int) - 1)).toNat) (List.set s20 (IntKind.i64.wrap (((s20.length:Nat):Int) - 1)).toNat (IntKind.i64.wrap (x30 - 1)))) (fun j=>(bif Nat.beq j 0 then((a22 0)+1) else 0)) h)
 intro h;cases sj h
 exact kq (hr27 (fun j=>(bif Nat.beq j 0 then(a22 0) else 0)))
 refine lrc ?_ ?_
 intro v e;subst e;cases sj h;exact hr10
 intro x38 a37 e;subst e
 dsimp only at h
 conv=>lhs;whnf
 revert h
 exact fun h=>cq (hcont9 ((if s1<((s3.length:Nat):Int) then((s3.length:Nat):Int) else s1),IntKind.i64.wrap (s2+1),x38) (fun j=>(bif Nat.beq j 0 then(a37 0) else 0)) h)
 intro h;cases sj h
 exact kq (hr10 (fun j=>(bif Nat.beq j 0 then(a5 0) else 0)))
 refine lrc ?_ ?_
 intro v e;subst e;cases sj h;rfl
 intro t a40 e;subst e
 obtain⟨x41,x42⟩:=t
 dsimp only at h
 conv=>lhs;whnf
 revert h
 exact rz
theorem Ft {n:Nat} ⦃B1:A2⦄ ⦃Ks:(List (List A2))⦄ ⦃r:(List A2)⦄:Cw n B1 Ks=some r→CN n 128 [AV.agg [iA B1.B3,iA B1.Bs,sA B1.Ao,sA B1.Cq,iA B1.Ab],AV.sl 1 (List.map Ue Ks)] []=some (AV.sl 5 (List.map A3 r),[]):=by
 intro h;rcases n with _|n;cases h
 rw[Cw] at h
 refine Ai Tryz.func128 (by rfl) rfl rfl (Ap rfl) ?_
 intro call hc;conv=>lhs;whnf
 revert h
 intro h;refine As h ?_;clear h;intro o10 ho10 h
 refine lq (σ:=(Int×(List A2))) (τ:=(List A2)) (ν:=(List A2)) 0 (fun(s1,s2) a4=>B9 21 [(5,AV.row 1 (List.length s2)),(10,AV.sl 1 (List.map Ue Ks)),(11,iA (((Ks.length:Nat):Int))),(12,iA s1)]) (fun(s1,s2) a4=>[Ob.var 47 [iA B1.B3,iA B1.Bs,sA B1.Ao,sA B1.Cq,iA B1.Ab],Ob.row 47 5 (List.map A3 s2)]) (fun x16 a15=>B9 21 [(5,AV.row 1 (List.length x16))]) (fun x16 a15=>[Ob.var 47 [iA B1.B3,iA B1.Bs,sA B1.Ao,sA B1.Cq,iA B1.Ab],Ob.row 47 5 (List.map A3 x16)]) (fun v=>(AV.sl 5 (List.map A3 v),[])) (fun k s=>Fq n Ks k s.1 s.2) (fun s=>rfl) o10 n (0,([B1]:List A2)) (fun _=>0) ho10 ?_ ?_
 intro k3 ss a4 K5 cont6 hK7 hcont8 h hr9
 obtain⟨s1,s2⟩:=ss
 replace h:Fq n Ks (k3+1) s1 s2=some o10:=h
 rw[Fq] at h
 conv=>lhs;whnf
 revert h
 refine br ?_ ?_
 refine ix ?_;intro x12
 refine ar (ap A3 (List.map A3 s2) s2 (List.map A3 x12) x12) ?_
 exact fun h=>cq (hcont8 (IntKind.i64.wrap (s1+1),(s2++x12)) (fun _=>0) h)
 intro h;cases sj h
 exact kq (hr9 (fun _=>0))
 refine lrc ?_ ?_
 intro v e;subst e;cases sj h;rfl
 intro x16 a15 e;subst e
 dsimp only at h
 conv=>lhs;whnf
 revert h
 intro h;obtain rfl:=sj h
 try simp only[ls]
 exact fq (y:=some (AV.sl 5 (List.take (List.length x16) (List.map A3 x16)),[]))
theorem Dx {n:Nat} ⦃Kp:(List UInt8)⦄ ⦃p_l:(List A5)⦄ ⦃p_i:Int⦄ ⦃p_in:Int⦄ ⦃p_e:Int⦄ ⦃p_at:Int⦄ ⦃r:Bool⦄:Cs n Kp p_l p_i p_in p_e p_at=some r→CN n 127 [AV.ptr 0 0,sA Kp] [Ob.var 116 [AV.sl 4 (List.map A4 p_l),iA p_i,iA p_in,iA p_e,iA p_at]]=some (bA r,[Ob.var 116 [AV.sl 4 (List.map A4 p_l),iA p_i,iA p_in,iA p_e,iA p_at]]):=by
 intro h;rcases n with _|n;cases h
 rw[Cs] at h
 refine Ai Tryz.func127 (by rfl) rfl rfl (Ap rfl) ?_
 intro call hc;conv=>lhs;whnf
 revert h
 refine br ?_ ?_
 refine ix ?_;intro x2
 refine br ?_ ?_
 refine ix ?_;intro x4
 exact rz
 exact rz
 exact rz
theorem Fd {n:Nat} ⦃Q7:Int⦄ ⦃p_l:(List A5)⦄ ⦃p_i:Int⦄ ⦃p_in:Int⦄ ⦃p_e:Int⦄ ⦃p_at:Int⦄ ⦃r:((List A2)×Int×Int)⦄:Ce n Q7 p_l p_i p_in p_e p_at=some r→CN n 152 [AV.ptr 0 0,iA Q7] [Ob.var 116 [AV.sl 4 (List.map A4 p_l),iA p_i,iA p_in,iA p_e,iA p_at]]=some (AV.sl 5 (List.map A3 r.1),[Ob.var 116 [AV.sl 4 (List.map A4 p_l),iA p_i,iA p_in,iA r.2.1,iA r.2.2]]):=by
 intro h;rcases n with _|n;cases h
 rw[Ce] at h
 refine Ai Tryz.func152 (by rfl) rfl rfl (Ap rfl) ?_
 intro call hc;conv=>lhs;whnf
 revert h
 refine br ?_ ?_
 exact rz
 refine br ?_ ?_
 refine ix ?_;intro x3
 exact rz
 refine br ?_ ?_
 refine br ?_ ?_
 refine ix ?_;intro x6
 refine ix ?_;intro x7
 exact rz
 exact rz
 refine br ?_ ?_
 refine ix ?_;intro x9
 refine ix ?_;intro x10
 exact rz
 exact rz
theorem K2 {n:Nat} ⦃p_l:(List A5)⦄ ⦃p_i:Int⦄ ⦃p_in:Int⦄ ⦃p_e:Int⦄ ⦃p_at:Int⦄ ⦃r:((List UInt8)×Int×Bool×Int)⦄:D5 n p_l p_i p_in p_e p_at=some r→CN n 153 [AV.ptr 0 0] [Ob.var 116 [AV.sl 4 (List.map A4 p_l),iA p_i,iA p_in,iA p_e,iA p_at]]=some (AV.tup [sA r.1,iA r.2.1,bA r.2.2.1],[Ob.var 116 [AV.sl 4 (List.map A4 p_l),iA r.2.2.2,iA p_in,iA p_e,iA p_at]]):=by
 intro h;rcases n with _|n;cases h
 rw[D5] at h
 refine Ai Tryz.func153 (by rfl) rfl rfl (Ap rfl) ?_
 intro call hc;conv=>lhs;whnf
 revert h
 refine br ?_ ?_
 exact rz
 refine ix ?_;intro x2
 refine br ?_ ?_
 exact rz
 refine ix ?_;intro x4
 refine ca hc (fun _ h=>Gc h) ?_;intro y5
 refine br ?_ ?_
 refine ix ?_;intro x8
 exact rz
 exact rz
theorem Ju {n:Nat} ⦃Dm:Int⦄ ⦃r:(List UInt8)⦄:Hc n Dm=some r→CN n 101 [iA Dm] []=some (sA r,[]):=by
 intro h;rcases n with _|n;cases h
 rw[Hc] at h
 refine Ai Tryz.func101 (by rfl) rfl rfl (Ap rfl) ?_
 intro call hc;conv=>lhs;whnf
 revert h
 refine br ?_ ?_
 exact rz
 refine br ?_ ?_
 exact rz
 refine br ?_ ?_
 exact rz
 refine br ?_ ?_
 exact rz
 refine br ?_ ?_
 exact rz
 refine br ?_ ?_
 exact rz
 refine br ?_ ?_
 exact rz
 refine br ?_ ?_
 exact rz
 refine br ?_ ?_
 exact rz
 refine br ?_ ?_
 exact rz
 refine br ?_ ?_
 exact rz
 refine br ?_ ?_
 exact rz
 refine br ?_ ?_
 exact rz
 refine br ?_ ?_
 exact rz
 refine bt ?_
 exact rz
def Kw (n:Nat):Prop:=∀ ⦃p_l:(List A5)⦄ ⦃p_i:Int⦄ ⦃p_in:Int⦄ ⦃p_e:Int⦄ ⦃p_at:Int⦄ ⦃r:((List A2)×Int×Int×Int×Int)⦄,D8 n p_l p_i p_in p_e p_at=some r→CN n 81 [AV.ptr 0 0] [Ob.var 116 [AV.sl 4 (List.map A4 p_l),iA p_i,iA p_in,iA p_e,iA p_at]]=some (AV.sl 5 (List.map A3 r.1),[Ob.var 116 [AV.sl 4 (List.map A4 p_l),iA r.2.1,iA r.2.2.1,iA r.2.2.2.1,iA r.2.2.2.2]])
def N1 (n:Nat):Prop:=∀ ⦃p_l:(List A5)⦄ ⦃p_i:Int⦄ ⦃p_in:Int⦄ ⦃p_e:Int⦄ ⦃p_at:Int⦄ ⦃r:((List A2)×Int×Int×Int×Int)⦄,D6 n p_l p_i p_in p_e p_at=some r→CN n 105 [AV.ptr 0 0] [Ob.var 116 [AV.sl 4 (List.map A4 p_l),iA p_i,iA p_in,iA p_e,iA p_at]]=some (AV.sl 5 (List.map A3 r.1),[Ob.var 116 [AV.sl 4 (List.map A4 p_l),iA r.2.1,iA r.2.2.1,iA r.2.2.2.1,iA r.2.2.2.2]])
def Kn (n:Nat):Prop:=∀ ⦃p_l:(List A5)⦄ ⦃p_i:Int⦄ ⦃p_in:Int⦄ ⦃p_e:Int⦄ ⦃p_at:Int⦄ ⦃r:((List A2)×Int×Int×Int×Int)⦄,Cm n p_l p_i p_in p_e p_at=some r→CN n 129 [AV.ptr 0 0] [Ob.var 116 [AV.sl 4 (List.map A4 p_l),iA p_i,iA p_in,iA p_e,iA p_at]]=some (AV.sl 5 (List.map A3 r.1),[Ob.var 116 [AV.sl 4 (List.map A4 p_l),iA r.2.1,iA r.2.2.1,iA r.2.2.2.1,iA r.2.2.2.2]])
def M9 (n:Nat):Prop:=∀ ⦃p_l:(List A5)⦄ ⦃p_i:Int⦄ ⦃p_in:Int⦄ ⦃p_e:Int⦄ ⦃p_at:Int⦄ ⦃r:((List A2)×Int×Int×Int×Int)⦄,Eg n p_l p_i p_in p_e p_at=some r→CN n 151 [AV.ptr 0 0,AV.func 149 [] []] [Ob.var 116 [AV.sl 4 (List.map A4 p_l),iA p_i,iA p_in,iA p_e,iA p_at]]=some (AV.sl 5 (List.map A3 r.1),[Ob.var 116 [AV.sl 4 (List.map A4 p_l),iA r.2.1,iA r.2.2.1,iA r.2.2.2.1,iA r.2.2.2.2]])
def L9 (n:Nat):Prop:=∀ ⦃p_l:(List A5)⦄ ⦃p_i:Int⦄ ⦃p_in:Int⦄ ⦃p_e:Int⦄ ⦃p_at:Int⦄ ⦃r:((List A2)×Int×Int×Int×Int)⦄,Du n p_l p_i p_in p_e p_at=some r→CN n 151 [AV.ptr 0 0,AV.func 81 [] []] [Ob.var 116 [AV.sl 4 (List.map A4 p_l),iA p_i,iA p_in,iA p_e,iA p_at]]=some (AV.sl 5 (List.map A3 r.1),[Ob.var 116 [AV.sl 4 (List.map A4 p_l),iA r.2.1,iA r.2.2.1,iA r.2.2.2.1,iA r.2.2.2.2]])
def La (n:Nat):Prop:=∀ ⦃p_l:(List A5)⦄ ⦃p_i:Int⦄ ⦃p_in:Int⦄ ⦃p_e:Int⦄ ⦃p_at:Int⦄ ⦃r:((List A2)×Int×Int×Int×Int)⦄,Cr n p_l p_i p_in p_e p_at=some r→CN n 146 [AV.ptr 0 0] [Ob.var 116 [AV.sl 4 (List.map A4 p_l),iA p_i,iA p_in,iA p_e,iA p_at]]=some (AV.sl 5 (List.map A3 r.1),[Ob.var 116 [AV.sl 4 (List.map A4 p_l),iA r.2.1,iA r.2.2.1,iA r.2.2.2.1,iA r.2.2.2.2]])
def Nv (n:Nat):Prop:=∀ ⦃Cz:Bool⦄ ⦃B2:(List Int)⦄ ⦃p_l:(List A5)⦄ ⦃p_i:Int⦄ ⦃p_in:Int⦄ ⦃p_e:Int⦄ ⦃p_at:Int⦄ ⦃r:((List A2)×Int×Int×Int×Int)⦄,Lk n Cz B2 p_l p_i p_in p_e p_at=some r→CN n 104 [AV.ptr 0 0,AV.func 105 [] [],bA Cz,AV.sl 1 (List.map Dy B2)] [Ob.var 116 [AV.sl 4 (List.map A4 p_l),iA p_i,iA p_in,iA p_e,iA p_at]]=some (AV.sl 5 (List.map A3 r.1),[Ob.var 116 [AV.sl 4 (List.map A4 p_l),iA r.2.1,iA r.2.2.1,iA r.2.2.2.1,iA r.2.2.2.2]])
def M7 (n:Nat):Prop:=∀ ⦃Cz:Bool⦄ ⦃B2:(List Int)⦄ ⦃p_l:(List A5)⦄ ⦃p_i:Int⦄ ⦃p_in:Int⦄ ⦃p_e:Int⦄ ⦃p_at:Int⦄ ⦃r:((List A2)×Int×Int×Int×Int)⦄,Kc n Cz B2 p_l p_i p_in p_e p_at=some r→CN n 104 [AV.ptr 0 0,AV.func 129 [] [],bA Cz,AV.sl 1 (List.map Dy B2)] [Ob.var 116 [AV.sl 4 (List.map A4 p_l),iA p_i,iA p_in,iA p_e,iA p_at]]=some (AV.sl 5 (List.map A3 r.1),[Ob.var 116 [AV.sl 4 (List.map A4 p_l),iA r.2.1,iA r.2.2.1,iA r.2.2.2.1,iA r.2.2.2.2]])
def Mb (n:Nat):Prop:=∀ ⦃Cz:Bool⦄ ⦃B2:(List Int)⦄ ⦃p_l:(List A5)⦄ ⦃p_i:Int⦄ ⦃p_in:Int⦄ ⦃p_e:Int⦄ ⦃p_at:Int⦄ ⦃r:((List A2)×Int×Int×Int×Int)⦄,Kf n Cz B2 p_l p_i p_in p_e p_at=some r→CN n 104 [AV.ptr 0 0,AV.func 144 [] [],bA Cz,AV.sl 1 (List.map Dy B2)] [Ob.var 116 [AV.sl 4 (List.map A4 p_l),iA p_i,iA p_in,iA p_e,iA p_at]]=some (AV.sl 5 (List.map A3 r.1),[Ob.var 116 [AV.sl 4 (List.map A4 p_l),iA r.2.1,iA r.2.2.1,iA r.2.2.2.1,iA r.2.2.2.2]])
def M6 (n:Nat):Prop:=∀ ⦃Cz:Bool⦄ ⦃B2:(List Int)⦄ ⦃p_l:(List A5)⦄ ⦃p_i:Int⦄ ⦃p_in:Int⦄ ⦃p_e:Int⦄ ⦃p_at:Int⦄ ⦃r:((List A2)×Int×Int×Int×Int)⦄,Ke n Cz B2 p_l p_i p_in p_e p_at=some r→CN n 104 [AV.ptr 0 0,AV.func 146 [] [],bA Cz,AV.sl 1 (List.map Dy B2)] [Ob.var 116 [AV.sl 4 (List.map A4 p_l),iA p_i,iA p_in,iA p_e,iA p_at]]=some (AV.sl 5 (List.map A3 r.1),[Ob.var 116 [AV.sl 4 (List.map A4 p_l),iA r.2.1,iA r.2.2.1,iA r.2.2.2.1,iA r.2.2.2.2]])
def M5 (n:Nat):Prop:=∀ ⦃Cz:Bool⦄ ⦃B2:(List Int)⦄ ⦃p_l:(List A5)⦄ ⦃p_i:Int⦄ ⦃p_in:Int⦄ ⦃p_e:Int⦄ ⦃p_at:Int⦄ ⦃r:((List A2)×Int×Int×Int×Int)⦄,Kd n Cz B2 p_l p_i p_in p_e p_at=some r→CN n 104 [AV.ptr 0 0,AV.func 149 [] [],bA Cz,AV.sl 1 (List.map Dy B2)] [Ob.var 116 [AV.sl 4 (List.map A4 p_l),iA p_i,iA p_in,iA p_e,iA p_at]]=some (AV.sl 5 (List.map A3 r.1),[Ob.var 116 [AV.sl 4 (List.map A4 p_l),iA r.2.1,iA r.2.2.1,iA r.2.2.2.1,iA r.2.2.2.2]])
def Lp (n:Nat):Prop:=∀ ⦃p_l:(List A5)⦄ ⦃p_i:Int⦄ ⦃p_in:Int⦄ ⦃p_e:Int⦄ ⦃p_at:Int⦄ ⦃r:((List A2)×Int×Int×Int×Int)⦄,Bq n p_l p_i p_in p_e p_at=some r→CN n 149 [AV.ptr 0 0] [Ob.var 116 [AV.sl 4 (List.map A4 p_l),iA p_i,iA p_in,iA p_e,iA p_at]]=some (AV.sl 5 (List.map A3 r.1),[Ob.var 116 [AV.sl 4 (List.map A4 p_l),iA r.2.1,iA r.2.2.1,iA r.2.2.2.1,iA r.2.2.2.2]])
def Nl (n:Nat):Prop:=∀ ⦃p_l:(List A5)⦄ ⦃p_i:Int⦄ ⦃p_in:Int⦄ ⦃p_e:Int⦄ ⦃p_at:Int⦄ ⦃r:((List A2)×Int×Int×Int×Int)⦄,De n p_l p_i p_in p_e p_at=some r→CN n 144 [AV.ptr 0 0] [Ob.var 116 [AV.sl 4 (List.map A4 p_l),iA p_i,iA p_in,iA p_e,iA p_at]]=some (AV.sl 5 (List.map A3 r.1),[Ob.var 116 [AV.sl 4 (List.map A4 p_l),iA r.2.1,iA r.2.2.1,iA r.2.2.2.1,iA r.2.2.2.2]])
def Ct (n:Nat):Prop:=Kw n∧N1 n∧Kn n∧M9 n∧L9 n∧La n∧Nv n∧M7 n∧Mb n∧M6 n∧M5 n∧Lp n∧Nl n
theorem Ym (n:Nat) (ih:Ct n):Kw (n+1):=by
 intro p_l p_i p_in p_e p_at r h
 rw[D8] at h
 refine Ai Tryz.func81 (by rfl) rfl rfl (Ap rfl) ?_
 intro call hc;conv=>lhs;whnf
 revert h
 refine cr hc (fun y1 h=>(show CN n 104 [AV.ptr 0 0,AV.func 105 [] [],bA false,AV.sl 1 [[iA (14)]]] [Ob.var 116 [AV.sl 4 (List.map A4 p_l),iA p_i,iA p_in,iA p_e,iA p_at]]=some (AV.sl 5 (List.map A3 y1.1),[Ob.var 116 [AV.sl 4 (List.map A4 p_l),iA y1.2.1,iA y1.2.2.1,iA y1.2.2.2.1,iA y1.2.2.2.2]]) from ih.2.2.2.2.2.2.1 (r:=y1) h)) ?_;intro y1
 exact rz
theorem Xq (n:Nat) (ih:Ct n):N1 (n+1):=by
 intro p_l p_i p_in p_e p_at r h
 rw[D6] at h
 refine Ai Tryz.func105 (by rfl) rfl rfl (Ap rfl) ?_
 intro call hc;conv=>lhs;whnf
 revert h
 refine cr hc (fun y1 h=>(show CN n 104 [AV.ptr 0 0,AV.func 129 [] [],bA false,AV.sl 1 [[iA (13)]]] [Ob.var 116 [AV.sl 4 (List.map A4 p_l),iA p_i,iA p_in,iA p_e,iA p_at]]=some (AV.sl 5 (List.map A3 y1.1),[Ob.var 116 [AV.sl 4 (List.map A4 p_l),iA y1.2.1,iA y1.2.2.1,iA y1.2.2.2.1,iA y1.2.2.2.2]]) from ih.2.2.2.2.2.2.2.1 (r:=y1) h)) ?_;intro y1
 exact rz
theorem U6 (n:Nat) (ih:Ct n):Kn (n+1):=by
 intro p_l p_i p_in p_e p_at r h
 rw[Cm] at h
 refine Ai Tryz.func129 (by rfl) rfl rfl (Ap rfl) ?_
 intro call hc;conv=>lhs;whnf
 revert h
 refine cr hc (fun y1 h=>(show CN n 104 [AV.ptr 0 0,AV.func 144 [] [],bA true,AV.sl 1 [[iA (9)],[iA (10)],[iA (11)],[iA (12)]]] [Ob.var 116 [AV.sl 4 (List.map A4 p_l),iA p_i,iA p_in,iA p_e,iA p_at]]=some (AV.sl 5 (List.map A3 y1.1),[Ob.var 116 [AV.sl 4 (List.map A4 p_l),iA y1.2.1,iA y1.2.2.1,iA y1.2.2.2.1,iA y1.2.2.2.2]]) from ih.2.2.2.2.2.2.2.2.1 (r:=y1) h)) ?_;intro y1
 exact rz
theorem Wm (n:Nat) (ih:Ct n):M9 (n+1):=by
 intro p_l p_i p_in p_e p_at r h
 rw[Eg] at h
 refine Ai Tryz.func151 (by rfl) rfl rfl (Ap rfl) ?_
 intro call hc;conv=>lhs;whnf
 revert h
 refine br ?_ ?_
 refine ca hc (fun _ h=>Fd h) ?_;intro y2
 exact rz
 refine ca hc (fun _ h=>ih.2.2.2.2.2.2.2.2.2.2.2.1 h) ?_;intro y4
 exact rz
theorem V5 (n:Nat) (ih:Ct n):L9 (n+1):=by
 intro p_l p_i p_in p_e p_at r h
 rw[Du] at h
 refine Ai Tryz.func151 (by rfl) rfl rfl (Ap rfl) ?_
 intro call hc;conv=>lhs;whnf
 revert h
 refine br ?_ ?_
 refine ca hc (fun _ h=>Fd h) ?_;intro y2
 exact rz
 refine ca hc (fun _ h=>ih.1 h) ?_;intro y4
 exact rz
theorem V3 (n:Nat) (ih:Ct n):La (n+1):=by
 intro p_l p_i p_in p_e p_at r h
 rw[Cr] at h
 refine Ai Tryz.func146 (by rfl) rfl rfl (Ap rfl) ?_
 intro call hc;conv=>lhs;whnf
 revert h
 refine cr hc (fun y1 h=>(show CN n 104 [AV.ptr 0 0,AV.func 149 [] [],bA false,AV.sl 1 [[iA (8)]]] [Ob.var 116 [AV.sl 4 (List.map A4 p_l),iA p_i,iA p_in,iA p_e,iA p_at]]=some (AV.sl 5 (List.map A3 y1.1),[Ob.var 116 [AV.sl 4 (List.map A4 p_l),iA y1.2.1,iA y1.2.2.1,iA y1.2.2.2.1,iA y1.2.2.2.2]]) from ih.2.2.2.2.2.2.2.2.2.2.1 (r:=y1) h)) ?_;intro y1
 exact rz
theorem Ye (n:Nat) (ih:Ct n):Nv (n+1):=by
 intro Cz B2 p_l p_i p_in p_e p_at r h
 rw[Lk] at h
 refine Ai Tryz.func104 (by rfl) rfl rfl (Ap rfl) ?_
 intro call hc;conv=>lhs;whnf
 revert h
 refine ca hc (fun _ h=>ih.2.1 h) ?_;intro y1
 intro h;refine As h ?_;clear h;intro o16 ho16 h
 refine lq (σ:=(Bool×(List A2)×Int×Int×Int×Int)) (τ:=((List A2)×Int×Int×Int×Int)) (ν:=((List A2)×Int×Int×Int×Int)) 0 (fun(s3,s4,s5,s6,s7,s8) a10=>B9 67 [(0,AV.ptr 0 0),(1,AV.func 105 [] []),(2,bA s3),(3,AV.sl 1 (List.map Dy B2)),(9,AV.sl 5 (List.map A3 s4))]) (fun(s3,s4,s5,s6,s7,s8) a10=>[Ob.var 116 [AV.sl 4 (List.map A4 p_l),iA s5,iA s6,iA s7,iA s8]]) (fun(x46,x47,x48,x49,x50) a45=>B9 67 [(9,AV.sl 5 (List.map A3 x46))]) (fun(x46,x47,x48,x49,x50) a45=>[Ob.var 116 [AV.sl 4 (List.map A4 p_l),iA x47,iA x48,iA x49,iA x50]]) (fun v=>(AV.sl 5 (List.map A3 v.1),[Ob.var 116 [AV.sl 4 (List.map A4 p_l),iA v.2.1,iA v.2.2.1,iA v.2.2.2.1,iA v.2.2.2.2]])) (fun k s=>Bc n (D6 n) B2 p_l k s.1 s.2.1 s.2.2.1 s.2.2.2.1 s.2.2.2.2.1 s.2.2.2.2.2) (fun s=>rfl) o16 n (Cz,y1.1,y1.2.1,y1.2.2.1,y1.2.2.2.1,y1.2.2.2.2) (fun _=>0) ho16 ?_ ?_
 intro k9 ss a10 K11 cont12 hK13 hcont14 h hr15
 obtain⟨s3,s4,s5,s6,s7,s8⟩:=ss
 replace h:Bc n (D6 n) B2 p_l (k9+1) s3 s4 s5 s6 s7 s8=some o16:=h
 rw[Bc] at h
 conv=>lhs;whnf
 revert h
 refine br ?_ ?_
 intro h;refine As h ?_;clear h;intro o27 ho27 h
 refine lq (σ:=(Int×Int)) (τ:=Int) (ν:=((List A2)×Int×Int×Int×Int)) 2 (fun(s18,s19) a21=>B9 67 [(0,AV.ptr 0 0),(1,AV.func 105 [] []),(2,bA s3),(3,AV.sl 1 (List.map Dy B2)),(9,AV.sl 5 (List.map A3 s4)),(10,iA s18),(23,AV.sl 1 (List.map Dy B2)),(24,iA (((B2.length:Nat):Int))),(25,iA s19)]) (fun(s18,s19) a21=>[Ob.var 116 [AV.sl 4 (List.map A4 p_l),iA s5,iA s6,iA s7,iA s8]]) (fun x36 a35=>B9 67 [(0,AV.ptr 0 0),(1,AV.func 105 [] []),(2,bA s3),(3,AV.sl 1 (List.map Dy B2)),(9,AV.sl 5 (List.map A3 s4)),(10,iA x36)]) (fun x36 a35=>[Ob.var 116 [AV.sl 4 (List.map A4 p_l),iA s5,iA s6,iA s7,iA s8]]) (fun v=>(AV.sl 5 (List.map A3 v.1),[Ob.var 116 [AV.sl 4 (List.map A4 p_l),iA v.2.1,iA v.2.2.1,iA v.2.2.2.1,iA v.2.2.2.2]])) (fun k s=>Bv n B2 p_l s5 s6 s7 s8 k s.1 s.2) (fun s=>rfl) o27 n (0,0) (fun _=>0) ho27 ?_ ?_
 intro k20 ss a21 K22 cont23 hK24 hcont25 h hr26
 obtain⟨s18,s19⟩:=ss
 replace h:Bv n B2 p_l s5 s6 s7 s8 (k20+1) s18 s19=some o27:=h
 rw[Bv] at h
 conv=>lhs;whnf
 revert h
 refine br ?_ ?_
 refine ix ?_;intro x29
 refine ca hc (fun _ h=>Ju h) ?_;intro y30
 refine ca hc (fun _ h=>Dx h) ?_;intro y32
 refine br ?_ ?_
 exact fun h=>cq (hcont25 (x29,IntKind.i64.wrap (s19+1)) (fun _=>0) h)
 exact fun h=>cq (hcont25 (s18,IntKind.i64.wrap (s19+1)) (fun _=>0) h)
 intro h;cases sj h
 exact kq (hr26 (fun _=>0))
 refine lrc ?_ ?_
 intro v e;subst e;cases sj h;exact hr15
 intro x36 a35 e;subst e
 dsimp only at h
 conv=>lhs;whnf
 revert h
 refine br ?_ ?_
 intro h;cases sj h
 exact kq (hr15 (fun _=>0))
 refine ix ?_;intro x38
 refine ca hc (fun _ h=>ih.2.1 h) ?_;intro y39
 refine cr hc (fun y41 h=>(show CN n 128 [AV.agg [iA x36,iA (0),sA (([]:List UInt8)),sA (([]:List UInt8)),iA x38.Ab],AV.sl 1 [[AV.sl 5 (List.map A3 s4)],[AV.sl 5 (List.map A3 y39.1)]]] []=some (AV.sl 5 (List.map A3 y41),[]) from Ft (r:=y41) h)) ?_;intro y41
 refine br ?_ ?_
 intro h;cases sj h
 exact kq (hr15 (fun _=>0))
 exact fun h=>cq (hcont14 (false,y41,y39.2.1,y39.2.2.1,y39.2.2.2.1,y39.2.2.2.2) (fun _=>0) h)
 intro h;cases sj h
 exact kq (hr15 (fun _=>0))
 refine lrc ?_ ?_
 intro v e;subst e;cases sj h;rfl
 intro t a45 e;subst e
 obtain⟨x46,x47,x48,x49,x50⟩:=t
 dsimp only at h
 conv=>lhs;whnf
 revert h
 exact rz
theorem Wo (n:Nat) (ih:Ct n):M7 (n+1):=by
 intro Cz B2 p_l p_i p_in p_e p_at r h
 rw[Kc] at h
 refine Ai Tryz.func104 (by rfl) rfl rfl (Ap rfl) ?_
 intro call hc;conv=>lhs;whnf
 revert h
 refine ca hc (fun _ h=>ih.2.2.1 h) ?_;intro y1
 intro h;refine As h ?_;clear h;intro o16 ho16 h
 refine lq (σ:=(Bool×(List A2)×Int×Int×Int×Int)) (τ:=((List A2)×Int×Int×Int×Int)) (ν:=((List A2)×Int×Int×Int×Int)) 0 (fun(s3,s4,s5,s6,s7,s8) a10=>B9 67 [(0,AV.ptr 0 0),(1,AV.func 129 [] []),(2,bA s3),(3,AV.sl 1 (List.map Dy B2)),(9,AV.sl 5 (List.map A3 s4))]) (fun(s3,s4,s5,s6,s7,s8) a10=>[Ob.var 116 [AV.sl 4 (List.map A4 p_l),iA s5,iA s6,iA s7,iA s8]]) (fun(x46,x47,x48,x49,x50) a45=>B9 67 [(9,AV.sl 5 (List.map A3 x46))]) (fun(x46,x47,x48,x49,x50) a45=>[Ob.var 116 [AV.sl 4 (List.map A4 p_l),iA x47,iA x48,iA x49,iA x50]]) (fun v=>(AV.sl 5 (List.map A3 v.1),[Ob.var 116 [AV.sl 4 (List.map A4 p_l),iA v.2.1,iA v.2.2.1,iA v.2.2.2.1,iA v.2.2.2.2]])) (fun k s=>Eu n (Cm n) B2 p_l k s.1 s.2.1 s.2.2.1 s.2.2.2.1 s.2.2.2.2.1 s.2.2.2.2.2) (fun s=>rfl) o16 n (Cz,y1.1,y1.2.1,y1.2.2.1,y1.2.2.2.1,y1.2.2.2.2) (fun _=>0) ho16 ?_ ?_
 intro k9 ss a10 K11 cont12 hK13 hcont14 h hr15
 obtain⟨s3,s4,s5,s6,s7,s8⟩:=ss
 replace h:Eu n (Cm n) B2 p_l (k9+1) s3 s4 s5 s6 s7 s8=some o16:=h
 rw[Eu] at h
 conv=>lhs;whnf
 revert h
 refine br ?_ ?_
 intro h;refine As h ?_;clear h;intro o27 ho27 h
 refine lq (σ:=(Int×Int)) (τ:=Int) (ν:=((List A2)×Int×Int×Int×Int)) 2 (fun(s18,s19) a21=>B9 67 [(0,AV.ptr 0 0),(1,AV.func 129 [] []),(2,bA s3),(3,AV.sl 1 (List.map Dy B2)),(9,AV.sl 5 (List.map A3 s4)),(10,iA s18),(23,AV.sl 1 (List.map Dy B2)),(24,iA (((B2.length:Nat):Int))),(25,iA s19)]) (fun(s18,s19) a21=>[Ob.var 116 [AV.sl 4 (List.map A4 p_l),iA s5,iA s6,iA s7,iA s8]]) (fun x36 a35=>B9 67 [(0,AV.ptr 0 0),(1,AV.func 129 [] []),(2,bA s3),(3,AV.sl 1 (List.map Dy B2)),(9,AV.sl 5 (List.map A3 s4)),(10,iA x36)]) (fun x36 a35=>[Ob.var 116 [AV.sl 4 (List.map A4 p_l),iA s5,iA s6,iA s7,iA s8]]) (fun v=>(AV.sl 5 (List.map A3 v.1),[Ob.var 116 [AV.sl 4 (List.map A4 p_l),iA v.2.1,iA v.2.2.1,iA v.2.2.2.1,iA v.2.2.2.2]])) (fun k s=>E9 n B2 p_l s5 s6 s7 s8 k s.1 s.2) (fun s=>rfl) o27 n (0,0) (fun _=>0) ho27 ?_ ?_
 intro k20 ss a21 K22 cont23 hK24 hcont25 h hr26
 obtain⟨s18,s19⟩:=ss
 replace h:E9 n B2 p_l s5 s6 s7 s8 (k20+1) s18 s19=some o27:=h
 rw[E9] at h
 conv=>lhs;whnf
 revert h
 refine br ?_ ?_
 refine ix ?_;intro x29
 refine ca hc (fun _ h=>Ju h) ?_;intro y30
 refine ca hc (fun _ h=>Dx h) ?_;intro y32
 refine br ?_ ?_
 exact fun h=>cq (hcont25 (x29,IntKind.i64.wrap (s19+1)) (fun _=>0) h)
 exact fun h=>cq (hcont25 (s18,IntKind.i64.wrap (s19+1)) (fun _=>0) h)
 intro h;cases sj h
 exact kq (hr26 (fun _=>0))
 refine lrc ?_ ?_
 intro v e;subst e;cases sj h;exact hr15
 intro x36 a35 e;subst e
 dsimp only at h
 conv=>lhs;whnf
 revert h
 refine br ?_ ?_
 intro h;cases sj h
 exact kq (hr15 (fun _=>0))
 refine ix ?_;intro x38
 refine ca hc (fun _ h=>ih.2.2.1 h) ?_;intro y39
 refine cr hc (fun y41 h=>(show CN n 128 [AV.agg [iA x36,iA (0),sA (([]:List UInt8)),sA (([]:List UInt8)),iA x38.Ab],AV.sl 1 [[AV.sl 5 (List.map A3 s4)],[AV.sl 5 (List.map A3 y39.1)]]] []=some (AV.sl 5 (List.map A3 y41),[]) from Ft (r:=y41) h)) ?_;intro y41
 refine br ?_ ?_
 intro h;cases sj h
 exact kq (hr15 (fun _=>0))
 exact fun h=>cq (hcont14 (false,y41,y39.2.1,y39.2.2.1,y39.2.2.2.1,y39.2.2.2.2) (fun _=>0) h)
 intro h;cases sj h
 exact kq (hr15 (fun _=>0))
 refine lrc ?_ ?_
 intro v e;subst e;cases sj h;rfl
 intro t a45 e;subst e
 obtain⟨x46,x47,x48,x49,x50⟩:=t
 dsimp only at h
 conv=>lhs;whnf
 revert h
 exact rz
theorem Ws (n:Nat) (ih:Ct n):Mb (n+1):=by
 intro Cz B2 p_l p_i p_in p_e p_at r h
 rw[Kf] at h
 refine Ai Tryz.func104 (by rfl) rfl rfl (Ap rfl) ?_
 intro call hc;conv=>lhs;whnf
 revert h
 refine ca hc (fun _ h=>ih.2.2.2.2.2.2.2.2.2.2.2.2 h) ?_;intro y1
 intro h;refine As h ?_;clear h;intro o16 ho16 h
 refine lq (σ:=(Bool×(List A2)×Int×Int×Int×Int)) (τ:=((List A2)×Int×Int×Int×Int)) (ν:=((List A2)×Int×Int×Int×Int)) 0 (fun(s3,s4,s5,s6,s7,s8) a10=>B9 67 [(0,AV.ptr 0 0),(1,AV.func 144 [] []),(2,bA s3),(3,AV.sl 1 (List.map Dy B2)),(9,AV.sl 5 (List.map A3 s4))]) (fun(s3,s4,s5,s6,s7,s8) a10=>[Ob.var 116 [AV.sl 4 (List.map A4 p_l),iA s5,iA s6,iA s7,iA s8]]) (fun(x46,x47,x48,x49,x50) a45=>B9 67 [(9,AV.sl 5 (List.map A3 x46))]) (fun(x46,x47,x48,x49,x50) a45=>[Ob.var 116 [AV.sl 4 (List.map A4 p_l),iA x47,iA x48,iA x49,iA x50]]) (fun v=>(AV.sl 5 (List.map A3 v.1),[Ob.var 116 [AV.sl 4 (List.map A4 p_l),iA v.2.1,iA v.2.2.1,iA v.2.2.2.1,iA v.2.2.2.2]])) (fun k s=>Ey n (De n) B2 p_l k s.1 s.2.1 s.2.2.1 s.2.2.2.1 s.2.2.2.2.1 s.2.2.2.2.2) (fun s=>rfl) o16 n (Cz,y1.1,y1.2.1,y1.2.2.1,y1.2.2.2.1,y1.2.2.2.2) (fun _=>0) ho16 ?_ ?_
 intro k9 ss a10 K11 cont12 hK13 hcont14 h hr15
 obtain⟨s3,s4,s5,s6,s7,s8⟩:=ss
 replace h:Ey n (De n) B2 p_l (k9+1) s3 s4 s5 s6 s7 s8=some o16:=h
 rw[Ey] at h
 conv=>lhs;whnf
 revert h
 refine br ?_ ?_
 intro h;refine As h ?_;clear h;intro o27 ho27 h
 refine lq (σ:=(Int×Int)) (τ:=Int) (ν:=((List A2)×Int×Int×Int×Int)) 2 (fun(s18,s19) a21=>B9 67 [(0,AV.ptr 0 0),(1,AV.func 144 [] []),(2,bA s3),(3,AV.sl 1 (List.map Dy B2)),(9,AV.sl 5 (List.map A3 s4)),(10,iA s18),(23,AV.sl 1 (List.map Dy B2)),(24,iA (((B2.length:Nat):Int))),(25,iA s19)]) (fun(s18,s19) a21=>[Ob.var 116 [AV.sl 4 (List.map A4 p_l),iA s5,iA s6,iA s7,iA s8]]) (fun x36 a35=>B9 67 [(0,AV.ptr 0 0),(1,AV.func 144 [] []),(2,bA s3),(3,AV.sl 1 (List.map Dy B2)),(9,AV.sl 5 (List.map A3 s4)),(10,iA x36)]) (fun x36 a35=>[Ob.var 116 [AV.sl 4 (List.map A4 p_l),iA s5,iA s6,iA s7,iA s8]]) (fun v=>(AV.sl 5 (List.map A3 v.1),[Ob.var 116 [AV.sl 4 (List.map A4 p_l),iA v.2.1,iA v.2.2.1,iA v.2.2.2.1,iA v.2.2.2.2]])) (fun k s=>E7 n B2 p_l s5 s6 s7 s8 k s.1 s.2) (fun s=>rfl) o27 n (0,0) (fun _=>0) ho27 ?_ ?_
 intro k20 ss a21 K22 cont23 hK24 hcont25 h hr26
 obtain⟨s18,s19⟩:=ss
 replace h:E7 n B2 p_l s5 s6 s7 s8 (k20+1) s18 s19=some o27:=h
 rw[E7] at h
 conv=>lhs;whnf
 revert h
 refine br ?_ ?_
 refine ix ?_;intro x29
 refine ca hc (fun _ h=>Ju h) ?_;intro y30
 refine ca hc (fun _ h=>Dx h) ?_;intro y32
 refine br ?_ ?_
 exact fun h=>cq (hcont25 (x29,IntKind.i64.wrap (s19+1)) (fun _=>0) h)
 exact fun h=>cq (hcont25 (s18,IntKind.i64.wrap (s19+1)) (fun _=>0) h)
 intro h;cases sj h
 exact kq (hr26 (fun _=>0))
 refine lrc ?_ ?_
 intro v e;subst e;cases sj h;exact hr15
 intro x36 a35 e;subst e
 dsimp only at h
 conv=>lhs;whnf
 revert h
 refine br ?_ ?_
 intro h;cases sj h
 exact kq (hr15 (fun _=>0))
 refine ix ?_;intro x38
 refine ca hc (fun _ h=>ih.2.2.2.2.2.2.2.2.2.2.2.2 h) ?_;intro y39
 refine cr hc (fun y41 h=>(show CN n 128 [AV.agg [iA x36,iA (0),sA (([]:List UInt8)),sA (([]:List UInt8)),iA x38.Ab],AV.sl 1 [[AV.sl 5 (List.map A3 s4)],[AV.sl 5 (List.map A3 y39.1)]]] []=some (AV.sl 5 (List.map A3 y41),[]) from Ft (r:=y41) h)) ?_;intro y41
 refine br ?_ ?_
 intro h;cases sj h
 exact kq (hr15 (fun _=>0))
 exact fun h=>cq (hcont14 (false,y41,y39.2.1,y39.2.2.1,y39.2.2.2.1,y39.2.2.2.2) (fun _=>0) h)
 intro h;cases sj h
 exact kq (hr15 (fun _=>0))
 refine lrc ?_ ?_
 intro v e;subst e;cases sj h;rfl
 intro t a45 e;subst e
 obtain⟨x46,x47,x48,x49,x50⟩:=t
 dsimp only at h
 conv=>lhs;whnf
 revert h
 exact rz
theorem Wf (n:Nat) (ih:Ct n):M6 (n+1):=by
 intro Cz B2 p_l p_i p_in p_e p_at r h
 rw[Ke] at h
 refine Ai Tryz.func104 (by rfl) rfl rfl (Ap rfl) ?_
 intro call hc;conv=>lhs;whnf
 revert h
 refine ca hc (fun _ h=>ih.2.2.2.2.2.1 h) ?_;intro y1
 intro h;refine As h ?_;clear h;intro o16 ho16 h
 refine lq (σ:=(Bool×(List A2)×Int×Int×Int×Int)) (τ:=((List A2)×Int×Int×Int×Int)) (ν:=((List A2)×Int×Int×Int×Int)) 0 (fun(s3,s4,s5,s6,s7,s8) a10=>B9 67 [(0,AV.ptr 0 0),(1,AV.func 146 [] []),(2,bA s3),(3,AV.sl 1 (List.map Dy B2)),(9,AV.sl 5 (List.map A3 s4))]) (fun(s3,s4,s5,s6,s7,s8) a10=>[Ob.var 116 [AV.sl 4 (List.map A4 p_l),iA s5,iA s6,iA s7,iA s8]]) (fun(x46,x47,x48,x49,x50) a45=>B9 67 [(9,AV.sl 5 (List.map A3 x46))]) (fun(x46,x47,x48,x49,x50) a45=>[Ob.var 116 [AV.sl 4 (List.map A4 p_l),iA x47,iA x48,iA x49,iA x50]]) (fun v=>(AV.sl 5 (List.map A3 v.1),[Ob.var 116 [AV.sl 4 (List.map A4 p_l),iA v.2.1,iA v.2.2.1,iA v.2.2.2.1,iA v.2.2.2.2]])) (fun k s=>Ev n (Cr n) B2 p_l k s.1 s.2.1 s.2.2.1 s.2.2.2.1 s.2.2.2.2.1 s.2.2.2.2.2) (fun s=>rfl) o16 n (Cz,y1.1,y1.2.1,y1.2.2.1,y1.2.2.2.1,y1.2.2.2.2) (fun _=>0) ho16 ?_ ?_
 intro k9 ss a10 K11 cont12 hK13 hcont14 h hr15
 obtain⟨s3,s4,s5,s6,s7,s8⟩:=ss
 replace h:Ev n (Cr n) B2 p_l (k9+1) s3 s4 s5 s6 s7 s8=some o16:=h
 rw[Ev] at h
 conv=>lhs;whnf
 revert h
 refine br ?_ ?_
 intro h;refine As h ?_;clear h;intro o27 ho27 h
 refine lq (σ:=(Int×Int)) (τ:=Int) (ν:=((List A2)×Int×Int×Int×Int)) 2 (fun(s18,s19) a21=>B9 67 [(0,AV.ptr 0 0),(1,AV.func 146 [] []),(2,bA s3),(3,AV.sl 1 (List.map Dy B2)),(9,AV.sl 5 (List.map A3 s4)),(10,iA s18),(23,AV.sl 1 (List.map Dy B2)),(24,iA (((B2.length:Nat):Int))),(25,iA s19)]) (fun(s18,s19) a21=>[Ob.var 116 [AV.sl 4 (List.map A4 p_l),iA s5,iA s6,iA s7,iA s8]]) (fun x36 a35=>B9 67 [(0,AV.ptr 0 0),(1,AV.func 146 [] []),(2,bA s3),(3,AV.sl 1 (List.map Dy B2)),(9,AV.sl 5 (List.map A3 s4)),(10,iA x36)]) (fun x36 a35=>[Ob.var 116 [AV.sl 4 (List.map A4 p_l),iA s5,iA s6,iA s7,iA s8]]) (fun v=>(AV.sl 5 (List.map A3 v.1),[Ob.var 116 [AV.sl 4 (List.map A4 p_l),iA v.2.1,iA v.2.2.1,iA v.2.2.2.1,iA v.2.2.2.2]])) (fun k s=>E6 n B2 p_l s5 s6 s7 s8 k s.1 s.2) (fun s=>rfl) o27 n (0,0) (fun _=>0) ho27 ?_ ?_
 intro k20 ss a21 K22 cont23 hK24 hcont25 h hr26
 obtain⟨s18,s19⟩:=ss
 replace h:E6 n B2 p_l s5 s6 s7 s8 (k20+1) s18 s19=some o27:=h
 rw[E6] at h
 conv=>lhs;whnf
 revert h
 refine br ?_ ?_
 refine ix ?_;intro x29
 refine ca hc (fun _ h=>Ju h) ?_;intro y30
 refine ca hc (fun _ h=>Dx h) ?_;intro y32
 refine br ?_ ?_
 exact fun h=>cq (hcont25 (x29,IntKind.i64.wrap (s19+1)) (fun _=>0) h)
 exact fun h=>cq (hcont25 (s18,IntKind.i64.wrap (s19+1)) (fun _=>0) h)
 intro h;cases sj h
 exact kq (hr26 (fun _=>0))
 refine lrc ?_ ?_
 intro v e;subst e;cases sj h;exact hr15
 intro x36 a35 e;subst e
 dsimp only at h
 conv=>lhs;whnf
 revert h
 refine br ?_ ?_
 intro h;cases sj h
 exact kq (hr15 (fun _=>0))
 refine ix ?_;intro x38
 refine ca hc (fun _ h=>ih.2.2.2.2.2.1 h) ?_;intro y39
 refine cr hc (fun y41 h=>(show CN n 128 [AV.agg [iA x36,iA (0),sA (([]:List UInt8)),sA (([]:List UInt8)),iA x38.Ab],AV.sl 1 [[AV.sl 5 (List.map A3 s4)],[AV.sl 5 (List.map A3 y39.1)]]] []=some (AV.sl 5 (List.map A3 y41),[]) from Ft (r:=y41) h)) ?_;intro y41
 refine br ?_ ?_
 intro h;cases sj h
 exact kq (hr15 (fun _=>0))
 exact fun h=>cq (hcont14 (false,y41,y39.2.1,y39.2.2.1,y39.2.2.2.1,y39.2.2.2.2) (fun _=>0) h)
 intro h;cases sj h
 exact kq (hr15 (fun _=>0))
 refine lrc ?_ ?_
 intro v e;subst e;cases sj h;rfl
 intro t a45 e;subst e
 obtain⟨x46,x47,x48,x49,x50⟩:=t
 dsimp only at h
 conv=>lhs;whnf
 revert h
 exact rz
theorem Ww (n:Nat) (ih:Ct n):M5 (n+1):=by
 intro Cz B2 p_l p_i p_in p_e p_at r h
 rw[Kd] at h
 refine Ai Tryz.func104 (by rfl) rfl rfl (Ap rfl) ?_
 intro call hc;conv=>lhs;whnf
 revert h
 refine ca hc (fun _ h=>ih.2.2.2.2.2.2.2.2.2.2.2.1 h) ?_;intro y1
 intro h;refine As h ?_;clear h;intro o16 ho16 h
 refine lq (σ:=(Bool×(List A2)×Int×Int×Int×Int)) (τ:=((List A2)×Int×Int×Int×Int)) (ν:=((List A2)×Int×Int×Int×Int)) 0 (fun(s3,s4,s5,s6,s7,s8) a10=>B9 67 [(0,AV.ptr 0 0),(1,AV.func 149 [] []),(2,bA s3),(3,AV.sl 1 (List.map Dy B2)),(9,AV.sl 5 (List.map A3 s4))]) (fun(s3,s4,s5,s6,s7,s8) a10=>[Ob.var 116 [AV.sl 4 (List.map A4 p_l),iA s5,iA s6,iA s7,iA s8]]) (fun(x46,x47,x48,x49,x50) a45=>B9 67 [(9,AV.sl 5 (List.map A3 x46))]) (fun(x46,x47,x48,x49,x50) a45=>[Ob.var 116 [AV.sl 4 (List.map A4 p_l),iA x47,iA x48,iA x49,iA x50]]) (fun v=>(AV.sl 5 (List.map A3 v.1),[Ob.var 116 [AV.sl 4 (List.map A4 p_l),iA v.2.1,iA v.2.2.1,iA v.2.2.2.1,iA v.2.2.2.2]])) (fun k s=>F0 n (Bq n) B2 p_l k s.1 s.2.1 s.2.2.1 s.2.2.2.1 s.2.2.2.2.1 s.2.2.2.2.2) (fun s=>rfl) o16 n (Cz,y1.1,y1.2.1,y1.2.2.1,y1.2.2.2.1,y1.2.2.2.2) (fun _=>0) ho16 ?_ ?_
 intro k9 ss a10 K11 cont12 hK13 hcont14 h hr15
 obtain⟨s3,s4,s5,s6,s7,s8⟩:=ss
 replace h:F0 n (Bq n) B2 p_l (k9+1) s3 s4 s5 s6 s7 s8=some o16:=h
 rw[F0] at h
 conv=>lhs;whnf
 revert h
 refine br ?_ ?_
 intro h;refine As h ?_;clear h;intro o27 ho27 h
 refine lq (σ:=(Int×Int)) (τ:=Int) (ν:=((List A2)×Int×Int×Int×Int)) 2 (fun(s18,s19) a21=>B9 67 [(0,AV.ptr 0 0),(1,AV.func 149 [] []),(2,bA s3),(3,AV.sl 1 (List.map Dy B2)),(9,AV.sl 5 (List.map A3 s4)),(10,iA s18),(23,AV.sl 1 (List.map Dy B2)),(24,iA (((B2.length:Nat):Int))),(25,iA s19)]) (fun(s18,s19) a21=>[Ob.var 116 [AV.sl 4 (List.map A4 p_l),iA s5,iA s6,iA s7,iA s8]]) (fun x36 a35=>B9 67 [(0,AV.ptr 0 0),(1,AV.func 149 [] []),(2,bA s3),(3,AV.sl 1 (List.map Dy B2)),(9,AV.sl 5 (List.map A3 s4)),(10,iA x36)]) (fun x36 a35=>[Ob.var 116 [AV.sl 4 (List.map A4 p_l),iA s5,iA s6,iA s7,iA s8]]) (fun v=>(AV.sl 5 (List.map A3 v.1),[Ob.var 116 [AV.sl 4 (List.map A4 p_l),iA v.2.1,iA v.2.2.1,iA v.2.2.2.1,iA v.2.2.2.2]])) (fun k s=>Eb n B2 p_l s5 s6 s7 s8 k s.1 s.2) (fun s=>rfl) o27 n (0,0) (fun _=>0) ho27 ?_ ?_
 intro k20 ss a21 K22 cont23 hK24 hcont25 h hr26
 obtain⟨s18,s19⟩:=ss
 replace h:Eb n B2 p_l s5 s6 s7 s8 (k20+1) s18 s19=some o27:=h
 rw[Eb] at h
 conv=>lhs;whnf
 revert h
 refine br ?_ ?_
 refine ix ?_;intro x29
 refine ca hc (fun _ h=>Ju h) ?_;intro y30
 refine ca hc (fun _ h=>Dx h) ?_;intro y32
 refine br ?_ ?_
 exact fun h=>cq (hcont25 (x29,IntKind.i64.wrap (s19+1)) (fun _=>0) h)
 exact fun h=>cq (hcont25 (s18,IntKind.i64.wrap (s19+1)) (fun _=>0) h)
 intro h;cases sj h
 exact kq (hr26 (fun _=>0))
 refine lrc ?_ ?_
 intro v e;subst e;cases sj h;exact hr15
 intro x36 a35 e;subst e
 dsimp only at h
 conv=>lhs;whnf
 revert h
 refine br ?_ ?_
 intro h;cases sj h
 exact kq (hr15 (fun _=>0))
 refine ix ?_;intro x38
 refine ca hc (fun _ h=>ih.2.2.2.2.2.2.2.2.2.2.2.1 h) ?_;intro y39
 refine cr hc (fun y41 h=>(show CN n 128 [AV.agg [iA x36,iA (0),sA (([]:List UInt8)),sA (([]:List UInt8)),iA x38.Ab],AV.sl 1 [[AV.sl 5 (List.map A3 s4)],[AV.sl 5 (List.map A3 y39.1)]]] []=some (AV.sl 5 (List.map A3 y41),[]) from Ft (r:=y41) h)) ?_;intro y41
 refine br ?_ ?_
 intro h;cases sj h
 exact kq (hr15 (fun _=>0))
 exact fun h=>cq (hcont14 (false,y41,y39.2.1,y39.2.2.1,y39.2.2.2.1,y39.2.2.2.2) (fun _=>0) h)
 intro h;cases sj h
 exact kq (hr15 (fun _=>0))
 refine lrc ?_ ?_
 intro v e;subst e;cases sj h;rfl
 intro t a45 e;subst e
 obtain⟨x46,x47,x48,x49,x50⟩:=t
 dsimp only at h
 conv=>lhs;whnf
 revert h
 exact rz
theorem Vn (n:Nat) (ih:Ct n):Lp (n+1):=by
 intro p_l p_i p_in p_e p_at r h
 rw[Bq] at h
 refine Ai Tryz.func149 (by rfl) rfl rfl (Ap rfl) ?_
 intro call hc;conv=>lhs;whnf
 revert h
 refine br ?_ ?_
 exact rz
 refine ca hc (fun _ h=>Dx h) ?_;intro y2
 refine br ?_ ?_
 refine ix ?_;intro x5
 refine ca hc (fun _ h=>ih.2.2.2.1 h) ?_;intro y6
 refine cr hc (fun y8 h=>(show CN n 128 [AV.agg [iA (5),iA (0),sA (([]:List UInt8)),sA (([]:List UInt8)),iA x5.Ab],AV.sl 1 [[AV.sl 5 (List.map A3 y6.1)]]] []=some (AV.sl 5 (List.map A3 y8),[]) from Ft (r:=y8) h)) ?_;intro y8
 exact rz
 refine ca hc (fun _ h=>Dx h) ?_;intro y10
 refine br ?_ ?_
 refine ca hc (fun _ h=>ih.2.2.2.2.1 h) ?_;intro y13
 refine br ?_ ?_
 refine ca hc (fun _ h=>Dx h) ?_;intro y16
 refine br ?_ ?_
 exact rz
 refine ca hc (fun _ h=>Fd h) ?_;intro y19
 exact rz
 exact rz
 refine br ?_ ?_
 refine ix ?_;intro x22
 refine br ?_ ?_
 refine ix ?_;intro x24
 refine cr hc (fun y25 h=>(show CN n 128 [AV.agg [iA (1),iA x24.Bs,sA (([]:List UInt8)),sA (([]:List UInt8)),iA x24.Ab],AV.sl 1 []] []=some (AV.sl 5 (List.map A3 y25),[]) from Ft (r:=y25) h)) ?_;intro y25
 exact rz
 refine ca hc (fun _ h=>K2 h) ?_;intro y27
 refine br ?_ ?_
 refine ca hc (fun _ h=>Dx h) ?_;intro y30
 refine br ?_ ?_
 refine ca hc (fun _ h=>K2 h) ?_;intro y33
 refine br ?_ ?_
 refine cr hc (fun y36 h=>(show CN n 128 [AV.agg [iA (4),iA (0),sA y33.1,sA y27.1,iA y27.2.1],AV.sl 1 []] []=some (AV.sl 5 (List.map A3 y36),[]) from Ft (r:=y36) h)) ?_;intro y36
 exact rz
 refine ca hc (fun _ h=>Fd h) ?_;intro y38
 exact rz
 refine cr hc (fun y40 h=>(show CN n 128 [AV.agg [iA (2),iA (0),sA y27.1,sA (([]:List UInt8)),iA y27.2.1],AV.sl 1 []] []=some (AV.sl 5 (List.map A3 y40),[]) from Ft (r:=y40) h)) ?_;intro y40
 exact rz
 refine ca hc (fun _ h=>Fd h) ?_;intro y42
 exact rz
 refine ca hc (fun _ h=>K2 h) ?_;intro y44
 refine br ?_ ?_
 refine ca hc (fun _ h=>Dx h) ?_;intro y47
 refine br ?_ ?_
 refine ca hc (fun _ h=>K2 h) ?_;intro y50
 refine br ?_ ?_
 refine cr hc (fun y53 h=>(show CN n 128 [AV.agg [iA (4),iA (0),sA y50.1,sA y44.1,iA y44.2.1],AV.sl 1 []] []=some (AV.sl 5 (List.map A3 y53),[]) from Ft (r:=y53) h)) ?_;intro y53
 exact rz
 refine ca hc (fun _ h=>Fd h) ?_;intro y55
 exact rz
 refine cr hc (fun y57 h=>(show CN n 128 [AV.agg [iA (2),iA (0),sA y44.1,sA (([]:List UInt8)),iA y44.2.1],AV.sl 1 []] []=some (AV.sl 5 (List.map A3 y57),[]) from Ft (r:=y57) h)) ?_;intro y57
 exact rz
 refine ca hc (fun _ h=>Fd h) ?_;intro y59
 exact rz
theorem Xy (n:Nat) (ih:Ct n):Nl (n+1):=by
 intro p_l p_i p_in p_e p_at r h
 rw[De] at h
 refine Ai Tryz.func144 (by rfl) rfl rfl (Ap rfl) ?_
 intro call hc;conv=>lhs;whnf
 revert h
 refine cr hc (fun y1 h=>(show CN n 104 [AV.ptr 0 0,AV.func 146 [] [],bA false,AV.sl 1 [[iA (6)],[iA (7)]]] [Ob.var 116 [AV.sl 4 (List.map A4 p_l),iA p_i,iA p_in,iA p_e,iA p_at]]=some (AV.sl 5 (List.map A3 y1.1),[Ob.var 116 [AV.sl 4 (List.map A4 p_l),iA y1.2.1,iA y1.2.2.1,iA y1.2.2.2.1,iA y1.2.2.2.2]]) from ih.2.2.2.2.2.2.2.2.2.1 (r:=y1) h)) ?_;intro y1
 exact rz
theorem Rg:∀ n,Ct n
 | 0=>⟨by unfold Kw;intros;rename_i h;exact absurd h (by intro h;cases h),by unfold N1;intros;rename_i h;exact absurd h (by intro h;cases h),by unfold Kn;intros;rename_i h;exact absurd h (by intro h;cases h),by unfold M9;intros;rename_i h;exact absurd h (by intro h;cases h),by unfold L9;intros;rename_i h;exact absurd h (by intro h;cases h),by unfold La;intros;rename_i h;exact absurd h (by intro h;cases h),by unfold Nv;intros;rename_i h;exact absurd h (by intro h;cases h),by unfold M7;intros;rename_i h;exact absurd h (by intro h;cases h),by unfold Mb;intros;rename_i h;exact absurd h (by intro h;cases h),by unfold M6;intros;rename_i h;exact absurd h (by intro h;cases h),by unfold M5;intros;rename_i h;exact absurd h (by intro h;cases h),by unfold Lp;intros;rename_i h;exact absurd h (by intro h;cases h),by unfold Nl;intros;rename_i h;exact absurd h (by intro h;cases h)⟩
 | n+1=>have ih:=Rg n
   ⟨Ym n ih,Xq n ih,U6 n ih,Wm n ih,V5 n ih,V3 n ih,Ye n ih,Wo n ih,Ws n ih,Wf n ih,Ww n ih,Vn n ih,Xy n ih⟩
theorem Yk {n:Nat}:Kw n:=(Rg n).1
theorem X9 {n:Nat} ⦃Aa:(List A5)⦄ ⦃Bb:Int⦄ ⦃r:((List A2)×Int×Int×Int)⦄:I9 n Aa Bb=some r→CN n 61 [AV.sl 4 (List.map A4 Aa),iA Bb] []=some (AV.tup [AV.sl 5 (List.map A3 r.1),iA r.2.1,iA r.2.2.1,iA r.2.2.2],[]):=by
 intro h;rcases n with _|n;cases h
 rw[I9] at h
 refine Ai Tryz.func61 (by rfl) rfl rfl (Ap rfl) ?_
 intro call hc;conv=>lhs;whnf
 revert h
 refine br ?_ ?_
 exact rz
 refine ca hc (fun _ h=>Yk h) ?_;intro y2
 refine br ?_ ?_
 exact rz
 refine ca hc (fun _ h=>X8 h) ?_;intro y5
 refine br ?_ ?_
 refine ix ?_;intro x8
 exact rz
 refine br ?_ ?_
 refine ix ?_;intro x10
 exact rz
 exact rz
theorem A6t {n:Nat} ⦃B1:A2⦄ ⦃r:Bool⦄:Po n B1=some r→CN n 94 [AV.agg [iA B1.B3,iA B1.Bs,sA B1.Ao,sA B1.Cq,iA B1.Ab]] []=some (bA r,[]):=by
 intro h;rcases n with _|n;cases h
 rw[Po] at h
 refine Ai Tryz.func94 (by rfl) rfl rfl (Ap rfl) ?_
 intro call hc;conv=>lhs;whnf
 revert h
 refine br ?_ ?_
 exact rz
 refine br ?_ ?_
 intro h
 have hf5:Z7 Tryz.prog 47=some (fieldsOf Tryz.prog 47):=by kernel_rfl
 simp only[hf5,Au,C0]
 conv=>lhs;whnf
 revert h
 refine br ?_ ?_
 refine br ?_ ?_
 exact rz
 exact rz
 exact rz
 refine br ?_ ?_
 refine ca hc (fun _ h=>Gc h) ?_;intro y7
 refine br ?_ ?_
 intro h
 have hf13:Z7 Tryz.prog 47=some (fieldsOf Tryz.prog 47):=by kernel_rfl
 simp only[hf13,Au,C0]
 conv=>lhs;whnf
 revert h
 refine br ?_ ?_
 refine ca hc (fun _ h=>Gc h) ?_;intro y11
 exact rz
 exact rz
 exact rz
 refine br ?_ ?_
 intro h
 have hf18:Z7 Tryz.prog 47=some (fieldsOf Tryz.prog 47):=by kernel_rfl
 simp only[hf18,Au,C0]
 conv=>lhs;whnf
 revert h
 refine br ?_ ?_
 refine ca hc (fun _ h=>Gc h) ?_;intro y16
 exact rz
 exact rz
 refine br ?_ ?_
 intro h
 have hf23:Z7 Tryz.prog 47=some (fieldsOf Tryz.prog 47):=by kernel_rfl
 simp only[hf23,Au,C0]
 conv=>lhs;whnf
 revert h
 refine br ?_ ?_
 refine ca hc (fun _ h=>Gc h) ?_;intro y21
 exact rz
 exact rz
 intro h
 have hf24:Z7 Tryz.prog 47=some (fieldsOf Tryz.prog 47):=by kernel_rfl
 simp only[hf24,Au,C0]
 conv=>lhs;whnf
 revert h
 exact rz
theorem So {n:Nat} ⦃Aa:(List A2)⦄ ⦃r:Bool⦄:Jx n Aa=some r→CN n 75 [AV.sl 5 (List.map A3 Aa)] []=some (bA r,[]):=by
 intro h;rcases n with _|n;cases h
 rw[Jx] at h
 refine Ai Tryz.func75 (by rfl) rfl rfl (Ap rfl) ?_
 intro call hc;conv=>lhs;whnf
 revert h
 refine br ?_ ?_
 exact rz
 refine br ?_ ?_
 exact rz
 refine ca hc (fun _ h=>A8l h) ?_;intro y3
 refine br ?_ ?_
 exact rz
 intro h;refine As h ?_;clear h;intro o14 ho14 h
 refine lq (σ:=Int) (τ:=Unit) (ν:=Bool) 0 (fun s6 a8=>B9 33 [(0,AV.sl 5 (List.map A3 Aa)),(20,AV.sl 5 (List.map A3 Aa)),(21,iA (((Aa.length:Nat):Int))),(22,iA s6)]) (fun s6 a8=>[]) (fun _ a20=>B9 33 [(0,AV.sl 5 (List.map A3 Aa))]) (fun _ a20=>[]) (fun v=>(bA v,[])) (fun k s=>Gq n Aa k s) (fun s=>rfl) o14 n 0 (fun _=>0) ho14 ?_ ?_
 intro k7 s6 a8 K9 cont10 hK11 hcont12 h hr13
 replace h:Gq n Aa (k7+1) s6=some o14:=h
 rw[Gq] at h
 conv=>lhs;whnf
 revert h
 refine br ?_ ?_
 refine ix ?_;intro x16
 refine ca hc (fun _ h=>A6t h) ?_;intro y17
 refine br ?_ ?_
 exact fun h=>cq (hcont12 (IntKind.i64.wrap (s6+1)) (fun _=>0) h)
 intro h;cases sj h
 refine(hK11 _ _).trans ?_
 refine Eq.trans ?_ (Eq.symm (show _=some _ from hr13))
 conv=>lhs;whnf
 exact rq
 intro h;cases sj h
 exact kq (hr13 (fun _=>0))
 refine lrc ?_ ?_
 intro v e;subst e;cases sj h;rfl
 intro t a20 e;subst e
 dsimp only at h
 conv=>lhs;whnf
 revert h
 refine ca hc (fun _ h=>X8 h) ?_;intro y21
 exact rz
def N4 (n:Nat):Prop:=∀ ⦃Cd:Int⦄ ⦃r:(List UInt8)⦄,F8 n Cd=some r→CN n 100 [iA Cd] []=some (sA r,[])
def R0 (n:Nat):Prop:=N4 n
theorem A18 (n:Nat) (ih:R0 n):N4 (n+1):=by
 intro Cd r h
 rw[F8] at h
 refine Ai Tryz.func100 (by rfl) rfl rfl (Ap rfl) ?_
 intro call hc;conv=>lhs;whnf
 revert h
 refine br ?_ ?_
 exact rz
 refine ca hc (fun _ h=>ih h) ?_;intro y2
 intro h
 refine B6 h ?_;clear h;intro hc4 h
 refine B4 hc4 ?_
 try simp only[ls]
 conv=>lhs;whnf
 revert h
 exact rz
theorem Ty:∀ n,R0 n
 | 0=>by unfold R0 N4;intros;rename_i h;exact absurd h (by intro h;cases h)
 | n+1=>have ih:=Ty n
   A18 n ih
theorem A1y {n:Nat}:N4 n:=(Ty n)
def Pu (n:Nat):Prop:=∀ ⦃Aa:(List A2)⦄ ⦃Bb:Int⦄ ⦃Ra:Bool⦄ ⦃r:((List UInt8)×Int)⦄,I1 n Aa Bb Ra=some r→CN n 77 [AV.sl 5 (List.map A3 Aa),iA Bb,bA Ra] []=some (AV.tup [sA r.1,iA r.2],[])
def Si (n:Nat):Prop:=Pu n
theorem A4i (n:Nat) (ih:Si n):Pu (n+1):=by
 intro Aa Bb Ra r h
 rw[I1] at h
 refine Ai Tryz.func77 (by rfl) rfl rfl (Ap rfl) ?_
 intro call hc;conv=>lhs;whnf
 revert h
 refine ix ?_;intro x1
 refine br ?_ ?_
 refine ca hc (fun _ h=>A1y h) ?_;intro y3
 exact rz
 refine br ?_ ?_
 exact rz
 refine br ?_ ?_
 exact rz
 refine br ?_ ?_
 intro h
 refine B6 h ?_;clear h;intro hc8 h
 refine B4 hc8 ?_
 try simp only[ls]
 conv=>lhs;whnf
 revert h
 intro h
 refine B6 h ?_;clear h;intro hc9 h
 refine B4 hc9 ?_
 try simp only[ls]
 conv=>lhs;whnf
 revert h
 exact rz
 refine br ?_ ?_
 refine ca hc (fun _ h=>ih h) ?_;intro y11
 refine ca hc (fun _ h=>Ju h) ?_;intro y13
 intro h
 refine B6 h ?_;clear h;intro hc15 h
 refine B4 hc15 ?_
 try simp only[ls]
 conv=>lhs;whnf
 revert h
 exact rz
 refine ca hc (fun _ h=>ih h) ?_;intro y16
 refine ca hc (fun _ h=>ih h) ?_;intro y18
 intro h
 refine B6 h ?_;clear h;intro hc20 h
 refine B4 hc20 ?_
 try simp only[ls]
 conv=>lhs;whnf
 revert h
 refine ca hc (fun _ h=>Ju h) ?_;intro y21
 intro h
 refine B6 h ?_;clear h;intro hc23 h
 refine B4 hc23 ?_
 try simp only[ls]
 conv=>lhs;whnf
 revert h
 intro h
 refine B6 h ?_;clear h;intro hc24 h
 refine B4 hc24 ?_
 try simp only[ls]
 conv=>lhs;whnf
 revert h
 intro h
 refine B6 h ?_;clear h;intro hc25 h
 refine B4 hc25 ?_
 try simp only[ls]
 conv=>lhs;whnf
 revert h
 refine br ?_ ?_
 intro h
 refine B6 h ?_;clear h;intro hc27 h
 refine B4 hc27 ?_
 try simp only[ls]
 conv=>lhs;whnf
 revert h
 intro h
 refine B6 h ?_;clear h;intro hc28 h
 refine B4 hc28 ?_
 try simp only[ls]
 conv=>lhs;whnf
 revert h
 exact rz
 exact rz
theorem Vt:∀ n,Si n
 | 0=>by unfold Si Pu;intros;rename_i h;exact absurd h (by intro h;cases h)
 | n+1=>have ih:=Vt n
   A4i n ih
theorem A4m {n:Nat}:Pu n:=(Vt n)
theorem Tz {n:Nat} ⦃Aa:(List A2)⦄ ⦃r:(List UInt8)⦄:Gk n Aa=some r→CN n 48 [AV.sl 5 (List.map A3 Aa)] []=some (sA r,[]):=by
 intro h;rcases n with _|n;cases h
 rw[Gk] at h
 refine Ai Tryz.func48 (by rfl) rfl rfl (Ap rfl) ?_
 intro call hc;conv=>lhs;whnf
 revert h
 refine ca hc (fun _ h=>So h) ?_;intro y1
 refine br ?_ ?_
 refine ca hc (fun _ h=>A4m h) ?_;intro y4
 exact rz
 exact rz
theorem Sh {n:Nat} ⦃r:(List Bn)⦄:J9 n=some r→CN n 78 [] []=some (AV.sl 4 (List.map Zu r),[]):=by
 intro h;rcases n with _|n;cases h
 rw[J9] at h
 refine Ai Tryz.func78 (by rfl) rfl rfl (Ap rfl) ?_
 intro call hc;conv=>lhs;whnf
 revert h
 exact rz
theorem Hq {n:Nat} ⦃E4:Int⦄ ⦃A7q:(List UInt8)⦄ ⦃p_l:(List A5)⦄ ⦃p_i:Int⦄ ⦃p_e:Int⦄ ⦃p_at:Int⦄ ⦃Al:(List ((List UInt8)×Int))⦄ ⦃r:Bool⦄:Dd n E4 A7q p_l p_i p_e p_at Al=some r→CN n 102 [AV.ptr 0 0,iA E4,sA A7q] [Ob.var 107 [AV.sl 4 (List.map A4 p_l),iA p_i,AV.mapp 1,iA p_e,iA p_at],Ob.mp none false (List.map A8 Al)]=some (bA r,[Ob.var 107 [AV.sl 4 (List.map A4 p_l),iA p_i,AV.mapp 1,iA p_e,iA p_at],Ob.mp none false (List.map A8 Al)]):=by
 intro h;rcases n with _|n;cases h
 rw[Dd] at h
 refine Ai Tryz.func102 (by rfl) rfl rfl (Ap rfl) ?_
 intro call hc;conv=>lhs;whnf
 revert h
 refine br ?_ ?_
 refine ix ?_;intro x2
 refine br ?_ ?_
 refine ix ?_;intro x4
 intro h;cases sj h
 try simp only[ls]
 exact fq (y:=some (bA ((x4.Ac==A7q)),[Ob.var 107 [AV.sl 4 (List.map A4 p_l),iA p_i,AV.mapp 1,iA p_e,iA p_at],Ob.mp none false (List.map A8 Al)]))
 intro h;obtain rfl:=sj h
 try simp only[ls]
 exact fq (y:=some (bA false,[Ob.var 107 [AV.sl 4 (List.map A4 p_l),iA p_i,AV.mapp 1,iA p_e,iA p_at],Ob.mp none false (List.map A8 Al)]))
 intro h;obtain rfl:=sj h
 try simp only[ls]
 exact fq (y:=some (bA false,[Ob.var 107 [AV.sl 4 (List.map A4 p_l),iA p_i,AV.mapp 1,iA p_e,iA p_at],Ob.mp none false (List.map A8 Al)]))
theorem Wu {n:Nat} ⦃Cd:Int⦄ ⦃r:(Bn×Bool)⦄:My n Cd=some r→CN n 118 [iA Cd] []=some (AV.tup [AV.agg [sA r.1.f_word,sA r.1.f_form,bA r.1.f_body,bA r.1.f_more],bA r.2],[]):=by
 intro h;rcases n with _|n;cases h
 rw[My] at h
 refine Ai Tryz.func118 (by rfl) rfl rfl (Ap rfl) ?_
 intro call hc;conv=>lhs;whnf
 revert h
 refine ca hc (fun _ h=>Sh h) ?_;intro y1
 refine br ?_ ?_
 exact rz
 refine br ?_ ?_
 exact rz
 refine ix ?_;intro x5
 exact rz
theorem Yi {n:Nat} ⦃r:Bn⦄:Pp n=some r→CN n 118 [iA (0)] []=some (AV.tup [AV.agg [sA r.f_word,sA r.f_form,bA r.f_body,bA r.f_more],bA false],[]):=by
 intro h;rcases n with _|n;cases h
 rw[Pp] at h
 refine Ai Tryz.func118 (by rfl) rfl rfl (Ap rfl) ?_
 intro call hc;conv=>lhs;whnf
 revert h
 refine ca hc (fun _ h=>Sh h) ?_;intro y1
 exact rz
theorem Jc {n:Nat} ⦃Bb:Int⦄ ⦃p_l:(List A5)⦄ ⦃p_i:Int⦄ ⦃p_e:Int⦄ ⦃p_at:Int⦄ ⦃Al:(List ((List UInt8)×Int))⦄ ⦃r:Int⦄:Ei n Bb p_l p_i p_e p_at Al=some r→CN n 80 [AV.ptr 0 0,iA Bb] [Ob.var 107 [AV.sl 4 (List.map A4 p_l),iA p_i,AV.mapp 1,iA p_e,iA p_at],Ob.mp none false (List.map A8 Al)]=some (iA r,[Ob.var 107 [AV.sl 4 (List.map A4 p_l),iA p_i,AV.mapp 1,iA p_e,iA p_at],Ob.mp none false (List.map A8 Al)]):=by
 intro h;rcases n with _|n;cases h
 rw[Ei] at h
 refine Ai Tryz.func80 (by rfl) rfl rfl (Ap rfl) ?_
 intro call hc;conv=>lhs;whnf
 revert h
 refine br ?_ ?_
 refine ix ?_;intro x2
 intro h;cases sj h
 try simp only[ls]
 exact fq (y:=some (iA x2.Ab,[Ob.var 107 [AV.sl 4 (List.map A4 p_l),iA p_i,AV.mapp 1,iA p_e,iA p_at],Ob.mp none false (List.map A8 Al)]))
 refine br ?_ ?_
 refine ix ?_;intro x4
 refine ix ?_;intro x5
 intro h;cases sj h
 try simp only[ls]
 exact fq (y:=some (iA (IntKind.i64.wrap (x4.Ab+((x5.Ac.length:Nat):Int))),[Ob.var 107 [AV.sl 4 (List.map A4 p_l),iA p_i,AV.mapp 1,iA p_e,iA p_at],Ob.mp none false (List.map A8 Al)]))
 intro h;cases sj h
 try simp only[ls]
 exact fq (y:=some (iA (0),[Ob.var 107 [AV.sl 4 (List.map A4 p_l),iA p_i,AV.mapp 1,iA p_e,iA p_at],Ob.mp none false (List.map A8 Al)]))
theorem Eh {n:Nat} ⦃p_l:(List A5)⦄ ⦃p_i:Int⦄ ⦃p_e:Int⦄ ⦃p_at:Int⦄ ⦃Al:(List ((List UInt8)×Int))⦄ ⦃r:(Int×Int)⦄:D4 n p_l p_i p_e p_at Al=some r→CN n 123 [AV.ptr 0 0] [Ob.var 107 [AV.sl 4 (List.map A4 p_l),iA p_i,AV.mapp 1,iA p_e,iA p_at],Ob.mp none false (List.map A8 Al)]=some (AV.tup [],[Ob.var 107 [AV.sl 4 (List.map A4 p_l),iA p_i,AV.mapp 1,iA r.1,iA r.2],Ob.mp none false (List.map A8 Al)]):=by
 intro h;rcases n with _|n;cases h
 rw[D4] at h
 refine Ai Tryz.func123 (by rfl) rfl rfl (Ap rfl) ?_
 intro call hc;conv=>lhs;whnf
 revert h
 refine br ?_ ?_
 intro h;cases sj h
 try simp only[ls]
 exact fq (y:=some (AV.tup [],[Ob.var 107 [AV.sl 4 (List.map A4 p_l),iA p_i,AV.mapp 1,iA p_e,iA p_at],Ob.mp none false (List.map A8 Al)]))
 refine ca hc (fun _ h=>Jc h) ?_;intro y2
 refine br ?_ ?_
 intro h;cases sj h
 try simp only[ls]
 exact fq (y:=some (AV.tup [],[Ob.var 107 [AV.sl 4 (List.map A4 p_l),iA p_i,AV.mapp 1,iA (6),iA y2],Ob.mp none false (List.map A8 Al)]))
 intro h;cases sj h
 try simp only[ls]
 exact fq (y:=some (AV.tup [],[Ob.var 107 [AV.sl 4 (List.map A4 p_l),iA p_i,AV.mapp 1,iA (5),iA y2],Ob.mp none false (List.map A8 Al)]))
theorem Cg {n:Nat} ⦃Kp:(List UInt8)⦄ ⦃p_l:(List A5)⦄ ⦃p_i:Int⦄ ⦃p_e:Int⦄ ⦃p_at:Int⦄ ⦃Al:(List ((List UInt8)×Int))⦄ ⦃r:(Int×Int×Int)⦄:Bl n Kp p_l p_i p_e p_at Al=some r→CN n 125 [AV.ptr 0 0,sA Kp] [Ob.var 107 [AV.sl 4 (List.map A4 p_l),iA p_i,AV.mapp 1,iA p_e,iA p_at],Ob.mp none false (List.map A8 Al)]=some (AV.tup [],[Ob.var 107 [AV.sl 4 (List.map A4 p_l),iA r.1,AV.mapp 1,iA r.2.1,iA r.2.2],Ob.mp none false (List.map A8 Al)]):=by
 intro h;rcases n with _|n;cases h
 rw[Bl] at h
 refine Ai Tryz.func125 (by rfl) rfl rfl (Ap rfl) ?_
 intro call hc;conv=>lhs;whnf
 revert h
 refine br ?_ ?_
 intro h;cases sj h
 try simp only[ls]
 exact fq (y:=some (AV.tup [],[Ob.var 107 [AV.sl 4 (List.map A4 p_l),iA p_i,AV.mapp 1,iA p_e,iA p_at],Ob.mp none false (List.map A8 Al)]))
 refine ca hc (fun _ h=>Hq h) ?_;intro y2
 refine br ?_ ?_
 intro h;cases sj h
 try simp only[ls]
 exact fq (y:=some (AV.tup [],[Ob.var 107 [AV.sl 4 (List.map A4 p_l),iA (IntKind.i64.wrap (p_i+1)),AV.mapp 1,iA p_e,iA p_at],Ob.mp none false (List.map A8 Al)]))
 refine ca hc (fun _ h=>Eh h) ?_;intro y5
 intro h;cases sj h
 try simp only[ls]
 exact fq (y:=some (AV.tup [],[Ob.var 107 [AV.sl 4 (List.map A4 p_l),iA p_i,AV.mapp 1,iA y5.1,iA y5.2],Ob.mp none false (List.map A8 Al)]))
theorem Rf {n:Nat} ⦃p_l:(List A5)⦄ ⦃p_i:Int⦄ ⦃p_e:Int⦄ ⦃p_at:Int⦄ ⦃Al:(List ((List UInt8)×Int))⦄ ⦃r:((List UInt8)×Int×Int×Int)⦄:Gy n p_l p_i p_e p_at Al=some r→CN n 138 [AV.ptr 0 0] [Ob.var 107 [AV.sl 4 (List.map A4 p_l),iA p_i,AV.mapp 1,iA p_e,iA p_at],Ob.mp none false (List.map A8 Al)]=some (sA r.1,[Ob.var 107 [AV.sl 4 (List.map A4 p_l),iA r.2.1,AV.mapp 1,iA r.2.2.1,iA r.2.2.2],Ob.mp none false (List.map A8 Al)]):=by
 intro h;rcases n with _|n;cases h
 rw[Gy] at h
 refine Ai Tryz.func138 (by rfl) rfl rfl (Ap rfl) ?_
 intro call hc;conv=>lhs;whnf
 revert h
 refine br ?_ ?_
 intro h;cases sj h
 try simp only[ls]
 exact fq (y:=some (sA (([]:List UInt8)),[Ob.var 107 [AV.sl 4 (List.map A4 p_l),iA p_i,AV.mapp 1,iA p_e,iA p_at],Ob.mp none false (List.map A8 Al)]))
 refine br ?_ ?_
 refine ca hc (fun _ h=>Eh h) ?_;intro y3
 intro h;cases sj h
 try simp only[ls]
 exact fq (y:=some (sA (([]:List UInt8)),[Ob.var 107 [AV.sl 4 (List.map A4 p_l),iA p_i,AV.mapp 1,iA y3.1,iA y3.2],Ob.mp none false (List.map A8 Al)]))
 refine ix ?_;intro x5
 refine br ?_ ?_
 refine ca hc (fun _ h=>Eh h) ?_;intro y7
 intro h;cases sj h
 try simp only[ls]
 exact fq (y:=some (sA (([]:List UInt8)),[Ob.var 107 [AV.sl 4 (List.map A4 p_l),iA p_i,AV.mapp 1,iA y7.1,iA y7.2],Ob.mp none false (List.map A8 Al)]))
 refine ix ?_;intro x9
 refine ca hc (fun _ h=>Gc h) ?_;intro y10
 refine br ?_ ?_
 refine ix ?_;intro x13
 intro h;cases sj h
 try simp only[ls]
 exact fq (y:=some (sA x13.Ac,[Ob.var 107 [AV.sl 4 (List.map A4 p_l),iA (IntKind.i64.wrap (p_i+1)),AV.mapp 1,iA p_e,iA p_at],Ob.mp none false (List.map A8 Al)]))
 refine ca hc (fun _ h=>Eh h) ?_;intro y14
 intro h;cases sj h
 try simp only[ls]
 exact fq (y:=some (sA (([]:List UInt8)),[Ob.var 107 [AV.sl 4 (List.map A4 p_l),iA p_i,AV.mapp 1,iA y14.1,iA y14.2],Ob.mp none false (List.map A8 Al)]))
theorem Ve {n:Nat} ⦃Fl:(List A5)⦄ ⦃I4:Int⦄ ⦃I5:Int⦄ ⦃G5:Int⦄ ⦃Fm:(List ((List UInt8)×Int))⦄ ⦃Dg:Int⦄ ⦃Ee:(List UInt8)⦄ ⦃Ef:(List UInt8)⦄ ⦃Hu:(List A2)⦄ ⦃Hv:(List A2)⦄ ⦃G6:Bool⦄ ⦃Dh:Int⦄ ⦃Di:Int⦄ ⦃F6:Int⦄ ⦃r:(Int×Int×Int×(List UInt8))⦄:Io n Fl I4 I5 G5 Fm Dg Ee Ef Hu Hv G6 Dh Di F6=some r→CN n 137 [AV.ptr 0 0,AV.ptr 3 0] [Ob.var 104 [AV.ptr 1 0],Ob.var 107 [AV.sl 4 (List.map A4 Fl),iA I4,AV.mapp 2,iA I5,iA G5],Ob.mp none false (List.map A8 Fm),Ob.var 151 [AV.ptr 4 0],Ob.var 83 [iA Dg,sA Ee,sA Ef,AV.sl 5 (List.map A3 Hu),AV.sl 5 (List.map A3 Hv),bA G6,iA Dh,iA Di,iA F6]]=some (AV.tup [],[Ob.var 104 [AV.ptr 1 0],Ob.var 107 [AV.sl 4 (List.map A4 Fl),iA r.1,AV.mapp 2,iA r.2.1,iA r.2.2.1],Ob.mp none false (List.map A8 Fm),Ob.var 151 [AV.ptr 4 0],Ob.var 83 [iA Dg,sA r.2.2.2,sA Ef,AV.sl 5 (List.map A3 Hu),AV.sl 5 (List.map A3 Hv),bA G6,iA Dh,iA Di,iA F6]]):=by
 intro h;rcases n with _|n;cases h
 rw[Io] at h
 refine Ai Tryz.func137 (by rfl) rfl rfl (Ap rfl) ?_
 intro call hc;conv=>lhs;whnf
 revert h
 refine ca hc (fun _ h=>Rf h) ?_;intro y1
 intro h;cases sj h
 try simp only[ls]
 exact fq (y:=some (AV.tup [],[Ob.var 104 [AV.ptr 1 0],Ob.var 107 [AV.sl 4 (List.map A4 Fl),iA y1.2.1,AV.mapp 2,iA y1.2.2.1,iA y1.2.2.2],Ob.mp none false (List.map A8 Fm),Ob.var 151 [AV.ptr 4 0],Ob.var 83 [iA Dg,sA y1.1,sA Ef,AV.sl 5 (List.map A3 Hu),AV.sl 5 (List.map A3 Hv),bA G6,iA Dh,iA Di,iA F6]]))
theorem V6 {n:Nat} ⦃Fl:(List A5)⦄ ⦃I4:Int⦄ ⦃I5:Int⦄ ⦃G5:Int⦄ ⦃Fm:(List ((List UInt8)×Int))⦄ ⦃Dg:Int⦄ ⦃Ee:(List UInt8)⦄ ⦃Ef:(List UInt8)⦄ ⦃Hu:(List A2)⦄ ⦃Hv:(List A2)⦄ ⦃G6:Bool⦄ ⦃Dh:Int⦄ ⦃Di:Int⦄ ⦃F6:Int⦄ ⦃r:(Int×Int×Int×(List UInt8))⦄:Il n Fl I4 I5 G5 Fm Dg Ee Ef Hu Hv G6 Dh Di F6=some r→CN n 139 [AV.ptr 0 0,AV.ptr 3 0] [Ob.var 104 [AV.ptr 1 0],Ob.var 107 [AV.sl 4 (List.map A4 Fl),iA I4,AV.mapp 2,iA I5,iA G5],Ob.mp none false (List.map A8 Fm),Ob.var 151 [AV.ptr 4 0],Ob.var 83 [iA Dg,sA Ee,sA Ef,AV.sl 5 (List.map A3 Hu),AV.sl 5 (List.map A3 Hv),bA G6,iA Dh,iA Di,iA F6]]=some (AV.tup [],[Ob.var 104 [AV.ptr 1 0],Ob.var 107 [AV.sl 4 (List.map A4 Fl),iA r.1,AV.mapp 2,iA r.2.1,iA r.2.2.1],Ob.mp none false (List.map A8 Fm),Ob.var 151 [AV.ptr 4 0],Ob.var 83 [iA Dg,sA Ee,sA r.2.2.2,AV.sl 5 (List.map A3 Hu),AV.sl 5 (List.map A3 Hv),bA G6,iA Dh,iA Di,iA F6]]):=by
 intro h;rcases n with _|n;cases h
 rw[Il] at h
 refine Ai Tryz.func139 (by rfl) rfl rfl (Ap rfl) ?_
 intro call hc;conv=>lhs;whnf
 revert h
 refine ca hc (fun _ h=>Rf h) ?_;intro y1
 intro h;cases sj h
 try simp only[ls]
 exact fq (y:=some (AV.tup [],[Ob.var 104 [AV.ptr 1 0],Ob.var 107 [AV.sl 4 (List.map A4 Fl),iA y1.2.1,AV.mapp 2,iA y1.2.2.1,iA y1.2.2.2],Ob.mp none false (List.map A8 Fm),Ob.var 151 [AV.ptr 4 0],Ob.var 83 [iA Dg,sA Ee,sA y1.1,AV.sl 5 (List.map A3 Hu),AV.sl 5 (List.map A3 Hv),bA G6,iA Dh,iA Di,iA F6]]))
theorem X1 {n:Nat} ⦃Aa:(List A2)⦄ ⦃r:Bool⦄:J6 n Aa=some r→CN n 122 [AV.sl 5 (List.map A3 Aa)] []=some (bA r,[]):=by
 intro h;rcases n with _|n;cases h
 rw[J6] at h
 refine Ai Tryz.func122 (by rfl) rfl rfl (Ap rfl) ?_
 intro call hc;conv=>lhs;whnf
 revert h
 refine ca hc (fun _ h=>Xd h) ?_;intro y1
 intro h;refine As h ?_;clear h;intro o11 ho11 h
 refine lq (σ:=Int) (τ:=Unit) (ν:=Bool) 0 (fun s3 a5=>B9 18 [(0,AV.sl 5 (List.map A3 Aa)),(6,AV.sl 5 (List.map A3 y1)),(7,iA (((y1.length:Nat):Int))),(8,iA s3)]) (fun s3 a5=>[]) (fun _ a15=>B9 18 [(0,AV.sl 5 (List.map A3 Aa))]) (fun _ a15=>[]) (fun v=>(bA v,[])) (fun k s=>Gd n y1 k s) (fun s=>rfl) o11 n 0 (fun _=>0) ho11 ?_ ?_
 intro k4 s3 a5 K6 cont7 hK8 hcont9 h hr10
 replace h:Gd n y1 (k4+1) s3=some o11:=h
 rw[Gd] at h
 conv=>lhs;whnf
 revert h
 refine br ?_ ?_
 refine ix ?_;intro x13
 refine br ?_ ?_
 intro h;cases sj h
 refine(hK8 _ _).trans ?_
 refine Eq.trans ?_ (Eq.symm (show _=some _ from hr10))
 conv=>lhs;whnf
 exact rq
 exact fun h=>cq (hcont9 (IntKind.i64.wrap (s3+1)) (fun _=>0) h)
 intro h;cases sj h
 exact kq (hr10 (fun _=>0))
 refine lrc ?_ ?_
 intro v e;subst e;cases sj h;rfl
 intro t a15 e;subst e
 dsimp only at h
 conv=>lhs;whnf
 revert h
 refine ca hc (fun _ h=>So h) ?_;intro y16
 exact rz
theorem Rj {n:Nat} ⦃p_l:(List A5)⦄ ⦃p_i:Int⦄ ⦃p_e:Int⦄ ⦃p_at:Int⦄ ⦃Al:(List ((List UInt8)×Int))⦄ ⦃r:((List A2)×Int×Int×Int)⦄:Gx n p_l p_i p_e p_at Al=some r→CN n 141 [AV.ptr 0 0] [Ob.var 107 [AV.sl 4 (List.map A4 p_l),iA p_i,AV.mapp 1,iA p_e,iA p_at],Ob.mp none false (List.map A8 Al)]=some (AV.sl 5 (List.map A3 r.1),[Ob.var 107 [AV.sl 4 (List.map A4 p_l),iA r.2.1,AV.mapp 1,iA r.2.2.1,iA r.2.2.2],Ob.mp none false (List.map A8 Al)]):=by
 intro h;rcases n with _|n;cases h
 rw[Gx] at h
 refine Ai Tryz.func141 (by rfl) rfl rfl (Ap rfl) ?_
 intro call hc;conv=>lhs;whnf
 revert h
 refine br ?_ ?_
 intro h;cases sj h
 try simp only[ls]
 exact fq (y:=some (AV.sl 5 [],[Ob.var 107 [AV.sl 4 (List.map A4 p_l),iA p_i,AV.mapp 1,iA p_e,iA p_at],Ob.mp none false (List.map A8 Al)]))
 refine ca hc (fun _ h=>X9 h) ?_;intro y2
 refine br ?_ ?_
 intro h;cases sj h
 try simp only[ls]
 exact fq (y:=some (AV.sl 5 [],[Ob.var 107 [AV.sl 4 (List.map A4 p_l),iA p_i,AV.mapp 1,iA y2.2.2.1,iA y2.2.2.2],Ob.mp none false (List.map A8 Al)]))
 refine ca hc (fun _ h=>X1 h) ?_;intro y5
 refine br ?_ ?_
 intro h;cases sj h
 try simp only[ls]
 exact fq (y:=some (AV.sl 5 (List.map A3 y2.1),[Ob.var 107 [AV.sl 4 (List.map A4 p_l),iA y2.2.1,AV.mapp 1,iA p_e,iA p_at],Ob.mp none false (List.map A8 Al)]))
 refine ca hc (fun _ h=>Eh h) ?_;intro y8
 intro h;cases sj h
 try simp only[ls]
 exact fq (y:=some (AV.sl 5 [],[Ob.var 107 [AV.sl 4 (List.map A4 p_l),iA p_i,AV.mapp 1,iA y8.1,iA y8.2],Ob.mp none false (List.map A8 Al)]))
theorem V7 {n:Nat} ⦃Fl:(List A5)⦄ ⦃I4:Int⦄ ⦃I5:Int⦄ ⦃G5:Int⦄ ⦃Fm:(List ((List UInt8)×Int))⦄ ⦃Dg:Int⦄ ⦃Ee:(List UInt8)⦄ ⦃Ef:(List UInt8)⦄ ⦃Hu:(List A2)⦄ ⦃Hv:(List A2)⦄ ⦃G6:Bool⦄ ⦃Dh:Int⦄ ⦃Di:Int⦄ ⦃F6:Int⦄ ⦃r:(Int×Int×Int×(List A2))⦄:Ii n Fl I4 I5 G5 Fm Dg Ee Ef Hu Hv G6 Dh Di F6=some r→CN n 140 [AV.ptr 0 0,AV.ptr 3 0] [Ob.var 104 [AV.ptr 1 0],Ob.var 107 [AV.sl 4 (List.map A4 Fl),iA I4,AV.mapp 2,iA I5,iA G5],Ob.mp none false (List.map A8 Fm),Ob.var 151 [AV.ptr 4 0],Ob.var 83 [iA Dg,sA Ee,sA Ef,AV.sl 5 (List.map A3 Hu),AV.sl 5 (List.map A3 Hv),bA G6,iA Dh,iA Di,iA F6]]=some (AV.tup [],[Ob.var 104 [AV.ptr 1 0],Ob.var 107 [AV.sl 4 (List.map A4 Fl),iA r.1,AV.mapp 2,iA r.2.1,iA r.2.2.1],Ob.mp none false (List.map A8 Fm),Ob.var 151 [AV.ptr 4 0],Ob.var 83 [iA Dg,sA Ee,sA Ef,AV.sl 5 (List.map A3 r.2.2.2),AV.sl 5 (List.map A3 Hv),bA G6,iA Dh,iA Di,iA F6]]):=by
 intro h;rcases n with _|n;cases h
 rw[Ii] at h
 refine Ai Tryz.func140 (by rfl) rfl rfl (Ap rfl) ?_
 intro call hc;conv=>lhs;whnf
 revert h
 refine ca hc (fun _ h=>Rj h) ?_;intro y1
 intro h;cases sj h
 try simp only[ls]
 exact fq (y:=some (AV.tup [],[Ob.var 104 [AV.ptr 1 0],Ob.var 107 [AV.sl 4 (List.map A4 Fl),iA y1.2.1,AV.mapp 2,iA y1.2.2.1,iA y1.2.2.2],Ob.mp none false (List.map A8 Fm),Ob.var 151 [AV.ptr 4 0],Ob.var 83 [iA Dg,sA Ee,sA Ef,AV.sl 5 (List.map A3 y1.1),AV.sl 5 (List.map A3 Hv),bA G6,iA Dh,iA Di,iA F6]]))
theorem V1 {n:Nat} ⦃Fl:(List A5)⦄ ⦃I4:Int⦄ ⦃I5:Int⦄ ⦃G5:Int⦄ ⦃Fm:(List ((List UInt8)×Int))⦄ ⦃Dg:Int⦄ ⦃Ee:(List UInt8)⦄ ⦃Ef:(List UInt8)⦄ ⦃Hu:(List A2)⦄ ⦃Hv:(List A2)⦄ ⦃G6:Bool⦄ ⦃Dh:Int⦄ ⦃Di:Int⦄ ⦃F6:Int⦄ ⦃r:(Int×Int×Int×(List A2))⦄:Ij n Fl I4 I5 G5 Fm Dg Ee Ef Hu Hv G6 Dh Di F6=some r→CN n 142 [AV.ptr 0 0,AV.ptr 3 0] [Ob.var 104 [AV.ptr 1 0],Ob.var 107 [AV.sl 4 (List.map A4 Fl),iA I4,AV.mapp 2,iA I5,iA G5],Ob.mp none false (List.map A8 Fm),Ob.var 151 [AV.ptr 4 0],Ob.var 83 [iA Dg,sA Ee,sA Ef,AV.sl 5 (List.map A3 Hu),AV.sl 5 (List.map A3 Hv),bA G6,iA Dh,iA Di,iA F6]]=some (AV.tup [],[Ob.var 104 [AV.ptr 1 0],Ob.var 107 [AV.sl 4 (List.map A4 Fl),iA r.1,AV.mapp 2,iA r.2.1,iA r.2.2.1],Ob.mp none false (List.map A8 Fm),Ob.var 151 [AV.ptr 4 0],Ob.var 83 [iA Dg,sA Ee,sA Ef,AV.sl 5 (List.map A3 Hu),AV.sl 5 (List.map A3 r.2.2.2),bA G6,iA Dh,iA Di,iA F6]]):=by
 intro h;rcases n with _|n;cases h
 rw[Ij] at h
 refine Ai Tryz.func142 (by rfl) rfl rfl (Ap rfl) ?_
 intro call hc;conv=>lhs;whnf
 revert h
 refine ca hc (fun _ h=>Rj h) ?_;intro y1
 intro h;cases sj h
 try simp only[ls]
 exact fq (y:=some (AV.tup [],[Ob.var 104 [AV.ptr 1 0],Ob.var 107 [AV.sl 4 (List.map A4 Fl),iA y1.2.1,AV.mapp 2,iA y1.2.2.1,iA y1.2.2.2],Ob.mp none false (List.map A8 Fm),Ob.var 151 [AV.ptr 4 0],Ob.var 83 [iA Dg,sA Ee,sA Ef,AV.sl 5 (List.map A3 Hu),AV.sl 5 (List.map A3 y1.1),bA G6,iA Dh,iA Di,iA F6]]))
theorem Vc {n:Nat} ⦃Fl:(List A5)⦄ ⦃I4:Int⦄ ⦃I5:Int⦄ ⦃G5:Int⦄ ⦃Fm:(List ((List UInt8)×Int))⦄ ⦃Dg:Int⦄ ⦃Ee:(List UInt8)⦄ ⦃Ef:(List UInt8)⦄ ⦃Hu:(List A2)⦄ ⦃Hv:(List A2)⦄ ⦃G6:Bool⦄ ⦃Dh:Int⦄ ⦃Di:Int⦄ ⦃F6:Int⦄ ⦃r:(Int×Int×Int×Bool)⦄:In n Fl I4 I5 G5 Fm Dg Ee Ef Hu Hv G6 Dh Di F6=some r→CN n 143 [AV.ptr 0 0,AV.ptr 3 0] [Ob.var 104 [AV.ptr 1 0],Ob.var 107 [AV.sl 4 (List.map A4 Fl),iA I4,AV.mapp 2,iA I5,iA G5],Ob.mp none false (List.map A8 Fm),Ob.var 151 [AV.ptr 4 0],Ob.var 83 [iA Dg,sA Ee,sA Ef,AV.sl 5 (List.map A3 Hu),AV.sl 5 (List.map A3 Hv),bA G6,iA Dh,iA Di,iA F6]]=some (AV.tup [],[Ob.var 104 [AV.ptr 1 0],Ob.var 107 [AV.sl 4 (List.map A4 Fl),iA r.1,AV.mapp 2,iA r.2.1,iA r.2.2.1],Ob.mp none false (List.map A8 Fm),Ob.var 151 [AV.ptr 4 0],Ob.var 83 [iA Dg,sA Ee,sA Ef,AV.sl 5 (List.map A3 Hu),AV.sl 5 (List.map A3 Hv),bA r.2.2.2,iA Dh,iA Di,iA F6]]):=by
 intro h;rcases n with _|n;cases h
 rw[In] at h
 refine Ai Tryz.func143 (by rfl) rfl rfl (Ap rfl) ?_
 intro call hc;conv=>lhs;whnf
 revert h
 refine ca hc (fun _ h=>Hq h) ?_;intro y1
 refine br ?_ ?_
 intro h;cases sj h
 try simp only[ls]
 exact fq (y:=some (AV.tup [],[Ob.var 104 [AV.ptr 1 0],Ob.var 107 [AV.sl 4 (List.map A4 Fl),iA (IntKind.i64.wrap (I4+1)),AV.mapp 2,iA I5,iA G5],Ob.mp none false (List.map A8 Fm),Ob.var 151 [AV.ptr 4 0],Ob.var 83 [iA Dg,sA Ee,sA Ef,AV.sl 5 (List.map A3 Hu),AV.sl 5 (List.map A3 Hv),bA true,iA Dh,iA Di,iA F6]]))
 refine ca hc (fun _ h=>Cg h) ?_;intro y4
 intro h;cases sj h
 try simp only[ls]
 exact fq (y:=some (AV.tup [],[Ob.var 104 [AV.ptr 1 0],Ob.var 107 [AV.sl 4 (List.map A4 Fl),iA y4.1,AV.mapp 2,iA y4.2.1,iA y4.2.2],Ob.mp none false (List.map A8 Fm),Ob.var 151 [AV.ptr 4 0],Ob.var 83 [iA Dg,sA Ee,sA Ef,AV.sl 5 (List.map A3 Hu),AV.sl 5 (List.map A3 Hv),bA false,iA Dh,iA Di,iA F6]]))
def Ma (n:Nat):Prop:=∀ ⦃F3:Int⦄ ⦃p_l:(List A5)⦄ ⦃p_i:Int⦄ ⦃p_e:Int⦄ ⦃p_at:Int⦄ ⦃Al:(List ((List UInt8)×Int))⦄ ⦃r:((List A0)×Int×Int×Int)⦄,Bu n F3 p_l p_i p_e p_at Al=some r→CN n 126 [AV.ptr 0 0,iA F3] [Ob.var 107 [AV.sl 4 (List.map A4 p_l),iA p_i,AV.mapp 1,iA p_e,iA p_at],Ob.mp none false (List.map A8 Al)]=some (AV.sl 9 (List.map A9 r.1),[Ob.var 107 [AV.sl 4 (List.map A4 p_l),iA r.2.1,AV.mapp 1,iA r.2.2.1,iA r.2.2.2],Ob.mp none false (List.map A8 Al)])
def Kb (n:Nat):Prop:=∀ ⦃F3:Int⦄ ⦃p_l:(List A5)⦄ ⦃p_i:Int⦄ ⦃p_e:Int⦄ ⦃p_at:Int⦄ ⦃Al:(List ((List UInt8)×Int))⦄ ⦃r:((List A0)×Int×Int×Int)⦄,C3 n F3 p_l p_i p_e p_at Al=some r→CN n 79 [AV.ptr 0 0,iA F3] [Ob.var 107 [AV.sl 4 (List.map A4 p_l),iA p_i,AV.mapp 1,iA p_e,iA p_at],Ob.mp none false (List.map A8 Al)]=some (AV.sl 9 (List.map A9 r.1),[Ob.var 107 [AV.sl 4 (List.map A4 p_l),iA r.2.1,AV.mapp 1,iA r.2.2.1,iA r.2.2.2],Ob.mp none false (List.map A8 Al)])
def O1 (n:Nat):Prop:=∀ ⦃F3:Int⦄ ⦃p_l:(List A5)⦄ ⦃p_i:Int⦄ ⦃p_e:Int⦄ ⦃p_at:Int⦄ ⦃Al:(List ((List UInt8)×Int))⦄ ⦃r:((List A0)×Int×Int×Int)⦄,Bw n F3 p_l p_i p_e p_at Al=some r→CN n 103 [AV.ptr 0 0,iA F3] [Ob.var 107 [AV.sl 4 (List.map A4 p_l),iA p_i,AV.mapp 1,iA p_e,iA p_at],Ob.mp none false (List.map A8 Al)]=some (AV.sl 9 (List.map A9 r.1),[Ob.var 107 [AV.sl 4 (List.map A4 p_l),iA r.2.1,AV.mapp 1,iA r.2.2.1,iA r.2.2.2],Ob.mp none false (List.map A8 Al)])
def Jf (n:Nat):Prop:=Ma n∧Kb n∧O1 n
theorem Wg (n:Nat) (ih:Jf n):Ma (n+1):=by
 intro F3 p_l p_i p_e p_at Al r h
 rw[Bu] at h
 refine Ai Tryz.func126 (by rfl) rfl rfl (Ap rfl) ?_
 intro call hc;conv=>lhs;whnf
 revert h
 refine br ?_ ?_
 refine ca hc (fun _ h=>Hq h) ?_;intro y2
 refine br ?_ ?_
 refine br ?_ ?_
 refine ca hc (fun _ h=>Jc h) ?_;intro y6
 refine ca hc (fun _ h=>Cg h) ?_;intro y8
 refine ca hc (fun _ h=>ih.2.1 h) ?_;intro y10
 refine ca hc (fun _ h=>Cg h) ?_;intro y12
 intro h;cases sj h
 try simp only[ls]
 exact fq (y:=some (AV.sl 9 (List.map A9 y10.1),[Ob.var 107 [AV.sl 4 (List.map A4 p_l),iA y12.1,AV.mapp 1,iA y12.2.1,iA y12.2.2],Ob.mp none false (List.map A8 Al)]))
 refine ca hc (fun _ h=>Cg h) ?_;intro y14
 refine ca hc (fun _ h=>ih.2.1 h) ?_;intro y16
 refine ca hc (fun _ h=>Cg h) ?_;intro y18
 intro h;cases sj h
 try simp only[ls]
 exact fq (y:=some (AV.sl 9 (List.map A9 y16.1),[Ob.var 107 [AV.sl 4 (List.map A4 p_l),iA y18.1,AV.mapp 1,iA y18.2.1,iA y18.2.2],Ob.mp none false (List.map A8 Al)]))
 refine ca hc (fun _ h=>Cg h) ?_;intro y20
 refine ca hc (fun _ h=>ih.2.1 h) ?_;intro y22
 refine ca hc (fun _ h=>Cg h) ?_;intro y24
 intro h;cases sj h
 try simp only[ls]
 exact fq (y:=some (AV.sl 9 (List.map A9 y22.1),[Ob.var 107 [AV.sl 4 (List.map A4 p_l),iA y24.1,AV.mapp 1,iA y24.2.1,iA y24.2.2],Ob.mp none false (List.map A8 Al)]))
 refine ca hc (fun _ h=>Cg h) ?_;intro y26
 refine ca hc (fun _ h=>ih.2.1 h) ?_;intro y28
 refine ca hc (fun _ h=>Cg h) ?_;intro y30
 intro h;cases sj h
 try simp only[ls]
 exact fq (y:=some (AV.sl 9 (List.map A9 y28.1),[Ob.var 107 [AV.sl 4 (List.map A4 p_l),iA y30.1,AV.mapp 1,iA y30.2.1,iA y30.2.2],Ob.mp none false (List.map A8 Al)]))
theorem Xp (n:Nat) (ih:Jf n):Kb (n+1):=by
 intro F3 p_l p_i p_e p_at Al r h
 rw[C3] at h
 refine Ai Tryz.func79 (by rfl) rfl rfl (Ap rfl) ?_
 intro call hc;conv=>lhs;whnf
 revert h
 intro h;refine As h ?_;clear h;intro o12 ho12 h
 refine lq (σ:=(Int×Int×Int×(List A0))) (τ:=(Int×Int×Int×(List A0))) (ν:=((List A0)×Int×Int×Int)) 0 (fun(s1,s2,s3,s4) a6=>B9 34 [(0,AV.ptr 0 0),(1,iA F3),(5,AV.row 2 (List.length s4))]) (fun(s1,s2,s3,s4) a6=>[Ob.var 107 [AV.sl 4 (List.map A4 p_l),iA s1,AV.mapp 1,iA s2,iA s3],Ob.mp none false (List.map A8 Al),Ob.row 83 9 (List.map A9 s4)]) (fun(x23,x24,x25,x26) a22=>B9 34 [(5,AV.row 2 (List.length x26))]) (fun(x23,x24,x25,x26) a22=>[Ob.var 107 [AV.sl 4 (List.map A4 p_l),iA x23,AV.mapp 1,iA x24,iA x25],Ob.mp none false (List.map A8 Al),Ob.row 83 9 (List.map A9 x26)]) (fun v=>(AV.sl 9 (List.map A9 v.1),[Ob.var 107 [AV.sl 4 (List.map A4 p_l),iA v.2.1,AV.mapp 1,iA v.2.2.1,iA v.2.2.2],Ob.mp none false (List.map A8 Al)])) (fun k s=>C5 n (Bw n) F3 p_l Al k s.1 s.2.1 s.2.2.1 s.2.2.2) (fun s=>rfl) o12 n (p_i,p_e,p_at,([]:List A0)) (fun _=>0) ho12 ?_ ?_
 intro k5 ss a6 K7 cont8 hK9 hcont10 h hr11
 obtain⟨s1,s2,s3,s4⟩:=ss
 replace h:C5 n (Bw n) F3 p_l Al (k5+1) s1 s2 s3 s4=some o12:=h
 rw[C5] at h
 conv=>lhs;whnf
 revert h
 refine br ?_ ?_
 refine br ?_ ?_
 refine ca hc (fun _ h=>Hq h) ?_;intro y15
 refine br ?_ ?_
 intro h;cases sj h
 exact kq (hr11 (fun _=>0))
 refine ca hc (fun _ h=>ih.2.2 h) ?_;intro y18
 refine ar (ap A9 (List.map A9 s4) s4 (List.map A9 y18.1) y18.1) ?_
 exact fun h=>cq (hcont10 (y18.2.1,y18.2.2.1,y18.2.2.2,(s4++y18.1)) (fun _=>0) h)
 intro h;cases sj h
 exact kq (hr11 (fun _=>0))
 intro h;cases sj h
 exact kq (hr11 (fun _=>0))
 refine lrc ?_ ?_
 intro v e;subst e;cases sj h;rfl
 intro t a22 e;subst e
 obtain⟨x23,x24,x25,x26⟩:=t
 dsimp only at h
 conv=>lhs;whnf
 revert h
 intro h;cases sj h
 try simp only[ls]
 exact fq (y:=some (AV.sl 9 (List.take (List.length x26) (List.map A9 x26)),[Ob.var 107 [AV.sl 4 (List.map A4 p_l),iA x23,AV.mapp 1,iA x24,iA x25],Ob.mp none false (List.map A8 Al)]))
theorem Y1 (n:Nat) (ih:Jf n):O1 (n+1):=by
 intro F3 p_l p_i p_e p_at Al r h
 rw[Bw] at h
 refine W7 Tryz.func103 (by rfl) rfl rfl (Ap rfl) ?_
 intro call hc hcA;conv=>lhs;whnf
 revert h
 refine br ?_ ?_
 refine ix ?_;intro x2
 refine br ?_ ?_
 refine ix ?_;intro x4
 intro h
 simp only[Tu,ls]
 conv=>lhs;whnf
 revert h
 refine ca hc (fun _ h=>Wu h) ?_;intro y5
 refine br ?_ ?_
 refine ca hc (fun _ h=>Jc h) ?_;intro y8
 intro h
 obtain⟨n10,hn14,h⟩:=Lt h
 obtain⟨call11,hc12,ho13⟩:=Hx (f:=124) (args:=[AV.ptr 0 0,AV.ptr 2 0]) (hp:=[Ob.var 107 [AV.sl 4 (List.map A4 p_l),iA (IntKind.i64.wrap (p_i+1)),AV.mapp 1,iA p_e,iA p_at],Ob.mp none false (List.map A8 Al),Ob.var 83 [iA ((Bf Al x4.Ac 0)),sA (([]:List UInt8)),sA (([]:List UInt8)),AV.sl 5 [],AV.sl 5 [],bA false,iA (0),iA (0),iA y8]]) hcA hn14 Tryz.func124 (by rfl) rfl rfl (Ap rfl)
 try simp only[ls]
 simp only[ho13]
 conv=>lhs;whnf
 revert h
 intro h;refine As h ?_;clear h;intro o31 ho31 h
 refine lq (σ:=(Int×Int×Int×Int×(List UInt8)×(List UInt8)×(List A2)×(List A2)×Bool)) (τ:=(Int×Int×Int×(List UInt8)×(List UInt8)×(List A2)×(List A2)×Bool)) (ν:=((List A0)×Int×Int×Int)) 0 (fun(s15,s16,s17,s18,s19,s20,s21,s22,s23) a25=>B9 157 [(0,AV.ptr 0 0),(1,iA F3),(6,AV.ptr 2 0),(8,AV.ptr 3 0),(9,AV.mapp 6),(84,iA (((y5.1.f_form.length:Nat):Int))),(85,iA s15)]) (fun(s15,s16,s17,s18,s19,s20,s21,s22,s23) a25=>[Ob.var 107 [AV.sl 4 (List.map A4 p_l),iA s16,AV.mapp 1,iA s17,iA s18],Ob.mp none false (List.map A8 Al),Ob.var 111 [sA y5.1.f_word,sA y5.1.f_form,bA y5.1.f_body,bA y5.1.f_more],Ob.var 83 [iA ((Bf Al x4.Ac 0)),sA s19,sA s20,AV.sl 5 (List.map A3 s21),AV.sl 5 (List.map A3 s22),bA s23,iA (0),iA (0),iA y8],Ob.var 104 [AV.ptr 0 0],Ob.var 151 [AV.ptr 3 0],Ob.mpo (some .u8) [[AV.int .u8 (114),AV.func 137 [] [AV.ptr 4 0,AV.ptr 5 0]],[AV.int .u8 (108),AV.func 139 [] [AV.ptr 4 0,AV.ptr 5 0]],[AV.int .u8 (101),AV.func 140 [] [AV.ptr 4 0,AV.ptr 5 0]],[AV.int .u8 (102),AV.func 142 [] [AV.ptr 4 0,AV.ptr 5 0]],[AV.int .u8 (113),AV.func 143 [] [AV.ptr 4 0,AV.ptr 5 0]]]]) (fun(x73,x74,x75,x76,x77,x78,x79,x80) a72=>B9 157 [(0,AV.ptr 0 0),(1,iA F3),(6,AV.ptr 2 0),(8,AV.ptr 3 0)]) (fun(x73,x74,x75,x76,x77,x78,x79,x80) a72=>[Ob.var 107 [AV.sl 4 (List.map A4 p_l),iA x73,AV.mapp 1,iA x74,iA x75],Ob.mp none false (List.map A8 Al),Ob.var 111 [sA y5.1.f_word,sA y5.1.f_form,bA y5.1.f_body,bA y5.1.f_more],Ob.var 83 [iA ((Bf Al x4.Ac 0)),sA x76,sA x77,AV.sl 5 (List.map A3 x78),AV.sl 5 (List.map A3 x79),bA x80,iA (0),iA (0),iA y8],Ob.var 104 [AV.ptr 0 0],Ob.var 151 [AV.ptr 3 0],Ob.mpo (some .u8) [[AV.int .u8 (114),AV.func 137 [] [AV.ptr 4 0,AV.ptr 5 0]],[AV.int .u8 (108),AV.func 139 [] [AV.ptr 4 0,AV.ptr 5 0]],[AV.int .u8 (101),AV.func 140 [] [AV.ptr 4 0,AV.ptr 5 0]],[AV.int .u8 (102),AV.func 142 [] [AV.ptr 4 0,AV.ptr 5 0]],[AV.int .u8 (113),AV.func 143 [] [AV.ptr 4 0,AV.ptr 5 0]]]]) (fun v=>(AV.sl 9 (List.map A9 v.1),[Ob.var 107 [AV.sl 4 (List.map A4 p_l),iA v.2.1,AV.mapp 1,iA v.2.2.1,iA v.2.2.2],Ob.mp none false (List.map A8 Al)])) (fun k s=>B8 n p_l Al x4 y5 y8 k s.1 s.2.1 s.2.2.1 s.2.2.2.1 s.2.2.2.2.1 s.2.2.2.2.2.1 s.2.2.2.2.2.2.1 s.2.2.2.2.2.2.2.1 s.2.2.2.2.2.2.2.2) (fun s=>rfl) o31 n (0,IntKind.i64.wrap (p_i+1),p_e,p_at,([]:List UInt8),([]:List UInt8),([]:List A2),([]:List A2),false) (fun _=>0) ho31 ?_ ?_
 intro k24 ss a25 K26 cont27 hK28 hcont29 h hr30
 obtain⟨s15,s16,s17,s18,s19,s20,s21,s22,s23⟩:=ss
 replace h:B8 n p_l Al x4 y5 y8 (k24+1) s15 s16 s17 s18 s19 s20 s21 s22 s23=some o31:=h
 rw[B8] at h
 conv=>lhs;whnf
 revert h
 refine br ?_ ?_
 refine ixs ?_;intro x33
 refine br ?_ ?_
 refine br ?_ ?_
 refine ca hc (fun _ h=>Ve h) ?_;intro y36
 exact fun h=>cq (hcont29 (IntKind.i64.wrap (s15+1),y36.1,y36.2.1,y36.2.2.1,y36.2.2.2,s20,s21,s22,s23) (fun _=>0) h)
 refine cp ?_
 refine cr hc (fun _ h=>Cg h) ?_;intro y39
 exact fun h=>cq (hcont29 (IntKind.i64.wrap (s15+1),y39.1,y39.2.1,y39.2.2,s19,s20,s21,s22,s23) (fun _=>0) h)
 refine br ?_ ?_
 refine br ?_ ?_
 refine ca hc (fun _ h=>V6 h) ?_;intro y43
 exact fun h=>cq (hcont29 (IntKind.i64.wrap (s15+1),y43.1,y43.2.1,y43.2.2.1,s19,y43.2.2.2,s21,s22,s23) (fun _=>0) h)
 refine cp ?_
 refine cr hc (fun _ h=>Cg h) ?_;intro y46
 exact fun h=>cq (hcont29 (IntKind.i64.wrap (s15+1),y46.1,y46.2.1,y46.2.2,s19,s20,s21,s22,s23) (fun _=>0) h)
 refine br ?_ ?_
 refine br ?_ ?_
 refine ca hc (fun _ h=>V7 h) ?_;intro y50
 exact fun h=>cq (hcont29 (IntKind.i64.wrap (s15+1),y50.1,y50.2.1,y50.2.2.1,s19,s20,y50.2.2.2,s22,s23) (fun _=>0) h)
 refine cp ?_
 refine cr hc (fun _ h=>Cg h) ?_;intro y53
 exact fun h=>cq (hcont29 (IntKind.i64.wrap (s15+1),y53.1,y53.2.1,y53.2.2,s19,s20,s21,s22,s23) (fun _=>0) h)
 refine br ?_ ?_
 refine br ?_ ?_
 refine ca hc (fun _ h=>V1 h) ?_;intro y57
 exact fun h=>cq (hcont29 (IntKind.i64.wrap (s15+1),y57.1,y57.2.1,y57.2.2.1,s19,s20,s21,y57.2.2.2,s23) (fun _=>0) h)
 refine cp ?_
 refine cr hc (fun _ h=>Cg h) ?_;intro y60
 exact fun h=>cq (hcont29 (IntKind.i64.wrap (s15+1),y60.1,y60.2.1,y60.2.2,s19,s20,s21,s22,s23) (fun _=>0) h)
 refine br ?_ ?_
 refine br ?_ ?_
 refine ca hc (fun _ h=>Vc h) ?_;intro y64
 exact fun h=>cq (hcont29 (IntKind.i64.wrap (s15+1),y64.1,y64.2.1,y64.2.2.1,s19,s20,s21,s22,y64.2.2.2) (fun _=>0) h)
 refine cp ?_
 refine cr hc (fun _ h=>Cg h) ?_;intro y67
 exact fun h=>cq (hcont29 (IntKind.i64.wrap (s15+1),y67.1,y67.2.1,y67.2.2,s19,s20,s21,s22,s23) (fun _=>0) h)
 refine cp ?_
 refine cr hc (fun _ h=>Cg h) ?_;intro y70
 exact fun h=>cq (hcont29 (IntKind.i64.wrap (s15+1),y70.1,y70.2.1,y70.2.2,s19,s20,s21,s22,s23) (fun _=>0) h)
 intro h;cases sj h
 exact kq (hr30 (fun _=>0))
 refine lrc ?_ ?_
 intro v e;subst e;cases sj h;rfl
 intro t a72 e;subst e
 obtain⟨x73,x74,x75,x76,x77,x78,x79,x80⟩:=t
 dsimp only at h
 conv=>lhs;whnf
 revert h
 refine br ?_ ?_
 refine ca hc (fun _ h=>ih.1 h) ?_;intro y82
 refine br ?_ ?_
 refine br ?_ ?_
 refine ca hc (fun _ h=>Hq h) ?_;intro y86
 refine br ?_ ?_
 refine ca hc (fun _ h=>ih.1 h) ?_;intro y89
 refine ar (ap A9 ([[iA ((Bf Al x4.Ac 0)),sA x76,sA x77,AV.sl 5 (List.map A3 x78),AV.sl 5 (List.map A3 x79),bA x80,iA (((y82.1.length:Nat):Int)),iA (((y89.1.length:Nat):Int)),iA y8]]) ([(⟨(Bf Al x4.Ac 0),x76,x77,x78,x79,x80,((y82.1.length:Nat):Int),((y89.1.length:Nat):Int),y8⟩:A0)]:List A0) (List.map A9 y82.1) y82.1) ?_
 refine ar (ap A9 (List.map A9 (([(⟨(Bf Al x4.Ac 0),x76,x77,x78,x79,x80,((y82.1.length:Nat):Int),((y89.1.length:Nat):Int),y8⟩:A0)]:List A0)++y82.1)) (([(⟨(Bf Al x4.Ac 0),x76,x77,x78,x79,x80,((y82.1.length:Nat):Int),((y89.1.length:Nat):Int),y8⟩:A0)]:List A0)++y82.1) (List.map A9 y89.1) y89.1) ?_
 intro h;cases sj h
 try simp only[ls]
 exact fq (y:=some (AV.sl 9 (List.take (List.length (((([(⟨(Bf Al x4.Ac 0),x76,x77,x78,x79,x80,((y82.1.length:Nat):Int),((y89.1.length:Nat):Int),y8⟩:A0)]:List A0)++y82.1)++y89.1))) (List.map A9 ((([(⟨(Bf Al x4.Ac 0),x76,x77,x78,x79,x80,((y82.1.length:Nat):Int),((y89.1.length:Nat):Int),y8⟩:A0)]:List A0)++y82.1)++y89.1))),[Ob.var 107 [AV.sl 4 (List.map A4 p_l),iA y89.2.1,AV.mapp 1,iA y89.2.2.1,iA y89.2.2.2],Ob.mp none false (List.map A8 Al)]))
 refine ar (ap A9 ([[iA ((Bf Al x4.Ac 0)),sA x76,sA x77,AV.sl 5 (List.map A3 x78),AV.sl 5 (List.map A3 x79),bA x80,iA (((y82.1.length:Nat):Int)),iA (0),iA y8]]) ([(⟨(Bf Al x4.Ac 0),x76,x77,x78,x79,x80,((y82.1.length:Nat):Int),0,y8⟩:A0)]:List A0) (List.map A9 y82.1) y82.1) ?_
 intro h
 refine B6 h ?_;clear h;intro hc99 h
 first|refine B4 (Lu hc99 (by first|rfl|simp only [Au]) (by first|rfl|simp only [Au]) (by first|rfl|simp only [Au,C0]) (by kernel_rfl)) ?_|refine B4 (Jq hc99 (by first|rfl|simp only [Au]) (by first|rfl|simp only [Au,C0]) (by kernel_rfl)) ?_
 have hp97:(List.map A9 (([(⟨(Bf Al x4.Ac 0),x76,x77,x78,x79,x80,((y82.1.length:Nat):Int),0,y8⟩:A0)]:List A0)++y82.1):List (List AV))++([]:List (List AV))=(List.map A9 (([(⟨(Bf Al x4.Ac 0),x76,x77,x78,x79,x80,((y82.1.length:Nat):Int),0,y8⟩:A0)]:List A0)++y82.1):List (List AV)):=List.append_nil _
 have hl98:List.length (List.map A9 (([(⟨(Bf Al x4.Ac 0),x76,x77,x78,x79,x80,((y82.1.length:Nat):Int),0,y8⟩:A0)]:List A0)++y82.1):List (List AV))+List.length ([]:List (List AV))=List.length (List.map A9 (([(⟨(Bf Al x4.Ac 0),x76,x77,x78,x79,x80,((y82.1.length:Nat):Int),0,y8⟩:A0)]:List A0)++y82.1):List (List AV)):=rfl
 have hl98_b:List.length (([(⟨(Bf Al x4.Ac 0),x76,x77,x78,x79,x80,((y82.1.length:Nat):Int),0,y8⟩:A0)]:List A0)++y82.1)+List.length ([]:List (List AV))=List.length (([(⟨(Bf Al x4.Ac 0),x76,x77,x78,x79,x80,((y82.1.length:Nat):Int),0,y8⟩:A0)]:List A0)++y82.1):=rfl
 try simp only[ls,c0]
 try simp only[hp97,hl98,hl98_b]
 try simp only[ls]
 conv=>lhs;whnf
 revert h
 intro h;cases sj h
 try simp only[ls]
 exact fq (y:=some (AV.sl 9 (List.take (List.length ((([(⟨(Bf Al x4.Ac 0),x76,x77,x78,x79,x80,((y82.1.length:Nat):Int),0,y8⟩:A0)]:List A0)++y82.1))) (List.map A9 (([(⟨(Bf Al x4.Ac 0),x76,x77,x78,x79,x80,((y82.1.length:Nat):Int),0,y8⟩:A0)]:List A0)++y82.1))),[Ob.var 107 [AV.sl 4 (List.map A4 p_l),iA y82.2.1,AV.mapp 1,iA y82.2.2.1,iA y82.2.2.2],Ob.mp none false (List.map A8 Al)]))
 refine ar (ap A9 ([[iA ((Bf Al x4.Ac 0)),sA x76,sA x77,AV.sl 5 (List.map A3 x78),AV.sl 5 (List.map A3 x79),bA x80,iA (((y82.1.length:Nat):Int)),iA (0),iA y8]]) ([(⟨(Bf Al x4.Ac 0),x76,x77,x78,x79,x80,((y82.1.length:Nat):Int),0,y8⟩:A0)]:List A0) (List.map A9 y82.1) y82.1) ?_
 intro h
 refine B6 h ?_;clear h;intro hc104 h
 first|refine B4 (Lu hc104 (by first|rfl|simp only [Au]) (by first|rfl|simp only [Au]) (by first|rfl|simp only [Au,C0]) (by kernel_rfl)) ?_|refine B4 (Jq hc104 (by first|rfl|simp only [Au]) (by first|rfl|simp only [Au,C0]) (by kernel_rfl)) ?_
 have hp102:(List.map A9 (([(⟨(Bf Al x4.Ac 0),x76,x77,x78,x79,x80,((y82.1.length:Nat):Int),0,y8⟩:A0)]:List A0)++y82.1):List (List AV))++([]:List (List AV))=(List.map A9 (([(⟨(Bf Al x4.Ac 0),x76,x77,x78,x79,x80,((y82.1.length:Nat):Int),0,y8⟩:A0)]:List A0)++y82.1):List (List AV)):=List.append_nil _
 have hl103:List.length (List.map A9 (([(⟨(Bf Al x4.Ac 0),x76,x77,x78,x79,x80,((y82.1.length:Nat):Int),0,y8⟩:A0)]:List A0)++y82.1):List (List AV))+List.length ([]:List (List AV))=List.length (List.map A9 (([(⟨(Bf Al x4.Ac 0),x76,x77,x78,x79,x80,((y82.1.length:Nat):Int),0,y8⟩:A0)]:List A0)++y82.1):List (List AV)):=rfl
 have hl103_b:List.length (([(⟨(Bf Al x4.Ac 0),x76,x77,x78,x79,x80,((y82.1.length:Nat):Int),0,y8⟩:A0)]:List A0)++y82.1)+List.length ([]:List (List AV))=List.length (([(⟨(Bf Al x4.Ac 0),x76,x77,x78,x79,x80,((y82.1.length:Nat):Int),0,y8⟩:A0)]:List A0)++y82.1):=rfl
 try simp only[ls,c0]
 try simp only[hp102,hl103,hl103_b]
 try simp only[ls]
 conv=>lhs;whnf
 revert h
 intro h;cases sj h
 try simp only[ls]
 exact fq (y:=some (AV.sl 9 (List.take (List.length ((([(⟨(Bf Al x4.Ac 0),x76,x77,x78,x79,x80,((y82.1.length:Nat):Int),0,y8⟩:A0)]:List A0)++y82.1))) (List.map A9 (([(⟨(Bf Al x4.Ac 0),x76,x77,x78,x79,x80,((y82.1.length:Nat):Int),0,y8⟩:A0)]:List A0)++y82.1))),[Ob.var 107 [AV.sl 4 (List.map A4 p_l),iA y82.2.1,AV.mapp 1,iA y82.2.2.1,iA y82.2.2.2],Ob.mp none false (List.map A8 Al)]))
 refine ar (ap A9 ([[iA ((Bf Al x4.Ac 0)),sA x76,sA x77,AV.sl 5 (List.map A3 x78),AV.sl 5 (List.map A3 x79),bA x80,iA (((y82.1.length:Nat):Int)),iA (0),iA y8]]) ([(⟨(Bf Al x4.Ac 0),x76,x77,x78,x79,x80,((y82.1.length:Nat):Int),0,y8⟩:A0)]:List A0) (List.map A9 y82.1) y82.1) ?_
 intro h
 refine B6 h ?_;clear h;intro hc109 h
 first|refine B4 (Lu hc109 (by first|rfl|simp only [Au]) (by first|rfl|simp only [Au]) (by first|rfl|simp only [Au,C0]) (by kernel_rfl)) ?_|refine B4 (Jq hc109 (by first|rfl|simp only [Au]) (by first|rfl|simp only [Au,C0]) (by kernel_rfl)) ?_
 have hp107:(List.map A9 (([(⟨(Bf Al x4.Ac 0),x76,x77,x78,x79,x80,((y82.1.length:Nat):Int),0,y8⟩:A0)]:List A0)++y82.1):List (List AV))++([]:List (List AV))=(List.map A9 (([(⟨(Bf Al x4.Ac 0),x76,x77,x78,x79,x80,((y82.1.length:Nat):Int),0,y8⟩:A0)]:List A0)++y82.1):List (List AV)):=List.append_nil _
 have hl108:List.length (List.map A9 (([(⟨(Bf Al x4.Ac 0),x76,x77,x78,x79,x80,((y82.1.length:Nat):Int),0,y8⟩:A0)]:List A0)++y82.1):List (List AV))+List.length ([]:List (List AV))=List.length (List.map A9 (([(⟨(Bf Al x4.Ac 0),x76,x77,x78,x79,x80,((y82.1.length:Nat):Int),0,y8⟩:A0)]:List A0)++y82.1):List (List AV)):=rfl
 have hl108_b:List.length (([(⟨(Bf Al x4.Ac 0),x76,x77,x78,x79,x80,((y82.1.length:Nat):Int),0,y8⟩:A0)]:List A0)++y82.1)+List.length ([]:List (List AV))=List.length (([(⟨(Bf Al x4.Ac 0),x76,x77,x78,x79,x80,((y82.1.length:Nat):Int),0,y8⟩:A0)]:List A0)++y82.1):=rfl
 try simp only[ls,c0]
 try simp only[hp107,hl108,hl108_b]
 try simp only[ls]
 conv=>lhs;whnf
 revert h
 intro h;cases sj h
 try simp only[ls]
 exact fq (y:=some (AV.sl 9 (List.take (List.length ((([(⟨(Bf Al x4.Ac 0),x76,x77,x78,x79,x80,((y82.1.length:Nat):Int),0,y8⟩:A0)]:List A0)++y82.1))) (List.map A9 (([(⟨(Bf Al x4.Ac 0),x76,x77,x78,x79,x80,((y82.1.length:Nat):Int),0,y8⟩:A0)]:List A0)++y82.1))),[Ob.var 107 [AV.sl 4 (List.map A4 p_l),iA y82.2.1,AV.mapp 1,iA y82.2.2.1,iA y82.2.2.2],Ob.mp none false (List.map A8 Al)]))
 refine br ?_ ?_
 refine br ?_ ?_
 refine ca hc (fun _ h=>Hq h) ?_;intro y112
 refine br ?_ ?_
 refine ca hc (fun _ h=>ih.1 h) ?_;intro y115
 intro h
 have hp117:([[iA ((Bf Al x4.Ac 0)),sA x76,sA x77,AV.sl 5 (List.map A3 x78),AV.sl 5 (List.map A3 x79),bA x80,iA (0),iA (((y115.1.length:Nat):Int)),iA y8]]:List (List AV))++([]:List (List AV))=([[iA ((Bf Al x4.Ac 0)),sA x76,sA x77,AV.sl 5 (List.map A3 x78),AV.sl 5 (List.map A3 x79),bA x80,iA (0),iA (((y115.1.length:Nat):Int)),iA y8]]:List (List AV)):=List.append_nil _
 have hl118:List.length ([[iA ((Bf Al x4.Ac 0)),sA x76,sA x77,AV.sl 5 (List.map A3 x78),AV.sl 5 (List.map A3 x79),bA x80,iA (0),iA (((y115.1.length:Nat):Int)),iA y8]]:List (List AV))+List.length ([]:List (List AV))=List.length ([[iA ((Bf Al x4.Ac 0)),sA x76,sA x77,AV.sl 5 (List.map A3 x78),AV.sl 5 (List.map A3 x79),bA x80,iA (0),iA (((y115.1.length:Nat):Int)),iA y8]]:List (List AV)):=rfl
 have hl118_b:List.length ([(⟨(Bf Al x4.Ac 0),x76,x77,x78,x79,x80,0,((y115.1.length:Nat):Int),y8⟩:A0)]:List A0)+List.length ([]:List (List AV))=List.length ([(⟨(Bf Al x4.Ac 0),x76,x77,x78,x79,x80,0,((y115.1.length:Nat):Int),y8⟩:A0)]:List A0):=rfl
 try simp only[ls,c0]
 try simp only[hp117,hl118,hl118_b]
 conv=>lhs;whnf
 revert h
 refine ar (ap A9 ([[iA ((Bf Al x4.Ac 0)),sA x76,sA x77,AV.sl 5 (List.map A3 x78),AV.sl 5 (List.map A3 x79),bA x80,iA (0),iA (((y115.1.length:Nat):Int)),iA y8]]) ([(⟨(Bf Al x4.Ac 0),x76,x77,x78,x79,x80,0,((y115.1.length:Nat):Int),y8⟩:A0)]:List A0) (List.map A9 y115.1) y115.1) ?_
 intro h;cases sj h
 try simp only[ls]
 exact fq (y:=some (AV.sl 9 (List.take (List.length ((([(⟨(Bf Al x4.Ac 0),x76,x77,x78,x79,x80,0,((y115.1.length:Nat):Int),y8⟩:A0)]:List A0)++y115.1))) (List.map A9 (([(⟨(Bf Al x4.Ac 0),x76,x77,x78,x79,x80,0,((y115.1.length:Nat):Int),y8⟩:A0)]:List A0)++y115.1))),[Ob.var 107 [AV.sl 4 (List.map A4 p_l),iA y115.2.1,AV.mapp 1,iA y115.2.2.1,iA y115.2.2.2],Ob.mp none false (List.map A8 Al)]))
 intro h
 have hp121:([[iA ((Bf Al x4.Ac 0)),sA x76,sA x77,AV.sl 5 (List.map A3 x78),AV.sl 5 (List.map A3 x79),bA x80,iA (0),iA (0),iA y8]]:List (List AV))++([]:List (List AV))=([[iA ((Bf Al x4.Ac 0)),sA x76,sA x77,AV.sl 5 (List.map A3 x78),AV.sl 5 (List.map A3 x79),bA x80,iA (0),iA (0),iA y8]]:List (List AV)):=List.append_nil _
 have hl122:List.length ([[iA ((Bf Al x4.Ac 0)),sA x76,sA x77,AV.sl 5 (List.map A3 x78),AV.sl 5 (List.map A3 x79),bA x80,iA (0),iA (0),iA y8]]:List (List AV))+List.length ([]:List (List AV))=List.length ([[iA ((Bf Al x4.Ac 0)),sA x76,sA x77,AV.sl 5 (List.map A3 x78),AV.sl 5 (List.map A3 x79),bA x80,iA (0),iA (0),iA y8]]:List (List AV)):=rfl
 have hl122_b:List.length ([(⟨(Bf Al x4.Ac 0),x76,x77,x78,x79,x80,0,0,y8⟩:A0)]:List A0)+List.length ([]:List (List AV))=List.length ([(⟨(Bf Al x4.Ac 0),x76,x77,x78,x79,x80,0,0,y8⟩:A0)]:List A0):=rfl
 try simp only[ls,c0]
 try simp only[hp121,hl122,hl122_b]
 conv=>lhs;whnf
 revert h
 intro h
 have hp123:([[iA ((Bf Al x4.Ac 0)),sA x76,sA x77,AV.sl 5 (List.map A3 x78),AV.sl 5 (List.map A3 x79),bA x80,iA (0),iA (0),iA y8]]:List (List AV))++([]:List (List AV))=([[iA ((Bf Al x4.Ac 0)),sA x76,sA x77,AV.sl 5 (List.map A3 x78),AV.sl 5 (List.map A3 x79),bA x80,iA (0),iA (0),iA y8]]:List (List AV)):=List.append_nil _
 have hl124:List.length ([[iA ((Bf Al x4.Ac 0)),sA x76,sA x77,AV.sl 5 (List.map A3 x78),AV.sl 5 (List.map A3 x79),bA x80,iA (0),iA (0),iA y8]]:List (List AV))+List.length ([]:List (List AV))=List.length ([[iA ((Bf Al x4.Ac 0)),sA x76,sA x77,AV.sl 5 (List.map A3 x78),AV.sl 5 (List.map A3 x79),bA x80,iA (0),iA (0),iA y8]]:List (List AV)):=rfl
 have hl124_b:List.length ([(⟨(Bf Al x4.Ac 0),x76,x77,x78,x79,x80,0,0,y8⟩:A0)]:List A0)+List.length ([]:List (List AV))=List.length ([(⟨(Bf Al x4.Ac 0),x76,x77,x78,x79,x80,0,0,y8⟩:A0)]:List A0):=rfl
 try simp only[ls,c0]
 try simp only[hp123,hl124,hl124_b]
 conv=>lhs;whnf
 revert h
 intro h;cases sj h
 try simp only[ls]
 exact fq (y:=some (AV.sl 9 (List.take (List.length (([(⟨(Bf Al x4.Ac 0),x76,x77,x78,x79,x80,0,0,y8⟩:A0)]:List A0))) ([[iA ((Bf Al x4.Ac 0)),sA x76,sA x77,AV.sl 5 (List.map A3 x78),AV.sl 5 (List.map A3 x79),bA x80,iA (0),iA (0),iA y8]])),[Ob.var 107 [AV.sl 4 (List.map A4 p_l),iA x73,AV.mapp 1,iA x74,iA x75],Ob.mp none false (List.map A8 Al)]))
 intro h
 have hp125:([[iA ((Bf Al x4.Ac 0)),sA x76,sA x77,AV.sl 5 (List.map A3 x78),AV.sl 5 (List.map A3 x79),bA x80,iA (0),iA (0),iA y8]]:List (List AV))++([]:List (List AV))=([[iA ((Bf Al x4.Ac 0)),sA x76,sA x77,AV.sl 5 (List.map A3 x78),AV.sl 5 (List.map A3 x79),bA x80,iA (0),iA (0),iA y8]]:List (List AV)):=List.append_nil _
 have hl126:List.length ([[iA ((Bf Al x4.Ac 0)),sA x76,sA x77,AV.sl 5 (List.map A3 x78),AV.sl 5 (List.map A3 x79),bA x80,iA (0),iA (0),iA y8]]:List (List AV))+List.length ([]:List (List AV))=List.length ([[iA ((Bf Al x4.Ac 0)),sA x76,sA x77,AV.sl 5 (List.map A3 x78),AV.sl 5 (List.map A3 x79),bA x80,iA (0),iA (0),iA y8]]:List (List AV)):=rfl
 have hl126_b:List.length ([(⟨(Bf Al x4.Ac 0),x76,x77,x78,x79,x80,0,0,y8⟩:A0)]:List A0)+List.length ([]:List (List AV))=List.length ([(⟨(Bf Al x4.Ac 0),x76,x77,x78,x79,x80,0,0,y8⟩:A0)]:List A0):=rfl
 try simp only[ls,c0]
 try simp only[hp125,hl126,hl126_b]
 conv=>lhs;whnf
 revert h
 intro h
 have hp127:([[iA ((Bf Al x4.Ac 0)),sA x76,sA x77,AV.sl 5 (List.map A3 x78),AV.sl 5 (List.map A3 x79),bA x80,iA (0),iA (0),iA y8]]:List (List AV))++([]:List (List AV))=([[iA ((Bf Al x4.Ac 0)),sA x76,sA x77,AV.sl 5 (List.map A3 x78),AV.sl 5 (List.map A3 x79),bA x80,iA (0),iA (0),iA y8]]:List (List AV)):=List.append_nil _
 have hl128:List.length ([[iA ((Bf Al x4.Ac 0)),sA x76,sA x77,AV.sl 5 (List.map A3 x78),AV.sl 5 (List.map A3 x79),bA x80,iA (0),iA (0),iA y8]]:List (List AV))+List.length ([]:List (List AV))=List.length ([[iA ((Bf Al x4.Ac 0)),sA x76,sA x77,AV.sl 5 (List.map A3 x78),AV.sl 5 (List.map A3 x79),bA x80,iA (0),iA (0),iA y8]]:List (List AV)):=rfl
 have hl128_b:List.length ([(⟨(Bf Al x4.Ac 0),x76,x77,x78,x79,x80,0,0,y8⟩:A0)]:List A0)+List.length ([]:List (List AV))=List.length ([(⟨(Bf Al x4.Ac 0),x76,x77,x78,x79,x80,0,0,y8⟩:A0)]:List A0):=rfl
 try simp only[ls,c0]
 try simp only[hp127,hl128,hl128_b]
 conv=>lhs;whnf
 revert h
 intro h;cases sj h
 try simp only[ls]
 exact fq (y:=some (AV.sl 9 (List.take (List.length (([(⟨(Bf Al x4.Ac 0),x76,x77,x78,x79,x80,0,0,y8⟩:A0)]:List A0))) ([[iA ((Bf Al x4.Ac 0)),sA x76,sA x77,AV.sl 5 (List.map A3 x78),AV.sl 5 (List.map A3 x79),bA x80,iA (0),iA (0),iA y8]])),[Ob.var 107 [AV.sl 4 (List.map A4 p_l),iA x73,AV.mapp 1,iA x74,iA x75],Ob.mp none false (List.map A8 Al)]))
 intro h
 have hp129:([[iA ((Bf Al x4.Ac 0)),sA x76,sA x77,AV.sl 5 (List.map A3 x78),AV.sl 5 (List.map A3 x79),bA x80,iA (0),iA (0),iA y8]]:List (List AV))++([]:List (List AV))=([[iA ((Bf Al x4.Ac 0)),sA x76,sA x77,AV.sl 5 (List.map A3 x78),AV.sl 5 (List.map A3 x79),bA x80,iA (0),iA (0),iA y8]]:List (List AV)):=List.append_nil _
 have hl130:List.length ([[iA ((Bf Al x4.Ac 0)),sA x76,sA x77,AV.sl 5 (List.map A3 x78),AV.sl 5 (List.map A3 x79),bA x80,iA (0),iA (0),iA y8]]:List (List AV))+List.length ([]:List (List AV))=List.length ([[iA ((Bf Al x4.Ac 0)),sA x76,sA x77,AV.sl 5 (List.map A3 x78),AV.sl 5 (List.map A3 x79),bA x80,iA (0),iA (0),iA y8]]:List (List AV)):=rfl
 have hl130_b:List.length ([(⟨(Bf Al x4.Ac 0),x76,x77,x78,x79,x80,0,0,y8⟩:A0)]:List A0)+List.length ([]:List (List AV))=List.length ([(⟨(Bf Al x4.Ac 0),x76,x77,x78,x79,x80,0,0,y8⟩:A0)]:List A0):=rfl
 try simp only[ls,c0]
 try simp only[hp129,hl130,hl130_b]
 conv=>lhs;whnf
 revert h
 intro h
 have hp131:([[iA ((Bf Al x4.Ac 0)),sA x76,sA x77,AV.sl 5 (List.map A3 x78),AV.sl 5 (List.map A3 x79),bA x80,iA (0),iA (0),iA y8]]:List (List AV))++([]:List (List AV))=([[iA ((Bf Al x4.Ac 0)),sA x76,sA x77,AV.sl 5 (List.map A3 x78),AV.sl 5 (List.map A3 x79),bA x80,iA (0),iA (0),iA y8]]:List (List AV)):=List.append_nil _
 have hl132:List.length ([[iA ((Bf Al x4.Ac 0)),sA x76,sA x77,AV.sl 5 (List.map A3 x78),AV.sl 5 (List.map A3 x79),bA x80,iA (0),iA (0),iA y8]]:List (List AV))+List.length ([]:List (List AV))=List.length ([[iA ((Bf Al x4.Ac 0)),sA x76,sA x77,AV.sl 5 (List.map A3 x78),AV.sl 5 (List.map A3 x79),bA x80,iA (0),iA (0),iA y8]]:List (List AV)):=rfl
 have hl132_b:List.length ([(⟨(Bf Al x4.Ac 0),x76,x77,x78,x79,x80,0,0,y8⟩:A0)]:List A0)+List.length ([]:List (List AV))=List.length ([(⟨(Bf Al x4.Ac 0),x76,x77,x78,x79,x80,0,0,y8⟩:A0)]:List A0):=rfl
 try simp only[ls,c0]
 try simp only[hp131,hl132,hl132_b]
 conv=>lhs;whnf
 revert h
 intro h;cases sj h
 try simp only[ls]
 exact fq (y:=some (AV.sl 9 (List.take (List.length (([(⟨(Bf Al x4.Ac 0),x76,x77,x78,x79,x80,0,0,y8⟩:A0)]:List A0))) ([[iA ((Bf Al x4.Ac 0)),sA x76,sA x77,AV.sl 5 (List.map A3 x78),AV.sl 5 (List.map A3 x79),bA x80,iA (0),iA (0),iA y8]])),[Ob.var 107 [AV.sl 4 (List.map A4 p_l),iA x73,AV.mapp 1,iA x74,iA x75],Ob.mp none false (List.map A8 Al)]))
 refine ca hc (fun _ h=>Eh h) ?_;intro y134
 intro h;cases sj h
 try simp only[ls]
 exact fq (y:=some (AV.sl 9 [],[Ob.var 107 [AV.sl 4 (List.map A4 p_l),iA p_i,AV.mapp 1,iA y134.1,iA y134.2],Ob.mp none false (List.map A8 Al)]))
 refine ca hc (fun _ h=>Yi h) ?_;intro y136
 refine ca hc (fun _ h=>Eh h) ?_;intro y138
 intro h;cases sj h
 try simp only[ls]
 exact fq (y:=some (AV.sl 9 [],[Ob.var 107 [AV.sl 4 (List.map A4 p_l),iA p_i,AV.mapp 1,iA y138.1,iA y138.2],Ob.mp none false (List.map A8 Al)]))
 refine ca hc (fun _ h=>Yi h) ?_;intro y140
 refine ca hc (fun _ h=>Eh h) ?_;intro y142
 intro h;cases sj h
 try simp only[ls]
 exact fq (y:=some (AV.sl 9 [],[Ob.var 107 [AV.sl 4 (List.map A4 p_l),iA p_i,AV.mapp 1,iA y142.1,iA y142.2],Ob.mp none false (List.map A8 Al)]))
theorem Ql:∀ n,Jf n
 | 0=>⟨by unfold Ma;intros;rename_i h;exact absurd h (by intro h;cases h),by unfold Kb;intros;rename_i h;exact absurd h (by intro h;cases h),by unfold O1;intros;rename_i h;exact absurd h (by intro h;cases h)⟩
 | n+1=>have ih:=Ql n
   ⟨Wg n ih,Xp n ih,Y1 n ih⟩
theorem Xo {n:Nat}:Kb n:=(Ql n).2.1
end Go.Proofs.YtnijlelbihnamaaGreat
end
