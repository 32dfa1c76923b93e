/- Parts of the proofs: what they lean on. Conditions: none. -/
import Derived.Test.YtnijlelbihnamaaProgRightP2
section
namespace Go.Proofs.Ytnijlelbihnamaa
set_option linter.unusedVariables false
set_option linter.unusedSimpArgs false
set_option maxRecDepth 10000
theorem Aug (n:Nat) (y:List Nd×Int×Int×Int):∀ (m i k:Nat) (x:List Nd),y.1.length=x.length→x.length - i≤m→m < k→i≤x.length→x.length < 1000000→Dp n y k (i:Int) x=some (.out (x.take i++(x.drop i).map J2)):=by
 intro m
 induction m with
 | zero =>
  intro i k x hy hm hk hi hx
  obtain⟨k,rfl⟩:∃ j,k=j+1:=⟨k - 1,by omega⟩
  rw[Dp,hy,Ap (by omega),List.drop_of_length_le (by omega),List.take_of_length_le (by omega)];simp
 | succ m ih =>
  intro i k x hy hm hk hi hx
  obtain⟨k,rfl⟩:∃ j,k=j+1:=⟨k - 1,by omega⟩
  by_cases c:i < x.length
  ·rw[Dp,hy,A6 (by omega),Cv c,A0,A0,Bg i (by omega)]
   have key:∀ z:List Nd,z.length=x.length→z.take (i+1)=x.take i++[J2 x[i]]→z.drop (i+1)=x.drop (i+1)→z.take (i+1)++(z.drop (i+1)).map J2=x.take i++(x.drop i).map J2:=by
    intro z _ h1 h2
    rw[h1,h2,List.drop_eq_getElem_cons c,List.map_cons,List.append_assoc];rfl
   by_cases h2:x[i].As=2
   ·rw[h2,show((2:Int)==2)=true from rfl,Ab,ih (i+1) k _ (by rw[List.length_set];exact hy) (by rw[List.length_set];omega) (by omega) (by rw[List.length_set];omega) (by rw[List.length_set];omega)]
    rw[key _ (by rw[List.length_set]) ?_ ?_]
    ·rw[Int.toNat_natCast,List.take_set,List.take_add_one,Ar c,Option.toList_some,List.set_append_right _ _ (by rw[List.length_take];omega),List.length_take,show i - min i x.length=0 by omega,List.set_cons_zero]
     simp[J2,h2]
    ·rw[Int.toNat_natCast,List.drop_set];rw[if_pos (by omega)]
   ·rw[C8.2 h2,At,ih (i+1) k _ hy (by omega) (by omega) (by omega) hx]
    rw[key x rfl ?_ rfl]
    rw[List.take_add_one,Ar c]
    simp[J2,h2]
  ·rw[Dp,hy,Ap (by omega),List.drop_of_length_le (by omega),List.take_of_length_le (by omega)];simp
theorem Au0 {T:Nat} {l:List Tk} (hk:Toks T l) {k:Int} {s:Ps} (h1:s.1 < l.length) (hz:PsZ s):PsZ (clF k l s).2:=by
 unfold clF
 exact Xq (Apf hz (Apn hk (show s.1+1≤l.length from h1)))
theorem Ark {T:Nat} {l:List Tk} (hk:Toks T l) (n:Nat) (k:Int) (s:Ps) (h1:s.1 < l.length) (hz:PsZ s) (hn:18*l.length+T+1000≤n) :
 Jl n k (Oo l s.1).Ao l ((s.1+1:Nat):Int) s.2.1 s.2.2=some ((clF k l s).1,((clF k l s).2.1:Int),(clF k l s).2.2.1,(clF k l s).2.2.2):=by
 have hl:=hk.len
 obtain⟨n,rfl⟩:∃ j,n=j+6:=⟨n - 6,by omega⟩
 have hi:s.1+1≤l.length:=h1
 obtain⟨g1,g2,g3⟩:=Alw hk hi
 have hx:(peQ l (s.1+1)).1.length≤200:=by
  rcases A0m hk hi with ⟨_,h,_⟩ | ⟨_,_,_,_,_,h⟩
  ·rw[h];simp
  ·simp only[Dx,A7,B3] at h;exact h.1.2
 have ea:(clF k l s).1=⟨k,(peQ l (s.1+1)).1.map J2,(Oo l s.1).Ao⟩:=by unfold clF;rw[Ah6 h1,Rt h1]
 rw[Jl,Att hk hi (by omega),A0]
 have fin:∀ (E:List Nd),(bif (faF s.2 (peQ l (s.1+1)).2.2.1 (peQ l (s.1+1)).2.2.2).1==0 then(By (n+5) [59] l (peQ l (s.1+1)).2.1 (faF s.2 (peQ l (s.1+1)).2.2.1 (peQ l (s.1+1)).2.2.2).1 (faF s.2 (peQ l (s.1+1)).2.2.1 (peQ l (s.1+1)).2.2.2).2).bind fun y16=>some ((⟨k,E,(Oo l s.1).Ao⟩:Aj),y16.1,y16.2.1,y16.2.2)
  else(By (n+5) [59] l ((s.1+1:Nat):Int) (faF s.2 (peQ l (s.1+1)).2.2.1 (peQ l (s.1+1)).2.2.2).1 (faF s.2 (peQ l (s.1+1)).2.2.1 (peQ l (s.1+1)).2.2.2).2).bind fun y18=>some ((⟨k,E,(Oo l s.1).Ao⟩:Aj),y18.1,y18.2.1,y18.2.2))=some ((⟨k,E,(Oo l s.1).Ao⟩:Aj),((clF k l s).2.1:Int),(clF k l s).2.2.1,(clF k l s).2.2.2):=by
  intro E
  have e1:=Rj n [59] l (if(faF s.2 (peQ l (s.1+1)).2.2.1 (peQ l (s.1+1)).2.2.2).1=0 then(peQ l (s.1+1)).2.1.toNat else s.1+1,faF s.2 (peQ l (s.1+1)).2.2.1 (peQ l (s.1+1)).2.2.2) hl
  unfold clF
  dsimp only at e1 ⊢
  by_cases c:(faF s.2 (peQ l (s.1+1)).2.2.1 (peQ l (s.1+1)).2.2.2).1=0
  ·rw[if_pos c] at e1 ⊢
   rw[g1] at e1
   rw[beq_iff_eq.2 c,Ab,e1,A0]
  ·rw[if_neg c] at e1 ⊢
   rw[C8.2 c,At,e1,A0]
 rw[ea]
 have pf:=Aej (n+4) (peQ l (s.1+1)).2.2.1 (peQ l (s.1+1)).2.2.2 l ((s.1+1:Nat):Int) s.2 hz (Apn hk hi)
 by_cases hzz:(peQ l (s.1+1)).1.length=0
 ·have hz':(peQ l (s.1+1)).1=[]:=List.length_eq_zero_iff.1 hzz
  rw[A6 hzz,pf,A0,show Ir (n+5) (n+5)=some (.out ()) from rfl,A0,hz']
  exact fin []
 ·have hL:=Aug (n+5) (peQ l (s.1+1)) (peQ l (s.1+1)).1.length 0 (n+5) (peQ l (s.1+1)).1 rfl (by omega) (by omega) (by omega) (by omega)
  rw[show((0:Nat):Int)=0 from rfl,List.take_zero,List.drop_zero,List.nil_append] at hL
  rw[Ap hzz,pf,A0,hL,A0]
  exact fin _
def cw (j:Nat):List UInt8:=cwS.getD j []
theorem Arj (n:Nat) (j:Nat) (h:1≤j∧j≤3):Jq (n+1) (j:Int)=some (cw j):=by
 have:j=1∨j=2∨j=3:=by omega
 rcases this with rfl | rfl | rfl<;>rfl
theorem Aoi {l:List Tk} {i:Nat} {w w':List UInt8} (h:A22 l i w=true) (hw:w≠w'):A22 l i w'=false:=by
 unfold A22 at h ⊢
 cases hx:l[i]? with
 | none=>rfl
 | some t =>
  rw[hx] at h
  simp only[A7,beq_iff_eq] at h
  dsimp only
  rw[h.2,C8.2 hw,Bool.and_false]
theorem A7f {l:List Tk} {s:Ps} {w w':List UInt8} (h:C5 w l s=true) (hw:w≠w'):C5 w' l s=false:=by
 unfold C5 at h ⊢
 rw[A7] at h
 rw[Aoi h.2 hw,Bool.and_false]
theorem Ap0 {l:List Tk} {s:Ps} {j:Nat} (hj:1≤j∧j≤3) (h:C5 (cw j) l s=true):Hv l s=(j:Int):=by
 have:j=1∨j=2∨j=3:=by omega
 unfold Hv
 rcases this with rfl | rfl | rfl
 ·rw[show C5 [102,111,114,97,108,108] l s=true from h];rfl
 ·have h:C5 [101,120,105,115,116,115] l s=true:=h
  rw[A7f h (w':=[102,111,114,97,108,108]) (by decide),h];rfl
 ·have h:C5 [97,108,119,97,121,115] l s=true:=h
  rw[A7f h (w':=[102,111,114,97,108,108]) (by decide),A7f h (w':=[101,120,105,115,116,115]) (by decide),h];rfl
theorem Y3 {l:List Tk} {s:Ps} (h:∀ j,1≤j∧j≤3→C5 (cw j) l s=false):Hv l s=0:=by
 unfold Hv
 rw[show C5 [102,111,114,97,108,108] l s=false from h 1 (by omega),show C5 [101,120,105,115,116,115] l s=false from h 2 (by omega),show C5 [97,108,119,97,121,115] l s=false from h 3 (by omega)];rfl
theorem Adx {l:List Tk} {s:Ps} (h:s.2.1≠0):Hv l s=0:=Y3 fun j _=>A7m h
theorem Ahk {T:Nat} {l:List Tk} (hk:Toks T l) {k:Int} {s:Ps} (hs:Cn l s) (h1:s.1 < l.length) (h0:s.2.1=0):Cn l (clF k l s).2∧Gc l (clF k l s).2 < Gc l s:=by
 obtain⟨q2,q3⟩:=Ajv hk k h1 h0
 exact⟨q2,Vw h0 hs q3 q2⟩
theorem Aou {T:Nat} {l:List Tk} (hk:Toks T l):∀ (m K K':Nat) (s:Ps) (acc:List Cl),Cn l s→Gc l s≤m→m < K→m < K'→Is l K s acc=Is l K' s acc:=by
 intro m
 induction m with
 | zero =>
  intro K K' s acc hs hm hK hK'
  obtain⟨K,rfl⟩:∃ j,K=j+1:=⟨K - 1,by omega⟩
  obtain⟨K',rfl⟩:∃ j,K'=j+1:=⟨K' - 1,by omega⟩
  rw[Is,Is,Y3 fun j _=>A3f hm];rfl
 | succ m ih =>
  intro K K' s acc hs hm hK hK'
  obtain⟨K,rfl⟩:∃ j,K=j+1:=⟨K - 1,by omega⟩
  obtain⟨K',rfl⟩:∃ j,K'=j+1:=⟨K' - 1,by omega⟩
  rw[Is,Is]
  by_cases c:0 < Hv l s
  ·obtain⟨h1,h0,_⟩:=A36 c
   obtain⟨g1,g2⟩:=Ahk hk (k:=Hv l s) hs h1 h0
   rw[A6 c,A6 c]
   exact ih K K' _ _ g1 (by omega) (by omega) (by omega)
  ·rw[Ap c,Ap c]
noncomputable def Sw (l:List Tk) (s:Ps) (acc:List Cl):List Cl×Ps:=Is l (l.length+2) s acc
theorem Am4 {T:Nat} {l:List Tk} (hk:Toks T l) {s:Ps} {acc:List Cl} {j:Nat} (hj:1≤j∧j≤3) (hs:Cn l s) (h:C5 (cw j) l s=true):Sw l s acc=Sw l (clF (j:Int) l s).2 (acc++[(clF (j:Int) l s).1]):=by
 obtain⟨h1,h0⟩:=Kt h
 obtain⟨g1,g2⟩:=Ahk hk (k:=(j:Int)) hs h1 h0
 have hb:Gc l s≤l.length+1:=Rs
 unfold Sw
 rw[show l.length+2=(l.length+1)+1 from rfl,Is,Ap0 hj h,A6 (by omega)]
 exact Aou hk (l.length) _ _ _ _ g1 (by omega) (by omega) (by omega)
theorem A05 {l:List Tk} {s:Ps} {acc:List Cl} (h:Hv l s=0):Sw l s acc=(acc,s):=by
 unfold Sw
 rw[Is,h];rfl
noncomputable def G4 (l:List Tk) (j:Nat) (r:Bool×Ps×List Cl):Bool×Ps×List Cl:=bif C5 (cw j) l r.2.1 then(true,(clF (j:Int) l r.2.1).2,r.2.2++[(clF (j:Int) l r.2.1).1]) else r
structure Aja (l:List Tk) (s0:Ps) (a0:List Cl) (r:Bool×Ps×List Cl):Prop where
 ok:Cn l r.2.1
 z:PsZ r.2.1
 same:Sw l r.2.1 r.2.2=Sw l s0 a0
 off:r.1=false→r.2.1=s0∧r.2.2=a0
 on:r.1=true→Gc l r.2.1 < Gc l s0
 le:Gc l r.2.1≤Gc l s0
 cnt:r.2.2.length+Gc l r.2.1≤a0.length+Gc l s0
theorem A2i {T:Nat} {l:List Tk} (hk:Toks T l) {s0:Ps} {a0:List Cl} {r:Bool×Ps×List Cl} {j:Nat} (hj:1≤j∧j≤3) (h:Aja l s0 a0 r):Aja l s0 a0 (G4 l j r):=by
 unfold G4
 cases hc:C5 (cw j) l r.2.1 with
 | false=>exact h
 | true =>
  obtain⟨h1,h0⟩:=Kt hc
  obtain⟨g1,g2⟩:=Ahk hk (k:=(j:Int)) h.ok h1 h0
  have hle:=h.le
  refine⟨g1,Au0 hk (k:=(j:Int)) h1 h.z,?_,fun e=>(by cases e),fun _=>?_,?_,?_⟩
  ·dsimp only [cond_true];rw[← Am4 hk hj h.ok hc];exact h.same
  ·show Gc l (clF (j:Int) l r.2.1).2 < _;omega
  ·show Gc l (clF (j:Int) l r.2.1).2≤_;omega
  ·show(r.2.2++[(clF (j:Int) l r.2.1).1]).length+Gc l (clF (j:Int) l r.2.1).2≤_
   have:=h.cnt
   rw[List.length_append,List.length_singleton];omega
theorem Vr {T:Nat} {l:List Tk} (hk:Toks T l) (n:Nat) (y:List Tk×Int×Int) (hy:y.1=l) (hn:18*l.length+T+1000≤n) (k:Nat) (j:Nat) (hj:1≤j∧j≤3) (r:Bool×Ps×List Cl) (hs:Cn l r.2.1) (hz:PsZ r.2.1) (ha:r.2.2.length≤l.length+5) :
 Eh n y (k+1) r.1 (j:Int) (r.2.1.1:Int) r.2.1.2.1 r.2.1.2.2 r.2.2=Eh n y k (G4 l j r).1 ((j+1:Nat):Int) ((G4 l j r).2.1.1:Int) (G4 l j r).2.1.2.1 (G4 l j r).2.1.2.2 (G4 l j r).2.2:=by
 subst hy
 have hl:=hk.len
 obtain⟨n,rfl⟩:∃ q,n=q+6:=⟨n - 6,by omega⟩
 have hnx:=Pr (n+4) 1 (cw j) y.1 r.2.1 hl
 rw[Eh,A6 (by omega),Arj (n+5) j hj,A0,N2,hnx,A0,Vi,Bg j (by omega),G4]
 cases hc:C5 (cw j) y.1 r.2.1 with
 | false=>rfl
 | true =>
  obtain⟨h1,h0⟩:=Kt hc
  dsimp only [nxB,cond_true]
  rw[Ark hk (n+6) (j:Int) r.2.1 h1 hz (by omega),A0,A6 (by omega)]
theorem An7 {T:Nat} {l:List Tk} (hk:Toks T l) (n:Nat) (y:List Tk×Int×Int) (hy:y.1=l) (hn:18*l.length+T+1000≤n):∀ (m k:Nat) (s:Ps) (acc:List Cl),Cn l s→PsZ s→Gc l s≤m→m+1 < k→acc.length+Gc l s≤l.length+2 →
 Jb n y k true (s.1:Int) s.2.1 s.2.2 acc=some (.out (((Sw l s acc).2.1:Int),(Sw l s acc).2.2.1,(Sw l s acc).2.2.2,(Sw l s acc).1))∧Cn l (Sw l s acc).2∧PsZ (Sw l s acc).2:=by
 have hl:=hk.len
 intro m
 induction m with
 | zero=>
   intro k s acc hs hz hm hk' ha
   obtain⟨k,rfl⟩:∃ j,k=j+2:=⟨k - 2,by omega⟩
   obtain⟨n,rfl⟩:∃ q,n=q+6:=⟨n - 6,by omega⟩
   have c0:Aja l s acc (false,s,acc):=⟨hs,hz,rfl,fun _=>⟨rfl,rfl⟩,fun e=>(by cases e),Nat.le_refl _,Nat.le_refl _⟩
   have kn:∀ w,C5 w l s=false:=fun w=>A3f hm
   have w1:=Vr hk (n+6) y hy hn (n+5) 1 (by omega) (false,s,acc) hs hz (by dsimp only;omega)
   have e1:G4 l 1 (false,s,acc)=(false,s,acc):=by unfold G4;rw[kn];rfl
   have w2:=Vr hk (n+6) y hy hn (n+4) 2 (by omega) (false,s,acc) hs hz (by dsimp only;omega)
   have e2:G4 l 2 (false,s,acc)=(false,s,acc):=by unfold G4;rw[kn];rfl
   have w3:=Vr hk (n+6) y hy hn (n+3) 3 (by omega) (false,s,acc) hs hz (by dsimp only;omega)
   have e3:G4 l 3 (false,s,acc)=(false,s,acc):=by unfold G4;rw[kn];rfl
   rw[e1] at w1;rw[e2] at w2;rw[e3] at w3
   have w:Eh (n+6) y (n+6) false 1 (s.1:Int) s.2.1 s.2.2 acc=some (.out (false,(s.1:Int),s.2.1,s.2.2,acc)):=by
    refine w1.trans (w2.trans (w3.trans ?_))
    rw[Eh,Ap (by omega)]
   rw[Jb,Ab,w,A0,A05 (Y3 fun j _=>kn _)]
   exact⟨rfl,hs,hz⟩
 | succ m ih =>
  intro k s acc hs hz hm hk' ha
  obtain⟨k,rfl⟩:∃ j,k=j+2:=⟨k - 2,by omega⟩
  have c0:Aja l s acc (false,s,acc):=⟨hs,hz,rfl,fun _=>⟨rfl,rfl⟩,fun e=>(by cases e),Nat.le_refl _,Nat.le_refl _⟩
  have c1:=A2i hk (j:=1) (by omega) c0
  have c2:=A2i hk (j:=2) (by omega) c1
  have c3:=A2i hk (j:=3) (by omega) c2
  obtain⟨n,rfl⟩:∃ q,n=q+6:=⟨n - 6,by omega⟩
  have w1:=Vr hk (n+6) y hy hn (n+5) 1 (by omega) (false,s,acc) hs hz (by dsimp only;omega)
  have w2:=Vr hk (n+6) y hy hn (n+4) 2 (by omega) _ c1.ok c1.z (by have:=c1.cnt;omega)
  have w3:=Vr hk (n+6) y hy hn (n+3) 3 (by omega) _ c2.ok c2.z (by have:=c2.cnt;omega)
  generalize hR:G4 l 3 (G4 l 2 (G4 l 1 (false,s,acc)))=R at *
  have w:Eh (n+6) y (n+6) false 1 (s.1:Int) s.2.1 s.2.2 acc=some (.out (R.1,(R.2.1.1:Int),R.2.1.2.1,R.2.1.2.2,R.2.2)):=by
   refine w1.trans (w2.trans (w3.trans ?_))
   rw[Eh,Ap (by omega)]
  rw[Jb,Ab,w,A0]
  dsimp only
  cases hf:R.1 with
  | true =>
   have h1:=c3.on hf
   have:=ih (k+1) R.2.1 R.2.2 c3.ok c3.z (by omega) (by omega) (by have:=c3.cnt;omega)
   rw[c3.same] at this
   exact this
  | false =>
   obtain⟨h1,h2⟩:=c3.off hf
   have hno:∀ j,1≤j∧j≤3→C5 (cw j) l s=false:=by
    have d1:(G4 l 2 (G4 l 1 (false,s,acc))).1=false∧C5 (cw 3) l (G4 l 2 (G4 l 1 (false,s,acc))).2.1=false:=by
     rw[← hR] at hf
     generalize G4 l 2 (G4 l 1 (false,s,acc))=q at hf ⊢
     unfold G4 at hf
     cases hc:C5 (cw 3) l q.2.1 with
     | true=>rw[hc] at hf;cases hf
     | false=>rw[hc] at hf;exact⟨hf,rfl⟩
    have d2:(G4 l 1 (false,s,acc)).1=false∧C5 (cw 2) l (G4 l 1 (false,s,acc)).2.1=false:=by
     have hf:=d1.1
     generalize G4 l 1 (false,s,acc)=q at hf ⊢
     unfold G4 at hf
     cases hc:C5 (cw 2) l q.2.1 with
     | true=>rw[hc] at hf;cases hf
     | false=>rw[hc] at hf;exact⟨hf,rfl⟩
    have d3:C5 (cw 1) l s=false:=by
     have hf:=d2.1
     unfold G4 at hf
     cases hc:C5 (cw 1) l s with
     | true=>rw[show C5 (cw 1) l (false,s,acc).2.1=true from hc] at hf;cases hf
     | false=>rfl
    have k2:=d2.2
    rw[(c1.off d2.1).1] at k2
    have k3:=d1.2
    rw[(c2.off d1.1).1] at k3
    intro j hj
    have:j=1∨j=2∨j=3:=by omega
    rcases this with rfl | rfl | rfl
    ·exact d3
    ·exact k2
    ·exact k3
   rw[h1,h2,A05 (Y3 hno)]
   exact⟨rfl,hs,hz⟩
theorem Afz {s:List UInt8} (hs:s.length≤20000) {n:Nat} (hn:20*s.length+1200≤n):Fn n s=some (Iv s):=by
 obtain⟨n,rfl⟩:∃ j,n=j+6:=⟨n - 6,by omega⟩
 have hk:=A7k s (by omega)
 have hlen:=(Zi s).2
 have hl:=hk.len
 rw[Fn,Agv (n+5) s (by omega),A0,Iv]
 cases herr:(Gz s).err != 0 with
 | true =>
  rw[show((Yg (Gz s)).2.1 != 0)=true from herr,Ab,Ab];rfl
 | false =>
  rw[show((Yg (Gz s)).2.1 != 0)=false from herr,At,At]
  have hy:(Yg (Gz s)).1=Qx s:=rfl
  generalize hY:Yg (Gz s)=y at *
  rw[hy]
  generalize Qx s=l at *
  have hfin:∀ (m:Int) (v:List Va) (t:List Th) (c:List Cl) (z:Ps),Cn l z→(bif decide ((z.1:Int) < ((l.length:Nat):Int)) then(E1 (n+5) l (z.1:Int) z.2.1 z.2.2).bind fun y93=>bif y93.1 != 0 then some ((⟨0,[],[],[]⟩:Ba),y93.1,y93.2) else some ((⟨m,v,t,c⟩:Ba),0,0) else bif z.2.1 != 0 then some ((⟨0,[],[],[]⟩:Ba),z.2.1,z.2.2) else some ((⟨m,v,t,c⟩:Ba),0,0))=some (bif (N7 l z).2.1 != 0 then(noP,(N7 l z).2) else(⟨m,v,t,c⟩,0,0)):=by
   intro m v t c z hz
   unfold N7
   by_cases h:z.1 < l.length
   ·rw[A6 (show(z.1:Int) < ((l.length:Nat):Int) by omega),decide_eq_true h,Ab,Ad9 (n+3) l z hl,A0]
    cases (wr l z).2.1 != 0<;>rfl
   ·rw[Ap (show ¬ (z.1:Int) < ((l.length:Nat):Int) by omega),decide_eq_false h,At]
    cases z.2.1 != 0<;>rfl
  have m1:=Agr (n+2) 1 [109,111,100] l ((0,0,0):Ps) hl
  rw[show(((0:Nat),(0:Int),(0:Int)).1:Int)=0 from rfl] at m1
  dsimp only at m1
  rw[N2,m1,A0]
  dsimp only
  have hm0:mtB ((0:Int)==0&&isT 1 [109,111,100] l 0) l (0,0,0)=bif C5 [109,111,100] l (0,0,0) then(1,0,0) else wr l (0,0,0):=rfl
  have p1:Cn l (bif C5 [109,111,100] l (0,0,0) then((1,0,0):Ps) else wr l (0,0,0)):=by
   cases hc:C5 [109,111,100] l (0,0,0) with
   | true=>exact(Kt hc).1
   | false=>show(wr l (0,0,0)).1≤l.length;rw[A4r];exact Nat.zero_le _
  have z1:PsZ (bif C5 [109,111,100] l (0,0,0) then((1,0,0):Ps) else wr l (0,0,0)):=by
   cases hc:C5 [109,111,100] l (0,0,0) with
   | true=>exact fun _=>rfl
   | false=>exact Ai9 l (0,0,0)
  rw[hm0]
  have hst:Ge l=((nuF l (bif C5 [109,111,100] l (0,0,0) then((1,0,0):Ps) else wr l (0,0,0))).1,sgF [59] l (nuF l (bif C5 [109,111,100] l (0,0,0) then((1,0,0):Ps) else wr l (0,0,0))).2):=rfl
  unfold Mb
  rw[hst]
  generalize (bif C5 [109,111,100] l (0,0,0) then((1,0,0):Ps) else wr l (0,0,0))=S0 at *
  obtain⟨tk,e1,e2⟩:=Ak4 (n+2) l S0 hl
  rw[e1,A0]
  dsimp only
  have p2:=Aea p1
  have p3:=Nb (w:=[59]) p2
  have z3:PsZ (sgF [59] l (nuF l S0).2):=Xq (Apo z1)
  have e3:=Rj n [59] l (nuF l S0).2 hl
  rw[e3,A0,N2]
  dsimp only
  rw[e2]
  generalize (nuF l S0).1=md at *
  generalize hS1:sgF [59] l (nuF l S0).2=S1 at *
  have e4:=Pr (n+3) 1 [108,111,99] l S1 hl
  rw[e4,A0,Vi]
  obtain⟨v1,v2⟩:=At3 hk (n+5) y hy (by omega) (l.length+1) (n+5) (l.length+2) S1 [] p3 Rs (by omega) (by omega) (by simp)
  obtain⟨p4,_⟩:=A7o (l.length+2) S1 [] p3 (Nat.zero_le _)
  have z4:=v2 z3
  rw[v1,A0]
  dsimp only
  rw[N2]
  generalize hV:F8 l (l.length+2) S1 []=V at *
  have e5:=Pr (n+3) 1 [116,104,114,101,97,100] l V.2 hl
  rw[e5,A0,Vi]
  obtain⟨t1,p5,z5⟩:=Atj hk (n+5) y hy (by omega) (l.length+1) (n+5) (l.length+2) V.2 [] p4 z4 Rs (by omega) (by omega) (by simp)
  rw[t1,A0]
  dsimp only
  obtain⟨q1,q2,q3⟩:=Aqt l (l.length+2) V.2 []
  generalize hW:Mf l (l.length+2) V.2 []=W at *
  generalize hF:G3 l (l.length+2) V.2 []=F at *
  obtain⟨c1,p6,z6⟩:=An7 hk (n+5) y hy (by omega) (l.length+1) (n+5) W.2 [] p5 z5 Rs (by omega) (by have:=Rs (l:=l) (s:=W.2);simp;omega)
  rw[c1,A0]
  dsimp only
  rw[hfin _ _ _ _ _ p6]
  have hA:Is l (l.length+2) F.2 []=Sw l F.2 []:=rfl
  rw[hA,← q1]
  by_cases c:W.2.2.1=0
  ·rw[q3 c]
  ·rw[A05 (Adx c),A05 (Adx (by rw[← q2];exact c))]
   dsimp only
   have l1:(N7 l W.2).2=W.2.2:=by
    unfold N7 wr
    cases decide (W.2.1 < l.length)<;>rw[C8.2 c]<;>rfl
   have l2:(N7 l F.2).2=W.2.2:=by
    unfold N7 wr
    rw[q2] at c ⊢
    cases decide (F.2.1 < l.length)<;>rw[C8.2 c]<;>rfl
   rw[l1,l2,bne_iff_ne.2 c]
abbrev Mi:=List (List UInt8×Int)
abbrev Mm:=List (List UInt8×Mi)
theorem A2l {ν:Type}:∀ (m:List (List UInt8×ν)) (x s:List UInt8) (v z:ν),Bf (Qc m x v) s z=if s=x then v else Bf m s z
 | [],x,s,v,z=>by simp only[Qc,Bf]
 | p :: m,x,s,v,z=>by
  rw[Qc]
  by_cases h:x=p.1
  ·subst h
   rw[if_pos rfl,Bf,Bf]
   by_cases h2:s=p.1
   ·rw[if_pos h2,if_pos h2]
   ·rw[if_neg h2,if_neg h2,if_neg h2]
  ·rw[if_neg h,Bf,Bf,A2l m x s v z]
   by_cases h2:s=p.1
   ·rw[if_pos h2,if_pos h2,if_neg (by rw[h2];exact fun e=>h e.symm)]
   ·rw[if_neg h2,if_neg h2]
theorem A90 {ν:Type}:∀ (m:List (List UInt8×ν)) (x s:List UInt8) (v:ν),X5 (Qc m x v) s=(decide (s=x) || X5 m s)
 | [],x,s,v=>by simp only[Qc,X5];by_cases h:s=x<;>simp[h]
 | p :: m,x,s,v=>by
  rw[Qc]
  by_cases h:x=p.1
  ·subst h
   rw[if_pos rfl,X5,X5]
   by_cases h2:s=p.1<;>simp[h2]
  ·rw[if_neg h,X5,X5,A90 m x s v]
   by_cases h2:s=p.1
   ·simp[h2]
   ·simp[h2]
def Cnt (m:Mi) (l:List (List UInt8)) (b:Nat):Prop:=∀ s,0≤Bf m s 0∧Bf m s 0≤(b:Int)∧(0 < Bf m s 0↔s ∈ l)
theorem Cnt.nil:Cnt [] [] 0:=fun s=>⟨Int.le_refl _,Int.le_refl _,by simp[Bf]⟩
theorem Cnt.step {m:Mi} {l:List (List UInt8)} {b:Nat} (h:Cnt m l b) (hb:b < 1000000) (x:List UInt8):Cnt (Qc m x (IntKind.i64.wrap (Bf m x 0+1))) (l++[x]) (b+1):=by
 intro s
 obtain⟨h1,h2,h3⟩:=h s
 obtain⟨k1,k2,k3⟩:=h x
 rw[A2l,Dd (by omega)]
 by_cases e:s=x
 ·subst e;rw[if_pos rfl];exact⟨by omega,by omega,by constructor;·simp
                                                    ·intro _;omega⟩
 ·rw[if_neg e];refine⟨h1,by omega,?_⟩
  rw[h3];simp[e]
theorem Cnt.has {m:Mi} {l:List (List UInt8)} {b:Nat} (h:Cnt m l b) (s:List UInt8):decide (0 < Bf m s 0)=l.contains s:=by
 rw[Bool.eq_iff_iff,B3,List.contains_iff_mem];exact(h s).2.2
theorem Cnt.no {m:Mi} {l:List (List UInt8)} {b:Nat} (h:Cnt m l b) (s:List UInt8):(Bf m s 0==0)=!l.contains s:=by
 rw[← h.has s,Bool.eq_iff_iff,beq_iff_eq,Bool.not_eq_true',decide_eq_false_iff_not]
 have:=(h s).1;omega
def nmT (l:List Th):List (List UInt8):=l.map Ag.Ai
def TM (m:Mm) (l:List Th):Prop:=∀ s,X5 m s=(nmT l).contains s∧match l.find? (fun t=>t.Ai==s) with
 | some t=>∃ b,Cnt (Bf m s []) t.B5 b
 | none=>Bf m s []=[]
theorem TM.nil:TM [] []:=fun s=>⟨rfl,rfl⟩
theorem A9v {l:List Th} {s:List UInt8}:l.find? (fun t=>t.Ai==s)=none↔(nmT l).contains s=false:=by
 rw[List.find?_eq_none,← Bool.not_eq_true,List.contains_iff_mem,nmT,List.mem_map]
 constructor
 ·rintro h ⟨t,ht,e⟩;exact h t ht (by rw[e];simp)
 ·rintro h t ht e;exact h ⟨t,ht,by simpa using e⟩
theorem TM.step {m:Mm} {l:List Th} (h:TM m l) (t:Th) {r:Mi} {b:Nat} (hr:Cnt r t.B5 b):TM (if X5 m t.Ai then m else Qc m t.Ai r) (l++[t]):=by
 intro s
 obtain⟨h1,h2⟩:=h s
 have hc:(nmT (l++[t])).contains s=((nmT l).contains s || decide (s=t.Ai)):=by
  rw[Bool.eq_iff_iff,List.contains_iff_mem,Bool.or_eq_true,List.contains_iff_mem,B3];simp[nmT]
 rw[List.find?_append]
 by_cases c:X5 m t.Ai=true
 ·rw[if_pos c]
  refine⟨?_,?_⟩
  ·rw[hc,h1];by_cases e:s=t.Ai
   ·subst e;rw[← h1,c];rfl
   ·simp[e]
  ·cases hf:l.find? (fun t=>t.Ai==s) with
   | some u=>rw[hf] at h2;exact h2
   | none =>
    rw[hf] at h2
    have e:(t.Ai==s)=false:=by
     rw[beq_eq_false_iff_ne];intro e
     have:=A9v.1 hf
     rw[← h1,← e,c] at this;cases this
    simp only[List.find?_cons,e,List.find?_nil,Option.none_or]
    exact h2
 ·rw[if_neg c]
  refine⟨?_,?_⟩
  ·rw[hc,A90,h1,Bool.or_comm]
  ·rw[A2l]
   by_cases e:s=t.Ai
   ·subst e
    have hf:l.find? (fun u=>u.Ai==t.Ai)=none:=A9v.2 (by rw[← h1];simpa using c)
    rw[hf,if_pos rfl]
    simp only[List.find?_cons,beq_self_eq_true,Option.none_or]
    exact⟨b,hr⟩
   ·rw[if_neg e]
    cases hf:l.find? (fun t=>t.Ai==s) with
    | some u=>rw[hf] at h2;exact h2
    | none =>
     rw[hf] at h2
     simp only[List.find?_cons,C8.2 (Ne.symm e),List.find?_nil,Option.none_or]
     exact h2
def zN (x:Nd):Nd:=⟨x.As,x.Bs,x.Ai,x.D5,0⟩
def zS (x:St):St:=⟨x.A9,x.Eu,x.Ev,x.Ct.map zN,x.Ih.map zN,x.Fp,x.Ax,x.Co,0⟩
def zV (v:Va):Va:=⟨v.Ai,v.Bs,0⟩
def zT (t:Th):Th:=⟨t.Ai,t.B5,t.Ax.map zS,0⟩
def zC (c:Cl):Cl:=⟨c.A9,c.Ct.map zN,0⟩
def zP (p:Pg):Pg:=⟨p.Bm,p.Au.map zV,p.Ac.map zT,p.Al.map zC⟩
theorem A51 {l:List Nd} (h:Jj l=true):Jj (l.map zN)=true:=by
 simp only[Jj,A7,B3,List.all_eq_true,B6] at h ⊢
 refine⟨h.1,fun x hx=>?_⟩
 obtain⟨y,hy,rfl⟩:=List.mem_map.1 hx
 exact h.2 y hy
theorem Aqe {p:Pg} (hp:Ql p):Ql (zP p):=by
 refine⟨?_,?_,?_,fun v hv=>?_,fun t ht=>?_,fun c hc=>?_⟩
 ·rw[zP,B6];exact hp.locs
 ·rw[zP,B6];exact hp.threads
 ·rw[zP,B6];exact hp.claims
 ·obtain⟨w,hw,rfl⟩:=List.mem_map.1 hv;exact hp.loc w hw
 ·obtain⟨w,hw,rfl⟩:=List.mem_map.1 ht
  have h:=hp.thr w hw
  refine⟨h.name,h.regs,h.reg,by rw[zT,B6];exact h.body,fun x hx=>?_⟩
  obtain⟨y,hy,rfl⟩:=List.mem_map.1 hx
  obtain⟨a,b,c,d⟩:=h.st y hy
  exact⟨a,b,A51 c,A51 d⟩
 ·obtain⟨w,hw,rfl⟩:=List.mem_map.1 hc;exact A51 (hp.cl w hw)
theorem Akz:∀ (l:List Nd) (w:Nat),I5 (l.map zN) w=I5 l w
 | [],w=>rfl
 | x :: l,w=>by rw[List.map_cons,I5,I5,Akz l];rfl
theorem Abo:∀ (l:List Nd) (s:Int×List Int),Ep (l.map zN) s=Ep l s
 | [],s=>rfl
 | x :: l,(m,R)=>by rw[List.map_cons,Ep,Ep,Abo l,Abo l];rfl
theorem Amq {x:Nd} (h:Df x=true):Df (zN x)=true:=by
 simp only[Df,A7] at h ⊢
 exact⟨(show(!decide ((0:Int) < 0))=true by decide),h.2⟩
theorem Adn {l:List Nd} (h:Dx l=true):Dx (l.map zN)=true:=by
 simp only[Dx,A7,B6,Akz,Abo] at h ⊢
 refine⟨h.1,h.2.1,?_,h.2.2.2⟩
 rw[List.all_eq_true] at h ⊢
 intro x hx
 obtain⟨y,hy,rfl⟩:=List.mem_map.1 hx
 exact Amq (h.2.2.1 y hy)
theorem Abv (l:List Nd):(l.map zN).filter Fa=(l.filter Fa).map zN:=by rw[List.filter_map];rfl
theorem Atg (l:List Nd):Kn (l.map zN)=Kn l:=by
 unfold Kn;rw[Abv,List.all_map];rfl
theorem Atq (l:List Nd):clB (l.map zN)=clB l:=by
 unfold clB;rw[Abv,List.all_map];rfl
theorem Ati {f:List UInt8} {c:Int} {l:List Nd} (h:fL f c l=true):fL f c (l.map zN)=true:=by
 unfold fL at h ⊢
 split
 ·rename_i hc
  rw[if_pos hc,A7] at h
  rw[A7];exact⟨by rw[Atg];exact h.1,Adn h.2⟩
 ·rename_i hc
  rw[if_neg hc] at h
  rw[B6];exact h
theorem Asl {x:St} (h:D7 x=true):D7 (zS x)=true:=by
 simp only[D7,A7] at h ⊢
 obtain⟨h1,h2,h3,h4,h5,h6,h7,h8,h9⟩:=h
 exact⟨h1,(show(!decide ((0:Int) < 0))=true by decide),h3,h4,h5,Ati h6,Ati h7,h8,h9⟩
theorem Aso:∀ (m:Nat) (l:List St),dF m (l.map zS)=dF m l
 | 0,l=>rfl
 | m+1,[]=>rfl
 | m+1,x :: t=>by
  rw[List.map_cons,dF,dF]
  simp only[← List.map_take,← List.map_drop,Aso m,B6]
  rfl
theorem Anx {l:List St} (h:Jk l=true):Jk (l.map zS)=true:=by
 unfold Jk at h ⊢
 rw[B6,Aso]
 cases hd:dF (l.length+1) l with
 | none=>rw[hd] at h;cases h
 | some z =>
  rw[hd] at h
  simp only[A7] at h ⊢
  refine⟨h.1,h.2.1,?_⟩
  rw[List.all_eq_true] at h ⊢
  intro x hx
  obtain⟨y,hy,rfl⟩:=List.mem_map.1 hx
  exact Asl (h.2.2 y hy)
theorem Aqz {p:Pg} (h:G6 p=true):G6 (zP p)=true:=by
 simp only[G6,A7,List.all_eq_true] at h ⊢
 obtain⟨h1,h2,h3,h4⟩:=h
 refine⟨h1,fun v hv=>?_,fun t ht=>?_,fun c hc=>?_⟩
 ·obtain⟨w,hw,rfl⟩:=List.mem_map.1 hv
  have:=h2 w hw
  simp only[Kx,A7] at this ⊢
  exact⟨this.1,this.2.1,(show decide ((0:Int)≤0)=true by decide)⟩
 ·obtain⟨w,hw,rfl⟩:=List.mem_map.1 ht
  have:=h3 w hw
  simp only[Ki,A7] at this ⊢
  exact⟨this.1,(show decide ((0:Int)≤0)=true by decide),Anx this.2.2.1,this.2.2.2⟩
 ·obtain⟨w,hw,rfl⟩:=List.mem_map.1 hc
  have:=h4 w hw
  simp only[Kk,A7] at this ⊢
  exact⟨by show clB (w.Ct.map zN)=true;rw[Atq];exact this.1,this.2.1,Adn this.2.2.1,(show decide ((0:Int)≤0)=true by decide)⟩
def zNb (pl:Bool) (x:Nd):Nd:=bif pl then x else zN x
def zSb (pl:Bool) (x:St):St:=bif pl then x else zS x
def zVb (pl:Bool) (x:Va):Va:=bif pl then x else zV x
def zTb (pl:Bool) (x:Th):Th:=bif pl then x else zT x
def zCb (pl:Bool) (x:Cl):Cl:=bif pl then x else zC x
theorem Ro {α β:Type} {f:α→β} {a b:List α} (h:a.map f=b.map f):a.length=b.length:=by have:=congrArg List.length h;simpa using this
theorem A2u {α β:Type} {f:α→β} {a b:List α} (h:a.map f=b.map f) {i:Nat} (hi:i < a.length) (hj:i < b.length):f a[i]=f b[i]:=by
 have:=congrArg (fun l=>l[i]?) h
 simpa [Ar hi,Ar hj] using this
theorem Aud {pl:Bool} {x y:Nd} (h:zNb pl x=zNb pl y):x.As=y.As∧x.Bs=y.Bs∧x.Ai=y.Ai∧x.D5=y.D5∧(pl=true→x.Ao=y.Ao):=by
 cases pl with
 | true=>have h:x=y:=h;subst h;exact⟨rfl,rfl,rfl,rfl,fun _=>rfl⟩
 | false =>
  have h:zN x=zN y:=h
  unfold zN at h
  injection h with h1 h2 h3 h4
  exact⟨h1,h2,h3,h4,fun e=>by cases e⟩
theorem Atw {pl:Bool} {x y:St} (h:zSb pl x=zSb pl y):x.A9=y.A9∧x.Eu=y.Eu∧x.Ev=y.Ev∧x.Fp=y.Fp∧x.Ax=y.Ax∧x.Co=y.Co∧x.Ct.map (zNb pl)=y.Ct.map (zNb pl)∧x.Ih.map (zNb pl)=y.Ih.map (zNb pl)∧(pl=true→x.Ao=y.Ao):=by
 cases pl with
 | true=>have h:x=y:=h;subst h;exact⟨rfl,rfl,rfl,rfl,rfl,rfl,rfl,rfl,fun _=>rfl⟩
 | false =>
  have h:zS x=zS y:=h
  unfold zS at h
  injection h with h1 h2 h3 h4 h5 h6 h7 h8
  exact⟨h1,h2,h3,h6,h7,h8,h4,h5,fun e=>by cases e⟩
theorem Aty {pl:Bool} {x y:Va} (h:zVb pl x=zVb pl y):x.Ai=y.Ai∧x.Bs=y.Bs∧(pl=true→x.Ao=y.Ao):=by
 cases pl with
 | true=>have h:x=y:=h;subst h;exact⟨rfl,rfl,fun _=>rfl⟩
 | false =>
  have h:zV x=zV y:=h
  unfold zV at h
  injection h with h1 h2
  exact⟨h1,h2,fun e=>by cases e⟩
theorem Aur {pl:Bool} {x y:Th} (h:zTb pl x=zTb pl y):x.Ai=y.Ai∧x.B5=y.B5∧x.Ax.map (zSb pl)=y.Ax.map (zSb pl)∧(pl=true→x.Ao=y.Ao):=by
 cases pl with
 | true=>have h:x=y:=h;subst h;exact⟨rfl,rfl,rfl,fun _=>rfl⟩
 | false =>
  have h:zT x=zT y:=h
  unfold zT at h
  injection h with h1 h2 h3
  exact⟨h1,h2,h3,fun e=>by cases e⟩
theorem Au2 {pl:Bool} {x y:Cl} (h:zCb pl x=zCb pl y):x.A9=y.A9∧x.Ct.map (zNb pl)=y.Ct.map (zNb pl)∧(pl=true→x.Ao=y.Ao):=by
 cases pl with
 | true=>have h:x=y:=h;subst h;exact⟨rfl,rfl,fun _=>rfl⟩
 | false =>
  have h:zC x=zC y:=h
  unfold zC at h
  injection h with h1 h2
  exact⟨h1,h2,fun e=>by cases e⟩
theorem Rg {τ:Type} (N:Nat) (hN:N < 1000000) (L:Nat→Nat→Option τ) (o:Option τ) (h0:∀ k,L (k+1) N=o) (h1:∀ k i,i < N→L (k+1) i=L k (i+1)):∀ (m i k:Nat),i+m=N→m < k→L k i=o:=by
 intro m
 induction m with
 | zero =>
  intro i k h hk
  obtain⟨k,rfl⟩:∃ j,k=j+1:=⟨k - 1,by omega⟩
  obtain rfl:i=N:=by omega
  exact h0 k
 | succ m ih =>
  intro i k h hk
  obtain⟨k,rfl⟩:∃ j,k=j+1:=⟨k - 1,by omega⟩
  rw[h1 k i (by omega)]
  exact ih (i+1) k (by omega) (by omega)
theorem A8m (n:Nat) (pl:Bool) (a b:List Nd) (h:a.map (zNb pl)=b.map (zNb pl)) (hl:a.length < 1000000) (hn:a.length+2 < n):Ip n a b pl=some true:=by
 obtain⟨n,rfl⟩:∃ j,n=j+1:=⟨n - 1,by omega⟩
 have hab:=Ro h
 have:=Rg a.length hl (fun k i=>Gt n a b k pl (i:Int)) (some (.out ())) (fun k=>by rw[Gt,Ap (by omega)]) (fun k i hi=>?_) a.length 0 n (by omega) (by omega)
 ·have this:Gt n a b n pl 0=some (.out ()):=this
  rw[Ip,hab,bne_self_eq_false,At,this];rfl
 ·obtain⟨f1,f2,f3,f4,f5⟩:=Aud (A2u h hi (by omega))
  rw[Gt,A6 (by omega)]
  simp only[Cv hi,Cv (show i < b.length by omega),A0,f1,f2,f3,f4,bne_self_eq_false,At,beq_self_eq_true,Ab,Bg i (show i < 4611686018427387904 by omega)]
  cases pl with
  | false=>rfl
  | true=>rw[f5 rfl,bne_self_eq_false];rfl
theorem Aqq (n:Nat) (pl:Bool) (a b:List St) (h:a.map (zSb pl)=b.map (zSb pl)) (hl:a.length≤4000) (hx:∀ x ∈ a,x.Ct.length≤4000∧x.Ih.length≤4000) (hn:4100 < n):P0 n a b pl=some true:=by
 obtain⟨n,rfl⟩:∃ j,n=j+1:=⟨n - 1,by omega⟩
 have hab:=Ro h
 have:=Rg a.length (by omega) (fun k i=>Gw n a b k pl (i:Int)) (some (.out ())) (fun k=>by rw[Gw,Ap (by omega)]) (fun k i hi=>?_) a.length 0 n (by omega) (by omega)
 ·have this:Gw n a b n pl 0=some (.out ()):=this
  rw[P0,hab,bne_self_eq_false,At,this];rfl
 ·have hj:i < b.length:=by omega
  obtain⟨f1,f2,f3,f4,f5,f6,f7,f8,f9⟩:=Atw (A2u h hi hj)
  have h2:=hx a[i] (List.getElem_mem hi)
  rw[Gw,A6 (by omega)]
  have g1:=A8m n pl _ _ f7 (by omega) (by omega)
  have g2:=A8m n pl _ _ f8 (by omega) (by omega)
  simp only[Cv hi,Cv hj,A0,f1,f2,f3,f4,f5,f6,bne_self_eq_false,At,beq_self_eq_true,Ab,Bg i (show i < 4611686018427387904 by omega)]
  cases pl with
  | false=>rw[At,g1,A0,Ab,g2];rfl
  | true=>rw[f9 rfl,bne_self_eq_false,Ab,At,g1,A0,Ab,g2];rfl
structure Abs (p:Pg):Prop where
 locs:p.Au.length≤4000
 threads:p.Ac.length≤4000
 claims:p.Al.length≤4000
 thr:∀ t ∈ p.Ac,t.B5.length≤4000∧t.Ax.length≤4000∧∀ x ∈ t.Ax,x.Ct.length≤4000∧x.Ih.length≤4000
 cl:∀ c ∈ p.Al,c.Ct.length≤4000
theorem Au8 (n:Nat) (x y:Th) (h:x.B5=y.B5) (hl:x.B5.length≤4000) (hn:4100 < n):I3 n x y n 0=some (.out ()):=by
 refine Rg x.B5.length (by omega) (fun k i=>I3 n x y k (i:Int)) (some (.out ())) (fun k=>by rw[I3,Ap (by omega)]) (fun k i hi=>?_) x.B5.length 0 n (by omega) (by omega)
 rw[I3,A6 (by omega),← h,Cv hi,A0,A0,beq_self_eq_true,Ab,Bg i (by omega)]
theorem Aue (n:Nat) (x y:Th) (h:x.B5=y.B5) (hl:x.B5.length≤4000) (hn:4100 < n):I1 n x y n 0=some (.out ()):=by
 refine Rg x.B5.length (by omega) (fun k i=>I1 n x y k (i:Int)) (some (.out ())) (fun k=>by rw[I1,Ap (by omega)]) (fun k i hi=>?_) x.B5.length 0 n (by omega) (by omega)
 rw[I1,A6 (by omega),← h,Cv hi,A0,A0,beq_self_eq_true,Ab,Bg i (by omega)]
structure Apg (pl:Bool) (p q:Pg):Prop where
 md:p.Bm=q.Bm
 locs:p.Au.map (zVb pl)=q.Au.map (zVb pl)
 threads:p.Ac.map (zTb pl)=q.Ac.map (zTb pl)
 claims:p.Al.map (zCb pl)=q.Al.map (zCb pl)
theorem Amh (pl:Bool) (p:Pg):Apg pl p p:=⟨rfl,rfl,rfl,rfl⟩
theorem Aqh (n:Nat) (pl:Bool) (a b:Pg) (h:Apg pl a b) (hs:Abs a) (hn:4200 < n):Pp n a b pl=some true:=by
 obtain⟨n,rfl⟩:∃ j,n=j+1:=⟨n - 1,by omega⟩
 have s1:=hs.locs
 have s2:=hs.threads
 have s3:=hs.claims
 have l1:=Ro h.locs
 have l2:=Ro h.threads
 have l3:=Ro h.claims
 have L0:Gu n a b n pl 0=some (.out pl):=by
  refine Rg a.Au.length (by omega) (fun k i=>Gu n a b k pl (i:Int)) (some (.out pl)) (fun k=>by rw[Gu,Ap (by omega)]) (fun k i hi=>?_) a.Au.length 0 n (by omega) (by omega)
  have hj:i < b.Au.length:=by omega
  obtain⟨f1,f2,f3⟩:=Aty (A2u h.locs hi hj)
  rw[Gu,A6 (by omega)]
  simp only[Cv hi,Cv hj,A0,f1,f2,bne_self_eq_false,At,beq_self_eq_true,Ab,Bg i (show i < 4611686018427387904 by omega)]
  cases pl with
  | false=>rfl
  | true=>rw[f3 rfl,bne_self_eq_false];rfl
 have L1:Gy n a b n pl 0=some (.out pl):=by
  refine Rg a.Ac.length (by omega) (fun k i=>Gy n a b k pl (i:Int)) (some (.out pl)) (fun k=>by rw[Gy,Ap (by omega)]) (fun k i hi=>?_) a.Ac.length 0 n (by omega) (by omega)
  have hj:i < b.Ac.length:=by omega
  obtain⟨f1,f2,f3,f4⟩:=Aur (A2u h.threads hi hj)
  obtain⟨t1,t2,t3⟩:=hs.thr _ (List.getElem_mem hi)
  have g:=Aqq n pl _ _ f3 t2 t3 (by omega)
  rw[Gy,A6 (by omega)]
  simp only[Cv hi,Cv hj,A0,f1,bne_self_eq_false,At,beq_self_eq_true,Ab,Bg i (show i < 4611686018427387904 by omega)]
  rw[show(((a.Ac[i].B5.length:Nat):Int) != ((b.Ac[i].B5.length:Nat):Int))=false by rw[f2,bne_self_eq_false],At,g,A0,Ab]
  cases pl with
  | false=>rw[At,Aue n _ _ f2 t1 (by omega)];rfl
  | true=>rw[Ab,f4 rfl,bne_self_eq_false,At,Au8 n _ _ f2 t1 (by omega)];rfl
 have L4:Gx n a b n pl 0=some (.out ()):=by
  refine Rg a.Al.length (by omega) (fun k i=>Gx n a b k pl (i:Int)) (some (.out ())) (fun k=>by rw[Gx,Ap (by omega)]) (fun k i hi=>?_) a.Al.length 0 n (by omega) (by omega)
  have hj:i < b.Al.length:=by omega
  obtain⟨f1,f2,f3⟩:=Au2 (A2u h.claims hi hj)
  have t1:=hs.cl _ (List.getElem_mem hi)
  have g:=A8m n pl _ _ f2 (by omega) (by omega)
  rw[Gx,A6 (by omega)]
  simp only[Cv hi,Cv hj,A0,f1,bne_self_eq_false,At,beq_self_eq_true,Ab,Bg i (show i < 4611686018427387904 by omega)]
  rw[g,A0,Ab]
  cases pl with
  | false=>rfl
  | true=>rw[f3 rfl,bne_self_eq_false];rfl
 rw[Pp,h.md,l1,l2,l3,bne_self_eq_false,bne_self_eq_false,bne_self_eq_false,bne_self_eq_false]
 simp only[At]
 rw[L0,A0]
 dsimp only
 rw[L1,A0]
 dsimp only
 rw[L4];rfl
theorem Rb {s:List UInt8} (h:C9 s=true):s.length≤16:=by
 simp only[C9,A7,B3] at h;exact h.1.1.2
theorem Ap1 {x:Nd} (h:Df x=true):x.Ai.length≤100∧x.D5.length≤100:=by
 simp only[Df,A7] at h
 have h:=h.2
 split at h
 ·simp only[A7,beq_iff_eq] at h;rw[h.2.1,h.2.2];simp
 ·split at h
  ·simp only[A7,beq_iff_eq] at h;have:=Rb h.2.1;rw[h.2.2];exact⟨by omega,by simp⟩
  ·split at h
   ·simp only[A7,beq_iff_eq] at h;have:=Rb h.2.1;have:=Rb h.2.2;exact⟨by omega,by omega⟩
   ·simp only[A7,beq_iff_eq] at h;rw[h.2.1,h.2.2];simp
theorem A5n {l:List Nd} (h:Dx l=true):Jj l=true:=by
 simp only[Dx,A7,B3,List.all_eq_true] at h
 simp only[Jj,A7,B3,List.all_eq_true]
 exact⟨by omega,fun x hx=>Ap1 (h.2.2.1 x hx)⟩
theorem Ac8 {f:List UInt8} {c:Int} {l:List Nd} (h:fL f c l=true):Jj l=true:=by
 unfold fL at h
 split at h
 ·rw[A7] at h;exact A5n h.2
 ·have:l=[]:=List.length_eq_zero_iff.1 (by rw[beq_iff_eq] at h;omega)
  subst this;rfl
theorem Al8 {f:List UInt8} {c:Int} {s:List UInt8} (h:fN f c s=true):s.length≤100:=by
 unfold fN at h
 split at h
 ·have:=Rb h;omega
 ·rw[beq_iff_eq] at h;rw[h];simp
theorem Ahq {x:St} (h:D7 x=true):LightX x:=by
 simp only[D7,A7] at h
 exact⟨Al8 h.2.2.2.1,Al8 h.2.2.2.2.1,Ac8 h.2.2.2.2.2.1,Ac8 h.2.2.2.2.2.2.1⟩
theorem A3s {p:Pg} (h:G6 p=true) (h1:p.Au.length≤4000) (h2:p.Ac.length≤4000) (h3:p.Al.length≤4000) (h4:∀ t ∈ p.Ac,t.B5.length≤4000):Ql p:=by
 simp only[G6,A7,List.all_eq_true] at h
 obtain⟨_,hv,ht,hc⟩:=h
 refine⟨h1,h2,h3,fun v hm=>?_,fun t hm=>?_,fun c hm=>?_⟩
 ·have:=hv v hm
  simp only[Kx,A7] at this
  have:=Rb this.1;omega
 ·have:=ht t hm
  simp only[Ki,A7,List.all_eq_true] at this
  have hn:=Rb this.1
  obtain⟨F,_,_,_,f4,f5⟩:=Ux this.2.2.1
  exact⟨by omega,h4 t hm,fun r hr=>by have:=Rb (this.2.2.2 r hr);omega,by omega,fun x hx=>Ahq (f5 x hx)⟩
 ·have:=hc c hm
  simp only[Kk,A7] at this
  exact A5n this.2.2.1
def W2 (B:Nat) (a:Int):Prop:=0≤a∧a≤B
structure Aho (B:Nat) (t:Th):Prop where
 at':W2 B t.Ao
 st:∀ x ∈ t.Ax,Ac0 B x
structure At6 (B:Nat) (p:Pg):Prop where
 loc:∀ v ∈ p.Au,W2 B v.Ao
 thr:∀ t ∈ p.Ac,Aho B t
 cl:∀ c ∈ p.Al,W2 B c.Ao∧∀ x ∈ c.Ct,Pe B x
theorem Uf {w:List UInt8} {l:List Tk} {s:Ps} (h:(sgF w l s).2.1=0):s.2.1=0:=Decidable.byContradiction fun c=>A77 c h
theorem A76 {l:List Tk} {s:Ps} (h:(nmF l s).2.2.1=0):s.2.1=0∧isN l s.1=true∧(nmF l s).1=txt l s.1:=by
 rcases Ac9 (l:=l) (s:=s) with ⟨_,h1,h0,h2,_⟩ | ⟨h1,_⟩
 ·exact⟨h0,h1,h2⟩
 ·exact absurd h h1
theorem Akx {l:List Tk} {s:Ps} (h:(nuF l s).2.2.1=0):s.2.1=0∧isK l s.1=true∧(nuF l s).1=Y5 l s.1:=by
 rcases Ae1 (l:=l) (s:=s) with ⟨_,h1,h0,h2,_⟩ | ⟨h1,_⟩
 ·exact⟨h0,h1,h2⟩
 ·exact absurd h h1
theorem Agd {T:Nat} {l:List Tk} (hk:Toks T l) (i:Nat):A0n (Y5 l i)=true:=by
 unfold Y5
 cases h:l[i]? with
 | none=>decide
 | some t=>have:=hk.ok t (List.mem_of_getElem? h);exact decide_eq_true ⟨this.2.1,this.2.2⟩
theorem Yq {B T:Nat} {l:List Tk} (hl:TokB B T l) (i:Nat):W2 B (atA l i):=by
 unfold atA
 cases h:l[i]? with
 | none=>exact⟨(show(0:Int)≤0 by decide),(show(0:Int)≤B by omega)⟩
 | some t=>exact hl.tk h
theorem Ab6 {B:Nat} {a:Int} (h:W2 B a):decide (0≤a)=true:=decide_eq_true h.1
theorem Aog {B T:Nat} {l:List Tk} (hl:TokB B T l) {s:Ps} (h:(Pj l s).2.2.1=0):Kx (Pj l s).1=true∧W2 B (Pj l s).1.Ao:=by
 unfold Pj at h ⊢
 dsimp only at h ⊢
 obtain⟨a1,_,a3⟩:=Akx (Uf h)
 obtain⟨_,b2,b3⟩:=A76 (Uf a1)
 refine⟨?_,Yq hl _⟩
 simp only[Kx,A7]
 exact⟨by rw[b3];exact Vs b2,by rw[a3];exact Agd hl.toks _,Ab6 (Yq hl _)⟩
theorem A1y {B T:Nat} {l:List Tk} (hl:TokB B T l):∀ (K:Nat) (s:Ps) (acc:List Va),(s.2.1=0→∀ v ∈ acc,Kx v=true∧W2 B v.Ao)→(F8 l K s acc).2.2.1=0→s.2.1=0∧∀ v ∈ (F8 l K s acc).1,Kx v=true∧W2 B v.Ao
 | 0,s,acc,h,h0=>⟨h0,h h0⟩
 | K+1,s,acc,h,h0=>by
  rw[F8] at h0 ⊢
  cases hc:C5 [108,111,99] l s with
  | false=>rw[hc] at h0;exact⟨h0,h h0⟩
  | true =>
   rw[hc,Ab] at h0
   rw[Ab]
   have hs:=(Kt hc).2
   refine⟨hs,(A1y hl K _ _ (fun e v hv=>?_) h0).2⟩
   rcases List.mem_append.1 hv with hv | hv
   ·exact h hs v hv
   ·rw[List.mem_singleton.1 hv];exact Aog hl e
theorem A99 {l:List Tk}:∀ (K:Nat) (s:Ps) (acc:List (List UInt8)),(s.2.1=0→∀ v ∈ acc,C9 v=true)→(Ej l K s acc).2.2.1=0→s.2.1=0∧∀ v ∈ (Ej l K s acc).1,C9 v=true
 | 0,s,acc,h,h0=>⟨h0,h h0⟩
 | K+1,s,acc,h,h0=>by
  rw[Ej] at h0 ⊢
  cases hc:s.2.1==0&&Bk l s.1 [44] with
  | false=>rw[hc] at h0;exact⟨h0,h h0⟩
  | true =>
   rw[hc,Ab] at h0
   rw[Ab]
   rw[A7,beq_iff_eq] at hc
   refine⟨hc.1,(A99 K _ _ (fun e v hv=>?_) h0).2⟩
   rcases List.mem_append.1 hv with hv | hv
   ·exact h hc.1 v hv
   ·obtain⟨_,b2,b3⟩:=A76 e
    rw[List.mem_singleton.1 hv,b3];exact Vs b2
theorem Ac2 {l:List Tk}:∀ (K:Nat) (s:Ps) (acc:List (List UInt8)),acc.length≤s.1→(Ej l K s acc).1.length≤(Ej l K s acc).2.1
 | 0,s,acc,h=>h
 | K+1,s,acc,h=>by
  rw[Ej]
  cases hc:s.2.1==0&&Bk l s.1 [44] with
  | false=>exact h
  | true =>
   have b1:=Rh (l:=l) (s:=(s.1+1,s.2))
   dsimp only at b1
   exact Ac2 K _ _ (by rw[List.length_append];simp;omega)
theorem Aju {T:Nat} {l:List Tk} (hk:Toks T l) {s:Ps} (h:(H7 l s).2.2.1=0):s.2.1=0∧∀ v ∈ (H7 l s).1,C9 v=true:=by
 unfold H7 at h ⊢
 cases hc:C5 [114,101,103] l s with
 | false=>rw[hc] at h;exact⟨h,fun v hv=>(by cases hv)⟩
 | true =>
  rw[hc,Ab] at h
  refine⟨(Kt hc).2,(A99 _ _ _ (fun e v hv=>?_) (Uf h)).2⟩
  obtain⟨_,b2,b3⟩:=A76 e
  rw[List.mem_singleton.1 hv,b3];exact Vs b2
theorem Alt {T:Nat} {l:List Tk} (hk:Toks T l) {s:Ps}:(H7 l s).1.length≤l.length+1:=by
 unfold H7
 cases hc:C5 [114,101,103] l s with
 | false=>simp
 | true =>
  obtain⟨h1,h2⟩:=Kt hc
  have a1:Cn l (nmF l (s.1+1,s.2)).2:=Qt h1
  have b1:=Rh (l:=l) (s:=(s.1+1,s.2))
  dsimp only at b1
  obtain⟨r2,_⟩:=A8h (l.length+2) (nmF l (s.1+1,s.2)).2 [(nmF l (s.1+1,s.2)).1] a1
  have:=Ac2 (l:=l) (l.length+2) (nmF l (s.1+1,s.2)).2 [(nmF l (s.1+1,s.2)).1] (by simp;omega)
  unfold Cn at r2
  show(Ej l (l.length+2) (nmF l (s.1+1,s.2)).2 [(nmF l (s.1+1,s.2)).1]).1.length≤l.length+1
  omega
theorem Akd {B T:Nat} {l:List Tk} (hl:TokB B T l) {s:Ps} (hs:Cn l s) (h:(Lp l s).2.2.1=0):s.2.1=0∧Jk (Lp l s).1=true∧∀ x ∈ (Lp l s).1,Ac0 B x:=by
 unfold Lp at h ⊢
 cases hc:s.2.1==0 with
 | false =>
  rw[hc,At] at h
  rw[beq_eq_false_iff_ne] at hc
  exact absurd (Uf h) hc
 | true =>
  rw[hc,Ab] at h
  rw[beq_iff_eq] at hc
  rw[Ab]
  refine⟨hc,?_,(Ak0 hl hs).1⟩
  rcases A4j hl.toks hs with ⟨g,_⟩ | ⟨_,_,_,_,g,_⟩
  ·exact absurd (Uf h) (A31 g)
  ·exact g
theorem Amo {B T:Nat} {l:List Tk} (hl:TokB B T l) {s:Ps} (h1:s.1 < l.length) (h:(Nr l s).2.2.1=0):Ki (Nr l s).1=true∧Aho B (Nr l s).1:=by
 have a1:Cn l (nmF l (s.1+1,s.2)).2:=Qt h1
 have a2:=Nb (w:=[123]) a1
 obtain⟨a3,_⟩:=A3k hl.toks a2
 unfold Nr at h ⊢
 dsimp only at h ⊢
 obtain⟨b1,b2,b3⟩:=Akd hl a3 h
 obtain⟨c1,c2⟩:=Aju hl.toks b1
 obtain⟨_,d2,d3⟩:=A76 (Uf c1)
 refine⟨?_,⟨Yq hl _,b3⟩⟩
 simp only[Ki,A7,List.all_eq_true]
 exact⟨by rw[d3];exact Vs d2,Ab6 (Yq hl _),b2,c2⟩
theorem A1z {B T:Nat} {l:List Tk} (hl:TokB B T l):∀ (K:Nat) (s:Ps) (acc:List Th),(s.2.1=0→∀ v ∈ acc,Ki v=true∧Aho B v)→(∀ v ∈ acc,v.B5.length≤l.length+1)→(G3 l K s acc).2.2.1=0→s.2.1=0∧(∀ v ∈ (G3 l K s acc).1,Ki v=true∧Aho B v)∧∀ v ∈ (G3 l K s acc).1,v.B5.length≤l.length+1
 | 0,s,acc,h,hr,h0=>⟨h0,h h0,hr⟩
 | K+1,s,acc,h,hr,h0=>by
  rw[G3] at h0 ⊢
  cases hc:C5 [116,104,114,101,97,100] l s with
  | false=>rw[hc] at h0;exact⟨h0,h h0,hr⟩
  | true =>
   rw[hc,Ab] at h0
   rw[Ab]
   obtain⟨h1,hs⟩:=Kt hc
   refine⟨hs,(A1z hl K _ _ (fun e v hv=>?_) (fun v hv=>?_) h0).2⟩
   ·rcases List.mem_append.1 hv with hv | hv
    ·exact h hs v hv
    ·rw[List.mem_singleton.1 hv];exact Amo hl h1 e
   ·rcases List.mem_append.1 hv with hv | hv
    ·exact hr v hv
    ·rw[List.mem_singleton.1 hv];exact Alt hl.toks
theorem A6f (x:Nd):Dy (J2 x).As=Dy x.As:=by
 unfold J2;split
 ·rename_i h;rw[h];show Dy 3=Dy 2;decide
 ·rfl
theorem Amf:∀ (l:List Nd) (w:Nat),I5 (l.map J2) w=I5 l w
 | [],w=>rfl
 | x :: l,w=>by rw[List.map_cons,I5,I5,Amf l,A6f]
theorem Aci:∀ (l:List Nd) (s:Int×List Int),Ep (l.map J2) s=Ep l s
 | [],s=>rfl
 | x :: l,(m,R)=>by rw[List.map_cons,Ep,Ep,Aci l,Aci l,A6f]
theorem Ank {x:Nd} (h:Df x=true):Df (J2 x)=true:=by
 unfold J2
 by_cases c:x.As=2
 ·rw[if_pos c]
  simp only[Df,c] at h ⊢
  exact h
 ·rw[if_neg c];exact h
theorem Anw {l:List Nd} (h:Dx l=true):Dx (l.map J2)=true:=by
 simp only[Dx,A7,B6,Amf,Aci] at h ⊢
 refine⟨h.1,h.2.1,?_,h.2.2.2⟩
 rw[List.all_eq_true] at h ⊢
 intro x hx
 obtain⟨y,hy,rfl⟩:=List.mem_map.1 hx
 exact Ank (h.2.2.1 y hy)
theorem Auj (l:List Nd):clB (l.map J2)=true:=by
 unfold clB
 rw[List.all_eq_true]
 intro x hx
 obtain⟨hx,_⟩:=List.mem_filter.1 hx
 obtain⟨y,_,rfl⟩:=List.mem_map.1 hx
 unfold J2
 split
 ·rfl
 ·rename_i c;rw[C8.2 c];rfl
theorem Aq8 {B T:Nat} {l:List Tk} (hl:TokB B T l) {k:Int} (hk:1≤k∧k≤3) {s:Ps} (h1:s.1 < l.length) (h:(clF k l s).2.2.1=0):Kk (clF k l s).1=true∧W2 B (clF k l s).1.Ao∧∀ x ∈ (clF k l s).1.Ct,Pe B x:=by
 unfold clF at h ⊢
 dsimp only at h ⊢
 refine⟨?_,Yq hl _,fun x hx=>?_⟩
 ·simp only[Kk,A7]
  refine⟨Auj _,decide_eq_true hk,?_,Ab6 (Yq hl _)⟩
  rcases A0m hl.toks (show s.1+1≤l.length from h1) with ⟨g,_⟩ | ⟨_,_,_,_,_,g⟩
  ·exact absurd (Uf h) (A31 g)
  ·exact Anw g
 ·obtain⟨y,hy,rfl⟩:=List.mem_map.1 hx
  have:=(Ajq hl (show s.1+1≤l.length from h1)).1 y hy
  unfold J2;split<;>exact this
theorem A4b {B T:Nat} {l:List Tk} (hl:TokB B T l):∀ (K:Nat) (s:Ps) (acc:List Cl),(s.2.1=0→∀ v ∈ acc,Kk v=true∧W2 B v.Ao∧∀ x ∈ v.Ct,Pe B x)→(Is l K s acc).2.2.1=0→s.2.1=0∧∀ v ∈ (Is l K s acc).1,Kk v=true∧W2 B v.Ao∧∀ x ∈ v.Ct,Pe B x
 | 0,s,acc,h,h0=>⟨h0,h h0⟩
 | K+1,s,acc,h,h0=>by
  rw[Is] at h0 ⊢
  by_cases hc:0 < Hv l s
  ·rw[A6 hc] at h0 ⊢
   obtain⟨h1,hs,hk⟩:=A36 hc
   refine⟨hs,(A4b hl K _ _ (fun e v hv=>?_) h0).2⟩
   rcases List.mem_append.1 hv with hv | hv
   ·exact h hs v hv
   ·rw[List.mem_singleton.1 hv];exact Aq8 hl (by omega) h1 e
  ·rw[Ap hc] at h0 ⊢
   exact⟨h0,h h0⟩
theorem Add {l:List Tk} {s:Ps} (h:(N7 l s).2.1=0):s.2.1=0:=by
 unfold N7 at h
 cases hc:decide (s.1 < l.length) with
 | true=>rw[hc] at h;exact absurd h (Adr l s)
 | false=>rw[hc] at h;exact h
theorem A6z {T:Nat} {l:List Tk} (hk:Toks T l) (h:(Ge l).2.2.1=0):A0n (Ge l).1=true:=by
 unfold Ge at h ⊢
 dsimp only at h ⊢
 obtain⟨_,_,a3⟩:=Akx (Uf h)
 rw[a3];exact Agd hk _
theorem Alp {B T:Nat} {l:List Tk} (hl:TokB B T l) (hlen:l.length≤3500):(Mb l).2.1≠0∧(Mb l).1=noP∨(Mb l).2=(0,0)∧G6 (Mb l).1=true∧Ql (Mb l).1∧At6 B (Mb l).1:=by
 have hk:=hl.toks
 have p0:=Aoa l
 obtain⟨p1,q1⟩:=A7o (l.length+2) (Ge l).2 [] p0 (Nat.zero_le _)
 obtain⟨p2,q2⟩:=Adm hk (l.length+2) _ [] p1
 obtain⟨p3,q3⟩:=Ago hk (l.length+2) _ [] p2
 have b2:=Rs (l:=l) (s:=(F8 l (l.length+2) (Ge l).2 []).2)
 have b3:=Rs (l:=l) (s:=(G3 l (l.length+2) (F8 l (l.length+2) (Ge l).2 []).2 []).2)
 rw[List.length_nil] at q2 q3
 unfold Cn at p1
 unfold Mb
 dsimp only
 cases he:(N7 l (Is l (l.length+2) (G3 l (l.length+2) (F8 l (l.length+2) (Ge l).2 []).2 []).2 []).2).2.1 != 0 with
 | true=>rw[bne_iff_ne] at he;exact .inl ⟨he,rfl⟩
 | false =>
  rw[At]
  rw[bne_eq_false_iff_eq] at he
  obtain⟨c1,c2⟩:=A4b hl _ _ [] (fun _ v hv=>(by cases hv)) (Add he)
  obtain⟨t1,t2,t3⟩:=A1z hl _ _ [] (fun _ v hv=>(by cases hv)) (fun v hv=>(by cases hv)) c1
  obtain⟨v1,v2⟩:=A1y hl _ _ [] (fun _ v hv=>(by cases hv)) t1
  have hr:G6 (⟨(Ge l).1,(F8 l (l.length+2) (Ge l).2 []).1,(G3 l (l.length+2) (F8 l (l.length+2) (Ge l).2 []).2 []).1,(Is l (l.length+2) (G3 l (l.length+2) (F8 l (l.length+2) (Ge l).2 []).2 []).2 []).1⟩:Pg)=true:=by
   simp only[G6,A7,List.all_eq_true]
   exact⟨A6z hk v1,fun v hv=>(v2 v hv).1,fun v hv=>(t2 v hv).1,fun v hv=>(c2 v hv).1⟩
  exact .inr ⟨rfl,hr,A3s hr (by dsimp only;omega) (by dsimp only;omega) (by dsimp only;omega) (fun t ht=>by have:=t3 t ht;omega),⟨fun v hv=>(v2 v hv).2,fun v hv=>(t2 v hv).2,fun v hv=>(c2 v hv).2⟩⟩
theorem A84 (s:List UInt8) (hs:s.length≤90000):TokB s.length s.length (Qx s):=⟨A7k s hs,by omega,(Zi s).1⟩
theorem Aex {s:List UInt8} (hs:s.length≤3400):(Iv s).2.1≠0∧(Iv s).1=noP∨(Iv s).2=(0,0)∧G6 (Iv s).1=true∧Ql (Iv s).1∧At6 s.length (Iv s).1:=by
 have h2:=(Zi s).2
 unfold Iv
 cases herr:(Gz s).err != 0 with
 | true=>rw[bne_iff_ne] at herr;exact .inl ⟨herr,rfl⟩
 | false=>exact Alp (A84 s (by omega)) (by omega)
def Uk (v:Va):List UInt8:=[108,111,99]++(32 :: (v.Ai++(32 :: ([61]++(32 :: (En v.Bs++([59]++[10])))))))
def Wk (v:Va):List Ck:=[(1,[108,111,99],0),(1,v.Ai,0),(3,[61],0),(2,En v.Bs,v.Bs),(3,[59],0)]
def Xj:List (List UInt8)→List UInt8
 | []=>[59]++[10]
 | r :: rs=>[44]++(32 :: (r++Xj rs))
def Tu:List (List UInt8)→List Ck
 | []=>[(3,[59],0)]
 | r :: rs=>(3,[44],0) :: (1,r,0) :: Tu rs
def V6:List (List UInt8)→List UInt8
 | []=>[]
 | r :: rs=>32 :: 32 :: ([114,101,103]++(32 :: (r++Xj rs)))
def Vg:List (List UInt8)→List Ck
 | []=>[]
 | r :: rs=>(1,[114,101,103],0) :: (1,r,0) :: Tu rs
open Classical in
noncomputable def trS (l:List St):SF:=if h:∃ F:SF,F.wf∧F.flat=l then h.choose else .nil
theorem A5a {l:List St} (h:Jk l=true):(trS l).wf∧(trS l).flat=l∧(trS l).dep≤30∧∀ x ∈ (trS l).flat,D7 x=true:=by
 obtain⟨F,f1,f2,f3,_,f5⟩:=Ux h
 have hx:∃ F:SF,F.wf∧F.flat=l:=⟨F,f1,f2⟩
 have e:trS l=hx.choose:=by unfold trS;rw[dif_pos hx]
 obtain⟨g1,g2⟩:=hx.choose_spec
 rw[← e] at g1 g2
 refine⟨g1,g2,?_,by rw[g2];exact f5⟩
 have a:=Vo F (l.length+1) f1 (by rw[f2];omega)
 have b:=Vo (trS l) (l.length+1) g1 (by rw[g2];omega)
 rw[f2] at a
 rw[g2,a] at b
 have:=Option.some.inj b
 omega
noncomputable def Un (t:Th):List UInt8:=[116,104,114,101,97,100]++(32 :: (t.Ai++(32 :: ([123]++([10]++(V6 t.B5++(Ii (trS t.Ax) 1++([125]++[10]))))))))
noncomputable def Qf (t:Th):List Ck:=(1,[116,104,114,101,97,100],0) :: (1,t.Ai,0) :: (3,[123],0) :: (Vg t.B5++(Eb (trS t.Ax)++[(3,[125],0)]))
def cwF (k:Int):List UInt8:=cwS.getD k.toNat []
def clT (c:Cl):List UInt8:=cwF c.A9++(32 :: (I0 c.Ct++([59]++[10])))
noncomputable def P9 (c:Cl):List Ck:=(1,cwF c.A9,0) :: (Ye c.Ct++[(3,[59],0)])
noncomputable def So (p:Pg):List UInt8:=[109,111,100]++(32 :: (En p.Bm++([59]++([10]++(p.Au.flatMap Uk++(p.Ac.flatMap Un++p.Al.flatMap clT))))))
noncomputable def Aha (p:Pg):List Ck:=(1,[109,111,100],0) :: (2,En p.Bm,p.Bm) :: (3,[59],0) :: (p.Au.flatMap Wk++(p.Ac.flatMap Qf++p.Al.flatMap P9))
theorem Wa {c:UInt8} (h:Hj c.toNat=false) (t:List UInt8):Wy (c :: t):=.inr ⟨c,t,rfl,h⟩
theorem A5p:Seg (fun _=>True) [10] []:=A75 (by decide)
theorem A8a:Seg (fun _=>True) ([59]++[10]) [(3,[59],0)]:=Bc A4a A5p (fun _ _=>trivial)
theorem A6p {w:List UInt8} (h:∃ c t,w=c :: t∧Dq c.toNat=true∧(∀ d ∈ c :: t,Hj d.toNat=true)∧(c :: t).length≤16) {s:List UInt8} {ts:List Ck} (hs:Seg (fun _=>True) s ts):Seg (fun _=>True) (w++(32 :: s)) ((1,w,0) :: ts):=Bc (A50 h) (Fz hs) (fun r _=>Wa (by decide) _)
theorem A28 {n:Int} (h:A0n n=true):0≤n∧n≤9999:=of_decide_eq_true h
theorem Aqu {v:Va} (h:Kx v=true):Seg (fun _=>True) (Uk v) (Wk v):=by
 simp only[Kx,A7] at h
 have a:Seg (fun _=>True) (En v.Bs++([59]++[10])) ((2,En v.Bs,v.Bs) :: [(3,[59],0)]):=Bc (A85 (A28 h.2.1)) A8a (fun r _=>Wa (by decide) _)
 have b:Seg (fun _=>True) ([61]++(32 :: (En v.Bs++([59]++[10])))) ((3,[61],0) :: ((2,En v.Bs,v.Bs) :: [(3,[59],0)])):=Bc Al6 (Fz a) (fun r _=>⟨_,rfl⟩)
 have c:Seg (fun _=>True) (v.Ai++(32 :: ([61]++(32 :: (En v.Bs++([59]++[10])))))) ((1,v.Ai,0) :: ((3,[61],0) :: ((2,En v.Bs,v.Bs) :: [(3,[59],0)]))):=Bc (Nu h.1) (Fz b) (fun r _=>Wa (by decide) _)
 exact A6p ⟨108,[111,99],rfl,by decide,by decide,by decide⟩ c
theorem Abu (rs:List (List UInt8)) (r:List UInt8):Wy (Xj rs++r):=by
 cases rs with
 | nil=>exact Wa (by decide) _
 | cons a rs=>exact Wa (by decide) _
theorem Ady:∀ rs:List (List UInt8),(∀ r ∈ rs,C9 r=true)→Seg (fun _=>True) (Xj rs) (Tu rs)
 | [],_=>A8a
 | r :: rs,h=>by
  have a:Seg (fun _=>True) (r++Xj rs) ((1,r,0) :: Tu rs):=Bc (Nu (h r (List.mem_cons_self ..))) (Ady rs fun q hq=>h q (List.mem_cons_of_mem _ hq)) (fun q _=>Abu rs q)
  exact Bc A8v (Fz a) (fun _ _=>trivial)
theorem Ant:∀ rs:List (List UInt8),(∀ r ∈ rs,C9 r=true)→Seg (fun _=>True) (V6 rs) (Vg rs)
 | [],_=>Vn
 | r :: rs,h=>by
  have a:Seg (fun _=>True) (r++Xj rs) ((1,r,0) :: Tu rs):=Bc (Nu (h r (List.mem_cons_self ..))) (Ady rs fun q hq=>h q (List.mem_cons_of_mem _ hq)) (fun q _=>Abu rs q)
  exact Fz (Fz (A6p ⟨114,[101,103],rfl,by decide,by decide,by decide⟩ a))
theorem Arz {t:Th} (h:Ki t=true):Seg (fun _=>True) (Un t) (Qf t):=by
 simp only[Ki,A7,List.all_eq_true] at h
 obtain⟨_,g2,_,g4⟩:=A5a h.2.2.1
 have a:Seg (fun _=>True) (Ii (trS t.Ax) 1++([125]++[10])) (Eb (trS t.Ax)++[(3,[125],0)]):=Bc (Xr (trS t.Ax) 1 g4) (Bc A7h A5p (fun _ _=>trivial)) (fun _ _=>trivial)
 have b:=Bc (Ant t.B5 h.2.2.2) a (fun _ _=>trivial)
 have b2:Seg (fun _=>True) ([10]++(V6 t.B5++(Ii (trS t.Ax) 1++([125]++[10])))) (Vg t.B5++(Eb (trS t.Ax)++[(3,[125],0)])):=by have:=Bc A5p b (fun _ _=>trivial);exact this
 have c:Seg (fun _=>True) ([123]++([10]++(V6 t.B5++(Ii (trS t.Ax) 1++([125]++[10]))))) ((3,[123],0) :: (Vg t.B5++(Eb (trS t.Ax)++[(3,[125],0)]))):=Bc Ag4 b2 (fun _ _=>trivial)
 have d:Seg (fun _=>True) (t.Ai++(32 :: ([123]++([10]++(V6 t.B5++(Ii (trS t.Ax) 1++([125]++[10]))))))) ((1,t.Ai,0) :: ((3,[123],0) :: (Vg t.B5++(Eb (trS t.Ax)++[(3,[125],0)])))):=Bc (Nu h.1) (Fz c) (fun r _=>Wa (by decide) _)
 exact A6p ⟨116,[104,114,101,97,100],rfl,by decide,by decide,by decide⟩ d
theorem Aus {k:Int} (h:1≤k∧k≤3):∃ c t,cwF k=c :: t∧Dq c.toNat=true∧(∀ d ∈ c :: t,Hj d.toNat=true)∧(c :: t).length≤16:=by
 have:k=1∨k=2∨k=3:=by omega
 rcases this with rfl | rfl | rfl<;>exact⟨_,_,rfl,by decide,by decide,by decide⟩
theorem Asr {c:Cl} (h:Kk c=true):Seg (fun _=>True) (clT c) (P9 c):=by
 simp only[Kk,A7,B3] at h
 have a:Seg (fun _=>True) (I0 c.Ct++([59]++[10])) (Ye c.Ct++[(3,[59],0)]):=Bc (A4k h.2.2.1) A8a (fun r _=>.inr ⟨_,.inr (.inr (.inr (.inl rfl)))⟩)
 exact A6p (Aus h.2.1) a
theorem A34 {α:Type} {f:α→List UInt8} {g:α→List Ck}:∀ l:List α,(∀ x ∈ l,Seg (fun _=>True) (f x) (g x))→Seg (fun _=>True) (l.flatMap f) (l.flatMap g)
 | [],_=>Vn
 | x :: l,h=>by
  rw[List.flatMap_cons,List.flatMap_cons]
  exact Bc (h x (List.mem_cons_self ..)) (A34 l fun y hy=>h y (List.mem_cons_of_mem _ hy)) (fun _ _=>trivial)
theorem Amy {p:Pg} (h:G6 p=true):Seg (fun _=>True) (So p) (Aha p):=by
 simp only[G6,A7,List.all_eq_true] at h
 obtain⟨h1,h2,h3,h4⟩:=h
 have a:=Bc (A34 p.Au (f:=Uk) (g:=Wk) fun x hx=>Aqu (h2 x hx)) (Bc (A34 p.Ac (f:=Un) (g:=Qf) fun x hx=>Arz (h3 x hx)) (A34 p.Al (f:=clT) (g:=P9) fun x hx=>Asr (h4 x hx)) (fun _ _=>trivial)) (fun _ _=>trivial)
 have a2:Seg (fun _=>True) ([10]++(p.Au.flatMap Uk++(p.Ac.flatMap Un++p.Al.flatMap clT))) (p.Au.flatMap Wk++(p.Ac.flatMap Qf++p.Al.flatMap P9)):=by have:=Bc A5p a (fun _ _=>trivial);exact this
 have b:=Bc A4a a2 (fun _ _=>trivial)
 have c:=Bc (A85 (A28 h1)) b (fun r _=>Wa (by decide) _)
 exact A6p ⟨109,[111,100],rfl,by decide,by decide,by decide⟩ c
def Pw {α:Type} (R:α→α→Prop):List α→List α→Prop
 | [],[]=>True
 | a :: l,b :: m=>R a b∧Pw R l m
 | _,_=>False
theorem Pw.app {α:Type} {R:α→α→Prop}:∀ {a b c d:List α},Pw R a b→Pw R c d→Pw R (a++c) (b++d)
 | [],[],_,_,_,h=>h
 | _ :: a,_ :: b,_,_,h,h'=>⟨h.1,Pw.app h.2 h'⟩
 | [],_ :: _,_,_,h,_=>h.elim
 | _ :: _,[],_,_,h,_=>h.elim
def Aij (a b:Th):Prop:=b.Ai=a.Ai∧b.B5=a.B5∧All2 a.Ax b.Ax
def Ah9 (a b:Cl):Prop:=b.A9=a.A9∧b.Ct.map zN=a.Ct.map zN
structure Aig (p q:Pg):Prop where
 md:q.Bm=p.Bm
 loc:q.Au.map zV=p.Au.map zV
 thr:Pw Aij p.Ac q.Ac
 cl:Pw Ah9 p.Al q.Al
def A4z (w:List UInt8) (cs:List Ck):Prop:=∀ c r,cs=c :: r→¬ (c.1=1∧c.2.1=w)
theorem Rq {l:List Tk} {i:Nat} {k v:Int} {w:List UInt8} {cs:List Ck} (h:Cu l i ((k,w,v) :: cs)) (w':List UInt8):C5 w' l (i,0,0)=(k==1&&w==w'):=by
 obtain⟨t,h1,h2,_⟩:=E2 h
 injection h2 with e1 e2;injection e2 with e2 e3
 simp only[C5,A22,h1,e1,e2,beq_self_eq_true,Bool.true_and]
theorem A6n {l:List Tk} {i:Nat} {cs:List Ck} (h:Cu l i cs) {w:List UInt8} (hn:A4z w cs):C5 w l (i,0,0)=false:=by
 cases cs with
 | nil=>simp only[C5,A22,Wp h,Bool.and_false]
 | cons c r =>
  obtain⟨k,w',v⟩:=c
  rw[Rq h w]
  have:=hn _ _ rfl
  dsimp only at this
  by_cases h1:k=1
  ·by_cases h2:w'=w
   ·exact absurd ⟨h1,h2⟩ this
   ·rw[C8.2 h2,Bool.and_false]
  ·rw[C8.2 h1,Bool.false_and]
theorem T5 {l:List Tk} {i:Nat} {v:Int} {w:List UInt8} {cs:List Ck} (h:Cu l i ((3,w,v) :: cs)):sgF w l (i,0,0)=(i+1,0,0):=by
 unfold sgF
 rw[show Bk l ((i,0,0):Ps).1 w=true by rw[Gi h];simp];rfl
theorem A35 {l:List Tk} {i:Nat} {v:Int} {w:List UInt8} {cs:List Ck} (h:Cu l i ((1,w,v) :: cs)) (hw:C9 w=true):nmF l (i,0,0)=(w,(i+1,0,0)):=by
 obtain⟨h1,h2⟩:=A4l h hw
 unfold nmF
 dsimp only
 rw[h1,h2];rfl
theorem Agg {l:List Tk} {i:Nat} {v:Int} {w:List UInt8} {cs:List Ck} (h:Cu l i ((2,w,v) :: cs)):nuF l (i,0,0)=(v,(i+1,0,0)):=by
 obtain⟨t,h1,h2,_⟩:=E2 h
 injection h2 with e1 e2;injection e2 with e2 e3
 have:isK l i=true:=by simp[isK,h1,e1]
 have hn:Y5 l i=v:=by simp[Y5,h1,e3]
 unfold nuF
 dsimp only
 rw[this,hn];rfl
theorem Gq {l:List Tk} {i:Nat} {c:Ck} {cs:List Ck} (h:Cu l i (c :: cs)):Cu l (i+1) cs:=by obtain⟨_,_,_,h1⟩:=E2 h;exact h1
theorem Ans {l:List Tk} {i:Nat} {v:Va} {cs:List Ck} (h:Cu l i (Wk v++cs)) (hv:Kx v=true):Pj l (i,0,0)=(⟨v.Ai,v.Bs,atA l i⟩,(i+5,0,0))∧C5 [108,111,99] l (i,0,0)=true:=by
 simp only[Kx,A7] at hv
 simp only[Wk,List.cons_append,List.nil_append] at h
 have h1:=Gq h
 have h2:=Gq h1
 have h3:=Gq h2
 have h4:=Gq h3
 have e1:=A35 h1 hv.1
 have e2:=T5 h2
 have e3:=Agg h3
 have e4:=T5 h4
 refine⟨?_,by rw[Rq h];rfl⟩
 unfold Pj
 dsimp only
 rw[e1]
 dsimp only
 rw[e2,e3]
 dsimp only
 rw[e4]
theorem A9n {l:List Tk} {rest:List Ck} (hn:A4z [108,111,99] rest):∀ (vs:List Va) (K i:Nat) (acc:List Va),vs.length < K→(∀ v ∈ vs,Kx v=true)→Cu l i (vs.flatMap Wk++rest)→∃ ws,ws.map zV=vs.map zV∧F8 l K (i,0,0) acc=(acc++ws,(i+(vs.flatMap Wk).length,0,0))
 | [],K,i,acc,hK,_,h=>by
  obtain⟨K,rfl⟩:∃ j,K=j+1:=⟨K - 1,by simp at hK;omega⟩
  have h:Cu l i rest:=h
  exact⟨[],rfl,by rw[F8,A6n h hn];simp⟩
 | v :: vs,K,i,acc,hK,hv,h=>by
  obtain⟨K,rfl⟩:∃ j,K=j+1:=⟨K - 1,by simp at hK;omega⟩
  rw[List.flatMap_cons,List.append_assoc] at h
  obtain⟨e1,e2⟩:=Ans h (hv v (List.mem_cons_self ..))
  obtain⟨ws,w1,w2⟩:=A9n hn vs K (i+5) (acc++[⟨v.Ai,v.Bs,atA l i⟩]) (by simp at hK;omega) (fun u hu=>hv u (List.mem_cons_of_mem _ hu)) (E0 h)
  refine⟨⟨v.Ai,v.Bs,atA l i⟩ :: ws,by rw[List.map_cons,List.map_cons,w1];rfl,?_⟩
  rw[F8,e2,Ab,e1]
  dsimp only
  rw[w2,List.append_assoc,List.flatMap_cons,List.length_append,show(Wk v).length=5 from rfl,← Nat.add_assoc];rfl
theorem A9t {l:List Tk} {rest:List Ck}:∀ (rs:List (List UInt8)) (K i:Nat) (acc:List (List UInt8)),rs.length < K→(∀ r ∈ rs,C9 r=true)→Cu l i (Tu rs++rest)→Ej l K (i,0,0) acc=(acc++rs,(i+2*rs.length,0,0))∧Cu l (i+2*rs.length) ((3,[59],0) :: rest)
 | [],K,i,acc,hK,_,h=>by
  obtain⟨K,rfl⟩:∃ j,K=j+1:=⟨K - 1,by simp at hK;omega⟩
  have h:Cu l i ((3,[59],0) :: rest):=h
  refine⟨?_,h⟩
  rw[Ej]
  dsimp only
  rw[Gi h,show(([59]:List UInt8)==[44])=false from rfl,Bool.and_false];simp
 | r :: rs,K,i,acc,hK,hr,h=>by
  obtain⟨K,rfl⟩:∃ j,K=j+1:=⟨K - 1,by simp at hK;omega⟩
  have h:Cu l i ((3,[44],0) :: (1,r,0) :: (Tu rs++rest)):=h
  have h1:=Gq h
  have e1:=A35 h1 (hr r (List.mem_cons_self ..))
  obtain⟨w1,w2⟩:=A9t rs K (i+1+1) (acc++[r]) (by simp at hK;omega) (fun u hu=>hr u (List.mem_cons_of_mem _ hu)) (Gq h1)
  have e:i+1+1+2*rs.length=i+2*(r :: rs).length:=by simp;omega
  rw[e] at w1 w2
  refine⟨?_,w2⟩
  rw[Ej]
  dsimp only
  rw[Gi h,show(([44]:List UInt8)==[44])=true from rfl,e1]
  dsimp only
  rw[w1,List.append_assoc];rfl
theorem A1w:∀ rs:List (List UInt8),(Tu rs).length=2*rs.length+1
 | []=>rfl
 | r :: rs=>by simp[Tu,A1w rs];omega
theorem Ak6 {l:List Tk} {i:Nat} {rs:List (List UInt8)} {rest:List Ck} (hi:i≤l.length) (hr:∀ r ∈ rs,C9 r=true) (h:Cu l i (Vg rs++rest)) (hn:A4z [114,101,103] rest):H7 l (i,0,0)=(rs,(i+(Vg rs).length,0,0)):=by
 have hlen:=N1 h hi
 cases rs with
 | nil =>
  have h:Cu l i rest:=h
  unfold H7
  rw[A6n h hn];rfl
 | cons r rs =>
  have h:Cu l i ((1,[114,101,103],0) :: (1,r,0) :: (Tu rs++rest)):=h
  have h1:=Gq h
  have e1:=A35 h1 (hr r (List.mem_cons_self ..))
  simp only[Vg,List.length_cons,A1w] at hlen
  obtain⟨w1,w2⟩:=A9t rs (l.length+2) (i+1+1) [r] (by omega) (fun u hu=>hr u (List.mem_cons_of_mem _ hu)) (Gq h1)
  unfold H7
  rw[Rq h,show((1:Int)==1&&([114,101,103]:List UInt8)==[114,101,103])=true from rfl,Ab]
  dsimp only
  rw[e1]
  dsimp only
  rw[w1]
  dsimp only
  rw[T5 w2]
  simp only[Vg,List.length_cons,A1w,List.singleton_append]
  congr 2;omega
theorem Asd {T:Nat} {l:List Tk} (hk:Toks T l) {i:Nat} (hi:i≤l.length) {r:SR} (hr:SE l false 0 i r):seQ l i=U7 l i r:=by
 obtain⟨r',hr',e⟩:=A58 hk hi
 have h1:=A7u hk hr' hi (n:=18*l.length+T+960) (by omega)
 have h2:=A7u hk hr hi (n:=18*l.length+T+960) (by omega)
 rw[h1] at h2
 rw[e];exact Option.some.inj h2
theorem As7 {T:Nat} {l:List Tk} (hk:Toks T l) {i:Nat} (hi:i≤l.length) {r:PR} (hr:PE l (.fl 0) 0 i r):peQ l i=Np l i r:=by
 obtain⟨r',hr',e⟩:=A55 hk hi
 have h1:=Uu hk.len hk.ok hk.txt hk.small hr' hi (n:=12*l.length+T+200) (by omega)
 have h2:=Uu hk.len hk.ok hk.txt hk.small hr hi (n:=12*l.length+T+200) (by omega)
 rw[h1] at h2
 rw[e];exact Option.some.inj h2
theorem Ajg {T:Nat} {l:List Tk} (hk:Toks T l) {i:Nat} {b:List St} {rest:List Ck} (hi:i≤l.length) (hb:Jk b=true) (h:Cu l i (Eb (trS b)++(3,[125],0) :: rest)):∃ y,Lp l (i,0,0)=(y,(i+(Eb (trS b)).length+1,0,0))∧All2 b y:=by
 obtain⟨f1,f2,f3,f4⟩:=A5a hb
 obtain⟨y,y1,y2⟩:=Td hk (trS b) i 0 _ f1 f4 hi h (by omega) (.inr ⟨0,rest,rfl⟩)
 rw[f2] at y2
 have hl:=Ak7 hb
 have e:=Asd hk hi y1
 rw[U7,if_neg (by have:=y2.len;omega)] at e
 refine⟨y,?_,y2⟩
 unfold Lp
 dsimp only
 rw[e]
 have:=T5 (E0 h)
 dsimp only [faF]
 rw[Int.toNat_natCast]
 show(y,sgF [125] l (i+(Eb (trS b)).length,0,0))=_
 rw[this]
theorem Aip:∀ (F:SF) (rest:List Ck),(∀ x ∈ F.flat,D7 x=true)→A4z [114,101,103] (Eb F++(3,[125],0) :: rest)
 | .nil,rest,_=>by
  intro c r e
  have e:(3,[125],0) :: rest=c :: r:=e
  obtain⟨rfl,_⟩:=List.cons.inj e
  exact fun h=>absurd h.1 (by decide)
 | .cons x a b r',rest,h=>by
  intro c r e
  have hx:=(A5l (h x (by simp[SF.flat]))).1
  rw[Eb,To,List.cons_append,List.cons_append] at e
  obtain⟨rfl,_⟩:=List.cons.inj e
  rintro ⟨_,h2⟩
  have c:x.A9=1∨x.A9=2∨x.A9=3∨x.A9=4∨x.A9=5∨x.A9=6∨x.A9=7∨x.A9=8∨x.A9=9∨x.A9=10∨x.A9=11∨x.A9=12∨x.A9=13:=by omega
  dsimp only at h2
  rcases c with c | c | c | c | c | c | c | c | c | c | c | c | c<;>rw[c] at h2<;>exact absurd h2 (by decide)
theorem Aoh {T:Nat} {l:List Tk} (hk:Toks T l) {i:Nat} {t:Th} {rest:List Ck} (hi:i≤l.length) (ht:Ki t=true) (h:Cu l i (Qf t++rest)):C5 [116,104,114,101,97,100] l (i,0,0)=true∧∃ u,Nr l (i,0,0)=(u,(i+(Qf t).length,0,0))∧Aij t u:=by
 simp only[Ki,A7,List.all_eq_true] at ht
 obtain⟨_,f2,_,f4⟩:=A5a ht.2.2.1
 have hlen:=N1 h hi
 simp only[Qf,List.cons_append,List.append_assoc,List.nil_append] at h
 have h1:=Gq h
 have h2:=Gq h1
 have h3:=Gq h2
 simp only[Qf,List.length_cons,List.length_append,List.length_nil] at hlen
 have e1:=A35 h1 ht.1
 have e2:=T5 h2
 have e3:=Ak6 (by omega) ht.2.2.2 h3 (Aip _ rest f4)
 obtain⟨y,y1,y2⟩:=Ajg hk (by omega) ht.2.2.1 (E0 h3)
 refine⟨by rw[Rq h];rfl,⟨t.Ai,t.B5,y,atA l i⟩,?_,rfl,rfl,y2⟩
 unfold Nr
 dsimp only
 rw[e1]
 dsimp only
 rw[e2,e3]
 dsimp only
 rw[y1]
 simp only[Qf,List.length_cons,List.length_append,List.length_nil]
 congr 2;omega
theorem A9g {T:Nat} {l:List Tk} (hk:Toks T l) {rest:List Ck} (hn:A4z [116,104,114,101,97,100] rest):∀ (ts:List Th) (K i:Nat) (acc:List Th),i≤l.length→ts.length < K→(∀ v ∈ ts,Ki v=true)→Cu l i (ts.flatMap Qf++rest)→∃ us,Pw Aij ts us∧G3 l K (i,0,0) acc=(acc++us,(i+(ts.flatMap Qf).length,0,0))
 | [],K,i,acc,hi,hK,_,h=>by
  obtain⟨K,rfl⟩:∃ j,K=j+1:=⟨K - 1,by simp at hK;omega⟩
  have h:Cu l i rest:=h
  exact⟨[],trivial,by rw[G3,A6n h hn];simp⟩
 | v :: vs,K,i,acc,hi,hK,hv,h=>by
  obtain⟨K,rfl⟩:∃ j,K=j+1:=⟨K - 1,by simp at hK;omega⟩
  rw[List.flatMap_cons,List.append_assoc] at h
  obtain⟨e2,u,e1,e3⟩:=Aoh hk hi (hv v (List.mem_cons_self ..)) h
  obtain⟨ws,w1,w2⟩:=A9g hk hn vs K (i+(Qf v).length) (acc++[u]) (N1 h hi) (by simp at hK;omega) (fun u hu=>hv u (List.mem_cons_of_mem _ hu)) (E0 h)
  refine⟨u :: ws,⟨e3,w1⟩,?_⟩
  rw[G3,e2,Ab,e1]
  dsimp only
  rw[w2,List.append_assoc,List.flatMap_cons,List.length_append,← Nat.add_assoc];rfl
theorem Aoe {x z:Nd} (hx:x.As≠2) (hz:z.As≠3) (h:E6 z=E6 x):zN (J2 z)=zN x:=by
 unfold E6 at h
 injection h with h1 h2 h3 h4
 unfold J2 zN
 by_cases c:x.As=3
 ·rw[if_pos c,if_neg hz] at h1
  rw[if_pos h1]
  dsimp only
  rw[c,h2,h3,h4]
 ·rw[if_neg c,if_neg hz] at h1
  rw[if_neg (by omega)]
  rw[h1,h2,h3,h4]
theorem A9u:∀ {x z:List Nd},(∀ a ∈ x,a.As≠2)→(∀ a ∈ z,a.As≠3)→z.map E6=x.map E6→(z.map J2).map zN=x.map zN
 | [],[],_,_,_=>rfl
 | [],_ :: _,_,_,h=>by cases h
 | _ :: _,[],_,_,h=>by cases h
 | a :: x,b :: z,hx,hz,h=>by
  rw[List.map_cons,List.map_cons] at h
  obtain⟨h1,h2⟩:=List.cons.inj h
  rw[List.map_cons,List.map_cons,List.map_cons,Aoe (hx a (List.mem_cons_self ..)) (hz b (List.mem_cons_self ..)) h1,A9u (fun c hc=>hx c (List.mem_cons_of_mem _ hc)) (fun c hc=>hz c (List.mem_cons_of_mem _ hc)) h2]
theorem Aoj {T:Nat} {l:List Tk} (hk:Toks T l) {i:Nat} {x:List Nd} {rest:List Ck} (hi:i≤l.length) (h:Dx x=true) (hf:Cu l i (Ye x++rest)) (hs:O0 rest):∃ y,peQ l i=(y,((i+(Ye x).length:Nat):Int),0,0)∧y.map E6=x.map E6∧∀ z ∈ y,z.As≠3:=by
 obtain⟨h1,h2,h3,h4,h5,_⟩:=Abr h
 obtain⟨y,y1,y2⟩:=(Agb (trE x) h1 (by rw[h2];exact h5)).2 i 0 rest hf (by omega) hs
 rw[h2] at y2
 have hg:=Z4 hk.ok y1
 dsimp only at hg
 have hlen:y.length=x.length:=by simpa using congrArg List.length y2
 have hd:(Ep x (0,[])).1≤30:=by
  simp only[Dx,A7,B3] at h;exact h.2.2.2
 have e:=As7 hk hi y1
 rw[Np,if_neg (by rw[Aek y2];omega),if_neg (by omega)] at e
 exact⟨y,e,y2,fun z hz=>(hg.2 z hz).2⟩
theorem Asv {c:Cl} (h:Kk c=true):∀ x ∈ c.Ct,x.As≠2:=by
 intro x hx e
 simp only[Kk,A7,clB,List.all_eq_true] at h
 have:=h.1 x (List.mem_filter.2 ⟨hx,by simp[Fa,e]⟩)
 rw[e] at this;revert this;decide
theorem Ak3 {l:List Tk} {i:Nat} {k v:Int} {cs:List Ck} (hk:1≤k∧k≤3) (h:Cu l i ((1,cwF k,v) :: cs)):Hv l (i,0,0)=k:=by
 unfold Hv
 rw[Rq h,Rq h,Rq h]
 have:k=1∨k=2∨k=3:=by omega
 rcases this with rfl | rfl | rfl<;>rfl
theorem Aqv {T:Nat} {l:List Tk} (hk:Toks T l) {i:Nat} {c:Cl} {rest:List Ck} (hi:i≤l.length) (hc:Kk c=true) (h:Cu l i (P9 c++rest)):Hv l (i,0,0)=c.A9∧∃ d,clF c.A9 l (i,0,0)=(d,(i+(P9 c).length,0,0))∧Ah9 c d:=by
 have h2:=Asv hc
 simp only[Kk,A7,B3] at hc
 have hlen:=N1 h hi
 simp only[P9,List.cons_append,List.append_assoc,List.nil_append] at h
 simp only[P9,List.length_cons,List.length_append,List.length_nil] at hlen
 have h1:=Gq h
 obtain⟨y,y1,y2,y3⟩:=Aoj hk (by omega) hc.2.2.1 h1 (A8t _ _)
 have e:=T5 (E0 h1)
 refine⟨Ak3 hc.2.1 h,⟨c.A9,y.map J2,atA l i⟩,?_,rfl,A9u h2 y3 y2⟩
 unfold clF
 dsimp only
 rw[y1]
 show((⟨c.A9,y.map J2,atA l i⟩:Cl),sgF [59] l (((i+1+(Ye c.Ct).length:Nat):Int).toNat,0,0))=_
 rw[Int.toNat_natCast,e]
 simp only[P9,List.length_cons,List.length_append,List.length_nil]
 congr 2;omega
theorem Adg {T:Nat} {l:List Tk} (hk:Toks T l):∀ (cs:List Cl) (K i:Nat) (acc:List Cl),i≤l.length→cs.length < K→(∀ v ∈ cs,Kk v=true)→Cu l i (cs.flatMap P9)→∃ ds,Pw Ah9 cs ds∧Is l K (i,0,0) acc=(acc++ds,(i+(cs.flatMap P9).length,0,0))
 | [],K,i,acc,hi,hK,_,h=>by
  obtain⟨K,rfl⟩:∃ j,K=j+1:=⟨K - 1,by simp at hK;omega⟩
  have h:Cu l i []:=h
  have no:∀ w,C5 w l (i,0,0)=false:=fun w=>A6n h (fun c r e=>by cases e)
  exact⟨[],trivial,by rw[Is];unfold Hv;rw[no,no,no];simp⟩
 | v :: vs,K,i,acc,hi,hK,hv,h=>by
  obtain⟨K,rfl⟩:∃ j,K=j+1:=⟨K - 1,by simp at hK;omega⟩
  rw[List.flatMap_cons] at h
  have hc:=hv v (List.mem_cons_self ..)
  obtain⟨e2,u,e1,e3⟩:=Aqv hk hi hc h
  obtain⟨ws,w1,w2⟩:=Adg hk vs K (i+(P9 v).length) (acc++[u]) (N1 h hi) (by simp at hK;omega) (fun u hu=>hv u (List.mem_cons_of_mem _ hu)) (E0 h)
  refine⟨u :: ws,⟨e3,w1⟩,?_⟩
  simp only[Kk,A7,B3] at hc
  rw[Is,e2,decide_eq_true (show 0 < v.A9 by omega),Ab,e1]
  dsimp only
  rw[w2,List.append_assoc,List.flatMap_cons,List.length_append,← Nat.add_assoc];rfl
theorem Ama {w:List UInt8} (hw:w≠[102,111,114,97,108,108]∧w≠[101,120,105,115,116,115]∧w≠[97,108,119,97,121,115]):∀ cs:List Cl,(∀ v ∈ cs,Kk v=true)→A4z w (cs.flatMap P9)
 | [],_=>fun c r e=>by cases e
 | v :: vs,h=>by
  intro c r e
  have hc:=h v (List.mem_cons_self ..)
  simp only[Kk,A7,B3] at hc
  rw[List.flatMap_cons,P9,List.cons_append] at e
  obtain⟨rfl,_⟩:=List.cons.inj e
  rintro ⟨_,h2⟩
  dsimp only at h2
  have:v.A9=1∨v.A9=2∨v.A9=3:=by omega
  rcases this with k | k | k<;>rw[k] at h2
  ·exact hw.1 h2.symm
  ·exact hw.2.1 h2.symm
  ·exact hw.2.2 h2.symm
theorem Ar9 {cs:List Cl} (hc:∀ v ∈ cs,Kk v=true):∀ ts:List Th,A4z [108,111,99] (ts.flatMap Qf++cs.flatMap P9)
 | []=>Ama ⟨by decide,by decide,by decide⟩ cs hc
 | t :: ts=>by
  intro c r e
  rw[List.flatMap_cons,Qf,List.cons_append,List.cons_append] at e
  obtain⟨rfl,_⟩:=List.cons.inj e
  rintro ⟨_,h2⟩
  exact absurd h2 (by decide)
theorem A33 {α:Type} {f:α→List Ck} (hf:∀ x,1≤(f x).length):∀ l:List α,l.length≤(l.flatMap f).length
 | []=>Nat.le_refl _
 | x :: l=>by
  have:=hf x
  have:=A33 hf l
  rw[List.flatMap_cons,List.length_append,List.length_cons];omega
theorem Aka {T:Nat} {l:List Tk} (hk:Toks T l) {p:Pg} (hp:G6 p=true) (h:Cu l 0 (Aha p)) (hlen:l.length=(Aha p).length):∃ q,Mb l=(q,0,0)∧Aig p q:=by
 simp only[G6,A7,List.all_eq_true] at hp
 obtain⟨p1,p2,p3,p4⟩:=hp
 unfold Aha at h hlen
 simp only[List.length_cons,List.length_append] at hlen
 have g1:=A33 (f:=Wk) (fun x=>by simp[Wk]) p.Au
 have g2:=A33 (f:=Qf) (fun x=>by simp[Qf]) p.Ac
 have g3:=A33 (f:=P9) (fun x=>by simp[P9]) p.Al
 have h1:=Gq h
 have h2:=Gq h1
 have h3:=Gq h2
 have h4:=E0 h3
 have h5:=E0 h4
 have e0:Ge l=(p.Bm,(3,0,0)):=by
  unfold Ge
  rw[Rq h,show((1:Int)==1&&([109,111,100]:List UInt8)==[109,111,100])=true from rfl,Ab,Agg h1]
  dsimp only
  rw[T5 h2]
 obtain⟨vs,v1,v2⟩:=A9n (Ar9 p4 p.Ac) p.Au (l.length+2) 3 [] (by omega) p2 h3
 obtain⟨ts,t1,t2⟩:=A9g hk (Ama ⟨by decide,by decide,by decide⟩ p.Al p4) p.Ac (l.length+2) _ [] (by omega) (by omega) p3 h4
 obtain⟨cs,c1,c2⟩:=Adg hk p.Al (l.length+2) _ [] (by omega) (by omega) p4 h5
 rw[List.nil_append] at v2 t2 c2
 refine⟨⟨p.Bm,vs,ts,cs⟩,?_,rfl,v1,t1,c1⟩
 unfold Mb
 rw[e0]
 dsimp only
 rw[show(0+1+1+1:Nat)=3 from rfl] at *
 rw[v2]
 dsimp only
 rw[t2]
 dsimp only
 rw[c2]
 dsimp only
 unfold N7
 rw[decide_eq_false (by dsimp only;omega)];rfl
theorem An6 {s:List UInt8} {ts:List Ck} (h:Seg (fun _=>True) s ts) (hl:s.length≤20000):(Gz s).err=0:=by
 obtain⟨toks,h1,h2⟩:=h [] 0 [] trivial
 have:=h2 (s.length+1) 1 (by simp) (by simp)
 rw[List.append_nil] at this
 have e:Gz s=⟨toks,0,0⟩:=by rw[Gz,if_neg (by omega),this];simp[Dh,D2]
 rw[e]
theorem Aid {p:Pg} (hp:G6 p=true) (hl:(So p).length≤20000):∃ q,Iv (So p)=(q,0,0)∧Aig p q:=by
 have hs:=Amy hp
 obtain⟨h1,h2⟩:=An3 hs hl
 obtain⟨q,q1,q2⟩:=Aka (A7k (So p) (by omega)) hp h1 h2
 exact⟨q,by unfold Iv;rw[An6 hs hl];exact q1,q2⟩
theorem Ag2 {x y:List Nd} (h:SameX x y):x.map zN=y.map zN:=by
 obtain⟨h1,h2,h3⟩:=h
 have key:∀ {x y:List Nd},(∀ z ∈ x,z.As≠3)→(∀ z ∈ y,z.As≠3)→x.map E6=y.map E6→x.map zN=y.map zN:=by
  intro x
  induction x with
  | nil=>intro y _ _ h;cases y with
    | nil=>rfl
    | cons b y=>cases h
  | cons a x ih =>
   intro y hx hy h
   cases y with
   | nil=>cases h
   | cons b y =>
    rw[List.map_cons,List.map_cons] at h
    obtain⟨e1,e2⟩:=List.cons.inj h
    rw[List.map_cons,List.map_cons,ih (fun z hz=>hx z (List.mem_cons_of_mem _ hz)) (fun z hz=>hy z (List.mem_cons_of_mem _ hz)) e2]
    have ha:=hx a (List.mem_cons_self ..)
    have hb:=hy b (List.mem_cons_self ..)
    unfold E6 at e1
    rw[if_neg ha,if_neg hb] at e1
    injection e1 with q1 q2 q3 q4
    unfold zN;rw[q1,q2,q3,q4]
 exact key h2 h3 h1
theorem Aqk {x y:St} (h:SameS x y):zS x=zS y:=by
 unfold zS
 rw[h.k,h.r,h.l,h.n,h.b,h.c,Ag2 h.e,Ag2 h.f]
theorem Ale:∀ {l m:List St},All2 l m→l.map zS=m.map zS
 | [],[],_=>rfl
 | _ :: l,_ :: m,h=>by rw[List.map_cons,List.map_cons,Aqk h.1,Ale h.2]
 | [],_ :: _,h=>h.elim
 | _ :: _,[],h=>h.elim
theorem Anl {α:Type} {R:α→α→Prop} {z:α→α} (hz:∀ x y,R x y→z y=z x):∀ {l m:List α},Pw R l m→m.map z=l.map z
 | [],[],_=>rfl
 | _ :: l,_ :: m,h=>by rw[List.map_cons,List.map_cons,hz _ _ h.1,Anl hz h.2]
 | [],_ :: _,h=>h.elim
 | _ :: _,[],h=>h.elim
theorem Ar3 {p q:Pg} (h:Aig p q):zP q=zP p:=by
 unfold zP
 rw[h.md,h.loc,Anl (z:=zT) (fun x y h=>by unfold zT;rw[h.1,h.2.1,Ale h.2.2]) h.thr,Anl (z:=zC) (fun x y h=>by unfold zC;rw[h.1,h.2]) h.cl]
theorem As9:∀ (k:Nat) (x:Int),Ie k x=D9 k x:=by
 intro k
 induction k with
 | zero=>intro x;rfl
 | succ k ih=>intro x;rw[Ie,D9,ih]
theorem Ad5 {x:Int} (h:0≤x∧x≤9999) {n:Nat} (hn:4≤n):Ie n x=some (En x)∧(En x).length≤4:=by
 obtain⟨d1,d2⟩:=Aao h
 exact⟨by rw[As9];exact d2 n hn,d1⟩
theorem Zq {α τ:Type} (l:List α) (f:α→List UInt8) (B C:Nat) (L:Nat→List UInt8→Nat→Option (LR (List UInt8) τ)) (hB:∀ x ∈ l,(f x).length≤B) (h0:∀ k acc,L (k+1) acc l.length=some (.out acc))
 (h1:∀ k acc i x,i < l.length→l[i]?=some x→acc.length≤C+i*B→L (k+1) acc i=L k (acc++f x) (i+1)):∀ (m k i:Nat) (acc:List UInt8),i+m=l.length→m < k→acc.length≤C+i*B→L k acc i=some (.out (acc++(l.drop i).flatMap f)):=by
 intro m
 induction m with
 | zero =>
  intro k i acc hi hk ha
  obtain⟨k,rfl⟩:∃ j,k=j+1:=⟨k - 1,by omega⟩
  obtain rfl:i=l.length:=by omega
  rw[h0,List.drop_length];simp
 | succ m ih =>
  intro k i acc hi hk ha
  obtain⟨k,rfl⟩:∃ j,k=j+1:=⟨k - 1,by omega⟩
  have hlt:i < l.length:=by omega
  have hb:=hB l[i] (List.getElem_mem hlt)
  rw[h1 k acc i l[i] hlt (Ar hlt) ha,ih k (i+1) (acc++f l[i]) (by omega) (by omega) (by rw[List.length_append,Nat.succ_mul];omega),List.drop_eq_getElem_cons hlt,List.flatMap_cons,List.append_assoc]
theorem Xd {l:List UInt8} (h:C9 l=true):l.length≤16:=by
 simp only[C9,A7,B3] at h;exact h.1.1.2
theorem Abi {v:Va} (h:Kx v=true):(Uk v).length≤100:=by
 simp only[Kx,A7] at h
 have h1:=Xd h.1
 have h2:=(Ad5 (A28 h.2.1) (n:=4) (by omega)).2
 simp[Uk];omega
def Rn (r:List UInt8):List UInt8:=[44,32]++r
theorem A6r:∀ rs:List (List UInt8),Xj rs=rs.flatMap Rn++[59,10]
 | []=>rfl
 | r :: rs=>by rw[Xj,A6r rs,List.flatMap_cons];simp[Rn]
def Tw:List (List UInt8)→List UInt8
 | []=>[]
 | r :: rs=>([32,32,114,101,103,32]++r)++rs.flatMap Rn
theorem Agk (rs:List (List UInt8)):V6 rs=if rs.length=0 then [] else Tw rs++[59,10]:=by
 cases rs with
 | nil=>rfl
 | cons r rs=>rw[if_neg (by simp),V6,Tw,A6r];simp
theorem A95 {rs:List (List UInt8)} (hr:∀ r ∈ rs,r.length≤100) (hl:rs.length≤4000):(Tw rs).length≤1000000:=by
 have:∀ q:List (List UInt8),(∀ r ∈ q,r.length≤100)→(q.flatMap Rn).length≤q.length*102:=by
  intro q
  induction q with
  | nil=>intro _;simp
  | cons r q ih =>
   intro h
   have h1:=h r (List.mem_cons_self ..)
   have h2:=ih fun x hx=>h x (List.mem_cons_of_mem _ hx)
   rw[List.flatMap_cons,List.length_append,List.length_cons,Nat.succ_mul]
   have:(Rn r).length≤102:=by simp[Rn];omega
   omega
 cases rs with
 | nil=>simp[Tw]
 | cons r rs =>
  have h1:=hr r (List.mem_cons_self ..)
  have h2:=this rs fun x hx=>hr x (List.mem_cons_of_mem _ hx)
  simp only[List.length_cons] at hl
  rw[Tw,List.length_append,List.length_append]
  simp only[List.length_cons,List.length_nil]
  omega
theorem Asm (n:Nat) (t:Th) (hr:∀ r ∈ t.B5,r.length≤100) (hl:t.B5.length≤4000) (acc:List UInt8) (ha:acc.length≤100000000000000) (hn:4100 < n) :
 Gd n t n acc [32,32,114,101,103,32] 0=some (.out (acc++Tw t.B5)):=by
 obtain⟨n,rfl⟩:∃ j,n=j+1:=⟨n - 1,by omega⟩
 cases hq:t.B5 with
 | nil=>rw[Gd,hq,Ap (by simp)];simp[Tw]
 | cons r rs =>
  have hlen:t.B5.length=rs.length+1:=by rw[hq];rfl
  have hi0:idx t.B5 0=some r:=by rw[hq];rfl
  have h1:=hr r (by rw[hq];exact List.mem_cons_self ..)
  rw[Gd,A6 (by omega),hi0,A0,A6 (by simp;omega),A6 (by simp;omega)]
  have:=Zq (τ:=List UInt8) t.B5 Rn 102 (acc.length+106) (fun k a i=>Gd (n+1) t k a [44,32] (i:Int)) (fun x hx=>by have:=hr x hx;simp[Rn];omega)
   (fun k a=>by rw[Gd,Ap (by omega)])
   (fun k a i x hi hx hc=>by
    have h2:=hr x (List.mem_of_getElem? hx)
    rw[Gd,A6 (by omega),Cz hx,A0,A6 (by simp;omega),A6 (by simp;omega),Bg i (by omega)];rfl)
   rs.length n 1 (acc++([32,32,114,101,103,32]++r)) (by omega) (by omega) (by simp;omega)
  have e:IntKind.i64.wrap ((0:Int)+1)=((1:Nat):Int):=by decide +kernel
  rw[e]
  refine this.trans ?_
  rw[hq,List.drop_one,List.tail_cons,Tw,List.append_assoc]
theorem A9p {t:Th} (h:Jk t.Ax=true) (hl:t.Ax.length≤250) {n:Nat} (hn:6000 < n):Ms n t.Ax 1=some (Ii (trS t.Ax) 1)∧(Ii (trS t.Ax) 1).length≤25000000:=by
 obtain⟨g1,g2,_,g4⟩:=A5a h
 have e:=Arq g1 (by rw[g2];exact h) 1 n (by omega) hn
 rw[g2] at e
 refine⟨e,?_⟩
 have h1:=Rr (trS t.Ax) 1 g4 (by rw[g2];omega)
 rw[g2] at h1
 have:100000*t.Ax.length≤100000*250:=Nat.mul_le_mul_left _ hl
 omega
theorem Agc (t:Th):Un t=((([116,104,114,101,97,100,32]++t.Ai)++[32,123,10])++V6 t.B5)++(Ii (trS t.Ax) 1++[125,10]):=by
 simp[Un]
theorem Adw {t:Th} (h:Ki t=true) (hb:Adb t):(Un t).length≤30000000:=by
 simp only[Ki,A7,List.all_eq_true] at h
 have h1:=Xd h.1
 have h2:=(A9p h.2.2.1 hb.body (n:=6001) (by omega)).2
 have h3:=A95 hb.reg hb.regs
 have h4:(V6 t.B5).length≤1000002:=by
  rw[Agk];split
  ·simp
  ·simp;omega
 rw[Agc]
 simp only[List.length_append,List.length_cons,List.length_nil]
 omega
theorem Am6 (c:Cl):clT c=(((cwF c.A9++[32])++I0 c.Ct)++[59,10]):=by simp[clT]
theorem Ag9 {k:Int} (h:1≤k∧k≤3):(cwF k).length≤6:=by
 have:k=1∨k=2∨k=3:=by omega
 rcases this with rfl | rfl | rfl<;>decide
theorem Aq7 {c:Cl} (h:Kk c=true):(clT c).length≤10000:=by
 simp only[Kk,A7,B3] at h
 obtain⟨_,_,_,_,_,_,_,h7,_⟩:=A48 h.2.2.1
 have:=Ag9 h.2.1
 rw[Am6]
 simp only[List.length_append,List.length_cons,List.length_nil]
 omega
theorem Atl (n:Nat) {k:Int} (h:1≤k∧k≤3):Jq (n+1) k=some (cwF k):=by
 have:k=1∨k=2∨k=3:=by omega
 rcases this with rfl | rfl | rfl<;>rfl
theorem A4c {α:Type} (f:α→List UInt8) (B:Nat):∀ l:List α,(∀ x ∈ l,(f x).length≤B)→(l.flatMap f).length≤l.length*B
 | [],_=>by simp
 | x :: l,h=>by
  have h1:=h x (List.mem_cons_self ..)
  have h2:=A4c f B l fun y hy=>h y (List.mem_cons_of_mem _ hy)
  rw[List.flatMap_cons,List.length_append,List.length_cons,Nat.succ_mul];omega
theorem Asn {p:Pg} (h:G6 p=true) (hb:Ql p) {n:Nat} (hn:7000 < n):Oj n p=some (So p):=by
 obtain⟨n,rfl⟩:∃ j,n=j+1:=⟨n - 1,by omega⟩
 have hr:=A8f n p hb (by omega)
 have h':=h
 simp only[G6,A7,List.all_eq_true] at h'
 obtain⟨hm,hv,ht,hc⟩:=h'
 obtain⟨d1,d2⟩:=Ad5 (A28 hm) (n:=n) (by omega)
 have b1:=hb.locs
 have b2:=hb.threads
 have b3:=hb.claims
 rw[Oj,hr,A0,h,Ab,d1,A0,A6 (by simp;omega),A6 (by simp;omega)]
 generalize hh:((([109,111,100,32]:List UInt8)++En p.Bm)++[59,10])=H0
 have l0:H0.length≤10:=by rw[← hh];simp;omega
 have e1:=Zq (τ:=List UInt8) p.Au Uk 100 10 (fun k a i=>Iy n p k a (i:Int)) (fun x hx=>Abi (hv x hx)) (fun k a=>by rw[Iy,Ap (by omega)])
  (fun k a i x hi hx hcap=>by
   have ok:=hv x (List.mem_of_getElem? hx)
   simp only[Kx,A7] at ok
   have q1:=Xd ok.1
   obtain⟨q2,q3⟩:=Ad5 (A28 ok.2.1) (n:=n) (by omega)
   rw[Iy,A6 (by omega),Cz hx,A0,A6 (by simp;omega),A6 (by simp;omega),q2,A0,A6 (by simp;omega),A6 (by simp;omega),A6 (by simp;omega),Bg i (by omega)]
   congr 1
   simp[Uk])
  p.Au.length n 0 H0 (by omega) (by omega) (by omega)
 rw[List.drop_zero] at e1
 have e1:Iy n p n H0 0=some (.out (H0++p.Au.flatMap Uk)):=e1
 rw[e1,A0]
 dsimp only
 have l1:(H0++p.Au.flatMap Uk).length≤500000:=by
  have:=A4c Uk 100 p.Au fun x hx=>Abi (hv x hx)
  rw[List.length_append];omega
 generalize hH1:H0++p.Au.flatMap Uk=H1 at *
 have e2:=Zq (τ:=List UInt8) p.Ac Un 30000000 500000 (fun k a i=>Hr n p k a (i:Int)) (fun x hx=>Adw (ht x hx) (hb.thr x hx)) (fun k a=>by rw[Hr,Ap (by omega)])
  (fun k a i x hi hx hcap=>by
   have ok:=ht x (List.mem_of_getElem? hx)
   have bt:=hb.thr x (List.mem_of_getElem? hx)
   simp only[Ki,A7] at ok
   have q1:=Xd ok.1
   obtain⟨q2,q3⟩:=A9p ok.2.2.1 bt.body (n:=n) (by omega)
   have q4:=A95 bt.reg bt.regs
   have hi':i*30000000≤4000*30000000:=Nat.mul_le_mul_right _ (by omega)
   rw[Hr,A6 (by omega),Cz hx,A0,A6 (by simp;omega),A6 (by simp;omega),A6 (by simp;omega),Asm n x bt.reg bt.regs _ (by simp;omega) (by omega),A0]
   dsimp only
   rw[Agc,Agk,q2,A0,A0,Bg i (by omega)]
   by_cases hz:x.B5.length=0
   ·rw[if_pos hz,Ap (by omega),List.length_eq_zero_iff.1 hz]
    rw[A6 (by simp;omega),A6 (by simp[Tw];omega)]
    congr 1
    simp[Tw]
   ·rw[if_neg hz,A6 (show(0:Int) < ((x.B5.length:Nat):Int) by omega),A6 (by simp;omega),A6 (by simp;omega),A6 (by simp;omega)]
    congr 1
    simp)
  p.Ac.length n 0 H1 (by omega) (by omega) (by omega)
 rw[List.drop_zero] at e2
 have e2:Hr n p n H1 0=some (.out (H1++p.Ac.flatMap Un)):=e2
 rw[e2,A0]
 dsimp only
 have l2:(H1++p.Ac.flatMap Un).length≤200000000000:=by
  have:=A4c Un 30000000 p.Ac fun x hx=>Adw (ht x hx) (hb.thr x hx)
  have hi':p.Ac.length*30000000≤4000*30000000:=Nat.mul_le_mul_right _ (by omega)
  rw[List.length_append];omega
 generalize hH2:H1++p.Ac.flatMap Un=H2 at *
 have e3:=Zq (τ:=List UInt8) p.Al clT 10000 200000000000 (fun k a i=>J3 n p k a (i:Int)) (fun x hx=>Aq7 (hc x hx)) (fun k a=>by rw[J3,Ap (by omega)])
  (fun k a i x hi hx hcap=>by
   have ok:=hc x (List.mem_of_getElem? hx)
   simp only[Kk,A7,B3] at ok
   obtain⟨_,_,_,_,_,_,_,q1,q2⟩:=A48 ok.2.2.1
   have q3:=Ag9 ok.2.1
   obtain⟨n,rfl⟩:∃ j,n=j+1:=⟨n - 1,by omega⟩
   rw[J3,A6 (by omega),Cz hx,A0,Atl n ok.2.1,A0,A6 (by simp;omega),q2 (n+1) (by omega),A0,A6 (by simp;omega),A6 (by simp;omega),A6 (by simp;omega),Bg i (by omega),Am6])
  p.Al.length n 0 H2 (by omega) (by omega) (by omega)
 rw[List.drop_zero] at e3
 have e3:J3 n p n H2 0=some (.out (H2++p.Al.flatMap clT)):=e3
 rw[e3,A0]
 dsimp only
 rw[← hH2,← hH1,← hh]
 simp[So]
set_option maxRecDepth 100000
theorem Av2 (n:Nat) (L:Nat→Int→List Nd→Option (LR (List Nd) (List Nd))) (N:Nat) (h0:∀ k i x,¬ (i:Nat) < N→L (k+1) (i:Int) x=some (.out x)) (h1:∀ k (i:Nat) x,i < N→x.length=N→(h:i < x.length)→L (k+1) (i:Int) x=L k ((i+1:Nat):Int) (x.set i (zN x[i]))):∀ (m i k:Nat) (x:List Nd),N=x.length→N - i≤m→m < k→i≤N→L k (i:Int) x=some (.out (x.take i++(x.drop i).map zN)):=by
 intro m
 induction m with
 | zero =>
  intro i k x hy hm hk hi
  obtain⟨k,rfl⟩:∃ j,k=j+1:=⟨k - 1,by omega⟩
  rw[h0 k i x (by omega),List.drop_of_length_le (by omega),List.take_of_length_le (by omega)];simp
 | succ m ih =>
  intro i k x hy hm hk hi
  obtain⟨k,rfl⟩:∃ j,k=j+1:=⟨k - 1,by omega⟩
  by_cases c:i < N
  ·have c':i < x.length:=by omega
   rw[h1 k i x c hy.symm c',ih (i+1) k _ (by rw[List.length_set];exact hy) (by omega) (by omega) (by omega)]
   congr 2
   rw[List.take_set,List.take_add_one,Ar c',Option.toList_some,List.set_append_right _ _ (by rw[List.length_take];omega),List.length_take,show i - min i x.length=0 by omega,List.set_cons_zero,List.drop_set,if_pos (by omega),List.drop_eq_getElem_cons c',List.map_cons,List.append_assoc];rfl
  ·rw[h0 k i x c,List.drop_of_length_le (by omega),List.take_of_length_le (by omega)];simp
theorem A49 (n:Nat) (l:List Nd) (hl:l.length≤4000) (hn:4100 < n):L9 n l=some (l.map zN):=by
 obtain⟨n,rfl⟩:∃ j,n=j+2:=⟨n - 2,by omega⟩
 rw[L9,A6 (by omega)]
 by_cases h:l.length=0
 ·have:l=[]:=List.length_eq_zero_iff.1 h
  subst this
  rw[A6 h,M0,Ap (by simp)];rfl
 ·have:=Av2 (n+1) (fun k i x=>I4 (n+1) l k i x) l.length (fun k i x hi=>by rw[I4,Ap (by omega)]) (fun k i x hi hx h=>by rw[I4,A6 (by omega),Cv h,A0,Bg i (by omega),Int.toNat_natCast];rfl) l.length 0 (n+1) l rfl (by omega) (by omega) (by omega)
  have this:I4 (n+1) l (n+1) 0 l=some (.out (l.map zN)):=by rw[List.take_zero,List.drop_zero,List.nil_append] at this;exact this
  rw[Ap h,this];rfl
theorem Al1 {p:Pg} (hs:Abs p) {n:Nat} (hn:5000 < n):L3 n p=some (zP p):=by
 obtain⟨n,rfl⟩:∃ j,n=j+1:=⟨n - 1,by omega⟩
 have s1:=hs.locs
 have s2:=hs.threads
 have s3:=hs.claims
 have e1:=A0j (ν:=Ba) p.Au zV (fun k i s=>Iq n p k (i:Int) s) (fun k s=>by rw[Iq,Ap (by omega)]) (fun k i x s hi hx hs=>by rw[Iq,A6 (by omega),Cz hx,A0,A6 (by omega),Bg i (by omega)];rfl) (k:=n) (by omega)
 have e2:=A0j (ν:=Ba) p.Ac zT (fun k i s=>Ix n p k (i:Int) s) (fun k s=>by rw[Ix,Ap (by omega)]) (fun k i x s hi hx hs'=>by
  obtain⟨t1,t2,t3⟩:=hs.thr x (List.mem_of_getElem? hx)
  have e:=A0j (ν:=Ba) x.Ax zS (fun k i s=>J7 n x k (i:Int) s) (fun k s=>by rw[J7,Ap (by omega)]) (fun k i y s hi hy hs=>by
   obtain⟨u1,u2⟩:=t3 y (List.mem_of_getElem? hy)
   rw[J7,A6 (by omega),Cz hy,A0,A49 n _ u1 (by omega),A0,A49 n _ u2 (by omega),A0,A6 (by omega),Bg i (by omega)];rfl) (k:=n) (by omega)
  have e:J7 n x n 0 []=some (.out (x.Ax.map zS)):=e
  rw[Ix,A6 (by omega),Cz hx,A0,A6 (by omega),e,A0]
  dsimp only
  rw[A6 (by omega),Bg i (by omega)];rfl) (k:=n) (by omega)
 have e3:=A0j (ν:=Ba) p.Al zC (fun k i s=>Iz n p k (i:Int) s) (fun k s=>by rw[Iz,Ap (by omega)]) (fun k i x s hi hx hs'=>by
  have u1:=hs.cl x (List.mem_of_getElem? hx)
  rw[Iz,A6 (by omega),Cz hx,A0,A49 n _ u1 (by omega),A0,A6 (by omega),Bg i (by omega)];rfl) (k:=n) (by omega)
 have e1:Iq n p n 0 []=some (.out (p.Au.map zV)):=e1
 have e2:Ix n p n 0 []=some (.out (p.Ac.map zT)):=e2
 have e3:Iz n p n 0 []=some (.out (p.Al.map zC)):=e3
 rw[L3,e1,A0]
 dsimp only
 rw[e2,A0]
 dsimp only
 rw[e3];rfl
theorem A1r {l:List Nd} (h:Jj l=true):l.length≤250:=by
 simp only[Jj,A7,B3] at h;exact h.1
theorem A4y {p:Pg} (h:Ql p):Abs p:=by
 refine⟨h.locs,h.threads,h.claims,fun t ht=>?_,fun c hc=>?_⟩
 ·have b:=h.thr t ht
  refine⟨b.regs,by have:=b.body;omega,fun x hx=>?_⟩
  obtain⟨_,_,l1,l2⟩:=b.st x hx
  have:=A1r l1
  have:=A1r l2
  exact⟨by omega,by omega⟩
 ·have:=A1r (h.cl c hc);omega
def PsB (B:Nat) (s:Ps):Prop:=0≤s.2.2∧s.2.2≤B
theorem Aed {B T:Nat} {l:List Tk} (hl:TokB B T l) {s:Ps} (h:PsB B s):PsB B (wr l s):=by
 have:=Jz hl.small hl.at' s.1
 unfold wr
 cases s.2.1==0
 ·exact h
 ·exact this
theorem Xg {B T:Nat} {l:List Tk} (hl:TokB B T l) {w:List UInt8} {s:Ps} (h:PsB B s):PsB B (sgF w l s):=by
 unfold sgF
 cases s.2.1==0&&Bk l s.1 w
 ·exact Aed hl h
 ·exact h
theorem Aar {B T:Nat} {l:List Tk} (hl:TokB B T l) {s:Ps} (h:PsB B s):PsB B (nmF l s).2:=by
 unfold nmF
 cases s.2.1==0&&isN l s.1
 ·exact Aed hl h
 ·exact h
theorem Apk {B T:Nat} {l:List Tk} (hl:TokB B T l) {s:Ps} (h:PsB B s):PsB B (nuF l s).2:=by
 unfold nuF
 cases s.2.1==0&&isK l s.1
 ·exact Aed hl h
 ·exact h
theorem Asa {B T:Nat} {l:List Tk} (hl:TokB B T l) {s:Ps} (h:PsB B s):PsB B (Pj l s).2:=Xg hl (Apk hl (Xg hl (Aar hl h)))
theorem Ag6 {B T:Nat} {l:List Tk} (hl:TokB B T l):∀ (k:Nat) (s:Ps) (acc:List Va),PsB B s→PsB B (F8 l k s acc).2
 | 0,_,_,h=>h
 | k+1,s,acc,h=>by
  rw[F8]
  cases C5 [108,111,99] l s
  ·exact h
  ·exact Ag6 hl k _ _ (Asa hl h)
theorem Agn {B T:Nat} {l:List Tk} (hl:TokB B T l):∀ (k:Nat) (s:Ps) (acc:List (List UInt8)),PsB B s→PsB B (Ej l k s acc).2
 | 0,_,_,h=>h
 | k+1,s,acc,h=>by
  rw[Ej]
  cases s.2.1==0&&Bk l s.1 [44]
  ·exact h
  ·exact Agn hl k _ _ (Aar hl h)
theorem Aq4 {B T:Nat} {l:List Tk} (hl:TokB B T l) {s:Ps} (h:PsB B s):PsB B (H7 l s).2:=by
 unfold H7
 cases C5 [114,101,103] l s
 ·exact h
 ·exact Xg hl (Agn hl _ _ _ (Aar hl h))
theorem Apt {B:Nat} {i:Nat} {s:Int×Int} {e a:Int} (h:0≤s.2∧s.2≤B) (h2:0≤a∧a≤B):PsB B (i,faF s e a):=by
 unfold faF PsB
 cases s.1==0<;>cases e != 0<;>first | exact h | exact h2
theorem Aqj {B T:Nat} {l:List Tk} (hl:TokB B T l) {s:Ps} (hs:Cn l s) (h:PsB B s):PsB B (Lp l s).2:=by
 unfold Lp
 cases s.2.1==0
 ·exact Xg hl h
 ·exact Xg hl (Apt h (Ak0 hl hs).2)
theorem Asg {B T:Nat} {l:List Tk} (hl:TokB B T l) {s:Ps} (h1:s.1 < l.length) (h:PsB B s):PsB B (Nr l s).2 :=
 Aqj hl (A3k hl.toks (Nb (Qt (show Cn l (s.1+1,s.2) from h1)))).1 (Aq4 hl (Xg hl (Aar hl h)))
theorem Age {B T:Nat} {l:List Tk} (hl:TokB B T l):∀ (k:Nat) (s:Ps) (acc:List Th),PsB B s→PsB B (G3 l k s acc).2
 | 0,_,_,h=>h
 | k+1,s,acc,h=>by
  rw[G3]
  cases hc:C5 [116,104,114,101,97,100] l s
  ·exact h
  ·exact Age hl k _ _ (Asg hl (Kt hc).1 h)
theorem Atv {B T:Nat} {l:List Tk} (hl:TokB B T l) {k:Int} {s:Ps} (h1:s.1 < l.length) (h:PsB B s):PsB B (clF k l s).2:=by
 unfold clF
 exact Xg hl (Apt h (Ajq hl (show s.1+1≤l.length from h1)).2)
theorem Amd {B T:Nat} {l:List Tk} (hl:TokB B T l):∀ (k:Nat) (s:Ps) (acc:List Cl),PsB B s→PsB B (Is l k s acc).2
 | 0,_,_,h=>h
 | k+1,s,acc,h=>by
  rw[Is]
  by_cases hc:0 < Hv l s
  ·rw[A6 hc];exact Amd hl k _ _ (Atv hl (A36 hc).1 h)
  ·rw[Ap hc];exact h
theorem Aq9 {B T:Nat} {l:List Tk} (hl:TokB B T l):0≤(Mb l).2.2∧(Mb l).2.2≤B:=by
 have h0:PsB B ((0,0,0):Ps):=⟨by decide,by show(0:Int)≤_;omega⟩
 have h1:PsB B (Ge l).2:=by
  unfold Ge
  refine Xg hl (Apk hl ?_)
  cases C5 [109,111,100] l (0,0,0)
  ·exact Aed hl h0
  ·exact h0
 have h4:=Amd hl (l.length+2) _ [] (Age hl (l.length+2) _ [] (Ag6 hl (l.length+2) _ [] h1))
 have h5:PsB B (N7 l (Is l (l.length+2) (G3 l (l.length+2) (F8 l (l.length+2) (Ge l).2 []).2 []).2 []).2):=by
  unfold N7
  cases decide ((Is l (l.length+2) (G3 l (l.length+2) (F8 l (l.length+2) (Ge l).2 []).2 []).2 []).2.1 < l.length)
  ·exact h4
  ·exact Aed hl h4
 unfold Mb
 dsimp only
 cases (N7 l (Is l (l.length+2) (G3 l (l.length+2) (F8 l (l.length+2) (Ge l).2 []).2 []).2 []).2).2.1 != 0
 ·exact⟨Int.le_refl 0,by show(0:Int)≤_;omega⟩
 ·exact h5
theorem As8:∀ (f:Nat) (l:List UInt8) (p:Nat) (acc:List Tok),0≤(Dh f l p acc).at'∧(Dh f l p acc).at'≤((p+l.length:Nat):Int):=by
 intro f
 induction f with
 | zero=>intro l p acc;exact⟨by show(0:Int)≤0;omega,by show(0:Int)≤_;omega⟩
 | succ f ih =>
  intro l p acc
  have hg:=A3h false l
  rw[Dh]
  split
  ·exact⟨by show(0:Int)≤0;omega,by show(0:Int)≤_;omega⟩
  ·rename_i c t hd
   have hlen:(c :: t).length=l.length - D2 false l:=by rw[← hd];simp
   split
   ·exact⟨by dsimp only;omega,by dsimp only;omega⟩
   ·rename_i k n v ho
    have:=ih ((c :: t).drop n) (p+D2 false l+n) (acc++[⟨k,(c :: t).take n,v,(p+D2 false l:Nat)⟩])
    obtain⟨_,h2⟩:=Tc ho
    rw[List.length_drop,hlen] at this
    rw[hlen] at h2
    exact⟨this.1,by omega⟩
theorem Apc {s:List UInt8} (h:s.length≤20000):0≤(Gz s).at'∧(Gz s).at'≤s.length:=by
 unfold Gz
 rw[if_neg (by omega)]
 have:=As8 (s.length+1) s 0 []
 exact⟨this.1,by omega⟩
theorem Akb {s:List UInt8} (h:s.length≤20000):0≤(Iv s).2.2∧(Iv s).2.2≤s.length:=by
 unfold Iv
 cases (Gz s).err != 0
 ·exact Aq9 (A84 s (by omega))
 ·exact Apc h
theorem Ahr {B T:Nat} {l:List Tk} (hl:TokB B T l) (h0:(Mb l).2.1=0):G6 (Mb l).1=true:=by
 unfold Mb at h0 ⊢
 dsimp only at h0 ⊢
 cases he:(N7 l (Is l (l.length+2) (G3 l (l.length+2) (F8 l (l.length+2) (Ge l).2 []).2 []).2 []).2).2.1 != 0 with
 | true =>
  rw[he,Ab] at h0
  rw[bne_iff_ne] at he;exact absurd h0 he
 | false =>
  rw[At]
  rw[bne_eq_false_iff_eq] at he
  obtain⟨c1,c2⟩:=A4b hl _ _ [] (fun _ v hv=>(by cases hv)) (Add he)
  obtain⟨t1,t2,t3⟩:=A1z hl _ _ [] (fun _ v hv=>(by cases hv)) (fun v hv=>(by cases hv)) c1
  obtain⟨v1,v2⟩:=A1y hl _ _ [] (fun _ v hv=>(by cases hv)) t1
  simp only[G6,A7,List.all_eq_true]
  exact⟨A6z hl.toks v1,fun v hv=>(v2 v hv).1,fun v hv=>(t2 v hv).1,fun v hv=>(c2 v hv).1⟩
theorem Abd {s:List UInt8} (hs:s.length≤20000) (h0:(Iv s).2.1=0):G6 (Iv s).1=true:=by
 unfold Iv at h0 ⊢
 cases he:(Gz s).err != 0 with
 | true=>rw[he,Ab] at h0;rw[bne_iff_ne] at he;exact absurd h0 he
 | false=>rw[he,At] at h0;exact Ahr (A84 s (by omega)) h0
theorem Ai3 {p q:Pg} (h:zP q=zP p) (hb:Ql p) (hq:G6 q=true):Ql q:=by
 unfold zP at h
 injection h with h1 h2 h3 h4
 have l1:=Ro h2
 have l2:=Ro h3
 have l3:=Ro h4
 have b1:=hb.locs
 have b2:=hb.threads
 have b3:=hb.claims
 refine A3s hq (by omega) (by omega) (by omega) fun t ht=>?_
 have hm:zT t ∈ p.Ac.map zT:=by rw[← h3];exact List.mem_map_of_mem ht
 obtain⟨u,hu,e⟩:=List.mem_map.1 hm
 have e2:u.B5=t.B5:=by have:=congrArg Ag.B5 e;exact this
 rw[← e2];exact(hb.thr u hu).regs
theorem Akr (p:Pg) (h:G6 p=true):∃ y,Fn 500000 (So p)=some y∧(¬ 20000 < (((So p).length:Nat):Int)→∃ q,y=(q,0,0)∧zP q=zP p∧G6 q=true):=by
 by_cases c2:20000 < (So p).length
 ·refine⟨(noP,2,20000),?_,fun h=>absurd (by omega) h⟩
  rw[Fn,Agv 499999 _ (.inr ⟨c2,by omega⟩),A0,Gz,if_pos (by omega)];rfl
 ·obtain⟨q,q1,q2⟩:=Aid h (by omega)
  refine⟨_,Afz (by omega) (by omega),fun _=>⟨q,q1,Ar3 q2,?_⟩⟩
  have:=Abd (s:=So p) (by omega) (by rw[q1])
  rw[q1] at this;exact this
theorem Af9 (k4:Jf 500000=some true) (s:List UInt8):Kr 500001 s=some true:=by
 rw[Kr]
 by_cases c:3000 < ((s.length:Nat):Int)
 ·rw[A6 c,k4];rfl
 ·rw[Ap c,Afz (s:=s) (by omega) (by omega),A0]
  have hat:=Akb (s:=s) (by omega)
  rcases Aex (s:=s) (by omega) with ⟨h1,h2⟩ | ⟨h1,h2,h3,_⟩
  ·rw[bne_iff_ne.2 h1,Ab,h2,show(noP.Bm==0)=true from rfl,Ab]
   have e:IntKind.i64.wrap (IntKind.i64.wrap (((noP.Au.length:Nat):Int)+((noP.Ac.length:Nat):Int))+((noP.Al.length:Nat):Int))=0:=by decide +kernel
   rw[e,beq_self_eq_true,Ab,A6 hat.1,A6 hat.2,k4];rfl
  ·have h1e:(Iv s).2.1=0:=by rw[h1]
   rw[h1e,show((0:Int) != 0)=false from rfl,At]
   generalize (Iv s).1=p at *
   have hz:=Aqz h2
   have bz:=Aqe h3
   obtain⟨y,y1,y2⟩:=Akr p h2
   rw[Asn h2 h3 (by omega),A0,y1,A0,A8f 500000 p h3 (by omega),A0,h2,Ab,Al1 (A4y h3) (by omega),A0,A8f 500000 _ bz (by omega),A0,hz,Ab]
   by_cases c2:20000 < (((So p).length:Nat):Int)
   ·rw[A6 c2,k4];rfl
   ·obtain⟨q,rfl,q2,q3⟩:=y2 c2
    rw[Ap c2]
    dsimp only
    rw[show((0:Int)==0)=true from rfl,Ab,A0,Al1 (A4y (Ai3 q2 h3 q3)) (by omega),A0,q2,Aqh 500000 true _ _ (Amh true _) (A4y bz) (by omega),A0,Ab,k4];rfl
theorem As1:Jf 500000=some true:=by decide +kernel
theorem Afg (s:List UInt8):Kr 500001 s=some true:=Af9 As1 s
set_option maxHeartbeats 4000000
theorem A1x {n:Nat} ⦃Fq:Int⦄ ⦃r:Int⦄:My n Fq=some r→CN n 76 [iA Fq] []=some (iA r,[]):=by
 intro h;rcases n with _|n;cases h
 rw[My] at h
 refine Am Try.func76 (by rfl) rfl rfl (Aq rfl) ?_
 intro call hc;conv=>lhs;whnf
 revert h
 refine br ?_ ?_
 refine br ?_ ?_
 exact rz
 refine br ?_ ?_
 exact rz
 refine br ?_ ?_
 refine br ?_ ?_
 exact rz
 exact rz
 exact rz
 refine br ?_ ?_
 exact rz
 refine br ?_ ?_
 refine br ?_ ?_
 exact rz
 exact rz
 exact rz
theorem Afj {n:Nat} ⦃Av:(List A2)⦄ ⦃Ew:Int⦄ ⦃r:Int⦄:S4 n Av Ew=some r→CN n 68 [AV.sl 5 (List.map A1 Av),iA Ew] []=some (iA r,[]):=by
 intro h;rcases n with _|n;cases h
 rw[S4] at h
 refine Am Try.func68 (by rfl) rfl rfl (Aq rfl) ?_
 intro call hc;conv=>lhs;whnf
 revert h
 refine br ?_ ?_
 exact rz
 intro h;refine B0 h ?_;clear h;intro o11 ho11 h
 refine lq (σ:=(Int×Int)) (τ:=Unit) (ν:=Int) 0 (fun(s2,s3) a5=>Bo 31 [(0,AV.sl 5 (List.map A1 Av)),(1,iA s2),(5,iA s3)]) (fun(s2,s3) a5=>[]) (fun _ a18=>Bo 31 []) (fun _ a18=>[]) (fun v=>(iA v,[])) (fun k s=>In n Av k s.1 s.2) (fun s=>rfl) o11 n (Ew,1) (fun _=>0) ho11 ?_ ?_
 intro k4 ss a5 K6 cont7 hK8 hcont9 h hr10
 obtain⟨s2,s3⟩:=ss
 replace h:In n Av (k4+1) s2 s3=some o11:=h
 rw[In] at h
 conv=>lhs;whnf
 revert h
 refine br ?_ ?_
 refine ix ?_;intro x13
 refine ca hc (fun _ h=>A1x h) ?_;intro y14
 refine br ?_ ?_
 intro h;cases sj h
 refine(hK8 _ _).trans ?_
 refine Eq.trans ?_ (Eq.symm (show _=some _ from hr10))
 conv=>lhs;whnf
 exact rq
 refine br ?_ ?_
 intro h;cases sj h
 refine(hK8 _ _).trans ?_
 refine Eq.trans ?_ (Eq.symm (show _=some _ from hr10))
 conv=>lhs;whnf
 exact rq
 exact fun h=>cq (hcont9 (IntKind.i64.wrap (s2+1),IntKind.i64.wrap (s3+(IntKind.i64.wrap (y14 - 1)))) (fun _=>0) h)
 intro h;cases sj h
 exact kq (hr10 (fun _=>0))
 refine lrc ?_ ?_
 intro v e;subst e;cases sj h;rfl
 intro t a18 e;subst e
 dsimp only at h
 conv=>lhs;whnf
 revert h
 exact rz
theorem A0w {n:Nat} ⦃Av:(List A2)⦄ ⦃r:(List A2)⦄:Nh n Av=some r→CN n 55 [AV.sl 5 (List.map A1 Av)] []=some (AV.sl 5 (List.map A1 r),[]):=by
 intro h;rcases n with _|n;cases h
 rw[Nh] at h
 refine Am Try.func55 (by rfl) rfl rfl (Aq rfl) ?_
 intro call hc;conv=>lhs;whnf
 revert h
 intro h;refine B0 h ?_;clear h;intro o10 ho10 h
 refine lq (σ:=(Int×(List A2))) (τ:=(List A2)) (ν:=(List A2)) 0 (fun(s1,s2) a4=>Bo 24 [(3,AV.row 0 (List.length s2)),(6,AV.sl 5 (List.map A1 Av)),(7,iA (((Av.length:Nat):Int))),(8,iA s1)]) (fun(s1,s2) a4=>[Ob.row 47 5 (List.map A1 s2)]) (fun x23 a22=>Bo 24 [(3,AV.row 0 (List.length x23))]) (fun x23 a22=>[Ob.row 47 5 (List.map A1 x23)]) (fun v=>(AV.sl 5 (List.map A1 v),[])) (fun k s=>F6 n Av k s.1 s.2) (fun s=>rfl) o10 n (0,([]:List A2)) (fun _=>0) ho10 ?_ ?_
 intro k3 ss a4 K5 cont6 hK7 hcont8 h hr9
 obtain⟨s1,s2⟩:=ss
 replace h:F6 n Av (k3+1) s1 s2=some o10:=h
 rw[F6] at h
 conv=>lhs;whnf
 revert h
 refine br ?_ ?_
 refine ix ?_;intro x12
 refine br ?_ ?_
 refine ar (ap A1 (List.map A1 s2) s2 ([[iA x12.As,iA x12.Bs,sA x12.Ai,sA x12.D5,iA x12.Ao]]) ([x12]:List A2)) ?_
 exact fun h=>cq (hcont8 (IntKind.i64.wrap (s1+1),(s2++([x12]:List A2))) (fun _=>0) h)
 refine br ?_ ?_
 refine ar (ap A1 (List.map A1 s2) s2 ([[iA x12.As,iA x12.Bs,sA x12.Ai,sA x12.D5,iA x12.Ao]]) ([x12]:List A2)) ?_
 exact fun h=>cq (hcont8 (IntKind.i64.wrap (s1+1),(s2++([x12]:List A2))) (fun _=>0) h)
 refine br ?_ ?_
 refine ar (ap A1 (List.map A1 s2) s2 ([[iA x12.As,iA x12.Bs,sA x12.Ai,sA x12.D5,iA x12.Ao]]) ([x12]:List A2)) ?_
 exact fun h=>cq (hcont8 (IntKind.i64.wrap (s1+1),(s2++([x12]:List A2))) (fun _=>0) h)
 exact fun h=>cq (hcont8 (IntKind.i64.wrap (s1+1),s2) (fun _=>0) h)
 intro h;cases sj h
 exact kq (hr9 (fun _=>0))
 refine lrc ?_ ?_
 intro v e;subst e;cases sj h;rfl
 intro x23 a22 e;subst e
 dsimp only at h
 conv=>lhs;whnf
 revert h
 intro h;obtain rfl:=sj h
 try simp only[ls]
 exact fq (y:=some (AV.sl 5 (List.take (List.length x23) (List.map A1 x23)),[]))
theorem A0x {n:Nat} ⦃Av:(List A2)⦄ ⦃r:Int⦄:Na n Av=some r→CN n 60 [AV.sl 5 (List.map A1 Av)] []=some (iA r,[]):=by
 intro h;rcases n with _|n;cases h
 rw[Na] at h
 refine Am Try.func60 (by rfl) rfl rfl (Aq rfl) ?_
 intro call hc;conv=>lhs;whnf
 revert h
 intro h;refine B0 h ?_;clear h;intro o11 ho11 h
 refine lq (σ:=(Int×Int×(List Int))) (τ:=(Int×(List Int))) (ν:=Int) 0 (fun(s1,s2,s3) a5=>Bo 50 [(3,AV.stk 0 (a5 0) (List.length s3)),(4,iA s1),(9,AV.sl 5 (List.map A1 Av)),(10,iA (((Av.length:Nat):Int))),(11,iA s2)]) (fun(s1,s2,s3) a5=>[Ob.stk (a5 0) 3 1 (List.map Es s3)]) (fun(x41,x42) a40=>Bo 50 [(4,iA x41)]) (fun(x41,x42) a40=>[Ob.stk (a40 0) 3 1 (List.map Es x42)]) (fun v=>(iA v,[])) (fun k s=>Gv n Av k s.1 s.2.1 s.2.2) (fun s=>rfl) o11 n (0,0,([]:List Int)) (fun j=>(bif Nat.beq j 0 then 0 else 0)) ho11 ?_ ?_
 intro k4 ss a5 K6 cont7 hK8 hcont9 h hr10
 obtain⟨s1,s2,s3⟩:=ss
 replace h:Gv n Av (k4+1) s1 s2 s3=some o11:=h
 rw[Gv] at h
 conv=>lhs;whnf
 revert h
 refine br ?_ ?_
 refine ix ?_;intro x13
 refine ca hc (fun _ h=>A1x h) ?_;intro y14
 refine br ?_ ?_
 intro h
 refine B8 h ?_;clear h;intro hc19 h
 try simp only[Fk]
 conv=>lhs;whnf
 first|refine B9 (Z5 hc19 (by first|rfl|simp only [B6]) (by first|rfl|simp only [B6]) (by first|rfl|simp only [B6,Dj]) (by kernel_rfl)) ?_|refine B9 (W1 hc19 (by first|rfl|simp only [B6]) (by first|rfl|simp only [B6,Dj]) (by kernel_rfl)) ?_
 try simp only[lt]
 have hp17:(List.map Es s3:List (List AV))++[[iA y14]]=List.map Es (s3++([y14]:List Int)):=by first|rfl|(rw[List.map_append];rfl)|(rw[List.map_append];done)|(simp only[List.map_append,List.map_cons,List.map_nil,List.nil_append,Es]<;>rfl)
 have hl18:List.length (List.map Es s3:List (List AV))+List.length ([[iA y14]]:List (List AV))=List.length (s3++([y14]:List Int)):=by simp only[B6,List.length_append]<;>rfl
 have hl18_b:List.length s3+List.length ([[iA y14]]:List (List AV))=List.length (s3++([y14]:List Int)):=by simp only[B6,List.length_append]<;>rfl
 have hl18_c:List.length s3+List.length ([y14]:List Int)=List.length (s3++([y14]:List Int)):=by simp only[B6,List.length_append]<;>rfl
 first|simp only [hp17,hl18]|(simp only[B6,Dj];simp only[hp17,hl18_b,hl18_c])
 try simp only[ls]
 conv=>lhs;whnf
 revert h
 exact fun h=>cq (hcont9 ((if s1<((s3.length:Nat):Int) then((s3.length:Nat):Int) else s1),IntKind.i64.wrap (s2+1),(s3++([y14]:List Int))) (fun j=>(bif Nat.beq j 0 then((a5 0)+1) else 0)) h)
 intro h;refine B0 h ?_;clear h;intro o28 ho28 h
 refine lq (σ:=(List Int)) (τ:=(List Int)) (ν:=Int) 2 (fun s20 a22=>Bo 50 [(3,AV.stk 0 (a22 0) (List.length s20)),(4,iA ((if s1<((s3.length:Nat):Int) then((s3.length:Nat):Int) else s1))),(9,AV.sl 5 (List.map A1 Av)),(10,iA (((Av.length:Nat):Int))),(11,iA s2)]) (fun s20 a22=>[Ob.stk (a22 0) 3 1 (List.map Es s20),Ob.var 47 [iA x13.As,iA x13.Bs,sA x13.Ai,sA x13.D5,iA x13.Ao]]) (fun x38 a37=>Bo 50 [(3,AV.stk 0 (a37 0) (List.length x38)),(4,iA ((if s1<((s3.length:Nat):Int) then((s3.length:Nat):Int) else s1))),(9,AV.sl 5 (List.map A1 Av)),(10,iA (((Av.length:Nat):Int))),(11,iA s2)]) (fun x38 a37=>[Ob.stk (a37 0) 3 1 (List.map Es x38),Ob.var 47 [iA x13.As,iA x13.Bs,sA x13.Ai,sA x13.D5,iA x13.Ao]]) (fun v=>(iA v,[])) (fun k s=>Jc n k s) (fun s=>rfl) o28 n s3 (fun j=>(bif Nat.beq j 0 then(a5 0) else 0)) ho28 ?_ ?_
 intro k21 s20 a22 K23 cont24 hK25 hcont26 h hr27
 replace h:Jc n (k21+1) s20=some o28:=h
 rw[Jc] at h
 conv=>lhs;whnf
 revert h
 refine br ?_ ?_
 intro h
 refine B0 h ?_;clear h;intro x30 hx30 h
 try simp only[Fk]
 conv=>lhs;whnf
 try simp only[ls]
 refine B9 (by first|exact If hx30|exact Rp hx30|exact Ws hx30|exact Kc hx30|(have q:=If hx30;simp only[List.length_set] at q;exact q)|(have q:=Kc hx30;simp only[List.length_set,Nat.zero_add] at q ⊢;exact q)) ?_
 conv=>lhs;whnf
 try simp only[M5 (f:=Es) hx30,Fk,ls]
 conv=>lhs;whnf
 revert h
 intro h
 refine B0 h ?_;clear h;intro x31 hx31 h
 try simp only[Fk]
 conv=>lhs;whnf
 try simp only[ls]
 refine B9 (by first|exact If hx31|exact Rp hx31|exact Ws hx31|exact Kc hx31|(have q:=If hx31;simp only[List.length_set] at q;exact q)|(have q:=Kc hx31;simp only[List.length_set,Nat.zero_add] at q ⊢;exact q)) ?_
 conv=>lhs;whnf
 try simp only[M5 (f:=Es) hx31,Fk,ls]
 conv=>lhs;whnf
 revert h
 intro h
 have hs32:Cg (List.map Es s20) (IntKind.i64.wrap (((s20.length:Nat):Int) - 1)).toNat [iA (IntKind.i64.wrap (x30 - 1))]=List.map Es (List.set s20 (IntKind.i64.wrap (((s20.length:Nat):Int) - 1)).toNat (IntKind.i64.wrap (x30 - 1))):=by rw[C1,List.map_set];rfl
 have hs32_u:Cg (List.map Es s20) (IntKind.i64.wrap (((s20.length:Nat):Int) - 1)).toNat (Mw (Es x31) 0 [iA (IntKind.i64.wrap (x30 - 1))])=List.map Es (List.set s20 (IntKind.i64.wrap (((s20.length:Nat):Int) - 1)).toNat (IntKind.i64.wrap (x30 - 1))):=by rw[C1,List.map_set];rfl
 try simp only[M5 (f:=Es) hx31,Fk]
 conv=>lhs;whnf
 try simp only[hs32,hs32_u,Fk]
 conv=>lhs;whnf
 revert h
 intro h
 refine B0 h ?_;clear h;intro x33 hx33 h
 try simp only[Fk]
 conv=>lhs;whnf
 try simp only[ls]
 refine B9 (by first|exact If hx33|exact Rp hx33|exact Ws hx33|exact Kc hx33|(have q:=If hx33;simp only[List.length_set] at q;exact q)|(have q:=Kc hx33;simp only[List.length_set,Nat.zero_add] at q ⊢;exact q)) ?_
 conv=>lhs;whnf
 try simp only[M5 (f:=Es) hx33,Fk,ls]
 conv=>lhs;whnf
 revert h
 refine br ?_ ?_
 intro h;cases sj h
 exact kq (hr27 (fun j=>(bif Nat.beq j 0 then(a22 0) else 0)))
 intro h
 refine B8 h ?_;clear h;intro hc36 h
 try simp only[Fk]
 conv=>lhs;whnf
 try simp only[ls]
 first|refine B9 hc36 ?_|(refine B9 (by have q:=hc36;simp only[List.length_set] at q;exact q) ?_)
 have hs35:List.take ((IntKind.i64.wrap (((s20.length:Nat):Int) - 1)).toNat) (List.map Es (List.set s20 (IntKind.i64.wrap (((s20.length:Nat):Int) - 1)).toNat (IntKind.i64.wrap (x30 - 1))))=List.map Es (List.take ((IntKind.i64.wrap (((s20.length:Nat):Int) - 1)).toNat) (List.set s20 (IntKind.i64.wrap (((s20.length:Nat):Int) - 1)).toNat (IntKind.i64.wrap (x30 - 1)))):=by rw[List.map_take]
 have hs35_l:List.length (List.take ((IntKind.i64.wrap (((s20.length:Nat):Int) - 1)).toNat) (List.set s20 (IntKind.i64.wrap (((s20.length:Nat):Int) - 1)).toNat (IntKind.i64.wrap (x30 - 1))))=(IntKind.i64.wrap (((s20.length:Nat):Int) - 1)).toNat:=by simp only[List.length_take];exact Nat.min_eq_left (Ath hc36)
 conv=>lhs;whnf
 try simp only[Fk,hs35]
 conv=>lhs;whnf
 try simp only[hs35]
 have hs35_s:∀ q,AV.stk 0 q ((IntKind.i64.wrap (((s20.length:Nat):Int) - 1)).toNat)=AV.stk 0 q (List.length (List.take ((IntKind.i64.wrap (((s20.length:Nat):Int) - 1)).toNat) (List.set s20 (IntKind.i64.wrap (((s20.length:Nat):Int) - 1)).toNat (IntKind.i64.wrap (x30 - 1))))):=fun q=>by rw[hs35_l]
 try simp only[hs35_s]
 conv=>lhs;whnf
 revert h
 exact fun h=>cq (hcont26 (List.take ((IntKind.i64.wrap (((s20.length:Nat):Int) - 1)).toNat) (List.set s20 (IntKind.i64.wrap (((s20.length:Nat):Int) - 1)).toNat (IntKind.i64.wrap (x30 - 1)))) (fun j=>(bif Nat.beq j 0 then((a22 0)+1) else 0)) h)
 intro h;cases sj h
 exact kq (hr27 (fun j=>(bif Nat.beq j 0 then(a22 0) else 0)))
 refine lrc ?_ ?_
 intro v e;subst e;cases sj h;exact hr10
 intro x38 a37 e;subst e
 dsimp only at h
 conv=>lhs;whnf
 revert h
 exact fun h=>cq (hcont9 ((if s1<((s3.length:Nat):Int) then((s3.length:Nat):Int) else s1),IntKind.i64.wrap (s2+1),x38) (fun j=>(bif Nat.beq j 0 then(a37 0) else 0)) h)
 intro h;cases sj h
 exact kq (hr10 (fun j=>(bif Nat.beq j 0 then(a5 0) else 0)))
 refine lrc ?_ ?_
 intro v e;subst e;cases sj h;rfl
 intro t a40 e;subst e
 obtain⟨x41,x42⟩:=t
 dsimp only at h
 conv=>lhs;whnf
 revert h
 exact rz
theorem Gk {n:Nat} ⦃B1:A2⦄ ⦃M6:(List (List A2))⦄ ⦃r:(List A2)⦄:D1 n B1 M6=some r→CN n 88 [AV.agg [iA B1.As,iA B1.Bs,sA B1.Ai,sA B1.D5,iA B1.Ao],AV.sl 1 (List.map Xm M6)] []=some (AV.sl 5 (List.map A1 r),[]):=by
 intro h;rcases n with _|n;cases h
 rw[D1] at h
 refine Am Try.func88 (by rfl) rfl rfl (Aq rfl) ?_
 intro call hc;conv=>lhs;whnf
 revert h
 intro h;refine B0 h ?_;clear h;intro o10 ho10 h
 refine lq (σ:=(Int×(List A2))) (τ:=(List A2)) (ν:=(List A2)) 0 (fun(s1,s2) a4=>Bo 21 [(5,AV.row 1 (List.length s2)),(10,AV.sl 1 (List.map Xm M6)),(11,iA (((M6.length:Nat):Int))),(12,iA s1)]) (fun(s1,s2) a4=>[Ob.var 47 [iA B1.As,iA B1.Bs,sA B1.Ai,sA B1.D5,iA B1.Ao],Ob.row 47 5 (List.map A1 s2)]) (fun x16 a15=>Bo 21 [(5,AV.row 1 (List.length x16))]) (fun x16 a15=>[Ob.var 47 [iA B1.As,iA B1.Bs,sA B1.Ai,sA B1.D5,iA B1.Ao],Ob.row 47 5 (List.map A1 x16)]) (fun v=>(AV.sl 5 (List.map A1 v),[])) (fun k s=>Gg n M6 k s.1 s.2) (fun s=>rfl) o10 n (0,([B1]:List A2)) (fun _=>0) ho10 ?_ ?_
 intro k3 ss a4 K5 cont6 hK7 hcont8 h hr9
 obtain⟨s1,s2⟩:=ss
 replace h:Gg n M6 (k3+1) s1 s2=some o10:=h
 rw[Gg] at h
 conv=>lhs;whnf
 revert h
 refine br ?_ ?_
 refine ix ?_;intro x12
 refine ar (ap A1 (List.map A1 s2) s2 (List.map A1 x12) x12) ?_
 exact fun h=>cq (hcont8 (IntKind.i64.wrap (s1+1),(s2++x12)) (fun _=>0) h)
 intro h;cases sj h
 exact kq (hr9 (fun _=>0))
 refine lrc ?_ ?_
 intro v e;subst e;cases sj h;rfl
 intro x16 a15 e;subst e
 dsimp only at h
 conv=>lhs;whnf
 revert h
 intro h;obtain rfl:=sj h
 try simp only[ls]
 exact fq (y:=some (AV.sl 5 (List.take (List.length x16) (List.map A1 x16)),[]))
theorem Ee {n:Nat} ⦃Lw:(List UInt8)⦄ ⦃p_l:(List A5)⦄ ⦃p_i:Int⦄ ⦃p_in:Int⦄ ⦃p_e:Int⦄ ⦃p_at:Int⦄ ⦃r:Bool⦄:Cr n Lw p_l p_i p_in p_e p_at=some r→CN n 87 [AV.ptr 0 0,sA Lw] [Ob.var 103 [AV.sl 4 (List.map A3 p_l),iA p_i,iA p_in,iA p_e,iA p_at]]=some (bA r,[Ob.var 103 [AV.sl 4 (List.map A3 p_l),iA p_i,iA p_in,iA p_e,iA p_at]]):=by
 intro h;rcases n with _|n;cases h
 rw[Cr] at h
 refine Am Try.func87 (by rfl) rfl rfl (Aq rfl) ?_
 intro call hc;conv=>lhs;whnf
 revert h
 refine br ?_ ?_
 refine ix ?_;intro x2
 refine br ?_ ?_
 refine ix ?_;intro x4
 exact rz
 exact rz
 exact rz
theorem G2 {n:Nat} ⦃Ut:Int⦄ ⦃p_l:(List A5)⦄ ⦃p_i:Int⦄ ⦃p_in:Int⦄ ⦃p_e:Int⦄ ⦃p_at:Int⦄ ⦃r:((List A2)×Int×Int)⦄:Cc n Ut p_l p_i p_in p_e p_at=some r→CN n 102 [AV.ptr 0 0,iA Ut] [Ob.var 103 [AV.sl 4 (List.map A3 p_l),iA p_i,iA p_in,iA p_e,iA p_at]]=some (AV.sl 5 (List.map A1 r.1),[Ob.var 103 [AV.sl 4 (List.map A3 p_l),iA p_i,iA p_in,iA r.2.1,iA r.2.2]]):=by
 intro h;rcases n with _|n;cases h
 rw[Cc] at h
 refine Am Try.func102 (by rfl) rfl rfl (Aq rfl) ?_
 intro call hc;conv=>lhs;whnf
 revert h
 refine br ?_ ?_
 exact rz
 refine br ?_ ?_
 refine ix ?_;intro x3
 exact rz
 refine br ?_ ?_
 refine br ?_ ?_
 refine ix ?_;intro x6
 refine ix ?_;intro x7
 exact rz
 exact rz
 refine br ?_ ?_
 refine ix ?_;intro x9
 refine ix ?_;intro x10
 exact rz
 exact rz
theorem Lq {n:Nat} ⦃p_l:(List A5)⦄ ⦃p_i:Int⦄ ⦃p_in:Int⦄ ⦃p_e:Int⦄ ⦃p_at:Int⦄ ⦃r:((List UInt8)×Int×Bool×Int)⦄:Db n p_l p_i p_in p_e p_at=some r→CN n 103 [AV.ptr 0 0] [Ob.var 103 [AV.sl 4 (List.map A3 p_l),iA p_i,iA p_in,iA p_e,iA p_at]]=some (AV.tup [sA r.1,iA r.2.1,bA r.2.2.1],[Ob.var 103 [AV.sl 4 (List.map A3 p_l),iA r.2.2.2,iA p_in,iA p_e,iA p_at]]):=by
 intro h;rcases n with _|n;cases h
 rw[Db] at h
 refine Am Try.func103 (by rfl) rfl rfl (Aq rfl) ?_
 intro call hc;conv=>lhs;whnf
 revert h
 refine br ?_ ?_
 exact rz
 refine ix ?_;intro x2
 refine br ?_ ?_
 exact rz
 refine ix ?_;intro x4
 refine ca hc (fun _ h=>Gj h) ?_;intro y5
 refine br ?_ ?_
 refine ix ?_;intro x8
 exact rz
 exact rz
theorem Lg {n:Nat} ⦃Fq:Int⦄ ⦃r:(List UInt8)⦄:Il n Fq=some r→CN n 71 [iA Fq] []=some (sA r,[]):=by
 intro h;rcases n with _|n;cases h
 rw[Il] at h
 refine Am Try.func71 (by rfl) rfl rfl (Aq rfl) ?_
 intro call hc;conv=>lhs;whnf
 revert h
 refine br ?_ ?_
 exact rz
 refine br ?_ ?_
 exact rz
 refine br ?_ ?_
 exact rz
 refine br ?_ ?_
 exact rz
 refine br ?_ ?_
 exact rz
 refine br ?_ ?_
 exact rz
 refine br ?_ ?_
 exact rz
 refine br ?_ ?_
 exact rz
 refine br ?_ ?_
 exact rz
 refine br ?_ ?_
 exact rz
 refine br ?_ ?_
 exact rz
 refine br ?_ ?_
 exact rz
 refine br ?_ ?_
 exact rz
 refine br ?_ ?_
 exact rz
 refine bt ?_
 exact rz
def Ml (n:Nat):Prop:=∀ ⦃p_l:(List A5)⦄ ⦃p_i:Int⦄ ⦃p_in:Int⦄ ⦃p_e:Int⦄ ⦃p_at:Int⦄ ⦃r:((List A2)×Int×Int×Int×Int)⦄,D0 n p_l p_i p_in p_e p_at=some r→CN n 59 [AV.ptr 0 0] [Ob.var 103 [AV.sl 4 (List.map A3 p_l),iA p_i,iA p_in,iA p_e,iA p_at]]=some (AV.sl 5 (List.map A1 r.1),[Ob.var 103 [AV.sl 4 (List.map A3 p_l),iA r.2.1,iA r.2.2.1,iA r.2.2.2.1,iA r.2.2.2.2]])
def On (n:Nat):Prop:=∀ ⦃p_l:(List A5)⦄ ⦃p_i:Int⦄ ⦃p_in:Int⦄ ⦃p_e:Int⦄ ⦃p_at:Int⦄ ⦃r:((List A2)×Int×Int×Int×Int)⦄,Da n p_l p_i p_in p_e p_at=some r→CN n 75 [AV.ptr 0 0] [Ob.var 103 [AV.sl 4 (List.map A3 p_l),iA p_i,iA p_in,iA p_e,iA p_at]]=some (AV.sl 5 (List.map A1 r.1),[Ob.var 103 [AV.sl 4 (List.map A3 p_l),iA r.2.1,iA r.2.2.1,iA r.2.2.2.1,iA r.2.2.2.2]])
def Lv (n:Nat):Prop:=∀ ⦃p_l:(List A5)⦄ ⦃p_i:Int⦄ ⦃p_in:Int⦄ ⦃p_e:Int⦄ ⦃p_at:Int⦄ ⦃r:((List A2)×Int×Int×Int×Int)⦄,Cm n p_l p_i p_in p_e p_at=some r→CN n 89 [AV.ptr 0 0] [Ob.var 103 [AV.sl 4 (List.map A3 p_l),iA p_i,iA p_in,iA p_e,iA p_at]]=some (AV.sl 5 (List.map A1 r.1),[Ob.var 103 [AV.sl 4 (List.map A3 p_l),iA r.2.1,iA r.2.2.1,iA r.2.2.2.1,iA r.2.2.2.2]])
def O4 (n:Nat):Prop:=∀ ⦃p_l:(List A5)⦄ ⦃p_i:Int⦄ ⦃p_in:Int⦄ ⦃p_e:Int⦄ ⦃p_at:Int⦄ ⦃r:((List A2)×Int×Int×Int×Int)⦄,F4 n p_l p_i p_in p_e p_at=some r→CN n 101 [AV.ptr 0 0,AV.func 100 [] []] [Ob.var 103 [AV.sl 4 (List.map A3 p_l),iA p_i,iA p_in,iA p_e,iA p_at]]=some (AV.sl 5 (List.map A1 r.1),[Ob.var 103 [AV.sl 4 (List.map A3 p_l),iA r.2.1,iA r.2.2.1,iA r.2.2.2.1,iA r.2.2.2.2]])
def Mx (n:Nat):Prop:=∀ ⦃p_l:(List A5)⦄ ⦃p_i:Int⦄ ⦃p_in:Int⦄ ⦃p_e:Int⦄ ⦃p_at:Int⦄ ⦃r:((List A2)×Int×Int×Int×Int)⦄,Ec n p_l p_i p_in p_e p_at=some r→CN n 101 [AV.ptr 0 0,AV.func 59 [] []] [Ob.var 103 [AV.sl 4 (List.map A3 p_l),iA p_i,iA p_in,iA p_e,iA p_at]]=some (AV.sl 5 (List.map A1 r.1),[Ob.var 103 [AV.sl 4 (List.map A3 p_l),iA r.2.1,iA r.2.2.1,iA r.2.2.2.1,iA r.2.2.2.2]])
def N0 (n:Nat):Prop:=∀ ⦃p_l:(List A5)⦄ ⦃p_i:Int⦄ ⦃p_in:Int⦄ ⦃p_e:Int⦄ ⦃p_at:Int⦄ ⦃r:((List A2)×Int×Int×Int×Int)⦄,Cq n p_l p_i p_in p_e p_at=some r→CN n 99 [AV.ptr 0 0] [Ob.var 103 [AV.sl 4 (List.map A3 p_l),iA p_i,iA p_in,iA p_e,iA p_at]]=some (AV.sl 5 (List.map A1 r.1),[Ob.var 103 [AV.sl 4 (List.map A3 p_l),iA r.2.1,iA r.2.2.1,iA r.2.2.2.1,iA r.2.2.2.2]])
def P5 (n:Nat):Prop:=∀ ⦃D4:Bool⦄ ⦃Az:(List Int)⦄ ⦃p_l:(List A5)⦄ ⦃p_i:Int⦄ ⦃p_in:Int⦄ ⦃p_e:Int⦄ ⦃p_at:Int⦄ ⦃r:((List A2)×Int×Int×Int×Int)⦄,N8 n D4 Az p_l p_i p_in p_e p_at=some r→CN n 74 [AV.ptr 0 0,AV.func 75 [] [],bA D4,AV.sl 1 (List.map Es Az)] [Ob.var 103 [AV.sl 4 (List.map A3 p_l),iA p_i,iA p_in,iA p_e,iA p_at]]=some (AV.sl 5 (List.map A1 r.1),[Ob.var 103 [AV.sl 4 (List.map A3 p_l),iA r.2.1,iA r.2.2.1,iA r.2.2.2.1,iA r.2.2.2.2]])
def Nz (n:Nat):Prop:=∀ ⦃D4:Bool⦄ ⦃Az:(List Int)⦄ ⦃p_l:(List A5)⦄ ⦃p_i:Int⦄ ⦃p_in:Int⦄ ⦃p_e:Int⦄ ⦃p_at:Int⦄ ⦃r:((List A2)×Int×Int×Int×Int)⦄,Lr n D4 Az p_l p_i p_in p_e p_at=some r→CN n 74 [AV.ptr 0 0,AV.func 89 [] [],bA D4,AV.sl 1 (List.map Es Az)] [Ob.var 103 [AV.sl 4 (List.map A3 p_l),iA p_i,iA p_in,iA p_e,iA p_at]]=some (AV.sl 5 (List.map A1 r.1),[Ob.var 103 [AV.sl 4 (List.map A3 p_l),iA r.2.1,iA r.2.2.1,iA r.2.2.2.1,iA r.2.2.2.2]])
def Nw (n:Nat):Prop:=∀ ⦃D4:Bool⦄ ⦃Az:(List Int)⦄ ⦃p_l:(List A5)⦄ ⦃p_i:Int⦄ ⦃p_in:Int⦄ ⦃p_e:Int⦄ ⦃p_at:Int⦄ ⦃r:((List A2)×Int×Int×Int×Int)⦄,Ll n D4 Az p_l p_i p_in p_e p_at=some r→CN n 74 [AV.ptr 0 0,AV.func 98 [] [],bA D4,AV.sl 1 (List.map Es Az)] [Ob.var 103 [AV.sl 4 (List.map A3 p_l),iA p_i,iA p_in,iA p_e,iA p_at]]=some (AV.sl 5 (List.map A1 r.1),[Ob.var 103 [AV.sl 4 (List.map A3 p_l),iA r.2.1,iA r.2.2.1,iA r.2.2.2.1,iA r.2.2.2.2]])
def Nv (n:Nat):Prop:=∀ ⦃D4:Bool⦄ ⦃Az:(List Int)⦄ ⦃p_l:(List A5)⦄ ⦃p_i:Int⦄ ⦃p_in:Int⦄ ⦃p_e:Int⦄ ⦃p_at:Int⦄ ⦃r:((List A2)×Int×Int×Int×Int)⦄,Li n D4 Az p_l p_i p_in p_e p_at=some r→CN n 74 [AV.ptr 0 0,AV.func 99 [] [],bA D4,AV.sl 1 (List.map Es Az)] [Ob.var 103 [AV.sl 4 (List.map A3 p_l),iA p_i,iA p_in,iA p_e,iA p_at]]=some (AV.sl 5 (List.map A1 r.1),[Ob.var 103 [AV.sl 4 (List.map A3 p_l),iA r.2.1,iA r.2.2.1,iA r.2.2.2.1,iA r.2.2.2.2]])
def Nx (n:Nat):Prop:=∀ ⦃D4:Bool⦄ ⦃Az:(List Int)⦄ ⦃p_l:(List A5)⦄ ⦃p_i:Int⦄ ⦃p_in:Int⦄ ⦃p_e:Int⦄ ⦃p_at:Int⦄ ⦃r:((List A2)×Int×Int×Int×Int)⦄,Lm n D4 Az p_l p_i p_in p_e p_at=some r→CN n 74 [AV.ptr 0 0,AV.func 100 [] [],bA D4,AV.sl 1 (List.map Es Az)] [Ob.var 103 [AV.sl 4 (List.map A3 p_l),iA p_i,iA p_in,iA p_e,iA p_at]]=some (AV.sl 5 (List.map A1 r.1),[Ob.var 103 [AV.sl 4 (List.map A3 p_l),iA r.2.1,iA r.2.2.1,iA r.2.2.2.1,iA r.2.2.2.2]])
def Nk (n:Nat):Prop:=∀ ⦃p_l:(List A5)⦄ ⦃p_i:Int⦄ ⦃p_in:Int⦄ ⦃p_e:Int⦄ ⦃p_at:Int⦄ ⦃r:((List A2)×Int×Int×Int×Int)⦄,Bq n p_l p_i p_in p_e p_at=some r→CN n 100 [AV.ptr 0 0] [Ob.var 103 [AV.sl 4 (List.map A3 p_l),iA p_i,iA p_in,iA p_e,iA p_at]]=some (AV.sl 5 (List.map A1 r.1),[Ob.var 103 [AV.sl 4 (List.map A3 p_l),iA r.2.1,iA r.2.2.1,iA r.2.2.2.1,iA r.2.2.2.2]])
def P2 (n:Nat):Prop:=∀ ⦃p_l:(List A5)⦄ ⦃p_i:Int⦄ ⦃p_in:Int⦄ ⦃p_e:Int⦄ ⦃p_at:Int⦄ ⦃r:((List A2)×Int×Int×Int×Int)⦄,Do n p_l p_i p_in p_e p_at=some r→CN n 98 [AV.ptr 0 0] [Ob.var 103 [AV.sl 4 (List.map A3 p_l),iA p_i,iA p_in,iA p_e,iA p_at]]=some (AV.sl 5 (List.map A1 r.1),[Ob.var 103 [AV.sl 4 (List.map A3 p_l),iA r.2.1,iA r.2.2.1,iA r.2.2.2.1,iA r.2.2.2.2]])
def Cs (n:Nat):Prop:=Ml n∧On n∧Lv n∧O4 n∧Mx n∧N0 n∧P5 n∧Nz n∧Nw n∧Nv n∧Nx n∧Nk n∧P2 n
theorem A1b (n:Nat) (ih:Cs n):Ml (n+1):=by
 intro p_l p_i p_in p_e p_at r h
 rw[D0] at h
 refine Am Try.func59 (by rfl) rfl rfl (Aq rfl) ?_
 intro call hc;conv=>lhs;whnf
 revert h
 refine cr hc (fun y1 h=>(show CN n 74 [AV.ptr 0 0,AV.func 75 [] [],bA false,AV.sl 1 [[iA (14)]]] [Ob.var 103 [AV.sl 4 (List.map A3 p_l),iA p_i,iA p_in,iA p_e,iA p_at]]=some (AV.sl 5 (List.map A1 y1.1),[Ob.var 103 [AV.sl 4 (List.map A3 p_l),iA y1.2.1,iA y1.2.2.1,iA y1.2.2.2.1,iA y1.2.2.2.2]]) from ih.2.2.2.2.2.2.1 (r:=y1) h)) ?_;intro y1
 exact rz
theorem A13 (n:Nat) (ih:Cs n):On (n+1):=by
 intro p_l p_i p_in p_e p_at r h
 rw[Da] at h
 refine Am Try.func75 (by rfl) rfl rfl (Aq rfl) ?_
 intro call hc;conv=>lhs;whnf
 revert h
 refine cr hc (fun y1 h=>(show CN n 74 [AV.ptr 0 0,AV.func 89 [] [],bA false,AV.sl 1 [[iA (13)]]] [Ob.var 103 [AV.sl 4 (List.map A3 p_l),iA p_i,iA p_in,iA p_e,iA p_at]]=some (AV.sl 5 (List.map A1 y1.1),[Ob.var 103 [AV.sl 4 (List.map A3 p_l),iA y1.2.1,iA y1.2.2.1,iA y1.2.2.2.1,iA y1.2.2.2.2]]) from ih.2.2.2.2.2.2.2.1 (r:=y1) h)) ?_;intro y1
 exact rz
theorem X8 (n:Nat) (ih:Cs n):Lv (n+1):=by
 intro p_l p_i p_in p_e p_at r h
 rw[Cm] at h
 refine Am Try.func89 (by rfl) rfl rfl (Aq rfl) ?_
 intro call hc;conv=>lhs;whnf
 revert h
 refine cr hc (fun y1 h=>(show CN n 74 [AV.ptr 0 0,AV.func 98 [] [],bA true,AV.sl 1 [[iA (9)],[iA (10)],[iA (11)],[iA (12)]]] [Ob.var 103 [AV.sl 4 (List.map A3 p_l),iA p_i,iA p_in,iA p_e,iA p_at]]=some (AV.sl 5 (List.map A1 y1.1),[Ob.var 103 [AV.sl 4 (List.map A3 p_l),iA y1.2.1,iA y1.2.2.1,iA y1.2.2.2.1,iA y1.2.2.2.2]]) from ih.2.2.2.2.2.2.2.2.1 (r:=y1) h)) ?_;intro y1
 exact rz
theorem Zr (n:Nat) (ih:Cs n):O4 (n+1):=by
 intro p_l p_i p_in p_e p_at r h
 rw[F4] at h
 refine Am Try.func101 (by rfl) rfl rfl (Aq rfl) ?_
 intro call hc;conv=>lhs;whnf
 revert h
 refine br ?_ ?_
 refine ca hc (fun _ h=>G2 h) ?_;intro y2
 exact rz
 refine ca hc (fun _ h=>ih.2.2.2.2.2.2.2.2.2.2.2.1 h) ?_;intro y4
 exact rz
theorem Y7 (n:Nat) (ih:Cs n):Mx (n+1):=by
 intro p_l p_i p_in p_e p_at r h
 rw[Ec] at h
 refine Am Try.func101 (by rfl) rfl rfl (Aq rfl) ?_
 intro call hc;conv=>lhs;whnf
 revert h
 refine br ?_ ?_
 refine ca hc (fun _ h=>G2 h) ?_;intro y2
 exact rz
 refine ca hc (fun _ h=>ih.1 h) ?_;intro y4
 exact rz
theorem Yd (n:Nat) (ih:Cs n):N0 (n+1):=by
 intro p_l p_i p_in p_e p_at r h
 rw[Cq] at h
 refine Am Try.func99 (by rfl) rfl rfl (Aq rfl) ?_
 intro call hc;conv=>lhs;whnf
 revert h
 refine cr hc (fun y1 h=>(show CN n 74 [AV.ptr 0 0,AV.func 100 [] [],bA false,AV.sl 1 [[iA (8)]]] [Ob.var 103 [AV.sl 4 (List.map A3 p_l),iA p_i,iA p_in,iA p_e,iA p_at]]=some (AV.sl 5 (List.map A1 y1.1),[Ob.var 103 [AV.sl 4 (List.map A3 p_l),iA y1.2.1,iA y1.2.2.1,iA y1.2.2.2.1,iA y1.2.2.2.2]]) from ih.2.2.2.2.2.2.2.2.2.2.1 (r:=y1) h)) ?_;intro y1
 exact rz
theorem A2v (n:Nat) (ih:Cs n):P5 (n+1):=by
 intro D4 Az p_l p_i p_in p_e p_at r h
 rw[N8] at h
 refine Am Try.func74 (by rfl) rfl rfl (Aq rfl) ?_
 intro call hc;conv=>lhs;whnf
 revert h
 refine ca hc (fun _ h=>ih.2.1 h) ?_;intro y1
 intro h;refine B0 h ?_;clear h;intro o16 ho16 h
 refine lq (σ:=(Bool×(List A2)×Int×Int×Int×Int)) (τ:=((List A2)×Int×Int×Int×Int)) (ν:=((List A2)×Int×Int×Int×Int)) 0 (fun(s3,s4,s5,s6,s7,s8) a10=>Bo 67 [(0,AV.ptr 0 0),(1,AV.func 75 [] []),(2,bA s3),(3,AV.sl 1 (List.map Es Az)),(9,AV.sl 5 (List.map A1 s4))]) (fun(s3,s4,s5,s6,s7,s8) a10=>[Ob.var 103 [AV.sl 4 (List.map A3 p_l),iA s5,iA s6,iA s7,iA s8]]) (fun(x46,x47,x48,x49,x50) a45=>Bo 67 [(9,AV.sl 5 (List.map A1 x46))]) (fun(x46,x47,x48,x49,x50) a45=>[Ob.var 103 [AV.sl 4 (List.map A3 p_l),iA x47,iA x48,iA x49,iA x50]]) (fun v=>(AV.sl 5 (List.map A1 v.1),[Ob.var 103 [AV.sl 4 (List.map A3 p_l),iA v.2.1,iA v.2.2.1,iA v.2.2.2.1,iA v.2.2.2.2]])) (fun k s=>Bd n (Da n) Az p_l k s.1 s.2.1 s.2.2.1 s.2.2.2.1 s.2.2.2.2.1 s.2.2.2.2.2) (fun s=>rfl) o16 n (D4,y1.1,y1.2.1,y1.2.2.1,y1.2.2.2.1,y1.2.2.2.2) (fun _=>0) ho16 ?_ ?_
 intro k9 ss a10 K11 cont12 hK13 hcont14 h hr15
 obtain⟨s3,s4,s5,s6,s7,s8⟩:=ss
 replace h:Bd n (Da n) Az p_l (k9+1) s3 s4 s5 s6 s7 s8=some o16:=h
 rw[Bd] at h
 conv=>lhs;whnf
 revert h
 refine br ?_ ?_
 intro h;refine B0 h ?_;clear h;intro o27 ho27 h
 refine lq (σ:=(Int×Int)) (τ:=Int) (ν:=((List A2)×Int×Int×Int×Int)) 2 (fun(s18,s19) a21=>Bo 67 [(0,AV.ptr 0 0),(1,AV.func 75 [] []),(2,bA s3),(3,AV.sl 1 (List.map Es Az)),(9,AV.sl 5 (List.map A1 s4)),(10,iA s18),(23,AV.sl 1 (List.map Es Az)),(24,iA (((Az.length:Nat):Int))),(25,iA s19)]) (fun(s18,s19) a21=>[Ob.var 103 [AV.sl 4 (List.map A3 p_l),iA s5,iA s6,iA s7,iA s8]]) (fun x36 a35=>Bo 67 [(0,AV.ptr 0 0),(1,AV.func 75 [] []),(2,bA s3),(3,AV.sl 1 (List.map Es Az)),(9,AV.sl 5 (List.map A1 s4)),(10,iA x36)]) (fun x36 a35=>[Ob.var 103 [AV.sl 4 (List.map A3 p_l),iA s5,iA s6,iA s7,iA s8]]) (fun v=>(AV.sl 5 (List.map A1 v.1),[Ob.var 103 [AV.sl 4 (List.map A3 p_l),iA v.2.1,iA v.2.2.1,iA v.2.2.2.1,iA v.2.2.2.2]])) (fun k s=>Bu n Az p_l s5 s6 s7 s8 k s.1 s.2) (fun s=>rfl) o27 n (0,0) (fun _=>0) ho27 ?_ ?_
 intro k20 ss a21 K22 cont23 hK24 hcont25 h hr26
 obtain⟨s18,s19⟩:=ss
 replace h:Bu n Az p_l s5 s6 s7 s8 (k20+1) s18 s19=some o27:=h
 rw[Bu] at h
 conv=>lhs;whnf
 revert h
 refine br ?_ ?_
 refine ix ?_;intro x29
 refine ca hc (fun _ h=>Lg h) ?_;intro y30
 refine ca hc (fun _ h=>Ee h) ?_;intro y32
 refine br ?_ ?_
 exact fun h=>cq (hcont25 (x29,IntKind.i64.wrap (s19+1)) (fun _=>0) h)
 exact fun h=>cq (hcont25 (s18,IntKind.i64.wrap (s19+1)) (fun _=>0) h)
 intro h;cases sj h
 exact kq (hr26 (fun _=>0))
 refine lrc ?_ ?_
 intro v e;subst e;cases sj h;exact hr15
 intro x36 a35 e;subst e
 dsimp only at h
 conv=>lhs;whnf
 revert h
 refine br ?_ ?_
 intro h;cases sj h
 exact kq (hr15 (fun _=>0))
 refine ix ?_;intro x38
 refine ca hc (fun _ h=>ih.2.1 h) ?_;intro y39
 refine cr hc (fun y41 h=>(show CN n 88 [AV.agg [iA x36,iA (0),sA (([]:List UInt8)),sA (([]:List UInt8)),iA x38.Ao],AV.sl 1 [[AV.sl 5 (List.map A1 s4)],[AV.sl 5 (List.map A1 y39.1)]]] []=some (AV.sl 5 (List.map A1 y41),[]) from Gk (r:=y41) h)) ?_;intro y41
 refine br ?_ ?_
 intro h;cases sj h
 exact kq (hr15 (fun _=>0))
 exact fun h=>cq (hcont14 (false,y41,y39.2.1,y39.2.2.1,y39.2.2.2.1,y39.2.2.2.2) (fun _=>0) h)
 intro h;cases sj h
 exact kq (hr15 (fun _=>0))
 refine lrc ?_ ?_
 intro v e;subst e;cases sj h;rfl
 intro t a45 e;subst e
 obtain⟨x46,x47,x48,x49,x50⟩:=t
 dsimp only at h
 conv=>lhs;whnf
 revert h
 exact rz
theorem Zt (n:Nat) (ih:Cs n):Nz (n+1):=by
 intro D4 Az p_l p_i p_in p_e p_at r h
 rw[Lr] at h
 refine Am Try.func74 (by rfl) rfl rfl (Aq rfl) ?_
 intro call hc;conv=>lhs;whnf
 revert h
 refine ca hc (fun _ h=>ih.2.2.1 h) ?_;intro y1
 intro h;refine B0 h ?_;clear h;intro o16 ho16 h
 refine lq (σ:=(Bool×(List A2)×Int×Int×Int×Int)) (τ:=((List A2)×Int×Int×Int×Int)) (ν:=((List A2)×Int×Int×Int×Int)) 0 (fun(s3,s4,s5,s6,s7,s8) a10=>Bo 67 [(0,AV.ptr 0 0),(1,AV.func 89 [] []),(2,bA s3),(3,AV.sl 1 (List.map Es Az)),(9,AV.sl 5 (List.map A1 s4))]) (fun(s3,s4,s5,s6,s7,s8) a10=>[Ob.var 103 [AV.sl 4 (List.map A3 p_l),iA s5,iA s6,iA s7,iA s8]]) (fun(x46,x47,x48,x49,x50) a45=>Bo 67 [(9,AV.sl 5 (List.map A1 x46))]) (fun(x46,x47,x48,x49,x50) a45=>[Ob.var 103 [AV.sl 4 (List.map A3 p_l),iA x47,iA x48,iA x49,iA x50]]) (fun v=>(AV.sl 5 (List.map A1 v.1),[Ob.var 103 [AV.sl 4 (List.map A3 p_l),iA v.2.1,iA v.2.2.1,iA v.2.2.2.1,iA v.2.2.2.2]])) (fun k s=>Fg n (Cm n) Az p_l k s.1 s.2.1 s.2.2.1 s.2.2.2.1 s.2.2.2.2.1 s.2.2.2.2.2) (fun s=>rfl) o16 n (D4,y1.1,y1.2.1,y1.2.2.1,y1.2.2.2.1,y1.2.2.2.2) (fun _=>0) ho16 ?_ ?_
 intro k9 ss a10 K11 cont12 hK13 hcont14 h hr15
 obtain⟨s3,s4,s5,s6,s7,s8⟩:=ss
 replace h:Fg n (Cm n) Az p_l (k9+1) s3 s4 s5 s6 s7 s8=some o16:=h
 rw[Fg] at h
 conv=>lhs;whnf
 revert h
 refine br ?_ ?_
 intro h;refine B0 h ?_;clear h;intro o27 ho27 h
 refine lq (σ:=(Int×Int)) (τ:=Int) (ν:=((List A2)×Int×Int×Int×Int)) 2 (fun(s18,s19) a21=>Bo 67 [(0,AV.ptr 0 0),(1,AV.func 89 [] []),(2,bA s3),(3,AV.sl 1 (List.map Es Az)),(9,AV.sl 5 (List.map A1 s4)),(10,iA s18),(23,AV.sl 1 (List.map Es Az)),(24,iA (((Az.length:Nat):Int))),(25,iA s19)]) (fun(s18,s19) a21=>[Ob.var 103 [AV.sl 4 (List.map A3 p_l),iA s5,iA s6,iA s7,iA s8]]) (fun x36 a35=>Bo 67 [(0,AV.ptr 0 0),(1,AV.func 89 [] []),(2,bA s3),(3,AV.sl 1 (List.map Es Az)),(9,AV.sl 5 (List.map A1 s4)),(10,iA x36)]) (fun x36 a35=>[Ob.var 103 [AV.sl 4 (List.map A3 p_l),iA s5,iA s6,iA s7,iA s8]]) (fun v=>(AV.sl 5 (List.map A1 v.1),[Ob.var 103 [AV.sl 4 (List.map A3 p_l),iA v.2.1,iA v.2.2.1,iA v.2.2.2.1,iA v.2.2.2.2]])) (fun k s=>El n Az p_l s5 s6 s7 s8 k s.1 s.2) (fun s=>rfl) o27 n (0,0) (fun _=>0) ho27 ?_ ?_
 intro k20 ss a21 K22 cont23 hK24 hcont25 h hr26
 obtain⟨s18,s19⟩:=ss
 replace h:El n Az p_l s5 s6 s7 s8 (k20+1) s18 s19=some o27:=h
 rw[El] at h
 conv=>lhs;whnf
 revert h
 refine br ?_ ?_
 refine ix ?_;intro x29
 refine ca hc (fun _ h=>Lg h) ?_;intro y30
 refine ca hc (fun _ h=>Ee h) ?_;intro y32
 refine br ?_ ?_
 exact fun h=>cq (hcont25 (x29,IntKind.i64.wrap (s19+1)) (fun _=>0) h)
 exact fun h=>cq (hcont25 (s18,IntKind.i64.wrap (s19+1)) (fun _=>0) h)
 intro h;cases sj h
 exact kq (hr26 (fun _=>0))
 refine lrc ?_ ?_
 intro v e;subst e;cases sj h;exact hr15
 intro x36 a35 e;subst e
 dsimp only at h
 conv=>lhs;whnf
 revert h
 refine br ?_ ?_
 intro h;cases sj h
 exact kq (hr15 (fun _=>0))
 refine ix ?_;intro x38
 refine ca hc (fun _ h=>ih.2.2.1 h) ?_;intro y39
 refine cr hc (fun y41 h=>(show CN n 88 [AV.agg [iA x36,iA (0),sA (([]:List UInt8)),sA (([]:List UInt8)),iA x38.Ao],AV.sl 1 [[AV.sl 5 (List.map A1 s4)],[AV.sl 5 (List.map A1 y39.1)]]] []=some (AV.sl 5 (List.map A1 y41),[]) from Gk (r:=y41) h)) ?_;intro y41
 refine br ?_ ?_
 intro h;cases sj h
 exact kq (hr15 (fun _=>0))
 exact fun h=>cq (hcont14 (false,y41,y39.2.1,y39.2.2.1,y39.2.2.2.1,y39.2.2.2.2) (fun _=>0) h)
 intro h;cases sj h
 exact kq (hr15 (fun _=>0))
 refine lrc ?_ ?_
 intro v e;subst e;cases sj h;rfl
 intro t a45 e;subst e
 obtain⟨x46,x47,x48,x49,x50⟩:=t
 dsimp only at h
 conv=>lhs;whnf
 revert h
 exact rz
theorem Zw (n:Nat) (ih:Cs n):Nw (n+1):=by
 intro D4 Az p_l p_i p_in p_e p_at r h
 rw[Ll] at h
 refine Am Try.func74 (by rfl) rfl rfl (Aq rfl) ?_
 intro call hc;conv=>lhs;whnf
 revert h
 refine ca hc (fun _ h=>ih.2.2.2.2.2.2.2.2.2.2.2.2 h) ?_;intro y1
 intro h;refine B0 h ?_;clear h;intro o16 ho16 h
 refine lq (σ:=(Bool×(List A2)×Int×Int×Int×Int)) (τ:=((List A2)×Int×Int×Int×Int)) (ν:=((List A2)×Int×Int×Int×Int)) 0 (fun(s3,s4,s5,s6,s7,s8) a10=>Bo 67 [(0,AV.ptr 0 0),(1,AV.func 98 [] []),(2,bA s3),(3,AV.sl 1 (List.map Es Az)),(9,AV.sl 5 (List.map A1 s4))]) (fun(s3,s4,s5,s6,s7,s8) a10=>[Ob.var 103 [AV.sl 4 (List.map A3 p_l),iA s5,iA s6,iA s7,iA s8]]) (fun(x46,x47,x48,x49,x50) a45=>Bo 67 [(9,AV.sl 5 (List.map A1 x46))]) (fun(x46,x47,x48,x49,x50) a45=>[Ob.var 103 [AV.sl 4 (List.map A3 p_l),iA x47,iA x48,iA x49,iA x50]]) (fun v=>(AV.sl 5 (List.map A1 v.1),[Ob.var 103 [AV.sl 4 (List.map A3 p_l),iA v.2.1,iA v.2.2.1,iA v.2.2.2.1,iA v.2.2.2.2]])) (fun k s=>Fh n (Do n) Az p_l k s.1 s.2.1 s.2.2.1 s.2.2.2.1 s.2.2.2.2.1 s.2.2.2.2.2) (fun s=>rfl) o16 n (D4,y1.1,y1.2.1,y1.2.2.1,y1.2.2.2.1,y1.2.2.2.2) (fun _=>0) ho16 ?_ ?_
 intro k9 ss a10 K11 cont12 hK13 hcont14 h hr15
 obtain⟨s3,s4,s5,s6,s7,s8⟩:=ss
 replace h:Fh n (Do n) Az p_l (k9+1) s3 s4 s5 s6 s7 s8=some o16:=h
 rw[Fh] at h
 conv=>lhs;whnf
 revert h
 refine br ?_ ?_
 intro h;refine B0 h ?_;clear h;intro o27 ho27 h
 refine lq (σ:=(Int×Int)) (τ:=Int) (ν:=((List A2)×Int×Int×Int×Int)) 2 (fun(s18,s19) a21=>Bo 67 [(0,AV.ptr 0 0),(1,AV.func 98 [] []),(2,bA s3),(3,AV.sl 1 (List.map Es Az)),(9,AV.sl 5 (List.map A1 s4)),(10,iA s18),(23,AV.sl 1 (List.map Es Az)),(24,iA (((Az.length:Nat):Int))),(25,iA s19)]) (fun(s18,s19) a21=>[Ob.var 103 [AV.sl 4 (List.map A3 p_l),iA s5,iA s6,iA s7,iA s8]]) (fun x36 a35=>Bo 67 [(0,AV.ptr 0 0),(1,AV.func 98 [] []),(2,bA s3),(3,AV.sl 1 (List.map Es Az)),(9,AV.sl 5 (List.map A1 s4)),(10,iA x36)]) (fun x36 a35=>[Ob.var 103 [AV.sl 4 (List.map A3 p_l),iA s5,iA s6,iA s7,iA s8]]) (fun v=>(AV.sl 5 (List.map A1 v.1),[Ob.var 103 [AV.sl 4 (List.map A3 p_l),iA v.2.1,iA v.2.2.1,iA v.2.2.2.1,iA v.2.2.2.2]])) (fun k s=>Eo n Az p_l s5 s6 s7 s8 k s.1 s.2) (fun s=>rfl) o27 n (0,0) (fun _=>0) ho27 ?_ ?_
 intro k20 ss a21 K22 cont23 hK24 hcont25 h hr26
 obtain⟨s18,s19⟩:=ss
 replace h:Eo n Az p_l s5 s6 s7 s8 (k20+1) s18 s19=some o27:=h
 rw[Eo] at h
 conv=>lhs;whnf
 revert h
 refine br ?_ ?_
 refine ix ?_;intro x29
 refine ca hc (fun _ h=>Lg h) ?_;intro y30
 refine ca hc (fun _ h=>Ee h) ?_;intro y32
 refine br ?_ ?_
 exact fun h=>cq (hcont25 (x29,IntKind.i64.wrap (s19+1)) (fun _=>0) h)
 exact fun h=>cq (hcont25 (s18,IntKind.i64.wrap (s19+1)) (fun _=>0) h)
 intro h;cases sj h
 exact kq (hr26 (fun _=>0))
 refine lrc ?_ ?_
 intro v e;subst e;cases sj h;exact hr15
 intro x36 a35 e;subst e
 dsimp only at h
 conv=>lhs;whnf
 revert h
 refine br ?_ ?_
 intro h;cases sj h
 exact kq (hr15 (fun _=>0))
 refine ix ?_;intro x38
 refine ca hc (fun _ h=>ih.2.2.2.2.2.2.2.2.2.2.2.2 h) ?_;intro y39
 refine cr hc (fun y41 h=>(show CN n 88 [AV.agg [iA x36,iA (0),sA (([]:List UInt8)),sA (([]:List UInt8)),iA x38.Ao],AV.sl 1 [[AV.sl 5 (List.map A1 s4)],[AV.sl 5 (List.map A1 y39.1)]]] []=some (AV.sl 5 (List.map A1 y41),[]) from Gk (r:=y41) h)) ?_;intro y41
 refine br ?_ ?_
 intro h;cases sj h
 exact kq (hr15 (fun _=>0))
 exact fun h=>cq (hcont14 (false,y41,y39.2.1,y39.2.2.1,y39.2.2.2.1,y39.2.2.2.2) (fun _=>0) h)
 intro h;cases sj h
 exact kq (hr15 (fun _=>0))
 refine lrc ?_ ?_
 intro v e;subst e;cases sj h;rfl
 intro t a45 e;subst e
 obtain⟨x46,x47,x48,x49,x50⟩:=t
 dsimp only at h
 conv=>lhs;whnf
 revert h
 exact rz
theorem Zv (n:Nat) (ih:Cs n):Nv (n+1):=by
 intro D4 Az p_l p_i p_in p_e p_at r h
 rw[Li] at h
 refine Am Try.func74 (by rfl) rfl rfl (Aq rfl) ?_
 intro call hc;conv=>lhs;whnf
 revert h
 refine ca hc (fun _ h=>ih.2.2.2.2.2.1 h) ?_;intro y1
 intro h;refine B0 h ?_;clear h;intro o16 ho16 h
 refine lq (σ:=(Bool×(List A2)×Int×Int×Int×Int)) (τ:=((List A2)×Int×Int×Int×Int)) (ν:=((List A2)×Int×Int×Int×Int)) 0 (fun(s3,s4,s5,s6,s7,s8) a10=>Bo 67 [(0,AV.ptr 0 0),(1,AV.func 99 [] []),(2,bA s3),(3,AV.sl 1 (List.map Es Az)),(9,AV.sl 5 (List.map A1 s4))]) (fun(s3,s4,s5,s6,s7,s8) a10=>[Ob.var 103 [AV.sl 4 (List.map A3 p_l),iA s5,iA s6,iA s7,iA s8]]) (fun(x46,x47,x48,x49,x50) a45=>Bo 67 [(9,AV.sl 5 (List.map A1 x46))]) (fun(x46,x47,x48,x49,x50) a45=>[Ob.var 103 [AV.sl 4 (List.map A3 p_l),iA x47,iA x48,iA x49,iA x50]]) (fun v=>(AV.sl 5 (List.map A1 v.1),[Ob.var 103 [AV.sl 4 (List.map A3 p_l),iA v.2.1,iA v.2.2.1,iA v.2.2.2.1,iA v.2.2.2.2]])) (fun k s=>Ff n (Cq n) Az p_l k s.1 s.2.1 s.2.2.1 s.2.2.2.1 s.2.2.2.2.1 s.2.2.2.2.2) (fun s=>rfl) o16 n (D4,y1.1,y1.2.1,y1.2.2.1,y1.2.2.2.1,y1.2.2.2.2) (fun _=>0) ho16 ?_ ?_
 intro k9 ss a10 K11 cont12 hK13 hcont14 h hr15
 obtain⟨s3,s4,s5,s6,s7,s8⟩:=ss
 replace h:Ff n (Cq n) Az p_l (k9+1) s3 s4 s5 s6 s7 s8=some o16:=h
 rw[Ff] at h
 conv=>lhs;whnf
 revert h
 refine br ?_ ?_
 intro h;refine B0 h ?_;clear h;intro o27 ho27 h
 refine lq (σ:=(Int×Int)) (τ:=Int) (ν:=((List A2)×Int×Int×Int×Int)) 2 (fun(s18,s19) a21=>Bo 67 [(0,AV.ptr 0 0),(1,AV.func 99 [] []),(2,bA s3),(3,AV.sl 1 (List.map Es Az)),(9,AV.sl 5 (List.map A1 s4)),(10,iA s18),(23,AV.sl 1 (List.map Es Az)),(24,iA (((Az.length:Nat):Int))),(25,iA s19)]) (fun(s18,s19) a21=>[Ob.var 103 [AV.sl 4 (List.map A3 p_l),iA s5,iA s6,iA s7,iA s8]]) (fun x36 a35=>Bo 67 [(0,AV.ptr 0 0),(1,AV.func 99 [] []),(2,bA s3),(3,AV.sl 1 (List.map Es Az)),(9,AV.sl 5 (List.map A1 s4)),(10,iA x36)]) (fun x36 a35=>[Ob.var 103 [AV.sl 4 (List.map A3 p_l),iA s5,iA s6,iA s7,iA s8]]) (fun v=>(AV.sl 5 (List.map A1 v.1),[Ob.var 103 [AV.sl 4 (List.map A3 p_l),iA v.2.1,iA v.2.2.1,iA v.2.2.2.1,iA v.2.2.2.2]])) (fun k s=>Em n Az p_l s5 s6 s7 s8 k s.1 s.2) (fun s=>rfl) o27 n (0,0) (fun _=>0) ho27 ?_ ?_
 intro k20 ss a21 K22 cont23 hK24 hcont25 h hr26
 obtain⟨s18,s19⟩:=ss
 replace h:Em n Az p_l s5 s6 s7 s8 (k20+1) s18 s19=some o27:=h
 rw[Em] at h
 conv=>lhs;whnf
 revert h
 refine br ?_ ?_
 refine ix ?_;intro x29
 refine ca hc (fun _ h=>Lg h) ?_;intro y30
 refine ca hc (fun _ h=>Ee h) ?_;intro y32
 refine br ?_ ?_
 exact fun h=>cq (hcont25 (x29,IntKind.i64.wrap (s19+1)) (fun _=>0) h)
 exact fun h=>cq (hcont25 (s18,IntKind.i64.wrap (s19+1)) (fun _=>0) h)
 intro h;cases sj h
 exact kq (hr26 (fun _=>0))
 refine lrc ?_ ?_
 intro v e;subst e;cases sj h;exact hr15
 intro x36 a35 e;subst e
 dsimp only at h
 conv=>lhs;whnf
 revert h
 refine br ?_ ?_
 intro h;cases sj h
 exact kq (hr15 (fun _=>0))
 refine ix ?_;intro x38
 refine ca hc (fun _ h=>ih.2.2.2.2.2.1 h) ?_;intro y39
 refine cr hc (fun y41 h=>(show CN n 88 [AV.agg [iA x36,iA (0),sA (([]:List UInt8)),sA (([]:List UInt8)),iA x38.Ao],AV.sl 1 [[AV.sl 5 (List.map A1 s4)],[AV.sl 5 (List.map A1 y39.1)]]] []=some (AV.sl 5 (List.map A1 y41),[]) from Gk (r:=y41) h)) ?_;intro y41
 refine br ?_ ?_
 intro h;cases sj h
 exact kq (hr15 (fun _=>0))
 exact fun h=>cq (hcont14 (false,y41,y39.2.1,y39.2.2.1,y39.2.2.2.1,y39.2.2.2.2) (fun _=>0) h)
 intro h;cases sj h
 exact kq (hr15 (fun _=>0))
 refine lrc ?_ ?_
 intro v e;subst e;cases sj h;rfl
 intro t a45 e;subst e
 obtain⟨x46,x47,x48,x49,x50⟩:=t
 dsimp only at h
 conv=>lhs;whnf
 revert h
 exact rz
theorem A0c (n:Nat) (ih:Cs n):Nx (n+1):=by
 intro D4 Az p_l p_i p_in p_e p_at r h
 rw[Lm] at h
 refine Am Try.func74 (by rfl) rfl rfl (Aq rfl) ?_
 intro call hc;conv=>lhs;whnf
 revert h
 refine ca hc (fun _ h=>ih.2.2.2.2.2.2.2.2.2.2.2.1 h) ?_;intro y1
 intro h;refine B0 h ?_;clear h;intro o16 ho16 h
 refine lq (σ:=(Bool×(List A2)×Int×Int×Int×Int)) (τ:=((List A2)×Int×Int×Int×Int)) (ν:=((List A2)×Int×Int×Int×Int)) 0 (fun(s3,s4,s5,s6,s7,s8) a10=>Bo 67 [(0,AV.ptr 0 0),(1,AV.func 100 [] []),(2,bA s3),(3,AV.sl 1 (List.map Es Az)),(9,AV.sl 5 (List.map A1 s4))]) (fun(s3,s4,s5,s6,s7,s8) a10=>[Ob.var 103 [AV.sl 4 (List.map A3 p_l),iA s5,iA s6,iA s7,iA s8]]) (fun(x46,x47,x48,x49,x50) a45=>Bo 67 [(9,AV.sl 5 (List.map A1 x46))]) (fun(x46,x47,x48,x49,x50) a45=>[Ob.var 103 [AV.sl 4 (List.map A3 p_l),iA x47,iA x48,iA x49,iA x50]]) (fun v=>(AV.sl 5 (List.map A1 v.1),[Ob.var 103 [AV.sl 4 (List.map A3 p_l),iA v.2.1,iA v.2.2.1,iA v.2.2.2.1,iA v.2.2.2.2]])) (fun k s=>Fi n (Bq n) Az p_l k s.1 s.2.1 s.2.2.1 s.2.2.2.1 s.2.2.2.2.1 s.2.2.2.2.2) (fun s=>rfl) o16 n (D4,y1.1,y1.2.1,y1.2.2.1,y1.2.2.2.1,y1.2.2.2.2) (fun _=>0) ho16 ?_ ?_
 intro k9 ss a10 K11 cont12 hK13 hcont14 h hr15
 obtain⟨s3,s4,s5,s6,s7,s8⟩:=ss
 replace h:Fi n (Bq n) Az p_l (k9+1) s3 s4 s5 s6 s7 s8=some o16:=h
 rw[Fi] at h
 conv=>lhs;whnf
 revert h
 refine br ?_ ?_
 intro h;refine B0 h ?_;clear h;intro o27 ho27 h
 refine lq (σ:=(Int×Int)) (τ:=Int) (ν:=((List A2)×Int×Int×Int×Int)) 2 (fun(s18,s19) a21=>Bo 67 [(0,AV.ptr 0 0),(1,AV.func 100 [] []),(2,bA s3),(3,AV.sl 1 (List.map Es Az)),(9,AV.sl 5 (List.map A1 s4)),(10,iA s18),(23,AV.sl 1 (List.map Es Az)),(24,iA (((Az.length:Nat):Int))),(25,iA s19)]) (fun(s18,s19) a21=>[Ob.var 103 [AV.sl 4 (List.map A3 p_l),iA s5,iA s6,iA s7,iA s8]]) (fun x36 a35=>Bo 67 [(0,AV.ptr 0 0),(1,AV.func 100 [] []),(2,bA s3),(3,AV.sl 1 (List.map Es Az)),(9,AV.sl 5 (List.map A1 s4)),(10,iA x36)]) (fun x36 a35=>[Ob.var 103 [AV.sl 4 (List.map A3 p_l),iA s5,iA s6,iA s7,iA s8]]) (fun v=>(AV.sl 5 (List.map A1 v.1),[Ob.var 103 [AV.sl 4 (List.map A3 p_l),iA v.2.1,iA v.2.2.1,iA v.2.2.2.1,iA v.2.2.2.2]])) (fun k s=>Et n Az p_l s5 s6 s7 s8 k s.1 s.2) (fun s=>rfl) o27 n (0,0) (fun _=>0) ho27 ?_ ?_
 intro k20 ss a21 K22 cont23 hK24 hcont25 h hr26
 obtain⟨s18,s19⟩:=ss
 replace h:Et n Az p_l s5 s6 s7 s8 (k20+1) s18 s19=some o27:=h
 rw[Et] at h
 conv=>lhs;whnf
 revert h
 refine br ?_ ?_
 refine ix ?_;intro x29
 refine ca hc (fun _ h=>Lg h) ?_;intro y30
 refine ca hc (fun _ h=>Ee h) ?_;intro y32
 refine br ?_ ?_
 exact fun h=>cq (hcont25 (x29,IntKind.i64.wrap (s19+1)) (fun _=>0) h)
 exact fun h=>cq (hcont25 (s18,IntKind.i64.wrap (s19+1)) (fun _=>0) h)
 intro h;cases sj h
 exact kq (hr26 (fun _=>0))
 refine lrc ?_ ?_
 intro v e;subst e;cases sj h;exact hr15
 intro x36 a35 e;subst e
 dsimp only at h
 conv=>lhs;whnf
 revert h
 refine br ?_ ?_
 intro h;cases sj h
 exact kq (hr15 (fun _=>0))
 refine ix ?_;intro x38
 refine ca hc (fun _ h=>ih.2.2.2.2.2.2.2.2.2.2.2.1 h) ?_;intro y39
 refine cr hc (fun y41 h=>(show CN n 88 [AV.agg [iA x36,iA (0),sA (([]:List UInt8)),sA (([]:List UInt8)),iA x38.Ao],AV.sl 1 [[AV.sl 5 (List.map A1 s4)],[AV.sl 5 (List.map A1 y39.1)]]] []=some (AV.sl 5 (List.map A1 y41),[]) from Gk (r:=y41) h)) ?_;intro y41
 refine br ?_ ?_
 intro h;cases sj h
 exact kq (hr15 (fun _=>0))
 exact fun h=>cq (hcont14 (false,y41,y39.2.1,y39.2.2.1,y39.2.2.2.1,y39.2.2.2.2) (fun _=>0) h)
 intro h;cases sj h
 exact kq (hr15 (fun _=>0))
 refine lrc ?_ ?_
 intro v e;subst e;cases sj h;rfl
 intro t a45 e;subst e
 obtain⟨x46,x47,x48,x49,x50⟩:=t
 dsimp only at h
 conv=>lhs;whnf
 revert h
 exact rz
theorem Zb (n:Nat) (ih:Cs n):Nk (n+1):=by
 intro p_l p_i p_in p_e p_at r h
 rw[Bq] at h
 refine Am Try.func100 (by rfl) rfl rfl (Aq rfl) ?_
 intro call hc;conv=>lhs;whnf
 revert h
 refine br ?_ ?_
 exact rz
 refine ca hc (fun _ h=>Ee h) ?_;intro y2
 refine br ?_ ?_
 refine ix ?_;intro x5
 refine ca hc (fun _ h=>ih.2.2.2.1 h) ?_;intro y6
 refine cr hc (fun y8 h=>(show CN n 88 [AV.agg [iA (5),iA (0),sA (([]:List UInt8)),sA (([]:List UInt8)),iA x5.Ao],AV.sl 1 [[AV.sl 5 (List.map A1 y6.1)]]] []=some (AV.sl 5 (List.map A1 y8),[]) from Gk (r:=y8) h)) ?_;intro y8
 exact rz
 refine ca hc (fun _ h=>Ee h) ?_;intro y10
 refine br ?_ ?_
 refine ca hc (fun _ h=>ih.2.2.2.2.1 h) ?_;intro y13
 refine br ?_ ?_
 refine ca hc (fun _ h=>Ee h) ?_;intro y16
 refine br ?_ ?_
 exact rz
 refine ca hc (fun _ h=>G2 h) ?_;intro y19
 exact rz
 exact rz
 refine br ?_ ?_
 refine ix ?_;intro x22
 refine br ?_ ?_
 refine ix ?_;intro x24
 refine cr hc (fun y25 h=>(show CN n 88 [AV.agg [iA (1),iA x24.Bs,sA (([]:List UInt8)),sA (([]:List UInt8)),iA x24.Ao],AV.sl 1 []] []=some (AV.sl 5 (List.map A1 y25),[]) from Gk (r:=y25) h)) ?_;intro y25
 exact rz
 refine ca hc (fun _ h=>Lq h) ?_;intro y27
 refine br ?_ ?_
 refine ca hc (fun _ h=>Ee h) ?_;intro y30
 refine br ?_ ?_
 refine ca hc (fun _ h=>Lq h) ?_;intro y33
 refine br ?_ ?_
 refine cr hc (fun y36 h=>(show CN n 88 [AV.agg [iA (4),iA (0),sA y33.1,sA y27.1,iA y27.2.1],AV.sl 1 []] []=some (AV.sl 5 (List.map A1 y36),[]) from Gk (r:=y36) h)) ?_;intro y36
 exact rz
 refine ca hc (fun _ h=>G2 h) ?_;intro y38
 exact rz
 refine cr hc (fun y40 h=>(show CN n 88 [AV.agg [iA (2),iA (0),sA y27.1,sA (([]:List UInt8)),iA y27.2.1],AV.sl 1 []] []=some (AV.sl 5 (List.map A1 y40),[]) from Gk (r:=y40) h)) ?_;intro y40
 exact rz
 refine ca hc (fun _ h=>G2 h) ?_;intro y42
 exact rz
 refine ca hc (fun _ h=>Lq h) ?_;intro y44
 refine br ?_ ?_
 refine ca hc (fun _ h=>Ee h) ?_;intro y47
 refine br ?_ ?_
 refine ca hc (fun _ h=>Lq h) ?_;intro y50
 refine br ?_ ?_
 refine cr hc (fun y53 h=>(show CN n 88 [AV.agg [iA (4),iA (0),sA y50.1,sA y44.1,iA y44.2.1],AV.sl 1 []] []=some (AV.sl 5 (List.map A1 y53),[]) from Gk (r:=y53) h)) ?_;intro y53
 exact rz
 refine ca hc (fun _ h=>G2 h) ?_;intro y55
 exact rz
 refine cr hc (fun y57 h=>(show CN n 88 [AV.agg [iA (2),iA (0),sA y44.1,sA (([]:List UInt8)),iA y44.2.1],AV.sl 1 []] []=some (AV.sl 5 (List.map A1 y57),[]) from Gk (r:=y57) h)) ?_;intro y57
 exact rz
 refine ca hc (fun _ h=>G2 h) ?_;intro y59
 exact rz
theorem A20 (n:Nat) (ih:Cs n):P2 (n+1):=by
 intro p_l p_i p_in p_e p_at r h
 rw[Do] at h
 refine Am Try.func98 (by rfl) rfl rfl (Aq rfl) ?_
 intro call hc;conv=>lhs;whnf
 revert h
 refine cr hc (fun y1 h=>(show CN n 74 [AV.ptr 0 0,AV.func 99 [] [],bA false,AV.sl 1 [[iA (6)],[iA (7)]]] [Ob.var 103 [AV.sl 4 (List.map A3 p_l),iA p_i,iA p_in,iA p_e,iA p_at]]=some (AV.sl 5 (List.map A1 y1.1),[Ob.var 103 [AV.sl 4 (List.map A3 p_l),iA y1.2.1,iA y1.2.2.1,iA y1.2.2.2.1,iA y1.2.2.2.2]]) from ih.2.2.2.2.2.2.2.2.2.1 (r:=y1) h)) ?_;intro y1
 exact rz
theorem T2:∀ n,Cs n
 | 0=>⟨by unfold Ml;intros;rename_i h;exact absurd h (by intro h;cases h),by unfold On;intros;rename_i h;exact absurd h (by intro h;cases h),by unfold Lv;intros;rename_i h;exact absurd h (by intro h;cases h),by unfold O4;intros;rename_i h;exact absurd h (by intro h;cases h),by unfold Mx;intros;rename_i h;exact absurd h (by intro h;cases h),by unfold N0;intros;rename_i h;exact absurd h (by intro h;cases h),by unfold P5;intros;rename_i h;exact absurd h (by intro h;cases h),by unfold Nz;intros;rename_i h;exact absurd h (by intro h;cases h),by unfold Nw;intros;rename_i h;exact absurd h (by intro h;cases h),by unfold Nv;intros;rename_i h;exact absurd h (by intro h;cases h),by unfold Nx;intros;rename_i h;exact absurd h (by intro h;cases h),by unfold Nk;intros;rename_i h;exact absurd h (by intro h;cases h),by unfold P2;intros;rename_i h;exact absurd h (by intro h;cases h)⟩
 | n+1=>have ih:=T2 n
   ⟨A1b n ih,A13 n ih,X8 n ih,Zr n ih,Y7 n ih,Yd n ih,A2v n ih,Zt n ih,Zw n ih,Zv n ih,A0c n ih,Zb n ih,A20 n ih⟩
theorem A26 {n:Nat}:Ml n:=(T2 n).1
theorem A0t {n:Nat} ⦃Av:(List A5)⦄ ⦃Ew:Int⦄ ⦃r:((List A2)×Int×Int×Int)⦄:K2 n Av Ew=some r→CN n 48 [AV.sl 4 (List.map A3 Av),iA Ew] []=some (AV.tup [AV.sl 5 (List.map A1 r.1),iA r.2.1,iA r.2.2.1,iA r.2.2.2],[]):=by
 intro h;rcases n with _|n;cases h
 rw[K2] at h
 refine Am Try.func48 (by rfl) rfl rfl (Aq rfl) ?_
 intro call hc;conv=>lhs;whnf
 revert h
 refine br ?_ ?_
 exact rz
 refine ca hc (fun _ h=>A26 h) ?_;intro y2
 refine br ?_ ?_
 exact rz
 refine ca hc (fun _ h=>A0x h) ?_;intro y5
 refine br ?_ ?_
 refine ix ?_;intro x8
 exact rz
 refine br ?_ ?_
 refine ix ?_;intro x10
 exact rz
 exact rz
theorem Adl {n:Nat} ⦃B1:A2⦄ ⦃r:Bool⦄:Qq n B1=some r→CN n 69 [AV.agg [iA B1.As,iA B1.Bs,sA B1.Ai,sA B1.D5,iA B1.Ao]] []=some (bA r,[]):=by
 intro h;rcases n with _|n;cases h
 rw[Qq] at h
 refine Am Try.func69 (by rfl) rfl rfl (Aq rfl) ?_
 intro call hc;conv=>lhs;whnf
 revert h
 refine br ?_ ?_
 exact rz
 refine br ?_ ?_
 intro h
 have hf5:Xo Try.prog 47=some (fieldsOf Try.prog 47):=by kernel_rfl
 simp only[hf5,B6,Dj]
 conv=>lhs;whnf
 revert h
 refine br ?_ ?_
 refine br ?_ ?_
 exact rz
 exact rz
 exact rz
 refine br ?_ ?_
 refine ca hc (fun _ h=>Gj h) ?_;intro y7
 refine br ?_ ?_
 intro h
 have hf13:Xo Try.prog 47=some (fieldsOf Try.prog 47):=by kernel_rfl
 simp only[hf13,B6,Dj]
 conv=>lhs;whnf
 revert h
 refine br ?_ ?_
 refine ca hc (fun _ h=>Gj h) ?_;intro y11
 exact rz
 exact rz
 exact rz
 refine br ?_ ?_
 intro h
 have hf18:Xo Try.prog 47=some (fieldsOf Try.prog 47):=by kernel_rfl
 simp only[hf18,B6,Dj]
 conv=>lhs;whnf
 revert h
 refine br ?_ ?_
 refine ca hc (fun _ h=>Gj h) ?_;intro y16
 exact rz
 exact rz
 refine br ?_ ?_
 intro h
 have hf23:Xo Try.prog 47=some (fieldsOf Try.prog 47):=by kernel_rfl
 simp only[hf23,B6,Dj]
 conv=>lhs;whnf
 revert h
 refine br ?_ ?_
 refine ca hc (fun _ h=>Gj h) ?_;intro y21
 exact rz
 exact rz
 intro h
 have hf24:Xo Try.prog 47=some (fieldsOf Try.prog 47):=by kernel_rfl
 simp only[hf24,B6,Dj]
 conv=>lhs;whnf
 revert h
 exact rz
theorem Us {n:Nat} ⦃Av:(List A2)⦄ ⦃r:Bool⦄:Lb n Av=some r→CN n 51 [AV.sl 5 (List.map A1 Av)] []=some (bA r,[]):=by
 intro h;rcases n with _|n;cases h
 rw[Lb] at h
 refine Am Try.func51 (by rfl) rfl rfl (Aq rfl) ?_
 intro call hc;conv=>lhs;whnf
 revert h
 refine br ?_ ?_
 exact rz
 refine br ?_ ?_
 exact rz
 refine ca hc (fun _ h=>Afj h) ?_;intro y3
 refine br ?_ ?_
 exact rz
 intro h;refine B0 h ?_;clear h;intro o14 ho14 h
 refine lq (σ:=Int) (τ:=Unit) (ν:=Bool) 0 (fun s6 a8=>Bo 33 [(0,AV.sl 5 (List.map A1 Av)),(20,AV.sl 5 (List.map A1 Av)),(21,iA (((Av.length:Nat):Int))),(22,iA s6)]) (fun s6 a8=>[]) (fun _ a20=>Bo 33 [(0,AV.sl 5 (List.map A1 Av))]) (fun _ a20=>[]) (fun v=>(bA v,[])) (fun k s=>I2 n Av k s) (fun s=>rfl) o14 n 0 (fun _=>0) ho14 ?_ ?_
 intro k7 s6 a8 K9 cont10 hK11 hcont12 h hr13
 replace h:I2 n Av (k7+1) s6=some o14:=h
 rw[I2] at h
 conv=>lhs;whnf
 revert h
 refine br ?_ ?_
 refine ix ?_;intro x16
 refine ca hc (fun _ h=>Adl h) ?_;intro y17
 refine br ?_ ?_
 exact fun h=>cq (hcont12 (IntKind.i64.wrap (s6+1)) (fun _=>0) h)
 intro h;cases sj h
 refine(hK11 _ _).trans ?_
 refine Eq.trans ?_ (Eq.symm (show _=some _ from hr13))
 conv=>lhs;whnf
 exact rq
 intro h;cases sj h
 exact kq (hr13 (fun _=>0))
 refine lrc ?_ ?_
 intro v e;subst e;cases sj h;rfl
 intro t a20 e;subst e
 dsimp only at h
 conv=>lhs;whnf
 revert h
 refine ca hc (fun _ h=>A0x h) ?_;intro y21
 exact rz
def Ou (n:Nat):Prop:=∀ ⦃Ca:Int⦄ ⦃r:(List UInt8)⦄,D9 n Ca=some r→CN n 70 [iA Ca] []=some (sA r,[])
def S6 (n:Nat):Prop:=Ou n
theorem A5r (n:Nat) (ih:S6 n):Ou (n+1):=by
 intro Ca r h
 rw[D9] at h
 refine Am Try.func70 (by rfl) rfl rfl (Aq rfl) ?_
 intro call hc;conv=>lhs;whnf
 revert h
 refine br ?_ ?_
 exact rz
 refine ca hc (fun _ h=>ih h) ?_;intro y2
 intro h
 refine B8 h ?_;clear h;intro hc4 h
 refine B9 hc4 ?_
 try simp only[ls]
 conv=>lhs;whnf
 revert h
 exact rz
theorem Wr:∀ n,S6 n
 | 0=>by unfold S6 Ou;intros;rename_i h;exact absurd h (by intro h;cases h)
 | n+1=>have ih:=Wr n
   A5r n ih
theorem A6o {n:Nat}:Ou n:=(Wr n)
def R0 (n:Nat):Prop:=∀ ⦃Av:(List A2)⦄ ⦃Ew:Int⦄ ⦃Sy:Bool⦄ ⦃r:((List UInt8)×Int)⦄,Gr n Av Ew Sy=some r→CN n 52 [AV.sl 5 (List.map A1 Av),iA Ew,bA Sy] []=some (AV.tup [sA r.1,iA r.2],[])
def Ul (n:Nat):Prop:=R0 n
theorem Aag (n:Nat) (ih:Ul n):R0 (n+1):=by
 intro Av Ew Sy r h
 rw[Gr] at h
 refine Am Try.func52 (by rfl) rfl rfl (Aq rfl) ?_
 intro call hc;conv=>lhs;whnf
 revert h
 refine ix ?_;intro x1
 refine br ?_ ?_
 refine ca hc (fun _ h=>A6o h) ?_;intro y3
 exact rz
 refine br ?_ ?_
 exact rz
 refine br ?_ ?_
 exact rz
 refine br ?_ ?_
 intro h
 refine B8 h ?_;clear h;intro hc8 h
 refine B9 hc8 ?_
 try simp only[ls]
 conv=>lhs;whnf
 revert h
 intro h
 refine B8 h ?_;clear h;intro hc9 h
 refine B9 hc9 ?_
 try simp only[ls]
 conv=>lhs;whnf
 revert h
 exact rz
 refine br ?_ ?_
 refine ca hc (fun _ h=>ih h) ?_;intro y11
 refine ca hc (fun _ h=>Lg h) ?_;intro y13
 intro h
 refine B8 h ?_;clear h;intro hc15 h
 refine B9 hc15 ?_
 try simp only[ls]
 conv=>lhs;whnf
 revert h
 exact rz
 refine ca hc (fun _ h=>ih h) ?_;intro y16
 refine ca hc (fun _ h=>ih h) ?_;intro y18
 intro h
 refine B8 h ?_;clear h;intro hc20 h
 refine B9 hc20 ?_
 try simp only[ls]
 conv=>lhs;whnf
 revert h
 refine ca hc (fun _ h=>Lg h) ?_;intro y21
 intro h
 refine B8 h ?_;clear h;intro hc23 h
 refine B9 hc23 ?_
 try simp only[ls]
 conv=>lhs;whnf
 revert h
 intro h
 refine B8 h ?_;clear h;intro hc24 h
 refine B9 hc24 ?_
 try simp only[ls]
 conv=>lhs;whnf
 revert h
 intro h
 refine B8 h ?_;clear h;intro hc25 h
 refine B9 hc25 ?_
 try simp only[ls]
 conv=>lhs;whnf
 revert h
 refine br ?_ ?_
 intro h
 refine B8 h ?_;clear h;intro hc27 h
 refine B9 hc27 ?_
 try simp only[ls]
 conv=>lhs;whnf
 revert h
 intro h
 refine B8 h ?_;clear h;intro hc28 h
 refine B9 hc28 ?_
 try simp only[ls]
 conv=>lhs;whnf
 revert h
 exact rz
 exact rz
theorem Yt:∀ n,Ul n
 | 0=>by unfold Ul R0;intros;rename_i h;exact absurd h (by intro h;cases h)
 | n+1=>have ih:=Yt n
   Aag n ih
theorem Aa7 {n:Nat}:R0 n:=(Yt n)
theorem X0 {n:Nat} ⦃Av:(List A2)⦄ ⦃r:(List UInt8)⦄:E9 n Av=some r→CN n 25 [AV.sl 5 (List.map A1 Av)] []=some (sA r,[]):=by
 intro h;rcases n with _|n;cases h
 rw[E9] at h
 refine Am Try.func25 (by rfl) rfl rfl (Aq rfl) ?_
 intro call hc;conv=>lhs;whnf
 revert h
 refine ca hc (fun _ h=>Us h) ?_;intro y1
 refine br ?_ ?_
 refine ca hc (fun _ h=>Aa7 h) ?_;intro y4
 exact rz
 exact rz
theorem Uq {n:Nat} ⦃r:(List Bl)⦄:K3 n=some r→CN n 56 [] []=some (AV.sl 4 (List.map A45 r),[]):=by
 intro h;rcases n with _|n;cases h
 rw[K3] at h
 refine Am Try.func56 (by rfl) rfl rfl (Aq rfl) ?_
 intro call hc;conv=>lhs;whnf
 revert h
 exact rz
theorem J9 {n:Nat} ⦃Hn:Int⦄ ⦃Aew:(List UInt8)⦄ ⦃p_l:(List A5)⦄ ⦃p_i:Int⦄ ⦃p_e:Int⦄ ⦃p_at:Int⦄ ⦃Af:(List ((List UInt8)×Int))⦄ ⦃r:Bool⦄:Dk n Hn Aew p_l p_i p_e p_at Af=some r→CN n 72 [AV.ptr 0 0,iA Hn,sA Aew] [Ob.var 94 [AV.sl 4 (List.map A3 p_l),iA p_i,AV.mapp 1,iA p_e,iA p_at],Ob.mp none false (List.map A8 Af)]=some (bA r,[Ob.var 94 [AV.sl 4 (List.map A3 p_l),iA p_i,AV.mapp 1,iA p_e,iA p_at],Ob.mp none false (List.map A8 Af)]):=by
 intro h;rcases n with _|n;cases h
 rw[Dk] at h
 refine Am Try.func72 (by rfl) rfl rfl (Aq rfl) ?_
 intro call hc;conv=>lhs;whnf
 revert h
 refine br ?_ ?_
 refine ix ?_;intro x2
 refine br ?_ ?_
 refine ix ?_;intro x4
 intro h;cases sj h
 try simp only[ls]
 exact fq (y:=some (bA ((x4.Aa==Aew)),[Ob.var 94 [AV.sl 4 (List.map A3 p_l),iA p_i,AV.mapp 1,iA p_e,iA p_at],Ob.mp none false (List.map A8 Af)]))
 intro h;obtain rfl:=sj h
 try simp only[ls]
 exact fq (y:=some (bA false,[Ob.var 94 [AV.sl 4 (List.map A3 p_l),iA p_i,AV.mapp 1,iA p_e,iA p_at],Ob.mp none false (List.map A8 Af)]))
 intro h;obtain rfl:=sj h
 try simp only[ls]
 exact fq (y:=some (bA false,[Ob.var 94 [AV.sl 4 (List.map A3 p_l),iA p_i,AV.mapp 1,iA p_e,iA p_at],Ob.mp none false (List.map A8 Af)]))
theorem A07 {n:Nat} ⦃Ca:Int⦄ ⦃r:(Bl×Bool)⦄:Me n Ca=some r→CN n 78 [iA Ca] []=some (AV.tup [AV.agg [sA r.1.f_word,sA r.1.f_form,bA r.1.f_body,bA r.1.f_more],bA r.2],[]):=by
 intro h;rcases n with _|n;cases h
 rw[Me] at h
 refine Am Try.func78 (by rfl) rfl rfl (Aq rfl) ?_
 intro call hc;conv=>lhs;whnf
 revert h
 refine ca hc (fun _ h=>Uq h) ?_;intro y1
 refine br ?_ ?_
 exact rz
 refine br ?_ ?_
 exact rz
 refine ix ?_;intro x5
 exact rz
theorem A2j {n:Nat} ⦃r:Bl⦄:Qs n=some r→CN n 78 [iA (0)] []=some (AV.tup [AV.agg [sA r.f_word,sA r.f_form,bA r.f_body,bA r.f_more],bA false],[]):=by
 intro h;rcases n with _|n;cases h
 rw[Qs] at h
 refine Am Try.func78 (by rfl) rfl rfl (Aq rfl) ?_
 intro call hc;conv=>lhs;whnf
 revert h
 refine ca hc (fun _ h=>Uq h) ?_;intro y1
 exact rz
theorem Ku {n:Nat} ⦃Ew:Int⦄ ⦃p_l:(List A5)⦄ ⦃p_i:Int⦄ ⦃p_e:Int⦄ ⦃p_at:Int⦄ ⦃Af:(List ((List UInt8)×Int))⦄ ⦃r:Int⦄:F1 n Ew p_l p_i p_e p_at Af=some r→CN n 58 [AV.ptr 0 0,iA Ew] [Ob.var 94 [AV.sl 4 (List.map A3 p_l),iA p_i,AV.mapp 1,iA p_e,iA p_at],Ob.mp none false (List.map A8 Af)]=some (iA r,[Ob.var 94 [AV.sl 4 (List.map A3 p_l),iA p_i,AV.mapp 1,iA p_e,iA p_at],Ob.mp none false (List.map A8 Af)]):=by
 intro h;rcases n with _|n;cases h
 rw[F1] at h
 refine Am Try.func58 (by rfl) rfl rfl (Aq rfl) ?_
 intro call hc;conv=>lhs;whnf
 revert h
 refine br ?_ ?_
 refine ix ?_;intro x2
 intro h;cases sj h
 try simp only[ls]
 exact fq (y:=some (iA x2.Ao,[Ob.var 94 [AV.sl 4 (List.map A3 p_l),iA p_i,AV.mapp 1,iA p_e,iA p_at],Ob.mp none false (List.map A8 Af)]))
 refine br ?_ ?_
 refine ix ?_;intro x4
 refine ix ?_;intro x5
 intro h;cases sj h
 try simp only[ls]
 exact fq (y:=some (iA (IntKind.i64.wrap (x4.Ao+((x5.Aa.length:Nat):Int))),[Ob.var 94 [AV.sl 4 (List.map A3 p_l),iA p_i,AV.mapp 1,iA p_e,iA p_at],Ob.mp none false (List.map A8 Af)]))
 intro h;cases sj h
 try simp only[ls]
 exact fq (y:=some (iA (0),[Ob.var 94 [AV.sl 4 (List.map A3 p_l),iA p_i,AV.mapp 1,iA p_e,iA p_at],Ob.mp none false (List.map A8 Af)]))
theorem F3 {n:Nat} ⦃p_l:(List A5)⦄ ⦃p_i:Int⦄ ⦃p_e:Int⦄ ⦃p_at:Int⦄ ⦃Af:(List ((List UInt8)×Int))⦄ ⦃r:(Int×Int)⦄:Dc n p_l p_i p_e p_at Af=some r→CN n 83 [AV.ptr 0 0] [Ob.var 94 [AV.sl 4 (List.map A3 p_l),iA p_i,AV.mapp 1,iA p_e,iA p_at],Ob.mp none false (List.map A8 Af)]=some (AV.tup [],[Ob.var 94 [AV.sl 4 (List.map A3 p_l),iA p_i,AV.mapp 1,iA r.1,iA r.2],Ob.mp none false (List.map A8 Af)]):=by
 intro h;rcases n with _|n;cases h
 rw[Dc] at h
 refine Am Try.func83 (by rfl) rfl rfl (Aq rfl) ?_
 intro call hc;conv=>lhs;whnf
 revert h
 refine br ?_ ?_
 intro h;cases sj h
 try simp only[ls]
 exact fq (y:=some (AV.tup [],[Ob.var 94 [AV.sl 4 (List.map A3 p_l),iA p_i,AV.mapp 1,iA p_e,iA p_at],Ob.mp none false (List.map A8 Af)]))
 refine ca hc (fun _ h=>Ku h) ?_;intro y2
 refine br ?_ ?_
 intro h;cases sj h
 try simp only[ls]
 exact fq (y:=some (AV.tup [],[Ob.var 94 [AV.sl 4 (List.map A3 p_l),iA p_i,AV.mapp 1,iA (6),iA y2],Ob.mp none false (List.map A8 Af)]))
 intro h;cases sj h
 try simp only[ls]
 exact fq (y:=some (AV.tup [],[Ob.var 94 [AV.sl 4 (List.map A3 p_l),iA p_i,AV.mapp 1,iA (5),iA y2],Ob.mp none false (List.map A8 Af)]))
theorem Ce {n:Nat} ⦃Lw:(List UInt8)⦄ ⦃p_l:(List A5)⦄ ⦃p_i:Int⦄ ⦃p_e:Int⦄ ⦃p_at:Int⦄ ⦃Af:(List ((List UInt8)×Int))⦄ ⦃r:(Int×Int×Int)⦄:Bi n Lw p_l p_i p_e p_at Af=some r→CN n 85 [AV.ptr 0 0,sA Lw] [Ob.var 94 [AV.sl 4 (List.map A3 p_l),iA p_i,AV.mapp 1,iA p_e,iA p_at],Ob.mp none false (List.map A8 Af)]=some (AV.tup [],[Ob.var 94 [AV.sl 4 (List.map A3 p_l),iA r.1,AV.mapp 1,iA r.2.1,iA r.2.2],Ob.mp none false (List.map A8 Af)]):=by
 intro h;rcases n with _|n;cases h
 rw[Bi] at h
 refine Am Try.func85 (by rfl) rfl rfl (Aq rfl) ?_
 intro call hc;conv=>lhs;whnf
 revert h
 refine br ?_ ?_
 intro h;cases sj h
 try simp only[ls]
 exact fq (y:=some (AV.tup [],[Ob.var 94 [AV.sl 4 (List.map A3 p_l),iA p_i,AV.mapp 1,iA p_e,iA p_at],Ob.mp none false (List.map A8 Af)]))
 refine ca hc (fun _ h=>J9 h) ?_;intro y2
 refine br ?_ ?_
 intro h;cases sj h
 try simp only[ls]
 exact fq (y:=some (AV.tup [],[Ob.var 94 [AV.sl 4 (List.map A3 p_l),iA (IntKind.i64.wrap (p_i+1)),AV.mapp 1,iA p_e,iA p_at],Ob.mp none false (List.map A8 Af)]))
 refine ca hc (fun _ h=>F3 h) ?_;intro y5
 intro h;cases sj h
 try simp only[ls]
 exact fq (y:=some (AV.tup [],[Ob.var 94 [AV.sl 4 (List.map A3 p_l),iA p_i,AV.mapp 1,iA y5.1,iA y5.2],Ob.mp none false (List.map A8 Af)]))
theorem T3 {n:Nat} ⦃p_l:(List A5)⦄ ⦃p_i:Int⦄ ⦃p_e:Int⦄ ⦃p_at:Int⦄ ⦃Af:(List ((List UInt8)×Int))⦄ ⦃r:((List UInt8)×Int×Int×Int)⦄:I9 n p_l p_i p_e p_at Af=some r→CN n 92 [AV.ptr 0 0] [Ob.var 94 [AV.sl 4 (List.map A3 p_l),iA p_i,AV.mapp 1,iA p_e,iA p_at],Ob.mp none false (List.map A8 Af)]=some (sA r.1,[Ob.var 94 [AV.sl 4 (List.map A3 p_l),iA r.2.1,AV.mapp 1,iA r.2.2.1,iA r.2.2.2],Ob.mp none false (List.map A8 Af)]):=by
 intro h;rcases n with _|n;cases h
 rw[I9] at h
 refine Am Try.func92 (by rfl) rfl rfl (Aq rfl) ?_
 intro call hc;conv=>lhs;whnf
 revert h
 refine br ?_ ?_
 intro h;cases sj h
 try simp only[ls]
 exact fq (y:=some (sA (([]:List UInt8)),[Ob.var 94 [AV.sl 4 (List.map A3 p_l),iA p_i,AV.mapp 1,iA p_e,iA p_at],Ob.mp none false (List.map A8 Af)]))
 refine br ?_ ?_
 refine ca hc (fun _ h=>F3 h) ?_;intro y3
 intro h;cases sj h
 try simp only[ls]
 exact fq (y:=some (sA (([]:List UInt8)),[Ob.var 94 [AV.sl 4 (List.map A3 p_l),iA p_i,AV.mapp 1,iA y3.1,iA y3.2],Ob.mp none false (List.map A8 Af)]))
 refine ix ?_;intro x5
 refine br ?_ ?_
 refine ca hc (fun _ h=>F3 h) ?_;intro y7
 intro h;cases sj h
 try simp only[ls]
 exact fq (y:=some (sA (([]:List UInt8)),[Ob.var 94 [AV.sl 4 (List.map A3 p_l),iA p_i,AV.mapp 1,iA y7.1,iA y7.2],Ob.mp none false (List.map A8 Af)]))
 refine ix ?_;intro x9
 refine ca hc (fun _ h=>Gj h) ?_;intro y10
 refine br ?_ ?_
 refine ix ?_;intro x13
 intro h;cases sj h
 try simp only[ls]
 exact fq (y:=some (sA x13.Aa,[Ob.var 94 [AV.sl 4 (List.map A3 p_l),iA (IntKind.i64.wrap (p_i+1)),AV.mapp 1,iA p_e,iA p_at],Ob.mp none false (List.map A8 Af)]))
 refine ca hc (fun _ h=>F3 h) ?_;intro y14
 intro h;cases sj h
 try simp only[ls]
 exact fq (y:=some (sA (([]:List UInt8)),[Ob.var 94 [AV.sl 4 (List.map A3 p_l),iA p_i,AV.mapp 1,iA y14.1,iA y14.2],Ob.mp none false (List.map A8 Af)]))
theorem Ya {n:Nat} ⦃G8:(List A5)⦄ ⦃Jn:Int⦄ ⦃Jo:Int⦄ ⦃H9:Int⦄ ⦃G9:(List ((List UInt8)×Int))⦄ ⦃Dr:Int⦄ ⦃Ez:(List UInt8)⦄ ⦃F0:(List UInt8)⦄ ⦃Jh:(List A2)⦄ ⦃Ji:(List A2)⦄ ⦃Ha:Bool⦄ ⦃Ds:Int⦄ ⦃Dt:Int⦄ ⦃Fr:Int⦄ ⦃r:(Int×Int×Int×(List UInt8))⦄:Kb n G8 Jn Jo H9 G9 Dr Ez F0 Jh Ji Ha Ds Dt Fr=some r→CN n 91 [AV.ptr 0 0,AV.ptr 3 0] [Ob.var 91 [AV.ptr 1 0],Ob.var 94 [AV.sl 4 (List.map A3 G8),iA Jn,AV.mapp 2,iA Jo,iA H9],Ob.mp none false (List.map A8 G9),Ob.var 126 [AV.ptr 4 0],Ob.var 73 [iA Dr,sA Ez,sA F0,AV.sl 5 (List.map A1 Jh),AV.sl 5 (List.map A1 Ji),bA Ha,iA Ds,iA Dt,iA Fr]]=some (AV.tup [],[Ob.var 91 [AV.ptr 1 0],Ob.var 94 [AV.sl 4 (List.map A3 G8),iA r.1,AV.mapp 2,iA r.2.1,iA r.2.2.1],Ob.mp none false (List.map A8 G9),Ob.var 126 [AV.ptr 4 0],Ob.var 73 [iA Dr,sA r.2.2.2,sA F0,AV.sl 5 (List.map A1 Jh),AV.sl 5 (List.map A1 Ji),bA Ha,iA Ds,iA Dt,iA Fr]]):=by
 intro h;rcases n with _|n;cases h
 rw[Kb] at h
 refine Am Try.func91 (by rfl) rfl rfl (Aq rfl) ?_
 intro call hc;conv=>lhs;whnf
 revert h
 refine ca hc (fun _ h=>T3 h) ?_;intro y1
 intro h;cases sj h
 try simp only[ls]
 exact fq (y:=some (AV.tup [],[Ob.var 91 [AV.ptr 1 0],Ob.var 94 [AV.sl 4 (List.map A3 G8),iA y1.2.1,AV.mapp 2,iA y1.2.2.1,iA y1.2.2.2],Ob.mp none false (List.map A8 G9),Ob.var 126 [AV.ptr 4 0],Ob.var 73 [iA Dr,sA y1.1,sA F0,AV.sl 5 (List.map A1 Jh),AV.sl 5 (List.map A1 Ji),bA Ha,iA Ds,iA Dt,iA Fr]]))
theorem Y6 {n:Nat} ⦃G8:(List A5)⦄ ⦃Jn:Int⦄ ⦃Jo:Int⦄ ⦃H9:Int⦄ ⦃G9:(List ((List UInt8)×Int))⦄ ⦃Dr:Int⦄ ⦃Ez:(List UInt8)⦄ ⦃F0:(List UInt8)⦄ ⦃Jh:(List A2)⦄ ⦃Ji:(List A2)⦄ ⦃Ha:Bool⦄ ⦃Ds:Int⦄ ⦃Dt:Int⦄ ⦃Fr:Int⦄ ⦃r:(Int×Int×Int×(List UInt8))⦄:Ke n G8 Jn Jo H9 G9 Dr Ez F0 Jh Ji Ha Ds Dt Fr=some r→CN n 93 [AV.ptr 0 0,AV.ptr 3 0] [Ob.var 91 [AV.ptr 1 0],Ob.var 94 [AV.sl 4 (List.map A3 G8),iA Jn,AV.mapp 2,iA Jo,iA H9],Ob.mp none false (List.map A8 G9),Ob.var 126 [AV.ptr 4 0],Ob.var 73 [iA Dr,sA Ez,sA F0,AV.sl 5 (List.map A1 Jh),AV.sl 5 (List.map A1 Ji),bA Ha,iA Ds,iA Dt,iA Fr]]=some (AV.tup [],[Ob.var 91 [AV.ptr 1 0],Ob.var 94 [AV.sl 4 (List.map A3 G8),iA r.1,AV.mapp 2,iA r.2.1,iA r.2.2.1],Ob.mp none false (List.map A8 G9),Ob.var 126 [AV.ptr 4 0],Ob.var 73 [iA Dr,sA Ez,sA r.2.2.2,AV.sl 5 (List.map A1 Jh),AV.sl 5 (List.map A1 Ji),bA Ha,iA Ds,iA Dt,iA Fr]]):=by
 intro h;rcases n with _|n;cases h
 rw[Ke] at h
 refine Am Try.func93 (by rfl) rfl rfl (Aq rfl) ?_
 intro call hc;conv=>lhs;whnf
 revert h
 refine ca hc (fun _ h=>T3 h) ?_;intro y1
 intro h;cases sj h
 try simp only[ls]
 exact fq (y:=some (AV.tup [],[Ob.var 91 [AV.ptr 1 0],Ob.var 94 [AV.sl 4 (List.map A3 G8),iA y1.2.1,AV.mapp 2,iA y1.2.2.1,iA y1.2.2.2],Ob.mp none false (List.map A8 G9),Ob.var 126 [AV.ptr 4 0],Ob.var 73 [iA Dr,sA Ez,sA y1.1,AV.sl 5 (List.map A1 Jh),AV.sl 5 (List.map A1 Ji),bA Ha,iA Ds,iA Dt,iA Fr]]))
theorem A10 {n:Nat} ⦃Av:(List A2)⦄ ⦃r:Bool⦄:Jv n Av=some r→CN n 82 [AV.sl 5 (List.map A1 Av)] []=some (bA r,[]):=by
 intro h;rcases n with _|n;cases h
 rw[Jv] at h
 refine Am Try.func82 (by rfl) rfl rfl (Aq rfl) ?_
 intro call hc;conv=>lhs;whnf
 revert h
 refine ca hc (fun _ h=>A0w h) ?_;intro y1
 intro h;refine B0 h ?_;clear h;intro o11 ho11 h
 refine lq (σ:=Int) (τ:=Unit) (ν:=Bool) 0 (fun s3 a5=>Bo 18 [(0,AV.sl 5 (List.map A1 Av)),(6,AV.sl 5 (List.map A1 y1)),(7,iA (((y1.length:Nat):Int))),(8,iA s3)]) (fun s3 a5=>[]) (fun _ a15=>Bo 18 [(0,AV.sl 5 (List.map A1 Av))]) (fun _ a15=>[]) (fun v=>(bA v,[])) (fun k s=>Fo n y1 k s) (fun s=>rfl) o11 n 0 (fun _=>0) ho11 ?_ ?_
 intro k4 s3 a5 K6 cont7 hK8 hcont9 h hr10
 replace h:Fo n y1 (k4+1) s3=some o11:=h
 rw[Fo] at h
 conv=>lhs;whnf
 revert h
 refine br ?_ ?_
 refine ix ?_;intro x13
 refine br ?_ ?_
 intro h;cases sj h
 refine(hK8 _ _).trans ?_
 refine Eq.trans ?_ (Eq.symm (show _=some _ from hr10))
 conv=>lhs;whnf
 exact rq
 exact fun h=>cq (hcont9 (IntKind.i64.wrap (s3+1)) (fun _=>0) h)
 intro h;cases sj h
 exact kq (hr10 (fun _=>0))
 refine lrc ?_ ?_
 intro v e;subst e;cases sj h;rfl
 intro t a15 e;subst e
 dsimp only at h
 conv=>lhs;whnf
 revert h
 refine ca hc (fun _ h=>Us h) ?_;intro y16
 exact rz
theorem Sz {n:Nat} ⦃p_l:(List A5)⦄ ⦃p_i:Int⦄ ⦃p_e:Int⦄ ⦃p_at:Int⦄ ⦃Af:(List ((List UInt8)×Int))⦄ ⦃r:((List A2)×Int×Int×Int)⦄:Ic n p_l p_i p_e p_at Af=some r→CN n 95 [AV.ptr 0 0] [Ob.var 94 [AV.sl 4 (List.map A3 p_l),iA p_i,AV.mapp 1,iA p_e,iA p_at],Ob.mp none false (List.map A8 Af)]=some (AV.sl 5 (List.map A1 r.1),[Ob.var 94 [AV.sl 4 (List.map A3 p_l),iA r.2.1,AV.mapp 1,iA r.2.2.1,iA r.2.2.2],Ob.mp none false (List.map A8 Af)]):=by
 intro h;rcases n with _|n;cases h
 rw[Ic] at h
 refine Am Try.func95 (by rfl) rfl rfl (Aq rfl) ?_
 intro call hc;conv=>lhs;whnf
 revert h
 refine br ?_ ?_
 intro h;cases sj h
 try simp only[ls]
 exact fq (y:=some (AV.sl 5 [],[Ob.var 94 [AV.sl 4 (List.map A3 p_l),iA p_i,AV.mapp 1,iA p_e,iA p_at],Ob.mp none false (List.map A8 Af)]))
 refine ca hc (fun _ h=>A0t h) ?_;intro y2
 refine br ?_ ?_
 intro h;cases sj h
 try simp only[ls]
 exact fq (y:=some (AV.sl 5 [],[Ob.var 94 [AV.sl 4 (List.map A3 p_l),iA p_i,AV.mapp 1,iA y2.2.2.1,iA y2.2.2.2],Ob.mp none false (List.map A8 Af)]))
 refine ca hc (fun _ h=>A10 h) ?_;intro y5
 refine br ?_ ?_
 intro h;cases sj h
 try simp only[ls]
 exact fq (y:=some (AV.sl 5 (List.map A1 y2.1),[Ob.var 94 [AV.sl 4 (List.map A3 p_l),iA y2.2.1,AV.mapp 1,iA p_e,iA p_at],Ob.mp none false (List.map A8 Af)]))
 refine ca hc (fun _ h=>F3 h) ?_;intro y8
 intro h;cases sj h
 try simp only[ls]
 exact fq (y:=some (AV.sl 5 [],[Ob.var 94 [AV.sl 4 (List.map A3 p_l),iA p_i,AV.mapp 1,iA y8.1,iA y8.2],Ob.mp none false (List.map A8 Af)]))
theorem Yl {n:Nat} ⦃G8:(List A5)⦄ ⦃Jn:Int⦄ ⦃Jo:Int⦄ ⦃H9:Int⦄ ⦃G9:(List ((List UInt8)×Int))⦄ ⦃Dr:Int⦄ ⦃Ez:(List UInt8)⦄ ⦃F0:(List UInt8)⦄ ⦃Jh:(List A2)⦄ ⦃Ji:(List A2)⦄ ⦃Ha:Bool⦄ ⦃Ds:Int⦄ ⦃Dt:Int⦄ ⦃Fr:Int⦄ ⦃r:(Int×Int×Int×(List A2))⦄:Kg n G8 Jn Jo H9 G9 Dr Ez F0 Jh Ji Ha Ds Dt Fr=some r→CN n 94 [AV.ptr 0 0,AV.ptr 3 0] [Ob.var 91 [AV.ptr 1 0],Ob.var 94 [AV.sl 4 (List.map A3 G8),iA Jn,AV.mapp 2,iA Jo,iA H9],Ob.mp none false (List.map A8 G9),Ob.var 126 [AV.ptr 4 0],Ob.var 73 [iA Dr,sA Ez,sA F0,AV.sl 5 (List.map A1 Jh),AV.sl 5 (List.map A1 Ji),bA Ha,iA Ds,iA Dt,iA Fr]]=some (AV.tup [],[Ob.var 91 [AV.ptr 1 0],Ob.var 94 [AV.sl 4 (List.map A3 G8),iA r.1,AV.mapp 2,iA r.2.1,iA r.2.2.1],Ob.mp none false (List.map A8 G9),Ob.var 126 [AV.ptr 4 0],Ob.var 73 [iA Dr,sA Ez,sA F0,AV.sl 5 (List.map A1 r.2.2.2),AV.sl 5 (List.map A1 Ji),bA Ha,iA Ds,iA Dt,iA Fr]]):=by
 intro h;rcases n with _|n;cases h
 rw[Kg] at h
 refine Am Try.func94 (by rfl) rfl rfl (Aq rfl) ?_
 intro call hc;conv=>lhs;whnf
 revert h
 refine ca hc (fun _ h=>Sz h) ?_;intro y1
 intro h;cases sj h
 try simp only[ls]
 exact fq (y:=some (AV.tup [],[Ob.var 91 [AV.ptr 1 0],Ob.var 94 [AV.sl 4 (List.map A3 G8),iA y1.2.1,AV.mapp 2,iA y1.2.2.1,iA y1.2.2.2],Ob.mp none false (List.map A8 G9),Ob.var 126 [AV.ptr 4 0],Ob.var 73 [iA Dr,sA Ez,sA F0,AV.sl 5 (List.map A1 y1.1),AV.sl 5 (List.map A1 Ji),bA Ha,iA Ds,iA Dt,iA Fr]]))
theorem Yb {n:Nat} ⦃G8:(List A5)⦄ ⦃Jn:Int⦄ ⦃Jo:Int⦄ ⦃H9:Int⦄ ⦃G9:(List ((List UInt8)×Int))⦄ ⦃Dr:Int⦄ ⦃Ez:(List UInt8)⦄ ⦃F0:(List UInt8)⦄ ⦃Jh:(List A2)⦄ ⦃Ji:(List A2)⦄ ⦃Ha:Bool⦄ ⦃Ds:Int⦄ ⦃Dt:Int⦄ ⦃Fr:Int⦄ ⦃r:(Int×Int×Int×(List A2))⦄:Kd n G8 Jn Jo H9 G9 Dr Ez F0 Jh Ji Ha Ds Dt Fr=some r→CN n 96 [AV.ptr 0 0,AV.ptr 3 0] [Ob.var 91 [AV.ptr 1 0],Ob.var 94 [AV.sl 4 (List.map A3 G8),iA Jn,AV.mapp 2,iA Jo,iA H9],Ob.mp none false (List.map A8 G9),Ob.var 126 [AV.ptr 4 0],Ob.var 73 [iA Dr,sA Ez,sA F0,AV.sl 5 (List.map A1 Jh),AV.sl 5 (List.map A1 Ji),bA Ha,iA Ds,iA Dt,iA Fr]]=some (AV.tup [],[Ob.var 91 [AV.ptr 1 0],Ob.var 94 [AV.sl 4 (List.map A3 G8),iA r.1,AV.mapp 2,iA r.2.1,iA r.2.2.1],Ob.mp none false (List.map A8 G9),Ob.var 126 [AV.ptr 4 0],Ob.var 73 [iA Dr,sA Ez,sA F0,AV.sl 5 (List.map A1 Jh),AV.sl 5 (List.map A1 r.2.2.2),bA Ha,iA Ds,iA Dt,iA Fr]]):=by
 intro h;rcases n with _|n;cases h
 rw[Kd] at h
 refine Am Try.func96 (by rfl) rfl rfl (Aq rfl) ?_
 intro call hc;conv=>lhs;whnf
 revert h
 refine ca hc (fun _ h=>Sz h) ?_;intro y1
 intro h;cases sj h
 try simp only[ls]
 exact fq (y:=some (AV.tup [],[Ob.var 91 [AV.ptr 1 0],Ob.var 94 [AV.sl 4 (List.map A3 G8),iA y1.2.1,AV.mapp 2,iA y1.2.2.1,iA y1.2.2.2],Ob.mp none false (List.map A8 G9),Ob.var 126 [AV.ptr 4 0],Ob.var 73 [iA Dr,sA Ez,sA F0,AV.sl 5 (List.map A1 Jh),AV.sl 5 (List.map A1 y1.1),bA Ha,iA Ds,iA Dt,iA Fr]]))
theorem Yc {n:Nat} ⦃G8:(List A5)⦄ ⦃Jn:Int⦄ ⦃Jo:Int⦄ ⦃H9:Int⦄ ⦃G9:(List ((List UInt8)×Int))⦄ ⦃Dr:Int⦄ ⦃Ez:(List UInt8)⦄ ⦃F0:(List UInt8)⦄ ⦃Jh:(List A2)⦄ ⦃Ji:(List A2)⦄ ⦃Ha:Bool⦄ ⦃Ds:Int⦄ ⦃Dt:Int⦄ ⦃Fr:Int⦄ ⦃r:(Int×Int×Int×Bool)⦄:Kf n G8 Jn Jo H9 G9 Dr Ez F0 Jh Ji Ha Ds Dt Fr=some r→CN n 97 [AV.ptr 0 0,AV.ptr 3 0] [Ob.var 91 [AV.ptr 1 0],Ob.var 94 [AV.sl 4 (List.map A3 G8),iA Jn,AV.mapp 2,iA Jo,iA H9],Ob.mp none false (List.map A8 G9),Ob.var 126 [AV.ptr 4 0],Ob.var 73 [iA Dr,sA Ez,sA F0,AV.sl 5 (List.map A1 Jh),AV.sl 5 (List.map A1 Ji),bA Ha,iA Ds,iA Dt,iA Fr]]=some (AV.tup [],[Ob.var 91 [AV.ptr 1 0],Ob.var 94 [AV.sl 4 (List.map A3 G8),iA r.1,AV.mapp 2,iA r.2.1,iA r.2.2.1],Ob.mp none false (List.map A8 G9),Ob.var 126 [AV.ptr 4 0],Ob.var 73 [iA Dr,sA Ez,sA F0,AV.sl 5 (List.map A1 Jh),AV.sl 5 (List.map A1 Ji),bA r.2.2.2,iA Ds,iA Dt,iA Fr]]):=by
 intro h;rcases n with _|n;cases h
 rw[Kf] at h
 refine Am Try.func97 (by rfl) rfl rfl (Aq rfl) ?_
 intro call hc;conv=>lhs;whnf
 revert h
 refine ca hc (fun _ h=>J9 h) ?_;intro y1
 refine br ?_ ?_
 intro h;cases sj h
 try simp only[ls]
 exact fq (y:=some (AV.tup [],[Ob.var 91 [AV.ptr 1 0],Ob.var 94 [AV.sl 4 (List.map A3 G8),iA (IntKind.i64.wrap (Jn+1)),AV.mapp 2,iA Jo,iA H9],Ob.mp none false (List.map A8 G9),Ob.var 126 [AV.ptr 4 0],Ob.var 73 [iA Dr,sA Ez,sA F0,AV.sl 5 (List.map A1 Jh),AV.sl 5 (List.map A1 Ji),bA true,iA Ds,iA Dt,iA Fr]]))
 refine ca hc (fun _ h=>Ce h) ?_;intro y4
 intro h;cases sj h
 try simp only[ls]
 exact fq (y:=some (AV.tup [],[Ob.var 91 [AV.ptr 1 0],Ob.var 94 [AV.sl 4 (List.map A3 G8),iA y4.1,AV.mapp 2,iA y4.2.1,iA y4.2.2],Ob.mp none false (List.map A8 G9),Ob.var 126 [AV.ptr 4 0],Ob.var 73 [iA Dr,sA Ez,sA F0,AV.sl 5 (List.map A1 Jh),AV.sl 5 (List.map A1 Ji),bA false,iA Ds,iA Dt,iA Fr]]))
def O1 (n:Nat):Prop:=∀ ⦃Fm:Int⦄ ⦃p_l:(List A5)⦄ ⦃p_i:Int⦄ ⦃p_e:Int⦄ ⦃p_at:Int⦄ ⦃Af:(List ((List UInt8)×Int))⦄ ⦃r:((List A4)×Int×Int×Int)⦄,Bt n Fm p_l p_i p_e p_at Af=some r→CN n 86 [AV.ptr 0 0,iA Fm] [Ob.var 94 [AV.sl 4 (List.map A3 p_l),iA p_i,AV.mapp 1,iA p_e,iA p_at],Ob.mp none false (List.map A8 Af)]=some (AV.sl 9 (List.map Ae r.1),[Ob.var 94 [AV.sl 4 (List.map A3 p_l),iA r.2.1,AV.mapp 1,iA r.2.2.1,iA r.2.2.2],Ob.mp none false (List.map A8 Af)])
def Lj (n:Nat):Prop:=∀ ⦃Fm:Int⦄ ⦃p_l:(List A5)⦄ ⦃p_i:Int⦄ ⦃p_e:Int⦄ ⦃p_at:Int⦄ ⦃Af:(List ((List UInt8)×Int))⦄ ⦃r:((List A4)×Int×Int×Int)⦄,C3 n Fm p_l p_i p_e p_at Af=some r→CN n 57 [AV.ptr 0 0,iA Fm] [Ob.var 94 [AV.sl 4 (List.map A3 p_l),iA p_i,AV.mapp 1,iA p_e,iA p_at],Ob.mp none false (List.map A8 Af)]=some (AV.sl 9 (List.map Ae r.1),[Ob.var 94 [AV.sl 4 (List.map A3 p_l),iA r.2.1,AV.mapp 1,iA r.2.2.1,iA r.2.2.2],Ob.mp none false (List.map A8 Af)])
def Pd (n:Nat):Prop:=∀ ⦃Fm:Int⦄ ⦃p_l:(List A5)⦄ ⦃p_i:Int⦄ ⦃p_e:Int⦄ ⦃p_at:Int⦄ ⦃Af:(List ((List UInt8)×Int))⦄ ⦃r:((List A4)×Int×Int×Int)⦄,Bv n Fm p_l p_i p_e p_at Af=some r→CN n 73 [AV.ptr 0 0,iA Fm] [Ob.var 94 [AV.sl 4 (List.map A3 p_l),iA p_i,AV.mapp 1,iA p_e,iA p_at],Ob.mp none false (List.map A8 Af)]=some (AV.sl 9 (List.map Ae r.1),[Ob.var 94 [AV.sl 4 (List.map A3 p_l),iA r.2.1,AV.mapp 1,iA r.2.2.1,iA r.2.2.2],Ob.mp none false (List.map A8 Af)])
def Kv (n:Nat):Prop:=O1 n∧Lj n∧Pd n
theorem A0p (n:Nat) (ih:Kv n):O1 (n+1):=by
 intro Fm p_l p_i p_e p_at Af r h
 rw[Bt] at h
 refine Am Try.func86 (by rfl) rfl rfl (Aq rfl) ?_
 intro call hc;conv=>lhs;whnf
 revert h
 refine br ?_ ?_
 refine ca hc (fun _ h=>J9 h) ?_;intro y2
 refine br ?_ ?_
 refine br ?_ ?_
 refine ca hc (fun _ h=>Ku h) ?_;intro y6
 refine ca hc (fun _ h=>Ce h) ?_;intro y8
 refine ca hc (fun _ h=>ih.2.1 h) ?_;intro y10
 refine ca hc (fun _ h=>Ce h) ?_;intro y12
 intro h;cases sj h
 try simp only[ls]
 exact fq (y:=some (AV.sl 9 (List.map Ae y10.1),[Ob.var 94 [AV.sl 4 (List.map A3 p_l),iA y12.1,AV.mapp 1,iA y12.2.1,iA y12.2.2],Ob.mp none false (List.map A8 Af)]))
 refine ca hc (fun _ h=>Ce h) ?_;intro y14
 refine ca hc (fun _ h=>ih.2.1 h) ?_;intro y16
 refine ca hc (fun _ h=>Ce h) ?_;intro y18
 intro h;cases sj h
 try simp only[ls]
 exact fq (y:=some (AV.sl 9 (List.map Ae y16.1),[Ob.var 94 [AV.sl 4 (List.map A3 p_l),iA y18.1,AV.mapp 1,iA y18.2.1,iA y18.2.2],Ob.mp none false (List.map A8 Af)]))
 refine ca hc (fun _ h=>Ce h) ?_;intro y20
 refine ca hc (fun _ h=>ih.2.1 h) ?_;intro y22
 refine ca hc (fun _ h=>Ce h) ?_;intro y24
 intro h;cases sj h
 try simp only[ls]
 exact fq (y:=some (AV.sl 9 (List.map Ae y22.1),[Ob.var 94 [AV.sl 4 (List.map A3 p_l),iA y24.1,AV.mapp 1,iA y24.2.1,iA y24.2.2],Ob.mp none false (List.map A8 Af)]))
 refine ca hc (fun _ h=>Ce h) ?_;intro y26
 refine ca hc (fun _ h=>ih.2.1 h) ?_;intro y28
 refine ca hc (fun _ h=>Ce h) ?_;intro y30
 intro h;cases sj h
 try simp only[ls]
 exact fq (y:=some (AV.sl 9 (List.map Ae y28.1),[Ob.var 94 [AV.sl 4 (List.map A3 p_l),iA y30.1,AV.mapp 1,iA y30.2.1,iA y30.2.2],Ob.mp none false (List.map A8 Af)]))
theorem A15 (n:Nat) (ih:Kv n):Lj (n+1):=by
 intro Fm p_l p_i p_e p_at Af r h
 rw[C3] at h
 refine Am Try.func57 (by rfl) rfl rfl (Aq rfl) ?_
 intro call hc;conv=>lhs;whnf
 revert h
 intro h;refine B0 h ?_;clear h;intro o12 ho12 h
 refine lq (σ:=(Int×Int×Int×(List A4))) (τ:=(Int×Int×Int×(List A4))) (ν:=((List A4)×Int×Int×Int)) 0 (fun(s1,s2,s3,s4) a6=>Bo 34 [(0,AV.ptr 0 0),(1,iA Fm),(5,AV.row 2 (List.length s4))]) (fun(s1,s2,s3,s4) a6=>[Ob.var 94 [AV.sl 4 (List.map A3 p_l),iA s1,AV.mapp 1,iA s2,iA s3],Ob.mp none false (List.map A8 Af),Ob.row 73 9 (List.map Ae s4)]) (fun(x23,x24,x25,x26) a22=>Bo 34 [(5,AV.row 2 (List.length x26))]) (fun(x23,x24,x25,x26) a22=>[Ob.var 94 [AV.sl 4 (List.map A3 p_l),iA x23,AV.mapp 1,iA x24,iA x25],Ob.mp none false (List.map A8 Af),Ob.row 73 9 (List.map Ae x26)]) (fun v=>(AV.sl 9 (List.map Ae v.1),[Ob.var 94 [AV.sl 4 (List.map A3 p_l),iA v.2.1,AV.mapp 1,iA v.2.2.1,iA v.2.2.2],Ob.mp none false (List.map A8 Af)])) (fun k s=>C6 n (Bv n) Fm p_l Af k s.1 s.2.1 s.2.2.1 s.2.2.2) (fun s=>rfl) o12 n (p_i,p_e,p_at,([]:List A4)) (fun _=>0) ho12 ?_ ?_
 intro k5 ss a6 K7 cont8 hK9 hcont10 h hr11
 obtain⟨s1,s2,s3,s4⟩:=ss
 replace h:C6 n (Bv n) Fm p_l Af (k5+1) s1 s2 s3 s4=some o12:=h
 rw[C6] at h
 conv=>lhs;whnf
 revert h
 refine br ?_ ?_
 refine br ?_ ?_
 refine ca hc (fun _ h=>J9 h) ?_;intro y15
 refine br ?_ ?_
 intro h;cases sj h
 exact kq (hr11 (fun _=>0))
 refine ca hc (fun _ h=>ih.2.2 h) ?_;intro y18
 refine ar (ap Ae (List.map Ae s4) s4 (List.map Ae y18.1) y18.1) ?_
 exact fun h=>cq (hcont10 (y18.2.1,y18.2.2.1,y18.2.2.2,(s4++y18.1)) (fun _=>0) h)
 intro h;cases sj h
 exact kq (hr11 (fun _=>0))
 intro h;cases sj h
 exact kq (hr11 (fun _=>0))
 refine lrc ?_ ?_
 intro v e;subst e;cases sj h;rfl
 intro t a22 e;subst e
 obtain⟨x23,x24,x25,x26⟩:=t
 dsimp only at h
 conv=>lhs;whnf
 revert h
 intro h;cases sj h
 try simp only[ls]
 exact fq (y:=some (AV.sl 9 (List.take (List.length x26) (List.map Ae x26)),[Ob.var 94 [AV.sl 4 (List.map A3 p_l),iA x23,AV.mapp 1,iA x24,iA x25],Ob.mp none false (List.map A8 Af)]))
theorem A1k (n:Nat) (ih:Kv n):Pd (n+1):=by
 intro Fm p_l p_i p_e p_at Af r h
 rw[Bv] at h
 refine Xl Try.func73 (by rfl) rfl rfl (Aq rfl) ?_
 intro call hc hcA;conv=>lhs;whnf
 revert h
 refine br ?_ ?_
 refine ix ?_;intro x2
 refine br ?_ ?_
 refine ix ?_;intro x4
 intro h
 simp only[W3,ls]
 conv=>lhs;whnf
 revert h
 refine ca hc (fun _ h=>A07 h) ?_;intro y5
 refine br ?_ ?_
 refine ca hc (fun _ h=>Ku h) ?_;intro y8
 intro h
 obtain⟨n10,hn14,h⟩:=Mz h
 obtain⟨call11,hc12,ho13⟩:=Io (f:=84) (args:=[AV.ptr 0 0,AV.ptr 2 0]) (hp:=[Ob.var 94 [AV.sl 4 (List.map A3 p_l),iA (IntKind.i64.wrap (p_i+1)),AV.mapp 1,iA p_e,iA p_at],Ob.mp none false (List.map A8 Af),Ob.var 73 [iA ((Bf Af x4.Aa 0)),sA (([]:List UInt8)),sA (([]:List UInt8)),AV.sl 5 [],AV.sl 5 [],bA false,iA (0),iA (0),iA y8]]) hcA hn14 Try.func84 (by rfl) rfl rfl (Aq rfl)
 try simp only[ls]
 simp only[ho13]
 conv=>lhs;whnf
 revert h
 intro h;refine B0 h ?_;clear h;intro o31 ho31 h
 refine lq (σ:=(Int×Int×Int×Int×(List UInt8)×(List UInt8)×(List A2)×(List A2)×Bool)) (τ:=(Int×Int×Int×(List UInt8)×(List UInt8)×(List A2)×(List A2)×Bool)) (ν:=((List A4)×Int×Int×Int)) 0 (fun(s15,s16,s17,s18,s19,s20,s21,s22,s23) a25=>Bo 157 [(0,AV.ptr 0 0),(1,iA Fm),(6,AV.ptr 2 0),(8,AV.ptr 3 0),(9,AV.mapp 6),(84,iA (((y5.1.f_form.length:Nat):Int))),(85,iA s15)]) (fun(s15,s16,s17,s18,s19,s20,s21,s22,s23) a25=>[Ob.var 94 [AV.sl 4 (List.map A3 p_l),iA s16,AV.mapp 1,iA s17,iA s18],Ob.mp none false (List.map A8 Af),Ob.var 98 [sA y5.1.f_word,sA y5.1.f_form,bA y5.1.f_body,bA y5.1.f_more],Ob.var 73 [iA ((Bf Af x4.Aa 0)),sA s19,sA s20,AV.sl 5 (List.map A1 s21),AV.sl 5 (List.map A1 s22),bA s23,iA (0),iA (0),iA y8],Ob.var 91 [AV.ptr 0 0],Ob.var 126 [AV.ptr 3 0],Ob.mpo (some .u8) [[AV.int .u8 (114),AV.func 91 [] [AV.ptr 4 0,AV.ptr 5 0]],[AV.int .u8 (108),AV.func 93 [] [AV.ptr 4 0,AV.ptr 5 0]],[AV.int .u8 (101),AV.func 94 [] [AV.ptr 4 0,AV.ptr 5 0]],[AV.int .u8 (102),AV.func 96 [] [AV.ptr 4 0,AV.ptr 5 0]],[AV.int .u8 (113),AV.func 97 [] [AV.ptr 4 0,AV.ptr 5 0]]]]) (fun(x73,x74,x75,x76,x77,x78,x79,x80) a72=>Bo 157 [(0,AV.ptr 0 0),(1,iA Fm),(6,AV.ptr 2 0),(8,AV.ptr 3 0)]) (fun(x73,x74,x75,x76,x77,x78,x79,x80) a72=>[Ob.var 94 [AV.sl 4 (List.map A3 p_l),iA x73,AV.mapp 1,iA x74,iA x75],Ob.mp none false (List.map A8 Af),Ob.var 98 [sA y5.1.f_word,sA y5.1.f_form,bA y5.1.f_body,bA y5.1.f_more],Ob.var 73 [iA ((Bf Af x4.Aa 0)),sA x76,sA x77,AV.sl 5 (List.map A1 x78),AV.sl 5 (List.map A1 x79),bA x80,iA (0),iA (0),iA y8],Ob.var 91 [AV.ptr 0 0],Ob.var 126 [AV.ptr 3 0],Ob.mpo (some .u8) [[AV.int .u8 (114),AV.func 91 [] [AV.ptr 4 0,AV.ptr 5 0]],[AV.int .u8 (108),AV.func 93 [] [AV.ptr 4 0,AV.ptr 5 0]],[AV.int .u8 (101),AV.func 94 [] [AV.ptr 4 0,AV.ptr 5 0]],[AV.int .u8 (102),AV.func 96 [] [AV.ptr 4 0,AV.ptr 5 0]],[AV.int .u8 (113),AV.func 97 [] [AV.ptr 4 0,AV.ptr 5 0]]]]) (fun v=>(AV.sl 9 (List.map Ae v.1),[Ob.var 94 [AV.sl 4 (List.map A3 p_l),iA v.2.1,AV.mapp 1,iA v.2.2.1,iA v.2.2.2],Ob.mp none false (List.map A8 Af)])) (fun k s=>B4 n p_l Af x4 y5 y8 k s.1 s.2.1 s.2.2.1 s.2.2.2.1 s.2.2.2.2.1 s.2.2.2.2.2.1 s.2.2.2.2.2.2.1 s.2.2.2.2.2.2.2.1 s.2.2.2.2.2.2.2.2) (fun s=>rfl) o31 n (0,IntKind.i64.wrap (p_i+1),p_e,p_at,([]:List UInt8),([]:List UInt8),([]:List A2),([]:List A2),false) (fun _=>0) ho31 ?_ ?_
 intro k24 ss a25 K26 cont27 hK28 hcont29 h hr30
 obtain⟨s15,s16,s17,s18,s19,s20,s21,s22,s23⟩:=ss
 replace h:B4 n p_l Af x4 y5 y8 (k24+1) s15 s16 s17 s18 s19 s20 s21 s22 s23=some o31:=h
 rw[B4] at h
 conv=>lhs;whnf
 revert h
 refine br ?_ ?_
 refine ixs ?_;intro x33
 refine br ?_ ?_
 refine br ?_ ?_
 refine ca hc (fun _ h=>Ya h) ?_;intro y36
 exact fun h=>cq (hcont29 (IntKind.i64.wrap (s15+1),y36.1,y36.2.1,y36.2.2.1,y36.2.2.2,s20,s21,s22,s23) (fun _=>0) h)
 refine cp ?_
 refine cr hc (fun _ h=>Ce h) ?_;intro y39
 exact fun h=>cq (hcont29 (IntKind.i64.wrap (s15+1),y39.1,y39.2.1,y39.2.2,s19,s20,s21,s22,s23) (fun _=>0) h)
 refine br ?_ ?_
 refine br ?_ ?_
 refine ca hc (fun _ h=>Y6 h) ?_;intro y43
 exact fun h=>cq (hcont29 (IntKind.i64.wrap (s15+1),y43.1,y43.2.1,y43.2.2.1,s19,y43.2.2.2,s21,s22,s23) (fun _=>0) h)
 refine cp ?_
 refine cr hc (fun _ h=>Ce h) ?_;intro y46
 exact fun h=>cq (hcont29 (IntKind.i64.wrap (s15+1),y46.1,y46.2.1,y46.2.2,s19,s20,s21,s22,s23) (fun _=>0) h)
 refine br ?_ ?_
 refine br ?_ ?_
 refine ca hc (fun _ h=>Yl h) ?_;intro y50
 exact fun h=>cq (hcont29 (IntKind.i64.wrap (s15+1),y50.1,y50.2.1,y50.2.2.1,s19,s20,y50.2.2.2,s22,s23) (fun _=>0) h)
 refine cp ?_
 refine cr hc (fun _ h=>Ce h) ?_;intro y53
 exact fun h=>cq (hcont29 (IntKind.i64.wrap (s15+1),y53.1,y53.2.1,y53.2.2,s19,s20,s21,s22,s23) (fun _=>0) h)
 refine br ?_ ?_
 refine br ?_ ?_
 refine ca hc (fun _ h=>Yb h) ?_;intro y57
 exact fun h=>cq (hcont29 (IntKind.i64.wrap (s15+1),y57.1,y57.2.1,y57.2.2.1,s19,s20,s21,y57.2.2.2,s23) (fun _=>0) h)
 refine cp ?_
 refine cr hc (fun _ h=>Ce h) ?_;intro y60
 exact fun h=>cq (hcont29 (IntKind.i64.wrap (s15+1),y60.1,y60.2.1,y60.2.2,s19,s20,s21,s22,s23) (fun _=>0) h)
 refine br ?_ ?_
 refine br ?_ ?_
 refine ca hc (fun _ h=>Yc h) ?_;intro y64
 exact fun h=>cq (hcont29 (IntKind.i64.wrap (s15+1),y64.1,y64.2.1,y64.2.2.1,s19,s20,s21,s22,y64.2.2.2) (fun _=>0) h)
 refine cp ?_
 refine cr hc (fun _ h=>Ce h) ?_;intro y67
 exact fun h=>cq (hcont29 (IntKind.i64.wrap (s15+1),y67.1,y67.2.1,y67.2.2,s19,s20,s21,s22,s23) (fun _=>0) h)
 refine cp ?_
 refine cr hc (fun _ h=>Ce h) ?_;intro y70
 exact fun h=>cq (hcont29 (IntKind.i64.wrap (s15+1),y70.1,y70.2.1,y70.2.2,s19,s20,s21,s22,s23) (fun _=>0) h)
 intro h;cases sj h
 exact kq (hr30 (fun _=>0))
 refine lrc ?_ ?_
 intro v e;subst e;cases sj h;rfl
 intro t a72 e;subst e
 obtain⟨x73,x74,x75,x76,x77,x78,x79,x80⟩:=t
 dsimp only at h
 conv=>lhs;whnf
 revert h
 refine br ?_ ?_
 refine ca hc (fun _ h=>ih.1 h) ?_;intro y82
 refine br ?_ ?_
 refine br ?_ ?_
 refine ca hc (fun _ h=>J9 h) ?_;intro y86
 refine br ?_ ?_
 refine ca hc (fun _ h=>ih.1 h) ?_;intro y89
 refine ar (ap Ae ([[iA ((Bf Af x4.Aa 0)),sA x76,sA x77,AV.sl 5 (List.map A1 x78),AV.sl 5 (List.map A1 x79),bA x80,iA (((y82.1.length:Nat):Int)),iA (((y89.1.length:Nat):Int)),iA y8]]) ([(⟨(Bf Af x4.Aa 0),x76,x77,x78,x79,x80,((y82.1.length:Nat):Int),((y89.1.length:Nat):Int),y8⟩:A4)]:List A4) (List.map Ae y82.1) y82.1) ?_
 refine ar (ap Ae (List.map Ae (([(⟨(Bf Af x4.Aa 0),x76,x77,x78,x79,x80,((y82.1.length:Nat):Int),((y89.1.length:Nat):Int),y8⟩:A4)]:List A4)++y82.1)) (([(⟨(Bf Af x4.Aa 0),x76,x77,x78,x79,x80,((y82.1.length:Nat):Int),((y89.1.length:Nat):Int),y8⟩:A4)]:List A4)++y82.1) (List.map Ae y89.1) y89.1) ?_
 intro h;cases sj h
 try simp only[ls]
 exact fq (y:=some (AV.sl 9 (List.take (List.length (((([(⟨(Bf Af x4.Aa 0),x76,x77,x78,x79,x80,((y82.1.length:Nat):Int),((y89.1.length:Nat):Int),y8⟩:A4)]:List A4)++y82.1)++y89.1))) (List.map Ae ((([(⟨(Bf Af x4.Aa 0),x76,x77,x78,x79,x80,((y82.1.length:Nat):Int),((y89.1.length:Nat):Int),y8⟩:A4)]:List A4)++y82.1)++y89.1))),[Ob.var 94 [AV.sl 4 (List.map A3 p_l),iA y89.2.1,AV.mapp 1,iA y89.2.2.1,iA y89.2.2.2],Ob.mp none false (List.map A8 Af)]))
 refine ar (ap Ae ([[iA ((Bf Af x4.Aa 0)),sA x76,sA x77,AV.sl 5 (List.map A1 x78),AV.sl 5 (List.map A1 x79),bA x80,iA (((y82.1.length:Nat):Int)),iA (0),iA y8]]) ([(⟨(Bf Af x4.Aa 0),x76,x77,x78,x79,x80,((y82.1.length:Nat):Int),0,y8⟩:A4)]:List A4) (List.map Ae y82.1) y82.1) ?_
 intro h
 refine B8 h ?_;clear h;intro hc99 h
 first|refine B9 (Z5 hc99 (by first|rfl|simp only [B6]) (by first|rfl|simp only [B6]) (by first|rfl|simp only [B6,Dj]) (by kernel_rfl)) ?_|refine B9 (W1 hc99 (by first|rfl|simp only [B6]) (by first|rfl|simp only [B6,Dj]) (by kernel_rfl)) ?_
 have hp97:(List.map Ae (([(⟨(Bf Af x4.Aa 0),x76,x77,x78,x79,x80,((y82.1.length:Nat):Int),0,y8⟩:A4)]:List A4)++y82.1):List (List AV))++([]:List (List AV))=(List.map Ae (([(⟨(Bf Af x4.Aa 0),x76,x77,x78,x79,x80,((y82.1.length:Nat):Int),0,y8⟩:A4)]:List A4)++y82.1):List (List AV)):=List.append_nil _
 have hl98:List.length (List.map Ae (([(⟨(Bf Af x4.Aa 0),x76,x77,x78,x79,x80,((y82.1.length:Nat):Int),0,y8⟩:A4)]:List A4)++y82.1):List (List AV))+List.length ([]:List (List AV))=List.length (List.map Ae (([(⟨(Bf Af x4.Aa 0),x76,x77,x78,x79,x80,((y82.1.length:Nat):Int),0,y8⟩:A4)]:List A4)++y82.1):List (List AV)):=rfl
 have hl98_b:List.length (([(⟨(Bf Af x4.Aa 0),x76,x77,x78,x79,x80,((y82.1.length:Nat):Int),0,y8⟩:A4)]:List A4)++y82.1)+List.length ([]:List (List AV))=List.length (([(⟨(Bf Af x4.Aa 0),x76,x77,x78,x79,x80,((y82.1.length:Nat):Int),0,y8⟩:A4)]:List A4)++y82.1):=rfl
 try simp only[ls,c0]
 try simp only[hp97,hl98,hl98_b]
 try simp only[ls]
 conv=>lhs;whnf
 revert h
 intro h;cases sj h
 try simp only[ls]
 exact fq (y:=some (AV.sl 9 (List.take (List.length ((([(⟨(Bf Af x4.Aa 0),x76,x77,x78,x79,x80,((y82.1.length:Nat):Int),0,y8⟩:A4)]:List A4)++y82.1))) (List.map Ae (([(⟨(Bf Af x4.Aa 0),x76,x77,x78,x79,x80,((y82.1.length:Nat):Int),0,y8⟩:A4)]:List A4)++y82.1))),[Ob.var 94 [AV.sl 4 (List.map A3 p_l),iA y82.2.1,AV.mapp 1,iA y82.2.2.1,iA y82.2.2.2],Ob.mp none false (List.map A8 Af)]))
 refine ar (ap Ae ([[iA ((Bf Af x4.Aa 0)),sA x76,sA x77,AV.sl 5 (List.map A1 x78),AV.sl 5 (List.map A1 x79),bA x80,iA (((y82.1.length:Nat):Int)),iA (0),iA y8]]) ([(⟨(Bf Af x4.Aa 0),x76,x77,x78,x79,x80,((y82.1.length:Nat):Int),0,y8⟩:A4)]:List A4) (List.map Ae y82.1) y82.1) ?_
 intro h
 refine B8 h ?_;clear h;intro hc104 h
 first|refine B9 (Z5 hc104 (by first|rfl|simp only [B6]) (by first|rfl|simp only [B6]) (by first|rfl|simp only [B6,Dj]) (by kernel_rfl)) ?_|refine B9 (W1 hc104 (by first|rfl|simp only [B6]) (by first|rfl|simp only [B6,Dj]) (by kernel_rfl)) ?_
 have hp102:(List.map Ae (([(⟨(Bf Af x4.Aa 0),x76,x77,x78,x79,x80,((y82.1.length:Nat):Int),0,y8⟩:A4)]:List A4)++y82.1):List (List AV))++([]:List (List AV))=(List.map Ae (([(⟨(Bf Af x4.Aa 0),x76,x77,x78,x79,x80,((y82.1.length:Nat):Int),0,y8⟩:A4)]:List A4)++y82.1):List (List AV)):=List.append_nil _
 have hl103:List.length (List.map Ae (([(⟨(Bf Af x4.Aa 0),x76,x77,x78,x79,x80,((y82.1.length:Nat):Int),0,y8⟩:A4)]:List A4)++y82.1):List (List AV))+List.length ([]:List (List AV))=List.length (List.map Ae (([(⟨(Bf Af x4.Aa 0),x76,x77,x78,x79,x80,((y82.1.length:Nat):Int),0,y8⟩:A4)]:List A4)++y82.1):List (List AV)):=rfl
 have hl103_b:List.length (([(⟨(Bf Af x4.Aa 0),x76,x77,x78,x79,x80,((y82.1.length:Nat):Int),0,y8⟩:A4)]:List A4)++y82.1)+List.length ([]:List (List AV))=List.length (([(⟨(Bf Af x4.Aa 0),x76,x77,x78,x79,x80,((y82.1.length:Nat):Int),0,y8⟩:A4)]:List A4)++y82.1):=rfl
 try simp only[ls,c0]
 try simp only[hp102,hl103,hl103_b]
 try simp only[ls]
 conv=>lhs;whnf
 revert h
 intro h;cases sj h
 try simp only[ls]
 exact fq (y:=some (AV.sl 9 (List.take (List.length ((([(⟨(Bf Af x4.Aa 0),x76,x77,x78,x79,x80,((y82.1.length:Nat):Int),0,y8⟩:A4)]:List A4)++y82.1))) (List.map Ae (([(⟨(Bf Af x4.Aa 0),x76,x77,x78,x79,x80,((y82.1.length:Nat):Int),0,y8⟩:A4)]:List A4)++y82.1))),[Ob.var 94 [AV.sl 4 (List.map A3 p_l),iA y82.2.1,AV.mapp 1,iA y82.2.2.1,iA y82.2.2.2],Ob.mp none false (List.map A8 Af)]))
 refine ar (ap Ae ([[iA ((Bf Af x4.Aa 0)),sA x76,sA x77,AV.sl 5 (List.map A1 x78),AV.sl 5 (List.map A1 x79),bA x80,iA (((y82.1.length:Nat):Int)),iA (0),iA y8]]) ([(⟨(Bf Af x4.Aa 0),x76,x77,x78,x79,x80,((y82.1.length:Nat):Int),0,y8⟩:A4)]:List A4) (List.map Ae y82.1) y82.1) ?_
 intro h
 refine B8 h ?_;clear h;intro hc109 h
 first|refine B9 (Z5 hc109 (by first|rfl|simp only [B6]) (by first|rfl|simp only [B6]) (by first|rfl|simp only [B6,Dj]) (by kernel_rfl)) ?_|refine B9 (W1 hc109 (by first|rfl|simp only [B6]) (by first|rfl|simp only [B6,Dj]) (by kernel_rfl)) ?_
 have hp107:(List.map Ae (([(⟨(Bf Af x4.Aa 0),x76,x77,x78,x79,x80,((y82.1.length:Nat):Int),0,y8⟩:A4)]:List A4)++y82.1):List (List AV))++([]:List (List AV))=(List.map Ae (([(⟨(Bf Af x4.Aa 0),x76,x77,x78,x79,x80,((y82.1.length:Nat):Int),0,y8⟩:A4)]:List A4)++y82.1):List (List AV)):=List.append_nil _
 have hl108:List.length (List.map Ae (([(⟨(Bf Af x4.Aa 0),x76,x77,x78,x79,x80,((y82.1.length:Nat):Int),0,y8⟩:A4)]:List A4)++y82.1):List (List AV))+List.length ([]:List (List AV))=List.length (List.map Ae (([(⟨(Bf Af x4.Aa 0),x76,x77,x78,x79,x80,((y82.1.length:Nat):Int),0,y8⟩:A4)]:List A4)++y82.1):List (List AV)):=rfl
 have hl108_b:List.length (([(⟨(Bf Af x4.Aa 0),x76,x77,x78,x79,x80,((y82.1.length:Nat):Int),0,y8⟩:A4)]:List A4)++y82.1)+List.length ([]:List (List AV))=List.length (([(⟨(Bf Af x4.Aa 0),x76,x77,x78,x79,x80,((y82.1.length:Nat):Int),0,y8⟩:A4)]:List A4)++y82.1):=rfl
 try simp only[ls,c0]
 try simp only[hp107,hl108,hl108_b]
 try simp only[ls]
 conv=>lhs;whnf
 revert h
 intro h;cases sj h
 try simp only[ls]
 exact fq (y:=some (AV.sl 9 (List.take (List.length ((([(⟨(Bf Af x4.Aa 0),x76,x77,x78,x79,x80,((y82.1.length:Nat):Int),0,y8⟩:A4)]:List A4)++y82.1))) (List.map Ae (([(⟨(Bf Af x4.Aa 0),x76,x77,x78,x79,x80,((y82.1.length:Nat):Int),0,y8⟩:A4)]:List A4)++y82.1))),[Ob.var 94 [AV.sl 4 (List.map A3 p_l),iA y82.2.1,AV.mapp 1,iA y82.2.2.1,iA y82.2.2.2],Ob.mp none false (List.map A8 Af)]))
 refine br ?_ ?_
 refine br ?_ ?_
 refine ca hc (fun _ h=>J9 h) ?_;intro y112
 refine br ?_ ?_
 refine ca hc (fun _ h=>ih.1 h) ?_;intro y115
 intro h
 have hp117:([[iA ((Bf Af x4.Aa 0)),sA x76,sA x77,AV.sl 5 (List.map A1 x78),AV.sl 5 (List.map A1 x79),bA x80,iA (0),iA (((y115.1.length:Nat):Int)),iA y8]]:List (List AV))++([]:List (List AV))=([[iA ((Bf Af x4.Aa 0)),sA x76,sA x77,AV.sl 5 (List.map A1 x78),AV.sl 5 (List.map A1 x79),bA x80,iA (0),iA (((y115.1.length:Nat):Int)),iA y8]]:List (List AV)):=List.append_nil _
 have hl118:List.length ([[iA ((Bf Af x4.Aa 0)),sA x76,sA x77,AV.sl 5 (List.map A1 x78),AV.sl 5 (List.map A1 x79),bA x80,iA (0),iA (((y115.1.length:Nat):Int)),iA y8]]:List (List AV))+List.length ([]:List (List AV))=List.length ([[iA ((Bf Af x4.Aa 0)),sA x76,sA x77,AV.sl 5 (List.map A1 x78),AV.sl 5 (List.map A1 x79),bA x80,iA (0),iA (((y115.1.length:Nat):Int)),iA y8]]:List (List AV)):=rfl
 have hl118_b:List.length ([(⟨(Bf Af x4.Aa 0),x76,x77,x78,x79,x80,0,((y115.1.length:Nat):Int),y8⟩:A4)]:List A4)+List.length ([]:List (List AV))=List.length ([(⟨(Bf Af x4.Aa 0),x76,x77,x78,x79,x80,0,((y115.1.length:Nat):Int),y8⟩:A4)]:List A4):=rfl
 try simp only[ls,c0]
 try simp only[hp117,hl118,hl118_b]
 conv=>lhs;whnf
 revert h
 refine ar (ap Ae ([[iA ((Bf Af x4.Aa 0)),sA x76,sA x77,AV.sl 5 (List.map A1 x78),AV.sl 5 (List.map A1 x79),bA x80,iA (0),iA (((y115.1.length:Nat):Int)),iA y8]]) ([(⟨(Bf Af x4.Aa 0),x76,x77,x78,x79,x80,0,((y115.1.length:Nat):Int),y8⟩:A4)]:List A4) (List.map Ae y115.1) y115.1) ?_
 intro h;cases sj h
 try simp only[ls]
 exact fq (y:=some (AV.sl 9 (List.take (List.length ((([(⟨(Bf Af x4.Aa 0),x76,x77,x78,x79,x80,0,((y115.1.length:Nat):Int),y8⟩:A4)]:List A4)++y115.1))) (List.map Ae (([(⟨(Bf Af x4.Aa 0),x76,x77,x78,x79,x80,0,((y115.1.length:Nat):Int),y8⟩:A4)]:List A4)++y115.1))),[Ob.var 94 [AV.sl 4 (List.map A3 p_l),iA y115.2.1,AV.mapp 1,iA y115.2.2.1,iA y115.2.2.2],Ob.mp none false (List.map A8 Af)]))
 intro h
 have hp121:([[iA ((Bf Af x4.Aa 0)),sA x76,sA x77,AV.sl 5 (List.map A1 x78),AV.sl 5 (List.map A1 x79),bA x80,iA (0),iA (0),iA y8]]:List (List AV))++([]:List (List AV))=([[iA ((Bf Af x4.Aa 0)),sA x76,sA x77,AV.sl 5 (List.map A1 x78),AV.sl 5 (List.map A1 x79),bA x80,iA (0),iA (0),iA y8]]:List (List AV)):=List.append_nil _
 have hl122:List.length ([[iA ((Bf Af x4.Aa 0)),sA x76,sA x77,AV.sl 5 (List.map A1 x78),AV.sl 5 (List.map A1 x79),bA x80,iA (0),iA (0),iA y8]]:List (List AV))+List.length ([]:List (List AV))=List.length ([[iA ((Bf Af x4.Aa 0)),sA x76,sA x77,AV.sl 5 (List.map A1 x78),AV.sl 5 (List.map A1 x79),bA x80,iA (0),iA (0),iA y8]]:List (List AV)):=rfl
 have hl122_b:List.length ([(⟨(Bf Af x4.Aa 0),x76,x77,x78,x79,x80,0,0,y8⟩:A4)]:List A4)+List.length ([]:List (List AV))=List.length ([(⟨(Bf Af x4.Aa 0),x76,x77,x78,x79,x80,0,0,y8⟩:A4)]:List A4):=rfl
 try simp only[ls,c0]
 try simp only[hp121,hl122,hl122_b]
 conv=>lhs;whnf
 revert h
 intro h
 have hp123:([[iA ((Bf Af x4.Aa 0)),sA x76,sA x77,AV.sl 5 (List.map A1 x78),AV.sl 5 (List.map A1 x79),bA x80,iA (0),iA (0),iA y8]]:List (List AV))++([]:List (List AV))=([[iA ((Bf Af x4.Aa 0)),sA x76,sA x77,AV.sl 5 (List.map A1 x78),AV.sl 5 (List.map A1 x79),bA x80,iA (0),iA (0),iA y8]]:List (List AV)):=List.append_nil _
 have hl124:List.length ([[iA ((Bf Af x4.Aa 0)),sA x76,sA x77,AV.sl 5 (List.map A1 x78),AV.sl 5 (List.map A1 x79),bA x80,iA (0),iA (0),iA y8]]:List (List AV))+List.length ([]:List (List AV))=List.length ([[iA ((Bf Af x4.Aa 0)),sA x76,sA x77,AV.sl 5 (List.map A1 x78),AV.sl 5 (List.map A1 x79),bA x80,iA (0),iA (0),iA y8]]:List (List AV)):=rfl
 have hl124_b:List.length ([(⟨(Bf Af x4.Aa 0),x76,x77,x78,x79,x80,0,0,y8⟩:A4)]:List A4)+List.length ([]:List (List AV))=List.length ([(⟨(Bf Af x4.Aa 0),x76,x77,x78,x79,x80,0,0,y8⟩:A4)]:List A4):=rfl
 try simp only[ls,c0]
 try simp only[hp123,hl124,hl124_b]
 conv=>lhs;whnf
 revert h
 intro h;cases sj h
 try simp only[ls]
 exact fq (y:=some (AV.sl 9 (List.take (List.length (([(⟨(Bf Af x4.Aa 0),x76,x77,x78,x79,x80,0,0,y8⟩:A4)]:List A4))) ([[iA ((Bf Af x4.Aa 0)),sA x76,sA x77,AV.sl 5 (List.map A1 x78),AV.sl 5 (List.map A1 x79),bA x80,iA (0),iA (0),iA y8]])),[Ob.var 94 [AV.sl 4 (List.map A3 p_l),iA x73,AV.mapp 1,iA x74,iA x75],Ob.mp none false (List.map A8 Af)]))
 intro h
 have hp125:([[iA ((Bf Af x4.Aa 0)),sA x76,sA x77,AV.sl 5 (List.map A1 x78),AV.sl 5 (List.map A1 x79),bA x80,iA (0),iA (0),iA y8]]:List (List AV))++([]:List (List AV))=([[iA ((Bf Af x4.Aa 0)),sA x76,sA x77,AV.sl 5 (List.map A1 x78),AV.sl 5 (List.map A1 x79),bA x80,iA (0),iA (0),iA y8]]:List (List AV)):=List.append_nil _
 have hl126:List.length ([[iA ((Bf Af x4.Aa 0)),sA x76,sA x77,AV.sl 5 (List.map A1 x78),AV.sl 5 (List.map A1 x79),bA x80,iA (0),iA (0),iA y8]]:List (List AV))+List.length ([]:List (List AV))=List.length ([[iA ((Bf Af x4.Aa 0)),sA x76,sA x77,AV.sl 5 (List.map A1 x78),AV.sl 5 (List.map A1 x79),bA x80,iA (0),iA (0),iA y8]]:List (List AV)):=rfl
 have hl126_b:List.length ([(⟨(Bf Af x4.Aa 0),x76,x77,x78,x79,x80,0,0,y8⟩:A4)]:List A4)+List.length ([]:List (List AV))=List.length ([(⟨(Bf Af x4.Aa 0),x76,x77,x78,x79,x80,0,0,y8⟩:A4)]:List A4):=rfl
 try simp only[ls,c0]
 try simp only[hp125,hl126,hl126_b]
 conv=>lhs;whnf
 revert h
 intro h
 have hp127:([[iA ((Bf Af x4.Aa 0)),sA x76,sA x77,AV.sl 5 (List.map A1 x78),AV.sl 5 (List.map A1 x79),bA x80,iA (0),iA (0),iA y8]]:List (List AV))++([]:List (List AV))=([[iA ((Bf Af x4.Aa 0)),sA x76,sA x77,AV.sl 5 (List.map A1 x78),AV.sl 5 (List.map A1 x79),bA x80,iA (0),iA (0),iA y8]]:List (List AV)):=List.append_nil _
 have hl128:List.length ([[iA ((Bf Af x4.Aa 0)),sA x76,sA x77,AV.sl 5 (List.map A1 x78),AV.sl 5 (List.map A1 x79),bA x80,iA (0),iA (0),iA y8]]:List (List AV))+List.length ([]:List (List AV))=List.length ([[iA ((Bf Af x4.Aa 0)),sA x76,sA x77,AV.sl 5 (List.map A1 x78),AV.sl 5 (List.map A1 x79),bA x80,iA (0),iA (0),iA y8]]:List (List AV)):=rfl
 have hl128_b:List.length ([(⟨(Bf Af x4.Aa 0),x76,x77,x78,x79,x80,0,0,y8⟩:A4)]:List A4)+List.length ([]:List (List AV))=List.length ([(⟨(Bf Af x4.Aa 0),x76,x77,x78,x79,x80,0,0,y8⟩:A4)]:List A4):=rfl
 try simp only[ls,c0]
 try simp only[hp127,hl128,hl128_b]
 conv=>lhs;whnf
 revert h
 intro h;cases sj h
 try simp only[ls]
 exact fq (y:=some (AV.sl 9 (List.take (List.length (([(⟨(Bf Af x4.Aa 0),x76,x77,x78,x79,x80,0,0,y8⟩:A4)]:List A4))) ([[iA ((Bf Af x4.Aa 0)),sA x76,sA x77,AV.sl 5 (List.map A1 x78),AV.sl 5 (List.map A1 x79),bA x80,iA (0),iA (0),iA y8]])),[Ob.var 94 [AV.sl 4 (List.map A3 p_l),iA x73,AV.mapp 1,iA x74,iA x75],Ob.mp none false (List.map A8 Af)]))
 intro h
 have hp129:([[iA ((Bf Af x4.Aa 0)),sA x76,sA x77,AV.sl 5 (List.map A1 x78),AV.sl 5 (List.map A1 x79),bA x80,iA (0),iA (0),iA y8]]:List (List AV))++([]:List (List AV))=([[iA ((Bf Af x4.Aa 0)),sA x76,sA x77,AV.sl 5 (List.map A1 x78),AV.sl 5 (List.map A1 x79),bA x80,iA (0),iA (0),iA y8]]:List (List AV)):=List.append_nil _
 have hl130:List.length ([[iA ((Bf Af x4.Aa 0)),sA x76,sA x77,AV.sl 5 (List.map A1 x78),AV.sl 5 (List.map A1 x79),bA x80,iA (0),iA (0),iA y8]]:List (List AV))+List.length ([]:List (List AV))=List.length ([[iA ((Bf Af x4.Aa 0)),sA x76,sA x77,AV.sl 5 (List.map A1 x78),AV.sl 5 (List.map A1 x79),bA x80,iA (0),iA (0),iA y8]]:List (List AV)):=rfl
 have hl130_b:List.length ([(⟨(Bf Af x4.Aa 0),x76,x77,x78,x79,x80,0,0,y8⟩:A4)]:List A4)+List.length ([]:List (List AV))=List.length ([(⟨(Bf Af x4.Aa 0),x76,x77,x78,x79,x80,0,0,y8⟩:A4)]:List A4):=rfl
 try simp only[ls,c0]
 try simp only[hp129,hl130,hl130_b]
 conv=>lhs;whnf
 revert h
 intro h
 have hp131:([[iA ((Bf Af x4.Aa 0)),sA x76,sA x77,AV.sl 5 (List.map A1 x78),AV.sl 5 (List.map A1 x79),bA x80,iA (0),iA (0),iA y8]]:List (List AV))++([]:List (List AV))=([[iA ((Bf Af x4.Aa 0)),sA x76,sA x77,AV.sl 5 (List.map A1 x78),AV.sl 5 (List.map A1 x79),bA x80,iA (0),iA (0),iA y8]]:List (List AV)):=List.append_nil _
 have hl132:List.length ([[iA ((Bf Af x4.Aa 0)),sA x76,sA x77,AV.sl 5 (List.map A1 x78),AV.sl 5 (List.map A1 x79),bA x80,iA (0),iA (0),iA y8]]:List (List AV))+List.length ([]:List (List AV))=List.length ([[iA ((Bf Af x4.Aa 0)),sA x76,sA x77,AV.sl 5 (List.map A1 x78),AV.sl 5 (List.map A1 x79),bA x80,iA (0),iA (0),iA y8]]:List (List AV)):=rfl
 have hl132_b:List.length ([(⟨(Bf Af x4.Aa 0),x76,x77,x78,x79,x80,0,0,y8⟩:A4)]:List A4)+List.length ([]:List (List AV))=List.length ([(⟨(Bf Af x4.Aa 0),x76,x77,x78,x79,x80,0,0,y8⟩:A4)]:List A4):=rfl
 try simp only[ls,c0]
 try simp only[hp131,hl132,hl132_b]
 conv=>lhs;whnf
 revert h
 intro h;cases sj h
 try simp only[ls]
 exact fq (y:=some (AV.sl 9 (List.take (List.length (([(⟨(Bf Af x4.Aa 0),x76,x77,x78,x79,x80,0,0,y8⟩:A4)]:List A4))) ([[iA ((Bf Af x4.Aa 0)),sA x76,sA x77,AV.sl 5 (List.map A1 x78),AV.sl 5 (List.map A1 x79),bA x80,iA (0),iA (0),iA y8]])),[Ob.var 94 [AV.sl 4 (List.map A3 p_l),iA x73,AV.mapp 1,iA x74,iA x75],Ob.mp none false (List.map A8 Af)]))
 refine ca hc (fun _ h=>F3 h) ?_;intro y134
 intro h;cases sj h
 try simp only[ls]
 exact fq (y:=some (AV.sl 9 [],[Ob.var 94 [AV.sl 4 (List.map A3 p_l),iA p_i,AV.mapp 1,iA y134.1,iA y134.2],Ob.mp none false (List.map A8 Af)]))
 refine ca hc (fun _ h=>A2j h) ?_;intro y136
 refine ca hc (fun _ h=>F3 h) ?_;intro y138
 intro h;cases sj h
 try simp only[ls]
 exact fq (y:=some (AV.sl 9 [],[Ob.var 94 [AV.sl 4 (List.map A3 p_l),iA p_i,AV.mapp 1,iA y138.1,iA y138.2],Ob.mp none false (List.map A8 Af)]))
 refine ca hc (fun _ h=>A2j h) ?_;intro y140
 refine ca hc (fun _ h=>F3 h) ?_;intro y142
 intro h;cases sj h
 try simp only[ls]
 exact fq (y:=some (AV.sl 9 [],[Ob.var 94 [AV.sl 4 (List.map A3 p_l),iA p_i,AV.mapp 1,iA y142.1,iA y142.2],Ob.mp none false (List.map A8 Af)]))
theorem Rm:∀ n,Kv n
 | 0=>⟨by unfold O1;intros;rename_i h;exact absurd h (by intro h;cases h),by unfold Lj;intros;rename_i h;exact absurd h (by intro h;cases h),by unfold Pd;intros;rename_i h;exact absurd h (by intro h;cases h)⟩
 | n+1=>have ih:=Rm n
   ⟨A0p n ih,A15 n ih,A1k n ih⟩
theorem A16 {n:Nat}:Lj n:=(Rm n).2.1
end Go.Proofs.Ytnijlelbihnamaa
end
