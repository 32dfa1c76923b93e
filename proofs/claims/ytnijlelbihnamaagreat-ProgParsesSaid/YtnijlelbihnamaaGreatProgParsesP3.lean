/- Parts of the proofs: what they lean on. Conditions: none. -/
import Derived.Test.YtnijlelbihnamaaGreatProgParsesP2
section
namespace Go.Proofs.YtnijlelbihnamaaGreat
set_option linter.unusedVariables false
set_option linter.unusedSimpArgs false
set_option maxRecDepth 10000
theorem Aji (n:Nat) (e' a':Int) (l:List Tk) (i:Int) (e a:Int):Ka (n+1) e' a' l i e a=some ((faF (e,a) e' a').1,(faF (e,a) e' a').2):=by
 rw[Ka,faF]
 cases e==0<;>cases e' != 0<;>rfl
theorem B2m {T:Nat} {l:List Tk} (hk:Toks T l) (n:Nat) (hn:T+70≤n):∀ (m k K:Nat) (s:Ps) (acc:List (List UInt8)),Cb l s→Ew l s≤m→m < k→m < K→acc.length≤s.1+1 →
 Kh n l k (s.1:Int) s.2.1 s.2.2 acc=some (.out (((Dw l K s acc).2.1:Int),(Dw l K s acc).2.2.1,(Dw l K s acc).2.2.2,(Dw l K s acc).1))∧Cb l (Dw l K s acc).2∧s.1≤(Dw l K s acc).2.1:=by
 have hl:=hk.len
 intro m
 induction m with
 | zero =>
  intro k K s acc hs hm hk' hK ha
  obtain⟨k,rfl⟩:∃ j,k=j+1:=⟨k - 1,by omega⟩
  obtain⟨K,rfl⟩:∃ j,K=j+1:=⟨K - 1,by omega⟩
  have:(s.2.1==0)=false:=by
   unfold Ew at hm
   cases hc:s.2.1==0 with
   | true=>rw[hc] at hm;exact absurd hm (by show ¬ l.length - s.1+1≤0;omega)
   | false=>rfl
  rw[Kh,Dw,this];exact⟨rfl,hs,Nat.le_refl _⟩
 | succ m ih =>
  intro k K s acc hs hm hk' hK ha
  obtain⟨k,rfl⟩:∃ j,k=j+1:=⟨k - 1,by omega⟩
  obtain⟨K,rfl⟩:∃ j,K=j+1:=⟨K - 1,by omega⟩
  obtain⟨n,rfl⟩:∃ j,n=j+1:=⟨n - 1,by omega⟩
  rw[Kh,Dw,Lj]
  cases hc:s.2.1==0 with
  | false=>exact⟨rfl,hs,Nat.le_refl _⟩
  | true =>
   rw[Af,A1]
   cases hg:Bj l s.1 [44] with
   | false=>exact⟨rfl,hs,Nat.le_refl _⟩
   | true =>
    rw[beq_iff_eq] at hc
    have h1:=A0q hg
    have a1:Cb l (nmF l (s.1+1,s.2)).2:=Ng h1
    have b1:=Ni (l:=l) (s:=(s.1+1,s.2))
    have e1:=Adi hk (n+1) (s.1+1,s.2) h1 (by omega)
    dsimp only at e1 b1
    rw[Ay s.1 (by omega),e1,Af,A1,A6 (by unfold Cb at hs;omega)]
    have:=ih k K (nmF l (s.1+1,s.2)).2 (acc++[(nmF l (s.1+1,s.2)).1]) a1 (by have:=Rq (t:=(nmF l (s.1+1,s.2)).2) hc hs (.inr (by omega)) a1;omega) (by omega) (by omega) (by simp;omega)
    exact⟨this.1,this.2.1,Nat.le_trans (by omega) this.2.2⟩
theorem A0v {T:Nat} {l:List Tk} (hk:Toks T l) {s:Ps} (hs:Cb l s):Cb l (G1 l s).2∧s.1≤(G1 l s).2.1:=by
 unfold G1
 cases hc:C9 [114,101,103] l s with
 | false=>exact⟨hs,Nat.le_refl _⟩
 | true =>
  obtain⟨h1,h2⟩:=Je hc
  have a1:Cb l (nmF l (s.1+1,s.2)).2:=Ng h1
  have b1:=Ni (l:=l) (s:=(s.1+1,s.2))
  obtain⟨r2,r3⟩:=A2v (l.length+2) (nmF l (s.1+1,s.2)).2 [(nmF l (s.1+1,s.2)).1] a1
  have b2:=Vd (w:=[59]) (l:=l) (s:=(Dw l (l.length+2) (nmF l (s.1+1,s.2)).2 [(nmF l (s.1+1,s.2)).1]).2)
  dsimp only at b1
  refine⟨Kt r2,?_⟩
  show s.1≤(sgF [59] l (Dw l (l.length+2) (nmF l (s.1+1,s.2)).2 [(nmF l (s.1+1,s.2)).1]).2).1
  omega
theorem A4c {T:Nat} {l:List Tk} (hk:Toks T l) {i:Nat} (hi:i≤l.length):((seQ l i).2.1.toNat:Int)=(seQ l i).2.1∧(seQ l i).2.1.toNat≤l.length∧((seQ l i).2.2.1=0→i≤(seQ l i).2.1.toNat):=by
 rcases A08 hk hi with ⟨h0,_,h⟩ | ⟨tu,h,h2,h3,_⟩
 ·rw[h];exact⟨rfl,by simp,fun e=>absurd e h0⟩
 ·rw[h];exact⟨by simp,by simp;omega,fun _=>by simp;omega⟩
theorem A9l {T:Nat} {l:List Tk} (hk:Toks T l) {i:Nat} (hi:i≤l.length):((peQ l i).2.1.toNat:Int)=(peQ l i).2.1∧(peQ l i).2.1.toNat≤l.length∧((peQ l i).2.2.1=0→i < (peQ l i).2.1.toNat):=by
 rcases V8 hk hi with ⟨h0,_,h⟩ | ⟨tu,h,h2,h3,_⟩
 ·rw[h];exact⟨rfl,by simp,fun e=>absurd e h0⟩
 ·rw[h];exact⟨by simp,by simp;omega,fun _=>by simp;omega⟩
theorem Zo {w:List UInt8} {l:List Tk} {s:Ps} (h:s.2.1≠0):(sgF w l s).2.1≠0:=by
 rcases Zq (w:=w) (l:=l) (s:=s) with ⟨_,_,h0,_⟩ | ⟨h1,_⟩
 ·exact absurd h0 h
 ·exact h1
theorem Xf {s:Int×Int} {e a:Int} (h:e≠0):(faF s e a).1≠0:=by
 unfold faF
 cases hc:s.1==0 with
 | true=>rw[Af,bne_iff_ne.2 h];exact h
 | false=>rw[An];rw[beq_eq_false_iff_ne] at hc;exact hc
theorem Adt {T:Nat} {l:List Tk} (hk:Toks T l) {s:Ps} (hs:Cb l s):Cb l (Jl l s).2∧((Jl l s).2.2.1≠0∨s.1 < (Jl l s).2.1):=by
 unfold Jl
 cases hc:s.2.1==0 with
 | true =>
  rw[Af]
  obtain⟨h1,h2,h3⟩:=A4c hk hs
  refine⟨Kt h2,?_⟩
  by_cases e:(seQ l s.1).2.2.1=0
  ·have:=h3 e
   rcases Zq (w:=[125]) (l:=l) (s:=((seQ l s.1).2.1.toNat,faF s.2 (seQ l s.1).2.2.1 (seQ l s.1).2.2.2)) with ⟨g1,_⟩ | ⟨g1,_⟩
   ·right;dsimp only at g1 ⊢;omega
   ·exact .inl g1
  ·exact .inl (Zo (Xf e))
 | false =>
  rw[beq_eq_false_iff_ne] at hc
  exact⟨Kt hs,.inl (Zo hc)⟩
theorem Adu {T:Nat} {l:List Tk} (hk:Toks T l) {s:Ps} (h1:s.1 < l.length):Cb l (Jv l s).2∧((Jv l s).2.2.1≠0∨s.1 < (Jv l s).2.1):=by
 have a1:Cb l (nmF l (s.1+1,s.2)).2:=Ng h1
 have b1:=Ni (l:=l) (s:=(s.1+1,s.2))
 have a2:=Kt (w:=[123]) a1
 have b2:=Vd (w:=[123]) (l:=l) (s:=(nmF l (s.1+1,s.2)).2)
 obtain⟨a3,b3⟩:=A0v hk a2
 obtain⟨a4,b4⟩:=Adt hk a3
 dsimp only at b1
 exact⟨a4,b4.imp id (fun h=>by unfold Jv;dsimp only;omega)⟩
theorem Anr {T:Nat} {l:List Tk} (hk:Toks T l):∀ (K:Nat) (s:Ps) (acc:List Th),Cb l s→Cb l (Gs l K s acc).2∧(Gs l K s acc).1.length≤acc.length+Ew l s
 | 0,s,acc,hs=>⟨hs,Nat.le_add_right _ _⟩
 | K+1,s,acc,hs=>by
  rw[Gs]
  cases hc:C9 [116,104,114,101,97,100] l s with
  | false=>exact⟨hs,Nat.le_add_right _ _⟩
  | true =>
   obtain⟨h1,h2⟩:=Je hc
   obtain⟨t2,t3⟩:=Adu hk h1
   have:=Rq (t:=(Jv l s).2) h2 hs t3 t2
   have ih:=Anr hk K (Jv l s).2 (acc++[(Jv l s).1]) t2
   rw[List.length_append,List.length_singleton] at ih
   exact⟨ih.1,Nat.le_trans ih.2 (by omega)⟩
theorem Axl {T:Nat} {l:List Tk} (hk:Toks T l) (n:Nat) (s:Ps) (h1:s.1 < l.length) (hn:18*l.length+T+1000≤n) :
 P1 n l (s.1:Int) s.2.1 s.2.2=some ((Jv l s).1,((Jv l s).2.1:Int),(Jv l s).2.2.1,(Jv l s).2.2.2)∧Cb l (Jv l s).2∧((Jv l s).2.2.1≠0∨s.1 < (Jv l s).2.1):=by
 have hl:=hk.len
 obtain⟨n,rfl⟩:∃ j,n=j+5:=⟨n - 5,by omega⟩
 have a1:Cb l (nmF l (s.1+1,s.2)).2:=Ng h1
 have b1:=Ni (l:=l) (s:=(s.1+1,s.2))
 have a2:=Kt (w:=[123]) a1
 have b2:=Vd (w:=[123]) (l:=l) (s:=(nmF l (s.1+1,s.2)).2)
 obtain⟨a3,b3⟩:=A0v hk a2
 obtain⟨a4,b4⟩:=Adt hk a3
 dsimp only at b1
 refine⟨?_,a4,b4.imp id (fun h=>by unfold Jv;dsimp only;omega)⟩
 have e1:=Adi hk (n+4) (s.1+1,s.2) h1 (by omega)
 dsimp only at e1
 rw[P1,C8 h1,A1,Ay s.1 (by omega),e1,A1]
 dsimp only
 rw[Z0 n [123] l _ hl a1,A1]
 dsimp only
 rw[A14 (n+3),A1]
 have tail:∀ (q:List (List UInt8)) (t:Ps),Cb l t→(bif t.2.1==0 then(Rb (n+4) l (t.1:Int)).bind fun y39=>(Ka (n+4) y39.2.2.1 y39.2.2.2 l (t.1:Int) t.2.1 t.2.2).bind fun y41=>(Da (n+4) [125] l y39.2.1 y41.1 y41.2).bind fun y43=>some ((⟨(nmF l (s.1+1,s.2)).1,q,y39.1,l[s.1].Ab⟩:Ae),y43.1,y43.2.1,y43.2.2)
  else(Da (n+4) [125] l (t.1:Int) t.2.1 t.2.2).bind fun y45=>some ((⟨(nmF l (s.1+1,s.2)).1,q,[],l[s.1].Ab⟩:Ae),y45.1,y45.2.1,y45.2.2))=some ((⟨(nmF l (s.1+1,s.2)).1,q,(Jl l t).1,l[s.1].Ab⟩:Ae),((Jl l t).2.1:Int),(Jl l t).2.2.1,(Jl l t).2.2.2):=by
  intro q t ht
  unfold Jl
  cases hc:t.2.1==0 with
  | true =>
   obtain⟨g1,g2,_⟩:=A4c hk ht
   rw[Af,B2q hk ht (by omega),A1,Aji,A1]
   dsimp only
   have e2:=Z0 n [125] l ((seQ l t.1).2.1.toNat,faF t.2 (seQ l t.1).2.2.1 (seQ l t.1).2.2.2) hl g2
   dsimp only at e2
   rw[g1] at e2
   rw[e2,A1];rfl
  | false=>rw[An,Z0 n [125] l t hl ht,A1];rfl
 have hat:(Jv l s)=(⟨(nmF l (s.1+1,s.2)).1,(G1 l (sgF [123] l (nmF l (s.1+1,s.2)).2)).1,(Jl l (G1 l (sgF [123] l (nmF l (s.1+1,s.2)).2)).2).1,l[s.1].Ab⟩,(Jl l (G1 l (sgF [123] l (nmF l (s.1+1,s.2)).2)).2).2):=by unfold Jv;rw[A3c h1]
 rw[hat]
 generalize hS:sgF [123] l (nmF l (s.1+1,s.2)).2=S at *
 cases hc:C9 [114,101,103] l S with
 | false =>
  have hh:G1 l S=([],S):=by unfold G1;rw[hc];rfl
  rw[hh] at a3 ⊢
  exact tail [] S a3
 | true =>
  obtain⟨q1,q2⟩:=Je hc
  have c1:Cb l (nmF l (S.1+1,S.2)).2:=Ng q1
  obtain⟨r1,r2,r3⟩:=B2m hk (n+4) (by omega) (l.length+1) (n+4) (l.length+2) (nmF l (S.1+1,S.2)).2 [(nmF l (S.1+1,S.2)).1] c1 Og (by omega) (by omega) (by simp)
  have hh:G1 l S=((Dw l (l.length+2) (nmF l (S.1+1,S.2)).2 [(nmF l (S.1+1,S.2)).1]).1,sgF [59] l (Dw l (l.length+2) (nmF l (S.1+1,S.2)).2 [(nmF l (S.1+1,S.2)).1]).2):=by unfold G1;rw[hc];rfl
  rw[hh] at a3 ⊢
  have e3:=Adi hk (n+4) (S.1+1,S.2) q1 (by omega)
  dsimp only at e3
  rw[Af,Ay S.1 (by omega),e3,A1]
  dsimp only
  rw[r1,A1]
  dsimp only
  rw[Z0 n [59] l _ hl r2,A1]
  exact tail _ _ a3
theorem B25 {T:Nat} {l:List Tk} (hk:Toks T l) (n:Nat) (y:List Tk×Int×Int) (hy:y.1=l) (hn:18*l.length+T+1000≤n):∀ (m k K:Nat) (s:Ps) (acc:List Th),Cb l s→Ew l s≤m→m < k→m < K→acc.length+m≤l.length+5 →
 P4 n y k (s.1:Int) s.2.1 s.2.2 acc=some (.out (((Gs l K s acc).2.1:Int),(Gs l K s acc).2.2.1,(Gs l K s acc).2.2.2,(Gs l K s acc).1))∧Oy n y k (s.1:Int) s.2.1 s.2.2 acc=some (.out (((Gs l K s acc).2.1:Int),(Gs l K s acc).2.2.1,(Gs l K s acc).2.2.2,(Gs l K s acc).1))∧Cb l (Gs l K s acc).2∧(Gs l K s acc).1.length≤l.length+5:=by
 subst hy
 have hl:=hk.len
 intro m
 induction m with
 | zero =>
  intro k K s acc hs hm hk' hK ha
  obtain⟨k,rfl⟩:∃ j,k=j+1:=⟨k - 1,by omega⟩
  obtain⟨K,rfl⟩:∃ j,K=j+1:=⟨K - 1,by omega⟩
  obtain⟨n,rfl⟩:∃ j,n=j+1:=⟨n - 1,by omega⟩
  have:C9 [116,104,114,101,97,100] y.1 s=false:=by
   unfold Ew at hm
   cases hc:s.2.1==0 with
   | true=>rw[hc] at hm;exact absurd hm (by show ¬ y.1.length - s.1+1≤0;omega)
   | false=>unfold C9;rw[hc];rfl
  rw[P4,Oy,A14,Gs,this];exact⟨rfl,rfl,hs,by dsimp only [cond_false];omega⟩
 | succ m ih =>
  intro k K s acc hs hm hk' hK ha
  obtain⟨k,rfl⟩:∃ j,k=j+1:=⟨k - 1,by omega⟩
  obtain⟨K,rfl⟩:∃ j,K=j+1:=⟨K - 1,by omega⟩
  obtain⟨n,rfl⟩:∃ j,n=j+1:=⟨n - 1,by omega⟩
  rw[P4,Oy,A14,Gs]
  cases hc:C9 [116,104,114,101,97,100] y.1 s with
  | false=>exact⟨rfl,rfl,hs,by dsimp only [cond_false];omega⟩
  | true =>
   obtain⟨h1,h2⟩:=Je hc
   obtain⟨t1,t2,t3⟩:=Axl hk (n+1) s h1 (by omega)
   rw[A1,A1,Af,Af,t1,A1,A1,A6 (by omega),A6 (by omega)]
   exact ih k K (Jv y.1 s).2 (acc++[(Jv y.1 s).1]) t2 (by have:=Rq (t:=(Jv y.1 s).2) h2 hs t3 t2;omega) (by omega) (by omega) (by simp;omega)
theorem B3e (n:Nat):∀ (m i k:Nat) (x:List Nd),x.length - i≤m→m < k→i≤x.length→x.length < 1000000→I6 n k (i:Int) x=some (.out (x.take i++(x.drop i).map H5)):=by
 intro m
 induction m with
 | zero =>
  intro i k x hm hk hi hx
  obtain⟨k,rfl⟩:∃ j,k=j+1:=⟨k - 1,by omega⟩
  rw[I6,Aq (by omega),List.drop_of_length_le (by omega),List.take_of_length_le (by omega)];simp
 | succ m ih =>
  intro i k x hm hk hi hx
  obtain⟨k,rfl⟩:∃ j,k=j+1:=⟨k - 1,by omega⟩
  by_cases c:i < x.length
  ·rw[I6,A6 (by omega),C8 c,A1,A1,Ay i (by omega)]
   have key:∀ z:List Nd,z.length=x.length→z.take (i+1)=x.take i++[H5 x[i]]→z.drop (i+1)=x.drop (i+1)→z.take (i+1)++(z.drop (i+1)).map H5=x.take i++(x.drop i).map H5:=by
    intro z _ h1 h2
    rw[h1,h2,List.drop_eq_getElem_cons c,List.map_cons,List.append_assoc];rfl
   by_cases h2:x[i].B3=2
   ·rw[h2,show((2:Int)==2)=true from rfl,Af,ih (i+1) k _ (by rw[List.length_set];omega) (by omega) (by rw[List.length_set];omega) (by rw[List.length_set];omega)]
    rw[key _ (by rw[List.length_set]) ?_ ?_]
    ·rw[Int.toNat_natCast,List.take_set,List.take_add_one,Ax c,Option.toList_some,List.set_append_right _ _ (by rw[List.length_take];omega),List.length_take,show i - min i x.length=0 by omega,List.set_cons_zero]
     simp[H5,h2]
    ·rw[Int.toNat_natCast,List.drop_set];rw[if_pos (by omega)]
   ·rw[Ca.2 h2,An,ih (i+1) k _ (by omega) (by omega) (by omega) hx]
    rw[key x rfl ?_ rfl]
    rw[List.take_add_one,Ax c]
    simp[H5,h2]
  ·rw[I6,Aq (by omega),List.drop_of_length_le (by omega),List.take_of_length_le (by omega)];simp
theorem B0u {T:Nat} {l:List Tk} (hk:Toks T l) (n:Nat) (k:Int) (s:Ps) (h1:s.1 < l.length) (h0:s.2.1=0) (hn:18*l.length+T+1000≤n) :
 Pc n k l (s.1:Int) s.2.1 s.2.2=some ((clF k l s).1,((clF k l s).2.1:Int),(clF k l s).2.2.1,(clF k l s).2.2.2)∧Cb l (clF k l s).2∧((clF k l s).2.2.1≠0∨s.1 < (clF k l s).2.1):=by
 have hl:=hk.len
 obtain⟨n,rfl⟩:∃ j,n=j+5:=⟨n - 5,by omega⟩
 obtain⟨g1,g2,g3⟩:=A9l hk (show s.1+1≤l.length from h1)
 have hx:(peQ l (s.1+1)).1.length≤200:=by
  rcases V8 hk (show s.1+1≤l.length from h1) with ⟨_,h,_⟩ | ⟨_,_,_,_,_,h⟩
  ·rw[h];simp
  ·simp only[Ep,Ah,C1] at h;exact h.1.2
 have hP:Cb l (if(faF s.2 (peQ l (s.1+1)).2.2.1 (peQ l (s.1+1)).2.2.2).1=0 then(peQ l (s.1+1)).2.1.toNat else s.1+1,faF s.2 (peQ l (s.1+1)).2.2.1 (peQ l (s.1+1)).2.2.2):=by
  unfold Cb;dsimp only;split
  ·exact g2
  ·exact h1
 have ea:(clF k l s).1=⟨k,(peQ l (s.1+1)).1.map H5,l[s.1].Ab⟩:=by unfold clF;rw[A3c h1]
 refine⟨?_,Kt hP,?_⟩
 ·rw[Pc,C8 h1,A1,Ay s.1 (by omega),B32 hk (show s.1+1≤l.length from h1) (by omega),A1]
  have fin:∀ (E:List Nd),(bif (faF s.2 (peQ l (s.1+1)).2.2.1 (peQ l (s.1+1)).2.2.2).1==0 then(Da (n+4) [59] l (peQ l (s.1+1)).2.1 (faF s.2 (peQ l (s.1+1)).2.2.1 (peQ l (s.1+1)).2.2.2).1 (faF s.2 (peQ l (s.1+1)).2.2.1 (peQ l (s.1+1)).2.2.2).2).bind fun y16=>some ((⟨k,E,l[s.1].Ab⟩:Ag),y16.1,y16.2.1,y16.2.2)
   else(Da (n+4) [59] l ((s.1+1:Nat):Int) (faF s.2 (peQ l (s.1+1)).2.2.1 (peQ l (s.1+1)).2.2.2).1 (faF s.2 (peQ l (s.1+1)).2.2.1 (peQ l (s.1+1)).2.2.2).2).bind fun y18=>some ((⟨k,E,l[s.1].Ab⟩:Ag),y18.1,y18.2.1,y18.2.2))=some ((⟨k,E,l[s.1].Ab⟩:Ag),((clF k l s).2.1:Int),(clF k l s).2.2.1,(clF k l s).2.2.2):=by
   intro E
   have e1:=Z0 n [59] l _ hl hP
   unfold clF
   dsimp only at e1 ⊢
   by_cases c:(faF s.2 (peQ l (s.1+1)).2.2.1 (peQ l (s.1+1)).2.2.2).1=0
   ·rw[if_pos c] at e1 ⊢
    rw[g1] at e1
    rw[beq_iff_eq.2 c,Af,e1,A1]
   ·rw[if_neg c] at e1 ⊢
    rw[Ca.2 c,An,e1,A1]
  rw[ea]
  by_cases hz:(peQ l (s.1+1)).1.length=0
  ·have hz':(peQ l (s.1+1)).1=[]:=List.length_eq_zero_iff.1 hz
   rw[A6 hz,Aji,A1,show R4 (n+4) (n+4)=some (.out ()) from rfl,A1,hz']
   exact fin []
  ·have hL:=B3e (n+4) (peQ l (s.1+1)).1.length 0 (n+4) (peQ l (s.1+1)).1 (by omega) (by omega) (by omega) (by omega)
   rw[show((0:Nat):Int)=0 from rfl,List.take_zero,List.drop_zero,List.nil_append] at hL
   rw[Aq hz,Aji,A1,hL,A1]
   exact fin _
 ·by_cases e:(peQ l (s.1+1)).2.2.1=0
  ·have:=g3 e
   have f0:(faF s.2 (peQ l (s.1+1)).2.2.1 (peQ l (s.1+1)).2.2.2).1=0:=by unfold faF;rw[h0,e];simp[h0]
   unfold clF
   dsimp only
   rw[if_pos f0]
   rcases Zq (w:=[59]) (l:=l) (s:=((peQ l (s.1+1)).2.1.toNat,faF s.2 (peQ l (s.1+1)).2.2.1 (peQ l (s.1+1)).2.2.2)) with ⟨q1,_⟩ | ⟨q1,_⟩
   ·right;dsimp only at q1;omega
   ·exact .inl q1
  ·exact .inl (Zo (Xf e))
theorem Ahd {T:Nat} {l:List Tk} (hk:Toks T l) (k:Int) {s:Ps} (h1:s.1 < l.length) (h0:s.2.1=0):Cb l (clF k l s).2∧((clF k l s).2.2.1≠0∨s.1 < (clF k l s).2.1):=by
 obtain⟨g1,g2,g3⟩:=A9l hk (show s.1+1≤l.length from h1)
 have hP:Cb l (if(faF s.2 (peQ l (s.1+1)).2.2.1 (peQ l (s.1+1)).2.2.2).1=0 then(peQ l (s.1+1)).2.1.toNat else s.1+1,faF s.2 (peQ l (s.1+1)).2.2.1 (peQ l (s.1+1)).2.2.2):=by
  unfold Cb;dsimp only;split
  ·exact g2
  ·exact h1
 refine⟨Kt hP,?_⟩
 by_cases e:(peQ l (s.1+1)).2.2.1=0
 ·have:=g3 e
  have f0:(faF s.2 (peQ l (s.1+1)).2.2.1 (peQ l (s.1+1)).2.2.2).1=0:=by unfold faF;rw[h0,e];simp[h0]
  unfold clF
  dsimp only
  rw[if_pos f0]
  rcases Zq (w:=[59]) (l:=l) (s:=((peQ l (s.1+1)).2.1.toNat,faF s.2 (peQ l (s.1+1)).2.2.1 (peQ l (s.1+1)).2.2.2)) with ⟨q1,_⟩ | ⟨q1,_⟩
  ·right;dsimp only at q1;omega
  ·exact .inl q1
 ·exact .inl (Zo (Xf e))
theorem Aou (n:Nat) (j:Nat) (h:1≤j∧j≤3):Tf (n+1) (j:Int)=some (cwS.getD j []):=by
 have:j=1∨j=2∨j=3:=by omega
 rcases this with rfl | rfl | rfl<;>rfl
theorem Ax2 (n:Nat) (l:List Tk) (s:Ps) (hn:10≤n):M3 n l (s.1:Int) s.2.1 s.2.2=some (Hb l s):=by
 obtain⟨n,rfl⟩:∃ j,n=j+6:=⟨n - 6,by omega⟩
 have w1:=Aou (n+4) 1 (by omega)
 have w2:=Aou (n+4) 2 (by omega)
 have w3:=Aou (n+4) 3 (by omega)
 rw[M3,K3,A6 (by omega)]
 have w1':Tf (n+5) 1=some [102,111,114,97,108,108]:=w1
 have w2':Tf (n+5) 2=some [101,120,105,115,116,115]:=w2
 have w3':Tf (n+5) 3=some [97,108,119,97,121,115]:=w3
 rw[w1',A1,A14 (n+4),A1,Hb]
 cases C9 [102,111,114,97,108,108] l s with
 | true=>rfl
 | false =>
  rw[An,An,show IntKind.i64.wrap (1+1)=2 from by decide +kernel,K3,A6 (by omega),w2',A1,A14 (n+4),A1]
  cases C9 [101,120,105,115,116,115] l s with
  | true=>rfl
  | false =>
   rw[An,An,show IntKind.i64.wrap (2+1)=3 from by decide +kernel,K3,A6 (by omega),w3',A1,A14 (n+4),A1]
   cases C9 [97,108,119,97,121,115] l s with
   | true=>rfl
   | false =>
    rw[An,An,show IntKind.i64.wrap (3+1)=4 from by decide +kernel,K3,Aq (by omega)];rfl
theorem A0o {l:List Tk} {s:Ps} (h:0 < Hb l s):s.1 < l.length∧s.2.1=0∧Hb l s≤3:=by
 unfold Hb at h ⊢
 cases h1:C9 [102,111,114,97,108,108] l s with
 | true=>obtain⟨a,b⟩:=Je h1;exact⟨a,b,(show(1:Int)≤3 by decide)⟩
 | false =>
  rw[h1] at h
  cases h2:C9 [101,120,105,115,116,115] l s with
  | true=>obtain⟨a,b⟩:=Je h2;exact⟨a,b,(show(2:Int)≤3 by decide)⟩
  | false =>
   rw[h2] at h
   cases h3:C9 [97,108,119,97,121,115] l s with
   | true=>obtain⟨a,b⟩:=Je h3;exact⟨a,b,(show(3:Int)≤3 by decide)⟩
   | false=>rw[h3] at h;exact absurd h (by decide)
theorem Ar9 {T:Nat} {l:List Tk} (hk:Toks T l):∀ (K:Nat) (s:Ps) (acc:List Cl),Cb l s→Cb l (Ia l K s acc).2∧(Ia l K s acc).1.length≤acc.length+Ew l s
 | 0,s,acc,hs=>⟨hs,Nat.le_add_right _ _⟩
 | K+1,s,acc,hs=>by
  rw[Ia]
  by_cases hc:0 < Hb l s
  ·obtain⟨h1,h2,_⟩:=A0o hc
   obtain⟨t2,t3⟩:=Ahd hk (Hb l s) h1 h2
   have:=Rq (t:=(clF (Hb l s) l s).2) h2 hs t3 t2
   have ih:=Ar9 hk K (clF (Hb l s) l s).2 (acc++[(clF (Hb l s) l s).1]) t2
   rw[List.length_append,List.length_singleton] at ih
   rw[A6 hc]
   exact⟨ih.1,Nat.le_trans ih.2 (by omega)⟩
  ·rw[Aq hc];exact⟨hs,Nat.le_add_right _ _⟩
theorem B33 {T:Nat} {l:List Tk} (hk:Toks T l) (n:Nat) (y:List Tk×Int×Int) (hy:y.1=l) (hn:18*l.length+T+1000≤n):∀ (m k K:Nat) (s:Ps) (acc:List Cl),Cb l s→Ew l s≤m→m < k→m < K→acc.length+m≤l.length+5 →
 Of n y k (s.1:Int) s.2.1 s.2.2 acc=some (.out (((Ia l K s acc).2.1:Int),(Ia l K s acc).2.2.1,(Ia l K s acc).2.2.2,(Ia l K s acc).1))∧Oj n y k (s.1:Int) s.2.1 s.2.2 acc=some (.out (((Ia l K s acc).2.1:Int),(Ia l K s acc).2.2.1,(Ia l K s acc).2.2.2,(Ia l K s acc).1))∧Cb l (Ia l K s acc).2∧(Ia l K s acc).1.length≤l.length+5:=by
 subst hy
 have hl:=hk.len
 intro m
 induction m with
 | zero =>
  intro k K s acc hs hm hk' hK ha
  obtain⟨k,rfl⟩:∃ j,k=j+1:=⟨k - 1,by omega⟩
  obtain⟨K,rfl⟩:∃ j,K=j+1:=⟨K - 1,by omega⟩
  have:¬ 0 < Hb y.1 s:=by
   intro h
   obtain⟨_,h2,_⟩:=A0o h
   unfold Ew at hm
   rw[h2] at hm;exact absurd hm (by show ¬ y.1.length - s.1+1≤0;omega)
  rw[Of,Oj,Ax2 n y.1 s (by omega),Ia]
  simp only[A1,decide_eq_false this,An]
  exact⟨trivial,trivial,hs,by omega⟩
 | succ m ih =>
  intro k K s acc hs hm hk' hK ha
  obtain⟨k,rfl⟩:∃ j,k=j+1:=⟨k - 1,by omega⟩
  obtain⟨K,rfl⟩:∃ j,K=j+1:=⟨K - 1,by omega⟩
  rw[Of,Oj,Ax2 n y.1 s (by omega),Ia]
  by_cases hc:0 < Hb y.1 s
  ·obtain⟨h1,h2,_⟩:=A0o hc
   obtain⟨t1,t2,t3⟩:=B0u hk n (Hb y.1 s) s h1 h2 (by omega)
   simp only[A1,decide_eq_true hc,Af,t1,decide_eq_true (show(acc.length+1)*41≤140737488355328 by omega)]
   exact ih k K (clF (Hb y.1 s) y.1 s).2 (acc++[(clF (Hb y.1 s) y.1 s).1]) t2 (by have:=Rq (t:=(clF (Hb y.1 s) y.1 s).2) h2 hs t3 t2;omega) (by omega) (by omega) (by simp;omega)
  ·simp only[A1,decide_eq_false hc,An]
   exact⟨trivial,trivial,hs,by omega⟩
theorem Azv {l:List Tk} {s:Ps} (h:Cb l s):Cb l (wr l s):=by unfold Cb;rw[U7];exact h
theorem Azr (l:List Tk):Cb l (Li l).2:=by
 unfold Li
 refine Kt (A1i ?_)
 cases hc:C9 [109,111,100] l (0,0,0) with
 | true=>exact(Je hc).1
 | false=>exact Azv (show Cb l (0,0,0) from Nat.zero_le _)
theorem B1e {T:Nat} {s:List UInt8} (hs:s.length≤19000) {n:Nat} (hn:20*s.length+1200≤n):Wy n s=some (Qb s):=by
 obtain⟨n,rfl⟩:∃ j,n=j+5:=⟨n - 5,by omega⟩
 have hk:=A2e s (by omega)
 have hlen:=(Wb s).2
 have hl:=hk.len
 rw[Wy,B1m (n+4) s (by omega) (by omega),A1,Qb]
 cases herr:(Hr s).err != 0 with
 | true =>
  rw[show((Rc (Hr s)).2.1 != 0)=true from herr,Af,Af];rfl
 | false =>
  rw[show((Rc (Hr s)).2.1 != 0)=false from herr,An,An]
  have hy:(Rc (Hr s)).1=Qx s:=rfl
  generalize hY:Rc (Hr s)=y at *
  rw[hy]
  generalize Qx s=l at *
  have hfin:∀ (m:Int) (v:List Va) (t:List Th) (c:List Cl) (z:Ps),Cb l z→(bif decide ((z.1:Int) < ((l.length:Nat):Int)) then(Fe (n+4) l (z.1:Int) z.2.1 z.2.2).bind fun y93=>bif y93.1 != 0 then some ((⟨0,[],[],[]⟩:Az),y93.1,y93.2) else some ((⟨m,v,t,c⟩:Az),0,0) else bif z.2.1 != 0 then some ((⟨0,[],[],[]⟩:Az),z.2.1,z.2.2) else some ((⟨m,v,t,c⟩:Az),0,0))=some (bif (Oh l z).2.1 != 0 then(noP,(Oh l z).2) else(⟨m,v,t,c⟩,0,0)):=by
   intro m v t c z hz
   unfold Oh
   by_cases h:z.1 < l.length
   ·rw[A6 (show(z.1:Int) < ((l.length:Nat):Int) by omega),decide_eq_true h,Af,A6z (n+1) l z hl,A1]
    cases (wr l z).2.1 != 0<;>rfl
   ·rw[Aq (show ¬ (z.1:Int) < ((l.length:Nat):Int) by omega),decide_eq_false h,An]
    cases z.2.1 != 0<;>rfl
  have rest:∀ (m:Int) (z:Ps),Cb l z→True:=fun _ _ _=>trivial
  have k0:=A14 (n+3) [109,111,100] l (0,0,0)
  rw[show(((0:Nat),(0:Int),(0:Int)).1:Int)=0 from rfl] at k0
  dsimp only at k0
  rw[k0,A1]
  have chain:∀ (z:Ps),Cb l z →
   ∃ v:List Va×Ps,v=Fh l (l.length+2) z []∧Ow (n+4) y (n+4) (z.1:Int) z.2.1 z.2.2 []=some (.out ((v.2.1:Int),v.2.2.1,v.2.2.2,v.1))∧Ou (n+4) y (n+4) (z.1:Int) z.2.1 z.2.2 []=some (.out ((v.2.1:Int),v.2.2.1,v.2.2.2,v.1)) ∧
   ∃ t:List Th×Ps,t=Gs l (l.length+2) v.2 []∧P4 (n+4) y (n+4) (v.2.1:Int) v.2.2.1 v.2.2.2 []=some (.out ((t.2.1:Int),t.2.2.1,t.2.2.2,t.1))∧Oy (n+4) y (n+4) (v.2.1:Int) v.2.2.1 v.2.2.2 []=some (.out ((t.2.1:Int),t.2.2.1,t.2.2.2,t.1)) ∧
   ∃ c:List Cl×Ps,c=Ia l (l.length+2) t.2 []∧Of (n+4) y (n+4) (t.2.1:Int) t.2.2.1 t.2.2.2 []=some (.out ((c.2.1:Int),c.2.2.1,c.2.2.2,c.1))∧Oj (n+4) y (n+4) (t.2.1:Int) t.2.2.1 t.2.2.2 []=some (.out ((c.2.1:Int),c.2.2.1,c.2.2.2,c.1))∧Cb l c.2:=by
   intro z hz
   obtain⟨a1,a2,a3,_⟩:=B1t hk (n+4) y hy (by omega) (l.length+1) (n+4) (l.length+2) z [] hz Og (by omega) (by omega) (by simp)
   refine⟨_,rfl,a1,a2,?_⟩
   obtain⟨b1,b2,b3,_⟩:=B25 hk (n+4) y hy (by omega) (l.length+1) (n+4) (l.length+2) _ [] a3 Og (by omega) (by omega) (by simp)
   refine⟨_,rfl,b1,b2,?_⟩
   obtain⟨c1,c2,c3,_⟩:=B33 hk (n+4) y hy (by omega) (l.length+1) (n+4) (l.length+2) _ [] b3 Og (by omega) (by omega) (by simp)
   exact⟨_,rfl,c1,c2,c3⟩
  cases hc:C9 [109,111,100] l (0,0,0) with
  | true =>
   have p1:Cb l ((1,0,0):Ps):=(Je hc).1
   have p2:=A1i p1
   have p3:=Kt (w:=[59]) p2
   have e1:=Apd n l (1,0,0) hl p1
   dsimp only at e1
   rw[Af,show IntKind.i64.wrap ((0:Int)+1)=((1:Nat):Int) from by decide +kernel,e1,A1]
   dsimp only
   rw[Z0 n [59] l _ hl p2,A1]
   dsimp only
   have hst:Li l=((nuF l (1,0,0)).1,sgF [59] l (nuF l (1,0,0)).2):=by unfold Li;rw[hc];rfl
   obtain⟨v,v1,v2,_,t,t1,t2,_,c,c1,c2,_,c4⟩:=chain _ p3
   rw[v2,A1]
   dsimp only
   rw[t2,A1]
   dsimp only
   rw[c2,A1]
   dsimp only
   rw[hfin _ _ _ _ _ c4]
   unfold T4
   rw[hst]
   dsimp only
   rw[← v1,← t1,← c1]
  | false =>
   have p1:Cb l (wr l (0,0,0)):=Azv (show Cb l (0,0,0) from Nat.zero_le _)
   have p2:=A1i p1
   have p3:=Kt (w:=[59]) p2
   have e0:=A6z (n+1) l (0,0,0) hl
   dsimp only at e0
   rw[show((0:Nat):Int)=0 from rfl] at e0
   have e1:=Apd n l (wr l (0,0,0)) hl p1
   rw[U7,show((0:Nat):Int)=0 from rfl] at e1
   rw[An,e0,A1]
   dsimp only
   rw[e1,A1]
   dsimp only
   rw[Z0 n [59] l _ hl p2,A1]
   dsimp only
   have hst:Li l=((nuF l (wr l (0,0,0))).1,sgF [59] l (nuF l (wr l (0,0,0))).2):=by unfold Li;rw[hc];rfl
   obtain⟨v,v1,_,v2,t,t1,_,t2,c,c1,_,c2,c4⟩:=chain _ p3
   rw[v2,A1]
   dsimp only
   rw[t2,A1]
   dsimp only
   rw[c2,A1]
   dsimp only
   rw[hfin _ _ _ _ _ c4]
   unfold T4
   rw[hst]
   dsimp only
   rw[← v1,← t1,← c1]
def Aoi:Tk:=⟨0,[],0,0⟩
def isT (kd:Int) (w:List UInt8) (l:List Tk) (i:Nat):Bool:=match l[i]? with
 | some t=>t.A7==kd&&t.Ac==w
 | none=>false
def N0 (l:List Tk) (i:Nat):Tk:=match l[i]? with
 | some t=>t
 | none=>Aoi
theorem Qo {l:List Tk} {i:Nat} (h:i < l.length):N0 l i=l[i]:=by unfold N0;rw[Ax h]
theorem Le {α:Type} (n:Nat) (f:Nat→Option α):Sg (n+1) f=f n:=rfl
theorem A2r (i:Nat) (h:i < 100000):IntKind.i64.wrap (IntKind.i64.wrap ((i:Int)+1) - 1)=(i:Int):=by
 rw[Cx (show -9223372036854775808≤(i:Int)+1∧_ by omega),Cx (by omega)];omega
def nxB (b:Bool) (l:List Tk) (s:Ps):Tk×Bool×Int:=bif b then(N0 l s.1,true,((s.1+1:Nat):Int)) else(Aoi,false,(s.1:Int))
theorem Oi (n:Nat) (kd:Int) (w:List UInt8) (l:List Tk) (s:Ps) (hl:l.length < 100000):D3 (n+2) l (s.1:Int) s.2.1 s.2.2 kd w=some (nxB (s.2.1==0&&isT kd w l s.1) l s):=by
 rw[D3,nxB,isT]
 cases h:s.2.1==0 with
 | false=>rw[show(s.2.1 != 0)=true by rw[bne,h];rfl];rfl
 | true =>
  rw[show(s.2.1 != 0)=false by rw[bne,h];rfl,An]
  by_cases hx:s.1 < l.length
  ·rw[Aq (by omega),C8 hx,Ax hx,Qo hx,A1,T6,A2r s.1 (by omega),C8 hx,Ay s.1 (by omega)]
   dsimp only
   cases l[s.1].A7==kd<;>cases l[s.1].Ac==w<;>rfl
  ·rw[A6 (by omega),List.getElem?_eq_none (by omega)];rfl
theorem Aot (n:Nat) (l:List Tk) (s:Ps) (hl:l.length < 100000):Hk (n+2) l (s.1:Int) s.2.1 s.2.2=some (nxB (s.2.1==0&&isK l s.1) l s):=by
 rw[Hk,nxB,isK]
 cases h:s.2.1==0 with
 | false=>rw[show(s.2.1 != 0)=true by rw[bne,h];rfl];rfl
 | true =>
  rw[show(s.2.1 != 0)=false by rw[bne,h];rfl,An]
  by_cases hx:s.1 < l.length
  ·rw[Aq (by omega),C8 hx,Ax hx,Qo hx,A1,Px,A2r s.1 (by omega),C8 hx,Ay s.1 (by omega)]
   dsimp only
   cases l[s.1].A7==2<;>rfl
  ·rw[A6 (by omega),List.getElem?_eq_none (by omega)];rfl
theorem Aq0 (n:Nat) (l:List Tk) (s:Ps) (hl:l.length < 100000):Hj (n+3) l (s.1:Int) s.2.1 s.2.2=some (nxB (s.2.1==0&&isN l s.1) l s):=by
 rw[Hj,nxB,isN]
 cases h:s.2.1==0 with
 | false=>rw[show(s.2.1 != 0)=true by rw[bne,h];rfl];rfl
 | true =>
  rw[show(s.2.1 != 0)=false by rw[bne,h];rfl,An]
  by_cases hx:s.1 < l.length
  ·rw[Aq (by omega),C8 hx,Ax hx,Qo hx,A1,Rw,A2r s.1 (by omega),C8 hx,Ay s.1 (by omega),Dp]
   dsimp only
   cases l[s.1].A7==1<;>cases Cp l[s.1].Ac<;>rfl
  ·rw[A6 (by omega),List.getElem?_eq_none (by omega)];rfl
theorem A7d (n:Nat) (l:List Tk) (s:Ps) (hl:l.length < 100000):Dk (n+2) l (s.1:Int) s.2.1 s.2.2=some ((wr l s).2.1,(wr l s).2.2):=by
 rw[Dk,wr,Fj,Bg]
 by_cases hx:s.1 < l.length
 ·rw[A6 (by omega),C8 hx,A1,Cf,if_pos hx,Ax hx]
  cases s.2.1==0<;>rfl
 ·rw[Aq (by omega),if_neg hx,List.getElem?_eq_none (by omega)]
  by_cases h0:0 < l.length
  ·have h1:l.length - 1 < l.length:=by omega
   rw[A6 (by omega),Cx (by omega),show((l.length:Nat):Int) - 1=((l.length - 1:Nat):Int) by omega,C8 h1,A1,A1,Cf,Ax h1]
   cases s.2.1==0<;>rfl
  ·rw[Aq (by omega),Cf,List.getElem?_eq_none (by omega)]
   cases s.2.1==0<;>rfl
def mtB (b:Bool) (l:List Tk) (s:Ps):Ps:=bif b then(s.1+1,s.2) else wr l s
theorem A05 (n:Nat) (b:Bool) (l:List Tk) (s:Ps) (hl:l.length < 100000):((some (nxB b l s)).bind fun y1=>(bif y1.2.1 then(some (y1.1,y1.2.2,s.2.1,s.2.2)) else((Dk (n+2) l y1.2.2 s.2.1 s.2.2).bind fun y4=>(some (y1.1,y1.2.2,y4.1,y4.2)))))=some ((nxB b l s).1,((mtB b l s).1:Int),(mtB b l s).2.1,(mtB b l s).2.2):=by
 cases b with
 | true=>rfl
 | false =>
  rw[A1,nxB,mtB]
  dsimp only [cond_false]
  rw[A7d n l s hl,A1,U7]
theorem A9o (n:Nat) (kd:Int) (w:List UInt8) (l:List Tk) (s:Ps) (hl:l.length < 100000):Gz (n+3) l (s.1:Int) s.2.1 s.2.2 kd w=some ((nxB (s.2.1==0&&isT kd w l s.1) l s).1,((mtB (s.2.1==0&&isT kd w l s.1) l s).1:Int),(mtB (s.2.1==0&&isT kd w l s.1) l s).2.1,(mtB (s.2.1==0&&isT kd w l s.1) l s).2.2):=by
 rw[Gz,Oi n kd w l s hl];exact A05 n _ l s hl
theorem Auf (w:List UInt8) (l:List Tk) (s:Ps):mtB (s.2.1==0&&isT 3 w l s.1) l s=sgF w l s:=rfl
theorem Qj (n:Nat) (w:List UInt8) (l:List Tk) (s:Ps) (hl:l.length < 100000):By (n+5) w l (s.1:Int) s.2.1 s.2.2=some (((sgF w l s).1:Int),(sgF w l s).2.1,(sgF w l s).2.2):=by
 rw[By,Le,A9o (n+1) 3 w l s hl,A1,Auf]
theorem Abp (n:Nat) (l:List Tk) (s:Ps) (hl:l.length < 100000):∃ t:Tk,G4 (n+3) l (s.1:Int) s.2.1 s.2.2=some (t,((nuF l s).2.1:Int),(nuF l s).2.2.1,(nuF l s).2.2.2)∧t.Bs=(nuF l s).1:=by
 rw[G4,Aot n l s hl]
 refine⟨(nxB (s.2.1==0&&isK l s.1) l s).1,(A05 n _ l s hl).trans ?_,?_⟩
 ·unfold mtB nuF;cases s.2.1==0&&isK l s.1<;>rfl
 ·unfold nxB nuF
  cases h:s.2.1==0&&isK l s.1 with
  | false=>rfl
  | true =>
   rw[Ah] at h
   have:=Abv h.2
   show(N0 l s.1).Bs=Wn l s.1
   rw[Qo this,Agw this]
theorem A1d (n:Nat) (l:List Tk) (s:Ps) (hl:l.length < 100000):∃ t:Tk,F2 (n+4) l (s.1:Int) s.2.1 s.2.2=some (t,((nmF l s).2.1:Int),(nmF l s).2.2.1,(nmF l s).2.2.2)∧t.Ac=(nmF l s).1:=by
 rw[F2,Aq0 n l s hl]
 refine⟨(nxB (s.2.1==0&&isN l s.1) l s).1,(A05 (n+1) _ l s hl).trans ?_,?_⟩
 ·unfold mtB nmF;cases s.2.1==0&&isN l s.1<;>rfl
 ·unfold nxB nmF
  cases h:s.2.1==0&&isN l s.1 with
  | false=>rfl
  | true =>
   rw[Ah] at h
   have:=Ph h.2
   show(N0 l s.1).Ac=txt l s.1
   rw[Qo this,Ai9 this]
def PsZ (s:Ps):Prop:=s.2.1=0→s.2.2=0
theorem Aa8 (l:List Tk) (s:Ps):PsZ (wr l s):=fun h=>absurd h (A74 l s)
theorem Uu {w:List UInt8} {l:List Tk} {s:Ps} (h:PsZ s):PsZ (sgF w l s):=by
 unfold sgF
 cases s.2.1==0&&Bj l s.1 w
 ·exact Aa8 l s
 ·exact h
theorem A5g {l:List Tk} {s:Ps} (h:PsZ s):PsZ (nmF l s).2:=by
 unfold nmF
 cases s.2.1==0&&isN l s.1
 ·exact Aa8 l s
 ·exact h
theorem Ahj {l:List Tk} {s:Ps} (h:PsZ s):PsZ (nuF l s).2:=by
 unfold nuF
 cases s.2.1==0&&isK l s.1
 ·exact Aa8 l s
 ·exact h
theorem Tb (w:List UInt8) (l:List Tk) (s:Ps):(s.2.1==0&&isT 1 w l s.1)=C9 w l s:=rfl
theorem Aq3 (n:Nat) (a:Int) (l:List Tk) (s:Ps) (hl:l.length < 100000):J8 (n+6) a l (s.1:Int) s.2.1 s.2.2 =
 some ((⟨(nmF l s).1,(nuF l (sgF [61] l (nmF l s).2)).1,a⟩:Va),((sgF [59] l (nuF l (sgF [61] l (nmF l s).2)).2).1:Int),(sgF [59] l (nuF l (sgF [61] l (nmF l s).2)).2).2.1,(sgF [59] l (nuF l (sgF [61] l (nmF l s).2)).2).2.2):=by
 obtain⟨t1,h1,h2⟩:=A1d (n+1) l s hl
 obtain⟨t2,h3,h4⟩:=Abp (n+2) l (sgF [61] l (nmF l s).2) hl
 rw[J8,h1,A1]
 dsimp only
 rw[Qj n [61] l _ hl,A1]
 dsimp only
 rw[h3,A1]
 dsimp only
 rw[Qj n [59] l _ hl,A1,h2,h4]
theorem Yu {w:List UInt8} {l:List Tk} {s:Ps} (h:Ew l s≤0):C9 w l s=false:=by
 unfold Ew at h
 cases hc:s.2.1==0 with
 | true=>rw[hc] at h;exact absurd h (by show ¬ l.length - s.1+1≤0;omega)
 | false=>unfold C9;rw[hc];rfl
theorem Ao8 {T:Nat} {l:List Tk} (hk:Toks T l) (n:Nat) (y:List Tk×Int×Int) (hy:y.1=l) (hn:20≤n):∀ (m k K:Nat) (s:Ps) (acc:List Va),Cb l s→Ew l s≤m→m < k→m < K→acc.length≤s.1 →
 Ix n y k (nxB (C9 [108,111,99] l s) l s).2.1 (nxB (C9 [108,111,99] l s) l s).2.2 s.2.1 s.2.2 (nxB (C9 [108,111,99] l s) l s).1.A7 (nxB (C9 [108,111,99] l s) l s).1.Ac (nxB (C9 [108,111,99] l s) l s).1.Bs (nxB (C9 [108,111,99] l s) l s).1.Ab acc
  =some (.out (((Fh l K s acc).2.1:Int),(Fh l K s acc).2.2.1,(Fh l K s acc).2.2.2,0,[],0,0,(Fh l K s acc).1))∧(PsZ s→PsZ (Fh l K s acc).2):=by
 subst hy
 have hl:=hk.len
 intro m
 induction m with
 | zero =>
  intro k K s acc hs hm hk' hK ha
  obtain⟨k,rfl⟩:∃ j,k=j+1:=⟨k - 1,by omega⟩
  obtain⟨K,rfl⟩:∃ j,K=j+1:=⟨K - 1,by omega⟩
  rw[Fh,Yu hm];exact⟨rfl,id⟩
 | succ m ih =>
  intro k K s acc hs hm hk' hK ha
  obtain⟨k,rfl⟩:∃ j,k=j+1:=⟨k - 1,by omega⟩
  obtain⟨K,rfl⟩:∃ j,K=j+1:=⟨K - 1,by omega⟩
  obtain⟨n,rfl⟩:∃ j,n=j+6:=⟨n - 6,by omega⟩
  rw[Fh]
  cases hc:C9 [108,111,99] y.1 s with
  | false=>exact⟨rfl,id⟩
  | true =>
   obtain⟨h1,h2⟩:=Je hc
   obtain⟨v1,v2⟩:=A5u (s:=s) h1
   have hp:=Aq3 n (N0 y.1 s.1).Ab y.1 (s.1+1,s.2) hl
   have hv:N8 y.1 s=(⟨(nmF y.1 (s.1+1,s.2)).1,(nuF y.1 (sgF [61] y.1 (nmF y.1 (s.1+1,s.2)).2)).1,(N0 y.1 s.1).Ab⟩,sgF [59] y.1 (nuF y.1 (sgF [61] y.1 (nmF y.1 (s.1+1,s.2)).2)).2):=by unfold N8;rw[A3c h1,Qo h1]
   have:=ih k K (N8 y.1 s).2 (acc++[(N8 y.1 s).1]) v1 (by have:=Rq (t:=(N8 y.1 s).2) h2 hs (.inr v2) v1;omega) (by omega) (by omega) (by simp;omega)
   rw[Af]
   refine⟨?_,fun hz=>this.2 (by rw[hv];exact Uu (Ahj (Uu (A5g hz))))⟩
   rw[Ix]
   dsimp only [nxB,cond_true] at hp ⊢
   rw[hp,A1,A6 (by unfold Cb at hs;omega),Le]
   dsimp only
   rw[hv] at this ⊢
   have hnx:=Oi (n+4) 1 [108,111,99] y.1 (sgF [59] y.1 (nuF y.1 (sgF [61] y.1 (nmF y.1 (s.1+1,s.2)).2)).2) hl
   rw[hnx,A1,Tb]
   exact this.1
theorem Ap6 {l:List Tk} (hl:l.length < 100000) (n:Nat) (hn:20≤n):∀ (m k K:Nat) (s:Ps) (acc:List (List UInt8)),Cb l s→Ew l s≤m→m < k→m < K→acc.length≤s.1+1 →
 Dj n l k (nxB (s.2.1==0&&isT 3 [44] l s.1) l s).2.1 (nxB (s.2.1==0&&isT 3 [44] l s.1) l s).2.2 s.2.1 s.2.2 acc=some (.out (((Dw l K s acc).2.1:Int),(Dw l K s acc).2.2.1,(Dw l K s acc).2.2.2,(Dw l K s acc).1))∧(PsZ s→PsZ (Dw l K s acc).2):=by
 intro m
 induction m with
 | zero =>
  intro k K s acc hs hm hk' hK ha
  obtain⟨k,rfl⟩:∃ j,k=j+1:=⟨k - 1,by omega⟩
  obtain⟨K,rfl⟩:∃ j,K=j+1:=⟨K - 1,by omega⟩
  have:(s.2.1==0)=false:=by
   unfold Ew at hm
   cases hc:s.2.1==0 with
   | true=>rw[hc] at hm;exact absurd hm (by show ¬ l.length - s.1+1≤0;omega)
   | false=>rfl
  rw[Dw,this];exact⟨rfl,id⟩
 | succ m ih =>
  intro k K s acc hs hm hk' hK ha
  obtain⟨k,rfl⟩:∃ j,k=j+1:=⟨k - 1,by omega⟩
  obtain⟨K,rfl⟩:∃ j,K=j+1:=⟨K - 1,by omega⟩
  obtain⟨n,rfl⟩:∃ j,n=j+6:=⟨n - 6,by omega⟩
  rw[Dw]
  cases hc:s.2.1==0 with
  | false=>exact⟨rfl,id⟩
  | true =>
   have hsg:isT 3 [44] l s.1=Bj l s.1 [44]:=rfl
   rw[hsg,Bool.true_and]
   cases hg:Bj l s.1 [44] with
   | false=>exact⟨rfl,id⟩
   | true =>
    rw[beq_iff_eq] at hc
    have h1:=A0q hg
    have a1:Cb l (nmF l (s.1+1,s.2)).2:=Ng h1
    have b1:=Ni (l:=l) (s:=(s.1+1,s.2))
    obtain⟨t,e1,e2⟩:=A1d (n+2) l (s.1+1,s.2) hl
    dsimp only at e1 b1
    have:=ih k K (nmF l (s.1+1,s.2)).2 (acc++[(nmF l (s.1+1,s.2)).1]) a1 (by have:=Rq (t:=(nmF l (s.1+1,s.2)).2) hc hs (.inr (by omega)) a1;omega) (by omega) (by omega) (by simp;omega)
    refine⟨?_,fun hz=>this.2 (A5g hz)⟩
    rw[Dj,Af]
    dsimp only [nxB,cond_true]
    rw[e1,A1,A6 (by unfold Cb at hs;omega),Le]
    dsimp only
    have hnx:=Oi (n+4) 3 [44] l (nmF l (s.1+1,s.2)).2 hl
    rw[hnx,A1,e2]
    exact this.1
theorem Aih {l:List Tk} (hl:l.length < 100000) (n:Nat) (hn:20≤n) (k:Nat) (s:Ps) (h1:s.1 < l.length) (hk:l.length+2 < k) :
 Dj n l k true ((s.1+1:Nat):Int) s.2.1 s.2.2 []=some (.out (((Dw l (l.length+2) (nmF l (s.1+1,s.2)).2 [(nmF l (s.1+1,s.2)).1]).2.1:Int),(Dw l (l.length+2) (nmF l (s.1+1,s.2)).2 [(nmF l (s.1+1,s.2)).1]).2.2.1,(Dw l (l.length+2) (nmF l (s.1+1,s.2)).2 [(nmF l (s.1+1,s.2)).1]).2.2.2,(Dw l (l.length+2) (nmF l (s.1+1,s.2)).2 [(nmF l (s.1+1,s.2)).1]).1))∧(PsZ s→PsZ (Dw l (l.length+2) (nmF l (s.1+1,s.2)).2 [(nmF l (s.1+1,s.2)).1]).2):=by
 obtain⟨k,rfl⟩:∃ j,k=j+1:=⟨k - 1,by omega⟩
 obtain⟨n,rfl⟩:∃ j,n=j+6:=⟨n - 6,by omega⟩
 have a1:Cb l (nmF l (s.1+1,s.2)).2:=Ng h1
 obtain⟨t,e1,e2⟩:=A1d (n+2) l (s.1+1,s.2) hl
 dsimp only at e1
 have:=Ap6 hl (n+6) (by omega) (l.length+1) k (l.length+2) (nmF l (s.1+1,s.2)).2 [(nmF l (s.1+1,s.2)).1] a1 Og (by omega) (by omega) (by simp)
 refine⟨?_,fun hz=>this.2 (A5g hz)⟩
 rw[Dj,Af,e1,A1,A6 (by simp),Le]
 dsimp only
 have hnx:=Oi (n+4) 3 [44] l (nmF l (s.1+1,s.2)).2 hl
 rw[hnx,A1,e2]
 exact this.1
theorem A73 (n:Nat) (e' a':Int) (l:List Tk) (i:Int) (s:Int×Int) (hz:s.1=0→s.2=0) (hz':e'=0→a'=0):Cf (n+1) e' a' l i s.1 s.2=some ((faF s e' a').1,(faF s e' a').2):=by
 rw[Cf,faF]
 cases h:s.1==0 with
 | false=>rfl
 | true =>
  cases h2:e' != 0 with
  | true=>rfl
  | false =>
   rw[beq_iff_eq] at h
   have h3:e'=0:=by cases hb:e'==0 with
    | true=>exact beq_iff_eq.1 hb
    | false=>rw[bne,hb] at h2;cases h2
   rw[Af,Af,An,h3,hz' h3,hz h,h]
noncomputable def L3 (l:List Tk) (s:Ps):List St×Ps:=bif s.2.1==0 then((seQ l s.1).1,sgF [125] l (if(faF s.2 (seQ l s.1).2.2.1 (seQ l s.1).2.2.2).1=0 then(seQ l s.1).2.1.toNat else s.1,faF s.2 (seQ l s.1).2.2.1 (seQ l s.1).2.2.2)) else([],s)
theorem Yx {w:List UInt8} {l:List Tk} {s:Ps} (h:s.2.1≠0):sgF w l s=s:=by
 unfold sgF wr
 rw[Ca.2 h];rfl
theorem Aje (l:List Tk) (s:Ps):(L3 l s).1=(Jl l s).1∧(L3 l s).2.2=(Jl l s).2.2∧((L3 l s).2.2.1=0→(L3 l s).2=(Jl l s).2):=by
 unfold L3 Jl
 cases hc:s.2.1==0 with
 | false =>
  rw[beq_eq_false_iff_ne] at hc
  rw[An,An]
  exact⟨rfl,by rw[Yx hc],fun _=>by rw[Yx hc]⟩
 | true =>
  rw[Af,Af]
  refine⟨rfl,?_⟩
  by_cases c:(faF s.2 (seQ l s.1).2.2.1 (seQ l s.1).2.2.2).1=0
  ·rw[if_pos c];exact⟨rfl,fun _=>rfl⟩
  ·rw[if_neg c,Yx (s:=(s.1,faF s.2 (seQ l s.1).2.2.1 (seQ l s.1).2.2.2)) c,Yx (s:=((seQ l s.1).2.1.toNat,faF s.2 (seQ l s.1).2.2.1 (seQ l s.1).2.2.2)) c]
   exact⟨rfl,fun h=>absurd h c⟩
theorem Ahu {s:Int×Int} {e a:Int} (h:s.1=0→s.2=0) (h2:e=0→a=0):(faF s e a).1=0→(faF s e a).2=0:=by
 unfold faF
 cases s.1==0 with
 | false=>exact h
 | true =>
  cases e != 0 with
  | false=>exact h
  | true=>exact h2
theorem Agu {T:Nat} {l:List Tk} (hk:Toks T l) {i:Nat} (hi:i≤l.length):(seQ l i).2.2.1=0→(seQ l i).2.2.2=0:=by
 rcases A08 hk hi with ⟨h,_⟩ | ⟨tu,h,_⟩
 ·exact fun e=>absurd e h
 ·rw[h];exact fun _=>rfl
theorem Ahq {T:Nat} {l:List Tk} (hk:Toks T l) {i:Nat} (hi:i≤l.length):(peQ l i).2.2.1=0→(peQ l i).2.2.2=0:=by
 rcases V8 hk hi with ⟨h,_⟩ | ⟨tu,h,_⟩
 ·exact fun e=>absurd e h
 ·rw[h];exact fun _=>rfl
theorem Asl {T:Nat} {l:List Tk} (hk:Toks T l) {n i:Nat} (hi:i≤l.length) (hn:18*l.length+T+960≤n):Ic n l (i:Int)=some (seQ l i):=by
 obtain⟨r,hr,e⟩:=A15 hk hi
 rw[e];exact A8y hk hr hi (by omega)
theorem Aua {T:Nat} {l:List Tk} (hk:Toks T l) {n i:Nat} (hi:i≤l.length) (hn:12*l.length+T+200≤n):I9 n l (i:Int)=some (peQ l i):=by
 obtain⟨r,hr,e⟩:=A25 hk hi
 rw[e];exact Wl hk.len hk.ok hk.txt hk.small hr hi hn
noncomputable def K1 (l:List Tk) (s:Ps):Th×Ps:=(⟨(nmF l (s.1+1,s.2)).1,(G1 l (sgF [123] l (nmF l (s.1+1,s.2)).2)).1,(L3 l (G1 l (sgF [123] l (nmF l (s.1+1,s.2)).2)).2).1,atA l s.1⟩,(L3 l (G1 l (sgF [123] l (nmF l (s.1+1,s.2)).2)).2).2)
theorem Acc (l:List Tk) (s:Ps):(K1 l s).1=(Jv l s).1∧(K1 l s).2.2=(Jv l s).2.2∧((K1 l s).2.2.1=0→(K1 l s).2=(Jv l s).2):=by
 obtain⟨h1,h2,h3⟩:=Aje l (G1 l (sgF [123] l (nmF l (s.1+1,s.2)).2)).2
 exact⟨by unfold K1 Jv;rw[h1],h2,h3⟩
theorem A7f {T:Nat} {l:List Tk} (hk:Toks T l) {s:Ps} (hs:Cb l s):Cb l (L3 l s).2∧(PsZ s→PsZ (L3 l s).2):=by
 unfold L3
 cases hc:s.2.1==0 with
 | false=>exact⟨hs,id⟩
 | true =>
  rw[Af]
  refine⟨Kt ?_,fun hz=>Uu (Ahu hz (Agu hk hs))⟩
  unfold Cb
  dsimp only
  split
  ·exact(A4c hk hs).2.1
  ·exact hs
theorem Aes {T:Nat} {l:List Tk} (hk:Toks T l) (n:Nat) (s:Ps) (hz:PsZ s) (h1:s.1 < l.length) (hn:18*l.length+T+1000≤n) :
 Hl n (N0 l s.1).Ab l ((s.1+1:Nat):Int) s.2.1 s.2.2=some ((K1 l s).1,((K1 l s).2.1:Int),(K1 l s).2.2.1,(K1 l s).2.2.2)∧Cb l (K1 l s).2∧PsZ (K1 l s).2:=by
 have hl:=hk.len
 obtain⟨n,rfl⟩:∃ j,n=j+8:=⟨n - 8,by omega⟩
 have a1:Cb l (nmF l (s.1+1,s.2)).2:=Ng h1
 have a2:=Kt (w:=[123]) a1
 obtain⟨a3,_⟩:=A0v hk a2
 have z1:PsZ (sgF [123] l (nmF l (s.1+1,s.2)).2):=Uu (A5g hz)
 obtain⟨t,e1,e2⟩:=A1d (n+3) l (s.1+1,s.2) hl
 dsimp only at e1
 have tail:∀ (q:List (List UInt8)) (t:Ps),Cb l t→PsZ t→(bif t.2.1 != 0 then some ((⟨(nmF l (s.1+1,s.2)).1,q,([]:List A0),(N0 l s.1).Ab⟩:Ae),(t.1:Int),t.2.1,t.2.2)
  else(Ic (n+7) l (t.1:Int)).bind fun y46=>(Cf (n+7) y46.2.2.1 y46.2.2.2 l (t.1:Int) t.2.1 t.2.2).bind fun y48=>bif y48.1==0 then(By (n+7) [125] l y46.2.1 y48.1 y48.2).bind fun y51=>some ((⟨(nmF l (s.1+1,s.2)).1,q,y46.1,(N0 l s.1).Ab⟩:Ae),y51.1,y51.2.1,y51.2.2)
   else(By (n+7) [125] l (t.1:Int) y48.1 y48.2).bind fun y53=>some ((⟨(nmF l (s.1+1,s.2)).1,q,y46.1,(N0 l s.1).Ab⟩:Ae),y53.1,y53.2.1,y53.2.2))=some ((⟨(nmF l (s.1+1,s.2)).1,q,(L3 l t).1,(N0 l s.1).Ab⟩:Ae),((L3 l t).2.1:Int),(L3 l t).2.2.1,(L3 l t).2.2.2):=by
  intro q t ht hzt
  unfold L3
  cases hc:t.2.1==0 with
  | false=>rw[show(t.2.1 != 0)=true by rw[bne,hc];rfl];rfl
  | true =>
   obtain⟨g1,g2,_⟩:=A4c hk ht
   rw[show(t.2.1 != 0)=false by rw[bne,hc];rfl,An,Asl hk ht (by omega),A1,A73 (n+6) _ _ l _ t.2 hzt (Agu hk ht),A1]
   dsimp only
   by_cases c:(faF t.2 (seQ l t.1).2.2.1 (seQ l t.1).2.2.2).1=0
   ·have e3:=Qj (n+2) [125] l ((seQ l t.1).2.1.toNat,faF t.2 (seQ l t.1).2.2.1 (seQ l t.1).2.2.2) hl
    dsimp only at e3
    rw[g1] at e3
    rw[beq_iff_eq.2 c,Af,e3,A1,if_pos c];rfl
   ·have e3:=Qj (n+2) [125] l (t.1,faF t.2 (seQ l t.1).2.2.1 (seQ l t.1).2.2.2) hl
    dsimp only at e3
    rw[Ca.2 c,An,e3,A1,if_neg c];rfl
 have hat:(K1 l s)=(⟨(nmF l (s.1+1,s.2)).1,(G1 l (sgF [123] l (nmF l (s.1+1,s.2)).2)).1,(L3 l (G1 l (sgF [123] l (nmF l (s.1+1,s.2)).2)).2).1,(N0 l s.1).Ab⟩,(L3 l (G1 l (sgF [123] l (nmF l (s.1+1,s.2)).2)).2).2):=by unfold K1;rw[A3c h1,Qo h1]
 have e4:=Qj (n+2) [123] l (nmF l (s.1+1,s.2)).2 hl
 rw[Hl,e1,A1]
 dsimp only
 rw[e4,A1,Le]
 dsimp only
 rw[hat]
 generalize hS:sgF [123] l (nmF l (s.1+1,s.2)).2=S at *
 have e5:=Oi (n+5) 1 [114,101,103] l S hl
 rw[e5,A1,Tb]
 cases hc:C9 [114,101,103] l S with
 | false =>
  have hh:G1 l S=([],S):=by unfold G1;rw[hc];rfl
  rw[hh] at a3 ⊢
  obtain⟨b1,b2⟩:=A7f hk a3
  refine⟨?_,b1,b2 z1⟩
  rw[e2]
  exact tail [] S a3 z1
 | true =>
  obtain⟨q1,q2⟩:=Je hc
  obtain⟨r1,r2⟩:=Aih hl (n+7) (by omega) (n+7) S q1 (by omega)
  have r2:=r2 z1
  have hh:G1 l S=((Dw l (l.length+2) (nmF l (S.1+1,S.2)).2 [(nmF l (S.1+1,S.2)).1]).1,sgF [59] l (Dw l (l.length+2) (nmF l (S.1+1,S.2)).2 [(nmF l (S.1+1,S.2)).1]).2):=by unfold G1;rw[hc];rfl
  rw[hh] at a3 ⊢
  obtain⟨b1,b2⟩:=A7f hk a3
  refine⟨?_,b1,b2 (Uu r2)⟩
  dsimp only [nxB,cond_true]
  rw[r1,A1]
  dsimp only
  have e6:=Qj (n+2) [59] l (Dw l (l.length+2) (nmF l (S.1+1,S.2)).2 [(nmF l (S.1+1,S.2)).1]).2 hl
  rw[e6,A1,e2]
  exact tail _ _ a3 (Uu r2)
noncomputable def L6 (l:List Tk):Nat→Ps→List Th→List Th×Ps
 | 0,s,acc=>(acc,s)
 | k+1,s,acc=>bif C9 [116,104,114,101,97,100] l s then L6 l k (K1 l s).2 (acc++[(K1 l s).1]) else(acc,s)
theorem A2l {w:List UInt8} {l:List Tk} {s:Ps} (h:s.2.1≠0):C9 w l s=false:=by unfold C9;rw[Ca.2 h];rfl
theorem Ac0 {l:List Tk} {k:Nat} {s:Ps} {acc:List Th} (h:s.2.1≠0):L6 l k s acc=(acc,s):=by
 cases k with
 | zero=>rfl
 | succ k=>rw[L6,A2l h];rfl
theorem Abr {l:List Tk} {k:Nat} {s:Ps} {acc:List Th} (h:s.2.1≠0):Gs l k s acc=(acc,s):=by
 cases k with
 | zero=>rfl
 | succ k=>rw[Gs,A2l h];rfl
theorem Akf (l:List Tk):∀ (k:Nat) (s:Ps) (acc:List Th),(L6 l k s acc).1=(Gs l k s acc).1∧(L6 l k s acc).2.2=(Gs l k s acc).2.2∧((L6 l k s acc).2.2.1=0→(L6 l k s acc).2=(Gs l k s acc).2):=by
 intro k
 induction k with
 | zero=>intro s acc;exact⟨rfl,rfl,fun _=>rfl⟩
 | succ k ih =>
  intro s acc
  rw[L6,Gs]
  cases hc:C9 [116,104,114,101,97,100] l s with
  | false=>exact⟨rfl,rfl,fun _=>rfl⟩
  | true =>
   rw[Af,Af]
   obtain⟨h1,h2,h3⟩:=Acc l s
   by_cases c:(K1 l s).2.2.1=0
   ·rw[h1,h3 c];exact ih _ _
   ·rw[Ac0 c,Abr (by rw[← h2];exact c),h1]
    exact⟨rfl,h2,fun h=>absurd h c⟩
theorem Anh {T:Nat} {l:List Tk} (hk:Toks T l) (n:Nat) (y:List Tk×Int×Int) (hy:y.1=l) (hn:18*l.length+T+1000≤n):∀ (m k K:Nat) (s:Ps) (acc:List Th),Cb l s→PsZ s→Ew l s≤m→m < k→m < K→acc.length+m≤l.length+5 →
 Iy n y k (nxB (C9 [116,104,114,101,97,100] l s) l s).2.1 (nxB (C9 [116,104,114,101,97,100] l s) l s).2.2 s.2.1 s.2.2 acc (nxB (C9 [116,104,114,101,97,100] l s) l s).1.A7 (nxB (C9 [116,104,114,101,97,100] l s) l s).1.Ac (nxB (C9 [116,104,114,101,97,100] l s) l s).1.Bs (nxB (C9 [116,104,114,101,97,100] l s) l s).1.Ab
  =some (.out (((L6 l K s acc).2.1:Int),(L6 l K s acc).2.2.1,(L6 l K s acc).2.2.2,0,[],0,0,(L6 l K s acc).1))∧Cb l (L6 l K s acc).2∧PsZ (L6 l K s acc).2:=by
 subst hy
 have hl:=hk.len
 intro m
 induction m with
 | zero =>
  intro k K s acc hs hz hm hk' hK ha
  obtain⟨k,rfl⟩:∃ j,k=j+1:=⟨k - 1,by omega⟩
  obtain⟨K,rfl⟩:∃ j,K=j+1:=⟨K - 1,by omega⟩
  rw[L6,Yu hm];exact⟨rfl,hs,hz⟩
 | succ m ih =>
  intro k K s acc hs hz hm hk' hK ha
  obtain⟨k,rfl⟩:∃ j,k=j+1:=⟨k - 1,by omega⟩
  obtain⟨K,rfl⟩:∃ j,K=j+1:=⟨K - 1,by omega⟩
  obtain⟨n,rfl⟩:∃ j,n=j+6:=⟨n - 6,by omega⟩
  rw[L6]
  cases hc:C9 [116,104,114,101,97,100] y.1 s with
  | false=>exact⟨rfl,hs,hz⟩
  | true =>
   obtain⟨h1,h2⟩:=Je hc
   obtain⟨t1,t2,t3⟩:=Aes hk (n+6) s hz h1 (by omega)
   obtain⟨q2,q3⟩:=Adu hk h1
   obtain⟨_,p2,p3⟩:=Acc y.1 s
   have hprog:(K1 y.1 s).2.2.1≠0∨s.1 < (K1 y.1 s).2.1:=by
    by_cases c:(K1 y.1 s).2.2.1=0
    ·rw[p3 c];exact q3
    ·exact .inl c
   have:=ih k K (K1 y.1 s).2 (acc++[(K1 y.1 s).1]) t2 t3 (by have:=Rq (t:=(K1 y.1 s).2) h2 hs hprog t2;omega) (by omega) (by omega) (by simp;omega)
   rw[Af]
   refine⟨?_,this.2⟩
   rw[Iy]
   dsimp only [nxB,cond_true]
   rw[t1,A1,A6 (by omega),Le]
   dsimp only
   have hnx:=Oi (n+4) 1 [116,104,114,101,97,100] y.1 (K1 y.1 s).2 hl
   rw[hnx,A1,Tb]
   exact this.1
theorem At4 (n:Nat) (y:List Nd×Int×Int×Int):∀ (m i k:Nat) (x:List Nd),y.1.length=x.length→x.length - i≤m→m < k→i≤x.length→x.length < 1000000→Df n y k (i:Int) x=some (.out (x.take i++(x.drop i).map H5)):=by
 intro m
 induction m with
 | zero =>
  intro i k x hy hm hk hi hx
  obtain⟨k,rfl⟩:∃ j,k=j+1:=⟨k - 1,by omega⟩
  rw[Df,hy,Aq (by omega),List.drop_of_length_le (by omega),List.take_of_length_le (by omega)];simp
 | succ m ih =>
  intro i k x hy hm hk hi hx
  obtain⟨k,rfl⟩:∃ j,k=j+1:=⟨k - 1,by omega⟩
  by_cases c:i < x.length
  ·rw[Df,hy,A6 (by omega),C8 c,A1,A1,Ay i (by omega)]
   have key:∀ z:List Nd,z.length=x.length→z.take (i+1)=x.take i++[H5 x[i]]→z.drop (i+1)=x.drop (i+1)→z.take (i+1)++(z.drop (i+1)).map H5=x.take i++(x.drop i).map H5:=by
    intro z _ h1 h2
    rw[h1,h2,List.drop_eq_getElem_cons c,List.map_cons,List.append_assoc];rfl
   by_cases h2:x[i].B3=2
   ·rw[h2,show((2:Int)==2)=true from rfl,Af,ih (i+1) k _ (by rw[List.length_set];exact hy) (by rw[List.length_set];omega) (by omega) (by rw[List.length_set];omega) (by rw[List.length_set];omega)]
    rw[key _ (by rw[List.length_set]) ?_ ?_]
    ·rw[Int.toNat_natCast,List.take_set,List.take_add_one,Ax c,Option.toList_some,List.set_append_right _ _ (by rw[List.length_take];omega),List.length_take,show i - min i x.length=0 by omega,List.set_cons_zero]
     simp[H5,h2]
    ·rw[Int.toNat_natCast,List.drop_set];rw[if_pos (by omega)]
   ·rw[Ca.2 h2,An,ih (i+1) k _ hy (by omega) (by omega) (by omega) hx]
    rw[key x rfl ?_ rfl]
    rw[List.take_add_one,Ax c]
    simp[H5,h2]
  ·rw[Df,hy,Aq (by omega),List.drop_of_length_le (by omega),List.take_of_length_le (by omega)];simp
theorem Asn {T:Nat} {l:List Tk} (hk:Toks T l) {k:Int} {s:Ps} (h1:s.1 < l.length) (hz:PsZ s):PsZ (clF k l s).2:=by
 unfold clF
 exact Uu (Ahu hz (Ahq hk (show s.1+1≤l.length from h1)))
theorem Ajq {T:Nat} {l:List Tk} (hk:Toks T l) (n:Nat) (k:Int) (s:Ps) (h1:s.1 < l.length) (hz:PsZ s) (hn:18*l.length+T+1000≤n) :
 I0 n k (N0 l s.1).Ab l ((s.1+1:Nat):Int) s.2.1 s.2.2=some ((clF k l s).1,((clF k l s).2.1:Int),(clF k l s).2.2.1,(clF k l s).2.2.2):=by
 have hl:=hk.len
 obtain⟨n,rfl⟩:∃ j,n=j+6:=⟨n - 6,by omega⟩
 have hi:s.1+1≤l.length:=h1
 obtain⟨g1,g2,g3⟩:=A9l hk hi
 have hx:(peQ l (s.1+1)).1.length≤200:=by
  rcases V8 hk hi with ⟨_,h,_⟩ | ⟨_,_,_,_,_,h⟩
  ·rw[h];simp
  ·simp only[Ep,Ah,C1] at h;exact h.1.2
 have ea:(clF k l s).1=⟨k,(peQ l (s.1+1)).1.map H5,(N0 l s.1).Ab⟩:=by unfold clF;rw[A3c h1,Qo h1]
 rw[I0,Aua hk hi (by omega),A1]
 have fin:∀ (E:List Nd),(bif (faF s.2 (peQ l (s.1+1)).2.2.1 (peQ l (s.1+1)).2.2.2).1==0 then(By (n+5) [59] l (peQ l (s.1+1)).2.1 (faF s.2 (peQ l (s.1+1)).2.2.1 (peQ l (s.1+1)).2.2.2).1 (faF s.2 (peQ l (s.1+1)).2.2.1 (peQ l (s.1+1)).2.2.2).2).bind fun y16=>some ((⟨k,E,(N0 l s.1).Ab⟩:Ag),y16.1,y16.2.1,y16.2.2)
  else(By (n+5) [59] l ((s.1+1:Nat):Int) (faF s.2 (peQ l (s.1+1)).2.2.1 (peQ l (s.1+1)).2.2.2).1 (faF s.2 (peQ l (s.1+1)).2.2.1 (peQ l (s.1+1)).2.2.2).2).bind fun y18=>some ((⟨k,E,(N0 l s.1).Ab⟩:Ag),y18.1,y18.2.1,y18.2.2))=some ((⟨k,E,(N0 l s.1).Ab⟩:Ag),((clF k l s).2.1:Int),(clF k l s).2.2.1,(clF k l s).2.2.2):=by
  intro E
  have e1:=Qj n [59] l (if(faF s.2 (peQ l (s.1+1)).2.2.1 (peQ l (s.1+1)).2.2.2).1=0 then(peQ l (s.1+1)).2.1.toNat else s.1+1,faF s.2 (peQ l (s.1+1)).2.2.1 (peQ l (s.1+1)).2.2.2) hl
  unfold clF
  dsimp only at e1 ⊢
  by_cases c:(faF s.2 (peQ l (s.1+1)).2.2.1 (peQ l (s.1+1)).2.2.2).1=0
  ·rw[if_pos c] at e1 ⊢
   rw[g1] at e1
   rw[beq_iff_eq.2 c,Af,e1,A1]
  ·rw[if_neg c] at e1 ⊢
   rw[Ca.2 c,An,e1,A1]
 rw[ea]
 have pf:=A73 (n+4) (peQ l (s.1+1)).2.2.1 (peQ l (s.1+1)).2.2.2 l ((s.1+1:Nat):Int) s.2 hz (Ahq hk hi)
 by_cases hzz:(peQ l (s.1+1)).1.length=0
 ·have hz':(peQ l (s.1+1)).1=[]:=List.length_eq_zero_iff.1 hzz
  rw[A6 hzz,pf,A1,show Hm (n+5) (n+5)=some (.out ()) from rfl,A1,hz']
  exact fin []
 ·have hL:=At4 (n+5) (peQ l (s.1+1)) (peQ l (s.1+1)).1.length 0 (n+5) (peQ l (s.1+1)).1 rfl (by omega) (by omega) (by omega) (by omega)
  rw[show((0:Nat):Int)=0 from rfl,List.take_zero,List.drop_zero,List.nil_append] at hL
  rw[Aq hzz,pf,A1,hL,A1]
  exact fin _
def cw (j:Nat):List UInt8:=cwS.getD j []
theorem Air (n:Nat) (j:Nat) (h:1≤j∧j≤3):Km (n+1) (j:Int)=some (cw j):=by
 have:j=1∨j=2∨j=3:=by omega
 rcases this with rfl | rfl | rfl<;>rfl
theorem Af4 {l:List Tk} {i:Nat} {w w':List UInt8} (h:Zj l i w=true) (hw:w≠w'):Zj l i w'=false:=by
 unfold Zj at h ⊢
 cases hx:l[i]? with
 | none=>rfl
 | some t =>
  rw[hx] at h
  simp only[Ah,beq_iff_eq] at h
  dsimp only
  rw[h.2,Ca.2 hw,Bool.and_false]
theorem A2o {l:List Tk} {s:Ps} {w w':List UInt8} (h:C9 w l s=true) (hw:w≠w'):C9 w' l s=false:=by
 unfold C9 at h ⊢
 rw[Ah] at h
 rw[Af4 h.2 hw,Bool.and_false]
theorem Aet {l:List Tk} {s:Ps} {j:Nat} (hj:1≤j∧j≤3) (h:C9 (cw j) l s=true):Hb l s=(j:Int):=by
 have:j=1∨j=2∨j=3:=by omega
 unfold Hb
 rcases this with rfl | rfl | rfl
 ·rw[show C9 [102,111,114,97,108,108] l s=true from h];rfl
 ·have h:C9 [101,120,105,115,116,115] l s=true:=h
  rw[A2o h (w':=[102,111,114,97,108,108]) (by decide),h];rfl
 ·have h:C9 [97,108,119,97,121,115] l s=true:=h
  rw[A2o h (w':=[102,111,114,97,108,108]) (by decide),A2o h (w':=[101,120,105,115,116,115]) (by decide),h];rfl
theorem Un {l:List Tk} {s:Ps} (h:∀ j,1≤j∧j≤3→C9 (cw j) l s=false):Hb l s=0:=by
 unfold Hb
 rw[show C9 [102,111,114,97,108,108] l s=false from h 1 (by omega),show C9 [101,120,105,115,116,115] l s=false from h 2 (by omega),show C9 [97,108,119,97,121,115] l s=false from h 3 (by omega)];rfl
theorem A6p {l:List Tk} {s:Ps} (h:s.2.1≠0):Hb l s=0:=Un fun j _=>A2l h
theorem Aak {T:Nat} {l:List Tk} (hk:Toks T l) {k:Int} {s:Ps} (hs:Cb l s) (h1:s.1 < l.length) (h0:s.2.1=0):Cb l (clF k l s).2∧Ew l (clF k l s).2 < Ew l s:=by
 obtain⟨q2,q3⟩:=Ahd hk k h1 h0
 exact⟨q2,Rq h0 hs q3 q2⟩
theorem Aex {T:Nat} {l:List Tk} (hk:Toks T l):∀ (m K K':Nat) (s:Ps) (acc:List Cl),Cb l s→Ew l s≤m→m < K→m < K'→Ia l K s acc=Ia l K' s acc:=by
 intro m
 induction m with
 | zero =>
  intro K K' s acc hs hm hK hK'
  obtain⟨K,rfl⟩:∃ j,K=j+1:=⟨K - 1,by omega⟩
  obtain⟨K',rfl⟩:∃ j,K'=j+1:=⟨K' - 1,by omega⟩
  rw[Ia,Ia,Un fun j _=>Yu hm];rfl
 | succ m ih =>
  intro K K' s acc hs hm hK hK'
  obtain⟨K,rfl⟩:∃ j,K=j+1:=⟨K - 1,by omega⟩
  obtain⟨K',rfl⟩:∃ j,K'=j+1:=⟨K' - 1,by omega⟩
  rw[Ia,Ia]
  by_cases c:0 < Hb l s
  ·obtain⟨h1,h0,_⟩:=A0o c
   obtain⟨g1,g2⟩:=Aak hk (k:=Hb l s) hs h1 h0
   rw[A6 c,A6 c]
   exact ih K K' _ _ g1 (by omega) (by omega) (by omega)
  ·rw[Aq c,Aq c]
noncomputable def Qv (l:List Tk) (s:Ps) (acc:List Cl):List Cl×Ps:=Ia l (l.length+2) s acc
theorem Ac9 {T:Nat} {l:List Tk} (hk:Toks T l) {s:Ps} {acc:List Cl} {j:Nat} (hj:1≤j∧j≤3) (hs:Cb l s) (h:C9 (cw j) l s=true):Qv l s acc=Qv l (clF (j:Int) l s).2 (acc++[(clF (j:Int) l s).1]):=by
 obtain⟨h1,h0⟩:=Je h
 obtain⟨g1,g2⟩:=Aak hk (k:=(j:Int)) hs h1 h0
 have hb:Ew l s≤l.length+1:=Og
 unfold Qv
 rw[show l.length+2=(l.length+1)+1 from rfl,Ia,Aet hj h,A6 (by omega)]
 exact Aex hk (l.length) _ _ _ _ g1 (by omega) (by omega) (by omega)
theorem Wj {l:List Tk} {s:Ps} {acc:List Cl} (h:Hb l s=0):Qv l s acc=(acc,s):=by
 unfold Qv
 rw[Ia,h];rfl
noncomputable def Fk (l:List Tk) (j:Nat) (r:Bool×Ps×List Cl):Bool×Ps×List Cl:=bif C9 (cw j) l r.2.1 then(true,(clF (j:Int) l r.2.1).2,r.2.2++[(clF (j:Int) l r.2.1).1]) else r
structure Aa9 (l:List Tk) (s0:Ps) (a0:List Cl) (r:Bool×Ps×List Cl):Prop where
 ok:Cb l r.2.1
 z:PsZ r.2.1
 same:Qv l r.2.1 r.2.2=Qv l s0 a0
 off:r.1=false→r.2.1=s0∧r.2.2=a0
 on:r.1=true→Ew l r.2.1 < Ew l s0
 le:Ew l r.2.1≤Ew l s0
 cnt:r.2.2.length+Ew l r.2.1≤a0.length+Ew l s0
theorem Yj {T:Nat} {l:List Tk} (hk:Toks T l) {s0:Ps} {a0:List Cl} {r:Bool×Ps×List Cl} {j:Nat} (hj:1≤j∧j≤3) (h:Aa9 l s0 a0 r):Aa9 l s0 a0 (Fk l j r):=by
 unfold Fk
 cases hc:C9 (cw j) l r.2.1 with
 | false=>exact h
 | true =>
  obtain⟨h1,h0⟩:=Je hc
  obtain⟨g1,g2⟩:=Aak hk (k:=(j:Int)) h.ok h1 h0
  have hle:=h.le
  refine⟨g1,Asn hk (k:=(j:Int)) h1 h.z,?_,fun e=>(by cases e),fun _=>?_,?_,?_⟩
  ·dsimp only [cond_true];rw[← Ac9 hk hj h.ok hc];exact h.same
  ·show Ew l (clF (j:Int) l r.2.1).2 < _;omega
  ·show Ew l (clF (j:Int) l r.2.1).2≤_;omega
  ·show(r.2.2++[(clF (j:Int) l r.2.1).1]).length+Ew l (clF (j:Int) l r.2.1).2≤_
   have:=h.cnt
   rw[List.length_append,List.length_singleton];omega
theorem Ta {T:Nat} {l:List Tk} (hk:Toks T l) (n:Nat) (y:List Tk×Int×Int) (hy:y.1=l) (hn:18*l.length+T+1000≤n) (k:Nat) (j:Nat) (hj:1≤j∧j≤3) (r:Bool×Ps×List Cl) (hs:Cb l r.2.1) (hz:PsZ r.2.1) (ha:r.2.2.length≤l.length+5) :
 E3 n y (k+1) r.1 (j:Int) (r.2.1.1:Int) r.2.1.2.1 r.2.1.2.2 r.2.2=E3 n y k (Fk l j r).1 ((j+1:Nat):Int) ((Fk l j r).2.1.1:Int) (Fk l j r).2.1.2.1 (Fk l j r).2.1.2.2 (Fk l j r).2.2:=by
 subst hy
 have hl:=hk.len
 obtain⟨n,rfl⟩:∃ q,n=q+6:=⟨n - 6,by omega⟩
 have hnx:=Oi (n+4) 1 (cw j) y.1 r.2.1 hl
 rw[E3,A6 (by omega),Air (n+5) j hj,A1,Le,hnx,A1,Tb,Ay j (by omega),Fk]
 cases hc:C9 (cw j) y.1 r.2.1 with
 | false=>rfl
 | true =>
  obtain⟨h1,h0⟩:=Je hc
  dsimp only [nxB,cond_true]
  rw[Ajq hk (n+6) (j:Int) r.2.1 h1 hz (by omega),A1,A6 (by omega)]
theorem Afu {T:Nat} {l:List Tk} (hk:Toks T l) (n:Nat) (y:List Tk×Int×Int) (hy:y.1=l) (hn:18*l.length+T+1000≤n):∀ (m k:Nat) (s:Ps) (acc:List Cl),Cb l s→PsZ s→Ew l s≤m→m+1 < k→acc.length+Ew l s≤l.length+2 →
 Hs n y k true (s.1:Int) s.2.1 s.2.2 acc=some (.out (((Qv l s acc).2.1:Int),(Qv l s acc).2.2.1,(Qv l s acc).2.2.2,(Qv l s acc).1))∧Cb l (Qv l s acc).2∧PsZ (Qv l s acc).2:=by
 have hl:=hk.len
 intro m
 induction m with
 | zero=>
   intro k s acc hs hz hm hk' ha
   obtain⟨k,rfl⟩:∃ j,k=j+2:=⟨k - 2,by omega⟩
   obtain⟨n,rfl⟩:∃ q,n=q+6:=⟨n - 6,by omega⟩
   have c0:Aa9 l s acc (false,s,acc):=⟨hs,hz,rfl,fun _=>⟨rfl,rfl⟩,fun e=>(by cases e),Nat.le_refl _,Nat.le_refl _⟩
   have kn:∀ w,C9 w l s=false:=fun w=>Yu hm
   have w1:=Ta hk (n+6) y hy hn (n+5) 1 (by omega) (false,s,acc) hs hz (by dsimp only;omega)
   have e1:Fk l 1 (false,s,acc)=(false,s,acc):=by unfold Fk;rw[kn];rfl
   have w2:=Ta hk (n+6) y hy hn (n+4) 2 (by omega) (false,s,acc) hs hz (by dsimp only;omega)
   have e2:Fk l 2 (false,s,acc)=(false,s,acc):=by unfold Fk;rw[kn];rfl
   have w3:=Ta hk (n+6) y hy hn (n+3) 3 (by omega) (false,s,acc) hs hz (by dsimp only;omega)
   have e3:Fk l 3 (false,s,acc)=(false,s,acc):=by unfold Fk;rw[kn];rfl
   rw[e1] at w1;rw[e2] at w2;rw[e3] at w3
   have w:E3 (n+6) y (n+6) false 1 (s.1:Int) s.2.1 s.2.2 acc=some (.out (false,(s.1:Int),s.2.1,s.2.2,acc)):=by
    refine w1.trans (w2.trans (w3.trans ?_))
    rw[E3,Aq (by omega)]
   rw[Hs,Af,w,A1,Wj (Un fun j _=>kn _)]
   exact⟨rfl,hs,hz⟩
 | succ m ih =>
  intro k s acc hs hz hm hk' ha
  obtain⟨k,rfl⟩:∃ j,k=j+2:=⟨k - 2,by omega⟩
  have c0:Aa9 l s acc (false,s,acc):=⟨hs,hz,rfl,fun _=>⟨rfl,rfl⟩,fun e=>(by cases e),Nat.le_refl _,Nat.le_refl _⟩
  have c1:=Yj hk (j:=1) (by omega) c0
  have c2:=Yj hk (j:=2) (by omega) c1
  have c3:=Yj hk (j:=3) (by omega) c2
  obtain⟨n,rfl⟩:∃ q,n=q+6:=⟨n - 6,by omega⟩
  have w1:=Ta hk (n+6) y hy hn (n+5) 1 (by omega) (false,s,acc) hs hz (by dsimp only;omega)
  have w2:=Ta hk (n+6) y hy hn (n+4) 2 (by omega) _ c1.ok c1.z (by have:=c1.cnt;omega)
  have w3:=Ta hk (n+6) y hy hn (n+3) 3 (by omega) _ c2.ok c2.z (by have:=c2.cnt;omega)
  generalize hR:Fk l 3 (Fk l 2 (Fk l 1 (false,s,acc)))=R at *
  have w:E3 (n+6) y (n+6) false 1 (s.1:Int) s.2.1 s.2.2 acc=some (.out (R.1,(R.2.1.1:Int),R.2.1.2.1,R.2.1.2.2,R.2.2)):=by
   refine w1.trans (w2.trans (w3.trans ?_))
   rw[E3,Aq (by omega)]
  rw[Hs,Af,w,A1]
  dsimp only
  cases hf:R.1 with
  | true =>
   have h1:=c3.on hf
   have:=ih (k+1) R.2.1 R.2.2 c3.ok c3.z (by omega) (by omega) (by have:=c3.cnt;omega)
   rw[c3.same] at this
   exact this
  | false =>
   obtain⟨h1,h2⟩:=c3.off hf
   have hno:∀ j,1≤j∧j≤3→C9 (cw j) l s=false:=by
    have d1:(Fk l 2 (Fk l 1 (false,s,acc))).1=false∧C9 (cw 3) l (Fk l 2 (Fk l 1 (false,s,acc))).2.1=false:=by
     rw[← hR] at hf
     generalize Fk l 2 (Fk l 1 (false,s,acc))=q at hf ⊢
     unfold Fk at hf
     cases hc:C9 (cw 3) l q.2.1 with
     | true=>rw[hc] at hf;cases hf
     | false=>rw[hc] at hf;exact⟨hf,rfl⟩
    have d2:(Fk l 1 (false,s,acc)).1=false∧C9 (cw 2) l (Fk l 1 (false,s,acc)).2.1=false:=by
     have hf:=d1.1
     generalize Fk l 1 (false,s,acc)=q at hf ⊢
     unfold Fk at hf
     cases hc:C9 (cw 2) l q.2.1 with
     | true=>rw[hc] at hf;cases hf
     | false=>rw[hc] at hf;exact⟨hf,rfl⟩
    have d3:C9 (cw 1) l s=false:=by
     have hf:=d2.1
     unfold Fk at hf
     cases hc:C9 (cw 1) l s with
     | true=>rw[show C9 (cw 1) l (false,s,acc).2.1=true from hc] at hf;cases hf
     | false=>rfl
    have k2:=d2.2
    rw[(c1.off d2.1).1] at k2
    have k3:=d1.2
    rw[(c2.off d1.1).1] at k3
    intro j hj
    have:j=1∨j=2∨j=3:=by omega
    rcases this with rfl | rfl | rfl
    ·exact d3
    ·exact k2
    ·exact k3
   rw[h1,h2,Wj (Un hno)]
   exact⟨rfl,hs,hz⟩
theorem Aj8 {s:List UInt8} (hs:s.length≤20000) {n:Nat} (hn:20*s.length+1200≤n):Gj n s=some (Qb s):=by
 obtain⟨n,rfl⟩:∃ j,n=j+6:=⟨n - 6,by omega⟩
 have hk:=A2e s (by omega)
 have hlen:=(Wb s).2
 have hl:=hk.len
 rw[Gj,Ae0 (n+5) s (by omega),A1,Qb]
 cases herr:(Hr s).err != 0 with
 | true =>
  rw[show((Rc (Hr s)).2.1 != 0)=true from herr,Af,Af];rfl
 | false =>
  rw[show((Rc (Hr s)).2.1 != 0)=false from herr,An,An]
  have hy:(Rc (Hr s)).1=Qx s:=rfl
  generalize hY:Rc (Hr s)=y at *
  rw[hy]
  generalize Qx s=l at *
  have hfin:∀ (m:Int) (v:List Va) (t:List Th) (c:List Cl) (z:Ps),Cb l z→(bif decide ((z.1:Int) < ((l.length:Nat):Int)) then(Dk (n+5) l (z.1:Int) z.2.1 z.2.2).bind fun y93=>bif y93.1 != 0 then some ((⟨0,[],[],[]⟩:Az),y93.1,y93.2) else some ((⟨m,v,t,c⟩:Az),0,0) else bif z.2.1 != 0 then some ((⟨0,[],[],[]⟩:Az),z.2.1,z.2.2) else some ((⟨m,v,t,c⟩:Az),0,0))=some (bif (Oh l z).2.1 != 0 then(noP,(Oh l z).2) else(⟨m,v,t,c⟩,0,0)):=by
   intro m v t c z hz
   unfold Oh
   by_cases h:z.1 < l.length
   ·rw[A6 (show(z.1:Int) < ((l.length:Nat):Int) by omega),decide_eq_true h,Af,A7d (n+3) l z hl,A1]
    cases (wr l z).2.1 != 0<;>rfl
   ·rw[Aq (show ¬ (z.1:Int) < ((l.length:Nat):Int) by omega),decide_eq_false h,An]
    cases z.2.1 != 0<;>rfl
  have m1:=A9o (n+2) 1 [109,111,100] l ((0,0,0):Ps) hl
  rw[show(((0:Nat),(0:Int),(0:Int)).1:Int)=0 from rfl] at m1
  dsimp only at m1
  rw[Le,m1,A1]
  dsimp only
  have hm0:mtB ((0:Int)==0&&isT 1 [109,111,100] l 0) l (0,0,0)=bif C9 [109,111,100] l (0,0,0) then(1,0,0) else wr l (0,0,0):=rfl
  have p1:Cb l (bif C9 [109,111,100] l (0,0,0) then((1,0,0):Ps) else wr l (0,0,0)):=by
   cases hc:C9 [109,111,100] l (0,0,0) with
   | true=>exact(Je hc).1
   | false=>show(wr l (0,0,0)).1≤l.length;rw[U7];exact Nat.zero_le _
  have z1:PsZ (bif C9 [109,111,100] l (0,0,0) then((1,0,0):Ps) else wr l (0,0,0)):=by
   cases hc:C9 [109,111,100] l (0,0,0) with
   | true=>exact fun _=>rfl
   | false=>exact Aa8 l (0,0,0)
  rw[hm0]
  have hst:Li l=((nuF l (bif C9 [109,111,100] l (0,0,0) then((1,0,0):Ps) else wr l (0,0,0))).1,sgF [59] l (nuF l (bif C9 [109,111,100] l (0,0,0) then((1,0,0):Ps) else wr l (0,0,0))).2):=rfl
  unfold T4
  rw[hst]
  generalize (bif C9 [109,111,100] l (0,0,0) then((1,0,0):Ps) else wr l (0,0,0))=S0 at *
  obtain⟨tk,e1,e2⟩:=Abp (n+2) l S0 hl
  rw[e1,A1]
  dsimp only
  have p2:=A1i p1
  have p3:=Kt (w:=[59]) p2
  have z3:PsZ (sgF [59] l (nuF l S0).2):=Uu (Ahj z1)
  have e3:=Qj n [59] l (nuF l S0).2 hl
  rw[e3,A1,Le]
  dsimp only
  rw[e2]
  generalize (nuF l S0).1=md at *
  generalize hS1:sgF [59] l (nuF l S0).2=S1 at *
  have e4:=Oi (n+3) 1 [108,111,99] l S1 hl
  rw[e4,A1,Tb]
  obtain⟨v1,v2⟩:=Ao8 hk (n+5) y hy (by omega) (l.length+1) (n+5) (l.length+2) S1 [] p3 Og (by omega) (by omega) (by simp)
  obtain⟨p4,_⟩:=A5v (l.length+2) S1 [] p3 (Nat.zero_le _)
  have z4:=v2 z3
  rw[v1,A1]
  dsimp only
  rw[Le]
  generalize hV:Fh l (l.length+2) S1 []=V at *
  have e5:=Oi (n+3) 1 [116,104,114,101,97,100] l V.2 hl
  rw[e5,A1,Tb]
  obtain⟨t1,p5,z5⟩:=Anh hk (n+5) y hy (by omega) (l.length+1) (n+5) (l.length+2) V.2 [] p4 z4 Og (by omega) (by omega) (by simp)
  rw[t1,A1]
  dsimp only
  obtain⟨q1,q2,q3⟩:=Akf l (l.length+2) V.2 []
  generalize hW:L6 l (l.length+2) V.2 []=W at *
  generalize hF:Gs l (l.length+2) V.2 []=F at *
  obtain⟨c1,p6,z6⟩:=Afu hk (n+5) y hy (by omega) (l.length+1) (n+5) W.2 [] p5 z5 Og (by omega) (by have:=Og (l:=l) (s:=W.2);simp;omega)
  rw[c1,A1]
  dsimp only
  rw[hfin _ _ _ _ _ p6]
  have hA:Ia l (l.length+2) F.2 []=Qv l F.2 []:=rfl
  rw[hA,← q1]
  by_cases c:W.2.2.1=0
  ·rw[q3 c]
  ·rw[Wj (A6p c),Wj (A6p (by rw[← q2];exact c))]
   dsimp only
   have l1:(Oh l W.2).2=W.2.2:=by
    unfold Oh wr
    cases decide (W.2.1 < l.length)<;>rw[Ca.2 c]<;>rfl
   have l2:(Oh l F.2).2=W.2.2:=by
    unfold Oh wr
    rw[q2] at c ⊢
    cases decide (F.2.1 < l.length)<;>rw[Ca.2 c]<;>rfl
   rw[l1,l2,bne_iff_ne.2 c]
abbrev Mi:=List (List UInt8×Int)
abbrev Mm:=List (List UInt8×Mi)
theorem Yc {ν:Type}:∀ (m:List (List UInt8×ν)) (x s:List UInt8) (v z:ν),Bf (Re m x v) s z=if s=x then v else Bf m s z
 | [],x,s,v,z=>by simp only[Re,Bf]
 | p :: m,x,s,v,z=>by
  rw[Re]
  by_cases h:x=p.1
  ·subst h
   rw[if_pos rfl,Bf,Bf]
   by_cases h2:s=p.1
   ·rw[if_pos h2,if_pos h2]
   ·rw[if_neg h2,if_neg h2,if_neg h2]
  ·rw[if_neg h,Bf,Bf,Yc m x s v z]
   by_cases h2:s=p.1
   ·rw[if_pos h2,if_pos h2,if_neg (by rw[h2];exact fun e=>h e.symm)]
   ·rw[if_neg h2,if_neg h2]
theorem A3w {ν:Type}:∀ (m:List (List UInt8×ν)) (x s:List UInt8) (v:ν),V2 (Re m x v) s=(decide (s=x) || V2 m s)
 | [],x,s,v=>by simp only[Re,V2];by_cases h:s=x<;>simp[h]
 | p :: m,x,s,v=>by
  rw[Re]
  by_cases h:x=p.1
  ·subst h
   rw[if_pos rfl,V2,V2]
   by_cases h2:s=p.1<;>simp[h2]
  ·rw[if_neg h,V2,V2,A3w m x s v]
   by_cases h2:s=p.1
   ·simp[h2]
   ·simp[h2]
def Cnt (m:Mi) (l:List (List UInt8)) (b:Nat):Prop:=∀ s,0≤Bf m s 0∧Bf m s 0≤(b:Int)∧(0 < Bf m s 0↔s ∈ l)
theorem Cnt.nil:Cnt [] [] 0:=fun s=>⟨Int.le_refl _,Int.le_refl _,by simp[Bf]⟩
theorem Cnt.step {m:Mi} {l:List (List UInt8)} {b:Nat} (h:Cnt m l b) (hb:b < 1000000) (x:List UInt8):Cnt (Re m x (IntKind.i64.wrap (Bf m x 0+1))) (l++[x]) (b+1):=by
 intro s
 obtain⟨h1,h2,h3⟩:=h s
 obtain⟨k1,k2,k3⟩:=h x
 rw[Yc,Cx (by omega)]
 by_cases e:s=x
 ·subst e;rw[if_pos rfl];exact⟨by omega,by omega,by constructor;·simp
                                                    ·intro _;omega⟩
 ·rw[if_neg e];refine⟨h1,by omega,?_⟩
  rw[h3];simp[e]
theorem Cnt.has {m:Mi} {l:List (List UInt8)} {b:Nat} (h:Cnt m l b) (s:List UInt8):decide (0 < Bf m s 0)=l.contains s:=by
 rw[Bool.eq_iff_iff,C1,List.contains_iff_mem];exact(h s).2.2
theorem Cnt.no {m:Mi} {l:List (List UInt8)} {b:Nat} (h:Cnt m l b) (s:List UInt8):(Bf m s 0==0)=!l.contains s:=by
 rw[← h.has s,Bool.eq_iff_iff,beq_iff_eq,Bool.not_eq_true',decide_eq_false_iff_not]
 have:=(h s).1;omega
def nmT (l:List Th):List (List UInt8):=l.map Ae.Ao
def TM (m:Mm) (l:List Th):Prop:=∀ s,V2 m s=(nmT l).contains s∧match l.find? (fun t=>t.Ao==s) with
 | some t=>∃ b,Cnt (Bf m s []) t.Bh b
 | none=>Bf m s []=[]
theorem TM.nil:TM [] []:=fun s=>⟨rfl,rfl⟩
theorem A40 {l:List Th} {s:List UInt8}:l.find? (fun t=>t.Ao==s)=none↔(nmT l).contains s=false:=by
 rw[List.find?_eq_none,← Bool.not_eq_true,List.contains_iff_mem,nmT,List.mem_map]
 constructor
 ·rintro h ⟨t,ht,e⟩;exact h t ht (by rw[e];simp)
 ·rintro h t ht e;exact h ⟨t,ht,by simpa using e⟩
theorem TM.step {m:Mm} {l:List Th} (h:TM m l) (t:Th) {r:Mi} {b:Nat} (hr:Cnt r t.Bh b):TM (if V2 m t.Ao then m else Re m t.Ao r) (l++[t]):=by
 intro s
 obtain⟨h1,h2⟩:=h s
 have hc:(nmT (l++[t])).contains s=((nmT l).contains s || decide (s=t.Ao)):=by
  rw[Bool.eq_iff_iff,List.contains_iff_mem,Bool.or_eq_true,List.contains_iff_mem,C1];simp[nmT]
 rw[List.find?_append]
 by_cases c:V2 m t.Ao=true
 ·rw[if_pos c]
  refine⟨?_,?_⟩
  ·rw[hc,h1];by_cases e:s=t.Ao
   ·subst e;rw[← h1,c];rfl
   ·simp[e]
  ·cases hf:l.find? (fun t=>t.Ao==s) with
   | some u=>rw[hf] at h2;exact h2
   | none =>
    rw[hf] at h2
    have e:(t.Ao==s)=false:=by
     rw[beq_eq_false_iff_ne];intro e
     have:=A40.1 hf
     rw[← h1,← e,c] at this;cases this
    simp only[List.find?_cons,e,List.find?_nil,Option.none_or]
    exact h2
 ·rw[if_neg c]
  refine⟨?_,?_⟩
  ·rw[hc,A3w,h1,Bool.or_comm]
  ·rw[Yc]
   by_cases e:s=t.Ao
   ·subst e
    have hf:l.find? (fun u=>u.Ao==t.Ao)=none:=A40.2 (by rw[← h1];simpa using c)
    rw[hf,if_pos rfl]
    simp only[List.find?_cons,beq_self_eq_true,Option.none_or]
    exact⟨b,hr⟩
   ·rw[if_neg e]
    cases hf:l.find? (fun t=>t.Ao==s) with
    | some u=>rw[hf] at h2;exact h2
    | none =>
     rw[hf] at h2
     simp only[List.find?_cons,Ca.2 (Ne.symm e),List.find?_nil,Option.none_or]
     exact h2
def zN (x:Nd):Nd:=⟨x.B3,x.Bs,x.Ao,x.Cq,0⟩
def zS (x:St):St:=⟨x.A7,x.Bd,x.Be,x.Bm.map zN,x.C6.map zN,x.Br,x.B5,x.Ch,0⟩
def zV (v:Va):Va:=⟨v.Ao,v.Bs,0⟩
def zT (t:Th):Th:=⟨t.Ao,t.Bh,t.B5.map zS,0⟩
def zC (c:Cl):Cl:=⟨c.A7,c.Bm.map zN,0⟩
def zNb (pl:Bool) (x:Nd):Nd:=bif pl then x else zN x
def zSb (pl:Bool) (x:St):St:=bif pl then x else zS x
def zVb (pl:Bool) (x:Va):Va:=bif pl then x else zV x
def zTb (pl:Bool) (x:Th):Th:=bif pl then x else zT x
def zCb (pl:Bool) (x:Cl):Cl:=bif pl then x else zC x
theorem Sf {α β:Type} {f:α→β} {a b:List α} (h:a.map f=b.map f):a.length=b.length:=by have:=congrArg List.length h;simpa using this
theorem Y0 {α β:Type} {f:α→β} {a b:List α} (h:a.map f=b.map f) {i:Nat} (hi:i < a.length) (hj:i < b.length):f a[i]=f b[i]:=by
 have:=congrArg (fun l=>l[i]?) h
 simpa [Ax hi,Ax hj] using this
theorem As7 {pl:Bool} {x y:Nd} (h:zNb pl x=zNb pl y):x.B3=y.B3∧x.Bs=y.Bs∧x.Ao=y.Ao∧x.Cq=y.Cq∧(pl=true→x.Ab=y.Ab):=by
 cases pl with
 | true=>have h:x=y:=h;subst h;exact⟨rfl,rfl,rfl,rfl,fun _=>rfl⟩
 | false =>
  have h:zN x=zN y:=h
  unfold zN at h
  injection h with h1 h2 h3 h4
  exact⟨h1,h2,h3,h4,fun e=>by cases e⟩
theorem Atc {pl:Bool} {x y:St} (h:zSb pl x=zSb pl y):x.A7=y.A7∧x.Bd=y.Bd∧x.Be=y.Be∧x.Br=y.Br∧x.B5=y.B5∧x.Ch=y.Ch∧x.Bm.map (zNb pl)=y.Bm.map (zNb pl)∧x.C6.map (zNb pl)=y.C6.map (zNb pl)∧(pl=true→x.Ab=y.Ab):=by
 cases pl with
 | true=>have h:x=y:=h;subst h;exact⟨rfl,rfl,rfl,rfl,rfl,rfl,rfl,rfl,fun _=>rfl⟩
 | false =>
  have h:zS x=zS y:=h
  unfold zS at h
  injection h with h1 h2 h3 h4 h5 h6 h7 h8
  exact⟨h1,h2,h3,h6,h7,h8,h4,h5,fun e=>by cases e⟩
theorem Au4 {pl:Bool} {x y:Va} (h:zVb pl x=zVb pl y):x.Ao=y.Ao∧x.Bs=y.Bs∧(pl=true→x.Ab=y.Ab):=by
 cases pl with
 | true=>have h:x=y:=h;subst h;exact⟨rfl,rfl,fun _=>rfl⟩
 | false =>
  have h:zV x=zV y:=h
  unfold zV at h
  injection h with h1 h2
  exact⟨h1,h2,fun e=>by cases e⟩
theorem Aue {pl:Bool} {x y:Th} (h:zTb pl x=zTb pl y):x.Ao=y.Ao∧x.Bh=y.Bh∧x.B5.map (zSb pl)=y.B5.map (zSb pl)∧(pl=true→x.Ab=y.Ab):=by
 cases pl with
 | true=>have h:x=y:=h;subst h;exact⟨rfl,rfl,rfl,fun _=>rfl⟩
 | false =>
  have h:zT x=zT y:=h
  unfold zT at h
  injection h with h1 h2 h3
  exact⟨h1,h2,h3,fun e=>by cases e⟩
theorem Ast {pl:Bool} {x y:Cl} (h:zCb pl x=zCb pl y):x.A7=y.A7∧x.Bm.map (zNb pl)=y.Bm.map (zNb pl)∧(pl=true→x.Ab=y.Ab):=by
 cases pl with
 | true=>have h:x=y:=h;subst h;exact⟨rfl,rfl,fun _=>rfl⟩
 | false =>
  have h:zC x=zC y:=h
  unfold zC at h
  injection h with h1 h2
  exact⟨h1,h2,fun e=>by cases e⟩
theorem Q6 {τ:Type} (N:Nat) (hN:N < 1000000) (L:Nat→Nat→Option τ) (o:Option τ) (h0:∀ k,L (k+1) N=o) (h1:∀ k i,i < N→L (k+1) i=L k (i+1)):∀ (m i k:Nat),i+m=N→m < k→L k i=o:=by
 intro m
 induction m with
 | zero =>
  intro i k h hk
  obtain⟨k,rfl⟩:∃ j,k=j+1:=⟨k - 1,by omega⟩
  obtain rfl:i=N:=by omega
  exact h0 k
 | succ m ih =>
  intro i k h hk
  obtain⟨k,rfl⟩:∃ j,k=j+1:=⟨k - 1,by omega⟩
  rw[h1 k i (by omega)]
  exact ih (i+1) k (by omega) (by omega)
theorem A2y (n:Nat) (pl:Bool) (a b:List Nd) (h:a.map (zNb pl)=b.map (zNb pl)) (hl:a.length < 1000000) (hn:a.length+2 < n):Hh n a b pl=some true:=by
 obtain⟨n,rfl⟩:∃ j,n=j+1:=⟨n - 1,by omega⟩
 have hab:=Sf h
 have:=Q6 a.length hl (fun k i=>Fz n a b k pl (i:Int)) (some (.out ())) (fun k=>by rw[Fz,Aq (by omega)]) (fun k i hi=>?_) a.length 0 n (by omega) (by omega)
 ·have this:Fz n a b n pl 0=some (.out ()):=this
  rw[Hh,hab,bne_self_eq_false,An,this];rfl
 ·obtain⟨f1,f2,f3,f4,f5⟩:=As7 (Y0 h hi (by omega))
  rw[Fz,A6 (by omega)]
  simp only[C8 hi,C8 (show i < b.length by omega),A1,f1,f2,f3,f4,bne_self_eq_false,An,beq_self_eq_true,Af,Ay i (show i < 4611686018427387904 by omega)]
  cases pl with
  | false=>rfl
  | true=>rw[f5 rfl,bne_self_eq_false];rfl
theorem Ais (n:Nat) (pl:Bool) (a b:List St) (h:a.map (zSb pl)=b.map (zSb pl)) (hl:a.length≤4000) (hx:∀ x ∈ a,x.Bm.length≤4000∧x.C6.length≤4000) (hn:4100 < n):O2 n a b pl=some true:=by
 obtain⟨n,rfl⟩:∃ j,n=j+1:=⟨n - 1,by omega⟩
 have hab:=Sf h
 have:=Q6 a.length (by omega) (fun k i=>Fv n a b k pl (i:Int)) (some (.out ())) (fun k=>by rw[Fv,Aq (by omega)]) (fun k i hi=>?_) a.length 0 n (by omega) (by omega)
 ·have this:Fv n a b n pl 0=some (.out ()):=this
  rw[O2,hab,bne_self_eq_false,An,this];rfl
 ·have hj:i < b.length:=by omega
  obtain⟨f1,f2,f3,f4,f5,f6,f7,f8,f9⟩:=Atc (Y0 h hi hj)
  have h2:=hx a[i] (List.getElem_mem hi)
  rw[Fv,A6 (by omega)]
  have g1:=A2y n pl _ _ f7 (by omega) (by omega)
  have g2:=A2y n pl _ _ f8 (by omega) (by omega)
  simp only[C8 hi,C8 hj,A1,f1,f2,f3,f4,f5,f6,bne_self_eq_false,An,beq_self_eq_true,Af,Ay i (show i < 4611686018427387904 by omega)]
  cases pl with
  | false=>rw[An,g1,A1,Af,g2];rfl
  | true=>rw[f9 rfl,bne_self_eq_false,Af,An,g1,A1,Af,g2];rfl
structure Abc (p:Pg):Prop where
 locs:p.B0.length≤4000
 threads:p.Ak.length≤4000
 claims:p.Ar.length≤4000
 thr:∀ t ∈ p.Ak,t.Bh.length≤4000∧t.B5.length≤4000∧∀ x ∈ t.B5,x.Bm.length≤4000∧x.C6.length≤4000
 cl:∀ c ∈ p.Ar,c.Bm.length≤4000
theorem As6 (n:Nat) (x y:Th) (h:x.Bh=y.Bh) (hl:x.Bh.length≤4000) (hn:4100 < n):Gm n x y n 0=some (.out ()):=by
 refine Q6 x.Bh.length (by omega) (fun k i=>Gm n x y k (i:Int)) (some (.out ())) (fun k=>by rw[Gm,Aq (by omega)]) (fun k i hi=>?_) x.Bh.length 0 n (by omega) (by omega)
 rw[Gm,A6 (by omega),← h,C8 hi,A1,A1,beq_self_eq_true,Af,Ay i (by omega)]
theorem As8 (n:Nat) (x y:Th) (h:x.Bh=y.Bh) (hl:x.Bh.length≤4000) (hn:4100 < n):Gn n x y n 0=some (.out ()):=by
 refine Q6 x.Bh.length (by omega) (fun k i=>Gn n x y k (i:Int)) (some (.out ())) (fun k=>by rw[Gn,Aq (by omega)]) (fun k i hi=>?_) x.Bh.length 0 n (by omega) (by omega)
 rw[Gn,A6 (by omega),← h,C8 hi,A1,A1,beq_self_eq_true,Af,Ay i (by omega)]
structure Agf (pl:Bool) (p q:Pg):Prop where
 md:p.Bo=q.Bo
 locs:p.B0.map (zVb pl)=q.B0.map (zVb pl)
 threads:p.Ak.map (zTb pl)=q.Ak.map (zTb pl)
 claims:p.Ar.map (zCb pl)=q.Ar.map (zCb pl)
theorem Ava (pl:Bool) (p:Pg):Agf pl p p:=⟨rfl,rfl,rfl,rfl⟩
theorem Ak8 (n:Nat) (pl:Bool) (a b:Pg) (h:Agf pl a b) (hs:Abc a) (hn:4200 < n):O0 n a b pl=some true:=by
 obtain⟨n,rfl⟩:∃ j,n=j+1:=⟨n - 1,by omega⟩
 have s1:=hs.locs
 have s2:=hs.threads
 have s3:=hs.claims
 have l1:=Sf h.locs
 have l2:=Sf h.threads
 have l3:=Sf h.claims
 have L0:Fw n a b n pl 0=some (.out pl):=by
  refine Q6 a.B0.length (by omega) (fun k i=>Fw n a b k pl (i:Int)) (some (.out pl)) (fun k=>by rw[Fw,Aq (by omega)]) (fun k i hi=>?_) a.B0.length 0 n (by omega) (by omega)
  have hj:i < b.B0.length:=by omega
  obtain⟨f1,f2,f3⟩:=Au4 (Y0 h.locs hi hj)
  rw[Fw,A6 (by omega)]
  simp only[C8 hi,C8 hj,A1,f1,f2,bne_self_eq_false,An,beq_self_eq_true,Af,Ay i (show i < 4611686018427387904 by omega)]
  cases pl with
  | false=>rfl
  | true=>rw[f3 rfl,bne_self_eq_false];rfl
 have L1:Fx n a b n pl 0=some (.out pl):=by
  refine Q6 a.Ak.length (by omega) (fun k i=>Fx n a b k pl (i:Int)) (some (.out pl)) (fun k=>by rw[Fx,Aq (by omega)]) (fun k i hi=>?_) a.Ak.length 0 n (by omega) (by omega)
  have hj:i < b.Ak.length:=by omega
  obtain⟨f1,f2,f3,f4⟩:=Aue (Y0 h.threads hi hj)
  obtain⟨t1,t2,t3⟩:=hs.thr _ (List.getElem_mem hi)
  have g:=Ais n pl _ _ f3 t2 t3 (by omega)
  rw[Fx,A6 (by omega)]
  simp only[C8 hi,C8 hj,A1,f1,bne_self_eq_false,An,beq_self_eq_true,Af,Ay i (show i < 4611686018427387904 by omega)]
  rw[show(((a.Ak[i].Bh.length:Nat):Int) != ((b.Ak[i].Bh.length:Nat):Int))=false by rw[f2,bne_self_eq_false],An,g,A1,Af]
  cases pl with
  | false=>rw[An,As8 n _ _ f2 t1 (by omega)];rfl
  | true=>rw[Af,f4 rfl,bne_self_eq_false,An,As6 n _ _ f2 t1 (by omega)];rfl
 have L4:Fy n a b n pl 0=some (.out ()):=by
  refine Q6 a.Ar.length (by omega) (fun k i=>Fy n a b k pl (i:Int)) (some (.out ())) (fun k=>by rw[Fy,Aq (by omega)]) (fun k i hi=>?_) a.Ar.length 0 n (by omega) (by omega)
  have hj:i < b.Ar.length:=by omega
  obtain⟨f1,f2,f3⟩:=Ast (Y0 h.claims hi hj)
  have t1:=hs.cl _ (List.getElem_mem hi)
  have g:=A2y n pl _ _ f2 (by omega) (by omega)
  rw[Fy,A6 (by omega)]
  simp only[C8 hi,C8 hj,A1,f1,bne_self_eq_false,An,beq_self_eq_true,Af,Ay i (show i < 4611686018427387904 by omega)]
  rw[g,A1,Af]
  cases pl with
  | false=>rfl
  | true=>rw[f3 rfl,bne_self_eq_false];rfl
 rw[O0,h.md,l1,l2,l3,bne_self_eq_false,bne_self_eq_false,bne_self_eq_false,bne_self_eq_false]
 simp only[An]
 rw[L0,A1]
 dsimp only
 rw[L1,A1]
 dsimp only
 rw[L4];rfl
theorem Q4 {s:List UInt8} (h:Cp s=true):s.length≤16:=by
 simp only[Cp,Ah,C1] at h;exact h.1.1.2
theorem Afa {x:Nd} (h:E2 x=true):x.Ao.length≤100∧x.Cq.length≤100:=by
 simp only[E2,Ah] at h
 have h:=h.2
 split at h
 ·simp only[Ah,beq_iff_eq] at h;rw[h.2.1,h.2.2];simp
 ·split at h
  ·simp only[Ah,beq_iff_eq] at h;have:=Q4 h.2.1;rw[h.2.2];exact⟨by omega,by simp⟩
  ·split at h
   ·simp only[Ah,beq_iff_eq] at h;have:=Q4 h.2.1;have:=Q4 h.2.2;exact⟨by omega,by omega⟩
   ·simp only[Ah,beq_iff_eq] at h;rw[h.2.1,h.2.2];simp
theorem A1m {l:List Nd} (h:Ep l=true):Hn l=true:=by
 simp only[Ep,Ah,C1,List.all_eq_true] at h
 simp only[Hn,Ah,C1,List.all_eq_true]
 exact⟨by omega,fun x hx=>Afa (h.2.2.1 x hx)⟩
theorem A77 {f:List UInt8} {c:Int} {l:List Nd} (h:fL f c l=true):Hn l=true:=by
 unfold fL at h
 split at h
 ·rw[Ah] at h;exact A1m h.2
 ·have:l=[]:=List.length_eq_zero_iff.1 (by rw[beq_iff_eq] at h;omega)
  subst this;rfl
theorem Acq {f:List UInt8} {c:Int} {s:List UInt8} (h:fN f c s=true):s.length≤100:=by
 unfold fN at h
 split at h
 ·have:=Q4 h;omega
 ·rw[beq_iff_eq] at h;rw[h];simp
theorem Aae {x:St} (h:Fo x=true):LightX x:=by
 simp only[Fo,Ah] at h
 exact⟨Acq h.2.2.2.1,Acq h.2.2.2.2.1,A77 h.2.2.2.2.2.1,A77 h.2.2.2.2.2.2.1⟩
theorem A8f {p:Pg} (h:Lh p=true) (h1:p.B0.length≤4000) (h2:p.Ak.length≤4000) (h3:p.Ar.length≤4000) (h4:∀ t ∈ p.Ak,t.Bh.length≤4000):Ux p:=by
 simp only[Lh,Ah,List.all_eq_true] at h
 obtain⟨_,hv,ht,hc⟩:=h
 refine⟨h1,h2,h3,fun v hm=>?_,fun t hm=>?_,fun c hm=>?_⟩
 ·have:=hv v hm
  simp only[Pv,Ah] at this
  have:=Q4 this.1;omega
 ·have:=ht t hm
  simp only[Nf,Ah,List.all_eq_true] at this
  have hn:=Q4 this.1
  obtain⟨F,_,_,_,f4,f5⟩:=Z9 this.2.2.1
  exact⟨by omega,h4 t hm,fun r hr=>by have:=Q4 (this.2.2.2 r hr);omega,by omega,fun x hx=>Aae (f5 x hx)⟩
 ·have:=hc c hm
  simp only[P6,Ah] at this
  exact A1m this.2.2.1
def V4 (B:Nat) (a:Int):Prop:=0≤a∧a≤B
structure Acx (B:Nat) (t:Th):Prop where
 at':V4 B t.Ab
 st:∀ x ∈ t.B5,A66 B x
structure B1n (B:Nat) (p:Pg):Prop where
 loc:∀ v ∈ p.B0,V4 B v.Ab
 thr:∀ t ∈ p.Ak,Acx B t
 cl:∀ c ∈ p.Ar,V4 B c.Ab∧∀ x ∈ c.Bm,Ox B x
theorem Sa {w:List UInt8} {l:List Tk} {s:Ps} (h:(sgF w l s).2.1=0):s.2.1=0:=Decidable.byContradiction fun c=>Zo c h
theorem A1g {l:List Tk} {s:Ps} (h:(nmF l s).2.2.1=0):s.2.1=0∧isN l s.1=true∧(nmF l s).1=txt l s.1:=by
 rcases A75 (l:=l) (s:=s) with ⟨_,h1,h0,h2,_⟩ | ⟨h1,_⟩
 ·exact⟨h0,h1,h2⟩
 ·exact absurd h h1
theorem Abz {l:List Tk} {s:Ps} (h:(nuF l s).2.2.1=0):s.2.1=0∧isK l s.1=true∧(nuF l s).1=Wn l s.1:=by
 rcases A5z (l:=l) (s:=s) with ⟨_,h1,h0,h2,_⟩ | ⟨h1,_⟩
 ·exact⟨h0,h1,h2⟩
 ·exact absurd h h1
theorem A9b {T:Nat} {l:List Tk} (hk:Toks T l) (i:Nat):A1p (Wn l i)=true:=by
 unfold Wn
 cases h:l[i]? with
 | none=>decide
 | some t=>have:=hk.ok t (List.mem_of_getElem? h);exact decide_eq_true ⟨this.2.1,this.2.2⟩
theorem Vq {B T:Nat} {l:List Tk} (hl:TokB B T l) (i:Nat):V4 B (atA l i):=by
 unfold atA
 cases h:l[i]? with
 | none=>exact⟨(show(0:Int)≤0 by decide),(show(0:Int)≤B by omega)⟩
 | some t=>exact hl.tk h
theorem A6o {B:Nat} {a:Int} (h:V4 B a):decide (0≤a)=true:=decide_eq_true h.1
theorem Aft {B T:Nat} {l:List Tk} (hl:TokB B T l) {s:Ps} (h:(N8 l s).2.2.1=0):Pv (N8 l s).1=true∧V4 B (N8 l s).1.Ab:=by
 unfold N8 at h ⊢
 dsimp only at h ⊢
 obtain⟨a1,_,a3⟩:=Abz (Sa h)
 obtain⟨_,b2,b3⟩:=A1g (Sa a1)
 refine⟨?_,Vq hl _⟩
 simp only[Pv,Ah]
 exact⟨by rw[b3];exact Td b2,by rw[a3];exact A9b hl.toks _,A6o (Vq hl _)⟩
theorem A4g {B T:Nat} {l:List Tk} (hl:TokB B T l):∀ (K:Nat) (s:Ps) (acc:List Va),(s.2.1=0→∀ v ∈ acc,Pv v=true∧V4 B v.Ab)→(Fh l K s acc).2.2.1=0→s.2.1=0∧∀ v ∈ (Fh l K s acc).1,Pv v=true∧V4 B v.Ab
 | 0,s,acc,h,h0=>⟨h0,h h0⟩
 | K+1,s,acc,h,h0=>by
  rw[Fh] at h0 ⊢
  cases hc:C9 [108,111,99] l s with
  | false=>rw[hc] at h0;exact⟨h0,h h0⟩
  | true =>
   rw[hc,Af] at h0
   rw[Af]
   have hs:=(Je hc).2
   refine⟨hs,(A4g hl K _ _ (fun e v hv=>?_) h0).2⟩
   rcases List.mem_append.1 hv with hv | hv
   ·exact h hs v hv
   ·rw[List.mem_singleton.1 hv];exact Aft hl e
theorem A44 {l:List Tk}:∀ (K:Nat) (s:Ps) (acc:List (List UInt8)),(s.2.1=0→∀ v ∈ acc,Cp v=true)→(Dw l K s acc).2.2.1=0→s.2.1=0∧∀ v ∈ (Dw l K s acc).1,Cp v=true
 | 0,s,acc,h,h0=>⟨h0,h h0⟩
 | K+1,s,acc,h,h0=>by
  rw[Dw] at h0 ⊢
  cases hc:s.2.1==0&&Bj l s.1 [44] with
  | false=>rw[hc] at h0;exact⟨h0,h h0⟩
  | true =>
   rw[hc,Af] at h0
   rw[Af]
   rw[Ah,beq_iff_eq] at hc
   refine⟨hc.1,(A44 K _ _ (fun e v hv=>?_) h0).2⟩
   rcases List.mem_append.1 hv with hv | hv
   ·exact h hc.1 v hv
   ·obtain⟨_,b2,b3⟩:=A1g e
    rw[List.mem_singleton.1 hv,b3];exact Td b2
theorem A60 {l:List Tk}:∀ (K:Nat) (s:Ps) (acc:List (List UInt8)),acc.length≤s.1→(Dw l K s acc).1.length≤(Dw l K s acc).2.1
 | 0,s,acc,h=>h
 | K+1,s,acc,h=>by
  rw[Dw]
  cases hc:s.2.1==0&&Bj l s.1 [44] with
  | false=>exact h
  | true =>
   have b1:=Ni (l:=l) (s:=(s.1+1,s.2))
   dsimp only at b1
   exact A60 K _ _ (by rw[List.length_append];simp;omega)
theorem Adg {T:Nat} {l:List Tk} (hk:Toks T l) {s:Ps} (h:(G1 l s).2.2.1=0):s.2.1=0∧∀ v ∈ (G1 l s).1,Cp v=true:=by
 unfold G1 at h ⊢
 cases hc:C9 [114,101,103] l s with
 | false=>rw[hc] at h;exact⟨h,fun v hv=>(by cases hv)⟩
 | true =>
  rw[hc,Af] at h
  refine⟨(Je hc).2,(A44 _ _ _ (fun e v hv=>?_) (Sa h)).2⟩
  obtain⟨_,b2,b3⟩:=A1g e
  rw[List.mem_singleton.1 hv,b3];exact Td b2
theorem Acf {T:Nat} {l:List Tk} (hk:Toks T l) {s:Ps}:(G1 l s).1.length≤l.length+1:=by
 unfold G1
 cases hc:C9 [114,101,103] l s with
 | false=>simp
 | true =>
  obtain⟨h1,h2⟩:=Je hc
  have a1:Cb l (nmF l (s.1+1,s.2)).2:=Ng h1
  have b1:=Ni (l:=l) (s:=(s.1+1,s.2))
  dsimp only at b1
  obtain⟨r2,_⟩:=A2v (l.length+2) (nmF l (s.1+1,s.2)).2 [(nmF l (s.1+1,s.2)).1] a1
  have:=A60 (l:=l) (l.length+2) (nmF l (s.1+1,s.2)).2 [(nmF l (s.1+1,s.2)).1] (by simp;omega)
  unfold Cb at r2
  show(Dw l (l.length+2) (nmF l (s.1+1,s.2)).2 [(nmF l (s.1+1,s.2)).1]).1.length≤l.length+1
  omega
theorem Ac6 {B T:Nat} {l:List Tk} (hl:TokB B T l) {s:Ps} (hs:Cb l s) (h:(Jl l s).2.2.1=0):s.2.1=0∧No (Jl l s).1=true∧∀ x ∈ (Jl l s).1,A66 B x:=by
 unfold Jl at h ⊢
 cases hc:s.2.1==0 with
 | false =>
  rw[hc,An] at h
  rw[beq_eq_false_iff_ne] at hc
  exact absurd (Sa h) hc
 | true =>
  rw[hc,Af] at h
  rw[beq_iff_eq] at hc
  rw[Af]
  refine⟨hc,?_,(Aob hl hs).1⟩
  rcases A08 hl.toks hs with ⟨g,_⟩ | ⟨_,_,_,_,g,_⟩
  ·exact absurd (Sa h) (Xf g)
  ·exact g
theorem Aew {B T:Nat} {l:List Tk} (hl:TokB B T l) {s:Ps} (h1:s.1 < l.length) (h:(Jv l s).2.2.1=0):Nf (Jv l s).1=true∧Acx B (Jv l s).1:=by
 have a1:Cb l (nmF l (s.1+1,s.2)).2:=Ng h1
 have a2:=Kt (w:=[123]) a1
 obtain⟨a3,_⟩:=A0v hl.toks a2
 unfold Jv at h ⊢
 dsimp only at h ⊢
 obtain⟨b1,b2,b3⟩:=Ac6 hl a3 h
 obtain⟨c1,c2⟩:=Adg hl.toks b1
 obtain⟨_,d2,d3⟩:=A1g (Sa c1)
 refine⟨?_,⟨Vq hl _,b3⟩⟩
 simp only[Nf,Ah,List.all_eq_true]
 exact⟨by rw[d3];exact Td d2,A6o (Vq hl _),b2,c2⟩
theorem A48 {B T:Nat} {l:List Tk} (hl:TokB B T l):∀ (K:Nat) (s:Ps) (acc:List Th),(s.2.1=0→∀ v ∈ acc,Nf v=true∧Acx B v)→(∀ v ∈ acc,v.Bh.length≤l.length+1)→(Gs l K s acc).2.2.1=0→s.2.1=0∧(∀ v ∈ (Gs l K s acc).1,Nf v=true∧Acx B v)∧∀ v ∈ (Gs l K s acc).1,v.Bh.length≤l.length+1
 | 0,s,acc,h,hr,h0=>⟨h0,h h0,hr⟩
 | K+1,s,acc,h,hr,h0=>by
  rw[Gs] at h0 ⊢
  cases hc:C9 [116,104,114,101,97,100] l s with
  | false=>rw[hc] at h0;exact⟨h0,h h0,hr⟩
  | true =>
   rw[hc,Af] at h0
   rw[Af]
   obtain⟨h1,hs⟩:=Je hc
   refine⟨hs,(A48 hl K _ _ (fun e v hv=>?_) (fun v hv=>?_) h0).2⟩
   ·rcases List.mem_append.1 hv with hv | hv
    ·exact h hs v hv
    ·rw[List.mem_singleton.1 hv];exact Aew hl h1 e
   ·rcases List.mem_append.1 hv with hv | hv
    ·exact hr v hv
    ·rw[List.mem_singleton.1 hv];exact Acf hl.toks
theorem A19 (x:Nd):Dl (H5 x).B3=Dl x.B3:=by
 unfold H5;split
 ·rename_i h;rw[h];show Dl 3=Dl 2;decide
 ·rfl
theorem Adf:∀ (l:List Nd) (w:Nat),H6 (l.map H5) w=H6 l w
 | [],w=>rfl
 | x :: l,w=>by rw[List.map_cons,H6,H6,Adf l,A19]
theorem A6b:∀ (l:List Nd) (s:Int×List Int),Ff (l.map H5) s=Ff l s
 | [],s=>rfl
 | x :: l,(m,R)=>by rw[List.map_cons,Ff,Ff,A6b l,A6b l,A19]
theorem Afb {x:Nd} (h:E2 x=true):E2 (H5 x)=true:=by
 unfold H5
 by_cases c:x.B3=2
 ·rw[if_pos c]
  simp only[E2,c] at h ⊢
  exact h
 ·rw[if_neg c];exact h
theorem Af1 {l:List Nd} (h:Ep l=true):Ep (l.map H5)=true:=by
 simp only[Ep,Ah,Au,Adf,A6b] at h ⊢
 refine⟨h.1,h.2.1,?_,h.2.2.2⟩
 rw[List.all_eq_true] at h ⊢
 intro x hx
 obtain⟨y,hy,rfl⟩:=List.mem_map.1 hx
 exact Afb (h.2.2.1 y hy)
theorem Au0 (l:List Nd):clB (l.map H5)=true:=by
 unfold clB
 rw[List.all_eq_true]
 intro x hx
 obtain⟨hx,_⟩:=List.mem_filter.1 hx
 obtain⟨y,_,rfl⟩:=List.mem_map.1 hx
 unfold H5
 split
 ·rfl
 ·rename_i c;rw[Ca.2 c];rfl
theorem Aj5 {B T:Nat} {l:List Tk} (hl:TokB B T l) {k:Int} (hk:1≤k∧k≤3) {s:Ps} (h1:s.1 < l.length) (h:(clF k l s).2.2.1=0):P6 (clF k l s).1=true∧V4 B (clF k l s).1.Ab∧∀ x ∈ (clF k l s).1.Bm,Ox B x:=by
 unfold clF at h ⊢
 dsimp only at h ⊢
 refine⟨?_,Vq hl _,fun x hx=>?_⟩
 ·simp only[P6,Ah]
  refine⟨Au0 _,decide_eq_true hk,?_,A6o (Vq hl _)⟩
  rcases V8 hl.toks (show s.1+1≤l.length from h1) with ⟨g,_⟩ | ⟨_,_,_,_,_,g⟩
  ·exact absurd (Sa h) (Xf g)
  ·exact Af1 g
 ·obtain⟨y,hy,rfl⟩:=List.mem_map.1 hx
  have:=(An9 hl (show s.1+1≤l.length from h1)).1 y hy
  unfold H5;split<;>exact this
theorem A6u {B T:Nat} {l:List Tk} (hl:TokB B T l):∀ (K:Nat) (s:Ps) (acc:List Cl),(s.2.1=0→∀ v ∈ acc,P6 v=true∧V4 B v.Ab∧∀ x ∈ v.Bm,Ox B x)→(Ia l K s acc).2.2.1=0→s.2.1=0∧∀ v ∈ (Ia l K s acc).1,P6 v=true∧V4 B v.Ab∧∀ x ∈ v.Bm,Ox B x
 | 0,s,acc,h,h0=>⟨h0,h h0⟩
 | K+1,s,acc,h,h0=>by
  rw[Ia] at h0 ⊢
  by_cases hc:0 < Hb l s
  ·rw[A6 hc] at h0 ⊢
   obtain⟨h1,hs,hk⟩:=A0o hc
   refine⟨hs,(A6u hl K _ _ (fun e v hv=>?_) h0).2⟩
   rcases List.mem_append.1 hv with hv | hv
   ·exact h hs v hv
   ·rw[List.mem_singleton.1 hv];exact Aj5 hl (by omega) h1 e
  ·rw[Aq hc] at h0 ⊢
   exact⟨h0,h h0⟩
theorem Afg {l:List Tk} {s:Ps} (h:(Oh l s).2.1=0):s.2.1=0:=by
 unfold Oh at h
 cases hc:decide (s.1 < l.length) with
 | true=>rw[hc] at h;exact absurd h (A74 l s)
 | false=>rw[hc] at h;exact h
theorem Aa5 {T:Nat} {l:List Tk} (hk:Toks T l) (h:(Li l).2.2.1=0):A1p (Li l).1=true:=by
 unfold Li at h ⊢
 dsimp only at h ⊢
 obtain⟨_,_,a3⟩:=Abz (Sa h)
 rw[a3];exact A9b hk _
theorem Aw9 {B T:Nat} {l:List Tk} (hl:TokB B T l) (hlen:l.length≤3500):(T4 l).2.1≠0∧(T4 l).1=noP∨(T4 l).2=(0,0)∧Lh (T4 l).1=true∧Ux (T4 l).1∧B1n B (T4 l).1:=by
 have hk:=hl.toks
 have p0:=Azr l
 obtain⟨p1,q1⟩:=A5v (l.length+2) (Li l).2 [] p0 (Nat.zero_le _)
 obtain⟨p2,q2⟩:=Anr hk (l.length+2) _ [] p1
 obtain⟨p3,q3⟩:=Ar9 hk (l.length+2) _ [] p2
 have b2:=Og (l:=l) (s:=(Fh l (l.length+2) (Li l).2 []).2)
 have b3:=Og (l:=l) (s:=(Gs l (l.length+2) (Fh l (l.length+2) (Li l).2 []).2 []).2)
 rw[List.length_nil] at q2 q3
 unfold Cb at p1
 unfold T4
 dsimp only
 cases he:(Oh l (Ia l (l.length+2) (Gs l (l.length+2) (Fh l (l.length+2) (Li l).2 []).2 []).2 []).2).2.1 != 0 with
 | true=>rw[bne_iff_ne] at he;exact .inl ⟨he,rfl⟩
 | false =>
  rw[An]
  rw[bne_eq_false_iff_eq] at he
  obtain⟨c1,c2⟩:=A6u hl _ _ [] (fun _ v hv=>(by cases hv)) (Afg he)
  obtain⟨t1,t2,t3⟩:=A48 hl _ _ [] (fun _ v hv=>(by cases hv)) (fun v hv=>(by cases hv)) c1
  obtain⟨v1,v2⟩:=A4g hl _ _ [] (fun _ v hv=>(by cases hv)) t1
  have hr:Lh (⟨(Li l).1,(Fh l (l.length+2) (Li l).2 []).1,(Gs l (l.length+2) (Fh l (l.length+2) (Li l).2 []).2 []).1,(Ia l (l.length+2) (Gs l (l.length+2) (Fh l (l.length+2) (Li l).2 []).2 []).2 []).1⟩:Pg)=true:=by
   simp only[Lh,Ah,List.all_eq_true]
   exact⟨Aa5 hk v1,fun v hv=>(v2 v hv).1,fun v hv=>(t2 v hv).1,fun v hv=>(c2 v hv).1⟩
  exact .inr ⟨rfl,hr,A8f hr (by dsimp only;omega) (by dsimp only;omega) (by dsimp only;omega) (fun t ht=>by have:=t3 t ht;omega),⟨fun v hv=>(v2 v hv).2,fun v hv=>(t2 v hv).2,fun v hv=>(c2 v hv).2⟩⟩
theorem Aiu (s:List UInt8) (hs:s.length≤90000):TokB s.length s.length (Qx s):=⟨A2e s hs,by omega,(Wb s).1⟩
theorem Aqg {s:List UInt8} (hs:s.length≤3400):(Qb s).2.1≠0∧(Qb s).1=noP∨(Qb s).2=(0,0)∧Lh (Qb s).1=true∧Ux (Qb s).1∧B1n s.length (Qb s).1:=by
 have h2:=(Wb s).2
 unfold Qb
 cases herr:(Hr s).err != 0 with
 | true=>rw[bne_iff_ne] at herr;exact .inl ⟨herr,rfl⟩
 | false=>exact Aw9 (Aiu s (by omega)) (by omega)
theorem Ayl:Ux noP:=⟨by decide,by decide,by decide,fun v hv=>(by cases hv),fun v hv=>(by cases hv),fun v hv=>(by cases hv)⟩
set_option maxRecDepth 100000
theorem Yp {l:List Nd} (h:Hn l=true):l.length≤250:=by
 simp only[Hn,Ah,C1] at h;exact h.1
theorem Af9 {p:Pg} (h:Ux p):Abc p:=by
 refine⟨h.locs,h.threads,h.claims,fun t ht=>?_,fun c hc=>?_⟩
 ·have b:=h.thr t ht
  refine⟨b.regs,by have:=b.body;omega,fun x hx=>?_⟩
  obtain⟨_,_,l1,l2⟩:=b.st x hx
  have:=Yp l1
  have:=Yp l2
  exact⟨by omega,by omega⟩
 ·have:=Yp (h.cl c hc);omega
theorem Aov (k4:Ir 500000=some true) (s:List UInt8):S9 500001 s=some true:=by
 rw[S9]
 by_cases c:3000 < ((s.length:Nat):Int)
 ·rw[A6 c,k4];rfl
 ·have hb:Ux (Qb s).1:=by
   rcases Aqg (s:=s) (by omega) with ⟨_,h⟩ | ⟨_,_,h,_⟩
   ·rw[h];exact Ayl
   ·exact h
  rw[Aq c,Aj8 (s:=s) (by omega) (by omega),A1,B1e (T:=0) (s:=s) (by omega) (by omega),A1,Ak8 500000 true _ _ (Ava true _) (Af9 hb) (by omega),A1,Af,beq_self_eq_true,beq_self_eq_true,k4];rfl
theorem Akg:Ir 500000=some true:=by decide +kernel
theorem Anv (s:List UInt8):S9 500001 s=some true:=Aov Akg s
set_option maxHeartbeats 4000000
theorem Ya {n:Nat} ⦃Dm:Int⦄ ⦃r:Int⦄:Jk n Dm=some r→CN n 106 [iA Dm] []=some (iA r,[]):=by
 intro h;rcases n with _|n;cases h
 rw[Jk] at h
 refine Ai Tryz.func106 (by rfl) rfl rfl (Ap rfl) ?_
 intro call hc;conv=>lhs;whnf
 revert h
 refine br ?_ ?_
 refine br ?_ ?_
 exact rz
 refine br ?_ ?_
 exact rz
 refine br ?_ ?_
 refine br ?_ ?_
 exact rz
 exact rz
 exact rz
 refine br ?_ ?_
 exact rz
 refine br ?_ ?_
 refine br ?_ ?_
 exact rz
 exact rz
 exact rz
theorem A8l {n:Nat} ⦃Aa:(List A2)⦄ ⦃Bb:Int⦄ ⦃r:Int⦄:Qr n Aa Bb=some r→CN n 93 [AV.sl 5 (List.map A3 Aa),iA Bb] []=some (iA r,[]):=by
 intro h;rcases n with _|n;cases h
 rw[Qr] at h
 refine Ai Tryz.func93 (by rfl) rfl rfl (Ap rfl) ?_
 intro call hc;conv=>lhs;whnf
 revert h
 refine br ?_ ?_
 exact rz
 intro h;refine As h ?_;clear h;intro o11 ho11 h
 refine lq (σ:=(Int×Int)) (τ:=Unit) (ν:=Int) 0 (fun(s2,s3) a5=>B9 31 [(0,AV.sl 5 (List.map A3 Aa)),(1,iA s2),(5,iA s3)]) (fun(s2,s3) a5=>[]) (fun _ a18=>B9 31 []) (fun _ a18=>[]) (fun v=>(iA v,[])) (fun k s=>He n Aa k s.1 s.2) (fun s=>rfl) o11 n (Bb,1) (fun _=>0) ho11 ?_ ?_
 intro k4 ss a5 K6 cont7 hK8 hcont9 h hr10
 obtain⟨s2,s3⟩:=ss
 replace h:He n Aa (k4+1) s2 s3=some o11:=h
 rw[He] at h
 conv=>lhs;whnf
 revert h
 refine br ?_ ?_
 refine ix ?_;intro x13
 refine ca hc (fun _ h=>Ya h) ?_;intro y14
 refine br ?_ ?_
 intro h;cases sj h
 refine(hK8 _ _).trans ?_
 refine Eq.trans ?_ (Eq.symm (show _=some _ from hr10))
 conv=>lhs;whnf
 exact rq
 refine br ?_ ?_
 intro h;cases sj h
 refine(hK8 _ _).trans ?_
 refine Eq.trans ?_ (Eq.symm (show _=some _ from hr10))
 conv=>lhs;whnf
 exact rq
 exact fun h=>cq (hcont9 (IntKind.i64.wrap (s2+1),IntKind.i64.wrap (s3+(IntKind.i64.wrap (y14 - 1)))) (fun _=>0) h)
 intro h;cases sj h
 exact kq (hr10 (fun _=>0))
 refine lrc ?_ ?_
 intro v e;subst e;cases sj h;rfl
 intro t a18 e;subst e
 dsimp only at h
 conv=>lhs;whnf
 revert h
 exact rz
theorem Xd {n:Nat} ⦃Aa:(List A2)⦄ ⦃r:(List A2)⦄:Lq n Aa=some r→CN n 74 [AV.sl 5 (List.map A3 Aa)] []=some (AV.sl 5 (List.map A3 r),[]):=by
 intro h;rcases n with _|n;cases h
 rw[Lq] at h
 refine Ai Tryz.func74 (by rfl) rfl rfl (Ap rfl) ?_
 intro call hc;conv=>lhs;whnf
 revert h
 intro h;refine As h ?_;clear h;intro o10 ho10 h
 refine lq (σ:=(Int×(List A2))) (τ:=(List A2)) (ν:=(List A2)) 0 (fun(s1,s2) a4=>B9 24 [(3,AV.row 0 (List.length s2)),(6,AV.sl 5 (List.map A3 Aa)),(7,iA (((Aa.length:Nat):Int))),(8,iA s1)]) (fun(s1,s2) a4=>[Ob.row 47 5 (List.map A3 s2)]) (fun x23 a22=>B9 24 [(3,AV.row 0 (List.length x23))]) (fun x23 a22=>[Ob.row 47 5 (List.map A3 x23)]) (fun v=>(AV.sl 5 (List.map A3 v),[])) (fun k s=>Ek n Aa k s.1 s.2) (fun s=>rfl) o10 n (0,([]:List A2)) (fun _=>0) ho10 ?_ ?_
 intro k3 ss a4 K5 cont6 hK7 hcont8 h hr9
 obtain⟨s1,s2⟩:=ss
 replace h:Ek n Aa (k3+1) s1 s2=some o10:=h
 rw[Ek] at h
 conv=>lhs;whnf
 revert h
 refine br ?_ ?_
 refine ix ?_;intro x12
 refine br ?_ ?_
 refine ar (ap A3 (List.map A3 s2) s2 ([[iA x12.B3,iA x12.Bs,sA x12.Ao,sA x12.Cq,iA x12.Ab]]) ([x12]:List A2)) ?_
 exact fun h=>cq (hcont8 (IntKind.i64.wrap (s1+1),(s2++([x12]:List A2))) (fun _=>0) h)
 refine br ?_ ?_
 refine ar (ap A3 (List.map A3 s2) s2 ([[iA x12.B3,iA x12.Bs,sA x12.Ao,sA x12.Cq,iA x12.Ab]]) ([x12]:List A2)) ?_
 exact fun h=>cq (hcont8 (IntKind.i64.wrap (s1+1),(s2++([x12]:List A2))) (fun _=>0) h)
 refine br ?_ ?_
 refine ar (ap A3 (List.map A3 s2) s2 ([[iA x12.B3,iA x12.Bs,sA x12.Ao,sA x12.Cq,iA x12.Ab]]) ([x12]:List A2)) ?_
 exact fun h=>cq (hcont8 (IntKind.i64.wrap (s1+1),(s2++([x12]:List A2))) (fun _=>0) h)
 exact fun h=>cq (hcont8 (IntKind.i64.wrap (s1+1),s2) (fun _=>0) h)
 intro h;cases sj h
 exact kq (hr9 (fun _=>0))
 refine lrc ?_ ?_
 intro v e;subst e;cases sj h;rfl
 intro x23 a22 e;subst e
 dsimp only at h
 conv=>lhs;whnf
 revert h
 intro h;obtain rfl:=sj h
 try simp only[ls]
 exact fq (y:=some (AV.sl 5 (List.take (List.length x23) (List.map A3 x23)),[]))
theorem X8 {n:Nat} ⦃Aa:(List A2)⦄ ⦃r:Int⦄:Lz n Aa=some r→CN n 82 [AV.sl 5 (List.map A3 Aa)] []=some (iA r,[]):=by
 intro h;rcases n with _|n;cases h
 rw[Lz] at h
 refine Ai Tryz.func82 (by rfl) rfl rfl (Ap rfl) ?_
 intro call hc;conv=>lhs;whnf
 revert h
 intro h;refine As h ?_;clear h;intro o11 ho11 h
 refine lq (σ:=(Int×Int×(List Int))) (τ:=(Int×(List Int))) (ν:=Int) 0 (fun(s1,s2,s3) a5=>B9 50 [(3,AV.stk 0 (a5 0) (List.length s3)),(4,iA s1),(9,AV.sl 5 (List.map A3 Aa)),(10,iA (((Aa.length:Nat):Int))),(11,iA s2)]) (fun(s1,s2,s3) a5=>[Ob.stk (a5 0) 3 1 (List.map Dy s3)]) (fun(x41,x42) a40=>B9 50 [(4,iA x41)]) (fun(x41,x42) a40=>[Ob.stk (a40 0) 3 1 (List.map Dy x42)]) (fun v=>(iA v,[])) (fun k s=>Fu n Aa k s.1 s.2.1 s.2.2) (fun s=>rfl) o11 n (0,0,([]:List Int)) (fun j=>(bif Nat.beq j 0 then 0 else 0)) ho11 ?_ ?_
 intro k4 ss a5 K6 cont7 hK8 hcont9 h hr10
 obtain⟨s1,s2,s3⟩:=ss
 replace h:Fu n Aa (k4+1) s1 s2 s3=some o11:=h
 rw[Fu] at h
 conv=>lhs;whnf
 revert h
 refine br ?_ ?_
 refine ix ?_;intro x13
 refine ca hc (fun _ h=>Ya h) ?_;intro y14
 refine br ?_ ?_
 intro h
 refine B6 h ?_;clear h;intro hc19 h
 try simp only[Em]
 conv=>lhs;whnf
 first|refine B4 (Lu hc19 (by first|rfl|simp only [Au]) (by first|rfl|simp only [Au]) (by first|rfl|simp only [Au,C0]) (by kernel_rfl)) ?_|refine B4 (Jq hc19 (by first|rfl|simp only [Au]) (by first|rfl|simp only [Au,C0]) (by kernel_rfl)) ?_
 try simp only[lt]
 have hp17:(List.map Dy s3:List (List AV))++[[iA y14]]=List.map Dy (s3++([y14]:List Int)):=by first|rfl|(rw[List.map_append];rfl)|(rw[List.map_append];done)|(simp only[List.map_append,List.map_cons,List.map_nil,List.nil_append,Dy]<;>rfl)
 have hl18:List.length (List.map Dy s3:List (List AV))+List.length ([[iA y14]]:List (List AV))=List.length (s3++([y14]:List Int)):=by simp only[Au,List.length_append]<;>rfl
 have hl18_b:List.length s3+List.length ([[iA y14]]:List (List AV))=List.length (s3++([y14]:List Int)):=by simp only[Au,List.length_append]<;>rfl
 have hl18_c:List.length s3+List.length ([y14]:List Int)=List.length (s3++([y14]:List Int)):=by simp only[Au,List.length_append]<;>rfl
 first|simp only [hp17,hl18]|(simp only[Au,C0];simp only[hp17,hl18_b,hl18_c])
 try simp only[ls]
 conv=>lhs;whnf
 revert h
 exact fun h=>cq (hcont9 ((if s1<((s3.length:Nat):Int) then((s3.length:Nat):Int) else s1),IntKind.i64.wrap (s2+1),(s3++([y14]:List Int))) (fun j=>(bif Nat.beq j 0 then((a5 0)+1) else 0)) h)
 intro h;refine As h ?_;clear h;intro o28 ho28 h
 refine lq (σ:=(List Int)) (τ:=(List Int)) (ν:=Int) 2 (fun s20 a22=>B9 50 [(3,AV.stk 0 (a22 0) (List.length s20)),(4,iA ((if s1<((s3.length:Nat):Int) then((s3.length:Nat):Int) else s1))),(9,AV.sl 5 (List.map A3 Aa)),(10,iA (((Aa.length:Nat):Int))),(11,iA s2)]) (fun s20 a22=>[Ob.stk (a22 0) 3 1 (List.map Dy s20),Ob.var 47 [iA x13.B3,iA x13.Bs,sA x13.Ao,sA x13.Cq,iA x13.Ab]]) (fun x38 a37=>B9 50 [(3,AV.stk 0 (a37 0) (List.length x38)),(4,iA ((if s1<((s3.length:Nat):Int) then((s3.length:Nat):Int) else s1))),(9,AV.sl 5 (List.map A3 Aa)),(10,iA (((Aa.length:Nat):Int))),(11,iA s2)]) (fun x38 a37=>[Ob.stk (a37 0) 3 1 (List.map Dy x38),Ob.var 47 [iA x13.B3,iA x13.Bs,sA x13.Ao,sA x13.Cq,iA x13.Ab]]) (fun v=>(iA v,[])) (fun k s=>Ht n k s) (fun s=>rfl) o28 n s3 (fun j=>(bif Nat.beq j 0 then(a5 0) else 0)) ho28 ?_ ?_
 intro k21 s20 a22 K23 cont24 hK25 hcont26 h hr27
 replace h:Ht n (k21+1) s20=some o28:=h
 rw[Ht] at h
 conv=>lhs;whnf
 revert h
 refine br ?_ ?_
 intro h
 refine As h ?_;clear h;intro x30 hx30 h
 try simp only[Em]
 conv=>lhs;whnf
 try simp only[ls]
 refine B4 (by first|exact Ga hx30|exact Pd hx30|exact Ss hx30|exact Hw hx30|(have q:=Ga hx30;simp only[List.length_set] at q;exact q)|(have q:=Hw hx30;simp only[List.length_set,Nat.zero_add] at q ⊢;exact q)) ?_
 conv=>lhs;whnf
 try simp only[Ik (f:=Dy) hx30,Em,ls]
 conv=>lhs;whnf
 revert h
 intro h
 refine As h ?_;clear h;intro x31 hx31 h
 try simp only[Em]
 conv=>lhs;whnf
 try simp only[ls]
 refine B4 (by first|exact Ga hx31|exact Pd hx31|exact Ss hx31|exact Hw hx31|(have q:=Ga hx31;simp only[List.length_set] at q;exact q)|(have q:=Hw hx31;simp only[List.length_set,Nat.zero_add] at q ⊢;exact q)) ?_
 conv=>lhs;whnf
 try simp only[Ik (f:=Dy) hx31,Em,ls]
 conv=>lhs;whnf
 revert h
 intro h
 have hs32:E8 (List.map Dy s20) (IntKind.i64.wrap (((s20.length:Nat):Int) - 1)).toNat [iA (IntKind.i64.wrap (x30 - 1))]=List.map Dy (List.set s20 (IntKind.i64.wrap (((s20.length:Nat):Int) - 1)).toNat (IntKind.i64.wrap (x30 - 1))):=by rw[D2,List.map_set];rfl
 have hs32_u:E8 (List.map Dy s20) (IntKind.i64.wrap (((s20.length:Nat):Int) - 1)).toNat (S4 (Dy x31) 0 [iA (IntKind.i64.wrap (x30 - 1))])=List.map Dy (List.set s20 (IntKind.i64.wrap (((s20.length:Nat):Int) - 1)).toNat (IntKind.i64.wrap (x30 - 1))):=by rw[D2,List.map_set];rfl
 try simp only[Ik (f:=Dy) hx31,Em]
 conv=>lhs;whnf
 try simp only[hs32,hs32_u,Em]
 conv=>lhs;whnf
 revert h
 intro h
 refine As h ?_;clear h;intro x33 hx33 h
 try simp only[Em]
 conv=>lhs;whnf
 try simp only[ls]
 refine B4 (by first|exact Ga hx33|exact Pd hx33|exact Ss hx33|exact Hw hx33|(have q:=Ga hx33;simp only[List.length_set] at q;exact q)|(have q:=Hw hx33;simp only[List.length_set,Nat.zero_add] at q ⊢;exact q)) ?_
 conv=>lhs;whnf
 try simp only[Ik (f:=Dy) hx33,Em,ls]
 conv=>lhs;whnf
 revert h
 refine br ?_ ?_
 intro h;cases sj h
 exact kq (hr27 (fun j=>(bif Nat.beq j 0 then(a22 0) else 0)))
 intro h
 refine B6 h ?_;clear h;intro hc36 h
 try simp only[Em]
 conv=>lhs;whnf
 try simp only[ls]
 first|refine B4 hc36 ?_|(refine B4 (by have q:=hc36;simp only[List.length_set] at q;exact q) ?_)
 have hs35:List.take ((IntKind.i64.wrap (((s20.length:Nat):Int) - 1)).toNat) (List.map Dy (List.set s20 (IntKind.i64.wrap (((s20.length:Nat):Int) - 1)).toNat (IntKind.i64.wrap (x30 - 1))))=List.map Dy (List.take ((IntKind.i64.wrap (((s20.length:Nat):Int) - 1)).toNat) (List.set s20 (IntKind.i64.wrap (((s20.length:Nat):Int) - 1)).toNat (IntKind.i64.wrap (x30 - 1)))):=by rw[List.map_take]
 have hs35_l:List.length (List.take ((IntKind.i64.wrap (((s20.length:Nat):Int) - 1)).toNat) (List.set s20 (IntKind.i64.wrap (((s20.length:Nat):Int) - 1)).toNat (IntKind.i64.wrap (x30 - 1))))=(IntKind.i64.wrap (((s20.length:Nat):Int) - 1)).toNat:=by simp only[List.length_take];exact Nat.min_eq_left (Awf hc36)
 conv=>lhs;whnf
 try simp only[Em,hs35]
 conv=>lhs;whnf
 try simp only[hs35]
 have hs35_s:∀ q,AV.stk 0 q ((IntKind.i64.wrap (((s20.length:Nat):Int) - 1)).toNat)=AV.stk 0 q (List.length (List.take ((IntKind.i64.wrap (((s20.length:Nat):Int) - 1)).toNat) (List.set s20 (IntKind.i64.wrap (((s20.length:Nat):Int) - 1)).toNat (IntKind.i64.wrap (x30 - 1))))):=fun q=>by rw[hs35_l]
 try simp only[hs35_s]
 conv=>lhs;whnf
 revert h
 exact fun h=>cq (hcont26 (List.take ((IntKind.i64.wrap (((s20.length:Nat):Int) - 1)).toNat) (List.set s20 (IntKind.i64.wrap (((s20.length:Nat):Int) - 1)).toNat (IntKind.i64.wrap (x30 - 1)))) (fun j=>(bif Nat.beq j 0 then((a22 0)+1) else 0)) h)
 intro h;cases sj h
 exact kq (hr27 (fun j=>(bif Nat.beq j 0 then(a22 0) else 0)))
 refine lrc ?_ ?_
 intro v e;subst e;cases sj h;exact hr10
 intro x38 a37 e;subst e
 dsimp only at h
 conv=>lhs;whnf
 revert h
 exact fun h=>cq (hcont9 ((if s1<((s3.length:Nat):Int) then((s3.length:Nat):Int) else s1),IntKind.i64.wrap (s2+1),x38) (fun j=>(bif Nat.beq j 0 then(a37 0) else 0)) h)
 intro h;cases sj h
 exact kq (hr10 (fun j=>(bif Nat.beq j 0 then(a5 0) else 0)))
 refine lrc ?_ ?_
 intro v e;subst e;cases sj h;rfl
 intro t a40 e;subst e
 obtain⟨x41,x42⟩:=t
 dsimp only at h
 conv=>lhs;whnf
 revert h
 exact rz
theorem Ft {n:Nat} ⦃B1:A2⦄ ⦃Ks:(List (List A2))⦄ ⦃r:(List A2)⦄:Cw n B1 Ks=some r→CN n 128 [AV.agg [iA B1.B3,iA B1.Bs,sA B1.Ao,sA B1.Cq,iA B1.Ab],AV.sl 1 (List.map Ue Ks)] []=some (AV.sl 5 (List.map A3 r),[]):=by
 intro h;rcases n with _|n;cases h
 rw[Cw] at h
 refine Ai Tryz.func128 (by rfl) rfl rfl (Ap rfl) ?_
 intro call hc;conv=>lhs;whnf
 revert h
 intro h;refine As h ?_;clear h;intro o10 ho10 h
 refine lq (σ:=(Int×(List A2))) (τ:=(List A2)) (ν:=(List A2)) 0 (fun(s1,s2) a4=>B9 21 [(5,AV.row 1 (List.length s2)),(10,AV.sl 1 (List.map Ue Ks)),(11,iA (((Ks.length:Nat):Int))),(12,iA s1)]) (fun(s1,s2) a4=>[Ob.var 47 [iA B1.B3,iA B1.Bs,sA B1.Ao,sA B1.Cq,iA B1.Ab],Ob.row 47 5 (List.map A3 s2)]) (fun x16 a15=>B9 21 [(5,AV.row 1 (List.length x16))]) (fun x16 a15=>[Ob.var 47 [iA B1.B3,iA B1.Bs,sA B1.Ao,sA B1.Cq,iA B1.Ab],Ob.row 47 5 (List.map A3 x16)]) (fun v=>(AV.sl 5 (List.map A3 v),[])) (fun k s=>Fq n Ks k s.1 s.2) (fun s=>rfl) o10 n (0,([B1]:List A2)) (fun _=>0) ho10 ?_ ?_
 intro k3 ss a4 K5 cont6 hK7 hcont8 h hr9
 obtain⟨s1,s2⟩:=ss
 replace h:Fq n Ks (k3+1) s1 s2=some o10:=h
 rw[Fq] at h
 conv=>lhs;whnf
 revert h
 refine br ?_ ?_
 refine ix ?_;intro x12
 refine ar (ap A3 (List.map A3 s2) s2 (List.map A3 x12) x12) ?_
 exact fun h=>cq (hcont8 (IntKind.i64.wrap (s1+1),(s2++x12)) (fun _=>0) h)
 intro h;cases sj h
 exact kq (hr9 (fun _=>0))
 refine lrc ?_ ?_
 intro v e;subst e;cases sj h;rfl
 intro x16 a15 e;subst e
 dsimp only at h
 conv=>lhs;whnf
 revert h
 intro h;obtain rfl:=sj h
 try simp only[ls]
 exact fq (y:=some (AV.sl 5 (List.take (List.length x16) (List.map A3 x16)),[]))
theorem Dx {n:Nat} ⦃Kp:(List UInt8)⦄ ⦃p_l:(List A5)⦄ ⦃p_i:Int⦄ ⦃p_in:Int⦄ ⦃p_e:Int⦄ ⦃p_at:Int⦄ ⦃r:Bool⦄:Cs n Kp p_l p_i p_in p_e p_at=some r→CN n 127 [AV.ptr 0 0,sA Kp] [Ob.var 116 [AV.sl 4 (List.map A4 p_l),iA p_i,iA p_in,iA p_e,iA p_at]]=some (bA r,[Ob.var 116 [AV.sl 4 (List.map A4 p_l),iA p_i,iA p_in,iA p_e,iA p_at]]):=by
 intro h;rcases n with _|n;cases h
 rw[Cs] at h
 refine Ai Tryz.func127 (by rfl) rfl rfl (Ap rfl) ?_
 intro call hc;conv=>lhs;whnf
 revert h
 refine br ?_ ?_
 refine ix ?_;intro x2
 refine br ?_ ?_
 refine ix ?_;intro x4
 exact rz
 exact rz
 exact rz
theorem Fd {n:Nat} ⦃Q7:Int⦄ ⦃p_l:(List A5)⦄ ⦃p_i:Int⦄ ⦃p_in:Int⦄ ⦃p_e:Int⦄ ⦃p_at:Int⦄ ⦃r:((List A2)×Int×Int)⦄:Ce n Q7 p_l p_i p_in p_e p_at=some r→CN n 152 [AV.ptr 0 0,iA Q7] [Ob.var 116 [AV.sl 4 (List.map A4 p_l),iA p_i,iA p_in,iA p_e,iA p_at]]=some (AV.sl 5 (List.map A3 r.1),[Ob.var 116 [AV.sl 4 (List.map A4 p_l),iA p_i,iA p_in,iA r.2.1,iA r.2.2]]):=by
 intro h;rcases n with _|n;cases h
 rw[Ce] at h
 refine Ai Tryz.func152 (by rfl) rfl rfl (Ap rfl) ?_
 intro call hc;conv=>lhs;whnf
 revert h
 refine br ?_ ?_
 exact rz
 refine br ?_ ?_
 refine ix ?_;intro x3
 exact rz
 refine br ?_ ?_
 refine br ?_ ?_
 refine ix ?_;intro x6
 refine ix ?_;intro x7
 exact rz
 exact rz
 refine br ?_ ?_
 refine ix ?_;intro x9
 refine ix ?_;intro x10
 exact rz
 exact rz
theorem K2 {n:Nat} ⦃p_l:(List A5)⦄ ⦃p_i:Int⦄ ⦃p_in:Int⦄ ⦃p_e:Int⦄ ⦃p_at:Int⦄ ⦃r:((List UInt8)×Int×Bool×Int)⦄:D5 n p_l p_i p_in p_e p_at=some r→CN n 153 [AV.ptr 0 0] [Ob.var 116 [AV.sl 4 (List.map A4 p_l),iA p_i,iA p_in,iA p_e,iA p_at]]=some (AV.tup [sA r.1,iA r.2.1,bA r.2.2.1],[Ob.var 116 [AV.sl 4 (List.map A4 p_l),iA r.2.2.2,iA p_in,iA p_e,iA p_at]]):=by
 intro h;rcases n with _|n;cases h
 rw[D5] at h
 refine Ai Tryz.func153 (by rfl) rfl rfl (Ap rfl) ?_
 intro call hc;conv=>lhs;whnf
 revert h
 refine br ?_ ?_
 exact rz
 refine ix ?_;intro x2
 refine br ?_ ?_
 exact rz
 refine ix ?_;intro x4
 refine ca hc (fun _ h=>Gc h) ?_;intro y5
 refine br ?_ ?_
 refine ix ?_;intro x8
 exact rz
 exact rz
theorem Ju {n:Nat} ⦃Dm:Int⦄ ⦃r:(List UInt8)⦄:Hc n Dm=some r→CN n 101 [iA Dm] []=some (sA r,[]):=by
 intro h;rcases n with _|n;cases h
 rw[Hc] at h
 refine Ai Tryz.func101 (by rfl) rfl rfl (Ap rfl) ?_
 intro call hc;conv=>lhs;whnf
 revert h
 refine br ?_ ?_
 exact rz
 refine br ?_ ?_
 exact rz
 refine br ?_ ?_
 exact rz
 refine br ?_ ?_
 exact rz
 refine br ?_ ?_
 exact rz
 refine br ?_ ?_
 exact rz
 refine br ?_ ?_
 exact rz
 refine br ?_ ?_
 exact rz
 refine br ?_ ?_
 exact rz
 refine br ?_ ?_
 exact rz
 refine br ?_ ?_
 exact rz
 refine br ?_ ?_
 exact rz
 refine br ?_ ?_
 exact rz
 refine br ?_ ?_
 exact rz
 refine bt ?_
 exact rz
def Kw (n:Nat):Prop:=∀ ⦃p_l:(List A5)⦄ ⦃p_i:Int⦄ ⦃p_in:Int⦄ ⦃p_e:Int⦄ ⦃p_at:Int⦄ ⦃r:((List A2)×Int×Int×Int×Int)⦄,D8 n p_l p_i p_in p_e p_at=some r→CN n 81 [AV.ptr 0 0] [Ob.var 116 [AV.sl 4 (List.map A4 p_l),iA p_i,iA p_in,iA p_e,iA p_at]]=some (AV.sl 5 (List.map A3 r.1),[Ob.var 116 [AV.sl 4 (List.map A4 p_l),iA r.2.1,iA r.2.2.1,iA r.2.2.2.1,iA r.2.2.2.2]])
def N1 (n:Nat):Prop:=∀ ⦃p_l:(List A5)⦄ ⦃p_i:Int⦄ ⦃p_in:Int⦄ ⦃p_e:Int⦄ ⦃p_at:Int⦄ ⦃r:((List A2)×Int×Int×Int×Int)⦄,D6 n p_l p_i p_in p_e p_at=some r→CN n 105 [AV.ptr 0 0] [Ob.var 116 [AV.sl 4 (List.map A4 p_l),iA p_i,iA p_in,iA p_e,iA p_at]]=some (AV.sl 5 (List.map A3 r.1),[Ob.var 116 [AV.sl 4 (List.map A4 p_l),iA r.2.1,iA r.2.2.1,iA r.2.2.2.1,iA r.2.2.2.2]])
def Kn (n:Nat):Prop:=∀ ⦃p_l:(List A5)⦄ ⦃p_i:Int⦄ ⦃p_in:Int⦄ ⦃p_e:Int⦄ ⦃p_at:Int⦄ ⦃r:((List A2)×Int×Int×Int×Int)⦄,Cm n p_l p_i p_in p_e p_at=some r→CN n 129 [AV.ptr 0 0] [Ob.var 116 [AV.sl 4 (List.map A4 p_l),iA p_i,iA p_in,iA p_e,iA p_at]]=some (AV.sl 5 (List.map A3 r.1),[Ob.var 116 [AV.sl 4 (List.map A4 p_l),iA r.2.1,iA r.2.2.1,iA r.2.2.2.1,iA r.2.2.2.2]])
def M9 (n:Nat):Prop:=∀ ⦃p_l:(List A5)⦄ ⦃p_i:Int⦄ ⦃p_in:Int⦄ ⦃p_e:Int⦄ ⦃p_at:Int⦄ ⦃r:((List A2)×Int×Int×Int×Int)⦄,Eg n p_l p_i p_in p_e p_at=some r→CN n 151 [AV.ptr 0 0,AV.func 149 [] []] [Ob.var 116 [AV.sl 4 (List.map A4 p_l),iA p_i,iA p_in,iA p_e,iA p_at]]=some (AV.sl 5 (List.map A3 r.1),[Ob.var 116 [AV.sl 4 (List.map A4 p_l),iA r.2.1,iA r.2.2.1,iA r.2.2.2.1,iA r.2.2.2.2]])
def L9 (n:Nat):Prop:=∀ ⦃p_l:(List A5)⦄ ⦃p_i:Int⦄ ⦃p_in:Int⦄ ⦃p_e:Int⦄ ⦃p_at:Int⦄ ⦃r:((List A2)×Int×Int×Int×Int)⦄,Du n p_l p_i p_in p_e p_at=some r→CN n 151 [AV.ptr 0 0,AV.func 81 [] []] [Ob.var 116 [AV.sl 4 (List.map A4 p_l),iA p_i,iA p_in,iA p_e,iA p_at]]=some (AV.sl 5 (List.map A3 r.1),[Ob.var 116 [AV.sl 4 (List.map A4 p_l),iA r.2.1,iA r.2.2.1,iA r.2.2.2.1,iA r.2.2.2.2]])
def La (n:Nat):Prop:=∀ ⦃p_l:(List A5)⦄ ⦃p_i:Int⦄ ⦃p_in:Int⦄ ⦃p_e:Int⦄ ⦃p_at:Int⦄ ⦃r:((List A2)×Int×Int×Int×Int)⦄,Cr n p_l p_i p_in p_e p_at=some r→CN n 146 [AV.ptr 0 0] [Ob.var 116 [AV.sl 4 (List.map A4 p_l),iA p_i,iA p_in,iA p_e,iA p_at]]=some (AV.sl 5 (List.map A3 r.1),[Ob.var 116 [AV.sl 4 (List.map A4 p_l),iA r.2.1,iA r.2.2.1,iA r.2.2.2.1,iA r.2.2.2.2]])
def Nv (n:Nat):Prop:=∀ ⦃Cz:Bool⦄ ⦃B2:(List Int)⦄ ⦃p_l:(List A5)⦄ ⦃p_i:Int⦄ ⦃p_in:Int⦄ ⦃p_e:Int⦄ ⦃p_at:Int⦄ ⦃r:((List A2)×Int×Int×Int×Int)⦄,Lk n Cz B2 p_l p_i p_in p_e p_at=some r→CN n 104 [AV.ptr 0 0,AV.func 105 [] [],bA Cz,AV.sl 1 (List.map Dy B2)] [Ob.var 116 [AV.sl 4 (List.map A4 p_l),iA p_i,iA p_in,iA p_e,iA p_at]]=some (AV.sl 5 (List.map A3 r.1),[Ob.var 116 [AV.sl 4 (List.map A4 p_l),iA r.2.1,iA r.2.2.1,iA r.2.2.2.1,iA r.2.2.2.2]])
def M7 (n:Nat):Prop:=∀ ⦃Cz:Bool⦄ ⦃B2:(List Int)⦄ ⦃p_l:(List A5)⦄ ⦃p_i:Int⦄ ⦃p_in:Int⦄ ⦃p_e:Int⦄ ⦃p_at:Int⦄ ⦃r:((List A2)×Int×Int×Int×Int)⦄,Kc n Cz B2 p_l p_i p_in p_e p_at=some r→CN n 104 [AV.ptr 0 0,AV.func 129 [] [],bA Cz,AV.sl 1 (List.map Dy B2)] [Ob.var 116 [AV.sl 4 (List.map A4 p_l),iA p_i,iA p_in,iA p_e,iA p_at]]=some (AV.sl 5 (List.map A3 r.1),[Ob.var 116 [AV.sl 4 (List.map A4 p_l),iA r.2.1,iA r.2.2.1,iA r.2.2.2.1,iA r.2.2.2.2]])
def Mb (n:Nat):Prop:=∀ ⦃Cz:Bool⦄ ⦃B2:(List Int)⦄ ⦃p_l:(List A5)⦄ ⦃p_i:Int⦄ ⦃p_in:Int⦄ ⦃p_e:Int⦄ ⦃p_at:Int⦄ ⦃r:((List A2)×Int×Int×Int×Int)⦄,Kf n Cz B2 p_l p_i p_in p_e p_at=some r→CN n 104 [AV.ptr 0 0,AV.func 144 [] [],bA Cz,AV.sl 1 (List.map Dy B2)] [Ob.var 116 [AV.sl 4 (List.map A4 p_l),iA p_i,iA p_in,iA p_e,iA p_at]]=some (AV.sl 5 (List.map A3 r.1),[Ob.var 116 [AV.sl 4 (List.map A4 p_l),iA r.2.1,iA r.2.2.1,iA r.2.2.2.1,iA r.2.2.2.2]])
def M6 (n:Nat):Prop:=∀ ⦃Cz:Bool⦄ ⦃B2:(List Int)⦄ ⦃p_l:(List A5)⦄ ⦃p_i:Int⦄ ⦃p_in:Int⦄ ⦃p_e:Int⦄ ⦃p_at:Int⦄ ⦃r:((List A2)×Int×Int×Int×Int)⦄,Ke n Cz B2 p_l p_i p_in p_e p_at=some r→CN n 104 [AV.ptr 0 0,AV.func 146 [] [],bA Cz,AV.sl 1 (List.map Dy B2)] [Ob.var 116 [AV.sl 4 (List.map A4 p_l),iA p_i,iA p_in,iA p_e,iA p_at]]=some (AV.sl 5 (List.map A3 r.1),[Ob.var 116 [AV.sl 4 (List.map A4 p_l),iA r.2.1,iA r.2.2.1,iA r.2.2.2.1,iA r.2.2.2.2]])
def M5 (n:Nat):Prop:=∀ ⦃Cz:Bool⦄ ⦃B2:(List Int)⦄ ⦃p_l:(List A5)⦄ ⦃p_i:Int⦄ ⦃p_in:Int⦄ ⦃p_e:Int⦄ ⦃p_at:Int⦄ ⦃r:((List A2)×Int×Int×Int×Int)⦄,Kd n Cz B2 p_l p_i p_in p_e p_at=some r→CN n 104 [AV.ptr 0 0,AV.func 149 [] [],bA Cz,AV.sl 1 (List.map Dy B2)] [Ob.var 116 [AV.sl 4 (List.map A4 p_l),iA p_i,iA p_in,iA p_e,iA p_at]]=some (AV.sl 5 (List.map A3 r.1),[Ob.var 116 [AV.sl 4 (List.map A4 p_l),iA r.2.1,iA r.2.2.1,iA r.2.2.2.1,iA r.2.2.2.2]])
def Lp (n:Nat):Prop:=∀ ⦃p_l:(List A5)⦄ ⦃p_i:Int⦄ ⦃p_in:Int⦄ ⦃p_e:Int⦄ ⦃p_at:Int⦄ ⦃r:((List A2)×Int×Int×Int×Int)⦄,Bq n p_l p_i p_in p_e p_at=some r→CN n 149 [AV.ptr 0 0] [Ob.var 116 [AV.sl 4 (List.map A4 p_l),iA p_i,iA p_in,iA p_e,iA p_at]]=some (AV.sl 5 (List.map A3 r.1),[Ob.var 116 [AV.sl 4 (List.map A4 p_l),iA r.2.1,iA r.2.2.1,iA r.2.2.2.1,iA r.2.2.2.2]])
def Nl (n:Nat):Prop:=∀ ⦃p_l:(List A5)⦄ ⦃p_i:Int⦄ ⦃p_in:Int⦄ ⦃p_e:Int⦄ ⦃p_at:Int⦄ ⦃r:((List A2)×Int×Int×Int×Int)⦄,De n p_l p_i p_in p_e p_at=some r→CN n 144 [AV.ptr 0 0] [Ob.var 116 [AV.sl 4 (List.map A4 p_l),iA p_i,iA p_in,iA p_e,iA p_at]]=some (AV.sl 5 (List.map A3 r.1),[Ob.var 116 [AV.sl 4 (List.map A4 p_l),iA r.2.1,iA r.2.2.1,iA r.2.2.2.1,iA r.2.2.2.2]])
def Ct (n:Nat):Prop:=Kw n∧N1 n∧Kn n∧M9 n∧L9 n∧La n∧Nv n∧M7 n∧Mb n∧M6 n∧M5 n∧Lp n∧Nl n
theorem Ym (n:Nat) (ih:Ct n):Kw (n+1):=by
 intro p_l p_i p_in p_e p_at r h
 rw[D8] at h
 refine Ai Tryz.func81 (by rfl) rfl rfl (Ap rfl) ?_
 intro call hc;conv=>lhs;whnf
 revert h
 refine cr hc (fun y1 h=>(show CN n 104 [AV.ptr 0 0,AV.func 105 [] [],bA false,AV.sl 1 [[iA (14)]]] [Ob.var 116 [AV.sl 4 (List.map A4 p_l),iA p_i,iA p_in,iA p_e,iA p_at]]=some (AV.sl 5 (List.map A3 y1.1),[Ob.var 116 [AV.sl 4 (List.map A4 p_l),iA y1.2.1,iA y1.2.2.1,iA y1.2.2.2.1,iA y1.2.2.2.2]]) from ih.2.2.2.2.2.2.1 (r:=y1) h)) ?_;intro y1
 exact rz
theorem Xq (n:Nat) (ih:Ct n):N1 (n+1):=by
 intro p_l p_i p_in p_e p_at r h
 rw[D6] at h
 refine Ai Tryz.func105 (by rfl) rfl rfl (Ap rfl) ?_
 intro call hc;conv=>lhs;whnf
 revert h
 refine cr hc (fun y1 h=>(show CN n 104 [AV.ptr 0 0,AV.func 129 [] [],bA false,AV.sl 1 [[iA (13)]]] [Ob.var 116 [AV.sl 4 (List.map A4 p_l),iA p_i,iA p_in,iA p_e,iA p_at]]=some (AV.sl 5 (List.map A3 y1.1),[Ob.var 116 [AV.sl 4 (List.map A4 p_l),iA y1.2.1,iA y1.2.2.1,iA y1.2.2.2.1,iA y1.2.2.2.2]]) from ih.2.2.2.2.2.2.2.1 (r:=y1) h)) ?_;intro y1
 exact rz
theorem U6 (n:Nat) (ih:Ct n):Kn (n+1):=by
 intro p_l p_i p_in p_e p_at r h
 rw[Cm] at h
 refine Ai Tryz.func129 (by rfl) rfl rfl (Ap rfl) ?_
 intro call hc;conv=>lhs;whnf
 revert h
 refine cr hc (fun y1 h=>(show CN n 104 [AV.ptr 0 0,AV.func 144 [] [],bA true,AV.sl 1 [[iA (9)],[iA (10)],[iA (11)],[iA (12)]]] [Ob.var 116 [AV.sl 4 (List.map A4 p_l),iA p_i,iA p_in,iA p_e,iA p_at]]=some (AV.sl 5 (List.map A3 y1.1),[Ob.var 116 [AV.sl 4 (List.map A4 p_l),iA y1.2.1,iA y1.2.2.1,iA y1.2.2.2.1,iA y1.2.2.2.2]]) from ih.2.2.2.2.2.2.2.2.1 (r:=y1) h)) ?_;intro y1
 exact rz
theorem Wm (n:Nat) (ih:Ct n):M9 (n+1):=by
 intro p_l p_i p_in p_e p_at r h
 rw[Eg] at h
 refine Ai Tryz.func151 (by rfl) rfl rfl (Ap rfl) ?_
 intro call hc;conv=>lhs;whnf
 revert h
 refine br ?_ ?_
 refine ca hc (fun _ h=>Fd h) ?_;intro y2
 exact rz
 refine ca hc (fun _ h=>ih.2.2.2.2.2.2.2.2.2.2.2.1 h) ?_;intro y4
 exact rz
theorem V5 (n:Nat) (ih:Ct n):L9 (n+1):=by
 intro p_l p_i p_in p_e p_at r h
 rw[Du] at h
 refine Ai Tryz.func151 (by rfl) rfl rfl (Ap rfl) ?_
 intro call hc;conv=>lhs;whnf
 revert h
 refine br ?_ ?_
 refine ca hc (fun _ h=>Fd h) ?_;intro y2
 exact rz
 refine ca hc (fun _ h=>ih.1 h) ?_;intro y4
 exact rz
theorem V3 (n:Nat) (ih:Ct n):La (n+1):=by
 intro p_l p_i p_in p_e p_at r h
 rw[Cr] at h
 refine Ai Tryz.func146 (by rfl) rfl rfl (Ap rfl) ?_
 intro call hc;conv=>lhs;whnf
 revert h
 refine cr hc (fun y1 h=>(show CN n 104 [AV.ptr 0 0,AV.func 149 [] [],bA false,AV.sl 1 [[iA (8)]]] [Ob.var 116 [AV.sl 4 (List.map A4 p_l),iA p_i,iA p_in,iA p_e,iA p_at]]=some (AV.sl 5 (List.map A3 y1.1),[Ob.var 116 [AV.sl 4 (List.map A4 p_l),iA y1.2.1,iA y1.2.2.1,iA y1.2.2.2.1,iA y1.2.2.2.2]]) from ih.2.2.2.2.2.2.2.2.2.2.1 (r:=y1) h)) ?_;intro y1
 exact rz
theorem Ye (n:Nat) (ih:Ct n):Nv (n+1):=by
 intro Cz B2 p_l p_i p_in p_e p_at r h
 rw[Lk] at h
 refine Ai Tryz.func104 (by rfl) rfl rfl (Ap rfl) ?_
 intro call hc;conv=>lhs;whnf
 revert h
 refine ca hc (fun _ h=>ih.2.1 h) ?_;intro y1
 intro h;refine As h ?_;clear h;intro o16 ho16 h
 refine lq (σ:=(Bool×(List A2)×Int×Int×Int×Int)) (τ:=((List A2)×Int×Int×Int×Int)) (ν:=((List A2)×Int×Int×Int×Int)) 0 (fun(s3,s4,s5,s6,s7,s8) a10=>B9 67 [(0,AV.ptr 0 0),(1,AV.func 105 [] []),(2,bA s3),(3,AV.sl 1 (List.map Dy B2)),(9,AV.sl 5 (List.map A3 s4))]) (fun(s3,s4,s5,s6,s7,s8) a10=>[Ob.var 116 [AV.sl 4 (List.map A4 p_l),iA s5,iA s6,iA s7,iA s8]]) (fun(x46,x47,x48,x49,x50) a45=>B9 67 [(9,AV.sl 5 (List.map A3 x46))]) (fun(x46,x47,x48,x49,x50) a45=>[Ob.var 116 [AV.sl 4 (List.map A4 p_l),iA x47,iA x48,iA x49,iA x50]]) (fun v=>(AV.sl 5 (List.map A3 v.1),[Ob.var 116 [AV.sl 4 (List.map A4 p_l),iA v.2.1,iA v.2.2.1,iA v.2.2.2.1,iA v.2.2.2.2]])) (fun k s=>Bc n (D6 n) B2 p_l k s.1 s.2.1 s.2.2.1 s.2.2.2.1 s.2.2.2.2.1 s.2.2.2.2.2) (fun s=>rfl) o16 n (Cz,y1.1,y1.2.1,y1.2.2.1,y1.2.2.2.1,y1.2.2.2.2) (fun _=>0) ho16 ?_ ?_
 intro k9 ss a10 K11 cont12 hK13 hcont14 h hr15
 obtain⟨s3,s4,s5,s6,s7,s8⟩:=ss
 replace h:Bc n (D6 n) B2 p_l (k9+1) s3 s4 s5 s6 s7 s8=some o16:=h
 rw[Bc] at h
 conv=>lhs;whnf
 revert h
 refine br ?_ ?_
 intro h;refine As h ?_;clear h;intro o27 ho27 h
 refine lq (σ:=(Int×Int)) (τ:=Int) (ν:=((List A2)×Int×Int×Int×Int)) 2 (fun(s18,s19) a21=>B9 67 [(0,AV.ptr 0 0),(1,AV.func 105 [] []),(2,bA s3),(3,AV.sl 1 (List.map Dy B2)),(9,AV.sl 5 (List.map A3 s4)),(10,iA s18),(23,AV.sl 1 (List.map Dy B2)),(24,iA (((B2.length:Nat):Int))),(25,iA s19)]) (fun(s18,s19) a21=>[Ob.var 116 [AV.sl 4 (List.map A4 p_l),iA s5,iA s6,iA s7,iA s8]]) (fun x36 a35=>B9 67 [(0,AV.ptr 0 0),(1,AV.func 105 [] []),(2,bA s3),(3,AV.sl 1 (List.map Dy B2)),(9,AV.sl 5 (List.map A3 s4)),(10,iA x36)]) (fun x36 a35=>[Ob.var 116 [AV.sl 4 (List.map A4 p_l),iA s5,iA s6,iA s7,iA s8]]) (fun v=>(AV.sl 5 (List.map A3 v.1),[Ob.var 116 [AV.sl 4 (List.map A4 p_l),iA v.2.1,iA v.2.2.1,iA v.2.2.2.1,iA v.2.2.2.2]])) (fun k s=>Bv n B2 p_l s5 s6 s7 s8 k s.1 s.2) (fun s=>rfl) o27 n (0,0) (fun _=>0) ho27 ?_ ?_
 intro k20 ss a21 K22 cont23 hK24 hcont25 h hr26
 obtain⟨s18,s19⟩:=ss
 replace h:Bv n B2 p_l s5 s6 s7 s8 (k20+1) s18 s19=some o27:=h
 rw[Bv] at h
 conv=>lhs;whnf
 revert h
 refine br ?_ ?_
 refine ix ?_;intro x29
 refine ca hc (fun _ h=>Ju h) ?_;intro y30
 refine ca hc (fun _ h=>Dx h) ?_;intro y32
 refine br ?_ ?_
 exact fun h=>cq (hcont25 (x29,IntKind.i64.wrap (s19+1)) (fun _=>0) h)
 exact fun h=>cq (hcont25 (s18,IntKind.i64.wrap (s19+1)) (fun _=>0) h)
 intro h;cases sj h
 exact kq (hr26 (fun _=>0))
 refine lrc ?_ ?_
 intro v e;subst e;cases sj h;exact hr15
 intro x36 a35 e;subst e
 dsimp only at h
 conv=>lhs;whnf
 revert h
 refine br ?_ ?_
 intro h;cases sj h
 exact kq (hr15 (fun _=>0))
 refine ix ?_;intro x38
 refine ca hc (fun _ h=>ih.2.1 h) ?_;intro y39
 refine cr hc (fun y41 h=>(show CN n 128 [AV.agg [iA x36,iA (0),sA (([]:List UInt8)),sA (([]:List UInt8)),iA x38.Ab],AV.sl 1 [[AV.sl 5 (List.map A3 s4)],[AV.sl 5 (List.map A3 y39.1)]]] []=some (AV.sl 5 (List.map A3 y41),[]) from Ft (r:=y41) h)) ?_;intro y41
 refine br ?_ ?_
 intro h;cases sj h
 exact kq (hr15 (fun _=>0))
 exact fun h=>cq (hcont14 (false,y41,y39.2.1,y39.2.2.1,y39.2.2.2.1,y39.2.2.2.2) (fun _=>0) h)
 intro h;cases sj h
 exact kq (hr15 (fun _=>0))
 refine lrc ?_ ?_
 intro v e;subst e;cases sj h;rfl
 intro t a45 e;subst e
 obtain⟨x46,x47,x48,x49,x50⟩:=t
 dsimp only at h
 conv=>lhs;whnf
 revert h
 exact rz
theorem Wo (n:Nat) (ih:Ct n):M7 (n+1):=by
 intro Cz B2 p_l p_i p_in p_e p_at r h
 rw[Kc] at h
 refine Ai Tryz.func104 (by rfl) rfl rfl (Ap rfl) ?_
 intro call hc;conv=>lhs;whnf
 revert h
 refine ca hc (fun _ h=>ih.2.2.1 h) ?_;intro y1
 intro h;refine As h ?_;clear h;intro o16 ho16 h
 refine lq (σ:=(Bool×(List A2)×Int×Int×Int×Int)) (τ:=((List A2)×Int×Int×Int×Int)) (ν:=((List A2)×Int×Int×Int×Int)) 0 (fun(s3,s4,s5,s6,s7,s8) a10=>B9 67 [(0,AV.ptr 0 0),(1,AV.func 129 [] []),(2,bA s3),(3,AV.sl 1 (List.map Dy B2)),(9,AV.sl 5 (List.map A3 s4))]) (fun(s3,s4,s5,s6,s7,s8) a10=>[Ob.var 116 [AV.sl 4 (List.map A4 p_l),iA s5,iA s6,iA s7,iA s8]]) (fun(x46,x47,x48,x49,x50) a45=>B9 67 [(9,AV.sl 5 (List.map A3 x46))]) (fun(x46,x47,x48,x49,x50) a45=>[Ob.var 116 [AV.sl 4 (List.map A4 p_l),iA x47,iA x48,iA x49,iA x50]]) (fun v=>(AV.sl 5 (List.map A3 v.1),[Ob.var 116 [AV.sl 4 (List.map A4 p_l),iA v.2.1,iA v.2.2.1,iA v.2.2.2.1,iA v.2.2.2.2]])) (fun k s=>Eu n (Cm n) B2 p_l k s.1 s.2.1 s.2.2.1 s.2.2.2.1 s.2.2.2.2.1 s.2.2.2.2.2) (fun s=>rfl) o16 n (Cz,y1.1,y1.2.1,y1.2.2.1,y1.2.2.2.1,y1.2.2.2.2) (fun _=>0) ho16 ?_ ?_
 intro k9 ss a10 K11 cont12 hK13 hcont14 h hr15
 obtain⟨s3,s4,s5,s6,s7,s8⟩:=ss
 replace h:Eu n (Cm n) B2 p_l (k9+1) s3 s4 s5 s6 s7 s8=some o16:=h
 rw[Eu] at h
 conv=>lhs;whnf
 revert h
 refine br ?_ ?_
 intro h;refine As h ?_;clear h;intro o27 ho27 h
 refine lq (σ:=(Int×Int)) (τ:=Int) (ν:=((List A2)×Int×Int×Int×Int)) 2 (fun(s18,s19) a21=>B9 67 [(0,AV.ptr 0 0),(1,AV.func 129 [] []),(2,bA s3),(3,AV.sl 1 (List.map Dy B2)),(9,AV.sl 5 (List.map A3 s4)),(10,iA s18),(23,AV.sl 1 (List.map Dy B2)),(24,iA (((B2.length:Nat):Int))),(25,iA s19)]) (fun(s18,s19) a21=>[Ob.var 116 [AV.sl 4 (List.map A4 p_l),iA s5,iA s6,iA s7,iA s8]]) (fun x36 a35=>B9 67 [(0,AV.ptr 0 0),(1,AV.func 129 [] []),(2,bA s3),(3,AV.sl 1 (List.map Dy B2)),(9,AV.sl 5 (List.map A3 s4)),(10,iA x36)]) (fun x36 a35=>[Ob.var 116 [AV.sl 4 (List.map A4 p_l),iA s5,iA s6,iA s7,iA s8]]) (fun v=>(AV.sl 5 (List.map A3 v.1),[Ob.var 116 [AV.sl 4 (List.map A4 p_l),iA v.2.1,iA v.2.2.1,iA v.2.2.2.1,iA v.2.2.2.2]])) (fun k s=>E9 n B2 p_l s5 s6 s7 s8 k s.1 s.2) (fun s=>rfl) o27 n (0,0) (fun _=>0) ho27 ?_ ?_
 intro k20 ss a21 K22 cont23 hK24 hcont25 h hr26
 obtain⟨s18,s19⟩:=ss
 replace h:E9 n B2 p_l s5 s6 s7 s8 (k20+1) s18 s19=some o27:=h
 rw[E9] at h
 conv=>lhs;whnf
 revert h
 refine br ?_ ?_
 refine ix ?_;intro x29
 refine ca hc (fun _ h=>Ju h) ?_;intro y30
 refine ca hc (fun _ h=>Dx h) ?_;intro y32
 refine br ?_ ?_
 exact fun h=>cq (hcont25 (x29,IntKind.i64.wrap (s19+1)) (fun _=>0) h)
 exact fun h=>cq (hcont25 (s18,IntKind.i64.wrap (s19+1)) (fun _=>0) h)
 intro h;cases sj h
 exact kq (hr26 (fun _=>0))
 refine lrc ?_ ?_
 intro v e;subst e;cases sj h;exact hr15
 intro x36 a35 e;subst e
 dsimp only at h
 conv=>lhs;whnf
 revert h
 refine br ?_ ?_
 intro h;cases sj h
 exact kq (hr15 (fun _=>0))
 refine ix ?_;intro x38
 refine ca hc (fun _ h=>ih.2.2.1 h) ?_;intro y39
 refine cr hc (fun y41 h=>(show CN n 128 [AV.agg [iA x36,iA (0),sA (([]:List UInt8)),sA (([]:List UInt8)),iA x38.Ab],AV.sl 1 [[AV.sl 5 (List.map A3 s4)],[AV.sl 5 (List.map A3 y39.1)]]] []=some (AV.sl 5 (List.map A3 y41),[]) from Ft (r:=y41) h)) ?_;intro y41
 refine br ?_ ?_
 intro h;cases sj h
 exact kq (hr15 (fun _=>0))
 exact fun h=>cq (hcont14 (false,y41,y39.2.1,y39.2.2.1,y39.2.2.2.1,y39.2.2.2.2) (fun _=>0) h)
 intro h;cases sj h
 exact kq (hr15 (fun _=>0))
 refine lrc ?_ ?_
 intro v e;subst e;cases sj h;rfl
 intro t a45 e;subst e
 obtain⟨x46,x47,x48,x49,x50⟩:=t
 dsimp only at h
 conv=>lhs;whnf
 revert h
 exact rz
theorem Ws (n:Nat) (ih:Ct n):Mb (n+1):=by
 intro Cz B2 p_l p_i p_in p_e p_at r h
 rw[Kf] at h
 refine Ai Tryz.func104 (by rfl) rfl rfl (Ap rfl) ?_
 intro call hc;conv=>lhs;whnf
 revert h
 refine ca hc (fun _ h=>ih.2.2.2.2.2.2.2.2.2.2.2.2 h) ?_;intro y1
 intro h;refine As h ?_;clear h;intro o16 ho16 h
 refine lq (σ:=(Bool×(List A2)×Int×Int×Int×Int)) (τ:=((List A2)×Int×Int×Int×Int)) (ν:=((List A2)×Int×Int×Int×Int)) 0 (fun(s3,s4,s5,s6,s7,s8) a10=>B9 67 [(0,AV.ptr 0 0),(1,AV.func 144 [] []),(2,bA s3),(3,AV.sl 1 (List.map Dy B2)),(9,AV.sl 5 (List.map A3 s4))]) (fun(s3,s4,s5,s6,s7,s8) a10=>[Ob.var 116 [AV.sl 4 (List.map A4 p_l),iA s5,iA s6,iA s7,iA s8]]) (fun(x46,x47,x48,x49,x50) a45=>B9 67 [(9,AV.sl 5 (List.map A3 x46))]) (fun(x46,x47,x48,x49,x50) a45=>[Ob.var 116 [AV.sl 4 (List.map A4 p_l),iA x47,iA x48,iA x49,iA x50]]) (fun v=>(AV.sl 5 (List.map A3 v.1),[Ob.var 116 [AV.sl 4 (List.map A4 p_l),iA v.2.1,iA v.2.2.1,iA v.2.2.2.1,iA v.2.2.2.2]])) (fun k s=>Ey n (De n) B2 p_l k s.1 s.2.1 s.2.2.1 s.2.2.2.1 s.2.2.2.2.1 s.2.2.2.2.2) (fun s=>rfl) o16 n (Cz,y1.1,y1.2.1,y1.2.2.1,y1.2.2.2.1,y1.2.2.2.2) (fun _=>0) ho16 ?_ ?_
 intro k9 ss a10 K11 cont12 hK13 hcont14 h hr15
 obtain⟨s3,s4,s5,s6,s7,s8⟩:=ss
 replace h:Ey n (De n) B2 p_l (k9+1) s3 s4 s5 s6 s7 s8=some o16:=h
 rw[Ey] at h
 conv=>lhs;whnf
 revert h
 refine br ?_ ?_
 intro h;refine As h ?_;clear h;intro o27 ho27 h
 refine lq (σ:=(Int×Int)) (τ:=Int) (ν:=((List A2)×Int×Int×Int×Int)) 2 (fun(s18,s19) a21=>B9 67 [(0,AV.ptr 0 0),(1,AV.func 144 [] []),(2,bA s3),(3,AV.sl 1 (List.map Dy B2)),(9,AV.sl 5 (List.map A3 s4)),(10,iA s18),(23,AV.sl 1 (List.map Dy B2)),(24,iA (((B2.length:Nat):Int))),(25,iA s19)]) (fun(s18,s19) a21=>[Ob.var 116 [AV.sl 4 (List.map A4 p_l),iA s5,iA s6,iA s7,iA s8]]) (fun x36 a35=>B9 67 [(0,AV.ptr 0 0),(1,AV.func 144 [] []),(2,bA s3),(3,AV.sl 1 (List.map Dy B2)),(9,AV.sl 5 (List.map A3 s4)),(10,iA x36)]) (fun x36 a35=>[Ob.var 116 [AV.sl 4 (List.map A4 p_l),iA s5,iA s6,iA s7,iA s8]]) (fun v=>(AV.sl 5 (List.map A3 v.1),[Ob.var 116 [AV.sl 4 (List.map A4 p_l),iA v.2.1,iA v.2.2.1,iA v.2.2.2.1,iA v.2.2.2.2]])) (fun k s=>E7 n B2 p_l s5 s6 s7 s8 k s.1 s.2) (fun s=>rfl) o27 n (0,0) (fun _=>0) ho27 ?_ ?_
 intro k20 ss a21 K22 cont23 hK24 hcont25 h hr26
 obtain⟨s18,s19⟩:=ss
 replace h:E7 n B2 p_l s5 s6 s7 s8 (k20+1) s18 s19=some o27:=h
 rw[E7] at h
 conv=>lhs;whnf
 revert h
 refine br ?_ ?_
 refine ix ?_;intro x29
 refine ca hc (fun _ h=>Ju h) ?_;intro y30
 refine ca hc (fun _ h=>Dx h) ?_;intro y32
 refine br ?_ ?_
 exact fun h=>cq (hcont25 (x29,IntKind.i64.wrap (s19+1)) (fun _=>0) h)
 exact fun h=>cq (hcont25 (s18,IntKind.i64.wrap (s19+1)) (fun _=>0) h)
 intro h;cases sj h
 exact kq (hr26 (fun _=>0))
 refine lrc ?_ ?_
 intro v e;subst e;cases sj h;exact hr15
 intro x36 a35 e;subst e
 dsimp only at h
 conv=>lhs;whnf
 revert h
 refine br ?_ ?_
 intro h;cases sj h
 exact kq (hr15 (fun _=>0))
 refine ix ?_;intro x38
 refine ca hc (fun _ h=>ih.2.2.2.2.2.2.2.2.2.2.2.2 h) ?_;intro y39
 refine cr hc (fun y41 h=>(show CN n 128 [AV.agg [iA x36,iA (0),sA (([]:List UInt8)),sA (([]:List UInt8)),iA x38.Ab],AV.sl 1 [[AV.sl 5 (List.map A3 s4)],[AV.sl 5 (List.map A3 y39.1)]]] []=some (AV.sl 5 (List.map A3 y41),[]) from Ft (r:=y41) h)) ?_;intro y41
 refine br ?_ ?_
 intro h;cases sj h
 exact kq (hr15 (fun _=>0))
 exact fun h=>cq (hcont14 (false,y41,y39.2.1,y39.2.2.1,y39.2.2.2.1,y39.2.2.2.2) (fun _=>0) h)
 intro h;cases sj h
 exact kq (hr15 (fun _=>0))
 refine lrc ?_ ?_
 intro v e;subst e;cases sj h;rfl
 intro t a45 e;subst e
 obtain⟨x46,x47,x48,x49,x50⟩:=t
 dsimp only at h
 conv=>lhs;whnf
 revert h
 exact rz
theorem Wf (n:Nat) (ih:Ct n):M6 (n+1):=by
 intro Cz B2 p_l p_i p_in p_e p_at r h
 rw[Ke] at h
 refine Ai Tryz.func104 (by rfl) rfl rfl (Ap rfl) ?_
 intro call hc;conv=>lhs;whnf
 revert h
 refine ca hc (fun _ h=>ih.2.2.2.2.2.1 h) ?_;intro y1
 intro h;refine As h ?_;clear h;intro o16 ho16 h
 refine lq (σ:=(Bool×(List A2)×Int×Int×Int×Int)) (τ:=((List A2)×Int×Int×Int×Int)) (ν:=((List A2)×Int×Int×Int×Int)) 0 (fun(s3,s4,s5,s6,s7,s8) a10=>B9 67 [(0,AV.ptr 0 0),(1,AV.func 146 [] []),(2,bA s3),(3,AV.sl 1 (List.map Dy B2)),(9,AV.sl 5 (List.map A3 s4))]) (fun(s3,s4,s5,s6,s7,s8) a10=>[Ob.var 116 [AV.sl 4 (List.map A4 p_l),iA s5,iA s6,iA s7,iA s8]]) (fun(x46,x47,x48,x49,x50) a45=>B9 67 [(9,AV.sl 5 (List.map A3 x46))]) (fun(x46,x47,x48,x49,x50) a45=>[Ob.var 116 [AV.sl 4 (List.map A4 p_l),iA x47,iA x48,iA x49,iA x50]]) (fun v=>(AV.sl 5 (List.map A3 v.1),[Ob.var 116 [AV.sl 4 (List.map A4 p_l),iA v.2.1,iA v.2.2.1,iA v.2.2.2.1,iA v.2.2.2.2]])) (fun k s=>Ev n (Cr n) B2 p_l k s.1 s.2.1 s.2.2.1 s.2.2.2.1 s.2.2.2.2.1 s.2.2.2.2.2) (fun s=>rfl) o16 n (Cz,y1.1,y1.2.1,y1.2.2.1,y1.2.2.2.1,y1.2.2.2.2) (fun _=>0) ho16 ?_ ?_
 intro k9 ss a10 K11 cont12 hK13 hcont14 h hr15
 obtain⟨s3,s4,s5,s6,s7,s8⟩:=ss
 replace h:Ev n (Cr n) B2 p_l (k9+1) s3 s4 s5 s6 s7 s8=some o16:=h
 rw[Ev] at h
 conv=>lhs;whnf
 revert h
 refine br ?_ ?_
 intro h;refine As h ?_;clear h;intro o27 ho27 h
 refine lq (σ:=(Int×Int)) (τ:=Int) (ν:=((List A2)×Int×Int×Int×Int)) 2 (fun(s18,s19) a21=>B9 67 [(0,AV.ptr 0 0),(1,AV.func 146 [] []),(2,bA s3),(3,AV.sl 1 (List.map Dy B2)),(9,AV.sl 5 (List.map A3 s4)),(10,iA s18),(23,AV.sl 1 (List.map Dy B2)),(24,iA (((B2.length:Nat):Int))),(25,iA s19)]) (fun(s18,s19) a21=>[Ob.var 116 [AV.sl 4 (List.map A4 p_l),iA s5,iA s6,iA s7,iA s8]]) (fun x36 a35=>B9 67 [(0,AV.ptr 0 0),(1,AV.func 146 [] []),(2,bA s3),(3,AV.sl 1 (List.map Dy B2)),(9,AV.sl 5 (List.map A3 s4)),(10,iA x36)]) (fun x36 a35=>[Ob.var 116 [AV.sl 4 (List.map A4 p_l),iA s5,iA s6,iA s7,iA s8]]) (fun v=>(AV.sl 5 (List.map A3 v.1),[Ob.var 116 [AV.sl 4 (List.map A4 p_l),iA v.2.1,iA v.2.2.1,iA v.2.2.2.1,iA v.2.2.2.2]])) (fun k s=>E6 n B2 p_l s5 s6 s7 s8 k s.1 s.2) (fun s=>rfl) o27 n (0,0) (fun _=>0) ho27 ?_ ?_
 intro k20 ss a21 K22 cont23 hK24 hcont25 h hr26
 obtain⟨s18,s19⟩:=ss
 replace h:E6 n B2 p_l s5 s6 s7 s8 (k20+1) s18 s19=some o27:=h
 rw[E6] at h
 conv=>lhs;whnf
 revert h
 refine br ?_ ?_
 refine ix ?_;intro x29
 refine ca hc (fun _ h=>Ju h) ?_;intro y30
 refine ca hc (fun _ h=>Dx h) ?_;intro y32
 refine br ?_ ?_
 exact fun h=>cq (hcont25 (x29,IntKind.i64.wrap (s19+1)) (fun _=>0) h)
 exact fun h=>cq (hcont25 (s18,IntKind.i64.wrap (s19+1)) (fun _=>0) h)
 intro h;cases sj h
 exact kq (hr26 (fun _=>0))
 refine lrc ?_ ?_
 intro v e;subst e;cases sj h;exact hr15
 intro x36 a35 e;subst e
 dsimp only at h
 conv=>lhs;whnf
 revert h
 refine br ?_ ?_
 intro h;cases sj h
 exact kq (hr15 (fun _=>0))
 refine ix ?_;intro x38
 refine ca hc (fun _ h=>ih.2.2.2.2.2.1 h) ?_;intro y39
 refine cr hc (fun y41 h=>(show CN n 128 [AV.agg [iA x36,iA (0),sA (([]:List UInt8)),sA (([]:List UInt8)),iA x38.Ab],AV.sl 1 [[AV.sl 5 (List.map A3 s4)],[AV.sl 5 (List.map A3 y39.1)]]] []=some (AV.sl 5 (List.map A3 y41),[]) from Ft (r:=y41) h)) ?_;intro y41
 refine br ?_ ?_
 intro h;cases sj h
 exact kq (hr15 (fun _=>0))
 exact fun h=>cq (hcont14 (false,y41,y39.2.1,y39.2.2.1,y39.2.2.2.1,y39.2.2.2.2) (fun _=>0) h)
 intro h;cases sj h
 exact kq (hr15 (fun _=>0))
 refine lrc ?_ ?_
 intro v e;subst e;cases sj h;rfl
 intro t a45 e;subst e
 obtain⟨x46,x47,x48,x49,x50⟩:=t
 dsimp only at h
 conv=>lhs;whnf
 revert h
 exact rz
theorem Ww (n:Nat) (ih:Ct n):M5 (n+1):=by
 intro Cz B2 p_l p_i p_in p_e p_at r h
 rw[Kd] at h
 refine Ai Tryz.func104 (by rfl) rfl rfl (Ap rfl) ?_
 intro call hc;conv=>lhs;whnf
 revert h
 refine ca hc (fun _ h=>ih.2.2.2.2.2.2.2.2.2.2.2.1 h) ?_;intro y1
 intro h;refine As h ?_;clear h;intro o16 ho16 h
 refine lq (σ:=(Bool×(List A2)×Int×Int×Int×Int)) (τ:=((List A2)×Int×Int×Int×Int)) (ν:=((List A2)×Int×Int×Int×Int)) 0 (fun(s3,s4,s5,s6,s7,s8) a10=>B9 67 [(0,AV.ptr 0 0),(1,AV.func 149 [] []),(2,bA s3),(3,AV.sl 1 (List.map Dy B2)),(9,AV.sl 5 (List.map A3 s4))]) (fun(s3,s4,s5,s6,s7,s8) a10=>[Ob.var 116 [AV.sl 4 (List.map A4 p_l),iA s5,iA s6,iA s7,iA s8]]) (fun(x46,x47,x48,x49,x50) a45=>B9 67 [(9,AV.sl 5 (List.map A3 x46))]) (fun(x46,x47,x48,x49,x50) a45=>[Ob.var 116 [AV.sl 4 (List.map A4 p_l),iA x47,iA x48,iA x49,iA x50]]) (fun v=>(AV.sl 5 (List.map A3 v.1),[Ob.var 116 [AV.sl 4 (List.map A4 p_l),iA v.2.1,iA v.2.2.1,iA v.2.2.2.1,iA v.2.2.2.2]])) (fun k s=>F0 n (Bq n) B2 p_l k s.1 s.2.1 s.2.2.1 s.2.2.2.1 s.2.2.2.2.1 s.2.2.2.2.2) (fun s=>rfl) o16 n (Cz,y1.1,y1.2.1,y1.2.2.1,y1.2.2.2.1,y1.2.2.2.2) (fun _=>0) ho16 ?_ ?_
 intro k9 ss a10 K11 cont12 hK13 hcont14 h hr15
 obtain⟨s3,s4,s5,s6,s7,s8⟩:=ss
 replace h:F0 n (Bq n) B2 p_l (k9+1) s3 s4 s5 s6 s7 s8=some o16:=h
 rw[F0] at h
 conv=>lhs;whnf
 revert h
 refine br ?_ ?_
 intro h;refine As h ?_;clear h;intro o27 ho27 h
 refine lq (σ:=(Int×Int)) (τ:=Int) (ν:=((List A2)×Int×Int×Int×Int)) 2 (fun(s18,s19) a21=>B9 67 [(0,AV.ptr 0 0),(1,AV.func 149 [] []),(2,bA s3),(3,AV.sl 1 (List.map Dy B2)),(9,AV.sl 5 (List.map A3 s4)),(10,iA s18),(23,AV.sl 1 (List.map Dy B2)),(24,iA (((B2.length:Nat):Int))),(25,iA s19)]) (fun(s18,s19) a21=>[Ob.var 116 [AV.sl 4 (List.map A4 p_l),iA s5,iA s6,iA s7,iA s8]]) (fun x36 a35=>B9 67 [(0,AV.ptr 0 0),(1,AV.func 149 [] []),(2,bA s3),(3,AV.sl 1 (List.map Dy B2)),(9,AV.sl 5 (List.map A3 s4)),(10,iA x36)]) (fun x36 a35=>[Ob.var 116 [AV.sl 4 (List.map A4 p_l),iA s5,iA s6,iA s7,iA s8]]) (fun v=>(AV.sl 5 (List.map A3 v.1),[Ob.var 116 [AV.sl 4 (List.map A4 p_l),iA v.2.1,iA v.2.2.1,iA v.2.2.2.1,iA v.2.2.2.2]])) (fun k s=>Eb n B2 p_l s5 s6 s7 s8 k s.1 s.2) (fun s=>rfl) o27 n (0,0) (fun _=>0) ho27 ?_ ?_
 intro k20 ss a21 K22 cont23 hK24 hcont25 h hr26
 obtain⟨s18,s19⟩:=ss
 replace h:Eb n B2 p_l s5 s6 s7 s8 (k20+1) s18 s19=some o27:=h
 rw[Eb] at h
 conv=>lhs;whnf
 revert h
 refine br ?_ ?_
 refine ix ?_;intro x29
 refine ca hc (fun _ h=>Ju h) ?_;intro y30
 refine ca hc (fun _ h=>Dx h) ?_;intro y32
 refine br ?_ ?_
 exact fun h=>cq (hcont25 (x29,IntKind.i64.wrap (s19+1)) (fun _=>0) h)
 exact fun h=>cq (hcont25 (s18,IntKind.i64.wrap (s19+1)) (fun _=>0) h)
 intro h;cases sj h
 exact kq (hr26 (fun _=>0))
 refine lrc ?_ ?_
 intro v e;subst e;cases sj h;exact hr15
 intro x36 a35 e;subst e
 dsimp only at h
 conv=>lhs;whnf
 revert h
 refine br ?_ ?_
 intro h;cases sj h
 exact kq (hr15 (fun _=>0))
 refine ix ?_;intro x38
 refine ca hc (fun _ h=>ih.2.2.2.2.2.2.2.2.2.2.2.1 h) ?_;intro y39
 refine cr hc (fun y41 h=>(show CN n 128 [AV.agg [iA x36,iA (0),sA (([]:List UInt8)),sA (([]:List UInt8)),iA x38.Ab],AV.sl 1 [[AV.sl 5 (List.map A3 s4)],[AV.sl 5 (List.map A3 y39.1)]]] []=some (AV.sl 5 (List.map A3 y41),[]) from Ft (r:=y41) h)) ?_;intro y41
 refine br ?_ ?_
 intro h;cases sj h
 exact kq (hr15 (fun _=>0))
 exact fun h=>cq (hcont14 (false,y41,y39.2.1,y39.2.2.1,y39.2.2.2.1,y39.2.2.2.2) (fun _=>0) h)
 intro h;cases sj h
 exact kq (hr15 (fun _=>0))
 refine lrc ?_ ?_
 intro v e;subst e;cases sj h;rfl
 intro t a45 e;subst e
 obtain⟨x46,x47,x48,x49,x50⟩:=t
 dsimp only at h
 conv=>lhs;whnf
 revert h
 exact rz
theorem Vn (n:Nat) (ih:Ct n):Lp (n+1):=by
 intro p_l p_i p_in p_e p_at r h
 rw[Bq] at h
 refine Ai Tryz.func149 (by rfl) rfl rfl (Ap rfl) ?_
 intro call hc;conv=>lhs;whnf
 revert h
 refine br ?_ ?_
 exact rz
 refine ca hc (fun _ h=>Dx h) ?_;intro y2
 refine br ?_ ?_
 refine ix ?_;intro x5
 refine ca hc (fun _ h=>ih.2.2.2.1 h) ?_;intro y6
 refine cr hc (fun y8 h=>(show CN n 128 [AV.agg [iA (5),iA (0),sA (([]:List UInt8)),sA (([]:List UInt8)),iA x5.Ab],AV.sl 1 [[AV.sl 5 (List.map A3 y6.1)]]] []=some (AV.sl 5 (List.map A3 y8),[]) from Ft (r:=y8) h)) ?_;intro y8
 exact rz
 refine ca hc (fun _ h=>Dx h) ?_;intro y10
 refine br ?_ ?_
 refine ca hc (fun _ h=>ih.2.2.2.2.1 h) ?_;intro y13
 refine br ?_ ?_
 refine ca hc (fun _ h=>Dx h) ?_;intro y16
 refine br ?_ ?_
 exact rz
 refine ca hc (fun _ h=>Fd h) ?_;intro y19
 exact rz
 exact rz
 refine br ?_ ?_
 refine ix ?_;intro x22
 refine br ?_ ?_
 refine ix ?_;intro x24
 refine cr hc (fun y25 h=>(show CN n 128 [AV.agg [iA (1),iA x24.Bs,sA (([]:List UInt8)),sA (([]:List UInt8)),iA x24.Ab],AV.sl 1 []] []=some (AV.sl 5 (List.map A3 y25),[]) from Ft (r:=y25) h)) ?_;intro y25
 exact rz
 refine ca hc (fun _ h=>K2 h) ?_;intro y27
 refine br ?_ ?_
 refine ca hc (fun _ h=>Dx h) ?_;intro y30
 refine br ?_ ?_
 refine ca hc (fun _ h=>K2 h) ?_;intro y33
 refine br ?_ ?_
 refine cr hc (fun y36 h=>(show CN n 128 [AV.agg [iA (4),iA (0),sA y33.1,sA y27.1,iA y27.2.1],AV.sl 1 []] []=some (AV.sl 5 (List.map A3 y36),[]) from Ft (r:=y36) h)) ?_;intro y36
 exact rz
 refine ca hc (fun _ h=>Fd h) ?_;intro y38
 exact rz
 refine cr hc (fun y40 h=>(show CN n 128 [AV.agg [iA (2),iA (0),sA y27.1,sA (([]:List UInt8)),iA y27.2.1],AV.sl 1 []] []=some (AV.sl 5 (List.map A3 y40),[]) from Ft (r:=y40) h)) ?_;intro y40
 exact rz
 refine ca hc (fun _ h=>Fd h) ?_;intro y42
 exact rz
 refine ca hc (fun _ h=>K2 h) ?_;intro y44
 refine br ?_ ?_
 refine ca hc (fun _ h=>Dx h) ?_;intro y47
 refine br ?_ ?_
 refine ca hc (fun _ h=>K2 h) ?_;intro y50
 refine br ?_ ?_
 refine cr hc (fun y53 h=>(show CN n 128 [AV.agg [iA (4),iA (0),sA y50.1,sA y44.1,iA y44.2.1],AV.sl 1 []] []=some (AV.sl 5 (List.map A3 y53),[]) from Ft (r:=y53) h)) ?_;intro y53
 exact rz
 refine ca hc (fun _ h=>Fd h) ?_;intro y55
 exact rz
 refine cr hc (fun y57 h=>(show CN n 128 [AV.agg [iA (2),iA (0),sA y44.1,sA (([]:List UInt8)),iA y44.2.1],AV.sl 1 []] []=some (AV.sl 5 (List.map A3 y57),[]) from Ft (r:=y57) h)) ?_;intro y57
 exact rz
 refine ca hc (fun _ h=>Fd h) ?_;intro y59
 exact rz
theorem Xy (n:Nat) (ih:Ct n):Nl (n+1):=by
 intro p_l p_i p_in p_e p_at r h
 rw[De] at h
 refine Ai Tryz.func144 (by rfl) rfl rfl (Ap rfl) ?_
 intro call hc;conv=>lhs;whnf
 revert h
 refine cr hc (fun y1 h=>(show CN n 104 [AV.ptr 0 0,AV.func 146 [] [],bA false,AV.sl 1 [[iA (6)],[iA (7)]]] [Ob.var 116 [AV.sl 4 (List.map A4 p_l),iA p_i,iA p_in,iA p_e,iA p_at]]=some (AV.sl 5 (List.map A3 y1.1),[Ob.var 116 [AV.sl 4 (List.map A4 p_l),iA y1.2.1,iA y1.2.2.1,iA y1.2.2.2.1,iA y1.2.2.2.2]]) from ih.2.2.2.2.2.2.2.2.2.1 (r:=y1) h)) ?_;intro y1
 exact rz
theorem Rg:∀ n,Ct n
 | 0=>⟨by unfold Kw;intros;rename_i h;exact absurd h (by intro h;cases h),by unfold N1;intros;rename_i h;exact absurd h (by intro h;cases h),by unfold Kn;intros;rename_i h;exact absurd h (by intro h;cases h),by unfold M9;intros;rename_i h;exact absurd h (by intro h;cases h),by unfold L9;intros;rename_i h;exact absurd h (by intro h;cases h),by unfold La;intros;rename_i h;exact absurd h (by intro h;cases h),by unfold Nv;intros;rename_i h;exact absurd h (by intro h;cases h),by unfold M7;intros;rename_i h;exact absurd h (by intro h;cases h),by unfold Mb;intros;rename_i h;exact absurd h (by intro h;cases h),by unfold M6;intros;rename_i h;exact absurd h (by intro h;cases h),by unfold M5;intros;rename_i h;exact absurd h (by intro h;cases h),by unfold Lp;intros;rename_i h;exact absurd h (by intro h;cases h),by unfold Nl;intros;rename_i h;exact absurd h (by intro h;cases h)⟩
 | n+1=>have ih:=Rg n
   ⟨Ym n ih,Xq n ih,U6 n ih,Wm n ih,V5 n ih,V3 n ih,Ye n ih,Wo n ih,Ws n ih,Wf n ih,Ww n ih,Vn n ih,Xy n ih⟩
theorem Yk {n:Nat}:Kw n:=(Rg n).1
theorem X9 {n:Nat} ⦃Aa:(List A5)⦄ ⦃Bb:Int⦄ ⦃r:((List A2)×Int×Int×Int)⦄:I9 n Aa Bb=some r→CN n 61 [AV.sl 4 (List.map A4 Aa),iA Bb] []=some (AV.tup [AV.sl 5 (List.map A3 r.1),iA r.2.1,iA r.2.2.1,iA r.2.2.2],[]):=by
 intro h;rcases n with _|n;cases h
 rw[I9] at h
 refine Ai Tryz.func61 (by rfl) rfl rfl (Ap rfl) ?_
 intro call hc;conv=>lhs;whnf
 revert h
 refine br ?_ ?_
 exact rz
 refine ca hc (fun _ h=>Yk h) ?_;intro y2
 refine br ?_ ?_
 exact rz
 refine ca hc (fun _ h=>X8 h) ?_;intro y5
 refine br ?_ ?_
 refine ix ?_;intro x8
 exact rz
 refine br ?_ ?_
 refine ix ?_;intro x10
 exact rz
 exact rz
theorem A6t {n:Nat} ⦃B1:A2⦄ ⦃r:Bool⦄:Po n B1=some r→CN n 94 [AV.agg [iA B1.B3,iA B1.Bs,sA B1.Ao,sA B1.Cq,iA B1.Ab]] []=some (bA r,[]):=by
 intro h;rcases n with _|n;cases h
 rw[Po] at h
 refine Ai Tryz.func94 (by rfl) rfl rfl (Ap rfl) ?_
 intro call hc;conv=>lhs;whnf
 revert h
 refine br ?_ ?_
 exact rz
 refine br ?_ ?_
 intro h
 have hf5:Z7 Tryz.prog 47=some (fieldsOf Tryz.prog 47):=by kernel_rfl
 simp only[hf5,Au,C0]
 conv=>lhs;whnf
 revert h
 refine br ?_ ?_
 refine br ?_ ?_
 exact rz
 exact rz
 exact rz
 refine br ?_ ?_
 refine ca hc (fun _ h=>Gc h) ?_;intro y7
 refine br ?_ ?_
 intro h
 have hf13:Z7 Tryz.prog 47=some (fieldsOf Tryz.prog 47):=by kernel_rfl
 simp only[hf13,Au,C0]
 conv=>lhs;whnf
 revert h
 refine br ?_ ?_
 refine ca hc (fun _ h=>Gc h) ?_;intro y11
 exact rz
 exact rz
 exact rz
 refine br ?_ ?_
 intro h
 have hf18:Z7 Tryz.prog 47=some (fieldsOf Tryz.prog 47):=by kernel_rfl
 simp only[hf18,Au,C0]
 conv=>lhs;whnf
 revert h
 refine br ?_ ?_
 refine ca hc (fun _ h=>Gc h) ?_;intro y16
 exact rz
 exact rz
 refine br ?_ ?_
 intro h
 have hf23:Z7 Tryz.prog 47=some (fieldsOf Tryz.prog 47):=by kernel_rfl
 simp only[hf23,Au,C0]
 conv=>lhs;whnf
 revert h
 refine br ?_ ?_
 refine ca hc (fun _ h=>Gc h) ?_;intro y21
 exact rz
 exact rz
 intro h
 have hf24:Z7 Tryz.prog 47=some (fieldsOf Tryz.prog 47):=by kernel_rfl
 simp only[hf24,Au,C0]
 conv=>lhs;whnf
 revert h
 exact rz
theorem So {n:Nat} ⦃Aa:(List A2)⦄ ⦃r:Bool⦄:Jx n Aa=some r→CN n 75 [AV.sl 5 (List.map A3 Aa)] []=some (bA r,[]):=by
 intro h;rcases n with _|n;cases h
 rw[Jx] at h
 refine Ai Tryz.func75 (by rfl) rfl rfl (Ap rfl) ?_
 intro call hc;conv=>lhs;whnf
 revert h
 refine br ?_ ?_
 exact rz
 refine br ?_ ?_
 exact rz
 refine ca hc (fun _ h=>A8l h) ?_;intro y3
 refine br ?_ ?_
 exact rz
 intro h;refine As h ?_;clear h;intro o14 ho14 h
 refine lq (σ:=Int) (τ:=Unit) (ν:=Bool) 0 (fun s6 a8=>B9 33 [(0,AV.sl 5 (List.map A3 Aa)),(20,AV.sl 5 (List.map A3 Aa)),(21,iA (((Aa.length:Nat):Int))),(22,iA s6)]) (fun s6 a8=>[]) (fun _ a20=>B9 33 [(0,AV.sl 5 (List.map A3 Aa))]) (fun _ a20=>[]) (fun v=>(bA v,[])) (fun k s=>Gq n Aa k s) (fun s=>rfl) o14 n 0 (fun _=>0) ho14 ?_ ?_
 intro k7 s6 a8 K9 cont10 hK11 hcont12 h hr13
 replace h:Gq n Aa (k7+1) s6=some o14:=h
 rw[Gq] at h
 conv=>lhs;whnf
 revert h
 refine br ?_ ?_
 refine ix ?_;intro x16
 refine ca hc (fun _ h=>A6t h) ?_;intro y17
 refine br ?_ ?_
 exact fun h=>cq (hcont12 (IntKind.i64.wrap (s6+1)) (fun _=>0) h)
 intro h;cases sj h
 refine(hK11 _ _).trans ?_
 refine Eq.trans ?_ (Eq.symm (show _=some _ from hr13))
 conv=>lhs;whnf
 exact rq
 intro h;cases sj h
 exact kq (hr13 (fun _=>0))
 refine lrc ?_ ?_
 intro v e;subst e;cases sj h;rfl
 intro t a20 e;subst e
 dsimp only at h
 conv=>lhs;whnf
 revert h
 refine ca hc (fun _ h=>X8 h) ?_;intro y21
 exact rz
def N4 (n:Nat):Prop:=∀ ⦃Cd:Int⦄ ⦃r:(List UInt8)⦄,F8 n Cd=some r→CN n 100 [iA Cd] []=some (sA r,[])
def R0 (n:Nat):Prop:=N4 n
theorem A18 (n:Nat) (ih:R0 n):N4 (n+1):=by
 intro Cd r h
 rw[F8] at h
 refine Ai Tryz.func100 (by rfl) rfl rfl (Ap rfl) ?_
 intro call hc;conv=>lhs;whnf
 revert h
 refine br ?_ ?_
 exact rz
 refine ca hc (fun _ h=>ih h) ?_;intro y2
 intro h
 refine B6 h ?_;clear h;intro hc4 h
 refine B4 hc4 ?_
 try simp only[ls]
 conv=>lhs;whnf
 revert h
 exact rz
theorem Ty:∀ n,R0 n
 | 0=>by unfold R0 N4;intros;rename_i h;exact absurd h (by intro h;cases h)
 | n+1=>have ih:=Ty n
   A18 n ih
theorem A1y {n:Nat}:N4 n:=(Ty n)
def Pu (n:Nat):Prop:=∀ ⦃Aa:(List A2)⦄ ⦃Bb:Int⦄ ⦃Ra:Bool⦄ ⦃r:((List UInt8)×Int)⦄,I1 n Aa Bb Ra=some r→CN n 77 [AV.sl 5 (List.map A3 Aa),iA Bb,bA Ra] []=some (AV.tup [sA r.1,iA r.2],[])
def Si (n:Nat):Prop:=Pu n
theorem A4i (n:Nat) (ih:Si n):Pu (n+1):=by
 intro Aa Bb Ra r h
 rw[I1] at h
 refine Ai Tryz.func77 (by rfl) rfl rfl (Ap rfl) ?_
 intro call hc;conv=>lhs;whnf
 revert h
 refine ix ?_;intro x1
 refine br ?_ ?_
 refine ca hc (fun _ h=>A1y h) ?_;intro y3
 exact rz
 refine br ?_ ?_
 exact rz
 refine br ?_ ?_
 exact rz
 refine br ?_ ?_
 intro h
 refine B6 h ?_;clear h;intro hc8 h
 refine B4 hc8 ?_
 try simp only[ls]
 conv=>lhs;whnf
 revert h
 intro h
 refine B6 h ?_;clear h;intro hc9 h
 refine B4 hc9 ?_
 try simp only[ls]
 conv=>lhs;whnf
 revert h
 exact rz
 refine br ?_ ?_
 refine ca hc (fun _ h=>ih h) ?_;intro y11
 refine ca hc (fun _ h=>Ju h) ?_;intro y13
 intro h
 refine B6 h ?_;clear h;intro hc15 h
 refine B4 hc15 ?_
 try simp only[ls]
 conv=>lhs;whnf
 revert h
 exact rz
 refine ca hc (fun _ h=>ih h) ?_;intro y16
 refine ca hc (fun _ h=>ih h) ?_;intro y18
 intro h
 refine B6 h ?_;clear h;intro hc20 h
 refine B4 hc20 ?_
 try simp only[ls]
 conv=>lhs;whnf
 revert h
 refine ca hc (fun _ h=>Ju h) ?_;intro y21
 intro h
 refine B6 h ?_;clear h;intro hc23 h
 refine B4 hc23 ?_
 try simp only[ls]
 conv=>lhs;whnf
 revert h
 intro h
 refine B6 h ?_;clear h;intro hc24 h
 refine B4 hc24 ?_
 try simp only[ls]
 conv=>lhs;whnf
 revert h
 intro h
 refine B6 h ?_;clear h;intro hc25 h
 refine B4 hc25 ?_
 try simp only[ls]
 conv=>lhs;whnf
 revert h
 refine br ?_ ?_
 intro h
 refine B6 h ?_;clear h;intro hc27 h
 refine B4 hc27 ?_
 try simp only[ls]
 conv=>lhs;whnf
 revert h
 intro h
 refine B6 h ?_;clear h;intro hc28 h
 refine B4 hc28 ?_
 try simp only[ls]
 conv=>lhs;whnf
 revert h
 exact rz
 exact rz
theorem Vt:∀ n,Si n
 | 0=>by unfold Si Pu;intros;rename_i h;exact absurd h (by intro h;cases h)
 | n+1=>have ih:=Vt n
   A4i n ih
theorem A4m {n:Nat}:Pu n:=(Vt n)
theorem Tz {n:Nat} ⦃Aa:(List A2)⦄ ⦃r:(List UInt8)⦄:Gk n Aa=some r→CN n 48 [AV.sl 5 (List.map A3 Aa)] []=some (sA r,[]):=by
 intro h;rcases n with _|n;cases h
 rw[Gk] at h
 refine Ai Tryz.func48 (by rfl) rfl rfl (Ap rfl) ?_
 intro call hc;conv=>lhs;whnf
 revert h
 refine ca hc (fun _ h=>So h) ?_;intro y1
 refine br ?_ ?_
 refine ca hc (fun _ h=>A4m h) ?_;intro y4
 exact rz
 exact rz
theorem Sh {n:Nat} ⦃r:(List Bn)⦄:J9 n=some r→CN n 78 [] []=some (AV.sl 4 (List.map Zu r),[]):=by
 intro h;rcases n with _|n;cases h
 rw[J9] at h
 refine Ai Tryz.func78 (by rfl) rfl rfl (Ap rfl) ?_
 intro call hc;conv=>lhs;whnf
 revert h
 exact rz
theorem Hq {n:Nat} ⦃E4:Int⦄ ⦃A7q:(List UInt8)⦄ ⦃p_l:(List A5)⦄ ⦃p_i:Int⦄ ⦃p_e:Int⦄ ⦃p_at:Int⦄ ⦃Al:(List ((List UInt8)×Int))⦄ ⦃r:Bool⦄:Dd n E4 A7q p_l p_i p_e p_at Al=some r→CN n 102 [AV.ptr 0 0,iA E4,sA A7q] [Ob.var 107 [AV.sl 4 (List.map A4 p_l),iA p_i,AV.mapp 1,iA p_e,iA p_at],Ob.mp none false (List.map A8 Al)]=some (bA r,[Ob.var 107 [AV.sl 4 (List.map A4 p_l),iA p_i,AV.mapp 1,iA p_e,iA p_at],Ob.mp none false (List.map A8 Al)]):=by
 intro h;rcases n with _|n;cases h
 rw[Dd] at h
 refine Ai Tryz.func102 (by rfl) rfl rfl (Ap rfl) ?_
 intro call hc;conv=>lhs;whnf
 revert h
 refine br ?_ ?_
 refine ix ?_;intro x2
 refine br ?_ ?_
 refine ix ?_;intro x4
 intro h;cases sj h
 try simp only[ls]
 exact fq (y:=some (bA ((x4.Ac==A7q)),[Ob.var 107 [AV.sl 4 (List.map A4 p_l),iA p_i,AV.mapp 1,iA p_e,iA p_at],Ob.mp none false (List.map A8 Al)]))
 intro h;obtain rfl:=sj h
 try simp only[ls]
 exact fq (y:=some (bA false,[Ob.var 107 [AV.sl 4 (List.map A4 p_l),iA p_i,AV.mapp 1,iA p_e,iA p_at],Ob.mp none false (List.map A8 Al)]))
 intro h;obtain rfl:=sj h
 try simp only[ls]
 exact fq (y:=some (bA false,[Ob.var 107 [AV.sl 4 (List.map A4 p_l),iA p_i,AV.mapp 1,iA p_e,iA p_at],Ob.mp none false (List.map A8 Al)]))
theorem Wu {n:Nat} ⦃Cd:Int⦄ ⦃r:(Bn×Bool)⦄:My n Cd=some r→CN n 118 [iA Cd] []=some (AV.tup [AV.agg [sA r.1.f_word,sA r.1.f_form,bA r.1.f_body,bA r.1.f_more],bA r.2],[]):=by
 intro h;rcases n with _|n;cases h
 rw[My] at h
 refine Ai Tryz.func118 (by rfl) rfl rfl (Ap rfl) ?_
 intro call hc;conv=>lhs;whnf
 revert h
 refine ca hc (fun _ h=>Sh h) ?_;intro y1
 refine br ?_ ?_
 exact rz
 refine br ?_ ?_
 exact rz
 refine ix ?_;intro x5
 exact rz
theorem Yi {n:Nat} ⦃r:Bn⦄:Pp n=some r→CN n 118 [iA (0)] []=some (AV.tup [AV.agg [sA r.f_word,sA r.f_form,bA r.f_body,bA r.f_more],bA false],[]):=by
 intro h;rcases n with _|n;cases h
 rw[Pp] at h
 refine Ai Tryz.func118 (by rfl) rfl rfl (Ap rfl) ?_
 intro call hc;conv=>lhs;whnf
 revert h
 refine ca hc (fun _ h=>Sh h) ?_;intro y1
 exact rz
theorem Jc {n:Nat} ⦃Bb:Int⦄ ⦃p_l:(List A5)⦄ ⦃p_i:Int⦄ ⦃p_e:Int⦄ ⦃p_at:Int⦄ ⦃Al:(List ((List UInt8)×Int))⦄ ⦃r:Int⦄:Ei n Bb p_l p_i p_e p_at Al=some r→CN n 80 [AV.ptr 0 0,iA Bb] [Ob.var 107 [AV.sl 4 (List.map A4 p_l),iA p_i,AV.mapp 1,iA p_e,iA p_at],Ob.mp none false (List.map A8 Al)]=some (iA r,[Ob.var 107 [AV.sl 4 (List.map A4 p_l),iA p_i,AV.mapp 1,iA p_e,iA p_at],Ob.mp none false (List.map A8 Al)]):=by
 intro h;rcases n with _|n;cases h
 rw[Ei] at h
 refine Ai Tryz.func80 (by rfl) rfl rfl (Ap rfl) ?_
 intro call hc;conv=>lhs;whnf
 revert h
 refine br ?_ ?_
 refine ix ?_;intro x2
 intro h;cases sj h
 try simp only[ls]
 exact fq (y:=some (iA x2.Ab,[Ob.var 107 [AV.sl 4 (List.map A4 p_l),iA p_i,AV.mapp 1,iA p_e,iA p_at],Ob.mp none false (List.map A8 Al)]))
 refine br ?_ ?_
 refine ix ?_;intro x4
 refine ix ?_;intro x5
 intro h;cases sj h
 try simp only[ls]
 exact fq (y:=some (iA (IntKind.i64.wrap (x4.Ab+((x5.Ac.length:Nat):Int))),[Ob.var 107 [AV.sl 4 (List.map A4 p_l),iA p_i,AV.mapp 1,iA p_e,iA p_at],Ob.mp none false (List.map A8 Al)]))
 intro h;cases sj h
 try simp only[ls]
 exact fq (y:=some (iA (0),[Ob.var 107 [AV.sl 4 (List.map A4 p_l),iA p_i,AV.mapp 1,iA p_e,iA p_at],Ob.mp none false (List.map A8 Al)]))
theorem Eh {n:Nat} ⦃p_l:(List A5)⦄ ⦃p_i:Int⦄ ⦃p_e:Int⦄ ⦃p_at:Int⦄ ⦃Al:(List ((List UInt8)×Int))⦄ ⦃r:(Int×Int)⦄:D4 n p_l p_i p_e p_at Al=some r→CN n 123 [AV.ptr 0 0] [Ob.var 107 [AV.sl 4 (List.map A4 p_l),iA p_i,AV.mapp 1,iA p_e,iA p_at],Ob.mp none false (List.map A8 Al)]=some (AV.tup [],[Ob.var 107 [AV.sl 4 (List.map A4 p_l),iA p_i,AV.mapp 1,iA r.1,iA r.2],Ob.mp none false (List.map A8 Al)]):=by
 intro h;rcases n with _|n;cases h
 rw[D4] at h
 refine Ai Tryz.func123 (by rfl) rfl rfl (Ap rfl) ?_
 intro call hc;conv=>lhs;whnf
 revert h
 refine br ?_ ?_
 intro h;cases sj h
 try simp only[ls]
 exact fq (y:=some (AV.tup [],[Ob.var 107 [AV.sl 4 (List.map A4 p_l),iA p_i,AV.mapp 1,iA p_e,iA p_at],Ob.mp none false (List.map A8 Al)]))
 refine ca hc (fun _ h=>Jc h) ?_;intro y2
 refine br ?_ ?_
 intro h;cases sj h
 try simp only[ls]
 exact fq (y:=some (AV.tup [],[Ob.var 107 [AV.sl 4 (List.map A4 p_l),iA p_i,AV.mapp 1,iA (6),iA y2],Ob.mp none false (List.map A8 Al)]))
 intro h;cases sj h
 try simp only[ls]
 exact fq (y:=some (AV.tup [],[Ob.var 107 [AV.sl 4 (List.map A4 p_l),iA p_i,AV.mapp 1,iA (5),iA y2],Ob.mp none false (List.map A8 Al)]))
theorem Cg {n:Nat} ⦃Kp:(List UInt8)⦄ ⦃p_l:(List A5)⦄ ⦃p_i:Int⦄ ⦃p_e:Int⦄ ⦃p_at:Int⦄ ⦃Al:(List ((List UInt8)×Int))⦄ ⦃r:(Int×Int×Int)⦄:Bl n Kp p_l p_i p_e p_at Al=some r→CN n 125 [AV.ptr 0 0,sA Kp] [Ob.var 107 [AV.sl 4 (List.map A4 p_l),iA p_i,AV.mapp 1,iA p_e,iA p_at],Ob.mp none false (List.map A8 Al)]=some (AV.tup [],[Ob.var 107 [AV.sl 4 (List.map A4 p_l),iA r.1,AV.mapp 1,iA r.2.1,iA r.2.2],Ob.mp none false (List.map A8 Al)]):=by
 intro h;rcases n with _|n;cases h
 rw[Bl] at h
 refine Ai Tryz.func125 (by rfl) rfl rfl (Ap rfl) ?_
 intro call hc;conv=>lhs;whnf
 revert h
 refine br ?_ ?_
 intro h;cases sj h
 try simp only[ls]
 exact fq (y:=some (AV.tup [],[Ob.var 107 [AV.sl 4 (List.map A4 p_l),iA p_i,AV.mapp 1,iA p_e,iA p_at],Ob.mp none false (List.map A8 Al)]))
 refine ca hc (fun _ h=>Hq h) ?_;intro y2
 refine br ?_ ?_
 intro h;cases sj h
 try simp only[ls]
 exact fq (y:=some (AV.tup [],[Ob.var 107 [AV.sl 4 (List.map A4 p_l),iA (IntKind.i64.wrap (p_i+1)),AV.mapp 1,iA p_e,iA p_at],Ob.mp none false (List.map A8 Al)]))
 refine ca hc (fun _ h=>Eh h) ?_;intro y5
 intro h;cases sj h
 try simp only[ls]
 exact fq (y:=some (AV.tup [],[Ob.var 107 [AV.sl 4 (List.map A4 p_l),iA p_i,AV.mapp 1,iA y5.1,iA y5.2],Ob.mp none false (List.map A8 Al)]))
theorem Rf {n:Nat} ⦃p_l:(List A5)⦄ ⦃p_i:Int⦄ ⦃p_e:Int⦄ ⦃p_at:Int⦄ ⦃Al:(List ((List UInt8)×Int))⦄ ⦃r:((List UInt8)×Int×Int×Int)⦄:Gy n p_l p_i p_e p_at Al=some r→CN n 138 [AV.ptr 0 0] [Ob.var 107 [AV.sl 4 (List.map A4 p_l),iA p_i,AV.mapp 1,iA p_e,iA p_at],Ob.mp none false (List.map A8 Al)]=some (sA r.1,[Ob.var 107 [AV.sl 4 (List.map A4 p_l),iA r.2.1,AV.mapp 1,iA r.2.2.1,iA r.2.2.2],Ob.mp none false (List.map A8 Al)]):=by
 intro h;rcases n with _|n;cases h
 rw[Gy] at h
 refine Ai Tryz.func138 (by rfl) rfl rfl (Ap rfl) ?_
 intro call hc;conv=>lhs;whnf
 revert h
 refine br ?_ ?_
 intro h;cases sj h
 try simp only[ls]
 exact fq (y:=some (sA (([]:List UInt8)),[Ob.var 107 [AV.sl 4 (List.map A4 p_l),iA p_i,AV.mapp 1,iA p_e,iA p_at],Ob.mp none false (List.map A8 Al)]))
 refine br ?_ ?_
 refine ca hc (fun _ h=>Eh h) ?_;intro y3
 intro h;cases sj h
 try simp only[ls]
 exact fq (y:=some (sA (([]:List UInt8)),[Ob.var 107 [AV.sl 4 (List.map A4 p_l),iA p_i,AV.mapp 1,iA y3.1,iA y3.2],Ob.mp none false (List.map A8 Al)]))
 refine ix ?_;intro x5
 refine br ?_ ?_
 refine ca hc (fun _ h=>Eh h) ?_;intro y7
 intro h;cases sj h
 try simp only[ls]
 exact fq (y:=some (sA (([]:List UInt8)),[Ob.var 107 [AV.sl 4 (List.map A4 p_l),iA p_i,AV.mapp 1,iA y7.1,iA y7.2],Ob.mp none false (List.map A8 Al)]))
 refine ix ?_;intro x9
 refine ca hc (fun _ h=>Gc h) ?_;intro y10
 refine br ?_ ?_
 refine ix ?_;intro x13
 intro h;cases sj h
 try simp only[ls]
 exact fq (y:=some (sA x13.Ac,[Ob.var 107 [AV.sl 4 (List.map A4 p_l),iA (IntKind.i64.wrap (p_i+1)),AV.mapp 1,iA p_e,iA p_at],Ob.mp none false (List.map A8 Al)]))
 refine ca hc (fun _ h=>Eh h) ?_;intro y14
 intro h;cases sj h
 try simp only[ls]
 exact fq (y:=some (sA (([]:List UInt8)),[Ob.var 107 [AV.sl 4 (List.map A4 p_l),iA p_i,AV.mapp 1,iA y14.1,iA y14.2],Ob.mp none false (List.map A8 Al)]))
theorem Ve {n:Nat} ⦃Fl:(List A5)⦄ ⦃I4:Int⦄ ⦃I5:Int⦄ ⦃G5:Int⦄ ⦃Fm:(List ((List UInt8)×Int))⦄ ⦃Dg:Int⦄ ⦃Ee:(List UInt8)⦄ ⦃Ef:(List UInt8)⦄ ⦃Hu:(List A2)⦄ ⦃Hv:(List A2)⦄ ⦃G6:Bool⦄ ⦃Dh:Int⦄ ⦃Di:Int⦄ ⦃F6:Int⦄ ⦃r:(Int×Int×Int×(List UInt8))⦄:Io n Fl I4 I5 G5 Fm Dg Ee Ef Hu Hv G6 Dh Di F6=some r→CN n 137 [AV.ptr 0 0,AV.ptr 3 0] [Ob.var 104 [AV.ptr 1 0],Ob.var 107 [AV.sl 4 (List.map A4 Fl),iA I4,AV.mapp 2,iA I5,iA G5],Ob.mp none false (List.map A8 Fm),Ob.var 151 [AV.ptr 4 0],Ob.var 83 [iA Dg,sA Ee,sA Ef,AV.sl 5 (List.map A3 Hu),AV.sl 5 (List.map A3 Hv),bA G6,iA Dh,iA Di,iA F6]]=some (AV.tup [],[Ob.var 104 [AV.ptr 1 0],Ob.var 107 [AV.sl 4 (List.map A4 Fl),iA r.1,AV.mapp 2,iA r.2.1,iA r.2.2.1],Ob.mp none false (List.map A8 Fm),Ob.var 151 [AV.ptr 4 0],Ob.var 83 [iA Dg,sA r.2.2.2,sA Ef,AV.sl 5 (List.map A3 Hu),AV.sl 5 (List.map A3 Hv),bA G6,iA Dh,iA Di,iA F6]]):=by
 intro h;rcases n with _|n;cases h
 rw[Io] at h
 refine Ai Tryz.func137 (by rfl) rfl rfl (Ap rfl) ?_
 intro call hc;conv=>lhs;whnf
 revert h
 refine ca hc (fun _ h=>Rf h) ?_;intro y1
 intro h;cases sj h
 try simp only[ls]
 exact fq (y:=some (AV.tup [],[Ob.var 104 [AV.ptr 1 0],Ob.var 107 [AV.sl 4 (List.map A4 Fl),iA y1.2.1,AV.mapp 2,iA y1.2.2.1,iA y1.2.2.2],Ob.mp none false (List.map A8 Fm),Ob.var 151 [AV.ptr 4 0],Ob.var 83 [iA Dg,sA y1.1,sA Ef,AV.sl 5 (List.map A3 Hu),AV.sl 5 (List.map A3 Hv),bA G6,iA Dh,iA Di,iA F6]]))
theorem V6 {n:Nat} ⦃Fl:(List A5)⦄ ⦃I4:Int⦄ ⦃I5:Int⦄ ⦃G5:Int⦄ ⦃Fm:(List ((List UInt8)×Int))⦄ ⦃Dg:Int⦄ ⦃Ee:(List UInt8)⦄ ⦃Ef:(List UInt8)⦄ ⦃Hu:(List A2)⦄ ⦃Hv:(List A2)⦄ ⦃G6:Bool⦄ ⦃Dh:Int⦄ ⦃Di:Int⦄ ⦃F6:Int⦄ ⦃r:(Int×Int×Int×(List UInt8))⦄:Il n Fl I4 I5 G5 Fm Dg Ee Ef Hu Hv G6 Dh Di F6=some r→CN n 139 [AV.ptr 0 0,AV.ptr 3 0] [Ob.var 104 [AV.ptr 1 0],Ob.var 107 [AV.sl 4 (List.map A4 Fl),iA I4,AV.mapp 2,iA I5,iA G5],Ob.mp none false (List.map A8 Fm),Ob.var 151 [AV.ptr 4 0],Ob.var 83 [iA Dg,sA Ee,sA Ef,AV.sl 5 (List.map A3 Hu),AV.sl 5 (List.map A3 Hv),bA G6,iA Dh,iA Di,iA F6]]=some (AV.tup [],[Ob.var 104 [AV.ptr 1 0],Ob.var 107 [AV.sl 4 (List.map A4 Fl),iA r.1,AV.mapp 2,iA r.2.1,iA r.2.2.1],Ob.mp none false (List.map A8 Fm),Ob.var 151 [AV.ptr 4 0],Ob.var 83 [iA Dg,sA Ee,sA r.2.2.2,AV.sl 5 (List.map A3 Hu),AV.sl 5 (List.map A3 Hv),bA G6,iA Dh,iA Di,iA F6]]):=by
 intro h;rcases n with _|n;cases h
 rw[Il] at h
 refine Ai Tryz.func139 (by rfl) rfl rfl (Ap rfl) ?_
 intro call hc;conv=>lhs;whnf
 revert h
 refine ca hc (fun _ h=>Rf h) ?_;intro y1
 intro h;cases sj h
 try simp only[ls]
 exact fq (y:=some (AV.tup [],[Ob.var 104 [AV.ptr 1 0],Ob.var 107 [AV.sl 4 (List.map A4 Fl),iA y1.2.1,AV.mapp 2,iA y1.2.2.1,iA y1.2.2.2],Ob.mp none false (List.map A8 Fm),Ob.var 151 [AV.ptr 4 0],Ob.var 83 [iA Dg,sA Ee,sA y1.1,AV.sl 5 (List.map A3 Hu),AV.sl 5 (List.map A3 Hv),bA G6,iA Dh,iA Di,iA F6]]))
theorem X1 {n:Nat} ⦃Aa:(List A2)⦄ ⦃r:Bool⦄:J6 n Aa=some r→CN n 122 [AV.sl 5 (List.map A3 Aa)] []=some (bA r,[]):=by
 intro h;rcases n with _|n;cases h
 rw[J6] at h
 refine Ai Tryz.func122 (by rfl) rfl rfl (Ap rfl) ?_
 intro call hc;conv=>lhs;whnf
 revert h
 refine ca hc (fun _ h=>Xd h) ?_;intro y1
 intro h;refine As h ?_;clear h;intro o11 ho11 h
 refine lq (σ:=Int) (τ:=Unit) (ν:=Bool) 0 (fun s3 a5=>B9 18 [(0,AV.sl 5 (List.map A3 Aa)),(6,AV.sl 5 (List.map A3 y1)),(7,iA (((y1.length:Nat):Int))),(8,iA s3)]) (fun s3 a5=>[]) (fun _ a15=>B9 18 [(0,AV.sl 5 (List.map A3 Aa))]) (fun _ a15=>[]) (fun v=>(bA v,[])) (fun k s=>Gd n y1 k s) (fun s=>rfl) o11 n 0 (fun _=>0) ho11 ?_ ?_
 intro k4 s3 a5 K6 cont7 hK8 hcont9 h hr10
 replace h:Gd n y1 (k4+1) s3=some o11:=h
 rw[Gd] at h
 conv=>lhs;whnf
 revert h
 refine br ?_ ?_
 refine ix ?_;intro x13
 refine br ?_ ?_
 intro h;cases sj h
 refine(hK8 _ _).trans ?_
 refine Eq.trans ?_ (Eq.symm (show _=some _ from hr10))
 conv=>lhs;whnf
 exact rq
 exact fun h=>cq (hcont9 (IntKind.i64.wrap (s3+1)) (fun _=>0) h)
 intro h;cases sj h
 exact kq (hr10 (fun _=>0))
 refine lrc ?_ ?_
 intro v e;subst e;cases sj h;rfl
 intro t a15 e;subst e
 dsimp only at h
 conv=>lhs;whnf
 revert h
 refine ca hc (fun _ h=>So h) ?_;intro y16
 exact rz
theorem Rj {n:Nat} ⦃p_l:(List A5)⦄ ⦃p_i:Int⦄ ⦃p_e:Int⦄ ⦃p_at:Int⦄ ⦃Al:(List ((List UInt8)×Int))⦄ ⦃r:((List A2)×Int×Int×Int)⦄:Gx n p_l p_i p_e p_at Al=some r→CN n 141 [AV.ptr 0 0] [Ob.var 107 [AV.sl 4 (List.map A4 p_l),iA p_i,AV.mapp 1,iA p_e,iA p_at],Ob.mp none false (List.map A8 Al)]=some (AV.sl 5 (List.map A3 r.1),[Ob.var 107 [AV.sl 4 (List.map A4 p_l),iA r.2.1,AV.mapp 1,iA r.2.2.1,iA r.2.2.2],Ob.mp none false (List.map A8 Al)]):=by
 intro h;rcases n with _|n;cases h
 rw[Gx] at h
 refine Ai Tryz.func141 (by rfl) rfl rfl (Ap rfl) ?_
 intro call hc;conv=>lhs;whnf
 revert h
 refine br ?_ ?_
 intro h;cases sj h
 try simp only[ls]
 exact fq (y:=some (AV.sl 5 [],[Ob.var 107 [AV.sl 4 (List.map A4 p_l),iA p_i,AV.mapp 1,iA p_e,iA p_at],Ob.mp none false (List.map A8 Al)]))
 refine ca hc (fun _ h=>X9 h) ?_;intro y2
 refine br ?_ ?_
 intro h;cases sj h
 try simp only[ls]
 exact fq (y:=some (AV.sl 5 [],[Ob.var 107 [AV.sl 4 (List.map A4 p_l),iA p_i,AV.mapp 1,iA y2.2.2.1,iA y2.2.2.2],Ob.mp none false (List.map A8 Al)]))
 refine ca hc (fun _ h=>X1 h) ?_;intro y5
 refine br ?_ ?_
 intro h;cases sj h
 try simp only[ls]
 exact fq (y:=some (AV.sl 5 (List.map A3 y2.1),[Ob.var 107 [AV.sl 4 (List.map A4 p_l),iA y2.2.1,AV.mapp 1,iA p_e,iA p_at],Ob.mp none false (List.map A8 Al)]))
 refine ca hc (fun _ h=>Eh h) ?_;intro y8
 intro h;cases sj h
 try simp only[ls]
 exact fq (y:=some (AV.sl 5 [],[Ob.var 107 [AV.sl 4 (List.map A4 p_l),iA p_i,AV.mapp 1,iA y8.1,iA y8.2],Ob.mp none false (List.map A8 Al)]))
theorem V7 {n:Nat} ⦃Fl:(List A5)⦄ ⦃I4:Int⦄ ⦃I5:Int⦄ ⦃G5:Int⦄ ⦃Fm:(List ((List UInt8)×Int))⦄ ⦃Dg:Int⦄ ⦃Ee:(List UInt8)⦄ ⦃Ef:(List UInt8)⦄ ⦃Hu:(List A2)⦄ ⦃Hv:(List A2)⦄ ⦃G6:Bool⦄ ⦃Dh:Int⦄ ⦃Di:Int⦄ ⦃F6:Int⦄ ⦃r:(Int×Int×Int×(List A2))⦄:Ii n Fl I4 I5 G5 Fm Dg Ee Ef Hu Hv G6 Dh Di F6=some r→CN n 140 [AV.ptr 0 0,AV.ptr 3 0] [Ob.var 104 [AV.ptr 1 0],Ob.var 107 [AV.sl 4 (List.map A4 Fl),iA I4,AV.mapp 2,iA I5,iA G5],Ob.mp none false (List.map A8 Fm),Ob.var 151 [AV.ptr 4 0],Ob.var 83 [iA Dg,sA Ee,sA Ef,AV.sl 5 (List.map A3 Hu),AV.sl 5 (List.map A3 Hv),bA G6,iA Dh,iA Di,iA F6]]=some (AV.tup [],[Ob.var 104 [AV.ptr 1 0],Ob.var 107 [AV.sl 4 (List.map A4 Fl),iA r.1,AV.mapp 2,iA r.2.1,iA r.2.2.1],Ob.mp none false (List.map A8 Fm),Ob.var 151 [AV.ptr 4 0],Ob.var 83 [iA Dg,sA Ee,sA Ef,AV.sl 5 (List.map A3 r.2.2.2),AV.sl 5 (List.map A3 Hv),bA G6,iA Dh,iA Di,iA F6]]):=by
 intro h;rcases n with _|n;cases h
 rw[Ii] at h
 refine Ai Tryz.func140 (by rfl) rfl rfl (Ap rfl) ?_
 intro call hc;conv=>lhs;whnf
 revert h
 refine ca hc (fun _ h=>Rj h) ?_;intro y1
 intro h;cases sj h
 try simp only[ls]
 exact fq (y:=some (AV.tup [],[Ob.var 104 [AV.ptr 1 0],Ob.var 107 [AV.sl 4 (List.map A4 Fl),iA y1.2.1,AV.mapp 2,iA y1.2.2.1,iA y1.2.2.2],Ob.mp none false (List.map A8 Fm),Ob.var 151 [AV.ptr 4 0],Ob.var 83 [iA Dg,sA Ee,sA Ef,AV.sl 5 (List.map A3 y1.1),AV.sl 5 (List.map A3 Hv),bA G6,iA Dh,iA Di,iA F6]]))
theorem V1 {n:Nat} ⦃Fl:(List A5)⦄ ⦃I4:Int⦄ ⦃I5:Int⦄ ⦃G5:Int⦄ ⦃Fm:(List ((List UInt8)×Int))⦄ ⦃Dg:Int⦄ ⦃Ee:(List UInt8)⦄ ⦃Ef:(List UInt8)⦄ ⦃Hu:(List A2)⦄ ⦃Hv:(List A2)⦄ ⦃G6:Bool⦄ ⦃Dh:Int⦄ ⦃Di:Int⦄ ⦃F6:Int⦄ ⦃r:(Int×Int×Int×(List A2))⦄:Ij n Fl I4 I5 G5 Fm Dg Ee Ef Hu Hv G6 Dh Di F6=some r→CN n 142 [AV.ptr 0 0,AV.ptr 3 0] [Ob.var 104 [AV.ptr 1 0],Ob.var 107 [AV.sl 4 (List.map A4 Fl),iA I4,AV.mapp 2,iA I5,iA G5],Ob.mp none false (List.map A8 Fm),Ob.var 151 [AV.ptr 4 0],Ob.var 83 [iA Dg,sA Ee,sA Ef,AV.sl 5 (List.map A3 Hu),AV.sl 5 (List.map A3 Hv),bA G6,iA Dh,iA Di,iA F6]]=some (AV.tup [],[Ob.var 104 [AV.ptr 1 0],Ob.var 107 [AV.sl 4 (List.map A4 Fl),iA r.1,AV.mapp 2,iA r.2.1,iA r.2.2.1],Ob.mp none false (List.map A8 Fm),Ob.var 151 [AV.ptr 4 0],Ob.var 83 [iA Dg,sA Ee,sA Ef,AV.sl 5 (List.map A3 Hu),AV.sl 5 (List.map A3 r.2.2.2),bA G6,iA Dh,iA Di,iA F6]]):=by
 intro h;rcases n with _|n;cases h
 rw[Ij] at h
 refine Ai Tryz.func142 (by rfl) rfl rfl (Ap rfl) ?_
 intro call hc;conv=>lhs;whnf
 revert h
 refine ca hc (fun _ h=>Rj h) ?_;intro y1
 intro h;cases sj h
 try simp only[ls]
 exact fq (y:=some (AV.tup [],[Ob.var 104 [AV.ptr 1 0],Ob.var 107 [AV.sl 4 (List.map A4 Fl),iA y1.2.1,AV.mapp 2,iA y1.2.2.1,iA y1.2.2.2],Ob.mp none false (List.map A8 Fm),Ob.var 151 [AV.ptr 4 0],Ob.var 83 [iA Dg,sA Ee,sA Ef,AV.sl 5 (List.map A3 Hu),AV.sl 5 (List.map A3 y1.1),bA G6,iA Dh,iA Di,iA F6]]))
theorem Vc {n:Nat} ⦃Fl:(List A5)⦄ ⦃I4:Int⦄ ⦃I5:Int⦄ ⦃G5:Int⦄ ⦃Fm:(List ((List UInt8)×Int))⦄ ⦃Dg:Int⦄ ⦃Ee:(List UInt8)⦄ ⦃Ef:(List UInt8)⦄ ⦃Hu:(List A2)⦄ ⦃Hv:(List A2)⦄ ⦃G6:Bool⦄ ⦃Dh:Int⦄ ⦃Di:Int⦄ ⦃F6:Int⦄ ⦃r:(Int×Int×Int×Bool)⦄:In n Fl I4 I5 G5 Fm Dg Ee Ef Hu Hv G6 Dh Di F6=some r→CN n 143 [AV.ptr 0 0,AV.ptr 3 0] [Ob.var 104 [AV.ptr 1 0],Ob.var 107 [AV.sl 4 (List.map A4 Fl),iA I4,AV.mapp 2,iA I5,iA G5],Ob.mp none false (List.map A8 Fm),Ob.var 151 [AV.ptr 4 0],Ob.var 83 [iA Dg,sA Ee,sA Ef,AV.sl 5 (List.map A3 Hu),AV.sl 5 (List.map A3 Hv),bA G6,iA Dh,iA Di,iA F6]]=some (AV.tup [],[Ob.var 104 [AV.ptr 1 0],Ob.var 107 [AV.sl 4 (List.map A4 Fl),iA r.1,AV.mapp 2,iA r.2.1,iA r.2.2.1],Ob.mp none false (List.map A8 Fm),Ob.var 151 [AV.ptr 4 0],Ob.var 83 [iA Dg,sA Ee,sA Ef,AV.sl 5 (List.map A3 Hu),AV.sl 5 (List.map A3 Hv),bA r.2.2.2,iA Dh,iA Di,iA F6]]):=by
 intro h;rcases n with _|n;cases h
 rw[In] at h
 refine Ai Tryz.func143 (by rfl) rfl rfl (Ap rfl) ?_
 intro call hc;conv=>lhs;whnf
 revert h
 refine ca hc (fun _ h=>Hq h) ?_;intro y1
 refine br ?_ ?_
 intro h;cases sj h
 try simp only[ls]
 exact fq (y:=some (AV.tup [],[Ob.var 104 [AV.ptr 1 0],Ob.var 107 [AV.sl 4 (List.map A4 Fl),iA (IntKind.i64.wrap (I4+1)),AV.mapp 2,iA I5,iA G5],Ob.mp none false (List.map A8 Fm),Ob.var 151 [AV.ptr 4 0],Ob.var 83 [iA Dg,sA Ee,sA Ef,AV.sl 5 (List.map A3 Hu),AV.sl 5 (List.map A3 Hv),bA true,iA Dh,iA Di,iA F6]]))
 refine ca hc (fun _ h=>Cg h) ?_;intro y4
 intro h;cases sj h
 try simp only[ls]
 exact fq (y:=some (AV.tup [],[Ob.var 104 [AV.ptr 1 0],Ob.var 107 [AV.sl 4 (List.map A4 Fl),iA y4.1,AV.mapp 2,iA y4.2.1,iA y4.2.2],Ob.mp none false (List.map A8 Fm),Ob.var 151 [AV.ptr 4 0],Ob.var 83 [iA Dg,sA Ee,sA Ef,AV.sl 5 (List.map A3 Hu),AV.sl 5 (List.map A3 Hv),bA false,iA Dh,iA Di,iA F6]]))
def Ma (n:Nat):Prop:=∀ ⦃F3:Int⦄ ⦃p_l:(List A5)⦄ ⦃p_i:Int⦄ ⦃p_e:Int⦄ ⦃p_at:Int⦄ ⦃Al:(List ((List UInt8)×Int))⦄ ⦃r:((List A0)×Int×Int×Int)⦄,Bu n F3 p_l p_i p_e p_at Al=some r→CN n 126 [AV.ptr 0 0,iA F3] [Ob.var 107 [AV.sl 4 (List.map A4 p_l),iA p_i,AV.mapp 1,iA p_e,iA p_at],Ob.mp none false (List.map A8 Al)]=some (AV.sl 9 (List.map A9 r.1),[Ob.var 107 [AV.sl 4 (List.map A4 p_l),iA r.2.1,AV.mapp 1,iA r.2.2.1,iA r.2.2.2],Ob.mp none false (List.map A8 Al)])
def Kb (n:Nat):Prop:=∀ ⦃F3:Int⦄ ⦃p_l:(List A5)⦄ ⦃p_i:Int⦄ ⦃p_e:Int⦄ ⦃p_at:Int⦄ ⦃Al:(List ((List UInt8)×Int))⦄ ⦃r:((List A0)×Int×Int×Int)⦄,C3 n F3 p_l p_i p_e p_at Al=some r→CN n 79 [AV.ptr 0 0,iA F3] [Ob.var 107 [AV.sl 4 (List.map A4 p_l),iA p_i,AV.mapp 1,iA p_e,iA p_at],Ob.mp none false (List.map A8 Al)]=some (AV.sl 9 (List.map A9 r.1),[Ob.var 107 [AV.sl 4 (List.map A4 p_l),iA r.2.1,AV.mapp 1,iA r.2.2.1,iA r.2.2.2],Ob.mp none false (List.map A8 Al)])
def O1 (n:Nat):Prop:=∀ ⦃F3:Int⦄ ⦃p_l:(List A5)⦄ ⦃p_i:Int⦄ ⦃p_e:Int⦄ ⦃p_at:Int⦄ ⦃Al:(List ((List UInt8)×Int))⦄ ⦃r:((List A0)×Int×Int×Int)⦄,Bw n F3 p_l p_i p_e p_at Al=some r→CN n 103 [AV.ptr 0 0,iA F3] [Ob.var 107 [AV.sl 4 (List.map A4 p_l),iA p_i,AV.mapp 1,iA p_e,iA p_at],Ob.mp none false (List.map A8 Al)]=some (AV.sl 9 (List.map A9 r.1),[Ob.var 107 [AV.sl 4 (List.map A4 p_l),iA r.2.1,AV.mapp 1,iA r.2.2.1,iA r.2.2.2],Ob.mp none false (List.map A8 Al)])
def Jf (n:Nat):Prop:=Ma n∧Kb n∧O1 n
theorem Wg (n:Nat) (ih:Jf n):Ma (n+1):=by
 intro F3 p_l p_i p_e p_at Al r h
 rw[Bu] at h
 refine Ai Tryz.func126 (by rfl) rfl rfl (Ap rfl) ?_
 intro call hc;conv=>lhs;whnf
 revert h
 refine br ?_ ?_
 refine ca hc (fun _ h=>Hq h) ?_;intro y2
 refine br ?_ ?_
 refine br ?_ ?_
 refine ca hc (fun _ h=>Jc h) ?_;intro y6
 refine ca hc (fun _ h=>Cg h) ?_;intro y8
 refine ca hc (fun _ h=>ih.2.1 h) ?_;intro y10
 refine ca hc (fun _ h=>Cg h) ?_;intro y12
 intro h;cases sj h
 try simp only[ls]
 exact fq (y:=some (AV.sl 9 (List.map A9 y10.1),[Ob.var 107 [AV.sl 4 (List.map A4 p_l),iA y12.1,AV.mapp 1,iA y12.2.1,iA y12.2.2],Ob.mp none false (List.map A8 Al)]))
 refine ca hc (fun _ h=>Cg h) ?_;intro y14
 refine ca hc (fun _ h=>ih.2.1 h) ?_;intro y16
 refine ca hc (fun _ h=>Cg h) ?_;intro y18
 intro h;cases sj h
 try simp only[ls]
 exact fq (y:=some (AV.sl 9 (List.map A9 y16.1),[Ob.var 107 [AV.sl 4 (List.map A4 p_l),iA y18.1,AV.mapp 1,iA y18.2.1,iA y18.2.2],Ob.mp none false (List.map A8 Al)]))
 refine ca hc (fun _ h=>Cg h) ?_;intro y20
 refine ca hc (fun _ h=>ih.2.1 h) ?_;intro y22
 refine ca hc (fun _ h=>Cg h) ?_;intro y24
 intro h;cases sj h
 try simp only[ls]
 exact fq (y:=some (AV.sl 9 (List.map A9 y22.1),[Ob.var 107 [AV.sl 4 (List.map A4 p_l),iA y24.1,AV.mapp 1,iA y24.2.1,iA y24.2.2],Ob.mp none false (List.map A8 Al)]))
 refine ca hc (fun _ h=>Cg h) ?_;intro y26
 refine ca hc (fun _ h=>ih.2.1 h) ?_;intro y28
 refine ca hc (fun _ h=>Cg h) ?_;intro y30
 intro h;cases sj h
 try simp only[ls]
 exact fq (y:=some (AV.sl 9 (List.map A9 y28.1),[Ob.var 107 [AV.sl 4 (List.map A4 p_l),iA y30.1,AV.mapp 1,iA y30.2.1,iA y30.2.2],Ob.mp none false (List.map A8 Al)]))
theorem Xp (n:Nat) (ih:Jf n):Kb (n+1):=by
 intro F3 p_l p_i p_e p_at Al r h
 rw[C3] at h
 refine Ai Tryz.func79 (by rfl) rfl rfl (Ap rfl) ?_
 intro call hc;conv=>lhs;whnf
 revert h
 intro h;refine As h ?_;clear h;intro o12 ho12 h
 refine lq (σ:=(Int×Int×Int×(List A0))) (τ:=(Int×Int×Int×(List A0))) (ν:=((List A0)×Int×Int×Int)) 0 (fun(s1,s2,s3,s4) a6=>B9 34 [(0,AV.ptr 0 0),(1,iA F3),(5,AV.row 2 (List.length s4))]) (fun(s1,s2,s3,s4) a6=>[Ob.var 107 [AV.sl 4 (List.map A4 p_l),iA s1,AV.mapp 1,iA s2,iA s3],Ob.mp none false (List.map A8 Al),Ob.row 83 9 (List.map A9 s4)]) (fun(x23,x24,x25,x26) a22=>B9 34 [(5,AV.row 2 (List.length x26))]) (fun(x23,x24,x25,x26) a22=>[Ob.var 107 [AV.sl 4 (List.map A4 p_l),iA x23,AV.mapp 1,iA x24,iA x25],Ob.mp none false (List.map A8 Al),Ob.row 83 9 (List.map A9 x26)]) (fun v=>(AV.sl 9 (List.map A9 v.1),[Ob.var 107 [AV.sl 4 (List.map A4 p_l),iA v.2.1,AV.mapp 1,iA v.2.2.1,iA v.2.2.2],Ob.mp none false (List.map A8 Al)])) (fun k s=>C5 n (Bw n) F3 p_l Al k s.1 s.2.1 s.2.2.1 s.2.2.2) (fun s=>rfl) o12 n (p_i,p_e,p_at,([]:List A0)) (fun _=>0) ho12 ?_ ?_
 intro k5 ss a6 K7 cont8 hK9 hcont10 h hr11
 obtain⟨s1,s2,s3,s4⟩:=ss
 replace h:C5 n (Bw n) F3 p_l Al (k5+1) s1 s2 s3 s4=some o12:=h
 rw[C5] at h
 conv=>lhs;whnf
 revert h
 refine br ?_ ?_
 refine br ?_ ?_
 refine ca hc (fun _ h=>Hq h) ?_;intro y15
 refine br ?_ ?_
 intro h;cases sj h
 exact kq (hr11 (fun _=>0))
 refine ca hc (fun _ h=>ih.2.2 h) ?_;intro y18
 refine ar (ap A9 (List.map A9 s4) s4 (List.map A9 y18.1) y18.1) ?_
 exact fun h=>cq (hcont10 (y18.2.1,y18.2.2.1,y18.2.2.2,(s4++y18.1)) (fun _=>0) h)
 intro h;cases sj h
 exact kq (hr11 (fun _=>0))
 intro h;cases sj h
 exact kq (hr11 (fun _=>0))
 refine lrc ?_ ?_
 intro v e;subst e;cases sj h;rfl
 intro t a22 e;subst e
 obtain⟨x23,x24,x25,x26⟩:=t
 dsimp only at h
 conv=>lhs;whnf
 revert h
 intro h;cases sj h
 try simp only[ls]
 exact fq (y:=some (AV.sl 9 (List.take (List.length x26) (List.map A9 x26)),[Ob.var 107 [AV.sl 4 (List.map A4 p_l),iA x23,AV.mapp 1,iA x24,iA x25],Ob.mp none false (List.map A8 Al)]))
theorem Y1 (n:Nat) (ih:Jf n):O1 (n+1):=by
 intro F3 p_l p_i p_e p_at Al r h
 rw[Bw] at h
 refine W7 Tryz.func103 (by rfl) rfl rfl (Ap rfl) ?_
 intro call hc hcA;conv=>lhs;whnf
 revert h
 refine br ?_ ?_
 refine ix ?_;intro x2
 refine br ?_ ?_
 refine ix ?_;intro x4
 intro h
 simp only[Tu,ls]
 conv=>lhs;whnf
 revert h
 refine ca hc (fun _ h=>Wu h) ?_;intro y5
 refine br ?_ ?_
 refine ca hc (fun _ h=>Jc h) ?_;intro y8
 intro h
 obtain⟨n10,hn14,h⟩:=Lt h
 obtain⟨call11,hc12,ho13⟩:=Hx (f:=124) (args:=[AV.ptr 0 0,AV.ptr 2 0]) (hp:=[Ob.var 107 [AV.sl 4 (List.map A4 p_l),iA (IntKind.i64.wrap (p_i+1)),AV.mapp 1,iA p_e,iA p_at],Ob.mp none false (List.map A8 Al),Ob.var 83 [iA ((Bf Al x4.Ac 0)),sA (([]:List UInt8)),sA (([]:List UInt8)),AV.sl 5 [],AV.sl 5 [],bA false,iA (0),iA (0),iA y8]]) hcA hn14 Tryz.func124 (by rfl) rfl rfl (Ap rfl)
 try simp only[ls]
 simp only[ho13]
 conv=>lhs;whnf
 revert h
 intro h;refine As h ?_;clear h;intro o31 ho31 h
 refine lq (σ:=(Int×Int×Int×Int×(List UInt8)×(List UInt8)×(List A2)×(List A2)×Bool)) (τ:=(Int×Int×Int×(List UInt8)×(List UInt8)×(List A2)×(List A2)×Bool)) (ν:=((List A0)×Int×Int×Int)) 0 (fun(s15,s16,s17,s18,s19,s20,s21,s22,s23) a25=>B9 157 [(0,AV.ptr 0 0),(1,iA F3),(6,AV.ptr 2 0),(8,AV.ptr 3 0),(9,AV.mapp 6),(84,iA (((y5.1.f_form.length:Nat):Int))),(85,iA s15)]) (fun(s15,s16,s17,s18,s19,s20,s21,s22,s23) a25=>[Ob.var 107 [AV.sl 4 (List.map A4 p_l),iA s16,AV.mapp 1,iA s17,iA s18],Ob.mp none false (List.map A8 Al),Ob.var 111 [sA y5.1.f_word,sA y5.1.f_form,bA y5.1.f_body,bA y5.1.f_more],Ob.var 83 [iA ((Bf Al x4.Ac 0)),sA s19,sA s20,AV.sl 5 (List.map A3 s21),AV.sl 5 (List.map A3 s22),bA s23,iA (0),iA (0),iA y8],Ob.var 104 [AV.ptr 0 0],Ob.var 151 [AV.ptr 3 0],Ob.mpo (some .u8) [[AV.int .u8 (114),AV.func 137 [] [AV.ptr 4 0,AV.ptr 5 0]],[AV.int .u8 (108),AV.func 139 [] [AV.ptr 4 0,AV.ptr 5 0]],[AV.int .u8 (101),AV.func 140 [] [AV.ptr 4 0,AV.ptr 5 0]],[AV.int .u8 (102),AV.func 142 [] [AV.ptr 4 0,AV.ptr 5 0]],[AV.int .u8 (113),AV.func 143 [] [AV.ptr 4 0,AV.ptr 5 0]]]]) (fun(x73,x74,x75,x76,x77,x78,x79,x80) a72=>B9 157 [(0,AV.ptr 0 0),(1,iA F3),(6,AV.ptr 2 0),(8,AV.ptr 3 0)]) (fun(x73,x74,x75,x76,x77,x78,x79,x80) a72=>[Ob.var 107 [AV.sl 4 (List.map A4 p_l),iA x73,AV.mapp 1,iA x74,iA x75],Ob.mp none false (List.map A8 Al),Ob.var 111 [sA y5.1.f_word,sA y5.1.f_form,bA y5.1.f_body,bA y5.1.f_more],Ob.var 83 [iA ((Bf Al x4.Ac 0)),sA x76,sA x77,AV.sl 5 (List.map A3 x78),AV.sl 5 (List.map A3 x79),bA x80,iA (0),iA (0),iA y8],Ob.var 104 [AV.ptr 0 0],Ob.var 151 [AV.ptr 3 0],Ob.mpo (some .u8) [[AV.int .u8 (114),AV.func 137 [] [AV.ptr 4 0,AV.ptr 5 0]],[AV.int .u8 (108),AV.func 139 [] [AV.ptr 4 0,AV.ptr 5 0]],[AV.int .u8 (101),AV.func 140 [] [AV.ptr 4 0,AV.ptr 5 0]],[AV.int .u8 (102),AV.func 142 [] [AV.ptr 4 0,AV.ptr 5 0]],[AV.int .u8 (113),AV.func 143 [] [AV.ptr 4 0,AV.ptr 5 0]]]]) (fun v=>(AV.sl 9 (List.map A9 v.1),[Ob.var 107 [AV.sl 4 (List.map A4 p_l),iA v.2.1,AV.mapp 1,iA v.2.2.1,iA v.2.2.2],Ob.mp none false (List.map A8 Al)])) (fun k s=>B8 n p_l Al x4 y5 y8 k s.1 s.2.1 s.2.2.1 s.2.2.2.1 s.2.2.2.2.1 s.2.2.2.2.2.1 s.2.2.2.2.2.2.1 s.2.2.2.2.2.2.2.1 s.2.2.2.2.2.2.2.2) (fun s=>rfl) o31 n (0,IntKind.i64.wrap (p_i+1),p_e,p_at,([]:List UInt8),([]:List UInt8),([]:List A2),([]:List A2),false) (fun _=>0) ho31 ?_ ?_
 intro k24 ss a25 K26 cont27 hK28 hcont29 h hr30
 obtain⟨s15,s16,s17,s18,s19,s20,s21,s22,s23⟩:=ss
 replace h:B8 n p_l Al x4 y5 y8 (k24+1) s15 s16 s17 s18 s19 s20 s21 s22 s23=some o31:=h
 rw[B8] at h
 conv=>lhs;whnf
 revert h
 refine br ?_ ?_
 refine ixs ?_;intro x33
 refine br ?_ ?_
 refine br ?_ ?_
 refine ca hc (fun _ h=>Ve h) ?_;intro y36
 exact fun h=>cq (hcont29 (IntKind.i64.wrap (s15+1),y36.1,y36.2.1,y36.2.2.1,y36.2.2.2,s20,s21,s22,s23) (fun _=>0) h)
 refine cp ?_
 refine cr hc (fun _ h=>Cg h) ?_;intro y39
 exact fun h=>cq (hcont29 (IntKind.i64.wrap (s15+1),y39.1,y39.2.1,y39.2.2,s19,s20,s21,s22,s23) (fun _=>0) h)
 refine br ?_ ?_
 refine br ?_ ?_
 refine ca hc (fun _ h=>V6 h) ?_;intro y43
 exact fun h=>cq (hcont29 (IntKind.i64.wrap (s15+1),y43.1,y43.2.1,y43.2.2.1,s19,y43.2.2.2,s21,s22,s23) (fun _=>0) h)
 refine cp ?_
 refine cr hc (fun _ h=>Cg h) ?_;intro y46
 exact fun h=>cq (hcont29 (IntKind.i64.wrap (s15+1),y46.1,y46.2.1,y46.2.2,s19,s20,s21,s22,s23) (fun _=>0) h)
 refine br ?_ ?_
 refine br ?_ ?_
 refine ca hc (fun _ h=>V7 h) ?_;intro y50
 exact fun h=>cq (hcont29 (IntKind.i64.wrap (s15+1),y50.1,y50.2.1,y50.2.2.1,s19,s20,y50.2.2.2,s22,s23) (fun _=>0) h)
 refine cp ?_
 refine cr hc (fun _ h=>Cg h) ?_;intro y53
 exact fun h=>cq (hcont29 (IntKind.i64.wrap (s15+1),y53.1,y53.2.1,y53.2.2,s19,s20,s21,s22,s23) (fun _=>0) h)
 refine br ?_ ?_
 refine br ?_ ?_
 refine ca hc (fun _ h=>V1 h) ?_;intro y57
 exact fun h=>cq (hcont29 (IntKind.i64.wrap (s15+1),y57.1,y57.2.1,y57.2.2.1,s19,s20,s21,y57.2.2.2,s23) (fun _=>0) h)
 refine cp ?_
 refine cr hc (fun _ h=>Cg h) ?_;intro y60
 exact fun h=>cq (hcont29 (IntKind.i64.wrap (s15+1),y60.1,y60.2.1,y60.2.2,s19,s20,s21,s22,s23) (fun _=>0) h)
 refine br ?_ ?_
 refine br ?_ ?_
 refine ca hc (fun _ h=>Vc h) ?_;intro y64
 exact fun h=>cq (hcont29 (IntKind.i64.wrap (s15+1),y64.1,y64.2.1,y64.2.2.1,s19,s20,s21,s22,y64.2.2.2) (fun _=>0) h)
 refine cp ?_
 refine cr hc (fun _ h=>Cg h) ?_;intro y67
 exact fun h=>cq (hcont29 (IntKind.i64.wrap (s15+1),y67.1,y67.2.1,y67.2.2,s19,s20,s21,s22,s23) (fun _=>0) h)
 refine cp ?_
 refine cr hc (fun _ h=>Cg h) ?_;intro y70
 exact fun h=>cq (hcont29 (IntKind.i64.wrap (s15+1),y70.1,y70.2.1,y70.2.2,s19,s20,s21,s22,s23) (fun _=>0) h)
 intro h;cases sj h
 exact kq (hr30 (fun _=>0))
 refine lrc ?_ ?_
 intro v e;subst e;cases sj h;rfl
 intro t a72 e;subst e
 obtain⟨x73,x74,x75,x76,x77,x78,x79,x80⟩:=t
 dsimp only at h
 conv=>lhs;whnf
 revert h
 refine br ?_ ?_
 refine ca hc (fun _ h=>ih.1 h) ?_;intro y82
 refine br ?_ ?_
 refine br ?_ ?_
 refine ca hc (fun _ h=>Hq h) ?_;intro y86
 refine br ?_ ?_
 refine ca hc (fun _ h=>ih.1 h) ?_;intro y89
 refine ar (ap A9 ([[iA ((Bf Al x4.Ac 0)),sA x76,sA x77,AV.sl 5 (List.map A3 x78),AV.sl 5 (List.map A3 x79),bA x80,iA (((y82.1.length:Nat):Int)),iA (((y89.1.length:Nat):Int)),iA y8]]) ([(⟨(Bf Al x4.Ac 0),x76,x77,x78,x79,x80,((y82.1.length:Nat):Int),((y89.1.length:Nat):Int),y8⟩:A0)]:List A0) (List.map A9 y82.1) y82.1) ?_
 refine ar (ap A9 (List.map A9 (([(⟨(Bf Al x4.Ac 0),x76,x77,x78,x79,x80,((y82.1.length:Nat):Int),((y89.1.length:Nat):Int),y8⟩:A0)]:List A0)++y82.1)) (([(⟨(Bf Al x4.Ac 0),x76,x77,x78,x79,x80,((y82.1.length:Nat):Int),((y89.1.length:Nat):Int),y8⟩:A0)]:List A0)++y82.1) (List.map A9 y89.1) y89.1) ?_
 intro h;cases sj h
 try simp only[ls]
 exact fq (y:=some (AV.sl 9 (List.take (List.length (((([(⟨(Bf Al x4.Ac 0),x76,x77,x78,x79,x80,((y82.1.length:Nat):Int),((y89.1.length:Nat):Int),y8⟩:A0)]:List A0)++y82.1)++y89.1))) (List.map A9 ((([(⟨(Bf Al x4.Ac 0),x76,x77,x78,x79,x80,((y82.1.length:Nat):Int),((y89.1.length:Nat):Int),y8⟩:A0)]:List A0)++y82.1)++y89.1))),[Ob.var 107 [AV.sl 4 (List.map A4 p_l),iA y89.2.1,AV.mapp 1,iA y89.2.2.1,iA y89.2.2.2],Ob.mp none false (List.map A8 Al)]))
 refine ar (ap A9 ([[iA ((Bf Al x4.Ac 0)),sA x76,sA x77,AV.sl 5 (List.map A3 x78),AV.sl 5 (List.map A3 x79),bA x80,iA (((y82.1.length:Nat):Int)),iA (0),iA y8]]) ([(⟨(Bf Al x4.Ac 0),x76,x77,x78,x79,x80,((y82.1.length:Nat):Int),0,y8⟩:A0)]:List A0) (List.map A9 y82.1) y82.1) ?_
 intro h
 refine B6 h ?_;clear h;intro hc99 h
 first|refine B4 (Lu hc99 (by first|rfl|simp only [Au]) (by first|rfl|simp only [Au]) (by first|rfl|simp only [Au,C0]) (by kernel_rfl)) ?_|refine B4 (Jq hc99 (by first|rfl|simp only [Au]) (by first|rfl|simp only [Au,C0]) (by kernel_rfl)) ?_
 have hp97:(List.map A9 (([(⟨(Bf Al x4.Ac 0),x76,x77,x78,x79,x80,((y82.1.length:Nat):Int),0,y8⟩:A0)]:List A0)++y82.1):List (List AV))++([]:List (List AV))=(List.map A9 (([(⟨(Bf Al x4.Ac 0),x76,x77,x78,x79,x80,((y82.1.length:Nat):Int),0,y8⟩:A0)]:List A0)++y82.1):List (List AV)):=List.append_nil _
 have hl98:List.length (List.map A9 (([(⟨(Bf Al x4.Ac 0),x76,x77,x78,x79,x80,((y82.1.length:Nat):Int),0,y8⟩:A0)]:List A0)++y82.1):List (List AV))+List.length ([]:List (List AV))=List.length (List.map A9 (([(⟨(Bf Al x4.Ac 0),x76,x77,x78,x79,x80,((y82.1.length:Nat):Int),0,y8⟩:A0)]:List A0)++y82.1):List (List AV)):=rfl
 have hl98_b:List.length (([(⟨(Bf Al x4.Ac 0),x76,x77,x78,x79,x80,((y82.1.length:Nat):Int),0,y8⟩:A0)]:List A0)++y82.1)+List.length ([]:List (List AV))=List.length (([(⟨(Bf Al x4.Ac 0),x76,x77,x78,x79,x80,((y82.1.length:Nat):Int),0,y8⟩:A0)]:List A0)++y82.1):=rfl
 try simp only[ls,c0]
 try simp only[hp97,hl98,hl98_b]
 try simp only[ls]
 conv=>lhs;whnf
 revert h
 intro h;cases sj h
 try simp only[ls]
 exact fq (y:=some (AV.sl 9 (List.take (List.length ((([(⟨(Bf Al x4.Ac 0),x76,x77,x78,x79,x80,((y82.1.length:Nat):Int),0,y8⟩:A0)]:List A0)++y82.1))) (List.map A9 (([(⟨(Bf Al x4.Ac 0),x76,x77,x78,x79,x80,((y82.1.length:Nat):Int),0,y8⟩:A0)]:List A0)++y82.1))),[Ob.var 107 [AV.sl 4 (List.map A4 p_l),iA y82.2.1,AV.mapp 1,iA y82.2.2.1,iA y82.2.2.2],Ob.mp none false (List.map A8 Al)]))
 refine ar (ap A9 ([[iA ((Bf Al x4.Ac 0)),sA x76,sA x77,AV.sl 5 (List.map A3 x78),AV.sl 5 (List.map A3 x79),bA x80,iA (((y82.1.length:Nat):Int)),iA (0),iA y8]]) ([(⟨(Bf Al x4.Ac 0),x76,x77,x78,x79,x80,((y82.1.length:Nat):Int),0,y8⟩:A0)]:List A0) (List.map A9 y82.1) y82.1) ?_
 intro h
 refine B6 h ?_;clear h;intro hc104 h
 first|refine B4 (Lu hc104 (by first|rfl|simp only [Au]) (by first|rfl|simp only [Au]) (by first|rfl|simp only [Au,C0]) (by kernel_rfl)) ?_|refine B4 (Jq hc104 (by first|rfl|simp only [Au]) (by first|rfl|simp only [Au,C0]) (by kernel_rfl)) ?_
 have hp102:(List.map A9 (([(⟨(Bf Al x4.Ac 0),x76,x77,x78,x79,x80,((y82.1.length:Nat):Int),0,y8⟩:A0)]:List A0)++y82.1):List (List AV))++([]:List (List AV))=(List.map A9 (([(⟨(Bf Al x4.Ac 0),x76,x77,x78,x79,x80,((y82.1.length:Nat):Int),0,y8⟩:A0)]:List A0)++y82.1):List (List AV)):=List.append_nil _
 have hl103:List.length (List.map A9 (([(⟨(Bf Al x4.Ac 0),x76,x77,x78,x79,x80,((y82.1.length:Nat):Int),0,y8⟩:A0)]:List A0)++y82.1):List (List AV))+List.length ([]:List (List AV))=List.length (List.map A9 (([(⟨(Bf Al x4.Ac 0),x76,x77,x78,x79,x80,((y82.1.length:Nat):Int),0,y8⟩:A0)]:List A0)++y82.1):List (List AV)):=rfl
 have hl103_b:List.length (([(⟨(Bf Al x4.Ac 0),x76,x77,x78,x79,x80,((y82.1.length:Nat):Int),0,y8⟩:A0)]:List A0)++y82.1)+List.length ([]:List (List AV))=List.length (([(⟨(Bf Al x4.Ac 0),x76,x77,x78,x79,x80,((y82.1.length:Nat):Int),0,y8⟩:A0)]:List A0)++y82.1):=rfl
 try simp only[ls,c0]
 try simp only[hp102,hl103,hl103_b]
 try simp only[ls]
 conv=>lhs;whnf
 revert h
 intro h;cases sj h
 try simp only[ls]
 exact fq (y:=some (AV.sl 9 (List.take (List.length ((([(⟨(Bf Al x4.Ac 0),x76,x77,x78,x79,x80,((y82.1.length:Nat):Int),0,y8⟩:A0)]:List A0)++y82.1))) (List.map A9 (([(⟨(Bf Al x4.Ac 0),x76,x77,x78,x79,x80,((y82.1.length:Nat):Int),0,y8⟩:A0)]:List A0)++y82.1))),[Ob.var 107 [AV.sl 4 (List.map A4 p_l),iA y82.2.1,AV.mapp 1,iA y82.2.2.1,iA y82.2.2.2],Ob.mp none false (List.map A8 Al)]))
 refine ar (ap A9 ([[iA ((Bf Al x4.Ac 0)),sA x76,sA x77,AV.sl 5 (List.map A3 x78),AV.sl 5 (List.map A3 x79),bA x80,iA (((y82.1.length:Nat):Int)),iA (0),iA y8]]) ([(⟨(Bf Al x4.Ac 0),x76,x77,x78,x79,x80,((y82.1.length:Nat):Int),0,y8⟩:A0)]:List A0) (List.map A9 y82.1) y82.1) ?_
 intro h
 refine B6 h ?_;clear h;intro hc109 h
 first|refine B4 (Lu hc109 (by first|rfl|simp only [Au]) (by first|rfl|simp only [Au]) (by first|rfl|simp only [Au,C0]) (by kernel_rfl)) ?_|refine B4 (Jq hc109 (by first|rfl|simp only [Au]) (by first|rfl|simp only [Au,C0]) (by kernel_rfl)) ?_
 have hp107:(List.map A9 (([(⟨(Bf Al x4.Ac 0),x76,x77,x78,x79,x80,((y82.1.length:Nat):Int),0,y8⟩:A0)]:List A0)++y82.1):List (List AV))++([]:List (List AV))=(List.map A9 (([(⟨(Bf Al x4.Ac 0),x76,x77,x78,x79,x80,((y82.1.length:Nat):Int),0,y8⟩:A0)]:List A0)++y82.1):List (List AV)):=List.append_nil _
 have hl108:List.length (List.map A9 (([(⟨(Bf Al x4.Ac 0),x76,x77,x78,x79,x80,((y82.1.length:Nat):Int),0,y8⟩:A0)]:List A0)++y82.1):List (List AV))+List.length ([]:List (List AV))=List.length (List.map A9 (([(⟨(Bf Al x4.Ac 0),x76,x77,x78,x79,x80,((y82.1.length:Nat):Int),0,y8⟩:A0)]:List A0)++y82.1):List (List AV)):=rfl
 have hl108_b:List.length (([(⟨(Bf Al x4.Ac 0),x76,x77,x78,x79,x80,((y82.1.length:Nat):Int),0,y8⟩:A0)]:List A0)++y82.1)+List.length ([]:List (List AV))=List.length (([(⟨(Bf Al x4.Ac 0),x76,x77,x78,x79,x80,((y82.1.length:Nat):Int),0,y8⟩:A0)]:List A0)++y82.1):=rfl
 try simp only[ls,c0]
 try simp only[hp107,hl108,hl108_b]
 try simp only[ls]
 conv=>lhs;whnf
 revert h
 intro h;cases sj h
 try simp only[ls]
 exact fq (y:=some (AV.sl 9 (List.take (List.length ((([(⟨(Bf Al x4.Ac 0),x76,x77,x78,x79,x80,((y82.1.length:Nat):Int),0,y8⟩:A0)]:List A0)++y82.1))) (List.map A9 (([(⟨(Bf Al x4.Ac 0),x76,x77,x78,x79,x80,((y82.1.length:Nat):Int),0,y8⟩:A0)]:List A0)++y82.1))),[Ob.var 107 [AV.sl 4 (List.map A4 p_l),iA y82.2.1,AV.mapp 1,iA y82.2.2.1,iA y82.2.2.2],Ob.mp none false (List.map A8 Al)]))
 refine br ?_ ?_
 refine br ?_ ?_
 refine ca hc (fun _ h=>Hq h) ?_;intro y112
 refine br ?_ ?_
 refine ca hc (fun _ h=>ih.1 h) ?_;intro y115
 intro h
 have hp117:([[iA ((Bf Al x4.Ac 0)),sA x76,sA x77,AV.sl 5 (List.map A3 x78),AV.sl 5 (List.map A3 x79),bA x80,iA (0),iA (((y115.1.length:Nat):Int)),iA y8]]:List (List AV))++([]:List (List AV))=([[iA ((Bf Al x4.Ac 0)),sA x76,sA x77,AV.sl 5 (List.map A3 x78),AV.sl 5 (List.map A3 x79),bA x80,iA (0),iA (((y115.1.length:Nat):Int)),iA y8]]:List (List AV)):=List.append_nil _
 have hl118:List.length ([[iA ((Bf Al x4.Ac 0)),sA x76,sA x77,AV.sl 5 (List.map A3 x78),AV.sl 5 (List.map A3 x79),bA x80,iA (0),iA (((y115.1.length:Nat):Int)),iA y8]]:List (List AV))+List.length ([]:List (List AV))=List.length ([[iA ((Bf Al x4.Ac 0)),sA x76,sA x77,AV.sl 5 (List.map A3 x78),AV.sl 5 (List.map A3 x79),bA x80,iA (0),iA (((y115.1.length:Nat):Int)),iA y8]]:List (List AV)):=rfl
 have hl118_b:List.length ([(⟨(Bf Al x4.Ac 0),x76,x77,x78,x79,x80,0,((y115.1.length:Nat):Int),y8⟩:A0)]:List A0)+List.length ([]:List (List AV))=List.length ([(⟨(Bf Al x4.Ac 0),x76,x77,x78,x79,x80,0,((y115.1.length:Nat):Int),y8⟩:A0)]:List A0):=rfl
 try simp only[ls,c0]
 try simp only[hp117,hl118,hl118_b]
 conv=>lhs;whnf
 revert h
 refine ar (ap A9 ([[iA ((Bf Al x4.Ac 0)),sA x76,sA x77,AV.sl 5 (List.map A3 x78),AV.sl 5 (List.map A3 x79),bA x80,iA (0),iA (((y115.1.length:Nat):Int)),iA y8]]) ([(⟨(Bf Al x4.Ac 0),x76,x77,x78,x79,x80,0,((y115.1.length:Nat):Int),y8⟩:A0)]:List A0) (List.map A9 y115.1) y115.1) ?_
 intro h;cases sj h
 try simp only[ls]
 exact fq (y:=some (AV.sl 9 (List.take (List.length ((([(⟨(Bf Al x4.Ac 0),x76,x77,x78,x79,x80,0,((y115.1.length:Nat):Int),y8⟩:A0)]:List A0)++y115.1))) (List.map A9 (([(⟨(Bf Al x4.Ac 0),x76,x77,x78,x79,x80,0,((y115.1.length:Nat):Int),y8⟩:A0)]:List A0)++y115.1))),[Ob.var 107 [AV.sl 4 (List.map A4 p_l),iA y115.2.1,AV.mapp 1,iA y115.2.2.1,iA y115.2.2.2],Ob.mp none false (List.map A8 Al)]))
 intro h
 have hp121:([[iA ((Bf Al x4.Ac 0)),sA x76,sA x77,AV.sl 5 (List.map A3 x78),AV.sl 5 (List.map A3 x79),bA x80,iA (0),iA (0),iA y8]]:List (List AV))++([]:List (List AV))=([[iA ((Bf Al x4.Ac 0)),sA x76,sA x77,AV.sl 5 (List.map A3 x78),AV.sl 5 (List.map A3 x79),bA x80,iA (0),iA (0),iA y8]]:List (List AV)):=List.append_nil _
 have hl122:List.length ([[iA ((Bf Al x4.Ac 0)),sA x76,sA x77,AV.sl 5 (List.map A3 x78),AV.sl 5 (List.map A3 x79),bA x80,iA (0),iA (0),iA y8]]:List (List AV))+List.length ([]:List (List AV))=List.length ([[iA ((Bf Al x4.Ac 0)),sA x76,sA x77,AV.sl 5 (List.map A3 x78),AV.sl 5 (List.map A3 x79),bA x80,iA (0),iA (0),iA y8]]:List (List AV)):=rfl
 have hl122_b:List.length ([(⟨(Bf Al x4.Ac 0),x76,x77,x78,x79,x80,0,0,y8⟩:A0)]:List A0)+List.length ([]:List (List AV))=List.length ([(⟨(Bf Al x4.Ac 0),x76,x77,x78,x79,x80,0,0,y8⟩:A0)]:List A0):=rfl
 try simp only[ls,c0]
 try simp only[hp121,hl122,hl122_b]
 conv=>lhs;whnf
 revert h
 intro h
 have hp123:([[iA ((Bf Al x4.Ac 0)),sA x76,sA x77,AV.sl 5 (List.map A3 x78),AV.sl 5 (List.map A3 x79),bA x80,iA (0),iA (0),iA y8]]:List (List AV))++([]:List (List AV))=([[iA ((Bf Al x4.Ac 0)),sA x76,sA x77,AV.sl 5 (List.map A3 x78),AV.sl 5 (List.map A3 x79),bA x80,iA (0),iA (0),iA y8]]:List (List AV)):=List.append_nil _
 have hl124:List.length ([[iA ((Bf Al x4.Ac 0)),sA x76,sA x77,AV.sl 5 (List.map A3 x78),AV.sl 5 (List.map A3 x79),bA x80,iA (0),iA (0),iA y8]]:List (List AV))+List.length ([]:List (List AV))=List.length ([[iA ((Bf Al x4.Ac 0)),sA x76,sA x77,AV.sl 5 (List.map A3 x78),AV.sl 5 (List.map A3 x79),bA x80,iA (0),iA (0),iA y8]]:List (List AV)):=rfl
 have hl124_b:List.length ([(⟨(Bf Al x4.Ac 0),x76,x77,x78,x79,x80,0,0,y8⟩:A0)]:List A0)+List.length ([]:List (List AV))=List.length ([(⟨(Bf Al x4.Ac 0),x76,x77,x78,x79,x80,0,0,y8⟩:A0)]:List A0):=rfl
 try simp only[ls,c0]
 try simp only[hp123,hl124,hl124_b]
 conv=>lhs;whnf
 revert h
 intro h;cases sj h
 try simp only[ls]
 exact fq (y:=some (AV.sl 9 (List.take (List.length (([(⟨(Bf Al x4.Ac 0),x76,x77,x78,x79,x80,0,0,y8⟩:A0)]:List A0))) ([[iA ((Bf Al x4.Ac 0)),sA x76,sA x77,AV.sl 5 (List.map A3 x78),AV.sl 5 (List.map A3 x79),bA x80,iA (0),iA (0),iA y8]])),[Ob.var 107 [AV.sl 4 (List.map A4 p_l),iA x73,AV.mapp 1,iA x74,iA x75],Ob.mp none false (List.map A8 Al)]))
 intro h
 have hp125:([[iA ((Bf Al x4.Ac 0)),sA x76,sA x77,AV.sl 5 (List.map A3 x78),AV.sl 5 (List.map A3 x79),bA x80,iA (0),iA (0),iA y8]]:List (List AV))++([]:List (List AV))=([[iA ((Bf Al x4.Ac 0)),sA x76,sA x77,AV.sl 5 (List.map A3 x78),AV.sl 5 (List.map A3 x79),bA x80,iA (0),iA (0),iA y8]]:List (List AV)):=List.append_nil _
 have hl126:List.length ([[iA ((Bf Al x4.Ac 0)),sA x76,sA x77,AV.sl 5 (List.map A3 x78),AV.sl 5 (List.map A3 x79),bA x80,iA (0),iA (0),iA y8]]:List (List AV))+List.length ([]:List (List AV))=List.length ([[iA ((Bf Al x4.Ac 0)),sA x76,sA x77,AV.sl 5 (List.map A3 x78),AV.sl 5 (List.map A3 x79),bA x80,iA (0),iA (0),iA y8]]:List (List AV)):=rfl
 have hl126_b:List.length ([(⟨(Bf Al x4.Ac 0),x76,x77,x78,x79,x80,0,0,y8⟩:A0)]:List A0)+List.length ([]:List (List AV))=List.length ([(⟨(Bf Al x4.Ac 0),x76,x77,x78,x79,x80,0,0,y8⟩:A0)]:List A0):=rfl
 try simp only[ls,c0]
 try simp only[hp125,hl126,hl126_b]
 conv=>lhs;whnf
 revert h
 intro h
 have hp127:([[iA ((Bf Al x4.Ac 0)),sA x76,sA x77,AV.sl 5 (List.map A3 x78),AV.sl 5 (List.map A3 x79),bA x80,iA (0),iA (0),iA y8]]:List (List AV))++([]:List (List AV))=([[iA ((Bf Al x4.Ac 0)),sA x76,sA x77,AV.sl 5 (List.map A3 x78),AV.sl 5 (List.map A3 x79),bA x80,iA (0),iA (0),iA y8]]:List (List AV)):=List.append_nil _
 have hl128:List.length ([[iA ((Bf Al x4.Ac 0)),sA x76,sA x77,AV.sl 5 (List.map A3 x78),AV.sl 5 (List.map A3 x79),bA x80,iA (0),iA (0),iA y8]]:List (List AV))+List.length ([]:List (List AV))=List.length ([[iA ((Bf Al x4.Ac 0)),sA x76,sA x77,AV.sl 5 (List.map A3 x78),AV.sl 5 (List.map A3 x79),bA x80,iA (0),iA (0),iA y8]]:List (List AV)):=rfl
 have hl128_b:List.length ([(⟨(Bf Al x4.Ac 0),x76,x77,x78,x79,x80,0,0,y8⟩:A0)]:List A0)+List.length ([]:List (List AV))=List.length ([(⟨(Bf Al x4.Ac 0),x76,x77,x78,x79,x80,0,0,y8⟩:A0)]:List A0):=rfl
 try simp only[ls,c0]
 try simp only[hp127,hl128,hl128_b]
 conv=>lhs;whnf
 revert h
 intro h;cases sj h
 try simp only[ls]
 exact fq (y:=some (AV.sl 9 (List.take (List.length (([(⟨(Bf Al x4.Ac 0),x76,x77,x78,x79,x80,0,0,y8⟩:A0)]:List A0))) ([[iA ((Bf Al x4.Ac 0)),sA x76,sA x77,AV.sl 5 (List.map A3 x78),AV.sl 5 (List.map A3 x79),bA x80,iA (0),iA (0),iA y8]])),[Ob.var 107 [AV.sl 4 (List.map A4 p_l),iA x73,AV.mapp 1,iA x74,iA x75],Ob.mp none false (List.map A8 Al)]))
 intro h
 have hp129:([[iA ((Bf Al x4.Ac 0)),sA x76,sA x77,AV.sl 5 (List.map A3 x78),AV.sl 5 (List.map A3 x79),bA x80,iA (0),iA (0),iA y8]]:List (List AV))++([]:List (List AV))=([[iA ((Bf Al x4.Ac 0)),sA x76,sA x77,AV.sl 5 (List.map A3 x78),AV.sl 5 (List.map A3 x79),bA x80,iA (0),iA (0),iA y8]]:List (List AV)):=List.append_nil _
 have hl130:List.length ([[iA ((Bf Al x4.Ac 0)),sA x76,sA x77,AV.sl 5 (List.map A3 x78),AV.sl 5 (List.map A3 x79),bA x80,iA (0),iA (0),iA y8]]:List (List AV))+List.length ([]:List (List AV))=List.length ([[iA ((Bf Al x4.Ac 0)),sA x76,sA x77,AV.sl 5 (List.map A3 x78),AV.sl 5 (List.map A3 x79),bA x80,iA (0),iA (0),iA y8]]:List (List AV)):=rfl
 have hl130_b:List.length ([(⟨(Bf Al x4.Ac 0),x76,x77,x78,x79,x80,0,0,y8⟩:A0)]:List A0)+List.length ([]:List (List AV))=List.length ([(⟨(Bf Al x4.Ac 0),x76,x77,x78,x79,x80,0,0,y8⟩:A0)]:List A0):=rfl
 try simp only[ls,c0]
 try simp only[hp129,hl130,hl130_b]
 conv=>lhs;whnf
 revert h
 intro h
 have hp131:([[iA ((Bf Al x4.Ac 0)),sA x76,sA x77,AV.sl 5 (List.map A3 x78),AV.sl 5 (List.map A3 x79),bA x80,iA (0),iA (0),iA y8]]:List (List AV))++([]:List (List AV))=([[iA ((Bf Al x4.Ac 0)),sA x76,sA x77,AV.sl 5 (List.map A3 x78),AV.sl 5 (List.map A3 x79),bA x80,iA (0),iA (0),iA y8]]:List (List AV)):=List.append_nil _
 have hl132:List.length ([[iA ((Bf Al x4.Ac 0)),sA x76,sA x77,AV.sl 5 (List.map A3 x78),AV.sl 5 (List.map A3 x79),bA x80,iA (0),iA (0),iA y8]]:List (List AV))+List.length ([]:List (List AV))=List.length ([[iA ((Bf Al x4.Ac 0)),sA x76,sA x77,AV.sl 5 (List.map A3 x78),AV.sl 5 (List.map A3 x79),bA x80,iA (0),iA (0),iA y8]]:List (List AV)):=rfl
 have hl132_b:List.length ([(⟨(Bf Al x4.Ac 0),x76,x77,x78,x79,x80,0,0,y8⟩:A0)]:List A0)+List.length ([]:List (List AV))=List.length ([(⟨(Bf Al x4.Ac 0),x76,x77,x78,x79,x80,0,0,y8⟩:A0)]:List A0):=rfl
 try simp only[ls,c0]
 try simp only[hp131,hl132,hl132_b]
 conv=>lhs;whnf
 revert h
 intro h;cases sj h
 try simp only[ls]
 exact fq (y:=some (AV.sl 9 (List.take (List.length (([(⟨(Bf Al x4.Ac 0),x76,x77,x78,x79,x80,0,0,y8⟩:A0)]:List A0))) ([[iA ((Bf Al x4.Ac 0)),sA x76,sA x77,AV.sl 5 (List.map A3 x78),AV.sl 5 (List.map A3 x79),bA x80,iA (0),iA (0),iA y8]])),[Ob.var 107 [AV.sl 4 (List.map A4 p_l),iA x73,AV.mapp 1,iA x74,iA x75],Ob.mp none false (List.map A8 Al)]))
 refine ca hc (fun _ h=>Eh h) ?_;intro y134
 intro h;cases sj h
 try simp only[ls]
 exact fq (y:=some (AV.sl 9 [],[Ob.var 107 [AV.sl 4 (List.map A4 p_l),iA p_i,AV.mapp 1,iA y134.1,iA y134.2],Ob.mp none false (List.map A8 Al)]))
 refine ca hc (fun _ h=>Yi h) ?_;intro y136
 refine ca hc (fun _ h=>Eh h) ?_;intro y138
 intro h;cases sj h
 try simp only[ls]
 exact fq (y:=some (AV.sl 9 [],[Ob.var 107 [AV.sl 4 (List.map A4 p_l),iA p_i,AV.mapp 1,iA y138.1,iA y138.2],Ob.mp none false (List.map A8 Al)]))
 refine ca hc (fun _ h=>Yi h) ?_;intro y140
 refine ca hc (fun _ h=>Eh h) ?_;intro y142
 intro h;cases sj h
 try simp only[ls]
 exact fq (y:=some (AV.sl 9 [],[Ob.var 107 [AV.sl 4 (List.map A4 p_l),iA p_i,AV.mapp 1,iA y142.1,iA y142.2],Ob.mp none false (List.map A8 Al)]))
theorem Ql:∀ n,Jf n
 | 0=>⟨by unfold Ma;intros;rename_i h;exact absurd h (by intro h;cases h),by unfold Kb;intros;rename_i h;exact absurd h (by intro h;cases h),by unfold O1;intros;rename_i h;exact absurd h (by intro h;cases h)⟩
 | n+1=>have ih:=Ql n
   ⟨Wg n ih,Xp n ih,Y1 n ih⟩
theorem Xo {n:Nat}:Kb n:=(Ql n).2.1
end Go.Proofs.YtnijlelbihnamaaGreat
end
