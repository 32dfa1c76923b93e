/- Parts of the proofs: what they lean on. Conditions: none. -/
import Derived.Test.YtnijlelbihnamaaProgBlanksP1
section
namespace Go.Proofs.Ytnijlelbihnamaa
set_option linter.unusedVariables false
set_option linter.unusedSimpArgs false
set_option maxRecDepth 10000
theorem Adr (n:Nat) (l:List Tk) (i:Nat) (a b:Int) (m:Mp):D5 (n+1) 1 [101,108,115,101] l (i:Int) a b m=some (Kj l i):=by
 rw[D5]
 by_cases h:i < l.length
 ·rw[Ah (by omega),Cp h,A4,A4]
  unfold Kj
  rw[Ao h]
  dsimp only
  cases l[i].At==1<;>simp
 ·rw[B9 (by omega)]
  unfold Kj
  rw[List.getElem?_eq_none (by omega)]
theorem Aly (n:Nat) {k:Int} (h0:0≤k) (h1:k≤13):∃ w,Pw (n+2) k=some (if k=0 then(⟨[],[],false,false⟩,false) else(⟨w,Cr k,Fa k,k==10⟩,true)):=by
 have c:k=0∨k=1∨k=2∨k=3∨k=4∨k=5∨k=6∨k=7∨k=8∨k=9∨k=10∨k=11∨k=12∨k=13:=by omega
 rcases c with rfl | rfl | rfl | rfl | rfl | rfl | rfl | rfl | rfl | rfl | rfl | rfl | rfl | rfl<;>first | exact⟨[],rfl⟩ | exact⟨_,rfl⟩
theorem Alu {l:List Tk} {n i:Nat} {inn:Int} (hl:l.length < 1000000) (hi:i < l.length) (hk:Aq l i=0):Bq (n+5) inn l (i:Int) 0 0 Bu=some ([],(i:Int),5,Ba l i):=by
 have hd:decide ((i:Int) < ((l.length:Nat):Int))=true:=by simpa using hi
 have he:El l i=5:=by unfold El;rw[if_pos hi]
 obtain⟨w,hof⟩:=Aly (n+2) (k:=0) (by decide) (by decide)
 rw[if_pos rfl] at hof
 have hkk:=hk
 unfold Aq at hk
 rw[Ao hi] at hk
 dsimp only at hk
 rw[Bq,hd,Ac,Cp hi,A4]
 by_cases h1:l[i].At=1
 ·rw[if_pos h1] at hk
  have hk:B6 Bu l[i].A7 0=0:=hk
  rw[h1,beq_self_eq_true,Ac,A4,hk,hof,A4,Aw,A03 (n+2) l i Bu hl,he];rfl
 ·rw[show(l[i].At==1)=false by rw[beq_eq_false_iff_ne];exact h1,Aw,show On (n+4)=some ⟨[],[],false,false⟩ from rfl,A4,A03 (n+2) l i Bu hl,he];rfl
theorem A2b {l:List Tk} {n:Nat} {inn i e a:Int} (m:Mp) (he:e≠0):C0 (n+2) inn l i e a m=some ([],i,e,a):=by
 rw[C0,C4,show(e==0)=false by rw[beq_eq_false_iff_ne];exact he];rfl
theorem Agj {l:List Tk} {n:Nat} {inn i e a:Int} (m:Mp) (he:e≠0):Bn (n+4) inn l i e a m=some ([],i,e,a):=by
 rw[Bn,show(e==0)=false by rw[beq_eq_false_iff_ne];exact he,Aw,Pq _ _ _ _ _ _ _ he,A4]
 dsimp only
 rw[A2b m he,A4]
 dsimp only
 rw[Pq _ _ _ _ _ _ _ he];rfl
noncomputable def Vd (n:Nat) (inn:Int) (l:List Tk) (K P:Int) (o:LR (Int×Int×Int×(List UInt8)×(List UInt8)×(List Nd)×(List Nd)×Bool) Adf):Option Adf:=match o with
 | .out (x73,x74,x75,x76,x77,x78,x79,x80) =>
  bif Fa K then((Bn n inn l x73 x74 x75 Bu).bind fun y82 =>
   bif K==10 then(bif y82.2.2.1==0 then((D5 n 1 [101,108,115,101] l y82.2.1 y82.2.2.1 y82.2.2.2 Bu).bind fun y86 =>
    bif y86 then((Bn n inn l (IntKind.i64.wrap (y82.2.1+1)) y82.2.2.1 y82.2.2.2 Bu).bind fun y89 =>
     (bif decide ((([(⟨K,x76,x77,x78,x79,x80,((y82.1.length:Nat):Int),((y89.1.length:Nat):Int),P⟩:St)]:List St).length+y82.1.length)*121≤140737488355328) then(bif decide (((([(⟨K,x76,x77,x78,x79,x80,((y82.1.length:Nat):Int),((y89.1.length:Nat):Int),P⟩:St)]:List St)++y82.1).length+y89.1.length)*121≤140737488355328) then some ((([(⟨K,x76,x77,x78,x79,x80,((y82.1.length:Nat):Int),((y89.1.length:Nat):Int),P⟩:St)]:List St)++y82.1)++y89.1,y89.2.1,y89.2.2.1,y89.2.2.2) else none) else none))
    else(bif decide ((([(⟨K,x76,x77,x78,x79,x80,((y82.1.length:Nat):Int),0,P⟩:St)]:List St).length+y82.1.length)*121≤140737488355328) then(bif decide (((([(⟨K,x76,x77,x78,x79,x80,((y82.1.length:Nat):Int),0,P⟩:St)]:List St)++y82.1).length+0)*121≤140737488355328) then some (([(⟨K,x76,x77,x78,x79,x80,((y82.1.length:Nat):Int),0,P⟩:St)]:List St)++y82.1,y82.2.1,y82.2.2.1,y82.2.2.2) else none) else none))
    else(bif decide ((([(⟨K,x76,x77,x78,x79,x80,((y82.1.length:Nat):Int),0,P⟩:St)]:List St).length+y82.1.length)*121≤140737488355328) then(bif decide (((([(⟨K,x76,x77,x78,x79,x80,((y82.1.length:Nat):Int),0,P⟩:St)]:List St)++y82.1).length+0)*121≤140737488355328) then some (([(⟨K,x76,x77,x78,x79,x80,((y82.1.length:Nat):Int),0,P⟩:St)]:List St)++y82.1,y82.2.1,y82.2.2.1,y82.2.2.2) else none) else none))
   else(bif decide ((([(⟨K,x76,x77,x78,x79,x80,((y82.1.length:Nat):Int),0,P⟩:St)]:List St).length+y82.1.length)*121≤140737488355328) then(bif decide (((([(⟨K,x76,x77,x78,x79,x80,((y82.1.length:Nat):Int),0,P⟩:St)]:List St)++y82.1).length+0)*121≤140737488355328) then some (([(⟨K,x76,x77,x78,x79,x80,((y82.1.length:Nat):Int),0,P⟩:St)]:List St)++y82.1,y82.2.1,y82.2.2.1,y82.2.2.2) else none) else none))
  else some ([(⟨K,x76,x77,x78,x79,x80,0,0,P⟩:St)],x73,x74,x75)
 | .ret v=>some v
theorem Ald {K:Int} (h:Fa K=false):(K==10)=false:=by
 cases hq:K==10 with
 | false=>rfl
 | true=>rw[Fa,hq] at h;cases h
theorem Tw {l:List Tk} {n i:Nat} {inn:Int} (hl:l.length < 1000000) (h0:Aq l i≠0):∃ (t:Tk) (w:List UInt8),Bq (n+5) inn l (i:Int) 0 0 Bu=(Az (n+4) l Bu t (⟨w,Cr (Aq l i),Fa (Aq l i),Aq l i==10⟩,true) (Ba l i) (n+4) 0 ((i+1:Nat):Int) 0 0 [] [] [] [] false).bind (Vd (n+4) inn l (Aq l i) (Ba l i)):=by
 have hi:=C3 h0
 have hd:decide ((i:Int) < ((l.length:Nat):Int))=true:=by simpa using hi
 obtain⟨k0,k1⟩:=A5f l i
 obtain⟨w,hof⟩:=Aly (n+2) k0 k1
 rw[if_neg h0] at hof
 have h1:l[i].At=1:=by
  by_cases h:l[i].At=1
  ·exact h
  ·unfold Aq at h0;rw[List.getElem?_eq_getElem hi] at h0;dsimp only at h0;rw[if_neg h] at h0;exact absurd rfl h0
 have hm:B6 Bu l[i].A7 0=Aq l i:=by unfold Aq;rw[List.getElem?_eq_getElem hi];dsimp only;rw[if_pos h1];rfl
 refine⟨l[i],w,?_⟩
 rw[Bq,hd,Ac,Cp hi,A4,h1,beq_self_eq_true,Ac,A4,hm,hof,A4]
 dsimp only
 rw[Ac,A0o (n+3) l i _ _ _ Bu hl,A4,Bx i (by omega)]
 rw[show Rg (n+4)=fun f=>f (n+3) from rfl]
 dsimp only
 congr 1
 funext o
 cases o with
 | ret v=>rfl
 | out x =>
  obtain⟨x73,x74,x75,x76,x77,x78,x79,x80⟩:=x
  dsimp only [Vd]
  cases hb:Fa (Aq l i) with
  | true=>rfl
  | false=>rw[Ald hb];rfl
theorem Tt {T:Nat} {l:List Tk} (hk:Toks T l) {n i:Nat} (hn:12*l.length+T+900≤n) (hi:i≤l.length) (t:Tk) (w:List UInt8) (K P:Int) :
 match Gd l (exQ l) (Cr K) i fs0 with
 | .ok s j=>Az n l Bu t (⟨w,Cr K,Fa K,K==10⟩,true) P n 0 (i:Int) 0 0 [] [] [] [] false=some (.out ((j:Int),0,0,s.reg,s.loc,s.e,s.f,s.ne))
 | .bad e a=>∃ (i':Int) (s:Fs),Az n l Bu t (⟨w,Cr K,Fa K,K==10⟩,true) P n 0 (i:Int) 0 0 [] [] [] [] false=some (.out (i',e,a,s.reg,s.loc,s.e,s.f,s.ne)):=by
 have hf:=Ai2 K
 exact Aip hk hn Bu t (⟨w,Cr K,Fa K,K==10⟩,true) P (Cr K) [] i n fs0 (by rw[List.nil_append]) hi (by rw[List.nil_append];omega) (by omega)
theorem O5 {l:List Tk} {n k i:Nat} {inn:Int} {out X:List St} {p e a:Int} (h0:i < l.length) (h1:Bl l i [125]=false) (h:Bq (n+1) inn l (i:Int) 0 0 Bu=some (X,p,e,a)) (hs:out.length+X.length < 1000000000) :
 C4 (n+1) (Bq (n+1)) inn l Bu (k+1) (i:Int) 0 0 out=C4 (n+1) (Bq (n+1)) inn l Bu k p e a (out++X):=by
 rw[C4,beq_self_eq_true,Ac,Ah (by omega),Yg,h1,A4,Aw,h,A4]
 dsimp only
 rw[Ah (by omega)]
theorem Xr {l:List Tk} {n k:Nat} {inn p e a:Int} {out:List St} (he:e≠0):C4 n (Bq n) inn l Bu (k+1) p e a out=some (.out (p,e,a,out)):=by
 rw[C4,show(e==0)=false by rw[beq_eq_false_iff_ne];exact he,Aw]
theorem An9 {T:Nat} {l:List Tk} (hk:Toks T l) {md:Bool} {inn i:Nat} {r:SR} (h:SE l md inn i r):i≤l.length→inn≤30→match md with
 | false=>∀ (n k:Nat) (out:List St),12*l.length+T+900+6*(l.length - i)+20≤n→l.length - i+1 < k→out.length≤i→(match r with
   | .ok x tu=>C4 n (Bq n) (inn:Int) l Bu k (i:Int) 0 0 out=some (.out ((tu:Int),0,0,out++x))
   | .bad e a=>∃ (X:List St) (p:Int),C4 n (Bq n) (inn:Int) l Bu k (i:Int) 0 0 out=some (.out (p,e,a,X))∧X.length≤out.length+2*(l.length - i)+2)
 | true=>∀ n:Nat,12*l.length+T+900+6*(l.length - i)+24≤n→(match r with
   | .ok x tu=>Bn n (inn:Int) l (i:Int) 0 0 Bu=some (x,(tu:Int),0,0)
   | .bad e a=>∃ (X:List St) (p:Int),Bn n (inn:Int) l (i:Int) 0 0 Bu=some (X,p,e,a)∧X.length≤2*(l.length - i)+2):=by
 have hl:=hk.len
 induction h with
 | @stop inn i h1 =>
  intro hi hn n k out hf hkk ho
  obtain⟨k,rfl⟩:∃ j,k=j+1:=⟨k - 1,by omega⟩
  obtain⟨n,rfl⟩:∃ j,n=j+1:=⟨n - 1,by omega⟩
  show C4 _ _ _ _ _ _ _ _ _ _=some (LR.out ((i:Int),0,0,out++[]))
  rw[List.append_nil,C4,beq_self_eq_true,Ac]
  by_cases h2:i < l.length
  ·rw[Ah (by omega),Yg,(h1.resolve_left (by omega))];rfl
  ·rw[B9 (by omega)]
 | @no inn i h1 h2 h3 =>
  intro hi hn n k out hf hkk ho
  obtain⟨k,rfl⟩:∃ j,k=j+2:=⟨k - 2,by omega⟩
  obtain⟨n,rfl⟩:∃ j,n=j+5:=⟨n - 5,by omega⟩
  refine⟨out,(i:Int),?_,by omega⟩
  rw[O5 (n:=n+4) h1 h2 (Alu (by omega) h1 h3) (by simp;omega),Xr (by decide),List.append_nil]
 | @fbad inn i e a h1 h2 =>
  intro hi hn n k out hf hkk ho
  obtain⟨k,rfl⟩:∃ j,k=j+2:=⟨k - 2,by omega⟩
  obtain⟨n,rfl⟩:∃ j,n=j+10:=⟨n - 10,by omega⟩
  have hlt:=C3 h1
  have hne:e≠0:=by
   have:=A0t hk (Cr (Aq l i)) (i+1) fs0 hlt
   rw[h2] at this;exact this
  have hb:(e==0)=false:=by rw[beq_eq_false_iff_ne];exact hne
  obtain⟨t,w,ho1⟩:=Tw (n:=n+5) (inn:=(inn:Int)) (show l.length < 1000000 by omega) h1
  have hx:=Tt hk (n:=n+9) (by omega) hlt t w (Aq l i) (Ba l i)
  rw[h2] at hx
  obtain⟨i',s,hx⟩:=hx
  have h5:Bq (n+10) (inn:Int) l (i:Int) 0 0 Bu=some ([⟨Aq l i,s.reg,s.loc,s.e,s.f,s.ne,0,0,Ba l i⟩],i',e,a):=by
   rw[ho1,hx,A4]
   dsimp only [Vd]
   rw[Agj Bu hne]
   cases Fa (Aq l i)<;>cases (Aq l i==10)<;>simp[hb]
  refine⟨out++[⟨Aq l i,s.reg,s.loc,s.e,s.f,s.ne,0,0,Ba l i⟩],i',?_,?_⟩
  ·rw[O5 (n:=n+9) hlt (Mu h1 _) h5 (by simp;omega),Xr hne]
  ·simp;omega
 | @simple inn i j s r h1 h2 h3 h4 ih =>
  intro hi hn n k out hf hkk ho
  obtain⟨k,rfl⟩:∃ j,k=j+1:=⟨k - 1,by omega⟩
  have h5:=E2 hk (C3 h1) h3
  have hlt:=C3 h1
  have h6:=ih h5.2 hn n k (out++[mkS (Aq l i) s 0 0 (Ba l i)]) (by omega) (by omega) (by simp;omega)
  obtain⟨n,rfl⟩:∃ j,n=j+10:=⟨n - 10,by omega⟩
  obtain⟨t,w,ho1⟩:=Tw (n:=n+5) (inn:=(inn:Int)) (show l.length < 1000000 by omega) h1
  have hx:=Tt hk (n:=n+9) (by omega) hlt t w (Aq l i) (Ba l i)
  rw[h3] at hx
  have hx:Az (n+9) l Bu t _ (Ba l i) (n+9) 0 ((i+1:Nat):Int) 0 0 [] [] [] [] false=_:=hx
  have h7:Bq (n+10) (inn:Int) l (i:Int) 0 0 Bu=some ([mkS (Aq l i) s 0 0 (Ba l i)],(j:Int),0,0):=by
   rw[ho1,hx,A4]
   dsimp only [Vd]
   rw[h2];rfl
  rw[O5 (n:=n+9) hlt (Mu h1 _) h7 (by simp;omega)]
  cases r with
  | ok x tu=>dsimp only [P9] at h6 ⊢;rw[h6,List.append_assoc]
  | bad e a =>
   obtain⟨X,p,g1,g2⟩:=h6
   exact⟨X,p,g1,by simp at g2;omega⟩
 | @bbad inn i j s e a h1 h2 h3 h4 ih =>
  intro hi hn n k out hf hkk ho
  obtain⟨k,rfl⟩:∃ j,k=j+2:=⟨k - 2,by omega⟩
  have h5:=E2 hk (C3 h1) h3
  have hlt:=C3 h1
  have hne:e≠0:=If hk h4 h5.2
  have hb:(e==0)=false:=by rw[beq_eq_false_iff_ne];exact hne
  obtain⟨n,rfl⟩:∃ j,n=j+10:=⟨n - 10,by omega⟩
  obtain⟨X,p,g1,g2⟩:=ih h5.2 hn (n+9) (by omega)
  obtain⟨t,w,ho1⟩:=Tw (n:=n+5) (inn:=(inn:Int)) (show l.length < 1000000 by omega) h1
  have hx:=Tt hk (n:=n+9) (by omega) hlt t w (Aq l i) (Ba l i)
  rw[h3] at hx
  have hx:Az (n+9) l Bu t _ (Ba l i) (n+9) 0 ((i+1:Nat):Int) 0 0 [] [] [] [] false=_:=hx
  have h7:Bq (n+10) (inn:Int) l (i:Int) 0 0 Bu=some (mkS (Aq l i) s X.length 0 (Ba l i) :: X,p,e,a):=by
   rw[ho1,hx,A4]
   dsimp only [Vd]
   rw[h2,Ac,g1,A4]
   dsimp only
   rw[hb,Aw,Ah (by simp;omega),Ah (by simp;omega)]
   cases (Aq l i==10)<;>rfl
  refine⟨out++(mkS (Aq l i) s X.length 0 (Ba l i) :: X),p,?_,?_⟩
  ·rw[O5 (n:=n+9) hlt (Mu h1 _) h7 (by simp;omega),Xr hne]
  ·simp;omega
 | @blk inn i j j2 s b r h1 h2 h3 h4 h5 h6 ih1 ih2 =>
  intro hi hn n k out hf hkk ho
  obtain⟨k,rfl⟩:∃ j,k=j+1:=⟨k - 1,by omega⟩
  have h7:=E2 hk (C3 h1) h3
  have hlt:=C3 h1
  have h8:=If hk h4 h7.2
  simp only[J3,if_true] at h8
  have h10:=ih2 h8.2.1 hn n k (out++(mkS (Aq l i) s b.length 0 (Ba l i) :: b)) (by omega) (by omega) (by simp;omega)
  obtain⟨n,rfl⟩:∃ j,n=j+10:=⟨n - 10,by omega⟩
  have g1:Bn (n+9) (inn:Int) l (j:Int) 0 0 Bu=some (b,(j2:Int),0,0):=ih1 h7.2 hn (n+9) (by omega)
  obtain⟨t,w,ho1⟩:=Tw (n:=n+5) (inn:=(inn:Int)) (show l.length < 1000000 by omega) h1
  have hx:=Tt hk (n:=n+9) (by omega) hlt t w (Aq l i) (Ba l i)
  rw[h3] at hx
  have hx:Az (n+9) l Bu t _ (Ba l i) (n+9) 0 ((i+1:Nat):Int) 0 0 [] [] [] [] false=_:=hx
  have hel:(Aq l i==10)=true→Kj l j2=false:=fun h=>h5 (by simpa using h)
  have h9:Bq (n+10) (inn:Int) l (i:Int) 0 0 Bu=some (mkS (Aq l i) s b.length 0 (Ba l i) :: b,(j2:Int),0,0):=by
   rw[ho1,hx,A4]
   dsimp only [Vd]
   rw[h2,Ac,g1,A4]
   dsimp only
   rw[beq_self_eq_true,Ac,Adr,A4,Ah (by simp;omega),Ah (by simp;omega)]
   cases hq:Aq l i==10 with
   | true=>rw[hel hq];rfl
   | false=>rfl
  rw[O5 (n:=n+9) hlt (Mu h1 _) h9 (by simp;omega)]
  cases r with
  | ok x tu=>dsimp only [P9] at h10 ⊢;rw[h10,List.append_assoc]
  | bad e a =>
   obtain⟨X,p,q1,q2⟩:=h10
   exact⟨X,p,q1,by simp at q2;omega⟩
 | @ebad inn i j j2 s b e a h1 h3 h4 h5 h6 ih1 ih2 =>
  intro hi hn n k out hf hkk ho
  obtain⟨k,rfl⟩:∃ j,k=j+2:=⟨k - 2,by omega⟩
  have h0:Aq l i≠0:=by omega
  have h7:=E2 hk (C3 h0) h3
  have hlt:=C3 h0
  have hj:=Hr h5
  have h8:=If hk h4 h7.2
  simp only[J3,if_true] at h8
  have hne:e≠0:=If hk h6 hj
  have hbl:Fa (Aq l i)=true:=by rw[h1];rfl
  have hq:(Aq l i==10)=true:=by rw[h1];rfl
  obtain⟨n,rfl⟩:∃ j,n=j+10:=⟨n - 10,by omega⟩
  have g1:Bn (n+9) (inn:Int) l (j:Int) 0 0 Bu=some (b,(j2:Int),0,0):=ih1 h7.2 hn (n+9) (by omega)
  obtain⟨X,p,g3,g4⟩:=ih2 hj hn (n+9) (by omega)
  obtain⟨t,w,ho1⟩:=Tw (n:=n+5) (inn:=(inn:Int)) (show l.length < 1000000 by omega) h0
  have hx:=Tt hk (n:=n+9) (by omega) hlt t w (Aq l i) (Ba l i)
  rw[h3] at hx
  have hx:Az (n+9) l Bu t _ (Ba l i) (n+9) 0 ((i+1:Nat):Int) 0 0 [] [] [] [] false=_:=hx
  have h9:Bq (n+10) (inn:Int) l (i:Int) 0 0 Bu=some (mkS (Aq l i) s b.length X.length (Ba l i) :: (b++X),p,e,a):=by
   rw[ho1,hx,A4]
   dsimp only [Vd]
   rw[hbl,Ac,g1,A4]
   dsimp only
   rw[hq,Ac,beq_self_eq_true,Ac,Adr,h5,A4,Ac,Bx j2 (by omega),g3,A4]
   dsimp only
   rw[Ah (by simp;omega),Ah (by simp;omega)];rfl
  refine⟨out++(mkS (Aq l i) s b.length X.length (Ba l i) :: (b++X)),p,?_,?_⟩
  ·rw[O5 (n:=n+9) hlt (Mu h0 _) h9 (by simp;omega),Xr hne]
  ·simp;omega
 | @els inn i j j2 j3 s b c r h1 h3 h4 h5 h6 h7 ih1 ih2 ih3 =>
  intro hi hn n k out hf hkk ho
  obtain⟨k,rfl⟩:∃ j,k=j+1:=⟨k - 1,by omega⟩
  have h0:Aq l i≠0:=by omega
  have h8:=E2 hk (C3 h0) h3
  have hlt:=C3 h0
  have hj:=Hr h5
  have h9:=If hk h4 h8.2
  simp only[J3,if_true] at h9
  have h9':=If hk h6 hj
  simp only[J3,if_true] at h9'
  have h12:=ih3 h9'.2.1 hn n k (out++(mkS (Aq l i) s b.length c.length (Ba l i) :: (b++c))) (by omega) (by omega) (by simp;omega)
  have hbl:Fa (Aq l i)=true:=by rw[h1];rfl
  have hq:(Aq l i==10)=true:=by rw[h1];rfl
  obtain⟨n,rfl⟩:∃ j,n=j+10:=⟨n - 10,by omega⟩
  have g1:Bn (n+9) (inn:Int) l (j:Int) 0 0 Bu=some (b,(j2:Int),0,0):=ih1 h8.2 hn (n+9) (by omega)
  have g3:Bn (n+9) (inn:Int) l ((j2+1:Nat):Int) 0 0 Bu=some (c,(j3:Int),0,0):=ih2 hj hn (n+9) (by omega)
  obtain⟨t,w,ho1⟩:=Tw (n:=n+5) (inn:=(inn:Int)) (show l.length < 1000000 by omega) h0
  have hx:=Tt hk (n:=n+9) (by omega) hlt t w (Aq l i) (Ba l i)
  rw[h3] at hx
  have hx:Az (n+9) l Bu t _ (Ba l i) (n+9) 0 ((i+1:Nat):Int) 0 0 [] [] [] [] false=_:=hx
  have h10:Bq (n+10) (inn:Int) l (i:Int) 0 0 Bu=some (mkS (Aq l i) s b.length c.length (Ba l i) :: (b++c),(j3:Int),0,0):=by
   rw[ho1,hx,A4]
   dsimp only [Vd]
   rw[hbl,Ac,g1,A4]
   dsimp only
   rw[hq,Ac,beq_self_eq_true,Ac,Adr,h5,A4,Ac,Bx j2 (by omega),g3,A4]
   dsimp only
   rw[Ah (by simp;omega),Ah (by simp;omega)];rfl
  rw[O5 (n:=n+9) hlt (Mu h0 _) h10 (by simp;omega)]
  cases r with
  | ok x tu=>dsimp only [P9] at h12 ⊢;rw[h12,List.append_assoc]
  | bad e a =>
   obtain⟨X,p,q1,q2⟩:=h12
   exact⟨X,p,q1,by simp at q2;omega⟩
 | @nob inn i h1 =>
  intro hi hn n hf
  obtain⟨n,rfl⟩:∃ j,n=j+6:=⟨n - 6,by omega⟩
  refine⟨[],(i:Int),?_,by simp⟩
  have hs:Bc (n+5) [123] l (i:Int) 0 0 Bu=some ((i:Int),El l i,Ba l i):=by rw[Sc (n+2) _ l i Bu (by omega),if_neg (by rw[h1];decide)]
  rw[Bn,beq_self_eq_true,Ac,Yg,h1,A4,Aw,hs,A4]
  dsimp only
  rw[A2b Bu (Ue l i),A4]
  dsimp only
  rw[Pq _ _ _ _ _ _ _ (Ue l i)];rfl
 | @deep inn i h1 h2 =>
  intro hi hn n hf
  obtain⟨n,rfl⟩:∃ j,n=j+6:=⟨n - 6,by omega⟩
  refine⟨[],(i:Int),?_,by simp⟩
  have h7:(7:Int)≠0:=by decide
  rw[Bn,beq_self_eq_true,Ac,Yg,h1,A4,Ac,Ah (by omega),A0o (n+4) l i _ _ _ Bu (by omega),A4,Pq _ _ _ _ _ _ _ h7,A4]
  dsimp only
  rw[A2b Bu h7,A4]
  dsimp only
  rw[Pq _ _ _ _ _ _ _ h7];rfl
 | @sbad inn i e a h1 h2 h3 ih =>
  intro hi hn n hf
  have hlt:=De h1
  obtain⟨n,rfl⟩:∃ j,n=j+6:=⟨n - 6,by omega⟩
  have hne:e≠0:=If hk h3 hlt
  have hs:Bc (n+5) [123] l (i:Int) 0 0 Bu=some (((i+1:Nat):Int),0,0):=by rw[Sc (n+2) _ l i Bu (by omega),if_pos h1]
  obtain⟨X,p,g1,g2⟩:=ih hlt (by omega) (n+4) (n+4) [] (by omega) (by omega) (by simp)
  have h5:C0 (n+5) ((inn+1:Nat):Int) l ((i+1:Nat):Int) 0 0 Bu=some (X,p,e,a):=by rw[C0,g1];rfl
  refine⟨X,p,?_,by simp at g2;omega⟩
  rw[Bn,beq_self_eq_true,Ac,Yg,h1,A4,Ac,B9 (by omega),hs,A4]
  dsimp only
  rw[Bx inn (by omega),h5,A4]
  dsimp only
  rw[Pq _ _ _ _ _ _ _ hne];rfl
 | @close inn i j x h1 h2 h3 h4 ih =>
  intro hi hn n hf
  have hlt:=De h1
  obtain⟨n,rfl⟩:∃ j,n=j+6:=⟨n - 6,by omega⟩
  have hs:Bc (n+5) [123] l (i:Int) 0 0 Bu=some (((i+1:Nat):Int),0,0):=by rw[Sc (n+2) _ l i Bu (by omega),if_pos h1]
  have hs2:Bc (n+5) [125] l (j:Int) 0 0 Bu=some (((j+1:Nat):Int),0,0):=by rw[Sc (n+2) _ l j Bu (by omega),if_pos h4]
  have g1:=ih hlt (by omega) (n+4) (n+4) [] (by omega) (by omega) (by simp)
  dsimp only at g1
  have h5:C0 (n+5) ((inn+1:Nat):Int) l ((i+1:Nat):Int) 0 0 Bu=some (x,(j:Int),0,0):=by rw[C0,g1];rfl
  show Bn (n+6) _ _ _ _ _ _=_
  rw[Bn,beq_self_eq_true,Ac,Yg,h1,A4,Ac,B9 (by omega),hs,A4]
  dsimp only
  rw[Bx inn (by omega),h5,A4]
  dsimp only
  rw[hs2];rfl
 | @opn inn i j x h1 h2 h3 h4 ih =>
  intro hi hn n hf
  have hlt:=De h1
  have h8:=If hk h3 hlt
  simp only[J3,Bool.false_eq_true,if_false] at h8
  obtain⟨n,rfl⟩:∃ j,n=j+6:=⟨n - 6,by omega⟩
  have hs:Bc (n+5) [123] l (i:Int) 0 0 Bu=some (((i+1:Nat):Int),0,0):=by rw[Sc (n+2) _ l i Bu (by omega),if_pos h1]
  have hs2:Bc (n+5) [125] l (j:Int) 0 0 Bu=some ((j:Int),El l j,Ba l j):=by rw[Sc (n+2) _ l j Bu (by omega),if_neg (by rw[h4];decide)]
  have g1:=ih hlt (by omega) (n+4) (n+4) [] (by omega) (by omega) (by simp)
  dsimp only at g1
  have h5:C0 (n+5) ((inn+1:Nat):Int) l ((i+1:Nat):Int) 0 0 Bu=some (x,(j:Int),0,0):=by rw[C0,g1];rfl
  refine⟨x,(j:Int),?_,by omega⟩
  rw[Bn,beq_self_eq_true,Ac,Yg,h1,A4,Ac,B9 (by omega),hs,A4]
  dsimp only
  rw[Bx inn (by omega),h5,A4]
  dsimp only
  rw[hs2];rfl
theorem Ai0 {T:Nat} {l:List Tk} (hk:Toks T l):∀ (m i inn:Nat) (md:Bool),l.length - i≤m→i≤l.length→inn≤30→∃ r,SE l md inn i r:=by
 intro m
 induction m with
 | zero =>
  intro i inn md hm hi hn
  have hs:∀ s,Bl l i s=false:=fun s=>by
   cases h:Bl l i s with
   | false=>rfl
   | true=>have:=De h;omega
  cases md with
  | false=>exact⟨_,.stop (.inl (by omega))⟩
  | true=>exact⟨_,.nob (hs _)⟩
 | succ m ih =>
  intro i inn md hm hi hn
  cases md with
  | true =>
   cases h:Bl l i [123] with
   | false=>exact⟨_,.nob h⟩
   | true =>
    by_cases h30:30≤inn
    ·exact⟨_,.deep h h30⟩
    ·have hlt:=De h
     obtain⟨r,hr⟩:=ih (i+1) (inn+1) false (by omega) hlt (by omega)
     cases r with
     | bad e a=>exact⟨_,.sbad h (by omega) hr⟩
     | ok x j =>
      cases h2:Bl l j [125] with
      | true=>exact⟨_,.close h (by omega) hr h2⟩
      | false=>exact⟨_,.opn h (by omega) hr h2⟩
  | false =>
   by_cases hlt:i < l.length
   ·cases h:Bl l i [125] with
    | true=>exact⟨_,.stop (.inr h)⟩
    | false =>
     by_cases h0:Aq l i=0
     ·exact⟨_,.no hlt h h0⟩
     ·cases hf:Gd l (exQ l) (Cr (Aq l i)) (i+1) fs0 with
      | bad e a=>exact⟨_,.fbad h0 hf⟩
      | ok s j =>
       have hj:=E2 hk (by omega) hf
       cases hb:Fa (Aq l i) with
       | false =>
        obtain⟨r,hr⟩:=ih j inn false (by omega) hj.2 hn
        exact⟨_,.simple h0 hb hf hr⟩
       | true =>
        obtain⟨r,hr⟩:=ih j inn true (by omega) hj.2 hn
        cases r with
        | bad e a=>exact⟨_,.bbad h0 hb hf hr⟩
        | ok b j2 =>
         have hj2:=If hk hr hj.2
         simp only[J3,if_true] at hj2
         by_cases he:Aq l i=10∧Kj l j2=true
         ·have hj3:=Hr he.2
          obtain⟨r3,hr3⟩:=ih (j2+1) inn true (by omega) hj3 hn
          cases r3 with
          | bad e a=>exact⟨_,.ebad he.1 hf hr he.2 hr3⟩
          | ok c j4 =>
           have hj4:=If hk hr3 hj3
           simp only[J3,if_true] at hj4
           obtain⟨r5,hr5⟩:=ih j4 inn false (by omega) hj4.2.1 hn
           exact⟨_,.els he.1 hf hr he.2 hr3 hr5⟩
         ·obtain⟨r5,hr5⟩:=ih j2 inn false (by omega) hj2.2.1 hn
          refine⟨_,.blk h0 hb hf hr (fun hq=>?_) hr5⟩
          cases hx:Kj l j2 with
          | false=>rfl
          | true=>exact absurd ⟨hq,hx⟩ he
   ·exact⟨_,.stop (.inl (by omega))⟩
def Afx:List Bh:=match J8 1 with | some y=>y | none=>[]
theorem Ake (n k:Nat):Ij n Afx (k+15) 0 []=some (.out Bu):=by rfl
def S5 (l:List Tk) (i:Nat):SR→Adf
 | .bad e a=>([],0,e,a)
 | .ok x tu=>if 200 < x.length then([],0,2,Ba l i) else(x,(tu:Int),0,0)
theorem A0r (s:List UInt8) (hs:s.length≤90000):Toks s.length (R1 s):=by
 obtain⟨h1,h2⟩:=Xz s
 refine⟨by omega,fun t ht=>(h1 t ht).1,fun t ht=>?_,by omega⟩
 have h3:=h1 t ht
 have h4:=h3.1.1
 omega
inductive SF where
 | nil
 | cons (x:St) (a b r:SF)
def SF.flat:SF→List St
 | .nil=>[]
 | .cons x a b r=>x :: (a.flat++(b.flat++r.flat))
def SF.wf:SF→Prop
 | .nil=>True
 | .cons x a b r=>x.Be=(a.flat.length:Int)∧x.Cv=(b.flat.length:Int)∧a.wf∧b.wf∧r.wf
def SF.dep:SF→Nat
 | .nil=>0
 | .cons x a b r=>max (if Fa x.At then max (1+a.dep) (1+b.dep) else 0) r.dep
def dF:Nat→List St→Option Nat
 | 0,_=>none
 | _+1,[]=>some 0
 | m+1,x :: t=>if 0≤x.Be∧0≤x.Cv∧x.Be+x.Cv≤(t.length:Int) then
    (dF m (t.take x.Be.toNat)).bind fun p=>(dF m ((t.drop x.Be.toNat).take x.Cv.toNat)).bind fun q=>(dF m (t.drop (x.Be.toNat+x.Cv.toNat))).bind fun z=>some (max (if Fa x.At then max (1+p) (1+q) else 0) z)
  else none
theorem A0n:∀ (F:SF) (m:Nat),F.wf→F.flat.length < m→dF m F.flat=some F.dep
 | .nil,m,_,h=>by
  obtain⟨m,rfl⟩:∃ j,m=j+1:=⟨m - 1,by omega⟩
  rfl
 | .cons x a b r,m,h,hm=>by
  obtain⟨m,rfl⟩:∃ j,m=j+1:=⟨m - 1,by omega⟩
  obtain⟨h1,h2,ha,hb,hr⟩:=h
  rw[SF.flat] at hm ⊢
  simp only[List.length_cons,List.length_append] at hm
  rw[dF,if_pos ⟨by omega,by omega,by rw[h1,h2];simp only[List.length_append];omega⟩,h1,h2]
  have e1:(a.flat++(b.flat++r.flat)).take ((a.flat.length:Nat):Int).toNat=a.flat:=by simp
  have e2:(a.flat++(b.flat++r.flat)).drop ((a.flat.length:Nat):Int).toNat=b.flat++r.flat:=by simp
  have e3:(b.flat++r.flat).take ((b.flat.length:Nat):Int).toNat=b.flat:=by simp
  have e4:(a.flat++(b.flat++r.flat)).drop (((a.flat.length:Nat):Int).toNat+((b.flat.length:Nat):Int).toNat)=r.flat:=by
   rw[← List.drop_drop,e2];simp
  rw[e1,e2,e3,e4,A0n a m ha (by omega),A0n b m hb (by omega),A0n r m hr (by omega)]
  rfl
theorem Anw:∀ (m:Nat) (l:List St) (z:Nat),dF m l=some z→∃ F:SF,F.wf∧F.flat=l∧F.dep=z:=by
 intro m
 induction m with
 | zero=>intro l z h;cases h
 | succ m ih =>
  intro l z h
  cases l with
  | nil=>rw[dF] at h;cases h;exact⟨.nil,trivial,rfl,rfl⟩
  | cons x t =>
   rw[dF] at h
   by_cases c:0≤x.Be∧0≤x.Cv∧x.Be+x.Cv≤(t.length:Int)
   ·rw[if_pos c] at h
    obtain⟨p,h1,h⟩:=Option.bind_eq_some_iff.1 h
    obtain⟨q,h2,h⟩:=Option.bind_eq_some_iff.1 h
    obtain⟨r,h3,h⟩:=Option.bind_eq_some_iff.1 h
    obtain⟨A,a1,a2,a3⟩:=ih _ _ h1
    obtain⟨B,b1,b2,b3⟩:=ih _ _ h2
    obtain⟨R,r1,r2,r3⟩:=ih _ _ h3
    have hA:A.flat.length=x.Be.toNat:=by rw[a2,List.length_take];omega
    have hB:B.flat.length=x.Cv.toNat:=by rw[b2,List.length_take,List.length_drop];omega
    refine⟨.cons x A B R,⟨by omega,by omega,a1,b1,r1⟩,?_,?_⟩
    ·rw[SF.flat,a2,b2,r2,← List.drop_drop,List.take_append_drop,List.take_append_drop]
    ·rw[SF.dep,a3,b3,r3];exact Option.some.inj h
   ·rw[if_neg c] at h;cases h
def O2 (f:List UInt8) (c:Int):Bool:=f.any fun b=>(b.toNat:Int)==c
def fN (f:List UInt8) (c:Int) (s:List UInt8):Bool:=if O2 f c then E0 s else s==[]
def fL (f:List UInt8) (c:Int) (l:List Nd):Bool:=if O2 f c then N2 l&&Ip l else(l.length:Int)==0
def Vj (x:St):Bool:=decide (1≤x.At∧x.At≤13)&&(!decide (x.Al < 0)&&((!x.N3 || O2 (Cr x.At) 113)&&(fN (Cr x.At) 114 x.H7&&(fN (Cr x.At) 108 x.H8&&(fL (Cr x.At) 101 x.Et&&(fL (Cr x.At) 102 x.O6&&((Fa x.At || x.Be==0)&&(x.At==10 || x.Cv==0))))))))
def Uz (l:List St):Bool:=match dF (l.length+1) l with
 | some z=>!decide (30 < z)&&(!decide (200 < l.length)&&l.all Vj)
 | none=>false
theorem Aeg {l:List St} (h:Uz l=true):∃ F:SF,F.wf∧F.flat=l∧F.dep≤30∧l.length≤200∧∀ x ∈ l,Vj x=true:=by
 unfold Uz at h
 cases hd:dF (l.length+1) l with
 | none=>rw[hd] at h;cases h
 | some z =>
  rw[hd] at h
  simp only[A8,Bool.not_eq_true',decide_eq_false_iff_not,List.all_eq_true] at h
  obtain⟨F,f1,f2,f3⟩:=Anw _ _ _ hd
  exact⟨F,f1,f2,by omega,by omega,h.2.2⟩
theorem Adg {F:SF} (h:F.wf) (hd:F.dep≤30) (hl:F.flat.length≤200) (hx:∀ x ∈ F.flat,Vj x=true):Uz F.flat=true:=by
 unfold Uz
 rw[A0n F _ h (by omega)]
 simp only[A8,Bool.not_eq_true',decide_eq_false_iff_not,List.all_eq_true]
 exact⟨by omega,by omega,hx⟩
def Ad9:List UInt8:=[114,108,101,102,113,61,59,44]
theorem Acj (k:Int):∀ c ∈ Cr k,c ∈ Ad9:=by
 unfold Cr;repeat' split
 all_goals decide
theorem Wv {f:List UInt8} {c:UInt8} (h:c ∈ f):O2 f (c.toNat:Int)=true:=by
 unfold O2;exact List.any_eq_true.2 ⟨c,h,by simp⟩
def SameX (x y:List Nd):Prop:=x.map Ajq=y.map Ajq∧(∀ z ∈ x,z.Bm≠3)∧∀ z ∈ y,z.Bm≠3
structure SameS (x y:St):Prop where
 k:x.At=y.At
 r:x.H7=y.H7
 l:x.H8=y.H8
 n:x.N3=y.N3
 b:x.Be=y.Be
 c:x.Cv=y.Cv
 e:SameX x.Et y.Et
 f:SameX x.O6 y.O6
def All2:List St→List St→Prop
 | [],[]=>True
 | x :: l,y :: m=>SameS x y∧All2 l m
 | _,_=>False
theorem All2.len:∀ {l m:List St},All2 l m→l.length=m.length
 | [],[],_=>rfl
 | _ :: l,_ :: m,h=>by simp[All2.len h.2]
 | [],_ :: _,h=>h.elim
 | _ :: _,[],h=>h.elim
theorem All2.get:∀ {l m:List St},All2 l m→∀ (i:Nat) x y,l[i]?=some x→m[i]?=some y→SameS x y
 | [],[],_,i,x,y,h,_=>by simp at h
 | a :: l,b :: m,h,0,x,y,h1,h2=>by
  simp only[List.getElem?_cons_zero,Option.some.injEq] at h1 h2
  subst h1;subst h2;exact h.1
 | a :: l,b :: m,h,i+1,x,y,h1,h2=>by
  simp only[List.getElem?_cons_succ] at h1 h2
  exact All2.get h.2 i x y h1 h2
 | [],_ :: _,h,_,_,_,_,_=>h.elim
 | _ :: _,[],h,_,_,_,_,_=>h.elim
theorem A0w {f:List UInt8} {c:UInt8} (h:c ∉ f):O2 f (c.toNat:Int)=false:=by
 unfold O2
 refine List.any_eq_false.2 fun b hb e=>h ?_
 rw[beq_iff_eq] at e
 have:b=c:=UInt8.toNat_inj.1 (by omega)
 rw[← this];exact hb
theorem A47 {T:Nat} {l:List Tk} (hk:Toks T l) {n i:Nat} {r:SR} (hr:SE l false 0 i r) (hi:i≤l.length) (hn:12*l.length+T+900+6*l.length+60≤n):I9 n l (i:Int)=some (S5 l i r):=by
 have hl:=hk.len
 obtain⟨n,rfl⟩:∃ j,n=j+20:=⟨n - 20,by omega⟩
 have h:=An9 hk hr hi (by omega) (n+18) (n+18) [] (by omega) (by omega) (by simp)
 rw[I9,B9 (by omega),B9 (by omega),show J8 (n+19)=some Afx from rfl,A4,Ake (n+19) (n+4),A4]
 dsimp only
 cases r with
 | bad e a =>
  have hne:e≠0:=If hk hr hi
  obtain⟨X,p,g1,g2⟩:=h
  have g3:C0 (n+19) 0 l (i:Int) 0 0 Bu=some (X,p,e,a):=by
   rw[C0]
   have g1:C4 (n+18) (Bq (n+18)) 0 l Bu (n+18) (i:Int) 0 0 []=_:=g1
   rw[g1];rfl
  rw[g3,A4]
  dsimp only
  rw[show(e != 0)=true by rw[bne_iff_ne];exact hne,Ac];rfl
 | ok x tu =>
  have g3:C0 (n+19) 0 l (i:Int) 0 0 Bu=some (x,(tu:Int),0,0):=by
   rw[C0]
   have g1:C4 (n+18) (Bq (n+18)) 0 l Bu (n+18) (i:Int) 0 0 []=_:=h
   rw[g1];rfl
  rw[g3,A4]
  dsimp only
  rw[bne_self_eq_false,Aw]
  simp only[S5]
  by_cases c:200 < x.length
  ·rw[if_pos c,Ah (by omega),A0o (n+18) l i _ _ _ Bu (by omega)];rfl
  ·rw[if_neg c,B9 (by omega)]
theorem SameX.symm {x y:List Nd} (h:SameX x y):SameX y x:=⟨h.1.symm,h.2.2,h.2.1⟩
theorem SameS.symm {x y:St} (h:SameS x y):SameS y x:=⟨h.k.symm,h.r.symm,h.l.symm,h.n.symm,h.b.symm,h.c.symm,h.e.symm,h.f.symm⟩
theorem All2.symm:∀ {l m:List St},All2 l m→All2 m l
 | [],[],_=>trivial
 | _ :: l,_ :: m,h=>⟨h.1.symm,All2.symm h.2⟩
 | [],_ :: _,h=>h.elim
 | _ :: _,[],h=>h.elim
theorem A7h {T:Nat} {l:List Tk} (hk:Toks T l) {i tu:Nat} {x:List Nd} (hi:i≤l.length) (h:exQ l i=.ok x tu):(N2 x&&Ip x)=true:=by
 obtain⟨r,hr,e⟩:=Wl hk hi
 rw[h] at e
 cases r with
 | bad e' a=>simp only[Ke] at e;cases e
 | ok y tv =>
  simp only[Ke] at e
  split at e
  ·cases e
  ·split at e
   ·cases e
   ·split at e
    ·rename_i c1 c2 c3
     cases e
     have hg:=A4g hk.ok hr
     dsimp only at hg
     obtain⟨t,_,_,_,_,h5⟩:=Zg hg (by omega) (by omega)
     rw[c3,h5];rfl
    ·cases e
theorem Abs {B T:Nat} {l:List Tk} (hk:Toks T l) (hB:B < 1000000) (h:∀ t ∈ l,Sq t∧t.Al+t.A7.length≤B) {i:Nat} {e a:Int} (hi:i≤l.length) (hx:exQ l i=.bad e a):0≤a∧a≤B:=by
 obtain⟨r,hr,e'⟩:=Wl hk hi
 rw[hx] at e'
 cases r with
 | bad e2 a2=>simp only[Ke] at e';cases e';exact A5w hB h hr
 | ok y tv =>
  have hp:=Iz hB h i
  simp only[Ke] at e'
  split at e'
  ·cases e';exact hp
  ·split at e'
   ·cases e';exact hp
   ·split at e'
    ·cases e'
    ·cases e';exact hp
structure A18 (cs:List UInt8) (s s':Fs):Prop where
 r:if 114 ∈ cs then E0 s'.reg=true else s'.reg=s.reg
 l:if 108 ∈ cs then E0 s'.loc=true else s'.loc=s.loc
 e:if 101 ∈ cs then(N2 s'.e&&Ip s'.e)=true else s'.e=s.e
 f:if 102 ∈ cs then(N2 s'.f&&Ip s'.f)=true else s'.f=s.f
 n:113 ∉ cs→s'.ne=s.ne
theorem Tv {l:List Tk} {i:Nat} (h:isN l i=true):E0 (txt l i)=true:=by
 unfold isN at h
 cases hg:l[i]? with
 | none=>rw[hg] at h;cases h
 | some t=>rw[hg] at h;simp only[A8] at h;simp[txt,hg,h.2]
theorem Afc {T:Nat} {l:List Tk} (hk:Toks T l):∀ (cs:List UInt8) (i j:Nat) (s s':Fs),i≤l.length→(∀ c ∈ cs,c ∈ Ad9)→Gd l (exQ l) cs i s=.ok s' j→A18 cs s s':=by
 intro cs
 induction cs with
 | nil =>
  intro i j s s' hi _ h
  rw[Gd] at h;cases h
  exact⟨by simp,by simp,by simp,by simp,by simp⟩
 | cons c cs ih =>
  intro i j s s' hi hc h
  have hok:=U2 hk (c:=c) (s:=s) hi
  have hcc:=hc c (List.mem_cons_self ..)
  rw[Gd] at h
  have go:∀ s1 j1,Fg l (exQ l) c i s=.ok s1 j1→A18 cs s1 s':=by
   intro s1 j1 h1
   rw[h1] at h hok
   exact ih j1 j s1 s' hok.2 (fun d hd=>hc d (List.mem_cons_of_mem _ hd)) h
  have nb:∀ e a,Fg l (exQ l) c i s≠.bad e a:=by
   intro e a h1;rw[h1] at h;cases h
  simp only[Ad9,List.mem_cons,List.not_mem_nil,or_false] at hcc
  rcases hcc with rfl | rfl | rfl | rfl | rfl | rfl | rfl | rfl
  ·have e:Fg l (exQ l) 114 i s=if isN l i=true then .ok { s with reg:=txt l i } (i+1) else .bad (El l i) (Ba l i):=rfl
   by_cases hn:isN l i=true
   ·rw[if_pos hn] at e
    have g:=go _ _ e
    refine⟨?_,?_,?_,?_,fun hm=>?_⟩
    ·have:=g.r;rw[if_pos (List.mem_cons_self ..)]
     split at this
     ·exact this
     ·rw[this];exact Tv hn
    ·have:=g.l;simpa using this
    ·have:=g.e;simpa using this
    ·have:=g.f;simpa using this
    ·rw[g.n fun h=>hm (List.mem_cons_of_mem _ h)]
   ·rw[if_neg hn] at e;exact absurd e (nb _ _)
  ·have e:Fg l (exQ l) 108 i s=if isN l i=true then .ok { s with loc:=txt l i } (i+1) else .bad (El l i) (Ba l i):=rfl
   by_cases hn:isN l i=true
   ·rw[if_pos hn] at e
    have g:=go _ _ e
    refine⟨?_,?_,?_,?_,fun hm=>?_⟩
    ·have:=g.r;simpa using this
    ·have:=g.l;rw[if_pos (List.mem_cons_self ..)]
     split at this
     ·exact this
     ·rw[this];exact Tv hn
    ·have:=g.e;simpa using this
    ·have:=g.f;simpa using this
    ·rw[g.n fun h=>hm (List.mem_cons_of_mem _ h)]
   ·rw[if_neg hn] at e;exact absurd e (nb _ _)
  ·have e:Fg l (exQ l) 101 i s=match exQ l i with | .ok x tu=>.ok { s with e:=x } tu | .bad e a=>.bad e a:=rfl
   cases hx:exQ l i with
   | bad e' a=>rw[hx] at e;exact absurd e (nb _ _)
   | ok x tu =>
    rw[hx] at e
    have g:=go _ _ e
    refine⟨?_,?_,?_,?_,fun hm=>?_⟩
    ·have:=g.r;simpa using this
    ·have:=g.l;simpa using this
    ·have:=g.e;rw[if_pos (List.mem_cons_self ..)]
     split at this
     ·exact this
     ·rw[this];exact A7h hk hi hx
    ·have:=g.f;simpa using this
    ·rw[g.n fun h=>hm (List.mem_cons_of_mem _ h)]
  ·have e:Fg l (exQ l) 102 i s=match exQ l i with | .ok x tu=>.ok { s with f:=x } tu | .bad e a=>.bad e a:=rfl
   cases hx:exQ l i with
   | bad e' a=>rw[hx] at e;exact absurd e (nb _ _)
   | ok x tu =>
    rw[hx] at e
    have g:=go _ _ e
    refine⟨?_,?_,?_,?_,fun hm=>?_⟩
    ·have:=g.r;simpa using this
    ·have:=g.l;simpa using this
    ·have:=g.e;simpa using this
    ·have:=g.f;rw[if_pos (List.mem_cons_self ..)]
     split at this
     ·exact this
     ·rw[this];exact A7h hk hi hx
    ·rw[g.n fun h=>hm (List.mem_cons_of_mem _ h)]
  ·have e:Fg l (exQ l) 113 i s=if Bl l i [33,61]=true then FR.ok { s with ne:=true } (i+1) else if Bl l i [61,61]=true then .ok { s with ne:=false } (i+1) else .bad (El l i) (Ba l i):=rfl
   have fin:∀ b:Bool,A18 cs { s with ne:=b } s'→A18 (113 :: cs) s s':=fun b g=>by
    refine⟨?_,?_,?_,?_,fun hm=>absurd (List.mem_cons_self ..) hm⟩
    ·have:=g.r;simpa using this
    ·have:=g.l;simpa using this
    ·have:=g.e;simpa using this
    ·have:=g.f;simpa using this
   by_cases h1:Bl l i [33,61]=true
   ·rw[if_pos h1] at e;exact fin true (go _ _ e)
   ·rw[if_neg h1] at e
    by_cases h2:Bl l i [61,61]=true
    ·rw[if_pos h2] at e;exact fin false (go _ _ e)
    ·rw[if_neg h2] at e;exact absurd e (nb _ _)
  all_goals
   have fin:∀ d:UInt8,d≠114→d≠108→d≠101→d≠102→d≠113→A18 cs s s'→A18 (d :: cs) s s':=fun d d1 d2 d3 d4 d5 g=>by
    refine⟨?_,?_,?_,?_,fun hm=>g.n fun h=>hm (List.mem_cons_of_mem _ h)⟩
    ·have:=g.r;simpa [d1.symm] using this
    ·have:=g.l;simpa [d2.symm] using this
    ·have:=g.e;simpa [d3.symm] using this
    ·have:=g.f;simpa [d4.symm] using this
  ·have e:Fg l (exQ l) 61 i s=if Bl l i [61]=true then .ok s (i+1) else .bad (El l i) (Ba l i):=rfl
   by_cases h1:Bl l i [61]=true
   ·rw[if_pos h1] at e;exact fin 61 (by decide) (by decide) (by decide) (by decide) (by decide) (go _ _ e)
   ·rw[if_neg h1] at e;exact absurd e (nb _ _)
  ·have e:Fg l (exQ l) 59 i s=if Bl l i [59]=true then .ok s (i+1) else .bad (El l i) (Ba l i):=rfl
   by_cases h1:Bl l i [59]=true
   ·rw[if_pos h1] at e;exact fin 59 (by decide) (by decide) (by decide) (by decide) (by decide) (go _ _ e)
   ·rw[if_neg h1] at e;exact absurd e (nb _ _)
  ·have e:Fg l (exQ l) 44 i s=if Bl l i [44]=true then .ok s (i+1) else .bad (El l i) (Ba l i):=rfl
   by_cases h1:Bl l i [44]=true
   ·rw[if_pos h1] at e;exact fin 44 (by decide) (by decide) (by decide) (by decide) (by decide) (go _ _ e)
   ·rw[if_neg h1] at e;exact absurd e (nb _ _)
theorem A49 {T:Nat} {l:List Tk} (hk:Toks T l) {i j:Nat} {s:Fs} (h0:Aq l i≠0) (h:Gd l (exQ l) (Cr (Aq l i)) (i+1) fs0=.ok s j) (b c:Nat) (hb:Fa (Aq l i)=false→b=0) (hc:Aq l i≠10→c=0):Vj (mkS (Aq l i) s b c (Ba l i))=true:=by
 have hlt:=C3 h0
 have g:=Afc hk (Cr (Aq l i)) (i+1) j fs0 s hlt (Acj _) h
 have hin:=A5f l i
 have hat:0≤Ba l i:=by
  rw[hk.at' hlt];exact(hk.ok _ (List.getElem_mem hlt)).1
 unfold Vj
 simp only[A8]
 refine⟨decide_eq_true (show 1≤Aq l i∧Aq l i≤13 by omega),?_,?_,?_,?_,?_,?_,?_,?_⟩
 ·show(!decide (Ba l i < 0))=true
  rw[decide_eq_false (by omega)];rfl
 ·show(!s.ne || O2 (Cr (Aq l i)) 113)=true
  by_cases m:(113:UInt8) ∈ Cr (Aq l i)
  ·have:O2 (Cr (Aq l i)) 113=true:=Wv m
   rw[this];simp
  ·rw[g.n m];rfl
 ·show fN (Cr (Aq l i)) 114 s.reg=true
  have:=g.r
  unfold fN
  by_cases m:(114:UInt8) ∈ Cr (Aq l i)
  ·rw[if_pos m] at this;rw[if_pos (show O2 (Cr (Aq l i)) 114=true from Wv m)];exact this
  ·rw[if_neg m] at this;rw[if_neg (by rw[show O2 (Cr (Aq l i)) 114=false from A0w m];simp),this];rfl
 ·show fN (Cr (Aq l i)) 108 s.loc=true
  have:=g.l
  unfold fN
  by_cases m:(108:UInt8) ∈ Cr (Aq l i)
  ·rw[if_pos m] at this;rw[if_pos (show O2 (Cr (Aq l i)) 108=true from Wv m)];exact this
  ·rw[if_neg m] at this;rw[if_neg (by rw[show O2 (Cr (Aq l i)) 108=false from A0w m];simp),this];rfl
 ·show fL (Cr (Aq l i)) 101 s.e=true
  have:=g.e
  unfold fL
  by_cases m:(101:UInt8) ∈ Cr (Aq l i)
  ·rw[if_pos m] at this;rw[if_pos (show O2 (Cr (Aq l i)) 101=true from Wv m)];exact this
  ·rw[if_neg m] at this;rw[if_neg (by rw[show O2 (Cr (Aq l i)) 101=false from A0w m];simp),this];rfl
 ·show fL (Cr (Aq l i)) 102 s.f=true
  have:=g.f
  unfold fL
  by_cases m:(102:UInt8) ∈ Cr (Aq l i)
  ·rw[if_pos m] at this;rw[if_pos (show O2 (Cr (Aq l i)) 102=true from Wv m)];exact this
  ·rw[if_neg m] at this;rw[if_neg (by rw[show O2 (Cr (Aq l i)) 102=false from A0w m];simp),this];rfl
 ·show(Fa (Aq l i) || (b:Int)==0)=true
  cases hbl:Fa (Aq l i) with
  | true=>rfl
  | false=>rw[hb hbl];rfl
 ·show(Aq l i==10 || (c:Int)==0)=true
  by_cases k10:Aq l i=10
  ·rw[k10];rfl
  ·rw[hc k10];simp
def Afp (inn:Nat):SR→Prop
 | .ok x _=>∃ F:SF,F.wf∧F.flat=x∧F.dep+inn≤30∧∀ y ∈ x,Vj y=true
 | .bad _ _=>True
theorem Ak7 {T:Nat} {l:List Tk} (hk:Toks T l) {md:Bool} {inn i:Nat} {r:SR} (h:SE l md inn i r):i≤l.length→inn≤30→if md then(match r with | .ok x _=>inn < 30∧Afp (inn+1) r | _=>True) else Afp inn r:=by
 induction h with
 | stop h=>intro hi hn;exact⟨.nil,trivial,rfl,by simp[SF.dep];omega,by simp⟩
 | no h1 h2 h3=>intro hi hn;trivial
 | fbad h1 h2=>intro hi hn;trivial
 | @simple inn i j s r h1 h2 h3 h4 ih =>
  intro hi hn
  have h5:=E2 hk (C3 h1) h3
  have ih:=ih h5.2 hn
  simp only[Bool.false_eq_true,if_false] at ih ⊢
  cases r with
  | bad e a=>trivial
  | ok x tu =>
   obtain⟨F,f1,f2,f3,f4⟩:=ih
   refine⟨.cons (mkS (Aq l i) s 0 0 (Ba l i)) .nil .nil F,⟨rfl,rfl,trivial,trivial,f1⟩,by simp[SF.flat,f2],?_,?_⟩
   ·simp only[SF.dep,mkS,h2];simp;omega
   ·intro y hy
    rcases List.mem_append.1 hy with hy | hy
    ·rw[List.mem_singleton] at hy;subst hy
     exact A49 hk h1 h3 0 0 (fun _=>rfl) (fun _=>rfl)
    ·exact f4 y hy
 | bbad h1 h2 h3 h4 ih=>intro hi hn;trivial
 | @blk inn i j j2 s b r h1 h2 h3 h4 h5 h6 ih1 ih2 =>
  intro hi hn
  have h7:=E2 hk (C3 h1) h3
  have h8:=If hk h4 h7.2
  simp only[J3,if_true] at h8
  have ih1:=ih1 h7.2 hn
  simp only[if_true] at ih1
  have ih2:=ih2 h8.2.1 hn
  simp only[Bool.false_eq_true,if_false] at ih2 ⊢
  cases r with
  | bad e a=>trivial
  | ok x tu =>
   obtain⟨i1,A,a1,a2,a3,a4⟩:=ih1
   obtain⟨F,f1,f2,f3,f4⟩:=ih2
   refine⟨.cons (mkS (Aq l i) s b.length 0 (Ba l i)) A .nil F,⟨by rw[a2];rfl,rfl,a1,trivial,f1⟩,by simp[SF.flat,f2,a2],?_,?_⟩
   ·simp only[SF.dep,mkS,h2];simp;omega
   ·intro y hy
    rcases List.mem_append.1 hy with hy | hy
    ·rcases List.mem_cons.1 hy with rfl | hy
     ·exact A49 hk h1 h3 b.length 0 (fun e=>by rw[e] at h2;cases h2) (fun _=>rfl)
     ·exact a4 y hy
    ·exact f4 y hy
 | ebad h1 h3 h4 h5 h6 ih1 ih2=>intro hi hn;trivial
 | @els inn i j j2 j3 s b c r h1 h3 h4 h5 h6 h7 ih1 ih2 ih3 =>
  intro hi hn
  have h0:Aq l i≠0:=by omega
  have h8:=E2 hk (C3 h0) h3
  have hj:=Hr h5
  have h11:=If hk h6 hj
  simp only[J3,if_true] at h11
  have ih1:=ih1 h8.2 hn
  simp only[if_true] at ih1
  have ih2:=ih2 hj hn
  simp only[if_true] at ih2
  have ih3:=ih3 h11.2.1 hn
  simp only[Bool.false_eq_true,if_false] at ih3 ⊢
  cases r with
  | bad e a=>trivial
  | ok x tu =>
   obtain⟨i1,A,a1,a2,a3,a4⟩:=ih1
   obtain⟨i2,B,b1,b2,b3,b4⟩:=ih2
   obtain⟨F,f1,f2,f3,f4⟩:=ih3
   refine⟨.cons (mkS (Aq l i) s b.length c.length (Ba l i)) A B F,⟨by rw[a2];rfl,by rw[b2];rfl,a1,b1,f1⟩,by simp[SF.flat,f2,a2,b2],?_,?_⟩
   ·have hb:Fa (Aq l i)=true:=by rw[h1];rfl
    have e:(SF.cons (mkS (Aq l i) s b.length c.length (Ba l i)) A B F).dep=max (max (1+A.dep) (1+B.dep)) F.dep:=by
     show max (if Fa (Aq l i)=true then _ else 0) _=_
     rw[if_pos hb]
    rw[e];omega
   ·intro y hy
    rcases List.mem_append.1 hy with hy | hy
    ·rcases List.mem_cons.1 hy with rfl | hy
     ·exact A49 hk h0 h3 b.length c.length (fun e=>by rw[h1] at e;exact absurd e (by decide)) (fun e=>absurd h1 e)
     ·rcases List.mem_append.1 hy with hy | hy
      ·exact a4 y hy
      ·exact b4 y hy
    ·exact f4 y hy
 | nob h=>intro hi hn;trivial
 | deep h1 h2=>intro hi hn;trivial
 | sbad h1 h2 h3 ih=>intro hi hn;trivial
 | close h1 h2 h3 h4 ih =>
  intro hi hn
  have:=ih (De h1) (by omega)
  simp only[Bool.false_eq_true,if_false] at this
  exact⟨h2,this⟩
 | opn h1 h2 h3 h4 ih=>intro hi hn;trivial
def U7 (B:Nat):FR→Prop
 | .bad _ a=>0≤a∧a≤B
 | .ok _ _=>True
theorem A80 {B T:Nat} {l:List Tk} (hk:Toks T l) (hB:B < 1000000) (h:∀ t ∈ l,Sq t∧t.Al+t.A7.length≤B) {e a:Int}:∀ (cs:List UInt8) (i:Nat) (s:Fs),i≤l.length→Gd l (exQ l) cs i s=.bad e a→0≤a∧a≤B
 | [],i,s,hi,hx=>by rw[Gd] at hx;cases hx
 | c :: cs,i,s,hi,hx=>by
  have hok:=U2 hk (c:=c) (s:=s) hi
  have hp:=Iz hB h i
  have hst:U7 B (Fg l (exQ l) c i s):=by
   unfold Fg
   refine Dq (Q:=U7 B) (fun _=>Dq (Q:=U7 B) (fun _=>trivial) fun _=>hp) fun _=>Dq (Q:=U7 B) (fun _=>Dq (Q:=U7 B) (fun _=>trivial) fun _=>hp) fun _=>Dq (Q:=U7 B) (fun _=>?_) fun _=>Dq (Q:=U7 B) (fun _=>?_) fun _=>Dq (Q:=U7 B) (fun _=>Dq (Q:=U7 B) (fun _=>trivial) fun _=>Dq (Q:=U7 B) (fun _=>trivial) fun _=>hp) fun _=>Dq (Q:=U7 B) (fun _=>trivial) fun _=>hp
   ·cases hx2:exQ l i with
    | ok x tu=>trivial
    | bad e a=>exact Abs hk hB h hi hx2
   ·cases hx2:exQ l i with
    | ok x tu=>trivial
    | bad e a=>exact Abs hk hB h hi hx2
  rw[Gd] at hx
  revert hx hok hst
  cases Fg l (exQ l) c i s with
  | bad e' a'=>intro hx _ hst;cases hx;exact hst
  | ok s2 j2=>intro hx hok _;exact A80 hk hB h cs j2 s2 hok.2 hx
theorem Amq {B T:Nat} {l:List Tk} (hk:Toks T l) (hB:B < 1000000) (h:∀ t ∈ l,Sq t∧t.Al+t.A7.length≤B) {md:Bool} {inn i:Nat} {r:SR} (hs:SE l md inn i r):i≤l.length→match r with | .bad _ a=>0≤a∧a≤B | _=>True:=by
 induction hs with
 | stop _=>intro hi;trivial
 | no h1 h2 h3=>intro hi;exact Iz hB h _
 | fbad h1 h2=>intro hi;exact A80 hk hB h _ _ _ (C3 h1) h2
 | @simple inn i j s r h1 h2 h3 h4 ih =>
  intro hi
  have:=ih (E2 hk (C3 h1) h3).2
  cases r with
  | ok x tu=>trivial
  | bad e a=>exact this
 | bbad h1 h2 h3 h4 ih=>intro hi;exact ih (E2 hk (C3 h1) h3).2
 | @blk inn i j j2 s b r h1 h2 h3 h4 h5 h6 ih1 ih2 =>
  intro hi
  have h7:=E2 hk (C3 h1) h3
  have h8:=If hk h4 h7.2
  simp only[J3,if_true] at h8
  have:=ih2 h8.2.1
  cases r with
  | ok x tu=>trivial
  | bad e a=>exact this
 | ebad h1 h3 h4 h5 h6 ih1 ih2=>intro hi;exact ih2 (Hr h5)
 | @els inn i j j2 j3 s b c r h1 h3 h4 h5 h6 h7 ih1 ih2 ih3 =>
  intro hi
  have h11:=If hk h6 (Hr h5)
  simp only[J3,if_true] at h11
  have:=ih3 h11.2.1
  cases r with
  | ok x tu=>trivial
  | bad e a=>exact this
 | nob _=>intro hi;exact Iz hB h _
 | deep h1 h2=>intro hi;exact Iz hB h _
 | sbad h1 h2 h3 ih=>intro hi;exact ih (De h1)
 | close h1 h2 h3 h4 ih=>intro hi;trivial
 | opn h1 h2 h3 h4 ih=>intro hi;exact Iz hB h _
def Afk (x:St):Prop:=x.H7.length≤100∧x.H8.length≤100∧Mj x.Et=true∧Mj x.O6=true
abbrev Pg:=B7
abbrev Th:=Ad
abbrev Cl:=Af
abbrev Va:=B4
structure Am9 (t:Th):Prop where
 name:t.An.length≤100
 regs:t.Bv.length≤4000
 reg:∀ r ∈ t.Bv,r.length≤100
 body:t.Be.length≤250
 st:∀ x ∈ t.Be,Afk x
structure Xd (p:Pg):Prop where
 locs:p.B8.length≤4000
 threads:p.Ak.length≤4000
 claims:p.Ar.length≤4000
 loc:∀ v ∈ p.B8,v.An.length≤100
 thr:∀ t ∈ p.Ak,Am9 t
 cl:∀ c ∈ p.Ar,Mj c.Et=true
def Adk (n:Int):Bool:=decide (0≤n∧n≤9999)
def A19 (v:Va):Bool:=E0 v.An&&(Adk v.C2&&decide (0≤v.Al))
def A12 (t:Th):Bool:=E0 t.An&&(decide (0≤t.Al)&&(Uz t.Be&&t.Bv.all E0))
def clB (l:List Nd):Bool:=(l.filter L9).all fun x=>!(x.Bm==2)
def A4h (c:Cl):Bool:=clB c.Et&&(decide (1≤c.At∧c.At≤3)&&(Ip c.Et&&decide (0≤c.Al)))
def Xa (p:Pg):Bool:=Adk p.Bz&&(p.B8.all A19&&(p.Ak.all A12&&p.Ar.all A4h))
abbrev Ps:=Nat×Int×Int
def wr (l:List Tk) (s:Ps):Ps:=bif s.2.1==0 then(s.1,El l s.1,Ba l s.1) else s
def Yk (l:List Tk) (i:Nat) (w:List UInt8):Bool:=match l[i]? with
 | some t=>t.At==1&&t.A7==w
 | none=>false
def C6 (w:List UInt8) (l:List Tk) (s:Ps):Bool:=s.2.1==0&&Yk l s.1 w
def sgF (w:List UInt8) (l:List Tk) (s:Ps):Ps:=bif s.2.1==0&&Bl l s.1 w then(s.1+1,s.2) else wr l s
def V1 (l:List Tk) (i:Nat):Int:=match l[i]? with | some t=>t.C2 | none=>0
def atA (l:List Tk) (i:Nat):Int:=match l[i]? with | some t=>t.Al | none=>0
def nmF (l:List Tk) (s:Ps):List UInt8×Ps:=bif s.2.1==0&&isN l s.1 then(txt l s.1,(s.1+1,s.2)) else([],wr l s)
def nuF (l:List Tk) (s:Ps):Int×Ps:=bif s.2.1==0&&isK l s.1 then(V1 l s.1,(s.1+1,s.2)) else(0,wr l s)
def M4 (l:List Tk) (s:Ps):Va×Ps:=(⟨(nmF l (s.1+1,s.2)).1,(nuF l (sgF [61] l (nmF l (s.1+1,s.2)).2)).1,atA l s.1⟩,sgF [59] l (nuF l (sgF [61] l (nmF l (s.1+1,s.2)).2)).2)
def Eu (l:List Tk):Nat→Ps→List Va→List Va×Ps
 | 0,s,acc=>(acc,s)
 | k+1,s,acc=>bif C6 [108,111,99] l s then Eu l k (M4 l s).2 (acc++[(M4 l s).1]) else(acc,s)
def Dr (l:List Tk):Nat→Ps→List (List UInt8)→List (List UInt8)×Ps
 | 0,s,acc=>(acc,s)
 | k+1,s,acc=>bif s.2.1==0&&Bl l s.1 [44] then Dr l k (nmF l (s.1+1,s.2)).2 (acc++[(nmF l (s.1+1,s.2)).1]) else(acc,s)
open Classical in
noncomputable def seQ (l:List Tk) (i:Nat):Adf:=if h:∃ r,SE l false 0 i r then S5 l i h.choose else([],0,6,0)
open Classical in
noncomputable def peQ (l:List Tk) (i:Nat):List Nd×Int×Int×Int:=if h:∃ r,PE l (.fl 0) 0 i r then I8 l i h.choose else([],0,6,0)
def faF (s:Int×Int) (e a:Int):Int×Int:=bif s.1==0 then bif e != 0 then(e,a) else s else s
def G3 (l:List Tk) (s:Ps):List (List UInt8)×Ps:=bif C6 [114,101,103] l s then((Dr l (l.length+2) (nmF l (s.1+1,s.2)).2 [(nmF l (s.1+1,s.2)).1]).1,sgF [59] l (Dr l (l.length+2) (nmF l (s.1+1,s.2)).2 [(nmF l (s.1+1,s.2)).1]).2) else([],s)
noncomputable def Iv (l:List Tk) (s:Ps):List St×Ps:=bif s.2.1==0 then((seQ l s.1).1,sgF [125] l ((seQ l s.1).2.1.toNat,faF s.2 (seQ l s.1).2.2.1 (seQ l s.1).2.2.2)) else([],sgF [125] l s)
noncomputable def Jq (l:List Tk) (s:Ps):Th×Ps:=(⟨(nmF l (s.1+1,s.2)).1,(G3 l (sgF [123] l (nmF l (s.1+1,s.2)).2)).1,(Iv l (G3 l (sgF [123] l (nmF l (s.1+1,s.2)).2)).2).1,atA l s.1⟩,(Iv l (G3 l (sgF [123] l (nmF l (s.1+1,s.2)).2)).2).2)
noncomputable def G0 (l:List Tk):Nat→Ps→List Th→List Th×Ps
 | 0,s,acc=>(acc,s)
 | k+1,s,acc=>bif C6 [116,104,114,101,97,100] l s then G0 l k (Jq l s).2 (acc++[(Jq l s).1]) else(acc,s)
def cwS:List (List UInt8):=[[],[102,111,114,97,108,108],[101,120,105,115,116,115],[97,108,119,97,121,115]]
def Gs (l:List Tk) (s:Ps):Int:=bif C6 [102,111,114,97,108,108] l s then 1 else bif C6 [101,120,105,115,116,115] l s then 2 else bif C6 [97,108,119,97,121,115] l s then 3 else 0
def Gt (x:Nd):Nd:=if x.Bm=2 then⟨3,x.C2,x.An,x.Dd,x.Al⟩ else x
noncomputable def clF (k:Int) (l:List Tk) (s:Ps):Cl×Ps:=(⟨k,(peQ l (s.1+1)).1.map Gt,atA l s.1⟩,sgF [59] l (if(faF s.2 (peQ l (s.1+1)).2.2.1 (peQ l (s.1+1)).2.2.2).1=0 then(peQ l (s.1+1)).2.1.toNat else s.1+1,faF s.2 (peQ l (s.1+1)).2.2.1 (peQ l (s.1+1)).2.2.2))
noncomputable def Hz (l:List Tk):Nat→Ps→List Cl→List Cl×Ps
 | 0,s,acc=>(acc,s)
 | k+1,s,acc=>bif decide (0 < Gs l s) then Hz l k (clF (Gs l s) l s).2 (acc++[(clF (Gs l s) l s).1]) else(acc,s)
def noP:Pg:=⟨0,[],[],[]⟩
def Gl (l:List Tk):Int×Ps:=(fun r:Int×Ps=>(r.1,sgF [59] l r.2)) (nuF l (bif C6 [109,111,100] l (0,0,0) then(1,0,0) else wr l (0,0,0)))
def M5 (l:List Tk) (s:Ps):Ps:=bif decide (s.1 < l.length) then wr l s else s
noncomputable def Na (l:List Tk):Pg×Int×Int :=
 (fun r:Int×Ps=>(fun v:List Va×Ps=>(fun t:List Th×Ps=>(fun c:List Cl×Ps=>(fun s:Ps=>bif s.2.1 != 0 then(noP,s.2) else(⟨r.1,v.1,t.1,c.1⟩,0,0)) (M5 l c.2)) (Hz l (l.length+2) t.2 [])) (G0 l (l.length+2) v.2 [])) (Eu l (l.length+2) r.2 [])) (Gl l)
noncomputable def Im (s:List UInt8):Pg×Int×Int:=bif (Hw s).err != 0 then(noP,(Hw s).err,((Hw s).at':Int)) else Na (R1 s)
def Cd (l:List Tk) (s:Ps):Prop:=s.1≤l.length
theorem A1w (l:List Tk) (s:Ps):(wr l s).1=s.1:=by unfold wr;cases s.2.1==0<;>rfl
theorem A8o (l:List Tk) (s:Ps):(wr l s).2.1≠0:=by
 unfold wr
 cases h:s.2.1==0 with
 | true=>exact Ue l s.1
 | false=>rw[beq_eq_false_iff_ne] at h;exact h
theorem A56 {l:List Tk} {i:Nat} {w:List UInt8} (h:Bl l i w=true):i < l.length:=by
 unfold Bl at h
 cases hx:l[i]? with
 | none=>rw[hx] at h;cases h
 | some t=>exact(List.getElem?_eq_some_iff.1 hx).1
theorem Akd {l:List Tk} {i:Nat} {w:List UInt8} (h:Yk l i w=true):i < l.length:=by
 unfold Yk at h
 cases hx:l[i]? with
 | none=>rw[hx] at h;cases h
 | some t=>exact(List.getElem?_eq_some_iff.1 hx).1
theorem Aft {l:List Tk} {i:Nat} (h:isK l i=true):i < l.length:=by
 unfold isK at h
 cases hx:l[i]? with
 | none=>rw[hx] at h;cases h
 | some t=>exact(List.getElem?_eq_some_iff.1 hx).1
theorem Am4 {l:List Tk} {i:Nat} (h:i < l.length):txt l i=l[i].A7:=by unfold txt;rw[Ao h]
theorem Am8 {l:List Tk} {i:Nat} (h:i < l.length):V1 l i=l[i].C2:=by unfold V1;rw[Ao h]
theorem Acq {l:List Tk} {i:Nat} (h:i < l.length):atA l i=l[i].Al:=by unfold atA;rw[Ao h]
theorem Ln {w:List UInt8} {l:List Tk} {s:Ps} (h:Cd l s):Cd l (sgF w l s):=by
 unfold sgF
 cases c:s.2.1==0&&Bl l s.1 w with
 | true=>rw[A8] at c;have:=A56 c.2;exact this
 | false=>rw[Aw];unfold Cd;rw[A1w];exact h
theorem A3x {w:List UInt8} {l:List Tk} {s:Ps}:((sgF w l s).1=s.1+1∧Bl l s.1 w=true∧s.2.1=0∧(sgF w l s).2=s.2)∨((sgF w l s).2.1≠0∧(sgF w l s).1=s.1):=by
 unfold sgF
 cases c:s.2.1==0&&Bl l s.1 w with
 | true=>rw[A8,beq_iff_eq] at c;exact .inl ⟨rfl,c.2,c.1,rfl⟩
 | false=>exact .inr ⟨A8o l s,A1w l s⟩
theorem A8d {l:List Tk} {s:Ps}:((nmF l s).2.1=s.1+1∧isN l s.1=true∧s.2.1=0∧(nmF l s).1=txt l s.1∧(nmF l s).2.2=s.2)∨((nmF l s).2.2.1≠0∧(nmF l s).2.1=s.1∧(nmF l s).1=[]):=by
 unfold nmF
 cases c:s.2.1==0&&isN l s.1 with
 | true=>rw[A8,beq_iff_eq] at c;exact .inl ⟨rfl,c.2,c.1,rfl,rfl⟩
 | false=>exact .inr ⟨A8o l s,A1w l s,rfl⟩
theorem Aa7 {l:List Tk} {s:Ps}:((nuF l s).2.1=s.1+1∧isK l s.1=true∧s.2.1=0∧(nuF l s).1=V1 l s.1∧(nuF l s).2.2=s.2)∨((nuF l s).2.2.1≠0∧(nuF l s).2.1=s.1):=by
 unfold nuF
 cases c:s.2.1==0&&isK l s.1 with
 | true=>rw[A8,beq_iff_eq] at c;exact .inl ⟨rfl,c.2,c.1,rfl,rfl⟩
 | false=>exact .inr ⟨A8o l s,A1w l s⟩
theorem Ox {l:List Tk} {s:Ps} (h:Cd l s):Cd l (nmF l s).2:=by
 rcases A8d (l:=l) (s:=s) with ⟨h1,h2,_⟩ | ⟨_,h2,_⟩
 ·unfold Cd;rw[h1];have:=Sb h2;omega
 ·unfold Cd;rw[h2];exact h
theorem Aa9 {l:List Tk} {s:Ps} (h:Cd l s):Cd l (nuF l s).2:=by
 rcases Aa7 (l:=l) (s:=s) with ⟨h1,h2,_⟩ | ⟨_,h2⟩
 ·unfold Cd;rw[h1];have:=Aft h2;omega
 ·unfold Cd;rw[h2];exact h
theorem Ix {l:List Tk} {w:List UInt8} {s:Ps} (h:C6 w l s=true):s.1 < l.length∧s.2.1=0:=by
 rw[C6,A8,beq_iff_eq] at h;exact⟨Akd h.2,h.1⟩
def Fh (l:List Tk) (s:Ps):Nat:=bif s.2.1==0 then l.length - s.1+1 else 0
theorem Ts {l:List Tk} {s t:Ps} (h0:s.2.1=0) (hs:Cd l s) (h:t.2.1≠0∨s.1 < t.1) (ht:Cd l t):Fh l t < Fh l s:=by
 unfold Fh Cd at *
 rw[h0]
 cases hc:t.2.1==0 with
 | true =>
  rw[beq_iff_eq] at hc
  rcases h with h | h
  ·exact absurd hc h
  ·show l.length - t.1+1 < l.length - s.1+1;omega
 | false=>show 0 < l.length - s.1+1;omega
theorem Px {l:List Tk} {s:Ps}:Fh l s≤l.length+1:=by unfold Fh;cases s.2.1==0<;>simp<;>omega
theorem Yb {w:List UInt8} {l:List Tk} {s:Ps}:s.1≤(sgF w l s).1:=by rcases A3x (w:=w) (l:=l) (s:=s) with ⟨h,_⟩ | ⟨_,h⟩<;>omega
theorem Pp {l:List Tk} {s:Ps}:s.1≤(nmF l s).2.1:=by rcases A8d (l:=l) (s:=s) with ⟨h,_⟩ | ⟨_,h,_⟩<;>omega
theorem Ahx {l:List Tk} {s:Ps}:s.1≤(nuF l s).2.1:=by rcases Aa7 (l:=l) (s:=s) with ⟨h,_⟩ | ⟨_,h⟩<;>omega
theorem Ac9 {l:List Tk} {s:Ps} (h:s.1 < l.length):Cd l (M4 l s).2∧s.1 < (M4 l s).2.1:=by
 have a1:Cd l (nmF l (s.1+1,s.2)).2:=Ox h
 have a2:=Ln (w:=[61]) a1
 have a3:=Aa9 a2
 have b1:=Pp (l:=l) (s:=(s.1+1,s.2))
 have b2:=Yb (w:=[61]) (l:=l) (s:=(nmF l (s.1+1,s.2)).2)
 have b3:=Ahx (l:=l) (s:=sgF [61] l (nmF l (s.1+1,s.2)).2)
 have b4:=Yb (w:=[59]) (l:=l) (s:=(nuF l (sgF [61] l (nmF l (s.1+1,s.2)).2)).2)
 refine⟨Ln a3,?_⟩
 unfold M4
 dsimp only at b1 ⊢
 omega
theorem A4e {l:List Tk}:∀ (K:Nat) (s:Ps) (acc:List Va),Cd l s→acc.length≤s.1→Cd l (Eu l K s acc).2∧(Eu l K s acc).1.length≤(Eu l K s acc).2.1
 | 0,s,acc,hs,ha=>⟨hs,ha⟩
 | K+1,s,acc,hs,ha=>by
  rw[Eu]
  cases hc:C6 [108,111,99] l s with
  | false=>exact⟨hs,ha⟩
  | true =>
   obtain⟨v1,v2⟩:=Ac9 (s:=s) (Ix hc).1
   exact A4e K _ _ v1 (by simp;omega)
theorem A48 {l:List Tk}:∀ (K:Nat) (s:Ps) (acc:List (List UInt8)),Cd l s→Cd l (Dr l K s acc).2∧s.1≤(Dr l K s acc).2.1
 | 0,s,acc,hs=>⟨hs,Nat.le_refl _⟩
 | K+1,s,acc,hs=>by
  rw[Dr]
  cases hc:s.2.1==0&&Bl l s.1 [44] with
  | false=>exact⟨hs,Nat.le_refl _⟩
  | true =>
   rw[A8] at hc
   have b1:=Pp (l:=l) (s:=(s.1+1,s.2))
   have:=A48 K (nmF l (s.1+1,s.2)).2 (acc++[(nmF l (s.1+1,s.2)).1]) (Ox (A56 hc.2))
   dsimp only at b1
   exact⟨this.1,Nat.le_trans (by omega) this.2⟩
structure TokB (B T:Nat) (l:List Tk):Prop where
 toks:Toks T l
 small:B < 1000000
 at':∀ t ∈ l,Sq t∧t.Al+t.A7.length≤B
def Nz (B:Nat) (x:Nd):Prop:=0≤x.Al∧x.Al≤B
def A91 (B:Nat) (x:St):Prop:=(0≤x.Al∧x.Al≤B)∧(∀ y ∈ x.Et,Nz B y)∧∀ y ∈ x.O6,Nz B y
theorem TokB.tk {B T:Nat} {l:List Tk} (h:TokB B T l) {i:Nat} {t:Tk} (e:l[i]?=some t):0≤t.Al∧t.Al≤B:=by
 have:=h.at' t (List.mem_of_getElem? e);have:=this.1.1;omega
theorem Ajl {B T:Nat} {l:List Tk} (hl:TokB B T l) {md:Md} {inn i:Nat} {r:PR} (h:PE l md inn i r):match md,r with
 | .fl _,.ok x _=>∀ y ∈ x,Nz B y
 | .lp _ x0,.ok x _=>(∀ y ∈ x0,Nz B y)→∀ y ∈ x,Nz B y
 | _,_=>True:=by
 have bin:∀ {op:Int} {t:Tk} {i:Nat} {x y:List Nd},l[i]?=some t→(∀ z ∈ x,Nz B z)→(∀ z ∈ y,Nz B z)→∀ z ∈ (⟨op,0,[],[],t.Al⟩:Nd) :: (x++y),Nz B z:=by
  intro op t i x y ht hx hy z hz
  rcases List.mem_cons.1 hz with rfl | hz
  ·exact hl.tk ht
  ·rcases List.mem_append.1 hz with hz | hz
   ·exact hx z hz
   ·exact hy z hz
 induction h with
 | deep h1 h2 h3=>trivial
 | @not_ok inn i tu t x h1 h2 h3 h4 ih =>
  intro z hz
  rcases List.mem_cons.1 hz with rfl | hz
  ·exact hl.tk h3
  ·exact ih z hz
 | not_bad h1 h2 h4 ih=>trivial
 | par_ok h1 h2 h3 h4 ih=>exact ih
 | par_bad h1 h2 h4 ih=>trivial
 | par_open h1 h2 h3 h4 ih=>trivial
 | @num inn i t h1 h2=>intro z hz;rw[List.mem_singleton.1 hz];exact hl.tk h2
 | @reg inn i t h1 h2 h3=>intro z hz;rw[List.mem_singleton.1 hz];exact hl.tk h3
 | @of inn i t u h1 h2 h3 h4 h5=>intro z hz;rw[List.mem_singleton.1 hz];exact hl.tk h4
 | of_bad h1 h2 h3=>trivial
 | no h1 h2 h3 h4=>trivial
 | fl_bad h1 h2 ih=>trivial
 | @fl_ok f inn i tu x r h1 h2 h3 ih1 ih2 =>
  cases r with
  | ok y to2=>exact ih2 ih1
  | bad e a=>trivial
 | lp_stop h1=>exact id
 | lp_bad h1 h2 h3 ih=>trivial
 | lp_once h1 h2 h3 ih=>exact fun hx=>bin h2 hx ih
 | @lp_go f inn i tu x y t r h1 h2 h3 h4 h5 h6 ih1 ih2 =>
  cases r with
  | ok y to2=>exact fun hx=>ih2 (bin h4 hx ih1)
  | bad e a=>trivial
theorem Amd {B T:Nat} {l:List Tk} (hl:TokB B T l) {i tu:Nat} {x:List Nd} (hi:i≤l.length) (h:exQ l i=.ok x tu):∀ y ∈ x,Nz B y:=by
 obtain⟨r,hr,e⟩:=Wl hl.toks hi
 rw[h] at e
 cases r with
 | bad e' a=>simp only[Ke] at e;cases e
 | ok y tv =>
  simp only[Ke] at e
  split at e
  ·cases e
  ·split at e
   ·cases e
   ·split at e
    ·cases e;exact Ajl hl hr
    ·cases e
def A7i (B:Nat) (s:Fs):Prop:=(∀ y ∈ s.e,Nz B y)∧∀ y ∈ s.f,Nz B y
def V2 (B:Nat):FR→Prop
 | .ok s _=>A7i B s
 | .bad _ _=>True
theorem A1a {B T:Nat} {l:List Tk} (hl:TokB B T l):∀ (cs:List UInt8) (i:Nat) (s s':Fs) (j:Nat),i≤l.length→A7i B s→Gd l (exQ l) cs i s=.ok s' j→A7i B s'
 | [],i,s,s',j,hi,hs,h=>by rw[Gd] at h;cases h;exact hs
 | c :: cs,i,s,s',j,hi,hs,h=>by
  have h1:=U2 hl.toks (c:=c) (s:=s) hi
  have hex:match exQ l i with | .ok x _=>∀ y ∈ x,Nz B y | .bad _ _=>True:=by
   cases hx:exQ l i with
   | ok x tu=>exact Amd hl hi hx
   | bad e a=>trivial
  have hst0:V2 B (Fg l (exQ l) c i s):=by
   unfold Fg
   refine Dq (Q:=V2 B) (fun _=>Dq (Q:=V2 B) (fun _=>hs) fun _=>trivial) fun _=>Dq (Q:=V2 B) (fun _=>Dq (Q:=V2 B) (fun _=>hs) fun _=>trivial) fun _=>Dq (Q:=V2 B) (fun _=>?_) fun _=>Dq (Q:=V2 B) (fun _=>?_) fun _=>Dq (Q:=V2 B) (fun _=>Dq (Q:=V2 B) (fun _=>hs) fun _=>Dq (Q:=V2 B) (fun _=>hs) fun _=>trivial) fun _=>Dq (Q:=V2 B) (fun _=>hs) fun _=>trivial
   ·revert hex;cases exQ l i with
    | ok x tu=>intro h;exact⟨h,hs.2⟩
    | bad e a=>intro h;trivial
   ·revert hex;cases exQ l i with
    | ok x tu=>intro h;exact⟨hs.1,h⟩
    | bad e a=>intro h;trivial
  have hst:∀ s2 j2,Fg l (exQ l) c i s=.ok s2 j2→A7i B s2:=fun s2 j2 h=>by rw[h] at hst0;exact hst0
  rw[Gd] at h
  clear hst0
  revert h h1 hst
  cases Fg l (exQ l) c i s with
  | bad e a=>intro h _ _;cases h
  | ok s2 j2=>intro h h1 hst;exact A1a hl cs j2 s2 s' j h1.2 (hst s2 j2 rfl) h
def Aim (B:Nat):SR→Prop
 | .ok x _=>∀ y ∈ x,A91 B y
 | .bad _ _=>True
theorem A4k {B:Nat} {x:List St} {r:SR} (h:∀ y ∈ x,A91 B y) (hr:Aim B r):Aim B (P9 x r):=by
 cases r with
 | ok z tu=>intro y hy;rcases List.mem_append.1 hy with hy | hy;exact h y hy;exact hr y hy
 | bad e a=>trivial
theorem Anv {B T:Nat} {l:List Tk} (hl:TokB B T l) {md:Bool} {inn i:Nat} {r:SR} (h:SE l md inn i r):i≤l.length→Aim B r:=by
 have hk:=hl.toks
 have pl:=fun i=>Iz hl.small hl.at' i
 have s0:A7i B fs0:=⟨fun y hy=>(by cases hy),fun y hy=>(by cases hy)⟩
 induction h with
 | stop h=>intro hi y hy;cases hy
 | no h1 h2 h3=>intro hi;trivial
 | fbad h1 h2=>intro hi;trivial
 | @simple inn i j s r h1 h2 h3 h4 ih =>
  intro hi
  have h5:=E2 hk (C3 h1) h3
  have h6:=A1a hl _ _ _ _ _ (C3 h1) s0 h3
  exact A4k (fun y hy=>by rw[List.mem_singleton] at hy;subst hy;exact⟨pl i,h6.1,h6.2⟩) (ih h5.2)
 | bbad h1 h2 h3 h4 ih=>intro hi;trivial
 | @blk inn i j j2 s b r h1 h2 h3 h4 h5 h6 ih1 ih2 =>
  intro hi
  have h7:=E2 hk (C3 h1) h3
  have h9:=A1a hl _ _ _ _ _ (C3 h1) s0 h3
  have h8:=If hk h4 h7.2
  simp only[J3,if_true] at h8
  exact A4k (fun y hy=>by
   rcases List.mem_cons.1 hy with rfl | hy
   ·exact⟨pl i,h9.1,h9.2⟩
   ·exact ih1 h7.2 y hy) (ih2 h8.2.1)
 | ebad h1 h3 h4 h5 h6 ih1 ih2=>intro hi;trivial
 | @els inn i j j2 j3 s b c r h1 h3 h4 h5 h6 h7 ih1 ih2 ih3 =>
  intro hi
  have h0:Aq l i≠0:=by omega
  have h8:=E2 hk (C3 h0) h3
  have h9:=A1a hl _ _ _ _ _ (C3 h0) s0 h3
  have hj:=Hr h5
  have h11:=If hk h6 hj
  simp only[J3,if_true] at h11
  exact A4k (fun y hy=>by
   rcases List.mem_cons.1 hy with rfl | hy
   ·exact⟨pl i,h9.1,h9.2⟩
   ·rcases List.mem_append.1 hy with hy | hy
    ·exact ih1 h8.2 y hy
    ·exact ih2 hj y hy) (ih3 h11.2.1)
 | nob h=>intro hi;trivial
 | deep h1 h2=>intro hi;trivial
 | sbad h1 h2 h3 ih=>intro hi;trivial
 | close h1 h2 h3 h4 ih=>intro hi;exact ih (De h1)
 | opn h1 h2 h3 h4 ih=>intro hi;trivial
theorem A0j {T:Nat} {l:List Tk} (hk:Toks T l) {i:Nat} (hi:i≤l.length):∃ r,SE l false 0 i r∧seQ l i=S5 l i r:=by
 have h:∃ r,SE l false 0 i r:=Ai0 hk l.length i 0 false (by omega) hi (by omega)
 exact⟨h.choose,h.choose_spec,by unfold seQ;rw[dif_pos h]⟩
theorem A0c {T:Nat} {l:List Tk} (hk:Toks T l) {i:Nat} (hi:i≤l.length):∃ r,PE l (.fl 0) 0 i r∧peQ l i=I8 l i r:=by
 have h:∃ r,PE l (.fl 0) 0 i r:=A9o l.length i 0 0 (by omega) hi (by omega) (by omega)
 exact⟨h.choose,h.choose_spec,by unfold peQ;rw[dif_pos h]⟩
theorem A1x {T:Nat} {l:List Tk} (hk:Toks T l) {i:Nat} (hi:i≤l.length):((seQ l i).2.2.1≠0∧(seQ l i).1=[]∧(seQ l i).2.1=0)∨(∃ tu:Nat,(seQ l i).2=((tu:Int),0,0)∧i≤tu∧tu≤l.length∧Uz (seQ l i).1=true∧(seQ l i).1.length≤200):=by
 obtain⟨r,hr,e⟩:=A0j hk hi
 rw[e]
 have hok:=If hk hr hi
 have htr:=Ak7 hk hr hi (by omega)
 cases r with
 | bad e a=>exact .inl ⟨hok,rfl,rfl⟩
 | ok x tu =>
  simp only[S5]
  by_cases c:200 < x.length
  ·rw[if_pos c];exact .inl ⟨(by decide:(2:Int)≠0),rfl,rfl⟩
  ·rw[if_neg c]
   simp only[J3,Bool.false_eq_true,if_false] at hok
   refine .inr ⟨tu,rfl,by omega,hok.2.1,?_,(show x.length≤200 by omega)⟩
   simp only[Bool.false_eq_true,if_false] at htr
   obtain⟨F,f1,f2,f3,f4⟩:=htr
   subst f2
   exact Adg f1 (by omega) (by omega) f4
theorem Alw {B T:Nat} {l:List Tk} (hl:TokB B T l) {i:Nat} (hi:i≤l.length):(∀ x ∈ (seQ l i).1,A91 B x)∧0≤(seQ l i).2.2.2∧(seQ l i).2.2.2≤B:=by
 obtain⟨r,hr,e⟩:=A0j hl.toks hi
 rw[e]
 have h1:=Anv hl hr hi
 have h2:=Amq hl.toks hl.small hl.at' hr hi
 have pl:=Iz hl.small hl.at' i
 cases r with
 | bad e a=>exact⟨fun x hx=>(by cases hx),h2.1,h2.2⟩
 | ok x tu =>
  simp only[S5]
  by_cases c:200 < x.length
  ·rw[if_pos c];exact⟨fun x hx=>(by cases hx),pl.1,pl.2⟩
  ·rw[if_neg c];exact⟨h1,(by decide:(0:Int)≤0),by dsimp only;omega⟩
theorem Xn {T:Nat} {l:List Tk} (hk:Toks T l) {i:Nat} (hi:i≤l.length):((peQ l i).2.2.1≠0∧(peQ l i).1=[]∧(peQ l i).2.1=0)∨(∃ tu:Nat,(peQ l i).2=((tu:Int),0,0)∧i < tu∧tu≤l.length∧P7 (peQ l i).1∧Ip (peQ l i).1=true):=by
 obtain⟨r,hr,e⟩:=A0c hk hi
 rw[e]
 rcases A5v hr hi with ⟨e',a,h1,h2,_⟩ | ⟨x,tu,h1,h2,h3,h4⟩
 ·rw[h1];exact .inl ⟨h2,rfl,rfl⟩
 ·subst h1
  have hok:=I3 hr hi
  have hg:=A4g hk.ok hr
  dsimp only at hok hg
  obtain⟨_,_,_,_,_,h5⟩:=Zg hg h3 h4
  rw[h2];exact .inr ⟨tu,rfl,hok.1,hok.2.1,hg,h5⟩
theorem Amr {B T:Nat} {l:List Tk} (hl:TokB B T l) {i:Nat} (hi:i≤l.length):(∀ x ∈ (peQ l i).1,Nz B x)∧0≤(peQ l i).2.2.2∧(peQ l i).2.2.2≤B:=by
 obtain⟨r,hr,e⟩:=A0c hl.toks hi
 rw[e]
 have pl:=Iz hl.small hl.at' i
 rcases A5v hr hi with ⟨e',a,h1,h2,h3⟩ | ⟨x,tu,h1,h2,h3,h4⟩
 ·rw[h1]
  refine⟨fun x hx=>(by cases hx),?_⟩
  rcases h3 with h3 | h3
  ·rw[h3] at hr;exact A5w hl.small hl.at' hr
  ·rw[h3];exact pl
 ·subst h1
  rw[h2];exact⟨Ajl hl hr,(by decide:(0:Int)≤0),by dsimp only;omega⟩
theorem A11 {T:Nat} {l:List Tk} (hk:Toks T l) {s:Ps} (hs:Cd l s):Cd l (G3 l s).2∧s.1≤(G3 l s).2.1:=by
 unfold G3
 cases hc:C6 [114,101,103] l s with
 | false=>exact⟨hs,Nat.le_refl _⟩
 | true =>
  obtain⟨h1,h2⟩:=Ix hc
  have a1:Cd l (nmF l (s.1+1,s.2)).2:=Ox h1
  have b1:=Pp (l:=l) (s:=(s.1+1,s.2))
  obtain⟨r2,r3⟩:=A48 (l.length+2) (nmF l (s.1+1,s.2)).2 [(nmF l (s.1+1,s.2)).1] a1
  have b2:=Yb (w:=[59]) (l:=l) (s:=(Dr l (l.length+2) (nmF l (s.1+1,s.2)).2 [(nmF l (s.1+1,s.2)).1]).2)
  dsimp only at b1
  refine⟨Ln r2,?_⟩
  show s.1≤(sgF [59] l (Dr l (l.length+2) (nmF l (s.1+1,s.2)).2 [(nmF l (s.1+1,s.2)).1]).2).1
  omega
theorem A7k {T:Nat} {l:List Tk} (hk:Toks T l) {i:Nat} (hi:i≤l.length):((seQ l i).2.1.toNat:Int)=(seQ l i).2.1∧(seQ l i).2.1.toNat≤l.length∧((seQ l i).2.2.1=0→i≤(seQ l i).2.1.toNat):=by
 rcases A1x hk hi with ⟨h0,_,h⟩ | ⟨tu,h,h2,h3,_⟩
 ·rw[h];exact⟨rfl,by simp,fun e=>absurd e h0⟩
 ·rw[h];exact⟨by simp,by simp;omega,fun _=>by simp;omega⟩
theorem Afb {T:Nat} {l:List Tk} (hk:Toks T l) {i:Nat} (hi:i≤l.length):((peQ l i).2.1.toNat:Int)=(peQ l i).2.1∧(peQ l i).2.1.toNat≤l.length∧((peQ l i).2.2.1=0→i < (peQ l i).2.1.toNat):=by
 rcases Xn hk hi with ⟨h0,_,h⟩ | ⟨tu,h,h2,h3,_⟩
 ·rw[h];exact⟨rfl,by simp,fun e=>absurd e h0⟩
 ·rw[h];exact⟨by simp,by simp;omega,fun _=>by simp;omega⟩
theorem A2o {w:List UInt8} {l:List Tk} {s:Ps} (h:s.2.1≠0):(sgF w l s).2.1≠0:=by
 rcases A3x (w:=w) (l:=l) (s:=s) with ⟨_,_,h0,_⟩ | ⟨h1,_⟩
 ·exact absurd h0 h
 ·exact h1
theorem A0q {s:Int×Int} {e a:Int} (h:e≠0):(faF s e a).1≠0:=by
 unfold faF
 cases hc:s.1==0 with
 | true=>rw[Ac,bne_iff_ne.2 h];exact h
 | false=>rw[Aw];rw[beq_eq_false_iff_ne] at hc;exact hc
theorem Alb {T:Nat} {l:List Tk} (hk:Toks T l) {s:Ps} (hs:Cd l s):Cd l (Iv l s).2∧((Iv l s).2.2.1≠0∨s.1 < (Iv l s).2.1):=by
 unfold Iv
 cases hc:s.2.1==0 with
 | true =>
  rw[Ac]
  obtain⟨h1,h2,h3⟩:=A7k hk hs
  refine⟨Ln h2,?_⟩
  by_cases e:(seQ l s.1).2.2.1=0
  ·have:=h3 e
   rcases A3x (w:=[125]) (l:=l) (s:=((seQ l s.1).2.1.toNat,faF s.2 (seQ l s.1).2.2.1 (seQ l s.1).2.2.2)) with ⟨g1,_⟩ | ⟨g1,_⟩
   ·right;dsimp only at g1 ⊢;omega
   ·exact .inl g1
  ·exact .inl (A2o (A0q e))
 | false =>
  rw[beq_eq_false_iff_ne] at hc
  exact⟨Ln hs,.inl (A2o hc)⟩
theorem Acb {T:Nat} {l:List Tk} (hk:Toks T l) {s:Ps} (h1:s.1 < l.length):Cd l (Jq l s).2∧((Jq l s).2.2.1≠0∨s.1 < (Jq l s).2.1):=by
 have a1:Cd l (nmF l (s.1+1,s.2)).2:=Ox h1
 have b1:=Pp (l:=l) (s:=(s.1+1,s.2))
 have a2:=Ln (w:=[123]) a1
 have b2:=Yb (w:=[123]) (l:=l) (s:=(nmF l (s.1+1,s.2)).2)
 obtain⟨a3,b3⟩:=A11 hk a2
 obtain⟨a4,b4⟩:=Alb hk a3
 dsimp only at b1
 exact⟨a4,b4.imp id (fun h=>by unfold Jq;dsimp only;omega)⟩
theorem Aa4 {T:Nat} {l:List Tk} (hk:Toks T l):∀ (K:Nat) (s:Ps) (acc:List Th),Cd l s→Cd l (G0 l K s acc).2∧(G0 l K s acc).1.length≤acc.length+Fh l s
 | 0,s,acc,hs=>⟨hs,Nat.le_add_right _ _⟩
 | K+1,s,acc,hs=>by
  rw[G0]
  cases hc:C6 [116,104,114,101,97,100] l s with
  | false=>exact⟨hs,Nat.le_add_right _ _⟩
  | true =>
   obtain⟨h1,h2⟩:=Ix hc
   obtain⟨t2,t3⟩:=Acb hk h1
   have:=Ts (t:=(Jq l s).2) h2 hs t3 t2
   have ih:=Aa4 hk K (Jq l s).2 (acc++[(Jq l s).1]) t2
   rw[List.length_append,List.length_singleton] at ih
   exact⟨ih.1,Nat.le_trans ih.2 (by omega)⟩
theorem Af7 {T:Nat} {l:List Tk} (hk:Toks T l) (k:Int) {s:Ps} (h1:s.1 < l.length) (h0:s.2.1=0):Cd l (clF k l s).2∧((clF k l s).2.2.1≠0∨s.1 < (clF k l s).2.1):=by
 obtain⟨g1,g2,g3⟩:=Afb hk (show s.1+1≤l.length from h1)
 have hP:Cd l (if(faF s.2 (peQ l (s.1+1)).2.2.1 (peQ l (s.1+1)).2.2.2).1=0 then(peQ l (s.1+1)).2.1.toNat else s.1+1,faF s.2 (peQ l (s.1+1)).2.2.1 (peQ l (s.1+1)).2.2.2):=by
  unfold Cd;dsimp only;split
  ·exact g2
  ·exact h1
 refine⟨Ln hP,?_⟩
 by_cases e:(peQ l (s.1+1)).2.2.1=0
 ·have:=g3 e
  have f0:(faF s.2 (peQ l (s.1+1)).2.2.1 (peQ l (s.1+1)).2.2.2).1=0:=by unfold faF;rw[h0,e];simp[h0]
  unfold clF
  dsimp only
  rw[if_pos f0]
  rcases A3x (w:=[59]) (l:=l) (s:=((peQ l (s.1+1)).2.1.toNat,faF s.2 (peQ l (s.1+1)).2.2.1 (peQ l (s.1+1)).2.2.2)) with ⟨q1,_⟩ | ⟨q1,_⟩
  ·right;dsimp only at q1;omega
  ·exact .inl q1
 ·exact .inl (A2o (A0q e))
theorem A0y {l:List Tk} {s:Ps} (h:0 < Gs l s):s.1 < l.length∧s.2.1=0∧Gs l s≤3:=by
 unfold Gs at h ⊢
 cases h1:C6 [102,111,114,97,108,108] l s with
 | true=>obtain⟨a,b⟩:=Ix h1;exact⟨a,b,(show(1:Int)≤3 by decide)⟩
 | false =>
  rw[h1] at h
  cases h2:C6 [101,120,105,115,116,115] l s with
  | true=>obtain⟨a,b⟩:=Ix h2;exact⟨a,b,(show(2:Int)≤3 by decide)⟩
  | false =>
   rw[h2] at h
   cases h3:C6 [97,108,119,97,121,115] l s with
   | true=>obtain⟨a,b⟩:=Ix h3;exact⟨a,b,(show(3:Int)≤3 by decide)⟩
   | false=>rw[h3] at h;exact absurd h (by decide)
theorem Acc {T:Nat} {l:List Tk} (hk:Toks T l):∀ (K:Nat) (s:Ps) (acc:List Cl),Cd l s→Cd l (Hz l K s acc).2∧(Hz l K s acc).1.length≤acc.length+Fh l s
 | 0,s,acc,hs=>⟨hs,Nat.le_add_right _ _⟩
 | K+1,s,acc,hs=>by
  rw[Hz]
  by_cases hc:0 < Gs l s
  ·obtain⟨h1,h2,_⟩:=A0y hc
   obtain⟨t2,t3⟩:=Af7 hk (Gs l s) h1 h2
   have:=Ts (t:=(clF (Gs l s) l s).2) h2 hs t3 t2
   have ih:=Acc hk K (clF (Gs l s) l s).2 (acc++[(clF (Gs l s) l s).1]) t2
   rw[List.length_append,List.length_singleton] at ih
   rw[Ah hc]
   exact⟨ih.1,Nat.le_trans ih.2 (by omega)⟩
  ·rw[B9 hc];exact⟨hs,Nat.le_add_right _ _⟩
theorem Anr {l:List Tk} {s:Ps} (h:Cd l s):Cd l (wr l s):=by unfold Cd;rw[A1w];exact h
theorem Ahd (l:List Tk):Cd l (Gl l).2:=by
 unfold Gl
 refine Ln (Aa9 ?_)
 cases hc:C6 [109,111,100] l (0,0,0) with
 | true=>exact(Ix hc).1
 | false=>exact Anr (show Cd l (0,0,0) from Nat.zero_le _)
def Alz:Tk:=⟨0,[],0,0⟩
def isT (kd:Int) (w:List UInt8) (l:List Tk) (i:Nat):Bool:=match l[i]? with
 | some t=>t.At==kd&&t.A7==w
 | none=>false
def Mz (l:List Tk) (i:Nat):Tk:=match l[i]? with
 | some t=>t
 | none=>Alz
theorem Pz {l:List Tk} {i:Nat} (h:i < l.length):Mz l i=l[i]:=by unfold Mz;rw[Ao h]
theorem Kr {α:Type} (n:Nat) (f:Nat→Option α):Rg (n+1) f=f n:=rfl
theorem A4b (i:Nat) (h:i < 100000):IntKind.i64.wrap (IntKind.i64.wrap ((i:Int)+1) - 1)=(i:Int):=by
 rw[Gw (show -9223372036854775808≤(i:Int)+1∧_ by omega),Gw (by omega)];omega
def nxB (b:Bool) (l:List Tk) (s:Ps):Tk×Bool×Int:=bif b then(Mz l s.1,true,((s.1+1:Nat):Int)) else(Alz,false,(s.1:Int))
theorem Oj (n:Nat) (kd:Int) (w:List UInt8) (l:List Tk) (s:Ps) (hl:l.length < 100000):Cy (n+2) l (s.1:Int) s.2.1 s.2.2 kd w=some (nxB (s.2.1==0&&isT kd w l s.1) l s):=by
 rw[Cy,nxB,isT]
 cases h:s.2.1==0 with
 | false=>rw[show(s.2.1 != 0)=true by rw[bne,h];rfl];rfl
 | true =>
  rw[show(s.2.1 != 0)=false by rw[bne,h];rfl,Aw]
  by_cases hx:s.1 < l.length
  ·rw[B9 (by omega),Cp hx,Ao hx,Pz hx,A4,Sx,A4b s.1 (by omega),Cp hx,Bx s.1 (by omega)]
   dsimp only
   cases l[s.1].At==kd<;>cases l[s.1].A7==w<;>rfl
  ·rw[Ah (by omega),List.getElem?_eq_none (by omega)];rfl
theorem Amy (n:Nat) (l:List Tk) (s:Ps) (hl:l.length < 100000):Hm (n+2) l (s.1:Int) s.2.1 s.2.2=some (nxB (s.2.1==0&&isK l s.1) l s):=by
 rw[Hm,nxB,isK]
 cases h:s.2.1==0 with
 | false=>rw[show(s.2.1 != 0)=true by rw[bne,h];rfl];rfl
 | true =>
  rw[show(s.2.1 != 0)=false by rw[bne,h];rfl,Aw]
  by_cases hx:s.1 < l.length
  ·rw[B9 (by omega),Cp hx,Ao hx,Pz hx,A4,P6,A4b s.1 (by omega),Cp hx,Bx s.1 (by omega)]
   dsimp only
   cases l[s.1].At==2<;>rfl
  ·rw[Ah (by omega),List.getElem?_eq_none (by omega)];rfl
theorem Amv (n:Nat) (l:List Tk) (s:Ps) (hl:l.length < 100000):Hn (n+3) l (s.1:Int) s.2.1 s.2.2=some (nxB (s.2.1==0&&isN l s.1) l s):=by
 rw[Hn,nxB,isN]
 cases h:s.2.1==0 with
 | false=>rw[show(s.2.1 != 0)=true by rw[bne,h];rfl];rfl
 | true =>
  rw[show(s.2.1 != 0)=false by rw[bne,h];rfl,Aw]
  by_cases hx:s.1 < l.length
  ·rw[B9 (by omega),Cp hx,Ao hx,Pz hx,A4,Rr,A4b s.1 (by omega),Cp hx,Bx s.1 (by omega),Dn]
   dsimp only
   cases l[s.1].At==1<;>cases E0 l[s.1].A7<;>rfl
  ·rw[Ah (by omega),List.getElem?_eq_none (by omega)];rfl
theorem Aa0 (n:Nat) (l:List Tk) (s:Ps) (hl:l.length < 100000):Dg (n+2) l (s.1:Int) s.2.1 s.2.2=some ((wr l s).2.1,(wr l s).2.2):=by
 rw[Dg,wr,El,Ba]
 by_cases hx:s.1 < l.length
 ·rw[Ah (by omega),Cp hx,A4,Ca,if_pos hx,Ao hx]
  cases s.2.1==0<;>rfl
 ·rw[B9 (by omega),if_neg hx,List.getElem?_eq_none (by omega)]
  by_cases h0:0 < l.length
  ·have h1:l.length - 1 < l.length:=by omega
   rw[Ah (by omega),Gw (by omega),show((l.length:Nat):Int) - 1=((l.length - 1:Nat):Int) by omega,Cp h1,A4,A4,Ca,Ao h1]
   cases s.2.1==0<;>rfl
  ·rw[B9 (by omega),Ca,List.getElem?_eq_none (by omega)]
   cases s.2.1==0<;>rfl
def mtB (b:Bool) (l:List Tk) (s:Ps):Ps:=bif b then(s.1+1,s.2) else wr l s
theorem A21 (n:Nat) (b:Bool) (l:List Tk) (s:Ps) (hl:l.length < 100000):((some (nxB b l s)).bind fun y1=>(bif y1.2.1 then(some (y1.1,y1.2.2,s.2.1,s.2.2)) else((Dg (n+2) l y1.2.2 s.2.1 s.2.2).bind fun y4=>(some (y1.1,y1.2.2,y4.1,y4.2)))))=some ((nxB b l s).1,((mtB b l s).1:Int),(mtB b l s).2.1,(mtB b l s).2.2):=by
 cases b with
 | true=>rfl
 | false =>
  rw[A4,nxB,mtB]
  dsimp only [cond_false]
  rw[Aa0 n l s hl,A4,A1w]
theorem Aca (n:Nat) (kd:Int) (w:List UInt8) (l:List Tk) (s:Ps) (hl:l.length < 100000):H6 (n+3) l (s.1:Int) s.2.1 s.2.2 kd w=some ((nxB (s.2.1==0&&isT kd w l s.1) l s).1,((mtB (s.2.1==0&&isT kd w l s.1) l s).1:Int),(mtB (s.2.1==0&&isT kd w l s.1) l s).2.1,(mtB (s.2.1==0&&isT kd w l s.1) l s).2.2):=by
 rw[H6,Oj n kd w l s hl];exact A21 n _ l s hl
theorem Ang (w:List UInt8) (l:List Tk) (s:Ps):mtB (s.2.1==0&&isT 3 w l s.1) l s=sgF w l s:=rfl
theorem Pu (n:Nat) (w:List UInt8) (l:List Tk) (s:Ps) (hl:l.length < 100000):Bs (n+5) w l (s.1:Int) s.2.1 s.2.2=some (((sgF w l s).1:Int),(sgF w l s).2.1,(sgF w l s).2.2):=by
 rw[Bs,Kr,Aca (n+1) 3 w l s hl,A4,Ang]
theorem Afr (n:Nat) (l:List Tk) (s:Ps) (hl:l.length < 100000):∃ t:Tk,Fz (n+3) l (s.1:Int) s.2.1 s.2.2=some (t,((nuF l s).2.1:Int),(nuF l s).2.2.1,(nuF l s).2.2.2)∧t.C2=(nuF l s).1:=by
 rw[Fz,Amy n l s hl]
 refine⟨(nxB (s.2.1==0&&isK l s.1) l s).1,(A21 n _ l s hl).trans ?_,?_⟩
 ·unfold mtB nuF;cases s.2.1==0&&isK l s.1<;>rfl
 ·unfold nxB nuF
  cases h:s.2.1==0&&isK l s.1 with
  | false=>rfl
  | true =>
   rw[A8] at h
   have:=Aft h.2
   show(Mz l s.1).C2=V1 l s.1
   rw[Pz this,Am8 this]
theorem A3w (n:Nat) (l:List Tk) (s:Ps) (hl:l.length < 100000):∃ t:Tk,Eg (n+4) l (s.1:Int) s.2.1 s.2.2=some (t,((nmF l s).2.1:Int),(nmF l s).2.2.1,(nmF l s).2.2.2)∧t.A7=(nmF l s).1:=by
 rw[Eg,Amv n l s hl]
 refine⟨(nxB (s.2.1==0&&isN l s.1) l s).1,(A21 (n+1) _ l s hl).trans ?_,?_⟩
 ·unfold mtB nmF;cases s.2.1==0&&isN l s.1<;>rfl
 ·unfold nxB nmF
  cases h:s.2.1==0&&isN l s.1 with
  | false=>rfl
  | true =>
   rw[A8] at h
   have:=Sb h.2
   show(Mz l s.1).A7=txt l s.1
   rw[Pz this,Am4 this]
def PsZ (s:Ps):Prop:=s.2.1=0→s.2.2=0
theorem Ad5 (l:List Tk) (s:Ps):PsZ (wr l s):=fun h=>absurd h (A8o l s)
theorem Vf {w:List UInt8} {l:List Tk} {s:Ps} (h:PsZ s):PsZ (sgF w l s):=by
 unfold sgF
 cases s.2.1==0&&Bl l s.1 w
 ·exact Ad5 l s
 ·exact h
theorem A78 {l:List Tk} {s:Ps} (h:PsZ s):PsZ (nmF l s).2:=by
 unfold nmF
 cases s.2.1==0&&isN l s.1
 ·exact Ad5 l s
 ·exact h
theorem Ajk {l:List Tk} {s:Ps} (h:PsZ s):PsZ (nuF l s).2:=by
 unfold nuF
 cases s.2.1==0&&isK l s.1
 ·exact Ad5 l s
 ·exact h
theorem Ti (w:List UInt8) (l:List Tk) (s:Ps):(s.2.1==0&&isT 1 w l s.1)=C6 w l s:=rfl
theorem Am6 (n:Nat) (a:Int) (l:List Tk) (s:Ps) (hl:l.length < 100000):In (n+6) a l (s.1:Int) s.2.1 s.2.2 =
 some ((⟨(nmF l s).1,(nuF l (sgF [61] l (nmF l s).2)).1,a⟩:Va),((sgF [59] l (nuF l (sgF [61] l (nmF l s).2)).2).1:Int),(sgF [59] l (nuF l (sgF [61] l (nmF l s).2)).2).2.1,(sgF [59] l (nuF l (sgF [61] l (nmF l s).2)).2).2.2):=by
 obtain⟨t1,h1,h2⟩:=A3w (n+1) l s hl
 obtain⟨t2,h3,h4⟩:=Afr (n+2) l (sgF [61] l (nmF l s).2) hl
 rw[In,h1,A4]
 dsimp only
 rw[Pu n [61] l _ hl,A4]
 dsimp only
 rw[h3,A4]
 dsimp only
 rw[Pu n [59] l _ hl,A4,h2,h4]
theorem A0s {w:List UInt8} {l:List Tk} {s:Ps} (h:Fh l s≤0):C6 w l s=false:=by
 unfold Fh at h
 cases hc:s.2.1==0 with
 | true=>rw[hc] at h;exact absurd h (by show ¬ l.length - s.1+1≤0;omega)
 | false=>unfold C6;rw[hc];rfl
theorem Amz {T:Nat} {l:List Tk} (hk:Toks T l) (n:Nat) (y:List Tk×Int×Int) (hy:y.1=l) (hn:20≤n):∀ (m k K:Nat) (s:Ps) (acc:List Va),Cd l s→Fh l s≤m→m < k→m < K→acc.length≤s.1 →
 Ih n y k (nxB (C6 [108,111,99] l s) l s).2.1 (nxB (C6 [108,111,99] l s) l s).2.2 s.2.1 s.2.2 (nxB (C6 [108,111,99] l s) l s).1.At (nxB (C6 [108,111,99] l s) l s).1.A7 (nxB (C6 [108,111,99] l s) l s).1.C2 (nxB (C6 [108,111,99] l s) l s).1.Al acc
  =some (.out (((Eu l K s acc).2.1:Int),(Eu l K s acc).2.2.1,(Eu l K s acc).2.2.2,0,[],0,0,(Eu l K s acc).1))∧(PsZ s→PsZ (Eu l K s acc).2):=by
 subst hy
 have hl:=hk.len
 intro m
 induction m with
 | zero =>
  intro k K s acc hs hm hk' hK ha
  obtain⟨k,rfl⟩:∃ j,k=j+1:=⟨k - 1,by omega⟩
  obtain⟨K,rfl⟩:∃ j,K=j+1:=⟨K - 1,by omega⟩
  rw[Eu,A0s hm];exact⟨rfl,id⟩
 | succ m ih =>
  intro k K s acc hs hm hk' hK ha
  obtain⟨k,rfl⟩:∃ j,k=j+1:=⟨k - 1,by omega⟩
  obtain⟨K,rfl⟩:∃ j,K=j+1:=⟨K - 1,by omega⟩
  obtain⟨n,rfl⟩:∃ j,n=j+6:=⟨n - 6,by omega⟩
  rw[Eu]
  cases hc:C6 [108,111,99] y.1 s with
  | false=>exact⟨rfl,id⟩
  | true =>
   obtain⟨h1,h2⟩:=Ix hc
   obtain⟨v1,v2⟩:=Ac9 (s:=s) h1
   have hp:=Am6 n (Mz y.1 s.1).Al y.1 (s.1+1,s.2) hl
   have hv:M4 y.1 s=(⟨(nmF y.1 (s.1+1,s.2)).1,(nuF y.1 (sgF [61] y.1 (nmF y.1 (s.1+1,s.2)).2)).1,(Mz y.1 s.1).Al⟩,sgF [59] y.1 (nuF y.1 (sgF [61] y.1 (nmF y.1 (s.1+1,s.2)).2)).2):=by unfold M4;rw[Acq h1,Pz h1]
   have:=ih k K (M4 y.1 s).2 (acc++[(M4 y.1 s).1]) v1 (by have:=Ts (t:=(M4 y.1 s).2) h2 hs (.inr v2) v1;omega) (by omega) (by omega) (by simp;omega)
   rw[Ac]
   refine⟨?_,fun hz=>this.2 (by rw[hv];exact Vf (Ajk (Vf (A78 hz))))⟩
   rw[Ih]
   dsimp only [nxB,cond_true] at hp ⊢
   rw[hp,A4,Ah (by unfold Cd at hs;omega),Kr]
   dsimp only
   rw[hv] at this ⊢
   have hnx:=Oj (n+4) 1 [108,111,99] y.1 (sgF [59] y.1 (nuF y.1 (sgF [61] y.1 (nmF y.1 (s.1+1,s.2)).2)).2) hl
   rw[hnx,A4,Ti]
   exact this.1
theorem Amm {l:List Tk} (hl:l.length < 100000) (n:Nat) (hn:20≤n):∀ (m k K:Nat) (s:Ps) (acc:List (List UInt8)),Cd l s→Fh l s≤m→m < k→m < K→acc.length≤s.1+1 →
 Df n l k (nxB (s.2.1==0&&isT 3 [44] l s.1) l s).2.1 (nxB (s.2.1==0&&isT 3 [44] l s.1) l s).2.2 s.2.1 s.2.2 acc=some (.out (((Dr l K s acc).2.1:Int),(Dr l K s acc).2.2.1,(Dr l K s acc).2.2.2,(Dr l K s acc).1))∧(PsZ s→PsZ (Dr l K s acc).2):=by
 intro m
 induction m with
 | zero =>
  intro k K s acc hs hm hk' hK ha
  obtain⟨k,rfl⟩:∃ j,k=j+1:=⟨k - 1,by omega⟩
  obtain⟨K,rfl⟩:∃ j,K=j+1:=⟨K - 1,by omega⟩
  have:(s.2.1==0)=false:=by
   unfold Fh at hm
   cases hc:s.2.1==0 with
   | true=>rw[hc] at hm;exact absurd hm (by show ¬ l.length - s.1+1≤0;omega)
   | false=>rfl
  rw[Dr,this];exact⟨rfl,id⟩
 | succ m ih =>
  intro k K s acc hs hm hk' hK ha
  obtain⟨k,rfl⟩:∃ j,k=j+1:=⟨k - 1,by omega⟩
  obtain⟨K,rfl⟩:∃ j,K=j+1:=⟨K - 1,by omega⟩
  obtain⟨n,rfl⟩:∃ j,n=j+6:=⟨n - 6,by omega⟩
  rw[Dr]
  cases hc:s.2.1==0 with
  | false=>exact⟨rfl,id⟩
  | true =>
   have hsg:isT 3 [44] l s.1=Bl l s.1 [44]:=rfl
   rw[hsg,Bool.true_and]
   cases hg:Bl l s.1 [44] with
   | false=>exact⟨rfl,id⟩
   | true =>
    rw[beq_iff_eq] at hc
    have h1:=A56 hg
    have a1:Cd l (nmF l (s.1+1,s.2)).2:=Ox h1
    have b1:=Pp (l:=l) (s:=(s.1+1,s.2))
    obtain⟨t,e1,e2⟩:=A3w (n+2) l (s.1+1,s.2) hl
    dsimp only at e1 b1
    have:=ih k K (nmF l (s.1+1,s.2)).2 (acc++[(nmF l (s.1+1,s.2)).1]) a1 (by have:=Ts (t:=(nmF l (s.1+1,s.2)).2) hc hs (.inr (by omega)) a1;omega) (by omega) (by omega) (by simp;omega)
    refine⟨?_,fun hz=>this.2 (A78 hz)⟩
    rw[Df,Ac]
    dsimp only [nxB,cond_true]
    rw[e1,A4,Ah (by unfold Cd at hs;omega),Kr]
    dsimp only
    have hnx:=Oj (n+4) 3 [44] l (nmF l (s.1+1,s.2)).2 hl
    rw[hnx,A4,e2]
    exact this.1
theorem Alj {l:List Tk} (hl:l.length < 100000) (n:Nat) (hn:20≤n) (k:Nat) (s:Ps) (h1:s.1 < l.length) (hk:l.length+2 < k) :
 Df n l k true ((s.1+1:Nat):Int) s.2.1 s.2.2 []=some (.out (((Dr l (l.length+2) (nmF l (s.1+1,s.2)).2 [(nmF l (s.1+1,s.2)).1]).2.1:Int),(Dr l (l.length+2) (nmF l (s.1+1,s.2)).2 [(nmF l (s.1+1,s.2)).1]).2.2.1,(Dr l (l.length+2) (nmF l (s.1+1,s.2)).2 [(nmF l (s.1+1,s.2)).1]).2.2.2,(Dr l (l.length+2) (nmF l (s.1+1,s.2)).2 [(nmF l (s.1+1,s.2)).1]).1))∧(PsZ s→PsZ (Dr l (l.length+2) (nmF l (s.1+1,s.2)).2 [(nmF l (s.1+1,s.2)).1]).2):=by
 obtain⟨k,rfl⟩:∃ j,k=j+1:=⟨k - 1,by omega⟩
 obtain⟨n,rfl⟩:∃ j,n=j+6:=⟨n - 6,by omega⟩
 have a1:Cd l (nmF l (s.1+1,s.2)).2:=Ox h1
 obtain⟨t,e1,e2⟩:=A3w (n+2) l (s.1+1,s.2) hl
 dsimp only at e1
 have:=Amm hl (n+6) (by omega) (l.length+1) k (l.length+2) (nmF l (s.1+1,s.2)).2 [(nmF l (s.1+1,s.2)).1] a1 Px (by omega) (by omega) (by simp)
 refine⟨?_,fun hz=>this.2 (A78 hz)⟩
 rw[Df,Ac,e1,A4,Ah (by simp),Kr]
 dsimp only
 have hnx:=Oj (n+4) 3 [44] l (nmF l (s.1+1,s.2)).2 hl
 rw[hnx,A4,e2]
 exact this.1
theorem A8i (n:Nat) (e' a':Int) (l:List Tk) (i:Int) (s:Int×Int) (hz:s.1=0→s.2=0) (hz':e'=0→a'=0):Ca (n+1) e' a' l i s.1 s.2=some ((faF s e' a').1,(faF s e' a').2):=by
 rw[Ca,faF]
 cases h:s.1==0 with
 | false=>rfl
 | true =>
  cases h2:e' != 0 with
  | true=>rfl
  | false =>
   rw[beq_iff_eq] at h
   have h3:e'=0:=by cases hb:e'==0 with
    | true=>exact beq_iff_eq.1 hb
    | false=>rw[bne,hb] at h2;cases h2
   rw[Ac,Ac,Aw,h3,hz' h3,hz h,h]
noncomputable def Kg (l:List Tk) (s:Ps):List St×Ps:=bif s.2.1==0 then((seQ l s.1).1,sgF [125] l (if(faF s.2 (seQ l s.1).2.2.1 (seQ l s.1).2.2.2).1=0 then(seQ l s.1).2.1.toNat else s.1,faF s.2 (seQ l s.1).2.2.1 (seQ l s.1).2.2.2)) else([],s)
theorem A15 {w:List UInt8} {l:List Tk} {s:Ps} (h:s.2.1≠0):sgF w l s=s:=by
 unfold sgF wr
 rw[Cw.2 h];rfl
theorem Akh (l:List Tk) (s:Ps):(Kg l s).1=(Iv l s).1∧(Kg l s).2.2=(Iv l s).2.2∧((Kg l s).2.2.1=0→(Kg l s).2=(Iv l s).2):=by
 unfold Kg Iv
 cases hc:s.2.1==0 with
 | false =>
  rw[beq_eq_false_iff_ne] at hc
  rw[Aw,Aw]
  exact⟨rfl,by rw[A15 hc],fun _=>by rw[A15 hc]⟩
 | true =>
  rw[Ac,Ac]
  refine⟨rfl,?_⟩
  by_cases c:(faF s.2 (seQ l s.1).2.2.1 (seQ l s.1).2.2.2).1=0
  ·rw[if_pos c];exact⟨rfl,fun _=>rfl⟩
  ·rw[if_neg c,A15 (s:=(s.1,faF s.2 (seQ l s.1).2.2.1 (seQ l s.1).2.2.2)) c,A15 (s:=((seQ l s.1).2.1.toNat,faF s.2 (seQ l s.1).2.2.1 (seQ l s.1).2.2.2)) c]
   exact⟨rfl,fun h=>absurd h c⟩
theorem Ajo {s:Int×Int} {e a:Int} (h:s.1=0→s.2=0) (h2:e=0→a=0):(faF s e a).1=0→(faF s e a).2=0:=by
 unfold faF
 cases s.1==0 with
 | false=>exact h
 | true =>
  cases e != 0 with
  | false=>exact h
  | true=>exact h2
theorem Ajp {T:Nat} {l:List Tk} (hk:Toks T l) {i:Nat} (hi:i≤l.length):(seQ l i).2.2.1=0→(seQ l i).2.2.2=0:=by
 rcases A1x hk hi with ⟨h,_⟩ | ⟨tu,h,_⟩
 ·exact fun e=>absurd e h
 ·rw[h];exact fun _=>rfl
theorem Ajn {T:Nat} {l:List Tk} (hk:Toks T l) {i:Nat} (hi:i≤l.length):(peQ l i).2.2.1=0→(peQ l i).2.2.2=0:=by
 rcases Xn hk hi with ⟨h,_⟩ | ⟨tu,h,_⟩
 ·exact fun e=>absurd e h
 ·rw[h];exact fun _=>rfl
theorem Anj {T:Nat} {l:List Tk} (hk:Toks T l) {n i:Nat} (hi:i≤l.length) (hn:18*l.length+T+960≤n):I9 n l (i:Int)=some (seQ l i):=by
 obtain⟨r,hr,e⟩:=A0j hk hi
 rw[e];exact A47 hk hr hi (by omega)
theorem An5 {T:Nat} {l:List Tk} (hk:Toks T l) {n i:Nat} (hi:i≤l.length) (hn:12*l.length+T+200≤n):I7 n l (i:Int)=some (peQ l i):=by
 obtain⟨r,hr,e⟩:=A0c hk hi
 rw[e];exact T3 hk.len hk.ok hk.txt hk.small hr hi hn
noncomputable def Jb (l:List Tk) (s:Ps):Th×Ps:=(⟨(nmF l (s.1+1,s.2)).1,(G3 l (sgF [123] l (nmF l (s.1+1,s.2)).2)).1,(Kg l (G3 l (sgF [123] l (nmF l (s.1+1,s.2)).2)).2).1,atA l s.1⟩,(Kg l (G3 l (sgF [123] l (nmF l (s.1+1,s.2)).2)).2).2)
theorem Ags (l:List Tk) (s:Ps):(Jb l s).1=(Jq l s).1∧(Jb l s).2.2=(Jq l s).2.2∧((Jb l s).2.2.1=0→(Jb l s).2=(Jq l s).2):=by
 obtain⟨h1,h2,h3⟩:=Akh l (G3 l (sgF [123] l (nmF l (s.1+1,s.2)).2)).2
 exact⟨by unfold Jb Jq;rw[h1],h2,h3⟩
theorem A9s {T:Nat} {l:List Tk} (hk:Toks T l) {s:Ps} (hs:Cd l s):Cd l (Kg l s).2∧(PsZ s→PsZ (Kg l s).2):=by
 unfold Kg
 cases hc:s.2.1==0 with
 | false=>exact⟨hs,id⟩
 | true =>
  rw[Ac]
  refine⟨Ln ?_,fun hz=>Vf (Ajo hz (Ajp hk hs))⟩
  unfold Cd
  dsimp only
  split
  ·exact(A7k hk hs).2.1
  ·exact hs
theorem Ajb {T:Nat} {l:List Tk} (hk:Toks T l) (n:Nat) (s:Ps) (hz:PsZ s) (h1:s.1 < l.length) (hn:18*l.length+T+1000≤n) :
 He n (Mz l s.1).Al l ((s.1+1:Nat):Int) s.2.1 s.2.2=some ((Jb l s).1,((Jb l s).2.1:Int),(Jb l s).2.2.1,(Jb l s).2.2.2)∧Cd l (Jb l s).2∧PsZ (Jb l s).2:=by
 have hl:=hk.len
 obtain⟨n,rfl⟩:∃ j,n=j+8:=⟨n - 8,by omega⟩
 have a1:Cd l (nmF l (s.1+1,s.2)).2:=Ox h1
 have a2:=Ln (w:=[123]) a1
 obtain⟨a3,_⟩:=A11 hk a2
 have z1:PsZ (sgF [123] l (nmF l (s.1+1,s.2)).2):=Vf (A78 hz)
 obtain⟨t,e1,e2⟩:=A3w (n+3) l (s.1+1,s.2) hl
 dsimp only at e1
 have tail:∀ (q:List (List UInt8)) (t:Ps),Cd l t→PsZ t→(bif t.2.1 != 0 then some ((⟨(nmF l (s.1+1,s.2)).1,q,([]:List A3),(Mz l s.1).Al⟩:Ad),(t.1:Int),t.2.1,t.2.2)
  else(I9 (n+7) l (t.1:Int)).bind fun y46=>(Ca (n+7) y46.2.2.1 y46.2.2.2 l (t.1:Int) t.2.1 t.2.2).bind fun y48=>bif y48.1==0 then(Bs (n+7) [125] l y46.2.1 y48.1 y48.2).bind fun y51=>some ((⟨(nmF l (s.1+1,s.2)).1,q,y46.1,(Mz l s.1).Al⟩:Ad),y51.1,y51.2.1,y51.2.2)
   else(Bs (n+7) [125] l (t.1:Int) y48.1 y48.2).bind fun y53=>some ((⟨(nmF l (s.1+1,s.2)).1,q,y46.1,(Mz l s.1).Al⟩:Ad),y53.1,y53.2.1,y53.2.2))=some ((⟨(nmF l (s.1+1,s.2)).1,q,(Kg l t).1,(Mz l s.1).Al⟩:Ad),((Kg l t).2.1:Int),(Kg l t).2.2.1,(Kg l t).2.2.2):=by
  intro q t ht hzt
  unfold Kg
  cases hc:t.2.1==0 with
  | false=>rw[show(t.2.1 != 0)=true by rw[bne,hc];rfl];rfl
  | true =>
   obtain⟨g1,g2,_⟩:=A7k hk ht
   rw[show(t.2.1 != 0)=false by rw[bne,hc];rfl,Aw,Anj hk ht (by omega),A4,A8i (n+6) _ _ l _ t.2 hzt (Ajp hk ht),A4]
   dsimp only
   by_cases c:(faF t.2 (seQ l t.1).2.2.1 (seQ l t.1).2.2.2).1=0
   ·have e3:=Pu (n+2) [125] l ((seQ l t.1).2.1.toNat,faF t.2 (seQ l t.1).2.2.1 (seQ l t.1).2.2.2) hl
    dsimp only at e3
    rw[g1] at e3
    rw[beq_iff_eq.2 c,Ac,e3,A4,if_pos c];rfl
   ·have e3:=Pu (n+2) [125] l (t.1,faF t.2 (seQ l t.1).2.2.1 (seQ l t.1).2.2.2) hl
    dsimp only at e3
    rw[Cw.2 c,Aw,e3,A4,if_neg c];rfl
 have hat:(Jb l s)=(⟨(nmF l (s.1+1,s.2)).1,(G3 l (sgF [123] l (nmF l (s.1+1,s.2)).2)).1,(Kg l (G3 l (sgF [123] l (nmF l (s.1+1,s.2)).2)).2).1,(Mz l s.1).Al⟩,(Kg l (G3 l (sgF [123] l (nmF l (s.1+1,s.2)).2)).2).2):=by unfold Jb;rw[Acq h1,Pz h1]
 have e4:=Pu (n+2) [123] l (nmF l (s.1+1,s.2)).2 hl
 rw[He,e1,A4]
 dsimp only
 rw[e4,A4,Kr]
 dsimp only
 rw[hat]
 generalize hS:sgF [123] l (nmF l (s.1+1,s.2)).2=S at *
 have e5:=Oj (n+5) 1 [114,101,103] l S hl
 rw[e5,A4,Ti]
 cases hc:C6 [114,101,103] l S with
 | false =>
  have hh:G3 l S=([],S):=by unfold G3;rw[hc];rfl
  rw[hh] at a3 ⊢
  obtain⟨b1,b2⟩:=A9s hk a3
  refine⟨?_,b1,b2 z1⟩
  rw[e2]
  exact tail [] S a3 z1
 | true =>
  obtain⟨q1,q2⟩:=Ix hc
  obtain⟨r1,r2⟩:=Alj hl (n+7) (by omega) (n+7) S q1 (by omega)
  have r2:=r2 z1
  have hh:G3 l S=((Dr l (l.length+2) (nmF l (S.1+1,S.2)).2 [(nmF l (S.1+1,S.2)).1]).1,sgF [59] l (Dr l (l.length+2) (nmF l (S.1+1,S.2)).2 [(nmF l (S.1+1,S.2)).1]).2):=by unfold G3;rw[hc];rfl
  rw[hh] at a3 ⊢
  obtain⟨b1,b2⟩:=A9s hk a3
  refine⟨?_,b1,b2 (Vf r2)⟩
  dsimp only [nxB,cond_true]
  rw[r1,A4]
  dsimp only
  have e6:=Pu (n+2) [59] l (Dr l (l.length+2) (nmF l (S.1+1,S.2)).2 [(nmF l (S.1+1,S.2)).1]).2 hl
  rw[e6,A4,e2]
  exact tail _ _ a3 (Vf r2)
noncomputable def Kb (l:List Tk):Nat→Ps→List Th→List Th×Ps
 | 0,s,acc=>(acc,s)
 | k+1,s,acc=>bif C6 [116,104,114,101,97,100] l s then Kb l k (Jb l s).2 (acc++[(Jb l s).1]) else(acc,s)
theorem A4c {w:List UInt8} {l:List Tk} {s:Ps} (h:s.2.1≠0):C6 w l s=false:=by unfold C6;rw[Cw.2 h];rfl
theorem Af5 {l:List Tk} {k:Nat} {s:Ps} {acc:List Th} (h:s.2.1≠0):Kb l k s acc=(acc,s):=by
 cases k with
 | zero=>rfl
 | succ k=>rw[Kb,A4c h];rfl
theorem Aeu {l:List Tk} {k:Nat} {s:Ps} {acc:List Th} (h:s.2.1≠0):G0 l k s acc=(acc,s):=by
 cases k with
 | zero=>rfl
 | succ k=>rw[G0,A4c h];rfl
theorem Akt (l:List Tk):∀ (k:Nat) (s:Ps) (acc:List Th),(Kb l k s acc).1=(G0 l k s acc).1∧(Kb l k s acc).2.2=(G0 l k s acc).2.2∧((Kb l k s acc).2.2.1=0→(Kb l k s acc).2=(G0 l k s acc).2):=by
 intro k
 induction k with
 | zero=>intro s acc;exact⟨rfl,rfl,fun _=>rfl⟩
 | succ k ih =>
  intro s acc
  rw[Kb,G0]
  cases hc:C6 [116,104,114,101,97,100] l s with
  | false=>exact⟨rfl,rfl,fun _=>rfl⟩
  | true =>
   rw[Ac,Ac]
   obtain⟨h1,h2,h3⟩:=Ags l s
   by_cases c:(Jb l s).2.2.1=0
   ·rw[h1,h3 c];exact ih _ _
   ·rw[Af5 c,Aeu (by rw[← h2];exact c),h1]
    exact⟨rfl,h2,fun h=>absurd h c⟩
theorem Aml {T:Nat} {l:List Tk} (hk:Toks T l) (n:Nat) (y:List Tk×Int×Int) (hy:y.1=l) (hn:18*l.length+T+1000≤n):∀ (m k K:Nat) (s:Ps) (acc:List Th),Cd l s→PsZ s→Fh l s≤m→m < k→m < K→acc.length+m≤l.length+5 →
 Ik n y k (nxB (C6 [116,104,114,101,97,100] l s) l s).2.1 (nxB (C6 [116,104,114,101,97,100] l s) l s).2.2 s.2.1 s.2.2 acc (nxB (C6 [116,104,114,101,97,100] l s) l s).1.At (nxB (C6 [116,104,114,101,97,100] l s) l s).1.A7 (nxB (C6 [116,104,114,101,97,100] l s) l s).1.C2 (nxB (C6 [116,104,114,101,97,100] l s) l s).1.Al
  =some (.out (((Kb l K s acc).2.1:Int),(Kb l K s acc).2.2.1,(Kb l K s acc).2.2.2,0,[],0,0,(Kb l K s acc).1))∧Cd l (Kb l K s acc).2∧PsZ (Kb l K s acc).2:=by
 subst hy
 have hl:=hk.len
 intro m
 induction m with
 | zero =>
  intro k K s acc hs hz hm hk' hK ha
  obtain⟨k,rfl⟩:∃ j,k=j+1:=⟨k - 1,by omega⟩
  obtain⟨K,rfl⟩:∃ j,K=j+1:=⟨K - 1,by omega⟩
  rw[Kb,A0s hm];exact⟨rfl,hs,hz⟩
 | succ m ih =>
  intro k K s acc hs hz hm hk' hK ha
  obtain⟨k,rfl⟩:∃ j,k=j+1:=⟨k - 1,by omega⟩
  obtain⟨K,rfl⟩:∃ j,K=j+1:=⟨K - 1,by omega⟩
  obtain⟨n,rfl⟩:∃ j,n=j+6:=⟨n - 6,by omega⟩
  rw[Kb]
  cases hc:C6 [116,104,114,101,97,100] y.1 s with
  | false=>exact⟨rfl,hs,hz⟩
  | true =>
   obtain⟨h1,h2⟩:=Ix hc
   obtain⟨t1,t2,t3⟩:=Ajb hk (n+6) s hz h1 (by omega)
   obtain⟨q2,q3⟩:=Acb hk h1
   obtain⟨_,p2,p3⟩:=Ags y.1 s
   have hprog:(Jb y.1 s).2.2.1≠0∨s.1 < (Jb y.1 s).2.1:=by
    by_cases c:(Jb y.1 s).2.2.1=0
    ·rw[p3 c];exact q3
    ·exact .inl c
   have:=ih k K (Jb y.1 s).2 (acc++[(Jb y.1 s).1]) t2 t3 (by have:=Ts (t:=(Jb y.1 s).2) h2 hs hprog t2;omega) (by omega) (by omega) (by simp;omega)
   rw[Ac]
   refine⟨?_,this.2⟩
   rw[Ik]
   dsimp only [nxB,cond_true]
   rw[t1,A4,Ah (by omega),Kr]
   dsimp only
   have hnx:=Oj (n+4) 1 [116,104,114,101,97,100] y.1 (Jb y.1 s).2 hl
   rw[hnx,A4,Ti]
   exact this.1
theorem Anq (n:Nat) (y:List Nd×Int×Int×Int):∀ (m i k:Nat) (x:List Nd),y.1.length=x.length→x.length - i≤m→m < k→i≤x.length→x.length < 1000000→D7 n y k (i:Int) x=some (.out (x.take i++(x.drop i).map Gt)):=by
 intro m
 induction m with
 | zero =>
  intro i k x hy hm hk hi hx
  obtain⟨k,rfl⟩:∃ j,k=j+1:=⟨k - 1,by omega⟩
  rw[D7,hy,B9 (by omega),List.drop_of_length_le (by omega),List.take_of_length_le (by omega)];simp
 | succ m ih =>
  intro i k x hy hm hk hi hx
  obtain⟨k,rfl⟩:∃ j,k=j+1:=⟨k - 1,by omega⟩
  by_cases c:i < x.length
  ·rw[D7,hy,Ah (by omega),Cp c,A4,A4,Bx i (by omega)]
   have key:∀ z:List Nd,z.length=x.length→z.take (i+1)=x.take i++[Gt x[i]]→z.drop (i+1)=x.drop (i+1)→z.take (i+1)++(z.drop (i+1)).map Gt=x.take i++(x.drop i).map Gt:=by
    intro z _ h1 h2
    rw[h1,h2,List.drop_eq_getElem_cons c,List.map_cons,List.append_assoc];rfl
   by_cases h2:x[i].Bm=2
   ·rw[h2,show((2:Int)==2)=true from rfl,Ac,ih (i+1) k _ (by rw[List.length_set];exact hy) (by rw[List.length_set];omega) (by omega) (by rw[List.length_set];omega) (by rw[List.length_set];omega)]
    rw[key _ (by rw[List.length_set]) ?_ ?_]
    ·rw[Int.toNat_natCast,List.take_set,List.take_add_one,Ao c,Option.toList_some,List.set_append_right _ _ (by rw[List.length_take];omega),List.length_take,show i - min i x.length=0 by omega,List.set_cons_zero]
     simp[Gt,h2]
    ·rw[Int.toNat_natCast,List.drop_set];rw[if_pos (by omega)]
   ·rw[Cw.2 h2,Aw,ih (i+1) k _ hy (by omega) (by omega) (by omega) hx]
    rw[key x rfl ?_ rfl]
    rw[List.take_add_one,Ao c]
    simp[Gt,h2]
  ·rw[D7,hy,B9 (by omega),List.drop_of_length_le (by omega),List.take_of_length_le (by omega)];simp
theorem Anb {T:Nat} {l:List Tk} (hk:Toks T l) {k:Int} {s:Ps} (h1:s.1 < l.length) (hz:PsZ s):PsZ (clF k l s).2:=by
 unfold clF
 exact Vf (Ajo hz (Ajn hk (show s.1+1≤l.length from h1)))
theorem Akm {T:Nat} {l:List Tk} (hk:Toks T l) (n:Nat) (k:Int) (s:Ps) (h1:s.1 < l.length) (hz:PsZ s) (hn:18*l.length+T+1000≤n) :
 Hx n k (Mz l s.1).Al l ((s.1+1:Nat):Int) s.2.1 s.2.2=some ((clF k l s).1,((clF k l s).2.1:Int),(clF k l s).2.2.1,(clF k l s).2.2.2):=by
 have hl:=hk.len
 obtain⟨n,rfl⟩:∃ j,n=j+6:=⟨n - 6,by omega⟩
 have hi:s.1+1≤l.length:=h1
 obtain⟨g1,g2,g3⟩:=Afb hk hi
 have hx:(peQ l (s.1+1)).1.length≤200:=by
  rcases Xn hk hi with ⟨_,h,_⟩ | ⟨_,_,_,_,_,h⟩
  ·rw[h];simp
  ·simp only[Ip,A8,Bf] at h;exact h.1.2
 have ea:(clF k l s).1=⟨k,(peQ l (s.1+1)).1.map Gt,(Mz l s.1).Al⟩:=by unfold clF;rw[Acq h1,Pz h1]
 rw[Hx,An5 hk hi (by omega),A4]
 have fin:∀ (E:List Nd),(bif (faF s.2 (peQ l (s.1+1)).2.2.1 (peQ l (s.1+1)).2.2.2).1==0 then(Bs (n+5) [59] l (peQ l (s.1+1)).2.1 (faF s.2 (peQ l (s.1+1)).2.2.1 (peQ l (s.1+1)).2.2.2).1 (faF s.2 (peQ l (s.1+1)).2.2.1 (peQ l (s.1+1)).2.2.2).2).bind fun y16=>some ((⟨k,E,(Mz l s.1).Al⟩:Af),y16.1,y16.2.1,y16.2.2)
  else(Bs (n+5) [59] l ((s.1+1:Nat):Int) (faF s.2 (peQ l (s.1+1)).2.2.1 (peQ l (s.1+1)).2.2.2).1 (faF s.2 (peQ l (s.1+1)).2.2.1 (peQ l (s.1+1)).2.2.2).2).bind fun y18=>some ((⟨k,E,(Mz l s.1).Al⟩:Af),y18.1,y18.2.1,y18.2.2))=some ((⟨k,E,(Mz l s.1).Al⟩:Af),((clF k l s).2.1:Int),(clF k l s).2.2.1,(clF k l s).2.2.2):=by
  intro E
  have e1:=Pu n [59] l (if(faF s.2 (peQ l (s.1+1)).2.2.1 (peQ l (s.1+1)).2.2.2).1=0 then(peQ l (s.1+1)).2.1.toNat else s.1+1,faF s.2 (peQ l (s.1+1)).2.2.1 (peQ l (s.1+1)).2.2.2) hl
  unfold clF
  dsimp only at e1 ⊢
  by_cases c:(faF s.2 (peQ l (s.1+1)).2.2.1 (peQ l (s.1+1)).2.2.2).1=0
  ·rw[if_pos c] at e1 ⊢
   rw[g1] at e1
   rw[beq_iff_eq.2 c,Ac,e1,A4]
  ·rw[if_neg c] at e1 ⊢
   rw[Cw.2 c,Aw,e1,A4]
 rw[ea]
 have pf:=A8i (n+4) (peQ l (s.1+1)).2.2.1 (peQ l (s.1+1)).2.2.2 l ((s.1+1:Nat):Int) s.2 hz (Ajn hk hi)
 by_cases hzz:(peQ l (s.1+1)).1.length=0
 ·have hz':(peQ l (s.1+1)).1=[]:=List.length_eq_zero_iff.1 hzz
  rw[Ah hzz,pf,A4,show Hj (n+5) (n+5)=some (.out ()) from rfl,A4,hz']
  exact fin []
 ·have hL:=Anq (n+5) (peQ l (s.1+1)) (peQ l (s.1+1)).1.length 0 (n+5) (peQ l (s.1+1)).1 rfl (by omega) (by omega) (by omega) (by omega)
  rw[show((0:Nat):Int)=0 from rfl,List.take_zero,List.drop_zero,List.nil_append] at hL
  rw[B9 hzz,pf,A4,hL,A4]
  exact fin _
def cw (j:Nat):List UInt8:=cwS.getD j []
theorem Akz (n:Nat) (j:Nat) (h:1≤j∧j≤3):Mq (n+1) (j:Int)=some (cw j):=by
 have:j=1∨j=2∨j=3:=by omega
 rcases this with rfl | rfl | rfl<;>rfl
theorem Ahs {l:List Tk} {i:Nat} {w w':List UInt8} (h:Yk l i w=true) (hw:w≠w'):Yk l i w'=false:=by
 unfold Yk at h ⊢
 cases hx:l[i]? with
 | none=>rfl
 | some t =>
  rw[hx] at h
  simp only[A8,beq_iff_eq] at h
  dsimp only
  rw[h.2,Cw.2 hw,Bool.and_false]
theorem A50 {l:List Tk} {s:Ps} {w w':List UInt8} (h:C6 w l s=true) (hw:w≠w'):C6 w' l s=false:=by
 unfold C6 at h ⊢
 rw[A8] at h
 rw[Ahs h.2 hw,Bool.and_false]
theorem Ahz {l:List Tk} {s:Ps} {j:Nat} (hj:1≤j∧j≤3) (h:C6 (cw j) l s=true):Gs l s=(j:Int):=by
 have:j=1∨j=2∨j=3:=by omega
 unfold Gs
 rcases this with rfl | rfl | rfl
 ·rw[show C6 [102,111,114,97,108,108] l s=true from h];rfl
 ·have h:C6 [101,120,105,115,116,115] l s=true:=h
  rw[A50 h (w':=[102,111,114,97,108,108]) (by decide),h];rfl
 ·have h:C6 [97,108,119,97,121,115] l s=true:=h
  rw[A50 h (w':=[102,111,114,97,108,108]) (by decide),A50 h (w':=[101,120,105,115,116,115]) (by decide),h];rfl
theorem Vn {l:List Tk} {s:Ps} (h:∀ j,1≤j∧j≤3→C6 (cw j) l s=false):Gs l s=0:=by
 unfold Gs
 rw[show C6 [102,111,114,97,108,108] l s=false from h 1 (by omega),show C6 [101,120,105,115,116,115] l s=false from h 2 (by omega),show C6 [97,108,119,97,121,115] l s=false from h 3 (by omega)];rfl
theorem A9j {l:List Tk} {s:Ps} (h:s.2.1≠0):Gs l s=0:=Vn fun j _=>A4c h
theorem Adc {T:Nat} {l:List Tk} (hk:Toks T l) {k:Int} {s:Ps} (hs:Cd l s) (h1:s.1 < l.length) (h0:s.2.1=0):Cd l (clF k l s).2∧Fh l (clF k l s).2 < Fh l s:=by
 obtain⟨q2,q3⟩:=Af7 hk k h1 h0
 exact⟨q2,Ts h0 hs q3 q2⟩
theorem Ahm {T:Nat} {l:List Tk} (hk:Toks T l):∀ (m K K':Nat) (s:Ps) (acc:List Cl),Cd l s→Fh l s≤m→m < K→m < K'→Hz l K s acc=Hz l K' s acc:=by
 intro m
 induction m with
 | zero =>
  intro K K' s acc hs hm hK hK'
  obtain⟨K,rfl⟩:∃ j,K=j+1:=⟨K - 1,by omega⟩
  obtain⟨K',rfl⟩:∃ j,K'=j+1:=⟨K' - 1,by omega⟩
  rw[Hz,Hz,Vn fun j _=>A0s hm];rfl
 | succ m ih =>
  intro K K' s acc hs hm hK hK'
  obtain⟨K,rfl⟩:∃ j,K=j+1:=⟨K - 1,by omega⟩
  obtain⟨K',rfl⟩:∃ j,K'=j+1:=⟨K' - 1,by omega⟩
  rw[Hz,Hz]
  by_cases c:0 < Gs l s
  ·obtain⟨h1,h0,_⟩:=A0y c
   obtain⟨g1,g2⟩:=Adc hk (k:=Gs l s) hs h1 h0
   rw[Ah c,Ah c]
   exact ih K K' _ _ g1 (by omega) (by omega) (by omega)
  ·rw[B9 c,B9 c]
noncomputable def Qx (l:List Tk) (s:Ps) (acc:List Cl):List Cl×Ps:=Hz l (l.length+2) s acc
theorem Ah7 {T:Nat} {l:List Tk} (hk:Toks T l) {s:Ps} {acc:List Cl} {j:Nat} (hj:1≤j∧j≤3) (hs:Cd l s) (h:C6 (cw j) l s=true):Qx l s acc=Qx l (clF (j:Int) l s).2 (acc++[(clF (j:Int) l s).1]):=by
 obtain⟨h1,h0⟩:=Ix h
 obtain⟨g1,g2⟩:=Adc hk (k:=(j:Int)) hs h1 h0
 have hb:Fh l s≤l.length+1:=Px
 unfold Qx
 rw[show l.length+2=(l.length+1)+1 from rfl,Hz,Ahz hj h,Ah (by omega)]
 exact Ahm hk (l.length) _ _ _ _ g1 (by omega) (by omega) (by omega)
theorem Y0 {l:List Tk} {s:Ps} {acc:List Cl} (h:Gs l s=0):Qx l s acc=(acc,s):=by
 unfold Qx
 rw[Hz,h];rfl
noncomputable def F8 (l:List Tk) (j:Nat) (r:Bool×Ps×List Cl):Bool×Ps×List Cl:=bif C6 (cw j) l r.2.1 then(true,(clF (j:Int) l r.2.1).2,r.2.2++[(clF (j:Int) l r.2.1).1]) else r
structure Ad7 (l:List Tk) (s0:Ps) (a0:List Cl) (r:Bool×Ps×List Cl):Prop where
 ok:Cd l r.2.1
 z:PsZ r.2.1
 same:Qx l r.2.1 r.2.2=Qx l s0 a0
 off:r.1=false→r.2.1=s0∧r.2.2=a0
 on:r.1=true→Fh l r.2.1 < Fh l s0
 le:Fh l r.2.1≤Fh l s0
 cnt:r.2.2.length+Fh l r.2.1≤a0.length+Fh l s0
theorem Zt {T:Nat} {l:List Tk} (hk:Toks T l) {s0:Ps} {a0:List Cl} {r:Bool×Ps×List Cl} {j:Nat} (hj:1≤j∧j≤3) (h:Ad7 l s0 a0 r):Ad7 l s0 a0 (F8 l j r):=by
 unfold F8
 cases hc:C6 (cw j) l r.2.1 with
 | false=>exact h
 | true =>
  obtain⟨h1,h0⟩:=Ix hc
  obtain⟨g1,g2⟩:=Adc hk (k:=(j:Int)) h.ok h1 h0
  have hle:=h.le
  refine⟨g1,Anb hk (k:=(j:Int)) h1 h.z,?_,fun e=>(by cases e),fun _=>?_,?_,?_⟩
  ·dsimp only [cond_true];rw[← Ah7 hk hj h.ok hc];exact h.same
  ·show Fh l (clF (j:Int) l r.2.1).2 < _;omega
  ·show Fh l (clF (j:Int) l r.2.1).2≤_;omega
  ·show(r.2.2++[(clF (j:Int) l r.2.1).1]).length+Fh l (clF (j:Int) l r.2.1).2≤_
   have:=h.cnt
   rw[List.length_append,List.length_singleton];omega
theorem To {T:Nat} {l:List Tk} (hk:Toks T l) (n:Nat) (y:List Tk×Int×Int) (hy:y.1=l) (hn:18*l.length+T+1000≤n) (k:Nat) (j:Nat) (hj:1≤j∧j≤3) (r:Bool×Ps×List Cl) (hs:Cd l r.2.1) (hz:PsZ r.2.1) (ha:r.2.2.length≤l.length+5) :
 Ds n y (k+1) r.1 (j:Int) (r.2.1.1:Int) r.2.1.2.1 r.2.1.2.2 r.2.2=Ds n y k (F8 l j r).1 ((j+1:Nat):Int) ((F8 l j r).2.1.1:Int) (F8 l j r).2.1.2.1 (F8 l j r).2.1.2.2 (F8 l j r).2.2:=by
 subst hy
 have hl:=hk.len
 obtain⟨n,rfl⟩:∃ q,n=q+6:=⟨n - 6,by omega⟩
 have hnx:=Oj (n+4) 1 (cw j) y.1 r.2.1 hl
 rw[Ds,Ah (by omega),Akz (n+5) j hj,A4,Kr,hnx,A4,Ti,Bx j (by omega),F8]
 cases hc:C6 (cw j) y.1 r.2.1 with
 | false=>rfl
 | true =>
  obtain⟨h1,h0⟩:=Ix hc
  dsimp only [nxB,cond_true]
  rw[Akm hk (n+6) (j:Int) r.2.1 h1 hz (by omega),A4,Ah (by omega)]
theorem Ahv {T:Nat} {l:List Tk} (hk:Toks T l) (n:Nat) (y:List Tk×Int×Int) (hy:y.1=l) (hn:18*l.length+T+1000≤n):∀ (m k:Nat) (s:Ps) (acc:List Cl),Cd l s→PsZ s→Fh l s≤m→m+1 < k→acc.length+Fh l s≤l.length+2 →
 Ht n y k true (s.1:Int) s.2.1 s.2.2 acc=some (.out (((Qx l s acc).2.1:Int),(Qx l s acc).2.2.1,(Qx l s acc).2.2.2,(Qx l s acc).1))∧Cd l (Qx l s acc).2∧PsZ (Qx l s acc).2:=by
 have hl:=hk.len
 intro m
 induction m with
 | zero=>
   intro k s acc hs hz hm hk' ha
   obtain⟨k,rfl⟩:∃ j,k=j+2:=⟨k - 2,by omega⟩
   obtain⟨n,rfl⟩:∃ q,n=q+6:=⟨n - 6,by omega⟩
   have c0:Ad7 l s acc (false,s,acc):=⟨hs,hz,rfl,fun _=>⟨rfl,rfl⟩,fun e=>(by cases e),Nat.le_refl _,Nat.le_refl _⟩
   have kn:∀ w,C6 w l s=false:=fun w=>A0s hm
   have w1:=To hk (n+6) y hy hn (n+5) 1 (by omega) (false,s,acc) hs hz (by dsimp only;omega)
   have e1:F8 l 1 (false,s,acc)=(false,s,acc):=by unfold F8;rw[kn];rfl
   have w2:=To hk (n+6) y hy hn (n+4) 2 (by omega) (false,s,acc) hs hz (by dsimp only;omega)
   have e2:F8 l 2 (false,s,acc)=(false,s,acc):=by unfold F8;rw[kn];rfl
   have w3:=To hk (n+6) y hy hn (n+3) 3 (by omega) (false,s,acc) hs hz (by dsimp only;omega)
   have e3:F8 l 3 (false,s,acc)=(false,s,acc):=by unfold F8;rw[kn];rfl
   rw[e1] at w1;rw[e2] at w2;rw[e3] at w3
   have w:Ds (n+6) y (n+6) false 1 (s.1:Int) s.2.1 s.2.2 acc=some (.out (false,(s.1:Int),s.2.1,s.2.2,acc)):=by
    refine w1.trans (w2.trans (w3.trans ?_))
    rw[Ds,B9 (by omega)]
   rw[Ht,Ac,w,A4,Y0 (Vn fun j _=>kn _)]
   exact⟨rfl,hs,hz⟩
 | succ m ih =>
  intro k s acc hs hz hm hk' ha
  obtain⟨k,rfl⟩:∃ j,k=j+2:=⟨k - 2,by omega⟩
  have c0:Ad7 l s acc (false,s,acc):=⟨hs,hz,rfl,fun _=>⟨rfl,rfl⟩,fun e=>(by cases e),Nat.le_refl _,Nat.le_refl _⟩
  have c1:=Zt hk (j:=1) (by omega) c0
  have c2:=Zt hk (j:=2) (by omega) c1
  have c3:=Zt hk (j:=3) (by omega) c2
  obtain⟨n,rfl⟩:∃ q,n=q+6:=⟨n - 6,by omega⟩
  have w1:=To hk (n+6) y hy hn (n+5) 1 (by omega) (false,s,acc) hs hz (by dsimp only;omega)
  have w2:=To hk (n+6) y hy hn (n+4) 2 (by omega) _ c1.ok c1.z (by have:=c1.cnt;omega)
  have w3:=To hk (n+6) y hy hn (n+3) 3 (by omega) _ c2.ok c2.z (by have:=c2.cnt;omega)
  generalize hR:F8 l 3 (F8 l 2 (F8 l 1 (false,s,acc)))=R at *
  have w:Ds (n+6) y (n+6) false 1 (s.1:Int) s.2.1 s.2.2 acc=some (.out (R.1,(R.2.1.1:Int),R.2.1.2.1,R.2.1.2.2,R.2.2)):=by
   refine w1.trans (w2.trans (w3.trans ?_))
   rw[Ds,B9 (by omega)]
  rw[Ht,Ac,w,A4]
  dsimp only
  cases hf:R.1 with
  | true =>
   have h1:=c3.on hf
   have:=ih (k+1) R.2.1 R.2.2 c3.ok c3.z (by omega) (by omega) (by have:=c3.cnt;omega)
   rw[c3.same] at this
   exact this
  | false =>
   obtain⟨h1,h2⟩:=c3.off hf
   have hno:∀ j,1≤j∧j≤3→C6 (cw j) l s=false:=by
    have d1:(F8 l 2 (F8 l 1 (false,s,acc))).1=false∧C6 (cw 3) l (F8 l 2 (F8 l 1 (false,s,acc))).2.1=false:=by
     rw[← hR] at hf
     generalize F8 l 2 (F8 l 1 (false,s,acc))=q at hf ⊢
     unfold F8 at hf
     cases hc:C6 (cw 3) l q.2.1 with
     | true=>rw[hc] at hf;cases hf
     | false=>rw[hc] at hf;exact⟨hf,rfl⟩
    have d2:(F8 l 1 (false,s,acc)).1=false∧C6 (cw 2) l (F8 l 1 (false,s,acc)).2.1=false:=by
     have hf:=d1.1
     generalize F8 l 1 (false,s,acc)=q at hf ⊢
     unfold F8 at hf
     cases hc:C6 (cw 2) l q.2.1 with
     | true=>rw[hc] at hf;cases hf
     | false=>rw[hc] at hf;exact⟨hf,rfl⟩
    have d3:C6 (cw 1) l s=false:=by
     have hf:=d2.1
     unfold F8 at hf
     cases hc:C6 (cw 1) l s with
     | true=>rw[show C6 (cw 1) l (false,s,acc).2.1=true from hc] at hf;cases hf
     | false=>rfl
    have k2:=d2.2
    rw[(c1.off d2.1).1] at k2
    have k3:=d1.2
    rw[(c2.off d1.1).1] at k3
    intro j hj
    have:j=1∨j=2∨j=3:=by omega
    rcases this with rfl | rfl | rfl
    ·exact d3
    ·exact k2
    ·exact k3
   rw[h1,h2,Y0 (Vn hno)]
   exact⟨rfl,hs,hz⟩
theorem Abt {s:List UInt8} (hs:s.length≤20000) {n:Nat} (hn:20*s.length+1200≤n):Fn n s=some (Im s):=by
 obtain⟨n,rfl⟩:∃ j,n=j+6:=⟨n - 6,by omega⟩
 have hk:=A0r s (by omega)
 have hlen:=(Xz s).2
 have hl:=hk.len
 rw[Fn,Aka (n+5) s (by omega),A4,Im]
 cases herr:(Hw s).err != 0 with
 | true =>
  rw[show((Wi (Hw s)).2.1 != 0)=true from herr,Ac,Ac];rfl
 | false =>
  rw[show((Wi (Hw s)).2.1 != 0)=false from herr,Aw,Aw]
  have hy:(Wi (Hw s)).1=R1 s:=rfl
  generalize hY:Wi (Hw s)=y at *
  rw[hy]
  generalize R1 s=l at *
  have hfin:∀ (m:Int) (v:List Va) (t:List Th) (c:List Cl) (z:Ps),Cd l z→(bif decide ((z.1:Int) < ((l.length:Nat):Int)) then(Dg (n+5) l (z.1:Int) z.2.1 z.2.2).bind fun y93=>bif y93.1 != 0 then some ((⟨0,[],[],[]⟩:B7),y93.1,y93.2) else some ((⟨m,v,t,c⟩:B7),0,0) else bif z.2.1 != 0 then some ((⟨0,[],[],[]⟩:B7),z.2.1,z.2.2) else some ((⟨m,v,t,c⟩:B7),0,0))=some (bif (M5 l z).2.1 != 0 then(noP,(M5 l z).2) else(⟨m,v,t,c⟩,0,0)):=by
   intro m v t c z hz
   unfold M5
   by_cases h:z.1 < l.length
   ·rw[Ah (show(z.1:Int) < ((l.length:Nat):Int) by omega),decide_eq_true h,Ac,Aa0 (n+3) l z hl,A4]
    cases (wr l z).2.1 != 0<;>rfl
   ·rw[B9 (show ¬ (z.1:Int) < ((l.length:Nat):Int) by omega),decide_eq_false h,Aw]
    cases z.2.1 != 0<;>rfl
  have m1:=Aca (n+2) 1 [109,111,100] l ((0,0,0):Ps) hl
  rw[show(((0:Nat),(0:Int),(0:Int)).1:Int)=0 from rfl] at m1
  dsimp only at m1
  rw[Kr,m1,A4]
  dsimp only
  have hm0:mtB ((0:Int)==0&&isT 1 [109,111,100] l 0) l (0,0,0)=bif C6 [109,111,100] l (0,0,0) then(1,0,0) else wr l (0,0,0):=rfl
  have p1:Cd l (bif C6 [109,111,100] l (0,0,0) then((1,0,0):Ps) else wr l (0,0,0)):=by
   cases hc:C6 [109,111,100] l (0,0,0) with
   | true=>exact(Ix hc).1
   | false=>show(wr l (0,0,0)).1≤l.length;rw[A1w];exact Nat.zero_le _
  have z1:PsZ (bif C6 [109,111,100] l (0,0,0) then((1,0,0):Ps) else wr l (0,0,0)):=by
   cases hc:C6 [109,111,100] l (0,0,0) with
   | true=>exact fun _=>rfl
   | false=>exact Ad5 l (0,0,0)
  rw[hm0]
  have hst:Gl l=((nuF l (bif C6 [109,111,100] l (0,0,0) then((1,0,0):Ps) else wr l (0,0,0))).1,sgF [59] l (nuF l (bif C6 [109,111,100] l (0,0,0) then((1,0,0):Ps) else wr l (0,0,0))).2):=rfl
  unfold Na
  rw[hst]
  generalize (bif C6 [109,111,100] l (0,0,0) then((1,0,0):Ps) else wr l (0,0,0))=S0 at *
  obtain⟨tk,e1,e2⟩:=Afr (n+2) l S0 hl
  rw[e1,A4]
  dsimp only
  have p2:=Aa9 p1
  have p3:=Ln (w:=[59]) p2
  have z3:PsZ (sgF [59] l (nuF l S0).2):=Vf (Ajk z1)
  have e3:=Pu n [59] l (nuF l S0).2 hl
  rw[e3,A4,Kr]
  dsimp only
  rw[e2]
  generalize (nuF l S0).1=md at *
  generalize hS1:sgF [59] l (nuF l S0).2=S1 at *
  have e4:=Oj (n+3) 1 [108,111,99] l S1 hl
  rw[e4,A4,Ti]
  obtain⟨v1,v2⟩:=Amz hk (n+5) y hy (by omega) (l.length+1) (n+5) (l.length+2) S1 [] p3 Px (by omega) (by omega) (by simp)
  obtain⟨p4,_⟩:=A4e (l.length+2) S1 [] p3 (Nat.zero_le _)
  have z4:=v2 z3
  rw[v1,A4]
  dsimp only
  rw[Kr]
  generalize hV:Eu l (l.length+2) S1 []=V at *
  have e5:=Oj (n+3) 1 [116,104,114,101,97,100] l V.2 hl
  rw[e5,A4,Ti]
  obtain⟨t1,p5,z5⟩:=Aml hk (n+5) y hy (by omega) (l.length+1) (n+5) (l.length+2) V.2 [] p4 z4 Px (by omega) (by omega) (by simp)
  rw[t1,A4]
  dsimp only
  obtain⟨q1,q2,q3⟩:=Akt l (l.length+2) V.2 []
  generalize hW:Kb l (l.length+2) V.2 []=W at *
  generalize hF:G0 l (l.length+2) V.2 []=F at *
  obtain⟨c1,p6,z6⟩:=Ahv hk (n+5) y hy (by omega) (l.length+1) (n+5) W.2 [] p5 z5 Px (by omega) (by have:=Px (l:=l) (s:=W.2);simp;omega)
  rw[c1,A4]
  dsimp only
  rw[hfin _ _ _ _ _ p6]
  have hA:Hz l (l.length+2) F.2 []=Qx l F.2 []:=rfl
  rw[hA,← q1]
  by_cases c:W.2.2.1=0
  ·rw[q3 c]
  ·rw[Y0 (A9j c),Y0 (A9j (by rw[← q2];exact c))]
   dsimp only
   have l1:(M5 l W.2).2=W.2.2:=by
    unfold M5 wr
    cases decide (W.2.1 < l.length)<;>rw[Cw.2 c]<;>rfl
   have l2:(M5 l F.2).2=W.2.2:=by
    unfold M5 wr
    rw[q2] at c ⊢
    cases decide (F.2.1 < l.length)<;>rw[Cw.2 c]<;>rfl
   rw[l1,l2,bne_iff_ne.2 c]
abbrev Mi:=List (List UInt8×Int)
abbrev Mm:=List (List UInt8×Mi)
theorem A06 {ν:Type}:∀ (m:List (List UInt8×ν)) (x s:List UInt8) (v z:ν),B6 (Ok m x v) s z=if s=x then v else B6 m s z
 | [],x,s,v,z=>by simp only[Ok,B6]
 | p :: m,x,s,v,z=>by
  rw[Ok]
  by_cases h:x=p.1
  ·subst h
   rw[if_pos rfl,B6,B6]
   by_cases h2:s=p.1
   ·rw[if_pos h2,if_pos h2]
   ·rw[if_neg h2,if_neg h2,if_neg h2]
  ·rw[if_neg h,B6,B6,A06 m x s v z]
   by_cases h2:s=p.1
   ·rw[if_pos h2,if_pos h2,if_neg (by rw[h2];exact fun e=>h e.symm)]
   ·rw[if_neg h2,if_neg h2]
theorem A5i {ν:Type}:∀ (m:List (List UInt8×ν)) (x s:List UInt8) (v:ν),Us (Ok m x v) s=(decide (s=x) || Us m s)
 | [],x,s,v=>by simp only[Ok,Us];by_cases h:s=x<;>simp[h]
 | p :: m,x,s,v=>by
  rw[Ok]
  by_cases h:x=p.1
  ·subst h
   rw[if_pos rfl,Us,Us]
   by_cases h2:s=p.1<;>simp[h2]
  ·rw[if_neg h,Us,Us,A5i m x s v]
   by_cases h2:s=p.1
   ·simp[h2]
   ·simp[h2]
def Cnt (m:Mi) (l:List (List UInt8)) (b:Nat):Prop:=∀ s,0≤B6 m s 0∧B6 m s 0≤(b:Int)∧(0 < B6 m s 0↔s ∈ l)
theorem Cnt.nil:Cnt [] [] 0:=fun s=>⟨Int.le_refl _,Int.le_refl _,by simp[B6]⟩
theorem Cnt.step {m:Mi} {l:List (List UInt8)} {b:Nat} (h:Cnt m l b) (hb:b < 1000000) (x:List UInt8):Cnt (Ok m x (IntKind.i64.wrap (B6 m x 0+1))) (l++[x]) (b+1):=by
 intro s
 obtain⟨h1,h2,h3⟩:=h s
 obtain⟨k1,k2,k3⟩:=h x
 rw[A06,Gw (by omega)]
 by_cases e:s=x
 ·subst e;rw[if_pos rfl];exact⟨by omega,by omega,by constructor;·simp
                                                    ·intro _;omega⟩
 ·rw[if_neg e];refine⟨h1,by omega,?_⟩
  rw[h3];simp[e]
theorem Cnt.has {m:Mi} {l:List (List UInt8)} {b:Nat} (h:Cnt m l b) (s:List UInt8):decide (0 < B6 m s 0)=l.contains s:=by
 rw[Bool.eq_iff_iff,Bf,List.contains_iff_mem];exact(h s).2.2
theorem Cnt.no {m:Mi} {l:List (List UInt8)} {b:Nat} (h:Cnt m l b) (s:List UInt8):(B6 m s 0==0)=!l.contains s:=by
 rw[← h.has s,Bool.eq_iff_iff,beq_iff_eq,Bool.not_eq_true',decide_eq_false_iff_not]
 have:=(h s).1;omega
def nmT (l:List Th):List (List UInt8):=l.map Ad.An
def TM (m:Mm) (l:List Th):Prop:=∀ s,Us m s=(nmT l).contains s∧match l.find? (fun t=>t.An==s) with
 | some t=>∃ b,Cnt (B6 m s []) t.Bv b
 | none=>B6 m s []=[]
theorem TM.nil:TM [] []:=fun s=>⟨rfl,rfl⟩
theorem A5x {l:List Th} {s:List UInt8}:l.find? (fun t=>t.An==s)=none↔(nmT l).contains s=false:=by
 rw[List.find?_eq_none,← Bool.not_eq_true,List.contains_iff_mem,nmT,List.mem_map]
 constructor
 ·rintro h ⟨t,ht,e⟩;exact h t ht (by rw[e];simp)
 ·rintro h t ht e;exact h ⟨t,ht,by simpa using e⟩
theorem TM.step {m:Mm} {l:List Th} (h:TM m l) (t:Th) {r:Mi} {b:Nat} (hr:Cnt r t.Bv b):TM (if Us m t.An then m else Ok m t.An r) (l++[t]):=by
 intro s
 obtain⟨h1,h2⟩:=h s
 have hc:(nmT (l++[t])).contains s=((nmT l).contains s || decide (s=t.An)):=by
  rw[Bool.eq_iff_iff,List.contains_iff_mem,Bool.or_eq_true,List.contains_iff_mem,Bf];simp[nmT]
 rw[List.find?_append]
 by_cases c:Us m t.An=true
 ·rw[if_pos c]
  refine⟨?_,?_⟩
  ·rw[hc,h1];by_cases e:s=t.An
   ·subst e;rw[← h1,c];rfl
   ·simp[e]
  ·cases hf:l.find? (fun t=>t.An==s) with
   | some u=>rw[hf] at h2;exact h2
   | none =>
    rw[hf] at h2
    have e:(t.An==s)=false:=by
     rw[beq_eq_false_iff_ne];intro e
     have:=A5x.1 hf
     rw[← h1,← e,c] at this;cases this
    simp only[List.find?_cons,e,List.find?_nil,Option.none_or]
    exact h2
 ·rw[if_neg c]
  refine⟨?_,?_⟩
  ·rw[hc,A5i,h1,Bool.or_comm]
  ·rw[A06]
   by_cases e:s=t.An
   ·subst e
    have hf:l.find? (fun u=>u.An==t.An)=none:=A5x.2 (by rw[← h1];simpa using c)
    rw[hf,if_pos rfl]
    simp only[List.find?_cons,beq_self_eq_true,Option.none_or]
    exact⟨b,hr⟩
   ·rw[if_neg e]
    cases hf:l.find? (fun t=>t.An==s) with
    | some u=>rw[hf] at h2;exact h2
    | none =>
     rw[hf] at h2
     simp only[List.find?_cons,Cw.2 (Ne.symm e),List.find?_nil,Option.none_or]
     exact h2
def zN (x:Nd):Nd:=⟨x.Bm,x.C2,x.An,x.Dd,0⟩
def zS (x:St):St:=⟨x.At,x.H7,x.H8,x.Et.map zN,x.O6.map zN,x.N3,x.Be,x.Cv,0⟩
def zV (v:Va):Va:=⟨v.An,v.C2,0⟩
def zT (t:Th):Th:=⟨t.An,t.Bv,t.Be.map zS,0⟩
def zC (c:Cl):Cl:=⟨c.At,c.Et.map zN,0⟩
def zP (p:Pg):Pg:=⟨p.Bz,p.B8.map zV,p.Ak.map zT,p.Ar.map zC⟩
theorem A3r:∀ (l:List Nd) (s:Int×List Int),Es (l.map zN) s=Es l s
 | [],s=>rfl
 | x :: l,(m,R)=>by rw[List.map_cons,Es,Es,A3r l,A3r l];rfl
theorem Aiv (l:List Nd):(l.map zN).filter L9=(l.filter L9).map zN:=by rw[List.filter_map];rfl
theorem Aes (l:List Nd):N2 (l.map zN)=N2 l:=by
 unfold N2;rw[Aiv,List.all_map];rfl
def zNb (pl:Bool) (x:Nd):Nd:=bif pl then x else zN x
def zSb (pl:Bool) (x:St):St:=bif pl then x else zS x
def zVb (pl:Bool) (x:Va):Va:=bif pl then x else zV x
def zTb (pl:Bool) (x:Th):Th:=bif pl then x else zT x
def zCb (pl:Bool) (x:Cl):Cl:=bif pl then x else zC x
theorem Ms {α β:Type} {f:α→β} {a b:List α} (h:a.map f=b.map f):a.length=b.length:=by have:=congrArg List.length h;simpa using this
theorem A0e {α β:Type} {f:α→β} {a b:List α} (h:a.map f=b.map f) {i:Nat} (hi:i < a.length) (hj:i < b.length):f a[i]=f b[i]:=by
 have:=congrArg (fun l=>l[i]?) h
 simpa [Ao hi,Ao hj] using this
theorem Ann {pl:Bool} {x y:Nd} (h:zNb pl x=zNb pl y):x.Bm=y.Bm∧x.C2=y.C2∧x.An=y.An∧x.Dd=y.Dd∧(pl=true→x.Al=y.Al):=by
 cases pl with
 | true=>have h:x=y:=h;subst h;exact⟨rfl,rfl,rfl,rfl,fun _=>rfl⟩
 | false =>
  have h:zN x=zN y:=h
  unfold zN at h
  injection h with h1 h2 h3 h4
  exact⟨h1,h2,h3,h4,fun e=>by cases e⟩
theorem Anh {pl:Bool} {x y:St} (h:zSb pl x=zSb pl y):x.At=y.At∧x.H7=y.H7∧x.H8=y.H8∧x.N3=y.N3∧x.Be=y.Be∧x.Cv=y.Cv∧x.Et.map (zNb pl)=y.Et.map (zNb pl)∧x.O6.map (zNb pl)=y.O6.map (zNb pl)∧(pl=true→x.Al=y.Al):=by
 cases pl with
 | true=>have h:x=y:=h;subst h;exact⟨rfl,rfl,rfl,rfl,rfl,rfl,rfl,rfl,fun _=>rfl⟩
 | false =>
  have h:zS x=zS y:=h
  unfold zS at h
  injection h with h1 h2 h3 h4 h5 h6 h7 h8
  exact⟨h1,h2,h3,h6,h7,h8,h4,h5,fun e=>by cases e⟩
theorem Any {pl:Bool} {x y:Va} (h:zVb pl x=zVb pl y):x.An=y.An∧x.C2=y.C2∧(pl=true→x.Al=y.Al):=by
 cases pl with
 | true=>have h:x=y:=h;subst h;exact⟨rfl,rfl,fun _=>rfl⟩
 | false =>
  have h:zV x=zV y:=h
  unfold zV at h
  injection h with h1 h2
  exact⟨h1,h2,fun e=>by cases e⟩
theorem Ao1 {pl:Bool} {x y:Th} (h:zTb pl x=zTb pl y):x.An=y.An∧x.Bv=y.Bv∧x.Be.map (zSb pl)=y.Be.map (zSb pl)∧(pl=true→x.Al=y.Al):=by
 cases pl with
 | true=>have h:x=y:=h;subst h;exact⟨rfl,rfl,rfl,fun _=>rfl⟩
 | false =>
  have h:zT x=zT y:=h
  unfold zT at h
  injection h with h1 h2 h3
  exact⟨h1,h2,h3,fun e=>by cases e⟩
theorem Ant {pl:Bool} {x y:Cl} (h:zCb pl x=zCb pl y):x.At=y.At∧x.Et.map (zNb pl)=y.Et.map (zNb pl)∧(pl=true→x.Al=y.Al):=by
 cases pl with
 | true=>have h:x=y:=h;subst h;exact⟨rfl,rfl,fun _=>rfl⟩
 | false =>
  have h:zC x=zC y:=h
  unfold zC at h
  injection h with h1 h2
  exact⟨h1,h2,fun e=>by cases e⟩
theorem Ph {τ:Type} (N:Nat) (hN:N < 1000000) (L:Nat→Nat→Option τ) (o:Option τ) (h0:∀ k,L (k+1) N=o) (h1:∀ k i,i < N→L (k+1) i=L k (i+1)):∀ (m i k:Nat),i+m=N→m < k→L k i=o:=by
 intro m
 induction m with
 | zero =>
  intro i k h hk
  obtain⟨k,rfl⟩:∃ j,k=j+1:=⟨k - 1,by omega⟩
  obtain rfl:i=N:=by omega
  exact h0 k
 | succ m ih =>
  intro i k h hk
  obtain⟨k,rfl⟩:∃ j,k=j+1:=⟨k - 1,by omega⟩
  rw[h1 k i (by omega)]
  exact ih (i+1) k (by omega) (by omega)
theorem A4s (n:Nat) (pl:Bool) (a b:List Nd) (h:a.map (zNb pl)=b.map (zNb pl)) (hl:a.length < 1000000) (hn:a.length+2 < n):Hi n a b pl=some true:=by
 obtain⟨n,rfl⟩:∃ j,n=j+1:=⟨n - 1,by omega⟩
 have hab:=Ms h
 have:=Ph a.length hl (fun k i=>Fw n a b k pl (i:Int)) (some (.out ())) (fun k=>by rw[Fw,B9 (by omega)]) (fun k i hi=>?_) a.length 0 n (by omega) (by omega)
 ·have this:Fw n a b n pl 0=some (.out ()):=this
  rw[Hi,hab,bne_self_eq_false,Aw,this];rfl
 ·obtain⟨f1,f2,f3,f4,f5⟩:=Ann (A0e h hi (by omega))
  rw[Fw,Ah (by omega)]
  simp only[Cp hi,Cp (show i < b.length by omega),A4,f1,f2,f3,f4,bne_self_eq_false,Aw,beq_self_eq_true,Ac,Bx i (show i < 4611686018427387904 by omega)]
  cases pl with
  | false=>rfl
  | true=>rw[f5 rfl,bne_self_eq_false];rfl
theorem Al1 (n:Nat) (pl:Bool) (a b:List St) (h:a.map (zSb pl)=b.map (zSb pl)) (hl:a.length≤4000) (hx:∀ x ∈ a,x.Et.length≤4000∧x.O6.length≤4000) (hn:4100 < n):O4 n a b pl=some true:=by
 obtain⟨n,rfl⟩:∃ j,n=j+1:=⟨n - 1,by omega⟩
 have hab:=Ms h
 have:=Ph a.length (by omega) (fun k i=>Ft n a b k pl (i:Int)) (some (.out ())) (fun k=>by rw[Ft,B9 (by omega)]) (fun k i hi=>?_) a.length 0 n (by omega) (by omega)
 ·have this:Ft n a b n pl 0=some (.out ()):=this
  rw[O4,hab,bne_self_eq_false,Aw,this];rfl
 ·have hj:i < b.length:=by omega
  obtain⟨f1,f2,f3,f4,f5,f6,f7,f8,f9⟩:=Anh (A0e h hi hj)
  have h2:=hx a[i] (List.getElem_mem hi)
  rw[Ft,Ah (by omega)]
  have g1:=A4s n pl _ _ f7 (by omega) (by omega)
  have g2:=A4s n pl _ _ f8 (by omega) (by omega)
  simp only[Cp hi,Cp hj,A4,f1,f2,f3,f4,f5,f6,bne_self_eq_false,Aw,beq_self_eq_true,Ac,Bx i (show i < 4611686018427387904 by omega)]
  cases pl with
  | false=>rw[Aw,g1,A4,Ac,g2];rfl
  | true=>rw[f9 rfl,bne_self_eq_false,Ac,Aw,g1,A4,Ac,g2];rfl
structure Afl (p:Pg):Prop where
 locs:p.B8.length≤4000
 threads:p.Ak.length≤4000
 claims:p.Ar.length≤4000
 thr:∀ t ∈ p.Ak,t.Bv.length≤4000∧t.Be.length≤4000∧∀ x ∈ t.Be,x.Et.length≤4000∧x.O6.length≤4000
 cl:∀ c ∈ p.Ar,c.Et.length≤4000
theorem Anp (n:Nat) (x y:Th) (h:x.Bv=y.Bv) (hl:x.Bv.length≤4000) (hn:4100 < n):Gp n x y n 0=some (.out ()):=by
 refine Ph x.Bv.length (by omega) (fun k i=>Gp n x y k (i:Int)) (some (.out ())) (fun k=>by rw[Gp,B9 (by omega)]) (fun k i hi=>?_) x.Bv.length 0 n (by omega) (by omega)
 rw[Gp,Ah (by omega),← h,Cp hi,A4,A4,beq_self_eq_true,Ac,Bx i (by omega)]
theorem Ans (n:Nat) (x y:Th) (h:x.Bv=y.Bv) (hl:x.Bv.length≤4000) (hn:4100 < n):Gr n x y n 0=some (.out ()):=by
 refine Ph x.Bv.length (by omega) (fun k i=>Gr n x y k (i:Int)) (some (.out ())) (fun k=>by rw[Gr,B9 (by omega)]) (fun k i hi=>?_) x.Bv.length 0 n (by omega) (by omega)
 rw[Gr,Ah (by omega),← h,Cp hi,A4,A4,beq_self_eq_true,Ac,Bx i (by omega)]
structure Ajs (pl:Bool) (p q:Pg):Prop where
 md:p.Bz=q.Bz
 locs:p.B8.map (zVb pl)=q.B8.map (zVb pl)
 threads:p.Ak.map (zTb pl)=q.Ak.map (zTb pl)
 claims:p.Ar.map (zCb pl)=q.Ar.map (zCb pl)
theorem Amx {p q:Pg} (h:zP p=zP q):Ajs false p q:=by
 unfold zP at h
 injection h with h1 h2 h3 h4
 exact⟨h1,h2,h3,h4⟩
theorem Aku (n:Nat) (pl:Bool) (a b:Pg) (h:Ajs pl a b) (hs:Afl a) (hn:4200 < n):Ni n a b pl=some true:=by
 obtain⟨n,rfl⟩:∃ j,n=j+1:=⟨n - 1,by omega⟩
 have s1:=hs.locs
 have s2:=hs.threads
 have s3:=hs.claims
 have l1:=Ms h.locs
 have l2:=Ms h.threads
 have l3:=Ms h.claims
 have L0:Fv n a b n pl 0=some (.out pl):=by
  refine Ph a.B8.length (by omega) (fun k i=>Fv n a b k pl (i:Int)) (some (.out pl)) (fun k=>by rw[Fv,B9 (by omega)]) (fun k i hi=>?_) a.B8.length 0 n (by omega) (by omega)
  have hj:i < b.B8.length:=by omega
  obtain⟨f1,f2,f3⟩:=Any (A0e h.locs hi hj)
  rw[Fv,Ah (by omega)]
  simp only[Cp hi,Cp hj,A4,f1,f2,bne_self_eq_false,Aw,beq_self_eq_true,Ac,Bx i (show i < 4611686018427387904 by omega)]
  cases pl with
  | false=>rfl
  | true=>rw[f3 rfl,bne_self_eq_false];rfl
 have L1:Fx n a b n pl 0=some (.out pl):=by
  refine Ph a.Ak.length (by omega) (fun k i=>Fx n a b k pl (i:Int)) (some (.out pl)) (fun k=>by rw[Fx,B9 (by omega)]) (fun k i hi=>?_) a.Ak.length 0 n (by omega) (by omega)
  have hj:i < b.Ak.length:=by omega
  obtain⟨f1,f2,f3,f4⟩:=Ao1 (A0e h.threads hi hj)
  obtain⟨t1,t2,t3⟩:=hs.thr _ (List.getElem_mem hi)
  have g:=Al1 n pl _ _ f3 t2 t3 (by omega)
  rw[Fx,Ah (by omega)]
  simp only[Cp hi,Cp hj,A4,f1,bne_self_eq_false,Aw,beq_self_eq_true,Ac,Bx i (show i < 4611686018427387904 by omega)]
  rw[show(((a.Ak[i].Bv.length:Nat):Int) != ((b.Ak[i].Bv.length:Nat):Int))=false by rw[f2,bne_self_eq_false],Aw,g,A4,Ac]
  cases pl with
  | false=>rw[Aw,Ans n _ _ f2 t1 (by omega)];rfl
  | true=>rw[Ac,f4 rfl,bne_self_eq_false,Aw,Anp n _ _ f2 t1 (by omega)];rfl
 have L4:Fu n a b n pl 0=some (.out ()):=by
  refine Ph a.Ar.length (by omega) (fun k i=>Fu n a b k pl (i:Int)) (some (.out ())) (fun k=>by rw[Fu,B9 (by omega)]) (fun k i hi=>?_) a.Ar.length 0 n (by omega) (by omega)
  have hj:i < b.Ar.length:=by omega
  obtain⟨f1,f2,f3⟩:=Ant (A0e h.claims hi hj)
  have t1:=hs.cl _ (List.getElem_mem hi)
  have g:=A4s n pl _ _ f2 (by omega) (by omega)
  rw[Fu,Ah (by omega)]
  simp only[Cp hi,Cp hj,A4,f1,bne_self_eq_false,Aw,beq_self_eq_true,Ac,Bx i (show i < 4611686018427387904 by omega)]
  rw[g,A4,Ac]
  cases pl with
  | false=>rfl
  | true=>rw[f3 rfl,bne_self_eq_false];rfl
 rw[Ni,h.md,l1,l2,l3,bne_self_eq_false,bne_self_eq_false,bne_self_eq_false,bne_self_eq_false]
 simp only[Aw]
 rw[L0,A4]
 dsimp only
 rw[L1,A4]
 dsimp only
 rw[L4];rfl
theorem Pj {s:List UInt8} (h:E0 s=true):s.length≤16:=by
 simp only[E0,A8,Bf] at h;exact h.1.1.2
theorem Aie {x:Nd} (h:Gy x=true):x.An.length≤100∧x.Dd.length≤100:=by
 simp only[Gy,A8] at h
 have h:=h.2
 split at h
 ·simp only[A8,beq_iff_eq] at h;rw[h.2.1,h.2.2];simp
 ·split at h
  ·simp only[A8,beq_iff_eq] at h;have:=Pj h.2.1;rw[h.2.2];exact⟨by omega,by simp⟩
  ·split at h
   ·simp only[A8,beq_iff_eq] at h;have:=Pj h.2.1;have:=Pj h.2.2;exact⟨by omega,by omega⟩
   ·simp only[A8,beq_iff_eq] at h;rw[h.2.1,h.2.2];simp
theorem A30 {l:List Nd} (h:Ip l=true):Mj l=true:=by
 simp only[Ip,A8,Bf,List.all_eq_true] at h
 simp only[Mj,A8,Bf,List.all_eq_true]
 exact⟨by omega,fun x hx=>Aie (h.2.2.1 x hx)⟩
theorem Aad {f:List UInt8} {c:Int} {l:List Nd} (h:fL f c l=true):Mj l=true:=by
 unfold fL at h
 split at h
 ·rw[A8] at h;exact A30 h.2
 ·have:l=[]:=List.length_eq_zero_iff.1 (by rw[beq_iff_eq] at h;omega)
  subst this;rfl
theorem Ag7 {f:List UInt8} {c:Int} {s:List UInt8} (h:fN f c s=true):s.length≤100:=by
 unfold fN at h
 split at h
 ·have:=Pj h;omega
 ·rw[beq_iff_eq] at h;rw[h];simp
theorem Acs {x:St} (h:Vj x=true):Afk x:=by
 simp only[Vj,A8] at h
 exact⟨Ag7 h.2.2.2.1,Ag7 h.2.2.2.2.1,Aad h.2.2.2.2.2.1,Aad h.2.2.2.2.2.2.1⟩
theorem Ab5 {p:Pg} (h:Xa p=true) (h1:p.B8.length≤4000) (h2:p.Ak.length≤4000) (h3:p.Ar.length≤4000) (h4:∀ t ∈ p.Ak,t.Bv.length≤4000):Xd p:=by
 simp only[Xa,A8,List.all_eq_true] at h
 obtain⟨_,hv,ht,hc⟩:=h
 refine⟨h1,h2,h3,fun v hm=>?_,fun t hm=>?_,fun c hm=>?_⟩
 ·have:=hv v hm
  simp only[A19,A8] at this
  have:=Pj this.1;omega
 ·have:=ht t hm
  simp only[A12,A8,List.all_eq_true] at this
  have hn:=Pj this.1
  obtain⟨F,_,_,_,f4,f5⟩:=Aeg this.2.2.1
  exact⟨by omega,h4 t hm,fun r hr=>by have:=Pj (this.2.2.2 r hr);omega,by omega,fun x hx=>Acs (f5 x hx)⟩
 ·have:=hc c hm
  simp only[A4h,A8] at this
  exact A30 this.2.2.1
def Um (B:Nat) (a:Int):Prop:=0≤a∧a≤B
structure Acu (B:Nat) (t:Th):Prop where
 at':Um B t.Al
 st:∀ x ∈ t.Be,A91 B x
structure Amp (B:Nat) (p:Pg):Prop where
 loc:∀ v ∈ p.B8,Um B v.Al
 thr:∀ t ∈ p.Ak,Acu B t
 cl:∀ c ∈ p.Ar,Um B c.Al∧∀ x ∈ c.Et,Nz B x
theorem Sh {w:List UInt8} {l:List Tk} {s:Ps} (h:(sgF w l s).2.1=0):s.2.1=0:=Decidable.byContradiction fun c=>A2o c h
theorem A38 {l:List Tk} {s:Ps} (h:(nmF l s).2.2.1=0):s.2.1=0∧isN l s.1=true∧(nmF l s).1=txt l s.1:=by
 rcases A8d (l:=l) (s:=s) with ⟨_,h1,h0,h2,_⟩ | ⟨h1,_⟩
 ·exact⟨h0,h1,h2⟩
 ·exact absurd h h1
theorem Afs {l:List Tk} {s:Ps} (h:(nuF l s).2.2.1=0):s.2.1=0∧isK l s.1=true∧(nuF l s).1=V1 l s.1:=by
 rcases Aa7 (l:=l) (s:=s) with ⟨_,h1,h0,h2,_⟩ | ⟨h1,_⟩
 ·exact⟨h0,h1,h2⟩
 ·exact absurd h h1
theorem Ac4 {T:Nat} {l:List Tk} (hk:Toks T l) (i:Nat):Adk (V1 l i)=true:=by
 unfold V1
 cases h:l[i]? with
 | none=>decide
 | some t=>have:=hk.ok t (List.mem_of_getElem? h);exact decide_eq_true ⟨this.2.1,this.2.2⟩
theorem Wn {B T:Nat} {l:List Tk} (hl:TokB B T l) (i:Nat):Um B (atA l i):=by
 unfold atA
 cases h:l[i]? with
 | none=>exact⟨(show(0:Int)≤0 by decide),(show(0:Int)≤B by omega)⟩
 | some t=>exact hl.tk h
theorem A7l {B:Nat} {a:Int} (h:Um B a):decide (0≤a)=true:=decide_eq_true h.1
theorem Aht {B T:Nat} {l:List Tk} (hl:TokB B T l) {s:Ps} (h:(M4 l s).2.2.1=0):A19 (M4 l s).1=true∧Um B (M4 l s).1.Al:=by
 unfold M4 at h ⊢
 dsimp only at h ⊢
 obtain⟨a1,_,a3⟩:=Afs (Sh h)
 obtain⟨_,b2,b3⟩:=A38 (Sh a1)
 refine⟨?_,Wn hl _⟩
 simp only[A19,A8]
 exact⟨by rw[b3];exact Tv b2,by rw[a3];exact Ac4 hl.toks _,A7l (Wn hl _)⟩
theorem A5r {B T:Nat} {l:List Tk} (hl:TokB B T l):∀ (K:Nat) (s:Ps) (acc:List Va),(s.2.1=0→∀ v ∈ acc,A19 v=true∧Um B v.Al)→(Eu l K s acc).2.2.1=0→s.2.1=0∧∀ v ∈ (Eu l K s acc).1,A19 v=true∧Um B v.Al
 | 0,s,acc,h,h0=>⟨h0,h h0⟩
 | K+1,s,acc,h,h0=>by
  rw[Eu] at h0 ⊢
  cases hc:C6 [108,111,99] l s with
  | false=>rw[hc] at h0;exact⟨h0,h h0⟩
  | true =>
   rw[hc,Ac] at h0
   rw[Ac]
   have hs:=(Ix hc).2
   refine⟨hs,(A5r hl K _ _ (fun e v hv=>?_) h0).2⟩
   rcases List.mem_append.1 hv with hv | hv
   ·exact h hs v hv
   ·rw[List.mem_singleton.1 hv];exact Aht hl e
theorem A5j {l:List Tk}:∀ (K:Nat) (s:Ps) (acc:List (List UInt8)),(s.2.1=0→∀ v ∈ acc,E0 v=true)→(Dr l K s acc).2.2.1=0→s.2.1=0∧∀ v ∈ (Dr l K s acc).1,E0 v=true
 | 0,s,acc,h,h0=>⟨h0,h h0⟩
 | K+1,s,acc,h,h0=>by
  rw[Dr] at h0 ⊢
  cases hc:s.2.1==0&&Bl l s.1 [44] with
  | false=>rw[hc] at h0;exact⟨h0,h h0⟩
  | true =>
   rw[hc,Ac] at h0
   rw[Ac]
   rw[A8,beq_iff_eq] at hc
   refine⟨hc.1,(A5j K _ _ (fun e v hv=>?_) h0).2⟩
   rcases List.mem_append.1 hv with hv | hv
   ·exact h hc.1 v hv
   ·obtain⟨_,b2,b3⟩:=A38 e
    rw[List.mem_singleton.1 hv,b3];exact Tv b2
theorem Aai {l:List Tk}:∀ (K:Nat) (s:Ps) (acc:List (List UInt8)),acc.length≤s.1→(Dr l K s acc).1.length≤(Dr l K s acc).2.1
 | 0,s,acc,h=>h
 | K+1,s,acc,h=>by
  rw[Dr]
  cases hc:s.2.1==0&&Bl l s.1 [44] with
  | false=>exact h
  | true =>
   have b1:=Pp (l:=l) (s:=(s.1+1,s.2))
   dsimp only at b1
   exact Aai K _ _ (by rw[List.length_append];simp;omega)
theorem Ah3 {T:Nat} {l:List Tk} (hk:Toks T l) {s:Ps} (h:(G3 l s).2.2.1=0):s.2.1=0∧∀ v ∈ (G3 l s).1,E0 v=true:=by
 unfold G3 at h ⊢
 cases hc:C6 [114,101,103] l s with
 | false=>rw[hc] at h;exact⟨h,fun v hv=>(by cases hv)⟩
 | true =>
  rw[hc,Ac] at h
  refine⟨(Ix hc).2,(A5j _ _ _ (fun e v hv=>?_) (Sh h)).2⟩
  obtain⟨_,b2,b3⟩:=A38 e
  rw[List.mem_singleton.1 hv,b3];exact Tv b2
theorem Af4 {T:Nat} {l:List Tk} (hk:Toks T l) {s:Ps}:(G3 l s).1.length≤l.length+1:=by
 unfold G3
 cases hc:C6 [114,101,103] l s with
 | false=>simp
 | true =>
  obtain⟨h1,h2⟩:=Ix hc
  have a1:Cd l (nmF l (s.1+1,s.2)).2:=Ox h1
  have b1:=Pp (l:=l) (s:=(s.1+1,s.2))
  dsimp only at b1
  obtain⟨r2,_⟩:=A48 (l.length+2) (nmF l (s.1+1,s.2)).2 [(nmF l (s.1+1,s.2)).1] a1
  have:=Aai (l:=l) (l.length+2) (nmF l (s.1+1,s.2)).2 [(nmF l (s.1+1,s.2)).1] (by simp;omega)
  unfold Cd at r2
  show(Dr l (l.length+2) (nmF l (s.1+1,s.2)).2 [(nmF l (s.1+1,s.2)).1]).1.length≤l.length+1
  omega
theorem Age {B T:Nat} {l:List Tk} (hl:TokB B T l) {s:Ps} (hs:Cd l s) (h:(Iv l s).2.2.1=0):s.2.1=0∧Uz (Iv l s).1=true∧∀ x ∈ (Iv l s).1,A91 B x:=by
 unfold Iv at h ⊢
 cases hc:s.2.1==0 with
 | false =>
  rw[hc,Aw] at h
  rw[beq_eq_false_iff_ne] at hc
  exact absurd (Sh h) hc
 | true =>
  rw[hc,Ac] at h
  rw[beq_iff_eq] at hc
  rw[Ac]
  refine⟨hc,?_,(Alw hl hs).1⟩
  rcases A1x hl.toks hs with ⟨g,_⟩ | ⟨_,_,_,_,g,_⟩
  ·exact absurd (Sh h) (A0q g)
  ·exact g
theorem Ajj {B T:Nat} {l:List Tk} (hl:TokB B T l) {s:Ps} (h1:s.1 < l.length) (h:(Jq l s).2.2.1=0):A12 (Jq l s).1=true∧Acu B (Jq l s).1:=by
 have a1:Cd l (nmF l (s.1+1,s.2)).2:=Ox h1
 have a2:=Ln (w:=[123]) a1
 obtain⟨a3,_⟩:=A11 hl.toks a2
 unfold Jq at h ⊢
 dsimp only at h ⊢
 obtain⟨b1,b2,b3⟩:=Age hl a3 h
 obtain⟨c1,c2⟩:=Ah3 hl.toks b1
 obtain⟨_,d2,d3⟩:=A38 (Sh c1)
 refine⟨?_,⟨Wn hl _,b3⟩⟩
 simp only[A12,A8,List.all_eq_true]
 exact⟨by rw[d3];exact Tv d2,A7l (Wn hl _),b2,c2⟩
theorem A60 {B T:Nat} {l:List Tk} (hl:TokB B T l):∀ (K:Nat) (s:Ps) (acc:List Th),(s.2.1=0→∀ v ∈ acc,A12 v=true∧Acu B v)→(∀ v ∈ acc,v.Bv.length≤l.length+1)→(G0 l K s acc).2.2.1=0→s.2.1=0∧(∀ v ∈ (G0 l K s acc).1,A12 v=true∧Acu B v)∧∀ v ∈ (G0 l K s acc).1,v.Bv.length≤l.length+1
 | 0,s,acc,h,hr,h0=>⟨h0,h h0,hr⟩
 | K+1,s,acc,h,hr,h0=>by
  rw[G0] at h0 ⊢
  cases hc:C6 [116,104,114,101,97,100] l s with
  | false=>rw[hc] at h0;exact⟨h0,h h0,hr⟩
  | true =>
   rw[hc,Ac] at h0
   rw[Ac]
   obtain⟨h1,hs⟩:=Ix hc
   refine⟨hs,(A60 hl K _ _ (fun e v hv=>?_) (fun v hv=>?_) h0).2⟩
   ·rcases List.mem_append.1 hv with hv | hv
    ·exact h hs v hv
    ·rw[List.mem_singleton.1 hv];exact Ajj hl h1 e
   ·rcases List.mem_append.1 hv with hv | hv
    ·exact hr v hv
    ·rw[List.mem_singleton.1 hv];exact Af4 hl.toks
theorem A2i (x:Nd):Fb (Gt x).Bm=Fb x.Bm:=by
 unfold Gt;split
 ·rename_i h;rw[h];show Fb 3=Fb 2;decide
 ·rfl
theorem Aem:∀ (l:List Nd) (w:Nat),It (l.map Gt) w=It l w
 | [],w=>rfl
 | x :: l,w=>by rw[List.map_cons,It,It,Aem l,A2i]
theorem Aa2:∀ (l:List Nd) (s:Int×List Int),Es (l.map Gt) s=Es l s
 | [],s=>rfl
 | x :: l,(m,R)=>by rw[List.map_cons,Es,Es,Aa2 l,Aa2 l,A2i]
theorem Ahg {x:Nd} (h:Gy x=true):Gy (Gt x)=true:=by
 unfold Gt
 by_cases c:x.Bm=2
 ·rw[if_pos c]
  simp only[Gy,c] at h ⊢
  exact h
 ·rw[if_neg c];exact h
theorem Ahh {l:List Nd} (h:Ip l=true):Ip (l.map Gt)=true:=by
 simp only[Ip,A8,Bd,Aem,Aa2] at h ⊢
 refine⟨h.1,h.2.1,?_,h.2.2.2⟩
 rw[List.all_eq_true] at h ⊢
 intro x hx
 obtain⟨y,hy,rfl⟩:=List.mem_map.1 hx
 exact Ahg (h.2.2.1 y hy)
theorem Anz (l:List Nd):clB (l.map Gt)=true:=by
 unfold clB
 rw[List.all_eq_true]
 intro x hx
 obtain⟨hx,_⟩:=List.mem_filter.1 hx
 obtain⟨y,_,rfl⟩:=List.mem_map.1 hx
 unfold Gt
 split
 ·rfl
 ·rename_i c;rw[Cw.2 c];rfl
theorem Akw {B T:Nat} {l:List Tk} (hl:TokB B T l) {k:Int} (hk:1≤k∧k≤3) {s:Ps} (h1:s.1 < l.length) (h:(clF k l s).2.2.1=0):A4h (clF k l s).1=true∧Um B (clF k l s).1.Al∧∀ x ∈ (clF k l s).1.Et,Nz B x:=by
 unfold clF at h ⊢
 dsimp only at h ⊢
 refine⟨?_,Wn hl _,fun x hx=>?_⟩
 ·simp only[A4h,A8]
  refine⟨Anz _,decide_eq_true hk,?_,A7l (Wn hl _)⟩
  rcases Xn hl.toks (show s.1+1≤l.length from h1) with ⟨g,_⟩ | ⟨_,_,_,_,_,g⟩
  ·exact absurd (Sh h) (A0q g)
  ·exact Ahh g
 ·obtain⟨y,hy,rfl⟩:=List.mem_map.1 hx
  have:=(Amr hl (show s.1+1≤l.length from h1)).1 y hy
  unfold Gt;split<;>exact this
theorem A8e {B T:Nat} {l:List Tk} (hl:TokB B T l):∀ (K:Nat) (s:Ps) (acc:List Cl),(s.2.1=0→∀ v ∈ acc,A4h v=true∧Um B v.Al∧∀ x ∈ v.Et,Nz B x)→(Hz l K s acc).2.2.1=0→s.2.1=0∧∀ v ∈ (Hz l K s acc).1,A4h v=true∧Um B v.Al∧∀ x ∈ v.Et,Nz B x
 | 0,s,acc,h,h0=>⟨h0,h h0⟩
 | K+1,s,acc,h,h0=>by
  rw[Hz] at h0 ⊢
  by_cases hc:0 < Gs l s
  ·rw[Ah hc] at h0 ⊢
   obtain⟨h1,hs,hk⟩:=A0y hc
   refine⟨hs,(A8e hl K _ _ (fun e v hv=>?_) h0).2⟩
   rcases List.mem_append.1 hv with hv | hv
   ·exact h hs v hv
   ·rw[List.mem_singleton.1 hv];exact Akw hl (by omega) h1 e
  ·rw[B9 hc] at h0 ⊢
   exact⟨h0,h h0⟩
theorem Aia {l:List Tk} {s:Ps} (h:(M5 l s).2.1=0):s.2.1=0:=by
 unfold M5 at h
 cases hc:decide (s.1 < l.length) with
 | true=>rw[hc] at h;exact absurd h (A8o l s)
 | false=>rw[hc] at h;exact h
theorem Ada {T:Nat} {l:List Tk} (hk:Toks T l) (h:(Gl l).2.2.1=0):Adk (Gl l).1=true:=by
 unfold Gl at h ⊢
 dsimp only at h ⊢
 obtain⟨_,_,a3⟩:=Afs (Sh h)
 rw[a3];exact Ac4 hk _
theorem Afo {B T:Nat} {l:List Tk} (hl:TokB B T l) (hlen:l.length≤3500):(Na l).2.1≠0∧(Na l).1=noP∨(Na l).2=(0,0)∧Xa (Na l).1=true∧Xd (Na l).1∧Amp B (Na l).1:=by
 have hk:=hl.toks
 have p0:=Ahd l
 obtain⟨p1,q1⟩:=A4e (l.length+2) (Gl l).2 [] p0 (Nat.zero_le _)
 obtain⟨p2,q2⟩:=Aa4 hk (l.length+2) _ [] p1
 obtain⟨p3,q3⟩:=Acc hk (l.length+2) _ [] p2
 have b2:=Px (l:=l) (s:=(Eu l (l.length+2) (Gl l).2 []).2)
 have b3:=Px (l:=l) (s:=(G0 l (l.length+2) (Eu l (l.length+2) (Gl l).2 []).2 []).2)
 rw[List.length_nil] at q2 q3
 unfold Cd at p1
 unfold Na
 dsimp only
 cases he:(M5 l (Hz l (l.length+2) (G0 l (l.length+2) (Eu l (l.length+2) (Gl l).2 []).2 []).2 []).2).2.1 != 0 with
 | true=>rw[bne_iff_ne] at he;exact .inl ⟨he,rfl⟩
 | false =>
  rw[Aw]
  rw[bne_eq_false_iff_eq] at he
  obtain⟨c1,c2⟩:=A8e hl _ _ [] (fun _ v hv=>(by cases hv)) (Aia he)
  obtain⟨t1,t2,t3⟩:=A60 hl _ _ [] (fun _ v hv=>(by cases hv)) (fun v hv=>(by cases hv)) c1
  obtain⟨v1,v2⟩:=A5r hl _ _ [] (fun _ v hv=>(by cases hv)) t1
  have hr:Xa (⟨(Gl l).1,(Eu l (l.length+2) (Gl l).2 []).1,(G0 l (l.length+2) (Eu l (l.length+2) (Gl l).2 []).2 []).1,(Hz l (l.length+2) (G0 l (l.length+2) (Eu l (l.length+2) (Gl l).2 []).2 []).2 []).1⟩:Pg)=true:=by
   simp only[Xa,A8,List.all_eq_true]
   exact⟨Ada hk v1,fun v hv=>(v2 v hv).1,fun v hv=>(t2 v hv).1,fun v hv=>(c2 v hv).1⟩
  exact .inr ⟨rfl,hr,Ab5 hr (by dsimp only;omega) (by dsimp only;omega) (by dsimp only;omega) (fun t ht=>by have:=t3 t ht;omega),⟨fun v hv=>(v2 v hv).2,fun v hv=>(t2 v hv).2,fun v hv=>(c2 v hv).2⟩⟩
theorem Al2 (s:List UInt8) (hs:s.length≤90000):TokB s.length s.length (R1 s):=⟨A0r s hs,by omega,(Xz s).1⟩
theorem Ab6 {s:List UInt8} (hs:s.length≤3400):(Im s).2.1≠0∧(Im s).1=noP∨(Im s).2=(0,0)∧Xa (Im s).1=true∧Xd (Im s).1∧Amp s.length (Im s).1:=by
 have h2:=(Xz s).2
 unfold Im
 cases herr:(Hw s).err != 0 with
 | true=>rw[bne_iff_ne] at herr;exact .inl ⟨herr,rfl⟩
 | false=>exact Afo (Al2 s (by omega)) (by omega)
theorem Ai9:Xd noP:=⟨by decide,by decide,by decide,fun v hv=>(by cases hv),fun v hv=>(by cases hv),fun v hv=>(by cases hv)⟩
theorem An1 {T:Nat} {l:List Tk} (hk:Toks T l) {i:Nat} (hi:i≤l.length) {r:SR} (hr:SE l false 0 i r):seQ l i=S5 l i r:=by
 obtain⟨r',hr',e⟩:=A0j hk hi
 have h1:=A47 hk hr' hi (n:=18*l.length+T+960) (by omega)
 have h2:=A47 hk hr hi (n:=18*l.length+T+960) (by omega)
 rw[h1] at h2
 rw[e];exact Option.some.inj h2
theorem Ago {T:Nat} {l:List Tk} (hk:Toks T l) {i:Nat} (hi:i≤l.length) {r:PR} (hr:PE l (.fl 0) 0 i r):peQ l i=I8 l i r:=by
 obtain⟨r',hr',e⟩:=A0c hk hi
 have h1:=T3 hk.len hk.ok hk.txt hk.small hr' hi (n:=12*l.length+T+200) (by omega)
 have h2:=T3 hk.len hk.ok hk.txt hk.small hr hi (n:=12*l.length+T+200) (by omega)
 rw[h1] at h2
 rw[e];exact Option.some.inj h2
set_option maxRecDepth 100000
theorem A0h {l:List Nd} (h:Mj l=true):l.length≤250:=by
 simp only[Mj,A8,Bf] at h;exact h.1
theorem Ahl {p:Pg} (h:Xd p):Afl p:=by
 refine⟨h.locs,h.threads,h.claims,fun t ht=>?_,fun c hc=>?_⟩
 ·have b:=h.thr t ht
  refine⟨b.regs,by have:=b.body;omega,fun x hx=>?_⟩
  obtain⟨_,_,l1,l2⟩:=b.st x hx
  have:=A0h l1
  have:=A0h l2
  exact⟨by omega,by omega⟩
 ·have:=A0h (h.cl c hc);omega
theorem Al7:K2 500000=some true:=by decide +kernel
def tkc (t:Tk):Int×List UInt8×Int:=(t.At,t.A7,t.C2)
structure Cor (l m:List Tk):Prop where
 len:m.length=l.length
 get:∀ i:Nat,(m[i]?).map tkc=(l[i]?).map tkc
theorem Amj {l m:List Tk} (h:m.map tkc=l.map tkc):Cor l m:=by
 refine⟨by have:=congrArg List.length h;simpa using this,fun i=>?_⟩
 have:=congrArg (fun q=>q[i]?) h
 simpa [List.getElem?_map] using this
theorem Cor.at {l m:List Tk} (h:Cor l m) {i:Nat} {t:Tk} (ht:l[i]?=some t):∃ u,m[i]?=some u∧u.At=t.At∧u.A7=t.A7∧u.C2=t.C2:=by
 have:=h.get i
 rw[ht] at this
 cases hm:m[i]? with
 | none=>rw[hm] at this;cases this
 | some u =>
  rw[hm] at this
  have:=Option.some.inj this
  unfold tkc at this
  injection this with h1 h2
  injection h2 with h2 h3
  exact⟨u,rfl,h1,h2,h3⟩
theorem Cor.no {l m:List Tk} (h:Cor l m) {i:Nat} (ht:l[i]?=none):m[i]?=none:=by
 have:=h.get i
 rw[ht] at this
 cases hm:m[i]? with
 | none=>rfl
 | some u=>rw[hm] at this;cases this
section
variable {l m:List Tk}
theorem Cor.sg (h:Cor l m) (i:Nat) (w:List UInt8):Bl m i w=Bl l i w:=by
 unfold Bl
 cases hx:l[i]? with
 | none=>rw[h.no hx]
 | some t=>obtain⟨u,h1,h2,h3,_⟩:=h.at hx;rw[h1];dsimp only;rw[h2,h3]
theorem Cor.nm (h:Cor l m) (i:Nat):isN m i=isN l i:=by
 unfold isN
 cases hx:l[i]? with
 | none=>rw[h.no hx]
 | some t=>obtain⟨u,h1,h2,h3,_⟩:=h.at hx;rw[h1];dsimp only;rw[h2,h3]
theorem Cor.nk (h:Cor l m) (i:Nat):isK m i=isK l i:=by
 unfold isK
 cases hx:l[i]? with
 | none=>rw[h.no hx]
 | some t=>obtain⟨u,h1,h2,_⟩:=h.at hx;rw[h1];dsimp only;rw[h2]
theorem Cor.kw (h:Cor l m) (i:Nat) (w:List UInt8):Yk m i w=Yk l i w:=by
 unfold Yk
 cases hx:l[i]? with
 | none=>rw[h.no hx]
 | some t=>obtain⟨u,h1,h2,h3,_⟩:=h.at hx;rw[h1];dsimp only;rw[h2,h3]
theorem Cor.el (h:Cor l m) (i:Nat):Kj m i=Kj l i:=by
 unfold Kj
 cases hx:l[i]? with
 | none=>rw[h.no hx]
 | some t=>obtain⟨u,h1,h2,h3,_⟩:=h.at hx;rw[h1];dsimp only;rw[h2,h3]
theorem Cor.kd (h:Cor l m) (i:Nat):Aq m i=Aq l i:=by
 unfold Aq
 cases hx:l[i]? with
 | none=>rw[h.no hx]
 | some t=>obtain⟨u,h1,h2,h3,_⟩:=h.at hx;rw[h1];dsimp only;rw[h2,h3]
theorem Cor.tx (h:Cor l m) (i:Nat):txt m i=txt l i:=by
 unfold txt
 cases hx:l[i]? with
 | none=>rw[h.no hx]
 | some t=>obtain⟨u,h1,h2,h3,_⟩:=h.at hx;rw[h1];exact h3
theorem Cor.nu (h:Cor l m) (i:Nat):V1 m i=V1 l i:=by
 unfold V1
 cases hx:l[i]? with
 | none=>rw[h.no hx]
 | some t=>obtain⟨u,h1,h2,h3,h4⟩:=h.at hx;rw[h1];exact h4
theorem Cor.er (h:Cor l m) (i:Nat):El m i=El l i:=by unfold El;rw[h.len]
theorem Cor.op (h:Cor l m) (i:Nat) (ops:List Int):Ga m i ops=Ga l i ops:=by
 unfold Ga
 congr 1
 funext acc op
 rw[h.sg]
end
def LkN (x y:List Nd):Prop:=y.map zN=x.map zN
def LkR:PR→PR→Prop
 | .ok x tu,.ok y tv=>tv=tu∧LkN x y
 | .bad e _,.bad f _=>f=e
 | _,_=>False
def LkM:Md→Md→Prop
 | .fl f,.fl g=>g=f
 | .lp f x,.lp g y=>g=f∧LkN x y
 | _,_=>False
theorem T5 {x:List Nd} {tu:Nat} {r:PR} (h:LkR (.ok x tu) r):∃ y,r=.ok y tu∧LkN x y:=by
 cases r with
 | ok y tv=>obtain⟨rfl,h⟩:=h;exact⟨y,rfl,h⟩
 | bad e a=>exact h.elim
theorem Ua {e a:Int} {r:PR} (h:LkR (.bad e a) r):∃ b,r=.bad e b:=by
 cases r with
 | ok y tv=>exact h.elim
 | bad f b=>have h:f=e:=h;subst h;exact⟨b,rfl⟩
theorem O8 {f:Nat} {md:Md} (h:LkM (.fl f) md):md=.fl f:=by
 cases md with
 | fl g=>have h:g=f:=h;rw[h]
 | lp g y=>exact h.elim
theorem A6z {f:Nat} {x:List Nd} {md:Md} (h:LkM (.lp f x) md):∃ y,md=.lp f y∧LkN x y:=by
 cases md with
 | fl g=>exact h.elim
 | lp g y=>obtain⟨rfl,h⟩:=h;exact⟨y,rfl,h⟩
theorem Tu {op n a b:Int} {s t:List UInt8} {x y:List Nd} (h:LkN x y):LkN (⟨op,n,s,t,a⟩ :: x) (⟨op,n,s,t,b⟩ :: y):=by
 unfold LkN at h ⊢
 rw[List.map_cons,List.map_cons,h];rfl
theorem Ah4 {x y p q:List Nd} (h:LkN x p) (h2:LkN y q):LkN (x++y) (p++q):=by
 unfold LkN at h h2 ⊢
 rw[List.map_append,List.map_append,h,h2]
theorem An3 {l m:List Tk} (h:Cor l m) {md:Md} {inn i:Nat} {r:PR} (hr:PE l md inn i r):∀ md',LkM md md'→∃ r',PE m md' inn i r'∧LkR r r':=by
 induction hr with
 | deep h1 h2 h3 =>
  intro md' hm;rw[O8 hm]
  obtain⟨u,u1,u2,u3,u4⟩:=h.at h3
  exact⟨_,.deep (by rw[h.sg,h.sg];exact h1) h2 u1,rfl⟩
 | not_ok h1 h2 h3 h4 ih =>
  intro md' hm;rw[O8 hm]
  obtain⟨u,u1,u2,u3,u4⟩:=h.at h3
  obtain⟨r',p1,p2⟩:=ih (.fl 5) rfl
  obtain⟨y,rfl,p3⟩:=T5 p2
  exact⟨_,.not_ok (by rw[h.sg];exact h1) h2 u1 p1,rfl,Tu p3⟩
 | not_bad h1 h2 h3 ih =>
  intro md' hm;rw[O8 hm]
  obtain⟨r',p1,p2⟩:=ih (.fl 5) rfl
  obtain⟨b,rfl⟩:=Ua p2
  exact⟨_,.not_bad (by rw[h.sg];exact h1) h2 p1,rfl⟩
 | par_ok h1 h2 h3 h4 ih =>
  intro md' hm;rw[O8 hm]
  obtain⟨r',p1,p2⟩:=ih (.fl 0) rfl
  obtain⟨y,rfl,p3⟩:=T5 p2
  exact⟨_,.par_ok (by rw[h.sg];exact h1) h2 p1 (by rw[h.sg];exact h4),rfl,p3⟩
 | par_bad h1 h2 h3 ih =>
  intro md' hm;rw[O8 hm]
  obtain⟨r',p1,p2⟩:=ih (.fl 0) rfl
  obtain⟨b,rfl⟩:=Ua p2
  exact⟨_,.par_bad (by rw[h.sg];exact h1) h2 p1,rfl⟩
 | par_open h1 h2 h3 h4 ih =>
  intro md' hm;rw[O8 hm]
  obtain⟨r',p1,p2⟩:=ih (.fl 0) rfl
  obtain⟨y,rfl,p3⟩:=T5 p2
  exact⟨_,.par_open (by rw[h.sg];exact h1) h2 p1 (by rw[h.sg];exact h4),h.er _⟩
 | num h1 h2 =>
  intro md' hm;rw[O8 hm]
  obtain⟨u,u1,u2,u3,u4⟩:=h.at h2
  refine⟨_,.num (by rw[h.nk];exact h1) u1,rfl,?_⟩
  rw[u4];exact Tu (show LkN [] [] from rfl)
 | reg h1 h2 h3 =>
  intro md' hm;rw[O8 hm]
  obtain⟨u,u1,u2,u3,u4⟩:=h.at h3
  refine⟨_,.reg (by rw[h.nm];exact h1) (by rw[h.sg];exact h2) u1,rfl,?_⟩
  rw[u3];exact Tu (show LkN [] [] from rfl)
 | of h1 h2 h3 h4 h5 =>
  intro md' hm;rw[O8 hm]
  obtain⟨u,u1,u2,u3,u4⟩:=h.at h4
  obtain⟨v,v1,v2,v3,v4⟩:=h.at h5
  refine⟨_,.of (by rw[h.nm];exact h1) (by rw[h.sg];exact h2) (by rw[h.nm];exact h3) u1 v1,rfl,?_⟩
  rw[u3,v3];exact Tu (show LkN [] [] from rfl)
 | of_bad h1 h2 h3 =>
  intro md' hm;rw[O8 hm]
  exact⟨_,.of_bad (by rw[h.nm];exact h1) (by rw[h.sg];exact h2) (by rw[h.nm];exact h3),h.er _⟩
 | no h1 h2 h3 h4 =>
  intro md' hm;rw[O8 hm]
  exact⟨_,.no (by rw[h.sg];exact h1) (by rw[h.sg];exact h2) (by rw[h.nk];exact h3) (by rw[h.nm];exact h4),h.er _⟩
 | fl_bad h1 h2 ih =>
  intro md' hm;rw[O8 hm]
  obtain⟨r',p1,p2⟩:=ih (.fl _) rfl
  obtain⟨b,rfl⟩:=Ua p2
  exact⟨_,.fl_bad h1 p1,rfl⟩
 | fl_ok h1 h2 h3 ih1 ih2 =>
  intro md' hm;rw[O8 hm]
  obtain⟨r',p1,p2⟩:=ih1 (.fl _) rfl
  obtain⟨y,rfl,p3⟩:=T5 p2
  obtain⟨r2,q1,q2⟩:=ih2 (.lp _ y) ⟨rfl,p3⟩
  exact⟨_,.fl_ok h1 p1 q1,q2⟩
 | lp_stop h1 =>
  intro md' hm;obtain⟨y,rfl,p3⟩:=A6z hm
  exact⟨_,.lp_stop (by rw[h.op];exact h1),rfl,p3⟩
 | lp_bad h1 h2 h3 ih =>
  intro md' hm;obtain⟨y,rfl,p3⟩:=A6z hm
  obtain⟨r',p1,p2⟩:=ih (.fl _) rfl
  obtain⟨b,rfl⟩:=Ua p2
  exact⟨_,.lp_bad h1 (by rw[h.op];exact h2) p1,rfl⟩
 | lp_once h1 h2 h3 ih =>
  intro md' hm;obtain⟨y,rfl,p3⟩:=A6z hm
  obtain⟨u,u1,u2,u3,u4⟩:=h.at h2
  obtain⟨r',p1,p2⟩:=ih (.fl _) rfl
  obtain⟨z,rfl,p4⟩:=T5 p2
  refine⟨_,.lp_once (by rw[h.op];exact h1) u1 p1,rfl,?_⟩
  rw[h.op];exact Tu (Ah4 p3 p4)
 | lp_go h1 h2 h3 h4 h5 h6 ih1 ih2 =>
  intro md' hm;obtain⟨y,rfl,p3⟩:=A6z hm
  obtain⟨u,u1,u2,u3,u4⟩:=h.at h4
  obtain⟨r',p1,p2⟩:=ih1 (.fl _) rfl
  obtain⟨z,rfl,p4⟩:=T5 p2
  obtain⟨r2,q1,q2⟩:=ih2 (.lp _ (⟨Ga m _ _,0,[],[],u.Al⟩ :: (y++z))) ⟨rfl,by rw[h.op];exact Tu (Ah4 p3 p4)⟩
  exact⟨_,.lp_go h1 h2 (by rw[h.op];exact h3) u1 p1 q1,q2⟩
theorem An4 {x y:List Nd} (h:LkN x y) (s:Int×List Int):Es y s=Es x s:=by
 rw[← A3r y,← A3r x,h]
theorem Am1 {x y:List Nd} (h:LkN x y):N2 y=N2 x:=by rw[← Aes y,← Aes x,h]
def LkQ (p q:List Nd×Int×Int×Int):Prop:=LkN p.1 q.1∧q.2.1=p.2.1∧q.2.2.1=p.2.2.1
theorem Agv {l m:List Tk} {i:Nat} {r r':PR} (h:LkR r r'):LkQ (I8 l i r) (I8 m i r'):=by
 cases r with
 | bad e a =>
  obtain⟨b,rfl⟩:=Ua h
  exact⟨rfl,rfl,rfl⟩
 | ok x tu =>
  obtain⟨y,rfl,h2⟩:=T5 h
  have hl:y.length=x.length:=Ms h2
  simp only[I8]
  rw[An4 h2,hl]
  split
  ·exact⟨rfl,rfl,rfl⟩
  ·split
   ·exact⟨rfl,rfl,rfl⟩
   ·exact⟨h2,rfl,rfl⟩
theorem Abw {l m:List Tk} {T T':Nat} (h:Cor l m) (hl:Toks T l) (hm:Toks T' m) {i:Nat} (hi:i≤l.length):LkQ (peQ l i) (peQ m i):=by
 obtain⟨r,r1,r2⟩:=A0c hl hi
 obtain⟨r',p1,p2⟩:=An3 h r1 (.fl 0) rfl
 rw[r2,Ago hm (by rw[h.len];exact hi) p1]
 exact Agv p2
def A34 (l:List Tk) (i:Nat) (q:List Nd×Int×Int×Int):PR:=bif q.2.2.1==0 then(bif N2 q.1 then .ok q.1 q.2.1.toNat else .bad 5 (Ba l i)) else .bad q.2.2.1 q.2.2.2
theorem Aek {l:List Tk} {i:Nat} {r:PR} (hr:PE l (.fl 0) 0 i r) (hi:i≤l.length):Ke l i r=A34 l i (I8 l i r):=by
 cases r with
 | bad e a =>
  have he:e≠0:=I3 hr hi
  show PR.bad e a=bif e==0 then _ else PR.bad e a
  rw[Cw.2 he];rfl
 | ok x tu =>
  have e1:I8 l i (.ok x tu)=if 30 < (Es x (0,[])).1 then([],0,7,Ba l i) else if 200 < x.length then([],0,2,Ba l i) else(x,(tu:Int),0,0):=rfl
  have e2:Ke l i (.ok x tu)=if 30 < (Es x (0,[])).1 then .bad 7 (Ba l i) else if 200 < x.length then .bad 2 (Ba l i) else if N2 x=true then .ok x tu else .bad 5 (Ba l i):=rfl
  rw[e1,e2]
  by_cases c1:30 < (Es x (0,[])).1
  ·rw[if_pos c1,if_pos c1];rfl
  ·rw[if_neg c1,if_neg c1]
   by_cases c2:200 < x.length
   ·rw[if_pos c2,if_pos c2];rfl
   ·rw[if_neg c2,if_neg c2]
    unfold A34
    cases hp:N2 x<;>simp[hp]
theorem Ak0 {l:List Tk} {T:Nat} (hl:Toks T l) {i:Nat} (hi:i≤l.length):exQ l i=A34 l i (peQ l i):=by
 obtain⟨r,r1,r2⟩:=Wl hl hi
 rw[r2,Aek r1 hi,Ago hl hi r1]
theorem Akl {l m:List Tk} {T T':Nat} (h:Cor l m) (hl:Toks T l) (hm:Toks T' m) {i:Nat} (hi:i≤l.length):LkR (exQ l i) (exQ m i):=by
 rw[Ak0 hl hi,Ak0 hm (by rw[h.len];exact hi)]
 obtain⟨q1,q2,q3⟩:=Abw h hl hm hi
 unfold A34
 rw[q3,q2,Am1 q1]
 cases (peQ l i).2.2.1==0
 ·rfl
 ·cases N2 (peQ l i).1
  ·rfl
  ·exact⟨rfl,q1⟩
def LkF (s t:Fs):Prop:=t.reg=s.reg∧t.loc=s.loc∧LkN s.e t.e∧LkN s.f t.f∧t.ne=s.ne
def Yh:FR→FR→Prop
 | .ok s i,.ok t j=>j=i∧LkF s t
 | .bad e _,.bad f _=>f=e
 | _,_=>False
theorem Mv {c:Prop} [Decidable c] {a b a' b':FR} (h1:Yh a a') (h2:Yh b b'):Yh (if c then a else b) (if c then a' else b'):=by
 by_cases h:c
 ·rw[if_pos h,if_pos h];exact h1
 ·rw[if_neg h,if_neg h];exact h2
theorem Ah0 {l m:List Tk} {T T':Nat} (h:Cor l m) (hl:Toks T l) (hm:Toks T' m) {i:Nat} (hi:i≤l.length) (c:UInt8) {s t:Fs} (hs:LkF s t):Yh (Fg l (exQ l) c i s) (Fg m (exQ m) c i t):=by
 have hx:=Akl h hl hm hi
 obtain⟨s1,s2,s3,s4,s5⟩:=hs
 have bad:Yh (.bad (El l i) (Ba l i)) (.bad (El m i) (Ba m i)):=h.er i
 unfold Fg
 rw[h.nm,h.sg,h.sg,h.sg,h.tx]
 refine Mv (Mv ⟨rfl,rfl,s2,s3,s4,s5⟩ bad) (Mv (Mv ⟨rfl,s1,rfl,s3,s4,s5⟩ bad) (Mv ?_ (Mv ?_ (Mv (Mv ⟨rfl,s1,s2,s3,s4,rfl⟩ (Mv ⟨rfl,s1,s2,s3,s4,rfl⟩ bad)) (Mv ⟨rfl,s1,s2,s3,s4,s5⟩ bad)))))
 ·revert hx
  cases exQ l i with
  | ok x tu=>intro hx;obtain⟨y,e,h2⟩:=T5 hx;rw[e];exact⟨rfl,s1,s2,h2,s4,s5⟩
  | bad e a=>intro hx;obtain⟨b,e⟩:=Ua hx;rw[e];rfl
 ·revert hx
  cases exQ l i with
  | ok x tu=>intro hx;obtain⟨y,e,h2⟩:=T5 hx;rw[e];exact⟨rfl,s1,s2,s3,h2,s5⟩
  | bad e a=>intro hx;obtain⟨b,e⟩:=Ua hx;rw[e];rfl
theorem A8y {l m:List Tk} {T T':Nat} (h:Cor l m) (hl:Toks T l) (hm:Toks T' m):∀ (cs:List UInt8) (i:Nat) (s t:Fs),i≤l.length→LkF s t→Yh (Gd l (exQ l) cs i s) (Gd m (exQ m) cs i t)
 | [],i,s,t,hi,hs=>⟨rfl,hs⟩
 | c :: cs,i,s,t,hi,hs=>by
  have h1:=U2 hl (c:=c) (s:=s) hi
  have h2:=Ah0 h hl hm hi c hs
  rw[Gd,Gd]
  revert h1 h2
  cases Fg l (exQ l) c i s with
  | bad e a =>
   intro _ h2
   cases hy:Fg m (exQ m) c i t with
   | bad f b=>rw[hy] at h2;exact h2
   | ok t' j=>rw[hy] at h2;exact h2.elim
  | ok s' j =>
   intro h1 h2
   cases hy:Fg m (exQ m) c i t with
   | bad f b=>rw[hy] at h2;exact h2.elim
   | ok t' j' =>
    rw[hy] at h2
    obtain⟨e,h3⟩:=h2
    subst e
    exact A8y h hl hm cs _ _ _ h1.2 h3
def LkS (x y:List St):Prop:=y.map zS=x.map zS
def Aa5:SR→SR→Prop
 | .ok x tu,.ok y tv=>tv=tu∧LkS x y
 | .bad e _,.bad f _=>f=e
 | _,_=>False
theorem S4 {x:List St} {tu:Nat} {r:SR} (h:Aa5 (.ok x tu) r):∃ y,r=.ok y tu∧LkS x y:=by
 cases r with
 | ok y tv=>obtain⟨rfl,h⟩:=h;exact⟨y,rfl,h⟩
 | bad e a=>exact h.elim
theorem Wq {e a:Int} {r:SR} (h:Aa5 (.bad e a) r):∃ b,r=.bad e b:=by
 cases r with
 | ok y tv=>exact h.elim
 | bad f b=>have h:f=e:=h;subst h;exact⟨b,rfl⟩
theorem A26 {p q:St} {x y:List St} (h:zS q=zS p) (h2:LkS x y):LkS (p :: x) (q :: y):=by
 unfold LkS at h2 ⊢
 rw[List.map_cons,List.map_cons,h,h2]
theorem Abh {x y p q:List St} (h:LkS x p) (h2:LkS y q):LkS (x++y) (p++q):=by
 unfold LkS at h h2 ⊢
 rw[List.map_append,List.map_append,h,h2]
theorem Zz {x y:List St} {r r':SR} (h:LkS x y) (h2:Aa5 r r'):Aa5 (P9 x r) (P9 y r'):=by
 cases r with
 | ok z tu=>obtain⟨w,rfl,h3⟩:=S4 h2;exact⟨rfl,Abh h h3⟩
 | bad e a=>obtain⟨b,rfl⟩:=Wq h2;rfl
theorem Ae0 {k:Int} {s t:Fs} {b c:Nat} {a a':Int} (h:LkF s t):zS (mkS k t b c a')=zS (mkS k s b c a):=by
 obtain⟨h1,h2,h3,h4,h5⟩:=h
 unfold LkN at h3 h4
 simp only[zS,mkS,h1,h2,h3,h4,h5]
theorem Zv {s:Fs} {j:Nat} {r:FR} (h:Yh (.ok s j) r):∃ t,r=.ok t j∧LkF s t:=by
 cases r with
 | ok t j'=>obtain⟨rfl,h⟩:=h;exact⟨t,rfl,h⟩
 | bad e a=>exact h.elim
theorem Alf {e a:Int} {r:FR} (h:Yh (.bad e a) r):∃ b,r=.bad e b:=by
 cases r with
 | ok t j'=>exact h.elim
 | bad f b=>have h:f=e:=h;subst h;exact⟨b,rfl⟩
theorem Amc:LkF fs0 fs0:=⟨rfl,rfl,rfl,rfl,rfl⟩
theorem Am7 {l m:List Tk} {T T':Nat} (h:Cor l m) (hl:Toks T l) (hm:Toks T' m) {md:Bool} {inn i:Nat} {r:SR} (hr:SE l md inn i r):i≤l.length→∃ r',SE m md inn i r'∧Aa5 r r':=by
 have run:∀ {i:Nat},Aq l i≠0→Yh (Gd l (exQ l) (Cr (Aq l i)) (i+1) fs0) (Gd m (exQ m) (Cr (Aq m i)) (i+1) fs0):=fun {i} hk=>by
  rw[h.kd];exact A8y h hl hm _ _ _ _ (C3 hk) Amc
 induction hr with
 | stop h1=>intro hi;exact⟨_,.stop (by rw[h.len,h.sg];exact h1),rfl,rfl⟩
 | no h1 h2 h3=>intro hi;exact⟨_,.no (by rw[h.len];exact h1) (by rw[h.sg];exact h2) (by rw[h.kd];exact h3),rfl⟩
 | fbad h1 h2 =>
  intro hi
  have hr:=run h1
  rw[h2] at hr
  obtain⟨b,e⟩:=Alf hr
  exact⟨_,.fbad (by rw[h.kd];exact h1) e,rfl⟩
 | simple h1 h2 h3 h4 ih =>
  intro hi
  have hr:=run h1
  have hle:=E2 hl (C3 h1) h3
  rw[h3] at hr
  obtain⟨t,e,ht⟩:=Zv hr
  obtain⟨r',q1,q2⟩:=ih hle.2
  refine⟨_,.simple (by rw[h.kd];exact h1) (by rw[h.kd];exact h2) e q1,?_⟩
  rw[h.kd];exact Zz (A26 (Ae0 ht) rfl) q2
 | bbad h1 h2 h3 h4 ih =>
  intro hi
  have hr:=run h1
  have hle:=E2 hl (C3 h1) h3
  rw[h3] at hr
  obtain⟨t,e,ht⟩:=Zv hr
  obtain⟨r',q1,q2⟩:=ih hle.2
  obtain⟨b,rfl⟩:=Wq q2
  exact⟨_,.bbad (by rw[h.kd];exact h1) (by rw[h.kd];exact h2) e q1,rfl⟩
 | blk h1 h2 h3 h4 h5 h6 ih1 ih2 =>
  intro hi
  have hr:=run h1
  have hle:=E2 hl (C3 h1) h3
  have hse:=If hl h4 hle.2
  simp only[J3,if_true] at hse
  rw[h3] at hr
  obtain⟨t,e,ht⟩:=Zv hr
  obtain⟨r',q1,q2⟩:=ih1 hle.2
  obtain⟨b',rfl,q3⟩:=S4 q2
  obtain⟨r2,p1,p2⟩:=ih2 hse.2.1
  refine⟨_,.blk (by rw[h.kd];exact h1) (by rw[h.kd];exact h2) e q1 (by rw[h.kd,h.el];exact h5) p1,?_⟩
  rw[h.kd,show b'.length=_ from Ms q3];exact Zz (A26 (Ae0 ht) q3) p2
 | @ebad _ i _ _ _ _ _ _ h1 h3 h4 h5 h6 ih1 ih2 =>
  intro hi
  have hk:Aq l i≠0:=by rw[h1];decide
  have hr:=run hk
  have hle:=E2 hl (C3 hk) h3
  rw[h3] at hr
  obtain⟨t,e,ht⟩:=Zv hr
  obtain⟨r',q1,q2⟩:=ih1 hle.2
  obtain⟨b',rfl,q3⟩:=S4 q2
  obtain⟨r2,p1,p2⟩:=ih2 (Hr h5)
  obtain⟨b,rfl⟩:=Wq p2
  exact⟨_,.ebad (by rw[h.kd];exact h1) e q1 (by rw[h.el];exact h5) p1,rfl⟩
 | @els _ i _ _ _ _ _ _ _ h1 h3 h4 h5 h6 h7 ih1 ih2 ih3 =>
  intro hi
  have hk:Aq l i≠0:=by rw[h1];decide
  have hr:=run hk
  have hle:=E2 hl (C3 hk) h3
  have hse:=If hl h6 (Hr h5)
  simp only[J3,if_true] at hse
  rw[h3] at hr
  obtain⟨t,e,ht⟩:=Zv hr
  obtain⟨r',q1,q2⟩:=ih1 hle.2
  obtain⟨b',rfl,q3⟩:=S4 q2
  obtain⟨r2,p1,p2⟩:=ih2 (Hr h5)
  obtain⟨c',rfl,p3⟩:=S4 p2
  obtain⟨r3,o1,o2⟩:=ih3 hse.2.1
  refine⟨_,.els (by rw[h.kd];exact h1) e q1 (by rw[h.el];exact h5) p1 o1,?_⟩
  rw[h.kd,show b'.length=_ from Ms q3,show c'.length=_ from Ms p3];exact Zz (A26 (Ae0 ht) (Abh q3 p3)) o2
 | nob h1=>intro hi;exact⟨_,.nob (by rw[h.sg];exact h1),h.er _⟩
 | deep h1 h2=>intro hi;exact⟨_,.deep (by rw[h.sg];exact h1) h2,rfl⟩
 | sbad h1 h2 h3 ih =>
  intro hi
  obtain⟨r',q1,q2⟩:=ih (De h1)
  obtain⟨b,rfl⟩:=Wq q2
  exact⟨_,.sbad (by rw[h.sg];exact h1) h2 q1,rfl⟩
 | close h1 h2 h3 h4 ih =>
  intro hi
  obtain⟨r',q1,q2⟩:=ih (De h1)
  obtain⟨b',rfl,q3⟩:=S4 q2
  exact⟨_,.close (by rw[h.sg];exact h1) h2 q1 (by rw[h.sg];exact h4),rfl,q3⟩
 | opn h1 h2 h3 h4 ih =>
  intro hi
  obtain⟨r',q1,q2⟩:=ih (De h1)
  obtain⟨b',rfl,q3⟩:=S4 q2
  exact⟨_,.opn (by rw[h.sg];exact h1) h2 q1 (by rw[h.sg];exact h4),h.er _⟩
theorem Al0 {l m:List Tk} {T T':Nat} (h:Cor l m) (hl:Toks T l) (hm:Toks T' m) {i:Nat} (hi:i≤l.length):LkS (seQ l i).1 (seQ m i).1∧(seQ m i).2.1=(seQ l i).2.1∧(seQ m i).2.2.1=(seQ l i).2.2.1:=by
 obtain⟨r,r1,r2⟩:=A0j hl hi
 obtain⟨r',p1,p2⟩:=Am7 h hl hm r1 hi
 rw[r2,An1 hm (by rw[h.len];exact hi) p1]
 cases r with
 | bad e a=>obtain⟨b,rfl⟩:=Wq p2;exact⟨rfl,rfl,rfl⟩
 | ok x tu =>
  obtain⟨y,rfl,h2⟩:=S4 p2
  have hy:y.length=x.length:=Ms h2
  simp only[S5]
  rw[hy]
  split
  ·exact⟨rfl,rfl,rfl⟩
  ·exact⟨h2,rfl,rfl⟩
def LkP (s t:Ps):Prop:=t.1=s.1∧t.2.1=s.2.1
section
variable {l m:List Tk} {T T':Nat}
theorem Z4 (h:Cor l m) {s t:Ps} (hs:LkP s t):LkP (wr l s) (wr m t):=by
 obtain⟨h1,h2⟩:=hs
 unfold wr LkP
 rw[h2,h1,h.er]
 cases s.2.1==0<;>exact⟨by first | rfl | exact h1,by first | rfl | exact h2⟩
theorem Pr (h:Cor l m) (w:List UInt8) {s t:Ps} (hs:LkP s t):LkP (sgF w l s) (sgF w m t):=by
 have hw:=Z4 h hs
 obtain⟨h1,h2⟩:=hs
 unfold sgF
 rw[h2,h1,h.sg]
 cases s.2.1==0&&Bl l s.1 w
 ·exact hw
 ·exact⟨rfl,h2⟩
theorem A0v (h:Cor l m) {s t:Ps} (hs:LkP s t):(nmF m t).1=(nmF l s).1∧LkP (nmF l s).2 (nmF m t).2:=by
 have hw:=Z4 h hs
 obtain⟨h1,h2⟩:=hs
 unfold nmF
 rw[h2,h1,h.nm,h.tx]
 cases s.2.1==0&&isN l s.1
 ·exact⟨rfl,hw⟩
 ·exact⟨rfl,rfl,h2⟩
theorem Ac1 (h:Cor l m) {s t:Ps} (hs:LkP s t):(nuF m t).1=(nuF l s).1∧LkP (nuF l s).2 (nuF m t).2:=by
 have hw:=Z4 h hs
 obtain⟨h1,h2⟩:=hs
 unfold nuF
 rw[h2,h1,h.nk,h.nu]
 cases s.2.1==0&&isK l s.1
 ·exact⟨rfl,hw⟩
 ·exact⟨rfl,rfl,h2⟩
theorem Pk (h:Cor l m) (w:List UInt8) {s t:Ps} (hs:LkP s t):C6 w m t=C6 w l s:=by
 unfold C6;rw[hs.2,hs.1,h.kw]
theorem A71 {s t:Ps} (hs:LkP s t):LkP (s.1+1,s.2) (t.1+1,t.2):=⟨by show t.1+1=s.1+1;rw[hs.1],hs.2⟩
theorem Aje (h:Cor l m) {s t:Ps} (hs:LkP s t):zV (M4 m t).1=zV (M4 l s).1∧LkP (M4 l s).2 (M4 m t).2:=by
 obtain⟨a1,a2⟩:=A0v h (A71 hs)
 obtain⟨b1,b2⟩:=Ac1 h (Pr h [61] a2)
 unfold M4 zV
 dsimp only
 rw[a1,b1]
 exact⟨rfl,Pr h [59] b2⟩
theorem A61 (h:Cor l m):∀ (k:Nat) (s t:Ps) (a b:List Va),LkP s t→b.map zV=a.map zV→(Eu m k t b).1.map zV=(Eu l k s a).1.map zV∧LkP (Eu l k s a).2 (Eu m k t b).2
 | 0,s,t,a,b,hs,hab=>⟨hab,hs⟩
 | k+1,s,t,a,b,hs,hab=>by
  rw[Eu,Eu,Pk h _ hs]
  cases C6 [108,111,99] l s
  ·exact⟨hab,hs⟩
  ·obtain⟨v1,v2⟩:=Aje h hs
   exact A61 h k _ _ _ _ v2 (by rw[List.map_append,List.map_append,hab,List.map_singleton,List.map_singleton,v1])
theorem A5y (h:Cor l m):∀ (k:Nat) (s t:Ps) (a:List (List UInt8)),LkP s t→(Dr m k t a).1=(Dr l k s a).1∧LkP (Dr l k s a).2 (Dr m k t a).2
 | 0,s,t,a,hs=>⟨rfl,hs⟩
 | k+1,s,t,a,hs=>by
  rw[Dr,Dr,hs.2,hs.1,h.sg]
  cases s.2.1==0&&Bl l s.1 [44]
  ·exact⟨rfl,hs⟩
  ·obtain⟨v1,v2⟩:=A0v h (A71 hs)
   rw[hs.1] at v1 v2
   rw[Ac,Ac,v1]
   exact A5y h k _ _ _ v2
theorem Ag5 (h:Cor l m) {s t:Ps} (hs:LkP s t):(G3 m t).1=(G3 l s).1∧LkP (G3 l s).2 (G3 m t).2:=by
 unfold G3
 rw[Pk h _ hs,h.len]
 cases C6 [114,101,103] l s
 ·exact⟨rfl,hs⟩
 ·obtain⟨v1,v2⟩:=A0v h (A71 hs)
  obtain⟨r1,r2⟩:=A5y h (l.length+2) _ _ [(nmF l (s.1+1,s.2)).1] v2
  rw[Ac,Ac,v1]
  exact⟨r1,Pr h [59] r2⟩
theorem Abl {i i':Nat} {s t:Int×Int} {e e' a a':Int} (hi:i'=i) (h:t.1=s.1) (he:e'=e):LkP (i,faF s e a) (i',faF t e' a'):=by
 subst hi;subst he
 unfold faF LkP
 rw[h]
 cases s.1==0<;>cases e' != 0<;>exact⟨rfl,by first | rfl | exact h⟩
theorem Agb (h:Cor l m) (hl:Toks T l) (hm:Toks T' m) {s t:Ps} (hs:LkP s t) (hok:Cd l s):LkS (Iv l s).1 (Iv m t).1∧LkP (Iv l s).2 (Iv m t).2:=by
 obtain⟨q1,q2,q3⟩:=Al0 h hl hm hok
 unfold Iv
 rw[hs.2,hs.1]
 cases s.2.1==0
 ·exact⟨rfl,Pr h [125] hs⟩
 ·exact⟨q1,Pr h [125] (Abl (by rw[q2]) hs.2 q3)⟩
theorem Ail (h:Cor l m) (hl:Toks T l) (hm:Toks T' m) {s t:Ps} (hs:LkP s t) (h1:s.1 < l.length):zT (Jq m t).1=zT (Jq l s).1∧LkP (Jq l s).2 (Jq m t).2:=by
 obtain⟨a1,a2⟩:=A0v h (A71 hs)
 have ok:Cd l (sgF [123] l (nmF l (s.1+1,s.2)).2):=Ln (Ox (show Cd l (s.1+1,s.2) from h1))
 obtain⟨b1,b2⟩:=Ag5 h (Pr h [123] a2)
 obtain⟨c1,c2⟩:=Agb h hl hm b2 (A11 hl ok).1
 unfold Jq zT
 dsimp only
 unfold LkS at c1
 rw[a1,b1,c1]
 exact⟨rfl,c2⟩
theorem A6a (h:Cor l m) (hl:Toks T l) (hm:Toks T' m):∀ (k:Nat) (s t:Ps) (a b:List Th),LkP s t→b.map zT=a.map zT→(G0 m k t b).1.map zT=(G0 l k s a).1.map zT∧LkP (G0 l k s a).2 (G0 m k t b).2
 | 0,s,t,a,b,hs,hab=>⟨hab,hs⟩
 | k+1,s,t,a,b,hs,hab=>by
  rw[G0,G0,Pk h _ hs]
  cases hc:C6 [116,104,114,101,97,100] l s
  ·exact⟨hab,hs⟩
  ·obtain⟨v1,v2⟩:=Ail h hl hm hs (Ix hc).1
   exact A6a h hl hm k _ _ _ _ v2 (by rw[List.map_append,List.map_append,hab,List.map_singleton,List.map_singleton,v1])
theorem Agx (h:Cor l m) {s t:Ps} (hs:LkP s t):Gs m t=Gs l s:=by
 unfold Gs;rw[Pk h _ hs,Pk h _ hs,Pk h _ hs]
theorem Aj4 {x y:List Nd} (h:LkN x y):(y.map Gt).map zN=(x.map Gt).map zN:=by
 have e:∀ z:Nd,zN (Gt z)=Gt (zN z):=fun z=>by
  unfold Gt
  by_cases c:z.Bm=2
  ·rw[if_pos c,if_pos (show(zN z).Bm=2 from c)];rfl
  ·rw[if_neg c,if_neg (show ¬ (zN z).Bm=2 from c)]
 have f:∀ q:List Nd,(q.map Gt).map zN=(q.map zN).map Gt:=fun q=>by
  rw[List.map_map,List.map_map];exact List.map_congr_left fun z _=>e z
 unfold LkN at h
 rw[f,f,h]
theorem Ale (h:Cor l m) (hl:Toks T l) (hm:Toks T' m) (k:Int) {s t:Ps} (hs:LkP s t) (h1:s.1 < l.length):zC (clF k m t).1=zC (clF k l s).1∧LkP (clF k l s).2 (clF k m t).2:=by
 obtain⟨q1,q2,q3⟩:=Abw h hl hm (show s.1+1≤l.length from h1)
 have hf:LkP (s.1+1,faF s.2 (peQ l (s.1+1)).2.2.1 (peQ l (s.1+1)).2.2.2) (s.1+1,faF t.2 (peQ m (s.1+1)).2.2.1 (peQ m (s.1+1)).2.2.2):=Abl rfl hs.2 q3
 have hf2:(faF t.2 (peQ m (s.1+1)).2.2.1 (peQ m (s.1+1)).2.2.2).1=(faF s.2 (peQ l (s.1+1)).2.2.1 (peQ l (s.1+1)).2.2.2).1:=hf.2
 unfold clF zC
 dsimp only
 rw[hs.1,Aj4 q1,hf2,q2]
 exact⟨rfl,Pr h [59] ⟨rfl,hf2⟩⟩
theorem A88 (h:Cor l m) (hl:Toks T l) (hm:Toks T' m):∀ (k:Nat) (s t:Ps) (a b:List Cl),LkP s t→b.map zC=a.map zC→(Hz m k t b).1.map zC=(Hz l k s a).1.map zC∧LkP (Hz l k s a).2 (Hz m k t b).2
 | 0,s,t,a,b,hs,hab=>⟨hab,hs⟩
 | k+1,s,t,a,b,hs,hab=>by
  rw[Hz,Hz,Agx h hs]
  by_cases hc:0 < Gs l s
  ·obtain⟨v1,v2⟩:=Ale h hl hm (Gs l s) hs (A0y hc).1
   rw[Ah hc,Ah hc]
   exact A88 h hl hm k _ _ _ _ v2 (by rw[List.map_append,List.map_append,hab,List.map_singleton,List.map_singleton,v1])
  ·rw[B9 hc,B9 hc];exact⟨hab,hs⟩
theorem Adp (h:Cor l m):(Gl m).1=(Gl l).1∧LkP (Gl l).2 (Gl m).2:=by
 have h0:LkP ((0,0,0):Ps) (0,0,0):=⟨rfl,rfl⟩
 have h1:LkP (bif C6 [109,111,100] l (0,0,0) then((1,0,0):Ps) else wr l (0,0,0)) (bif C6 [109,111,100] m (0,0,0) then((1,0,0):Ps) else wr m (0,0,0)):=by
  rw[Pk h _ h0]
  cases C6 [109,111,100] l (0,0,0)
  ·exact Z4 h h0
  ·exact⟨rfl,rfl⟩
 obtain⟨a1,a2⟩:=Ac1 h h1
 unfold Gl
 exact⟨a1,Pr h [59] a2⟩
theorem Afu (h:Cor l m) {s t:Ps} (hs:LkP s t):LkP (M5 l s) (M5 m t):=by
 unfold M5
 rw[hs.1,h.len]
 cases decide (s.1 < l.length)
 ·exact hs
 ·exact Z4 h hs
theorem Ag2 (h:Cor l m) (hl:Toks T l) (hm:Toks T' m):zP (Na m).1=zP (Na l).1∧(Na m).2.1=(Na l).2.1:=by
 obtain⟨a1,a2⟩:=Adp h
 obtain⟨b1,b2⟩:=A61 h (l.length+2) _ _ [] [] a2 rfl
 obtain⟨c1,c2⟩:=A6a h hl hm (l.length+2) _ _ [] [] b2 rfl
 obtain⟨d1,d2⟩:=A88 h hl hm (l.length+2) _ _ [] [] c2 rfl
 have e:=Afu h d2
 unfold Na
 dsimp only
 rw[h.len,e.2]
 cases (M5 l (Hz l (l.length+2) (G0 l (l.length+2) (Eu l (l.length+2) (Gl l).2 []).2 []).2 []).2).2.1 != 0 with
 | true=>exact⟨rfl,e.2⟩
 | false =>
  refine⟨?_,rfl⟩
  unfold zP
  dsimp only [cond_false]
  rw[a1,b1,c1,d1]
end
def Ky:List UInt8:=[32,35,32,114,101,109,97,114,107,59,32,36,10,9]
def F6:List UInt8:=[10,35,32,101,110,100]
theorem Al5 (r:List UInt8):Cg false (Ky++r)=14+Cg false r:=by
 simp[Ky,Cg,Lo]
 omega
theorem Al4 (b:Bool):Cg b F6=6:=by cases b<;>decide
theorem Wr:∀ (l:List UInt8) (b:Bool),Cg b l=l.length→Cg b (l++F6)=l.length+6
 | [],b,_=>Al4 b
 | c :: t,true,h=>by
  rw[List.cons_append,Cg]
  rw[Cg] at h
  by_cases hc:c.toNat=10
  ·rw[if_pos hc] at h ⊢
   rw[Wr t false (by simp at h;omega)];simp;omega
  ·rw[if_neg hc] at h ⊢
   rw[Wr t true (by simp at h;omega)];simp;omega
 | c :: t,false,h=>by
  rw[List.cons_append,Cg]
  rw[Cg] at h
  by_cases hb:Lo c.toNat=true
  ·rw[if_pos hb] at h ⊢
   rw[Wr t false (by simp at h;omega)];simp;omega
  ·rw[if_neg hb] at h ⊢
   by_cases hc:c.toNat=35
   ·rw[if_pos hc] at h ⊢
    rw[Wr t true (by simp at h;omega)];simp;omega
   ·rw[if_neg hc] at h;simp at h
theorem Ty:∀ (l:List UInt8) (b:Bool) (x:List UInt8),Cg b l < l.length→Cg b (l++x)=Cg b l
 | [],b,x,h=>by simp at h
 | c :: t,true,x,h=>by
  rw[List.cons_append,Cg,Cg]
  rw[Cg] at h
  by_cases hc:c.toNat=10
  ·rw[if_pos hc] at h ⊢
   rw[if_pos hc,Ty t false x (by simp at h;omega)]
  ·rw[if_neg hc] at h ⊢
   rw[if_neg hc,Ty t true x (by simp at h;omega)]
 | c :: t,false,x,h=>by
  rw[List.cons_append,Cg,Cg]
  rw[Cg] at h
  by_cases hb:Lo c.toNat=true
  ·rw[if_pos hb] at h ⊢
   rw[if_pos hb,Ty t false x (by simp at h;omega)]
  ·rw[if_neg hb] at h ⊢
   rw[if_neg hb]
   by_cases hc:c.toNat=35
   ·rw[if_pos hc] at h ⊢
    rw[if_pos hc,Ty t true x (by simp at h;omega)]
   ·rw[if_neg hc,if_neg hc]
theorem A4w (p:Int→Bool) (hp:p 10=false):∀ l:List UInt8,Cn p (l++F6)=Cn p l
 | []=>by rw[List.nil_append,F6,Kq,show p ((10:UInt8).toNat:Int)=false from hp];rfl
 | c :: t=>by rw[List.cons_append,Kq,Kq,A4w p hp t]
theorem Ai8 (c:UInt8) (t:List UInt8):La ((c :: t)++F6)=La (c :: t):=by
 cases t with
 | cons d t=>rfl
 | nil =>
  have h1:Np.contains (([c]++F6).take 2)=false:=by
   show Np.contains [c,10]=false
   simp[Np]
  have h2:Np.contains (([c]:List UInt8).take 2)=false:=by simp[Np]
  unfold La
  rw[h1,h2];rfl
theorem Ak6 (c:UInt8) (t:List UInt8):N0 ((c :: t)++F6)=N0 (c :: t):=by
 have h1:=A4w M3 (by decide) (c :: t)
 have h2:=A4w Ct (by decide) (c :: t)
 have h3:=Ai8 c t
 have h4:((c :: t)++F6).take (Cn Ct (c :: t))=(c :: t).take (Cn Ct (c :: t)):=List.take_append_of_le_length (Si _ _)
 rw[List.cons_append] at *
 simp only[N0]
 rw[h1,h2,h3,h4]
theorem Alh:∀ (f f':Nat) (l:List UInt8) (p p':Nat) (acc acc':List Tok),l.length < f→l.length < f'→acc'.map Tok.core=acc.map Tok.core →
 (Ec f' (l++F6) p' acc').err=(Ec f l p acc).err∧(Ec f' (l++F6) p' acc').toks.map Tok.core=(Ec f l p acc).toks.map Tok.core:=by
 intro f
 induction f with
 | zero=>intro f' l p p' acc acc' h;omega
 | succ f ih =>
  intro f' l p p' acc acc' hf hf' ha
  obtain⟨f',rfl⟩:∃ j,f'=j+1:=⟨f' - 1,by omega⟩
  have hg:=A0p false l
  rw[Ec,Ec]
  by_cases c:Cg false l=l.length
  ·rw[Wr l false c,c,List.drop_length,List.drop_eq_nil_of_le (by simp[F6])]
   exact⟨rfl,ha⟩
  ·have hlt:Cg false l < l.length:=by omega
   rw[Ty l false F6 hlt]
   obtain⟨ch,t,hd⟩:∃ ch t,l.drop (Cg false l)=ch :: t:=⟨_,_,List.drop_eq_getElem_cons hlt⟩
   have hd2:(l++F6).drop (Cg false l)=(ch :: t)++F6:=by rw[List.drop_append_of_le_length (by omega),hd]
   have hlen:(ch :: t).length=l.length - Cg false l:=by rw[← hd];simp
   have h1:=Ak6 ch t
   rw[hd,hd2]
   rw[List.cons_append] at h1 ⊢
   dsimp only
   rw[h1]
   cases ho:N0 (ch :: t) with
   | err e=>exact⟨rfl,rfl⟩
   | tok k n v =>
    obtain⟨n1,n2⟩:=Rk ho
    dsimp only
    have e1:(ch :: (t++F6)).drop n=(ch :: t).drop n++F6:=by rw[← List.cons_append,List.drop_append_of_le_length n2]
    have e2:(ch :: (t++F6)).take n=(ch :: t).take n:=by rw[← List.cons_append,List.take_append_of_le_length n2]
    rw[e1,e2]
    refine ih f' _ _ _ _ _ ?_ ?_ ?_
    ·rw[List.length_drop];omega
    ·rw[List.length_drop];omega
    ·rw[List.map_append,List.map_append,ha];rfl
theorem Aij {s:List UInt8} (hs:s.length≤19000):(Hw ((Ky++s)++F6)).err=(Hw s).err∧(Hw ((Ky++s)++F6)).toks.map Tok.core=(Hw s).toks.map Tok.core:=by
 have hl:((Ky++s)++F6).length=s.length+20:=by simp[Ky,F6]
 unfold Hw
 rw[if_neg (by omega),if_neg (by omega)]
 have hd:((Ky++s)++F6).drop 14=s++F6:=by rw[List.append_assoc];rfl
 have e:Ec (((Ky++s)++F6).length+1) ((Ky++s)++F6) 0 []=L6 ((Ky++s)++F6) 14 []:=by
  have:=A63 ((Ky++s)++F6) 0 [] 14 (by omega) (by rw[List.drop_zero,Nat.zero_add,hd,List.append_assoc,Al5])
  rw[Nat.zero_add] at this
  exact this
 rw[e]
 unfold L6
 rw[hd]
 exact Alh (s.length+1) (((Ky++s)++F6).length+1) s 0 14 [] [] (by omega) (by omega) rfl
theorem Af9 {s:List UInt8} (hs:s.length≤19000):zP (Im ((Ky++s)++F6)).1=zP (Im s).1∧(Im ((Ky++s)++F6)).2.1=(Im s).2.1:=by
 obtain⟨h1,h2⟩:=Aij hs
 have hl:((Ky++s)++F6).length=s.length+20:=by simp[Ky,F6]
 have hc:Cor (R1 s) (R1 ((Ky++s)++F6)):=Amj (by
  have e:∀ q:List Tok,(q.map tkS).map tkc=q.map Tok.core:=fun q=>by rw[List.map_map];rfl
  unfold R1
  rw[e,e,h2])
 unfold Im
 rw[h1]
 cases (Hw s).err != 0
 ·exact Ag2 hc (A0r s (by omega)) (A0r _ (by omega))
 ·exact⟨rfl,rfl⟩
theorem A94 (k4:K2 500000=some true) (s:List UInt8):I5 500001 s=some true:=by
 rw[I5]
 by_cases c:3000 < ((s.length:Nat):Int)
 ·rw[Ah c,k4];rfl
 ·have hb:Xd (Im s).1:=by
   rcases Ab6 (s:=s) (by omega) with ⟨_,h⟩ | ⟨_,_,h,_⟩
   ·rw[h];exact Ai9
   ·exact h
  obtain⟨r1,r2⟩:=Af9 (s:=s) (by omega)
  have hl:((Ky++s)++F6).length=s.length+20:=by simp[Ky,F6]
  have hp:=Abt (s:=(Ky++s)++F6) (n:=500000) (by omega) (by omega)
  have hl':((([32,35,32,114,101,109,97,114,107,59,32,36,10,9]:List UInt8)++s)).length=s.length+14:=by simp
  rw[B9 c,Abt (s:=s) (by omega) (by omega),A4,Ah (by simp;omega),Ah (by rw[hl'];simp;omega)]
  have hp:Fn 500000 ((([32,35,32,114,101,109,97,114,107,59,32,36,10,9]:List UInt8)++s)++([10,35,32,101,110,100]:List UInt8))=some (Im ((Ky++s)++F6)):=hp
  rw[hp,A4,r2,beq_self_eq_true,Ac,Aku 500000 false _ _ (Amx r1.symm) (Ahl hb) (by omega),A4,Ac,k4];rfl
theorem Aac (s:List UInt8):I5 500001 s=some true:=A94 Al7 s
end Go.Proofs.Ytnijlelbihnamaa
end
