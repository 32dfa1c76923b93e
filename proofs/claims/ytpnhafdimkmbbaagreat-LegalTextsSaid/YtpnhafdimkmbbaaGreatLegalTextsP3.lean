/- Parts of the proofs: what they lean on. Conditions: none. -/
import Derived.Test.YtpnhafdimkmbbaaGreatLegalTextsP2
section
namespace Go.Proofs.YtpnhafdimkmbbaaGreat
set_option linter.unusedVariables false
set_option linter.unusedSimpArgs false
set_option maxRecDepth 10000
def Lz (s:List UInt8):List (List UInt8)→Nat→Int
 | [],_=> -1
 | x :: l,i=>bif x==s then(i:Int) else Lz s l (i+1)
theorem Afr (s:List UInt8):∀ (l:List (List UInt8)) (i:Nat),Lz s l i= -1∨(i:Int)≤Lz s l i
 | [],i=>.inl rfl
 | x :: l,i=>by
  rw[Lz]
  cases x==s with
  | true=>exact .inr (Int.le_refl _)
  | false=>rcases Afr s l (i+1) with h | h
           ·exact .inl h
           ·rw[cond_false];right;omega
theorem A9a (s:List UInt8):∀ (l:List (List UInt8)) (b i:Nat),s ∈ l→(Lz s l b < (b+i:Nat)↔s ∈ l.take i)
 | [],b,i,h=>by cases h
 | x :: l,b,i,h=>by
  rw[Lz]
  cases hx:x==s with
  | true =>
   rw[beq_iff_eq] at hx
   rw[cond_true]
   cases i with
   | zero=>simp
   | succ i=>simp[hx];omega
  | false =>
   have hx':s≠x:=by rw[beq_eq_false_iff_ne] at hx;exact fun e=>hx e.symm
   have hm:s ∈ l:=by rcases List.mem_cons.1 h with h | h
                     ·exact absurd h hx'
                     ·exact h
   rw[cond_false]
   cases i with
   | zero =>
    have:Lz s l (b+1)≠ -1∧((b+1:Nat):Int)≤Lz s l (b+1):=by
     rcases Afr s l (b+1) with h | h
     ·have:=(A9a s l (b+1) l.length hm).2 (by rw[List.take_length];exact hm)
      exfalso
      have key:∀ (l:List (List UInt8)) (b:Nat),s ∈ l→Lz s l b≠ -1:=by
       intro l
       induction l with
       | nil=>intro b h;cases h
       | cons y l ih =>
        intro b h
        rw[Lz]
        cases hy:y==s with
        | true=>rw[cond_true];omega
        | false =>
         rw[cond_false]
         apply ih
         rcases List.mem_cons.1 h with h | h
         ·rw[h] at hy;simp at hy
         ·exact h
      exact key l (b+1) hm h
     ·exact⟨by omega,h⟩
    simp only[List.take_zero,List.not_mem_nil,iff_false];omega
   | succ i =>
    rw[List.take_succ_cons,List.mem_cons]
    have:=A9a s l (b+1) i hm
    rw[show b+1+i=b+(i+1) by omega] at this
    rw[this]
    constructor
    ·exact .inr
    ·rintro (e | e)
     ·exact absurd e hx'
     ·exact e
theorem Uh (s:List UInt8):∀ (l:List (List UInt8)) (b:Nat),decide (Lz s l b < 0)=!l.contains s
 | [],b=>rfl
 | x :: l,b=>by
  rw[Lz,List.contains_cons,Bool.not_or,← Uh s l (b+1)]
  cases hx:x==s with
  | true =>
   rw[beq_iff_eq] at hx
   subst hx;simp
  | false =>
   have:(s==x)=false:=by rw[beq_eq_false_iff_ne] at hx ⊢;exact fun e=>hx e.symm
   rw[this];rfl
theorem A47 {s:List UInt8} {l:List (List UInt8)} {i:Nat} (h:l[i]?=some s):decide (Lz s l 0 < (i:Int))=(l.take i).contains s:=by
 have:=A9a s l 0 i (List.mem_of_getElem? h)
 rw[Nat.zero_add] at this
 rw[Bool.eq_iff_iff,decide_eq_true_eq,List.contains_iff_mem];exact this
theorem Aag (s:List UInt8):∀ (l:List Th) (b:Nat),(l.find? (fun t=>t.An==s)=none∧Lz s (nmT l) b= -1)∨∃ t,l.find? (fun t=>t.An==s)=some t∧∃ j:Nat,Lz s (nmT l) b=((b+j:Nat):Int)∧l[j]?=some t
 | [],b=>.inl ⟨rfl,rfl⟩
 | t :: l,b=>by
  rw[List.find?_cons,nmT,List.map_cons,Lz]
  cases h:t.An==s with
  | true=>exact .inr ⟨t,rfl,0,by simp,rfl⟩
  | false =>
   rcases Aag s l (b+1) with ⟨h1,h2⟩ | ⟨u,h1,j,h2,h3⟩
   ·exact .inl ⟨h1,h2⟩
   ·exact .inr ⟨u,h1,j+1,by rw[cond_false];rw[nmT] at h2;rw[h2];omega,h3⟩
theorem Ae9 {F:Nat→Int→Option (LR Unit Int)} (s:List UInt8) (l:List (List UInt8)) (h0:∀ k,F (k+1) ((l.length:Nat):Int)=some (.out ())) (h1:∀ k i x,i < l.length→l[i]?=some x→F (k+1) (i:Int)=bif x==s then some (.ret (i:Int)) else F k ((i+1:Nat):Int)) :
 ∀ (m i k:Nat),i+m=l.length→m < k→(F k (i:Int)).bind (fun o=>match o with | .out _=>some (-1) | .ret v=>some v)=some (Lz s (l.drop i) i):=by
 intro m
 induction m with
 | zero =>
  intro i k hi hk
  obtain⟨k,rfl⟩:∃ j,k=j+1:=⟨k - 1,by omega⟩
  obtain rfl:i=l.length:=by omega
  rw[h0,List.drop_length];rfl
 | succ m ih =>
  intro i k hi hk
  obtain⟨k,rfl⟩:∃ j,k=j+1:=⟨k - 1,by omega⟩
  have hlt:i < l.length:=by omega
  rw[h1 k i l[i] hlt (List.getElem?_eq_getElem hlt),List.drop_eq_getElem_cons hlt,Lz]
  cases l[i]==s with
  | true=>rfl
  | false=>exact ih (i+1) k (by omega) (by omega)
theorem Ly (n:Nat) (l:List (List UInt8)) (s:List UInt8) (hl:l.length≤5000) (hn:5010 < n):D2 n l s=some (Lz s l 0):=by
 obtain⟨n,rfl⟩:∃ j,n=j+1:=⟨n - 1,by omega⟩
 rw[D2]
 exact Ae9 (F:=fun k i=>I3 n l s k i) s l (fun k=>by rw[I3,As (by omega)]) (fun k i x hi hx=>by rw[I3,Af (by omega),Bm hx,Option.bind_some,B3 i (by omega)]) l.length 0 n (by omega) (by omega)
theorem A01 (n:Nat) (p:Pg) (hl:p.Ao.length≤5000) (hn:5010 < n):Gb n p=some (nmL p.Ao):=by
 obtain⟨n,rfl⟩:∃ j,n=j+1:=⟨n - 1,by omega⟩
 have:=Aa9 (ν:=List (List UInt8)) p.Ao B9.An (fun k i s=>Iq n p k (i:Int) s) (fun k s=>by rw[Iq,As (by omega)]) (fun k i x s hi hx hs=>by rw[Iq,Af (by omega),Bm hx,Option.bind_some,Af (by omega),B3 i (by omega)]) (k:=n) (by omega)
 rw[show((0:Nat):Int)=0 from rfl] at this
 rw[Gb,this];rfl
theorem A33 (n:Nat) (p:Pg) (hl:p.Ad.length≤5000) (hn:5010 < n):Ii n p=some (nmT p.Ad):=by
 obtain⟨n,rfl⟩:∃ j,n=j+1:=⟨n - 1,by omega⟩
 have:=Aa9 (ν:=List (List UInt8)) p.Ad Am.An (fun k i s=>Ge n p k (i:Int) s) (fun k s=>by rw[Ge,As (by omega)]) (fun k i x s hi hx hs=>by rw[Ge,Af (by omega),Bm hx,Option.bind_some,Af (by omega),B3 i (by omega)]) (k:=n) (by omega)
 rw[show((0:Nat):Int)=0 from rfl] at this
 rw[Ii,this];rfl
def A0z:Option (Int×Int)→Option (LR Unit (Int×Int))
 | some b=>some (.ret b)
 | none=>some (.out ())
theorem V5 (o:Option (Int×Int)):(A0z o).bind (fun o=>match o with | .out _=>some ((0:Int),(0:Int)) | .ret v=>some v)=some (o.getD (0,0)):=by cases o<;>rfl
theorem S4 (N:Nat) (g:Nat→List Chk) (L:Nat→Nat→Option (LR Unit (Int×Int))) (h0:∀ k,L (k+1) N=some (.out ())) (h1:∀ k i,i < N→L (k+1) i=match Eb (g i) with | some b=>some (.ret b) | none=>L k (i+1)) :
 ∀ (m k i:Nat),i+m=N→m < k→L k i=A0z (Eb (chF g m i)):=by
 intro m
 induction m with
 | zero =>
  intro k i hi hk
  obtain⟨k,rfl⟩:∃ j,k=j+1:=⟨k - 1,by omega⟩
  obtain rfl:i=N:=by omega
  exact h0 k
 | succ m ih =>
  intro k i hi hk
  obtain⟨k,rfl⟩:∃ j,k=j+1:=⟨k - 1,by omega⟩
  rw[h1 k i (by omega),chF,Qs]
  cases Eb (g i) with
  | some b=>rfl
  | none=>exact ih k (i+1) (by omega) (by omega)
theorem T1 (kn:Nd→Bool) (md:Int) (l:List Nd):ErL (Dx kn md l):=by
 intro k hk
 obtain⟨x,_,hx⟩:=List.mem_flatMap.1 hk
 unfold Ou at hx
 revert hx
 cases x.Bg==1
 ·cases x.Bg==2 || (x.Bg==3 || x.Bg==4)
  ·intro h;cases h
  ·intro h;rw[cond_false,cond_true,List.mem_singleton] at h;rw[h];show(9:Int)≠0;decide
 ·intro h;rw[cond_true,List.mem_singleton] at h;rw[h];show(11:Int)≠0;decide
theorem A1o:∀ (l:List Chk) (b:Int×Int),Eb l=some b→∃ k ∈ l,k.2=b∧k.1=false
 | [],b,h=>by cases h
 | k :: l,b,h=>by
  rw[Eb] at h
  cases hk:k.1 with
  | true =>
   rw[hk] at h
   obtain⟨q,q1,q2⟩:=A1o l b h
   exact⟨q,List.mem_cons_of_mem _ q1,q2⟩
  | false=>rw[hk] at h;exact⟨k,List.mem_cons_self ..,Option.some.inj h,hk⟩
theorem Ak5 {l:List Chk} (h:ErL l) {b:Int×Int} (e:Eb l=some b):(b.1 != 0)=true:=by
 obtain⟨k,k1,k2,_⟩:=A1o l b e
 rw[← k2,bne_iff_ne];exact h k k1
def Ql (l:List Nd):Prop:=∀ x ∈ l,x.Bg≠3∧x.Bg≠4
theorem Aev {l:List Nd} (h:M0 l=true):Ql l:=by
 intro x hx
 unfold M0 at h
 rw[List.all_eq_true] at h
 constructor
 ·intro e
  have:=h x (List.mem_filter.2 ⟨hx,by simp[Db,e]⟩)
  rw[e] at this;revert this;decide
 ·intro e
  have:=h x (List.mem_filter.2 ⟨hx,by simp[Db,e]⟩)
  rw[e] at this;revert this;decide
theorem A7j (n:Nat) (p:Pg) (rg:List (List UInt8)) (l:List Nd) (hr:rg.length≤5000) (hl:l.length≤1000) (ho:Ql l) (hn:5020 < n):D1 n p rg l=some ((Eb (Dx (fun x=>rg.contains x.An) p.Ay l)).getD (0,0)):=by
 obtain⟨n,rfl⟩:∃ j,n=j+1:=⟨n - 1,by omega⟩
 have:=Jd l (fun k i (_:Unit)=>F4 n p rg l k (i:Int)) (fun l _=>A0z (Eb (Dx (fun x=>rg.contains x.An) p.Ay l))) (fun _ _=>True) (k:=n) (s:=()) (by omega) trivial (fun k s _=>by rw[F4,As (by omega)];rfl) (fun k i s x hi hx _ ih=>by
  have ih':=ih () trivial
  obtain⟨o3,o4⟩:=ho x (List.mem_of_getElem? hx)
  rw[show Dx (fun x=>rg.contains x.An) p.Ay (x :: l.drop (i+1))=Ou (fun x=>rg.contains x.An) p.Ay x++Dx (fun x=>rg.contains x.An) p.Ay (l.drop (i+1)) from List.flatMap_cons,Qs]
  rw[F4,Af (by omega)]
  simp only[Bm hx,Option.bind_some,Ly n rg x.An hr (by omega),Uh,B3 i (show i < 4611686018427387904 by omega),ih']
  unfold Ou
  by_cases c2:x.Bg=2
  ·rw[c2]
   dsimp only
   cases rg.contains x.An<;>rfl
  ·rw[beq_eq_false_iff_ne.2 c2,beq_eq_false_iff_ne.2 o3,beq_eq_false_iff_ne.2 o4]
   by_cases c1:x.Bg=1
   ·rw[c1]
    by_cases h:x.Cu < p.Ay
    ·rw[As (show ¬ p.Ay≤x.Cu by omega),decide_eq_true h];rfl
    ·rw[Af (show p.Ay≤x.Cu by omega),decide_eq_false h];rfl
   ·rw[beq_eq_false_iff_ne.2 c1];rfl)
 rw[show((0:Nat):Int)=0 from rfl] at this
 rw[D1,this];exact V5 _
theorem Aby (l:List St) (v:Int) (hv:0≤v):∀ i,v < Nv l i↔∃ j,j < i∧∃ x,l[j]?=some x∧(x.Ac==11 || x.Ac==12)=true∧v < (j:Int)+1+x.Al
 | 0=>by
  constructor
  ·intro h;rw[Nv] at h;omega
  ·rintro ⟨j,h,_⟩;omega
 | i+1=>by
  have ih:=Aby l v hv i
  rw[Nv]
  have more:(∃ j,j < i∧∃ x,l[j]?=some x∧(x.Ac==11 || x.Ac==12)=true∧v < (j:Int)+1+x.Al)→∃ j,j < i+1∧∃ x,l[j]?=some x∧(x.Ac==11 || x.Ac==12)=true∧v < (j:Int)+1+x.Al:=by
   rintro ⟨j,h,r⟩;exact⟨j,by omega,r⟩
  cases hx:l[i]? with
  | none =>
   dsimp only
   rw[ih]
   refine⟨more,?_⟩
   rintro ⟨j,h,x,h1,h2⟩
   by_cases e:j=i
   ·rw[e,hx] at h1;cases h1
   ·exact⟨j,by omega,x,h1,h2⟩
  | some x =>
   dsimp only
   cases hk:(x.Ac==11 || x.Ac==12) with
   | false =>
    rw[cond_false,ih]
    refine⟨more,?_⟩
    rintro ⟨j,h,y,h1,h2,h3⟩
    by_cases e:j=i
    ·rw[e,hx] at h1;cases h1;rw[hk] at h2;cases h2
    ·exact⟨j,by omega,y,h1,h2,h3⟩
   | true =>
    rw[cond_true]
    constructor
    ·intro h
     by_cases c:v < (i:Int)+1+x.Al
     ·exact⟨i,by omega,x,hx,hk,c⟩
     ·refine more (ih.1 ?_)
      split at h
      ·omega
      ·exact h
    ·rintro ⟨j,h,y,h1,h2,h3⟩
     by_cases e:j=i
     ·rw[e,hx] at h1;cases h1;split
      ·rw[e] at h3;exact h3
      ·rw[e] at h3;omega
     ·have:=ih.2 ⟨j,by omega,y,h1,h2,h3⟩
      split
      ·omega
      ·exact this
theorem Aii (n:Nat) (l:List St) (i:Nat) (h:R7 l) (hi:i < l.length) (hn:1020 < n):Mc n l (i:Int)=some (decide ((i:Int) < Nv l i)):=by
 obtain⟨hl,hb⟩:=h
 obtain⟨n,rfl⟩:∃ j,n=j+1:=⟨n - 1,by omega⟩
 have:=Xm (List.range i) (fun k j=>Fb n l (i:Int) k (j:Int)) (fun j=>match l[j]? with | some x=>(x.Ac==11 || x.Ac==12)&&decide ((i:Int)≤(j:Int)+x.Al) | none=>false) (fun k=>by rw[List.length_range,Fb,As (by omega)]) (fun k j x hj hx=>by
  rw[List.length_range] at hj
  have:x=j:=by rw[List.getElem?_range hj] at hx;exact(Option.some.inj hx).symm
  subst this
  have hy:l[x]?=some (l[x]'(by omega)):=List.getElem?_eq_getElem (by omega)
  obtain⟨b1,b2,_⟩:=hb _ (List.getElem_mem (show x < l.length by omega))
  generalize l[x]'(by omega)=y at *
  rw[Fb,Af (by omega)]
  simp only[Bm hy,Option.bind_some,B3 x (show x < 4611686018427387904 by omega),hy]
  rw[C1 (show -9223372036854775808≤(x:Int)+y.Al∧_ by omega)]
  cases y.Ac==11<;>cases y.Ac==12<;>cases decide ((i:Int)≤(x:Int)+y.Al)<;>rfl) (k:=n) (by rw[List.length_range];omega)
 rw[show((0:Nat):Int)=0 from rfl] at this
 rw[Mc,this]
 have e:(List.range i).any (fun j=>match l[j]? with | some x=>(x.Ac==11 || x.Ac==12)&&decide ((i:Int)≤(j:Int)+x.Al) | none=>false)=decide ((i:Int) < Nv l i):=by
  rw[Bool.eq_iff_iff,List.any_eq_true,decide_eq_true_eq,Aby l (i:Int) (by omega) i]
  constructor
  ·rintro ⟨j,hj,h⟩
   rw[List.mem_range] at hj
   cases hx:l[j]? with
   | none=>rw[hx] at h;cases h
   | some x =>
    rw[hx] at h
    simp only[Bool.and_eq_true,decide_eq_true_eq] at h
    exact⟨j,hj,x,hx,h.1,by omega⟩
  ·rintro ⟨j,hj,x,hx,h1,h2⟩
   refine⟨j,List.mem_range.2 hj,?_⟩
   rw[hx]
   simp only[Bool.and_eq_true,decide_eq_true_eq]
   exact⟨h1,by omega⟩
 rw[e]
 cases decide ((i:Int) < Nv l i)<;>rfl
theorem Sz (l:List Chk) (h:ErL l):(Eb l=none∧(Eb l).getD (0,0)=(0,0))∨∃ b,Eb l=some b∧(b.1 != 0)=true∧(Eb l).getD (0,0)=b:=by
 cases hb:Eb l with
 | none=>exact .inl ⟨rfl,rfl⟩
 | some b=>exact .inr ⟨b,rfl,Ak5 h hb,rfl⟩
theorem Ajl (n:Nat) (p:Pg) (t:Th) (h:R7 t.Al) (ho:∀ x ∈ t.Al,Ql x.B4∧Ql x.Bd) (hr:t.B2.length≤5000) (hl:p.Ao.length≤5000) (hn:5030 < n):Or n p t=some ((Eb (chF (stC (fun x=>t.B2.contains x.An) t.B2.contains (nmL p.Ao).contains p.Ay t.Al) t.Al.length 0)).getD (0,0)):=by
 have hbl:=h.1
 have hll:(nmL p.Ao).length≤5000:=by rw[nmL,List.length_map];exact hl
 obtain⟨n,rfl⟩:∃ j,n=j+1:=⟨n - 1,by omega⟩
 have:=S4 t.Al.length (stC (fun x=>t.B2.contains x.An) t.B2.contains (nmL p.Ao).contains p.Ay t.Al) (fun k i=>Dy n p t k (i:Int)) (fun k=>by rw[Dy,As (by omega)]) (fun k i hi=>by
  have hx:t.Al[i]?=some (t.Al[i]'hi):=List.getElem?_eq_getElem hi
  have hm:=List.getElem_mem hi
  obtain⟨b1,b2,b3,b4⟩:=h.2 _ hm
  obtain⟨o1,o2⟩:=ho _ hm
  generalize t.Al[i]'hi=x at *
  rw[Dy,Af (by omega),Bm hx,Option.bind_some,Aii n t.Al i h hi (by omega),A7j n p t.B2 x.B4 hr b3 o1 (by omega),A7j n p t.B2 x.Bd hr b4 o2 (by omega)]
  simp only[A01 n p hl (by omega),Option.bind_some,Ly n t.B2 x.Ax hr (by omega),Ly n (nmL p.Ao) x.Au hll (by omega),Uh,B3 i (show i < 4611686018427387904 by omega)]
  rw[stC,hx]
  dsimp only
  simp only[Qs,Eb]
  have rest:∀ (a:Option (LR Unit (Int×Int))),(bif ((Eb (Dx (fun x=>t.B2.contains x.An) p.Ay x.B4)).getD (0,0)).1 != 0 then some (LR.ret (((Eb (Dx (fun x=>t.B2.contains x.An) p.Ay x.B4)).getD (0,0)).1,((Eb (Dx (fun x=>t.B2.contains x.An) p.Ay x.B4)).getD (0,0)).2)) else bif ((Eb (Dx (fun x=>t.B2.contains x.An) p.Ay x.Bd)).getD (0,0)).1 != 0 then some (LR.ret (((Eb (Dx (fun x=>t.B2.contains x.An) p.Ay x.Bd)).getD (0,0)).1,((Eb (Dx (fun x=>t.B2.contains x.An) p.Ay x.Bd)).getD (0,0)).2)) else a)=match (Eb (Dx (fun x=>t.B2.contains x.An) p.Ay x.B4)).or (Eb (Dx (fun x=>t.B2.contains x.An) p.Ay x.Bd)) with | some b=>some (LR.ret b) | none=>a:=by
   intro a
   rcases Sz _ (T1 (fun x=>t.B2.contains x.An) p.Ay x.B4) with ⟨e1,e2⟩ | ⟨b,e1,e2,e3⟩
   ·rw[e2,e1]
    rcases Sz _ (T1 (fun x=>t.B2.contains x.An) p.Ay x.Bd) with ⟨f1,f2⟩ | ⟨b,f1,f2,f3⟩
    ·rw[f2,f1];rfl
    ·rw[f3,f1,f2];rfl
   ·rw[e3,e1,e2];rfl
  simp only[rest]
  cases x.Ac==13<;>cases decide ((i:Int) < Nv t.Al i)<;>cases x.Ax==[]<;>cases x.Au==[]<;>cases t.B2.contains x.Ax<;>cases (nmL p.Ao).contains x.Au<;>rfl) t.Al.length n 0 (by omega) (by omega)
 rw[show((0:Nat):Int)=0 from rfl] at this
 rw[Or,this];exact V5 _
end Go.Proofs.YtpnhafdimkmbbaaGreat
end
section
namespace Go.Proofs.YtpnhafdimkmbbaaGreat
set_option linter.unusedVariables false
set_option linter.unusedSimpArgs false
set_option maxRecDepth 10000
theorem Rx (g:Nat→List Chk) (h:∀ i,ErL (g i)):∀ m i,ErL (chF g m i)
 | 0,i=>fun k hk=>by cases hk
 | m+1,i=>fun k hk=>by
  rw[chF,List.mem_append] at hk
  rcases hk with hk | hk
  ·exact h i k hk
  ·exact Rx g h m (i+1) k hk
theorem Wk {a b:List Chk} (h1:ErL a) (h2:ErL b):ErL (a++b):=fun k hk=>by
 rcases List.mem_append.1 hk with h | h
 ·exact h1 k h
 ·exact h2 k h
theorem Ij {k:Chk} {b:List Chk} (h1:k.2.1≠0) (h2:ErL b):ErL (k :: b):=fun q hq=>by
 rcases List.mem_cons.1 hq with h | h
 ·rw[h];exact h1
 ·exact h2 q h
theorem Oz:ErL []:=fun k hk=>by cases hk
theorem Abx (md:Int) (l:List Va) (i:Nat):ErL (L8 md l i):=by
 unfold L8
 cases l[i]? with
 | none=>exact Oz
 | some v=>exact Ij (show(12:Int)≠0 by decide) (Ij (show(10:Int)≠0 by decide) (Ij (show(11:Int)≠0 by decide) Oz))
theorem Akl (rg lo:List (List UInt8)) (a:Int) (i:Nat):ErL (Rt rg lo a i):=by
 unfold Rt
 cases rg[i]? with
 | none=>exact Oz
 | some r=>exact Ij (show(10:Int)≠0 by decide) Oz
theorem Aga (rk:Nd→Bool) (rr lk:List UInt8→Bool) (md:Int) (l:List St) (i:Nat):ErL (stC rk rr lk md l i):=by
 unfold stC
 cases l[i]? with
 | none=>exact Oz
 | some x =>
  refine Wk ?_ (Ij (show(9:Int)≠0 by decide) (Ij (show(9:Int)≠0 by decide) (Wk (T1 _ _ _) (T1 _ _ _))))
  cases x.Ac==13
  ·exact Oz
  ·exact Ij (show(13:Int)≠0 by decide) Oz
theorem Abu (md:Int) (lo:List (List UInt8)) (l:List Th) (i:Nat):ErL (Nu md lo l i):=by
 unfold Nu
 cases l[i]? with
 | none=>exact Oz
 | some t=>exact Ij (show(12:Int)≠0 by decide) (Ij (show(10:Int)≠0 by decide) (Ij (show(12:Int)≠0 by decide) (Wk (Rx _ (Akl _ _ _) _ _) (Rx _ (Aga _ _ _ _ _) _ _))))
theorem Aka (md:Int) (lo:List (List UInt8)) (t:List Th) (l:List Cl) (i:Nat):ErL (Rf md lo t l i):=by
 unfold Rf
 cases l[i]? with
 | none=>exact Oz
 | some c=>exact Ij (show(12:Int)≠0 by decide) (T1 _ _ _)
theorem Acb (p:Pg):ErL (Pt p):=Ij (show(11:Int)≠0 by decide) (Wk (Rx _ (Abx _ _) _ _) (Ij (show(12:Int)≠0 by decide) (Wk (Rx _ (Abu _ _ _) _ _) (Rx _ (Aka _ _ _ _) _ _))))
theorem An6 (n:Nat) (p:Pg) (hl:p.Ao.length≤5000) (hn:5020 < n):Oa n p=some ((Eb (chF (L8 p.Ay p.Ao) p.Ao.length 0)).getD (0,0)):=by
 have hll:(nmL p.Ao).length≤5000:=by rw[nmL,List.length_map];exact hl
 obtain⟨n,rfl⟩:∃ j,n=j+1:=⟨n - 1,by omega⟩
 have:=S4 p.Ao.length (L8 p.Ay p.Ao) (fun k i=>It n p (nmL p.Ao) k (i:Int)) (fun k=>by rw[It,As (by omega)]) (fun k i hi=>by
  have hx:p.Ao[i]?=some (p.Ao[i]'hi):=List.getElem?_eq_getElem hi
  generalize p.Ao[i]'hi=x at *
  rw[It,Af (by omega),Bm hx,Option.bind_some,Ly n _ x.An hll (by omega),Option.bind_some,A47 (Ag4 hx),B3 i (by omega),L8,hx]
  dsimp only [Eb]
  by_cases c:(i:Int) < 6
  ·rw[As (show ¬ (6:Int)≤i by omega),decide_eq_true c]
   by_cases d:x.Cu < p.Ay
   ·rw[As (show ¬ p.Ay≤x.Cu by omega),decide_eq_true d];cases ((nmL p.Ao).take i).contains x.An<;>rfl
   ·rw[Af (show p.Ay≤x.Cu by omega),decide_eq_false d];cases ((nmL p.Ao).take i).contains x.An<;>rfl
  ·rw[Af (show(6:Int)≤i by omega),decide_eq_false c];rfl) p.Ao.length n 0 (by omega) (by omega)
 rw[show((0:Nat):Int)=0 from rfl] at this
 rw[Oa,A01 n p hl (by omega),Option.bind_some,this];exact V5 _
theorem Akq (n:Nat) (p:Pg) (t:Th) (hr:t.B2.length≤5000) (hl:p.Ao.length≤5000) (hn:5020 < n):Fe n p t n 0=A0z (Eb (chF (Rt t.B2 (nmL p.Ao) t.A8) t.B2.length 0)):=by
 have hll:(nmL p.Ao).length≤5000:=by rw[nmL,List.length_map];exact hl
 have:=S4 t.B2.length (Rt t.B2 (nmL p.Ao) t.A8) (fun k i=>Fe n p t k (i:Int)) (fun k=>by rw[Fe,As (by omega)]) (fun k i hi=>by
  have hx:t.B2[i]?=some (t.B2[i]'hi):=List.getElem?_eq_getElem hi
  generalize t.B2[i]'hi=x at *
  have e:decide (0≤Lz x (nmL p.Ao) 0)=(nmL p.Ao).contains x:=by
   have:=Uh x (nmL p.Ao) 0
   rw[Bool.eq_iff_iff,decide_eq_true_eq,Bool.not_eq_true',← Bool.not_eq_true] at this
   rw[Bool.eq_iff_iff,decide_eq_true_eq]
   constructor
   ·intro h
    by_cases c:(nmL p.Ao).contains x=true
    ·exact c
    ·have:=this.2 c;omega
   ·intro h
    by_cases c:Lz x (nmL p.Ao) 0 < 0
    ·exact absurd h (this.1 c)
    ·omega
  rw[Fe,Af (by omega),Bm hx,Option.bind_some,Ly n _ x hr (by omega),Option.bind_some,A01 n p hl (by omega),Option.bind_some,Option.bind_some,Ly n _ x hll (by omega),Option.bind_some,A47 hx,e,B3 i (by omega),Rt,hx]
  dsimp only [Eb]
  cases (t.B2.take i).contains x<;>cases (nmL p.Ao).contains x<;>rfl) t.B2.length n 0 (by omega) (by omega)
 exact this
structure Aa0 (p:Pg):Prop where
 body:∀ t ∈ p.Ad,R7 t.Al
 only:∀ t ∈ p.Ad,∀ x ∈ t.Al,Ql x.B4∧Ql x.Bd
 cl:∀ c ∈ p.Aq,∀ x ∈ c.B4,x.Bg≠2
theorem Ac4 {f:List UInt8} {c:Int} {l:List Nd} (h:fL f c l=true):Ql l:=by
 unfold fL at h
 split at h
 ·rw[Bool.and_eq_true] at h;exact Aev h.1
 ·have:l=[]:=List.length_eq_zero_iff.1 (by rw[beq_iff_eq] at h;omega)
  subst this;intro x hx;cases hx
theorem Akz {p:Pg} (hp:K1 p) (h:I4 p=true):Aa0 p:=by
 refine⟨Z7 hp h,?_,?_⟩
 ·intro t ht x hx
  simp only[I4,Bool.and_eq_true,List.all_eq_true] at h
  have:=h.2.2.1 t ht
  simp only[M2,Bool.and_eq_true] at this
  obtain⟨F,_,_,_,_,f5⟩:=Xh this.2.2.1
  have:=f5 x hx
  simp only[Js,Bool.and_eq_true] at this
  exact⟨Ac4 this.2.2.2.2.2.1,Ac4 this.2.2.2.2.2.2.1⟩
 ·intro c hc x hx e
  simp only[I4,Bool.and_eq_true,List.all_eq_true] at h
  have:=h.2.2.2 c hc
  simp only[Rc,Bool.and_eq_true,clB,List.all_eq_true] at this
  have:=this.1 x (List.mem_filter.2 ⟨hx,by simp[Db,e]⟩)
  rw[e] at this;revert this;decide
theorem Alj (n:Nat) (p:Pg) (hp:K1 p) (he:Aa0 p) (hn:5100 < n):Lp n p=some ((Eb ((decide (0 < ((p.Ad.length:Nat):Int)),12,0) :: chF (Nu p.Ay (nmL p.Ao) p.Ad) p.Ad.length 0)).getD (0,0)):=by
 have hl:=hp.locs
 have ht:=hp.threads
 have hll:(nmT p.Ad).length≤5000:=by rw[nmT,List.length_map];omega
 obtain⟨n,rfl⟩:∃ j,n=j+1:=⟨n - 1,by omega⟩
 rw[Lp]
 by_cases c:p.Ad.length=0
 ·rw[show(((p.Ad.length:Nat):Int)==0)=true by rw[beq_iff_eq];omega,decide_eq_false (by omega)];rfl
 rw[beq_eq_false_iff_ne.2 (show((p.Ad.length:Nat):Int)≠0 by omega),decide_eq_true (show 0 < ((p.Ad.length:Nat):Int) by omega)]
 have:=S4 p.Ad.length (Nu p.Ay (nmL p.Ao) p.Ad) (fun k i=>G8 n p (nmT p.Ad) k (i:Int)) (fun k=>by rw[G8,As (by omega)]) (fun k i hi=>by
  have hx:p.Ad[i]?=some (p.Ad[i]'hi):=List.getElem?_eq_getElem hi
  have hm:=List.getElem_mem hi
  generalize p.Ad[i]'hi=x at *
  have hr:=(hp.thr x hm).regs
  rw[G8,Af (by omega),Bm hx,Option.bind_some,Ly n _ x.An hll (by omega),Option.bind_some,A47 (Ale hx),Akq n p x (by omega) (by omega) (by omega),Ajl n p x (he.body x hm) (he.only x hm) (by omega) (by omega) (by omega),Option.bind_some,B3 i (by omega),Nu,hx]
  dsimp only [Eb]
  rw[Qs]
  rcases Decidable.em (¬ (i:Int) < 4) with c1 | c1
  ·rw[Af (show(4:Int)≤i by omega),decide_eq_false c1];rfl
  rw[As (show ¬ (4:Int)≤i by omega),decide_eq_true (Decidable.not_not.1 c1)]
  rcases Decidable.em (¬ ((x.B2.length:Nat):Int)≤6) with c2 | c2
  ·rw[Af (show 6 < ((x.B2.length:Nat):Int) by omega),decide_eq_false c2];cases ((nmT p.Ad).take i).contains x.An<;>rfl
  rw[As (show ¬ 6 < ((x.B2.length:Nat):Int) by omega),decide_eq_true (Decidable.not_not.1 c2)]
  cases ((nmT p.Ad).take i).contains x.An with
  | true=>rfl
  | false =>
   simp only[cond_false,cond_true,Bool.not_false]
   cases Eb (chF (Rt x.B2 (nmL p.Ao) x.A8) x.B2.length 0) with
   | some b=>rfl
   | none =>
    rcases Sz _ (Rx _ (Aga (fun y=>x.B2.contains y.An) x.B2.contains (nmL p.Ao).contains p.Ay x.Al) x.Al.length 0) with ⟨e1,e2⟩ | ⟨b,e1,e2,e3⟩
    ·rw[e2,e1];rfl
    ·rw[e3,e1]
     simp only[A0z,Option.bind_some,e2];rfl) p.Ad.length n 0 (by omega) (by omega)
 rw[show((0:Nat):Int)=0 from rfl] at this
 rw[A33 n p (by omega) (by omega),cond_false,Option.bind_some,this]
 exact V5 _
theorem Alr (n:Nat) (p:Pg) (hp:K1 p) (he:Aa0 p) (hn:5100 < n):M7 n p=some ((Eb (chF (Rf p.Ay (nmL p.Ao) p.Ad p.Aq) p.Aq.length 0)).getD (0,0)):=by
 have hl:=hp.locs
 have ht:=hp.threads
 have hc:=hp.claims
 have hll:(nmT p.Ad).length≤5000:=by rw[nmT,List.length_map];omega
 have hl2:(nmL p.Ao).length≤5000:=by rw[nmL,List.length_map];omega
 obtain⟨n,rfl⟩:∃ j,n=j+1:=⟨n - 1,by omega⟩
 have inner:∀ c ∈ p.Aq,D8 n p c n 0=A0z (Eb (Dx (clN (nmL p.Ao) p.Ad) p.Ay c.B4)):=by
  intro c hm
  have hlen:c.B4.length≤1000:=by
   have:=hp.cl c hm
   simp only[H8,Bool.and_eq_true,decide_eq_true_eq] at this
   omega
  have:=Jd c.B4 (fun k i (_:Unit)=>D8 n p c k (i:Int)) (fun l _=>A0z (Eb (Dx (clN (nmL p.Ao) p.Ad) p.Ay l))) (fun _ _=>True) (k:=n) (s:=()) (by omega) trivial (fun k s _=>by rw[D8,As (by omega)];rfl) (fun k i s x hi hx _ ih=>by
   have ih':=ih () trivial
   have o2:=he.cl c hm x (List.mem_of_getElem? hx)
   rw[show Dx (clN (nmL p.Ao) p.Ad) p.Ay (x :: c.B4.drop (i+1))=Ou (clN (nmL p.Ao) p.Ad) p.Ay x++Dx (clN (nmL p.Ao) p.Ad) p.Ay (c.B4.drop (i+1)) from List.flatMap_cons,Qs]
   rw[D8,Af (by omega)]
   simp only[Bm hx,Option.bind_some,A01 n p (show p.Ao.length≤5000 by omega) (by omega),A33 n p (show p.Ad.length≤5000 by omega) (by omega),Ly n (nmL p.Ao) x.An hl2 (by omega),Ly n (nmT p.Ad) x.Df hll (by omega),Uh,B3 i (show i < 4611686018427387904 by omega),ih']
   unfold Ou clN
   by_cases c3:x.Bg=3
   ·rw[c3]
    cases (nmL p.Ao).contains x.An<;>rfl
   rw[beq_eq_false_iff_ne.2 c3]
   by_cases c4:x.Bg=4
   ·rw[c4]
    unfold ofB
    rcases Aag x.Df p.Ad 0 with ⟨f1,f2⟩ | ⟨t,f1,j,f2,f3⟩
    ·have:(nmT p.Ad).contains x.Df=false:=Vu.1 f1
     rw[f1,this];rfl
    ·have:(nmT p.Ad).contains x.Df=true:=by
      cases h:(nmT p.Ad).contains x.Df with
      | true=>rfl
      | false=>rw[Vu.2 h] at f1;cases f1
     rw[f1,this,f2,Nat.zero_add,Bm f3]
     have hr:=(hp.thr t (List.mem_of_getElem? f3)).regs
     simp only[Option.bind_some,Ly n t.B2 x.An (show t.B2.length≤5000 by omega) (show 5010 < n by omega),Uh]
     cases t.B2.contains x.An<;>rfl
   rw[beq_eq_false_iff_ne.2 c4,beq_eq_false_iff_ne.2 o2]
   by_cases c1:x.Bg=1
   ·rw[c1]
    by_cases h:x.Cu < p.Ay
    ·rw[As (show ¬ p.Ay≤x.Cu by omega),decide_eq_true h];rfl
    ·rw[Af (show p.Ay≤x.Cu by omega),decide_eq_false h];rfl
   ·rw[beq_eq_false_iff_ne.2 c1];rfl)
  exact this
 have:=S4 p.Aq.length (Rf p.Ay (nmL p.Ao) p.Ad p.Aq) (fun k i=>Hd n p k (i:Int)) (fun k=>by rw[Hd,As (by omega)]) (fun k i hi=>by
  have hx:p.Aq[i]?=some (p.Aq[i]'hi):=List.getElem?_eq_getElem hi
  have hm:=List.getElem_mem hi
  generalize p.Aq[i]'hi=x at *
  rw[Hd,Af (by omega),Bm hx,Option.bind_some,Option.bind_some,inner x hm,B3 i (by omega),Rf,hx]
  dsimp only [Eb]
  by_cases c:(i:Int) < 8
  ·rw[As (show ¬ (8:Int)≤i by omega),decide_eq_true c]
   simp only[cond_true]
   cases Eb (Dx (clN (nmL p.Ao) p.Ad) p.Ay x.B4)<;>rfl
  ·rw[Af (show(8:Int)≤i by omega),decide_eq_false c];rfl) p.Aq.length n 0 (by omega) (by omega)
 rw[show((0:Nat):Int)=0 from rfl] at this
 rw[M7,this];exact V5 _
def Wd (p:Pg):Int×Int:=bif I4 p then(Eb (Pt p)).getD (0,0) else(8,0)
theorem Ahu (n:Nat) (p:Pg) (hp:K1 p) (hn:6100 < n):Gh n p=some (Wd p):=by
 rw[Ajk n p hp hn,Wd,A5g _ _ (Acb p)];rfl
theorem Ajz (n:Nat) (p:Pg) (hp:K1 p) (hn:6100 < n):Nb n p=some (Wd p):=by
 have hl:=hp.locs
 obtain⟨n,rfl⟩:∃ j,n=j+1:=⟨n - 1,by omega⟩
 rw[Nb,Ajq n p hp (by omega),Option.bind_some,Wd]
 cases hr:I4 p with
 | false=>rfl
 | true =>
  have he:=Akz hp hr
  rw[cond_true,cond_true,Pt,Eb,Qs]
  by_cases c1:p.Ay < 2
  ·rw[Af c1,decide_eq_false (show ¬ (2≤p.Ay∧p.Ay≤16) by omega)];rfl
  by_cases c2:16 < p.Ay
  ·rw[As c1,Af c2,decide_eq_false (show ¬ (2≤p.Ay∧p.Ay≤16) by omega)];rfl
  rw[As c1,As c2,decide_eq_true (show 2≤p.Ay∧p.Ay≤16 by omega),cond_true,An6 n p (by omega) (by omega),Option.bind_some,Alj n p hp he (by omega),Option.bind_some,Alr n p hp he (by omega),Option.bind_some]
  rw[show((decide (0 < ((p.Ad.length:Nat):Int)),(12:Int),(0:Int)) :: (chF (Nu p.Ay (nmL p.Ao) p.Ad) p.Ad.length 0++chF (Rf p.Ay (nmL p.Ao) p.Ad p.Aq) p.Aq.length 0):List Chk)=((decide (0 < ((p.Ad.length:Nat):Int)),12,0) :: chF (Nu p.Ay (nmL p.Ao) p.Ad) p.Ad.length 0)++chF (Rf p.Ay (nmL p.Ao) p.Ad p.Aq) p.Aq.length 0 from rfl,Qs]
  rcases Sz _ (Rx _ (Abx p.Ay p.Ao) p.Ao.length 0) with ⟨e1,e2⟩ | ⟨b,e1,e2,e3⟩
  ·rw[e2,e1]
   rcases Sz _ (Ij (k:=(decide (0 < ((p.Ad.length:Nat):Int)),12,0)) (show(12:Int)≠0 by decide) (Rx _ (Abu p.Ay (nmL p.Ao) p.Ad) p.Ad.length 0)) with ⟨e1,e2⟩ | ⟨b,e1,e2,e3⟩
   ·rw[e2,e1];rfl
   ·rw[e3,e1,e2];rfl
  ·rw[e3,e1,e2];rfl
end Go.Proofs.YtpnhafdimkmbbaaGreat
end
section
namespace Go.Proofs.YtpnhafdimkmbbaaGreat
set_option linter.unusedVariables false
set_option linter.unusedSimpArgs false
set_option maxRecDepth 10000
theorem Ub (g:Nat→List Chk) (k:Chk):∀ m i,k ∈ chF g m i↔∃ j,i≤j∧j < i+m∧k ∈ g j
 | 0,i=>by
  constructor
  ·intro h;cases h
  ·rintro ⟨j,h1,h2,_⟩;omega
 | m+1,i=>by
  rw[chF,List.mem_append,Ub g k m (i+1)]
  constructor
  ·rintro (h | ⟨j,h1,h2,h3⟩)
   ·exact⟨i,by omega,by omega,h⟩
   ·exact⟨j,by omega,by omega,h3⟩
  ·rintro ⟨j,h1,h2,h3⟩
   by_cases e:j=i
   ·rw[e] at h3;exact .inl h3
   ·exact .inr ⟨j,by omega,by omega,h3⟩
theorem Acq (p:Pg) (k:Chk):k ∈ Pt p↔k=(decide (2≤p.Ay∧p.Ay≤16),11,0)∨(∃ j,j < p.Ao.length∧k ∈ L8 p.Ay p.Ao j)∨k=(decide (0 < ((p.Ad.length:Nat):Int)),12,0)∨(∃ j,j < p.Ad.length∧k ∈ Nu p.Ay (nmL p.Ao) p.Ad j)∨∃ j,j < p.Aq.length∧k ∈ Rf p.Ay (nmL p.Ao) p.Ad p.Aq j:=by
 unfold Pt
 rw[List.mem_cons,List.mem_append,List.mem_cons,List.mem_append,Ub,Ub,Ub]
 simp only[Nat.zero_le,true_and,Nat.zero_add]
end Go.Proofs.YtpnhafdimkmbbaaGreat
end
section
namespace Go.Proofs.YtpnhafdimkmbbaaGreat
set_option linter.unusedVariables false
set_option linter.unusedSimpArgs false
set_option maxRecDepth 10000
theorem Qr {s:List UInt8} (h:Ca s=true):s.length≤16:=by
 simp only[Ca,Bool.and_eq_true,decide_eq_true_eq] at h;exact h.1.1.2
theorem Ai6 {x:Nd} (h:G2 x=true):x.An.length≤100∧x.Df.length≤100:=by
 simp only[G2,Bool.and_eq_true] at h
 have h:=h.2
 split at h
 ·simp only[Bool.and_eq_true,beq_iff_eq] at h;rw[h.2.1,h.2.2];simp
 ·split at h
  ·simp only[Bool.and_eq_true,beq_iff_eq] at h;have:=Qr h.2.1;rw[h.2.2];exact⟨by omega,by simp⟩
  ·split at h
   ·simp only[Bool.and_eq_true,beq_iff_eq] at h;have:=Qr h.2.1;have:=Qr h.2.2;exact⟨by omega,by omega⟩
   ·simp only[Bool.and_eq_true,beq_iff_eq] at h;rw[h.2.1,h.2.2];simp
theorem A2h {l:List Nd} (h:Ey l=true):H8 l=true:=by
 simp only[Ey,Bool.and_eq_true,decide_eq_true_eq,List.all_eq_true] at h
 simp only[H8,Bool.and_eq_true,decide_eq_true_eq,List.all_eq_true]
 exact⟨by omega,fun x hx=>Ai6 (h.2.2.1 x hx)⟩
theorem A9z {f:List UInt8} {c:Int} {l:List Nd} (h:fL f c l=true):H8 l=true:=by
 unfold fL at h
 split at h
 ·rw[Bool.and_eq_true] at h;exact A2h h.2
 ·have:l=[]:=List.length_eq_zero_iff.1 (by rw[beq_iff_eq] at h;omega)
  subst this;rfl
theorem Afe {f:List UInt8} {c:Int} {s:List UInt8} (h:fN f c s=true):s.length≤100:=by
 unfold fN at h
 split at h
 ·have:=Qr h;omega
 ·rw[beq_iff_eq] at h;rw[h];simp
theorem Adv {x:St} (h:Js x=true):LightX x:=by
 simp only[Js,Bool.and_eq_true] at h
 exact⟨Afe h.2.2.2.1,Afe h.2.2.2.2.1,A9z h.2.2.2.2.2.1,A9z h.2.2.2.2.2.2.1⟩
theorem Ab1 {p:Pg} (h:I4 p=true) (h1:p.Ao.length≤4000) (h2:p.Ad.length≤4000) (h3:p.Aq.length≤4000) (h4:∀ t ∈ p.Ad,t.B2.length≤4000):K1 p:=by
 simp only[I4,Bool.and_eq_true,List.all_eq_true] at h
 obtain⟨_,hv,ht,hc⟩:=h
 refine⟨h1,h2,h3,fun v hm=>?_,fun t hm=>?_,fun c hm=>?_⟩
 ·have:=hv v hm
  simp only[Ov,Bool.and_eq_true] at this
  have:=Qr this.1;omega
 ·have:=ht t hm
  simp only[M2,Bool.and_eq_true,List.all_eq_true] at this
  have hn:=Qr this.1
  obtain⟨F,_,_,_,f4,f5⟩:=Xh this.2.2.1
  exact⟨by omega,h4 t hm,fun r hr=>by have:=Qr (this.2.2.2 r hr);omega,by omega,fun x hx=>Adv (f5 x hx)⟩
 ·have:=hc c hm
  simp only[Rc,Bool.and_eq_true] at this
  exact A2h this.2.2.1
def Pn (B:Nat) (a:Int):Prop:=0≤a∧a≤B
structure Adt (B:Nat) (t:Th):Prop where
 at':Pn B t.A8
 st:∀ x ∈ t.Al,A83 B x
structure A4l (B:Nat) (p:Pg):Prop where
 loc:∀ v ∈ p.Ao,Pn B v.A8
 thr:∀ t ∈ p.Ad,Adt B t
 cl:∀ c ∈ p.Aq,Pn B c.A8∧∀ x ∈ c.B4,Nt B x
theorem Zp {B:Nat} {kn:Nd→Bool} {md:Int} {l:List Nd} (h:∀ x ∈ l,Nt B x):∀ k ∈ Dx kn md l,Pn B k.2.2:=by
 intro k hk
 obtain⟨x,hx,hk⟩:=List.mem_flatMap.1 hk
 have:=h x hx
 unfold Ou at hk
 revert hk
 cases x.Bg==1
 ·cases x.Bg==2 || (x.Bg==3 || x.Bg==4)
  ·intro h;cases h
  ·intro h;rw[cond_false,cond_true,List.mem_singleton] at h;rw[h];exact this
 ·intro h;rw[cond_true,List.mem_singleton] at h;rw[h];exact this
theorem Afl {B:Nat} {p:Pg} (h:A4l B p):∀ k ∈ Pt p,Pn B k.2.2:=by
 have z:Pn B 0:=⟨Int.le_refl _,by omega⟩
 intro k hk
 rw[Acq] at hk
 rcases hk with hk | ⟨j,hj,hk⟩ | hk | ⟨j,hj,hk⟩ | ⟨j,hj,hk⟩
 ·rw[hk];exact z
 ·unfold L8 at hk
  cases hx:p.Ao[j]? with
  | none=>rw[hx] at hk;cases hk
  | some v =>
   rw[hx] at hk
   have:=h.loc v (List.mem_of_getElem? hx)
   simp only[List.mem_cons,List.not_mem_nil,or_false] at hk
   rcases hk with hk | hk | hk<;>rw[hk]<;>exact this
 ·rw[hk];exact z
 ·unfold Nu at hk
  cases hx:p.Ad[j]? with
  | none=>rw[hx] at hk;cases hk
  | some t =>
   rw[hx] at hk
   obtain⟨ha,hs⟩:=h.thr t (List.mem_of_getElem? hx)
   rw[List.mem_cons,List.mem_cons,List.mem_cons,List.mem_append,Ub,Ub] at hk
   rcases hk with hk | hk | hk | ⟨i,_,hi,hk⟩ | ⟨i,_,hi,hk⟩
   ·rw[hk];exact ha
   ·rw[hk];exact ha
   ·rw[hk];exact ha
   ·unfold Rt at hk
    cases hr:t.B2[i]? with
    | none=>rw[hr] at hk;cases hk
    | some r=>rw[hr] at hk;rw[List.mem_singleton.1 hk];exact ha
   ·unfold stC at hk
    cases hb:t.Al[i]? with
    | none=>rw[hb] at hk;cases hk
    | some x =>
     rw[hb] at hk
     obtain⟨h1,h2,h3⟩:=hs x (List.mem_of_getElem? hb)
     dsimp only at hk
     rw[List.mem_append,List.mem_cons,List.mem_cons,List.mem_append] at hk
     rcases hk with hk | hk | hk | hk | hk
     ·revert hk
      cases x.Ac==13
      ·intro h;cases h
      ·intro h;rw[cond_true,List.mem_singleton] at h;rw[h];exact h1
     ·rw[hk];exact h1
     ·rw[hk];exact h1
     ·exact Zp h2 k hk
     ·exact Zp h3 k hk
 ·unfold Rf at hk
  cases hx:p.Aq[j]? with
  | none=>rw[hx] at hk;cases hk
  | some c =>
   rw[hx] at hk
   obtain⟨h1,h2⟩:=h.cl c (List.mem_of_getElem? hx)
   rcases List.mem_cons.1 hk with hk | hk
   ·rw[hk];exact h1
   ·exact Zp h2 k hk
theorem Aeg {B:Nat} {p:Pg} (h:A4l B p):Pn B (Wd p).2:=by
 have z:Pn B 0:=⟨Int.le_refl _,by omega⟩
 unfold Wd
 cases I4 p with
 | false=>exact z
 | true =>
  rw[cond_true]
  cases hb:Eb (Pt p) with
  | none=>exact z
  | some b =>
   obtain⟨k,k1,k2,_⟩:=A1o _ _ hb
   rw[← k2];exact Afl h k k1
theorem T7 {w:List UInt8} {l:List Tk} {s:Ps} (h:(sgF w l s).2.1=0):s.2.1=0:=Decidable.byContradiction fun c=>A1u c h
theorem A2z {l:List Tk} {s:Ps} (h:(nmF l s).2.2.1=0):s.2.1=0∧isN l s.1=true∧(nmF l s).1=txt l s.1:=by
 rcases A8o (l:=l) (s:=s) with ⟨_,h1,h0,h2,_⟩ | ⟨h1,_⟩
 ·exact⟨h0,h1,h2⟩
 ·exact absurd h h1
theorem Af4 {l:List Tk} {s:Ps} (h:(nuF l s).2.2.1=0):s.2.1=0∧isK l s.1=true∧(nuF l s).1=A1n l s.1:=by
 rcases A99 (l:=l) (s:=s) with ⟨_,h1,h0,h2,_⟩ | ⟨h1,_⟩
 ·exact⟨h0,h1,h2⟩
 ·exact absurd h h1
theorem Abd {T:Nat} {l:List Tk} (hk:Toks T l) (i:Nat):Sa (A1n l i)=true:=by
 unfold A1n
 cases h:l[i]? with
 | none=>decide
 | some t=>have:=hk.ok t (List.mem_of_getElem? h);exact decide_eq_true ⟨this.2.1,this.2.2⟩
theorem Wc {B T:Nat} {l:List Tk} (hl:TokB B T l) (i:Nat):Pn B (atA l i):=by
 unfold atA
 cases h:l[i]? with
 | none=>exact⟨(show(0:Int)≤0 by decide),(show(0:Int)≤B by omega)⟩
 | some t=>exact hl.tk h
theorem A8d {B:Nat} {a:Int} (h:Pn B a):decide (0≤a)=true:=decide_eq_true h.1
theorem Ahp {B T:Nat} {l:List Tk} (hl:TokB B T l) {s:Ps} (h:(Rr l s).2.2.1=0):Ov (Rr l s).1=true∧Pn B (Rr l s).1.A8:=by
 unfold Rr at h ⊢
 dsimp only at h ⊢
 obtain⟨a1,_,a3⟩:=Af4 (T7 h)
 obtain⟨_,b2,b3⟩:=A2z (T7 a1)
 refine⟨?_,Wc hl _⟩
 simp only[Ov,Bool.and_eq_true]
 exact⟨by rw[b3];exact Ua b2,by rw[a3];exact Abd hl.toks _,A8d (Wc hl _)⟩
theorem A55 {B T:Nat} {l:List Tk} (hl:TokB B T l):∀ (K:Nat) (s:Ps) (acc:List Va),(s.2.1=0→∀ v ∈ acc,Ov v=true∧Pn B v.A8)→(If l K s acc).2.2.1=0→s.2.1=0∧∀ v ∈ (If l K s acc).1,Ov v=true∧Pn B v.A8
 | 0,s,acc,h,h0=>⟨h0,h h0⟩
 | K+1,s,acc,h,h0=>by
  rw[If] at h0 ⊢
  cases hc:Hx [108,111,99] l s with
  | false=>rw[hc] at h0;exact⟨h0,h h0⟩
  | true =>
   rw[hc,cond_true] at h0
   rw[cond_true]
   have hs:=(P7 hc).2
   refine⟨hs,(A55 hl K _ _ (fun e v hv=>?_) h0).2⟩
   rcases List.mem_append.1 hv with hv | hv
   ·exact h hs v hv
   ·rw[List.mem_singleton.1 hv];exact Ahp hl e
theorem A5f {l:List Tk}:∀ (K:Nat) (s:Ps) (acc:List (List UInt8)),(s.2.1=0→∀ v ∈ acc,Ca v=true)→(Iz l K s acc).2.2.1=0→s.2.1=0∧∀ v ∈ (Iz l K s acc).1,Ca v=true
 | 0,s,acc,h,h0=>⟨h0,h h0⟩
 | K+1,s,acc,h,h0=>by
  rw[Iz] at h0 ⊢
  cases hc:s.2.1==0&&Bw l s.1 [44] with
  | false=>rw[hc] at h0;exact⟨h0,h h0⟩
  | true =>
   rw[hc,cond_true] at h0
   rw[cond_true]
   rw[Bool.and_eq_true,beq_iff_eq] at hc
   refine⟨hc.1,(A5f K _ _ (fun e v hv=>?_) h0).2⟩
   rcases List.mem_append.1 hv with hv | hv
   ·exact h hc.1 v hv
   ·obtain⟨_,b2,b3⟩:=A2z e
    rw[List.mem_singleton.1 hv,b3];exact Ua b2
theorem Aa2 {l:List Tk}:∀ (K:Nat) (s:Ps) (acc:List (List UInt8)),acc.length≤s.1→(Iz l K s acc).1.length≤(Iz l K s acc).2.1
 | 0,s,acc,h=>h
 | K+1,s,acc,h=>by
  rw[Iz]
  cases hc:s.2.1==0&&Bw l s.1 [44] with
  | false=>exact h
  | true =>
   have b1:=Sd (l:=l) (s:=(s.1+1,s.2))
   dsimp only at b1
   exact Aa2 K _ _ (by rw[List.length_append];simp;omega)
theorem Aez {T:Nat} {l:List Tk} (hk:Toks T l) {s:Ps} (h:(Ky l s).2.2.1=0):s.2.1=0∧∀ v ∈ (Ky l s).1,Ca v=true:=by
 unfold Ky at h ⊢
 cases hc:Hx [114,101,103] l s with
 | false=>rw[hc] at h;exact⟨h,fun v hv=>(by cases hv)⟩
 | true =>
  rw[hc,cond_true] at h
  refine⟨(P7 hc).2,(A5f _ _ _ (fun e v hv=>?_) (T7 h)).2⟩
  obtain⟨_,b2,b3⟩:=A2z e
  rw[List.mem_singleton.1 hv,b3];exact Ua b2
theorem Ag5 {T:Nat} {l:List Tk} (hk:Toks T l) {s:Ps}:(Ky l s).1.length≤l.length+1:=by
 unfold Ky
 cases hc:Hx [114,101,103] l s with
 | false=>simp
 | true =>
  obtain⟨h1,h2⟩:=P7 hc
  have a1:D5 l (nmF l (s.1+1,s.2)).2:=T0 h1
  have b1:=Sd (l:=l) (s:=(s.1+1,s.2))
  dsimp only at b1
  obtain⟨_,r2,_⟩:=Aaf hk (T+70) (Nat.le_refl _) (l.length+1) (l.length+2) (l.length+2) (nmF l (s.1+1,s.2)).2 [(nmF l (s.1+1,s.2)).1] a1 Ox (by omega) (by omega) (by simp)
  have:=Aa2 (l:=l) (l.length+2) (nmF l (s.1+1,s.2)).2 [(nmF l (s.1+1,s.2)).1] (by simp;omega)
  unfold D5 at r2
  show(Iz l (l.length+2) (nmF l (s.1+1,s.2)).2 [(nmF l (s.1+1,s.2)).1]).1.length≤l.length+1
  omega
theorem Ag0 {B T:Nat} {l:List Tk} (hl:TokB B T l) {s:Ps} (hs:D5 l s) (h:(Lu l s).2.2.1=0):s.2.1=0∧Kw (Lu l s).1=true∧∀ x ∈ (Lu l s).1,A83 B x:=by
 unfold Lu at h ⊢
 cases hc:s.2.1==0 with
 | false =>
  rw[hc,cond_false] at h
  rw[beq_eq_false_iff_ne] at hc
  exact absurd (T7 h) hc
 | true =>
  rw[hc,cond_true] at h
  rw[beq_iff_eq] at hc
  rw[cond_true]
  refine⟨hc,?_,(Al1 hl hs).1⟩
  rcases A9k hl.toks hs with ⟨g,_⟩ | ⟨_,_,_,_,g,_⟩
  ·exact absurd (T7 h) (Zr g)
  ·exact g
theorem Ah0 {B T:Nat} {l:List Tk} (hl:TokB B T l) {s:Ps} (h1:s.1 < l.length) (h:(Mx l s).2.2.1=0):M2 (Mx l s).1=true∧Adt B (Mx l s).1:=by
 have a1:D5 l (nmF l (s.1+1,s.2)).2:=T0 h1
 have a2:=N3 (w:=[123]) a1
 obtain⟨a3,_⟩:=Abt hl.toks a2
 unfold Mx at h ⊢
 dsimp only at h ⊢
 obtain⟨b1,b2,b3⟩:=Ag0 hl a3 h
 obtain⟨c1,c2⟩:=Aez hl.toks b1
 obtain⟨_,d2,d3⟩:=A2z (T7 c1)
 refine⟨?_,⟨Wc hl _,b3⟩⟩
 simp only[M2,Bool.and_eq_true,List.all_eq_true]
 exact⟨by rw[d3];exact Ua d2,A8d (Wc hl _),b2,c2⟩
theorem A52 {B T:Nat} {l:List Tk} (hl:TokB B T l):∀ (K:Nat) (s:Ps) (acc:List Th),(s.2.1=0→∀ v ∈ acc,M2 v=true∧Adt B v)→(∀ v ∈ acc,v.B2.length≤l.length+1)→(Iy l K s acc).2.2.1=0→s.2.1=0∧(∀ v ∈ (Iy l K s acc).1,M2 v=true∧Adt B v)∧∀ v ∈ (Iy l K s acc).1,v.B2.length≤l.length+1
 | 0,s,acc,h,hr,h0=>⟨h0,h h0,hr⟩
 | K+1,s,acc,h,hr,h0=>by
  rw[Iy] at h0 ⊢
  cases hc:Hx [116,104,114,101,97,100] l s with
  | false=>rw[hc] at h0;exact⟨h0,h h0,hr⟩
  | true =>
   rw[hc,cond_true] at h0
   rw[cond_true]
   obtain⟨h1,hs⟩:=P7 hc
   refine⟨hs,(A52 hl K _ _ (fun e v hv=>?_) (fun v hv=>?_) h0).2⟩
   ·rcases List.mem_append.1 hv with hv | hv
    ·exact h hs v hv
    ·rw[List.mem_singleton.1 hv];exact Ah0 hl h1 e
   ·rcases List.mem_append.1 hv with hv | hv
    ·exact hr v hv
    ·rw[List.mem_singleton.1 hv];exact Ag5 hl.toks
theorem A1v (x:Nd):Fn (L3 x).Bg=Fn x.Bg:=by
 unfold L3;split
 ·rename_i h;rw[h];show Fn 3=Fn 2;decide
 ·rfl
theorem Agd:∀ (l:List Nd) (w:Nat),H9 (l.map L3) w=H9 l w
 | [],w=>rfl
 | x :: l,w=>by rw[List.map_cons,H9,H9,Agd l,A1v]
theorem A7n:∀ (l:List Nd) (s:Int×List Int),Ha (l.map L3) s=Ha l s
 | [],s=>rfl
 | x :: l,(m,R)=>by rw[List.map_cons,Ha,Ha,A7n l,A7n l,A1v]
theorem Ahq {x:Nd} (h:G2 x=true):G2 (L3 x)=true:=by
 unfold L3
 by_cases c:x.Bg=2
 ·rw[if_pos c]
  simp only[G2,c] at h ⊢
  exact h
 ·rw[if_neg c];exact h
theorem Ahl {l:List Nd} (h:Ey l=true):Ey (l.map L3)=true:=by
 simp only[Ey,Bool.and_eq_true,List.length_map,Agd,A7n] at h ⊢
 refine⟨h.1,h.2.1,?_,h.2.2.2⟩
 rw[List.all_eq_true] at h ⊢
 intro x hx
 obtain⟨y,hy,rfl⟩:=List.mem_map.1 hx
 exact Ahq (h.2.2.1 y hy)
theorem Amk (l:List Nd):clB (l.map L3)=true:=by
 unfold clB
 rw[List.all_eq_true]
 intro x hx
 obtain⟨hx,_⟩:=List.mem_filter.1 hx
 obtain⟨y,_,rfl⟩:=List.mem_map.1 hx
 unfold L3
 split
 ·rfl
 ·rename_i c;rw[beq_eq_false_iff_ne.2 c];rfl
theorem Aku {B T:Nat} {l:List Tk} (hl:TokB B T l) {k:Int} (hk:1≤k∧k≤3) {s:Ps} (h1:s.1 < l.length) (h:(clF k l s).2.2.1=0):Rc (clF k l s).1=true∧Pn B (clF k l s).1.A8∧∀ x ∈ (clF k l s).1.B4,Nt B x:=by
 unfold clF at h ⊢
 dsimp only at h ⊢
 refine⟨?_,Wc hl _,fun x hx=>?_⟩
 ·simp only[Rc,Bool.and_eq_true]
  refine⟨Amk _,decide_eq_true hk,?_,A8d (Wc hl _)⟩
  rcases A1b hl.toks (show s.1+1≤l.length from h1) with ⟨g,_⟩ | ⟨_,_,_,_,_,g⟩
  ·exact absurd (T7 h) (Zr g)
  ·exact Ahl g
 ·obtain⟨y,hy,rfl⟩:=List.mem_map.1 hx
  have:=(Alo hl (show s.1+1≤l.length from h1)).1 y hy
  unfold L3;split<;>exact this
theorem A7o {B T:Nat} {l:List Tk} (hl:TokB B T l):∀ (K:Nat) (s:Ps) (acc:List Cl),(s.2.1=0→∀ v ∈ acc,Rc v=true∧Pn B v.A8∧∀ x ∈ v.B4,Nt B x)→(M8 l K s acc).2.2.1=0→s.2.1=0∧∀ v ∈ (M8 l K s acc).1,Rc v=true∧Pn B v.A8∧∀ x ∈ v.B4,Nt B x
 | 0,s,acc,h,h0=>⟨h0,h h0⟩
 | K+1,s,acc,h,h0=>by
  rw[M8] at h0 ⊢
  by_cases hc:0 < Mu l s
  ·rw[Af hc] at h0 ⊢
   obtain⟨h1,hs,hk⟩:=A3x hc
   refine⟨hs,(A7o hl K _ _ (fun e v hv=>?_) h0).2⟩
   rcases List.mem_append.1 hv with hv | hv
   ·exact h hs v hv
   ·rw[List.mem_singleton.1 hv];exact Aku hl (by omega) h1 e
  ·rw[As hc] at h0 ⊢
   exact⟨h0,h h0⟩
theorem Ah2 {l:List Tk} {s:Ps} (h:(Xb l s).2.1=0):s.2.1=0:=by
 unfold Xb at h
 cases hc:decide (s.1 < l.length) with
 | true=>rw[hc] at h;exact absurd h (Acy l s)
 | false=>rw[hc] at h;exact h
theorem Adx {T:Nat} {l:List Tk} (hk:Toks T l) (h:(K2 l).2.2.1=0):Sa (K2 l).1=true:=by
 unfold K2 at h ⊢
 dsimp only at h ⊢
 obtain⟨_,_,a3⟩:=Af4 (T7 h)
 rw[a3];exact Abd hk _
theorem Afj {B T:Nat} {l:List Tk} (hl:TokB B T l) (hlen:l.length≤3500):(Sr l).2.1≠0∧(Sr l).1=noP∨(Sr l).2=(0,0)∧I4 (Sr l).1=true∧K1 (Sr l).1∧A4l B (Sr l).1:=by
 have hk:=hl.toks
 have p0:=Aik l
 obtain⟨_,_,p1,q1⟩:=Afc hk (T+70) (l,0,0) rfl (Nat.le_refl _) (l.length+1) (l.length+2) (l.length+2) (K2 l).2 [] p0 Ox (by omega) (by omega) (by simp)
 obtain⟨_,_,p2,q2⟩:=Agb hk (18*l.length+T+1000) (l,0,0) rfl (Nat.le_refl _) (l.length+1) (l.length+2) (l.length+2) _ [] p1 Ox (by omega) (by omega) (by simp)
 obtain⟨_,_,p3,q3⟩:=Ajg hk (18*l.length+T+1000) (l,0,0) rfl (Nat.le_refl _) (l.length+1) (l.length+2) (l.length+2) _ [] p2 Ox (by omega) (by omega) (by simp)
 unfold D5 at p1
 unfold Sr
 dsimp only
 cases he:(Xb l (M8 l (l.length+2) (Iy l (l.length+2) (If l (l.length+2) (K2 l).2 []).2 []).2 []).2).2.1 != 0 with
 | true=>rw[bne_iff_ne] at he;exact .inl ⟨he,rfl⟩
 | false =>
  rw[cond_false]
  rw[bne_eq_false_iff_eq] at he
  obtain⟨c1,c2⟩:=A7o hl _ _ [] (fun _ v hv=>(by cases hv)) (Ah2 he)
  obtain⟨t1,t2,t3⟩:=A52 hl _ _ [] (fun _ v hv=>(by cases hv)) (fun v hv=>(by cases hv)) c1
  obtain⟨v1,v2⟩:=A55 hl _ _ [] (fun _ v hv=>(by cases hv)) t1
  have hr:I4 (⟨(K2 l).1,(If l (l.length+2) (K2 l).2 []).1,(Iy l (l.length+2) (If l (l.length+2) (K2 l).2 []).2 []).1,(M8 l (l.length+2) (Iy l (l.length+2) (If l (l.length+2) (K2 l).2 []).2 []).2 []).1⟩:Pg)=true:=by
   simp only[I4,Bool.and_eq_true,List.all_eq_true]
   exact⟨Adx hk v1,fun v hv=>(v2 v hv).1,fun v hv=>(t2 v hv).1,fun v hv=>(c2 v hv).1⟩
  exact .inr ⟨rfl,hr,Ab1 hr (by dsimp only;omega) (by dsimp only;omega) (by dsimp only;omega) (fun t ht=>by have:=t3 t ht;omega),⟨fun v hv=>(v2 v hv).2,fun v hv=>(t2 v hv).2,fun v hv=>(c2 v hv).2⟩⟩
theorem Ajm (s:List UInt8) (hs:s.length≤90000):TokB s.length s.length (Vy s):=⟨Abv s hs,by omega,(Xy s).1⟩
theorem Ab0 {s:List UInt8} (hs:s.length≤3400):(Na s).2.1≠0∧(Na s).1=noP∨(Na s).2=(0,0)∧I4 (Na s).1=true∧K1 (Na s).1∧A4l s.length (Na s).1:=by
 have h2:=(Xy s).2
 unfold Na
 cases herr:(M1 s).err != 0 with
 | true=>rw[bne_iff_ne] at herr;exact .inl ⟨herr,rfl⟩
 | false=>exact Afj (Ajm s (by omega)) (by omega)
theorem Ahe:K1 noP:=⟨by decide,by decide,by decide,fun v hv=>(by cases hv),fun v hv=>(by cases hv),fun v hv=>(by cases hv)⟩
theorem Am0 (B:Nat):A4l B noP:=⟨fun v hv=>(by cases hv),fun v hv=>(by cases hv),fun v hv=>(by cases hv)⟩
theorem A8n (k5:Le 100000=some true) (s:List UInt8):Ji 100001 s=some true:=by
 rw[Ji]
 by_cases c:3000 < ((s.length:Nat):Int)
 ·rw[Af c,k5];rfl
 rw[As c]
 have hp:Fo 100000 s=some (Na s).1:=by
  rw[Fo,Akg (T:=0) (by omega) (by omega)];rfl
 have hb:K1 (Na s).1∧A4l s.length (Na s).1:=by
  rcases Ab0 (s:=s) (by omega) with ⟨_,h⟩ | ⟨_,_,h1,h2⟩
  ·rw[h];exact⟨Ahe,Am0 _⟩
  ·exact⟨h1,h2⟩
 have hi:=Aeg hb.2
 rw[hp,Option.bind_some,Ahu _ _ hb.1 (by omega),Option.bind_some,Ajz _ _ hb.1 (by omega),Option.bind_some,beq_self_eq_true,beq_self_eq_true,decide_eq_true hi.1,decide_eq_true hi.2,k5]
 rfl
end Go.Proofs.YtpnhafdimkmbbaaGreat
end
section
namespace Go.Proofs.YtpnhafdimkmbbaaGreat
set_option linter.unusedVariables false
set_option maxRecDepth 100000
theorem Ahb:Le 100000=some true:=by decide +kernel
theorem A9e (s:List UInt8):Ji 100001 s=some true:=A8n Ahb s
end Go.Proofs.YtpnhafdimkmbbaaGreat
end
section
namespace Go.Proofs.YtpnhafdimkmbbaaGreat
set_option linter.unusedVariables false
set_option linter.unusedSimpArgs false
set_option maxRecDepth 100000
set_option maxHeartbeats 4000000
theorem Ah {n:Nat} ⦃A78:Bool⦄ ⦃A1r:Int⦄ ⦃A3n:Int⦄ ⦃A9:Int⦄ ⦃A3:(List B9)⦄ ⦃A1:(List Am)⦄ ⦃A2:(List At)⦄ ⦃c_e:Int⦄ ⦃c_at:Int⦄ ⦃Ap:(List ((List UInt8)×Int))⦄ ⦃Ar:(List ((List UInt8)×(List ((List UInt8)×Int))))⦄ ⦃r:(Bool×Int×Int)⦄:Ag n A78 A1r A3n A9 A3 A1 A2 c_e c_at Ap Ar=some r→CN n 18 [AV.ptr 0 0,bA A78,iA A1r,iA A3n] [Ob.var 52 [iA A9,AV.sl 3 (List.map Ai A3),AV.sl 4 (List.map Ab A1),AV.sl 3 (List.map Ae A2),AV.mapp 1,AV.mapp 2,iA c_e,iA c_at],Ob.mp none false (List.map A4 Ap),Ob.mp none false (List.map A6 Ar)]=some (bA r.1,[Ob.var 52 [iA A9,AV.sl 3 (List.map Ai A3),AV.sl 4 (List.map Ab A1),AV.sl 3 (List.map Ae A2),AV.mapp 1,AV.mapp 2,iA r.2.1,iA r.2.2],Ob.mp none false (List.map A4 Ap),Ob.mp none false (List.map A6 Ar)]):=by
 intro h;rcases n with _|n;cases h
 rw[Ag] at h
 refine Aw Tryz.func18 (by rfl) rfl rfl (Nat.le_of_ble_eq_true rfl) ?_
 intro call hc;conv=>lhs;whnf
 revert h
 refine br ?_ ?_
 intro h;cases sj h
 try simp only[ls]
 exact fq (y:=some (bA ((c_e==0)),[Ob.var 52 [iA A9,AV.sl 3 (List.map Ai A3),AV.sl 4 (List.map Ab A1),AV.sl 3 (List.map Ae A2),AV.mapp 1,AV.mapp 2,iA c_e,iA c_at],Ob.mp none false (List.map A4 Ap),Ob.mp none false (List.map A6 Ar)]))
 refine br ?_ ?_
 intro h;cases sj h
 try simp only[ls]
 exact fq (y:=some (bA ((A1r==0)),[Ob.var 52 [iA A9,AV.sl 3 (List.map Ai A3),AV.sl 4 (List.map Ab A1),AV.sl 3 (List.map Ae A2),AV.mapp 1,AV.mapp 2,iA A1r,iA A3n],Ob.mp none false (List.map A4 Ap),Ob.mp none false (List.map A6 Ar)]))
 intro h;cases sj h
 try simp only[ls]
 exact fq (y:=some (bA ((c_e==0)),[Ob.var 52 [iA A9,AV.sl 3 (List.map Ai A3),AV.sl 4 (List.map Ab A1),AV.sl 3 (List.map Ae A2),AV.mapp 1,AV.mapp 2,iA c_e,iA c_at],Ob.mp none false (List.map A4 Ap),Ob.mp none false (List.map A6 Ar)]))
theorem Kt {n:Nat} ⦃S6:Aa⦄ ⦃So:Int⦄ ⦃R5:(List B9)⦄ ⦃Ms:(List Am)⦄ ⦃Nr:(List At)⦄ ⦃A50:Int⦄ ⦃A0d:Int⦄ ⦃Ar:(List ((List UInt8)×Int))⦄ ⦃Bn:(List ((List UInt8)×(List ((List UInt8)×Int))))⦄ ⦃r:Bool⦄:Ee n S6 So R5 Ms Nr A50 A0d Ar Bn=some r→CN n 41 [AV.agg [iA S6.Bg,iA S6.Cu,sA S6.An,sA S6.Df,iA S6.A8],AV.ptr 0 0] [Ob.var 48 [AV.ptr 1 0],Ob.var 52 [iA So,AV.sl 3 (List.map Ai R5),AV.sl 4 (List.map Ab Ms),AV.sl 3 (List.map Ae Nr),AV.mapp 2,AV.mapp 3,iA A50,iA A0d],Ob.mp none false (List.map A4 Ar),Ob.mp none false (List.map A6 Bn)]=some (bA r,[Ob.var 48 [AV.ptr 1 0],Ob.var 52 [iA So,AV.sl 3 (List.map Ai R5),AV.sl 4 (List.map Ab Ms),AV.sl 3 (List.map Ae Nr),AV.mapp 2,AV.mapp 3,iA A50,iA A0d],Ob.mp none false (List.map A4 Ar),Ob.mp none false (List.map A6 Bn)]):=by
 intro h;rcases n with _|n;cases h
 rw[Ee] at h
 refine Aw Tryz.func41 (by rfl) rfl rfl (Nat.le_of_ble_eq_true rfl) ?_
 intro call hc;conv=>lhs;whnf
 revert h
 refine br ?_ ?_
 intro h
 simp only[B8,ls]
 conv=>lhs;whnf
 revert h
 intro h;cases sj h
 try simp only[ls]
 exact fq (y:=some (bA (decide (0<(C2 Ar S6.An 0))),[Ob.var 48 [AV.ptr 1 0],Ob.var 52 [iA So,AV.sl 3 (List.map Ai R5),AV.sl 4 (List.map Ab Ms),AV.sl 3 (List.map Ae Nr),AV.mapp 2,AV.mapp 3,iA A50,iA A0d],Ob.mp none false (List.map A4 Ar),Ob.mp none false (List.map A6 Bn)]))
 intro h
 simp only[Jt,ls]
 conv=>lhs;whnf
 revert h
 intro h
 simp only[B8,ls]
 conv=>lhs;whnf
 revert h
 intro h;cases sj h
 try simp only[ls]
 exact fq (y:=some (bA (decide (0<(C2 (C2 Bn S6.Df ([]:(List ((List UInt8)×Int)))) S6.An 0))),[Ob.var 48 [AV.ptr 1 0],Ob.var 52 [iA So,AV.sl 3 (List.map Ai R5),AV.sl 4 (List.map Ab Ms),AV.sl 3 (List.map Ae Nr),AV.mapp 2,AV.mapp 3,iA A50,iA A0d],Ob.mp none false (List.map A4 Ar),Ob.mp none false (List.map A6 Bn)]))
theorem W6 {n:Nat} ⦃Dk:(List Aa)⦄ ⦃A9:Int⦄ ⦃A3:(List B9)⦄ ⦃A1:(List Am)⦄ ⦃A2:(List At)⦄ ⦃c_e:Int⦄ ⦃c_at:Int⦄ ⦃Ap:(List ((List UInt8)×Int))⦄ ⦃Ar:(List ((List UInt8)×(List ((List UInt8)×Int))))⦄ ⦃r:(Int×Int)⦄:I0 n Dk A9 A3 A1 A2 c_e c_at Ap Ar=some r→CN n 40 [AV.ptr 0 0,AV.sl 5 (List.map Ak Dk),AV.func 41 [] [AV.ptr 3 0]] [Ob.var 52 [iA A9,AV.sl 3 (List.map Ai A3),AV.sl 4 (List.map Ab A1),AV.sl 3 (List.map Ae A2),AV.mapp 1,AV.mapp 2,iA c_e,iA c_at],Ob.mp none false (List.map A4 Ap),Ob.mp none false (List.map A6 Ar),Ob.var 48 [AV.ptr 0 0]]=some (AV.tup [],[Ob.var 52 [iA A9,AV.sl 3 (List.map Ai A3),AV.sl 4 (List.map Ab A1),AV.sl 3 (List.map Ae A2),AV.mapp 1,AV.mapp 2,iA r.1,iA r.2],Ob.mp none false (List.map A4 Ap),Ob.mp none false (List.map A6 Ar),Ob.var 48 [AV.ptr 0 0]]):=by
 intro h;rcases n with _|n;cases h
 rw[I0] at h
 refine Aw Tryz.func40 (by rfl) rfl rfl (Nat.le_of_ble_eq_true rfl) ?_
 intro call hc;conv=>lhs;whnf
 revert h
 intro h;refine B1 h ?_;clear h;intro o11 ho11 h
 refine lq (σ:=(Int×Int×Int)) (τ:=(Int×Int)) (ν:=(Int×Int)) 0 (fun(s1,s2,s3) a5=>Bh 42 [(0,AV.ptr 0 0),(2,AV.func 41 [] [AV.ptr 3 0]),(8,AV.sl 5 (List.map Ak Dk)),(9,iA (((Dk.length:Nat):Int))),(10,iA s1)]) (fun(s1,s2,s3) a5=>[Ob.var 52 [iA A9,AV.sl 3 (List.map Ai A3),AV.sl 4 (List.map Ab A1),AV.sl 3 (List.map Ae A2),AV.mapp 1,AV.mapp 2,iA s2,iA s3],Ob.mp none false (List.map A4 Ap),Ob.mp none false (List.map A6 Ar),Ob.var 48 [AV.ptr 0 0]]) (fun(x33,x34) a32=>Bh 42 []) (fun(x33,x34) a32=>[Ob.var 52 [iA A9,AV.sl 3 (List.map Ai A3),AV.sl 4 (List.map Ab A1),AV.sl 3 (List.map Ae A2),AV.mapp 1,AV.mapp 2,iA x33,iA x34],Ob.mp none false (List.map A4 Ap),Ob.mp none false (List.map A6 Ar),Ob.var 48 [AV.ptr 0 0]]) (fun v=>(AV.tup [],[Ob.var 52 [iA A9,AV.sl 3 (List.map Ai A3),AV.sl 4 (List.map Ab A1),AV.sl 3 (List.map Ae A2),AV.mapp 1,AV.mapp 2,iA v.1,iA v.2],Ob.mp none false (List.map A4 Ap),Ob.mp none false (List.map A6 Ar),Ob.var 48 [AV.ptr 0 0]])) (fun k s=>Cn n Dk A9 A3 A1 A2 Ap Ar k s.1 s.2.1 s.2.2) (fun s=>rfl) o11 n (0,c_e,c_at) (fun _=>0) ho11 ?_ ?_
 intro k4 ss a5 K6 cont7 hK8 hcont9 h hr10
 obtain⟨s1,s2,s3⟩:=ss
 replace h:Cn n Dk A9 A3 A1 A2 Ap Ar (k4+1) s1 s2 s3=some o11:=h
 rw[Cn] at h
 conv=>lhs;whnf
 revert h
 refine br ?_ ?_
 refine ix ?_;intro x13
 refine br ?_ ?_
 refine ca hc (fun _ h=>Ah h) ?_;intro y15
 exact fun h=>cq (hcont9 (IntKind.i64.wrap (s1+1),y15.2.1,y15.2.2) (fun _=>0) h)
 refine br ?_ ?_
 refine ca hc (fun _ h=>Kt h) ?_;intro y18
 refine ca hc (fun _ h=>Ah h) ?_;intro y20
 exact fun h=>cq (hcont9 (IntKind.i64.wrap (s1+1),y20.2.1,y20.2.2) (fun _=>0) h)
 refine br ?_ ?_
 refine ca hc (fun _ h=>Kt h) ?_;intro y23
 refine ca hc (fun _ h=>Ah h) ?_;intro y25
 exact fun h=>cq (hcont9 (IntKind.i64.wrap (s1+1),y25.2.1,y25.2.2) (fun _=>0) h)
 refine br ?_ ?_
 refine ca hc (fun _ h=>Kt h) ?_;intro y28
 refine ca hc (fun _ h=>Ah h) ?_;intro y30
 exact fun h=>cq (hcont9 (IntKind.i64.wrap (s1+1),y30.2.1,y30.2.2) (fun _=>0) h)
 exact fun h=>cq (hcont9 (IntKind.i64.wrap (s1+1),s2,s3) (fun _=>0) h)
 intro h;cases sj h
 exact kq (hr10 (fun _=>0))
 refine lrc ?_ ?_
 intro v e;subst e;cases sj h;rfl
 intro t a32 e;subst e
 obtain⟨x33,x34⟩:=t
 dsimp only at h
 conv=>lhs;whnf
 revert h
 intro h;cases sj h
 try simp only[ls]
 exact fq (y:=some (AV.tup [],[Ob.var 52 [iA A9,AV.sl 3 (List.map Ai A3),AV.sl 4 (List.map Ab A1),AV.sl 3 (List.map Ae A2),AV.mapp 1,AV.mapp 2,iA x33,iA x34],Ob.mp none false (List.map A4 Ap),Ob.mp none false (List.map A6 Ar),Ob.var 48 [AV.ptr 0 0]]))
theorem Px {n:Nat} ⦃B7:Int⦄ ⦃Ch:At⦄ ⦃A9:Int⦄ ⦃A3:(List B9)⦄ ⦃A1:(List Am)⦄ ⦃A2:(List At)⦄ ⦃c_e:Int⦄ ⦃c_at:Int⦄ ⦃Ap:(List ((List UInt8)×Int))⦄ ⦃Ar:(List ((List UInt8)×(List ((List UInt8)×Int))))⦄ ⦃r:(Int×Int)⦄:G6 n B7 Ch A9 A3 A1 A2 c_e c_at Ap Ar=some r→CN n 21 [AV.ptr 0 0,iA B7,AV.agg [iA Ch.Ac,AV.sl 5 (List.map Ak Ch.B4),iA Ch.A8]] [Ob.var 52 [iA A9,AV.sl 3 (List.map Ai A3),AV.sl 4 (List.map Ab A1),AV.sl 3 (List.map Ae A2),AV.mapp 1,AV.mapp 2,iA c_e,iA c_at],Ob.mp none false (List.map A4 Ap),Ob.mp none false (List.map A6 Ar)]=some (AV.tup [],[Ob.var 52 [iA A9,AV.sl 3 (List.map Ai A3),AV.sl 4 (List.map Ab A1),AV.sl 3 (List.map Ae A2),AV.mapp 1,AV.mapp 2,iA r.1,iA r.2],Ob.mp none false (List.map A4 Ap),Ob.mp none false (List.map A6 Ar)]):=by
 intro h;rcases n with _|n;cases h
 rw[G6] at h
 refine Aw Tryz.func21 (by rfl) rfl rfl (Nat.le_of_ble_eq_true rfl) ?_
 intro call hc;conv=>lhs;whnf
 revert h
 refine ca hc (fun _ h=>Ah h) ?_;intro y1
 refine ca hc (fun _ h=>W6 h) ?_;intro y3
 intro h;cases sj h
 try simp only[ls]
 exact fq (y:=some (AV.tup [],[Ob.var 52 [iA A9,AV.sl 3 (List.map Ai A3),AV.sl 4 (List.map Ab A1),AV.sl 3 (List.map Ae A2),AV.mapp 1,AV.mapp 2,iA y3.1,iA y3.2],Ob.mp none false (List.map A4 Ap),Ob.mp none false (List.map A6 Ar)]))
theorem Kn {n:Nat} ⦃Bc:Aa⦄ ⦃Ap:(List ((List UInt8)×Int))⦄ ⦃r:Bool⦄:Fd n Bc Ap=some r→CN n 71 [AV.agg [iA Bc.Bg,iA Bc.Cu,sA Bc.An,sA Bc.Df,iA Bc.A8],AV.ptr 0 0] [Ob.var 49 [AV.mapp 1],Ob.mp none false (List.map A4 Ap)]=some (bA r,[Ob.var 49 [AV.mapp 1],Ob.mp none false (List.map A4 Ap)]):=by
 intro h;rcases n with _|n;cases h
 rw[Fd] at h
 refine Aw Tryz.func71 (by rfl) rfl rfl (Nat.le_of_ble_eq_true rfl) ?_
 intro call hc;conv=>lhs;whnf
 revert h
 intro h
 simp only[B8,ls]
 conv=>lhs;whnf
 revert h
 intro h;cases sj h
 try simp only[ls]
 exact fq (y:=some (bA (decide (0<(C2 Ap Bc.An 0))),[Ob.var 49 [AV.mapp 1],Ob.mp none false (List.map A4 Ap)]))
theorem Ba {n:Nat} ⦃Dk:(List Aa)⦄ ⦃A9:Int⦄ ⦃A3:(List B9)⦄ ⦃A1:(List Am)⦄ ⦃A2:(List At)⦄ ⦃c_e:Int⦄ ⦃c_at:Int⦄ ⦃Ap:(List ((List UInt8)×Int))⦄ ⦃Ar:(List ((List UInt8)×(List ((List UInt8)×Int))))⦄ ⦃F7:(List ((List UInt8)×Int))⦄ ⦃r:(Int×Int)⦄:B6 n Dk A9 A3 A1 A2 c_e c_at Ap Ar F7=some r→CN n 40 [AV.ptr 0 0,AV.sl 5 (List.map Ak Dk),AV.func 71 [] [AV.ptr 3 0]] [Ob.var 52 [iA A9,AV.sl 3 (List.map Ai A3),AV.sl 4 (List.map Ab A1),AV.sl 3 (List.map Ae A2),AV.mapp 1,AV.mapp 2,iA c_e,iA c_at],Ob.mp none false (List.map A4 Ap),Ob.mp none false (List.map A6 Ar),Ob.var 49 [AV.mapp 4],Ob.mp none false (List.map A4 F7)]=some (AV.tup [],[Ob.var 52 [iA A9,AV.sl 3 (List.map Ai A3),AV.sl 4 (List.map Ab A1),AV.sl 3 (List.map Ae A2),AV.mapp 1,AV.mapp 2,iA r.1,iA r.2],Ob.mp none false (List.map A4 Ap),Ob.mp none false (List.map A6 Ar),Ob.var 49 [AV.mapp 4],Ob.mp none false (List.map A4 F7)]):=by
 intro h;rcases n with _|n;cases h
 rw[B6] at h
 refine Aw Tryz.func40 (by rfl) rfl rfl (Nat.le_of_ble_eq_true rfl) ?_
 intro call hc;conv=>lhs;whnf
 revert h
 intro h;refine B1 h ?_;clear h;intro o11 ho11 h
 refine lq (σ:=(Int×Int×Int)) (τ:=(Int×Int)) (ν:=(Int×Int)) 0 (fun(s1,s2,s3) a5=>Bh 42 [(0,AV.ptr 0 0),(2,AV.func 71 [] [AV.ptr 3 0]),(8,AV.sl 5 (List.map Ak Dk)),(9,iA (((Dk.length:Nat):Int))),(10,iA s1)]) (fun(s1,s2,s3) a5=>[Ob.var 52 [iA A9,AV.sl 3 (List.map Ai A3),AV.sl 4 (List.map Ab A1),AV.sl 3 (List.map Ae A2),AV.mapp 1,AV.mapp 2,iA s2,iA s3],Ob.mp none false (List.map A4 Ap),Ob.mp none false (List.map A6 Ar),Ob.var 49 [AV.mapp 4],Ob.mp none false (List.map A4 F7)]) (fun(x33,x34) a32=>Bh 42 []) (fun(x33,x34) a32=>[Ob.var 52 [iA A9,AV.sl 3 (List.map Ai A3),AV.sl 4 (List.map Ab A1),AV.sl 3 (List.map Ae A2),AV.mapp 1,AV.mapp 2,iA x33,iA x34],Ob.mp none false (List.map A4 Ap),Ob.mp none false (List.map A6 Ar),Ob.var 49 [AV.mapp 4],Ob.mp none false (List.map A4 F7)]) (fun v=>(AV.tup [],[Ob.var 52 [iA A9,AV.sl 3 (List.map Ai A3),AV.sl 4 (List.map Ab A1),AV.sl 3 (List.map Ae A2),AV.mapp 1,AV.mapp 2,iA v.1,iA v.2],Ob.mp none false (List.map A4 Ap),Ob.mp none false (List.map A6 Ar),Ob.var 49 [AV.mapp 4],Ob.mp none false (List.map A4 F7)])) (fun k s=>Cf n Dk A9 A3 A1 A2 Ap Ar F7 k s.1 s.2.1 s.2.2) (fun s=>rfl) o11 n (0,c_e,c_at) (fun _=>0) ho11 ?_ ?_
 intro k4 ss a5 K6 cont7 hK8 hcont9 h hr10
 obtain⟨s1,s2,s3⟩:=ss
 replace h:Cf n Dk A9 A3 A1 A2 Ap Ar F7 (k4+1) s1 s2 s3=some o11:=h
 rw[Cf] at h
 conv=>lhs;whnf
 revert h
 refine br ?_ ?_
 refine ix ?_;intro x13
 refine br ?_ ?_
 refine ca hc (fun _ h=>Ah h) ?_;intro y15
 exact fun h=>cq (hcont9 (IntKind.i64.wrap (s1+1),y15.2.1,y15.2.2) (fun _=>0) h)
 refine br ?_ ?_
 refine ca hc (fun _ h=>Kn h) ?_;intro y18
 refine ca hc (fun _ h=>Ah h) ?_;intro y20
 exact fun h=>cq (hcont9 (IntKind.i64.wrap (s1+1),y20.2.1,y20.2.2) (fun _=>0) h)
 refine br ?_ ?_
 refine ca hc (fun _ h=>Kn h) ?_;intro y23
 refine ca hc (fun _ h=>Ah h) ?_;intro y25
 exact fun h=>cq (hcont9 (IntKind.i64.wrap (s1+1),y25.2.1,y25.2.2) (fun _=>0) h)
 refine br ?_ ?_
 refine ca hc (fun _ h=>Kn h) ?_;intro y28
 refine ca hc (fun _ h=>Ah h) ?_;intro y30
 exact fun h=>cq (hcont9 (IntKind.i64.wrap (s1+1),y30.2.1,y30.2.2) (fun _=>0) h)
 exact fun h=>cq (hcont9 (IntKind.i64.wrap (s1+1),s2,s3) (fun _=>0) h)
 intro h;cases sj h
 exact kq (hr10 (fun _=>0))
 refine lrc ?_ ?_
 intro v e;subst e;cases sj h;rfl
 intro t a32 e;subst e
 obtain⟨x33,x34⟩:=t
 dsimp only at h
 conv=>lhs;whnf
 revert h
 intro h;cases sj h
 try simp only[ls]
 exact fq (y:=some (AV.tup [],[Ob.var 52 [iA A9,AV.sl 3 (List.map Ai A3),AV.sl 4 (List.map Ab A1),AV.sl 3 (List.map Ae A2),AV.mapp 1,AV.mapp 2,iA x33,iA x34],Ob.mp none false (List.map A4 Ap),Ob.mp none false (List.map A6 Ar),Ob.var 49 [AV.mapp 4],Ob.mp none false (List.map A4 F7)]))
theorem X7 {n:Nat} ⦃Br:Am⦄ ⦃A9:Int⦄ ⦃A3:(List B9)⦄ ⦃A1:(List Am)⦄ ⦃A2:(List At)⦄ ⦃c_e:Int⦄ ⦃c_at:Int⦄ ⦃Ap:(List ((List UInt8)×Int))⦄ ⦃Ar:(List ((List UInt8)×(List ((List UInt8)×Int))))⦄ ⦃Bn:(List ((List UInt8)×Int))⦄ ⦃r:(Int×Int)⦄:In n Br A9 A3 A1 A2 c_e c_at Ap Ar Bn=some r→CN n 39 [AV.ptr 0 0,AV.agg [sA Br.An,AV.sl 1 (List.map Co Br.B2),AV.sl 9 (List.map Aj Br.Al),iA Br.A8],AV.mapp 3] [Ob.var 52 [iA A9,AV.sl 3 (List.map Ai A3),AV.sl 4 (List.map Ab A1),AV.sl 3 (List.map Ae A2),AV.mapp 1,AV.mapp 2,iA c_e,iA c_at],Ob.mp none false (List.map A4 Ap),Ob.mp none false (List.map A6 Ar),Ob.mp none false (List.map A4 Bn)]=some (AV.tup [],[Ob.var 52 [iA A9,AV.sl 3 (List.map Ai A3),AV.sl 4 (List.map Ab A1),AV.sl 3 (List.map Ae A2),AV.mapp 1,AV.mapp 2,iA r.1,iA r.2],Ob.mp none false (List.map A4 Ap),Ob.mp none false (List.map A6 Ar),Ob.mp none false (List.map A4 Bn)]):=by
 intro h;rcases n with _|n;cases h
 rw[In] at h
 refine Aw Tryz.func39 (by rfl) rfl rfl (Nat.le_of_ble_eq_true rfl) ?_
 intro call hc;conv=>lhs;whnf
 revert h
 intro h;refine B1 h ?_;clear h;intro o12 ho12 h
 refine lq (σ:=(Int×Int×Int×Int)) (τ:=(Int×Int)) (ν:=(Int×Int)) 0 (fun(s1,s2,s3,s4) a6=>Bh 82 [(0,AV.ptr 0 0),(5,AV.ptr 5 0),(6,iA s1),(7,AV.func 71 [] [AV.ptr 5 0]),(12,AV.sl 9 (List.map Aj Br.Al)),(13,iA (((Br.Al.length:Nat):Int))),(14,iA s2)]) (fun(s1,s2,s3,s4) a6=>[Ob.var 52 [iA A9,AV.sl 3 (List.map Ai A3),AV.sl 4 (List.map Ab A1),AV.sl 3 (List.map Ae A2),AV.mapp 1,AV.mapp 2,iA s3,iA s4],Ob.mp none false (List.map A4 Ap),Ob.mp none false (List.map A6 Ar),Ob.mp none false (List.map A4 Bn),Ob.var 40 [sA Br.An,AV.sl 1 (List.map Co Br.B2),AV.sl 9 (List.map Aj Br.Al),iA Br.A8],Ob.var 49 [AV.mapp 3]]) (fun(x145,x146) a144=>Bh 82 []) (fun(x145,x146) a144=>[Ob.var 52 [iA A9,AV.sl 3 (List.map Ai A3),AV.sl 4 (List.map Ab A1),AV.sl 3 (List.map Ae A2),AV.mapp 1,AV.mapp 2,iA x145,iA x146],Ob.mp none false (List.map A4 Ap),Ob.mp none false (List.map A6 Ar),Ob.mp none false (List.map A4 Bn),Ob.var 40 [sA Br.An,AV.sl 1 (List.map Co Br.B2),AV.sl 9 (List.map Aj Br.Al),iA Br.A8],Ob.var 49 [AV.mapp 3]]) (fun v=>(AV.tup [],[Ob.var 52 [iA A9,AV.sl 3 (List.map Ai A3),AV.sl 4 (List.map Ab A1),AV.sl 3 (List.map Ae A2),AV.mapp 1,AV.mapp 2,iA v.1,iA v.2],Ob.mp none false (List.map A4 Ap),Ob.mp none false (List.map A6 Ar),Ob.mp none false (List.map A4 Bn)])) (fun k s=>Bq n Br A9 A3 A1 A2 Ap Ar Bn k s.1 s.2.1 s.2.2.1 s.2.2.2) (fun s=>rfl) o12 n (0,0,c_e,c_at) (fun _=>0) ho12 ?_ ?_
 intro k5 ss a6 K7 cont8 hK9 hcont10 h hr11
 obtain⟨s1,s2,s3,s4⟩:=ss
 replace h:Bq n Br A9 A3 A1 A2 Ap Ar Bn (k5+1) s1 s2 s3 s4=some o12:=h
 rw[Bq] at h
 conv=>lhs;whnf
 revert h
 refine br ?_ ?_
 refine ix ?_;intro x14
 refine br ?_ ?_
 refine br ?_ ?_
 refine ca hc (fun _ h=>Ah h) ?_;intro y17
 refine br ?_ ?_
 refine ca hc (fun _ h=>Ah h) ?_;intro y20
 refine ca hc (fun _ h=>Ba h) ?_;intro y22
 refine ca hc (fun _ h=>Ba h) ?_;intro y24
 exact fun h=>cq (hcont10 ((if s1<(IntKind.i64.wrap ((IntKind.i64.wrap (s2+1))+x14.Al)) then(IntKind.i64.wrap ((IntKind.i64.wrap (s2+1))+x14.Al)) else s1),IntKind.i64.wrap (s2+1),y24.1,y24.2) (fun _=>0) h)
 intro h
 simp only[B8,ls]
 conv=>lhs;whnf
 revert h
 refine ca hc (fun _ h=>Ah h) ?_;intro y26
 refine ca hc (fun _ h=>Ba h) ?_;intro y28
 refine ca hc (fun _ h=>Ba h) ?_;intro y30
 exact fun h=>cq (hcont10 ((if s1<(IntKind.i64.wrap ((IntKind.i64.wrap (s2+1))+x14.Al)) then(IntKind.i64.wrap ((IntKind.i64.wrap (s2+1))+x14.Al)) else s1),IntKind.i64.wrap (s2+1),y30.1,y30.2) (fun _=>0) h)
 intro h
 simp only[B8,ls]
 conv=>lhs;whnf
 revert h
 refine ca hc (fun _ h=>Ah h) ?_;intro y32
 refine br ?_ ?_
 refine ca hc (fun _ h=>Ah h) ?_;intro y35
 refine ca hc (fun _ h=>Ba h) ?_;intro y37
 refine ca hc (fun _ h=>Ba h) ?_;intro y39
 exact fun h=>cq (hcont10 ((if s1<(IntKind.i64.wrap ((IntKind.i64.wrap (s2+1))+x14.Al)) then(IntKind.i64.wrap ((IntKind.i64.wrap (s2+1))+x14.Al)) else s1),IntKind.i64.wrap (s2+1),y39.1,y39.2) (fun _=>0) h)
 intro h
 simp only[B8,ls]
 conv=>lhs;whnf
 revert h
 refine ca hc (fun _ h=>Ah h) ?_;intro y41
 refine ca hc (fun _ h=>Ba h) ?_;intro y43
 refine ca hc (fun _ h=>Ba h) ?_;intro y45
 exact fun h=>cq (hcont10 ((if s1<(IntKind.i64.wrap ((IntKind.i64.wrap (s2+1))+x14.Al)) then(IntKind.i64.wrap ((IntKind.i64.wrap (s2+1))+x14.Al)) else s1),IntKind.i64.wrap (s2+1),y45.1,y45.2) (fun _=>0) h)
 refine br ?_ ?_
 refine br ?_ ?_
 refine ca hc (fun _ h=>Ah h) ?_;intro y49
 refine br ?_ ?_
 refine ca hc (fun _ h=>Ah h) ?_;intro y52
 refine ca hc (fun _ h=>Ba h) ?_;intro y54
 refine ca hc (fun _ h=>Ba h) ?_;intro y56
 exact fun h=>cq (hcont10 ((if s1<(IntKind.i64.wrap ((IntKind.i64.wrap (s2+1))+x14.Al)) then(IntKind.i64.wrap ((IntKind.i64.wrap (s2+1))+x14.Al)) else s1),IntKind.i64.wrap (s2+1),y56.1,y56.2) (fun _=>0) h)
 intro h
 simp only[B8,ls]
 conv=>lhs;whnf
 revert h
 refine ca hc (fun _ h=>Ah h) ?_;intro y58
 refine ca hc (fun _ h=>Ba h) ?_;intro y60
 refine ca hc (fun _ h=>Ba h) ?_;intro y62
 exact fun h=>cq (hcont10 ((if s1<(IntKind.i64.wrap ((IntKind.i64.wrap (s2+1))+x14.Al)) then(IntKind.i64.wrap ((IntKind.i64.wrap (s2+1))+x14.Al)) else s1),IntKind.i64.wrap (s2+1),y62.1,y62.2) (fun _=>0) h)
 intro h
 simp only[B8,ls]
 conv=>lhs;whnf
 revert h
 refine ca hc (fun _ h=>Ah h) ?_;intro y64
 refine br ?_ ?_
 refine ca hc (fun _ h=>Ah h) ?_;intro y67
 refine ca hc (fun _ h=>Ba h) ?_;intro y69
 refine ca hc (fun _ h=>Ba h) ?_;intro y71
 exact fun h=>cq (hcont10 ((if s1<(IntKind.i64.wrap ((IntKind.i64.wrap (s2+1))+x14.Al)) then(IntKind.i64.wrap ((IntKind.i64.wrap (s2+1))+x14.Al)) else s1),IntKind.i64.wrap (s2+1),y71.1,y71.2) (fun _=>0) h)
 intro h
 simp only[B8,ls]
 conv=>lhs;whnf
 revert h
 refine ca hc (fun _ h=>Ah h) ?_;intro y73
 refine ca hc (fun _ h=>Ba h) ?_;intro y75
 refine ca hc (fun _ h=>Ba h) ?_;intro y77
 exact fun h=>cq (hcont10 ((if s1<(IntKind.i64.wrap ((IntKind.i64.wrap (s2+1))+x14.Al)) then(IntKind.i64.wrap ((IntKind.i64.wrap (s2+1))+x14.Al)) else s1),IntKind.i64.wrap (s2+1),y77.1,y77.2) (fun _=>0) h)
 refine br ?_ ?_
 refine ca hc (fun _ h=>Ah h) ?_;intro y80
 refine br ?_ ?_
 refine ca hc (fun _ h=>Ah h) ?_;intro y83
 refine br ?_ ?_
 refine ca hc (fun _ h=>Ah h) ?_;intro y86
 refine ca hc (fun _ h=>Ba h) ?_;intro y88
 refine ca hc (fun _ h=>Ba h) ?_;intro y90
 exact fun h=>cq (hcont10 (s1,IntKind.i64.wrap (s2+1),y90.1,y90.2) (fun _=>0) h)
 intro h
 simp only[B8,ls]
 conv=>lhs;whnf
 revert h
 refine ca hc (fun _ h=>Ah h) ?_;intro y92
 refine ca hc (fun _ h=>Ba h) ?_;intro y94
 refine ca hc (fun _ h=>Ba h) ?_;intro y96
 exact fun h=>cq (hcont10 (s1,IntKind.i64.wrap (s2+1),y96.1,y96.2) (fun _=>0) h)
 intro h
 simp only[B8,ls]
 conv=>lhs;whnf
 revert h
 refine ca hc (fun _ h=>Ah h) ?_;intro y98
 refine br ?_ ?_
 refine ca hc (fun _ h=>Ah h) ?_;intro y101
 refine ca hc (fun _ h=>Ba h) ?_;intro y103
 refine ca hc (fun _ h=>Ba h) ?_;intro y105
 exact fun h=>cq (hcont10 (s1,IntKind.i64.wrap (s2+1),y105.1,y105.2) (fun _=>0) h)
 intro h
 simp only[B8,ls]
 conv=>lhs;whnf
 revert h
 refine ca hc (fun _ h=>Ah h) ?_;intro y107
 refine ca hc (fun _ h=>Ba h) ?_;intro y109
 refine ca hc (fun _ h=>Ba h) ?_;intro y111
 exact fun h=>cq (hcont10 (s1,IntKind.i64.wrap (s2+1),y111.1,y111.2) (fun _=>0) h)
 refine br ?_ ?_
 refine ca hc (fun _ h=>Ah h) ?_;intro y114
 refine br ?_ ?_
 refine ca hc (fun _ h=>Ah h) ?_;intro y117
 refine ca hc (fun _ h=>Ba h) ?_;intro y119
 refine ca hc (fun _ h=>Ba h) ?_;intro y121
 exact fun h=>cq (hcont10 (s1,IntKind.i64.wrap (s2+1),y121.1,y121.2) (fun _=>0) h)
 intro h
 simp only[B8,ls]
 conv=>lhs;whnf
 revert h
 refine ca hc (fun _ h=>Ah h) ?_;intro y123
 refine ca hc (fun _ h=>Ba h) ?_;intro y125
 refine ca hc (fun _ h=>Ba h) ?_;intro y127
 exact fun h=>cq (hcont10 (s1,IntKind.i64.wrap (s2+1),y127.1,y127.2) (fun _=>0) h)
 intro h
 simp only[B8,ls]
 conv=>lhs;whnf
 revert h
 refine ca hc (fun _ h=>Ah h) ?_;intro y129
 refine br ?_ ?_
 refine ca hc (fun _ h=>Ah h) ?_;intro y132
 refine ca hc (fun _ h=>Ba h) ?_;intro y134
 refine ca hc (fun _ h=>Ba h) ?_;intro y136
 exact fun h=>cq (hcont10 (s1,IntKind.i64.wrap (s2+1),y136.1,y136.2) (fun _=>0) h)
 intro h
 simp only[B8,ls]
 conv=>lhs;whnf
 revert h
 refine ca hc (fun _ h=>Ah h) ?_;intro y138
 refine ca hc (fun _ h=>Ba h) ?_;intro y140
 refine ca hc (fun _ h=>Ba h) ?_;intro y142
 exact fun h=>cq (hcont10 (s1,IntKind.i64.wrap (s2+1),y142.1,y142.2) (fun _=>0) h)
 intro h;cases sj h
 exact kq (hr11 (fun _=>0))
 refine lrc ?_ ?_
 intro v e;subst e;cases sj h;rfl
 intro t a144 e;subst e
 obtain⟨x145,x146⟩:=t
 dsimp only at h
 conv=>lhs;whnf
 revert h
 intro h;cases sj h
 try simp only[ls]
 exact fq (y:=some (AV.tup [],[Ob.var 52 [iA A9,AV.sl 3 (List.map Ai A3),AV.sl 4 (List.map Ab A1),AV.sl 3 (List.map Ae A2),AV.mapp 1,AV.mapp 2,iA x145,iA x146],Ob.mp none false (List.map A4 Ap),Ob.mp none false (List.map A6 Ar),Ob.mp none false (List.map A4 Bn)]))
theorem Kb {n:Nat} ⦃Bc:Aa⦄ ⦃Ap:(List ((List UInt8)×Int))⦄ ⦃r:Bool⦄:F0 n Bc Ap=some r→CN n 71 [AV.agg [iA Bc.Bg,iA Bc.Cu,sA Bc.An,sA Bc.Df,iA Bc.A8],AV.ptr 0 0] [Ob.var 49 [AV.mapp 1],Ob.mp none true (List.map A4 Ap)]=some (bA r,[Ob.var 49 [AV.mapp 1],Ob.mp none true (List.map A4 Ap)]):=by
 intro h;rcases n with _|n;cases h
 rw[F0] at h
 refine Aw Tryz.func71 (by rfl) rfl rfl (Nat.le_of_ble_eq_true rfl) ?_
 intro call hc;conv=>lhs;whnf
 revert h
 intro h
 simp only[B8,ls]
 conv=>lhs;whnf
 revert h
 intro h;cases sj h
 try simp only[ls]
 exact fq (y:=some (bA (decide (0<(C2 Ap Bc.An 0))),[Ob.var 49 [AV.mapp 1],Ob.mp none true (List.map A4 Ap)]))
theorem Bb {n:Nat} ⦃Dk:(List Aa)⦄ ⦃A9:Int⦄ ⦃A3:(List B9)⦄ ⦃A1:(List Am)⦄ ⦃A2:(List At)⦄ ⦃c_e:Int⦄ ⦃c_at:Int⦄ ⦃Ap:(List ((List UInt8)×Int))⦄ ⦃Ar:(List ((List UInt8)×(List ((List UInt8)×Int))))⦄ ⦃F7:(List ((List UInt8)×Int))⦄ ⦃r:(Int×Int)⦄:B5 n Dk A9 A3 A1 A2 c_e c_at Ap Ar F7=some r→CN n 40 [AV.ptr 0 0,AV.sl 5 (List.map Ak Dk),AV.func 71 [] [AV.ptr 3 0]] [Ob.var 52 [iA A9,AV.sl 3 (List.map Ai A3),AV.sl 4 (List.map Ab A1),AV.sl 3 (List.map Ae A2),AV.mapp 1,AV.mapp 2,iA c_e,iA c_at],Ob.mp none false (List.map A4 Ap),Ob.mp none false (List.map A6 Ar),Ob.var 49 [AV.mapp 4],Ob.mp none true (List.map A4 F7)]=some (AV.tup [],[Ob.var 52 [iA A9,AV.sl 3 (List.map Ai A3),AV.sl 4 (List.map Ab A1),AV.sl 3 (List.map Ae A2),AV.mapp 1,AV.mapp 2,iA r.1,iA r.2],Ob.mp none false (List.map A4 Ap),Ob.mp none false (List.map A6 Ar),Ob.var 49 [AV.mapp 4],Ob.mp none true (List.map A4 F7)]):=by
 intro h;rcases n with _|n;cases h
 rw[B5] at h
 refine Aw Tryz.func40 (by rfl) rfl rfl (Nat.le_of_ble_eq_true rfl) ?_
 intro call hc;conv=>lhs;whnf
 revert h
 intro h;refine B1 h ?_;clear h;intro o11 ho11 h
 refine lq (σ:=(Int×Int×Int)) (τ:=(Int×Int)) (ν:=(Int×Int)) 0 (fun(s1,s2,s3) a5=>Bh 42 [(0,AV.ptr 0 0),(2,AV.func 71 [] [AV.ptr 3 0]),(8,AV.sl 5 (List.map Ak Dk)),(9,iA (((Dk.length:Nat):Int))),(10,iA s1)]) (fun(s1,s2,s3) a5=>[Ob.var 52 [iA A9,AV.sl 3 (List.map Ai A3),AV.sl 4 (List.map Ab A1),AV.sl 3 (List.map Ae A2),AV.mapp 1,AV.mapp 2,iA s2,iA s3],Ob.mp none false (List.map A4 Ap),Ob.mp none false (List.map A6 Ar),Ob.var 49 [AV.mapp 4],Ob.mp none true (List.map A4 F7)]) (fun(x33,x34) a32=>Bh 42 []) (fun(x33,x34) a32=>[Ob.var 52 [iA A9,AV.sl 3 (List.map Ai A3),AV.sl 4 (List.map Ab A1),AV.sl 3 (List.map Ae A2),AV.mapp 1,AV.mapp 2,iA x33,iA x34],Ob.mp none false (List.map A4 Ap),Ob.mp none false (List.map A6 Ar),Ob.var 49 [AV.mapp 4],Ob.mp none true (List.map A4 F7)]) (fun v=>(AV.tup [],[Ob.var 52 [iA A9,AV.sl 3 (List.map Ai A3),AV.sl 4 (List.map Ab A1),AV.sl 3 (List.map Ae A2),AV.mapp 1,AV.mapp 2,iA v.1,iA v.2],Ob.mp none false (List.map A4 Ap),Ob.mp none false (List.map A6 Ar),Ob.var 49 [AV.mapp 4],Ob.mp none true (List.map A4 F7)])) (fun k s=>Ce n Dk A9 A3 A1 A2 Ap Ar F7 k s.1 s.2.1 s.2.2) (fun s=>rfl) o11 n (0,c_e,c_at) (fun _=>0) ho11 ?_ ?_
 intro k4 ss a5 K6 cont7 hK8 hcont9 h hr10
 obtain⟨s1,s2,s3⟩:=ss
 replace h:Ce n Dk A9 A3 A1 A2 Ap Ar F7 (k4+1) s1 s2 s3=some o11:=h
 rw[Ce] at h
 conv=>lhs;whnf
 revert h
 refine br ?_ ?_
 refine ix ?_;intro x13
 refine br ?_ ?_
 refine ca hc (fun _ h=>Ah h) ?_;intro y15
 exact fun h=>cq (hcont9 (IntKind.i64.wrap (s1+1),y15.2.1,y15.2.2) (fun _=>0) h)
 refine br ?_ ?_
 refine ca hc (fun _ h=>Kb h) ?_;intro y18
 refine ca hc (fun _ h=>Ah h) ?_;intro y20
 exact fun h=>cq (hcont9 (IntKind.i64.wrap (s1+1),y20.2.1,y20.2.2) (fun _=>0) h)
 refine br ?_ ?_
 refine ca hc (fun _ h=>Kb h) ?_;intro y23
 refine ca hc (fun _ h=>Ah h) ?_;intro y25
 exact fun h=>cq (hcont9 (IntKind.i64.wrap (s1+1),y25.2.1,y25.2.2) (fun _=>0) h)
 refine br ?_ ?_
 refine ca hc (fun _ h=>Kb h) ?_;intro y28
 refine ca hc (fun _ h=>Ah h) ?_;intro y30
 exact fun h=>cq (hcont9 (IntKind.i64.wrap (s1+1),y30.2.1,y30.2.2) (fun _=>0) h)
 exact fun h=>cq (hcont9 (IntKind.i64.wrap (s1+1),s2,s3) (fun _=>0) h)
 intro h;cases sj h
 exact kq (hr10 (fun _=>0))
 refine lrc ?_ ?_
 intro v e;subst e;cases sj h;rfl
 intro t a32 e;subst e
 obtain⟨x33,x34⟩:=t
 dsimp only at h
 conv=>lhs;whnf
 revert h
 intro h;cases sj h
 try simp only[ls]
 exact fq (y:=some (AV.tup [],[Ob.var 52 [iA A9,AV.sl 3 (List.map Ai A3),AV.sl 4 (List.map Ab A1),AV.sl 3 (List.map Ae A2),AV.mapp 1,AV.mapp 2,iA x33,iA x34],Ob.mp none false (List.map A4 Ap),Ob.mp none false (List.map A6 Ar),Ob.var 49 [AV.mapp 4],Ob.mp none true (List.map A4 F7)]))
theorem Vb {n:Nat} ⦃Br:Am⦄ ⦃A9:Int⦄ ⦃A3:(List B9)⦄ ⦃A1:(List Am)⦄ ⦃A2:(List At)⦄ ⦃c_e:Int⦄ ⦃c_at:Int⦄ ⦃Ap:(List ((List UInt8)×Int))⦄ ⦃Ar:(List ((List UInt8)×(List ((List UInt8)×Int))))⦄ ⦃Bn:(List ((List UInt8)×Int))⦄ ⦃r:(Int×Int)⦄:Hk n Br A9 A3 A1 A2 c_e c_at Ap Ar Bn=some r→CN n 39 [AV.ptr 0 0,AV.agg [sA Br.An,AV.sl 1 (List.map Co Br.B2),AV.sl 9 (List.map Aj Br.Al),iA Br.A8],AV.mapp 3] [Ob.var 52 [iA A9,AV.sl 3 (List.map Ai A3),AV.sl 4 (List.map Ab A1),AV.sl 3 (List.map Ae A2),AV.mapp 1,AV.mapp 2,iA c_e,iA c_at],Ob.mp none false (List.map A4 Ap),Ob.mp none false (List.map A6 Ar),Ob.mp none true (List.map A4 Bn)]=some (AV.tup [],[Ob.var 52 [iA A9,AV.sl 3 (List.map Ai A3),AV.sl 4 (List.map Ab A1),AV.sl 3 (List.map Ae A2),AV.mapp 1,AV.mapp 2,iA r.1,iA r.2],Ob.mp none false (List.map A4 Ap),Ob.mp none false (List.map A6 Ar),Ob.mp none true (List.map A4 Bn)]):=by
 intro h;rcases n with _|n;cases h
 rw[Hk] at h
 refine Aw Tryz.func39 (by rfl) rfl rfl (Nat.le_of_ble_eq_true rfl) ?_
 intro call hc;conv=>lhs;whnf
 revert h
 intro h;refine B1 h ?_;clear h;intro o12 ho12 h
 refine lq (σ:=(Int×Int×Int×Int)) (τ:=(Int×Int)) (ν:=(Int×Int)) 0 (fun(s1,s2,s3,s4) a6=>Bh 82 [(0,AV.ptr 0 0),(5,AV.ptr 5 0),(6,iA s1),(7,AV.func 71 [] [AV.ptr 5 0]),(12,AV.sl 9 (List.map Aj Br.Al)),(13,iA (((Br.Al.length:Nat):Int))),(14,iA s2)]) (fun(s1,s2,s3,s4) a6=>[Ob.var 52 [iA A9,AV.sl 3 (List.map Ai A3),AV.sl 4 (List.map Ab A1),AV.sl 3 (List.map Ae A2),AV.mapp 1,AV.mapp 2,iA s3,iA s4],Ob.mp none false (List.map A4 Ap),Ob.mp none false (List.map A6 Ar),Ob.mp none true (List.map A4 Bn),Ob.var 40 [sA Br.An,AV.sl 1 (List.map Co Br.B2),AV.sl 9 (List.map Aj Br.Al),iA Br.A8],Ob.var 49 [AV.mapp 3]]) (fun(x145,x146) a144=>Bh 82 []) (fun(x145,x146) a144=>[Ob.var 52 [iA A9,AV.sl 3 (List.map Ai A3),AV.sl 4 (List.map Ab A1),AV.sl 3 (List.map Ae A2),AV.mapp 1,AV.mapp 2,iA x145,iA x146],Ob.mp none false (List.map A4 Ap),Ob.mp none false (List.map A6 Ar),Ob.mp none true (List.map A4 Bn),Ob.var 40 [sA Br.An,AV.sl 1 (List.map Co Br.B2),AV.sl 9 (List.map Aj Br.Al),iA Br.A8],Ob.var 49 [AV.mapp 3]]) (fun v=>(AV.tup [],[Ob.var 52 [iA A9,AV.sl 3 (List.map Ai A3),AV.sl 4 (List.map Ab A1),AV.sl 3 (List.map Ae A2),AV.mapp 1,AV.mapp 2,iA v.1,iA v.2],Ob.mp none false (List.map A4 Ap),Ob.mp none false (List.map A6 Ar),Ob.mp none true (List.map A4 Bn)])) (fun k s=>Bo n Br A9 A3 A1 A2 Ap Ar Bn k s.1 s.2.1 s.2.2.1 s.2.2.2) (fun s=>rfl) o12 n (0,0,c_e,c_at) (fun _=>0) ho12 ?_ ?_
 intro k5 ss a6 K7 cont8 hK9 hcont10 h hr11
 obtain⟨s1,s2,s3,s4⟩:=ss
 replace h:Bo n Br A9 A3 A1 A2 Ap Ar Bn (k5+1) s1 s2 s3 s4=some o12:=h
 rw[Bo] at h
 conv=>lhs;whnf
 revert h
 refine br ?_ ?_
 refine ix ?_;intro x14
 refine br ?_ ?_
 refine br ?_ ?_
 refine ca hc (fun _ h=>Ah h) ?_;intro y17
 refine br ?_ ?_
 refine ca hc (fun _ h=>Ah h) ?_;intro y20
 refine ca hc (fun _ h=>Bb h) ?_;intro y22
 refine ca hc (fun _ h=>Bb h) ?_;intro y24
 exact fun h=>cq (hcont10 ((if s1<(IntKind.i64.wrap ((IntKind.i64.wrap (s2+1))+x14.Al)) then(IntKind.i64.wrap ((IntKind.i64.wrap (s2+1))+x14.Al)) else s1),IntKind.i64.wrap (s2+1),y24.1,y24.2) (fun _=>0) h)
 intro h
 simp only[B8,ls]
 conv=>lhs;whnf
 revert h
 refine ca hc (fun _ h=>Ah h) ?_;intro y26
 refine ca hc (fun _ h=>Bb h) ?_;intro y28
 refine ca hc (fun _ h=>Bb h) ?_;intro y30
 exact fun h=>cq (hcont10 ((if s1<(IntKind.i64.wrap ((IntKind.i64.wrap (s2+1))+x14.Al)) then(IntKind.i64.wrap ((IntKind.i64.wrap (s2+1))+x14.Al)) else s1),IntKind.i64.wrap (s2+1),y30.1,y30.2) (fun _=>0) h)
 intro h
 simp only[B8,ls]
 conv=>lhs;whnf
 revert h
 refine ca hc (fun _ h=>Ah h) ?_;intro y32
 refine br ?_ ?_
 refine ca hc (fun _ h=>Ah h) ?_;intro y35
 refine ca hc (fun _ h=>Bb h) ?_;intro y37
 refine ca hc (fun _ h=>Bb h) ?_;intro y39
 exact fun h=>cq (hcont10 ((if s1<(IntKind.i64.wrap ((IntKind.i64.wrap (s2+1))+x14.Al)) then(IntKind.i64.wrap ((IntKind.i64.wrap (s2+1))+x14.Al)) else s1),IntKind.i64.wrap (s2+1),y39.1,y39.2) (fun _=>0) h)
 intro h
 simp only[B8,ls]
 conv=>lhs;whnf
 revert h
 refine ca hc (fun _ h=>Ah h) ?_;intro y41
 refine ca hc (fun _ h=>Bb h) ?_;intro y43
 refine ca hc (fun _ h=>Bb h) ?_;intro y45
 exact fun h=>cq (hcont10 ((if s1<(IntKind.i64.wrap ((IntKind.i64.wrap (s2+1))+x14.Al)) then(IntKind.i64.wrap ((IntKind.i64.wrap (s2+1))+x14.Al)) else s1),IntKind.i64.wrap (s2+1),y45.1,y45.2) (fun _=>0) h)
 refine br ?_ ?_
 refine br ?_ ?_
 refine ca hc (fun _ h=>Ah h) ?_;intro y49
 refine br ?_ ?_
 refine ca hc (fun _ h=>Ah h) ?_;intro y52
 refine ca hc (fun _ h=>Bb h) ?_;intro y54
 refine ca hc (fun _ h=>Bb h) ?_;intro y56
 exact fun h=>cq (hcont10 ((if s1<(IntKind.i64.wrap ((IntKind.i64.wrap (s2+1))+x14.Al)) then(IntKind.i64.wrap ((IntKind.i64.wrap (s2+1))+x14.Al)) else s1),IntKind.i64.wrap (s2+1),y56.1,y56.2) (fun _=>0) h)
 intro h
 simp only[B8,ls]
 conv=>lhs;whnf
 revert h
 refine ca hc (fun _ h=>Ah h) ?_;intro y58
 refine ca hc (fun _ h=>Bb h) ?_;intro y60
 refine ca hc (fun _ h=>Bb h) ?_;intro y62
 exact fun h=>cq (hcont10 ((if s1<(IntKind.i64.wrap ((IntKind.i64.wrap (s2+1))+x14.Al)) then(IntKind.i64.wrap ((IntKind.i64.wrap (s2+1))+x14.Al)) else s1),IntKind.i64.wrap (s2+1),y62.1,y62.2) (fun _=>0) h)
 intro h
 simp only[B8,ls]
 conv=>lhs;whnf
 revert h
 refine ca hc (fun _ h=>Ah h) ?_;intro y64
 refine br ?_ ?_
 refine ca hc (fun _ h=>Ah h) ?_;intro y67
 refine ca hc (fun _ h=>Bb h) ?_;intro y69
 refine ca hc (fun _ h=>Bb h) ?_;intro y71
 exact fun h=>cq (hcont10 ((if s1<(IntKind.i64.wrap ((IntKind.i64.wrap (s2+1))+x14.Al)) then(IntKind.i64.wrap ((IntKind.i64.wrap (s2+1))+x14.Al)) else s1),IntKind.i64.wrap (s2+1),y71.1,y71.2) (fun _=>0) h)
 intro h
 simp only[B8,ls]
 conv=>lhs;whnf
 revert h
 refine ca hc (fun _ h=>Ah h) ?_;intro y73
 refine ca hc (fun _ h=>Bb h) ?_;intro y75
 refine ca hc (fun _ h=>Bb h) ?_;intro y77
 exact fun h=>cq (hcont10 ((if s1<(IntKind.i64.wrap ((IntKind.i64.wrap (s2+1))+x14.Al)) then(IntKind.i64.wrap ((IntKind.i64.wrap (s2+1))+x14.Al)) else s1),IntKind.i64.wrap (s2+1),y77.1,y77.2) (fun _=>0) h)
 refine br ?_ ?_
 refine ca hc (fun _ h=>Ah h) ?_;intro y80
 refine br ?_ ?_
 refine ca hc (fun _ h=>Ah h) ?_;intro y83
 refine br ?_ ?_
 refine ca hc (fun _ h=>Ah h) ?_;intro y86
 refine ca hc (fun _ h=>Bb h) ?_;intro y88
 refine ca hc (fun _ h=>Bb h) ?_;intro y90
 exact fun h=>cq (hcont10 (s1,IntKind.i64.wrap (s2+1),y90.1,y90.2) (fun _=>0) h)
 intro h
 simp only[B8,ls]
 conv=>lhs;whnf
 revert h
 refine ca hc (fun _ h=>Ah h) ?_;intro y92
 refine ca hc (fun _ h=>Bb h) ?_;intro y94
 refine ca hc (fun _ h=>Bb h) ?_;intro y96
 exact fun h=>cq (hcont10 (s1,IntKind.i64.wrap (s2+1),y96.1,y96.2) (fun _=>0) h)
 intro h
 simp only[B8,ls]
 conv=>lhs;whnf
 revert h
 refine ca hc (fun _ h=>Ah h) ?_;intro y98
 refine br ?_ ?_
 refine ca hc (fun _ h=>Ah h) ?_;intro y101
 refine ca hc (fun _ h=>Bb h) ?_;intro y103
 refine ca hc (fun _ h=>Bb h) ?_;intro y105
 exact fun h=>cq (hcont10 (s1,IntKind.i64.wrap (s2+1),y105.1,y105.2) (fun _=>0) h)
 intro h
 simp only[B8,ls]
 conv=>lhs;whnf
 revert h
 refine ca hc (fun _ h=>Ah h) ?_;intro y107
 refine ca hc (fun _ h=>Bb h) ?_;intro y109
 refine ca hc (fun _ h=>Bb h) ?_;intro y111
 exact fun h=>cq (hcont10 (s1,IntKind.i64.wrap (s2+1),y111.1,y111.2) (fun _=>0) h)
 refine br ?_ ?_
 refine ca hc (fun _ h=>Ah h) ?_;intro y114
 refine br ?_ ?_
 refine ca hc (fun _ h=>Ah h) ?_;intro y117
 refine ca hc (fun _ h=>Bb h) ?_;intro y119
 refine ca hc (fun _ h=>Bb h) ?_;intro y121
 exact fun h=>cq (hcont10 (s1,IntKind.i64.wrap (s2+1),y121.1,y121.2) (fun _=>0) h)
 intro h
 simp only[B8,ls]
 conv=>lhs;whnf
 revert h
 refine ca hc (fun _ h=>Ah h) ?_;intro y123
 refine ca hc (fun _ h=>Bb h) ?_;intro y125
 refine ca hc (fun _ h=>Bb h) ?_;intro y127
 exact fun h=>cq (hcont10 (s1,IntKind.i64.wrap (s2+1),y127.1,y127.2) (fun _=>0) h)
 intro h
 simp only[B8,ls]
 conv=>lhs;whnf
 revert h
 refine ca hc (fun _ h=>Ah h) ?_;intro y129
 refine br ?_ ?_
 refine ca hc (fun _ h=>Ah h) ?_;intro y132
 refine ca hc (fun _ h=>Bb h) ?_;intro y134
 refine ca hc (fun _ h=>Bb h) ?_;intro y136
 exact fun h=>cq (hcont10 (s1,IntKind.i64.wrap (s2+1),y136.1,y136.2) (fun _=>0) h)
 intro h
 simp only[B8,ls]
 conv=>lhs;whnf
 revert h
 refine ca hc (fun _ h=>Ah h) ?_;intro y138
 refine ca hc (fun _ h=>Bb h) ?_;intro y140
 refine ca hc (fun _ h=>Bb h) ?_;intro y142
 exact fun h=>cq (hcont10 (s1,IntKind.i64.wrap (s2+1),y142.1,y142.2) (fun _=>0) h)
 intro h;cases sj h
 exact kq (hr11 (fun _=>0))
 refine lrc ?_ ?_
 intro v e;subst e;cases sj h;rfl
 intro t a144 e;subst e
 obtain⟨x145,x146⟩:=t
 dsimp only at h
 conv=>lhs;whnf
 revert h
 intro h;cases sj h
 try simp only[ls]
 exact fq (y:=some (AV.tup [],[Ob.var 52 [iA A9,AV.sl 3 (List.map Ai A3),AV.sl 4 (List.map Ab A1),AV.sl 3 (List.map Ae A2),AV.mapp 1,AV.mapp 2,iA x145,iA x146],Ob.mp none false (List.map A4 Ap),Ob.mp none false (List.map A6 Ar),Ob.mp none true (List.map A4 Bn)]))
theorem Pi {n:Nat} ⦃B7:Int⦄ ⦃F8:Am⦄ ⦃A9:Int⦄ ⦃A3:(List B9)⦄ ⦃A1:(List Am)⦄ ⦃A2:(List At)⦄ ⦃c_e:Int⦄ ⦃c_at:Int⦄ ⦃Ap:(List ((List UInt8)×Int))⦄ ⦃Ar:(List ((List UInt8)×(List ((List UInt8)×Int))))⦄ ⦃r:(Int×Int×(List ((List UInt8)×(List ((List UInt8)×Int)))))⦄:Fp n B7 F8 A9 A3 A1 A2 c_e c_at Ap Ar=some r→CN n 20 [AV.ptr 0 0,iA B7,AV.agg [sA F8.An,AV.sl 1 (List.map Co F8.B2),AV.sl 9 (List.map Aj F8.Al),iA F8.A8]] [Ob.var 52 [iA A9,AV.sl 3 (List.map Ai A3),AV.sl 4 (List.map Ab A1),AV.sl 3 (List.map Ae A2),AV.mapp 1,AV.mapp 2,iA c_e,iA c_at],Ob.mp none false (List.map A4 Ap),Ob.mp none false (List.map A6 Ar)]=some (AV.tup [],[Ob.var 52 [iA A9,AV.sl 3 (List.map Ai A3),AV.sl 4 (List.map Ab A1),AV.sl 3 (List.map Ae A2),AV.mapp 1,AV.mapp 2,iA r.1,iA r.2.1],Ob.mp none false (List.map A4 Ap),Ob.mp none false (List.map A6 r.2.2)]):=by
 intro h;rcases n with _|n;cases h
 rw[Fp] at h
 refine Aw Tryz.func20 (by rfl) rfl rfl (Nat.le_of_ble_eq_true rfl) ?_
 intro call hc;conv=>lhs;whnf
 revert h
 intro h
 simp only[Jt,Pm,ls]
 conv=>lhs;whnf
 revert h
 refine ca hc (fun _ h=>Ah h) ?_;intro y1
 refine ca hc (fun _ h=>Ah h) ?_;intro y3
 refine cr hc (fun _ h=>Ah h) ?_;intro y5
 intro h;refine B1 h ?_;clear h;intro o18 ho18 h
 refine lq (σ:=(Int×Int×Int×(List ((List UInt8)×Int)))) (τ:=(Int×Int×(List ((List UInt8)×Int)))) (ν:=(Int×Int×(List ((List UInt8)×(List ((List UInt8)×Int)))))) 0 (fun(s7,s8,s9,s10) a12=>Bh 84 [(0,AV.ptr 0 0),(5,AV.ptr 3 0),(7,bA ((Mg Ar F8.An))),(8,AV.mapp 4),(43,AV.sl 1 (List.map Co F8.B2)),(44,iA (((F8.B2.length:Nat):Int))),(45,iA s7)]) (fun(s7,s8,s9,s10) a12=>[Ob.var 52 [iA A9,AV.sl 3 (List.map Ai A3),AV.sl 4 (List.map Ab A1),AV.sl 3 (List.map Ae A2),AV.mapp 1,AV.mapp 2,iA s8,iA s9],Ob.mp none false (List.map A4 Ap),Ob.mp none false (List.map A6 Ar),Ob.var 40 [sA F8.An,AV.sl 1 (List.map Co F8.B2),AV.sl 9 (List.map Aj F8.Al),iA F8.A8],Ob.mp none false (List.map A4 s10)]) (fun(x28,x29,x30) a27=>Bh 84 [(0,AV.ptr 0 0),(5,AV.ptr 3 0),(7,bA ((Mg Ar F8.An))),(8,AV.mapp 4)]) (fun(x28,x29,x30) a27=>[Ob.var 52 [iA A9,AV.sl 3 (List.map Ai A3),AV.sl 4 (List.map Ab A1),AV.sl 3 (List.map Ae A2),AV.mapp 1,AV.mapp 2,iA x28,iA x29],Ob.mp none false (List.map A4 Ap),Ob.mp none false (List.map A6 Ar),Ob.var 40 [sA F8.An,AV.sl 1 (List.map Co F8.B2),AV.sl 9 (List.map Aj F8.Al),iA F8.A8],Ob.mp none false (List.map A4 x30)]) (fun v=>(AV.tup [],[Ob.var 52 [iA A9,AV.sl 3 (List.map Ai A3),AV.sl 4 (List.map Ab A1),AV.sl 3 (List.map Ae A2),AV.mapp 1,AV.mapp 2,iA v.1,iA v.2.1],Ob.mp none false (List.map A4 Ap),Ob.mp none false (List.map A6 v.2.2)])) (fun k s=>Da n F8 A9 A3 A1 A2 Ap Ar k s.1 s.2.1 s.2.2.1 s.2.2.2) (fun s=>rfl) o18 n (0,y5.2.1,y5.2.2,([]:(List ((List UInt8)×Int)))) (fun _=>0) ho18 ?_ ?_
 intro k11 ss a12 K13 cont14 hK15 hcont16 h hr17
 obtain⟨s7,s8,s9,s10⟩:=ss
 replace h:Da n F8 A9 A3 A1 A2 Ap Ar (k11+1) s7 s8 s9 s10=some o18:=h
 rw[Da] at h
 conv=>lhs;whnf
 revert h
 refine br ?_ ?_
 refine ix ?_;intro x20
 intro h
 simp only[B8,ls]
 conv=>lhs;whnf
 revert h
 intro h
 have hs21:Jq (List.map A4 s10) (sA x20) (iA (IntKind.i64.wrap ((C2 s10 x20 0)+1)))=List.map A4 (Hn s10 x20 (IntKind.i64.wrap ((C2 s10 x20 0)+1))):=Ph _ _ _
 try simp only[hs21]
 conv=>lhs;whnf
 revert h
 intro h
 simp only[B8,ls]
 conv=>lhs;whnf
 revert h
 refine br ?_ ?_
 intro h
 simp only[B8,ls]
 conv=>lhs;whnf
 revert h
 refine ca hc (fun _ h=>Ah h) ?_;intro y23
 exact fun h=>cq (hcont16 (IntKind.i64.wrap (s7+1),y23.2.1,y23.2.2,(Hn s10 x20 (IntKind.i64.wrap ((C2 s10 x20 0)+1)))) (fun _=>0) h)
 refine ca hc (fun _ h=>Ah h) ?_;intro y25
 exact fun h=>cq (hcont16 (IntKind.i64.wrap (s7+1),y25.2.1,y25.2.2,(Hn s10 x20 (IntKind.i64.wrap ((C2 s10 x20 0)+1)))) (fun _=>0) h)
 intro h;cases sj h
 exact kq (hr17 (fun _=>0))
 refine lrc ?_ ?_
 intro v e;subst e;cases sj h;rfl
 intro t a27 e;subst e
 obtain⟨x28,x29,x30⟩:=t
 dsimp only at h
 conv=>lhs;whnf
 revert h
 refine br ?_ ?_
 refine ca hc (fun _ h=>X7 h) ?_;intro y32
 intro h;cases sj h
 try simp only[ls]
 exact fq (y:=some (AV.tup [],[Ob.var 52 [iA A9,AV.sl 3 (List.map Ai A3),AV.sl 4 (List.map Ab A1),AV.sl 3 (List.map Ae A2),AV.mapp 1,AV.mapp 2,iA y32.1,iA y32.2],Ob.mp none false (List.map A4 Ap),Ob.mp none false (List.map A6 Ar)]))
 intro h
 have hs34:Jq (List.map A6 Ar) (sA F8.An) (AV.mcl none (List.map A4 x30))=List.map A6 (Hn Ar F8.An x30):=Po _ _ _
 try simp only[hs34]
 conv=>lhs;whnf
 revert h
 refine ca hc (fun _ h=>Vb h) ?_;intro y35
 intro h;cases sj h
 try simp only[ls]
 exact fq (y:=some (AV.tup [],[Ob.var 52 [iA A9,AV.sl 3 (List.map Ai A3),AV.sl 4 (List.map Ab A1),AV.sl 3 (List.map Ae A2),AV.mapp 1,AV.mapp 2,iA y35.1,iA y35.2],Ob.mp none false (List.map A4 Ap),Ob.mp none false (List.map A6 (Hn Ar F8.An x30))]))
theorem Qz {n:Nat} ⦃A9:Int⦄ ⦃A3:(List B9)⦄ ⦃A1:(List Am)⦄ ⦃A2:(List At)⦄ ⦃c_e:Int⦄ ⦃c_at:Int⦄ ⦃Ap:(List ((List UInt8)×Int))⦄ ⦃Ar:(List ((List UInt8)×(List ((List UInt8)×Int))))⦄ ⦃r:(Int×Int×(List ((List UInt8)×Int)))⦄:Fg n A9 A3 A1 A2 c_e c_at Ap Ar=some r→CN n 19 [AV.ptr 0 0] [Ob.var 52 [iA A9,AV.sl 3 (List.map Ai A3),AV.sl 4 (List.map Ab A1),AV.sl 3 (List.map Ae A2),AV.mapp 1,AV.mapp 2,iA c_e,iA c_at],Ob.mp none false (List.map A4 Ap),Ob.mp none false (List.map A6 Ar)]=some (AV.tup [],[Ob.var 52 [iA A9,AV.sl 3 (List.map Ai A3),AV.sl 4 (List.map Ab A1),AV.sl 3 (List.map Ae A2),AV.mapp 1,AV.mapp 2,iA r.1,iA r.2.1],Ob.mp none false (List.map A4 r.2.2),Ob.mp none false (List.map A6 Ar)]):=by
 intro h;rcases n with _|n;cases h
 rw[Fg] at h
 refine Aw Tryz.func19 (by rfl) rfl rfl (Nat.le_of_ble_eq_true rfl) ?_
 intro call hc;conv=>lhs;whnf
 revert h
 intro h;refine B1 h ?_;clear h;intro o12 ho12 h
 refine lq (σ:=(Int×Int×Int×(List ((List UInt8)×Int)))) (τ:=(Int×Int×(List ((List UInt8)×Int)))) (ν:=(Int×Int×(List ((List UInt8)×Int)))) 0 (fun(s1,s2,s3,s4) a6=>Bh 54 [(0,AV.ptr 0 0),(8,AV.sl 3 (List.map Ai A3)),(9,iA (((A3.length:Nat):Int))),(10,iA s1)]) (fun(s1,s2,s3,s4) a6=>[Ob.var 52 [iA A9,AV.sl 3 (List.map Ai A3),AV.sl 4 (List.map Ab A1),AV.sl 3 (List.map Ae A2),AV.mapp 1,AV.mapp 2,iA s2,iA s3],Ob.mp none false (List.map A4 s4),Ob.mp none false (List.map A6 Ar)]) (fun(x23,x24,x25) a22=>Bh 54 []) (fun(x23,x24,x25) a22=>[Ob.var 52 [iA A9,AV.sl 3 (List.map Ai A3),AV.sl 4 (List.map Ab A1),AV.sl 3 (List.map Ae A2),AV.mapp 1,AV.mapp 2,iA x23,iA x24],Ob.mp none false (List.map A4 x25),Ob.mp none false (List.map A6 Ar)]) (fun v=>(AV.tup [],[Ob.var 52 [iA A9,AV.sl 3 (List.map Ai A3),AV.sl 4 (List.map Ab A1),AV.sl 3 (List.map Ae A2),AV.mapp 1,AV.mapp 2,iA v.1,iA v.2.1],Ob.mp none false (List.map A4 v.2.2),Ob.mp none false (List.map A6 Ar)])) (fun k s=>Ea n A9 A3 A1 A2 Ar k s.1 s.2.1 s.2.2.1 s.2.2.2) (fun s=>rfl) o12 n (0,c_e,c_at,Ap) (fun _=>0) ho12 ?_ ?_
 intro k5 ss a6 K7 cont8 hK9 hcont10 h hr11
 obtain⟨s1,s2,s3,s4⟩:=ss
 replace h:Ea n A9 A3 A1 A2 Ar (k5+1) s1 s2 s3 s4=some o12:=h
 rw[Ea] at h
 conv=>lhs;whnf
 revert h
 refine br ?_ ?_
 refine ix ?_;intro x14
 refine ca hc (fun _ h=>Ah h) ?_;intro y15
 intro h
 simp only[B8,ls]
 conv=>lhs;whnf
 revert h
 refine ca hc (fun _ h=>Ah h) ?_;intro y17
 refine ca hc (fun _ h=>Ah h) ?_;intro y19
 intro h
 simp only[B8,ls]
 conv=>lhs;whnf
 revert h
 intro h
 have hs21:Jq (List.map A4 s4) (sA x14.An) (iA (IntKind.i64.wrap ((C2 s4 x14.An 0)+1)))=List.map A4 (Hn s4 x14.An (IntKind.i64.wrap ((C2 s4 x14.An 0)+1))):=Ph _ _ _
 try simp only[hs21]
 conv=>lhs;whnf
 revert h
 exact fun h=>cq (hcont10 (IntKind.i64.wrap (s1+1),y19.2.1,y19.2.2,(Hn s4 x14.An (IntKind.i64.wrap ((C2 s4 x14.An 0)+1)))) (fun _=>0) h)
 intro h;cases sj h
 exact kq (hr11 (fun _=>0))
 refine lrc ?_ ?_
 intro v e;subst e;cases sj h;rfl
 intro t a22 e;subst e
 obtain⟨x23,x24,x25⟩:=t
 dsimp only at h
 conv=>lhs;whnf
 revert h
 intro h;cases sj h
 try simp only[ls]
 exact fq (y:=some (AV.tup [],[Ob.var 52 [iA A9,AV.sl 3 (List.map Ai A3),AV.sl 4 (List.map Ab A1),AV.sl 3 (List.map Ae A2),AV.mapp 1,AV.mapp 2,iA x23,iA x24],Ob.mp none false (List.map A4 x25),Ob.mp none false (List.map A6 Ar)]))
end Go.Proofs.YtpnhafdimkmbbaaGreat
end
section
namespace Go.Proofs.YtpnhafdimkmbbaaGreat
set_option linter.unusedVariables false
set_option linter.unusedSimpArgs false
set_option maxRecDepth 100000
set_option maxHeartbeats 4000000
theorem Zc {n:Nat} ⦃G3:Int⦄ ⦃r:Int⦄:Jb n G3=some r→CN n 108 [iA G3] []=some (iA r,[]):=by
 intro h;rcases n with _|n;cases h
 rw[Jb] at h
 refine Aw Tryz.func108 (by rfl) rfl rfl (Nat.le_of_ble_eq_true rfl) ?_
 intro call hc;conv=>lhs;whnf
 revert h
 refine br ?_ ?_
 refine br ?_ ?_
 exact rz
 refine br ?_ ?_
 exact rz
 refine br ?_ ?_
 refine br ?_ ?_
 exact rz
 exact rz
 exact rz
 refine br ?_ ?_
 exact rz
 refine br ?_ ?_
 refine br ?_ ?_
 exact rz
 exact rz
 exact rz
theorem Aas {n:Nat} ⦃A7:(List Aa)⦄ ⦃B7:Int⦄ ⦃r:Int⦄:R8 n A7 B7=some r→CN n 94 [AV.sl 5 (List.map Ak A7),iA B7] []=some (iA r,[]):=by
 intro h;rcases n with _|n;cases h
 rw[R8] at h
 refine Aw Tryz.func94 (by rfl) rfl rfl (Nat.le_of_ble_eq_true rfl) ?_
 intro call hc;conv=>lhs;whnf
 revert h
 refine br ?_ ?_
 exact rz
 intro h;refine B1 h ?_;clear h;intro o11 ho11 h
 refine lq (σ:=(Int×Int)) (τ:=Unit) (ν:=Int) 0 (fun(s2,s3) a5=>Bh 31 [(0,AV.sl 5 (List.map Ak A7)),(1,iA s2),(5,iA s3)]) (fun(s2,s3) a5=>[]) (fun _ a18=>Bh 31 []) (fun _ a18=>[]) (fun v=>(iA v,[])) (fun k s=>Ic n A7 k s.1 s.2) (fun s=>rfl) o11 n (B7,1) (fun _=>0) ho11 ?_ ?_
 intro k4 ss a5 K6 cont7 hK8 hcont9 h hr10
 obtain⟨s2,s3⟩:=ss
 replace h:Ic n A7 (k4+1) s2 s3=some o11:=h
 rw[Ic] at h
 conv=>lhs;whnf
 revert h
 refine br ?_ ?_
 refine ix ?_;intro x13
 refine ca hc (fun _ h=>Zc h) ?_;intro y14
 refine br ?_ ?_
 intro h;cases sj h
 refine(hK8 _ _).trans ?_
 refine Eq.trans ?_ (Eq.symm (show _=some _ from hr10))
 conv=>lhs;whnf
 exact rq
 refine br ?_ ?_
 intro h;cases sj h
 refine(hK8 _ _).trans ?_
 refine Eq.trans ?_ (Eq.symm (show _=some _ from hr10))
 conv=>lhs;whnf
 exact rq
 exact fun h=>cq (hcont9 (IntKind.i64.wrap (s2+1),IntKind.i64.wrap (s3+(IntKind.i64.wrap (y14 - 1)))) (fun _=>0) h)
 intro h;cases sj h
 exact kq (hr10 (fun _=>0))
 refine lrc ?_ ?_
 intro v e;subst e;cases sj h;rfl
 intro t a18 e;subst e
 dsimp only at h
 conv=>lhs;whnf
 revert h
 exact rz
theorem Yc {n:Nat} ⦃A7:(List Aa)⦄ ⦃r:(List Aa)⦄:Mh n A7=some r→CN n 68 [AV.sl 5 (List.map Ak A7)] []=some (AV.sl 5 (List.map Ak r),[]):=by
 intro h;rcases n with _|n;cases h
 rw[Mh] at h
 refine Aw Tryz.func68 (by rfl) rfl rfl (Nat.le_of_ble_eq_true rfl) ?_
 intro call hc;conv=>lhs;whnf
 revert h
 intro h;refine B1 h ?_;clear h;intro o10 ho10 h
 refine lq (σ:=(Int×(List Aa))) (τ:=(List Aa)) (ν:=(List Aa)) 0 (fun(s1,s2) a4=>Bh 24 [(3,AV.row 0 (List.length s2)),(6,AV.sl 5 (List.map Ak A7)),(7,iA (((A7.length:Nat):Int))),(8,iA s1)]) (fun(s1,s2) a4=>[Ob.row 63 5 (List.map Ak s2)]) (fun x23 a22=>Bh 24 [(3,AV.row 0 (List.length x23))]) (fun x23 a22=>[Ob.row 63 5 (List.map Ak x23)]) (fun v=>(AV.sl 5 (List.map Ak v),[])) (fun k s=>Es n A7 k s.1 s.2) (fun s=>rfl) o10 n (0,([]:List Aa)) (fun _=>0) ho10 ?_ ?_
 intro k3 ss a4 K5 cont6 hK7 hcont8 h hr9
 obtain⟨s1,s2⟩:=ss
 replace h:Es n A7 (k3+1) s1 s2=some o10:=h
 rw[Es] at h
 conv=>lhs;whnf
 revert h
 refine br ?_ ?_
 refine ix ?_;intro x12
 refine br ?_ ?_
 refine ar (ap Ak (List.map Ak s2) s2 ([[iA x12.Bg,iA x12.Cu,sA x12.An,sA x12.Df,iA x12.A8]]) ([x12]:List Aa)) ?_
 exact fun h=>cq (hcont8 (IntKind.i64.wrap (s1+1),(s2++([x12]:List Aa))) (fun _=>0) h)
 refine br ?_ ?_
 refine ar (ap Ak (List.map Ak s2) s2 ([[iA x12.Bg,iA x12.Cu,sA x12.An,sA x12.Df,iA x12.A8]]) ([x12]:List Aa)) ?_
 exact fun h=>cq (hcont8 (IntKind.i64.wrap (s1+1),(s2++([x12]:List Aa))) (fun _=>0) h)
 refine br ?_ ?_
 refine ar (ap Ak (List.map Ak s2) s2 ([[iA x12.Bg,iA x12.Cu,sA x12.An,sA x12.Df,iA x12.A8]]) ([x12]:List Aa)) ?_
 exact fun h=>cq (hcont8 (IntKind.i64.wrap (s1+1),(s2++([x12]:List Aa))) (fun _=>0) h)
 exact fun h=>cq (hcont8 (IntKind.i64.wrap (s1+1),s2) (fun _=>0) h)
 intro h;cases sj h
 exact kq (hr9 (fun _=>0))
 refine lrc ?_ ?_
 intro v e;subst e;cases sj h;rfl
 intro x23 a22 e;subst e
 dsimp only at h
 conv=>lhs;whnf
 revert h
 intro h;obtain rfl:=sj h
 try simp only[ls]
 exact fq (y:=some (AV.sl 5 (List.take (List.length x23) (List.map Ak x23)),[]))
theorem A6a {n:Nat} ⦃A7:(List Aa)⦄ ⦃r:Int⦄:Oc n A7=some r→CN n 96 [AV.sl 5 (List.map Ak A7)] []=some (iA r,[]):=by
 intro h;rcases n with _|n;cases h
 rw[Oc] at h
 refine Aw Tryz.func96 (by rfl) rfl rfl (Nat.le_of_ble_eq_true rfl) ?_
 intro call hc;conv=>lhs;whnf
 revert h
 intro h;refine B1 h ?_;clear h;intro o11 ho11 h
 refine lq (σ:=(Int×Int×(List Int))) (τ:=(Int×(List Int))) (ν:=Int) 0 (fun(s1,s2,s3) a5=>Bh 50 [(3,AV.stk 0 (a5 0) (List.length s3)),(4,iA s1),(9,AV.sl 5 (List.map Ak A7)),(10,iA (((A7.length:Nat):Int))),(11,iA s2)]) (fun(s1,s2,s3) a5=>[Ob.stk (a5 0) 3 1 (List.map Ia s3)]) (fun(x41,x42) a40=>Bh 50 [(4,iA x41)]) (fun(x41,x42) a40=>[Ob.stk (a40 0) 3 1 (List.map Ia x42)]) (fun v=>(iA v,[])) (fun k s=>Gi n A7 k s.1 s.2.1 s.2.2) (fun s=>rfl) o11 n (0,0,([]:List Int)) (fun j=>(bif Nat.beq j 0 then 0 else 0)) ho11 ?_ ?_
 intro k4 ss a5 K6 cont7 hK8 hcont9 h hr10
 obtain⟨s1,s2,s3⟩:=ss
 replace h:Gi n A7 (k4+1) s1 s2 s3=some o11:=h
 rw[Gi] at h
 conv=>lhs;whnf
 revert h
 refine br ?_ ?_
 refine ix ?_;intro x13
 refine ca hc (fun _ h=>Zc h) ?_;intro y14
 refine br ?_ ?_
 intro h
 refine Fz h ?_;clear h;intro hc19 h
 try simp only[Ja]
 conv=>lhs;whnf
 first|refine Cp (J7 hc19 (by first|rfl|simp only [List.length_map]) (by first|rfl|simp only [List.length_map]) (by first|rfl|simp only [List.length_map,Bu]) (by kernel_rfl)) ?_|refine Cp (Hz hc19 (by first|rfl|simp only [List.length_map]) (by first|rfl|simp only [List.length_map,Bu]) (by kernel_rfl)) ?_
 try simp only[lt]
 have hp17:(List.map Ia s3:List (List AV))++[[iA y14]]=List.map Ia (s3++([y14]:List Int)):=by first|rfl|(rw[List.map_append];rfl)|(rw[List.map_append];done)|(simp only[List.map_append,List.map_cons,List.map_nil,List.nil_append,Ia]<;>rfl)
 have hl18:List.length (List.map Ia s3:List (List AV))+List.length ([[iA y14]]:List (List AV))=List.length (s3++([y14]:List Int)):=by simp only[List.length_map,List.length_append]<;>rfl
 have hl18_b:List.length s3+List.length ([[iA y14]]:List (List AV))=List.length (s3++([y14]:List Int)):=by simp only[List.length_map,List.length_append]<;>rfl
 have hl18_c:List.length s3+List.length ([y14]:List Int)=List.length (s3++([y14]:List Int)):=by simp only[List.length_map,List.length_append]<;>rfl
 first|simp only [hp17,hl18]|(simp only[List.length_map,Bu];simp only[hp17,hl18_b,hl18_c])
 try simp only[ls]
 conv=>lhs;whnf
 revert h
 exact fun h=>cq (hcont9 ((if s1<((s3.length:Nat):Int) then((s3.length:Nat):Int) else s1),IntKind.i64.wrap (s2+1),(s3++([y14]:List Int))) (fun j=>(bif Nat.beq j 0 then((a5 0)+1) else 0)) h)
 intro h;refine B1 h ?_;clear h;intro o28 ho28 h
 refine lq (σ:=(List Int)) (τ:=(List Int)) (ν:=Int) 2 (fun s20 a22=>Bh 50 [(3,AV.stk 0 (a22 0) (List.length s20)),(4,iA ((if s1<((s3.length:Nat):Int) then((s3.length:Nat):Int) else s1))),(9,AV.sl 5 (List.map Ak A7)),(10,iA (((A7.length:Nat):Int))),(11,iA s2)]) (fun s20 a22=>[Ob.stk (a22 0) 3 1 (List.map Ia s20),Ob.var 63 [iA x13.Bg,iA x13.Cu,sA x13.An,sA x13.Df,iA x13.A8]]) (fun x38 a37=>Bh 50 [(3,AV.stk 0 (a37 0) (List.length x38)),(4,iA ((if s1<((s3.length:Nat):Int) then((s3.length:Nat):Int) else s1))),(9,AV.sl 5 (List.map Ak A7)),(10,iA (((A7.length:Nat):Int))),(11,iA s2)]) (fun x38 a37=>[Ob.stk (a37 0) 3 1 (List.map Ia x38),Ob.var 63 [iA x13.Bg,iA x13.Cu,sA x13.An,sA x13.Df,iA x13.A8]]) (fun v=>(iA v,[])) (fun k s=>Iv n k s) (fun s=>rfl) o28 n s3 (fun j=>(bif Nat.beq j 0 then(a5 0) else 0)) ho28 ?_ ?_
 intro k21 s20 a22 K23 cont24 hK25 hcont26 h hr27
 replace h:Iv n (k21+1) s20=some o28:=h
 rw[Iv] at h
 conv=>lhs;whnf
 revert h
 refine br ?_ ?_
 intro h
 refine B1 h ?_;clear h;intro x30 hx30 h
 try simp only[Ja]
 conv=>lhs;whnf
 try simp only[ls]
 refine Cp (by first|exact I9 hx30|exact Ui hx30|exact Zd hx30|exact Nk hx30|(have q:=I9 hx30;simp only[List.length_set] at q;exact q)|(have q:=Nk hx30;simp only[List.length_set,Nat.zero_add] at q ⊢;exact q)) ?_
 conv=>lhs;whnf
 try simp only[No (f:=Ia) hx30,Ja,ls]
 conv=>lhs;whnf
 revert h
 intro h
 refine B1 h ?_;clear h;intro x31 hx31 h
 try simp only[Ja]
 conv=>lhs;whnf
 try simp only[ls]
 refine Cp (by first|exact I9 hx31|exact Ui hx31|exact Zd hx31|exact Nk hx31|(have q:=I9 hx31;simp only[List.length_set] at q;exact q)|(have q:=Nk hx31;simp only[List.length_set,Nat.zero_add] at q ⊢;exact q)) ?_
 conv=>lhs;whnf
 try simp only[No (f:=Ia) hx31,Ja,ls]
 conv=>lhs;whnf
 revert h
 intro h
 have hs32:Dl (List.map Ia s20) (IntKind.i64.wrap (((s20.length:Nat):Int) - 1)).toNat [iA (IntKind.i64.wrap (x30 - 1))]=List.map Ia (List.set s20 (IntKind.i64.wrap (((s20.length:Nat):Int) - 1)).toNat (IntKind.i64.wrap (x30 - 1))):=by rw[Cg,List.map_set];rfl
 have hs32_u:Dl (List.map Ia s20) (IntKind.i64.wrap (((s20.length:Nat):Int) - 1)).toNat (My (Ia x31) 0 [iA (IntKind.i64.wrap (x30 - 1))])=List.map Ia (List.set s20 (IntKind.i64.wrap (((s20.length:Nat):Int) - 1)).toNat (IntKind.i64.wrap (x30 - 1))):=by rw[Cg,List.map_set];rfl
 try simp only[No (f:=Ia) hx31,Ja]
 conv=>lhs;whnf
 try simp only[hs32,hs32_u,Ja]
 conv=>lhs;whnf
 revert h
 intro h
 refine B1 h ?_;clear h;intro x33 hx33 h
 try simp only[Ja]
 conv=>lhs;whnf
 try simp only[ls]
 refine Cp (by first|exact I9 hx33|exact Ui hx33|exact Zd hx33|exact Nk hx33|(have q:=I9 hx33;simp only[List.length_set] at q;exact q)|(have q:=Nk hx33;simp only[List.length_set,Nat.zero_add] at q ⊢;exact q)) ?_
 conv=>lhs;whnf
 try simp only[No (f:=Ia) hx33,Ja,ls]
 conv=>lhs;whnf
 revert h
 refine br ?_ ?_
 intro h;cases sj h
 exact kq (hr27 (fun j=>(bif Nat.beq j 0 then(a22 0) else 0)))
 intro h
 refine Fz h ?_;clear h;intro hc36 h
 try simp only[Ja]
 conv=>lhs;whnf
 try simp only[ls]
 first|refine Cp hc36 ?_|(refine Cp (by have q:=hc36;simp only[List.length_set] at q;exact q) ?_)
 have hs35:List.take ((IntKind.i64.wrap (((s20.length:Nat):Int) - 1)).toNat) (List.map Ia (List.set s20 (IntKind.i64.wrap (((s20.length:Nat):Int) - 1)).toNat (IntKind.i64.wrap (x30 - 1))))=List.map Ia (List.take ((IntKind.i64.wrap (((s20.length:Nat):Int) - 1)).toNat) (List.set s20 (IntKind.i64.wrap (((s20.length:Nat):Int) - 1)).toNat (IntKind.i64.wrap (x30 - 1)))):=by rw[List.map_take]
 have hs35_l:List.length (List.take ((IntKind.i64.wrap (((s20.length:Nat):Int) - 1)).toNat) (List.set s20 (IntKind.i64.wrap (((s20.length:Nat):Int) - 1)).toNat (IntKind.i64.wrap (x30 - 1))))=(IntKind.i64.wrap (((s20.length:Nat):Int) - 1)).toNat:=by simp only[List.length_take];exact Nat.min_eq_left (Alm hc36)
 conv=>lhs;whnf
 try simp only[Ja,hs35]
 conv=>lhs;whnf
 try simp only[hs35]
 have hs35_s:∀ q,AV.stk 0 q ((IntKind.i64.wrap (((s20.length:Nat):Int) - 1)).toNat)=AV.stk 0 q (List.length (List.take ((IntKind.i64.wrap (((s20.length:Nat):Int) - 1)).toNat) (List.set s20 (IntKind.i64.wrap (((s20.length:Nat):Int) - 1)).toNat (IntKind.i64.wrap (x30 - 1))))):=fun q=>by rw[hs35_l]
 try simp only[hs35_s]
 conv=>lhs;whnf
 revert h
 exact fun h=>cq (hcont26 (List.take ((IntKind.i64.wrap (((s20.length:Nat):Int) - 1)).toNat) (List.set s20 (IntKind.i64.wrap (((s20.length:Nat):Int) - 1)).toNat (IntKind.i64.wrap (x30 - 1)))) (fun j=>(bif Nat.beq j 0 then((a22 0)+1) else 0)) h)
 intro h;cases sj h
 exact kq (hr27 (fun j=>(bif Nat.beq j 0 then(a22 0) else 0)))
 refine lrc ?_ ?_
 intro v e;subst e;cases sj h;exact hr10
 intro x38 a37 e;subst e
 dsimp only at h
 conv=>lhs;whnf
 revert h
 exact fun h=>cq (hcont9 ((if s1<((s3.length:Nat):Int) then((s3.length:Nat):Int) else s1),IntKind.i64.wrap (s2+1),x38) (fun j=>(bif Nat.beq j 0 then(a37 0) else 0)) h)
 intro h;cases sj h
 exact kq (hr10 (fun j=>(bif Nat.beq j 0 then(a5 0) else 0)))
 refine lrc ?_ ?_
 intro v e;subst e;cases sj h;rfl
 intro t a40 e;subst e
 obtain⟨x41,x42⟩:=t
 dsimp only at h
 conv=>lhs;whnf
 revert h
 exact rz
theorem A7m {n:Nat} ⦃Bc:Aa⦄ ⦃r:Bool⦄:Pw n Bc=some r→CN n 95 [AV.agg [iA Bc.Bg,iA Bc.Cu,sA Bc.An,sA Bc.Df,iA Bc.A8]] []=some (bA r,[]):=by
 intro h;rcases n with _|n;cases h
 rw[Pw] at h
 refine Aw Tryz.func95 (by rfl) rfl rfl (Nat.le_of_ble_eq_true rfl) ?_
 intro call hc;conv=>lhs;whnf
 revert h
 refine br ?_ ?_
 exact rz
 refine br ?_ ?_
 intro h
 have hf5:Vt Tryz.prog 63=some (fieldsOf Tryz.prog 63):=by kernel_rfl
 simp only[hf5,List.length_map,Bu]
 conv=>lhs;whnf
 revert h
 refine br ?_ ?_
 refine br ?_ ?_
 exact rz
 exact rz
 exact rz
 refine br ?_ ?_
 refine ca hc (fun _ h=>Jk h) ?_;intro y7
 refine br ?_ ?_
 intro h
 have hf13:Vt Tryz.prog 63=some (fieldsOf Tryz.prog 63):=by kernel_rfl
 simp only[hf13,List.length_map,Bu]
 conv=>lhs;whnf
 revert h
 refine br ?_ ?_
 refine ca hc (fun _ h=>Jk h) ?_;intro y11
 exact rz
 exact rz
 exact rz
 refine br ?_ ?_
 intro h
 have hf18:Vt Tryz.prog 63=some (fieldsOf Tryz.prog 63):=by kernel_rfl
 simp only[hf18,List.length_map,Bu]
 conv=>lhs;whnf
 revert h
 refine br ?_ ?_
 refine ca hc (fun _ h=>Jk h) ?_;intro y16
 exact rz
 exact rz
 refine br ?_ ?_
 intro h
 have hf23:Vt Tryz.prog 63=some (fieldsOf Tryz.prog 63):=by kernel_rfl
 simp only[hf23,List.length_map,Bu]
 conv=>lhs;whnf
 revert h
 refine br ?_ ?_
 refine ca hc (fun _ h=>Jk h) ?_;intro y21
 exact rz
 exact rz
 intro h
 have hf24:Vt Tryz.prog 63=some (fieldsOf Tryz.prog 63):=by kernel_rfl
 simp only[hf24,List.length_map,Bu]
 conv=>lhs;whnf
 revert h
 exact rz
theorem Y6 {n:Nat} ⦃A7:(List Aa)⦄ ⦃r:Bool⦄:Mq n A7=some r→CN n 70 [AV.sl 5 (List.map Ak A7)] []=some (bA r,[]):=by
 intro h;rcases n with _|n;cases h
 rw[Mq] at h
 refine Aw Tryz.func70 (by rfl) rfl rfl (Nat.le_of_ble_eq_true rfl) ?_
 intro call hc;conv=>lhs;whnf
 revert h
 refine br ?_ ?_
 exact rz
 refine br ?_ ?_
 exact rz
 refine ca hc (fun _ h=>Aas h) ?_;intro y3
 refine br ?_ ?_
 exact rz
 intro h;refine B1 h ?_;clear h;intro o14 ho14 h
 refine lq (σ:=Int) (τ:=Unit) (ν:=Bool) 0 (fun s6 a8=>Bh 33 [(0,AV.sl 5 (List.map Ak A7)),(20,AV.sl 5 (List.map Ak A7)),(21,iA (((A7.length:Nat):Int))),(22,iA s6)]) (fun s6 a8=>[]) (fun _ a20=>Bh 33 [(0,AV.sl 5 (List.map Ak A7))]) (fun _ a20=>[]) (fun v=>(bA v,[])) (fun k s=>Ho n A7 k s) (fun s=>rfl) o14 n 0 (fun _=>0) ho14 ?_ ?_
 intro k7 s6 a8 K9 cont10 hK11 hcont12 h hr13
 replace h:Ho n A7 (k7+1) s6=some o14:=h
 rw[Ho] at h
 conv=>lhs;whnf
 revert h
 refine br ?_ ?_
 refine ix ?_;intro x16
 refine ca hc (fun _ h=>A7m h) ?_;intro y17
 refine br ?_ ?_
 exact fun h=>cq (hcont12 (IntKind.i64.wrap (s6+1)) (fun _=>0) h)
 intro h;cases sj h
 refine(hK11 _ _).trans ?_
 refine Eq.trans ?_ (Eq.symm (show _=some _ from hr13))
 conv=>lhs;whnf
 exact rq
 intro h;cases sj h
 exact kq (hr13 (fun _=>0))
 refine lrc ?_ ?_
 intro v e;subst e;cases sj h;rfl
 intro t a20 e;subst e
 dsimp only at h
 conv=>lhs;whnf
 revert h
 refine ca hc (fun _ h=>A6a h) ?_;intro y21
 exact rz
end Go.Proofs.YtpnhafdimkmbbaaGreat
end
section
namespace Go.Proofs.YtpnhafdimkmbbaaGreat
set_option linter.unusedVariables false
set_option linter.unusedSimpArgs false
set_option maxRecDepth 100000
set_option maxHeartbeats 4000000
theorem A6n {n:Nat} ⦃Bx:Int⦄ ⦃r:Bool⦄:Oh n Bx=some r→CN n 117 [iA Bx] []=some (bA r,[]):=by
 intro h;rcases n with _|n;cases h
 rw[Oh] at h
 refine Aw Tryz.func117 (by rfl) rfl rfl (Nat.le_of_ble_eq_true rfl) ?_
 intro call hc;conv=>lhs;whnf
 revert h
 refine br ?_ ?_
 exact rz
 refine br ?_ ?_
 exact rz
 refine br ?_ ?_
 exact rz
 exact rz
def Qe (n:Nat):Prop:=∀ ⦃A7:(List A0)⦄ ⦃Dq:Int⦄ ⦃D9:Int⦄ ⦃r:Int⦄,Jo n A7 Dq D9=some r→CN n 102 [AV.sl 9 (List.map Aj A7),iA Dq,iA D9] []=some (iA r,[])
def Rh (n:Nat):Prop:=∀ ⦃Jp:Int⦄ ⦃X9:Int⦄ ⦃Zq:Int⦄ ⦃o0:(List A0)⦄ ⦃o1:Int⦄ ⦃r:(Bool×Int)⦄,Fq n Jp X9 Zq o0 o1=some r→CN n 116 [iA Jp,iA X9,iA Zq,AV.ptr 0 0,AV.ptr 1 0] [Ob.var 38 [AV.sl 9 (List.map Aj o0)],Ob.var 3 [iA o1]]=some (bA r.1,[Ob.var 38 [AV.sl 9 (List.map Aj o0)],Ob.var 3 [iA r.2]])
def Kc (n:Nat):Prop:=∀ ⦃A7:(List A0)⦄ ⦃Dq:Int⦄ ⦃D9:Int⦄ ⦃o0:(List A0)⦄ ⦃o1:Int⦄ ⦃r:(Bool×Int)⦄,Gf n A7 Dq D9 o0 o1=some r→CN n 115 [AV.sl 9 (List.map Aj A7),iA Dq,iA D9,AV.func 116 [] [AV.ptr 0 0,AV.ptr 1 0]] [Ob.var 38 [AV.sl 9 (List.map Aj o0)],Ob.var 3 [iA o1]]=some (bA r.1,[Ob.var 38 [AV.sl 9 (List.map Aj o0)],Ob.var 3 [iA r.2]])
def Qa (n:Nat):Prop:=Qe n∧Rh n∧Kc n
theorem A6u (n:Nat) (ih:Qa n):Qe (n+1):=by
 intro A7 Dq D9 r h
 rw[Jo] at h
 refine Aw Tryz.func102 (by rfl) rfl rfl (Nat.le_of_ble_eq_true rfl) ?_
 intro call hc;conv=>lhs;whnf
 revert h
 refine ca hc (fun _ h=>ih.2.2 h) ?_;intro y1
 refine br ?_ ?_
 exact rz
 exact rz
theorem A2o (n:Nat) (ih:Qa n):Rh (n+1):=by
 intro Jp X9 Zq o0 o1 r h
 rw[Fq] at h
 refine Aw Tryz.func116 (by rfl) rfl rfl (Nat.le_of_ble_eq_true rfl) ?_
 intro call hc;conv=>lhs;whnf
 revert h
 refine ca hc (fun _ h=>ih.1 h) ?_;intro y1
 refine ca hc (fun _ h=>ih.1 h) ?_;intro y3
 refine ix ?_;intro x5
 refine ca hc (fun _ h=>A6n h) ?_;intro y6
 refine br ?_ ?_
 refine br ?_ ?_
 exact rz
 exact rz
 refine br ?_ ?_
 exact rz
 exact rz
theorem U0 (n:Nat) (ih:Qa n):Kc (n+1):=by
 intro A7 Dq D9 o0 o1 r h
 rw[Gf] at h
 refine Aw Tryz.func115 (by rfl) rfl rfl (Nat.le_of_ble_eq_true rfl) ?_
 intro call hc;conv=>lhs;whnf
 revert h
 intro h;refine B1 h ?_;clear h;intro o10 ho10 h
 refine lq (σ:=(Int×Int)) (τ:=Int) (ν:=(Bool×Int)) 0 (fun(s1,s2) a4=>Bh 63 [(0,AV.sl 9 (List.map Aj A7)),(1,iA s1),(2,iA D9),(3,AV.func 116 [] [AV.ptr 0 0,AV.ptr 1 0])]) (fun(s1,s2) a4=>[Ob.var 38 [AV.sl 9 (List.map Aj o0)],Ob.var 3 [iA s2]]) (fun x21 a20=>Bh 63 []) (fun x21 a20=>[Ob.var 38 [AV.sl 9 (List.map Aj o0)],Ob.var 3 [iA x21]]) (fun v=>(bA v.1,[Ob.var 38 [AV.sl 9 (List.map Aj o0)],Ob.var 3 [iA v.2]])) (fun k s=>Cs n (Fq n) A7 D9 o0 k s.1 s.2) (fun s=>rfl) o10 n (Dq,o1) (fun _=>0) ho10 ?_ ?_
 intro k3 ss a4 K5 cont6 hK7 hcont8 h hr9
 obtain⟨s1,s2⟩:=ss
 replace h:Cs n (Fq n) A7 D9 o0 (k3+1) s1 s2=some o10:=h
 rw[Cs] at h
 conv=>lhs;whnf
 revert h
 refine br ?_ ?_
 refine ix ?_;intro x12
 refine br ?_ ?_
 intro h;cases sj h
 refine(hK7 _ _).trans ?_
 refine Eq.trans ?_ (Eq.symm (show _=some _ from hr9))
 conv=>lhs;whnf
 exact rq
 refine br ?_ ?_
 intro h;cases sj h
 refine(hK7 _ _).trans ?_
 refine Eq.trans ?_ (Eq.symm (show _=some _ from hr9))
 conv=>lhs;whnf
 exact rq
 refine br ?_ ?_
 intro h;cases sj h
 refine(hK7 _ _).trans ?_
 refine Eq.trans ?_ (Eq.symm (show _=some _ from hr9))
 conv=>lhs;whnf
 exact rq
 refine br ?_ ?_
 intro h;cases sj h
 refine(hK7 _ _).trans ?_
 refine Eq.trans ?_ (Eq.symm (show _=some _ from hr9))
 conv=>lhs;whnf
 exact rq
 refine ca hc (fun _ h=>ih.2.1 h) ?_;intro y17
 refine br ?_ ?_
 exact fun h=>cq (hcont8 (IntKind.i64.wrap ((IntKind.i64.wrap ((IntKind.i64.wrap (s1+1))+x12.Al))+x12.C4),y17.2) (fun _=>0) h)
 intro h;cases sj h
 refine(hK7 _ _).trans ?_
 refine Eq.trans ?_ (Eq.symm (show _=some _ from hr9))
 conv=>lhs;whnf
 exact rq
 intro h;cases sj h
 exact kq (hr9 (fun _=>0))
 refine lrc ?_ ?_
 intro v e;subst e;cases sj h;rfl
 intro x21 a20 e;subst e
 dsimp only at h
 conv=>lhs;whnf
 revert h
 exact rz
theorem Wr:∀ n,Qa n
 | 0=>⟨by unfold Qe;intros;rename_i h;exact absurd h (by intro h;cases h),by unfold Rh;intros;rename_i h;exact absurd h (by intro h;cases h),by unfold Kc;intros;rename_i h;exact absurd h (by intro h;cases h)⟩
 | n+1=>have ih:=Wr n
   ⟨A6u n ih,A2o n ih,U0 n ih⟩
theorem A6i {n:Nat}:Qe n:=(Wr n).1
theorem A68 {n:Nat} ⦃A7:(List A0)⦄ ⦃r:Int⦄:Of n A7=some r→CN n 92 [AV.sl 9 (List.map Aj A7)] []=some (iA r,[]):=by
 intro h;rcases n with _|n;cases h
 rw[Of] at h
 refine Aw Tryz.func92 (by rfl) rfl rfl (Nat.le_of_ble_eq_true rfl) ?_
 intro call hc;conv=>lhs;whnf
 revert h
 refine cr hc (fun _ h=>A6i h) ?_;intro y1
 exact rz
theorem Hy {n:Nat} ⦃L9:C3⦄ ⦃Nq:Int⦄ ⦃r:Bool⦄:Eg n L9 Nq=some r→CN n 105 [AV.agg [sA L9.f_word,sA L9.f_form,bA L9.f_body,bA L9.f_more],AV.int .u8 Nq] []=some (bA r,[]):=by
 intro h;rcases n with _|n;cases h
 rw[Eg] at h
 refine Aw Tryz.func105 (by rfl) rfl rfl (Nat.le_of_ble_eq_true rfl) ?_
 intro call hc;conv=>lhs;whnf
 revert h
 intro h;refine B1 h ?_;clear h;intro o9 ho9 h
 refine lq (σ:=Int) (τ:=Unit) (ν:=Bool) 0 (fun s1 a3=>Bh 19 [(1,AV.int .u8 Nq),(2,AV.ptr 0 0),(8,iA (((L9.f_form.length:Nat):Int))),(9,iA s1)]) (fun s1 a3=>[Ob.var 120 [sA L9.f_word,sA L9.f_form,bA L9.f_body,bA L9.f_more]]) (fun _ a13=>Bh 19 []) (fun _ a13=>[Ob.var 120 [sA L9.f_word,sA L9.f_form,bA L9.f_body,bA L9.f_more]]) (fun v=>(bA v,[])) (fun k s=>Fh n L9 Nq k s) (fun s=>rfl) o9 n 0 (fun _=>0) ho9 ?_ ?_
 intro k2 s1 a3 K4 cont5 hK6 hcont7 h hr8
 replace h:Fh n L9 Nq (k2+1) s1=some o9:=h
 rw[Fh] at h
 conv=>lhs;whnf
 revert h
 refine br ?_ ?_
 refine ixs ?_;intro x11
 refine br ?_ ?_
 intro h;cases sj h
 refine(hK6 _ _).trans ?_
 refine Eq.trans ?_ (Eq.symm (show _=some _ from hr8))
 conv=>lhs;whnf
 exact rq
 exact fun h=>cq (hcont7 (IntKind.i64.wrap (s1+1)) (fun _=>0) h)
 intro h;cases sj h
 exact kq (hr8 (fun _=>0))
 refine lrc ?_ ?_
 intro v e;subst e;cases sj h;rfl
 intro t a13 e;subst e
 dsimp only at h
 conv=>lhs;whnf
 revert h
 exact rz
theorem Pc {n:Nat} ⦃H4:Int⦄ ⦃A4z:(List UInt8)⦄ ⦃Ft:(List UInt8)⦄ ⦃Fu:(List UInt8)⦄ ⦃Fv:Bool⦄ ⦃Fw:Bool⦄ ⦃r:Bool⦄:Ip n H4 A4z Ft Fu Fv Fw=some r→CN n 104 [AV.int .u8 H4,sA A4z,AV.ptr 0 0] [Ob.var 120 [sA Ft,sA Fu,bA Fv,bA Fw]]=some (bA r,[Ob.var 120 [sA Ft,sA Fu,bA Fv,bA Fw]]):=by
 intro h;rcases n with _|n;cases h
 rw[Ip] at h
 refine Aw Tryz.func104 (by rfl) rfl rfl (Nat.le_of_ble_eq_true rfl) ?_
 intro call hc;conv=>lhs;whnf
 revert h
 refine ca hc (fun y1 h=>(show CN n 105 [AV.agg [sA Ft,sA Fu,bA Fv,bA Fw],AV.int .u8 H4] []=some (bA y1,[]) from Hy (r:=y1) h)) ?_;intro y1
 refine br ?_ ?_
 refine ca hc (fun _ h=>Jk h) ?_;intro y4
 refine br ?_ ?_
 exact rz
 refine ca hc (fun y7 h=>(show CN n 105 [AV.agg [sA Ft,sA Fu,bA Fv,bA Fw],AV.int .u8 H4] []=some (bA y7,[]) from Hy (r:=y7) h)) ?_;intro y7
 refine br ?_ ?_
 exact rz
 exact rz
 refine ca hc (fun y10 h=>(show CN n 105 [AV.agg [sA Ft,sA Fu,bA Fv,bA Fw],AV.int .u8 H4] []=some (bA y10,[]) from Hy (r:=y10) h)) ?_;intro y10
 refine br ?_ ?_
 exact rz
 exact rz
theorem A5w {n:Nat} ⦃A7:(List Aa)⦄ ⦃r:Bool⦄:Jm n A7=some r→CN n 107 [AV.sl 5 (List.map Ak A7)] []=some (bA r,[]):=by
 intro h;rcases n with _|n;cases h
 rw[Jm] at h
 refine Aw Tryz.func107 (by rfl) rfl rfl (Nat.le_of_ble_eq_true rfl) ?_
 intro call hc;conv=>lhs;whnf
 revert h
 refine ca hc (fun _ h=>Yc h) ?_;intro y1
 intro h;refine B1 h ?_;clear h;intro o11 ho11 h
 refine lq (σ:=Int) (τ:=Unit) (ν:=Bool) 0 (fun s3 a5=>Bh 18 [(0,AV.sl 5 (List.map Ak A7)),(6,AV.sl 5 (List.map Ak y1)),(7,iA (((y1.length:Nat):Int))),(8,iA s3)]) (fun s3 a5=>[]) (fun _ a15=>Bh 18 [(0,AV.sl 5 (List.map Ak A7))]) (fun _ a15=>[]) (fun v=>(bA v,[])) (fun k s=>Fm n y1 k s) (fun s=>rfl) o11 n 0 (fun _=>0) ho11 ?_ ?_
 intro k4 s3 a5 K6 cont7 hK8 hcont9 h hr10
 replace h:Fm n y1 (k4+1) s3=some o11:=h
 rw[Fm] at h
 conv=>lhs;whnf
 revert h
 refine br ?_ ?_
 refine ix ?_;intro x13
 refine br ?_ ?_
 intro h;cases sj h
 refine(hK8 _ _).trans ?_
 refine Eq.trans ?_ (Eq.symm (show _=some _ from hr10))
 conv=>lhs;whnf
 exact rq
 exact fun h=>cq (hcont9 (IntKind.i64.wrap (s3+1)) (fun _=>0) h)
 intro h;cases sj h
 exact kq (hr10 (fun _=>0))
 refine lrc ?_ ?_
 intro v e;subst e;cases sj h;rfl
 intro t a15 e;subst e
 dsimp only at h
 conv=>lhs;whnf
 revert h
 refine ca hc (fun _ h=>Y6 h) ?_;intro y16
 exact rz
theorem P1 {n:Nat} ⦃H4:Int⦄ ⦃Dk:(List Aa)⦄ ⦃Ft:(List UInt8)⦄ ⦃Fu:(List UInt8)⦄ ⦃Fv:Bool⦄ ⦃Fw:Bool⦄ ⦃r:Bool⦄:Iw n H4 Dk Ft Fu Fv Fw=some r→CN n 106 [AV.int .u8 H4,AV.sl 5 (List.map Ak Dk),AV.ptr 0 0] [Ob.var 120 [sA Ft,sA Fu,bA Fv,bA Fw]]=some (bA r,[Ob.var 120 [sA Ft,sA Fu,bA Fv,bA Fw]]):=by
 intro h;rcases n with _|n;cases h
 rw[Iw] at h
 refine Aw Tryz.func106 (by rfl) rfl rfl (Nat.le_of_ble_eq_true rfl) ?_
 intro call hc;conv=>lhs;whnf
 revert h
 refine ca hc (fun y1 h=>(show CN n 105 [AV.agg [sA Ft,sA Fu,bA Fv,bA Fw],AV.int .u8 H4] []=some (bA y1,[]) from Hy (r:=y1) h)) ?_;intro y1
 refine br ?_ ?_
 refine ca hc (fun _ h=>A5w h) ?_;intro y4
 refine br ?_ ?_
 exact rz
 refine ca hc (fun y7 h=>(show CN n 105 [AV.agg [sA Ft,sA Fu,bA Fv,bA Fw],AV.int .u8 H4] []=some (bA y7,[]) from Hy (r:=y7) h)) ?_;intro y7
 refine br ?_ ?_
 exact rz
 exact rz
 refine ca hc (fun y10 h=>(show CN n 105 [AV.agg [sA Ft,sA Fu,bA Fv,bA Fw],AV.int .u8 H4] []=some (bA y10,[]) from Hy (r:=y10) h)) ?_;intro y10
 refine br ?_ ?_
 exact rz
 exact rz
theorem A6v {n:Nat} ⦃r:(List C3)⦄:Od n=some r→CN n 118 [] []=some (AV.sl 4 (List.map Ab5 r),[]):=by
 intro h;rcases n with _|n;cases h
 rw[Od] at h
 refine Aw Tryz.func118 (by rfl) rfl rfl (Nat.le_of_ble_eq_true rfl) ?_
 intro call hc;conv=>lhs;whnf
 revert h
 exact rz
theorem Ade {n:Nat} ⦃Dc:Int⦄ ⦃r:(C3×Bool)⦄:R0 n Dc=some r→CN n 103 [iA Dc] []=some (AV.tup [AV.agg [sA r.1.f_word,sA r.1.f_form,bA r.1.f_body,bA r.1.f_more],bA r.2],[]):=by
 intro h;rcases n with _|n;cases h
 rw[R0] at h
 refine Aw Tryz.func103 (by rfl) rfl rfl (Nat.le_of_ble_eq_true rfl) ?_
 intro call hc;conv=>lhs;whnf
 revert h
 refine ca hc (fun _ h=>A6v h) ?_;intro y1
 refine br ?_ ?_
 exact rz
 refine br ?_ ?_
 exact rz
 refine ix ?_;intro x5
 exact rz
theorem A88 {n:Nat} ⦃Bc:A0⦄ ⦃r:Bool⦄:Q0 n Bc=some r→CN n 93 [AV.agg [iA Bc.Ac,sA Bc.Ax,sA Bc.Au,AV.sl 5 (List.map Ak Bc.B4),AV.sl 5 (List.map Ak Bc.Bd),bA Bc.Bf,iA Bc.Al,iA Bc.C4,iA Bc.A8]] []=some (bA r,[]):=by
 intro h;rcases n with _|n;cases h
 rw[Q0] at h
 refine Aw Tryz.func93 (by rfl) rfl rfl (Nat.le_of_ble_eq_true rfl) ?_
 intro call hc;conv=>lhs;whnf
 revert h
 refine ca hc (fun _ h=>Ade h) ?_;intro y1
 refine br ?_ ?_
 refine br ?_ ?_
 exact rz
 refine br ?_ ?_
 refine ca hc (fun _ h=>Hy h) ?_;intro y6
 refine br ?_ ?_
 refine ca hc (fun _ h=>Pc h) ?_;intro y9
 refine br ?_ ?_
 refine ca hc (fun _ h=>Pc h) ?_;intro y12
 refine br ?_ ?_
 refine ca hc (fun _ h=>P1 h) ?_;intro y15
 refine br ?_ ?_
 refine ca hc (fun _ h=>P1 h) ?_;intro y18
 refine br ?_ ?_
 refine br ?_ ?_
 refine br ?_ ?_
 exact rz
 exact rz
 refine br ?_ ?_
 refine br ?_ ?_
 exact rz
 exact rz
 exact rz
 exact rz
 exact rz
 exact rz
 exact rz
 exact rz
 refine ca hc (fun _ h=>Pc h) ?_;intro y25
 refine br ?_ ?_
 refine ca hc (fun _ h=>Pc h) ?_;intro y28
 refine br ?_ ?_
 refine ca hc (fun _ h=>P1 h) ?_;intro y31
 refine br ?_ ?_
 refine ca hc (fun _ h=>P1 h) ?_;intro y34
 refine br ?_ ?_
 refine br ?_ ?_
 refine br ?_ ?_
 exact rz
 exact rz
 refine br ?_ ?_
 refine br ?_ ?_
 exact rz
 exact rz
 exact rz
 exact rz
 exact rz
 exact rz
 exact rz
 exact rz
theorem A6q {n:Nat} ⦃A7:(List A0)⦄ ⦃r:Bool⦄:O7 n A7=some r→CN n 66 [AV.sl 9 (List.map Aj A7)] []=some (bA r,[]):=by
 intro h;rcases n with _|n;cases h
 rw[O7] at h
 refine Aw Tryz.func66 (by rfl) rfl rfl (Nat.le_of_ble_eq_true rfl) ?_
 intro call hc;conv=>lhs;whnf
 revert h
 refine ca hc (fun _ h=>A68 h) ?_;intro y1
 refine br ?_ ?_
 exact rz
 refine br ?_ ?_
 exact rz
 refine br ?_ ?_
 exact rz
 intro h;refine B1 h ?_;clear h;intro o14 ho14 h
 refine lq (σ:=Int) (τ:=Unit) (ν:=Bool) 0 (fun s6 a8=>Bh 29 [(19,AV.sl 9 (List.map Aj A7)),(20,iA (((A7.length:Nat):Int))),(21,iA s6)]) (fun s6 a8=>[]) (fun _ a20=>Bh 29 []) (fun _ a20=>[]) (fun v=>(bA v,[])) (fun k s=>Hr n A7 k s) (fun s=>rfl) o14 n 0 (fun _=>0) ho14 ?_ ?_
 intro k7 s6 a8 K9 cont10 hK11 hcont12 h hr13
 replace h:Hr n A7 (k7+1) s6=some o14:=h
 rw[Hr] at h
 conv=>lhs;whnf
 revert h
 refine br ?_ ?_
 refine ix ?_;intro x16
 refine ca hc (fun _ h=>A88 h) ?_;intro y17
 refine br ?_ ?_
 exact fun h=>cq (hcont12 (IntKind.i64.wrap (s6+1)) (fun _=>0) h)
 intro h;cases sj h
 refine(hK11 _ _).trans ?_
 refine Eq.trans ?_ (Eq.symm (show _=some _ from hr13))
 conv=>lhs;whnf
 exact rq
 intro h;cases sj h
 exact kq (hr13 (fun _=>0))
 refine lrc ?_ ?_
 intro v e;subst e;cases sj h;rfl
 intro t a20 e;subst e
 dsimp only at h
 conv=>lhs;whnf
 revert h
 exact rz
end Go.Proofs.YtpnhafdimkmbbaaGreat
end
section
namespace Go.Proofs.YtpnhafdimkmbbaaGreat
set_option linter.unusedVariables false
set_option linter.unusedSimpArgs false
set_option maxRecDepth 100000
set_option maxHeartbeats 4000000
theorem X8 {n:Nat} ⦃Dc:Int⦄ ⦃r:Bool⦄:Lg n Dc=some r→CN n 34 [iA Dc] []=some (bA r,[]):=by
 intro h;rcases n with _|n;cases h
 rw[Lg] at h
 refine Aw Tryz.func34 (by rfl) rfl rfl (Nat.le_of_ble_eq_true rfl) ?_
 intro call hc;conv=>lhs;whnf
 revert h
 refine br ?_ ?_
 exact rz
 exact rz
theorem A2g {n:Nat} ⦃Jp:Int⦄ ⦃Cc:Int⦄ ⦃By:(List B9)⦄ ⦃Bl:(List Am)⦄ ⦃Bp:(List At)⦄ ⦃r:Bool⦄:Pf n Jp Cc By Bl Bp=some r→CN n 32 [iA Jp,AV.ptr 0 0] [Ob.var 26 [iA Cc,AV.sl 3 (List.map Ai By),AV.sl 4 (List.map Ab Bl),AV.sl 3 (List.map Ae Bp)]]=some (bA r,[Ob.var 26 [iA Cc,AV.sl 3 (List.map Ai By),AV.sl 4 (List.map Ab Bl),AV.sl 3 (List.map Ae Bp)]]):=by
 intro h;rcases n with _|n;cases h
 rw[Pf] at h
 refine Aw Tryz.func32 (by rfl) rfl rfl (Nat.le_of_ble_eq_true rfl) ?_
 intro call hc;conv=>lhs;whnf
 revert h
 refine ix ?_;intro x1
 refine ca hc (fun _ h=>Jk h) ?_;intro y2
 refine br ?_ ?_
 refine ca hc (fun _ h=>X8 h) ?_;intro y5
 refine br ?_ ?_
 exact rz
 exact rz
 exact rz
theorem Aak {n:Nat} ⦃Dc:Int⦄ ⦃Cc:Int⦄ ⦃By:(List B9)⦄ ⦃Bl:(List Am)⦄ ⦃Bp:(List At)⦄ ⦃r:Bool⦄:Re n Dc Cc By Bl Bp=some r→CN n 31 [iA Dc,AV.func 32 [] [AV.ptr 0 0]] [Ob.var 26 [iA Cc,AV.sl 3 (List.map Ai By),AV.sl 4 (List.map Ab Bl),AV.sl 3 (List.map Ae Bp)]]=some (bA r,[Ob.var 26 [iA Cc,AV.sl 3 (List.map Ai By),AV.sl 4 (List.map Ab Bl),AV.sl 3 (List.map Ae Bp)]]):=by
 intro h;rcases n with _|n;cases h
 rw[Re] at h
 refine Aw Tryz.func31 (by rfl) rfl rfl (Nat.le_of_ble_eq_true rfl) ?_
 intro call hc;conv=>lhs;whnf
 revert h
 intro h;refine B1 h ?_;clear h;intro o9 ho9 h
 refine lq (σ:=Int) (τ:=Unit) (ν:=Bool) 0 (fun s1 a3=>Bh 15 [(1,AV.func 32 [] [AV.ptr 0 0]),(6,iA Dc),(7,iA s1)]) (fun s1 a3=>[Ob.var 26 [iA Cc,AV.sl 3 (List.map Ai By),AV.sl 4 (List.map Ab Bl),AV.sl 3 (List.map Ae Bp)]]) (fun _ a14=>Bh 15 []) (fun _ a14=>[Ob.var 26 [iA Cc,AV.sl 3 (List.map Ai By),AV.sl 4 (List.map Ab Bl),AV.sl 3 (List.map Ae Bp)]]) (fun v=>(bA v,[Ob.var 26 [iA Cc,AV.sl 3 (List.map Ai By),AV.sl 4 (List.map Ab Bl),AV.sl 3 (List.map Ae Bp)]])) (fun k s=>Je n Dc Cc By Bl Bp k s) (fun s=>rfl) o9 n 0 (fun _=>0) ho9 ?_ ?_
 intro k2 s1 a3 K4 cont5 hK6 hcont7 h hr8
 replace h:Je n Dc Cc By Bl Bp (k2+1) s1=some o9:=h
 rw[Je] at h
 conv=>lhs;whnf
 revert h
 refine br ?_ ?_
 refine ca hc (fun _ h=>A2g h) ?_;intro y11
 refine br ?_ ?_
 exact fun h=>cq (hcont7 (IntKind.i64.wrap (s1+1)) (fun _=>0) h)
 intro h;cases sj h
 refine(hK6 _ _).trans ?_
 refine Eq.trans ?_ (Eq.symm (show _=some _ from hr8))
 conv=>lhs;whnf
 exact rq
 intro h;cases sj h
 exact kq (hr8 (fun _=>0))
 refine lrc ?_ ?_
 intro v e;subst e;cases sj h;rfl
 intro t a14 e;subst e
 dsimp only at h
 conv=>lhs;whnf
 revert h
 exact rz
theorem A14 {n:Nat} ⦃Jp:Int⦄ ⦃Hh:(List UInt8)⦄ ⦃H5:(List (List UInt8))⦄ ⦃Hi:(List A0)⦄ ⦃L6:Int⦄ ⦃r:Bool⦄:Nw n Jp Hh H5 Hi L6=some r→CN n 67 [iA Jp,AV.ptr 0 0] [Ob.var 40 [sA Hh,AV.sl 1 (List.map Co H5),AV.sl 9 (List.map Aj Hi),iA L6]]=some (bA r,[Ob.var 40 [sA Hh,AV.sl 1 (List.map Co H5),AV.sl 9 (List.map Aj Hi),iA L6]]):=by
 intro h;rcases n with _|n;cases h
 rw[Nw] at h
 refine Aw Tryz.func67 (by rfl) rfl rfl (Nat.le_of_ble_eq_true rfl) ?_
 intro call hc;conv=>lhs;whnf
 revert h
 refine ix ?_;intro x1
 refine ca hc (fun _ h=>Jk h) ?_;intro y2
 exact rz
theorem A6s {n:Nat} ⦃Dc:Int⦄ ⦃Hh:(List UInt8)⦄ ⦃H5:(List (List UInt8))⦄ ⦃Hi:(List A0)⦄ ⦃L6:Int⦄ ⦃r:Bool⦄:O5 n Dc Hh H5 Hi L6=some r→CN n 31 [iA Dc,AV.func 67 [] [AV.ptr 0 0]] [Ob.var 40 [sA Hh,AV.sl 1 (List.map Co H5),AV.sl 9 (List.map Aj Hi),iA L6]]=some (bA r,[Ob.var 40 [sA Hh,AV.sl 1 (List.map Co H5),AV.sl 9 (List.map Aj Hi),iA L6]]):=by
 intro h;rcases n with _|n;cases h
 rw[O5] at h
 refine Aw Tryz.func31 (by rfl) rfl rfl (Nat.le_of_ble_eq_true rfl) ?_
 intro call hc;conv=>lhs;whnf
 revert h
 intro h;refine B1 h ?_;clear h;intro o9 ho9 h
 refine lq (σ:=Int) (τ:=Unit) (ν:=Bool) 0 (fun s1 a3=>Bh 15 [(1,AV.func 67 [] [AV.ptr 0 0]),(6,iA Dc),(7,iA s1)]) (fun s1 a3=>[Ob.var 40 [sA Hh,AV.sl 1 (List.map Co H5),AV.sl 9 (List.map Aj Hi),iA L6]]) (fun _ a14=>Bh 15 []) (fun _ a14=>[Ob.var 40 [sA Hh,AV.sl 1 (List.map Co H5),AV.sl 9 (List.map Aj Hi),iA L6]]) (fun v=>(bA v,[Ob.var 40 [sA Hh,AV.sl 1 (List.map Co H5),AV.sl 9 (List.map Aj Hi),iA L6]])) (fun k s=>Hw n Dc Hh H5 Hi L6 k s) (fun s=>rfl) o9 n 0 (fun _=>0) ho9 ?_ ?_
 intro k2 s1 a3 K4 cont5 hK6 hcont7 h hr8
 replace h:Hw n Dc Hh H5 Hi L6 (k2+1) s1=some o9:=h
 rw[Hw] at h
 conv=>lhs;whnf
 revert h
 refine br ?_ ?_
 refine ca hc (fun _ h=>A14 h) ?_;intro y11
 refine br ?_ ?_
 exact fun h=>cq (hcont7 (IntKind.i64.wrap (s1+1)) (fun _=>0) h)
 intro h;cases sj h
 refine(hK6 _ _).trans ?_
 refine Eq.trans ?_ (Eq.symm (show _=some _ from hr8))
 conv=>lhs;whnf
 exact rq
 intro h;cases sj h
 exact kq (hr8 (fun _=>0))
 refine lrc ?_ ?_
 intro v e;subst e;cases sj h;rfl
 intro t a14 e;subst e
 dsimp only at h
 conv=>lhs;whnf
 revert h
 exact rz
theorem A4b {n:Nat} ⦃S5:Am⦄ ⦃r:Bool⦄:N8 n S5=some r→CN n 36 [AV.agg [sA S5.An,AV.sl 1 (List.map Co S5.B2),AV.sl 9 (List.map Aj S5.Al),iA S5.A8]] []=some (bA r,[]):=by
 intro h;rcases n with _|n;cases h
 rw[N8] at h
 refine Aw Tryz.func36 (by rfl) rfl rfl (Nat.le_of_ble_eq_true rfl) ?_
 intro call hc;conv=>lhs;whnf
 revert h
 refine ca hc (fun _ h=>Jk h) ?_;intro y1
 refine br ?_ ?_
 refine br ?_ ?_
 refine ca hc (fun _ h=>A6q h) ?_;intro y5
 refine br ?_ ?_
 refine cr hc (fun _ h=>A6s h) ?_;intro y8
 exact rz
 exact rz
 exact rz
 exact rz
theorem A34 {n:Nat} ⦃Jp:Int⦄ ⦃Cc:Int⦄ ⦃By:(List B9)⦄ ⦃Bl:(List Am)⦄ ⦃Bp:(List At)⦄ ⦃r:Bool⦄:P5 n Jp Cc By Bl Bp=some r→CN n 35 [iA Jp,AV.ptr 0 0] [Ob.var 26 [iA Cc,AV.sl 3 (List.map Ai By),AV.sl 4 (List.map Ab Bl),AV.sl 3 (List.map Ae Bp)]]=some (bA r,[Ob.var 26 [iA Cc,AV.sl 3 (List.map Ai By),AV.sl 4 (List.map Ab Bl),AV.sl 3 (List.map Ae Bp)]]):=by
 intro h;rcases n with _|n;cases h
 rw[P5] at h
 refine Aw Tryz.func35 (by rfl) rfl rfl (Nat.le_of_ble_eq_true rfl) ?_
 intro call hc;conv=>lhs;whnf
 revert h
 refine ix ?_;intro x1
 refine ca hc (fun _ h=>A4b h) ?_;intro y2
 exact rz
theorem A61 {n:Nat} ⦃Dc:Int⦄ ⦃Cc:Int⦄ ⦃By:(List B9)⦄ ⦃Bl:(List Am)⦄ ⦃Bp:(List At)⦄ ⦃r:Bool⦄:Ol n Dc Cc By Bl Bp=some r→CN n 31 [iA Dc,AV.func 35 [] [AV.ptr 0 0]] [Ob.var 26 [iA Cc,AV.sl 3 (List.map Ai By),AV.sl 4 (List.map Ab Bl),AV.sl 3 (List.map Ae Bp)]]=some (bA r,[Ob.var 26 [iA Cc,AV.sl 3 (List.map Ai By),AV.sl 4 (List.map Ab Bl),AV.sl 3 (List.map Ae Bp)]]):=by
 intro h;rcases n with _|n;cases h
 rw[Ol] at h
 refine Aw Tryz.func31 (by rfl) rfl rfl (Nat.le_of_ble_eq_true rfl) ?_
 intro call hc;conv=>lhs;whnf
 revert h
 intro h;refine B1 h ?_;clear h;intro o9 ho9 h
 refine lq (σ:=Int) (τ:=Unit) (ν:=Bool) 0 (fun s1 a3=>Bh 15 [(1,AV.func 35 [] [AV.ptr 0 0]),(6,iA Dc),(7,iA s1)]) (fun s1 a3=>[Ob.var 26 [iA Cc,AV.sl 3 (List.map Ai By),AV.sl 4 (List.map Ab Bl),AV.sl 3 (List.map Ae Bp)]]) (fun _ a14=>Bh 15 []) (fun _ a14=>[Ob.var 26 [iA Cc,AV.sl 3 (List.map Ai By),AV.sl 4 (List.map Ab Bl),AV.sl 3 (List.map Ae Bp)]]) (fun v=>(bA v,[Ob.var 26 [iA Cc,AV.sl 3 (List.map Ai By),AV.sl 4 (List.map Ab Bl),AV.sl 3 (List.map Ae Bp)]])) (fun k s=>Hq n Dc Cc By Bl Bp k s) (fun s=>rfl) o9 n 0 (fun _=>0) ho9 ?_ ?_
 intro k2 s1 a3 K4 cont5 hK6 hcont7 h hr8
 replace h:Hq n Dc Cc By Bl Bp (k2+1) s1=some o9:=h
 rw[Hq] at h
 conv=>lhs;whnf
 revert h
 refine br ?_ ?_
 refine ca hc (fun _ h=>A34 h) ?_;intro y11
 refine br ?_ ?_
 exact fun h=>cq (hcont7 (IntKind.i64.wrap (s1+1)) (fun _=>0) h)
 intro h;cases sj h
 refine(hK6 _ _).trans ?_
 refine Eq.trans ?_ (Eq.symm (show _=some _ from hr8))
 conv=>lhs;whnf
 exact rq
 intro h;cases sj h
 exact kq (hr8 (fun _=>0))
 refine lrc ?_ ?_
 intro v e;subst e;cases sj h;rfl
 intro t a14 e;subst e
 dsimp only at h
 conv=>lhs;whnf
 revert h
 exact rz
theorem A9f {n:Nat} ⦃Bx:Int⦄ ⦃r:(List UInt8)⦄:Pp n Bx=some r→CN n 69 [iA Bx] []=some (sA r,[]):=by
 intro h;rcases n with _|n;cases h
 rw[Pp] at h
 refine Aw Tryz.func69 (by rfl) rfl rfl (Nat.le_of_ble_eq_true rfl) ?_
 intro call hc;conv=>lhs;whnf
 revert h
 refine br ?_ ?_
 exact rz
 refine br ?_ ?_
 exact rz
 refine br ?_ ?_
 exact rz
 exact rz
theorem A64 {n:Nat} ⦃Gg:At⦄ ⦃r:Bool⦄:Og n Gg=some r→CN n 38 [AV.agg [iA Gg.Ac,AV.sl 5 (List.map Ak Gg.B4),iA Gg.A8]] []=some (bA r,[]):=by
 intro h;rcases n with _|n;cases h
 rw[Og] at h
 refine Aw Tryz.func38 (by rfl) rfl rfl (Nat.le_of_ble_eq_true rfl) ?_
 intro call hc;conv=>lhs;whnf
 revert h
 refine ca hc (fun _ h=>Yc h) ?_;intro y1
 intro h;refine B1 h ?_;clear h;intro o11 ho11 h
 refine lq (σ:=Int) (τ:=Unit) (ν:=Bool) 0 (fun s3 a5=>Bh 31 [(1,AV.ptr 0 0),(7,AV.sl 5 (List.map Ak y1)),(8,iA (((y1.length:Nat):Int))),(9,iA s3)]) (fun s3 a5=>[Ob.var 45 [iA Gg.Ac,AV.sl 5 (List.map Ak Gg.B4),iA Gg.A8]]) (fun _ a15=>Bh 31 [(1,AV.ptr 0 0)]) (fun _ a15=>[Ob.var 45 [iA Gg.Ac,AV.sl 5 (List.map Ak Gg.B4),iA Gg.A8]]) (fun v=>(bA v,[])) (fun k s=>Ir n y1 k s) (fun s=>rfl) o11 n 0 (fun _=>0) ho11 ?_ ?_
 intro k4 s3 a5 K6 cont7 hK8 hcont9 h hr10
 replace h:Ir n y1 (k4+1) s3=some o11:=h
 rw[Ir] at h
 conv=>lhs;whnf
 revert h
 refine br ?_ ?_
 refine ix ?_;intro x13
 refine br ?_ ?_
 intro h;cases sj h
 refine(hK8 _ _).trans ?_
 refine Eq.trans ?_ (Eq.symm (show _=some _ from hr10))
 conv=>lhs;whnf
 exact rq
 exact fun h=>cq (hcont9 (IntKind.i64.wrap (s3+1)) (fun _=>0) h)
 intro h;cases sj h
 exact kq (hr10 (fun _=>0))
 refine lrc ?_ ?_
 intro v e;subst e;cases sj h;rfl
 intro t a15 e;subst e
 dsimp only at h
 conv=>lhs;whnf
 revert h
 refine ca hc (fun _ h=>A9f h) ?_;intro y16
 refine br ?_ ?_
 exact rz
 refine ca hc (fun _ h=>Y6 h) ?_;intro y19
 refine br ?_ ?_
 exact rz
 exact rz
theorem A3m {n:Nat} ⦃Jp:Int⦄ ⦃Cc:Int⦄ ⦃By:(List B9)⦄ ⦃Bl:(List Am)⦄ ⦃Bp:(List At)⦄ ⦃r:Bool⦄:Oy n Jp Cc By Bl Bp=some r→CN n 37 [iA Jp,AV.ptr 0 0] [Ob.var 26 [iA Cc,AV.sl 3 (List.map Ai By),AV.sl 4 (List.map Ab Bl),AV.sl 3 (List.map Ae Bp)]]=some (bA r,[Ob.var 26 [iA Cc,AV.sl 3 (List.map Ai By),AV.sl 4 (List.map Ab Bl),AV.sl 3 (List.map Ae Bp)]]):=by
 intro h;rcases n with _|n;cases h
 rw[Oy] at h
 refine Aw Tryz.func37 (by rfl) rfl rfl (Nat.le_of_ble_eq_true rfl) ?_
 intro call hc;conv=>lhs;whnf
 revert h
 refine ix ?_;intro x1
 refine ca hc (fun _ h=>A64 h) ?_;intro y2
 exact rz
theorem A67 {n:Nat} ⦃Dc:Int⦄ ⦃Cc:Int⦄ ⦃By:(List B9)⦄ ⦃Bl:(List Am)⦄ ⦃Bp:(List At)⦄ ⦃r:Bool⦄:O9 n Dc Cc By Bl Bp=some r→CN n 31 [iA Dc,AV.func 37 [] [AV.ptr 0 0]] [Ob.var 26 [iA Cc,AV.sl 3 (List.map Ai By),AV.sl 4 (List.map Ab Bl),AV.sl 3 (List.map Ae Bp)]]=some (bA r,[Ob.var 26 [iA Cc,AV.sl 3 (List.map Ai By),AV.sl 4 (List.map Ab Bl),AV.sl 3 (List.map Ae Bp)]]):=by
 intro h;rcases n with _|n;cases h
 rw[O9] at h
 refine Aw Tryz.func31 (by rfl) rfl rfl (Nat.le_of_ble_eq_true rfl) ?_
 intro call hc;conv=>lhs;whnf
 revert h
 intro h;refine B1 h ?_;clear h;intro o9 ho9 h
 refine lq (σ:=Int) (τ:=Unit) (ν:=Bool) 0 (fun s1 a3=>Bh 15 [(1,AV.func 37 [] [AV.ptr 0 0]),(6,iA Dc),(7,iA s1)]) (fun s1 a3=>[Ob.var 26 [iA Cc,AV.sl 3 (List.map Ai By),AV.sl 4 (List.map Ab Bl),AV.sl 3 (List.map Ae Bp)]]) (fun _ a14=>Bh 15 []) (fun _ a14=>[Ob.var 26 [iA Cc,AV.sl 3 (List.map Ai By),AV.sl 4 (List.map Ab Bl),AV.sl 3 (List.map Ae Bp)]]) (fun v=>(bA v,[Ob.var 26 [iA Cc,AV.sl 3 (List.map Ai By),AV.sl 4 (List.map Ab Bl),AV.sl 3 (List.map Ae Bp)]])) (fun k s=>Hs n Dc Cc By Bl Bp k s) (fun s=>rfl) o9 n 0 (fun _=>0) ho9 ?_ ?_
 intro k2 s1 a3 K4 cont5 hK6 hcont7 h hr8
 replace h:Hs n Dc Cc By Bl Bp (k2+1) s1=some o9:=h
 rw[Hs] at h
 conv=>lhs;whnf
 revert h
 refine br ?_ ?_
 refine ca hc (fun _ h=>A3m h) ?_;intro y11
 refine br ?_ ?_
 exact fun h=>cq (hcont7 (IntKind.i64.wrap (s1+1)) (fun _=>0) h)
 intro h;cases sj h
 refine(hK6 _ _).trans ?_
 refine Eq.trans ?_ (Eq.symm (show _=some _ from hr8))
 conv=>lhs;whnf
 exact rq
 intro h;cases sj h
 exact kq (hr8 (fun _=>0))
 refine lrc ?_ ?_
 intro v e;subst e;cases sj h;rfl
 intro t a14 e;subst e
 dsimp only at h
 conv=>lhs;whnf
 revert h
 exact rz
theorem A6d {n:Nat} ⦃A5:Be⦄ ⦃r:Bool⦄:Oo n A5=some r→CN n 17 [AV.agg [iA A5.Ay,AV.sl 3 (List.map Ai A5.Ao),AV.sl 4 (List.map Ab A5.Ad),AV.sl 3 (List.map Ae A5.Aq)]] []=some (bA r,[]):=by
 intro h;rcases n with _|n;cases h
 rw[Oo] at h
 refine Aw Tryz.func17 (by rfl) rfl rfl (Nat.le_of_ble_eq_true rfl) ?_
 intro call hc;conv=>lhs;whnf
 revert h
 refine cr hc (fun _ h=>Aak h) ?_;intro y1
 refine ca hc (fun _ h=>X8 h) ?_;intro y3
 refine br ?_ ?_
 refine br ?_ ?_
 refine cr hc (fun _ h=>A61 h) ?_;intro y7
 refine br ?_ ?_
 refine cr hc (fun _ h=>A67 h) ?_;intro y10
 exact rz
 exact rz
 exact rz
 exact rz
end Go.Proofs.YtpnhafdimkmbbaaGreat
end
section
namespace Go.Proofs.YtpnhafdimkmbbaaGreat
set_option linter.unusedVariables false
set_option linter.unusedSimpArgs false
set_option maxRecDepth 100000
set_option maxHeartbeats 4000000
theorem Mn {n:Nat} ⦃A5:Be⦄ ⦃r:(Int×Int)⦄:Gh n A5=some r→CN n 8 [AV.agg [iA A5.Ay,AV.sl 3 (List.map Ai A5.Ao),AV.sl 4 (List.map Ab A5.Ad),AV.sl 3 (List.map Ae A5.Aq)]] []=some (AV.tup [iA r.1,iA r.2],[]):=by
 intro h;rcases n with _|n;cases h
 rw[Gh] at h
 refine Aw Tryz.func8 (by rfl) rfl rfl (Nat.le_of_ble_eq_true rfl) ?_
 intro call hc;conv=>lhs;whnf
 revert h
 refine ca hc (fun _ h=>A6d h) ?_;intro y1
 refine br ?_ ?_
 refine br ?_ ?_
 refine cr hc (fun y5 h=>(show CN n 18 [AV.ptr 0 0,bA (decide (A5.Ay≤16)),iA (11),iA (0)] [Ob.var 52 [iA A5.Ay,AV.sl 3 (List.map Ai A5.Ao),AV.sl 4 (List.map Ab A5.Ad),AV.sl 3 (List.map Ae A5.Aq),AV.mapp 1,AV.mapp 2,iA (0),iA (0)],Ob.mp none false ([]),Ob.mp none false ([])]=some (bA y5.1,[Ob.var 52 [iA A5.Ay,AV.sl 3 (List.map Ai A5.Ao),AV.sl 4 (List.map Ab A5.Ad),AV.sl 3 (List.map Ae A5.Aq),AV.mapp 1,AV.mapp 2,iA y5.2.1,iA y5.2.2],Ob.mp none false ([]),Ob.mp none false ([])]) from Ah (r:=y5) h)) ?_;intro y5
 refine cr hc (fun y7 h=>(show CN n 19 [AV.ptr 0 0] [Ob.var 52 [iA A5.Ay,AV.sl 3 (List.map Ai A5.Ao),AV.sl 4 (List.map Ab A5.Ad),AV.sl 3 (List.map Ae A5.Aq),AV.mapp 1,AV.mapp 2,iA y5.2.1,iA y5.2.2],Ob.mp none false ([]),Ob.mp none false ([])]=some (AV.tup [],[Ob.var 52 [iA A5.Ay,AV.sl 3 (List.map Ai A5.Ao),AV.sl 4 (List.map Ab A5.Ad),AV.sl 3 (List.map Ae A5.Aq),AV.mapp 1,AV.mapp 2,iA y7.1,iA y7.2.1],Ob.mp none false (List.map A4 y7.2.2),Ob.mp none false ([])]) from Qz (r:=y7) h)) ?_;intro y7
 refine cr hc (fun y9 h=>(show CN n 18 [AV.ptr 0 0,bA (decide (0<((A5.Ad.length:Nat):Int))),iA (12),iA (0)] [Ob.var 52 [iA A5.Ay,AV.sl 3 (List.map Ai A5.Ao),AV.sl 4 (List.map Ab A5.Ad),AV.sl 3 (List.map Ae A5.Aq),AV.mapp 1,AV.mapp 2,iA y7.1,iA y7.2.1],Ob.mp none false (List.map A4 y7.2.2),Ob.mp none false ([])]=some (bA y9.1,[Ob.var 52 [iA A5.Ay,AV.sl 3 (List.map Ai A5.Ao),AV.sl 4 (List.map Ab A5.Ad),AV.sl 3 (List.map Ae A5.Aq),AV.mapp 1,AV.mapp 2,iA y9.2.1,iA y9.2.2],Ob.mp none false (List.map A4 y7.2.2),Ob.mp none false ([])]) from Ah (r:=y9) h)) ?_;intro y9
 intro h;refine B1 h ?_;clear h;intro o22 ho22 h
 refine lq (σ:=(Int×(List ((List UInt8)×(List ((List UInt8)×Int))))×Int×Int)) (τ:=(Int×Int×(List ((List UInt8)×(List ((List UInt8)×Int)))))) (ν:=(Int×Int)) 0 (fun(s11,s12,s13,s14) a16=>Bh 69 [(1,AV.ptr 0 0),(4,AV.ptr 3 0),(36,AV.sl 4 (List.map Ab A5.Ad)),(37,iA (((A5.Ad.length:Nat):Int))),(38,iA s11)]) (fun(s11,s12,s13,s14) a16=>[Ob.var 26 [iA A5.Ay,AV.sl 3 (List.map Ai A5.Ao),AV.sl 4 (List.map Ab A5.Ad),AV.sl 3 (List.map Ae A5.Aq)],Ob.mp none false (List.map A4 y7.2.2),Ob.mp none false (List.map A6 s12),Ob.var 52 [iA A5.Ay,AV.sl 3 (List.map Ai A5.Ao),AV.sl 4 (List.map Ab A5.Ad),AV.sl 3 (List.map Ae A5.Aq),AV.mapp 1,AV.mapp 2,iA s13,iA s14]]) (fun(x28,x29,x30) a27=>Bh 69 [(1,AV.ptr 0 0),(4,AV.ptr 3 0)]) (fun(x28,x29,x30) a27=>[Ob.var 26 [iA A5.Ay,AV.sl 3 (List.map Ai A5.Ao),AV.sl 4 (List.map Ab A5.Ad),AV.sl 3 (List.map Ae A5.Aq)],Ob.mp none false (List.map A4 y7.2.2),Ob.mp none false (List.map A6 x30),Ob.var 52 [iA A5.Ay,AV.sl 3 (List.map Ai A5.Ao),AV.sl 4 (List.map Ab A5.Ad),AV.sl 3 (List.map Ae A5.Aq),AV.mapp 1,AV.mapp 2,iA x28,iA x29]]) (fun v=>(AV.tup [iA v.1,iA v.2],[])) (fun k s=>Ez n A5 y7 k s.1 s.2.1 s.2.2.1 s.2.2.2) (fun s=>rfl) o22 n (0,([]:(List ((List UInt8)×(List ((List UInt8)×Int))))),y9.2.1,y9.2.2) (fun _=>0) ho22 ?_ ?_
 intro k15 ss a16 K17 cont18 hK19 hcont20 h hr21
 obtain⟨s11,s12,s13,s14⟩:=ss
 replace h:Ez n A5 y7 (k15+1) s11 s12 s13 s14=some o22:=h
 rw[Ez] at h
 conv=>lhs;whnf
 revert h
 refine br ?_ ?_
 refine ix ?_;intro x24
 refine ca hc (fun _ h=>Pi h) ?_;intro y25
 exact fun h=>cq (hcont20 (IntKind.i64.wrap (s11+1),y25.2.2,y25.1,y25.2.1) (fun _=>0) h)
 intro h;cases sj h
 exact kq (hr21 (fun _=>0))
 refine lrc ?_ ?_
 intro v e;subst e;cases sj h;rfl
 intro t a27 e;subst e
 obtain⟨x28,x29,x30⟩:=t
 dsimp only at h
 conv=>lhs;whnf
 revert h
 intro h;refine B1 h ?_;clear h;intro o41 ho41 h
 refine lq (σ:=(Int×Int×Int)) (τ:=(Int×Int)) (ν:=(Int×Int)) 2 (fun(s31,s32,s33) a35=>Bh 69 [(4,AV.ptr 3 0),(49,AV.sl 3 (List.map Ae A5.Aq)),(50,iA (((A5.Aq.length:Nat):Int))),(51,iA s31)]) (fun(s31,s32,s33) a35=>[Ob.var 26 [iA A5.Ay,AV.sl 3 (List.map Ai A5.Ao),AV.sl 4 (List.map Ab A5.Ad),AV.sl 3 (List.map Ae A5.Aq)],Ob.mp none false (List.map A4 y7.2.2),Ob.mp none false (List.map A6 x30),Ob.var 52 [iA A5.Ay,AV.sl 3 (List.map Ai A5.Ao),AV.sl 4 (List.map Ab A5.Ad),AV.sl 3 (List.map Ae A5.Aq),AV.mapp 1,AV.mapp 2,iA s32,iA s33]]) (fun(x47,x48) a46=>Bh 69 [(4,AV.ptr 3 0)]) (fun(x47,x48) a46=>[Ob.var 26 [iA A5.Ay,AV.sl 3 (List.map Ai A5.Ao),AV.sl 4 (List.map Ab A5.Ad),AV.sl 3 (List.map Ae A5.Aq)],Ob.mp none false (List.map A4 y7.2.2),Ob.mp none false (List.map A6 x30),Ob.var 52 [iA A5.Ay,AV.sl 3 (List.map Ai A5.Ao),AV.sl 4 (List.map Ab A5.Ad),AV.sl 3 (List.map Ae A5.Aq),AV.mapp 1,AV.mapp 2,iA x47,iA x48]]) (fun v=>(AV.tup [iA v.1,iA v.2],[])) (fun k s=>Ev n A5 y7 x30 k s.1 s.2.1 s.2.2) (fun s=>rfl) o41 n (0,x28,x29) (fun _=>0) ho41 ?_ ?_
 intro k34 ss a35 K36 cont37 hK38 hcont39 h hr40
 obtain⟨s31,s32,s33⟩:=ss
 replace h:Ev n A5 y7 x30 (k34+1) s31 s32 s33=some o41:=h
 rw[Ev] at h
 conv=>lhs;whnf
 revert h
 refine br ?_ ?_
 refine ix ?_;intro x43
 refine ca hc (fun _ h=>Px h) ?_;intro y44
 exact fun h=>cq (hcont39 (IntKind.i64.wrap (s31+1),y44.1,y44.2) (fun _=>0) h)
 intro h;cases sj h
 exact kq (hr40 (fun _=>0))
 refine lrc ?_ ?_
 intro v e;subst e;cases sj h;rfl
 intro t a46 e;subst e
 obtain⟨x47,x48⟩:=t
 dsimp only at h
 conv=>lhs;whnf
 revert h
 exact rz
 refine cr hc (fun y51 h=>(show CN n 18 [AV.ptr 0 0,bA false,iA (11),iA (0)] [Ob.var 52 [iA A5.Ay,AV.sl 3 (List.map Ai A5.Ao),AV.sl 4 (List.map Ab A5.Ad),AV.sl 3 (List.map Ae A5.Aq),AV.mapp 1,AV.mapp 2,iA (0),iA (0)],Ob.mp none false ([]),Ob.mp none false ([])]=some (bA y51.1,[Ob.var 52 [iA A5.Ay,AV.sl 3 (List.map Ai A5.Ao),AV.sl 4 (List.map Ab A5.Ad),AV.sl 3 (List.map Ae A5.Aq),AV.mapp 1,AV.mapp 2,iA y51.2.1,iA y51.2.2],Ob.mp none false ([]),Ob.mp none false ([])]) from Ah (r:=y51) h)) ?_;intro y51
 refine cr hc (fun y53 h=>(show CN n 19 [AV.ptr 0 0] [Ob.var 52 [iA A5.Ay,AV.sl 3 (List.map Ai A5.Ao),AV.sl 4 (List.map Ab A5.Ad),AV.sl 3 (List.map Ae A5.Aq),AV.mapp 1,AV.mapp 2,iA y51.2.1,iA y51.2.2],Ob.mp none false ([]),Ob.mp none false ([])]=some (AV.tup [],[Ob.var 52 [iA A5.Ay,AV.sl 3 (List.map Ai A5.Ao),AV.sl 4 (List.map Ab A5.Ad),AV.sl 3 (List.map Ae A5.Aq),AV.mapp 1,AV.mapp 2,iA y53.1,iA y53.2.1],Ob.mp none false (List.map A4 y53.2.2),Ob.mp none false ([])]) from Qz (r:=y53) h)) ?_;intro y53
 refine cr hc (fun y55 h=>(show CN n 18 [AV.ptr 0 0,bA (decide (0<((A5.Ad.length:Nat):Int))),iA (12),iA (0)] [Ob.var 52 [iA A5.Ay,AV.sl 3 (List.map Ai A5.Ao),AV.sl 4 (List.map Ab A5.Ad),AV.sl 3 (List.map Ae A5.Aq),AV.mapp 1,AV.mapp 2,iA y53.1,iA y53.2.1],Ob.mp none false (List.map A4 y53.2.2),Ob.mp none false ([])]=some (bA y55.1,[Ob.var 52 [iA A5.Ay,AV.sl 3 (List.map Ai A5.Ao),AV.sl 4 (List.map Ab A5.Ad),AV.sl 3 (List.map Ae A5.Aq),AV.mapp 1,AV.mapp 2,iA y55.2.1,iA y55.2.2],Ob.mp none false (List.map A4 y53.2.2),Ob.mp none false ([])]) from Ah (r:=y55) h)) ?_;intro y55
 intro h;refine B1 h ?_;clear h;intro o68 ho68 h
 refine lq (σ:=(Int×(List ((List UInt8)×(List ((List UInt8)×Int))))×Int×Int)) (τ:=(Int×Int×(List ((List UInt8)×(List ((List UInt8)×Int)))))) (ν:=(Int×Int)) 0 (fun(s57,s58,s59,s60) a62=>Bh 69 [(1,AV.ptr 0 0),(4,AV.ptr 3 0),(36,AV.sl 4 (List.map Ab A5.Ad)),(37,iA (((A5.Ad.length:Nat):Int))),(38,iA s57)]) (fun(s57,s58,s59,s60) a62=>[Ob.var 26 [iA A5.Ay,AV.sl 3 (List.map Ai A5.Ao),AV.sl 4 (List.map Ab A5.Ad),AV.sl 3 (List.map Ae A5.Aq)],Ob.mp none false (List.map A4 y53.2.2),Ob.mp none false (List.map A6 s58),Ob.var 52 [iA A5.Ay,AV.sl 3 (List.map Ai A5.Ao),AV.sl 4 (List.map Ab A5.Ad),AV.sl 3 (List.map Ae A5.Aq),AV.mapp 1,AV.mapp 2,iA s59,iA s60]]) (fun(x74,x75,x76) a73=>Bh 69 [(1,AV.ptr 0 0),(4,AV.ptr 3 0)]) (fun(x74,x75,x76) a73=>[Ob.var 26 [iA A5.Ay,AV.sl 3 (List.map Ai A5.Ao),AV.sl 4 (List.map Ab A5.Ad),AV.sl 3 (List.map Ae A5.Aq)],Ob.mp none false (List.map A4 y53.2.2),Ob.mp none false (List.map A6 x76),Ob.var 52 [iA A5.Ay,AV.sl 3 (List.map Ai A5.Ao),AV.sl 4 (List.map Ab A5.Ad),AV.sl 3 (List.map Ae A5.Aq),AV.mapp 1,AV.mapp 2,iA x74,iA x75]]) (fun v=>(AV.tup [iA v.1,iA v.2],[])) (fun k s=>J9 n A5 y53 k s.1 s.2.1 s.2.2.1 s.2.2.2) (fun s=>rfl) o68 n (0,([]:(List ((List UInt8)×(List ((List UInt8)×Int))))),y55.2.1,y55.2.2) (fun _=>0) ho68 ?_ ?_
 intro k61 ss a62 K63 cont64 hK65 hcont66 h hr67
 obtain⟨s57,s58,s59,s60⟩:=ss
 replace h:J9 n A5 y53 (k61+1) s57 s58 s59 s60=some o68:=h
 rw[J9] at h
 conv=>lhs;whnf
 revert h
 refine br ?_ ?_
 refine ix ?_;intro x70
 refine ca hc (fun _ h=>Pi h) ?_;intro y71
 exact fun h=>cq (hcont66 (IntKind.i64.wrap (s57+1),y71.2.2,y71.1,y71.2.1) (fun _=>0) h)
 intro h;cases sj h
 exact kq (hr67 (fun _=>0))
 refine lrc ?_ ?_
 intro v e;subst e;cases sj h;rfl
 intro t a73 e;subst e
 obtain⟨x74,x75,x76⟩:=t
 dsimp only at h
 conv=>lhs;whnf
 revert h
 intro h;refine B1 h ?_;clear h;intro o87 ho87 h
 refine lq (σ:=(Int×Int×Int)) (τ:=(Int×Int)) (ν:=(Int×Int)) 2 (fun(s77,s78,s79) a81=>Bh 69 [(4,AV.ptr 3 0),(49,AV.sl 3 (List.map Ae A5.Aq)),(50,iA (((A5.Aq.length:Nat):Int))),(51,iA s77)]) (fun(s77,s78,s79) a81=>[Ob.var 26 [iA A5.Ay,AV.sl 3 (List.map Ai A5.Ao),AV.sl 4 (List.map Ab A5.Ad),AV.sl 3 (List.map Ae A5.Aq)],Ob.mp none false (List.map A4 y53.2.2),Ob.mp none false (List.map A6 x76),Ob.var 52 [iA A5.Ay,AV.sl 3 (List.map Ai A5.Ao),AV.sl 4 (List.map Ab A5.Ad),AV.sl 3 (List.map Ae A5.Aq),AV.mapp 1,AV.mapp 2,iA s78,iA s79]]) (fun(x93,x94) a92=>Bh 69 [(4,AV.ptr 3 0)]) (fun(x93,x94) a92=>[Ob.var 26 [iA A5.Ay,AV.sl 3 (List.map Ai A5.Ao),AV.sl 4 (List.map Ab A5.Ad),AV.sl 3 (List.map Ae A5.Aq)],Ob.mp none false (List.map A4 y53.2.2),Ob.mp none false (List.map A6 x76),Ob.var 52 [iA A5.Ay,AV.sl 3 (List.map Ai A5.Ao),AV.sl 4 (List.map Ab A5.Ad),AV.sl 3 (List.map Ae A5.Aq),AV.mapp 1,AV.mapp 2,iA x93,iA x94]]) (fun v=>(AV.tup [iA v.1,iA v.2],[])) (fun k s=>J8 n A5 y53 x76 k s.1 s.2.1 s.2.2) (fun s=>rfl) o87 n (0,x74,x75) (fun _=>0) ho87 ?_ ?_
 intro k80 ss a81 K82 cont83 hK84 hcont85 h hr86
 obtain⟨s77,s78,s79⟩:=ss
 replace h:J8 n A5 y53 x76 (k80+1) s77 s78 s79=some o87:=h
 rw[J8] at h
 conv=>lhs;whnf
 revert h
 refine br ?_ ?_
 refine ix ?_;intro x89
 refine ca hc (fun _ h=>Px h) ?_;intro y90
 exact fun h=>cq (hcont85 (IntKind.i64.wrap (s77+1),y90.1,y90.2) (fun _=>0) h)
 intro h;cases sj h
 exact kq (hr86 (fun _=>0))
 refine lrc ?_ ?_
 intro v e;subst e;cases sj h;rfl
 intro t a92 e;subst e
 obtain⟨x93,x94⟩:=t
 dsimp only at h
 conv=>lhs;whnf
 revert h
 exact rz
 exact rz
theorem Wa {n:Nat} ⦃A7:(List (List UInt8))⦄ ⦃Fx:(List UInt8)⦄ ⦃r:Int⦄:Qh n A7 Fx=some r→CN n 15 [AV.sl 1 (List.map Co A7),sA Fx] []=some (iA r,[]):=by
 intro h;rcases n with _|n;cases h
 rw[Qh] at h
 refine Aw Tryz.func15 (by rfl) rfl rfl (Nat.le_of_ble_eq_true rfl) ?_
 intro call hc;conv=>lhs;whnf
 revert h
 intro h;refine B1 h ?_;clear h;intro o9 ho9 h
 refine lq (σ:=Int) (τ:=Unit) (ν:=Int) 0 (fun s1 a3=>Bh 19 [(1,sA Fx),(7,AV.sl 1 (List.map Co A7)),(8,iA (((A7.length:Nat):Int))),(9,iA s1)]) (fun s1 a3=>[]) (fun _ a13=>Bh 19 []) (fun _ a13=>[]) (fun v=>(iA v,[])) (fun k s=>Mf n A7 Fx k s) (fun s=>rfl) o9 n 0 (fun _=>0) ho9 ?_ ?_
 intro k2 s1 a3 K4 cont5 hK6 hcont7 h hr8
 replace h:Mf n A7 Fx (k2+1) s1=some o9:=h
 rw[Mf] at h
 conv=>lhs;whnf
 revert h
 refine br ?_ ?_
 refine ix ?_;intro x11
 refine br ?_ ?_
 intro h;cases sj h
 refine(hK6 _ _).trans ?_
 refine Eq.trans ?_ (Eq.symm (show _=some _ from hr8))
 conv=>lhs;whnf
 exact rq
 exact fun h=>cq (hcont7 (IntKind.i64.wrap (s1+1)) (fun _=>0) h)
 intro h;cases sj h
 exact kq (hr8 (fun _=>0))
 refine lrc ?_ ?_
 intro v e;subst e;cases sj h;rfl
 intro t a13 e;subst e
 dsimp only at h
 conv=>lhs;whnf
 revert h
 exact rz
theorem A66 {n:Nat} ⦃A5:Be⦄ ⦃r:(List (List UInt8))⦄:Uv n A5=some r→CN n 16 [AV.agg [iA A5.Ay,AV.sl 3 (List.map Ai A5.Ao),AV.sl 4 (List.map Ab A5.Ad),AV.sl 3 (List.map Ae A5.Aq)]] []=some (AV.sl 1 (List.map Co r),[]):=by
 intro h;rcases n with _|n;cases h
 rw[Uv] at h
 refine Aw Tryz.func16 (by rfl) rfl rfl (Nat.le_of_ble_eq_true rfl) ?_
 intro call hc;conv=>lhs;whnf
 revert h
 intro h;refine B1 h ?_;clear h;intro o10 ho10 h
 refine lq (σ:=(Int×(List (List UInt8)))) (τ:=(List (List UInt8))) (ν:=(List (List UInt8))) 0 (fun(s1,s2) a4=>Bh 20 [(3,AV.row 1 (List.length s2)),(7,AV.sl 3 (List.map Ai A5.Ao)),(8,iA (((A5.Ao.length:Nat):Int))),(9,iA s1)]) (fun(s1,s2) a4=>[Ob.var 26 [iA A5.Ay,AV.sl 3 (List.map Ai A5.Ao),AV.sl 4 (List.map Ab A5.Ad),AV.sl 3 (List.map Ae A5.Aq)],Ob.row 9 1 (List.map Co s2)]) (fun x16 a15=>Bh 20 [(3,AV.row 1 (List.length x16))]) (fun x16 a15=>[Ob.var 26 [iA A5.Ay,AV.sl 3 (List.map Ai A5.Ao),AV.sl 4 (List.map Ab A5.Ad),AV.sl 3 (List.map Ae A5.Aq)],Ob.row 9 1 (List.map Co x16)]) (fun v=>(AV.sl 1 (List.map Co v),[])) (fun k s=>N2 n A5 k s.1 s.2) (fun s=>rfl) o10 n (0,([]:List (List UInt8))) (fun _=>0) ho10 ?_ ?_
 intro k3 ss a4 K5 cont6 hK7 hcont8 h hr9
 obtain⟨s1,s2⟩:=ss
 replace h:N2 n A5 (k3+1) s1 s2=some o10:=h
 rw[N2] at h
 conv=>lhs;whnf
 revert h
 refine br ?_ ?_
 refine ix ?_;intro x12
 refine ar (ap Co (List.map Co s2) s2 ([[sA x12.An]]) ([x12.An]:List (List UInt8))) ?_
 exact fun h=>cq (hcont8 (IntKind.i64.wrap (s1+1),(s2++([x12.An]:List (List UInt8)))) (fun _=>0) h)
 intro h;cases sj h
 exact kq (hr9 (fun _=>0))
 refine lrc ?_ ?_
 intro v e;subst e;cases sj h;rfl
 intro x16 a15 e;subst e
 dsimp only at h
 conv=>lhs;whnf
 revert h
 intro h;obtain rfl:=sj h
 try simp only[ls]
 exact fq (y:=some (AV.sl 1 (List.take (List.length x16) (List.map Co x16)),[]))
end Go.Proofs.YtpnhafdimkmbbaaGreat
end
section
namespace Go.Proofs.YtpnhafdimkmbbaaGreat
set_option linter.unusedVariables false
set_option linter.unusedSimpArgs false
set_option maxRecDepth 100000
set_option maxHeartbeats 4000000
theorem Yi {n:Nat} ⦃Bs:(List UInt8)⦄ ⦃Cj:Int⦄ ⦃r:Int⦄:Nm n Bs Cj=some r→CN n 74 [sA Bs,iA Cj] []=some (iA r,[]):=by
 intro h;rcases n with _|n;cases h
 rw[Nm] at h
 refine Aw Tryz.func74 (by rfl) rfl rfl (Nat.le_of_ble_eq_true rfl) ?_
 intro call hc;conv=>lhs;whnf
 revert h
 intro h;refine B1 h ?_;clear h;intro o9 ho9 h
 refine lq (σ:=Int) (τ:=Int) (ν:=Int) 0 (fun s1 a3=>Bh 53 [(0,sA Bs),(1,iA s1)]) (fun s1 a3=>[]) (fun x37 a36=>Bh 53 [(1,iA x37)]) (fun x37 a36=>[]) (fun v=>(iA v,[])) (fun k s=>E4 n Bs k s) (fun s=>rfl) o9 n Cj (fun _=>0) ho9 ?_ ?_
 intro k2 s1 a3 K4 cont5 hK6 hcont7 h hr8
 replace h:E4 n Bs (k2+1) s1=some o9:=h
 rw[E4] at h
 conv=>lhs;whnf
 revert h
 refine br ?_ ?_
 refine ixs ?_;intro x11
 refine br ?_ ?_
 exact fun h=>cq (hcont7 (IntKind.i64.wrap (s1+1)) (fun _=>0) h)
 refine ixs ?_;intro x13
 refine br ?_ ?_
 exact fun h=>cq (hcont7 (IntKind.i64.wrap (s1+1)) (fun _=>0) h)
 refine ixs ?_;intro x15
 refine br ?_ ?_
 exact fun h=>cq (hcont7 (IntKind.i64.wrap (s1+1)) (fun _=>0) h)
 refine ixs ?_;intro x17
 refine br ?_ ?_
 exact fun h=>cq (hcont7 (IntKind.i64.wrap (s1+1)) (fun _=>0) h)
 refine ixs ?_;intro x19
 refine br ?_ ?_
 intro h;refine B1 h ?_;clear h;intro o29 ho29 h
 refine lq (σ:=Int) (τ:=Int) (ν:=Int) 3 (fun s21 a23=>Bh 53 [(0,sA Bs),(1,iA s21)]) (fun s21 a23=>[]) (fun x34 a33=>Bh 53 [(0,sA Bs),(1,iA x34)]) (fun x34 a33=>[]) (fun v=>(iA v,[])) (fun k s=>Ig n Bs k s) (fun s=>rfl) o29 n s1 (fun _=>0) ho29 ?_ ?_
 intro k22 s21 a23 K24 cont25 hK26 hcont27 h hr28
 replace h:Ig n Bs (k22+1) s21=some o29:=h
 rw[Ig] at h
 conv=>lhs;whnf
 revert h
 refine br ?_ ?_
 refine ixs ?_;intro x31
 refine br ?_ ?_
 exact fun h=>cq (hcont27 (IntKind.i64.wrap (s21+1)) (fun _=>0) h)
 intro h;cases sj h
 exact kq (hr28 (fun _=>0))
 intro h;cases sj h
 exact kq (hr28 (fun _=>0))
 refine lrc ?_ ?_
 intro v e;subst e;cases sj h;exact hr8
 intro x34 a33 e;subst e
 dsimp only at h
 conv=>lhs;whnf
 revert h
 exact fun h=>cq (hcont7 x34 (fun _=>0) h)
 intro h;cases sj h
 refine(hK6 _ _).trans ?_
 refine Eq.trans ?_ (Eq.symm (show _=some _ from hr8))
 conv=>lhs;whnf
 exact rq
 intro h;cases sj h
 exact kq (hr8 (fun _=>0))
 refine lrc ?_ ?_
 intro v e;subst e;cases sj h;rfl
 intro x37 a36 e;subst e
 dsimp only at h
 conv=>lhs;whnf
 revert h
 exact rz
theorem Sb {n:Nat} ⦃Gg:Int⦄ ⦃r:Bool⦄:Jz n Gg=some r→CN n 57 [AV.int .u8 Gg] []=some (bA r,[]):=by
 intro h;rcases n with _|n;cases h
 rw[Jz] at h
 refine Aw Tryz.func57 (by rfl) rfl rfl (Nat.le_of_ble_eq_true rfl) ?_
 intro call hc;conv=>lhs;whnf
 revert h
 refine br ?_ ?_
 exact rz
 exact rz
theorem Rb {n:Nat} ⦃Gg:Int⦄ ⦃r:Bool⦄:J5 n Gg=some r→CN n 55 [AV.int .u8 Gg] []=some (bA r,[]):=by
 intro h;rcases n with _|n;cases h
 rw[J5] at h
 refine Aw Tryz.func55 (by rfl) rfl rfl (Nat.le_of_ble_eq_true rfl) ?_
 intro call hc;conv=>lhs;whnf
 revert h
 refine br ?_ ?_
 refine br ?_ ?_
 exact rz
 refine br ?_ ?_
 refine br ?_ ?_
 exact rz
 exact rz
 exact rz
 refine br ?_ ?_
 refine br ?_ ?_
 exact rz
 exact rz
 exact rz
theorem A4w {n:Nat} ⦃r:(List (List UInt8))⦄:Qd n=some r→CN n 97 [] []=some (AV.sl 1 (List.map Co r),[]):=by
 intro h;rcases n with _|n;cases h
 rw[Qd] at h
 refine Aw Tryz.func97 (by rfl) rfl rfl (Nat.le_of_ble_eq_true rfl) ?_
 intro call hc;conv=>lhs;whnf
 revert h
 exact rz
theorem A9w {n:Nat} ⦃Bs:(List UInt8)⦄ ⦃Cj:Int⦄ ⦃r:(Av×Int)⦄:Q1 n Bs Cj=some r→CN n 75 [sA Bs,iA Cj] []=some (AV.tup [AV.agg [iA r.1.Ac,sA r.1.Bt,iA r.1.Cu,iA r.1.A8],iA r.2],[]):=by
 intro h;rcases n with _|n;cases h
 rw[Q1] at h
 refine Aw Tryz.func75 (by rfl) rfl rfl (Nat.le_of_ble_eq_true rfl) ?_
 intro call hc;conv=>lhs;whnf
 revert h
 intro h;refine B1 h ?_;clear h;intro o9 ho9 h
 refine lq (σ:=Int) (τ:=Int) (ν:=(Av×Int)) 0 (fun s1 a3=>Bh 119 [(0,sA Bs),(1,iA Cj),(4,AV.ptr 0 0),(6,iA s1)]) (fun s1 a3=>[Ob.var 81 [iA (0),sA (([]:List UInt8)),iA (0),iA (0)]]) (fun x21 a20=>Bh 119 [(0,sA Bs),(1,iA Cj),(4,AV.ptr 0 0),(6,iA x21)]) (fun x21 a20=>[Ob.var 81 [iA (0),sA (([]:List UInt8)),iA (0),iA (0)]]) (fun v=>(AV.tup [AV.agg [iA v.1.Ac,sA v.1.Bt,iA v.1.Cu,iA v.1.A8],iA v.2],[])) (fun k s=>Ga n Bs Cj k s) (fun s=>rfl) o9 n Cj (fun _=>0) ho9 ?_ ?_
 intro k2 s1 a3 K4 cont5 hK6 hcont7 h hr8
 replace h:Ga n Bs Cj (k2+1) s1=some o9:=h
 rw[Ga] at h
 conv=>lhs;whnf
 revert h
 refine br ?_ ?_
 refine ixs ?_;intro x11
 refine ca hc (fun _ h=>Rb h) ?_;intro y12
 refine br ?_ ?_
 exact fun h=>cq (hcont7 (IntKind.i64.wrap (s1+1)) (fun _=>0) h)
 refine br ?_ ?_
 refine ixs ?_;intro x16
 refine ca hc (fun _ h=>Sb h) ?_;intro y17
 refine br ?_ ?_
 exact fun h=>cq (hcont7 (IntKind.i64.wrap (s1+1)) (fun _=>0) h)
 intro h;cases sj h
 exact kq (hr8 (fun _=>0))
 intro h;cases sj h
 exact kq (hr8 (fun _=>0))
 intro h;cases sj h
 exact kq (hr8 (fun _=>0))
 refine lrc ?_ ?_
 intro v e;subst e;cases sj h;rfl
 intro x21 a20 e;subst e
 dsimp only at h
 conv=>lhs;whnf
 revert h
 refine br ?_ ?_
 refine br ?_ ?_
 exact rz
 refine cp ?_
 exact rz
 intro h;refine B1 h ?_;clear h;intro o34 ho34 h
 refine lq (σ:=(Int×Int)) (τ:=(Int×Int)) (ν:=(Av×Int)) 2 (fun(s25,s26) a28=>Bh 119 [(0,sA Bs),(1,iA Cj),(4,AV.ptr 0 0),(6,iA s25),(7,iA s26)]) (fun(s25,s26) a28=>[Ob.var 81 [iA (0),sA (([]:List UInt8)),iA (0),iA (0)]]) (fun(x42,x43) a41=>Bh 119 [(0,sA Bs),(1,iA Cj),(4,AV.ptr 0 0),(6,iA x42),(7,iA x43)]) (fun(x42,x43) a41=>[Ob.var 81 [iA (0),sA (([]:List UInt8)),iA (0),iA (0)]]) (fun v=>(AV.tup [AV.agg [iA v.1.Ac,sA v.1.Bt,iA v.1.Cu,iA v.1.A8],iA v.2],[])) (fun k s=>Ie n Bs k s.1 s.2) (fun s=>rfl) o34 n (x21,0) (fun _=>0) ho34 ?_ ?_
 intro k27 ss a28 K29 cont30 hK31 hcont32 h hr33
 obtain⟨s25,s26⟩:=ss
 replace h:Ie n Bs (k27+1) s25 s26=some o34:=h
 rw[Ie] at h
 conv=>lhs;whnf
 revert h
 refine br ?_ ?_
 refine ixs ?_;intro x36
 refine ca hc (fun _ h=>Sb h) ?_;intro y37
 refine br ?_ ?_
 refine ixs ?_;intro x40
 exact fun h=>cq (hcont32 (IntKind.i64.wrap (s25+1),(if 10000<(IntKind.i64.wrap ((IntKind.i64.wrap (10*s26))+(IntKind.i64.wrap (IntKind.u8.wrap ((x40.toNat:Int) - 48))))) then 10000 else(IntKind.i64.wrap ((IntKind.i64.wrap (10*s26))+(IntKind.i64.wrap (IntKind.u8.wrap ((x40.toNat:Int) - 48))))))) (fun _=>0) h)
 intro h;cases sj h
 exact kq (hr33 (fun _=>0))
 intro h;cases sj h
 exact kq (hr33 (fun _=>0))
 refine lrc ?_ ?_
 intro v e;subst e;cases sj h;rfl
 intro t a41 e;subst e
 obtain⟨x42,x43⟩:=t
 dsimp only at h
 conv=>lhs;whnf
 revert h
 refine br ?_ ?_
 refine br ?_ ?_
 exact rz
 refine cp ?_
 exact rz
 refine ca hc (fun _ h=>A4w h) ?_;intro y47
 intro h;refine B1 h ?_;clear h;intro o57 ho57 h
 refine lq (σ:=Int) (τ:=Unit) (ν:=(Av×Int)) 4 (fun s49 a51=>Bh 119 [(0,sA Bs),(1,iA Cj),(4,AV.ptr 0 0),(8,AV.sl 1 (List.map Co y47)),(9,iA s49)]) (fun s49 a51=>[Ob.var 81 [iA (0),sA (([]:List UInt8)),iA (0),iA (0)]]) (fun _ a65=>Bh 119 [(4,AV.ptr 0 0)]) (fun _ a65=>[Ob.var 81 [iA (0),sA (([]:List UInt8)),iA (0),iA (0)]]) (fun v=>(AV.tup [AV.agg [iA v.1.Ac,sA v.1.Bt,iA v.1.Cu,iA v.1.A8],iA v.2],[])) (fun k s=>Hl n Bs Cj y47 k s) (fun s=>rfl) o57 n 0 (fun _=>0) ho57 ?_ ?_
 intro k50 s49 a51 K52 cont53 hK54 hcont55 h hr56
 replace h:Hl n Bs Cj y47 (k50+1) s49=some o57:=h
 rw[Hl] at h
 conv=>lhs;whnf
 revert h
 refine br ?_ ?_
 refine ix ?_;intro x59
 refine br ?_ ?_
 refine cp ?_
 refine ix ?_;intro x62
 refine br ?_ ?_
 refine ix ?_;intro x64
 intro h;cases sj h
 refine(hK54 _ _).trans ?_
 refine Eq.trans ?_ (Eq.symm (show _=some _ from hr56))
 conv=>lhs;whnf
 exact rq
 exact fun h=>cq (hcont55 (IntKind.i64.wrap (s49+1)) (fun _=>0) h)
 exact fun h=>cq (hcont55 (IntKind.i64.wrap (s49+1)) (fun _=>0) h)
 intro h;cases sj h
 exact kq (hr56 (fun _=>0))
 refine lrc ?_ ?_
 intro v e;subst e;cases sj h;rfl
 intro t a65 e;subst e
 dsimp only at h
 conv=>lhs;whnf
 revert h
 exact rz
theorem A6t {n:Nat} ⦃Bs:(List UInt8)⦄ ⦃r:((List Av)×Int×Int)⦄:Oi n Bs=some r→CN n 46 [sA Bs] []=some (AV.tup [AV.sl 4 (List.map B0 r.1),iA r.2.1,iA r.2.2],[]):=by
 intro h;rcases n with _|n;cases h
 rw[Oi] at h
 refine Aw Tryz.func46 (by rfl) rfl rfl (Nat.le_of_ble_eq_true rfl) ?_
 intro call hc;conv=>lhs;whnf
 revert h
 refine br ?_ ?_
 exact rz
 refine ca hc (fun _ h=>Yi h) ?_;intro y2
 intro h;refine B1 h ?_;clear h;intro o13 ho13 h
 refine lq (σ:=(Int×(List Av))) (τ:=(List Av)) (ν:=((List Av)×Int×Int)) 0 (fun(s4,s5) a7=>Bh 40 [(0,sA Bs),(5,AV.row 0 (List.length s5)),(6,iA s4)]) (fun(s4,s5) a7=>[Ob.row 81 4 (List.map B0 s5)]) (fun x23 a22=>Bh 40 [(5,AV.row 0 (List.length x23))]) (fun x23 a22=>[Ob.row 81 4 (List.map B0 x23)]) (fun v=>(AV.tup [AV.sl 4 (List.map B0 v.1),iA v.2.1,iA v.2.2],[])) (fun k s=>Gk n Bs k s.1 s.2) (fun s=>rfl) o13 n (y2,([]:List Av)) (fun _=>0) ho13 ?_ ?_
 intro k6 ss a7 K8 cont9 hK10 hcont11 h hr12
 obtain⟨s4,s5⟩:=ss
 replace h:Gk n Bs (k6+1) s4 s5=some o13:=h
 rw[Gk] at h
 conv=>lhs;whnf
 revert h
 refine br ?_ ?_
 refine ca hc (fun _ h=>A9w h) ?_;intro y15
 refine br ?_ ?_
 intro h;cases sj h
 refine(hK10 _ _).trans ?_
 refine Eq.trans ?_ (Eq.symm (show _=some _ from hr12))
 conv=>lhs;whnf
 exact rq
 refine ar (ap B0 (List.map B0 s5) s5 ([[iA y15.1.Ac,sA y15.1.Bt,iA y15.1.Cu,iA y15.1.A8]]) ([y15.1]:List Av)) ?_
 refine cr hc (fun _ h=>Yi h) ?_;intro y20
 exact fun h=>cq (hcont11 (y20,(s5++([y15.1]:List Av))) (fun _=>0) h)
 intro h;cases sj h
 exact kq (hr12 (fun _=>0))
 refine lrc ?_ ?_
 intro v e;subst e;cases sj h;rfl
 intro x23 a22 e;subst e
 dsimp only at h
 conv=>lhs;whnf
 revert h
 intro h;cases sj h
 try simp only[ls]
 exact fq (y:=some (AV.tup [AV.sl 4 (List.take (List.length x23) (List.map B0 x23)),iA (0),iA (0)],[]))
theorem A41 {n:Nat} ⦃r:(List (List UInt8))⦄:Qb n=some r→CN n 83 [] []=some (AV.sl 1 (List.map Co r),[]):=by
 intro h;rcases n with _|n;cases h
 rw[Qb] at h
 refine Aw Tryz.func83 (by rfl) rfl rfl (Nat.le_of_ble_eq_true rfl) ?_
 intro call hc;conv=>lhs;whnf
 revert h
 exact rz
theorem A1k {n:Nat} ⦃Bs:(List UInt8)⦄ ⦃r:Bool⦄:Lt n Bs=some r→CN n 56 [sA Bs] []=some (bA r,[]):=by
 intro h;rcases n with _|n;cases h
 rw[Lt] at h
 refine Aw Tryz.func56 (by rfl) rfl rfl (Nat.le_of_ble_eq_true rfl) ?_
 intro call hc;conv=>lhs;whnf
 revert h
 refine ca hc (fun _ h=>A41 h) ?_;intro y1
 intro h;refine B1 h ?_;clear h;intro o11 ho11 h
 refine lq (σ:=Int) (τ:=Unit) (ν:=Bool) 0 (fun s3 a5=>Bh 18 [(0,sA Bs),(3,AV.sl 1 (List.map Co y1)),(4,iA s3)]) (fun s3 a5=>[]) (fun _ a15=>Bh 18 []) (fun _ a15=>[]) (fun v=>(bA v,[])) (fun k s=>Ek n Bs y1 k s) (fun s=>rfl) o11 n 0 (fun _=>0) ho11 ?_ ?_
 intro k4 s3 a5 K6 cont7 hK8 hcont9 h hr10
 replace h:Ek n Bs y1 (k4+1) s3=some o11:=h
 rw[Ek] at h
 conv=>lhs;whnf
 revert h
 refine br ?_ ?_
 refine ix ?_;intro x13
 refine br ?_ ?_
 intro h;cases sj h
 refine(hK8 _ _).trans ?_
 refine Eq.trans ?_ (Eq.symm (show _=some _ from hr10))
 conv=>lhs;whnf
 exact rq
 exact fun h=>cq (hcont9 (IntKind.i64.wrap (s3+1)) (fun _=>0) h)
 intro h;cases sj h
 exact kq (hr10 (fun _=>0))
 refine lrc ?_ ?_
 intro v e;subst e;cases sj h;rfl
 intro t a15 e;subst e
 dsimp only at h
 conv=>lhs;whnf
 revert h
 exact rz
theorem Dj {n:Nat} ⦃Bs:(List UInt8)⦄ ⦃r:Bool⦄:D0 n Bs=some r→CN n 28 [sA Bs] []=some (bA r,[]):=by
 intro h;rcases n with _|n;cases h
 rw[D0] at h
 refine Aw Tryz.func28 (by rfl) rfl rfl (Nat.le_of_ble_eq_true rfl) ?_
 intro call hc;conv=>lhs;whnf
 revert h
 refine br ?_ ?_
 exact rz
 refine br ?_ ?_
 exact rz
 refine ixs ?_;intro x3
 refine ca hc (fun _ h=>Rb h) ?_;intro y4
 refine br ?_ ?_
 refine ca hc (fun _ h=>A1k h) ?_;intro y7
 refine br ?_ ?_
 exact rz
 intro h;refine B1 h ?_;clear h;intro o18 ho18 h
 refine lq (σ:=Int) (τ:=Unit) (ν:=Bool) 0 (fun s10 a12=>Bh 40 [(0,sA Bs),(3,iA s10)]) (fun s10 a12=>[]) (fun _ a28=>Bh 40 []) (fun _ a28=>[]) (fun v=>(bA v,[])) (fun k s=>Gj n Bs k s) (fun s=>rfl) o18 n 0 (fun _=>0) ho18 ?_ ?_
 intro k11 s10 a12 K13 cont14 hK15 hcont16 h hr17
 replace h:Gj n Bs (k11+1) s10=some o18:=h
 rw[Gj] at h
 conv=>lhs;whnf
 revert h
 refine br ?_ ?_
 refine ixs ?_;intro x20
 refine ca hc (fun _ h=>Rb h) ?_;intro y21
 refine br ?_ ?_
 exact fun h=>cq (hcont16 (IntKind.i64.wrap (s10+1)) (fun _=>0) h)
 refine ixs ?_;intro x24
 refine ca hc (fun _ h=>Sb h) ?_;intro y25
 refine br ?_ ?_
 exact fun h=>cq (hcont16 (IntKind.i64.wrap (s10+1)) (fun _=>0) h)
 intro h;cases sj h
 refine(hK15 _ _).trans ?_
 refine Eq.trans ?_ (Eq.symm (show _=some _ from hr17))
 conv=>lhs;whnf
 exact rq
 intro h;cases sj h
 exact kq (hr17 (fun _=>0))
 refine lrc ?_ ?_
 intro v e;subst e;cases sj h;rfl
 intro t a28 e;subst e
 dsimp only at h
 conv=>lhs;whnf
 revert h
 exact rz
 exact rz
end Go.Proofs.YtpnhafdimkmbbaaGreat
end
section
namespace Go.Proofs.YtpnhafdimkmbbaaGreat
set_option linter.unusedVariables false
set_option linter.unusedSimpArgs false
set_option maxRecDepth 100000
set_option maxHeartbeats 4000000
theorem Y8 {n:Nat} ⦃G3:Int⦄ ⦃r:Int⦄:Ku n G3=some r→CN n 101 [iA G3] []=some (iA r,[]):=by
 intro h;rcases n with _|n;cases h
 rw[Ku] at h
 refine Aw Tryz.func101 (by rfl) rfl rfl (Nat.le_of_ble_eq_true rfl) ?_
 intro call hc;conv=>lhs;whnf
 revert h
 refine br ?_ ?_
 refine br ?_ ?_
 exact rz
 refine br ?_ ?_
 exact rz
 refine br ?_ ?_
 refine br ?_ ?_
 exact rz
 exact rz
 exact rz
 refine br ?_ ?_
 exact rz
 refine br ?_ ?_
 refine br ?_ ?_
 exact rz
 exact rz
 exact rz
theorem Ys {n:Nat} ⦃A7:(List Aa)⦄ ⦃B7:Int⦄ ⦃r:Int⦄:Nl n A7 B7=some r→CN n 89 [AV.sl 5 (List.map Ak A7),iA B7] []=some (iA r,[]):=by
 intro h;rcases n with _|n;cases h
 rw[Nl] at h
 refine Aw Tryz.func89 (by rfl) rfl rfl (Nat.le_of_ble_eq_true rfl) ?_
 intro call hc;conv=>lhs;whnf
 revert h
 refine br ?_ ?_
 exact rz
 intro h;refine B1 h ?_;clear h;intro o11 ho11 h
 refine lq (σ:=(Int×Int)) (τ:=Unit) (ν:=Int) 0 (fun(s2,s3) a5=>Bh 33 [(0,AV.sl 5 (List.map Ak A7)),(5,iA s2),(6,iA s3)]) (fun(s2,s3) a5=>[]) (fun _ a18=>Bh 33 []) (fun _ a18=>[]) (fun v=>(iA v,[])) (fun k s=>Hj n A7 k s.1 s.2) (fun s=>rfl) o11 n (1,B7) (fun _=>0) ho11 ?_ ?_
 intro k4 ss a5 K6 cont7 hK8 hcont9 h hr10
 obtain⟨s2,s3⟩:=ss
 replace h:Hj n A7 (k4+1) s2 s3=some o11:=h
 rw[Hj] at h
 conv=>lhs;whnf
 revert h
 refine br ?_ ?_
 refine ix ?_;intro x13
 refine ca hc (fun _ h=>Y8 h) ?_;intro y14
 refine br ?_ ?_
 intro h;cases sj h
 refine(hK8 _ _).trans ?_
 refine Eq.trans ?_ (Eq.symm (show _=some _ from hr10))
 conv=>lhs;whnf
 exact rq
 refine br ?_ ?_
 intro h;cases sj h
 refine(hK8 _ _).trans ?_
 refine Eq.trans ?_ (Eq.symm (show _=some _ from hr10))
 conv=>lhs;whnf
 exact rq
 exact fun h=>cq (hcont9 (IntKind.i64.wrap ((IntKind.i64.wrap (s2 - 1))+y14),IntKind.i64.wrap (s3+1)) (fun _=>0) h)
 intro h;cases sj h
 exact kq (hr10 (fun _=>0))
 refine lrc ?_ ?_
 intro v e;subst e;cases sj h;rfl
 intro t a18 e;subst e
 dsimp only at h
 conv=>lhs;whnf
 revert h
 exact rz
def Q7 (n:Nat):Prop:=∀ ⦃A7:(List Aa)⦄ ⦃B7:Int⦄ ⦃r:Int⦄,F1 n A7 B7=some r→CN n 91 [AV.sl 5 (List.map Ak A7),iA B7] []=some (iA r,[])
def Tg (n:Nat):Prop:=Q7 n
theorem A6p (n:Nat) (ih:Tg n):Q7 (n+1):=by
 intro A7 B7 r h
 rw[F1] at h
 refine Aw Tryz.func91 (by rfl) rfl rfl (Nat.le_of_ble_eq_true rfl) ?_
 intro call hc;conv=>lhs;whnf
 revert h
 intro h;refine B1 h ?_;clear h;intro o11 ho11 h
 refine lq (σ:=(Int×Int×Int)) (τ:=Int) (ν:=Int) 0 (fun(s1,s2,s3) a5=>Bh 30 [(0,AV.sl 5 (List.map Ak A7)),(1,iA B7),(5,iA s1),(6,iA s2),(7,iA s3)]) (fun(s1,s2,s3) a5=>[]) (fun x21 a20=>Bh 30 [(5,iA x21)]) (fun x21 a20=>[]) (fun v=>(iA v,[])) (fun k s=>Fj n (F1 n) A7 B7 k s.1 s.2.1 s.2.2) (fun s=>rfl) o11 n (0,IntKind.i64.wrap (B7+1),0) (fun _=>0) ho11 ?_ ?_
 intro k4 ss a5 K6 cont7 hK8 hcont9 h hr10
 obtain⟨s1,s2,s3⟩:=ss
 replace h:Fj n (F1 n) A7 B7 (k4+1) s1 s2 s3=some o11:=h
 rw[Fj] at h
 conv=>lhs;whnf
 revert h
 refine ix ?_;intro x12
 refine ca hc (fun _ h=>Y8 h) ?_;intro y13
 refine br ?_ ?_
 refine ca hc (fun _ h=>ih h) ?_;intro y16
 refine ca hc (fun _ h=>Ys h) ?_;intro y18
 exact fun h=>cq (hcont9 ((if s1<(IntKind.i64.wrap (1+y16)) then(IntKind.i64.wrap (1+y16)) else s1),y18,IntKind.i64.wrap (s3+1)) (fun _=>0) h)
 intro h;cases sj h
 exact kq (hr10 (fun _=>0))
 refine lrc ?_ ?_
 intro v e;subst e;cases sj h;rfl
 intro x21 a20 e;subst e
 dsimp only at h
 conv=>lhs;whnf
 revert h
 exact rz
theorem X2:∀ n,Tg n
 | 0=>by unfold Tg Q7;intros;rename_i h;exact absurd h (by intro h;cases h)
 | n+1=>have ih:=X2 n
   A6p n ih
theorem Y7 {n:Nat}:Q7 n:=(X2 n)
theorem A37 {n:Nat} ⦃r:(List (List Int))⦄:Gp n=some r→CN n 114 [] []=some (AV.sl 1 (List.map Amb r),[]):=by
 intro h;rcases n with _|n;cases h
 rw[Gp] at h
 refine Aw Tryz.func114 (by rfl) rfl rfl (Nat.le_of_ble_eq_true rfl) ?_
 intro call hc;conv=>lhs;whnf
 revert h
 exact rz
theorem D6 {n:Nat} ⦃A7:(List Av)⦄ ⦃B7:Int⦄ ⦃A0b:(List UInt8)⦄ ⦃r:Bool⦄:Cv n A7 B7 A0b=some r→CN n 77 [AV.sl 4 (List.map B0 A7),iA B7,sA A0b] []=some (bA r,[]):=by
 intro h;rcases n with _|n;cases h
 rw[Cv] at h
 refine Aw Tryz.func77 (by rfl) rfl rfl (Nat.le_of_ble_eq_true rfl) ?_
 intro call hc;conv=>lhs;whnf
 revert h
 refine br ?_ ?_
 refine ix ?_;intro x2
 refine br ?_ ?_
 refine ix ?_;intro x4
 exact rz
 exact rz
 exact rz
theorem Me {n:Nat} ⦃A7:(List Av)⦄ ⦃B7:Int⦄ ⦃r:Int⦄:Ht n A7 B7=some r→CN n 98 [AV.sl 4 (List.map B0 A7),iA B7] []=some (iA r,[]):=by
 intro h;rcases n with _|n;cases h
 rw[Ht] at h
 refine Aw Tryz.func98 (by rfl) rfl rfl (Nat.le_of_ble_eq_true rfl) ?_
 intro call hc;conv=>lhs;whnf
 revert h
 refine br ?_ ?_
 refine ix ?_;intro x2
 exact rz
 refine br ?_ ?_
 exact rz
 refine ix ?_;intro x4
 refine ix ?_;intro x5
 exact rz
theorem D7 {n:Nat} ⦃A7:(List Av)⦄ ⦃B7:Int⦄ ⦃r:Bz⦄:Cr n A7 B7=some r→CN n 122 [AV.sl 4 (List.map B0 A7),iA B7] []=some (AV.agg [AV.sl 5 (List.map Ak r.f_l),iA r.f_to,iA r.f_e,iA r.f_at],[]):=by
 intro h;rcases n with _|n;cases h
 rw[Cr] at h
 refine Aw Tryz.func122 (by rfl) rfl rfl (Nat.le_of_ble_eq_true rfl) ?_
 intro call hc;conv=>lhs;whnf
 revert h
 refine br ?_ ?_
 refine ca hc (fun _ h=>Me h) ?_;intro y2
 exact rz
 refine ca hc (fun _ h=>Me h) ?_;intro y4
 exact rz
theorem A63 {n:Nat} ⦃G3:Int⦄ ⦃r:(List UInt8)⦄:Rz n G3=some r→CN n 123 [iA G3] []=some (sA r,[]):=by
 intro h;rcases n with _|n;cases h
 rw[Rz] at h
 refine Aw Tryz.func123 (by rfl) rfl rfl (Nat.le_of_ble_eq_true rfl) ?_
 intro call hc;conv=>lhs;whnf
 revert h
 intro h
 refine B1 h ?_;clear h;intro x1 hx1 h
 refine Cp (by first|exact I9 hx1|(have q:=I9 hx1;exact q)) ?_
 simp only[(show nth? ([[sA (([33]:List UInt8))],[sA (([43]:List UInt8))],[sA (([45]:List UInt8))],[sA (([42]:List UInt8))],[sA (([61,61]:List UInt8))],[sA (([33,61]:List UInt8))],[sA (([60]:List UInt8))],[sA (([60,61]:List UInt8))],[sA (([38,38]:List UInt8))],[sA (([124,124]:List UInt8))]]:List (List AV)) (IntKind.i64.wrap (G3 - 5)).toNat=some (Co x1) from No (f:=Co) hx1),ls]
 conv=>lhs;whnf
 revert h
 exact rz
theorem A4y {n:Nat} ⦃A7:(List Av)⦄ ⦃B7:Int⦄ ⦃Ni:(List Int)⦄ ⦃r:Int⦄:N4 n A7 B7 Ni=some r→CN n 113 [AV.sl 4 (List.map B0 A7),iA B7,AV.sl 1 (List.map Ia Ni)] []=some (iA r,[]):=by
 intro h;rcases n with _|n;cases h
 rw[N4] at h
 refine Aw Tryz.func113 (by rfl) rfl rfl (Nat.le_of_ble_eq_true rfl) ?_
 intro call hc;conv=>lhs;whnf
 revert h
 intro h;refine B1 h ?_;clear h;intro o9 ho9 h
 refine lq (σ:=Int) (τ:=Unit) (ν:=Int) 0 (fun s1 a3=>Bh 26 [(0,AV.sl 4 (List.map B0 A7)),(1,iA B7),(2,AV.sl 1 (List.map Ia Ni)),(7,iA s1)]) (fun s1 a3=>[]) (fun _ a18=>Bh 26 []) (fun _ a18=>[]) (fun v=>(iA v,[])) (fun k s=>I6 n A7 B7 Ni k s) (fun s=>rfl) o9 n 0 (fun _=>0) ho9 ?_ ?_
 intro k2 s1 a3 K4 cont5 hK6 hcont7 h hr8
 replace h:I6 n A7 B7 Ni (k2+1) s1=some o9:=h
 rw[I6] at h
 conv=>lhs;whnf
 revert h
 refine br ?_ ?_
 refine ix ?_;intro x11
 refine ca hc (fun _ h=>A63 h) ?_;intro y12
 refine ca hc (fun _ h=>D6 h) ?_;intro y14
 refine br ?_ ?_
 refine ix ?_;intro x17
 intro h;cases sj h
 refine(hK6 _ _).trans ?_
 refine Eq.trans ?_ (Eq.symm (show _=some _ from hr8))
 conv=>lhs;whnf
 exact rq
 exact fun h=>cq (hcont7 (IntKind.i64.wrap (s1+1)) (fun _=>0) h)
 intro h;cases sj h
 exact kq (hr8 (fun _=>0))
 refine lrc ?_ ?_
 intro v e;subst e;cases sj h;rfl
 intro t a18 e;subst e
 dsimp only at h
 conv=>lhs;whnf
 revert h
 exact rz
def Ot (n:Nat):Prop:=∀ ⦃A7:(List Av)⦄ ⦃B7:Int⦄ ⦃Cx:Int⦄ ⦃Qt:Int⦄ ⦃r:Bz⦄,Cm n A7 B7 Cx Qt=some r→CN n 100 [AV.sl 4 (List.map B0 A7),iA B7,iA Cx,iA Qt] []=some (AV.agg [AV.sl 5 (List.map Ak r.f_l),iA r.f_to,iA r.f_e,iA r.f_at],[])
def Tf (n:Nat):Prop:=∀ ⦃A7:(List Av)⦄ ⦃B7:Int⦄ ⦃Cx:Int⦄ ⦃r:Bz⦄,Dm n A7 B7 Cx=some r→CN n 112 [AV.sl 4 (List.map B0 A7),iA B7,iA Cx] []=some (AV.agg [AV.sl 5 (List.map Ak r.f_l),iA r.f_to,iA r.f_e,iA r.f_at],[])
def S7 (n:Nat):Prop:=Ot n∧Tf n
theorem A3q (n:Nat) (ih:S7 n):Ot (n+1):=by
 intro A7 B7 Cx Qt r h
 rw[Cm] at h
 refine Aw Tryz.func100 (by rfl) rfl rfl (Nat.le_of_ble_eq_true rfl) ?_
 intro call hc;conv=>lhs;whnf
 revert h
 refine br ?_ ?_
 refine ca hc (fun _ h=>ih.2 h) ?_;intro y2
 exact rz
 refine ca hc (fun _ h=>ih.1 h) ?_;intro y4
 intro h;refine B1 h ?_;clear h;intro o17 ho17 h
 refine lq (σ:=((List Aa)×Int×Int×Int)) (τ:=((List Aa)×Int×Int×Int)) (ν:=Bz) 0 (fun(s6,s7,s8,s9) a11=>Bh 78 [(0,AV.sl 4 (List.map B0 A7)),(2,iA Cx),(3,iA Qt),(8,AV.ptr 0 0),(9,AV.ptr 1 0)]) (fun(s6,s7,s8,s9) a11=>[Ob.var 116 [AV.nils,iA (0),iA (0),iA (0)],Ob.var 116 [AV.sl 5 (List.map Ak s6),iA s7,iA s8,iA s9]]) (fun(x35,x36,x37,x38) a34=>Bh 78 [(8,AV.ptr 0 0),(9,AV.ptr 1 0)]) (fun(x35,x36,x37,x38) a34=>[Ob.var 116 [AV.nils,iA (0),iA (0),iA (0)],Ob.var 116 [AV.sl 5 (List.map Ak x35),iA x36,iA x37,iA x38]]) (fun v=>(AV.agg [AV.sl 5 (List.map Ak v.f_l),iA v.f_to,iA v.f_e,iA v.f_at],[])) (fun k s=>F3 n (Cm n) A7 Cx Qt k s.1 s.2.1 s.2.2.1 s.2.2.2) (fun s=>rfl) o17 n (y4.f_l,y4.f_to,y4.f_e,y4.f_at) (fun _=>0) ho17 ?_ ?_
 intro k10 ss a11 K12 cont13 hK14 hcont15 h hr16
 obtain⟨s6,s7,s8,s9⟩:=ss
 replace h:F3 n (Cm n) A7 Cx Qt (k10+1) s6 s7 s8 s9=some o17:=h
 rw[F3] at h
 conv=>lhs;whnf
 revert h
 refine br ?_ ?_
 refine ca hc (fun _ h=>A37 h) ?_;intro y19
 refine ix ?_;intro x21
 refine ca hc (fun _ h=>A4y h) ?_;intro y22
 refine br ?_ ?_
 intro h;cases sj h
 refine(hK14 _ _).trans ?_
 refine Eq.trans ?_ (Eq.symm (show _=some _ from hr16))
 conv=>lhs;whnf
 exact rq
 refine ca hc (fun _ h=>ih.1 h) ?_;intro y25
 refine br ?_ ?_
 intro h;cases sj h
 refine(hK14 _ _).trans ?_
 refine Eq.trans ?_ (Eq.symm (show _=some _ from hr16))
 conv=>lhs;whnf
 exact rq
 refine ix ?_;intro x28
 refine ar (ap Ak ([[iA y22,iA (0),sA (([]:List UInt8)),sA (([]:List UInt8)),iA x28.A8]]) ([(⟨y22,0,([]:List UInt8),([]:List UInt8),x28.A8⟩:Aa)]:List Aa) (List.map Ak s6) s6) ?_
 refine ar (ap Ak (List.map Ak (([(⟨y22,0,([]:List UInt8),([]:List UInt8),x28.A8⟩:Aa)]:List Aa)++s6)) (([(⟨y22,0,([]:List UInt8),([]:List UInt8),x28.A8⟩:Aa)]:List Aa)++s6) (List.map Ak y25.f_l) y25.f_l) ?_
 refine br ?_ ?_
 intro h;cases sj h
 refine(hK14 _ _).trans ?_
 refine Eq.trans ?_ (Eq.symm (show _=some _ from hr16))
 conv=>lhs;whnf
 try simp only[ls]
 exact fq (y:=some (AV.agg [AV.sl 5 (List.take (List.length (((([(⟨y22,0,([]:List UInt8),([]:List UInt8),x28.A8⟩:Aa)]:List Aa)++s6)++y25.f_l))) (List.map Ak ((([(⟨y22,0,([]:List UInt8),([]:List UInt8),x28.A8⟩:Aa)]:List Aa)++s6)++y25.f_l))),iA y25.f_to,iA (0),iA (0)],[]))
 exact fun h=>cq (hcont15 (((([(⟨y22,0,([]:List UInt8),([]:List UInt8),x28.A8⟩:Aa)]:List Aa)++s6)++y25.f_l),y25.f_to,0,0) (fun _=>0) h)
 intro h;cases sj h
 exact kq (hr16 (fun _=>0))
 refine lrc ?_ ?_
 intro v e;subst e;cases sj h;rfl
 intro t a34 e;subst e
 obtain⟨x35,x36,x37,x38⟩:=t
 dsimp only at h
 conv=>lhs;whnf
 revert h
 exact rz
theorem A65 (n:Nat) (ih:S7 n):Tf (n+1):=by
 intro A7 B7 Cx r h
 rw[Dm] at h
 refine Aw Tryz.func112 (by rfl) rfl rfl (Nat.le_of_ble_eq_true rfl) ?_
 intro call hc;conv=>lhs;whnf
 revert h
 refine br ?_ ?_
 refine ca hc (fun _ h=>D7 h) ?_;intro y2
 exact rz
 refine ix ?_;intro x4
 refine ca hc (fun _ h=>D6 h) ?_;intro y5
 refine br ?_ ?_
 refine br ?_ ?_
 exact rz
 refine ca hc (fun _ h=>D6 h) ?_;intro y9
 refine br ?_ ?_
 refine ca hc (fun _ h=>ih.2 h) ?_;intro y12
 refine br ?_ ?_
 refine ar (ap Ak ([[iA (5),iA (0),sA (([]:List UInt8)),sA (([]:List UInt8)),iA x4.A8]]) ([(⟨5,0,([]:List UInt8),([]:List UInt8),x4.A8⟩:Aa)]:List Aa) (List.map Ak y12.f_l) y12.f_l) ?_
 intro h;cases sj h
 try simp only[ls]
 exact fq (y:=some (AV.agg [AV.sl 5 (List.take (List.length ((([(⟨5,0,([]:List UInt8),([]:List UInt8),x4.A8⟩:Aa)]:List Aa)++y12.f_l))) (List.map Ak (([(⟨5,0,([]:List UInt8),([]:List UInt8),x4.A8⟩:Aa)]:List Aa)++y12.f_l))),iA y12.f_to,iA y12.f_e,iA y12.f_at],[]))
 exact rz
 refine ca hc (fun _ h=>D6 h) ?_;intro y17
 refine br ?_ ?_
 refine ca hc (fun _ h=>ih.1 h) ?_;intro y20
 refine br ?_ ?_
 refine ca hc (fun _ h=>D6 h) ?_;intro y23
 refine br ?_ ?_
 exact rz
 refine ca hc (fun _ h=>D7 h) ?_;intro y26
 exact rz
 exact rz
 refine br ?_ ?_
 exact rz
 refine br ?_ ?_
 refine ca hc (fun _ h=>D7 h) ?_;intro y30
 exact rz
 refine ca hc (fun _ h=>Dj h) ?_;intro y32
 refine br ?_ ?_
 refine ca hc (fun _ h=>D6 h) ?_;intro y35
 refine br ?_ ?_
 refine br ?_ ?_
 refine ca hc (fun _ h=>D7 h) ?_;intro y39
 exact rz
 refine ix ?_;intro x41
 refine br ?_ ?_
 refine ca hc (fun _ h=>D7 h) ?_;intro y43
 exact rz
 refine ix ?_;intro x45
 refine ca hc (fun _ h=>Dj h) ?_;intro y46
 refine br ?_ ?_
 refine ix ?_;intro x49
 exact rz
 refine ca hc (fun _ h=>D7 h) ?_;intro y50
 exact rz
 exact rz
 refine ca hc (fun _ h=>D7 h) ?_;intro y52
 exact rz
 refine ca hc (fun _ h=>D6 h) ?_;intro y54
 refine br ?_ ?_
 refine br ?_ ?_
 exact rz
 refine ca hc (fun _ h=>D6 h) ?_;intro y58
 refine br ?_ ?_
 refine ca hc (fun _ h=>ih.2 h) ?_;intro y61
 refine br ?_ ?_
 refine ar (ap Ak ([[iA (5),iA (0),sA (([]:List UInt8)),sA (([]:List UInt8)),iA x4.A8]]) ([(⟨5,0,([]:List UInt8),([]:List UInt8),x4.A8⟩:Aa)]:List Aa) (List.map Ak y61.f_l) y61.f_l) ?_
 intro h;cases sj h
 try simp only[ls]
 exact fq (y:=some (AV.agg [AV.sl 5 (List.take (List.length ((([(⟨5,0,([]:List UInt8),([]:List UInt8),x4.A8⟩:Aa)]:List Aa)++y61.f_l))) (List.map Ak (([(⟨5,0,([]:List UInt8),([]:List UInt8),x4.A8⟩:Aa)]:List Aa)++y61.f_l))),iA y61.f_to,iA y61.f_e,iA y61.f_at],[]))
 exact rz
 refine ca hc (fun _ h=>D6 h) ?_;intro y66
 refine br ?_ ?_
 refine ca hc (fun _ h=>ih.1 h) ?_;intro y69
 refine br ?_ ?_
 refine ca hc (fun _ h=>D6 h) ?_;intro y72
 refine br ?_ ?_
 exact rz
 refine ca hc (fun _ h=>D7 h) ?_;intro y75
 exact rz
 exact rz
 refine br ?_ ?_
 exact rz
 refine br ?_ ?_
 refine ca hc (fun _ h=>D7 h) ?_;intro y79
 exact rz
 refine ca hc (fun _ h=>Dj h) ?_;intro y81
 refine br ?_ ?_
 refine ca hc (fun _ h=>D6 h) ?_;intro y84
 refine br ?_ ?_
 refine br ?_ ?_
 refine ca hc (fun _ h=>D7 h) ?_;intro y88
 exact rz
 refine ix ?_;intro x90
 refine br ?_ ?_
 refine ca hc (fun _ h=>D7 h) ?_;intro y92
 exact rz
 refine ix ?_;intro x94
 refine ca hc (fun _ h=>Dj h) ?_;intro y95
 refine br ?_ ?_
 refine ix ?_;intro x98
 exact rz
 refine ca hc (fun _ h=>D7 h) ?_;intro y99
 exact rz
 exact rz
 refine ca hc (fun _ h=>D7 h) ?_;intro y101
 exact rz
 refine ca hc (fun _ h=>D6 h) ?_;intro y103
 refine br ?_ ?_
 refine ca hc (fun _ h=>ih.2 h) ?_;intro y106
 refine br ?_ ?_
 refine ar (ap Ak ([[iA (5),iA (0),sA (([]:List UInt8)),sA (([]:List UInt8)),iA x4.A8]]) ([(⟨5,0,([]:List UInt8),([]:List UInt8),x4.A8⟩:Aa)]:List Aa) (List.map Ak y106.f_l) y106.f_l) ?_
 intro h;cases sj h
 try simp only[ls]
 exact fq (y:=some (AV.agg [AV.sl 5 (List.take (List.length ((([(⟨5,0,([]:List UInt8),([]:List UInt8),x4.A8⟩:Aa)]:List Aa)++y106.f_l))) (List.map Ak (([(⟨5,0,([]:List UInt8),([]:List UInt8),x4.A8⟩:Aa)]:List Aa)++y106.f_l))),iA y106.f_to,iA y106.f_e,iA y106.f_at],[]))
 exact rz
 refine ca hc (fun _ h=>D6 h) ?_;intro y111
 refine br ?_ ?_
 refine ca hc (fun _ h=>ih.1 h) ?_;intro y114
 refine br ?_ ?_
 refine ca hc (fun _ h=>D6 h) ?_;intro y117
 refine br ?_ ?_
 exact rz
 refine ca hc (fun _ h=>D7 h) ?_;intro y120
 exact rz
 exact rz
 refine br ?_ ?_
 exact rz
 refine br ?_ ?_
 refine ca hc (fun _ h=>D7 h) ?_;intro y124
 exact rz
 refine ca hc (fun _ h=>Dj h) ?_;intro y126
 refine br ?_ ?_
 refine ca hc (fun _ h=>D6 h) ?_;intro y129
 refine br ?_ ?_
 refine br ?_ ?_
 refine ca hc (fun _ h=>D7 h) ?_;intro y133
 exact rz
 refine ix ?_;intro x135
 refine br ?_ ?_
 refine ca hc (fun _ h=>D7 h) ?_;intro y137
 exact rz
 refine ix ?_;intro x139
 refine ca hc (fun _ h=>Dj h) ?_;intro y140
 refine br ?_ ?_
 refine ix ?_;intro x143
 exact rz
 refine ca hc (fun _ h=>D7 h) ?_;intro y144
 exact rz
 exact rz
 refine ca hc (fun _ h=>D7 h) ?_;intro y146
 exact rz
theorem Vv:∀ n,S7 n
 | 0=>⟨by unfold Ot;intros;rename_i h;exact absurd h (by intro h;cases h),by unfold Tf;intros;rename_i h;exact absurd h (by intro h;cases h)⟩
 | n+1=>have ih:=Vv n
   ⟨A3q n ih,A65 n ih⟩
theorem A4j {n:Nat}:Ot n:=(Vv n).1
theorem Wi {n:Nat} ⦃A7:(List Av)⦄ ⦃B7:Int⦄ ⦃r:((List Aa)×Int×Int×Int)⦄:Jv n A7 B7=some r→CN n 82 [AV.sl 4 (List.map B0 A7),iA B7] []=some (AV.tup [AV.sl 5 (List.map Ak r.1),iA r.2.1,iA r.2.2.1,iA r.2.2.2],[]):=by
 intro h;rcases n with _|n;cases h
 rw[Jv] at h
 refine Aw Tryz.func82 (by rfl) rfl rfl (Nat.le_of_ble_eq_true rfl) ?_
 intro call hc;conv=>lhs;whnf
 revert h
 refine br ?_ ?_
 exact rz
 refine ca hc (fun _ h=>A4j h) ?_;intro y2
 refine br ?_ ?_
 exact rz
 refine ca hc (fun _ h=>Y7 h) ?_;intro y5
 refine br ?_ ?_
 refine ix ?_;intro x8
 exact rz
 refine br ?_ ?_
 refine ix ?_;intro x10
 exact rz
 exact rz
theorem Wb {n:Nat} ⦃A7:(List Aa)⦄ ⦃r:(List Aa)⦄:Ld n A7=some r→CN n 61 [AV.sl 5 (List.map Ak A7)] []=some (AV.sl 5 (List.map Ak r),[]):=by
 intro h;rcases n with _|n;cases h
 rw[Ld] at h
 refine Aw Tryz.func61 (by rfl) rfl rfl (Nat.le_of_ble_eq_true rfl) ?_
 intro call hc;conv=>lhs;whnf
 revert h
 intro h;refine B1 h ?_;clear h;intro o10 ho10 h
 refine lq (σ:=(Int×(List Aa))) (τ:=(List Aa)) (ν:=(List Aa)) 0 (fun(s1,s2) a4=>Bh 41 [(0,AV.sl 5 (List.map Ak A7)),(3,AV.row 0 (List.length s2)),(4,iA s1)]) (fun(s1,s2) a4=>[Ob.row 63 5 (List.map Ak s2)]) (fun x28 a27=>Bh 41 [(3,AV.row 0 (List.length x28))]) (fun x28 a27=>[Ob.row 63 5 (List.map Ak x28)]) (fun v=>(AV.sl 5 (List.map Ak v),[])) (fun k s=>Ef n A7 k s.1 s.2) (fun s=>rfl) o10 n (0,([]:List Aa)) (fun _=>0) ho10 ?_ ?_
 intro k3 ss a4 K5 cont6 hK7 hcont8 h hr9
 obtain⟨s1,s2⟩:=ss
 replace h:Ef n A7 (k3+1) s1 s2=some o10:=h
 rw[Ef] at h
 conv=>lhs;whnf
 revert h
 refine br ?_ ?_
 refine ix ?_;intro x12
 refine br ?_ ?_
 refine ix ?_;intro x14
 refine ar (ap Ak (List.map Ak s2) s2 ([[iA x14.Bg,iA x14.Cu,sA x14.An,sA x14.Df,iA x14.A8]]) ([x14]:List Aa)) ?_
 exact fun h=>cq (hcont8 (IntKind.i64.wrap (s1+1),(s2++([x14]:List Aa))) (fun _=>0) h)
 refine ix ?_;intro x17
 refine br ?_ ?_
 refine ix ?_;intro x19
 refine ar (ap Ak (List.map Ak s2) s2 ([[iA x19.Bg,iA x19.Cu,sA x19.An,sA x19.Df,iA x19.A8]]) ([x19]:List Aa)) ?_
 exact fun h=>cq (hcont8 (IntKind.i64.wrap (s1+1),(s2++([x19]:List Aa))) (fun _=>0) h)
 refine ix ?_;intro x22
 refine br ?_ ?_
 refine ix ?_;intro x24
 refine ar (ap Ak (List.map Ak s2) s2 ([[iA x24.Bg,iA x24.Cu,sA x24.An,sA x24.Df,iA x24.A8]]) ([x24]:List Aa)) ?_
 exact fun h=>cq (hcont8 (IntKind.i64.wrap (s1+1),(s2++([x24]:List Aa))) (fun _=>0) h)
 exact fun h=>cq (hcont8 (IntKind.i64.wrap (s1+1),s2) (fun _=>0) h)
 intro h;cases sj h
 exact kq (hr9 (fun _=>0))
 refine lrc ?_ ?_
 intro v e;subst e;cases sj h;rfl
 intro x28 a27 e;subst e
 dsimp only at h
 conv=>lhs;whnf
 revert h
 intro h;obtain rfl:=sj h
 try simp only[ls]
 exact fq (y:=some (AV.sl 5 (List.take (List.length x28) (List.map Ak x28)),[]))
theorem A60 {n:Nat} ⦃Bc:Aa⦄ ⦃r:Bool⦄:Oq n Bc=some r→CN n 90 [AV.agg [iA Bc.Bg,iA Bc.Cu,sA Bc.An,sA Bc.Df,iA Bc.A8]] []=some (bA r,[]):=by
 intro h;rcases n with _|n;cases h
 rw[Oq] at h
 refine Aw Tryz.func90 (by rfl) rfl rfl (Nat.le_of_ble_eq_true rfl) ?_
 intro call hc;conv=>lhs;whnf
 revert h
 refine br ?_ ?_
 exact rz
 refine br ?_ ?_
 refine br ?_ ?_
 refine br ?_ ?_
 refine br ?_ ?_
 exact rz
 exact rz
 exact rz
 exact rz
 refine br ?_ ?_
 refine br ?_ ?_
 refine ca hc (fun _ h=>Dj h) ?_;intro y8
 refine br ?_ ?_
 exact rz
 exact rz
 exact rz
 refine br ?_ ?_
 refine br ?_ ?_
 refine ca hc (fun _ h=>Dj h) ?_;intro y13
 refine br ?_ ?_
 exact rz
 exact rz
 exact rz
 refine br ?_ ?_
 refine br ?_ ?_
 refine ca hc (fun _ h=>Dj h) ?_;intro y18
 refine br ?_ ?_
 refine ca hc (fun _ h=>Dj h) ?_;intro y21
 exact rz
 exact rz
 exact rz
 refine br ?_ ?_
 refine br ?_ ?_
 exact rz
 exact rz
 exact rz
theorem We {n:Nat} ⦃A7:(List Aa)⦄ ⦃r:Bool⦄:Lb n A7=some r→CN n 62 [AV.sl 5 (List.map Ak A7)] []=some (bA r,[]):=by
 intro h;rcases n with _|n;cases h
 rw[Lb] at h
 refine Aw Tryz.func62 (by rfl) rfl rfl (Nat.le_of_ble_eq_true rfl) ?_
 intro call hc;conv=>lhs;whnf
 revert h
 refine br ?_ ?_
 exact rz
 refine br ?_ ?_
 exact rz
 refine ca hc (fun _ h=>Ys h) ?_;intro y3
 refine br ?_ ?_
 exact rz
 intro h;refine B1 h ?_;clear h;intro o14 ho14 h
 refine lq (σ:=Int) (τ:=Unit) (ν:=Bool) 0 (fun s6 a8=>Bh 34 [(0,AV.sl 5 (List.map Ak A7)),(3,iA s6)]) (fun s6 a8=>[]) (fun _ a20=>Bh 34 [(0,AV.sl 5 (List.map Ak A7))]) (fun _ a20=>[]) (fun v=>(bA v,[])) (fun k s=>Gr n A7 k s) (fun s=>rfl) o14 n 0 (fun _=>0) ho14 ?_ ?_
 intro k7 s6 a8 K9 cont10 hK11 hcont12 h hr13
 replace h:Gr n A7 (k7+1) s6=some o14:=h
 rw[Gr] at h
 conv=>lhs;whnf
 revert h
 refine br ?_ ?_
 refine ix ?_;intro x16
 refine ca hc (fun _ h=>A60 h) ?_;intro y17
 refine br ?_ ?_
 exact fun h=>cq (hcont12 (IntKind.i64.wrap (s6+1)) (fun _=>0) h)
 intro h;cases sj h
 refine(hK11 _ _).trans ?_
 refine Eq.trans ?_ (Eq.symm (show _=some _ from hr13))
 conv=>lhs;whnf
 exact rq
 intro h;cases sj h
 exact kq (hr13 (fun _=>0))
 refine lrc ?_ ?_
 intro v e;subst e;cases sj h;rfl
 intro t a20 e;subst e
 dsimp only at h
 conv=>lhs;whnf
 revert h
 refine ca hc (fun _ h=>Y7 h) ?_;intro y21
 exact rz
end Go.Proofs.YtpnhafdimkmbbaaGreat
end
