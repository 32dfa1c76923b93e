/- Parts of the proofs: what they lean on. Conditions: none. -/
import Derived.Test.YtnijlelbihnamaaProgRightP1
section
namespace Go.Proofs.Ytnijlelbihnamaa
set_option linter.unusedVariables false
set_option linter.unusedSimpArgs false
def ck (t:Tk):Ck:=(t.A9,t.Aa,t.Bs)
def Zd (op:Int):Nat:=if op=14 then 0 else if op=13 then 1 else if 9≤op then 2 else if op=8 then 4 else 3
def Aj0 (s:List UInt8) (ops:List Int):Int:=ops.foldl (fun acc op=>bif s==E7 op then op else acc) 0
theorem Ap9:∀ h,h < 5→∀ op:Int,6≤op∧op≤14→Aj0 (E7 op) (G7 h)=if h=Zd op then op else 0:=by
 intro h hh op ho
 have:op=6∨op=7∨op=8∨op=9∨op=10∨op=11∨op=12∨op=13∨op=14:=by omega
 rcases this with e | e | e | e | e | e | e | e | e<;>subst e<;>(match h,hh with
  | 0,_=>decide
  | 1,_=>decide
  | 2,_=>decide
  | 3,_=>decide
  | 4,_=>decide)
def Cu (l:List Tk) (i:Nat) (cs:List Ck):Prop:=(l.map ck).drop i=cs
theorem E2 {l:List Tk} {i:Nat} {c:Ck} {cs:List Ck} (h:Cu l i (c :: cs)):∃ t,l[i]?=some t∧ck t=c∧Cu l (i+1) cs:=by
 unfold Cu at h
 have h1:(l.map ck)[i]?=some c:=by
  have:=congrArg (fun l=>l[0]?) h
  simpa [List.getElem?_drop] using this
 rw[List.getElem?_map] at h1
 obtain⟨t,h2,h3⟩:=Option.map_eq_some_iff.1 h1
 refine⟨t,h2,h3,?_⟩
 unfold Cu
 rw[← List.drop_drop,h];rfl
theorem Wp {l:List Tk} {i:Nat} (h:Cu l i []):l[i]?=none:=by
 unfold Cu at h
 have:=List.drop_eq_nil_iff.1 h
 exact List.getElem?_eq_none (by simpa using this)
theorem E0 {l:List Tk} {i:Nat} {a b:List Ck} (h:Cu l i (a++b)):Cu l (i+a.length) b:=by
 unfold Cu at h ⊢
 rw[← List.drop_drop,h,List.drop_left]
theorem Gi {l:List Tk} {i:Nat} {s:List UInt8} {v:Int} {cs:List Ck} (h:Cu l i ((3,s,v) :: cs)) (s':List UInt8):Bk l i s'=(s==s'):=by
 obtain⟨t,h1,h2,_⟩:=E2 h
 injection h2 with e1 e2;injection e2 with e2 e3
 simp only[Bk,h1,e1,e2,beq_self_eq_true,Bool.true_and]
theorem Alu {l:List Tk} {i:Nat} {s:List UInt8} {v:Int} {cs:List Ck} (h:Cu l i ((3,s,v) :: cs)) (ops:List Int):G5 l i ops=Aj0 s ops:=by
 unfold G5 Aj0
 congr 1;funext acc op
 rw[Gi h]
def O0 (cs:List Ck):Prop:=∀ c r,cs=c :: r→c.1=3→c.2.1≠[46]∧∀ op:Int,6≤op∧op≤14→c.2.1≠E7 op
def Zn (cs:List Ck):Prop:=∀ c r,cs=c :: r→c.1=3→c.2.1≠[46]
theorem Ahe {l:List Tk} {i:Nat}:∀ {ops:List Int} {a:Int},(∀ op ∈ ops,Bk l i (E7 op)=false)→ops.foldl (fun acc op=>bif Bk l i (E7 op) then op else acc) a=a:=by
 intro ops
 induction ops with
 | nil=>intro a h;rfl
 | cons op ops ih =>
  intro a h
  rw[List.foldl_cons,h op (List.mem_cons_self ..),At]
  exact ih (fun o ho=>h o (List.mem_cons_of_mem _ ho))
theorem Xh {l:List Tk} {i:Nat} {cs:List Ck} (h:Cu l i cs) (hs:O0 cs) (f:Nat):G5 l i (G7 f)=0:=by
 refine Ahe (fun op ho=>?_)
 have h6:=(Qj f).1 op ho
 cases cs with
 | nil=>simp[Bk,Wp h]
 | cons c r =>
  obtain⟨t,h1,h2,_⟩:=E2 h
  by_cases c3:c.1=3
  ·have:=(hs c r rfl c3).2 op h6
   rw[← h2] at this
   simp only[Bk,h1]
   rw[C8.2 (show t.Aa≠E7 op from this)];simp
  ·rw[← h2] at c3
   simp only[Bk,h1]
   rw[C8.2 (show t.A9≠3 from c3)];simp
theorem Any {l:List Tk} {i:Nat} {cs:List Ck} (h:Cu l i cs) (hs:Zn cs):Bk l i [46]=false:=by
 cases cs with
 | nil=>simp[Bk,Wp h]
 | cons c r =>
  obtain⟨t,h1,h2,_⟩:=E2 h
  by_cases c3:c.1=3
  ·have:=hs c r rfl c3
   rw[← h2] at this
   simp only[Bk,h1]
   rw[C8.2 (show t.Aa≠[46] from this)];simp
  ·rw[← h2] at c3
   simp only[Bk,h1]
   rw[C8.2 (show t.A9≠3 from c3)];simp
theorem Aas {l:List Tk} {inn i tu:Nat} {x:List Nd}:∀ {d f g:Nat},g=f+d→g≤5→PE l (.fl g) inn i (.ok x tu)→(∀ h,f≤h→h < g→G5 l tu (G7 h)=0)→PE l (.fl f) inn i (.ok x tu):=by
 intro d
 induction d with
 | zero=>intro f g e _ h _;rw[e] at h;exact h
 | succ d ih =>
  intro f g e h5 h hp
  exact .fl_ok (by omega) (ih (f:=f+1) (by omega) h5 h (fun k h1 h2=>hp k (by omega) h2)) (.lp_stop (hp f (by omega) (by omega)))
def E6 (x:Nd):Nd:=⟨if x.As=3 then 2 else x.As,x.Bs,x.Ai,x.D5,0⟩
theorem A3t {x:Nd} (h:Df x=true) (h1:x.As=1):x.Ai=[]∧x.D5=[]:=by
 simp only[Df,h1,if_true,A7,beq_iff_eq] at h
 exact h.2.2
theorem A3u {x:Nd} (h:Df x=true) (h1:x.As=2∨x.As=3):x.Bs=0∧x.D5=[]:=by
 simp only[Df,A7] at h
 rw[if_neg (by omega),if_pos h1] at h
 simp only[A7,beq_iff_eq] at h
 exact⟨h.2.1,h.2.2.2⟩
theorem Afu {x:Nd} (h:Df x=true) (h1:x.As=4):x.Bs=0:=by
 simp only[Df,A7] at h
 rw[if_neg (by omega),if_neg (by omega),if_pos h1] at h
 simp only[A7,beq_iff_eq] at h
 exact h.2.1
theorem Acn {x:Nd} (h:Df x=true) (h1:5≤x.As):x.Bs=0∧x.Ai=[]∧x.D5=[]:=by
 simp only[Df,A7] at h
 rw[if_neg (by omega),if_neg (by omega),if_neg (by omega)] at h
 simp only[A7,beq_iff_eq] at h
 exact⟨h.2.1,h.2.2.1,h.2.2.2⟩
theorem Ab4 {op:Int} (h:Dy op=2):6≤op∧op≤14:=by unfold Dy at h;split at h<;>(try split at h)<;>(try split at h)<;>omega
theorem Arv {op:Int} (h:Dy op=1):op=5:=by unfold Dy at h;split at h<;>(try split at h)<;>(try split at h)<;>omega
theorem Ads {op:Int} (h:6≤op∧op≤14):E7 op≠[46]∧E7 op≠[41]∧E7 op≠[33]∧E7 op≠[40]:=by
 have:op=6∨op=7∨op=8∨op=9∨op=10∨op=11∨op=12∨op=13∨op=14:=by omega
 rcases this with e | e | e | e | e | e | e | e | e<;>subst e<;>decide
theorem Aj1 (r:List Ck):O0 ((3,[41],0) :: r):=by
 intro c r' e h3
 obtain⟨rfl,_⟩:=List.cons.inj e
 exact⟨by decide,fun op ho e=>(Ads ho).2.1 e.symm⟩
theorem A6w {cs:List Ck} (h:O0 cs):Zn cs:=fun c r e h3=>(h c r e h3).1
theorem An1 {op:Int} (h:6≤op∧op≤14) (r:List Ck):Zn ((3,E7 op,0) :: r):=by
 intro c r' e h3
 obtain⟨rfl,_⟩:=List.cons.inj e
 exact(Ads h).1
theorem Agb {l:List Tk}:∀ (t:Tr),t.wf→J8 t.flat →
 (∀ (i inn:Nat) (rest:List Ck),Cu l i (E3 t true++rest)→inn+t.dep≤30→Zn rest→∃ x,PE l (.fl 5) inn i (.ok x (i+(E3 t true).length))∧x.map E6=t.flat.map E6) ∧
 (∀ (i inn:Nat) (rest:List Ck),Cu l i (E3 t false++rest)→inn+t.dep≤30→O0 rest→∃ x,PE l (.fl 0) inn i (.ok x (i+(E3 t false).length))∧x.map E6=t.flat.map E6):=by
 intro t
 have lift:∀ {t:Tr},E3 t true=E3 t false→(∀ (i inn:Nat) (rest:List Ck),Cu l i (E3 t true++rest)→inn+t.dep≤30→Zn rest→∃ x,PE l (.fl 5) inn i (.ok x (i+(E3 t true).length))∧x.map E6=t.flat.map E6)→(∀ (i inn:Nat) (rest:List Ck),Cu l i (E3 t false++rest)→inn+t.dep≤30→O0 rest→∃ x,PE l (.fl 0) inn i (.ok x (i+(E3 t false).length))∧x.map E6=t.flat.map E6):=by
  intro t e h i inn rest hf hd hs
  rw[← e] at hf ⊢
  obtain⟨x,h1,h2⟩:=h i inn rest hf hd (A6w hs)
  exact⟨x,Aas (d:=5) rfl (by omega) h1 (fun k _ _=>Xh (E0 hf) hs k),h2⟩
 induction t with
 | leaf x =>
  intro h hn
  have hk:=A3c.1 h
  have hx:=(hn x (by simp[Tr.flat])).1
  have hA:∀ (i inn:Nat) (rest:List Ck),Cu l i (E3 (.leaf x) true++rest)→inn+(Tr.leaf x).dep≤30→Zn rest→∃ y,PE l (.fl 5) inn i (.ok y (i+(E3 (.leaf x) true).length))∧y.map E6=(Tr.leaf x).flat.map E6:=by
   intro i inn rest hf hd hs
   rw[E3] at hf ⊢
   by_cases c1:x.As=1
   ·rw[if_pos c1] at hf ⊢
    obtain⟨t,h1,h2,h3⟩:=E2 hf
    injection h2 with e1 e2;injection e2 with e2 e3
    refine⟨_,.num (by simp[isK,h1,e1]) h1,?_⟩
    obtain⟨b1,b2⟩:=A3t hx c1
    simp[Tr.flat,E6,c1,b1,b2,e3]
   ·rw[if_neg c1] at hf ⊢
    obtain⟨n1,n2⟩:=Q7 hx hk c1
    by_cases c4:x.As=4
    ·rw[if_pos c4] at hf ⊢
     obtain⟨t,h1,h2,h3⟩:=E2 hf
     injection h2 with e1 e2;injection e2 with e2 e3
     have hdot:=Gi h3 [46]
     obtain⟨_,_,_,h4⟩:=E2 h3
     obtain⟨u,g1,g2,g3⟩:=E2 h4
     injection g2 with f1 f2;injection f2 with f2 f3
     refine⟨_,.of (by simp[isN,h1,e1,e2,n2 c4]) (by rw[hdot];rfl) (by simp only[isN,g1,f1,f2,n1];rfl) h1 g1,?_⟩
     have b:=Afu hx c4
     simp[Tr.flat,E6,c4,b,e2,f2]
    ·rw[if_neg c4] at hf ⊢
     obtain⟨t,h1,h2,h3⟩:=E2 hf
     injection h2 with e1 e2;injection e2 with e2 e3
     refine⟨_,.reg (by simp[isN,h1,e1,e2,n1]) (Any h3 hs) h1,?_⟩
     obtain⟨b1,b2⟩:=A3u hx (by omega)
     have e0:(if x.As=3 then(2:Int) else x.As)=2:=by split<;>omega
     simp[Tr.flat,E6,e0,b1,b2,e2]
  exact⟨hA,lift rfl hA⟩
 | un x a ih =>
  intro h hn
  have h5:=Arv h.1
  have hx:=(hn x (by simp[Tr.flat])).1
  have iha:=(ih h.2 (fun y hy=>hn y (by simp[Tr.flat,hy]))).1
  have hA:∀ (i inn:Nat) (rest:List Ck),Cu l i (E3 (.un x a) true++rest)→inn+(Tr.un x a).dep≤30→Zn rest→∃ y,PE l (.fl 5) inn i (.ok y (i+(E3 (.un x a) true).length))∧y.map E6=(Tr.un x a).flat.map E6:=by
   intro i inn rest hf hd hs
   rw[E3] at hf ⊢
   simp only[Tr.dep] at hd
   obtain⟨t,h1,h2,h3⟩:=E2 hf
   obtain⟨y,y1,y2⟩:=iha (i+1) (inn+1) rest h3 (by omega) hs
   have hs33:Bk l i [33]=true:=by rw[Gi hf];rfl
   refine⟨⟨5,0,[],[],t.Ao⟩ :: y,?_,?_⟩
   ·have:=PE.not_ok hs33 (by omega) h1 y1
    rw[List.length_cons,show i+((E3 a true).length+1)=i+1+(E3 a true).length by omega];exact this
   ·obtain⟨b1,b2,b3⟩:=Acn hx (by omega)
    rw[Tr.flat,List.map_cons,List.map_cons,y2]
    congr 1
    simp[E6,h5,b1,b2,b3]
  exact⟨hA,lift rfl hA⟩
 | bin x a b iha ihb =>
  intro h hn
  have h5:=Ab4 h.1
  have hx:=(hn x (by simp[Tr.flat])).1
  have iha:=(iha h.2.1 (fun y hy=>hn y (by simp[Tr.flat,hy]))).1
  have ihb:=(ihb h.2.2 (fun y hy=>hn y (by simp[Tr.flat,hy]))).1
  have hB:∀ (i inn:Nat) (rest:List Ck),Cu l i (E3 (.bin x a b) false++rest)→inn+a.dep≤30→inn+b.dep≤30→O0 rest→∃ y,PE l (.fl 0) inn i (.ok y (i+(E3 (.bin x a b) false).length))∧y.map E6=(Tr.bin x a b).flat.map E6:=by
   intro i inn rest hf hda hdb hs
   rw[E3,At] at hf ⊢
   rw[List.append_assoc] at hf
   obtain⟨y,y1,y2⟩:=iha i inn _ hf hda (An1 h5 _)
   have hf2:=E0 hf
   rw[List.cons_append] at hf2
   obtain⟨t,h1,h2,h3⟩:=E2 hf2
   obtain⟨z,z1,z2⟩:=ihb _ inn rest h3 hdb (A6w hs)
   have hf3:=E0 h3
   have hp:∀ k,k < 5→G5 l (i+(E3 a true).length) (G7 k)=if k=Zd x.As then x.As else 0:=fun k hk=>by rw[Alu hf2,Ap9 k hk _ h5]
   have hF:Zd x.As < 5:=by unfold Zd;repeat' split
                           all_goals omega
   generalize hFF:Zd x.As=F at *
   have pF:=hp F hF
   rw[if_pos rfl] at pF
   have a1:PE l (.fl (F+1)) inn i (.ok y (i+(E3 a true).length)):=Aas (d:=4 - F) (by omega) (by omega) y1 (fun k k1 k2=>by rw[hp k (by omega),if_neg (by omega)])
   have b1:PE l (.fl (F+1)) inn (i+(E3 a true).length+1) (.ok z (i+(E3 a true).length+1+(E3 b true).length)):=Aas (d:=4 - F) (by omega) (by omega) z1 (fun k k1 k2=>Xh hf3 hs k)
   have hne:G5 l (i+(E3 a true).length) (G7 F)≠0:=by rw[pF];omega
   have c1:PE l (.fl F) inn i (.ok (⟨x.As,0,[],[],t.Ao⟩ :: (y++z)) (i+(E3 a true).length+1+(E3 b true).length)):=by
    refine .fl_ok hF a1 ?_
    by_cases c2:F=2
    ·subst c2
     have:=PE.lp_once (x:=y) hne h1 b1
     rw[pF] at this;exact this
    ·have:=PE.lp_go (x:=y) (r:=.ok (⟨x.As,0,[],[],t.Ao⟩ :: (y++z)) (i+(E3 a true).length+1+(E3 b true).length)) hF c2 hne h1 b1 (by rw[pF];exact .lp_stop (Xh hf3 hs F))
     exact this
   refine⟨⟨x.As,0,[],[],t.Ao⟩ :: (y++z),?_,?_⟩
   ·have:=Aas (f:=0) (d:=F) (by omega) (by omega) c1 (fun k _ _=>Xh hf3 hs k)
    rw[List.length_append,List.length_cons,show i+((E3 a true).length+((E3 b true).length+1))=i+(E3 a true).length+1+(E3 b true).length by omega]
    exact this
   ·obtain⟨b1,b2,b3⟩:=Acn hx (by omega)
    rw[Tr.flat,List.map_cons,List.map_cons,List.map_append,List.map_append,y2,z2]
    congr 1
    simp[E6,b1,b2,b3]
  refine⟨fun i inn rest hf hd hs=>?_,fun i inn rest hf hd hs=>hB i inn rest hf (by simp only[Tr.dep] at hd;omega) (by simp only[Tr.dep] at hd;omega) hs⟩
  have et:E3 (.bin x a b) true=(3,[40],0) :: (E3 (.bin x a b) false++[(3,[41],0)]):=by rw[E3,E3];rfl
  rw[et] at hf ⊢
  simp only[Tr.dep] at hd
  rw[List.cons_append,List.append_assoc] at hf
  obtain⟨t,h1,h2,h3⟩:=E2 hf
  obtain⟨y,y1,y2⟩:=hB (i+1) (inn+1) _ h3 (by omega) (by omega) (Aj1 rest)
  have h40:Bk l i [40]=true:=by rw[Gi hf];rfl
  have hf4:=E0 h3
  refine⟨y,?_,y2⟩
  have:=PE.par_ok h40 (by omega) y1 (by rw[Gi hf4];rfl)
  rw[List.length_cons,List.length_append,show i+((E3 (.bin x a b) false).length+[((3:Int),([41]:List UInt8),(0:Int))].length+1)=i+1+(E3 (.bin x a b) false).length+1 by simp;omega]
  exact this
theorem Afs (f:Nat) (l:List UInt8) (p:Nat) (acc:List Tok):(Dh f l p acc).toks.length≤acc.length+l.length:=by
 induction f generalizing l p acc with
 | zero=>simp[Dh]
 | succ f ih =>
  have hg:=A3h false l
  simp only[Dh]
  rcases hd:l.drop (D2 false l) with _ | ⟨c,u⟩
  ·simp
  ·have hlen:=congrArg List.length hd
   rw[List.length_drop] at hlen
   simp only
   cases ho:Jy (c :: u) with
   | err e=>simp
   | tok k n v =>
    simp only
    have hn:=Tc ho
    have:=ih ((c :: u).drop n) (p+D2 false l+n) (acc++[⟨k,(c :: u).take n,v,(p+D2 false l:Nat)⟩])
    simp only[List.length_append,List.length_singleton,List.length_drop] at this
    omega
theorem Aod (l:List UInt8):(Gz l).toks.length≤l.length:=by
 unfold Gz
 split
 ·simp
 ·have:=Afs (l.length+1) l 0 []
  simpa using this
theorem Aoq {l:List UInt8} {k:Int} {n v:Nat} (h:Jy l=.tok k n v):v≤9999:=by
 rcases l with _ | ⟨c,t⟩
 ·simp[Jy] at h
 ·simp only[Jy] at h
  repeat' split at h
  all_goals first
   | (simp at h;done)
   | (simp only[Lx.tok.injEq] at h;omega)
def Ah1 (B:Nat) (t:Tok):Prop:=0≤t.at'∧t.at'+t.text.length≤B∧0≤t.n∧t.n≤9999
theorem Aia (f:Nat) (l:List UInt8) (p B:Nat) (acc:List Tok) (hB:p+l.length≤B) (ha:∀ t ∈ acc,Ah1 B t):∀ t ∈ (Dh f l p acc).toks,Ah1 B t:=by
 induction f generalizing l p acc with
 | zero=>exact ha
 | succ f ih =>
  have hg:=A3h false l
  simp only[Dh]
  rcases hd:l.drop (D2 false l) with _ | ⟨c,u⟩
  ·exact ha
  ·have hlen:=congrArg List.length hd
   rw[List.length_drop] at hlen
   simp only
   cases ho:Jy (c :: u) with
   | err e=>simp
   | tok k n v =>
    simp only
    have hn:=Tc ho
    refine ih ((c :: u).drop n) (p+D2 false l+n) _ (by rw[List.length_drop];omega) (fun t ht=>?_)
    rcases List.mem_append.1 ht with ht | ht
    ·exact ha t ht
    ·obtain rfl:=List.mem_singleton.1 ht
     have:=Aoq ho
     refine⟨by dsimp only;omega,?_,by dsimp only;omega,by dsimp only;omega⟩
     dsimp only
     rw[List.length_take];omega
theorem Ar1 (l:List UInt8):∀ t ∈ (Gz l).toks,Ah1 l.length t:=by
 unfold Gz
 split
 ·simp
 ·exact Aia _ _ _ _ _ (by omega) (by simp)
def Qx (s:List UInt8):List Tk:=(Gz s).toks.map tkS
theorem Zi (s:List UInt8):(∀ t ∈ Qx s,Um t∧t.Ao+t.Aa.length≤s.length)∧(Qx s).length≤s.length:=by
 refine⟨fun t ht=>?_,by rw[Qx,B6];exact Aod s⟩
 obtain⟨u,hu,rfl⟩:=List.mem_map.1 ht
 have:=Ar1 s u hu
 exact⟨⟨this.1,this.2.2.1,this.2.2.2⟩,this.2.1⟩
def Aui (l:List Tk):PR→Prop
 | .bad _ a=>(∃ t ∈ l,a=t.Ao)∨(∃ i,a=Bj l i)
 | _=>True
theorem Ask {l:List Tk} {md:Md} {inn i:Nat} {r:PR} (h:PE l md inn i r):Aui l r:=by
 induction h with
 | deep h1 h2 h3=>exact .inl ⟨_,List.mem_of_getElem? h3,rfl⟩
 | not_bad h1 h2 h4 ih=>exact ih
 | par_bad h1 h2 h4 ih=>exact ih
 | par_open h1 h2 h3 h4 ih=>exact .inr ⟨_,rfl⟩
 | of_bad h1 h2 h3=>exact .inr ⟨_,rfl⟩
 | no h1 h2 h3 h4=>exact .inr ⟨_,rfl⟩
 | fl_bad h1 h2 ih=>exact ih
 | fl_ok h1 h2 h3 ih1 ih2=>exact ih2
 | lp_bad h1 h2 h3 ih=>exact ih
 | lp_go h1 h2 h3 h4 h5 h6 ih1 ih2=>exact ih2
 | _=>trivial
theorem Jz {l:List Tk} {B:Nat} (hB:B < 1000000) (h:∀ t ∈ l,Um t∧t.Ao+t.Aa.length≤B) (i:Nat):0≤Bj l i∧Bj l i≤B:=by
 unfold Bj
 cases h1:l[i]? with
 | some t=>have:=h t (List.mem_of_getElem? h1);have:=this.1.1;dsimp only;omega
 | none =>
  cases h2:l[l.length - 1]? with
  | some t=>have:=h t (List.mem_of_getElem? h2);have:=this.1.1;dsimp only;rw[Dd (by omega)];omega
  | none=>dsimp only;omega
theorem A9s {l:List Tk} {B:Nat} (hB:B < 1000000) (h:∀ t ∈ l,Um t∧t.Ao+t.Aa.length≤B) {md:Md} {inn i:Nat} {e a:Int} (hp:PE l md inn i (.bad e a)):0≤a∧a≤B:=by
 rcases Ask hp with ⟨t,ht,rfl⟩ | ⟨i,rfl⟩
 ·have:=h t ht;have:=this.1.1;omega
 ·exact Jz hB h i
theorem Afi:∀ (t:Tr) (o:Bool),t.wf→J8 t.flat→(Eg t o).length≤40*t.flat.length:=by
 have nl:∀ {w:List UInt8},C9 w=true→w.length≤16:=fun h=>by
  obtain⟨_,_,_,_,_,h⟩:=Ni h;exact h
 intro t
 induction t with
 | leaf x =>
  intro o h hn
  have hx:=(hn x (by simp[Tr.flat])).1
  have hk:=A3c.1 h
  rw[Eg,Tr.flat]
  by_cases c1:x.As=1
  ·rw[if_pos c1];have:=(Aao (Wn hx c1)).1;simp;omega
  ·obtain⟨n1,n2⟩:=Q7 hx hk c1
   have:=nl n1
   rw[if_neg c1]
   by_cases c4:x.As=4
   ·rw[if_pos c4];have:=nl (n2 c4);simp;omega
   ·rw[if_neg c4];simp;omega
 | un x a ih =>
  intro o h hn
  have:=ih true h.2 (fun y hy=>hn y (by simp[Tr.flat,hy]))
  rw[Eg,Tr.flat];simp;omega
 | bin x a b iha ihb =>
  intro o h hn
  have h1:=iha true h.2.1 (fun y hy=>hn y (by simp[Tr.flat,hy]))
  have h2:=ihb true h.2.2 (fun y hy=>hn y (by simp[Tr.flat,hy]))
  have h3:=(A2k 0 (show 5≤x.As∧x.As≤14 by have:=Ab4 h.1;omega)).2
  rw[Eg,Tr.flat]
  cases o<;>simp<;>omega
theorem Aqf (toks:List Tok):(toks.map tkS).map ck=toks.map Tok.core:=by
 rw[List.map_map];rfl
theorem Aoc {l:List Nd} (h6:l.all Df=true) (hl:Jj l=true):J8 l:=by
 simp only[Jj,A7,B3,List.all_eq_true] at hl
 exact fun x hx=>⟨List.all_eq_true.1 h6 x hx,(hl.2 x hx).1,(hl.2 x hx).2⟩
theorem Aks {t:Tr} (h:t.wf) (hn:J8 t.flat) (hl:t.flat.length≤200) (he:Dx t.flat=true) {n:Nat} (hf:1000 < n):E9 n t.flat=some (Eg t false):=by
 obtain⟨n,rfl⟩:∃ j,n=j+1:=⟨n - 1,by omega⟩
 have hd:=t.dep_lt
 have s1:Gr n t.flat 0 false=some (Eg t false,((t.flat.length:Nat):Int)):=by
  have:=Ang t n [] [] false h hn (by simp;omega) (by omega)
  simpa using this
 rw[E9,T7 n t.flat (by omega) (by omega),A0,he,Ab,s1];rfl
theorem Aiq {x:List Nd} (h:R7 x) (hl:x.length≤200):Jj x=true:=by
 simp only[Jj,A7,B3,List.all_eq_true]
 refine⟨by omega,fun y hy=>?_⟩
 have hy:=(h.2 y hy).1
 have nl:∀ {w:List UInt8},C9 w=true→w.length≤16:=fun h=>by
  obtain⟨_,_,_,_,_,h⟩:=Ni h;exact h
 simp only[Df,A7] at hy
 have hy:=hy.2
 by_cases c1:y.As=1
 ·rw[if_pos c1] at hy
  simp only[A7,beq_iff_eq] at hy
  rw[hy.2.1,hy.2.2];simp
 ·rw[if_neg c1] at hy
  by_cases c2:y.As=2∨y.As=3
  ·rw[if_pos c2] at hy
   simp only[A7,beq_iff_eq] at hy
   have:=nl hy.2.1
   rw[hy.2.2];simp;omega
  ·rw[if_neg c2] at hy
   by_cases c4:y.As=4
   ·rw[if_pos c4] at hy
    simp only[A7,beq_iff_eq] at hy
    have:=nl hy.2.1;have:=nl hy.2.2
    omega
   ·rw[if_neg c4] at hy
    simp only[A7,beq_iff_eq] at hy
    rw[hy.2.1,hy.2.2];simp
theorem A1p {x:List Nd} (h:R7 x) (hl:x.length≤200) (hd:(Ep x (0,[])).1≤30):∃ t:Tr,t.wf∧t.flat=x∧t.dep≤30∧J8 t.flat∧Dx x=true:=by
 obtain⟨⟨t,t1,rfl⟩,hg⟩:=h
 have hd2:=A8g t [] 0 [] t1 (by omega)
 rw[List.append_nil] at hd2
 have e:(Ep t.flat (0,[])).1=(t.dep:Int):=by rw[hd2];simp[Ep]
 have hp:=t.flat_pos
 have h6:t.flat.all Df=true:=List.all_eq_true.2 fun y hy=>(hg y hy).1
 have he:I5 t.flat 1=some t.flat.length:=by
  have:=As2 t 1 [] t1 (by omega)
  rw[List.append_nil,if_pos rfl] at this;exact this
 refine⟨t,t1,rfl,by omega,Aoc h6 (Aiq ⟨⟨t,t1,rfl⟩,hg⟩ hl),?_⟩
 simp only[Dx,A7,B3]
 exact⟨⟨hp,hl⟩,he,h6,hd⟩
theorem A94 {l:List Tk} {i:Nat} {r:PR} (hr:PE l (.fl 0) 0 i r) (hi:i≤l.length):(∃ e a,Np l i r=([],0,e,a)∧e≠0∧(r=.bad e a∨a=Bj l i))∨(∃ x tu,r=.ok x tu∧Np l i r=(x,(tu:Int),0,0)∧x.length≤200∧(Ep x (0,[])).1≤30):=by
 cases r with
 | bad e a=>exact .inl ⟨e,a,rfl,Jr hr hi,.inl rfl⟩
 | ok x tu =>
  simp only[Np]
  by_cases c:30 < (Ep x (0,[])).1
  ·rw[if_pos c];exact .inl ⟨7,_,rfl,by decide,.inr rfl⟩
  ·rw[if_neg c]
   by_cases c2:200 < x.length
   ·rw[if_pos c2];exact .inl ⟨2,_,rfl,by decide,.inr rfl⟩
   ·rw[if_neg c2];exact .inr ⟨x,tu,rfl,rfl,by omega,by omega⟩
set_option maxRecDepth 10000
theorem W7 (l:List Tk) (i:Nat):Gp l i≠0:=by unfold Gp;split<;>decide
theorem Uu {T:Nat} {l:List Tk} (hl:l.length < 100000) (hk:∀ t ∈ l,Um t) (hT:∀ t ∈ l,t.Aa.length≤T) (hT2:T < 100000) {n i:Nat} {r:PR} (hr:PE l (.fl 0) 0 i r) (hi:i≤l.length) (hn:12*l.length+T+200≤n) :
 K2 n l (i:Int)=some (Np l i r):=Ar8 hl hr hi (by omega)
abbrev St:=A4
def Kn (x:List Nd):Bool:=(x.filter Fa).all fun y=>y.As==2
theorem A9h {F:Nat→Int→Option (LR Unit Bool)} (l:List Nd) (h0:∀ k i,l.length≤i→F (k+1) (i:Int)=some (.out ())) (h1:∀ k i x,i < l.length→l[i]?=some x→F (k+1) (i:Int)=bif x.As != 2 then some (.ret false) else F k ((i+1:Nat):Int)):∀ (m i k:Nat),l.length - i≤m→l.length - i < k→F k (i:Int)=some (if(l.drop i).all (fun y=>y.As==2) then .out () else .ret false):=by
 intro m
 induction m with
 | zero =>
  intro i k h hk
  obtain⟨k,rfl⟩:∃ j,k=j+1:=⟨k - 1,by omega⟩
  rw[h0 k i (by omega),List.drop_of_length_le (by omega)];rfl
 | succ m ih =>
  intro i k h hk
  obtain⟨k,rfl⟩:∃ j,k=j+1:=⟨k - 1,by omega⟩
  by_cases hi:i < l.length
  ·rw[h1 k i _ hi (Ar hi),ih (i+1) k (by omega) (by omega),List.drop_eq_getElem_cons hi,List.all_cons]
   by_cases hx:l[i].As=2
   ·simp[hx]
   ·have:(l[i].As==2)=false:=by rw[beq_eq_false_iff_ne];exact hx
    simp[this,bne]
  ·rw[h0 k i (by omega),List.drop_of_length_le (by omega)];rfl
theorem Ary {x:List Nd} (h:R7 x) (hl:x.length≤200) (hd:(Ep x (0,[])).1≤30) {n:Nat} (hn:600 < n):Jv n x=some (Kn x):=by
 obtain⟨t,_,_,_,_,h5⟩:=A1p h hl hd
 obtain⟨n,rfl⟩:∃ j,n=j+1:=⟨n - 1,by omega⟩
 have hf:(x.filter Fa).length≤200:=Nat.le_trans (List.length_filter_le ..) hl
 rw[Jv,A7p n x (by omega) (by omega),A0]
 have:=A9h (F:=fun k i=>Fo n (x.filter Fa) k i) (x.filter Fa) (fun k i h=>by rw[Fo,Ap (by omega)]) (fun k i y hi hy=>by rw[Fo,A6 (by omega),Cz hy,A0,Bg i (by omega)]) (x.filter Fa).length 0 n (by omega) (by omega)
 rw[show((0:Nat):Int)=0 from rfl] at this
 rw[this,A0,List.drop_zero,T7 n x (by omega) (by omega),h5]
 unfold Kn
 by_cases c:(x.filter Fa).all (fun y=>y.As==2)=true
 ·rw[if_pos c,c];rfl
 ·rw[if_neg c];rw[Bool.not_eq_true] at c;rw[c]
structure Toks (T:Nat) (l:List Tk):Prop where
 len:l.length < 100000
 ok:∀ t ∈ l,Um t
 txt:∀ t ∈ l,t.Aa.length≤T
 small:T < 100000
def Nc (l:List Tk) (i:Nat):PR→PR
 | .bad e a=>.bad e a
 | .ok x tu=>if 30 < (Ep x (0,[])).1 then .bad 7 (Bj l i) else if 200 < x.length then .bad 2 (Bj l i) else if Kn x=true then .ok x tu else .bad 5 (Bj l i)
open Classical in
noncomputable def exQ (l:List Tk) (i:Nat):PR:=if h:∃ r,PE l (.fl 0) 0 i r then Nc l i h.choose else .bad 6 0
theorem Z3 {T:Nat} {l:List Tk} (hk:Toks T l) {i:Nat} (hi:i≤l.length):∃ r,PE l (.fl 0) 0 i r∧exQ l i=Nc l i r:=by
 have h:∃ r,PE l (.fl 0) 0 i r:=Adt l.length i 0 0 (by omega) hi (by omega) (by omega)
 exact⟨h.choose,h.choose_spec,by unfold exQ;rw[dif_pos h]⟩
theorem Ajf {T:Nat} {l:List Tk} (hk:Toks T l) {i:Nat} (hi:i≤l.length):match exQ l i with
 | .ok x tu=>i < tu∧tu≤l.length∧x.length≤200
 | .bad e _=>e≠0:=by
 obtain⟨r,hr,e⟩:=Z3 hk hi
 rw[e]
 cases r with
 | bad e a=>exact Jr hr hi
 | ok x tu =>
  have:=Jr hr hi;dsimp only at this
  simp only[Nc]
  split
  ·rename_i h;split at h
   ·cases h
   ·split at h
    ·cases h
    ·split at h
     ·cases h;omega
     ·cases h
  ·rename_i h;split at h
   ·cases h;decide
   ·split at h
    ·cases h;decide
    ·split at h
     ·cases h
     ·cases h;decide
abbrev Mp:=List (List UInt8×Int)
theorem Toks.at' {T:Nat} {l:List Tk} (hk:Toks T l) {i:Nat} (h:i < l.length):Bj l i=(l[i]).Ao:=by unfold Bj;rw[Ar h]
theorem Acj {l:List Tk} (hk:∀ t ∈ l,Um t) {i:Nat} {r:PR} (hr:PE l (.fl 0) 0 i r) (hi:i≤l.length) :
 (∃ e a,e≠0∧Np l i r=([],0,e,a)∧Nc l i r=.bad e a) ∨
 (∃ (x:List Nd) (tu:Nat),Np l i r=(x,(tu:Int),0,0)∧i < tu∧tu≤l.length∧x.length≤200∧R7 x∧(Ep x (0,[])).1≤30∧Nc l i r=if Kn x=true then .ok x tu else .bad 5 (Bj l i)):=by
 cases r with
 | bad e a=>exact .inl ⟨e,a,Jr hr hi,rfl,rfl⟩
 | ok x tu =>
  have hx:=Jr hr hi;dsimp only at hx
  have hg:R7 x:=Z4 hk hr
  simp only[Np,Nc]
  by_cases c:30 < (Ep x (0,[])).1
  ·rw[if_pos c,if_pos c];exact .inl ⟨7,_,by decide,rfl,rfl⟩
  ·rw[if_neg c,if_neg c]
   by_cases c2:200 < x.length
   ·rw[if_pos c2,if_pos c2];exact .inl ⟨2,_,by decide,rfl,rfl⟩
   ·rw[if_neg c2,if_neg c2];exact .inr ⟨x,tu,rfl,by omega,by omega,by omega,hg,by omega,rfl⟩
theorem A0g (n:Nat) (s:List UInt8) (l:List Tk) (i:Nat) (a b:Int) (m:Mp):Dk (n+1) 3 s l (i:Int) a b m=some (Bk l i s):=by
 rw[Dk]
 by_cases h:i < l.length
 ·rw[A6 (by omega),Cv h,A0,A0]
  unfold Bk
  rw[Ar h]
  dsimp only
  cases hk:(l[i].A9==3)<;>simp
 ·rw[Ap (by omega)]
  unfold Bk
  rw[List.getElem?_eq_none (by omega)]
theorem A2x (n:Nat) (l:List Tk) (i:Nat) (c a b:Int) (m:Mp) (hl:l.length < 1000000):F1 (n+1) (i:Int) l c a b m=some (Bj l i):=by
 rw[F1]
 by_cases h:i < l.length
 ·rw[A6 (by omega),Cv h,A0]
  unfold Bj
  rw[Ar h]
 ·rw[Ap (by omega)]
  unfold Bj
  rw[List.getElem?_eq_none (by omega)]
  by_cases h0:l.length=0
  ·have:l=[]:=List.length_eq_zero_iff.1 h0
   subst this
   rfl
  ·have e:IntKind.i64.wrap ((l.length:Int) - 1)=((l.length - 1:Nat):Int):=by rw[Dd (by omega)];omega
   rw[e,A6 (by omega),Cv (show l.length - 1 < l.length by omega),A0,A0,Ar (show l.length - 1 < l.length by omega)]
theorem A1n (n:Nat) (l:List Tk) (i:Nat) (m:Mp) (hl:l.length < 1000000):Dc (n+2) l (i:Int) 0 0 m=some (Gp l i,Bj l i):=by
 rw[Dc,bne_self_eq_false,At,A2x n l i _ _ _ m hl,A0]
 unfold Gp
 by_cases h:i < l.length
 ·rw[Ap (by omega),if_pos h]
 ·rw[A6 (by omega),if_neg h]
theorem R8 (n:Nat) (s:List UInt8) (l:List Tk) (i e a:Int) (m:Mp) (he:e≠0):Bi (n+1) s l i e a m=some (i,e,a):=by
 rw[Bi,show(e != 0)=true by rw[bne_iff_ne];exact he,Ab]
theorem Ua (n:Nat) (s:List UInt8) (l:List Tk) (i:Nat) (m:Mp) (hl:l.length < 1000000):Bi (n+3) s l (i:Int) 0 0 m=some (if Bk l i s=true then(((i+1:Nat):Int),0,0) else((i:Int),Gp l i,Bj l i)):=by
 rw[Bi,bne_self_eq_false,At,A0g,A0]
 by_cases c:Bk l i s=true
 ·have:=Dn c
  rw[if_pos c,c,Ab,Bg i (by omega)]
 ·rw[if_neg c];rw[Bool.not_eq_true] at c
  rw[c,At,A1n n l i m hl,A0]
def txt (l:List Tk) (i:Nat):List UInt8:=match l[i]? with | some t=>t.Aa | none=>[]
theorem Akn (n:Nat) (l:List Tk) (i:Nat) (m:Mp) (hl:l.length < 1000000):I9 (n+3) l (i:Int) 0 0 m=some (if isN l i=true then(txt l i,((i+1:Nat):Int),0,0) else([],(i:Int),Gp l i,Bj l i)):=by
 rw[I9,bne_self_eq_false,At,A1n n l i m hl]
 by_cases h:i < l.length
 ·have e1:IntKind.i64.wrap (IntKind.i64.wrap ((i:Int)+1) - 1)=(i:Int):=by rw[Bg i (by omega),Dd (by omega)];omega
  rw[Ap (by omega),Cv h,A0,e1,Cv h,Bg i (by omega)]
  have hn:isN l i=(l[i].A9==1&&C9 l[i].Aa):=by unfold isN;rw[Ar h]
  have ht:txt l i=l[i].Aa:=by unfold txt;rw[Ar h]
  rw[hn,ht]
  by_cases h1:l[i].A9=1
  ·rw[h1,bne_self_eq_false,At]
   simp only[A0,Dg,beq_self_eq_true,Bool.true_and]
   cases C9 l[i].Aa<;>rfl
  ·rw[show(l[i].A9 != 1)=true by rw[bne_iff_ne];exact h1,show(l[i].A9==1)=false by rw[beq_eq_false_iff_ne];exact h1];rfl
 ·rw[A6 (by omega)]
  have hn:isN l i=false:=by unfold isN;rw[List.getElem?_eq_none (by omega)]
  rw[hn];rfl
theorem Akm {T:Nat} {l:List Tk} (hk:Toks T l) {i n:Nat} (m:Mp) (hi:i≤l.length) (hn:12*l.length+T+800≤n):Ic n l (i:Int) 0 0 m=some (match exQ l i with | .ok x tu=>(x,(tu:Int),0,0) | .bad e a=>([],(i:Int),e,a)):=by
 obtain⟨r,hr,e⟩:=Z3 hk hi
 obtain⟨n,rfl⟩:∃ j,n=j+3:=⟨n - 3,by omega⟩
 have hl:=hk.len
 rw[Ic,bne_self_eq_false,At,Uu hk.len hk.ok hk.txt hk.small hr hi (by omega),e,A0]
 rcases Acj hk.ok hr hi with ⟨e,a,h0,h1,h2⟩ | ⟨x,tu,h1,h3,h4,h5,h6,h7,h2⟩
 ·rw[h1,h2]
  dsimp only
  rw[show(e != 0)=true by rw[bne_iff_ne];exact h0];rfl
 ·rw[h1,h2]
  dsimp only
  rw[bne_self_eq_false,At,Ary h6 h5 h7 (by omega),A0]
  by_cases c:Kn x=true
  ·rw[if_pos c,c];rfl
  ·rw[if_neg c];rw[Bool.not_eq_true] at c
   have hlt:i < l.length:=by omega
   rw[c,At,A1n n l i m (by omega),A0]
   unfold Gp;rw[if_pos hlt]
structure Fs where
 reg:List UInt8
 loc:List UInt8
 e:List Nd
 f:List Nd
 ne:Bool
inductive FR where
 | ok (s:Fs) (i:Nat)
 | bad (e a:Int)
def Iu (l:List Tk) (ex:Nat→PR) (c:UInt8) (i:Nat) (s:Fs):FR :=
 if c.toNat=114 then(if isN l i=true then .ok { s with reg:=txt l i } (i+1) else .bad (Gp l i) (Bj l i))
 else if c.toNat=108 then(if isN l i=true then .ok { s with loc:=txt l i } (i+1) else .bad (Gp l i) (Bj l i))
 else if c.toNat=101 then(match ex i with | .ok x tu=>.ok { s with e:=x } tu | .bad e a=>.bad e a)
 else if c.toNat=102 then(match ex i with | .ok x tu=>.ok { s with f:=x } tu | .bad e a=>.bad e a)
 else if c.toNat=113 then(if Bk l i [33,61]=true then .ok { s with ne:=true } (i+1) else if Bk l i [61,61]=true then .ok { s with ne:=false } (i+1) else .bad (Gp l i) (Bj l i))
 else if Bk l i [c]=true then .ok s (i+1) else .bad (Gp l i) (Bj l i)
def Ij (l:List Tk) (ex:Nat→PR):List UInt8→Nat→Fs→FR
 | [],i,s=>.ok s i
 | c :: cs,i,s=>match Iu l ex c i s with
   | .ok s' j=>Ij l ex cs j s'
   | .bad e a=>.bad e a
def Av4 (l:List Tk) (i:Nat):FR→Prop
 | .ok _ j=>i < j∧j≤l.length
 | .bad e _=>e≠0
def Auz (l:List Tk) (i:Nat):FR→Prop
 | .ok _ j=>i≤j∧j≤l.length
 | .bad e _=>e≠0
theorem Ef {Q:FR→Prop} {c:Prop} [Decidable c] {a b:FR} (h1:c→Q a) (h2:¬ c→Q b):Q (if c then a else b):=by
 by_cases h:c
 ·rw[if_pos h];exact h1 h
 ·rw[if_neg h];exact h2 h
theorem A0e {T:Nat} {l:List Tk} (hk:Toks T l) {c:UInt8} {i:Nat} {s:Fs} (hi:i≤l.length):Av4 l i (Iu l (exQ l) c i s):=by
 have hex:=Ajf hk hi
 have h1:∀ s,Bk l i s=true→i < i+1∧i+1≤l.length:=fun s h=>by have:=Dn h;omega
 have h2:isN l i=true→i < i+1∧i+1≤l.length:=fun h=>by have:=Ue h;omega
 have he:=W7 l i
 unfold Iu
 refine Ef (fun _=>Ef h2 fun _=>he) fun _=>Ef (fun _=>Ef h2 fun _=>he) fun _=>Ef (fun _=>?_) fun _=>Ef (fun _=>?_) fun _=>Ef (fun _=>Ef (h1 _) fun _=>Ef (h1 _) fun _=>he) fun _=>Ef (h1 _) fun _=>he
 ·revert hex;cases exQ l i with
  | ok x tu=>intro h;exact⟨h.1,h.2.1⟩
  | bad e a=>intro h;exact h
 ·revert hex;cases exQ l i with
  | ok x tu=>intro h;exact⟨h.1,h.2.1⟩
  | bad e a=>intro h;exact h
theorem A37 {T:Nat} {l:List Tk} (hk:Toks T l):∀ (cs:List UInt8) (i:Nat) (s:Fs),i≤l.length→Auz l i (Ij l (exQ l) cs i s)
 | [],i,s,hi=>⟨Nat.le_refl _,hi⟩
 | c :: cs,i,s,hi=>by
  have h:=A0e hk (c:=c) (s:=s) hi
  unfold Ij
  revert h
  cases Iu l (exQ l) c i s with
  | bad e a=>intro h;exact h
  | ok s' j =>
   intro h
   have:=A37 hk cs j s' h.2
   dsimp only
   revert this
   cases Ij l (exQ l) cs j s' with
   | ok s2 j2=>intro h2;exact⟨Nat.le_trans (Nat.le_of_lt h.1) h2.1,h2.2⟩
   | bad e a=>intro h2;exact h2
theorem Ase (pre cs:List UInt8) (c:UInt8) (h:pre.length < 1000000):List.drop ((pre.length:Int)).toNat (List.take (IntKind.i64.wrap ((pre.length:Int)+1)).toNat (pre++c :: cs))=[c]:=by
 rw[Bg pre.length (by omega)]
 rw[Int.toNat_natCast,Int.toNat_natCast,List.take_append,List.take_of_length_le (by omega),show pre.length+1 - pre.length=1 by omega,List.drop_append_of_le_length (by omega),List.drop_length]
 simp
theorem At2 (pre cs:List UInt8) (c:UInt8) (h:pre.length < 1000000):(decide (0≤IntKind.i64.wrap ((pre.length:Int)+1))&&decide (IntKind.i64.wrap ((pre.length:Int)+1)≤(((pre++c :: cs).length:Nat):Int))&&decide (0≤(pre.length:Int))&&decide ((pre.length:Int)≤IntKind.i64.wrap ((pre.length:Int)+1)))=true:=by
 rw[Bg pre.length (by omega)]
 simp only[A7,B3,List.length_append,List.length_cons]
 omega
theorem A7n (pre cs:List UInt8) (c:UInt8):idx (pre++c :: cs) (pre.length:Int)=some c:=by rw[Vh];simp
theorem A2r (c:UInt8) (k:Nat) (K:Int) (hK:(k:Int)=K):decide ((c.toNat:Int)=K)=decide (c.toNat=k):=by
 subst hK
 by_cases h:c.toNat=k
 ·rw[h];simp
 ·rw[decide_eq_false h,decide_eq_false (by omega)]
theorem Aey {l:List Tk} {n:Nat} (hn:5 < n) (m:Mp) (x4:Tk) (y5:Bl×Bool) (y8:Int) (i e a:Int) (he:e≠0) (s:Fs):∀ (cs pre:List UInt8) (k:Nat),y5.1.f_form=pre++cs→(pre++cs).length < 100→cs.length < k →
 B4 n l m x4 y5 y8 k (pre.length:Int) i e a s.reg s.loc s.e s.f s.ne=some (.out (i,e,a,s.reg,s.loc,s.e,s.f,s.ne)):=by
 intro cs
 obtain⟨n,rfl⟩:∃ j,n=j+1:=⟨n - 1,by omega⟩
 have hb:(e==0)=false:=by rw[beq_eq_false_iff_ne];exact he
 induction cs with
 | nil =>
  intro pre k hf hlen hkk
  obtain⟨k,rfl⟩:∃ j,k=j+1:=⟨k - 1,by omega⟩
  rw[B4,hf,Ap (by simp)]
 | cons c cs ih =>
  intro pre k hf hlen hkk
  obtain⟨k,rfl⟩:∃ j,k=j+1:=⟨k - 1,by omega⟩
  have hp:pre.length < 1000000:=by simp at hlen;omega
  have go:=ih (pre++[c]) k (by simpa using hf) (by simpa using hlen) (by simp at hkk;omega)
  simp only[List.length_append,List.length_singleton] at go
  have hw:=Bg pre.length (show pre.length < 4611686018427387904 by omega)
  rw[B4,hf,A6 (show((pre.length:Nat):Int) < (((pre++c :: cs).length:Nat):Int) by simp;omega)]
  simp only[A7n,A0,hb,At,At2 pre cs c hp,Ab,Ase pre cs c hp,R8 _ _ _ _ _ _ _ he]
  simp only[hw,go]
  cases decide ((c.toNat:Int)=114)<;>cases decide ((c.toNat:Int)=108)<;>cases decide ((c.toNat:Int)=101)<;>cases decide ((c.toNat:Int)=102)<;>cases decide ((c.toNat:Int)=113)<;>rfl
theorem An5 {T:Nat} {l:List Tk} (hk:Toks T l) {n:Nat} (hn:12*l.length+T+900≤n) (m:Mp) (x4:Tk) (y5:Bl×Bool) (y8:Int):∀ (cs pre:List UInt8) (i k:Nat) (s:Fs),y5.1.f_form=pre++cs→i≤l.length→(pre++cs).length < 100→cs.length < k →
 match Ij l (exQ l) cs i s with
 | .ok s' j=>B4 n l m x4 y5 y8 k (pre.length:Int) (i:Int) 0 0 s.reg s.loc s.e s.f s.ne=some (.out ((j:Int),0,0,s'.reg,s'.loc,s'.e,s'.f,s'.ne))
 | .bad e a=>∃ (i':Int) (s':Fs),B4 n l m x4 y5 y8 k (pre.length:Int) (i:Int) 0 0 s.reg s.loc s.e s.f s.ne=some (.out (i',e,a,s'.reg,s'.loc,s'.e,s'.f,s'.ne)):=by
 intro cs
 induction cs with
 | nil =>
  intro pre i k s hf hi hlen hkk
  obtain⟨k,rfl⟩:∃ j,k=j+1:=⟨k - 1,by omega⟩
  rw[Ij,B4,hf,Ap (by simp)]
 | cons c cs ih =>
  intro pre i k s hf hi hlen hkk
  obtain⟨k,rfl⟩:∃ j,k=j+1:=⟨k - 1,by omega⟩
  obtain⟨n,rfl⟩:∃ j,n=j+5:=⟨n - 5,by omega⟩
  have hl:=hk.len
  have hp:pre.length < 1000000:=by simp at hlen;omega
  have hlen':(pre++[c]++cs).length < 100:=by simpa using hlen
  have hf':y5.1.f_form=pre++[c]++cs:=by simpa using hf
  have hkk':cs.length < k:=by simp at hkk;omega
  have go:∀ (j:Nat) (s':Fs),j≤l.length→match Ij l (exQ l) cs j s' with
   | .ok s2 j2=>B4 (n+5) l m x4 y5 y8 k ((pre.length+1:Nat):Int) (j:Int) 0 0 s'.reg s'.loc s'.e s'.f s'.ne=some (.out ((j2:Int),0,0,s2.reg,s2.loc,s2.e,s2.f,s2.ne))
   | .bad e a=>∃ (i':Int) (s2:Fs),B4 (n+5) l m x4 y5 y8 k ((pre.length+1:Nat):Int) (j:Int) 0 0 s'.reg s'.loc s'.e s'.f s'.ne=some (.out (i',e,a,s2.reg,s2.loc,s2.e,s2.f,s2.ne)):=fun j s' hj=>by
   have:=ih (pre++[c]) j k s' hf' hj hlen' hkk'
   simpa only [List.length_append,List.length_singleton] using this
  have stop:∀ (i' e a:Int) (s':Fs),e≠0→B4 (n+5) l m x4 y5 y8 k ((pre.length+1:Nat):Int) i' e a s'.reg s'.loc s'.e s'.f s'.ne=some (.out (i',e,a,s'.reg,s'.loc,s'.e,s'.f,s'.ne)):=fun i' e a s' he=>by
   have:=Aey (l:=l) (n:=n+5) (by omega) m x4 y5 y8 i' e a he s' cs (pre++[c]) k hf' hlen' hkk'
   simpa only [List.length_append,List.length_singleton] using this
  have hex:=Ajf hk hi
  have hw:=Bg pre.length (show pre.length < 4611686018427387904 by omega)
  have hee:=W7 l i
  unfold Ij Iu
  rw[B4,hf,A6 (show((pre.length:Nat):Int) < (((pre++c :: cs).length:Nat):Int) by simp;omega)]
  simp only[A7n,A0,A2r c 114 114 rfl,A2r c 108 108 rfl,A2r c 101 101 rfl,A2r c 102 102 rfl,A2r c 113 113 rfl,beq_self_eq_true,Ab]
  by_cases c1:c.toNat=114
  ·simp only[if_pos c1,decide_eq_true c1,Ab,Kb,Akn (n+1) l i m (by omega),A0]
   by_cases h:isN l i=true
   ·simp only[if_pos h,hw]
    exact go (i+1) { s with reg:=txt l i } (Ue h)
   ·simp only[if_neg h,hw]
    exact⟨_,_,stop (i:Int) _ _ { s with reg:=[] } hee⟩
  ·rw[if_neg c1]
   simp only[decide_eq_false c1,At]
   by_cases c2:c.toNat=108
   ·simp only[if_pos c2,decide_eq_true c2,Ab,Ke,Akn (n+1) l i m (by omega),A0]
    by_cases h:isN l i=true
    ·simp only[if_pos h,hw]
     exact go (i+1) { s with loc:=txt l i } (Ue h)
    ·simp only[if_neg h,hw]
     exact⟨_,_,stop (i:Int) _ _ { s with loc:=[] } hee⟩
   ·rw[if_neg c2]
    simp only[decide_eq_false c2,At]
    by_cases c3:c.toNat=101
    ·simp only[if_pos c3,decide_eq_true c3,Ab,Kg,Akm hk m hi (show 12*l.length+T+800≤n+4 by omega),A0]
     revert hex
     cases exQ l i with
     | bad e a =>
      intro hex
      simp only[hw]
      exact⟨_,_,stop (i:Int) e a { s with e:=[] } hex⟩
     | ok y tu =>
      intro hex
      simp only[hw]
      exact go tu { s with e:=y } hex.2.1
    ·rw[if_neg c3]
     simp only[decide_eq_false c3,At]
     by_cases c4:c.toNat=102
     ·simp only[if_pos c4,decide_eq_true c4,Ab,Kd,Akm hk m hi (show 12*l.length+T+800≤n+4 by omega),A0]
      revert hex
      cases exQ l i with
      | bad e a =>
       intro hex
       simp only[hw]
       exact⟨_,_,stop (i:Int) e a { s with f:=[] } hex⟩
      | ok y tu =>
       intro hex
       simp only[hw]
       exact go tu { s with f:=y } hex.2.1
     ·rw[if_neg c4]
      simp only[decide_eq_false c4,At]
      by_cases c5:c.toNat=113
      ·simp only[if_pos c5,decide_eq_true c5,Ab,Kf,A0g,Ua (n+1) _ l i m (show l.length < 1000000 by omega),A0]
       by_cases h:Bk l i [33,61]=true
       ·have hlt:=Dn h
        rw[if_pos h,h,Ab,A0,Bg i (by omega),hw]
        exact go (i+1) { s with ne:=true } hlt
       ·rw[if_neg h];rw[Bool.not_eq_true] at h
        rw[h,At]
        by_cases h':Bk l i [61,61]=true
        ·have hlt:=Dn h'
         simp only[if_pos h',A0,hw]
         exact go (i+1) { s with ne:=false } hlt
        ·simp only[if_neg h',A0,hw]
         exact⟨_,_,stop (i:Int) _ _ { s with ne:=false } hee⟩
      ·rw[if_neg c5]
       simp only[decide_eq_false c5,At,At2 pre cs c hp,Ase pre cs c hp,Ab,Ua (n+2) _ l i m (show l.length < 1000000 by omega),A0]
       by_cases h:Bk l i [c]=true
       ·have hlt:=Dn h
        simp only[if_pos h,hw]
        exact go (i+1) s hlt
       ·simp only[if_neg h,hw]
        exact⟨_,_,stop (i:Int) _ _ s hee⟩
def Bz:Mp:=[([115,107,105,112],1),([115,101,116],2),([108,111,97,100],3),([115,116,111,114,101],4),([99,97,115],5),([102,97,100,100],6),([120,99,104,103],7),([102,101,110,99,101],8),([97,119,97,105,116],9),([105,102],10),([119,104,105,108,101],11),([108,111,111,112],12),([98,114,101,97,107],13)]
def A7a (s:List UInt8):Int:=Bf Bz s 0
def Aw (l:List Tk) (i:Nat):Int:=match l[i]? with
 | some t=>if t.A9=1 then A7a t.Aa else 0
 | none=>0
def Bn (k:Int):List UInt8 :=
 if k=2 then [114,61,101,59] else if k=3 then [114,61,108,59] else if k=4 then [108,61,101,59] else if k=5 then [114,61,108,44,101,44,102,59]
 else if k=6 then [114,61,108,44,101,59] else if k=7 then [114,61,108,44,101,59] else if k=9 then [108,113,101,59] else if k=10 then [101] else if k=11 then [101] else if k=12 then [] else [59]
def Cy (k:Int):Bool:=k==10 || (k==11 || k==12)
theorem Aop (s:List UInt8):0≤A7a s∧A7a s≤13:=by
 unfold A7a Bz
 simp only[Bf]
 repeat' split
 all_goals omega
theorem A98 (l:List Tk) (i:Nat):0≤Aw l i∧Aw l i≤13:=by
 unfold Aw
 split
 ·split
  ·exact Aop _
  ·omega
 ·omega
theorem Cj {l:List Tk} {i:Nat} (h:Aw l i≠0):i < l.length:=by
 unfold Aw at h
 cases hg:l[i]? with
 | none=>rw[hg] at h;exact absurd rfl h
 | some t=>exact M2 hg
theorem Og {l:List Tk} {i:Nat} (h:Aw l i≠0) (s:List UInt8):Bk l i s=false:=by
 unfold Aw at h
 cases hg:l[i]? with
 | none=>rw[hg] at h;exact absurd rfl h
 | some t =>
  rw[hg] at h
  dsimp only at h
  by_cases hk:t.A9=1
  ·simp[Bk,hg,hk]
  ·rw[if_neg hk] at h;exact absurd rfl h
theorem Zs (k:Int):(Bn k).length < 10:=by unfold Bn;repeat' split
                                          all_goals decide
def Acq:List (List UInt8):=[[],[115,107,105,112],[115,101,116],[108,111,97,100],[115,116,111,114,101],[99,97,115],[102,97,100,100],[120,99,104,103],[102,101,110,99,101],[97,119,97,105,116],[105,102],[119,104,105,108,101],[108,111,111,112],[98,114,101,97,107]]
inductive SR where
 | ok (x:List St) (tu:Nat)
 | bad (e a:Int)
def Tv (x:List St):SR→SR
 | .ok y tu=>.ok (x++y) tu
 | .bad e a=>.bad e a
def La (l:List Tk) (i:Nat):Bool:=match l[i]? with
 | some t=>t.A9==1&&t.Aa==[101,108,115,101]
 | none=>false
def fs0:Fs:=⟨[],[],[],[],false⟩
def mkS (k:Int) (s:Fs) (b c:Nat) (a:Int):St:=⟨k,s.reg,s.loc,s.e,s.f,s.ne,(b:Int),(c:Int),a⟩
inductive SE (l:List Tk):Bool→Nat→Nat→SR→Prop
 | stop {inn i:Nat}:(l.length≤i∨Bk l i [125]=true)→SE l false inn i (.ok [] i)
 | no {inn i:Nat}:i < l.length→Bk l i [125]=false→Aw l i=0→SE l false inn i (.bad 5 (Bj l i))
 | fbad {inn i:Nat} {e a:Int}:Aw l i≠0→Ij l (exQ l) (Bn (Aw l i)) (i+1) fs0=.bad e a→SE l false inn i (.bad e a)
 | simple {inn i j:Nat} {s:Fs} {r:SR}:Aw l i≠0→Cy (Aw l i)=false→Ij l (exQ l) (Bn (Aw l i)) (i+1) fs0=.ok s j→SE l false inn j r→SE l false inn i (Tv [mkS (Aw l i) s 0 0 (Bj l i)] r)
 | bbad {inn i j:Nat} {s:Fs} {e a:Int}:Aw l i≠0→Cy (Aw l i)=true→Ij l (exQ l) (Bn (Aw l i)) (i+1) fs0=.ok s j→SE l true inn j (.bad e a)→SE l false inn i (.bad e a)
 | blk {inn i j j2:Nat} {s:Fs} {b:List St} {r:SR}:Aw l i≠0→Cy (Aw l i)=true→Ij l (exQ l) (Bn (Aw l i)) (i+1) fs0=.ok s j→SE l true inn j (.ok b j2)→(Aw l i=10→La l j2=false)→SE l false inn j2 r→SE l false inn i (Tv (mkS (Aw l i) s b.length 0 (Bj l i) :: b) r)
 | ebad {inn i j j2:Nat} {s:Fs} {b:List St} {e a:Int}:Aw l i=10→Ij l (exQ l) (Bn (Aw l i)) (i+1) fs0=.ok s j→SE l true inn j (.ok b j2)→La l j2=true→SE l true inn (j2+1) (.bad e a)→SE l false inn i (.bad e a)
 | els {inn i j j2 j3:Nat} {s:Fs} {b c:List St} {r:SR}:Aw l i=10→Ij l (exQ l) (Bn (Aw l i)) (i+1) fs0=.ok s j→SE l true inn j (.ok b j2)→La l j2=true→SE l true inn (j2+1) (.ok c j3)→SE l false inn j3 r→SE l false inn i (Tv (mkS (Aw l i) s b.length c.length (Bj l i) :: (b++c)) r)
 | nob {inn i:Nat}:Bk l i [123]=false→SE l true inn i (.bad (Gp l i) (Bj l i))
 | deep {inn i:Nat}:Bk l i [123]=true→30≤inn→SE l true inn i (.bad 7 (Bj l i))
 | sbad {inn i:Nat} {e a:Int}:Bk l i [123]=true→inn < 30→SE l false (inn+1) (i+1) (.bad e a)→SE l true inn i (.bad e a)
 | close {inn i j:Nat} {x:List St}:Bk l i [123]=true→inn < 30→SE l false (inn+1) (i+1) (.ok x j)→Bk l j [125]=true→SE l true inn i (.ok x (j+1))
 | opn {inn i j:Nat} {x:List St}:Bk l i [123]=true→inn < 30→SE l false (inn+1) (i+1) (.ok x j)→Bk l j [125]=false→SE l true inn i (.bad (Gp l j) (Bj l j))
def Mr (l:List Tk) (i d:Nat):SR→Prop
 | .ok x tu=>i+d≤tu∧tu≤l.length∧x.length+d≤tu - i
 | .bad e _=>e≠0
theorem H4 {T:Nat} {l:List Tk} (hk:Toks T l) {cs:List UInt8} {i j:Nat} {s s':Fs} (hi:i≤l.length) (h:Ij l (exQ l) cs i s=.ok s' j):i≤j∧j≤l.length:=by
 have:=A37 hk cs i s hi
 rw[h] at this;exact this
theorem Mh {l:List Tk} {i:Nat} (h:La l i=true):i < l.length:=by
 unfold La at h
 cases hg:l[i]? with
 | none=>rw[hg] at h;cases h
 | some t=>exact M2 hg
theorem Lh {T:Nat} {l:List Tk} (hk:Toks T l) {md:Bool} {inn i:Nat} {r:SR} (h:SE l md inn i r):i≤l.length→Mr l i (if md then 1 else 0) r:=by
 induction h with
 | stop h=>intro hi;exact⟨by simp,hi,by simp⟩
 | no h1 h2 h3=>intro hi;show(5:Int)≠0;decide
 | @fbad inn i e a h1 h2 =>
  intro hi
  have:=A37 hk (Bn (Aw l i)) (i+1) fs0 (Cj h1)
  rw[h2] at this;exact this
 | @simple inn i j s r h1 h2 h3 h4 ih =>
  intro hi
  have h5:=H4 hk (Cj h1) h3
  have h6:=ih h5.2
  cases r with
  | ok x tu=>simp only[Tv,Mr,Bool.false_eq_true,if_false,List.length_append,List.length_singleton] at h6 ⊢;omega
  | bad e a=>exact h6
 | bbad h1 h2 h3 h4 ih=>intro hi;exact ih (H4 hk (Cj h1) h3).2
 | @blk inn i j j2 s b r h1 h2 h3 h4 h5 h6 ih1 ih2 =>
  intro hi
  have h7:=H4 hk (Cj h1) h3
  have h8:=ih1 h7.2
  simp only[Mr,if_true] at h8
  have h9:=ih2 h8.2.1
  cases r with
  | ok x tu=>simp only[Tv,Mr,Bool.false_eq_true,if_false,List.length_append,List.length_cons] at h9 ⊢;omega
  | bad e a=>exact h9
 | @ebad inn i j j2 s b e a h1 h3 h4 h5 h6 ih1 ih2=>intro hi;exact ih2 (Mh h5)
 | @els inn i j j2 j3 s b c r h1 h3 h4 h5 h6 h7 ih1 ih2 ih3 =>
  intro hi
  have h10:Aw l i≠0:=by omega
  have h8:=H4 hk (Cj h10) h3
  have h9:=ih1 h8.2
  have h11:=ih2 (Mh h5)
  simp only[Mr,if_true] at h9 h11
  have h12:=ih3 h11.2.1
  cases r with
  | ok x tu=>simp only[Tv,Mr,Bool.false_eq_true,if_false,List.length_append,List.length_cons] at h12 ⊢;omega
  | bad e a=>exact h12
 | nob h=>intro hi;exact W7 l _
 | deep h1 h2=>intro hi;show(7:Int)≠0;decide
 | sbad h1 h2 h3 ih=>intro hi;exact ih (Dn h1)
 | close h1 h2 h3 h4 ih=>intro hi;have:=ih (Dn h1);have:=Dn h4;simp only[Mr,Bool.false_eq_true,if_false,if_true] at *;omega
 | opn h1 h2 h3 h4 ih=>intro hi;exact W7 l _
abbrev Ahz:=List St×Int×Int×Int
theorem Ais (n:Nat) (l:List Tk) (i:Nat) (a b:Int) (m:Mp):Dk (n+1) 1 [101,108,115,101] l (i:Int) a b m=some (La l i):=by
 rw[Dk]
 by_cases h:i < l.length
 ·rw[A6 (by omega),Cv h,A0,A0]
  unfold La
  rw[Ar h]
  dsimp only
  cases l[i].A9==1<;>simp
 ·rw[Ap (by omega)]
  unfold La
  rw[List.getElem?_eq_none (by omega)]
theorem At5 (n:Nat) {k:Int} (h0:0≤k) (h1:k≤13):∃ w,Me (n+2) k=some (if k=0 then(⟨[],[],false,false⟩,false) else(⟨w,Bn k,Cy k,k==10⟩,true)):=by
 have c:k=0∨k=1∨k=2∨k=3∨k=4∨k=5∨k=6∨k=7∨k=8∨k=9∨k=10∨k=11∨k=12∨k=13:=by omega
 rcases c with rfl | rfl | rfl | rfl | rfl | rfl | rfl | rfl | rfl | rfl | rfl | rfl | rfl | rfl<;>first | exact⟨[],rfl⟩ | exact⟨_,rfl⟩
theorem Atc {l:List Tk} {n i:Nat} {inn:Int} (hl:l.length < 1000000) (hi:i < l.length) (hk:Aw l i=0):Bv (n+5) inn l (i:Int) 0 0 Bz=some ([],(i:Int),5,Bj l i):=by
 have hd:decide ((i:Int) < ((l.length:Nat):Int))=true:=by simpa using hi
 have he:Gp l i=5:=by unfold Gp;rw[if_pos hi]
 obtain⟨w,hof⟩:=At5 (n+2) (k:=0) (by decide) (by decide)
 rw[if_pos rfl] at hof
 have hkk:=hk
 unfold Aw at hk
 rw[Ar hi] at hk
 dsimp only at hk
 rw[Bv,hd,Ab,Cv hi,A0]
 by_cases h1:l[i].A9=1
 ·rw[if_pos h1] at hk
  have hk:Bf Bz l[i].Aa 0=0:=hk
  rw[h1,beq_self_eq_true,Ab,A0,hk,hof,A0,At,A1n (n+2) l i Bz hl,he];rfl
 ·rw[show(l[i].A9==1)=false by rw[beq_eq_false_iff_ne];exact h1,At,show Qs (n+4)=some ⟨[],[],false,false⟩ from rfl,A0,A1n (n+2) l i Bz hl,he];rfl
theorem A4e {l:List Tk} {n:Nat} {inn i e a:Int} (m:Mp) (he:e≠0):C3 (n+2) inn l i e a m=some ([],i,e,a):=by
 rw[C3,C6,show(e==0)=false by rw[beq_eq_false_iff_ne];exact he];rfl
theorem Ak2 {l:List Tk} {n:Nat} {inn i e a:Int} (m:Mp) (he:e≠0):Bt (n+4) inn l i e a m=some ([],i,e,a):=by
 rw[Bt,show(e==0)=false by rw[beq_eq_false_iff_ne];exact he,At,R8 _ _ _ _ _ _ _ he,A0]
 dsimp only
 rw[A4e m he,A0]
 dsimp only
 rw[R8 _ _ _ _ _ _ _ he];rfl
noncomputable def Xz (n:Nat) (inn:Int) (l:List Tk) (K P:Int) (o:LR (Int×Int×Int×(List UInt8)×(List UInt8)×(List Nd)×(List Nd)×Bool) Ahz):Option Ahz:=match o with
 | .out (x73,x74,x75,x76,x77,x78,x79,x80) =>
  bif Cy K then((Bt n inn l x73 x74 x75 Bz).bind fun y82 =>
   bif K==10 then(bif y82.2.2.1==0 then((Dk n 1 [101,108,115,101] l y82.2.1 y82.2.2.1 y82.2.2.2 Bz).bind fun y86 =>
    bif y86 then((Bt n inn l (IntKind.i64.wrap (y82.2.1+1)) y82.2.2.1 y82.2.2.2 Bz).bind fun y89 =>
     (bif decide ((([(⟨K,x76,x77,x78,x79,x80,((y82.1.length:Nat):Int),((y89.1.length:Nat):Int),P⟩:St)]:List St).length+y82.1.length)*121≤140737488355328) then(bif decide (((([(⟨K,x76,x77,x78,x79,x80,((y82.1.length:Nat):Int),((y89.1.length:Nat):Int),P⟩:St)]:List St)++y82.1).length+y89.1.length)*121≤140737488355328) then some ((([(⟨K,x76,x77,x78,x79,x80,((y82.1.length:Nat):Int),((y89.1.length:Nat):Int),P⟩:St)]:List St)++y82.1)++y89.1,y89.2.1,y89.2.2.1,y89.2.2.2) else none) else none))
    else(bif decide ((([(⟨K,x76,x77,x78,x79,x80,((y82.1.length:Nat):Int),0,P⟩:St)]:List St).length+y82.1.length)*121≤140737488355328) then(bif decide (((([(⟨K,x76,x77,x78,x79,x80,((y82.1.length:Nat):Int),0,P⟩:St)]:List St)++y82.1).length+0)*121≤140737488355328) then some (([(⟨K,x76,x77,x78,x79,x80,((y82.1.length:Nat):Int),0,P⟩:St)]:List St)++y82.1,y82.2.1,y82.2.2.1,y82.2.2.2) else none) else none))
    else(bif decide ((([(⟨K,x76,x77,x78,x79,x80,((y82.1.length:Nat):Int),0,P⟩:St)]:List St).length+y82.1.length)*121≤140737488355328) then(bif decide (((([(⟨K,x76,x77,x78,x79,x80,((y82.1.length:Nat):Int),0,P⟩:St)]:List St)++y82.1).length+0)*121≤140737488355328) then some (([(⟨K,x76,x77,x78,x79,x80,((y82.1.length:Nat):Int),0,P⟩:St)]:List St)++y82.1,y82.2.1,y82.2.2.1,y82.2.2.2) else none) else none))
   else(bif decide ((([(⟨K,x76,x77,x78,x79,x80,((y82.1.length:Nat):Int),0,P⟩:St)]:List St).length+y82.1.length)*121≤140737488355328) then(bif decide (((([(⟨K,x76,x77,x78,x79,x80,((y82.1.length:Nat):Int),0,P⟩:St)]:List St)++y82.1).length+0)*121≤140737488355328) then some (([(⟨K,x76,x77,x78,x79,x80,((y82.1.length:Nat):Int),0,P⟩:St)]:List St)++y82.1,y82.2.1,y82.2.2.1,y82.2.2.2) else none) else none))
  else some ([(⟨K,x76,x77,x78,x79,x80,0,0,P⟩:St)],x73,x74,x75)
 | .ret v=>some v
theorem Aqn {K:Int} (h:Cy K=false):(K==10)=false:=by
 cases hq:K==10 with
 | false=>rfl
 | true=>rw[Cy,hq] at h;cases h
theorem Vv {l:List Tk} {n i:Nat} {inn:Int} (hl:l.length < 1000000) (h0:Aw l i≠0):∃ (t:Tk) (w:List UInt8),Bv (n+5) inn l (i:Int) 0 0 Bz=(B4 (n+4) l Bz t (⟨w,Bn (Aw l i),Cy (Aw l i),Aw l i==10⟩,true) (Bj l i) (n+4) 0 ((i+1:Nat):Int) 0 0 [] [] [] [] false).bind (Xz (n+4) inn l (Aw l i) (Bj l i)):=by
 have hi:=Cj h0
 have hd:decide ((i:Int) < ((l.length:Nat):Int))=true:=by simpa using hi
 obtain⟨k0,k1⟩:=A98 l i
 obtain⟨w,hof⟩:=At5 (n+2) k0 k1
 rw[if_neg h0] at hof
 have h1:l[i].A9=1:=by
  by_cases h:l[i].A9=1
  ·exact h
  ·unfold Aw at h0;rw[List.getElem?_eq_getElem hi] at h0;dsimp only at h0;rw[if_neg h] at h0;exact absurd rfl h0
 have hm:Bf Bz l[i].Aa 0=Aw l i:=by unfold Aw;rw[List.getElem?_eq_getElem hi];dsimp only;rw[if_pos h1];rfl
 refine⟨l[i],w,?_⟩
 rw[Bv,hd,Ab,Cv hi,A0,h1,beq_self_eq_true,Ab,A0,hm,hof,A0]
 dsimp only
 rw[Ab,A2x (n+3) l i _ _ _ Bz hl,A0,Bg i (by omega)]
 rw[show Te (n+4)=fun f=>f (n+3) from rfl]
 dsimp only
 congr 1
 funext o
 cases o with
 | ret v=>rfl
 | out x =>
  obtain⟨x73,x74,x75,x76,x77,x78,x79,x80⟩:=x
  dsimp only [Xz]
  cases hb:Cy (Aw l i) with
  | true=>rfl
  | false=>rw[Aqn hb];rfl
theorem Vu {T:Nat} {l:List Tk} (hk:Toks T l) {n i:Nat} (hn:12*l.length+T+900≤n) (hi:i≤l.length) (t:Tk) (w:List UInt8) (K P:Int) :
 match Ij l (exQ l) (Bn K) i fs0 with
 | .ok s j=>B4 n l Bz t (⟨w,Bn K,Cy K,K==10⟩,true) P n 0 (i:Int) 0 0 [] [] [] [] false=some (.out ((j:Int),0,0,s.reg,s.loc,s.e,s.f,s.ne))
 | .bad e a=>∃ (i':Int) (s:Fs),B4 n l Bz t (⟨w,Bn K,Cy K,K==10⟩,true) P n 0 (i:Int) 0 0 [] [] [] [] false=some (.out (i',e,a,s.reg,s.loc,s.e,s.f,s.ne)):=by
 have hf:=Zs K
 exact An5 hk hn Bz t (⟨w,Bn K,Cy K,K==10⟩,true) P (Bn K) [] i n fs0 (by rw[List.nil_append]) hi (by rw[List.nil_append];omega) (by omega)
theorem Pf {l:List Tk} {n k i:Nat} {inn:Int} {out X:List St} {p e a:Int} (h0:i < l.length) (h1:Bk l i [125]=false) (h:Bv (n+1) inn l (i:Int) 0 0 Bz=some (X,p,e,a)) (hs:out.length+X.length < 1000000000) :
 C6 (n+1) (Bv (n+1)) inn l Bz (k+1) (i:Int) 0 0 out=C6 (n+1) (Bv (n+1)) inn l Bz k p e a (out++X):=by
 rw[C6,beq_self_eq_true,Ab,A6 (by omega),A0g,h1,A0,At,h,A0]
 dsimp only
 rw[A6 (by omega)]
theorem A0i {l:List Tk} {n k:Nat} {inn p e a:Int} {out:List St} (he:e≠0):C6 n (Bv n) inn l Bz (k+1) p e a out=some (.out (p,e,a,out)):=by
 rw[C6,show(e==0)=false by rw[beq_eq_false_iff_ne];exact he,At]
theorem Auv {T:Nat} {l:List Tk} (hk:Toks T l) {md:Bool} {inn i:Nat} {r:SR} (h:SE l md inn i r):i≤l.length→inn≤30→match md with
 | false=>∀ (n k:Nat) (out:List St),12*l.length+T+900+6*(l.length - i)+20≤n→l.length - i+1 < k→out.length≤i→(match r with
   | .ok x tu=>C6 n (Bv n) (inn:Int) l Bz k (i:Int) 0 0 out=some (.out ((tu:Int),0,0,out++x))
   | .bad e a=>∃ (X:List St) (p:Int),C6 n (Bv n) (inn:Int) l Bz k (i:Int) 0 0 out=some (.out (p,e,a,X))∧X.length≤out.length+2*(l.length - i)+2)
 | true=>∀ n:Nat,12*l.length+T+900+6*(l.length - i)+24≤n→(match r with
   | .ok x tu=>Bt n (inn:Int) l (i:Int) 0 0 Bz=some (x,(tu:Int),0,0)
   | .bad e a=>∃ (X:List St) (p:Int),Bt n (inn:Int) l (i:Int) 0 0 Bz=some (X,p,e,a)∧X.length≤2*(l.length - i)+2):=by
 have hl:=hk.len
 induction h with
 | @stop inn i h1 =>
  intro hi hn n k out hf hkk ho
  obtain⟨k,rfl⟩:∃ j,k=j+1:=⟨k - 1,by omega⟩
  obtain⟨n,rfl⟩:∃ j,n=j+1:=⟨n - 1,by omega⟩
  show C6 _ _ _ _ _ _ _ _ _ _=some (LR.out ((i:Int),0,0,out++[]))
  rw[List.append_nil,C6,beq_self_eq_true,Ab]
  by_cases h2:i < l.length
  ·rw[A6 (by omega),A0g,(h1.resolve_left (by omega))];rfl
  ·rw[Ap (by omega)]
 | @no inn i h1 h2 h3 =>
  intro hi hn n k out hf hkk ho
  obtain⟨k,rfl⟩:∃ j,k=j+2:=⟨k - 2,by omega⟩
  obtain⟨n,rfl⟩:∃ j,n=j+5:=⟨n - 5,by omega⟩
  refine⟨out,(i:Int),?_,by omega⟩
  rw[Pf (n:=n+4) h1 h2 (Atc (by omega) h1 h3) (by simp;omega),A0i (by decide),List.append_nil]
 | @fbad inn i e a h1 h2 =>
  intro hi hn n k out hf hkk ho
  obtain⟨k,rfl⟩:∃ j,k=j+2:=⟨k - 2,by omega⟩
  obtain⟨n,rfl⟩:∃ j,n=j+10:=⟨n - 10,by omega⟩
  have hlt:=Cj h1
  have hne:e≠0:=by
   have:=A37 hk (Bn (Aw l i)) (i+1) fs0 hlt
   rw[h2] at this;exact this
  have hb:(e==0)=false:=by rw[beq_eq_false_iff_ne];exact hne
  obtain⟨t,w,ho1⟩:=Vv (n:=n+5) (inn:=(inn:Int)) (show l.length < 1000000 by omega) h1
  have hx:=Vu hk (n:=n+9) (by omega) hlt t w (Aw l i) (Bj l i)
  rw[h2] at hx
  obtain⟨i',s,hx⟩:=hx
  have h5:Bv (n+10) (inn:Int) l (i:Int) 0 0 Bz=some ([⟨Aw l i,s.reg,s.loc,s.e,s.f,s.ne,0,0,Bj l i⟩],i',e,a):=by
   rw[ho1,hx,A0]
   dsimp only [Xz]
   rw[Ak2 Bz hne]
   cases Cy (Aw l i)<;>cases (Aw l i==10)<;>simp[hb]
  refine⟨out++[⟨Aw l i,s.reg,s.loc,s.e,s.f,s.ne,0,0,Bj l i⟩],i',?_,?_⟩
  ·rw[Pf (n:=n+9) hlt (Og h1 _) h5 (by simp;omega),A0i hne]
  ·simp;omega
 | @simple inn i j s r h1 h2 h3 h4 ih =>
  intro hi hn n k out hf hkk ho
  obtain⟨k,rfl⟩:∃ j,k=j+1:=⟨k - 1,by omega⟩
  have h5:=H4 hk (Cj h1) h3
  have hlt:=Cj h1
  have h6:=ih h5.2 hn n k (out++[mkS (Aw l i) s 0 0 (Bj l i)]) (by omega) (by omega) (by simp;omega)
  obtain⟨n,rfl⟩:∃ j,n=j+10:=⟨n - 10,by omega⟩
  obtain⟨t,w,ho1⟩:=Vv (n:=n+5) (inn:=(inn:Int)) (show l.length < 1000000 by omega) h1
  have hx:=Vu hk (n:=n+9) (by omega) hlt t w (Aw l i) (Bj l i)
  rw[h3] at hx
  have hx:B4 (n+9) l Bz t _ (Bj l i) (n+9) 0 ((i+1:Nat):Int) 0 0 [] [] [] [] false=_:=hx
  have h7:Bv (n+10) (inn:Int) l (i:Int) 0 0 Bz=some ([mkS (Aw l i) s 0 0 (Bj l i)],(j:Int),0,0):=by
   rw[ho1,hx,A0]
   dsimp only [Xz]
   rw[h2];rfl
  rw[Pf (n:=n+9) hlt (Og h1 _) h7 (by simp;omega)]
  cases r with
  | ok x tu=>dsimp only [Tv] at h6 ⊢;rw[h6,List.append_assoc]
  | bad e a =>
   obtain⟨X,p,g1,g2⟩:=h6
   exact⟨X,p,g1,by simp at g2;omega⟩
 | @bbad inn i j s e a h1 h2 h3 h4 ih =>
  intro hi hn n k out hf hkk ho
  obtain⟨k,rfl⟩:∃ j,k=j+2:=⟨k - 2,by omega⟩
  have h5:=H4 hk (Cj h1) h3
  have hlt:=Cj h1
  have hne:e≠0:=Lh hk h4 h5.2
  have hb:(e==0)=false:=by rw[beq_eq_false_iff_ne];exact hne
  obtain⟨n,rfl⟩:∃ j,n=j+10:=⟨n - 10,by omega⟩
  obtain⟨X,p,g1,g2⟩:=ih h5.2 hn (n+9) (by omega)
  obtain⟨t,w,ho1⟩:=Vv (n:=n+5) (inn:=(inn:Int)) (show l.length < 1000000 by omega) h1
  have hx:=Vu hk (n:=n+9) (by omega) hlt t w (Aw l i) (Bj l i)
  rw[h3] at hx
  have hx:B4 (n+9) l Bz t _ (Bj l i) (n+9) 0 ((i+1:Nat):Int) 0 0 [] [] [] [] false=_:=hx
  have h7:Bv (n+10) (inn:Int) l (i:Int) 0 0 Bz=some (mkS (Aw l i) s X.length 0 (Bj l i) :: X,p,e,a):=by
   rw[ho1,hx,A0]
   dsimp only [Xz]
   rw[h2,Ab,g1,A0]
   dsimp only
   rw[hb,At,A6 (by simp;omega),A6 (by simp;omega)]
   cases (Aw l i==10)<;>rfl
  refine⟨out++(mkS (Aw l i) s X.length 0 (Bj l i) :: X),p,?_,?_⟩
  ·rw[Pf (n:=n+9) hlt (Og h1 _) h7 (by simp;omega),A0i hne]
  ·simp;omega
 | @blk inn i j j2 s b r h1 h2 h3 h4 h5 h6 ih1 ih2 =>
  intro hi hn n k out hf hkk ho
  obtain⟨k,rfl⟩:∃ j,k=j+1:=⟨k - 1,by omega⟩
  have h7:=H4 hk (Cj h1) h3
  have hlt:=Cj h1
  have h8:=Lh hk h4 h7.2
  simp only[Mr,if_true] at h8
  have h10:=ih2 h8.2.1 hn n k (out++(mkS (Aw l i) s b.length 0 (Bj l i) :: b)) (by omega) (by omega) (by simp;omega)
  obtain⟨n,rfl⟩:∃ j,n=j+10:=⟨n - 10,by omega⟩
  have g1:Bt (n+9) (inn:Int) l (j:Int) 0 0 Bz=some (b,(j2:Int),0,0):=ih1 h7.2 hn (n+9) (by omega)
  obtain⟨t,w,ho1⟩:=Vv (n:=n+5) (inn:=(inn:Int)) (show l.length < 1000000 by omega) h1
  have hx:=Vu hk (n:=n+9) (by omega) hlt t w (Aw l i) (Bj l i)
  rw[h3] at hx
  have hx:B4 (n+9) l Bz t _ (Bj l i) (n+9) 0 ((i+1:Nat):Int) 0 0 [] [] [] [] false=_:=hx
  have hel:(Aw l i==10)=true→La l j2=false:=fun h=>h5 (by simpa using h)
  have h9:Bv (n+10) (inn:Int) l (i:Int) 0 0 Bz=some (mkS (Aw l i) s b.length 0 (Bj l i) :: b,(j2:Int),0,0):=by
   rw[ho1,hx,A0]
   dsimp only [Xz]
   rw[h2,Ab,g1,A0]
   dsimp only
   rw[beq_self_eq_true,Ab,Ais,A0,A6 (by simp;omega),A6 (by simp;omega)]
   cases hq:Aw l i==10 with
   | true=>rw[hel hq];rfl
   | false=>rfl
  rw[Pf (n:=n+9) hlt (Og h1 _) h9 (by simp;omega)]
  cases r with
  | ok x tu=>dsimp only [Tv] at h10 ⊢;rw[h10,List.append_assoc]
  | bad e a =>
   obtain⟨X,p,q1,q2⟩:=h10
   exact⟨X,p,q1,by simp at q2;omega⟩
 | @ebad inn i j j2 s b e a h1 h3 h4 h5 h6 ih1 ih2 =>
  intro hi hn n k out hf hkk ho
  obtain⟨k,rfl⟩:∃ j,k=j+2:=⟨k - 2,by omega⟩
  have h0:Aw l i≠0:=by omega
  have h7:=H4 hk (Cj h0) h3
  have hlt:=Cj h0
  have hj:=Mh h5
  have h8:=Lh hk h4 h7.2
  simp only[Mr,if_true] at h8
  have hne:e≠0:=Lh hk h6 hj
  have hbl:Cy (Aw l i)=true:=by rw[h1];rfl
  have hq:(Aw l i==10)=true:=by rw[h1];rfl
  obtain⟨n,rfl⟩:∃ j,n=j+10:=⟨n - 10,by omega⟩
  have g1:Bt (n+9) (inn:Int) l (j:Int) 0 0 Bz=some (b,(j2:Int),0,0):=ih1 h7.2 hn (n+9) (by omega)
  obtain⟨X,p,g3,g4⟩:=ih2 hj hn (n+9) (by omega)
  obtain⟨t,w,ho1⟩:=Vv (n:=n+5) (inn:=(inn:Int)) (show l.length < 1000000 by omega) h0
  have hx:=Vu hk (n:=n+9) (by omega) hlt t w (Aw l i) (Bj l i)
  rw[h3] at hx
  have hx:B4 (n+9) l Bz t _ (Bj l i) (n+9) 0 ((i+1:Nat):Int) 0 0 [] [] [] [] false=_:=hx
  have h9:Bv (n+10) (inn:Int) l (i:Int) 0 0 Bz=some (mkS (Aw l i) s b.length X.length (Bj l i) :: (b++X),p,e,a):=by
   rw[ho1,hx,A0]
   dsimp only [Xz]
   rw[hbl,Ab,g1,A0]
   dsimp only
   rw[hq,Ab,beq_self_eq_true,Ab,Ais,h5,A0,Ab,Bg j2 (by omega),g3,A0]
   dsimp only
   rw[A6 (by simp;omega),A6 (by simp;omega)];rfl
  refine⟨out++(mkS (Aw l i) s b.length X.length (Bj l i) :: (b++X)),p,?_,?_⟩
  ·rw[Pf (n:=n+9) hlt (Og h0 _) h9 (by simp;omega),A0i hne]
  ·simp;omega
 | @els inn i j j2 j3 s b c r h1 h3 h4 h5 h6 h7 ih1 ih2 ih3 =>
  intro hi hn n k out hf hkk ho
  obtain⟨k,rfl⟩:∃ j,k=j+1:=⟨k - 1,by omega⟩
  have h0:Aw l i≠0:=by omega
  have h8:=H4 hk (Cj h0) h3
  have hlt:=Cj h0
  have hj:=Mh h5
  have h9:=Lh hk h4 h8.2
  simp only[Mr,if_true] at h9
  have h9':=Lh hk h6 hj
  simp only[Mr,if_true] at h9'
  have h12:=ih3 h9'.2.1 hn n k (out++(mkS (Aw l i) s b.length c.length (Bj l i) :: (b++c))) (by omega) (by omega) (by simp;omega)
  have hbl:Cy (Aw l i)=true:=by rw[h1];rfl
  have hq:(Aw l i==10)=true:=by rw[h1];rfl
  obtain⟨n,rfl⟩:∃ j,n=j+10:=⟨n - 10,by omega⟩
  have g1:Bt (n+9) (inn:Int) l (j:Int) 0 0 Bz=some (b,(j2:Int),0,0):=ih1 h8.2 hn (n+9) (by omega)
  have g3:Bt (n+9) (inn:Int) l ((j2+1:Nat):Int) 0 0 Bz=some (c,(j3:Int),0,0):=ih2 hj hn (n+9) (by omega)
  obtain⟨t,w,ho1⟩:=Vv (n:=n+5) (inn:=(inn:Int)) (show l.length < 1000000 by omega) h0
  have hx:=Vu hk (n:=n+9) (by omega) hlt t w (Aw l i) (Bj l i)
  rw[h3] at hx
  have hx:B4 (n+9) l Bz t _ (Bj l i) (n+9) 0 ((i+1:Nat):Int) 0 0 [] [] [] [] false=_:=hx
  have h10:Bv (n+10) (inn:Int) l (i:Int) 0 0 Bz=some (mkS (Aw l i) s b.length c.length (Bj l i) :: (b++c),(j3:Int),0,0):=by
   rw[ho1,hx,A0]
   dsimp only [Xz]
   rw[hbl,Ab,g1,A0]
   dsimp only
   rw[hq,Ab,beq_self_eq_true,Ab,Ais,h5,A0,Ab,Bg j2 (by omega),g3,A0]
   dsimp only
   rw[A6 (by simp;omega),A6 (by simp;omega)];rfl
  rw[Pf (n:=n+9) hlt (Og h0 _) h10 (by simp;omega)]
  cases r with
  | ok x tu=>dsimp only [Tv] at h12 ⊢;rw[h12,List.append_assoc]
  | bad e a =>
   obtain⟨X,p,q1,q2⟩:=h12
   exact⟨X,p,q1,by simp at q2;omega⟩
 | @nob inn i h1 =>
  intro hi hn n hf
  obtain⟨n,rfl⟩:∃ j,n=j+6:=⟨n - 6,by omega⟩
  refine⟨[],(i:Int),?_,by simp⟩
  have hs:Bi (n+5) [123] l (i:Int) 0 0 Bz=some ((i:Int),Gp l i,Bj l i):=by rw[Ua (n+2) _ l i Bz (by omega),if_neg (by rw[h1];decide)]
  rw[Bt,beq_self_eq_true,Ab,A0g,h1,A0,At,hs,A0]
  dsimp only
  rw[A4e Bz (W7 l i),A0]
  dsimp only
  rw[R8 _ _ _ _ _ _ _ (W7 l i)];rfl
 | @deep inn i h1 h2 =>
  intro hi hn n hf
  obtain⟨n,rfl⟩:∃ j,n=j+6:=⟨n - 6,by omega⟩
  refine⟨[],(i:Int),?_,by simp⟩
  have h7:(7:Int)≠0:=by decide
  rw[Bt,beq_self_eq_true,Ab,A0g,h1,A0,Ab,A6 (by omega),A2x (n+4) l i _ _ _ Bz (by omega),A0,R8 _ _ _ _ _ _ _ h7,A0]
  dsimp only
  rw[A4e Bz h7,A0]
  dsimp only
  rw[R8 _ _ _ _ _ _ _ h7];rfl
 | @sbad inn i e a h1 h2 h3 ih =>
  intro hi hn n hf
  have hlt:=Dn h1
  obtain⟨n,rfl⟩:∃ j,n=j+6:=⟨n - 6,by omega⟩
  have hne:e≠0:=Lh hk h3 hlt
  have hs:Bi (n+5) [123] l (i:Int) 0 0 Bz=some (((i+1:Nat):Int),0,0):=by rw[Ua (n+2) _ l i Bz (by omega),if_pos h1]
  obtain⟨X,p,g1,g2⟩:=ih hlt (by omega) (n+4) (n+4) [] (by omega) (by omega) (by simp)
  have h5:C3 (n+5) ((inn+1:Nat):Int) l ((i+1:Nat):Int) 0 0 Bz=some (X,p,e,a):=by rw[C3,g1];rfl
  refine⟨X,p,?_,by simp at g2;omega⟩
  rw[Bt,beq_self_eq_true,Ab,A0g,h1,A0,Ab,Ap (by omega),hs,A0]
  dsimp only
  rw[Bg inn (by omega),h5,A0]
  dsimp only
  rw[R8 _ _ _ _ _ _ _ hne];rfl
 | @close inn i j x h1 h2 h3 h4 ih =>
  intro hi hn n hf
  have hlt:=Dn h1
  obtain⟨n,rfl⟩:∃ j,n=j+6:=⟨n - 6,by omega⟩
  have hs:Bi (n+5) [123] l (i:Int) 0 0 Bz=some (((i+1:Nat):Int),0,0):=by rw[Ua (n+2) _ l i Bz (by omega),if_pos h1]
  have hs2:Bi (n+5) [125] l (j:Int) 0 0 Bz=some (((j+1:Nat):Int),0,0):=by rw[Ua (n+2) _ l j Bz (by omega),if_pos h4]
  have g1:=ih hlt (by omega) (n+4) (n+4) [] (by omega) (by omega) (by simp)
  dsimp only at g1
  have h5:C3 (n+5) ((inn+1:Nat):Int) l ((i+1:Nat):Int) 0 0 Bz=some (x,(j:Int),0,0):=by rw[C3,g1];rfl
  show Bt (n+6) _ _ _ _ _ _=_
  rw[Bt,beq_self_eq_true,Ab,A0g,h1,A0,Ab,Ap (by omega),hs,A0]
  dsimp only
  rw[Bg inn (by omega),h5,A0]
  dsimp only
  rw[hs2];rfl
 | @opn inn i j x h1 h2 h3 h4 ih =>
  intro hi hn n hf
  have hlt:=Dn h1
  have h8:=Lh hk h3 hlt
  simp only[Mr,Bool.false_eq_true,if_false] at h8
  obtain⟨n,rfl⟩:∃ j,n=j+6:=⟨n - 6,by omega⟩
  have hs:Bi (n+5) [123] l (i:Int) 0 0 Bz=some (((i+1:Nat):Int),0,0):=by rw[Ua (n+2) _ l i Bz (by omega),if_pos h1]
  have hs2:Bi (n+5) [125] l (j:Int) 0 0 Bz=some ((j:Int),Gp l j,Bj l j):=by rw[Ua (n+2) _ l j Bz (by omega),if_neg (by rw[h4];decide)]
  have g1:=ih hlt (by omega) (n+4) (n+4) [] (by omega) (by omega) (by simp)
  dsimp only at g1
  have h5:C3 (n+5) ((inn+1:Nat):Int) l ((i+1:Nat):Int) 0 0 Bz=some (x,(j:Int),0,0):=by rw[C3,g1];rfl
  refine⟨x,(j:Int),?_,by omega⟩
  rw[Bt,beq_self_eq_true,Ab,A0g,h1,A0,Ab,Ap (by omega),hs,A0]
  dsimp only
  rw[Bg inn (by omega),h5,A0]
  dsimp only
  rw[hs2];rfl
theorem Amn {T:Nat} {l:List Tk} (hk:Toks T l):∀ (m i inn:Nat) (md:Bool),l.length - i≤m→i≤l.length→inn≤30→∃ r,SE l md inn i r:=by
 intro m
 induction m with
 | zero =>
  intro i inn md hm hi hn
  have hs:∀ s,Bk l i s=false:=fun s=>by
   cases h:Bk l i s with
   | false=>rfl
   | true=>have:=Dn h;omega
  cases md with
  | false=>exact⟨_,.stop (.inl (by omega))⟩
  | true=>exact⟨_,.nob (hs _)⟩
 | succ m ih =>
  intro i inn md hm hi hn
  cases md with
  | true =>
   cases h:Bk l i [123] with
   | false=>exact⟨_,.nob h⟩
   | true =>
    by_cases h30:30≤inn
    ·exact⟨_,.deep h h30⟩
    ·have hlt:=Dn h
     obtain⟨r,hr⟩:=ih (i+1) (inn+1) false (by omega) hlt (by omega)
     cases r with
     | bad e a=>exact⟨_,.sbad h (by omega) hr⟩
     | ok x j =>
      cases h2:Bk l j [125] with
      | true=>exact⟨_,.close h (by omega) hr h2⟩
      | false=>exact⟨_,.opn h (by omega) hr h2⟩
  | false =>
   by_cases hlt:i < l.length
   ·cases h:Bk l i [125] with
    | true=>exact⟨_,.stop (.inr h)⟩
    | false =>
     by_cases h0:Aw l i=0
     ·exact⟨_,.no hlt h h0⟩
     ·cases hf:Ij l (exQ l) (Bn (Aw l i)) (i+1) fs0 with
      | bad e a=>exact⟨_,.fbad h0 hf⟩
      | ok s j =>
       have hj:=H4 hk (by omega) hf
       cases hb:Cy (Aw l i) with
       | false =>
        obtain⟨r,hr⟩:=ih j inn false (by omega) hj.2 hn
        exact⟨_,.simple h0 hb hf hr⟩
       | true =>
        obtain⟨r,hr⟩:=ih j inn true (by omega) hj.2 hn
        cases r with
        | bad e a=>exact⟨_,.bbad h0 hb hf hr⟩
        | ok b j2 =>
         have hj2:=Lh hk hr hj.2
         simp only[Mr,if_true] at hj2
         by_cases he:Aw l i=10∧La l j2=true
         ·have hj3:=Mh he.2
          obtain⟨r3,hr3⟩:=ih (j2+1) inn true (by omega) hj3 hn
          cases r3 with
          | bad e a=>exact⟨_,.ebad he.1 hf hr he.2 hr3⟩
          | ok c j4 =>
           have hj4:=Lh hk hr3 hj3
           simp only[Mr,if_true] at hj4
           obtain⟨r5,hr5⟩:=ih j4 inn false (by omega) hj4.2.1 hn
           exact⟨_,.els he.1 hf hr he.2 hr3 hr5⟩
         ·obtain⟨r5,hr5⟩:=ih j2 inn false (by omega) hj2.2.1 hn
          refine⟨_,.blk h0 hb hf hr (fun hq=>?_) hr5⟩
          cases hx:La l j2 with
          | false=>rfl
          | true=>exact absurd ⟨hq,hx⟩ he
   ·exact⟨_,.stop (.inl (by omega))⟩
def A2g:List Bl:=match K3 1 with | some y=>y | none=>[]
theorem Aqy (n k:Nat):Kl n A2g (k+15) 0 []=some (.out Bz):=by rfl
def U7 (l:List Tk) (i:Nat):SR→Ahz
 | .bad e a=>([],0,e,a)
 | .ok x tu=>if 200 < x.length then([],0,2,Bj l i) else(x,(tu:Int),0,0)
theorem A7k (s:List UInt8) (hs:s.length≤90000):Toks s.length (Qx s):=by
 obtain⟨h1,h2⟩:=Zi s
 refine⟨by omega,fun t ht=>(h1 t ht).1,fun t ht=>?_,by omega⟩
 have h3:=h1 t ht
 have h4:=h3.1.1
 omega
inductive SF where
 | nil
 | cons (x:St) (a b r:SF)
def SF.flat:SF→List St
 | .nil=>[]
 | .cons x a b r=>x :: (a.flat++(b.flat++r.flat))
def SF.wf:SF→Prop
 | .nil=>True
 | .cons x a b r=>x.Ax=(a.flat.length:Int)∧x.Co=(b.flat.length:Int)∧a.wf∧b.wf∧r.wf
def SF.dep:SF→Nat
 | .nil=>0
 | .cons x a b r=>max (if Cy x.A9 then max (1+a.dep) (1+b.dep) else 0) r.dep
def dF:Nat→List St→Option Nat
 | 0,_=>none
 | _+1,[]=>some 0
 | m+1,x :: t=>if 0≤x.Ax∧0≤x.Co∧x.Ax+x.Co≤(t.length:Int) then
    (dF m (t.take x.Ax.toNat)).bind fun p=>(dF m ((t.drop x.Ax.toNat).take x.Co.toNat)).bind fun q=>(dF m (t.drop (x.Ax.toNat+x.Co.toNat))).bind fun z=>some (max (if Cy x.A9 then max (1+p) (1+q) else 0) z)
  else none
theorem Vo:∀ (F:SF) (m:Nat),F.wf→F.flat.length < m→dF m F.flat=some F.dep
 | .nil,m,_,h=>by
  obtain⟨m,rfl⟩:∃ j,m=j+1:=⟨m - 1,by omega⟩
  rfl
 | .cons x a b r,m,h,hm=>by
  obtain⟨m,rfl⟩:∃ j,m=j+1:=⟨m - 1,by omega⟩
  obtain⟨h1,h2,ha,hb,hr⟩:=h
  rw[SF.flat] at hm ⊢
  simp only[List.length_cons,List.length_append] at hm
  rw[dF,if_pos ⟨by omega,by omega,by rw[h1,h2];simp only[List.length_append];omega⟩,h1,h2]
  have e1:(a.flat++(b.flat++r.flat)).take ((a.flat.length:Nat):Int).toNat=a.flat:=by simp
  have e2:(a.flat++(b.flat++r.flat)).drop ((a.flat.length:Nat):Int).toNat=b.flat++r.flat:=by simp
  have e3:(b.flat++r.flat).take ((b.flat.length:Nat):Int).toNat=b.flat:=by simp
  have e4:(a.flat++(b.flat++r.flat)).drop (((a.flat.length:Nat):Int).toNat+((b.flat.length:Nat):Int).toNat)=r.flat:=by
   rw[← List.drop_drop,e2];simp
  rw[e1,e2,e3,e4,Vo a m ha (by omega),Vo b m hb (by omega),Vo r m hr (by omega)]
  rfl
theorem Au4:∀ (m:Nat) (l:List St) (z:Nat),dF m l=some z→∃ F:SF,F.wf∧F.flat=l∧F.dep=z:=by
 intro m
 induction m with
 | zero=>intro l z h;cases h
 | succ m ih =>
  intro l z h
  cases l with
  | nil=>rw[dF] at h;cases h;exact⟨.nil,trivial,rfl,rfl⟩
  | cons x t =>
   rw[dF] at h
   by_cases c:0≤x.Ax∧0≤x.Co∧x.Ax+x.Co≤(t.length:Int)
   ·rw[if_pos c] at h
    obtain⟨p,h1,h⟩:=Option.bind_eq_some_iff.1 h
    obtain⟨q,h2,h⟩:=Option.bind_eq_some_iff.1 h
    obtain⟨r,h3,h⟩:=Option.bind_eq_some_iff.1 h
    obtain⟨A,a1,a2,a3⟩:=ih _ _ h1
    obtain⟨B,b1,b2,b3⟩:=ih _ _ h2
    obtain⟨R,r1,r2,r3⟩:=ih _ _ h3
    have hA:A.flat.length=x.Ax.toNat:=by rw[a2,List.length_take];omega
    have hB:B.flat.length=x.Co.toNat:=by rw[b2,List.length_take,List.length_drop];omega
    refine⟨.cons x A B R,⟨by omega,by omega,a1,b1,r1⟩,?_,?_⟩
    ·rw[SF.flat,a2,b2,r2,← List.drop_drop,List.take_append_drop,List.take_append_drop]
    ·rw[SF.dep,a3,b3,r3];exact Option.some.inj h
   ·rw[if_neg c] at h;cases h
def seg (l:List St) (i j:Nat):List St:=(l.take j).drop i
theorem Arp {l:List St} {i j:Nat} (h:j≤l.length):(seg l i j).length=j - i:=by unfold seg;rw[List.length_drop,List.length_take];omega
theorem Aoy {l:List St} {i j:Nat} (h:i < j) (hj:j≤l.length):seg l i j=(l[i]'(by omega)) :: seg l (i+1) j:=by
 unfold seg
 rw[List.drop_eq_getElem_cons (by rw[List.length_take];omega),List.getElem_take]
theorem An0 {l:List St} {i j:Nat} (h:j≤i):seg l i j=[]:=by
 unfold seg;exact List.drop_of_length_le (by rw[List.length_take];omega)
theorem Abp {l:List St} {i j k:Nat} (h:i+k≤j):(seg l i j).take k=seg l i (i+k):=by
 unfold seg;rw[List.take_drop,List.take_take];congr 2;omega
theorem Aet {l:List St} {i j k:Nat}:(seg l i j).drop k=seg l (i+k) j:=by
 unfold seg;rw[List.drop_drop]
theorem Ag0 (n:Nat) (k:Int):Nj (n+1) k=some (Cy k):=by
 rw[Nj,Cy]
 cases k==10<;>cases k==11<;>cases k==12<;>rfl
def A4w:Option Nat→Int
 | some z=>(z:Int)
 | none=> -1
theorem Asi (a p q:Nat):A02 (a:Int) ((1+p:Nat):Int) ((1+q:Nat):Int)=((max a (max (1+p) (1+q)):Nat):Int):=by
 unfold A02;repeat' split
 all_goals omega
theorem Aut (l:List St) (hl:l.length < 1000000):∀ (m i j n k a:Nat),m≤1000001→i≤j→j≤l.length→j - i < m→3*m+10≤n→m≤k→a≤1000001 →
 match dF m (seg l i j) with
 | some z=>z < m∧Cf n (Ft n) l (j:Int) l k (i:Int) (a:Int)=some (.out ((max a z:Nat):Int))
 | none=>∃ d,Cf n (Ft n) l (j:Int) l k (i:Int) (a:Int)=some (.ret (false,d)):=by
 intro m
 induction m with
 | zero=>intro i j n k a _ _ _ h;omega
 | succ m ih =>
  intro i j n k a hmm hij hj hm hn hk ha
  obtain⟨k,rfl⟩:∃ q,k=q+1:=⟨k - 1,by omega⟩
  by_cases c:i < j
  ·rw[Aoy c hj,dF,Cf,A6 (by omega),Cv (show i < l.length by omega),A0]
   have hx:l[i]?=some (l[i]'(by omega)):=Ar (by omega)
   generalize l[i]'(by omega)=x at *
   have hw:IntKind.i64.wrap (IntKind.i64.wrap ((j:Int) - (i:Int)) - 1)=((j - i - 1:Nat):Int):=by
    rw[Dd (show -9223372036854775808≤(j:Int) - (i:Int)∧_ by omega),Dd (by omega)];omega
   rw[Arp hj,hw]
   by_cases h1:x.Ax < 0
   ·rw[A6 h1,if_neg (by omega)];exact⟨_,rfl⟩
   rw[Ap h1]
   by_cases h2:x.Co < 0
   ·rw[A6 h2,if_neg (by omega)];exact⟨_,rfl⟩
   rw[Ap h2]
   by_cases h3:((j - i - 1:Nat):Int) < x.Ax
   ·rw[A6 h3,if_neg (by omega)];exact⟨_,rfl⟩
   rw[Ap h3,Dd (show -9223372036854775808≤((j - i - 1:Nat):Int) - x.Ax∧_ by omega)]
   by_cases h4:((j - i - 1:Nat):Int) - x.Ax < x.Co
   ·rw[A6 h4,if_neg (by omega)];exact⟨_,rfl⟩
   rw[Ap h4,if_pos ⟨by omega,by omega,by omega⟩]
   obtain⟨B,hB⟩:∃ B:Nat,x.Ax=B:=⟨x.Ax.toNat,by omega⟩
   obtain⟨E,hE⟩:∃ E:Nat,x.Co=E:=⟨x.Co.toNat,by omega⟩
   rw[hB] at h3
   rw[hB,hE] at h4 ⊢
   have w1:IntKind.i64.wrap (IntKind.i64.wrap ((i:Int)+1)+(B:Int))=((i+1+B:Nat):Int):=by
    rw[Dd (show -9223372036854775808≤(i:Int)+1∧_ by omega),Dd (by omega)];omega
   have w2:IntKind.i64.wrap (((i+1+B:Nat):Int)+(E:Int))=((i+1+B+E:Nat):Int):=by rw[Dd (by omega)];omega
   rw[w1,w2]
   simp only[Int.toNat_natCast]
   rw[Abp (by omega),Aet,Abp (by omega),Aet]
   obtain⟨n,rfl⟩:∃ q,n=q+3:=⟨n - 3,by omega⟩
   have dep:∀ p q:Nat,p≤q→q≤j→i < p→K0 (n+2) l (p:Int) (q:Int)=some (A4w (dF m (seg l p q)))∧(∀ z,dF m (seg l p q)=some z→z < m):=by
    intro p q hp hq hi
    have:=ih p q n n 0 (by omega) hp (by omega) (by omega) (by omega) (by omega) (by omega)
    rw[K0,Gh]
    cases hd:dF m (seg l p q) with
    | some z =>
     rw[hd] at this
     obtain⟨z1,z2⟩:=this
     rw[show((0:Nat):Int)=0 from rfl] at z2
     rw[z2]
     refine⟨?_,fun z' hz=>by cases hz;exact z1⟩
     simp[A4w]
    | none =>
     rw[hd] at this
     obtain⟨d,h⟩:=this
     rw[show((0:Nat):Int)=0 from rfl] at h
     rw[h];exact⟨rfl,fun z hz=>by cases hz⟩
   obtain⟨d1,z1⟩:=dep (i+1) (i+1+B) (by omega) (by omega) (by omega)
   obtain⟨d2,z2⟩:=dep (i+1+B) (i+1+B+E) (by omega) (by omega) (by omega)
   rw[Ft,show IntKind.i64.wrap ((i:Int)+1)=((i+1:Nat):Int) by rw[Dd (by omega)];omega,d1,A0,d2,A0,Cz hx,A0,Ag0,A0]
   cases hp:dF m (seg l (i+1) (i+1+B)) with
   | none =>
    simp only[A4w,Option.bind_none]
    cases Cy x.A9<;>exact⟨_,rfl⟩
   | some p =>
   have hpm:=z1 p hp
   cases hq:dF m (seg l (i+1+B) (i+1+B+E)) with
   | none =>
    simp only[A4w,Option.bind_none,A0]
    have:((p:Int) != -1)=true:=by rw[bne_iff_ne];omega
    cases Cy x.A9<;>simp only[this]<;>exact⟨_,rfl⟩
   | some q =>
   have hqm:=z2 q hq
   simp only[A4w,A0]
   have e1:((p:Int) != -1)=true:=by rw[bne_iff_ne];omega
   have e2:((q:Int) != -1)=true:=by rw[bne_iff_ne];omega
   have w3:IntKind.i64.wrap (1+(p:Int))=((1+p:Nat):Int):=by rw[Dd (by omega)];omega
   have w4:IntKind.i64.wrap (1+(q:Int))=((1+q:Nat):Int):=by rw[Dd (by omega)];omega
   rw[e1,e2,w3,w4,Asi]
   simp only[Ab]
   have fin:∀ u:Nat,u≤1000001→(∀ z,z < m→max u z=max a (max (if Cy x.A9=true then max (1+p) (1+q) else 0) z))→match (dF m (seg l (i+1+B+E) j)).bind fun z=>some (max (if Cy x.A9=true then max (1+p) (1+q) else 0) z) with
    | some z=>z < m+1∧Cf (n+3) (Ft (n+3)) l (j:Int) l k ((i+1+B+E:Nat):Int) (u:Int)=some (.out ((max a z:Nat):Int))
    | none=>∃ d,Cf (n+3) (Ft (n+3)) l (j:Int) l k ((i+1+B+E:Nat):Int) (u:Int)=some (.ret (false,d)):=by
    intro u hu hz
    have:=ih (i+1+B+E) j (n+3) k u (by omega) (by omega) hj (by omega) (by omega) (by omega) hu
    cases hr:dF m (seg l (i+1+B+E) j) with
    | none=>rw[hr] at this;exact this
    | some z =>
     rw[hr] at this
     dsimp only at this
     refine⟨?_,by rw[this.2,hz z this.1]⟩
     have:=this.1
     split<;>omega
   rw[show i+1+(B+E)=i+1+B+E by omega]
   cases hb:Cy x.A9 with
   | true =>
    rw[hb] at fin
    exact fin (max a (max (1+p) (1+q))) (by omega) (fun z _=>by simp only[if_true];omega)
   | false =>
    rw[hb] at fin
    exact fin a ha (fun z _=>by simp only[Bool.false_eq_true,if_false];omega)
  ·rw[An0 (by omega),dF,Cf,Ap (by omega)]
   exact⟨by omega,by rw[Nat.max_eq_left (by omega)]⟩
theorem Ar6 (l:List St) (hl:l.length < 1000) {n:Nat} (hn:4000≤n):Po n l=some (A4w (dF (l.length+1) l)):=by
 obtain⟨n,rfl⟩:∃ q,n=q+3:=⟨n - 3,by omega⟩
 have:=Aut l (by omega) (l.length+1) 0 l.length n n 0 (by omega) (by omega) (by omega) (by omega) (by omega) (by omega) (by omega)
 have e:seg l 0 l.length=l:=by unfold seg;simp
 rw[e] at this
 rw[Po,K0,Gh]
 cases hd:dF (l.length+1) l with
 | some z =>
  rw[hd] at this
  rw[show(0:Int)=((0:Nat):Int) from rfl,this.2];simp[A4w]
 | none =>
  rw[hd] at this
  obtain⟨d,h⟩:=this
  rw[show(0:Int)=((0:Nat):Int) from rfl,h];rfl
def I6 (f:List UInt8) (c:Int):Bool:=f.any fun b=>(b.toNat:Int)==c
theorem Ajb (n:Nat) (k:Bl) (c:Int) (h:k.f_form.length < 100) (hn:102 < n):Er n k c=some (I6 k.f_form c):=by
 obtain⟨n,rfl⟩:∃ j,n=j+1:=⟨n - 1,by omega⟩
 have:Fd n k c n 0=bif k.f_form.any (fun b=>(b.toNat:Int)==c) then some (.ret true) else some (.out ()):=by
  refine Aok k.f_form (fun q i=>Fd n k c q (i:Int)) _ (fun q=>?_) (fun q i x hi hx=>?_) (by omega)
  ·rw[Fd,Ap (by omega)]
  ·rw[Fd,A6 (by omega),Cz hx,A0,Bg i (by omega)]
 rw[Er,this]
 unfold I6
 cases k.f_form.any (fun b=>(b.toNat:Int)==c)<;>rfl
def N6 (k:Int):List UInt8:=Acq.getD k.toNat []
theorem Ajj (n:Nat) {k:Int} (h:1≤k∧k≤13):Me (n+2) k=some (⟨N6 k,Bn k,Cy k,k==10⟩,true):=by
 have c:k=1∨k=2∨k=3∨k=4∨k=5∨k=6∨k=7∨k=8∨k=9∨k=10∨k=11∨k=12∨k=13:=by omega
 rcases c with rfl | rfl | rfl | rfl | rfl | rfl | rfl | rfl | rfl | rfl | rfl | rfl | rfl<;>rfl
theorem At7 (n:Nat) {k:Int} (h:¬ (1≤k∧k≤13)):Me (n+2) k=some (⟨[],[],false,false⟩,false):=by
 rw[Me,show K3 (n+1)=some A2g from rfl,A0]
 by_cases c:k < 1
 ·rw[A6 c]
 ·rw[Ap c,A6 (show((A2g.length:Nat):Int)≤k by have:A2g.length=14:=rfl;omega)]
theorem Am5 (n:Nat) (l:List Nd) (hl:l.length < 100000) (hn:l.length+30 < n):Jv n l=some (Kn l&&Dx l):=by
 obtain⟨n,rfl⟩:∃ j,n=j+1:=⟨n - 1,by omega⟩
 have hf:(l.filter Fa).length≤l.length:=List.length_filter_le ..
 rw[Jv,A7p n l (by omega) (by omega),A0]
 have:=A9h (F:=fun k i=>Fo n (l.filter Fa) k i) (l.filter Fa) (fun k i h=>by rw[Fo,Ap (by omega)]) (fun k i y hi hy=>by rw[Fo,A6 (by omega),Cz hy,A0,Bg i (by omega)]) (l.filter Fa).length 0 n (by omega) (by omega)
 rw[show((0:Nat):Int)=0 from rfl] at this
 rw[this,A0,List.drop_zero,T7 n l (by omega) (by omega)]
 unfold Kn
 by_cases c:(l.filter Fa).all (fun y=>y.As==2)=true
 ·rw[if_pos c,c];rfl
 ·rw[if_neg c];rw[Bool.not_eq_true] at c;rw[c];rfl
def fN (f:List UInt8) (c:Int) (s:List UInt8):Bool:=if I6 f c then C9 s else s==[]
def fL (f:List UInt8) (c:Int) (l:List Nd):Bool:=if I6 f c then Kn l&&Dx l else(l.length:Int)==0
def D7 (x:St):Bool:=decide (1≤x.A9∧x.A9≤13)&&(!decide (x.Ao < 0)&&((!x.Fp || I6 (Bn x.A9) 113)&&(fN (Bn x.A9) 114 x.Eu&&(fN (Bn x.A9) 108 x.Ev&&(fL (Bn x.A9) 101 x.Ct&&(fL (Bn x.A9) 102 x.Ih&&((Cy x.A9 || x.Ax==0)&&(x.A9==10 || x.Co==0))))))))
theorem Agt (n:Nat) (c:Int) (s w f:List UInt8) (b m:Bool) (hf:f.length < 100) (hn:104 < n):Jg n c s w f b m=some (fN f c s):=by
 obtain⟨n,rfl⟩:∃ j,n=j+1:=⟨n - 1,by omega⟩
 rw[Jg,Ajb n _ c hf (by omega)]
 simp only[A0]
 have hs:Dg n s=some (C9 s):=by
  obtain⟨n,rfl⟩:∃ j,n=j+1:=⟨n - 1,by omega⟩
  simp only[Dg]
 rw[hs]
 unfold fN
 cases I6 f c with
 | false=>rfl
 | true=>simp only[Ab,A0,if_true];cases C9 s<;>rfl
theorem Agx (n:Nat) (c:Int) (l:List Nd) (w f:List UInt8) (b m:Bool) (hf:f.length < 100) (hl:l.length < 100000) (hn:104 < n) (hn2:l.length+40 < n):Jd n c l w f b m=some (fL f c l):=by
 obtain⟨n,rfl⟩:∃ j,n=j+1:=⟨n - 1,by omega⟩
 rw[Jd,Ajb n _ c hf (by omega)]
 simp only[A0]
 rw[Am5 n l hl (by omega)]
 unfold fL
 cases I6 f c with
 | false=>rfl
 | true=>simp only[Ab,A0,if_true];cases (Kn l&&Dx l)<;>rfl
theorem As3 (n:Nat) (x:St) (h1:x.Ct.length < 100000) (h2:x.Ih.length < 100000) (hn:110 < n) (hn1:x.Ct.length+50 < n) (hn2:x.Ih.length+50 < n):Qo n x=some (D7 x):=by
 obtain⟨n,rfl⟩:∃ j,n=j+3:=⟨n - 3,by omega⟩
 have hfl:(Bn x.A9).length < 100:=by have:=Zs x.A9;omega
 rw[Qo]
 by_cases c:1≤x.A9∧x.A9≤13
 ·rw[Ajj n c,A0]
  unfold D7
  rw[decide_eq_true c]
  dsimp only
  rw[Ab,Ajb (n+2) _ 113 hfl (by omega),Agt (n+2) 114 _ _ _ _ _ hfl (by omega),Agt (n+2) 108 _ _ _ _ _ hfl (by omega),Agx (n+2) 101 _ _ _ _ _ hfl h1 (by omega) (by omega),Agx (n+2) 102 _ _ _ _ _ hfl h2 (by omega) (by omega)]
  simp only[A0]
  cases decide (x.Ao < 0) with
  | true=>rfl
  | false =>
  cases x.Fp with
  | true =>
   simp only[Ab,At,Bool.not_true,Bool.not_false,Bool.true_and,Bool.false_or]
   cases I6 (Bn x.A9) 113<;>cases fN (Bn x.A9) 114 x.Eu<;>cases fN (Bn x.A9) 108 x.Ev<;>cases fL (Bn x.A9) 101 x.Ct<;>cases fL (Bn x.A9) 102 x.Ih<;>cases Cy x.A9<;>cases x.Ax==0<;>cases x.A9==10<;>rfl
  | false =>
   simp only[Ab,At,Bool.not_true,Bool.not_false,Bool.true_and,Bool.true_or]
   cases fN (Bn x.A9) 114 x.Eu<;>cases fN (Bn x.A9) 108 x.Ev<;>cases fL (Bn x.A9) 101 x.Ct<;>cases fL (Bn x.A9) 102 x.Ih<;>cases Cy x.A9<;>cases x.Ax==0<;>cases x.A9==10<;>rfl
 ·rw[At7 n c,A0]
  unfold D7
  rw[decide_eq_false c];rfl
def Ah2 (l:List St):Prop:=∀ x ∈ l,x.Ct.length≤250∧x.Ih.length≤250
def Jk (l:List St):Bool:=match dF (l.length+1) l with
 | some z=>!decide (30 < z)&&(!decide (200 < l.length)&&l.all D7)
 | none=>false
theorem Adc (n:Nat) (l:List St) (hl:l.length < 1000) (hx:Ah2 l) (hn:5000 < n):Nq n l=some (Jk l):=by
 obtain⟨n,rfl⟩:∃ j,n=j+1:=⟨n - 1,by omega⟩
 rw[Nq,Ar6 l hl (by omega),A0]
 unfold Jk
 have hL:Hu n l n 0=bif l.all D7 then some (.out ()) else some (.ret false):=by
  refine Re l (fun q i=>Hu n l q (i:Int)) _ (fun q=>?_) (fun q i x hi hx'=>?_) (by omega)
  ·rw[Hu,Ap (by omega)]
  ·have:=hx x (List.mem_of_getElem? hx')
   rw[Hu,A6 (by omega),Cz hx',A0,As3 n x (by omega) (by omega) (by omega) (by omega) (by omega),A0,Bg i (by omega)]
 rw[hL]
 cases dF (l.length+1) l with
 | none=>rfl
 | some z =>
  show(bif ((z:Int)== -1) then some false else(bif decide (30 < (z:Int)) then some false else(bif decide (200 < ((l.length:Nat):Int)) then some false else _)))=some (!decide (30 < z)&&(!decide (200 < l.length)&&l.all D7))
  rw[show((z:Int)== -1)=false by rw[beq_eq_false_iff_ne];omega,At]
  by_cases c1:30 < z
  ·rw[A6 (by omega),decide_eq_true c1];rfl
  ·rw[Ap (by omega),decide_eq_false c1]
   by_cases c2:200 < l.length
   ·rw[A6 (by omega),decide_eq_true c2];rfl
   ·rw[Ap (by omega),decide_eq_false c2]
    cases l.all D7<;>rfl
theorem Ux {l:List St} (h:Jk l=true):∃ F:SF,F.wf∧F.flat=l∧F.dep≤30∧l.length≤200∧∀ x ∈ l,D7 x=true:=by
 unfold Jk at h
 cases hd:dF (l.length+1) l with
 | none=>rw[hd] at h;cases h
 | some z =>
  rw[hd] at h
  simp only[A7,Bool.not_eq_true',decide_eq_false_iff_not,List.all_eq_true] at h
  obtain⟨F,f1,f2,f3⟩:=Au4 _ _ _ hd
  exact⟨F,f1,f2,by omega,by omega,h.2.2⟩
theorem Aiz {F:SF} (h:F.wf) (hd:F.dep≤30) (hl:F.flat.length≤200) (hx:∀ x ∈ F.flat,D7 x=true):Jk F.flat=true:=by
 unfold Jk
 rw[Vo F _ h (by omega)]
 simp only[A7,Bool.not_eq_true',decide_eq_false_iff_not,List.all_eq_true]
 exact⟨by omega,by omega,hx⟩
def SF.app:SF→SF→SF
 | .nil,G=>G
 | .cons x a b r,G=>.cons x a b (r.app G)
theorem A6s {l:List Nd} (h:l.all Df=true):J8 l:=by
 have nl:∀ {w:List UInt8},C9 w=true→w.length≤16:=fun h=>by
  obtain⟨_,_,_,_,_,h⟩:=Ni h;exact h
 intro x hx
 have hk:=List.all_eq_true.1 h x hx
 refine⟨hk,?_⟩
 by_cases c1:x.As=1
 ·obtain⟨a,b⟩:=A3t hk c1
  rw[a,b];simp
 by_cases c2:x.As=2∨x.As=3
 ·obtain⟨a,b⟩:=A3u hk c2
  obtain⟨n1,_⟩:=Q7 hk (by omega) c1
  have:=nl n1
  rw[b];simp;omega
 by_cases c4:x.As=4
 ·obtain⟨n1,n2⟩:=Q7 hk (by omega) c1
  have:=nl n1;have:=nl (n2 c4);omega
 ·simp only[Df,A7] at hk
  rw[if_neg c1,if_neg c2,if_neg c4] at hk
  simp only[A7,beq_iff_eq] at hk
  rw[hk.2.2.1,hk.2.2.2];simp
def I0 (l:List Nd):List UInt8:=(E9 2000 l).getD []
theorem A48 {l:List Nd} (h:Dx l=true):∃ t:Tr,t.wf∧t.flat=l∧l.length≤200∧t.dep≤30∧J8 t.flat∧I0 l=Eg t false∧(I0 l).length≤8000∧∀ n,1000 < n→E9 n l=some (I0 l):=by
 obtain⟨t,t1,t2,t3,t4,t5,t6,t7⟩:=Tz h
 subst t2
 have hno:=A6s t6
 have hs:=fun n (hn:1000 < n)=>Aks t1 hno t3 h (n:=n) hn
 have e:I0 t.flat=Eg t false:=by unfold I0;rw[hs 2000 (by omega)];rfl
 have:=Afi t false t1 hno
 exact⟨t,t1,rfl,t3,t4,hno,e,by rw[e];omega,fun n hn=>by rw[hs n hn,e]⟩
theorem A9j (n:Nat) (hn:1000 < n):E9 n []=some (I0 []):=by
 have h:∀ n,1000 < n→E9 n []=some []:=fun n hn=>by
  obtain⟨n,rfl⟩:∃ j,n=j+1:=⟨n - 1,by omega⟩
  rw[E9,T7 n [] (by simp) (by simp;omega)];rfl
 rw[h n hn];unfold I0;rw[h 2000 (by omega)];rfl
def N3 (x:St) (c:UInt8):List UInt8 :=
 if c.toNat=114 then 32 :: x.Eu else if c.toNat=108 then 32 :: x.Ev else if c.toNat=101 then 32 :: I0 x.Ct else if c.toNat=102 then 32 :: I0 x.Ih
 else if c.toNat=113 then(if x.Fp then [32,33,61] else [32,61,61]) else if c.toNat=61 then [32,61] else [c]
def A6g (x:St):List UInt8:=N6 x.A9++(Bn x.A9).flatMap (N3 x)
def R1:List UInt8:=[114,108,101,102,113,61,59,44]
theorem Q0 (k:Int):∀ c ∈ Bn k,c ∈ R1:=by
 unfold Bn;repeat' split
 all_goals decide
structure A19 (x:St):Prop where
 e:∀ n,1000 < n→E9 n x.Ct=some (I0 x.Ct)
 f:∀ n,1000 < n→E9 n x.Ih=some (I0 x.Ih)
 le:(I0 x.Ct).length≤8000
 lf:(I0 x.Ih).length≤8000
 lr:x.Eu.length≤16
 ll:x.Ev.length≤16
theorem A17 {x:St} (h:D7 x=true):A19 x:=by
 have nl:∀ {w:List UInt8},C9 w=true→w.length≤16:=fun h=>by
  obtain⟨_,_,_,_,_,h⟩:=Ni h;exact h
 simp only[D7,A7] at h
 obtain⟨_,_,_,h1,h2,h3,h4,_⟩:=h
 have hN:∀ {c:Int} {s:List UInt8},fN (Bn x.A9) c s=true→s.length≤16:=by
  intro c s hs
  unfold fN at hs
  split at hs
  ·exact nl hs
  ·rw[beq_iff_eq] at hs;rw[hs];simp
 have hL:∀ {c:Int} {l:List Nd},fL (Bn x.A9) c l=true→(∀ n,1000 < n→E9 n l=some (I0 l))∧(I0 l).length≤8000:=by
  intro c l hs
  unfold fL at hs
  split at hs
  ·rw[A7] at hs
   obtain⟨t,_,_,_,_,_,_,g1,g2⟩:=A48 hs.2
   exact⟨g2,g1⟩
  ·rw[beq_iff_eq] at hs
   obtain rfl:l=[]:=List.length_eq_zero_iff.1 (by omega)
   refine⟨fun n hn=>A9j n hn,?_⟩
   have:=A9j 2000 (by omega)
   rw[show E9 2000 []=some [] by
    rw[E9,T7 1999 [] (by simp) (by simp)];rfl] at this
   rw[← Option.some.inj this];simp
 exact⟨(hL h3).1,(hL h4).1,(hL h3).2,(hL h4).2,hN h1,hN h2⟩
theorem Ad1 {x:St} (h:A19 x) (c:UInt8):(N3 x c).length≤8001:=by
 have:=h.le;have:=h.lf;have:=h.lr;have:=h.ll
 unfold N3
 repeat' split
 all_goals simp
 all_goals omega
theorem A9b {x:St} (h:A19 x):∀ cs:List UInt8,(cs.flatMap (N3 x)).length≤8001*cs.length
 | []=>by simp
 | c :: cs=>by
  have:=Ad1 h c;have:=A9b h cs
  rw[List.flatMap_cons,List.length_append,List.length_cons];omega
theorem Ae3 (k:Int):(N6 k).length≤5:=by
 have:∀ w ∈ Acq,w.length≤5:=by decide
 unfold N6
 rw[List.getD_eq_getElem?_getD]
 cases h:Acq[k.toNat]? with
 | none=>simp
 | some w=>exact this w (List.mem_of_getElem? h)
theorem Ace {x:St} (h:A19 x):(A6g x).length≤80100:=by
 have:=A9b h (Bn x.A9);have:=Zs x.A9;have:=Ae3 x.A9
 rw[A6g,List.length_append];omega
theorem Atd {x:St} (h:A19 x) {n:Nat} (hn:1000 < n) (y:Bl×Bool):∀ (cs pre:List UInt8) (k:Nat) (s:List UInt8),y.1.f_form=pre++cs→(∀ c ∈ cs,c ∈ R1)→(pre++cs).length < 100→cs.length < k→s.length+9000*cs.length < 100000000 →
 Dw n x y k s (pre.length:Int) x.Fp=some (.out (s++cs.flatMap (N3 x),x.Fp)):=by
 intro cs
 induction cs with
 | nil =>
  intro pre k s hf _ hl hk hs
  obtain⟨k,rfl⟩:∃ j,k=j+1:=⟨k - 1,by omega⟩
  rw[Dw,hf,Ap (by simp)];simp
 | cons c cs ih =>
  intro pre k s hf hc hl hk hs
  obtain⟨k,rfl⟩:∃ j,k=j+1:=⟨k - 1,by omega⟩
  have hle:=h.le;have hlf:=h.lf;have hlr:=h.lr;have hll:=h.ll
  rw[List.length_cons] at hs hk
  have hget:idx (pre++c :: cs) (pre.length:Int)=some c:=A7n pre cs c
  have hlt:(pre.length:Int) < (((pre++c :: cs).length:Nat):Int):=by simp;omega
  have next:∀ u:List UInt8,u=N3 x c→Dw n x y k (s++u) (IntKind.i64.wrap ((pre.length:Int)+1)) x.Fp=some (.out (s++(c :: cs).flatMap (N3 x),x.Fp)):=by
   intro u hu
   have hu2:=Ad1 h c
   have:=ih (pre++[c]) k (s++u) (by rw[hf];simp) (fun d hd=>hc d (List.mem_cons_of_mem _ hd)) (by simpa using hl) (by omega) (by rw[List.length_append,hu];omega)
   rw[Bg pre.length (by simp at hl;omega)]
   rw[List.length_append,List.length_singleton] at this
   rw[this,List.flatMap_cons,hu,List.append_assoc]
  have hcc:=hc c (List.mem_cons_self ..)
  rw[Dw,hf,A6 hlt,hget,A0,h.e n hn,h.f n hn]
  simp only[A0]
  have b1:(([32]:List UInt8)).length+x.Eu.length≤140737488355328:=by simp;omega
  have b2:s.length+(([32]:List UInt8)++x.Eu).length≤140737488355328:=by simp;omega
  have b3:(([32]:List UInt8)).length+x.Ev.length≤140737488355328:=by simp;omega
  have b4:s.length+(([32]:List UInt8)++x.Ev).length≤140737488355328:=by simp;omega
  have b5:(([32]:List UInt8)).length+(I0 x.Ct).length≤140737488355328:=by simp;omega
  have b6:s.length+(([32]:List UInt8)++I0 x.Ct).length≤140737488355328:=by simp;omega
  have b7:(([32]:List UInt8)).length+(I0 x.Ih).length≤140737488355328:=by simp;omega
  have b8:s.length+(([32]:List UInt8)++I0 x.Ih).length≤140737488355328:=by simp;omega
  have b9:∀ u:List UInt8,u.length≤5→s.length+u.length≤140737488355328:=fun u hu=>by omega
  simp only[R1,List.mem_cons,List.not_mem_nil,or_false] at hcc
  rcases hcc with rfl | rfl | rfl | rfl | rfl | rfl | rfl | rfl
  ·rw[A6 b1,A6 b2];exact next _ rfl
  ·rw[A6 b3,A6 b4];exact next _ rfl
  ·rw[A6 b5,A6 b6];exact next _ rfl
  ·rw[A6 b7,A6 b8];exact next _ rfl
  ·rw[A6 (b9 [32,33,61] (by decide)),A6 (b9 [32,61,61] (by decide))]
   have hp:N3 x 113=if x.Fp then [32,33,61] else [32,61,61]:=rfl
   cases hne:x.Fp with
   | true =>
    rw[hne,if_pos rfl] at hp
    have:=next _ hp.symm
    rw[hne] at this;exact this
   | false =>
    rw[hne,if_neg (by simp)] at hp
    have:=next _ hp.symm
    rw[hne] at this;exact this
  ·rw[A6 (b9 [32,61] (by decide))];exact next _ rfl
  ·rw[A6 (b9 [UInt8.ofNat (IntKind.i32.wrap (((59:UInt8).toNat:Nat):Int)).toNat] (by simp))];exact next _ rfl
  ·rw[A6 (b9 [UInt8.ofNat (IntKind.i32.wrap (((44:UInt8).toNat:Nat):Int)).toNat] (by simp))];exact next _ rfl
theorem Asf {x:St} (h:D7 x=true) {n:Nat} (hn:1200 < n):Qg n x=some (A6g x):=by
 obtain⟨n,rfl⟩:∃ j,n=j+3:=⟨n - 3,by omega⟩
 have hp:=A17 h
 have hk:1≤x.A9∧x.A9≤13:=by
  simp only[D7,A7,B3] at h;exact h.1
 have hfl:=Zs x.A9;have hwl:=Ae3 x.A9
 have:=Atd hp (n:=n+2) (by omega) (⟨N6 x.A9,Bn x.A9,Cy x.A9,x.A9==10⟩,true) (Bn x.A9) [] (n+2) (N6 x.A9) rfl (Q0 _) (by simp;omega) (by omega) (by omega)
 rw[Qg,Ajj n hk,A0]
 have this:Dw (n+2) x (⟨N6 x.A9,Bn x.A9,Cy x.A9,x.A9==10⟩,true) (n+2) (N6 x.A9) 0 x.Fp=_:=this
 dsimp only
 rw[this];rfl
def Sr (d:Nat):List UInt8:=List.replicate (2*d) 32
theorem Au9 (n d:Nat) (hd:d < 100000):∀ (m i k:Nat) (s:List UInt8),d - i≤m→m < k→i≤d→s.length≤2*i→Jp n (d:Int) k s (i:Int)=some (.out (s++Sr (d - i))):=by
 intro m
 induction m with
 | zero =>
  intro i k s h hk hi hs
  obtain⟨k,rfl⟩:∃ j,k=j+1:=⟨k - 1,by omega⟩
  rw[Jp,Ap (by omega),show d - i=0 by omega];simp[Sr]
 | succ m ih =>
  intro i k s h hk hi hs
  obtain⟨k,rfl⟩:∃ j,k=j+1:=⟨k - 1,by omega⟩
  by_cases c:i < d
  ·rw[Jp,A6 (by omega),A6 (show s.length+([32,32]:List UInt8).length≤140737488355328 by simp;omega),Bg i (by omega),ih (i+1) k _ (by omega) (by omega) (by omega) (by simp;omega)]
   obtain⟨q,hq⟩:∃ q,d - i=q+1:=⟨d - i - 1,by omega⟩
   rw[hq,show d - (i+1)=q by omega,List.append_assoc]
   unfold Sr
   rw[show 2*(q+1)=2*q+1+1 by omega,List.replicate_succ,List.replicate_succ];rfl
  ·rw[Jp,Ap (by omega),show d - i=0 by omega];simp[Sr]
theorem Aua (n d:Nat) (hd:d < 100000) (hn:d+2 < n):O3 n (d:Int)=some (Sr d):=by
 obtain⟨n,rfl⟩:∃ j,n=j+1:=⟨n - 1,by omega⟩
 have:=Au9 n d hd d 0 n [] (by omega) (by omega) (by omega) (by simp)
 rw[O3,show(0:Int)=((0:Nat):Int) from rfl,this];rfl
def Ii:SF→Nat→List UInt8
 | .nil,_=>[]
 | .cons x a b r,d=>(Sr d++A6g x)++((if Cy x.A9 then(([32,123,10]++Ii a (d+1))++Sr d)++((if b.flat=[] then [] else([125,32,101,108,115,101,32,123,10]++Ii b (d+1))++Sr d)++[125]) else [])++([10]++Ii r d))
theorem Rr:∀ (F:SF) (d:Nat),(∀ x ∈ F.flat,D7 x=true)→d+F.flat.length≤1000→(Ii F d).length≤100000*F.flat.length
 | .nil,d,_,_=>by simp[Ii]
 | .cons x a b r,d,h,hd=>by
  rw[SF.flat] at h hd ⊢
  simp only[List.length_cons,List.length_append] at hd ⊢
  have h1:=Ace (A17 (h x (List.mem_cons_self ..)))
  have ha:=Rr a (d+1) (fun y hy=>h y (by simp[hy])) (by omega)
  have hb:=Rr b (d+1) (fun y hy=>h y (by simp[hy])) (by omega)
  have hr:=Rr r d (fun y hy=>h y (by simp[hy])) (by omega)
  have hp:(Sr d).length≤2000:=by simp[Sr];omega
  rw[Ii]
  cases Cy x.A9 with
  | false=>simp;omega
  | true =>
   by_cases c:b.flat=[]
   ·simp[c];omega
   ·simp[c];omega
theorem A5c:∀ (F:SF) (pre post:List St) (n k d:Nat) (s:List UInt8),F.wf→(∀ x ∈ F.flat,D7 x=true)→(pre++(F.flat++post)).length < 1000→3*F.flat.length+1300≤n→F.flat.length < k→d+F.flat.length≤1000→s.length+100000*F.flat.length≤1000000000 →
 D8 n (Je n) (pre++(F.flat++post)) ((pre.length+F.flat.length:Nat):Int) (d:Int) (pre++(F.flat++post)) k (pre.length:Int) s=some (.out (s++Ii F d))
 | .nil,pre,post,n,k,d,s,_,_,_,_,hk,_,_=>by
  obtain⟨k,rfl⟩:∃ j,k=j+1:=⟨k - 1,by omega⟩
  rw[D8,Ap (by simp[SF.flat])];simp[Ii]
 | .cons x a b r,pre,post,n,k,d,s,hw,hx,hl,hn,hk,hd,hs=>by
  obtain⟨k,rfl⟩:∃ j,k=j+1:=⟨k - 1,by omega⟩
  obtain⟨n,rfl⟩:∃ j,n=j+3:=⟨n - 3,by omega⟩
  obtain⟨w1,w2,wa,wb,wr⟩:=hw
  have hfx:=hx x (by simp[SF.flat])
  have hxa:∀ y ∈ a.flat,D7 y=true:=fun y hy=>hx y (by simp[SF.flat,hy])
  have hxb:∀ y ∈ b.flat,D7 y=true:=fun y hy=>hx y (by simp[SF.flat,hy])
  have hxr:∀ y ∈ r.flat,D7 y=true:=fun y hy=>hx y (by simp[SF.flat,hy])
  have hF:(SF.cons x a b r).flat.length=1+a.flat.length+b.flat.length+r.flat.length:=by simp[SF.flat];omega
  have hlen:(pre++((SF.cons x a b r).flat++post)).length=pre.length+(1+a.flat.length+b.flat.length+r.flat.length+post.length):=by simp only[List.length_append,hF]
  rw[hlen] at hl
  rw[hF] at hn hk hd hs
  have hget:(pre++((SF.cons x a b r).flat++post))[pre.length]?=some x:=by
   rw[List.getElem?_append_right (Nat.le_refl _),Nat.sub_self];rfl
  have la:=Rr a (d+1) hxa (by omega)
  have lb:=Rr b (d+1) hxb (by omega)
  have lh:=Ace (A17 hfx)
  have lp:(Sr d).length≤2000:=by simp[Sr];omega
  have ea:pre++((SF.cons x a b r).flat++post)=(pre++[x])++(a.flat++(b.flat++(r.flat++post))):=by simp[SF.flat]
  have eb:pre++((SF.cons x a b r).flat++post)=(pre++x :: a.flat)++(b.flat++(r.flat++post)):=by simp[SF.flat]
  have er:pre++((SF.cons x a b r).flat++post)=(pre++x :: (a.flat++b.flat))++(r.flat++post):=by simp[SF.flat]
  have ga:Im (n+2) (pre++((SF.cons x a b r).flat++post)) ((pre.length+1:Nat):Int) ((pre.length+1+a.flat.length:Nat):Int) ((d+1:Nat):Int)=some (Ii a (d+1)):=by
   have:=A5c a (pre++[x]) (b.flat++(r.flat++post)) n n (d+1) [] wa hxa (by rw[← ea,hlen];exact hl) (by omega) (by omega) (by omega) (by simp;omega)
   rw[← ea] at this
   simp only[List.length_append,List.length_singleton] at this
   rw[Im,Fc,this];rfl
  have gb:Im (n+2) (pre++((SF.cons x a b r).flat++post)) ((pre.length+1+a.flat.length:Nat):Int) ((pre.length+1+a.flat.length+b.flat.length:Nat):Int) ((d+1:Nat):Int)=some (Ii b (d+1)):=by
   have:=A5c b (pre++x :: a.flat) (r.flat++post) n n (d+1) [] wb hxb (by rw[← eb,hlen];exact hl) (by omega) (by omega) (by omega) (by simp;omega)
   rw[← eb] at this
   simp only[List.length_append,List.length_cons] at this
   rw[show pre.length+(a.flat.length+1)=pre.length+1+a.flat.length by omega] at this
   rw[Im,Fc,this];rfl
  have gr:∀ u:List UInt8,u.length+100000*r.flat.length≤1000000000→D8 (n+3) (Je (n+3)) (pre++((SF.cons x a b r).flat++post)) ((pre.length+(SF.cons x a b r).flat.length:Nat):Int) (d:Int) (pre++((SF.cons x a b r).flat++post)) k ((pre.length+1+a.flat.length+b.flat.length:Nat):Int) u=some (.out (u++Ii r d)):=by
   intro u hu
   have:=A5c r (pre++x :: (a.flat++b.flat)) post (n+3) k d u wr hxr (by rw[← er,hlen];exact hl) (by omega) (by omega) (by omega) hu
   rw[← er] at this
   simp only[List.length_append,List.length_cons] at this
   rw[show pre.length+(a.flat.length+b.flat.length+1)=pre.length+1+a.flat.length+b.flat.length by omega] at this
   rw[show pre.length+(SF.cons x a b r).flat.length=pre.length+1+a.flat.length+b.flat.length+r.flat.length by rw[hF];omega]
   exact this
  have v1:IntKind.i64.wrap ((pre.length:Int)+1)=((pre.length+1:Nat):Int):=by rw[Dd (by omega)];omega
  have v2:IntKind.i64.wrap (((pre.length+1:Nat):Int)+((a.flat.length:Nat):Int))=((pre.length+1+a.flat.length:Nat):Int):=by rw[Dd (by omega)];omega
  have v3:IntKind.i64.wrap (((pre.length+1+a.flat.length:Nat):Int)+((b.flat.length:Nat):Int))=((pre.length+1+a.flat.length+b.flat.length:Nat):Int):=by rw[Dd (by omega)];omega
  have v4:IntKind.i64.wrap ((d:Int)+1)=((d+1:Nat):Int):=by rw[Dd (by omega)];omega
  have v5:IntKind.i64.wrap (IntKind.i64.wrap (((pre.length+(SF.cons x a b r).flat.length:Nat):Int) - (pre.length:Int)) - 1)=((a.flat.length+b.flat.length+r.flat.length:Nat):Int):=by
   rw[hF,Dd (show -9223372036854775808≤((pre.length+(1+a.flat.length+b.flat.length+r.flat.length):Nat):Int) - (pre.length:Int)∧_ by omega),Dd (by omega)];omega
  have v6:IntKind.i64.wrap (((a.flat.length+b.flat.length+r.flat.length:Nat):Int) - ((a.flat.length:Nat):Int))=((b.flat.length+r.flat.length:Nat):Int):=by rw[Dd (by omega)];omega
  rw[D8,A6 (by rw[hF];omega),Cz hget,A0,w1,w2,Ap (by omega),Ap (by omega),v5,Ap (by omega),v6,Ap (by omega),v1,v2,v3]
  rw[Je,Aua (n+2) d (by omega) (by omega),A0,Cz hget,A0,Asf hfx (by omega),A0,A0,Ag0,A0,v1,v4,ga]
  simp only[A0]
  rw[gb]
  simp only[A0,List.length_append,List.length_cons,List.length_nil]
  rw[A6 (by omega),A6 (by omega)]
  rw[Ii]
  cases hb:Cy x.A9 with
  | false =>
   simp only[At,Bool.false_eq_true,if_false]
   rw[A6 (by omega),A0]
   dsimp only
   rw[Ab,gr _ (by simp;omega)]
   simp
  | true =>
   simp only[Ab,if_true]
   rw[A6 (by omega),A6 (by omega),A6 (by omega)]
   by_cases c:b.flat=[]
   ·have c':b.flat.length=0:=by rw[c];rfl
    rw[Ap (by omega),A6 (by omega),A6 (by omega),A0]
    dsimp only
    rw[Ab,gr _ (by simp;omega),if_pos c]
    simp
   ·have c':b.flat.length≠0:=fun e=>c (List.length_eq_zero_iff.1 e)
    rw[A6 (by omega),A6 (by omega),A6 (by omega),A6 (by omega),A6 (by omega),A6 (by omega),A0]
    dsimp only
    rw[Ab,gr _ (by simp;omega),if_neg c]
    simp
theorem Arq {F:SF} (hw:F.wf) (hr:Jk F.flat=true) (d n:Nat) (hd:d≤100) (hn:6000 < n):Ms n F.flat (d:Int)=some (Ii F d):=by
 obtain⟨n,rfl⟩:∃ j,n=j+3:=⟨n - 3,by omega⟩
 obtain⟨_,_,_,_,hl,hx⟩:=Ux hr
 have hlen:Ah2 F.flat:=by
  intro x hx'
  have h:=hx x hx'
  simp only[D7,A7] at h
  obtain⟨_,_,_,_,_,h3,h4,_⟩:=h
  have hL:∀ {c:Int} {l:List Nd},fL (Bn x.A9) c l=true→l.length≤250:=by
   intro c l hs
   unfold fL at hs
   split at hs
   ·rw[A7] at hs
    obtain⟨t,_,_,t3,_⟩:=Tz hs.2
    omega
   ·rw[beq_iff_eq] at hs;omega
  exact⟨hL h3,hL h4⟩
 have:=A5c F [] [] n n d [] hw hx (by simp;omega) (by omega) (by omega) (by omega) (by simp;omega)
 simp only[List.nil_append,List.append_nil,List.length_nil,Nat.zero_add] at this
 rw[Ms,Ap (by omega),Ap (by omega),Adc (n+2) F.flat (by omega) hlen (by omega),A0,hr,Ab,Im,Fc,show(0:Int)=((0:Nat):Int) from rfl,this]
 rfl
open Classical in
noncomputable def trE (l:List Nd):Tr:=if h:∃ t:Tr,t.wf∧t.flat=l then h.choose else .leaf ⟨0,0,[],[],0⟩
theorem Abr {l:List Nd} (h:Dx l=true):(trE l).wf∧(trE l).flat=l∧l.length≤200∧(trE l).dep≤30∧J8 l∧I0 l=Eg (trE l) false:=by
 obtain⟨t,t1,t2,t3,t4,t5,t6,t7⟩:=Tz h
 have hx:∃ t:Tr,t.wf∧t.flat=l:=⟨t,t1,t2⟩
 have e:trE l=hx.choose:=by unfold trE;rw[dif_pos hx]
 have hs:=hx.choose_spec
 rw[← e] at hs
 generalize trE l=u at *
 obtain⟨u1,u2⟩:=hs
 have hno:=A6s t6
 have hd:u.dep≤30:=by
  have:=A8g u [] 0 [] u1 (by omega)
  rw[List.append_nil,u2] at this
  have e:(Ep l (0,[])).1=(u.dep:Int):=by rw[this];simp[Ep]
  omega
 refine⟨u1,u2,t3,hd,hno,?_⟩
 subst u2
 unfold I0
 rw[Aks u1 hno t3 h (n:=2000) (by omega)];rfl
noncomputable def Ye (l:List Nd):List Ck:=E3 (trE l) false
theorem A4k {l:List Nd} (h:Dx l=true):Seg OkE (I0 l) (Ye l):=by
 obtain⟨h1,h2,_,_,h3,h4⟩:=Abr h
 rw[h4];exact Anf _ false h1 (by rw[h2];exact h3)
theorem Vn:Seg (fun _=>True) [] []:=fun rest p acc _=>⟨[],rfl,fun f f' hf hf'=>by
 simp only[List.nil_append,List.length_nil,Nat.add_zero,List.append_nil] at hf ⊢
 exact Sf f f' _ _ _ hf hf'⟩
theorem A75 {c:UInt8} (hc:Jw c.toNat=true):Seg (fun _=>True) [c] []:=by
 intro rest p acc _
 refine⟨[],rfl,fun f f' hf hf'=>?_⟩
 obtain⟨f,rfl⟩:∃ j,f=j+1:=⟨f - 1,by omega⟩
 have hg:D2 false (c :: rest)=1+D2 false rest:=A01 hc
 rw[List.singleton_append] at hf ⊢
 have e:Dh (f+1) (c :: rest) p acc=Dh (f+1) rest (p+1) acc:=by
  rw[Dh,Dh,hg]
  have:(c :: rest).drop (1+D2 false rest)=rest.drop (D2 false rest):=by rw[Nat.add_comm,List.drop_succ_cons]
  rw[this]
  have e3:p+(1+D2 false rest)=p+1+D2 false rest:=by omega
  rw[e3]
 rw[e,List.append_nil]
 exact Sf _ _ _ _ _ (by simp at hf;omega) hf'
theorem A7s:∀ d:Nat,Seg (fun _=>True) (Sr d) []:=by
 have:∀ m:Nat,Seg (fun _=>True) (List.replicate m (32:UInt8)) []:=by
  intro m
  induction m with
  | zero=>exact Vn
  | succ m ih=>exact Bc (A75 (c:=32) (by decide)) ih (fun _ _=>trivial)
 exact fun d=>this _
theorem And {c:UInt8} {t r:List UInt8} (h1:Dq c.toNat=true) (h2:∀ d ∈ c :: t,Hj d.toNat=true) (h3:(c :: t).length≤16) (hr:Wy r):Jy (c :: t++r)=.tok 1 (c :: t).length 0:=by
 have hrun:Ch Hj (c :: t++r)=(c :: t).length:=Zy h2 hr
 rw[List.cons_append] at hrun ⊢
 show(if Dq c.toNat then _ else _)=_
 rw[if_pos h1,hrun,if_neg (by omega)]
theorem A50 {w:List UInt8} (h:∃ c t,w=c :: t∧Dq c.toNat=true∧(∀ d ∈ c :: t,Hj d.toNat=true)∧(c :: t).length≤16):Seg Wy w [(1,w,0)]:=by
 obtain⟨c,t,rfl,h1,h2,h3⟩:=h
 exact Oh (by simp) (fun d u e=>by
  obtain⟨rfl,rfl⟩:=List.cons.inj e
  exact W0 h1) (fun r hr=>And h1 h2 h3 hr)
theorem Aqw {k:Int} (h:1≤k∧k≤13):∃ c t,N6 k=c :: t∧Dq c.toNat=true∧(∀ d ∈ c :: t,Hj d.toNat=true)∧(c :: t).length≤16:=by
 have c:k=1∨k=2∨k=3∨k=4∨k=5∨k=6∨k=7∨k=8∨k=9∨k=10∨k=11∨k=12∨k=13:=by omega
 rcases c with rfl | rfl | rfl | rfl | rfl | rfl | rfl | rfl | rfl | rfl | rfl | rfl | rfl<;>exact⟨_,_,rfl,by decide,by decide,by decide⟩
theorem A5o {c:UInt8} (h:∀ r,Jy (c :: r)=.tok 3 1 0) (hb:Jw c.toNat=false∧c.toNat≠35):Seg (fun _=>True) [c] [(3,[c],0)] :=
 Oh (by simp) (fun d t e=>by obtain⟨rfl,_⟩:=List.cons.inj e;exact hb) (fun r _=>h r)
theorem A4a:Seg (fun _=>True) [59] [(3,[59],0)]:=A5o (fun r=>by cases r<;>rfl) (by decide)
theorem A8v:Seg (fun _=>True) [44] [(3,[44],0)]:=A5o (fun r=>by cases r<;>rfl) (by decide)
theorem Ag4:Seg (fun _=>True) [123] [(3,[123],0)]:=A5o (fun r=>by cases r<;>rfl) (by decide)
theorem A7h:Seg (fun _=>True) [125] [(3,[125],0)]:=A5o (fun r=>by cases r<;>rfl) (by decide)
def Sp (r:List UInt8):Prop:=∃ t,r=32 :: t
theorem Al6:Seg Sp [61] [(3,[61],0)]:=Oh (by simp) (fun c t e=>by obtain⟨rfl,_⟩:=List.cons.inj e;decide) (fun r hr=>by obtain⟨t,rfl⟩:=hr;rfl)
noncomputable def Q8 (x:St) (c:UInt8):List Ck :=
 if c.toNat=114 then [(1,x.Eu,0)] else if c.toNat=108 then [(1,x.Ev,0)] else if c.toNat=101 then Ye x.Ct else if c.toNat=102 then Ye x.Ih
 else if c.toNat=113 then [(3,if x.Fp then [33,61] else [61,61],0)] else [(3,[c],0)]
noncomputable def To (x:St):List Ck:=(1,N6 x.A9,0) :: (Bn x.A9).flatMap (Q8 x)
def spB (c:UInt8):Bool:=c==114 || c==108 || c==101 || c==102 || c==113 || c==61
def Wi:List UInt8→Bool
 | []=>true
 | [c]=>c != 113&&c != 61
 | c :: d :: cs=>((c != 113&&c != 61) || spB d)&&Wi (d :: cs)
theorem Ahb (k:Int):Wi (Bn k)=true:=by
 unfold Bn;repeat' split
 all_goals decide
structure A5g (x:St) (cs:List UInt8):Prop where
 r:114 ∈ cs→C9 x.Eu=true
 l:108 ∈ cs→C9 x.Ev=true
 e:101 ∈ cs→Dx x.Ct=true
 f:102 ∈ cs→Dx x.Ih=true
theorem Q5 {f:List UInt8} {c:UInt8} (h:c ∈ f):I6 f (c.toNat:Int)=true:=by
 unfold I6;exact List.any_eq_true.2 ⟨c,h,by simp⟩
theorem A8k {x:St} (h:D7 x=true):A5g x (Bn x.A9):=by
 simp only[D7,A7] at h
 obtain⟨_,_,_,h1,h2,h3,h4,_⟩:=h
 refine⟨fun hm=>?_,fun hm=>?_,fun hm=>?_,fun hm=>?_⟩
 ·have:I6 (Bn x.A9) 114=true:=Q5 hm;unfold fN at h1;rw[if_pos this] at h1;exact h1
 ·have:I6 (Bn x.A9) 108=true:=Q5 hm;unfold fN at h2;rw[if_pos this] at h2;exact h2
 ·have:I6 (Bn x.A9) 101=true:=Q5 hm;unfold fL at h3;rw[if_pos this,A7] at h3;exact h3.2
 ·have:I6 (Bn x.A9) 102=true:=Q5 hm;unfold fL at h4;rw[if_pos this,A7] at h4;exact h4.2
theorem A9d {x:St} {c:UInt8} (hc:c ∈ R1) (r:List UInt8):OkE (N3 x c++r)∧(spB c=true→Sp (N3 x c++r)):=by
 simp only[R1,List.mem_cons,List.not_mem_nil,or_false] at hc
 rcases hc with rfl | rfl | rfl | rfl | rfl | rfl | rfl | rfl
 ·exact⟨.inr ⟨_,.inl rfl⟩,fun _=>⟨_,rfl⟩⟩
 ·exact⟨.inr ⟨_,.inl rfl⟩,fun _=>⟨_,rfl⟩⟩
 ·exact⟨.inr ⟨_,.inl rfl⟩,fun _=>⟨_,rfl⟩⟩
 ·exact⟨.inr ⟨_,.inl rfl⟩,fun _=>⟨_,rfl⟩⟩
 ·have hp:N3 x 113=if x.Fp then [32,33,61] else [32,61,61]:=rfl
  rw[hp];cases x.Fp<;>exact⟨.inr ⟨_,.inl rfl⟩,fun _=>⟨_,rfl⟩⟩
 ·exact⟨.inr ⟨_,.inl rfl⟩,fun _=>⟨_,rfl⟩⟩
 ·exact⟨.inr ⟨_,.inr (.inr (.inr (.inl rfl)))⟩,fun h=>absurd h (by decide)⟩
 ·exact⟨.inr ⟨_,.inr (.inr (.inl rfl))⟩,fun h=>absurd h (by decide)⟩
theorem A5f {x:St} {cs:List UInt8} (hc:∀ c ∈ cs,c ∈ R1) {r:List UInt8} (hr:OkE r):OkE (cs.flatMap (N3 x)++r):=by
 cases cs with
 | nil=>exact hr
 | cons c cs =>
  rw[List.flatMap_cons,List.append_assoc]
  exact(A9d (hc c (List.mem_cons_self ..)) _).1
theorem Amc {x:St}:∀ cs:List UInt8,Wi cs=true→(∀ c ∈ cs,c ∈ R1)→A5g x cs→Seg OkE (cs.flatMap (N3 x)) (cs.flatMap (Q8 x)):=by
 intro cs
 induction cs with
 | nil=>intro _ _ _;exact Wv Vn (fun _ _=>trivial)
 | cons c cs ih =>
  intro hch hc hp
  have hch2:Wi cs=true:=by
   cases cs with
   | nil=>rfl
   | cons d ds=>rw[Wi,A7] at hch;exact hch.2
  have ht:=ih hch2 (fun d hd=>hc d (List.mem_cons_of_mem _ hd)) ⟨fun h=>hp.r (List.mem_cons_of_mem _ h),fun h=>hp.l (List.mem_cons_of_mem _ h),fun h=>hp.e (List.mem_cons_of_mem _ h),fun h=>hp.f (List.mem_cons_of_mem _ h)⟩
  have hok:∀ r,OkE r→OkE (cs.flatMap (N3 x)++r):=fun r hr=>A5f (fun d hd=>hc d (List.mem_cons_of_mem _ hd)) hr
  have hsp:c=113∨c=61→∀ r,OkE r→Sp (cs.flatMap (N3 x)++r):=by
   intro h13 r hr
   cases cs with
   | nil=>rw[Wi] at hch;rcases h13 with rfl | rfl<;>simp at hch
   | cons d ds =>
    rw[Wi,A7] at hch
    have:spB d=true:=by
     have h:=hch.1
     rcases h13 with rfl | rfl<;>simpa using h
    rw[List.flatMap_cons,List.append_assoc]
    exact(A9d (hc d (by simp)) _).2 this
  have hcc:=hc c (List.mem_cons_self ..)
  rw[List.flatMap_cons,List.flatMap_cons]
  simp only[R1,List.mem_cons,List.not_mem_nil,or_false] at hcc
  rcases hcc with rfl | rfl | rfl | rfl | rfl | rfl | rfl | rfl
  ·exact Bc (Fz (Nu (hp.r (List.mem_cons_self ..)))) ht (fun r hr=>Vp (hok r hr))
  ·exact Bc (Fz (Nu (hp.l (List.mem_cons_self ..)))) ht (fun r hr=>Vp (hok r hr))
  ·exact Bc (Fz (A4k (hp.e (List.mem_cons_self ..)))) ht hok
  ·exact Bc (Fz (A4k (hp.f (List.mem_cons_self ..)))) ht hok
  ·have h1:N3 x 113=if x.Fp then [32,33,61] else [32,61,61]:=rfl
   have h2:Q8 x 113=[(3,if x.Fp then [33,61] else [61,61],0)]:=rfl
   rw[h1,h2]
   cases x.Fp with
   | true=>exact Bc (Fz (A4u (op:=10) (by omega))) ht (hsp (.inl rfl))
   | false=>exact Bc (Fz (A4u (op:=9) (by omega))) ht (hsp (.inl rfl))
  ·exact Bc (Fz Al6) ht (hsp (.inr rfl))
  ·exact Bc A4a ht (fun _ _=>trivial)
  ·exact Bc A8v ht (fun _ _=>trivial)
theorem Anq {x:St} (h:D7 x=true):Seg OkE (A6g x) (To x):=by
 have hk:1≤x.A9∧x.A9≤13:=by
  simp only[D7,A7,B3] at h;exact h.1
 exact Bc (A50 (Aqw hk)) (Amc _ (Ahb _) (Q0 _) (A8k h)) (fun r hr=>Vp (A5f (Q0 _) hr))
def Tx:List UInt8:=[101,108,115,101]
noncomputable def Eb:SF→List Ck
 | .nil=>[]
 | .cons x a b r=>To x++((if Cy x.A9 then((3,[123],0) :: Eb a)++((if b.flat=[] then [] else(3,[125],0) :: (1,Tx,0) :: (3,[123],0) :: Eb b)++[(3,[125],0)]) else [])++Eb r)
theorem Xr:∀ (F:SF) (d:Nat),(∀ x ∈ F.flat,D7 x=true)→Seg (fun _=>True) (Ii F d) (Eb F)
 | .nil,d,_=>Vn
 | .cons x a b r,d,h=>by
  have hx:=h x (by simp[SF.flat])
  have ha:=Xr a (d+1) (fun y hy=>h y (by simp[SF.flat,hy]))
  have hb:=Xr b (d+1) (fun y hy=>h y (by simp[SF.flat,hy]))
  have hr:=Xr r d (fun y hy=>h y (by simp[SF.flat,hy]))
  have hh:=Bc (A7s d) (Anq hx) (fun _ _=>trivial)
  have nl:Seg (fun _=>True) [10] []:=A75 (c:=10) (by decide)
  have bl:Seg (fun _=>True) [32] []:=A75 (c:=32) (by decide)
  have tr:∀ r:List UInt8,(fun _:List UInt8=>True) r→(fun _:List UInt8=>True) r:=fun _ _=>trivial
  have hn:=Bc nl hr (fun _ _=>trivial)
  rw[Ii,Eb]
  cases hb2:Cy x.A9 with
  | false =>
   simp only[Bool.false_eq_true,if_false,List.nil_append]
   exact Bc hh hn (fun r _=>.inr ⟨_,.inr (.inr (.inr (.inr rfl)))⟩)
  | true =>
   simp only[if_true]
   have open1:Seg (fun _=>True) [32,123,10] [(3,[123],0)]:=Bc bl (Bc Ag4 nl (fun _ _=>trivial)) (fun _ _=>trivial)
   have b1:=Bc (Bc open1 ha (fun _ _=>trivial)) (A7s d) (fun _ _=>trivial)
   have mid:Seg (fun _=>True) (if b.flat=[] then [] else([125,32,101,108,115,101,32,123,10]++Ii b (d+1))++Sr d) (if b.flat=[] then [] else(3,[125],0) :: (1,Tx,0) :: (3,[123],0) :: Eb b):=by
    by_cases c:b.flat=[]
    ·rw[if_pos c,if_pos c];exact Vn
    ·rw[if_neg c,if_neg c]
     have e1:Seg Wy Tx [(1,Tx,0)]:=A50 ⟨_,_,rfl,by decide,by decide,by decide⟩
     have e2:=Bc A7h (Bc bl (Bc e1 open1 (fun r _=>.inr ⟨32,_,rfl,by decide⟩)) (fun _ _=>trivial)) (fun _ _=>trivial)
     have:=Bc (Bc e2 hb (fun _ _=>trivial)) (A7s d) (fun _ _=>trivial)
     simpa [Tx] using this
   have b2:=Bc b1 (Bc mid A7h (fun _ _=>trivial)) (fun _ _=>trivial)
   have:=Bc hh (Bc b2 hn (fun _ _=>trivial)) (fun r _=>.inr ⟨_,.inl rfl⟩)
   simpa using this
theorem An3 {s:List UInt8} {ts:List Ck} (h:Seg (fun _=>True) s ts) (hl:s.length≤20000):Cu (Qx s) 0 ts∧(Qx s).length=ts.length:=by
 obtain⟨toks,h1,h2⟩:=h [] 0 [] trivial
 have:=h2 (s.length+1) 1 (by simp) (by simp)
 rw[List.append_nil] at this
 have e:Gz s=⟨toks,0,0⟩:=by rw[Gz,if_neg (by omega),this];simp[Dh,D2]
 have he:Qx s=toks.map tkS:=by rw[Qx,e]
 refine⟨?_,by rw[he,← h1];simp⟩
 unfold Cu;rw[List.drop_zero,he,Aqf,h1]
theorem Aek:∀ {a b:List Nd},a.map E6=b.map E6→∀ s,Ep a s=Ep b s:=by
 intro a
 induction a with
 | nil=>intro b hb s;cases b with
   | nil=>rfl
   | cons y b=>simp at hb
 | cons y a ih =>
  intro b hb s
  cases b with
  | nil=>simp at hb
  | cons z b =>
   rw[List.map_cons,List.map_cons] at hb
   obtain⟨h1,h2⟩:=List.cons.inj hb
   have hk:Dy y.As=Dy z.As:=by
    have:=congrArg A2.As h1
    simp only[E6] at this
    by_cases c1:y.As=3<;>by_cases c2:z.As=3
    ·rw[c1,c2]
    ·rw[if_pos c1,if_neg c2] at this;rw[c1,← this];decide
    ·rw[if_neg c1,if_pos c2] at this;rw[c2,this];decide
    ·rw[if_neg c1,if_neg c2] at this;rw[this]
   obtain⟨m,R⟩:=s
   simp only[Ep,hk]
   rw[ih h2,ih h2]
theorem Asb {T:Nat} {l:List Tk} (hk:Toks T l) {i tu:Nat} {x:List Nd} (hi:i≤l.length) (h:PE l (.fl 0) 0 i (.ok x tu)) (hd:(Ep x (0,[])).1≤30) (hl:x.length≤200) (hp:Kn x=true):exQ l i=.ok x tu:=by
 obtain⟨r,hr,e⟩:=Z3 hk hi
 have hlen:=hk.len
 have h1:D0 (12*l.length+100) l (i:Int) ((0:Nat):Int) 0 0=some (x,(tu:Int),((0:Nat):Int),0,0):=Ahn hlen h hi (by omega) (12*l.length+100) (by omega)
 rw[e]
 cases r with
 | bad e' a =>
  have hne:=Jr hr hi
  obtain⟨X,i',j,h2,_,_⟩:=Ahn hlen hr hi (by omega) (12*l.length+100) (by omega)
  have h2:D0 (12*l.length+100) l (i:Int) ((0:Nat):Int) 0 0=_:=h2
  rw[h1] at h2
  have:=Option.some.inj h2
  simp only[Prod.mk.injEq] at this
  exact absurd this.2.2.2.1.symm hne
 | ok y tv =>
  have h2:D0 (12*l.length+100) l (i:Int) ((0:Nat):Int) 0 0=some (y,(tv:Int),((0:Nat):Int),0,0):=Ahn hlen hr hi (by omega) (12*l.length+100) (by omega)
  rw[h1] at h2
  have:=Option.some.inj h2
  simp only[Prod.mk.injEq] at this
  obtain⟨rfl,h3,_⟩:=this
  obtain rfl:tu=tv:=by omega
  simp only[Nc]
  rw[if_neg (by omega),if_neg (by omega),if_pos hp]
def SameX (x y:List Nd):Prop:=x.map E6=y.map E6∧(∀ z ∈ x,z.As≠3)∧∀ z ∈ y,z.As≠3
theorem Adp {x:List Nd} (h:Kn x=true):∀ z ∈ x,z.As≠3∧z.As≠4:=by
 intro z hz
 have hh:=List.all_eq_true.1 h z
 constructor<;>intro e
 ·have:=hh (List.mem_filter.2 ⟨hz,by simp[Fa,e]⟩);rw[e] at this;exact absurd this (by decide)
 ·have:=hh (List.mem_filter.2 ⟨hz,by simp[Fa,e]⟩);rw[e] at this;exact absurd this (by decide)
theorem Aki {x y:List Nd} (h:x.map E6=y.map E6) (hx:Kn x=true) (hy:∀ z ∈ y,z.As≠3):Kn y=true:=by
 refine List.all_eq_true.2 fun z hz=>?_
 obtain⟨hz,hn⟩:=List.mem_filter.1 hz
 have hy3:=hy z hz
 have:E6 z ∈ x.map E6:=by rw[h];exact List.mem_map_of_mem hz
 obtain⟨w,hw,e⟩:=List.mem_map.1 this
 obtain⟨w3,w4⟩:=Adp hx w hw
 have e1:=congrArg A2.As e
 simp only[E6,if_neg w3,if_neg hy3] at e1
 simp only[Fa,Bool.or_eq_true,beq_iff_eq] at hn
 rw[beq_iff_eq];omega
theorem Adi {T:Nat} {l:List Tk} (hk:Toks T l) {i:Nat} {x:List Nd} {rest:List Ck} (hi:i≤l.length) (h:Dx x=true) (hp:Kn x=true) (hf:Cu l i (Ye x++rest)) (hs:O0 rest):∃ y,exQ l i=.ok y (i+(Ye x).length)∧SameX x y:=by
 obtain⟨h1,h2,h3,h4,h5,_⟩:=Abr h
 obtain⟨y,y1,y2⟩:=(Agb (trE x) h1 (by rw[h2];exact h5)).2 i 0 rest hf (by omega) hs
 rw[h2] at y2
 have hg:=Z4 hk.ok y1
 dsimp only at hg
 have hy3:∀ z ∈ y,z.As≠3:=fun z hz=>(hg.2 z hz).2
 have hd:(Ep x (0,[])).1≤30:=by
  simp only[Dx,A7,B3] at h;exact h.2.2.2
 refine⟨y,Asb hk hi y1 (by rw[Aek y2];exact hd) (by have:y.length=x.length:=by simpa using congrArg List.length y2
                                                    omega) (Aki y2.symm hp hy3),y2.symm,fun z hz=>(Adp hp z hz).1,hy3⟩
theorem Xk {s:List UInt8} {v:Int} (h:s≠[46]) (h2:∀ op:Int,6≤op∧op≤14→s≠E7 op) (r:List Ck):O0 ((3,s,v) :: r):=by
 intro c r' e h3
 obtain⟨rfl,_⟩:=List.cons.inj e
 exact⟨h,h2⟩
theorem Zo {s:List UInt8} (h:∀ op ∈ [6,7,8,9,10,11,12,13,(14:Int)],s≠E7 op):∀ op:Int,6≤op∧op≤14→s≠E7 op:=by
 intro op ho
 have:op=6∨op=7∨op=8∨op=9∨op=10∨op=11∨op=12∨op=13∨op=14:=by omega
 exact h op (by simp;omega)
theorem Ah4 (v:Int) (r:List Ck):O0 ((3,[44],v) :: r):=Xk (by decide) (Zo (by decide)) r
theorem A8t (v:Int) (r:List Ck):O0 ((3,[59],v) :: r):=Xk (by decide) (Zo (by decide)) r
theorem Ao5 (v:Int) (r:List Ck):O0 ((3,[123],v) :: r):=Xk (by decide) (Zo (by decide)) r
theorem Amr (v:Int) (r:List Ck):O0 ((3,[125],v) :: r):=Xk (by decide) (Zo (by decide)) r
theorem Ajs (w:List UInt8) (v:Int) (r:List Ck):O0 ((1,w,v) :: r):=by
 intro c r' e h3
 obtain⟨rfl,_⟩:=List.cons.inj e
 exact absurd h3 (show ¬ ((1:Int)=3) by decide)
theorem Am7:O0 []:=fun c r e=>by cases e
def Vx:List UInt8→Bool
 | []=>true
 | [_]=>true
 | c :: d :: cs=>((c != 101&&c != 102) || (d==44 || d==59))&&Vx (d :: cs)
theorem A3y (k:Int):Vx (Bn k)=true:=by
 unfold Bn;repeat' split
 all_goals decide
structure Aht (x:St) (cs:List UInt8) (s s':Fs):Prop where
 r:s'.reg=if 114 ∈ cs then x.Eu else s.reg
 l:s'.loc=if 108 ∈ cs then x.Ev else s.loc
 e:if 101 ∈ cs then SameX x.Ct s'.e else s'.e=s.e
 f:if 102 ∈ cs then SameX x.Ih s'.f else s'.f=s.f
 n:s'.ne=if 113 ∈ cs then x.Fp else s.ne
theorem N1 {l:List Tk} {i:Nat} {a b:List Ck} (h:Cu l i (a++b)) (hi:i≤l.length):i+a.length≤l.length:=by
 have:=congrArg List.length h
 rw[List.length_drop,B6,List.length_append] at this
 omega
theorem A4l {l:List Tk} {i:Nat} {w:List UInt8} {v:Int} {cs:List Ck} (h:Cu l i ((1,w,v) :: cs)) (hw:C9 w=true):isN l i=true∧txt l i=w:=by
 obtain⟨t,h1,h2,_⟩:=E2 h
 injection h2 with e1 e2;injection e2 with e2 e3
 exact⟨by simp[isN,h1,e1,e2,hw],by simp[txt,h1,e2]⟩
theorem A8w {T:Nat} {l:List Tk} (hk:Toks T l) {x:St} (hp1:Kn x.Ct=true) (hp2:Kn x.Ih=true):∀ (cs:List UInt8) (i:Nat) (s:Fs) (rest:List Ck),Vx cs=true→(∀ c ∈ cs,c ∈ R1)→A5g x cs→i≤l.length→Cu l i (cs.flatMap (Q8 x)++rest)→O0 rest →
 ∃ s',Ij l (exQ l) cs i s=.ok s' (i+(cs.flatMap (Q8 x)).length)∧Aht x cs s s':=by
 intro cs
 induction cs with
 | nil =>
  intro i s rest _ _ _ _ _ _
  exact⟨s,rfl,by simp,by simp,by simp,by simp,by simp⟩
 | cons c cs ih =>
  intro i s rest hch hc hp hi hf hst
  have hch2:Vx cs=true:=by
   cases cs with
   | nil=>rfl
   | cons d ds=>rw[Vx,A7] at hch;exact hch.2
  have hcc:=hc c (List.mem_cons_self ..)
  have hpp:A5g x cs:=⟨fun h=>hp.r (List.mem_cons_of_mem _ h),fun h=>hp.l (List.mem_cons_of_mem _ h),fun h=>hp.e (List.mem_cons_of_mem _ h),fun h=>hp.f (List.mem_cons_of_mem _ h)⟩
  rw[List.flatMap_cons,List.append_assoc] at hf
  have hlen:=N1 hf hi
  have hf2:=E0 hf
  have hse:c=101∨c=102→O0 (cs.flatMap (Q8 x)++rest):=by
   intro h13
   cases cs with
   | nil=>exact hst
   | cons d ds =>
    rw[Vx,A7] at hch
    have h:=hch.1
    have hd:d=44∨d=59:=by rcases h13 with rfl | rfl<;>simpa using h
    rw[List.flatMap_cons,List.append_assoc]
    rcases hd with rfl | rfl
    ·exact Ah4 0 _
    ·exact A8t 0 _
  have go:∀ s1:Fs,Iu l (exQ l) c i s=.ok s1 (i+(Q8 x c).length)→∃ s',Ij l (exQ l) (c :: cs) i s=.ok s' (i+((c :: cs).flatMap (Q8 x)).length)∧Aht x cs s1 s':=by
   intro s1 h1
   obtain⟨s',g1,g2⟩:=ih _ s1 rest hch2 (fun d hd=>hc d (List.mem_cons_of_mem _ hd)) hpp hlen hf2 hst
   refine⟨s',?_,g2⟩
   rw[Ij,h1]
   dsimp only
   rw[g1,List.flatMap_cons,List.length_append,Nat.add_assoc]
  simp only[R1,List.mem_cons,List.not_mem_nil,or_false] at hcc
  rcases hcc with rfl | rfl | rfl | rfl | rfl | rfl | rfl | rfl
  ·have hf:Cu l i ((1,x.Eu,0) :: (cs.flatMap (Q8 x)++rest)):=hf
   obtain⟨a1,a2⟩:=A4l hf (hp.r (List.mem_cons_self ..))
   obtain⟨s',g1,g2⟩:=go { s with reg:=txt l i } (by
    show(if isN l i=true then _ else _)=_
    rw[if_pos a1];rfl)
   refine⟨s',g1,?_,?_,?_,?_,?_⟩
   ·rw[g2.r];split<;>simp[a2]
   ·rw[g2.l];simp
   ·have:=g2.e;simpa using this
   ·have:=g2.f;simpa using this
   ·rw[g2.n];simp
  ·have hf:Cu l i ((1,x.Ev,0) :: (cs.flatMap (Q8 x)++rest)):=hf
   obtain⟨a1,a2⟩:=A4l hf (hp.l (List.mem_cons_self ..))
   obtain⟨s',g1,g2⟩:=go { s with loc:=txt l i } (by
    show(if isN l i=true then _ else _)=_
    rw[if_pos a1];rfl)
   refine⟨s',g1,?_,?_,?_,?_,?_⟩
   ·rw[g2.r];simp
   ·rw[g2.l];split<;>simp[a2]
   ·have:=g2.e;simpa using this
   ·have:=g2.f;simpa using this
   ·rw[g2.n];simp
  ·obtain⟨y,y1,y2⟩:=Adi hk hi (hp.e (List.mem_cons_self ..)) hp1 hf (hse (.inl rfl))
   obtain⟨s',g1,g2⟩:=go { s with e:=y } (by
    show(match exQ l i with | .ok x tu=>FR.ok { s with e:=x } tu | .bad e a=>.bad e a)=_
    rw[y1];rfl)
   refine⟨s',g1,?_,?_,?_,?_,?_⟩
   ·rw[g2.r];simp
   ·rw[g2.l];simp
   ·have:=g2.e
    split at this
    ·simp[this]
    ·simp[this,y2]
   ·have:=g2.f;simpa using this
   ·rw[g2.n];simp
  ·obtain⟨y,y1,y2⟩:=Adi hk hi (hp.f (List.mem_cons_self ..)) hp2 hf (hse (.inr rfl))
   obtain⟨s',g1,g2⟩:=go { s with f:=y } (by
    show(match exQ l i with | .ok x tu=>FR.ok { s with f:=x } tu | .bad e a=>.bad e a)=_
    rw[y1];rfl)
   refine⟨s',g1,?_,?_,?_,?_,?_⟩
   ·rw[g2.r];simp
   ·rw[g2.l];simp
   ·have:=g2.e;simpa using this
   ·have:=g2.f
    split at this
    ·simp[this]
    ·simp[this,y2]
   ·rw[g2.n];simp
  ·have hf:Cu l i ((3,if x.Fp then [33,61] else [61,61],0) :: (cs.flatMap (Q8 x)++rest)):=hf
   have a1:=Gi hf [33,61]
   have a2:=Gi hf [61,61]
   obtain⟨s',g1,g2⟩:=go { s with ne:=x.Fp } (by
    show(if Bk l i [33,61]=true then FR.ok { s with ne:=true } (i+1) else if Bk l i [61,61]=true then .ok { s with ne:=false } (i+1) else .bad (Gp l i) (Bj l i))=_
    rw[a1,a2]
    cases x.Fp<;>rfl)
   refine⟨s',g1,?_,?_,?_,?_,?_⟩
   ·rw[g2.r];simp
   ·rw[g2.l];simp
   ·have:=g2.e;simpa using this
   ·have:=g2.f;simpa using this
   ·rw[g2.n];split<;>simp
  all_goals
   have a1:=Gi hf
   obtain⟨s',g1,g2⟩:=go s (by
    first
    | (show(if Bk l i [61]=true then FR.ok s (i+1) else _)=_;rw[a1,if_pos (by decide)];rfl)
    | (show(if Bk l i [59]=true then FR.ok s (i+1) else _)=_;rw[a1,if_pos (by decide)];rfl)
    | (show(if Bk l i [44]=true then FR.ok s (i+1) else _)=_;rw[a1,if_pos (by decide)];rfl))
   refine⟨s',g1,?_,?_,?_,?_,?_⟩
   ·rw[g2.r];simp
   ·rw[g2.l];simp
   ·have:=g2.e;simpa using this
   ·have:=g2.f;simpa using this
   ·rw[g2.n];simp
structure SameS (x y:St):Prop where
 k:x.A9=y.A9
 r:x.Eu=y.Eu
 l:x.Ev=y.Ev
 n:x.Fp=y.Fp
 b:x.Ax=y.Ax
 c:x.Co=y.Co
 e:SameX x.Ct y.Ct
 f:SameX x.Ih y.Ih
def All2:List St→List St→Prop
 | [],[]=>True
 | x :: l,y :: m=>SameS x y∧All2 l m
 | _,_=>False
theorem All2.len:∀ {l m:List St},All2 l m→l.length=m.length
 | [],[],_=>rfl
 | _ :: l,_ :: m,h=>by simp[All2.len h.2]
 | [],_ :: _,h=>h.elim
 | _ :: _,[],h=>h.elim
theorem All2.app:∀ {l m l' m':List St},All2 l m→All2 l' m'→All2 (l++l') (m++m')
 | [],[],_,_,_,h'=>h'
 | _ :: l,_ :: m,_,_,h,h'=>⟨h.1,All2.app h.2 h'⟩
 | [],_ :: _,_,_,h,_=>h.elim
 | _ :: _,[],_,_,h,_=>h.elim
theorem All2.get:∀ {l m:List St},All2 l m→∀ (i:Nat) x y,l[i]?=some x→m[i]?=some y→SameS x y
 | [],[],_,i,x,y,h,_=>by simp at h
 | a :: l,b :: m,h,0,x,y,h1,h2=>by
  simp only[List.getElem?_cons_zero,Option.some.injEq] at h1 h2
  subst h1;subst h2;exact h.1
 | a :: l,b :: m,h,i+1,x,y,h1,h2=>by
  simp only[List.getElem?_cons_succ] at h1 h2
  exact All2.get h.2 i x y h1 h2
 | [],_ :: _,h,_,_,_,_,_=>h.elim
 | _ :: _,[],h,_,_,_,_,_=>h.elim
theorem Q4 {f:List UInt8} {c:UInt8} (h:c ∉ f):I6 f (c.toNat:Int)=false:=by
 unfold I6
 refine List.any_eq_false.2 fun b hb e=>h ?_
 rw[beq_iff_eq] at e
 have:b=c:=UInt8.toNat_inj.1 (by omega)
 rw[← this];exact hb
theorem Ana {x:St} (h:D7 x=true):Kn x.Ct=true∧Kn x.Ih=true:=by
 simp only[D7,A7] at h
 obtain⟨_,_,_,_,_,h3,h4,_⟩:=h
 have hL:∀ {c:Int} {l:List Nd},fL (Bn x.A9) c l=true→Kn l=true:=by
  intro c l hs
  unfold fL at hs
  split at hs
  ·rw[A7] at hs;exact hs.1
  ·rw[beq_iff_eq] at hs
   obtain rfl:l=[]:=List.length_eq_zero_iff.1 (by omega)
   rfl
 exact⟨hL h3,hL h4⟩
theorem Acu:SameX [] []:=⟨rfl,by simp,by simp⟩
theorem A4v {x:St} (h:D7 x=true) {s:Fs} (hr:Aht x (Bn x.A9) fs0 s) {b c:Nat} (hb:x.Ax=(b:Int)) (hc:x.Co=(c:Int)) (a:Int):SameS x (mkS x.A9 s b c a):=by
 simp only[D7,A7] at h
 obtain⟨_,_,h0,h1,h2,h3,h4,_⟩:=h
 refine⟨rfl,?_,?_,?_,hb,hc,?_,?_⟩
 ·show x.Eu=s.reg
  rw[hr.r]
  by_cases m:(114:UInt8) ∈ Bn x.A9
  ·rw[if_pos m]
  ·rw[if_neg m]
   have:I6 (Bn x.A9) 114=false:=Q4 m
   unfold fN at h1;rw[this] at h1;simpa [fs0] using h1
 ·show x.Ev=s.loc
  rw[hr.l]
  by_cases m:(108:UInt8) ∈ Bn x.A9
  ·rw[if_pos m]
  ·rw[if_neg m]
   have:I6 (Bn x.A9) 108=false:=Q4 m
   unfold fN at h2;rw[this] at h2;simpa [fs0] using h2
 ·show x.Fp=s.ne
  rw[hr.n]
  by_cases m:(113:UInt8) ∈ Bn x.A9
  ·rw[if_pos m]
  ·rw[if_neg m]
   have:I6 (Bn x.A9) 113=false:=Q4 m
   rw[this] at h0;simpa [fs0] using h0
 ·show SameX x.Ct s.e
  have he:=hr.e
  by_cases m:(101:UInt8) ∈ Bn x.A9
  ·rw[if_pos m] at he;exact he
  ·rw[if_neg m] at he
   have:I6 (Bn x.A9) 101=false:=Q4 m
   unfold fL at h3;rw[this,if_neg (by simp),beq_iff_eq] at h3
   have e1:x.Ct=[]:=List.length_eq_zero_iff.1 (by omega)
   rw[he,e1];exact Acu
 ·show SameX x.Ih s.f
  have he:=hr.f
  by_cases m:(102:UInt8) ∈ Bn x.A9
  ·rw[if_pos m] at he;exact he
  ·rw[if_neg m] at he
   have:I6 (Bn x.A9) 102=false:=Q4 m
   unfold fL at h4;rw[this,if_neg (by simp),beq_iff_eq] at h4
   have e1:x.Ih=[]:=List.length_eq_zero_iff.1 (by omega)
   rw[he,e1];exact Acu
theorem A9a {k:Int} (h:1≤k∧k≤13):A7a (N6 k)=k∧N6 k≠Tx:=by
 have c:k=1∨k=2∨k=3∨k=4∨k=5∨k=6∨k=7∨k=8∨k=9∨k=10∨k=11∨k=12∨k=13:=by omega
 rcases c with rfl | rfl | rfl | rfl | rfl | rfl | rfl | rfl | rfl | rfl | rfl | rfl | rfl<;>exact⟨by decide,by decide⟩
theorem Alm {l:List Tk} {i:Nat} {k v:Int} {cs:List Ck} (h:Cu l i ((1,N6 k,v) :: cs)) (hk:1≤k∧k≤13):Aw l i=k:=by
 obtain⟨t,h1,h2,_⟩:=E2 h
 injection h2 with e1 e2;injection e2 with e2 e3
 unfold Aw
 rw[h1]
 dsimp only
 rw[if_pos e1,e2,(A9a hk).1]
def Ajc (rest:List Ck):Prop:=rest=[]∨∃ v r,rest=(3,[125],v) :: r
theorem Ame {rest:List Ck} (h:Ajc rest):O0 rest:=by
 rcases h with rfl | ⟨v,r,rfl⟩
 ·exact Am7
 ·exact Amr v r
theorem Aot (F:SF) {rest:List Ck} (h:Ajc rest):O0 (Eb F++rest):=by
 cases F with
 | nil=>exact Ame h
 | cons x a b r=>exact Ajs _ _ _
theorem Ak9 {l:List Tk} {i:Nat} (F:SF) {rest:List Ck} (h:Ajc rest) (hf:Cu l i (Eb F++rest)) (hx:∀ x ∈ F.flat,D7 x=true):La l i=false:=by
 unfold La
 cases F with
 | nil =>
  rcases h with rfl | ⟨v,r,rfl⟩
  ·have hf:Cu l i []:=hf
   rw[Wp hf]
  ·have hf:Cu l i ((3,[125],v) :: r):=hf
   obtain⟨t,h1,h2,_⟩:=E2 hf
   injection h2 with e1 e2
   rw[h1];dsimp only;rw[e1];simp
 | cons x a b r =>
  have hk:1≤x.A9∧x.A9≤13:=by
   have:=hx x (by simp[SF.flat])
   simp only[D7,A7,B3] at this;exact this.1
  have hf:Cu l i ((1,N6 x.A9,0) :: _):=hf
  obtain⟨t,h1,h2,_⟩:=E2 hf
  injection h2 with e1 e2;injection e2 with e2 e3
  rw[h1];dsimp only;rw[e2]
  have:=(A9a hk).2
  have e:(N6 x.A9==[101,108,115,101])=false:=by rw[beq_eq_false_iff_ne];exact this
  rw[e];simp
theorem A5l {x:St} (h:D7 x=true):(1≤x.A9∧x.A9≤13)∧(Cy x.A9=false→x.Ax=0∧x.Co=0)∧(x.Co≠0→x.A9=10):=by
 simp only[D7,A7,B3,Bool.or_eq_true,beq_iff_eq] at h
 obtain⟨h0,_,_,_,_,_,_,h1,h2⟩:=h
 refine⟨h0,fun hb=>?_,fun he=>by omega⟩
 rw[hb] at h1
 have:x.A9≠10:=fun e=>by rw[e] at hb;exact absurd hb (by decide)
 exact⟨by simpa using h1,by omega⟩
theorem Td {T:Nat} {l:List Tk} (hk:Toks T l):∀ (F:SF) (i inn:Nat) (rest:List Ck),F.wf→(∀ x ∈ F.flat,D7 x=true)→i≤l.length→Cu l i (Eb F++rest)→inn+F.dep≤30→Ajc rest→∃ y,SE l false inn i (.ok y (i+(Eb F).length))∧All2 F.flat y
 | .nil,i,inn,rest,_,_,hi,hf,_,he=>by
  refine⟨[],.stop ?_,trivial⟩
  rcases he with rfl | ⟨v,r,rfl⟩
  ·have hf:Cu l i []:=hf
   have:=Wp hf
   left;exact List.getElem?_eq_none_iff.1 this
  ·have hf:Cu l i ((3,[125],v) :: r):=hf
   right;rw[Gi hf];rfl
 | .cons x a b r,i,inn,rest,hw,hx,hi,hf,hd,he=>by
  obtain⟨w1,w2,wa,wb,wr⟩:=hw
  have hfx:=hx x (by simp[SF.flat])
  have hxa:∀ y ∈ a.flat,D7 y=true:=fun y hy=>hx y (by simp[SF.flat,hy])
  have hxb:∀ y ∈ b.flat,D7 y=true:=fun y hy=>hx y (by simp[SF.flat,hy])
  have hxr:∀ y ∈ r.flat,D7 y=true:=fun y hy=>hx y (by simp[SF.flat,hy])
  obtain⟨hkk,hb0,hb1⟩:=A5l hfx
  obtain⟨p1,p2⟩:=Ana hfx
  rw[Eb] at hf ⊢
  rw[SF.dep] at hd
  have hlen0:=N1 hf hi
  have hdr:inn+r.dep≤30:=by omega
  rw[To,List.cons_append,List.cons_append,List.append_assoc,List.append_assoc] at hf
  have hkind:=Alm hf hkk
  obtain⟨t,_,_,hf1⟩:=E2 hf
  have hi1:i+1≤l.length:=by
   have:=N1 (a:=[(1,N6 x.A9,0)]) hf hi
   simpa using this
  have hk0:Aw l i≠0:=by omega
  cases hbl:Cy x.A9 with
  | false =>
   obtain⟨b1,b2⟩:=hb0 hbl
   have ea:a.flat=[]:=List.length_eq_zero_iff.1 (by omega)
   have eb:b.flat=[]:=List.length_eq_zero_iff.1 (by omega)
   rw[hbl] at hf1
   simp only[Bool.false_eq_true,if_false,List.nil_append] at hf1
   obtain⟨s,s1,s2⟩:=A8w hk p1 p2 (Bn x.A9) (i+1) fs0 _ (A3y _) (Q0 _) (A8k hfx) hi1 hf1 (Aot r he)
   have hf2:=E0 hf1
   have hi2:=N1 hf1 hi1
   generalize hj:i+1+((Bn x.A9).flatMap (Q8 x)).length=j at s1 hf2 hi2
   obtain⟨y,y1,y2⟩:=Td hk r _ inn rest wr hxr hi2 hf2 hdr he
   rw[← hkind] at s1
   have:=SE.simple hk0 (by rw[hkind];exact hbl) s1 y1
   refine⟨[mkS (Aw l i) s 0 0 (Bj l i)]++y,?_,?_⟩
   ·have e:i+(To x++((if(false:Bool)=true then((3,[123],0) :: Eb a)++((if b.flat=[] then [] else(3,[125],0) :: (1,Tx,0) :: (3,[123],0) :: Eb b)++[(3,[125],0)]) else [])++Eb r)).length=j+(Eb r).length:=by
     rw[← hj];simp[To];omega
    rw[e];exact this
   ·rw[SF.flat,ea,eb]
    refine⟨?_,y2⟩
    rw[hkind]
    exact A4v hfx s2 (by rw[b1];rfl) (by rw[b2];rfl) _
  | true =>
   rw[hbl] at hf1 hd
   simp only[if_true,List.cons_append,List.append_assoc] at hf1 hd
   obtain⟨s,s1,s2⟩:=A8w hk p1 p2 (Bn x.A9) (i+1) fs0 _ (A3y _) (Q0 _) (A8k hfx) hi1 hf1 (Ao5 _ _)
   have hf2:=E0 hf1
   have hi2:=N1 hf1 hi1
   generalize hj:i+1+((Bn x.A9).flatMap (Q8 x)).length=j at s1 hf2 hi2
   rw[← hkind] at s1
   have hopen:Bk l j [123]=true:=by rw[Gi hf2];rfl
   have hj1:=Dn hopen
   obtain⟨_,_,_,hf3⟩:=E2 hf2
   by_cases c:b.flat=[]
   ·rw[if_pos c,List.nil_append] at hf3
    have hf3:Cu l (j+1) (Eb a++((3,[125],0) :: (Eb r++rest))):=hf3
    obtain⟨ya,a1,a2⟩:=Td hk a (j+1) (inn+1) _ wa hxa (by omega) hf3 (by omega) (.inr ⟨_,_,rfl⟩)
    have hf4:=E0 hf3
    have hcl:Bk l (j+1+(Eb a).length) [125]=true:=by rw[Gi hf4];rfl
    obtain⟨_,_,_,hf5⟩:=E2 hf4
    have hblk:=SE.close hopen (by omega) a1 hcl
    have hj2:=Dn hcl
    obtain⟨y,y1,y2⟩:=Td hk r _ inn rest wr hxr (by omega) hf5 hdr he
    have:=SE.blk hk0 (by rw[hkind];exact hbl) s1 hblk (fun _=>Ak9 r he hf5 hxr) y1
    have la:=a2.len
    refine⟨(mkS (Aw l i) s ya.length 0 (Bj l i) :: ya)++y,?_,?_⟩
    ·have e:i+(To x++((if(true:Bool)=true then((3,[123],0) :: Eb a)++((if b.flat=[] then [] else(3,[125],0) :: (1,Tx,0) :: (3,[123],0) :: Eb b)++[(3,[125],0)]) else [])++Eb r)).length=j+1+(Eb a).length+1+(Eb r).length:=by
      rw[if_pos rfl,if_pos c,← hj];simp[To];omega
     rw[e];exact this
    ·rw[SF.flat,c,List.nil_append]
     refine⟨?_,All2.app a2 y2⟩
     rw[hkind]
     exact A4v hfx s2 (by rw[w1,la]) (by rw[w2,c];rfl) _
   ·rw[if_neg c] at hf3
    have hk10:x.A9=10:=hb1 (by
     have:b.flat.length≠0:=fun e=>c (List.length_eq_zero_iff.1 e)
     rw[w2];omega)
    have hf3:Cu l (j+1) (Eb a++((3,[125],0) :: (1,Tx,0) :: (3,[123],0) :: (Eb b++((3,[125],0) :: (Eb r++rest))))):=by simpa using hf3
    obtain⟨ya,a1,a2⟩:=Td hk a (j+1) (inn+1) _ wa hxa (by omega) hf3 (by omega) (.inr ⟨_,_,rfl⟩)
    have hf4:=E0 hf3
    have hcl:Bk l (j+1+(Eb a).length) [125]=true:=by rw[Gi hf4];rfl
    obtain⟨_,_,_,hf5⟩:=E2 hf4
    have hblk:=SE.close hopen (by omega) a1 hcl
    have hj2:=Dn hcl
    obtain⟨t2,t3,t4,hf6⟩:=E2 hf5
    have hel:La l (j+1+(Eb a).length+1)=true:=by
     unfold La;rw[t3]
     injection t4 with e1 e2;injection e2 with e2 e3
     dsimp only;rw[e1,e2];rfl
    have hopen2:Bk l (j+1+(Eb a).length+1+1) [123]=true:=by rw[Gi hf6];rfl
    obtain⟨_,_,_,hf7⟩:=E2 hf6
    have hj3:=Dn hopen2
    obtain⟨yb,b1,b2⟩:=Td hk b _ (inn+1) _ wb hxb (by omega) hf7 (by omega) (.inr ⟨_,_,rfl⟩)
    have hf8:=E0 hf7
    have hcl2:Bk l (j+1+(Eb a).length+1+1+1+(Eb b).length) [125]=true:=by rw[Gi hf8];rfl
    obtain⟨_,_,_,hf9⟩:=E2 hf8
    have hblk2:=SE.close hopen2 (by omega) b1 hcl2
    have hj4:=Dn hcl2
    obtain⟨y,y1,y2⟩:=Td hk r _ inn rest wr hxr (by omega) hf9 hdr he
    have:=SE.els (by rw[hkind];exact hk10) s1 hblk hel hblk2 y1
    have la:=a2.len;have lb:=b2.len
    refine⟨(mkS (Aw l i) s ya.length yb.length (Bj l i) :: (ya++yb))++y,?_,?_⟩
    ·have e:i+(To x++((if(true:Bool)=true then((3,[123],0) :: Eb a)++((if b.flat=[] then [] else(3,[125],0) :: (1,Tx,0) :: (3,[123],0) :: Eb b)++[(3,[125],0)]) else [])++Eb r)).length=j+1+(Eb a).length+1+1+1+(Eb b).length+1+(Eb r).length:=by
      rw[if_pos rfl,if_neg c,← hj];simp[To];omega
     rw[e];exact this
    ·rw[SF.flat]
     refine⟨?_,by rw[← List.append_assoc];exact All2.app (All2.app a2 b2) y2⟩
     rw[hkind]
     exact A4v hfx s2 (by rw[w1,la]) (by rw[w2,lb]) _
theorem A7u {T:Nat} {l:List Tk} (hk:Toks T l) {n i:Nat} {r:SR} (hr:SE l false 0 i r) (hi:i≤l.length) (hn:12*l.length+T+900+6*l.length+60≤n):Jx n l (i:Int)=some (U7 l i r):=by
 have hl:=hk.len
 obtain⟨n,rfl⟩:∃ j,n=j+20:=⟨n - 20,by omega⟩
 have h:=Auv hk hr hi (by omega) (n+18) (n+18) [] (by omega) (by omega) (by simp)
 rw[Jx,Ap (by omega),Ap (by omega),show K3 (n+19)=some A2g from rfl,A0,Aqy (n+19) (n+4),A0]
 dsimp only
 cases r with
 | bad e a =>
  have hne:e≠0:=Lh hk hr hi
  obtain⟨X,p,g1,g2⟩:=h
  have g3:C3 (n+19) 0 l (i:Int) 0 0 Bz=some (X,p,e,a):=by
   rw[C3]
   have g1:C6 (n+18) (Bv (n+18)) 0 l Bz (n+18) (i:Int) 0 0 []=_:=g1
   rw[g1];rfl
  rw[g3,A0]
  dsimp only
  rw[show(e != 0)=true by rw[bne_iff_ne];exact hne,Ab];rfl
 | ok x tu =>
  have g3:C3 (n+19) 0 l (i:Int) 0 0 Bz=some (x,(tu:Int),0,0):=by
   rw[C3]
   have g1:C6 (n+18) (Bv (n+18)) 0 l Bz (n+18) (i:Int) 0 0 []=_:=h
   rw[g1];rfl
  rw[g3,A0]
  dsimp only
  rw[bne_self_eq_false,At]
  simp only[U7]
  by_cases c:200 < x.length
  ·rw[if_pos c,A6 (by omega),A2x (n+18) l i _ _ _ Bz (by omega)];rfl
  ·rw[if_neg c,Ap (by omega)]
theorem SameX.symm {x y:List Nd} (h:SameX x y):SameX y x:=⟨h.1.symm,h.2.2,h.2.1⟩
theorem SameS.symm {x y:St} (h:SameS x y):SameS y x:=⟨h.k.symm,h.r.symm,h.l.symm,h.n.symm,h.b.symm,h.c.symm,h.e.symm,h.f.symm⟩
theorem All2.symm:∀ {l m:List St},All2 l m→All2 m l
 | [],[],_=>trivial
 | _ :: l,_ :: m,h=>⟨h.1.symm,All2.symm h.2⟩
 | [],_ :: _,h=>h.elim
 | _ :: _,[],h=>h.elim
theorem Ak7 {l:List St} (h:Jk l=true):l.length≤200∧Ah2 l:=by
 obtain⟨F,f1,f2,_,hl,hx⟩:=Ux h
 refine⟨hl,fun x hx'=>?_⟩
 have h:=hx x hx'
 simp only[D7,A7] at h
 obtain⟨_,_,_,_,_,h3,h4,_⟩:=h
 have hL:∀ {c:Int} {l:List Nd},fL (Bn x.A9) c l=true→l.length≤250:=by
  intro c l hs
  unfold fL at hs
  split at hs
  ·rw[A7] at hs
   obtain⟨t,_,_,t3,_⟩:=Tz hs.2
   omega
  ·rw[beq_iff_eq] at hs;omega
 exact⟨hL h3,hL h4⟩
theorem Acf {T:Nat} {l:List Tk} (hk:Toks T l) {i tu:Nat} {x:List Nd} (hi:i≤l.length) (h:exQ l i=.ok x tu):(Kn x&&Dx x)=true:=by
 obtain⟨r,hr,e⟩:=Z3 hk hi
 rw[h] at e
 cases r with
 | bad e' a=>simp only[Nc] at e;cases e
 | ok y tv =>
  simp only[Nc] at e
  split at e
  ·cases e
  ·split at e
   ·cases e
   ·split at e
    ·rename_i c1 c2 c3
     cases e
     have hg:=Z4 hk.ok hr
     dsimp only at hg
     obtain⟨t,_,_,_,_,h5⟩:=A1p hg (by omega) (by omega)
     rw[c3,h5];rfl
    ·cases e
theorem Ag5 {B T:Nat} {l:List Tk} (hk:Toks T l) (hB:B < 1000000) (h:∀ t ∈ l,Um t∧t.Ao+t.Aa.length≤B) {i:Nat} {e a:Int} (hi:i≤l.length) (hx:exQ l i=.bad e a):0≤a∧a≤B:=by
 obtain⟨r,hr,e'⟩:=Z3 hk hi
 rw[hx] at e'
 cases r with
 | bad e2 a2=>simp only[Nc] at e';cases e';exact A9s hB h hr
 | ok y tv =>
  have hp:=Jz hB h i
  simp only[Nc] at e'
  split at e'
  ·cases e';exact hp
  ·split at e'
   ·cases e';exact hp
   ·split at e'
    ·cases e'
    ·cases e';exact hp
structure A30 (cs:List UInt8) (s s':Fs):Prop where
 r:if 114 ∈ cs then C9 s'.reg=true else s'.reg=s.reg
 l:if 108 ∈ cs then C9 s'.loc=true else s'.loc=s.loc
 e:if 101 ∈ cs then(Kn s'.e&&Dx s'.e)=true else s'.e=s.e
 f:if 102 ∈ cs then(Kn s'.f&&Dx s'.f)=true else s'.f=s.f
 n:113 ∉ cs→s'.ne=s.ne
theorem Vs {l:List Tk} {i:Nat} (h:isN l i=true):C9 (txt l i)=true:=by
 unfold isN at h
 cases hg:l[i]? with
 | none=>rw[hg] at h;cases h
 | some t=>rw[hg] at h;simp only[A7] at h;simp[txt,hg,h.2]
theorem Alf {T:Nat} {l:List Tk} (hk:Toks T l):∀ (cs:List UInt8) (i j:Nat) (s s':Fs),i≤l.length→(∀ c ∈ cs,c ∈ R1)→Ij l (exQ l) cs i s=.ok s' j→A30 cs s s':=by
 intro cs
 induction cs with
 | nil =>
  intro i j s s' hi _ h
  rw[Ij] at h;cases h
  exact⟨by simp,by simp,by simp,by simp,by simp⟩
 | cons c cs ih =>
  intro i j s s' hi hc h
  have hok:=A0e hk (c:=c) (s:=s) hi
  have hcc:=hc c (List.mem_cons_self ..)
  rw[Ij] at h
  have go:∀ s1 j1,Iu l (exQ l) c i s=.ok s1 j1→A30 cs s1 s':=by
   intro s1 j1 h1
   rw[h1] at h hok
   exact ih j1 j s1 s' hok.2 (fun d hd=>hc d (List.mem_cons_of_mem _ hd)) h
  have nb:∀ e a,Iu l (exQ l) c i s≠.bad e a:=by
   intro e a h1;rw[h1] at h;cases h
  simp only[R1,List.mem_cons,List.not_mem_nil,or_false] at hcc
  rcases hcc with rfl | rfl | rfl | rfl | rfl | rfl | rfl | rfl
  ·have e:Iu l (exQ l) 114 i s=if isN l i=true then .ok { s with reg:=txt l i } (i+1) else .bad (Gp l i) (Bj l i):=rfl
   by_cases hn:isN l i=true
   ·rw[if_pos hn] at e
    have g:=go _ _ e
    refine⟨?_,?_,?_,?_,fun hm=>?_⟩
    ·have:=g.r;rw[if_pos (List.mem_cons_self ..)]
     split at this
     ·exact this
     ·rw[this];exact Vs hn
    ·have:=g.l;simpa using this
    ·have:=g.e;simpa using this
    ·have:=g.f;simpa using this
    ·rw[g.n fun h=>hm (List.mem_cons_of_mem _ h)]
   ·rw[if_neg hn] at e;exact absurd e (nb _ _)
  ·have e:Iu l (exQ l) 108 i s=if isN l i=true then .ok { s with loc:=txt l i } (i+1) else .bad (Gp l i) (Bj l i):=rfl
   by_cases hn:isN l i=true
   ·rw[if_pos hn] at e
    have g:=go _ _ e
    refine⟨?_,?_,?_,?_,fun hm=>?_⟩
    ·have:=g.r;simpa using this
    ·have:=g.l;rw[if_pos (List.mem_cons_self ..)]
     split at this
     ·exact this
     ·rw[this];exact Vs hn
    ·have:=g.e;simpa using this
    ·have:=g.f;simpa using this
    ·rw[g.n fun h=>hm (List.mem_cons_of_mem _ h)]
   ·rw[if_neg hn] at e;exact absurd e (nb _ _)
  ·have e:Iu l (exQ l) 101 i s=match exQ l i with | .ok x tu=>.ok { s with e:=x } tu | .bad e a=>.bad e a:=rfl
   cases hx:exQ l i with
   | bad e' a=>rw[hx] at e;exact absurd e (nb _ _)
   | ok x tu =>
    rw[hx] at e
    have g:=go _ _ e
    refine⟨?_,?_,?_,?_,fun hm=>?_⟩
    ·have:=g.r;simpa using this
    ·have:=g.l;simpa using this
    ·have:=g.e;rw[if_pos (List.mem_cons_self ..)]
     split at this
     ·exact this
     ·rw[this];exact Acf hk hi hx
    ·have:=g.f;simpa using this
    ·rw[g.n fun h=>hm (List.mem_cons_of_mem _ h)]
  ·have e:Iu l (exQ l) 102 i s=match exQ l i with | .ok x tu=>.ok { s with f:=x } tu | .bad e a=>.bad e a:=rfl
   cases hx:exQ l i with
   | bad e' a=>rw[hx] at e;exact absurd e (nb _ _)
   | ok x tu =>
    rw[hx] at e
    have g:=go _ _ e
    refine⟨?_,?_,?_,?_,fun hm=>?_⟩
    ·have:=g.r;simpa using this
    ·have:=g.l;simpa using this
    ·have:=g.e;simpa using this
    ·have:=g.f;rw[if_pos (List.mem_cons_self ..)]
     split at this
     ·exact this
     ·rw[this];exact Acf hk hi hx
    ·rw[g.n fun h=>hm (List.mem_cons_of_mem _ h)]
  ·have e:Iu l (exQ l) 113 i s=if Bk l i [33,61]=true then FR.ok { s with ne:=true } (i+1) else if Bk l i [61,61]=true then .ok { s with ne:=false } (i+1) else .bad (Gp l i) (Bj l i):=rfl
   have fin:∀ b:Bool,A30 cs { s with ne:=b } s'→A30 (113 :: cs) s s':=fun b g=>by
    refine⟨?_,?_,?_,?_,fun hm=>absurd (List.mem_cons_self ..) hm⟩
    ·have:=g.r;simpa using this
    ·have:=g.l;simpa using this
    ·have:=g.e;simpa using this
    ·have:=g.f;simpa using this
   by_cases h1:Bk l i [33,61]=true
   ·rw[if_pos h1] at e;exact fin true (go _ _ e)
   ·rw[if_neg h1] at e
    by_cases h2:Bk l i [61,61]=true
    ·rw[if_pos h2] at e;exact fin false (go _ _ e)
    ·rw[if_neg h2] at e;exact absurd e (nb _ _)
  all_goals
   have fin:∀ d:UInt8,d≠114→d≠108→d≠101→d≠102→d≠113→A30 cs s s'→A30 (d :: cs) s s':=fun d d1 d2 d3 d4 d5 g=>by
    refine⟨?_,?_,?_,?_,fun hm=>g.n fun h=>hm (List.mem_cons_of_mem _ h)⟩
    ·have:=g.r;simpa [d1.symm] using this
    ·have:=g.l;simpa [d2.symm] using this
    ·have:=g.e;simpa [d3.symm] using this
    ·have:=g.f;simpa [d4.symm] using this
  ·have e:Iu l (exQ l) 61 i s=if Bk l i [61]=true then .ok s (i+1) else .bad (Gp l i) (Bj l i):=rfl
   by_cases h1:Bk l i [61]=true
   ·rw[if_pos h1] at e;exact fin 61 (by decide) (by decide) (by decide) (by decide) (by decide) (go _ _ e)
   ·rw[if_neg h1] at e;exact absurd e (nb _ _)
  ·have e:Iu l (exQ l) 59 i s=if Bk l i [59]=true then .ok s (i+1) else .bad (Gp l i) (Bj l i):=rfl
   by_cases h1:Bk l i [59]=true
   ·rw[if_pos h1] at e;exact fin 59 (by decide) (by decide) (by decide) (by decide) (by decide) (go _ _ e)
   ·rw[if_neg h1] at e;exact absurd e (nb _ _)
  ·have e:Iu l (exQ l) 44 i s=if Bk l i [44]=true then .ok s (i+1) else .bad (Gp l i) (Bj l i):=rfl
   by_cases h1:Bk l i [44]=true
   ·rw[if_pos h1] at e;exact fin 44 (by decide) (by decide) (by decide) (by decide) (by decide) (go _ _ e)
   ·rw[if_neg h1] at e;exact absurd e (nb _ _)
theorem A7y {T:Nat} {l:List Tk} (hk:Toks T l) {i j:Nat} {s:Fs} (h0:Aw l i≠0) (h:Ij l (exQ l) (Bn (Aw l i)) (i+1) fs0=.ok s j) (b c:Nat) (hb:Cy (Aw l i)=false→b=0) (hc:Aw l i≠10→c=0):D7 (mkS (Aw l i) s b c (Bj l i))=true:=by
 have hlt:=Cj h0
 have g:=Alf hk (Bn (Aw l i)) (i+1) j fs0 s hlt (Q0 _) h
 have hin:=A98 l i
 have hat:0≤Bj l i:=by
  rw[hk.at' hlt];exact(hk.ok _ (List.getElem_mem hlt)).1
 unfold D7
 simp only[A7]
 refine⟨decide_eq_true (show 1≤Aw l i∧Aw l i≤13 by omega),?_,?_,?_,?_,?_,?_,?_,?_⟩
 ·show(!decide (Bj l i < 0))=true
  rw[decide_eq_false (by omega)];rfl
 ·show(!s.ne || I6 (Bn (Aw l i)) 113)=true
  by_cases m:(113:UInt8) ∈ Bn (Aw l i)
  ·have:I6 (Bn (Aw l i)) 113=true:=Q5 m
   rw[this];simp
  ·rw[g.n m];rfl
 ·show fN (Bn (Aw l i)) 114 s.reg=true
  have:=g.r
  unfold fN
  by_cases m:(114:UInt8) ∈ Bn (Aw l i)
  ·rw[if_pos m] at this;rw[if_pos (show I6 (Bn (Aw l i)) 114=true from Q5 m)];exact this
  ·rw[if_neg m] at this;rw[if_neg (by rw[show I6 (Bn (Aw l i)) 114=false from Q4 m];simp),this];rfl
 ·show fN (Bn (Aw l i)) 108 s.loc=true
  have:=g.l
  unfold fN
  by_cases m:(108:UInt8) ∈ Bn (Aw l i)
  ·rw[if_pos m] at this;rw[if_pos (show I6 (Bn (Aw l i)) 108=true from Q5 m)];exact this
  ·rw[if_neg m] at this;rw[if_neg (by rw[show I6 (Bn (Aw l i)) 108=false from Q4 m];simp),this];rfl
 ·show fL (Bn (Aw l i)) 101 s.e=true
  have:=g.e
  unfold fL
  by_cases m:(101:UInt8) ∈ Bn (Aw l i)
  ·rw[if_pos m] at this;rw[if_pos (show I6 (Bn (Aw l i)) 101=true from Q5 m)];exact this
  ·rw[if_neg m] at this;rw[if_neg (by rw[show I6 (Bn (Aw l i)) 101=false from Q4 m];simp),this];rfl
 ·show fL (Bn (Aw l i)) 102 s.f=true
  have:=g.f
  unfold fL
  by_cases m:(102:UInt8) ∈ Bn (Aw l i)
  ·rw[if_pos m] at this;rw[if_pos (show I6 (Bn (Aw l i)) 102=true from Q5 m)];exact this
  ·rw[if_neg m] at this;rw[if_neg (by rw[show I6 (Bn (Aw l i)) 102=false from Q4 m];simp),this];rfl
 ·show(Cy (Aw l i) || (b:Int)==0)=true
  cases hbl:Cy (Aw l i) with
  | true=>rfl
  | false=>rw[hb hbl];rfl
 ·show(Aw l i==10 || (c:Int)==0)=true
  by_cases k10:Aw l i=10
  ·rw[k10];rfl
  ·rw[hc k10];simp
def Amb (inn:Nat):SR→Prop
 | .ok x _=>∃ F:SF,F.wf∧F.flat=x∧F.dep+inn≤30∧∀ y ∈ x,D7 y=true
 | .bad _ _=>True
theorem Ari {T:Nat} {l:List Tk} (hk:Toks T l) {md:Bool} {inn i:Nat} {r:SR} (h:SE l md inn i r):i≤l.length→inn≤30→if md then(match r with | .ok x _=>inn < 30∧Amb (inn+1) r | _=>True) else Amb inn r:=by
 induction h with
 | stop h=>intro hi hn;exact⟨.nil,trivial,rfl,by simp[SF.dep];omega,by simp⟩
 | no h1 h2 h3=>intro hi hn;trivial
 | fbad h1 h2=>intro hi hn;trivial
 | @simple inn i j s r h1 h2 h3 h4 ih =>
  intro hi hn
  have h5:=H4 hk (Cj h1) h3
  have ih:=ih h5.2 hn
  simp only[Bool.false_eq_true,if_false] at ih ⊢
  cases r with
  | bad e a=>trivial
  | ok x tu =>
   obtain⟨F,f1,f2,f3,f4⟩:=ih
   refine⟨.cons (mkS (Aw l i) s 0 0 (Bj l i)) .nil .nil F,⟨rfl,rfl,trivial,trivial,f1⟩,by simp[SF.flat,f2],?_,?_⟩
   ·simp only[SF.dep,mkS,h2];simp;omega
   ·intro y hy
    rcases List.mem_append.1 hy with hy | hy
    ·rw[List.mem_singleton] at hy;subst hy
     exact A7y hk h1 h3 0 0 (fun _=>rfl) (fun _=>rfl)
    ·exact f4 y hy
 | bbad h1 h2 h3 h4 ih=>intro hi hn;trivial
 | @blk inn i j j2 s b r h1 h2 h3 h4 h5 h6 ih1 ih2 =>
  intro hi hn
  have h7:=H4 hk (Cj h1) h3
  have h8:=Lh hk h4 h7.2
  simp only[Mr,if_true] at h8
  have ih1:=ih1 h7.2 hn
  simp only[if_true] at ih1
  have ih2:=ih2 h8.2.1 hn
  simp only[Bool.false_eq_true,if_false] at ih2 ⊢
  cases r with
  | bad e a=>trivial
  | ok x tu =>
   obtain⟨i1,A,a1,a2,a3,a4⟩:=ih1
   obtain⟨F,f1,f2,f3,f4⟩:=ih2
   refine⟨.cons (mkS (Aw l i) s b.length 0 (Bj l i)) A .nil F,⟨by rw[a2];rfl,rfl,a1,trivial,f1⟩,by simp[SF.flat,f2,a2],?_,?_⟩
   ·simp only[SF.dep,mkS,h2];simp;omega
   ·intro y hy
    rcases List.mem_append.1 hy with hy | hy
    ·rcases List.mem_cons.1 hy with rfl | hy
     ·exact A7y hk h1 h3 b.length 0 (fun e=>by rw[e] at h2;cases h2) (fun _=>rfl)
     ·exact a4 y hy
    ·exact f4 y hy
 | ebad h1 h3 h4 h5 h6 ih1 ih2=>intro hi hn;trivial
 | @els inn i j j2 j3 s b c r h1 h3 h4 h5 h6 h7 ih1 ih2 ih3 =>
  intro hi hn
  have h0:Aw l i≠0:=by omega
  have h8:=H4 hk (Cj h0) h3
  have hj:=Mh h5
  have h11:=Lh hk h6 hj
  simp only[Mr,if_true] at h11
  have ih1:=ih1 h8.2 hn
  simp only[if_true] at ih1
  have ih2:=ih2 hj hn
  simp only[if_true] at ih2
  have ih3:=ih3 h11.2.1 hn
  simp only[Bool.false_eq_true,if_false] at ih3 ⊢
  cases r with
  | bad e a=>trivial
  | ok x tu =>
   obtain⟨i1,A,a1,a2,a3,a4⟩:=ih1
   obtain⟨i2,B,b1,b2,b3,b4⟩:=ih2
   obtain⟨F,f1,f2,f3,f4⟩:=ih3
   refine⟨.cons (mkS (Aw l i) s b.length c.length (Bj l i)) A B F,⟨by rw[a2];rfl,by rw[b2];rfl,a1,b1,f1⟩,by simp[SF.flat,f2,a2,b2],?_,?_⟩
   ·have hb:Cy (Aw l i)=true:=by rw[h1];rfl
    have e:(SF.cons (mkS (Aw l i) s b.length c.length (Bj l i)) A B F).dep=max (max (1+A.dep) (1+B.dep)) F.dep:=by
     show max (if Cy (Aw l i)=true then _ else 0) _=_
     rw[if_pos hb]
    rw[e];omega
   ·intro y hy
    rcases List.mem_append.1 hy with hy | hy
    ·rcases List.mem_cons.1 hy with rfl | hy
     ·exact A7y hk h0 h3 b.length c.length (fun e=>by rw[h1] at e;exact absurd e (by decide)) (fun e=>absurd h1 e)
     ·rcases List.mem_append.1 hy with hy | hy
      ·exact a4 y hy
      ·exact b4 y hy
    ·exact f4 y hy
 | nob h=>intro hi hn;trivial
 | deep h1 h2=>intro hi hn;trivial
 | sbad h1 h2 h3 ih=>intro hi hn;trivial
 | close h1 h2 h3 h4 ih =>
  intro hi hn
  have:=ih (Dn h1) (by omega)
  simp only[Bool.false_eq_true,if_false] at this
  exact⟨h2,this⟩
 | opn h1 h2 h3 h4 ih=>intro hi hn;trivial
def W9 (B:Nat):FR→Prop
 | .bad _ a=>0≤a∧a≤B
 | .ok _ _=>True
theorem Ac7 {B T:Nat} {l:List Tk} (hk:Toks T l) (hB:B < 1000000) (h:∀ t ∈ l,Um t∧t.Ao+t.Aa.length≤B) {e a:Int}:∀ (cs:List UInt8) (i:Nat) (s:Fs),i≤l.length→Ij l (exQ l) cs i s=.bad e a→0≤a∧a≤B
 | [],i,s,hi,hx=>by rw[Ij] at hx;cases hx
 | c :: cs,i,s,hi,hx=>by
  have hok:=A0e hk (c:=c) (s:=s) hi
  have hp:=Jz hB h i
  have hst:W9 B (Iu l (exQ l) c i s):=by
   unfold Iu
   refine Ef (Q:=W9 B) (fun _=>Ef (Q:=W9 B) (fun _=>trivial) fun _=>hp) fun _=>Ef (Q:=W9 B) (fun _=>Ef (Q:=W9 B) (fun _=>trivial) fun _=>hp) fun _=>Ef (Q:=W9 B) (fun _=>?_) fun _=>Ef (Q:=W9 B) (fun _=>?_) fun _=>Ef (Q:=W9 B) (fun _=>Ef (Q:=W9 B) (fun _=>trivial) fun _=>Ef (Q:=W9 B) (fun _=>trivial) fun _=>hp) fun _=>Ef (Q:=W9 B) (fun _=>trivial) fun _=>hp
   ·cases hx2:exQ l i with
    | ok x tu=>trivial
    | bad e a=>exact Ag5 hk hB h hi hx2
   ·cases hx2:exQ l i with
    | ok x tu=>trivial
    | bad e a=>exact Ag5 hk hB h hi hx2
  rw[Ij] at hx
  revert hx hok hst
  cases Iu l (exQ l) c i s with
  | bad e' a'=>intro hx _ hst;cases hx;exact hst
  | ok s2 j2=>intro hx hok _;exact Ac7 hk hB h cs j2 s2 hok.2 hx
theorem Ate {B T:Nat} {l:List Tk} (hk:Toks T l) (hB:B < 1000000) (h:∀ t ∈ l,Um t∧t.Ao+t.Aa.length≤B) {md:Bool} {inn i:Nat} {r:SR} (hs:SE l md inn i r):i≤l.length→match r with | .bad _ a=>0≤a∧a≤B | _=>True:=by
 induction hs with
 | stop _=>intro hi;trivial
 | no h1 h2 h3=>intro hi;exact Jz hB h _
 | fbad h1 h2=>intro hi;exact Ac7 hk hB h _ _ _ (Cj h1) h2
 | @simple inn i j s r h1 h2 h3 h4 ih =>
  intro hi
  have:=ih (H4 hk (Cj h1) h3).2
  cases r with
  | ok x tu=>trivial
  | bad e a=>exact this
 | bbad h1 h2 h3 h4 ih=>intro hi;exact ih (H4 hk (Cj h1) h3).2
 | @blk inn i j j2 s b r h1 h2 h3 h4 h5 h6 ih1 ih2 =>
  intro hi
  have h7:=H4 hk (Cj h1) h3
  have h8:=Lh hk h4 h7.2
  simp only[Mr,if_true] at h8
  have:=ih2 h8.2.1
  cases r with
  | ok x tu=>trivial
  | bad e a=>exact this
 | ebad h1 h3 h4 h5 h6 ih1 ih2=>intro hi;exact ih2 (Mh h5)
 | @els inn i j j2 j3 s b c r h1 h3 h4 h5 h6 h7 ih1 ih2 ih3 =>
  intro hi
  have h11:=Lh hk h6 (Mh h5)
  simp only[Mr,if_true] at h11
  have:=ih3 h11.2.1
  cases r with
  | ok x tu=>trivial
  | bad e a=>exact this
 | nob _=>intro hi;exact Jz hB h _
 | deep h1 h2=>intro hi;exact Jz hB h _
 | sbad h1 h2 h3 ih=>intro hi;exact ih (Dn h1)
 | close h1 h2 h3 h4 ih=>intro hi;trivial
 | opn h1 h2 h3 h4 ih=>intro hi;exact Jz hB h _
def LightX (x:St):Prop:=x.Eu.length≤100∧x.Ev.length≤100∧Jj x.Ct=true∧Jj x.Ih=true
abbrev Pg:=Ba
abbrev Th:=Ag
abbrev Cl:=Aj
abbrev Va:=Be
structure Adb (t:Th):Prop where
 name:t.Ai.length≤100
 regs:t.B5.length≤4000
 reg:∀ r ∈ t.B5,r.length≤100
 body:t.Ax.length≤250
 st:∀ x ∈ t.Ax,LightX x
structure Ql (p:Pg):Prop where
 locs:p.Au.length≤4000
 threads:p.Ac.length≤4000
 claims:p.Al.length≤4000
 loc:∀ v ∈ p.Au,v.Ai.length≤100
 thr:∀ t ∈ p.Ac,Adb t
 cl:∀ c ∈ p.Al,Jj c.Ct=true
def A0n (n:Int):Bool:=decide (0≤n∧n≤9999)
def Kx (v:Va):Bool:=C9 v.Ai&&(A0n v.Bs&&decide (0≤v.Ao))
def Ki (t:Th):Bool:=C9 t.Ai&&(decide (0≤t.Ao)&&(Jk t.Ax&&t.B5.all C9))
def clB (l:List Nd):Bool:=(l.filter Fa).all fun x=>!(x.As==2)
def Kk (c:Cl):Bool:=clB c.Ct&&(decide (1≤c.A9∧c.A9≤3)&&(Dx c.Ct&&decide (0≤c.Ao)))
def G6 (p:Pg):Bool:=A0n p.Bm&&(p.Au.all Kx&&(p.Ac.all Ki&&p.Al.all Kk))
theorem App (n:Nat) (x:Int):M4 (n+1) x=some (A0n x):=by
 rw[M4,A0n]
 by_cases h:0≤x
 ·rw[A6 h];by_cases h2:x≤9999<;>simp[h,h2]
 ·rw[Ap h];simp[h]
theorem Abt (n:Nat) (s:List UInt8):Dg (n+1) s=some (C9 s):=by simp only[Dg]
theorem A6t {b:Bool}:((bif b then some (.out ()) else some (.ret false)):Option (LR Unit Bool)).bind (fun o=>match o with | .out _=>some true | .ret v=>some v)=some b:=by cases b<;>rfl
theorem As6 (n:Nat) (t:Th) (hr:t.B5.length≤4000) (hn:4100 < n):Pc n ((t.B5.length:Nat):Int) t.Ai t.B5 t.Ax t.Ao=some (t.B5.all C9):=by
 obtain⟨n,rfl⟩:∃ j,n=j+3:=⟨n - 3,by omega⟩
 have hL:Hy (n+2) ((t.B5.length:Nat):Int) t.Ai t.B5 t.Ax t.Ao (n+2) 0=bif t.B5.all C9 then some (.out ()) else some (.ret false):=by
  refine Re t.B5 (fun q i=>Hy (n+2) ((t.B5.length:Nat):Int) t.Ai t.B5 t.Ax t.Ao q (i:Int)) _ (fun q=>?_) (fun q i x hi hx=>?_) (by omega)
  ·rw[Hy,Ap (by omega)]
  ·rw[Hy,A6 (by omega),Ot,Cz hx,A0,Abt,A0,A0,Bg i (by omega)]
 rw[Pc,hL];exact A6t
theorem LightX.lens {l:List St} (h:∀ x ∈ l,LightX x):Ah2 l:=by
 intro x hx
 obtain⟨_,_,h3,h4⟩:=h x hx
 simp only[Jj,A7,B3] at h3 h4
 exact⟨h3.1,h4.1⟩
theorem Au7 (n:Nat) (t:Th) (h:Adb t) (hn:5100 < n):O8 n t=some (Ki t):=by
 obtain⟨n,rfl⟩:∃ j,n=j+2:=⟨n - 2,by omega⟩
 rw[O8,Abt,A0,Adc (n+1) t.Ax (by have:=h.body;omega) (LightX.lens h.st) (by omega),As6 (n+1) t h.regs (by omega)]
 unfold Ki
 by_cases c:0≤t.Ao
 ·rw[A6 c,decide_eq_true c]
  cases C9 t.Ai<;>cases Jk t.Ax<;>rfl
 ·rw[Ap c,decide_eq_false c]
  cases C9 t.Ai<;>rfl
theorem Au6 {F:Nat→Int→Option (LR Unit Bool)} (l:List Nd) (h0:∀ k,F (k+1) ((l.length:Nat):Int)=some (.out ())) (h1:∀ k i x,i < l.length→l[i]?=some x→F (k+1) (i:Int)=bif x.As==2 then some (.ret false) else F k ((i+1:Nat):Int)) {k:Nat} (hk:l.length < k):F k 0=bif l.all (fun x=>!(x.As==2)) then some (.out ()) else some (.ret false):=by
 refine Re l (fun k i=>F k (i:Int)) _ (fun k=>h0 k) (fun k i x hi hx=>?_) hk
 rw[h1 k i x hi hx]
 cases x.As==2<;>rfl
theorem Ata (n:Nat) (k:Int):∃ w,Jq (n+1) k=some w∧(w==([]:List UInt8))=!decide (1≤k∧k≤3):=by
 by_cases h:1≤k∧k≤3
 ·have c:k=1∨k=2∨k=3:=by omega
  rcases c with rfl | rfl | rfl<;>exact⟨_,rfl,rfl⟩
 ·refine⟨[],?_,by rw[decide_eq_false h];rfl⟩
  rw[Jq,C8.2 (show k≠1 by omega),C8.2 (show k≠2 by omega),C8.2 (show k≠3 by omega)];rfl
theorem Avd (n:Nat) (c:Cl) (h:Jj c.Ct=true) (hn:600 < n):Pb n c=some (Kk c):=by
 have h0:c.Ct.length≤250:=by simp only[Jj,A7,B3] at h;exact h.1
 have hf:(c.Ct.filter Fa).length≤c.Ct.length:=List.length_filter_le ..
 obtain⟨n,rfl⟩:∃ j,n=j+2:=⟨n - 2,by omega⟩
 have hL:=Au6 (F:=fun k i=>Ja (n+1) (c.Ct.filter Fa) k i) (c.Ct.filter Fa) (fun k=>by rw[Ja,Ap (by omega)]) (fun k i y hi hy=>by rw[Ja,A6 (by omega),Cz hy,A0,Bg i (by omega)]) (k:=n+1) (by omega)
 obtain⟨w,w1,w2⟩:=Ata n c.A9
 rw[Pb,A7p (n+1) c.Ct (by omega) (by omega),A0,hL,w1,T7 (n+1) c.Ct (by omega) (by omega)]
 unfold Kk clB
 cases (c.Ct.filter Fa).all (fun x=>!(x.As==2)) with
 | false=>rfl
 | true =>
  simp only[Ab,A0,w2]
  cases decide (1≤c.A9∧c.A9≤3)<;>cases Dx c.Ct<;>rfl
theorem A8f (n:Nat) (p:Pg) (h:Ql p) (hn:6000 < n):Ka n p=some (G6 p):=by
 have hl:=h.locs
 have ht:=h.threads
 have hc:=h.claims
 obtain⟨n,rfl⟩:∃ j,n=j+4:=⟨n - 4,by omega⟩
 have h1:Ss (n+3) ((p.Au.length:Nat):Int) p.Bm p.Au p.Ac p.Al=some (p.Au.all Kx):=by
  have hL:Js (n+2) ((p.Au.length:Nat):Int) p.Bm p.Au p.Ac p.Al (n+2) 0=bif p.Au.all Kx then some (.out ()) else some (.ret false):=by
   refine Re p.Au (fun q i=>Js (n+2) ((p.Au.length:Nat):Int) p.Bm p.Au p.Ac p.Al q (i:Int)) _ (fun q=>?_) (fun q i x hi hx=>?_) (by omega)
   ·rw[Js,Ap (by omega)]
   ·rw[Js,A6 (by omega),Pu,Cz hx,A0,Abt,A0,App,A0,Bg i (by omega)]
    unfold Kx
    cases C9 x.Ai<;>cases A0n x.Bs<;>rfl
  rw[Ss,hL];exact A6t
 have h2:P8 (n+3) ((p.Ac.length:Nat):Int) p.Bm p.Au p.Ac p.Al=some (p.Ac.all Ki):=by
  have hL:Hw (n+2) ((p.Ac.length:Nat):Int) p.Bm p.Au p.Ac p.Al (n+2) 0=bif p.Ac.all Ki then some (.out ()) else some (.ret false):=by
   refine Re p.Ac (fun q i=>Hw (n+2) ((p.Ac.length:Nat):Int) p.Bm p.Au p.Ac p.Al q (i:Int)) _ (fun q=>?_) (fun q i x hi hx=>?_) (by omega)
   ·rw[Hw,Ap (by omega)]
   ·rw[Hw,A6 (by omega),Qa,Cz hx,A0,Au7 _ x (h.thr x (List.mem_of_getElem? hx)) (by omega),A0,A0,Bg i (by omega)]
  rw[P8,hL];exact A6t
 have h3:Pi (n+3) ((p.Al.length:Nat):Int) p.Bm p.Au p.Ac p.Al=some (p.Al.all Kk):=by
  have hL:Hx (n+2) ((p.Al.length:Nat):Int) p.Bm p.Au p.Ac p.Al (n+2) 0=bif p.Al.all Kk then some (.out ()) else some (.ret false):=by
   refine Re p.Al (fun q i=>Hx (n+2) ((p.Al.length:Nat):Int) p.Bm p.Au p.Ac p.Al q (i:Int)) _ (fun q=>?_) (fun q i x hi hx=>?_) (by omega)
   ·rw[Hx,Ap (by omega)]
   ·rw[Hx,A6 (by omega),Q2,Cz hx,A0,Avd _ x (h.cl x (List.mem_of_getElem? hx)) (by omega),A0,A0,Bg i (by omega)]
  rw[Pi,hL];exact A6t
 rw[Ka,h1,App,h2,h3]
 unfold G6
 simp only[A0]
 cases A0n p.Bm<;>cases p.Au.all Kx<;>cases p.Ac.all Ki<;>rfl
abbrev Ps:=Nat×Int×Int
def wr (l:List Tk) (s:Ps):Ps:=bif s.2.1==0 then(s.1,Gp l s.1,Bj l s.1) else s
def A22 (l:List Tk) (i:Nat) (w:List UInt8):Bool:=match l[i]? with
 | some t=>t.A9==1&&t.Aa==w
 | none=>false
def C5 (w:List UInt8) (l:List Tk) (s:Ps):Bool:=s.2.1==0&&A22 l s.1 w
def sgF (w:List UInt8) (l:List Tk) (s:Ps):Ps:=bif s.2.1==0&&Bk l s.1 w then(s.1+1,s.2) else wr l s
def Y5 (l:List Tk) (i:Nat):Int:=match l[i]? with | some t=>t.Bs | none=>0
def atA (l:List Tk) (i:Nat):Int:=match l[i]? with | some t=>t.Ao | none=>0
def nmF (l:List Tk) (s:Ps):List UInt8×Ps:=bif s.2.1==0&&isN l s.1 then(txt l s.1,(s.1+1,s.2)) else([],wr l s)
def nuF (l:List Tk) (s:Ps):Int×Ps:=bif s.2.1==0&&isK l s.1 then(Y5 l s.1,(s.1+1,s.2)) else(0,wr l s)
def Pj (l:List Tk) (s:Ps):Va×Ps:=(⟨(nmF l (s.1+1,s.2)).1,(nuF l (sgF [61] l (nmF l (s.1+1,s.2)).2)).1,atA l s.1⟩,sgF [59] l (nuF l (sgF [61] l (nmF l (s.1+1,s.2)).2)).2)
def F8 (l:List Tk):Nat→Ps→List Va→List Va×Ps
 | 0,s,acc=>(acc,s)
 | k+1,s,acc=>bif C5 [108,111,99] l s then F8 l k (Pj l s).2 (acc++[(Pj l s).1]) else(acc,s)
def Ej (l:List Tk):Nat→Ps→List (List UInt8)→List (List UInt8)×Ps
 | 0,s,acc=>(acc,s)
 | k+1,s,acc=>bif s.2.1==0&&Bk l s.1 [44] then Ej l k (nmF l (s.1+1,s.2)).2 (acc++[(nmF l (s.1+1,s.2)).1]) else(acc,s)
open Classical in
noncomputable def seQ (l:List Tk) (i:Nat):Ahz:=if h:∃ r,SE l false 0 i r then U7 l i h.choose else([],0,6,0)
open Classical in
noncomputable def peQ (l:List Tk) (i:Nat):List Nd×Int×Int×Int:=if h:∃ r,PE l (.fl 0) 0 i r then Np l i h.choose else([],0,6,0)
def faF (s:Int×Int) (e a:Int):Int×Int:=bif s.1==0 then bif e != 0 then(e,a) else s else s
def H7 (l:List Tk) (s:Ps):List (List UInt8)×Ps:=bif C5 [114,101,103] l s then((Ej l (l.length+2) (nmF l (s.1+1,s.2)).2 [(nmF l (s.1+1,s.2)).1]).1,sgF [59] l (Ej l (l.length+2) (nmF l (s.1+1,s.2)).2 [(nmF l (s.1+1,s.2)).1]).2) else([],s)
noncomputable def Lp (l:List Tk) (s:Ps):List St×Ps:=bif s.2.1==0 then((seQ l s.1).1,sgF [125] l ((seQ l s.1).2.1.toNat,faF s.2 (seQ l s.1).2.2.1 (seQ l s.1).2.2.2)) else([],sgF [125] l s)
noncomputable def Nr (l:List Tk) (s:Ps):Th×Ps:=(⟨(nmF l (s.1+1,s.2)).1,(H7 l (sgF [123] l (nmF l (s.1+1,s.2)).2)).1,(Lp l (H7 l (sgF [123] l (nmF l (s.1+1,s.2)).2)).2).1,atA l s.1⟩,(Lp l (H7 l (sgF [123] l (nmF l (s.1+1,s.2)).2)).2).2)
noncomputable def G3 (l:List Tk):Nat→Ps→List Th→List Th×Ps
 | 0,s,acc=>(acc,s)
 | k+1,s,acc=>bif C5 [116,104,114,101,97,100] l s then G3 l k (Nr l s).2 (acc++[(Nr l s).1]) else(acc,s)
def cwS:List (List UInt8):=[[],[102,111,114,97,108,108],[101,120,105,115,116,115],[97,108,119,97,121,115]]
def Hv (l:List Tk) (s:Ps):Int:=bif C5 [102,111,114,97,108,108] l s then 1 else bif C5 [101,120,105,115,116,115] l s then 2 else bif C5 [97,108,119,97,121,115] l s then 3 else 0
def J2 (x:Nd):Nd:=if x.As=2 then⟨3,x.Bs,x.Ai,x.D5,x.Ao⟩ else x
noncomputable def clF (k:Int) (l:List Tk) (s:Ps):Cl×Ps:=(⟨k,(peQ l (s.1+1)).1.map J2,atA l s.1⟩,sgF [59] l (if(faF s.2 (peQ l (s.1+1)).2.2.1 (peQ l (s.1+1)).2.2.2).1=0 then(peQ l (s.1+1)).2.1.toNat else s.1+1,faF s.2 (peQ l (s.1+1)).2.2.1 (peQ l (s.1+1)).2.2.2))
noncomputable def Is (l:List Tk):Nat→Ps→List Cl→List Cl×Ps
 | 0,s,acc=>(acc,s)
 | k+1,s,acc=>bif decide (0 < Hv l s) then Is l k (clF (Hv l s) l s).2 (acc++[(clF (Hv l s) l s).1]) else(acc,s)
def noP:Pg:=⟨0,[],[],[]⟩
def Ge (l:List Tk):Int×Ps:=(fun r:Int×Ps=>(r.1,sgF [59] l r.2)) (nuF l (bif C5 [109,111,100] l (0,0,0) then(1,0,0) else wr l (0,0,0)))
def N7 (l:List Tk) (s:Ps):Ps:=bif decide (s.1 < l.length) then wr l s else s
noncomputable def Mb (l:List Tk):Pg×Int×Int :=
 (fun r:Int×Ps=>(fun v:List Va×Ps=>(fun t:List Th×Ps=>(fun c:List Cl×Ps=>(fun s:Ps=>bif s.2.1 != 0 then(noP,s.2) else(⟨r.1,v.1,t.1,c.1⟩,0,0)) (N7 l c.2)) (Is l (l.length+2) t.2 [])) (G3 l (l.length+2) v.2 [])) (F8 l (l.length+2) r.2 [])) (Ge l)
noncomputable def Iv (s:List UInt8):Pg×Int×Int:=bif (Gz s).err != 0 then(noP,(Gz s).err,((Gz s).at':Int)) else Mb (Qx s)
def Cn (l:List Tk) (s:Ps):Prop:=s.1≤l.length
theorem A4r (l:List Tk) (s:Ps):(wr l s).1=s.1:=by unfold wr;cases s.2.1==0<;>rfl
theorem Adr (l:List Tk) (s:Ps):(wr l s).2.1≠0:=by
 unfold wr
 cases h:s.2.1==0 with
 | true=>exact W7 l s.1
 | false=>rw[beq_eq_false_iff_ne] at h;exact h
theorem A88 {l:List Tk} {i:Nat} {w:List UInt8} (h:Bk l i w=true):i < l.length:=by
 unfold Bk at h
 cases hx:l[i]? with
 | none=>rw[hx] at h;cases h
 | some t=>exact(List.getElem?_eq_some_iff.1 hx).1
theorem Aqa {l:List Tk} {i:Nat} {w:List UInt8} (h:A22 l i w=true):i < l.length:=by
 unfold A22 at h
 cases hx:l[i]? with
 | none=>rw[hx] at h;cases h
 | some t=>exact(List.getElem?_eq_some_iff.1 hx).1
theorem Amj {l:List Tk} {i:Nat} (h:isK l i=true):i < l.length:=by
 unfold isK at h
 cases hx:l[i]? with
 | none=>rw[hx] at h;cases h
 | some t=>exact(List.getElem?_eq_some_iff.1 hx).1
theorem At9 {l:List Tk} {i:Nat} (h:i < l.length):txt l i=l[i].Aa:=by unfold txt;rw[Ar h]
theorem Atf {l:List Tk} {i:Nat} (h:i < l.length):Y5 l i=l[i].Bs:=by unfold Y5;rw[Ar h]
theorem Ah6 {l:List Tk} {i:Nat} (h:i < l.length):atA l i=l[i].Ao:=by unfold atA;rw[Ar h]
theorem Nb {w:List UInt8} {l:List Tk} {s:Ps} (h:Cn l s):Cn l (sgF w l s):=by
 unfold sgF
 cases c:s.2.1==0&&Bk l s.1 w with
 | true=>rw[A7] at c;have:=A88 c.2;exact this
 | false=>rw[At];unfold Cn;rw[A4r];exact h
theorem A70 {w:List UInt8} {l:List Tk} {s:Ps}:((sgF w l s).1=s.1+1∧Bk l s.1 w=true∧s.2.1=0∧(sgF w l s).2=s.2)∨((sgF w l s).2.1≠0∧(sgF w l s).1=s.1):=by
 unfold sgF
 cases c:s.2.1==0&&Bk l s.1 w with
 | true=>rw[A7,beq_iff_eq] at c;exact .inl ⟨rfl,c.2,c.1,rfl⟩
 | false=>exact .inr ⟨Adr l s,A4r l s⟩
theorem Ac9 {l:List Tk} {s:Ps}:((nmF l s).2.1=s.1+1∧isN l s.1=true∧s.2.1=0∧(nmF l s).1=txt l s.1∧(nmF l s).2.2=s.2)∨((nmF l s).2.2.1≠0∧(nmF l s).2.1=s.1∧(nmF l s).1=[]):=by
 unfold nmF
 cases c:s.2.1==0&&isN l s.1 with
 | true=>rw[A7,beq_iff_eq] at c;exact .inl ⟨rfl,c.2,c.1,rfl,rfl⟩
 | false=>exact .inr ⟨Adr l s,A4r l s,rfl⟩
theorem Ae1 {l:List Tk} {s:Ps}:((nuF l s).2.1=s.1+1∧isK l s.1=true∧s.2.1=0∧(nuF l s).1=Y5 l s.1∧(nuF l s).2.2=s.2)∨((nuF l s).2.2.1≠0∧(nuF l s).2.1=s.1):=by
 unfold nuF
 cases c:s.2.1==0&&isK l s.1 with
 | true=>rw[A7,beq_iff_eq] at c;exact .inl ⟨rfl,c.2,c.1,rfl,rfl⟩
 | false=>exact .inr ⟨Adr l s,A4r l s⟩
theorem Qt {l:List Tk} {s:Ps} (h:Cn l s):Cn l (nmF l s).2:=by
 rcases Ac9 (l:=l) (s:=s) with ⟨h1,h2,_⟩ | ⟨_,h2,_⟩
 ·unfold Cn;rw[h1];have:=Ue h2;omega
 ·unfold Cn;rw[h2];exact h
theorem Aea {l:List Tk} {s:Ps} (h:Cn l s):Cn l (nuF l s).2:=by
 rcases Ae1 (l:=l) (s:=s) with ⟨h1,h2,_⟩ | ⟨_,h2⟩
 ·unfold Cn;rw[h1];have:=Amj h2;omega
 ·unfold Cn;rw[h2];exact h
theorem Kt {l:List Tk} {w:List UInt8} {s:Ps} (h:C5 w l s=true):s.1 < l.length∧s.2.1=0:=by
 rw[C5,A7,beq_iff_eq] at h;exact⟨Aqa h.2,h.1⟩
def Gc (l:List Tk) (s:Ps):Nat:=bif s.2.1==0 then l.length - s.1+1 else 0
theorem Vw {l:List Tk} {s t:Ps} (h0:s.2.1=0) (hs:Cn l s) (h:t.2.1≠0∨s.1 < t.1) (ht:Cn l t):Gc l t < Gc l s:=by
 unfold Gc Cn at *
 rw[h0]
 cases hc:t.2.1==0 with
 | true =>
  rw[beq_iff_eq] at hc
  rcases h with h | h
  ·exact absurd hc h
  ·show l.length - t.1+1 < l.length - s.1+1;omega
 | false=>show 0 < l.length - s.1+1;omega
theorem Rs {l:List Tk} {s:Ps}:Gc l s≤l.length+1:=by unfold Gc;cases s.2.1==0<;>simp<;>omega
theorem Zm {w:List UInt8} {l:List Tk} {s:Ps}:s.1≤(sgF w l s).1:=by rcases A70 (w:=w) (l:=l) (s:=s) with ⟨h,_⟩ | ⟨_,h⟩<;>omega
theorem Rh {l:List Tk} {s:Ps}:s.1≤(nmF l s).2.1:=by rcases Ac9 (l:=l) (s:=s) with ⟨h,_⟩ | ⟨_,h,_⟩<;>omega
theorem Anm {l:List Tk} {s:Ps}:s.1≤(nuF l s).2.1:=by rcases Ae1 (l:=l) (s:=s) with ⟨h,_⟩ | ⟨_,h⟩<;>omega
theorem Agw {l:List Tk} {s:Ps} (h:s.1 < l.length):Cn l (Pj l s).2∧s.1 < (Pj l s).2.1:=by
 have a1:Cn l (nmF l (s.1+1,s.2)).2:=Qt h
 have a2:=Nb (w:=[61]) a1
 have a3:=Aea a2
 have b1:=Rh (l:=l) (s:=(s.1+1,s.2))
 have b2:=Zm (w:=[61]) (l:=l) (s:=(nmF l (s.1+1,s.2)).2)
 have b3:=Anm (l:=l) (s:=sgF [61] l (nmF l (s.1+1,s.2)).2)
 have b4:=Zm (w:=[59]) (l:=l) (s:=(nuF l (sgF [61] l (nmF l (s.1+1,s.2)).2)).2)
 refine⟨Nb a3,?_⟩
 unfold Pj
 dsimp only at b1 ⊢
 omega
theorem A7o {l:List Tk}:∀ (K:Nat) (s:Ps) (acc:List Va),Cn l s→acc.length≤s.1→Cn l (F8 l K s acc).2∧(F8 l K s acc).1.length≤(F8 l K s acc).2.1
 | 0,s,acc,hs,ha=>⟨hs,ha⟩
 | K+1,s,acc,hs,ha=>by
  rw[F8]
  cases hc:C5 [108,111,99] l s with
  | false=>exact⟨hs,ha⟩
  | true =>
   obtain⟨v1,v2⟩:=Agw (s:=s) (Kt hc).1
   exact A7o K _ _ v1 (by simp;omega)
theorem A8h {l:List Tk}:∀ (K:Nat) (s:Ps) (acc:List (List UInt8)),Cn l s→Cn l (Ej l K s acc).2∧s.1≤(Ej l K s acc).2.1
 | 0,s,acc,hs=>⟨hs,Nat.le_refl _⟩
 | K+1,s,acc,hs=>by
  rw[Ej]
  cases hc:s.2.1==0&&Bk l s.1 [44] with
  | false=>exact⟨hs,Nat.le_refl _⟩
  | true =>
   rw[A7] at hc
   have b1:=Rh (l:=l) (s:=(s.1+1,s.2))
   have:=A8h K (nmF l (s.1+1,s.2)).2 (acc++[(nmF l (s.1+1,s.2)).1]) (Qt (A88 hc.2))
   dsimp only at b1
   exact⟨this.1,Nat.le_trans (by omega) this.2⟩
structure TokB (B T:Nat) (l:List Tk):Prop where
 toks:Toks T l
 small:B < 1000000
 at':∀ t ∈ l,Um t∧t.Ao+t.Aa.length≤B
def Pe (B:Nat) (x:Nd):Prop:=0≤x.Ao∧x.Ao≤B
def Ac0 (B:Nat) (x:St):Prop:=(0≤x.Ao∧x.Ao≤B)∧(∀ y ∈ x.Ct,Pe B y)∧∀ y ∈ x.Ih,Pe B y
theorem TokB.tk {B T:Nat} {l:List Tk} (h:TokB B T l) {i:Nat} {t:Tk} (e:l[i]?=some t):0≤t.Ao∧t.Ao≤B:=by
 have:=h.at' t (List.mem_of_getElem? e);have:=this.1.1;omega
theorem Apr {B T:Nat} {l:List Tk} (hl:TokB B T l) {md:Md} {inn i:Nat} {r:PR} (h:PE l md inn i r):match md,r with
 | .fl _,.ok x _=>∀ y ∈ x,Pe B y
 | .lp _ x0,.ok x _=>(∀ y ∈ x0,Pe B y)→∀ y ∈ x,Pe B y
 | _,_=>True:=by
 have bin:∀ {op:Int} {t:Tk} {i:Nat} {x y:List Nd},l[i]?=some t→(∀ z ∈ x,Pe B z)→(∀ z ∈ y,Pe B z)→∀ z ∈ (⟨op,0,[],[],t.Ao⟩:Nd) :: (x++y),Pe B z:=by
  intro op t i x y ht hx hy z hz
  rcases List.mem_cons.1 hz with rfl | hz
  ·exact hl.tk ht
  ·rcases List.mem_append.1 hz with hz | hz
   ·exact hx z hz
   ·exact hy z hz
 induction h with
 | deep h1 h2 h3=>trivial
 | @not_ok inn i tu t x h1 h2 h3 h4 ih =>
  intro z hz
  rcases List.mem_cons.1 hz with rfl | hz
  ·exact hl.tk h3
  ·exact ih z hz
 | not_bad h1 h2 h4 ih=>trivial
 | par_ok h1 h2 h3 h4 ih=>exact ih
 | par_bad h1 h2 h4 ih=>trivial
 | par_open h1 h2 h3 h4 ih=>trivial
 | @num inn i t h1 h2=>intro z hz;rw[List.mem_singleton.1 hz];exact hl.tk h2
 | @reg inn i t h1 h2 h3=>intro z hz;rw[List.mem_singleton.1 hz];exact hl.tk h3
 | @of inn i t u h1 h2 h3 h4 h5=>intro z hz;rw[List.mem_singleton.1 hz];exact hl.tk h4
 | of_bad h1 h2 h3=>trivial
 | no h1 h2 h3 h4=>trivial
 | fl_bad h1 h2 ih=>trivial
 | @fl_ok f inn i tu x r h1 h2 h3 ih1 ih2 =>
  cases r with
  | ok y to2=>exact ih2 ih1
  | bad e a=>trivial
 | lp_stop h1=>exact id
 | lp_bad h1 h2 h3 ih=>trivial
 | lp_once h1 h2 h3 ih=>exact fun hx=>bin h2 hx ih
 | @lp_go f inn i tu x y t r h1 h2 h3 h4 h5 h6 ih1 ih2 =>
  cases r with
  | ok y to2=>exact fun hx=>ih2 (bin h4 hx ih1)
  | bad e a=>trivial
theorem At0 {B T:Nat} {l:List Tk} (hl:TokB B T l) {i tu:Nat} {x:List Nd} (hi:i≤l.length) (h:exQ l i=.ok x tu):∀ y ∈ x,Pe B y:=by
 obtain⟨r,hr,e⟩:=Z3 hl.toks hi
 rw[h] at e
 cases r with
 | bad e' a=>simp only[Nc] at e;cases e
 | ok y tv =>
  simp only[Nc] at e
  split at e
  ·cases e
  ·split at e
   ·cases e
   ·split at e
    ·cases e;exact Apr hl hr
    ·cases e
def Ad7 (B:Nat) (s:Fs):Prop:=(∀ y ∈ s.e,Pe B y)∧∀ y ∈ s.f,Pe B y
def Wu (B:Nat):FR→Prop
 | .ok s _=>Ad7 B s
 | .bad _ _=>True
theorem A2z {B T:Nat} {l:List Tk} (hl:TokB B T l):∀ (cs:List UInt8) (i:Nat) (s s':Fs) (j:Nat),i≤l.length→Ad7 B s→Ij l (exQ l) cs i s=.ok s' j→Ad7 B s'
 | [],i,s,s',j,hi,hs,h=>by rw[Ij] at h;cases h;exact hs
 | c :: cs,i,s,s',j,hi,hs,h=>by
  have h1:=A0e hl.toks (c:=c) (s:=s) hi
  have hex:match exQ l i with | .ok x _=>∀ y ∈ x,Pe B y | .bad _ _=>True:=by
   cases hx:exQ l i with
   | ok x tu=>exact At0 hl hi hx
   | bad e a=>trivial
  have hst0:Wu B (Iu l (exQ l) c i s):=by
   unfold Iu
   refine Ef (Q:=Wu B) (fun _=>Ef (Q:=Wu B) (fun _=>hs) fun _=>trivial) fun _=>Ef (Q:=Wu B) (fun _=>Ef (Q:=Wu B) (fun _=>hs) fun _=>trivial) fun _=>Ef (Q:=Wu B) (fun _=>?_) fun _=>Ef (Q:=Wu B) (fun _=>?_) fun _=>Ef (Q:=Wu B) (fun _=>Ef (Q:=Wu B) (fun _=>hs) fun _=>Ef (Q:=Wu B) (fun _=>hs) fun _=>trivial) fun _=>Ef (Q:=Wu B) (fun _=>hs) fun _=>trivial
   ·revert hex;cases exQ l i with
    | ok x tu=>intro h;exact⟨h,hs.2⟩
    | bad e a=>intro h;trivial
   ·revert hex;cases exQ l i with
    | ok x tu=>intro h;exact⟨hs.1,h⟩
    | bad e a=>intro h;trivial
  have hst:∀ s2 j2,Iu l (exQ l) c i s=.ok s2 j2→Ad7 B s2:=fun s2 j2 h=>by rw[h] at hst0;exact hst0
  rw[Ij] at h
  clear hst0
  revert h h1 hst
  cases Iu l (exQ l) c i s with
  | bad e a=>intro h _ _;cases h
  | ok s2 j2=>intro h h1 hst;exact A2z hl cs j2 s2 s' j h1.2 (hst s2 j2 rfl) h
def Ap8 (B:Nat):SR→Prop
 | .ok x _=>∀ y ∈ x,Ac0 B y
 | .bad _ _=>True
theorem A86 {B:Nat} {x:List St} {r:SR} (h:∀ y ∈ x,Ac0 B y) (hr:Ap8 B r):Ap8 B (Tv x r):=by
 cases r with
 | ok z tu=>intro y hy;rcases List.mem_append.1 hy with hy | hy;exact h y hy;exact hr y hy
 | bad e a=>trivial
theorem Auh {B T:Nat} {l:List Tk} (hl:TokB B T l) {md:Bool} {inn i:Nat} {r:SR} (h:SE l md inn i r):i≤l.length→Ap8 B r:=by
 have hk:=hl.toks
 have pl:=fun i=>Jz hl.small hl.at' i
 have s0:Ad7 B fs0:=⟨fun y hy=>(by cases hy),fun y hy=>(by cases hy)⟩
 induction h with
 | stop h=>intro hi y hy;cases hy
 | no h1 h2 h3=>intro hi;trivial
 | fbad h1 h2=>intro hi;trivial
 | @simple inn i j s r h1 h2 h3 h4 ih =>
  intro hi
  have h5:=H4 hk (Cj h1) h3
  have h6:=A2z hl _ _ _ _ _ (Cj h1) s0 h3
  exact A86 (fun y hy=>by rw[List.mem_singleton] at hy;subst hy;exact⟨pl i,h6.1,h6.2⟩) (ih h5.2)
 | bbad h1 h2 h3 h4 ih=>intro hi;trivial
 | @blk inn i j j2 s b r h1 h2 h3 h4 h5 h6 ih1 ih2 =>
  intro hi
  have h7:=H4 hk (Cj h1) h3
  have h9:=A2z hl _ _ _ _ _ (Cj h1) s0 h3
  have h8:=Lh hk h4 h7.2
  simp only[Mr,if_true] at h8
  exact A86 (fun y hy=>by
   rcases List.mem_cons.1 hy with rfl | hy
   ·exact⟨pl i,h9.1,h9.2⟩
   ·exact ih1 h7.2 y hy) (ih2 h8.2.1)
 | ebad h1 h3 h4 h5 h6 ih1 ih2=>intro hi;trivial
 | @els inn i j j2 j3 s b c r h1 h3 h4 h5 h6 h7 ih1 ih2 ih3 =>
  intro hi
  have h0:Aw l i≠0:=by omega
  have h8:=H4 hk (Cj h0) h3
  have h9:=A2z hl _ _ _ _ _ (Cj h0) s0 h3
  have hj:=Mh h5
  have h11:=Lh hk h6 hj
  simp only[Mr,if_true] at h11
  exact A86 (fun y hy=>by
   rcases List.mem_cons.1 hy with rfl | hy
   ·exact⟨pl i,h9.1,h9.2⟩
   ·rcases List.mem_append.1 hy with hy | hy
    ·exact ih1 h8.2 y hy
    ·exact ih2 hj y hy) (ih3 h11.2.1)
 | nob h=>intro hi;trivial
 | deep h1 h2=>intro hi;trivial
 | sbad h1 h2 h3 ih=>intro hi;trivial
 | close h1 h2 h3 h4 ih=>intro hi;exact ih (Dn h1)
 | opn h1 h2 h3 h4 ih=>intro hi;trivial
theorem A58 {T:Nat} {l:List Tk} (hk:Toks T l) {i:Nat} (hi:i≤l.length):∃ r,SE l false 0 i r∧seQ l i=U7 l i r:=by
 have h:∃ r,SE l false 0 i r:=Amn hk l.length i 0 false (by omega) hi (by omega)
 exact⟨h.choose,h.choose_spec,by unfold seQ;rw[dif_pos h]⟩
theorem A55 {T:Nat} {l:List Tk} (hk:Toks T l) {i:Nat} (hi:i≤l.length):∃ r,PE l (.fl 0) 0 i r∧peQ l i=Np l i r:=by
 have h:∃ r,PE l (.fl 0) 0 i r:=Adt l.length i 0 0 (by omega) hi (by omega) (by omega)
 exact⟨h.choose,h.choose_spec,by unfold peQ;rw[dif_pos h]⟩
theorem A4j {T:Nat} {l:List Tk} (hk:Toks T l) {i:Nat} (hi:i≤l.length):((seQ l i).2.2.1≠0∧(seQ l i).1=[]∧(seQ l i).2.1=0)∨(∃ tu:Nat,(seQ l i).2=((tu:Int),0,0)∧i≤tu∧tu≤l.length∧Jk (seQ l i).1=true∧(seQ l i).1.length≤200):=by
 obtain⟨r,hr,e⟩:=A58 hk hi
 rw[e]
 have hok:=Lh hk hr hi
 have htr:=Ari hk hr hi (by omega)
 cases r with
 | bad e a=>exact .inl ⟨hok,rfl,rfl⟩
 | ok x tu =>
  simp only[U7]
  by_cases c:200 < x.length
  ·rw[if_pos c];exact .inl ⟨(by decide:(2:Int)≠0),rfl,rfl⟩
  ·rw[if_neg c]
   simp only[Mr,Bool.false_eq_true,if_false] at hok
   refine .inr ⟨tu,rfl,by omega,hok.2.1,?_,(show x.length≤200 by omega)⟩
   simp only[Bool.false_eq_true,if_false] at htr
   obtain⟨F,f1,f2,f3,f4⟩:=htr
   subst f2
   exact Aiz f1 (by omega) (by omega) f4
theorem Ak0 {B T:Nat} {l:List Tk} (hl:TokB B T l) {i:Nat} (hi:i≤l.length):(∀ x ∈ (seQ l i).1,Ac0 B x)∧0≤(seQ l i).2.2.2∧(seQ l i).2.2.2≤B:=by
 obtain⟨r,hr,e⟩:=A58 hl.toks hi
 rw[e]
 have h1:=Auh hl hr hi
 have h2:=Ate hl.toks hl.small hl.at' hr hi
 have pl:=Jz hl.small hl.at' i
 cases r with
 | bad e a=>exact⟨fun x hx=>(by cases hx),h2.1,h2.2⟩
 | ok x tu =>
  simp only[U7]
  by_cases c:200 < x.length
  ·rw[if_pos c];exact⟨fun x hx=>(by cases hx),pl.1,pl.2⟩
  ·rw[if_neg c];exact⟨h1,(by decide:(0:Int)≤0),by dsimp only;omega⟩
theorem A0m {T:Nat} {l:List Tk} (hk:Toks T l) {i:Nat} (hi:i≤l.length):((peQ l i).2.2.1≠0∧(peQ l i).1=[]∧(peQ l i).2.1=0)∨(∃ tu:Nat,(peQ l i).2=((tu:Int),0,0)∧i < tu∧tu≤l.length∧R7 (peQ l i).1∧Dx (peQ l i).1=true):=by
 obtain⟨r,hr,e⟩:=A55 hk hi
 rw[e]
 rcases A94 hr hi with ⟨e',a,h1,h2,_⟩ | ⟨x,tu,h1,h2,h3,h4⟩
 ·rw[h1];exact .inl ⟨h2,rfl,rfl⟩
 ·subst h1
  have hok:=Jr hr hi
  have hg:=Z4 hk.ok hr
  dsimp only at hok hg
  obtain⟨_,_,_,_,_,h5⟩:=A1p hg h3 h4
  rw[h2];exact .inr ⟨tu,rfl,hok.1,hok.2.1,hg,h5⟩
theorem Ajq {B T:Nat} {l:List Tk} (hl:TokB B T l) {i:Nat} (hi:i≤l.length):(∀ x ∈ (peQ l i).1,Pe B x)∧0≤(peQ l i).2.2.2∧(peQ l i).2.2.2≤B:=by
 obtain⟨r,hr,e⟩:=A55 hl.toks hi
 rw[e]
 have pl:=Jz hl.small hl.at' i
 rcases A94 hr hi with ⟨e',a,h1,h2,h3⟩ | ⟨x,tu,h1,h2,h3,h4⟩
 ·rw[h1]
  refine⟨fun x hx=>(by cases hx),?_⟩
  rcases h3 with h3 | h3
  ·rw[h3] at hr;exact A9s hl.small hl.at' hr
  ·rw[h3];exact pl
 ·subst h1
  rw[h2];exact⟨Apr hl hr,(by decide:(0:Int)≤0),by dsimp only;omega⟩
theorem A3k {T:Nat} {l:List Tk} (hk:Toks T l) {s:Ps} (hs:Cn l s):Cn l (H7 l s).2∧s.1≤(H7 l s).2.1:=by
 unfold H7
 cases hc:C5 [114,101,103] l s with
 | false=>exact⟨hs,Nat.le_refl _⟩
 | true =>
  obtain⟨h1,h2⟩:=Kt hc
  have a1:Cn l (nmF l (s.1+1,s.2)).2:=Qt h1
  have b1:=Rh (l:=l) (s:=(s.1+1,s.2))
  obtain⟨r2,r3⟩:=A8h (l.length+2) (nmF l (s.1+1,s.2)).2 [(nmF l (s.1+1,s.2)).1] a1
  have b2:=Zm (w:=[59]) (l:=l) (s:=(Ej l (l.length+2) (nmF l (s.1+1,s.2)).2 [(nmF l (s.1+1,s.2)).1]).2)
  dsimp only at b1
  refine⟨Nb r2,?_⟩
  show s.1≤(sgF [59] l (Ej l (l.length+2) (nmF l (s.1+1,s.2)).2 [(nmF l (s.1+1,s.2)).1]).2).1
  omega
theorem Acp {T:Nat} {l:List Tk} (hk:Toks T l) {i:Nat} (hi:i≤l.length):((seQ l i).2.1.toNat:Int)=(seQ l i).2.1∧(seQ l i).2.1.toNat≤l.length∧((seQ l i).2.2.1=0→i≤(seQ l i).2.1.toNat):=by
 rcases A4j hk hi with ⟨h0,_,h⟩ | ⟨tu,h,h2,h3,_⟩
 ·rw[h];exact⟨rfl,by simp,fun e=>absurd e h0⟩
 ·rw[h];exact⟨by simp,by simp;omega,fun _=>by simp;omega⟩
theorem Alw {T:Nat} {l:List Tk} (hk:Toks T l) {i:Nat} (hi:i≤l.length):((peQ l i).2.1.toNat:Int)=(peQ l i).2.1∧(peQ l i).2.1.toNat≤l.length∧((peQ l i).2.2.1=0→i < (peQ l i).2.1.toNat):=by
 rcases A0m hk hi with ⟨h0,_,h⟩ | ⟨tu,h,h2,h3,_⟩
 ·rw[h];exact⟨rfl,by simp,fun e=>absurd e h0⟩
 ·rw[h];exact⟨by simp,by simp;omega,fun _=>by simp;omega⟩
theorem A77 {w:List UInt8} {l:List Tk} {s:Ps} (h:s.2.1≠0):(sgF w l s).2.1≠0:=by
 rcases A70 (w:=w) (l:=l) (s:=s) with ⟨_,_,h0,_⟩ | ⟨h1,_⟩
 ·exact absurd h0 h
 ·exact h1
theorem A31 {s:Int×Int} {e a:Int} (h:e≠0):(faF s e a).1≠0:=by
 unfold faF
 cases hc:s.1==0 with
 | true=>rw[Ab,bne_iff_ne.2 h];exact h
 | false=>rw[At];rw[beq_eq_false_iff_ne] at hc;exact hc
theorem Arx {T:Nat} {l:List Tk} (hk:Toks T l) {s:Ps} (hs:Cn l s):Cn l (Lp l s).2∧((Lp l s).2.2.1≠0∨s.1 < (Lp l s).2.1):=by
 unfold Lp
 cases hc:s.2.1==0 with
 | true =>
  rw[Ab]
  obtain⟨h1,h2,h3⟩:=Acp hk hs
  refine⟨Nb h2,?_⟩
  by_cases e:(seQ l s.1).2.2.1=0
  ·have:=h3 e
   rcases A70 (w:=[125]) (l:=l) (s:=((seQ l s.1).2.1.toNat,faF s.2 (seQ l s.1).2.2.1 (seQ l s.1).2.2.2)) with ⟨g1,_⟩ | ⟨g1,_⟩
   ·right;dsimp only at g1 ⊢;omega
   ·exact .inl g1
  ·exact .inl (A77 (A31 e))
 | false =>
  rw[beq_eq_false_iff_ne] at hc
  exact⟨Nb hs,.inl (A77 hc)⟩
theorem Agu {T:Nat} {l:List Tk} (hk:Toks T l) {s:Ps} (h1:s.1 < l.length):Cn l (Nr l s).2∧((Nr l s).2.2.1≠0∨s.1 < (Nr l s).2.1):=by
 have a1:Cn l (nmF l (s.1+1,s.2)).2:=Qt h1
 have b1:=Rh (l:=l) (s:=(s.1+1,s.2))
 have a2:=Nb (w:=[123]) a1
 have b2:=Zm (w:=[123]) (l:=l) (s:=(nmF l (s.1+1,s.2)).2)
 obtain⟨a3,b3⟩:=A3k hk a2
 obtain⟨a4,b4⟩:=Arx hk a3
 dsimp only at b1
 exact⟨a4,b4.imp id (fun h=>by unfold Nr;dsimp only;omega)⟩
theorem Adm {T:Nat} {l:List Tk} (hk:Toks T l):∀ (K:Nat) (s:Ps) (acc:List Th),Cn l s→Cn l (G3 l K s acc).2∧(G3 l K s acc).1.length≤acc.length+Gc l s
 | 0,s,acc,hs=>⟨hs,Nat.le_add_right _ _⟩
 | K+1,s,acc,hs=>by
  rw[G3]
  cases hc:C5 [116,104,114,101,97,100] l s with
  | false=>exact⟨hs,Nat.le_add_right _ _⟩
  | true =>
   obtain⟨h1,h2⟩:=Kt hc
   obtain⟨t2,t3⟩:=Agu hk h1
   have:=Vw (t:=(Nr l s).2) h2 hs t3 t2
   have ih:=Adm hk K (Nr l s).2 (acc++[(Nr l s).1]) t2
   rw[List.length_append,List.length_singleton] at ih
   exact⟨ih.1,Nat.le_trans ih.2 (by omega)⟩
theorem Ajv {T:Nat} {l:List Tk} (hk:Toks T l) (k:Int) {s:Ps} (h1:s.1 < l.length) (h0:s.2.1=0):Cn l (clF k l s).2∧((clF k l s).2.2.1≠0∨s.1 < (clF k l s).2.1):=by
 obtain⟨g1,g2,g3⟩:=Alw hk (show s.1+1≤l.length from h1)
 have hP:Cn l (if(faF s.2 (peQ l (s.1+1)).2.2.1 (peQ l (s.1+1)).2.2.2).1=0 then(peQ l (s.1+1)).2.1.toNat else s.1+1,faF s.2 (peQ l (s.1+1)).2.2.1 (peQ l (s.1+1)).2.2.2):=by
  unfold Cn;dsimp only;split
  ·exact g2
  ·exact h1
 refine⟨Nb hP,?_⟩
 by_cases e:(peQ l (s.1+1)).2.2.1=0
 ·have:=g3 e
  have f0:(faF s.2 (peQ l (s.1+1)).2.2.1 (peQ l (s.1+1)).2.2.2).1=0:=by unfold faF;rw[h0,e];simp[h0]
  unfold clF
  dsimp only
  rw[if_pos f0]
  rcases A70 (w:=[59]) (l:=l) (s:=((peQ l (s.1+1)).2.1.toNat,faF s.2 (peQ l (s.1+1)).2.2.1 (peQ l (s.1+1)).2.2.2)) with ⟨q1,_⟩ | ⟨q1,_⟩
  ·right;dsimp only at q1;omega
  ·exact .inl q1
 ·exact .inl (A77 (A31 e))
theorem A36 {l:List Tk} {s:Ps} (h:0 < Hv l s):s.1 < l.length∧s.2.1=0∧Hv l s≤3:=by
 unfold Hv at h ⊢
 cases h1:C5 [102,111,114,97,108,108] l s with
 | true=>obtain⟨a,b⟩:=Kt h1;exact⟨a,b,(show(1:Int)≤3 by decide)⟩
 | false =>
  rw[h1] at h
  cases h2:C5 [101,120,105,115,116,115] l s with
  | true=>obtain⟨a,b⟩:=Kt h2;exact⟨a,b,(show(2:Int)≤3 by decide)⟩
  | false =>
   rw[h2] at h
   cases h3:C5 [97,108,119,97,121,115] l s with
   | true=>obtain⟨a,b⟩:=Kt h3;exact⟨a,b,(show(3:Int)≤3 by decide)⟩
   | false=>rw[h3] at h;exact absurd h (by decide)
theorem Ago {T:Nat} {l:List Tk} (hk:Toks T l):∀ (K:Nat) (s:Ps) (acc:List Cl),Cn l s→Cn l (Is l K s acc).2∧(Is l K s acc).1.length≤acc.length+Gc l s
 | 0,s,acc,hs=>⟨hs,Nat.le_add_right _ _⟩
 | K+1,s,acc,hs=>by
  rw[Is]
  by_cases hc:0 < Hv l s
  ·obtain⟨h1,h2,_⟩:=A36 hc
   obtain⟨t2,t3⟩:=Ajv hk (Hv l s) h1 h2
   have:=Vw (t:=(clF (Hv l s) l s).2) h2 hs t3 t2
   have ih:=Ago hk K (clF (Hv l s) l s).2 (acc++[(clF (Hv l s) l s).1]) t2
   rw[List.length_append,List.length_singleton] at ih
   rw[A6 hc]
   exact⟨ih.1,Nat.le_trans ih.2 (by omega)⟩
  ·rw[Ap hc];exact⟨hs,Nat.le_add_right _ _⟩
theorem Au5 {l:List Tk} {s:Ps} (h:Cn l s):Cn l (wr l s):=by unfold Cn;rw[A4r];exact h
theorem Aoa (l:List Tk):Cn l (Ge l).2:=by
 unfold Ge
 refine Nb (Aea ?_)
 cases hc:C5 [109,111,100] l (0,0,0) with
 | true=>exact(Kt hc).1
 | false=>exact Au5 (show Cn l (0,0,0) from Nat.zero_le _)
def Asu:Tk:=⟨0,[],0,0⟩
def isT (kd:Int) (w:List UInt8) (l:List Tk) (i:Nat):Bool:=match l[i]? with
 | some t=>t.A9==kd&&t.Aa==w
 | none=>false
def Oo (l:List Tk) (i:Nat):Tk:=match l[i]? with
 | some t=>t
 | none=>Asu
theorem Rt {l:List Tk} {i:Nat} (h:i < l.length):Oo l i=l[i]:=by unfold Oo;rw[Ar h]
theorem N2 {α:Type} (n:Nat) (f:Nat→Option α):Te (n+1) f=f n:=rfl
theorem A7v (i:Nat) (h:i < 100000):IntKind.i64.wrap (IntKind.i64.wrap ((i:Int)+1) - 1)=(i:Int):=by
 rw[Dd (show -9223372036854775808≤(i:Int)+1∧_ by omega),Dd (by omega)];omega
def nxB (b:Bool) (l:List Tk) (s:Ps):Tk×Bool×Int:=bif b then(Oo l s.1,true,((s.1+1:Nat):Int)) else(Asu,false,(s.1:Int))
theorem Pr (n:Nat) (kd:Int) (w:List UInt8) (l:List Tk) (s:Ps) (hl:l.length < 100000):De (n+2) l (s.1:Int) s.2.1 s.2.2 kd w=some (nxB (s.2.1==0&&isT kd w l s.1) l s):=by
 rw[De,nxB,isT]
 cases h:s.2.1==0 with
 | false=>rw[show(s.2.1 != 0)=true by rw[bne,h];rfl];rfl
 | true =>
  rw[show(s.2.1 != 0)=false by rw[bne,h];rfl,At]
  by_cases hx:s.1 < l.length
  ·rw[Ap (by omega),Cv hx,Ar hx,Rt hx,A0,V2,A7v s.1 (by omega),Cv hx,Bg s.1 (by omega)]
   dsimp only
   cases l[s.1].A9==kd<;>cases l[s.1].Aa==w<;>rfl
  ·rw[A6 (by omega),List.getElem?_eq_none (by omega)];rfl
theorem Asp (n:Nat) (l:List Tk) (s:Ps) (hl:l.length < 100000):J0 (n+2) l (s.1:Int) s.2.1 s.2.2=some (nxB (s.2.1==0&&isK l s.1) l s):=by
 rw[J0,nxB,isK]
 cases h:s.2.1==0 with
 | false=>rw[show(s.2.1 != 0)=true by rw[bne,h];rfl];rfl
 | true =>
  rw[show(s.2.1 != 0)=false by rw[bne,h];rfl,At]
  by_cases hx:s.1 < l.length
  ·rw[Ap (by omega),Cv hx,Ar hx,Rt hx,A0,Qw,A7v s.1 (by omega),Cv hx,Bg s.1 (by omega)]
   dsimp only
   cases l[s.1].A9==2<;>rfl
  ·rw[A6 (by omega),List.getElem?_eq_none (by omega)];rfl
theorem Asc (n:Nat) (l:List Tk) (s:Ps) (hl:l.length < 100000):J1 (n+3) l (s.1:Int) s.2.1 s.2.2=some (nxB (s.2.1==0&&isN l s.1) l s):=by
 rw[J1,nxB,isN]
 cases h:s.2.1==0 with
 | false=>rw[show(s.2.1 != 0)=true by rw[bne,h];rfl];rfl
 | true =>
  rw[show(s.2.1 != 0)=false by rw[bne,h];rfl,At]
  by_cases hx:s.1 < l.length
  ·rw[Ap (by omega),Cv hx,Ar hx,Rt hx,A0,Tt,A7v s.1 (by omega),Cv hx,Bg s.1 (by omega),Dg]
   dsimp only
   cases l[s.1].A9==1<;>cases C9 l[s.1].Aa<;>rfl
  ·rw[A6 (by omega),List.getElem?_eq_none (by omega)];rfl
theorem Ad9 (n:Nat) (l:List Tk) (s:Ps) (hl:l.length < 100000):E1 (n+2) l (s.1:Int) s.2.1 s.2.2=some ((wr l s).2.1,(wr l s).2.2):=by
 rw[E1,wr,Gp,Bj]
 by_cases hx:s.1 < l.length
 ·rw[A6 (by omega),Cv hx,A0,Cd,if_pos hx,Ar hx]
  cases s.2.1==0<;>rfl
 ·rw[Ap (by omega),if_neg hx,List.getElem?_eq_none (by omega)]
  by_cases h0:0 < l.length
  ·have h1:l.length - 1 < l.length:=by omega
   rw[A6 (by omega),Dd (by omega),show((l.length:Nat):Int) - 1=((l.length - 1:Nat):Int) by omega,Cv h1,A0,A0,Cd,Ar h1]
   cases s.2.1==0<;>rfl
  ·rw[Ap (by omega),Cd,List.getElem?_eq_none (by omega)]
   cases s.2.1==0<;>rfl
def mtB (b:Bool) (l:List Tk) (s:Ps):Ps:=bif b then(s.1+1,s.2) else wr l s
theorem A54 (n:Nat) (b:Bool) (l:List Tk) (s:Ps) (hl:l.length < 100000):((some (nxB b l s)).bind fun y1=>(bif y1.2.1 then(some (y1.1,y1.2.2,s.2.1,s.2.2)) else((E1 (n+2) l y1.2.2 s.2.1 s.2.2).bind fun y4=>(some (y1.1,y1.2.2,y4.1,y4.2)))))=some ((nxB b l s).1,((mtB b l s).1:Int),(mtB b l s).2.1,(mtB b l s).2.2):=by
 cases b with
 | true=>rfl
 | false =>
  rw[A0,nxB,mtB]
  dsimp only [cond_false]
  rw[Ad9 n l s hl,A0,A4r]
theorem Agr (n:Nat) (kd:Int) (w:List UInt8) (l:List Tk) (s:Ps) (hl:l.length < 100000):Ig (n+3) l (s.1:Int) s.2.1 s.2.2 kd w=some ((nxB (s.2.1==0&&isT kd w l s.1) l s).1,((mtB (s.2.1==0&&isT kd w l s.1) l s).1:Int),(mtB (s.2.1==0&&isT kd w l s.1) l s).2.1,(mtB (s.2.1==0&&isT kd w l s.1) l s).2.2):=by
 rw[Ig,Pr n kd w l s hl];exact A54 n _ l s hl
theorem Atz (w:List UInt8) (l:List Tk) (s:Ps):mtB (s.2.1==0&&isT 3 w l s.1) l s=sgF w l s:=rfl
theorem Rj (n:Nat) (w:List UInt8) (l:List Tk) (s:Ps) (hl:l.length < 100000):By (n+5) w l (s.1:Int) s.2.1 s.2.2=some (((sgF w l s).1:Int),(sgF w l s).2.1,(sgF w l s).2.2):=by
 rw[By,N2,Agr (n+1) 3 w l s hl,A0,Atz]
theorem Ak4 (n:Nat) (l:List Tk) (s:Ps) (hl:l.length < 100000):∃ t:Tk,H3 (n+3) l (s.1:Int) s.2.1 s.2.2=some (t,((nuF l s).2.1:Int),(nuF l s).2.2.1,(nuF l s).2.2.2)∧t.Bs=(nuF l s).1:=by
 rw[H3,Asp n l s hl]
 refine⟨(nxB (s.2.1==0&&isK l s.1) l s).1,(A54 n _ l s hl).trans ?_,?_⟩
 ·unfold mtB nuF;cases s.2.1==0&&isK l s.1<;>rfl
 ·unfold nxB nuF
  cases h:s.2.1==0&&isK l s.1 with
  | false=>rfl
  | true =>
   rw[A7] at h
   have:=Amj h.2
   show(Oo l s.1).Bs=Y5 l s.1
   rw[Rt this,Atf this]
theorem A7d (n:Nat) (l:List Tk) (s:Ps) (hl:l.length < 100000):∃ t:Tk,Fl (n+4) l (s.1:Int) s.2.1 s.2.2=some (t,((nmF l s).2.1:Int),(nmF l s).2.2.1,(nmF l s).2.2.2)∧t.Aa=(nmF l s).1:=by
 rw[Fl,Asc n l s hl]
 refine⟨(nxB (s.2.1==0&&isN l s.1) l s).1,(A54 (n+1) _ l s hl).trans ?_,?_⟩
 ·unfold mtB nmF;cases s.2.1==0&&isN l s.1<;>rfl
 ·unfold nxB nmF
  cases h:s.2.1==0&&isN l s.1 with
  | false=>rfl
  | true =>
   rw[A7] at h
   have:=Ue h.2
   show(Oo l s.1).Aa=txt l s.1
   rw[Rt this,At9 this]
def PsZ (s:Ps):Prop:=s.2.1=0→s.2.2=0
theorem Ai9 (l:List Tk) (s:Ps):PsZ (wr l s):=fun h=>absurd h (Adr l s)
theorem Xq {w:List UInt8} {l:List Tk} {s:Ps} (h:PsZ s):PsZ (sgF w l s):=by
 unfold sgF
 cases s.2.1==0&&Bk l s.1 w
 ·exact Ai9 l s
 ·exact h
theorem Aay {l:List Tk} {s:Ps} (h:PsZ s):PsZ (nmF l s).2:=by
 unfold nmF
 cases s.2.1==0&&isN l s.1
 ·exact Ai9 l s
 ·exact h
theorem Apo {l:List Tk} {s:Ps} (h:PsZ s):PsZ (nuF l s).2:=by
 unfold nuF
 cases s.2.1==0&&isK l s.1
 ·exact Ai9 l s
 ·exact h
theorem Vi (w:List UInt8) (l:List Tk) (s:Ps):(s.2.1==0&&isT 1 w l s.1)=C5 w l s:=rfl
theorem Asz (n:Nat) (a:Int) (l:List Tk) (s:Ps) (hl:l.length < 100000):Kp (n+6) a l (s.1:Int) s.2.1 s.2.2 =
 some ((⟨(nmF l s).1,(nuF l (sgF [61] l (nmF l s).2)).1,a⟩:Va),((sgF [59] l (nuF l (sgF [61] l (nmF l s).2)).2).1:Int),(sgF [59] l (nuF l (sgF [61] l (nmF l s).2)).2).2.1,(sgF [59] l (nuF l (sgF [61] l (nmF l s).2)).2).2.2):=by
 obtain⟨t1,h1,h2⟩:=A7d (n+1) l s hl
 obtain⟨t2,h3,h4⟩:=Ak4 (n+2) l (sgF [61] l (nmF l s).2) hl
 rw[Kp,h1,A0]
 dsimp only
 rw[Rj n [61] l _ hl,A0]
 dsimp only
 rw[h3,A0]
 dsimp only
 rw[Rj n [59] l _ hl,A0,h2,h4]
theorem A3f {w:List UInt8} {l:List Tk} {s:Ps} (h:Gc l s≤0):C5 w l s=false:=by
 unfold Gc at h
 cases hc:s.2.1==0 with
 | true=>rw[hc] at h;exact absurd h (by show ¬ l.length - s.1+1≤0;omega)
 | false=>unfold C5;rw[hc];rfl
theorem At3 {T:Nat} {l:List Tk} (hk:Toks T l) (n:Nat) (y:List Tk×Int×Int) (hy:y.1=l) (hn:20≤n):∀ (m k K:Nat) (s:Ps) (acc:List Va),Cn l s→Gc l s≤m→m < k→m < K→acc.length≤s.1 →
 Ko n y k (nxB (C5 [108,111,99] l s) l s).2.1 (nxB (C5 [108,111,99] l s) l s).2.2 s.2.1 s.2.2 (nxB (C5 [108,111,99] l s) l s).1.A9 (nxB (C5 [108,111,99] l s) l s).1.Aa (nxB (C5 [108,111,99] l s) l s).1.Bs (nxB (C5 [108,111,99] l s) l s).1.Ao acc
  =some (.out (((F8 l K s acc).2.1:Int),(F8 l K s acc).2.2.1,(F8 l K s acc).2.2.2,0,[],0,0,(F8 l K s acc).1))∧(PsZ s→PsZ (F8 l K s acc).2):=by
 subst hy
 have hl:=hk.len
 intro m
 induction m with
 | zero =>
  intro k K s acc hs hm hk' hK ha
  obtain⟨k,rfl⟩:∃ j,k=j+1:=⟨k - 1,by omega⟩
  obtain⟨K,rfl⟩:∃ j,K=j+1:=⟨K - 1,by omega⟩
  rw[F8,A3f hm];exact⟨rfl,id⟩
 | succ m ih =>
  intro k K s acc hs hm hk' hK ha
  obtain⟨k,rfl⟩:∃ j,k=j+1:=⟨k - 1,by omega⟩
  obtain⟨K,rfl⟩:∃ j,K=j+1:=⟨K - 1,by omega⟩
  obtain⟨n,rfl⟩:∃ j,n=j+6:=⟨n - 6,by omega⟩
  rw[F8]
  cases hc:C5 [108,111,99] y.1 s with
  | false=>exact⟨rfl,id⟩
  | true =>
   obtain⟨h1,h2⟩:=Kt hc
   obtain⟨v1,v2⟩:=Agw (s:=s) h1
   have hp:=Asz n (Oo y.1 s.1).Ao y.1 (s.1+1,s.2) hl
   have hv:Pj y.1 s=(⟨(nmF y.1 (s.1+1,s.2)).1,(nuF y.1 (sgF [61] y.1 (nmF y.1 (s.1+1,s.2)).2)).1,(Oo y.1 s.1).Ao⟩,sgF [59] y.1 (nuF y.1 (sgF [61] y.1 (nmF y.1 (s.1+1,s.2)).2)).2):=by unfold Pj;rw[Ah6 h1,Rt h1]
   have:=ih k K (Pj y.1 s).2 (acc++[(Pj y.1 s).1]) v1 (by have:=Vw (t:=(Pj y.1 s).2) h2 hs (.inr v2) v1;omega) (by omega) (by omega) (by simp;omega)
   rw[Ab]
   refine⟨?_,fun hz=>this.2 (by rw[hv];exact Xq (Apo (Xq (Aay hz))))⟩
   rw[Ko]
   dsimp only [nxB,cond_true] at hp ⊢
   rw[hp,A0,A6 (by unfold Cn at hs;omega),N2]
   dsimp only
   rw[hv] at this ⊢
   have hnx:=Pr (n+4) 1 [108,111,99] y.1 (sgF [59] y.1 (nuF y.1 (sgF [61] y.1 (nmF y.1 (s.1+1,s.2)).2)).2) hl
   rw[hnx,A0,Vi]
   exact this.1
theorem Asw {l:List Tk} (hl:l.length < 100000) (n:Nat) (hn:20≤n):∀ (m k K:Nat) (s:Ps) (acc:List (List UInt8)),Cn l s→Gc l s≤m→m < k→m < K→acc.length≤s.1+1 →
 Dz n l k (nxB (s.2.1==0&&isT 3 [44] l s.1) l s).2.1 (nxB (s.2.1==0&&isT 3 [44] l s.1) l s).2.2 s.2.1 s.2.2 acc=some (.out (((Ej l K s acc).2.1:Int),(Ej l K s acc).2.2.1,(Ej l K s acc).2.2.2,(Ej l K s acc).1))∧(PsZ s→PsZ (Ej l K s acc).2):=by
 intro m
 induction m with
 | zero =>
  intro k K s acc hs hm hk' hK ha
  obtain⟨k,rfl⟩:∃ j,k=j+1:=⟨k - 1,by omega⟩
  obtain⟨K,rfl⟩:∃ j,K=j+1:=⟨K - 1,by omega⟩
  have:(s.2.1==0)=false:=by
   unfold Gc at hm
   cases hc:s.2.1==0 with
   | true=>rw[hc] at hm;exact absurd hm (by show ¬ l.length - s.1+1≤0;omega)
   | false=>rfl
  rw[Ej,this];exact⟨rfl,id⟩
 | succ m ih =>
  intro k K s acc hs hm hk' hK ha
  obtain⟨k,rfl⟩:∃ j,k=j+1:=⟨k - 1,by omega⟩
  obtain⟨K,rfl⟩:∃ j,K=j+1:=⟨K - 1,by omega⟩
  obtain⟨n,rfl⟩:∃ j,n=j+6:=⟨n - 6,by omega⟩
  rw[Ej]
  cases hc:s.2.1==0 with
  | false=>exact⟨rfl,id⟩
  | true =>
   have hsg:isT 3 [44] l s.1=Bk l s.1 [44]:=rfl
   rw[hsg,Bool.true_and]
   cases hg:Bk l s.1 [44] with
   | false=>exact⟨rfl,id⟩
   | true =>
    rw[beq_iff_eq] at hc
    have h1:=A88 hg
    have a1:Cn l (nmF l (s.1+1,s.2)).2:=Qt h1
    have b1:=Rh (l:=l) (s:=(s.1+1,s.2))
    obtain⟨t,e1,e2⟩:=A7d (n+2) l (s.1+1,s.2) hl
    dsimp only at e1 b1
    have:=ih k K (nmF l (s.1+1,s.2)).2 (acc++[(nmF l (s.1+1,s.2)).1]) a1 (by have:=Vw (t:=(nmF l (s.1+1,s.2)).2) hc hs (.inr (by omega)) a1;omega) (by omega) (by omega) (by simp;omega)
    refine⟨?_,fun hz=>this.2 (Aay hz)⟩
    rw[Dz,Ab]
    dsimp only [nxB,cond_true]
    rw[e1,A0,A6 (by unfold Cn at hs;omega),N2]
    dsimp only
    have hnx:=Pr (n+4) 3 [44] l (nmF l (s.1+1,s.2)).2 hl
    rw[hnx,A0,e2]
    exact this.1
theorem Arw {l:List Tk} (hl:l.length < 100000) (n:Nat) (hn:20≤n) (k:Nat) (s:Ps) (h1:s.1 < l.length) (hk:l.length+2 < k) :
 Dz n l k true ((s.1+1:Nat):Int) s.2.1 s.2.2 []=some (.out (((Ej l (l.length+2) (nmF l (s.1+1,s.2)).2 [(nmF l (s.1+1,s.2)).1]).2.1:Int),(Ej l (l.length+2) (nmF l (s.1+1,s.2)).2 [(nmF l (s.1+1,s.2)).1]).2.2.1,(Ej l (l.length+2) (nmF l (s.1+1,s.2)).2 [(nmF l (s.1+1,s.2)).1]).2.2.2,(Ej l (l.length+2) (nmF l (s.1+1,s.2)).2 [(nmF l (s.1+1,s.2)).1]).1))∧(PsZ s→PsZ (Ej l (l.length+2) (nmF l (s.1+1,s.2)).2 [(nmF l (s.1+1,s.2)).1]).2):=by
 obtain⟨k,rfl⟩:∃ j,k=j+1:=⟨k - 1,by omega⟩
 obtain⟨n,rfl⟩:∃ j,n=j+6:=⟨n - 6,by omega⟩
 have a1:Cn l (nmF l (s.1+1,s.2)).2:=Qt h1
 obtain⟨t,e1,e2⟩:=A7d (n+2) l (s.1+1,s.2) hl
 dsimp only at e1
 have:=Asw hl (n+6) (by omega) (l.length+1) k (l.length+2) (nmF l (s.1+1,s.2)).2 [(nmF l (s.1+1,s.2)).1] a1 Rs (by omega) (by omega) (by simp)
 refine⟨?_,fun hz=>this.2 (Aay hz)⟩
 rw[Dz,Ab,e1,A0,A6 (by simp),N2]
 dsimp only
 have hnx:=Pr (n+4) 3 [44] l (nmF l (s.1+1,s.2)).2 hl
 rw[hnx,A0,e2]
 exact this.1
theorem Aej (n:Nat) (e' a':Int) (l:List Tk) (i:Int) (s:Int×Int) (hz:s.1=0→s.2=0) (hz':e'=0→a'=0):Cd (n+1) e' a' l i s.1 s.2=some ((faF s e' a').1,(faF s e' a').2):=by
 rw[Cd,faF]
 cases h:s.1==0 with
 | false=>rfl
 | true =>
  cases h2:e' != 0 with
  | true=>rfl
  | false =>
   rw[beq_iff_eq] at h
   have h3:e'=0:=by cases hb:e'==0 with
    | true=>exact beq_iff_eq.1 hb
    | false=>rw[bne,hb] at h2;cases h2
   rw[Ab,Ab,At,h3,hz' h3,hz h,h]
noncomputable def M9 (l:List Tk) (s:Ps):List St×Ps:=bif s.2.1==0 then((seQ l s.1).1,sgF [125] l (if(faF s.2 (seQ l s.1).2.2.1 (seQ l s.1).2.2.2).1=0 then(seQ l s.1).2.1.toNat else s.1,faF s.2 (seQ l s.1).2.2.1 (seQ l s.1).2.2.2)) else([],s)
theorem A32 {w:List UInt8} {l:List Tk} {s:Ps} (h:s.2.1≠0):sgF w l s=s:=by
 unfold sgF wr
 rw[C8.2 h];rfl
theorem Ar0 (l:List Tk) (s:Ps):(M9 l s).1=(Lp l s).1∧(M9 l s).2.2=(Lp l s).2.2∧((M9 l s).2.2.1=0→(M9 l s).2=(Lp l s).2):=by
 unfold M9 Lp
 cases hc:s.2.1==0 with
 | false =>
  rw[beq_eq_false_iff_ne] at hc
  rw[At,At]
  exact⟨rfl,by rw[A32 hc],fun _=>by rw[A32 hc]⟩
 | true =>
  rw[Ab,Ab]
  refine⟨rfl,?_⟩
  by_cases c:(faF s.2 (seQ l s.1).2.2.1 (seQ l s.1).2.2.2).1=0
  ·rw[if_pos c];exact⟨rfl,fun _=>rfl⟩
  ·rw[if_neg c,A32 (s:=(s.1,faF s.2 (seQ l s.1).2.2.1 (seQ l s.1).2.2.2)) c,A32 (s:=((seQ l s.1).2.1.toNat,faF s.2 (seQ l s.1).2.2.1 (seQ l s.1).2.2.2)) c]
   exact⟨rfl,fun h=>absurd h c⟩
theorem Apf {s:Int×Int} {e a:Int} (h:s.1=0→s.2=0) (h2:e=0→a=0):(faF s e a).1=0→(faF s e a).2=0:=by
 unfold faF
 cases s.1==0 with
 | false=>exact h
 | true =>
  cases e != 0 with
  | false=>exact h
  | true=>exact h2
theorem Api {T:Nat} {l:List Tk} (hk:Toks T l) {i:Nat} (hi:i≤l.length):(seQ l i).2.2.1=0→(seQ l i).2.2.2=0:=by
 rcases A4j hk hi with ⟨h,_⟩ | ⟨tu,h,_⟩
 ·exact fun e=>absurd e h
 ·rw[h];exact fun _=>rfl
theorem Apn {T:Nat} {l:List Tk} (hk:Toks T l) {i:Nat} (hi:i≤l.length):(peQ l i).2.2.1=0→(peQ l i).2.2.2=0:=by
 rcases A0m hk hi with ⟨h,_⟩ | ⟨tu,h,_⟩
 ·exact fun e=>absurd e h
 ·rw[h];exact fun _=>rfl
theorem Aup {T:Nat} {l:List Tk} (hk:Toks T l) {n i:Nat} (hi:i≤l.length) (hn:18*l.length+T+960≤n):Jx n l (i:Int)=some (seQ l i):=by
 obtain⟨r,hr,e⟩:=A58 hk hi
 rw[e];exact A7u hk hr hi (by omega)
theorem Att {T:Nat} {l:List Tk} (hk:Toks T l) {n i:Nat} (hi:i≤l.length) (hn:12*l.length+T+200≤n):K2 n l (i:Int)=some (peQ l i):=by
 obtain⟨r,hr,e⟩:=A55 hk hi
 rw[e];exact Uu hk.len hk.ok hk.txt hk.small hr hi hn
noncomputable def Lf (l:List Tk) (s:Ps):Th×Ps:=(⟨(nmF l (s.1+1,s.2)).1,(H7 l (sgF [123] l (nmF l (s.1+1,s.2)).2)).1,(M9 l (H7 l (sgF [123] l (nmF l (s.1+1,s.2)).2)).2).1,atA l s.1⟩,(M9 l (H7 l (sgF [123] l (nmF l (s.1+1,s.2)).2)).2).2)
theorem Akc (l:List Tk) (s:Ps):(Lf l s).1=(Nr l s).1∧(Lf l s).2.2=(Nr l s).2.2∧((Lf l s).2.2.1=0→(Lf l s).2=(Nr l s).2):=by
 obtain⟨h1,h2,h3⟩:=Ar0 l (H7 l (sgF [123] l (nmF l (s.1+1,s.2)).2)).2
 exact⟨by unfold Lf Nr;rw[h1],h2,h3⟩
theorem Abz {T:Nat} {l:List Tk} (hk:Toks T l) {s:Ps} (hs:Cn l s):Cn l (M9 l s).2∧(PsZ s→PsZ (M9 l s).2):=by
 unfold M9
 cases hc:s.2.1==0 with
 | false=>exact⟨hs,id⟩
 | true =>
  rw[Ab]
  refine⟨Nb ?_,fun hz=>Xq (Apf hz (Api hk hs))⟩
  unfold Cn
  dsimp only
  split
  ·exact(Acp hk hs).2.1
  ·exact hs
theorem Anu {T:Nat} {l:List Tk} (hk:Toks T l) (n:Nat) (s:Ps) (hz:PsZ s) (h1:s.1 < l.length) (hn:18*l.length+T+1000≤n) :
 It n (Oo l s.1).Ao l ((s.1+1:Nat):Int) s.2.1 s.2.2=some ((Lf l s).1,((Lf l s).2.1:Int),(Lf l s).2.2.1,(Lf l s).2.2.2)∧Cn l (Lf l s).2∧PsZ (Lf l s).2:=by
 have hl:=hk.len
 obtain⟨n,rfl⟩:∃ j,n=j+8:=⟨n - 8,by omega⟩
 have a1:Cn l (nmF l (s.1+1,s.2)).2:=Qt h1
 have a2:=Nb (w:=[123]) a1
 obtain⟨a3,_⟩:=A3k hk a2
 have z1:PsZ (sgF [123] l (nmF l (s.1+1,s.2)).2):=Xq (Aay hz)
 obtain⟨t,e1,e2⟩:=A7d (n+3) l (s.1+1,s.2) hl
 dsimp only at e1
 have tail:∀ (q:List (List UInt8)) (t:Ps),Cn l t→PsZ t→(bif t.2.1 != 0 then some ((⟨(nmF l (s.1+1,s.2)).1,q,([]:List A4),(Oo l s.1).Ao⟩:Ag),(t.1:Int),t.2.1,t.2.2)
  else(Jx (n+7) l (t.1:Int)).bind fun y46=>(Cd (n+7) y46.2.2.1 y46.2.2.2 l (t.1:Int) t.2.1 t.2.2).bind fun y48=>bif y48.1==0 then(By (n+7) [125] l y46.2.1 y48.1 y48.2).bind fun y51=>some ((⟨(nmF l (s.1+1,s.2)).1,q,y46.1,(Oo l s.1).Ao⟩:Ag),y51.1,y51.2.1,y51.2.2)
   else(By (n+7) [125] l (t.1:Int) y48.1 y48.2).bind fun y53=>some ((⟨(nmF l (s.1+1,s.2)).1,q,y46.1,(Oo l s.1).Ao⟩:Ag),y53.1,y53.2.1,y53.2.2))=some ((⟨(nmF l (s.1+1,s.2)).1,q,(M9 l t).1,(Oo l s.1).Ao⟩:Ag),((M9 l t).2.1:Int),(M9 l t).2.2.1,(M9 l t).2.2.2):=by
  intro q t ht hzt
  unfold M9
  cases hc:t.2.1==0 with
  | false=>rw[show(t.2.1 != 0)=true by rw[bne,hc];rfl];rfl
  | true =>
   obtain⟨g1,g2,_⟩:=Acp hk ht
   rw[show(t.2.1 != 0)=false by rw[bne,hc];rfl,At,Aup hk ht (by omega),A0,Aej (n+6) _ _ l _ t.2 hzt (Api hk ht),A0]
   dsimp only
   by_cases c:(faF t.2 (seQ l t.1).2.2.1 (seQ l t.1).2.2.2).1=0
   ·have e3:=Rj (n+2) [125] l ((seQ l t.1).2.1.toNat,faF t.2 (seQ l t.1).2.2.1 (seQ l t.1).2.2.2) hl
    dsimp only at e3
    rw[g1] at e3
    rw[beq_iff_eq.2 c,Ab,e3,A0,if_pos c];rfl
   ·have e3:=Rj (n+2) [125] l (t.1,faF t.2 (seQ l t.1).2.2.1 (seQ l t.1).2.2.2) hl
    dsimp only at e3
    rw[C8.2 c,At,e3,A0,if_neg c];rfl
 have hat:(Lf l s)=(⟨(nmF l (s.1+1,s.2)).1,(H7 l (sgF [123] l (nmF l (s.1+1,s.2)).2)).1,(M9 l (H7 l (sgF [123] l (nmF l (s.1+1,s.2)).2)).2).1,(Oo l s.1).Ao⟩,(M9 l (H7 l (sgF [123] l (nmF l (s.1+1,s.2)).2)).2).2):=by unfold Lf;rw[Ah6 h1,Rt h1]
 have e4:=Rj (n+2) [123] l (nmF l (s.1+1,s.2)).2 hl
 rw[It,e1,A0]
 dsimp only
 rw[e4,A0,N2]
 dsimp only
 rw[hat]
 generalize hS:sgF [123] l (nmF l (s.1+1,s.2)).2=S at *
 have e5:=Pr (n+5) 1 [114,101,103] l S hl
 rw[e5,A0,Vi]
 cases hc:C5 [114,101,103] l S with
 | false =>
  have hh:H7 l S=([],S):=by unfold H7;rw[hc];rfl
  rw[hh] at a3 ⊢
  obtain⟨b1,b2⟩:=Abz hk a3
  refine⟨?_,b1,b2 z1⟩
  rw[e2]
  exact tail [] S a3 z1
 | true =>
  obtain⟨q1,q2⟩:=Kt hc
  obtain⟨r1,r2⟩:=Arw hl (n+7) (by omega) (n+7) S q1 (by omega)
  have r2:=r2 z1
  have hh:H7 l S=((Ej l (l.length+2) (nmF l (S.1+1,S.2)).2 [(nmF l (S.1+1,S.2)).1]).1,sgF [59] l (Ej l (l.length+2) (nmF l (S.1+1,S.2)).2 [(nmF l (S.1+1,S.2)).1]).2):=by unfold H7;rw[hc];rfl
  rw[hh] at a3 ⊢
  obtain⟨b1,b2⟩:=Abz hk a3
  refine⟨?_,b1,b2 (Xq r2)⟩
  dsimp only [nxB,cond_true]
  rw[r1,A0]
  dsimp only
  have e6:=Rj (n+2) [59] l (Ej l (l.length+2) (nmF l (S.1+1,S.2)).2 [(nmF l (S.1+1,S.2)).1]).2 hl
  rw[e6,A0,e2]
  exact tail _ _ a3 (Xq r2)
noncomputable def Mf (l:List Tk):Nat→Ps→List Th→List Th×Ps
 | 0,s,acc=>(acc,s)
 | k+1,s,acc=>bif C5 [116,104,114,101,97,100] l s then Mf l k (Lf l s).2 (acc++[(Lf l s).1]) else(acc,s)
theorem A7m {w:List UInt8} {l:List Tk} {s:Ps} (h:s.2.1≠0):C5 w l s=false:=by unfold C5;rw[C8.2 h];rfl
theorem Ami {l:List Tk} {k:Nat} {s:Ps} {acc:List Th} (h:s.2.1≠0):Mf l k s acc=(acc,s):=by
 cases k with
 | zero=>rfl
 | succ k=>rw[Mf,A7m h];rfl
theorem Al2 {l:List Tk} {k:Nat} {s:Ps} {acc:List Th} (h:s.2.1≠0):G3 l k s acc=(acc,s):=by
 cases k with
 | zero=>rfl
 | succ k=>rw[G3,A7m h];rfl
theorem Aqt (l:List Tk):∀ (k:Nat) (s:Ps) (acc:List Th),(Mf l k s acc).1=(G3 l k s acc).1∧(Mf l k s acc).2.2=(G3 l k s acc).2.2∧((Mf l k s acc).2.2.1=0→(Mf l k s acc).2=(G3 l k s acc).2):=by
 intro k
 induction k with
 | zero=>intro s acc;exact⟨rfl,rfl,fun _=>rfl⟩
 | succ k ih =>
  intro s acc
  rw[Mf,G3]
  cases hc:C5 [116,104,114,101,97,100] l s with
  | false=>exact⟨rfl,rfl,fun _=>rfl⟩
  | true =>
   rw[Ab,Ab]
   obtain⟨h1,h2,h3⟩:=Akc l s
   by_cases c:(Lf l s).2.2.1=0
   ·rw[h1,h3 c];exact ih _ _
   ·rw[Ami c,Al2 (by rw[← h2];exact c),h1]
    exact⟨rfl,h2,fun h=>absurd h c⟩
theorem Atj {T:Nat} {l:List Tk} (hk:Toks T l) (n:Nat) (y:List Tk×Int×Int) (hy:y.1=l) (hn:18*l.length+T+1000≤n):∀ (m k K:Nat) (s:Ps) (acc:List Th),Cn l s→PsZ s→Gc l s≤m→m < k→m < K→acc.length+m≤l.length+5 →
 Km n y k (nxB (C5 [116,104,114,101,97,100] l s) l s).2.1 (nxB (C5 [116,104,114,101,97,100] l s) l s).2.2 s.2.1 s.2.2 acc (nxB (C5 [116,104,114,101,97,100] l s) l s).1.A9 (nxB (C5 [116,104,114,101,97,100] l s) l s).1.Aa (nxB (C5 [116,104,114,101,97,100] l s) l s).1.Bs (nxB (C5 [116,104,114,101,97,100] l s) l s).1.Ao
  =some (.out (((Mf l K s acc).2.1:Int),(Mf l K s acc).2.2.1,(Mf l K s acc).2.2.2,0,[],0,0,(Mf l K s acc).1))∧Cn l (Mf l K s acc).2∧PsZ (Mf l K s acc).2:=by
 subst hy
 have hl:=hk.len
 intro m
 induction m with
 | zero =>
  intro k K s acc hs hz hm hk' hK ha
  obtain⟨k,rfl⟩:∃ j,k=j+1:=⟨k - 1,by omega⟩
  obtain⟨K,rfl⟩:∃ j,K=j+1:=⟨K - 1,by omega⟩
  rw[Mf,A3f hm];exact⟨rfl,hs,hz⟩
 | succ m ih =>
  intro k K s acc hs hz hm hk' hK ha
  obtain⟨k,rfl⟩:∃ j,k=j+1:=⟨k - 1,by omega⟩
  obtain⟨K,rfl⟩:∃ j,K=j+1:=⟨K - 1,by omega⟩
  obtain⟨n,rfl⟩:∃ j,n=j+6:=⟨n - 6,by omega⟩
  rw[Mf]
  cases hc:C5 [116,104,114,101,97,100] y.1 s with
  | false=>exact⟨rfl,hs,hz⟩
  | true =>
   obtain⟨h1,h2⟩:=Kt hc
   obtain⟨t1,t2,t3⟩:=Anu hk (n+6) s hz h1 (by omega)
   obtain⟨q2,q3⟩:=Agu hk h1
   obtain⟨_,p2,p3⟩:=Akc y.1 s
   have hprog:(Lf y.1 s).2.2.1≠0∨s.1 < (Lf y.1 s).2.1:=by
    by_cases c:(Lf y.1 s).2.2.1=0
    ·rw[p3 c];exact q3
    ·exact .inl c
   have:=ih k K (Lf y.1 s).2 (acc++[(Lf y.1 s).1]) t2 t3 (by have:=Vw (t:=(Lf y.1 s).2) h2 hs hprog t2;omega) (by omega) (by omega) (by simp;omega)
   rw[Ab]
   refine⟨?_,this.2⟩
   rw[Km]
   dsimp only [nxB,cond_true]
   rw[t1,A0,A6 (by omega),N2]
   dsimp only
   have hnx:=Pr (n+4) 1 [116,104,114,101,97,100] y.1 (Lf y.1 s).2 hl
   rw[hnx,A0,Vi]
   exact this.1
end Go.Proofs.Ytnijlelbihnamaa
end
