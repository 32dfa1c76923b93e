/- Parts of the proofs: what they lean on. Conditions: none. -/
import Derived.Test.YtpnhafdimkmbbaaGreatLegalTextsP1
section
namespace Go.Proofs.YtpnhafdimkmbbaaGreat
set_option linter.unusedVariables false
set_option linter.unusedSimpArgs false
theorem Abc (f:Nat) (l:List UInt8) (p:Nat) (acc:List Tok):(Nn f l p acc).toks.length≤acc.length+l.length:=by
 induction f generalizing l p acc with
 | zero=>simp[Nn]
 | succ f ih =>
  have hg:=A4d false l
  simp only[Nn]
  rcases hd:l.drop (En false l) with _ | ⟨c,u⟩
  ·simp
  ·have hlen:=congrArg List.length hd
   rw[List.length_drop] at hlen
   simp only
   cases ho:Qo (c :: u) with
   | err e=>simp
   | tok k n v =>
    simp only
    have hn:=A1l ho
    have:=ih ((c :: u).drop n) (p+En false l+n) (acc++[⟨k,(c :: u).take n,v,(p+En false l:Nat)⟩])
    simp only[List.length_append,List.length_singleton,List.length_drop] at this
    omega
theorem Aht (l:List UInt8):(M1 l).toks.length≤l.length:=by
 unfold M1
 split
 ·simp
 ·have:=Abc (l.length+1) l 0 []
  simpa using this
theorem Ait {l:List UInt8} {k:Int} {n v:Nat} (h:Qo l=.tok k n v):v≤9999:=by
 rcases l with _ | ⟨c,t⟩
 ·simp[Qo] at h
 ·simp only[Qo] at h
  repeat' split at h
  all_goals first
   | (simp at h;done)
   | (simp only[Lx.tok.injEq] at h;omega)
def Ae4 (B:Nat) (t:Tok):Prop:=0≤t.at'∧t.at'+t.text.length≤B∧0≤t.n∧t.n≤9999
theorem Aci (f:Nat) (l:List UInt8) (p B:Nat) (acc:List Tok) (hB:p+l.length≤B) (ha:∀ t ∈ acc,Ae4 B t):∀ t ∈ (Nn f l p acc).toks,Ae4 B t:=by
 induction f generalizing l p acc with
 | zero=>exact ha
 | succ f ih =>
  have hg:=A4d false l
  simp only[Nn]
  rcases hd:l.drop (En false l) with _ | ⟨c,u⟩
  ·exact ha
  ·have hlen:=congrArg List.length hd
   rw[List.length_drop] at hlen
   simp only
   cases ho:Qo (c :: u) with
   | err e=>simp
   | tok k n v =>
    simp only
    have hn:=A1l ho
    refine ih ((c :: u).drop n) (p+En false l+n) _ (by rw[List.length_drop];omega) (fun t ht=>?_)
    rcases List.mem_append.1 ht with ht | ht
    ·exact ha t ht
    ·obtain rfl:=List.mem_singleton.1 ht
     have:=Ait ho
     refine⟨by dsimp only;omega,?_,by dsimp only;omega,by dsimp only;omega⟩
     dsimp only
     rw[List.length_take];omega
theorem Aks (l:List UInt8):∀ t ∈ (M1 l).toks,Ae4 l.length t:=by
 unfold M1
 split
 ·simp
 ·exact Aci _ _ _ _ _ (by omega) (by simp)
def Vy (s:List UInt8):List Tk:=(M1 s).toks.map tkS
theorem Xy (s:List UInt8):(∀ t ∈ Vy s,Tj t∧t.A8+t.Bt.length≤s.length)∧(Vy s).length≤s.length:=by
 refine⟨fun t ht=>?_,by rw[Vy,List.length_map];exact Aht s⟩
 obtain⟨u,hu,rfl⟩:=List.mem_map.1 ht
 have:=Aks s u hu
 exact⟨⟨this.1,this.2.2.1,this.2.2.2⟩,this.2.1⟩
def Ame (l:List Tk):PR→Prop
 | .bad _ a=>(∃ t ∈ l,a=t.A8)∨(∃ i,a=C7 l i)
 | _=>True
theorem Als {l:List Tk} {md:Md} {inn i:Nat} {r:PR} (h:PE l md inn i r):Ame l r:=by
 induction h with
 | deep h1 h2 h3=>exact .inl ⟨_,List.mem_of_getElem? h3,rfl⟩
 | not_bad h1 h2 h4 ih=>exact ih
 | par_bad h1 h2 h4 ih=>exact ih
 | par_open h1 h2 h3 h4 ih=>exact .inr ⟨_,rfl⟩
 | of_bad h1 h2 h3=>exact .inr ⟨_,rfl⟩
 | no h1 h2 h3 h4=>exact .inr ⟨_,rfl⟩
 | fl_bad h1 h2 ih=>exact ih
 | fl_ok h1 h2 h3 ih1 ih2=>exact ih2
 | lp_bad h1 h2 h3 ih=>exact ih
 | lp_go h1 h2 h3 h4 h5 h6 ih1 ih2=>exact ih2
 | _=>trivial
theorem Kg {l:List Tk} {B:Nat} (hB:B < 1000000) (h:∀ t ∈ l,Tj t∧t.A8+t.Bt.length≤B) (i:Nat):0≤C7 l i∧C7 l i≤B:=by
 unfold C7
 cases h1:l[i]? with
 | some t=>have:=h t (List.mem_of_getElem? h1);have:=this.1.1;dsimp only;omega
 | none =>
  cases h2:l[l.length - 1]? with
  | some t=>have:=h t (List.mem_of_getElem? h2);have:=this.1.1;dsimp only;rw[C1 (by omega)];omega
  | none=>dsimp only;omega
theorem A5a {l:List Tk} {B:Nat} (hB:B < 1000000) (h:∀ t ∈ l,Tj t∧t.A8+t.Bt.length≤B) {md:Md} {inn i:Nat} {e a:Int} (hp:PE l md inn i (.bad e a)):0≤a∧a≤B:=by
 rcases Als hp with ⟨t,ht,rfl⟩ | ⟨i,rfl⟩
 ·have:=h t ht;have:=this.1.1;omega
 ·exact Kg hB h i
theorem Agu {l:List Nd} (h6:l.all G2=true) (hl:H8 l=true):Ac7 l:=by
 simp only[H8,Bool.and_eq_true,decide_eq_true_eq,List.all_eq_true] at hl
 exact fun x hx=>⟨List.all_eq_true.1 h6 x hx,(hl.2 x hx).1,(hl.2 x hx).2⟩
end Go.Proofs.YtpnhafdimkmbbaaGreat
end
section
namespace Go.Proofs.YtpnhafdimkmbbaaGreat
set_option linter.unusedVariables false
set_option linter.unusedSimpArgs false
theorem A3a {x:List Nd} (h:O1 x) (hl:x.length≤200):H8 x=true:=by
 simp only[H8,Bool.and_eq_true,decide_eq_true_eq,List.all_eq_true]
 refine⟨by omega,fun y hy=>?_⟩
 have hy:=(h.2 y hy).1
 have nl:∀ {w:List UInt8},Ca w=true→w.length≤16:=fun h=>by
  obtain⟨_,_,_,_,_,h⟩:=A9x h;exact h
 simp only[G2,Bool.and_eq_true] at hy
 have hy:=hy.2
 by_cases c1:y.Bg=1
 ·rw[if_pos c1] at hy
  simp only[Bool.and_eq_true,beq_iff_eq] at hy
  rw[hy.2.1,hy.2.2];simp
 ·rw[if_neg c1] at hy
  by_cases c2:y.Bg=2∨y.Bg=3
  ·rw[if_pos c2] at hy
   simp only[Bool.and_eq_true,beq_iff_eq] at hy
   have:=nl hy.2.1
   rw[hy.2.2];simp;omega
  ·rw[if_neg c2] at hy
   by_cases c4:y.Bg=4
   ·rw[if_pos c4] at hy
    simp only[Bool.and_eq_true,beq_iff_eq] at hy
    have:=nl hy.2.1;have:=nl hy.2.2
    omega
   ·rw[if_neg c4] at hy
    simp only[Bool.and_eq_true,beq_iff_eq] at hy
    rw[hy.2.1,hy.2.2];simp
theorem Vc {x:List Nd} (h:O1 x) (hl:x.length≤200) (hd:(Ha x (0,[])).1≤30):∃ t:Tr,t.wf∧t.flat=x∧t.dep≤30∧Ac7 t.flat∧Ey x=true:=by
 obtain⟨⟨t,t1,rfl⟩,hg⟩:=h
 have hd2:=A48 t [] 0 [] t1 (by omega)
 rw[List.append_nil] at hd2
 have e:(Ha t.flat (0,[])).1=(t.dep:Int):=by rw[hd2];simp[Ha]
 have hp:=t.flat_pos
 have h6:t.flat.all G2=true:=List.all_eq_true.2 fun y hy=>(hg y hy).1
 have he:H9 t.flat 1=some t.flat.length:=by
  have:=Abg t 1 [] t1 (by omega)
  rw[List.append_nil,if_pos rfl] at this;exact this
 refine⟨t,t1,rfl,by omega,Agu h6 (A3a ⟨⟨t,t1,rfl⟩,hg⟩ hl),?_⟩
 simp only[Ey,Bool.and_eq_true,decide_eq_true_eq]
 exact⟨⟨hp,hl⟩,he,h6,hd⟩
theorem A5b {l:List Tk} {i:Nat} {r:PR} (hr:PE l (.fl 0) 0 i r) (hi:i≤l.length):(∃ e a,Q4 l i r=([],0,e,a)∧e≠0∧(r=.bad e a∨a=C7 l i))∨(∃ x tu,r=.ok x tu∧Q4 l i r=(x,(tu:Int),0,0)∧x.length≤200∧(Ha x (0,[])).1≤30):=by
 cases r with
 | bad e a=>exact .inl ⟨e,a,rfl,M4 hr hi,.inl rfl⟩
 | ok x tu =>
  simp only[Q4]
  by_cases c:30 < (Ha x (0,[])).1
  ·rw[if_pos c];exact .inl ⟨7,_,rfl,by decide,.inr rfl⟩
  ·rw[if_neg c]
   by_cases c2:200 < x.length
   ·rw[if_pos c2];exact .inl ⟨2,_,rfl,by decide,.inr rfl⟩
   ·rw[if_neg c2];exact .inr ⟨x,tu,rfl,rfl,by omega,by omega⟩
end Go.Proofs.YtpnhafdimkmbbaaGreat
end
section
namespace Go.Proofs.YtpnhafdimkmbbaaGreat
set_option linter.unusedVariables false
set_option linter.unusedSimpArgs false
set_option maxRecDepth 10000
theorem Eo (n:Nat) (s:List UInt8) (l:List Tk) (i:Nat):Cv (n+1) l (i:Int) s=some (Bw l i s):=by
 rw[Cv]
 by_cases h:i < l.length
 ·rw[Af (by omega),E3 h,Option.bind_some,Option.bind_some]
  unfold Bw
  rw[List.getElem?_eq_getElem h]
  dsimp only
  cases hk:(l[i].Ac==3)<;>simp
 ·rw[As (by omega)]
  unfold Bw
  rw[List.getElem?_eq_none (by omega)]
theorem A4q (n:Nat) (l:List Tk) (i:Nat) (hl:l.length < 1000000):Ht (n+1) l (i:Int)=some (C7 l i):=by
 rw[Ht]
 by_cases h:i < l.length
 ·rw[Af (by omega),E3 h,Option.bind_some]
  unfold C7
  rw[List.getElem?_eq_getElem h]
 ·rw[As (by omega)]
  unfold C7
  rw[List.getElem?_eq_none (by omega)]
  by_cases h0:l.length=0
  ·have:l=[]:=List.length_eq_zero_iff.1 h0
   subst this
   rfl
  ·have e:IntKind.i64.wrap ((l.length:Int) - 1)=((l.length - 1:Nat):Int):=by rw[C1 (by omega)];omega
   rw[e,show(((l.length:Nat):Int)==0)=false by rw[beq_eq_false_iff_ne];omega,cond_false,E3 (show l.length - 1 < l.length by omega),Option.bind_some,Option.bind_some,List.getElem?_eq_getElem (show l.length - 1 < l.length by omega)]
theorem Alb (n:Nat) (l:List Tk) (i:Nat) (hl:l.length < 1000000):Cr (n+2) l (i:Int)=some ⟨[],0,Jl l i,C7 l i⟩:=by
 rw[Cr,A4q n l i hl]
 unfold Jl
 by_cases h:i < l.length
 ·rw[As (by omega),if_pos h];rfl
 ·rw[Af (by omega),if_neg h];rfl
theorem Af7 {a b:Int} (ha:6≤a∧a≤14) (hb:6≤b∧b≤14) (h:Lm a=Lm b):a=b:=by
 have ca:a=6∨a=7∨a=8∨a=9∨a=10∨a=11∨a=12∨a=13∨a=14:=by omega
 have cb:b=6∨b=7∨b=8∨b=9∨b=10∨b=11∨b=12∨b=13∨b=14:=by omega
 rcases ca with rfl | rfl | rfl | rfl | rfl | rfl | rfl | rfl | rfl<;>rcases cb with rfl | rfl | rfl | rfl | rfl | rfl | rfl | rfl | rfl<;>first | rfl | (revert h;decide)
theorem Adr {l:List Tk} {i:Nat} {a:Int}:∀ {ops:List Int},(∀ op ∈ ops,Bw l i (Lm op)=true→op=a)→ops.foldl (fun acc op=>bif Bw l i (Lm op) then op else acc) a=a:=by
 intro ops
 induction ops with
 | nil=>intro _;rfl
 | cons op ops ih =>
  intro h
  rw[List.foldl_cons]
  cases hs:Bw l i (Lm op) with
  | true=>rw[cond_true,h op (List.mem_cons_self ..) hs];exact ih fun o ho=>h o (List.mem_cons_of_mem _ ho)
  | false=>rw[cond_false];exact ih fun o ho=>h o (List.mem_cons_of_mem _ ho)
theorem Alp (n:Nat) {op:Int} (h:5≤op∧op≤14):Rz (n+1) op=some (Lm op):=by
 rcases A7a op with h | h | h | h | h | h | h | h | h | h | h | h | h | h | h | h
 all_goals try omega
 all_goals subst h;rfl
theorem Aiq (n:Nat) (l:List Tk) (i:Nat):∀ (ops pre:List Int) (k:Nat),(∀ op ∈ ops,6≤op∧op≤14)→ops.length < k→(pre++ops).length < 1000 →
 (I6 (n+1) l (i:Int) (pre++ops) k (pre.length:Int)).bind (fun o=>match o with | .out _=>some (0:Int) | .ret v=>some v)=some (ops.foldl (fun acc op=>bif Bw l i (Lm op) then op else acc) 0):=by
 intro ops
 induction ops with
 | nil =>
  intro pre k _ hk _
  obtain⟨k,rfl⟩:∃ j,k=j+1:=⟨k - 1,by omega⟩
  rw[I6,As (by simp)];rfl
 | cons op ops ih =>
  intro pre k ho hk hlen
  obtain⟨k,rfl⟩:∃ j,k=j+1:=⟨k - 1,by omega⟩
  have hop:=ho op (List.mem_cons_self ..)
  have hget:idx (pre++op :: ops) (pre.length:Int)=some op:=by rw[Mo];simp
  rw[I6,Af (by simp;omega),hget,Option.bind_some,Alp n ⟨by omega,hop.2⟩,Option.bind_some,Eo,Option.bind_some,List.foldl_cons]
  cases hs:Bw l i (Lm op) with
  | true =>
   rw[cond_true,cond_true,Option.bind_some]
   rw[Adr fun o h1 h2=>?_]
   ·rfl
   ·by_cases he:Lm o=Lm op
    ·exact Af7 (ho o (List.mem_cons_of_mem _ h1)) hop he
    ·have:=Qn hs (fun e=>he e.symm);rw[this] at h2;cases h2
  | false =>
   rw[cond_false,cond_false]
   have:=ih (pre++[op]) k (fun o h=>ho o (List.mem_cons_of_mem _ h)) (by simp at hk;omega) (by simpa using hlen)
   simp only[List.append_assoc,List.singleton_append,List.length_append,List.length_singleton] at this
   rw[B3 pre.length (by simp at hlen;omega)]
   exact this
theorem Zs (n:Nat) (l:List Tk) (i f:Nat) (hn:8 < n):N4 n l (i:Int) (Kd f)=some (Jn l i (Kd f)):=by
 obtain⟨n,rfl⟩:∃ j,n=j+2:=⟨n - 2,by omega⟩
 obtain⟨h1,h2⟩:=Aft f
 rw[N4]
 exact Aiq n l i (Kd f) [] (n+1) h1 (by omega) (by simp;omega)
theorem Xl {n f:Nat} (hf:f < 5):(Gp (n+1)).bind (fun y=>idx y (f:Int))=some (Kd f):=by
 rw[Gp,Option.bind_some,Mo]
 match f,hf with
 | 0,_=>rfl
 | 1,_=>rfl
 | 2,_=>rfl
 | 3,_=>rfl
 | 4,_=>rfl
end Go.Proofs.YtpnhafdimkmbbaaGreat
end
section
namespace Go.Proofs.YtpnhafdimkmbbaaGreat
set_option linter.unusedVariables false
set_option linter.unusedSimpArgs false
set_option maxRecDepth 10000
abbrev Got:=Bz
def A8y (r:PR) (o:Option Got):Prop:=match r with
 | .ok x tu=>o=some ⟨x,(tu:Int),0,0⟩
 | .bad e a=>e≠0∧∃ X t,o=some ⟨X,t,e,a⟩
def Anj:LR ((List Nd)×Int×Int×Int) Got→Option Got
 | .out (a,b,c,d)=>some ⟨a,b,c,d⟩
 | .ret v=>some v
def Ang (T:Nat) (l:List Tk) (inn i:Nat) (r:PR):Md→Prop
 | .fl f=>f≤5→∀ n,8*(l.length - i)+(6 - f)+T+60≤n→A8y r (Cm n l (i:Int) (inn:Int) (f:Int))
 | .lp f x=>f < 5→x.length≤i→∀ n k,8*(l.length - i)+(6 - (f+1))+T+60≤n→l.length - i < k→A8y r ((F3 n (Cm n) l (inn:Int) (f:Int) k x (i:Int) 0 0).bind Anj)
theorem Yh (l:List Tk) (i:Nat):Jl l i≠0:=by unfold Jl;split<;>decide
theorem Yt (n:Nat) (l:List Tk) (i:Nat) (hl:l.length < 1000000):A8y (Ae3 l i) (Cr (n+2) l (i:Int)):=⟨Yh l i,_,_,Alb n l i hl⟩
theorem Mr (n:Nat) (l:List Tk) (i inn:Int):Cm (n+1) l i inn 5=Dm n l i inn:=by
 rw[Cm]
 simp
theorem Yk (r:PR) (o:Option Got) (h:A8y r o):A8y r (o.bind fun y=>some y):=by
 cases o<;>exact h
theorem Aer (n:Nat) (h:n < 4611686018427387904):IntKind.i64.wrap ((n:Int)+2)=((n+2:Nat):Int):=by rw[C1 (by omega)];omega
theorem Aeu (n:Nat) (h:n < 4611686018427387904):IntKind.i64.wrap ((n:Int)+3)=((n+3:Nat):Int):=by rw[C1 (by omega)];omega
theorem Amg {T:Nat} {l:List Tk} (hl:l.length < 100000) (hT:∀ t ∈ l,t.Bt.length≤T) (hT2:T < 100000) {md:Md} {inn i:Nat} {r:PR} (h:PE l md inn i r):i≤l.length→inn≤30→Ang T l inn i r md:=by
 have nm:∀ (n i:Nat) (t:Tk),l[i]?=some t→T+45≤n→D0 n t.Bt=some (Ca t.Bt):=fun n i t ht hn=>P4 n _ (by have:=hT t (List.mem_of_getElem? ht);omega) (by have:=hT t (List.mem_of_getElem? ht);omega)
 induction h with
 | @deep inn i t h1 h2 h3 =>
  intro hi hn _ n hf
  have hlt:=J4 h3
  obtain⟨n,rfl⟩:∃ j,n=j+10:=⟨n - 10,by omega⟩
  rw[show((5:Nat):Int)=5 from rfl,Mr,Dm,As (by omega),Bm h3,Option.bind_some,Eo,Eo,Option.bind_some]
  refine⟨by decide,[],0,?_⟩
  rcases h1 with h1 | h1
  ·have h0:Bw l i [40]=false:=Qn h1 (by decide)
   rw[h0,h1]
   simp only[cond_false,Option.bind_some,cond_true,Af (show(30:Int)≤(inn:Int) by omega)]
  ·rw[h1]
   simp only[cond_true,Af (show(30:Int)≤(inn:Int) by omega)]
 | @not_ok inn i tu t x h1 h2 h3 h4 ih =>
  intro hi hn _ n hf
  have hlt:=J4 h3
  have hx:=M4 h4 (by omega);dsimp only at hx
  obtain⟨n,rfl⟩:∃ j,n=j+10:=⟨n - 10,by omega⟩
  have e:Cm (n+9) l ((i+1:Nat):Int) ((inn+1:Nat):Int) 5=some ⟨x,(tu:Int),0,0⟩:=ih (by omega) (by omega) (by omega) (n+9) (by omega)
  rw[Mr] at e
  have h0:Bw l i [40]=false:=Qn h1 (by decide)
  rw[show((5:Nat):Int)=5 from rfl,Mr,Dm,As (by omega),Bm h3,Option.bind_some,Eo,Eo,Option.bind_some,h0,h1,B3 i (by omega),B3 inn (by omega),e]
  simp only[cond_false,Option.bind_some,cond_true,As (show ¬ (30:Int)≤(inn:Int) by omega),beq_self_eq_true,List.length_singleton,Af (show(1+x.length)*57≤140737488355328 by omega)]
  rfl
 | @not_bad inn i e a h1 h2 h4 ih =>
  intro hi hn _ n hf
  have hlt:=E5 h1
  obtain⟨n,rfl⟩:∃ j,n=j+10:=⟨n - 10,by omega⟩
  obtain⟨hne,X,tt,e1⟩:=ih (by omega) (by omega) (by omega) (n+9) (by omega)
  rw[show((5:Nat):Int)=5 from rfl,Mr] at e1
  have h0:Bw l i [40]=false:=Qn h1 (by decide)
  have hb:(e==0)=false:=by rw[beq_eq_false_iff_ne];exact hne
  rw[show((5:Nat):Int)=5 from rfl,Mr,Dm,As (by omega),E3 hlt,Option.bind_some,Eo,Eo,Option.bind_some,h0,h1,B3 i (by omega),B3 inn (by omega),e1]
  simp only[cond_false,Option.bind_some,cond_true,As (show ¬ (30:Int)≤(inn:Int) by omega),hb]
  exact⟨hne,_,_,rfl⟩
 | @par_ok inn i tu x h1 h2 h3 h4 ih =>
  intro hi hn _ n hf
  have hlt:=E5 h1
  have hx:=M4 h3 (by omega);dsimp only at hx
  obtain⟨n,rfl⟩:∃ j,n=j+10:=⟨n - 10,by omega⟩
  have e:Cm (n+8) l ((i+1:Nat):Int) ((inn+1:Nat):Int) 0=some ⟨x,(tu:Int),0,0⟩:=ih (by omega) (by omega) (by omega) (n+8) (by omega)
  have h0:Bw l i [33]=false:=Qn h1 (by decide)
  rw[show((5:Nat):Int)=5 from rfl,Mr,Dm,As (by omega),E3 hlt,Option.bind_some,Eo,Eo,Option.bind_some,h0,h1,B3 i (by omega),B3 inn (by omega),e]
  simp only[cond_false,Option.bind_some,cond_true,As (show ¬ (30:Int)≤(inn:Int) by omega),beq_self_eq_true,Eo,h4,B3 tu (show tu < 4611686018427387904 by omega)]
  rfl
 | @par_bad inn i e a h1 h2 h3 ih =>
  intro hi hn _ n hf
  have hlt:=E5 h1
  obtain⟨n,rfl⟩:∃ j,n=j+10:=⟨n - 10,by omega⟩
  obtain⟨hne,X,tt,e1⟩:=ih (by omega) (by omega) (by omega) (n+8) (by omega)
  rw[show((0:Nat):Int)=0 from rfl] at e1
  have h0:Bw l i [33]=false:=Qn h1 (by decide)
  have hb:(e==0)=false:=by rw[beq_eq_false_iff_ne];exact hne
  rw[show((5:Nat):Int)=5 from rfl,Mr,Dm,As (by omega),E3 hlt,Option.bind_some,Eo,Eo,Option.bind_some,h0,h1,B3 i (by omega),B3 inn (by omega),e1]
  simp only[cond_false,Option.bind_some,cond_true,As (show ¬ (30:Int)≤(inn:Int) by omega),hb]
  exact⟨hne,_,_,rfl⟩
 | @par_open inn i tu x h1 h2 h3 h4 ih =>
  intro hi hn _ n hf
  have hlt:=E5 h1
  have hx:=M4 h3 (by omega);dsimp only at hx
  obtain⟨n,rfl⟩:∃ j,n=j+10:=⟨n - 10,by omega⟩
  have e:Cm (n+8) l ((i+1:Nat):Int) ((inn+1:Nat):Int) 0=some ⟨x,(tu:Int),0,0⟩:=ih (by omega) (by omega) (by omega) (n+8) (by omega)
  have h0:Bw l i [33]=false:=Qn h1 (by decide)
  rw[show((5:Nat):Int)=5 from rfl,Mr,Dm,As (by omega),E3 hlt,Option.bind_some,Eo,Eo,Option.bind_some,h0,h1,B3 i (by omega),B3 inn (by omega),e]
  simp only[cond_false,Option.bind_some,cond_true,As (show ¬ (30:Int)≤(inn:Int) by omega),beq_self_eq_true,Eo,h4]
  exact Yk _ _ (Yt (n+6) l tu (by omega))
 | @num inn i t h1 h2 =>
  intro hi hn _ n hf
  have hlt:=J4 h2
  obtain⟨n,rfl⟩:∃ j,n=j+10:=⟨n - 10,by omega⟩
  have hk:t.Ac=2:=by simpa [isK,h2] using h1
  have h3:Bw l i [33]=false:=by simp[Bw,h2,hk]
  have h4:Bw l i [40]=false:=by simp[Bw,h2,hk]
  rw[show((5:Nat):Int)=5 from rfl,Mr,Dm,As (by omega),Bm h2,Option.bind_some,Eo,Eo,Option.bind_some,h3,h4,B3 i (by omega)]
  simp only[cond_false,Option.bind_some,cond_true,hk,beq_self_eq_true]
  rfl
 | @reg inn i t h1 h2 h3 =>
  intro hi hn _ n hf
  have hlt:=J4 h3
  obtain⟨n,rfl⟩:∃ j,n=j+10:=⟨n - 10,by omega⟩
  have hk:t.Ac=1∧Ca t.Bt=true:=by simpa [isN,h3] using h1
  have h4:Bw l i [33]=false:=by simp[Bw,h3,hk.1]
  have h5:Bw l i [40]=false:=by simp[Bw,h3,hk.1]
  rw[show((5:Nat):Int)=5 from rfl,Mr,Dm,As (by omega),Bm h3,Option.bind_some,Eo,Eo,Option.bind_some,h4,h5,B3 i (by omega),nm _ i t h3 (by omega),hk.2,Eo,h2]
  simp only[cond_false,Option.bind_some,cond_true,hk.1]
  rfl
 | @of inn i t u h1 h2 h3 h4 h5 =>
  intro hi hn _ n hf
  have hlt:=J4 h4
  have hlt2:=J4 h5
  obtain⟨n,rfl⟩:∃ j,n=j+10:=⟨n - 10,by omega⟩
  have hk:t.Ac=1∧Ca t.Bt=true:=by simpa [isN,h4] using h1
  have hu:u.Ac=1∧Ca u.Bt=true:=by simpa [isN,h5] using h3
  have h6:Bw l i [33]=false:=by simp[Bw,h4,hk.1]
  have h7:Bw l i [40]=false:=by simp[Bw,h4,hk.1]
  rw[show((5:Nat):Int)=5 from rfl,Mr,Dm,As (by omega),Bm h4,Option.bind_some,Eo,Eo,Option.bind_some,h6,h7,B3 i (by omega),Aer i (by omega),Aeu i (by omega),nm _ i t h4 (by omega),hk.2,Eo,h2,Bm h5]
  simp only[cond_false,Option.bind_some,cond_true,hk.1,hu.1,nm (n+8) (i+2) u h5 (by omega),hu.2,As (show ¬ ((l.length:Nat):Int)≤((i+2:Nat):Int) by omega)]
  rfl
 | @of_bad inn i h1 h2 h3 =>
  intro hi hn _ n hf
  have hlt:=T6 h1
  obtain⟨t,h4⟩:∃ t,l[i]?=some t:=⟨_,List.getElem?_eq_getElem hlt⟩
  obtain⟨n,rfl⟩:∃ j,n=j+10:=⟨n - 10,by omega⟩
  have hk:t.Ac=1∧Ca t.Bt=true:=by simpa [isN,h4] using h1
  have h6:Bw l i [33]=false:=by simp[Bw,h4,hk.1]
  have h7:Bw l i [40]=false:=by simp[Bw,h4,hk.1]
  rw[show((5:Nat):Int)=5 from rfl,Mr,Dm,As (by omega),Bm h4,Option.bind_some,Eo,Eo,Option.bind_some,h6,h7,B3 i (by omega),Aer i (by omega),Aeu i (by omega),nm _ i t h4 (by omega),hk.2,Eo,h2]
  simp only[cond_false,Option.bind_some,cond_true,hk.1]
  have hfail:=Yk _ _ (Yt (n+6) l (i+2) (by omega))
  by_cases hi2:i+2 < l.length
  ·obtain⟨u,h5⟩:∃ u,l[i+2]?=some u:=⟨_,List.getElem?_eq_getElem hi2⟩
   have hu:((u.Ac==1)&&Ca u.Bt)=false:=by simpa [isN,h5] using h3
   simp only[As (show ¬ ((l.length:Nat):Int)≤((i+2:Nat):Int) by omega),Bm h5,Option.bind_some,nm (n+8) (i+2) u h5 (by omega)]
   by_cases hk1:u.Ac=1
   ·rw[hk1] at hu ⊢
    have hb:Ca u.Bt=false:=by simpa using hu
    simp only[hb,cond_false,bne_self_eq_false]
    exact hfail
   ·have:(u.Ac != 1)=true:=by rw[bne_iff_ne];exact hk1
    simp only[this,cond_true]
    exact hfail
  ·simp only[Af (show((l.length:Nat):Int)≤((i+2:Nat):Int) by omega)]
   exact hfail
 | @no inn i h1 h2 h3 h4 =>
  intro hi hn _ n hf
  obtain⟨n,rfl⟩:∃ j,n=j+10:=⟨n - 10,by omega⟩
  have hfail:=Yk _ _ (Yt (n+6) l i (by omega))
  rw[show((5:Nat):Int)=5 from rfl,Mr,Dm]
  by_cases hi1:i < l.length
  ·obtain⟨t,h5⟩:∃ t,l[i]?=some t:=⟨_,List.getElem?_eq_getElem hi1⟩
   have hk2:(t.Ac==2)=false:=by simpa [isK,h5] using h3
   have hu:((t.Ac==1)&&Ca t.Bt)=false:=by simpa [isN,h5] using h4
   rw[As (by omega),Bm h5,Option.bind_some,Eo,Eo,Option.bind_some,h1,h2]
   simp only[cond_false,Option.bind_some,hk2,nm (n+8) i t h5 (by omega)]
   by_cases hk1:t.Ac=1
   ·rw[hk1] at hu ⊢
    have hb:Ca t.Bt=false:=by simpa using hu
    simp only[hb,cond_false,bne_self_eq_false]
    exact hfail
   ·have:(t.Ac != 1)=true:=by rw[bne_iff_ne];exact hk1
    simp only[this,cond_true]
    exact hfail
  ·rw[Af (by omega)]
   exact hfail
 | @fl_bad f inn i e a h1 h2 ih =>
  intro hi hn hf5 n hf
  obtain⟨n,rfl⟩:∃ j,n=j+1:=⟨n - 1,by omega⟩
  obtain⟨hne,X,tt,e1⟩:=ih hi hn (by omega) n (by omega)
  have hb:(e==0)=false:=by rw[beq_eq_false_iff_ne];exact hne
  rw[Cm,show(((f:Nat):Int)==5)=false by rw[beq_eq_false_iff_ne];omega,cond_false,B3 f (by omega),e1,Option.bind_some]
  obtain⟨n,rfl⟩:∃ j,n=j+1:=⟨n - 1,by omega⟩
  simp only[F3,hb,cond_false,Option.bind_some]
  exact⟨hne,_,_,rfl⟩
 | @fl_ok f inn i tu x r h1 h2 h3 ih1 ih2 =>
  intro hi hn hf5 n hf
  have hx:=M4 h2 hi;dsimp only at hx
  obtain⟨n,rfl⟩:∃ j,n=j+1:=⟨n - 1,by omega⟩
  have e:Cm n l (i:Int) (inn:Int) ((f+1:Nat):Int)=some ⟨x,(tu:Int),0,0⟩:=ih1 hi hn (by omega) n (by omega)
  rw[Cm,show(((f:Nat):Int)==5)=false by rw[beq_eq_false_iff_ne];omega,cond_false,B3 f (by omega),e,Option.bind_some]
  exact ih2 (by omega) hn (by omega) (by omega) n n (by omega) (by omega)
 | @lp_stop f inn i x h1 =>
  intro hi hn hf5 hxl n k hf hk
  obtain⟨k,rfl⟩:∃ j,k=j+1:=⟨k - 1,by omega⟩
  obtain⟨n,rfl⟩:∃ j,n=j+1:=⟨n - 1,by omega⟩
  rw[F3,beq_self_eq_true,cond_true]
  have hfl:=Xl (n:=n) hf5
  cases hm:Gp (n+1) with
  | none=>rw[hm] at hfl;cases hfl
  | some y =>
   rw[hm] at hfl
   simp only[Option.bind_some] at hfl ⊢
   rw[hfl,Option.bind_some,Zs _ _ _ _ (by omega),h1,Option.bind_some,beq_self_eq_true,cond_true]
   rfl
 | @lp_bad f inn i x e a h1 h2 h3 ih =>
  intro hi hn hf5 hxl n k hf hk
  have hlt:=Sc h2
  obtain⟨k,rfl⟩:∃ j,k=j+1:=⟨k - 1,by omega⟩
  obtain⟨hne,X,tt,e1⟩:=ih (by omega) hn (by omega) n (by omega)
  obtain⟨n,rfl⟩:∃ j,n=j+1:=⟨n - 1,by omega⟩
  have hb:(e != 0)=true:=by rw[bne_iff_ne];exact hne
  rw[F3,beq_self_eq_true,cond_true]
  have hfl:=Xl (n:=n) hf5
  cases hm:Gp (n+1) with
  | none=>rw[hm] at hfl;cases hfl
  | some y =>
   rw[hm] at hfl
   simp only[Option.bind_some] at hfl ⊢
   rw[hfl,Option.bind_some,Zs _ _ _ _ (by omega),Option.bind_some,show(Jn l i (Kd f)==0)=false by rw[beq_eq_false_iff_ne];exact h2,cond_false,B3 i (by omega),B3 f (by omega),e1,Option.bind_some]
   simp only[hb,cond_true]
   exact⟨hne,_,_,rfl⟩
 | @lp_once inn i tu x y t h1 h2 h3 ih =>
  intro hi hn hf5 hxl n k hf hk
  have hlt:=J4 h2
  have hx:=M4 h3 (by omega);dsimp only at hx
  obtain⟨k,rfl⟩:∃ j,k=j+1:=⟨k - 1,by omega⟩
  have e:Cm n l ((i+1:Nat):Int) (inn:Int) ((3:Nat):Int)=some ⟨y,(tu:Int),0,0⟩:=ih (by omega) hn (by omega) n (by omega)
  obtain⟨n,rfl⟩:∃ j,n=j+1:=⟨n - 1,by omega⟩
  rw[F3,beq_self_eq_true,cond_true]
  have hfl:=Xl (n:=n) hf5
  cases hm:Gp (n+1) with
  | none=>rw[hm] at hfl;cases hfl
  | some yy =>
   rw[hm] at hfl
   simp only[Option.bind_some] at hfl ⊢
   rw[hfl,Option.bind_some,Zs _ _ _ _ (by omega),Option.bind_some,show(Jn l i (Kd 2)==0)=false by rw[beq_eq_false_iff_ne];exact h1,cond_false,B3 i (by omega),B3 2 (by omega),e,Option.bind_some,Bm h2]
   simp only[bne_self_eq_false,cond_false,Option.bind_some,List.length_singleton,List.length_append]
   rw[Af (by omega),Af (by omega),show(((2:Nat):Int)==2)=true from rfl,cond_true]
   show some _=some _
   simp
 | @lp_go f inn i tu x y t r h1 h2 h3 h4 h5 h6 ih1 ih2 =>
  intro hi hn hf5 hxl n k hf hk
  have hlt:=J4 h4
  have hx:=M4 h5 (by omega);dsimp only at hx
  obtain⟨k,rfl⟩:∃ j,k=j+1:=⟨k - 1,by omega⟩
  have e:Cm n l ((i+1:Nat):Int) (inn:Int) ((f+1:Nat):Int)=some ⟨y,(tu:Int),0,0⟩:=ih1 (by omega) hn (by omega) n (by omega)
  have h7:=ih2 (by omega) hn hf5 (by simp;omega) n k (by omega) (by omega)
  obtain⟨n,rfl⟩:∃ j,n=j+1:=⟨n - 1,by omega⟩
  rw[F3,beq_self_eq_true,cond_true]
  have hfl:=Xl (n:=n) hf5
  cases hm:Gp (n+1) with
  | none=>rw[hm] at hfl;cases hfl
  | some yy =>
   rw[hm] at hfl
   simp only[Option.bind_some] at hfl ⊢
   rw[hfl,Option.bind_some,Zs _ _ _ _ (by omega),Option.bind_some,show(Jn l i (Kd f)==0)=false by rw[beq_eq_false_iff_ne];exact h3,cond_false,B3 i (by omega),B3 f (by omega),e,Option.bind_some,Bm h4]
   simp only[bne_self_eq_false,cond_false,Option.bind_some,List.length_singleton,List.length_append]
   rw[Af (by omega),Af (by omega),show(((f:Nat):Int)==2)=false by rw[beq_eq_false_iff_ne];omega,cond_false]
   simpa using h7
end Go.Proofs.YtpnhafdimkmbbaaGreat
end
section
namespace Go.Proofs.YtpnhafdimkmbbaaGreat
set_option linter.unusedVariables false
set_option linter.unusedSimpArgs false
set_option maxRecDepth 10000
theorem Xi:∀ t:Tr,t.dep≤t.flat.length
 | .leaf x=>by simp[Tr.dep,Tr.flat]
 | .un x t=>by have:=Xi t;simp[Tr.dep,Tr.flat];omega
 | .bin x t u=>by have:=Xi t;have:=Xi u;simp[Tr.dep,Tr.flat];omega
theorem A5m {T:Nat} {l:List Tk} (hl:l.length < 100000) (hk:∀ t ∈ l,Tj t) (hT:∀ t ∈ l,t.Bt.length≤T) (hT2:T < 100000) {n i:Nat} {r:PR} (hr:PE l (.fl 0) 0 i r) (hi:i≤l.length) (hn:12*l.length+T+200≤n) :
 Jv n l (i:Int)=some (Q4 l i r):=by
 obtain⟨n,rfl⟩:∃ j,n=j+1:=⟨n - 1,by omega⟩
 have h:=Amg hl hT hT2 hr hi (by omega) (by omega) n (by omega)
 rw[Jv,As (by omega)]
 cases r with
 | bad e a =>
  obtain⟨hne,X,t,e1⟩:=h
  rw[show((0:Nat):Int)=0 from rfl] at e1
  rw[e1,Option.bind_some]
  dsimp only
  rw[show(e != 0)=true by simpa using hne];rfl
 | ok x tu =>
  have hx:=M4 hr hi;dsimp only at hx
  obtain⟨⟨t,t1,t2⟩,_⟩:=(A03 hk hr:O1 x)
  have h:Cm n l (i:Int) 0 0=some ⟨x,(tu:Int),0,0⟩:=h
  have ht:l[i]?=some (l[i]'(by omega)):=List.getElem?_eq_getElem (by omega)
  have hp:C7 l i=(l[i]'(by omega)).A8:=by unfold C7;rw[ht]
  subst t2
  have hdl:=Xi t
  have hd:F1 n t.flat 0=some (t.dep:Int):=by
   have:=Abs t n [] [] t1 (by simp;omega) (by simp;omega)
   simpa using this
  have hd2:(Ha t.flat (0,[])).1=(t.dep:Int):=by
   have:=A48 t [] 0 [] t1 (by omega)
   rw[List.append_nil] at this
   rw[this];simp[Ha]
  rw[h,Option.bind_some,hd,Bm ht]
  simp only[bne_self_eq_false,cond_false,Option.bind_some,Q4,hp,hd2]
  by_cases c:30 < (t.dep:Int)
  ·rw[Af c,if_pos c]
  ·rw[As c,if_neg c]
   by_cases c2:200 < t.flat.length
   ·rw[Af (by omega),if_pos c2]
   ·rw[As (by omega),if_neg c2]
end Go.Proofs.YtpnhafdimkmbbaaGreat
end
section
namespace Go.Proofs.YtpnhafdimkmbbaaGreat
set_option linter.unusedVariables false
set_option linter.unusedSimpArgs false
set_option maxRecDepth 10000
abbrev St:=A0
def M0 (x:List Nd):Bool:=(x.filter Db).all fun y=>y.Bg==2
theorem Vr {F:Nat→Int→Option (LR Unit Bool)} (l:List Nd) (h0:∀ k i,l.length≤i→F (k+1) (i:Int)=some (.out ())) (h1:∀ k i x,i < l.length→l[i]?=some x→F (k+1) (i:Int)=bif x.Bg != 2 then some (.ret false) else F k ((i+1:Nat):Int)):∀ (m i k:Nat),l.length - i≤m→l.length - i < k→F k (i:Int)=some (if(l.drop i).all (fun y=>y.Bg==2) then .out () else .ret false):=by
 intro m
 induction m with
 | zero =>
  intro i k h hk
  obtain⟨k,rfl⟩:∃ j,k=j+1:=⟨k - 1,by omega⟩
  rw[h0 k i (by omega),List.drop_of_length_le (by omega)];rfl
 | succ m ih =>
  intro i k h hk
  obtain⟨k,rfl⟩:∃ j,k=j+1:=⟨k - 1,by omega⟩
  by_cases hi:i < l.length
  ·rw[h1 k i _ hi (List.getElem?_eq_getElem hi),ih (i+1) k (by omega) (by omega),List.drop_eq_getElem_cons hi,List.all_cons]
   by_cases hx:l[i].Bg=2
   ·simp[hx]
   ·have:(l[i].Bg==2)=false:=by rw[beq_eq_false_iff_ne];exact hx
    simp[this,bne]
  ·rw[h0 k i (by omega),List.drop_of_length_le (by omega)];rfl
theorem Ajx {x:List Nd} (h:O1 x) (hl:x.length≤200) (hd:(Ha x (0,[])).1≤30) {n:Nat} (hn:600 < n):Jm n x=some (M0 x):=by
 obtain⟨t,_,_,_,_,h5⟩:=Vc h hl hd
 obtain⟨n,rfl⟩:∃ j,n=j+1:=⟨n - 1,by omega⟩
 have hf:(x.filter Db).length≤200:=Nat.le_trans (List.length_filter_le ..) hl
 rw[Jm,A4f n x (by omega) (by omega),Option.bind_some]
 have:=Vr (F:=fun k i=>Fm n (x.filter Db) k i) (x.filter Db) (fun k i h=>by rw[Fm,As (by omega)]) (fun k i y hi hy=>by rw[Fm,Af (by omega),Bm hy,Option.bind_some,B3 i (by omega)]) (x.filter Db).length 0 n (by omega) (by omega)
 rw[show((0:Nat):Int)=0 from rfl] at this
 rw[this,Option.bind_some,List.drop_zero,A19 n x (by omega) (by omega),h5]
 unfold M0
 by_cases c:(x.filter Db).all (fun y=>y.Bg==2)=true
 ·rw[if_pos c,c];rfl
 ·rw[if_neg c];rw[Bool.not_eq_true] at c;rw[c]
theorem Ajo {x:List Nd} (h:O1 x) (hl:x.length≤200) (hd:(Ha x (0,[])).1≤30) {n:Nat} (hn:600 < n):Jm n x=some (M0 x)∧Eu n x=some (M0 x):=by
 obtain⟨t,_,_,_,_,h5⟩:=Vc h hl hd
 obtain⟨n,rfl⟩:∃ j,n=j+1:=⟨n - 1,by omega⟩
 have hf:(x.filter Db).length≤200:=Nat.le_trans (List.length_filter_le ..) hl
 constructor
 ·exact Ajx h hl hd (by omega)
 ·rw[Eu,A15 n x (by omega) (by omega),Option.bind_some]
  have:=Vr (F:=fun k i=>F6 n (x.filter Db) k i) (x.filter Db) (fun k i h=>by rw[F6,As (by omega)]) (fun k i y hi hy=>by rw[F6,Af (by omega),Bm hy,Option.bind_some,B3 i (by omega)]) (x.filter Db).length 0 n (by omega) (by omega)
  rw[show((0:Nat):Int)=0 from rfl] at this
  rw[this,Option.bind_some,List.drop_zero,A10 n x (A3a h hl) (by omega),h5]
  unfold M0
  by_cases c:(x.filter Db).all (fun y=>y.Bg==2)=true
  ·rw[if_pos c,c];rfl
  ·rw[if_neg c];rw[Bool.not_eq_true] at c;rw[c]
structure Toks (T:Nat) (l:List Tk):Prop where
 len:l.length < 100000
 ok:∀ t ∈ l,Tj t
 txt:∀ t ∈ l,t.Bt.length≤T
 small:T < 100000
def N6 (l:List Tk) (i:Nat):PR→PR
 | .bad e a=>.bad e a
 | .ok x tu=>if 30 < (Ha x (0,[])).1 then .bad 7 (C7 l i) else if 200 < x.length then .bad 2 (C7 l i) else if M0 x=true then .ok x tu else .bad 5 (C7 l i)
open Classical in
noncomputable def exQ (l:List Tk) (i:Nat):PR:=if h:∃ r,PE l (.fl 0) 0 i r then N6 l i h.choose else .bad 6 0
theorem Yy {T:Nat} {l:List Tk} (hk:Toks T l) {i:Nat} (hi:i≤l.length):∃ r,PE l (.fl 0) 0 i r∧exQ l i=N6 l i r:=by
 have h:∃ r,PE l (.fl 0) 0 i r:=A9o l.length i 0 0 (by omega) hi (by omega) (by omega)
 exact⟨h.choose,h.choose_spec,by unfold exQ;rw[dif_pos h]⟩
theorem Afb {T:Nat} {l:List Tk} (hk:Toks T l) {i:Nat} (hi:i≤l.length):match exQ l i with
 | .ok x tu=>i < tu∧tu≤l.length∧x.length≤200
 | .bad e _=>e≠0:=by
 obtain⟨r,hr,e⟩:=Yy hk hi
 rw[e]
 cases r with
 | bad e a=>exact M4 hr hi
 | ok x tu =>
  have:=M4 hr hi;dsimp only at this
  simp only[N6]
  split
  ·rename_i h;split at h
   ·cases h
   ·split at h
    ·cases h
    ·split at h
     ·cases h;omega
     ·cases h
  ·rename_i h;split at h
   ·cases h;decide
   ·split at h
    ·cases h;decide
    ·split at h
     ·cases h
     ·cases h;decide
end Go.Proofs.YtpnhafdimkmbbaaGreat
end
section
namespace Go.Proofs.YtpnhafdimkmbbaaGreat
set_option linter.unusedVariables false
set_option linter.unusedSimpArgs false
set_option maxRecDepth 10000
abbrev Mp:=List (List UInt8×Int)
theorem Toks.at' {T:Nat} {l:List Tk} (hk:Toks T l) {i:Nat} (h:i < l.length):C7 l i=(l[i]).A8:=by unfold C7;rw[List.getElem?_eq_getElem h]
theorem A8j {l:List Tk} (hk:∀ t ∈ l,Tj t) {i:Nat} {r:PR} (hr:PE l (.fl 0) 0 i r) (hi:i≤l.length) :
 (∃ e a,e≠0∧Q4 l i r=([],0,e,a)∧N6 l i r=.bad e a) ∨
 (∃ (x:List Nd) (tu:Nat),Q4 l i r=(x,(tu:Int),0,0)∧i < tu∧tu≤l.length∧x.length≤200∧O1 x∧(Ha x (0,[])).1≤30∧N6 l i r=if M0 x=true then .ok x tu else .bad 5 (C7 l i)):=by
 cases r with
 | bad e a=>exact .inl ⟨e,a,M4 hr hi,rfl,rfl⟩
 | ok x tu =>
  have hx:=M4 hr hi;dsimp only at hx
  have hg:O1 x:=A03 hk hr
  simp only[Q4,N6]
  by_cases c:30 < (Ha x (0,[])).1
  ·rw[if_pos c,if_pos c];exact .inl ⟨7,_,by decide,rfl,rfl⟩
  ·rw[if_neg c,if_neg c]
   by_cases c2:200 < x.length
   ·rw[if_pos c2,if_pos c2];exact .inl ⟨2,_,by decide,rfl,rfl⟩
   ·rw[if_neg c2,if_neg c2];exact .inr ⟨x,tu,rfl,by omega,by omega,by omega,hg,by omega,rfl⟩
theorem Aad {T:Nat} {l:List Tk} (hk:Toks T l) {i n:Nat} (hi:i≤l.length) (hn:12*l.length+T+800≤n):Lf n l (i:Int)=some (match exQ l i with | .ok x tu=>(x,(tu:Int),0,0) | .bad e a=>([],0,e,a)):=by
 obtain⟨r,hr,e⟩:=Yy hk hi
 obtain⟨n,rfl⟩:∃ j,n=j+1:=⟨n - 1,by omega⟩
 rw[Lf,A5m hk.len hk.ok hk.txt hk.small hr hi (by omega),e,Option.bind_some]
 rcases A8j hk.ok hr hi with ⟨e,a,h0,h1,h2⟩ | ⟨x,tu,h1,h3,h4,h5,h6,h7,h2⟩
 ·rw[h1,h2]
  dsimp only
  rw[show(e != 0)=true by rw[bne_iff_ne];exact h0];rfl
 ·rw[h1,h2]
  dsimp only
  rw[bne_self_eq_false,cond_false,(Ajo h6 h5 h7 (by omega)).2,Option.bind_some]
  by_cases c:M0 x=true
  ·rw[if_pos c,c];rfl
  ·rw[if_neg c];rw[Bool.not_eq_true] at c
   have hlt:i < l.length:=by omega
   rw[c,cond_false,E3 hlt,Option.bind_some,hk.at' hlt]
def txt (l:List Tk) (i:Nat):List UInt8:=match l[i]? with | some t=>t.Bt | none=>[]
theorem A1h {T:Nat} {l:List Tk} (hk:Toks T l) {i n:Nat} (hn:T+60≤n):Ks n l (i:Int)=some (isN l i):=by
 obtain⟨n,rfl⟩:∃ j,n=j+1:=⟨n - 1,by omega⟩
 have hs:=hk.small
 rw[Ks]
 by_cases h:i < l.length
 ·have ht:=hk.txt l[i] (List.getElem_mem h)
  rw[Af (by omega),E3 h,Option.bind_some,Option.bind_some,P4 n _ (by omega) (by omega)]
  unfold isN
  rw[List.getElem?_eq_getElem h]
  dsimp only
  cases l[i].Ac==1<;>rfl
 ·rw[As (by omega)]
  unfold isN
  rw[List.getElem?_eq_none (by omega)]
theorem Sh (n:Nat) (l:List Tk) (i:Nat) (hl:l.length < 1000000):Fi (n+2) l (i:Int)=some (Jl l i,C7 l i):=by
 rw[Fi,A4q n l i hl]
 unfold Jl
 by_cases h:i < l.length
 ·rw[As (by omega),if_pos h];rfl
 ·rw[Af (by omega),if_neg h];rfl
end Go.Proofs.YtpnhafdimkmbbaaGreat
end
section
namespace Go.Proofs.YtpnhafdimkmbbaaGreat
set_option linter.unusedVariables false
set_option linter.unusedSimpArgs false
set_option maxRecDepth 10000
structure Fs where
 reg:List UInt8
 loc:List UInt8
 e:List Nd
 f:List Nd
 ne:Bool
inductive FR where
 | ok (s:Fs) (i:Nat)
 | bad (e a:Int)
def J0 (l:List Tk) (ex:Nat→PR) (c:UInt8) (i:Nat) (s:Fs):FR :=
 if c.toNat=114 then(if isN l i=true then .ok { s with reg:=txt l i } (i+1) else .bad (Jl l i) (C7 l i))
 else if c.toNat=108 then(if isN l i=true then .ok { s with loc:=txt l i } (i+1) else .bad (Jl l i) (C7 l i))
 else if c.toNat=101 then(match ex i with | .ok x tu=>.ok { s with e:=x } tu | .bad e a=>.bad e a)
 else if c.toNat=102 then(match ex i with | .ok x tu=>.ok { s with f:=x } tu | .bad e a=>.bad e a)
 else if c.toNat=113 then(if Bw l i [33,61]=true then .ok { s with ne:=true } (i+1) else if Bw l i [61,61]=true then .ok { s with ne:=false } (i+1) else .bad (Jl l i) (C7 l i))
 else if Bw l i [c]=true then .ok s (i+1) else .bad (Jl l i) (C7 l i)
def Ix (l:List Tk) (ex:Nat→PR):List UInt8→Nat→Fs→FR
 | [],i,s=>.ok s i
 | c :: cs,i,s=>match J0 l ex c i s with
   | .ok s' j=>Ix l ex cs j s'
   | .bad e a=>.bad e a
def Anf (l:List Tk) (i:Nat):FR→Prop
 | .ok _ j=>i < j∧j≤l.length
 | .bad e _=>e≠0
def Anh (l:List Tk) (i:Nat):FR→Prop
 | .ok _ j=>i≤j∧j≤l.length
 | .bad e _=>e≠0
theorem Ed {Q:FR→Prop} {c:Prop} [Decidable c] {a b:FR} (h1:c→Q a) (h2:¬ c→Q b):Q (if c then a else b):=by
 by_cases h:c
 ·rw[if_pos h];exact h1 h
 ·rw[if_neg h];exact h2 h
theorem Xt {T:Nat} {l:List Tk} (hk:Toks T l) {c:UInt8} {i:Nat} {s:Fs} (hi:i≤l.length):Anf l i (J0 l (exQ l) c i s):=by
 have hex:=Afb hk hi
 have h1:∀ s,Bw l i s=true→i < i+1∧i+1≤l.length:=fun s h=>by have:=E5 h;omega
 have h2:isN l i=true→i < i+1∧i+1≤l.length:=fun h=>by have:=T6 h;omega
 have he:=Yh l i
 unfold J0
 refine Ed (fun _=>Ed h2 fun _=>he) fun _=>Ed (fun _=>Ed h2 fun _=>he) fun _=>Ed (fun _=>?_) fun _=>Ed (fun _=>?_) fun _=>Ed (fun _=>Ed (h1 _) fun _=>Ed (h1 _) fun _=>he) fun _=>Ed (h1 _) fun _=>he
 ·revert hex;cases exQ l i with
  | ok x tu=>intro h;exact⟨h.1,h.2.1⟩
  | bad e a=>intro h;exact h
 ·revert hex;cases exQ l i with
  | ok x tu=>intro h;exact⟨h.1,h.2.1⟩
  | bad e a=>intro h;exact h
theorem A02 {T:Nat} {l:List Tk} (hk:Toks T l):∀ (cs:List UInt8) (i:Nat) (s:Fs),i≤l.length→Anh l i (Ix l (exQ l) cs i s)
 | [],i,s,hi=>⟨Nat.le_refl _,hi⟩
 | c :: cs,i,s,hi=>by
  have h:=Xt hk (c:=c) (s:=s) hi
  unfold Ix
  revert h
  cases J0 l (exQ l) c i s with
  | bad e a=>intro h;exact h
  | ok s' j =>
   intro h
   have:=A02 hk cs j s' h.2
   dsimp only
   revert this
   cases Ix l (exQ l) cs j s' with
   | ok s2 j2=>intro h2;exact⟨Nat.le_trans (Nat.le_of_lt h.1) h2.1,h2.2⟩
   | bad e a=>intro h2;exact h2
theorem Ane (pre cs:List UInt8) (c:UInt8) (h:pre.length < 1000000):List.drop ((pre.length:Int)).toNat (List.take (IntKind.i64.wrap ((pre.length:Int)+1)).toNat (pre++c :: cs))=[c]:=by
 rw[B3 pre.length (by omega)]
 rw[Int.toNat_natCast,Int.toNat_natCast,List.take_append,List.take_of_length_le (by omega),show pre.length+1 - pre.length=1 by omega,List.drop_append_of_le_length (by omega),List.drop_length]
 simp
theorem Anl (pre cs:List UInt8) (c:UInt8) (h:pre.length < 1000000):(decide (0≤IntKind.i64.wrap ((pre.length:Int)+1))&&decide (IntKind.i64.wrap ((pre.length:Int)+1)≤(((pre++c :: cs).length:Nat):Int))&&decide (0≤(pre.length:Int))&&decide ((pre.length:Int)≤IntKind.i64.wrap ((pre.length:Int)+1)))=true:=by
 rw[B3 pre.length (by omega)]
 simp only[Bool.and_eq_true,decide_eq_true_eq,List.length_append,List.length_cons]
 omega
theorem Ak9 (pre cs:List UInt8) (c:UInt8):idx (pre++c :: cs) (pre.length:Int)=some c:=by rw[Mo];simp
theorem A2a (c:UInt8) (k:Nat) (K:Int) (hK:(k:Int)=K):((c.toNat:Int)==K)=decide (c.toNat=k):=by
 subst hK
 by_cases h:c.toNat=k
 ·rw[h];simp
 ·rw[decide_eq_false h,beq_eq_false_iff_ne];omega
theorem Ahf {T:Nat} {l:List Tk} (hk:Toks T l) {n:Nat} (hn:12*l.length+T+900≤n) (x:St):∀ (cs pre:List UInt8) (i k:Nat) (s:Fs),i≤l.length→(pre++cs).length < 100→cs.length < k →
 match Ix l (exQ l) cs i s with
 | .ok s' j=>C8 n l x (pre++cs) k (i:Int) (pre.length:Int) s.reg s.loc s.e s.f s.ne=some (.out ((j:Int),s'.reg,s'.loc,s'.e,s'.f,s'.ne))
 | .bad e a=>∃ X,C8 n l x (pre++cs) k (i:Int) (pre.length:Int) s.reg s.loc s.e s.f s.ne=some (.ret (X,0,e,a)):=by
 intro cs
 induction cs with
 | nil =>
  intro pre i k s hi hlen hkk
  obtain⟨k,rfl⟩:∃ j,k=j+1:=⟨k - 1,by omega⟩
  rw[Ix,C8,As (by simp)]
 | cons c cs ih =>
  intro pre i k s hi hlen hkk
  obtain⟨k,rfl⟩:∃ j,k=j+1:=⟨k - 1,by omega⟩
  obtain⟨n,rfl⟩:∃ j,n=j+3:=⟨n - 3,by omega⟩
  have hl:=hk.len
  have hp:pre.length < 1000000:=by simp at hlen;omega
  have go:∀ (j:Nat) (s':Fs),j≤l.length→match Ix l (exQ l) cs j s' with
   | .ok s2 j2=>C8 (n+3) l x (pre++c :: cs) k (j:Int) ((pre.length+1:Nat):Int) s'.reg s'.loc s'.e s'.f s'.ne=some (.out ((j2:Int),s2.reg,s2.loc,s2.e,s2.f,s2.ne))
   | .bad e a=>∃ X,C8 (n+3) l x (pre++c :: cs) k (j:Int) ((pre.length+1:Nat):Int) s'.reg s'.loc s'.e s'.f s'.ne=some (.ret (X,0,e,a)):=fun j s' hj=>by
   have:=ih (pre++[c]) j k s' hj (by simpa using hlen) (by simp at hkk;omega)
   simpa only [List.append_assoc,List.singleton_append,List.length_append,List.length_singleton] using this
  have hex:=Afb hk hi
  have hw:=B3 pre.length (show pre.length < 4611686018427387904 by omega)
  unfold Ix J0
  rw[C8,Af (show((pre.length:Nat):Int) < (((pre++c :: cs).length:Nat):Int) by simp;omega)]
  simp only[Ak9,Option.bind_some,A2a c 114 114 rfl,A2a c 108 108 rfl,A2a c 101 101 rfl,A2a c 102 102 rfl,A2a c 113 113 rfl]
  by_cases c1:c.toNat=114
  ·simp only[if_pos c1,decide_eq_true c1,cond_true,A1h hk (show T+60≤n+3 by omega),Option.bind_some]
   by_cases h:isN l i=true
   ·have hlt:=T6 h
    rw[if_pos h,h,cond_true,E3 hlt,Option.bind_some,B3 i (by omega),hw]
    have:=go (i+1) { s with reg:=txt l i } hlt
    rw[show txt l i=l[i].Bt by unfold txt;rw[List.getElem?_eq_getElem hlt]] at this ⊢
    exact this
   ·rw[if_neg h];rw[Bool.not_eq_true] at h
    rw[h,cond_false,Sh (n+1) l i (by omega)]
    exact⟨_,rfl⟩
  ·rw[if_neg c1]
   simp only[decide_eq_false c1,cond_false]
   by_cases c2:c.toNat=108
   ·simp only[if_pos c2,decide_eq_true c2,cond_true,A1h hk (show T+60≤n+3 by omega),Option.bind_some]
    by_cases h:isN l i=true
    ·have hlt:=T6 h
     rw[if_pos h,h,cond_true,E3 hlt,Option.bind_some,B3 i (by omega),hw]
     have:=go (i+1) { s with loc:=txt l i } hlt
     rw[show txt l i=l[i].Bt by unfold txt;rw[List.getElem?_eq_getElem hlt]] at this ⊢
     exact this
    ·rw[if_neg h];rw[Bool.not_eq_true] at h
     rw[h,cond_false,Sh (n+1) l i (by omega)]
     exact⟨_,rfl⟩
   ·rw[if_neg c2]
    simp only[decide_eq_false c2,cond_false]
    by_cases c3:c.toNat=101
    ·simp only[if_pos c3,decide_eq_true c3,cond_true,Aad hk hi (show 12*l.length+T+800≤n+3 by omega),Option.bind_some]
     revert hex
     cases exQ l i with
     | bad e a =>
      intro hex
      have he:(e != 0)=true:=by rw[bne_iff_ne];exact hex
      simp only[he,cond_true]
      exact⟨_,rfl⟩
     | ok y tu =>
      intro hex
      simp only[bne_self_eq_false,cond_false,hw]
      exact go tu { s with e:=y } hex.2.1
    ·rw[if_neg c3]
     simp only[decide_eq_false c3,cond_false]
     by_cases c4:c.toNat=102
     ·simp only[if_pos c4,decide_eq_true c4,cond_true,Aad hk hi (show 12*l.length+T+800≤n+3 by omega),Option.bind_some]
      revert hex
      cases exQ l i with
      | bad e a =>
       intro hex
       have he:(e != 0)=true:=by rw[bne_iff_ne];exact hex
       simp only[he,cond_true]
       exact⟨_,rfl⟩
      | ok y tu =>
       intro hex
       simp only[bne_self_eq_false,cond_false,hw]
       exact go tu { s with f:=y } hex.2.1
     ·rw[if_neg c4]
      simp only[decide_eq_false c4,cond_false]
      by_cases c5:c.toNat=113
      ·simp only[if_pos c5,decide_eq_true c5,cond_true,Eo,Option.bind_some]
       by_cases h:Bw l i [33,61]=true
       ·have hlt:=E5 h
        rw[if_pos h,h,cond_true,B3 i (by omega),hw]
        exact go (i+1) { s with ne:=true } hlt
       ·rw[if_neg h];rw[Bool.not_eq_true] at h
        rw[h,cond_false]
        by_cases h':Bw l i [61,61]=true
        ·have hlt:=E5 h'
         rw[if_pos h',h',cond_true,B3 i (by omega),hw]
         exact go (i+1) { s with ne:=false } hlt
        ·rw[if_neg h'];rw[Bool.not_eq_true] at h'
         rw[h',cond_false,Sh (n+1) l i (by omega)]
         exact⟨_,rfl⟩
      ·rw[if_neg c5]
       simp only[decide_eq_false c5,cond_false,Anl pre cs c hp,Ane pre cs c hp,cond_true,Eo,Option.bind_some]
       by_cases h:Bw l i [c]=true
       ·have hlt:=E5 h
        rw[if_pos h,h,cond_true,B3 i (by omega),hw]
        exact go (i+1) s hlt
       ·rw[if_neg h];rw[Bool.not_eq_true] at h
        rw[h,cond_false,Sh (n+1) l i (by omega)]
        exact⟨_,rfl⟩
end Go.Proofs.YtpnhafdimkmbbaaGreat
end
section
namespace Go.Proofs.YtpnhafdimkmbbaaGreat
set_option linter.unusedVariables false
set_option linter.unusedSimpArgs false
set_option maxRecDepth 10000
def Afp:Mp:=[([115,107,105,112],1),([115,101,116],2),([108,111,97,100],3),([115,116,111,114,101],4),([99,97,115],5),([102,97,100,100],6),([120,99,104,103],7),([102,101,110,99,101],8),([97,119,97,105,116],9),([105,102],10),([119,104,105,108,101],11),([108,111,111,112],12),([98,114,101,97,107],13)]
def A6x (s:List UInt8):Int:=C2 Afp s 0
def Bi (l:List Tk) (i:Nat):Int:=match l[i]? with
 | some t=>if t.Ac=1 then A6x t.Bt else 0
 | none=>0
def Cd (k:Int):List UInt8 :=
 if k=2 then [114,61,101,59] else if k=3 then [114,61,108,59] else if k=4 then [108,61,101,59] else if k=5 then [114,61,108,44,101,44,102,59]
 else if k=6 then [114,61,108,44,101,59] else if k=7 then [114,61,108,44,101,59] else if k=9 then [108,113,101,59] else if k=10 then [101] else if k=11 then [101] else if k=12 then [] else [59]
def Dz (k:Int):Bool:=k==10 || (k==11 || k==12)
theorem Ah3 (s:List UInt8):0≤A6x s∧A6x s≤13:=by
 unfold A6x Afp
 simp only[C2]
 repeat' split
 all_goals omega
theorem Af3 (l:List Tk) (i:Nat):0≤Bi l i∧Bi l i≤13:=by
 unfold Bi
 split
 ·split
  ·exact Ah3 _
  ·omega
 ·omega
theorem Ct {l:List Tk} {i:Nat} (h:Bi l i≠0):i < l.length:=by
 unfold Bi at h
 cases hg:l[i]? with
 | none=>rw[hg] at h;exact absurd rfl h
 | some t=>exact J4 hg
theorem Aax {l:List Tk} {i:Nat} (h:Bi l i≠0) (s:List UInt8):Bw l i s=false:=by
 unfold Bi at h
 cases hg:l[i]? with
 | none=>rw[hg] at h;exact absurd rfl h
 | some t =>
  rw[hg] at h
  dsimp only at h
  by_cases hk:t.Ac=1
  ·simp[Bw,hg,hk]
  ·rw[if_neg hk] at h;exact absurd rfl h
theorem A9t (k:Int):(Cd k).length < 10:=by unfold Cd;repeat' split
                                           all_goals decide
theorem Alt (n:Nat) (k:Int):O8 (n+1) k=some (Cd k):=by
 have e:∀ a:Int,(k==a)=decide (k=a):=fun a=>by by_cases h:k=a<;>simp[h]
 simp only[O8,Cd,e]
 by_cases h2:k=2
 ·simp[h2]
 by_cases h3:k=3
 ·simp[h3]
 by_cases h4:k=4
 ·simp[h4]
 by_cases h5:k=5
 ·simp[h5]
 by_cases h6:k=6
 ·simp[h6]
 by_cases h7:k=7
 ·simp[h7]
 by_cases h9:k=9
 ·simp[h9]
 by_cases h10:k=10
 ·simp[h10]
 by_cases h11:k=11
 ·simp[h11]
 by_cases h12:k=12
 ·simp[h12]
 simp[h2,h3,h4,h5,h6,h7,h9,h10,h11,h12]
theorem Ake (n:Nat) (k:Int):Hu (n+1) k=some (Dz k):=by
 rw[Hu,Dz]
 cases k==10<;>cases k==11<;>rfl
def O2:List (List UInt8):=[[],[115,107,105,112],[115,101,116],[108,111,97,100],[115,116,111,114,101],[99,97,115],[102,97,100,100],[120,99,104,103],[102,101,110,99,101],[97,119,97,105,116],[105,102],[119,104,105,108,101],[108,111,111,112],[98,114,101,97,107]]
theorem A06 (n:Nat):N9 (n+1)=some O2:=rfl
def Agt:List (List UInt8)→Nat→Mp
 | [],_=>[]
 | w :: ws,j=>(w,(j:Int)) :: Agt ws (j+1)
theorem Abl {l:List Tk} {n i:Nat} (h:∀ t,l[i]?=some t→t.Ac≠1):∀ (m j k:Nat),O2.length - j≤m→m < k→j < 100→(Et (n+1) l (i:Int) k (j:Int)).bind (fun o=>match o with | .out _=>some (0:Int) | .ret v=>some v)=some 0:=by
 intro m
 induction m with
 | zero =>
  intro j k hm hk hj
  obtain⟨k,rfl⟩:∃ q,k=q+1:=⟨k - 1,by omega⟩
  rw[Et,A06,Option.bind_some,As (by omega)];rfl
 | succ m ih =>
  intro j k hm hk hj
  obtain⟨k,rfl⟩:∃ q,k=q+1:=⟨k - 1,by omega⟩
  rw[Et,A06,Option.bind_some]
  by_cases hj2:j < O2.length
  ·rw[Af (by omega)]
   by_cases hi:i < l.length
   ·have hk1:(l[i].Ac==1)=false:=by rw[beq_eq_false_iff_ne];exact h _ (List.getElem?_eq_getElem hi)
    rw[Af (by omega),E3 hi,Option.bind_some,hk1,cond_false,B3 j (by omega)]
    exact ih (j+1) k (by omega) (by omega) (by have:O2.length=14:=rfl;omega)
   ·rw[As (by omega)];rfl
  ·rw[As (by omega)];rfl
theorem Ahn {l:List Tk} {n i:Nat} {t:Tk} (ht:l[i]?=some t) (h1:t.Ac=1):∀ (ws pre:List (List UInt8)) (k:Nat),O2=pre++ws→ws.length < k→(Et (n+1) l (i:Int) k (pre.length:Int)).bind (fun o=>match o with | .out _=>some (0:Int) | .ret v=>some v)=some (C2 (Agt ws pre.length) t.Bt 0):=by
 intro ws
 have hi:=J4 ht
 induction ws with
 | nil =>
  intro pre k hw hk
  obtain⟨k,rfl⟩:∃ q,k=q+1:=⟨k - 1,by omega⟩
  rw[Et,A06,Option.bind_some,hw,As (by simp)];rfl
 | cons w ws ih =>
  intro pre k hw hk
  obtain⟨k,rfl⟩:∃ q,k=q+1:=⟨k - 1,by omega⟩
  have hget:idx O2 (pre.length:Int)=some w:=by rw[hw,Mo];simp
  have hlen:O2.length=14:=rfl
  have hlen2:O2.length=pre.length+(ws.length+1):=by rw[hw];simp
  rw[Et,A06,Option.bind_some,Af (by omega),Af (by omega),Bm ht,Option.bind_some,h1,beq_self_eq_true,cond_true,Option.bind_some,Option.bind_some,hget,Option.bind_some]
  simp only[Agt,C2]
  by_cases hx:t.Bt=w
  ·rw[if_pos hx,hx,beq_self_eq_true,cond_true];rfl
  ·have hb:(t.Bt==w)=false:=by rw[beq_eq_false_iff_ne];exact hx
   rw[if_neg hx,hb,cond_false,B3 pre.length (by omega)]
   have:=ih (pre++[w]) k (by rw[hw];simp) (by simp at hk;omega)
   rw[List.length_append,List.length_singleton] at this
   exact this
theorem Afx {l:List Tk} {n i:Nat} (hn:20 < n):Mj n l (i:Int)=some (Bi l i):=by
 obtain⟨n,rfl⟩:∃ j,n=j+2:=⟨n - 2,by omega⟩
 have hlen:O2.length=14:=rfl
 rw[Mj]
 unfold Bi
 cases hg:l[i]? with
 | none=>exact Abl (fun t ht=>by rw[hg] at ht;cases ht) 14 1 (n+1) (by omega) (by omega) (by omega)
 | some t =>
  dsimp only
  by_cases h1:t.Ac=1
  ·rw[if_pos h1]
   exact Ahn hg h1 (O2.drop 1) [[]] (n+1) rfl (by rw[List.length_drop,hlen];omega)
  ·rw[if_neg h1]
   exact Abl (fun t' ht=>by rw[hg] at ht;cases ht;exact h1) 14 1 (n+1) (by omega) (by omega) (by omega)
inductive SR where
 | ok (x:List St) (tu:Nat)
 | bad (e a:Int)
def U8 (x:List St):SR→SR
 | .ok y tu=>.ok (x++y) tu
 | .bad e a=>.bad e a
def Oe (l:List Tk) (i:Nat):Bool:=match l[i]? with
 | some t=>t.Ac==1&&t.Bt==[101,108,115,101]
 | none=>false
def fs0:Fs:=⟨[],[],[],[],false⟩
def mkS (k:Int) (s:Fs) (b c:Nat) (a:Int):St:=⟨k,s.reg,s.loc,s.e,s.f,s.ne,(b:Int),(c:Int),a⟩
inductive SE (l:List Tk):Bool→Nat→Nat→SR→Prop
 | stop {inn i:Nat}:(l.length≤i∨Bw l i [125]=true)→SE l false inn i (.ok [] i)
 | no {inn i:Nat}:i < l.length→Bw l i [125]=false→Bi l i=0→SE l false inn i (.bad 5 (C7 l i))
 | fbad {inn i:Nat} {e a:Int}:Bi l i≠0→Ix l (exQ l) (Cd (Bi l i)) (i+1) fs0=.bad e a→SE l false inn i (.bad e a)
 | simple {inn i j:Nat} {s:Fs} {r:SR}:Bi l i≠0→Dz (Bi l i)=false→Ix l (exQ l) (Cd (Bi l i)) (i+1) fs0=.ok s j→SE l false inn j r→SE l false inn i (U8 [mkS (Bi l i) s 0 0 (C7 l i)] r)
 | bbad {inn i j:Nat} {s:Fs} {e a:Int}:Bi l i≠0→Dz (Bi l i)=true→Ix l (exQ l) (Cd (Bi l i)) (i+1) fs0=.ok s j→SE l true inn j (.bad e a)→SE l false inn i (.bad e a)
 | blk {inn i j j2:Nat} {s:Fs} {b:List St} {r:SR}:Bi l i≠0→Dz (Bi l i)=true→Ix l (exQ l) (Cd (Bi l i)) (i+1) fs0=.ok s j→SE l true inn j (.ok b j2)→(Bi l i=10→Oe l j2=false)→SE l false inn j2 r→SE l false inn i (U8 (mkS (Bi l i) s b.length 0 (C7 l i) :: b) r)
 | ebad {inn i j j2:Nat} {s:Fs} {b:List St} {e a:Int}:Bi l i=10→Ix l (exQ l) (Cd (Bi l i)) (i+1) fs0=.ok s j→SE l true inn j (.ok b j2)→Oe l j2=true→SE l true inn (j2+1) (.bad e a)→SE l false inn i (.bad e a)
 | els {inn i j j2 j3:Nat} {s:Fs} {b c:List St} {r:SR}:Bi l i=10→Ix l (exQ l) (Cd (Bi l i)) (i+1) fs0=.ok s j→SE l true inn j (.ok b j2)→Oe l j2=true→SE l true inn (j2+1) (.ok c j3)→SE l false inn j3 r→SE l false inn i (U8 (mkS (Bi l i) s b.length c.length (C7 l i) :: (b++c)) r)
 | nob {inn i:Nat}:Bw l i [123]=false→SE l true inn i (.bad (Jl l i) (C7 l i))
 | deep {inn i:Nat}:Bw l i [123]=true→30≤inn→SE l true inn i (.bad 7 (C7 l i))
 | sbad {inn i:Nat} {e a:Int}:Bw l i [123]=true→inn < 30→SE l false (inn+1) (i+1) (.bad e a)→SE l true inn i (.bad e a)
 | close {inn i j:Nat} {x:List St}:Bw l i [123]=true→inn < 30→SE l false (inn+1) (i+1) (.ok x j)→Bw l j [125]=true→SE l true inn i (.ok x (j+1))
 | opn {inn i j:Nat} {x:List St}:Bw l i [123]=true→inn < 30→SE l false (inn+1) (i+1) (.ok x j)→Bw l j [125]=false→SE l true inn i (.bad (Jl l j) (C7 l j))
def Ml (l:List Tk) (i d:Nat):SR→Prop
 | .ok x tu=>i+d≤tu∧tu≤l.length∧x.length+d≤tu - i
 | .bad e _=>e≠0
theorem Gv {T:Nat} {l:List Tk} (hk:Toks T l) {cs:List UInt8} {i j:Nat} {s s':Fs} (hi:i≤l.length) (h:Ix l (exQ l) cs i s=.ok s' j):i≤j∧j≤l.length:=by
 have:=A02 hk cs i s hi
 rw[h] at this;exact this
theorem Lr {l:List Tk} {i:Nat} (h:Oe l i=true):i < l.length:=by
 unfold Oe at h
 cases hg:l[i]? with
 | none=>rw[hg] at h;cases h
 | some t=>exact J4 hg
theorem Ll {T:Nat} {l:List Tk} (hk:Toks T l) {md:Bool} {inn i:Nat} {r:SR} (h:SE l md inn i r):i≤l.length→Ml l i (if md then 1 else 0) r:=by
 induction h with
 | stop h=>intro hi;exact⟨by simp,hi,by simp⟩
 | no h1 h2 h3=>intro hi;show(5:Int)≠0;decide
 | @fbad inn i e a h1 h2 =>
  intro hi
  have:=A02 hk (Cd (Bi l i)) (i+1) fs0 (Ct h1)
  rw[h2] at this;exact this
 | @simple inn i j s r h1 h2 h3 h4 ih =>
  intro hi
  have h5:=Gv hk (Ct h1) h3
  have h6:=ih h5.2
  cases r with
  | ok x tu=>simp only[U8,Ml,Bool.false_eq_true,if_false,List.length_append,List.length_singleton] at h6 ⊢;omega
  | bad e a=>exact h6
 | bbad h1 h2 h3 h4 ih=>intro hi;exact ih (Gv hk (Ct h1) h3).2
 | @blk inn i j j2 s b r h1 h2 h3 h4 h5 h6 ih1 ih2 =>
  intro hi
  have h7:=Gv hk (Ct h1) h3
  have h8:=ih1 h7.2
  simp only[Ml,if_true] at h8
  have h9:=ih2 h8.2.1
  cases r with
  | ok x tu=>simp only[U8,Ml,Bool.false_eq_true,if_false,List.length_append,List.length_cons] at h9 ⊢;omega
  | bad e a=>exact h9
 | @ebad inn i j j2 s b e a h1 h3 h4 h5 h6 ih1 ih2=>intro hi;exact ih2 (Lr h5)
 | @els inn i j j2 j3 s b c r h1 h3 h4 h5 h6 h7 ih1 ih2 ih3 =>
  intro hi
  have h10:Bi l i≠0:=by omega
  have h8:=Gv hk (Ct h10) h3
  have h9:=ih1 h8.2
  have h11:=ih2 (Lr h5)
  simp only[Ml,if_true] at h9 h11
  have h12:=ih3 h11.2.1
  cases r with
  | ok x tu=>simp only[U8,Ml,Bool.false_eq_true,if_false,List.length_append,List.length_cons] at h12 ⊢;omega
  | bad e a=>exact h12
 | nob h=>intro hi;exact Yh l _
 | deep h1 h2=>intro hi;show(7:Int)≠0;decide
 | sbad h1 h2 h3 ih=>intro hi;exact ih (E5 h1)
 | close h1 h2 h3 h4 ih=>intro hi;have:=ih (E5 h1);have:=E5 h4;simp only[Ml,Bool.false_eq_true,if_false,if_true] at *;omega
 | opn h1 h2 h3 h4 ih=>intro hi;exact Yh l _
end Go.Proofs.YtpnhafdimkmbbaaGreat
end
section
namespace Go.Proofs.YtpnhafdimkmbbaaGreat
set_option linter.unusedVariables false
set_option linter.unusedSimpArgs false
set_option maxRecDepth 10000
abbrev A4i:=List St×Int×Int×Int
def Aln:LR (Int×List St) A4i→Option A4i
 | .out (i,x)=>some (x,i,0,0)
 | .ret v=>some v
def A3z (r:SR) (out:List St) (o:Option A4i):Prop:=match r with
 | .ok x tu=>o=some (out++x,(tu:Int),0,0)
 | .bad e a=>o=some ([],0,e,a)
theorem Zg {r:SR} {x out:List St} {o:Option A4i} (h:A3z r (out++x) o):A3z (U8 x r) out o:=by
 cases r with
 | ok y tu=>show o=some (out++(x++y),(tu:Int),0,0);rw[← List.append_assoc];exact h
 | bad e a=>exact h
theorem A1f {α:Type} (l:List Tk) (j:Nat) (A B:Option α):(bif decide ((j:Int) < ((l.length:Nat):Int)) then((idx l (j:Int)).bind fun x=>(bif x.Ac==1 then((idx l (j:Int)).bind fun y=>(bif y.Bt==([101,108,115,101]:List UInt8) then A else B)) else B)) else B)=bif Oe l j then A else B:=by
 by_cases h:j < l.length
 ·rw[Af (by omega),E3 h,Option.bind_some,Option.bind_some]
  unfold Oe
  rw[List.getElem?_eq_getElem h]
  dsimp only
  cases l[j].Ac==1<;>cases (l[j].Bt==([101,108,115,101]:List UInt8))<;>rfl
 ·rw[As (by omega)]
  unfold Oe
  rw[List.getElem?_eq_none (by omega)];rfl
theorem Ug {T:Nat} {l:List Tk} (hk:Toks T l) {n i:Nat} (hn:12*l.length+T+901≤n) (hi:i≤l.length) (k:Int) (a:Int) :
 match Ix l (exQ l) (Cd k) i fs0 with
 | .ok s j=>Ew n l (i:Int) ⟨k,[],[],[],[],false,0,0,a⟩=some (⟨k,s.reg,s.loc,s.e,s.f,s.ne,0,0,a⟩,(j:Int),0,0)
 | .bad e a'=>∃ X,Ew n l (i:Int) ⟨k,[],[],[],[],false,0,0,a⟩=some (X,0,e,a'):=by
 obtain⟨n,rfl⟩:∃ j,n=j+1:=⟨n - 1,by omega⟩
 have hf:=A9t k
 have:=Ahf hk (n:=n) (by omega) ⟨k,[],[],[],[],false,0,0,a⟩ (Cd k) [] i n fs0 hi (by rw[List.nil_append];omega) (by omega)
 obtain⟨n,rfl⟩:∃ j,n=j+1:=⟨n - 1,by omega⟩
 rw[Ew,Alt,Option.bind_some]
 revert this
 cases Ix l (exQ l) (Cd k) i fs0 with
 | ok s j =>
  intro h
  have h:C8 (n+1) l ⟨k,[],[],[],[],false,0,0,a⟩ (Cd k) (n+1) (i:Int) 0 [] [] [] [] false=_:=h
  rw[h];rfl
 | bad e a' =>
  rintro ⟨X,h⟩
  have h:C8 (n+1) l ⟨k,[],[],[],[],false,0,0,a⟩ (Cd k) (n+1) (i:Int) 0 [] [] [] [] false=_:=h
  rw[h];exact⟨_,rfl⟩
theorem Amv {T:Nat} {l:List Tk} (hk:Toks T l) {md:Bool} {inn i:Nat} {r:SR} (h:SE l md inn i r):i≤l.length→inn≤30→match md with
 | false=>∀ (n k:Nat) (out:List St),12*l.length+T+900+4*(l.length - i)+11≤n→l.length - i < k→out.length≤i→A3z r out ((Ci n (Cz n) l (inn:Int) k (i:Int) out).bind Aln)
 | true=>∀ n:Nat,12*l.length+T+900+4*(l.length - i)+14≤n→A3z r [] (Cz n l (i:Int) (inn:Int)):=by
 have hl:=hk.len
 have round:∀ (n k i inn:Nat) (out:List St),12*l.length+T+910≤n→Bi l i≠0→∃ n',n=n'+1∧decide ((i:Int) < ((l.length:Nat):Int))=true∧Cv n l (i:Int) [125]=some false∧Mj n l (i:Int)=some (Bi l i)∧(Bi l i==0)=false∧idx l (i:Int)=some (l[i]?.getD default)∧(l[i]?.getD default).A8=C7 l i∧IntKind.i64.wrap ((i:Int)+1)=((i+1:Nat):Int)∧Hu n (Bi l i)=some (Dz (Bi l i)):=by
  intro n k i inn out hn h0
  have hlt:=Ct h0
  obtain⟨n,rfl⟩:∃ j,n=j+1:=⟨n - 1,by omega⟩
  refine⟨n,rfl,by simpa using hlt,by rw[Eo,Aax h0],Afx (by omega),by rw[beq_eq_false_iff_ne];exact h0,by rw[E3 hlt,List.getElem?_eq_getElem hlt];rfl,by rw[List.getElem?_eq_getElem hlt,hk.at' hlt];rfl,B3 i (by omega),Ake n _⟩
 induction h with
 | @stop inn i h1 =>
  intro hi hn n k out hf hkk ho
  obtain⟨k,rfl⟩:∃ j,k=j+1:=⟨k - 1,by omega⟩
  obtain⟨n,rfl⟩:∃ j,n=j+1:=⟨n - 1,by omega⟩
  rw[Ci,Eo]
  show _=some (out++[],(i:Int),0,0)
  rw[List.append_nil]
  by_cases h2:i < l.length
  ·rw[Af (by omega),(h1.resolve_left (by omega))];rfl
  ·rw[As (by omega)];rfl
 | @no inn i h1 h2 h3 =>
  intro hi hn n k out hf hkk ho
  obtain⟨k,rfl⟩:∃ j,k=j+1:=⟨k - 1,by omega⟩
  obtain⟨n,rfl⟩:∃ j,n=j+1:=⟨n - 1,by omega⟩
  rw[Ci,Eo,h2,Afx (by omega),h3,Af (by omega),E3 h1,hk.at' h1];rfl
 | @fbad inn i e a h1 h2 =>
  intro hi hn n k out hf hkk ho
  obtain⟨k,rfl⟩:∃ j,k=j+1:=⟨k - 1,by omega⟩
  obtain⟨n',rfl,a1,a2,a3,a4,a5,a6,a7,a8⟩:=round n k i inn out (by omega) h1
  have hne:e≠0:=by
   have:=A02 hk (Cd (Bi l i)) (i+1) fs0 (Ct h1)
   rw[h2] at this;exact this
  have hb:(e != 0)=true:=by rw[bne_iff_ne];exact hne
  have hx:=Ug hk (n:=n'+1) (by omega) (Ct h1) (Bi l i) (C7 l i)
  rw[h2] at hx
  obtain⟨X,hx⟩:=hx
  rw[Ci,a1,cond_true,a2,Option.bind_some,cond_false,a3,Option.bind_some,a4,cond_false,a5,Option.bind_some,a6,a7,hx,Option.bind_some]
  simp only[hb,cond_true];rfl
 | @simple inn i j s r h1 h2 h3 h4 ih =>
  intro hi hn n k out hf hkk ho
  obtain⟨k,rfl⟩:∃ j,k=j+1:=⟨k - 1,by omega⟩
  have h5:=Gv hk (Ct h1) h3
  have hlt:=Ct h1
  have h6:=ih h5.2 hn n k (out++[mkS (Bi l i) s 0 0 (C7 l i)]) (by omega) (by omega) (by simp;omega)
  obtain⟨n',rfl,a1,a2,a3,a4,a5,a6,a7,a8⟩:=round n k i inn out (by omega) h1
  have hx:=Ug hk (n:=n'+1) (by omega) hlt (Bi l i) (C7 l i)
  rw[h3] at hx
  have hx:Ew (n'+1) l ((i+1:Nat):Int) _=_:=hx
  have h10:(Bi l i==10)=false:=by
   cases hq:Bi l i==10 with
   | false=>rfl
   | true=>rw[Dz,hq] at h2;cases h2
  rw[Ci,a1,cond_true,a2,Option.bind_some,cond_false,a3,Option.bind_some,a4,cond_false,a5,Option.bind_some,a6,a7,hx,Option.bind_some]
  simp only[bne_self_eq_false,cond_false,a8,Option.bind_some,h2,h10,List.length_append,List.length_singleton,Nat.add_zero]
  rw[Af (by omega),Af (by omega),Af (by omega)]
  exact Zg h6
 | @bbad inn i j s e a h1 h2 h3 h4 ih =>
  intro hi hn n k out hf hkk ho
  obtain⟨k,rfl⟩:∃ j,k=j+1:=⟨k - 1,by omega⟩
  have h5:=Gv hk (Ct h1) h3
  have hlt:=Ct h1
  have h6:Cz n l (j:Int) (inn:Int)=some ([],0,e,a):=ih h5.2 hn n (by omega)
  have hb:(e != 0)=true:=by rw[bne_iff_ne];exact Ll hk h4 h5.2
  obtain⟨n',rfl,a1,a2,a3,a4,a5,a6,a7,a8⟩:=round n k i inn out (by omega) h1
  have hx:=Ug hk (n:=n'+1) (by omega) hlt (Bi l i) (C7 l i)
  rw[h3] at hx
  have hx:Ew (n'+1) l ((i+1:Nat):Int) _=_:=hx
  rw[Ci,a1,cond_true,a2,Option.bind_some,cond_false,a3,Option.bind_some,a4,cond_false,a5,Option.bind_some,a6,a7,hx,Option.bind_some]
  simp only[bne_self_eq_false,cond_false,a8,Option.bind_some,h2,cond_true,h6,hb]
  rfl
 | @blk inn i j j2 s b r h1 h2 h3 h4 h5 h6 ih1 ih2 =>
  intro hi hn n k out hf hkk ho
  obtain⟨k,rfl⟩:∃ j,k=j+1:=⟨k - 1,by omega⟩
  have h7:=Gv hk (Ct h1) h3
  have hlt:=Ct h1
  have h8:=Ll hk h4 h7.2
  simp only[Ml,if_true] at h8
  have h9:Cz n l (j:Int) (inn:Int)=some ([]++b,(j2:Int),0,0):=ih1 h7.2 hn n (by omega)
  rw[List.nil_append] at h9
  have h10:=ih2 h8.2.1 hn n k (out++(mkS (Bi l i) s b.length 0 (C7 l i) :: b)) (by omega) (by omega) (by simp;omega)
  obtain⟨n',rfl,a1,a2,a3,a4,a5,a6,a7,a8⟩:=round n k i inn out (by omega) h1
  have hx:=Ug hk (n:=n'+1) (by omega) hlt (Bi l i) (C7 l i)
  rw[h3] at hx
  have hx:Ew (n'+1) l ((i+1:Nat):Int) _=_:=hx
  rw[Ci,a1,cond_true,a2,Option.bind_some,cond_false,a3,Option.bind_some,a4,cond_false,a5,Option.bind_some,a6,a7,hx,Option.bind_some]
  simp only[bne_self_eq_false,cond_false,a8,Option.bind_some,h2,cond_true,h9,A1f]
  have hel:(Bi l i==10)=true→Oe l j2=false:=fun h=>h5 (by simpa using h)
  have hrest:A3z (U8 (mkS (Bi l i) s b.length 0 (C7 l i) :: b) r) out ((Ci (n'+1) (Cz (n'+1)) l (inn:Int) k (j2:Int) ((out++[⟨Bi l i,s.reg,s.loc,s.e,s.f,s.ne,((b.length:Nat):Int),0,C7 l i⟩])++b)).bind Aln):=by
   refine Zg ?_
   rw[List.append_assoc,List.singleton_append];exact h10
  have s1:decide ((out.length+1)*121≤140737488355328)=true:=by simp;omega
  have s2:decide ((out.length+1+b.length)*121≤140737488355328)=true:=by simp;omega
  simp only[List.length_append,List.length_singleton,Nat.add_zero,s1,s2,cond_true]
  cases hq:Bi l i==10 with
  | true=>rw[cond_true,hel hq,cond_false];exact hrest
  | false=>rw[cond_false];exact hrest
 | @ebad inn i j j2 s b e a h1 h3 h4 h5 h6 ih1 ih2 =>
  intro hi hn n k out hf hkk ho
  obtain⟨k,rfl⟩:∃ j,k=j+1:=⟨k - 1,by omega⟩
  have h0:Bi l i≠0:=by omega
  have h7:=Gv hk (Ct h0) h3
  have hlt:=Ct h0
  have hj:=Lr h5
  have h8:=Ll hk h4 h7.2
  simp only[Ml,if_true] at h8
  have h9:Cz n l (j:Int) (inn:Int)=some ([]++b,(j2:Int),0,0):=ih1 h7.2 hn n (by omega)
  rw[List.nil_append] at h9
  have h10:Cz n l ((j2+1:Nat):Int) (inn:Int)=some ([],0,e,a):=ih2 hj hn n (by omega)
  have hb:(e != 0)=true:=by rw[bne_iff_ne];exact Ll hk h6 hj
  obtain⟨n',rfl,a1,a2,a3,a4,a5,a6,a7,a8⟩:=round n k i inn out (by omega) h0
  have hx:=Ug hk (n:=n'+1) (by omega) hlt (Bi l i) (C7 l i)
  rw[h3] at hx
  have hx:Ew (n'+1) l ((i+1:Nat):Int) _=_:=hx
  have hbl:Dz (Bi l i)=true:=by rw[h1];rfl
  have hq:(Bi l i==10)=true:=by rw[h1];rfl
  rw[Ci,a1,cond_true,a2,Option.bind_some,cond_false,a3,Option.bind_some,a4,cond_false,a5,Option.bind_some,a6,a7,hx,Option.bind_some]
  simp only[bne_self_eq_false,cond_false,a8,Option.bind_some,hbl,cond_true,h9,A1f,hq,h5,B3 j2 (show j2 < 4611686018427387904 by omega),h10,hb]
  rfl
 | @els inn i j j2 j3 s b c r h1 h3 h4 h5 h6 h7 ih1 ih2 ih3 =>
  intro hi hn n k out hf hkk ho
  obtain⟨k,rfl⟩:∃ j,k=j+1:=⟨k - 1,by omega⟩
  have h0:Bi l i≠0:=by omega
  have h8:=Gv hk (Ct h0) h3
  have hlt:=Ct h0
  have hj:=Lr h5
  have h9:=Ll hk h4 h8.2
  simp only[Ml,if_true] at h9
  have h9':=Ll hk h6 hj
  simp only[Ml,if_true] at h9'
  have h10:Cz n l (j:Int) (inn:Int)=some ([]++b,(j2:Int),0,0):=ih1 h8.2 hn n (by omega)
  rw[List.nil_append] at h10
  have h11:Cz n l ((j2+1:Nat):Int) (inn:Int)=some ([]++c,(j3:Int),0,0):=ih2 hj hn n (by omega)
  rw[List.nil_append] at h11
  have h12:=ih3 h9'.2.1 hn n k (out++(mkS (Bi l i) s b.length c.length (C7 l i) :: (b++c))) (by omega) (by omega) (by simp;omega)
  obtain⟨n',rfl,a1,a2,a3,a4,a5,a6,a7,a8⟩:=round n k i inn out (by omega) h0
  have hx:=Ug hk (n:=n'+1) (by omega) hlt (Bi l i) (C7 l i)
  rw[h3] at hx
  have hx:Ew (n'+1) l ((i+1:Nat):Int) _=_:=hx
  have hbl:Dz (Bi l i)=true:=by rw[h1];rfl
  have hq:(Bi l i==10)=true:=by rw[h1];rfl
  rw[Ci,a1,cond_true,a2,Option.bind_some,cond_false,a3,Option.bind_some,a4,cond_false,a5,Option.bind_some,a6,a7,hx,Option.bind_some]
  have s1:decide ((out.length+1)*121≤140737488355328)=true:=by simp;omega
  have s2:decide ((out.length+1+b.length)*121≤140737488355328)=true:=by simp;omega
  have s3:decide ((out.length+1+b.length+c.length)*121≤140737488355328)=true:=by simp;omega
  simp only[bne_self_eq_false,cond_false,a8,Option.bind_some,hbl,cond_true,h10,A1f,hq,h5,B3 j2 (show j2 < 4611686018427387904 by omega),h11,List.length_append,List.length_singleton,s1,s2,s3]
  refine Zg ?_
  rw[List.append_assoc,List.append_assoc,List.singleton_append];exact h12
 | @nob inn i h1 =>
  intro hi hn n hf
  obtain⟨n,rfl⟩:∃ j,n=j+3:=⟨n - 3,by omega⟩
  rw[Cz,Eo,h1,Option.bind_some,cond_false,Sh n l i (by omega)];rfl
 | @deep inn i h1 h2 =>
  intro hi hn n hf
  have hlt:=E5 h1
  obtain⟨n,rfl⟩:∃ j,n=j+3:=⟨n - 3,by omega⟩
  rw[Cz,Eo,h1,Option.bind_some,cond_true,Af (by omega),E3 hlt,hk.at' hlt];rfl
 | @sbad inn i e a h1 h2 h3 ih =>
  intro hi hn n hf
  have hlt:=E5 h1
  obtain⟨n,rfl⟩:∃ j,n=j+4:=⟨n - 4,by omega⟩
  have h4:=ih hlt (by omega) (n+2) (n+2) [] (by omega) (by omega) (by simp)
  have h5:Ei (n+3) l ((i+1:Nat):Int) ((inn+1:Nat):Int)=some ([],0,e,a):=by rw[Ei];exact h4
  have hb:(e != 0)=true:=by rw[bne_iff_ne];exact Ll hk h3 hlt
  rw[Cz,Eo,h1,Option.bind_some,cond_true,As (by omega),B3 i (by omega),B3 inn (by omega),h5,Option.bind_some]
  simp only[hb,cond_true];rfl
 | @close inn i j x h1 h2 h3 h4 ih =>
  intro hi hn n hf
  have hlt:=E5 h1
  have hlj:=E5 h4
  obtain⟨n,rfl⟩:∃ j,n=j+4:=⟨n - 4,by omega⟩
  have h6:=ih hlt (by omega) (n+2) (n+2) [] (by omega) (by omega) (by simp)
  have h5:Ei (n+3) l ((i+1:Nat):Int) ((inn+1:Nat):Int)=some ([]++x,(j:Int),0,0):=by rw[Ei];exact h6
  rw[Cz,Eo,h1,Option.bind_some,cond_true,As (by omega),B3 i (by omega),B3 inn (by omega),h5,Option.bind_some]
  simp only[bne_self_eq_false,cond_false,Eo,h4,Option.bind_some,cond_true,B3 j (show j < 4611686018427387904 by omega)];rfl
 | @opn inn i j x h1 h2 h3 h4 ih =>
  intro hi hn n hf
  have hlt:=E5 h1
  obtain⟨n,rfl⟩:∃ j,n=j+4:=⟨n - 4,by omega⟩
  have h6:=ih hlt (by omega) (n+2) (n+2) [] (by omega) (by omega) (by simp)
  have h5:Ei (n+3) l ((i+1:Nat):Int) ((inn+1:Nat):Int)=some ([]++x,(j:Int),0,0):=by rw[Ei];exact h6
  rw[Cz,Eo,h1,Option.bind_some,cond_true,As (by omega),B3 i (by omega),B3 inn (by omega),h5,Option.bind_some]
  simp only[bne_self_eq_false,cond_false,Eo,h4,Option.bind_some,Sh (n+1) l j (show l.length < 1000000 by omega)];rfl
end Go.Proofs.YtpnhafdimkmbbaaGreat
end
section
namespace Go.Proofs.YtpnhafdimkmbbaaGreat
set_option linter.unusedVariables false
set_option linter.unusedSimpArgs false
set_option maxRecDepth 10000
theorem Ail {T:Nat} {l:List Tk} (hk:Toks T l):∀ (m i inn:Nat) (md:Bool),l.length - i≤m→i≤l.length→inn≤30→∃ r,SE l md inn i r:=by
 intro m
 induction m with
 | zero =>
  intro i inn md hm hi hn
  have hs:∀ s,Bw l i s=false:=fun s=>by
   cases h:Bw l i s with
   | false=>rfl
   | true=>have:=E5 h;omega
  cases md with
  | false=>exact⟨_,.stop (.inl (by omega))⟩
  | true=>exact⟨_,.nob (hs _)⟩
 | succ m ih =>
  intro i inn md hm hi hn
  cases md with
  | true =>
   cases h:Bw l i [123] with
   | false=>exact⟨_,.nob h⟩
   | true =>
    by_cases h30:30≤inn
    ·exact⟨_,.deep h h30⟩
    ·have hlt:=E5 h
     obtain⟨r,hr⟩:=ih (i+1) (inn+1) false (by omega) hlt (by omega)
     cases r with
     | bad e a=>exact⟨_,.sbad h (by omega) hr⟩
     | ok x j =>
      cases h2:Bw l j [125] with
      | true=>exact⟨_,.close h (by omega) hr h2⟩
      | false=>exact⟨_,.opn h (by omega) hr h2⟩
  | false =>
   by_cases hlt:i < l.length
   ·cases h:Bw l i [125] with
    | true=>exact⟨_,.stop (.inr h)⟩
    | false =>
     by_cases h0:Bi l i=0
     ·exact⟨_,.no hlt h h0⟩
     ·cases hf:Ix l (exQ l) (Cd (Bi l i)) (i+1) fs0 with
      | bad e a=>exact⟨_,.fbad h0 hf⟩
      | ok s j =>
       have hj:=Gv hk (by omega) hf
       cases hb:Dz (Bi l i) with
       | false =>
        obtain⟨r,hr⟩:=ih j inn false (by omega) hj.2 hn
        exact⟨_,.simple h0 hb hf hr⟩
       | true =>
        obtain⟨r,hr⟩:=ih j inn true (by omega) hj.2 hn
        cases r with
        | bad e a=>exact⟨_,.bbad h0 hb hf hr⟩
        | ok b j2 =>
         have hj2:=Ll hk hr hj.2
         simp only[Ml,if_true] at hj2
         by_cases he:Bi l i=10∧Oe l j2=true
         ·have hj3:=Lr he.2
          obtain⟨r3,hr3⟩:=ih (j2+1) inn true (by omega) hj3 hn
          cases r3 with
          | bad e a=>exact⟨_,.ebad he.1 hf hr he.2 hr3⟩
          | ok c j4 =>
           have hj4:=Ll hk hr3 hj3
           simp only[Ml,if_true] at hj4
           obtain⟨r5,hr5⟩:=ih j4 inn false (by omega) hj4.2.1 hn
           exact⟨_,.els he.1 hf hr he.2 hr3 hr5⟩
         ·obtain⟨r5,hr5⟩:=ih j2 inn false (by omega) hj2.2.1 hn
          refine⟨_,.blk h0 hb hf hr (fun hq=>?_) hr5⟩
          cases hx:Oe l j2 with
          | false=>rfl
          | true=>exact absurd ⟨hq,hx⟩ he
   ·exact⟨_,.stop (.inl (by omega))⟩
def A7x:List C3:=match Od 1 with | some y=>y | none=>[]
def Wu (l:List Tk) (i:Nat):SR→A4i
 | .bad e a=>([],0,e,a)
 | .ok x tu=>if 200 < x.length then([],0,2,C7 l i) else(x,(tu:Int),0,0)
end Go.Proofs.YtpnhafdimkmbbaaGreat
end
section
namespace Go.Proofs.YtpnhafdimkmbbaaGreat
set_option linter.unusedVariables false
set_option linter.unusedSimpArgs false
set_option maxRecDepth 10000
theorem Abv (s:List UInt8) (hs:s.length≤90000):Toks s.length (Vy s):=by
 obtain⟨h1,h2⟩:=Xy s
 refine⟨by omega,fun t ht=>(h1 t ht).1,fun t ht=>?_,by omega⟩
 have h3:=h1 t ht
 have h4:=h3.1.1
 omega
end Go.Proofs.YtpnhafdimkmbbaaGreat
end
section
namespace Go.Proofs.YtpnhafdimkmbbaaGreat
set_option linter.unusedVariables false
set_option linter.unusedSimpArgs false
set_option maxRecDepth 10000
inductive SF where
 | nil
 | cons (x:St) (a b r:SF)
def SF.flat:SF→List St
 | .nil=>[]
 | .cons x a b r=>x :: (a.flat++(b.flat++r.flat))
def SF.wf:SF→Prop
 | .nil=>True
 | .cons x a b r=>x.Al=(a.flat.length:Int)∧x.C4=(b.flat.length:Int)∧a.wf∧b.wf∧r.wf
def SF.dep:SF→Nat
 | .nil=>0
 | .cons x a b r=>max (if Dz x.Ac then max (1+a.dep) (1+b.dep) else 0) r.dep
def dF:Nat→List St→Option Nat
 | 0,_=>none
 | _+1,[]=>some 0
 | m+1,x :: t=>if 0≤x.Al∧0≤x.C4∧x.Al+x.C4≤(t.length:Int) then
    (dF m (t.take x.Al.toNat)).bind fun p=>(dF m ((t.drop x.Al.toNat).take x.C4.toNat)).bind fun q=>(dF m (t.drop (x.Al.toNat+x.C4.toNat))).bind fun z=>some (max (if Dz x.Ac then max (1+p) (1+q) else 0) z)
  else none
theorem A05:∀ (F:SF) (m:Nat),F.wf→F.flat.length < m→dF m F.flat=some F.dep
 | .nil,m,_,h=>by
  obtain⟨m,rfl⟩:∃ j,m=j+1:=⟨m - 1,by omega⟩
  rfl
 | .cons x a b r,m,h,hm=>by
  obtain⟨m,rfl⟩:∃ j,m=j+1:=⟨m - 1,by omega⟩
  obtain⟨h1,h2,ha,hb,hr⟩:=h
  rw[SF.flat] at hm ⊢
  simp only[List.length_cons,List.length_append] at hm
  rw[dF,if_pos ⟨by omega,by omega,by rw[h1,h2];simp only[List.length_append];omega⟩,h1,h2]
  have e1:(a.flat++(b.flat++r.flat)).take ((a.flat.length:Nat):Int).toNat=a.flat:=by simp
  have e2:(a.flat++(b.flat++r.flat)).drop ((a.flat.length:Nat):Int).toNat=b.flat++r.flat:=by simp
  have e3:(b.flat++r.flat).take ((b.flat.length:Nat):Int).toNat=b.flat:=by simp
  have e4:(a.flat++(b.flat++r.flat)).drop (((a.flat.length:Nat):Int).toNat+((b.flat.length:Nat):Int).toNat)=r.flat:=by
   rw[← List.drop_drop,e2];simp
  rw[e1,e2,e3,e4,A05 a m ha (by omega),A05 b m hb (by omega),A05 r m hr (by omega)]
  rfl
theorem Aji:∀ (m:Nat) (l:List St) (z:Nat),dF m l=some z→∃ F:SF,F.wf∧F.flat=l∧F.dep=z:=by
 intro m
 induction m with
 | zero=>intro l z h;cases h
 | succ m ih =>
  intro l z h
  cases l with
  | nil=>rw[dF] at h;cases h;exact⟨.nil,trivial,rfl,rfl⟩
  | cons x t =>
   rw[dF] at h
   by_cases c:0≤x.Al∧0≤x.C4∧x.Al+x.C4≤(t.length:Int)
   ·rw[if_pos c] at h
    obtain⟨p,h1,h⟩:=Option.bind_eq_some_iff.1 h
    obtain⟨q,h2,h⟩:=Option.bind_eq_some_iff.1 h
    obtain⟨r,h3,h⟩:=Option.bind_eq_some_iff.1 h
    obtain⟨A,a1,a2,a3⟩:=ih _ _ h1
    obtain⟨B,b1,b2,b3⟩:=ih _ _ h2
    obtain⟨R,r1,r2,r3⟩:=ih _ _ h3
    have hA:A.flat.length=x.Al.toNat:=by rw[a2,List.length_take];omega
    have hB:B.flat.length=x.C4.toNat:=by rw[b2,List.length_take,List.length_drop];omega
    refine⟨.cons x A B R,⟨by omega,by omega,a1,b1,r1⟩,?_,?_⟩
    ·rw[SF.flat,a2,b2,r2,← List.drop_drop,List.take_append_drop,List.take_append_drop]
    ·rw[SF.dep,a3,b3,r3];exact Option.some.inj h
   ·rw[if_neg c] at h;cases h
def seg (l:List St) (i j:Nat):List St:=(l.take j).drop i
theorem Abf {l:List St} {i j:Nat} (h:j≤l.length):(seg l i j).length=j - i:=by unfold seg;rw[List.length_drop,List.length_take];omega
theorem A8k {l:List St} {i j:Nat} (h:i < j) (hj:j≤l.length):seg l i j=(l[i]'(by omega)) :: seg l (i+1) j:=by
 unfold seg
 rw[List.drop_eq_getElem_cons (by rw[List.length_take];omega),List.getElem_take]
theorem A7r {l:List St} {i j:Nat} (h:j≤i):seg l i j=[]:=by
 unfold seg;exact List.drop_of_length_le (by rw[List.length_take];omega)
theorem Xg {l:List St} {i j k:Nat} (h:i+k≤j):(seg l i j).take k=seg l i (i+k):=by
 unfold seg;rw[List.take_drop,List.take_take];congr 2;omega
theorem Xc {l:List St} {i j k:Nat}:(seg l i j).drop k=seg l (i+k) j:=by
 unfold seg;rw[List.drop_drop]
theorem Akf (n:Nat) (k:Int):Oh (n+1) k=some (Dz k):=by
 rw[Oh,Dz]
 cases k==10<;>cases k==11<;>cases k==12<;>rfl
def A1d:Option Nat→Int
 | some z=>(z:Int)
 | none=> -1
theorem Afa (a p q:Nat):V4 (a:Int) ((1+p:Nat):Int) ((1+q:Nat):Int)=((max a (max (1+p) (1+q)):Nat):Int):=by
 unfold V4;repeat' split
 all_goals omega
theorem Amp (l:List St) (hl:l.length < 1000000):∀ (m i j n k a:Nat),m≤1000001→i≤j→j≤l.length→j - i < m→3*m+10≤n→m≤k→a≤1000001 →
 match dF m (seg l i j) with
 | some z=>z < m∧Cs n (Fq n) l (j:Int) l k (i:Int) (a:Int)=some (.out ((max a z:Nat):Int))
 | none=>∃ d,Cs n (Fq n) l (j:Int) l k (i:Int) (a:Int)=some (.ret (false,d)):=by
 intro m
 induction m with
 | zero=>intro i j n k a _ _ _ h;omega
 | succ m ih =>
  intro i j n k a hmm hij hj hm hn hk ha
  obtain⟨k,rfl⟩:∃ q,k=q+1:=⟨k - 1,by omega⟩
  by_cases c:i < j
  ·rw[A8k c hj,dF,Cs,Af (by omega),E3 (show i < l.length by omega),Option.bind_some]
   have hx:l[i]?=some (l[i]'(by omega)):=List.getElem?_eq_getElem (by omega)
   generalize l[i]'(by omega)=x at *
   have hw:IntKind.i64.wrap (IntKind.i64.wrap ((j:Int) - (i:Int)) - 1)=((j - i - 1:Nat):Int):=by
    rw[C1 (show -9223372036854775808≤(j:Int) - (i:Int)∧_ by omega),C1 (by omega)];omega
   rw[Abf hj,hw]
   by_cases h1:x.Al < 0
   ·rw[Af h1,if_neg (by omega)];exact⟨_,rfl⟩
   rw[As h1]
   by_cases h2:x.C4 < 0
   ·rw[Af h2,if_neg (by omega)];exact⟨_,rfl⟩
   rw[As h2]
   by_cases h3:((j - i - 1:Nat):Int) < x.Al
   ·rw[Af h3,if_neg (by omega)];exact⟨_,rfl⟩
   rw[As h3,C1 (show -9223372036854775808≤((j - i - 1:Nat):Int) - x.Al∧_ by omega)]
   by_cases h4:((j - i - 1:Nat):Int) - x.Al < x.C4
   ·rw[Af h4,if_neg (by omega)];exact⟨_,rfl⟩
   rw[As h4,if_pos ⟨by omega,by omega,by omega⟩]
   obtain⟨B,hB⟩:∃ B:Nat,x.Al=B:=⟨x.Al.toNat,by omega⟩
   obtain⟨E,hE⟩:∃ E:Nat,x.C4=E:=⟨x.C4.toNat,by omega⟩
   rw[hB] at h3
   rw[hB,hE] at h4 ⊢
   have w1:IntKind.i64.wrap (IntKind.i64.wrap ((i:Int)+1)+(B:Int))=((i+1+B:Nat):Int):=by
    rw[C1 (show -9223372036854775808≤(i:Int)+1∧_ by omega),C1 (by omega)];omega
   have w2:IntKind.i64.wrap (((i+1+B:Nat):Int)+(E:Int))=((i+1+B+E:Nat):Int):=by rw[C1 (by omega)];omega
   rw[w1,w2]
   simp only[Int.toNat_natCast]
   rw[Xg (by omega),Xc,Xg (by omega),Xc]
   obtain⟨n,rfl⟩:∃ q,n=q+3:=⟨n - 3,by omega⟩
   have dep:∀ p q:Nat,p≤q→q≤j→i < p→Jo (n+2) l (p:Int) (q:Int)=some (A1d (dF m (seg l p q)))∧(∀ z,dF m (seg l p q)=some z→z < m):=by
    intro p q hp hq hi
    have:=ih p q n n 0 (by omega) hp (by omega) (by omega) (by omega) (by omega) (by omega)
    rw[Jo,Gf]
    cases hd:dF m (seg l p q) with
    | some z =>
     rw[hd] at this
     obtain⟨z1,z2⟩:=this
     rw[show((0:Nat):Int)=0 from rfl] at z2
     rw[z2]
     refine⟨?_,fun z' hz=>by cases hz;exact z1⟩
     simp[A1d]
    | none =>
     rw[hd] at this
     obtain⟨d,h⟩:=this
     rw[show((0:Nat):Int)=0 from rfl] at h
     rw[h];exact⟨rfl,fun z hz=>by cases hz⟩
   obtain⟨d1,z1⟩:=dep (i+1) (i+1+B) (by omega) (by omega) (by omega)
   obtain⟨d2,z2⟩:=dep (i+1+B) (i+1+B+E) (by omega) (by omega) (by omega)
   rw[Fq,show IntKind.i64.wrap ((i:Int)+1)=((i+1:Nat):Int) by rw[C1 (by omega)];omega,d1,Option.bind_some,d2,Option.bind_some,Bm hx,Option.bind_some,Akf,Option.bind_some]
   cases hp:dF m (seg l (i+1) (i+1+B)) with
   | none =>
    simp only[A1d,Option.bind_none]
    cases Dz x.Ac<;>exact⟨_,rfl⟩
   | some p =>
   have hpm:=z1 p hp
   cases hq:dF m (seg l (i+1+B) (i+1+B+E)) with
   | none =>
    simp only[A1d,Option.bind_none,Option.bind_some]
    have:((p:Int) != -1)=true:=by rw[bne_iff_ne];omega
    cases Dz x.Ac<;>simp only[this]<;>exact⟨_,rfl⟩
   | some q =>
   have hqm:=z2 q hq
   simp only[A1d,Option.bind_some]
   have e1:((p:Int) != -1)=true:=by rw[bne_iff_ne];omega
   have e2:((q:Int) != -1)=true:=by rw[bne_iff_ne];omega
   have w3:IntKind.i64.wrap (1+(p:Int))=((1+p:Nat):Int):=by rw[C1 (by omega)];omega
   have w4:IntKind.i64.wrap (1+(q:Int))=((1+q:Nat):Int):=by rw[C1 (by omega)];omega
   rw[e1,e2,w3,w4,Afa]
   simp only[cond_true]
   have fin:∀ u:Nat,u≤1000001→(∀ z,z < m→max u z=max a (max (if Dz x.Ac=true then max (1+p) (1+q) else 0) z))→match (dF m (seg l (i+1+B+E) j)).bind fun z=>some (max (if Dz x.Ac=true then max (1+p) (1+q) else 0) z) with
    | some z=>z < m+1∧Cs (n+3) (Fq (n+3)) l (j:Int) l k ((i+1+B+E:Nat):Int) (u:Int)=some (.out ((max a z:Nat):Int))
    | none=>∃ d,Cs (n+3) (Fq (n+3)) l (j:Int) l k ((i+1+B+E:Nat):Int) (u:Int)=some (.ret (false,d)):=by
    intro u hu hz
    have:=ih (i+1+B+E) j (n+3) k u (by omega) (by omega) hj (by omega) (by omega) (by omega) hu
    cases hr:dF m (seg l (i+1+B+E) j) with
    | none=>rw[hr] at this;exact this
    | some z =>
     rw[hr] at this
     dsimp only at this
     refine⟨?_,by rw[this.2,hz z this.1]⟩
     have:=this.1
     split<;>omega
   rw[show i+1+(B+E)=i+1+B+E by omega]
   cases hb:Dz x.Ac with
   | true =>
    rw[hb] at fin
    exact fin (max a (max (1+p) (1+q))) (by omega) (fun z _=>by simp only[if_true];omega)
   | false =>
    rw[hb] at fin
    exact fin a ha (fun z _=>by simp only[Bool.false_eq_true,if_false];omega)
  ·rw[A7r (by omega),dF,Cs,As (by omega)]
   exact⟨by omega,by rw[Nat.max_eq_left (by omega)]⟩
theorem Ajy (l:List St) (hl:l.length < 1000) {n:Nat} (hn:4000≤n):Of n l=some (A1d (dF (l.length+1) l)):=by
 obtain⟨n,rfl⟩:∃ q,n=q+3:=⟨n - 3,by omega⟩
 have:=Amp l (by omega) (l.length+1) 0 l.length n n 0 (by omega) (by omega) (by omega) (by omega) (by omega) (by omega) (by omega)
 have e:seg l 0 l.length=l:=by unfold seg;simp
 rw[e] at this
 rw[Of,Jo,Gf]
 cases hd:dF (l.length+1) l with
 | some z =>
  rw[hd] at this
  rw[show(0:Int)=((0:Nat):Int) from rfl,this.2];simp[A1d]
 | none =>
  rw[hd] at this
  obtain⟨d,h⟩:=this
  rw[show(0:Int)=((0:Nat):Int) from rfl,h];rfl
end Go.Proofs.YtpnhafdimkmbbaaGreat
end
section
namespace Go.Proofs.YtpnhafdimkmbbaaGreat
set_option linter.unusedVariables false
set_option linter.unusedSimpArgs false
set_option maxRecDepth 10000
def F5 (f:List UInt8) (c:Int):Bool:=f.any fun b=>(b.toNat:Int)==c
theorem Ady (n:Nat) (k:C3) (c:Int) (h:k.f_form.length < 100) (hn:102 < n):Eg n k c=some (F5 k.f_form c):=by
 obtain⟨n,rfl⟩:∃ j,n=j+1:=⟨n - 1,by omega⟩
 have:Fh n k c n 0=bif k.f_form.any (fun b=>(b.toNat:Int)==c) then some (.ret true) else some (.out ()):=by
  refine Xm k.f_form (fun q i=>Fh n k c q (i:Int)) _ (fun q=>?_) (fun q i x hi hx=>?_) (by omega)
  ·rw[Fh,As (by omega)]
  ·rw[Fh,Af (by omega),Bm hx,Option.bind_some,B3 i (by omega)]
 rw[Eg,this]
 unfold F5
 cases k.f_form.any (fun b=>(b.toNat:Int)==c)<;>rfl
def Aml (k:Int):List UInt8:=O2.getD k.toNat []
theorem Ama (n:Nat) {k:Int} (h:1≤k∧k≤13):R0 (n+2) k=some (⟨Aml k,Cd k,Dz k,k==10⟩,true):=by
 have c:k=1∨k=2∨k=3∨k=4∨k=5∨k=6∨k=7∨k=8∨k=9∨k=10∨k=11∨k=12∨k=13:=by omega
 rcases c with rfl | rfl | rfl | rfl | rfl | rfl | rfl | rfl | rfl | rfl | rfl | rfl | rfl<;>rfl
theorem Ala (n:Nat) {k:Int} (h:¬ (1≤k∧k≤13)):R0 (n+2) k=some (⟨[],[],false,false⟩,false):=by
 rw[R0,show Od (n+1)=some A7x from rfl,Option.bind_some]
 by_cases c:k < 1
 ·rw[Af c]
 ·rw[As c,Af (show((A7x.length:Nat):Int)≤k by have:A7x.length=14:=rfl;omega)]
theorem Agk (n:Nat) (l:List Nd) (hl:l.length < 100000) (hn:l.length+30 < n):Jm n l=some (M0 l&&Ey l):=by
 obtain⟨n,rfl⟩:∃ j,n=j+1:=⟨n - 1,by omega⟩
 have hf:(l.filter Db).length≤l.length:=List.length_filter_le ..
 rw[Jm,A4f n l (by omega) (by omega),Option.bind_some]
 have:=Vr (F:=fun k i=>Fm n (l.filter Db) k i) (l.filter Db) (fun k i h=>by rw[Fm,As (by omega)]) (fun k i y hi hy=>by rw[Fm,Af (by omega),Bm hy,Option.bind_some,B3 i (by omega)]) (l.filter Db).length 0 n (by omega) (by omega)
 rw[show((0:Nat):Int)=0 from rfl] at this
 rw[this,Option.bind_some,List.drop_zero,A19 n l (by omega) (by omega)]
 unfold M0
 by_cases c:(l.filter Db).all (fun y=>y.Bg==2)=true
 ·rw[if_pos c,c];rfl
 ·rw[if_neg c];rw[Bool.not_eq_true] at c;rw[c];rfl
def fN (f:List UInt8) (c:Int) (s:List UInt8):Bool:=if F5 f c then Ca s else s==[]
def fL (f:List UInt8) (c:Int) (l:List Nd):Bool:=if F5 f c then M0 l&&Ey l else(l.length:Int)==0
def Js (x:St):Bool:=decide (1≤x.Ac∧x.Ac≤13)&&(!decide (x.A8 < 0)&&((!x.Bf || F5 (Cd x.Ac) 113)&&(fN (Cd x.Ac) 114 x.Ax&&(fN (Cd x.Ac) 108 x.Au&&(fL (Cd x.Ac) 101 x.B4&&(fL (Cd x.Ac) 102 x.Bd&&((Dz x.Ac || x.Al==0)&&(x.Ac==10 || x.C4==0))))))))
theorem Abm (n:Nat) (c:Int) (s w f:List UInt8) (b m:Bool) (hf:f.length < 100) (hn:104 < n):Ip n c s w f b m=some (fN f c s):=by
 obtain⟨n,rfl⟩:∃ j,n=j+1:=⟨n - 1,by omega⟩
 rw[Ip,Ady n _ c hf (by omega)]
 simp only[Option.bind_some]
 have hs:Fa n s=some (Ca s):=by
  obtain⟨n,rfl⟩:∃ j,n=j+1:=⟨n - 1,by omega⟩
  simp only[Fa]
 rw[hs]
 unfold fN
 cases F5 f c with
 | false=>rfl
 | true=>simp only[cond_true,Option.bind_some,if_true];cases Ca s<;>rfl
theorem Abq (n:Nat) (c:Int) (l:List Nd) (w f:List UInt8) (b m:Bool) (hf:f.length < 100) (hl:l.length < 100000) (hn:104 < n) (hn2:l.length+40 < n):Iw n c l w f b m=some (fL f c l):=by
 obtain⟨n,rfl⟩:∃ j,n=j+1:=⟨n - 1,by omega⟩
 rw[Iw,Ady n _ c hf (by omega)]
 simp only[Option.bind_some]
 rw[Agk n l hl (by omega)]
 unfold fL
 cases F5 f c with
 | false=>rfl
 | true=>simp only[cond_true,Option.bind_some,if_true];cases (M0 l&&Ey l)<;>rfl
theorem Ajn (n:Nat) (x:St) (h1:x.B4.length < 100000) (h2:x.Bd.length < 100000) (hn:110 < n) (hn1:x.B4.length+50 < n) (hn2:x.Bd.length+50 < n):Q0 n x=some (Js x):=by
 obtain⟨n,rfl⟩:∃ j,n=j+3:=⟨n - 3,by omega⟩
 have hfl:(Cd x.Ac).length < 100:=by have:=A9t x.Ac;omega
 rw[Q0]
 by_cases c:1≤x.Ac∧x.Ac≤13
 ·rw[Ama n c,Option.bind_some]
  unfold Js
  rw[decide_eq_true c]
  dsimp only
  rw[cond_true,Ady (n+2) _ 113 hfl (by omega),Abm (n+2) 114 _ _ _ _ _ hfl (by omega),Abm (n+2) 108 _ _ _ _ _ hfl (by omega),Abq (n+2) 101 _ _ _ _ _ hfl h1 (by omega) (by omega),Abq (n+2) 102 _ _ _ _ _ hfl h2 (by omega) (by omega)]
  simp only[Option.bind_some]
  cases decide (x.A8 < 0) with
  | true=>rfl
  | false =>
  cases x.Bf with
  | true =>
   simp only[cond_true,cond_false,Bool.not_true,Bool.not_false,Bool.true_and,Bool.false_or]
   cases F5 (Cd x.Ac) 113<;>cases fN (Cd x.Ac) 114 x.Ax<;>cases fN (Cd x.Ac) 108 x.Au<;>cases fL (Cd x.Ac) 101 x.B4<;>cases fL (Cd x.Ac) 102 x.Bd<;>cases Dz x.Ac<;>cases x.Al==0<;>cases x.Ac==10<;>rfl
  | false =>
   simp only[cond_true,cond_false,Bool.not_true,Bool.not_false,Bool.true_and,Bool.true_or]
   cases fN (Cd x.Ac) 114 x.Ax<;>cases fN (Cd x.Ac) 108 x.Au<;>cases fL (Cd x.Ac) 101 x.B4<;>cases fL (Cd x.Ac) 102 x.Bd<;>cases Dz x.Ac<;>cases x.Al==0<;>cases x.Ac==10<;>rfl
 ·rw[Ala n c,Option.bind_some]
  unfold Js
  rw[decide_eq_false c];rfl
def Am8 (l:List St):Prop:=∀ x ∈ l,x.B4.length≤250∧x.Bd.length≤250
def Kw (l:List St):Bool:=match dF (l.length+1) l with
 | some z=>!decide (30 < z)&&(!decide (200 < l.length)&&l.all Js)
 | none=>false
theorem Agx (n:Nat) (l:List St) (hl:l.length < 1000) (hx:Am8 l) (hn:5000 < n):O7 n l=some (Kw l):=by
 obtain⟨n,rfl⟩:∃ j,n=j+1:=⟨n - 1,by omega⟩
 rw[O7,Ajy l hl (by omega),Option.bind_some]
 unfold Kw
 have hL:Hr n l n 0=bif l.all Js then some (.out ()) else some (.ret false):=by
  refine Ik l (fun q i=>Hr n l q (i:Int)) _ (fun q=>?_) (fun q i x hi hx'=>?_) (by omega)
  ·rw[Hr,As (by omega)]
  ·have:=hx x (List.mem_of_getElem? hx')
   rw[Hr,Af (by omega),Bm hx',Option.bind_some,Ajn n x (by omega) (by omega) (by omega) (by omega) (by omega),Option.bind_some,B3 i (by omega)]
 rw[hL]
 cases dF (l.length+1) l with
 | none=>rfl
 | some z =>
  show(bif ((z:Int)== -1) then some false else(bif decide (30 < (z:Int)) then some false else(bif decide (200 < ((l.length:Nat):Int)) then some false else _)))=some (!decide (30 < z)&&(!decide (200 < l.length)&&l.all Js))
  rw[show((z:Int)== -1)=false by rw[beq_eq_false_iff_ne];omega,cond_false]
  by_cases c1:30 < z
  ·rw[Af (by omega),decide_eq_true c1];rfl
  ·rw[As (by omega),decide_eq_false c1]
   by_cases c2:200 < l.length
   ·rw[Af (by omega),decide_eq_true c2];rfl
   ·rw[As (by omega),decide_eq_false c2]
    cases l.all Js<;>rfl
theorem Xh {l:List St} (h:Kw l=true):∃ F:SF,F.wf∧F.flat=l∧F.dep≤30∧l.length≤200∧∀ x ∈ l,Js x=true:=by
 unfold Kw at h
 cases hd:dF (l.length+1) l with
 | none=>rw[hd] at h;cases h
 | some z =>
  rw[hd] at h
  simp only[Bool.and_eq_true,Bool.not_eq_true',decide_eq_false_iff_not,List.all_eq_true] at h
  obtain⟨F,f1,f2,f3⟩:=Aji _ _ _ hd
  exact⟨F,f1,f2,by omega,by omega,h.2.2⟩
theorem Acw {F:SF} (h:F.wf) (hd:F.dep≤30) (hl:F.flat.length≤200) (hx:∀ x ∈ F.flat,Js x=true):Kw F.flat=true:=by
 unfold Kw
 rw[A05 F _ h (by omega)]
 simp only[Bool.and_eq_true,Bool.not_eq_true',decide_eq_false_iff_not,List.all_eq_true]
 exact⟨by omega,by omega,hx⟩
end Go.Proofs.YtpnhafdimkmbbaaGreat
end
section
namespace Go.Proofs.YtpnhafdimkmbbaaGreat
set_option linter.unusedVariables false
set_option linter.unusedSimpArgs false
set_option maxRecDepth 10000
def Ad8:List UInt8:=[114,108,101,102,113,61,59,44]
theorem Ae2 (k:Int):∀ c ∈ Cd k,c ∈ Ad8:=by
 unfold Cd;repeat' split
 all_goals decide
end Go.Proofs.YtpnhafdimkmbbaaGreat
end
section
namespace Go.Proofs.YtpnhafdimkmbbaaGreat
set_option linter.unusedVariables false
set_option linter.unusedSimpArgs false
set_option maxRecDepth 10000
theorem Wz {f:List UInt8} {c:UInt8} (h:c ∈ f):F5 f (c.toNat:Int)=true:=by
 unfold F5;exact List.any_eq_true.2 ⟨c,h,by simp⟩
end Go.Proofs.YtpnhafdimkmbbaaGreat
end
section
namespace Go.Proofs.YtpnhafdimkmbbaaGreat
set_option linter.unusedVariables false
set_option linter.unusedSimpArgs false
set_option maxRecDepth 10000
def SameX (x y:List Nd):Prop:=x.map Aj1=y.map Aj1∧(∀ z ∈ x,z.Bg≠3)∧∀ z ∈ y,z.Bg≠3
end Go.Proofs.YtpnhafdimkmbbaaGreat
end
section
namespace Go.Proofs.YtpnhafdimkmbbaaGreat
set_option linter.unusedVariables false
set_option linter.unusedSimpArgs false
set_option maxRecDepth 10000
structure SameS (x y:St):Prop where
 k:x.Ac=y.Ac
 r:x.Ax=y.Ax
 l:x.Au=y.Au
 n:x.Bf=y.Bf
 b:x.Al=y.Al
 c:x.C4=y.C4
 e:SameX x.B4 y.B4
 f:SameX x.Bd y.Bd
def All2:List St→List St→Prop
 | [],[]=>True
 | x :: l,y :: m=>SameS x y∧All2 l m
 | _,_=>False
theorem All2.len:∀ {l m:List St},All2 l m→l.length=m.length
 | [],[],_=>rfl
 | _ :: l,_ :: m,h=>by simp[All2.len h.2]
 | [],_ :: _,h=>h.elim
 | _ :: _,[],h=>h.elim
theorem All2.get:∀ {l m:List St},All2 l m→∀ (i:Nat) x y,l[i]?=some x→m[i]?=some y→SameS x y
 | [],[],_,i,x,y,h,_=>by simp at h
 | a :: l,b :: m,h,0,x,y,h1,h2=>by
  simp only[List.getElem?_cons_zero,Option.some.injEq] at h1 h2
  subst h1;subst h2;exact h.1
 | a :: l,b :: m,h,i+1,x,y,h1,h2=>by
  simp only[List.getElem?_cons_succ] at h1 h2
  exact All2.get h.2 i x y h1 h2
 | [],_ :: _,h,_,_,_,_,_=>h.elim
 | _ :: _,[],h,_,_,_,_,_=>h.elim
theorem A0a {f:List UInt8} {c:UInt8} (h:c ∉ f):F5 f (c.toNat:Int)=false:=by
 unfold F5
 refine List.any_eq_false.2 fun b hb e=>h ?_
 rw[beq_iff_eq] at e
 have:b=c:=UInt8.toNat_inj.1 (by omega)
 rw[← this];exact hb
end Go.Proofs.YtpnhafdimkmbbaaGreat
end
section
namespace Go.Proofs.YtpnhafdimkmbbaaGreat
set_option linter.unusedVariables false
set_option linter.unusedSimpArgs false
set_option maxRecDepth 10000
theorem SameX.symm {x y:List Nd} (h:SameX x y):SameX y x:=⟨h.1.symm,h.2.2,h.2.1⟩
theorem SameS.symm {x y:St} (h:SameS x y):SameS y x:=⟨h.k.symm,h.r.symm,h.l.symm,h.n.symm,h.b.symm,h.c.symm,h.e.symm,h.f.symm⟩
theorem All2.symm:∀ {l m:List St},All2 l m→All2 m l
 | [],[],_=>trivial
 | _ :: l,_ :: m,h=>⟨h.1.symm,All2.symm h.2⟩
 | [],_ :: _,h=>h.elim
 | _ :: _,[],h=>h.elim
end Go.Proofs.YtpnhafdimkmbbaaGreat
end
section
namespace Go.Proofs.YtpnhafdimkmbbaaGreat
set_option linter.unusedVariables false
set_option linter.unusedSimpArgs false
set_option maxRecDepth 10000
theorem A93 {T:Nat} {l:List Tk} (hk:Toks T l) {i tu:Nat} {x:List Nd} (hi:i≤l.length) (h:exQ l i=.ok x tu):(M0 x&&Ey x)=true:=by
 obtain⟨r,hr,e⟩:=Yy hk hi
 rw[h] at e
 cases r with
 | bad e' a=>simp only[N6] at e;cases e
 | ok y tv =>
  simp only[N6] at e
  split at e
  ·cases e
  ·split at e
   ·cases e
   ·split at e
    ·rename_i c1 c2 c3
     cases e
     have hg:=A03 hk.ok hr
     dsimp only at hg
     obtain⟨t,_,_,_,_,h5⟩:=Vc hg (by omega) (by omega)
     rw[c3,h5];rfl
    ·cases e
theorem Abh {B T:Nat} {l:List Tk} (hk:Toks T l) (hB:B < 1000000) (h:∀ t ∈ l,Tj t∧t.A8+t.Bt.length≤B) {i:Nat} {e a:Int} (hi:i≤l.length) (hx:exQ l i=.bad e a):0≤a∧a≤B:=by
 obtain⟨r,hr,e'⟩:=Yy hk hi
 rw[hx] at e'
 cases r with
 | bad e2 a2=>simp only[N6] at e';cases e';exact A5a hB h hr
 | ok y tv =>
  have hp:=Kg hB h i
  simp only[N6] at e'
  split at e'
  ·cases e';exact hp
  ·split at e'
   ·cases e';exact hp
   ·split at e'
    ·cases e'
    ·cases e';exact hp
structure A08 (cs:List UInt8) (s s':Fs):Prop where
 r:if 114 ∈ cs then Ca s'.reg=true else s'.reg=s.reg
 l:if 108 ∈ cs then Ca s'.loc=true else s'.loc=s.loc
 e:if 101 ∈ cs then(M0 s'.e&&Ey s'.e)=true else s'.e=s.e
 f:if 102 ∈ cs then(M0 s'.f&&Ey s'.f)=true else s'.f=s.f
 n:113 ∉ cs→s'.ne=s.ne
theorem Ua {l:List Tk} {i:Nat} (h:isN l i=true):Ca (txt l i)=true:=by
 unfold isN at h
 cases hg:l[i]? with
 | none=>rw[hg] at h;cases h
 | some t=>rw[hg] at h;simp only[Bool.and_eq_true] at h;simp[txt,hg,h.2]
theorem Ag8 {T:Nat} {l:List Tk} (hk:Toks T l):∀ (cs:List UInt8) (i j:Nat) (s s':Fs),i≤l.length→(∀ c ∈ cs,c ∈ Ad8)→Ix l (exQ l) cs i s=.ok s' j→A08 cs s s':=by
 intro cs
 induction cs with
 | nil =>
  intro i j s s' hi _ h
  rw[Ix] at h;cases h
  exact⟨by simp,by simp,by simp,by simp,by simp⟩
 | cons c cs ih =>
  intro i j s s' hi hc h
  have hok:=Xt hk (c:=c) (s:=s) hi
  have hcc:=hc c (List.mem_cons_self ..)
  rw[Ix] at h
  have go:∀ s1 j1,J0 l (exQ l) c i s=.ok s1 j1→A08 cs s1 s':=by
   intro s1 j1 h1
   rw[h1] at h hok
   exact ih j1 j s1 s' hok.2 (fun d hd=>hc d (List.mem_cons_of_mem _ hd)) h
  have nb:∀ e a,J0 l (exQ l) c i s≠.bad e a:=by
   intro e a h1;rw[h1] at h;cases h
  simp only[Ad8,List.mem_cons,List.not_mem_nil,or_false] at hcc
  rcases hcc with rfl | rfl | rfl | rfl | rfl | rfl | rfl | rfl
  ·have e:J0 l (exQ l) 114 i s=if isN l i=true then .ok { s with reg:=txt l i } (i+1) else .bad (Jl l i) (C7 l i):=rfl
   by_cases hn:isN l i=true
   ·rw[if_pos hn] at e
    have g:=go _ _ e
    refine⟨?_,?_,?_,?_,fun hm=>?_⟩
    ·have:=g.r;rw[if_pos (List.mem_cons_self ..)]
     split at this
     ·exact this
     ·rw[this];exact Ua hn
    ·have:=g.l;simpa using this
    ·have:=g.e;simpa using this
    ·have:=g.f;simpa using this
    ·rw[g.n fun h=>hm (List.mem_cons_of_mem _ h)]
   ·rw[if_neg hn] at e;exact absurd e (nb _ _)
  ·have e:J0 l (exQ l) 108 i s=if isN l i=true then .ok { s with loc:=txt l i } (i+1) else .bad (Jl l i) (C7 l i):=rfl
   by_cases hn:isN l i=true
   ·rw[if_pos hn] at e
    have g:=go _ _ e
    refine⟨?_,?_,?_,?_,fun hm=>?_⟩
    ·have:=g.r;simpa using this
    ·have:=g.l;rw[if_pos (List.mem_cons_self ..)]
     split at this
     ·exact this
     ·rw[this];exact Ua hn
    ·have:=g.e;simpa using this
    ·have:=g.f;simpa using this
    ·rw[g.n fun h=>hm (List.mem_cons_of_mem _ h)]
   ·rw[if_neg hn] at e;exact absurd e (nb _ _)
  ·have e:J0 l (exQ l) 101 i s=match exQ l i with | .ok x tu=>.ok { s with e:=x } tu | .bad e a=>.bad e a:=rfl
   cases hx:exQ l i with
   | bad e' a=>rw[hx] at e;exact absurd e (nb _ _)
   | ok x tu =>
    rw[hx] at e
    have g:=go _ _ e
    refine⟨?_,?_,?_,?_,fun hm=>?_⟩
    ·have:=g.r;simpa using this
    ·have:=g.l;simpa using this
    ·have:=g.e;rw[if_pos (List.mem_cons_self ..)]
     split at this
     ·exact this
     ·rw[this];exact A93 hk hi hx
    ·have:=g.f;simpa using this
    ·rw[g.n fun h=>hm (List.mem_cons_of_mem _ h)]
  ·have e:J0 l (exQ l) 102 i s=match exQ l i with | .ok x tu=>.ok { s with f:=x } tu | .bad e a=>.bad e a:=rfl
   cases hx:exQ l i with
   | bad e' a=>rw[hx] at e;exact absurd e (nb _ _)
   | ok x tu =>
    rw[hx] at e
    have g:=go _ _ e
    refine⟨?_,?_,?_,?_,fun hm=>?_⟩
    ·have:=g.r;simpa using this
    ·have:=g.l;simpa using this
    ·have:=g.e;simpa using this
    ·have:=g.f;rw[if_pos (List.mem_cons_self ..)]
     split at this
     ·exact this
     ·rw[this];exact A93 hk hi hx
    ·rw[g.n fun h=>hm (List.mem_cons_of_mem _ h)]
  ·have e:J0 l (exQ l) 113 i s=if Bw l i [33,61]=true then FR.ok { s with ne:=true } (i+1) else if Bw l i [61,61]=true then .ok { s with ne:=false } (i+1) else .bad (Jl l i) (C7 l i):=rfl
   have fin:∀ b:Bool,A08 cs { s with ne:=b } s'→A08 (113 :: cs) s s':=fun b g=>by
    refine⟨?_,?_,?_,?_,fun hm=>absurd (List.mem_cons_self ..) hm⟩
    ·have:=g.r;simpa using this
    ·have:=g.l;simpa using this
    ·have:=g.e;simpa using this
    ·have:=g.f;simpa using this
   by_cases h1:Bw l i [33,61]=true
   ·rw[if_pos h1] at e;exact fin true (go _ _ e)
   ·rw[if_neg h1] at e
    by_cases h2:Bw l i [61,61]=true
    ·rw[if_pos h2] at e;exact fin false (go _ _ e)
    ·rw[if_neg h2] at e;exact absurd e (nb _ _)
  all_goals
   have fin:∀ d:UInt8,d≠114→d≠108→d≠101→d≠102→d≠113→A08 cs s s'→A08 (d :: cs) s s':=fun d d1 d2 d3 d4 d5 g=>by
    refine⟨?_,?_,?_,?_,fun hm=>g.n fun h=>hm (List.mem_cons_of_mem _ h)⟩
    ·have:=g.r;simpa [d1.symm] using this
    ·have:=g.l;simpa [d2.symm] using this
    ·have:=g.e;simpa [d3.symm] using this
    ·have:=g.f;simpa [d4.symm] using this
  ·have e:J0 l (exQ l) 61 i s=if Bw l i [61]=true then .ok s (i+1) else .bad (Jl l i) (C7 l i):=rfl
   by_cases h1:Bw l i [61]=true
   ·rw[if_pos h1] at e;exact fin 61 (by decide) (by decide) (by decide) (by decide) (by decide) (go _ _ e)
   ·rw[if_neg h1] at e;exact absurd e (nb _ _)
  ·have e:J0 l (exQ l) 59 i s=if Bw l i [59]=true then .ok s (i+1) else .bad (Jl l i) (C7 l i):=rfl
   by_cases h1:Bw l i [59]=true
   ·rw[if_pos h1] at e;exact fin 59 (by decide) (by decide) (by decide) (by decide) (by decide) (go _ _ e)
   ·rw[if_neg h1] at e;exact absurd e (nb _ _)
  ·have e:J0 l (exQ l) 44 i s=if Bw l i [44]=true then .ok s (i+1) else .bad (Jl l i) (C7 l i):=rfl
   by_cases h1:Bw l i [44]=true
   ·rw[if_pos h1] at e;exact fin 44 (by decide) (by decide) (by decide) (by decide) (by decide) (go _ _ e)
   ·rw[if_neg h1] at e;exact absurd e (nb _ _)
theorem A3s {T:Nat} {l:List Tk} (hk:Toks T l) {i j:Nat} {s:Fs} (h0:Bi l i≠0) (h:Ix l (exQ l) (Cd (Bi l i)) (i+1) fs0=.ok s j) (b c:Nat) (hb:Dz (Bi l i)=false→b=0) (hc:Bi l i≠10→c=0):Js (mkS (Bi l i) s b c (C7 l i))=true:=by
 have hlt:=Ct h0
 have g:=Ag8 hk (Cd (Bi l i)) (i+1) j fs0 s hlt (Ae2 _) h
 have hin:=Af3 l i
 have hat:0≤C7 l i:=by
  rw[hk.at' hlt];exact(hk.ok _ (List.getElem_mem hlt)).1
 unfold Js
 simp only[Bool.and_eq_true]
 refine⟨decide_eq_true (show 1≤Bi l i∧Bi l i≤13 by omega),?_,?_,?_,?_,?_,?_,?_,?_⟩
 ·show(!decide (C7 l i < 0))=true
  rw[decide_eq_false (by omega)];rfl
 ·show(!s.ne || F5 (Cd (Bi l i)) 113)=true
  by_cases m:(113:UInt8) ∈ Cd (Bi l i)
  ·have:F5 (Cd (Bi l i)) 113=true:=Wz m
   rw[this];simp
  ·rw[g.n m];rfl
 ·show fN (Cd (Bi l i)) 114 s.reg=true
  have:=g.r
  unfold fN
  by_cases m:(114:UInt8) ∈ Cd (Bi l i)
  ·rw[if_pos m] at this;rw[if_pos (show F5 (Cd (Bi l i)) 114=true from Wz m)];exact this
  ·rw[if_neg m] at this;rw[if_neg (by rw[show F5 (Cd (Bi l i)) 114=false from A0a m];simp),this];rfl
 ·show fN (Cd (Bi l i)) 108 s.loc=true
  have:=g.l
  unfold fN
  by_cases m:(108:UInt8) ∈ Cd (Bi l i)
  ·rw[if_pos m] at this;rw[if_pos (show F5 (Cd (Bi l i)) 108=true from Wz m)];exact this
  ·rw[if_neg m] at this;rw[if_neg (by rw[show F5 (Cd (Bi l i)) 108=false from A0a m];simp),this];rfl
 ·show fL (Cd (Bi l i)) 101 s.e=true
  have:=g.e
  unfold fL
  by_cases m:(101:UInt8) ∈ Cd (Bi l i)
  ·rw[if_pos m] at this;rw[if_pos (show F5 (Cd (Bi l i)) 101=true from Wz m)];exact this
  ·rw[if_neg m] at this;rw[if_neg (by rw[show F5 (Cd (Bi l i)) 101=false from A0a m];simp),this];rfl
 ·show fL (Cd (Bi l i)) 102 s.f=true
  have:=g.f
  unfold fL
  by_cases m:(102:UInt8) ∈ Cd (Bi l i)
  ·rw[if_pos m] at this;rw[if_pos (show F5 (Cd (Bi l i)) 102=true from Wz m)];exact this
  ·rw[if_neg m] at this;rw[if_neg (by rw[show F5 (Cd (Bi l i)) 102=false from A0a m];simp),this];rfl
 ·show(Dz (Bi l i) || (b:Int)==0)=true
  cases hbl:Dz (Bi l i) with
  | true=>rfl
  | false=>rw[hb hbl];rfl
 ·show(Bi l i==10 || (c:Int)==0)=true
  by_cases k10:Bi l i=10
  ·rw[k10];rfl
  ·rw[hc k10];simp
def Agp (inn:Nat):SR→Prop
 | .ok x _=>∃ F:SF,F.wf∧F.flat=x∧F.dep+inn≤30∧∀ y ∈ x,Js y=true
 | .bad _ _=>True
theorem Ak1 {T:Nat} {l:List Tk} (hk:Toks T l) {md:Bool} {inn i:Nat} {r:SR} (h:SE l md inn i r):i≤l.length→inn≤30→if md then(match r with | .ok x _=>inn < 30∧Agp (inn+1) r | _=>True) else Agp inn r:=by
 induction h with
 | stop h=>intro hi hn;exact⟨.nil,trivial,rfl,by simp[SF.dep];omega,by simp⟩
 | no h1 h2 h3=>intro hi hn;trivial
 | fbad h1 h2=>intro hi hn;trivial
 | @simple inn i j s r h1 h2 h3 h4 ih =>
  intro hi hn
  have h5:=Gv hk (Ct h1) h3
  have ih:=ih h5.2 hn
  simp only[Bool.false_eq_true,if_false] at ih ⊢
  cases r with
  | bad e a=>trivial
  | ok x tu =>
   obtain⟨F,f1,f2,f3,f4⟩:=ih
   refine⟨.cons (mkS (Bi l i) s 0 0 (C7 l i)) .nil .nil F,⟨rfl,rfl,trivial,trivial,f1⟩,by simp[SF.flat,f2],?_,?_⟩
   ·simp only[SF.dep,mkS,h2];simp;omega
   ·intro y hy
    rcases List.mem_append.1 hy with hy | hy
    ·rw[List.mem_singleton] at hy;subst hy
     exact A3s hk h1 h3 0 0 (fun _=>rfl) (fun _=>rfl)
    ·exact f4 y hy
 | bbad h1 h2 h3 h4 ih=>intro hi hn;trivial
 | @blk inn i j j2 s b r h1 h2 h3 h4 h5 h6 ih1 ih2 =>
  intro hi hn
  have h7:=Gv hk (Ct h1) h3
  have h8:=Ll hk h4 h7.2
  simp only[Ml,if_true] at h8
  have ih1:=ih1 h7.2 hn
  simp only[if_true] at ih1
  have ih2:=ih2 h8.2.1 hn
  simp only[Bool.false_eq_true,if_false] at ih2 ⊢
  cases r with
  | bad e a=>trivial
  | ok x tu =>
   obtain⟨i1,A,a1,a2,a3,a4⟩:=ih1
   obtain⟨F,f1,f2,f3,f4⟩:=ih2
   refine⟨.cons (mkS (Bi l i) s b.length 0 (C7 l i)) A .nil F,⟨by rw[a2];rfl,rfl,a1,trivial,f1⟩,by simp[SF.flat,f2,a2],?_,?_⟩
   ·simp only[SF.dep,mkS,h2];simp;omega
   ·intro y hy
    rcases List.mem_append.1 hy with hy | hy
    ·rcases List.mem_cons.1 hy with rfl | hy
     ·exact A3s hk h1 h3 b.length 0 (fun e=>by rw[e] at h2;cases h2) (fun _=>rfl)
     ·exact a4 y hy
    ·exact f4 y hy
 | ebad h1 h3 h4 h5 h6 ih1 ih2=>intro hi hn;trivial
 | @els inn i j j2 j3 s b c r h1 h3 h4 h5 h6 h7 ih1 ih2 ih3 =>
  intro hi hn
  have h0:Bi l i≠0:=by omega
  have h8:=Gv hk (Ct h0) h3
  have hj:=Lr h5
  have h11:=Ll hk h6 hj
  simp only[Ml,if_true] at h11
  have ih1:=ih1 h8.2 hn
  simp only[if_true] at ih1
  have ih2:=ih2 hj hn
  simp only[if_true] at ih2
  have ih3:=ih3 h11.2.1 hn
  simp only[Bool.false_eq_true,if_false] at ih3 ⊢
  cases r with
  | bad e a=>trivial
  | ok x tu =>
   obtain⟨i1,A,a1,a2,a3,a4⟩:=ih1
   obtain⟨i2,B,b1,b2,b3,b4⟩:=ih2
   obtain⟨F,f1,f2,f3,f4⟩:=ih3
   refine⟨.cons (mkS (Bi l i) s b.length c.length (C7 l i)) A B F,⟨by rw[a2];rfl,by rw[b2];rfl,a1,b1,f1⟩,by simp[SF.flat,f2,a2,b2],?_,?_⟩
   ·have hb:Dz (Bi l i)=true:=by rw[h1];rfl
    have e:(SF.cons (mkS (Bi l i) s b.length c.length (C7 l i)) A B F).dep=max (max (1+A.dep) (1+B.dep)) F.dep:=by
     show max (if Dz (Bi l i)=true then _ else 0) _=_
     rw[if_pos hb]
    rw[e];omega
   ·intro y hy
    rcases List.mem_append.1 hy with hy | hy
    ·rcases List.mem_cons.1 hy with rfl | hy
     ·exact A3s hk h0 h3 b.length c.length (fun e=>by rw[h1] at e;exact absurd e (by decide)) (fun e=>absurd h1 e)
     ·rcases List.mem_append.1 hy with hy | hy
      ·exact a4 y hy
      ·exact b4 y hy
    ·exact f4 y hy
 | nob h=>intro hi hn;trivial
 | deep h1 h2=>intro hi hn;trivial
 | sbad h1 h2 h3 ih=>intro hi hn;trivial
 | close h1 h2 h3 h4 ih =>
  intro hi hn
  have:=ih (E5 h1) (by omega)
  simp only[Bool.false_eq_true,if_false] at this
  exact⟨h2,this⟩
 | opn h1 h2 h3 h4 ih=>intro hi hn;trivial
def Ux (B:Nat):FR→Prop
 | .bad _ a=>0≤a∧a≤B
 | .ok _ _=>True
theorem A7p {B T:Nat} {l:List Tk} (hk:Toks T l) (hB:B < 1000000) (h:∀ t ∈ l,Tj t∧t.A8+t.Bt.length≤B) {e a:Int}:∀ (cs:List UInt8) (i:Nat) (s:Fs),i≤l.length→Ix l (exQ l) cs i s=.bad e a→0≤a∧a≤B
 | [],i,s,hi,hx=>by rw[Ix] at hx;cases hx
 | c :: cs,i,s,hi,hx=>by
  have hok:=Xt hk (c:=c) (s:=s) hi
  have hp:=Kg hB h i
  have hst:Ux B (J0 l (exQ l) c i s):=by
   unfold J0
   refine Ed (Q:=Ux B) (fun _=>Ed (Q:=Ux B) (fun _=>trivial) fun _=>hp) fun _=>Ed (Q:=Ux B) (fun _=>Ed (Q:=Ux B) (fun _=>trivial) fun _=>hp) fun _=>Ed (Q:=Ux B) (fun _=>?_) fun _=>Ed (Q:=Ux B) (fun _=>?_) fun _=>Ed (Q:=Ux B) (fun _=>Ed (Q:=Ux B) (fun _=>trivial) fun _=>Ed (Q:=Ux B) (fun _=>trivial) fun _=>hp) fun _=>Ed (Q:=Ux B) (fun _=>trivial) fun _=>hp
   ·cases hx2:exQ l i with
    | ok x tu=>trivial
    | bad e a=>exact Abh hk hB h hi hx2
   ·cases hx2:exQ l i with
    | ok x tu=>trivial
    | bad e a=>exact Abh hk hB h hi hx2
  rw[Ix] at hx
  revert hx hok hst
  cases J0 l (exQ l) c i s with
  | bad e' a'=>intro hx _ hst;cases hx;exact hst
  | ok s2 j2=>intro hx hok _;exact A7p hk hB h cs j2 s2 hok.2 hx
theorem Alk {B T:Nat} {l:List Tk} (hk:Toks T l) (hB:B < 1000000) (h:∀ t ∈ l,Tj t∧t.A8+t.Bt.length≤B) {md:Bool} {inn i:Nat} {r:SR} (hs:SE l md inn i r):i≤l.length→match r with | .bad _ a=>0≤a∧a≤B | _=>True:=by
 induction hs with
 | stop _=>intro hi;trivial
 | no h1 h2 h3=>intro hi;exact Kg hB h _
 | fbad h1 h2=>intro hi;exact A7p hk hB h _ _ _ (Ct h1) h2
 | @simple inn i j s r h1 h2 h3 h4 ih =>
  intro hi
  have:=ih (Gv hk (Ct h1) h3).2
  cases r with
  | ok x tu=>trivial
  | bad e a=>exact this
 | bbad h1 h2 h3 h4 ih=>intro hi;exact ih (Gv hk (Ct h1) h3).2
 | @blk inn i j j2 s b r h1 h2 h3 h4 h5 h6 ih1 ih2 =>
  intro hi
  have h7:=Gv hk (Ct h1) h3
  have h8:=Ll hk h4 h7.2
  simp only[Ml,if_true] at h8
  have:=ih2 h8.2.1
  cases r with
  | ok x tu=>trivial
  | bad e a=>exact this
 | ebad h1 h3 h4 h5 h6 ih1 ih2=>intro hi;exact ih2 (Lr h5)
 | @els inn i j j2 j3 s b c r h1 h3 h4 h5 h6 h7 ih1 ih2 ih3 =>
  intro hi
  have h11:=Ll hk h6 (Lr h5)
  simp only[Ml,if_true] at h11
  have:=ih3 h11.2.1
  cases r with
  | ok x tu=>trivial
  | bad e a=>exact this
 | nob _=>intro hi;exact Kg hB h _
 | deep h1 h2=>intro hi;exact Kg hB h _
 | sbad h1 h2 h3 ih=>intro hi;exact ih (E5 h1)
 | close h1 h2 h3 h4 ih=>intro hi;trivial
 | opn h1 h2 h3 h4 ih=>intro hi;exact Kg hB h _
end Go.Proofs.YtpnhafdimkmbbaaGreat
end
section
namespace Go.Proofs.YtpnhafdimkmbbaaGreat
set_option linter.unusedVariables false
set_option linter.unusedSimpArgs false
set_option maxRecDepth 10000
def Kq (k:Int):List UInt8×Bool :=
 if k=2 then([114,101],true) else if k=3 then([114,108],true) else if k=4 then([108,101],true) else if k=5 then([114,108,101,102],true)
 else if k=6 then([114,108,101],true) else if k=7 then([114,108,101],true) else if k=9 then([108,101,110],true) else if k=10 then([101,98,120],true) else if k=11 then([101,98],true) else if k=12 then([98],true) else if k=1∨k=8∨k=13 then([],true) else([],false)
theorem Aki (n:Nat) (k:Int):N5 (n+1) k=some (Kq k):=by
 by_cases h:1≤k∧k≤13
 ·have c:k=1∨k=2∨k=3∨k=4∨k=5∨k=6∨k=7∨k=8∨k=9∨k=10∨k=11∨k=12∨k=13:=by omega
  rcases c with rfl | rfl | rfl | rfl | rfl | rfl | rfl | rfl | rfl | rfl | rfl | rfl | rfl<;>rfl
 ·have e:∀ a:Int,1≤a→a≤13→(k==a)=false:=fun a h1 h2=>beq_eq_false_iff_ne.2 (by omega)
  simp only[N5,e 1 (by omega) (by omega),e 2 (by omega) (by omega),e 3 (by omega) (by omega),e 4 (by omega) (by omega),e 5 (by omega) (by omega),e 6 (by omega) (by omega),e 7 (by omega) (by omega),e 8 (by omega) (by omega),e 9 (by omega) (by omega),e 10 (by omega) (by omega),e 11 (by omega) (by omega),e 12 (by omega) (by omega),e 13 (by omega) (by omega),cond_false]
  unfold Kq
  repeat rw[if_neg (by omega)]
theorem Aee (k:Int):(Kq k).1.length < 10:=by
 unfold Kq
 repeat' split
 all_goals exact(by decide)
theorem An3 (n:Nat) (f:List UInt8) (c:Int) (h:f.length < 100) (hn:102 < n):C6 n f c=some (F5 f c):=by
 obtain⟨n,rfl⟩:∃ j,n=j+1:=⟨n - 1,by omega⟩
 have:Id n f c n 0=bif f.any (fun b=>(b.toNat:Int)==c) then some (.ret true) else some (.out ()):=by
  refine Xm f (fun q i=>Id n f c q (i:Int)) _ (fun q=>?_) (fun q i x hi hx=>?_) (by omega)
  ·rw[Id,As (by omega)]
  ·rw[Id,Af (by omega),Bm hx,Option.bind_some,B3 i (by omega)]
 rw[C6,this]
 unfold F5
 cases f.any (fun b=>(b.toNat:Int)==c)<;>rfl
theorem Adj {k:Int} (h:1≤k∧k≤13):(Kq k).2=true∧F5 (Kq k).1 114=F5 (Cd k) 114∧F5 (Kq k).1 108=F5 (Cd k) 108∧F5 (Kq k).1 101=F5 (Cd k) 101∧F5 (Kq k).1 102=F5 (Cd k) 102∧F5 (Kq k).1 110=F5 (Cd k) 113∧F5 (Kq k).1 98=Dz k∧F5 (Kq k).1 120=(k==10):=by
 have c:k=1∨k=2∨k=3∨k=4∨k=5∨k=6∨k=7∨k=8∨k=9∨k=10∨k=11∨k=12∨k=13:=by omega
 rcases c with rfl | rfl | rfl | rfl | rfl | rfl | rfl | rfl | rfl | rfl | rfl | rfl | rfl<;>decide
theorem Ai7 {k:Int} (h:¬ (1≤k∧k≤13)):(Kq k).2=false:=by
 unfold Kq
 repeat rw[if_neg (by omega)]
theorem A8f (n:Nat) (l:List Nd) (hl:H8 l=true) (hn:600 < n):Eu n l=some (M0 l&&Ey l):=by
 have h0:l.length≤250:=by simp only[H8,Bool.and_eq_true,decide_eq_true_eq] at hl;exact hl.1
 obtain⟨n,rfl⟩:∃ j,n=j+1:=⟨n - 1,by omega⟩
 have hf:(l.filter Db).length≤l.length:=List.length_filter_le ..
 rw[Eu,A15 n l (by omega) (by omega),Option.bind_some]
 have:=Vr (F:=fun k i=>F6 n (l.filter Db) k i) (l.filter Db) (fun k i h=>by rw[F6,As (by omega)]) (fun k i y hi hy=>by rw[F6,Af (by omega),Bm hy,Option.bind_some,B3 i (by omega)]) (l.filter Db).length 0 n (by omega) (by omega)
 rw[show((0:Nat):Int)=0 from rfl] at this
 rw[this,Option.bind_some,List.drop_zero,A10 n l hl (by omega)]
 unfold M0
 by_cases c:(l.filter Db).all (fun y=>y.Bg==2)=true
 ·rw[if_pos c,c];rfl
 ·rw[if_neg c];rw[Bool.not_eq_true] at c;rw[c];rfl
def LightX (x:St):Prop:=x.Ax.length≤100∧x.Au.length≤100∧H8 x.B4=true∧H8 x.Bd=true
theorem Amz (n:Nat) (x:St) (h:LightX x) (hn:1000 < n):Pz n x=some (Js x):=by
 obtain⟨h1,h2,h3,h4⟩:=h
 obtain⟨n,rfl⟩:∃ j,n=j+2:=⟨n - 2,by omega⟩
 have hp:=Aee x.Ac
 rw[Pz,Aki,Option.bind_some]
 rcases Decidable.em (¬ (1≤x.Ac∧x.Ac≤13)) with hk | hk
 ·rw[Ai7 hk];unfold Js;rw[decide_eq_false hk];rfl
 have hk:=Decidable.not_not.1 hk
 obtain⟨p0,p1,p2,p3,p4,p5,p6,p7⟩:=Adj hk
 have hh:=fun c=>An3 (n+1) (Kq x.Ac).1 c (by omega) (by omega)
 rw[p0,cond_true]
 unfold Js
 rw[decide_eq_true hk,Bool.true_and]
 by_cases ha:x.A8 < 0
 ·rw[Af ha,decide_eq_true ha];rfl
 rw[As ha,decide_eq_false ha]
 have e1:Ca x.Ax=true→(x.Ax==[])=false:=by intro h;cases hr:x.Ax with
  | nil=>rw[hr] at h;cases h
  | cons a l=>rfl
 have e2:Ca x.Au=true→(x.Au==[])=false:=by intro h;cases hr:x.Au with
  | nil=>rw[hr] at h;cases h
  | cons a l=>rfl
 have e3:∀ l:List Nd,decide (0 < ((l.length:Nat):Int))=!(((l.length:Nat):Int)==0):=by
  intro l;by_cases c:((l.length:Nat):Int)=0
  ·rw[c];rfl
  ·rw[beq_eq_false_iff_ne.2 c,decide_eq_true (by omega)];rfl
 simp only[hh,p1,p2,p3,p4,p5,p6,p7,Option.bind_some,P4 (n+1) x.Ax (by omega) (by omega),P4 (n+1) x.Au (by omega) (by omega),A8f (n+1) x.B4 h3 (by omega),A8f (n+1) x.Bd h4 (by omega),e3,fN,fL]
 generalize F5 (Cd x.Ac) 114=r
 generalize F5 (Cd x.Ac) 108=l
 generalize F5 (Cd x.Ac) 101=e
 generalize F5 (Cd x.Ac) 102=f
 generalize F5 (Cd x.Ac) 113=q
 generalize Dz x.Ac=b
 generalize (x.Ac==10)=g
 generalize (M0 x.B4&&Ey x.B4)=pe
 generalize (M0 x.Bd&&Ey x.Bd)=pf
 generalize (((x.B4.length:Nat):Int)==0)=ze
 generalize (((x.Bd.length:Nat):Int)==0)=zf
 revert e1 e2
 generalize Ca x.Ax=nr
 generalize (x.Ax==[])=er
 generalize Ca x.Au=nl
 generalize (x.Au==[])=el
 intro e1 e2
 generalize hA:((if r=true then nr else er)&&(if l=true then nl else el))=A
 generalize hB:((if e=true then pe else ze)&&(if f=true then pf else zf))=B
 have eA:(if r=true then nr else er)=true→(if l=true then nl else el)=true→A=true:=by intro a b;rw[← hA,a,b];rfl
 refine Eq.trans (b:=(some (!A)).bind fun j5=>bif j5 then some false else(some (!B)).bind fun j32=>bif j32 then some false else some ((!x.Bf || q)&&((b || (x.Al==0))&&(g || (x.C4==0))))) ?_ ?_
 ·congr 1
  ·rw[← hA];clear eA hA hB;revert e1 e2;revert r l nr er nl el;decide
  ·funext j5
   cases j5
   ·simp only[cond_false]
    congr 1
    ·rw[← hB];clear eA hA hB;revert e f pe pf ze zf;decide
    ·funext j32
     cases j32
     ·cases q<;>cases x.Bf<;>cases b<;>cases (x.Al==0)<;>cases g<;>cases (x.C4==0)<;>rfl
     ·rfl
   ·rfl
 ·generalize ((b || (x.Al==0))&&(g || (x.C4==0)))=Z
  generalize (!x.Bf || q)=Y
  have hA2:=hA.symm
  have hB2:=hB.symm
  subst hA2 hB2
  clear eA hA hB
  generalize (if r=true then nr else er)=a1
  generalize (if l=true then nl else el)=a2
  generalize (if e=true then pe else ze)=b1
  generalize (if f=true then pf else zf)=b2
  cases a1<;>cases a2<;>cases b1<;>cases b2<;>cases Y<;>rfl
end Go.Proofs.YtpnhafdimkmbbaaGreat
end
section
namespace Go.Proofs.YtpnhafdimkmbbaaGreat
set_option linter.unusedVariables false
set_option linter.unusedSimpArgs false
set_option maxRecDepth 10000
theorem Aju (l:List St) (hl:l.length < 1000000):∀ (m i j n k:Nat),m≤1000001→i≤j→j≤l.length→j - i < m→3*m+10≤n→m≤k →
 I1 n (Fk n) l (j:Int) k (i:Int)=some (match dF m (seg l i j) with | some _=>.out () | none=>.ret false):=by
 intro m
 induction m with
 | zero=>intro i j n k _ _ _ h;omega
 | succ m ih =>
  intro i j n k hmm hij hj hm hn hk
  obtain⟨k,rfl⟩:∃ q,k=q+1:=⟨k - 1,by omega⟩
  by_cases c:i < j
  ·rw[A8k c hj,dF,I1,Af (by omega),E3 (show i < l.length by omega),Option.bind_some]
   generalize l[i]'(by omega)=x at *
   have hw:IntKind.i64.wrap (IntKind.i64.wrap ((j:Int) - (i:Int)) - 1)=((j - i - 1:Nat):Int):=by
    rw[C1 (show -9223372036854775808≤(j:Int) - (i:Int)∧_ by omega),C1 (by omega)];omega
   rw[Abf hj,hw]
   by_cases h1:x.Al < 0
   ·rw[Af h1,if_neg (by omega)]
   rw[As h1]
   by_cases h2:x.C4 < 0
   ·rw[Af h2,if_neg (by omega)]
   rw[As h2]
   by_cases h3:((j - i - 1:Nat):Int) < x.Al
   ·rw[Af h3,if_neg (by omega)]
   rw[As h3,C1 (show -9223372036854775808≤((j - i - 1:Nat):Int) - x.Al∧_ by omega)]
   by_cases h4:((j - i - 1:Nat):Int) - x.Al < x.C4
   ·rw[Af h4,if_neg (by omega)]
   rw[As h4,if_pos ⟨by omega,by omega,by omega⟩]
   obtain⟨B,hB⟩:∃ B:Nat,x.Al=B:=⟨x.Al.toNat,by omega⟩
   obtain⟨E,hE⟩:∃ E:Nat,x.C4=E:=⟨x.C4.toNat,by omega⟩
   rw[hB] at h3
   rw[hB,hE] at h4 ⊢
   have w1:IntKind.i64.wrap (IntKind.i64.wrap ((i:Int)+1)+(B:Int))=((i+1+B:Nat):Int):=by
    rw[C1 (show -9223372036854775808≤(i:Int)+1∧_ by omega),C1 (by omega)];omega
   have w2:IntKind.i64.wrap (((i+1+B:Nat):Int)+(E:Int))=((i+1+B+E:Nat):Int):=by rw[C1 (by omega)];omega
   rw[w1,w2,show IntKind.i64.wrap ((i:Int)+1)=((i+1:Nat):Int) by rw[C1 (by omega)];omega]
   simp only[Int.toNat_natCast]
   rw[Xg (by omega),Xc,Xg (by omega),Xc]
   obtain⟨n,rfl⟩:∃ q,n=q+3:=⟨n - 3,by omega⟩
   have dep:∀ p q:Nat,p≤q→q≤j→i < p→Fk (n+3) l (p:Int) (q:Int)=some (dF m (seg l p q)).isSome:=by
    intro p q hp hq hi
    have:=ih p q (n+2) (n+2) (by omega) hp (by omega) (by omega) (by omega) (by omega)
    rw[Fk,this]
    cases dF m (seg l p q)<;>rfl
   rw[dep (i+1) (i+1+B) (by omega) (by omega) (by omega),dep (i+1+B) (i+1+B+E) (by omega) (by omega) (by omega),ih (i+1+B+E) j (n+3) k (by omega) (by omega) hj (by omega) (by omega) (by omega),show i+1+(B+E)=i+1+B+E by omega]
   cases dF m (seg l (i+1) (i+1+B))<;>cases dF m (seg l (i+1+B) (i+1+B+E))<;>cases dF m (seg l (i+1+B+E) j)<;>rfl
  ·rw[A7r (by omega),dF,I1,As (by omega)]
theorem Ak7 (l:List St) (hl:l.length < 1000) {n:Nat} (hn:4000≤n):Fk n l 0 ((l.length:Nat):Int)=some (dF (l.length+1) l).isSome:=by
 obtain⟨n,rfl⟩:∃ q,n=q+1:=⟨n - 1,by omega⟩
 have:=Aju l (by omega) (l.length+1) 0 l.length n n (by omega) (by omega) (by omega) (by omega) (by omega) (by omega)
 rw[show((0:Nat):Int)=0 from rfl,show seg l 0 l.length=l by unfold seg;rw[List.take_length,List.drop_zero]] at this
 rw[Fk,this]
 cases dF (l.length+1) l<;>rfl
def SF.tops:SF→Nat→List Int
 | .nil,_=>[]
 | .cons x a b r,i=>(i:Int) :: r.tops (i+1+a.flat.length+b.flat.length)
theorem Afs (l:List St) (hl:l.length < 1000) (n:Nat):∀ (F:SF) (pre post:List St) (k:Nat) (out:List Int),F.wf→l=pre++(F.flat++post)→out.length≤pre.length→F.flat.length < k →
 Iu n l ((pre.length+F.flat.length:Nat):Int) k (pre.length:Int) out=some (.out (out++F.tops pre.length)):=by
 intro F
 induction F with
 | nil =>
  intro pre post k out _ _ _ hk
  obtain⟨k,rfl⟩:∃ q,k=q+1:=⟨k - 1,by omega⟩
  rw[Iu,As (by simp[SF.flat])]
  simp[SF.tops]
 | cons x a b r iha ihb ihr =>
  intro pre post k out hw he ho hk
  obtain⟨h1,h2,ha,hb,hr⟩:=hw
  have hll:pre.length+(a.flat.length+b.flat.length+r.flat.length+1)+post.length=l.length:=by rw[he];simp only[SF.flat,List.length_append,List.length_cons];omega
  rw[SF.flat,List.length_cons,List.length_append,List.length_append] at hk
  obtain⟨k,rfl⟩:∃ q,k=q+1:=⟨k - 1,by omega⟩
  have hx:l[pre.length]?=some x:=by rw[he,SF.flat,List.getElem?_append_right (by omega)];simp
  rw[Iu,Af (by simp[SF.flat];omega),Af (by omega),Bm hx,Option.bind_some,Option.bind_some,h1,h2]
  have w1:IntKind.i64.wrap (IntKind.i64.wrap (IntKind.i64.wrap ((pre.length:Int)+1)+((a.flat.length:Nat):Int))+((b.flat.length:Nat):Int))=((pre++x :: (a.flat++b.flat)).length:Int):=by
   rw[C1 (show -9223372036854775808≤(pre.length:Int)+1∧_ by omega),C1 (show -9223372036854775808≤(pre.length:Int)+1+((a.flat.length:Nat):Int)∧_ by omega),C1 (by omega)]
   simp only[List.length_append,List.length_cons];omega
  have:=ihr (pre++x :: (a.flat++b.flat)) post k (out++[(pre.length:Int)]) hr (by rw[he];simp[SF.flat]) (by simp;omega) (by omega)
  rw[w1,show(((SF.cons x a b r).flat.length:Nat))=1+a.flat.length+b.flat.length+r.flat.length by simp[SF.flat];omega]
  rw[show(pre++x :: (a.flat++b.flat)).length+r.flat.length=pre.length+(1+a.flat.length+b.flat.length+r.flat.length) by simp;omega] at this
  rw[this,SF.tops,List.append_assoc,show(pre++x :: (a.flat++b.flat)).length=pre.length+1+a.flat.length+b.flat.length by simp;omega]
  rfl
theorem Akx (n:Nat) (k:Int):Hu (n+1) k=some (Dz k):=by
 rw[Hu];unfold Dz
 cases k==10<;>cases k==11<;>cases k==12<;>rfl
theorem Am1 (l:List St) (hl:l.length < 1000):∀ (F:SF) (pre post:List St) (n k d:Nat) (T:List Int),F.wf→l=pre++(F.flat++post)→T.length≤pre.length→F.flat.length < k→2*F.flat.length+1010≤n→d≤1000 →
 F.dep≤F.flat.length∧Fl n (F2 n) l (T++F.tops pre.length) k (d:Int) (T.length:Int)=some (.out ((max d F.dep:Nat):Int)):=by
 intro F
 induction F with
 | nil =>
  intro pre post n k d T _ _ _ hk _ _
  obtain⟨k,rfl⟩:∃ q,k=q+1:=⟨k - 1,by omega⟩
  rw[Fl,As (by simp[SF.tops])]
  simp[SF.dep]
 | cons x a b r iha ihb ihr =>
  intro pre post n k d T hw he hT hk hn hd
  obtain⟨h1,h2,ha,hb,hr⟩:=hw
  have hll:pre.length+(a.flat.length+b.flat.length+r.flat.length+1)+post.length=l.length:=by rw[he];simp only[SF.flat,List.length_append,List.length_cons];omega
  rw[SF.flat,List.length_cons,List.length_append,List.length_append] at hk hn
  obtain⟨k,rfl⟩:∃ q,k=q+1:=⟨k - 1,by omega⟩
  obtain⟨n,rfl⟩:∃ q,n=q+2:=⟨n - 2,by omega⟩
  have hx:l[pre.length]?=some x:=by rw[he,SF.flat,List.getElem?_append_right (by omega)];simp
  have ht:(T++(SF.cons x a b r).tops pre.length)[T.length]?=some (pre.length:Int):=by rw[List.getElem?_append_right (Nat.le_refl _)];simp[SF.tops]
  rw[Fl,Af (by simp[SF.tops];omega),Bm ht,Option.bind_some,Bm hx,Option.bind_some,Akx,Option.bind_some]
  have dp:∀ (G:SF) (q:List St) (w:List St),(∀ (n k d:Nat) (T:List Int),T.length≤q.length→G.flat.length < k→2*G.flat.length+1010≤n→d≤1000→G.dep≤G.flat.length∧Fl n (F2 n) l (T++G.tops q.length) k (d:Int) (T.length:Int)=some (.out ((max d G.dep:Nat):Int)))→G.wf→l=q++(G.flat++w)→2*G.flat.length+1012≤n+2→F2 (n+2) l (q.length:Int) ((q.length+G.flat.length:Nat):Int)=some (G.dep:Int):=by
   intro G q w hG hGw hq hnn
   have hg:G.flat.length≤l.length:=by rw[hq];simp;omega
   have t1:=Afs l hl n G q w n [] hGw hq (by simp) (by omega)
   have t2:=(hG (n+1) (n+1) 0 [] (by simp) (by omega) (by omega) (by omega)).2
   rw[List.nil_append] at t1 t2
   rw[F2,O4,t1,Option.bind_some,Option.bind_some]
   rw[show(([]:List Int).length:Int)=0 from rfl,show((0:Nat):Int)=0 from rfl] at t2
   rw[t2,Nat.zero_max];rfl
  have ea:l=(pre++[x])++(a.flat++(b.flat++r.flat++post)):=by rw[he];simp[SF.flat]
  have eb:l=(pre++x :: a.flat)++(b.flat++(r.flat++post)):=by rw[he];simp[SF.flat]
  have da:=dp a (pre++[x]) _ (fun n k d T h1 h2 h3 h4=>iha (pre++[x]) _ n k d T ha ea h1 h2 h3 h4) ha ea (by omega)
  have db:=dp b (pre++x :: a.flat) _ (fun n k d T h1 h2 h3 h4=>ihb (pre++x :: a.flat) _ n k d T hb eb h1 h2 h3 h4) hb eb (by omega)
  have dda:=(iha (pre++[x]) _ 3100 2000 0 [] ha ea (by simp) (by omega) (by omega) (by omega)).1
  have ddb:=(ihb (pre++x :: a.flat) _ 3100 2000 0 [] hb eb (by simp) (by omega) (by omega) (by omega)).1
  have hr':∀ d':Nat,d'≤1000→r.dep≤r.flat.length∧Fl (n+2) (F2 (n+2)) l (T++(SF.cons x a b r).tops pre.length) k (d':Int) ((T.length+1:Nat):Int)=some (.out ((max d' r.dep:Nat):Int)):=by
   intro d' hd'
   have:=ihr (pre++x :: (a.flat++b.flat)) post (n+2) k d' (T++[(pre.length:Int)]) hr (by rw[he];simp[SF.flat]) (by simp;omega) (by omega) (by omega) hd'
   rw[show(pre++x :: (a.flat++b.flat)).length=pre.length+1+a.flat.length+b.flat.length by simp;omega,List.append_assoc,List.length_append] at this
   exact this
  rw[h1,h2]
  have w0:IntKind.i64.wrap ((pre.length:Int)+1)=((pre++[x]).length:Int):=by rw[C1 (by omega)];simp
  have w1:IntKind.i64.wrap (((pre++[x]).length:Int)+((a.flat.length:Nat):Int))=((pre++x :: a.flat).length:Int):=by
   rw[C1 (by simp only[List.length_append,List.length_cons,List.length_nil];omega)];simp only[List.length_append,List.length_cons,List.length_nil];omega
  have w2:IntKind.i64.wrap (((pre++x :: a.flat).length:Int)+((b.flat.length:Nat):Int))=(((pre++x :: a.flat).length+b.flat.length:Nat):Int):=by
   rw[C1 (by simp only[List.length_append,List.length_cons,List.length_nil];omega)];omega
  rw[show(pre++[x]).length+a.flat.length=(pre++x :: a.flat).length by simp;omega] at da
  have hw':IntKind.i64.wrap ((T.length:Int)+1)=((T.length+1:Nat):Int):=B3 _ (by omega)
  have wa:IntKind.i64.wrap (1+(a.dep:Int))=((1+a.dep:Nat):Int):=by rw[C1 (by omega)];omega
  have wb:IntKind.i64.wrap (1+(b.dep:Int))=((1+b.dep:Nat):Int):=by rw[C1 (by omega)];omega
  simp only[Option.bind_some,w0,w1,w2,hw',da,db]
  simp only[Option.bind_some,wa,wb,Afa]
  have r0:=(hr' 0 (by omega)).1
  refine⟨?_,?_⟩
  ·simp only[SF.dep,SF.flat,List.length_cons,List.length_append];split<;>omega
  ·simp only[SF.dep]
   cases hb:Dz x.Ac with
   | true =>
    simp only[cond_true,if_true]
    rw[(hr' _ (by omega)).2];first | rfl | (congr 3;omega)
   | false =>
    simp only[cond_false,Bool.false_eq_true,if_false]
    rw[(hr' d hd).2];first | rfl | (congr 3;omega)
theorem Alf {l:List St} (hl:l.length < 1000) {z:Nat} (h:dF (l.length+1) l=some z) {n:Nat} (hn:4000≤n):F2 n l 0 ((l.length:Nat):Int)=some (z:Int):=by
 obtain⟨F,f1,f2,f3⟩:=Aji _ _ _ h
 obtain⟨n,rfl⟩:∃ q,n=q+1:=⟨n - 1,by omega⟩
 have he:l=[]++(F.flat++[]):=by rw[f2];simp
 have hf:F.flat.length=l.length:=by rw[f2]
 obtain⟨n,rfl⟩:∃ q,n=q+1:=⟨n - 1,by omega⟩
 have t1:=Afs l hl n F [] [] n [] f1 he (by simp) (by omega)
 have t2:=(Am1 l hl F [] [] (n+1) (n+1) 0 [] f1 he (by simp) (by omega) (by omega) (by omega)).2
 rw[List.nil_append,hf] at t1
 rw[List.nil_append,Nat.zero_max,f3] at t2
 rw[show((([]:List St).length+l.length:Nat):Int)=(l.length:Int) by simp,show(([]:List St).length:Int)=0 from rfl] at t1
 rw[show(([]:List Int).length:Int)=0 from rfl,show((0:Nat):Int)=0 from rfl] at t2
 rw[F2,O4,t1,Option.bind_some,Option.bind_some,t2];rfl
theorem Afz (n:Nat) (l:List St) (hl:l.length < 1000) (hx:∀ x ∈ l,LightX x) (hn:5000 < n):Nf n l=some (Kw l):=by
 obtain⟨n,rfl⟩:∃ j,n=j+1:=⟨n - 1,by omega⟩
 rw[Nf,Ak7 l hl (by omega),Option.bind_some]
 have hL:Gm n l n 0=bif l.all Js then some (.out ()) else some (.ret false):=by
  refine Ik l (fun q i=>Gm n l q (i:Int)) _ (fun q=>?_) (fun q i x hi hx'=>?_) (by omega)
  ·rw[Gm,As (by omega)]
  ·have:=hx x (List.mem_of_getElem? hx')
   rw[Gm,Af (by omega),Bm hx',Option.bind_some,Amz n x this (by omega),Option.bind_some,B3 i (by omega)]
 unfold Kw
 by_cases c2:200 < l.length
 ·rw[Af (by omega),decide_eq_true c2]
  cases dF (l.length+1) l with
  | none=>rfl
  | some z=>dsimp only;cases !decide (30 < z)<;>rfl
 rw[As (by omega),decide_eq_false c2,hL]
 cases hd:dF (l.length+1) l with
 | none=>rfl
 | some z =>
  rw[Alf hl hd (by omega)]
  cases l.all Js with
  | true =>
   show some (decide ((z:Int)≤30))=some (!decide (30 < z)&&true)
   rw[Bool.and_true]
   by_cases c:30 < z
   ·rw[decide_eq_true c,decide_eq_false (by omega)];rfl
   ·rw[decide_eq_false c,decide_eq_true (by omega)];rfl
  | false=>dsimp only;cases !decide (30 < z)<;>rfl
end Go.Proofs.YtpnhafdimkmbbaaGreat
end
section
namespace Go.Proofs.YtpnhafdimkmbbaaGreat
set_option linter.unusedVariables false
set_option linter.unusedSimpArgs false
set_option maxRecDepth 10000
abbrev Pg:=Be
abbrev Th:=Am
abbrev Cl:=At
abbrev Va:=B9
structure Agi (t:Th):Prop where
 name:t.An.length≤100
 regs:t.B2.length≤4000
 reg:∀ r ∈ t.B2,r.length≤100
 body:t.Al.length≤250
 st:∀ x ∈ t.Al,LightX x
structure K1 (p:Pg):Prop where
 locs:p.Ao.length≤4000
 threads:p.Ad.length≤4000
 claims:p.Aq.length≤4000
 loc:∀ v ∈ p.Ao,v.An.length≤100
 thr:∀ t ∈ p.Ad,Agi t
 cl:∀ c ∈ p.Aq,H8 c.B4=true
def Sa (n:Int):Bool:=decide (0≤n∧n≤9999)
def Ov (v:Va):Bool:=Ca v.An&&(Sa v.Cu&&decide (0≤v.A8))
def M2 (t:Th):Bool:=Ca t.An&&(decide (0≤t.A8)&&(Kw t.Al&&t.B2.all Ca))
def clB (l:List Nd):Bool:=(l.filter Db).all fun x=>!(x.Bg==2)
def Rc (c:Cl):Bool:=clB c.B4&&(decide (1≤c.Ac∧c.Ac≤3)&&(Ey c.B4&&decide (0≤c.A8)))
def I4 (p:Pg):Bool:=Sa p.Ay&&(p.Ao.all Ov&&(p.Ad.all M2&&p.Aq.all Rc))
theorem Aj6 (n:Nat) (x:Int):Lg (n+1) x=some (Sa x):=by
 rw[Lg,Sa]
 by_cases h:0≤x
 ·rw[Af h];by_cases h2:x≤9999<;>simp[h,h2]
 ·rw[As h];simp[h]
theorem Aj5 (n:Nat) (x:Int):Pb (n+1) x=some (Sa x):=by
 rw[Pb,Sa]
 by_cases h:0≤x
 ·rw[Af h];by_cases h2:x≤9999<;>simp[h,h2]
 ·rw[As h];simp[h]
theorem A9v (n:Nat) (s:List UInt8):Fa (n+1) s=some (Ca s):=by simp only[Fa]
theorem A3i {b:Bool}:((bif b then some (.out ()) else some (.ret false)):Option (LR Unit Bool)).bind (fun o=>match o with | .out _=>some true | .ret v=>some v)=some b:=by cases b<;>rfl
theorem Al2 (n:Nat) (t:Th) (hr:t.B2.length≤4000) (hn:4100 < n):O5 n ((t.B2.length:Nat):Int) t.An t.B2 t.Al t.A8=some (t.B2.all Ca):=by
 obtain⟨n,rfl⟩:∃ j,n=j+3:=⟨n - 3,by omega⟩
 have hL:Hw (n+2) ((t.B2.length:Nat):Int) t.An t.B2 t.Al t.A8 (n+2) 0=bif t.B2.all Ca then some (.out ()) else some (.ret false):=by
  refine Ik t.B2 (fun q i=>Hw (n+2) ((t.B2.length:Nat):Int) t.An t.B2 t.Al t.A8 q (i:Int)) _ (fun q=>?_) (fun q i x hi hx=>?_) (by omega)
  ·rw[Hw,As (by omega)]
  ·rw[Hw,Af (by omega),Nw,Bm hx,Option.bind_some,A9v,Option.bind_some,Option.bind_some,B3 i (by omega)]
 rw[O5,hL];exact A3i
theorem LightX.lens {l:List St} (h:∀ x ∈ l,LightX x):Am8 l:=by
 intro x hx
 obtain⟨_,_,h3,h4⟩:=h x hx
 simp only[H8,Bool.and_eq_true,decide_eq_true_eq] at h3 h4
 exact⟨h3.1,h4.1⟩
theorem Ana (n:Nat) (t:Th) (h:Agi t) (hn:5100 < n):N8 n t=some (M2 t):=by
 obtain⟨n,rfl⟩:∃ j,n=j+2:=⟨n - 2,by omega⟩
 rw[N8,A9v,Option.bind_some,Agx (n+1) t.Al (by have:=h.body;omega) (LightX.lens h.st) (by omega),Al2 (n+1) t h.regs (by omega)]
 unfold M2
 by_cases c:0≤t.A8
 ·rw[Af c,decide_eq_true c]
  cases Ca t.An<;>cases Kw t.Al<;>rfl
 ·rw[As c,decide_eq_false c]
  cases Ca t.An<;>rfl
theorem Aj0 {F:Nat→Int→Option (LR Unit Bool)} (l:List Nd) (h0:∀ k,F (k+1) ((l.length:Nat):Int)=some (.out ())) (h1:∀ k i x,i < l.length→l[i]?=some x→F (k+1) (i:Int)=bif x.Bg==2 then some (.ret false) else F k ((i+1:Nat):Int)) {k:Nat} (hk:l.length < k):F k 0=bif l.all (fun x=>!(x.Bg==2)) then some (.out ()) else some (.ret false):=by
 refine Ik l (fun k i=>F k (i:Int)) _ (fun k=>h0 k) (fun k i x hi hx=>?_) hk
 rw[h1 k i x hi hx]
 cases x.Bg==2<;>rfl
theorem Al0 (n:Nat) (k:Int):∃ w,Pp (n+1) k=some w∧(w==([]:List UInt8))=!decide (1≤k∧k≤3):=by
 by_cases h:1≤k∧k≤3
 ·have c:k=1∨k=2∨k=3:=by omega
  rcases c with rfl | rfl | rfl<;>exact⟨_,rfl,rfl⟩
 ·refine⟨[],?_,by rw[decide_eq_false h];rfl⟩
  rw[Pp,beq_eq_false_iff_ne.2 (show k≠1 by omega),beq_eq_false_iff_ne.2 (show k≠2 by omega),beq_eq_false_iff_ne.2 (show k≠3 by omega)];rfl
theorem Anm (n:Nat) (c:Cl) (h:H8 c.B4=true) (hn:600 < n):Og n c=some (Rc c):=by
 have h0:c.B4.length≤250:=by simp only[H8,Bool.and_eq_true,decide_eq_true_eq] at h;exact h.1
 have hf:(c.B4.filter Db).length≤c.B4.length:=List.length_filter_le ..
 obtain⟨n,rfl⟩:∃ j,n=j+2:=⟨n - 2,by omega⟩
 have hL:=Aj0 (F:=fun k i=>Ir (n+1) (c.B4.filter Db) k i) (c.B4.filter Db) (fun k=>by rw[Ir,As (by omega)]) (fun k i y hi hy=>by rw[Ir,Af (by omega),Bm hy,Option.bind_some,B3 i (by omega)]) (k:=n+1) (by omega)
 obtain⟨w,w1,w2⟩:=Al0 n c.Ac
 rw[Og,A4f (n+1) c.B4 (by omega) (by omega),Option.bind_some,hL,w1,A19 (n+1) c.B4 (by omega) (by omega)]
 unfold Rc clB
 cases (c.B4.filter Db).all (fun x=>!(x.Bg==2)) with
 | false=>rfl
 | true =>
  simp only[cond_true,Option.bind_some,w2]
  cases decide (1≤c.Ac∧c.Ac≤3)<;>cases Ey c.B4<;>rfl
theorem Ak2 (n:Nat) (p:Pg) (h:K1 p) (hn:6000 < n):Oo n p=some (I4 p):=by
 have hl:=h.locs
 have ht:=h.threads
 have hc:=h.claims
 obtain⟨n,rfl⟩:∃ j,n=j+4:=⟨n - 4,by omega⟩
 have h1:Re (n+3) ((p.Ao.length:Nat):Int) p.Ay p.Ao p.Ad p.Aq=some (p.Ao.all Ov):=by
  have hL:Je (n+2) ((p.Ao.length:Nat):Int) p.Ay p.Ao p.Ad p.Aq (n+2) 0=bif p.Ao.all Ov then some (.out ()) else some (.ret false):=by
   refine Ik p.Ao (fun q i=>Je (n+2) ((p.Ao.length:Nat):Int) p.Ay p.Ao p.Ad p.Aq q (i:Int)) _ (fun q=>?_) (fun q i x hi hx=>?_) (by omega)
   ·rw[Je,As (by omega)]
   ·rw[Je,Af (by omega),Pf,Bm hx,Option.bind_some,A9v,Option.bind_some,Aj6,Option.bind_some,B3 i (by omega)]
    unfold Ov
    cases Ca x.An<;>cases Sa x.Cu<;>rfl
  rw[Re,hL];exact A3i
 have h2:Ol (n+3) ((p.Ad.length:Nat):Int) p.Ay p.Ao p.Ad p.Aq=some (p.Ad.all M2):=by
  have hL:Hq (n+2) ((p.Ad.length:Nat):Int) p.Ay p.Ao p.Ad p.Aq (n+2) 0=bif p.Ad.all M2 then some (.out ()) else some (.ret false):=by
   refine Ik p.Ad (fun q i=>Hq (n+2) ((p.Ad.length:Nat):Int) p.Ay p.Ao p.Ad p.Aq q (i:Int)) _ (fun q=>?_) (fun q i x hi hx=>?_) (by omega)
   ·rw[Hq,As (by omega)]
   ·rw[Hq,Af (by omega),P5,Bm hx,Option.bind_some,Ana _ x (h.thr x (List.mem_of_getElem? hx)) (by omega),Option.bind_some,Option.bind_some,B3 i (by omega)]
  rw[Ol,hL];exact A3i
 have h3:O9 (n+3) ((p.Aq.length:Nat):Int) p.Ay p.Ao p.Ad p.Aq=some (p.Aq.all Rc):=by
  have hL:Hs (n+2) ((p.Aq.length:Nat):Int) p.Ay p.Ao p.Ad p.Aq (n+2) 0=bif p.Aq.all Rc then some (.out ()) else some (.ret false):=by
   refine Ik p.Aq (fun q i=>Hs (n+2) ((p.Aq.length:Nat):Int) p.Ay p.Ao p.Ad p.Aq q (i:Int)) _ (fun q=>?_) (fun q i x hi hx=>?_) (by omega)
   ·rw[Hs,As (by omega)]
   ·rw[Hs,Af (by omega),Oy,Bm hx,Option.bind_some,Anm _ x (h.cl x (List.mem_of_getElem? hx)) (by omega),Option.bind_some,Option.bind_some,B3 i (by omega)]
  rw[O9,hL];exact A3i
 rw[Oo,h1,Aj6,h2,h3]
 unfold I4
 simp only[Option.bind_some]
 cases Sa p.Ay<;>cases p.Ao.all Ov<;>cases p.Ad.all M2<;>rfl
theorem Amu (n:Nat) (l:List Nd) (h:H8 l=true) (hn:600 < n):Ln n l=some (clB l&&Ey l):=by
 have h0:l.length≤250:=by simp only[H8,Bool.and_eq_true,decide_eq_true_eq] at h;exact h.1
 have hf:(l.filter Db).length≤l.length:=List.length_filter_le ..
 obtain⟨n,rfl⟩:∃ j,n=j+1:=⟨n - 1,by omega⟩
 have hL:=Aj0 (F:=fun k i=>G9 n (l.filter Db) k i) (l.filter Db) (fun k=>by rw[G9,As (by omega)]) (fun k i y hi hy=>by rw[G9,Af (by omega),Bm hy,Option.bind_some,B3 i (by omega)]) (k:=n) (by omega)
 rw[Ln,A15 n l (by omega) (by omega),Option.bind_some,hL,A10 n l h (by omega)]
 unfold clB
 cases (l.filter Db).all (fun x=>!(x.Bg==2))<;>rfl
theorem Ajq (n:Nat) (p:Pg) (h:K1 p) (hn:6000 < n):N7 n p=some (I4 p):=by
 have hl:=h.locs
 have ht:=h.threads
 have hc:=h.claims
 obtain⟨n,rfl⟩:∃ j,n=j+2:=⟨n - 2,by omega⟩
 have h1:Gt (n+1) p (n+1) 0=bif p.Ao.all Ov then some (.out ()) else some (.ret false):=by
  refine Ik p.Ao (fun q i=>Gt (n+1) p q (i:Int)) _ (fun q=>?_) (fun q i x hi hx=>?_) (by omega)
  ·rw[Gt,As (by omega)]
  ·have:=h.loc x (List.mem_of_getElem? hx)
   rw[Gt,Af (by omega),Bm hx,Option.bind_some,P4 (n+1) x.An (by omega) (by omega)]
   simp only[Option.bind_some,Aj5,B3 i (show i < 4611686018427387904 by omega)]
   unfold Ov
   by_cases c:0≤x.A8
   ·rw[As (by omega),decide_eq_true c];cases Ca x.An<;>cases Sa x.Cu<;>rfl
   ·rw[Af (by omega),decide_eq_false c];cases Ca x.An<;>cases Sa x.Cu<;>rfl
 have h2:Gy (n+1) p (n+1) 0=bif p.Ad.all M2 then some (.out ()) else some (.ret false):=by
  refine Ik p.Ad (fun q i=>Gy (n+1) p q (i:Int)) _ (fun q=>?_) (fun q i x hi hx=>?_) (by omega)
  ·rw[Gy,As (by omega)]
  ·have hb:=h.thr x (List.mem_of_getElem? hx)
   have:=hb.name
   have hrg:=hb.regs
   have hR:Gw (n+1) x (n+1) 0=bif x.B2.all Ca then some (.out ()) else some (.ret false):=by
    refine Ik x.B2 (fun q i=>Gw (n+1) x q (i:Int)) _ (fun q=>?_) (fun q i y hi hy=>?_) (by omega)
    ·rw[Gw,As (by omega)]
    ·have:=hb.reg y (List.mem_of_getElem? hy)
     rw[Gw,Af (by omega),Bm hy,Option.bind_some,P4 (n+1) y (by omega) (by omega),Option.bind_some,B3 i (by omega)]
   rw[Gy,Af (by omega),Bm hx,Option.bind_some,P4 (n+1) x.An (by omega) (by omega),Afz (n+1) x.Al (by have:=hb.body;omega) hb.st (by omega),hR]
   simp only[Option.bind_some,B3 i (show i < 4611686018427387904 by omega)]
   unfold M2
   by_cases c:0≤x.A8
   ·rw[As (by omega),decide_eq_true c];cases Ca x.An<;>cases Kw x.Al<;>cases x.B2.all Ca<;>rfl
   ·rw[Af (by omega),decide_eq_false c];cases Ca x.An<;>cases Kw x.Al<;>rfl
 have h3:Gl (n+1) p (n+1) 0=bif p.Aq.all Rc then some (.out ()) else some (.ret false):=by
  refine Ik p.Aq (fun q i=>Gl (n+1) p q (i:Int)) _ (fun q=>?_) (fun q i x hi hx=>?_) (by omega)
  ·rw[Gl,As (by omega)]
  ·rw[Gl,Af (by omega),Bm hx,Option.bind_some,Amu (n+1) x.B4 (h.cl x (List.mem_of_getElem? hx)) (by omega)]
   simp only[Option.bind_some,B3 i (show i < 4611686018427387904 by omega)]
   unfold Rc
   by_cases k1:x.Ac < 1
   ·rw[Af k1,decide_eq_false (show ¬ (1≤x.Ac∧x.Ac≤3) by omega)];cases clB x.B4<;>rfl
   by_cases k2:3 < x.Ac
   ·rw[As k1,Af k2,decide_eq_false (show ¬ (1≤x.Ac∧x.Ac≤3) by omega)];cases clB x.B4<;>rfl
   rw[As k1,As k2,decide_eq_true (show 1≤x.Ac∧x.Ac≤3 by omega)]
   by_cases c:0≤x.A8
   ·rw[As (show ¬ x.A8 < 0 by omega),decide_eq_true c];cases clB x.B4<;>cases Ey x.B4<;>rfl
   ·rw[Af (show x.A8 < 0 by omega),decide_eq_false c];cases clB x.B4<;>cases Ey x.B4<;>rfl
 rw[N7,Aj5,h1,h2,h3]
 unfold I4
 simp only[Option.bind_some]
 cases Sa p.Ay<;>cases p.Ao.all Ov<;>cases p.Ad.all M2<;>cases p.Aq.all Rc<;>rfl
end Go.Proofs.YtpnhafdimkmbbaaGreat
end
section
namespace Go.Proofs.YtpnhafdimkmbbaaGreat
set_option linter.unusedVariables false
set_option linter.unusedSimpArgs false
set_option maxRecDepth 10000
abbrev Ps:=Nat×Int×Int
def wr (l:List Tk) (s:Ps):Ps:=bif s.2.1==0 then(s.1,Jl l s.1,C7 l s.1) else s
def Aco (l:List Tk) (i:Nat) (w:List UInt8):Bool:=match l[i]? with
 | some t=>t.Ac==1&&t.Bt==w
 | none=>false
def Hx (w:List UInt8) (l:List Tk) (s:Ps):Bool:=s.2.1==0&&Aco l s.1 w
def sgF (w:List UInt8) (l:List Tk) (s:Ps):Ps:=bif s.2.1==0&&Bw l s.1 w then(s.1+1,s.2) else wr l s
def A1n (l:List Tk) (i:Nat):Int:=match l[i]? with | some t=>t.Cu | none=>0
def atA (l:List Tk) (i:Nat):Int:=match l[i]? with | some t=>t.A8 | none=>0
def nmF (l:List Tk) (s:Ps):List UInt8×Ps:=bif s.2.1==0&&isN l s.1 then(txt l s.1,(s.1+1,s.2)) else([],wr l s)
def nuF (l:List Tk) (s:Ps):Int×Ps:=bif s.2.1==0&&isK l s.1 then(A1n l s.1,(s.1+1,s.2)) else(0,wr l s)
def Rr (l:List Tk) (s:Ps):Va×Ps:=(⟨(nmF l (s.1+1,s.2)).1,(nuF l (sgF [61] l (nmF l (s.1+1,s.2)).2)).1,atA l s.1⟩,sgF [59] l (nuF l (sgF [61] l (nmF l (s.1+1,s.2)).2)).2)
def If (l:List Tk):Nat→Ps→List Va→List Va×Ps
 | 0,s,acc=>(acc,s)
 | k+1,s,acc=>bif Hx [108,111,99] l s then If l k (Rr l s).2 (acc++[(Rr l s).1]) else(acc,s)
def Iz (l:List Tk):Nat→Ps→List (List UInt8)→List (List UInt8)×Ps
 | 0,s,acc=>(acc,s)
 | k+1,s,acc=>bif s.2.1==0&&Bw l s.1 [44] then Iz l k (nmF l (s.1+1,s.2)).2 (acc++[(nmF l (s.1+1,s.2)).1]) else(acc,s)
open Classical in
noncomputable def seQ (l:List Tk) (i:Nat):A4i:=if h:∃ r,SE l false 0 i r then Wu l i h.choose else([],0,6,0)
open Classical in
noncomputable def peQ (l:List Tk) (i:Nat):List Nd×Int×Int×Int:=if h:∃ r,PE l (.fl 0) 0 i r then Q4 l i h.choose else([],0,6,0)
def faF (s:Int×Int) (e a:Int):Int×Int:=bif s.1==0 then bif e != 0 then(e,a) else s else s
def Ky (l:List Tk) (s:Ps):List (List UInt8)×Ps:=bif Hx [114,101,103] l s then((Iz l (l.length+2) (nmF l (s.1+1,s.2)).2 [(nmF l (s.1+1,s.2)).1]).1,sgF [59] l (Iz l (l.length+2) (nmF l (s.1+1,s.2)).2 [(nmF l (s.1+1,s.2)).1]).2) else([],s)
noncomputable def Lu (l:List Tk) (s:Ps):List St×Ps:=bif s.2.1==0 then((seQ l s.1).1,sgF [125] l ((seQ l s.1).2.1.toNat,faF s.2 (seQ l s.1).2.2.1 (seQ l s.1).2.2.2)) else([],sgF [125] l s)
noncomputable def Mx (l:List Tk) (s:Ps):Th×Ps:=(⟨(nmF l (s.1+1,s.2)).1,(Ky l (sgF [123] l (nmF l (s.1+1,s.2)).2)).1,(Lu l (Ky l (sgF [123] l (nmF l (s.1+1,s.2)).2)).2).1,atA l s.1⟩,(Lu l (Ky l (sgF [123] l (nmF l (s.1+1,s.2)).2)).2).2)
noncomputable def Iy (l:List Tk):Nat→Ps→List Th→List Th×Ps
 | 0,s,acc=>(acc,s)
 | k+1,s,acc=>bif Hx [116,104,114,101,97,100] l s then Iy l k (Mx l s).2 (acc++[(Mx l s).1]) else(acc,s)
def cwS:List (List UInt8):=[[],[102,111,114,97,108,108],[101,120,105,115,116,115],[97,108,119,97,121,115]]
def Mu (l:List Tk) (s:Ps):Int:=bif Hx [102,111,114,97,108,108] l s then 1 else bif Hx [101,120,105,115,116,115] l s then 2 else bif Hx [97,108,119,97,121,115] l s then 3 else 0
def L3 (x:Nd):Nd:=if x.Bg=2 then⟨3,x.Cu,x.An,x.Df,x.A8⟩ else x
noncomputable def clF (k:Int) (l:List Tk) (s:Ps):Cl×Ps:=(⟨k,(peQ l (s.1+1)).1.map L3,atA l s.1⟩,sgF [59] l (if(faF s.2 (peQ l (s.1+1)).2.2.1 (peQ l (s.1+1)).2.2.2).1=0 then(peQ l (s.1+1)).2.1.toNat else s.1+1,faF s.2 (peQ l (s.1+1)).2.2.1 (peQ l (s.1+1)).2.2.2))
noncomputable def M8 (l:List Tk):Nat→Ps→List Cl→List Cl×Ps
 | 0,s,acc=>(acc,s)
 | k+1,s,acc=>bif decide (0 < Mu l s) then M8 l k (clF (Mu l s) l s).2 (acc++[(clF (Mu l s) l s).1]) else(acc,s)
def noP:Pg:=⟨0,[],[],[]⟩
def K2 (l:List Tk):Int×Ps:=(fun r:Int×Ps=>(r.1,sgF [59] l r.2)) (nuF l (bif Hx [109,111,100] l (0,0,0) then(1,0,0) else wr l (0,0,0)))
def Xb (l:List Tk) (s:Ps):Ps:=bif decide (s.1 < l.length) then wr l s else s
noncomputable def Sr (l:List Tk):Pg×Int×Int :=
 (fun r:Int×Ps=>(fun v:List Va×Ps=>(fun t:List Th×Ps=>(fun c:List Cl×Ps=>(fun s:Ps=>bif s.2.1 != 0 then(noP,s.2) else(⟨r.1,v.1,t.1,c.1⟩,0,0)) (Xb l c.2)) (M8 l (l.length+2) t.2 [])) (Iy l (l.length+2) v.2 [])) (If l (l.length+2) r.2 [])) (K2 l)
noncomputable def Na (s:List UInt8):Pg×Int×Int:=bif (M1 s).err != 0 then(noP,(M1 s).err,((M1 s).at':Int)) else Sr (Vy s)
def D5 (l:List Tk) (s:Ps):Prop:=s.1≤l.length
theorem S8 (l:List Tk) (s:Ps):(wr l s).1=s.1:=by unfold wr;cases s.2.1==0<;>rfl
theorem Acy (l:List Tk) (s:Ps):(wr l s).2.1≠0:=by
 unfold wr
 cases h:s.2.1==0 with
 | true=>exact Yh l s.1
 | false=>rw[beq_eq_false_iff_ne] at h;exact h
theorem Abp {l:List Tk} {i:Nat} {w:List UInt8} (h:Bw l i w=true):i < l.length:=by
 unfold Bw at h
 cases hx:l[i]? with
 | none=>rw[hx] at h;cases h
 | some t=>exact(List.getElem?_eq_some_iff.1 hx).1
theorem Ajp {l:List Tk} {i:Nat} {w:List UInt8} (h:Aco l i w=true):i < l.length:=by
 unfold Aco at h
 cases hx:l[i]? with
 | none=>rw[hx] at h;cases h
 | some t=>exact(List.getElem?_eq_some_iff.1 hx).1
theorem Alh {l:List Tk} {i:Nat} (h:isK l i=true):i < l.length:=by
 unfold isK at h
 cases hx:l[i]? with
 | none=>rw[hx] at h;cases h
 | some t=>exact(List.getElem?_eq_some_iff.1 hx).1
theorem Al5 {l:List Tk} {i:Nat} (h:i < l.length):txt l i=l[i].Bt:=by unfold txt;rw[List.getElem?_eq_getElem h]
theorem Am3 {l:List Tk} {i:Nat} (h:i < l.length):A1n l i=l[i].Cu:=by unfold A1n;rw[List.getElem?_eq_getElem h]
theorem Ads {l:List Tk} {i:Nat} (h:i < l.length):atA l i=l[i].A8:=by unfold atA;rw[List.getElem?_eq_getElem h]
theorem N3 {w:List UInt8} {l:List Tk} {s:Ps} (h:D5 l s):D5 l (sgF w l s):=by
 unfold sgF
 cases c:s.2.1==0&&Bw l s.1 w with
 | true=>rw[Bool.and_eq_true] at c;have:=Abp c.2;exact this
 | false=>rw[cond_false];unfold D5;rw[S8];exact h
theorem A2j {w:List UInt8} {l:List Tk} {s:Ps}:((sgF w l s).1=s.1+1∧Bw l s.1 w=true∧s.2.1=0∧(sgF w l s).2=s.2)∨((sgF w l s).2.1≠0∧(sgF w l s).1=s.1):=by
 unfold sgF
 cases c:s.2.1==0&&Bw l s.1 w with
 | true=>rw[Bool.and_eq_true,beq_iff_eq] at c;exact .inl ⟨rfl,c.2,c.1,rfl⟩
 | false=>exact .inr ⟨Acy l s,S8 l s⟩
theorem A8o {l:List Tk} {s:Ps}:((nmF l s).2.1=s.1+1∧isN l s.1=true∧s.2.1=0∧(nmF l s).1=txt l s.1∧(nmF l s).2.2=s.2)∨((nmF l s).2.2.1≠0∧(nmF l s).2.1=s.1∧(nmF l s).1=[]):=by
 unfold nmF
 cases c:s.2.1==0&&isN l s.1 with
 | true=>rw[Bool.and_eq_true,beq_iff_eq] at c;exact .inl ⟨rfl,c.2,c.1,rfl,rfl⟩
 | false=>exact .inr ⟨Acy l s,S8 l s,rfl⟩
theorem A99 {l:List Tk} {s:Ps}:((nuF l s).2.1=s.1+1∧isK l s.1=true∧s.2.1=0∧(nuF l s).1=A1n l s.1∧(nuF l s).2.2=s.2)∨((nuF l s).2.2.1≠0∧(nuF l s).2.1=s.1):=by
 unfold nuF
 cases c:s.2.1==0&&isK l s.1 with
 | true=>rw[Bool.and_eq_true,beq_iff_eq] at c;exact .inl ⟨rfl,c.2,c.1,rfl,rfl⟩
 | false=>exact .inr ⟨Acy l s,S8 l s⟩
theorem T0 {l:List Tk} {s:Ps} (h:D5 l s):D5 l (nmF l s).2:=by
 rcases A8o (l:=l) (s:=s) with ⟨h1,h2,_⟩ | ⟨_,h2,_⟩
 ·unfold D5;rw[h1];have:=T6 h2;omega
 ·unfold D5;rw[h2];exact h
theorem Za {l:List Tk} {s:Ps} (h:D5 l s):D5 l (nuF l s).2:=by
 rcases A99 (l:=l) (s:=s) with ⟨h1,h2,_⟩ | ⟨_,h2⟩
 ·unfold D5;rw[h1];have:=Alh h2;omega
 ·unfold D5;rw[h2];exact h
theorem Uz (n:Nat) (l:List Tk) (s:Ps) (hl:l.length < 100000):Cq (n+3) l (s.1:Int) s.2.1 s.2.2=some ((wr l s).2.1,(wr l s).2.2):=by
 rw[Cq,Sh n l s.1 (by omega),Option.bind_some,wr]
 cases s.2.1==0<;>rfl
theorem Ry (n:Nat) (w:List UInt8) (l:List Tk) (s:Ps):E1 (n+1) w l (s.1:Int) s.2.1 s.2.2=some (Hx w l s):=by
 rw[E1,Hx,Aco]
 by_cases h:s.1 < l.length
 ·rw[Af (by omega),E3 h,List.getElem?_eq_getElem h]
  simp only[Option.bind_some]
  cases s.2.1==0<;>cases l[s.1].Ac==1<;>rfl
 ·rw[As (by omega),List.getElem?_eq_none (by omega)]
  cases s.2.1==0<;>rfl
theorem Pe (n:Nat) (w:List UInt8) (l:List Tk) (s:Ps) (hl:l.length < 100000) (hs:D5 l s):Bv (n+4) w l (s.1:Int) s.2.1 s.2.2=some (((sgF w l s).1:Int),(sgF w l s).2.1,(sgF w l s).2.2):=by
 unfold D5 at hs
 rw[Bv,Eo (n+2) w l s.1,Uz n l s hl,Option.bind_some,B3 s.1 (by omega),sgF]
 cases h:s.2.1==0 with
 | true =>
  cases Bw l s.1 w with
  | true=>rfl
  | false=>simp only[cond_true,cond_false,Option.bind_some,Bool.and_false,S8]
 | false=>simp only[cond_false,Option.bind_some,Bool.false_and,S8]
theorem A09 {T:Nat} {l:List Tk} (hk:Toks T l) (n:Nat) (s:Ps) (hs:D5 l s) (hn:T+70≤n):Ej n l (s.1:Int) s.2.1 s.2.2=some ((nmF l s).1,((nmF l s).2.1:Int),(nmF l s).2.2.1,(nmF l s).2.2.2):=by
 unfold D5 at hs
 have hl:=hk.len
 obtain⟨n,rfl⟩:∃ j,n=j+4:=⟨n - 4,by omega⟩
 have w:IntKind.i64.wrap (IntKind.i64.wrap ((s.1:Int)+1) - 1)=(s.1:Int):=by
  rw[C1 (show -9223372036854775808≤(s.1:Int)+1∧_ by omega),C1 (by omega)];omega
 rw[Ej,A1h hk (by omega),Uz n l s hl,Option.bind_some,w,B3 s.1 (by omega),nmF]
 cases h:s.2.1==0 with
 | true =>
  cases hn:isN l s.1 with
  | true =>
   have:=T6 hn
   rw[E3 this,Option.bind_some,Al5 this];rfl
  | false=>simp only[cond_true,cond_false,Option.bind_some,Bool.and_false,S8]
 | false=>simp only[cond_false,Option.bind_some,Bool.false_and,S8]
theorem A84 (n:Nat) (l:List Tk) (s:Ps) (hl:l.length < 100000) (hs:D5 l s):Eh (n+4) l (s.1:Int) s.2.1 s.2.2=some ((nuF l s).1,((nuF l s).2.1:Int),(nuF l s).2.2.1,(nuF l s).2.2.2):=by
 unfold D5 at hs
 have w:IntKind.i64.wrap (IntKind.i64.wrap ((s.1:Int)+1) - 1)=(s.1:Int):=by
  rw[C1 (show -9223372036854775808≤(s.1:Int)+1∧_ by omega),C1 (by omega)];omega
 rw[Eh,Uz n l s hl,Option.bind_some,w,B3 s.1 (by omega),nuF,isK]
 cases h:s.2.1==0 with
 | true =>
  by_cases hx:s.1 < l.length
  ·rw[Af (by omega),E3 hx,List.getElem?_eq_getElem hx,Am3 hx]
   simp only[Option.bind_some]
   cases l[s.1].Ac==2 with
   | true=>rfl
   | false=>simp only[cond_true,cond_false,Option.bind_some,Bool.and_false,S8]
  ·rw[As (by omega),List.getElem?_eq_none (by omega)]
   simp only[cond_true,cond_false,Option.bind_some,Bool.and_false,S8]
 | false=>simp only[cond_false,Option.bind_some,Bool.false_and,S8]
theorem P7 {l:List Tk} {w:List UInt8} {s:Ps} (h:Hx w l s=true):s.1 < l.length∧s.2.1=0:=by
 rw[Hx,Bool.and_eq_true,beq_iff_eq] at h;exact⟨Ajp h.2,h.1⟩
def Pa (l:List Tk) (s:Ps):Nat:=bif s.2.1==0 then l.length - s.1+1 else 0
theorem A00 {l:List Tk} {s t:Ps} (h0:s.2.1=0) (hs:D5 l s) (h:t.2.1≠0∨s.1 < t.1) (ht:D5 l t):Pa l t < Pa l s:=by
 unfold Pa D5 at *
 rw[h0]
 cases hc:t.2.1==0 with
 | true =>
  rw[beq_iff_eq] at hc
  rcases h with h | h
  ·exact absurd hc h
  ·show l.length - t.1+1 < l.length - s.1+1;omega
 | false=>show 0 < l.length - s.1+1;omega
theorem Ox {l:List Tk} {s:Ps}:Pa l s≤l.length+1:=by unfold Pa;cases s.2.1==0<;>simp<;>omega
theorem Xo {w:List UInt8} {l:List Tk} {s:Ps}:s.1≤(sgF w l s).1:=by rcases A2j (w:=w) (l:=l) (s:=s) with ⟨h,_⟩ | ⟨_,h⟩<;>omega
theorem Sd {l:List Tk} {s:Ps}:s.1≤(nmF l s).2.1:=by rcases A8o (l:=l) (s:=s) with ⟨h,_⟩ | ⟨_,h,_⟩<;>omega
theorem Ahr {l:List Tk} {s:Ps}:s.1≤(nuF l s).2.1:=by rcases A99 (l:=l) (s:=s) with ⟨h,_⟩ | ⟨_,h⟩<;>omega
theorem Akv {l:List Tk} {s:Ps} (h:s.1 < l.length):D5 l (Rr l s).2∧s.1 < (Rr l s).2.1:=by
 have a1:D5 l (nmF l (s.1+1,s.2)).2:=T0 h
 have a2:=N3 (w:=[61]) a1
 have a3:=Za a2
 have b1:=Sd (l:=l) (s:=(s.1+1,s.2))
 have b2:=Xo (w:=[61]) (l:=l) (s:=(nmF l (s.1+1,s.2)).2)
 have b3:=Ahr (l:=l) (s:=sgF [61] l (nmF l (s.1+1,s.2)).2)
 have b4:=Xo (w:=[59]) (l:=l) (s:=(nuF l (sgF [61] l (nmF l (s.1+1,s.2)).2)).2)
 refine⟨N3 a3,?_⟩
 unfold Rr
 dsimp only at b1 ⊢
 omega
theorem Afc {T:Nat} {l:List Tk} (hk:Toks T l) (n:Nat) (y:List Tk×Int×Int) (hy:y.1=l) (hn:T+70≤n):∀ (m k K:Nat) (s:Ps) (acc:List Va),D5 l s→Pa l s≤m→m < k→m < K→acc.length≤s.1 →
 Gx n y k (s.1:Int) s.2.1 s.2.2 acc=some (.out (((If l K s acc).2.1:Int),(If l K s acc).2.2.1,(If l K s acc).2.2.2,(If l K s acc).1))∧Gn n y k (s.1:Int) s.2.1 s.2.2 acc=some (.out (((If l K s acc).2.1:Int),(If l K s acc).2.2.1,(If l K s acc).2.2.2,(If l K s acc).1))∧D5 l (If l K s acc).2∧(If l K s acc).1.length≤(If l K s acc).2.1:=by
 subst hy
 have hl:=hk.len
 intro m
 induction m with
 | zero =>
  intro k K s acc hs hm hk' hK ha
  obtain⟨k,rfl⟩:∃ j,k=j+1:=⟨k - 1,by omega⟩
  obtain⟨K,rfl⟩:∃ j,K=j+1:=⟨K - 1,by omega⟩
  obtain⟨n,rfl⟩:∃ j,n=j+1:=⟨n - 1,by omega⟩
  have:Hx [108,111,99] y.1 s=false:=by
   unfold Pa at hm
   cases hc:s.2.1==0 with
   | true=>rw[hc] at hm;exact absurd hm (by show ¬ y.1.length - s.1+1≤0;omega)
   | false=>unfold Hx;rw[hc];rfl
  rw[Gx,Gn,Ry,If,this];exact⟨rfl,rfl,hs,ha⟩
 | succ m ih =>
  intro k K s acc hs hm hk' hK ha
  obtain⟨k,rfl⟩:∃ j,k=j+1:=⟨k - 1,by omega⟩
  obtain⟨K,rfl⟩:∃ j,K=j+1:=⟨K - 1,by omega⟩
  obtain⟨n,rfl⟩:∃ j,n=j+4:=⟨n - 4,by omega⟩
  rw[Gx,Gn,Ry (n+3),If]
  cases hc:Hx [108,111,99] y.1 s with
  | false=>exact⟨rfl,rfl,hs,ha⟩
  | true =>
   obtain⟨h1,h2⟩:=P7 hc
   obtain⟨v1,v2⟩:=Akv (s:=s) h1
   have a1:D5 y.1 (nmF y.1 (s.1+1,s.2)).2:=T0 h1
   have a2:=N3 (w:=[61]) a1
   have a3:=Za a2
   have e1:=A09 hk (n+4) (s.1+1,s.2) h1 (by omega)
   dsimp only at e1
   simp only[Option.bind_some,cond_true,E3 h1,B3 s.1 (show s.1 < 4611686018427387904 by unfold D5 at hs;omega),e1]
   rw[Pe n [61] y.1 _ hl a1,Option.bind_some,Option.bind_some]
   dsimp only
   rw[A84 n y.1 _ hl a2,Option.bind_some,Option.bind_some]
   dsimp only
   rw[Pe n [59] y.1 _ hl a3,Option.bind_some,Option.bind_some,Af (by unfold D5 at hs;omega),Af (by unfold D5 at hs;omega)]
   have:=ih k K (Rr y.1 s).2 (acc++[(Rr y.1 s).1]) v1 (by have:=A00 (t:=(Rr y.1 s).2) h2 hs (.inr v2) v1;omega) (by omega) (by omega) (by simp;omega)
   have hv:Rr y.1 s=(⟨(nmF y.1 (s.1+1,s.2)).1,(nuF y.1 (sgF [61] y.1 (nmF y.1 (s.1+1,s.2)).2)).1,y.1[s.1].A8⟩,sgF [59] y.1 (nuF y.1 (sgF [61] y.1 (nmF y.1 (s.1+1,s.2)).2)).2):=by unfold Rr;rw[Ads h1]
   rw[hv] at this
   rw[hv]
   exact this
end Go.Proofs.YtpnhafdimkmbbaaGreat
end
section
namespace Go.Proofs.YtpnhafdimkmbbaaGreat
set_option linter.unusedVariables false
set_option linter.unusedSimpArgs false
set_option maxRecDepth 10000
structure TokB (B T:Nat) (l:List Tk):Prop where
 toks:Toks T l
 small:B < 1000000
 at':∀ t ∈ l,Tj t∧t.A8+t.Bt.length≤B
def Nt (B:Nat) (x:Nd):Prop:=0≤x.A8∧x.A8≤B
def A83 (B:Nat) (x:St):Prop:=(0≤x.A8∧x.A8≤B)∧(∀ y ∈ x.B4,Nt B y)∧∀ y ∈ x.Bd,Nt B y
theorem TokB.tk {B T:Nat} {l:List Tk} (h:TokB B T l) {i:Nat} {t:Tk} (e:l[i]?=some t):0≤t.A8∧t.A8≤B:=by
 have:=h.at' t (List.mem_of_getElem? e);have:=this.1.1;omega
theorem Aj2 {B T:Nat} {l:List Tk} (hl:TokB B T l) {md:Md} {inn i:Nat} {r:PR} (h:PE l md inn i r):match md,r with
 | .fl _,.ok x _=>∀ y ∈ x,Nt B y
 | .lp _ x0,.ok x _=>(∀ y ∈ x0,Nt B y)→∀ y ∈ x,Nt B y
 | _,_=>True:=by
 have bin:∀ {op:Int} {t:Tk} {i:Nat} {x y:List Nd},l[i]?=some t→(∀ z ∈ x,Nt B z)→(∀ z ∈ y,Nt B z)→∀ z ∈ (⟨op,0,[],[],t.A8⟩:Nd) :: (x++y),Nt B z:=by
  intro op t i x y ht hx hy z hz
  rcases List.mem_cons.1 hz with rfl | hz
  ·exact hl.tk ht
  ·rcases List.mem_append.1 hz with hz | hz
   ·exact hx z hz
   ·exact hy z hz
 induction h with
 | deep h1 h2 h3=>trivial
 | @not_ok inn i tu t x h1 h2 h3 h4 ih =>
  intro z hz
  rcases List.mem_cons.1 hz with rfl | hz
  ·exact hl.tk h3
  ·exact ih z hz
 | not_bad h1 h2 h4 ih=>trivial
 | par_ok h1 h2 h3 h4 ih=>exact ih
 | par_bad h1 h2 h4 ih=>trivial
 | par_open h1 h2 h3 h4 ih=>trivial
 | @num inn i t h1 h2=>intro z hz;rw[List.mem_singleton.1 hz];exact hl.tk h2
 | @reg inn i t h1 h2 h3=>intro z hz;rw[List.mem_singleton.1 hz];exact hl.tk h3
 | @of inn i t u h1 h2 h3 h4 h5=>intro z hz;rw[List.mem_singleton.1 hz];exact hl.tk h4
 | of_bad h1 h2 h3=>trivial
 | no h1 h2 h3 h4=>trivial
 | fl_bad h1 h2 ih=>trivial
 | @fl_ok f inn i tu x r h1 h2 h3 ih1 ih2 =>
  cases r with
  | ok y to2=>exact ih2 ih1
  | bad e a=>trivial
 | lp_stop h1=>exact id
 | lp_bad h1 h2 h3 ih=>trivial
 | lp_once h1 h2 h3 ih=>exact fun hx=>bin h2 hx ih
 | @lp_go f inn i tu x y t r h1 h2 h3 h4 h5 h6 ih1 ih2 =>
  cases r with
  | ok y to2=>exact fun hx=>ih2 (bin h4 hx ih1)
  | bad e a=>trivial
theorem Am5 {B T:Nat} {l:List Tk} (hl:TokB B T l) {i tu:Nat} {x:List Nd} (hi:i≤l.length) (h:exQ l i=.ok x tu):∀ y ∈ x,Nt B y:=by
 obtain⟨r,hr,e⟩:=Yy hl.toks hi
 rw[h] at e
 cases r with
 | bad e' a=>simp only[N6] at e;cases e
 | ok y tv =>
  simp only[N6] at e
  split at e
  ·cases e
  ·split at e
   ·cases e
   ·split at e
    ·cases e;exact Aj2 hl hr
    ·cases e
def A9y (B:Nat) (s:Fs):Prop:=(∀ y ∈ s.e,Nt B y)∧∀ y ∈ s.f,Nt B y
def Ur (B:Nat):FR→Prop
 | .ok s _=>A9y B s
 | .bad _ _=>True
theorem Zv {B T:Nat} {l:List Tk} (hl:TokB B T l):∀ (cs:List UInt8) (i:Nat) (s s':Fs) (j:Nat),i≤l.length→A9y B s→Ix l (exQ l) cs i s=.ok s' j→A9y B s'
 | [],i,s,s',j,hi,hs,h=>by rw[Ix] at h;cases h;exact hs
 | c :: cs,i,s,s',j,hi,hs,h=>by
  have h1:=Xt hl.toks (c:=c) (s:=s) hi
  have hex:match exQ l i with | .ok x _=>∀ y ∈ x,Nt B y | .bad _ _=>True:=by
   cases hx:exQ l i with
   | ok x tu=>exact Am5 hl hi hx
   | bad e a=>trivial
  have hst0:Ur B (J0 l (exQ l) c i s):=by
   unfold J0
   refine Ed (Q:=Ur B) (fun _=>Ed (Q:=Ur B) (fun _=>hs) fun _=>trivial) fun _=>Ed (Q:=Ur B) (fun _=>Ed (Q:=Ur B) (fun _=>hs) fun _=>trivial) fun _=>Ed (Q:=Ur B) (fun _=>?_) fun _=>Ed (Q:=Ur B) (fun _=>?_) fun _=>Ed (Q:=Ur B) (fun _=>Ed (Q:=Ur B) (fun _=>hs) fun _=>Ed (Q:=Ur B) (fun _=>hs) fun _=>trivial) fun _=>Ed (Q:=Ur B) (fun _=>hs) fun _=>trivial
   ·revert hex;cases exQ l i with
    | ok x tu=>intro h;exact⟨h,hs.2⟩
    | bad e a=>intro h;trivial
   ·revert hex;cases exQ l i with
    | ok x tu=>intro h;exact⟨hs.1,h⟩
    | bad e a=>intro h;trivial
  have hst:∀ s2 j2,J0 l (exQ l) c i s=.ok s2 j2→A9y B s2:=fun s2 j2 h=>by rw[h] at hst0;exact hst0
  rw[Ix] at h
  clear hst0
  revert h h1 hst
  cases J0 l (exQ l) c i s with
  | bad e a=>intro h _ _;cases h
  | ok s2 j2=>intro h h1 hst;exact Zv hl cs j2 s2 s' j h1.2 (hst s2 j2 rfl) h
def Ai9 (B:Nat):SR→Prop
 | .ok x _=>∀ y ∈ x,A83 B y
 | .bad _ _=>True
theorem A3u {B:Nat} {x:List St} {r:SR} (h:∀ y ∈ x,A83 B y) (hr:Ai9 B r):Ai9 B (U8 x r):=by
 cases r with
 | ok z tu=>intro y hy;rcases List.mem_append.1 hy with hy | hy;exact h y hy;exact hr y hy
 | bad e a=>trivial
theorem Ams {B T:Nat} {l:List Tk} (hl:TokB B T l) {md:Bool} {inn i:Nat} {r:SR} (h:SE l md inn i r):i≤l.length→Ai9 B r:=by
 have hk:=hl.toks
 have pl:=fun i=>Kg hl.small hl.at' i
 have s0:A9y B fs0:=⟨fun y hy=>(by cases hy),fun y hy=>(by cases hy)⟩
 induction h with
 | stop h=>intro hi y hy;cases hy
 | no h1 h2 h3=>intro hi;trivial
 | fbad h1 h2=>intro hi;trivial
 | @simple inn i j s r h1 h2 h3 h4 ih =>
  intro hi
  have h5:=Gv hk (Ct h1) h3
  have h6:=Zv hl _ _ _ _ _ (Ct h1) s0 h3
  exact A3u (fun y hy=>by rw[List.mem_singleton] at hy;subst hy;exact⟨pl i,h6.1,h6.2⟩) (ih h5.2)
 | bbad h1 h2 h3 h4 ih=>intro hi;trivial
 | @blk inn i j j2 s b r h1 h2 h3 h4 h5 h6 ih1 ih2 =>
  intro hi
  have h7:=Gv hk (Ct h1) h3
  have h9:=Zv hl _ _ _ _ _ (Ct h1) s0 h3
  have h8:=Ll hk h4 h7.2
  simp only[Ml,if_true] at h8
  exact A3u (fun y hy=>by
   rcases List.mem_cons.1 hy with rfl | hy
   ·exact⟨pl i,h9.1,h9.2⟩
   ·exact ih1 h7.2 y hy) (ih2 h8.2.1)
 | ebad h1 h3 h4 h5 h6 ih1 ih2=>intro hi;trivial
 | @els inn i j j2 j3 s b c r h1 h3 h4 h5 h6 h7 ih1 ih2 ih3 =>
  intro hi
  have h0:Bi l i≠0:=by omega
  have h8:=Gv hk (Ct h0) h3
  have h9:=Zv hl _ _ _ _ _ (Ct h0) s0 h3
  have hj:=Lr h5
  have h11:=Ll hk h6 hj
  simp only[Ml,if_true] at h11
  exact A3u (fun y hy=>by
   rcases List.mem_cons.1 hy with rfl | hy
   ·exact⟨pl i,h9.1,h9.2⟩
   ·rcases List.mem_append.1 hy with hy | hy
    ·exact ih1 h8.2 y hy
    ·exact ih2 hj y hy) (ih3 h11.2.1)
 | nob h=>intro hi;trivial
 | deep h1 h2=>intro hi;trivial
 | sbad h1 h2 h3 ih=>intro hi;trivial
 | close h1 h2 h3 h4 ih=>intro hi;exact ih (E5 h1)
 | opn h1 h2 h3 h4 ih=>intro hi;trivial
theorem Ae1 {T:Nat} {l:List Tk} (hk:Toks T l) {n i:Nat} {r:SR} (hr:SE l false 0 i r) (hi:i≤l.length) (hn:12*l.length+T+900+6*l.length+60≤n):Io n l (i:Int)=some (Wu l i r):=by
 have hl:=hk.len
 obtain⟨n,rfl⟩:∃ j,n=j+20:=⟨n - 20,by omega⟩
 have h:=Amv hk hr hi (by omega) (n+18) (n+18) [] (by omega) (by omega) (by simp)
 rw[Io,As (by omega),As (by omega)]
 have g3:A3z r [] (Ei (n+19) l (i:Int) 0):=by rw[Ei];exact h
 cases r with
 | bad e a =>
  have hne:e≠0:=Ll hk hr hi
  have g3:Ei (n+19) l (i:Int) 0=some ([],0,e,a):=g3
  rw[g3,Option.bind_some]
  dsimp only
  rw[show(e != 0)=true by rw[bne_iff_ne];exact hne,cond_true];rfl
 | ok x tu =>
  have g3:Ei (n+19) l (i:Int) 0=some (x,(tu:Int),0,0):=g3
  rw[g3,Option.bind_some]
  dsimp only
  rw[bne_self_eq_false,cond_false]
  simp only[Wu]
  by_cases c:200 < x.length
  ·rw[if_pos c,Af (by omega),A4q (n+18) l i (by omega)];rfl
  ·rw[if_neg c,As (by omega)]
theorem A7l {T:Nat} {l:List Tk} (hk:Toks T l) {i:Nat} (hi:i≤l.length):∃ r,SE l false 0 i r∧seQ l i=Wu l i r:=by
 have h:∃ r,SE l false 0 i r:=Ail hk l.length i 0 false (by omega) hi (by omega)
 exact⟨h.choose,h.choose_spec,by unfold seQ;rw[dif_pos h]⟩
theorem A9j {T:Nat} {l:List Tk} (hk:Toks T l) {i:Nat} (hi:i≤l.length):∃ r,PE l (.fl 0) 0 i r∧peQ l i=Q4 l i r:=by
 have h:∃ r,PE l (.fl 0) 0 i r:=A9o l.length i 0 0 (by omega) hi (by omega) (by omega)
 exact⟨h.choose,h.choose_spec,by unfold peQ;rw[dif_pos h]⟩
theorem An7 {T:Nat} {l:List Tk} (hk:Toks T l) {n i:Nat} (hi:i≤l.length) (hn:18*l.length+T+960≤n):Io n l (i:Int)=some (seQ l i):=by
 obtain⟨r,hr,e⟩:=A7l hk hi
 rw[e];exact Ae1 hk hr hi (by omega)
theorem Amr {T:Nat} {l:List Tk} (hk:Toks T l) {n i:Nat} (hi:i≤l.length) (hn:12*l.length+T+200≤n):Jv n l (i:Int)=some (peQ l i):=by
 obtain⟨r,hr,e⟩:=A9j hk hi
 rw[e];exact A5m hk.len hk.ok hk.txt hk.small hr hi hn
theorem A9k {T:Nat} {l:List Tk} (hk:Toks T l) {i:Nat} (hi:i≤l.length):((seQ l i).2.2.1≠0∧(seQ l i).1=[]∧(seQ l i).2.1=0)∨(∃ tu:Nat,(seQ l i).2=((tu:Int),0,0)∧i≤tu∧tu≤l.length∧Kw (seQ l i).1=true∧(seQ l i).1.length≤200):=by
 obtain⟨r,hr,e⟩:=A7l hk hi
 rw[e]
 have hok:=Ll hk hr hi
 have htr:=Ak1 hk hr hi (by omega)
 cases r with
 | bad e a=>exact .inl ⟨hok,rfl,rfl⟩
 | ok x tu =>
  simp only[Wu]
  by_cases c:200 < x.length
  ·rw[if_pos c];exact .inl ⟨(by decide:(2:Int)≠0),rfl,rfl⟩
  ·rw[if_neg c]
   simp only[Ml,Bool.false_eq_true,if_false] at hok
   refine .inr ⟨tu,rfl,by omega,hok.2.1,?_,(show x.length≤200 by omega)⟩
   simp only[Bool.false_eq_true,if_false] at htr
   obtain⟨F,f1,f2,f3,f4⟩:=htr
   subst f2
   exact Acw f1 (by omega) (by omega) f4
theorem Al1 {B T:Nat} {l:List Tk} (hl:TokB B T l) {i:Nat} (hi:i≤l.length):(∀ x ∈ (seQ l i).1,A83 B x)∧0≤(seQ l i).2.2.2∧(seQ l i).2.2.2≤B:=by
 obtain⟨r,hr,e⟩:=A7l hl.toks hi
 rw[e]
 have h1:=Ams hl hr hi
 have h2:=Alk hl.toks hl.small hl.at' hr hi
 have pl:=Kg hl.small hl.at' i
 cases r with
 | bad e a=>exact⟨fun x hx=>(by cases hx),h2.1,h2.2⟩
 | ok x tu =>
  simp only[Wu]
  by_cases c:200 < x.length
  ·rw[if_pos c];exact⟨fun x hx=>(by cases hx),pl.1,pl.2⟩
  ·rw[if_neg c];exact⟨h1,(by decide:(0:Int)≤0),by dsimp only;omega⟩
theorem A1b {T:Nat} {l:List Tk} (hk:Toks T l) {i:Nat} (hi:i≤l.length):((peQ l i).2.2.1≠0∧(peQ l i).1=[]∧(peQ l i).2.1=0)∨(∃ tu:Nat,(peQ l i).2=((tu:Int),0,0)∧i < tu∧tu≤l.length∧O1 (peQ l i).1∧Ey (peQ l i).1=true):=by
 obtain⟨r,hr,e⟩:=A9j hk hi
 rw[e]
 rcases A5b hr hi with ⟨e',a,h1,h2,_⟩ | ⟨x,tu,h1,h2,h3,h4⟩
 ·rw[h1];exact .inl ⟨h2,rfl,rfl⟩
 ·subst h1
  have hok:=M4 hr hi
  have hg:=A03 hk.ok hr
  dsimp only at hok hg
  obtain⟨_,_,_,_,_,h5⟩:=Vc hg h3 h4
  rw[h2];exact .inr ⟨tu,rfl,hok.1,hok.2.1,hg,h5⟩
theorem Alo {B T:Nat} {l:List Tk} (hl:TokB B T l) {i:Nat} (hi:i≤l.length):(∀ x ∈ (peQ l i).1,Nt B x)∧0≤(peQ l i).2.2.2∧(peQ l i).2.2.2≤B:=by
 obtain⟨r,hr,e⟩:=A9j hl.toks hi
 rw[e]
 have pl:=Kg hl.small hl.at' i
 rcases A5b hr hi with ⟨e',a,h1,h2,h3⟩ | ⟨x,tu,h1,h2,h3,h4⟩
 ·rw[h1]
  refine⟨fun x hx=>(by cases hx),?_⟩
  rcases h3 with h3 | h3
  ·rw[h3] at hr;exact A5a hl.small hl.at' hr
  ·rw[h3];exact pl
 ·subst h1
  rw[h2];exact⟨Aj2 hl hr,(by decide:(0:Int)≤0),by dsimp only;omega⟩
end Go.Proofs.YtpnhafdimkmbbaaGreat
end
section
namespace Go.Proofs.YtpnhafdimkmbbaaGreat
set_option linter.unusedVariables false
set_option linter.unusedSimpArgs false
set_option maxRecDepth 10000
theorem A3v (n:Nat) (e' a':Int) (l:List Tk) (i:Int) (e a:Int):E8 (n+1) e' a' l i e a=some ((faF (e,a) e' a').1,(faF (e,a) e' a').2):=by
 rw[E8,faF]
 cases e==0<;>cases e' != 0<;>rfl
theorem Aaf {T:Nat} {l:List Tk} (hk:Toks T l) (n:Nat) (hn:T+70≤n):∀ (m k K:Nat) (s:Ps) (acc:List (List UInt8)),D5 l s→Pa l s≤m→m < k→m < K→acc.length≤s.1+1 →
 E9 n l k (s.1:Int) s.2.1 s.2.2 acc=some (.out (((Iz l K s acc).2.1:Int),(Iz l K s acc).2.2.1,(Iz l K s acc).2.2.2,(Iz l K s acc).1))∧D5 l (Iz l K s acc).2∧s.1≤(Iz l K s acc).2.1:=by
 have hl:=hk.len
 intro m
 induction m with
 | zero =>
  intro k K s acc hs hm hk' hK ha
  obtain⟨k,rfl⟩:∃ j,k=j+1:=⟨k - 1,by omega⟩
  obtain⟨K,rfl⟩:∃ j,K=j+1:=⟨K - 1,by omega⟩
  have:(s.2.1==0)=false:=by
   unfold Pa at hm
   cases hc:s.2.1==0 with
   | true=>rw[hc] at hm;exact absurd hm (by show ¬ l.length - s.1+1≤0;omega)
   | false=>rfl
  rw[E9,Iz,this];exact⟨rfl,hs,Nat.le_refl _⟩
 | succ m ih =>
  intro k K s acc hs hm hk' hK ha
  obtain⟨k,rfl⟩:∃ j,k=j+1:=⟨k - 1,by omega⟩
  obtain⟨K,rfl⟩:∃ j,K=j+1:=⟨K - 1,by omega⟩
  obtain⟨n,rfl⟩:∃ j,n=j+1:=⟨n - 1,by omega⟩
  rw[E9,Iz,Eo]
  cases hc:s.2.1==0 with
  | false=>exact⟨rfl,hs,Nat.le_refl _⟩
  | true =>
   rw[cond_true,Option.bind_some]
   cases hg:Bw l s.1 [44] with
   | false=>exact⟨rfl,hs,Nat.le_refl _⟩
   | true =>
    rw[beq_iff_eq] at hc
    have h1:=Abp hg
    have a1:D5 l (nmF l (s.1+1,s.2)).2:=T0 h1
    have b1:=Sd (l:=l) (s:=(s.1+1,s.2))
    have e1:=A09 hk (n+1) (s.1+1,s.2) h1 (by omega)
    dsimp only at e1 b1
    rw[B3 s.1 (by omega),e1,cond_true,Option.bind_some,Af (by unfold D5 at hs;omega)]
    have:=ih k K (nmF l (s.1+1,s.2)).2 (acc++[(nmF l (s.1+1,s.2)).1]) a1 (by have:=A00 (t:=(nmF l (s.1+1,s.2)).2) hc hs (.inr (by omega)) a1;omega) (by omega) (by omega) (by simp;omega)
    exact⟨this.1,this.2.1,Nat.le_trans (by omega) this.2.2⟩
theorem Abt {T:Nat} {l:List Tk} (hk:Toks T l) {s:Ps} (hs:D5 l s):D5 l (Ky l s).2∧s.1≤(Ky l s).2.1:=by
 unfold Ky
 cases hc:Hx [114,101,103] l s with
 | false=>exact⟨hs,Nat.le_refl _⟩
 | true =>
  obtain⟨h1,h2⟩:=P7 hc
  have a1:D5 l (nmF l (s.1+1,s.2)).2:=T0 h1
  have b1:=Sd (l:=l) (s:=(s.1+1,s.2))
  obtain⟨_,r2,r3⟩:=Aaf hk (T+70) (Nat.le_refl _) (l.length+1) (l.length+2) (l.length+2) (nmF l (s.1+1,s.2)).2 [(nmF l (s.1+1,s.2)).1] a1 Ox (by omega) (by omega) (by simp)
  have b2:=Xo (w:=[59]) (l:=l) (s:=(Iz l (l.length+2) (nmF l (s.1+1,s.2)).2 [(nmF l (s.1+1,s.2)).1]).2)
  dsimp only at b1
  refine⟨N3 r2,?_⟩
  show s.1≤(sgF [59] l (Iz l (l.length+2) (nmF l (s.1+1,s.2)).2 [(nmF l (s.1+1,s.2)).1]).2).1
  omega
theorem Aep {T:Nat} {l:List Tk} (hk:Toks T l) {i:Nat} (hi:i≤l.length):((seQ l i).2.1.toNat:Int)=(seQ l i).2.1∧(seQ l i).2.1.toNat≤l.length∧((seQ l i).2.2.1=0→i≤(seQ l i).2.1.toNat):=by
 rcases A9k hk hi with ⟨h0,_,h⟩ | ⟨tu,h,h2,h3,_⟩
 ·rw[h];exact⟨rfl,by simp,fun e=>absurd e h0⟩
 ·rw[h];exact⟨by simp,by simp;omega,fun _=>by simp;omega⟩
theorem Al4 {T:Nat} {l:List Tk} (hk:Toks T l) {i:Nat} (hi:i≤l.length):((peQ l i).2.1.toNat:Int)=(peQ l i).2.1∧(peQ l i).2.1.toNat≤l.length∧((peQ l i).2.2.1=0→i < (peQ l i).2.1.toNat):=by
 rcases A1b hk hi with ⟨h0,_,h⟩ | ⟨tu,h,h2,h3,_⟩
 ·rw[h];exact⟨rfl,by simp,fun e=>absurd e h0⟩
 ·rw[h];exact⟨by simp,by simp;omega,fun _=>by simp;omega⟩
theorem A1u {w:List UInt8} {l:List Tk} {s:Ps} (h:s.2.1≠0):(sgF w l s).2.1≠0:=by
 rcases A2j (w:=w) (l:=l) (s:=s) with ⟨_,_,h0,_⟩ | ⟨h1,_⟩
 ·exact absurd h0 h
 ·exact h1
theorem Zr {s:Int×Int} {e a:Int} (h:e≠0):(faF s e a).1≠0:=by
 unfold faF
 cases hc:s.1==0 with
 | true=>rw[cond_true,bne_iff_ne.2 h];exact h
 | false=>rw[cond_false];rw[beq_eq_false_iff_ne] at hc;exact hc
theorem Akn {T:Nat} {l:List Tk} (hk:Toks T l) {s:Ps} (hs:D5 l s):D5 l (Lu l s).2∧((Lu l s).2.2.1≠0∨s.1 < (Lu l s).2.1):=by
 unfold Lu
 cases hc:s.2.1==0 with
 | true =>
  rw[cond_true]
  obtain⟨h1,h2,h3⟩:=Aep hk hs
  refine⟨N3 h2,?_⟩
  by_cases e:(seQ l s.1).2.2.1=0
  ·have:=h3 e
   rcases A2j (w:=[125]) (l:=l) (s:=((seQ l s.1).2.1.toNat,faF s.2 (seQ l s.1).2.2.1 (seQ l s.1).2.2.2)) with ⟨g1,_⟩ | ⟨g1,_⟩
   ·right;dsimp only at g1 ⊢;omega
   ·exact .inl g1
  ·exact .inl (A1u (Zr e))
 | false =>
  rw[beq_eq_false_iff_ne] at hc
  exact⟨N3 hs,.inl (A1u hc)⟩
theorem Agw {T:Nat} {l:List Tk} (hk:Toks T l) (n:Nat) (s:Ps) (h1:s.1 < l.length) (hn:18*l.length+T+1000≤n) :
 Gz n l (s.1:Int) s.2.1 s.2.2=some ((Mx l s).1,((Mx l s).2.1:Int),(Mx l s).2.2.1,(Mx l s).2.2.2)∧D5 l (Mx l s).2∧((Mx l s).2.2.1≠0∨s.1 < (Mx l s).2.1):=by
 have hl:=hk.len
 obtain⟨n,rfl⟩:∃ j,n=j+5:=⟨n - 5,by omega⟩
 have a1:D5 l (nmF l (s.1+1,s.2)).2:=T0 h1
 have b1:=Sd (l:=l) (s:=(s.1+1,s.2))
 have a2:=N3 (w:=[123]) a1
 have b2:=Xo (w:=[123]) (l:=l) (s:=(nmF l (s.1+1,s.2)).2)
 obtain⟨a3,b3⟩:=Abt hk a2
 obtain⟨a4,b4⟩:=Akn hk a3
 dsimp only at b1
 refine⟨?_,a4,b4.imp id (fun h=>by unfold Mx;dsimp only;omega)⟩
 have e1:=A09 hk (n+4) (s.1+1,s.2) h1 (by omega)
 dsimp only at e1
 rw[Gz,E3 h1,Option.bind_some,B3 s.1 (by omega),e1,Option.bind_some]
 dsimp only
 rw[Pe n [123] l _ hl a1,Option.bind_some]
 dsimp only
 rw[Ry (n+3),Option.bind_some]
 have tail:∀ (q:List (List UInt8)) (t:Ps),D5 l t→(bif t.2.1==0 then(Io (n+4) l (t.1:Int)).bind fun y39=>(E8 (n+4) y39.2.2.1 y39.2.2.2 l (t.1:Int) t.2.1 t.2.2).bind fun y41=>(Bv (n+4) [125] l y39.2.1 y41.1 y41.2).bind fun y43=>some ((⟨(nmF l (s.1+1,s.2)).1,q,y39.1,l[s.1].A8⟩:Am),y43.1,y43.2.1,y43.2.2)
  else(Bv (n+4) [125] l (t.1:Int) t.2.1 t.2.2).bind fun y45=>some ((⟨(nmF l (s.1+1,s.2)).1,q,[],l[s.1].A8⟩:Am),y45.1,y45.2.1,y45.2.2))=some ((⟨(nmF l (s.1+1,s.2)).1,q,(Lu l t).1,l[s.1].A8⟩:Am),((Lu l t).2.1:Int),(Lu l t).2.2.1,(Lu l t).2.2.2):=by
  intro q t ht
  unfold Lu
  cases hc:t.2.1==0 with
  | true =>
   obtain⟨g1,g2,_⟩:=Aep hk ht
   rw[cond_true,An7 hk ht (by omega),Option.bind_some,A3v,Option.bind_some]
   dsimp only
   have e2:=Pe n [125] l ((seQ l t.1).2.1.toNat,faF t.2 (seQ l t.1).2.2.1 (seQ l t.1).2.2.2) hl g2
   dsimp only at e2
   rw[g1] at e2
   rw[e2,Option.bind_some];rfl
  | false=>rw[cond_false,Pe n [125] l t hl ht,Option.bind_some];rfl
 have hat:(Mx l s)=(⟨(nmF l (s.1+1,s.2)).1,(Ky l (sgF [123] l (nmF l (s.1+1,s.2)).2)).1,(Lu l (Ky l (sgF [123] l (nmF l (s.1+1,s.2)).2)).2).1,l[s.1].A8⟩,(Lu l (Ky l (sgF [123] l (nmF l (s.1+1,s.2)).2)).2).2):=by unfold Mx;rw[Ads h1]
 rw[hat]
 generalize hS:sgF [123] l (nmF l (s.1+1,s.2)).2=S at *
 cases hc:Hx [114,101,103] l S with
 | false =>
  have hh:Ky l S=([],S):=by unfold Ky;rw[hc];rfl
  rw[hh] at a3 ⊢
  exact tail [] S a3
 | true =>
  obtain⟨q1,q2⟩:=P7 hc
  have c1:D5 l (nmF l (S.1+1,S.2)).2:=T0 q1
  obtain⟨r1,r2,r3⟩:=Aaf hk (n+4) (by omega) (l.length+1) (n+4) (l.length+2) (nmF l (S.1+1,S.2)).2 [(nmF l (S.1+1,S.2)).1] c1 Ox (by omega) (by omega) (by simp)
  have hh:Ky l S=((Iz l (l.length+2) (nmF l (S.1+1,S.2)).2 [(nmF l (S.1+1,S.2)).1]).1,sgF [59] l (Iz l (l.length+2) (nmF l (S.1+1,S.2)).2 [(nmF l (S.1+1,S.2)).1]).2):=by unfold Ky;rw[hc];rfl
  rw[hh] at a3 ⊢
  have e3:=A09 hk (n+4) (S.1+1,S.2) q1 (by omega)
  dsimp only at e3
  rw[cond_true,B3 S.1 (by omega),e3,Option.bind_some]
  dsimp only
  rw[r1,Option.bind_some]
  dsimp only
  rw[Pe n [59] l _ hl r2,Option.bind_some]
  exact tail _ _ a3
theorem Agb {T:Nat} {l:List Tk} (hk:Toks T l) (n:Nat) (y:List Tk×Int×Int) (hy:y.1=l) (hn:18*l.length+T+1000≤n):∀ (m k K:Nat) (s:Ps) (acc:List Th),D5 l s→Pa l s≤m→m < k→m < K→acc.length+m≤l.length+5 →
 H2 n y k (s.1:Int) s.2.1 s.2.2 acc=some (.out (((Iy l K s acc).2.1:Int),(Iy l K s acc).2.2.1,(Iy l K s acc).2.2.2,(Iy l K s acc).1))∧H3 n y k (s.1:Int) s.2.1 s.2.2 acc=some (.out (((Iy l K s acc).2.1:Int),(Iy l K s acc).2.2.1,(Iy l K s acc).2.2.2,(Iy l K s acc).1))∧D5 l (Iy l K s acc).2∧(Iy l K s acc).1.length≤l.length+5:=by
 subst hy
 have hl:=hk.len
 intro m
 induction m with
 | zero =>
  intro k K s acc hs hm hk' hK ha
  obtain⟨k,rfl⟩:∃ j,k=j+1:=⟨k - 1,by omega⟩
  obtain⟨K,rfl⟩:∃ j,K=j+1:=⟨K - 1,by omega⟩
  obtain⟨n,rfl⟩:∃ j,n=j+1:=⟨n - 1,by omega⟩
  have:Hx [116,104,114,101,97,100] y.1 s=false:=by
   unfold Pa at hm
   cases hc:s.2.1==0 with
   | true=>rw[hc] at hm;exact absurd hm (by show ¬ y.1.length - s.1+1≤0;omega)
   | false=>unfold Hx;rw[hc];rfl
  rw[H2,H3,Ry,Iy,this];exact⟨rfl,rfl,hs,by dsimp only [cond_false];omega⟩
 | succ m ih =>
  intro k K s acc hs hm hk' hK ha
  obtain⟨k,rfl⟩:∃ j,k=j+1:=⟨k - 1,by omega⟩
  obtain⟨K,rfl⟩:∃ j,K=j+1:=⟨K - 1,by omega⟩
  obtain⟨n,rfl⟩:∃ j,n=j+1:=⟨n - 1,by omega⟩
  rw[H2,H3,Ry,Iy]
  cases hc:Hx [116,104,114,101,97,100] y.1 s with
  | false=>exact⟨rfl,rfl,hs,by dsimp only [cond_false];omega⟩
  | true =>
   obtain⟨h1,h2⟩:=P7 hc
   obtain⟨t1,t2,t3⟩:=Agw hk (n+1) s h1 (by omega)
   rw[Option.bind_some,Option.bind_some,cond_true,cond_true,t1,Option.bind_some,Option.bind_some,Af (by omega),Af (by omega)]
   exact ih k K (Mx y.1 s).2 (acc++[(Mx y.1 s).1]) t2 (by have:=A00 (t:=(Mx y.1 s).2) h2 hs t3 t2;omega) (by omega) (by omega) (by simp;omega)
theorem Amf (n:Nat):∀ (m i k:Nat) (x:List Nd),x.length - i≤m→m < k→i≤x.length→x.length < 1000000→Ds n k (i:Int) x=some (.out (x.take i++(x.drop i).map L3)):=by
 intro m
 induction m with
 | zero =>
  intro i k x hm hk hi hx
  obtain⟨k,rfl⟩:∃ j,k=j+1:=⟨k - 1,by omega⟩
  rw[Ds,As (by omega),List.drop_of_length_le (by omega),List.take_of_length_le (by omega)];simp
 | succ m ih =>
  intro i k x hm hk hi hx
  obtain⟨k,rfl⟩:∃ j,k=j+1:=⟨k - 1,by omega⟩
  by_cases c:i < x.length
  ·rw[Ds,Af (by omega),E3 c,Option.bind_some,Option.bind_some,B3 i (by omega)]
   have key:∀ z:List Nd,z.length=x.length→z.take (i+1)=x.take i++[L3 x[i]]→z.drop (i+1)=x.drop (i+1)→z.take (i+1)++(z.drop (i+1)).map L3=x.take i++(x.drop i).map L3:=by
    intro z _ h1 h2
    rw[h1,h2,List.drop_eq_getElem_cons c,List.map_cons,List.append_assoc];rfl
   by_cases h2:x[i].Bg=2
   ·rw[h2,show((2:Int)==2)=true from rfl,cond_true,ih (i+1) k _ (by rw[List.length_set];omega) (by omega) (by rw[List.length_set];omega) (by rw[List.length_set];omega)]
    rw[key _ (by rw[List.length_set]) ?_ ?_]
    ·rw[Int.toNat_natCast,List.take_set,List.take_add_one,List.getElem?_eq_getElem c,Option.toList_some,List.set_append_right _ _ (by rw[List.length_take];omega),List.length_take,show i - min i x.length=0 by omega,List.set_cons_zero]
     simp[L3,h2]
    ·rw[Int.toNat_natCast,List.drop_set];rw[if_pos (by omega)]
   ·rw[beq_eq_false_iff_ne.2 h2,cond_false,ih (i+1) k _ (by omega) (by omega) (by omega) hx]
    rw[key x rfl ?_ rfl]
    rw[List.take_add_one,List.getElem?_eq_getElem c]
    simp[L3,h2]
  ·rw[Ds,As (by omega),List.drop_of_length_le (by omega),List.take_of_length_le (by omega)];simp
theorem Akw {T:Nat} {l:List Tk} (hk:Toks T l) (n:Nat) (k:Int) (s:Ps) (h1:s.1 < l.length) (h0:s.2.1=0) (hn:18*l.length+T+1000≤n) :
 Hf n k l (s.1:Int) s.2.1 s.2.2=some ((clF k l s).1,((clF k l s).2.1:Int),(clF k l s).2.2.1,(clF k l s).2.2.2)∧D5 l (clF k l s).2∧((clF k l s).2.2.1≠0∨s.1 < (clF k l s).2.1):=by
 have hl:=hk.len
 obtain⟨n,rfl⟩:∃ j,n=j+5:=⟨n - 5,by omega⟩
 obtain⟨g1,g2,g3⟩:=Al4 hk (show s.1+1≤l.length from h1)
 have hx:(peQ l (s.1+1)).1.length≤200:=by
  rcases A1b hk (show s.1+1≤l.length from h1) with ⟨_,h,_⟩ | ⟨_,_,_,_,_,h⟩
  ·rw[h];simp
  ·simp only[Ey,Bool.and_eq_true,decide_eq_true_eq] at h;exact h.1.2
 have hP:D5 l (if(faF s.2 (peQ l (s.1+1)).2.2.1 (peQ l (s.1+1)).2.2.2).1=0 then(peQ l (s.1+1)).2.1.toNat else s.1+1,faF s.2 (peQ l (s.1+1)).2.2.1 (peQ l (s.1+1)).2.2.2):=by
  unfold D5;dsimp only;split
  ·exact g2
  ·exact h1
 have ea:(clF k l s).1=⟨k,(peQ l (s.1+1)).1.map L3,l[s.1].A8⟩:=by unfold clF;rw[Ads h1]
 refine⟨?_,N3 hP,?_⟩
 ·rw[Hf,E3 h1,Option.bind_some,B3 s.1 (by omega),Amr hk (show s.1+1≤l.length from h1) (by omega),Option.bind_some]
  have fin:∀ (E:List Nd),(bif (faF s.2 (peQ l (s.1+1)).2.2.1 (peQ l (s.1+1)).2.2.2).1==0 then(Bv (n+4) [59] l (peQ l (s.1+1)).2.1 (faF s.2 (peQ l (s.1+1)).2.2.1 (peQ l (s.1+1)).2.2.2).1 (faF s.2 (peQ l (s.1+1)).2.2.1 (peQ l (s.1+1)).2.2.2).2).bind fun y16=>some ((⟨k,E,l[s.1].A8⟩:At),y16.1,y16.2.1,y16.2.2)
   else(Bv (n+4) [59] l ((s.1+1:Nat):Int) (faF s.2 (peQ l (s.1+1)).2.2.1 (peQ l (s.1+1)).2.2.2).1 (faF s.2 (peQ l (s.1+1)).2.2.1 (peQ l (s.1+1)).2.2.2).2).bind fun y18=>some ((⟨k,E,l[s.1].A8⟩:At),y18.1,y18.2.1,y18.2.2))=some ((⟨k,E,l[s.1].A8⟩:At),((clF k l s).2.1:Int),(clF k l s).2.2.1,(clF k l s).2.2.2):=by
   intro E
   have e1:=Pe n [59] l _ hl hP
   unfold clF
   dsimp only at e1 ⊢
   by_cases c:(faF s.2 (peQ l (s.1+1)).2.2.1 (peQ l (s.1+1)).2.2.2).1=0
   ·rw[if_pos c] at e1 ⊢
    rw[g1] at e1
    rw[beq_iff_eq.2 c,cond_true,e1,Option.bind_some]
   ·rw[if_neg c] at e1 ⊢
    rw[beq_eq_false_iff_ne.2 c,cond_false,e1,Option.bind_some]
  rw[ea]
  by_cases hz:(peQ l (s.1+1)).1.length=0
  ·have hz':(peQ l (s.1+1)).1=[]:=List.length_eq_zero_iff.1 hz
   rw[Af hz,A3v,Option.bind_some,show Il (n+4) (n+4)=some (.out ()) from rfl,Option.bind_some,hz']
   exact fin []
  ·have hL:=Amf (n+4) (peQ l (s.1+1)).1.length 0 (n+4) (peQ l (s.1+1)).1 (by omega) (by omega) (by omega) (by omega)
   rw[show((0:Nat):Int)=0 from rfl,List.take_zero,List.drop_zero,List.nil_append] at hL
   rw[As hz,A3v,Option.bind_some,hL,Option.bind_some]
   exact fin _
 ·by_cases e:(peQ l (s.1+1)).2.2.1=0
  ·have:=g3 e
   have f0:(faF s.2 (peQ l (s.1+1)).2.2.1 (peQ l (s.1+1)).2.2.2).1=0:=by unfold faF;rw[h0,e];simp[h0]
   unfold clF
   dsimp only
   rw[if_pos f0]
   rcases A2j (w:=[59]) (l:=l) (s:=((peQ l (s.1+1)).2.1.toNat,faF s.2 (peQ l (s.1+1)).2.2.1 (peQ l (s.1+1)).2.2.2)) with ⟨q1,_⟩ | ⟨q1,_⟩
   ·right;dsimp only at q1;omega
   ·exact .inl q1
  ·exact .inl (A1u (Zr e))
theorem A9u (n:Nat) (j:Nat) (h:1≤j∧j≤3):Kv (n+1) (j:Int)=some (cwS.getD j []):=by
 have:j=1∨j=2∨j=3:=by omega
 rcases this with rfl | rfl | rfl<;>rfl
theorem Af8 (n:Nat) (l:List Tk) (s:Ps) (hn:10≤n):Fc n l (s.1:Int) s.2.1 s.2.2=some (Mu l s):=by
 obtain⟨n,rfl⟩:∃ j,n=j+6:=⟨n - 6,by omega⟩
 have w1:=A9u (n+4) 1 (by omega)
 have w2:=A9u (n+4) 2 (by omega)
 have w3:=A9u (n+4) 3 (by omega)
 rw[Fc,E7,Af (by omega)]
 have w1':Kv (n+5) 1=some [102,111,114,97,108,108]:=w1
 have w2':Kv (n+5) 2=some [101,120,105,115,116,115]:=w2
 have w3':Kv (n+5) 3=some [97,108,119,97,121,115]:=w3
 rw[w1',Option.bind_some,Ry (n+4),Option.bind_some,Mu]
 cases Hx [102,111,114,97,108,108] l s with
 | true=>rfl
 | false =>
  rw[cond_false,cond_false,show IntKind.i64.wrap (1+1)=2 from by decide +kernel,E7,Af (by omega),w2',Option.bind_some,Ry (n+4),Option.bind_some]
  cases Hx [101,120,105,115,116,115] l s with
  | true=>rfl
  | false =>
   rw[cond_false,cond_false,show IntKind.i64.wrap (2+1)=3 from by decide +kernel,E7,Af (by omega),w3',Option.bind_some,Ry (n+4),Option.bind_some]
   cases Hx [97,108,119,97,121,115] l s with
   | true=>rfl
   | false =>
    rw[cond_false,cond_false,show IntKind.i64.wrap (3+1)=4 from by decide +kernel,E7,As (by omega)];rfl
theorem A3x {l:List Tk} {s:Ps} (h:0 < Mu l s):s.1 < l.length∧s.2.1=0∧Mu l s≤3:=by
 unfold Mu at h ⊢
 cases h1:Hx [102,111,114,97,108,108] l s with
 | true=>obtain⟨a,b⟩:=P7 h1;exact⟨a,b,(show(1:Int)≤3 by decide)⟩
 | false =>
  rw[h1] at h
  cases h2:Hx [101,120,105,115,116,115] l s with
  | true=>obtain⟨a,b⟩:=P7 h2;exact⟨a,b,(show(2:Int)≤3 by decide)⟩
  | false =>
   rw[h2] at h
   cases h3:Hx [97,108,119,97,121,115] l s with
   | true=>obtain⟨a,b⟩:=P7 h3;exact⟨a,b,(show(3:Int)≤3 by decide)⟩
   | false=>rw[h3] at h;exact absurd h (by decide)
theorem Ajg {T:Nat} {l:List Tk} (hk:Toks T l) (n:Nat) (y:List Tk×Int×Int) (hy:y.1=l) (hn:18*l.length+T+1000≤n):∀ (m k K:Nat) (s:Ps) (acc:List Cl),D5 l s→Pa l s≤m→m < k→m < K→acc.length+m≤l.length+5 →
 H0 n y k (s.1:Int) s.2.1 s.2.2 acc=some (.out (((M8 l K s acc).2.1:Int),(M8 l K s acc).2.2.1,(M8 l K s acc).2.2.2,(M8 l K s acc).1))∧H1 n y k (s.1:Int) s.2.1 s.2.2 acc=some (.out (((M8 l K s acc).2.1:Int),(M8 l K s acc).2.2.1,(M8 l K s acc).2.2.2,(M8 l K s acc).1))∧D5 l (M8 l K s acc).2∧(M8 l K s acc).1.length≤l.length+5:=by
 subst hy
 have hl:=hk.len
 intro m
 induction m with
 | zero =>
  intro k K s acc hs hm hk' hK ha
  obtain⟨k,rfl⟩:∃ j,k=j+1:=⟨k - 1,by omega⟩
  obtain⟨K,rfl⟩:∃ j,K=j+1:=⟨K - 1,by omega⟩
  have:¬ 0 < Mu y.1 s:=by
   intro h
   obtain⟨_,h2,_⟩:=A3x h
   unfold Pa at hm
   rw[h2] at hm;exact absurd hm (by show ¬ y.1.length - s.1+1≤0;omega)
  rw[H0,H1,Af8 n y.1 s (by omega),M8]
  simp only[Option.bind_some,decide_eq_false this,cond_false]
  exact⟨trivial,trivial,hs,by omega⟩
 | succ m ih =>
  intro k K s acc hs hm hk' hK ha
  obtain⟨k,rfl⟩:∃ j,k=j+1:=⟨k - 1,by omega⟩
  obtain⟨K,rfl⟩:∃ j,K=j+1:=⟨K - 1,by omega⟩
  rw[H0,H1,Af8 n y.1 s (by omega),M8]
  by_cases hc:0 < Mu y.1 s
  ·obtain⟨h1,h2,_⟩:=A3x hc
   obtain⟨t1,t2,t3⟩:=Akw hk n (Mu y.1 s) s h1 h2 (by omega)
   simp only[Option.bind_some,decide_eq_true hc,cond_true,t1,decide_eq_true (show(acc.length+1)*41≤140737488355328 by omega)]
   exact ih k K (clF (Mu y.1 s) y.1 s).2 (acc++[(clF (Mu y.1 s) y.1 s).1]) t2 (by have:=A00 (t:=(clF (Mu y.1 s) y.1 s).2) h2 hs t3 t2;omega) (by omega) (by omega) (by simp;omega)
  ·simp only[Option.bind_some,decide_eq_false hc,cond_false]
   exact⟨trivial,trivial,hs,by omega⟩
end Go.Proofs.YtpnhafdimkmbbaaGreat
end
section
namespace Go.Proofs.YtpnhafdimkmbbaaGreat
set_option linter.unusedVariables false
set_option linter.unusedSimpArgs false
set_option maxRecDepth 10000
theorem Ajb {l:List Tk} {s:Ps} (h:D5 l s):D5 l (wr l s):=by unfold D5;rw[S8];exact h
theorem Aik (l:List Tk):D5 l (K2 l).2:=by
 unfold K2
 refine N3 (Za ?_)
 cases hc:Hx [109,111,100] l (0,0,0) with
 | true=>exact(P7 hc).1
 | false=>exact Ajb (show D5 l (0,0,0) from Nat.zero_le _)
theorem Akg {T:Nat} {s:List UInt8} (hs:s.length≤19000) {n:Nat} (hn:20*s.length+1200≤n):Ng n s=some (Na s):=by
 obtain⟨n,rfl⟩:∃ j,n=j+5:=⟨n - 5,by omega⟩
 have hk:=Abv s (by omega)
 have hlen:=(Xy s).2
 have hl:=hk.len
 rw[Ng,Alg (n+4) s (by omega) (by omega),Option.bind_some,Na]
 cases herr:(M1 s).err != 0 with
 | true =>
  rw[show((A1c (M1 s)).2.1 != 0)=true from herr,cond_true,cond_true];rfl
 | false =>
  rw[show((A1c (M1 s)).2.1 != 0)=false from herr,cond_false,cond_false]
  have hy:(A1c (M1 s)).1=Vy s:=rfl
  generalize hY:A1c (M1 s)=y at *
  rw[hy]
  generalize Vy s=l at *
  have hfin:∀ (m:Int) (v:List Va) (t:List Th) (c:List Cl) (z:Ps),D5 l z→(bif decide ((z.1:Int) < ((l.length:Nat):Int)) then(Cq (n+4) l (z.1:Int) z.2.1 z.2.2).bind fun y93=>bif y93.1 != 0 then some ((⟨0,[],[],[]⟩:Be),y93.1,y93.2) else some ((⟨m,v,t,c⟩:Be),0,0) else bif z.2.1 != 0 then some ((⟨0,[],[],[]⟩:Be),z.2.1,z.2.2) else some ((⟨m,v,t,c⟩:Be),0,0))=some (bif (Xb l z).2.1 != 0 then(noP,(Xb l z).2) else(⟨m,v,t,c⟩,0,0)):=by
   intro m v t c z hz
   unfold Xb
   by_cases h:z.1 < l.length
   ·rw[Af (show(z.1:Int) < ((l.length:Nat):Int) by omega),decide_eq_true h,cond_true,Uz (n+1) l z hl,Option.bind_some]
    cases (wr l z).2.1 != 0<;>rfl
   ·rw[As (show ¬ (z.1:Int) < ((l.length:Nat):Int) by omega),decide_eq_false h,cond_false]
    cases z.2.1 != 0<;>rfl
  have rest:∀ (m:Int) (z:Ps),D5 l z→True:=fun _ _ _=>trivial
  have k0:=Ry (n+3) [109,111,100] l (0,0,0)
  rw[show(((0:Nat),(0:Int),(0:Int)).1:Int)=0 from rfl] at k0
  dsimp only at k0
  rw[k0,Option.bind_some]
  have chain:∀ (z:Ps),D5 l z →
   ∃ v:List Va×Ps,v=If l (l.length+2) z []∧Gx (n+4) y (n+4) (z.1:Int) z.2.1 z.2.2 []=some (.out ((v.2.1:Int),v.2.2.1,v.2.2.2,v.1))∧Gn (n+4) y (n+4) (z.1:Int) z.2.1 z.2.2 []=some (.out ((v.2.1:Int),v.2.2.1,v.2.2.2,v.1)) ∧
   ∃ t:List Th×Ps,t=Iy l (l.length+2) v.2 []∧H2 (n+4) y (n+4) (v.2.1:Int) v.2.2.1 v.2.2.2 []=some (.out ((t.2.1:Int),t.2.2.1,t.2.2.2,t.1))∧H3 (n+4) y (n+4) (v.2.1:Int) v.2.2.1 v.2.2.2 []=some (.out ((t.2.1:Int),t.2.2.1,t.2.2.2,t.1)) ∧
   ∃ c:List Cl×Ps,c=M8 l (l.length+2) t.2 []∧H0 (n+4) y (n+4) (t.2.1:Int) t.2.2.1 t.2.2.2 []=some (.out ((c.2.1:Int),c.2.2.1,c.2.2.2,c.1))∧H1 (n+4) y (n+4) (t.2.1:Int) t.2.2.1 t.2.2.2 []=some (.out ((c.2.1:Int),c.2.2.1,c.2.2.2,c.1))∧D5 l c.2:=by
   intro z hz
   obtain⟨a1,a2,a3,_⟩:=Afc hk (n+4) y hy (by omega) (l.length+1) (n+4) (l.length+2) z [] hz Ox (by omega) (by omega) (by simp)
   refine⟨_,rfl,a1,a2,?_⟩
   obtain⟨b1,b2,b3,_⟩:=Agb hk (n+4) y hy (by omega) (l.length+1) (n+4) (l.length+2) _ [] a3 Ox (by omega) (by omega) (by simp)
   refine⟨_,rfl,b1,b2,?_⟩
   obtain⟨c1,c2,c3,_⟩:=Ajg hk (n+4) y hy (by omega) (l.length+1) (n+4) (l.length+2) _ [] b3 Ox (by omega) (by omega) (by simp)
   exact⟨_,rfl,c1,c2,c3⟩
  cases hc:Hx [109,111,100] l (0,0,0) with
  | true =>
   have p1:D5 l ((1,0,0):Ps):=(P7 hc).1
   have p2:=Za p1
   have p3:=N3 (w:=[59]) p2
   have e1:=A84 n l (1,0,0) hl p1
   dsimp only at e1
   rw[cond_true,show IntKind.i64.wrap ((0:Int)+1)=((1:Nat):Int) from by decide +kernel,e1,Option.bind_some]
   dsimp only
   rw[Pe n [59] l _ hl p2,Option.bind_some]
   dsimp only
   have hst:K2 l=((nuF l (1,0,0)).1,sgF [59] l (nuF l (1,0,0)).2):=by unfold K2;rw[hc];rfl
   obtain⟨v,v1,v2,_,t,t1,t2,_,c,c1,c2,_,c4⟩:=chain _ p3
   rw[v2,Option.bind_some]
   dsimp only
   rw[t2,Option.bind_some]
   dsimp only
   rw[c2,Option.bind_some]
   dsimp only
   rw[hfin _ _ _ _ _ c4]
   unfold Sr
   rw[hst]
   dsimp only
   rw[← v1,← t1,← c1]
  | false =>
   have p1:D5 l (wr l (0,0,0)):=Ajb (show D5 l (0,0,0) from Nat.zero_le _)
   have p2:=Za p1
   have p3:=N3 (w:=[59]) p2
   have e0:=Uz (n+1) l (0,0,0) hl
   dsimp only at e0
   rw[show((0:Nat):Int)=0 from rfl] at e0
   have e1:=A84 n l (wr l (0,0,0)) hl p1
   rw[S8,show((0:Nat):Int)=0 from rfl] at e1
   rw[cond_false,e0,Option.bind_some]
   dsimp only
   rw[e1,Option.bind_some]
   dsimp only
   rw[Pe n [59] l _ hl p2,Option.bind_some]
   dsimp only
   have hst:K2 l=((nuF l (wr l (0,0,0))).1,sgF [59] l (nuF l (wr l (0,0,0))).2):=by unfold K2;rw[hc];rfl
   obtain⟨v,v1,_,v2,t,t1,_,t2,c,c1,_,c2,c4⟩:=chain _ p3
   rw[v2,Option.bind_some]
   dsimp only
   rw[t2,Option.bind_some]
   dsimp only
   rw[c2,Option.bind_some]
   dsimp only
   rw[hfin _ _ _ _ _ c4]
   unfold Sr
   rw[hst]
   dsimp only
   rw[← v1,← t1,← c1]
end Go.Proofs.YtpnhafdimkmbbaaGreat
end
section
namespace Go.Proofs.YtpnhafdimkmbbaaGreat
set_option linter.unusedVariables false
set_option linter.unusedSimpArgs false
set_option maxRecDepth 10000
abbrev Chk:=Bool×Int×Int
def L7 (c:Int×Int) (k:Chk):Int×Int:=bif k.1 then c else bif c.1==0 then k.2 else c
def Dn (c:Int×Int) (l:List Chk):Int×Int:=l.foldl L7 c
def Eb:List Chk→Option (Int×Int)
 | []=>none
 | k :: l=>bif k.1 then Eb l else some k.2
def chF (g:Nat→List Chk):Nat→Nat→List Chk
 | 0,_=>[]
 | m+1,i=>g i++chF g m (i+1)
theorem I2 (c:Int×Int) (a b:List Chk):Dn c (a++b)=Dn (Dn c a) b:=List.foldl_append
theorem Jf (c:Int×Int) (k:Chk) (b:List Chk):Dn c (k :: b)=Dn (L7 c k) b:=rfl
theorem Agn (c:Int×Int):Dn c []=c:=rfl
theorem Qs (a b:List Chk):Eb (a++b)=(Eb a).or (Eb b):=by
 induction a with
 | nil=>rfl
 | cons k a ih=>simp only[List.cons_append,Eb,ih];cases k.1<;>rfl
def ErL (l:List Chk):Prop:=∀ k ∈ l,k.2.1≠0
theorem A5g:∀ (l:List Chk) (c:Int×Int),ErL l→Dn c l=bif c.1==0 then(Eb l).getD c else c
 | [],c,_=>by simp only[Agn,Eb];cases c.1==0<;>rfl
 | k :: l,c,h=>by
  have h1:k.2.1≠0:=h k (List.mem_cons_self ..)
  rw[Jf,A5g l _ (fun q hq=>h q (List.mem_cons_of_mem _ hq))]
  simp only[Eb,L7]
  cases k.1 with
  | true=>rfl
  | false =>
   simp only[cond_false]
   cases hc:c.1==0 with
   | true=>rw[cond_true,beq_eq_false_iff_ne.2 h1];rfl
   | false=>rw[cond_false,hc];rfl
theorem Qy {σ ρ ν:Type} (N:Nat) (g:Nat→List Chk) (L:Nat→Nat→σ→Option (LR ρ ν)) (Inv:Nat→(Int×Int)→σ→Prop) (out:σ→ρ)
 (h0:∀ k s c,Inv N c s→L (k+1) N s=some (.out (out s)))
 (h1:∀ k i s c,i < N→Inv i c s→∃ s',Inv (i+1) (Dn c (g i)) s'∧L (k+1) i s=L k (i+1) s') :
 ∀ (m k i:Nat) (s:σ) (c:Int×Int),i+m=N→m < k→Inv i c s→∃ s',Inv N (Dn c (chF g m i)) s'∧L k i s=some (.out (out s')):=by
 intro m
 induction m with
 | zero =>
  intro k i s c hi hk hs
  obtain⟨k,rfl⟩:∃ j,k=j+1:=⟨k - 1,by omega⟩
  obtain rfl:i=N:=by omega
  exact⟨s,hs,h0 k s c hs⟩
 | succ m ih =>
  intro k i s c hi hk hs
  obtain⟨k,rfl⟩:∃ j,k=j+1:=⟨k - 1,by omega⟩
  obtain⟨s',a1,a2⟩:=h1 k i s c (by omega) hs
  obtain⟨s2,b1,b2⟩:=ih k (i+1) s' _ (by omega) (by omega) a1
  exact⟨s2,by rw[chF,I2];exact b1,a2.trans b2⟩
abbrev Mi:=List (List UInt8×Int)
abbrev Mm:=List (List UInt8×Mi)
theorem Q6 (n:Nat) (so:Bool) (e a md:Int) (l:List Va) (t:List Th) (c:List Cl) (ce ca:Int) (m1:Mi) (m2:Mm):Ag (n+1) so e a md l t c ce ca m1 m2=some ((L7 (ce,ca) (so,e,a)).1==0,L7 (ce,ca) (so,e,a)):=by
 rw[Ag]
 cases so with
 | true=>rfl
 | false=>cases h:ce==0<;>simp[L7,h]
def Ou (kn:Nd→Bool) (md:Int) (x:Nd):List Chk:=bif x.Bg==1 then [(decide (x.Cu < md),11,x.A8)] else bif x.Bg==2 || (x.Bg==3 || x.Bg==4) then [(kn x,9,x.A8)] else []
def Dx (kn:Nd→Bool) (md:Int) (l:List Nd):List Chk:=l.flatMap (Ou kn md)
def knC (m1:Mi) (m2:Mm) (x:Nd):Bool:=bif x.Bg==3 then decide (0 < C2 m1 x.An 0) else decide (0 < C2 (C2 m2 x.Df []) x.An 0)
def knB (m:Mi) (x:Nd):Bool:=decide (0 < C2 m x.An 0)
theorem Ais (n:Nat) (x:Nd) (md:Int) (l:List Va) (t:List Th) (c:List Cl) (ce ca:Int) (m1:Mi) (m2:Mm):Ee (n+1) x md l t c ce ca m1 m2=some (knC m1 m2 x):=by
 rw[Ee,knC];cases x.Bg==3<;>rfl
theorem Aiy (n:Nat) (l:List Nd) (md:Int) (lo:List Va) (t:List Th) (cl:List Cl) (ce ca:Int) (m1:Mi) (m2:Mm) (hl:l.length≤1000) (hn:1010 < n):I0 n l md lo t cl ce ca m1 m2=some (Dn (ce,ca) (Dx (knC m1 m2) md l)):=by
 obtain⟨n,rfl⟩:∃ j,n=j+2:=⟨n - 2,by omega⟩
 have:=Jd l (fun k i (s:Int×Int)=>Cn (n+1) l md lo t cl m1 m2 k (i:Int) s.1 s.2) (fun l s=>some (.out (Dn s (Dx (knC m1 m2) md l)))) (fun _ _=>True) (k:=n+1) (s:=(ce,ca)) (by omega) trivial (fun k s _=>by rw[Cn,As (by omega)];rfl) (fun k i s x hi hx _ ih=>by
  have ih':∀ c:Int×Int,Cn (n+1) l md lo t cl m1 m2 k ((i+1:Nat):Int) c.1 c.2=_:=fun c=>ih c trivial
  rw[Cn,Af (by omega),Bm hx,Option.bind_some]
  simp only[Q6,Ais,Option.bind_some,B3 i (show i < 4611686018427387904 by omega),ih']
  rw[show Dx (knC m1 m2) md (x :: l.drop (i+1))=Ou (knC m1 m2) md x++Dx (knC m1 m2) md (l.drop (i+1)) from List.flatMap_cons,I2]
  rw[Ou]
  cases x.Bg==1 with
  | true=>rfl
  | false=>cases x.Bg==2<;>cases x.Bg==3<;>cases x.Bg==4<;>rfl)
 rw[I0]
 rw[show((0:Nat):Int)=0 from rfl] at this
 rw[this];rfl
theorem A8z (n:Nat) (l:List Nd) (md:Int) (lo:List Va) (t:List Th) (cl:List Cl) (ce ca:Int) (m1:Mi) (m2:Mm) (m:Mi) (hl:l.length≤1000) (hn:1010 < n):B6 n l md lo t cl ce ca m1 m2 m=some (Dn (ce,ca) (Dx (knB m) md l)):=by
 obtain⟨n,rfl⟩:∃ j,n=j+2:=⟨n - 2,by omega⟩
 have:=Jd l (fun k i (s:Int×Int)=>Cf (n+1) l md lo t cl m1 m2 m k (i:Int) s.1 s.2) (fun l s=>some (.out (Dn s (Dx (knB m) md l)))) (fun _ _=>True) (k:=n+1) (s:=(ce,ca)) (by omega) trivial (fun k s _=>by rw[Cf,As (by omega)];rfl) (fun k i s x hi hx _ ih=>by
  have ih':∀ c:Int×Int,Cf (n+1) l md lo t cl m1 m2 m k ((i+1:Nat):Int) c.1 c.2=_:=fun c=>ih c trivial
  rw[Cf,Af (by omega),Bm hx,Option.bind_some]
  simp only[Q6,Fd,Option.bind_some,B3 i (show i < 4611686018427387904 by omega),ih']
  rw[show Dx (knB m) md (x :: l.drop (i+1))=Ou (knB m) md x++Dx (knB m) md (l.drop (i+1)) from List.flatMap_cons,I2]
  rw[Ou]
  cases x.Bg==1 with
  | true=>rfl
  | false=>cases x.Bg==2<;>cases x.Bg==3<;>cases x.Bg==4<;>rfl)
 rw[B6]
 rw[show((0:Nat):Int)=0 from rfl] at this
 rw[this];rfl
theorem A9q (n:Nat) (l:List Nd) (md:Int) (lo:List Va) (t:List Th) (cl:List Cl) (ce ca:Int) (m1:Mi) (m2:Mm) (m:Mi) (hl:l.length≤1000) (hn:1010 < n):B5 n l md lo t cl ce ca m1 m2 m=some (Dn (ce,ca) (Dx (knB m) md l)):=by
 obtain⟨n,rfl⟩:∃ j,n=j+2:=⟨n - 2,by omega⟩
 have:=Jd l (fun k i (s:Int×Int)=>Ce (n+1) l md lo t cl m1 m2 m k (i:Int) s.1 s.2) (fun l s=>some (.out (Dn s (Dx (knB m) md l)))) (fun _ _=>True) (k:=n+1) (s:=(ce,ca)) (by omega) trivial (fun k s _=>by rw[Ce,As (by omega)];rfl) (fun k i s x hi hx _ ih=>by
  have ih':∀ c:Int×Int,Ce (n+1) l md lo t cl m1 m2 m k ((i+1:Nat):Int) c.1 c.2=_:=fun c=>ih c trivial
  rw[Ce,Af (by omega),Bm hx,Option.bind_some]
  simp only[Q6,F0,Option.bind_some,B3 i (show i < 4611686018427387904 by omega),ih']
  rw[show Dx (knB m) md (x :: l.drop (i+1))=Ou (knB m) md x++Dx (knB m) md (l.drop (i+1)) from List.flatMap_cons,I2]
  rw[Ou]
  cases x.Bg==1 with
  | true=>rfl
  | false=>cases x.Bg==2<;>cases x.Bg==3<;>cases x.Bg==4<;>rfl)
 rw[B5]
 rw[show((0:Nat):Int)=0 from rfl] at this
 rw[this];rfl
def Nv (l:List St):Nat→Int
 | 0=>0
 | i+1=>match l[i]? with
   | some x=>bif x.Ac==11 || x.Ac==12 then(if Nv l i < (i:Int)+1+x.Al then(i:Int)+1+x.Al else Nv l i) else Nv l i
   | none=>Nv l i
def stC (rk:Nd→Bool) (rr lk:List UInt8→Bool) (md:Int) (l:List St) (i:Nat):List Chk:=match l[i]? with
 | some x=>(bif x.Ac==13 then [(decide ((i:Int) < Nv l i),13,x.A8)] else [])++((x.Ax==[] || rr x.Ax,9,x.A8) :: (x.Au==[] || lk x.Au,9,x.A8) :: (Dx rk md x.B4++Dx rk md x.Bd))
 | none=>[]
def R7 (l:List St):Prop:=l.length≤1000∧∀ x ∈ l,0≤x.Al∧x.Al≤1000∧x.B4.length≤1000∧x.Bd.length≤1000
theorem Akm (n:Nat) (th:Th) (md:Int) (lo:List Va) (t:List Th) (cl:List Cl) (ce ca:Int) (m1:Mi) (m2:Mm) (m:Mi) (h:R7 th.Al) (hn:1020 < n):In n th md lo t cl ce ca m1 m2 m=some (Dn (ce,ca) (chF (stC (knB m) (fun r=>decide (0 < C2 m r 0)) (fun r=>decide (0 < C2 m1 r 0)) md th.Al) th.Al.length 0)):=by
 obtain⟨hl,hb⟩:=h
 obtain⟨n,rfl⟩:∃ j,n=j+2:=⟨n - 2,by omega⟩
 obtain⟨s',⟨a1,a2⟩,a3⟩:=Qy th.Al.length (stC (knB m) (fun r=>decide (0 < C2 m r 0)) (fun r=>decide (0 < C2 m1 r 0)) md th.Al) (fun k i (s:Int×Int×Int)=>Bq (n+1) th md lo t cl m1 m2 m k s.1 (i:Int) s.2.1 s.2.2) (fun i c s=>s.1=Nv th.Al i∧s.2=c) (fun s=>(s.2.1,s.2.2))
  (fun k s c _=>by rw[Bq,As (by omega)]) (fun k i s c hi hs=>by
   obtain⟨u,d⟩:=s
   obtain⟨rfl,rfl⟩:=hs
   have hx:th.Al[i]?=some (th.Al[i]'hi):=List.getElem?_eq_getElem hi
   obtain⟨hb1,hb2,hb3,hb4⟩:=hb _ (List.getElem_mem hi)
   generalize th.Al[i]'hi=x at *
   refine⟨(Nv th.Al (i+1),Dn d (stC (knB m) (fun r=>decide (0 < C2 m r 0)) (fun r=>decide (0 < C2 m1 r 0)) md th.Al i)),⟨rfl,rfl⟩,?_⟩
   dsimp only
   have w1:IntKind.i64.wrap (((i+1:Nat):Int)+x.Al)=(i:Int)+1+x.Al:=by rw[C1 (by omega)];omega
   rw[Bq,Af (by omega),Bm hx,Option.bind_some]
   simp only[Q6,A8z (n+1) x.B4 md lo t cl _ _ m1 m2 m hb3 (by omega),A8z (n+1) x.Bd md lo t cl _ _ m1 m2 m hb4 (by omega),Option.bind_some,B3 i (show i < 4611686018427387904 by omega),w1]
   rw[Nv,stC,hx]
   dsimp only
   by_cases k1:x.Ac=11
   ·rw[k1];cases x.Ax==[]<;>cases x.Au==[]<;>(simp only[I2,Jf];rfl)
   by_cases k2:x.Ac=12
   ·rw[k2];cases x.Ax==[]<;>cases x.Au==[]<;>(simp only[I2,Jf];rfl)
   rw[beq_eq_false_iff_ne.2 k1,beq_eq_false_iff_ne.2 k2]
   cases x.Ac==13<;>cases x.Ax==[]<;>cases x.Au==[]<;>(simp only[I2,Jf];rfl)) th.Al.length (n+1) 0 (0,ce,ca) (ce,ca) (by omega) (by omega) ⟨rfl,rfl⟩
 rw[In]
 dsimp only at a3
 rw[show((0:Nat):Int)=0 from rfl] at a3
 rw[a3,Option.bind_some]
 dsimp only
 rw[← a2]
theorem Akk (n:Nat) (th:Th) (md:Int) (lo:List Va) (t:List Th) (cl:List Cl) (ce ca:Int) (m1:Mi) (m2:Mm) (m:Mi) (h:R7 th.Al) (hn:1020 < n):Hk n th md lo t cl ce ca m1 m2 m=some (Dn (ce,ca) (chF (stC (knB m) (fun r=>decide (0 < C2 m r 0)) (fun r=>decide (0 < C2 m1 r 0)) md th.Al) th.Al.length 0)):=by
 obtain⟨hl,hb⟩:=h
 obtain⟨n,rfl⟩:∃ j,n=j+2:=⟨n - 2,by omega⟩
 obtain⟨s',⟨a1,a2⟩,a3⟩:=Qy th.Al.length (stC (knB m) (fun r=>decide (0 < C2 m r 0)) (fun r=>decide (0 < C2 m1 r 0)) md th.Al) (fun k i (s:Int×Int×Int)=>Bo (n+1) th md lo t cl m1 m2 m k s.1 (i:Int) s.2.1 s.2.2) (fun i c s=>s.1=Nv th.Al i∧s.2=c) (fun s=>(s.2.1,s.2.2))
  (fun k s c _=>by rw[Bo,As (by omega)]) (fun k i s c hi hs=>by
   obtain⟨u,d⟩:=s
   obtain⟨rfl,rfl⟩:=hs
   have hx:th.Al[i]?=some (th.Al[i]'hi):=List.getElem?_eq_getElem hi
   obtain⟨hb1,hb2,hb3,hb4⟩:=hb _ (List.getElem_mem hi)
   generalize th.Al[i]'hi=x at *
   refine⟨(Nv th.Al (i+1),Dn d (stC (knB m) (fun r=>decide (0 < C2 m r 0)) (fun r=>decide (0 < C2 m1 r 0)) md th.Al i)),⟨rfl,rfl⟩,?_⟩
   dsimp only
   have w1:IntKind.i64.wrap (((i+1:Nat):Int)+x.Al)=(i:Int)+1+x.Al:=by rw[C1 (by omega)];omega
   rw[Bo,Af (by omega),Bm hx,Option.bind_some]
   simp only[Q6,A9q (n+1) x.B4 md lo t cl _ _ m1 m2 m hb3 (by omega),A9q (n+1) x.Bd md lo t cl _ _ m1 m2 m hb4 (by omega),Option.bind_some,B3 i (show i < 4611686018427387904 by omega),w1]
   rw[Nv,stC,hx]
   dsimp only
   by_cases k1:x.Ac=11
   ·rw[k1];cases x.Ax==[]<;>cases x.Au==[]<;>(simp only[I2,Jf];rfl)
   by_cases k2:x.Ac=12
   ·rw[k2];cases x.Ax==[]<;>cases x.Au==[]<;>(simp only[I2,Jf];rfl)
   rw[beq_eq_false_iff_ne.2 k1,beq_eq_false_iff_ne.2 k2]
   cases x.Ac==13<;>cases x.Ax==[]<;>cases x.Au==[]<;>(simp only[I2,Jf];rfl)) th.Al.length (n+1) 0 (0,ce,ca) (ce,ca) (by omega) (by omega) ⟨rfl,rfl⟩
 rw[Hk]
 dsimp only at a3
 rw[show((0:Nat):Int)=0 from rfl] at a3
 rw[a3,Option.bind_some]
 dsimp only
 rw[← a2]
end Go.Proofs.YtpnhafdimkmbbaaGreat
end
section
namespace Go.Proofs.YtpnhafdimkmbbaaGreat
set_option linter.unusedVariables false
set_option linter.unusedSimpArgs false
set_option maxRecDepth 10000
theorem Vh {ν:Type}:∀ (m:List (List UInt8×ν)) (x s:List UInt8) (v z:ν),C2 (Hn m x v) s z=if s=x then v else C2 m s z
 | [],x,s,v,z=>by simp only[Hn,C2]
 | p :: m,x,s,v,z=>by
  rw[Hn]
  by_cases h:x=p.1
  ·subst h
   rw[if_pos rfl,C2,C2]
   by_cases h2:s=p.1
   ·rw[if_pos h2,if_pos h2]
   ·rw[if_neg h2,if_neg h2,if_neg h2]
  ·rw[if_neg h,C2,C2,Vh m x s v z]
   by_cases h2:s=p.1
   ·rw[if_pos h2,if_pos h2,if_neg (by rw[h2];exact fun e=>h e.symm)]
   ·rw[if_neg h2,if_neg h2]
theorem A5n {ν:Type}:∀ (m:List (List UInt8×ν)) (x s:List UInt8) (v:ν),Mg (Hn m x v) s=(decide (s=x) || Mg m s)
 | [],x,s,v=>by simp only[Hn,Mg];by_cases h:s=x<;>simp[h]
 | p :: m,x,s,v=>by
  rw[Hn]
  by_cases h:x=p.1
  ·subst h
   rw[if_pos rfl,Mg,Mg]
   by_cases h2:s=p.1<;>simp[h2]
  ·rw[if_neg h,Mg,Mg,A5n m x s v]
   by_cases h2:s=p.1
   ·simp[h2]
   ·simp[h2]
def Cnt (m:Mi) (l:List (List UInt8)) (b:Nat):Prop:=∀ s,0≤C2 m s 0∧C2 m s 0≤(b:Int)∧(0 < C2 m s 0↔s ∈ l)
theorem Cnt.nil:Cnt [] [] 0:=fun s=>⟨Int.le_refl _,Int.le_refl _,by simp[C2]⟩
theorem Cnt.step {m:Mi} {l:List (List UInt8)} {b:Nat} (h:Cnt m l b) (hb:b < 1000000) (x:List UInt8):Cnt (Hn m x (IntKind.i64.wrap (C2 m x 0+1))) (l++[x]) (b+1):=by
 intro s
 obtain⟨h1,h2,h3⟩:=h s
 obtain⟨k1,k2,k3⟩:=h x
 rw[Vh,C1 (by omega)]
 by_cases e:s=x
 ·subst e;rw[if_pos rfl];exact⟨by omega,by omega,by constructor;·simp
                                                    ·intro _;omega⟩
 ·rw[if_neg e];refine⟨h1,by omega,?_⟩
  rw[h3];simp[e]
theorem Cnt.has {m:Mi} {l:List (List UInt8)} {b:Nat} (h:Cnt m l b) (s:List UInt8):decide (0 < C2 m s 0)=l.contains s:=by
 rw[Bool.eq_iff_iff,decide_eq_true_eq,List.contains_iff_mem];exact(h s).2.2
theorem Cnt.no {m:Mi} {l:List (List UInt8)} {b:Nat} (h:Cnt m l b) (s:List UInt8):(C2 m s 0==0)=!l.contains s:=by
 rw[← h.has s,Bool.eq_iff_iff,beq_iff_eq,Bool.not_eq_true',decide_eq_false_iff_not]
 have:=(h s).1;omega
theorem Z0 {α:Type} {l:List α} {i:Nat} {x:α} (h:l[i]?=some x):l.take (i+1)=l.take i++[x]:=by rw[List.take_add_one,h];rfl
def nmL (l:List Va):List (List UInt8):=l.map B9.An
def nmT (l:List Th):List (List UInt8):=l.map Am.An
theorem Ag4 {l:List Va} {i:Nat} {x:Va} (h:l[i]?=some x):(nmL l)[i]?=some x.An:=by rw[nmL,List.getElem?_map,h];rfl
theorem Ale {l:List Th} {i:Nat} {x:Th} (h:l[i]?=some x):(nmT l)[i]?=some x.An:=by rw[nmT,List.getElem?_map,h];rfl
def L8 (md:Int) (l:List Va) (i:Nat):List Chk:=match l[i]? with
 | some v=>[(decide ((i:Int) < 6),12,v.A8),(!((nmL l).take i).contains v.An,10,v.A8),(decide (v.Cu < md),11,v.A8)]
 | none=>[]
theorem Al3 (n:Nat) (md:Int) (l:List Va) (t:List Th) (c:List Cl) (ce ca:Int) (hl:l.length≤5000) (hn:5010 < n):∃ m,Cnt m (nmL l) l.length∧Fg n md l t c ce ca [] []=some ((Dn (ce,ca) (chF (L8 md l) l.length 0)).1,(Dn (ce,ca) (chF (L8 md l) l.length 0)).2,m):=by
 obtain⟨n,rfl⟩:∃ j,n=j+2:=⟨n - 2,by omega⟩
 obtain⟨s',⟨a1,a2⟩,a3⟩:=Qy l.length (L8 md l) (fun k i (s:Int×Int×Mi)=>Ea (n+1) md l t c [] k (i:Int) s.1 s.2.1 s.2.2) (fun i c s=>(s.1,s.2.1)=c∧Cnt s.2.2 ((nmL l).take i) i) (fun s=>s)
  (fun k s c _=>by rw[Ea,As (by omega)]) (fun k i s d hi hs=>by
   obtain⟨e,a,m⟩:=s
   obtain⟨rfl,hm⟩:=hs
   dsimp only at hm
   have hx:l[i]?=some (l[i]'hi):=List.getElem?_eq_getElem hi
   generalize l[i]'hi=x at *
   refine⟨((Dn (e,a) (L8 md l i)).1,(Dn (e,a) (L8 md l i)).2,Hn m x.An (IntKind.i64.wrap (C2 m x.An 0+1))),⟨rfl,?_⟩,?_⟩
   ·rw[Z0 (Ag4 hx)];exact hm.step (by omega) _
   ·dsimp only
    rw[Ea,Af (by omega),Bm hx,Option.bind_some]
    simp only[Q6,Option.bind_some,B3 i (show i < 4611686018427387904 by omega),hm.no]
    rw[L8,hx];rfl) l.length (n+1) 0 (ce,ca,[]) (ce,ca) (by omega) (by omega) ⟨rfl,Cnt.nil⟩
 rw[show((0:Nat):Int)=0 from rfl] at a3
 refine⟨s'.2.2,?_,?_⟩
 ·rw[List.take_of_length_le (by simp[nmL])] at a2;exact a2
 ·rw[Fg,a3,Option.bind_some,← a1]
def Rt (rg lo:List (List UInt8)) (a:Int) (i:Nat):List Chk:=match rg[i]? with
 | some r=>[(!(rg.take i).contains r&&!lo.contains r,10,a)]
 | none=>[]
theorem Am9 (n:Nat) (th:Th) (md:Int) (l:List Va) (t:List Th) (c:List Cl) (ce ca:Int) (m1:Mi) (m2:Mm) {lo:List (List UInt8)} {b:Nat} (h1:Cnt m1 lo b) (hl:th.B2.length≤5000) (hn:5010 < n):∃ m,Cnt m th.B2 th.B2.length∧Da n th md l t c m1 m2 n 0 ce ca []=some (.out ((Dn (ce,ca) (chF (Rt th.B2 lo th.A8) th.B2.length 0)).1,(Dn (ce,ca) (chF (Rt th.B2 lo th.A8) th.B2.length 0)).2,m)):=by
 obtain⟨n,rfl⟩:∃ j,n=j+1:=⟨n - 1,by omega⟩
 obtain⟨s',⟨a1,a2⟩,a3⟩:=Qy th.B2.length (Rt th.B2 lo th.A8) (fun k i (s:Int×Int×Mi)=>Da (n+1) th md l t c m1 m2 k (i:Int) s.1 s.2.1 s.2.2) (fun i c s=>(s.1,s.2.1)=c∧Cnt s.2.2 (th.B2.take i) i) (fun s=>s)
  (fun k s c _=>by rw[Da,As (by omega)]) (fun k i s d hi hs=>by
   obtain⟨e,a,m⟩:=s
   obtain⟨rfl,hm⟩:=hs
   dsimp only at hm
   have hx:th.B2[i]?=some (th.B2[i]'hi):=List.getElem?_eq_getElem hi
   generalize th.B2[i]'hi=x at *
   refine⟨((Dn (e,a) (Rt th.B2 lo th.A8 i)).1,(Dn (e,a) (Rt th.B2 lo th.A8 i)).2,Hn m x (IntKind.i64.wrap (C2 m x 0+1))),⟨rfl,?_⟩,?_⟩
   ·rw[Z0 hx];exact hm.step (by omega) _
   ·dsimp only
    have hb:=hm x
    have e1:(C2 (Hn m x (IntKind.i64.wrap (C2 m x 0+1))) x 0==1)=!(th.B2.take i).contains x:=by
     rw[Vh,if_pos rfl,C1 (by omega),← hm.no x,Bool.eq_iff_iff,beq_iff_eq,beq_iff_eq];omega
    rw[Da,Af (by omega),Bm hx,Option.bind_some,e1]
    simp only[Q6,Option.bind_some,B3 i (show i < 4611686018427387904 by omega),h1.no]
    rw[Rt,hx]
    dsimp only
    cases (th.B2.take i).contains x<;>rfl) th.B2.length (n+1) 0 (ce,ca,[]) (ce,ca) (by omega) (by omega) ⟨rfl,Cnt.nil⟩
 rw[show((0:Nat):Int)=0 from rfl] at a3
 refine⟨s'.2.2,?_,?_⟩
 ·rw[List.take_of_length_le (Nat.le_refl _)] at a2;exact a2
 ·rw[a3,← a1]
def TM (m:Mm) (l:List Th):Prop:=∀ s,Mg m s=(nmT l).contains s∧match l.find? (fun t=>t.An==s) with
 | some t=>∃ b,Cnt (C2 m s []) t.B2 b
 | none=>C2 m s []=[]
theorem TM.nil:TM [] []:=fun s=>⟨rfl,rfl⟩
theorem Vu {l:List Th} {s:List UInt8}:l.find? (fun t=>t.An==s)=none↔(nmT l).contains s=false:=by
 rw[List.find?_eq_none,← Bool.not_eq_true,List.contains_iff_mem,nmT,List.mem_map]
 constructor
 ·rintro h ⟨t,ht,e⟩;exact h t ht (by rw[e];simp)
 ·rintro h t ht e;exact h ⟨t,ht,by simpa using e⟩
theorem TM.step {m:Mm} {l:List Th} (h:TM m l) (t:Th) {r:Mi} {b:Nat} (hr:Cnt r t.B2 b):TM (if Mg m t.An then m else Hn m t.An r) (l++[t]):=by
 intro s
 obtain⟨h1,h2⟩:=h s
 have hc:(nmT (l++[t])).contains s=((nmT l).contains s || decide (s=t.An)):=by
  rw[Bool.eq_iff_iff,List.contains_iff_mem,Bool.or_eq_true,List.contains_iff_mem,decide_eq_true_eq];simp[nmT]
 rw[List.find?_append]
 by_cases c:Mg m t.An=true
 ·rw[if_pos c]
  refine⟨?_,?_⟩
  ·rw[hc,h1];by_cases e:s=t.An
   ·subst e;rw[← h1,c];rfl
   ·simp[e]
  ·cases hf:l.find? (fun t=>t.An==s) with
   | some u=>rw[hf] at h2;exact h2
   | none =>
    rw[hf] at h2
    have e:(t.An==s)=false:=by
     rw[beq_eq_false_iff_ne];intro e
     have:=Vu.1 hf
     rw[← h1,← e,c] at this;cases this
    simp only[List.find?_cons,e,List.find?_nil,Option.none_or]
    exact h2
 ·rw[if_neg c]
  refine⟨?_,?_⟩
  ·rw[hc,A5n,h1,Bool.or_comm]
  ·rw[Vh]
   by_cases e:s=t.An
   ·subst e
    have hf:l.find? (fun u=>u.An==t.An)=none:=Vu.2 (by rw[← h1];simpa using c)
    rw[hf,if_pos rfl]
    simp only[List.find?_cons,beq_self_eq_true,Option.none_or]
    exact⟨b,hr⟩
   ·rw[if_neg e]
    cases hf:l.find? (fun t=>t.An==s) with
    | some u=>rw[hf] at h2;exact h2
    | none =>
     rw[hf] at h2
     simp only[List.find?_cons,beq_eq_false_iff_ne.2 (Ne.symm e),List.find?_nil,Option.none_or]
     exact h2
def Nu (md:Int) (lo:List (List UInt8)) (l:List Th) (i:Nat):List Chk:=match l[i]? with
 | some t=>(decide ((i:Int) < 4),12,t.A8) :: (!((nmT l).take i).contains t.An,10,t.A8) :: (decide (((t.B2.length:Nat):Int)≤6),12,t.A8) :: (chF (Rt t.B2 lo t.A8) t.B2.length 0++chF (stC (fun x=>t.B2.contains x.An) t.B2.contains lo.contains md t.Al) t.Al.length 0)
 | none=>[]
theorem Ain (n:Nat) (i:Nat) (th:Th) (md:Int) (l:List Va) (t:List Th) (c:List Cl) (ce ca:Int) (m1:Mi) (m2:Mm) {lo:List (List UInt8)} {b:Nat} (h1:Cnt m1 lo b) (h2:TM m2 (t.take i)) (hx:t[i]?=some th) (hr:th.B2.length≤5000) (hb:R7 th.Al) (hn:5020 < n) :
 ∃ m2',TM m2' (t.take (i+1))∧Fp n (i:Int) th md l t c ce ca m1 m2=some ((Dn (ce,ca) (Nu md lo t i)).1,(Dn (ce,ca) (Nu md lo t i)).2,m2'):=by
 obtain⟨n,rfl⟩:∃ j,n=j+2:=⟨n - 2,by omega⟩
 have e2:Mg m2 th.An=((nmT t).take i).contains th.An:=by rw[(h2 th.An).1,nmT,nmT,List.map_take]
 obtain⟨r,r1,r2⟩:=Am9 (n+1) th md l t c (L7 (L7 (L7 (ce,ca) (decide ((i:Int) < 4),12,th.A8)) (!((nmT t).take i).contains th.An,10,th.A8)) (decide (((th.B2.length:Nat):Int)≤6),12,th.A8)).1 (L7 (L7 (L7 (ce,ca) (decide ((i:Int) < 4),12,th.A8)) (!((nmT t).take i).contains th.An,10,th.A8)) (decide (((th.B2.length:Nat):Int)≤6),12,th.A8)).2 m1 m2 h1 hr (by omega)
 refine⟨if Mg m2 th.An then m2 else Hn m2 th.An r,?_,?_⟩
 ·rw[Z0 hx];exact h2.step th r1
 ·rw[Fp]
  simp only[Q6,Option.bind_some,e2]
  rw[r2]
  simp only[Option.bind_some]
  rw[Akm (n+1) th md l t c _ _ m1 m2 r hb (by omega),Akk (n+1) th md l t c _ _ m1 (Hn m2 th.An r) r hb (by omega)]
  simp only[Option.bind_some]
  have k1:(fun s=>decide (0 < C2 r s 0))=th.B2.contains:=funext fun s=>r1.has s
  have k2:(fun s=>decide (0 < C2 m1 s 0))=lo.contains:=funext fun s=>h1.has s
  have k3:knB r=fun x=>th.B2.contains x.An:=funext fun x=>r1.has x.An
  rw[k1,k2,k3,Nu,hx]
  simp only[Jf,I2]
  cases ((nmT t).take i).contains th.An<;>rfl
def ofB (t:List Th) (x:Nd):Bool:=match t.find? (fun t=>t.An==x.Df) with
 | some t=>t.B2.contains x.An
 | none=>false
def clN (lo:List (List UInt8)) (t:List Th) (x:Nd):Bool:=bif x.Bg==3 then lo.contains x.An else ofB t x
def Rf (md:Int) (lo:List (List UInt8)) (t:List Th) (l:List Cl) (i:Nat):List Chk:=match l[i]? with
 | some c=>(decide ((i:Int) < 8),12,c.A8) :: Dx (clN lo t) md c.B4
 | none=>[]
theorem Ali {m1:Mi} {m2:Mm} {lo:List (List UInt8)} {b:Nat} {t:List Th} (h1:Cnt m1 lo b) (h2:TM m2 t):knC m1 m2=clN lo t:=by
 funext x
 rw[knC,clN,h1.has]
 have h:=(h2 x.Df).2
 rw[ofB]
 cases hf:t.find? (fun t=>t.An==x.Df) with
 | some u=>rw[hf] at h;obtain⟨b,h⟩:=h;rw[h.has]
 | none=>rw[hf] at h;dsimp only at h;rw[h];rfl
def Pt (p:Pg):List Chk:=(decide (2≤p.Ay∧p.Ay≤16),11,0) :: (chF (L8 p.Ay p.Ao) p.Ao.length 0++(decide (0 < ((p.Ad.length:Nat):Int)),12,0) :: (chF (Nu p.Ay (nmL p.Ao) p.Ad) p.Ad.length 0++chF (Rf p.Ay (nmL p.Ao) p.Ad p.Aq) p.Aq.length 0))
theorem Ae7 {l:List St} (h:Kw l=true) (hx:∀ x ∈ l,LightX x):R7 l:=by
 obtain⟨F,f1,f2,_,f4,_⟩:=Xh h
 have key:∀ F:SF,F.wf→∀ x ∈ F.flat,0≤x.Al∧x.Al≤(F.flat.length:Int):=by
  intro F
  induction F with
  | nil=>intro _ x hx;cases hx
  | cons y a b r ia ib ir =>
   rintro ⟨h1,h2,ha,hb,hr⟩ x hx
   simp only[SF.flat,List.mem_cons,List.mem_append] at hx
   simp only[SF.flat,List.length_cons,List.length_append]
   rcases hx with rfl | hx | hx | hx
   ·omega
   ·have:=ia ha x hx;omega
   ·have:=ib hb x hx;omega
   ·have:=ir hr x hx;omega
 refine⟨by omega,fun x h=>?_⟩
 have:=key F f1 x (by rw[f2];exact h)
 rw[f2] at this
 obtain⟨_,_,h3,h4⟩:=hx x h
 simp only[H8,Bool.and_eq_true,decide_eq_true_eq] at h3 h4
 exact⟨this.1,by omega,by omega,by omega⟩
theorem Z7 {p:Pg} (hp:K1 p) (h:I4 p=true):∀ t ∈ p.Ad,R7 t.Al:=by
 intro t ht
 simp only[I4,Bool.and_eq_true,List.all_eq_true] at h
 have:=h.2.2.1 t ht
 simp only[M2,Bool.and_eq_true] at this
 exact Ae7 this.2.2.1 (hp.thr t ht).st
theorem An1 (n:Nat) (p:Pg) (y:Int×Int×Mi):∀ (k:Nat) (i:Int) (m:Mm) (a b:Int),J9 n p y k i m a b=Ez n p y k i m a b:=by
 intro k
 induction k with
 | zero=>intros;rfl
 | succ k ih=>intros;rw[J9,Ez];simp only[ih]
theorem Amh (n:Nat) (p:Pg) (y:Int×Int×Mi) (q:Mm):∀ (k:Nat) (i:Int) (a b:Int),J8 n p y q k i a b=Ev n p y q k i a b:=by
 intro k
 induction k with
 | zero=>intros;rfl
 | succ k ih=>intros;rw[J8,Ev];simp only[ih]
theorem A58 (n:Nat) (p:Pg) (hp:K1 p) (hb:∀ t ∈ p.Ad,R7 t.Al) {m1:Mi} {b:Nat} (h1:Cnt m1 (nmL p.Ao) b) (a0 a1:Int) (c:Int×Int) (hn:5030 < n):∃ m2,TM m2 p.Ad ∧
 Ez n p (a0,a1,m1) n 0 [] c.1 c.2=some (.out ((Dn c (chF (Nu p.Ay (nmL p.Ao) p.Ad) p.Ad.length 0)).1,(Dn c (chF (Nu p.Ay (nmL p.Ao) p.Ad) p.Ad.length 0)).2,m2)):=by
 have ht:=hp.threads
 obtain⟨s',⟨a1,a2⟩,a3⟩:=Qy p.Ad.length (Nu p.Ay (nmL p.Ao) p.Ad) (fun k i (s:Int×Int×Mm)=>Ez n p (a0,a1,m1) k (i:Int) s.2.2 s.1 s.2.1) (fun i c s=>(s.1,s.2.1)=c∧TM s.2.2 (p.Ad.take i)) (fun s=>s)
  (fun k s c _=>by rw[Ez,As (by omega)]) (fun k i s d hi hs=>by
   obtain⟨e,a,m⟩:=s
   obtain⟨rfl,hm⟩:=hs
   dsimp only at hm
   have hx:p.Ad[i]?=some (p.Ad[i]'hi):=List.getElem?_eq_getElem hi
   have hmem:=List.getElem_mem hi
   generalize p.Ad[i]'hi=x at *
   have hreg:=(hp.thr x hmem).regs
   obtain⟨m',t1,t2⟩:=Ain n i x p.Ay p.Ao p.Ad p.Aq e a m1 m h1 hm hx (by omega) (hb x hmem) (by omega)
   refine⟨((Dn (e,a) (Nu p.Ay (nmL p.Ao) p.Ad i)).1,(Dn (e,a) (Nu p.Ay (nmL p.Ao) p.Ad i)).2,m'),⟨rfl,t1⟩,?_⟩
   dsimp only
   rw[Ez,Af (by omega),Bm hx,Option.bind_some,t2,Option.bind_some,B3 i (by omega)]) p.Ad.length n 0 (c.1,c.2,[]) c (by omega) (by omega) ⟨rfl,TM.nil⟩
 rw[show((0:Nat):Int)=0 from rfl] at a3
 rw[List.take_of_length_le (Nat.le_refl _)] at a2
 refine⟨s'.2.2,a2,?_⟩
 rw[a3,← a1]
theorem Ahc (n:Nat) (i:Nat) (x:Cl) (md:Int) (l:List Va) (t:List Th) (c:List Cl) (ce ca:Int) (m1:Mi) (m2:Mm) {lo:List (List UInt8)} {b:Nat} (h1:Cnt m1 lo b) (h2:TM m2 t) (hx:c[i]?=some x) (he:x.B4.length≤1000) (hn:1020 < n):G6 n (i:Int) x md l t c ce ca m1 m2=some (Dn (ce,ca) (Rf md lo t c i)):=by
 obtain⟨n,rfl⟩:∃ j,n=j+2:=⟨n - 2,by omega⟩
 rw[G6,Q6,Option.bind_some]
 rw[Aiy (n+1) x.B4 md l t c _ _ m1 m2 he (by omega),Option.bind_some,Ali h1 h2,Rf,hx]
 rfl
theorem A9c (n:Nat) (p:Pg) (hp:K1 p) {m1:Mi} {m2:Mm} {b:Nat} (h1:Cnt m1 (nmL p.Ao) b) (h2:TM m2 p.Ad) (a0 a1:Int) (c:Int×Int) (hn:5030 < n) :
 Ev n p (a0,a1,m1) m2 n 0 c.1 c.2=some (.out (Dn c (chF (Rf p.Ay (nmL p.Ao) p.Ad p.Aq) p.Aq.length 0))):=by
 have hc:=hp.claims
 have he:∀ x ∈ p.Aq,x.B4.length≤1000:=by
  intro x hx
  have:=hp.cl x hx
  simp only[H8,Bool.and_eq_true,decide_eq_true_eq] at this
  omega
 obtain⟨s',a1,a3⟩:=Qy p.Aq.length (Rf p.Ay (nmL p.Ao) p.Ad p.Aq) (fun k i (s:Int×Int)=>Ev n p (a0,a1,m1) m2 k (i:Int) s.1 s.2) (fun i c s=>s=c) (fun s=>s)
  (fun k s c _=>by rw[Ev,As (by omega)]) (fun k i s d hi hs=>by
   subst hs
   have hx:p.Aq[i]?=some (p.Aq[i]'hi):=List.getElem?_eq_getElem hi
   have hmem:=List.getElem_mem hi
   generalize p.Aq[i]'hi=x at *
   refine⟨_,rfl,?_⟩
   rw[Ev,Af (by omega),Bm hx,Option.bind_some,Ahc n i x p.Ay p.Ao p.Ad p.Aq s.1 s.2 m1 m2 h1 h2 hx (he x hmem) (by omega),Option.bind_some,B3 i (by omega)]) p.Aq.length n 0 c c (by omega) (by omega) rfl
 subst a1;exact a3
theorem Ajk (n:Nat) (p:Pg) (hp:K1 p) (hn:6100 < n):Gh n p=some (bif I4 p then Dn (0,0) (Pt p) else(8,0)):=by
 have hl:=hp.locs
 obtain⟨n,rfl⟩:∃ j,n=j+2:=⟨n - 2,by omega⟩
 rw[Gh,Ak2 (n+1) p hp (by omega),Option.bind_some]
 cases hr:I4 p with
 | false=>rfl
 | true =>
  have hb:=Z7 hp hr
  have main:∀ c0:Int×Int,∃ m,Cnt m (nmL p.Ao) p.Ao.length∧Fg (n+1) p.Ay p.Ao p.Ad p.Aq c0.1 c0.2 [] []=some ((Dn c0 (chF (L8 p.Ay p.Ao) p.Ao.length 0)).1,(Dn c0 (chF (L8 p.Ay p.Ao) p.Ao.length 0)).2,m):=fun c0=>Al3 (n+1) p.Ay p.Ao p.Ad p.Aq c0.1 c0.2 (by omega) (by omega)
  rw[cond_true,cond_true]
  simp only[Q6,Option.bind_some]
  by_cases c:2≤p.Ay
  ·rw[Af c]
   obtain⟨m,m1,m2⟩:=main (L7 (0,0) (decide (p.Ay≤16),11,0))
   rw[m2,Option.bind_some]
   dsimp only
   obtain⟨q,q1,q2⟩:=A58 (n+1) p hp hb m1 (Dn (L7 (0,0) (decide (p.Ay≤16),11,0)) (chF (L8 p.Ay p.Ao) p.Ao.length 0)).1 (Dn (L7 (0,0) (decide (p.Ay≤16),11,0)) (chF (L8 p.Ay p.Ao) p.Ao.length 0)).2 (L7 (Dn (L7 (0,0) (decide (p.Ay≤16),11,0)) (chF (L8 p.Ay p.Ao) p.Ao.length 0)) (decide (0 < ((p.Ad.length:Nat):Int)),12,0)) (by omega)
   rw[q2,Option.bind_some]
   dsimp only
   rw[(A9c (n+1) p hp m1 q1 _ _ _ (by omega)),Option.bind_some,Pt]
   simp only[Jf,I2,c,true_and]
  ·rw[As c]
   obtain⟨m,m1,m2⟩:=main (L7 (0,0) (false,11,0))
   rw[m2,Option.bind_some]
   dsimp only
   obtain⟨q,q1,q2⟩:=A58 (n+1) p hp hb m1 (Dn (L7 (0,0) (false,11,0)) (chF (L8 p.Ay p.Ao) p.Ao.length 0)).1 (Dn (L7 (0,0) (false,11,0)) (chF (L8 p.Ay p.Ao) p.Ao.length 0)).2 (L7 (Dn (L7 (0,0) (false,11,0)) (chF (L8 p.Ay p.Ao) p.Ao.length 0)) (decide (0 < ((p.Ad.length:Nat):Int)),12,0)) (by omega)
   rw[An1,q2,Option.bind_some]
   dsimp only
   rw[Amh,(A9c (n+1) p hp m1 q1 _ _ _ (by omega)),Option.bind_some,Pt]
   simp only[Jf,I2,c,false_and,decide_false]
end Go.Proofs.YtpnhafdimkmbbaaGreat
end
