/- Parts of the proofs: what they lean on. Conditions: none. -/
import Derived.Test.YtnijlelbihnamaaGreatProgBackP1
section
namespace Go.Proofs.YtnijlelbihnamaaGreat
set_option linter.unusedVariables false
set_option linter.unusedSimpArgs false
theorem Aey {l:List Tk} {f inn:Nat} (hf:f < 5) (j:Nat) (h:∀ i,j < i→i≤l.length→∃ r,PE l (.fl (f+1)) inn i r):∀ (m i:Nat) (x:List Nd),l.length - i≤m→j≤i→i≤l.length→∃ r,PE l (.lp f x) inn i r:=by
 intro m
 induction m with
 | zero =>
  intro i x hm hj hi
  refine⟨_,.lp_stop ?_⟩
  cases Decidable.em (Fr l i (Fg f)=0) with
  | inl h=>exact h
  | inr h=>have:=Nb h;omega
 | succ m ih =>
  intro i x hm hj hi
  by_cases c:Fr l i (Fg f)=0
  ·exact⟨_,.lp_stop c⟩
  ·have hlt:=Nb c
   obtain⟨r,hr⟩:=h (i+1) (by omega) (by omega)
   cases r with
   | bad e a=>exact⟨_,.lp_bad hf c hr⟩
   | ok y tu =>
    have hto:=H4 hr (by omega);dsimp only at hto
    by_cases c2:f=2
    ·subst c2;exact⟨_,.lp_once c (Ax hlt) hr⟩
    ·obtain⟨r,h2⟩:=ih tu (⟨Fr l i (Fg f),0,[],[],l[i].Ab⟩ :: (x++y)) (by omega) (by omega) (by omega)
     exact⟨_,.lp_go hf c2 c (Ax hlt) hr h2⟩
theorem A11 {l:List Tk} {inn i:Nat} (hi:i≤l.length) (hn:inn≤30) (h:∀ f inn',f≤5→inn'≤30→i < l.length→∃ r,PE l (.fl f) inn' (i+1) r):∃ r,PE l (.fl 5) inn i r:=by
 cases h1:Bj l i [33] with
 | true =>
  have hlt:=D0 h1
  by_cases c:30≤inn
  ·exact⟨_,.deep (.inl h1) c (Ax hlt)⟩
  ·obtain⟨r,hr⟩:=h 5 (inn+1) (by omega) (by omega) hlt
   cases r with
   | bad e a=>exact⟨_,.not_bad h1 (by omega) hr⟩
   | ok y tu=>exact⟨_,.not_ok h1 (by omega) (Ax hlt) hr⟩
 | false =>
 cases h2:Bj l i [40] with
 | true =>
  have hlt:=D0 h2
  by_cases c:30≤inn
  ·exact⟨_,.deep (.inr h2) c (Ax hlt)⟩
  ·obtain⟨r,hr⟩:=h 0 (inn+1) (by omega) (by omega) hlt
   cases r with
   | bad e a=>exact⟨_,.par_bad h2 (by omega) hr⟩
   | ok y tu =>
    cases h3:Bj l tu [41] with
    | true=>exact⟨_,.par_ok h2 (by omega) hr h3⟩
    | false=>exact⟨_,.par_open h2 (by omega) hr h3⟩
 | false =>
 cases h3:isK l i with
 | true =>
  have:i < l.length:=by
   unfold isK at h3
   cases hg:l[i]? with
   | none=>rw[hg] at h3;cases h3
   | some t=>exact H9 hg
  exact⟨_,.num h3 (Ax this)⟩
 | false =>
 cases h4:isN l i with
 | false=>exact⟨_,.no h1 h2 h3 h4⟩
 | true =>
 have hlt:=Ph h4
 cases h5:Bj l (i+1) [46] with
 | false=>exact⟨_,.reg h4 h5 (Ax hlt)⟩
 | true =>
 cases h6:isN l (i+2) with
 | false=>exact⟨_,.of_bad h4 h5 h6⟩
 | true=>exact⟨_,.of h4 h5 h6 (Ax hlt) (Ax (Ph h6))⟩
theorem A76 {l:List Tk}:∀ (m i f inn:Nat),l.length - i≤m→i≤l.length→f≤5→inn≤30→∃ r,PE l (.fl f) inn i r:=by
 intro m
 induction m with
 | zero =>
  intro i f inn hm hi hf hn
  obtain⟨d,hd⟩:∃ d,d+f=5:=⟨5 - f,by omega⟩
  induction d generalizing f with
  | zero=>obtain rfl:f=5:=by omega
          exact A11 hi hn (fun _ _ _ _ h=>by omega)
  | succ d ih =>
   obtain⟨r,hr⟩:=ih (f+1) (by omega) (by omega)
   cases r with
   | bad e a=>exact⟨_,.fl_bad (by omega) hr⟩
   | ok y tu=>have:=H4 hr hi;dsimp only at this;omega
 | succ m ihm =>
  intro i f inn hm hi hf hn
  obtain⟨d,hd⟩:∃ d,d+f=5:=⟨5 - f,by omega⟩
  induction d generalizing f with
  | zero=>obtain rfl:f=5:=by omega
          exact A11 hi hn (fun f' inn' h1 h2 h3=>ihm (i+1) f' inn' (by omega) (by omega) h1 h2)
  | succ d ih =>
   obtain⟨r,hr⟩:=ih (f+1) (by omega) (by omega)
   cases r with
   | bad e a=>exact⟨_,.fl_bad (by omega) hr⟩
   | ok y tu =>
    have hto:=H4 hr hi;dsimp only at hto
    obtain⟨r,h2⟩:=Aey (f:=f) (inn:=inn) (by omega) tu (fun i' h1 h2=>ihm i' (f+1) inn (by omega) h2 (by omega) hn) l.length tu y (by omega) (by omega) (by omega)
    exact⟨_,.fl_ok (by omega) hr h2⟩
def Ly (l:List Tk) (i:Nat):PR→List Nd×Int×Int×Int
 | .bad e a=>([],0,e,a)
 | .ok x tu=>if 30 < (Ff x (0,[])).1 then([],0,7,Bg l i) else if 200 < x.length then([],0,2,Bg l i) else(x,tu,0,0)
theorem Ak4 {l:List Tk} (hl:l.length < 100000) {n i:Nat} {r:PR} (hr:PE l (.fl 0) 0 i r) (hi:i≤l.length) (hn:12*l.length+100≤n):I9 n l (i:Int)=some (Ly l i r):=by
 obtain⟨n,rfl⟩:∃ j,n=j+1:=⟨n - 1,by omega⟩
 have h:=Ail hl hr hi (by omega) n (by omega)
 rw[I9,Aq (by omega)]
 rw[Aa1] at h
 cases r with
 | bad e a =>
  have he:=H4 hr hi;dsimp only at he
  obtain⟨X,i',j,e1,_,_⟩:=h
  have e1:D8 n l (i:Int) 0 0 0=_:=e1
  rw[e1,A1]
  dsimp only
  rw[show(e != 0)=true by simpa using he];rfl
 | ok x tu =>
  have hx:=H4 hr hi;dsimp only at hx
  have h:D8 n l (i:Int) 0 0 0=_:=h
  have ht:l[i]?=some (l[i]'(by omega)):=Ax (by omega)
  have hp:Bg l i=(l[i]'(by omega)).Ab:=by unfold Bg;rw[ht]
  rw[h,A1,A6r n x (by omega) (by omega),Cn ht]
  simp only[bne_self_eq_false,An,A1,Ly,hp]
  by_cases c:30 < (Ff x (0,[])).1
  ·rw[A6 c,if_pos c]
  ·rw[Aq c,if_neg c]
   by_cases c2:200 < x.length
   ·rw[A6 (by omega),if_pos c2]
   ·rw[Aq (by omega),if_neg c2]
def Sb (t:Tk):Prop:=0≤t.Ab∧0≤t.Bs∧t.Bs≤9999
def Or (x:List Nd):Prop:=(∃ t:Tr,t.wf∧t.flat=x)∧∀ y ∈ x,E2 y=true∧y.B3≠3
theorem A46 {op a:Int} (h:5≤op∧op≤14) (ha:0≤a):E2 ⟨op,0,[],[],a⟩=true:=by
 simp only[E2]
 rw[decide_eq_false (by omega),if_neg (by omega),if_neg (by omega),if_neg (by omega)];rfl
theorem Au6 {op:Int} (h:6≤op∧op≤14):Dl op=2:=by unfold Dl;rw[if_neg (by omega),if_neg (by omega),if_pos h]
theorem A61 {l:List Tk} {i f:Nat} (h:Fr l i (Fg f)≠0):6≤Fr l i (Fg f)∧Fr l i (Fg f)≤14:=by
 rcases Afx (l:=l) (i:=i) (ops:=Fg f) (a:=0) with h1 | h1
 ·exact absurd h1 h
 ·exact(Pn f).1 _ h1
theorem A7b {op a:Int} {x y:List Nd} (h:6≤op∧op≤14) (ha:0≤a) (hx:Or x) (hy:Or y):Or (⟨op,0,[],[],a⟩ :: (x++y)):=by
 obtain⟨⟨t,t1,t2⟩,hx⟩:=hx
 obtain⟨⟨u,u1,u2⟩,hy⟩:=hy
 refine⟨⟨.bin ⟨op,0,[],[],a⟩ t u,⟨Au6 h,t1,u1⟩,by rw[Tr.flat,t2,u2]⟩,fun z hz=>?_⟩
 rcases List.mem_cons.1 hz with rfl | hz
 ·exact⟨A46 (by omega) ha,by dsimp only;omega⟩
 ·rcases List.mem_append.1 hz with hz | hz
  ·exact hx z hz
  ·exact hy z hz
theorem Xn {l:List Tk} (hl:∀ t ∈ l,Sb t) {md:Md} {inn i:Nat} {r:PR} (h:PE l md inn i r):match md,r with
 | .fl _,.ok x _=>Or x
 | .lp _ x0,.ok x _=>Or x0→Or x
 | _,_=>True:=by
 have ok:∀ {i:Nat} {t:Tk},l[i]?=some t→Sb t:=fun h=>hl _ (List.mem_of_getElem? h)
 have nm:∀ {i:Nat} {t:Tk},isN l i=true→l[i]?=some t→Cp t.Ac=true:=fun h1 h2=>by
  simp only[isN,h2,Ah] at h1;exact h1.2
 induction h with
 | deep h1 h2 h3=>trivial
 | @not_ok inn i tu t x h1 h2 h3 h4 ih =>
  obtain⟨⟨u,u1,u2⟩,hx⟩:=ih
  refine⟨⟨.un ⟨5,0,[],[],t.Ab⟩ u,⟨(by decide:Dl 5=1),u1⟩,by rw[Tr.flat,u2]⟩,fun z hz=>?_⟩
  rcases List.mem_cons.1 hz with rfl | hz
  ·exact⟨A46 (by omega) (ok h3).1,by dsimp only;omega⟩
  ·exact hx z hz
 | not_bad h1 h2 h4 ih=>trivial
 | par_ok h1 h2 h3 h4 ih=>exact ih
 | par_bad h1 h2 h4 ih=>trivial
 | par_open h1 h2 h3 h4 ih=>trivial
 | @num inn i t h1 h2 =>
  have:=ok h2
  refine⟨⟨.leaf ⟨1,t.Bs,[],[],t.Ab⟩,(by decide:Dl 1=0),rfl⟩,fun z hz=>?_⟩
  obtain rfl:=List.mem_singleton.1 hz
  refine⟨?_,(by decide:(1:Int)≠3)⟩
  simp only[E2]
  rw[decide_eq_false (by have:=this.1;omega),if_pos trivial,decide_eq_true ⟨this.2.1,this.2.2⟩];rfl
 | @reg inn i t h1 h2 h3 =>
  have:=ok h3
  refine⟨⟨.leaf ⟨2,0,t.Ac,[],t.Ab⟩,(by decide:Dl 2=0),rfl⟩,fun z hz=>?_⟩
  obtain rfl:=List.mem_singleton.1 hz
  refine⟨?_,(by decide:(2:Int)≠3)⟩
  simp only[E2]
  rw[decide_eq_false (by have:=this.1;omega),if_neg (by omega),if_pos (.inl trivial),nm h1 h3];rfl
 | @of inn i t u h1 h2 h3 h4 h5 =>
  have:=ok h4
  refine⟨⟨.leaf ⟨4,0,u.Ac,t.Ac,t.Ab⟩,(by decide:Dl 4=0),rfl⟩,fun z hz=>?_⟩
  obtain rfl:=List.mem_singleton.1 hz
  refine⟨?_,(by decide:(4:Int)≠3)⟩
  simp only[E2]
  rw[decide_eq_false (by have:=this.1;omega),if_neg (by omega),if_neg (by omega),if_pos trivial,nm h1 h4,nm h3 h5];rfl
 | of_bad h1 h2 h3=>trivial
 | no h1 h2 h3 h4=>trivial
 | fl_bad h1 h2 ih=>trivial
 | @fl_ok f inn i tu x r h1 h2 h3 ih1 ih2 =>
  cases r with
  | ok y to2=>exact ih2 ih1
  | bad e a=>trivial
 | lp_stop h1=>exact id
 | lp_bad h1 h2 h3 ih=>trivial
 | lp_once h1 h2 h3 ih=>exact fun hx=>A7b (A61 h1) (ok h2).1 hx ih
 | @lp_go f inn i tu x y t r h1 h2 h3 h4 h5 h6 ih1 ih2 =>
  cases r with
  | ok y to2=>exact fun hx=>ih2 (A7b (A61 h3) (ok h4).1 hx ih1)
  | bad e a=>trivial
def ck (t:Tk):Ck:=(t.A7,t.Ac,t.Bs)
def A99 (op:Int):Nat:=if op=14 then 0 else if op=13 then 1 else if 9≤op then 2 else if op=8 then 4 else 3
def Asr (s:List UInt8) (ops:List Int):Int:=ops.foldl (fun acc op=>bif s==Ez op then op else acc) 0
theorem Axp:∀ h,h < 5→∀ op:Int,6≤op∧op≤14→Asr (Ez op) (Fg h)=if h=A99 op then op else 0:=by
 intro h hh op ho
 have:op=6∨op=7∨op=8∨op=9∨op=10∨op=11∨op=12∨op=13∨op=14:=by omega
 rcases this with e | e | e | e | e | e | e | e | e<;>subst e<;>(match h,hh with
  | 0,_=>decide
  | 1,_=>decide
  | 2,_=>decide
  | 3,_=>decide
  | 4,_=>decide)
def Ge (l:List Tk) (i:Nat) (cs:List Ck):Prop:=(l.map ck).drop i=cs
theorem J2 {l:List Tk} {i:Nat} {c:Ck} {cs:List Ck} (h:Ge l i (c :: cs)):∃ t,l[i]?=some t∧ck t=c∧Ge l (i+1) cs:=by
 unfold Ge at h
 have h1:(l.map ck)[i]?=some c:=by
  have:=congrArg (fun l=>l[0]?) h
  simpa [List.getElem?_drop] using this
 rw[List.getElem?_map] at h1
 obtain⟨t,h2,h3⟩:=Option.map_eq_some_iff.1 h1
 refine⟨t,h2,h3,?_⟩
 unfold Ge
 rw[← List.drop_drop,h];rfl
theorem A6w {l:List Tk} {i:Nat} (h:Ge l i []):l[i]?=none:=by
 unfold Ge at h
 have:=List.drop_eq_nil_iff.1 h
 exact List.getElem?_eq_none (by simpa using this)
theorem Ip {l:List Tk} {i:Nat} {a b:List Ck} (h:Ge l i (a++b)):Ge l (i+a.length) b:=by
 unfold Ge at h ⊢
 rw[← List.drop_drop,h,List.drop_left]
theorem Nj {l:List Tk} {i:Nat} {s:List UInt8} {v:Int} {cs:List Ck} (h:Ge l i ((3,s,v) :: cs)) (s':List UInt8):Bj l i s'=(s==s'):=by
 obtain⟨t,h1,h2,_⟩:=J2 h
 injection h2 with e1 e2;injection e2 with e2 e3
 simp only[Bj,h1,e1,e2,beq_self_eq_true,Bool.true_and]
theorem Awy {l:List Tk} {i:Nat} {s:List UInt8} {v:Int} {cs:List Ck} (h:Ge l i ((3,s,v) :: cs)) (ops:List Int):Fr l i ops=Asr s ops:=by
 unfold Fr Asr
 congr 1;funext acc op
 rw[Nj h]
def Wv (cs:List Ck):Prop:=∀ c r,cs=c :: r→c.1=3→c.2.1≠[46]∧∀ op:Int,6≤op∧op≤14→c.2.1≠Ez op
def Aag (cs:List Ck):Prop:=∀ c r,cs=c :: r→c.1=3→c.2.1≠[46]
theorem Auo {l:List Tk} {i:Nat}:∀ {ops:List Int} {a:Int},(∀ op ∈ ops,Bj l i (Ez op)=false)→ops.foldl (fun acc op=>bif Bj l i (Ez op) then op else acc) a=a:=by
 intro ops
 induction ops with
 | nil=>intro a h;rfl
 | cons op ops ih =>
  intro a h
  rw[List.foldl_cons,h op (List.mem_cons_self ..),An]
  exact ih (fun o ho=>h o (List.mem_cons_of_mem _ ho))
theorem A7z {l:List Tk} {i:Nat} {cs:List Ck} (h:Ge l i cs) (hs:Wv cs) (f:Nat):Fr l i (Fg f)=0:=by
 refine Auo (fun op ho=>?_)
 have h6:=(Pn f).1 op ho
 cases cs with
 | nil=>simp[Bj,A6w h]
 | cons c r =>
  obtain⟨t,h1,h2,_⟩:=J2 h
  by_cases c3:c.1=3
  ·have:=(hs c r rfl c3).2 op h6
   rw[← h2] at this
   simp only[Bj,h1]
   rw[Ca.2 (show t.Ac≠Ez op from this)];simp
  ·rw[← h2] at c3
   simp only[Bj,h1]
   rw[Ca.2 (show t.A7≠3 from c3)];simp
theorem Az8 {l:List Tk} {i:Nat} {cs:List Ck} (h:Ge l i cs) (hs:Aag cs):Bj l i [46]=false:=by
 cases cs with
 | nil=>simp[Bj,A6w h]
 | cons c r =>
  obtain⟨t,h1,h2,_⟩:=J2 h
  by_cases c3:c.1=3
  ·have:=hs c r rfl c3
   rw[← h2] at this
   simp only[Bj,h1]
   rw[Ca.2 (show t.Ac≠[46] from this)];simp
  ·rw[← h2] at c3
   simp only[Bj,h1]
   rw[Ca.2 (show t.A7≠3 from c3)];simp
theorem Ame {l:List Tk} {inn i tu:Nat} {x:List Nd}:∀ {d f g:Nat},g=f+d→g≤5→PE l (.fl g) inn i (.ok x tu)→(∀ h,f≤h→h < g→Fr l tu (Fg h)=0)→PE l (.fl f) inn i (.ok x tu):=by
 intro d
 induction d with
 | zero=>intro f g e _ h _;rw[e] at h;exact h
 | succ d ih =>
  intro f g e h5 h hp
  exact .fl_ok (by omega) (ih (f:=f+1) (by omega) h5 h (fun k h1 h2=>hp k (by omega) h2)) (.lp_stop (hp f (by omega) (by omega)))
def Cy (x:Nd):Nd:=⟨if x.B3=3 then 2 else x.B3,x.Bs,x.Ao,x.Cq,0⟩
theorem Aej {x:Nd} (h:E2 x=true) (h1:x.B3=1):x.Ao=[]∧x.Cq=[]:=by
 simp only[E2,h1,if_true,Ah,beq_iff_eq] at h
 exact h.2.2
theorem Aeh {x:Nd} (h:E2 x=true) (h1:x.B3=2∨x.B3=3):x.Bs=0∧x.Cq=[]:=by
 simp only[E2,Ah] at h
 rw[if_neg (by omega),if_pos h1] at h
 simp only[Ah,beq_iff_eq] at h
 exact⟨h.2.1,h.2.2.2⟩
theorem Aqr {x:Nd} (h:E2 x=true) (h1:x.B3=4):x.Bs=0:=by
 simp only[E2,Ah] at h
 rw[if_neg (by omega),if_neg (by omega),if_pos h1] at h
 simp only[Ah,beq_iff_eq] at h
 exact h.2.1
theorem Aom {x:Nd} (h:E2 x=true) (h1:5≤x.B3):x.Bs=0∧x.Ao=[]∧x.Cq=[]:=by
 simp only[E2,Ah] at h
 rw[if_neg (by omega),if_neg (by omega),if_neg (by omega)] at h
 simp only[Ah,beq_iff_eq] at h
 exact⟨h.2.1,h.2.2.1,h.2.2.2⟩
theorem Aoy {op:Int} (h:Dl op=2):6≤op∧op≤14:=by unfold Dl at h;split at h<;>(try split at h)<;>(try split at h)<;>omega
theorem B14 {op:Int} (h:Dl op=1):op=5:=by unfold Dl at h;split at h<;>(try split at h)<;>(try split at h)<;>omega
theorem Amy {op:Int} (h:6≤op∧op≤14):Ez op≠[46]∧Ez op≠[41]∧Ez op≠[33]∧Ez op≠[40]:=by
 have:op=6∨op=7∨op=8∨op=9∨op=10∨op=11∨op=12∨op=13∨op=14:=by omega
 rcases this with e | e | e | e | e | e | e | e | e<;>subst e<;>decide
theorem Asp (r:List Ck):Wv ((3,[41],0) :: r):=by
 intro c r' e h3
 obtain⟨rfl,_⟩:=List.cons.inj e
 exact⟨by decide,fun op ho e=>(Amy ho).2.1 e.symm⟩
theorem Ai1 {cs:List Ck} (h:Wv cs):Aag cs:=fun c r e h3=>(h c r e h3).1
theorem Axc {op:Int} (h:6≤op∧op≤14) (r:List Ck):Aag ((3,Ez op,0) :: r):=by
 intro c r' e h3
 obtain⟨rfl,_⟩:=List.cons.inj e
 exact(Amy h).1
theorem Arp {l:List Tk}:∀ (t:Tr),t.wf→P0 t.flat →
 (∀ (i inn:Nat) (rest:List Ck),Ge l i (It t true++rest)→inn+t.dep≤30→Aag rest→∃ x,PE l (.fl 5) inn i (.ok x (i+(It t true).length))∧x.map Cy=t.flat.map Cy) ∧
 (∀ (i inn:Nat) (rest:List Ck),Ge l i (It t false++rest)→inn+t.dep≤30→Wv rest→∃ x,PE l (.fl 0) inn i (.ok x (i+(It t false).length))∧x.map Cy=t.flat.map Cy):=by
 intro t
 have lift:∀ {t:Tr},It t true=It t false→(∀ (i inn:Nat) (rest:List Ck),Ge l i (It t true++rest)→inn+t.dep≤30→Aag rest→∃ x,PE l (.fl 5) inn i (.ok x (i+(It t true).length))∧x.map Cy=t.flat.map Cy)→(∀ (i inn:Nat) (rest:List Ck),Ge l i (It t false++rest)→inn+t.dep≤30→Wv rest→∃ x,PE l (.fl 0) inn i (.ok x (i+(It t false).length))∧x.map Cy=t.flat.map Cy):=by
  intro t e h i inn rest hf hd hs
  rw[← e] at hf ⊢
  obtain⟨x,h1,h2⟩:=h i inn rest hf hd (Ai1 hs)
  exact⟨x,Ame (d:=5) rfl (by omega) h1 (fun k _ _=>A7z (Ip hf) hs k),h2⟩
 induction t with
 | leaf x =>
  intro h hn
  have hk:=Adw.1 h
  have hx:=(hn x (by simp[Tr.flat])).1
  have hA:∀ (i inn:Nat) (rest:List Ck),Ge l i (It (.leaf x) true++rest)→inn+(Tr.leaf x).dep≤30→Aag rest→∃ y,PE l (.fl 5) inn i (.ok y (i+(It (.leaf x) true).length))∧y.map Cy=(Tr.leaf x).flat.map Cy:=by
   intro i inn rest hf hd hs
   rw[It] at hf ⊢
   by_cases c1:x.B3=1
   ·rw[if_pos c1] at hf ⊢
    obtain⟨t,h1,h2,h3⟩:=J2 hf
    injection h2 with e1 e2;injection e2 with e2 e3
    refine⟨_,.num (by simp[isK,h1,e1]) h1,?_⟩
    obtain⟨b1,b2⟩:=Aej hx c1
    simp[Tr.flat,Cy,c1,b1,b2,e3]
   ·rw[if_neg c1] at hf ⊢
    obtain⟨n1,n2⟩:=Yw hx hk c1
    by_cases c4:x.B3=4
    ·rw[if_pos c4] at hf ⊢
     obtain⟨t,h1,h2,h3⟩:=J2 hf
     injection h2 with e1 e2;injection e2 with e2 e3
     have hdot:=Nj h3 [46]
     obtain⟨_,_,_,h4⟩:=J2 h3
     obtain⟨u,g1,g2,g3⟩:=J2 h4
     injection g2 with f1 f2;injection f2 with f2 f3
     refine⟨_,.of (by simp[isN,h1,e1,e2,n2 c4]) (by rw[hdot];rfl) (by simp only[isN,g1,f1,f2,n1];rfl) h1 g1,?_⟩
     have b:=Aqr hx c4
     simp[Tr.flat,Cy,c4,b,e2,f2]
    ·rw[if_neg c4] at hf ⊢
     obtain⟨t,h1,h2,h3⟩:=J2 hf
     injection h2 with e1 e2;injection e2 with e2 e3
     refine⟨_,.reg (by simp[isN,h1,e1,e2,n1]) (Az8 h3 hs) h1,?_⟩
     obtain⟨b1,b2⟩:=Aeh hx (by omega)
     have e0:(if x.B3=3 then(2:Int) else x.B3)=2:=by split<;>omega
     simp[Tr.flat,Cy,e0,b1,b2,e2]
  exact⟨hA,lift rfl hA⟩
 | un x a ih =>
  intro h hn
  have h5:=B14 h.1
  have hx:=(hn x (by simp[Tr.flat])).1
  have iha:=(ih h.2 (fun y hy=>hn y (by simp[Tr.flat,hy]))).1
  have hA:∀ (i inn:Nat) (rest:List Ck),Ge l i (It (.un x a) true++rest)→inn+(Tr.un x a).dep≤30→Aag rest→∃ y,PE l (.fl 5) inn i (.ok y (i+(It (.un x a) true).length))∧y.map Cy=(Tr.un x a).flat.map Cy:=by
   intro i inn rest hf hd hs
   rw[It] at hf ⊢
   simp only[Tr.dep] at hd
   obtain⟨t,h1,h2,h3⟩:=J2 hf
   obtain⟨y,y1,y2⟩:=iha (i+1) (inn+1) rest h3 (by omega) hs
   have hs33:Bj l i [33]=true:=by rw[Nj hf];rfl
   refine⟨⟨5,0,[],[],t.Ab⟩ :: y,?_,?_⟩
   ·have:=PE.not_ok hs33 (by omega) h1 y1
    rw[List.length_cons,show i+((It a true).length+1)=i+1+(It a true).length by omega];exact this
   ·obtain⟨b1,b2,b3⟩:=Aom hx (by omega)
    rw[Tr.flat,List.map_cons,List.map_cons,y2]
    congr 1
    simp[Cy,h5,b1,b2,b3]
  exact⟨hA,lift rfl hA⟩
 | bin x a b iha ihb =>
  intro h hn
  have h5:=Aoy h.1
  have hx:=(hn x (by simp[Tr.flat])).1
  have iha:=(iha h.2.1 (fun y hy=>hn y (by simp[Tr.flat,hy]))).1
  have ihb:=(ihb h.2.2 (fun y hy=>hn y (by simp[Tr.flat,hy]))).1
  have hB:∀ (i inn:Nat) (rest:List Ck),Ge l i (It (.bin x a b) false++rest)→inn+a.dep≤30→inn+b.dep≤30→Wv rest→∃ y,PE l (.fl 0) inn i (.ok y (i+(It (.bin x a b) false).length))∧y.map Cy=(Tr.bin x a b).flat.map Cy:=by
   intro i inn rest hf hda hdb hs
   rw[It,An] at hf ⊢
   rw[List.append_assoc] at hf
   obtain⟨y,y1,y2⟩:=iha i inn _ hf hda (Axc h5 _)
   have hf2:=Ip hf
   rw[List.cons_append] at hf2
   obtain⟨t,h1,h2,h3⟩:=J2 hf2
   obtain⟨z,z1,z2⟩:=ihb _ inn rest h3 hdb (Ai1 hs)
   have hf3:=Ip h3
   have hp:∀ k,k < 5→Fr l (i+(It a true).length) (Fg k)=if k=A99 x.B3 then x.B3 else 0:=fun k hk=>by rw[Awy hf2,Axp k hk _ h5]
   have hF:A99 x.B3 < 5:=by unfold A99;repeat' split
                            all_goals omega
   generalize hFF:A99 x.B3=F at *
   have pF:=hp F hF
   rw[if_pos rfl] at pF
   have a1:PE l (.fl (F+1)) inn i (.ok y (i+(It a true).length)):=Ame (d:=4 - F) (by omega) (by omega) y1 (fun k k1 k2=>by rw[hp k (by omega),if_neg (by omega)])
   have b1:PE l (.fl (F+1)) inn (i+(It a true).length+1) (.ok z (i+(It a true).length+1+(It b true).length)):=Ame (d:=4 - F) (by omega) (by omega) z1 (fun k k1 k2=>A7z hf3 hs k)
   have hne:Fr l (i+(It a true).length) (Fg F)≠0:=by rw[pF];omega
   have c1:PE l (.fl F) inn i (.ok (⟨x.B3,0,[],[],t.Ab⟩ :: (y++z)) (i+(It a true).length+1+(It b true).length)):=by
    refine .fl_ok hF a1 ?_
    by_cases c2:F=2
    ·subst c2
     have:=PE.lp_once (x:=y) hne h1 b1
     rw[pF] at this;exact this
    ·have:=PE.lp_go (x:=y) (r:=.ok (⟨x.B3,0,[],[],t.Ab⟩ :: (y++z)) (i+(It a true).length+1+(It b true).length)) hF c2 hne h1 b1 (by rw[pF];exact .lp_stop (A7z hf3 hs F))
     exact this
   refine⟨⟨x.B3,0,[],[],t.Ab⟩ :: (y++z),?_,?_⟩
   ·have:=Ame (f:=0) (d:=F) (by omega) (by omega) c1 (fun k _ _=>A7z hf3 hs k)
    rw[List.length_append,List.length_cons,show i+((It a true).length+((It b true).length+1))=i+(It a true).length+1+(It b true).length by omega]
    exact this
   ·obtain⟨b1,b2,b3⟩:=Aom hx (by omega)
    rw[Tr.flat,List.map_cons,List.map_cons,List.map_append,List.map_append,y2,z2]
    congr 1
    simp[Cy,b1,b2,b3]
  refine⟨fun i inn rest hf hd hs=>?_,fun i inn rest hf hd hs=>hB i inn rest hf (by simp only[Tr.dep] at hd;omega) (by simp only[Tr.dep] at hd;omega) hs⟩
  have et:It (.bin x a b) true=(3,[40],0) :: (It (.bin x a b) false++[(3,[41],0)]):=by rw[It,It];rfl
  rw[et] at hf ⊢
  simp only[Tr.dep] at hd
  rw[List.cons_append,List.append_assoc] at hf
  obtain⟨t,h1,h2,h3⟩:=J2 hf
  obtain⟨y,y1,y2⟩:=hB (i+1) (inn+1) _ h3 (by omega) (by omega) (Asp rest)
  have h40:Bj l i [40]=true:=by rw[Nj hf];rfl
  have hf4:=Ip h3
  refine⟨y,?_,y2⟩
  have:=PE.par_ok h40 (by omega) y1 (by rw[Nj hf4];rfl)
  rw[List.length_cons,List.length_append,show i+((It (.bin x a b) false).length+[((3:Int),([41]:List UInt8),(0:Int))].length+1)=i+1+(It (.bin x a b) false).length+1 by simp;omega]
  exact this
theorem A8t (f:Nat) (l:List UInt8) (p:Nat) (acc:List Tok):(Ed f l p acc).toks.length≤acc.length+l.length:=by
 induction f generalizing l p acc with
 | zero=>simp[Ed]
 | succ f ih =>
  have hg:=A0i false l
  simp only[Ed]
  rcases hd:l.drop (D7 false l) with _ | ⟨c,u⟩
  ·simp
  ·have hlen:=congrArg List.length hd
   rw[List.length_drop] at hlen
   simp only
   cases ho:Jo (c :: u) with
   | err e=>simp
   | tok k n v =>
    simp only
    have hn:=Sn ho
    have:=ih ((c :: u).drop n) (p+D7 false l+n) (acc++[⟨k,(c :: u).take n,v,(p+D7 false l:Nat)⟩])
    simp only[List.length_append,List.length_singleton,List.length_drop] at this
    omega
theorem Ag6 (l:List UInt8):(Hr l).toks.length≤l.length:=by
 unfold Hr
 split
 ·simp
 ·have:=A8t (l.length+1) l 0 []
  simpa using this
theorem Ag9 {l:List UInt8} {k:Int} {n v:Nat} (h:Jo l=.tok k n v):v≤9999:=by
 rcases l with _ | ⟨c,t⟩
 ·simp[Jo] at h
 ·simp only[Jo] at h
  repeat' split at h
  all_goals first
   | (simp at h;done)
   | (simp only[Lx.tok.injEq] at h;omega)
def Aal (B:Nat) (t:Tok):Prop:=0≤t.at'∧t.at'+t.text.length≤B∧0≤t.n∧t.n≤9999
theorem Aaq (f:Nat) (l:List UInt8) (p B:Nat) (acc:List Tok) (hB:p+l.length≤B) (ha:∀ t ∈ acc,Aal B t):∀ t ∈ (Ed f l p acc).toks,Aal B t:=by
 induction f generalizing l p acc with
 | zero=>exact ha
 | succ f ih =>
  have hg:=A0i false l
  simp only[Ed]
  rcases hd:l.drop (D7 false l) with _ | ⟨c,u⟩
  ·exact ha
  ·have hlen:=congrArg List.length hd
   rw[List.length_drop] at hlen
   simp only
   cases ho:Jo (c :: u) with
   | err e=>simp
   | tok k n v =>
    simp only
    have hn:=Sn ho
    refine ih ((c :: u).drop n) (p+D7 false l+n) _ (by rw[List.length_drop];omega) (fun t ht=>?_)
    rcases List.mem_append.1 ht with ht | ht
    ·exact ha t ht
    ·obtain rfl:=List.mem_singleton.1 ht
     have:=Ag9 ho
     refine⟨by dsimp only;omega,?_,by dsimp only;omega,by dsimp only;omega⟩
     dsimp only
     rw[List.length_take];omega
theorem Aki (l:List UInt8):∀ t ∈ (Hr l).toks,Aal l.length t:=by
 unfold Hr
 split
 ·simp
 ·exact Aaq _ _ _ _ _ (by omega) (by simp)
def Qx (s:List UInt8):List Tk:=(Hr s).toks.map tkS
theorem Wb (s:List UInt8):(∀ t ∈ Qx s,Sb t∧t.Ab+t.Ac.length≤s.length)∧(Qx s).length≤s.length:=by
 refine⟨fun t ht=>?_,by rw[Qx,Au];exact Ag6 s⟩
 obtain⟨u,hu,rfl⟩:=List.mem_map.1 ht
 have:=Aki s u hu
 exact⟨⟨this.1,this.2.2.1,this.2.2.2⟩,this.2.1⟩
def Atm (l:List Tk):PR→Prop
 | .bad _ a=>(∃ t ∈ l,a=t.Ab)∨(∃ i,a=Bg l i)
 | _=>True
theorem Ao1 {l:List Tk} {md:Md} {inn i:Nat} {r:PR} (h:PE l md inn i r):Atm l r:=by
 induction h with
 | deep h1 h2 h3=>exact .inl ⟨_,List.mem_of_getElem? h3,rfl⟩
 | not_bad h1 h2 h4 ih=>exact ih
 | par_bad h1 h2 h4 ih=>exact ih
 | par_open h1 h2 h3 h4 ih=>exact .inr ⟨_,rfl⟩
 | of_bad h1 h2 h3=>exact .inr ⟨_,rfl⟩
 | no h1 h2 h3 h4=>exact .inr ⟨_,rfl⟩
 | fl_bad h1 h2 ih=>exact ih
 | fl_ok h1 h2 h3 ih1 ih2=>exact ih2
 | lp_bad h1 h2 h3 ih=>exact ih
 | lp_go h1 h2 h3 h4 h5 h6 ih1 ih2=>exact ih2
 | _=>trivial
theorem Jj {l:List Tk} {B:Nat} (hB:B < 1000000) (h:∀ t ∈ l,Sb t∧t.Ab+t.Ac.length≤B) (i:Nat):0≤Bg l i∧Bg l i≤B:=by
 unfold Bg
 cases h1:l[i]? with
 | some t=>have:=h t (List.mem_of_getElem? h1);have:=this.1.1;dsimp only;omega
 | none =>
  cases h2:l[l.length - 1]? with
  | some t=>have:=h t (List.mem_of_getElem? h2);have:=this.1.1;dsimp only;rw[Cx (by omega)];omega
  | none=>dsimp only;omega
theorem A41 {l:List Tk} {B:Nat} (hB:B < 1000000) (h:∀ t ∈ l,Sb t∧t.Ab+t.Ac.length≤B) {md:Md} {inn i:Nat} {e a:Int} (hp:PE l md inn i (.bad e a)):0≤a∧a≤B:=by
 rcases Ao1 hp with ⟨t,ht,rfl⟩ | ⟨i,rfl⟩
 ·have:=h t ht;have:=this.1.1;omega
 ·exact Jj hB h i
theorem Aqc:∀ (t:Tr) (o:Bool),t.wf→P0 t.flat→(Ig t o).length≤40*t.flat.length:=by
 have nl:∀ {w:List UInt8},Cp w=true→w.length≤16:=fun h=>by
  obtain⟨_,_,_,_,_,h⟩:=S5 h;exact h
 intro t
 induction t with
 | leaf x =>
  intro o h hn
  have hx:=(hn x (by simp[Tr.flat])).1
  have hk:=Adw.1 h
  rw[Ig,Tr.flat]
  by_cases c1:x.B3=1
  ·rw[if_pos c1];have:=(Amp (A78 hx c1)).1;simp;omega
  ·obtain⟨n1,n2⟩:=Yw hx hk c1
   have:=nl n1
   rw[if_neg c1]
   by_cases c4:x.B3=4
   ·rw[if_pos c4];have:=nl (n2 c4);simp;omega
   ·rw[if_neg c4];simp;omega
 | un x a ih =>
  intro o h hn
  have:=ih true h.2 (fun y hy=>hn y (by simp[Tr.flat,hy]))
  rw[Ig,Tr.flat];simp;omega
 | bin x a b iha ihb =>
  intro o h hn
  have h1:=iha true h.2.1 (fun y hy=>hn y (by simp[Tr.flat,hy]))
  have h2:=ihb true h.2.2 (fun y hy=>hn y (by simp[Tr.flat,hy]))
  have h3:=(A6q 0 (show 5≤x.B3∧x.B3≤14 by have:=Aoy h.1;omega)).2
  rw[Ig,Tr.flat]
  cases o<;>simp<;>omega
theorem B1g (toks:List Tok):(toks.map tkS).map ck=toks.map Tok.core:=by
 rw[List.map_map];rfl
theorem Afm {l:List Nd} (h6:l.all E2=true) (hl:Hn l=true):P0 l:=by
 simp only[Hn,Ah,C1,List.all_eq_true] at hl
 exact fun x hx=>⟨List.all_eq_true.1 h6 x hx,(hl.2 x hx).1,(hl.2 x hx).2⟩
theorem Awd {t:Tr} (h:t.wf) (hn:P0 t.flat) (hl:t.flat.length≤200) (he:Ep t.flat=true) {n:Nat} (hf:1000 < n):Gk n t.flat=some (Ig t false):=by
 obtain⟨n,rfl⟩:∃ j,n=j+1:=⟨n - 1,by omega⟩
 have hd:=t.dep_lt
 have s1:I1 n t.flat 0 false=some (Ig t false,((t.flat.length:Nat):Int)):=by
  have:=Ay9 t n [] [] false h hn (by simp;omega) (by omega)
  simpa using this
 rw[Gk,Y6 n t.flat (by omega) (by omega),A1,he,Af,s1];rfl
theorem A57 {x:List Nd} (h:Or x) (hl:x.length≤200):Hn x=true:=by
 simp only[Hn,Ah,C1,List.all_eq_true]
 refine⟨by omega,fun y hy=>?_⟩
 have hy:=(h.2 y hy).1
 have nl:∀ {w:List UInt8},Cp w=true→w.length≤16:=fun h=>by
  obtain⟨_,_,_,_,_,h⟩:=S5 h;exact h
 simp only[E2,Ah] at hy
 have hy:=hy.2
 by_cases c1:y.B3=1
 ·rw[if_pos c1] at hy
  simp only[Ah,beq_iff_eq] at hy
  rw[hy.2.1,hy.2.2];simp
 ·rw[if_neg c1] at hy
  by_cases c2:y.B3=2∨y.B3=3
  ·rw[if_pos c2] at hy
   simp only[Ah,beq_iff_eq] at hy
   have:=nl hy.2.1
   rw[hy.2.2];simp;omega
  ·rw[if_neg c2] at hy
   by_cases c4:y.B3=4
   ·rw[if_pos c4] at hy
    simp only[Ah,beq_iff_eq] at hy
    have:=nl hy.2.1;have:=nl hy.2.2
    omega
   ·rw[if_neg c4] at hy
    simp only[Ah,beq_iff_eq] at hy
    rw[hy.2.1,hy.2.2];simp
theorem W6 {x:List Nd} (h:Or x) (hl:x.length≤200) (hd:(Ff x (0,[])).1≤30):∃ t:Tr,t.wf∧t.flat=x∧t.dep≤30∧P0 t.flat∧Ep x=true:=by
 obtain⟨⟨t,t1,rfl⟩,hg⟩:=h
 have hd2:=A38 t [] 0 [] t1 (by omega)
 rw[List.append_nil] at hd2
 have e:(Ff t.flat (0,[])).1=(t.dep:Int):=by rw[hd2];simp[Ff]
 have hp:=t.flat_pos
 have h6:t.flat.all E2=true:=List.all_eq_true.2 fun y hy=>(hg y hy).1
 have he:H6 t.flat 1=some t.flat.length:=by
  have:=Ado t 1 [] t1 (by omega)
  rw[List.append_nil,if_pos rfl] at this;exact this
 refine⟨t,t1,rfl,by omega,Afm h6 (A57 ⟨⟨t,t1,rfl⟩,hg⟩ hl),?_⟩
 simp only[Ep,Ah,C1]
 exact⟨⟨hp,hl⟩,he,h6,hd⟩
theorem A4a {l:List Tk} {i:Nat} {r:PR} (hr:PE l (.fl 0) 0 i r) (hi:i≤l.length):(∃ e a,Ly l i r=([],0,e,a)∧e≠0∧(r=.bad e a∨a=Bg l i))∨(∃ x tu,r=.ok x tu∧Ly l i r=(x,(tu:Int),0,0)∧x.length≤200∧(Ff x (0,[])).1≤30):=by
 cases r with
 | bad e a=>exact .inl ⟨e,a,rfl,H4 hr hi,.inl rfl⟩
 | ok x tu =>
  simp only[Ly]
  by_cases c:30 < (Ff x (0,[])).1
  ·rw[if_pos c];exact .inl ⟨7,_,rfl,by decide,.inr rfl⟩
  ·rw[if_neg c]
   by_cases c2:200 < x.length
   ·rw[if_pos c2];exact .inl ⟨2,_,rfl,by decide,.inr rfl⟩
   ·rw[if_neg c2];exact .inr ⟨x,tu,rfl,rfl,by omega,by omega⟩
set_option maxRecDepth 10000
theorem Sv (l:List Tk) (i:Nat):Fj l i≠0:=by unfold Fj;split<;>decide
theorem Wl {T:Nat} {l:List Tk} (hl:l.length < 100000) (hk:∀ t ∈ l,Sb t) (hT:∀ t ∈ l,t.Ac.length≤T) (hT2:T < 100000) {n i:Nat} {r:PR} (hr:PE l (.fl 0) 0 i r) (hi:i≤l.length) (hn:12*l.length+T+200≤n) :
 I9 n l (i:Int)=some (Ly l i r):=Ak4 hl hr hi (by omega)
abbrev St:=A0
def N9 (x:List Nd):Bool:=(x.filter Gb).all fun y=>y.B3==2
theorem A3x {F:Nat→Int→Option (LR Unit Bool)} (l:List Nd) (h0:∀ k i,l.length≤i→F (k+1) (i:Int)=some (.out ())) (h1:∀ k i x,i < l.length→l[i]?=some x→F (k+1) (i:Int)=bif x.B3 != 2 then some (.ret false) else F k ((i+1:Nat):Int)):∀ (m i k:Nat),l.length - i≤m→l.length - i < k→F k (i:Int)=some (if(l.drop i).all (fun y=>y.B3==2) then .out () else .ret false):=by
 intro m
 induction m with
 | zero =>
  intro i k h hk
  obtain⟨k,rfl⟩:∃ j,k=j+1:=⟨k - 1,by omega⟩
  rw[h0 k i (by omega),List.drop_of_length_le (by omega)];rfl
 | succ m ih =>
  intro i k h hk
  obtain⟨k,rfl⟩:∃ j,k=j+1:=⟨k - 1,by omega⟩
  by_cases hi:i < l.length
  ·rw[h1 k i _ hi (Ax hi),ih (i+1) k (by omega) (by omega),List.drop_eq_getElem_cons hi,List.all_cons]
   by_cases hx:l[i].B3=2
   ·simp[hx]
   ·have:(l[i].B3==2)=false:=by rw[beq_eq_false_iff_ne];exact hx
    simp[this,bne]
  ·rw[h0 k i (by omega),List.drop_of_length_le (by omega)];rfl
theorem Adj {x:List Nd} (h:Or x) (hl:x.length≤200) (hd:(Ff x (0,[])).1≤30) {n:Nat} (hn:600 < n):J6 n x=some (N9 x):=by
 obtain⟨t,_,_,_,_,h5⟩:=W6 h hl hd
 obtain⟨n,rfl⟩:∃ j,n=j+1:=⟨n - 1,by omega⟩
 have hf:(x.filter Gb).length≤200:=Nat.le_trans (List.length_filter_le ..) hl
 rw[J6,A97 n x (by omega) (by omega),A1]
 have:=A3x (F:=fun k i=>Gd n (x.filter Gb) k i) (x.filter Gb) (fun k i h=>by rw[Gd,Aq (by omega)]) (fun k i y hi hy=>by rw[Gd,A6 (by omega),Cn hy,A1,Ay i (by omega)]) (x.filter Gb).length 0 n (by omega) (by omega)
 rw[show((0:Nat):Int)=0 from rfl] at this
 rw[this,A1,List.drop_zero,Y6 n x (by omega) (by omega),h5]
 unfold N9
 by_cases c:(x.filter Gb).all (fun y=>y.B3==2)=true
 ·rw[if_pos c,c];rfl
 ·rw[if_neg c];rw[Bool.not_eq_true] at c;rw[c]
structure Toks (T:Nat) (l:List Tk):Prop where
 len:l.length < 100000
 ok:∀ t ∈ l,Sb t
 txt:∀ t ∈ l,t.Ac.length≤T
 small:T < 100000
def M2 (l:List Tk) (i:Nat):PR→PR
 | .bad e a=>.bad e a
 | .ok x tu=>if 30 < (Ff x (0,[])).1 then .bad 7 (Bg l i) else if 200 < x.length then .bad 2 (Bg l i) else if N9 x=true then .ok x tu else .bad 5 (Bg l i)
open Classical in
noncomputable def exQ (l:List Tk) (i:Nat):PR:=if h:∃ r,PE l (.fl 0) 0 i r then M2 l i h.choose else .bad 6 0
theorem Vp {T:Nat} {l:List Tk} (hk:Toks T l) {i:Nat} (hi:i≤l.length):∃ r,PE l (.fl 0) 0 i r∧exQ l i=M2 l i r:=by
 have h:∃ r,PE l (.fl 0) 0 i r:=A76 l.length i 0 0 (by omega) hi (by omega) (by omega)
 exact⟨h.choose,h.choose_spec,by unfold exQ;rw[dif_pos h]⟩
theorem A8w {T:Nat} {l:List Tk} (hk:Toks T l) {i:Nat} (hi:i≤l.length):match exQ l i with
 | .ok x tu=>i < tu∧tu≤l.length∧x.length≤200
 | .bad e _=>e≠0:=by
 obtain⟨r,hr,e⟩:=Vp hk hi
 rw[e]
 cases r with
 | bad e a=>exact H4 hr hi
 | ok x tu =>
  have:=H4 hr hi;dsimp only at this
  simp only[M2]
  split
  ·rename_i h;split at h
   ·cases h
   ·split at h
    ·cases h
    ·split at h
     ·cases h;omega
     ·cases h
  ·rename_i h;split at h
   ·cases h;decide
   ·split at h
    ·cases h;decide
    ·split at h
     ·cases h
     ·cases h;decide
abbrev Mp:=List (List UInt8×Int)
theorem Toks.at' {T:Nat} {l:List Tk} (hk:Toks T l) {i:Nat} (h:i < l.length):Bg l i=(l[i]).Ab:=by unfold Bg;rw[Ax h]
theorem A1c {l:List Tk} (hk:∀ t ∈ l,Sb t) {i:Nat} {r:PR} (hr:PE l (.fl 0) 0 i r) (hi:i≤l.length) :
 (∃ e a,e≠0∧Ly l i r=([],0,e,a)∧M2 l i r=.bad e a) ∨
 (∃ (x:List Nd) (tu:Nat),Ly l i r=(x,(tu:Int),0,0)∧i < tu∧tu≤l.length∧x.length≤200∧Or x∧(Ff x (0,[])).1≤30∧M2 l i r=if N9 x=true then .ok x tu else .bad 5 (Bg l i)):=by
 cases r with
 | bad e a=>exact .inl ⟨e,a,H4 hr hi,rfl,rfl⟩
 | ok x tu =>
  have hx:=H4 hr hi;dsimp only at hx
  have hg:Or x:=Xn hk hr
  simp only[Ly,M2]
  by_cases c:30 < (Ff x (0,[])).1
  ·rw[if_pos c,if_pos c];exact .inl ⟨7,_,by decide,rfl,rfl⟩
  ·rw[if_neg c,if_neg c]
   by_cases c2:200 < x.length
   ·rw[if_pos c2,if_pos c2];exact .inl ⟨2,_,by decide,rfl,rfl⟩
   ·rw[if_neg c2,if_neg c2];exact .inr ⟨x,tu,rfl,by omega,by omega,by omega,hg,by omega,rfl⟩
theorem Wa (n:Nat) (s:List UInt8) (l:List Tk) (i:Nat) (a b:Int) (m:Mp):Dd (n+1) 3 s l (i:Int) a b m=some (Bj l i s):=by
 rw[Dd]
 by_cases h:i < l.length
 ·rw[A6 (by omega),C8 h,A1,A1]
  unfold Bj
  rw[Ax h]
  dsimp only
  cases hk:(l[i].A7==3)<;>simp
 ·rw[Aq (by omega)]
  unfold Bj
  rw[List.getElem?_eq_none (by omega)]
theorem Zb (n:Nat) (l:List Tk) (i:Nat) (c a b:Int) (m:Mp) (hl:l.length < 1000000):Ei (n+1) (i:Int) l c a b m=some (Bg l i):=by
 rw[Ei]
 by_cases h:i < l.length
 ·rw[A6 (by omega),C8 h,A1]
  unfold Bg
  rw[Ax h]
 ·rw[Aq (by omega)]
  unfold Bg
  rw[List.getElem?_eq_none (by omega)]
  by_cases h0:l.length=0
  ·have:l=[]:=List.length_eq_zero_iff.1 h0
   subst this
   rfl
  ·have e:IntKind.i64.wrap ((l.length:Int) - 1)=((l.length - 1:Nat):Int):=by rw[Cx (by omega)];omega
   rw[e,A6 (by omega),C8 (show l.length - 1 < l.length by omega),A1,A1,Ax (show l.length - 1 < l.length by omega)]
theorem Y8 (n:Nat) (l:List Tk) (i:Nat) (m:Mp) (hl:l.length < 1000000):D4 (n+2) l (i:Int) 0 0 m=some (Fj l i,Bg l i):=by
 rw[D4,bne_self_eq_false,An,Zb n l i _ _ _ m hl,A1]
 unfold Fj
 by_cases h:i < l.length
 ·rw[Aq (by omega),if_pos h]
 ·rw[A6 (by omega),if_neg h]
theorem Q5 (n:Nat) (s:List UInt8) (l:List Tk) (i e a:Int) (m:Mp) (he:e≠0):Bl (n+1) s l i e a m=some (i,e,a):=by
 rw[Bl,show(e != 0)=true by rw[bne_iff_ne];exact he,Af]
theorem S6 (n:Nat) (s:List UInt8) (l:List Tk) (i:Nat) (m:Mp) (hl:l.length < 1000000):Bl (n+3) s l (i:Int) 0 0 m=some (if Bj l i s=true then(((i+1:Nat):Int),0,0) else((i:Int),Fj l i,Bg l i)):=by
 rw[Bl,bne_self_eq_false,An,Wa,A1]
 by_cases c:Bj l i s=true
 ·have:=D0 c
  rw[if_pos c,c,Af,Ay i (by omega)]
 ·rw[if_neg c];rw[Bool.not_eq_true] at c
  rw[c,An,Y8 n l i m hl,A1]
def txt (l:List Tk) (i:Nat):List UInt8:=match l[i]? with | some t=>t.Ac | none=>[]
theorem Acg (n:Nat) (l:List Tk) (i:Nat) (m:Mp) (hl:l.length < 1000000):Gy (n+3) l (i:Int) 0 0 m=some (if isN l i=true then(txt l i,((i+1:Nat):Int),0,0) else([],(i:Int),Fj l i,Bg l i)):=by
 rw[Gy,bne_self_eq_false,An,Y8 n l i m hl]
 by_cases h:i < l.length
 ·have e1:IntKind.i64.wrap (IntKind.i64.wrap ((i:Int)+1) - 1)=(i:Int):=by rw[Ay i (by omega),Cx (by omega)];omega
  rw[Aq (by omega),C8 h,A1,e1,C8 h,Ay i (by omega)]
  have hn:isN l i=(l[i].A7==1&&Cp l[i].Ac):=by unfold isN;rw[Ax h]
  have ht:txt l i=l[i].Ac:=by unfold txt;rw[Ax h]
  rw[hn,ht]
  by_cases h1:l[i].A7=1
  ·rw[h1,bne_self_eq_false,An]
   simp only[A1,Dp,beq_self_eq_true,Bool.true_and]
   cases Cp l[i].Ac<;>rfl
  ·rw[show(l[i].A7 != 1)=true by rw[bne_iff_ne];exact h1,show(l[i].A7==1)=false by rw[beq_eq_false_iff_ne];exact h1];rfl
 ·rw[A6 (by omega)]
  have hn:isN l i=false:=by unfold isN;rw[List.getElem?_eq_none (by omega)]
  rw[hn];rfl
theorem Acv {T:Nat} {l:List Tk} (hk:Toks T l) {i n:Nat} (m:Mp) (hi:i≤l.length) (hn:12*l.length+T+800≤n):Gx n l (i:Int) 0 0 m=some (match exQ l i with | .ok x tu=>(x,(tu:Int),0,0) | .bad e a=>([],(i:Int),e,a)):=by
 obtain⟨r,hr,e⟩:=Vp hk hi
 obtain⟨n,rfl⟩:∃ j,n=j+3:=⟨n - 3,by omega⟩
 have hl:=hk.len
 rw[Gx,bne_self_eq_false,An,Wl hk.len hk.ok hk.txt hk.small hr hi (by omega),e,A1]
 rcases A1c hk.ok hr hi with ⟨e,a,h0,h1,h2⟩ | ⟨x,tu,h1,h3,h4,h5,h6,h7,h2⟩
 ·rw[h1,h2]
  dsimp only
  rw[show(e != 0)=true by rw[bne_iff_ne];exact h0];rfl
 ·rw[h1,h2]
  dsimp only
  rw[bne_self_eq_false,An,Adj h6 h5 h7 (by omega),A1]
  by_cases c:N9 x=true
  ·rw[if_pos c,c];rfl
  ·rw[if_neg c];rw[Bool.not_eq_true] at c
   have hlt:i < l.length:=by omega
   rw[c,An,Y8 n l i m (by omega),A1]
   unfold Fj;rw[if_pos hlt]
structure Fs where
 reg:List UInt8
 loc:List UInt8
 e:List Nd
 f:List Nd
 ne:Bool
inductive FR where
 | ok (s:Fs) (i:Nat)
 | bad (e a:Int)
def Hg (l:List Tk) (ex:Nat→PR) (c:UInt8) (i:Nat) (s:Fs):FR :=
 if c.toNat=114 then(if isN l i=true then .ok { s with reg:=txt l i } (i+1) else .bad (Fj l i) (Bg l i))
 else if c.toNat=108 then(if isN l i=true then .ok { s with loc:=txt l i } (i+1) else .bad (Fj l i) (Bg l i))
 else if c.toNat=101 then(match ex i with | .ok x tu=>.ok { s with e:=x } tu | .bad e a=>.bad e a)
 else if c.toNat=102 then(match ex i with | .ok x tu=>.ok { s with f:=x } tu | .bad e a=>.bad e a)
 else if c.toNat=113 then(if Bj l i [33,61]=true then .ok { s with ne:=true } (i+1) else if Bj l i [61,61]=true then .ok { s with ne:=false } (i+1) else .bad (Fj l i) (Bg l i))
 else if Bj l i [c]=true then .ok s (i+1) else .bad (Fj l i) (Bg l i)
def Gp (l:List Tk) (ex:Nat→PR):List UInt8→Nat→Fs→FR
 | [],i,s=>.ok s i
 | c :: cs,i,s=>match Hg l ex c i s with
   | .ok s' j=>Gp l ex cs j s'
   | .bad e a=>.bad e a
def Ayf (l:List Tk) (i:Nat):FR→Prop
 | .ok _ j=>i < j∧j≤l.length
 | .bad e _=>e≠0
def Axk (l:List Tk) (i:Nat):FR→Prop
 | .ok _ j=>i≤j∧j≤l.length
 | .bad e _=>e≠0
theorem Dz {Q:FR→Prop} {c:Prop} [Decidable c] {a b:FR} (h1:c→Q a) (h2:¬ c→Q b):Q (if c then a else b):=by
 by_cases h:c
 ·rw[if_pos h];exact h1 h
 ·rw[if_neg h];exact h2 h
theorem Wt {T:Nat} {l:List Tk} (hk:Toks T l) {c:UInt8} {i:Nat} {s:Fs} (hi:i≤l.length):Ayf l i (Hg l (exQ l) c i s):=by
 have hex:=A8w hk hi
 have h1:∀ s,Bj l i s=true→i < i+1∧i+1≤l.length:=fun s h=>by have:=D0 h;omega
 have h2:isN l i=true→i < i+1∧i+1≤l.length:=fun h=>by have:=Ph h;omega
 have he:=Sv l i
 unfold Hg
 refine Dz (fun _=>Dz h2 fun _=>he) fun _=>Dz (fun _=>Dz h2 fun _=>he) fun _=>Dz (fun _=>?_) fun _=>Dz (fun _=>?_) fun _=>Dz (fun _=>Dz (h1 _) fun _=>Dz (h1 _) fun _=>he) fun _=>Dz (h1 _) fun _=>he
 ·revert hex;cases exQ l i with
  | ok x tu=>intro h;exact⟨h.1,h.2.1⟩
  | bad e a=>intro h;exact h
 ·revert hex;cases exQ l i with
  | ok x tu=>intro h;exact⟨h.1,h.2.1⟩
  | bad e a=>intro h;exact h
theorem Xk {T:Nat} {l:List Tk} (hk:Toks T l):∀ (cs:List UInt8) (i:Nat) (s:Fs),i≤l.length→Axk l i (Gp l (exQ l) cs i s)
 | [],i,s,hi=>⟨Nat.le_refl _,hi⟩
 | c :: cs,i,s,hi=>by
  have h:=Wt hk (c:=c) (s:=s) hi
  unfold Gp
  revert h
  cases Hg l (exQ l) c i s with
  | bad e a=>intro h;exact h
  | ok s' j =>
   intro h
   have:=Xk hk cs j s' h.2
   dsimp only
   revert this
   cases Gp l (exQ l) cs j s' with
   | ok s2 j2=>intro h2;exact⟨Nat.le_trans (Nat.le_of_lt h.1) h2.1,h2.2⟩
   | bad e a=>intro h2;exact h2
theorem Ajg (pre cs:List UInt8) (c:UInt8) (h:pre.length < 1000000):List.drop ((pre.length:Int)).toNat (List.take (IntKind.i64.wrap ((pre.length:Int)+1)).toNat (pre++c :: cs))=[c]:=by
 rw[Ay pre.length (by omega)]
 rw[Int.toNat_natCast,Int.toNat_natCast,List.take_append,List.take_of_length_le (by omega),show pre.length+1 - pre.length=1 by omega,List.drop_append_of_le_length (by omega),List.drop_length]
 simp
theorem Aj4 (pre cs:List UInt8) (c:UInt8) (h:pre.length < 1000000):(decide (0≤IntKind.i64.wrap ((pre.length:Int)+1))&&decide (IntKind.i64.wrap ((pre.length:Int)+1)≤(((pre++c :: cs).length:Nat):Int))&&decide (0≤(pre.length:Int))&&decide ((pre.length:Int)≤IntKind.i64.wrap ((pre.length:Int)+1)))=true:=by
 rw[Ay pre.length (by omega)]
 simp only[Ah,C1,List.length_append,List.length_cons]
 omega
theorem A29 (pre cs:List UInt8) (c:UInt8):idx (pre++c :: cs) (pre.length:Int)=some c:=by rw[Qg];simp
theorem Y5 (c:UInt8) (k:Nat) (K:Int) (hK:(k:Int)=K):decide ((c.toNat:Int)=K)=decide (c.toNat=k):=by
 subst hK
 by_cases h:c.toNat=k
 ·rw[h];simp
 ·rw[decide_eq_false h,decide_eq_false (by omega)]
theorem A8s {l:List Tk} {n:Nat} (hn:5 < n) (m:Mp) (x4:Tk) (y5:Bn×Bool) (y8:Int) (i e a:Int) (he:e≠0) (s:Fs):∀ (cs pre:List UInt8) (k:Nat),y5.1.f_form=pre++cs→(pre++cs).length < 100→cs.length < k →
 B8 n l m x4 y5 y8 k (pre.length:Int) i e a s.reg s.loc s.e s.f s.ne=some (.out (i,e,a,s.reg,s.loc,s.e,s.f,s.ne)):=by
 intro cs
 obtain⟨n,rfl⟩:∃ j,n=j+1:=⟨n - 1,by omega⟩
 have hb:(e==0)=false:=by rw[beq_eq_false_iff_ne];exact he
 induction cs with
 | nil =>
  intro pre k hf hlen hkk
  obtain⟨k,rfl⟩:∃ j,k=j+1:=⟨k - 1,by omega⟩
  rw[B8,hf,Aq (by simp)]
 | cons c cs ih =>
  intro pre k hf hlen hkk
  obtain⟨k,rfl⟩:∃ j,k=j+1:=⟨k - 1,by omega⟩
  have hp:pre.length < 1000000:=by simp at hlen;omega
  have go:=ih (pre++[c]) k (by simpa using hf) (by simpa using hlen) (by simp at hkk;omega)
  simp only[List.length_append,List.length_singleton] at go
  have hw:=Ay pre.length (show pre.length < 4611686018427387904 by omega)
  rw[B8,hf,A6 (show((pre.length:Nat):Int) < (((pre++c :: cs).length:Nat):Int) by simp;omega)]
  simp only[A29,A1,hb,An,Aj4 pre cs c hp,Af,Ajg pre cs c hp,Q5 _ _ _ _ _ _ _ he]
  simp only[hw,go]
  cases decide ((c.toNat:Int)=114)<;>cases decide ((c.toNat:Int)=108)<;>cases decide ((c.toNat:Int)=101)<;>cases decide ((c.toNat:Int)=102)<;>cases decide ((c.toNat:Int)=113)<;>rfl
theorem Af0 {T:Nat} {l:List Tk} (hk:Toks T l) {n:Nat} (hn:12*l.length+T+900≤n) (m:Mp) (x4:Tk) (y5:Bn×Bool) (y8:Int):∀ (cs pre:List UInt8) (i k:Nat) (s:Fs),y5.1.f_form=pre++cs→i≤l.length→(pre++cs).length < 100→cs.length < k →
 match Gp l (exQ l) cs i s with
 | .ok s' j=>B8 n l m x4 y5 y8 k (pre.length:Int) (i:Int) 0 0 s.reg s.loc s.e s.f s.ne=some (.out ((j:Int),0,0,s'.reg,s'.loc,s'.e,s'.f,s'.ne))
 | .bad e a=>∃ (i':Int) (s':Fs),B8 n l m x4 y5 y8 k (pre.length:Int) (i:Int) 0 0 s.reg s.loc s.e s.f s.ne=some (.out (i',e,a,s'.reg,s'.loc,s'.e,s'.f,s'.ne)):=by
 intro cs
 induction cs with
 | nil =>
  intro pre i k s hf hi hlen hkk
  obtain⟨k,rfl⟩:∃ j,k=j+1:=⟨k - 1,by omega⟩
  rw[Gp,B8,hf,Aq (by simp)]
 | cons c cs ih =>
  intro pre i k s hf hi hlen hkk
  obtain⟨k,rfl⟩:∃ j,k=j+1:=⟨k - 1,by omega⟩
  obtain⟨n,rfl⟩:∃ j,n=j+5:=⟨n - 5,by omega⟩
  have hl:=hk.len
  have hp:pre.length < 1000000:=by simp at hlen;omega
  have hlen':(pre++[c]++cs).length < 100:=by simpa using hlen
  have hf':y5.1.f_form=pre++[c]++cs:=by simpa using hf
  have hkk':cs.length < k:=by simp at hkk;omega
  have go:∀ (j:Nat) (s':Fs),j≤l.length→match Gp l (exQ l) cs j s' with
   | .ok s2 j2=>B8 (n+5) l m x4 y5 y8 k ((pre.length+1:Nat):Int) (j:Int) 0 0 s'.reg s'.loc s'.e s'.f s'.ne=some (.out ((j2:Int),0,0,s2.reg,s2.loc,s2.e,s2.f,s2.ne))
   | .bad e a=>∃ (i':Int) (s2:Fs),B8 (n+5) l m x4 y5 y8 k ((pre.length+1:Nat):Int) (j:Int) 0 0 s'.reg s'.loc s'.e s'.f s'.ne=some (.out (i',e,a,s2.reg,s2.loc,s2.e,s2.f,s2.ne)):=fun j s' hj=>by
   have:=ih (pre++[c]) j k s' hf' hj hlen' hkk'
   simpa only [List.length_append,List.length_singleton] using this
  have stop:∀ (i' e a:Int) (s':Fs),e≠0→B8 (n+5) l m x4 y5 y8 k ((pre.length+1:Nat):Int) i' e a s'.reg s'.loc s'.e s'.f s'.ne=some (.out (i',e,a,s'.reg,s'.loc,s'.e,s'.f,s'.ne)):=fun i' e a s' he=>by
   have:=A8s (l:=l) (n:=n+5) (by omega) m x4 y5 y8 i' e a he s' cs (pre++[c]) k hf' hlen' hkk'
   simpa only [List.length_append,List.length_singleton] using this
  have hex:=A8w hk hi
  have hw:=Ay pre.length (show pre.length < 4611686018427387904 by omega)
  have hee:=Sv l i
  unfold Gp Hg
  rw[B8,hf,A6 (show((pre.length:Nat):Int) < (((pre++c :: cs).length:Nat):Int) by simp;omega)]
  simp only[A29,A1,Y5 c 114 114 rfl,Y5 c 108 108 rfl,Y5 c 101 101 rfl,Y5 c 102 102 rfl,Y5 c 113 113 rfl,beq_self_eq_true,Af]
  by_cases c1:c.toNat=114
  ·simp only[if_pos c1,decide_eq_true c1,Af,Io,Acg (n+1) l i m (by omega),A1]
   by_cases h:isN l i=true
   ·simp only[if_pos h,hw]
    exact go (i+1) { s with reg:=txt l i } (Ph h)
   ·simp only[if_neg h,hw]
    exact⟨_,_,stop (i:Int) _ _ { s with reg:=[] } hee⟩
  ·rw[if_neg c1]
   simp only[decide_eq_false c1,An]
   by_cases c2:c.toNat=108
   ·simp only[if_pos c2,decide_eq_true c2,Af,Il,Acg (n+1) l i m (by omega),A1]
    by_cases h:isN l i=true
    ·simp only[if_pos h,hw]
     exact go (i+1) { s with loc:=txt l i } (Ph h)
    ·simp only[if_neg h,hw]
     exact⟨_,_,stop (i:Int) _ _ { s with loc:=[] } hee⟩
   ·rw[if_neg c2]
    simp only[decide_eq_false c2,An]
    by_cases c3:c.toNat=101
    ·simp only[if_pos c3,decide_eq_true c3,Af,Ii,Acv hk m hi (show 12*l.length+T+800≤n+4 by omega),A1]
     revert hex
     cases exQ l i with
     | bad e a =>
      intro hex
      simp only[hw]
      exact⟨_,_,stop (i:Int) e a { s with e:=[] } hex⟩
     | ok y tu =>
      intro hex
      simp only[hw]
      exact go tu { s with e:=y } hex.2.1
    ·rw[if_neg c3]
     simp only[decide_eq_false c3,An]
     by_cases c4:c.toNat=102
     ·simp only[if_pos c4,decide_eq_true c4,Af,Ij,Acv hk m hi (show 12*l.length+T+800≤n+4 by omega),A1]
      revert hex
      cases exQ l i with
      | bad e a =>
       intro hex
       simp only[hw]
       exact⟨_,_,stop (i:Int) e a { s with f:=[] } hex⟩
      | ok y tu =>
       intro hex
       simp only[hw]
       exact go tu { s with f:=y } hex.2.1
     ·rw[if_neg c4]
      simp only[decide_eq_false c4,An]
      by_cases c5:c.toNat=113
      ·simp only[if_pos c5,decide_eq_true c5,Af,In,Wa,S6 (n+1) _ l i m (show l.length < 1000000 by omega),A1]
       by_cases h:Bj l i [33,61]=true
       ·have hlt:=D0 h
        rw[if_pos h,h,Af,A1,Ay i (by omega),hw]
        exact go (i+1) { s with ne:=true } hlt
       ·rw[if_neg h];rw[Bool.not_eq_true] at h
        rw[h,An]
        by_cases h':Bj l i [61,61]=true
        ·have hlt:=D0 h'
         simp only[if_pos h',A1,hw]
         exact go (i+1) { s with ne:=false } hlt
        ·simp only[if_neg h',A1,hw]
         exact⟨_,_,stop (i:Int) _ _ { s with ne:=false } hee⟩
      ·rw[if_neg c5]
       simp only[decide_eq_false c5,An,Aj4 pre cs c hp,Ajg pre cs c hp,Af,S6 (n+2) _ l i m (show l.length < 1000000 by omega),A1]
       by_cases h:Bj l i [c]=true
       ·have hlt:=D0 h
        simp only[if_pos h,hw]
        exact go (i+1) s hlt
       ·simp only[if_neg h,hw]
        exact⟨_,_,stop (i:Int) _ _ s hee⟩
def Bz:Mp:=[([115,107,105,112],1),([115,101,116],2),([108,111,97,100],3),([115,116,111,114,101],4),([99,97,115],5),([102,97,100,100],6),([120,99,104,103],7),([102,101,110,99,101],8),([97,119,97,105,116],9),([105,102],10),([119,104,105,108,101],11),([108,111,111,112],12),([98,114,101,97,107],13)]
def A3i (s:List UInt8):Int:=Bf Bz s 0
def Av (l:List Tk) (i:Nat):Int:=match l[i]? with
 | some t=>if t.A7=1 then A3i t.Ac else 0
 | none=>0
def C2 (k:Int):List UInt8 :=
 if k=2 then [114,61,101,59] else if k=3 then [114,61,108,59] else if k=4 then [108,61,101,59] else if k=5 then [114,61,108,44,101,44,102,59]
 else if k=6 then [114,61,108,44,101,59] else if k=7 then [114,61,108,44,101,59] else if k=9 then [108,113,101,59] else if k=10 then [101] else if k=11 then [101] else if k=12 then [] else [59]
def Db (k:Int):Bool:=k==10 || (k==11 || k==12)
theorem Afh (s:List UInt8):0≤A3i s∧A3i s≤13:=by
 unfold A3i Bz
 simp only[Bf]
 repeat' split
 all_goals omega
theorem A3t (l:List Tk) (i:Nat):0≤Av l i∧Av l i≤13:=by
 unfold Av
 split
 ·split
  ·exact Afh _
  ·omega
 ·omega
theorem C4 {l:List Tk} {i:Nat} (h:Av l i≠0):i < l.length:=by
 unfold Av at h
 cases hg:l[i]? with
 | none=>rw[hg] at h;exact absurd rfl h
 | some t=>exact H9 hg
theorem M1 {l:List Tk} {i:Nat} (h:Av l i≠0) (s:List UInt8):Bj l i s=false:=by
 unfold Av at h
 cases hg:l[i]? with
 | none=>rw[hg] at h;exact absurd rfl h
 | some t =>
  rw[hg] at h
  dsimp only at h
  by_cases hk:t.A7=1
  ·simp[Bj,hg,hk]
  ·rw[if_neg hk] at h;exact absurd rfl h
theorem A0d (k:Int):(C2 k).length < 10:=by unfold C2;repeat' split
                                           all_goals decide
def Ul:List (List UInt8):=[[],[115,107,105,112],[115,101,116],[108,111,97,100],[115,116,111,114,101],[99,97,115],[102,97,100,100],[120,99,104,103],[102,101,110,99,101],[97,119,97,105,116],[105,102],[119,104,105,108,101],[108,111,111,112],[98,114,101,97,107]]
inductive SR where
 | ok (x:List St) (tu:Nat)
 | bad (e a:Int)
def Qw (x:List St):SR→SR
 | .ok y tu=>.ok (x++y) tu
 | .bad e a=>.bad e a
def Jz (l:List Tk) (i:Nat):Bool:=match l[i]? with
 | some t=>t.A7==1&&t.Ac==[101,108,115,101]
 | none=>false
def fs0:Fs:=⟨[],[],[],[],false⟩
def mkS (k:Int) (s:Fs) (b c:Nat) (a:Int):St:=⟨k,s.reg,s.loc,s.e,s.f,s.ne,(b:Int),(c:Int),a⟩
inductive SE (l:List Tk):Bool→Nat→Nat→SR→Prop
 | stop {inn i:Nat}:(l.length≤i∨Bj l i [125]=true)→SE l false inn i (.ok [] i)
 | no {inn i:Nat}:i < l.length→Bj l i [125]=false→Av l i=0→SE l false inn i (.bad 5 (Bg l i))
 | fbad {inn i:Nat} {e a:Int}:Av l i≠0→Gp l (exQ l) (C2 (Av l i)) (i+1) fs0=.bad e a→SE l false inn i (.bad e a)
 | simple {inn i j:Nat} {s:Fs} {r:SR}:Av l i≠0→Db (Av l i)=false→Gp l (exQ l) (C2 (Av l i)) (i+1) fs0=.ok s j→SE l false inn j r→SE l false inn i (Qw [mkS (Av l i) s 0 0 (Bg l i)] r)
 | bbad {inn i j:Nat} {s:Fs} {e a:Int}:Av l i≠0→Db (Av l i)=true→Gp l (exQ l) (C2 (Av l i)) (i+1) fs0=.ok s j→SE l true inn j (.bad e a)→SE l false inn i (.bad e a)
 | blk {inn i j j2:Nat} {s:Fs} {b:List St} {r:SR}:Av l i≠0→Db (Av l i)=true→Gp l (exQ l) (C2 (Av l i)) (i+1) fs0=.ok s j→SE l true inn j (.ok b j2)→(Av l i=10→Jz l j2=false)→SE l false inn j2 r→SE l false inn i (Qw (mkS (Av l i) s b.length 0 (Bg l i) :: b) r)
 | ebad {inn i j j2:Nat} {s:Fs} {b:List St} {e a:Int}:Av l i=10→Gp l (exQ l) (C2 (Av l i)) (i+1) fs0=.ok s j→SE l true inn j (.ok b j2)→Jz l j2=true→SE l true inn (j2+1) (.bad e a)→SE l false inn i (.bad e a)
 | els {inn i j j2 j3:Nat} {s:Fs} {b c:List St} {r:SR}:Av l i=10→Gp l (exQ l) (C2 (Av l i)) (i+1) fs0=.ok s j→SE l true inn j (.ok b j2)→Jz l j2=true→SE l true inn (j2+1) (.ok c j3)→SE l false inn j3 r→SE l false inn i (Qw (mkS (Av l i) s b.length c.length (Bg l i) :: (b++c)) r)
 | nob {inn i:Nat}:Bj l i [123]=false→SE l true inn i (.bad (Fj l i) (Bg l i))
 | deep {inn i:Nat}:Bj l i [123]=true→30≤inn→SE l true inn i (.bad 7 (Bg l i))
 | sbad {inn i:Nat} {e a:Int}:Bj l i [123]=true→inn < 30→SE l false (inn+1) (i+1) (.bad e a)→SE l true inn i (.bad e a)
 | close {inn i j:Nat} {x:List St}:Bj l i [123]=true→inn < 30→SE l false (inn+1) (i+1) (.ok x j)→Bj l j [125]=true→SE l true inn i (.ok x (j+1))
 | opn {inn i j:Nat} {x:List St}:Bj l i [123]=true→inn < 30→SE l false (inn+1) (i+1) (.ok x j)→Bj l j [125]=false→SE l true inn i (.bad (Fj l j) (Bg l j))
def Js (l:List Tk) (i d:Nat):SR→Prop
 | .ok x tu=>i+d≤tu∧tu≤l.length∧x.length+d≤tu - i
 | .bad e _=>e≠0
theorem F4 {T:Nat} {l:List Tk} (hk:Toks T l) {cs:List UInt8} {i j:Nat} {s s':Fs} (hi:i≤l.length) (h:Gp l (exQ l) cs i s=.ok s' j):i≤j∧j≤l.length:=by
 have:=Xk hk cs i s hi
 rw[h] at this;exact this
theorem Jh {l:List Tk} {i:Nat} (h:Jz l i=true):i < l.length:=by
 unfold Jz at h
 cases hg:l[i]? with
 | none=>rw[hg] at h;cases h
 | some t=>exact H9 hg
theorem Hy {T:Nat} {l:List Tk} (hk:Toks T l) {md:Bool} {inn i:Nat} {r:SR} (h:SE l md inn i r):i≤l.length→Js l i (if md then 1 else 0) r:=by
 induction h with
 | stop h=>intro hi;exact⟨by simp,hi,by simp⟩
 | no h1 h2 h3=>intro hi;show(5:Int)≠0;decide
 | @fbad inn i e a h1 h2 =>
  intro hi
  have:=Xk hk (C2 (Av l i)) (i+1) fs0 (C4 h1)
  rw[h2] at this;exact this
 | @simple inn i j s r h1 h2 h3 h4 ih =>
  intro hi
  have h5:=F4 hk (C4 h1) h3
  have h6:=ih h5.2
  cases r with
  | ok x tu=>simp only[Qw,Js,Bool.false_eq_true,if_false,List.length_append,List.length_singleton] at h6 ⊢;omega
  | bad e a=>exact h6
 | bbad h1 h2 h3 h4 ih=>intro hi;exact ih (F4 hk (C4 h1) h3).2
 | @blk inn i j j2 s b r h1 h2 h3 h4 h5 h6 ih1 ih2 =>
  intro hi
  have h7:=F4 hk (C4 h1) h3
  have h8:=ih1 h7.2
  simp only[Js,if_true] at h8
  have h9:=ih2 h8.2.1
  cases r with
  | ok x tu=>simp only[Qw,Js,Bool.false_eq_true,if_false,List.length_append,List.length_cons] at h9 ⊢;omega
  | bad e a=>exact h9
 | @ebad inn i j j2 s b e a h1 h3 h4 h5 h6 ih1 ih2=>intro hi;exact ih2 (Jh h5)
 | @els inn i j j2 j3 s b c r h1 h3 h4 h5 h6 h7 ih1 ih2 ih3 =>
  intro hi
  have h10:Av l i≠0:=by omega
  have h8:=F4 hk (C4 h10) h3
  have h9:=ih1 h8.2
  have h11:=ih2 (Jh h5)
  simp only[Js,if_true] at h9 h11
  have h12:=ih3 h11.2.1
  cases r with
  | ok x tu=>simp only[Qw,Js,Bool.false_eq_true,if_false,List.length_append,List.length_cons] at h12 ⊢;omega
  | bad e a=>exact h12
 | nob h=>intro hi;exact Sv l _
 | deep h1 h2=>intro hi;show(7:Int)≠0;decide
 | sbad h1 h2 h3 ih=>intro hi;exact ih (D0 h1)
 | close h1 h2 h3 h4 ih=>intro hi;have:=ih (D0 h1);have:=D0 h4;simp only[Js,Bool.false_eq_true,if_false,if_true] at *;omega
 | opn h1 h2 h3 h4 ih=>intro hi;exact Sv l _
abbrev A2s:=List St×Int×Int×Int
theorem Aaf (n:Nat) (l:List Tk) (i:Nat) (a b:Int) (m:Mp):Dd (n+1) 1 [101,108,115,101] l (i:Int) a b m=some (Jz l i):=by
 rw[Dd]
 by_cases h:i < l.length
 ·rw[A6 (by omega),C8 h,A1,A1]
  unfold Jz
  rw[Ax h]
  dsimp only
  cases l[i].A7==1<;>simp
 ·rw[Aq (by omega)]
  unfold Jz
  rw[List.getElem?_eq_none (by omega)]
theorem Ape (n:Nat) {k:Int} (h0:0≤k) (h1:k≤13):∃ w,My (n+2) k=some (if k=0 then(⟨[],[],false,false⟩,false) else(⟨w,C2 k,Db k,k==10⟩,true)):=by
 have c:k=0∨k=1∨k=2∨k=3∨k=4∨k=5∨k=6∨k=7∨k=8∨k=9∨k=10∨k=11∨k=12∨k=13:=by omega
 rcases c with rfl | rfl | rfl | rfl | rfl | rfl | rfl | rfl | rfl | rfl | rfl | rfl | rfl | rfl<;>first | exact⟨[],rfl⟩ | exact⟨_,rfl⟩
theorem Apk {l:List Tk} {n i:Nat} {inn:Int} (hl:l.length < 1000000) (hi:i < l.length) (hk:Av l i=0):Bw (n+5) inn l (i:Int) 0 0 Bz=some ([],(i:Int),5,Bg l i):=by
 have hd:decide ((i:Int) < ((l.length:Nat):Int))=true:=by simpa using hi
 have he:Fj l i=5:=by unfold Fj;rw[if_pos hi]
 obtain⟨w,hof⟩:=Ape (n+2) (k:=0) (by decide) (by decide)
 rw[if_pos rfl] at hof
 have hkk:=hk
 unfold Av at hk
 rw[Ax hi] at hk
 dsimp only at hk
 rw[Bw,hd,Af,C8 hi,A1]
 by_cases h1:l[i].A7=1
 ·rw[if_pos h1] at hk
  have hk:Bf Bz l[i].Ac 0=0:=hk
  rw[h1,beq_self_eq_true,Af,A1,hk,hof,A1,An,Y8 (n+2) l i Bz hl,he];rfl
 ·rw[show(l[i].A7==1)=false by rw[beq_eq_false_iff_ne];exact h1,An,show Pp (n+4)=some ⟨[],[],false,false⟩ from rfl,A1,Y8 (n+2) l i Bz hl,he];rfl
theorem A04 {l:List Tk} {n:Nat} {inn i e a:Int} (m:Mp) (he:e≠0):C3 (n+2) inn l i e a m=some ([],i,e,a):=by
 rw[C3,C5,show(e==0)=false by rw[beq_eq_false_iff_ne];exact he];rfl
theorem Aco {l:List Tk} {n:Nat} {inn i e a:Int} (m:Mp) (he:e≠0):Bu (n+4) inn l i e a m=some ([],i,e,a):=by
 rw[Bu,show(e==0)=false by rw[beq_eq_false_iff_ne];exact he,An,Q5 _ _ _ _ _ _ _ he,A1]
 dsimp only
 rw[A04 m he,A1]
 dsimp only
 rw[Q5 _ _ _ _ _ _ _ he];rfl
noncomputable def Ug (n:Nat) (inn:Int) (l:List Tk) (K P:Int) (o:LR (Int×Int×Int×(List UInt8)×(List UInt8)×(List Nd)×(List Nd)×Bool) A2s):Option A2s:=match o with
 | .out (x73,x74,x75,x76,x77,x78,x79,x80) =>
  bif Db K then((Bu n inn l x73 x74 x75 Bz).bind fun y82 =>
   bif K==10 then(bif y82.2.2.1==0 then((Dd n 1 [101,108,115,101] l y82.2.1 y82.2.2.1 y82.2.2.2 Bz).bind fun y86 =>
    bif y86 then((Bu n inn l (IntKind.i64.wrap (y82.2.1+1)) y82.2.2.1 y82.2.2.2 Bz).bind fun y89 =>
     (bif decide ((([(⟨K,x76,x77,x78,x79,x80,((y82.1.length:Nat):Int),((y89.1.length:Nat):Int),P⟩:St)]:List St).length+y82.1.length)*121≤140737488355328) then(bif decide (((([(⟨K,x76,x77,x78,x79,x80,((y82.1.length:Nat):Int),((y89.1.length:Nat):Int),P⟩:St)]:List St)++y82.1).length+y89.1.length)*121≤140737488355328) then some ((([(⟨K,x76,x77,x78,x79,x80,((y82.1.length:Nat):Int),((y89.1.length:Nat):Int),P⟩:St)]:List St)++y82.1)++y89.1,y89.2.1,y89.2.2.1,y89.2.2.2) else none) else none))
    else(bif decide ((([(⟨K,x76,x77,x78,x79,x80,((y82.1.length:Nat):Int),0,P⟩:St)]:List St).length+y82.1.length)*121≤140737488355328) then(bif decide (((([(⟨K,x76,x77,x78,x79,x80,((y82.1.length:Nat):Int),0,P⟩:St)]:List St)++y82.1).length+0)*121≤140737488355328) then some (([(⟨K,x76,x77,x78,x79,x80,((y82.1.length:Nat):Int),0,P⟩:St)]:List St)++y82.1,y82.2.1,y82.2.2.1,y82.2.2.2) else none) else none))
    else(bif decide ((([(⟨K,x76,x77,x78,x79,x80,((y82.1.length:Nat):Int),0,P⟩:St)]:List St).length+y82.1.length)*121≤140737488355328) then(bif decide (((([(⟨K,x76,x77,x78,x79,x80,((y82.1.length:Nat):Int),0,P⟩:St)]:List St)++y82.1).length+0)*121≤140737488355328) then some (([(⟨K,x76,x77,x78,x79,x80,((y82.1.length:Nat):Int),0,P⟩:St)]:List St)++y82.1,y82.2.1,y82.2.2.1,y82.2.2.2) else none) else none))
   else(bif decide ((([(⟨K,x76,x77,x78,x79,x80,((y82.1.length:Nat):Int),0,P⟩:St)]:List St).length+y82.1.length)*121≤140737488355328) then(bif decide (((([(⟨K,x76,x77,x78,x79,x80,((y82.1.length:Nat):Int),0,P⟩:St)]:List St)++y82.1).length+0)*121≤140737488355328) then some (([(⟨K,x76,x77,x78,x79,x80,((y82.1.length:Nat):Int),0,P⟩:St)]:List St)++y82.1,y82.2.1,y82.2.2.1,y82.2.2.2) else none) else none))
  else some ([(⟨K,x76,x77,x78,x79,x80,0,0,P⟩:St)],x73,x74,x75)
 | .ret v=>some v
theorem Ajy {K:Int} (h:Db K=false):(K==10)=false:=by
 cases hq:K==10 with
 | false=>rfl
 | true=>rw[Db,hq] at h;cases h
theorem T9 {l:List Tk} {n i:Nat} {inn:Int} (hl:l.length < 1000000) (h0:Av l i≠0):∃ (t:Tk) (w:List UInt8),Bw (n+5) inn l (i:Int) 0 0 Bz=(B8 (n+4) l Bz t (⟨w,C2 (Av l i),Db (Av l i),Av l i==10⟩,true) (Bg l i) (n+4) 0 ((i+1:Nat):Int) 0 0 [] [] [] [] false).bind (Ug (n+4) inn l (Av l i) (Bg l i)):=by
 have hi:=C4 h0
 have hd:decide ((i:Int) < ((l.length:Nat):Int))=true:=by simpa using hi
 obtain⟨k0,k1⟩:=A3t l i
 obtain⟨w,hof⟩:=Ape (n+2) k0 k1
 rw[if_neg h0] at hof
 have h1:l[i].A7=1:=by
  by_cases h:l[i].A7=1
  ·exact h
  ·unfold Av at h0;rw[List.getElem?_eq_getElem hi] at h0;dsimp only at h0;rw[if_neg h] at h0;exact absurd rfl h0
 have hm:Bf Bz l[i].Ac 0=Av l i:=by unfold Av;rw[List.getElem?_eq_getElem hi];dsimp only;rw[if_pos h1];rfl
 refine⟨l[i],w,?_⟩
 rw[Bw,hd,Af,C8 hi,A1,h1,beq_self_eq_true,Af,A1,hm,hof,A1]
 dsimp only
 rw[Af,Zb (n+3) l i _ _ _ Bz hl,A1,Ay i (by omega)]
 rw[show Sg (n+4)=fun f=>f (n+3) from rfl]
 dsimp only
 congr 1
 funext o
 cases o with
 | ret v=>rfl
 | out x =>
  obtain⟨x73,x74,x75,x76,x77,x78,x79,x80⟩:=x
  dsimp only [Ug]
  cases hb:Db (Av l i) with
  | true=>rfl
  | false=>rw[Ajy hb];rfl
theorem T7 {T:Nat} {l:List Tk} (hk:Toks T l) {n i:Nat} (hn:12*l.length+T+900≤n) (hi:i≤l.length) (t:Tk) (w:List UInt8) (K P:Int) :
 match Gp l (exQ l) (C2 K) i fs0 with
 | .ok s j=>B8 n l Bz t (⟨w,C2 K,Db K,K==10⟩,true) P n 0 (i:Int) 0 0 [] [] [] [] false=some (.out ((j:Int),0,0,s.reg,s.loc,s.e,s.f,s.ne))
 | .bad e a=>∃ (i':Int) (s:Fs),B8 n l Bz t (⟨w,C2 K,Db K,K==10⟩,true) P n 0 (i:Int) 0 0 [] [] [] [] false=some (.out (i',e,a,s.reg,s.loc,s.e,s.f,s.ne)):=by
 have hf:=A0d K
 exact Af0 hk hn Bz t (⟨w,C2 K,Db K,K==10⟩,true) P (C2 K) [] i n fs0 (by rw[List.nil_append]) hi (by rw[List.nil_append];omega) (by omega)
theorem Nr {l:List Tk} {n k i:Nat} {inn:Int} {out X:List St} {p e a:Int} (h0:i < l.length) (h1:Bj l i [125]=false) (h:Bw (n+1) inn l (i:Int) 0 0 Bz=some (X,p,e,a)) (hs:out.length+X.length < 1000000000) :
 C5 (n+1) (Bw (n+1)) inn l Bz (k+1) (i:Int) 0 0 out=C5 (n+1) (Bw (n+1)) inn l Bz k p e a (out++X):=by
 rw[C5,beq_self_eq_true,Af,A6 (by omega),Wa,h1,A1,An,h,A1]
 dsimp only
 rw[A6 (by omega)]
theorem Wr {l:List Tk} {n k:Nat} {inn p e a:Int} {out:List St} (he:e≠0):C5 n (Bw n) inn l Bz (k+1) p e a out=some (.out (p,e,a,out)):=by
 rw[C5,show(e==0)=false by rw[beq_eq_false_iff_ne];exact he,An]
theorem Asu {T:Nat} {l:List Tk} (hk:Toks T l) {md:Bool} {inn i:Nat} {r:SR} (h:SE l md inn i r):i≤l.length→inn≤30→match md with
 | false=>∀ (n k:Nat) (out:List St),12*l.length+T+900+6*(l.length - i)+20≤n→l.length - i+1 < k→out.length≤i→(match r with
   | .ok x tu=>C5 n (Bw n) (inn:Int) l Bz k (i:Int) 0 0 out=some (.out ((tu:Int),0,0,out++x))
   | .bad e a=>∃ (X:List St) (p:Int),C5 n (Bw n) (inn:Int) l Bz k (i:Int) 0 0 out=some (.out (p,e,a,X))∧X.length≤out.length+2*(l.length - i)+2)
 | true=>∀ n:Nat,12*l.length+T+900+6*(l.length - i)+24≤n→(match r with
   | .ok x tu=>Bu n (inn:Int) l (i:Int) 0 0 Bz=some (x,(tu:Int),0,0)
   | .bad e a=>∃ (X:List St) (p:Int),Bu n (inn:Int) l (i:Int) 0 0 Bz=some (X,p,e,a)∧X.length≤2*(l.length - i)+2):=by
 have hl:=hk.len
 induction h with
 | @stop inn i h1 =>
  intro hi hn n k out hf hkk ho
  obtain⟨k,rfl⟩:∃ j,k=j+1:=⟨k - 1,by omega⟩
  obtain⟨n,rfl⟩:∃ j,n=j+1:=⟨n - 1,by omega⟩
  show C5 _ _ _ _ _ _ _ _ _ _=some (LR.out ((i:Int),0,0,out++[]))
  rw[List.append_nil,C5,beq_self_eq_true,Af]
  by_cases h2:i < l.length
  ·rw[A6 (by omega),Wa,(h1.resolve_left (by omega))];rfl
  ·rw[Aq (by omega)]
 | @no inn i h1 h2 h3 =>
  intro hi hn n k out hf hkk ho
  obtain⟨k,rfl⟩:∃ j,k=j+2:=⟨k - 2,by omega⟩
  obtain⟨n,rfl⟩:∃ j,n=j+5:=⟨n - 5,by omega⟩
  refine⟨out,(i:Int),?_,by omega⟩
  rw[Nr (n:=n+4) h1 h2 (Apk (by omega) h1 h3) (by simp;omega),Wr (by decide),List.append_nil]
 | @fbad inn i e a h1 h2 =>
  intro hi hn n k out hf hkk ho
  obtain⟨k,rfl⟩:∃ j,k=j+2:=⟨k - 2,by omega⟩
  obtain⟨n,rfl⟩:∃ j,n=j+10:=⟨n - 10,by omega⟩
  have hlt:=C4 h1
  have hne:e≠0:=by
   have:=Xk hk (C2 (Av l i)) (i+1) fs0 hlt
   rw[h2] at this;exact this
  have hb:(e==0)=false:=by rw[beq_eq_false_iff_ne];exact hne
  obtain⟨t,w,ho1⟩:=T9 (n:=n+5) (inn:=(inn:Int)) (show l.length < 1000000 by omega) h1
  have hx:=T7 hk (n:=n+9) (by omega) hlt t w (Av l i) (Bg l i)
  rw[h2] at hx
  obtain⟨i',s,hx⟩:=hx
  have h5:Bw (n+10) (inn:Int) l (i:Int) 0 0 Bz=some ([⟨Av l i,s.reg,s.loc,s.e,s.f,s.ne,0,0,Bg l i⟩],i',e,a):=by
   rw[ho1,hx,A1]
   dsimp only [Ug]
   rw[Aco Bz hne]
   cases Db (Av l i)<;>cases (Av l i==10)<;>simp[hb]
  refine⟨out++[⟨Av l i,s.reg,s.loc,s.e,s.f,s.ne,0,0,Bg l i⟩],i',?_,?_⟩
  ·rw[Nr (n:=n+9) hlt (M1 h1 _) h5 (by simp;omega),Wr hne]
  ·simp;omega
 | @simple inn i j s r h1 h2 h3 h4 ih =>
  intro hi hn n k out hf hkk ho
  obtain⟨k,rfl⟩:∃ j,k=j+1:=⟨k - 1,by omega⟩
  have h5:=F4 hk (C4 h1) h3
  have hlt:=C4 h1
  have h6:=ih h5.2 hn n k (out++[mkS (Av l i) s 0 0 (Bg l i)]) (by omega) (by omega) (by simp;omega)
  obtain⟨n,rfl⟩:∃ j,n=j+10:=⟨n - 10,by omega⟩
  obtain⟨t,w,ho1⟩:=T9 (n:=n+5) (inn:=(inn:Int)) (show l.length < 1000000 by omega) h1
  have hx:=T7 hk (n:=n+9) (by omega) hlt t w (Av l i) (Bg l i)
  rw[h3] at hx
  have hx:B8 (n+9) l Bz t _ (Bg l i) (n+9) 0 ((i+1:Nat):Int) 0 0 [] [] [] [] false=_:=hx
  have h7:Bw (n+10) (inn:Int) l (i:Int) 0 0 Bz=some ([mkS (Av l i) s 0 0 (Bg l i)],(j:Int),0,0):=by
   rw[ho1,hx,A1]
   dsimp only [Ug]
   rw[h2];rfl
  rw[Nr (n:=n+9) hlt (M1 h1 _) h7 (by simp;omega)]
  cases r with
  | ok x tu=>dsimp only [Qw] at h6 ⊢;rw[h6,List.append_assoc]
  | bad e a =>
   obtain⟨X,p,g1,g2⟩:=h6
   exact⟨X,p,g1,by simp at g2;omega⟩
 | @bbad inn i j s e a h1 h2 h3 h4 ih =>
  intro hi hn n k out hf hkk ho
  obtain⟨k,rfl⟩:∃ j,k=j+2:=⟨k - 2,by omega⟩
  have h5:=F4 hk (C4 h1) h3
  have hlt:=C4 h1
  have hne:e≠0:=Hy hk h4 h5.2
  have hb:(e==0)=false:=by rw[beq_eq_false_iff_ne];exact hne
  obtain⟨n,rfl⟩:∃ j,n=j+10:=⟨n - 10,by omega⟩
  obtain⟨X,p,g1,g2⟩:=ih h5.2 hn (n+9) (by omega)
  obtain⟨t,w,ho1⟩:=T9 (n:=n+5) (inn:=(inn:Int)) (show l.length < 1000000 by omega) h1
  have hx:=T7 hk (n:=n+9) (by omega) hlt t w (Av l i) (Bg l i)
  rw[h3] at hx
  have hx:B8 (n+9) l Bz t _ (Bg l i) (n+9) 0 ((i+1:Nat):Int) 0 0 [] [] [] [] false=_:=hx
  have h7:Bw (n+10) (inn:Int) l (i:Int) 0 0 Bz=some (mkS (Av l i) s X.length 0 (Bg l i) :: X,p,e,a):=by
   rw[ho1,hx,A1]
   dsimp only [Ug]
   rw[h2,Af,g1,A1]
   dsimp only
   rw[hb,An,A6 (by simp;omega),A6 (by simp;omega)]
   cases (Av l i==10)<;>rfl
  refine⟨out++(mkS (Av l i) s X.length 0 (Bg l i) :: X),p,?_,?_⟩
  ·rw[Nr (n:=n+9) hlt (M1 h1 _) h7 (by simp;omega),Wr hne]
  ·simp;omega
 | @blk inn i j j2 s b r h1 h2 h3 h4 h5 h6 ih1 ih2 =>
  intro hi hn n k out hf hkk ho
  obtain⟨k,rfl⟩:∃ j,k=j+1:=⟨k - 1,by omega⟩
  have h7:=F4 hk (C4 h1) h3
  have hlt:=C4 h1
  have h8:=Hy hk h4 h7.2
  simp only[Js,if_true] at h8
  have h10:=ih2 h8.2.1 hn n k (out++(mkS (Av l i) s b.length 0 (Bg l i) :: b)) (by omega) (by omega) (by simp;omega)
  obtain⟨n,rfl⟩:∃ j,n=j+10:=⟨n - 10,by omega⟩
  have g1:Bu (n+9) (inn:Int) l (j:Int) 0 0 Bz=some (b,(j2:Int),0,0):=ih1 h7.2 hn (n+9) (by omega)
  obtain⟨t,w,ho1⟩:=T9 (n:=n+5) (inn:=(inn:Int)) (show l.length < 1000000 by omega) h1
  have hx:=T7 hk (n:=n+9) (by omega) hlt t w (Av l i) (Bg l i)
  rw[h3] at hx
  have hx:B8 (n+9) l Bz t _ (Bg l i) (n+9) 0 ((i+1:Nat):Int) 0 0 [] [] [] [] false=_:=hx
  have hel:(Av l i==10)=true→Jz l j2=false:=fun h=>h5 (by simpa using h)
  have h9:Bw (n+10) (inn:Int) l (i:Int) 0 0 Bz=some (mkS (Av l i) s b.length 0 (Bg l i) :: b,(j2:Int),0,0):=by
   rw[ho1,hx,A1]
   dsimp only [Ug]
   rw[h2,Af,g1,A1]
   dsimp only
   rw[beq_self_eq_true,Af,Aaf,A1,A6 (by simp;omega),A6 (by simp;omega)]
   cases hq:Av l i==10 with
   | true=>rw[hel hq];rfl
   | false=>rfl
  rw[Nr (n:=n+9) hlt (M1 h1 _) h9 (by simp;omega)]
  cases r with
  | ok x tu=>dsimp only [Qw] at h10 ⊢;rw[h10,List.append_assoc]
  | bad e a =>
   obtain⟨X,p,q1,q2⟩:=h10
   exact⟨X,p,q1,by simp at q2;omega⟩
 | @ebad inn i j j2 s b e a h1 h3 h4 h5 h6 ih1 ih2 =>
  intro hi hn n k out hf hkk ho
  obtain⟨k,rfl⟩:∃ j,k=j+2:=⟨k - 2,by omega⟩
  have h0:Av l i≠0:=by omega
  have h7:=F4 hk (C4 h0) h3
  have hlt:=C4 h0
  have hj:=Jh h5
  have h8:=Hy hk h4 h7.2
  simp only[Js,if_true] at h8
  have hne:e≠0:=Hy hk h6 hj
  have hbl:Db (Av l i)=true:=by rw[h1];rfl
  have hq:(Av l i==10)=true:=by rw[h1];rfl
  obtain⟨n,rfl⟩:∃ j,n=j+10:=⟨n - 10,by omega⟩
  have g1:Bu (n+9) (inn:Int) l (j:Int) 0 0 Bz=some (b,(j2:Int),0,0):=ih1 h7.2 hn (n+9) (by omega)
  obtain⟨X,p,g3,g4⟩:=ih2 hj hn (n+9) (by omega)
  obtain⟨t,w,ho1⟩:=T9 (n:=n+5) (inn:=(inn:Int)) (show l.length < 1000000 by omega) h0
  have hx:=T7 hk (n:=n+9) (by omega) hlt t w (Av l i) (Bg l i)
  rw[h3] at hx
  have hx:B8 (n+9) l Bz t _ (Bg l i) (n+9) 0 ((i+1:Nat):Int) 0 0 [] [] [] [] false=_:=hx
  have h9:Bw (n+10) (inn:Int) l (i:Int) 0 0 Bz=some (mkS (Av l i) s b.length X.length (Bg l i) :: (b++X),p,e,a):=by
   rw[ho1,hx,A1]
   dsimp only [Ug]
   rw[hbl,Af,g1,A1]
   dsimp only
   rw[hq,Af,beq_self_eq_true,Af,Aaf,h5,A1,Af,Ay j2 (by omega),g3,A1]
   dsimp only
   rw[A6 (by simp;omega),A6 (by simp;omega)];rfl
  refine⟨out++(mkS (Av l i) s b.length X.length (Bg l i) :: (b++X)),p,?_,?_⟩
  ·rw[Nr (n:=n+9) hlt (M1 h0 _) h9 (by simp;omega),Wr hne]
  ·simp;omega
 | @els inn i j j2 j3 s b c r h1 h3 h4 h5 h6 h7 ih1 ih2 ih3 =>
  intro hi hn n k out hf hkk ho
  obtain⟨k,rfl⟩:∃ j,k=j+1:=⟨k - 1,by omega⟩
  have h0:Av l i≠0:=by omega
  have h8:=F4 hk (C4 h0) h3
  have hlt:=C4 h0
  have hj:=Jh h5
  have h9:=Hy hk h4 h8.2
  simp only[Js,if_true] at h9
  have h9':=Hy hk h6 hj
  simp only[Js,if_true] at h9'
  have h12:=ih3 h9'.2.1 hn n k (out++(mkS (Av l i) s b.length c.length (Bg l i) :: (b++c))) (by omega) (by omega) (by simp;omega)
  have hbl:Db (Av l i)=true:=by rw[h1];rfl
  have hq:(Av l i==10)=true:=by rw[h1];rfl
  obtain⟨n,rfl⟩:∃ j,n=j+10:=⟨n - 10,by omega⟩
  have g1:Bu (n+9) (inn:Int) l (j:Int) 0 0 Bz=some (b,(j2:Int),0,0):=ih1 h8.2 hn (n+9) (by omega)
  have g3:Bu (n+9) (inn:Int) l ((j2+1:Nat):Int) 0 0 Bz=some (c,(j3:Int),0,0):=ih2 hj hn (n+9) (by omega)
  obtain⟨t,w,ho1⟩:=T9 (n:=n+5) (inn:=(inn:Int)) (show l.length < 1000000 by omega) h0
  have hx:=T7 hk (n:=n+9) (by omega) hlt t w (Av l i) (Bg l i)
  rw[h3] at hx
  have hx:B8 (n+9) l Bz t _ (Bg l i) (n+9) 0 ((i+1:Nat):Int) 0 0 [] [] [] [] false=_:=hx
  have h10:Bw (n+10) (inn:Int) l (i:Int) 0 0 Bz=some (mkS (Av l i) s b.length c.length (Bg l i) :: (b++c),(j3:Int),0,0):=by
   rw[ho1,hx,A1]
   dsimp only [Ug]
   rw[hbl,Af,g1,A1]
   dsimp only
   rw[hq,Af,beq_self_eq_true,Af,Aaf,h5,A1,Af,Ay j2 (by omega),g3,A1]
   dsimp only
   rw[A6 (by simp;omega),A6 (by simp;omega)];rfl
  rw[Nr (n:=n+9) hlt (M1 h0 _) h10 (by simp;omega)]
  cases r with
  | ok x tu=>dsimp only [Qw] at h12 ⊢;rw[h12,List.append_assoc]
  | bad e a =>
   obtain⟨X,p,q1,q2⟩:=h12
   exact⟨X,p,q1,by simp at q2;omega⟩
 | @nob inn i h1 =>
  intro hi hn n hf
  obtain⟨n,rfl⟩:∃ j,n=j+6:=⟨n - 6,by omega⟩
  refine⟨[],(i:Int),?_,by simp⟩
  have hs:Bl (n+5) [123] l (i:Int) 0 0 Bz=some ((i:Int),Fj l i,Bg l i):=by rw[S6 (n+2) _ l i Bz (by omega),if_neg (by rw[h1];decide)]
  rw[Bu,beq_self_eq_true,Af,Wa,h1,A1,An,hs,A1]
  dsimp only
  rw[A04 Bz (Sv l i),A1]
  dsimp only
  rw[Q5 _ _ _ _ _ _ _ (Sv l i)];rfl
 | @deep inn i h1 h2 =>
  intro hi hn n hf
  obtain⟨n,rfl⟩:∃ j,n=j+6:=⟨n - 6,by omega⟩
  refine⟨[],(i:Int),?_,by simp⟩
  have h7:(7:Int)≠0:=by decide
  rw[Bu,beq_self_eq_true,Af,Wa,h1,A1,Af,A6 (by omega),Zb (n+4) l i _ _ _ Bz (by omega),A1,Q5 _ _ _ _ _ _ _ h7,A1]
  dsimp only
  rw[A04 Bz h7,A1]
  dsimp only
  rw[Q5 _ _ _ _ _ _ _ h7];rfl
 | @sbad inn i e a h1 h2 h3 ih =>
  intro hi hn n hf
  have hlt:=D0 h1
  obtain⟨n,rfl⟩:∃ j,n=j+6:=⟨n - 6,by omega⟩
  have hne:e≠0:=Hy hk h3 hlt
  have hs:Bl (n+5) [123] l (i:Int) 0 0 Bz=some (((i+1:Nat):Int),0,0):=by rw[S6 (n+2) _ l i Bz (by omega),if_pos h1]
  obtain⟨X,p,g1,g2⟩:=ih hlt (by omega) (n+4) (n+4) [] (by omega) (by omega) (by simp)
  have h5:C3 (n+5) ((inn+1:Nat):Int) l ((i+1:Nat):Int) 0 0 Bz=some (X,p,e,a):=by rw[C3,g1];rfl
  refine⟨X,p,?_,by simp at g2;omega⟩
  rw[Bu,beq_self_eq_true,Af,Wa,h1,A1,Af,Aq (by omega),hs,A1]
  dsimp only
  rw[Ay inn (by omega),h5,A1]
  dsimp only
  rw[Q5 _ _ _ _ _ _ _ hne];rfl
 | @close inn i j x h1 h2 h3 h4 ih =>
  intro hi hn n hf
  have hlt:=D0 h1
  obtain⟨n,rfl⟩:∃ j,n=j+6:=⟨n - 6,by omega⟩
  have hs:Bl (n+5) [123] l (i:Int) 0 0 Bz=some (((i+1:Nat):Int),0,0):=by rw[S6 (n+2) _ l i Bz (by omega),if_pos h1]
  have hs2:Bl (n+5) [125] l (j:Int) 0 0 Bz=some (((j+1:Nat):Int),0,0):=by rw[S6 (n+2) _ l j Bz (by omega),if_pos h4]
  have g1:=ih hlt (by omega) (n+4) (n+4) [] (by omega) (by omega) (by simp)
  dsimp only at g1
  have h5:C3 (n+5) ((inn+1:Nat):Int) l ((i+1:Nat):Int) 0 0 Bz=some (x,(j:Int),0,0):=by rw[C3,g1];rfl
  show Bu (n+6) _ _ _ _ _ _=_
  rw[Bu,beq_self_eq_true,Af,Wa,h1,A1,Af,Aq (by omega),hs,A1]
  dsimp only
  rw[Ay inn (by omega),h5,A1]
  dsimp only
  rw[hs2];rfl
 | @opn inn i j x h1 h2 h3 h4 ih =>
  intro hi hn n hf
  have hlt:=D0 h1
  have h8:=Hy hk h3 hlt
  simp only[Js,Bool.false_eq_true,if_false] at h8
  obtain⟨n,rfl⟩:∃ j,n=j+6:=⟨n - 6,by omega⟩
  have hs:Bl (n+5) [123] l (i:Int) 0 0 Bz=some (((i+1:Nat):Int),0,0):=by rw[S6 (n+2) _ l i Bz (by omega),if_pos h1]
  have hs2:Bl (n+5) [125] l (j:Int) 0 0 Bz=some ((j:Int),Fj l j,Bg l j):=by rw[S6 (n+2) _ l j Bz (by omega),if_neg (by rw[h4];decide)]
  have g1:=ih hlt (by omega) (n+4) (n+4) [] (by omega) (by omega) (by simp)
  dsimp only at g1
  have h5:C3 (n+5) ((inn+1:Nat):Int) l ((i+1:Nat):Int) 0 0 Bz=some (x,(j:Int),0,0):=by rw[C3,g1];rfl
  refine⟨x,(j:Int),?_,by omega⟩
  rw[Bu,beq_self_eq_true,Af,Wa,h1,A1,Af,Aq (by omega),hs,A1]
  dsimp only
  rw[Ay inn (by omega),h5,A1]
  dsimp only
  rw[hs2];rfl
theorem Afk {T:Nat} {l:List Tk} (hk:Toks T l):∀ (m i inn:Nat) (md:Bool),l.length - i≤m→i≤l.length→inn≤30→∃ r,SE l md inn i r:=by
 intro m
 induction m with
 | zero =>
  intro i inn md hm hi hn
  have hs:∀ s,Bj l i s=false:=fun s=>by
   cases h:Bj l i s with
   | false=>rfl
   | true=>have:=D0 h;omega
  cases md with
  | false=>exact⟨_,.stop (.inl (by omega))⟩
  | true=>exact⟨_,.nob (hs _)⟩
 | succ m ih =>
  intro i inn md hm hi hn
  cases md with
  | true =>
   cases h:Bj l i [123] with
   | false=>exact⟨_,.nob h⟩
   | true =>
    by_cases h30:30≤inn
    ·exact⟨_,.deep h h30⟩
    ·have hlt:=D0 h
     obtain⟨r,hr⟩:=ih (i+1) (inn+1) false (by omega) hlt (by omega)
     cases r with
     | bad e a=>exact⟨_,.sbad h (by omega) hr⟩
     | ok x j =>
      cases h2:Bj l j [125] with
      | true=>exact⟨_,.close h (by omega) hr h2⟩
      | false=>exact⟨_,.opn h (by omega) hr h2⟩
  | false =>
   by_cases hlt:i < l.length
   ·cases h:Bj l i [125] with
    | true=>exact⟨_,.stop (.inr h)⟩
    | false =>
     by_cases h0:Av l i=0
     ·exact⟨_,.no hlt h h0⟩
     ·cases hf:Gp l (exQ l) (C2 (Av l i)) (i+1) fs0 with
      | bad e a=>exact⟨_,.fbad h0 hf⟩
      | ok s j =>
       have hj:=F4 hk (by omega) hf
       cases hb:Db (Av l i) with
       | false =>
        obtain⟨r,hr⟩:=ih j inn false (by omega) hj.2 hn
        exact⟨_,.simple h0 hb hf hr⟩
       | true =>
        obtain⟨r,hr⟩:=ih j inn true (by omega) hj.2 hn
        cases r with
        | bad e a=>exact⟨_,.bbad h0 hb hf hr⟩
        | ok b j2 =>
         have hj2:=Hy hk hr hj.2
         simp only[Js,if_true] at hj2
         by_cases he:Av l i=10∧Jz l j2=true
         ·have hj3:=Jh he.2
          obtain⟨r3,hr3⟩:=ih (j2+1) inn true (by omega) hj3 hn
          cases r3 with
          | bad e a=>exact⟨_,.ebad he.1 hf hr he.2 hr3⟩
          | ok c j4 =>
           have hj4:=Hy hk hr3 hj3
           simp only[Js,if_true] at hj4
           obtain⟨r5,hr5⟩:=ih j4 inn false (by omega) hj4.2.1 hn
           exact⟨_,.els he.1 hf hr he.2 hr3 hr5⟩
         ·obtain⟨r5,hr5⟩:=ih j2 inn false (by omega) hj2.2.1 hn
          refine⟨_,.blk h0 hb hf hr (fun hq=>?_) hr5⟩
          cases hx:Jz l j2 with
          | false=>rfl
          | true=>exact absurd ⟨hq,hx⟩ he
   ·exact⟨_,.stop (.inl (by omega))⟩
def A3z:List Bn:=match J9 1 with | some y=>y | none=>[]
theorem Aj0 (n k:Nat):J1 n A3z (k+15) 0 []=some (.out Bz):=by rfl
def Sc (l:List Tk) (i:Nat):SR→A2s
 | .bad e a=>([],0,e,a)
 | .ok x tu=>if 200 < x.length then([],0,2,Bg l i) else(x,(tu:Int),0,0)
theorem A2e (s:List UInt8) (hs:s.length≤90000):Toks s.length (Qx s):=by
 obtain⟨h1,h2⟩:=Wb s
 refine⟨by omega,fun t ht=>(h1 t ht).1,fun t ht=>?_,by omega⟩
 have h3:=h1 t ht
 have h4:=h3.1.1
 omega
inductive SF where
 | nil
 | cons (x:St) (a b r:SF)
def SF.flat:SF→List St
 | .nil=>[]
 | .cons x a b r=>x :: (a.flat++(b.flat++r.flat))
def SF.wf:SF→Prop
 | .nil=>True
 | .cons x a b r=>x.B5=(a.flat.length:Int)∧x.Ch=(b.flat.length:Int)∧a.wf∧b.wf∧r.wf
def SF.dep:SF→Nat
 | .nil=>0
 | .cons x a b r=>max (if Db x.A7 then max (1+a.dep) (1+b.dep) else 0) r.dep
def dF:Nat→List St→Option Nat
 | 0,_=>none
 | _+1,[]=>some 0
 | m+1,x :: t=>if 0≤x.B5∧0≤x.Ch∧x.B5+x.Ch≤(t.length:Int) then
    (dF m (t.take x.B5.toNat)).bind fun p=>(dF m ((t.drop x.B5.toNat).take x.Ch.toNat)).bind fun q=>(dF m (t.drop (x.B5.toNat+x.Ch.toNat))).bind fun z=>some (max (if Db x.A7 then max (1+p) (1+q) else 0) z)
  else none
theorem Vx:∀ (F:SF) (m:Nat),F.wf→F.flat.length < m→dF m F.flat=some F.dep
 | .nil,m,_,h=>by
  obtain⟨m,rfl⟩:∃ j,m=j+1:=⟨m - 1,by omega⟩
  rfl
 | .cons x a b r,m,h,hm=>by
  obtain⟨m,rfl⟩:∃ j,m=j+1:=⟨m - 1,by omega⟩
  obtain⟨h1,h2,ha,hb,hr⟩:=h
  rw[SF.flat] at hm ⊢
  simp only[List.length_cons,List.length_append] at hm
  rw[dF,if_pos ⟨by omega,by omega,by rw[h1,h2];simp only[List.length_append];omega⟩,h1,h2]
  have e1:(a.flat++(b.flat++r.flat)).take ((a.flat.length:Nat):Int).toNat=a.flat:=by simp
  have e2:(a.flat++(b.flat++r.flat)).drop ((a.flat.length:Nat):Int).toNat=b.flat++r.flat:=by simp
  have e3:(b.flat++r.flat).take ((b.flat.length:Nat):Int).toNat=b.flat:=by simp
  have e4:(a.flat++(b.flat++r.flat)).drop (((a.flat.length:Nat):Int).toNat+((b.flat.length:Nat):Int).toNat)=r.flat:=by
   rw[← List.drop_drop,e2];simp
  rw[e1,e2,e3,e4,Vx a m ha (by omega),Vx b m hb (by omega),Vx r m hr (by omega)]
  rfl
theorem Aup:∀ (m:Nat) (l:List St) (z:Nat),dF m l=some z→∃ F:SF,F.wf∧F.flat=l∧F.dep=z:=by
 intro m
 induction m with
 | zero=>intro l z h;cases h
 | succ m ih =>
  intro l z h
  cases l with
  | nil=>rw[dF] at h;cases h;exact⟨.nil,trivial,rfl,rfl⟩
  | cons x t =>
   rw[dF] at h
   by_cases c:0≤x.B5∧0≤x.Ch∧x.B5+x.Ch≤(t.length:Int)
   ·rw[if_pos c] at h
    obtain⟨p,h1,h⟩:=Option.bind_eq_some_iff.1 h
    obtain⟨q,h2,h⟩:=Option.bind_eq_some_iff.1 h
    obtain⟨r,h3,h⟩:=Option.bind_eq_some_iff.1 h
    obtain⟨A,a1,a2,a3⟩:=ih _ _ h1
    obtain⟨B,b1,b2,b3⟩:=ih _ _ h2
    obtain⟨R,r1,r2,r3⟩:=ih _ _ h3
    have hA:A.flat.length=x.B5.toNat:=by rw[a2,List.length_take];omega
    have hB:B.flat.length=x.Ch.toNat:=by rw[b2,List.length_take,List.length_drop];omega
    refine⟨.cons x A B R,⟨by omega,by omega,a1,b1,r1⟩,?_,?_⟩
    ·rw[SF.flat,a2,b2,r2,← List.drop_drop,List.take_append_drop,List.take_append_drop]
    ·rw[SF.dep,a3,b3,r3];exact Option.some.inj h
   ·rw[if_neg c] at h;cases h
def seg (l:List St) (i j:Nat):List St:=(l.take j).drop i
theorem B0y {l:List St} {i j:Nat} (h:j≤l.length):(seg l i j).length=j - i:=by unfold seg;rw[List.length_drop,List.length_take];omega
theorem Ayv {l:List St} {i j:Nat} (h:i < j) (hj:j≤l.length):seg l i j=(l[i]'(by omega)) :: seg l (i+1) j:=by
 unfold seg
 rw[List.drop_eq_getElem_cons (by rw[List.length_take];omega),List.getElem_take]
theorem Ayu {l:List St} {i j:Nat} (h:j≤i):seg l i j=[]:=by
 unfold seg;exact List.drop_of_length_le (by rw[List.length_take];omega)
theorem Anj {l:List St} {i j k:Nat} (h:i+k≤j):(seg l i j).take k=seg l i (i+k):=by
 unfold seg;rw[List.take_drop,List.take_take];congr 2;omega
theorem Ao5 {l:List St} {i j k:Nat}:(seg l i j).drop k=seg l (i+k) j:=by
 unfold seg;rw[List.drop_drop]
theorem As2 (n:Nat) (k:Int):Nu (n+1) k=some (Db k):=by
 rw[Nu,Db]
 cases k==10<;>cases k==11<;>cases k==12<;>rfl
def Afj:Option Nat→Int
 | some z=>(z:Int)
 | none=> -1
theorem B21 (a p q:Nat):A67 (a:Int) ((1+p:Nat):Int) ((1+q:Nat):Int)=((max a (max (1+p) (1+q)):Nat):Int):=by
 unfold A67;repeat' split
 all_goals omega
theorem B35 (l:List St) (hl:l.length < 1000000):∀ (m i j n k a:Nat),m≤1000001→i≤j→j≤l.length→j - i < m→3*m+10≤n→m≤k→a≤1000001 →
 match dF m (seg l i j) with
 | some z=>z < m∧D9 n (Ho n) l (j:Int) l k (i:Int) (a:Int)=some (.out ((max a z:Nat):Int))
 | none=>∃ d,D9 n (Ho n) l (j:Int) l k (i:Int) (a:Int)=some (.ret (false,d)):=by
 intro m
 induction m with
 | zero=>intro i j n k a _ _ _ h;omega
 | succ m ih =>
  intro i j n k a hmm hij hj hm hn hk ha
  obtain⟨k,rfl⟩:∃ q,k=q+1:=⟨k - 1,by omega⟩
  by_cases c:i < j
  ·rw[Ayv c hj,dF,D9,A6 (by omega),C8 (show i < l.length by omega),A1]
   have hx:l[i]?=some (l[i]'(by omega)):=Ax (by omega)
   generalize l[i]'(by omega)=x at *
   have hw:IntKind.i64.wrap (IntKind.i64.wrap ((j:Int) - (i:Int)) - 1)=((j - i - 1:Nat):Int):=by
    rw[Cx (show -9223372036854775808≤(j:Int) - (i:Int)∧_ by omega),Cx (by omega)];omega
   rw[B0y hj,hw]
   by_cases h1:x.B5 < 0
   ·rw[A6 h1,if_neg (by omega)];exact⟨_,rfl⟩
   rw[Aq h1]
   by_cases h2:x.Ch < 0
   ·rw[A6 h2,if_neg (by omega)];exact⟨_,rfl⟩
   rw[Aq h2]
   by_cases h3:((j - i - 1:Nat):Int) < x.B5
   ·rw[A6 h3,if_neg (by omega)];exact⟨_,rfl⟩
   rw[Aq h3,Cx (show -9223372036854775808≤((j - i - 1:Nat):Int) - x.B5∧_ by omega)]
   by_cases h4:((j - i - 1:Nat):Int) - x.B5 < x.Ch
   ·rw[A6 h4,if_neg (by omega)];exact⟨_,rfl⟩
   rw[Aq h4,if_pos ⟨by omega,by omega,by omega⟩]
   obtain⟨B,hB⟩:∃ B:Nat,x.B5=B:=⟨x.B5.toNat,by omega⟩
   obtain⟨E,hE⟩:∃ E:Nat,x.Ch=E:=⟨x.Ch.toNat,by omega⟩
   rw[hB] at h3
   rw[hB,hE] at h4 ⊢
   have w1:IntKind.i64.wrap (IntKind.i64.wrap ((i:Int)+1)+(B:Int))=((i+1+B:Nat):Int):=by
    rw[Cx (show -9223372036854775808≤(i:Int)+1∧_ by omega),Cx (by omega)];omega
   have w2:IntKind.i64.wrap (((i+1+B:Nat):Int)+(E:Int))=((i+1+B+E:Nat):Int):=by rw[Cx (by omega)];omega
   rw[w1,w2]
   simp only[Int.toNat_natCast]
   rw[Anj (by omega),Ao5,Anj (by omega),Ao5]
   obtain⟨n,rfl⟩:∃ q,n=q+3:=⟨n - 3,by omega⟩
   have dep:∀ p q:Nat,p≤q→q≤j→i < p→Ky (n+2) l (p:Int) (q:Int)=some (Afj (dF m (seg l p q)))∧(∀ z,dF m (seg l p q)=some z→z < m):=by
    intro p q hp hq hi
    have:=ih p q n n 0 (by omega) hp (by omega) (by omega) (by omega) (by omega) (by omega)
    rw[Ky,Hi]
    cases hd:dF m (seg l p q) with
    | some z =>
     rw[hd] at this
     obtain⟨z1,z2⟩:=this
     rw[show((0:Nat):Int)=0 from rfl] at z2
     rw[z2]
     refine⟨?_,fun z' hz=>by cases hz;exact z1⟩
     simp[Afj]
    | none =>
     rw[hd] at this
     obtain⟨d,h⟩:=this
     rw[show((0:Nat):Int)=0 from rfl] at h
     rw[h];exact⟨rfl,fun z hz=>by cases hz⟩
   obtain⟨d1,z1⟩:=dep (i+1) (i+1+B) (by omega) (by omega) (by omega)
   obtain⟨d2,z2⟩:=dep (i+1+B) (i+1+B+E) (by omega) (by omega) (by omega)
   rw[Ho,show IntKind.i64.wrap ((i:Int)+1)=((i+1:Nat):Int) by rw[Cx (by omega)];omega,d1,A1,d2,A1,Cn hx,A1,As2,A1]
   cases hp:dF m (seg l (i+1) (i+1+B)) with
   | none =>
    simp only[Afj,Option.bind_none]
    cases Db x.A7<;>exact⟨_,rfl⟩
   | some p =>
   have hpm:=z1 p hp
   cases hq:dF m (seg l (i+1+B) (i+1+B+E)) with
   | none =>
    simp only[Afj,Option.bind_none,A1]
    have:((p:Int) != -1)=true:=by rw[bne_iff_ne];omega
    cases Db x.A7<;>simp only[this]<;>exact⟨_,rfl⟩
   | some q =>
   have hqm:=z2 q hq
   simp only[Afj,A1]
   have e1:((p:Int) != -1)=true:=by rw[bne_iff_ne];omega
   have e2:((q:Int) != -1)=true:=by rw[bne_iff_ne];omega
   have w3:IntKind.i64.wrap (1+(p:Int))=((1+p:Nat):Int):=by rw[Cx (by omega)];omega
   have w4:IntKind.i64.wrap (1+(q:Int))=((1+q:Nat):Int):=by rw[Cx (by omega)];omega
   rw[e1,e2,w3,w4,B21]
   simp only[Af]
   have fin:∀ u:Nat,u≤1000001→(∀ z,z < m→max u z=max a (max (if Db x.A7=true then max (1+p) (1+q) else 0) z))→match (dF m (seg l (i+1+B+E) j)).bind fun z=>some (max (if Db x.A7=true then max (1+p) (1+q) else 0) z) with
    | some z=>z < m+1∧D9 (n+3) (Ho (n+3)) l (j:Int) l k ((i+1+B+E:Nat):Int) (u:Int)=some (.out ((max a z:Nat):Int))
    | none=>∃ d,D9 (n+3) (Ho (n+3)) l (j:Int) l k ((i+1+B+E:Nat):Int) (u:Int)=some (.ret (false,d)):=by
    intro u hu hz
    have:=ih (i+1+B+E) j (n+3) k u (by omega) (by omega) hj (by omega) (by omega) (by omega) hu
    cases hr:dF m (seg l (i+1+B+E) j) with
    | none=>rw[hr] at this;exact this
    | some z =>
     rw[hr] at this
     dsimp only at this
     refine⟨?_,by rw[this.2,hz z this.1]⟩
     have:=this.1
     split<;>omega
   rw[show i+1+(B+E)=i+1+B+E by omega]
   cases hb:Db x.A7 with
   | true =>
    rw[hb] at fin
    exact fin (max a (max (1+p) (1+q))) (by omega) (fun z _=>by simp only[if_true];omega)
   | false =>
    rw[hb] at fin
    exact fin a ha (fun z _=>by simp only[Bool.false_eq_true,if_false];omega)
  ·rw[Ayu (by omega),dF,D9,Aq (by omega)]
   exact⟨by omega,by rw[Nat.max_eq_left (by omega)]⟩
theorem B1f (l:List St) (hl:l.length < 1000) {n:Nat} (hn:4000≤n):R1 n l=some (Afj (dF (l.length+1) l)):=by
 obtain⟨n,rfl⟩:∃ q,n=q+3:=⟨n - 3,by omega⟩
 have:=B35 l (by omega) (l.length+1) 0 l.length n n 0 (by omega) (by omega) (by omega) (by omega) (by omega) (by omega) (by omega)
 have e:seg l 0 l.length=l:=by unfold seg;simp
 rw[e] at this
 rw[R1,Ky,Hi]
 cases hd:dF (l.length+1) l with
 | some z =>
  rw[hd] at this
  rw[show(0:Int)=((0:Nat):Int) from rfl,this.2];simp[Afj]
 | none =>
  rw[hd] at this
  obtain⟨d,h⟩:=this
  rw[show(0:Int)=((0:Nat):Int) from rfl,h];rfl
def Jb (f:List UInt8) (c:Int):Bool:=f.any fun b=>(b.toNat:Int)==c
theorem Auy (n:Nat) (k:Bn) (c:Int) (h:k.f_form.length < 100) (hn:102 < n):El n k c=some (Jb k.f_form c):=by
 obtain⟨n,rfl⟩:∃ j,n=j+1:=⟨n - 1,by omega⟩
 have:Gt n k c n 0=bif k.f_form.any (fun b=>(b.toNat:Int)==c) then some (.ret true) else some (.out ()):=by
  refine Ag5 k.f_form (fun q i=>Gt n k c q (i:Int)) _ (fun q=>?_) (fun q i x hi hx=>?_) (by omega)
  ·rw[Gt,Aq (by omega)]
  ·rw[Gt,A6 (by omega),Cn hx,A1,Ay i (by omega)]
 rw[El,this]
 unfold Jb
 cases k.f_form.any (fun b=>(b.toNat:Int)==c)<;>rfl
def Vh (k:Int):List UInt8:=Ul.getD k.toNat []
theorem Av6 (n:Nat) {k:Int} (h:1≤k∧k≤13):My (n+2) k=some (⟨Vh k,C2 k,Db k,k==10⟩,true):=by
 have c:k=1∨k=2∨k=3∨k=4∨k=5∨k=6∨k=7∨k=8∨k=9∨k=10∨k=11∨k=12∨k=13:=by omega
 rcases c with rfl | rfl | rfl | rfl | rfl | rfl | rfl | rfl | rfl | rfl | rfl | rfl | rfl<;>rfl
theorem B2p (n:Nat) {k:Int} (h:¬ (1≤k∧k≤13)):My (n+2) k=some (⟨[],[],false,false⟩,false):=by
 rw[My,show J9 (n+1)=some A3z from rfl,A1]
 by_cases c:k < 1
 ·rw[A6 c]
 ·rw[Aq c,A6 (show((A3z.length:Nat):Int)≤k by have:A3z.length=14:=rfl;omega)]
theorem Awc (n:Nat) (l:List Nd) (hl:l.length < 100000) (hn:l.length+30 < n):J6 n l=some (N9 l&&Ep l):=by
 obtain⟨n,rfl⟩:∃ j,n=j+1:=⟨n - 1,by omega⟩
 have hf:(l.filter Gb).length≤l.length:=List.length_filter_le ..
 rw[J6,A97 n l (by omega) (by omega),A1]
 have:=A3x (F:=fun k i=>Gd n (l.filter Gb) k i) (l.filter Gb) (fun k i h=>by rw[Gd,Aq (by omega)]) (fun k i y hi hy=>by rw[Gd,A6 (by omega),Cn hy,A1,Ay i (by omega)]) (l.filter Gb).length 0 n (by omega) (by omega)
 rw[show((0:Nat):Int)=0 from rfl] at this
 rw[this,A1,List.drop_zero,Y6 n l (by omega) (by omega)]
 unfold N9
 by_cases c:(l.filter Gb).all (fun y=>y.B3==2)=true
 ·rw[if_pos c,c];rfl
 ·rw[if_neg c];rw[Bool.not_eq_true] at c;rw[c];rfl
def fN (f:List UInt8) (c:Int) (s:List UInt8):Bool:=if Jb f c then Cp s else s==[]
def fL (f:List UInt8) (c:Int) (l:List Nd):Bool:=if Jb f c then N9 l&&Ep l else(l.length:Int)==0
def Fo (x:St):Bool:=decide (1≤x.A7∧x.A7≤13)&&(!decide (x.Ab < 0)&&((!x.Br || Jb (C2 x.A7) 113)&&(fN (C2 x.A7) 114 x.Bd&&(fN (C2 x.A7) 108 x.Be&&(fL (C2 x.A7) 101 x.Bm&&(fL (C2 x.A7) 102 x.C6&&((Db x.A7 || x.B5==0)&&(x.A7==10 || x.Ch==0))))))))
theorem Ar7 (n:Nat) (c:Int) (s w f:List UInt8) (b m:Bool) (hf:f.length < 100) (hn:104 < n):Iw n c s w f b m=some (fN f c s):=by
 obtain⟨n,rfl⟩:∃ j,n=j+1:=⟨n - 1,by omega⟩
 rw[Iw,Auy n _ c hf (by omega)]
 simp only[A1]
 have hs:Dp n s=some (Cp s):=by
  obtain⟨n,rfl⟩:∃ j,n=j+1:=⟨n - 1,by omega⟩
  simp only[Dp]
 rw[hs]
 unfold fN
 cases Jb f c with
 | false=>rfl
 | true=>simp only[Af,A1,if_true];cases Cp s<;>rfl
theorem Arc (n:Nat) (c:Int) (l:List Nd) (w f:List UInt8) (b m:Bool) (hf:f.length < 100) (hl:l.length < 100000) (hn:104 < n) (hn2:l.length+40 < n):J0 n c l w f b m=some (fL f c l):=by
 obtain⟨n,rfl⟩:∃ j,n=j+1:=⟨n - 1,by omega⟩
 rw[J0,Auy n _ c hf (by omega)]
 simp only[A1]
 rw[Awc n l hl (by omega)]
 unfold fL
 cases Jb f c with
 | false=>rfl
 | true=>simp only[Af,A1,if_true];cases (N9 l&&Ep l)<;>rfl
theorem B0e (n:Nat) (x:St) (h1:x.Bm.length < 100000) (h2:x.C6.length < 100000) (hn:110 < n) (hn1:x.Bm.length+50 < n) (hn2:x.C6.length+50 < n):Ru n x=some (Fo x):=by
 obtain⟨n,rfl⟩:∃ j,n=j+3:=⟨n - 3,by omega⟩
 have hfl:(C2 x.A7).length < 100:=by have:=A0d x.A7;omega
 rw[Ru]
 by_cases c:1≤x.A7∧x.A7≤13
 ·rw[Av6 n c,A1]
  unfold Fo
  rw[decide_eq_true c]
  dsimp only
  rw[Af,Auy (n+2) _ 113 hfl (by omega),Ar7 (n+2) 114 _ _ _ _ _ hfl (by omega),Ar7 (n+2) 108 _ _ _ _ _ hfl (by omega),Arc (n+2) 101 _ _ _ _ _ hfl h1 (by omega) (by omega),Arc (n+2) 102 _ _ _ _ _ hfl h2 (by omega) (by omega)]
  simp only[A1]
  cases decide (x.Ab < 0) with
  | true=>rfl
  | false =>
  cases x.Br with
  | true =>
   simp only[Af,An,Bool.not_true,Bool.not_false,Bool.true_and,Bool.false_or]
   cases Jb (C2 x.A7) 113<;>cases fN (C2 x.A7) 114 x.Bd<;>cases fN (C2 x.A7) 108 x.Be<;>cases fL (C2 x.A7) 101 x.Bm<;>cases fL (C2 x.A7) 102 x.C6<;>cases Db x.A7<;>cases x.B5==0<;>cases x.A7==10<;>rfl
  | false =>
   simp only[Af,An,Bool.not_true,Bool.not_false,Bool.true_and,Bool.true_or]
   cases fN (C2 x.A7) 114 x.Bd<;>cases fN (C2 x.A7) 108 x.Be<;>cases fL (C2 x.A7) 101 x.Bm<;>cases fL (C2 x.A7) 102 x.C6<;>cases Db x.A7<;>cases x.B5==0<;>cases x.A7==10<;>rfl
 ·rw[B2p n c,A1]
  unfold Fo
  rw[decide_eq_false c];rfl
def Atq (l:List St):Prop:=∀ x ∈ l,x.Bm.length≤250∧x.C6.length≤250
def No (l:List St):Bool:=match dF (l.length+1) l with
 | some z=>!decide (30 < z)&&(!decide (200 < l.length)&&l.all Fo)
 | none=>false
theorem Ans (n:Nat) (l:List St) (hl:l.length < 1000) (hx:Atq l) (hn:5000 < n):Nm n l=some (No l):=by
 obtain⟨n,rfl⟩:∃ j,n=j+1:=⟨n - 1,by omega⟩
 rw[Nm,B1f l hl (by omega),A1]
 unfold No
 have hL:Iv n l n 0=bif l.all Fo then some (.out ()) else some (.ret false):=by
  refine Nh l (fun q i=>Iv n l q (i:Int)) _ (fun q=>?_) (fun q i x hi hx'=>?_) (by omega)
  ·rw[Iv,Aq (by omega)]
  ·have:=hx x (List.mem_of_getElem? hx')
   rw[Iv,A6 (by omega),Cn hx',A1,B0e n x (by omega) (by omega) (by omega) (by omega) (by omega),A1,Ay i (by omega)]
 rw[hL]
 cases dF (l.length+1) l with
 | none=>rfl
 | some z =>
  show(bif ((z:Int)== -1) then some false else(bif decide (30 < (z:Int)) then some false else(bif decide (200 < ((l.length:Nat):Int)) then some false else _)))=some (!decide (30 < z)&&(!decide (200 < l.length)&&l.all Fo))
  rw[show((z:Int)== -1)=false by rw[beq_eq_false_iff_ne];omega,An]
  by_cases c1:30 < z
  ·rw[A6 (by omega),decide_eq_true c1];rfl
  ·rw[Aq (by omega),decide_eq_false c1]
   by_cases c2:200 < l.length
   ·rw[A6 (by omega),decide_eq_true c2];rfl
   ·rw[Aq (by omega),decide_eq_false c2]
    cases l.all Fo<;>rfl
theorem Z9 {l:List St} (h:No l=true):∃ F:SF,F.wf∧F.flat=l∧F.dep≤30∧l.length≤200∧∀ x ∈ l,Fo x=true:=by
 unfold No at h
 cases hd:dF (l.length+1) l with
 | none=>rw[hd] at h;cases h
 | some z =>
  rw[hd] at h
  simp only[Ah,Bool.not_eq_true',decide_eq_false_iff_not,List.all_eq_true] at h
  obtain⟨F,f1,f2,f3⟩:=Aup _ _ _ hd
  exact⟨F,f1,f2,by omega,by omega,h.2.2⟩
theorem Aad {F:SF} (h:F.wf) (hd:F.dep≤30) (hl:F.flat.length≤200) (hx:∀ x ∈ F.flat,Fo x=true):No F.flat=true:=by
 unfold No
 rw[Vx F _ h (by omega)]
 simp only[Ah,Bool.not_eq_true',decide_eq_false_iff_not,List.all_eq_true]
 exact⟨by omega,by omega,hx⟩
def SF.app:SF→SF→SF
 | .nil,G=>G
 | .cons x a b r,G=>.cons x a b (r.app G)
theorem Agd {l:List Nd} (h:l.all E2=true):P0 l:=by
 have nl:∀ {w:List UInt8},Cp w=true→w.length≤16:=fun h=>by
  obtain⟨_,_,_,_,_,h⟩:=S5 h;exact h
 intro x hx
 have hk:=List.all_eq_true.1 h x hx
 refine⟨hk,?_⟩
 by_cases c1:x.B3=1
 ·obtain⟨a,b⟩:=Aej hk c1
  rw[a,b];simp
 by_cases c2:x.B3=2∨x.B3=3
 ·obtain⟨a,b⟩:=Aeh hk c2
  obtain⟨n1,_⟩:=Yw hk (by omega) c1
  have:=nl n1
  rw[b];simp;omega
 by_cases c4:x.B3=4
 ·obtain⟨n1,n2⟩:=Yw hk (by omega) c1
  have:=nl n1;have:=nl (n2 c4);omega
 ·simp only[E2,Ah] at hk
  rw[if_neg c1,if_neg c2,if_neg c4] at hk
  simp only[Ah,beq_iff_eq] at hk
  rw[hk.2.2.1,hk.2.2.2];simp
def N5 (l:List Nd):List UInt8:=(Gk 2000 l).getD []
theorem Afd {l:List Nd} (h:Ep l=true):∃ t:Tr,t.wf∧t.flat=l∧l.length≤200∧t.dep≤30∧P0 t.flat∧N5 l=Ig t false∧(N5 l).length≤8000∧∀ n,1000 < n→Gk n l=some (N5 l):=by
 obtain⟨t,t1,t2,t3,t4,t5,t6,t7⟩:=A3h h
 subst t2
 have hno:=Agd t6
 have hs:=fun n (hn:1000 < n)=>Awd t1 hno t3 h (n:=n) hn
 have e:N5 t.flat=Ig t false:=by unfold N5;rw[hs 2000 (by omega)];rfl
 have:=Aqc t false t1 hno
 exact⟨t,t1,rfl,t3,t4,hno,e,by rw[e];omega,fun n hn=>by rw[hs n hn,e]⟩
theorem Al5 (n:Nat) (hn:1000 < n):Gk n []=some (N5 []):=by
 have h:∀ n,1000 < n→Gk n []=some []:=fun n hn=>by
  obtain⟨n,rfl⟩:∃ j,n=j+1:=⟨n - 1,by omega⟩
  rw[Gk,Y6 n [] (by simp) (by simp;omega)];rfl
 rw[h n hn];unfold N5;rw[h 2000 (by omega)];rfl
def Sy (x:St) (c:UInt8):List UInt8 :=
 if c.toNat=114 then 32 :: x.Bd else if c.toNat=108 then 32 :: x.Be else if c.toNat=101 then 32 :: N5 x.Bm else if c.toNat=102 then 32 :: N5 x.C6
 else if c.toNat=113 then(if x.Br then [32,33,61] else [32,61,61]) else if c.toNat=61 then [32,61] else [c]
def A87 (x:St):List UInt8:=Vh x.A7++(C2 x.A7).flatMap (Sy x)
def Vf:List UInt8:=[114,108,101,102,113,61,59,44]
theorem Um (k:Int):∀ c ∈ C2 k,c ∈ Vf:=by
 unfold C2;repeat' split
 all_goals decide
structure Acu (x:St):Prop where
 e:∀ n,1000 < n→Gk n x.Bm=some (N5 x.Bm)
 f:∀ n,1000 < n→Gk n x.C6=some (N5 x.C6)
 le:(N5 x.Bm).length≤8000
 lf:(N5 x.C6).length≤8000
 lr:x.Bd.length≤16
 ll:x.Be.length≤16
theorem Abq {x:St} (h:Fo x=true):Acu x:=by
 have nl:∀ {w:List UInt8},Cp w=true→w.length≤16:=fun h=>by
  obtain⟨_,_,_,_,_,h⟩:=S5 h;exact h
 simp only[Fo,Ah] at h
 obtain⟨_,_,_,h1,h2,h3,h4,_⟩:=h
 have hN:∀ {c:Int} {s:List UInt8},fN (C2 x.A7) c s=true→s.length≤16:=by
  intro c s hs
  unfold fN at hs
  split at hs
  ·exact nl hs
  ·rw[beq_iff_eq] at hs;rw[hs];simp
 have hL:∀ {c:Int} {l:List Nd},fL (C2 x.A7) c l=true→(∀ n,1000 < n→Gk n l=some (N5 l))∧(N5 l).length≤8000:=by
  intro c l hs
  unfold fL at hs
  split at hs
  ·rw[Ah] at hs
   obtain⟨t,_,_,_,_,_,_,g1,g2⟩:=Afd hs.2
   exact⟨g2,g1⟩
  ·rw[beq_iff_eq] at hs
   obtain rfl:l=[]:=List.length_eq_zero_iff.1 (by omega)
   refine⟨fun n hn=>Al5 n hn,?_⟩
   have:=Al5 2000 (by omega)
   rw[show Gk 2000 []=some [] by
    rw[Gk,Y6 1999 [] (by simp) (by simp)];rfl] at this
   rw[← Option.some.inj this];simp
 exact⟨(hL h3).1,(hL h4).1,(hL h3).2,(hL h4).2,hN h1,hN h2⟩
theorem Apm {x:St} (h:Acu x) (c:UInt8):(Sy x c).length≤8001:=by
 have:=h.le;have:=h.lf;have:=h.lr;have:=h.ll
 unfold Sy
 repeat' split
 all_goals simp
 all_goals omega
theorem Aku {x:St} (h:Acu x):∀ cs:List UInt8,(cs.flatMap (Sy x)).length≤8001*cs.length
 | []=>by simp
 | c :: cs=>by
  have:=Apm h c;have:=Aku h cs
  rw[List.flatMap_cons,List.length_append,List.length_cons];omega
theorem Aoz (k:Int):(Vh k).length≤5:=by
 have:∀ w ∈ Ul,w.length≤5:=by decide
 unfold Vh
 rw[List.getD_eq_getElem?_getD]
 cases h:Ul[k.toNat]? with
 | none=>simp
 | some w=>exact this w (List.mem_of_getElem? h)
theorem Amw {x:St} (h:Acu x):(A87 x).length≤80100:=by
 have:=Aku h (C2 x.A7);have:=A0d x.A7;have:=Aoz x.A7
 rw[A87,List.length_append];omega
theorem B1y {x:St} (h:Acu x) {n:Nat} (hn:1000 < n) (y:Bn×Bool):∀ (cs pre:List UInt8) (k:Nat) (s:List UInt8),y.1.f_form=pre++cs→(∀ c ∈ cs,c ∈ Vf)→(pre++cs).length < 100→cs.length < k→s.length+9000*cs.length < 100000000 →
 E0 n x y k s (pre.length:Int) x.Br=some (.out (s++cs.flatMap (Sy x),x.Br)):=by
 intro cs
 induction cs with
 | nil =>
  intro pre k s hf _ hl hk hs
  obtain⟨k,rfl⟩:∃ j,k=j+1:=⟨k - 1,by omega⟩
  rw[E0,hf,Aq (by simp)];simp
 | cons c cs ih =>
  intro pre k s hf hc hl hk hs
  obtain⟨k,rfl⟩:∃ j,k=j+1:=⟨k - 1,by omega⟩
  have hle:=h.le;have hlf:=h.lf;have hlr:=h.lr;have hll:=h.ll
  rw[List.length_cons] at hs hk
  have hget:idx (pre++c :: cs) (pre.length:Int)=some c:=A29 pre cs c
  have hlt:(pre.length:Int) < (((pre++c :: cs).length:Nat):Int):=by simp;omega
  have next:∀ u:List UInt8,u=Sy x c→E0 n x y k (s++u) (IntKind.i64.wrap ((pre.length:Int)+1)) x.Br=some (.out (s++(c :: cs).flatMap (Sy x),x.Br)):=by
   intro u hu
   have hu2:=Apm h c
   have:=ih (pre++[c]) k (s++u) (by rw[hf];simp) (fun d hd=>hc d (List.mem_cons_of_mem _ hd)) (by simpa using hl) (by omega) (by rw[List.length_append,hu];omega)
   rw[Ay pre.length (by simp at hl;omega)]
   rw[List.length_append,List.length_singleton] at this
   rw[this,List.flatMap_cons,hu,List.append_assoc]
  have hcc:=hc c (List.mem_cons_self ..)
  rw[E0,hf,A6 hlt,hget,A1,h.e n hn,h.f n hn]
  simp only[A1]
  have b1:(([32]:List UInt8)).length+x.Bd.length≤140737488355328:=by simp;omega
  have b2:s.length+(([32]:List UInt8)++x.Bd).length≤140737488355328:=by simp;omega
  have b3:(([32]:List UInt8)).length+x.Be.length≤140737488355328:=by simp;omega
  have b4:s.length+(([32]:List UInt8)++x.Be).length≤140737488355328:=by simp;omega
  have b5:(([32]:List UInt8)).length+(N5 x.Bm).length≤140737488355328:=by simp;omega
  have b6:s.length+(([32]:List UInt8)++N5 x.Bm).length≤140737488355328:=by simp;omega
  have b7:(([32]:List UInt8)).length+(N5 x.C6).length≤140737488355328:=by simp;omega
  have b8:s.length+(([32]:List UInt8)++N5 x.C6).length≤140737488355328:=by simp;omega
  have b9:∀ u:List UInt8,u.length≤5→s.length+u.length≤140737488355328:=fun u hu=>by omega
  simp only[Vf,List.mem_cons,List.not_mem_nil,or_false] at hcc
  rcases hcc with rfl | rfl | rfl | rfl | rfl | rfl | rfl | rfl
  ·rw[A6 b1,A6 b2];exact next _ rfl
  ·rw[A6 b3,A6 b4];exact next _ rfl
  ·rw[A6 b5,A6 b6];exact next _ rfl
  ·rw[A6 b7,A6 b8];exact next _ rfl
  ·rw[A6 (b9 [32,33,61] (by decide)),A6 (b9 [32,61,61] (by decide))]
   have hp:Sy x 113=if x.Br then [32,33,61] else [32,61,61]:=rfl
   cases hne:x.Br with
   | true =>
    rw[hne,if_pos rfl] at hp
    have:=next _ hp.symm
    rw[hne] at this;exact this
   | false =>
    rw[hne,if_neg (by simp)] at hp
    have:=next _ hp.symm
    rw[hne] at this;exact this
  ·rw[A6 (b9 [32,61] (by decide))];exact next _ rfl
  ·rw[A6 (b9 [UInt8.ofNat (IntKind.i32.wrap (((59:UInt8).toNat:Nat):Int)).toNat] (by simp))];exact next _ rfl
  ·rw[A6 (b9 [UInt8.ofNat (IntKind.i32.wrap (((44:UInt8).toNat:Nat):Int)).toNat] (by simp))];exact next _ rfl
theorem B27 {x:St} (h:Fo x=true) {n:Nat} (hn:1200 < n):Rv n x=some (A87 x):=by
 obtain⟨n,rfl⟩:∃ j,n=j+3:=⟨n - 3,by omega⟩
 have hp:=Abq h
 have hk:1≤x.A7∧x.A7≤13:=by
  simp only[Fo,Ah,C1] at h;exact h.1
 have hfl:=A0d x.A7;have hwl:=Aoz x.A7
 have:=B1y hp (n:=n+2) (by omega) (⟨Vh x.A7,C2 x.A7,Db x.A7,x.A7==10⟩,true) (C2 x.A7) [] (n+2) (Vh x.A7) rfl (Um _) (by simp;omega) (by omega) (by omega)
 rw[Rv,Av6 n hk,A1]
 have this:E0 (n+2) x (⟨Vh x.A7,C2 x.A7,Db x.A7,x.A7==10⟩,true) (n+2) (Vh x.A7) 0 x.Br=_:=this
 dsimp only
 rw[this];rfl
def A23 (d:Nat):List UInt8:=List.replicate (2*d) 32
theorem B2v (n d:Nat) (hd:d < 100000):∀ (m i k:Nat) (s:List UInt8),d - i≤m→m < k→i≤d→s.length≤2*i→Ld n (d:Int) k s (i:Int)=some (.out (s++A23 (d - i))):=by
 intro m
 induction m with
 | zero =>
  intro i k s h hk hi hs
  obtain⟨k,rfl⟩:∃ j,k=j+1:=⟨k - 1,by omega⟩
  rw[Ld,Aq (by omega),show d - i=0 by omega];simp[A23]
 | succ m ih =>
  intro i k s h hk hi hs
  obtain⟨k,rfl⟩:∃ j,k=j+1:=⟨k - 1,by omega⟩
  by_cases c:i < d
  ·rw[Ld,A6 (by omega),A6 (show s.length+([32,32]:List UInt8).length≤140737488355328 by simp;omega),Ay i (by omega),ih (i+1) k _ (by omega) (by omega) (by omega) (by simp;omega)]
   obtain⟨q,hq⟩:∃ q,d - i=q+1:=⟨d - i - 1,by omega⟩
   rw[hq,show d - (i+1)=q by omega,List.append_assoc]
   unfold A23
   rw[show 2*(q+1)=2*q+1+1 by omega,List.replicate_succ,List.replicate_succ];rfl
  ·rw[Ld,Aq (by omega),show d - i=0 by omega];simp[A23]
theorem B3b (n d:Nat) (hd:d < 100000) (hn:d+2 < n):Oq n (d:Int)=some (A23 d):=by
 obtain⟨n,rfl⟩:∃ j,n=j+1:=⟨n - 1,by omega⟩
 have:=B2v n d hd d 0 n [] (by omega) (by omega) (by omega) (by simp)
 rw[Oq,show(0:Int)=((0:Nat):Int) from rfl,this];rfl
def Od:SF→Nat→List UInt8
 | .nil,_=>[]
 | .cons x a b r,d=>(A23 d++A87 x)++((if Db x.A7 then(([32,123,10]++Od a (d+1))++A23 d)++((if b.flat=[] then [] else([125,32,101,108,115,101,32,123,10]++Od b (d+1))++A23 d)++[125]) else [])++([10]++Od r d))
theorem A0p:∀ (F:SF) (d:Nat),(∀ x ∈ F.flat,Fo x=true)→d+F.flat.length≤1000→(Od F d).length≤100000*F.flat.length
 | .nil,d,_,_=>by simp[Od]
 | .cons x a b r,d,h,hd=>by
  rw[SF.flat] at h hd ⊢
  simp only[List.length_cons,List.length_append] at hd ⊢
  have h1:=Amw (Abq (h x (List.mem_cons_self ..)))
  have ha:=A0p a (d+1) (fun y hy=>h y (by simp[hy])) (by omega)
  have hb:=A0p b (d+1) (fun y hy=>h y (by simp[hy])) (by omega)
  have hr:=A0p r d (fun y hy=>h y (by simp[hy])) (by omega)
  have hp:(A23 d).length≤2000:=by simp[A23];omega
  rw[Od]
  cases Db x.A7 with
  | false=>simp;omega
  | true =>
   by_cases c:b.flat=[]
   ·simp[c];omega
   ·simp[c];omega
theorem Age:∀ (F:SF) (pre post:List St) (n k d:Nat) (s:List UInt8),F.wf→(∀ x ∈ F.flat,Fo x=true)→(pre++(F.flat++post)).length < 1000→3*F.flat.length+1300≤n→F.flat.length < k→d+F.flat.length≤1000→s.length+100000*F.flat.length≤1000000000 →
 Dt n (Jm n) (pre++(F.flat++post)) ((pre.length+F.flat.length:Nat):Int) (d:Int) (pre++(F.flat++post)) k (pre.length:Int) s=some (.out (s++Od F d))
 | .nil,pre,post,n,k,d,s,_,_,_,_,hk,_,_=>by
  obtain⟨k,rfl⟩:∃ j,k=j+1:=⟨k - 1,by omega⟩
  rw[Dt,Aq (by simp[SF.flat])];simp[Od]
 | .cons x a b r,pre,post,n,k,d,s,hw,hx,hl,hn,hk,hd,hs=>by
  obtain⟨k,rfl⟩:∃ j,k=j+1:=⟨k - 1,by omega⟩
  obtain⟨n,rfl⟩:∃ j,n=j+3:=⟨n - 3,by omega⟩
  obtain⟨w1,w2,wa,wb,wr⟩:=hw
  have hfx:=hx x (by simp[SF.flat])
  have hxa:∀ y ∈ a.flat,Fo y=true:=fun y hy=>hx y (by simp[SF.flat,hy])
  have hxb:∀ y ∈ b.flat,Fo y=true:=fun y hy=>hx y (by simp[SF.flat,hy])
  have hxr:∀ y ∈ r.flat,Fo y=true:=fun y hy=>hx y (by simp[SF.flat,hy])
  have hF:(SF.cons x a b r).flat.length=1+a.flat.length+b.flat.length+r.flat.length:=by simp[SF.flat];omega
  have hlen:(pre++((SF.cons x a b r).flat++post)).length=pre.length+(1+a.flat.length+b.flat.length+r.flat.length+post.length):=by simp only[List.length_append,hF]
  rw[hlen] at hl
  rw[hF] at hn hk hd hs
  have hget:(pre++((SF.cons x a b r).flat++post))[pre.length]?=some x:=by
   rw[List.getElem?_append_right (Nat.le_refl _),Nat.sub_self];rfl
  have la:=A0p a (d+1) hxa (by omega)
  have lb:=A0p b (d+1) hxb (by omega)
  have lh:=Amw (Abq hfx)
  have lp:(A23 d).length≤2000:=by simp[A23];omega
  have ea:pre++((SF.cons x a b r).flat++post)=(pre++[x])++(a.flat++(b.flat++(r.flat++post))):=by simp[SF.flat]
  have eb:pre++((SF.cons x a b r).flat++post)=(pre++x :: a.flat)++(b.flat++(r.flat++post)):=by simp[SF.flat]
  have er:pre++((SF.cons x a b r).flat++post)=(pre++x :: (a.flat++b.flat))++(r.flat++post):=by simp[SF.flat]
  have ga:Kl (n+2) (pre++((SF.cons x a b r).flat++post)) ((pre.length+1:Nat):Int) ((pre.length+1+a.flat.length:Nat):Int) ((d+1:Nat):Int)=some (Od a (d+1)):=by
   have:=Age a (pre++[x]) (b.flat++(r.flat++post)) n n (d+1) [] wa hxa (by rw[← ea,hlen];exact hl) (by omega) (by omega) (by omega) (by simp;omega)
   rw[← ea] at this
   simp only[List.length_append,List.length_singleton] at this
   rw[Kl,Gw,this];rfl
  have gb:Kl (n+2) (pre++((SF.cons x a b r).flat++post)) ((pre.length+1+a.flat.length:Nat):Int) ((pre.length+1+a.flat.length+b.flat.length:Nat):Int) ((d+1:Nat):Int)=some (Od b (d+1)):=by
   have:=Age b (pre++x :: a.flat) (r.flat++post) n n (d+1) [] wb hxb (by rw[← eb,hlen];exact hl) (by omega) (by omega) (by omega) (by simp;omega)
   rw[← eb] at this
   simp only[List.length_append,List.length_cons] at this
   rw[show pre.length+(a.flat.length+1)=pre.length+1+a.flat.length by omega] at this
   rw[Kl,Gw,this];rfl
  have gr:∀ u:List UInt8,u.length+100000*r.flat.length≤1000000000→Dt (n+3) (Jm (n+3)) (pre++((SF.cons x a b r).flat++post)) ((pre.length+(SF.cons x a b r).flat.length:Nat):Int) (d:Int) (pre++((SF.cons x a b r).flat++post)) k ((pre.length+1+a.flat.length+b.flat.length:Nat):Int) u=some (.out (u++Od r d)):=by
   intro u hu
   have:=Age r (pre++x :: (a.flat++b.flat)) post (n+3) k d u wr hxr (by rw[← er,hlen];exact hl) (by omega) (by omega) (by omega) hu
   rw[← er] at this
   simp only[List.length_append,List.length_cons] at this
   rw[show pre.length+(a.flat.length+b.flat.length+1)=pre.length+1+a.flat.length+b.flat.length by omega] at this
   rw[show pre.length+(SF.cons x a b r).flat.length=pre.length+1+a.flat.length+b.flat.length+r.flat.length by rw[hF];omega]
   exact this
  have v1:IntKind.i64.wrap ((pre.length:Int)+1)=((pre.length+1:Nat):Int):=by rw[Cx (by omega)];omega
  have v2:IntKind.i64.wrap (((pre.length+1:Nat):Int)+((a.flat.length:Nat):Int))=((pre.length+1+a.flat.length:Nat):Int):=by rw[Cx (by omega)];omega
  have v3:IntKind.i64.wrap (((pre.length+1+a.flat.length:Nat):Int)+((b.flat.length:Nat):Int))=((pre.length+1+a.flat.length+b.flat.length:Nat):Int):=by rw[Cx (by omega)];omega
  have v4:IntKind.i64.wrap ((d:Int)+1)=((d+1:Nat):Int):=by rw[Cx (by omega)];omega
  have v5:IntKind.i64.wrap (IntKind.i64.wrap (((pre.length+(SF.cons x a b r).flat.length:Nat):Int) - (pre.length:Int)) - 1)=((a.flat.length+b.flat.length+r.flat.length:Nat):Int):=by
   rw[hF,Cx (show -9223372036854775808≤((pre.length+(1+a.flat.length+b.flat.length+r.flat.length):Nat):Int) - (pre.length:Int)∧_ by omega),Cx (by omega)];omega
  have v6:IntKind.i64.wrap (((a.flat.length+b.flat.length+r.flat.length:Nat):Int) - ((a.flat.length:Nat):Int))=((b.flat.length+r.flat.length:Nat):Int):=by rw[Cx (by omega)];omega
  rw[Dt,A6 (by rw[hF];omega),Cn hget,A1,w1,w2,Aq (by omega),Aq (by omega),v5,Aq (by omega),v6,Aq (by omega),v1,v2,v3]
  rw[Jm,B3b (n+2) d (by omega) (by omega),A1,Cn hget,A1,B27 hfx (by omega),A1,A1,As2,A1,v1,v4,ga]
  simp only[A1]
  rw[gb]
  simp only[A1,List.length_append,List.length_cons,List.length_nil]
  rw[A6 (by omega),A6 (by omega)]
  rw[Od]
  cases hb:Db x.A7 with
  | false =>
   simp only[An,Bool.false_eq_true,if_false]
   rw[A6 (by omega),A1]
   dsimp only
   rw[Af,gr _ (by simp;omega)]
   simp
  | true =>
   simp only[Af,if_true]
   rw[A6 (by omega),A6 (by omega),A6 (by omega)]
   by_cases c:b.flat=[]
   ·have c':b.flat.length=0:=by rw[c];rfl
    rw[Aq (by omega),A6 (by omega),A6 (by omega),A1]
    dsimp only
    rw[Af,gr _ (by simp;omega),if_pos c]
    simp
   ·have c':b.flat.length≠0:=fun e=>c (List.length_eq_zero_iff.1 e)
    rw[A6 (by omega),A6 (by omega),A6 (by omega),A6 (by omega),A6 (by omega),A6 (by omega),A1]
    dsimp only
    rw[Af,gr _ (by simp;omega),if_neg c]
    simp
theorem B0j {F:SF} (hw:F.wf) (hr:No F.flat=true) (d n:Nat) (hd:d≤100) (hn:6000 < n):O4 n F.flat (d:Int)=some (Od F d):=by
 obtain⟨n,rfl⟩:∃ j,n=j+3:=⟨n - 3,by omega⟩
 obtain⟨_,_,_,_,hl,hx⟩:=Z9 hr
 have hlen:Atq F.flat:=by
  intro x hx'
  have h:=hx x hx'
  simp only[Fo,Ah] at h
  obtain⟨_,_,_,_,_,h3,h4,_⟩:=h
  have hL:∀ {c:Int} {l:List Nd},fL (C2 x.A7) c l=true→l.length≤250:=by
   intro c l hs
   unfold fL at hs
   split at hs
   ·rw[Ah] at hs
    obtain⟨t,_,_,t3,_⟩:=A3h hs.2
    omega
   ·rw[beq_iff_eq] at hs;omega
  exact⟨hL h3,hL h4⟩
 have:=Age F [] [] n n d [] hw hx (by simp;omega) (by omega) (by omega) (by omega) (by simp;omega)
 simp only[List.nil_append,List.append_nil,List.length_nil,Nat.zero_add] at this
 rw[O4,Aq (by omega),Aq (by omega),Ans (n+2) F.flat (by omega) hlen (by omega),A1,hr,Af,Kl,Gw,show(0:Int)=((0:Nat):Int) from rfl,this]
 rfl
open Classical in
noncomputable def trE (l:List Nd):Tr:=if h:∃ t:Tr,t.wf∧t.flat=l then h.choose else .leaf ⟨0,0,[],[],0⟩
theorem Abw {l:List Nd} (h:Ep l=true):(trE l).wf∧(trE l).flat=l∧l.length≤200∧(trE l).dep≤30∧P0 l∧N5 l=Ig (trE l) false:=by
 obtain⟨t,t1,t2,t3,t4,t5,t6,t7⟩:=A3h h
 have hx:∃ t:Tr,t.wf∧t.flat=l:=⟨t,t1,t2⟩
 have e:trE l=hx.choose:=by unfold trE;rw[dif_pos hx]
 have hs:=hx.choose_spec
 rw[← e] at hs
 generalize trE l=u at *
 obtain⟨u1,u2⟩:=hs
 have hno:=Agd t6
 have hd:u.dep≤30:=by
  have:=A38 u [] 0 [] u1 (by omega)
  rw[List.append_nil,u2] at this
  have e:(Ff l (0,[])).1=(u.dep:Int):=by rw[this];simp[Ff]
  omega
 refine⟨u1,u2,t3,hd,hno,?_⟩
 subst u2
 unfold N5
 rw[Awd u1 hno t3 h (n:=2000) (by omega)];rfl
noncomputable def A8q (l:List Nd):List Ck:=It (trE l) false
theorem Aeq {l:List Nd} (h:Ep l=true):Seg OkE (N5 l) (A8q l):=by
 obtain⟨h1,h2,_,_,h3,h4⟩:=Abw h
 rw[h4];exact Az3 _ false h1 (by rw[h2];exact h3)
theorem A5q:Seg (fun _=>True) [] []:=fun rest p acc _=>⟨[],rfl,fun f f' hf hf'=>by
 simp only[List.nil_append,List.length_nil,Nat.add_zero,List.append_nil] at hf ⊢
 exact Vs f f' _ _ _ hf hf'⟩
theorem Ai6 {c:UInt8} (hc:Ji c.toNat=true):Seg (fun _=>True) [c] []:=by
 intro rest p acc _
 refine⟨[],rfl,fun f f' hf hf'=>?_⟩
 obtain⟨f,rfl⟩:∃ j,f=j+1:=⟨f - 1,by omega⟩
 have hg:D7 false (c :: rest)=1+D7 false rest:=Zd hc
 rw[List.singleton_append] at hf ⊢
 have e:Ed (f+1) (c :: rest) p acc=Ed (f+1) rest (p+1) acc:=by
  rw[Ed,Ed,hg]
  have:(c :: rest).drop (1+D7 false rest)=rest.drop (D7 false rest):=by rw[Nat.add_comm,List.drop_succ_cons]
  rw[this]
  have e3:p+(1+D7 false rest)=p+1+D7 false rest:=by omega
  rw[e3]
 rw[e,List.append_nil]
 exact Vs _ _ _ _ _ (by simp at hf;omega) hf'
theorem Aij:∀ d:Nat,Seg (fun _=>True) (A23 d) []:=by
 have:∀ m:Nat,Seg (fun _=>True) (List.replicate m (32:UInt8)) []:=by
  intro m
  induction m with
  | zero=>exact A5q
  | succ m ih=>exact Co (Ai6 (c:=32) (by decide)) ih (fun _ _=>trivial)
 exact fun d=>this _
theorem Ay8 {c:UInt8} {t r:List UInt8} (h1:Et c.toNat=true) (h2:∀ d ∈ c :: t,H8 d.toNat=true) (h3:(c :: t).length≤16) (hr:A6s r):Jo (c :: t++r)=.tok 1 (c :: t).length 0:=by
 have hrun:Cj H8 (c :: t++r)=(c :: t).length:=Aau h2 hr
 rw[List.cons_append] at hrun ⊢
 show(if Et c.toNat then _ else _)=_
 rw[if_pos h1,hrun,if_neg (by omega)]
theorem Afr {w:List UInt8} (h:∃ c t,w=c :: t∧Et c.toNat=true∧(∀ d ∈ c :: t,H8 d.toNat=true)∧(c :: t).length≤16):Seg A6s w [(1,w,0)]:=by
 obtain⟨c,t,rfl,h1,h2,h3⟩:=h
 exact Xi (by simp) (fun d u e=>by
  obtain⟨rfl,rfl⟩:=List.cons.inj e
  exact A6i h1) (fun r hr=>Ay8 h1 h2 h3 hr)
theorem B1i {k:Int} (h:1≤k∧k≤13):∃ c t,Vh k=c :: t∧Et c.toNat=true∧(∀ d ∈ c :: t,H8 d.toNat=true)∧(c :: t).length≤16:=by
 have c:k=1∨k=2∨k=3∨k=4∨k=5∨k=6∨k=7∨k=8∨k=9∨k=10∨k=11∨k=12∨k=13:=by omega
 rcases c with rfl | rfl | rfl | rfl | rfl | rfl | rfl | rfl | rfl | rfl | rfl | rfl | rfl<;>exact⟨_,_,rfl,by decide,by decide,by decide⟩
theorem Ai0 {c:UInt8} (h:∀ r,Jo (c :: r)=.tok 3 1 0) (hb:Ji c.toNat=false∧c.toNat≠35):Seg (fun _=>True) [c] [(3,[c],0)] :=
 Xi (by simp) (fun d t e=>by obtain⟨rfl,_⟩:=List.cons.inj e;exact hb) (fun r _=>h r)
theorem Afi:Seg (fun _=>True) [59] [(3,[59],0)]:=Ai0 (fun r=>by cases r<;>rfl) (by decide)
theorem Ako:Seg (fun _=>True) [44] [(3,[44],0)]:=Ai0 (fun r=>by cases r<;>rfl) (by decide)
theorem As0:Seg (fun _=>True) [123] [(3,[123],0)]:=Ai0 (fun r=>by cases r<;>rfl) (by decide)
theorem Aiy:Seg (fun _=>True) [125] [(3,[125],0)]:=Ai0 (fun r=>by cases r<;>rfl) (by decide)
def Sp (r:List UInt8):Prop:=∃ t,r=32 :: t
theorem Avi:Seg Sp [61] [(3,[61],0)]:=Xi (by simp) (fun c t e=>by obtain⟨rfl,_⟩:=List.cons.inj e;decide) (fun r hr=>by obtain⟨t,rfl⟩:=hr;rfl)
noncomputable def Yy (x:St) (c:UInt8):List Ck :=
 if c.toNat=114 then [(1,x.Bd,0)] else if c.toNat=108 then [(1,x.Be,0)] else if c.toNat=101 then A8q x.Bm else if c.toNat=102 then A8q x.C6
 else if c.toNat=113 then [(3,if x.Br then [33,61] else [61,61],0)] else [(3,[c],0)]
noncomputable def A3d (x:St):List Ck:=(1,Vh x.A7,0) :: (C2 x.A7).flatMap (Yy x)
def spB (c:UInt8):Bool:=c==114 || c==108 || c==101 || c==102 || c==113 || c==61
def A6n:List UInt8→Bool
 | []=>true
 | [c]=>c != 113&&c != 61
 | c :: d :: cs=>((c != 113&&c != 61) || spB d)&&A6n (d :: cs)
theorem Atz (k:Int):A6n (C2 k)=true:=by
 unfold C2;repeat' split
 all_goals decide
structure Agb (x:St) (cs:List UInt8):Prop where
 r:114 ∈ cs→Cp x.Bd=true
 l:108 ∈ cs→Cp x.Be=true
 e:101 ∈ cs→Ep x.Bm=true
 f:102 ∈ cs→Ep x.C6=true
theorem Rs {f:List UInt8} {c:UInt8} (h:c ∈ f):Jb f (c.toNat:Int)=true:=by
 unfold Jb;exact List.any_eq_true.2 ⟨c,h,by simp⟩
theorem Ajr {x:St} (h:Fo x=true):Agb x (C2 x.A7):=by
 simp only[Fo,Ah] at h
 obtain⟨_,_,_,h1,h2,h3,h4,_⟩:=h
 refine⟨fun hm=>?_,fun hm=>?_,fun hm=>?_,fun hm=>?_⟩
 ·have:Jb (C2 x.A7) 114=true:=Rs hm;unfold fN at h1;rw[if_pos this] at h1;exact h1
 ·have:Jb (C2 x.A7) 108=true:=Rs hm;unfold fN at h2;rw[if_pos this] at h2;exact h2
 ·have:Jb (C2 x.A7) 101=true:=Rs hm;unfold fL at h3;rw[if_pos this,Ah] at h3;exact h3.2
 ·have:Jb (C2 x.A7) 102=true:=Rs hm;unfold fL at h4;rw[if_pos this,Ah] at h4;exact h4.2
theorem Al8 {x:St} {c:UInt8} (hc:c ∈ Vf) (r:List UInt8):OkE (Sy x c++r)∧(spB c=true→Sp (Sy x c++r)):=by
 simp only[Vf,List.mem_cons,List.not_mem_nil,or_false] at hc
 rcases hc with rfl | rfl | rfl | rfl | rfl | rfl | rfl | rfl
 ·exact⟨.inr ⟨_,.inl rfl⟩,fun _=>⟨_,rfl⟩⟩
 ·exact⟨.inr ⟨_,.inl rfl⟩,fun _=>⟨_,rfl⟩⟩
 ·exact⟨.inr ⟨_,.inl rfl⟩,fun _=>⟨_,rfl⟩⟩
 ·exact⟨.inr ⟨_,.inl rfl⟩,fun _=>⟨_,rfl⟩⟩
 ·have hp:Sy x 113=if x.Br then [32,33,61] else [32,61,61]:=rfl
  rw[hp];cases x.Br<;>exact⟨.inr ⟨_,.inl rfl⟩,fun _=>⟨_,rfl⟩⟩
 ·exact⟨.inr ⟨_,.inl rfl⟩,fun _=>⟨_,rfl⟩⟩
 ·exact⟨.inr ⟨_,.inr (.inr (.inr (.inl rfl)))⟩,fun h=>absurd h (by decide)⟩
 ·exact⟨.inr ⟨_,.inr (.inr (.inl rfl))⟩,fun h=>absurd h (by decide)⟩
theorem Ahi {x:St} {cs:List UInt8} (hc:∀ c ∈ cs,c ∈ Vf) {r:List UInt8} (hr:OkE r):OkE (cs.flatMap (Sy x)++r):=by
 cases cs with
 | nil=>exact hr
 | cons c cs =>
  rw[List.flatMap_cons,List.append_assoc]
  exact(Al8 (hc c (List.mem_cons_self ..)) _).1
theorem Av1 {x:St}:∀ cs:List UInt8,A6n cs=true→(∀ c ∈ cs,c ∈ Vf)→Agb x cs→Seg OkE (cs.flatMap (Sy x)) (cs.flatMap (Yy x)):=by
 intro cs
 induction cs with
 | nil=>intro _ _ _;exact A6d A5q (fun _ _=>trivial)
 | cons c cs ih =>
  intro hch hc hp
  have hch2:A6n cs=true:=by
   cases cs with
   | nil=>rfl
   | cons d ds=>rw[A6n,Ah] at hch;exact hch.2
  have ht:=ih hch2 (fun d hd=>hc d (List.mem_cons_of_mem _ hd)) ⟨fun h=>hp.r (List.mem_cons_of_mem _ h),fun h=>hp.l (List.mem_cons_of_mem _ h),fun h=>hp.e (List.mem_cons_of_mem _ h),fun h=>hp.f (List.mem_cons_of_mem _ h)⟩
  have hok:∀ r,OkE r→OkE (cs.flatMap (Sy x)++r):=fun r hr=>Ahi (fun d hd=>hc d (List.mem_cons_of_mem _ hd)) hr
  have hsp:c=113∨c=61→∀ r,OkE r→Sp (cs.flatMap (Sy x)++r):=by
   intro h13 r hr
   cases cs with
   | nil=>rw[A6n] at hch;rcases h13 with rfl | rfl<;>simp at hch
   | cons d ds =>
    rw[A6n,Ah] at hch
    have:spB d=true:=by
     have h:=hch.1
     rcases h13 with rfl | rfl<;>simpa using h
    rw[List.flatMap_cons,List.append_assoc]
    exact(Al8 (hc d (by simp)) _).2 this
  have hcc:=hc c (List.mem_cons_self ..)
  rw[List.flatMap_cons,List.flatMap_cons]
  simp only[Vf,List.mem_cons,List.not_mem_nil,or_false] at hcc
  rcases hcc with rfl | rfl | rfl | rfl | rfl | rfl | rfl | rfl
  ·exact Co (Mx (Wc (hp.r (List.mem_cons_self ..)))) ht (fun r hr=>A5m (hok r hr))
  ·exact Co (Mx (Wc (hp.l (List.mem_cons_self ..)))) ht (fun r hr=>A5m (hok r hr))
  ·exact Co (Mx (Aeq (hp.e (List.mem_cons_self ..)))) ht hok
  ·exact Co (Mx (Aeq (hp.f (List.mem_cons_self ..)))) ht hok
  ·have h1:Sy x 113=if x.Br then [32,33,61] else [32,61,61]:=rfl
   have h2:Yy x 113=[(3,if x.Br then [33,61] else [61,61],0)]:=rfl
   rw[h1,h2]
   cases x.Br with
   | true=>exact Co (Mx (Ag0 (op:=10) (by omega))) ht (hsp (.inl rfl))
   | false=>exact Co (Mx (Ag0 (op:=9) (by omega))) ht (hsp (.inl rfl))
  ·exact Co (Mx Avi) ht (hsp (.inr rfl))
  ·exact Co Afi ht (fun _ _=>trivial)
  ·exact Co Ako ht (fun _ _=>trivial)
theorem Az7 {x:St} (h:Fo x=true):Seg OkE (A87 x) (A3d x):=by
 have hk:1≤x.A7∧x.A7≤13:=by
  simp only[Fo,Ah,C1] at h;exact h.1
 exact Co (Afr (B1i hk)) (Av1 _ (Atz _) (Um _) (Ajr h)) (fun r hr=>A5m (Ahi (Um _) hr))
def A3o:List UInt8:=[101,108,115,101]
noncomputable def Jy:SF→List Ck
 | .nil=>[]
 | .cons x a b r=>A3d x++((if Db x.A7 then((3,[123],0) :: Jy a)++((if b.flat=[] then [] else(3,[125],0) :: (1,A3o,0) :: (3,[123],0) :: Jy b)++[(3,[125],0)]) else [])++Jy r)
theorem A83:∀ (F:SF) (d:Nat),(∀ x ∈ F.flat,Fo x=true)→Seg (fun _=>True) (Od F d) (Jy F)
 | .nil,d,_=>A5q
 | .cons x a b r,d,h=>by
  have hx:=h x (by simp[SF.flat])
  have ha:=A83 a (d+1) (fun y hy=>h y (by simp[SF.flat,hy]))
  have hb:=A83 b (d+1) (fun y hy=>h y (by simp[SF.flat,hy]))
  have hr:=A83 r d (fun y hy=>h y (by simp[SF.flat,hy]))
  have hh:=Co (Aij d) (Az7 hx) (fun _ _=>trivial)
  have nl:Seg (fun _=>True) [10] []:=Ai6 (c:=10) (by decide)
  have bl:Seg (fun _=>True) [32] []:=Ai6 (c:=32) (by decide)
  have tr:∀ r:List UInt8,(fun _:List UInt8=>True) r→(fun _:List UInt8=>True) r:=fun _ _=>trivial
  have hn:=Co nl hr (fun _ _=>trivial)
  rw[Od,Jy]
  cases hb2:Db x.A7 with
  | false =>
   simp only[Bool.false_eq_true,if_false,List.nil_append]
   exact Co hh hn (fun r _=>.inr ⟨_,.inr (.inr (.inr (.inr rfl)))⟩)
  | true =>
   simp only[if_true]
   have open1:Seg (fun _=>True) [32,123,10] [(3,[123],0)]:=Co bl (Co As0 nl (fun _ _=>trivial)) (fun _ _=>trivial)
   have b1:=Co (Co open1 ha (fun _ _=>trivial)) (Aij d) (fun _ _=>trivial)
   have mid:Seg (fun _=>True) (if b.flat=[] then [] else([125,32,101,108,115,101,32,123,10]++Od b (d+1))++A23 d) (if b.flat=[] then [] else(3,[125],0) :: (1,A3o,0) :: (3,[123],0) :: Jy b):=by
    by_cases c:b.flat=[]
    ·rw[if_pos c,if_pos c];exact A5q
    ·rw[if_neg c,if_neg c]
     have e1:Seg A6s A3o [(1,A3o,0)]:=Afr ⟨_,_,rfl,by decide,by decide,by decide⟩
     have e2:=Co Aiy (Co bl (Co e1 open1 (fun r _=>.inr ⟨32,_,rfl,by decide⟩)) (fun _ _=>trivial)) (fun _ _=>trivial)
     have:=Co (Co e2 hb (fun _ _=>trivial)) (Aij d) (fun _ _=>trivial)
     simpa [A3o] using this
   have b2:=Co b1 (Co mid Aiy (fun _ _=>trivial)) (fun _ _=>trivial)
   have:=Co hh (Co b2 hn (fun _ _=>trivial)) (fun r _=>.inr ⟨_,.inl rfl⟩)
   simpa using this
theorem Ayp {s:List UInt8} {ts:List Ck} (h:Seg (fun _=>True) s ts) (hl:s.length≤20000):Ge (Qx s) 0 ts∧(Qx s).length=ts.length:=by
 obtain⟨toks,h1,h2⟩:=h [] 0 [] trivial
 have:=h2 (s.length+1) 1 (by simp) (by simp)
 rw[List.append_nil] at this
 have e:Hr s=⟨toks,0,0⟩:=by rw[Hr,if_neg (by omega),this];simp[Ed,D7]
 have he:Qx s=toks.map tkS:=by rw[Qx,e]
 refine⟨?_,by rw[he,← h1];simp⟩
 unfold Ge;rw[List.drop_zero,he,B1g,h1]
theorem Aop:∀ {a b:List Nd},a.map Cy=b.map Cy→∀ s,Ff a s=Ff b s:=by
 intro a
 induction a with
 | nil=>intro b hb s;cases b with
   | nil=>rfl
   | cons y b=>simp at hb
 | cons y a ih =>
  intro b hb s
  cases b with
  | nil=>simp at hb
  | cons z b =>
   rw[List.map_cons,List.map_cons] at hb
   obtain⟨h1,h2⟩:=List.cons.inj hb
   have hk:Dl y.B3=Dl z.B3:=by
    have:=congrArg A2.B3 h1
    simp only[Cy] at this
    by_cases c1:y.B3=3<;>by_cases c2:z.B3=3
    ·rw[c1,c2]
    ·rw[if_pos c1,if_neg c2] at this;rw[c1,← this];decide
    ·rw[if_neg c1,if_pos c2] at this;rw[c2,this];decide
    ·rw[if_neg c1,if_neg c2] at this;rw[this]
   obtain⟨m,R⟩:=s
   simp only[Ff,hk]
   rw[ih h2,ih h2]
theorem B1s {T:Nat} {l:List Tk} (hk:Toks T l) {i tu:Nat} {x:List Nd} (hi:i≤l.length) (h:PE l (.fl 0) 0 i (.ok x tu)) (hd:(Ff x (0,[])).1≤30) (hl:x.length≤200) (hp:N9 x=true):exQ l i=.ok x tu:=by
 obtain⟨r,hr,e⟩:=Vp hk hi
 have hlen:=hk.len
 have h1:D8 (12*l.length+100) l (i:Int) ((0:Nat):Int) 0 0=some (x,(tu:Int),((0:Nat):Int),0,0):=Ail hlen h hi (by omega) (12*l.length+100) (by omega)
 rw[e]
 cases r with
 | bad e' a =>
  have hne:=H4 hr hi
  obtain⟨X,i',j,h2,_,_⟩:=Ail hlen hr hi (by omega) (12*l.length+100) (by omega)
  have h2:D8 (12*l.length+100) l (i:Int) ((0:Nat):Int) 0 0=_:=h2
  rw[h1] at h2
  have:=Option.some.inj h2
  simp only[Prod.mk.injEq] at this
  exact absurd this.2.2.2.1.symm hne
 | ok y tv =>
  have h2:D8 (12*l.length+100) l (i:Int) ((0:Nat):Int) 0 0=some (y,(tv:Int),((0:Nat):Int),0,0):=Ail hlen hr hi (by omega) (12*l.length+100) (by omega)
  rw[h1] at h2
  have:=Option.some.inj h2
  simp only[Prod.mk.injEq] at this
  obtain⟨rfl,h3,_⟩:=this
  obtain rfl:tu=tv:=by omega
  simp only[M2]
  rw[if_neg (by omega),if_neg (by omega),if_pos hp]
def SameX (x y:List Nd):Prop:=x.map Cy=y.map Cy∧(∀ z ∈ x,z.B3≠3)∧∀ z ∈ y,z.B3≠3
theorem Anf {x:List Nd} (h:N9 x=true):∀ z ∈ x,z.B3≠3∧z.B3≠4:=by
 intro z hz
 have hh:=List.all_eq_true.1 h z
 constructor<;>intro e
 ·have:=hh (List.mem_filter.2 ⟨hz,by simp[Gb,e]⟩);rw[e] at this;exact absurd this (by decide)
 ·have:=hh (List.mem_filter.2 ⟨hz,by simp[Gb,e]⟩);rw[e] at this;exact absurd this (by decide)
theorem Avs {x y:List Nd} (h:x.map Cy=y.map Cy) (hx:N9 x=true) (hy:∀ z ∈ y,z.B3≠3):N9 y=true:=by
 refine List.all_eq_true.2 fun z hz=>?_
 obtain⟨hz,hn⟩:=List.mem_filter.1 hz
 have hy3:=hy z hz
 have:Cy z ∈ x.map Cy:=by rw[h];exact List.mem_map_of_mem hz
 obtain⟨w,hw,e⟩:=List.mem_map.1 this
 obtain⟨w3,w4⟩:=Anf hx w hw
 have e1:=congrArg A2.B3 e
 simp only[Cy,if_neg w3,if_neg hy3] at e1
 simp only[Gb,Bool.or_eq_true,beq_iff_eq] at hn
 rw[beq_iff_eq];omega
theorem Ap0 {T:Nat} {l:List Tk} (hk:Toks T l) {i:Nat} {x:List Nd} {rest:List Ck} (hi:i≤l.length) (h:Ep x=true) (hp:N9 x=true) (hf:Ge l i (A8q x++rest)) (hs:Wv rest):∃ y,exQ l i=.ok y (i+(A8q x).length)∧SameX x y:=by
 obtain⟨h1,h2,h3,h4,h5,_⟩:=Abw h
 obtain⟨y,y1,y2⟩:=(Arp (trE x) h1 (by rw[h2];exact h5)).2 i 0 rest hf (by omega) hs
 rw[h2] at y2
 have hg:=Xn hk.ok y1
 dsimp only at hg
 have hy3:∀ z ∈ y,z.B3≠3:=fun z hz=>(hg.2 z hz).2
 have hd:(Ff x (0,[])).1≤30:=by
  simp only[Ep,Ah,C1] at h;exact h.2.2.2
 refine⟨y,B1s hk hi y1 (by rw[Aop y2];exact hd) (by have:y.length=x.length:=by simpa using congrArg List.length y2
                                                    omega) (Avs y2.symm hp hy3),y2.symm,fun z hz=>(Anf hp z hz).1,hy3⟩
theorem A8b {s:List UInt8} {v:Int} (h:s≠[46]) (h2:∀ op:Int,6≤op∧op≤14→s≠Ez op) (r:List Ck):Wv ((3,s,v) :: r):=by
 intro c r' e h3
 obtain⟨rfl,_⟩:=List.cons.inj e
 exact⟨h,h2⟩
theorem Aa2 {s:List UInt8} (h:∀ op ∈ [6,7,8,9,10,11,12,13,(14:Int)],s≠Ez op):∀ op:Int,6≤op∧op≤14→s≠Ez op:=by
 intro op ho
 have:op=6∨op=7∨op=8∨op=9∨op=10∨op=11∨op=12∨op=13∨op=14:=by omega
 exact h op (by simp;omega)
theorem Atv (v:Int) (r:List Ck):Wv ((3,[44],v) :: r):=A8b (by decide) (Aa2 (by decide)) r
theorem Alp (v:Int) (r:List Ck):Wv ((3,[59],v) :: r):=A8b (by decide) (Aa2 (by decide)) r
theorem Axy (v:Int) (r:List Ck):Wv ((3,[123],v) :: r):=A8b (by decide) (Aa2 (by decide)) r
theorem Ayj (v:Int) (r:List Ck):Wv ((3,[125],v) :: r):=A8b (by decide) (Aa2 (by decide)) r
theorem Aw6 (w:List UInt8) (v:Int) (r:List Ck):Wv ((1,w,v) :: r):=by
 intro c r' e h3
 obtain⟨rfl,_⟩:=List.cons.inj e
 exact absurd h3 (show ¬ ((1:Int)=3) by decide)
theorem Avv:Wv []:=fun c r e=>by cases e
def A5p:List UInt8→Bool
 | []=>true
 | [_]=>true
 | c :: d :: cs=>((c != 101&&c != 102) || (d==44 || d==59))&&A5p (d :: cs)
theorem Aeb (k:Int):A5p (C2 k)=true:=by
 unfold C2;repeat' split
 all_goals decide
structure Ask (x:St) (cs:List UInt8) (s s':Fs):Prop where
 r:s'.reg=if 114 ∈ cs then x.Bd else s.reg
 l:s'.loc=if 108 ∈ cs then x.Be else s.loc
 e:if 101 ∈ cs then SameX x.Bm s'.e else s'.e=s.e
 f:if 102 ∈ cs then SameX x.C6 s'.f else s'.f=s.f
 n:s'.ne=if 113 ∈ cs then x.Br else s.ne
theorem Vb {l:List Tk} {i:Nat} {a b:List Ck} (h:Ge l i (a++b)) (hi:i≤l.length):i+a.length≤l.length:=by
 have:=congrArg List.length h
 rw[List.length_drop,Au,List.length_append] at this
 omega
theorem Ag4 {l:List Tk} {i:Nat} {w:List UInt8} {v:Int} {cs:List Ck} (h:Ge l i ((1,w,v) :: cs)) (hw:Cp w=true):isN l i=true∧txt l i=w:=by
 obtain⟨t,h1,h2,_⟩:=J2 h
 injection h2 with e1 e2;injection e2 with e2 e3
 exact⟨by simp[isN,h1,e1,e2,hw],by simp[txt,h1,e2]⟩
theorem Alc {T:Nat} {l:List Tk} (hk:Toks T l) {x:St} (hp1:N9 x.Bm=true) (hp2:N9 x.C6=true):∀ (cs:List UInt8) (i:Nat) (s:Fs) (rest:List Ck),A5p cs=true→(∀ c ∈ cs,c ∈ Vf)→Agb x cs→i≤l.length→Ge l i (cs.flatMap (Yy x)++rest)→Wv rest →
 ∃ s',Gp l (exQ l) cs i s=.ok s' (i+(cs.flatMap (Yy x)).length)∧Ask x cs s s':=by
 intro cs
 induction cs with
 | nil =>
  intro i s rest _ _ _ _ _ _
  exact⟨s,rfl,by simp,by simp,by simp,by simp,by simp⟩
 | cons c cs ih =>
  intro i s rest hch hc hp hi hf hst
  have hch2:A5p cs=true:=by
   cases cs with
   | nil=>rfl
   | cons d ds=>rw[A5p,Ah] at hch;exact hch.2
  have hcc:=hc c (List.mem_cons_self ..)
  have hpp:Agb x cs:=⟨fun h=>hp.r (List.mem_cons_of_mem _ h),fun h=>hp.l (List.mem_cons_of_mem _ h),fun h=>hp.e (List.mem_cons_of_mem _ h),fun h=>hp.f (List.mem_cons_of_mem _ h)⟩
  rw[List.flatMap_cons,List.append_assoc] at hf
  have hlen:=Vb hf hi
  have hf2:=Ip hf
  have hse:c=101∨c=102→Wv (cs.flatMap (Yy x)++rest):=by
   intro h13
   cases cs with
   | nil=>exact hst
   | cons d ds =>
    rw[A5p,Ah] at hch
    have h:=hch.1
    have hd:d=44∨d=59:=by rcases h13 with rfl | rfl<;>simpa using h
    rw[List.flatMap_cons,List.append_assoc]
    rcases hd with rfl | rfl
    ·exact Atv 0 _
    ·exact Alp 0 _
  have go:∀ s1:Fs,Hg l (exQ l) c i s=.ok s1 (i+(Yy x c).length)→∃ s',Gp l (exQ l) (c :: cs) i s=.ok s' (i+((c :: cs).flatMap (Yy x)).length)∧Ask x cs s1 s':=by
   intro s1 h1
   obtain⟨s',g1,g2⟩:=ih _ s1 rest hch2 (fun d hd=>hc d (List.mem_cons_of_mem _ hd)) hpp hlen hf2 hst
   refine⟨s',?_,g2⟩
   rw[Gp,h1]
   dsimp only
   rw[g1,List.flatMap_cons,List.length_append,Nat.add_assoc]
  simp only[Vf,List.mem_cons,List.not_mem_nil,or_false] at hcc
  rcases hcc with rfl | rfl | rfl | rfl | rfl | rfl | rfl | rfl
  ·have hf:Ge l i ((1,x.Bd,0) :: (cs.flatMap (Yy x)++rest)):=hf
   obtain⟨a1,a2⟩:=Ag4 hf (hp.r (List.mem_cons_self ..))
   obtain⟨s',g1,g2⟩:=go { s with reg:=txt l i } (by
    show(if isN l i=true then _ else _)=_
    rw[if_pos a1];rfl)
   refine⟨s',g1,?_,?_,?_,?_,?_⟩
   ·rw[g2.r];split<;>simp[a2]
   ·rw[g2.l];simp
   ·have:=g2.e;simpa using this
   ·have:=g2.f;simpa using this
   ·rw[g2.n];simp
  ·have hf:Ge l i ((1,x.Be,0) :: (cs.flatMap (Yy x)++rest)):=hf
   obtain⟨a1,a2⟩:=Ag4 hf (hp.l (List.mem_cons_self ..))
   obtain⟨s',g1,g2⟩:=go { s with loc:=txt l i } (by
    show(if isN l i=true then _ else _)=_
    rw[if_pos a1];rfl)
   refine⟨s',g1,?_,?_,?_,?_,?_⟩
   ·rw[g2.r];simp
   ·rw[g2.l];split<;>simp[a2]
   ·have:=g2.e;simpa using this
   ·have:=g2.f;simpa using this
   ·rw[g2.n];simp
  ·obtain⟨y,y1,y2⟩:=Ap0 hk hi (hp.e (List.mem_cons_self ..)) hp1 hf (hse (.inl rfl))
   obtain⟨s',g1,g2⟩:=go { s with e:=y } (by
    show(match exQ l i with | .ok x tu=>FR.ok { s with e:=x } tu | .bad e a=>.bad e a)=_
    rw[y1];rfl)
   refine⟨s',g1,?_,?_,?_,?_,?_⟩
   ·rw[g2.r];simp
   ·rw[g2.l];simp
   ·have:=g2.e
    split at this
    ·simp[this]
    ·simp[this,y2]
   ·have:=g2.f;simpa using this
   ·rw[g2.n];simp
  ·obtain⟨y,y1,y2⟩:=Ap0 hk hi (hp.f (List.mem_cons_self ..)) hp2 hf (hse (.inr rfl))
   obtain⟨s',g1,g2⟩:=go { s with f:=y } (by
    show(match exQ l i with | .ok x tu=>FR.ok { s with f:=x } tu | .bad e a=>.bad e a)=_
    rw[y1];rfl)
   refine⟨s',g1,?_,?_,?_,?_,?_⟩
   ·rw[g2.r];simp
   ·rw[g2.l];simp
   ·have:=g2.e;simpa using this
   ·have:=g2.f
    split at this
    ·simp[this]
    ·simp[this,y2]
   ·rw[g2.n];simp
  ·have hf:Ge l i ((3,if x.Br then [33,61] else [61,61],0) :: (cs.flatMap (Yy x)++rest)):=hf
   have a1:=Nj hf [33,61]
   have a2:=Nj hf [61,61]
   obtain⟨s',g1,g2⟩:=go { s with ne:=x.Br } (by
    show(if Bj l i [33,61]=true then FR.ok { s with ne:=true } (i+1) else if Bj l i [61,61]=true then .ok { s with ne:=false } (i+1) else .bad (Fj l i) (Bg l i))=_
    rw[a1,a2]
    cases x.Br<;>rfl)
   refine⟨s',g1,?_,?_,?_,?_,?_⟩
   ·rw[g2.r];simp
   ·rw[g2.l];simp
   ·have:=g2.e;simpa using this
   ·have:=g2.f;simpa using this
   ·rw[g2.n];split<;>simp
  all_goals
   have a1:=Nj hf
   obtain⟨s',g1,g2⟩:=go s (by
    first
    | (show(if Bj l i [61]=true then FR.ok s (i+1) else _)=_;rw[a1,if_pos (by decide)];rfl)
    | (show(if Bj l i [59]=true then FR.ok s (i+1) else _)=_;rw[a1,if_pos (by decide)];rfl)
    | (show(if Bj l i [44]=true then FR.ok s (i+1) else _)=_;rw[a1,if_pos (by decide)];rfl))
   refine⟨s',g1,?_,?_,?_,?_,?_⟩
   ·rw[g2.r];simp
   ·rw[g2.l];simp
   ·have:=g2.e;simpa using this
   ·have:=g2.f;simpa using this
   ·rw[g2.n];simp
structure SameS (x y:St):Prop where
 k:x.A7=y.A7
 r:x.Bd=y.Bd
 l:x.Be=y.Be
 n:x.Br=y.Br
 b:x.B5=y.B5
 c:x.Ch=y.Ch
 e:SameX x.Bm y.Bm
 f:SameX x.C6 y.C6
def All2:List St→List St→Prop
 | [],[]=>True
 | x :: l,y :: m=>SameS x y∧All2 l m
 | _,_=>False
theorem All2.len:∀ {l m:List St},All2 l m→l.length=m.length
 | [],[],_=>rfl
 | _ :: l,_ :: m,h=>by simp[All2.len h.2]
 | [],_ :: _,h=>h.elim
 | _ :: _,[],h=>h.elim
theorem All2.app:∀ {l m l' m':List St},All2 l m→All2 l' m'→All2 (l++l') (m++m')
 | [],[],_,_,_,h'=>h'
 | _ :: l,_ :: m,_,_,h,h'=>⟨h.1,All2.app h.2 h'⟩
 | [],_ :: _,_,_,h,_=>h.elim
 | _ :: _,[],_,_,h,_=>h.elim
theorem All2.get:∀ {l m:List St},All2 l m→∀ (i:Nat) x y,l[i]?=some x→m[i]?=some y→SameS x y
 | [],[],_,i,x,y,h,_=>by simp at h
 | a :: l,b :: m,h,0,x,y,h1,h2=>by
  simp only[List.getElem?_cons_zero,Option.some.injEq] at h1 h2
  subst h1;subst h2;exact h.1
 | a :: l,b :: m,h,i+1,x,y,h1,h2=>by
  simp only[List.getElem?_cons_succ] at h1 h2
  exact All2.get h.2 i x y h1 h2
 | [],_ :: _,h,_,_,_,_,_=>h.elim
 | _ :: _,[],h,_,_,_,_,_=>h.elim
theorem Se {f:List UInt8} {c:UInt8} (h:c ∉ f):Jb f (c.toNat:Int)=false:=by
 unfold Jb
 refine List.any_eq_false.2 fun b hb e=>h ?_
 rw[beq_iff_eq] at e
 have:b=c:=UInt8.toNat_inj.1 (by omega)
 rw[← this];exact hb
theorem Ayh {x:St} (h:Fo x=true):N9 x.Bm=true∧N9 x.C6=true:=by
 simp only[Fo,Ah] at h
 obtain⟨_,_,_,_,_,h3,h4,_⟩:=h
 have hL:∀ {c:Int} {l:List Nd},fL (C2 x.A7) c l=true→N9 l=true:=by
  intro c l hs
  unfold fL at hs
  split at hs
  ·rw[Ah] at hs;exact hs.1
  ·rw[beq_iff_eq] at hs
   obtain rfl:l=[]:=List.length_eq_zero_iff.1 (by omega)
   rfl
 exact⟨hL h3,hL h4⟩
theorem An0:SameX [] []:=⟨rfl,by simp,by simp⟩
theorem Afs {x:St} (h:Fo x=true) {s:Fs} (hr:Ask x (C2 x.A7) fs0 s) {b c:Nat} (hb:x.B5=(b:Int)) (hc:x.Ch=(c:Int)) (a:Int):SameS x (mkS x.A7 s b c a):=by
 simp only[Fo,Ah] at h
 obtain⟨_,_,h0,h1,h2,h3,h4,_⟩:=h
 refine⟨rfl,?_,?_,?_,hb,hc,?_,?_⟩
 ·show x.Bd=s.reg
  rw[hr.r]
  by_cases m:(114:UInt8) ∈ C2 x.A7
  ·rw[if_pos m]
  ·rw[if_neg m]
   have:Jb (C2 x.A7) 114=false:=Se m
   unfold fN at h1;rw[this] at h1;simpa [fs0] using h1
 ·show x.Be=s.loc
  rw[hr.l]
  by_cases m:(108:UInt8) ∈ C2 x.A7
  ·rw[if_pos m]
  ·rw[if_neg m]
   have:Jb (C2 x.A7) 108=false:=Se m
   unfold fN at h2;rw[this] at h2;simpa [fs0] using h2
 ·show x.Br=s.ne
  rw[hr.n]
  by_cases m:(113:UInt8) ∈ C2 x.A7
  ·rw[if_pos m]
  ·rw[if_neg m]
   have:Jb (C2 x.A7) 113=false:=Se m
   rw[this] at h0;simpa [fs0] using h0
 ·show SameX x.Bm s.e
  have he:=hr.e
  by_cases m:(101:UInt8) ∈ C2 x.A7
  ·rw[if_pos m] at he;exact he
  ·rw[if_neg m] at he
   have:Jb (C2 x.A7) 101=false:=Se m
   unfold fL at h3;rw[this,if_neg (by simp),beq_iff_eq] at h3
   have e1:x.Bm=[]:=List.length_eq_zero_iff.1 (by omega)
   rw[he,e1];exact An0
 ·show SameX x.C6 s.f
  have he:=hr.f
  by_cases m:(102:UInt8) ∈ C2 x.A7
  ·rw[if_pos m] at he;exact he
  ·rw[if_neg m] at he
   have:Jb (C2 x.A7) 102=false:=Se m
   unfold fL at h4;rw[this,if_neg (by simp),beq_iff_eq] at h4
   have e1:x.C6=[]:=List.length_eq_zero_iff.1 (by omega)
   rw[he,e1];exact An0
theorem Alm {k:Int} (h:1≤k∧k≤13):A3i (Vh k)=k∧Vh k≠A3o:=by
 have c:k=1∨k=2∨k=3∨k=4∨k=5∨k=6∨k=7∨k=8∨k=9∨k=10∨k=11∨k=12∨k=13:=by omega
 rcases c with rfl | rfl | rfl | rfl | rfl | rfl | rfl | rfl | rfl | rfl | rfl | rfl | rfl<;>exact⟨by decide,by decide⟩
theorem Awt {l:List Tk} {i:Nat} {k v:Int} {cs:List Ck} (h:Ge l i ((1,Vh k,v) :: cs)) (hk:1≤k∧k≤13):Av l i=k:=by
 obtain⟨t,h1,h2,_⟩:=J2 h
 injection h2 with e1 e2;injection e2 with e2 e3
 unfold Av
 rw[h1]
 dsimp only
 rw[if_pos e1,e2,(Alm hk).1]
def Auq (rest:List Ck):Prop:=rest=[]∨∃ v r,rest=(3,[125],v) :: r
theorem Ax8 {rest:List Ck} (h:Auq rest):Wv rest:=by
 rcases h with rfl | ⟨v,r,rfl⟩
 ·exact Avv
 ·exact Ayj v r
theorem Axr (F:SF) {rest:List Ck} (h:Auq rest):Wv (Jy F++rest):=by
 cases F with
 | nil=>exact Ax8 h
 | cons x a b r=>exact Aw6 _ _ _
theorem Avh {l:List Tk} {i:Nat} (F:SF) {rest:List Ck} (h:Auq rest) (hf:Ge l i (Jy F++rest)) (hx:∀ x ∈ F.flat,Fo x=true):Jz l i=false:=by
 unfold Jz
 cases F with
 | nil =>
  rcases h with rfl | ⟨v,r,rfl⟩
  ·have hf:Ge l i []:=hf
   rw[A6w hf]
  ·have hf:Ge l i ((3,[125],v) :: r):=hf
   obtain⟨t,h1,h2,_⟩:=J2 hf
   injection h2 with e1 e2
   rw[h1];dsimp only;rw[e1];simp
 | cons x a b r =>
  have hk:1≤x.A7∧x.A7≤13:=by
   have:=hx x (by simp[SF.flat])
   simp only[Fo,Ah,C1] at this;exact this.1
  have hf:Ge l i ((1,Vh x.A7,0) :: _):=hf
  obtain⟨t,h1,h2,_⟩:=J2 hf
  injection h2 with e1 e2;injection e2 with e2 e3
  rw[h1];dsimp only;rw[e2]
  have:=(Alm hk).2
  have e:(Vh x.A7==[101,108,115,101])=false:=by rw[beq_eq_false_iff_ne];exact this
  rw[e];simp
theorem Agc {x:St} (h:Fo x=true):(1≤x.A7∧x.A7≤13)∧(Db x.A7=false→x.B5=0∧x.Ch=0)∧(x.Ch≠0→x.A7=10):=by
 simp only[Fo,Ah,C1,Bool.or_eq_true,beq_iff_eq] at h
 obtain⟨h0,_,_,_,_,_,_,h1,h2⟩:=h
 refine⟨h0,fun hb=>?_,fun he=>by omega⟩
 rw[hb] at h1
 have:x.A7≠10:=fun e=>by rw[e] at hb;exact absurd hb (by decide)
 exact⟨by simpa using h1,by omega⟩
theorem A27 {T:Nat} {l:List Tk} (hk:Toks T l):∀ (F:SF) (i inn:Nat) (rest:List Ck),F.wf→(∀ x ∈ F.flat,Fo x=true)→i≤l.length→Ge l i (Jy F++rest)→inn+F.dep≤30→Auq rest→∃ y,SE l false inn i (.ok y (i+(Jy F).length))∧All2 F.flat y
 | .nil,i,inn,rest,_,_,hi,hf,_,he=>by
  refine⟨[],.stop ?_,trivial⟩
  rcases he with rfl | ⟨v,r,rfl⟩
  ·have hf:Ge l i []:=hf
   have:=A6w hf
   left;exact List.getElem?_eq_none_iff.1 this
  ·have hf:Ge l i ((3,[125],v) :: r):=hf
   right;rw[Nj hf];rfl
 | .cons x a b r,i,inn,rest,hw,hx,hi,hf,hd,he=>by
  obtain⟨w1,w2,wa,wb,wr⟩:=hw
  have hfx:=hx x (by simp[SF.flat])
  have hxa:∀ y ∈ a.flat,Fo y=true:=fun y hy=>hx y (by simp[SF.flat,hy])
  have hxb:∀ y ∈ b.flat,Fo y=true:=fun y hy=>hx y (by simp[SF.flat,hy])
  have hxr:∀ y ∈ r.flat,Fo y=true:=fun y hy=>hx y (by simp[SF.flat,hy])
  obtain⟨hkk,hb0,hb1⟩:=Agc hfx
  obtain⟨p1,p2⟩:=Ayh hfx
  rw[Jy] at hf ⊢
  rw[SF.dep] at hd
  have hlen0:=Vb hf hi
  have hdr:inn+r.dep≤30:=by omega
  rw[A3d,List.cons_append,List.cons_append,List.append_assoc,List.append_assoc] at hf
  have hkind:=Awt hf hkk
  obtain⟨t,_,_,hf1⟩:=J2 hf
  have hi1:i+1≤l.length:=by
   have:=Vb (a:=[(1,Vh x.A7,0)]) hf hi
   simpa using this
  have hk0:Av l i≠0:=by omega
  cases hbl:Db x.A7 with
  | false =>
   obtain⟨b1,b2⟩:=hb0 hbl
   have ea:a.flat=[]:=List.length_eq_zero_iff.1 (by omega)
   have eb:b.flat=[]:=List.length_eq_zero_iff.1 (by omega)
   rw[hbl] at hf1
   simp only[Bool.false_eq_true,if_false,List.nil_append] at hf1
   obtain⟨s,s1,s2⟩:=Alc hk p1 p2 (C2 x.A7) (i+1) fs0 _ (Aeb _) (Um _) (Ajr hfx) hi1 hf1 (Axr r he)
   have hf2:=Ip hf1
   have hi2:=Vb hf1 hi1
   generalize hj:i+1+((C2 x.A7).flatMap (Yy x)).length=j at s1 hf2 hi2
   obtain⟨y,y1,y2⟩:=A27 hk r _ inn rest wr hxr hi2 hf2 hdr he
   rw[← hkind] at s1
   have:=SE.simple hk0 (by rw[hkind];exact hbl) s1 y1
   refine⟨[mkS (Av l i) s 0 0 (Bg l i)]++y,?_,?_⟩
   ·have e:i+(A3d x++((if(false:Bool)=true then((3,[123],0) :: Jy a)++((if b.flat=[] then [] else(3,[125],0) :: (1,A3o,0) :: (3,[123],0) :: Jy b)++[(3,[125],0)]) else [])++Jy r)).length=j+(Jy r).length:=by
     rw[← hj];simp[A3d];omega
    rw[e];exact this
   ·rw[SF.flat,ea,eb]
    refine⟨?_,y2⟩
    rw[hkind]
    exact Afs hfx s2 (by rw[b1];rfl) (by rw[b2];rfl) _
  | true =>
   rw[hbl] at hf1 hd
   simp only[if_true,List.cons_append,List.append_assoc] at hf1 hd
   obtain⟨s,s1,s2⟩:=Alc hk p1 p2 (C2 x.A7) (i+1) fs0 _ (Aeb _) (Um _) (Ajr hfx) hi1 hf1 (Axy _ _)
   have hf2:=Ip hf1
   have hi2:=Vb hf1 hi1
   generalize hj:i+1+((C2 x.A7).flatMap (Yy x)).length=j at s1 hf2 hi2
   rw[← hkind] at s1
   have hopen:Bj l j [123]=true:=by rw[Nj hf2];rfl
   have hj1:=D0 hopen
   obtain⟨_,_,_,hf3⟩:=J2 hf2
   by_cases c:b.flat=[]
   ·rw[if_pos c,List.nil_append] at hf3
    have hf3:Ge l (j+1) (Jy a++((3,[125],0) :: (Jy r++rest))):=hf3
    obtain⟨ya,a1,a2⟩:=A27 hk a (j+1) (inn+1) _ wa hxa (by omega) hf3 (by omega) (.inr ⟨_,_,rfl⟩)
    have hf4:=Ip hf3
    have hcl:Bj l (j+1+(Jy a).length) [125]=true:=by rw[Nj hf4];rfl
    obtain⟨_,_,_,hf5⟩:=J2 hf4
    have hblk:=SE.close hopen (by omega) a1 hcl
    have hj2:=D0 hcl
    obtain⟨y,y1,y2⟩:=A27 hk r _ inn rest wr hxr (by omega) hf5 hdr he
    have:=SE.blk hk0 (by rw[hkind];exact hbl) s1 hblk (fun _=>Avh r he hf5 hxr) y1
    have la:=a2.len
    refine⟨(mkS (Av l i) s ya.length 0 (Bg l i) :: ya)++y,?_,?_⟩
    ·have e:i+(A3d x++((if(true:Bool)=true then((3,[123],0) :: Jy a)++((if b.flat=[] then [] else(3,[125],0) :: (1,A3o,0) :: (3,[123],0) :: Jy b)++[(3,[125],0)]) else [])++Jy r)).length=j+1+(Jy a).length+1+(Jy r).length:=by
      rw[if_pos rfl,if_pos c,← hj];simp[A3d];omega
     rw[e];exact this
    ·rw[SF.flat,c,List.nil_append]
     refine⟨?_,All2.app a2 y2⟩
     rw[hkind]
     exact Afs hfx s2 (by rw[w1,la]) (by rw[w2,c];rfl) _
   ·rw[if_neg c] at hf3
    have hk10:x.A7=10:=hb1 (by
     have:b.flat.length≠0:=fun e=>c (List.length_eq_zero_iff.1 e)
     rw[w2];omega)
    have hf3:Ge l (j+1) (Jy a++((3,[125],0) :: (1,A3o,0) :: (3,[123],0) :: (Jy b++((3,[125],0) :: (Jy r++rest))))):=by simpa using hf3
    obtain⟨ya,a1,a2⟩:=A27 hk a (j+1) (inn+1) _ wa hxa (by omega) hf3 (by omega) (.inr ⟨_,_,rfl⟩)
    have hf4:=Ip hf3
    have hcl:Bj l (j+1+(Jy a).length) [125]=true:=by rw[Nj hf4];rfl
    obtain⟨_,_,_,hf5⟩:=J2 hf4
    have hblk:=SE.close hopen (by omega) a1 hcl
    have hj2:=D0 hcl
    obtain⟨t2,t3,t4,hf6⟩:=J2 hf5
    have hel:Jz l (j+1+(Jy a).length+1)=true:=by
     unfold Jz;rw[t3]
     injection t4 with e1 e2;injection e2 with e2 e3
     dsimp only;rw[e1,e2];rfl
    have hopen2:Bj l (j+1+(Jy a).length+1+1) [123]=true:=by rw[Nj hf6];rfl
    obtain⟨_,_,_,hf7⟩:=J2 hf6
    have hj3:=D0 hopen2
    obtain⟨yb,b1,b2⟩:=A27 hk b _ (inn+1) _ wb hxb (by omega) hf7 (by omega) (.inr ⟨_,_,rfl⟩)
    have hf8:=Ip hf7
    have hcl2:Bj l (j+1+(Jy a).length+1+1+1+(Jy b).length) [125]=true:=by rw[Nj hf8];rfl
    obtain⟨_,_,_,hf9⟩:=J2 hf8
    have hblk2:=SE.close hopen2 (by omega) b1 hcl2
    have hj4:=D0 hcl2
    obtain⟨y,y1,y2⟩:=A27 hk r _ inn rest wr hxr (by omega) hf9 hdr he
    have:=SE.els (by rw[hkind];exact hk10) s1 hblk hel hblk2 y1
    have la:=a2.len;have lb:=b2.len
    refine⟨(mkS (Av l i) s ya.length yb.length (Bg l i) :: (ya++yb))++y,?_,?_⟩
    ·have e:i+(A3d x++((if(true:Bool)=true then((3,[123],0) :: Jy a)++((if b.flat=[] then [] else(3,[125],0) :: (1,A3o,0) :: (3,[123],0) :: Jy b)++[(3,[125],0)]) else [])++Jy r)).length=j+1+(Jy a).length+1+1+1+(Jy b).length+1+(Jy r).length:=by
      rw[if_pos rfl,if_neg c,← hj];simp[A3d];omega
     rw[e];exact this
    ·rw[SF.flat]
     refine⟨?_,by rw[← List.append_assoc];exact All2.app (All2.app a2 b2) y2⟩
     rw[hkind]
     exact Afs hfx s2 (by rw[w1,la]) (by rw[w2,lb]) _
theorem A8y {T:Nat} {l:List Tk} (hk:Toks T l) {n i:Nat} {r:SR} (hr:SE l false 0 i r) (hi:i≤l.length) (hn:12*l.length+T+900+6*l.length+60≤n):Ic n l (i:Int)=some (Sc l i r):=by
 have hl:=hk.len
 obtain⟨n,rfl⟩:∃ j,n=j+20:=⟨n - 20,by omega⟩
 have h:=Asu hk hr hi (by omega) (n+18) (n+18) [] (by omega) (by omega) (by simp)
 rw[Ic,Aq (by omega),Aq (by omega),show J9 (n+19)=some A3z from rfl,A1,Aj0 (n+19) (n+4),A1]
 dsimp only
 cases r with
 | bad e a =>
  have hne:e≠0:=Hy hk hr hi
  obtain⟨X,p,g1,g2⟩:=h
  have g3:C3 (n+19) 0 l (i:Int) 0 0 Bz=some (X,p,e,a):=by
   rw[C3]
   have g1:C5 (n+18) (Bw (n+18)) 0 l Bz (n+18) (i:Int) 0 0 []=_:=g1
   rw[g1];rfl
  rw[g3,A1]
  dsimp only
  rw[show(e != 0)=true by rw[bne_iff_ne];exact hne,Af];rfl
 | ok x tu =>
  have g3:C3 (n+19) 0 l (i:Int) 0 0 Bz=some (x,(tu:Int),0,0):=by
   rw[C3]
   have g1:C5 (n+18) (Bw (n+18)) 0 l Bz (n+18) (i:Int) 0 0 []=_:=h
   rw[g1];rfl
  rw[g3,A1]
  dsimp only
  rw[bne_self_eq_false,An]
  simp only[Sc]
  by_cases c:200 < x.length
  ·rw[if_pos c,A6 (by omega),Zb (n+18) l i _ _ _ Bz (by omega)];rfl
  ·rw[if_neg c,Aq (by omega)]
theorem SameX.symm {x y:List Nd} (h:SameX x y):SameX y x:=⟨h.1.symm,h.2.2,h.2.1⟩
theorem SameS.symm {x y:St} (h:SameS x y):SameS y x:=⟨h.k.symm,h.r.symm,h.l.symm,h.n.symm,h.b.symm,h.c.symm,h.e.symm,h.f.symm⟩
theorem All2.symm:∀ {l m:List St},All2 l m→All2 m l
 | [],[],_=>trivial
 | _ :: l,_ :: m,h=>⟨h.1.symm,All2.symm h.2⟩
 | [],_ :: _,h=>h.elim
 | _ :: _,[],h=>h.elim
theorem Awh {l:List St} (h:No l=true):l.length≤200∧Atq l:=by
 obtain⟨F,f1,f2,_,hl,hx⟩:=Z9 h
 refine⟨hl,fun x hx'=>?_⟩
 have h:=hx x hx'
 simp only[Fo,Ah] at h
 obtain⟨_,_,_,_,_,h3,h4,_⟩:=h
 have hL:∀ {c:Int} {l:List Nd},fL (C2 x.A7) c l=true→l.length≤250:=by
  intro c l hs
  unfold fL at hs
  split at hs
  ·rw[Ah] at hs
   obtain⟨t,_,_,t3,_⟩:=A3h hs.2
   omega
  ·rw[beq_iff_eq] at hs;omega
 exact⟨hL h3,hL h4⟩
theorem A7c {T:Nat} {l:List Tk} (hk:Toks T l) {i tu:Nat} {x:List Nd} (hi:i≤l.length) (h:exQ l i=.ok x tu):(N9 x&&Ep x)=true:=by
 obtain⟨r,hr,e⟩:=Vp hk hi
 rw[h] at e
 cases r with
 | bad e' a=>simp only[M2] at e;cases e
 | ok y tv =>
  simp only[M2] at e
  split at e
  ·cases e
  ·split at e
   ·cases e
   ·split at e
    ·rename_i c1 c2 c3
     cases e
     have hg:=Xn hk.ok hr
     dsimp only at hg
     obtain⟨t,_,_,_,_,h5⟩:=W6 hg (by omega) (by omega)
     rw[c3,h5];rfl
    ·cases e
theorem A98 {B T:Nat} {l:List Tk} (hk:Toks T l) (hB:B < 1000000) (h:∀ t ∈ l,Sb t∧t.Ab+t.Ac.length≤B) {i:Nat} {e a:Int} (hi:i≤l.length) (hx:exQ l i=.bad e a):0≤a∧a≤B:=by
 obtain⟨r,hr,e'⟩:=Vp hk hi
 rw[hx] at e'
 cases r with
 | bad e2 a2=>simp only[M2] at e';cases e';exact A41 hB h hr
 | ok y tv =>
  have hp:=Jj hB h i
  simp only[M2] at e'
  split at e'
  ·cases e';exact hp
  ·split at e'
   ·cases e';exact hp
   ·split at e'
    ·cases e'
    ·cases e';exact hp
structure Z1 (cs:List UInt8) (s s':Fs):Prop where
 r:if 114 ∈ cs then Cp s'.reg=true else s'.reg=s.reg
 l:if 108 ∈ cs then Cp s'.loc=true else s'.loc=s.loc
 e:if 101 ∈ cs then(N9 s'.e&&Ep s'.e)=true else s'.e=s.e
 f:if 102 ∈ cs then(N9 s'.f&&Ep s'.f)=true else s'.f=s.f
 n:113 ∉ cs→s'.ne=s.ne
theorem Td {l:List Tk} {i:Nat} (h:isN l i=true):Cp (txt l i)=true:=by
 unfold isN at h
 cases hg:l[i]? with
 | none=>rw[hg] at h;cases h
 | some t=>rw[hg] at h;simp only[Ah] at h;simp[txt,hg,h.2]
theorem Add {T:Nat} {l:List Tk} (hk:Toks T l):∀ (cs:List UInt8) (i j:Nat) (s s':Fs),i≤l.length→(∀ c ∈ cs,c ∈ Vf)→Gp l (exQ l) cs i s=.ok s' j→Z1 cs s s':=by
 intro cs
 induction cs with
 | nil =>
  intro i j s s' hi _ h
  rw[Gp] at h;cases h
  exact⟨by simp,by simp,by simp,by simp,by simp⟩
 | cons c cs ih =>
  intro i j s s' hi hc h
  have hok:=Wt hk (c:=c) (s:=s) hi
  have hcc:=hc c (List.mem_cons_self ..)
  rw[Gp] at h
  have go:∀ s1 j1,Hg l (exQ l) c i s=.ok s1 j1→Z1 cs s1 s':=by
   intro s1 j1 h1
   rw[h1] at h hok
   exact ih j1 j s1 s' hok.2 (fun d hd=>hc d (List.mem_cons_of_mem _ hd)) h
  have nb:∀ e a,Hg l (exQ l) c i s≠.bad e a:=by
   intro e a h1;rw[h1] at h;cases h
  simp only[Vf,List.mem_cons,List.not_mem_nil,or_false] at hcc
  rcases hcc with rfl | rfl | rfl | rfl | rfl | rfl | rfl | rfl
  ·have e:Hg l (exQ l) 114 i s=if isN l i=true then .ok { s with reg:=txt l i } (i+1) else .bad (Fj l i) (Bg l i):=rfl
   by_cases hn:isN l i=true
   ·rw[if_pos hn] at e
    have g:=go _ _ e
    refine⟨?_,?_,?_,?_,fun hm=>?_⟩
    ·have:=g.r;rw[if_pos (List.mem_cons_self ..)]
     split at this
     ·exact this
     ·rw[this];exact Td hn
    ·have:=g.l;simpa using this
    ·have:=g.e;simpa using this
    ·have:=g.f;simpa using this
    ·rw[g.n fun h=>hm (List.mem_cons_of_mem _ h)]
   ·rw[if_neg hn] at e;exact absurd e (nb _ _)
  ·have e:Hg l (exQ l) 108 i s=if isN l i=true then .ok { s with loc:=txt l i } (i+1) else .bad (Fj l i) (Bg l i):=rfl
   by_cases hn:isN l i=true
   ·rw[if_pos hn] at e
    have g:=go _ _ e
    refine⟨?_,?_,?_,?_,fun hm=>?_⟩
    ·have:=g.r;simpa using this
    ·have:=g.l;rw[if_pos (List.mem_cons_self ..)]
     split at this
     ·exact this
     ·rw[this];exact Td hn
    ·have:=g.e;simpa using this
    ·have:=g.f;simpa using this
    ·rw[g.n fun h=>hm (List.mem_cons_of_mem _ h)]
   ·rw[if_neg hn] at e;exact absurd e (nb _ _)
  ·have e:Hg l (exQ l) 101 i s=match exQ l i with | .ok x tu=>.ok { s with e:=x } tu | .bad e a=>.bad e a:=rfl
   cases hx:exQ l i with
   | bad e' a=>rw[hx] at e;exact absurd e (nb _ _)
   | ok x tu =>
    rw[hx] at e
    have g:=go _ _ e
    refine⟨?_,?_,?_,?_,fun hm=>?_⟩
    ·have:=g.r;simpa using this
    ·have:=g.l;simpa using this
    ·have:=g.e;rw[if_pos (List.mem_cons_self ..)]
     split at this
     ·exact this
     ·rw[this];exact A7c hk hi hx
    ·have:=g.f;simpa using this
    ·rw[g.n fun h=>hm (List.mem_cons_of_mem _ h)]
  ·have e:Hg l (exQ l) 102 i s=match exQ l i with | .ok x tu=>.ok { s with f:=x } tu | .bad e a=>.bad e a:=rfl
   cases hx:exQ l i with
   | bad e' a=>rw[hx] at e;exact absurd e (nb _ _)
   | ok x tu =>
    rw[hx] at e
    have g:=go _ _ e
    refine⟨?_,?_,?_,?_,fun hm=>?_⟩
    ·have:=g.r;simpa using this
    ·have:=g.l;simpa using this
    ·have:=g.e;simpa using this
    ·have:=g.f;rw[if_pos (List.mem_cons_self ..)]
     split at this
     ·exact this
     ·rw[this];exact A7c hk hi hx
    ·rw[g.n fun h=>hm (List.mem_cons_of_mem _ h)]
  ·have e:Hg l (exQ l) 113 i s=if Bj l i [33,61]=true then FR.ok { s with ne:=true } (i+1) else if Bj l i [61,61]=true then .ok { s with ne:=false } (i+1) else .bad (Fj l i) (Bg l i):=rfl
   have fin:∀ b:Bool,Z1 cs { s with ne:=b } s'→Z1 (113 :: cs) s s':=fun b g=>by
    refine⟨?_,?_,?_,?_,fun hm=>absurd (List.mem_cons_self ..) hm⟩
    ·have:=g.r;simpa using this
    ·have:=g.l;simpa using this
    ·have:=g.e;simpa using this
    ·have:=g.f;simpa using this
   by_cases h1:Bj l i [33,61]=true
   ·rw[if_pos h1] at e;exact fin true (go _ _ e)
   ·rw[if_neg h1] at e
    by_cases h2:Bj l i [61,61]=true
    ·rw[if_pos h2] at e;exact fin false (go _ _ e)
    ·rw[if_neg h2] at e;exact absurd e (nb _ _)
  all_goals
   have fin:∀ d:UInt8,d≠114→d≠108→d≠101→d≠102→d≠113→Z1 cs s s'→Z1 (d :: cs) s s':=fun d d1 d2 d3 d4 d5 g=>by
    refine⟨?_,?_,?_,?_,fun hm=>g.n fun h=>hm (List.mem_cons_of_mem _ h)⟩
    ·have:=g.r;simpa [d1.symm] using this
    ·have:=g.l;simpa [d2.symm] using this
    ·have:=g.e;simpa [d3.symm] using this
    ·have:=g.f;simpa [d4.symm] using this
  ·have e:Hg l (exQ l) 61 i s=if Bj l i [61]=true then .ok s (i+1) else .bad (Fj l i) (Bg l i):=rfl
   by_cases h1:Bj l i [61]=true
   ·rw[if_pos h1] at e;exact fin 61 (by decide) (by decide) (by decide) (by decide) (by decide) (go _ _ e)
   ·rw[if_neg h1] at e;exact absurd e (nb _ _)
  ·have e:Hg l (exQ l) 59 i s=if Bj l i [59]=true then .ok s (i+1) else .bad (Fj l i) (Bg l i):=rfl
   by_cases h1:Bj l i [59]=true
   ·rw[if_pos h1] at e;exact fin 59 (by decide) (by decide) (by decide) (by decide) (by decide) (go _ _ e)
   ·rw[if_neg h1] at e;exact absurd e (nb _ _)
  ·have e:Hg l (exQ l) 44 i s=if Bj l i [44]=true then .ok s (i+1) else .bad (Fj l i) (Bg l i):=rfl
   by_cases h1:Bj l i [44]=true
   ·rw[if_pos h1] at e;exact fin 44 (by decide) (by decide) (by decide) (by decide) (by decide) (go _ _ e)
   ·rw[if_neg h1] at e;exact absurd e (nb _ _)
theorem A2d {T:Nat} {l:List Tk} (hk:Toks T l) {i j:Nat} {s:Fs} (h0:Av l i≠0) (h:Gp l (exQ l) (C2 (Av l i)) (i+1) fs0=.ok s j) (b c:Nat) (hb:Db (Av l i)=false→b=0) (hc:Av l i≠10→c=0):Fo (mkS (Av l i) s b c (Bg l i))=true:=by
 have hlt:=C4 h0
 have g:=Add hk (C2 (Av l i)) (i+1) j fs0 s hlt (Um _) h
 have hin:=A3t l i
 have hat:0≤Bg l i:=by
  rw[hk.at' hlt];exact(hk.ok _ (List.getElem_mem hlt)).1
 unfold Fo
 simp only[Ah]
 refine⟨decide_eq_true (show 1≤Av l i∧Av l i≤13 by omega),?_,?_,?_,?_,?_,?_,?_,?_⟩
 ·show(!decide (Bg l i < 0))=true
  rw[decide_eq_false (by omega)];rfl
 ·show(!s.ne || Jb (C2 (Av l i)) 113)=true
  by_cases m:(113:UInt8) ∈ C2 (Av l i)
  ·have:Jb (C2 (Av l i)) 113=true:=Rs m
   rw[this];simp
  ·rw[g.n m];rfl
 ·show fN (C2 (Av l i)) 114 s.reg=true
  have:=g.r
  unfold fN
  by_cases m:(114:UInt8) ∈ C2 (Av l i)
  ·rw[if_pos m] at this;rw[if_pos (show Jb (C2 (Av l i)) 114=true from Rs m)];exact this
  ·rw[if_neg m] at this;rw[if_neg (by rw[show Jb (C2 (Av l i)) 114=false from Se m];simp),this];rfl
 ·show fN (C2 (Av l i)) 108 s.loc=true
  have:=g.l
  unfold fN
  by_cases m:(108:UInt8) ∈ C2 (Av l i)
  ·rw[if_pos m] at this;rw[if_pos (show Jb (C2 (Av l i)) 108=true from Rs m)];exact this
  ·rw[if_neg m] at this;rw[if_neg (by rw[show Jb (C2 (Av l i)) 108=false from Se m];simp),this];rfl
 ·show fL (C2 (Av l i)) 101 s.e=true
  have:=g.e
  unfold fL
  by_cases m:(101:UInt8) ∈ C2 (Av l i)
  ·rw[if_pos m] at this;rw[if_pos (show Jb (C2 (Av l i)) 101=true from Rs m)];exact this
  ·rw[if_neg m] at this;rw[if_neg (by rw[show Jb (C2 (Av l i)) 101=false from Se m];simp),this];rfl
 ·show fL (C2 (Av l i)) 102 s.f=true
  have:=g.f
  unfold fL
  by_cases m:(102:UInt8) ∈ C2 (Av l i)
  ·rw[if_pos m] at this;rw[if_pos (show Jb (C2 (Av l i)) 102=true from Rs m)];exact this
  ·rw[if_neg m] at this;rw[if_neg (by rw[show Jb (C2 (Av l i)) 102=false from Se m];simp),this];rfl
 ·show(Db (Av l i) || (b:Int)==0)=true
  cases hbl:Db (Av l i) with
  | true=>rfl
  | false=>rw[hb hbl];rfl
 ·show(Av l i==10 || (c:Int)==0)=true
  by_cases k10:Av l i=10
  ·rw[k10];rfl
  ·rw[hc k10];simp
def Ad2 (inn:Nat):SR→Prop
 | .ok x _=>∃ F:SF,F.wf∧F.flat=x∧F.dep+inn≤30∧∀ y ∈ x,Fo y=true
 | .bad _ _=>True
theorem Aio {T:Nat} {l:List Tk} (hk:Toks T l) {md:Bool} {inn i:Nat} {r:SR} (h:SE l md inn i r):i≤l.length→inn≤30→if md then(match r with | .ok x _=>inn < 30∧Ad2 (inn+1) r | _=>True) else Ad2 inn r:=by
 induction h with
 | stop h=>intro hi hn;exact⟨.nil,trivial,rfl,by simp[SF.dep];omega,by simp⟩
 | no h1 h2 h3=>intro hi hn;trivial
 | fbad h1 h2=>intro hi hn;trivial
 | @simple inn i j s r h1 h2 h3 h4 ih =>
  intro hi hn
  have h5:=F4 hk (C4 h1) h3
  have ih:=ih h5.2 hn
  simp only[Bool.false_eq_true,if_false] at ih ⊢
  cases r with
  | bad e a=>trivial
  | ok x tu =>
   obtain⟨F,f1,f2,f3,f4⟩:=ih
   refine⟨.cons (mkS (Av l i) s 0 0 (Bg l i)) .nil .nil F,⟨rfl,rfl,trivial,trivial,f1⟩,by simp[SF.flat,f2],?_,?_⟩
   ·simp only[SF.dep,mkS,h2];simp;omega
   ·intro y hy
    rcases List.mem_append.1 hy with hy | hy
    ·rw[List.mem_singleton] at hy;subst hy
     exact A2d hk h1 h3 0 0 (fun _=>rfl) (fun _=>rfl)
    ·exact f4 y hy
 | bbad h1 h2 h3 h4 ih=>intro hi hn;trivial
 | @blk inn i j j2 s b r h1 h2 h3 h4 h5 h6 ih1 ih2 =>
  intro hi hn
  have h7:=F4 hk (C4 h1) h3
  have h8:=Hy hk h4 h7.2
  simp only[Js,if_true] at h8
  have ih1:=ih1 h7.2 hn
  simp only[if_true] at ih1
  have ih2:=ih2 h8.2.1 hn
  simp only[Bool.false_eq_true,if_false] at ih2 ⊢
  cases r with
  | bad e a=>trivial
  | ok x tu =>
   obtain⟨i1,A,a1,a2,a3,a4⟩:=ih1
   obtain⟨F,f1,f2,f3,f4⟩:=ih2
   refine⟨.cons (mkS (Av l i) s b.length 0 (Bg l i)) A .nil F,⟨by rw[a2];rfl,rfl,a1,trivial,f1⟩,by simp[SF.flat,f2,a2],?_,?_⟩
   ·simp only[SF.dep,mkS,h2];simp;omega
   ·intro y hy
    rcases List.mem_append.1 hy with hy | hy
    ·rcases List.mem_cons.1 hy with rfl | hy
     ·exact A2d hk h1 h3 b.length 0 (fun e=>by rw[e] at h2;cases h2) (fun _=>rfl)
     ·exact a4 y hy
    ·exact f4 y hy
 | ebad h1 h3 h4 h5 h6 ih1 ih2=>intro hi hn;trivial
 | @els inn i j j2 j3 s b c r h1 h3 h4 h5 h6 h7 ih1 ih2 ih3 =>
  intro hi hn
  have h0:Av l i≠0:=by omega
  have h8:=F4 hk (C4 h0) h3
  have hj:=Jh h5
  have h11:=Hy hk h6 hj
  simp only[Js,if_true] at h11
  have ih1:=ih1 h8.2 hn
  simp only[if_true] at ih1
  have ih2:=ih2 hj hn
  simp only[if_true] at ih2
  have ih3:=ih3 h11.2.1 hn
  simp only[Bool.false_eq_true,if_false] at ih3 ⊢
  cases r with
  | bad e a=>trivial
  | ok x tu =>
   obtain⟨i1,A,a1,a2,a3,a4⟩:=ih1
   obtain⟨i2,B,b1,b2,b3,b4⟩:=ih2
   obtain⟨F,f1,f2,f3,f4⟩:=ih3
   refine⟨.cons (mkS (Av l i) s b.length c.length (Bg l i)) A B F,⟨by rw[a2];rfl,by rw[b2];rfl,a1,b1,f1⟩,by simp[SF.flat,f2,a2,b2],?_,?_⟩
   ·have hb:Db (Av l i)=true:=by rw[h1];rfl
    have e:(SF.cons (mkS (Av l i) s b.length c.length (Bg l i)) A B F).dep=max (max (1+A.dep) (1+B.dep)) F.dep:=by
     show max (if Db (Av l i)=true then _ else 0) _=_
     rw[if_pos hb]
    rw[e];omega
   ·intro y hy
    rcases List.mem_append.1 hy with hy | hy
    ·rcases List.mem_cons.1 hy with rfl | hy
     ·exact A2d hk h0 h3 b.length c.length (fun e=>by rw[h1] at e;exact absurd e (by decide)) (fun e=>absurd h1 e)
     ·rcases List.mem_append.1 hy with hy | hy
      ·exact a4 y hy
      ·exact b4 y hy
    ·exact f4 y hy
 | nob h=>intro hi hn;trivial
 | deep h1 h2=>intro hi hn;trivial
 | sbad h1 h2 h3 ih=>intro hi hn;trivial
 | close h1 h2 h3 h4 ih =>
  intro hi hn
  have:=ih (D0 h1) (by omega)
  simp only[Bool.false_eq_true,if_false] at this
  exact⟨h2,this⟩
 | opn h1 h2 h3 h4 ih=>intro hi hn;trivial
def Ts (B:Nat):FR→Prop
 | .bad _ a=>0≤a∧a≤B
 | .ok _ _=>True
theorem A6f {B T:Nat} {l:List Tk} (hk:Toks T l) (hB:B < 1000000) (h:∀ t ∈ l,Sb t∧t.Ab+t.Ac.length≤B) {e a:Int}:∀ (cs:List UInt8) (i:Nat) (s:Fs),i≤l.length→Gp l (exQ l) cs i s=.bad e a→0≤a∧a≤B
 | [],i,s,hi,hx=>by rw[Gp] at hx;cases hx
 | c :: cs,i,s,hi,hx=>by
  have hok:=Wt hk (c:=c) (s:=s) hi
  have hp:=Jj hB h i
  have hst:Ts B (Hg l (exQ l) c i s):=by
   unfold Hg
   refine Dz (Q:=Ts B) (fun _=>Dz (Q:=Ts B) (fun _=>trivial) fun _=>hp) fun _=>Dz (Q:=Ts B) (fun _=>Dz (Q:=Ts B) (fun _=>trivial) fun _=>hp) fun _=>Dz (Q:=Ts B) (fun _=>?_) fun _=>Dz (Q:=Ts B) (fun _=>?_) fun _=>Dz (Q:=Ts B) (fun _=>Dz (Q:=Ts B) (fun _=>trivial) fun _=>Dz (Q:=Ts B) (fun _=>trivial) fun _=>hp) fun _=>Dz (Q:=Ts B) (fun _=>trivial) fun _=>hp
   ·cases hx2:exQ l i with
    | ok x tu=>trivial
    | bad e a=>exact A98 hk hB h hi hx2
   ·cases hx2:exQ l i with
    | ok x tu=>trivial
    | bad e a=>exact A98 hk hB h hi hx2
  rw[Gp] at hx
  revert hx hok hst
  cases Hg l (exQ l) c i s with
  | bad e' a'=>intro hx _ hst;cases hx;exact hst
  | ok s2 j2=>intro hx hok _;exact A6f hk hB h cs j2 s2 hok.2 hx
theorem Aoe {B T:Nat} {l:List Tk} (hk:Toks T l) (hB:B < 1000000) (h:∀ t ∈ l,Sb t∧t.Ab+t.Ac.length≤B) {md:Bool} {inn i:Nat} {r:SR} (hs:SE l md inn i r):i≤l.length→match r with | .bad _ a=>0≤a∧a≤B | _=>True:=by
 induction hs with
 | stop _=>intro hi;trivial
 | no h1 h2 h3=>intro hi;exact Jj hB h _
 | fbad h1 h2=>intro hi;exact A6f hk hB h _ _ _ (C4 h1) h2
 | @simple inn i j s r h1 h2 h3 h4 ih =>
  intro hi
  have:=ih (F4 hk (C4 h1) h3).2
  cases r with
  | ok x tu=>trivial
  | bad e a=>exact this
 | bbad h1 h2 h3 h4 ih=>intro hi;exact ih (F4 hk (C4 h1) h3).2
 | @blk inn i j j2 s b r h1 h2 h3 h4 h5 h6 ih1 ih2 =>
  intro hi
  have h7:=F4 hk (C4 h1) h3
  have h8:=Hy hk h4 h7.2
  simp only[Js,if_true] at h8
  have:=ih2 h8.2.1
  cases r with
  | ok x tu=>trivial
  | bad e a=>exact this
 | ebad h1 h3 h4 h5 h6 ih1 ih2=>intro hi;exact ih2 (Jh h5)
 | @els inn i j j2 j3 s b c r h1 h3 h4 h5 h6 h7 ih1 ih2 ih3 =>
  intro hi
  have h11:=Hy hk h6 (Jh h5)
  simp only[Js,if_true] at h11
  have:=ih3 h11.2.1
  cases r with
  | ok x tu=>trivial
  | bad e a=>exact this
 | nob _=>intro hi;exact Jj hB h _
 | deep h1 h2=>intro hi;exact Jj hB h _
 | sbad h1 h2 h3 ih=>intro hi;exact ih (D0 h1)
 | close h1 h2 h3 h4 ih=>intro hi;trivial
 | opn h1 h2 h3 h4 ih=>intro hi;exact Jj hB h _
def LightX (x:St):Prop:=x.Bd.length≤100∧x.Be.length≤100∧Hn x.Bm=true∧Hn x.C6=true
abbrev Pg:=Az
abbrev Th:=Ae
abbrev Cl:=Ag
abbrev Va:=Aw
structure Adc (t:Th):Prop where
 name:t.Ao.length≤100
 regs:t.Bh.length≤4000
 reg:∀ r ∈ t.Bh,r.length≤100
 body:t.B5.length≤250
 st:∀ x ∈ t.B5,LightX x
structure Ux (p:Pg):Prop where
 locs:p.B0.length≤4000
 threads:p.Ak.length≤4000
 claims:p.Ar.length≤4000
 loc:∀ v ∈ p.B0,v.Ao.length≤100
 thr:∀ t ∈ p.Ak,Adc t
 cl:∀ c ∈ p.Ar,Hn c.Bm=true
def A1p (n:Int):Bool:=decide (0≤n∧n≤9999)
def Pv (v:Va):Bool:=Cp v.Ao&&(A1p v.Bs&&decide (0≤v.Ab))
def Nf (t:Th):Bool:=Cp t.Ao&&(decide (0≤t.Ab)&&(No t.B5&&t.Bh.all Cp))
def clB (l:List Nd):Bool:=(l.filter Gb).all fun x=>!(x.B3==2)
def P6 (c:Cl):Bool:=clB c.Bm&&(decide (1≤c.A7∧c.A7≤3)&&(Ep c.Bm&&decide (0≤c.Ab)))
def Lh (p:Pg):Bool:=A1p p.Bo&&(p.B0.all Pv&&(p.Ak.all Nf&&p.Ar.all P6))
theorem B02 (n:Nat) (x:Int):Mn (n+1) x=some (A1p x):=by
 rw[Mn,A1p]
 by_cases h:0≤x
 ·rw[A6 h];by_cases h2:x≤9999<;>simp[h,h2]
 ·rw[Aq h];simp[h]
theorem Aph (n:Nat) (s:List UInt8):Dp (n+1) s=some (Cp s):=by simp only[Dp]
theorem Ahp {b:Bool}:((bif b then some (.out ()) else some (.ret false)):Option (LR Unit Bool)).bind (fun o=>match o with | .out _=>some true | .ret v=>some v)=some b:=by cases b<;>rfl
theorem B2i (n:Nat) (t:Th) (hr:t.Bh.length≤4000) (hn:4100 < n):Qt n ((t.Bh.length:Nat):Int) t.Ao t.Bh t.B5 t.Ab=some (t.Bh.all Cp):=by
 obtain⟨n,rfl⟩:∃ j,n=j+3:=⟨n - 3,by omega⟩
 have hL:Iq (n+2) ((t.Bh.length:Nat):Int) t.Ao t.Bh t.B5 t.Ab (n+2) 0=bif t.Bh.all Cp then some (.out ()) else some (.ret false):=by
  refine Nh t.Bh (fun q i=>Iq (n+2) ((t.Bh.length:Nat):Int) t.Ao t.Bh t.B5 t.Ab q (i:Int)) _ (fun q=>?_) (fun q i x hi hx=>?_) (by omega)
  ·rw[Iq,Aq (by omega)]
  ·rw[Iq,A6 (by omega),P7,Cn hx,A1,Aph,A1,A1,Ay i (by omega)]
 rw[Qt,hL];exact Ahp
theorem LightX.lens {l:List St} (h:∀ x ∈ l,LightX x):Atq l:=by
 intro x hx
 obtain⟨_,_,h3,h4⟩:=h x hx
 simp only[Hn,Ah,C1] at h3 h4
 exact⟨h3.1,h4.1⟩
theorem B2w (n:Nat) (t:Th) (h:Adc t) (hn:5100 < n):Q1 n t=some (Nf t):=by
 obtain⟨n,rfl⟩:∃ j,n=j+2:=⟨n - 2,by omega⟩
 rw[Q1,Aph,A1,Ans (n+1) t.B5 (by have:=h.body;omega) (LightX.lens h.st) (by omega),B2i (n+1) t h.regs (by omega)]
 unfold Nf
 by_cases c:0≤t.Ab
 ·rw[A6 c,decide_eq_true c]
  cases Cp t.Ao<;>cases No t.B5<;>rfl
 ·rw[Aq c,decide_eq_false c]
  cases Cp t.Ao<;>rfl
theorem B38 {F:Nat→Int→Option (LR Unit Bool)} (l:List Nd) (h0:∀ k,F (k+1) ((l.length:Nat):Int)=some (.out ())) (h1:∀ k i x,i < l.length→l[i]?=some x→F (k+1) (i:Int)=bif x.B3==2 then some (.ret false) else F k ((i+1:Nat):Int)) {k:Nat} (hk:l.length < k):F k 0=bif l.all (fun x=>!(x.B3==2)) then some (.out ()) else some (.ret false):=by
 refine Nh l (fun k i=>F k (i:Int)) _ (fun k=>h0 k) (fun k i x hi hx=>?_) hk
 rw[h1 k i x hi hx]
 cases x.B3==2<;>rfl
theorem B2o (n:Nat) (k:Int):∃ w,Km (n+1) k=some w∧(w==([]:List UInt8))=!decide (1≤k∧k≤3):=by
 by_cases h:1≤k∧k≤3
 ·have c:k=1∨k=2∨k=3:=by omega
  rcases c with rfl | rfl | rfl<;>exact⟨_,rfl,rfl⟩
 ·refine⟨[],?_,by rw[decide_eq_false h];rfl⟩
  rw[Km,Ca.2 (show k≠1 by omega),Ca.2 (show k≠2 by omega),Ca.2 (show k≠3 by omega)];rfl
theorem B3q (n:Nat) (c:Cl) (h:Hn c.Bm=true) (hn:600 < n):R8 n c=some (P6 c):=by
 have h0:c.Bm.length≤250:=by simp only[Hn,Ah,C1] at h;exact h.1
 have hf:(c.Bm.filter Gb).length≤c.Bm.length:=List.length_filter_le ..
 obtain⟨n,rfl⟩:∃ j,n=j+2:=⟨n - 2,by omega⟩
 have hL:=B38 (F:=fun k i=>Jn (n+1) (c.Bm.filter Gb) k i) (c.Bm.filter Gb) (fun k=>by rw[Jn,Aq (by omega)]) (fun k i y hi hy=>by rw[Jn,A6 (by omega),Cn hy,A1,Ay i (by omega)]) (k:=n+1) (by omega)
 obtain⟨w,w1,w2⟩:=B2o n c.A7
 rw[R8,A97 (n+1) c.Bm (by omega) (by omega),A1,hL,w1,Y6 (n+1) c.Bm (by omega) (by omega)]
 unfold P6 clB
 cases (c.Bm.filter Gb).all (fun x=>!(x.B3==2)) with
 | false=>rfl
 | true =>
  simp only[Af,A1,w2]
  cases decide (1≤c.A7∧c.A7≤3)<;>cases Ep c.Bm<;>rfl
theorem Arn (n:Nat) (p:Pg) (h:Ux p) (hn:6000 < n):Mo n p=some (Lh p):=by
 have hl:=h.locs
 have ht:=h.threads
 have hc:=h.claims
 obtain⟨n,rfl⟩:∃ j,n=j+4:=⟨n - 4,by omega⟩
 have h1:T5 (n+3) ((p.B0.length:Nat):Int) p.Bo p.B0 p.Ak p.Ar=some (p.B0.all Pv):=by
  have hL:Lb (n+2) ((p.B0.length:Nat):Int) p.Bo p.B0 p.Ak p.Ar (n+2) 0=bif p.B0.all Pv then some (.out ()) else some (.ret false):=by
   refine Nh p.B0 (fun q i=>Lb (n+2) ((p.B0.length:Nat):Int) p.Bo p.B0 p.Ak p.Ar q (i:Int)) _ (fun q=>?_) (fun q i x hi hx=>?_) (by omega)
   ·rw[Lb,Aq (by omega)]
   ·rw[Lb,A6 (by omega),Qh,Cn hx,A1,Aph,A1,B02,A1,Ay i (by omega)]
    unfold Pv
    cases Cp x.Ao<;>cases A1p x.Bs<;>rfl
  rw[T5,hL];exact Ahp
 have h2:Qu (n+3) ((p.Ak.length:Nat):Int) p.Bo p.B0 p.Ak p.Ar=some (p.Ak.all Nf):=by
  have hL:Iz (n+2) ((p.Ak.length:Nat):Int) p.Bo p.B0 p.Ak p.Ar (n+2) 0=bif p.Ak.all Nf then some (.out ()) else some (.ret false):=by
   refine Nh p.Ak (fun q i=>Iz (n+2) ((p.Ak.length:Nat):Int) p.Bo p.B0 p.Ak p.Ar q (i:Int)) _ (fun q=>?_) (fun q i x hi hx=>?_) (by omega)
   ·rw[Iz,Aq (by omega)]
   ·rw[Iz,A6 (by omega),Qa,Cn hx,A1,B2w _ x (h.thr x (List.mem_of_getElem? hx)) (by omega),A1,A1,Ay i (by omega)]
  rw[Qu,hL];exact Ahp
 have h3:R6 (n+3) ((p.Ar.length:Nat):Int) p.Bo p.B0 p.Ak p.Ar=some (p.Ar.all P6):=by
  have hL:Iu (n+2) ((p.Ar.length:Nat):Int) p.Bo p.B0 p.Ak p.Ar (n+2) 0=bif p.Ar.all P6 then some (.out ()) else some (.ret false):=by
   refine Nh p.Ar (fun q i=>Iu (n+2) ((p.Ar.length:Nat):Int) p.Bo p.B0 p.Ak p.Ar q (i:Int)) _ (fun q=>?_) (fun q i x hi hx=>?_) (by omega)
   ·rw[Iu,Aq (by omega)]
   ·rw[Iu,A6 (by omega),Qi,Cn hx,A1,B3q _ x (h.cl x (List.mem_of_getElem? hx)) (by omega),A1,A1,Ay i (by omega)]
  rw[R6,hL];exact Ahp
 rw[Mo,h1,B02,h2,h3]
 unfold Lh
 simp only[A1]
 cases A1p p.Bo<;>cases p.B0.all Pv<;>cases p.Ak.all Nf<;>rfl
abbrev Ps:=Nat×Int×Int
def wr (l:List Tk) (s:Ps):Ps:=bif s.2.1==0 then(s.1,Fj l s.1,Bg l s.1) else s
def Zj (l:List Tk) (i:Nat) (w:List UInt8):Bool:=match l[i]? with
 | some t=>t.A7==1&&t.Ac==w
 | none=>false
def C9 (w:List UInt8) (l:List Tk) (s:Ps):Bool:=s.2.1==0&&Zj l s.1 w
def sgF (w:List UInt8) (l:List Tk) (s:Ps):Ps:=bif s.2.1==0&&Bj l s.1 w then(s.1+1,s.2) else wr l s
def Wn (l:List Tk) (i:Nat):Int:=match l[i]? with | some t=>t.Bs | none=>0
def atA (l:List Tk) (i:Nat):Int:=match l[i]? with | some t=>t.Ab | none=>0
def nmF (l:List Tk) (s:Ps):List UInt8×Ps:=bif s.2.1==0&&isN l s.1 then(txt l s.1,(s.1+1,s.2)) else([],wr l s)
def nuF (l:List Tk) (s:Ps):Int×Ps:=bif s.2.1==0&&isK l s.1 then(Wn l s.1,(s.1+1,s.2)) else(0,wr l s)
def N8 (l:List Tk) (s:Ps):Va×Ps:=(⟨(nmF l (s.1+1,s.2)).1,(nuF l (sgF [61] l (nmF l (s.1+1,s.2)).2)).1,atA l s.1⟩,sgF [59] l (nuF l (sgF [61] l (nmF l (s.1+1,s.2)).2)).2)
def Fh (l:List Tk):Nat→Ps→List Va→List Va×Ps
 | 0,s,acc=>(acc,s)
 | k+1,s,acc=>bif C9 [108,111,99] l s then Fh l k (N8 l s).2 (acc++[(N8 l s).1]) else(acc,s)
def Dw (l:List Tk):Nat→Ps→List (List UInt8)→List (List UInt8)×Ps
 | 0,s,acc=>(acc,s)
 | k+1,s,acc=>bif s.2.1==0&&Bj l s.1 [44] then Dw l k (nmF l (s.1+1,s.2)).2 (acc++[(nmF l (s.1+1,s.2)).1]) else(acc,s)
open Classical in
noncomputable def seQ (l:List Tk) (i:Nat):A2s:=if h:∃ r,SE l false 0 i r then Sc l i h.choose else([],0,6,0)
open Classical in
noncomputable def peQ (l:List Tk) (i:Nat):List Nd×Int×Int×Int:=if h:∃ r,PE l (.fl 0) 0 i r then Ly l i h.choose else([],0,6,0)
def faF (s:Int×Int) (e a:Int):Int×Int:=bif s.1==0 then bif e != 0 then(e,a) else s else s
def G1 (l:List Tk) (s:Ps):List (List UInt8)×Ps:=bif C9 [114,101,103] l s then((Dw l (l.length+2) (nmF l (s.1+1,s.2)).2 [(nmF l (s.1+1,s.2)).1]).1,sgF [59] l (Dw l (l.length+2) (nmF l (s.1+1,s.2)).2 [(nmF l (s.1+1,s.2)).1]).2) else([],s)
noncomputable def Jl (l:List Tk) (s:Ps):List St×Ps:=bif s.2.1==0 then((seQ l s.1).1,sgF [125] l ((seQ l s.1).2.1.toNat,faF s.2 (seQ l s.1).2.2.1 (seQ l s.1).2.2.2)) else([],sgF [125] l s)
noncomputable def Jv (l:List Tk) (s:Ps):Th×Ps:=(⟨(nmF l (s.1+1,s.2)).1,(G1 l (sgF [123] l (nmF l (s.1+1,s.2)).2)).1,(Jl l (G1 l (sgF [123] l (nmF l (s.1+1,s.2)).2)).2).1,atA l s.1⟩,(Jl l (G1 l (sgF [123] l (nmF l (s.1+1,s.2)).2)).2).2)
noncomputable def Gs (l:List Tk):Nat→Ps→List Th→List Th×Ps
 | 0,s,acc=>(acc,s)
 | k+1,s,acc=>bif C9 [116,104,114,101,97,100] l s then Gs l k (Jv l s).2 (acc++[(Jv l s).1]) else(acc,s)
def cwS:List (List UInt8):=[[],[102,111,114,97,108,108],[101,120,105,115,116,115],[97,108,119,97,121,115]]
def Hb (l:List Tk) (s:Ps):Int:=bif C9 [102,111,114,97,108,108] l s then 1 else bif C9 [101,120,105,115,116,115] l s then 2 else bif C9 [97,108,119,97,121,115] l s then 3 else 0
def H5 (x:Nd):Nd:=if x.B3=2 then⟨3,x.Bs,x.Ao,x.Cq,x.Ab⟩ else x
noncomputable def clF (k:Int) (l:List Tk) (s:Ps):Cl×Ps:=(⟨k,(peQ l (s.1+1)).1.map H5,atA l s.1⟩,sgF [59] l (if(faF s.2 (peQ l (s.1+1)).2.2.1 (peQ l (s.1+1)).2.2.2).1=0 then(peQ l (s.1+1)).2.1.toNat else s.1+1,faF s.2 (peQ l (s.1+1)).2.2.1 (peQ l (s.1+1)).2.2.2))
noncomputable def Ia (l:List Tk):Nat→Ps→List Cl→List Cl×Ps
 | 0,s,acc=>(acc,s)
 | k+1,s,acc=>bif decide (0 < Hb l s) then Ia l k (clF (Hb l s) l s).2 (acc++[(clF (Hb l s) l s).1]) else(acc,s)
def noP:Pg:=⟨0,[],[],[]⟩
def Li (l:List Tk):Int×Ps:=(fun r:Int×Ps=>(r.1,sgF [59] l r.2)) (nuF l (bif C9 [109,111,100] l (0,0,0) then(1,0,0) else wr l (0,0,0)))
def Oh (l:List Tk) (s:Ps):Ps:=bif decide (s.1 < l.length) then wr l s else s
noncomputable def T4 (l:List Tk):Pg×Int×Int :=
 (fun r:Int×Ps=>(fun v:List Va×Ps=>(fun t:List Th×Ps=>(fun c:List Cl×Ps=>(fun s:Ps=>bif s.2.1 != 0 then(noP,s.2) else(⟨r.1,v.1,t.1,c.1⟩,0,0)) (Oh l c.2)) (Ia l (l.length+2) t.2 [])) (Gs l (l.length+2) v.2 [])) (Fh l (l.length+2) r.2 [])) (Li l)
noncomputable def Qb (s:List UInt8):Pg×Int×Int:=bif (Hr s).err != 0 then(noP,(Hr s).err,((Hr s).at':Int)) else T4 (Qx s)
def Cb (l:List Tk) (s:Ps):Prop:=s.1≤l.length
theorem U7 (l:List Tk) (s:Ps):(wr l s).1=s.1:=by unfold wr;cases s.2.1==0<;>rfl
theorem A74 (l:List Tk) (s:Ps):(wr l s).2.1≠0:=by
 unfold wr
 cases h:s.2.1==0 with
 | true=>exact Sv l s.1
 | false=>rw[beq_eq_false_iff_ne] at h;exact h
theorem A0q {l:List Tk} {i:Nat} {w:List UInt8} (h:Bj l i w=true):i < l.length:=by
 unfold Bj at h
 cases hx:l[i]? with
 | none=>rw[hx] at h;cases h
 | some t=>exact(List.getElem?_eq_some_iff.1 hx).1
theorem Aka {l:List Tk} {i:Nat} {w:List UInt8} (h:Zj l i w=true):i < l.length:=by
 unfold Zj at h
 cases hx:l[i]? with
 | none=>rw[hx] at h;cases h
 | some t=>exact(List.getElem?_eq_some_iff.1 hx).1
theorem Abv {l:List Tk} {i:Nat} (h:isK l i=true):i < l.length:=by
 unfold isK at h
 cases hx:l[i]? with
 | none=>rw[hx] at h;cases h
 | some t=>exact(List.getElem?_eq_some_iff.1 hx).1
theorem Ai9 {l:List Tk} {i:Nat} (h:i < l.length):txt l i=l[i].Ac:=by unfold txt;rw[Ax h]
theorem Agw {l:List Tk} {i:Nat} (h:i < l.length):Wn l i=l[i].Bs:=by unfold Wn;rw[Ax h]
theorem A3c {l:List Tk} {i:Nat} (h:i < l.length):atA l i=l[i].Ab:=by unfold atA;rw[Ax h]
theorem Kt {w:List UInt8} {l:List Tk} {s:Ps} (h:Cb l s):Cb l (sgF w l s):=by
 unfold sgF
 cases c:s.2.1==0&&Bj l s.1 w with
 | true=>rw[Ah] at c;have:=A0q c.2;exact this
 | false=>rw[An];unfold Cb;rw[U7];exact h
theorem Zq {w:List UInt8} {l:List Tk} {s:Ps}:((sgF w l s).1=s.1+1∧Bj l s.1 w=true∧s.2.1=0∧(sgF w l s).2=s.2)∨((sgF w l s).2.1≠0∧(sgF w l s).1=s.1):=by
 unfold sgF
 cases c:s.2.1==0&&Bj l s.1 w with
 | true=>rw[Ah,beq_iff_eq] at c;exact .inl ⟨rfl,c.2,c.1,rfl⟩
 | false=>exact .inr ⟨A74 l s,U7 l s⟩
theorem A75 {l:List Tk} {s:Ps}:((nmF l s).2.1=s.1+1∧isN l s.1=true∧s.2.1=0∧(nmF l s).1=txt l s.1∧(nmF l s).2.2=s.2)∨((nmF l s).2.2.1≠0∧(nmF l s).2.1=s.1∧(nmF l s).1=[]):=by
 unfold nmF
 cases c:s.2.1==0&&isN l s.1 with
 | true=>rw[Ah,beq_iff_eq] at c;exact .inl ⟨rfl,c.2,c.1,rfl,rfl⟩
 | false=>exact .inr ⟨A74 l s,U7 l s,rfl⟩
theorem A5z {l:List Tk} {s:Ps}:((nuF l s).2.1=s.1+1∧isK l s.1=true∧s.2.1=0∧(nuF l s).1=Wn l s.1∧(nuF l s).2.2=s.2)∨((nuF l s).2.2.1≠0∧(nuF l s).2.1=s.1):=by
 unfold nuF
 cases c:s.2.1==0&&isK l s.1 with
 | true=>rw[Ah,beq_iff_eq] at c;exact .inl ⟨rfl,c.2,c.1,rfl,rfl⟩
 | false=>exact .inr ⟨A74 l s,U7 l s⟩
theorem Ng {l:List Tk} {s:Ps} (h:Cb l s):Cb l (nmF l s).2:=by
 rcases A75 (l:=l) (s:=s) with ⟨h1,h2,_⟩ | ⟨_,h2,_⟩
 ·unfold Cb;rw[h1];have:=Ph h2;omega
 ·unfold Cb;rw[h2];exact h
theorem A1i {l:List Tk} {s:Ps} (h:Cb l s):Cb l (nuF l s).2:=by
 rcases A5z (l:=l) (s:=s) with ⟨h1,h2,_⟩ | ⟨_,h2⟩
 ·unfold Cb;rw[h1];have:=Abv h2;omega
 ·unfold Cb;rw[h2];exact h
theorem Je {l:List Tk} {w:List UInt8} {s:Ps} (h:C9 w l s=true):s.1 < l.length∧s.2.1=0:=by
 rw[C9,Ah,beq_iff_eq] at h;exact⟨Aka h.2,h.1⟩
def Ew (l:List Tk) (s:Ps):Nat:=bif s.2.1==0 then l.length - s.1+1 else 0
theorem Rq {l:List Tk} {s t:Ps} (h0:s.2.1=0) (hs:Cb l s) (h:t.2.1≠0∨s.1 < t.1) (ht:Cb l t):Ew l t < Ew l s:=by
 unfold Ew Cb at *
 rw[h0]
 cases hc:t.2.1==0 with
 | true =>
  rw[beq_iff_eq] at hc
  rcases h with h | h
  ·exact absurd hc h
  ·show l.length - t.1+1 < l.length - s.1+1;omega
 | false=>show 0 < l.length - s.1+1;omega
theorem Og {l:List Tk} {s:Ps}:Ew l s≤l.length+1:=by unfold Ew;cases s.2.1==0<;>simp<;>omega
theorem Vd {w:List UInt8} {l:List Tk} {s:Ps}:s.1≤(sgF w l s).1:=by rcases Zq (w:=w) (l:=l) (s:=s) with ⟨h,_⟩ | ⟨_,h⟩<;>omega
theorem Ni {l:List Tk} {s:Ps}:s.1≤(nmF l s).2.1:=by rcases A75 (l:=l) (s:=s) with ⟨h,_⟩ | ⟨_,h,_⟩<;>omega
theorem Af6 {l:List Tk} {s:Ps}:s.1≤(nuF l s).2.1:=by rcases A5z (l:=l) (s:=s) with ⟨h,_⟩ | ⟨_,h⟩<;>omega
theorem A5u {l:List Tk} {s:Ps} (h:s.1 < l.length):Cb l (N8 l s).2∧s.1 < (N8 l s).2.1:=by
 have a1:Cb l (nmF l (s.1+1,s.2)).2:=Ng h
 have a2:=Kt (w:=[61]) a1
 have a3:=A1i a2
 have b1:=Ni (l:=l) (s:=(s.1+1,s.2))
 have b2:=Vd (w:=[61]) (l:=l) (s:=(nmF l (s.1+1,s.2)).2)
 have b3:=Af6 (l:=l) (s:=sgF [61] l (nmF l (s.1+1,s.2)).2)
 have b4:=Vd (w:=[59]) (l:=l) (s:=(nuF l (sgF [61] l (nmF l (s.1+1,s.2)).2)).2)
 refine⟨Kt a3,?_⟩
 unfold N8
 dsimp only at b1 ⊢
 omega
theorem A5v {l:List Tk}:∀ (K:Nat) (s:Ps) (acc:List Va),Cb l s→acc.length≤s.1→Cb l (Fh l K s acc).2∧(Fh l K s acc).1.length≤(Fh l K s acc).2.1
 | 0,s,acc,hs,ha=>⟨hs,ha⟩
 | K+1,s,acc,hs,ha=>by
  rw[Fh]
  cases hc:C9 [108,111,99] l s with
  | false=>exact⟨hs,ha⟩
  | true =>
   obtain⟨v1,v2⟩:=A5u (s:=s) (Je hc).1
   exact A5v K _ _ v1 (by simp;omega)
theorem A2v {l:List Tk}:∀ (K:Nat) (s:Ps) (acc:List (List UInt8)),Cb l s→Cb l (Dw l K s acc).2∧s.1≤(Dw l K s acc).2.1
 | 0,s,acc,hs=>⟨hs,Nat.le_refl _⟩
 | K+1,s,acc,hs=>by
  rw[Dw]
  cases hc:s.2.1==0&&Bj l s.1 [44] with
  | false=>exact⟨hs,Nat.le_refl _⟩
  | true =>
   rw[Ah] at hc
   have b1:=Ni (l:=l) (s:=(s.1+1,s.2))
   have:=A2v K (nmF l (s.1+1,s.2)).2 (acc++[(nmF l (s.1+1,s.2)).1]) (Ng (A0q hc.2))
   dsimp only at b1
   exact⟨this.1,Nat.le_trans (by omega) this.2⟩
structure TokB (B T:Nat) (l:List Tk):Prop where
 toks:Toks T l
 small:B < 1000000
 at':∀ t ∈ l,Sb t∧t.Ab+t.Ac.length≤B
def Ox (B:Nat) (x:Nd):Prop:=0≤x.Ab∧x.Ab≤B
def A66 (B:Nat) (x:St):Prop:=(0≤x.Ab∧x.Ab≤B)∧(∀ y ∈ x.Bm,Ox B y)∧∀ y ∈ x.C6,Ox B y
theorem TokB.tk {B T:Nat} {l:List Tk} (h:TokB B T l) {i:Nat} {t:Tk} (e:l[i]?=some t):0≤t.Ab∧t.Ab≤B:=by
 have:=h.at' t (List.mem_of_getElem? e);have:=this.1.1;omega
theorem Ai2 {B T:Nat} {l:List Tk} (hl:TokB B T l) {md:Md} {inn i:Nat} {r:PR} (h:PE l md inn i r):match md,r with
 | .fl _,.ok x _=>∀ y ∈ x,Ox B y
 | .lp _ x0,.ok x _=>(∀ y ∈ x0,Ox B y)→∀ y ∈ x,Ox B y
 | _,_=>True:=by
 have bin:∀ {op:Int} {t:Tk} {i:Nat} {x y:List Nd},l[i]?=some t→(∀ z ∈ x,Ox B z)→(∀ z ∈ y,Ox B z)→∀ z ∈ (⟨op,0,[],[],t.Ab⟩:Nd) :: (x++y),Ox B z:=by
  intro op t i x y ht hx hy z hz
  rcases List.mem_cons.1 hz with rfl | hz
  ·exact hl.tk ht
  ·rcases List.mem_append.1 hz with hz | hz
   ·exact hx z hz
   ·exact hy z hz
 induction h with
 | deep h1 h2 h3=>trivial
 | @not_ok inn i tu t x h1 h2 h3 h4 ih =>
  intro z hz
  rcases List.mem_cons.1 hz with rfl | hz
  ·exact hl.tk h3
  ·exact ih z hz
 | not_bad h1 h2 h4 ih=>trivial
 | par_ok h1 h2 h3 h4 ih=>exact ih
 | par_bad h1 h2 h4 ih=>trivial
 | par_open h1 h2 h3 h4 ih=>trivial
 | @num inn i t h1 h2=>intro z hz;rw[List.mem_singleton.1 hz];exact hl.tk h2
 | @reg inn i t h1 h2 h3=>intro z hz;rw[List.mem_singleton.1 hz];exact hl.tk h3
 | @of inn i t u h1 h2 h3 h4 h5=>intro z hz;rw[List.mem_singleton.1 hz];exact hl.tk h4
 | of_bad h1 h2 h3=>trivial
 | no h1 h2 h3 h4=>trivial
 | fl_bad h1 h2 ih=>trivial
 | @fl_ok f inn i tu x r h1 h2 h3 ih1 ih2 =>
  cases r with
  | ok y to2=>exact ih2 ih1
  | bad e a=>trivial
 | lp_stop h1=>exact id
 | lp_bad h1 h2 h3 ih=>trivial
 | lp_once h1 h2 h3 ih=>exact fun hx=>bin h2 hx ih
 | @lp_go f inn i tu x y t r h1 h2 h3 h4 h5 h6 ih1 ih2 =>
  cases r with
  | ok y to2=>exact fun hx=>ih2 (bin h4 hx ih1)
  | bad e a=>trivial
theorem An2 {B T:Nat} {l:List Tk} (hl:TokB B T l) {i tu:Nat} {x:List Nd} (hi:i≤l.length) (h:exQ l i=.ok x tu):∀ y ∈ x,Ox B y:=by
 obtain⟨r,hr,e⟩:=Vp hl.toks hi
 rw[h] at e
 cases r with
 | bad e' a=>simp only[M2] at e;cases e
 | ok y tv =>
  simp only[M2] at e
  split at e
  ·cases e
  ·split at e
   ·cases e
   ·split at e
    ·cases e;exact Ai2 hl hr
    ·cases e
def A71 (B:Nat) (s:Fs):Prop:=(∀ y ∈ s.e,Ox B y)∧∀ y ∈ s.f,Ox B y
def Tx (B:Nat):FR→Prop
 | .ok s _=>A71 B s
 | .bad _ _=>True
theorem Za {B T:Nat} {l:List Tk} (hl:TokB B T l):∀ (cs:List UInt8) (i:Nat) (s s':Fs) (j:Nat),i≤l.length→A71 B s→Gp l (exQ l) cs i s=.ok s' j→A71 B s'
 | [],i,s,s',j,hi,hs,h=>by rw[Gp] at h;cases h;exact hs
 | c :: cs,i,s,s',j,hi,hs,h=>by
  have h1:=Wt hl.toks (c:=c) (s:=s) hi
  have hex:match exQ l i with | .ok x _=>∀ y ∈ x,Ox B y | .bad _ _=>True:=by
   cases hx:exQ l i with
   | ok x tu=>exact An2 hl hi hx
   | bad e a=>trivial
  have hst0:Tx B (Hg l (exQ l) c i s):=by
   unfold Hg
   refine Dz (Q:=Tx B) (fun _=>Dz (Q:=Tx B) (fun _=>hs) fun _=>trivial) fun _=>Dz (Q:=Tx B) (fun _=>Dz (Q:=Tx B) (fun _=>hs) fun _=>trivial) fun _=>Dz (Q:=Tx B) (fun _=>?_) fun _=>Dz (Q:=Tx B) (fun _=>?_) fun _=>Dz (Q:=Tx B) (fun _=>Dz (Q:=Tx B) (fun _=>hs) fun _=>Dz (Q:=Tx B) (fun _=>hs) fun _=>trivial) fun _=>Dz (Q:=Tx B) (fun _=>hs) fun _=>trivial
   ·revert hex;cases exQ l i with
    | ok x tu=>intro h;exact⟨h,hs.2⟩
    | bad e a=>intro h;trivial
   ·revert hex;cases exQ l i with
    | ok x tu=>intro h;exact⟨hs.1,h⟩
    | bad e a=>intro h;trivial
  have hst:∀ s2 j2,Hg l (exQ l) c i s=.ok s2 j2→A71 B s2:=fun s2 j2 h=>by rw[h] at hst0;exact hst0
  rw[Gp] at h
  clear hst0
  revert h h1 hst
  cases Hg l (exQ l) c i s with
  | bad e a=>intro h _ _;cases h
  | ok s2 j2=>intro h h1 hst;exact Za hl cs j2 s2 s' j h1.2 (hst s2 j2 rfl) h
def Afq (B:Nat):SR→Prop
 | .ok x _=>∀ y ∈ x,A66 B y
 | .bad _ _=>True
theorem A2t {B:Nat} {x:List St} {r:SR} (h:∀ y ∈ x,A66 B y) (hr:Afq B r):Afq B (Qw x r):=by
 cases r with
 | ok z tu=>intro y hy;rcases List.mem_append.1 hy with hy | hy;exact h y hy;exact hr y hy
 | bad e a=>trivial
theorem Ase {B T:Nat} {l:List Tk} (hl:TokB B T l) {md:Bool} {inn i:Nat} {r:SR} (h:SE l md inn i r):i≤l.length→Afq B r:=by
 have hk:=hl.toks
 have pl:=fun i=>Jj hl.small hl.at' i
 have s0:A71 B fs0:=⟨fun y hy=>(by cases hy),fun y hy=>(by cases hy)⟩
 induction h with
 | stop h=>intro hi y hy;cases hy
 | no h1 h2 h3=>intro hi;trivial
 | fbad h1 h2=>intro hi;trivial
 | @simple inn i j s r h1 h2 h3 h4 ih =>
  intro hi
  have h5:=F4 hk (C4 h1) h3
  have h6:=Za hl _ _ _ _ _ (C4 h1) s0 h3
  exact A2t (fun y hy=>by rw[List.mem_singleton] at hy;subst hy;exact⟨pl i,h6.1,h6.2⟩) (ih h5.2)
 | bbad h1 h2 h3 h4 ih=>intro hi;trivial
 | @blk inn i j j2 s b r h1 h2 h3 h4 h5 h6 ih1 ih2 =>
  intro hi
  have h7:=F4 hk (C4 h1) h3
  have h9:=Za hl _ _ _ _ _ (C4 h1) s0 h3
  have h8:=Hy hk h4 h7.2
  simp only[Js,if_true] at h8
  exact A2t (fun y hy=>by
   rcases List.mem_cons.1 hy with rfl | hy
   ·exact⟨pl i,h9.1,h9.2⟩
   ·exact ih1 h7.2 y hy) (ih2 h8.2.1)
 | ebad h1 h3 h4 h5 h6 ih1 ih2=>intro hi;trivial
 | @els inn i j j2 j3 s b c r h1 h3 h4 h5 h6 h7 ih1 ih2 ih3 =>
  intro hi
  have h0:Av l i≠0:=by omega
  have h8:=F4 hk (C4 h0) h3
  have h9:=Za hl _ _ _ _ _ (C4 h0) s0 h3
  have hj:=Jh h5
  have h11:=Hy hk h6 hj
  simp only[Js,if_true] at h11
  exact A2t (fun y hy=>by
   rcases List.mem_cons.1 hy with rfl | hy
   ·exact⟨pl i,h9.1,h9.2⟩
   ·rcases List.mem_append.1 hy with hy | hy
    ·exact ih1 h8.2 y hy
    ·exact ih2 hj y hy) (ih3 h11.2.1)
 | nob h=>intro hi;trivial
 | deep h1 h2=>intro hi;trivial
 | sbad h1 h2 h3 ih=>intro hi;trivial
 | close h1 h2 h3 h4 ih=>intro hi;exact ih (D0 h1)
 | opn h1 h2 h3 h4 ih=>intro hi;trivial
theorem A15 {T:Nat} {l:List Tk} (hk:Toks T l) {i:Nat} (hi:i≤l.length):∃ r,SE l false 0 i r∧seQ l i=Sc l i r:=by
 have h:∃ r,SE l false 0 i r:=Afk hk l.length i 0 false (by omega) hi (by omega)
 exact⟨h.choose,h.choose_spec,by unfold seQ;rw[dif_pos h]⟩
theorem A25 {T:Nat} {l:List Tk} (hk:Toks T l) {i:Nat} (hi:i≤l.length):∃ r,PE l (.fl 0) 0 i r∧peQ l i=Ly l i r:=by
 have h:∃ r,PE l (.fl 0) 0 i r:=A76 l.length i 0 0 (by omega) hi (by omega) (by omega)
 exact⟨h.choose,h.choose_spec,by unfold peQ;rw[dif_pos h]⟩
theorem A08 {T:Nat} {l:List Tk} (hk:Toks T l) {i:Nat} (hi:i≤l.length):((seQ l i).2.2.1≠0∧(seQ l i).1=[]∧(seQ l i).2.1=0)∨(∃ tu:Nat,(seQ l i).2=((tu:Int),0,0)∧i≤tu∧tu≤l.length∧No (seQ l i).1=true∧(seQ l i).1.length≤200):=by
 obtain⟨r,hr,e⟩:=A15 hk hi
 rw[e]
 have hok:=Hy hk hr hi
 have htr:=Aio hk hr hi (by omega)
 cases r with
 | bad e a=>exact .inl ⟨hok,rfl,rfl⟩
 | ok x tu =>
  simp only[Sc]
  by_cases c:200 < x.length
  ·rw[if_pos c];exact .inl ⟨(by decide:(2:Int)≠0),rfl,rfl⟩
  ·rw[if_neg c]
   simp only[Js,Bool.false_eq_true,if_false] at hok
   refine .inr ⟨tu,rfl,by omega,hok.2.1,?_,(show x.length≤200 by omega)⟩
   simp only[Bool.false_eq_true,if_false] at htr
   obtain⟨F,f1,f2,f3,f4⟩:=htr
   subst f2
   exact Aad f1 (by omega) (by omega) f4
theorem Aob {B T:Nat} {l:List Tk} (hl:TokB B T l) {i:Nat} (hi:i≤l.length):(∀ x ∈ (seQ l i).1,A66 B x)∧0≤(seQ l i).2.2.2∧(seQ l i).2.2.2≤B:=by
 obtain⟨r,hr,e⟩:=A15 hl.toks hi
 rw[e]
 have h1:=Ase hl hr hi
 have h2:=Aoe hl.toks hl.small hl.at' hr hi
 have pl:=Jj hl.small hl.at' i
 cases r with
 | bad e a=>exact⟨fun x hx=>(by cases hx),h2.1,h2.2⟩
 | ok x tu =>
  simp only[Sc]
  by_cases c:200 < x.length
  ·rw[if_pos c];exact⟨fun x hx=>(by cases hx),pl.1,pl.2⟩
  ·rw[if_neg c];exact⟨h1,(by decide:(0:Int)≤0),by dsimp only;omega⟩
theorem V8 {T:Nat} {l:List Tk} (hk:Toks T l) {i:Nat} (hi:i≤l.length):((peQ l i).2.2.1≠0∧(peQ l i).1=[]∧(peQ l i).2.1=0)∨(∃ tu:Nat,(peQ l i).2=((tu:Int),0,0)∧i < tu∧tu≤l.length∧Or (peQ l i).1∧Ep (peQ l i).1=true):=by
 obtain⟨r,hr,e⟩:=A25 hk hi
 rw[e]
 rcases A4a hr hi with ⟨e',a,h1,h2,_⟩ | ⟨x,tu,h1,h2,h3,h4⟩
 ·rw[h1];exact .inl ⟨h2,rfl,rfl⟩
 ·subst h1
  have hok:=H4 hr hi
  have hg:=Xn hk.ok hr
  dsimp only at hok hg
  obtain⟨_,_,_,_,_,h5⟩:=W6 hg h3 h4
  rw[h2];exact .inr ⟨tu,rfl,hok.1,hok.2.1,hg,h5⟩
theorem An9 {B T:Nat} {l:List Tk} (hl:TokB B T l) {i:Nat} (hi:i≤l.length):(∀ x ∈ (peQ l i).1,Ox B x)∧0≤(peQ l i).2.2.2∧(peQ l i).2.2.2≤B:=by
 obtain⟨r,hr,e⟩:=A25 hl.toks hi
 rw[e]
 have pl:=Jj hl.small hl.at' i
 rcases A4a hr hi with ⟨e',a,h1,h2,h3⟩ | ⟨x,tu,h1,h2,h3,h4⟩
 ·rw[h1]
  refine⟨fun x hx=>(by cases hx),?_⟩
  rcases h3 with h3 | h3
  ·rw[h3] at hr;exact A41 hl.small hl.at' hr
  ·rw[h3];exact pl
 ·subst h1
  rw[h2];exact⟨Ai2 hl hr,(by decide:(0:Int)≤0),by dsimp only;omega⟩
theorem A0v {T:Nat} {l:List Tk} (hk:Toks T l) {s:Ps} (hs:Cb l s):Cb l (G1 l s).2∧s.1≤(G1 l s).2.1:=by
 unfold G1
 cases hc:C9 [114,101,103] l s with
 | false=>exact⟨hs,Nat.le_refl _⟩
 | true =>
  obtain⟨h1,h2⟩:=Je hc
  have a1:Cb l (nmF l (s.1+1,s.2)).2:=Ng h1
  have b1:=Ni (l:=l) (s:=(s.1+1,s.2))
  obtain⟨r2,r3⟩:=A2v (l.length+2) (nmF l (s.1+1,s.2)).2 [(nmF l (s.1+1,s.2)).1] a1
  have b2:=Vd (w:=[59]) (l:=l) (s:=(Dw l (l.length+2) (nmF l (s.1+1,s.2)).2 [(nmF l (s.1+1,s.2)).1]).2)
  dsimp only at b1
  refine⟨Kt r2,?_⟩
  show s.1≤(sgF [59] l (Dw l (l.length+2) (nmF l (s.1+1,s.2)).2 [(nmF l (s.1+1,s.2)).1]).2).1
  omega
theorem A4c {T:Nat} {l:List Tk} (hk:Toks T l) {i:Nat} (hi:i≤l.length):((seQ l i).2.1.toNat:Int)=(seQ l i).2.1∧(seQ l i).2.1.toNat≤l.length∧((seQ l i).2.2.1=0→i≤(seQ l i).2.1.toNat):=by
 rcases A08 hk hi with ⟨h0,_,h⟩ | ⟨tu,h,h2,h3,_⟩
 ·rw[h];exact⟨rfl,by simp,fun e=>absurd e h0⟩
 ·rw[h];exact⟨by simp,by simp;omega,fun _=>by simp;omega⟩
theorem A9l {T:Nat} {l:List Tk} (hk:Toks T l) {i:Nat} (hi:i≤l.length):((peQ l i).2.1.toNat:Int)=(peQ l i).2.1∧(peQ l i).2.1.toNat≤l.length∧((peQ l i).2.2.1=0→i < (peQ l i).2.1.toNat):=by
 rcases V8 hk hi with ⟨h0,_,h⟩ | ⟨tu,h,h2,h3,_⟩
 ·rw[h];exact⟨rfl,by simp,fun e=>absurd e h0⟩
 ·rw[h];exact⟨by simp,by simp;omega,fun _=>by simp;omega⟩
theorem Zo {w:List UInt8} {l:List Tk} {s:Ps} (h:s.2.1≠0):(sgF w l s).2.1≠0:=by
 rcases Zq (w:=w) (l:=l) (s:=s) with ⟨_,_,h0,_⟩ | ⟨h1,_⟩
 ·exact absurd h0 h
 ·exact h1
theorem Xf {s:Int×Int} {e a:Int} (h:e≠0):(faF s e a).1≠0:=by
 unfold faF
 cases hc:s.1==0 with
 | true=>rw[Af,bne_iff_ne.2 h];exact h
 | false=>rw[An];rw[beq_eq_false_iff_ne] at hc;exact hc
theorem Adt {T:Nat} {l:List Tk} (hk:Toks T l) {s:Ps} (hs:Cb l s):Cb l (Jl l s).2∧((Jl l s).2.2.1≠0∨s.1 < (Jl l s).2.1):=by
 unfold Jl
 cases hc:s.2.1==0 with
 | true =>
  rw[Af]
  obtain⟨h1,h2,h3⟩:=A4c hk hs
  refine⟨Kt h2,?_⟩
  by_cases e:(seQ l s.1).2.2.1=0
  ·have:=h3 e
   rcases Zq (w:=[125]) (l:=l) (s:=((seQ l s.1).2.1.toNat,faF s.2 (seQ l s.1).2.2.1 (seQ l s.1).2.2.2)) with ⟨g1,_⟩ | ⟨g1,_⟩
   ·right;dsimp only at g1 ⊢;omega
   ·exact .inl g1
  ·exact .inl (Zo (Xf e))
 | false =>
  rw[beq_eq_false_iff_ne] at hc
  exact⟨Kt hs,.inl (Zo hc)⟩
theorem Adu {T:Nat} {l:List Tk} (hk:Toks T l) {s:Ps} (h1:s.1 < l.length):Cb l (Jv l s).2∧((Jv l s).2.2.1≠0∨s.1 < (Jv l s).2.1):=by
 have a1:Cb l (nmF l (s.1+1,s.2)).2:=Ng h1
 have b1:=Ni (l:=l) (s:=(s.1+1,s.2))
 have a2:=Kt (w:=[123]) a1
 have b2:=Vd (w:=[123]) (l:=l) (s:=(nmF l (s.1+1,s.2)).2)
 obtain⟨a3,b3⟩:=A0v hk a2
 obtain⟨a4,b4⟩:=Adt hk a3
 dsimp only at b1
 exact⟨a4,b4.imp id (fun h=>by unfold Jv;dsimp only;omega)⟩
theorem Ahd {T:Nat} {l:List Tk} (hk:Toks T l) (k:Int) {s:Ps} (h1:s.1 < l.length) (h0:s.2.1=0):Cb l (clF k l s).2∧((clF k l s).2.2.1≠0∨s.1 < (clF k l s).2.1):=by
 obtain⟨g1,g2,g3⟩:=A9l hk (show s.1+1≤l.length from h1)
 have hP:Cb l (if(faF s.2 (peQ l (s.1+1)).2.2.1 (peQ l (s.1+1)).2.2.2).1=0 then(peQ l (s.1+1)).2.1.toNat else s.1+1,faF s.2 (peQ l (s.1+1)).2.2.1 (peQ l (s.1+1)).2.2.2):=by
  unfold Cb;dsimp only;split
  ·exact g2
  ·exact h1
 refine⟨Kt hP,?_⟩
 by_cases e:(peQ l (s.1+1)).2.2.1=0
 ·have:=g3 e
  have f0:(faF s.2 (peQ l (s.1+1)).2.2.1 (peQ l (s.1+1)).2.2.2).1=0:=by unfold faF;rw[h0,e];simp[h0]
  unfold clF
  dsimp only
  rw[if_pos f0]
  rcases Zq (w:=[59]) (l:=l) (s:=((peQ l (s.1+1)).2.1.toNat,faF s.2 (peQ l (s.1+1)).2.2.1 (peQ l (s.1+1)).2.2.2)) with ⟨q1,_⟩ | ⟨q1,_⟩
  ·right;dsimp only at q1;omega
  ·exact .inl q1
 ·exact .inl (Zo (Xf e))
theorem A0o {l:List Tk} {s:Ps} (h:0 < Hb l s):s.1 < l.length∧s.2.1=0∧Hb l s≤3:=by
 unfold Hb at h ⊢
 cases h1:C9 [102,111,114,97,108,108] l s with
 | true=>obtain⟨a,b⟩:=Je h1;exact⟨a,b,(show(1:Int)≤3 by decide)⟩
 | false =>
  rw[h1] at h
  cases h2:C9 [101,120,105,115,116,115] l s with
  | true=>obtain⟨a,b⟩:=Je h2;exact⟨a,b,(show(2:Int)≤3 by decide)⟩
  | false =>
   rw[h2] at h
   cases h3:C9 [97,108,119,97,121,115] l s with
   | true=>obtain⟨a,b⟩:=Je h3;exact⟨a,b,(show(3:Int)≤3 by decide)⟩
   | false=>rw[h3] at h;exact absurd h (by decide)
def Aoi:Tk:=⟨0,[],0,0⟩
def isT (kd:Int) (w:List UInt8) (l:List Tk) (i:Nat):Bool:=match l[i]? with
 | some t=>t.A7==kd&&t.Ac==w
 | none=>false
def N0 (l:List Tk) (i:Nat):Tk:=match l[i]? with
 | some t=>t
 | none=>Aoi
theorem Qo {l:List Tk} {i:Nat} (h:i < l.length):N0 l i=l[i]:=by unfold N0;rw[Ax h]
theorem Le {α:Type} (n:Nat) (f:Nat→Option α):Sg (n+1) f=f n:=rfl
theorem A2r (i:Nat) (h:i < 100000):IntKind.i64.wrap (IntKind.i64.wrap ((i:Int)+1) - 1)=(i:Int):=by
 rw[Cx (show -9223372036854775808≤(i:Int)+1∧_ by omega),Cx (by omega)];omega
def nxB (b:Bool) (l:List Tk) (s:Ps):Tk×Bool×Int:=bif b then(N0 l s.1,true,((s.1+1:Nat):Int)) else(Aoi,false,(s.1:Int))
theorem Oi (n:Nat) (kd:Int) (w:List UInt8) (l:List Tk) (s:Ps) (hl:l.length < 100000):D3 (n+2) l (s.1:Int) s.2.1 s.2.2 kd w=some (nxB (s.2.1==0&&isT kd w l s.1) l s):=by
 rw[D3,nxB,isT]
 cases h:s.2.1==0 with
 | false=>rw[show(s.2.1 != 0)=true by rw[bne,h];rfl];rfl
 | true =>
  rw[show(s.2.1 != 0)=false by rw[bne,h];rfl,An]
  by_cases hx:s.1 < l.length
  ·rw[Aq (by omega),C8 hx,Ax hx,Qo hx,A1,T6,A2r s.1 (by omega),C8 hx,Ay s.1 (by omega)]
   dsimp only
   cases l[s.1].A7==kd<;>cases l[s.1].Ac==w<;>rfl
  ·rw[A6 (by omega),List.getElem?_eq_none (by omega)];rfl
theorem Aot (n:Nat) (l:List Tk) (s:Ps) (hl:l.length < 100000):Hk (n+2) l (s.1:Int) s.2.1 s.2.2=some (nxB (s.2.1==0&&isK l s.1) l s):=by
 rw[Hk,nxB,isK]
 cases h:s.2.1==0 with
 | false=>rw[show(s.2.1 != 0)=true by rw[bne,h];rfl];rfl
 | true =>
  rw[show(s.2.1 != 0)=false by rw[bne,h];rfl,An]
  by_cases hx:s.1 < l.length
  ·rw[Aq (by omega),C8 hx,Ax hx,Qo hx,A1,Px,A2r s.1 (by omega),C8 hx,Ay s.1 (by omega)]
   dsimp only
   cases l[s.1].A7==2<;>rfl
  ·rw[A6 (by omega),List.getElem?_eq_none (by omega)];rfl
theorem Aq0 (n:Nat) (l:List Tk) (s:Ps) (hl:l.length < 100000):Hj (n+3) l (s.1:Int) s.2.1 s.2.2=some (nxB (s.2.1==0&&isN l s.1) l s):=by
 rw[Hj,nxB,isN]
 cases h:s.2.1==0 with
 | false=>rw[show(s.2.1 != 0)=true by rw[bne,h];rfl];rfl
 | true =>
  rw[show(s.2.1 != 0)=false by rw[bne,h];rfl,An]
  by_cases hx:s.1 < l.length
  ·rw[Aq (by omega),C8 hx,Ax hx,Qo hx,A1,Rw,A2r s.1 (by omega),C8 hx,Ay s.1 (by omega),Dp]
   dsimp only
   cases l[s.1].A7==1<;>cases Cp l[s.1].Ac<;>rfl
  ·rw[A6 (by omega),List.getElem?_eq_none (by omega)];rfl
theorem A7d (n:Nat) (l:List Tk) (s:Ps) (hl:l.length < 100000):Dk (n+2) l (s.1:Int) s.2.1 s.2.2=some ((wr l s).2.1,(wr l s).2.2):=by
 rw[Dk,wr,Fj,Bg]
 by_cases hx:s.1 < l.length
 ·rw[A6 (by omega),C8 hx,A1,Cf,if_pos hx,Ax hx]
  cases s.2.1==0<;>rfl
 ·rw[Aq (by omega),if_neg hx,List.getElem?_eq_none (by omega)]
  by_cases h0:0 < l.length
  ·have h1:l.length - 1 < l.length:=by omega
   rw[A6 (by omega),Cx (by omega),show((l.length:Nat):Int) - 1=((l.length - 1:Nat):Int) by omega,C8 h1,A1,A1,Cf,Ax h1]
   cases s.2.1==0<;>rfl
  ·rw[Aq (by omega),Cf,List.getElem?_eq_none (by omega)]
   cases s.2.1==0<;>rfl
def mtB (b:Bool) (l:List Tk) (s:Ps):Ps:=bif b then(s.1+1,s.2) else wr l s
theorem A05 (n:Nat) (b:Bool) (l:List Tk) (s:Ps) (hl:l.length < 100000):((some (nxB b l s)).bind fun y1=>(bif y1.2.1 then(some (y1.1,y1.2.2,s.2.1,s.2.2)) else((Dk (n+2) l y1.2.2 s.2.1 s.2.2).bind fun y4=>(some (y1.1,y1.2.2,y4.1,y4.2)))))=some ((nxB b l s).1,((mtB b l s).1:Int),(mtB b l s).2.1,(mtB b l s).2.2):=by
 cases b with
 | true=>rfl
 | false =>
  rw[A1,nxB,mtB]
  dsimp only [cond_false]
  rw[A7d n l s hl,A1,U7]
theorem A9o (n:Nat) (kd:Int) (w:List UInt8) (l:List Tk) (s:Ps) (hl:l.length < 100000):Gz (n+3) l (s.1:Int) s.2.1 s.2.2 kd w=some ((nxB (s.2.1==0&&isT kd w l s.1) l s).1,((mtB (s.2.1==0&&isT kd w l s.1) l s).1:Int),(mtB (s.2.1==0&&isT kd w l s.1) l s).2.1,(mtB (s.2.1==0&&isT kd w l s.1) l s).2.2):=by
 rw[Gz,Oi n kd w l s hl];exact A05 n _ l s hl
theorem Auf (w:List UInt8) (l:List Tk) (s:Ps):mtB (s.2.1==0&&isT 3 w l s.1) l s=sgF w l s:=rfl
theorem Qj (n:Nat) (w:List UInt8) (l:List Tk) (s:Ps) (hl:l.length < 100000):By (n+5) w l (s.1:Int) s.2.1 s.2.2=some (((sgF w l s).1:Int),(sgF w l s).2.1,(sgF w l s).2.2):=by
 rw[By,Le,A9o (n+1) 3 w l s hl,A1,Auf]
theorem Abp (n:Nat) (l:List Tk) (s:Ps) (hl:l.length < 100000):∃ t:Tk,G4 (n+3) l (s.1:Int) s.2.1 s.2.2=some (t,((nuF l s).2.1:Int),(nuF l s).2.2.1,(nuF l s).2.2.2)∧t.Bs=(nuF l s).1:=by
 rw[G4,Aot n l s hl]
 refine⟨(nxB (s.2.1==0&&isK l s.1) l s).1,(A05 n _ l s hl).trans ?_,?_⟩
 ·unfold mtB nuF;cases s.2.1==0&&isK l s.1<;>rfl
 ·unfold nxB nuF
  cases h:s.2.1==0&&isK l s.1 with
  | false=>rfl
  | true =>
   rw[Ah] at h
   have:=Abv h.2
   show(N0 l s.1).Bs=Wn l s.1
   rw[Qo this,Agw this]
theorem A1d (n:Nat) (l:List Tk) (s:Ps) (hl:l.length < 100000):∃ t:Tk,F2 (n+4) l (s.1:Int) s.2.1 s.2.2=some (t,((nmF l s).2.1:Int),(nmF l s).2.2.1,(nmF l s).2.2.2)∧t.Ac=(nmF l s).1:=by
 rw[F2,Aq0 n l s hl]
 refine⟨(nxB (s.2.1==0&&isN l s.1) l s).1,(A05 (n+1) _ l s hl).trans ?_,?_⟩
 ·unfold mtB nmF;cases s.2.1==0&&isN l s.1<;>rfl
 ·unfold nxB nmF
  cases h:s.2.1==0&&isN l s.1 with
  | false=>rfl
  | true =>
   rw[Ah] at h
   have:=Ph h.2
   show(N0 l s.1).Ac=txt l s.1
   rw[Qo this,Ai9 this]
def PsZ (s:Ps):Prop:=s.2.1=0→s.2.2=0
theorem Aa8 (l:List Tk) (s:Ps):PsZ (wr l s):=fun h=>absurd h (A74 l s)
theorem Uu {w:List UInt8} {l:List Tk} {s:Ps} (h:PsZ s):PsZ (sgF w l s):=by
 unfold sgF
 cases s.2.1==0&&Bj l s.1 w
 ·exact Aa8 l s
 ·exact h
theorem A5g {l:List Tk} {s:Ps} (h:PsZ s):PsZ (nmF l s).2:=by
 unfold nmF
 cases s.2.1==0&&isN l s.1
 ·exact Aa8 l s
 ·exact h
theorem Ahj {l:List Tk} {s:Ps} (h:PsZ s):PsZ (nuF l s).2:=by
 unfold nuF
 cases s.2.1==0&&isK l s.1
 ·exact Aa8 l s
 ·exact h
theorem Tb (w:List UInt8) (l:List Tk) (s:Ps):(s.2.1==0&&isT 1 w l s.1)=C9 w l s:=rfl
theorem Aq3 (n:Nat) (a:Int) (l:List Tk) (s:Ps) (hl:l.length < 100000):J8 (n+6) a l (s.1:Int) s.2.1 s.2.2 =
 some ((⟨(nmF l s).1,(nuF l (sgF [61] l (nmF l s).2)).1,a⟩:Va),((sgF [59] l (nuF l (sgF [61] l (nmF l s).2)).2).1:Int),(sgF [59] l (nuF l (sgF [61] l (nmF l s).2)).2).2.1,(sgF [59] l (nuF l (sgF [61] l (nmF l s).2)).2).2.2):=by
 obtain⟨t1,h1,h2⟩:=A1d (n+1) l s hl
 obtain⟨t2,h3,h4⟩:=Abp (n+2) l (sgF [61] l (nmF l s).2) hl
 rw[J8,h1,A1]
 dsimp only
 rw[Qj n [61] l _ hl,A1]
 dsimp only
 rw[h3,A1]
 dsimp only
 rw[Qj n [59] l _ hl,A1,h2,h4]
theorem Yu {w:List UInt8} {l:List Tk} {s:Ps} (h:Ew l s≤0):C9 w l s=false:=by
 unfold Ew at h
 cases hc:s.2.1==0 with
 | true=>rw[hc] at h;exact absurd h (by show ¬ l.length - s.1+1≤0;omega)
 | false=>unfold C9;rw[hc];rfl
theorem Ao8 {T:Nat} {l:List Tk} (hk:Toks T l) (n:Nat) (y:List Tk×Int×Int) (hy:y.1=l) (hn:20≤n):∀ (m k K:Nat) (s:Ps) (acc:List Va),Cb l s→Ew l s≤m→m < k→m < K→acc.length≤s.1 →
 Ix n y k (nxB (C9 [108,111,99] l s) l s).2.1 (nxB (C9 [108,111,99] l s) l s).2.2 s.2.1 s.2.2 (nxB (C9 [108,111,99] l s) l s).1.A7 (nxB (C9 [108,111,99] l s) l s).1.Ac (nxB (C9 [108,111,99] l s) l s).1.Bs (nxB (C9 [108,111,99] l s) l s).1.Ab acc
  =some (.out (((Fh l K s acc).2.1:Int),(Fh l K s acc).2.2.1,(Fh l K s acc).2.2.2,0,[],0,0,(Fh l K s acc).1))∧(PsZ s→PsZ (Fh l K s acc).2):=by
 subst hy
 have hl:=hk.len
 intro m
 induction m with
 | zero =>
  intro k K s acc hs hm hk' hK ha
  obtain⟨k,rfl⟩:∃ j,k=j+1:=⟨k - 1,by omega⟩
  obtain⟨K,rfl⟩:∃ j,K=j+1:=⟨K - 1,by omega⟩
  rw[Fh,Yu hm];exact⟨rfl,id⟩
 | succ m ih =>
  intro k K s acc hs hm hk' hK ha
  obtain⟨k,rfl⟩:∃ j,k=j+1:=⟨k - 1,by omega⟩
  obtain⟨K,rfl⟩:∃ j,K=j+1:=⟨K - 1,by omega⟩
  obtain⟨n,rfl⟩:∃ j,n=j+6:=⟨n - 6,by omega⟩
  rw[Fh]
  cases hc:C9 [108,111,99] y.1 s with
  | false=>exact⟨rfl,id⟩
  | true =>
   obtain⟨h1,h2⟩:=Je hc
   obtain⟨v1,v2⟩:=A5u (s:=s) h1
   have hp:=Aq3 n (N0 y.1 s.1).Ab y.1 (s.1+1,s.2) hl
   have hv:N8 y.1 s=(⟨(nmF y.1 (s.1+1,s.2)).1,(nuF y.1 (sgF [61] y.1 (nmF y.1 (s.1+1,s.2)).2)).1,(N0 y.1 s.1).Ab⟩,sgF [59] y.1 (nuF y.1 (sgF [61] y.1 (nmF y.1 (s.1+1,s.2)).2)).2):=by unfold N8;rw[A3c h1,Qo h1]
   have:=ih k K (N8 y.1 s).2 (acc++[(N8 y.1 s).1]) v1 (by have:=Rq (t:=(N8 y.1 s).2) h2 hs (.inr v2) v1;omega) (by omega) (by omega) (by simp;omega)
   rw[Af]
   refine⟨?_,fun hz=>this.2 (by rw[hv];exact Uu (Ahj (Uu (A5g hz))))⟩
   rw[Ix]
   dsimp only [nxB,cond_true] at hp ⊢
   rw[hp,A1,A6 (by unfold Cb at hs;omega),Le]
   dsimp only
   rw[hv] at this ⊢
   have hnx:=Oi (n+4) 1 [108,111,99] y.1 (sgF [59] y.1 (nuF y.1 (sgF [61] y.1 (nmF y.1 (s.1+1,s.2)).2)).2) hl
   rw[hnx,A1,Tb]
   exact this.1
theorem Ap6 {l:List Tk} (hl:l.length < 100000) (n:Nat) (hn:20≤n):∀ (m k K:Nat) (s:Ps) (acc:List (List UInt8)),Cb l s→Ew l s≤m→m < k→m < K→acc.length≤s.1+1 →
 Dj n l k (nxB (s.2.1==0&&isT 3 [44] l s.1) l s).2.1 (nxB (s.2.1==0&&isT 3 [44] l s.1) l s).2.2 s.2.1 s.2.2 acc=some (.out (((Dw l K s acc).2.1:Int),(Dw l K s acc).2.2.1,(Dw l K s acc).2.2.2,(Dw l K s acc).1))∧(PsZ s→PsZ (Dw l K s acc).2):=by
 intro m
 induction m with
 | zero =>
  intro k K s acc hs hm hk' hK ha
  obtain⟨k,rfl⟩:∃ j,k=j+1:=⟨k - 1,by omega⟩
  obtain⟨K,rfl⟩:∃ j,K=j+1:=⟨K - 1,by omega⟩
  have:(s.2.1==0)=false:=by
   unfold Ew at hm
   cases hc:s.2.1==0 with
   | true=>rw[hc] at hm;exact absurd hm (by show ¬ l.length - s.1+1≤0;omega)
   | false=>rfl
  rw[Dw,this];exact⟨rfl,id⟩
 | succ m ih =>
  intro k K s acc hs hm hk' hK ha
  obtain⟨k,rfl⟩:∃ j,k=j+1:=⟨k - 1,by omega⟩
  obtain⟨K,rfl⟩:∃ j,K=j+1:=⟨K - 1,by omega⟩
  obtain⟨n,rfl⟩:∃ j,n=j+6:=⟨n - 6,by omega⟩
  rw[Dw]
  cases hc:s.2.1==0 with
  | false=>exact⟨rfl,id⟩
  | true =>
   have hsg:isT 3 [44] l s.1=Bj l s.1 [44]:=rfl
   rw[hsg,Bool.true_and]
   cases hg:Bj l s.1 [44] with
   | false=>exact⟨rfl,id⟩
   | true =>
    rw[beq_iff_eq] at hc
    have h1:=A0q hg
    have a1:Cb l (nmF l (s.1+1,s.2)).2:=Ng h1
    have b1:=Ni (l:=l) (s:=(s.1+1,s.2))
    obtain⟨t,e1,e2⟩:=A1d (n+2) l (s.1+1,s.2) hl
    dsimp only at e1 b1
    have:=ih k K (nmF l (s.1+1,s.2)).2 (acc++[(nmF l (s.1+1,s.2)).1]) a1 (by have:=Rq (t:=(nmF l (s.1+1,s.2)).2) hc hs (.inr (by omega)) a1;omega) (by omega) (by omega) (by simp;omega)
    refine⟨?_,fun hz=>this.2 (A5g hz)⟩
    rw[Dj,Af]
    dsimp only [nxB,cond_true]
    rw[e1,A1,A6 (by unfold Cb at hs;omega),Le]
    dsimp only
    have hnx:=Oi (n+4) 3 [44] l (nmF l (s.1+1,s.2)).2 hl
    rw[hnx,A1,e2]
    exact this.1
theorem Aih {l:List Tk} (hl:l.length < 100000) (n:Nat) (hn:20≤n) (k:Nat) (s:Ps) (h1:s.1 < l.length) (hk:l.length+2 < k) :
 Dj n l k true ((s.1+1:Nat):Int) s.2.1 s.2.2 []=some (.out (((Dw l (l.length+2) (nmF l (s.1+1,s.2)).2 [(nmF l (s.1+1,s.2)).1]).2.1:Int),(Dw l (l.length+2) (nmF l (s.1+1,s.2)).2 [(nmF l (s.1+1,s.2)).1]).2.2.1,(Dw l (l.length+2) (nmF l (s.1+1,s.2)).2 [(nmF l (s.1+1,s.2)).1]).2.2.2,(Dw l (l.length+2) (nmF l (s.1+1,s.2)).2 [(nmF l (s.1+1,s.2)).1]).1))∧(PsZ s→PsZ (Dw l (l.length+2) (nmF l (s.1+1,s.2)).2 [(nmF l (s.1+1,s.2)).1]).2):=by
 obtain⟨k,rfl⟩:∃ j,k=j+1:=⟨k - 1,by omega⟩
 obtain⟨n,rfl⟩:∃ j,n=j+6:=⟨n - 6,by omega⟩
 have a1:Cb l (nmF l (s.1+1,s.2)).2:=Ng h1
 obtain⟨t,e1,e2⟩:=A1d (n+2) l (s.1+1,s.2) hl
 dsimp only at e1
 have:=Ap6 hl (n+6) (by omega) (l.length+1) k (l.length+2) (nmF l (s.1+1,s.2)).2 [(nmF l (s.1+1,s.2)).1] a1 Og (by omega) (by omega) (by simp)
 refine⟨?_,fun hz=>this.2 (A5g hz)⟩
 rw[Dj,Af,e1,A1,A6 (by simp),Le]
 dsimp only
 have hnx:=Oi (n+4) 3 [44] l (nmF l (s.1+1,s.2)).2 hl
 rw[hnx,A1,e2]
 exact this.1
theorem A73 (n:Nat) (e' a':Int) (l:List Tk) (i:Int) (s:Int×Int) (hz:s.1=0→s.2=0) (hz':e'=0→a'=0):Cf (n+1) e' a' l i s.1 s.2=some ((faF s e' a').1,(faF s e' a').2):=by
 rw[Cf,faF]
 cases h:s.1==0 with
 | false=>rfl
 | true =>
  cases h2:e' != 0 with
  | true=>rfl
  | false =>
   rw[beq_iff_eq] at h
   have h3:e'=0:=by cases hb:e'==0 with
    | true=>exact beq_iff_eq.1 hb
    | false=>rw[bne,hb] at h2;cases h2
   rw[Af,Af,An,h3,hz' h3,hz h,h]
noncomputable def L3 (l:List Tk) (s:Ps):List St×Ps:=bif s.2.1==0 then((seQ l s.1).1,sgF [125] l (if(faF s.2 (seQ l s.1).2.2.1 (seQ l s.1).2.2.2).1=0 then(seQ l s.1).2.1.toNat else s.1,faF s.2 (seQ l s.1).2.2.1 (seQ l s.1).2.2.2)) else([],s)
theorem Yx {w:List UInt8} {l:List Tk} {s:Ps} (h:s.2.1≠0):sgF w l s=s:=by
 unfold sgF wr
 rw[Ca.2 h];rfl
theorem Aje (l:List Tk) (s:Ps):(L3 l s).1=(Jl l s).1∧(L3 l s).2.2=(Jl l s).2.2∧((L3 l s).2.2.1=0→(L3 l s).2=(Jl l s).2):=by
 unfold L3 Jl
 cases hc:s.2.1==0 with
 | false =>
  rw[beq_eq_false_iff_ne] at hc
  rw[An,An]
  exact⟨rfl,by rw[Yx hc],fun _=>by rw[Yx hc]⟩
 | true =>
  rw[Af,Af]
  refine⟨rfl,?_⟩
  by_cases c:(faF s.2 (seQ l s.1).2.2.1 (seQ l s.1).2.2.2).1=0
  ·rw[if_pos c];exact⟨rfl,fun _=>rfl⟩
  ·rw[if_neg c,Yx (s:=(s.1,faF s.2 (seQ l s.1).2.2.1 (seQ l s.1).2.2.2)) c,Yx (s:=((seQ l s.1).2.1.toNat,faF s.2 (seQ l s.1).2.2.1 (seQ l s.1).2.2.2)) c]
   exact⟨rfl,fun h=>absurd h c⟩
theorem Ahu {s:Int×Int} {e a:Int} (h:s.1=0→s.2=0) (h2:e=0→a=0):(faF s e a).1=0→(faF s e a).2=0:=by
 unfold faF
 cases s.1==0 with
 | false=>exact h
 | true =>
  cases e != 0 with
  | false=>exact h
  | true=>exact h2
theorem Agu {T:Nat} {l:List Tk} (hk:Toks T l) {i:Nat} (hi:i≤l.length):(seQ l i).2.2.1=0→(seQ l i).2.2.2=0:=by
 rcases A08 hk hi with ⟨h,_⟩ | ⟨tu,h,_⟩
 ·exact fun e=>absurd e h
 ·rw[h];exact fun _=>rfl
theorem Ahq {T:Nat} {l:List Tk} (hk:Toks T l) {i:Nat} (hi:i≤l.length):(peQ l i).2.2.1=0→(peQ l i).2.2.2=0:=by
 rcases V8 hk hi with ⟨h,_⟩ | ⟨tu,h,_⟩
 ·exact fun e=>absurd e h
 ·rw[h];exact fun _=>rfl
theorem Asl {T:Nat} {l:List Tk} (hk:Toks T l) {n i:Nat} (hi:i≤l.length) (hn:18*l.length+T+960≤n):Ic n l (i:Int)=some (seQ l i):=by
 obtain⟨r,hr,e⟩:=A15 hk hi
 rw[e];exact A8y hk hr hi (by omega)
theorem Aua {T:Nat} {l:List Tk} (hk:Toks T l) {n i:Nat} (hi:i≤l.length) (hn:12*l.length+T+200≤n):I9 n l (i:Int)=some (peQ l i):=by
 obtain⟨r,hr,e⟩:=A25 hk hi
 rw[e];exact Wl hk.len hk.ok hk.txt hk.small hr hi hn
noncomputable def K1 (l:List Tk) (s:Ps):Th×Ps:=(⟨(nmF l (s.1+1,s.2)).1,(G1 l (sgF [123] l (nmF l (s.1+1,s.2)).2)).1,(L3 l (G1 l (sgF [123] l (nmF l (s.1+1,s.2)).2)).2).1,atA l s.1⟩,(L3 l (G1 l (sgF [123] l (nmF l (s.1+1,s.2)).2)).2).2)
theorem Acc (l:List Tk) (s:Ps):(K1 l s).1=(Jv l s).1∧(K1 l s).2.2=(Jv l s).2.2∧((K1 l s).2.2.1=0→(K1 l s).2=(Jv l s).2):=by
 obtain⟨h1,h2,h3⟩:=Aje l (G1 l (sgF [123] l (nmF l (s.1+1,s.2)).2)).2
 exact⟨by unfold K1 Jv;rw[h1],h2,h3⟩
theorem A7f {T:Nat} {l:List Tk} (hk:Toks T l) {s:Ps} (hs:Cb l s):Cb l (L3 l s).2∧(PsZ s→PsZ (L3 l s).2):=by
 unfold L3
 cases hc:s.2.1==0 with
 | false=>exact⟨hs,id⟩
 | true =>
  rw[Af]
  refine⟨Kt ?_,fun hz=>Uu (Ahu hz (Agu hk hs))⟩
  unfold Cb
  dsimp only
  split
  ·exact(A4c hk hs).2.1
  ·exact hs
theorem Aes {T:Nat} {l:List Tk} (hk:Toks T l) (n:Nat) (s:Ps) (hz:PsZ s) (h1:s.1 < l.length) (hn:18*l.length+T+1000≤n) :
 Hl n (N0 l s.1).Ab l ((s.1+1:Nat):Int) s.2.1 s.2.2=some ((K1 l s).1,((K1 l s).2.1:Int),(K1 l s).2.2.1,(K1 l s).2.2.2)∧Cb l (K1 l s).2∧PsZ (K1 l s).2:=by
 have hl:=hk.len
 obtain⟨n,rfl⟩:∃ j,n=j+8:=⟨n - 8,by omega⟩
 have a1:Cb l (nmF l (s.1+1,s.2)).2:=Ng h1
 have a2:=Kt (w:=[123]) a1
 obtain⟨a3,_⟩:=A0v hk a2
 have z1:PsZ (sgF [123] l (nmF l (s.1+1,s.2)).2):=Uu (A5g hz)
 obtain⟨t,e1,e2⟩:=A1d (n+3) l (s.1+1,s.2) hl
 dsimp only at e1
 have tail:∀ (q:List (List UInt8)) (t:Ps),Cb l t→PsZ t→(bif t.2.1 != 0 then some ((⟨(nmF l (s.1+1,s.2)).1,q,([]:List A0),(N0 l s.1).Ab⟩:Ae),(t.1:Int),t.2.1,t.2.2)
  else(Ic (n+7) l (t.1:Int)).bind fun y46=>(Cf (n+7) y46.2.2.1 y46.2.2.2 l (t.1:Int) t.2.1 t.2.2).bind fun y48=>bif y48.1==0 then(By (n+7) [125] l y46.2.1 y48.1 y48.2).bind fun y51=>some ((⟨(nmF l (s.1+1,s.2)).1,q,y46.1,(N0 l s.1).Ab⟩:Ae),y51.1,y51.2.1,y51.2.2)
   else(By (n+7) [125] l (t.1:Int) y48.1 y48.2).bind fun y53=>some ((⟨(nmF l (s.1+1,s.2)).1,q,y46.1,(N0 l s.1).Ab⟩:Ae),y53.1,y53.2.1,y53.2.2))=some ((⟨(nmF l (s.1+1,s.2)).1,q,(L3 l t).1,(N0 l s.1).Ab⟩:Ae),((L3 l t).2.1:Int),(L3 l t).2.2.1,(L3 l t).2.2.2):=by
  intro q t ht hzt
  unfold L3
  cases hc:t.2.1==0 with
  | false=>rw[show(t.2.1 != 0)=true by rw[bne,hc];rfl];rfl
  | true =>
   obtain⟨g1,g2,_⟩:=A4c hk ht
   rw[show(t.2.1 != 0)=false by rw[bne,hc];rfl,An,Asl hk ht (by omega),A1,A73 (n+6) _ _ l _ t.2 hzt (Agu hk ht),A1]
   dsimp only
   by_cases c:(faF t.2 (seQ l t.1).2.2.1 (seQ l t.1).2.2.2).1=0
   ·have e3:=Qj (n+2) [125] l ((seQ l t.1).2.1.toNat,faF t.2 (seQ l t.1).2.2.1 (seQ l t.1).2.2.2) hl
    dsimp only at e3
    rw[g1] at e3
    rw[beq_iff_eq.2 c,Af,e3,A1,if_pos c];rfl
   ·have e3:=Qj (n+2) [125] l (t.1,faF t.2 (seQ l t.1).2.2.1 (seQ l t.1).2.2.2) hl
    dsimp only at e3
    rw[Ca.2 c,An,e3,A1,if_neg c];rfl
 have hat:(K1 l s)=(⟨(nmF l (s.1+1,s.2)).1,(G1 l (sgF [123] l (nmF l (s.1+1,s.2)).2)).1,(L3 l (G1 l (sgF [123] l (nmF l (s.1+1,s.2)).2)).2).1,(N0 l s.1).Ab⟩,(L3 l (G1 l (sgF [123] l (nmF l (s.1+1,s.2)).2)).2).2):=by unfold K1;rw[A3c h1,Qo h1]
 have e4:=Qj (n+2) [123] l (nmF l (s.1+1,s.2)).2 hl
 rw[Hl,e1,A1]
 dsimp only
 rw[e4,A1,Le]
 dsimp only
 rw[hat]
 generalize hS:sgF [123] l (nmF l (s.1+1,s.2)).2=S at *
 have e5:=Oi (n+5) 1 [114,101,103] l S hl
 rw[e5,A1,Tb]
 cases hc:C9 [114,101,103] l S with
 | false =>
  have hh:G1 l S=([],S):=by unfold G1;rw[hc];rfl
  rw[hh] at a3 ⊢
  obtain⟨b1,b2⟩:=A7f hk a3
  refine⟨?_,b1,b2 z1⟩
  rw[e2]
  exact tail [] S a3 z1
 | true =>
  obtain⟨q1,q2⟩:=Je hc
  obtain⟨r1,r2⟩:=Aih hl (n+7) (by omega) (n+7) S q1 (by omega)
  have r2:=r2 z1
  have hh:G1 l S=((Dw l (l.length+2) (nmF l (S.1+1,S.2)).2 [(nmF l (S.1+1,S.2)).1]).1,sgF [59] l (Dw l (l.length+2) (nmF l (S.1+1,S.2)).2 [(nmF l (S.1+1,S.2)).1]).2):=by unfold G1;rw[hc];rfl
  rw[hh] at a3 ⊢
  obtain⟨b1,b2⟩:=A7f hk a3
  refine⟨?_,b1,b2 (Uu r2)⟩
  dsimp only [nxB,cond_true]
  rw[r1,A1]
  dsimp only
  have e6:=Qj (n+2) [59] l (Dw l (l.length+2) (nmF l (S.1+1,S.2)).2 [(nmF l (S.1+1,S.2)).1]).2 hl
  rw[e6,A1,e2]
  exact tail _ _ a3 (Uu r2)
noncomputable def L6 (l:List Tk):Nat→Ps→List Th→List Th×Ps
 | 0,s,acc=>(acc,s)
 | k+1,s,acc=>bif C9 [116,104,114,101,97,100] l s then L6 l k (K1 l s).2 (acc++[(K1 l s).1]) else(acc,s)
theorem A2l {w:List UInt8} {l:List Tk} {s:Ps} (h:s.2.1≠0):C9 w l s=false:=by unfold C9;rw[Ca.2 h];rfl
theorem Ac0 {l:List Tk} {k:Nat} {s:Ps} {acc:List Th} (h:s.2.1≠0):L6 l k s acc=(acc,s):=by
 cases k with
 | zero=>rfl
 | succ k=>rw[L6,A2l h];rfl
theorem Abr {l:List Tk} {k:Nat} {s:Ps} {acc:List Th} (h:s.2.1≠0):Gs l k s acc=(acc,s):=by
 cases k with
 | zero=>rfl
 | succ k=>rw[Gs,A2l h];rfl
theorem Akf (l:List Tk):∀ (k:Nat) (s:Ps) (acc:List Th),(L6 l k s acc).1=(Gs l k s acc).1∧(L6 l k s acc).2.2=(Gs l k s acc).2.2∧((L6 l k s acc).2.2.1=0→(L6 l k s acc).2=(Gs l k s acc).2):=by
 intro k
 induction k with
 | zero=>intro s acc;exact⟨rfl,rfl,fun _=>rfl⟩
 | succ k ih =>
  intro s acc
  rw[L6,Gs]
  cases hc:C9 [116,104,114,101,97,100] l s with
  | false=>exact⟨rfl,rfl,fun _=>rfl⟩
  | true =>
   rw[Af,Af]
   obtain⟨h1,h2,h3⟩:=Acc l s
   by_cases c:(K1 l s).2.2.1=0
   ·rw[h1,h3 c];exact ih _ _
   ·rw[Ac0 c,Abr (by rw[← h2];exact c),h1]
    exact⟨rfl,h2,fun h=>absurd h c⟩
theorem Anh {T:Nat} {l:List Tk} (hk:Toks T l) (n:Nat) (y:List Tk×Int×Int) (hy:y.1=l) (hn:18*l.length+T+1000≤n):∀ (m k K:Nat) (s:Ps) (acc:List Th),Cb l s→PsZ s→Ew l s≤m→m < k→m < K→acc.length+m≤l.length+5 →
 Iy n y k (nxB (C9 [116,104,114,101,97,100] l s) l s).2.1 (nxB (C9 [116,104,114,101,97,100] l s) l s).2.2 s.2.1 s.2.2 acc (nxB (C9 [116,104,114,101,97,100] l s) l s).1.A7 (nxB (C9 [116,104,114,101,97,100] l s) l s).1.Ac (nxB (C9 [116,104,114,101,97,100] l s) l s).1.Bs (nxB (C9 [116,104,114,101,97,100] l s) l s).1.Ab
  =some (.out (((L6 l K s acc).2.1:Int),(L6 l K s acc).2.2.1,(L6 l K s acc).2.2.2,0,[],0,0,(L6 l K s acc).1))∧Cb l (L6 l K s acc).2∧PsZ (L6 l K s acc).2:=by
 subst hy
 have hl:=hk.len
 intro m
 induction m with
 | zero =>
  intro k K s acc hs hz hm hk' hK ha
  obtain⟨k,rfl⟩:∃ j,k=j+1:=⟨k - 1,by omega⟩
  obtain⟨K,rfl⟩:∃ j,K=j+1:=⟨K - 1,by omega⟩
  rw[L6,Yu hm];exact⟨rfl,hs,hz⟩
 | succ m ih =>
  intro k K s acc hs hz hm hk' hK ha
  obtain⟨k,rfl⟩:∃ j,k=j+1:=⟨k - 1,by omega⟩
  obtain⟨K,rfl⟩:∃ j,K=j+1:=⟨K - 1,by omega⟩
  obtain⟨n,rfl⟩:∃ j,n=j+6:=⟨n - 6,by omega⟩
  rw[L6]
  cases hc:C9 [116,104,114,101,97,100] y.1 s with
  | false=>exact⟨rfl,hs,hz⟩
  | true =>
   obtain⟨h1,h2⟩:=Je hc
   obtain⟨t1,t2,t3⟩:=Aes hk (n+6) s hz h1 (by omega)
   obtain⟨q2,q3⟩:=Adu hk h1
   obtain⟨_,p2,p3⟩:=Acc y.1 s
   have hprog:(K1 y.1 s).2.2.1≠0∨s.1 < (K1 y.1 s).2.1:=by
    by_cases c:(K1 y.1 s).2.2.1=0
    ·rw[p3 c];exact q3
    ·exact .inl c
   have:=ih k K (K1 y.1 s).2 (acc++[(K1 y.1 s).1]) t2 t3 (by have:=Rq (t:=(K1 y.1 s).2) h2 hs hprog t2;omega) (by omega) (by omega) (by simp;omega)
   rw[Af]
   refine⟨?_,this.2⟩
   rw[Iy]
   dsimp only [nxB,cond_true]
   rw[t1,A1,A6 (by omega),Le]
   dsimp only
   have hnx:=Oi (n+4) 1 [116,104,114,101,97,100] y.1 (K1 y.1 s).2 hl
   rw[hnx,A1,Tb]
   exact this.1
end Go.Proofs.YtnijlelbihnamaaGreat
end
