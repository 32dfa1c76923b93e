/- Parts of the proofs: what they lean on. Conditions: none. -/
import Derived.Test.YtfabdppicogkmaaGreatProg
import Derived.Test.YtfabdppicogkmaaGreatGsfS25
section
namespace Go.Proofs.YtfabdppicogkmaaGreat
open Go.RowKit Go.WideShapes
set_option linter.unusedVariables false
set_option linter.unusedSimpArgs false
def Aov (n:Nat):Rd (List Int):=⟨n,fun _ cs l=>cs=l.map (Value.int .u8)∧l.length=n∧∀ x ∈ l,(Lit.int .u8 x).wf=true⟩
theorem Adb {P:Program} {t e:TypeId} {n:Nat} (ht:P.underlying t=some (.array n e)) (he:P.underlying e=some (.int .u8)) (hc:P.cellsOf t=n) (hce:P.cellsOf e=1):Ap6 P t (Aov n):=by
 refine⟨hc,fun H enc w base spare held fuel cs x h=>?_⟩
 obtain⟨xs,m,_,_,h1,h2,h3⟩:=DataW.trod_array ht h
 rw[hce] at h3
 rw[hc] at h1
 obtain⟨l,hl,hp⟩:=Aq4 (n:=n) (p:=fun i y=>cs[i]?=some (Value.int .u8 y)∧(Lit.int .u8 y).wf=true) (fun i hi=>by
  have h4:=h3 i hi
  rw[Nat.mul_one,A6 (by omega)] at h4
  obtain⟨y,h5,_,h6⟩:=DataW.trod_int he h4
  refine⟨y,?_,h6⟩
  have:=congrArg (fun l=>l[0]?) h5
  simp only[List.getElem?_take,List.getElem?_drop] at this
  simpa using this)
 refine⟨l,?_,hl,fun x hx=>?_⟩
 ·apply List.ext_getElem?
  intro i
  rcases Nat.lt_or_ge i n with hi | hi
  ·have:=(hp i (by omega)).1
   rw[this,List.getElem?_map,A6 (by omega)]
   rfl
  ·rw[List.getElem?_eq_none (by omega),List.getElem?_eq_none (by simp;omega)]
 ·obtain⟨i,hi,rfl⟩:=List.getElem_of_mem hx
  exact(hp i hi).2
theorem A6s {P:Program} {w:World} {r:Reach} {base:Nat} {t:TypeId} {v:Value} {n:Nat} {e:TypeId} (ht:P.underlying t=some (.array n e)) (h:Value.okWide P w r base t v):∃ cs,v=.agg cs:=by
 simp only[Value.okWide,ht] at h
 obtain⟨cs,rfl,_⟩:=h
 exact⟨cs,rfl⟩
theorem Alr {w:World} {cs:Array Value} {l:List Int} (h:(Aov 3).rel w cs.toList l):∃ a b c:Int,cs=#[.int .u8 a,.int .u8 b,.int .u8 c]∧(Lit.int .u8 a).wf=true∧(Lit.int .u8 b).wf=true∧(Lit.int .u8 c).wf=true:=by
 obtain⟨h1,h2,h3⟩:=h
 obtain⟨cs⟩:=cs
 match l,h2 with
 | [a,b,c],_=>exact⟨a,b,c,by simpa using h1,h3 a (by simp),h3 b (by simp),h3 c (by simp)⟩
theorem Agp {W:World} {a b c:Int} (ha:(Lit.int .u8 a).wf=true) (hb:(Lit.int .u8 b).wf=true) (hc:(Lit.int .u8 c).wf=true):Rep (SAll W) W [] [] (.agg [.int .u8 a,.int .u8 b,.int .u8 c]) (.agg #[.int .u8 a,.int .u8 b,.int .u8 c]) :=
 .agg _ _ _ [.int .u8 a,.int .u8 b,.int .u8 c] (.cons _ _ _ _ _ _ (.int _ _ _ _ ha) (.cons _ _ _ _ _ _ (.int _ _ _ _ hb) (.cons _ _ _ _ _ _ (.int _ _ _ _ hc) (.nil _ _)))) (by
  intro v hv
  simp only[List.mem_cons,List.not_mem_nil,or_false] at hv
  rcases hv with rfl | rfl | rfl<;>rfl)
theorem Va {x:Int} (h:(Lit.int .u8 x).wf=true):0≤x∧x≤255:=by
 simpa [Lit.wf,IntKind.min,IntKind.max,IntKind.bits,IntKind.signed] using h
set_option linter.unusedSectionVars false
set_option maxRecDepth 100000
abbrev InU (u:Ak):Prop:=Nonempty (u ∈ uns)
theorem InU.mem {u:Ak} [h:InU u]:u ∈ uns:=h.elim id
theorem Z1 {α:Type} [DecidableEq α] (a b:List α) (hl:a.length=b.length) (L:Nat→Nat→Option (LR Unit Bool)) (h0:∀ k,L (k+1) a.length=some (.out ()))
 (h1:∀ k i (hi:i < a.length) (hi2:i < b.length),L (k+1) i=if a[i]=b[i] then L k (i+1) else some (.ret false)) {k:Nat} (hk:a.length < k):L k 0=if a=b then some (.out ()) else some (.ret false):=by
 have:=Oy a (fun k i (_:Unit)=>L k i) (fun l (_:Unit)=>if l=b.drop (a.length - l.length) then some (.out ()) else some (.ret false)) (fun i _=>True) (k:=k) (s:=()) hk trivial (fun k s _=>by
  rw[h0,if_pos (by simp[hl])]) (fun k i s x hi hx _ ih=>by
  have hib:i < b.length:=by omega
  rw[h1 k i hi hib,ih () trivial]
  have e0:a[i]=x:=by rw[A6 hi] at hx;exact Option.some.inj hx
  have e1:a.length - (x :: a.drop (i+1)).length=i:=by simp;omega
  have e2:a.length - (a.drop (i+1)).length=i+1:=by simp;omega
  rw[e0,e1,e2,List.drop_eq_getElem_cons hib]
  by_cases cx:x=b[i]
  ·subst cx
   rw[if_pos rfl]
   simp only[List.cons.injEq,true_and]
  ·rw[if_neg cx,if_neg (by intro e;injection e with e _;exact cx e)])
 rw[Nat.sub_self,List.drop_zero] at this
 exact this
theorem A5a (n:Nat) (a b:List Int) (hn:a.length+5 < n) (hl:a.length < 1000000):Io n a b=some (decide (a=b)):=by
 obtain⟨n,rfl⟩:∃ j,n=j+1:=⟨n - 1,by omega⟩
 rw[Io]
 by_cases c:a.length=b.length
 rotate_left
 ·have:(((a.length:Nat):Int) != ((b.length:Nat):Int))=true:=by rw[bne_iff_ne];omega
  rw[this,As,decide_eq_false (fun e=>c (by rw[e]))]
 have h0:(((a.length:Nat):Int) != ((b.length:Nat):Int))=false:=by rw[c];simp
 have:=Z1 a b c (fun k i=>H9 n a b k (i:Int)) (fun k=>by rw[H9,Ap (by omega)]) (fun k i hi hi2=>by
  rw[H9,Ad (by omega),Bu hi,A4,Bu hi2,A4,Be i (by omega)]
  by_cases e:a[i]=b[i]
  ·rw[if_pos e,show(a[i] != b[i])=false by simp[e],B3]
  ·rw[if_neg e,bne_iff_ne.2 e,As]) (k:=n) (by omega)
 rw[h0,B3]
 refine(congrArg (fun o=>Option.bind o _) this).trans ?_
 by_cases e:a=b
 ·rw[if_pos e,decide_eq_true e];rfl
 ·rw[if_neg e,decide_eq_false e];rfl
theorem Ap7 (n:Nat) (a b:List A2) (hn:a.length+5 < n) (hl:a.length < 1000000):Ml n a b=some (decide (a=b)):=by
 obtain⟨n,rfl⟩:∃ j,n=j+1:=⟨n - 1,by omega⟩
 rw[Ml]
 by_cases c:a.length=b.length
 rotate_left
 ·have:(((a.length:Nat):Int) != ((b.length:Nat):Int))=true:=by rw[bne_iff_ne];omega
  rw[this,As,decide_eq_false (fun e=>c (by rw[e]))]
 have h0:(((a.length:Nat):Int) != ((b.length:Nat):Int))=false:=by rw[c];simp
 have:=Z1 a b c (fun k i=>H5 n a b k (i:Int)) (fun k=>by rw[H5,Ap (by omega)]) (fun k i hi hi2=>by
  rw[H5,Ad (by omega),Bu hi,A4,Bu hi2,A4,Be i (by omega)]
  by_cases e:a[i]=b[i]
  ·rw[if_pos e,e];simp
  ·rw[if_neg e]
   have:((a[i].loc==b[i].loc)&&((a[i].n==b[i].n)&&true))=false:=by
    rw[Bool.eq_false_iff]
    intro h
    simp only[A8,beq_iff_eq,and_true] at h
    apply e
    cases ha:a[i];cases hb:b[i]
    rw[ha,hb] at h
    simp at h
    rw[h.1,h.2]
   rw[this,B3]) (k:=n) (by omega)
 rw[h0,B3]
 refine(congrArg (fun o=>Option.bind o _) this).trans ?_
 by_cases e:a=b
 ·rw[if_pos e,decide_eq_true e];rfl
 ·rw[if_neg e,decide_eq_false e];rfl
theorem Aqs (n:Nat) (u:Ak) (a b:Ac) (ha:A4l u a) (hb:A4l u b) (hu:u.regs.length≤4) (hn:1100 < n):Mf n a b=some (decide (a=b)):=by
 obtain⟨n,rfl⟩:∃ j,n=j+1:=⟨n - 1,by omega⟩
 have l1:=ha.lpc;have l2:=ha.lregs;have l3:=ha.lbuf;have l4:=ha.lmem
 have k1:=hb.lpc;have k2:=hb.lregs;have k3:=hb.lbuf
 rw[Mf,A5a n a.pc b.pc (by omega) (by omega),A4]
 by_cases c1:a.pc=b.pc
 rotate_left
 ·rw[decide_eq_false c1,decide_eq_false (fun e=>c1 (by rw[e]))];rfl
 rw[decide_eq_true c1,As,A5a n a.mem b.mem (by omega) (by omega),A4]
 by_cases c2:a.mem=b.mem
 rotate_left
 ·rw[decide_eq_false c2,decide_eq_false (fun e=>c2 (by rw[e]))];rfl
 have e1:((((a.regs).length:Nat):Int) != (((b.regs).length:Nat):Int))=false:=by rw[l2,k2];simp
 have e2:((((a.buf).length:Nat):Int) != (((b.buf).length:Nat):Int))=false:=by rw[l3,k3];simp
 have h3:=Z1 a.regs b.regs (by omega) (fun k i=>Gg n a b k (i:Int)) (fun k=>by rw[Gg,Ap (by omega)]) (fun k i hi hi2=>by
  have:=ha.regs _ (List.getElem_mem hi)
  rw[Gg,Ad (by omega),Bu hi,A4,Bu hi2,A4,A5a n _ _ (by omega) (by omega),A4,Be i (by omega)]
  by_cases e:a.regs[i]=b.regs[i]
  ·rw[if_pos e,decide_eq_true e];rfl
  ·rw[if_neg e,decide_eq_false e];rfl) (k:=n) (by omega)
 have h4:=Z1 a.buf b.buf (by omega) (fun k i=>Ge n a b k (i:Int)) (fun k=>by rw[Ge,Ap (by omega)]) (fun k i hi hi2=>by
  have:=ha.buf _ (List.getElem_mem hi)
  rw[Ge,Ad (by omega),Bu hi,A4,Bu hi2,A4,Ap7 n _ _ (by omega) (by omega),A4,Be i (by omega)]
  by_cases e:a.buf[i]=b.buf[i]
  ·rw[if_pos e,decide_eq_true e];rfl
  ·rw[if_neg e,decide_eq_false e];rfl) (k:=n) (by omega)
 simp only[Int.natCast_zero,Int.ofNat_zero] at h3 h4
 rw[decide_eq_true c2,As,e1,B3,e2,B3]
 have h3':Gg n a b n 0=if a.regs=b.regs then some (.out ()) else some (.ret false):=h3
 have h4':Ge n a b n 0=if a.buf=b.buf then some (.out ()) else some (.ret false):=h4
 rw[h3']
 by_cases c3:a.regs=b.regs
 rotate_left
 ·rw[if_neg c3,decide_eq_false (fun e=>c3 (by rw[e]))];rfl
 rw[if_pos c3,A4,h4']
 by_cases c4:a.buf=b.buf
 rotate_left
 ·rw[if_neg c4,decide_eq_false (fun e=>c4 (by rw[e]))];rfl
 rw[if_pos c4,decide_eq_true (by cases a;cases b;simp only at *;rw[c1,c2,c3,c4])]
 rfl
def agN (u:Ak) (model:Int):Nat:=if model=1 then u.regs.length else if model=2 then 2*u.regs.length else u.regs.length+u.regs.length*u.init.length
theorem Vm {u:Ak} (hu:C7 u=true) (model:Int):agN u model≤28:=by
 have hh:=Cc hu
 have:u.regs.length*u.init.length≤4*6:=Nat.mul_le_mul (by omega) (by omega)
 unfold agN
 repeat' split
 all_goals omega
theorem S7 (n:Nat) (u:Ak) [InU u] (model:Int) (hu:C7 u=true) (hm:1≤model∧model≤3):Fo (n+2) u model=some (agN u model:Int):=by
 have hh:=Cc hu
 have hb:u.regs.length*u.init.length≤4*6:=Nat.mul_le_mul (by omega) (by omega)
 rw[Fo,Hw,if_pos InU.mem,A4,As,agN]
 by_cases c1:model=1
 ·subst c1;rfl
 by_cases c2:model=2
 ·subst c2
  rw[show((2:Int)==1)=false from rfl,B3,show((2:Int)==2)=true from rfl,As,if_neg (by decide),if_pos rfl,G3 (n:=2*(u.regs.length:Int)) (by omega)]
  congr 1
 ·obtain rfl:model=3:=by omega
  have e:(u.regs.length:Int)*(u.init.length:Int)=((u.regs.length*u.init.length:Nat):Int):=by simp
  rw[show((3:Int)==1)=false from rfl,B3,show((3:Int)==2)=false from rfl,B3,show((3:Int)==3)=true from rfl,As,if_neg (by decide),if_neg (by decide),e,G3 (n:=((u.regs.length*u.init.length:Nat):Int)) (by omega),G3 (n:=(u.regs.length:Int)+((u.regs.length*u.init.length:Nat):Int)) (by omega)]
  congr 1
section
variable {u:Ak} [InU u] {c:Ac} {model room:Int}
theorem Aj4 (hu:C7 u=true) (hm:1≤model∧model≤3) {a:Nat} (ha:a < agN u model) (hn:u.regs.length≤a):IntKind.i64.wrap ((a:Int) - (u.regs.length:Int))=((a - u.regs.length:Nat):Int)∧(model=2∧a - u.regs.length < u.regs.length∨model=3∧0 < u.init.length∧(a - u.regs.length) / u.init.length < u.regs.length):=by
 have hh:=Cc hu
 have hb:u.regs.length*u.init.length≤4*6:=Nat.mul_le_mul (by omega) (by omega)
 have h28:=Vm hu model
 refine⟨by rw[G3 (by omega)];omega,?_⟩
 unfold agN at ha
 by_cases c1:model=1
 ·rw[if_pos c1] at ha;omega
 by_cases c2:model=2
 ·rw[if_neg c1,if_pos c2] at ha;exact .inl ⟨c2,by omega⟩
 ·rw[if_neg c1,if_neg c2] at ha
  have k0:0 < u.init.length:=by
   rcases Nat.eq_zero_or_pos u.init.length with h | h
   ·rw[h,Nat.mul_zero] at ha;omega
   ·exact h
  exact .inr ⟨by omega,k0,Nat.div_lt_of_lt_mul (by rw[Nat.mul_comm];omega)⟩
theorem Arg {b k:Nat} (hb:b < 1000) (hk:0 < k):IntKind.i64.wrap (Int.tdiv (b:Int) (k:Int))=((b / k:Nat):Int)∧Int.tmod (b:Int) (k:Int)=((b % k:Nat):Int):=by
 have h:b / k≤b:=Nat.div_le_self _ _
 refine⟨?_,by rw[Int.tmod_eq_emod_of_nonneg (by omega),← Int.natCast_emod]⟩
 rw[Int.tdiv_eq_ediv_of_nonneg (by omega),← Int.natCast_ediv]
 generalize b / k=q at *
 exact G3 (by omega)
end
structure Found (u:Ak) (model room:Int) (L:List Ac) (P B:List Int) (b:Nat):Prop where
 nd:L.Nodup
 ok:∀ c ∈ L,D2 u c model room
 len:L.length≤b
 lp:P.length=L.length
 lb:B.length=L.length
section
variable {u:Ak} [InU u] {model room:Int}
theorem Found.push {L:List Ac} {P B:List Int} {b:Nat} (h:Found u model room L P B b) {d:Ac} (hd:d ∉ L) (hr:D2 u d model room) (hl:L.length < b) (x y:Int):Found u model room (L++[d]) (P++[x]) (B++[y]) b :=
 ⟨by
  rw[List.nodup_append]
  exact⟨h.nd,by simp,fun a ha c hc=>by simp at hc;subst hc;rintro rfl;exact hd ha⟩,fun c hc=>by
  rcases List.mem_append.1 hc with hc | hc
  ·exact h.ok c hc
  ·simp at hc;rw[hc];exact hr,by simp;omega,by simp[h.lp],by simp[h.lb]⟩
theorem Aav (hu:C7 u=true) (hr:1≤room∧room≤4) (n:Nat) (hn:100 < n):∃ c,H7 n u=some (c,0)∧D2 u c model room:=by
 obtain⟨n,rfl⟩:∃ j,n=j+2:=⟨n - 2,by omega⟩
 have hh:=Cc hu
 have hL:∀ (j k i:Nat),i+j=u.regs.length→j < k→Dc (n+1) u k (i:Int) (List.replicate i 0) ((u.regs.take i).map fun x=>List.replicate x.toNat 0) (List.replicate i [])=some (.out (List.replicate u.regs.length 0,u.regs.map (fun x=>List.replicate x.toNat 0),List.replicate u.regs.length [])):=by
  intro j
  induction j with
  | zero =>
   intro k i hi hk
   obtain⟨k,rfl⟩:∃ j,k=j+1:=⟨k - 1,by omega⟩
   obtain rfl:i=u.regs.length:=by omega
   rw[Dc,Ap (by omega),List.take_length]
  | succ j ih =>
   intro k i hi hk
   obtain⟨k,rfl⟩:∃ j,k=j+1:=⟨k - 1,by omega⟩
   have hlt:i < u.regs.length:=by omega
   have hrow:=Pe hu hlt (by omega)
   rw[Dc,Ad (by omega),Ad (by simp;omega),Bu hlt,A4]
   have hb:(decide (0≤u.regs[i])&&decide ((8:Int)*u.regs[i]≤140737488355328))=true:=by simp only[A8,Ai];omega
   rw[hb,As,Ad (by simp;omega),Ad (by simp;omega),Be i (by omega),← ih k (i+1) (by omega) (by omega),List.take_add_one,A6 hlt,Option.toList_some,List.map_append]
   rw[List.replicate_succ',List.replicate_succ']
   rfl
 have:=hL u.regs.length (n+1) 0 (by omega) (by omega)
 have h0:Dc (n+1) u (n+1) 0 [] [] []=_:=this
 rw[H7,Hw,if_pos InU.mem,A4,As,h0,A4]
 simp only
 rw[Ad (by simp;omega)]
 refine⟨_,rfl,⟨by simp,by simp,by simp,by simp,?_,?_⟩⟩
 ·intro x hx
  simp only[C7,Ap0,A8,List.all_eq_true] at hu
  have:=hu.1.2 x (by simpa using hx)
  simpa [inB] using this
 ·intro t p r bf code nr e1 e2 e3 e4 e5
  obtain⟨t1,e1'⟩:=List.getElem?_eq_some_iff.1 e1
  simp at t1 e1'
  obtain⟨t2,e2'⟩:=List.getElem?_eq_some_iff.1 e2
  obtain⟨t3,e3'⟩:=List.getElem?_eq_some_iff.1 e3
  obtain⟨t4,e4'⟩:=List.getElem?_eq_some_iff.1 e4
  obtain⟨t5,e5'⟩:=List.getElem?_eq_some_iff.1 e5
  have hrow:=Pe hu t5 t4
  simp only[List.getElem_replicate,List.getElem_map] at e2' e3'
  rw[e5'] at e2' hrow
  rw[e4'] at hrow
  subst e1';subst e2';subst e3'
  refine⟨by omega,by omega,by simp;omega,fun x hx=>?_,?_⟩
  ·rw[(List.mem_replicate.1 hx).2];omega
  ·exact⟨by simp,fun _=>rfl,fun _=>by simp;omega,fun _=>⟨trivial,fun loc=>by simp;omega⟩⟩
end
def enA (u:Ak) (c:Ac) (model room:Int) (a:Nat):Bool :=
 if a < u.regs.length then enC u c model room a
 else if model=2 then(Gy c model (a - u.regs.length) (-1)).2
 else(Gy c model ((a - u.regs.length) / u.init.length) (((a - u.regs.length) % u.init.length:Nat):Int)).2
def Xs (u:Ak) (c:Ac) (model room:Int) (a:Nat):Ac :=
 if a < u.regs.length then(Um u c model room a).1
 else if model=2 then(Gy c model (a - u.regs.length) (-1)).1
 else(Gy c model ((a - u.regs.length) / u.init.length) (((a - u.regs.length) % u.init.length:Nat):Int)).1
def Lp (u:Ak) (c:Ac) (model room:Int):Nat→Nat→List Int
 | 0,_=>[]
 | j+1,i=>if enA u c model room i then(i:Int) :: Lp u c model room j (i+1) else Lp u c model room j (i+1)
def Nd (u:Ak) (c:Ac) (model room:Int):List Int:=Lp u c model room (agN u model) 0
theorem A1z {u:Ak} {c:Ac} {model room:Int}:∀ (j i:Nat),(Lp u c model room j i).length≤j∧∀ a ∈ Lp u c model room j i,∃ z:Nat,a=z∧z < i+j∧enA u c model room z=true
 | 0,i=>⟨Nat.le_refl _,fun a h=>by simp[Lp] at h⟩
 | j+1,i=>by
  obtain⟨h1,h2⟩:=A1z (u:=u) (c:=c) (model:=model) (room:=room) j (i+1)
  rw[Lp]
  split
  ·rename_i h
   refine⟨by simp;omega,fun a ha=>?_⟩
   rcases List.mem_cons.1 ha with rfl | ha
   ·exact⟨i,rfl,by omega,h⟩
   ·obtain⟨z,e,hz,he⟩:=h2 a ha
    exact⟨z,e,by omega,he⟩
  ·refine⟨by omega,fun a ha=>?_⟩
   obtain⟨z,e,hz,he⟩:=h2 a ha
   exact⟨z,e,by omega,he⟩
section
variable {u:Ak} [InU u] {c:Ac} {model room:Int}
theorem A01 (n:Nat) (hu:C7 u=true) (hlu:G6 u=true) (hm:1≤model∧model≤3) (hr:1≤room∧room≤4) (h:D2 u c model room) {a:Nat} (ha:a < agN u model) (hn:1300 < n):Gx n u c model room (a:Int)=some (enA u c model room a):=by
 obtain⟨n,rfl⟩:∃ j,n=j+3:=⟨n - 3,by omega⟩
 have hz:=Te hu hm hr h
 have h28:=Vm hu model
 rw[Gx,Ap (by omega),S7 n u model hu hm,A4,Ap (by omega),enA]
 by_cases ht:a < u.regs.length
 ·rw[Ad (by omega),A04 (n+2) u c model room a hu hlu h hz ht (by omega),if_pos ht];rfl
 rw[Ap (by omega),if_neg ht]
 obtain⟨e1,q | q⟩:=Aj4 hu hm ha (by omega)
 ·have l3:=hz.lbuf
  rw[beq_iff_eq.2 q.1,As,e1,Yi (n+2) c model _ _ (by omega) hz.buf (by omega),if_pos q.1];rfl
 ·have l3:=hz.lbuf
  obtain⟨d1,d2⟩:=Arg (b:=a - u.regs.length) (k:=u.init.length) (by omega) q.2.1
  rw[Cg.2 (show ¬ model=2 by omega),B3,Ap (by omega),Ap (by omega),e1,d1,d2,Yi (n+2) c model _ _ (by omega) hz.buf (by omega),if_neg (by omega)];rfl
theorem Apn (n:Nat) (hu:C7 u=true) (hlu:G6 u=true) (hm:1≤model∧model≤3) (hr:1≤room∧room≤4) (h:D2 u c model room) {a:Nat} (ha:a < agN u model) (he:enA u c model room a=true) (hn:1400 < n):(∃ b,Ni n u c model room (a:Int)=some (Xs u c model room a,b))∧D2 u (Xs u c model room a) model room:=by
 obtain⟨n,rfl⟩:∃ j,n=j+3:=⟨n - 3,by omega⟩
 have hz:=Te hu hm hr h
 have hh:=Cc hu
 have h28:=Vm hu model
 have hll:∀ code ∈ u.code,∀ x ∈ code,x.e.length < 1000000∧x.f.length < 1000000:=fun code hc x hx=>by
  simp only[G6,Vv,A8,List.all_eq_true,Ai] at hlu
  have:=(hlu.2 code hc).2 x hx
  omega
 rw[Ni,A01 (n+2) hu hlu hm hr h ha (by omega),A4,he,As,Xs]
 by_cases ht:a < u.regs.length
 ·rw[Ad (by omega),Qn,if_pos ⟨hu,hlu,hm,hr,h,by omega,by simpa using ht⟩,if_pos ht]
  exact⟨⟨_,rfl⟩,by simpa using Agq hu hm h ht hll⟩
 rw[Ap (by omega),if_neg ht]
 obtain⟨e1,q | q⟩:=Aj4 hu hm ha (by omega)
 ·rw[beq_iff_eq.2 q.1,As,e1,J1,if_pos ⟨by omega,u,room,hu,hm,hr,h,by simpa using q.2⟩,if_pos q.1]
  exact⟨⟨_,rfl⟩,by simpa using Ye hu h q.2 _⟩
 ·obtain⟨d1,d2⟩:=Arg (b:=a - u.regs.length) (k:=u.init.length) (by omega) q.2.1
  have q3:=q.2.2
  generalize (a - u.regs.length) / u.init.length=z at *
  generalize (a - u.regs.length) % u.init.length=y at *
  rw[Cg.2 (show ¬ model=2 by omega),B3,Ap (by omega),Ap (by omega),e1,d1,d2,J1,if_pos ⟨by omega,u,room,hu,hm,hr,h,by simpa using q3⟩,if_neg (by omega)]
  exact⟨⟨_,rfl⟩,by simpa using Ye hu h q3 _⟩
theorem Aih (n:Nat) (hu:C7 u=true) (hlu:G6 u=true) (hm:1≤model∧model≤3) (hr:1≤room∧room≤4) (h:D2 u c model room) (hn:1400 < n):J3 n u c model room=some (Nd u c model room):=by
 obtain⟨n,rfl⟩:∃ j,n=j+1:=⟨n - 1,by omega⟩
 have h28:=Vm hu model
 have key:∀ (j k i:Nat) (l:List Int),i+j=agN u model→j < k→l.length≤i→Fl n u c model room k (i:Int) l=some (.out (l++Lp u c model room j i)):=by
  intro j
  induction j with
  | zero =>
   intro k i l hi hk hl
   obtain⟨k,rfl⟩:∃ j,k=j+1:=⟨k - 1,by omega⟩
   obtain⟨n',rfl⟩:∃ j,n=j+2:=⟨n - 2,by omega⟩
   rw[Fl,S7 n' u model hu hm,A4,Ap (by omega)]
   simp[Lp]
  | succ j ih =>
   intro k i l hi hk hl
   obtain⟨k,rfl⟩:∃ j,k=j+1:=⟨k - 1,by omega⟩
   obtain⟨n',rfl⟩:∃ j,n=j+2:=⟨n - 2,by omega⟩
   rw[Fl,S7 n' u model hu hm,A4,Ad (by omega),A01 (n'+2) hu hlu hm hr h (a:=i) (by omega) (by omega),A4,Be i (by omega),Lp]
   cases enA u c model room i with
   | false=>exact ih k (i+1) l (by omega) (by omega) (by omega)
   | true =>
    rw[As,Ad (by omega),ih k (i+1) _ (by omega) (by omega) (by simp;omega)]
    simp
 have:=key (agN u model) n 0 [] (by omega) (by omega) (by simp)
 rw[J3,show(0:Int)=((0:Nat):Int) from rfl,this]
 rfl
end
def M4 (d:Ac):List Ac→Nat→Int
 | [],_=> -1
 | c :: l,i=>if c=d then(i:Int) else M4 d l (i+1)
theorem Anr (n:Nat) (u:Ak) (s:Bf) (c:Ac) (hu:u.regs.length≤4) (hs:∀ d ∈ s.C5,A4l u d) (hc:A4l u c) (hl:s.C5.length < 100000) (hn:s.C5.length+1300 < n):M0 n s c=some (M4 c s.C5 0):=by
 obtain⟨n,rfl⟩:∃ j,n=j+1:=⟨n - 1,by omega⟩
 have key:∀ (j k i:Nat),i+j=s.C5.length→j < k→H8 n s c k (i:Int)=some (if M4 c (s.C5.drop i) i= -1 then .out () else .ret (M4 c (s.C5.drop i) i))∧ -1≤M4 c (s.C5.drop i) i:=by
  intro j
  induction j with
  | zero =>
   intro k i hi hk
   obtain⟨k,rfl⟩:∃ j,k=j+1:=⟨k - 1,by omega⟩
   rw[H8,Ap (by omega),List.drop_of_length_le (by omega)]
   exact⟨rfl,by simp[M4]⟩
  | succ j ih =>
   intro k i hi hk
   obtain⟨k,rfl⟩:∃ j,k=j+1:=⟨k - 1,by omega⟩
   have hlt:i < s.C5.length:=by omega
   rw[H8,Ad (by omega),Bu hlt,A4,Aqs n u _ c (hs _ (List.getElem_mem hlt)) hc hu (by omega),A4,Be i (by omega),List.drop_eq_getElem_cons hlt,M4]
   by_cases e:s.C5[i]=c
   ·rw[decide_eq_true e,As,if_pos e,if_neg (by omega)]
    exact⟨rfl,by omega⟩
   ·rw[decide_eq_false e,B3,if_neg e]
    exact ih k (i+1) (by omega) (by omega)
 obtain⟨h1,h2⟩:=key s.C5.length n 0 (by omega) (by omega)
 rw[List.drop_zero] at h1
 rw[M0,show(0:Int)=((0:Nat):Int) from rfl,h1]
 by_cases e:M4 c s.C5 0= -1
 ·rw[if_pos e,e];rfl
 ·rw[if_neg e];rfl
structure Fd where
 L:List Ac
 P:List Int
 B:List Int
 E:List A9
def A0o (u:Ak) (model room:Int) (b i:Nat) (c:Ac):List Int→Fd→Option Fd
 | [],s=>some s
 | a :: t,s =>
  let d:=Xs u c model room a.toNat
  let z:=M4 d s.L 0
  if z < 0 then(if b≤s.L.length then none else A0o u model room b i c t ⟨s.L++[d],s.P++[(i:Int)],s.B++[a],s.E++[⟨(i:Int),a,(s.L.length:Int)⟩]⟩)
  else A0o u model room b i c t ⟨s.L,s.P,s.B,s.E++[⟨(i:Int),a,z⟩]⟩
def Z5 (u:Ak) (model room:Int) (b:Nat):Nat→Nat→Fd→Option Fd
 | 0,_,_=>none
 | k+1,i,s=>match s.L[i]? with
   | none=>some s
   | some c=>(A0o u model room b i c (Nd u c model room) s).bind (Z5 u model room b k (i+1))
structure Adx (u:Ak) (model room:Int) (s:Fd) (m:Nat):Prop where
 ok:∀ c ∈ s.L,D2 u c model room
 lp:s.P.length=s.L.length
 lb:s.B.length=s.L.length
 le:s.E.length≤m
 ll:s.L.length≤1000
section
variable {u:Ak} [InU u] {model room:Int}
theorem Ak5 (n:Nat) (hu:C7 u=true) (hlu:G6 u=true) (hm:1≤model∧model≤3) (hr:1≤room∧room≤4) (b:Nat) (hb:b≤1000) (hn:3000 < n) (i:Nat) (c:Ac) (hc:D2 u c model room) (ms:List Int) (hms:∀ a ∈ ms,∃ z:Nat,a=z∧z < agN u model∧enA u c model room z=true) (hl:ms.length≤28) :
 ∀ (j k q:Nat) (s:Fd),q+j=ms.length→j < k→s.L[i]?=some c→Adx u model room s (100000+q)→(∀ s',A0o u model room b i c (ms.drop q) s=some s'→G5 n u model room (b:Int) (i:Int) ms k (q:Int) s.L s.P s.B s.E=some (.out (s'.L,s'.P,s'.B,s'.E))∧Adx u model room s' (100000+ms.length)∧s'.E.length≤s.E.length+j∧s.L.length≤s'.L.length):=by
 intro j
 have hh:=Cc hu
 induction j with
 | zero =>
  intro k q s hq hk hi hf s' hs'
  obtain⟨k,rfl⟩:∃ j,k=j+1:=⟨k - 1,by omega⟩
  rw[List.drop_of_length_le (by omega),A0o] at hs'
  obtain rfl:=Option.some.inj hs'
  rw[G5,Ap (by omega)]
  exact⟨rfl,⟨hf.ok,hf.lp,hf.lb,by have:=hf.le;omega,hf.ll⟩,by omega,Nat.le_refl _⟩
 | succ j ih =>
  intro k q s hq hk hi hf s' hs'
  obtain⟨k,rfl⟩:∃ j,k=j+1:=⟨k - 1,by omega⟩
  have hqm:q < ms.length:=by omega
  obtain⟨a,ha,ha1,ha2⟩:=hms _ (List.getElem_mem hqm)
  obtain⟨⟨bb,hr1⟩,hr2⟩:=Apn n hu hlu hm hr hc ha1 ha2 (by omega)
  have hfd:=Anr n u ⟨s.L,⟨[],[],[]⟩,s.P,s.B⟩ (Xs u c model room a) (by omega) (fun d hd=>Te hu hm hr (hf.ok d hd)) (Te hu hm hr hr2) (show s.L.length < 100000 by have:=hf.ll;omega) (show s.L.length+1300 < n by have:=hf.ll;omega)
  have hP:=hf.lp;have hB:=hf.lb;have hE:=hf.le;have hL:=hf.ll
  rw[List.drop_eq_getElem_cons hqm,A0o,ha] at hs'
  rw[G5,Ad (by omega),Pn hi,A4,Bu hqm,A4,ha,hr1,A4]
  dsimp only at hs' hfd ⊢
  rw[hfd,A4]
  rw[Int.toNat_natCast] at hs'
  by_cases hz:M4 (Xs u c model room a) s.L 0 < 0
  ·rw[if_pos hz] at hs'
   rw[Ad hz]
   by_cases hbl:b≤s.L.length
   ·rw[if_pos hbl] at hs';cases hs'
   ·rw[if_neg hbl] at hs'
    rw[Ap (by omega),Ad (by omega),Ad (by omega),A4,Ad (by omega),A4,Ad (by omega),Be q (by omega)]
    obtain⟨g1,g2,g3,g4⟩:=ih k (q+1) ⟨s.L++[Xs u c model room a],s.P++[(i:Int)],s.B++[(a:Int)],s.E++[⟨(i:Int),(a:Int),(s.L.length:Int)⟩]⟩ (by omega) (by omega) (by rw[List.getElem?_append_left (List.getElem?_eq_some_iff.1 hi).1];exact hi) ⟨fun x hx=>by
     rcases List.mem_append.1 hx with hx | hx
     ·exact hf.ok x hx
     ·simp at hx;rw[hx];exact hr2,by simp[hP],by simp[hB],by simp;omega,by simp;omega⟩ s' hs'
    exact⟨g1,g2,by simp at g3;omega,by simp at g4;omega⟩
  ·rw[if_neg hz] at hs'
   rw[Ap hz,A4,Ad (by omega),Be q (by omega)]
   obtain⟨g1,g2,g3,g4⟩:=ih k (q+1) ⟨s.L,s.P,s.B,s.E++[⟨(i:Int),(a:Int),M4 (Xs u c model room a) s.L 0⟩]⟩ (by omega) (by omega) hi ⟨hf.ok,hP,hB,by simp;omega,hL⟩ s' hs'
   exact⟨g1,g2,by simp at g3;omega,g4⟩
end
def Su (u:Ak):Ac:=⟨List.replicate u.regs.length 0,u.regs.map (fun x=>List.replicate x.toNat 0),u.init,List.replicate u.regs.length []⟩
section
variable {u:Ak} [InU u] {model room:Int}
theorem Apl (hu:C7 u=true) (hr:1≤room∧room≤4) (n:Nat) (hn:100 < n):H7 n u=some (Su u,0)∧D2 u (Su u) model room:=by
 obtain⟨n,rfl⟩:∃ j,n=j+2:=⟨n - 2,by omega⟩
 have hh:=Cc hu
 have hL:∀ (j k i:Nat),i+j=u.regs.length→j < k→Dc (n+1) u k (i:Int) (List.replicate i 0) ((u.regs.take i).map fun x=>List.replicate x.toNat 0) (List.replicate i [])=some (.out (List.replicate u.regs.length 0,u.regs.map (fun x=>List.replicate x.toNat 0),List.replicate u.regs.length [])):=by
  intro j
  induction j with
  | zero =>
   intro k i hi hk
   obtain⟨k,rfl⟩:∃ j,k=j+1:=⟨k - 1,by omega⟩
   obtain rfl:i=u.regs.length:=by omega
   rw[Dc,Ap (by omega),List.take_length]
  | succ j ih =>
   intro k i hi hk
   obtain⟨k,rfl⟩:∃ j,k=j+1:=⟨k - 1,by omega⟩
   have hlt:i < u.regs.length:=by omega
   have hrow:=Pe hu hlt (by omega)
   rw[Dc,Ad (by omega),Ad (by simp;omega),Bu hlt,A4]
   have hb:(decide (0≤u.regs[i])&&decide ((8:Int)*u.regs[i]≤140737488355328))=true:=by simp only[A8,Ai];omega
   rw[hb,As,Ad (by simp;omega),Ad (by simp;omega),Be i (by omega),← ih k (i+1) (by omega) (by omega),List.take_add_one,A6 hlt,Option.toList_some,List.map_append]
   rw[List.replicate_succ',List.replicate_succ']
   rfl
 have:=hL u.regs.length (n+1) 0 (by omega) (by omega)
 have h0:Dc (n+1) u (n+1) 0 [] [] []=_:=this
 obtain⟨c,h1,h2⟩:=Aav (model:=model) (room:=room) hu hr (n+2) (by omega)
 have e:H7 (n+2) u=some (Su u,0):=by
  rw[H7,Hw,if_pos InU.mem,A4,As,h0,A4]
  simp only
  rw[Ad (by simp;omega)]
  rfl
 rw[e] at h1
 obtain⟨rfl,_⟩:=Prod.mk.inj (Option.some.inj h1)
 exact⟨e,h2⟩
theorem Ahf (n:Nat) (hu:C7 u=true) (hlu:G6 u=true) (hm:1≤model∧model≤3) (hr:1≤room∧room≤4) (b:Nat) (hb:b≤1000) (hn:4000 < n) :
 ∀ (f k i:Nat) (s s':Fd),f≤k→i≤s.L.length→Adx u model room s (28*i)→Z5 u model room b f i s=some s'→Gv n u model room (b:Int) k (i:Int) s.L s.P s.B s.E=some (.out (s'.L,s'.P,s'.B,s'.E))∧Adx u model room s' (28*s'.L.length):=by
 intro f
 induction f with
 | zero=>intro k i s s' _ _ _ h;cases h
 | succ f ih =>
  intro k i s s' hk hi hf h
  obtain⟨k,rfl⟩:∃ j,k=j+1:=⟨k - 1,by omega⟩
  rw[Z5] at h
  by_cases hlt:i < s.L.length
  ·have hg:=A6 hlt
   rw[hg] at h
   dsimp only at h
   cases hx:A0o u model room b i s.L[i] (Nd u s.L[i] model room) s with
   | none=>rw[hx] at h;cases h
   | some s1 =>
    rw[hx,A4] at h
    have hc:=hf.ok _ (List.getElem_mem hlt)
    have h28:=Vm hu model
    obtain⟨m1,m2⟩:=A1z (u:=u) (c:=s.L[i]) (model:=model) (room:=room) (agN u model) 0
    have hle:=hf.le
    have hll:=hf.ll
    obtain⟨g1,g2,g3,g4⟩:=Ak5 n hu hlu hm hr b hb (by omega) i s.L[i] hc (Nd u s.L[i] model room) (fun a ha=>by obtain⟨z,e,hz,he⟩:=m2 a ha;exact⟨z,e,by omega,he⟩) (by unfold Nd;omega) (Nd u s.L[i] model room).length n 0 s (by omega) (by unfold Nd;omega) hg ⟨hf.ok,hf.lp,hf.lb,by omega,hll⟩ s1 (by rw[List.drop_zero];exact hx)
    have g1':G5 n u model room (b:Int) (i:Int) (Nd u s.L[i] model room) n 0 s.L s.P s.B s.E=_:=g1
    have hml:(Nd u s.L[i] model room).length≤28:=by unfold Nd;omega
    obtain⟨q1,q2⟩:=ih k (i+1) s1 s' (by omega) (by omega) ⟨g2.ok,g2.lp,g2.lb,by omega,g2.ll⟩ h
    rw[Gv,Ad (by omega),Bu hlt,A4,Aih n hu hlu hm hr hc (by omega),A4,g1',A4,Be i (by omega)]
    exact⟨q1,q2⟩
  ·have hg:s.L[i]?=none:=List.getElem?_eq_none (by omega)
   rw[hg] at h
   obtain rfl:=Option.some.inj h
   rw[Gv,Ap (by omega)]
   exact⟨rfl,hf.ok,hf.lp,hf.lb,by have:=hf.le;omega,hf.ll⟩
end
def W3 (l:List A9) (i:Nat):List A9:=l.filter fun e=>e.C2==(i:Int)
def B9 (N:Nat) (l:List A9):List A9:=(List.range N).flatMap (W3 l)
def T9 (N:Nat) (e:A9):Prop:=0≤e.C2∧e.C2 < N∧0≤e.Aw∧e.Aw < N∧0≤e.Aj
def Cq (N:Nat) (l:List A9):Aq:=⟨(List.range (N+1)).map fun i=>((B9 i l).length:Int),(B9 N l).map A9.Aj,(B9 N l).map A9.Aw⟩
theorem Ku (i:Nat) (l:List A9):B9 (i+1) l=B9 i l++W3 l i:=by
 unfold B9
 rw[List.range_succ,List.flatMap_append];simp
theorem A6p (l:List A9):∀ N,(B9 N l).length≤l.length:=by
 intro N
 have:∀ N,(B9 N l).length≤(l.filter fun e=>decide (e.C2 < (N:Int))).length:=by
  intro N
  induction N with
  | zero=>simp[B9]
  | succ N ih =>
   rw[Ku,List.length_append]
   have h1:∀ l:List A9,(l.filter fun e=>decide (e.C2 < (N:Int))).length+(W3 l N).length≤(l.filter fun e=>decide (e.C2 < ((N+1:Nat):Int))).length:=by
    intro l
    induction l with
    | nil=>simp[W3]
    | cons e l ih =>
     unfold W3 at ih ⊢
     simp only[List.filter_cons]
     by_cases c1:e.C2 < (N:Int)
     ·have c2:(e.C2==(N:Int))=false:=Cg.2 (by omega)
      have c3:e.C2 < ((N+1:Nat):Int):=by omega
      simp only[c1,c2,c3,decide_true,if_true,Bool.false_eq_true,if_false,List.length_cons];omega
     ·by_cases c2:e.C2=(N:Int)
      ·have c3:e.C2 < ((N+1:Nat):Int):=by omega
       simp only[c1,c3,beq_iff_eq.2 c2,decide_true,decide_false,if_true,Bool.false_eq_true,if_false,List.length_cons];omega
      ·have c3:¬ e.C2 < ((N+1:Nat):Int):=by omega
       simp only[c1,c3,Cg.2 c2,decide_false,Bool.false_eq_true,if_false];omega
   have:=h1 l
   omega
 exact Nat.le_trans (this N) (List.length_filter_le _ _)
theorem Xr (n:Nat) (N:Nat) (l:List A9) (hN:N≤2000) (hl:l.length≤30000) (he:∀ e ∈ l,T9 N e) (hn:40000 < n):I3 n (N:Int) l=some (Cq N l,0):=by
 obtain⟨n,rfl⟩:∃ j,n=j+1:=⟨n - 1,by omega⟩
 have h0:∀ (j k i:Nat),i+j=l.length→j < k→Fj n (N:Int) l k (i:Int)=some (.out ()):=by
  intro j
  induction j with
  | zero =>
   intro k i hi hk
   obtain⟨k,rfl⟩:∃ j,k=j+1:=⟨k - 1,by omega⟩
   rw[Fj,Ap (by omega)]
  | succ j ih =>
   intro k i hi hk
   obtain⟨k,rfl⟩:∃ j,k=j+1:=⟨k - 1,by omega⟩
   have hlt:i < l.length:=by omega
   obtain⟨e1,e2,e3,e4,e5⟩:=he _ (List.getElem_mem hlt)
   rw[Fj,Ad (by omega),Bu hlt]
   simp only[A4]
   rw[Ap (by omega),Ap (by omega),Ap (by omega),Ap (by omega),Ap (by omega),Be i (by omega)]
   exact ih k (i+1) (by omega) (by omega)
 have h2:∀ (s:Nat) (j k i:Nat) (A T:List Int),i+j=l.length→j < k→A.length≤1000000+i→T.length≤1000000+i→Eg n l (s:Int) k (i:Int) A T=some (.out (A++((l.drop i).filter fun e=>e.C2==(s:Int)).map A9.Aj,T++((l.drop i).filter fun e=>e.C2==(s:Int)).map A9.Aw)):=by
  intro s j
  induction j with
  | zero =>
   intro k i A T hi hk _ _
   obtain⟨k,rfl⟩:∃ j,k=j+1:=⟨k - 1,by omega⟩
   rw[Eg,Ap (by omega),List.drop_of_length_le (by omega)];simp
  | succ j ih =>
   intro k i A T hi hk hA hT
   obtain⟨k,rfl⟩:∃ j,k=j+1:=⟨k - 1,by omega⟩
   have hlt:i < l.length:=by omega
   rw[Eg,Ad (by omega),Bu hlt]
   simp only[A4]
   rw[List.drop_eq_getElem_cons hlt,List.filter_cons]
   cases hb:(l[i].C2==(s:Int)) with
   | true =>
    rw[As,Ad (by omega),Ad (by omega),Be i (by omega),ih k (i+1) _ _ (by omega) (by omega) (by simp;omega) (by simp;omega)]
    simp
   | false =>
    rw[B3,Be i (by omega),ih k (i+1) _ _ (by omega) (by omega) (by omega) (by omega)]
    simp
 have h1:∀ (j k i:Nat),i+j=N→j < k→Fm n (N:Int) l k (i:Int) ((List.range (i+1)).map fun i=>((B9 i l).length:Int)) ((B9 i l).map A9.Aj) ((B9 i l).map A9.Aw)=some (.out ((Cq N l).Am,(Cq N l).Aj,(Cq N l).Aw)):=by
  intro j
  induction j with
  | zero =>
   intro k i hi hk
   obtain⟨k,rfl⟩:∃ j,k=j+1:=⟨k - 1,by omega⟩
   obtain rfl:i=N:=by omega
   rw[Fm,Ap (by omega)]
   rfl
  | succ j ih =>
   intro k i hi hk
   obtain⟨k,rfl⟩:∃ j,k=j+1:=⟨k - 1,by omega⟩
   have hs:=A6p l i
   have:=h2 i l.length n 0 ((B9 i l).map A9.Aj) ((B9 i l).map A9.Aw) (by omega) (by omega) (by simp;omega) (by simp;omega)
   rw[List.drop_zero] at this
   have this:Eg n l (i:Int) n 0 ((B9 i l).map A9.Aj) ((B9 i l).map A9.Aw)=_:=this
   rw[Fm,Ad (by omega),this,A4]
   dsimp only
   rw[Ad (by simp;omega),Be i (by omega),← ih k (i+1) (by omega) (by omega)]
   rw[List.range_succ (n:=i+1),List.map_append,Ku]
   simp[W3,Ku]
 have h0':Fj n (N:Int) l n 0=some (.out ()):=h0 l.length n 0 (by omega) (by omega)
 have h1':Fm n (N:Int) l n 0 [0] [] []=_:=h1 N n 0 (by omega) (by omega)
 rw[I3,Ap (by omega),Ap (by omega),h0',A4]
 dsimp only
 rw[h1']
 rfl
section
variable {u:Ak} [InU u] {model room:Int}
theorem Ar4 (n:Nat) (hu:C7 u=true) (hlu:G6 u=true) (hm:1≤model∧model≤3) (hr:1≤room∧room≤4) (b:Nat) (hb0:1≤b) (hb:b≤1000) (hn:50000 < n) (s:Fd) (h:Z5 u model room b 1000 0 ⟨[Su u],[-1],[-1],[]⟩=some s) (he:∀ e ∈ s.E,T9 s.L.length e) :
 Lm n u model room (b:Int)=some (⟨s.L,Cq s.L.length s.E,s.P,s.B⟩,0)∧∀ c ∈ s.L,D2 u c model room:=by
 obtain⟨n,rfl⟩:∃ j,n=j+2:=⟨n - 2,by omega⟩
 obtain⟨h1,h2⟩:=Apl (model:=model) (room:=room) hu hr (n+1) (by omega)
 obtain⟨g1,g2⟩:=Ahf (n+1) hu hlu hm hr b hb (by omega) 1000 (n+1) 0 ⟨[Su u],[-1],[-1],[]⟩ s (by omega) (by simp) ⟨fun c hc=>by simp at hc;rw[hc];exact h2,rfl,rfl,by simp,by simp⟩ h
 have g1':Gv (n+1) u model room (b:Int) (n+1) 0 [Su u] [-1] [-1] []=_:=g1
 have hll:=g2.ll;have hle:=g2.le
 refine⟨?_,g2.ok⟩
 rw[Lm,h1,A4,show((0:Int) != 0)=false from rfl,B3,Ap (by omega),Ap (by omega),Ap (by omega),Ap (by omega),Ap (by omega),Ap (by omega)]
 simp only
 rw[g1',A4]
 simp only
 rw[Xr (n+1) s.L.length s.E (by omega) (by omega) he (by omega)]
 rfl
end
def rkL (R:List Nat) (i:Int):Nat:=R.getD i.toNat 0
def A1j (R:List Nat) (T:List (Nat×Nat)) (E:List A9):Bool :=
 E.all fun e=>decide (rkL R e.Aw < rkL R e.C2) || (rkL R e.Aw==rkL R e.C2&&(match T.lookup (rkL R e.C2) with | some a=>e.Aj != (a:Int) | none=>false))
def A9e (R:List Nat) (T:List (Nat×Nat)) (ag:Nat) (en:Nat→Nat→Bool) (N:Nat):Bool :=
 (List.range N).all fun i=>match T.lookup (rkL R i) with | some a=>decide (a < ag)&&en i a | none=>true
def Qm (E:List A9) (l:List Int) (a:Int):Bool:=E.any fun e=>e.Aj==a&&l.contains e.C2&&l.contains e.Aw
def A3r (E:List A9) (l:List Int):Bool:=E.any fun e=>l.contains e.C2&&l.contains e.Aw
def Xp (R:List Nat) (N:Nat) (l:List Int):Prop:=(∀ i ∈ l,0≤i∧i < N)∧∀ i ∈ l,∀ k ∈ l,rkL R i=rkL R k
section
variable {R:List Nat} {T:List (Nat×Nat)} {E:List A9} {ag N:Nat} {en:Nat→Nat→Bool} {l:List Int}
theorem A0f (h1:A1j R T E=true) (h2:A9e R T ag en N=true) (hl:Xp R N l) (hc:A3r E l=true) :
 ∃ a,a < ag∧Qm E l (a:Int)=false∧∀ i ∈ l,en i.toNat a=true:=by
 obtain⟨e,he,hw⟩:=List.any_eq_true.1 hc
 simp only[A8,List.contains_iff_mem] at hw
 have hr:=hl.2 _ hw.1 _ hw.2
 have q:=List.all_eq_true.1 h1 e he
 rw[decide_eq_false (by omega),Bool.false_or,A8] at q
 cases hT:T.lookup (rkL R e.C2) with
 | none=>rw[hT] at q;exact absurd q.2 (by simp)
 | some a =>
  have hn:∀ i ∈ l,a < ag∧en i.toNat a=true:=by
   intro i hi
   have:=hl.1 i hi
   have q:=List.all_eq_true.1 h2 i.toNat (List.mem_range.2 (by omega))
   rw[show((i.toNat:Nat):Int)=i by omega,← hl.2 _ hw.1 _ hi,hT] at q
   simpa using q
  refine⟨a,(hn _ hw.1).1,?_,fun i hi=>(hn i hi).2⟩
  cases hA:Qm E l (a:Int) with
  | false=>rfl
  | true =>
   obtain⟨x,hx,hy⟩:=List.any_eq_true.1 hA
   simp only[A8,List.contains_iff_mem,beq_iff_eq] at hy
   have q:=List.all_eq_true.1 h1 x hx
   have r1:=hl.2 _ hy.1.2 _ hy.2
   have r2:=hl.2 _ hw.1 _ hy.1.2
   rw[decide_eq_false (by omega),Bool.false_or,A8,← r2,hT] at q
   simp[hy.1.1] at q
theorem Aqx (h1:A1j R T E=true) {e:A9} (he:e ∈ E):rkL R e.Aw≤rkL R e.C2:=by
 have q:=List.all_eq_true.1 h1 e he
 rw[Bool.or_eq_true,A8,Ai,beq_iff_eq] at q
 omega
end
theorem A0k {l:List A9} {i:Nat} {e:A9}:e ∈ W3 l i↔e ∈ l∧e.C2=i:=by
 unfold W3;simp
theorem Og {N:Nat} {l:List A9} {e:A9} (he:∀ e ∈ l,T9 N e):e ∈ B9 N l↔e ∈ l:=by
 unfold B9
 rw[List.mem_flatMap]
 constructor
 ·rintro ⟨i,_,h⟩;exact(A0k.1 h).1
 ·intro h
  obtain⟨h1,h2,_⟩:=he e h
  exact⟨e.C2.toNat,List.mem_range.2 (by omega),A0k.2 ⟨h,by omega⟩⟩
theorem P5 (l:List A9) (i:Nat):∀ j,(B9 i l).length≤(B9 (i+j) l).length
 | 0=>Nat.le_refl _
 | j+1=>by
  have:=P5 l i j
  rw[← Nat.add_assoc,Ku,List.length_append];omega
theorem A22 (l:List A9) (i:Nat):∀ j,(B9 (i+j) l).take (B9 i l).length=B9 i l
 | 0=>List.take_length
 | j+1=>by
  rw[← Nat.add_assoc,Ku,List.take_append_of_le_length (P5 l i j),A22 l i j]
theorem Uj (l:List A9) {i N:Nat} (h:i≤N):(B9 N l).take (B9 i l).length=B9 i l:=by
 obtain⟨j,rfl⟩:∃ j,N=i+j:=⟨N - i,by omega⟩
 exact A22 l i j
theorem Zy (l:List A9) {i N:Nat} (h:i≤N):(B9 i l).length≤(B9 N l).length:=by
 obtain⟨j,rfl⟩:∃ j,N=i+j:=⟨N - i,by omega⟩
 exact P5 l i j
theorem Am9 (l:List A9) {i N k:Nat} (hi:i < N) (h1:(B9 i l).length≤k) (h2:k < (B9 (i+1) l).length):∃ e,(B9 N l)[k]?=some e∧e.C2=i:=by
 have e1:(B9 N l)[k]?=(B9 (i+1) l)[k]?:=by
  rw[← Uj l (show i+1≤N by omega),List.getElem?_take_of_lt h2]
 have e2:=e1
 rw[Ku,List.getElem?_append_right h1] at e1
 have h3:k - (B9 i l).length < (W3 l i).length:=by rw[Ku,List.length_append] at h2;omega
 rw[A6 h3] at e1
 exact⟨_,e1,(A0k.1 (List.getElem_mem h3)).2⟩
structure GOk (N:Nat) (E:List A9):Prop where
 hN:N≤2000
 hE:E.length≤30000
 he:∀ e ∈ E,T9 N e
section
variable {N:Nat} {E:List A9}
theorem GOk.len (hg:GOk N E):(B9 N E).length≤30000:=Nat.le_trans (A6p E N) hg.hE
theorem GOk.edge (hg:GOk N E) {e:A9} (h:e ∈ B9 N E):T9 N e:=hg.he e ((Og hg.he).1 h)
theorem Xg:(Cq N E).Am.length=N+1:=by simp[Cq]
theorem Nv {i:Nat} (h:i≤N):idx (Cq N E).Am (i:Int)=some ((B9 i E).length:Int):=by
 rw[Oo]
 show((List.range (N+1)).map fun i=>((B9 i E).length:Int))[i]?=_
 rw[List.getElem?_map,List.getElem?_range (by omega)];rfl
theorem A84 {k:Nat} {e:A9} (h:(B9 N E)[k]?=some e):idx (Cq N E).Aj (k:Int)=some e.Aj:=by
 rw[Oo]
 show((B9 N E).map A9.Aj)[k]?=_
 rw[List.getElem?_map,h];rfl
theorem Aos {k:Nat} {e:A9} (h:(B9 N E)[k]?=some e):idx (Cq N E).Aw (k:Int)=some e.Aw:=by
 rw[Oo]
 show((B9 N E).map A9.Aw)[k]?=_
 rw[List.getElem?_map,h];rfl
theorem A9s:(Cq N E).Aw.length=(B9 N E).length:=by simp[Cq]
theorem Ahs:(Cq N E).Aj.length=(B9 N E).length:=by simp[Cq]
theorem A1r (hg:GOk N E):IntKind.i64.wrap ((((Cq N E).Am.length:Nat):Int) - 1)=(N:Int):=by
 have:=hg.hN
 rw[Xg,G3 (by omega)];omega
theorem Oq (hg:GOk N E) (n:Nat) (hn:40000 < n):Ff n (Cq N E)=some true:=by
 obtain⟨n,rfl⟩:∃ j,n=j+1:=⟨n - 1,by omega⟩
 have hs:=hg.len
 have hN:=hg.hN
 have hw:=A1r hg
 have h0:∀ (j k i:Nat),i+j=N→j < k→Fi n (Cq N E) k (i:Int)=some (.out ()):=by
  intro j
  induction j with
  | zero =>
   intro k i hi hk
   obtain⟨k,rfl⟩:∃ j,k=j+1:=⟨k - 1,by omega⟩
   rw[Fi,hw,Ap (by omega)]
  | succ j ih =>
   intro k i hi hk
   obtain⟨k,rfl⟩:∃ j,k=j+1:=⟨k - 1,by omega⟩
   have:=P5 E i 1
   rw[Fi,hw,Ad (by omega),Be i (by omega),Nv (by omega),A4,Nv (by omega),A4,Ap (by omega)]
   exact ih k (i+1) (by omega) (by omega)
 have h1:∀ (j k i:Nat),i+j=(B9 N E).length→j < k→Fq n (Cq N E) k (i:Int)=some (.out ()):=by
  intro j
  induction j with
  | zero =>
   intro k i hi hk
   obtain⟨k,rfl⟩:∃ j,k=j+1:=⟨k - 1,by omega⟩
   rw[Fq,A9s,Ap (by omega)]
  | succ j ih =>
   intro k i hi hk
   obtain⟨k,rfl⟩:∃ j,k=j+1:=⟨k - 1,by omega⟩
   have hlt:i < (B9 N E).length:=by omega
   have hx:=A6 hlt
   obtain⟨e1,e2,e3,e4,e5⟩:=hg.edge (List.getElem_mem hlt)
   rw[Fq,A9s,Ad (by omega),Aos hx,A4,Ap (by omega),A4,hw,Ap (by omega),A84 hx,A4,Ap (by omega),Be i (by omega)]
   exact ih k (i+1) (by omega) (by omega)
 have h0':Fi n (Cq N E) n 0=_:=h0 N n 0 (by omega) (by omega)
 have h1':Fq n (Cq N E) n 0=_:=h1 (B9 N E).length n 0 (by omega) (by omega)
 have hz:idx (Cq N E).Am 0=some 0:=Nv (i:=0) (by omega)
 rw[Ff,hw,Ap (by omega),hz,A4,show((0:Int) != 0)=false from rfl,B3,Nv (Nat.le_refl _),A4,A9s,Ahs,Ap2,beq_self_eq_true,Bool.not_true,B3,B3,h0',A4]
 simp only
 rw[h1']
 rfl
theorem Qv (hg:GOk N E) (n:Nat) (hn:50000 < n):Gf n (Cq N E)=some (N:Int):=by
 obtain⟨n,rfl⟩:∃ j,n=j+1:=⟨n - 1,by omega⟩
 rw[Gf,Oq hg n (by omega),A4,As,A1r hg]
theorem Sg (hg:GOk N E) (n:Nat) (hn:50000 < n):Gn n (Cq N E)=some (B9 N E):=by
 obtain⟨n,rfl⟩:∃ j,n=j+1:=⟨n - 1,by omega⟩
 have hs:=hg.len
 have hN:=hg.hN
 have h1:∀ i,i < N→∀ (j k q:Nat),q+j=(B9 (i+1) E).length→(B9 i E).length≤q→j < k→Hn n (Cq N E) (i:Int) k (q:Int) ((B9 N E).take q)=some (.out (B9 (i+1) E)):=by
  intro i hi j
  have hm:=Zy E (show i+1≤N by omega)
  induction j with
  | zero =>
   intro k q hq hl hk
   obtain⟨k,rfl⟩:∃ j,k=j+1:=⟨k - 1,by omega⟩
   obtain rfl:q=(B9 (i+1) E).length:=by omega
   rw[Hn,Be i (by omega),Nv (by omega),A4,Ap (by omega),Uj E (by omega)]
  | succ j ih =>
   intro k q hq hl hk
   obtain⟨k,rfl⟩:∃ j,k=j+1:=⟨k - 1,by omega⟩
   obtain⟨e,hx,hf⟩:=Am9 E (N:=N) hi hl (by omega)
   have hb:(((B9 N E).take q).length+1)*25≤140737488355328:=by rw[List.length_take];omega
   rw[Hn,Be i (by omega),Nv (by omega),A4,Ad (by omega),A84 hx,A4,Aos hx,A4,Ad hb,Be q (by omega),← hf,← ih k (q+1) (by omega) (by omega) (by omega),List.take_add_one,hx,← hf]
   rfl
 have h0:∀ (j k i:Nat),i+j=N→j < k→Gu n (Cq N E) k (i:Int) (B9 i E)=some (.out (B9 N E)):=by
  intro j
  induction j with
  | zero =>
   intro k i hi hk
   obtain⟨k,rfl⟩:∃ j,k=j+1:=⟨k - 1,by omega⟩
   obtain rfl:i=N:=by omega
   rw[Gu,Be i (by omega),Xg,Ap (by omega)]
  | succ j ih =>
   intro k i hi hk
   obtain⟨k,rfl⟩:∃ j,k=j+1:=⟨k - 1,by omega⟩
   have hm:=P5 E i 1
   have hm':=Zy E (show i+1≤N by omega)
   have:=h1 i (by omega) ((B9 (i+1) E).length - (B9 i E).length) n (B9 i E).length (by omega) (by omega) (by omega)
   rw[Uj E (by omega)] at this
   rw[Gu,Be i (by omega),Xg,Ad (by omega),Nv (by omega),A4,this,A4]
   exact ih k (i+1) (by omega) (by omega)
 have h0':Gu n (Cq N E) n 0 []=_:=h0 N n 0 (by omega) (by omega)
 rw[Gn,Oq hg n (by omega),A4,As,h0']
 rfl
def J0 (l:List Bool) (x:Int):Bool:=(l[x.toNat]?).getD false
theorem A3i (l:List Bool) {x:Int} (hx:0≤x) (n:Nat) (hn:0 < n):Jl n l x=some (J0 l x):=by
 obtain⟨n,rfl⟩:∃ j,n=j+1:=⟨n - 1,by omega⟩
 rw[Jl,J0]
 by_cases h:x < (l.length:Int)
 ·have hl:x.toNat < l.length:=by omega
  rw[Ad h,P4 hx,A6 hl];rfl
 ·rw[Ap h,List.getElem?_eq_none (by omega)];rfl
def A1y (N:Nat) (E:List A9) (l:List Bool):List A9:=(B9 N E).filter fun e=>J0 l e.C2&&J0 l e.Aw
theorem GOk.keep (hg:GOk N E) (l:List Bool):GOk N (A1y N E l) :=
 ⟨hg.hN,Nat.le_trans (List.length_filter_le _ _) hg.len,fun e he=>hg.edge (List.mem_filter.1 he).1⟩
theorem Alt (hg:GOk N E) (l:List Bool) (n:Nat) (hn:60000 < n):Mi n (Cq N E) l=some (Cq N (A1y N E l)):=by
 obtain⟨n,rfl⟩:∃ j,n=j+1:=⟨n - 1,by omega⟩
 have hs:=hg.len
 have h0:∀ (j k i:Nat) (A:List A9),i+j=(B9 N E).length→j < k→A.length≤i→Ed n l (B9 N E) k (i:Int) A=some (.out (A++((B9 N E).drop i).filter fun e=>J0 l e.C2&&J0 l e.Aw)):=by
  intro j
  induction j with
  | zero =>
   intro k i A hi hk hA
   obtain⟨k,rfl⟩:∃ j,k=j+1:=⟨k - 1,by omega⟩
   rw[Ed,Ap (by omega),List.drop_of_length_le (by omega)];simp
  | succ j ih =>
   intro k i A hi hk hA
   obtain⟨k,rfl⟩:∃ j,k=j+1:=⟨k - 1,by omega⟩
   have hlt:i < (B9 N E).length:=by omega
   obtain⟨e1,e2,e3,e4,e5⟩:=hg.edge (List.getElem_mem hlt)
   rw[Ed,Ad (by omega),Bu hlt]
   simp only[A4]
   rw[A3i l e1 n (by omega),A3i l e3 n (by omega),List.drop_eq_getElem_cons hlt,List.filter_cons]
   simp only[A4]
   rw[Ad (show(A.length+1)*25≤140737488355328 by omega),Be i (by omega)]
   cases J0 l (B9 N E)[i].C2 with
   | false=>rw[B3,Bool.false_and,ih k (i+1) A (by omega) (by omega) (by omega)];simp
   | true =>
    cases J0 l (B9 N E)[i].Aw with
    | false=>rw[As,B3,Bool.and_false,ih k (i+1) A (by omega) (by omega) (by omega)];simp
    | true=>rw[As,As,Bool.and_true,ih k (i+1) _ (by omega) (by omega) (by simp;omega)];simp
 have h0':Ed n l (B9 N E) n 0 []=_:=h0 (B9 N E).length n 0 [] (by omega) (by omega) (by simp)
 rw[List.drop_zero,List.nil_append] at h0'
 have hk:=hg.keep l
 have hb:=Xr n N _ hk.hN hk.hE hk.he (by omega)
 rw[A1y] at hb ⊢
 rw[Mi,Oq hg n (by omega),A4,As,Sg hg n (by omega),A4,h0',A4]
 simp only
 rw[Qv hg n (by omega),A4,hb]
 rfl
theorem Ahz (hg:GOk N E) (l:List Bool) (n:Nat) (hn:60000 < n):Kk n (Cq N E) l=some (Cq N (A1y N E l)):=by
 obtain⟨n,rfl⟩:∃ j,n=j+1:=⟨n - 1,by omega⟩
 have hs:=hg.len
 have h0:∀ (j k i:Nat) (A:List A9),i+j=(B9 N E).length→j < k→A.length≤i→Do n l (B9 N E) k (i:Int) A=some (.out (A++((B9 N E).drop i).filter fun e=>J0 l e.C2&&J0 l e.Aw)):=by
  intro j
  induction j with
  | zero =>
   intro k i A hi hk hA
   obtain⟨k,rfl⟩:∃ j,k=j+1:=⟨k - 1,by omega⟩
   rw[Do,Ap (by omega),List.drop_of_length_le (by omega)];simp
  | succ j ih =>
   intro k i A hi hk hA
   obtain⟨k,rfl⟩:∃ j,k=j+1:=⟨k - 1,by omega⟩
   have hlt:i < (B9 N E).length:=by omega
   obtain⟨e1,e2,e3,e4,e5⟩:=hg.edge (List.getElem_mem hlt)
   rw[Do,Ad (by omega),Bu hlt]
   simp only[A4]
   rw[A3i l e1 n (by omega),A3i l e3 n (by omega),List.drop_eq_getElem_cons hlt,List.filter_cons]
   simp only[A4]
   rw[Ad (show(A.length+1)*25≤140737488355328 by omega),Be i (by omega)]
   cases J0 l (B9 N E)[i].C2 with
   | false=>rw[B3,Bool.false_and,ih k (i+1) A (by omega) (by omega) (by omega)];simp
   | true =>
    cases J0 l (B9 N E)[i].Aw with
    | false=>rw[As,B3,Bool.and_false,ih k (i+1) A (by omega) (by omega) (by omega)];simp
    | true=>rw[As,As,Bool.and_true,ih k (i+1) _ (by omega) (by omega) (by simp;omega)];simp
 have h0':Do n l (B9 N E) n 0 []=_:=h0 (B9 N E).length n 0 [] (by omega) (by omega) (by simp)
 rw[List.drop_zero,List.nil_append] at h0'
 have hk:=hg.keep l
 have hb:=Xr n N _ hk.hN hk.hE hk.he (by omega)
 rw[A1y] at hb ⊢
 rw[Kk,Oq hg n (by omega),A4,As,Sg hg n (by omega),A4,h0',A4]
 simp only
 rw[Qv hg n (by omega),A4,hb]
 rfl
end
section
variable {N:Nat} {E:List A9}
theorem Ajg {l:List Bool}:∀ {i:Nat},l[i]?=some false→(l.set i true).count true=l.count true+1:=by
 induction l with
 | nil=>intro i h;cases h
 | cons a l ih =>
  intro i h
  cases i with
  | zero=>cases h;simp
  | succ i =>
   have:=ih (i:=i) (by simpa using h)
   rw[List.set_cons_succ,List.count_cons,List.count_cons,this];omega
theorem Zm {l:List Bool} {x:Int} (h0:0≤x) (h1:x < (l.length:Int)):∃ b,idx l x=some b∧l[x.toNat]?=some b:=by
 have hl:x.toNat < l.length:=by omega
 exact⟨l[x.toNat],by rw[P4 h0,A6 hl],A6 hl⟩
def below (R:List Nat) (b:Nat) (o:List Bool):Prop:=∀ x:Nat,o[x]?=some true→rkL R (x:Int)≤b
theorem A6h {R:List Nat} {b:Nat} {o:List Bool} (h:below R b o) {i:Nat} (hi:rkL R (i:Int)≤b):below R b (o.set i true):=by
 intro x hx
 rw[List.getElem?_set] at hx
 split at hx
 ·rename_i e;rw[← e];exact hi
 ·exact h x hx
theorem Ahn (hg:GOk N E) {R:List Nat} (hR:∀ e ∈ E,rkL R e.Aw≤rkL R e.C2) {i:Nat} (hi:i < N) (n:Nat) (hn:60000 < n):∃ o,Lh n (Cq N E) [(i:Int)]=some o∧o.length=N∧below R (rkL R (i:Int)) o:=by
 obtain⟨n,rfl⟩:∃ j,n=j+3:=⟨n - 3,by omega⟩
 have hs:=hg.len
 have hN:=hg.hN
 have h2:∀ (j k q:Nat) (m:Bool) (o:List Bool),q+j=(B9 N E).length→j < k→o.length=N→below R (rkL R (i:Int)) o→∃ m' o',Dx (n+2) (B9 N E) k m (q:Int) o=some (.out (m',o'))∧o'.length=N∧below R (rkL R (i:Int)) o'∧o.count true≤o'.count true∧(m'=true→m=true∨o.count true < o'.count true):=by
  intro j
  induction j with
  | zero =>
   intro k q m o hq hk ho hb
   obtain⟨k,rfl⟩:∃ j,k=j+1:=⟨k - 1,by omega⟩
   rw[Dx,Ap (by omega)]
   exact⟨m,o,rfl,ho,hb,Nat.le_refl _,fun h=>.inl h⟩
  | succ j ih =>
   intro k q m o hq hk ho hb
   obtain⟨k,rfl⟩:∃ j,k=j+1:=⟨k - 1,by omega⟩
   have hlt:q < (B9 N E).length:=by omega
   have hmem:=List.getElem_mem hlt
   obtain⟨e1,e2,e3,e4,e5⟩:=hg.edge hmem
   have hr:=hR _ ((Og hg.he).1 hmem)
   rw[Dx,Ad (by omega),Bu hlt]
   simp only[A4]
   generalize (B9 N E)[q]=e at *
   obtain⟨b1,g1,g1'⟩:=Zm (l:=o) e1 (by omega)
   obtain⟨b2,g2,g2'⟩:=Zm (l:=o) e3 (by omega)
   rw[g1,A4,g2,A4,A4,Be q (by omega)]
   cases b1 with
   | false=>exact ih k (q+1) m o (by omega) (by omega) ho hb
   | true =>
    cases b2 with
    | true=>exact ih k (q+1) m o (by omega) (by omega) ho hb
    | false =>
     have h1:=hb _ g1'
     rw[show((e.C2.toNat:Nat):Int)=e.C2 by omega] at h1
     obtain⟨m',o',k1,k2,k3,k4,k5⟩:=ih k (q+1) true (o.set e.Aw.toNat true) (by omega) (by omega) (by rw[List.length_set];exact ho) (A6h hb (by rw[show((e.Aw.toNat:Nat):Int)=e.Aw by omega];omega))
     rw[Ajg g2'] at k4
     exact⟨m',o',k1,k2,k3,by omega,fun _=>.inr (by omega)⟩
 have h1:∀ (j k:Nat) (m:Bool) (o:List Bool),N < o.count true+j→j < k→o.length=N→below R (rkL R (i:Int)) o→∃ o',Gi (n+2) (B9 N E) k m o=some (.out o')∧o'.length=N∧below R (rkL R (i:Int)) o':=by
  intro j
  induction j with
  | zero =>
   intro k m o hc hk ho hb
   have:=List.count_le_length (a:=true) (l:=o)
   omega
  | succ j ih =>
   intro k m o hc hk ho hb
   obtain⟨k,rfl⟩:∃ j,k=j+2:=⟨k - 2,by omega⟩
   rw[Gi]
   cases m with
   | false=>exact⟨o,rfl,ho,hb⟩
   | true =>
    obtain⟨m',o',k1,k2,k3,k4,k5⟩:=h2 (B9 N E).length (n+2) 0 false o (by omega) (by omega) ho hb
    have k1':Dx (n+2) (B9 N E) (n+2) false 0 o=_:=k1
    rw[As,k1',A4]
    simp only
    cases m' with
    | false=>rw[Gi];exact⟨o',rfl,k2,k3⟩
    | true =>
     refine ih (k+1) true o' ?_ (by omega) k2 k3
     rcases k5 rfl with h | h
     ·cases h
     ·omega
 have hr0:Ej (n+2) [(i:Int)] (N:Int) (n+2) 0 (List.replicate N false)=some (.out ((List.replicate N false).set i true)):=by
  rw[Ej,show decide ((0:Int) < (([(i:Int)].length:Nat):Int))=true from rfl,As,show idx [(i:Int)] 0=some (i:Int) from rfl,A4,Ad (by omega),A4,Ad (by omega),A4,Bu (by simp;omega),A4,show IntKind.i64.wrap ((0:Int)+1)=1 from Be 0 (by omega),Ej,show decide ((1:Int) < (([(i:Int)].length:Nat):Int))=false from rfl,B3,Int.toNat_natCast]
 have hb0:below R (rkL R (i:Int)) ((List.replicate N false).set i true):=by
  refine A6h (fun x hx=>?_) (Nat.le_refl _)
  rw[List.getElem?_replicate] at hx
  split at hx<;>cases hx
 obtain⟨o,q1,q2,q3⟩:=h1 (N+1) (n+2) true _ (by omega) (by omega) (by rw[List.length_set,List.length_replicate]) hb0
 refine⟨o,?_,q2,q3⟩
 rw[Lh,Qv hg (n+2) (by omega),A4,Oq hg (n+2) (by omega),A4,As,show(decide ((0:Int)≤(N:Int))&&decide ((1:Int)*(N:Int)≤140737488355328))=true by simp only[A8,Ai];omega,As,Int.toNat_natCast,hr0,A4]
 simp only
 rw[Sg hg (n+2) (by omega),A4,q1]
 rfl
theorem Xw (hg:GOk N E) {R:List Nat} (hR:∀ e ∈ E,rkL R e.Aw≤rkL R e.C2) (n:Nat) (hn:70000 < n):∃ P,Hy n (Cq N E)=some P∧P.length=N∧∀ (x y:Nat) (p:Int),P[x]?=some p→P[y]?=some p→rkL R (x:Int)=rkL R (y:Int):=by
 obtain⟨n,rfl⟩:∃ j,n=j+1:=⟨n - 1,by omega⟩
 have hN:=hg.hN
 have h0:∀ (j k i:Nat) (W:List (List Bool)),i+j=N→j < k→W.length=i→(∀ (x:Nat) o,W[x]?=some o→o.length=N∧below R (rkL R (x:Int)) o)→∃ W',Fp n (Cq N E) (N:Int) k (i:Int) W=some (.out W')∧W'.length=N∧(∀ (x:Nat) o,W'[x]?=some o→o.length=N∧below R (rkL R (x:Int)) o):=by
  intro j
  induction j with
  | zero =>
   intro k i W hi hk hl hw
   obtain⟨k,rfl⟩:∃ j,k=j+1:=⟨k - 1,by omega⟩
   rw[Fp,Ap (by omega)]
   exact⟨W,rfl,by omega,hw⟩
  | succ j ih =>
   intro k i W hi hk hl hw
   obtain⟨k,rfl⟩:∃ j,k=j+1:=⟨k - 1,by omega⟩
   obtain⟨o,k1,k2,k3⟩:=Ahn hg hR (show i < N by omega) n (by omega)
   rw[Fp,Ad (by omega),k1,A4,Ad (show(W.length+1)*25≤140737488355328 by omega),Be i (by omega)]
   refine ih k (i+1) (W++[o]) (by omega) (by omega) (by simp;omega) (fun x o' hx=>?_)
   by_cases hxi:x < W.length
   ·rw[List.getElem?_append_left hxi] at hx;exact hw x o' hx
   ·rw[List.getElem?_append_right (by omega)] at hx
    cases hxx:x - W.length with
    | zero =>
     rw[hxx] at hx
     cases hx
     obtain rfl:x=i:=by omega
     exact⟨k2,k3⟩
    | succ z=>rw[hxx] at hx;cases hx
 obtain⟨W,w1,w2,w3⟩:=h0 N n 0 [] (by omega) (by omega) rfl (fun x o hx=>by cases hx)
 have w1':Fp n (Cq N E) (N:Int) n 0 []=_:=w1
 have h2:∀ (i:Nat) (O:List Int),i < N→O.length=i→∀ (j k q:Nat) (p:Int),q+j=i→j < k→(p= -1∨∃ y:Nat,O[y]?=some p∧rkL R (y:Int)=rkL R (i:Int))→∃ p',Dm n W (i:Int) O k p (q:Int)=some (.out p')∧(p'= -1∨∃ y:Nat,O[y]?=some p'∧rkL R (y:Int)=rkL R (i:Int)):=by
  intro i O hi hO j
  induction j with
  | zero =>
   intro k q p hq hk hp
   obtain⟨k,rfl⟩:∃ j,k=j+1:=⟨k - 1,by omega⟩
   rw[Dm,Ap (by omega)]
   exact⟨p,rfl,hp⟩
  | succ j ih =>
   intro k q p hq hk hp
   obtain⟨k,rfl⟩:∃ j,k=j+1:=⟨k - 1,by omega⟩
   rw[Dm,Ad (by omega),Be q (by omega)]
   have hiW:i < W.length:=by omega
   have hqW:q < W.length:=by omega
   obtain⟨a1,a2⟩:=w3 i _ (A6 hiW)
   obtain⟨c1,c2⟩:=w3 q _ (A6 hqW)
   have hqo:q < O.length:=by omega
   obtain⟨b1,g1,g1'⟩:=Zm (l:=W[i]) (x:=(q:Int)) (by omega) (by omega)
   obtain⟨b2,g2,g2'⟩:=Zm (l:=W[q]) (x:=(i:Int)) (by omega) (by omega)
   rw[Bu hiW,A4,g1,A4,Bu hqW,A4,g2,A4,Bu hqo,A4]
   by_cases hp0:p < 0
   ·rw[Ad hp0]
    cases b1 with
    | false=>exact ih k (q+1) p (by omega) (by omega) hp
    | true =>
     cases b2 with
     | false=>exact ih k (q+1) p (by omega) (by omega) hp
     | true =>
      have r1:=a2 q (by simpa using g1')
      have r2:=c2 i (by simpa using g2')
      exact ih k (q+1) _ (by omega) (by omega) (.inr ⟨q,A6 hqo,by omega⟩)
   ·rw[Ap hp0]
    exact ih k (q+1) p (by omega) (by omega) hp
 have h1:∀ (j k i x:Nat) (O:List Int),i+j=N→j < k→O.length=i→x≤i→(∀ (y:Nat) p,O[y]?=some p→0≤p∧p < (x:Int))→(∀ (y z:Nat) p,O[y]?=some p→O[z]?=some p→rkL R (y:Int)=rkL R (z:Int))→∃ P,Ef n (N:Int) W k (x:Int) (i:Int) O=some (.out P)∧P.length=N∧∀ (y z:Nat) p,P[y]?=some p→P[z]?=some p→rkL R (y:Int)=rkL R (z:Int):=by
  intro j
  induction j with
  | zero =>
   intro k i x O hi hk hO hx hp hq
   obtain⟨k,rfl⟩:∃ j,k=j+1:=⟨k - 1,by omega⟩
   rw[Ef,Ap (by omega)]
   exact⟨O,rfl,by omega,hq⟩
  | succ j ih =>
   intro k i x O hi hk hO hx hp hq
   obtain⟨k,rfl⟩:∃ j,k=j+1:=⟨k - 1,by omega⟩
   obtain⟨p',s1,s2⟩:=h2 i O (by omega) hO i n 0 (-1) (by omega) (by omega) (.inl rfl)
   have s1':Dm n W (i:Int) O n (-1) 0=_:=s1
   have hb:(O.length+1)*9≤140737488355328:=by omega
   rw[Ef,Ad (by omega),s1',A4]
   simp only
   rw[Ad hb,Be i (by omega),Be x (by omega),Ad hb]
   have snoc:∀ (q:Int) (y:Nat) (p:Int),(O++[q])[y]?=some p→(O[y]?=some p)∨(y=i∧p=q):=by
    intro q y p h
    by_cases hy:y < O.length
    ·rw[List.getElem?_append_left hy] at h;exact .inl h
    ·rw[List.getElem?_append_right (by omega)] at h
     cases hyy:y - O.length with
     | zero=>rw[hyy] at h;cases h;exact .inr ⟨by omega,rfl⟩
     | succ z=>rw[hyy] at h;cases h
   by_cases hp0:p' < 0
   ·rw[Ad hp0]
    refine ih k (i+1) (x+1) _ (by omega) (by omega) (by simp;omega) (by omega) (fun y p h=>?_) (fun y z p h1 h2=>?_)
    ·rcases snoc _ _ _ h with h | ⟨_,rfl⟩
     ·have:=hp y p h;omega
     ·omega
    ·rcases snoc _ _ _ h1 with h1 | ⟨e1,rfl⟩
     ·rcases snoc _ _ _ h2 with h2 | ⟨e2,e3⟩
      ·exact hq y z p h1 h2
      ·have:=hp y p h1;omega
     ·rcases snoc _ _ _ h2 with h2 | ⟨e2,e3⟩
      ·have:=hp z _ h2;omega
      ·rw[e1,e2]
   ·rw[Ap hp0]
    obtain⟨w,ow,rw'⟩:∃ y:Nat,O[y]?=some p'∧rkL R (y:Int)=rkL R (i:Int):=by
     rcases s2 with h | h
     ·omega
     ·exact h
    refine ih k (i+1) x _ (by omega) (by omega) (by simp;omega) (by omega) (fun y p h=>?_) (fun y z p h1 h2=>?_)
    ·rcases snoc _ _ _ h with h | ⟨_,rfl⟩
     ·exact hp y p h
     ·exact hp w _ ow
    ·rcases snoc _ _ _ h1 with g1 | ⟨e1,e1'⟩
     ·rcases snoc _ _ _ h2 with g2 | ⟨e2,e2'⟩
      ·exact hq y z p g1 g2
      ·rw[e2,← rw'];exact hq y w p g1 (e2' ▸ ow)
     ·rcases snoc _ _ _ h2 with g2 | ⟨e2,e2'⟩
      ·rw[e1,← rw'];exact hq w z p (e1' ▸ ow) g2
      ·rw[e1,e2]
 obtain⟨P,p1,p2,p3⟩:=h1 N n 0 0 [] (by omega) (by omega) rfl (by omega) (fun y p h=>by cases h) (fun y z p h=>by cases h)
 have p1':Ef n (N:Int) W n 0 0 []=_:=p1
 refine⟨P,?_,p2,p3⟩
 rw[Hy,Qv hg n (by omega),A4,w1',A4]
 simp only
 rw[p1']
 rfl
end
def LvlOk (R:List Nat) (N:Nat) (I:List Bool) (L:List (List Int)):Prop:=L.length≤N∧∀ l ∈ L,l≠[]∧l.length≤N∧Xp R N l∧∀ x ∈ l,J0 I x=true
theorem A8p {R:List Nat} {N:Nat} {P:List Int} {I:List Bool} {l:List Int} {p:Int} (h1:P.length=N) (h2:∀ (x y:Nat) (p:Int),P[x]?=some p→P[y]?=some p→rkL R (x:Int)=rkL R (y:Int)) (h3:∀ x ∈ l,∃ y:Nat,x=(y:Int)∧P[y]?=some p∧I[y]?=some true):Xp R N l:=by
 refine⟨fun x hx=>?_,fun x hx z hz=>?_⟩
 ·obtain⟨y,rfl,h,_⟩:=h3 x hx
  have:=(List.getElem?_eq_some_iff.1 h).1
  omega
 ·obtain⟨y,rfl,h,_⟩:=h3 x hx
  obtain⟨y',rfl,h',_⟩:=h3 z hz
  exact h2 y y' p h h'
theorem LvlOk.none {R:List Nat} {N:Nat} {I:List Bool} {L:List (List Int)} (h:LvlOk R N I L) (hI:∀ x,J0 I x=false):L=[]:=by
 cases L with
 | nil=>rfl
 | cons l L =>
  obtain⟨h1,_,_,h2⟩:=h.2 l List.mem_cons_self
  cases l with
  | nil=>exact absurd rfl h1
  | cons x l=>have:=h2 x List.mem_cons_self;rw[hI] at this;cases this
section
variable {N:Nat} {E:List A9}
theorem A2q (P:List Int) (I:List Bool) (hP:P.length≤2000) (n:Nat) (hn:5000 < n):∃ L,Ih n P I=some L∧L.length≤P.length∧∀ l ∈ L,l≠[]∧l.length≤P.length∧∃ p,∀ x ∈ l,∃ y:Nat,x=(y:Int)∧P[y]?=some p∧I[y]?=some true:=by
 obtain⟨n,rfl⟩:∃ j,n=j+1:=⟨n - 1,by omega⟩
 have h1:∀ (p:Nat) (j k i:Nat) (A:List Int),i+j=P.length→j < k→A.length≤i→(∀ x ∈ A,∃ y:Nat,x=(y:Int)∧P[y]?=some (p:Int)∧I[y]?=some true)→∃ A',Dd n P I (p:Int) k (i:Int) A=some (.out A')∧A'.length≤P.length∧∀ x ∈ A',∃ y:Nat,x=(y:Int)∧P[y]?=some (p:Int)∧I[y]?=some true:=by
  intro p j
  induction j with
  | zero =>
   intro k i A hi hk hA hx
   obtain⟨k,rfl⟩:∃ j,k=j+1:=⟨k - 1,by omega⟩
   rw[Dd,Ap (by omega)]
   exact⟨A,rfl,by omega,hx⟩
  | succ j ih =>
   intro k i A hi hk hA hx
   obtain⟨k,rfl⟩:∃ j,k=j+1:=⟨k - 1,by omega⟩
   have hlt:i < P.length:=by omega
   rw[Dd,Ad (by omega),Bu hlt,A4,Be i (by omega)]
   have skip:=ih k (i+1) A (by omega) (by omega) (by omega) hx
   by_cases hp:P[i]=(p:Int)
   ·rw[beq_iff_eq.2 hp,As]
    by_cases hI:i < I.length
    ·rw[Ad (by omega),Bu hI,A4]
     cases hb:I[i] with
     | false=>exact skip
     | true =>
      rw[As,Ad (show(A.length+1)*9≤140737488355328 by omega)]
      refine ih k (i+1) _ (by omega) (by omega) (by simp;omega) (fun x h=>?_)
      rcases List.mem_append.1 h with h | h
      ·exact hx x h
      ·obtain rfl:x=(i:Int):=by simpa using h
       exact⟨i,rfl,by rw[A6 hlt,hp],by rw[A6 hI,hb]⟩
    ·rw[Ap (by omega)];exact skip
   ·rw[Cg.2 hp,B3];exact skip
 have h0:∀ (j k p:Nat) (L:List (List Int)),p+j=P.length→j < k→L.length≤p→(∀ l ∈ L,l≠[]∧l.length≤P.length∧∃ p,∀ x ∈ l,∃ y:Nat,x=(y:Int)∧P[y]?=some p∧I[y]?=some true)→∃ L',Dz n P I k (p:Int) L=some (.out L')∧L'.length≤P.length∧∀ l ∈ L',l≠[]∧l.length≤P.length∧∃ p,∀ x ∈ l,∃ y:Nat,x=(y:Int)∧P[y]?=some p∧I[y]?=some true:=by
  intro j
  induction j with
  | zero =>
   intro k p L hi hk hL hx
   obtain⟨k,rfl⟩:∃ j,k=j+1:=⟨k - 1,by omega⟩
   rw[Dz,Ap (by omega)]
   exact⟨L,rfl,by omega,hx⟩
  | succ j ih =>
   intro k p L hi hk hL hx
   obtain⟨k,rfl⟩:∃ j,k=j+1:=⟨k - 1,by omega⟩
   obtain⟨A,a1,a2,a3⟩:=h1 p P.length n 0 [] (by omega) (by omega) (by simp) (fun x h=>by cases h)
   have a1':Dd n P I (p:Int) n 0 []=_:=a1
   rw[Dz,Ad (by omega),a1',A4]
   simp only
   rw[Be p (by omega)]
   by_cases hA:0 < A.length
   ·rw[Ad (by omega),Ad (show(L.length+1)*25≤140737488355328 by omega)]
    refine ih k (p+1) _ (by omega) (by omega) (by simp;omega) (fun l h=>?_)
    rcases List.mem_append.1 h with h | h
    ·exact hx l h
    ·obtain rfl:l=A:=by simpa using h
     exact⟨fun e=>by rw[e] at hA;simp at hA,a2,_,a3⟩
   ·rw[Ap (by omega)]
    exact ih k (p+1) L (by omega) (by omega) (by omega) hx
 obtain⟨L,l1,l2,l3⟩:=h0 P.length n 0 [] (by omega) (by omega) (by simp) (fun l h=>by cases h)
 have l1':Dz n P I n 0 []=_:=l1
 refine⟨L,?_,l2,l3⟩
 rw[Ih,l1']
 rfl
theorem A1n (hg:GOk N E) {R:List Nat} (hR:∀ e ∈ E,rkL R e.Aw≤rkL R e.C2) (I:List Bool) (n:Nat) (hn:80000 < n):∃ L,He n (Cq N E) I=some L∧LvlOk R N I L:=by
 obtain⟨n,rfl⟩:∃ j,n=j+1:=⟨n - 1,by omega⟩
 have hk:=hg.keep I
 have hN:=hg.hN
 obtain⟨P,p1,p2,p3⟩:=Xw hk (R:=R) (fun e he=>hR e ((Og hg.he).1 (List.mem_filter.1 he).1)) n (by omega)
 obtain⟨L,l1,l2,l3⟩:=A2q P I (by omega) n (by omega)
 refine⟨L,?_,by omega,fun l hl=>?_⟩
 ·rw[He,Alt hg I n (by omega),A4,p1,A4,l1];rfl
 ·obtain⟨q1,q2,p,q3⟩:=l3 l hl
  exact⟨q1,by omega,A8p p2 p3 q3,fun x hx=>by obtain⟨y,rfl,_,h⟩:=q3 x hx;rw[J0,Int.toNat_natCast,h];rfl⟩
theorem Ab9 (P:List Int) (I:List Bool) (hP:P.length≤2000) (n:Nat) (hn:5000 < n):∃ L,Is n P I=some L∧L.length≤P.length∧∀ l ∈ L,l≠[]∧l.length≤P.length∧∃ p,∀ x ∈ l,∃ y:Nat,x=(y:Int)∧P[y]?=some p∧I[y]?=some true:=by
 obtain⟨n,rfl⟩:∃ j,n=j+1:=⟨n - 1,by omega⟩
 have h1:∀ (p:Nat) (j k i:Nat) (A:List Int),i+j=P.length→j < k→A.length≤i→(∀ x ∈ A,∃ y:Nat,x=(y:Int)∧P[y]?=some (p:Int)∧I[y]?=some true)→∃ A',Cy n P I (p:Int) k (i:Int) A=some (.out A')∧A'.length≤P.length∧∀ x ∈ A',∃ y:Nat,x=(y:Int)∧P[y]?=some (p:Int)∧I[y]?=some true:=by
  intro p j
  induction j with
  | zero =>
   intro k i A hi hk hA hx
   obtain⟨k,rfl⟩:∃ j,k=j+1:=⟨k - 1,by omega⟩
   rw[Cy,Ap (by omega)]
   exact⟨A,rfl,by omega,hx⟩
  | succ j ih =>
   intro k i A hi hk hA hx
   obtain⟨k,rfl⟩:∃ j,k=j+1:=⟨k - 1,by omega⟩
   have hlt:i < P.length:=by omega
   rw[Cy,Ad (by omega),Bu hlt,A4,Be i (by omega)]
   have skip:=ih k (i+1) A (by omega) (by omega) (by omega) hx
   by_cases hp:P[i]=(p:Int)
   ·rw[beq_iff_eq.2 hp,As]
    by_cases hI:i < I.length
    ·rw[Ad (by omega),Bu hI,A4]
     cases hb:I[i] with
     | false=>exact skip
     | true =>
      rw[As,Ad (show(A.length+1)*9≤140737488355328 by omega)]
      refine ih k (i+1) _ (by omega) (by omega) (by simp;omega) (fun x h=>?_)
      rcases List.mem_append.1 h with h | h
      ·exact hx x h
      ·obtain rfl:x=(i:Int):=by simpa using h
       exact⟨i,rfl,by rw[A6 hlt,hp],by rw[A6 hI,hb]⟩
    ·rw[Ap (by omega)];exact skip
   ·rw[Cg.2 hp,B3];exact skip
 have h0:∀ (j k p:Nat) (L:List (List Int)),p+j=P.length→j < k→L.length≤p→(∀ l ∈ L,l≠[]∧l.length≤P.length∧∃ p,∀ x ∈ l,∃ y:Nat,x=(y:Int)∧P[y]?=some p∧I[y]?=some true)→∃ L',Dj n P I k (p:Int) L=some (.out L')∧L'.length≤P.length∧∀ l ∈ L',l≠[]∧l.length≤P.length∧∃ p,∀ x ∈ l,∃ y:Nat,x=(y:Int)∧P[y]?=some p∧I[y]?=some true:=by
  intro j
  induction j with
  | zero =>
   intro k p L hi hk hL hx
   obtain⟨k,rfl⟩:∃ j,k=j+1:=⟨k - 1,by omega⟩
   rw[Dj,Ap (by omega)]
   exact⟨L,rfl,by omega,hx⟩
  | succ j ih =>
   intro k p L hi hk hL hx
   obtain⟨k,rfl⟩:∃ j,k=j+1:=⟨k - 1,by omega⟩
   obtain⟨A,a1,a2,a3⟩:=h1 p P.length n 0 [] (by omega) (by omega) (by simp) (fun x h=>by cases h)
   have a1':Cy n P I (p:Int) n 0 []=_:=a1
   rw[Dj,Ad (by omega),a1',A4]
   simp only
   rw[Be p (by omega)]
   by_cases hA:0 < A.length
   ·rw[Ad (by omega),Ad (show(L.length+1)*25≤140737488355328 by omega)]
    refine ih k (p+1) _ (by omega) (by omega) (by simp;omega) (fun l h=>?_)
    rcases List.mem_append.1 h with h | h
    ·exact hx l h
    ·obtain rfl:l=A:=by simpa using h
     exact⟨fun e=>by rw[e] at hA;simp at hA,a2,_,a3⟩
   ·rw[Ap (by omega)]
    exact ih k (p+1) L (by omega) (by omega) (by omega) hx
 obtain⟨L,l1,l2,l3⟩:=h0 P.length n 0 [] (by omega) (by omega) (by simp) (fun l h=>by cases h)
 have l1':Dj n P I n 0 []=_:=l1
 refine⟨L,?_,l2,l3⟩
 rw[Is,l1']
 rfl
theorem Abu (hg:GOk N E) {R:List Nat} (hR:∀ e ∈ E,rkL R e.Aw≤rkL R e.C2) (I:List Bool) (n:Nat) (hn:80000 < n):∃ L,Ik n (Cq N E) I=some L∧LvlOk R N I L:=by
 obtain⟨n,rfl⟩:∃ j,n=j+1:=⟨n - 1,by omega⟩
 have hk:=hg.keep I
 have hN:=hg.hN
 obtain⟨P,p1,p2,p3⟩:=Xw hk (R:=R) (fun e he=>hR e ((Og hg.he).1 (List.mem_filter.1 he).1)) n (by omega)
 obtain⟨L,l1,l2,l3⟩:=Ab9 P I (by omega) n (by omega)
 refine⟨L,?_,by omega,fun l hl=>?_⟩
 ·rw[Ik,Ahz hg I n (by omega),A4,p1,A4,l1];rfl
 ·obtain⟨q1,q2,p,q3⟩:=l3 l hl
  exact⟨q1,by omega,A8p p2 p3 q3,fun x hx=>by obtain⟨y,rfl,_,h⟩:=q3 x hx;rw[J0,Int.toNat_natCast,h];rfl⟩
theorem A9a (hg:GOk N E) {R:List Nat} (hR:∀ e ∈ E,rkL R e.Aw≤rkL R e.C2) (n:Nat) (hn:80000 < n):∃ I L,Kj n (Cq N E)=some L∧LvlOk R N I L:=by
 obtain⟨n,rfl⟩:∃ j,n=j+1:=⟨n - 1,by omega⟩
 have hN:=hg.hN
 obtain⟨P,p1,p2,p3⟩:=Xw hg hR n (by omega)
 have h0:∀ (j k i:Nat) (o:List Bool),i+j=P.length→j < k→o.length=P.length→∃ o',Eo n P k (i:Int) o=some (.out o'):=by
  intro j
  induction j with
  | zero =>
   intro k i o hi hk ho
   obtain⟨k,rfl⟩:∃ j,k=j+1:=⟨k - 1,by omega⟩
   rw[Eo,Ap (by omega)]
   exact⟨o,rfl⟩
  | succ j ih =>
   intro k i o hi hk ho
   obtain⟨k,rfl⟩:∃ j,k=j+1:=⟨k - 1,by omega⟩
   rw[Eo,Ad (by omega),Bu (by omega),A4,Be i (by omega),Int.toNat_natCast]
   exact ih k (i+1) _ (by omega) (by omega) (by rw[List.length_set];exact ho)
 obtain⟨I,i1⟩:=h0 P.length n 0 (List.replicate P.length false) (by omega) (by omega) (by simp)
 have i1':Eo n P n 0 (List.replicate P.length false)=_:=i1
 obtain⟨L,l1,l2,l3⟩:=A2q P I (by omega) n (by omega)
 refine⟨I,L,?_,by omega,fun l hl=>?_⟩
 ·rw[Kj,p1,A4,show(decide ((0:Int)≤((P.length:Nat):Int))&&decide ((1:Int)*((P.length:Nat):Int)≤140737488355328))=true by simp only[A8,Ai];omega,As,Int.toNat_natCast,i1',A4]
  simp only
  rw[l1];rfl
 ·obtain⟨q1,q2,p,q3⟩:=l3 l hl
  exact⟨q1,by omega,A8p p2 p3 q3,fun x hx=>by obtain⟨y,rfl,_,h⟩:=q3 x hx;rw[J0,Int.toNat_natCast,h];rfl⟩
end
theorem Acq {α:Type} {A B:List α} {f:α→Bool} (h:∀ e,e ∈ A↔e ∈ B):A.any f=B.any f:=by
 rw[Bool.eq_iff_iff,List.any_eq_true,List.any_eq_true]
 exact⟨fun⟨e,h1,h2⟩=>⟨e,(h e).1 h1,h2⟩,fun⟨e,h1,h2⟩=>⟨e,(h e).2 h1,h2⟩⟩
theorem Ac5 (l:List Int) (x:Int) (hl:l.length≤2000) (n:Nat) (hn:3000 < n):Lq n l x=some (l.contains x):=by
 obtain⟨n,rfl⟩:∃ j,n=j+1:=⟨n - 1,by omega⟩
 have h0:∀ (j k i:Nat),i+j=l.length→j < k→H0 n l x k (i:Int)=some (bif (l.drop i).contains x then .ret true else .out ()):=by
  intro j
  induction j with
  | zero =>
   intro k i hi hk
   obtain⟨k,rfl⟩:∃ j,k=j+1:=⟨k - 1,by omega⟩
   rw[H0,Ap (by omega),List.drop_of_length_le (by omega)];rfl
  | succ j ih =>
   intro k i hi hk
   obtain⟨k,rfl⟩:∃ j,k=j+1:=⟨k - 1,by omega⟩
   have hlt:i < l.length:=by omega
   rw[H0,Ad (by omega),Bu hlt,A4,Be i (by omega),ih k (i+1) (by omega) (by omega),List.drop_eq_getElem_cons hlt,List.contains_cons]
   by_cases e:l[i]=x
   ·rw[e,beq_self_eq_true];rfl
   ·rw[Cg.2 e,Cg.2 (Ne.symm e)];rfl
 have h0':H0 n l x n 0=_:=h0 l.length n 0 (by omega) (by omega)
 rw[List.drop_zero] at h0'
 rw[Lq,h0']
 cases l.contains x<;>rfl
theorem Ac0 (l:List Int) (x:Int) (hl:l.length≤2000) (n:Nat) (hn:3000 < n):Ll n l x=some (l.contains x):=by
 obtain⟨n,rfl⟩:∃ j,n=j+1:=⟨n - 1,by omega⟩
 have h0:∀ (j k i:Nat),i+j=l.length→j < k→Gs n l x k (i:Int)=some (bif (l.drop i).contains x then .ret true else .out ()):=by
  intro j
  induction j with
  | zero =>
   intro k i hi hk
   obtain⟨k,rfl⟩:∃ j,k=j+1:=⟨k - 1,by omega⟩
   rw[Gs,Ap (by omega),List.drop_of_length_le (by omega)];rfl
  | succ j ih =>
   intro k i hi hk
   obtain⟨k,rfl⟩:∃ j,k=j+1:=⟨k - 1,by omega⟩
   have hlt:i < l.length:=by omega
   rw[Gs,Ad (by omega),Bu hlt,A4,Be i (by omega),ih k (i+1) (by omega) (by omega),List.drop_eq_getElem_cons hlt,List.contains_cons]
   by_cases e:l[i]=x
   ·rw[e,beq_self_eq_true];rfl
   ·rw[Cg.2 e,Cg.2 (Ne.symm e)];rfl
 have h0':Gs n l x n 0=_:=h0 l.length n 0 (by omega) (by omega)
 rw[List.drop_zero] at h0'
 rw[Ll,h0']
 cases l.contains x<;>rfl
structure TabOk (N ag:Nat) (en:List (List Bool)):Prop where
 len:en.length=N
 row:∀ r ∈ en,r.length=ag
def ent (en:List (List Bool)) (i a:Nat):Bool:=((en[i]?).bind fun r=>r[a]?).getD false
section
variable {N:Nat} {E:List A9} {ag:Nat} {en:List (List Bool)}
theorem TabOk.at (ht:TabOk N ag en) {x:Int} (h0:0≤x) (h1:x < N) {a:Nat} (ha:a < ag):∃ r,idx en x=some r∧idx r (a:Int)=some (ent en x.toNat a):=by
 have hl:x.toNat < en.length:=by have:=ht.len;omega
 have hr:=ht.row _ (List.getElem_mem hl)
 refine⟨en[x.toNat],by rw[P4 h0,A6 hl],?_⟩
 rw[ent,A6 hl,A4,Oo,A6 (by omega)];rfl
theorem Acg (hg:GOk N E) (l:List Int) (hl:l.length≤2000) (n:Nat) (hn:60000 < n):Hc n (Cq N E) l=some (A3r E l):=by
 obtain⟨n,rfl⟩:∃ j,n=j+1:=⟨n - 1,by omega⟩
 have hs:=hg.len
 have h0:∀ (j k i:Nat),i+j=(B9 N E).length→j < k→E1 n l (B9 N E) k (i:Int)=some (bif ((B9 N E).drop i).any (fun e=>l.contains e.C2&&l.contains e.Aw) then .ret true else .out ()):=by
  intro j
  induction j with
  | zero =>
   intro k i hi hk
   obtain⟨k,rfl⟩:∃ j,k=j+1:=⟨k - 1,by omega⟩
   rw[E1,Ap (by omega),List.drop_of_length_le (by omega)];rfl
  | succ j ih =>
   intro k i hi hk
   obtain⟨k,rfl⟩:∃ j,k=j+1:=⟨k - 1,by omega⟩
   have hlt:i < (B9 N E).length:=by omega
   rw[E1,Ad (by omega),Bu hlt]
   simp only[A4]
   rw[Ac5 l _ hl n (by omega),A4,Ac5 l _ hl n (by omega),A4,Be i (by omega),ih k (i+1) (by omega) (by omega),List.drop_eq_getElem_cons hlt,List.any_cons]
   cases l.contains (B9 N E)[i].C2<;>cases l.contains (B9 N E)[i].Aw<;>rfl
 have h0':E1 n l (B9 N E) n 0=_:=h0 (B9 N E).length n 0 (by omega) (by omega)
 rw[List.drop_zero,Acq (fun e=>Og hg.he)] at h0'
 rw[Hc,Sg hg n (by omega),A4,h0',A3r]
 cases E.any _<;>rfl
theorem Aab (hg:GOk N E) (l:List Int) (a:Int) (hl:l.length≤2000) (n:Nat) (hn:60000 < n):Kh n (Cq N E) l a=some (Qm E l a):=by
 obtain⟨n,rfl⟩:∃ j,n=j+1:=⟨n - 1,by omega⟩
 have hs:=hg.len
 have h0:∀ (j k i:Nat),i+j=(B9 N E).length→j < k→Ea n l a (B9 N E) k (i:Int)=some (bif ((B9 N E).drop i).any (fun e=>e.Aj==a&&l.contains e.C2&&l.contains e.Aw) then .ret true else .out ()):=by
  intro j
  induction j with
  | zero =>
   intro k i hi hk
   obtain⟨k,rfl⟩:∃ j,k=j+1:=⟨k - 1,by omega⟩
   rw[Ea,Ap (by omega),List.drop_of_length_le (by omega)];rfl
  | succ j ih =>
   intro k i hi hk
   obtain⟨k,rfl⟩:∃ j,k=j+1:=⟨k - 1,by omega⟩
   have hlt:i < (B9 N E).length:=by omega
   rw[Ea,Ad (by omega),Bu hlt]
   simp only[A4]
   rw[Ac0 l _ hl n (by omega),A4,Ac0 l _ hl n (by omega),A4,Be i (by omega),ih k (i+1) (by omega) (by omega),List.drop_eq_getElem_cons hlt,List.any_cons]
   cases (B9 N E)[i].Aj==a<;>cases l.contains (B9 N E)[i].C2<;>cases l.contains (B9 N E)[i].Aw<;>rfl
 have h0':Ea n l a (B9 N E) n 0=_:=h0 (B9 N E).length n 0 (by omega) (by omega)
 rw[List.drop_zero,Acq (fun e=>Og hg.he)] at h0'
 rw[Kh,Sg hg n (by omega),A4,h0',Qm]
 cases E.any _<;>rfl
theorem Aio (ht:TabOk N ag en) {l:List Int} (hl:∀ x ∈ l,0≤x∧x < (N:Int)) (hl2:l.length≤2000) {a:Nat} (ha:a < ag) (n:Nat) (hn:3000 < n):Lg n en l (a:Int)=some ((l.countP fun x=>ent en x.toNat a:Nat):Int):=by
 obtain⟨n,rfl⟩:∃ j,n=j+1:=⟨n - 1,by omega⟩
 have h0:∀ (j k i c:Nat),i+j=l.length→j < k→c≤i→Ei n en l (a:Int) k (c:Int) (i:Int)=some (.out ((c+(l.drop i).countP (fun x=>ent en x.toNat a):Nat):Int)):=by
  intro j
  induction j with
  | zero =>
   intro k i c hi hk hc
   obtain⟨k,rfl⟩:∃ j,k=j+1:=⟨k - 1,by omega⟩
   rw[Ei,Ap (by omega),List.drop_of_length_le (by omega)];rfl
  | succ j ih =>
   intro k i c hi hk hc
   obtain⟨k,rfl⟩:∃ j,k=j+1:=⟨k - 1,by omega⟩
   have hlt:i < l.length:=by omega
   obtain⟨b1,b2⟩:=hl _ (List.getElem_mem hlt)
   obtain⟨r,r1,r2⟩:=ht.at b1 b2 ha
   rw[Ei,Ad (by omega),Bu hlt,A4,r1,A4,r2,A4,Be i (by omega),Be c (by omega),List.drop_eq_getElem_cons hlt,List.countP_cons]
   cases ent en l[i].toNat a with
   | false=>rw[B3,ih k (i+1) c (by omega) (by omega) (by omega)];rfl
   | true=>rw[As,ih k (i+1) (c+1) (by omega) (by omega) (by omega)];rw[if_pos rfl];congr 3;omega
 have h0':Ei n en l (a:Int) n 0 0=_:=h0 l.length n 0 0 (by omega) (by omega) (by omega)
 rw[List.drop_zero,Nat.zero_add] at h0'
 rw[Lg,h0']
 rfl
theorem Xz (hg:GOk N E) (ht:TabOk N ag en) (n:Nat) (hn:60000 < n):∃ b,I2 n (Cq N E) en (ag:Int)=some b:=by
 obtain⟨n,rfl⟩:∃ j,n=j+1:=⟨n - 1,by omega⟩
 have hs:=hg.len
 have hN:=hg.hN
 have hlen:=ht.len
 have h0:∀ (j k i:Nat),i+j=en.length→j < k→Fk n en (ag:Int) k (i:Int)=some (.out ()):=by
  intro j
  induction j with
  | zero =>
   intro k i hi hk
   obtain⟨k,rfl⟩:∃ j,k=j+1:=⟨k - 1,by omega⟩
   rw[Fk,Ap (by omega)]
  | succ j ih =>
   intro k i hi hk
   obtain⟨k,rfl⟩:∃ j,k=j+1:=⟨k - 1,by omega⟩
   have hlt:i < en.length:=by omega
   rw[Fk,Ad (by omega),Bu hlt,A4,ht.row _ (List.getElem_mem hlt),Ap2,beq_self_eq_true,Be i (by omega)]
   exact ih k (i+1) (by omega) (by omega)
 have h1:∀ (j k i:Nat),i+j=(B9 N E).length→j < k→∃ r,Fg n en (ag:Int) (B9 N E) k (i:Int)=some r:=by
  intro j
  induction j with
  | zero =>
   intro k i hi hk
   obtain⟨k,rfl⟩:∃ j,k=j+1:=⟨k - 1,by omega⟩
   rw[Fg,Ap (by omega)]
   exact⟨_,rfl⟩
  | succ j ih =>
   intro k i hi hk
   obtain⟨k,rfl⟩:∃ j,k=j+1:=⟨k - 1,by omega⟩
   have hlt:i < (B9 N E).length:=by omega
   obtain⟨e1,e2,e3,e4,e5⟩:=hg.edge (List.getElem_mem hlt)
   rw[Fg,Ad (by omega),Bu hlt]
   simp only[A4]
   generalize (B9 N E)[i]=e at *
   by_cases ha:(ag:Int)≤e.Aj
   ·rw[Ad ha];exact⟨_,rfl⟩
   ·obtain⟨a,ea⟩:∃ a:Nat,e.Aj=(a:Int):=⟨e.Aj.toNat,by omega⟩
    obtain⟨r,r1,r2⟩:=ht.at e1 e2 (a:=a) (by omega)
    rw[Ap ha,r1,A4,ea,r2,A4,Be i (by omega)]
    cases ent en e.C2.toNat a with
    | true=>exact ih k (i+1) (by omega) (by omega)
    | false=>exact⟨_,rfl⟩
 have h0':Fk n en (ag:Int) n 0=_:=h0 en.length n 0 (by omega) (by omega)
 obtain⟨r,h1'⟩:=h1 (B9 N E).length n 0 (by omega) (by omega)
 have h1':Fg n en (ag:Int) (B9 N E) n 0=_:=h1'
 rw[I2,Oq hg n (by omega),A4,As,Qv hg n (by omega),A4,h0',A4]
 simp only
 rw[Sg hg n (by omega),A4,h1',A4]
 cases decide ((ag:Int) < 0)<;>cases decide ((100:Int) < (ag:Int))<;>cases ((en.length:Int) != (N:Int))<;>cases r<;>exact⟨_,rfl⟩
end
structure Rkd (N:Nat) (E:List A9) (R:List Nat) (T:List (Nat×Nat)) (ag:Nat) (en:List (List Bool)):Prop where
 g:GOk N E
 t:TabOk N ag en
 a:ag≤100
 r:A1j R T E=true
 n:A9e R T ag (ent en) N=true
section
variable {N:Nat} {E:List A9} {R:List Nat} {T:List (Nat×Nat)} {ag:Nat} {en:List (List Bool)}
theorem Rkd.le (h:Rkd N E R T ag en):∀ e ∈ E,rkL R e.Aw≤rkL R e.C2:=fun e he=>Aqx h.r he
theorem Afy {l:List Int} {f:Int→Bool} (h:∀ x ∈ l,f x=true):l.countP f=l.length:=List.countP_eq_length.2 h
theorem A9i (h:Rkd N E R T ag en) {l:List Int} (hl:Xp R N l) (hl0:l≠[]) (hl2:l.length≤2000) {mode:Int} (hm:mode=1∨mode=2) (n:Nat) (hn:70000 < n):Gp n (Cq N E) en (ag:Int) mode l=some false:=by
 obtain⟨n,rfl⟩:∃ j,n=j+1:=⟨n - 1,by omega⟩
 have hag:=h.a
 have hpos:0 < l.length:=List.length_pos_iff.2 hl0
 have h0:∀ (j k i:Nat),i+j=ag→j < k→Ct n (Cq N E) en (ag:Int) mode l k (i:Int)=some (.ret false)∨(Ct n (Cq N E) en (ag:Int) mode l k (i:Int)=some (.out ())∧∀ a,i≤a→a < ag→¬ (Qm E l (a:Int)=false∧∀ x ∈ l,ent en x.toNat a=true)):=by
  intro j
  induction j with
  | zero =>
   intro k i hi hk
   obtain⟨k,rfl⟩:∃ j,k=j+1:=⟨k - 1,by omega⟩
   rw[Ct,Ap (by omega)]
   exact .inr ⟨rfl,fun a h1 h2=>by omega⟩
  | succ j ih =>
   intro k i hi hk
   obtain⟨k,rfl⟩:∃ j,k=j+1:=⟨k - 1,by omega⟩
   rw[Ct,Ad (by omega),Aio h.t hl.1 hl2 (show i < ag by omega) n (by omega),A4,Aab h.g l _ hl2 n (by omega),A4,Be i (by omega)]
   have go:=ih k (i+1) (by omega) (by omega)
   have ext:¬ (Qm E l (i:Int)=false∧∀ x ∈ l,ent en x.toNat i=true)→Ct n (Cq N E) en (ag:Int) mode l k ((i+1:Nat):Int)=some (.ret false)∨(Ct n (Cq N E) en (ag:Int) mode l k ((i+1:Nat):Int)=some (.out ())∧∀ a,i≤a→a < ag→¬ (Qm E l (a:Int)=false∧∀ x ∈ l,ent en x.toNat a=true)):=by
    intro hno
    rcases go with h | ⟨h1,h2⟩
    ·exact .inl h
    ·refine .inr ⟨h1,fun a ha1 ha2=>?_⟩
     by_cases e:a=i
     ·rw[e];exact hno
     ·exact h2 a (by omega) ha2
   cases hA:Qm E l (i:Int) with
   | true=>rw[As];exact ext (by simp[hA])
   | false =>
    rw[B3]
    by_cases hall:∀ x ∈ l,ent en x.toNat i=true
    ·rw[Afy hall]
     rcases hm with rfl | rfl
     ·rw[show((1:Int)==1)=true from rfl,As,beq_self_eq_true,As];exact .inl rfl
     ·rw[show((2:Int)==1)=false from rfl,B3,show((2:Int)==2)=true from rfl,As,Ad (by omega)];exact .inl rfl
    ·have:=ext (fun hh=>hall hh.2)
     rcases hm with rfl | rfl
     ·rw[show((1:Int)==1)=true from rfl,As,show((1:Int)==2)=false from rfl,B3]
      cases ((((l.countP fun x=>ent en x.toNat i:Nat):Int))==(l.length:Int)) with
      | true=>exact .inl rfl
      | false=>exact this
     ·rw[show((2:Int)==1)=false from rfl,B3,show((2:Int)==2)=true from rfl,As]
      cases decide (0 < ((l.countP fun x=>ent en x.toNat i:Nat):Int)) with
      | true=>exact .inl rfl
      | false=>exact this
 have h0':Ct n (Cq N E) en (ag:Int) mode l n 0=some (.ret false)∨(Ct n (Cq N E) en (ag:Int) mode l n 0=some (.out ())∧_):=h0 ag n 0 (by omega) (by omega)
 rw[Gp]
 rcases h0' with e | ⟨e,hno⟩
 ·rw[e];rfl
 ·rw[e,A4]
  simp only
  rw[Acg h.g l hl2 n (by omega),A4]
  cases hc:A3r E l with
  | false=>rfl
  | true =>
   obtain⟨a,a1,a2,a3⟩:=A0f h.r h.n hl hc
   exact absurd ⟨a2,a3⟩ (hno a (Nat.zero_le _) a1)
def Arz (l:List Int) (o:List Bool):Prop:=∀ y:Nat,o[y]?=some true→(y:Int) ∈ l
theorem Ao9 (h:Rkd N E R T ag en) {l:List Int} (hl:Xp R N l) (hl2:l.length≤2000) (hc:A3r E l=true) (n:Nat) (hn:70000 < n):∃ o,Ka n (Cq N E) en (ag:Int) l=some o∧∀ x,J0 o x=false:=by
 obtain⟨n,rfl⟩:∃ j,n=j+1:=⟨n - 1,by omega⟩
 have hag:=h.a
 have hN:=h.g.hN
 have hlen:=h.t.len
 have h0:∀ (j k i:Nat) (o:List Bool),i+j=l.length→j < k→o.length=N→Arz l o→∃ o',Gd n l k (i:Int) o=some (.out o')∧o'.length=N∧Arz l o':=by
  intro j
  induction j with
  | zero =>
   intro k i o hi hk ho hx
   obtain⟨k,rfl⟩:∃ j,k=j+1:=⟨k - 1,by omega⟩
   rw[Gd,Ap (by omega)]
   exact⟨o,rfl,ho,hx⟩
  | succ j ih =>
   intro k i o hi hk ho hx
   obtain⟨k,rfl⟩:∃ j,k=j+1:=⟨k - 1,by omega⟩
   have hlt:i < l.length:=by omega
   obtain⟨b1,b2⟩:=hl.1 _ (List.getElem_mem hlt)
   obtain⟨b,g1,g2⟩:=Zm (l:=o) b1 (by omega)
   rw[Gd,Ad (by omega),Bu hlt,A4,g1,A4,Be i (by omega)]
   refine ih k (i+1) _ (by omega) (by omega) (by rw[List.length_set];exact ho) (fun y hy=>?_)
   rw[List.getElem?_set] at hy
   split at hy
   ·rename_i e
    have:=List.getElem_mem hlt
    rw[show(y:Int)=l[i] by omega];exact this
   ·exact hx y hy
 have h2:∀ (a:Nat),a < ag→∀ (j k i:Nat) (o:List Bool),i+j=l.length→j < k→o.length=N→∃ o',Fc n en l (a:Int) k (i:Int) o=some (.out o')∧o'.length=N∧(∀ y:Nat,o'[y]?=some true→o[y]?=some true)∧∀ q,i≤q→∀ x,l[q]?=some x→ent en x.toNat a=true→o'[x.toNat]?≠some true:=by
  intro a ha j
  induction j with
  | zero =>
   intro k i o hi hk ho
   obtain⟨k,rfl⟩:∃ j,k=j+1:=⟨k - 1,by omega⟩
   rw[Fc,Ap (by omega)]
   exact⟨o,rfl,ho,fun y hy=>hy,fun q hq x hx=>by rw[List.getElem?_eq_none (by omega)] at hx;cases hx⟩
  | succ j ih =>
   intro k i o hi hk ho
   obtain⟨k,rfl⟩:∃ j,k=j+1:=⟨k - 1,by omega⟩
   have hlt:i < l.length:=by omega
   obtain⟨b1,b2⟩:=hl.1 _ (List.getElem_mem hlt)
   obtain⟨r,r1,r2⟩:=h.t.at b1 b2 ha
   obtain⟨b,g1,g2⟩:=Zm (l:=o) b1 (by omega)
   rw[Fc,Ad (by omega),Bu hlt,A4,r1,A4,r2,A4,A4,g1,A4,Be i (by omega)]
   cases hb:ent en l[i].toNat a with
   | false =>
    obtain⟨o',k1,k2,k3,k4⟩:=ih k (i+1) o (by omega) (by omega) ho
    refine⟨o',k1,k2,k3,fun q hq x hx he=>?_⟩
    by_cases e:q=i
    ·rw[e,A6 hlt] at hx
     cases hx;rw[hb] at he;cases he
    ·exact k4 q (by omega) x hx he
   | true =>
    obtain⟨o',k1,k2,k3,k4⟩:=ih k (i+1) (o.set l[i].toNat false) (by omega) (by omega) (by rw[List.length_set];exact ho)
    refine⟨o',k1,k2,fun y hy=>?_,fun q hq x hx he hh=>?_⟩
    ·have:=k3 y hy
     rw[List.getElem?_set] at this
     split at this
     ·split at this<;>cases this
     ·exact this
    ·by_cases e:q=i
     ·rw[e,A6 hlt] at hx
      cases hx
      have:=k3 _ hh
      rw[List.getElem?_set_self (by omega)] at this
      cases this
     ·exact k4 q (by omega) x hx he hh
 have h1:∀ (j k i:Nat) (o:List Bool),i+j=ag→j < k→o.length=N→∃ o',Fe n (Cq N E) en (ag:Int) l k (i:Int) o=some (.out o')∧o'.length=N∧(∀ y:Nat,o'[y]?=some true→o[y]?=some true)∧∀ a,i≤a→a < ag→Qm E l (a:Int)=false→(∀ x ∈ l,ent en x.toNat a=true)→∀ x ∈ l,o'[x.toNat]?≠some true:=by
  intro j
  induction j with
  | zero =>
   intro k i o hi hk ho
   obtain⟨k,rfl⟩:∃ j,k=j+1:=⟨k - 1,by omega⟩
   rw[Fe,Ap (by omega)]
   exact⟨o,rfl,ho,fun y hy=>hy,fun a h1 h2=>by omega⟩
  | succ j ih =>
   intro k i o hi hk ho
   obtain⟨k,rfl⟩:∃ j,k=j+1:=⟨k - 1,by omega⟩
   rw[Fe,Ad (by omega),Aab h.g l _ hl2 n (by omega),A4,Be i (by omega)]
   cases hA:Qm E l (i:Int) with
   | true =>
    obtain⟨o',k1,k2,k3,k4⟩:=ih k (i+1) o (by omega) (by omega) ho
    refine⟨o',k1,k2,k3,fun a a1 a2 a3 a4=>?_⟩
    by_cases e:a=i
    ·rw[e,hA] at a3;cases a3
    ·exact k4 a (by omega) a2 a3 a4
   | false =>
    obtain⟨o1,s1,s2,s3,s4⟩:=h2 i (by omega) l.length n 0 o (by omega) (by omega) ho
    have s1':Fc n en l (i:Int) n 0 o=_:=s1
    obtain⟨o',k1,k2,k3,k4⟩:=ih k (i+1) o1 (by omega) (by omega) s2
    rw[B3,s1',A4]
    refine⟨o',k1,k2,fun y hy=>s3 y (k3 y hy),fun a a1 a2 a3 a4 x hx hh=>?_⟩
    by_cases e:a=i
    ·obtain⟨q,hq,hqx⟩:=List.getElem_of_mem hx
     exact s4 q (Nat.zero_le _) x (by rw[A6 hq,hqx]) (e ▸ a4 x hx) (k3 _ hh)
    ·exact k4 a (by omega) a2 a3 a4 x hx hh
 obtain⟨o0,p1,p2,p3⟩:=h0 l.length n 0 (List.replicate N false) (by omega) (by omega) (by simp) (fun y hy=>by
  rw[List.getElem?_replicate] at hy
  split at hy<;>cases hy)
 have p1':Gd n l n 0 (List.replicate N false)=_:=p1
 obtain⟨o,q1,q2,q3,q4⟩:=h1 ag n 0 o0 (by omega) (by omega) p2
 have q1':Fe n (Cq N E) en (ag:Int) l n 0 o0=_:=q1
 obtain⟨a,a1,a2,a3⟩:=A0f h.r h.n hl hc
 refine⟨o,?_,fun x=>?_⟩
 ·rw[Ka,hlen,show(decide ((0:Int)≤(N:Int))&&decide ((1:Int)*(N:Int)≤140737488355328))=true by simp only[A8,Ai];omega,As,Int.toNat_natCast,p1',A4]
  simp only
  rw[q1'];rfl
 ·rw[J0]
  cases ho:o[x.toNat]? with
  | none=>rfl
  | some b =>
   cases b with
   | false=>rfl
   | true =>
    have hx:=p3 _ (q3 _ ho)
    exact absurd (by rw[Int.toNat_natCast];exact ho) (q4 a (Nat.zero_le _) a1 a2 a3 _ hx)
theorem Ajm (h:Rkd N E R T ag en) {I:List Bool} (hI:∀ x,J0 I x=false) (n:Nat) (hn:90000 < n):F2 n (Cq N E) en (ag:Int) I=some []:=by
 obtain⟨n,rfl⟩:∃ j,n=j+2:=⟨n - 2,by omega⟩
 obtain⟨L,l1,l2⟩:=Abu h.g h.le I (n+1) (by omega)
 rw[F2,l1,A4,l2.none hI,Fs]
 rfl
theorem Alv (h:Rkd N E R T ag en) (I:List Bool) (n:Nat) (hn:100000 < n):K3 n (Cq N E) en (ag:Int) I=some []:=by
 obtain⟨n,rfl⟩:∃ j,n=j+1:=⟨n - 1,by omega⟩
 have hN:=h.g.hN
 obtain⟨L,l1,l2,l3⟩:=A1n h.g h.le I n (by omega)
 have h0:∀ (j k i:Nat),i+j=L.length→j < k→E2 n (Cq N E) en (ag:Int) L k (i:Int)=some (.out ()):=by
  intro j
  induction j with
  | zero =>
   intro k i hi hk
   obtain⟨k,rfl⟩:∃ j,k=j+1:=⟨k - 1,by omega⟩
   rw[E2,Ap (by omega)]
  | succ j ih =>
   intro k i hi hk
   obtain⟨k,rfl⟩:∃ j,k=j+1:=⟨k - 1,by omega⟩
   have hlt:i < L.length:=by omega
   obtain⟨q1,q2,q3,q4⟩:=l3 _ (List.getElem_mem hlt)
   rw[E2,Ad (by omega),Bu hlt]
   simp only[A4]
   rw[Acg h.g _ (by omega) n (by omega),A4,Be i (by omega)]
   cases hc:A3r E L[i] with
   | false=>exact ih k (i+1) (by omega) (by omega)
   | true =>
    obtain⟨o,o1,o2⟩:=Ao9 h q3 (by omega) hc n (by omega)
    rw[As,A9i h q3 q1 (by omega) (.inr rfl) n (by omega),A4,B3,o1,A4,Ajm h o2 n (by omega),A4]
    exact ih k (i+1) (by omega) (by omega)
 have h0':E2 n (Cq N E) en (ag:Int) L n 0=_:=h0 L.length n 0 (by omega) (by omega)
 rw[K3,l1,A4,h0']
 rfl
theorem An6 (h:Rkd N E R T ag en) (n:Nat) (hn:110000 < n):Kl n (Cq N E) en (ag:Int)=some []:=by
 obtain⟨n,rfl⟩:∃ j,n=j+1:=⟨n - 1,by omega⟩
 have hN:=h.g.hN
 have hlen:=h.t.len
 obtain⟨b,hb⟩:=Xz h.g h.t n (by omega)
 have h0:∀ (j k i:Nat) (o:List Bool),i+j=en.length→j < k→o.length=en.length→∃ o',Er n en k (i:Int) o=some (.out o'):=by
  intro j
  induction j with
  | zero =>
   intro k i o hi hk ho
   obtain⟨k,rfl⟩:∃ j,k=j+1:=⟨k - 1,by omega⟩
   rw[Er,Ap (by omega)]
   exact⟨o,rfl⟩
  | succ j ih =>
   intro k i o hi hk ho
   obtain⟨k,rfl⟩:∃ j,k=j+1:=⟨k - 1,by omega⟩
   rw[Er,Ad (by omega),Bu (by omega),A4,Be i (by omega),Int.toNat_natCast]
   exact ih k (i+1) _ (by omega) (by omega) (by rw[List.length_set];exact ho)
 obtain⟨I,i1⟩:=h0 en.length n 0 (List.replicate en.length false) (by omega) (by omega) (by simp)
 have i1':Er n en n 0 (List.replicate en.length false)=_:=i1
 rw[Kl,hb,A4]
 cases b with
 | false=>rfl
 | true =>
  rw[As,show(decide ((0:Int)≤((en.length:Nat):Int))&&decide ((1:Int)*((en.length:Nat):Int)≤140737488355328))=true by simp only[A8,Ai];omega,As,Int.toNat_natCast,i1',A4]
  simp only
  rw[Alv h I n (by omega)];rfl
theorem Ari (h:Rkd N E R T ag en) (n:Nat) (hn:100000 < n):Me n (Cq N E) en (ag:Int)=some []:=by
 obtain⟨n,rfl⟩:∃ j,n=j+1:=⟨n - 1,by omega⟩
 have hN:=h.g.hN
 obtain⟨b,hb⟩:=Xz h.g h.t n (by omega)
 obtain⟨I,L,l1,l2,l3⟩:=A9a h.g h.le n (by omega)
 have h0:∀ (j k i:Nat),i+j=L.length→j < k→Gc n (Cq N E) en (ag:Int) L k (i:Int)=some (.out ()):=by
  intro j
  induction j with
  | zero =>
   intro k i hi hk
   obtain⟨k,rfl⟩:∃ j,k=j+1:=⟨k - 1,by omega⟩
   rw[Gc,Ap (by omega)]
  | succ j ih =>
   intro k i hi hk
   obtain⟨k,rfl⟩:∃ j,k=j+1:=⟨k - 1,by omega⟩
   have hlt:i < L.length:=by omega
   obtain⟨q1,q2,q3,q4⟩:=l3 _ (List.getElem_mem hlt)
   rw[Gc,Ad (by omega),Bu hlt]
   simp only[A4]
   rw[A9i h q3 q1 (by omega) (.inl rfl) n (by omega),A4,B3,Be i (by omega)]
   exact ih k (i+1) (by omega) (by omega)
 have h0':Gc n (Cq N E) en (ag:Int) L n 0=_:=h0 L.length n 0 (by omega) (by omega)
 rw[Me,hb,A4]
 cases b with
 | false=>rfl
 | true=>rw[As,l1,A4,h0'];rfl
theorem As5 (h:Rkd N E R T ag en) {mode:Int} (hm:mode=1∨mode=2) (n:Nat) (hn:120000 < n):Ip n (Cq N E) en (ag:Int) mode=some []:=by
 obtain⟨n,rfl⟩:∃ j,n=j+1:=⟨n - 1,by omega⟩
 rcases hm with rfl | rfl
 ·rw[Ip,show((1:Int)==1)=true from rfl,As,Ari h n (by omega)];rfl
 ·rw[Ip,show((2:Int)==1)=false from rfl,B3,show((2:Int)==2)=true from rfl,As,An6 h n (by omega)];rfl
theorem Aqy (N:Nat) (x:Int):J0 (List.replicate N false) x=false:=by
 rw[J0,List.getElem?_replicate];split<;>rfl
theorem Ars (h:Rkd N E R T ag en) {mode:Int} (hm:mode=1∨mode=2) (n:Nat) (hn:100000 < n):M3 n (Cq N E) en (ag:Int) mode []=some false:=by
 obtain⟨n,rfl⟩:∃ j,n=j+2:=⟨n - 2,by omega⟩
 have hN:=h.g.hN
 have hlen:=h.t.len
 obtain⟨b,hb⟩:=Xz h.g h.t (n+1) (by omega)
 obtain⟨L,l1,l2⟩:=A1n h.g h.le (List.replicate N false) (n+1) (by omega)
 rw[l2.none (Aqy N)] at l1
 have hc:(decide ((0:Int)≤(N:Int))&&decide ((1:Int)*(N:Int)≤140737488355328))=true:=by simp only[A8,Ai];omega
 rw[M3,hb,A4]
 cases b with
 | false=>rfl
 | true =>
  rcases hm with rfl | rfl
  ·rw[As,show((1:Int) != 1)=false from rfl,B3,hlen,hc,As,Int.toNat_natCast,J2,show decide ((0:Int) < ((([]:List Int).length:Nat):Int))=false from rfl,B3,A4]
   simp only
   rw[l1];rfl
  ·rw[As,show((2:Int) != 1)=true from rfl,As,show((2:Int) != 2)=false from rfl,B3,hlen,hc,As,Int.toNat_natCast,J4,show decide ((0:Int) < ((([]:List Int).length:Nat):Int))=false from rfl,B3,A4]
   simp only
   rw[l1];rfl
theorem Ar2 (h:Rkd N E R T ag en) {mode:Int} (hm:mode=1∨mode=2) (s:Bf) (hs:s.Cs=Cq N E) (n:Nat) (hn:110000 < n):Kc n s en (ag:Int) mode []=some ([],[],false):=by
 obtain⟨n,rfl⟩:∃ j,n=j+2:=⟨n - 2,by omega⟩
 rw[Kc,hs,Ns,Ars h hm n (by omega),A4,B3,A4]
 rfl
end
def Ahw (u:Ak):Fd:=⟨[Su u],[-1],[-1],[]⟩
def spc (s:Fd):Bf:=⟨s.L,Cq s.L.length s.E,s.P,s.B⟩
def Adm (N:Nat) (e:A9):Bool:=decide (0≤e.C2)&&decide (e.C2 < (N:Int))&&decide (0≤e.Aw)&&decide (e.Aw < (N:Int))&&decide (0≤e.Aj)
def Aox (u:Ak) (model room:Int) (s:Fd):Bool:=match La 150000 u (spc s) model room with
 | some []=>true
 | _=>false
def enB (u:Ak) (model room:Int) (s:Fd) (R:List Nat) (T:List (Nat×Nat)):Bool:=match Ja 150000 u (spc s) model room with
 | some en=>decide (en.length=s.L.length)&&(en.all fun r=>decide (r.length=agN u model))&&A9e R T (agN u model) (ent en) s.L.length
 | none=>false
def Ahg (p:Cf) (u:Ak) (s:Fd):Bool:=match Ng 150001 p u (spc s) with
 | some r=>(r.1.all C1.Q8)&&decide (r.1.length=p.Cw.length)
 | none=>false
def D7 (p:Cf) (u:Ak) (model room:Int) (R:List Nat) (T:List (Nat×Nat)):Bool :=
 match Z5 u model room 700 1000 0 (Ahw u) with
 | none=>false
 | some s=>A1j R T s.E&&(s.E.all (Adm s.L.length))&&decide (s.L.length≤2000)&&decide (s.E.length≤30000)&&Aox u model room s&&enB u model room s R T&&Ahg p u s
theorem Apf {N:Nat} {e:A9} (h:Adm N e=true):T9 N e:=by
 simp only[Adm,A8,Ai] at h
 exact⟨h.1.1.1.1,h.1.1.1.2,h.1.1.2,h.1.2,h.2⟩
theorem Abb {p:Cf} {u:Ak} [InU u] {model room:Int} {R:List Nat} {T:List (Nat×Nat)} (hp:∀ n,Mc (n+1) p=some (u,0,0)) (hu:C7 u=true) (hlu:G6 u=true) (hm:1≤model∧model≤3) (hr:1≤room∧room≤4) (h:D7 p u model room R T=true) {mode:Int} (hmo:mode=1∨mode=2) :
 ∃ v,Jz 150002 p model room mode 700=some (v,0,0)∧v.R6=1∧(∀ r ∈ v.Fz,r.Q8=true)∧v.Fz.length=p.Cw.length:=by
 unfold D7 at h
 cases hs:Z5 u model room 700 1000 0 (Ahw u) with
 | none=>rw[hs] at h;cases h
 | some s =>
  rw[hs] at h
  simp only[A8,Ai,List.all_eq_true] at h
  obtain⟨⟨⟨⟨⟨⟨q1,q2⟩,q3⟩,q4⟩,q5⟩,q6⟩,q7⟩:=h
  have he:∀ e ∈ s.E,T9 s.L.length e:=fun e h=>Apf (q2 e h)
  obtain⟨hall,_⟩:=Ar4 (model:=model) (room:=room) 150001 hu hlu hm hr 700 (by omega) (by omega) (by omega) s hs he
  have hall':Lm 150001 u model room 700=some (spc s,0):=hall
  have hd:La 150000 u (spc s) model room=some []:=by
   unfold Aox at q5
   split at q5
   ·assumption
   ·cases q5
  unfold enB at q6
  unfold Ahg at q7
  cases hen:Ja 150000 u (spc s) model room with
  | none=>rw[hen] at q6;cases q6
  | some en =>
   rw[hen] at q6
   simp only[A8,Ai,List.all_eq_true] at q6
   cases hcl:Ng 150001 p u (spc s) with
   | none=>rw[hcl] at q7;cases q7
   | some r =>
    rw[hcl] at q7
    simp only[A8,Ai,List.all_eq_true] at q7
    have hk:Rkd s.L.length s.E R T (agN u model) en:=⟨⟨q3,q4,he⟩,⟨q6.1.1,q6.1.2⟩,Nat.le_trans (Vm hu model) (by omega),q1,q6.2⟩
    have hag:Fo 150000 u model=some (agN u model:Int):=S7 149998 u model hu hm
    have hf:Ip 150000 (spc s).Cs en (agN u model:Int) mode=some []:=As5 hk hmo 150000 (by omega)
    have hl:Kc 150000 (spc s) en (agN u model:Int) mode []=some ([],[],false):=Ar2 hk hmo (spc s) rfl 150000 (by omega)
    have ho:J8 150001 u (spc s) model room mode=some (1,[],[]):=by
     rw[J8,Ap (by omega),Ap (by omega),hd,A4,show decide ((0:Int) < ((([]:List Int).length:Nat):Int))=false from rfl,B3,hen,A4,hag,A4,hf,A4,hl]
     rfl
    refine⟨⟨1,[],[],r.1,(((spc s).C5.length:Nat):Int),(((spc s).Cs.Aw.length:Nat):Int)⟩,?_,rfl,q7.1,q7.2⟩
    rw[Jz,hp 150000,A4,show((0:Int) != 0)=false from rfl,B3,Ap (by omega),Ap (by omega),hall',A4,show((0:Int) != 0)=false from rfl,B3,ho,A4,hcl]
    rfl
def rk1:List Nat:=[11,10,9,8,7,6,5,4,3,2,1,0]
def ta1:List (Nat×Nat):=[]
def rk2:List Nat:=[14,13,12,11,10,9,8,7,6,4,5,3,2,1,0]
def ta2:List (Nat×Nat):=[]
def rk3:List Nat:=[66,54,65,51,53,64,28,50,52,63,26,27,49,48,62,24,25,27,48,47,61,22,23,25,27,48,47,46,60,20,21,23,25,47,46,45,59,18,19,21,23,46,45,44,58,16,17,19,21,45,44,43,57,14,15,17,19,44,43,42,56,11,13,15,17,43,42,41,55,10,13,15,42,41,39,9,13,41,38,8,12,40,37,7,36,6,35,5,34,4,33,3,32,2,31,1,30,0,29]
def ta3:List (Nat×Nat):=[(13,0),(15,0),(17,0),(19,0),(21,0),(23,0),(25,0),(27,0),(41,1),(42,1),(43,1),(44,1),(45,1),(46,1),(47,1),(48,1)]
def rk4:List Nat:=[84,69,83,66,68,82,37,65,67,81,35,36,64,63,80,33,34,36,63,62,79,31,32,34,36,63,62,61,78,29,30,32,34,62,61,60,77,27,28,30,32,61,60,59,76,23,25,26,28,30,60,59,58,74,75,18,22,25,24,28,59,58,56,57,73,18,17,21,25,24,58,56,57,55,72,18,17,16,20,24,56,57,55,54,71,17,16,15,19,55,54,53,70,16,15,13,54,53,51,15,12,53,50,14,11,52,49,10,48,9,47,8,46,7,45,6,44,4,5,42,43,3,41,2,40,1,39,0,38]
def ta4:List (Nat×Nat):=[(15,2),(16,0),(17,0),(18,2),(24,0),(25,0),(28,0),(30,0),(32,0),(34,0),(36,0),(53,3),(54,1),(55,1),(56,3),(57,1),(58,1),(59,1),(60,1),(61,1),(62,1),(63,1)]
def rk5:List Nat:=[84,69,83,66,68,82,37,65,67,81,35,36,64,63,80,33,34,36,63,62,79,31,32,34,36,63,62,61,78,29,30,32,34,62,61,60,77,27,28,30,32,61,60,59,76,23,25,26,28,30,60,59,58,74,75,18,22,25,24,28,59,58,56,57,73,18,17,21,25,24,58,56,57,55,72,18,17,16,20,24,56,57,55,54,71,17,16,15,19,55,54,53,70,16,15,13,54,53,51,15,12,53,50,14,11,52,49,10,48,9,47,8,46,7,45,6,44,4,5,42,43,3,41,2,40,1,39,0,38]
def ta5:List (Nat×Nat):=[(15,2),(16,0),(17,0),(18,3),(24,0),(25,0),(28,0),(30,0),(32,0),(34,0),(36,0),(53,4),(54,1),(55,1),(56,5),(57,1),(58,1),(59,1),(60,1),(61,1),(62,1),(63,1)]
def rk6:List Nat:=[8,7,6,5,4,3,2,1,0]
def ta6:List (Nat×Nat):=[]
def rk7:List Nat:=[11,10,9,8,7,6,4,5,3,2,1,0]
def ta7:List (Nat×Nat):=[]
def rk8:List Nat:=[46,22,45,20,21,37,44,18,19,36,43,16,17,35,42,14,15,34,41,12,13,33,40,10,11,32,39,8,9,31,38,7,30,6,29,5,28,4,27,3,26,2,25,1,24,0,23]
def ta8:List (Nat×Nat):=[]
def rk9:List Nat:=[64,31,63,29,30,52,62,27,28,51,61,25,26,50,60,23,24,49,59,19,21,22,48,57,58,14,18,20,46,47,56,13,17,45,55,12,16,44,54,11,15,43,53,10,42,9,41,8,40,7,39,6,38,4,5,36,37,3,35,2,34,1,33,0,32]
def ta9:List (Nat×Nat):=[]
def A5k:List Nat:=[2,1,0]
def A4i:List (Nat×Nat):=[]
def A50:List Nat:=[10,4,9,3,8,1,2,6,7,0,5]
def A4d:List (Nat×Nat):=[]
end Go.Proofs.YtfabdppicogkmaaGreat
end
