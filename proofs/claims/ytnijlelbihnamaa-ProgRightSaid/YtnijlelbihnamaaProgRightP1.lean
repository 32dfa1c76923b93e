/- Parts of the proofs: what they lean on. Conditions: none. -/
import Derived.Test.YtnijlelbihnamaaProg
import Derived.Test.YtnijlelbihnamaaPrtS11
section
namespace Go.Proofs.Ytnijlelbihnamaa
set_option linter.unusedVariables false
structure Be where
 Ai:(List UInt8)
 Bs:Int
 Ao:Int
 deriving DecidableEq,Inhabited
def An (x:Be):List AV:=[AV.str (x.Ai),AV.int .i64 (x.Bs),AV.int .i64 (x.Ao)]
structure A2 where
 As:Int
 Bs:Int
 Ai:(List UInt8)
 D5:(List UInt8)
 Ao:Int
 deriving DecidableEq,Inhabited
def A1 (x:A2):List AV:=[AV.int .i64 (x.As),AV.int .i64 (x.Bs),AV.str (x.Ai),AV.str (x.D5),AV.int .i64 (x.Ao)]
def Xm (l:(List A2)):List AV:=[AV.sl 5 (List.map A1 l)]
structure A4 where
 A9:Int
 Eu:(List UInt8)
 Ev:(List UInt8)
 Ct:(List A2)
 Ih:(List A2)
 Fp:Bool
 Ax:Int
 Co:Int
 Ao:Int
 deriving DecidableEq,Inhabited
def Ae (x:A4):List AV:=[AV.int .i64 (x.A9),AV.str (x.Eu),AV.str (x.Ev),AV.sl 5 (List.map A1 (x.Ct)),AV.sl 5 (List.map A1 (x.Ih)),AV.bool (x.Fp),AV.int .i64 (x.Ax),AV.int .i64 (x.Co),AV.int .i64 (x.Ao)]
structure Ag where
 Ai:(List UInt8)
 B5:(List (List UInt8))
 Ax:(List A4)
 Ao:Int
 deriving DecidableEq,Inhabited
def Ad (x:Ag):List AV:=[AV.str (x.Ai),AV.sl 1 (List.map Gm (x.B5)),AV.sl 9 (List.map Ae (x.Ax)),AV.int .i64 (x.Ao)]
structure Aj where
 A9:Int
 Ct:(List A2)
 Ao:Int
 deriving DecidableEq,Inhabited
def Ak (x:Aj):List AV:=[AV.int .i64 (x.A9),AV.sl 5 (List.map A1 (x.Ct)),AV.int .i64 (x.Ao)]
structure Ba where
 Bm:Int
 Au:(List Be)
 Ac:(List Ag)
 Al:(List Aj)
 deriving DecidableEq,Inhabited
structure A5 where
 A9:Int
 Aa:(List UInt8)
 Bs:Int
 Ao:Int
 deriving DecidableEq,Inhabited
def A3 (x:A5):List AV:=[AV.int .i64 (x.A9),AV.str (x.Aa),AV.int .i64 (x.Bs),AV.int .i64 (x.Ao)]
structure Bl where
 f_word:(List UInt8)
 f_form:(List UInt8)
 f_body:Bool
 f_more:Bool
 deriving DecidableEq,Inhabited
def A45 (x:Bl):List AV:=[AV.str (x.f_word),AV.str (x.f_form),AV.bool (x.f_body),AV.bool (x.f_more)]
def A8 (p:((List UInt8)×Int)):List AV:=[AV.str (p.1),AV.int .i64 (p.2)]
theorem W3 (l:List ((List UInt8)×Int)) (k:(List UInt8)) (z:Int):Gf (AV.int .i64 (z)) (List.map A8 l) (AV.str (k))=AV.int .i64 (Bf l k z):=Ad0 (ek:=fun x=>AV.str (x)) (ev:=fun x=>AV.int .i64 (x)) (c:=A8) (fun _=>rfl) Adu k z l
theorem X6 (l:List ((List UInt8)×Int)) (k:(List UInt8)) (v:Int):M7 (List.map A8 l) (AV.str (k)) (AV.int .i64 (v))=List.map A8 (Qc l k v):=Agz (ek:=fun x=>AV.str (x)) (ev:=fun x=>AV.int .i64 (x)) (c:=A8) (fun _=>rfl) Adu k v l
theorem ls:(∀ {α β:Type} {f:α→β} {l:List α},(l.map f).length=l.length)∧(∀ {α β:Type} (f:α→β) (l:List α),List.take l.length (List.map f l)=List.map f l)∧Program.cellsOf Try.prog 41=1∧Program.cellsOf Try.prog 43=3∧Program.cellsOf Try.prog 47=5∧Program.cellsOf Try.prog 73=9∧Program.cellsOf Try.prog 40=4∧Program.cellsOf Try.prog 55=4∧Program.cellsOf Try.prog 45=3∧Program.cellsOf Try.prog 3=1∧Program.cellsOf Try.prog 98=4∧Program.cellsOf Try.prog 9=1∧Program.cellsOf Try.prog 5=1 :=
 ⟨List.length_map ..,Dj,by kernel_rfl,by kernel_rfl,by kernel_rfl,by kernel_rfl,by kernel_rfl,by kernel_rfl,by kernel_rfl,by kernel_rfl,by kernel_rfl,by kernel_rfl,by kernel_rfl⟩
theorem lt:(∀ {α β:Type} (f:α→β) (l:List α),List.take l.length (List.map f l)=List.map f l)∧Program.cellsOf Try.prog 41=1∧Program.cellsOf Try.prog 43=3∧Program.cellsOf Try.prog 47=5∧Program.cellsOf Try.prog 73=9∧Program.cellsOf Try.prog 40=4∧Program.cellsOf Try.prog 55=4∧Program.cellsOf Try.prog 45=3∧Program.cellsOf Try.prog 3=1∧Program.cellsOf Try.prog 98=4∧Program.cellsOf Try.prog 9=1∧Program.cellsOf Try.prog 5=1 :=
 ls.2
theorem cq {ρ:Type} {cont:Tm→Hp→Option ρ} {tm tm':Tm} {hp hp':Hp} {r:Option ρ} (h:cont tm' hp'=r) (h1:tm=tm':=by first | rfl | (simp only[ls]<;>rfl) | (simp only[ls,List.map_append,List.map_cons,List.map_nil,List.append_nil,List.length_set,K1]<;>rfl)) (h2:hp=hp':=by first | rfl | (simp only[ls]<;>rfl) | (simp only[ls,List.map_append,List.map_cons,List.map_nil,List.append_nil,List.length_set,K1]<;>rfl)):cont tm hp=r:=Aq6 h h1 h2
theorem kq {ρ:Type} {K:Ex→Tm→Hp→Option ρ} {e:Ex} {tm tm':Tm} {hp hp':Hp} {r:Option ρ} (h:K e tm' hp'=r) (h1:tm=tm':=by first | rfl | (simp only[ls]<;>rfl) | (simp only[ls,List.map_append,List.map_cons,List.map_nil,List.append_nil,List.length_set,K1]<;>rfl)) (h2:hp=hp':=by first | rfl | (simp only[ls]<;>rfl) | (simp only[ls,List.map_append,List.map_cons,List.map_nil,List.append_nil,List.length_set,K1]<;>rfl)):K e tm hp=r:=Arh h h1 h2
theorem fq {ρ:Type} {x y z:Option ρ} (h:x=y:=by first | rfl | (simp only[K1,List.length_set]<;>rfl) | (simp only[ls]<;>rfl) | ((conv=>lhs;arg 1;arg 1;whnf);simp only[Fk];rfl)) (h2:y=z:=by first | rfl | (simp only[List.map_take,List.map_drop];done) | (simp only[List.map_take,List.map_drop]<;>rfl) | (simp only[ls,List.drop_zero,List.length_set,K1]<;>rfl)):x=z:=h.trans h2
theorem c0:((0:Nat):Int)=0:=rfl
theorem rq {ρ:Type} {x z:Option ρ} (h:x=z:=by first | rfl | (simp only[ls]<;>rfl)):x=z:=h
abbrev iA (x:Int):AV:=.int .i64 x
abbrev bA (x:Bool):AV:=.bool x
abbrev sA (x:List UInt8):AV:=.str x
theorem sj {α:Type} {a r:α} (h:some a=some r):a=r:=Option.some.inj h
theorem lq {ρ σ τ ν:Type} {body:Tm→Hp→(Ex→Tm→Hp→Option ρ)→Option ρ} {keep:Nat→List Nat} {h0:Nat} {K:Ex→Tm→Hp→Option ρ} {r:Option ρ} (id:Nat) (tmOf:σ→(Nat→Nat)→Tm) (hpOf:σ→(Nat→Nat)→Hp) (tmX:τ→(Nat→Nat)→Tm) (hpX:τ→(Nat→Nat)→Hp) (encR:ν→ρ) (L:Nat→σ→Option (LR τ ν)) (hL:∀ s,L 0 s=none) (o:LR τ ν) (n:Nat) (s:σ) (a:Nat→Nat) {tm:Tm} {hp:Hp} (h:L n s=some o)
 (hround:∀ (k:Nat) (s:σ) (a:Nat→Nat) (K':Ex→Tm→Hp→Option ρ) (cont:Tm→Hp→Option ρ),(∀ tm hp,K' .ret tm hp=K .ret tm hp)→(∀ s' a',L k s'=some o→cont (tmOf s' a') (hpOf s' a')=r)→L (k+1) s=some o→Adk K' id tmX hpX encR r o →
  Gl force (fun tm=>Ci (fun hp=>body tm hp (fun e tm hp=>Gl force (fun tm=>Ci (fun hp=>match e with
   | .normal=>cont tm hp
   | .exit id=>K' (.exit id) tm hp
   | .ret=>K' .ret tm hp) (Hh h0 hp)) (Wz (keep (A6x e)) h0 hp 0 tm))) (hpOf s a)) (tmOf s a)=r)
 (hx:Adk K id tmX hpX encR r o)
 (h1:tm=tmOf s a:=by first | rfl | (simp only[ls]<;>rfl) | (simp only[ls,List.map_append,List.map_cons,List.map_nil,List.append_nil,List.length_set,K1]<;>rfl)) (h2:hp=hpOf s a:=by first | rfl | (simp only[ls]<;>rfl) | (simp only[ls,List.map_append,List.map_cons,List.map_nil,List.append_nil,List.length_set,K1]<;>rfl)):rounds body keep h0 n tm hp K=r :=
 Ai4 id tmOf hpOf tmX hpX encR L hL o hround n s a tm hp h hx h1 h2
theorem lrc {ρ τ ν:Type} {K:Ex→Tm→Hp→Option ρ} {id:Nat} {tmX:τ→(Nat→Nat)→Tm} {hpX:τ→(Nat→Nat)→Hp} {encR:ν→ρ} {r:Option ρ} {o:LR τ ν} (h1:∀ v,o=.ret v→r=some (encR v)) (h2:∀ t a,o=.out t→K (.exit id) (tmX t a) (hpX t a)=r):Adk K id tmX hpX encR r o:=by
 cases o with
 | out t=>exact fun a=>h2 t a rfl
 | ret v=>exact h1 v rfl
theorem nn {α:Type} {r:α} {P:Prop}:(none:Option α)=some r→P:=fun h=>by cases h
theorem Ab3 {α:Type} {c:Bool} {a:Option α} {r:α} {G:Prop} (h1:c=true→a=some r→G):(bif c then a else none)=some r→G:=fun h=>B8 h h1
theorem br {α ρ:Type} {c:Bool} {a b:Option α} {r:α} {L L1 L2 R:ρ} (k1:a=some r→L1=R) (k2:b=some r→L2=R) (w1:c=true→L=L1:=by(intro hc;simp only[hc,ls];(conv=>lhs;whnf);try exact rfl)) (w2:c=false→L=L2:=by(intro hc;simp only[hc,ls];(conv=>lhs;whnf);try exact rfl)):(bif c then a else b)=some r→L=R:=by
 cases c
 ·exact fun h=>(w2 rfl).trans (k2 h)
 ·exact fun h=>(w1 rfl).trans (k1 h)
theorem bt {α ρ:Type} {c:Bool} {a:Option α} {r:α} {L L1 R:ρ} (k1:a=some r→L1=R) (w1:c=true→L=L1:=by(intro hc;simp only[hc,ls];(conv=>lhs;whnf);try exact rfl)):(bif c then a else none)=some r→L=R:=by
 cases c
 ·exact fun h=>nn h
 ·exact fun h=>(w1 rfl).trans (k1 h)
theorem cp {α ρ:Type} {c:Bool} {a:Option α} {r:α} {L L1 R:ρ} (k1:a=some r→L1=R) (w1:c=true→∀ q,L1=q→L=q:=by(intro hc q hq;refine B9 hc ?_;(try simp only[ls]);(conv=>lhs;whnf);exact hq)):(bif c then a else none)=some r→L=R:=Ab3 fun hc h=>w1 hc _ (k1 h)
theorem cn {α ρ:Type} {c:Bool} {a:Option α} {r:α} {L L1 R:ρ} (k1:a=some r→L1=R) (w1:c=true→∀ q,L1=q→L=q:=by(intro hc q hq;refine B9 (Art hc (by simp only[B6,Dj]) (by kernel_rfl)) ?_;(try simp only[ls]);(conv=>lhs;whnf);exact hq)):(bif c then a else none)=some r→L=R:=Ab3 fun hc h=>w1 hc _ (k1 h)
theorem sl {α:Type} (f:α→List AV) (l:List α) (i j:Nat):List.drop i (List.take j (List.map f l))=List.map f (List.drop i (List.take j l)):=by rw[List.map_drop,List.map_take]
theorem cs {α ρ:Type} {c:Bool} {a:Option α} {r:α} {E:Prop} {L L1 R:ρ} (e:E) (k1:a=some r→L1=R) (w1:c=true→E→∀ q,L1=q→L=q:=by(intro hc he q hq;(try simp only[ls]);refine B9 hc ?_;simp only[he,ls];(conv=>lhs;whnf);exact hq)):(bif c then a else none)=some r→L=R:=Ab3 fun hc h=>w1 hc e _ (k1 h)
theorem ixs {β ρ:Type} {l:List UInt8} {i:Int} {g:UInt8→Option β} {r:β} {L:ρ} {L1:UInt8→ρ} {R:ρ} (k:∀ x,g x=some r→L1 x=R) (w:∀ x,idx l i=some x→∀ q,L1 x=q→L=q:=by(intro x hx q hq;refine B9 (If hx) ?_;simp only[Aq2 hx,ls];(conv=>lhs;whnf);exact hq)):(idx l i).bind g=some r→L=R:=fun h=>B0 h fun x hx h2=>w x hx _ (k x h2)
theorem ix {α β ρ:Type} {l:List α} {i:Int} {g:α→Option β} {r:β} {L:ρ} {L1:α→ρ} {R:ρ} (k:∀ x,g x=some r→L1 x=R) (w:∀ x,idx l i=some x→∀ q,L1 x=q→L=q:=by(intro x hx q hq;refine B9 (by first | exact If hx | exact Rp hx | (have z:=If hx;simp only[ls] at z ⊢;exact z)) ?_;simp only[M5 hx,ls];(conv=>lhs;whnf);exact hq)):(idx l i).bind g=some r→L=R:=fun h=>B0 h fun x hx h2=>w x hx _ (k x h2)
theorem ca {α β ρ:Type} {P:Program} {H:C2} {X:Ext} {call:Di} {n:Nat} {m:Option α} {g:α→Option β} {r:β} {f:FuncId} {a:List AV} {p:Hp} {v:α→Option (AV×Hp)} {L:ρ} {L1:α→ρ} {R:ρ} (hc:∀ g l h,call false g l h=J4 P H X n g l h) (hk:∀ y,m=some y→J4 P H X n f a p=v y) (k:∀ y,g y=some r→L1 y=R) (w:∀ y,call false f a p=v y→L=L1 y:=by(intro y hk;(first | simp only[hk] | rewrite[hk] | (simp only[ls];simp only[hk]));(conv=>lhs;whnf);try exact rfl)):m.bind g=some r→L=R:=fun h=>B0 h fun y hy h2=>(w y ((hc _ _ _).trans (hk y hy))).trans (k y h2)
theorem tw {α β ρ:Type} {P:Program} {H:C2} {X:Ext} {call:Di} {n:Nat} {m:Option α} {g:α→Option β} {r:β} {f:FuncId} {a:List AV} {v v':α→Option (AV×Hp)} {L:ρ} {L1:α→ρ} {R:ρ} (hc:∀ g l h,call false g l h=J4 P H X n g l h) (hk:∀ y,m=some y→J4 P H X n f a []=v y) (ht:∀ y,call false f a []=v y→Vm P true call f a=v' y) (k:∀ y,g y=some r→L1 y=R) (w:∀ y,(∀ b,b=true→Vm P b call f a=v' y)→L=L1 y:=by(intro y hk;(try simp only[ls]);(rewrite[hk];rotate_left;(first | rfl | kernel_rfl));(try simp only[ls]);(conv=>lhs;whnf);try exact rfl)):m.bind g=some r→L=R:=fun h=>B0 h fun y hy h2=>(w y (fun b hb=>by subst hb;exact ht y ((hc _ _ _).trans (hk y hy)))).trans (k y h2)
theorem nb {γ α ρ:Type} {l:List γ} {a b:Option α} {r:α} {L L1 L2 R:ρ} (k1:a=some r→L1=R) (k2:b=some r→L2=R) (w1:l=[]→L=L1:=by(intro hc;simp only[hc,ls,List.map_nil];(conv=>lhs;whnf);try exact rfl)) (w2:decide (l.length=0)=false→L=L2:=by(intro hc;simp only[hc,ls];(conv=>lhs;whnf);try exact rfl)):(bif decide (l.length=0) then a else b)=some r→L=R:=by
 by_cases h:l.length=0
 ·rw[decide_eq_true h];exact fun e=>(w1 (List.eq_nil_of_length_eq_zero h)).trans (k1 e)
 ·rw[decide_eq_false h];exact fun e=>(w2 (decide_eq_false h)).trans (k2 e)
theorem cr {α β ρ:Type} {P:Program} {H:C2} {X:Ext} {call:Di} {n:Nat} {m:Option α} {g:α→Option β} {r:β} {f:FuncId} {a:List AV} {p:Hp} {v:α→Option (AV×Hp)} {L:ρ} {L1:α→ρ} {R:ρ} (hc:∀ g l h,call false g l h=J4 P H X n g l h) (hk:∀ y,m=some y→J4 P H X n f a p=v y) (k:∀ y,g y=some r→L1 y=R) (w:∀ y,call false f a p=v y→L=L1 y:=by(intro y hk;(try simp only[List.length_nil,List.map_nil] at hk);(try simp only[List.length_nil,List.map_nil]);(first | simp only[hk] | rewrite[hk] | ((try simp only[ls]);(first | simp only[hk] | rewrite[hk])) | ((try simp only[List.drop_zero] at hk);(try simp only[List.drop_zero,ls]);(first | simp only[hk] | rewrite[hk])));(try simp only[ls]);(conv=>lhs;whnf);try exact rfl)):m.bind g=some r→L=R:=ca hc hk k w
theorem ap {α:Type} (f:α→List AV) (a:List (List AV)) (l:List α) (y:List (List AV)) (m:List α) (ha:a=List.map f l:=by rfl) (hy:y=List.map f m:=by rfl):a++y=List.map f (l++m)∧a.length+y.length=(l++m).length∧l.length+y.length=(l++m).length∧l.length+m.length=(l++m).length∧a.length+m.length=(l++m).length:=by
 subst ha;subst hy;simp
theorem ar {α ρ:Type} {c:Bool} {a:Option α} {r:α} {E:Prop} {L L1 R:ρ} (e:E) (k1:a=some r→L1=R) (w1:c=true→E→∀ q,L1=q→L=q:=by(intro hc he q hq;(first | refine B9 (Z5 hc (by first | rfl | simp only[B6]) (by first | rfl | simp only[B6]) (by first | rfl | simp only[B6,Dj]) (by kernel_rfl)) ?_ | refine B9 (W1 hc (by first | rfl | simp only[B6]) (by first | rfl | simp only[B6,Dj]) (by kernel_rfl)) ?_ | skip);(try simp only[lt]);(try simp only[he]);(try simp only[ls,c0]);(try simp only[he]);(try simp only[ls]);(conv=>lhs;whnf);exact hq)):(bif c then a else none)=some r→L=R:=Ab3 fun hc h=>w1 hc e _ (k1 h)
theorem rz {α ρ:Type} {a r:α} {L R:ρ} (k:a=r→L=R:=by(intro e;cases e;first | rfl | (simp only[ls]<;>rfl))):some a=some r→L=R:=fun h=>k (sj h)
set_option linter.unusedSimpArgs false
theorem Atm {a b:List UInt8} (h:bs a=bs b):a=b:=by
 have:=congrArg (fun x:ByteArray=>x.data.toList) h
 simpa [bs] using this
def Am8:Rd (List UInt8):=Asj
theorem Am0:Aie Try.prog 9 Am8:=Aml Try.underlying9 (by kernel_rfl)
set_option maxRecDepth 100000
set_option maxHeartbeats 4000000
noncomputable abbrev CN:=J4 Try.prog HH XT
def P1:Nat→Int→Option Bool
 | 0,_=>none
 | n+1,Gs=>(bif decide (48≤Gs) then(some (decide (Gs≤57))) else(some false))
def O7:Nat→Int→Option Bool
 | 0,_=>none
 | n+1,Gs=>(bif decide (97≤Gs) then(bif decide (Gs≤122) then(some true) else(bif decide (65≤Gs) then(bif decide (Gs≤90) then(some true) else(some (Gs==95))) else(some (Gs==95)))) else(bif decide (65≤Gs) then(bif decide (Gs≤90) then(some true) else(some (Gs==95))) else(some (Gs==95))))
def Qn:Nat→(List UInt8)→Option Int
 | 0,_=>none
 | n+1,Bx=>(bif decide (2≤((Bx.length:Nat):Int)) then(bif (decide (0≤2)&&decide (2≤((Bx.length:Nat):Int))) then(bif ((List.drop 0 (List.take ((2:Int).toNat) Bx))==([61,61]:List UInt8)) then(some 2) else(bif ((List.drop 0 (List.take ((2:Int).toNat) Bx))==([33,61]:List UInt8)) then(some 2) else(bif ((List.drop 0 (List.take ((2:Int).toNat) Bx))==([60,61]:List UInt8)) then(some 2) else(bif ((List.drop 0 (List.take ((2:Int).toNat) Bx))==([38,38]:List UInt8)) then(some 2) else(bif ((List.drop 0 (List.take ((2:Int).toNat) Bx))==([124,124]:List UInt8)) then(some 2) else((idx Bx 0).bind fun x8=>(bif ((x8.toNat:Int)==59) then(some 1) else(bif ((x8.toNat:Int)==44) then(some 1) else(bif ((x8.toNat:Int)==123) then(some 1) else(bif ((x8.toNat:Int)==125) then(some 1) else(bif ((x8.toNat:Int)==40) then(some 1) else(bif ((x8.toNat:Int)==41) then(some 1) else(bif ((x8.toNat:Int)==46) then(some 1) else(bif ((x8.toNat:Int)==61) then(some 1) else(bif ((x8.toNat:Int)==43) then(some 1) else(bif ((x8.toNat:Int)==45) then(some 1) else(bif ((x8.toNat:Int)==42) then(some 1) else(bif ((x8.toNat:Int)==33) then(some 1) else(bif ((x8.toNat:Int)==60) then(some 1) else(some 0)))))))))))))))))))) else none) else((idx Bx 0).bind fun x22=>(bif ((x22.toNat:Int)==59) then(some 1) else(bif ((x22.toNat:Int)==44) then(some 1) else(bif ((x22.toNat:Int)==123) then(some 1) else(bif ((x22.toNat:Int)==125) then(some 1) else(bif ((x22.toNat:Int)==40) then(some 1) else(bif ((x22.toNat:Int)==41) then(some 1) else(bif ((x22.toNat:Int)==46) then(some 1) else(bif ((x22.toNat:Int)==61) then(some 1) else(bif ((x22.toNat:Int)==43) then(some 1) else(bif ((x22.toNat:Int)==45) then(some 1) else(bif ((x22.toNat:Int)==42) then(some 1) else(bif ((x22.toNat:Int)==33) then(some 1) else(bif ((x22.toNat:Int)==60) then(some 1) else(some 0))))))))))))))))
def D6 (n:Nat)  (Bx:(List UInt8)):Nat→Int→(List A5)→Option (LR (List A5) ((List A5)×Int×Int))
 | 0,_,_=>none
 | k4+1,s2,s3=>(bif decide (s2<((Bx.length:Nat):Int)) then(bif (decide (0≤s2)&&decide (s2≤((Bx.length:Nat):Int))) then((idx (List.drop (s2.toNat) (List.take (Bx.length) Bx)) 0).bind fun x14=>(bif ((IntKind.i32.wrap ((x14.toNat:Int)))==32) then(D6 n Bx k4 (IntKind.i64.wrap (s2+1)) s3) else(bif ((IntKind.i32.wrap ((x14.toNat:Int)))==9) then(D6 n Bx k4 (IntKind.i64.wrap (s2+1)) s3) else(bif ((IntKind.i32.wrap ((x14.toNat:Int)))==10) then(D6 n Bx k4 (IntKind.i64.wrap (s2+1)) s3) else(bif ((IntKind.i32.wrap ((x14.toNat:Int)))==13) then(D6 n Bx k4 (IntKind.i64.wrap (s2+1)) s3) else(bif ((IntKind.i32.wrap ((x14.toNat:Int)))==35) then((Mu n (List.drop (s2.toNat) (List.take (Bx.length) Bx))).bind fun y20=>(D6 n Bx k4 (IntKind.i64.wrap (s2+y20)) s3)) else((O7 n (IntKind.i32.wrap ((x14.toNat:Int)))).bind fun y22=>(bif y22 then((Mv n (List.drop (s2.toNat) (List.take (Bx.length) Bx))).bind fun y25=>(bif decide (16<y25) then(some (.ret (([]:List A5),2,s2))) else(bif (decide (0≤y25)&&decide (y25≤((((List.drop (s2.toNat) (List.take (Bx.length) Bx))).length:Nat):Int))) then(bif decide ((s3.length+1)*41≤140737488355328) then(D6 n Bx k4 (IntKind.i64.wrap (s2+((((List.drop 0 (List.take (y25.toNat) (List.drop (s2.toNat) (List.take (Bx.length) Bx))))).length:Nat):Int))) (s3++([(⟨1,(List.drop 0 (List.take (y25.toNat) (List.drop (s2.toNat) (List.take (Bx.length) Bx)))),0,s2⟩:A5)]:List A5))) else none) else none))) else((P1 n (IntKind.i32.wrap ((x14.toNat:Int)))).bind fun y31=>(bif y31 then((No n (List.drop (s2.toNat) (List.take (Bx.length) Bx))).bind fun y34=>(bif (decide (0≤y34)&&decide (y34≤((((List.drop (s2.toNat) (List.take (Bx.length) Bx))).length:Nat):Int))) then(bif (decide (0≤y34)&&decide (y34≤((((List.drop (s2.toNat) (List.take (Bx.length) Bx))).length:Nat):Int))) then((Si n (List.drop 0 (List.take (y34.toNat) (List.drop (s2.toNat) (List.take (Bx.length) Bx))))).bind fun y38=>(bif decide (9999<y38) then(some (.ret (([]:List A5),4,s2))) else(bif decide ((s3.length+1)*41≤140737488355328) then(D6 n Bx k4 (IntKind.i64.wrap (s2+((((List.drop 0 (List.take (y34.toNat) (List.drop (s2.toNat) (List.take (Bx.length) Bx))))).length:Nat):Int))) (s3++([(⟨2,(List.drop 0 (List.take (y34.toNat) (List.drop (s2.toNat) (List.take (Bx.length) Bx)))),y38,s2⟩:A5)]:List A5))) else none))) else none) else none)) else((Qn n (List.drop (s2.toNat) (List.take (Bx.length) Bx))).bind fun y43=>(bif (y43==0) then(some (.ret (([]:List A5),3,s2))) else(bif (decide (0≤y43)&&decide (y43≤((((List.drop (s2.toNat) (List.take (Bx.length) Bx))).length:Nat):Int))) then(bif decide ((s3.length+1)*41≤140737488355328) then(D6 n Bx k4 (IntKind.i64.wrap (s2+((((List.drop 0 (List.take (y43.toNat) (List.drop (s2.toNat) (List.take (Bx.length) Bx))))).length:Nat):Int))) (s3++([(⟨3,(List.drop 0 (List.take (y43.toNat) (List.drop (s2.toNat) (List.take (Bx.length) Bx)))),0,s2⟩:A5)]:List A5))) else none) else none))))))))))))) else none) else(some (.out s3)))
def Qv:Nat→(List UInt8)→Option ((List A5)×Int×Int)
 | 0,_=>none
 | n+1,Bx=>(bif decide (20000<((Bx.length:Nat):Int)) then(some (([]:List A5),2,20000)) else((D6 n Bx n 0 ([]:List A5)).bind fun o11=>match o11 with|.out x50=>(some (x50,0,0))|.ret v=>some v))
def Gt (n:Nat)  (Bp:(List A2)) (Br:(List A2)):Nat→Bool→Int→Option (LR Unit Bool)
 | 0,_,_=>none
 | k4+1,s2,s3=>(bif decide (s3<((Bp.length:Nat):Int)) then((idx Bp s3).bind fun x13=>((idx Br s3).bind fun x14=>(bif (x13.As != x14.As) then(some (.ret false)) else((idx Bp s3).bind fun x16=>((idx Br s3).bind fun x17=>(bif (x16.Bs != x17.Bs) then(some (.ret false)) else((idx Bp s3).bind fun x19=>((idx Br s3).bind fun x20=>(bif (x19.Ai==x20.Ai) then((idx Bp s3).bind fun x22=>((idx Br s3).bind fun x23=>(bif (x22.D5==x23.D5) then(bif s2 then((idx Bp s3).bind fun x26=>((idx Br s3).bind fun x27=>(bif (x26.Ao != x27.Ao) then(some (.ret false)) else(Gt n Bp Br k4 true (IntKind.i64.wrap (s3+1)))))) else(Gt n Bp Br k4 false (IntKind.i64.wrap (s3+1)))) else(some (.ret false))))) else(some (.ret false))))))))))) else(some (.out ())))
def Ip:Nat→(List A2)→(List A2)→Bool→Option Bool
 | 0,_,_,_=>none
 | n+1,Bp,Br,Fb=>(bif (((Bp.length:Nat):Int) != ((Br.length:Nat):Int)) then(some false) else((Gt n Bp Br n Fb 0).bind fun o11=>match o11 with|.out _=>(some true)|.ret v=>some v))
def My:Nat→Int→Option Int
 | 0,_=>none
 | n+1,Fq=>(bif decide (1≤Fq) then(bif decide (Fq≤4) then(some 0) else(bif (Fq==5) then(some 1) else(bif decide (6≤Fq) then(bif decide (Fq≤14) then(some 2) else(some (-1))) else(some (-1))))) else(bif (Fq==5) then(some 1) else(bif decide (6≤Fq) then(bif decide (Fq≤14) then(some 2) else(some (-1))) else(some (-1)))))
def In (n:Nat)  (Av:(List A2)):Nat→Int→Int→Option (LR Unit Int)
 | 0,_,_=>none
 | k4+1,s2,s3=>(bif decide (s2<((Av.length:Nat):Int)) then((idx Av s2).bind fun x13=>((My n x13.As).bind fun y14=>(bif decide (y14<0) then(some (.ret (-1))) else(bif ((IntKind.i64.wrap (s3+(IntKind.i64.wrap (y14 - 1))))==0) then(some (.ret (IntKind.i64.wrap (s2+1)))) else(In n Av k4 (IntKind.i64.wrap (s2+1)) (IntKind.i64.wrap (s3+(IntKind.i64.wrap (y14 - 1))))))))) else(some (.out ())))
def S4:Nat→(List A2)→Int→Option Int
 | 0,_,_=>none
 | n+1,Av,Ew=>(bif decide (Ew<0) then(some (-1)) else((In n Av n Ew 1).bind fun o11=>match o11 with|.out _=>(some (-1))|.ret v=>some v))
def F6 (n:Nat)  (Av:(List A2)):Nat→Int→(List A2)→Option (LR (List A2) (List A2))
 | 0,_,_=>none
 | k3+1,s1,s2=>(bif decide (s1<((Av.length:Nat):Int)) then((idx Av s1).bind fun x12=>(bif (x12.As==2) then(bif decide ((s2.length+1)*57≤140737488355328) then(F6 n Av k3 (IntKind.i64.wrap (s1+1)) (s2++([x12]:List A2))) else none) else(bif (x12.As==3) then(bif decide ((s2.length+1)*57≤140737488355328) then(F6 n Av k3 (IntKind.i64.wrap (s1+1)) (s2++([x12]:List A2))) else none) else(bif (x12.As==4) then(bif decide ((s2.length+1)*57≤140737488355328) then(F6 n Av k3 (IntKind.i64.wrap (s1+1)) (s2++([x12]:List A2))) else none) else(F6 n Av k3 (IntKind.i64.wrap (s1+1)) s2))))) else(some (.out s2)))
def Nh:Nat→(List A2)→Option (List A2)
 | 0,_=>none
 | n+1,Av=>((F6 n Av n 0 ([]:List A2)).bind fun o10=>match o10 with|.out x23=>(some x23)|.ret v=>some v)
def Jc (n:Nat) :Nat→(List Int)→Option (LR (List Int) Int)
 | 0,_=>none
 | k21+1,s20=>(bif decide (0<((s20.length:Nat):Int)) then((idx s20 (IntKind.i64.wrap (((s20.length:Nat):Int) - 1))).bind fun x30=>((idx s20 (IntKind.i64.wrap (((s20.length:Nat):Int) - 1))).bind fun x31=>((idx (List.set s20 (IntKind.i64.wrap (((s20.length:Nat):Int) - 1)).toNat (IntKind.i64.wrap (x30 - 1))) (IntKind.i64.wrap (((s20.length:Nat):Int) - 1))).bind fun x33=>(bif decide (0<x33) then(some (.out (List.set s20 (IntKind.i64.wrap (((s20.length:Nat):Int) - 1)).toNat (IntKind.i64.wrap (x30 - 1))))) else(bif (decide (0≤(IntKind.i64.wrap (((s20.length:Nat):Int) - 1)))&&decide ((IntKind.i64.wrap (((s20.length:Nat):Int) - 1))≤((((List.set s20 (IntKind.i64.wrap (((s20.length:Nat):Int) - 1)).toNat (IntKind.i64.wrap (x30 - 1)))).length:Nat):Int))) then(Jc n k21 (List.take ((IntKind.i64.wrap (((s20.length:Nat):Int) - 1)).toNat) (List.set s20 (IntKind.i64.wrap (((s20.length:Nat):Int) - 1)).toNat (IntKind.i64.wrap (x30 - 1))))) else none))))) else(some (.out s20)))
def Gv (n:Nat)  (Av:(List A2)):Nat→Int→Int→(List Int)→Option (LR (Int×(List Int)) Int)
 | 0,_,_,_=>none
 | k4+1,s1,s2,s3=>(bif decide (s2<((Av.length:Nat):Int)) then((idx Av s2).bind fun x13=>((My n x13.As).bind fun y14=>(bif decide (0<y14) then(bif decide ((s3.length+1)*9≤140737488355328) then(Gv n Av k4 (if s1<((s3.length:Nat):Int) then((s3.length:Nat):Int) else s1) (IntKind.i64.wrap (s2+1)) (s3++([y14]:List Int))) else none) else((Jc n n s3).bind fun o28=>match o28 with|.out x38=>(Gv n Av k4 (if s1<((s3.length:Nat):Int) then((s3.length:Nat):Int) else s1) (IntKind.i64.wrap (s2+1)) x38)|.ret v=>some (.ret v))))) else(some (.out (s1,s3))))
def Na:Nat→(List A2)→Option Int
 | 0,_=>none
 | n+1,Av=>((Gv n Av n 0 0 ([]:List Int)).bind fun o11=>match o11 with|.out (x41,x42)=>(some x41)|.ret v=>some v)
def Gg (n:Nat)  (M6:(List (List A2))):Nat→Int→(List A2)→Option (LR (List A2) (List A2))
 | 0,_,_=>none
 | k3+1,s1,s2=>(bif decide (s1<((M6.length:Nat):Int)) then((idx M6 s1).bind fun x12=>(bif decide ((s2.length+x12.length)*57≤140737488355328) then(Gg n M6 k3 (IntKind.i64.wrap (s1+1)) (s2++x12)) else none)) else(some (.out s2)))
def D1:Nat→A2→(List (List A2))→Option (List A2)
 | 0,_,_=>none
 | n+1,B1,M6=>((Gg n M6 n 0 ([B1]:List A2)).bind fun o10=>match o10 with|.out x16=>(some x16)|.ret v=>some v)
def Cr:Nat→(List UInt8)→(List A5)→Int→Int→Int→Int→Option Bool
 | 0,_,_,_,_,_,_=>none
 | n+1,Lw,p_l,p_i,p_in,p_e,p_at=>(bif decide (p_i<((p_l.length:Nat):Int)) then((idx p_l p_i).bind fun x2=>(bif (x2.A9==3) then((idx p_l p_i).bind fun x4=>(some (x4.Aa==Lw))) else(some false))) else(some false))
def Cc:Nat→Int→(List A5)→Int→Int→Int→Int→Option ((List A2)×Int×Int)
 | 0,_,_,_,_,_,_=>none
 | n+1,Ut,p_l,p_i,p_in,p_e,p_at=>(bif (p_e != 0) then(some (([]:List A2),p_e,p_at)) else(bif decide (p_i<((p_l.length:Nat):Int)) then((idx p_l p_i).bind fun x3=>(some (([]:List A2),Ut,x3.Ao))) else(bif (Ut==5) then(bif decide (0<((p_l.length:Nat):Int)) then((idx p_l (IntKind.i64.wrap (((p_l.length:Nat):Int) - 1))).bind fun x6=>((idx p_l (IntKind.i64.wrap (((p_l.length:Nat):Int) - 1))).bind fun x7=>(some (([]:List A2),6,IntKind.i64.wrap (x6.Ao+((x7.Aa.length:Nat):Int)))))) else(some (([]:List A2),6,p_at))) else(bif decide (0<((p_l.length:Nat):Int)) then((idx p_l (IntKind.i64.wrap (((p_l.length:Nat):Int) - 1))).bind fun x9=>((idx p_l (IntKind.i64.wrap (((p_l.length:Nat):Int) - 1))).bind fun x10=>(some (([]:List A2),Ut,IntKind.i64.wrap (x9.Ao+((x10.Aa.length:Nat):Int)))))) else(some (([]:List A2),Ut,p_at))))))
def Db:Nat→(List A5)→Int→Int→Int→Int→Option ((List UInt8)×Int×Bool×Int)
 | 0,_,_,_,_,_=>none
 | n+1,p_l,p_i,p_in,p_e,p_at=>(bif decide (((p_l.length:Nat):Int)≤p_i) then(some (([]:List UInt8),0,false,p_i)) else((idx p_l p_i).bind fun x2=>(bif (x2.A9 != 1) then(some (([]:List UInt8),0,false,p_i)) else((idx p_l p_i).bind fun x4=>((Dg n x4.Aa).bind fun y5=>(bif y5 then((idx p_l p_i).bind fun x8=>(some (x8.Aa,x8.Ao,true,IntKind.i64.wrap (p_i+1)))) else(some (([]:List UInt8),0,false,p_i))))))))
def Il:Nat→Int→Option (List UInt8)
 | 0,_=>none
 | n+1,Fq=>(bif decide (Fq=((14:Nat):Int)) then(some ([124,124]:List UInt8)) else(bif decide (Fq=((13:Nat):Int)) then(some ([38,38]:List UInt8)) else(bif decide (Fq=((12:Nat):Int)) then(some ([60,61]:List UInt8)) else(bif decide (Fq=((11:Nat):Int)) then(some ([60]:List UInt8)) else(bif decide (Fq=((10:Nat):Int)) then(some ([33,61]:List UInt8)) else(bif decide (Fq=((9:Nat):Int)) then(some ([61,61]:List UInt8)) else(bif decide (Fq=((8:Nat):Int)) then(some ([42]:List UInt8)) else(bif decide (Fq=((7:Nat):Int)) then(some ([45]:List UInt8)) else(bif decide (Fq=((6:Nat):Int)) then(some ([43]:List UInt8)) else(bif decide (Fq=((5:Nat):Int)) then(some ([33]:List UInt8)) else(bif decide (Fq=((4:Nat):Int)) then(some ([]:List UInt8)) else(bif decide (Fq=((3:Nat):Int)) then(some ([]:List UInt8)) else(bif decide (Fq=((2:Nat):Int)) then(some ([]:List UInt8)) else(bif decide (Fq=((1:Nat):Int)) then(some ([]:List UInt8)) else(bif decide (Fq=((0:Nat):Int)) then(some ([]:List UInt8)) else none)))))))))))))))
def Bu (n:Nat)  (Az:(List Int)) (p_l:(List A5)) (s5:Int) (s6:Int) (s7:Int) (s8:Int):Nat→Int→Int→Option (LR Int ((List A2)×Int×Int×Int×Int))
 | 0,_,_=>none
 | k20+1,s18,s19=>(bif decide (s19<((Az.length:Nat):Int)) then((idx Az s19).bind fun x29=>((Il n x29).bind fun y30=>((Cr n y30 p_l s5 s6 s7 s8).bind fun y32=>(bif y32 then(Bu n Az p_l s5 s6 s7 s8 k20 x29 (IntKind.i64.wrap (s19+1))) else(Bu n Az p_l s5 s6 s7 s8 k20 s18 (IntKind.i64.wrap (s19+1))))))) else(some (.out s18)))
def Bd (n:Nat) (rec_expr_parser_both:(List A5)→Int→Int→Int→Int→Option ((List A2)×Int×Int×Int×Int)) (Az:(List Int)) (p_l:(List A5)):Nat→Bool→(List A2)→Int→Int→Int→Int→Option (LR ((List A2)×Int×Int×Int×Int) ((List A2)×Int×Int×Int×Int))
 | 0,_,_,_,_,_,_=>none
 | k9+1,s3,s4,s5,s6,s7,s8=>(bif (s7==0) then((Bu n Az p_l s5 s6 s7 s8 n 0 0).bind fun o27=>match o27 with|.out x36=>(bif (x36==0) then(some (.out (s4,s5,s6,s7,s8))) else((idx p_l s5).bind fun x38=>((rec_expr_parser_both p_l (IntKind.i64.wrap (s5+1)) s6 s7 s8).bind fun y39=>((D1 n (⟨x36,0,([]:List UInt8),([]:List UInt8),x38.Ao⟩:A2) ([s4,y39.1]:List (List A2))).bind fun y41=>(bif s3 then(some (.out (y41,y39.2.1,y39.2.2.1,y39.2.2.2.1,y39.2.2.2.2))) else(Bd n rec_expr_parser_both Az p_l k9 false y41 y39.2.1 y39.2.2.1 y39.2.2.2.1 y39.2.2.2.2))))))|.ret v=>some (.ret v)) else(some (.out (s4,s5,s6,s7,s8))))
def El (n:Nat)  (Az:(List Int)) (p_l:(List A5)) (s5:Int) (s6:Int) (s7:Int) (s8:Int):Nat→Int→Int→Option (LR Int ((List A2)×Int×Int×Int×Int))
 | 0,_,_=>none
 | k20+1,s18,s19=>(bif decide (s19<((Az.length:Nat):Int)) then((idx Az s19).bind fun x29=>((Il n x29).bind fun y30=>((Cr n y30 p_l s5 s6 s7 s8).bind fun y32=>(bif y32 then(El n Az p_l s5 s6 s7 s8 k20 x29 (IntKind.i64.wrap (s19+1))) else(El n Az p_l s5 s6 s7 s8 k20 s18 (IntKind.i64.wrap (s19+1))))))) else(some (.out s18)))
def Fg (n:Nat) (rec_expr_parser_compared:(List A5)→Int→Int→Int→Int→Option ((List A2)×Int×Int×Int×Int)) (Az:(List Int)) (p_l:(List A5)):Nat→Bool→(List A2)→Int→Int→Int→Int→Option (LR ((List A2)×Int×Int×Int×Int) ((List A2)×Int×Int×Int×Int))
 | 0,_,_,_,_,_,_=>none
 | k9+1,s3,s4,s5,s6,s7,s8=>(bif (s7==0) then((El n Az p_l s5 s6 s7 s8 n 0 0).bind fun o27=>match o27 with|.out x36=>(bif (x36==0) then(some (.out (s4,s5,s6,s7,s8))) else((idx p_l s5).bind fun x38=>((rec_expr_parser_compared p_l (IntKind.i64.wrap (s5+1)) s6 s7 s8).bind fun y39=>((D1 n (⟨x36,0,([]:List UInt8),([]:List UInt8),x38.Ao⟩:A2) ([s4,y39.1]:List (List A2))).bind fun y41=>(bif s3 then(some (.out (y41,y39.2.1,y39.2.2.1,y39.2.2.2.1,y39.2.2.2.2))) else(Fg n rec_expr_parser_compared Az p_l k9 false y41 y39.2.1 y39.2.2.1 y39.2.2.2.1 y39.2.2.2.2))))))|.ret v=>some (.ret v)) else(some (.out (s4,s5,s6,s7,s8))))
def Eo (n:Nat)  (Az:(List Int)) (p_l:(List A5)) (s5:Int) (s6:Int) (s7:Int) (s8:Int):Nat→Int→Int→Option (LR Int ((List A2)×Int×Int×Int×Int))
 | 0,_,_=>none
 | k20+1,s18,s19=>(bif decide (s19<((Az.length:Nat):Int)) then((idx Az s19).bind fun x29=>((Il n x29).bind fun y30=>((Cr n y30 p_l s5 s6 s7 s8).bind fun y32=>(bif y32 then(Eo n Az p_l s5 s6 s7 s8 k20 x29 (IntKind.i64.wrap (s19+1))) else(Eo n Az p_l s5 s6 s7 s8 k20 s18 (IntKind.i64.wrap (s19+1))))))) else(some (.out s18)))
def Fh (n:Nat) (rec_expr_parser_sum:(List A5)→Int→Int→Int→Int→Option ((List A2)×Int×Int×Int×Int)) (Az:(List Int)) (p_l:(List A5)):Nat→Bool→(List A2)→Int→Int→Int→Int→Option (LR ((List A2)×Int×Int×Int×Int) ((List A2)×Int×Int×Int×Int))
 | 0,_,_,_,_,_,_=>none
 | k9+1,s3,s4,s5,s6,s7,s8=>(bif (s7==0) then((Eo n Az p_l s5 s6 s7 s8 n 0 0).bind fun o27=>match o27 with|.out x36=>(bif (x36==0) then(some (.out (s4,s5,s6,s7,s8))) else((idx p_l s5).bind fun x38=>((rec_expr_parser_sum p_l (IntKind.i64.wrap (s5+1)) s6 s7 s8).bind fun y39=>((D1 n (⟨x36,0,([]:List UInt8),([]:List UInt8),x38.Ao⟩:A2) ([s4,y39.1]:List (List A2))).bind fun y41=>(bif s3 then(some (.out (y41,y39.2.1,y39.2.2.1,y39.2.2.2.1,y39.2.2.2.2))) else(Fh n rec_expr_parser_sum Az p_l k9 false y41 y39.2.1 y39.2.2.1 y39.2.2.2.1 y39.2.2.2.2))))))|.ret v=>some (.ret v)) else(some (.out (s4,s5,s6,s7,s8))))
def Em (n:Nat)  (Az:(List Int)) (p_l:(List A5)) (s5:Int) (s6:Int) (s7:Int) (s8:Int):Nat→Int→Int→Option (LR Int ((List A2)×Int×Int×Int×Int))
 | 0,_,_=>none
 | k20+1,s18,s19=>(bif decide (s19<((Az.length:Nat):Int)) then((idx Az s19).bind fun x29=>((Il n x29).bind fun y30=>((Cr n y30 p_l s5 s6 s7 s8).bind fun y32=>(bif y32 then(Em n Az p_l s5 s6 s7 s8 k20 x29 (IntKind.i64.wrap (s19+1))) else(Em n Az p_l s5 s6 s7 s8 k20 s18 (IntKind.i64.wrap (s19+1))))))) else(some (.out s18)))
def Ff (n:Nat) (rec_expr_parser_product:(List A5)→Int→Int→Int→Int→Option ((List A2)×Int×Int×Int×Int)) (Az:(List Int)) (p_l:(List A5)):Nat→Bool→(List A2)→Int→Int→Int→Int→Option (LR ((List A2)×Int×Int×Int×Int) ((List A2)×Int×Int×Int×Int))
 | 0,_,_,_,_,_,_=>none
 | k9+1,s3,s4,s5,s6,s7,s8=>(bif (s7==0) then((Em n Az p_l s5 s6 s7 s8 n 0 0).bind fun o27=>match o27 with|.out x36=>(bif (x36==0) then(some (.out (s4,s5,s6,s7,s8))) else((idx p_l s5).bind fun x38=>((rec_expr_parser_product p_l (IntKind.i64.wrap (s5+1)) s6 s7 s8).bind fun y39=>((D1 n (⟨x36,0,([]:List UInt8),([]:List UInt8),x38.Ao⟩:A2) ([s4,y39.1]:List (List A2))).bind fun y41=>(bif s3 then(some (.out (y41,y39.2.1,y39.2.2.1,y39.2.2.2.1,y39.2.2.2.2))) else(Ff n rec_expr_parser_product Az p_l k9 false y41 y39.2.1 y39.2.2.1 y39.2.2.2.1 y39.2.2.2.2))))))|.ret v=>some (.ret v)) else(some (.out (s4,s5,s6,s7,s8))))
def Et (n:Nat)  (Az:(List Int)) (p_l:(List A5)) (s5:Int) (s6:Int) (s7:Int) (s8:Int):Nat→Int→Int→Option (LR Int ((List A2)×Int×Int×Int×Int))
 | 0,_,_=>none
 | k20+1,s18,s19=>(bif decide (s19<((Az.length:Nat):Int)) then((idx Az s19).bind fun x29=>((Il n x29).bind fun y30=>((Cr n y30 p_l s5 s6 s7 s8).bind fun y32=>(bif y32 then(Et n Az p_l s5 s6 s7 s8 k20 x29 (IntKind.i64.wrap (s19+1))) else(Et n Az p_l s5 s6 s7 s8 k20 s18 (IntKind.i64.wrap (s19+1))))))) else(some (.out s18)))
def Fi (n:Nat) (rec_expr_parser_single:(List A5)→Int→Int→Int→Int→Option ((List A2)×Int×Int×Int×Int)) (Az:(List Int)) (p_l:(List A5)):Nat→Bool→(List A2)→Int→Int→Int→Int→Option (LR ((List A2)×Int×Int×Int×Int) ((List A2)×Int×Int×Int×Int))
 | 0,_,_,_,_,_,_=>none
 | k9+1,s3,s4,s5,s6,s7,s8=>(bif (s7==0) then((Et n Az p_l s5 s6 s7 s8 n 0 0).bind fun o27=>match o27 with|.out x36=>(bif (x36==0) then(some (.out (s4,s5,s6,s7,s8))) else((idx p_l s5).bind fun x38=>((rec_expr_parser_single p_l (IntKind.i64.wrap (s5+1)) s6 s7 s8).bind fun y39=>((D1 n (⟨x36,0,([]:List UInt8),([]:List UInt8),x38.Ao⟩:A2) ([s4,y39.1]:List (List A2))).bind fun y41=>(bif s3 then(some (.out (y41,y39.2.1,y39.2.2.1,y39.2.2.2.1,y39.2.2.2.2))) else(Fi n rec_expr_parser_single Az p_l k9 false y41 y39.2.1 y39.2.2.1 y39.2.2.2.1 y39.2.2.2.2))))))|.ret v=>some (.ret v)) else(some (.out (s4,s5,s6,s7,s8))))
mutual
def D0:Nat→(List A5)→Int→Int→Int→Int→Option ((List A2)×Int×Int×Int×Int)
 | 0,_,_,_,_,_=>none
 | n+1,p_l,p_i,p_in,p_e,p_at=>(((N8 n) false ([14]:List Int) p_l p_i p_in p_e p_at).bind fun y1=>(some (y1.1,y1.2.1,y1.2.2.1,y1.2.2.2.1,y1.2.2.2.2)))
def Da:Nat→(List A5)→Int→Int→Int→Int→Option ((List A2)×Int×Int×Int×Int)
 | 0,_,_,_,_,_=>none
 | n+1,p_l,p_i,p_in,p_e,p_at=>(((Lr n) false ([13]:List Int) p_l p_i p_in p_e p_at).bind fun y1=>(some (y1.1,y1.2.1,y1.2.2.1,y1.2.2.2.1,y1.2.2.2.2)))
def Cm:Nat→(List A5)→Int→Int→Int→Int→Option ((List A2)×Int×Int×Int×Int)
 | 0,_,_,_,_,_=>none
 | n+1,p_l,p_i,p_in,p_e,p_at=>(((Ll n) true ([9,10,11,12]:List Int) p_l p_i p_in p_e p_at).bind fun y1=>(some (y1.1,y1.2.1,y1.2.2.1,y1.2.2.2.1,y1.2.2.2.2)))
def F4:Nat→(List A5)→Int→Int→Int→Int→Option ((List A2)×Int×Int×Int×Int)
 | 0,_,_,_,_,_=>none
 | n+1,p_l,p_i,p_in,p_e,p_at=>(bif decide (30≤p_in) then((Cc n 7 p_l p_i p_in p_e p_at).bind fun y2=>(some (y2.1,p_i,p_in,y2.2.1,y2.2.2))) else(((Bq n) p_l (IntKind.i64.wrap (p_i+1)) (IntKind.i64.wrap (p_in+1)) p_e p_at).bind fun y4=>(some (y4.1,y4.2.1,IntKind.i64.wrap (y4.2.2.1 - 1),y4.2.2.2.1,y4.2.2.2.2))))
def Ec:Nat→(List A5)→Int→Int→Int→Int→Option ((List A2)×Int×Int×Int×Int)
 | 0,_,_,_,_,_=>none
 | n+1,p_l,p_i,p_in,p_e,p_at=>(bif decide (30≤p_in) then((Cc n 7 p_l p_i p_in p_e p_at).bind fun y2=>(some (y2.1,p_i,p_in,y2.2.1,y2.2.2))) else(((D0 n) p_l (IntKind.i64.wrap (p_i+1)) (IntKind.i64.wrap (p_in+1)) p_e p_at).bind fun y4=>(some (y4.1,y4.2.1,IntKind.i64.wrap (y4.2.2.1 - 1),y4.2.2.2.1,y4.2.2.2.2))))
def Cq:Nat→(List A5)→Int→Int→Int→Int→Option ((List A2)×Int×Int×Int×Int)
 | 0,_,_,_,_,_=>none
 | n+1,p_l,p_i,p_in,p_e,p_at=>(((Lm n) false ([8]:List Int) p_l p_i p_in p_e p_at).bind fun y1=>(some (y1.1,y1.2.1,y1.2.2.1,y1.2.2.2.1,y1.2.2.2.2)))
def N8:Nat→Bool→(List Int)→(List A5)→Int→Int→Int→Int→Option ((List A2)×Int×Int×Int×Int)
 | 0,_,_,_,_,_,_,_=>none
 | n+1,D4,Az,p_l,p_i,p_in,p_e,p_at=>(((Da n) p_l p_i p_in p_e p_at).bind fun y1=>((Bd n (Da n) Az p_l n D4 y1.1 y1.2.1 y1.2.2.1 y1.2.2.2.1 y1.2.2.2.2).bind fun o16=>match o16 with|.out (x46,x47,x48,x49,x50)=>(some (x46,x47,x48,x49,x50))|.ret v=>some v))
def Lr:Nat→Bool→(List Int)→(List A5)→Int→Int→Int→Int→Option ((List A2)×Int×Int×Int×Int)
 | 0,_,_,_,_,_,_,_=>none
 | n+1,D4,Az,p_l,p_i,p_in,p_e,p_at=>(((Cm n) p_l p_i p_in p_e p_at).bind fun y1=>((Fg n (Cm n) Az p_l n D4 y1.1 y1.2.1 y1.2.2.1 y1.2.2.2.1 y1.2.2.2.2).bind fun o16=>match o16 with|.out (x46,x47,x48,x49,x50)=>(some (x46,x47,x48,x49,x50))|.ret v=>some v))
def Ll:Nat→Bool→(List Int)→(List A5)→Int→Int→Int→Int→Option ((List A2)×Int×Int×Int×Int)
 | 0,_,_,_,_,_,_,_=>none
 | n+1,D4,Az,p_l,p_i,p_in,p_e,p_at=>(((Do n) p_l p_i p_in p_e p_at).bind fun y1=>((Fh n (Do n) Az p_l n D4 y1.1 y1.2.1 y1.2.2.1 y1.2.2.2.1 y1.2.2.2.2).bind fun o16=>match o16 with|.out (x46,x47,x48,x49,x50)=>(some (x46,x47,x48,x49,x50))|.ret v=>some v))
def Li:Nat→Bool→(List Int)→(List A5)→Int→Int→Int→Int→Option ((List A2)×Int×Int×Int×Int)
 | 0,_,_,_,_,_,_,_=>none
 | n+1,D4,Az,p_l,p_i,p_in,p_e,p_at=>(((Cq n) p_l p_i p_in p_e p_at).bind fun y1=>((Ff n (Cq n) Az p_l n D4 y1.1 y1.2.1 y1.2.2.1 y1.2.2.2.1 y1.2.2.2.2).bind fun o16=>match o16 with|.out (x46,x47,x48,x49,x50)=>(some (x46,x47,x48,x49,x50))|.ret v=>some v))
def Lm:Nat→Bool→(List Int)→(List A5)→Int→Int→Int→Int→Option ((List A2)×Int×Int×Int×Int)
 | 0,_,_,_,_,_,_,_=>none
 | n+1,D4,Az,p_l,p_i,p_in,p_e,p_at=>(((Bq n) p_l p_i p_in p_e p_at).bind fun y1=>((Fi n (Bq n) Az p_l n D4 y1.1 y1.2.1 y1.2.2.1 y1.2.2.2.1 y1.2.2.2.2).bind fun o16=>match o16 with|.out (x46,x47,x48,x49,x50)=>(some (x46,x47,x48,x49,x50))|.ret v=>some v))
def Bq:Nat→(List A5)→Int→Int→Int→Int→Option ((List A2)×Int×Int×Int×Int)
 | 0,_,_,_,_,_=>none
 | n+1,p_l,p_i,p_in,p_e,p_at=>(bif (p_e != 0) then(some (([]:List A2),p_i,p_in,p_e,p_at)) else((Cr n ([33]:List UInt8) p_l p_i p_in p_e p_at).bind fun y2=>(bif y2 then((idx p_l p_i).bind fun x5=>(((F4 n) p_l p_i p_in p_e p_at).bind fun y6=>((D1 n (⟨5,0,([]:List UInt8),([]:List UInt8),x5.Ao⟩:A2) ([y6.1]:List (List A2))).bind fun y8=>(some (y8,y6.2.1,y6.2.2.1,y6.2.2.2.1,y6.2.2.2.2))))) else((Cr n ([40]:List UInt8) p_l p_i p_in p_e p_at).bind fun y10=>(bif y10 then(((Ec n) p_l p_i p_in p_e p_at).bind fun y13=>(bif (y13.2.2.2.1==0) then((Cr n ([41]:List UInt8) p_l y13.2.1 y13.2.2.1 y13.2.2.2.1 y13.2.2.2.2).bind fun y16=>(bif y16 then(some (y13.1,IntKind.i64.wrap (y13.2.1+1),y13.2.2.1,y13.2.2.2.1,y13.2.2.2.2)) else((Cc n 5 p_l y13.2.1 y13.2.2.1 y13.2.2.2.1 y13.2.2.2.2).bind fun y19=>(some (y19.1,y13.2.1,y13.2.2.1,y19.2.1,y19.2.2))))) else(some (y13.1,IntKind.i64.wrap (y13.2.1+1),y13.2.2.1,y13.2.2.2.1,y13.2.2.2.2)))) else(bif decide (p_i<((p_l.length:Nat):Int)) then((idx p_l p_i).bind fun x22=>(bif (x22.A9==2) then((idx p_l p_i).bind fun x24=>((D1 n (⟨1,x24.Bs,([]:List UInt8),([]:List UInt8),x24.Ao⟩:A2) ([]:List (List A2))).bind fun y25=>(some (y25,IntKind.i64.wrap (p_i+1),p_in,p_e,p_at)))) else((Db n p_l p_i p_in p_e p_at).bind fun y27=>(bif y27.2.2.1 then((Cr n ([46]:List UInt8) p_l y27.2.2.2 p_in p_e p_at).bind fun y30=>(bif y30 then((Db n p_l (IntKind.i64.wrap (y27.2.2.2+1)) p_in p_e p_at).bind fun y33=>(bif y33.2.2.1 then((D1 n (⟨4,0,y33.1,y27.1,y27.2.1⟩:A2) ([]:List (List A2))).bind fun y36=>(some (y36,y33.2.2.2,p_in,p_e,p_at))) else((Cc n 5 p_l y33.2.2.2 p_in p_e p_at).bind fun y38=>(some (y38.1,y33.2.2.2,p_in,y38.2.1,y38.2.2))))) else((D1 n (⟨2,0,y27.1,([]:List UInt8),y27.2.1⟩:A2) ([]:List (List A2))).bind fun y40=>(some (y40,y27.2.2.2,p_in,p_e,p_at))))) else((Cc n 5 p_l y27.2.2.2 p_in p_e p_at).bind fun y42=>(some (y42.1,y27.2.2.2,p_in,y42.2.1,y42.2.2))))))) else((Db n p_l p_i p_in p_e p_at).bind fun y44=>(bif y44.2.2.1 then((Cr n ([46]:List UInt8) p_l y44.2.2.2 p_in p_e p_at).bind fun y47=>(bif y47 then((Db n p_l (IntKind.i64.wrap (y44.2.2.2+1)) p_in p_e p_at).bind fun y50=>(bif y50.2.2.1 then((D1 n (⟨4,0,y50.1,y44.1,y44.2.1⟩:A2) ([]:List (List A2))).bind fun y53=>(some (y53,y50.2.2.2,p_in,p_e,p_at))) else((Cc n 5 p_l y50.2.2.2 p_in p_e p_at).bind fun y55=>(some (y55.1,y50.2.2.2,p_in,y55.2.1,y55.2.2))))) else((D1 n (⟨2,0,y44.1,([]:List UInt8),y44.2.1⟩:A2) ([]:List (List A2))).bind fun y57=>(some (y57,y44.2.2.2,p_in,p_e,p_at))))) else((Cc n 5 p_l y44.2.2.2 p_in p_e p_at).bind fun y59=>(some (y59.1,y44.2.2.2,p_in,y59.2.1,y59.2.2)))))))))))
def Do:Nat→(List A5)→Int→Int→Int→Int→Option ((List A2)×Int×Int×Int×Int)
 | 0,_,_,_,_,_=>none
 | n+1,p_l,p_i,p_in,p_e,p_at=>(((Li n) false ([6,7]:List Int) p_l p_i p_in p_e p_at).bind fun y1=>(some (y1.1,y1.2.1,y1.2.2.1,y1.2.2.2.1,y1.2.2.2.2)))
end
def K2:Nat→(List A5)→Int→Option ((List A2)×Int×Int×Int)
 | 0,_,_=>none
 | n+1,Av,Ew=>(bif decide (Ew<0) then(some (([]:List A2),0,1,0)) else((D0 n Av Ew 0 0 0).bind fun y2=>(bif (y2.2.2.2.1 != 0) then(some (([]:List A2),0,y2.2.2.2.1,y2.2.2.2.2)) else((Na n y2.1).bind fun y5=>(bif decide (30<y5) then((idx Av Ew).bind fun x8=>(some (([]:List A2),0,7,x8.Ao))) else(bif decide (200<((y2.1.length:Nat):Int)) then((idx Av Ew).bind fun x10=>(some (([]:List A2),0,2,x10.Ao))) else(some (y2.1,y2.2.1,0,0))))))))
def Qq:Nat→A2→Option Bool
 | 0,_=>none
 | n+1,B1=>(bif decide (B1.Ao<0) then(some false) else(bif (B1.As==1) then(bif ((B1.As==B1.As)&&((B1.Bs==B1.Bs)&&((B1.Ai==([]:List UInt8))&&((B1.D5==([]:List UInt8))&&((B1.Ao==B1.Ao)&&true))))) then(bif decide (0≤B1.Bs) then(some (decide (B1.Bs≤9999))) else(some false)) else(some false)) else(bif (B1.As==4) then((Dg n B1.D5).bind fun y7=>(bif y7 then(bif ((B1.As==B1.As)&&((B1.Bs==0)&&((B1.Ai==B1.Ai)&&((B1.D5==B1.D5)&&((B1.Ao==B1.Ao)&&true))))) then((Dg n B1.Ai).bind fun y11=>(some y11)) else(some false)) else(some false))) else(bif (B1.As==2) then(bif ((B1.As==B1.As)&&((B1.Bs==0)&&((B1.Ai==B1.Ai)&&((B1.D5==([]:List UInt8))&&((B1.Ao==B1.Ao)&&true))))) then((Dg n B1.Ai).bind fun y16=>(some y16)) else(some false)) else(bif (B1.As==3) then(bif ((B1.As==B1.As)&&((B1.Bs==0)&&((B1.Ai==B1.Ai)&&((B1.D5==([]:List UInt8))&&((B1.Ao==B1.Ao)&&true))))) then((Dg n B1.Ai).bind fun y21=>(some y21)) else(some false)) else(some ((B1.As==B1.As)&&((B1.Bs==0)&&((B1.Ai==([]:List UInt8))&&((B1.D5==([]:List UInt8))&&((B1.Ao==B1.Ao)&&true)))))))))))
def I2 (n:Nat)  (Av:(List A2)):Nat→Int→Option (LR Unit Bool)
 | 0,_=>none
 | k7+1,s6=>(bif decide (s6<((Av.length:Nat):Int)) then((idx Av s6).bind fun x16=>((Qq n x16).bind fun y17=>(bif y17 then(I2 n Av k7 (IntKind.i64.wrap (s6+1))) else(some (.ret false))))) else(some (.out ())))
def Lb:Nat→(List A2)→Option Bool
 | 0,_=>none
 | n+1,Av=>(bif (((Av.length:Nat):Int)==0) then(some false) else(bif decide (200<((Av.length:Nat):Int)) then(some false) else((S4 n Av 0).bind fun y3=>(bif (y3 != ((Av.length:Nat):Int)) then(some false) else((I2 n Av n 0).bind fun o14=>match o14 with|.out _=>((Na n Av).bind fun y21=>(some (decide (y21≤30))))|.ret v=>some v)))))
def D9:Nat→Int→Option (List UInt8)
 | 0,_=>none
 | n+1,Ca=>(bif decide (Ca<10) then(some ([UInt8.ofNat (IntKind.u8.wrap (IntKind.i64.wrap (48+Ca))).toNat]:List UInt8)) else(((D9 n) (IntKind.i64.wrap (Int.tdiv Ca 10))).bind fun y2=>(bif decide (y2.length+(([UInt8.ofNat (IntKind.u8.wrap (IntKind.i64.wrap (48+(Int.tmod Ca 10)))).toNat]:List UInt8)).length≤140737488355328) then(some (y2++([UInt8.ofNat (IntKind.u8.wrap (IntKind.i64.wrap (48+(Int.tmod Ca 10)))).toNat]:List UInt8))) else none)))
def Gr:Nat→(List A2)→Int→Bool→Option ((List UInt8)×Int)
 | 0,_,_,_=>none
 | n+1,Av,Ew,Sy=>((idx Av Ew).bind fun x1=>(bif (x1.As==1) then((D9 n x1.Bs).bind fun y3=>(some (y3,IntKind.i64.wrap (Ew+1)))) else(bif (x1.As==2) then(some (x1.Ai,IntKind.i64.wrap (Ew+1))) else(bif (x1.As==3) then(some (x1.Ai,IntKind.i64.wrap (Ew+1))) else(bif (x1.As==4) then(bif decide (x1.D5.length+(([46]:List UInt8)).length≤140737488355328) then(bif decide (((x1.D5++([46]:List UInt8))).length+x1.Ai.length≤140737488355328) then(some (((x1.D5++([46]:List UInt8))++x1.Ai),IntKind.i64.wrap (Ew+1))) else none) else none) else(bif (x1.As==5) then(((Gr n) Av (IntKind.i64.wrap (Ew+1)) true).bind fun y11=>((Il n x1.As).bind fun y13=>(bif decide (y13.length+y11.1.length≤140737488355328) then(some ((y13++y11.1),y11.2)) else none))) else(((Gr n) Av (IntKind.i64.wrap (Ew+1)) true).bind fun y16=>(((Gr n) Av y16.2 true).bind fun y18=>(bif decide (y16.1.length+(([32]:List UInt8)).length≤140737488355328) then((Il n x1.As).bind fun y21=>(bif decide (((y16.1++([32]:List UInt8))).length+y21.length≤140737488355328) then(bif decide ((((y16.1++([32]:List UInt8))++y21)).length+(([32]:List UInt8)).length≤140737488355328) then(bif decide (((((y16.1++([32]:List UInt8))++y21)++([32]:List UInt8))).length+y18.1.length≤140737488355328) then(bif Sy then(bif decide ((([40]:List UInt8)).length+(((((y16.1++([32]:List UInt8))++y21)++([32]:List UInt8))++y18.1)).length≤140737488355328) then(bif decide (((([40]:List UInt8)++((((y16.1++([32]:List UInt8))++y21)++([32]:List UInt8))++y18.1))).length+(([41]:List UInt8)).length≤140737488355328) then(some (((([40]:List UInt8)++((((y16.1++([32]:List UInt8))++y21)++([32]:List UInt8))++y18.1))++([41]:List UInt8)),y18.2)) else none) else none) else(some (((((y16.1++([32]:List UInt8))++y21)++([32]:List UInt8))++y18.1),y18.2))) else none) else none) else none)) else none)))))))))
def E9:Nat→(List A2)→Option (List UInt8)
 | 0,_=>none
 | n+1,Av=>((Lb n Av).bind fun y1=>(bif y1 then((Gr n Av 0 false).bind fun y4=>(some y4.1)) else(some ([]:List UInt8))))
def Gw (n:Nat)  (Bp:(List A4)) (Br:(List A4)):Nat→Bool→Int→Option (LR Unit Bool)
 | 0,_,_=>none
 | k4+1,s2,s3=>(bif decide (s3<((Bp.length:Nat):Int)) then((idx Bp s3).bind fun x13=>((idx Br s3).bind fun x14=>(bif (x13.A9 != x14.A9) then(some (.ret false)) else(bif (x13.Eu==x14.Eu) then(bif (x13.Ev==x14.Ev) then(bif (x13.Fp==x14.Fp) then(bif (x13.Ax != x14.Ax) then(some (.ret false)) else(bif (x13.Co != x14.Co) then(some (.ret false)) else(bif s2 then(bif (x13.Ao != x14.Ao) then(some (.ret false)) else((Ip n x13.Ct x14.Ct true).bind fun y23=>(bif y23 then((Ip n x13.Ih x14.Ih true).bind fun y26=>(bif y26 then(Gw n Bp Br k4 true (IntKind.i64.wrap (s3+1))) else(some (.ret false)))) else(some (.ret false))))) else((Ip n x13.Ct x14.Ct false).bind fun y29=>(bif y29 then((Ip n x13.Ih x14.Ih false).bind fun y32=>(bif y32 then(Gw n Bp Br k4 false (IntKind.i64.wrap (s3+1))) else(some (.ret false)))) else(some (.ret false))))))) else(some (.ret false))) else(some (.ret false))) else(some (.ret false)))))) else(some (.out ())))
def P0:Nat→(List A4)→(List A4)→Bool→Option Bool
 | 0,_,_,_=>none
 | n+1,Bp,Br,Fb=>(bif (((Bp.length:Nat):Int) != ((Br.length:Nat):Int)) then(some false) else((Gw n Bp Br n Fb 0).bind fun o11=>match o11 with|.out _=>(some true)|.ret v=>some v))
def K3:Nat→Option (List Bl)
 | 0=>none
 | n+1=>(some ([(⟨([]:List UInt8),([]:List UInt8),false,false⟩:Bl),(⟨([115,107,105,112]:List UInt8),([59]:List UInt8),false,false⟩:Bl),(⟨([115,101,116]:List UInt8),([114,61,101,59]:List UInt8),false,false⟩:Bl),(⟨([108,111,97,100]:List UInt8),([114,61,108,59]:List UInt8),false,false⟩:Bl),(⟨([115,116,111,114,101]:List UInt8),([108,61,101,59]:List UInt8),false,false⟩:Bl),(⟨([99,97,115]:List UInt8),([114,61,108,44,101,44,102,59]:List UInt8),false,false⟩:Bl),(⟨([102,97,100,100]:List UInt8),([114,61,108,44,101,59]:List UInt8),false,false⟩:Bl),(⟨([120,99,104,103]:List UInt8),([114,61,108,44,101,59]:List UInt8),false,false⟩:Bl),(⟨([102,101,110,99,101]:List UInt8),([59]:List UInt8),false,false⟩:Bl),(⟨([97,119,97,105,116]:List UInt8),([108,113,101,59]:List UInt8),false,false⟩:Bl),(⟨([105,102]:List UInt8),([101]:List UInt8),true,true⟩:Bl),(⟨([119,104,105,108,101]:List UInt8),([101]:List UInt8),true,false⟩:Bl),(⟨([108,111,111,112]:List UInt8),([]:List UInt8),true,false⟩:Bl),(⟨([98,114,101,97,107]:List UInt8),([59]:List UInt8),false,false⟩:Bl)]:List Bl))
def Dk:Nat→Int→(List UInt8)→(List A5)→Int→Int→Int→(List ((List UInt8)×Int))→Option Bool
 | 0,_,_,_,_,_,_,_=>none
 | n+1,Hn,Aew,p_l,p_i,p_e,p_at,Af=>(bif decide (p_i<((p_l.length:Nat):Int)) then((idx p_l p_i).bind fun x2=>(bif (x2.A9==Hn) then((idx p_l p_i).bind fun x4=>(some (x4.Aa==Aew))) else(some false))) else(some false))
def Me:Nat→Int→Option (Bl×Bool)
 | 0,_=>none
 | n+1,Ca=>((K3 n ).bind fun y1=>(bif decide (Ca<1) then(some ((⟨([]:List UInt8),([]:List UInt8),false,false⟩:Bl),false)) else(bif decide (((y1.length:Nat):Int)≤Ca) then(some ((⟨([]:List UInt8),([]:List UInt8),false,false⟩:Bl),false)) else((idx y1 Ca).bind fun x5=>(some (x5,true))))))
def Qs:Nat→Option Bl
 | 0=>none
 | n+1=>((K3 n ).bind fun y1=>(some (⟨([]:List UInt8),([]:List UInt8),false,false⟩:Bl)))
def F1:Nat→Int→(List A5)→Int→Int→Int→(List ((List UInt8)×Int))→Option Int
 | 0,_,_,_,_,_,_=>none
 | n+1,Ew,p_l,p_i,p_e,p_at,Af=>(bif decide (Ew<((p_l.length:Nat):Int)) then((idx p_l Ew).bind fun x2=>(some x2.Ao)) else(bif decide (0<((p_l.length:Nat):Int)) then((idx p_l (IntKind.i64.wrap (((p_l.length:Nat):Int) - 1))).bind fun x4=>((idx p_l (IntKind.i64.wrap (((p_l.length:Nat):Int) - 1))).bind fun x5=>(some (IntKind.i64.wrap (x4.Ao+((x5.Aa.length:Nat):Int)))))) else(some 0)))
def Dc:Nat→(List A5)→Int→Int→Int→(List ((List UInt8)×Int))→Option (Int×Int)
 | 0,_,_,_,_,_=>none
 | n+1,p_l,p_i,p_e,p_at,Af=>(bif (p_e != 0) then(some (p_e,p_at)) else((F1 n p_i p_l p_i p_e p_at Af).bind fun y2=>(bif decide (((p_l.length:Nat):Int)≤p_i) then(some (6,y2)) else(some (5,y2)))))
def Bi:Nat→(List UInt8)→(List A5)→Int→Int→Int→(List ((List UInt8)×Int))→Option (Int×Int×Int)
 | 0,_,_,_,_,_,_=>none
 | n+1,Lw,p_l,p_i,p_e,p_at,Af=>(bif (p_e != 0) then(some (p_i,p_e,p_at)) else((Dk n 3 Lw p_l p_i p_e p_at Af).bind fun y2=>(bif y2 then(some (IntKind.i64.wrap (p_i+1),p_e,p_at)) else((Dc n p_l p_i p_e p_at Af).bind fun y5=>(some (p_i,y5.1,y5.2))))))
def I9:Nat→(List A5)→Int→Int→Int→(List ((List UInt8)×Int))→Option ((List UInt8)×Int×Int×Int)
 | 0,_,_,_,_,_=>none
 | n+1,p_l,p_i,p_e,p_at,Af=>(bif (p_e != 0) then(some (([]:List UInt8),p_i,p_e,p_at)) else(bif decide (((p_l.length:Nat):Int)≤p_i) then((Dc n p_l p_i p_e p_at Af).bind fun y3=>(some (([]:List UInt8),p_i,y3.1,y3.2))) else((idx p_l p_i).bind fun x5=>(bif (x5.A9 != 1) then((Dc n p_l p_i p_e p_at Af).bind fun y7=>(some (([]:List UInt8),p_i,y7.1,y7.2))) else((idx p_l p_i).bind fun x9=>((Dg n x9.Aa).bind fun y10=>(bif y10 then((idx p_l (IntKind.i64.wrap ((IntKind.i64.wrap (p_i+1)) - 1))).bind fun x13=>(some (x13.Aa,IntKind.i64.wrap (p_i+1),p_e,p_at))) else((Dc n p_l p_i p_e p_at Af).bind fun y14=>(some (([]:List UInt8),p_i,y14.1,y14.2))))))))))
def Kb:Nat→(List A5)→Int→Int→Int→(List ((List UInt8)×Int))→Int→(List UInt8)→(List UInt8)→(List A2)→(List A2)→Bool→Int→Int→Int→Option (Int×Int×Int×(List UInt8))
 | 0,_,_,_,_,_,_,_,_,_,_,_,_,_,_=>none
 | n+1,G8,Jn,Jo,H9,G9,Dr,Ez,F0,Jh,Ji,Ha,Ds,Dt,Fr=>((I9 n G8 Jn Jo H9 G9).bind fun y1=>(some (y1.2.1,y1.2.2.1,y1.2.2.2,y1.1)))
def Ke:Nat→(List A5)→Int→Int→Int→(List ((List UInt8)×Int))→Int→(List UInt8)→(List UInt8)→(List A2)→(List A2)→Bool→Int→Int→Int→Option (Int×Int×Int×(List UInt8))
 | 0,_,_,_,_,_,_,_,_,_,_,_,_,_,_=>none
 | n+1,G8,Jn,Jo,H9,G9,Dr,Ez,F0,Jh,Ji,Ha,Ds,Dt,Fr=>((I9 n G8 Jn Jo H9 G9).bind fun y1=>(some (y1.2.1,y1.2.2.1,y1.2.2.2,y1.1)))
def Fo (n:Nat)  (y1:(List A2)):Nat→Int→Option (LR Unit Bool)
 | 0,_=>none
 | k4+1,s3=>(bif decide (s3<((y1.length:Nat):Int)) then((idx y1 s3).bind fun x13=>(bif (x13.As != 2) then(some (.ret false)) else(Fo n y1 k4 (IntKind.i64.wrap (s3+1))))) else(some (.out ())))
def Jv:Nat→(List A2)→Option Bool
 | 0,_=>none
 | n+1,Av=>((Nh n Av).bind fun y1=>((Fo n y1 n 0).bind fun o11=>match o11 with|.out _=>((Lb n Av).bind fun y16=>(some y16))|.ret v=>some v))
def Ic:Nat→(List A5)→Int→Int→Int→(List ((List UInt8)×Int))→Option ((List A2)×Int×Int×Int)
 | 0,_,_,_,_,_=>none
 | n+1,p_l,p_i,p_e,p_at,Af=>(bif (p_e != 0) then(some (([]:List A2),p_i,p_e,p_at)) else((K2 n p_l p_i).bind fun y2=>(bif (y2.2.2.1 != 0) then(some (([]:List A2),p_i,y2.2.2.1,y2.2.2.2)) else((Jv n y2.1).bind fun y5=>(bif y5 then(some (y2.1,y2.2.1,p_e,p_at)) else((Dc n p_l p_i p_e p_at Af).bind fun y8=>(some (([]:List A2),p_i,y8.1,y8.2))))))))
def Kg:Nat→(List A5)→Int→Int→Int→(List ((List UInt8)×Int))→Int→(List UInt8)→(List UInt8)→(List A2)→(List A2)→Bool→Int→Int→Int→Option (Int×Int×Int×(List A2))
 | 0,_,_,_,_,_,_,_,_,_,_,_,_,_,_=>none
 | n+1,G8,Jn,Jo,H9,G9,Dr,Ez,F0,Jh,Ji,Ha,Ds,Dt,Fr=>((Ic n G8 Jn Jo H9 G9).bind fun y1=>(some (y1.2.1,y1.2.2.1,y1.2.2.2,y1.1)))
def Kd:Nat→(List A5)→Int→Int→Int→(List ((List UInt8)×Int))→Int→(List UInt8)→(List UInt8)→(List A2)→(List A2)→Bool→Int→Int→Int→Option (Int×Int×Int×(List A2))
 | 0,_,_,_,_,_,_,_,_,_,_,_,_,_,_=>none
 | n+1,G8,Jn,Jo,H9,G9,Dr,Ez,F0,Jh,Ji,Ha,Ds,Dt,Fr=>((Ic n G8 Jn Jo H9 G9).bind fun y1=>(some (y1.2.1,y1.2.2.1,y1.2.2.2,y1.1)))
def Kf:Nat→(List A5)→Int→Int→Int→(List ((List UInt8)×Int))→Int→(List UInt8)→(List UInt8)→(List A2)→(List A2)→Bool→Int→Int→Int→Option (Int×Int×Int×Bool)
 | 0,_,_,_,_,_,_,_,_,_,_,_,_,_,_=>none
 | n+1,G8,Jn,Jo,H9,G9,Dr,Ez,F0,Jh,Ji,Ha,Ds,Dt,Fr=>((Dk n 3 ([33,61]:List UInt8) G8 Jn Jo H9 G9).bind fun y1=>(bif y1 then(some (IntKind.i64.wrap (Jn+1),Jo,H9,true)) else((Bi n ([61,61]:List UInt8) G8 Jn Jo H9 G9).bind fun y4=>(some (y4.1,y4.2.1,y4.2.2,false)))))
def C6 (n:Nat) (rec_stmt_parser_one:Int→(List A5)→Int→Int→Int→(List ((List UInt8)×Int))→Option ((List A4)×Int×Int×Int)) (Fm:Int) (p_l:(List A5)) (Af:(List ((List UInt8)×Int))):Nat→Int→Int→Int→(List A4)→Option (LR (Int×Int×Int×(List A4)) ((List A4)×Int×Int×Int))
 | 0,_,_,_,_=>none
 | k5+1,s1,s2,s3,s4=>(bif (s2==0) then(bif decide (s1<((p_l.length:Nat):Int)) then((Dk n 3 ([125]:List UInt8) p_l s1 s2 s3 Af).bind fun y15=>(bif y15 then(some (.out (s1,s2,s3,s4))) else((rec_stmt_parser_one Fm p_l s1 s2 s3 Af).bind fun y18=>(bif decide ((s4.length+y18.1.length)*121≤140737488355328) then(C6 n rec_stmt_parser_one Fm p_l Af k5 y18.2.1 y18.2.2.1 y18.2.2.2 (s4++y18.1)) else none)))) else(some (.out (s1,s2,s3,s4)))) else(some (.out (s1,s2,s3,s4))))
def B4 (n:Nat)  (p_l:(List A5)) (Af:(List ((List UInt8)×Int))) (x4:A5) (y5:(Bl×Bool)) (y8:Int):Nat→Int→Int→Int→Int→(List UInt8)→(List UInt8)→(List A2)→(List A2)→Bool→Option (LR (Int×Int×Int×(List UInt8)×(List UInt8)×(List A2)×(List A2)×Bool) ((List A4)×Int×Int×Int))
 | 0,_,_,_,_,_,_,_,_,_=>none
 | k24+1,s15,s16,s17,s18,s19,s20,s21,s22,s23=>(bif decide (s15<((y5.1.f_form.length:Nat):Int)) then((idx y5.1.f_form s15).bind fun x33=>(bif decide ((x33.toNat:Int)=114) then(bif (s17==0) then((Kb n p_l s16 s17 s18 Af (Bf Af x4.Aa 0) s19 s20 s21 s22 s23 0 0 y8).bind fun y36=>(B4 n p_l Af x4 y5 y8 k24 (IntKind.i64.wrap (s15+1)) y36.1 y36.2.1 y36.2.2.1 y36.2.2.2 s20 s21 s22 s23)) else(bif (decide (0≤(IntKind.i64.wrap (s15+1)))&&decide ((IntKind.i64.wrap (s15+1))≤((y5.1.f_form.length:Nat):Int))&&decide (0≤s15)&&decide (s15≤(IntKind.i64.wrap (s15+1)))) then((Bi n (List.drop (s15.toNat) (List.take ((IntKind.i64.wrap (s15+1)).toNat) y5.1.f_form)) p_l s16 s17 s18 Af).bind fun y39=>(B4 n p_l Af x4 y5 y8 k24 (IntKind.i64.wrap (s15+1)) y39.1 y39.2.1 y39.2.2 s19 s20 s21 s22 s23)) else none)) else(bif decide ((x33.toNat:Int)=108) then(bif (s17==0) then((Ke n p_l s16 s17 s18 Af (Bf Af x4.Aa 0) s19 s20 s21 s22 s23 0 0 y8).bind fun y43=>(B4 n p_l Af x4 y5 y8 k24 (IntKind.i64.wrap (s15+1)) y43.1 y43.2.1 y43.2.2.1 s19 y43.2.2.2 s21 s22 s23)) else(bif (decide (0≤(IntKind.i64.wrap (s15+1)))&&decide ((IntKind.i64.wrap (s15+1))≤((y5.1.f_form.length:Nat):Int))&&decide (0≤s15)&&decide (s15≤(IntKind.i64.wrap (s15+1)))) then((Bi n (List.drop (s15.toNat) (List.take ((IntKind.i64.wrap (s15+1)).toNat) y5.1.f_form)) p_l s16 s17 s18 Af).bind fun y46=>(B4 n p_l Af x4 y5 y8 k24 (IntKind.i64.wrap (s15+1)) y46.1 y46.2.1 y46.2.2 s19 s20 s21 s22 s23)) else none)) else(bif decide ((x33.toNat:Int)=101) then(bif (s17==0) then((Kg n p_l s16 s17 s18 Af (Bf Af x4.Aa 0) s19 s20 s21 s22 s23 0 0 y8).bind fun y50=>(B4 n p_l Af x4 y5 y8 k24 (IntKind.i64.wrap (s15+1)) y50.1 y50.2.1 y50.2.2.1 s19 s20 y50.2.2.2 s22 s23)) else(bif (decide (0≤(IntKind.i64.wrap (s15+1)))&&decide ((IntKind.i64.wrap (s15+1))≤((y5.1.f_form.length:Nat):Int))&&decide (0≤s15)&&decide (s15≤(IntKind.i64.wrap (s15+1)))) then((Bi n (List.drop (s15.toNat) (List.take ((IntKind.i64.wrap (s15+1)).toNat) y5.1.f_form)) p_l s16 s17 s18 Af).bind fun y53=>(B4 n p_l Af x4 y5 y8 k24 (IntKind.i64.wrap (s15+1)) y53.1 y53.2.1 y53.2.2 s19 s20 s21 s22 s23)) else none)) else(bif decide ((x33.toNat:Int)=102) then(bif (s17==0) then((Kd n p_l s16 s17 s18 Af (Bf Af x4.Aa 0) s19 s20 s21 s22 s23 0 0 y8).bind fun y57=>(B4 n p_l Af x4 y5 y8 k24 (IntKind.i64.wrap (s15+1)) y57.1 y57.2.1 y57.2.2.1 s19 s20 s21 y57.2.2.2 s23)) else(bif (decide (0≤(IntKind.i64.wrap (s15+1)))&&decide ((IntKind.i64.wrap (s15+1))≤((y5.1.f_form.length:Nat):Int))&&decide (0≤s15)&&decide (s15≤(IntKind.i64.wrap (s15+1)))) then((Bi n (List.drop (s15.toNat) (List.take ((IntKind.i64.wrap (s15+1)).toNat) y5.1.f_form)) p_l s16 s17 s18 Af).bind fun y60=>(B4 n p_l Af x4 y5 y8 k24 (IntKind.i64.wrap (s15+1)) y60.1 y60.2.1 y60.2.2 s19 s20 s21 s22 s23)) else none)) else(bif decide ((x33.toNat:Int)=113) then(bif (s17==0) then((Kf n p_l s16 s17 s18 Af (Bf Af x4.Aa 0) s19 s20 s21 s22 s23 0 0 y8).bind fun y64=>(B4 n p_l Af x4 y5 y8 k24 (IntKind.i64.wrap (s15+1)) y64.1 y64.2.1 y64.2.2.1 s19 s20 s21 s22 y64.2.2.2)) else(bif (decide (0≤(IntKind.i64.wrap (s15+1)))&&decide ((IntKind.i64.wrap (s15+1))≤((y5.1.f_form.length:Nat):Int))&&decide (0≤s15)&&decide (s15≤(IntKind.i64.wrap (s15+1)))) then((Bi n (List.drop (s15.toNat) (List.take ((IntKind.i64.wrap (s15+1)).toNat) y5.1.f_form)) p_l s16 s17 s18 Af).bind fun y67=>(B4 n p_l Af x4 y5 y8 k24 (IntKind.i64.wrap (s15+1)) y67.1 y67.2.1 y67.2.2 s19 s20 s21 s22 s23)) else none)) else(bif (decide (0≤(IntKind.i64.wrap (s15+1)))&&decide ((IntKind.i64.wrap (s15+1))≤((y5.1.f_form.length:Nat):Int))&&decide (0≤s15)&&decide (s15≤(IntKind.i64.wrap (s15+1)))) then((Bi n (List.drop (s15.toNat) (List.take ((IntKind.i64.wrap (s15+1)).toNat) y5.1.f_form)) p_l s16 s17 s18 Af).bind fun y70=>(B4 n p_l Af x4 y5 y8 k24 (IntKind.i64.wrap (s15+1)) y70.1 y70.2.1 y70.2.2 s19 s20 s21 s22 s23)) else none))))))) else(some (.out (s16,s17,s18,s19,s20,s21,s22,s23))))
mutual
def Bt:Nat→Int→(List A5)→Int→Int→Int→(List ((List UInt8)×Int))→Option ((List A4)×Int×Int×Int)
 | 0,_,_,_,_,_,_=>none
 | n+1,Fm,p_l,p_i,p_e,p_at,Af=>(bif (p_e==0) then((Dk n 3 ([123]:List UInt8) p_l p_i p_e p_at Af).bind fun y2=>(bif y2 then(bif decide (30≤Fm) then((F1 n p_i p_l p_i p_e p_at Af).bind fun y6=>((Bi n ([123]:List UInt8) p_l p_i 7 y6 Af).bind fun y8=>(((C3 n) (IntKind.i64.wrap (Fm+1)) p_l y8.1 y8.2.1 y8.2.2 Af).bind fun y10=>((Bi n ([125]:List UInt8) p_l y10.2.1 y10.2.2.1 y10.2.2.2 Af).bind fun y12=>(some (y10.1,y12.1,y12.2.1,y12.2.2)))))) else((Bi n ([123]:List UInt8) p_l p_i p_e p_at Af).bind fun y14=>(((C3 n) (IntKind.i64.wrap (Fm+1)) p_l y14.1 y14.2.1 y14.2.2 Af).bind fun y16=>((Bi n ([125]:List UInt8) p_l y16.2.1 y16.2.2.1 y16.2.2.2 Af).bind fun y18=>(some (y16.1,y18.1,y18.2.1,y18.2.2)))))) else((Bi n ([123]:List UInt8) p_l p_i p_e p_at Af).bind fun y20=>(((C3 n) (IntKind.i64.wrap (Fm+1)) p_l y20.1 y20.2.1 y20.2.2 Af).bind fun y22=>((Bi n ([125]:List UInt8) p_l y22.2.1 y22.2.2.1 y22.2.2.2 Af).bind fun y24=>(some (y22.1,y24.1,y24.2.1,y24.2.2))))))) else((Bi n ([123]:List UInt8) p_l p_i p_e p_at Af).bind fun y26=>(((C3 n) (IntKind.i64.wrap (Fm+1)) p_l y26.1 y26.2.1 y26.2.2 Af).bind fun y28=>((Bi n ([125]:List UInt8) p_l y28.2.1 y28.2.2.1 y28.2.2.2 Af).bind fun y30=>(some (y28.1,y30.1,y30.2.1,y30.2.2))))))
def C3:Nat→Int→(List A5)→Int→Int→Int→(List ((List UInt8)×Int))→Option ((List A4)×Int×Int×Int)
 | 0,_,_,_,_,_,_=>none
 | n+1,Fm,p_l,p_i,p_e,p_at,Af=>((C6 n (Bv n) Fm p_l Af n p_i p_e p_at ([]:List A4)).bind fun o12=>match o12 with|.out (x23,x24,x25,x26)=>(some (x26,x23,x24,x25))|.ret v=>some v)
def Bv:Nat→Int→(List A5)→Int→Int→Int→(List ((List UInt8)×Int))→Option ((List A4)×Int×Int×Int)
 | 0,_,_,_,_,_,_=>none
 | n+1,Fm,p_l,p_i,p_e,p_at,Af=>(bif decide (p_i<((p_l.length:Nat):Int)) then((idx p_l p_i).bind fun x2=>(bif (x2.A9==1) then((idx p_l p_i).bind fun x4=>((Me n (Bf Af x4.Aa 0)).bind fun y5=>(bif y5.2 then((F1 n p_i p_l p_i p_e p_at Af).bind fun y8=>(Te n fun n10=>((B4 n p_l Af x4 y5 y8 n 0 (IntKind.i64.wrap (p_i+1)) p_e p_at ([]:List UInt8) ([]:List UInt8) ([]:List A2) ([]:List A2) false).bind fun o31=>match o31 with|.out (x73,x74,x75,x76,x77,x78,x79,x80)=>(bif y5.1.f_body then(((Bt n) Fm p_l x73 x74 x75 Af).bind fun y82=>(bif y5.1.f_more then(bif (y82.2.2.1==0) then((Dk n 1 ([101,108,115,101]:List UInt8) p_l y82.2.1 y82.2.2.1 y82.2.2.2 Af).bind fun y86=>(bif y86 then(((Bt n) Fm p_l (IntKind.i64.wrap (y82.2.1+1)) y82.2.2.1 y82.2.2.2 Af).bind fun y89=>(bif decide (((([(⟨(Bf Af x4.Aa 0),x76,x77,x78,x79,x80,((y82.1.length:Nat):Int),((y89.1.length:Nat):Int),y8⟩:A4)]:List A4)).length+y82.1.length)*121≤140737488355328) then(bif decide ((((([(⟨(Bf Af x4.Aa 0),x76,x77,x78,x79,x80,((y82.1.length:Nat):Int),((y89.1.length:Nat):Int),y8⟩:A4)]:List A4)++y82.1)).length+y89.1.length)*121≤140737488355328) then(some (((([(⟨(Bf Af x4.Aa 0),x76,x77,x78,x79,x80,((y82.1.length:Nat):Int),((y89.1.length:Nat):Int),y8⟩:A4)]:List A4)++y82.1)++y89.1),y89.2.1,y89.2.2.1,y89.2.2.2)) else none) else none)) else(bif decide (((([(⟨(Bf Af x4.Aa 0),x76,x77,x78,x79,x80,((y82.1.length:Nat):Int),0,y8⟩:A4)]:List A4)).length+y82.1.length)*121≤140737488355328) then(bif decide ((((([(⟨(Bf Af x4.Aa 0),x76,x77,x78,x79,x80,((y82.1.length:Nat):Int),0,y8⟩:A4)]:List A4)++y82.1)).length+0)*121≤140737488355328) then(some ((([(⟨(Bf Af x4.Aa 0),x76,x77,x78,x79,x80,((y82.1.length:Nat):Int),0,y8⟩:A4)]:List A4)++y82.1),y82.2.1,y82.2.2.1,y82.2.2.2)) else none) else none))) else(bif decide (((([(⟨(Bf Af x4.Aa 0),x76,x77,x78,x79,x80,((y82.1.length:Nat):Int),0,y8⟩:A4)]:List A4)).length+y82.1.length)*121≤140737488355328) then(bif decide ((((([(⟨(Bf Af x4.Aa 0),x76,x77,x78,x79,x80,((y82.1.length:Nat):Int),0,y8⟩:A4)]:List A4)++y82.1)).length+0)*121≤140737488355328) then(some ((([(⟨(Bf Af x4.Aa 0),x76,x77,x78,x79,x80,((y82.1.length:Nat):Int),0,y8⟩:A4)]:List A4)++y82.1),y82.2.1,y82.2.2.1,y82.2.2.2)) else none) else none)) else(bif decide (((([(⟨(Bf Af x4.Aa 0),x76,x77,x78,x79,x80,((y82.1.length:Nat):Int),0,y8⟩:A4)]:List A4)).length+y82.1.length)*121≤140737488355328) then(bif decide ((((([(⟨(Bf Af x4.Aa 0),x76,x77,x78,x79,x80,((y82.1.length:Nat):Int),0,y8⟩:A4)]:List A4)++y82.1)).length+0)*121≤140737488355328) then(some ((([(⟨(Bf Af x4.Aa 0),x76,x77,x78,x79,x80,((y82.1.length:Nat):Int),0,y8⟩:A4)]:List A4)++y82.1),y82.2.1,y82.2.2.1,y82.2.2.2)) else none) else none))) else(bif y5.1.f_more then(bif (x74==0) then((Dk n 1 ([101,108,115,101]:List UInt8) p_l x73 x74 x75 Af).bind fun y112=>(bif y112 then(((Bt n) Fm p_l (IntKind.i64.wrap (x73+1)) x74 x75 Af).bind fun y115=>(bif decide (((([(⟨(Bf Af x4.Aa 0),x76,x77,x78,x79,x80,0,((y115.1.length:Nat):Int),y8⟩:A4)]:List A4)).length+y115.1.length)*121≤140737488355328) then(some ((([(⟨(Bf Af x4.Aa 0),x76,x77,x78,x79,x80,0,((y115.1.length:Nat):Int),y8⟩:A4)]:List A4)++y115.1),y115.2.1,y115.2.2.1,y115.2.2.2)) else none)) else(some (([(⟨(Bf Af x4.Aa 0),x76,x77,x78,x79,x80,0,0,y8⟩:A4)]:List A4),x73,x74,x75)))) else(some (([(⟨(Bf Af x4.Aa 0),x76,x77,x78,x79,x80,0,0,y8⟩:A4)]:List A4),x73,x74,x75))) else(some (([(⟨(Bf Af x4.Aa 0),x76,x77,x78,x79,x80,0,0,y8⟩:A4)]:List A4),x73,x74,x75))))|.ret v=>some v))) else((Dc n p_l p_i p_e p_at Af).bind fun y134=>(some (([]:List A4),p_i,y134.1,y134.2)))))) else((Qs n ).bind fun y136=>((Dc n p_l p_i p_e p_at Af).bind fun y138=>(some (([]:List A4),p_i,y138.1,y138.2)))))) else((Qs n ).bind fun y140=>((Dc n p_l p_i p_e p_at Af).bind fun y142=>(some (([]:List A4),p_i,y142.1,y142.2)))))
end
def Kl (n:Nat)  (y3:(List Bl)):Nat→Int→(List ((List UInt8)×Int))→Option (LR (List ((List UInt8)×Int)) ((List A4)×Int×Int×Int))
 | 0,_,_=>none
 | k7+1,s5,s6=>(bif decide (s5<((y3.length:Nat):Int)) then((idx y3 s5).bind fun x16=>(bif (x16.f_word==([]:List UInt8)) then(Kl n y3 k7 (IntKind.i64.wrap (s5+1)) s6) else(Kl n y3 k7 (IntKind.i64.wrap (s5+1)) (Qc s6 x16.f_word s5)))) else(some (.out s6)))
def Jx:Nat→(List A5)→Int→Option ((List A4)×Int×Int×Int)
 | 0,_,_=>none
 | n+1,Av,Ew=>(bif decide (Ew<0) then(some (([]:List A4),0,1,0)) else(bif decide (((Av.length:Nat):Int)<Ew) then(some (([]:List A4),0,1,0)) else((K3 n ).bind fun y3=>((Kl n y3 n 0 ([]:(List ((List UInt8)×Int)))).bind fun o14=>match o14 with|.out x20=>((C3 n 0 Av Ew 0 0 x20).bind fun y21=>(bif (y21.2.2.1 != 0) then(some (([]:List A4),0,y21.2.2.1,y21.2.2.2)) else(bif decide (200<((y21.1.length:Nat):Int)) then((F1 n Ew Av y21.2.1 y21.2.2.1 y21.2.2.2 x20).bind fun y25=>(some (([]:List A4),0,2,y25))) else(some (y21.1,y21.2.1,0,0)))))|.ret v=>some v))))
def Nj:Nat→Int→Option Bool
 | 0,_=>none
 | n+1,L7=>(bif (L7==10) then(some true) else(bif (L7==11) then(some true) else(bif (L7==12) then(some true) else(some false))))
def Cf (n:Nat) (rec_stmt_depth_1:Int→Int→Int→(List A4)→Int→Option (Bool×Int)) (Av:(List A4)) (E8:Int) (o0:(List A4)):Nat→Int→Int→Option (LR Int (Bool×Int))
 | 0,_,_=>none
 | k3+1,s1,s2=>(bif decide (s1<E8) then((idx Av s1).bind fun x12=>(bif decide (x12.Ax<0) then(some (.ret (false,s2))) else(bif decide (x12.Co<0) then(some (.ret (false,s2))) else(bif decide ((IntKind.i64.wrap ((IntKind.i64.wrap (E8 - s1)) - 1))<x12.Ax) then(some (.ret (false,s2))) else(bif decide ((IntKind.i64.wrap ((IntKind.i64.wrap ((IntKind.i64.wrap (E8 - s1)) - 1)) - x12.Ax))<x12.Co) then(some (.ret (false,s2))) else((rec_stmt_depth_1 s1 (IntKind.i64.wrap ((IntKind.i64.wrap (s1+1))+x12.Ax)) (IntKind.i64.wrap ((IntKind.i64.wrap ((IntKind.i64.wrap (s1+1))+x12.Ax))+x12.Co)) o0 s2).bind fun y17=>(bif y17.1 then(Cf n rec_stmt_depth_1 Av E8 o0 k3 (IntKind.i64.wrap ((IntKind.i64.wrap ((IntKind.i64.wrap (s1+1))+x12.Ax))+x12.Co)) y17.2) else(some (.ret (false,y17.2)))))))))) else(some (.out s2)))
mutual
def K0:Nat→(List A4)→Int→Int→Option Int
 | 0,_,_,_=>none
 | n+1,Av,Ei,E8=>(((Gh n) Av Ei E8 Av 0).bind fun y1=>(bif y1.1 then(some y1.2) else(some (-1))))
def Ft:Nat→Int→Int→Int→(List A4)→Int→Option (Bool×Int)
 | 0,_,_,_,_,_=>none
 | n+1,Hb,Mq,Od,o0,o1=>(((K0 n) o0 (IntKind.i64.wrap (Hb+1)) Mq).bind fun y1=>(((K0 n) o0 Mq Od).bind fun y3=>((idx o0 Hb).bind fun x5=>((Nj n x5.A9).bind fun y6=>(bif y6 then(bif (y1 != (-1)) then(some ((y3 != (-1)),A02 o1 (IntKind.i64.wrap (1+y1)) (IntKind.i64.wrap (1+y3)))) else(some (false,A02 o1 (IntKind.i64.wrap (1+y1)) (IntKind.i64.wrap (1+y3))))) else(bif (y1 != (-1)) then(some ((y3 != (-1)),o1)) else(some (false,o1))))))))
def Gh:Nat→(List A4)→Int→Int→(List A4)→Int→Option (Bool×Int)
 | 0,_,_,_,_,_=>none
 | n+1,Av,Ei,E8,o0,o1=>((Cf n (Ft n) Av E8 o0 n Ei o1).bind fun o10=>match o10 with|.out x21=>(some (true,x21))|.ret v=>some v)
end
def Po:Nat→(List A4)→Option Int
 | 0,_=>none
 | n+1,Av=>((K0 n Av 0 ((Av.length:Nat):Int)).bind fun y1=>(some y1))
def Fd (n:Nat)  (Ly:Bl) (Ok:Int):Nat→Int→Option (LR Unit Bool)
 | 0,_=>none
 | k2+1,s1=>(bif decide (s1<((Ly.f_form.length:Nat):Int)) then((idx Ly.f_form s1).bind fun x11=>(bif ((x11.toNat:Int)==Ok) then(some (.ret true)) else(Fd n Ly Ok k2 (IntKind.i64.wrap (s1+1))))) else(some (.out ())))
def Er:Nat→Bl→Int→Option Bool
 | 0,_,_=>none
 | n+1,Ly,Ok=>((Fd n Ly Ok n 0).bind fun o9=>match o9 with|.out _=>(some false)|.ret v=>some v)
def Jg:Nat→Int→(List UInt8)→(List UInt8)→(List UInt8)→Bool→Bool→Option Bool
 | 0,_,_,_,_,_,_=>none
 | n+1,Hc,Lw,Fv,Fw,Fx,Fy=>((Er n (⟨Fv,Fw,Fx,Fy⟩:Bl) Hc).bind fun y1=>(bif y1 then((Dg n Lw).bind fun y4=>(bif y4 then(some true) else((Er n (⟨Fv,Fw,Fx,Fy⟩:Bl) Hc).bind fun y7=>(bif y7 then(some false) else(some (Lw==([]:List UInt8))))))) else((Er n (⟨Fv,Fw,Fx,Fy⟩:Bl) Hc).bind fun y10=>(bif y10 then(some false) else(some (Lw==([]:List UInt8)))))))
def Jd:Nat→Int→(List A2)→(List UInt8)→(List UInt8)→Bool→Bool→Option Bool
 | 0,_,_,_,_,_,_=>none
 | n+1,Hc,A8s,Fv,Fw,Fx,Fy=>((Er n (⟨Fv,Fw,Fx,Fy⟩:Bl) Hc).bind fun y1=>(bif y1 then((Jv n A8s).bind fun y4=>(bif y4 then(some true) else((Er n (⟨Fv,Fw,Fx,Fy⟩:Bl) Hc).bind fun y7=>(bif y7 then(some false) else(some (((A8s.length:Nat):Int)==0)))))) else((Er n (⟨Fv,Fw,Fx,Fy⟩:Bl) Hc).bind fun y10=>(bif y10 then(some false) else(some (((A8s.length:Nat):Int)==0))))))
def Qo:Nat→A4→Option Bool
 | 0,_=>none
 | n+1,B1=>((Me n B1.A9).bind fun y1=>(bif y1.2 then(bif decide (B1.Ao<0) then(some false) else(bif B1.Fp then((Er n y1.1 113).bind fun y6=>(bif y6 then((Jg n 114 B1.Eu y1.1.f_word y1.1.f_form y1.1.f_body y1.1.f_more).bind fun y9=>(bif y9 then((Jg n 108 B1.Ev y1.1.f_word y1.1.f_form y1.1.f_body y1.1.f_more).bind fun y12=>(bif y12 then((Jd n 101 B1.Ct y1.1.f_word y1.1.f_form y1.1.f_body y1.1.f_more).bind fun y15=>(bif y15 then((Jd n 102 B1.Ih y1.1.f_word y1.1.f_form y1.1.f_body y1.1.f_more).bind fun y18=>(bif y18 then(bif y1.1.f_body then(bif y1.1.f_more then(some true) else(some (B1.Co==0))) else(bif (B1.Ax==0) then(bif y1.1.f_more then(some true) else(some (B1.Co==0))) else(some false))) else(some false))) else(some false))) else(some false))) else(some false))) else(some false))) else((Jg n 114 B1.Eu y1.1.f_word y1.1.f_form y1.1.f_body y1.1.f_more).bind fun y25=>(bif y25 then((Jg n 108 B1.Ev y1.1.f_word y1.1.f_form y1.1.f_body y1.1.f_more).bind fun y28=>(bif y28 then((Jd n 101 B1.Ct y1.1.f_word y1.1.f_form y1.1.f_body y1.1.f_more).bind fun y31=>(bif y31 then((Jd n 102 B1.Ih y1.1.f_word y1.1.f_form y1.1.f_body y1.1.f_more).bind fun y34=>(bif y34 then(bif y1.1.f_body then(bif y1.1.f_more then(some true) else(some (B1.Co==0))) else(bif (B1.Ax==0) then(bif y1.1.f_more then(some true) else(some (B1.Co==0))) else(some false))) else(some false))) else(some false))) else(some false))) else(some false))))) else(some false)))
def Hu (n:Nat)  (Av:(List A4)):Nat→Int→Option (LR Unit Bool)
 | 0,_=>none
 | k7+1,s6=>(bif decide (s6<((Av.length:Nat):Int)) then((idx Av s6).bind fun x16=>((Qo n x16).bind fun y17=>(bif y17 then(Hu n Av k7 (IntKind.i64.wrap (s6+1))) else(some (.ret false))))) else(some (.out ())))
def Nq:Nat→(List A4)→Option Bool
 | 0,_=>none
 | n+1,Av=>((Po n Av).bind fun y1=>(bif (y1==(-1)) then(some false) else(bif decide (30<y1) then(some false) else(bif decide (200<((Av.length:Nat):Int)) then(some false) else((Hu n Av n 0).bind fun o14=>match o14 with|.out _=>(some true)|.ret v=>some v)))))
def Dw (n:Nat)  (B1:A4) (y1:(Bl×Bool)):Nat→(List UInt8)→Int→Bool→Option (LR ((List UInt8)×Bool) (List UInt8))
 | 0,_,_,_=>none
 | k6+1,s3,s4,s5=>(bif decide (s4<((y1.1.f_form.length:Nat):Int)) then((idx y1.1.f_form s4).bind fun x15=>(bif ((x15.toNat:Int)==114) then(bif decide ((([32]:List UInt8)).length+B1.Eu.length≤140737488355328) then(bif decide (s3.length+((([32]:List UInt8)++B1.Eu)).length≤140737488355328) then(Dw n B1 y1 k6 (s3++(([32]:List UInt8)++B1.Eu)) (IntKind.i64.wrap (s4+1)) s5) else none) else none) else(bif ((x15.toNat:Int)==108) then(bif decide ((([32]:List UInt8)).length+B1.Ev.length≤140737488355328) then(bif decide (s3.length+((([32]:List UInt8)++B1.Ev)).length≤140737488355328) then(Dw n B1 y1 k6 (s3++(([32]:List UInt8)++B1.Ev)) (IntKind.i64.wrap (s4+1)) s5) else none) else none) else(bif ((x15.toNat:Int)==101) then((E9 n B1.Ct).bind fun y23=>(bif decide ((([32]:List UInt8)).length+y23.length≤140737488355328) then(bif decide (s3.length+((([32]:List UInt8)++y23)).length≤140737488355328) then(Dw n B1 y1 k6 (s3++(([32]:List UInt8)++y23)) (IntKind.i64.wrap (s4+1)) s5) else none) else none)) else(bif ((x15.toNat:Int)==102) then((E9 n B1.Ih).bind fun y28=>(bif decide ((([32]:List UInt8)).length+y28.length≤140737488355328) then(bif decide (s3.length+((([32]:List UInt8)++y28)).length≤140737488355328) then(Dw n B1 y1 k6 (s3++(([32]:List UInt8)++y28)) (IntKind.i64.wrap (s4+1)) s5) else none) else none)) else(bif ((x15.toNat:Int)==113) then(bif s5 then(bif decide (s3.length+(([32,33,61]:List UInt8)).length≤140737488355328) then(Dw n B1 y1 k6 (s3++([32,33,61]:List UInt8)) (IntKind.i64.wrap (s4+1)) true) else none) else(bif decide (s3.length+(([32,61,61]:List UInt8)).length≤140737488355328) then(Dw n B1 y1 k6 (s3++([32,61,61]:List UInt8)) (IntKind.i64.wrap (s4+1)) false) else none)) else(bif ((x15.toNat:Int)==61) then(bif decide (s3.length+(([32,61]:List UInt8)).length≤140737488355328) then(Dw n B1 y1 k6 (s3++([32,61]:List UInt8)) (IntKind.i64.wrap (s4+1)) s5) else none) else(bif (decide (0≤(IntKind.i32.wrap ((x15.toNat:Int))))&&decide ((IntKind.i32.wrap ((x15.toNat:Int)))<128)) then(bif decide (s3.length+(([UInt8.ofNat (IntKind.i32.wrap ((x15.toNat:Int))).toNat])).length≤140737488355328) then(Dw n B1 y1 k6 (s3++([UInt8.ofNat (IntKind.i32.wrap ((x15.toNat:Int))).toNat])) (IntKind.i64.wrap (s4+1)) s5) else none) else none)))))))) else(some (.out (s3,s5))))
def Qg:Nat→A4→Option (List UInt8)
 | 0,_=>none
 | n+1,B1=>((Me n B1.A9).bind fun y1=>((Dw n B1 y1 n y1.1.f_word 0 B1.Fp).bind fun o13=>match o13 with|.out (x41,x42)=>(some x41)|.ret v=>some v))
def Jp (n:Nat)  (Ol:Int):Nat→(List UInt8)→Int→Option (LR (List UInt8) (List UInt8))
 | 0,_,_=>none
 | k3+1,s1,s2=>(bif decide (s2<Ol) then(bif decide (s1.length+(([32,32]:List UInt8)).length≤140737488355328) then(Jp n Ol k3 (s1++([32,32]:List UInt8)) (IntKind.i64.wrap (s2+1))) else none) else(some (.out s1)))
def O3:Nat→Int→Option (List UInt8)
 | 0,_=>none
 | n+1,Ol=>((Jp n Ol n ([]:List UInt8) 0).bind fun o10=>match o10 with|.out x14=>(some x14)|.ret v=>some v)
def D8 (n:Nat) (rec_stmt_show_1:Int→Int→Int→(List UInt8)→Int→(List A4)→Option (Bool×(List UInt8))) (Av:(List A4)) (E8:Int) (o1:Int) (o2:(List A4)):Nat→Int→(List UInt8)→Option (LR (List UInt8) (Bool×(List UInt8)))
 | 0,_,_=>none
 | k3+1,s1,s2=>(bif decide (s1<E8) then((idx Av s1).bind fun x12=>(bif decide (x12.Ax<0) then(some (.ret (false,s2))) else(bif decide (x12.Co<0) then(some (.ret (false,s2))) else(bif decide ((IntKind.i64.wrap ((IntKind.i64.wrap (E8 - s1)) - 1))<x12.Ax) then(some (.ret (false,s2))) else(bif decide ((IntKind.i64.wrap ((IntKind.i64.wrap ((IntKind.i64.wrap (E8 - s1)) - 1)) - x12.Ax))<x12.Co) then(some (.ret (false,s2))) else((rec_stmt_show_1 s1 (IntKind.i64.wrap ((IntKind.i64.wrap (s1+1))+x12.Ax)) (IntKind.i64.wrap ((IntKind.i64.wrap ((IntKind.i64.wrap (s1+1))+x12.Ax))+x12.Co)) s2 o1 o2).bind fun y17=>(bif y17.1 then(D8 n rec_stmt_show_1 Av E8 o1 o2 k3 (IntKind.i64.wrap ((IntKind.i64.wrap ((IntKind.i64.wrap (s1+1))+x12.Ax))+x12.Co)) y17.2) else(some (.ret (false,y17.2)))))))))) else(some (.out s2)))
mutual
def Im:Nat→(List A4)→Int→Int→Int→Option (List UInt8)
 | 0,_,_,_,_=>none
 | n+1,Av,Ei,E8,Zg=>(((Fc n) Av Ei E8 ([]:List UInt8) Zg Av).bind fun y1=>(some y1.2))
def Je:Nat→Int→Int→Int→(List UInt8)→Int→(List A4)→Option (Bool×(List UInt8))
 | 0,_,_,_,_,_,_=>none
 | n+1,Hb,Mq,Od,o0,o1,o2=>((O3 n o1).bind fun y1=>((idx o2 Hb).bind fun x3=>((Qg n x3).bind fun y4=>(bif decide (y1.length+y4.length≤140737488355328) then(bif decide (o0.length+((y1++y4)).length≤140737488355328) then((idx o2 Hb).bind fun x8=>((Nj n x8.A9).bind fun y9=>(bif y9 then(((Im n) o2 (IntKind.i64.wrap (Hb+1)) Mq (IntKind.i64.wrap (o1+1))).bind fun y12=>(bif decide ((([32,123,10]:List UInt8)).length+y12.length≤140737488355328) then((O3 n o1).bind fun y15=>(bif decide (((([32,123,10]:List UInt8)++y12)).length+y15.length≤140737488355328) then(bif decide (((o0++(y1++y4))).length+(((([32,123,10]:List UInt8)++y12)++y15)).length≤140737488355328) then(bif decide (Mq<Od) then(((Im n) o2 Mq Od (IntKind.i64.wrap (o1+1))).bind fun y20=>(bif decide ((([125,32,101,108,115,101,32,123,10]:List UInt8)).length+y20.length≤140737488355328) then((O3 n o1).bind fun y23=>(bif decide (((([125,32,101,108,115,101,32,123,10]:List UInt8)++y20)).length+y23.length≤140737488355328) then(bif decide ((((o0++(y1++y4))++((([32,123,10]:List UInt8)++y12)++y15))).length+(((([125,32,101,108,115,101,32,123,10]:List UInt8)++y20)++y23)).length≤140737488355328) then(bif decide (((((o0++(y1++y4))++((([32,123,10]:List UInt8)++y12)++y15))++((([125,32,101,108,115,101,32,123,10]:List UInt8)++y20)++y23))).length+(([125]:List UInt8)).length≤140737488355328) then(bif decide ((((((o0++(y1++y4))++((([32,123,10]:List UInt8)++y12)++y15))++((([125,32,101,108,115,101,32,123,10]:List UInt8)++y20)++y23))++([125]:List UInt8))).length+(([10]:List UInt8)).length≤140737488355328) then(some (true,(((((o0++(y1++y4))++((([32,123,10]:List UInt8)++y12)++y15))++((([125,32,101,108,115,101,32,123,10]:List UInt8)++y20)++y23))++([125]:List UInt8))++([10]:List UInt8)))) else none) else none) else none) else none)) else none)) else(bif decide ((((o0++(y1++y4))++((([32,123,10]:List UInt8)++y12)++y15))).length+(([125]:List UInt8)).length≤140737488355328) then(bif decide (((((o0++(y1++y4))++((([32,123,10]:List UInt8)++y12)++y15))++([125]:List UInt8))).length+(([10]:List UInt8)).length≤140737488355328) then(some (true,((((o0++(y1++y4))++((([32,123,10]:List UInt8)++y12)++y15))++([125]:List UInt8))++([10]:List UInt8)))) else none) else none)) else none) else none)) else none)) else(bif decide (((o0++(y1++y4))).length+(([10]:List UInt8)).length≤140737488355328) then(some (true,((o0++(y1++y4))++([10]:List UInt8)))) else none)))) else none) else none))))
def Fc:Nat→(List A4)→Int→Int→(List UInt8)→Int→(List A4)→Option (Bool×(List UInt8))
 | 0,_,_,_,_,_,_=>none
 | n+1,Av,Ei,E8,o0,o1,o2=>((D8 n (Je n) Av E8 o1 o2 n Ei o0).bind fun o10=>match o10 with|.out x21=>(some (true,x21))|.ret v=>some v)
end
def Ms:Nat→(List A4)→Int→Option (List UInt8)
 | 0,_,_=>none
 | n+1,Av,Vy=>(bif decide (Vy<0) then(some ([]:List UInt8)) else(bif decide (100<Vy) then(some ([]:List UInt8)) else((Nq n Av).bind fun y3=>(bif y3 then((Im n Av 0 ((Av.length:Nat):Int) Vy).bind fun y6=>(some y6)) else(some ([]:List UInt8))))))
def Gu (n:Nat)  (Bp:Ba) (Br:Ba):Nat→Bool→Int→Option (LR Bool Bool)
 | 0,_,_=>none
 | k7+1,s5,s6=>(bif decide (s6<((Bp.Au.length:Nat):Int)) then((idx Bp.Au s6).bind fun x16=>((idx Br.Au s6).bind fun x17=>(bif (x16.Ai==x17.Ai) then((idx Bp.Au s6).bind fun x19=>((idx Br.Au s6).bind fun x20=>(bif (x19.Bs != x20.Bs) then(some (.ret false)) else(bif s5 then((idx Bp.Au s6).bind fun x23=>((idx Br.Au s6).bind fun x24=>(bif (x23.Ao != x24.Ao) then(some (.ret false)) else(Gu n Bp Br k7 true (IntKind.i64.wrap (s6+1)))))) else(Gu n Bp Br k7 false (IntKind.i64.wrap (s6+1))))))) else(some (.ret false))))) else(some (.out s5)))
def I3 (n:Nat)  (x39:Ag) (x40:Ag):Nat→Int→Option (LR Unit Bool)
 | 0,_=>none
 | k49+1,s48=>(bif decide (s48<((x39.B5.length:Nat):Int)) then((idx x39.B5 s48).bind fun x58=>((idx x40.B5 s48).bind fun x59=>(bif (x58==x59) then(I3 n x39 x40 k49 (IntKind.i64.wrap (s48+1))) else(some (.ret false))))) else(some (.out ())))
def I1 (n:Nat)  (x39:Ag) (x40:Ag):Nat→Int→Option (LR Unit Bool)
 | 0,_=>none
 | k64+1,s63=>(bif decide (s63<((x39.B5.length:Nat):Int)) then((idx x39.B5 s63).bind fun x73=>((idx x40.B5 s63).bind fun x74=>(bif (x73==x74) then(I1 n x39 x40 k64 (IntKind.i64.wrap (s63+1))) else(some (.ret false))))) else(some (.out ())))
def Gy (n:Nat)  (Bp:Ba) (Br:Ba):Nat→Bool→Int→Option (LR Bool Bool)
 | 0,_,_=>none
 | k30+1,s28,s29=>(bif decide (s29<((Bp.Ac.length:Nat):Int)) then((idx Bp.Ac s29).bind fun x39=>((idx Br.Ac s29).bind fun x40=>(bif (x39.Ai==x40.Ai) then(bif (((x39.B5.length:Nat):Int) != ((x40.B5.length:Nat):Int)) then(some (.ret false)) else((P0 n x39.Ax x40.Ax s28).bind fun y43=>(bif y43 then(bif s28 then(bif (x39.Ao != x40.Ao) then(some (.ret false)) else((I3 n x39 x40 n 0).bind fun o56=>match o56 with|.out _=>(Gy n Bp Br k30 true (IntKind.i64.wrap (s29+1)))|.ret v=>some (.ret v))) else((I1 n x39 x40 n 0).bind fun o71=>match o71 with|.out _=>(Gy n Bp Br k30 false (IntKind.i64.wrap (s29+1)))|.ret v=>some (.ret v))) else(some (.ret false))))) else(some (.ret false))))) else(some (.out s28)))
def Gx (n:Nat)  (Bp:Ba) (Br:Ba):Nat→Bool→Int→Option (LR Unit Bool)
 | 0,_,_=>none
 | k82+1,s80,s81=>(bif decide (s81<((Bp.Al.length:Nat):Int)) then((idx Bp.Al s81).bind fun x91=>((idx Br.Al s81).bind fun x92=>(bif (x91.A9 != x92.A9) then(some (.ret false)) else((idx Bp.Al s81).bind fun x94=>((idx Br.Al s81).bind fun x95=>((Ip n x94.Ct x95.Ct s80).bind fun y96=>(bif y96 then(bif s80 then((idx Bp.Al s81).bind fun x100=>((idx Br.Al s81).bind fun x101=>(bif (x100.Ao != x101.Ao) then(some (.ret false)) else(Gx n Bp Br k82 true (IntKind.i64.wrap (s81+1)))))) else(Gx n Bp Br k82 false (IntKind.i64.wrap (s81+1)))) else(some (.ret false))))))))) else(some (.out ())))
def Pp:Nat→Ba→Ba→Bool→Option Bool
 | 0,_,_,_=>none
 | n+1,Bp,Br,Fb=>(bif (Bp.Bm != Br.Bm) then(some false) else(bif (((Bp.Au.length:Nat):Int) != ((Br.Au.length:Nat):Int)) then(some false) else(bif (((Bp.Ac.length:Nat):Int) != ((Br.Ac.length:Nat):Int)) then(some false) else(bif (((Bp.Al.length:Nat):Int) != ((Br.Al.length:Nat):Int)) then(some false) else((Gu n Bp Br n Fb 0).bind fun o14=>match o14 with|.out x27=>((Gy n Bp Br n x27 0).bind fun o37=>match o37 with|.out x79=>((Gx n Bp Br n x79 0).bind fun o89=>match o89 with|.out _=>(some true)|.ret v=>some v)|.ret v=>some v)|.ret v=>some v)))))
def M0 (n:Nat) :Nat→Int→(List A2)→Option (LR (List A2) (List A2))
 | 0,_,_=>none
 | k5+1,s3,s4=>(bif decide (s3<(((([]:List A2)).length:Nat):Int)) then((idx s4 s3).bind fun x14=>(M0 n k5 (IntKind.i64.wrap (s3+1)) (List.set s4 s3.toNat (⟨x14.As,x14.Bs,x14.Ai,x14.D5,0⟩:A2)))) else(some (.out s4)))
def I4 (n:Nat)  (Av:(List A2)):Nat→Int→(List A2)→Option (LR (List A2) (List A2))
 | 0,_,_=>none
 | k21+1,s19,s20=>(bif decide (s19<((Av.length:Nat):Int)) then((idx s20 s19).bind fun x30=>(I4 n Av k21 (IntKind.i64.wrap (s19+1)) (List.set s20 s19.toNat (⟨x30.As,x30.Bs,x30.Ai,x30.D5,0⟩:A2)))) else(some (.out s20)))
def L9:Nat→(List A2)→Option (List A2)
 | 0,_=>none
 | n+1,Av=>(bif decide (Av.length*57≤140737488355328) then(bif decide (Av.length=0) then((M0 n n 0 ([]:List A2)).bind fun o12=>match o12 with|.out x17=>(some x17)|.ret v=>some v) else((I4 n Av n 0 Av).bind fun o28=>match o28 with|.out x33=>(some x33)|.ret v=>some v)) else none)
def Iq (n:Nat)  (Ay:Ba):Nat→Int→(List Be)→Option (LR (List Be) Ba)
 | 0,_,_=>none
 | k3+1,s1,s2=>(bif decide (s1<((Ay.Au.length:Nat):Int)) then((idx Ay.Au s1).bind fun x12=>(bif decide ((s2.length+1)*33≤140737488355328) then(Iq n Ay k3 (IntKind.i64.wrap (s1+1)) (s2++([(⟨x12.Ai,x12.Bs,0⟩:Be)]:List Be))) else none)) else(some (.out s2)))
def J7 (n:Nat)  (x28:Ag):Nat→Int→(List A4)→Option (LR (List A4) Ba)
 | 0,_,_=>none
 | k32+1,s30,s31=>(bif decide (s30<((x28.Ax.length:Nat):Int)) then((idx x28.Ax s30).bind fun x41=>((L9 n x41.Ct).bind fun y42=>((L9 n x41.Ih).bind fun y44=>(bif decide ((s31.length+1)*121≤140737488355328) then(J7 n x28 k32 (IntKind.i64.wrap (s30+1)) (s31++([(⟨x41.A9,x41.Eu,x41.Ev,y42,y44,x41.Fp,x41.Ax,x41.Co,0⟩:A4)]:List A4))) else none)))) else(some (.out s31)))
def Ix (n:Nat)  (Ay:Ba):Nat→Int→(List Ag)→Option (LR (List Ag) Ba)
 | 0,_,_=>none
 | k19+1,s17,s18=>(bif decide (s17<((Ay.Ac.length:Nat):Int)) then((idx Ay.Ac s17).bind fun x28=>(bif decide (x28.B5.length*17≤140737488355328) then((J7 n x28 n 0 ([]:List A4)).bind fun o39=>match o39 with|.out x49=>(bif decide ((s18.length+1)*73≤140737488355328) then(Ix n Ay k19 (IntKind.i64.wrap (s17+1)) (s18++([(⟨x28.Ai,x28.B5,x49,0⟩:Ag)]:List Ag))) else none)|.ret v=>some (.ret v)) else none)) else(some (.out s18)))
def Iz (n:Nat)  (Ay:Ba):Nat→Int→(List Aj)→Option (LR (List Aj) Ba)
 | 0,_,_=>none
 | k57+1,s55,s56=>(bif decide (s55<((Ay.Al.length:Nat):Int)) then((idx Ay.Al s55).bind fun x66=>((L9 n x66.Ct).bind fun y67=>(bif decide ((s56.length+1)*41≤140737488355328) then(Iz n Ay k57 (IntKind.i64.wrap (s55+1)) (s56++([(⟨x66.A9,y67,0⟩:Aj)]:List Aj))) else none))) else(some (.out s56)))
def L3:Nat→Ba→Option Ba
 | 0,_=>none
 | n+1,Ay=>((Iq n Ay n 0 ([]:List Be)).bind fun o10=>match o10 with|.out x16=>((Ix n Ay n 0 ([]:List Ag)).bind fun o26=>match o26 with|.out x54=>((Iz n Ay n 0 ([]:List Aj)).bind fun o64=>match o64 with|.out x72=>(some (⟨Ay.Bm,x16,x54,x72⟩:Ba))|.ret v=>some v)|.ret v=>some v)|.ret v=>some v)
def Cd:Nat→Int→Int→(List A5)→Int→Int→Int→Option (Int×Int)
 | 0,_,_,_,_,_,_=>none
 | n+1,Ut,Lt,p_l,p_i,p_e,p_at=>(bif (p_e==0) then(some (Ut,Lt)) else(some (p_e,p_at)))
def V2:Nat→A5→Int→(List UInt8)→Option Bool
 | 0,_,_,_=>none
 | n+1,F9,o0,o1=>(bif (F9.A9==o0) then(some (F9.Aa==o1)) else(some false))
def De:Nat→(List A5)→Int→Int→Int→Int→(List UInt8)→Option (A5×Bool×Int)
 | 0,_,_,_,_,_,_=>none
 | n+1,p_l,p_i,p_e,p_at,o1,o2=>(bif (p_e != 0) then(some ((⟨0,([]:List UInt8),0,0⟩:A5),false,p_i)) else(bif decide (((p_l.length:Nat):Int)≤p_i) then(some ((⟨0,([]:List UInt8),0,0⟩:A5),false,p_i)) else((idx p_l p_i).bind fun x3=>((V2 n x3 o1 o2).bind fun y4=>(bif y4 then((idx p_l (IntKind.i64.wrap ((IntKind.i64.wrap (p_i+1)) - 1))).bind fun x7=>(some (x7,true,IntKind.i64.wrap (p_i+1)))) else(some ((⟨0,([]:List UInt8),0,0⟩:A5),false,p_i)))))))
def E1:Nat→(List A5)→Int→Int→Int→Option (Int×Int)
 | 0,_,_,_,_=>none
 | n+1,p_l,p_i,p_e,p_at=>(bif decide (p_i<((p_l.length:Nat):Int)) then((idx p_l p_i).bind fun x2=>((Cd n 5 x2.Ao p_l p_i p_e p_at).bind fun y3=>(some (y3.1,y3.2)))) else(bif decide (0<((p_l.length:Nat):Int)) then((idx p_l (IntKind.i64.wrap (((p_l.length:Nat):Int) - 1))).bind fun x6=>((idx p_l (IntKind.i64.wrap (((p_l.length:Nat):Int) - 1))).bind fun x7=>((Cd n 6 (IntKind.i64.wrap (x6.Ao+((x7.Aa.length:Nat):Int))) p_l p_i p_e p_at).bind fun y8=>(some (y8.1,y8.2))))) else((Cd n 6 0 p_l p_i p_e p_at).bind fun y10=>(some (y10.1,y10.2)))))
def Ig:Nat→(List A5)→Int→Int→Int→Int→(List UInt8)→Option (A5×Int×Int×Int)
 | 0,_,_,_,_,_,_=>none
 | n+1,p_l,p_i,p_e,p_at,o1,o2=>((De n p_l p_i p_e p_at o1 o2).bind fun y1=>(bif y1.2.1 then(some (y1.1,y1.2.2,p_e,p_at)) else((E1 n p_l y1.2.2 p_e p_at).bind fun y4=>(some (y1.1,y1.2.2,y4.1,y4.2)))))
def By:Nat→(List UInt8)→(List A5)→Int→Int→Int→Option (Int×Int×Int)
 | 0,_,_,_,_,_=>none
 | n+1,Lw,p_l,p_i,p_e,p_at=>(Te n fun n1=>((Ig n p_l p_i p_e p_at 3 Lw).bind fun y6=>(some (y6.2.1,y6.2.2.1,y6.2.2.2))))
def Ir (n:Nat) :Nat→Option (LR Unit (Aj×Int×Int×Int))
 | 0=>none
 | k5+1=>(some (.out ()))
def Dp (n:Nat)  (y1:((List A2)×Int×Int×Int)):Nat→Int→(List A2)→Option (LR (List A2) (Aj×Int×Int×Int))
 | 0,_,_=>none
 | k24+1,s22,s23=>(bif decide (s22<((y1.1.length:Nat):Int)) then((idx s23 s22).bind fun x33=>(bif (x33.As==2) then((idx s23 s22).bind fun x35=>(Dp n y1 k24 (IntKind.i64.wrap (s22+1)) (List.set s23 s22.toNat (⟨3,x35.Bs,x35.Ai,x35.D5,x35.Ao⟩:A2)))) else(Dp n y1 k24 (IntKind.i64.wrap (s22+1)) s23))) else(some (.out s23)))
def Jl:Nat→Int→Int→(List A5)→Int→Int→Int→Option (Aj×Int×Int×Int)
 | 0,_,_,_,_,_,_=>none
 | n+1,Hn,Lt,p_l,p_i,p_e,p_at=>((K2 n p_l p_i).bind fun y1=>(bif decide (y1.1.length=0) then((Cd n y1.2.2.1 y1.2.2.2 p_l p_i p_e p_at).bind fun y3=>((Ir n n).bind fun o12=>match o12 with|.out _=>(bif (y3.1==0) then((By n ([59]:List UInt8) p_l y1.2.1 y3.1 y3.2).bind fun y15=>(some ((⟨Hn,([]:List A2),Lt⟩:Aj),y15.1,y15.2.1,y15.2.2))) else((By n ([59]:List UInt8) p_l p_i y3.1 y3.2).bind fun y17=>(some ((⟨Hn,([]:List A2),Lt⟩:Aj),y17.1,y17.2.1,y17.2.2))))|.ret v=>some v)) else((Cd n y1.2.2.1 y1.2.2.2 p_l p_i p_e p_at).bind fun y20=>((Dp n y1 n 0 y1.1).bind fun o31=>match o31 with|.out x38=>(bif (y20.1==0) then((By n ([59]:List UInt8) p_l y1.2.1 y20.1 y20.2).bind fun y40=>(some ((⟨Hn,x38,Lt⟩:Aj),y40.1,y40.2.1,y40.2.2))) else((By n ([59]:List UInt8) p_l p_i y20.1 y20.2).bind fun y42=>(some ((⟨Hn,x38,Lt⟩:Aj),y42.1,y42.2.1,y42.2.2))))|.ret v=>some v))))
def Qw:Nat→A5→Option Bool
 | 0,_=>none
 | n+1,F9=>(some (F9.A9==2))
def J0:Nat→(List A5)→Int→Int→Int→Option (A5×Bool×Int)
 | 0,_,_,_,_=>none
 | n+1,p_l,p_i,p_e,p_at=>(bif (p_e != 0) then(some ((⟨0,([]:List UInt8),0,0⟩:A5),false,p_i)) else(bif decide (((p_l.length:Nat):Int)≤p_i) then(some ((⟨0,([]:List UInt8),0,0⟩:A5),false,p_i)) else((idx p_l p_i).bind fun x3=>((Qw n x3).bind fun y4=>(bif y4 then((idx p_l (IntKind.i64.wrap ((IntKind.i64.wrap (p_i+1)) - 1))).bind fun x7=>(some (x7,true,IntKind.i64.wrap (p_i+1)))) else(some ((⟨0,([]:List UInt8),0,0⟩:A5),false,p_i)))))))
def H3:Nat→(List A5)→Int→Int→Int→Option (A5×Int×Int×Int)
 | 0,_,_,_,_=>none
 | n+1,p_l,p_i,p_e,p_at=>((J0 n p_l p_i p_e p_at).bind fun y1=>(bif y1.2.1 then(some (y1.1,y1.2.2,p_e,p_at)) else((E1 n p_l y1.2.2 p_e p_at).bind fun y4=>(some (y1.1,y1.2.2,y4.1,y4.2)))))
def Tt:Nat→A5→Option Bool
 | 0,_=>none
 | n+1,F9=>(bif (F9.A9==1) then((Dg n F9.Aa).bind fun y2=>(some y2)) else(some false))
def J1:Nat→(List A5)→Int→Int→Int→Option (A5×Bool×Int)
 | 0,_,_,_,_=>none
 | n+1,p_l,p_i,p_e,p_at=>(bif (p_e != 0) then(some ((⟨0,([]:List UInt8),0,0⟩:A5),false,p_i)) else(bif decide (((p_l.length:Nat):Int)≤p_i) then(some ((⟨0,([]:List UInt8),0,0⟩:A5),false,p_i)) else((idx p_l p_i).bind fun x3=>((Tt n x3).bind fun y4=>(bif y4 then((idx p_l (IntKind.i64.wrap ((IntKind.i64.wrap (p_i+1)) - 1))).bind fun x7=>(some (x7,true,IntKind.i64.wrap (p_i+1)))) else(some ((⟨0,([]:List UInt8),0,0⟩:A5),false,p_i)))))))
def Fl:Nat→(List A5)→Int→Int→Int→Option (A5×Int×Int×Int)
 | 0,_,_,_,_=>none
 | n+1,p_l,p_i,p_e,p_at=>((J1 n p_l p_i p_e p_at).bind fun y1=>(bif y1.2.1 then(some (y1.1,y1.2.2,p_e,p_at)) else((E1 n p_l y1.2.2 p_e p_at).bind fun y4=>(some (y1.1,y1.2.2,y4.1,y4.2)))))
def Kp:Nat→Int→(List A5)→Int→Int→Int→Option (Be×Int×Int×Int)
 | 0,_,_,_,_,_=>none
 | n+1,Kz,p_l,p_i,p_e,p_at=>((Fl n p_l p_i p_e p_at).bind fun y1=>((By n ([61]:List UInt8) p_l y1.2.1 y1.2.2.1 y1.2.2.2).bind fun y3=>((H3 n p_l y3.1 y3.2.1 y3.2.2).bind fun y5=>((By n ([59]:List UInt8) p_l y5.2.1 y5.2.2.1 y5.2.2.2).bind fun y7=>(some ((⟨y1.1.Aa,y5.1.Bs,Kz⟩:Be),y7.1,y7.2.1,y7.2.2))))))
def Dz (n:Nat)  (p_l:(List A5)):Nat→Bool→Int→Int→Int→(List (List UInt8))→Option (LR (Int×Int×Int×(List (List UInt8))) (Ag×Int×Int×Int))
 | 0,_,_,_,_,_=>none
 | k18+1,s13,s14,s15,s16,s17=>(bif s13 then((Fl n p_l s14 s15 s16).bind fun y27=>(bif decide ((s17.length+1)*17≤140737488355328) then(Te n fun n31=>((De n p_l y27.2.1 y27.2.2.1 y27.2.2.2 3 ([44]:List UInt8)).bind fun y36=>(Dz n p_l k18 y36.2.1 y36.2.2 y27.2.2.1 y27.2.2.2 (s17++([y27.1.Aa]:List (List UInt8)))))) else none)) else(some (.out (s14,s15,s16,s17))))
def It:Nat→Int→(List A5)→Int→Int→Int→Option (Ag×Int×Int×Int)
 | 0,_,_,_,_,_=>none
 | n+1,Kz,p_l,p_i,p_e,p_at=>((Fl n p_l p_i p_e p_at).bind fun y1=>((By n ([123]:List UInt8) p_l y1.2.1 y1.2.2.1 y1.2.2.2).bind fun y3=>(Te n fun n5=>((De n p_l y3.1 y3.2.1 y3.2.2 1 ([114,101,103]:List UInt8)).bind fun y10=>(bif y10.2.1 then((Dz n p_l n true y10.2.2 y3.2.1 y3.2.2 ([]:List (List UInt8))).bind fun o25=>match o25 with|.out (x39,x40,x41,x42)=>((By n ([59]:List UInt8) p_l x39 x40 x41).bind fun y43=>(bif (y43.2.1 != 0) then(some ((⟨y1.1.Aa,x42,([]:List A4),Kz⟩:Ag),y43.1,y43.2.1,y43.2.2)) else((Jx n p_l y43.1).bind fun y46=>((Cd n y46.2.2.1 y46.2.2.2 p_l y43.1 y43.2.1 y43.2.2).bind fun y48=>(bif (y48.1==0) then((By n ([125]:List UInt8) p_l y46.2.1 y48.1 y48.2).bind fun y51=>(some ((⟨y1.1.Aa,x42,y46.1,Kz⟩:Ag),y51.1,y51.2.1,y51.2.2))) else((By n ([125]:List UInt8) p_l y43.1 y48.1 y48.2).bind fun y53=>(some ((⟨y1.1.Aa,x42,y46.1,Kz⟩:Ag),y53.1,y53.2.1,y53.2.2))))))))|.ret v=>some v) else(bif (y3.2.1 != 0) then(some ((⟨y1.1.Aa,([]:List (List UInt8)),([]:List A4),Kz⟩:Ag),y10.2.2,y3.2.1,y3.2.2)) else((Jx n p_l y10.2.2).bind fun y57=>((Cd n y57.2.2.1 y57.2.2.2 p_l y10.2.2 y3.2.1 y3.2.2).bind fun y59=>(bif (y59.1==0) then((By n ([125]:List UInt8) p_l y57.2.1 y59.1 y59.2).bind fun y62=>(some ((⟨y1.1.Aa,([]:List (List UInt8)),y57.1,Kz⟩:Ag),y62.1,y62.2.1,y62.2.2))) else((By n ([125]:List UInt8) p_l y10.2.2 y59.1 y59.2).bind fun y64=>(some ((⟨y1.1.Aa,([]:List (List UInt8)),y57.1,Kz⟩:Ag),y64.1,y64.2.1,y64.2.2))))))))))))
def Jq:Nat→Int→Option (List UInt8)
 | 0,_=>none
 | n+1,L7=>(bif (L7==1) then(some ([102,111,114,97,108,108]:List UInt8)) else(bif (L7==2) then(some ([101,120,105,115,116,115]:List UInt8)) else(bif (L7==3) then(some ([97,108,119,97,121,115]:List UInt8)) else(some ([]:List UInt8)))))
def Ko (n:Nat)  (y1:((List A5)×Int×Int)):Nat→Bool→Int→Int→Int→Int→(List UInt8)→Int→Int→(List Be)→Option (LR (Int×Int×Int×Int×(List UInt8)×Int×Int×(List Be)) (Ba×Int×Int))
 | 0,_,_,_,_,_,_,_,_,_=>none
 | k31+1,s22,s23,s24,s25,s26,s27,s28,s29,s30=>(bif s22 then((Kp n s29 y1.1 s23 s24 s25).bind fun y40=>(bif decide ((s30.length+1)*33≤140737488355328) then(Te n fun n44=>((De n y1.1 y40.2.1 y40.2.2.1 y40.2.2.2 1 ([108,111,99]:List UInt8)).bind fun y49=>(Ko n y1 k31 y49.2.1 y49.2.2 y40.2.2.1 y40.2.2.2 y49.1.A9 y49.1.Aa y49.1.Bs y49.1.Ao (s30++([y40.1]:List Be))))) else none)) else(some (.out (s23,s24,s25,s26,s27,s28,s29,s30))))
def Km (n:Nat)  (y1:((List A5)×Int×Int)):Nat→Bool→Int→Int→Int→(List Ag)→Int→(List UInt8)→Int→Int→Option (LR (Int×Int×Int×Int×(List UInt8)×Int×Int×(List Ag)) (Ba×Int×Int))
 | 0,_,_,_,_,_,_,_,_,_=>none
 | k76+1,s67,s68,s69,s70,s71,s72,s73,s74,s75=>(bif s67 then((It n s75 y1.1 s68 s69 s70).bind fun y85=>(bif decide ((s71.length+1)*73≤140737488355328) then(Te n fun n89=>((De n y1.1 y85.2.1 y85.2.2.1 y85.2.2.2 1 ([116,104,114,101,97,100]:List UInt8)).bind fun y94=>(Km n y1 k76 y94.2.1 y94.2.2 y85.2.2.1 y85.2.2.2 (s71++([y85.1]:List Ag)) y94.1.A9 y94.1.Aa y94.1.Bs y94.1.Ao))) else none)) else(some (.out (s68,s69,s70,s72,s73,s74,s75,s71))))
def Eh (n:Nat)  (y1:((List A5)×Int×Int)):Nat→Bool→Int→Int→Int→Int→(List Aj)→Option (LR (Bool×Int×Int×Int×(List Aj)) (Ba×Int×Int))
 | 0,_,_,_,_,_,_=>none
 | k125+1,s119,s120,s121,s122,s123,s124=>(bif decide (s120≤3) then((Jq n s120).bind fun y134=>(Te n fun n136=>((De n y1.1 s121 s122 s123 1 y134).bind fun y141=>(bif y141.2.1 then((Jl n s120 y141.1.Ao y1.1 y141.2.2 s122 s123).bind fun y144=>(bif decide ((s124.length+1)*41≤140737488355328) then(Eh n y1 k125 true (IntKind.i64.wrap (s120+1)) y144.2.1 y144.2.2.1 y144.2.2.2 (s124++([y144.1]:List Aj))) else none)) else(Eh n y1 k125 s119 (IntKind.i64.wrap (s120+1)) y141.2.2 s122 s123 s124))))) else(some (.out (s119,s121,s122,s123,s124))))
def Jb (n:Nat)  (y1:((List A5)×Int×Int)):Nat→Bool→Int→Int→Int→(List Aj)→Option (LR (Int×Int×Int×(List Aj)) (Ba×Int×Int))
 | 0,_,_,_,_,_=>none
 | k110+1,s105,s106,s107,s108,s109=>(bif s105 then((Eh n y1 n false 1 s106 s107 s108 s109).bind fun o132=>match o132 with|.out (x149,x150,x151,x152,x153)=>(Jb n y1 k110 x149 x150 x151 x152 x153)|.ret v=>some (.ret v)) else(some (.out (s106,s107,s108,s109))))
def Fn:Nat→(List UInt8)→Option (Ba×Int×Int)
 | 0,_=>none
 | n+1,Bx=>((Qv n Bx).bind fun y1=>(bif (y1.2.1 != 0) then(some ((⟨0,([]:List Be),([]:List Ag),([]:List Aj)⟩:Ba),y1.2.1,y1.2.2)) else(Te n fun n4=>((Ig n y1.1 0 0 0 1 ([109,111,100]:List UInt8)).bind fun y9=>((H3 n y1.1 y9.2.1 y9.2.2.1 y9.2.2.2).bind fun y11=>((By n ([59]:List UInt8) y1.1 y11.2.1 y11.2.2.1 y11.2.2.2).bind fun y13=>(Te n fun n15=>((De n y1.1 y13.1 y13.2.1 y13.2.2 1 ([108,111,99]:List UInt8)).bind fun y20=>((Ko n y1 n y20.2.1 y20.2.2 y13.2.1 y13.2.2 y20.1.A9 y20.1.Aa y20.1.Bs y20.1.Ao ([]:List Be)).bind fun o38=>match o38 with|.out (x52,x53,x54,x55,x56,x57,x58,x59)=>(Te n fun n60=>((De n y1.1 x52 x53 x54 1 ([116,104,114,101,97,100]:List UInt8)).bind fun y65=>((Km n y1 n y65.2.1 y65.2.2 x53 x54 ([]:List Ag) y65.1.A9 y65.1.Aa y65.1.Bs y65.1.Ao).bind fun o83=>match o83 with|.out (x97,x98,x99,x100,x101,x102,x103,x104)=>((Jb n y1 n true x97 x98 x99 ([]:List Aj)).bind fun o117=>match o117 with|.out (x156,x157,x158,x159)=>(bif decide (x156<((y1.1.length:Nat):Int)) then((E1 n y1.1 x156 x157 x158).bind fun y161=>(bif (y161.1 != 0) then(some ((⟨0,([]:List Be),([]:List Ag),([]:List Aj)⟩:Ba),y161.1,y161.2)) else(some ((⟨y11.1.Bs,x59,x104,x159⟩:Ba),0,0)))) else(bif (x157 != 0) then(some ((⟨0,([]:List Be),([]:List Ag),([]:List Aj)⟩:Ba),x157,x158)) else(some ((⟨y11.1.Bs,x59,x104,x159⟩:Ba),0,0))))|.ret v=>some v)|.ret v=>some v)))|.ret v=>some v)))))))))
def M4:Nat→Int→Option Bool
 | 0,_=>none
 | n+1,Ca=>(bif decide (0≤Ca) then(some (decide (Ca≤9999))) else(some false))
def Pu:Nat→Int→Int→(List Be)→(List Ag)→(List Aj)→Option Bool
 | 0,_,_,_,_,_=>none
 | n+1,Hb,C7,Bw,Bb,Bh=>((idx Bw Hb).bind fun x1=>((Dg n x1.Ai).bind fun y2=>(bif y2 then((M4 n x1.Bs).bind fun y5=>(bif y5 then(some (decide (0≤x1.Ao))) else(some false))) else(some false))))
def Js (n:Nat)  (Ca:Int) (C7:Int) (Bw:(List Be)) (Bb:(List Ag)) (Bh:(List Aj)):Nat→Int→Option (LR Unit Bool)
 | 0,_=>none
 | k2+1,s1=>(bif decide (s1<Ca) then((Pu n s1 C7 Bw Bb Bh).bind fun y11=>(bif y11 then(Js n Ca C7 Bw Bb Bh k2 (IntKind.i64.wrap (s1+1))) else(some (.ret false)))) else(some (.out ())))
def Ss:Nat→Int→Int→(List Be)→(List Ag)→(List Aj)→Option Bool
 | 0,_,_,_,_,_=>none
 | n+1,Ca,C7,Bw,Bb,Bh=>((Js n Ca C7 Bw Bb Bh n 0).bind fun o9=>match o9 with|.out _=>(some true)|.ret v=>some v)
def Ot:Nat→Int→(List UInt8)→(List (List UInt8))→(List A4)→Int→Option Bool
 | 0,_,_,_,_,_=>none
 | n+1,Hb,Ho,He,Hq,Lu=>((idx He Hb).bind fun x1=>((Dg n x1).bind fun y2=>(some y2)))
def Hy (n:Nat)  (Ca:Int) (Ho:(List UInt8)) (He:(List (List UInt8))) (Hq:(List A4)) (Lu:Int):Nat→Int→Option (LR Unit Bool)
 | 0,_=>none
 | k2+1,s1=>(bif decide (s1<Ca) then((Ot n s1 Ho He Hq Lu).bind fun y11=>(bif y11 then(Hy n Ca Ho He Hq Lu k2 (IntKind.i64.wrap (s1+1))) else(some (.ret false)))) else(some (.out ())))
def Pc:Nat→Int→(List UInt8)→(List (List UInt8))→(List A4)→Int→Option Bool
 | 0,_,_,_,_,_=>none
 | n+1,Ca,Ho,He,Hq,Lu=>((Hy n Ca Ho He Hq Lu n 0).bind fun o9=>match o9 with|.out _=>(some true)|.ret v=>some v)
def O8:Nat→Ag→Option Bool
 | 0,_=>none
 | n+1,F9=>((Dg n F9.Ai).bind fun y1=>(bif y1 then(bif decide (0≤F9.Ao) then((Nq n F9.Ax).bind fun y5=>(bif y5 then((Pc n ((F9.B5.length:Nat):Int) F9.Ai F9.B5 F9.Ax F9.Ao).bind fun y8=>(some y8)) else(some false))) else(some false)) else(some false)))
def Qa:Nat→Int→Int→(List Be)→(List Ag)→(List Aj)→Option Bool
 | 0,_,_,_,_,_=>none
 | n+1,Hb,C7,Bw,Bb,Bh=>((idx Bb Hb).bind fun x1=>((O8 n x1).bind fun y2=>(some y2)))
def Hw (n:Nat)  (Ca:Int) (C7:Int) (Bw:(List Be)) (Bb:(List Ag)) (Bh:(List Aj)):Nat→Int→Option (LR Unit Bool)
 | 0,_=>none
 | k2+1,s1=>(bif decide (s1<Ca) then((Qa n s1 C7 Bw Bb Bh).bind fun y11=>(bif y11 then(Hw n Ca C7 Bw Bb Bh k2 (IntKind.i64.wrap (s1+1))) else(some (.ret false)))) else(some (.out ())))
def P8:Nat→Int→Int→(List Be)→(List Ag)→(List Aj)→Option Bool
 | 0,_,_,_,_,_=>none
 | n+1,Ca,C7,Bw,Bb,Bh=>((Hw n Ca C7 Bw Bb Bh n 0).bind fun o9=>match o9 with|.out _=>(some true)|.ret v=>some v)
def Ja (n:Nat)  (y1:(List A2)):Nat→Int→Option (LR Unit Bool)
 | 0,_=>none
 | k4+1,s3=>(bif decide (s3<((y1.length:Nat):Int)) then((idx y1 s3).bind fun x13=>(bif (x13.As==2) then(some (.ret false)) else(Ja n y1 k4 (IntKind.i64.wrap (s3+1))))) else(some (.out ())))
def Pb:Nat→Aj→Option Bool
 | 0,_=>none
 | n+1,Gs=>((Nh n Gs.Ct).bind fun y1=>((Ja n y1 n 0).bind fun o11=>match o11 with|.out _=>((Jq n Gs.A9).bind fun y16=>(bif (y16==([]:List UInt8)) then(some false) else((Lb n Gs.Ct).bind fun y19=>(bif y19 then(some (decide (0≤Gs.Ao))) else(some false)))))|.ret v=>some v))
def Q2:Nat→Int→Int→(List Be)→(List Ag)→(List Aj)→Option Bool
 | 0,_,_,_,_,_=>none
 | n+1,Hb,C7,Bw,Bb,Bh=>((idx Bh Hb).bind fun x1=>((Pb n x1).bind fun y2=>(some y2)))
def Hx (n:Nat)  (Ca:Int) (C7:Int) (Bw:(List Be)) (Bb:(List Ag)) (Bh:(List Aj)):Nat→Int→Option (LR Unit Bool)
 | 0,_=>none
 | k2+1,s1=>(bif decide (s1<Ca) then((Q2 n s1 C7 Bw Bb Bh).bind fun y11=>(bif y11 then(Hx n Ca C7 Bw Bb Bh k2 (IntKind.i64.wrap (s1+1))) else(some (.ret false)))) else(some (.out ())))
def Pi:Nat→Int→Int→(List Be)→(List Ag)→(List Aj)→Option Bool
 | 0,_,_,_,_,_=>none
 | n+1,Ca,C7,Bw,Bb,Bh=>((Hx n Ca C7 Bw Bb Bh n 0).bind fun o9=>match o9 with|.out _=>(some true)|.ret v=>some v)
def Ka:Nat→Ba→Option Bool
 | 0,_=>none
 | n+1,Ay=>((Ss n ((Ay.Au.length:Nat):Int) Ay.Bm Ay.Au Ay.Ac Ay.Al).bind fun y1=>((M4 n Ay.Bm).bind fun y3=>(bif y3 then(bif y1 then((P8 n ((Ay.Ac.length:Nat):Int) Ay.Bm Ay.Au Ay.Ac Ay.Al).bind fun y7=>(bif y7 then((Pi n ((Ay.Al.length:Nat):Int) Ay.Bm Ay.Au Ay.Ac Ay.Al).bind fun y10=>(some y10)) else(some false))) else(some false)) else(some false))))
def Ie:Nat→Int→Option (List UInt8)
 | 0,_=>none
 | n+1,Ca=>(bif decide (Ca<10) then(some ([UInt8.ofNat (IntKind.u8.wrap (IntKind.i64.wrap (48+Ca))).toNat]:List UInt8)) else(((Ie n) (IntKind.i64.wrap (Int.tdiv Ca 10))).bind fun y2=>(bif decide (y2.length+(([UInt8.ofNat (IntKind.u8.wrap (IntKind.i64.wrap (48+(Int.tmod Ca 10)))).toNat]:List UInt8)).length≤140737488355328) then(some (y2++([UInt8.ofNat (IntKind.u8.wrap (IntKind.i64.wrap (48+(Int.tmod Ca 10)))).toNat]:List UInt8))) else none)))
def Iy (n:Nat)  (Ay:Ba):Nat→(List UInt8)→Int→Option (LR (List UInt8) (List UInt8))
 | 0,_,_=>none
 | k10+1,s8,s9=>(bif decide (s9<((Ay.Au.length:Nat):Int)) then((idx Ay.Au s9).bind fun x19=>(bif decide ((([108,111,99,32]:List UInt8)).length+x19.Ai.length≤140737488355328) then(bif decide (((([108,111,99,32]:List UInt8)++x19.Ai)).length+(([32,61,32]:List UInt8)).length≤140737488355328) then((Ie n x19.Bs).bind fun y22=>(bif decide ((((([108,111,99,32]:List UInt8)++x19.Ai)++([32,61,32]:List UInt8))).length+y22.length≤140737488355328) then(bif decide (((((([108,111,99,32]:List UInt8)++x19.Ai)++([32,61,32]:List UInt8))++y22)).length+(([59,10]:List UInt8)).length≤140737488355328) then(bif decide (s8.length+(((((([108,111,99,32]:List UInt8)++x19.Ai)++([32,61,32]:List UInt8))++y22)++([59,10]:List UInt8))).length≤140737488355328) then(Iy n Ay k10 (s8++((((([108,111,99,32]:List UInt8)++x19.Ai)++([32,61,32]:List UInt8))++y22)++([59,10]:List UInt8))) (IntKind.i64.wrap (s9+1))) else none) else none) else none)) else none) else none)) else(some (.out s8)))
def Gd (n:Nat)  (x40:Ag):Nat→(List UInt8)→(List UInt8)→Int→Option (LR (List UInt8) (List UInt8))
 | 0,_,_,_=>none
 | k47+1,s44,s45,s46=>(bif decide (s46<((x40.B5.length:Nat):Int)) then((idx x40.B5 s46).bind fun x56=>(bif decide (s45.length+x56.length≤140737488355328) then(bif decide (s44.length+((s45++x56)).length≤140737488355328) then(Gd n x40 k47 (s44++(s45++x56)) ([44,32]:List UInt8) (IntKind.i64.wrap (s46+1))) else none) else none)) else(some (.out s44)))
def Hr (n:Nat)  (Ay:Ba):Nat→(List UInt8)→Int→Option (LR (List UInt8) (List UInt8))
 | 0,_,_=>none
 | k31+1,s29,s30=>(bif decide (s30<((Ay.Ac.length:Nat):Int)) then((idx Ay.Ac s30).bind fun x40=>(bif decide ((([116,104,114,101,97,100,32]:List UInt8)).length+x40.Ai.length≤140737488355328) then(bif decide (((([116,104,114,101,97,100,32]:List UInt8)++x40.Ai)).length+(([32,123,10]:List UInt8)).length≤140737488355328) then(bif decide (s29.length+(((([116,104,114,101,97,100,32]:List UInt8)++x40.Ai)++([32,123,10]:List UInt8))).length≤140737488355328) then((Gd n x40 n (s29++((([116,104,114,101,97,100,32]:List UInt8)++x40.Ai)++([32,123,10]:List UInt8))) ([32,32,114,101,103,32]:List UInt8) 0).bind fun o54=>match o54 with|.out x60=>(bif decide (0<((x40.B5.length:Nat):Int)) then(bif decide (x60.length+(([59,10]:List UInt8)).length≤140737488355328) then((Ms n x40.Ax 1).bind fun y63=>(bif decide (y63.length+(([125,10]:List UInt8)).length≤140737488355328) then(bif decide (((x60++([59,10]:List UInt8))).length+((y63++([125,10]:List UInt8))).length≤140737488355328) then(Hr n Ay k31 ((x60++([59,10]:List UInt8))++(y63++([125,10]:List UInt8))) (IntKind.i64.wrap (s30+1))) else none) else none)) else none) else((Ms n x40.Ax 1).bind fun y67=>(bif decide (y67.length+(([125,10]:List UInt8)).length≤140737488355328) then(bif decide (x60.length+((y67++([125,10]:List UInt8))).length≤140737488355328) then(Hr n Ay k31 (x60++(y67++([125,10]:List UInt8))) (IntKind.i64.wrap (s30+1))) else none) else none)))|.ret v=>some (.ret v)) else none) else none) else none)) else(some (.out s29)))
def J3 (n:Nat)  (Ay:Ba):Nat→(List UInt8)→Int→Option (LR (List UInt8) (List UInt8))
 | 0,_,_=>none
 | k76+1,s74,s75=>(bif decide (s75<((Ay.Al.length:Nat):Int)) then((idx Ay.Al s75).bind fun x85=>((Jq n x85.A9).bind fun y86=>(bif decide (y86.length+(([32]:List UInt8)).length≤140737488355328) then((E9 n x85.Ct).bind fun y89=>(bif decide (((y86++([32]:List UInt8))).length+y89.length≤140737488355328) then(bif decide ((((y86++([32]:List UInt8))++y89)).length+(([59,10]:List UInt8)).length≤140737488355328) then(bif decide (s74.length+((((y86++([32]:List UInt8))++y89)++([59,10]:List UInt8))).length≤140737488355328) then(J3 n Ay k76 (s74++(((y86++([32]:List UInt8))++y89)++([59,10]:List UInt8))) (IntKind.i64.wrap (s75+1))) else none) else none) else none)) else none))) else(some (.out s74)))
def Oj:Nat→Ba→Option (List UInt8)
 | 0,_=>none
 | n+1,Ay=>((Ka n Ay).bind fun y1=>(bif y1 then((Ie n Ay.Bm).bind fun y4=>(bif decide ((([109,111,100,32]:List UInt8)).length+y4.length≤140737488355328) then(bif decide (((([109,111,100,32]:List UInt8)++y4)).length+(([59,10]:List UInt8)).length≤140737488355328) then((Iy n Ay n ((([109,111,100,32]:List UInt8)++y4)++([59,10]:List UInt8)) 0).bind fun o17=>match o17 with|.out x28=>((Hr n Ay n x28 0).bind fun o38=>match o38 with|.out x73=>((J3 n Ay n x73 0).bind fun o83=>match o83 with|.out x95=>(some x95)|.ret v=>some v)|.ret v=>some v)|.ret v=>some v) else none) else none)) else(some ([]:List UInt8))))
def R4:Nat→Option (List UInt8)
 | 0=>none
 | n+1=>(some (List.append ([109,111,100,32,50,59,10,108,111,99,32,120,32,61,32,48,59,10,116,104,114,101,97,100,32,116,32,123,10,32,32,114,101,103,32,97,44,32,98,59,10,32,32,108]:List UInt8) ([111,97,100,32,97,32,61,32,120,59,10,125,10,102,111,114,97,108,108,32,40,116,46,97,32,61,61,32,48,41,32,38,38,32,40,120,32,61,61,32,48,41,59,10]:List UInt8)))
def Jf:Nat→Option Bool
 | 0=>none
 | n+1=>((R4 n ).bind fun y1=>((Fn n y1).bind fun y3=>((Fn n ([109,111,100,32,50,59,32,108,111,99,32,120,59]:List UInt8)).bind fun y5=>((Fn n ([109,111,100,32,50,59,32,116,104,114,101,97,100,32,116,32,123,32,125,10,125]:List UInt8)).bind fun y7=>((Fn n ([]:List UInt8)).bind fun y9=>(bif (y3.2.1 != 0) then(some false) else(bif (y3.1.Bm != 2) then(some false) else(bif (((y3.1.Au.length:Nat):Int) != 1) then(some false) else(bif (((y3.1.Ac.length:Nat):Int) != 1) then(some false) else(bif (((y3.1.Al.length:Nat):Int) != 1) then(some false) else((idx y3.1.Ac 0).bind fun x16=>(bif (((x16.B5.length:Nat):Int) != 2) then(some false) else((idx y3.1.Al 0).bind fun x18=>(bif (((x18.Ct.length:Nat):Int) != 7) then(some false) else((L3 n y3.1).bind fun y20=>((idx y3.1.Au 0).bind fun x22=>(bif (x22.Ao==7) then(bif (((y20.Au.length:Nat):Int)==1) then((idx y20.Au 0).bind fun x25=>(bif (x25.Ao==0) then((idx y3.1.Al 0).bind fun x27=>((idx x27.Ct 5).bind fun x28=>(bif (x28.As==3) then(bif (y5.2.1==5) then(bif (y5.2.2==12) then(bif (y7.2.1==5) then(bif (y7.2.2==20) then(bif (y9.2.1==6) then(bif (y9.2.2==0) then((Oj n y3.1).bind fun y36=>((R4 n ).bind fun y38=>(bif (y36==y38) then((Ka n y3.1).bind fun y41=>(some y41)) else(some false)))) else(some false)) else(some false)) else(some false)) else(some false)) else(some false)) else(some false)) else(some false)))) else(some false))) else(some false)) else(some false))))))))))))))))))
def Kr:Nat→(List UInt8)→Option Bool
 | 0,_=>none
 | n+1,Bx=>(bif decide (3000<((Bx.length:Nat):Int)) then((Jf n ).bind fun y2=>(some y2)) else((Fn n Bx).bind fun y4=>(bif (y4.2.1 != 0) then(bif (y4.1.Bm==0) then(bif ((IntKind.i64.wrap ((IntKind.i64.wrap (((y4.1.Au.length:Nat):Int)+((y4.1.Ac.length:Nat):Int)))+((y4.1.Al.length:Nat):Int)))==0) then(bif decide (0≤y4.2.2) then(bif decide (y4.2.2≤((Bx.length:Nat):Int)) then((Jf n ).bind fun y11=>(some y11)) else(some false)) else(some false)) else(some false)) else(some false)) else((Oj n y4.1).bind fun y13=>((Fn n y13).bind fun y15=>((Ka n y4.1).bind fun y17=>(bif y17 then((L3 n y4.1).bind fun y20=>((Ka n y20).bind fun y22=>(bif y22 then(bif decide (20000<((y13.length:Nat):Int)) then((Jf n ).bind fun y26=>(some y26)) else(bif (y15.2.1==0) then((L3 n y4.1).bind fun y29=>((L3 n y15.1).bind fun y31=>((Pp n y29 y31 true).bind fun y33=>(bif y33 then((Jf n ).bind fun y36=>(some y36)) else(some false))))) else(some false))) else(some false)))) else(some false))))))))
set_option linter.unusedVariables false
set_option linter.unusedSimpArgs false
theorem Cv {α:Type} {l:List α} {i:Nat} (h:i < l.length):idx l (i:Int)=some l[i]:=by rw[Vh,Ar h]
theorem Bg (k:Nat) (h:k < 4611686018427387904):IntKind.i64.wrap ((k:Int)+1)=((k+1:Nat):Int):=Alo k (by omega)
theorem A6 {α:Type} {p:Prop} [Decidable p] (h:p) (a b:α):(bif decide p then a else b)=a:=by rw[decide_eq_true h];rfl
theorem Ap {α:Type} {p:Prop} [Decidable p] (h:¬ p) (a b:α):(bif decide p then a else b)=b:=by rw[decide_eq_false h];rfl
theorem Aub (a b:Nat):((a:Int)==(b:Int))=(a==b):=by
 by_cases h:a=b
 ·subst h;simp
 ·have:¬ (a:Int)=(b:Int):=by omega
  rw[C8.2 h,C8.2 this]
theorem Auo (a b:Nat):((a:Int) != (b:Int))=!(a==b):=by rw[← Aub];rfl
theorem Ak8 {α σ ρ:Type} (l:List α) (L:Nat→Nat→σ→Option ρ) (F:List α→σ→Option ρ) (Inv:Nat→σ→Prop)
 (h0:∀ k s,Inv l.length s→L (k+1) l.length s=F [] s)
 (h1:∀ k i s x,i < l.length→l[i]?=some x→Inv i s→(∀ s',Inv (i+1) s'→L k (i+1) s'=F (l.drop (i+1)) s')→L (k+1) i s=F (x :: l.drop (i+1)) s) :
 ∀ (m k i:Nat) (s:σ),i+m=l.length→m < k→Inv i s→L k i s=F (l.drop i) s:=by
 intro m
 induction m with
 | zero =>
  intro k i s hi hk hs
  obtain⟨k,rfl⟩:∃ j,k=j+1:=⟨k - 1,by omega⟩
  obtain rfl:i=l.length:=by omega
  rw[h0 k s hs,List.drop_length]
 | succ m ih =>
  intro k i s hi hk hs
  obtain⟨k,rfl⟩:∃ j,k=j+1:=⟨k - 1,by omega⟩
  have hlt:i < l.length:=by omega
  rw[h1 k i s l[i] hlt (Ar hlt) hs (fun s' hs'=>ih k (i+1) s' (by omega) (by omega) hs'),List.drop_eq_getElem_cons hlt]
theorem Pz {α σ ρ:Type} (l:List α) (L:Nat→Nat→σ→Option ρ) (F:List α→σ→Option ρ) (Inv:Nat→σ→Prop) {k:Nat} {s:σ} (hk:l.length < k) (hs:Inv 0 s)
 (h0:∀ k s,Inv l.length s→L (k+1) l.length s=F [] s)
 (h1:∀ k i s x,i < l.length→l[i]?=some x→Inv i s→(∀ s',Inv (i+1) s'→L k (i+1) s'=F (l.drop (i+1)) s')→L (k+1) i s=F (x :: l.drop (i+1)) s) :
 L k 0 s=F l s:=Ak8 l L F Inv h0 h1 l.length k 0 s (by omega) hk hs
theorem Cz {α:Type} {l:List α} {i:Nat} {x:α} (h:l[i]?=some x):idx l (i:Int)=some x:=by rw[Vh,h]
theorem Wl (op:Int):op < 1∨15≤op∨op=1∨op=2∨op=3∨op=4∨op=5∨op=6∨op=7∨op=8∨op=9∨op=10∨op=11∨op=12∨op=13∨op=14:=by omega
theorem Re {α:Type} (l:List α) (L:Nat→Nat→Option (LR Unit Bool)) (p:α→Bool) (h0:∀ k,L (k+1) l.length=some (.out ()))
 (h1:∀ k i x,i < l.length→l[i]?=some x→L (k+1) i=bif p x then L k (i+1) else some (.ret false)) {k:Nat} (hk:l.length < k):L k 0=bif l.all p then some (.out ()) else some (.ret false):=by
 refine Pz l (fun k i (_:Unit)=>L k i) (fun l _=>bif l.all p then some (.out ()) else some (.ret false)) (fun _ _=>True) (s:=()) hk trivial (fun k s _=>h0 k) ?_
 intro k i s x hi hx _ ih
 rw[h1 k i x hi hx,ih () trivial,List.all_cons]
 cases p x<;>rfl
theorem A0j {α β ν:Type} (l:List α) (f:α→β) (L:Nat→Nat→List β→Option (LR (List β) ν)) (h0:∀ k s,L (k+1) l.length s=some (.out s))
 (h1:∀ k i x s,i < l.length→l[i]?=some x→s.length=i→L (k+1) i s=L k (i+1) (s++[f x])) {k:Nat} (hk:l.length < k):L k 0 []=some (.out (l.map f)):=by
 have:=Pz l L (fun l s=>some (.out (s++l.map f))) (fun i s=>s.length=i) (s:=[]) hk rfl (fun k s _=>by rw[h0 k];simp) ?_
 ·rw[this];rfl
 ·intro k i s x hi hx hs ih
  rw[h1 k i x s hi hx hs,ih _ (by simp[hs])];simp
theorem Aok {α:Type} (l:List α) (L:Nat→Nat→Option (LR Unit Bool)) (p:α→Bool) (h0:∀ k,L (k+1) l.length=some (.out ()))
 (h1:∀ k i x,i < l.length→l[i]?=some x→L (k+1) i=bif p x then some (.ret true) else L k (i+1)) {k:Nat} (hk:l.length < k):L k 0=bif l.any p then some (.ret true) else some (.out ()):=by
 refine Pz l (fun k i (_:Unit)=>L k i) (fun l _=>bif l.any p then some (.ret true) else some (.out ())) (fun _ _=>True) (s:=()) hk trivial (fun k s _=>h0 k) ?_
 intro k i s x hi hx _ ih
 rw[h1 k i x hi hx,ih () trivial,List.any_cons]
 cases p x<;>rfl
structure Tok where
 kind:Int
 text:List UInt8
 n:Int
 at':Int
def Jw (c:Int):Bool:=decide (c=32∨c=9∨c=10∨c=13)
def D2:Bool→List UInt8→Nat
 | _,[]=>0
 | true,c :: t=>if c.toNat=10 then 1+D2 false t else 1+D2 true t
 | false,c :: t=>if Jw c.toNat then 1+D2 false t else if c.toNat=35 then 1+D2 true t else 0
inductive Lx where
 | tok (kind:Int) (len:Nat) (n:Nat)
 | err (e:Int)
def Jy (l:List UInt8):Lx:=match l with
 | []=>.err 3
 | c :: _ =>
  if Dq c.toNat then(if Ch Hj l > 16 then .err 2 else .tok 1 (Ch Hj l) 0)
  else if Cb c.toNat then(if Hs (l.take (Ch Cb l)) > 9999 then .err 4 else .tok 2 (Ch Cb l) (Hs (l.take (Ch Cb l))))
  else if Kh l=0 then .err 3 else .tok 3 (Kh l) 0
structure A3j where
 toks:List Tok
 err:Int
 at':Int
def Dh:Nat→List UInt8→Nat→List Tok→A3j
 | 0,_,_,acc=>⟨acc,0,0⟩
 | f+1,l,p,acc=>match l.drop (D2 false l) with
   | []=>⟨acc,0,0⟩
   | c :: t=>match Jy (c :: t) with
     | .err e=>⟨[],e,(p+D2 false l:Nat)⟩
     | .tok k n v=>Dh f ((c :: t).drop n) (p+D2 false l+n) (acc++[⟨k,(c :: t).take n,v,(p+D2 false l:Nat)⟩])
def Gz (l:List UInt8):A3j:=if l.length > 20000 then⟨[],2,20000⟩ else Dh (l.length+1) l 0 []
theorem A3h (b:Bool) (l:List UInt8):D2 b l≤l.length:=by
 induction l generalizing b with
 | nil=>simp[D2]
 | cons c t ih =>
  have h1:=ih true;have h2:=ih false
  cases b<;>simp only[D2,List.length_cons]<;>repeat' split
  all_goals omega
theorem Xs (p:Int→Bool) (l:List UInt8):Ch p l≤l.length:=(List.takeWhile_prefix (fun c:UInt8=>p c.toNat) (l:=l)).length_le
theorem Oi (p:Int→Bool) (c:UInt8) (t:List UInt8):Ch p (c :: t)=if p c.toNat then Ch p t+1 else 0:=by
 unfold Ch
 rw[List.takeWhile_cons]
 split<;>simp
theorem Ai2 (c:UInt8) (t:List UInt8):Kh (c :: t)≤(c :: t).length:=by
 unfold Kh
 split
 ·rename_i h
  rcases t with _ | ⟨d,t⟩
  ·simp[Ud] at h
  ·simp
 ·split<;>simp
theorem Tc {l:List UInt8} {k:Int} {n v:Nat} (h:Jy l=.tok k n v):0 < n∧n≤l.length:=by
 rcases l with _ | ⟨c,t⟩
 ·simp[Jy] at h
 ·simp only[Jy] at h
  split at h
  ·rename_i hc
   split at h
   ·simp at h
   ·simp only[Lx.tok.injEq] at h
    obtain⟨_,rfl,_⟩:=h
    have h1:Hj c.toNat=true:=by simp[Hj,hc]
    exact⟨by rw[Oi,if_pos h1];omega,Xs _ _⟩
  ·split at h
   ·rename_i hc
    split at h
    ·simp at h
    ·simp only[Lx.tok.injEq] at h
     obtain⟨_,rfl,_⟩:=h
     exact⟨by rw[Oi,if_pos hc];omega,Xs _ _⟩
   ·split at h
    ·simp at h
    ·simp only[Lx.tok.injEq] at h
     obtain⟨_,rfl,_⟩:=h
     exact⟨by omega,Ai2 _ _⟩
theorem Sf (f g:Nat) (l:List UInt8) (p:Nat) (acc:List Tok) (hf:l.length < f) (hg:l.length < g):Dh f l p acc=Dh g l p acc:=by
 induction f generalizing g l p acc with
 | zero=>omega
 | succ f ih =>
  cases g with
  | zero=>omega
  | succ g =>
   simp only[Dh]
   split
   ·rfl
   ·rename_i c t hd
    have hlen:(c :: t).length=l.length - D2 false l:=by rw[← hd];simp
    split
    ·rfl
    ·rename_i k n v ho
     have hn:=Tc ho
     have hlt:((c :: t).drop n).length < l.length:=by
      simp only[List.length_drop]
      simp only[List.length_cons] at hlen hn ⊢
      omega
     exact ih g _ _ _ (by omega) (by omega)
def Oq (l:List UInt8) (p:Nat) (acc:List Tok):A3j:=Dh (l.length+1) (l.drop p) p acc
theorem Ajt (l:List UInt8) (p:Nat) (acc:List Tok) (g:Nat) (_hp:p≤l.length) (h:D2 false (l.drop p)=g+D2 false (l.drop (p+g))):Oq l p acc=Oq l (p+g) acc:=by
 have hg:=A3h false (l.drop p)
 simp only[List.length_drop] at hg
 have e:(l.drop p).drop (D2 false (l.drop p))=(l.drop (p+g)).drop (D2 false (l.drop (p+g))):=by
  rw[List.drop_drop,List.drop_drop,h];congr 1;omega
 unfold Oq
 simp only[Dh]
 rw[e]
 have e2:p+D2 false (l.drop p)=p+g+D2 false (l.drop (p+g)):=by omega
 simp only[e2]
theorem A93 (l:List UInt8) (p:Nat) (acc:List Tok) (h:l.length≤p):Oq l p acc=⟨acc,0,0⟩:=by
 unfold Oq
 have:l.drop p=[]:=List.drop_eq_nil_of_le h
 simp[Dh,this]
theorem Al9 (l:List UInt8) (p:Nat) (acc:List Tok) (e:Int) (hg:D2 false (l.drop p)=0) (hp:p < l.length) (h:Jy (l.drop p)=.err e):Oq l p acc=⟨[],e,p⟩:=by
 unfold Oq
 simp only[Dh,hg,List.drop_zero]
 rcases hl:l.drop p with _ | ⟨c,t⟩
 ·have:(l.drop p).length=0:=by rw[hl];rfl
  simp at this;omega
 ·rw[hl] at h
  simp[h]
theorem Aln (l:List UInt8) (p:Nat) (acc:List Tok) (k:Int) (n v:Nat) (hg:D2 false (l.drop p)=0) (hp:p < l.length) (h:Jy (l.drop p)=.tok k n v) :
 Oq l p acc=Oq l (p+n) (acc++[⟨k,(l.drop p).take n,v,p⟩]):=by
 have hn:=Tc h
 simp only[List.length_drop] at hn
 unfold Oq
 rw[Dh]
 simp only[hg,List.drop_zero]
 rcases hl:l.drop p with _ | ⟨c,t⟩
 ·have:(l.drop p).length=0:=by rw[hl];rfl
  simp at this;omega
 ·rw[hl] at h
  simp only[h,Nat.add_zero]
  have e:(c :: t).drop n=l.drop (p+n):=by rw[← hl,List.drop_drop]
  rw[e]
  exact Sf _ _ _ _ _ (by simp;omega) (by simp;omega)
theorem Alq (l:List UInt8):D2 true l=Ch Mc l+D2 false (l.drop (Ch Mc l)):=by
 induction l with
 | nil=>simp[D2,Ch]
 | cons c t ih =>
  rw[Oi]
  by_cases h:c.toNat=10
  ·have h1:Mc c.toNat=false:=by simp[Mc,h]
   rw[if_neg (by rw[h1];simp),List.drop_zero,D2,D2,if_pos h,if_pos (by simp[Jw,h])]
   omega
  ·have h1:Mc c.toNat=true:=by simp only[Mc,B3];omega
   rw[if_pos h1,D2,if_neg h,ih,List.drop_succ_cons]
   omega
theorem Afv {c:UInt8} {t:List UInt8} (h:c.toNat=35):D2 false (c :: t)=Ch Mc (c :: t)+D2 false ((c :: t).drop (Ch Mc (c :: t))):=by
 rw[← Alq]
 have hb:Jw c.toNat=false:=by simp[Jw,h]
 rw[D2,D2,if_neg (by rw[hb];simp),if_pos h,if_neg (by omega)]
theorem A01 {c:UInt8} {t:List UInt8} (h:Jw c.toNat=true):D2 false (c :: t)=1+D2 false t:=by rw[D2,if_pos h]
theorem A9z {c:UInt8} {t:List UInt8} (h:Jw c.toNat=false) (h2:c.toNat≠35):D2 false (c :: t)=0:=by rw[D2,if_neg (by rw[h];simp),if_neg h2]
abbrev Nd:=A2
def Dy (op:Int):Int:=if 1≤op∧op≤4 then 0 else if op=5 then 1 else if 6≤op∧op≤14 then 2 else -1
theorem Am2 (n:Nat) (op:Int):My (n+1) op=some (Dy op):=by
 rcases Wl op with h | h | h | h | h | h | h | h | h | h | h | h | h | h | h | h
 ·have:Dy op= -1:=by unfold Dy;rw[if_neg (by omega),if_neg (by omega),if_neg (by omega)]
  rw[My,this,Ap (show ¬ 1≤op by omega),C8.2 (show op≠5 by omega),At,Ap (show ¬ 6≤op by omega)]
 ·have:Dy op= -1:=by unfold Dy;rw[if_neg (by omega),if_neg (by omega),if_neg (by omega)]
  rw[My,this,A6 (show 1≤op by omega),Ap (show ¬ op≤4 by omega),C8.2 (show op≠5 by omega),At,A6 (show 6≤op by omega),Ap (show ¬ op≤14 by omega)]
 all_goals rw[h];rfl
inductive Tr where
 | leaf (x:Nd)
 | un (x:Nd) (a:Tr)
 | bin (x:Nd) (a b:Tr)
def Tr.flat:Tr→List Nd
 | .leaf x=>[x]
 | .un x a=>x :: a.flat
 | .bin x a b=>x :: (a.flat++b.flat)
def Tr.wf:Tr→Prop
 | .leaf x=>Dy x.As=0
 | .un x a=>Dy x.As=1∧a.wf
 | .bin x a b=>Dy x.As=2∧a.wf∧b.wf
def Tr.dep:Tr→Nat
 | .leaf _=>0
 | .un _ a=>1+a.dep
 | .bin _ a b=>1+max a.dep b.dep
theorem Tr.flat_pos (t:Tr):1≤t.flat.length:=by cases t<;>simp[Tr.flat]
def I5:List Nd→Nat→Option Nat
 | [],_=>none
 | x :: l,w=>if Dy x.As < 0 then none else if(w:Int)+Dy x.As - 1=0 then some 1 else(I5 l ((w:Int)+Dy x.As - 1).toNat).map (·+1)
def Vd:List Tr→List Nd
 | []=>[]
 | t :: ts=>t.flat++Vd ts
theorem A03 (op:Int):Dy op= -1∨Dy op=0∨Dy op=1∨Dy op=2:=by
 unfold Dy
 repeat' split
 all_goals omega
theorem As2:∀ (t:Tr) (w:Nat) (rest:List Nd),t.wf→1≤w→I5 (t.flat++rest) w=if w=1 then some t.flat.length else(I5 rest (w - 1)).map (·+t.flat.length):=by
 intro t
 induction t with
 | leaf x =>
  intro w rest h hw
  simp only[Tr.wf] at h
  simp only[Tr.flat,List.cons_append,List.nil_append,I5,h,List.length_cons,List.length_nil]
  by_cases c:w=1
  ·rw[if_neg (by omega),if_pos (by omega),if_pos c]
  ·rw[if_neg (by omega),if_neg (by omega),if_neg c,show((w:Int)+0 - 1).toNat=w - 1 by omega]
 | un x a ih =>
  intro w rest h hw
  obtain⟨h1,h2⟩:=h
  simp only[Tr.flat,List.cons_append,I5,h1,List.length_cons]
  rw[if_neg (by omega),if_neg (by omega),show((w:Int)+1 - 1).toNat=w by omega,ih w rest h2 hw]
  by_cases c:w=1
  ·rw[if_pos c,if_pos c];rfl
  ·rw[if_neg c,if_neg c,Option.map_map];rfl
 | bin x a b iha ihb =>
  intro w rest h hw
  obtain⟨h1,h2,h3⟩:=h
  simp only[Tr.flat,List.cons_append,I5,h1,List.length_cons,List.append_assoc,List.length_append]
  rw[if_neg (by omega),if_neg (by omega),show((w:Int)+2 - 1).toNat=w+1 by omega,iha (w+1) _ h2 (by omega),if_neg (by omega),show w+1 - 1=w by omega,ihb w rest h3 hw]
  by_cases c:w=1
  ·rw[if_pos c,if_pos c];exact congrArg some (by dsimp only;omega)
  ·rw[if_neg c,if_neg c,Option.map_map,Option.map_map];congr 1;funext j;simp only[Function.comp_apply];try omega
theorem Ar7:∀ (l:List Nd) (w j:Nat),1≤w→I5 l w=some j→∃ ts:List Tr,ts.length=w∧(∀ t ∈ ts,t.wf)∧Vd ts=l.take j∧j≤l.length∧1≤j:=by
 intro l
 induction l with
 | nil=>intro w j _ h;cases h
 | cons x l ih =>
  intro w j hw h
  rw[I5] at h
  rcases A03 x.As with g | g | g | g
  ·rw[g,if_pos (by omega)] at h;cases h
  all_goals rw[g] at h;rw[if_neg (by omega)] at h
  ·by_cases c:w=1
   ·rw[if_pos (by omega)] at h
    obtain rfl:=Option.some.inj h
    exact⟨[.leaf x],by simp[c],by simpa [Tr.wf] using g,by simp[Vd,Tr.flat],by simp,by omega⟩
   ·rw[if_neg (by omega)] at h
    obtain⟨j',h1,h2⟩:=Option.map_eq_some_iff.1 h
    obtain⟨ts,e1,e2,e3,e4,e5⟩:=ih _ j' (by omega) h1
    subst h2
    exact⟨.leaf x :: ts,by simp[e1];omega,by simpa [Tr.wf] using⟨g,e2⟩,by simp[Vd,Tr.flat,e3],by simpa using e4,by omega⟩
  ·rw[if_neg (by omega)] at h
   obtain⟨j',h1,h2⟩:=Option.map_eq_some_iff.1 h
   obtain⟨ts,e1,e2,e3,e4,e5⟩:=ih _ j' (by omega) h1
   subst h2
   match ts,e1,e2,e3 with
   | [],e1,_,_=>simp at e1;omega
   | t :: ts,e1,e2,e3 =>
    exact⟨.un x t :: ts,by simp at e1 ⊢;omega,by simpa [Tr.wf,g] using e2,by simp only[Vd] at e3;simp[Vd,Tr.flat,e3],by simpa using e4,by omega⟩
  ·rw[if_neg (by omega)] at h
   obtain⟨j',h1,h2⟩:=Option.map_eq_some_iff.1 h
   obtain⟨ts,e1,e2,e3,e4,e5⟩:=ih _ j' (by omega) h1
   subst h2
   match ts,e1,e2,e3 with
   | [],e1,_,_=>simp at e1;omega
   | [t],e1,_,_=>simp at e1;omega
   | t :: u :: ts,e1,e2,e3 =>
    refine⟨.bin x t u :: ts,by simp at e1 ⊢;omega,?_,by simp only[Vd] at e3;simp[Vd,Tr.flat,List.append_assoc,e3],by simpa using e4,by omega⟩
    intro v hv
    rcases List.mem_cons.1 hv with rfl | hv
    ·exact⟨g,e2 t (by simp),e2 u (by simp)⟩
    ·exact e2 v (by simp[hv])
theorem Ap2 {l:List Nd} {j:Nat} (h:I5 l 1=some j):∃ t:Tr,t.wf∧t.flat=l.take j∧j≤l.length∧1≤j:=by
 obtain⟨ts,e1,e2,e3,e4,e5⟩:=Ar7 l 1 j (by omega) h
 match ts,e1,e2,e3 with
 | [t],_,e2,e3=>exact⟨t,e2 t (by simp),by simpa [Vd] using e3,e4,e5⟩
def Abj (l:List Nd) (i:Int):Int:=if i < 0 then -1 else match I5 (l.drop i.toNat) 1 with
 | some j=>i+j
 | none=> -1
def As4 (d:Int) (r:LR Unit Int):Int:=match r with
 | .out _=>d
 | .ret v=>v
theorem Au1 (n:Nat) (l:List Nd) (hl:l.length < 1000000):∀ (m k i w:Nat),i+m=l.length→m < k→1≤w→w≤i+2 →
 (In (n+1) l k (i:Int) (w:Int)).map (As4 (-1))=some (match I5 (l.drop i) w with | some j=>(i:Int)+j | none=> -1):=by
 intro m
 induction m with
 | zero =>
  intro k i w hi hk hw hb
  obtain⟨k,rfl⟩:∃ j,k=j+1:=⟨k - 1,by omega⟩
  rw[In,Ap (by omega),List.drop_of_length_le (by omega)];rfl
 | succ m ih =>
  intro k i w hi hk hw hb
  obtain⟨k,rfl⟩:∃ j,k=j+1:=⟨k - 1,by omega⟩
  have hlt:i < l.length:=by omega
  rw[In,A6 (by omega),Cv hlt,List.drop_eq_getElem_cons hlt,I5,A0,Am2,A0,Bg i (by omega)]
  rcases A03 l[i].As with g | g | g | g
  ·rw[g,A6 (by omega),if_pos (by omega)];rfl
  all_goals rw[g,Ap (by omega),if_neg (by omega)]
  ·rw[Dd (n:=0 - 1) (by omega),Dd (by omega)]
   by_cases c:w=1
   ·subst c;rw[if_pos (by omega)];rfl
   ·rw[if_neg (by omega),C8.2 (by omega),At,show(w:Int)+(0 - 1)=((w - 1:Nat):Int) by omega,ih k (i+1) (w - 1) (by omega) (by omega) (by omega) (by omega),show((w:Int)+0 - 1).toNat=w - 1 by omega]
    cases I5 (l.drop (i+1)) (w - 1) with
    | none=>rfl
    | some j=>exact congrArg some (by show((i+1:Nat):Int)+(j:Int)=(i:Int)+((j+1:Nat):Int);omega)
  ·rw[Dd (n:=1 - 1) (by omega),Dd (by omega),if_neg (by omega),C8.2 (by omega),At,show(w:Int)+(1 - 1)=(w:Int) by omega,ih k (i+1) w (by omega) (by omega) (by omega) (by omega),show((w:Int)+1 - 1).toNat=w by omega]
   cases I5 (l.drop (i+1)) w with
   | none=>rfl
   | some j=>exact congrArg some (by show((i+1:Nat):Int)+(j:Int)=(i:Int)+((j+1:Nat):Int);omega)
  ·rw[Dd (n:=2 - 1) (by omega),Dd (by omega),if_neg (by omega),C8.2 (by omega),At,show(w:Int)+(2 - 1)=((w+1:Nat):Int) by omega,ih k (i+1) (w+1) (by omega) (by omega) (by omega) (by omega),show((w:Int)+2 - 1).toNat=w+1 by omega]
   cases I5 (l.drop (i+1)) (w+1) with
   | none=>rfl
   | some j=>exact congrArg some (by show((i+1:Nat):Int)+(j:Int)=(i:Int)+((j+1:Nat):Int);omega)
theorem Ash {τ:Type} {o:Option (LR Unit Int)} {d r:Int} (h:o.map (As4 d)=some r):(o.bind fun o11=>match o11 with | .out _=>some d | .ret v=>some v)=some r:=by
 obtain⟨x,rfl,h2⟩:=Option.map_eq_some_iff.1 h
 cases x<;>exact congrArg some h2
theorem Auw (n:Nat) (l:List Nd) (i:Int) (hl:l.length < 1000000) (hn:l.length+4 < n):S4 n l i=some (Abj l i):=by
 obtain⟨n,rfl⟩:∃ j,n=j+2:=⟨n - 2,by omega⟩
 rw[S4,Abj]
 by_cases c:i < 0
 ·rw[A6 c,if_pos c]
 ·rw[Ap c,if_neg c]
  by_cases c2:i.toNat≤l.length
  ·have:=Au1 n l hl (l.length - i.toNat) (n+1) i.toNat 1 (by omega) (by omega) (by omega) (by omega)
   rw[show((i.toNat:Nat):Int)=i by omega] at this
   exact Ash (τ:=Unit) this
  ·have e:In (n+1) l (n+1) i 1=some (.out ()):=by rw[In,Ap (by omega)]
   rw[e,List.drop_of_length_le (by omega)];rfl
def O9:List Int→List Int
 | []=>[]
 | a :: r=>if 0 < a - 1 then(a - 1) :: r else O9 r
def Ep:List Nd→Int×List Int→Int×List Int
 | [],s=>s
 | x :: l,(m,R)=>if 0 < Dy x.As then Ep l (if m < (R.length:Int) then(R.length:Int) else m,Dy x.As :: R) else Ep l (if m < (R.length:Int) then(R.length:Int) else m,O9 R)
theorem A8g:∀ (t:Tr) (rest:List Nd) (m:Int) (R:List Int),t.wf→0≤m→Ep (t.flat++rest) (m,R)=Ep rest (max m (R.length+t.dep:Nat),O9 R):=by
 intro t
 have hmax:∀ (m:Int) (k:Nat),(if m < (k:Int) then(k:Int) else m)=max m (k:Int):=by intro m k;split<;>omega
 induction t with
 | leaf x =>
  intro rest m R h hm
  simp only[Tr.wf] at h
  simp only[Tr.flat,List.cons_append,List.nil_append,Ep,h,Tr.dep,Nat.add_zero]
  rw[if_neg (by omega),hmax]
 | un x a ih =>
  intro rest m R h hm
  obtain⟨h1,h2⟩:=h
  simp only[Tr.flat,List.cons_append,Ep,h1,Tr.dep]
  rw[if_pos (by omega),hmax,ih _ _ _ h2 (by omega),O9,if_neg (by omega),List.length_cons]
  congr 2;omega
 | bin x a b iha ihb =>
  intro rest m R h hm
  obtain⟨h1,h2,h3⟩:=h
  simp only[Tr.flat,List.cons_append,Ep,h1,Tr.dep,List.append_assoc]
  rw[if_pos (by omega),hmax,iha _ _ _ h2 (by omega),O9,if_pos (by omega),ihb _ _ _ h3 (by omega),O9,if_neg (by omega),List.length_cons,List.length_cons]
  congr 2;omega
theorem Aq0 (n:Nat):∀ (R:List Int) (k:Nat),R.length < k→R.length < 1000000→(∀ v ∈ R,1≤v∧v≤2)→Jc n k R.reverse=some (.out (O9 R).reverse):=by
 intro R
 induction R with
 | nil =>
  intro k hk _ _
  obtain⟨k,rfl⟩:∃ j,k=j+1:=⟨k - 1,by omega⟩
  rw[Jc,List.reverse_nil];rfl
 | cons a R ih =>
  intro k hk hl hv
  obtain⟨k,rfl⟩:∃ j,k=j+1:=⟨k - 1,by omega⟩
  have ha:=hv a (List.mem_cons_self ..)
  rw[List.length_cons] at hl
  have hlen:(a :: R).reverse.length=R.length+1:=by simp
  have w:IntKind.i64.wrap (((R.length+1:Nat):Int) - 1)=(R.length:Int):=by rw[Dd (by omega)];omega
  have hset:∀ v:Int,((a :: R).reverse).set R.length v=R.reverse++[v]:=by
   intro v;rw[List.reverse_cons,List.set_append_right _ _ (by simp)];simp
  have g1:idx (a :: R).reverse (R.length:Int)=some a:=by rw[Vh,List.reverse_cons,List.getElem?_append_right (by simp)];simp
  have g2:∀ v:Int,idx (R.reverse++[v]) (R.length:Int)=some v:=by intro v;rw[Vh,List.getElem?_append_right (by simp)];simp
  rw[Jc,hlen,A6 (by omega),w,g1]
  simp only[A0,Int.toNat_natCast,hset,g2]
  rw[Dd (n:=a - 1) (by omega),O9]
  by_cases c:0 < a - 1
  ·rw[A6 c,if_pos c,List.reverse_cons]
  ·have c2:(decide (0≤(R.length:Int))&&decide ((R.length:Int)≤(((R.reverse++[a - 1]).length:Nat):Int)))=true:=by
    rw[decide_eq_true (by omega),decide_eq_true (by simp;omega)];rfl
   have e:List.take R.length (R.reverse++[a - 1])=R.reverse:=by
    rw[List.take_append_of_le_length (by simp),List.take_of_length_le (by simp)]
   rw[Ap c,if_neg c,c2,Ab,e]
   exact ih k (by rw[List.length_cons] at hk;omega) (by omega) (fun v h=>hv v (List.mem_cons_of_mem _ h))
theorem Ake:∀ (R:List Int),(∀ v ∈ R,1≤v∧v≤2)→(∀ v ∈ O9 R,1≤v∧v≤2)∧(O9 R).length≤R.length:=by
 intro R
 induction R with
 | nil=>intro h;exact⟨h,Nat.le_refl _⟩
 | cons a R ih =>
  intro h
  have ha:=h a (List.mem_cons_self ..)
  have hR:∀ v ∈ R,1≤v∧v≤2:=fun v hv=>h v (List.mem_cons_of_mem _ hv)
  rw[O9]
  split
  ·exact⟨fun v hv=>by rcases List.mem_cons.1 hv with rfl | hv;exact⟨by omega,by omega⟩;exact hR v hv,by simp⟩
  ·exact⟨(ih hR).1,by have:=(ih hR).2;simp;omega⟩
theorem Aqs (n:Nat) (l:List Nd) (hl:l.length < 100000) (hn:l.length+2 < n) {k:Nat} (hk:l.length < k):Gv n l k 0 0 []=some (.out ((Ep l (0,[])).1,(Ep l (0,[])).2.reverse)):=by
 refine Pz l (fun k i (s:Int×List Int)=>Gv n l k s.1 (i:Int) s.2.reverse) (fun l s=>some (.out ((Ep l s).1,(Ep l s).2.reverse)))
  (fun i s=>s.2.length≤i∧∀ v ∈ s.2,1≤v∧v≤2) (s:=(0,[])) hk ⟨Nat.le_refl _,by simp⟩ ?_ ?_
 ·intro k s hs
  rw[Gv,Ap (by omega)];rfl
 ·rintro k i ⟨m,R⟩ x hi hx ⟨r1,r2⟩ ih
  dsimp only at r1 r2 ⊢
  obtain⟨n,rfl⟩:∃ j,n=j+1:=⟨n - 1,by omega⟩
  rw[Gv,A6 (by omega),Cz hx,A0,Am2,A0,Bg i (by omega),List.length_reverse,Ep]
  by_cases c:0 < Dy x.As
  ·rw[A6 c,if_pos c,A6 (by omega),← List.reverse_cons]
   refine ih (_,_ :: R) ⟨by simp;omega,fun v hv=>?_⟩
   rcases List.mem_cons.1 hv with rfl | hv
   ·rcases A03 x.As with g | g | g | g<;>omega
   ·exact r2 v hv
  ·have hc:=Ake R r2
   rw[Ap c,if_neg c,Aq0 (n+1) R (n+1) (by omega) (by omega) r2,A0]
   exact ih (_,O9 R) ⟨by dsimp only;omega,hc.1⟩
theorem Tr.dep_lt (t:Tr):t.dep < t.flat.length:=by
 induction t with
 | leaf x=>simp[Tr.dep,Tr.flat]
 | un x a ih=>simp[Tr.dep,Tr.flat];omega
 | bin x a b iha ihb=>simp[Tr.dep,Tr.flat];omega
def Df (x:Nd):Bool:=!decide (x.Ao < 0)&&(if x.As=1 then decide (0≤x.Bs∧x.Bs≤9999)&&(x.Ai==[]&&x.D5==[])
 else if x.As=2∨x.As=3 then x.Bs==0&&(C9 x.Ai&&x.D5==[]) else if x.As=4 then x.Bs==0&&(C9 x.Ai&&C9 x.D5) else x.Bs==0&&(x.Ai==[]&&x.D5==[]))
theorem Atk (n:Nat) (x:Nd):Qq (n+2) x=some (Df x):=by
 rw[Qq,Df]
 by_cases c:x.Ao < 0
 ·rw[A6 c,decide_eq_true c];rfl
 rw[Ap c,decide_eq_false c]
 simp only[Dg,A0,beq_self_eq_true,Bool.true_and,Bool.and_true,Bool.not_false]
 by_cases c1:x.As=1
 ·rw[if_pos c1,c1]
  simp only[beq_self_eq_true,Ab]
  cases (x.Ai==[])<;>cases (x.D5==[])<;>by_cases h:0≤x.Bs<;>by_cases h2:x.Bs≤9999<;>simp[h,h2]
 rw[if_neg c1,C8.2 c1]
 by_cases c4:x.As=4
 ·rw[if_neg (by omega),if_pos c4,c4]
  simp only[beq_self_eq_true,Ab,At]
  cases C9 x.D5<;>cases C9 x.Ai<;>cases (x.Bs==0)<;>rfl
 rw[if_neg c4,C8.2 c4]
 by_cases c2:x.As=2
 ·rw[if_pos (.inl c2),c2]
  simp only[beq_self_eq_true,Ab,At]
  cases C9 x.Ai<;>cases (x.Bs==0)<;>cases (x.D5==[])<;>rfl
 rw[C8.2 c2]
 by_cases c3:x.As=3
 ·rw[if_pos (.inr c3),c3]
  simp only[beq_self_eq_true,Ab,At]
  cases C9 x.Ai<;>cases (x.Bs==0)<;>cases (x.D5==[])<;>rfl
 rw[if_neg (by omega),C8.2 c3]
 rfl
def Dx (l:List Nd):Bool:=decide (1≤l.length∧l.length≤200)&&(decide (I5 l 1=some l.length)&&(l.all Df&&decide ((Ep l (0,[])).1≤30)))
theorem Aep (n:Nat) (l:List Nd) (hl:l.length < 100000) (hn:l.length+4 < n):Na n l=some (Ep l (0,[])).1:=by
 obtain⟨n,rfl⟩:∃ j,n=j+1:=⟨n - 1,by omega⟩
 rw[Na,Aqs n l hl (by omega) (by omega)];rfl
theorem Auq (l:List Nd) (hl:1≤l.length):(Abj l 0 != (l.length:Int))=!decide (I5 l 1=some l.length):=by
 have e:Abj l 0=match I5 l 1 with | some j=>((j:Nat):Int) | none=> -1:=by
  rw[Abj,if_neg (by omega)]
  show(match I5 l 1 with | some j=>(0:Int)+(j:Int) | none=> -1)=_
  cases I5 l 1 with
  | none=>rfl
  | some j=>simp
 rw[e]
 cases I5 l 1 with
 | none =>
  show((-1:Int) != (l.length:Int))=_
  rw[bne_iff_ne.2 (by omega)];simp
 | some j =>
  show(((j:Nat):Int) != (l.length:Int))=_
  rw[Auo]
  by_cases h:j=l.length<;>simp[h]
theorem T7 (n:Nat) (l:List Nd) (hl:l.length < 100000) (hn:l.length+20 < n):Lb n l=some (Dx l):=by
 obtain⟨n,rfl⟩:∃ j,n=j+3:=⟨n - 3,by omega⟩
 rw[Lb,Dx]
 by_cases c1:l.length=0
 ·rw[beq_iff_eq.2 (show((l.length:Nat):Int)=0 by omega),decide_eq_false (show ¬ (1≤l.length∧l.length≤200) by omega)];rfl
 rw[C8.2 (show((l.length:Nat):Int)≠0 by omega)]
 by_cases c2:200 < (l.length:Int)
 ·rw[A6 c2,decide_eq_false (show ¬ (1≤l.length∧l.length≤200) by omega)];rfl
 have hL:I2 (n+2) l (n+2) 0=bif l.all Df then some (.out ()) else some (.ret false):=by
  refine Re l (fun k i=>I2 (n+2) l k (i:Int)) _ (fun k=>?_) (fun k i x hi hx=>?_) (by omega)
  ·rw[I2,Ap (by omega)]
  ·rw[I2,A6 (by omega),Cz hx,A0,Atk,A0,Bg i (by omega)]
 rw[Ap c2,Auw (n+2) l 0 (by omega) (by omega),A0,Auq l (by omega),hL,decide_eq_true (show 1≤l.length∧l.length≤200 by omega)]
 simp only[At,Aep (n+2) l hl (by omega)]
 cases decide (I5 l 1=some l.length) with
 | false=>rfl
 | true=>cases l.all Df<;>rfl
def Jj (l:List Nd):Bool:=decide (l.length≤250)&&l.all fun x=>decide (x.Ai.length≤100∧x.D5.length≤100)
def tkS (t:Tok):A5:=⟨t.kind,t.text,t.n,t.at'⟩
def Yg (r:A3j):List A5×Int×Int:=(r.toks.map tkS,r.err,r.at')
def Ae6 (r:LR (List A5) (List A5×Int×Int)):List A5×Int×Int:=match r with
 | .out x=>(x,0,0)
 | .ret x=>x
set_option maxRecDepth 10000
theorem Akt (n:Nat) (c:Int):O7 (n+1) c=some (Dq c):=by
 rw[O7]
 by_cases h1:97≤c<;>by_cases h2:c≤122<;>by_cases h3:65≤c<;>by_cases h4:c≤90<;>simp[Dq,h1,h2,h3,h4]<;>(by_cases h5:c=95<;>simp[h5])
theorem Ao2 (n:Nat) (c:Int):P1 (n+1) c=some (Cb c):=by
 rw[P1]
 by_cases h1:48≤c<;>simp[Cb,h1]
theorem Akk (c:UInt8):IntKind.i32.wrap (c.toNat:Int)=(c.toNat:Int):=by
 have:=c.toNat_lt
 simp only[IntKind.wrap,IntKind.bits,IntKind.signed,Bool.true_and]
 split<;>simp at* <;>omega
theorem Ng (c:UInt8) (k:Int) (d:Nat) (hk:k=(d:Int)) (hd:d < 256):(((c.toNat:Nat):Int)==k)=(c==UInt8.ofNat d):=by
 subst hk
 rw[Bool.eq_iff_iff,beq_iff_eq,beq_iff_eq]
 constructor
 ·intro h
  have:c.toNat=d:=by omega
  rw[← this];simp
 ·intro h
  rw[h];simp;omega
def hdS (c:UInt8):Option Int:=(bif ((c.toNat:Int)==59) then(some 1) else(bif ((c.toNat:Int)==44) then(some 1) else(bif ((c.toNat:Int)==123) then(some 1) else(bif ((c.toNat:Int)==125) then(some 1) else(bif ((c.toNat:Int)==40) then(some 1) else(bif ((c.toNat:Int)==41) then(some 1) else(bif ((c.toNat:Int)==46) then(some 1) else(bif ((c.toNat:Int)==61) then(some 1) else(bif ((c.toNat:Int)==43) then(some 1) else(bif ((c.toNat:Int)==45) then(some 1) else(bif ((c.toNat:Int)==42) then(some 1) else(bif ((c.toNat:Int)==33) then(some 1) else(bif ((c.toNat:Int)==60) then(some 1) else(some 0))))))))))))))
theorem orS (b r:Bool) (x:Option Int) (h:x=some (if r=true then 1 else 0)):(bif b then some 1 else x)=some (if(b || r)=true then 1 else 0):=by
 cases b
 ·exact h
 ·rfl
theorem orT (k:Nat) (b r:Bool) (x:Option Int) (h:x=some ((if r=true then 2 else k:Nat):Int)):(bif b then some 2 else x)=some ((if(b || r)=true then 2 else k:Nat):Int):=by
 cases b
 ·exact h
 ·rfl
theorem Atb (c:UInt8):hdS c=some (if Z1.contains c then 1 else 0):=by
 unfold hdS
 rw[Ng c 59 59 rfl (by decide),Ng c 44 44 rfl (by decide),Ng c 123 123 rfl (by decide),Ng c 125 125 rfl (by decide),Ng c 40 40 rfl (by decide),Ng c 41 41 rfl (by decide),Ng c 46 46 rfl (by decide),Ng c 61 61 rfl (by decide),Ng c 43 43 rfl (by decide),Ng c 45 45 rfl (by decide),Ng c 42 42 rfl (by decide),Ng c 33 33 rfl (by decide),Ng c 60 60 rfl (by decide)]
 have:Z1.contains c=(c==UInt8.ofNat 59 || (c==UInt8.ofNat 44 || (c==UInt8.ofNat 123 || (c==UInt8.ofNat 125 || (c==UInt8.ofNat 40 || (c==UInt8.ofNat 41 || (c==UInt8.ofNat 46 || (c==UInt8.ofNat 61 || (c==UInt8.ofNat 43 || (c==UInt8.ofNat 45 || (c==UInt8.ofNat 42 || (c==UInt8.ofNat 33 || (c==UInt8.ofNat 60 || false))))))))))))):=rfl
 rw[this]
 exact orS _ _ _ (orS _ _ _ (orS _ _ _ (orS _ _ _ (orS _ _ _ (orS _ _ _ (orS _ _ _ (orS _ _ _ (orS _ _ _ (orS _ _ _ (orS _ _ _ (orS _ _ _ (orS _ _ _ rfl))))))))))))
theorem Ar2 (n:Nat) (c:UInt8) (t:List UInt8):Qn (n+1) (c :: t)=some ((Kh (c :: t):Nat):Int):=by
 have hc:idx (c :: t) 0=some c:=rfl
 have hd:=Atb c
 unfold hdS at hd
 have h2:(Kh (c :: t):Nat)=if Ud.contains ((c :: t).take 2) then 2 else if Z1.contains c then 1 else 0:=rfl
 rw[Qn,hc]
 simp only[A0]
 rw[hd]
 have hl:((if Z1.contains c then 1 else 0:Nat):Int)=if Z1.contains c then 1 else 0:=by split<;>rfl
 by_cases h:2≤(((c :: t).length:Nat):Int)
 ·have hg:(decide (0≤2)&&decide ((2:Int)≤(((c :: t).length:Nat):Int)))=true:=by rw[decide_eq_true h];rfl
  rw[A6 h,hg,Ab,h2,List.drop_zero,show((2:Int).toNat)=2 from rfl]
  have:Ud.contains ((c :: t).take 2)=((c :: t).take 2==[61,61] || ((c :: t).take 2==[33,61] || ((c :: t).take 2==[60,61] || ((c :: t).take 2==[38,38] || ((c :: t).take 2==[124,124] || false))))):=rfl
  rw[this]
  exact orT _ _ _ _ (orT _ _ _ _ (orT _ _ _ _ (orT _ _ _ _ (orT _ _ _ _ (congrArg some hl.symm)))))
 ·have:t=[]:=by
   cases t with
   | nil=>rfl
   | cons d t=>simp at h;omega
  subst this
  have h3:Ud.contains (([c]:List UInt8).take 2)=false:=by simp[Ud]
  rw[Ap h,h2,h3,← hl];rfl
theorem Arn (n:Nat) (s:List UInt8) (hs:s.length≤20000):∀ (m k p:Nat) (acc:List Tok),s.length - p≤m→m < k→p≤s.length→acc.length≤p →
 (D6 (n+2) s k (p:Int) (acc.map tkS)).map Ae6=some (Yg (Oq s p acc)):=by
 intro m
 induction m with
 | zero =>
  intro k p acc hm hk hp ha
  obtain⟨k,rfl⟩:∃ j,k=j+1:=⟨k - 1,by omega⟩
  rw[A93 s p acc (by omega),D6,Ap (by omega)];rfl
 | succ m ih =>
  intro k p acc hm hk hp ha
  obtain⟨k,rfl⟩:∃ j,k=j+1:=⟨k - 1,by omega⟩
  by_cases c:p < s.length
  ·obtain⟨ch,t,hcons⟩:∃ ch t,s.drop p=ch :: t:=⟨_,_,List.drop_eq_getElem_cons c⟩
   have htd:t=s.drop (p+1):=by rw[← List.drop_drop,hcons];rfl
   have hlen:(s.drop p).length=s.length - p:=List.length_drop
   have hg:(decide (0≤(p:Int))&&decide ((p:Int)≤((s.length:Nat):Int)))=true:=by simp;omega
   have hx:idx (ch :: t) 0=some ch:=rfl
   have step:∀ (g:Nat),0 < g→p+g≤s.length→D2 false (s.drop p)=g+D2 false (s.drop (p+g))→(D6 (n+2) s k (IntKind.i64.wrap ((p:Int)+(g:Int))) (acc.map tkS)).map Ae6=some (Yg (Oq s p acc)):=by
    intro g h0 h1 h2
    rw[Dd (by omega),show(p:Int)+(g:Int)=((p+g:Nat):Int) by omega,ih k (p+g) acc (by omega) (by omega) h1 (by omega),Ajt s p acc g hp h2]
   have tokk:∀ (kd:Int) (ln v:Nat),D2 false (s.drop p)=0→Jy (s.drop p)=.tok kd ln v →
    (bif (decide (0≤((ln:Nat):Int))&&decide (((ln:Nat):Int)≤(((s.drop p).length:Nat):Int))) then(bif decide ((List.length (acc.map tkS)+1)*41≤140737488355328) then D6 (n+2) s k (IntKind.i64.wrap ((p:Int)+(((List.drop 0 (List.take (((ln:Nat):Int).toNat) (s.drop p))).length:Nat):Int))) (acc.map tkS++([(⟨kd,List.drop 0 (List.take (((ln:Nat):Int).toNat) (s.drop p)),(v:Int),(p:Int)⟩:A5)]:List A5)) else none) else none).map Ae6=some (Yg (Oq s p acc)):=by
    intro kd ln v h0 h1
    obtain⟨l1,l2⟩:=Tc h1
    rw[hlen] at l2
    have g2:(decide (0≤((ln:Nat):Int))&&decide (((ln:Nat):Int)≤(((s.drop p).length:Nat):Int)))=true:=by rw[hlen];simp;omega
    rw[g2,Ab,A6 (by rw[B6];omega),List.drop_zero,Int.toNat_natCast,List.length_take,hlen,show min ln (s.length - p)=ln by omega,Dd (by omega),show(p:Int)+(ln:Int)=((p+ln:Nat):Int) by omega]
    have hh:=ih k (p+ln) (acc++[⟨kd,(s.drop p).take ln,v,(p:Nat)⟩]) (by omega) (by omega) (by omega) (by simp;omega)
    rw[List.map_append] at hh
    rw[Aln s p acc kd ln v h0 c h1]
    exact hh
   have errk:∀ (e:Int),D2 false (s.drop p)=0→Jy (s.drop p)=.err e→(some (LR.ret (([]:List A5),e,(p:Int))):Option (LR (List A5) (List A5×Int×Int))).map Ae6=some (Yg (Oq s p acc)):=by
    intro e h0 h1
    rw[Al9 s p acc e h0 c h1];rfl
   rw[D6,A6 (by omega),hg,Ab,Int.toNat_natCast,List.take_length]
   rw[hcons] at step tokk errk hlen ⊢
   rw[hx,A0,Akk]
   have hle:(ch :: t).length≤20000:=by rw[hlen];omega
   by_cases hb:Jw (ch.toNat:Int)=true
   ·have e1:=step 1 (by omega) (by omega) (by rw[A01 hb,htd])
    unfold Jw at hb
    rw[B3] at hb
    rcases hb with h | h | h | h<;>rw[h]<;>exact e1
   ·have hb':Jw (ch.toNat:Int)=false:=by simpa using hb
    have hnb:=hb'
    unfold Jw at hnb
    rw[decide_eq_false_iff_not] at hnb
    rw[C8.2 (show((ch.toNat:Nat):Int)≠32 by omega),C8.2 (show((ch.toNat:Nat):Int)≠9 by omega),C8.2 (show((ch.toNat:Nat):Int)≠10 by omega),C8.2 (show((ch.toNat:Nat):Int)≠13 by omega)]
    simp only[At]
    by_cases h35:ch.toNat=35
    ·have hl1:1≤Ch Mc (ch :: t):=by rw[Oi,if_pos (by rw[h35];decide)];omega
     have hl2:=Xs Mc (ch :: t)
     rw[hlen] at hl2
     have e1:=step (Ch Mc (ch :: t)) (by omega) (by omega) (by rw[Afv h35,← hcons,List.drop_drop])
     rw[h35,show(((35:Nat):Int)==35)=true from rfl,Ab,Mu,A0]
     exact e1
    ·have h0:=A9z (t:=t) hb' h35
     have tk:=fun kd ln v=>tokk kd ln v h0
     have ek:=fun e=>errk e h0
     rw[C8.2 (show((ch.toNat:Nat):Int)≠35 by omega),At,Akt,A0]
     simp only[Jy] at tk ek
     cases hL:Dq (ch.toNat:Int) with
     | true =>
      rw[hL] at tk ek
      simp only[if_true] at tk ek
      rw[Ab,Mv,A0]
      by_cases hr:16 < Ch Hj (ch :: t)
      ·rw[A6 (by omega)]
       exact ek 2 (by rw[if_pos hr])
      ·rw[Ap (by omega)]
       exact tk 1 _ 0 (by rw[if_neg hr])
     | false =>
      rw[hL] at tk ek
      simp only[Bool.false_eq_true,if_false] at tk ek
      rw[At,Ao2,A0]
      cases hD:Cb (ch.toNat:Int) with
      | true =>
       rw[hD] at tk ek
       simp only[if_true] at tk ek
       have hrl:=Xs Cb (ch :: t)
       have g3:(decide (0≤((Ch Cb (ch :: t):Nat):Int))&&decide (((Ch Cb (ch :: t):Nat):Int)≤(((ch :: t).length:Nat):Int)))=true:=by rw[decide_eq_true (by omega),decide_eq_true (by omega)];rfl
       have hall:((ch :: t).take (Ch Cb (ch :: t))).all (fun c=>Cb c.toNat)=true:=by
        unfold Ch
        rw[List.all_eq_true]
        have:(ch :: t).take ((ch :: t).takeWhile fun c=>Cb c.toNat).length=(ch :: t).takeWhile fun c=>Cb c.toNat:=List.prefix_iff_eq_take.1 (List.takeWhile_prefix _) |>.symm
        rw[this]
        intro x hx
        have h4:∀ (q:UInt8→Bool) (l:List UInt8) (x:UInt8),x ∈ l.takeWhile q→q x=true:=fun q l=>by
         induction l with
         | nil=>simp
         | cons a t ih =>
          intro x hx
          rw[List.takeWhile_cons] at hx
          split at hx
          ·rcases List.mem_cons.1 hx with rfl | hx
           ·assumption
           ·exact ih x hx
          ·simp at hx
        exact h4 _ _ x hx
       have tk2:=tk 2 (Ch Cb (ch :: t)) (Hs ((ch :: t).take (Ch Cb (ch :: t))))
       rw[g3,Ab] at tk2
       rw[Ab,No,A0,g3,Ab,Ab,List.drop_zero,Int.toNat_natCast,Si,hall,Ab,A0]
       rw[List.drop_zero,Int.toNat_natCast] at tk2
       by_cases hr:9999 < Hs ((ch :: t).take (Ch Cb (ch :: t)))
       ·rw[A6 (by omega)]
        exact ek 4 (by rw[if_pos hr])
       ·rw[Ap (by omega)]
        exact tk2 (by rw[if_neg hr])
      | false =>
       rw[hD] at tk ek
       simp only[Bool.false_eq_true,if_false] at tk ek
       rw[At,Ar2,A0]
       by_cases hz:Kh (ch :: t)=0
       ·rw[hz,show((((0:Nat):Int))==0)=true from rfl,Ab]
        exact ek 3 (by rw[if_pos hz])
       ·rw[C8.2 (show((Kh (ch :: t):Nat):Int)≠0 by omega),At]
        exact tk 3 _ 0 (by rw[if_neg hz])
  ·rw[A93 s p acc (by omega),D6,Ap (by omega)];rfl
theorem Agv (n:Nat) (s:List UInt8) (hn:s.length+50 < n∨20000 < s.length∧0 < n):Qv n s=some (Yg (Gz s)):=by
 obtain⟨n,rfl⟩:∃ j,n=j+1:=⟨n - 1,by omega⟩
 rw[Qv,Gz]
 by_cases c:20000 < (s.length:Int)
 ·rw[A6 c,if_pos (by omega)];rfl
 ·rw[Ap c,if_neg (by omega)]
  obtain⟨n,rfl⟩:∃ j,n=j+2:=⟨n - 2,by omega⟩
  obtain⟨r,h1,h2⟩:=Option.map_eq_some_iff.1 (Arn n s (by omega) s.length (n+2) 0 [] (by omega) (by omega) (by omega) (by simp))
  have h1:D6 (n+2) s (n+2) 0 []=some r:=h1
  rw[h1,A0]
  have h2:Ae6 r=Yg (Dh (s.length+1) s 0 []):=h2
  rw[← h2]
  cases r<;>rfl
def En (n:Int):List UInt8:=(D9 5 n).getD []
theorem A3c {x:Nd}:Dy x.As=0↔1≤x.As∧x.As≤4:=by
 unfold Dy;repeat' split
 all_goals omega
theorem Atr:∀ (j:Nat) (x:Int),j < 10→0≤x→x < 100000→x < 10 ^ (j+1)→∃ d:List UInt8,d.length≤j+1∧∀ k,j < k→D9 k x=some d:=by
 intro j
 induction j with
 | zero =>
  intro x _ h0 _ h1
  refine⟨[UInt8.ofNat (IntKind.u8.wrap (IntKind.i64.wrap (48+x))).toNat],by simp,fun k hk=>?_⟩
  obtain⟨k,rfl⟩:∃ i,k=i+1:=⟨k - 1,by omega⟩
  rw[D9,A6 (by simp at h1;omega)]
 | succ j ih =>
  intro x hj h0 hx h1
  by_cases c:x < 10
  ·refine⟨[UInt8.ofNat (IntKind.u8.wrap (IntKind.i64.wrap (48+x))).toNat],by simp,fun k hk=>?_⟩
   obtain⟨k,rfl⟩:∃ i,k=i+1:=⟨k - 1,by omega⟩
   rw[D9,A6 c]
  ·have hp:(10:Int) ^ (j+1+1)=10 ^ (j+1)*10:=Int.pow_succ 10 (j+1)
   obtain⟨d,d1,d2⟩:=ih (x / 10) (by omega) (by omega) (by omega) (by omega)
   refine⟨d++[UInt8.ofNat (IntKind.u8.wrap (IntKind.i64.wrap (48+(Int.tmod x 10)))).toNat],by simp;omega,fun k hk=>?_⟩
   obtain⟨k,rfl⟩:∃ i,k=i+1:=⟨k - 1,by omega⟩
   rw[D9,Ap c,Int.tdiv_eq_ediv_of_nonneg h0,Dd (by omega),d2 k (by omega),A0,A6 (by simp;omega)]
theorem Aao {x:Int} (h:0≤x∧x≤9999):(En x).length≤4∧∀ k,4≤k→D9 k x=some (En x):=by
 obtain⟨d,d1,d2⟩:=Atr 3 x (by omega) h.1 (by omega) (by simp;omega)
 have:En x=d:=by rw[En,d2 5 (by omega)];rfl
 rw[this];exact⟨d1,fun k hk=>d2 k (by omega)⟩
def E7 (op:Int):List UInt8:=if op=5 then [33] else if op=6 then [43] else if op=7 then [45] else if op=8 then [42] else if op=9 then [61,61] else if op=10 then [33,61] else if op=11 then [60] else if op=12 then [60,61] else if op=13 then [38,38] else [124,124]
theorem A2k (n:Nat) {op:Int} (h:5≤op∧op≤14):Il (n+1) op=some (E7 op)∧(E7 op).length≤2:=by
 rcases Wl op with h | h | h | h | h | h | h | h | h | h | h | h | h | h | h | h
 all_goals try omega
 all_goals subst h;exact⟨rfl,by decide⟩
def Eg:Tr→Bool→List UInt8
 | .leaf x,_=>if x.As=1 then En x.Bs else if x.As=4 then x.D5++[46]++x.Ai else x.Ai
 | .un _ a,_=>[33]++Eg a true
 | .bin x a b,o=>bif o then([40]++(Eg a true++[32]++E7 x.As++[32]++Eg b true))++[41] else Eg a true++[32]++E7 x.As++[32]++Eg b true
def J8 (l:List Nd):Prop:=∀ x ∈ l,Df x=true∧x.Ai.length≤100∧x.D5.length≤100
theorem Wn {x:Nd} (h:Df x=true) (h1:x.As=1):0≤x.Bs∧x.Bs≤9999:=by
 simp only[Df,h1,if_true,A7,B3] at h
 exact h.2.1
theorem A25:∀ (t:Tr) (o:Bool),t.wf→J8 t.flat→(Eg t o).length≤300*t.flat.length:=by
 intro t
 induction t with
 | leaf x =>
  intro o h hn
  have:=hn x (by simp[Tr.flat])
  have h4:=(A3c (x:=x)).1 h
  simp only[Eg,Tr.flat,List.length_cons,List.length_nil]
  split
  ·rename_i c;have:=(Aao (Wn this.1 c)).1;omega
  ·split
   ·simp;omega
   ·omega
 | un x a ih =>
  intro o h hn
  have:=ih true h.2 (fun y hy=>hn y (by simp[Tr.flat,hy]))
  simp only[Eg,Tr.flat,List.length_cons,List.length_append,List.length_nil];omega
 | bin x a b iha ihb =>
  intro o h hn
  have h1:=iha true h.2.1 (fun y hy=>hn y (by simp[Tr.flat,hy]))
  have h2:=ihb true h.2.2 (fun y hy=>hn y (by simp[Tr.flat,hy]))
  have h5:5≤x.As∧x.As≤14:=by have h1:=h.1;unfold Dy at h1;split at h1<;>(try split at h1)<;>(try split at h1)<;>omega
  have h3:=(A2k 0 h5).2
  cases o<;>simp only[Eg,Ab,At,Tr.flat,List.length_cons,List.length_append,List.length_nil]<;>omega
theorem Abh {pre post:List Nd} {x:Nd} {r:List Nd}:idx (pre++(x :: r++post)) (pre.length:Int)=some x:=by rw[Vh,List.getElem?_append_right (by simp)];simp
theorem Ang:∀ (t:Tr) (n:Nat) (pre post:List Nd) (o:Bool),t.wf→J8 t.flat→(pre++(t.flat++post)).length < 1000→t.dep+10 < n→Gr n (pre++(t.flat++post)) (pre.length:Int) o=some (Eg t o,((pre.length+t.flat.length:Nat):Int)):=by
 intro t
 induction t with
 | leaf x =>
  intro n pre post o h hn hl hf
  obtain⟨n,rfl⟩:∃ j,n=j+1:=⟨n - 1,by omega⟩
  have h4:=(A3c (x:=x)).1 h
  have hx:=hn x (by simp[Tr.flat])
  simp only[List.length_append,Tr.flat,List.length_cons,List.length_nil] at hl
  have g:idx (pre++((Tr.leaf x).flat++post)) (pre.length:Int)=some x:=by rw[Tr.flat];exact Abh
  rw[Gr,g,A0,Bg pre.length (by omega)]
  simp only[Eg,Tr.flat,List.length_cons,List.length_nil,Nat.zero_add]
  have h4':x.As=1∨x.As=2∨x.As=3∨x.As=4:=by omega
  rcases h4' with c | c | c | c<;>simp only[c]
  ·simp only[(Aao (Wn hx.1 c)).2 n (by omega)];rfl
  ·rfl
  ·rfl
  ·show(bif decide (x.D5.length+1≤140737488355328) then _ else _)=_
   rw[A6 (by omega),A6 (by simp;omega)];rfl
 | un x a ih =>
  intro n pre post o h hn hl hf
  obtain⟨n,rfl⟩:∃ j,n=j+2:=⟨n - 2,by omega⟩
  have h5:x.As=5:=by have h1:=h.1;unfold Dy at h1;split at h1<;>(try split at h1)<;>(try split at h1)<;>omega
  have e:pre++((Tr.un x a).flat++post)=(pre++[x])++(a.flat++post):=by simp[Tr.flat]
  have hp1:((pre++[x]).length:Int)=((pre.length+1:Nat):Int):=by simp
  have g:idx (pre++((Tr.un x a).flat++post)) (pre.length:Int)=some x:=by rw[Tr.flat];exact Abh
  have hna:J8 a.flat:=fun y hy=>hn y (by simp[Tr.flat,hy])
  have i1:=ih (n+1) (pre++[x]) post true h.2 hna (by rw[← e];exact hl) (by simp only[Tr.dep] at hf;omega)
  rw[← e,hp1] at i1
  have hs:=A25 a true h.2 hna
  have sg:=A2k n (op:=5) (by omega)
  simp only[List.length_append,Tr.flat,List.length_cons,List.length_nil] at hl
  rw[Gr,g,A0,Bg pre.length (by omega),h5]
  simp only[i1,sg.1,A0,show((5:Int)==1)=false from rfl,show((5:Int)==2)=false from rfl,show((5:Int)==3)=false from rfl,show((5:Int)==4)=false from rfl,beq_self_eq_true,At,Ab]
  have e5:E7 5=[33]:=rfl
  rw[e5,A6 (by simp;omega)]
  simp only[Eg,Tr.flat,List.length_cons,List.length_append,List.length_nil]
  congr 2;omega
 | bin x a b iha ihb =>
  intro n pre post o h hn hl hf
  obtain⟨n,rfl⟩:∃ j,n=j+2:=⟨n - 2,by omega⟩
  have h5:6≤x.As∧x.As≤14:=by have h1:=h.1;unfold Dy at h1;split at h1<;>(try split at h1)<;>(try split at h1)<;>omega
  have e:pre++((Tr.bin x a b).flat++post)=(pre++[x])++(a.flat++(b.flat++post)):=by simp[Tr.flat]
  have e2:pre++((Tr.bin x a b).flat++post)=(pre++[x]++a.flat)++(b.flat++post):=by simp[Tr.flat]
  have hp1:((pre++[x]).length:Int)=((pre.length+1:Nat):Int):=by simp
  have hp2:(((pre++[x]).length+a.flat.length:Nat):Int)=((pre++[x]++a.flat).length:Int):=by simp;omega
  have g:idx (pre++((Tr.bin x a b).flat++post)) (pre.length:Int)=some x:=by rw[Tr.flat];exact Abh
  have hna:J8 a.flat:=fun y hy=>hn y (by simp[Tr.flat,hy])
  have hnb:J8 b.flat:=fun y hy=>hn y (by simp[Tr.flat,hy])
  simp only[Tr.dep] at hf
  have i1:=iha (n+1) (pre++[x]) (b.flat++post) true h.2.1 hna (by rw[← e];exact hl) (by omega)
  have i2:=ihb (n+1) (pre++[x]++a.flat) post true h.2.2 hnb (by rw[← e2];exact hl) (by omega)
  rw[← e,hp1,hp2] at i1
  rw[← e2] at i2
  have hs:=A25 a true h.2.1 hna
  have hs2:=A25 b true h.2.2 hnb
  have sg:=A2k n (op:=x.As) (by omega)
  simp only[List.length_append,Tr.flat,List.length_cons,List.length_nil] at hl
  rw[Gr,g,A0,Bg pre.length (by omega)]
  simp only[i1,i2,sg.1,A0,C8.2 (show x.As≠1 by omega),C8.2 (show x.As≠2 by omega),C8.2 (show x.As≠3 by omega),C8.2 (show x.As≠4 by omega),C8.2 (show x.As≠5 by omega),At,Ab]
  have sl:=sg.2
  rw[A6 (by simp;omega),A6 (by simp;omega),A6 (by simp;omega),A6 (by simp;omega)]
  cases o with
  | false =>
   simp only[At,Eg,Tr.flat,List.length_cons,List.length_append,List.length_nil]
   congr 2;omega
  | true =>
   rw[Ab,A6 (by simp;omega),A6 (by simp;omega)]
   simp only[Ab,Eg,Tr.flat,List.length_cons,List.length_append,List.length_nil]
   congr 2;omega
def Fa (x:Nd):Bool:=x.As==2 || (x.As==3 || x.As==4)
theorem Afa {α τ:Type} (l:List α) (p:α→Bool) (L:Nat→Nat→List α→Option (LR (List α) τ)) (h0:∀ k s,L (k+1) l.length s=some (.out s))
 (h1:∀ k i x s,i < l.length→l[i]?=some x→s.length≤i→L (k+1) i s=L k (i+1) (bif p x then s++[x] else s)) {k:Nat} (hk:l.length < k):L k 0 []=some (.out (l.filter p)):=by
 have:=Pz l L (fun l s=>some (.out (s++l.filter p))) (fun i s=>s.length≤i) (s:=[]) hk (Nat.le_refl _) (fun k s _=>by rw[h0 k];simp) ?_
 ·rw[this];rfl
 ·intro k i s x hi hx hs ih
  rw[h1 k i x s hi hx hs]
  cases hp:p x with
  | true=>rw[Ab,ih _ (by simp;omega)];simp[hp]
  | false=>rw[At,ih _ (by omega)];simp[hp]
theorem A7p (n:Nat) (l:List Nd) (hl:l.length < 100000) (hn:l.length+1 < n):Nh n l=some (l.filter Fa):=by
 obtain⟨n,rfl⟩:∃ j,n=j+1:=⟨n - 1,by omega⟩
 have:F6 n l n 0 []=some (.out (l.filter Fa)):=by
  refine Afa l Fa (fun k i s=>F6 n l k (i:Int) s) (fun k s=>?_) (fun k i x s hi hx hs=>?_) (by omega)
  ·rw[F6,Ap (by omega)]
  ·rw[F6,A6 (by omega),Cz hx,A0,Bg i (by omega),A6 (show(s.length+1)*57≤140737488355328 by omega)]
   unfold Fa
   cases (x.As==2)<;>cases (x.As==3)<;>cases (x.As==4)<;>rfl
 rw[Nh,this];rfl
theorem Tz {l:List Nd} (h:Dx l=true):∃ t:Tr,t.wf∧t.flat=l∧l.length≤200∧t.dep≤30∧1≤l.length∧l.all Df=true∧(Ep l (0,[])).1=(t.dep:Int):=by
 simp only[Dx,A7,B3] at h
 obtain⟨h1,h2,h3,h4⟩:=h
 obtain⟨t,t1,t2,_,_⟩:=Ap2 h2
 rw[List.take_length] at t2
 have:=A8g t [] 0 [] t1 (by omega)
 rw[List.append_nil,t2] at this
 have e:(Ep l (0,[])).1=(t.dep:Int):=by rw[this];simp[Ep]
 rw[e] at h4
 exact⟨t,t1,t2,h1.2,by omega,h1.1,h3,e⟩
theorem Afo {l:List UInt8} {k:Nat} (hk:k < l.length) (h:Pk l k=true):Hj l[k].toNat=true:=by
 simp only[Pk,Ar hk,Bool.or_eq_true,A7,B3] at h
 simp only[Hj,Bool.or_eq_true]
 rcases h with h | h
 ·exact .inl h
 ·exact .inr h.2
def Aul (l:List UInt8):Prop:=∃ c t,l=c :: t∧Dq c.toNat=true∧(∀ k (hk:k < l.length),Hj l[k].toNat=true)∧l.length≤16
theorem Ni {l:List UInt8} (h:C9 l=true):Aul l:=by
 simp only[C9,A7,Bool.not_eq_true',B3,List.all_eq_true,List.mem_range] at h
 obtain⟨⟨⟨h1,h2⟩,h3⟩,_⟩:=h
 rcases l with _ | ⟨c,t⟩
 ·simp at h1
 ·refine⟨c,t,rfl,?_,fun k hk=>Afo hk (h3 k hk),h2⟩
  have:=h3 0 (by simp)
  simpa [Pk] using this
theorem W0 {c:UInt8} (h:Dq c.toNat=true):Jw c.toNat=false∧c.toNat≠35:=by
 simp only[Dq,B3] at h
 simp only[Jw,decide_eq_false_iff_not]
 omega
def Tok.core (t:Tok):Int×List UInt8×Int:=(t.kind,t.text,t.n)
def Aau (x:Int):UInt8:=UInt8.ofNat (IntKind.u8.wrap (IntKind.i64.wrap (48+x))).toNat
theorem A9m {x:Int} (h:0≤x∧x < 10):((Aau x).toNat:Int)=48+x:=by
 have h1:x=0∨x=1∨x=2∨x=3∨x=4∨x=5∨x=6∨x=7∨x=8∨x=9:=by omega
 rcases h1 with rfl | rfl | rfl | rfl | rfl | rfl | rfl | rfl | rfl | rfl<;>decide
theorem A3v (d:List UInt8) (c:UInt8):Hs (d++[c])=min (10*Hs d+(c.toNat - 48)) 10000:=by
 simp[Hs,List.foldl_append]
theorem Auk:∀ (j:Nat) (x:Int),j < 10→0≤x→x < 10000→x < 10 ^ (j+1)→∃ d:List UInt8,d.length≤j+1∧(∀ k,j < k→D9 k x=some d)∧d.all (fun c=>Cb c.toNat)=true∧(Hs d:Int)=x∧d≠[]:=by
 intro j
 have base:∀ (j:Nat) (x:Int),0≤x→x < 10→∃ d:List UInt8,d.length≤j+1∧(∀ k,j < k→D9 k x=some d)∧d.all (fun c=>Cb c.toNat)=true∧(Hs d:Int)=x∧d≠[]:=by
  intro j x h0 h1
  have hb:=A9m ⟨h0,h1⟩
  refine⟨[Aau x],by simp,fun k hk=>?_,?_,?_,by simp⟩
  ·obtain⟨k,rfl⟩:∃ i,k=i+1:=⟨k - 1,by omega⟩
   rw[D9,A6 h1];rfl
  ·simp only[List.all_cons,List.all_nil,Bool.and_true]
   unfold Cb;exact decide_eq_true (by omega)
  ·have:=A3v [] (Aau x)
   have e0:Hs []=0:=rfl
   rw[List.nil_append,e0] at this
   rw[this];omega
 induction j with
 | zero=>intro x _ h0 _ h1;exact base 0 x h0 (by simp at h1;omega)
 | succ j ih =>
  intro x hj h0 hx h1
  by_cases c:x < 10
  ·exact base _ x h0 c
  ·have hp:(10:Int) ^ (j+1+1)=10 ^ (j+1)*10:=Int.pow_succ 10 (j+1)
   obtain⟨d,d1,d2,d3,d4,d5⟩:=ih (x / 10) (by omega) (by omega) (by omega) (by omega)
   have hb:=A9m (x:=x % 10) ⟨by omega,by omega⟩
   have hm:Int.tmod x 10=x % 10:=Int.tmod_eq_emod_of_nonneg h0
   refine⟨d++[Aau (x % 10)],by simp;omega,fun k hk=>?_,?_,?_,by simp⟩
   ·obtain⟨k,rfl⟩:∃ i,k=i+1:=⟨k - 1,by omega⟩
    rw[D9,Ap c,Int.tdiv_eq_ediv_of_nonneg h0,Dd (by omega),d2 k (by omega),A0,A6 (by simp;omega),hm];rfl
   ·simp only[List.all_append,d3,List.all_cons,List.all_nil,Bool.and_true,Bool.true_and]
    unfold Cb;exact decide_eq_true (by omega)
   ·rw[A3v];omega
theorem A1u {x:Int} (h:0≤x∧x≤9999):(En x).all (fun c=>Cb c.toNat)=true∧(Hs (En x):Int)=x∧En x≠[]:=by
 obtain⟨d,d1,d2,d3,d4,d5⟩:=Auk 3 x (by omega) h.1 (by omega) (by simp;omega)
 have:En x=d:=by rw[En,d2 5 (by omega)];rfl
 rw[this];exact⟨d3,d4,d5⟩
def Wy (r:List UInt8):Prop:=r=[]∨∃ c t,r=c :: t∧Hj c.toNat=false
theorem Zy {p:Int→Bool} {w r:List UInt8} (hw:∀ c ∈ w,p c.toNat=true) (hr:r=[]∨∃ c t,r=c :: t∧p c.toNat=false):Ch p (w++r)=w.length:=by
 induction w with
 | nil =>
  rcases hr with rfl | ⟨c,t,rfl,hc⟩
  ·simp[Ch]
  ·rw[List.nil_append,Oi,if_neg (by rw[hc];simp)];rfl
 | cons a w ih=>rw[List.cons_append,Oi,if_pos (hw a (List.mem_cons_self ..)),ih fun c hc=>hw c (List.mem_cons_of_mem _ hc)];simp
theorem An4 {w r:List UInt8} (h:C9 w=true) (hr:Wy r):Jy (w++r)=.tok 1 w.length 0:=by
 obtain⟨c,t,rfl,h1,h2,h3⟩:=Ni h
 have hrun:Ch Hj (c :: t++r)=(c :: t).length:=Zy (fun d hd=>by
  obtain⟨k,hk,rfl⟩:=List.mem_iff_getElem.1 hd
  exact h2 k hk) hr
 rw[List.cons_append] at hrun ⊢
 show(if Dq c.toNat then _ else _)=_
 rw[if_pos h1,hrun,if_neg (by omega)]
theorem Aq1 {x:Int} (hx:0≤x∧x≤9999) {r:List UInt8} (hr:Wy r):Jy (En x++r)=.tok 2 (En x).length x.toNat:=by
 obtain⟨h1,h2,h3⟩:=A1u hx
 obtain⟨c,t,hw⟩:=List.exists_cons_of_ne_nil h3
 have hd:Cb c.toNat=true:=by
  rw[hw] at h1;simp only[List.all_cons,A7] at h1;exact h1.1
 have hl:Dq c.toNat=false:=by
  unfold Cb at hd;unfold Dq;rw[B3] at hd;exact decide_eq_false (by omega)
 have hrun:Ch Cb (En x++r)=(En x).length:=Zy (fun d hd=>List.all_eq_true.1 h1 d hd) (by
  rcases hr with rfl | ⟨c,t,rfl,hc⟩
  ·exact .inl rfl
  ·refine .inr ⟨c,t,rfl,?_⟩
   unfold Hj at hc;simp only[Bool.or_eq_false_iff] at hc;exact hc.2)
 have e:Jy (En x++r)=if Dq c.toNat then(if Ch Hj (En x++r) > 16 then .err 2 else .tok 1 (Ch Hj (En x++r)) 0)
  else if Cb c.toNat then(if Hs ((En x++r).take (Ch Cb (En x++r))) > 9999 then .err 4 else .tok 2 (Ch Cb (En x++r)) (Hs ((En x++r).take (Ch Cb (En x++r)))))
  else if Kh (En x++r)=0 then .err 3 else .tok 3 (Kh (En x++r)) 0:=by rw[hw];rfl
 rw[e,hl,hd,hrun]
 have ht:(En x++r).take (En x).length=En x:=by rw[List.take_append_of_le_length (Nat.le_refl _),List.take_length]
 rw[ht,if_neg (by simp),if_pos rfl,if_neg (by omega)]
 congr 1;omega
theorem Ao0 {op:Int} (h:6≤op∧op≤14) (r:List UInt8):Jy (E7 op++32 :: r)=.tok 3 (E7 op).length 0:=by
 rcases Wl op with h | h | h | h | h | h | h | h | h | h | h | h | h | h | h | h
 all_goals try omega
 all_goals subst h;rfl
theorem Ao8 (r:List UInt8):Jy (40 :: r)=.tok 3 1 0:=by cases r<;>rfl
theorem Amk (r:List UInt8):Jy (41 :: r)=.tok 3 1 0:=by cases r<;>rfl
theorem Apy (r:List UInt8):Jy (46 :: r)=.tok 3 1 0:=by cases r<;>rfl
theorem Aqc {r:List UInt8} (h:∀ t,r≠61 :: t):Jy (33 :: r)=.tok 3 1 0:=by
 cases r with
 | nil=>rfl
 | cons c t =>
  have hc:c≠61:=fun e=>h t (by rw[e])
  have e:Kh (33 :: c :: t)=1:=by
   unfold Kh
   have:Ud.contains ((33 :: c :: t).take 2)=false:=by
    simp only[List.take_succ_cons,List.take_zero,Ud,List.contains_cons,List.contains_nil,Bool.or_false]
    simp[hc]
   rw[this];rfl
  have e2:Jy (33 :: c :: t)=if Kh (33 :: c :: t)=0 then .err 3 else .tok 3 (Kh (33 :: c :: t)) 0:=rfl
  rw[e2,e];rfl
abbrev Ck:=Int×List UInt8×Int
def E3:Tr→Bool→List Ck
 | .leaf x,_=>if x.As=1 then [(2,En x.Bs,x.Bs)] else if x.As=4 then [(1,x.D5,0),(3,[46],0),(1,x.Ai,0)] else [(1,x.Ai,0)]
 | .un _ a,_=>(3,[33],0) :: E3 a true
 | .bin x a b,o=>bif o then(3,[40],0) :: ((E3 a true++(3,E7 x.As,0) :: E3 b true)++[(3,[41],0)]) else E3 a true++(3,E7 x.As,0) :: E3 b true
def Seg (ok:List UInt8→Prop) (s:List UInt8) (ts:List Ck):Prop:=∀ (rest:List UInt8) (p:Nat) (acc:List Tok),ok rest→∃ toks:List Tok,toks.map Tok.core=ts∧∀ f f',(s++rest).length < f→rest.length < f'→Dh f (s++rest) p acc=Dh f' rest (p+s.length) (acc++toks)
theorem Oh {ok:List UInt8→Prop} {w:List UInt8} {k:Int} {v:Nat} (hw:w≠[]) (hb:∀ c t,w=c :: t→Jw c.toNat=false∧c.toNat≠35) (h:∀ r,ok r→Jy (w++r)=.tok k w.length v):Seg ok w [(k,w,(v:Int))]:=by
 intro rest p acc hr
 refine⟨[⟨k,w,v,(p:Nat)⟩],rfl,fun f f' hf hf'=>?_⟩
 obtain⟨f,rfl⟩:∃ j,f=j+1:=⟨f - 1,by omega⟩
 obtain⟨c,t,rfl⟩:=List.exists_cons_of_ne_nil hw
 have ho:=h rest hr
 have hg:D2 false (c :: t++rest)=0:=A9z (hb c t rfl).1 (hb c t rfl).2
 rw[Dh,hg,List.drop_zero]
 rw[List.cons_append] at ho ⊢
 simp only[ho]
 have e1:(c :: (t++rest)).drop (c :: t).length=rest:=by rw[← List.cons_append,List.drop_left]
 have e2:(c :: (t++rest)).take (c :: t).length=c :: t:=by rw[← List.cons_append,List.take_left]
 rw[e1,e2]
 simp only[Nat.add_zero]
 exact Sf f f' _ _ _ (by simp at hf;omega) hf'
theorem Bc {ok1 ok2:List UInt8→Prop} {s1 s2:List UInt8} {t1 t2:List Ck} (h1:Seg ok1 s1 t1) (h2:Seg ok2 s2 t2) (h:∀ r,ok2 r→ok1 (s2++r)):Seg ok2 (s1++s2) (t1++t2):=by
 intro rest p acc hr
 obtain⟨k1,a1,a2⟩:=h1 (s2++rest) p acc (h rest hr)
 obtain⟨k2,b1,b2⟩:=h2 rest (p+s1.length) (acc++k1) hr
 refine⟨k1++k2,by rw[List.map_append,a1,b1],fun f f' hf hf'=>?_⟩
 rw[List.append_assoc] at hf ⊢
 rw[a2 f ((s2++rest).length+1) hf (by omega),b2 _ f' (by omega) hf',List.length_append,List.append_assoc,Nat.add_assoc]
theorem Fz {ok:List UInt8→Prop} {s:List UInt8} {t:List Ck} (h:Seg ok s t):Seg ok (32 :: s) t:=by
 intro rest p acc hr
 obtain⟨k1,a1,a2⟩:=h rest (p+1) acc hr
 refine⟨k1,a1,fun f f' hf hf'=>?_⟩
 obtain⟨f,rfl⟩:∃ j,f=j+1:=⟨f - 1,by omega⟩
 have hg:D2 false (32 :: (s++rest))=1+D2 false (s++rest):=A01 (by decide)
 have e:Dh (f+1) (32 :: (s++rest)) p acc=Dh (f+1) (s++rest) (p+1) acc:=by
  rw[Dh,Dh,hg]
  have:(32 :: (s++rest)).drop (1+D2 false (s++rest))=(s++rest).drop (D2 false (s++rest)):=by rw[Nat.add_comm,List.drop_succ_cons]
  rw[this]
  have e3:p+(1+D2 false (s++rest))=p+1+D2 false (s++rest):=by omega
  rw[e3]
 rw[List.cons_append,e,a2 (f+1) f' (by simp at hf ⊢;omega) hf',List.length_cons]
 congr 1;omega
def OkE (r:List UInt8):Prop:=r=[]∨∃ t,r=32 :: t∨r=41 :: t∨r=44 :: t∨r=59 :: t∨r=10 :: t
theorem Vp {r:List UInt8} (h:OkE r):Wy r:=by
 rcases h with rfl | ⟨t,rfl | rfl | rfl | rfl | rfl⟩
 ·exact .inl rfl
 ·exact .inr ⟨32,t,rfl,by decide⟩
 ·exact .inr ⟨41,t,rfl,by decide⟩
 ·exact .inr ⟨44,t,rfl,by decide⟩
 ·exact .inr ⟨59,t,rfl,by decide⟩
 ·exact .inr ⟨10,t,rfl,by decide⟩
theorem Wv {ok ok2:List UInt8→Prop} {s:List UInt8} {t:List Ck} (h:Seg ok s t) (hk:∀ r,ok2 r→ok r):Seg ok2 s t:=fun rest p acc hr=>h rest p acc (hk rest hr)
theorem A9o {w:List UInt8} (h:C9 w=true):∃ c t,w=c :: t∧Dq c.toNat=true:=by
 obtain⟨c,t,h1,h2,_⟩:=Ni h
 exact⟨c,t,h1,h2⟩
theorem Nu {w:List UInt8} (h:C9 w=true):Seg Wy w [(1,w,0)]:=by
 obtain⟨c,t,rfl,hl⟩:=A9o h
 exact Oh (by simp) (fun d u e=>by
  obtain⟨rfl,rfl⟩:=List.cons.inj e
  exact W0 hl) (fun r hr=>An4 h hr)
theorem A57 {c:UInt8} (h:Cb c.toNat=true):Jw c.toNat=false∧c.toNat≠35:=by
 unfold Cb at h;rw[B3] at h
 refine⟨?_,by omega⟩
 unfold Jw;exact decide_eq_false (by omega)
theorem A85 {x:Int} (h:0≤x∧x≤9999):Seg Wy (En x) [(2,En x,x)]:=by
 obtain⟨h1,h2,h3⟩:=A1u h
 have:=Oh (ok:=Wy) (w:=En x) (k:=2) (v:=x.toNat) h3 (fun c t e=>by
  rw[e] at h1;simp only[List.all_cons,A7] at h1
  exact A57 h1.1) (fun r hr=>Aq1 h hr)
 rw[show((x.toNat:Nat):Int)=x by omega] at this
 exact this
theorem A4u {op:Int} (h:6≤op∧op≤14):Seg (fun r=>∃ t,r=32 :: t) (E7 op) [(3,E7 op,0)]:=by
 refine Oh ?_ ?_ (fun r hr=>by obtain⟨t,rfl⟩:=hr;exact Ao0 h t)
 ·rcases Wl op with h | h | h | h | h | h | h | h | h | h | h | h | h | h | h | h
  all_goals try omega
  all_goals subst h;decide
 ·rcases Wl op with h | h | h | h | h | h | h | h | h | h | h | h | h | h | h | h
  all_goals try omega
  all_goals subst h;intro c t e;obtain⟨rfl,_⟩:=List.cons.inj e;decide
theorem Anv:Seg (fun _=>True) [40] [(3,[40],0)]:=Oh (by simp) (fun c t e=>by obtain⟨rfl,_⟩:=List.cons.inj e;decide) (fun r _=>Ao8 r)
theorem Als:Seg (fun _=>True) [41] [(3,[41],0)]:=Oh (by simp) (fun c t e=>by obtain⟨rfl,_⟩:=List.cons.inj e;decide) (fun r _=>Amk r)
theorem Aru:Seg (fun _=>True) [46] [(3,[46],0)]:=Oh (by simp) (fun c t e=>by obtain⟨rfl,_⟩:=List.cons.inj e;decide) (fun r _=>Apy r)
theorem Aqd:Seg (fun r=>∀ t,r≠61 :: t) [33] [(3,[33],0)]:=Oh (by simp) (fun c t e=>by obtain⟨rfl,_⟩:=List.cons.inj e;decide) (fun r hr=>Aqc hr)
theorem Q7 {x:Nd} (h:Df x=true) (hk:1≤x.As∧x.As≤4) (h1:x.As≠1):C9 x.Ai=true∧(x.As=4→C9 x.D5=true):=by
 simp only[Df,A7] at h
 have h:=h.2
 rw[if_neg h1] at h
 by_cases c:x.As=2∨x.As=3
 ·rw[if_pos c] at h;simp only[A7] at h
  exact⟨h.2.1,fun e=>by omega⟩
 ·rw[if_neg c,if_pos (by omega)] at h;simp only[A7] at h
  exact⟨h.2.1,fun _=>h.2.2⟩
theorem Aji:∀ (t:Tr) (o:Bool),t.wf→J8 t.flat→∃ c u,Eg t o=c :: u∧c≠61:=by
 have hl:∀ {w:List UInt8},C9 w=true→∃ c u,w=c :: u∧c≠61:=by
  intro w h
  obtain⟨c,u,e,h2⟩:=A9o h
  refine⟨c,u,e,fun e=>?_⟩
  subst e;revert h2;decide
 intro t
 induction t with
 | leaf x =>
  intro o h hn
  have hk:=A3c.1 h
  have hx:=hn x (by simp[Tr.flat])
  rw[Eg]
  by_cases c1:x.As=1
  ·rw[if_pos c1]
   obtain⟨h1,h2,h3⟩:=A1u (Wn hx.1 c1)
   obtain⟨c,u,e⟩:=List.exists_cons_of_ne_nil h3
   refine⟨c,u,e,fun e2=>?_⟩
   rw[e,e2] at h1;simp only[List.all_cons,A7] at h1
   exact absurd h1.1 (by decide)
  ·obtain⟨n1,n2⟩:=Q7 hx.1 hk c1
   rw[if_neg c1]
   by_cases c4:x.As=4
   ·rw[if_pos c4]
    obtain⟨c,u,e,hc⟩:=hl (n2 c4)
    exact⟨c,u++[46]++x.Ai,by rw[e];simp,hc⟩
   ·rw[if_neg c4];exact hl n1
 | un x a ih=>intro o h hn;exact⟨33,Eg a true,rfl,by decide⟩
 | bin x a b iha ihb =>
  intro o h hn
  cases o with
  | true=>exact⟨40,_,rfl,by decide⟩
  | false =>
   obtain⟨c,u,e,hc⟩:=iha true h.2.1 (fun y hy=>hn y (by simp[Tr.flat,hy]))
   exact⟨c,u++([32]++E7 x.As++[32]++Eg b true),by rw[Eg,At,e];simp,hc⟩
theorem Anf:∀ (t:Tr) (o:Bool),t.wf→J8 t.flat→Seg OkE (Eg t o) (E3 t o):=by
 intro t
 induction t with
 | leaf x =>
  intro o h hn
  have hk:=A3c.1 h
  have hx:=hn x (by simp[Tr.flat])
  rw[Eg,E3]
  by_cases c1:x.As=1
  ·rw[if_pos c1,if_pos c1];exact Wv (A85 (Wn hx.1 c1)) fun r hr=>Vp hr
  ·obtain⟨n1,n2⟩:=Q7 hx.1 hk c1
   rw[if_neg c1,if_neg c1]
   by_cases c4:x.As=4
   ·rw[if_pos c4,if_pos c4]
    have:=Bc (Bc (Nu (n2 c4)) Aru (fun r _=>.inr ⟨46,r,rfl,by decide⟩)) (Wv (Nu n1) fun r hr=>Vp hr) (fun _ _=>trivial)
    simpa using this
   ·rw[if_neg c4,if_neg c4];exact Wv (Nu n1) fun r hr=>Vp hr
 | un x a ih =>
  intro o h hn
  have hna:J8 a.flat:=fun y hy=>hn y (by simp[Tr.flat,hy])
  obtain⟨c,u,e,hc⟩:=Aji a true h.2 hna
  exact Bc Aqd (ih true h.2 hna) (fun r _ t ht=>by
   rw[e] at ht;exact hc (List.cons.inj ht).1)
 | bin x a b iha ihb =>
  intro o h hn
  have h5:6≤x.As∧x.As≤14:=by have h1:=h.1;unfold Dy at h1;split at h1<;>(try split at h1)<;>(try split at h1)<;>omega
  have ha:=iha true h.2.1 (fun y hy=>hn y (by simp[Tr.flat,hy]))
  have hb:=ihb true h.2.2 (fun y hy=>hn y (by simp[Tr.flat,hy]))
  have mid:Seg OkE (E7 x.As++(32 :: Eg b true)) ((3,E7 x.As,0) :: E3 b true):=Bc (A4u h5) (Fz hb) (fun r _=>⟨_,rfl⟩)
  have all:=Bc ha (Fz mid) (fun r _=>.inr ⟨_,.inl rfl⟩)
  have e:Eg a true++32 :: (E7 x.As++32 :: Eg b true)=Eg a true++[32]++E7 x.As++[32]++Eg b true:=by simp
  rw[e] at all
  cases o with
  | false=>exact all
  | true =>
   have:=Bc Anv (Bc all Als (fun r _=>.inr ⟨r,.inr (.inl rfl)⟩)) (fun _ _=>trivial)
   exact Wv (by simpa [Eg,E3] using this) (fun _ _=>trivial)
theorem Aq3:@El=@Bu:=by
 funext n ops l a b c d k;induction k with
 | zero=>funext x y;rfl
 | succ k ih=>funext x y;rw[El,Bu,ih]
theorem Ara:@Eo=@Bu:=by
 funext n ops l a b c d k;induction k with
 | zero=>funext x y;rfl
 | succ k ih=>funext x y;rw[Eo,Bu,ih]
theorem Arf:@Em=@Bu:=by
 funext n ops l a b c d k;induction k with
 | zero=>funext x y;rfl
 | succ k ih=>funext x y;rw[Em,Bu,ih]
theorem Ars:@Et=@Bu:=by
 funext n ops l a b c d k;induction k with
 | zero=>funext x y;rfl
 | succ k ih=>funext x y;rw[Et,Bu,ih]
theorem Ard:@Fg=@Bd:=by
 funext n r ops l k;induction k with
 | zero=>funext a b c d e f;rfl
 | succ k ih=>funext a b c d e f;rw[Fg,Bd,ih,Aq3]
theorem Arg:@Fh=@Bd:=by
 funext n r ops l k;induction k with
 | zero=>funext a b c d e f;rfl
 | succ k ih=>funext a b c d e f;rw[Fh,Bd,ih,Ara]
theorem Aq5:@Ff=@Bd:=by
 funext n r ops l k;induction k with
 | zero=>funext a b c d e f;rfl
 | succ k ih=>funext a b c d e f;rw[Ff,Bd,ih,Arf]
theorem Arm:@Fi=@Bd:=by
 funext n r ops l k;induction k with
 | zero=>funext a b c d e f;rfl
 | succ k ih=>funext a b c d e f;rw[Fi,Bd,ih,Ars]
abbrev A7w:=List Nd×Int×Int×Int×Int
def Tb (n:Nat) (next:List A5→Int→Int→Int→Int→Option A7w) (once:Bool) (ops:List Int) (l:List A5) (i inn e at':Int):Option A7w :=
 (next l i inn e at').bind fun y1=>(Bd n next ops l n once y1.1 y1.2.1 y1.2.2.1 y1.2.2.2.1 y1.2.2.2.2).bind fun o16=>match o16 with | .out x=>some x | .ret v=>some v
theorem Auf (n:Nat) (l:List A5) (i inn e at':Int):D0 (n+2) l i inn e at'=Tb n (Da n) false [14] l i inn e at':=by
 rw[D0,N8]
 unfold Tb
 cases Da n l i inn e at' with
 | none=>rfl
 | some y1 =>
  simp only[A0]
  cases Bd n (Da n) [14] l n false y1.1 y1.2.1 y1.2.2.1 y1.2.2.2.1 y1.2.2.2.2 with
  | none=>rfl
  | some o=>cases o<;>rfl
theorem Ast (n:Nat) (l:List A5) (i inn e at':Int):Da (n+2) l i inn e at'=Tb n (Cm n) false [13] l i inn e at':=by
 rw[Da,Lr,Ard]
 unfold Tb
 cases Cm n l i inn e at' with
 | none=>rfl
 | some y1 =>
  simp only[A0]
  cases Bd n (Cm n) [13] l n false y1.1 y1.2.1 y1.2.2.1 y1.2.2.2.1 y1.2.2.2.2 with
  | none=>rfl
  | some o=>cases o<;>rfl
theorem Ahh (n:Nat) (l:List A5) (i inn e at':Int):Cm (n+2) l i inn e at'=Tb n (Do n) true [9,10,11,12] l i inn e at':=by
 rw[Cm,Ll,Arg]
 unfold Tb
 cases Do n l i inn e at' with
 | none=>rfl
 | some y1 =>
  simp only[A0]
  cases Bd n (Do n) [9,10,11,12] l n true y1.1 y1.2.1 y1.2.2.1 y1.2.2.2.1 y1.2.2.2.2 with
  | none=>rfl
  | some o=>cases o<;>rfl
theorem Atx (n:Nat) (l:List A5) (i inn e at':Int):Do (n+2) l i inn e at'=Tb n (Cq n) false [6,7] l i inn e at':=by
 rw[Do,Li,Aq5]
 unfold Tb
 cases Cq n l i inn e at' with
 | none=>rfl
 | some y1 =>
  simp only[A0]
  cases Bd n (Cq n) [6,7] l n false y1.1 y1.2.1 y1.2.2.1 y1.2.2.2.1 y1.2.2.2.2 with
  | none=>rfl
  | some o=>cases o<;>rfl
theorem Akj (n:Nat) (l:List A5) (i inn e at':Int):Cq (n+2) l i inn e at'=Tb n (Bq n) false [8] l i inn e at':=by
 rw[Cq,Lm,Arm]
 unfold Tb
 cases Bq n l i inn e at' with
 | none=>rfl
 | some y1 =>
  simp only[A0]
  cases Bd n (Bq n) [8] l n false y1.1 y1.2.1 y1.2.2.1 y1.2.2.2.1 y1.2.2.2.2 with
  | none=>rfl
  | some o=>cases o<;>rfl
def Bk (l:List A5) (i:Nat) (s:List UInt8):Bool:=match l[i]? with
 | some t=>t.A9==3&&t.Aa==s
 | none=>false
theorem T6 (n:Nat) (s:List UInt8) (l:List A5) (i:Nat) (a b c:Int):Cr (n+1) s l (i:Int) a b c=some (Bk l i s):=by
 rw[Cr,Bk]
 by_cases h:i < l.length
 ·rw[A6 (by omega),Cv h,Ar h]
  simp only[A0]
  cases (l[i].A9==3)<;>rfl
 ·rw[Ap (by omega),List.getElem?_eq_none (by omega)]
def G5 (l:List A5) (i:Nat) (ops:List Int):Int:=ops.foldl (fun acc op=>bif Bk l i (E7 op) then op else acc) 0
theorem A2y (n:Nat) (ops:List Int) (l:List A5) (i:Nat) (a b c:Int) (ho:∀ op ∈ ops,6≤op∧op≤14) (hl:ops.length≤4) {k:Nat} (hk:5 < k):Bu (n+1) ops l (i:Int) a b c k 0 0=some (.out (G5 l i ops)):=by
 refine Pz ops (fun k j acc=>Bu (n+1) ops l (i:Int) a b c k acc (j:Int)) (fun r acc=>some (.out (r.foldl (fun acc op=>bif Bk l i (E7 op) then op else acc) acc))) (fun _ _=>True) (s:=0) (by omega) trivial (fun k s _=>?_) (fun k j s x hj hx _ ih=>?_)
 ·rw[Bu,Ap (by omega)];rfl
 ·have hx6:=ho x (List.mem_of_getElem? hx)
  rw[Bu,A6 (by omega),Cz hx,A0,(A2k n (by omega)).1,A0,T6,A0,Bg j (by omega),List.foldl_cons]
  cases Bk l i (E7 x) with
  | true=>exact ih _ trivial
  | false=>exact ih _ trivial
theorem A7l (n:Nat) (x:Nd) (X Y:List Nd) (h:X.length+Y.length < 1000000) (hn:5 < n):D1 n x [X,Y]=some (x :: (X++Y)):=by
 obtain⟨n,rfl⟩:∃ j,n=j+5:=⟨n - 5,by omega⟩
 have e0:idx [X,Y] 0=some X:=rfl
 have e1:idx [X,Y] 1=some Y:=rfl
 have w1:IntKind.i64.wrap (0+1)=1:=by decide
 have w2:IntKind.i64.wrap (1+1)=2:=by decide
 rw[D1,Gg,A6 (by simp),e0,A0,A6 (by simp;omega),w1,Gg,A6 (by simp),e1,A0,A6 (by simp;omega),w2,Gg,Ap (by simp)]
 simp
theorem A7i (n:Nat) (x:Nd) (X:List Nd) (h:X.length < 1000000) (hn:5 < n):D1 n x [X]=some (x :: X):=by
 obtain⟨n,rfl⟩:∃ j,n=j+5:=⟨n - 5,by omega⟩
 have e0:idx [X] 0=some X:=rfl
 have w1:IntKind.i64.wrap (0+1)=1:=by decide
 rw[D1,Gg,A6 (by simp),e0,A0,A6 (by simp;omega),w1,Gg,Ap (by simp)]
 simp
theorem A83 (n:Nat) (x:Nd) (hn:5 < n):D1 n x []=some [x]:=by
 obtain⟨n,rfl⟩:∃ j,n=j+5:=⟨n - 5,by omega⟩
 rw[D1,Gg,Ap (by simp)];rfl
abbrev Tk:=A5
inductive PR where
 | ok (x:List Nd) (tu:Nat)
 | bad (e:Int) (a:Int)
def G7:Nat→List Int
 | 0=>[14]
 | 1=>[13]
 | 2=>[9,10,11,12]
 | 3=>[6,7]
 | _=>[8]
def Bj (l:List Tk) (i:Nat):Int:=match l[i]? with
 | some t=>t.Ao
 | none=>match l[l.length - 1]? with
   | some t=>IntKind.i64.wrap (t.Ao+((t.Aa.length:Nat):Int))
   | none=>0
def Gp (l:List Tk) (i:Nat):Int:=if i < l.length then 5 else 6
def Aos (l:List Tk) (i:Nat):PR:=.bad (Gp l i) (Bj l i)
def isN (l:List Tk) (i:Nat):Bool:=match l[i]? with
 | some t=>t.A9==1&&C9 t.Aa
 | none=>false
def isK (l:List Tk) (i:Nat):Bool:=match l[i]? with
 | some t=>t.A9==2
 | none=>false
inductive Md where
 | fl (f:Nat)
 | lp (f:Nat) (x:List Nd)
inductive PE (l:List Tk):Md→Nat→Nat→PR→Prop
 | deep {inn i:Nat} {t:Tk}:(Bk l i [33]=true∨Bk l i [40]=true)→30≤inn→l[i]?=some t→PE l (.fl 5) inn i (.bad 7 t.Ao)
 | not_ok {inn i tu:Nat} {t:Tk} {x:List Nd}:Bk l i [33]=true→inn < 30→l[i]?=some t→PE l (.fl 5) (inn+1) (i+1) (.ok x tu)→PE l (.fl 5) inn i (.ok (⟨5,0,[],[],t.Ao⟩ :: x) tu)
 | not_bad {inn i:Nat} {e a:Int}:Bk l i [33]=true→inn < 30→PE l (.fl 5) (inn+1) (i+1) (.bad e a)→PE l (.fl 5) inn i (.bad e a)
 | par_ok {inn i tu:Nat} {x:List Nd}:Bk l i [40]=true→inn < 30→PE l (.fl 0) (inn+1) (i+1) (.ok x tu)→Bk l tu [41]=true→PE l (.fl 5) inn i (.ok x (tu+1))
 | par_bad {inn i:Nat} {e a:Int}:Bk l i [40]=true→inn < 30→PE l (.fl 0) (inn+1) (i+1) (.bad e a)→PE l (.fl 5) inn i (.bad e a)
 | par_open {inn i tu:Nat} {x:List Nd}:Bk l i [40]=true→inn < 30→PE l (.fl 0) (inn+1) (i+1) (.ok x tu)→Bk l tu [41]=false→PE l (.fl 5) inn i (Aos l tu)
 | num {inn i:Nat} {t:Tk}:isK l i=true→l[i]?=some t→PE l (.fl 5) inn i (.ok [⟨1,t.Bs,[],[],t.Ao⟩] (i+1))
 | reg {inn i:Nat} {t:Tk}:isN l i=true→Bk l (i+1) [46]=false→l[i]?=some t→PE l (.fl 5) inn i (.ok [⟨2,0,t.Aa,[],t.Ao⟩] (i+1))
 | of {inn i:Nat} {t u:Tk}:isN l i=true→Bk l (i+1) [46]=true→isN l (i+2)=true→l[i]?=some t→l[i+2]?=some u→PE l (.fl 5) inn i (.ok [⟨4,0,u.Aa,t.Aa,t.Ao⟩] (i+3))
 | of_bad {inn i:Nat}:isN l i=true→Bk l (i+1) [46]=true→isN l (i+2)=false→PE l (.fl 5) inn i (Aos l (i+2))
 | no {inn i:Nat}:Bk l i [33]=false→Bk l i [40]=false→isK l i=false→isN l i=false→PE l (.fl 5) inn i (Aos l i)
 | fl_bad {f inn i:Nat} {e a:Int}:f < 5→PE l (.fl (f+1)) inn i (.bad e a)→PE l (.fl f) inn i (.bad e a)
 | fl_ok {f inn i tu:Nat} {x:List Nd} {r:PR}:f < 5→PE l (.fl (f+1)) inn i (.ok x tu)→PE l (.lp f x) inn tu r→PE l (.fl f) inn i r
 | lp_stop {f inn i:Nat} {x:List Nd}:G5 l i (G7 f)=0→PE l (.lp f x) inn i (.ok x i)
 | lp_bad {f inn i:Nat} {x:List Nd} {e a:Int}:f < 5→G5 l i (G7 f)≠0→PE l (.fl (f+1)) inn (i+1) (.bad e a)→PE l (.lp f x) inn i (.bad e a)
 | lp_once {inn i tu:Nat} {x y:List Nd} {t:Tk}:G5 l i (G7 2)≠0→l[i]?=some t→PE l (.fl 3) inn (i+1) (.ok y tu)→PE l (.lp 2 x) inn i (.ok (⟨G5 l i (G7 2),0,[],[],t.Ao⟩ :: (x++y)) tu)
 | lp_go {f inn i tu:Nat} {x y:List Nd} {t:Tk} {r:PR}:f < 5→f≠2→G5 l i (G7 f)≠0→l[i]?=some t→PE l (.fl (f+1)) inn (i+1) (.ok y tu)→PE l (.lp f (⟨G5 l i (G7 f),0,[],[],t.Ao⟩ :: (x++y))) inn tu r→PE l (.lp f x) inn i r
theorem Dn {l:List Tk} {i:Nat} {s:List UInt8} (h:Bk l i s=true):i < l.length:=by
 unfold Bk at h
 cases hg:l[i]? with
 | none=>rw[hg] at h;cases h
 | some t=>exact(List.getElem?_eq_some_iff.1 hg).1
theorem Ue {l:List Tk} {i:Nat} (h:isN l i=true):i < l.length:=by
 unfold isN at h
 cases hg:l[i]? with
 | none=>rw[hg] at h;cases h
 | some t=>exact(List.getElem?_eq_some_iff.1 hg).1
theorem M2 {l:List Tk} {i:Nat} {t:Tk} (h:l[i]?=some t):i < l.length:=(List.getElem?_eq_some_iff.1 h).1
theorem Ah7 {l:List Tk} {i:Nat}:∀ {ops:List Int} {a:Int},ops.foldl (fun acc op=>bif Bk l i (E7 op) then op else acc) a≠a→∃ op ∈ ops,Bk l i (E7 op)=true:=by
 intro ops
 induction ops with
 | nil=>intro a h;exact absurd rfl h
 | cons op ops ih =>
  intro a h
  cases hs:Bk l i (E7 op) with
  | true=>exact⟨op,List.mem_cons_self ..,hs⟩
  | false =>
   rw[List.foldl_cons,hs] at h
   obtain⟨o,ho,hh⟩:=ih h
   exact⟨o,List.mem_cons_of_mem _ ho,hh⟩
theorem Pv {l:List Tk} {i:Nat} {ops:List Int} (h:G5 l i ops≠0):i < l.length:=by
 obtain⟨op,_,hh⟩:=Ah7 h
 exact Dn hh
theorem Amp {l:List Tk} {i:Nat}:∀ {ops:List Int} {a:Int},ops.foldl (fun acc op=>bif Bk l i (E7 op) then op else acc) a=a∨ops.foldl (fun acc op=>bif Bk l i (E7 op) then op else acc) a ∈ ops:=by
 intro ops
 induction ops with
 | nil=>intro a;exact .inl rfl
 | cons op ops ih =>
  intro a
  rw[List.foldl_cons]
  cases Bk l i (E7 op) with
  | true =>
   rcases ih (a:=op) with h | h
   ·right;rw[Ab,h];exact List.mem_cons_self ..
   ·right;exact List.mem_cons_of_mem _ h
  | false =>
   rcases ih (a:=a) with h | h
   ·left;exact h
   ·right;exact List.mem_cons_of_mem _ h
theorem Jr {l:List Tk} {md:Md} {inn i:Nat} {r:PR} (h:PE l md inn i r):i≤l.length→match md,r with
 | .fl _,.ok x tu=>i < tu∧tu≤l.length∧x.length≤tu - i∧1≤x.length
 | .lp _ x0,.ok x tu=>i≤tu∧tu≤l.length∧x.length≤x0.length+(tu - i)∧x0.length≤x.length
 | _,.bad e _=>e≠0:=by
 induction h with
 | deep h1 h2 h3=>intro _;show(7:Int)≠0;decide
 | not_ok h1 h2 h3 h4 ih=>intro _;have:=ih (by have:=Dn h1;omega);have:=Dn h1;dsimp only at *;simp only[List.length_cons];omega
 | not_bad h1 h2 h4 ih=>intro _;exact ih (by have:=Dn h1;omega)
 | par_ok h1 h2 h3 h4 ih=>intro _;have:=ih (by have:=Dn h1;omega);have:=Dn h1;have:=Dn h4;dsimp only at *;omega
 | par_bad h1 h2 h4 ih=>intro _;exact ih (by have:=Dn h1;omega)
 | par_open h1 h2 h3 h4 ih=>intro _;show Gp _ _≠0;unfold Gp;split<;>decide
 | num h1 h2=>intro _;have:=M2 h2;dsimp only;simp;omega
 | reg h1 h2 h3=>intro _;have:=M2 h3;dsimp only;simp;omega
 | of h1 h2 h3 h4 h5=>intro _;have:=M2 h5;dsimp only;simp;omega
 | of_bad h1 h2 h3=>intro _;show Gp _ _≠0;unfold Gp;split<;>decide
 | no h1 h2 h3 h4=>intro _;show Gp _ _≠0;unfold Gp;split<;>decide
 | fl_bad h1 h2 ih=>intro hi;exact ih hi
 | @fl_ok f inn i tu x r h1 h2 h3 ih1 ih2 =>
  intro hi;have:=ih1 hi;dsimp only at this;have h:=ih2 (by omega)
  cases r with
  | ok y to2=>dsimp only at h ⊢;omega
  | bad e a=>exact h
 | lp_stop h1=>intro hi;dsimp only;omega
 | lp_bad h1 h2 h3 ih=>intro hi;exact ih (by have:=Pv h2;omega)
 | lp_once h1 h2 h3 ih=>intro hi;have:=ih (by have:=Pv h1;omega);have:=Pv h1;dsimp only at *;simp only[List.length_cons,List.length_append];omega
 | @lp_go f inn i tu x y t r h1 h2 h3 h4 h5 h6 ih1 ih2 =>
  intro hi;have:=ih1 (by have:=Pv h3;omega);dsimp only at this;have h:=ih2 (by omega)
  cases r with
  | ok y to2=>dsimp only at h ⊢;simp only[List.length_cons,List.length_append] at h;omega
  | bad e a=>exact h
def flM:Nat→Nat→List Tk→Int→Int→Int→Int→Option A7w
 | 0,n=>D0 n
 | 1,n=>Da n
 | 2,n=>Cm n
 | 3,n=>Do n
 | 4,n=>Cq n
 | _,n=>Bq n
theorem Afy {f n:Nat} (hf:f < 5) (l:List Tk) (i inn e a:Int):flM f (n+2) l i inn e a=Tb n (flM (f+1) n) (f==2) (G7 f) l i inn e a:=by
 match f,hf with
 | 0,_=>exact Auf n l i inn e a
 | 1,_=>exact Ast n l i inn e a
 | 2,_=>exact Ahh n l i inn e a
 | 3,_=>exact Atx n l i inn e a
 | 4,_=>exact Akj n l i inn e a
theorem Qj (f:Nat):(∀ op ∈ G7 f,6≤op∧op≤14)∧(G7 f).length≤4:=by
 match f with
 | 0=>exact⟨by decide,by decide⟩
 | 1=>exact⟨by decide,by decide⟩
 | 2=>exact⟨by decide,by decide⟩
 | 3=>exact⟨by decide,by decide⟩
 | _+4=>exact⟨by simp[G7],by simp[G7]⟩
theorem A8l (n:Nat) (l:List Tk) (i:Nat) (inn:Int) (hl:l.length < 1000000):Cc (n+1) 5 l (i:Int) inn 0 0=some ([],Gp l i,Bj l i):=by
 rw[Cc,Gp,Bj]
 by_cases h:i < l.length
 ·rw[if_pos h,A6 (by omega),Cv h,Ar h];rfl
 ·rw[if_neg h,Ap (by omega),List.getElem?_eq_none (by omega)]
  by_cases h0:0 < l.length
  ·have hx:l[l.length - 1]?=some l[l.length - 1]:=Ar (by omega)
   rw[A6 (by omega),Dd (by omega),show(l.length:Int) - 1=((l.length - 1:Nat):Int) by omega,Cz hx,hx];rfl
  ·rw[Ap (by omega),List.getElem?_eq_none (by omega)];rfl
theorem Ah0 (n:Nat) (l:List Tk) (i:Nat) (inn:Int) {t:Tk} (h:l[i]?=some t):Cc (n+1) 7 l (i:Int) inn 0 0=some ([],7,t.Ao):=by
 have:=M2 h
 rw[Cc,A6 (show(i:Int) < (l.length:Int) by omega),Cz h];rfl
theorem Akp (n:Nat) (l:List Tk) (i:Nat) (inn:Int) (hl:l.length < 1000000):Db (n+2) l (i:Int) inn 0 0=match isN l i,l[i]? with
 | true,some t=>some (t.Aa,t.Ao,true,((i+1:Nat):Int))
 | _,_=>some ([],0,false,(i:Int)):=by
 rw[Db,isN]
 by_cases h:i < l.length
 ·rw[Ap (by omega),Cv h,Ar h]
  simp only[A0,Dg,Bg i (show i < 4611686018427387904 by omega)]
  cases hk:(l[i].A9==1) with
  | false =>
   rw[show(l[i].A9 != 1)=true by simp only[bne,hk];rfl];rfl
  | true =>
   rw[show(l[i].A9 != 1)=false by simp only[bne,hk];rfl]
   cases C9 l[i].Aa<;>rfl
 ·rw[A6 (by omega),List.getElem?_eq_none (by omega)]
theorem A8n {l:List Tk} {i:Nat} (h:isN l i=true):∃ t,l[i]?=some t:=⟨_,Ar (Ue h)⟩
theorem Xp {n:Nat} {l:List Tk} {i:Nat} {inn:Int} {t:Tk} (hl:l.length < 1000000) (h:isN l i=true) (ht:l[i]?=some t):Db (n+2) l (i:Int) inn 0 0=some (t.Aa,t.Ao,true,((i+1:Nat):Int)):=by
 rw[Akp n l i inn hl,h,ht]
theorem Aeg {n:Nat} {l:List Tk} {i:Nat} {inn:Int} (hl:l.length < 1000000) (h:isN l i=false):Db (n+2) l (i:Int) inn 0 0=some ([],0,false,(i:Int)):=by
 rw[Akp n l i inn hl,h]
theorem Aly {l:List Tk} {i:Nat} {s:List UInt8} (h:Bk l i s=true):∃ t,l[i]?=some t∧t.A9=3∧t.Aa=s:=by
 unfold Bk at h
 cases hg:l[i]? with
 | none=>rw[hg] at h;cases h
 | some t=>rw[hg] at h;simp only[A7,beq_iff_eq] at h;exact⟨t,rfl,h⟩
theorem Ape {l:List Tk} {i:Nat} {s s':List UInt8} (h:Bk l i s=true) (hs:s≠s'):Bk l i s'=false:=by
 obtain⟨t,ht,_,h2⟩:=Aly h
 simp only[Bk,ht,h2];simp[hs]
def Avc (l:List Tk) (inn i:Nat) (r:PR) (o:Option A7w):Prop:=match r with
 | .ok x tu=>o=some (x,(tu:Int),(inn:Int),0,0)
 | .bad e a=>∃ (X:List Nd) (i':Nat) (j:Int),o=some (X,(i':Int),j,e,a)∧X.length+i≤i'+1∧i'+inn≤l.length+31
def Av6 (l:List Tk) (inn i:Nat) (x:List Nd) (r:PR) (o:Option (LR A7w A7w)):Prop:=match r with
 | .ok y tu=>o=some (.out (y,(tu:Int),(inn:Int),0,0))
 | .bad e a=>∃ (X:List Nd) (i':Nat) (j:Int),o=some (.out (X,(i':Int),j,e,a))∧X.length+i≤x.length+i'+1∧i'+inn≤l.length+31
def Imp (l:List Tk) (inn i:Nat) (r:PR):Md→Prop
 | .fl f=>∀ n,12*(l.length - i)+2*(5 - f)+40≤n→Avc l inn i r (flM f n l (i:Int) (inn:Int) 0 0)
 | .lp f x=>∀ n k,f < 5→x.length≤i→12*(l.length - i)+2*(5 - (f+1))+40≤n→l.length - i < k→Av6 l inn i x r (Bd n (flM (f+1) n) (G7 f) l k (f==2) x (i:Int) (inn:Int) 0 0)
theorem A0q {n:Nat} {l:List Tk} {i:Nat} {inn:Int} {t:Tk} (h:Bk l i [33]=true) (ht:l[i]?=some t) :
 Bq (n+2) l (i:Int) inn 0 0=(F4 (n+1) l (i:Int) inn 0 0).bind fun y=>(D1 (n+1) ⟨5,0,[],[],t.Ao⟩ [y.1]).bind fun z=>some (z,y.2.1,y.2.2.1,y.2.2.2.1,y.2.2.2.2):=by
 rw[Bq,T6,h]
 simp only[bne_self_eq_false,At,A0,Ab,Cz ht]
theorem Vf {n:Nat} {l:List Tk} {i:Nat} {inn:Int} (h:Bk l i [40]=true) :
 Bq (n+2) l (i:Int) inn 0 0=(Ec (n+1) l (i:Int) inn 0 0).bind fun y=>bif y.2.2.2.1==0 then(Cr (n+1) [41] l y.2.1 y.2.2.1 y.2.2.2.1 y.2.2.2.2).bind fun z=>bif z then some (y.1,IntKind.i64.wrap (y.2.1+1),y.2.2.1,y.2.2.2.1,y.2.2.2.2) else(Cc (n+1) 5 l y.2.1 y.2.2.1 y.2.2.2.1 y.2.2.2.2).bind fun w=>some (w.1,y.2.1,y.2.2.1,w.2.1,w.2.2) else some (y.1,IntKind.i64.wrap (y.2.1+1),y.2.2.1,y.2.2.2.1,y.2.2.2.2):=by
 have h0:Bk l i [33]=false:=Ape h (by decide)
 rw[Bq,T6,h0,T6,h]
 simp only[bne_self_eq_false,At,A0,Ab]
theorem A6h {n:Nat} {l:List Tk} {i:Nat} {inn:Nat} {t:Tk} (h:30≤inn) (ht:l[i]?=some t):F4 (n+2) l (i:Int) (inn:Int) 0 0=some ([],(i:Int),(inn:Int),7,t.Ao)∧Ec (n+2) l (i:Int) (inn:Int) 0 0=some ([],(i:Int),(inn:Int),7,t.Ao):=by
 constructor
 ·rw[F4,A6 (by omega),Ah0 n l i inn ht];rfl
 ·rw[Ec,A6 (by omega),Ah0 n l i inn ht];rfl
theorem Wx {n:Nat} {l:List Tk} {i:Nat} {inn:Nat} (h:inn < 30) (hi:i < l.length) (hl:l.length < 1000000):F4 (n+1) l (i:Int) (inn:Int) 0 0=((Bq n l ((i+1:Nat):Int) ((inn+1:Nat):Int) 0 0).bind fun y=>some (y.1,y.2.1,IntKind.i64.wrap (y.2.2.1 - 1),y.2.2.2.1,y.2.2.2.2))∧Ec (n+1) l (i:Int) (inn:Int) 0 0=((D0 n l ((i+1:Nat):Int) ((inn+1:Nat):Int) 0 0).bind fun y=>some (y.1,y.2.1,IntKind.i64.wrap (y.2.2.1 - 1),y.2.2.2.1,y.2.2.2.2)):=by
 constructor
 ·rw[F4,Ap (by omega),Bg i (by omega),Bg inn (by omega)]
 ·rw[Ec,Ap (by omega),Bg i (by omega),Bg inn (by omega)]
theorem A9e (j:Nat) (h:j < 1000):IntKind.i64.wrap (((j+1:Nat):Int) - 1)=(j:Int):=by
 rw[Dd (by omega)];omega
theorem U1 {n:Nat} {l:List Tk} {i:Nat} {inn:Int} (h1:Bk l i [33]=false) (h2:Bk l i [40]=false) (h3:isK l i=false) (hl:l.length < 1000000) :
 Bq (n+3) l (i:Int) inn 0 0=(Db (n+2) l (i:Int) inn 0 0).bind fun y=>bif y.2.2.1 then(Cr (n+2) [46] l y.2.2.2 inn 0 0).bind fun z=>bif z then(Db (n+2) l (IntKind.i64.wrap (y.2.2.2+1)) inn 0 0).bind fun w=>bif w.2.2.1 then(D1 (n+2) ⟨4,0,w.1,y.1,y.2.1⟩ []).bind fun v=>some (v,w.2.2.2,inn,0,0) else(Cc (n+2) 5 l w.2.2.2 inn 0 0).bind fun v=>some (v.1,w.2.2.2,inn,v.2.1,v.2.2) else(D1 (n+2) ⟨2,0,y.1,[],y.2.1⟩ []).bind fun v=>some (v,y.2.2.2,inn,0,0) else(Cc (n+2) 5 l y.2.2.2 inn 0 0).bind fun v=>some (v.1,y.2.2.2,inn,v.2.1,v.2.2):=by
 rw[Bq,T6,h1,T6,h2]
 simp only[bne_self_eq_false,At,A0]
 by_cases h:i < l.length
 ·have hk:(l[i].A9==2)=false:=by rw[isK,Ar h] at h3;exact h3
  rw[A6 (by omega),Cv h,A0,hk,At]
 ·rw[Ap (by omega)]
theorem Ail {n:Nat} {l:List Tk} {i:Nat} {inn:Int} {t:Tk} (h3:isK l i=true) (ht:l[i]?=some t) (hl:l.length < 1000000):Bq (n+10) l (i:Int) inn 0 0=some ([⟨1,t.Bs,[],[],t.Ao⟩],((i+1:Nat):Int),inn,0,0):=by
 have hk:t.A9=2:=by simpa [isK,ht] using h3
 have h1:Bk l i [33]=false:=by simp[Bk,ht,hk]
 have h2:Bk l i [40]=false:=by simp[Bk,ht,hk]
 have h:=M2 ht
 rw[Bq,T6,h1,T6,h2]
 simp only[bne_self_eq_false,At,A0,Cz ht,hk,beq_self_eq_true,Ab,A83 (n+9) _ (by omega),Bg i (show i < 4611686018427387904 by omega)]
 rw[A6 (by omega)]
theorem X1 (n:Nat):flM 5 n=Bq n:=rfl
theorem Ahs (n:Nat):flM 0 n=D0 n:=rfl
theorem Ru {l:List Tk} {i:Nat} (h:isN l i=true) (s:List UInt8):Bk l i s=false:=by
 obtain⟨t,ht⟩:=A8n h
 simp only[isN,ht,A7,beq_iff_eq] at h
 simp[Bk,ht,h.1]
theorem A4n {l:List Tk} {i:Nat} (h:isN l i=true):isK l i=false:=by
 obtain⟨t,ht⟩:=A8n h
 simp only[isN,ht,A7,beq_iff_eq] at h
 simp[isK,ht,h.1]
theorem Ahn {l:List Tk} (hl:l.length < 100000) {md:Md} {inn i:Nat} {r:PR} (h:PE l md inn i r):i≤l.length→inn≤30→Imp l inn i r md:=by
 induction h with
 | @deep inn i t h1 h2 h3 =>
  intro hi hn n hf
  have hlt:=M2 h3
  obtain⟨n,rfl⟩:∃ j,n=j+10:=⟨n - 10,by omega⟩
  rw[X1]
  rcases h1 with h1 | h1
  ·rw[A0q h1 h3,(A6h (n:=n+7) h2 h3).1,A0,A7i (n+9) _ _ (by simp) (by omega),A0]
   exact⟨_,_,_,rfl,by simp;omega,by omega⟩
  ·rw[Vf h1,(A6h (n:=n+7) h2 h3).2,A0,show((7:Int)==0)=false from rfl,At,Bg i (by omega)]
   exact⟨_,_,_,rfl,by simp;omega,by omega⟩
 | @not_ok inn i tu t x h1 h2 h3 h4 ih =>
  intro hi hn n hf
  have hlt:=M2 h3
  have hx:=Jr h4 (by omega);dsimp only at hx
  obtain⟨n,rfl⟩:∃ j,n=j+10:=⟨n - 10,by omega⟩
  have e:flM 5 (n+8) l ((i+1:Nat):Int) ((inn+1:Nat):Int) 0 0=_:=ih (by omega) (by omega) (n+8) (by omega)
  rw[X1] at e ⊢
  rw[A0q h1 h3,(Wx (n:=n+8) h2 hlt (by omega)).1,e,Option.bind_some,Option.bind_some,A7i (n+9) _ _ (by dsimp only;omega) (by omega),Option.bind_some]
  dsimp only
  rw[A9e _ (by omega)];rfl
 | @not_bad inn i e a h1 h2 h4 ih =>
  intro hi hn n hf
  have hlt:=Dn h1
  obtain⟨n,rfl⟩:∃ j,n=j+10:=⟨n - 10,by omega⟩
  obtain⟨X,i',j,e,e1,e2⟩:=ih (by omega) (by omega) (n+8) (by omega)
  rw[X1] at e ⊢
  rw[A0q h1 (List.getElem?_eq_getElem hlt),(Wx (n:=n+8) h2 hlt (by omega)).1,e,Option.bind_some,Option.bind_some,A7i (n+9) _ _ (by dsimp only;omega) (by omega),Option.bind_some]
  exact⟨_,i',_,rfl,by simp;omega,by omega⟩
 | @par_ok inn i tu x h1 h2 h3 h4 ih =>
  intro hi hn n hf
  have hlt:=Dn h1
  have hx:=Jr h3 (by omega);dsimp only at hx
  obtain⟨n,rfl⟩:∃ j,n=j+10:=⟨n - 10,by omega⟩
  have e:flM 0 (n+8) l ((i+1:Nat):Int) ((inn+1:Nat):Int) 0 0=_:=ih (by omega) (by omega) (n+8) (by omega)
  rw[Ahs] at e
  rw[X1,Vf h1,(Wx (n:=n+8) h2 hlt (by omega)).2,e,A0,A0]
  dsimp only
  rw[beq_self_eq_true,Ab,T6,h4,A0,Ab,Bg tu (by omega),A9e _ (by omega)];rfl
 | @par_bad inn i e a h1 h2 h3 ih =>
  intro hi hn n hf
  have hlt:=Dn h1
  have hx:=Jr h3 (by omega);dsimp only at hx
  obtain⟨n,rfl⟩:∃ j,n=j+10:=⟨n - 10,by omega⟩
  obtain⟨X,i',j,e,e1,e2⟩:=ih (by omega) (by omega) (n+8) (by omega)
  rw[Ahs] at e
  rw[X1,Vf h1,(Wx (n:=n+8) h2 hlt (by omega)).2,e,A0,A0]
  dsimp only
  rw[C8.2 hx,At,Bg i' (by omega)]
  exact⟨_,_,_,rfl,by omega,by omega⟩
 | @par_open inn i tu x h1 h2 h3 h4 ih =>
  intro hi hn n hf
  have hlt:=Dn h1
  have hx:=Jr h3 (by omega);dsimp only at hx
  obtain⟨n,rfl⟩:∃ j,n=j+10:=⟨n - 10,by omega⟩
  have e:flM 0 (n+8) l ((i+1:Nat):Int) ((inn+1:Nat):Int) 0 0=_:=ih (by omega) (by omega) (n+8) (by omega)
  rw[Ahs] at e
  rw[X1,Vf h1,(Wx (n:=n+8) h2 hlt (by omega)).2,e,A0,A0]
  dsimp only
  rw[beq_self_eq_true,Ab,T6,h4,A0,At,A8l _ _ _ _ (by omega),A0]
  exact⟨_,_,_,rfl,by simp;omega,by omega⟩
 | @num inn i t h1 h2 =>
  intro hi hn n hf
  obtain⟨n,rfl⟩:∃ j,n=j+10:=⟨n - 10,by omega⟩
  rw[X1,Ail h1 h2 (by omega)];rfl
 | @reg inn i t h1 h2 h3 =>
  intro hi hn n hf
  have hlt:=M2 h3
  obtain⟨n,rfl⟩:∃ j,n=j+10:=⟨n - 10,by omega⟩
  rw[X1,U1 (n:=n+7) (Ru h1 _) (Ru h1 _) (A4n h1) (by omega),Xp (n:=n+7) (by omega) h1 h3,A0]
  dsimp only
  rw[Ab,T6,h2,A0,At,A83 _ _ (by omega),A0];rfl
 | @of inn i t u h1 h2 h3 h4 h5 =>
  intro hi hn n hf
  have hlt:=M2 h5
  obtain⟨n,rfl⟩:∃ j,n=j+10:=⟨n - 10,by omega⟩
  rw[X1,U1 (n:=n+7) (Ru h1 _) (Ru h1 _) (A4n h1) (by omega),Xp (n:=n+7) (by omega) h1 h4,A0]
  dsimp only
  rw[Ab,T6,h2,A0,Ab,Bg (i+1) (by omega),Xp (n:=n+7) (by omega) h3 h5,A0]
  dsimp only
  rw[Ab,A83 _ _ (by omega),A0];rfl
 | @of_bad inn i h1 h2 h3 =>
  intro hi hn n hf
  have hlt:=Dn h2
  obtain⟨n,rfl⟩:∃ j,n=j+10:=⟨n - 10,by omega⟩
  obtain⟨t,h4⟩:=A8n h1
  rw[X1,U1 (n:=n+7) (Ru h1 _) (Ru h1 _) (A4n h1) (by omega),Xp (n:=n+7) (by omega) h1 h4,A0]
  dsimp only
  rw[Ab,T6,h2,A0,Ab,Bg (i+1) (by omega),Aeg (n:=n+7) (by omega) h3,A0]
  dsimp only
  rw[At,A8l _ _ _ _ (by omega),A0]
  exact⟨_,_,_,rfl,by simp;omega,by omega⟩
 | @no inn i h1 h2 h3 h4 =>
  intro hi hn n hf
  obtain⟨n,rfl⟩:∃ j,n=j+10:=⟨n - 10,by omega⟩
  rw[X1,U1 (n:=n+7) h1 h2 h3 (by omega),Aeg (n:=n+7) (by omega) h4,A0]
  dsimp only
  rw[At,A8l _ _ _ _ (by omega),A0]
  exact⟨_,_,_,rfl,by simp,by omega⟩
 | @fl_bad f inn i ee a h1 h2 ih =>
  intro hi hn n hf
  have he:=Jr h2 hi;dsimp only at he
  obtain⟨n,rfl⟩:∃ j,n=j+2:=⟨n - 2,by omega⟩
  obtain⟨X,i',j,e,e1,e2⟩:=ih hi hn n (by omega)
  obtain⟨k,hk⟩:∃ k,n=k+1:=⟨n - 1,by omega⟩
  rw[Afy h1,Tb,e,A0]
  dsimp only
  have:Bd n (flM (f+1) n) (G7 f) l n (f==2) X (i':Int) j ee a=some (.out (X,(i':Int),j,ee,a)):=by
   rw[show Bd n (flM (f+1) n) (G7 f) l n=Bd n (flM (f+1) n) (G7 f) l (k+1) by rw[← hk],Bd,C8.2 he,At]
  rw[this]
  exact⟨_,_,_,rfl,e1,e2⟩
 | @fl_ok f inn i tu x r h1 h2 h3 ih1 ih2 =>
  intro hi hn n hf
  have hx:=Jr h2 hi;dsimp only at hx
  obtain⟨n,rfl⟩:∃ j,n=j+2:=⟨n - 2,by omega⟩
  have e:flM (f+1) n l (i:Int) (inn:Int) 0 0=_:=ih1 hi hn n (by omega)
  have e2:=ih2 (by omega) hn n n h1 (by omega) (by omega) (by omega)
  rw[Afy h1,Tb,e,A0]
  dsimp only
  cases r with
  | ok y to2=>rw[show Bd n (flM (f+1) n) (G7 f) l n (f==2) x (tu:Int) (inn:Int) 0 0=_ from e2];rfl
  | bad e' a =>
   obtain⟨X,i',j,e2,e3,e4⟩:=e2
   rw[e2]
   exact⟨_,_,_,rfl,by omega,e4⟩
 | @lp_stop f inn i x h1 =>
  intro hi hn n k h5 hx hf hk
  obtain⟨k,rfl⟩:∃ j,k=j+1:=⟨k - 1,by omega⟩
  obtain⟨m,hm⟩:∃ j,n=j+1:=⟨n - 1,by omega⟩
  rw[Bd,beq_self_eq_true,Ab]
  have hL:Bu n (G7 f) l (i:Int) (inn:Int) 0 0 n 0 0=some (.out (G5 l i (G7 f))):=by
   rw[hm];exact A2y m _ l i _ _ _ (Qj f).1 (Qj f).2 (by omega)
  rw[hL,A0]
  dsimp only
  rw[h1,beq_self_eq_true,Ab];rfl
 | @lp_bad f inn i x e a h1 h2 h3 ih =>
  intro hi hn n k h5 hx hf hk
  have hlt:=Pv h2
  have he:=Jr h3 (by omega);dsimp only at he
  obtain⟨k,rfl⟩:∃ j,k=j+2:=⟨k - 2,by omega⟩
  obtain⟨m,hm⟩:∃ j,n=j+1:=⟨n - 1,by omega⟩
  obtain⟨X,i',j,e0,e1,e2⟩:=ih (by omega) hn n (by omega)
  have hL:Bu n (G7 f) l (i:Int) (inn:Int) 0 0 n 0 0=some (.out (G5 l i (G7 f))):=by
   rw[hm];exact A2y m _ l i _ _ _ (Qj f).1 (Qj f).2 (by omega)
  rw[Bd,beq_self_eq_true,Ab,hL,A0]
  dsimp only
  rw[beq_eq_false_iff_ne.2 h2,cond_false,Cv hlt,Option.bind_some,Bg i (by omega),e0,Option.bind_some,A7l n _ _ _ (by dsimp only;omega) (by omega),Option.bind_some]
  dsimp only
  cases f==2 with
  | true=>exact⟨_,_,_,rfl,by simp;omega,e2⟩
  | false =>
   rw[At,Bd,C8.2 he,At]
   exact⟨_,_,_,rfl,by simp;omega,e2⟩
 | @lp_once inn i tu x y t h1 h2 h3 ih =>
  intro hi hn n k h5 hx hf hk
  have hlt:=Pv h1
  have he:=Jr h3 (by omega);dsimp only at he
  obtain⟨k,rfl⟩:∃ j,k=j+2:=⟨k - 2,by omega⟩
  obtain⟨m,hm⟩:∃ j,n=j+1:=⟨n - 1,by omega⟩
  have e0:flM 3 n l ((i+1:Nat):Int) (inn:Int) 0 0=_:=ih (by omega) hn n (by omega)
  have hL:Bu n (G7 2) l (i:Int) (inn:Int) 0 0 n 0 0=some (.out (G5 l i (G7 2))):=by
   rw[hm];exact A2y m _ l i _ _ _ (Qj 2).1 (Qj 2).2 (by omega)
  rw[Bd,beq_self_eq_true,Ab,hL,A0]
  dsimp only
  rw[beq_eq_false_iff_ne.2 h1,cond_false,Cz h2,Option.bind_some,Bg i (by omega),e0,Option.bind_some,A7l n _ _ _ (by dsimp only;omega) (by omega),Option.bind_some]
  rfl
 | @lp_go f inn i tu x y t r h1 h2 h3 h4 h5 h6 ih1 ih2 =>
  intro hi hn n k h7 hx hf hk
  have hlt:=Pv h3
  have he:=Jr h5 (by omega);dsimp only at he
  obtain⟨k,rfl⟩:∃ j,k=j+1:=⟨k - 1,by omega⟩
  obtain⟨m,hm⟩:∃ j,n=j+1:=⟨n - 1,by omega⟩
  have e0:flM (f+1) n l ((i+1:Nat):Int) (inn:Int) 0 0=_:=ih1 (by omega) hn n (by omega)
  have e1:=ih2 (by omega) hn n k h7 (by simp;omega) (by omega) (by omega)
  have hL:Bu n (G7 f) l (i:Int) (inn:Int) 0 0 n 0 0=some (.out (G5 l i (G7 f))):=by
   rw[hm];exact A2y m _ l i _ _ _ (Qj f).1 (Qj f).2 (by omega)
  have hf2:(f==2)=false:=C8.2 h2
  rw[hf2] at e1 ⊢
  rw[Bd,beq_self_eq_true,Ab,hL,A0]
  dsimp only
  rw[beq_eq_false_iff_ne.2 h3,cond_false,Cz h4,Option.bind_some,Bg i (by omega),e0,Option.bind_some,A7l n _ _ _ (by dsimp only;omega) (by omega),Option.bind_some]
  dsimp only
  rw[At]
  cases r with
  | ok y to2=>exact e1
  | bad e' a =>
   obtain⟨X,i',j,e2,e3,e4⟩:=e1
   simp only[List.length_cons,List.length_append] at e3
   exact⟨_,_,_,e2,by omega,e4⟩
theorem Anp {l:List Tk} {f inn:Nat} (hf:f < 5) (j:Nat) (h:∀ i,j < i→i≤l.length→∃ r,PE l (.fl (f+1)) inn i r):∀ (m i:Nat) (x:List Nd),l.length - i≤m→j≤i→i≤l.length→∃ r,PE l (.lp f x) inn i r:=by
 intro m
 induction m with
 | zero =>
  intro i x hm hj hi
  refine⟨_,.lp_stop ?_⟩
  cases Decidable.em (G5 l i (G7 f)=0) with
  | inl h=>exact h
  | inr h=>have:=Pv h;omega
 | succ m ih =>
  intro i x hm hj hi
  by_cases c:G5 l i (G7 f)=0
  ·exact⟨_,.lp_stop c⟩
  ·have hlt:=Pv c
   obtain⟨r,hr⟩:=h (i+1) (by omega) (by omega)
   cases r with
   | bad e a=>exact⟨_,.lp_bad hf c hr⟩
   | ok y tu =>
    have hto:=Jr hr (by omega);dsimp only at hto
    by_cases c2:f=2
    ·subst c2;exact⟨_,.lp_once c (Ar hlt) hr⟩
    ·obtain⟨r,h2⟩:=ih tu (⟨G5 l i (G7 f),0,[],[],l[i].Ao⟩ :: (x++y)) (by omega) (by omega) (by omega)
     exact⟨_,.lp_go hf c2 c (Ar hlt) hr h2⟩
theorem A6e {l:List Tk} {inn i:Nat} (hi:i≤l.length) (hn:inn≤30) (h:∀ f inn',f≤5→inn'≤30→i < l.length→∃ r,PE l (.fl f) inn' (i+1) r):∃ r,PE l (.fl 5) inn i r:=by
 cases h1:Bk l i [33] with
 | true =>
  have hlt:=Dn h1
  by_cases c:30≤inn
  ·exact⟨_,.deep (.inl h1) c (Ar hlt)⟩
  ·obtain⟨r,hr⟩:=h 5 (inn+1) (by omega) (by omega) hlt
   cases r with
   | bad e a=>exact⟨_,.not_bad h1 (by omega) hr⟩
   | ok y tu=>exact⟨_,.not_ok h1 (by omega) (Ar hlt) hr⟩
 | false =>
 cases h2:Bk l i [40] with
 | true =>
  have hlt:=Dn h2
  by_cases c:30≤inn
  ·exact⟨_,.deep (.inr h2) c (Ar hlt)⟩
  ·obtain⟨r,hr⟩:=h 0 (inn+1) (by omega) (by omega) hlt
   cases r with
   | bad e a=>exact⟨_,.par_bad h2 (by omega) hr⟩
   | ok y tu =>
    cases h3:Bk l tu [41] with
    | true=>exact⟨_,.par_ok h2 (by omega) hr h3⟩
    | false=>exact⟨_,.par_open h2 (by omega) hr h3⟩
 | false =>
 cases h3:isK l i with
 | true =>
  have:i < l.length:=by
   unfold isK at h3
   cases hg:l[i]? with
   | none=>rw[hg] at h3;cases h3
   | some t=>exact M2 hg
  exact⟨_,.num h3 (Ar this)⟩
 | false =>
 cases h4:isN l i with
 | false=>exact⟨_,.no h1 h2 h3 h4⟩
 | true =>
 have hlt:=Ue h4
 cases h5:Bk l (i+1) [46] with
 | false=>exact⟨_,.reg h4 h5 (Ar hlt)⟩
 | true =>
 cases h6:isN l (i+2) with
 | false=>exact⟨_,.of_bad h4 h5 h6⟩
 | true=>exact⟨_,.of h4 h5 h6 (Ar hlt) (Ar (Ue h6))⟩
theorem Adt {l:List Tk}:∀ (m i f inn:Nat),l.length - i≤m→i≤l.length→f≤5→inn≤30→∃ r,PE l (.fl f) inn i r:=by
 intro m
 induction m with
 | zero =>
  intro i f inn hm hi hf hn
  obtain⟨d,hd⟩:∃ d,d+f=5:=⟨5 - f,by omega⟩
  induction d generalizing f with
  | zero=>obtain rfl:f=5:=by omega
          exact A6e hi hn (fun _ _ _ _ h=>by omega)
  | succ d ih =>
   obtain⟨r,hr⟩:=ih (f+1) (by omega) (by omega)
   cases r with
   | bad e a=>exact⟨_,.fl_bad (by omega) hr⟩
   | ok y tu=>have:=Jr hr hi;dsimp only at this;omega
 | succ m ihm =>
  intro i f inn hm hi hf hn
  obtain⟨d,hd⟩:∃ d,d+f=5:=⟨5 - f,by omega⟩
  induction d generalizing f with
  | zero=>obtain rfl:f=5:=by omega
          exact A6e hi hn (fun f' inn' h1 h2 h3=>ihm (i+1) f' inn' (by omega) (by omega) h1 h2)
  | succ d ih =>
   obtain⟨r,hr⟩:=ih (f+1) (by omega) (by omega)
   cases r with
   | bad e a=>exact⟨_,.fl_bad (by omega) hr⟩
   | ok y tu =>
    have hto:=Jr hr hi;dsimp only at hto
    obtain⟨r,h2⟩:=Anp (f:=f) (inn:=inn) (by omega) tu (fun i' h1 h2=>ihm i' (f+1) inn (by omega) h2 (by omega) hn) l.length tu y (by omega) (by omega) (by omega)
    exact⟨_,.fl_ok (by omega) hr h2⟩
def Np (l:List Tk) (i:Nat):PR→List Nd×Int×Int×Int
 | .bad e a=>([],0,e,a)
 | .ok x tu=>if 30 < (Ep x (0,[])).1 then([],0,7,Bj l i) else if 200 < x.length then([],0,2,Bj l i) else(x,tu,0,0)
theorem Ar8 {l:List Tk} (hl:l.length < 100000) {n i:Nat} {r:PR} (hr:PE l (.fl 0) 0 i r) (hi:i≤l.length) (hn:12*l.length+100≤n):K2 n l (i:Int)=some (Np l i r):=by
 obtain⟨n,rfl⟩:∃ j,n=j+1:=⟨n - 1,by omega⟩
 have h:=Ahn hl hr hi (by omega) n (by omega)
 rw[K2,Ap (by omega)]
 rw[Ahs] at h
 cases r with
 | bad e a =>
  have he:=Jr hr hi;dsimp only at he
  obtain⟨X,i',j,e1,_,_⟩:=h
  have e1:D0 n l (i:Int) 0 0 0=_:=e1
  rw[e1,A0]
  dsimp only
  rw[show(e != 0)=true by simpa using he];rfl
 | ok x tu =>
  have hx:=Jr hr hi;dsimp only at hx
  have h:D0 n l (i:Int) 0 0 0=_:=h
  have ht:l[i]?=some (l[i]'(by omega)):=Ar (by omega)
  have hp:Bj l i=(l[i]'(by omega)).Ao:=by unfold Bj;rw[ht]
  rw[h,A0,Aep n x (by omega) (by omega),Cz ht]
  simp only[bne_self_eq_false,At,A0,Np,hp]
  by_cases c:30 < (Ep x (0,[])).1
  ·rw[A6 c,if_pos c]
  ·rw[Ap c,if_neg c]
   by_cases c2:200 < x.length
   ·rw[A6 (by omega),if_pos c2]
   ·rw[Ap (by omega),if_neg c2]
def Um (t:Tk):Prop:=0≤t.Ao∧0≤t.Bs∧t.Bs≤9999
def R7 (x:List Nd):Prop:=(∃ t:Tr,t.wf∧t.flat=x)∧∀ y ∈ x,Df y=true∧y.As≠3
theorem A8y {op a:Int} (h:5≤op∧op≤14) (ha:0≤a):Df ⟨op,0,[],[],a⟩=true:=by
 simp only[Df]
 rw[decide_eq_false (by omega),if_neg (by omega),if_neg (by omega),if_neg (by omega)];rfl
theorem Atp {op:Int} (h:6≤op∧op≤14):Dy op=2:=by unfold Dy;rw[if_neg (by omega),if_neg (by omega),if_pos h]
theorem Abq {l:List Tk} {i f:Nat} (h:G5 l i (G7 f)≠0):6≤G5 l i (G7 f)∧G5 l i (G7 f)≤14:=by
 rcases Amp (l:=l) (i:=i) (ops:=G7 f) (a:=0) with h1 | h1
 ·exact absurd h1 h
 ·exact(Qj f).1 _ h1
theorem Ac6 {op a:Int} {x y:List Nd} (h:6≤op∧op≤14) (ha:0≤a) (hx:R7 x) (hy:R7 y):R7 (⟨op,0,[],[],a⟩ :: (x++y)):=by
 obtain⟨⟨t,t1,t2⟩,hx⟩:=hx
 obtain⟨⟨u,u1,u2⟩,hy⟩:=hy
 refine⟨⟨.bin ⟨op,0,[],[],a⟩ t u,⟨Atp h,t1,u1⟩,by rw[Tr.flat,t2,u2]⟩,fun z hz=>?_⟩
 rcases List.mem_cons.1 hz with rfl | hz
 ·exact⟨A8y (by omega) ha,by dsimp only;omega⟩
 ·rcases List.mem_append.1 hz with hz | hz
  ·exact hx z hz
  ·exact hy z hz
theorem Z4 {l:List Tk} (hl:∀ t ∈ l,Um t) {md:Md} {inn i:Nat} {r:PR} (h:PE l md inn i r):match md,r with
 | .fl _,.ok x _=>R7 x
 | .lp _ x0,.ok x _=>R7 x0→R7 x
 | _,_=>True:=by
 have ok:∀ {i:Nat} {t:Tk},l[i]?=some t→Um t:=fun h=>hl _ (List.mem_of_getElem? h)
 have nm:∀ {i:Nat} {t:Tk},isN l i=true→l[i]?=some t→C9 t.Aa=true:=fun h1 h2=>by
  simp only[isN,h2,A7] at h1;exact h1.2
 induction h with
 | deep h1 h2 h3=>trivial
 | @not_ok inn i tu t x h1 h2 h3 h4 ih =>
  obtain⟨⟨u,u1,u2⟩,hx⟩:=ih
  refine⟨⟨.un ⟨5,0,[],[],t.Ao⟩ u,⟨(by decide:Dy 5=1),u1⟩,by rw[Tr.flat,u2]⟩,fun z hz=>?_⟩
  rcases List.mem_cons.1 hz with rfl | hz
  ·exact⟨A8y (by omega) (ok h3).1,by dsimp only;omega⟩
  ·exact hx z hz
 | not_bad h1 h2 h4 ih=>trivial
 | par_ok h1 h2 h3 h4 ih=>exact ih
 | par_bad h1 h2 h4 ih=>trivial
 | par_open h1 h2 h3 h4 ih=>trivial
 | @num inn i t h1 h2 =>
  have:=ok h2
  refine⟨⟨.leaf ⟨1,t.Bs,[],[],t.Ao⟩,(by decide:Dy 1=0),rfl⟩,fun z hz=>?_⟩
  obtain rfl:=List.mem_singleton.1 hz
  refine⟨?_,(by decide:(1:Int)≠3)⟩
  simp only[Df]
  rw[decide_eq_false (by have:=this.1;omega),if_pos trivial,decide_eq_true ⟨this.2.1,this.2.2⟩];rfl
 | @reg inn i t h1 h2 h3 =>
  have:=ok h3
  refine⟨⟨.leaf ⟨2,0,t.Aa,[],t.Ao⟩,(by decide:Dy 2=0),rfl⟩,fun z hz=>?_⟩
  obtain rfl:=List.mem_singleton.1 hz
  refine⟨?_,(by decide:(2:Int)≠3)⟩
  simp only[Df]
  rw[decide_eq_false (by have:=this.1;omega),if_neg (by omega),if_pos (.inl trivial),nm h1 h3];rfl
 | @of inn i t u h1 h2 h3 h4 h5 =>
  have:=ok h4
  refine⟨⟨.leaf ⟨4,0,u.Aa,t.Aa,t.Ao⟩,(by decide:Dy 4=0),rfl⟩,fun z hz=>?_⟩
  obtain rfl:=List.mem_singleton.1 hz
  refine⟨?_,(by decide:(4:Int)≠3)⟩
  simp only[Df]
  rw[decide_eq_false (by have:=this.1;omega),if_neg (by omega),if_neg (by omega),if_pos trivial,nm h1 h4,nm h3 h5];rfl
 | of_bad h1 h2 h3=>trivial
 | no h1 h2 h3 h4=>trivial
 | fl_bad h1 h2 ih=>trivial
 | @fl_ok f inn i tu x r h1 h2 h3 ih1 ih2 =>
  cases r with
  | ok y to2=>exact ih2 ih1
  | bad e a=>trivial
 | lp_stop h1=>exact id
 | lp_bad h1 h2 h3 ih=>trivial
 | lp_once h1 h2 h3 ih=>exact fun hx=>Ac6 (Abq h1) (ok h2).1 hx ih
 | @lp_go f inn i tu x y t r h1 h2 h3 h4 h5 h6 ih1 ih2 =>
  cases r with
  | ok y to2=>exact fun hx=>ih2 (Ac6 (Abq h3) (ok h4).1 hx ih1)
  | bad e a=>trivial
end Go.Proofs.Ytnijlelbihnamaa
end
