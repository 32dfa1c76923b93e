/- Parts of the proofs: what they lean on. Conditions: none. -/
import Derived.Test.YtnijlelbihnamaaGreatProg
import Derived.Test.YtnijlelbihnamaaGreatPrgS11
section
namespace Go.Proofs.YtnijlelbihnamaaGreat
set_option linter.unusedVariables false
structure Aw where
 Ao:(List UInt8)
 Bs:Int
 Ab:Int
 deriving DecidableEq,Inhabited
def Am (x:Aw):List AV:=[AV.str (x.Ao),AV.int .i64 (x.Bs),AV.int .i64 (x.Ab)]
structure A2 where
 B3:Int
 Bs:Int
 Ao:(List UInt8)
 Cq:(List UInt8)
 Ab:Int
 deriving DecidableEq,Inhabited
def A3 (x:A2):List AV:=[AV.int .i64 (x.B3),AV.int .i64 (x.Bs),AV.str (x.Ao),AV.str (x.Cq),AV.int .i64 (x.Ab)]
def Ue (l:(List A2)):List AV:=[AV.sl 5 (List.map A3 l)]
structure A0 where
 A7:Int
 Bd:(List UInt8)
 Be:(List UInt8)
 Bm:(List A2)
 C6:(List A2)
 Br:Bool
 B5:Int
 Ch:Int
 Ab:Int
 deriving DecidableEq,Inhabited
def A9 (x:A0):List AV:=[AV.int .i64 (x.A7),AV.str (x.Bd),AV.str (x.Be),AV.sl 5 (List.map A3 (x.Bm)),AV.sl 5 (List.map A3 (x.C6)),AV.bool (x.Br),AV.int .i64 (x.B5),AV.int .i64 (x.Ch),AV.int .i64 (x.Ab)]
structure Ae where
 Ao:(List UInt8)
 Bh:(List (List UInt8))
 B5:(List A0)
 Ab:Int
 deriving DecidableEq,Inhabited
def Ad (x:Ae):List AV:=[AV.str (x.Ao),AV.sl 1 (List.map Dv (x.Bh)),AV.sl 9 (List.map A9 (x.B5)),AV.int .i64 (x.Ab)]
structure Ag where
 A7:Int
 Bm:(List A2)
 Ab:Int
 deriving DecidableEq,Inhabited
def Aj (x:Ag):List AV:=[AV.int .i64 (x.A7),AV.sl 5 (List.map A3 (x.Bm)),AV.int .i64 (x.Ab)]
structure Az where
 Bo:Int
 B0:(List Aw)
 Ak:(List Ae)
 Ar:(List Ag)
 deriving DecidableEq,Inhabited
structure A5 where
 A7:Int
 Ac:(List UInt8)
 Bs:Int
 Ab:Int
 deriving DecidableEq,Inhabited
def A4 (x:A5):List AV:=[AV.int .i64 (x.A7),AV.str (x.Ac),AV.int .i64 (x.Bs),AV.int .i64 (x.Ab)]
structure Bn where
 f_word:(List UInt8)
 f_form:(List UInt8)
 f_body:Bool
 f_more:Bool
 deriving DecidableEq,Inhabited
def Zu (x:Bn):List AV:=[AV.str (x.f_word),AV.str (x.f_form),AV.bool (x.f_body),AV.bool (x.f_more)]
def A8 (p:((List UInt8)×Int)):List AV:=[AV.str (p.1),AV.int .i64 (p.2)]
theorem Tu (l:List ((List UInt8)×Int)) (k:(List UInt8)) (z:Int):N7 (AV.int .i64 (z)) (List.map A8 l) (AV.str (k))=AV.int .i64 (Bf l k z):=Aev (ek:=fun x=>AV.str (x)) (ev:=fun x=>AV.int .i64 (x)) (c:=A8) (fun _=>rfl) Aam k z l
theorem U5 (l:List ((List UInt8)×Int)) (k:(List UInt8)) (v:Int):T3 (List.map A8 l) (AV.str (k)) (AV.int .i64 (v))=List.map A8 (Re l k v):=Aiv (ek:=fun x=>AV.str (x)) (ev:=fun x=>AV.int .i64 (x)) (c:=A8) (fun _=>rfl) Aam k v l
structure Do where
 f_l:(List A2)
 f_to:Int
 f_e:Int
 f_at:Int
 deriving DecidableEq,Inhabited
theorem ls:(∀ {α β:Type} {f:α→β} {l:List α},(l.map f).length=l.length)∧(∀ {α β:Type} (f:α→β) (l:List α),List.take l.length (List.map f l)=List.map f l)∧Program.cellsOf Tryz.prog 40=1∧Program.cellsOf Tryz.prog 136=1∧Program.cellsOf Tryz.prog 42=3∧Program.cellsOf Tryz.prog 47=5∧Program.cellsOf Tryz.prog 83=9∧Program.cellsOf Tryz.prog 39=4∧Program.cellsOf Tryz.prog 55=4∧Program.cellsOf Tryz.prog 45=3∧Program.cellsOf Tryz.prog 3=1∧Program.cellsOf Tryz.prog 111=4∧Program.cellsOf Tryz.prog 9=1∧Program.cellsOf Tryz.prog 5=1 :=
 ⟨List.length_map ..,C0,by kernel_rfl,by kernel_rfl,by kernel_rfl,by kernel_rfl,by kernel_rfl,by kernel_rfl,by kernel_rfl,by kernel_rfl,by kernel_rfl,by kernel_rfl,by kernel_rfl,by kernel_rfl⟩
theorem lt:(∀ {α β:Type} (f:α→β) (l:List α),List.take l.length (List.map f l)=List.map f l)∧Program.cellsOf Tryz.prog 40=1∧Program.cellsOf Tryz.prog 136=1∧Program.cellsOf Tryz.prog 42=3∧Program.cellsOf Tryz.prog 47=5∧Program.cellsOf Tryz.prog 83=9∧Program.cellsOf Tryz.prog 39=4∧Program.cellsOf Tryz.prog 55=4∧Program.cellsOf Tryz.prog 45=3∧Program.cellsOf Tryz.prog 3=1∧Program.cellsOf Tryz.prog 111=4∧Program.cellsOf Tryz.prog 9=1∧Program.cellsOf Tryz.prog 5=1 :=
 ls.2
theorem cq {ρ:Type} {cont:Tm→Hp→Option ρ} {tm tm':Tm} {hp hp':Hp} {r:Option ρ} (h:cont tm' hp'=r) (h1:tm=tm':=by first | rfl | (simp only[ls]<;>rfl) | (simp only[ls,List.map_append,List.map_cons,List.map_nil,List.append_nil,List.length_set,J4]<;>rfl)) (h2:hp=hp':=by first | rfl | (simp only[ls]<;>rfl) | (simp only[ls,List.map_append,List.map_cons,List.map_nil,List.append_nil,List.length_set,J4]<;>rfl)):cont tm hp=r:=Arf h h1 h2
theorem kq {ρ:Type} {K:Ex→Tm→Hp→Option ρ} {e:Ex} {tm tm':Tm} {hp hp':Hp} {r:Option ρ} (h:K e tm' hp'=r) (h1:tm=tm':=by first | rfl | (simp only[ls]<;>rfl) | (simp only[ls,List.map_append,List.map_cons,List.map_nil,List.append_nil,List.length_set,J4]<;>rfl)) (h2:hp=hp':=by first | rfl | (simp only[ls]<;>rfl) | (simp only[ls,List.map_append,List.map_cons,List.map_nil,List.append_nil,List.length_set,J4]<;>rfl)):K e tm hp=r:=Arj h h1 h2
theorem fq {ρ:Type} {x y z:Option ρ} (h:x=y:=by first | rfl | (simp only[J4,List.length_set]<;>rfl) | (simp only[ls]<;>rfl) | ((conv=>lhs;arg 1;arg 1;whnf);simp only[Em];rfl)) (h2:y=z:=by first | rfl | (simp only[List.map_take,List.map_drop];done) | (simp only[List.map_take,List.map_drop]<;>rfl) | (simp only[ls,List.drop_zero,List.length_set,J4]<;>rfl)):x=z:=h.trans h2
theorem c0:((0:Nat):Int)=0:=rfl
theorem rq {ρ:Type} {x z:Option ρ} (h:x=z:=by first | rfl | (simp only[ls]<;>rfl)):x=z:=h
abbrev iA (x:Int):AV:=.int .i64 x
abbrev bA (x:Bool):AV:=.bool x
abbrev sA (x:List UInt8):AV:=.str x
theorem sj {α:Type} {a r:α} (h:some a=some r):a=r:=Option.some.inj h
theorem lq {ρ σ τ ν:Type} {body:Tm→Hp→(Ex→Tm→Hp→Option ρ)→Option ρ} {keep:Nat→List Nat} {h0:Nat} {K:Ex→Tm→Hp→Option ρ} {r:Option ρ} (id:Nat) (tmOf:σ→(Nat→Nat)→Tm) (hpOf:σ→(Nat→Nat)→Hp) (tmX:τ→(Nat→Nat)→Tm) (hpX:τ→(Nat→Nat)→Hp) (encR:ν→ρ) (L:Nat→σ→Option (LR τ ν)) (hL:∀ s,L 0 s=none) (o:LR τ ν) (n:Nat) (s:σ) (a:Nat→Nat) {tm:Tm} {hp:Hp} (h:L n s=some o)
 (hround:∀ (k:Nat) (s:σ) (a:Nat→Nat) (K':Ex→Tm→Hp→Option ρ) (cont:Tm→Hp→Option ρ),(∀ tm hp,K' .ret tm hp=K .ret tm hp)→(∀ s' a',L k s'=some o→cont (tmOf s' a') (hpOf s' a')=r)→L (k+1) s=some o→Abf K' id tmX hpX encR r o →
  Mf force (fun tm=>F7 (fun hp=>body tm hp (fun e tm hp=>Mf force (fun tm=>F7 (fun hp=>match e with
   | .normal=>cont tm hp
   | .exit id=>K' (.exit id) tm hp
   | .ret=>K' .ret tm hp) (Nz h0 hp)) (A49 (keep (Abe e)) h0 hp 0 tm))) (hpOf s a)) (tmOf s a)=r)
 (hx:Abf K id tmX hpX encR r o)
 (h1:tm=tmOf s a:=by first | rfl | (simp only[ls]<;>rfl) | (simp only[ls,List.map_append,List.map_cons,List.map_nil,List.append_nil,List.length_set,J4]<;>rfl)) (h2:hp=hpOf s a:=by first | rfl | (simp only[ls]<;>rfl) | (simp only[ls,List.map_append,List.map_cons,List.map_nil,List.append_nil,List.length_set,J4]<;>rfl)):rounds body keep h0 n tm hp K=r :=
 Aic id tmOf hpOf tmX hpX encR L hL o hround n s a tm hp h hx h1 h2
theorem lrc {ρ τ ν:Type} {K:Ex→Tm→Hp→Option ρ} {id:Nat} {tmX:τ→(Nat→Nat)→Tm} {hpX:τ→(Nat→Nat)→Hp} {encR:ν→ρ} {r:Option ρ} {o:LR τ ν} (h1:∀ v,o=.ret v→r=some (encR v)) (h2:∀ t a,o=.out t→K (.exit id) (tmX t a) (hpX t a)=r):Abf K id tmX hpX encR r o:=by
 cases o with
 | out t=>exact fun a=>h2 t a rfl
 | ret v=>exact h1 v rfl
theorem nn {α:Type} {r:α} {P:Prop}:(none:Option α)=some r→P:=fun h=>by cases h
theorem A54 {α:Type} {c:Bool} {a:Option α} {r:α} {G:Prop} (h1:c=true→a=some r→G):(bif c then a else none)=some r→G:=fun h=>B6 h h1
theorem br {α ρ:Type} {c:Bool} {a b:Option α} {r:α} {L L1 L2 R:ρ} (k1:a=some r→L1=R) (k2:b=some r→L2=R) (w1:c=true→L=L1:=by(intro hc;simp only[hc,ls];(conv=>lhs;whnf);try exact rfl)) (w2:c=false→L=L2:=by(intro hc;simp only[hc,ls];(conv=>lhs;whnf);try exact rfl)):(bif c then a else b)=some r→L=R:=by
 cases c
 ·exact fun h=>(w2 rfl).trans (k2 h)
 ·exact fun h=>(w1 rfl).trans (k1 h)
theorem bt {α ρ:Type} {c:Bool} {a:Option α} {r:α} {L L1 R:ρ} (k1:a=some r→L1=R) (w1:c=true→L=L1:=by(intro hc;simp only[hc,ls];(conv=>lhs;whnf);try exact rfl)):(bif c then a else none)=some r→L=R:=by
 cases c
 ·exact fun h=>nn h
 ·exact fun h=>(w1 rfl).trans (k1 h)
theorem cp {α ρ:Type} {c:Bool} {a:Option α} {r:α} {L L1 R:ρ} (k1:a=some r→L1=R) (w1:c=true→∀ q,L1=q→L=q:=by(intro hc q hq;refine B4 hc ?_;(try simp only[ls]);(conv=>lhs;whnf);exact hq)):(bif c then a else none)=some r→L=R:=A54 fun hc h=>w1 hc _ (k1 h)
theorem cn {α ρ:Type} {c:Bool} {a:Option α} {r:α} {L L1 R:ρ} (k1:a=some r→L1=R) (w1:c=true→∀ q,L1=q→L=q:=by(intro hc q hq;refine B4 (Arq hc (by simp only[Au,C0]) (by kernel_rfl)) ?_;(try simp only[ls]);(conv=>lhs;whnf);exact hq)):(bif c then a else none)=some r→L=R:=A54 fun hc h=>w1 hc _ (k1 h)
theorem sl {α:Type} (f:α→List AV) (l:List α) (i j:Nat):List.drop i (List.take j (List.map f l))=List.map f (List.drop i (List.take j l)):=by rw[List.map_drop,List.map_take]
theorem cs {α ρ:Type} {c:Bool} {a:Option α} {r:α} {E:Prop} {L L1 R:ρ} (e:E) (k1:a=some r→L1=R) (w1:c=true→E→∀ q,L1=q→L=q:=by(intro hc he q hq;(try simp only[ls]);refine B4 hc ?_;simp only[he,ls];(conv=>lhs;whnf);exact hq)):(bif c then a else none)=some r→L=R:=A54 fun hc h=>w1 hc e _ (k1 h)
theorem ixs {β ρ:Type} {l:List UInt8} {i:Int} {g:UInt8→Option β} {r:β} {L:ρ} {L1:UInt8→ρ} {R:ρ} (k:∀ x,g x=some r→L1 x=R) (w:∀ x,idx l i=some x→∀ q,L1 x=q→L=q:=by(intro x hx q hq;refine B4 (Ga hx) ?_;simp only[Ars hx,ls];(conv=>lhs;whnf);exact hq)):(idx l i).bind g=some r→L=R:=fun h=>As h fun x hx h2=>w x hx _ (k x h2)
theorem ix {α β ρ:Type} {l:List α} {i:Int} {g:α→Option β} {r:β} {L:ρ} {L1:α→ρ} {R:ρ} (k:∀ x,g x=some r→L1 x=R) (w:∀ x,idx l i=some x→∀ q,L1 x=q→L=q:=by(intro x hx q hq;refine B4 (by first | exact Ga hx | exact Pd hx | (have z:=Ga hx;simp only[ls] at z ⊢;exact z)) ?_;simp only[Ik hx,ls];(conv=>lhs;whnf);exact hq)):(idx l i).bind g=some r→L=R:=fun h=>As h fun x hx h2=>w x hx _ (k x h2)
theorem ca {α β ρ:Type} {P:Program} {H:Dr} {X:Ext} {call:Ha} {n:Nat} {m:Option α} {g:α→Option β} {r:β} {f:FuncId} {a:List AV} {p:Hp} {v:α→Option (AV×Hp)} {L:ρ} {L1:α→ρ} {R:ρ} (hc:∀ g l h,call false g l h=Mt P H X n g l h) (hk:∀ y,m=some y→Mt P H X n f a p=v y) (k:∀ y,g y=some r→L1 y=R) (w:∀ y,call false f a p=v y→L=L1 y:=by(intro y hk;(first | simp only[hk] | rewrite[hk] | (simp only[ls];simp only[hk]));(conv=>lhs;whnf);try exact rfl)):m.bind g=some r→L=R:=fun h=>As h fun y hy h2=>(w y ((hc _ _ _).trans (hk y hy))).trans (k y h2)
theorem tw {α β ρ:Type} {P:Program} {H:Dr} {X:Ext} {call:Ha} {n:Nat} {m:Option α} {g:α→Option β} {r:β} {f:FuncId} {a:List AV} {v v':α→Option (AV×Hp)} {L:ρ} {L1:α→ρ} {R:ρ} (hc:∀ g l h,call false g l h=Mt P H X n g l h) (hk:∀ y,m=some y→Mt P H X n f a []=v y) (ht:∀ y,call false f a []=v y→A0j P true call f a=v' y) (k:∀ y,g y=some r→L1 y=R) (w:∀ y,(∀ b,b=true→A0j P b call f a=v' y)→L=L1 y:=by(intro y hk;(try simp only[ls]);(rewrite[hk];rotate_left;(first | rfl | kernel_rfl));(try simp only[ls]);(conv=>lhs;whnf);try exact rfl)):m.bind g=some r→L=R:=fun h=>As h fun y hy h2=>(w y (fun b hb=>by subst hb;exact ht y ((hc _ _ _).trans (hk y hy)))).trans (k y h2)
theorem nb {γ α ρ:Type} {l:List γ} {a b:Option α} {r:α} {L L1 L2 R:ρ} (k1:a=some r→L1=R) (k2:b=some r→L2=R) (w1:l=[]→L=L1:=by(intro hc;simp only[hc,ls,List.map_nil];(conv=>lhs;whnf);try exact rfl)) (w2:decide (l.length=0)=false→L=L2:=by(intro hc;simp only[hc,ls];(conv=>lhs;whnf);try exact rfl)):(bif decide (l.length=0) then a else b)=some r→L=R:=by
 by_cases h:l.length=0
 ·rw[decide_eq_true h];exact fun e=>(w1 (List.eq_nil_of_length_eq_zero h)).trans (k1 e)
 ·rw[decide_eq_false h];exact fun e=>(w2 (decide_eq_false h)).trans (k2 e)
theorem cr {α β ρ:Type} {P:Program} {H:Dr} {X:Ext} {call:Ha} {n:Nat} {m:Option α} {g:α→Option β} {r:β} {f:FuncId} {a:List AV} {p:Hp} {v:α→Option (AV×Hp)} {L:ρ} {L1:α→ρ} {R:ρ} (hc:∀ g l h,call false g l h=Mt P H X n g l h) (hk:∀ y,m=some y→Mt P H X n f a p=v y) (k:∀ y,g y=some r→L1 y=R) (w:∀ y,call false f a p=v y→L=L1 y:=by(intro y hk;(try simp only[List.length_nil,List.map_nil] at hk);(try simp only[List.length_nil,List.map_nil]);(first | ((try simp only[ls]);simp only[hk]) | ((try simp only[List.drop_zero] at hk);(try simp only[List.drop_zero,ls]);simp only[hk]) | simp only[hk] | rewrite[hk]);(try simp only[ls]);(conv=>lhs;whnf);try exact rfl)):m.bind g=some r→L=R:=ca hc hk k w
theorem ap {α:Type} (f:α→List AV) (a:List (List AV)) (l:List α) (y:List (List AV)) (m:List α) (ha:a=List.map f l:=by rfl) (hy:y=List.map f m:=by rfl):a++y=List.map f (l++m)∧a.length+y.length=(l++m).length∧l.length+y.length=(l++m).length∧l.length+m.length=(l++m).length∧a.length+m.length=(l++m).length:=by
 subst ha;subst hy;simp
theorem ar {α ρ:Type} {c:Bool} {a:Option α} {r:α} {E:Prop} {L L1 R:ρ} (e:E) (k1:a=some r→L1=R) (w1:c=true→E→∀ q,L1=q→L=q:=by(intro hc he q hq;(first | refine B4 (Lu hc (by first | rfl | simp only[Au]) (by first | rfl | simp only[Au]) (by first | rfl | simp only[Au,C0]) (by kernel_rfl)) ?_ | refine B4 (Jq hc (by first | rfl | simp only[Au]) (by first | rfl | simp only[Au,C0]) (by kernel_rfl)) ?_ | skip);(try simp only[lt]);(try simp only[he]);(try simp only[ls,c0]);(try simp only[he]);(try simp only[ls]);(conv=>lhs;whnf);exact hq)):(bif c then a else none)=some r→L=R:=A54 fun hc h=>w1 hc e _ (k1 h)
theorem rz {α ρ:Type} {a r:α} {L R:ρ} (k:a=r→L=R:=by(intro e;cases e;first | rfl | (simp only[ls]<;>rfl))):some a=some r→L=R:=fun h=>k (sj h)
set_option linter.unusedSimpArgs false
theorem Awm {a b:List UInt8} (h:bs a=bs b):a=b:=by
 have:=congrArg (fun x:ByteArray=>x.data.toList) h
 simpa [bs] using this
def S8:Rd (List UInt8):=Aui
theorem Ud:P2 Tryz.prog 9 S8:=Al1 Tryz.underlying9 (by kernel_rfl)
set_option maxRecDepth 100000
set_option maxHeartbeats 4000000
noncomputable abbrev CN:=Mt Tryz.prog HH XT
def R2 (n:Nat)  (B7:(List UInt8)):Nat→Int→Option (LR Int Int)
 | 0,_=>none
 | k22+1,s21=>(bif decide (s21<((B7.length:Nat):Int)) then((idx B7 s21).bind fun x31=>(bif ((x31.toNat:Int) != 10) then(R2 n B7 k22 (IntKind.i64.wrap (s21+1))) else(some (.out s21)))) else(some (.out s21)))
def Jw (n:Nat)  (B7:(List UInt8)):Nat→Int→Option (LR Int Int)
 | 0,_=>none
 | k2+1,s1=>(bif decide (s1<((B7.length:Nat):Int)) then((idx B7 s1).bind fun x11=>(bif ((x11.toNat:Int)==32) then(Jw n B7 k2 (IntKind.i64.wrap (s1+1))) else((idx B7 s1).bind fun x13=>(bif ((x13.toNat:Int)==9) then(Jw n B7 k2 (IntKind.i64.wrap (s1+1))) else((idx B7 s1).bind fun x15=>(bif ((x15.toNat:Int)==10) then(Jw n B7 k2 (IntKind.i64.wrap (s1+1))) else((idx B7 s1).bind fun x17=>(bif ((x17.toNat:Int)==13) then(Jw n B7 k2 (IntKind.i64.wrap (s1+1))) else((idx B7 s1).bind fun x19=>(bif ((x19.toNat:Int)==35) then((R2 n B7 n s1).bind fun o29=>match o29 with|.out x34=>(Jw n B7 k2 x34)|.ret v=>some (.ret v)) else(some (.ret s1)))))))))))) else(some (.out s1)))
def Xj:Nat→(List UInt8)→Int→Option Int
 | 0,_,_=>none
 | n+1,B7,Dc=>((Jw n B7 n Dc).bind fun o9=>match o9 with|.out x37=>(some x37)|.ret v=>some v)
def Sq:Nat→Int→Option Bool
 | 0,_=>none
 | n+1,E1=>(bif decide (48≤E1) then(some (decide (E1≤57))) else(some false))
def Rp:Nat→Int→Option Bool
 | 0,_=>none
 | n+1,E1=>(bif decide (97≤E1) then(bif decide (E1≤122) then(some true) else(bif decide (65≤E1) then(bif decide (E1≤90) then(some true) else(some (E1==95))) else(some (E1==95)))) else(bif decide (65≤E1) then(bif decide (E1≤90) then(some true) else(some (E1==95))) else(some (E1==95))))
def A01:Nat→Option (List (List UInt8))
 | 0=>none
 | n+1=>(some ([([61,61]:List UInt8),([33,61]:List UInt8),([60,61]:List UInt8),([38,38]:List UInt8),([124,124]:List UInt8),([59]:List UInt8),([44]:List UInt8),([123]:List UInt8),([125]:List UInt8),([40]:List UInt8),([41]:List UInt8),([46]:List UInt8),([61]:List UInt8),([43]:List UInt8),([45]:List UInt8),([42]:List UInt8),([33]:List UInt8),([60]:List UInt8)]:List (List UInt8)))
def Ns (n:Nat)  (B7:(List UInt8)) (Dc:Int):Nat→Int→Option (LR Int (A5×Int))
 | 0,_=>none
 | k2+1,s1=>(bif decide (s1<((B7.length:Nat):Int)) then((idx B7 s1).bind fun x11=>((Rp n (x11.toNat:Int)).bind fun y12=>(bif y12 then(Ns n B7 Dc k2 (IntKind.i64.wrap (s1+1))) else(bif decide (Dc<s1) then((idx B7 s1).bind fun x16=>((Sq n (x16.toNat:Int)).bind fun y17=>(bif y17 then(Ns n B7 Dc k2 (IntKind.i64.wrap (s1+1))) else(some (.out s1))))) else(some (.out s1)))))) else(some (.out s1)))
def Qq (n:Nat)  (B7:(List UInt8)):Nat→Int→Int→Option (LR (Int×Int) (A5×Int))
 | 0,_,_=>none
 | k27+1,s25,s26=>(bif decide (s25<((B7.length:Nat):Int)) then((idx B7 s25).bind fun x36=>((Sq n (x36.toNat:Int)).bind fun y37=>(bif y37 then((idx B7 s25).bind fun x40=>(Qq n B7 k27 (IntKind.i64.wrap (s25+1)) (if 10000<(IntKind.i64.wrap ((IntKind.i64.wrap (10*s26))+(IntKind.i64.wrap (IntKind.u8.wrap ((x40.toNat:Int) - 48))))) then 10000 else(IntKind.i64.wrap ((IntKind.i64.wrap (10*s26))+(IntKind.i64.wrap (IntKind.u8.wrap ((x40.toNat:Int) - 48)))))))) else(some (.out (s25,s26)))))) else(some (.out (s25,s26))))
def Pm (n:Nat)  (B7:(List UInt8)) (Dc:Int) (y47:(List (List UInt8))):Nat→Int→Option (LR Unit (A5×Int))
 | 0,_=>none
 | k50+1,s49=>(bif decide (s49<((y47.length:Nat):Int)) then((idx y47 s49).bind fun x59=>(bif decide ((IntKind.i64.wrap (Dc+((x59.length:Nat):Int)))≤((B7.length:Nat):Int)) then(bif (decide (0≤(IntKind.i64.wrap (Dc+((x59.length:Nat):Int))))&&decide ((IntKind.i64.wrap (Dc+((x59.length:Nat):Int)))≤((B7.length:Nat):Int))&&decide (0≤Dc)&&decide (Dc≤(IntKind.i64.wrap (Dc+((x59.length:Nat):Int))))) then((idx y47 s49).bind fun x62=>(bif ((List.drop (Dc.toNat) (List.take ((IntKind.i64.wrap (Dc+((x59.length:Nat):Int))).toNat) B7))==x62) then((idx y47 s49).bind fun x64=>(some (.ret ((⟨3,x64,0,Dc⟩:A5),0)))) else(Pm n B7 Dc y47 k50 (IntKind.i64.wrap (s49+1))))) else none) else(Pm n B7 Dc y47 k50 (IntKind.i64.wrap (s49+1))))) else(some (.out ())))
def Zp:Nat→(List UInt8)→Int→Option (A5×Int)
 | 0,_,_=>none
 | n+1,B7,Dc=>((Ns n B7 Dc n Dc).bind fun o9=>match o9 with|.out x21=>(bif decide (Dc<x21) then(bif decide (16<(IntKind.i64.wrap (x21 - Dc))) then(some ((⟨0,([]:List UInt8),0,0⟩:A5),2)) else(bif (decide (0≤x21)&&decide (x21≤((B7.length:Nat):Int))&&decide (0≤Dc)&&decide (Dc≤x21)) then(some ((⟨1,(List.drop (Dc.toNat) (List.take (x21.toNat) B7)),0,Dc⟩:A5),0)) else none)) else((Qq n B7 n x21 0).bind fun o34=>match o34 with|.out (x42,x43)=>(bif decide (Dc<x42) then(bif decide (9999<x43) then(some ((⟨0,([]:List UInt8),0,0⟩:A5),4)) else(bif (decide (0≤x42)&&decide (x42≤((B7.length:Nat):Int))&&decide (0≤Dc)&&decide (Dc≤x42)) then(some ((⟨2,(List.drop (Dc.toNat) (List.take (x42.toNat) B7)),x43,Dc⟩:A5),0)) else none)) else((A01 n ).bind fun y47=>((Pm n B7 Dc y47 n 0).bind fun o57=>match o57 with|.out _=>(some ((⟨0,([]:List UInt8),0,0⟩:A5),3))|.ret v=>some v)))|.ret v=>some v))|.ret v=>some v)
def O5 (n:Nat)  (B7:(List UInt8)):Nat→Int→(List A5)→Option (LR (List A5) ((List A5)×Int×Int))
 | 0,_,_=>none
 | k6+1,s4,s5=>(bif decide (s4<((B7.length:Nat):Int)) then((Zp n B7 s4).bind fun y15=>(bif (y15.2 != 0) then(some (.ret (([]:List A5),y15.2,s4))) else(bif decide ((s5.length+1)*41≤140737488355328) then((Xj n B7 (IntKind.i64.wrap (s4+((y15.1.Ac.length:Nat):Int)))).bind fun y20=>(O5 n B7 k6 y20 (s5++([y15.1]:List A5)))) else none))) else(some (.out s5)))
def Yb:Nat→(List UInt8)→Option ((List A5)×Int×Int)
 | 0,_=>none
 | n+1,B7=>(bif decide (20000<((B7.length:Nat):Int)) then(some (([]:List A5),2,20000)) else((Xj n B7 0).bind fun y2=>((O5 n B7 n y2 ([]:List A5)).bind fun o13=>match o13 with|.out x23=>(some (x23,0,0))|.ret v=>some v)))
def A00:Nat→Option (List (List UInt8))
 | 0=>none
 | n+1=>(some ([([109,111,100]:List UInt8),([108,111,99]:List UInt8),([116,104,114,101,97,100]:List UInt8),([114,101,103]:List UInt8),([115,107,105,112]:List UInt8),([115,101,116]:List UInt8),([108,111,97,100]:List UInt8),([115,116,111,114,101]:List UInt8),([99,97,115]:List UInt8),([102,97,100,100]:List UInt8),([120,99,104,103]:List UInt8),([102,101,110,99,101]:List UInt8),([97,119,97,105,116]:List UInt8),([105,102]:List UInt8),([101,108,115,101]:List UInt8),([119,104,105,108,101]:List UInt8),([108,111,111,112]:List UInt8),([98,114,101,97,107]:List UInt8),([102,111,114,97,108,108]:List UInt8),([101,120,105,115,116,115]:List UInt8),([97,108,119,97,121,115]:List UInt8)]:List (List UInt8)))
def Lc (n:Nat)  (B7:(List UInt8)) (y1:(List (List UInt8))):Nat→Int→Option (LR Unit Bool)
 | 0,_=>none
 | k4+1,s3=>(bif decide (s3<((y1.length:Nat):Int)) then((idx y1 s3).bind fun x13=>(bif (x13==B7) then(some (.ret true)) else(Lc n B7 y1 k4 (IntKind.i64.wrap (s3+1))))) else(some (.out ())))
def Up:Nat→(List UInt8)→Option Bool
 | 0,_=>none
 | n+1,B7=>((A00 n ).bind fun y1=>((Lc n B7 y1 n 0).bind fun o11=>match o11 with|.out _=>(some false)|.ret v=>some v))
def O6 (n:Nat)  (B7:(List UInt8)):Nat→Int→Option (LR Unit Bool)
 | 0,_=>none
 | k11+1,s10=>(bif decide (s10<((B7.length:Nat):Int)) then((idx B7 s10).bind fun x20=>((Rp n (x20.toNat:Int)).bind fun y21=>(bif y21 then(O6 n B7 k11 (IntKind.i64.wrap (s10+1))) else((idx B7 s10).bind fun x24=>((Sq n (x24.toNat:Int)).bind fun y25=>(bif y25 then(O6 n B7 k11 (IntKind.i64.wrap (s10+1))) else(some (.ret false)))))))) else(some (.out ())))
def J3:Nat→(List UInt8)→Option Bool
 | 0,_=>none
 | n+1,B7=>(bif decide (((B7.length:Nat):Int)<1) then(some false) else(bif decide (16<((B7.length:Nat):Int)) then(some false) else((idx B7 0).bind fun x3=>((Rp n (x3.toNat:Int)).bind fun y4=>(bif y4 then((Up n B7).bind fun y7=>(bif y7 then(some false) else((O6 n B7 n 0).bind fun o18=>match o18 with|.out _=>(some true)|.ret v=>some v))) else(some false))))))
def Nt:Nat→Int→Option Bool
 | 0,_=>none
 | n+1,E1=>(bif decide (48≤E1) then(some (decide (E1≤57))) else(some false))
def Me:Nat→Int→Option Bool
 | 0,_=>none
 | n+1,E1=>(bif decide (97≤E1) then(bif decide (E1≤122) then(some true) else(bif decide (65≤E1) then(bif decide (E1≤90) then(some true) else(some (E1==95))) else(some (E1==95)))) else(bif decide (65≤E1) then(bif decide (E1≤90) then(some true) else(some (E1==95))) else(some (E1==95))))
def Pq:Nat→(List UInt8)→Option Int
 | 0,_=>none
 | n+1,B7=>(bif decide (2≤((B7.length:Nat):Int)) then(bif (decide (0≤2)&&decide (2≤((B7.length:Nat):Int))) then(bif ((List.drop 0 (List.take ((2:Int).toNat) B7))==([61,61]:List UInt8)) then(some 2) else(bif ((List.drop 0 (List.take ((2:Int).toNat) B7))==([33,61]:List UInt8)) then(some 2) else(bif ((List.drop 0 (List.take ((2:Int).toNat) B7))==([60,61]:List UInt8)) then(some 2) else(bif ((List.drop 0 (List.take ((2:Int).toNat) B7))==([38,38]:List UInt8)) then(some 2) else(bif ((List.drop 0 (List.take ((2:Int).toNat) B7))==([124,124]:List UInt8)) then(some 2) else((idx B7 0).bind fun x8=>(bif ((x8.toNat:Int)==59) then(some 1) else(bif ((x8.toNat:Int)==44) then(some 1) else(bif ((x8.toNat:Int)==123) then(some 1) else(bif ((x8.toNat:Int)==125) then(some 1) else(bif ((x8.toNat:Int)==40) then(some 1) else(bif ((x8.toNat:Int)==41) then(some 1) else(bif ((x8.toNat:Int)==46) then(some 1) else(bif ((x8.toNat:Int)==61) then(some 1) else(bif ((x8.toNat:Int)==43) then(some 1) else(bif ((x8.toNat:Int)==45) then(some 1) else(bif ((x8.toNat:Int)==42) then(some 1) else(bif ((x8.toNat:Int)==33) then(some 1) else(bif ((x8.toNat:Int)==60) then(some 1) else(some 0)))))))))))))))))))) else none) else((idx B7 0).bind fun x22=>(bif ((x22.toNat:Int)==59) then(some 1) else(bif ((x22.toNat:Int)==44) then(some 1) else(bif ((x22.toNat:Int)==123) then(some 1) else(bif ((x22.toNat:Int)==125) then(some 1) else(bif ((x22.toNat:Int)==40) then(some 1) else(bif ((x22.toNat:Int)==41) then(some 1) else(bif ((x22.toNat:Int)==46) then(some 1) else(bif ((x22.toNat:Int)==61) then(some 1) else(bif ((x22.toNat:Int)==43) then(some 1) else(bif ((x22.toNat:Int)==45) then(some 1) else(bif ((x22.toNat:Int)==42) then(some 1) else(bif ((x22.toNat:Int)==33) then(some 1) else(bif ((x22.toNat:Int)==60) then(some 1) else(some 0))))))))))))))))
def D1 (n:Nat)  (B7:(List UInt8)):Nat→Int→(List A5)→Option (LR (List A5) ((List A5)×Int×Int))
 | 0,_,_=>none
 | k4+1,s2,s3=>(bif decide (s2<((B7.length:Nat):Int)) then(bif (decide (0≤s2)&&decide (s2≤((B7.length:Nat):Int))) then((idx (List.drop (s2.toNat) (List.take (B7.length) B7)) 0).bind fun x14=>(bif ((IntKind.i32.wrap ((x14.toNat:Int)))==32) then(D1 n B7 k4 (IntKind.i64.wrap (s2+1)) s3) else(bif ((IntKind.i32.wrap ((x14.toNat:Int)))==9) then(D1 n B7 k4 (IntKind.i64.wrap (s2+1)) s3) else(bif ((IntKind.i32.wrap ((x14.toNat:Int)))==10) then(D1 n B7 k4 (IntKind.i64.wrap (s2+1)) s3) else(bif ((IntKind.i32.wrap ((x14.toNat:Int)))==13) then(D1 n B7 k4 (IntKind.i64.wrap (s2+1)) s3) else(bif ((IntKind.i32.wrap ((x14.toNat:Int)))==35) then((Pr n (List.drop (s2.toNat) (List.take (B7.length) B7))).bind fun y20=>(D1 n B7 k4 (IntKind.i64.wrap (s2+y20)) s3)) else((Me n (IntKind.i32.wrap ((x14.toNat:Int)))).bind fun y22=>(bif y22 then((Pk n (List.drop (s2.toNat) (List.take (B7.length) B7))).bind fun y25=>(bif decide (16<y25) then(some (.ret (([]:List A5),2,s2))) else(bif (decide (0≤y25)&&decide (y25≤((((List.drop (s2.toNat) (List.take (B7.length) B7))).length:Nat):Int))) then(bif decide ((s3.length+1)*41≤140737488355328) then(D1 n B7 k4 (IntKind.i64.wrap (s2+((((List.drop 0 (List.take (y25.toNat) (List.drop (s2.toNat) (List.take (B7.length) B7))))).length:Nat):Int))) (s3++([(⟨1,(List.drop 0 (List.take (y25.toNat) (List.drop (s2.toNat) (List.take (B7.length) B7)))),0,s2⟩:A5)]:List A5))) else none) else none))) else((Nt n (IntKind.i32.wrap ((x14.toNat:Int)))).bind fun y31=>(bif y31 then((Qk n (List.drop (s2.toNat) (List.take (B7.length) B7))).bind fun y34=>(bif (decide (0≤y34)&&decide (y34≤((((List.drop (s2.toNat) (List.take (B7.length) B7))).length:Nat):Int))) then(bif (decide (0≤y34)&&decide (y34≤((((List.drop (s2.toNat) (List.take (B7.length) B7))).length:Nat):Int))) then((Vo n (List.drop 0 (List.take (y34.toNat) (List.drop (s2.toNat) (List.take (B7.length) B7))))).bind fun y38=>(bif decide (9999<y38) then(some (.ret (([]:List A5),4,s2))) else(bif decide ((s3.length+1)*41≤140737488355328) then(D1 n B7 k4 (IntKind.i64.wrap (s2+((((List.drop 0 (List.take (y34.toNat) (List.drop (s2.toNat) (List.take (B7.length) B7))))).length:Nat):Int))) (s3++([(⟨2,(List.drop 0 (List.take (y34.toNat) (List.drop (s2.toNat) (List.take (B7.length) B7)))),y38,s2⟩:A5)]:List A5))) else none))) else none) else none)) else((Pq n (List.drop (s2.toNat) (List.take (B7.length) B7))).bind fun y43=>(bif (y43==0) then(some (.ret (([]:List A5),3,s2))) else(bif (decide (0≤y43)&&decide (y43≤((((List.drop (s2.toNat) (List.take (B7.length) B7))).length:Nat):Int))) then(bif decide ((s3.length+1)*41≤140737488355328) then(D1 n B7 k4 (IntKind.i64.wrap (s2+((((List.drop 0 (List.take (y43.toNat) (List.drop (s2.toNat) (List.take (B7.length) B7))))).length:Nat):Int))) (s3++([(⟨3,(List.drop 0 (List.take (y43.toNat) (List.drop (s2.toNat) (List.take (B7.length) B7)))),0,s2⟩:A5)]:List A5))) else none) else none))))))))))))) else none) else(some (.out s3)))
def Pf:Nat→(List UInt8)→Option ((List A5)×Int×Int)
 | 0,_=>none
 | n+1,B7=>(bif decide (20000<((B7.length:Nat):Int)) then(some (([]:List A5),2,20000)) else((D1 n B7 n 0 ([]:List A5)).bind fun o11=>match o11 with|.out x50=>(some (x50,0,0))|.ret v=>some v))
def Fz (n:Nat)  (Bp:(List A2)) (Bt:(List A2)):Nat→Bool→Int→Option (LR Unit Bool)
 | 0,_,_=>none
 | k4+1,s2,s3=>(bif decide (s3<((Bp.length:Nat):Int)) then((idx Bp s3).bind fun x13=>((idx Bt s3).bind fun x14=>(bif (x13.B3 != x14.B3) then(some (.ret false)) else((idx Bp s3).bind fun x16=>((idx Bt s3).bind fun x17=>(bif (x16.Bs != x17.Bs) then(some (.ret false)) else((idx Bp s3).bind fun x19=>((idx Bt s3).bind fun x20=>(bif (x19.Ao==x20.Ao) then((idx Bp s3).bind fun x22=>((idx Bt s3).bind fun x23=>(bif (x22.Cq==x23.Cq) then(bif s2 then((idx Bp s3).bind fun x26=>((idx Bt s3).bind fun x27=>(bif (x26.Ab != x27.Ab) then(some (.ret false)) else(Fz n Bp Bt k4 true (IntKind.i64.wrap (s3+1)))))) else(Fz n Bp Bt k4 false (IntKind.i64.wrap (s3+1)))) else(some (.ret false))))) else(some (.ret false))))))))))) else(some (.out ())))
def Hh:Nat→(List A2)→(List A2)→Bool→Option Bool
 | 0,_,_,_=>none
 | n+1,Bp,Bt,Er=>(bif (((Bp.length:Nat):Int) != ((Bt.length:Nat):Int)) then(some false) else((Fz n Bp Bt n Er 0).bind fun o11=>match o11 with|.out _=>(some true)|.ret v=>some v))
def Tl:Nat→Int→Option Int
 | 0,_=>none
 | n+1,Dm=>(bif decide (1≤Dm) then(bif decide (Dm≤4) then(some 0) else(bif (Dm==5) then(some 1) else(bif decide (6≤Dm) then(bif decide (Dm≤14) then(some 2) else(some (-1))) else(some (-1))))) else(bif (Dm==5) then(some 1) else(bif decide (6≤Dm) then(bif decide (Dm≤14) then(some 2) else(some (-1))) else(some (-1)))))
def Pj (n:Nat)  (Aa:(List A2)):Nat→Int→Int→Option (LR Unit Int)
 | 0,_,_=>none
 | k4+1,s2,s3=>(bif decide (s3<((Aa.length:Nat):Int)) then((idx Aa s3).bind fun x13=>((Tl n x13.B3).bind fun y14=>(bif decide (y14<0) then(some (.ret (-1))) else(bif ((IntKind.i64.wrap ((IntKind.i64.wrap (s2 - 1))+y14))==0) then(some (.ret (IntKind.i64.wrap (s3+1)))) else(Pj n Aa k4 (IntKind.i64.wrap ((IntKind.i64.wrap (s2 - 1))+y14)) (IntKind.i64.wrap (s3+1))))))) else(some (.out ())))
def Xg:Nat→(List A2)→Int→Option Int
 | 0,_,_=>none
 | n+1,Aa,Bb=>(bif decide (Bb<0) then(some (-1)) else((Pj n Aa n 1 Bb).bind fun o11=>match o11 with|.out _=>(some (-1))|.ret v=>some v))
def Mq (n:Nat) (rec_ref02_deep:(List A2)→Int→Option Int) (Aa:(List A2)) (Bb:Int):Nat→Int→Int→Int→Option (LR Int Int)
 | 0,_,_,_=>none
 | k4+1,s1,s2,s3=>((idx Aa Bb).bind fun x12=>((Tl n x12.B3).bind fun y13=>(bif decide (s3<y13) then((rec_ref02_deep Aa s2).bind fun y16=>((Xg n Aa s2).bind fun y18=>(Mq n rec_ref02_deep Aa Bb k4 (if s1<(IntKind.i64.wrap (1+y16)) then(IntKind.i64.wrap (1+y16)) else s1) y18 (IntKind.i64.wrap (s3+1))))) else(some (.out s1)))))
def Ln:Nat→(List A2)→Int→Option Int
 | 0,_,_=>none
 | n+1,Aa,Bb=>((Mq n (Ln n) Aa Bb n 0 (IntKind.i64.wrap (Bb+1)) 0).bind fun o11=>match o11 with|.out x21=>(some x21)|.ret v=>some v)
def Ov:Nat→Option (List (List Int))
 | 0=>none
 | n+1=>(some ([([14]:List Int),([13]:List Int),([9,10,11,12]:List Int),([6,7]:List Int),([8]:List Int)]:List (List Int)))
def Fp:Nat→(List A5)→Int→(List UInt8)→Option Bool
 | 0,_,_,_=>none
 | n+1,Aa,Bb,Ae2=>(bif decide (Bb<((Aa.length:Nat):Int)) then((idx Aa Bb).bind fun x2=>(bif (x2.A7==3) then((idx Aa Bb).bind fun x4=>(some (x4.Ac==Ae2))) else(some false))) else(some false))
def Py:Nat→(List A5)→Int→Option Int
 | 0,_,_=>none
 | n+1,Aa,Bb=>(bif decide (Bb<((Aa.length:Nat):Int)) then((idx Aa Bb).bind fun x2=>(some x2.Ab)) else(bif (((Aa.length:Nat):Int)==0) then(some 0) else((idx Aa (IntKind.i64.wrap (((Aa.length:Nat):Int) - 1))).bind fun x4=>((idx Aa (IntKind.i64.wrap (((Aa.length:Nat):Int) - 1))).bind fun x5=>(some (IntKind.i64.wrap (x4.Ab+((x5.Ac.length:Nat):Int))))))))
def Fi:Nat→(List A5)→Int→Option Do
 | 0,_,_=>none
 | n+1,Aa,Bb=>(bif decide (((Aa.length:Nat):Int)≤Bb) then((Py n Aa Bb).bind fun y2=>(some (⟨([]:List A2),0,6,y2⟩:Do))) else((Py n Aa Bb).bind fun y4=>(some (⟨([]:List A2),0,5,y4⟩:Do))))
def A1w:Nat→Int→Option (List UInt8)
 | 0,_=>none
 | n+1,Dm=>((idx ([([33]:List UInt8),([43]:List UInt8),([45]:List UInt8),([42]:List UInt8),([61,61]:List UInt8),([33,61]:List UInt8),([60]:List UInt8),([60,61]:List UInt8),([38,38]:List UInt8),([124,124]:List UInt8)]:List (List UInt8)) (IntKind.i64.wrap (Dm - 5))).bind fun x1=>(some x1))
def Qd (n:Nat)  (Aa:(List A5)) (Bb:Int) (Xe:(List Int)):Nat→Int→Option (LR Unit Int)
 | 0,_=>none
 | k2+1,s1=>(bif decide (s1<((Xe.length:Nat):Int)) then((idx Xe s1).bind fun x11=>((A1w n x11).bind fun y12=>((Fp n Aa Bb y12).bind fun y14=>(bif y14 then((idx Xe s1).bind fun x17=>(some (.ret x17))) else(Qd n Aa Bb Xe k2 (IntKind.i64.wrap (s1+1))))))) else(some (.out ())))
def Xb:Nat→(List A5)→Int→(List Int)→Option Int
 | 0,_,_,_=>none
 | n+1,Aa,Bb,Xe=>((Qd n Aa Bb Xe n 0).bind fun o9=>match o9 with|.out _=>(some 0)|.ret v=>some v)
def Lw (n:Nat) (rec_ref02_floor:(List A5)→Int→Int→Int→Option Do) (Aa:(List A5)) (G0:Int) (A0g:Int):Nat→(List A2)→Int→Int→Int→Option (LR ((List A2)×Int×Int×Int) Do)
 | 0,_,_,_,_=>none
 | k10+1,s6,s7,s8,s9=>(bif (s8==0) then((Ov n ).bind fun y19=>((idx y19 A0g).bind fun x21=>((Xb n Aa s7 x21).bind fun y22=>(bif (y22==0) then(some (.ret (⟨s6,s7,s8,s9⟩:Do))) else((rec_ref02_floor Aa (IntKind.i64.wrap (s7+1)) G0 (IntKind.i64.wrap (A0g+1))).bind fun y25=>(bif (y25.f_e != 0) then(some (.ret y25)) else((idx Aa s7).bind fun x28=>(bif decide (((([(⟨y22,0,([]:List UInt8),([]:List UInt8),x28.Ab⟩:A2)]:List A2)).length+s6.length)*57≤140737488355328) then(bif decide ((((([(⟨y22,0,([]:List UInt8),([]:List UInt8),x28.Ab⟩:A2)]:List A2)++s6)).length+y25.f_l.length)*57≤140737488355328) then(bif (A0g==2) then(some (.ret (⟨((([(⟨y22,0,([]:List UInt8),([]:List UInt8),x28.Ab⟩:A2)]:List A2)++s6)++y25.f_l),y25.f_to,0,0⟩:Do))) else(Lw n rec_ref02_floor Aa G0 A0g k10 ((([(⟨y22,0,([]:List UInt8),([]:List UInt8),x28.Ab⟩:A2)]:List A2)++s6)++y25.f_l) y25.f_to 0 0)) else none) else none)))))))) else(some (.out (s6,s7,s8,s9))))
mutual
def F5:Nat→(List A5)→Int→Int→Int→Option Do
 | 0,_,_,_,_=>none
 | n+1,Aa,Bb,G0,A0g=>(bif (A0g==5) then(((Hz n) Aa Bb G0).bind fun y2=>(some y2)) else(((F5 n) Aa Bb G0 (IntKind.i64.wrap (A0g+1))).bind fun y4=>((Lw n (F5 n) Aa G0 A0g n y4.f_l y4.f_to y4.f_e y4.f_at).bind fun o17=>match o17 with|.out (x35,x36,x37,x38)=>(some (⟨x35,x36,x37,x38⟩:Do))|.ret v=>some v)))
def Hz:Nat→(List A5)→Int→Int→Option Do
 | 0,_,_,_=>none
 | n+1,Aa,Bb,G0=>(bif decide (((Aa.length:Nat):Int)≤Bb) then((Fi n Aa Bb).bind fun y2=>(some y2)) else((idx Aa Bb).bind fun x4=>((Fp n Aa Bb ([40]:List UInt8)).bind fun y5=>(bif y5 then(bif decide (30≤G0) then(some (⟨([]:List A2),0,7,x4.Ab⟩:Do)) else((Fp n Aa Bb ([33]:List UInt8)).bind fun y9=>(bif y9 then(((Hz n) Aa (IntKind.i64.wrap (Bb+1)) (IntKind.i64.wrap (G0+1))).bind fun y12=>(bif (y12.f_e==0) then(bif decide (((([(⟨5,0,([]:List UInt8),([]:List UInt8),x4.Ab⟩:A2)]:List A2)).length+y12.f_l.length)*57≤140737488355328) then(some (⟨(([(⟨5,0,([]:List UInt8),([]:List UInt8),x4.Ab⟩:A2)]:List A2)++y12.f_l),y12.f_to,y12.f_e,y12.f_at⟩:Do)) else none) else(some y12))) else((Fp n Aa Bb ([40]:List UInt8)).bind fun y17=>(bif y17 then(((F5 n) Aa (IntKind.i64.wrap (Bb+1)) (IntKind.i64.wrap (G0+1)) 0).bind fun y20=>(bif (y20.f_e==0) then((Fp n Aa y20.f_to ([41]:List UInt8)).bind fun y23=>(bif y23 then(some (⟨y20.f_l,IntKind.i64.wrap (y20.f_to+1),y20.f_e,y20.f_at⟩:Do)) else((Fi n Aa y20.f_to).bind fun y26=>(some y26)))) else(some (⟨y20.f_l,IntKind.i64.wrap (y20.f_to+1),y20.f_e,y20.f_at⟩:Do)))) else(bif (x4.A7==2) then(some (⟨([(⟨1,x4.Bs,([]:List UInt8),([]:List UInt8),x4.Ab⟩:A2)]:List A2),IntKind.i64.wrap (Bb+1),0,0⟩:Do)) else(bif (x4.A7 != 1) then((Fi n Aa Bb).bind fun y30=>(some y30)) else((J3 n x4.Ac).bind fun y32=>(bif y32 then((Fp n Aa (IntKind.i64.wrap (Bb+1)) ([46]:List UInt8)).bind fun y35=>(bif y35 then(bif decide (((Aa.length:Nat):Int)≤(IntKind.i64.wrap (Bb+2))) then((Fi n Aa (IntKind.i64.wrap (Bb+2))).bind fun y39=>(some y39)) else((idx Aa (IntKind.i64.wrap (Bb+2))).bind fun x41=>(bif (x41.A7 != 1) then((Fi n Aa (IntKind.i64.wrap (Bb+2))).bind fun y43=>(some y43)) else((idx Aa (IntKind.i64.wrap (Bb+2))).bind fun x45=>((J3 n x45.Ac).bind fun y46=>(bif y46 then((idx Aa (IntKind.i64.wrap (Bb+2))).bind fun x49=>(some (⟨([(⟨4,0,x49.Ac,x4.Ac,x4.Ab⟩:A2)]:List A2),IntKind.i64.wrap (Bb+3),0,0⟩:Do))) else((Fi n Aa (IntKind.i64.wrap (Bb+2))).bind fun y50=>(some y50)))))))) else(some (⟨([(⟨2,0,x4.Ac,([]:List UInt8),x4.Ab⟩:A2)]:List A2),IntKind.i64.wrap (Bb+1),0,0⟩:Do)))) else((Fi n Aa Bb).bind fun y52=>(some y52))))))))))) else((Fp n Aa Bb ([33]:List UInt8)).bind fun y54=>(bif y54 then(bif decide (30≤G0) then(some (⟨([]:List A2),0,7,x4.Ab⟩:Do)) else((Fp n Aa Bb ([33]:List UInt8)).bind fun y58=>(bif y58 then(((Hz n) Aa (IntKind.i64.wrap (Bb+1)) (IntKind.i64.wrap (G0+1))).bind fun y61=>(bif (y61.f_e==0) then(bif decide (((([(⟨5,0,([]:List UInt8),([]:List UInt8),x4.Ab⟩:A2)]:List A2)).length+y61.f_l.length)*57≤140737488355328) then(some (⟨(([(⟨5,0,([]:List UInt8),([]:List UInt8),x4.Ab⟩:A2)]:List A2)++y61.f_l),y61.f_to,y61.f_e,y61.f_at⟩:Do)) else none) else(some y61))) else((Fp n Aa Bb ([40]:List UInt8)).bind fun y66=>(bif y66 then(((F5 n) Aa (IntKind.i64.wrap (Bb+1)) (IntKind.i64.wrap (G0+1)) 0).bind fun y69=>(bif (y69.f_e==0) then((Fp n Aa y69.f_to ([41]:List UInt8)).bind fun y72=>(bif y72 then(some (⟨y69.f_l,IntKind.i64.wrap (y69.f_to+1),y69.f_e,y69.f_at⟩:Do)) else((Fi n Aa y69.f_to).bind fun y75=>(some y75)))) else(some (⟨y69.f_l,IntKind.i64.wrap (y69.f_to+1),y69.f_e,y69.f_at⟩:Do)))) else(bif (x4.A7==2) then(some (⟨([(⟨1,x4.Bs,([]:List UInt8),([]:List UInt8),x4.Ab⟩:A2)]:List A2),IntKind.i64.wrap (Bb+1),0,0⟩:Do)) else(bif (x4.A7 != 1) then((Fi n Aa Bb).bind fun y79=>(some y79)) else((J3 n x4.Ac).bind fun y81=>(bif y81 then((Fp n Aa (IntKind.i64.wrap (Bb+1)) ([46]:List UInt8)).bind fun y84=>(bif y84 then(bif decide (((Aa.length:Nat):Int)≤(IntKind.i64.wrap (Bb+2))) then((Fi n Aa (IntKind.i64.wrap (Bb+2))).bind fun y88=>(some y88)) else((idx Aa (IntKind.i64.wrap (Bb+2))).bind fun x90=>(bif (x90.A7 != 1) then((Fi n Aa (IntKind.i64.wrap (Bb+2))).bind fun y92=>(some y92)) else((idx Aa (IntKind.i64.wrap (Bb+2))).bind fun x94=>((J3 n x94.Ac).bind fun y95=>(bif y95 then((idx Aa (IntKind.i64.wrap (Bb+2))).bind fun x98=>(some (⟨([(⟨4,0,x98.Ac,x4.Ac,x4.Ab⟩:A2)]:List A2),IntKind.i64.wrap (Bb+3),0,0⟩:Do))) else((Fi n Aa (IntKind.i64.wrap (Bb+2))).bind fun y99=>(some y99)))))))) else(some (⟨([(⟨2,0,x4.Ac,([]:List UInt8),x4.Ab⟩:A2)]:List A2),IntKind.i64.wrap (Bb+1),0,0⟩:Do)))) else((Fi n Aa Bb).bind fun y101=>(some y101))))))))))) else((Fp n Aa Bb ([33]:List UInt8)).bind fun y103=>(bif y103 then(((Hz n) Aa (IntKind.i64.wrap (Bb+1)) (IntKind.i64.wrap (G0+1))).bind fun y106=>(bif (y106.f_e==0) then(bif decide (((([(⟨5,0,([]:List UInt8),([]:List UInt8),x4.Ab⟩:A2)]:List A2)).length+y106.f_l.length)*57≤140737488355328) then(some (⟨(([(⟨5,0,([]:List UInt8),([]:List UInt8),x4.Ab⟩:A2)]:List A2)++y106.f_l),y106.f_to,y106.f_e,y106.f_at⟩:Do)) else none) else(some y106))) else((Fp n Aa Bb ([40]:List UInt8)).bind fun y111=>(bif y111 then(((F5 n) Aa (IntKind.i64.wrap (Bb+1)) (IntKind.i64.wrap (G0+1)) 0).bind fun y114=>(bif (y114.f_e==0) then((Fp n Aa y114.f_to ([41]:List UInt8)).bind fun y117=>(bif y117 then(some (⟨y114.f_l,IntKind.i64.wrap (y114.f_to+1),y114.f_e,y114.f_at⟩:Do)) else((Fi n Aa y114.f_to).bind fun y120=>(some y120)))) else(some (⟨y114.f_l,IntKind.i64.wrap (y114.f_to+1),y114.f_e,y114.f_at⟩:Do)))) else(bif (x4.A7==2) then(some (⟨([(⟨1,x4.Bs,([]:List UInt8),([]:List UInt8),x4.Ab⟩:A2)]:List A2),IntKind.i64.wrap (Bb+1),0,0⟩:Do)) else(bif (x4.A7 != 1) then((Fi n Aa Bb).bind fun y124=>(some y124)) else((J3 n x4.Ac).bind fun y126=>(bif y126 then((Fp n Aa (IntKind.i64.wrap (Bb+1)) ([46]:List UInt8)).bind fun y129=>(bif y129 then(bif decide (((Aa.length:Nat):Int)≤(IntKind.i64.wrap (Bb+2))) then((Fi n Aa (IntKind.i64.wrap (Bb+2))).bind fun y133=>(some y133)) else((idx Aa (IntKind.i64.wrap (Bb+2))).bind fun x135=>(bif (x135.A7 != 1) then((Fi n Aa (IntKind.i64.wrap (Bb+2))).bind fun y137=>(some y137)) else((idx Aa (IntKind.i64.wrap (Bb+2))).bind fun x139=>((J3 n x139.Ac).bind fun y140=>(bif y140 then((idx Aa (IntKind.i64.wrap (Bb+2))).bind fun x143=>(some (⟨([(⟨4,0,x143.Ac,x4.Ac,x4.Ab⟩:A2)]:List A2),IntKind.i64.wrap (Bb+3),0,0⟩:Do))) else((Fi n Aa (IntKind.i64.wrap (Bb+2))).bind fun y144=>(some y144)))))))) else(some (⟨([(⟨2,0,x4.Ac,([]:List UInt8),x4.Ab⟩:A2)]:List A2),IntKind.i64.wrap (Bb+1),0,0⟩:Do)))) else((Fi n Aa Bb).bind fun y146=>(some y146))))))))))))))))
end
def Sj:Nat→(List A5)→Int→Option ((List A2)×Int×Int×Int)
 | 0,_,_=>none
 | n+1,Aa,Bb=>(bif decide (Bb<0) then(some (([]:List A2),0,1,0)) else((F5 n Aa Bb 0 0).bind fun y2=>(bif (y2.f_e != 0) then(some (([]:List A2),0,y2.f_e,y2.f_at)) else((Ln n y2.f_l 0).bind fun y5=>(bif decide (30<y5) then((idx Aa Bb).bind fun x8=>(some (([]:List A2),0,7,x8.Ab))) else(bif decide (200<((y2.f_l.length:Nat):Int)) then((idx Aa Bb).bind fun x10=>(some (([]:List A2),0,2,x10.Ab))) else(some (y2.f_l,y2.f_to,0,0))))))))
def Kr (n:Nat)  (Aa:(List A2)):Nat→Int→(List A2)→Option (LR (List A2) (List A2))
 | 0,_,_=>none
 | k3+1,s1,s2=>(bif decide (s1<((Aa.length:Nat):Int)) then((idx Aa s1).bind fun x12=>(bif (x12.B3==2) then((idx Aa s1).bind fun x14=>(bif decide ((s2.length+1)*57≤140737488355328) then(Kr n Aa k3 (IntKind.i64.wrap (s1+1)) (s2++([x14]:List A2))) else none)) else((idx Aa s1).bind fun x17=>(bif (x17.B3==3) then((idx Aa s1).bind fun x19=>(bif decide ((s2.length+1)*57≤140737488355328) then(Kr n Aa k3 (IntKind.i64.wrap (s1+1)) (s2++([x19]:List A2))) else none)) else((idx Aa s1).bind fun x22=>(bif (x22.B3==4) then((idx Aa s1).bind fun x24=>(bif decide ((s2.length+1)*57≤140737488355328) then(Kr n Aa k3 (IntKind.i64.wrap (s1+1)) (s2++([x24]:List A2))) else none)) else(Kr n Aa k3 (IntKind.i64.wrap (s1+1)) s2))))))) else(some (.out s2)))
def Wz:Nat→(List A2)→Option (List A2)
 | 0,_=>none
 | n+1,Aa=>((Kr n Aa n 0 ([]:List A2)).bind fun o10=>match o10 with|.out x28=>(some x28)|.ret v=>some v)
def Y7:Nat→A2→Option Bool
 | 0,_=>none
 | n+1,B1=>(bif decide (B1.Ab<0) then(some false) else(bif (B1.B3==1) then(bif decide (0≤B1.Bs) then(bif decide (B1.Bs≤9999) then(bif (B1.Ao==([]:List UInt8)) then(some (B1.Cq==([]:List UInt8))) else(some false)) else(some false)) else(some false)) else(bif (B1.B3==2) then(bif (B1.Bs==0) then((J3 n B1.Ao).bind fun y8=>(bif y8 then(some (B1.Cq==([]:List UInt8))) else(some false))) else(some false)) else(bif (B1.B3==3) then(bif (B1.Bs==0) then((J3 n B1.Ao).bind fun y13=>(bif y13 then(some (B1.Cq==([]:List UInt8))) else(some false))) else(some false)) else(bif (B1.B3==4) then(bif (B1.Bs==0) then((J3 n B1.Ao).bind fun y18=>(bif y18 then((J3 n B1.Cq).bind fun y21=>(some y21)) else(some false))) else(some false)) else(bif (B1.Bs==0) then(bif (B1.Ao==([]:List UInt8)) then(some (B1.Cq==([]:List UInt8))) else(some false)) else(some false)))))))
def P3 (n:Nat)  (Aa:(List A2)):Nat→Int→Option (LR Unit Bool)
 | 0,_=>none
 | k7+1,s6=>(bif decide (s6<((Aa.length:Nat):Int)) then((idx Aa s6).bind fun x16=>((Y7 n x16).bind fun y17=>(bif y17 then(P3 n Aa k7 (IntKind.i64.wrap (s6+1))) else(some (.ret false))))) else(some (.out ())))
def Xa:Nat→(List A2)→Option Bool
 | 0,_=>none
 | n+1,Aa=>(bif decide (200<((Aa.length:Nat):Int)) then(some false) else(bif (((Aa.length:Nat):Int)==0) then(some false) else((Xg n Aa 0).bind fun y3=>(bif (y3 != ((Aa.length:Nat):Int)) then(some false) else((P3 n Aa n 0).bind fun o14=>match o14 with|.out _=>((Ln n Aa 0).bind fun y21=>(some (decide (y21≤30))))|.ret v=>some v)))))
def Jk:Nat→Int→Option Int
 | 0,_=>none
 | n+1,Dm=>(bif decide (1≤Dm) then(bif decide (Dm≤4) then(some 0) else(bif (Dm==5) then(some 1) else(bif decide (6≤Dm) then(bif decide (Dm≤14) then(some 2) else(some (-1))) else(some (-1))))) else(bif (Dm==5) then(some 1) else(bif decide (6≤Dm) then(bif decide (Dm≤14) then(some 2) else(some (-1))) else(some (-1)))))
def He (n:Nat)  (Aa:(List A2)):Nat→Int→Int→Option (LR Unit Int)
 | 0,_,_=>none
 | k4+1,s2,s3=>(bif decide (s2<((Aa.length:Nat):Int)) then((idx Aa s2).bind fun x13=>((Jk n x13.B3).bind fun y14=>(bif decide (y14<0) then(some (.ret (-1))) else(bif ((IntKind.i64.wrap (s3+(IntKind.i64.wrap (y14 - 1))))==0) then(some (.ret (IntKind.i64.wrap (s2+1)))) else(He n Aa k4 (IntKind.i64.wrap (s2+1)) (IntKind.i64.wrap (s3+(IntKind.i64.wrap (y14 - 1))))))))) else(some (.out ())))
def Qr:Nat→(List A2)→Int→Option Int
 | 0,_,_=>none
 | n+1,Aa,Bb=>(bif decide (Bb<0) then(some (-1)) else((He n Aa n Bb 1).bind fun o11=>match o11 with|.out _=>(some (-1))|.ret v=>some v))
def Ek (n:Nat)  (Aa:(List A2)):Nat→Int→(List A2)→Option (LR (List A2) (List A2))
 | 0,_,_=>none
 | k3+1,s1,s2=>(bif decide (s1<((Aa.length:Nat):Int)) then((idx Aa s1).bind fun x12=>(bif (x12.B3==2) then(bif decide ((s2.length+1)*57≤140737488355328) then(Ek n Aa k3 (IntKind.i64.wrap (s1+1)) (s2++([x12]:List A2))) else none) else(bif (x12.B3==3) then(bif decide ((s2.length+1)*57≤140737488355328) then(Ek n Aa k3 (IntKind.i64.wrap (s1+1)) (s2++([x12]:List A2))) else none) else(bif (x12.B3==4) then(bif decide ((s2.length+1)*57≤140737488355328) then(Ek n Aa k3 (IntKind.i64.wrap (s1+1)) (s2++([x12]:List A2))) else none) else(Ek n Aa k3 (IntKind.i64.wrap (s1+1)) s2))))) else(some (.out s2)))
def Lq:Nat→(List A2)→Option (List A2)
 | 0,_=>none
 | n+1,Aa=>((Ek n Aa n 0 ([]:List A2)).bind fun o10=>match o10 with|.out x23=>(some x23)|.ret v=>some v)
def Ht (n:Nat) :Nat→(List Int)→Option (LR (List Int) Int)
 | 0,_=>none
 | k21+1,s20=>(bif decide (0<((s20.length:Nat):Int)) then((idx s20 (IntKind.i64.wrap (((s20.length:Nat):Int) - 1))).bind fun x30=>((idx s20 (IntKind.i64.wrap (((s20.length:Nat):Int) - 1))).bind fun x31=>((idx (List.set s20 (IntKind.i64.wrap (((s20.length:Nat):Int) - 1)).toNat (IntKind.i64.wrap (x30 - 1))) (IntKind.i64.wrap (((s20.length:Nat):Int) - 1))).bind fun x33=>(bif decide (0<x33) then(some (.out (List.set s20 (IntKind.i64.wrap (((s20.length:Nat):Int) - 1)).toNat (IntKind.i64.wrap (x30 - 1))))) else(bif (decide (0≤(IntKind.i64.wrap (((s20.length:Nat):Int) - 1)))&&decide ((IntKind.i64.wrap (((s20.length:Nat):Int) - 1))≤((((List.set s20 (IntKind.i64.wrap (((s20.length:Nat):Int) - 1)).toNat (IntKind.i64.wrap (x30 - 1)))).length:Nat):Int))) then(Ht n k21 (List.take ((IntKind.i64.wrap (((s20.length:Nat):Int) - 1)).toNat) (List.set s20 (IntKind.i64.wrap (((s20.length:Nat):Int) - 1)).toNat (IntKind.i64.wrap (x30 - 1))))) else none))))) else(some (.out s20)))
def Fu (n:Nat)  (Aa:(List A2)):Nat→Int→Int→(List Int)→Option (LR (Int×(List Int)) Int)
 | 0,_,_,_=>none
 | k4+1,s1,s2,s3=>(bif decide (s2<((Aa.length:Nat):Int)) then((idx Aa s2).bind fun x13=>((Jk n x13.B3).bind fun y14=>(bif decide (0<y14) then(bif decide ((s3.length+1)*9≤140737488355328) then(Fu n Aa k4 (if s1<((s3.length:Nat):Int) then((s3.length:Nat):Int) else s1) (IntKind.i64.wrap (s2+1)) (s3++([y14]:List Int))) else none) else((Ht n n s3).bind fun o28=>match o28 with|.out x38=>(Fu n Aa k4 (if s1<((s3.length:Nat):Int) then((s3.length:Nat):Int) else s1) (IntKind.i64.wrap (s2+1)) x38)|.ret v=>some (.ret v))))) else(some (.out (s1,s3))))
def Lz:Nat→(List A2)→Option Int
 | 0,_=>none
 | n+1,Aa=>((Fu n Aa n 0 0 ([]:List Int)).bind fun o11=>match o11 with|.out (x41,x42)=>(some x41)|.ret v=>some v)
def Fq (n:Nat)  (Ks:(List (List A2))):Nat→Int→(List A2)→Option (LR (List A2) (List A2))
 | 0,_,_=>none
 | k3+1,s1,s2=>(bif decide (s1<((Ks.length:Nat):Int)) then((idx Ks s1).bind fun x12=>(bif decide ((s2.length+x12.length)*57≤140737488355328) then(Fq n Ks k3 (IntKind.i64.wrap (s1+1)) (s2++x12)) else none)) else(some (.out s2)))
def Cw:Nat→A2→(List (List A2))→Option (List A2)
 | 0,_,_=>none
 | n+1,B1,Ks=>((Fq n Ks n 0 ([B1]:List A2)).bind fun o10=>match o10 with|.out x16=>(some x16)|.ret v=>some v)
def Cs:Nat→(List UInt8)→(List A5)→Int→Int→Int→Int→Option Bool
 | 0,_,_,_,_,_,_=>none
 | n+1,Kp,p_l,p_i,p_in,p_e,p_at=>(bif decide (p_i<((p_l.length:Nat):Int)) then((idx p_l p_i).bind fun x2=>(bif (x2.A7==3) then((idx p_l p_i).bind fun x4=>(some (x4.Ac==Kp))) else(some false))) else(some false))
def Ce:Nat→Int→(List A5)→Int→Int→Int→Int→Option ((List A2)×Int×Int)
 | 0,_,_,_,_,_,_=>none
 | n+1,Q7,p_l,p_i,p_in,p_e,p_at=>(bif (p_e != 0) then(some (([]:List A2),p_e,p_at)) else(bif decide (p_i<((p_l.length:Nat):Int)) then((idx p_l p_i).bind fun x3=>(some (([]:List A2),Q7,x3.Ab))) else(bif (Q7==5) then(bif decide (0<((p_l.length:Nat):Int)) then((idx p_l (IntKind.i64.wrap (((p_l.length:Nat):Int) - 1))).bind fun x6=>((idx p_l (IntKind.i64.wrap (((p_l.length:Nat):Int) - 1))).bind fun x7=>(some (([]:List A2),6,IntKind.i64.wrap (x6.Ab+((x7.Ac.length:Nat):Int)))))) else(some (([]:List A2),6,p_at))) else(bif decide (0<((p_l.length:Nat):Int)) then((idx p_l (IntKind.i64.wrap (((p_l.length:Nat):Int) - 1))).bind fun x9=>((idx p_l (IntKind.i64.wrap (((p_l.length:Nat):Int) - 1))).bind fun x10=>(some (([]:List A2),Q7,IntKind.i64.wrap (x9.Ab+((x10.Ac.length:Nat):Int)))))) else(some (([]:List A2),Q7,p_at))))))
def D5:Nat→(List A5)→Int→Int→Int→Int→Option ((List UInt8)×Int×Bool×Int)
 | 0,_,_,_,_,_=>none
 | n+1,p_l,p_i,p_in,p_e,p_at=>(bif decide (((p_l.length:Nat):Int)≤p_i) then(some (([]:List UInt8),0,false,p_i)) else((idx p_l p_i).bind fun x2=>(bif (x2.A7 != 1) then(some (([]:List UInt8),0,false,p_i)) else((idx p_l p_i).bind fun x4=>((Dp n x4.Ac).bind fun y5=>(bif y5 then((idx p_l p_i).bind fun x8=>(some (x8.Ac,x8.Ab,true,IntKind.i64.wrap (p_i+1)))) else(some (([]:List UInt8),0,false,p_i))))))))
def Hc:Nat→Int→Option (List UInt8)
 | 0,_=>none
 | n+1,Dm=>(bif decide (Dm=((14:Nat):Int)) then(some ([124,124]:List UInt8)) else(bif decide (Dm=((13:Nat):Int)) then(some ([38,38]:List UInt8)) else(bif decide (Dm=((12:Nat):Int)) then(some ([60,61]:List UInt8)) else(bif decide (Dm=((11:Nat):Int)) then(some ([60]:List UInt8)) else(bif decide (Dm=((10:Nat):Int)) then(some ([33,61]:List UInt8)) else(bif decide (Dm=((9:Nat):Int)) then(some ([61,61]:List UInt8)) else(bif decide (Dm=((8:Nat):Int)) then(some ([42]:List UInt8)) else(bif decide (Dm=((7:Nat):Int)) then(some ([45]:List UInt8)) else(bif decide (Dm=((6:Nat):Int)) then(some ([43]:List UInt8)) else(bif decide (Dm=((5:Nat):Int)) then(some ([33]:List UInt8)) else(bif decide (Dm=((4:Nat):Int)) then(some ([]:List UInt8)) else(bif decide (Dm=((3:Nat):Int)) then(some ([]:List UInt8)) else(bif decide (Dm=((2:Nat):Int)) then(some ([]:List UInt8)) else(bif decide (Dm=((1:Nat):Int)) then(some ([]:List UInt8)) else(bif decide (Dm=((0:Nat):Int)) then(some ([]:List UInt8)) else none)))))))))))))))
def Bv (n:Nat)  (B2:(List Int)) (p_l:(List A5)) (s5:Int) (s6:Int) (s7:Int) (s8:Int):Nat→Int→Int→Option (LR Int ((List A2)×Int×Int×Int×Int))
 | 0,_,_=>none
 | k20+1,s18,s19=>(bif decide (s19<((B2.length:Nat):Int)) then((idx B2 s19).bind fun x29=>((Hc n x29).bind fun y30=>((Cs n y30 p_l s5 s6 s7 s8).bind fun y32=>(bif y32 then(Bv n B2 p_l s5 s6 s7 s8 k20 x29 (IntKind.i64.wrap (s19+1))) else(Bv n B2 p_l s5 s6 s7 s8 k20 s18 (IntKind.i64.wrap (s19+1))))))) else(some (.out s18)))
def Bc (n:Nat) (rec_expr_parser_both:(List A5)→Int→Int→Int→Int→Option ((List A2)×Int×Int×Int×Int)) (B2:(List Int)) (p_l:(List A5)):Nat→Bool→(List A2)→Int→Int→Int→Int→Option (LR ((List A2)×Int×Int×Int×Int) ((List A2)×Int×Int×Int×Int))
 | 0,_,_,_,_,_,_=>none
 | k9+1,s3,s4,s5,s6,s7,s8=>(bif (s7==0) then((Bv n B2 p_l s5 s6 s7 s8 n 0 0).bind fun o27=>match o27 with|.out x36=>(bif (x36==0) then(some (.out (s4,s5,s6,s7,s8))) else((idx p_l s5).bind fun x38=>((rec_expr_parser_both p_l (IntKind.i64.wrap (s5+1)) s6 s7 s8).bind fun y39=>((Cw n (⟨x36,0,([]:List UInt8),([]:List UInt8),x38.Ab⟩:A2) ([s4,y39.1]:List (List A2))).bind fun y41=>(bif s3 then(some (.out (y41,y39.2.1,y39.2.2.1,y39.2.2.2.1,y39.2.2.2.2))) else(Bc n rec_expr_parser_both B2 p_l k9 false y41 y39.2.1 y39.2.2.1 y39.2.2.2.1 y39.2.2.2.2))))))|.ret v=>some (.ret v)) else(some (.out (s4,s5,s6,s7,s8))))
def E9 (n:Nat)  (B2:(List Int)) (p_l:(List A5)) (s5:Int) (s6:Int) (s7:Int) (s8:Int):Nat→Int→Int→Option (LR Int ((List A2)×Int×Int×Int×Int))
 | 0,_,_=>none
 | k20+1,s18,s19=>(bif decide (s19<((B2.length:Nat):Int)) then((idx B2 s19).bind fun x29=>((Hc n x29).bind fun y30=>((Cs n y30 p_l s5 s6 s7 s8).bind fun y32=>(bif y32 then(E9 n B2 p_l s5 s6 s7 s8 k20 x29 (IntKind.i64.wrap (s19+1))) else(E9 n B2 p_l s5 s6 s7 s8 k20 s18 (IntKind.i64.wrap (s19+1))))))) else(some (.out s18)))
def Eu (n:Nat) (rec_expr_parser_compared:(List A5)→Int→Int→Int→Int→Option ((List A2)×Int×Int×Int×Int)) (B2:(List Int)) (p_l:(List A5)):Nat→Bool→(List A2)→Int→Int→Int→Int→Option (LR ((List A2)×Int×Int×Int×Int) ((List A2)×Int×Int×Int×Int))
 | 0,_,_,_,_,_,_=>none
 | k9+1,s3,s4,s5,s6,s7,s8=>(bif (s7==0) then((E9 n B2 p_l s5 s6 s7 s8 n 0 0).bind fun o27=>match o27 with|.out x36=>(bif (x36==0) then(some (.out (s4,s5,s6,s7,s8))) else((idx p_l s5).bind fun x38=>((rec_expr_parser_compared p_l (IntKind.i64.wrap (s5+1)) s6 s7 s8).bind fun y39=>((Cw n (⟨x36,0,([]:List UInt8),([]:List UInt8),x38.Ab⟩:A2) ([s4,y39.1]:List (List A2))).bind fun y41=>(bif s3 then(some (.out (y41,y39.2.1,y39.2.2.1,y39.2.2.2.1,y39.2.2.2.2))) else(Eu n rec_expr_parser_compared B2 p_l k9 false y41 y39.2.1 y39.2.2.1 y39.2.2.2.1 y39.2.2.2.2))))))|.ret v=>some (.ret v)) else(some (.out (s4,s5,s6,s7,s8))))
def E7 (n:Nat)  (B2:(List Int)) (p_l:(List A5)) (s5:Int) (s6:Int) (s7:Int) (s8:Int):Nat→Int→Int→Option (LR Int ((List A2)×Int×Int×Int×Int))
 | 0,_,_=>none
 | k20+1,s18,s19=>(bif decide (s19<((B2.length:Nat):Int)) then((idx B2 s19).bind fun x29=>((Hc n x29).bind fun y30=>((Cs n y30 p_l s5 s6 s7 s8).bind fun y32=>(bif y32 then(E7 n B2 p_l s5 s6 s7 s8 k20 x29 (IntKind.i64.wrap (s19+1))) else(E7 n B2 p_l s5 s6 s7 s8 k20 s18 (IntKind.i64.wrap (s19+1))))))) else(some (.out s18)))
def Ey (n:Nat) (rec_expr_parser_sum:(List A5)→Int→Int→Int→Int→Option ((List A2)×Int×Int×Int×Int)) (B2:(List Int)) (p_l:(List A5)):Nat→Bool→(List A2)→Int→Int→Int→Int→Option (LR ((List A2)×Int×Int×Int×Int) ((List A2)×Int×Int×Int×Int))
 | 0,_,_,_,_,_,_=>none
 | k9+1,s3,s4,s5,s6,s7,s8=>(bif (s7==0) then((E7 n B2 p_l s5 s6 s7 s8 n 0 0).bind fun o27=>match o27 with|.out x36=>(bif (x36==0) then(some (.out (s4,s5,s6,s7,s8))) else((idx p_l s5).bind fun x38=>((rec_expr_parser_sum p_l (IntKind.i64.wrap (s5+1)) s6 s7 s8).bind fun y39=>((Cw n (⟨x36,0,([]:List UInt8),([]:List UInt8),x38.Ab⟩:A2) ([s4,y39.1]:List (List A2))).bind fun y41=>(bif s3 then(some (.out (y41,y39.2.1,y39.2.2.1,y39.2.2.2.1,y39.2.2.2.2))) else(Ey n rec_expr_parser_sum B2 p_l k9 false y41 y39.2.1 y39.2.2.1 y39.2.2.2.1 y39.2.2.2.2))))))|.ret v=>some (.ret v)) else(some (.out (s4,s5,s6,s7,s8))))
def E6 (n:Nat)  (B2:(List Int)) (p_l:(List A5)) (s5:Int) (s6:Int) (s7:Int) (s8:Int):Nat→Int→Int→Option (LR Int ((List A2)×Int×Int×Int×Int))
 | 0,_,_=>none
 | k20+1,s18,s19=>(bif decide (s19<((B2.length:Nat):Int)) then((idx B2 s19).bind fun x29=>((Hc n x29).bind fun y30=>((Cs n y30 p_l s5 s6 s7 s8).bind fun y32=>(bif y32 then(E6 n B2 p_l s5 s6 s7 s8 k20 x29 (IntKind.i64.wrap (s19+1))) else(E6 n B2 p_l s5 s6 s7 s8 k20 s18 (IntKind.i64.wrap (s19+1))))))) else(some (.out s18)))
def Ev (n:Nat) (rec_expr_parser_product:(List A5)→Int→Int→Int→Int→Option ((List A2)×Int×Int×Int×Int)) (B2:(List Int)) (p_l:(List A5)):Nat→Bool→(List A2)→Int→Int→Int→Int→Option (LR ((List A2)×Int×Int×Int×Int) ((List A2)×Int×Int×Int×Int))
 | 0,_,_,_,_,_,_=>none
 | k9+1,s3,s4,s5,s6,s7,s8=>(bif (s7==0) then((E6 n B2 p_l s5 s6 s7 s8 n 0 0).bind fun o27=>match o27 with|.out x36=>(bif (x36==0) then(some (.out (s4,s5,s6,s7,s8))) else((idx p_l s5).bind fun x38=>((rec_expr_parser_product p_l (IntKind.i64.wrap (s5+1)) s6 s7 s8).bind fun y39=>((Cw n (⟨x36,0,([]:List UInt8),([]:List UInt8),x38.Ab⟩:A2) ([s4,y39.1]:List (List A2))).bind fun y41=>(bif s3 then(some (.out (y41,y39.2.1,y39.2.2.1,y39.2.2.2.1,y39.2.2.2.2))) else(Ev n rec_expr_parser_product B2 p_l k9 false y41 y39.2.1 y39.2.2.1 y39.2.2.2.1 y39.2.2.2.2))))))|.ret v=>some (.ret v)) else(some (.out (s4,s5,s6,s7,s8))))
def Eb (n:Nat)  (B2:(List Int)) (p_l:(List A5)) (s5:Int) (s6:Int) (s7:Int) (s8:Int):Nat→Int→Int→Option (LR Int ((List A2)×Int×Int×Int×Int))
 | 0,_,_=>none
 | k20+1,s18,s19=>(bif decide (s19<((B2.length:Nat):Int)) then((idx B2 s19).bind fun x29=>((Hc n x29).bind fun y30=>((Cs n y30 p_l s5 s6 s7 s8).bind fun y32=>(bif y32 then(Eb n B2 p_l s5 s6 s7 s8 k20 x29 (IntKind.i64.wrap (s19+1))) else(Eb n B2 p_l s5 s6 s7 s8 k20 s18 (IntKind.i64.wrap (s19+1))))))) else(some (.out s18)))
def F0 (n:Nat) (rec_expr_parser_single:(List A5)→Int→Int→Int→Int→Option ((List A2)×Int×Int×Int×Int)) (B2:(List Int)) (p_l:(List A5)):Nat→Bool→(List A2)→Int→Int→Int→Int→Option (LR ((List A2)×Int×Int×Int×Int) ((List A2)×Int×Int×Int×Int))
 | 0,_,_,_,_,_,_=>none
 | k9+1,s3,s4,s5,s6,s7,s8=>(bif (s7==0) then((Eb n B2 p_l s5 s6 s7 s8 n 0 0).bind fun o27=>match o27 with|.out x36=>(bif (x36==0) then(some (.out (s4,s5,s6,s7,s8))) else((idx p_l s5).bind fun x38=>((rec_expr_parser_single p_l (IntKind.i64.wrap (s5+1)) s6 s7 s8).bind fun y39=>((Cw n (⟨x36,0,([]:List UInt8),([]:List UInt8),x38.Ab⟩:A2) ([s4,y39.1]:List (List A2))).bind fun y41=>(bif s3 then(some (.out (y41,y39.2.1,y39.2.2.1,y39.2.2.2.1,y39.2.2.2.2))) else(F0 n rec_expr_parser_single B2 p_l k9 false y41 y39.2.1 y39.2.2.1 y39.2.2.2.1 y39.2.2.2.2))))))|.ret v=>some (.ret v)) else(some (.out (s4,s5,s6,s7,s8))))
mutual
def D8:Nat→(List A5)→Int→Int→Int→Int→Option ((List A2)×Int×Int×Int×Int)
 | 0,_,_,_,_,_=>none
 | n+1,p_l,p_i,p_in,p_e,p_at=>(((Lk n) false ([14]:List Int) p_l p_i p_in p_e p_at).bind fun y1=>(some (y1.1,y1.2.1,y1.2.2.1,y1.2.2.2.1,y1.2.2.2.2)))
def D6:Nat→(List A5)→Int→Int→Int→Int→Option ((List A2)×Int×Int×Int×Int)
 | 0,_,_,_,_,_=>none
 | n+1,p_l,p_i,p_in,p_e,p_at=>(((Kc n) false ([13]:List Int) p_l p_i p_in p_e p_at).bind fun y1=>(some (y1.1,y1.2.1,y1.2.2.1,y1.2.2.2.1,y1.2.2.2.2)))
def Cm:Nat→(List A5)→Int→Int→Int→Int→Option ((List A2)×Int×Int×Int×Int)
 | 0,_,_,_,_,_=>none
 | n+1,p_l,p_i,p_in,p_e,p_at=>(((Kf n) true ([9,10,11,12]:List Int) p_l p_i p_in p_e p_at).bind fun y1=>(some (y1.1,y1.2.1,y1.2.2.1,y1.2.2.2.1,y1.2.2.2.2)))
def Eg:Nat→(List A5)→Int→Int→Int→Int→Option ((List A2)×Int×Int×Int×Int)
 | 0,_,_,_,_,_=>none
 | n+1,p_l,p_i,p_in,p_e,p_at=>(bif decide (30≤p_in) then((Ce n 7 p_l p_i p_in p_e p_at).bind fun y2=>(some (y2.1,p_i,p_in,y2.2.1,y2.2.2))) else(((Bq n) p_l (IntKind.i64.wrap (p_i+1)) (IntKind.i64.wrap (p_in+1)) p_e p_at).bind fun y4=>(some (y4.1,y4.2.1,IntKind.i64.wrap (y4.2.2.1 - 1),y4.2.2.2.1,y4.2.2.2.2))))
def Du:Nat→(List A5)→Int→Int→Int→Int→Option ((List A2)×Int×Int×Int×Int)
 | 0,_,_,_,_,_=>none
 | n+1,p_l,p_i,p_in,p_e,p_at=>(bif decide (30≤p_in) then((Ce n 7 p_l p_i p_in p_e p_at).bind fun y2=>(some (y2.1,p_i,p_in,y2.2.1,y2.2.2))) else(((D8 n) p_l (IntKind.i64.wrap (p_i+1)) (IntKind.i64.wrap (p_in+1)) p_e p_at).bind fun y4=>(some (y4.1,y4.2.1,IntKind.i64.wrap (y4.2.2.1 - 1),y4.2.2.2.1,y4.2.2.2.2))))
def Cr:Nat→(List A5)→Int→Int→Int→Int→Option ((List A2)×Int×Int×Int×Int)
 | 0,_,_,_,_,_=>none
 | n+1,p_l,p_i,p_in,p_e,p_at=>(((Kd n) false ([8]:List Int) p_l p_i p_in p_e p_at).bind fun y1=>(some (y1.1,y1.2.1,y1.2.2.1,y1.2.2.2.1,y1.2.2.2.2)))
def Lk:Nat→Bool→(List Int)→(List A5)→Int→Int→Int→Int→Option ((List A2)×Int×Int×Int×Int)
 | 0,_,_,_,_,_,_,_=>none
 | n+1,Cz,B2,p_l,p_i,p_in,p_e,p_at=>(((D6 n) p_l p_i p_in p_e p_at).bind fun y1=>((Bc n (D6 n) B2 p_l n Cz y1.1 y1.2.1 y1.2.2.1 y1.2.2.2.1 y1.2.2.2.2).bind fun o16=>match o16 with|.out (x46,x47,x48,x49,x50)=>(some (x46,x47,x48,x49,x50))|.ret v=>some v))
def Kc:Nat→Bool→(List Int)→(List A5)→Int→Int→Int→Int→Option ((List A2)×Int×Int×Int×Int)
 | 0,_,_,_,_,_,_,_=>none
 | n+1,Cz,B2,p_l,p_i,p_in,p_e,p_at=>(((Cm n) p_l p_i p_in p_e p_at).bind fun y1=>((Eu n (Cm n) B2 p_l n Cz y1.1 y1.2.1 y1.2.2.1 y1.2.2.2.1 y1.2.2.2.2).bind fun o16=>match o16 with|.out (x46,x47,x48,x49,x50)=>(some (x46,x47,x48,x49,x50))|.ret v=>some v))
def Kf:Nat→Bool→(List Int)→(List A5)→Int→Int→Int→Int→Option ((List A2)×Int×Int×Int×Int)
 | 0,_,_,_,_,_,_,_=>none
 | n+1,Cz,B2,p_l,p_i,p_in,p_e,p_at=>(((De n) p_l p_i p_in p_e p_at).bind fun y1=>((Ey n (De n) B2 p_l n Cz y1.1 y1.2.1 y1.2.2.1 y1.2.2.2.1 y1.2.2.2.2).bind fun o16=>match o16 with|.out (x46,x47,x48,x49,x50)=>(some (x46,x47,x48,x49,x50))|.ret v=>some v))
def Ke:Nat→Bool→(List Int)→(List A5)→Int→Int→Int→Int→Option ((List A2)×Int×Int×Int×Int)
 | 0,_,_,_,_,_,_,_=>none
 | n+1,Cz,B2,p_l,p_i,p_in,p_e,p_at=>(((Cr n) p_l p_i p_in p_e p_at).bind fun y1=>((Ev n (Cr n) B2 p_l n Cz y1.1 y1.2.1 y1.2.2.1 y1.2.2.2.1 y1.2.2.2.2).bind fun o16=>match o16 with|.out (x46,x47,x48,x49,x50)=>(some (x46,x47,x48,x49,x50))|.ret v=>some v))
def Kd:Nat→Bool→(List Int)→(List A5)→Int→Int→Int→Int→Option ((List A2)×Int×Int×Int×Int)
 | 0,_,_,_,_,_,_,_=>none
 | n+1,Cz,B2,p_l,p_i,p_in,p_e,p_at=>(((Bq n) p_l p_i p_in p_e p_at).bind fun y1=>((F0 n (Bq n) B2 p_l n Cz y1.1 y1.2.1 y1.2.2.1 y1.2.2.2.1 y1.2.2.2.2).bind fun o16=>match o16 with|.out (x46,x47,x48,x49,x50)=>(some (x46,x47,x48,x49,x50))|.ret v=>some v))
def Bq:Nat→(List A5)→Int→Int→Int→Int→Option ((List A2)×Int×Int×Int×Int)
 | 0,_,_,_,_,_=>none
 | n+1,p_l,p_i,p_in,p_e,p_at=>(bif (p_e != 0) then(some (([]:List A2),p_i,p_in,p_e,p_at)) else((Cs n ([33]:List UInt8) p_l p_i p_in p_e p_at).bind fun y2=>(bif y2 then((idx p_l p_i).bind fun x5=>(((Eg n) p_l p_i p_in p_e p_at).bind fun y6=>((Cw n (⟨5,0,([]:List UInt8),([]:List UInt8),x5.Ab⟩:A2) ([y6.1]:List (List A2))).bind fun y8=>(some (y8,y6.2.1,y6.2.2.1,y6.2.2.2.1,y6.2.2.2.2))))) else((Cs n ([40]:List UInt8) p_l p_i p_in p_e p_at).bind fun y10=>(bif y10 then(((Du n) p_l p_i p_in p_e p_at).bind fun y13=>(bif (y13.2.2.2.1==0) then((Cs n ([41]:List UInt8) p_l y13.2.1 y13.2.2.1 y13.2.2.2.1 y13.2.2.2.2).bind fun y16=>(bif y16 then(some (y13.1,IntKind.i64.wrap (y13.2.1+1),y13.2.2.1,y13.2.2.2.1,y13.2.2.2.2)) else((Ce n 5 p_l y13.2.1 y13.2.2.1 y13.2.2.2.1 y13.2.2.2.2).bind fun y19=>(some (y19.1,y13.2.1,y13.2.2.1,y19.2.1,y19.2.2))))) else(some (y13.1,IntKind.i64.wrap (y13.2.1+1),y13.2.2.1,y13.2.2.2.1,y13.2.2.2.2)))) else(bif decide (p_i<((p_l.length:Nat):Int)) then((idx p_l p_i).bind fun x22=>(bif (x22.A7==2) then((idx p_l p_i).bind fun x24=>((Cw n (⟨1,x24.Bs,([]:List UInt8),([]:List UInt8),x24.Ab⟩:A2) ([]:List (List A2))).bind fun y25=>(some (y25,IntKind.i64.wrap (p_i+1),p_in,p_e,p_at)))) else((D5 n p_l p_i p_in p_e p_at).bind fun y27=>(bif y27.2.2.1 then((Cs n ([46]:List UInt8) p_l y27.2.2.2 p_in p_e p_at).bind fun y30=>(bif y30 then((D5 n p_l (IntKind.i64.wrap (y27.2.2.2+1)) p_in p_e p_at).bind fun y33=>(bif y33.2.2.1 then((Cw n (⟨4,0,y33.1,y27.1,y27.2.1⟩:A2) ([]:List (List A2))).bind fun y36=>(some (y36,y33.2.2.2,p_in,p_e,p_at))) else((Ce n 5 p_l y33.2.2.2 p_in p_e p_at).bind fun y38=>(some (y38.1,y33.2.2.2,p_in,y38.2.1,y38.2.2))))) else((Cw n (⟨2,0,y27.1,([]:List UInt8),y27.2.1⟩:A2) ([]:List (List A2))).bind fun y40=>(some (y40,y27.2.2.2,p_in,p_e,p_at))))) else((Ce n 5 p_l y27.2.2.2 p_in p_e p_at).bind fun y42=>(some (y42.1,y27.2.2.2,p_in,y42.2.1,y42.2.2))))))) else((D5 n p_l p_i p_in p_e p_at).bind fun y44=>(bif y44.2.2.1 then((Cs n ([46]:List UInt8) p_l y44.2.2.2 p_in p_e p_at).bind fun y47=>(bif y47 then((D5 n p_l (IntKind.i64.wrap (y44.2.2.2+1)) p_in p_e p_at).bind fun y50=>(bif y50.2.2.1 then((Cw n (⟨4,0,y50.1,y44.1,y44.2.1⟩:A2) ([]:List (List A2))).bind fun y53=>(some (y53,y50.2.2.2,p_in,p_e,p_at))) else((Ce n 5 p_l y50.2.2.2 p_in p_e p_at).bind fun y55=>(some (y55.1,y50.2.2.2,p_in,y55.2.1,y55.2.2))))) else((Cw n (⟨2,0,y44.1,([]:List UInt8),y44.2.1⟩:A2) ([]:List (List A2))).bind fun y57=>(some (y57,y44.2.2.2,p_in,p_e,p_at))))) else((Ce n 5 p_l y44.2.2.2 p_in p_e p_at).bind fun y59=>(some (y59.1,y44.2.2.2,p_in,y59.2.1,y59.2.2)))))))))))
def De:Nat→(List A5)→Int→Int→Int→Int→Option ((List A2)×Int×Int×Int×Int)
 | 0,_,_,_,_,_=>none
 | n+1,p_l,p_i,p_in,p_e,p_at=>(((Ke n) false ([6,7]:List Int) p_l p_i p_in p_e p_at).bind fun y1=>(some (y1.1,y1.2.1,y1.2.2.1,y1.2.2.2.1,y1.2.2.2.2)))
end
def I9:Nat→(List A5)→Int→Option ((List A2)×Int×Int×Int)
 | 0,_,_=>none
 | n+1,Aa,Bb=>(bif decide (Bb<0) then(some (([]:List A2),0,1,0)) else((D8 n Aa Bb 0 0 0).bind fun y2=>(bif (y2.2.2.2.1 != 0) then(some (([]:List A2),0,y2.2.2.2.1,y2.2.2.2.2)) else((Lz n y2.1).bind fun y5=>(bif decide (30<y5) then((idx Aa Bb).bind fun x8=>(some (([]:List A2),0,7,x8.Ab))) else(bif decide (200<((y2.1.length:Nat):Int)) then((idx Aa Bb).bind fun x10=>(some (([]:List A2),0,2,x10.Ab))) else(some (y2.1,y2.2.1,0,0))))))))
def Po:Nat→A2→Option Bool
 | 0,_=>none
 | n+1,B1=>(bif decide (B1.Ab<0) then(some false) else(bif (B1.B3==1) then(bif ((B1.B3==B1.B3)&&((B1.Bs==B1.Bs)&&((B1.Ao==([]:List UInt8))&&((B1.Cq==([]:List UInt8))&&((B1.Ab==B1.Ab)&&true))))) then(bif decide (0≤B1.Bs) then(some (decide (B1.Bs≤9999))) else(some false)) else(some false)) else(bif (B1.B3==4) then((Dp n B1.Cq).bind fun y7=>(bif y7 then(bif ((B1.B3==B1.B3)&&((B1.Bs==0)&&((B1.Ao==B1.Ao)&&((B1.Cq==B1.Cq)&&((B1.Ab==B1.Ab)&&true))))) then((Dp n B1.Ao).bind fun y11=>(some y11)) else(some false)) else(some false))) else(bif (B1.B3==2) then(bif ((B1.B3==B1.B3)&&((B1.Bs==0)&&((B1.Ao==B1.Ao)&&((B1.Cq==([]:List UInt8))&&((B1.Ab==B1.Ab)&&true))))) then((Dp n B1.Ao).bind fun y16=>(some y16)) else(some false)) else(bif (B1.B3==3) then(bif ((B1.B3==B1.B3)&&((B1.Bs==0)&&((B1.Ao==B1.Ao)&&((B1.Cq==([]:List UInt8))&&((B1.Ab==B1.Ab)&&true))))) then((Dp n B1.Ao).bind fun y21=>(some y21)) else(some false)) else(some ((B1.B3==B1.B3)&&((B1.Bs==0)&&((B1.Ao==([]:List UInt8))&&((B1.Cq==([]:List UInt8))&&((B1.Ab==B1.Ab)&&true)))))))))))
def Gq (n:Nat)  (Aa:(List A2)):Nat→Int→Option (LR Unit Bool)
 | 0,_=>none
 | k7+1,s6=>(bif decide (s6<((Aa.length:Nat):Int)) then((idx Aa s6).bind fun x16=>((Po n x16).bind fun y17=>(bif y17 then(Gq n Aa k7 (IntKind.i64.wrap (s6+1))) else(some (.ret false))))) else(some (.out ())))
def Jx:Nat→(List A2)→Option Bool
 | 0,_=>none
 | n+1,Aa=>(bif (((Aa.length:Nat):Int)==0) then(some false) else(bif decide (200<((Aa.length:Nat):Int)) then(some false) else((Qr n Aa 0).bind fun y3=>(bif (y3 != ((Aa.length:Nat):Int)) then(some false) else((Gq n Aa n 0).bind fun o14=>match o14 with|.out _=>((Lz n Aa).bind fun y21=>(some (decide (y21≤30))))|.ret v=>some v)))))
def F8:Nat→Int→Option (List UInt8)
 | 0,_=>none
 | n+1,Cd=>(bif decide (Cd<10) then(some ([UInt8.ofNat (IntKind.u8.wrap (IntKind.i64.wrap (48+Cd))).toNat]:List UInt8)) else(((F8 n) (IntKind.i64.wrap (Int.tdiv Cd 10))).bind fun y2=>(bif decide (y2.length+(([UInt8.ofNat (IntKind.u8.wrap (IntKind.i64.wrap (48+(Int.tmod Cd 10)))).toNat]:List UInt8)).length≤140737488355328) then(some (y2++([UInt8.ofNat (IntKind.u8.wrap (IntKind.i64.wrap (48+(Int.tmod Cd 10)))).toNat]:List UInt8))) else none)))
def I1:Nat→(List A2)→Int→Bool→Option ((List UInt8)×Int)
 | 0,_,_,_=>none
 | n+1,Aa,Bb,Ra=>((idx Aa Bb).bind fun x1=>(bif (x1.B3==1) then((F8 n x1.Bs).bind fun y3=>(some (y3,IntKind.i64.wrap (Bb+1)))) else(bif (x1.B3==2) then(some (x1.Ao,IntKind.i64.wrap (Bb+1))) else(bif (x1.B3==3) then(some (x1.Ao,IntKind.i64.wrap (Bb+1))) else(bif (x1.B3==4) then(bif decide (x1.Cq.length+(([46]:List UInt8)).length≤140737488355328) then(bif decide (((x1.Cq++([46]:List UInt8))).length+x1.Ao.length≤140737488355328) then(some (((x1.Cq++([46]:List UInt8))++x1.Ao),IntKind.i64.wrap (Bb+1))) else none) else none) else(bif (x1.B3==5) then(((I1 n) Aa (IntKind.i64.wrap (Bb+1)) true).bind fun y11=>((Hc n x1.B3).bind fun y13=>(bif decide (y13.length+y11.1.length≤140737488355328) then(some ((y13++y11.1),y11.2)) else none))) else(((I1 n) Aa (IntKind.i64.wrap (Bb+1)) true).bind fun y16=>(((I1 n) Aa y16.2 true).bind fun y18=>(bif decide (y16.1.length+(([32]:List UInt8)).length≤140737488355328) then((Hc n x1.B3).bind fun y21=>(bif decide (((y16.1++([32]:List UInt8))).length+y21.length≤140737488355328) then(bif decide ((((y16.1++([32]:List UInt8))++y21)).length+(([32]:List UInt8)).length≤140737488355328) then(bif decide (((((y16.1++([32]:List UInt8))++y21)++([32]:List UInt8))).length+y18.1.length≤140737488355328) then(bif Ra then(bif decide ((([40]:List UInt8)).length+(((((y16.1++([32]:List UInt8))++y21)++([32]:List UInt8))++y18.1)).length≤140737488355328) then(bif decide (((([40]:List UInt8)++((((y16.1++([32]:List UInt8))++y21)++([32]:List UInt8))++y18.1))).length+(([41]:List UInt8)).length≤140737488355328) then(some (((([40]:List UInt8)++((((y16.1++([32]:List UInt8))++y21)++([32]:List UInt8))++y18.1))++([41]:List UInt8)),y18.2)) else none) else none) else(some (((((y16.1++([32]:List UInt8))++y21)++([32]:List UInt8))++y18.1),y18.2))) else none) else none) else none)) else none)))))))))
def Gk:Nat→(List A2)→Option (List UInt8)
 | 0,_=>none
 | n+1,Aa=>((Jx n Aa).bind fun y1=>(bif y1 then((I1 n Aa 0 false).bind fun y4=>(some y4.1)) else(some ([]:List UInt8))))
def Fv (n:Nat)  (Bp:(List A0)) (Bt:(List A0)):Nat→Bool→Int→Option (LR Unit Bool)
 | 0,_,_=>none
 | k4+1,s2,s3=>(bif decide (s3<((Bp.length:Nat):Int)) then((idx Bp s3).bind fun x13=>((idx Bt s3).bind fun x14=>(bif (x13.A7 != x14.A7) then(some (.ret false)) else(bif (x13.Bd==x14.Bd) then(bif (x13.Be==x14.Be) then(bif (x13.Br==x14.Br) then(bif (x13.B5 != x14.B5) then(some (.ret false)) else(bif (x13.Ch != x14.Ch) then(some (.ret false)) else(bif s2 then(bif (x13.Ab != x14.Ab) then(some (.ret false)) else((Hh n x13.Bm x14.Bm true).bind fun y23=>(bif y23 then((Hh n x13.C6 x14.C6 true).bind fun y26=>(bif y26 then(Fv n Bp Bt k4 true (IntKind.i64.wrap (s3+1))) else(some (.ret false)))) else(some (.ret false))))) else((Hh n x13.Bm x14.Bm false).bind fun y29=>(bif y29 then((Hh n x13.C6 x14.C6 false).bind fun y32=>(bif y32 then(Fv n Bp Bt k4 false (IntKind.i64.wrap (s3+1))) else(some (.ret false)))) else(some (.ret false))))))) else(some (.ret false))) else(some (.ret false))) else(some (.ret false)))))) else(some (.out ())))
def O2:Nat→(List A0)→(List A0)→Bool→Option Bool
 | 0,_,_,_=>none
 | n+1,Bp,Bt,Er=>(bif (((Bp.length:Nat):Int) != ((Bt.length:Nat):Int)) then(some false) else((Fv n Bp Bt n Er 0).bind fun o11=>match o11 with|.out _=>(some true)|.ret v=>some v))
def Mg:Nat→(List A5)→Int→Option (Int×Int)
 | 0,_,_=>none
 | n+1,Aa,Bb=>(bif decide (((Aa.length:Nat):Int)≤Bb) then((Py n Aa Bb).bind fun y2=>(some (6,y2))) else((Py n Aa Bb).bind fun y4=>(some (5,y4))))
def Tn:Nat→(List A5)→Int→Option Bool
 | 0,_,_=>none
 | n+1,Aa,Bb=>(bif decide (Bb<((Aa.length:Nat):Int)) then((idx Aa Bb).bind fun x2=>(bif (x2.A7==1) then((idx Aa Bb).bind fun x4=>((J3 n x4.Ac).bind fun y5=>(some y5))) else(some false))) else(some false))
def Ub:Nat→Int→Option Bool
 | 0,_=>none
 | n+1,Ds=>(bif (Ds==10) then(some true) else(bif (Ds==11) then(some true) else(some (Ds==12))))
def Yn:Nat→Int→Option (List UInt8)
 | 0,_=>none
 | n+1,Ds=>(bif (Ds==2) then(some ([114,61,101,59]:List UInt8)) else(bif (Ds==3) then(some ([114,61,108,59]:List UInt8)) else(bif (Ds==4) then(some ([108,61,101,59]:List UInt8)) else(bif (Ds==5) then(some ([114,61,108,44,101,44,102,59]:List UInt8)) else(bif (Ds==6) then(some ([114,61,108,44,101,59]:List UInt8)) else(bif (Ds==7) then(some ([114,61,108,44,101,59]:List UInt8)) else(bif (Ds==9) then(some ([108,113,101,59]:List UInt8)) else(bif (Ds==10) then(some ([101]:List UInt8)) else(bif (Ds==11) then(some ([101]:List UInt8)) else(bif (Ds==12) then(some ([]:List UInt8)) else(some ([59]:List UInt8))))))))))))
def Qc (n:Nat)  (y1:(List A2)):Nat→Int→Option (LR Unit Bool)
 | 0,_=>none
 | k4+1,s3=>(bif decide (s3<((y1.length:Nat):Int)) then((idx y1 s3).bind fun x13=>(bif (x13.B3 != 2) then(some (.ret false)) else(Qc n y1 k4 (IntKind.i64.wrap (s3+1))))) else(some (.out ())))
def X3:Nat→(List A2)→Option Bool
 | 0,_=>none
 | n+1,Aa=>((Wz n Aa).bind fun y1=>((Qc n y1 n 0).bind fun o11=>match o11 with|.out _=>((Xa n Aa).bind fun y16=>(some y16))|.ret v=>some v))
def Uc:Nat→(List A5)→Int→Option ((List A2)×Int×Int×Int)
 | 0,_,_=>none
 | n+1,Aa,Bb=>((Sj n Aa Bb).bind fun y1=>(bif (y1.2.2.1 != 0) then(some (([]:List A2),0,y1.2.2.1,y1.2.2.2)) else((X3 n y1.1).bind fun y4=>(bif y4 then(some (y1.1,y1.2.1,0,0)) else((idx Aa Bb).bind fun x7=>(some (([]:List A2),0,5,x7.Ab)))))))
def Ea (n:Nat)  (Aa:(List A5)) (Fn:A0) (y1:(List UInt8)):Nat→Int→Int→(List UInt8)→(List UInt8)→(List A2)→(List A2)→Bool→Option (LR (Int×(List UInt8)×(List UInt8)×(List A2)×(List A2)×Bool) (A0×Int×Int×Int))
 | 0,_,_,_,_,_,_,_=>none
 | k10+1,s3,s4,s5,s6,s7,s8,s9=>(bif decide (s4<((y1.length:Nat):Int)) then((idx y1 s4).bind fun x19=>(bif ((x19.toNat:Int)==114) then((Tn n Aa s3).bind fun y21=>(bif y21 then((idx y1 s4).bind fun x24=>(bif ((x24.toNat:Int)==114) then((idx Aa s3).bind fun x26=>(Ea n Aa Fn y1 k10 (IntKind.i64.wrap (s3+1)) (IntKind.i64.wrap (s4+1)) x26.Ac s6 s7 s8 s9)) else((idx Aa s3).bind fun x27=>(Ea n Aa Fn y1 k10 (IntKind.i64.wrap (s3+1)) (IntKind.i64.wrap (s4+1)) s5 x27.Ac s7 s8 s9)))) else((Mg n Aa s3).bind fun y28=>(some (.ret ((⟨Fn.A7,s5,s6,s7,s8,s9,Fn.B5,Fn.Ch,Fn.Ab⟩:A0),0,y28.1,y28.2)))))) else((idx y1 s4).bind fun x30=>(bif ((x30.toNat:Int)==108) then((Tn n Aa s3).bind fun y32=>(bif y32 then((idx y1 s4).bind fun x35=>(bif ((x35.toNat:Int)==114) then((idx Aa s3).bind fun x37=>(Ea n Aa Fn y1 k10 (IntKind.i64.wrap (s3+1)) (IntKind.i64.wrap (s4+1)) x37.Ac s6 s7 s8 s9)) else((idx Aa s3).bind fun x38=>(Ea n Aa Fn y1 k10 (IntKind.i64.wrap (s3+1)) (IntKind.i64.wrap (s4+1)) s5 x38.Ac s7 s8 s9)))) else((Mg n Aa s3).bind fun y39=>(some (.ret ((⟨Fn.A7,s5,s6,s7,s8,s9,Fn.B5,Fn.Ch,Fn.Ab⟩:A0),0,y39.1,y39.2)))))) else((idx y1 s4).bind fun x41=>(bif ((x41.toNat:Int)==101) then((Uc n Aa s3).bind fun y43=>(bif (y43.2.2.1 != 0) then(some (.ret ((⟨Fn.A7,s5,s6,s7,s8,s9,Fn.B5,Fn.Ch,Fn.Ab⟩:A0),0,y43.2.2.1,y43.2.2.2))) else((idx y1 s4).bind fun x46=>(bif ((x46.toNat:Int)==101) then(Ea n Aa Fn y1 k10 y43.2.1 (IntKind.i64.wrap (s4+1)) s5 s6 y43.1 s8 s9) else(Ea n Aa Fn y1 k10 y43.2.1 (IntKind.i64.wrap (s4+1)) s5 s6 s7 y43.1 s9))))) else((idx y1 s4).bind fun x48=>(bif ((x48.toNat:Int)==102) then((Uc n Aa s3).bind fun y50=>(bif (y50.2.2.1 != 0) then(some (.ret ((⟨Fn.A7,s5,s6,s7,s8,s9,Fn.B5,Fn.Ch,Fn.Ab⟩:A0),0,y50.2.2.1,y50.2.2.2))) else((idx y1 s4).bind fun x53=>(bif ((x53.toNat:Int)==101) then(Ea n Aa Fn y1 k10 y50.2.1 (IntKind.i64.wrap (s4+1)) s5 s6 y50.1 s8 s9) else(Ea n Aa Fn y1 k10 y50.2.1 (IntKind.i64.wrap (s4+1)) s5 s6 s7 y50.1 s9))))) else((idx y1 s4).bind fun x55=>(bif ((x55.toNat:Int)==113) then((Fp n Aa s3 ([33,61]:List UInt8)).bind fun y57=>(bif y57 then(Ea n Aa Fn y1 k10 (IntKind.i64.wrap (s3+1)) (IntKind.i64.wrap (s4+1)) s5 s6 s7 s8 true) else((Fp n Aa s3 ([61,61]:List UInt8)).bind fun y60=>(bif y60 then(Ea n Aa Fn y1 k10 (IntKind.i64.wrap (s3+1)) (IntKind.i64.wrap (s4+1)) s5 s6 s7 s8 false) else((Mg n Aa s3).bind fun y63=>(some (.ret ((⟨Fn.A7,s5,s6,s7,s8,false,Fn.B5,Fn.Ch,Fn.Ab⟩:A0),0,y63.1,y63.2)))))))) else(bif (decide (0≤(IntKind.i64.wrap (s4+1)))&&decide ((IntKind.i64.wrap (s4+1))≤((y1.length:Nat):Int))&&decide (0≤s4)&&decide (s4≤(IntKind.i64.wrap (s4+1)))) then((Fp n Aa s3 (List.drop (s4.toNat) (List.take ((IntKind.i64.wrap (s4+1)).toNat) y1))).bind fun y66=>(bif y66 then(Ea n Aa Fn y1 k10 (IntKind.i64.wrap (s3+1)) (IntKind.i64.wrap (s4+1)) s5 s6 s7 s8 s9) else((Mg n Aa s3).bind fun y69=>(some (.ret ((⟨Fn.A7,s5,s6,s7,s8,s9,Fn.B5,Fn.Ch,Fn.Ab⟩:A0),0,y69.1,y69.2)))))) else none))))))))))) else(some (.out (s3,s5,s6,s7,s8,s9))))
def Lv:Nat→(List A5)→Int→A0→Option (A0×Int×Int×Int)
 | 0,_,_,_=>none
 | n+1,Aa,Bb,Fn=>((Yn n Fn.A7).bind fun y1=>((Ea n Aa Fn y1 n Bb 0 Fn.Bd Fn.Be Fn.Bm Fn.C6 Fn.Br).bind fun o17=>match o17 with|.out (x72,x73,x74,x75,x76,x77)=>(some ((⟨Fn.A7,x73,x74,x75,x76,x77,Fn.B5,Fn.Ch,Fn.Ab⟩:A0),x72,0,0))|.ret v=>some v))
def X6:Nat→Option (List (List UInt8))
 | 0=>none
 | n+1=>(some ([([]:List UInt8),([115,107,105,112]:List UInt8),([115,101,116]:List UInt8),([108,111,97,100]:List UInt8),([115,116,111,114,101]:List UInt8),([99,97,115]:List UInt8),([102,97,100,100]:List UInt8),([120,99,104,103]:List UInt8),([102,101,110,99,101]:List UInt8),([97,119,97,105,116]:List UInt8),([105,102]:List UInt8),([119,104,105,108,101]:List UInt8),([108,111,111,112]:List UInt8),([98,114,101,97,107]:List UInt8)]:List (List UInt8)))
def Lm (n:Nat)  (Aa:(List A5)) (Bb:Int):Nat→Int→Option (LR Unit Int)
 | 0,_=>none
 | k2+1,s1=>((X6 n ).bind fun y10=>(bif decide (s1<((y10.length:Nat):Int)) then(bif decide (Bb<((Aa.length:Nat):Int)) then((idx Aa Bb).bind fun x14=>(bif (x14.A7==1) then((idx Aa Bb).bind fun x16=>((X6 n ).bind fun y17=>((idx y17 s1).bind fun x19=>(bif (x16.Ac==x19) then(some (.ret s1)) else(Lm n Aa Bb k2 (IntKind.i64.wrap (s1+1))))))) else(Lm n Aa Bb k2 (IntKind.i64.wrap (s1+1))))) else(some (.out ()))) else(some (.out ()))))
def Vl:Nat→(List A5)→Int→Option Int
 | 0,_,_=>none
 | n+1,Aa,Bb=>((Lm n Aa Bb n 1).bind fun o9=>match o9 with|.out _=>(some 0)|.ret v=>some v)
def Eo (n:Nat) (rec_ref03_braced:(List A5)→Int→Int→Option ((List A0)×Int×Int×Int)) (Aa:(List A5)) (G0:Int):Nat→Int→(List A0)→Option (LR (Int×(List A0)) ((List A0)×Int×Int×Int))
 | 0,_,_=>none
 | k3+1,s1,s2=>(bif decide (s1<((Aa.length:Nat):Int)) then((Fp n Aa s1 ([125]:List UInt8)).bind fun y12=>(bif y12 then(some (.out (s1,s2))) else((Vl n Aa s1).bind fun y15=>(bif (y15==0) then((idx Aa s1).bind fun x18=>(some (.ret (([]:List A0),0,5,x18.Ab)))) else((idx Aa s1).bind fun x19=>((Lv n Aa (IntKind.i64.wrap (s1+1)) (⟨y15,([]:List UInt8),([]:List UInt8),([]:List A2),([]:List A2),false,0,0,x19.Ab⟩:A0)).bind fun y20=>(bif (y20.2.2.1 != 0) then(some (.ret (([]:List A0),0,y20.2.2.1,y20.2.2.2))) else((Ub n y15).bind fun y23=>(bif y23 then((rec_ref03_braced Aa y20.2.1 G0).bind fun y26=>(bif (y26.2.2.1 != 0) then(some (.ret (([]:List A0),0,y26.2.2.1,y26.2.2.2))) else(bif (y15==10) then(bif decide (y26.2.1<((Aa.length:Nat):Int)) then((idx Aa y26.2.1).bind fun x31=>(bif (x31.A7==1) then((idx Aa y26.2.1).bind fun x33=>(bif (x33.Ac==([101,108,115,101]:List UInt8)) then((rec_ref03_braced Aa (IntKind.i64.wrap (y26.2.1+1)) G0).bind fun y35=>(bif (y35.2.2.1 != 0) then(some (.ret (([]:List A0),0,y35.2.2.1,y35.2.2.2))) else(bif decide ((s2.length+1)*121≤140737488355328) then(bif decide ((((s2++([(⟨y20.1.A7,y20.1.Bd,y20.1.Be,y20.1.Bm,y20.1.C6,y20.1.Br,((y26.1.length:Nat):Int),((y35.1.length:Nat):Int),y20.1.Ab⟩:A0)]:List A0))).length+y26.1.length)*121≤140737488355328) then(bif decide (((((s2++([(⟨y20.1.A7,y20.1.Bd,y20.1.Be,y20.1.Bm,y20.1.C6,y20.1.Br,((y26.1.length:Nat):Int),((y35.1.length:Nat):Int),y20.1.Ab⟩:A0)]:List A0))++y26.1)).length+y35.1.length)*121≤140737488355328) then(Eo n rec_ref03_braced Aa G0 k3 y35.2.1 (((s2++([(⟨y20.1.A7,y20.1.Bd,y20.1.Be,y20.1.Bm,y20.1.C6,y20.1.Br,((y26.1.length:Nat):Int),((y35.1.length:Nat):Int),y20.1.Ab⟩:A0)]:List A0))++y26.1)++y35.1)) else none) else none) else none))) else(bif decide ((s2.length+1)*121≤140737488355328) then(bif decide ((((s2++([(⟨y20.1.A7,y20.1.Bd,y20.1.Be,y20.1.Bm,y20.1.C6,y20.1.Br,((y26.1.length:Nat):Int),0,y20.1.Ab⟩:A0)]:List A0))).length+y26.1.length)*121≤140737488355328) then(bif decide (((((s2++([(⟨y20.1.A7,y20.1.Bd,y20.1.Be,y20.1.Bm,y20.1.C6,y20.1.Br,((y26.1.length:Nat):Int),0,y20.1.Ab⟩:A0)]:List A0))++y26.1)).length+0)*121≤140737488355328) then(Eo n rec_ref03_braced Aa G0 k3 y26.2.1 ((s2++([(⟨y20.1.A7,y20.1.Bd,y20.1.Be,y20.1.Bm,y20.1.C6,y20.1.Br,((y26.1.length:Nat):Int),0,y20.1.Ab⟩:A0)]:List A0))++y26.1)) else none) else none) else none))) else(bif decide ((s2.length+1)*121≤140737488355328) then(bif decide ((((s2++([(⟨y20.1.A7,y20.1.Bd,y20.1.Be,y20.1.Bm,y20.1.C6,y20.1.Br,((y26.1.length:Nat):Int),0,y20.1.Ab⟩:A0)]:List A0))).length+y26.1.length)*121≤140737488355328) then(bif decide (((((s2++([(⟨y20.1.A7,y20.1.Bd,y20.1.Be,y20.1.Bm,y20.1.C6,y20.1.Br,((y26.1.length:Nat):Int),0,y20.1.Ab⟩:A0)]:List A0))++y26.1)).length+0)*121≤140737488355328) then(Eo n rec_ref03_braced Aa G0 k3 y26.2.1 ((s2++([(⟨y20.1.A7,y20.1.Bd,y20.1.Be,y20.1.Bm,y20.1.C6,y20.1.Br,((y26.1.length:Nat):Int),0,y20.1.Ab⟩:A0)]:List A0))++y26.1)) else none) else none) else none))) else(bif decide ((s2.length+1)*121≤140737488355328) then(bif decide ((((s2++([(⟨y20.1.A7,y20.1.Bd,y20.1.Be,y20.1.Bm,y20.1.C6,y20.1.Br,((y26.1.length:Nat):Int),0,y20.1.Ab⟩:A0)]:List A0))).length+y26.1.length)*121≤140737488355328) then(bif decide (((((s2++([(⟨y20.1.A7,y20.1.Bd,y20.1.Be,y20.1.Bm,y20.1.C6,y20.1.Br,((y26.1.length:Nat):Int),0,y20.1.Ab⟩:A0)]:List A0))++y26.1)).length+0)*121≤140737488355328) then(Eo n rec_ref03_braced Aa G0 k3 y26.2.1 ((s2++([(⟨y20.1.A7,y20.1.Bd,y20.1.Be,y20.1.Bm,y20.1.C6,y20.1.Br,((y26.1.length:Nat):Int),0,y20.1.Ab⟩:A0)]:List A0))++y26.1)) else none) else none) else none)) else(bif decide ((s2.length+1)*121≤140737488355328) then(bif decide ((((s2++([(⟨y20.1.A7,y20.1.Bd,y20.1.Be,y20.1.Bm,y20.1.C6,y20.1.Br,((y26.1.length:Nat):Int),0,y20.1.Ab⟩:A0)]:List A0))).length+y26.1.length)*121≤140737488355328) then(bif decide (((((s2++([(⟨y20.1.A7,y20.1.Bd,y20.1.Be,y20.1.Bm,y20.1.C6,y20.1.Br,((y26.1.length:Nat):Int),0,y20.1.Ab⟩:A0)]:List A0))++y26.1)).length+0)*121≤140737488355328) then(Eo n rec_ref03_braced Aa G0 k3 y26.2.1 ((s2++([(⟨y20.1.A7,y20.1.Bd,y20.1.Be,y20.1.Bm,y20.1.C6,y20.1.Br,((y26.1.length:Nat):Int),0,y20.1.Ab⟩:A0)]:List A0))++y26.1)) else none) else none) else none)))) else(bif (y15==10) then(bif decide (y20.2.1<((Aa.length:Nat):Int)) then((idx Aa y20.2.1).bind fun x74=>(bif (x74.A7==1) then((idx Aa y20.2.1).bind fun x76=>(bif (x76.Ac==([101,108,115,101]:List UInt8)) then((rec_ref03_braced Aa (IntKind.i64.wrap (y20.2.1+1)) G0).bind fun y78=>(bif (y78.2.2.1 != 0) then(some (.ret (([]:List A0),0,y78.2.2.1,y78.2.2.2))) else(bif decide ((s2.length+1)*121≤140737488355328) then(bif decide ((((s2++([(⟨y20.1.A7,y20.1.Bd,y20.1.Be,y20.1.Bm,y20.1.C6,y20.1.Br,0,((y78.1.length:Nat):Int),y20.1.Ab⟩:A0)]:List A0))).length+0)*121≤140737488355328) then(bif decide ((((s2++([(⟨y20.1.A7,y20.1.Bd,y20.1.Be,y20.1.Bm,y20.1.C6,y20.1.Br,0,((y78.1.length:Nat):Int),y20.1.Ab⟩:A0)]:List A0))).length+y78.1.length)*121≤140737488355328) then(Eo n rec_ref03_braced Aa G0 k3 y78.2.1 ((s2++([(⟨y20.1.A7,y20.1.Bd,y20.1.Be,y20.1.Bm,y20.1.C6,y20.1.Br,0,((y78.1.length:Nat):Int),y20.1.Ab⟩:A0)]:List A0))++y78.1)) else none) else none) else none))) else(bif decide ((s2.length+1)*121≤140737488355328) then(bif decide ((((s2++([(⟨y20.1.A7,y20.1.Bd,y20.1.Be,y20.1.Bm,y20.1.C6,y20.1.Br,0,0,y20.1.Ab⟩:A0)]:List A0))).length+0)*121≤140737488355328) then(bif decide ((((s2++([(⟨y20.1.A7,y20.1.Bd,y20.1.Be,y20.1.Bm,y20.1.C6,y20.1.Br,0,0,y20.1.Ab⟩:A0)]:List A0))).length+0)*121≤140737488355328) then(Eo n rec_ref03_braced Aa G0 k3 y20.2.1 (s2++([(⟨y20.1.A7,y20.1.Bd,y20.1.Be,y20.1.Bm,y20.1.C6,y20.1.Br,0,0,y20.1.Ab⟩:A0)]:List A0))) else none) else none) else none))) else(bif decide ((s2.length+1)*121≤140737488355328) then(bif decide ((((s2++([(⟨y20.1.A7,y20.1.Bd,y20.1.Be,y20.1.Bm,y20.1.C6,y20.1.Br,0,0,y20.1.Ab⟩:A0)]:List A0))).length+0)*121≤140737488355328) then(bif decide ((((s2++([(⟨y20.1.A7,y20.1.Bd,y20.1.Be,y20.1.Bm,y20.1.C6,y20.1.Br,0,0,y20.1.Ab⟩:A0)]:List A0))).length+0)*121≤140737488355328) then(Eo n rec_ref03_braced Aa G0 k3 y20.2.1 (s2++([(⟨y20.1.A7,y20.1.Bd,y20.1.Be,y20.1.Bm,y20.1.C6,y20.1.Br,0,0,y20.1.Ab⟩:A0)]:List A0))) else none) else none) else none))) else(bif decide ((s2.length+1)*121≤140737488355328) then(bif decide ((((s2++([(⟨y20.1.A7,y20.1.Bd,y20.1.Be,y20.1.Bm,y20.1.C6,y20.1.Br,0,0,y20.1.Ab⟩:A0)]:List A0))).length+0)*121≤140737488355328) then(bif decide ((((s2++([(⟨y20.1.A7,y20.1.Bd,y20.1.Be,y20.1.Bm,y20.1.C6,y20.1.Br,0,0,y20.1.Ab⟩:A0)]:List A0))).length+0)*121≤140737488355328) then(Eo n rec_ref03_braced Aa G0 k3 y20.2.1 (s2++([(⟨y20.1.A7,y20.1.Bd,y20.1.Be,y20.1.Bm,y20.1.C6,y20.1.Br,0,0,y20.1.Ab⟩:A0)]:List A0))) else none) else none) else none)) else(bif decide ((s2.length+1)*121≤140737488355328) then(bif decide ((((s2++([(⟨y20.1.A7,y20.1.Bd,y20.1.Be,y20.1.Bm,y20.1.C6,y20.1.Br,0,0,y20.1.Ab⟩:A0)]:List A0))).length+0)*121≤140737488355328) then(bif decide ((((s2++([(⟨y20.1.A7,y20.1.Bd,y20.1.Be,y20.1.Bm,y20.1.C6,y20.1.Br,0,0,y20.1.Ab⟩:A0)]:List A0))).length+0)*121≤140737488355328) then(Eo n rec_ref03_braced Aa G0 k3 y20.2.1 (s2++([(⟨y20.1.A7,y20.1.Bd,y20.1.Be,y20.1.Bm,y20.1.C6,y20.1.Br,0,0,y20.1.Ab⟩:A0)]:List A0))) else none) else none) else none))))))))))) else(some (.out (s1,s2))))
mutual
def G2:Nat→(List A5)→Int→Int→Option ((List A0)×Int×Int×Int)
 | 0,_,_,_=>none
 | n+1,Aa,Bb,G0=>((Fp n Aa Bb ([123]:List UInt8)).bind fun y1=>(bif y1 then(bif decide (30≤G0) then((idx Aa Bb).bind fun x5=>(some (([]:List A0),0,7,x5.Ab))) else(((Kv n) Aa (IntKind.i64.wrap (Bb+1)) (IntKind.i64.wrap (G0+1))).bind fun y6=>(bif (y6.2.2.1 != 0) then(some (([]:List A0),0,y6.2.2.1,y6.2.2.2)) else((Fp n Aa y6.2.1 ([125]:List UInt8)).bind fun y9=>(bif y9 then(some (y6.1,IntKind.i64.wrap (y6.2.1+1),0,0)) else((Mg n Aa y6.2.1).bind fun y12=>(some (([]:List A0),0,y12.1,y12.2)))))))) else((Mg n Aa Bb).bind fun y14=>(some (([]:List A0),0,y14.1,y14.2)))))
def Kv:Nat→(List A5)→Int→Int→Option ((List A0)×Int×Int×Int)
 | 0,_,_,_=>none
 | n+1,Aa,Bb,G0=>((Eo n (G2 n) Aa G0 n Bb ([]:List A0)).bind fun o10=>match o10 with|.out (x121,x122)=>(some (x122,x121,0,0))|.ret v=>some v)
end
def Rb:Nat→(List A5)→Int→Option ((List A0)×Int×Int×Int)
 | 0,_,_=>none
 | n+1,Aa,Bb=>(bif decide (Bb<0) then(some (([]:List A0),0,1,0)) else(bif decide (((Aa.length:Nat):Int)<Bb) then(some (([]:List A0),0,1,0)) else((Kv n Aa Bb 0).bind fun y3=>(bif (y3.2.2.1 != 0) then(some (([]:List A0),0,y3.2.2.1,y3.2.2.2)) else(bif decide (200<((y3.1.length:Nat):Int)) then((Py n Aa Bb).bind fun y7=>(some (([]:List A0),0,2,y7))) else(some (y3.1,y3.2.1,0,0)))))))
def J9:Nat→Option (List Bn)
 | 0=>none
 | n+1=>(some ([(⟨([]:List UInt8),([]:List UInt8),false,false⟩:Bn),(⟨([115,107,105,112]:List UInt8),([59]:List UInt8),false,false⟩:Bn),(⟨([115,101,116]:List UInt8),([114,61,101,59]:List UInt8),false,false⟩:Bn),(⟨([108,111,97,100]:List UInt8),([114,61,108,59]:List UInt8),false,false⟩:Bn),(⟨([115,116,111,114,101]:List UInt8),([108,61,101,59]:List UInt8),false,false⟩:Bn),(⟨([99,97,115]:List UInt8),([114,61,108,44,101,44,102,59]:List UInt8),false,false⟩:Bn),(⟨([102,97,100,100]:List UInt8),([114,61,108,44,101,59]:List UInt8),false,false⟩:Bn),(⟨([120,99,104,103]:List UInt8),([114,61,108,44,101,59]:List UInt8),false,false⟩:Bn),(⟨([102,101,110,99,101]:List UInt8),([59]:List UInt8),false,false⟩:Bn),(⟨([97,119,97,105,116]:List UInt8),([108,113,101,59]:List UInt8),false,false⟩:Bn),(⟨([105,102]:List UInt8),([101]:List UInt8),true,true⟩:Bn),(⟨([119,104,105,108,101]:List UInt8),([101]:List UInt8),true,false⟩:Bn),(⟨([108,111,111,112]:List UInt8),([]:List UInt8),true,false⟩:Bn),(⟨([98,114,101,97,107]:List UInt8),([59]:List UInt8),false,false⟩:Bn)]:List Bn))
def Dd:Nat→Int→(List UInt8)→(List A5)→Int→Int→Int→(List ((List UInt8)×Int))→Option Bool
 | 0,_,_,_,_,_,_,_=>none
 | n+1,E4,A7q,p_l,p_i,p_e,p_at,Al=>(bif decide (p_i<((p_l.length:Nat):Int)) then((idx p_l p_i).bind fun x2=>(bif (x2.A7==E4) then((idx p_l p_i).bind fun x4=>(some (x4.Ac==A7q))) else(some false))) else(some false))
def My:Nat→Int→Option (Bn×Bool)
 | 0,_=>none
 | n+1,Cd=>((J9 n ).bind fun y1=>(bif decide (Cd<1) then(some ((⟨([]:List UInt8),([]:List UInt8),false,false⟩:Bn),false)) else(bif decide (((y1.length:Nat):Int)≤Cd) then(some ((⟨([]:List UInt8),([]:List UInt8),false,false⟩:Bn),false)) else((idx y1 Cd).bind fun x5=>(some (x5,true))))))
def Pp:Nat→Option Bn
 | 0=>none
 | n+1=>((J9 n ).bind fun y1=>(some (⟨([]:List UInt8),([]:List UInt8),false,false⟩:Bn)))
def Ei:Nat→Int→(List A5)→Int→Int→Int→(List ((List UInt8)×Int))→Option Int
 | 0,_,_,_,_,_,_=>none
 | n+1,Bb,p_l,p_i,p_e,p_at,Al=>(bif decide (Bb<((p_l.length:Nat):Int)) then((idx p_l Bb).bind fun x2=>(some x2.Ab)) else(bif decide (0<((p_l.length:Nat):Int)) then((idx p_l (IntKind.i64.wrap (((p_l.length:Nat):Int) - 1))).bind fun x4=>((idx p_l (IntKind.i64.wrap (((p_l.length:Nat):Int) - 1))).bind fun x5=>(some (IntKind.i64.wrap (x4.Ab+((x5.Ac.length:Nat):Int)))))) else(some 0)))
def D4:Nat→(List A5)→Int→Int→Int→(List ((List UInt8)×Int))→Option (Int×Int)
 | 0,_,_,_,_,_=>none
 | n+1,p_l,p_i,p_e,p_at,Al=>(bif (p_e != 0) then(some (p_e,p_at)) else((Ei n p_i p_l p_i p_e p_at Al).bind fun y2=>(bif decide (((p_l.length:Nat):Int)≤p_i) then(some (6,y2)) else(some (5,y2)))))
def Bl:Nat→(List UInt8)→(List A5)→Int→Int→Int→(List ((List UInt8)×Int))→Option (Int×Int×Int)
 | 0,_,_,_,_,_,_=>none
 | n+1,Kp,p_l,p_i,p_e,p_at,Al=>(bif (p_e != 0) then(some (p_i,p_e,p_at)) else((Dd n 3 Kp p_l p_i p_e p_at Al).bind fun y2=>(bif y2 then(some (IntKind.i64.wrap (p_i+1),p_e,p_at)) else((D4 n p_l p_i p_e p_at Al).bind fun y5=>(some (p_i,y5.1,y5.2))))))
def Gy:Nat→(List A5)→Int→Int→Int→(List ((List UInt8)×Int))→Option ((List UInt8)×Int×Int×Int)
 | 0,_,_,_,_,_=>none
 | n+1,p_l,p_i,p_e,p_at,Al=>(bif (p_e != 0) then(some (([]:List UInt8),p_i,p_e,p_at)) else(bif decide (((p_l.length:Nat):Int)≤p_i) then((D4 n p_l p_i p_e p_at Al).bind fun y3=>(some (([]:List UInt8),p_i,y3.1,y3.2))) else((idx p_l p_i).bind fun x5=>(bif (x5.A7 != 1) then((D4 n p_l p_i p_e p_at Al).bind fun y7=>(some (([]:List UInt8),p_i,y7.1,y7.2))) else((idx p_l p_i).bind fun x9=>((Dp n x9.Ac).bind fun y10=>(bif y10 then((idx p_l (IntKind.i64.wrap ((IntKind.i64.wrap (p_i+1)) - 1))).bind fun x13=>(some (x13.Ac,IntKind.i64.wrap (p_i+1),p_e,p_at))) else((D4 n p_l p_i p_e p_at Al).bind fun y14=>(some (([]:List UInt8),p_i,y14.1,y14.2))))))))))
def Io:Nat→(List A5)→Int→Int→Int→(List ((List UInt8)×Int))→Int→(List UInt8)→(List UInt8)→(List A2)→(List A2)→Bool→Int→Int→Int→Option (Int×Int×Int×(List UInt8))
 | 0,_,_,_,_,_,_,_,_,_,_,_,_,_,_=>none
 | n+1,Fl,I4,I5,G5,Fm,Dg,Ee,Ef,Hu,Hv,G6,Dh,Di,F6=>((Gy n Fl I4 I5 G5 Fm).bind fun y1=>(some (y1.2.1,y1.2.2.1,y1.2.2.2,y1.1)))
def Il:Nat→(List A5)→Int→Int→Int→(List ((List UInt8)×Int))→Int→(List UInt8)→(List UInt8)→(List A2)→(List A2)→Bool→Int→Int→Int→Option (Int×Int×Int×(List UInt8))
 | 0,_,_,_,_,_,_,_,_,_,_,_,_,_,_=>none
 | n+1,Fl,I4,I5,G5,Fm,Dg,Ee,Ef,Hu,Hv,G6,Dh,Di,F6=>((Gy n Fl I4 I5 G5 Fm).bind fun y1=>(some (y1.2.1,y1.2.2.1,y1.2.2.2,y1.1)))
def Gd (n:Nat)  (y1:(List A2)):Nat→Int→Option (LR Unit Bool)
 | 0,_=>none
 | k4+1,s3=>(bif decide (s3<((y1.length:Nat):Int)) then((idx y1 s3).bind fun x13=>(bif (x13.B3 != 2) then(some (.ret false)) else(Gd n y1 k4 (IntKind.i64.wrap (s3+1))))) else(some (.out ())))
def J6:Nat→(List A2)→Option Bool
 | 0,_=>none
 | n+1,Aa=>((Lq n Aa).bind fun y1=>((Gd n y1 n 0).bind fun o11=>match o11 with|.out _=>((Jx n Aa).bind fun y16=>(some y16))|.ret v=>some v))
def Gx:Nat→(List A5)→Int→Int→Int→(List ((List UInt8)×Int))→Option ((List A2)×Int×Int×Int)
 | 0,_,_,_,_,_=>none
 | n+1,p_l,p_i,p_e,p_at,Al=>(bif (p_e != 0) then(some (([]:List A2),p_i,p_e,p_at)) else((I9 n p_l p_i).bind fun y2=>(bif (y2.2.2.1 != 0) then(some (([]:List A2),p_i,y2.2.2.1,y2.2.2.2)) else((J6 n y2.1).bind fun y5=>(bif y5 then(some (y2.1,y2.2.1,p_e,p_at)) else((D4 n p_l p_i p_e p_at Al).bind fun y8=>(some (([]:List A2),p_i,y8.1,y8.2))))))))
def Ii:Nat→(List A5)→Int→Int→Int→(List ((List UInt8)×Int))→Int→(List UInt8)→(List UInt8)→(List A2)→(List A2)→Bool→Int→Int→Int→Option (Int×Int×Int×(List A2))
 | 0,_,_,_,_,_,_,_,_,_,_,_,_,_,_=>none
 | n+1,Fl,I4,I5,G5,Fm,Dg,Ee,Ef,Hu,Hv,G6,Dh,Di,F6=>((Gx n Fl I4 I5 G5 Fm).bind fun y1=>(some (y1.2.1,y1.2.2.1,y1.2.2.2,y1.1)))
def Ij:Nat→(List A5)→Int→Int→Int→(List ((List UInt8)×Int))→Int→(List UInt8)→(List UInt8)→(List A2)→(List A2)→Bool→Int→Int→Int→Option (Int×Int×Int×(List A2))
 | 0,_,_,_,_,_,_,_,_,_,_,_,_,_,_=>none
 | n+1,Fl,I4,I5,G5,Fm,Dg,Ee,Ef,Hu,Hv,G6,Dh,Di,F6=>((Gx n Fl I4 I5 G5 Fm).bind fun y1=>(some (y1.2.1,y1.2.2.1,y1.2.2.2,y1.1)))
def In:Nat→(List A5)→Int→Int→Int→(List ((List UInt8)×Int))→Int→(List UInt8)→(List UInt8)→(List A2)→(List A2)→Bool→Int→Int→Int→Option (Int×Int×Int×Bool)
 | 0,_,_,_,_,_,_,_,_,_,_,_,_,_,_=>none
 | n+1,Fl,I4,I5,G5,Fm,Dg,Ee,Ef,Hu,Hv,G6,Dh,Di,F6=>((Dd n 3 ([33,61]:List UInt8) Fl I4 I5 G5 Fm).bind fun y1=>(bif y1 then(some (IntKind.i64.wrap (I4+1),I5,G5,true)) else((Bl n ([61,61]:List UInt8) Fl I4 I5 G5 Fm).bind fun y4=>(some (y4.1,y4.2.1,y4.2.2,false)))))
def C5 (n:Nat) (rec_stmt_parser_one:Int→(List A5)→Int→Int→Int→(List ((List UInt8)×Int))→Option ((List A0)×Int×Int×Int)) (F3:Int) (p_l:(List A5)) (Al:(List ((List UInt8)×Int))):Nat→Int→Int→Int→(List A0)→Option (LR (Int×Int×Int×(List A0)) ((List A0)×Int×Int×Int))
 | 0,_,_,_,_=>none
 | k5+1,s1,s2,s3,s4=>(bif (s2==0) then(bif decide (s1<((p_l.length:Nat):Int)) then((Dd n 3 ([125]:List UInt8) p_l s1 s2 s3 Al).bind fun y15=>(bif y15 then(some (.out (s1,s2,s3,s4))) else((rec_stmt_parser_one F3 p_l s1 s2 s3 Al).bind fun y18=>(bif decide ((s4.length+y18.1.length)*121≤140737488355328) then(C5 n rec_stmt_parser_one F3 p_l Al k5 y18.2.1 y18.2.2.1 y18.2.2.2 (s4++y18.1)) else none)))) else(some (.out (s1,s2,s3,s4)))) else(some (.out (s1,s2,s3,s4))))
def B8 (n:Nat)  (p_l:(List A5)) (Al:(List ((List UInt8)×Int))) (x4:A5) (y5:(Bn×Bool)) (y8:Int):Nat→Int→Int→Int→Int→(List UInt8)→(List UInt8)→(List A2)→(List A2)→Bool→Option (LR (Int×Int×Int×(List UInt8)×(List UInt8)×(List A2)×(List A2)×Bool) ((List A0)×Int×Int×Int))
 | 0,_,_,_,_,_,_,_,_,_=>none
 | k24+1,s15,s16,s17,s18,s19,s20,s21,s22,s23=>(bif decide (s15<((y5.1.f_form.length:Nat):Int)) then((idx y5.1.f_form s15).bind fun x33=>(bif decide ((x33.toNat:Int)=114) then(bif (s17==0) then((Io n p_l s16 s17 s18 Al (Bf Al x4.Ac 0) s19 s20 s21 s22 s23 0 0 y8).bind fun y36=>(B8 n p_l Al x4 y5 y8 k24 (IntKind.i64.wrap (s15+1)) y36.1 y36.2.1 y36.2.2.1 y36.2.2.2 s20 s21 s22 s23)) else(bif (decide (0≤(IntKind.i64.wrap (s15+1)))&&decide ((IntKind.i64.wrap (s15+1))≤((y5.1.f_form.length:Nat):Int))&&decide (0≤s15)&&decide (s15≤(IntKind.i64.wrap (s15+1)))) then((Bl n (List.drop (s15.toNat) (List.take ((IntKind.i64.wrap (s15+1)).toNat) y5.1.f_form)) p_l s16 s17 s18 Al).bind fun y39=>(B8 n p_l Al x4 y5 y8 k24 (IntKind.i64.wrap (s15+1)) y39.1 y39.2.1 y39.2.2 s19 s20 s21 s22 s23)) else none)) else(bif decide ((x33.toNat:Int)=108) then(bif (s17==0) then((Il n p_l s16 s17 s18 Al (Bf Al x4.Ac 0) s19 s20 s21 s22 s23 0 0 y8).bind fun y43=>(B8 n p_l Al x4 y5 y8 k24 (IntKind.i64.wrap (s15+1)) y43.1 y43.2.1 y43.2.2.1 s19 y43.2.2.2 s21 s22 s23)) else(bif (decide (0≤(IntKind.i64.wrap (s15+1)))&&decide ((IntKind.i64.wrap (s15+1))≤((y5.1.f_form.length:Nat):Int))&&decide (0≤s15)&&decide (s15≤(IntKind.i64.wrap (s15+1)))) then((Bl n (List.drop (s15.toNat) (List.take ((IntKind.i64.wrap (s15+1)).toNat) y5.1.f_form)) p_l s16 s17 s18 Al).bind fun y46=>(B8 n p_l Al x4 y5 y8 k24 (IntKind.i64.wrap (s15+1)) y46.1 y46.2.1 y46.2.2 s19 s20 s21 s22 s23)) else none)) else(bif decide ((x33.toNat:Int)=101) then(bif (s17==0) then((Ii n p_l s16 s17 s18 Al (Bf Al x4.Ac 0) s19 s20 s21 s22 s23 0 0 y8).bind fun y50=>(B8 n p_l Al x4 y5 y8 k24 (IntKind.i64.wrap (s15+1)) y50.1 y50.2.1 y50.2.2.1 s19 s20 y50.2.2.2 s22 s23)) else(bif (decide (0≤(IntKind.i64.wrap (s15+1)))&&decide ((IntKind.i64.wrap (s15+1))≤((y5.1.f_form.length:Nat):Int))&&decide (0≤s15)&&decide (s15≤(IntKind.i64.wrap (s15+1)))) then((Bl n (List.drop (s15.toNat) (List.take ((IntKind.i64.wrap (s15+1)).toNat) y5.1.f_form)) p_l s16 s17 s18 Al).bind fun y53=>(B8 n p_l Al x4 y5 y8 k24 (IntKind.i64.wrap (s15+1)) y53.1 y53.2.1 y53.2.2 s19 s20 s21 s22 s23)) else none)) else(bif decide ((x33.toNat:Int)=102) then(bif (s17==0) then((Ij n p_l s16 s17 s18 Al (Bf Al x4.Ac 0) s19 s20 s21 s22 s23 0 0 y8).bind fun y57=>(B8 n p_l Al x4 y5 y8 k24 (IntKind.i64.wrap (s15+1)) y57.1 y57.2.1 y57.2.2.1 s19 s20 s21 y57.2.2.2 s23)) else(bif (decide (0≤(IntKind.i64.wrap (s15+1)))&&decide ((IntKind.i64.wrap (s15+1))≤((y5.1.f_form.length:Nat):Int))&&decide (0≤s15)&&decide (s15≤(IntKind.i64.wrap (s15+1)))) then((Bl n (List.drop (s15.toNat) (List.take ((IntKind.i64.wrap (s15+1)).toNat) y5.1.f_form)) p_l s16 s17 s18 Al).bind fun y60=>(B8 n p_l Al x4 y5 y8 k24 (IntKind.i64.wrap (s15+1)) y60.1 y60.2.1 y60.2.2 s19 s20 s21 s22 s23)) else none)) else(bif decide ((x33.toNat:Int)=113) then(bif (s17==0) then((In n p_l s16 s17 s18 Al (Bf Al x4.Ac 0) s19 s20 s21 s22 s23 0 0 y8).bind fun y64=>(B8 n p_l Al x4 y5 y8 k24 (IntKind.i64.wrap (s15+1)) y64.1 y64.2.1 y64.2.2.1 s19 s20 s21 s22 y64.2.2.2)) else(bif (decide (0≤(IntKind.i64.wrap (s15+1)))&&decide ((IntKind.i64.wrap (s15+1))≤((y5.1.f_form.length:Nat):Int))&&decide (0≤s15)&&decide (s15≤(IntKind.i64.wrap (s15+1)))) then((Bl n (List.drop (s15.toNat) (List.take ((IntKind.i64.wrap (s15+1)).toNat) y5.1.f_form)) p_l s16 s17 s18 Al).bind fun y67=>(B8 n p_l Al x4 y5 y8 k24 (IntKind.i64.wrap (s15+1)) y67.1 y67.2.1 y67.2.2 s19 s20 s21 s22 s23)) else none)) else(bif (decide (0≤(IntKind.i64.wrap (s15+1)))&&decide ((IntKind.i64.wrap (s15+1))≤((y5.1.f_form.length:Nat):Int))&&decide (0≤s15)&&decide (s15≤(IntKind.i64.wrap (s15+1)))) then((Bl n (List.drop (s15.toNat) (List.take ((IntKind.i64.wrap (s15+1)).toNat) y5.1.f_form)) p_l s16 s17 s18 Al).bind fun y70=>(B8 n p_l Al x4 y5 y8 k24 (IntKind.i64.wrap (s15+1)) y70.1 y70.2.1 y70.2.2 s19 s20 s21 s22 s23)) else none))))))) else(some (.out (s16,s17,s18,s19,s20,s21,s22,s23))))
mutual
def Bu:Nat→Int→(List A5)→Int→Int→Int→(List ((List UInt8)×Int))→Option ((List A0)×Int×Int×Int)
 | 0,_,_,_,_,_,_=>none
 | n+1,F3,p_l,p_i,p_e,p_at,Al=>(bif (p_e==0) then((Dd n 3 ([123]:List UInt8) p_l p_i p_e p_at Al).bind fun y2=>(bif y2 then(bif decide (30≤F3) then((Ei n p_i p_l p_i p_e p_at Al).bind fun y6=>((Bl n ([123]:List UInt8) p_l p_i 7 y6 Al).bind fun y8=>(((C3 n) (IntKind.i64.wrap (F3+1)) p_l y8.1 y8.2.1 y8.2.2 Al).bind fun y10=>((Bl n ([125]:List UInt8) p_l y10.2.1 y10.2.2.1 y10.2.2.2 Al).bind fun y12=>(some (y10.1,y12.1,y12.2.1,y12.2.2)))))) else((Bl n ([123]:List UInt8) p_l p_i p_e p_at Al).bind fun y14=>(((C3 n) (IntKind.i64.wrap (F3+1)) p_l y14.1 y14.2.1 y14.2.2 Al).bind fun y16=>((Bl n ([125]:List UInt8) p_l y16.2.1 y16.2.2.1 y16.2.2.2 Al).bind fun y18=>(some (y16.1,y18.1,y18.2.1,y18.2.2)))))) else((Bl n ([123]:List UInt8) p_l p_i p_e p_at Al).bind fun y20=>(((C3 n) (IntKind.i64.wrap (F3+1)) p_l y20.1 y20.2.1 y20.2.2 Al).bind fun y22=>((Bl n ([125]:List UInt8) p_l y22.2.1 y22.2.2.1 y22.2.2.2 Al).bind fun y24=>(some (y22.1,y24.1,y24.2.1,y24.2.2))))))) else((Bl n ([123]:List UInt8) p_l p_i p_e p_at Al).bind fun y26=>(((C3 n) (IntKind.i64.wrap (F3+1)) p_l y26.1 y26.2.1 y26.2.2 Al).bind fun y28=>((Bl n ([125]:List UInt8) p_l y28.2.1 y28.2.2.1 y28.2.2.2 Al).bind fun y30=>(some (y28.1,y30.1,y30.2.1,y30.2.2))))))
def C3:Nat→Int→(List A5)→Int→Int→Int→(List ((List UInt8)×Int))→Option ((List A0)×Int×Int×Int)
 | 0,_,_,_,_,_,_=>none
 | n+1,F3,p_l,p_i,p_e,p_at,Al=>((C5 n (Bw n) F3 p_l Al n p_i p_e p_at ([]:List A0)).bind fun o12=>match o12 with|.out (x23,x24,x25,x26)=>(some (x26,x23,x24,x25))|.ret v=>some v)
def Bw:Nat→Int→(List A5)→Int→Int→Int→(List ((List UInt8)×Int))→Option ((List A0)×Int×Int×Int)
 | 0,_,_,_,_,_,_=>none
 | n+1,F3,p_l,p_i,p_e,p_at,Al=>(bif decide (p_i<((p_l.length:Nat):Int)) then((idx p_l p_i).bind fun x2=>(bif (x2.A7==1) then((idx p_l p_i).bind fun x4=>((My n (Bf Al x4.Ac 0)).bind fun y5=>(bif y5.2 then((Ei n p_i p_l p_i p_e p_at Al).bind fun y8=>(Sg n fun n10=>((B8 n p_l Al x4 y5 y8 n 0 (IntKind.i64.wrap (p_i+1)) p_e p_at ([]:List UInt8) ([]:List UInt8) ([]:List A2) ([]:List A2) false).bind fun o31=>match o31 with|.out (x73,x74,x75,x76,x77,x78,x79,x80)=>(bif y5.1.f_body then(((Bu n) F3 p_l x73 x74 x75 Al).bind fun y82=>(bif y5.1.f_more then(bif (y82.2.2.1==0) then((Dd n 1 ([101,108,115,101]:List UInt8) p_l y82.2.1 y82.2.2.1 y82.2.2.2 Al).bind fun y86=>(bif y86 then(((Bu n) F3 p_l (IntKind.i64.wrap (y82.2.1+1)) y82.2.2.1 y82.2.2.2 Al).bind fun y89=>(bif decide (((([(⟨(Bf Al x4.Ac 0),x76,x77,x78,x79,x80,((y82.1.length:Nat):Int),((y89.1.length:Nat):Int),y8⟩:A0)]:List A0)).length+y82.1.length)*121≤140737488355328) then(bif decide ((((([(⟨(Bf Al x4.Ac 0),x76,x77,x78,x79,x80,((y82.1.length:Nat):Int),((y89.1.length:Nat):Int),y8⟩:A0)]:List A0)++y82.1)).length+y89.1.length)*121≤140737488355328) then(some (((([(⟨(Bf Al x4.Ac 0),x76,x77,x78,x79,x80,((y82.1.length:Nat):Int),((y89.1.length:Nat):Int),y8⟩:A0)]:List A0)++y82.1)++y89.1),y89.2.1,y89.2.2.1,y89.2.2.2)) else none) else none)) else(bif decide (((([(⟨(Bf Al x4.Ac 0),x76,x77,x78,x79,x80,((y82.1.length:Nat):Int),0,y8⟩:A0)]:List A0)).length+y82.1.length)*121≤140737488355328) then(bif decide ((((([(⟨(Bf Al x4.Ac 0),x76,x77,x78,x79,x80,((y82.1.length:Nat):Int),0,y8⟩:A0)]:List A0)++y82.1)).length+0)*121≤140737488355328) then(some ((([(⟨(Bf Al x4.Ac 0),x76,x77,x78,x79,x80,((y82.1.length:Nat):Int),0,y8⟩:A0)]:List A0)++y82.1),y82.2.1,y82.2.2.1,y82.2.2.2)) else none) else none))) else(bif decide (((([(⟨(Bf Al x4.Ac 0),x76,x77,x78,x79,x80,((y82.1.length:Nat):Int),0,y8⟩:A0)]:List A0)).length+y82.1.length)*121≤140737488355328) then(bif decide ((((([(⟨(Bf Al x4.Ac 0),x76,x77,x78,x79,x80,((y82.1.length:Nat):Int),0,y8⟩:A0)]:List A0)++y82.1)).length+0)*121≤140737488355328) then(some ((([(⟨(Bf Al x4.Ac 0),x76,x77,x78,x79,x80,((y82.1.length:Nat):Int),0,y8⟩:A0)]:List A0)++y82.1),y82.2.1,y82.2.2.1,y82.2.2.2)) else none) else none)) else(bif decide (((([(⟨(Bf Al x4.Ac 0),x76,x77,x78,x79,x80,((y82.1.length:Nat):Int),0,y8⟩:A0)]:List A0)).length+y82.1.length)*121≤140737488355328) then(bif decide ((((([(⟨(Bf Al x4.Ac 0),x76,x77,x78,x79,x80,((y82.1.length:Nat):Int),0,y8⟩:A0)]:List A0)++y82.1)).length+0)*121≤140737488355328) then(some ((([(⟨(Bf Al x4.Ac 0),x76,x77,x78,x79,x80,((y82.1.length:Nat):Int),0,y8⟩:A0)]:List A0)++y82.1),y82.2.1,y82.2.2.1,y82.2.2.2)) else none) else none))) else(bif y5.1.f_more then(bif (x74==0) then((Dd n 1 ([101,108,115,101]:List UInt8) p_l x73 x74 x75 Al).bind fun y112=>(bif y112 then(((Bu n) F3 p_l (IntKind.i64.wrap (x73+1)) x74 x75 Al).bind fun y115=>(bif decide (((([(⟨(Bf Al x4.Ac 0),x76,x77,x78,x79,x80,0,((y115.1.length:Nat):Int),y8⟩:A0)]:List A0)).length+y115.1.length)*121≤140737488355328) then(some ((([(⟨(Bf Al x4.Ac 0),x76,x77,x78,x79,x80,0,((y115.1.length:Nat):Int),y8⟩:A0)]:List A0)++y115.1),y115.2.1,y115.2.2.1,y115.2.2.2)) else none)) else(some (([(⟨(Bf Al x4.Ac 0),x76,x77,x78,x79,x80,0,0,y8⟩:A0)]:List A0),x73,x74,x75)))) else(some (([(⟨(Bf Al x4.Ac 0),x76,x77,x78,x79,x80,0,0,y8⟩:A0)]:List A0),x73,x74,x75))) else(some (([(⟨(Bf Al x4.Ac 0),x76,x77,x78,x79,x80,0,0,y8⟩:A0)]:List A0),x73,x74,x75))))|.ret v=>some v))) else((D4 n p_l p_i p_e p_at Al).bind fun y134=>(some (([]:List A0),p_i,y134.1,y134.2)))))) else((Pp n ).bind fun y136=>((D4 n p_l p_i p_e p_at Al).bind fun y138=>(some (([]:List A0),p_i,y138.1,y138.2)))))) else((Pp n ).bind fun y140=>((D4 n p_l p_i p_e p_at Al).bind fun y142=>(some (([]:List A0),p_i,y142.1,y142.2)))))
end
def J1 (n:Nat)  (y3:(List Bn)):Nat→Int→(List ((List UInt8)×Int))→Option (LR (List ((List UInt8)×Int)) ((List A0)×Int×Int×Int))
 | 0,_,_=>none
 | k7+1,s5,s6=>(bif decide (s5<((y3.length:Nat):Int)) then((idx y3 s5).bind fun x16=>(bif (x16.f_word==([]:List UInt8)) then(J1 n y3 k7 (IntKind.i64.wrap (s5+1)) s6) else(J1 n y3 k7 (IntKind.i64.wrap (s5+1)) (Re s6 x16.f_word s5)))) else(some (.out s6)))
def Ic:Nat→(List A5)→Int→Option ((List A0)×Int×Int×Int)
 | 0,_,_=>none
 | n+1,Aa,Bb=>(bif decide (Bb<0) then(some (([]:List A0),0,1,0)) else(bif decide (((Aa.length:Nat):Int)<Bb) then(some (([]:List A0),0,1,0)) else((J9 n ).bind fun y3=>((J1 n y3 n 0 ([]:(List ((List UInt8)×Int)))).bind fun o14=>match o14 with|.out x20=>((C3 n 0 Aa Bb 0 0 x20).bind fun y21=>(bif (y21.2.2.1 != 0) then(some (([]:List A0),0,y21.2.2.1,y21.2.2.2)) else(bif decide (200<((y21.1.length:Nat):Int)) then((Ei n Bb Aa y21.2.1 y21.2.2.1 y21.2.2.2 x20).bind fun y25=>(some (([]:List A0),0,2,y25))) else(some (y21.1,y21.2.1,0,0)))))|.ret v=>some v))))
def Nu:Nat→Int→Option Bool
 | 0,_=>none
 | n+1,Ds=>(bif (Ds==10) then(some true) else(bif (Ds==11) then(some true) else(bif (Ds==12) then(some true) else(some false))))
def D9 (n:Nat) (rec_stmt_depth_1:Int→Int→Int→(List A0)→Int→Option (Bool×Int)) (Aa:(List A0)) (Dn:Int) (o0:(List A0)):Nat→Int→Int→Option (LR Int (Bool×Int))
 | 0,_,_=>none
 | k3+1,s1,s2=>(bif decide (s1<Dn) then((idx Aa s1).bind fun x12=>(bif decide (x12.B5<0) then(some (.ret (false,s2))) else(bif decide (x12.Ch<0) then(some (.ret (false,s2))) else(bif decide ((IntKind.i64.wrap ((IntKind.i64.wrap (Dn - s1)) - 1))<x12.B5) then(some (.ret (false,s2))) else(bif decide ((IntKind.i64.wrap ((IntKind.i64.wrap ((IntKind.i64.wrap (Dn - s1)) - 1)) - x12.B5))<x12.Ch) then(some (.ret (false,s2))) else((rec_stmt_depth_1 s1 (IntKind.i64.wrap ((IntKind.i64.wrap (s1+1))+x12.B5)) (IntKind.i64.wrap ((IntKind.i64.wrap ((IntKind.i64.wrap (s1+1))+x12.B5))+x12.Ch)) o0 s2).bind fun y17=>(bif y17.1 then(D9 n rec_stmt_depth_1 Aa Dn o0 k3 (IntKind.i64.wrap ((IntKind.i64.wrap ((IntKind.i64.wrap (s1+1))+x12.B5))+x12.Ch)) y17.2) else(some (.ret (false,y17.2)))))))))) else(some (.out s2)))
mutual
def Ky:Nat→(List A0)→Int→Int→Option Int
 | 0,_,_,_=>none
 | n+1,Aa,E5,Dn=>(((Hi n) Aa E5 Dn Aa 0).bind fun y1=>(bif y1.1 then(some y1.2) else(some (-1))))
def Ho:Nat→Int→Int→Int→(List A0)→Int→Option (Bool×Int)
 | 0,_,_,_,_,_=>none
 | n+1,G7,L8,Ms,o0,o1=>(((Ky n) o0 (IntKind.i64.wrap (G7+1)) L8).bind fun y1=>(((Ky n) o0 L8 Ms).bind fun y3=>((idx o0 G7).bind fun x5=>((Nu n x5.A7).bind fun y6=>(bif y6 then(bif (y1 != (-1)) then(some ((y3 != (-1)),A67 o1 (IntKind.i64.wrap (1+y1)) (IntKind.i64.wrap (1+y3)))) else(some (false,A67 o1 (IntKind.i64.wrap (1+y1)) (IntKind.i64.wrap (1+y3))))) else(bif (y1 != (-1)) then(some ((y3 != (-1)),o1)) else(some (false,o1))))))))
def Hi:Nat→(List A0)→Int→Int→(List A0)→Int→Option (Bool×Int)
 | 0,_,_,_,_,_=>none
 | n+1,Aa,E5,Dn,o0,o1=>((D9 n (Ho n) Aa Dn o0 n E5 o1).bind fun o10=>match o10 with|.out x21=>(some (true,x21))|.ret v=>some v)
end
def R1:Nat→(List A0)→Option Int
 | 0,_=>none
 | n+1,Aa=>((Ky n Aa 0 ((Aa.length:Nat):Int)).bind fun y1=>(some y1))
def Gt (n:Nat)  (Kq:Bn) (Mv:Int):Nat→Int→Option (LR Unit Bool)
 | 0,_=>none
 | k2+1,s1=>(bif decide (s1<((Kq.f_form.length:Nat):Int)) then((idx Kq.f_form s1).bind fun x11=>(bif ((x11.toNat:Int)==Mv) then(some (.ret true)) else(Gt n Kq Mv k2 (IntKind.i64.wrap (s1+1))))) else(some (.out ())))
def El:Nat→Bn→Int→Option Bool
 | 0,_,_=>none
 | n+1,Kq,Mv=>((Gt n Kq Mv n 0).bind fun o9=>match o9 with|.out _=>(some false)|.ret v=>some v)
def Iw:Nat→Int→(List UInt8)→(List UInt8)→(List UInt8)→Bool→Bool→Option Bool
 | 0,_,_,_,_,_,_=>none
 | n+1,G8,Kp,F9,Fa,Fb,Fc=>((El n (⟨F9,Fa,Fb,Fc⟩:Bn) G8).bind fun y1=>(bif y1 then((Dp n Kp).bind fun y4=>(bif y4 then(some true) else((El n (⟨F9,Fa,Fb,Fc⟩:Bn) G8).bind fun y7=>(bif y7 then(some false) else(some (Kp==([]:List UInt8))))))) else((El n (⟨F9,Fa,Fb,Fc⟩:Bn) G8).bind fun y10=>(bif y10 then(some false) else(some (Kp==([]:List UInt8)))))))
def J0:Nat→Int→(List A2)→(List UInt8)→(List UInt8)→Bool→Bool→Option Bool
 | 0,_,_,_,_,_,_=>none
 | n+1,G8,A3a,F9,Fa,Fb,Fc=>((El n (⟨F9,Fa,Fb,Fc⟩:Bn) G8).bind fun y1=>(bif y1 then((J6 n A3a).bind fun y4=>(bif y4 then(some true) else((El n (⟨F9,Fa,Fb,Fc⟩:Bn) G8).bind fun y7=>(bif y7 then(some false) else(some (((A3a.length:Nat):Int)==0)))))) else((El n (⟨F9,Fa,Fb,Fc⟩:Bn) G8).bind fun y10=>(bif y10 then(some false) else(some (((A3a.length:Nat):Int)==0))))))
def Ru:Nat→A0→Option Bool
 | 0,_=>none
 | n+1,B1=>((My n B1.A7).bind fun y1=>(bif y1.2 then(bif decide (B1.Ab<0) then(some false) else(bif B1.Br then((El n y1.1 113).bind fun y6=>(bif y6 then((Iw n 114 B1.Bd y1.1.f_word y1.1.f_form y1.1.f_body y1.1.f_more).bind fun y9=>(bif y9 then((Iw n 108 B1.Be y1.1.f_word y1.1.f_form y1.1.f_body y1.1.f_more).bind fun y12=>(bif y12 then((J0 n 101 B1.Bm y1.1.f_word y1.1.f_form y1.1.f_body y1.1.f_more).bind fun y15=>(bif y15 then((J0 n 102 B1.C6 y1.1.f_word y1.1.f_form y1.1.f_body y1.1.f_more).bind fun y18=>(bif y18 then(bif y1.1.f_body then(bif y1.1.f_more then(some true) else(some (B1.Ch==0))) else(bif (B1.B5==0) then(bif y1.1.f_more then(some true) else(some (B1.Ch==0))) else(some false))) else(some false))) else(some false))) else(some false))) else(some false))) else(some false))) else((Iw n 114 B1.Bd y1.1.f_word y1.1.f_form y1.1.f_body y1.1.f_more).bind fun y25=>(bif y25 then((Iw n 108 B1.Be y1.1.f_word y1.1.f_form y1.1.f_body y1.1.f_more).bind fun y28=>(bif y28 then((J0 n 101 B1.Bm y1.1.f_word y1.1.f_form y1.1.f_body y1.1.f_more).bind fun y31=>(bif y31 then((J0 n 102 B1.C6 y1.1.f_word y1.1.f_form y1.1.f_body y1.1.f_more).bind fun y34=>(bif y34 then(bif y1.1.f_body then(bif y1.1.f_more then(some true) else(some (B1.Ch==0))) else(bif (B1.B5==0) then(bif y1.1.f_more then(some true) else(some (B1.Ch==0))) else(some false))) else(some false))) else(some false))) else(some false))) else(some false))))) else(some false)))
def Iv (n:Nat)  (Aa:(List A0)):Nat→Int→Option (LR Unit Bool)
 | 0,_=>none
 | k7+1,s6=>(bif decide (s6<((Aa.length:Nat):Int)) then((idx Aa s6).bind fun x16=>((Ru n x16).bind fun y17=>(bif y17 then(Iv n Aa k7 (IntKind.i64.wrap (s6+1))) else(some (.ret false))))) else(some (.out ())))
def Nm:Nat→(List A0)→Option Bool
 | 0,_=>none
 | n+1,Aa=>((R1 n Aa).bind fun y1=>(bif (y1==(-1)) then(some false) else(bif decide (30<y1) then(some false) else(bif decide (200<((Aa.length:Nat):Int)) then(some false) else((Iv n Aa n 0).bind fun o14=>match o14 with|.out _=>(some true)|.ret v=>some v)))))
def E0 (n:Nat)  (B1:A0) (y1:(Bn×Bool)):Nat→(List UInt8)→Int→Bool→Option (LR ((List UInt8)×Bool) (List UInt8))
 | 0,_,_,_=>none
 | k6+1,s3,s4,s5=>(bif decide (s4<((y1.1.f_form.length:Nat):Int)) then((idx y1.1.f_form s4).bind fun x15=>(bif ((x15.toNat:Int)==114) then(bif decide ((([32]:List UInt8)).length+B1.Bd.length≤140737488355328) then(bif decide (s3.length+((([32]:List UInt8)++B1.Bd)).length≤140737488355328) then(E0 n B1 y1 k6 (s3++(([32]:List UInt8)++B1.Bd)) (IntKind.i64.wrap (s4+1)) s5) else none) else none) else(bif ((x15.toNat:Int)==108) then(bif decide ((([32]:List UInt8)).length+B1.Be.length≤140737488355328) then(bif decide (s3.length+((([32]:List UInt8)++B1.Be)).length≤140737488355328) then(E0 n B1 y1 k6 (s3++(([32]:List UInt8)++B1.Be)) (IntKind.i64.wrap (s4+1)) s5) else none) else none) else(bif ((x15.toNat:Int)==101) then((Gk n B1.Bm).bind fun y23=>(bif decide ((([32]:List UInt8)).length+y23.length≤140737488355328) then(bif decide (s3.length+((([32]:List UInt8)++y23)).length≤140737488355328) then(E0 n B1 y1 k6 (s3++(([32]:List UInt8)++y23)) (IntKind.i64.wrap (s4+1)) s5) else none) else none)) else(bif ((x15.toNat:Int)==102) then((Gk n B1.C6).bind fun y28=>(bif decide ((([32]:List UInt8)).length+y28.length≤140737488355328) then(bif decide (s3.length+((([32]:List UInt8)++y28)).length≤140737488355328) then(E0 n B1 y1 k6 (s3++(([32]:List UInt8)++y28)) (IntKind.i64.wrap (s4+1)) s5) else none) else none)) else(bif ((x15.toNat:Int)==113) then(bif s5 then(bif decide (s3.length+(([32,33,61]:List UInt8)).length≤140737488355328) then(E0 n B1 y1 k6 (s3++([32,33,61]:List UInt8)) (IntKind.i64.wrap (s4+1)) true) else none) else(bif decide (s3.length+(([32,61,61]:List UInt8)).length≤140737488355328) then(E0 n B1 y1 k6 (s3++([32,61,61]:List UInt8)) (IntKind.i64.wrap (s4+1)) false) else none)) else(bif ((x15.toNat:Int)==61) then(bif decide (s3.length+(([32,61]:List UInt8)).length≤140737488355328) then(E0 n B1 y1 k6 (s3++([32,61]:List UInt8)) (IntKind.i64.wrap (s4+1)) s5) else none) else(bif (decide (0≤(IntKind.i32.wrap ((x15.toNat:Int))))&&decide ((IntKind.i32.wrap ((x15.toNat:Int)))<128)) then(bif decide (s3.length+(([UInt8.ofNat (IntKind.i32.wrap ((x15.toNat:Int))).toNat])).length≤140737488355328) then(E0 n B1 y1 k6 (s3++([UInt8.ofNat (IntKind.i32.wrap ((x15.toNat:Int))).toNat])) (IntKind.i64.wrap (s4+1)) s5) else none) else none)))))))) else(some (.out (s3,s5))))
def Rv:Nat→A0→Option (List UInt8)
 | 0,_=>none
 | n+1,B1=>((My n B1.A7).bind fun y1=>((E0 n B1 y1 n y1.1.f_word 0 B1.Br).bind fun o13=>match o13 with|.out (x41,x42)=>(some x41)|.ret v=>some v))
def Ld (n:Nat)  (Mw:Int):Nat→(List UInt8)→Int→Option (LR (List UInt8) (List UInt8))
 | 0,_,_=>none
 | k3+1,s1,s2=>(bif decide (s2<Mw) then(bif decide (s1.length+(([32,32]:List UInt8)).length≤140737488355328) then(Ld n Mw k3 (s1++([32,32]:List UInt8)) (IntKind.i64.wrap (s2+1))) else none) else(some (.out s1)))
def Oq:Nat→Int→Option (List UInt8)
 | 0,_=>none
 | n+1,Mw=>((Ld n Mw n ([]:List UInt8) 0).bind fun o10=>match o10 with|.out x14=>(some x14)|.ret v=>some v)
def Dt (n:Nat) (rec_stmt_show_1:Int→Int→Int→(List UInt8)→Int→(List A0)→Option (Bool×(List UInt8))) (Aa:(List A0)) (Dn:Int) (o1:Int) (o2:(List A0)):Nat→Int→(List UInt8)→Option (LR (List UInt8) (Bool×(List UInt8)))
 | 0,_,_=>none
 | k3+1,s1,s2=>(bif decide (s1<Dn) then((idx Aa s1).bind fun x12=>(bif decide (x12.B5<0) then(some (.ret (false,s2))) else(bif decide (x12.Ch<0) then(some (.ret (false,s2))) else(bif decide ((IntKind.i64.wrap ((IntKind.i64.wrap (Dn - s1)) - 1))<x12.B5) then(some (.ret (false,s2))) else(bif decide ((IntKind.i64.wrap ((IntKind.i64.wrap ((IntKind.i64.wrap (Dn - s1)) - 1)) - x12.B5))<x12.Ch) then(some (.ret (false,s2))) else((rec_stmt_show_1 s1 (IntKind.i64.wrap ((IntKind.i64.wrap (s1+1))+x12.B5)) (IntKind.i64.wrap ((IntKind.i64.wrap ((IntKind.i64.wrap (s1+1))+x12.B5))+x12.Ch)) s2 o1 o2).bind fun y17=>(bif y17.1 then(Dt n rec_stmt_show_1 Aa Dn o1 o2 k3 (IntKind.i64.wrap ((IntKind.i64.wrap ((IntKind.i64.wrap (s1+1))+x12.B5))+x12.Ch)) y17.2) else(some (.ret (false,y17.2)))))))))) else(some (.out s2)))
mutual
def Kl:Nat→(List A0)→Int→Int→Int→Option (List UInt8)
 | 0,_,_,_,_=>none
 | n+1,Aa,E5,Dn,W5=>(((Gw n) Aa E5 Dn ([]:List UInt8) W5 Aa).bind fun y1=>(some y1.2))
def Jm:Nat→Int→Int→Int→(List UInt8)→Int→(List A0)→Option (Bool×(List UInt8))
 | 0,_,_,_,_,_,_=>none
 | n+1,G7,L8,Ms,o0,o1,o2=>((Oq n o1).bind fun y1=>((idx o2 G7).bind fun x3=>((Rv n x3).bind fun y4=>(bif decide (y1.length+y4.length≤140737488355328) then(bif decide (o0.length+((y1++y4)).length≤140737488355328) then((idx o2 G7).bind fun x8=>((Nu n x8.A7).bind fun y9=>(bif y9 then(((Kl n) o2 (IntKind.i64.wrap (G7+1)) L8 (IntKind.i64.wrap (o1+1))).bind fun y12=>(bif decide ((([32,123,10]:List UInt8)).length+y12.length≤140737488355328) then((Oq n o1).bind fun y15=>(bif decide (((([32,123,10]:List UInt8)++y12)).length+y15.length≤140737488355328) then(bif decide (((o0++(y1++y4))).length+(((([32,123,10]:List UInt8)++y12)++y15)).length≤140737488355328) then(bif decide (L8<Ms) then(((Kl n) o2 L8 Ms (IntKind.i64.wrap (o1+1))).bind fun y20=>(bif decide ((([125,32,101,108,115,101,32,123,10]:List UInt8)).length+y20.length≤140737488355328) then((Oq n o1).bind fun y23=>(bif decide (((([125,32,101,108,115,101,32,123,10]:List UInt8)++y20)).length+y23.length≤140737488355328) then(bif decide ((((o0++(y1++y4))++((([32,123,10]:List UInt8)++y12)++y15))).length+(((([125,32,101,108,115,101,32,123,10]:List UInt8)++y20)++y23)).length≤140737488355328) then(bif decide (((((o0++(y1++y4))++((([32,123,10]:List UInt8)++y12)++y15))++((([125,32,101,108,115,101,32,123,10]:List UInt8)++y20)++y23))).length+(([125]:List UInt8)).length≤140737488355328) then(bif decide ((((((o0++(y1++y4))++((([32,123,10]:List UInt8)++y12)++y15))++((([125,32,101,108,115,101,32,123,10]:List UInt8)++y20)++y23))++([125]:List UInt8))).length+(([10]:List UInt8)).length≤140737488355328) then(some (true,(((((o0++(y1++y4))++((([32,123,10]:List UInt8)++y12)++y15))++((([125,32,101,108,115,101,32,123,10]:List UInt8)++y20)++y23))++([125]:List UInt8))++([10]:List UInt8)))) else none) else none) else none) else none)) else none)) else(bif decide ((((o0++(y1++y4))++((([32,123,10]:List UInt8)++y12)++y15))).length+(([125]:List UInt8)).length≤140737488355328) then(bif decide (((((o0++(y1++y4))++((([32,123,10]:List UInt8)++y12)++y15))++([125]:List UInt8))).length+(([10]:List UInt8)).length≤140737488355328) then(some (true,((((o0++(y1++y4))++((([32,123,10]:List UInt8)++y12)++y15))++([125]:List UInt8))++([10]:List UInt8)))) else none) else none)) else none) else none)) else none)) else(bif decide (((o0++(y1++y4))).length+(([10]:List UInt8)).length≤140737488355328) then(some (true,((o0++(y1++y4))++([10]:List UInt8)))) else none)))) else none) else none))))
def Gw:Nat→(List A0)→Int→Int→(List UInt8)→Int→(List A0)→Option (Bool×(List UInt8))
 | 0,_,_,_,_,_,_=>none
 | n+1,Aa,E5,Dn,o0,o1,o2=>((Dt n (Jm n) Aa Dn o1 o2 n E5 o0).bind fun o10=>match o10 with|.out x21=>(some (true,x21))|.ret v=>some v)
end
def O4:Nat→(List A0)→Int→Option (List UInt8)
 | 0,_,_=>none
 | n+1,Aa,Te=>(bif decide (Te<0) then(some ([]:List UInt8)) else(bif decide (100<Te) then(some ([]:List UInt8)) else((Nm n Aa).bind fun y3=>(bif y3 then((Kl n Aa 0 ((Aa.length:Nat):Int) Te).bind fun y6=>(some y6)) else(some ([]:List UInt8))))))
def Fw (n:Nat)  (Bp:Az) (Bt:Az):Nat→Bool→Int→Option (LR Bool Bool)
 | 0,_,_=>none
 | k7+1,s5,s6=>(bif decide (s6<((Bp.B0.length:Nat):Int)) then((idx Bp.B0 s6).bind fun x16=>((idx Bt.B0 s6).bind fun x17=>(bif (x16.Ao==x17.Ao) then((idx Bp.B0 s6).bind fun x19=>((idx Bt.B0 s6).bind fun x20=>(bif (x19.Bs != x20.Bs) then(some (.ret false)) else(bif s5 then((idx Bp.B0 s6).bind fun x23=>((idx Bt.B0 s6).bind fun x24=>(bif (x23.Ab != x24.Ab) then(some (.ret false)) else(Fw n Bp Bt k7 true (IntKind.i64.wrap (s6+1)))))) else(Fw n Bp Bt k7 false (IntKind.i64.wrap (s6+1))))))) else(some (.ret false))))) else(some (.out s5)))
def Gm (n:Nat)  (x39:Ae) (x40:Ae):Nat→Int→Option (LR Unit Bool)
 | 0,_=>none
 | k49+1,s48=>(bif decide (s48<((x39.Bh.length:Nat):Int)) then((idx x39.Bh s48).bind fun x58=>((idx x40.Bh s48).bind fun x59=>(bif (x58==x59) then(Gm n x39 x40 k49 (IntKind.i64.wrap (s48+1))) else(some (.ret false))))) else(some (.out ())))
def Gn (n:Nat)  (x39:Ae) (x40:Ae):Nat→Int→Option (LR Unit Bool)
 | 0,_=>none
 | k64+1,s63=>(bif decide (s63<((x39.Bh.length:Nat):Int)) then((idx x39.Bh s63).bind fun x73=>((idx x40.Bh s63).bind fun x74=>(bif (x73==x74) then(Gn n x39 x40 k64 (IntKind.i64.wrap (s63+1))) else(some (.ret false))))) else(some (.out ())))
def Fx (n:Nat)  (Bp:Az) (Bt:Az):Nat→Bool→Int→Option (LR Bool Bool)
 | 0,_,_=>none
 | k30+1,s28,s29=>(bif decide (s29<((Bp.Ak.length:Nat):Int)) then((idx Bp.Ak s29).bind fun x39=>((idx Bt.Ak s29).bind fun x40=>(bif (x39.Ao==x40.Ao) then(bif (((x39.Bh.length:Nat):Int) != ((x40.Bh.length:Nat):Int)) then(some (.ret false)) else((O2 n x39.B5 x40.B5 s28).bind fun y43=>(bif y43 then(bif s28 then(bif (x39.Ab != x40.Ab) then(some (.ret false)) else((Gm n x39 x40 n 0).bind fun o56=>match o56 with|.out _=>(Fx n Bp Bt k30 true (IntKind.i64.wrap (s29+1)))|.ret v=>some (.ret v))) else((Gn n x39 x40 n 0).bind fun o71=>match o71 with|.out _=>(Fx n Bp Bt k30 false (IntKind.i64.wrap (s29+1)))|.ret v=>some (.ret v))) else(some (.ret false))))) else(some (.ret false))))) else(some (.out s28)))
def Fy (n:Nat)  (Bp:Az) (Bt:Az):Nat→Bool→Int→Option (LR Unit Bool)
 | 0,_,_=>none
 | k82+1,s80,s81=>(bif decide (s81<((Bp.Ar.length:Nat):Int)) then((idx Bp.Ar s81).bind fun x91=>((idx Bt.Ar s81).bind fun x92=>(bif (x91.A7 != x92.A7) then(some (.ret false)) else((idx Bp.Ar s81).bind fun x94=>((idx Bt.Ar s81).bind fun x95=>((Hh n x94.Bm x95.Bm s80).bind fun y96=>(bif y96 then(bif s80 then((idx Bp.Ar s81).bind fun x100=>((idx Bt.Ar s81).bind fun x101=>(bif (x100.Ab != x101.Ab) then(some (.ret false)) else(Fy n Bp Bt k82 true (IntKind.i64.wrap (s81+1)))))) else(Fy n Bp Bt k82 false (IntKind.i64.wrap (s81+1)))) else(some (.ret false))))))))) else(some (.out ())))
def O0:Nat→Az→Az→Bool→Option Bool
 | 0,_,_,_=>none
 | n+1,Bp,Bt,Er=>(bif (Bp.Bo != Bt.Bo) then(some false) else(bif (((Bp.B0.length:Nat):Int) != ((Bt.B0.length:Nat):Int)) then(some false) else(bif (((Bp.Ak.length:Nat):Int) != ((Bt.Ak.length:Nat):Int)) then(some false) else(bif (((Bp.Ar.length:Nat):Int) != ((Bt.Ar.length:Nat):Int)) then(some false) else((Fw n Bp Bt n Er 0).bind fun o14=>match o14 with|.out x27=>((Fx n Bp Bt n x27 0).bind fun o37=>match o37 with|.out x79=>((Fy n Bp Bt n x79 0).bind fun o89=>match o89 with|.out _=>(some true)|.ret v=>some v)|.ret v=>some v)|.ret v=>some v)))))
def Ka:Nat→Int→Int→(List A5)→Int→Int→Int→Option (Int×Int)
 | 0,_,_,_,_,_,_=>none
 | n+1,Q7,Ih,s_l,s_i,s_e,H3=>(bif (s_e==0) then(bif (Q7 != 0) then(some (Q7,Ih)) else(some (s_e,H3))) else(some (s_e,H3)))
def Fe:Nat→(List A5)→Int→Int→Int→Option (Int×Int)
 | 0,_,_,_,_=>none
 | n+1,s_l,s_i,s_e,H3=>(bif (s_e==0) then((Mg n s_l s_i).bind fun y2=>(some (y2.1,y2.2))) else(some (s_e,H3)))
def Da:Nat→(List UInt8)→(List A5)→Int→Int→Int→Option (Int×Int×Int)
 | 0,_,_,_,_,_=>none
 | n+1,Aaz,s_l,s_i,s_e,H3=>(bif (s_e==0) then((Fp n s_l s_i Aaz).bind fun y2=>(bif y2 then(some (IntKind.i64.wrap (s_i+1),s_e,H3)) else((Fe n s_l s_i s_e H3).bind fun y5=>(some (s_i,y5.1,y5.2))))) else((Fe n s_l s_i s_e H3).bind fun y7=>(some (s_i,y7.1,y7.2))))
def R4 (n:Nat) :Nat→Option (LR Unit (Ag×Int×Int×Int))
 | 0=>none
 | k6+1=>(some (.out ()))
def I6 (n:Nat) :Nat→Int→(List A2)→Option (LR (List A2) (Ag×Int×Int×Int))
 | 0,_,_=>none
 | k25+1,s23,s24=>(bif decide (s23<((s24.length:Nat):Int)) then((idx s24 s23).bind fun x34=>(bif (x34.B3==2) then((idx s24 s23).bind fun x36=>(I6 n k25 (IntKind.i64.wrap (s23+1)) (List.set s24 s23.toNat (⟨3,x36.Bs,x36.Ao,x36.Cq,x36.Ab⟩:A2)))) else(I6 n k25 (IntKind.i64.wrap (s23+1)) s24))) else(some (.out s24)))
def Pc:Nat→Int→(List A5)→Int→Int→Int→Option (Ag×Int×Int×Int)
 | 0,_,_,_,_,_=>none
 | n+1,E4,s_l,s_i,s_e,H3=>((idx s_l s_i).bind fun x1=>((Sj n s_l (IntKind.i64.wrap (s_i+1))).bind fun y2=>(bif decide (y2.1.length=0) then((Ka n y2.2.2.1 y2.2.2.2 s_l (IntKind.i64.wrap (s_i+1)) s_e H3).bind fun y4=>((R4 n n).bind fun o13=>match o13 with|.out _=>(bif (y4.1==0) then((Da n ([59]:List UInt8) s_l y2.2.1 y4.1 y4.2).bind fun y16=>(some ((⟨E4,([]:List A2),x1.Ab⟩:Ag),y16.1,y16.2.1,y16.2.2))) else((Da n ([59]:List UInt8) s_l (IntKind.i64.wrap (s_i+1)) y4.1 y4.2).bind fun y18=>(some ((⟨E4,([]:List A2),x1.Ab⟩:Ag),y18.1,y18.2.1,y18.2.2))))|.ret v=>some v)) else((Ka n y2.2.2.1 y2.2.2.2 s_l (IntKind.i64.wrap (s_i+1)) s_e H3).bind fun y21=>((I6 n n 0 y2.1).bind fun o32=>match o32 with|.out x39=>(bif (y21.1==0) then((Da n ([59]:List UInt8) s_l y2.2.1 y21.1 y21.2).bind fun y41=>(some ((⟨E4,x39,x1.Ab⟩:Ag),y41.1,y41.2.1,y41.2.2))) else((Da n ([59]:List UInt8) s_l (IntKind.i64.wrap (s_i+1)) y21.1 y21.2).bind fun y43=>(some ((⟨E4,x39,x1.Ab⟩:Ag),y43.1,y43.2.1,y43.2.2))))|.ret v=>some v)))))
def J7:Nat→(List UInt8)→(List A5)→Int→Int→Int→Option Bool
 | 0,_,_,_,_,_=>none
 | n+1,Aaz,s_l,s_i,s_e,H3=>(bif (s_e==0) then(bif decide (s_i<((s_l.length:Nat):Int)) then((idx s_l s_i).bind fun x3=>(bif (x3.A7==1) then((idx s_l s_i).bind fun x5=>(some (x5.Ac==Aaz))) else(some false))) else(some false)) else(some false))
def Tf:Nat→Int→Option (List UInt8)
 | 0,_=>none
 | n+1,Ds=>((idx ([([]:List UInt8),([102,111,114,97,108,108]:List UInt8),([101,120,105,115,116,115]:List UInt8),([97,108,119,97,121,115]:List UInt8)]:List (List UInt8)) Ds).bind fun x1=>(some x1))
def K3 (n:Nat)  (s_l:(List A5)) (s_i:Int) (s_e:Int) (H3:Int):Nat→Int→Option (LR Unit Int)
 | 0,_=>none
 | k2+1,s1=>(bif decide (s1≤3) then((Tf n s1).bind fun y11=>((J7 n y11 s_l s_i s_e H3).bind fun y13=>(bif y13 then(some (.ret s1)) else(K3 n s_l s_i s_e H3 k2 (IntKind.i64.wrap (s1+1)))))) else(some (.out ())))
def M3:Nat→(List A5)→Int→Int→Int→Option Int
 | 0,_,_,_,_=>none
 | n+1,s_l,s_i,s_e,H3=>((K3 n s_l s_i s_e H3 n 1).bind fun o9=>match o9 with|.out _=>(some 0)|.ret v=>some v)
def L5:Nat→(List A5)→Int→Int→Int→Option ((List UInt8)×Int×Int×Int)
 | 0,_,_,_,_=>none
 | n+1,s_l,s_i,s_e,H3=>(bif (s_e==0) then((Tn n s_l s_i).bind fun y2=>(bif y2 then((idx s_l (IntKind.i64.wrap ((IntKind.i64.wrap (s_i+1)) - 1))).bind fun x5=>(some (x5.Ac,IntKind.i64.wrap (s_i+1),s_e,H3))) else((Fe n s_l s_i s_e H3).bind fun y6=>(some (([]:List UInt8),s_i,y6.1,y6.2))))) else((Fe n s_l s_i s_e H3).bind fun y8=>(some (([]:List UInt8),s_i,y8.1,y8.2))))
def Kx:Nat→(List A5)→Int→Int→Int→Option (Int×Int×Int×Int)
 | 0,_,_,_,_=>none
 | n+1,s_l,s_i,s_e,H3=>(bif (s_e==0) then(bif decide (s_i<((s_l.length:Nat):Int)) then((idx s_l s_i).bind fun x3=>(bif (x3.A7==2) then((idx s_l (IntKind.i64.wrap ((IntKind.i64.wrap (s_i+1)) - 1))).bind fun x5=>(some (x5.Bs,IntKind.i64.wrap (s_i+1),s_e,H3))) else((Fe n s_l s_i s_e H3).bind fun y6=>(some (0,s_i,y6.1,y6.2))))) else((Fe n s_l s_i s_e H3).bind fun y8=>(some (0,s_i,y8.1,y8.2)))) else((Fe n s_l s_i s_e H3).bind fun y10=>(some (0,s_i,y10.1,y10.2))))
set_option linter.unusedVariables false
set_option linter.unusedSimpArgs false
set_option maxRecDepth 100000
set_option maxHeartbeats 4000000
def Kh (n:Nat)  (s_l:(List A5)):Nat→Int→Int→Int→(List (List UInt8))→Option (LR (Int×Int×Int×(List (List UInt8))) (Ae×Int×Int×Int))
 | 0,_,_,_,_=>none
 | k15+1,s11,s12,s13,s14=>(bif (s12==0) then((Fp n s_l s11 ([44]:List UInt8)).bind fun y24=>(bif y24 then((L5 n s_l (IntKind.i64.wrap (s11+1)) s12 s13).bind fun y27=>(bif decide ((s14.length+1)*17≤140737488355328) then(Kh n s_l k15 y27.2.1 y27.2.2.1 y27.2.2.2 (s14++([y27.1]:List (List UInt8)))) else none)) else(some (.out (s11,s12,s13,s14))))) else(some (.out (s11,s12,s13,s14))))
def P1:Nat→(List A5)→Int→Int→Int→Option (Ae×Int×Int×Int)
 | 0,_,_,_,_=>none
 | n+1,s_l,s_i,s_e,H3=>((idx s_l s_i).bind fun x1=>((L5 n s_l (IntKind.i64.wrap (s_i+1)) s_e H3).bind fun y2=>((Da n ([123]:List UInt8) s_l y2.2.1 y2.2.2.1 y2.2.2.2).bind fun y4=>((J7 n ([114,101,103]:List UInt8) s_l y4.1 y4.2.1 y4.2.2).bind fun y6=>(bif y6 then((L5 n s_l (IntKind.i64.wrap (y4.1+1)) y4.2.1 y4.2.2).bind fun y9=>((Kh n s_l n y9.2.1 y9.2.2.1 y9.2.2.2 ([y9.1]:List (List UInt8))).bind fun o22=>match o22 with|.out (x32,x33,x34,x35)=>((Da n ([59]:List UInt8) s_l x32 x33 x34).bind fun y36=>(bif (y36.2.1==0) then((Rb n s_l y36.1).bind fun y39=>((Ka n y39.2.2.1 y39.2.2.2 s_l y36.1 y36.2.1 y36.2.2).bind fun y41=>((Da n ([125]:List UInt8) s_l y39.2.1 y41.1 y41.2).bind fun y43=>(some ((⟨y2.1,x35,y39.1,x1.Ab⟩:Ae),y43.1,y43.2.1,y43.2.2))))) else((Da n ([125]:List UInt8) s_l y36.1 y36.2.1 y36.2.2).bind fun y45=>(some ((⟨y2.1,x35,([]:List A0),x1.Ab⟩:Ae),y45.1,y45.2.1,y45.2.2)))))|.ret v=>some v)) else(bif (y4.2.1==0) then((Rb n s_l y4.1).bind fun y49=>((Ka n y49.2.2.1 y49.2.2.2 s_l y4.1 y4.2.1 y4.2.2).bind fun y51=>((Da n ([125]:List UInt8) s_l y49.2.1 y51.1 y51.2).bind fun y53=>(some ((⟨y2.1,([]:List (List UInt8)),y49.1,x1.Ab⟩:Ae),y53.1,y53.2.1,y53.2.2))))) else((Da n ([125]:List UInt8) s_l y4.1 y4.2.1 y4.2.2).bind fun y55=>(some ((⟨y2.1,([]:List (List UInt8)),([]:List A0),x1.Ab⟩:Ae),y55.1,y55.2.1,y55.2.2)))))))))
def Ow (n:Nat)  (y1:((List A5)×Int×Int)):Nat→Int→Int→Int→(List Aw)→Option (LR (Int×Int×Int×(List Aw)) (Az×Int×Int))
 | 0,_,_,_,_=>none
 | k15+1,s11,s12,s13,s14=>((J7 n ([108,111,99]:List UInt8) y1.1 s11 s12 s13).bind fun y23=>(bif y23 then((idx y1.1 s11).bind fun x26=>((L5 n y1.1 (IntKind.i64.wrap (s11+1)) s12 s13).bind fun y27=>((Da n ([61]:List UInt8) y1.1 y27.2.1 y27.2.2.1 y27.2.2.2).bind fun y29=>((Kx n y1.1 y29.1 y29.2.1 y29.2.2).bind fun y31=>((Da n ([59]:List UInt8) y1.1 y31.2.1 y31.2.2.1 y31.2.2.2).bind fun y33=>(bif decide ((s14.length+1)*33≤140737488355328) then(Ow n y1 k15 y33.1 y33.2.1 y33.2.2 (s14++([(⟨y27.1,y31.1,x26.Ab⟩:Aw)]:List Aw))) else none)))))) else(some (.out (s11,s12,s13,s14)))))
def P4 (n:Nat)  (y1:((List A5)×Int×Int)):Nat→Int→Int→Int→(List Ae)→Option (LR (Int×Int×Int×(List Ae)) (Az×Int×Int))
 | 0,_,_,_,_=>none
 | k46+1,s42,s43,s44,s45=>((J7 n ([116,104,114,101,97,100]:List UInt8) y1.1 s42 s43 s44).bind fun y54=>(bif y54 then((P1 n y1.1 s42 s43 s44).bind fun y57=>(bif decide ((s45.length+1)*73≤140737488355328) then(P4 n y1 k46 y57.2.1 y57.2.2.1 y57.2.2.2 (s45++([y57.1]:List Ae))) else none)) else(some (.out (s42,s43,s44,s45)))))
def Of (n:Nat)  (y1:((List A5)×Int×Int)):Nat→Int→Int→Int→(List Ag)→Option (LR (Int×Int×Int×(List Ag)) (Az×Int×Int))
 | 0,_,_,_,_=>none
 | k70+1,s66,s67,s68,s69=>((M3 n y1.1 s66 s67 s68).bind fun y78=>(bif decide (0<y78) then((M3 n y1.1 s66 s67 s68).bind fun y81=>((Pc n y81 y1.1 s66 s67 s68).bind fun y83=>(bif decide ((s69.length+1)*41≤140737488355328) then(Of n y1 k70 y83.2.1 y83.2.2.1 y83.2.2.2 (s69++([y83.1]:List Ag))) else none))) else(some (.out (s66,s67,s68,s69)))))
def Ou (n:Nat)  (y1:((List A5)×Int×Int)):Nat→Int→Int→Int→(List Aw)→Option (LR (Int×Int×Int×(List Aw)) (Az×Int×Int))
 | 0,_,_,_,_=>none
 | k110+1,s106,s107,s108,s109=>((J7 n ([108,111,99]:List UInt8) y1.1 s106 s107 s108).bind fun y118=>(bif y118 then((idx y1.1 s106).bind fun x121=>((L5 n y1.1 (IntKind.i64.wrap (s106+1)) s107 s108).bind fun y122=>((Da n ([61]:List UInt8) y1.1 y122.2.1 y122.2.2.1 y122.2.2.2).bind fun y124=>((Kx n y1.1 y124.1 y124.2.1 y124.2.2).bind fun y126=>((Da n ([59]:List UInt8) y1.1 y126.2.1 y126.2.2.1 y126.2.2.2).bind fun y128=>(bif decide ((s109.length+1)*33≤140737488355328) then(Ou n y1 k110 y128.1 y128.2.1 y128.2.2 (s109++([(⟨y122.1,y126.1,x121.Ab⟩:Aw)]:List Aw))) else none)))))) else(some (.out (s106,s107,s108,s109)))))
def Oy (n:Nat)  (y1:((List A5)×Int×Int)):Nat→Int→Int→Int→(List Ae)→Option (LR (Int×Int×Int×(List Ae)) (Az×Int×Int))
 | 0,_,_,_,_=>none
 | k141+1,s137,s138,s139,s140=>((J7 n ([116,104,114,101,97,100]:List UInt8) y1.1 s137 s138 s139).bind fun y149=>(bif y149 then((P1 n y1.1 s137 s138 s139).bind fun y152=>(bif decide ((s140.length+1)*73≤140737488355328) then(Oy n y1 k141 y152.2.1 y152.2.2.1 y152.2.2.2 (s140++([y152.1]:List Ae))) else none)) else(some (.out (s137,s138,s139,s140)))))
def Oj (n:Nat)  (y1:((List A5)×Int×Int)):Nat→Int→Int→Int→(List Ag)→Option (LR (Int×Int×Int×(List Ag)) (Az×Int×Int))
 | 0,_,_,_,_=>none
 | k165+1,s161,s162,s163,s164=>((M3 n y1.1 s161 s162 s163).bind fun y173=>(bif decide (0<y173) then((M3 n y1.1 s161 s162 s163).bind fun y176=>((Pc n y176 y1.1 s161 s162 s163).bind fun y178=>(bif decide ((s164.length+1)*41≤140737488355328) then(Oj n y1 k165 y178.2.1 y178.2.2.1 y178.2.2.2 (s164++([y178.1]:List Ag))) else none))) else(some (.out (s161,s162,s163,s164)))))
def Wy:Nat→(List UInt8)→Option (Az×Int×Int)
 | 0,_=>none
 | n+1,Ae3=>((Yb n Ae3).bind fun y1=>(bif (y1.2.1 != 0) then(some ((⟨0,([]:List Aw),([]:List Ae),([]:List Ag)⟩:Az),y1.2.1,y1.2.2)) else((J7 n ([109,111,100]:List UInt8) y1.1 0 0 0).bind fun y4=>(bif y4 then((Kx n y1.1 (IntKind.i64.wrap ((0:Int)+1)) 0 0).bind fun y7=>((Da n ([59]:List UInt8) y1.1 y7.2.1 y7.2.2.1 y7.2.2.2).bind fun y9=>((Ow n y1 n y9.1 y9.2.1 y9.2.2 ([]:List Aw)).bind fun o22=>match o22 with|.out (x38,x39,x40,x41)=>((P4 n y1 n x38 x39 x40 ([]:List Ae)).bind fun o53=>match o53 with|.out (x62,x63,x64,x65)=>((Of n y1 n x62 x63 x64 ([]:List Ag)).bind fun o77=>match o77 with|.out (x88,x89,x90,x91)=>(bif decide (x88<((y1.1.length:Nat):Int)) then((Fe n y1.1 x88 x89 x90).bind fun y93=>(bif (y93.1 != 0) then(some ((⟨0,([]:List Aw),([]:List Ae),([]:List Ag)⟩:Az),y93.1,y93.2)) else(some ((⟨y7.1,x41,x65,x91⟩:Az),0,0)))) else(bif (x89 != 0) then(some ((⟨0,([]:List Aw),([]:List Ae),([]:List Ag)⟩:Az),x89,x90)) else(some ((⟨y7.1,x41,x65,x91⟩:Az),0,0))))|.ret v=>some v)|.ret v=>some v)|.ret v=>some v))) else((Fe n y1.1 0 0 0).bind fun y100=>((Kx n y1.1 0 y100.1 y100.2).bind fun y102=>((Da n ([59]:List UInt8) y1.1 y102.2.1 y102.2.2.1 y102.2.2.2).bind fun y104=>((Ou n y1 n y104.1 y104.2.1 y104.2.2 ([]:List Aw)).bind fun o117=>match o117 with|.out (x133,x134,x135,x136)=>((Oy n y1 n x133 x134 x135 ([]:List Ae)).bind fun o148=>match o148 with|.out (x157,x158,x159,x160)=>((Oj n y1 n x157 x158 x159 ([]:List Ag)).bind fun o172=>match o172 with|.out (x183,x184,x185,x186)=>(bif decide (x183<((y1.1.length:Nat):Int)) then((Fe n y1.1 x183 x184 x185).bind fun y188=>(bif (y188.1 != 0) then(some ((⟨0,([]:List Aw),([]:List Ae),([]:List Ag)⟩:Az),y188.1,y188.2)) else(some ((⟨y102.1,x136,x160,x186⟩:Az),0,0)))) else(bif (x184 != 0) then(some ((⟨0,([]:List Aw),([]:List Ae),([]:List Ag)⟩:Az),x184,x185)) else(some ((⟨y102.1,x136,x160,x186⟩:Az),0,0))))|.ret v=>some v)|.ret v=>some v)|.ret v=>some v))))))))
def Mr (n:Nat) :Nat→Int→(List A2)→Option (LR (List A2) (List A2))
 | 0,_,_=>none
 | k5+1,s3,s4=>(bif decide (s3<(((([]:List A2)).length:Nat):Int)) then((idx s4 s3).bind fun x14=>(Mr n k5 (IntKind.i64.wrap (s3+1)) (List.set s4 s3.toNat (⟨x14.B3,x14.Bs,x14.Ao,x14.Cq,0⟩:A2)))) else(some (.out s4)))
def Mj (n:Nat)  (Aa:(List A2)):Nat→Int→(List A2)→Option (LR (List A2) (List A2))
 | 0,_,_=>none
 | k21+1,s19,s20=>(bif decide (s19<((Aa.length:Nat):Int)) then((idx s20 s19).bind fun x30=>(Mj n Aa k21 (IntKind.i64.wrap (s19+1)) (List.set s20 s19.toNat (⟨x30.B3,x30.Bs,x30.Ao,x30.Cq,0⟩:A2)))) else(some (.out s20)))
def Nw:Nat→(List A2)→Option (List A2)
 | 0,_=>none
 | n+1,Aa=>(bif decide (Aa.length*57≤140737488355328) then(bif decide (Aa.length=0) then((Mr n n 0 ([]:List A2)).bind fun o12=>match o12 with|.out x17=>(some x17)|.ret v=>some v) else((Mj n Aa n 0 Aa).bind fun o28=>match o28 with|.out x33=>(some x33)|.ret v=>some v)) else none)
def Nk (n:Nat)  (At:Az):Nat→Int→(List Aw)→Option (LR (List Aw) Az)
 | 0,_,_=>none
 | k3+1,s1,s2=>(bif decide (s1<((At.B0.length:Nat):Int)) then((idx At.B0 s1).bind fun x12=>(bif decide ((s2.length+1)*33≤140737488355328) then(Nk n At k3 (IntKind.i64.wrap (s1+1)) (s2++([(⟨x12.Ao,x12.Bs,0⟩:Aw)]:List Aw))) else none)) else(some (.out s2)))
def O3 (n:Nat)  (x28:Ae):Nat→Int→(List A0)→Option (LR (List A0) Az)
 | 0,_,_=>none
 | k32+1,s30,s31=>(bif decide (s30<((x28.B5.length:Nat):Int)) then((idx x28.B5 s30).bind fun x41=>((Nw n x41.Bm).bind fun y42=>((Nw n x41.C6).bind fun y44=>(bif decide ((s31.length+1)*121≤140737488355328) then(O3 n x28 k32 (IntKind.i64.wrap (s30+1)) (s31++([(⟨x41.A7,x41.Bd,x41.Be,y42,y44,x41.Br,x41.B5,x41.Ch,0⟩:A0)]:List A0))) else none)))) else(some (.out s31)))
def Ny (n:Nat)  (At:Az):Nat→Int→(List Ae)→Option (LR (List Ae) Az)
 | 0,_,_=>none
 | k19+1,s17,s18=>(bif decide (s17<((At.Ak.length:Nat):Int)) then((idx At.Ak s17).bind fun x28=>(bif decide (x28.Bh.length*17≤140737488355328) then((O3 n x28 n 0 ([]:List A0)).bind fun o39=>match o39 with|.out x49=>(bif decide ((s18.length+1)*73≤140737488355328) then(Ny n At k19 (IntKind.i64.wrap (s17+1)) (s18++([(⟨x28.Ao,x28.Bh,x49,0⟩:Ae)]:List Ae))) else none)|.ret v=>some (.ret v)) else none)) else(some (.out s18)))
def Nn (n:Nat)  (At:Az):Nat→Int→(List Ag)→Option (LR (List Ag) Az)
 | 0,_,_=>none
 | k57+1,s55,s56=>(bif decide (s55<((At.Ar.length:Nat):Int)) then((idx At.Ar s55).bind fun x66=>((Nw n x66.Bm).bind fun y67=>(bif decide ((s56.length+1)*41≤140737488355328) then(Nn n At k57 (IntKind.i64.wrap (s55+1)) (s56++([(⟨x66.A7,y67,0⟩:Ag)]:List Ag))) else none))) else(some (.out s56)))
def Uy:Nat→Az→Option Az
 | 0,_=>none
 | n+1,At=>((Nk n At n 0 ([]:List Aw)).bind fun o10=>match o10 with|.out x16=>((Ny n At n 0 ([]:List Ae)).bind fun o26=>match o26 with|.out x54=>((Nn n At n 0 ([]:List Ag)).bind fun o64=>match o64 with|.out x72=>(some (⟨At.Bo,x16,x54,x72⟩:Az))|.ret v=>some v)|.ret v=>some v)|.ret v=>some v)
def Cf:Nat→Int→Int→(List A5)→Int→Int→Int→Option (Int×Int)
 | 0,_,_,_,_,_,_=>none
 | n+1,Q7,Ih,p_l,p_i,p_e,p_at=>(bif (p_e==0) then(some (Q7,Ih)) else(some (p_e,p_at)))
def T6:Nat→A5→Int→(List UInt8)→Option Bool
 | 0,_,_,_=>none
 | n+1,En,o0,o1=>(bif (En.A7==o0) then(some (En.Ac==o1)) else(some false))
def D3:Nat→(List A5)→Int→Int→Int→Int→(List UInt8)→Option (A5×Bool×Int)
 | 0,_,_,_,_,_,_=>none
 | n+1,p_l,p_i,p_e,p_at,o1,o2=>(bif (p_e != 0) then(some ((⟨0,([]:List UInt8),0,0⟩:A5),false,p_i)) else(bif decide (((p_l.length:Nat):Int)≤p_i) then(some ((⟨0,([]:List UInt8),0,0⟩:A5),false,p_i)) else((idx p_l p_i).bind fun x3=>((T6 n x3 o1 o2).bind fun y4=>(bif y4 then((idx p_l (IntKind.i64.wrap ((IntKind.i64.wrap (p_i+1)) - 1))).bind fun x7=>(some (x7,true,IntKind.i64.wrap (p_i+1)))) else(some ((⟨0,([]:List UInt8),0,0⟩:A5),false,p_i)))))))
def Dk:Nat→(List A5)→Int→Int→Int→Option (Int×Int)
 | 0,_,_,_,_=>none
 | n+1,p_l,p_i,p_e,p_at=>(bif decide (p_i<((p_l.length:Nat):Int)) then((idx p_l p_i).bind fun x2=>((Cf n 5 x2.Ab p_l p_i p_e p_at).bind fun y3=>(some (y3.1,y3.2)))) else(bif decide (0<((p_l.length:Nat):Int)) then((idx p_l (IntKind.i64.wrap (((p_l.length:Nat):Int) - 1))).bind fun x6=>((idx p_l (IntKind.i64.wrap (((p_l.length:Nat):Int) - 1))).bind fun x7=>((Cf n 6 (IntKind.i64.wrap (x6.Ab+((x7.Ac.length:Nat):Int))) p_l p_i p_e p_at).bind fun y8=>(some (y8.1,y8.2))))) else((Cf n 6 0 p_l p_i p_e p_at).bind fun y10=>(some (y10.1,y10.2)))))
def Gz:Nat→(List A5)→Int→Int→Int→Int→(List UInt8)→Option (A5×Int×Int×Int)
 | 0,_,_,_,_,_,_=>none
 | n+1,p_l,p_i,p_e,p_at,o1,o2=>((D3 n p_l p_i p_e p_at o1 o2).bind fun y1=>(bif y1.2.1 then(some (y1.1,y1.2.2,p_e,p_at)) else((Dk n p_l y1.2.2 p_e p_at).bind fun y4=>(some (y1.1,y1.2.2,y4.1,y4.2)))))
def By:Nat→(List UInt8)→(List A5)→Int→Int→Int→Option (Int×Int×Int)
 | 0,_,_,_,_,_=>none
 | n+1,Kp,p_l,p_i,p_e,p_at=>(Sg n fun n1=>((Gz n p_l p_i p_e p_at 3 Kp).bind fun y6=>(some (y6.2.1,y6.2.2.1,y6.2.2.2))))
def Hm (n:Nat) :Nat→Option (LR Unit (Ag×Int×Int×Int))
 | 0=>none
 | k5+1=>(some (.out ()))
def Df (n:Nat)  (y1:((List A2)×Int×Int×Int)):Nat→Int→(List A2)→Option (LR (List A2) (Ag×Int×Int×Int))
 | 0,_,_=>none
 | k24+1,s22,s23=>(bif decide (s22<((y1.1.length:Nat):Int)) then((idx s23 s22).bind fun x33=>(bif (x33.B3==2) then((idx s23 s22).bind fun x35=>(Df n y1 k24 (IntKind.i64.wrap (s22+1)) (List.set s23 s22.toNat (⟨3,x35.Bs,x35.Ao,x35.Cq,x35.Ab⟩:A2)))) else(Df n y1 k24 (IntKind.i64.wrap (s22+1)) s23))) else(some (.out s23)))
def I0:Nat→Int→Int→(List A5)→Int→Int→Int→Option (Ag×Int×Int×Int)
 | 0,_,_,_,_,_,_=>none
 | n+1,E4,Ih,p_l,p_i,p_e,p_at=>((I9 n p_l p_i).bind fun y1=>(bif decide (y1.1.length=0) then((Cf n y1.2.2.1 y1.2.2.2 p_l p_i p_e p_at).bind fun y3=>((Hm n n).bind fun o12=>match o12 with|.out _=>(bif (y3.1==0) then((By n ([59]:List UInt8) p_l y1.2.1 y3.1 y3.2).bind fun y15=>(some ((⟨E4,([]:List A2),Ih⟩:Ag),y15.1,y15.2.1,y15.2.2))) else((By n ([59]:List UInt8) p_l p_i y3.1 y3.2).bind fun y17=>(some ((⟨E4,([]:List A2),Ih⟩:Ag),y17.1,y17.2.1,y17.2.2))))|.ret v=>some v)) else((Cf n y1.2.2.1 y1.2.2.2 p_l p_i p_e p_at).bind fun y20=>((Df n y1 n 0 y1.1).bind fun o31=>match o31 with|.out x38=>(bif (y20.1==0) then((By n ([59]:List UInt8) p_l y1.2.1 y20.1 y20.2).bind fun y40=>(some ((⟨E4,x38,Ih⟩:Ag),y40.1,y40.2.1,y40.2.2))) else((By n ([59]:List UInt8) p_l p_i y20.1 y20.2).bind fun y42=>(some ((⟨E4,x38,Ih⟩:Ag),y42.1,y42.2.1,y42.2.2))))|.ret v=>some v))))
def Px:Nat→A5→Option Bool
 | 0,_=>none
 | n+1,En=>(some (En.A7==2))
def Hk:Nat→(List A5)→Int→Int→Int→Option (A5×Bool×Int)
 | 0,_,_,_,_=>none
 | n+1,p_l,p_i,p_e,p_at=>(bif (p_e != 0) then(some ((⟨0,([]:List UInt8),0,0⟩:A5),false,p_i)) else(bif decide (((p_l.length:Nat):Int)≤p_i) then(some ((⟨0,([]:List UInt8),0,0⟩:A5),false,p_i)) else((idx p_l p_i).bind fun x3=>((Px n x3).bind fun y4=>(bif y4 then((idx p_l (IntKind.i64.wrap ((IntKind.i64.wrap (p_i+1)) - 1))).bind fun x7=>(some (x7,true,IntKind.i64.wrap (p_i+1)))) else(some ((⟨0,([]:List UInt8),0,0⟩:A5),false,p_i)))))))
def G4:Nat→(List A5)→Int→Int→Int→Option (A5×Int×Int×Int)
 | 0,_,_,_,_=>none
 | n+1,p_l,p_i,p_e,p_at=>((Hk n p_l p_i p_e p_at).bind fun y1=>(bif y1.2.1 then(some (y1.1,y1.2.2,p_e,p_at)) else((Dk n p_l y1.2.2 p_e p_at).bind fun y4=>(some (y1.1,y1.2.2,y4.1,y4.2)))))
def Rw:Nat→A5→Option Bool
 | 0,_=>none
 | n+1,En=>(bif (En.A7==1) then((Dp n En.Ac).bind fun y2=>(some y2)) else(some false))
def Hj:Nat→(List A5)→Int→Int→Int→Option (A5×Bool×Int)
 | 0,_,_,_,_=>none
 | n+1,p_l,p_i,p_e,p_at=>(bif (p_e != 0) then(some ((⟨0,([]:List UInt8),0,0⟩:A5),false,p_i)) else(bif decide (((p_l.length:Nat):Int)≤p_i) then(some ((⟨0,([]:List UInt8),0,0⟩:A5),false,p_i)) else((idx p_l p_i).bind fun x3=>((Rw n x3).bind fun y4=>(bif y4 then((idx p_l (IntKind.i64.wrap ((IntKind.i64.wrap (p_i+1)) - 1))).bind fun x7=>(some (x7,true,IntKind.i64.wrap (p_i+1)))) else(some ((⟨0,([]:List UInt8),0,0⟩:A5),false,p_i)))))))
def F2:Nat→(List A5)→Int→Int→Int→Option (A5×Int×Int×Int)
 | 0,_,_,_,_=>none
 | n+1,p_l,p_i,p_e,p_at=>((Hj n p_l p_i p_e p_at).bind fun y1=>(bif y1.2.1 then(some (y1.1,y1.2.2,p_e,p_at)) else((Dk n p_l y1.2.2 p_e p_at).bind fun y4=>(some (y1.1,y1.2.2,y4.1,y4.2)))))
def J8:Nat→Int→(List A5)→Int→Int→Int→Option (Aw×Int×Int×Int)
 | 0,_,_,_,_,_=>none
 | n+1,Dc,p_l,p_i,p_e,p_at=>((F2 n p_l p_i p_e p_at).bind fun y1=>((By n ([61]:List UInt8) p_l y1.2.1 y1.2.2.1 y1.2.2.2).bind fun y3=>((G4 n p_l y3.1 y3.2.1 y3.2.2).bind fun y5=>((By n ([59]:List UInt8) p_l y5.2.1 y5.2.2.1 y5.2.2.2).bind fun y7=>(some ((⟨y1.1.Ac,y5.1.Bs,Dc⟩:Aw),y7.1,y7.2.1,y7.2.2))))))
def Dj (n:Nat)  (p_l:(List A5)):Nat→Bool→Int→Int→Int→(List (List UInt8))→Option (LR (Int×Int×Int×(List (List UInt8))) (Ae×Int×Int×Int))
 | 0,_,_,_,_,_=>none
 | k18+1,s13,s14,s15,s16,s17=>(bif s13 then((F2 n p_l s14 s15 s16).bind fun y27=>(bif decide ((s17.length+1)*17≤140737488355328) then(Sg n fun n31=>((D3 n p_l y27.2.1 y27.2.2.1 y27.2.2.2 3 ([44]:List UInt8)).bind fun y36=>(Dj n p_l k18 y36.2.1 y36.2.2 y27.2.2.1 y27.2.2.2 (s17++([y27.1.Ac]:List (List UInt8)))))) else none)) else(some (.out (s14,s15,s16,s17))))
def Hl:Nat→Int→(List A5)→Int→Int→Int→Option (Ae×Int×Int×Int)
 | 0,_,_,_,_,_=>none
 | n+1,Dc,p_l,p_i,p_e,p_at=>((F2 n p_l p_i p_e p_at).bind fun y1=>((By n ([123]:List UInt8) p_l y1.2.1 y1.2.2.1 y1.2.2.2).bind fun y3=>(Sg n fun n5=>((D3 n p_l y3.1 y3.2.1 y3.2.2 1 ([114,101,103]:List UInt8)).bind fun y10=>(bif y10.2.1 then((Dj n p_l n true y10.2.2 y3.2.1 y3.2.2 ([]:List (List UInt8))).bind fun o25=>match o25 with|.out (x39,x40,x41,x42)=>((By n ([59]:List UInt8) p_l x39 x40 x41).bind fun y43=>(bif (y43.2.1 != 0) then(some ((⟨y1.1.Ac,x42,([]:List A0),Dc⟩:Ae),y43.1,y43.2.1,y43.2.2)) else((Ic n p_l y43.1).bind fun y46=>((Cf n y46.2.2.1 y46.2.2.2 p_l y43.1 y43.2.1 y43.2.2).bind fun y48=>(bif (y48.1==0) then((By n ([125]:List UInt8) p_l y46.2.1 y48.1 y48.2).bind fun y51=>(some ((⟨y1.1.Ac,x42,y46.1,Dc⟩:Ae),y51.1,y51.2.1,y51.2.2))) else((By n ([125]:List UInt8) p_l y43.1 y48.1 y48.2).bind fun y53=>(some ((⟨y1.1.Ac,x42,y46.1,Dc⟩:Ae),y53.1,y53.2.1,y53.2.2))))))))|.ret v=>some v) else(bif (y3.2.1 != 0) then(some ((⟨y1.1.Ac,([]:List (List UInt8)),([]:List A0),Dc⟩:Ae),y10.2.2,y3.2.1,y3.2.2)) else((Ic n p_l y10.2.2).bind fun y57=>((Cf n y57.2.2.1 y57.2.2.2 p_l y10.2.2 y3.2.1 y3.2.2).bind fun y59=>(bif (y59.1==0) then((By n ([125]:List UInt8) p_l y57.2.1 y59.1 y59.2).bind fun y62=>(some ((⟨y1.1.Ac,([]:List (List UInt8)),y57.1,Dc⟩:Ae),y62.1,y62.2.1,y62.2.2))) else((By n ([125]:List UInt8) p_l y10.2.2 y59.1 y59.2).bind fun y64=>(some ((⟨y1.1.Ac,([]:List (List UInt8)),y57.1,Dc⟩:Ae),y64.1,y64.2.1,y64.2.2))))))))))))
def Km:Nat→Int→Option (List UInt8)
 | 0,_=>none
 | n+1,Ds=>(bif (Ds==1) then(some ([102,111,114,97,108,108]:List UInt8)) else(bif (Ds==2) then(some ([101,120,105,115,116,115]:List UInt8)) else(bif (Ds==3) then(some ([97,108,119,97,121,115]:List UInt8)) else(some ([]:List UInt8)))))
def Ix (n:Nat)  (y1:((List A5)×Int×Int)):Nat→Bool→Int→Int→Int→Int→(List UInt8)→Int→Int→(List Aw)→Option (LR (Int×Int×Int×Int×(List UInt8)×Int×Int×(List Aw)) (Az×Int×Int))
 | 0,_,_,_,_,_,_,_,_,_=>none
 | k31+1,s22,s23,s24,s25,s26,s27,s28,s29,s30=>(bif s22 then((J8 n s29 y1.1 s23 s24 s25).bind fun y40=>(bif decide ((s30.length+1)*33≤140737488355328) then(Sg n fun n44=>((D3 n y1.1 y40.2.1 y40.2.2.1 y40.2.2.2 1 ([108,111,99]:List UInt8)).bind fun y49=>(Ix n y1 k31 y49.2.1 y49.2.2 y40.2.2.1 y40.2.2.2 y49.1.A7 y49.1.Ac y49.1.Bs y49.1.Ab (s30++([y40.1]:List Aw))))) else none)) else(some (.out (s23,s24,s25,s26,s27,s28,s29,s30))))
def Iy (n:Nat)  (y1:((List A5)×Int×Int)):Nat→Bool→Int→Int→Int→(List Ae)→Int→(List UInt8)→Int→Int→Option (LR (Int×Int×Int×Int×(List UInt8)×Int×Int×(List Ae)) (Az×Int×Int))
 | 0,_,_,_,_,_,_,_,_,_=>none
 | k76+1,s67,s68,s69,s70,s71,s72,s73,s74,s75=>(bif s67 then((Hl n s75 y1.1 s68 s69 s70).bind fun y85=>(bif decide ((s71.length+1)*73≤140737488355328) then(Sg n fun n89=>((D3 n y1.1 y85.2.1 y85.2.2.1 y85.2.2.2 1 ([116,104,114,101,97,100]:List UInt8)).bind fun y94=>(Iy n y1 k76 y94.2.1 y94.2.2 y85.2.2.1 y85.2.2.2 (s71++([y85.1]:List Ae)) y94.1.A7 y94.1.Ac y94.1.Bs y94.1.Ab))) else none)) else(some (.out (s68,s69,s70,s72,s73,s74,s75,s71))))
def E3 (n:Nat)  (y1:((List A5)×Int×Int)):Nat→Bool→Int→Int→Int→Int→(List Ag)→Option (LR (Bool×Int×Int×Int×(List Ag)) (Az×Int×Int))
 | 0,_,_,_,_,_,_=>none
 | k125+1,s119,s120,s121,s122,s123,s124=>(bif decide (s120≤3) then((Km n s120).bind fun y134=>(Sg n fun n136=>((D3 n y1.1 s121 s122 s123 1 y134).bind fun y141=>(bif y141.2.1 then((I0 n s120 y141.1.Ab y1.1 y141.2.2 s122 s123).bind fun y144=>(bif decide ((s124.length+1)*41≤140737488355328) then(E3 n y1 k125 true (IntKind.i64.wrap (s120+1)) y144.2.1 y144.2.2.1 y144.2.2.2 (s124++([y144.1]:List Ag))) else none)) else(E3 n y1 k125 s119 (IntKind.i64.wrap (s120+1)) y141.2.2 s122 s123 s124))))) else(some (.out (s119,s121,s122,s123,s124))))
def Hs (n:Nat)  (y1:((List A5)×Int×Int)):Nat→Bool→Int→Int→Int→(List Ag)→Option (LR (Int×Int×Int×(List Ag)) (Az×Int×Int))
 | 0,_,_,_,_,_=>none
 | k110+1,s105,s106,s107,s108,s109=>(bif s105 then((E3 n y1 n false 1 s106 s107 s108 s109).bind fun o132=>match o132 with|.out (x149,x150,x151,x152,x153)=>(Hs n y1 k110 x149 x150 x151 x152 x153)|.ret v=>some (.ret v)) else(some (.out (s106,s107,s108,s109))))
def Gj:Nat→(List UInt8)→Option (Az×Int×Int)
 | 0,_=>none
 | n+1,B7=>((Pf n B7).bind fun y1=>(bif (y1.2.1 != 0) then(some ((⟨0,([]:List Aw),([]:List Ae),([]:List Ag)⟩:Az),y1.2.1,y1.2.2)) else(Sg n fun n4=>((Gz n y1.1 0 0 0 1 ([109,111,100]:List UInt8)).bind fun y9=>((G4 n y1.1 y9.2.1 y9.2.2.1 y9.2.2.2).bind fun y11=>((By n ([59]:List UInt8) y1.1 y11.2.1 y11.2.2.1 y11.2.2.2).bind fun y13=>(Sg n fun n15=>((D3 n y1.1 y13.1 y13.2.1 y13.2.2 1 ([108,111,99]:List UInt8)).bind fun y20=>((Ix n y1 n y20.2.1 y20.2.2 y13.2.1 y13.2.2 y20.1.A7 y20.1.Ac y20.1.Bs y20.1.Ab ([]:List Aw)).bind fun o38=>match o38 with|.out (x52,x53,x54,x55,x56,x57,x58,x59)=>(Sg n fun n60=>((D3 n y1.1 x52 x53 x54 1 ([116,104,114,101,97,100]:List UInt8)).bind fun y65=>((Iy n y1 n y65.2.1 y65.2.2 x53 x54 ([]:List Ae) y65.1.A7 y65.1.Ac y65.1.Bs y65.1.Ab).bind fun o83=>match o83 with|.out (x97,x98,x99,x100,x101,x102,x103,x104)=>((Hs n y1 n true x97 x98 x99 ([]:List Ag)).bind fun o117=>match o117 with|.out (x156,x157,x158,x159)=>(bif decide (x156<((y1.1.length:Nat):Int)) then((Dk n y1.1 x156 x157 x158).bind fun y161=>(bif (y161.1 != 0) then(some ((⟨0,([]:List Aw),([]:List Ae),([]:List Ag)⟩:Az),y161.1,y161.2)) else(some ((⟨y11.1.Bs,x59,x104,x159⟩:Az),0,0)))) else(bif (x157 != 0) then(some ((⟨0,([]:List Aw),([]:List Ae),([]:List Ag)⟩:Az),x157,x158)) else(some ((⟨y11.1.Bs,x59,x104,x159⟩:Az),0,0))))|.ret v=>some v)|.ret v=>some v)))|.ret v=>some v)))))))))
def Mn:Nat→Int→Option Bool
 | 0,_=>none
 | n+1,Cd=>(bif decide (0≤Cd) then(some (decide (Cd≤9999))) else(some false))
def Qh:Nat→Int→Int→(List Aw)→(List Ae)→(List Ag)→Option Bool
 | 0,_,_,_,_,_=>none
 | n+1,G7,C7,Bx,Ba,Bi=>((idx Bx G7).bind fun x1=>((Dp n x1.Ao).bind fun y2=>(bif y2 then((Mn n x1.Bs).bind fun y5=>(bif y5 then(some (decide (0≤x1.Ab))) else(some false))) else(some false))))
def Lb (n:Nat)  (Cd:Int) (C7:Int) (Bx:(List Aw)) (Ba:(List Ae)) (Bi:(List Ag)):Nat→Int→Option (LR Unit Bool)
 | 0,_=>none
 | k2+1,s1=>(bif decide (s1<Cd) then((Qh n s1 C7 Bx Ba Bi).bind fun y11=>(bif y11 then(Lb n Cd C7 Bx Ba Bi k2 (IntKind.i64.wrap (s1+1))) else(some (.ret false)))) else(some (.out ())))
def T5:Nat→Int→Int→(List Aw)→(List Ae)→(List Ag)→Option Bool
 | 0,_,_,_,_,_=>none
 | n+1,Cd,C7,Bx,Ba,Bi=>((Lb n Cd C7 Bx Ba Bi n 0).bind fun o9=>match o9 with|.out _=>(some true)|.ret v=>some v)
def P7:Nat→Int→(List UInt8)→(List (List UInt8))→(List A0)→Int→Option Bool
 | 0,_,_,_,_,_=>none
 | n+1,G7,Gf,G9,Gg,Kg=>((idx G9 G7).bind fun x1=>((Dp n x1).bind fun y2=>(some y2)))
def Iq (n:Nat)  (Cd:Int) (Gf:(List UInt8)) (G9:(List (List UInt8))) (Gg:(List A0)) (Kg:Int):Nat→Int→Option (LR Unit Bool)
 | 0,_=>none
 | k2+1,s1=>(bif decide (s1<Cd) then((P7 n s1 Gf G9 Gg Kg).bind fun y11=>(bif y11 then(Iq n Cd Gf G9 Gg Kg k2 (IntKind.i64.wrap (s1+1))) else(some (.ret false)))) else(some (.out ())))
def Qt:Nat→Int→(List UInt8)→(List (List UInt8))→(List A0)→Int→Option Bool
 | 0,_,_,_,_,_=>none
 | n+1,Cd,Gf,G9,Gg,Kg=>((Iq n Cd Gf G9 Gg Kg n 0).bind fun o9=>match o9 with|.out _=>(some true)|.ret v=>some v)
def Q1:Nat→Ae→Option Bool
 | 0,_=>none
 | n+1,En=>((Dp n En.Ao).bind fun y1=>(bif y1 then(bif decide (0≤En.Ab) then((Nm n En.B5).bind fun y5=>(bif y5 then((Qt n ((En.Bh.length:Nat):Int) En.Ao En.Bh En.B5 En.Ab).bind fun y8=>(some y8)) else(some false))) else(some false)) else(some false)))
def Qa:Nat→Int→Int→(List Aw)→(List Ae)→(List Ag)→Option Bool
 | 0,_,_,_,_,_=>none
 | n+1,G7,C7,Bx,Ba,Bi=>((idx Ba G7).bind fun x1=>((Q1 n x1).bind fun y2=>(some y2)))
def Iz (n:Nat)  (Cd:Int) (C7:Int) (Bx:(List Aw)) (Ba:(List Ae)) (Bi:(List Ag)):Nat→Int→Option (LR Unit Bool)
 | 0,_=>none
 | k2+1,s1=>(bif decide (s1<Cd) then((Qa n s1 C7 Bx Ba Bi).bind fun y11=>(bif y11 then(Iz n Cd C7 Bx Ba Bi k2 (IntKind.i64.wrap (s1+1))) else(some (.ret false)))) else(some (.out ())))
def Qu:Nat→Int→Int→(List Aw)→(List Ae)→(List Ag)→Option Bool
 | 0,_,_,_,_,_=>none
 | n+1,Cd,C7,Bx,Ba,Bi=>((Iz n Cd C7 Bx Ba Bi n 0).bind fun o9=>match o9 with|.out _=>(some true)|.ret v=>some v)
def Jn (n:Nat)  (y1:(List A2)):Nat→Int→Option (LR Unit Bool)
 | 0,_=>none
 | k4+1,s3=>(bif decide (s3<((y1.length:Nat):Int)) then((idx y1 s3).bind fun x13=>(bif (x13.B3==2) then(some (.ret false)) else(Jn n y1 k4 (IntKind.i64.wrap (s3+1))))) else(some (.out ())))
def R8:Nat→Ag→Option Bool
 | 0,_=>none
 | n+1,E1=>((Lq n E1.Bm).bind fun y1=>((Jn n y1 n 0).bind fun o11=>match o11 with|.out _=>((Km n E1.A7).bind fun y16=>(bif (y16==([]:List UInt8)) then(some false) else((Jx n E1.Bm).bind fun y19=>(bif y19 then(some (decide (0≤E1.Ab))) else(some false)))))|.ret v=>some v))
def Qi:Nat→Int→Int→(List Aw)→(List Ae)→(List Ag)→Option Bool
 | 0,_,_,_,_,_=>none
 | n+1,G7,C7,Bx,Ba,Bi=>((idx Bi G7).bind fun x1=>((R8 n x1).bind fun y2=>(some y2)))
def Iu (n:Nat)  (Cd:Int) (C7:Int) (Bx:(List Aw)) (Ba:(List Ae)) (Bi:(List Ag)):Nat→Int→Option (LR Unit Bool)
 | 0,_=>none
 | k2+1,s1=>(bif decide (s1<Cd) then((Qi n s1 C7 Bx Ba Bi).bind fun y11=>(bif y11 then(Iu n Cd C7 Bx Ba Bi k2 (IntKind.i64.wrap (s1+1))) else(some (.ret false)))) else(some (.out ())))
def R6:Nat→Int→Int→(List Aw)→(List Ae)→(List Ag)→Option Bool
 | 0,_,_,_,_,_=>none
 | n+1,Cd,C7,Bx,Ba,Bi=>((Iu n Cd C7 Bx Ba Bi n 0).bind fun o9=>match o9 with|.out _=>(some true)|.ret v=>some v)
def Mo:Nat→Az→Option Bool
 | 0,_=>none
 | n+1,At=>((T5 n ((At.B0.length:Nat):Int) At.Bo At.B0 At.Ak At.Ar).bind fun y1=>((Mn n At.Bo).bind fun y3=>(bif y3 then(bif y1 then((Qu n ((At.Ak.length:Nat):Int) At.Bo At.B0 At.Ak At.Ar).bind fun y7=>(bif y7 then((R6 n ((At.Ar.length:Nat):Int) At.Bo At.B0 At.Ak At.Ar).bind fun y10=>(some y10)) else(some false))) else(some false)) else(some false))))
def Im:Nat→Int→Option (List UInt8)
 | 0,_=>none
 | n+1,Cd=>(bif decide (Cd<10) then(some ([UInt8.ofNat (IntKind.u8.wrap (IntKind.i64.wrap (48+Cd))).toNat]:List UInt8)) else(((Im n) (IntKind.i64.wrap (Int.tdiv Cd 10))).bind fun y2=>(bif decide (y2.length+(([UInt8.ofNat (IntKind.u8.wrap (IntKind.i64.wrap (48+(Int.tmod Cd 10)))).toNat]:List UInt8)).length≤140737488355328) then(some (y2++([UInt8.ofNat (IntKind.u8.wrap (IntKind.i64.wrap (48+(Int.tmod Cd 10)))).toNat]:List UInt8))) else none)))
def Jr (n:Nat)  (At:Az):Nat→(List UInt8)→Int→Option (LR (List UInt8) (List UInt8))
 | 0,_,_=>none
 | k10+1,s8,s9=>(bif decide (s9<((At.B0.length:Nat):Int)) then((idx At.B0 s9).bind fun x19=>(bif decide ((([108,111,99,32]:List UInt8)).length+x19.Ao.length≤140737488355328) then(bif decide (((([108,111,99,32]:List UInt8)++x19.Ao)).length+(([32,61,32]:List UInt8)).length≤140737488355328) then((Im n x19.Bs).bind fun y22=>(bif decide ((((([108,111,99,32]:List UInt8)++x19.Ao)++([32,61,32]:List UInt8))).length+y22.length≤140737488355328) then(bif decide (((((([108,111,99,32]:List UInt8)++x19.Ao)++([32,61,32]:List UInt8))++y22)).length+(([59,10]:List UInt8)).length≤140737488355328) then(bif decide (s8.length+(((((([108,111,99,32]:List UInt8)++x19.Ao)++([32,61,32]:List UInt8))++y22)++([59,10]:List UInt8))).length≤140737488355328) then(Jr n At k10 (s8++((((([108,111,99,32]:List UInt8)++x19.Ao)++([32,61,32]:List UInt8))++y22)++([59,10]:List UInt8))) (IntKind.i64.wrap (s9+1))) else none) else none) else none)) else none) else none)) else(some (.out s8)))
def Ie (n:Nat)  (x40:Ae):Nat→(List UInt8)→(List UInt8)→Int→Option (LR (List UInt8) (List UInt8))
 | 0,_,_,_=>none
 | k47+1,s44,s45,s46=>(bif decide (s46<((x40.Bh.length:Nat):Int)) then((idx x40.Bh s46).bind fun x56=>(bif decide (s45.length+x56.length≤140737488355328) then(bif decide (s44.length+((s45++x56)).length≤140737488355328) then(Ie n x40 k47 (s44++(s45++x56)) ([44,32]:List UInt8) (IntKind.i64.wrap (s46+1))) else none) else none)) else(some (.out s44)))
def Id (n:Nat)  (At:Az):Nat→(List UInt8)→Int→Option (LR (List UInt8) (List UInt8))
 | 0,_,_=>none
 | k31+1,s29,s30=>(bif decide (s30<((At.Ak.length:Nat):Int)) then((idx At.Ak s30).bind fun x40=>(bif decide ((([116,104,114,101,97,100,32]:List UInt8)).length+x40.Ao.length≤140737488355328) then(bif decide (((([116,104,114,101,97,100,32]:List UInt8)++x40.Ao)).length+(([32,123,10]:List UInt8)).length≤140737488355328) then(bif decide (s29.length+(((([116,104,114,101,97,100,32]:List UInt8)++x40.Ao)++([32,123,10]:List UInt8))).length≤140737488355328) then((Ie n x40 n (s29++((([116,104,114,101,97,100,32]:List UInt8)++x40.Ao)++([32,123,10]:List UInt8))) ([32,32,114,101,103,32]:List UInt8) 0).bind fun o54=>match o54 with|.out x60=>(bif decide (0<((x40.Bh.length:Nat):Int)) then(bif decide (x60.length+(([59,10]:List UInt8)).length≤140737488355328) then((O4 n x40.B5 1).bind fun y63=>(bif decide (y63.length+(([125,10]:List UInt8)).length≤140737488355328) then(bif decide (((x60++([59,10]:List UInt8))).length+((y63++([125,10]:List UInt8))).length≤140737488355328) then(Id n At k31 ((x60++([59,10]:List UInt8))++(y63++([125,10]:List UInt8))) (IntKind.i64.wrap (s30+1))) else none) else none)) else none) else((O4 n x40.B5 1).bind fun y67=>(bif decide (y67.length+(([125,10]:List UInt8)).length≤140737488355328) then(bif decide (x60.length+((y67++([125,10]:List UInt8))).length≤140737488355328) then(Id n At k31 (x60++(y67++([125,10]:List UInt8))) (IntKind.i64.wrap (s30+1))) else none) else none)))|.ret v=>some (.ret v)) else none) else none) else none)) else(some (.out s29)))
def K0 (n:Nat)  (At:Az):Nat→(List UInt8)→Int→Option (LR (List UInt8) (List UInt8))
 | 0,_,_=>none
 | k76+1,s74,s75=>(bif decide (s75<((At.Ar.length:Nat):Int)) then((idx At.Ar s75).bind fun x85=>((Km n x85.A7).bind fun y86=>(bif decide (y86.length+(([32]:List UInt8)).length≤140737488355328) then((Gk n x85.Bm).bind fun y89=>(bif decide (((y86++([32]:List UInt8))).length+y89.length≤140737488355328) then(bif decide ((((y86++([32]:List UInt8))++y89)).length+(([59,10]:List UInt8)).length≤140737488355328) then(bif decide (s74.length+((((y86++([32]:List UInt8))++y89)++([59,10]:List UInt8))).length≤140737488355328) then(K0 n At k76 (s74++(((y86++([32]:List UInt8))++y89)++([59,10]:List UInt8))) (IntKind.i64.wrap (s75+1))) else none) else none) else none)) else none))) else(some (.out s74)))
def Pe:Nat→Az→Option (List UInt8)
 | 0,_=>none
 | n+1,At=>((Mo n At).bind fun y1=>(bif y1 then((Im n At.Bo).bind fun y4=>(bif decide ((([109,111,100,32]:List UInt8)).length+y4.length≤140737488355328) then(bif decide (((([109,111,100,32]:List UInt8)++y4)).length+(([59,10]:List UInt8)).length≤140737488355328) then((Jr n At n ((([109,111,100,32]:List UInt8)++y4)++([59,10]:List UInt8)) 0).bind fun o17=>match o17 with|.out x28=>((Id n At n x28 0).bind fun o38=>match o38 with|.out x73=>((K0 n At n x73 0).bind fun o83=>match o83 with|.out x95=>(some x95)|.ret v=>some v)|.ret v=>some v)|.ret v=>some v) else none) else none)) else(some ([]:List UInt8))))
def Pt:Nat→Option (List UInt8)
 | 0=>none
 | n+1=>(some (List.append ([109,111,100,32,50,59,10,108,111,99,32,120,32,61,32,48,59,10,116,104,114,101,97,100,32,116,32,123,10,32,32,114,101,103,32,97,44,32,98,59,10,32,32,108]:List UInt8) ([111,97,100,32,97,32,61,32,120,59,10,125,10,102,111,114,97,108,108,32,40,116,46,97,32,61,61,32,48,41,32,38,38,32,40,120,32,61,61,32,48,41,59,10]:List UInt8)))
def Ir:Nat→Option Bool
 | 0=>none
 | n+1=>((Pt n ).bind fun y1=>((Gj n y1).bind fun y3=>((Gj n ([109,111,100,32,50,59,32,108,111,99,32,120,59]:List UInt8)).bind fun y5=>((Gj n ([109,111,100,32,50,59,32,116,104,114,101,97,100,32,116,32,123,32,125,10,125]:List UInt8)).bind fun y7=>((Gj n ([]:List UInt8)).bind fun y9=>(bif (y3.2.1 != 0) then(some false) else(bif (y3.1.Bo != 2) then(some false) else(bif (((y3.1.B0.length:Nat):Int) != 1) then(some false) else(bif (((y3.1.Ak.length:Nat):Int) != 1) then(some false) else(bif (((y3.1.Ar.length:Nat):Int) != 1) then(some false) else((idx y3.1.Ak 0).bind fun x16=>(bif (((x16.Bh.length:Nat):Int) != 2) then(some false) else((idx y3.1.Ar 0).bind fun x18=>(bif (((x18.Bm.length:Nat):Int) != 7) then(some false) else((Uy n y3.1).bind fun y20=>((idx y3.1.B0 0).bind fun x22=>(bif (x22.Ab==7) then(bif (((y20.B0.length:Nat):Int)==1) then((idx y20.B0 0).bind fun x25=>(bif (x25.Ab==0) then((idx y3.1.Ar 0).bind fun x27=>((idx x27.Bm 5).bind fun x28=>(bif (x28.B3==3) then(bif (y5.2.1==5) then(bif (y5.2.2==12) then(bif (y7.2.1==5) then(bif (y7.2.2==20) then(bif (y9.2.1==6) then(bif (y9.2.2==0) then((Pe n y3.1).bind fun y36=>((Pt n ).bind fun y38=>(bif (y36==y38) then((Mo n y3.1).bind fun y41=>(some y41)) else(some false)))) else(some false)) else(some false)) else(some false)) else(some false)) else(some false)) else(some false)) else(some false)))) else(some false))) else(some false)) else(some false))))))))))))))))))
def S9:Nat→(List UInt8)→Option Bool
 | 0,_=>none
 | n+1,B7=>(bif decide (3000<((B7.length:Nat):Int)) then((Ir n ).bind fun y2=>(some y2)) else((Gj n B7).bind fun y4=>((Wy n B7).bind fun y6=>((O0 n y4.1 y6.1 true).bind fun y8=>(bif y8 then(bif (y4.2.1==y6.2.1) then(bif (y4.2.2==y6.2.2) then((Ir n ).bind fun y13=>(some y13)) else(some false)) else(some false)) else(some false))))))
theorem C8 {α:Type} {l:List α} {i:Nat} (h:i < l.length):idx l (i:Int)=some l[i]:=by rw[Qg,Ax h]
theorem Ay (k:Nat) (h:k < 4611686018427387904):IntKind.i64.wrap ((k:Int)+1)=((k+1:Nat):Int):=All k (by omega)
theorem A6 {α:Type} {p:Prop} [Decidable p] (h:p) (a b:α):(bif decide p then a else b)=a:=by rw[decide_eq_true h];rfl
theorem Aq {α:Type} {p:Prop} [Decidable p] (h:¬ p) (a b:α):(bif decide p then a else b)=b:=by rw[decide_eq_false h];rfl
theorem Atk (a b:Nat):((a:Int)==(b:Int))=(a==b):=by
 by_cases h:a=b
 ·subst h;simp
 ·have:¬ (a:Int)=(b:Int):=by omega
  rw[Ca.2 h,Ca.2 this]
theorem Asv (a b:Nat):((a:Int) != (b:Int))=!(a==b):=by rw[← Atk];rfl
theorem Ac7 {α σ ρ:Type} (l:List α) (L:Nat→Nat→σ→Option ρ) (F:List α→σ→Option ρ) (Inv:Nat→σ→Prop)
 (h0:∀ k s,Inv l.length s→L (k+1) l.length s=F [] s)
 (h1:∀ k i s x,i < l.length→l[i]?=some x→Inv i s→(∀ s',Inv (i+1) s'→L k (i+1) s'=F (l.drop (i+1)) s')→L (k+1) i s=F (x :: l.drop (i+1)) s) :
 ∀ (m k i:Nat) (s:σ),i+m=l.length→m < k→Inv i s→L k i s=F (l.drop i) s:=by
 intro m
 induction m with
 | zero =>
  intro k i s hi hk hs
  obtain⟨k,rfl⟩:∃ j,k=j+1:=⟨k - 1,by omega⟩
  obtain rfl:i=l.length:=by omega
  rw[h0 k s hs,List.drop_length]
 | succ m ih =>
  intro k i s hi hk hs
  obtain⟨k,rfl⟩:∃ j,k=j+1:=⟨k - 1,by omega⟩
  have hlt:i < l.length:=by omega
  rw[h1 k i s l[i] hlt (Ax hlt) hs (fun s' hs'=>ih k (i+1) s' (by omega) (by omega) hs'),List.drop_eq_getElem_cons hlt]
theorem Qy {α σ ρ:Type} (l:List α) (L:Nat→Nat→σ→Option ρ) (F:List α→σ→Option ρ) (Inv:Nat→σ→Prop) {k:Nat} {s:σ} (hk:l.length < k) (hs:Inv 0 s)
 (h0:∀ k s,Inv l.length s→L (k+1) l.length s=F [] s)
 (h1:∀ k i s x,i < l.length→l[i]?=some x→Inv i s→(∀ s',Inv (i+1) s'→L k (i+1) s'=F (l.drop (i+1)) s')→L (k+1) i s=F (x :: l.drop (i+1)) s) :
 L k 0 s=F l s:=Ac7 l L F Inv h0 h1 l.length k 0 s (by omega) hk hs
theorem Cn {α:Type} {l:List α} {i:Nat} {x:α} (h:l[i]?=some x):idx l (i:Int)=some x:=by rw[Qg,h]
theorem Wk (op:Int):op < 1∨15≤op∨op=1∨op=2∨op=3∨op=4∨op=5∨op=6∨op=7∨op=8∨op=9∨op=10∨op=11∨op=12∨op=13∨op=14:=by omega
theorem Nh {α:Type} (l:List α) (L:Nat→Nat→Option (LR Unit Bool)) (p:α→Bool) (h0:∀ k,L (k+1) l.length=some (.out ()))
 (h1:∀ k i x,i < l.length→l[i]?=some x→L (k+1) i=bif p x then L k (i+1) else some (.ret false)) {k:Nat} (hk:l.length < k):L k 0=bif l.all p then some (.out ()) else some (.ret false):=by
 refine Qy l (fun k i (_:Unit)=>L k i) (fun l _=>bif l.all p then some (.out ()) else some (.ret false)) (fun _ _=>True) (s:=()) hk trivial (fun k s _=>h0 k) ?_
 intro k i s x hi hx _ ih
 rw[h1 k i x hi hx,ih () trivial,List.all_cons]
 cases p x<;>rfl
theorem Ag5 {α:Type} (l:List α) (L:Nat→Nat→Option (LR Unit Bool)) (p:α→Bool) (h0:∀ k,L (k+1) l.length=some (.out ()))
 (h1:∀ k i x,i < l.length→l[i]?=some x→L (k+1) i=bif p x then some (.ret true) else L k (i+1)) {k:Nat} (hk:l.length < k):L k 0=bif l.any p then some (.ret true) else some (.out ()):=by
 refine Qy l (fun k i (_:Unit)=>L k i) (fun l _=>bif l.any p then some (.ret true) else some (.out ())) (fun _ _=>True) (s:=()) hk trivial (fun k s _=>h0 k) ?_
 intro k i s x hi hx _ ih
 rw[h1 k i x hi hx,ih () trivial,List.any_cons]
 cases p x<;>rfl
structure Tok where
 kind:Int
 text:List UInt8
 n:Int
 at':Int
def Ji (c:Int):Bool:=decide (c=32∨c=9∨c=10∨c=13)
def D7:Bool→List UInt8→Nat
 | _,[]=>0
 | true,c :: t=>if c.toNat=10 then 1+D7 false t else 1+D7 true t
 | false,c :: t=>if Ji c.toNat then 1+D7 false t else if c.toNat=35 then 1+D7 true t else 0
inductive Lx where
 | tok (kind:Int) (len:Nat) (n:Nat)
 | err (e:Int)
def Jo (l:List UInt8):Lx:=match l with
 | []=>.err 3
 | c :: _ =>
  if Et c.toNat then(if Cj H8 l > 16 then .err 2 else .tok 1 (Cj H8 l) 0)
  else if Cv c.toNat then(if Ku (l.take (Cj Cv l)) > 9999 then .err 4 else .tok 2 (Cj Cv l) (Ku (l.take (Cj Cv l))))
  else if I8 l=0 then .err 3 else .tok 3 (I8 l) 0
structure Z8 where
 toks:List Tok
 err:Int
 at':Int
def Ed:Nat→List UInt8→Nat→List Tok→Z8
 | 0,_,_,acc=>⟨acc,0,0⟩
 | f+1,l,p,acc=>match l.drop (D7 false l) with
   | []=>⟨acc,0,0⟩
   | c :: t=>match Jo (c :: t) with
     | .err e=>⟨[],e,(p+D7 false l:Nat)⟩
     | .tok k n v=>Ed f ((c :: t).drop n) (p+D7 false l+n) (acc++[⟨k,(c :: t).take n,v,(p+D7 false l:Nat)⟩])
def Hr (l:List UInt8):Z8:=if l.length > 20000 then⟨[],2,20000⟩ else Ed (l.length+1) l 0 []
theorem A0i (b:Bool) (l:List UInt8):D7 b l≤l.length:=by
 induction l generalizing b with
 | nil=>simp[D7]
 | cons c t ih =>
  have h1:=ih true;have h2:=ih false
  cases b<;>simp only[D7,List.length_cons]<;>repeat' split
  all_goals omega
theorem S7 (p:Int→Bool) (l:List UInt8):Cj p l≤l.length:=(List.takeWhile_prefix (fun c:UInt8=>p c.toNat) (l:=l)).length_le
theorem Kj (p:Int→Bool) (c:UInt8) (t:List UInt8):Cj p (c :: t)=if p c.toNat then Cj p t+1 else 0:=by
 unfold Cj
 rw[List.takeWhile_cons]
 split<;>simp
theorem Aap (c:UInt8) (t:List UInt8):I8 (c :: t)≤(c :: t).length:=by
 unfold I8
 split
 ·rename_i h
  rcases t with _ | ⟨d,t⟩
  ·simp[Ls] at h
  ·simp
 ·split<;>simp
theorem Sn {l:List UInt8} {k:Int} {n v:Nat} (h:Jo l=.tok k n v):0 < n∧n≤l.length:=by
 rcases l with _ | ⟨c,t⟩
 ·simp[Jo] at h
 ·simp only[Jo] at h
  split at h
  ·rename_i hc
   split at h
   ·simp at h
   ·simp only[Lx.tok.injEq] at h
    obtain⟨_,rfl,_⟩:=h
    have h1:H8 c.toNat=true:=by simp[H8,hc]
    exact⟨by rw[Kj,if_pos h1];omega,S7 _ _⟩
  ·split at h
   ·rename_i hc
    split at h
    ·simp at h
    ·simp only[Lx.tok.injEq] at h
     obtain⟨_,rfl,_⟩:=h
     exact⟨by rw[Kj,if_pos hc];omega,S7 _ _⟩
   ·split at h
    ·simp at h
    ·simp only[Lx.tok.injEq] at h
     obtain⟨_,rfl,_⟩:=h
     exact⟨by omega,Aap _ _⟩
theorem Aye {l:List UInt8} {e:Int} (h:Jo l=.err e):(e != 0)=true:=by
 rcases l with _ | ⟨c,t⟩
 ·simp only[Jo,Lx.err.injEq] at h;subst h;rfl
 ·simp only[Jo] at h
  repeat' split at h
  all_goals first
   | (simp only[Lx.err.injEq] at h;subst h;rfl)
   | simp at h
theorem Vs (f g:Nat) (l:List UInt8) (p:Nat) (acc:List Tok) (hf:l.length < f) (hg:l.length < g):Ed f l p acc=Ed g l p acc:=by
 induction f generalizing g l p acc with
 | zero=>omega
 | succ f ih =>
  cases g with
  | zero=>omega
  | succ g =>
   simp only[Ed]
   split
   ·rfl
   ·rename_i c t hd
    have hlen:(c :: t).length=l.length - D7 false l:=by rw[← hd];simp
    split
    ·rfl
    ·rename_i k n v ho
     have hn:=Sn ho
     have hlt:((c :: t).drop n).length < l.length:=by
      simp only[List.length_drop]
      simp only[List.length_cons] at hlen hn ⊢
      omega
     exact ih g _ _ _ (by omega) (by omega)
def N3 (l:List UInt8) (p:Nat) (acc:List Tok):Z8:=Ed (l.length+1) (l.drop p) p acc
theorem Ad5 (l:List UInt8) (p:Nat) (acc:List Tok) (g:Nat) (_hp:p≤l.length) (h:D7 false (l.drop p)=g+D7 false (l.drop (p+g))):N3 l p acc=N3 l (p+g) acc:=by
 have hg:=A0i false (l.drop p)
 simp only[List.length_drop] at hg
 have e:(l.drop p).drop (D7 false (l.drop p))=(l.drop (p+g)).drop (D7 false (l.drop (p+g))):=by
  rw[List.drop_drop,List.drop_drop,h];congr 1;omega
 unfold N3
 simp only[Ed]
 rw[e]
 have e2:p+D7 false (l.drop p)=p+g+D7 false (l.drop (p+g)):=by omega
 simp only[e2]
theorem A4h (l:List UInt8) (p:Nat) (acc:List Tok) (h:l.length≤p):N3 l p acc=⟨acc,0,0⟩:=by
 unfold N3
 have:l.drop p=[]:=List.drop_eq_nil_of_le h
 simp[Ed,this]
theorem Abx (l:List UInt8) (p:Nat) (acc:List Tok) (e:Int) (hg:D7 false (l.drop p)=0) (hp:p < l.length) (h:Jo (l.drop p)=.err e):N3 l p acc=⟨[],e,p⟩:=by
 unfold N3
 simp only[Ed,hg,List.drop_zero]
 rcases hl:l.drop p with _ | ⟨c,t⟩
 ·have:(l.drop p).length=0:=by rw[hl];rfl
  simp at this;omega
 ·rw[hl] at h
  simp[h]
theorem Ach (l:List UInt8) (p:Nat) (acc:List Tok) (k:Int) (n v:Nat) (hg:D7 false (l.drop p)=0) (hp:p < l.length) (h:Jo (l.drop p)=.tok k n v) :
 N3 l p acc=N3 l (p+n) (acc++[⟨k,(l.drop p).take n,v,p⟩]):=by
 have hn:=Sn h
 simp only[List.length_drop] at hn
 unfold N3
 rw[Ed]
 simp only[hg,List.drop_zero]
 rcases hl:l.drop p with _ | ⟨c,t⟩
 ·have:(l.drop p).length=0:=by rw[hl];rfl
  simp at this;omega
 ·rw[hl] at h
  simp only[h,Nat.add_zero]
  have e:(c :: t).drop n=l.drop (p+n):=by rw[← hl,List.drop_drop]
  rw[e]
  exact Vs _ _ _ _ _ (by simp;omega) (by simp;omega)
theorem Abo (l:List UInt8):D7 true l=Cj Kz l+D7 false (l.drop (Cj Kz l)):=by
 induction l with
 | nil=>simp[D7,Cj]
 | cons c t ih =>
  rw[Kj]
  by_cases h:c.toNat=10
  ·have h1:Kz c.toNat=false:=by simp[Kz,h]
   rw[if_neg (by rw[h1];simp),List.drop_zero,D7,D7,if_pos h,if_pos (by simp[Ji,h])]
   omega
  ·have h1:Kz c.toNat=true:=by simp only[Kz,C1];omega
   rw[if_pos h1,D7,if_neg h,ih,List.drop_succ_cons]
   omega
theorem A3m {c:UInt8} {t:List UInt8} (h:c.toNat=35):D7 false (c :: t)=Cj Kz (c :: t)+D7 false ((c :: t).drop (Cj Kz (c :: t))):=by
 rw[← Abo]
 have hb:Ji c.toNat=false:=by simp[Ji,h]
 rw[D7,D7,if_neg (by rw[hb];simp),if_pos h,if_neg (by omega)]
theorem Zd {c:UInt8} {t:List UInt8} (h:Ji c.toNat=true):D7 false (c :: t)=1+D7 false t:=by rw[D7,if_pos h]
theorem A3u {c:UInt8} {t:List UInt8} (h:Ji c.toNat=false) (h2:c.toNat≠35):D7 false (c :: t)=0:=by rw[D7,if_neg (by rw[h];simp),if_neg h2]
def Gi:List (List UInt8):=Ls++Uw.map fun c=>[c]
theorem Ati {m:List UInt8} (h:m ∈ Ls):m.length=2:=by
 simp only[Ls,List.mem_cons,List.not_mem_nil,or_false] at h
 rcases h with rfl | rfl | rfl | rfl | rfl<;>rfl
theorem A9a {m l:List UInt8} (h:m <+: l):l.take m.length=m:=by
 obtain⟨t,rfl⟩:=h
 simp
theorem Alr {l:List UInt8} {k:Nat} (hk:k < Gi.length) (hp:Gi[k] <+: l) (hn:∀ j (h:j < Gi.length),j < k→¬ Gi[j] <+: l) :
 I8 l=Gi[k].length∧l.take Gi[k].length=Gi[k]:=by
 refine⟨?_,A9a hp⟩
 have h5:Ls.length=5:=rfl
 have hcont:∀ (h:l.take 2 ∈ Ls),∃ j,∃ (hj:j < Ls.length),Ls[j] <+: l:=fun h=>by
  obtain⟨j,hj,e⟩:=List.getElem_of_mem h
  exact⟨j,hj,by rw[e];exact List.take_prefix 2 l⟩
 rcases Nat.lt_or_ge k 5 with hlt | hge
 ·have e:Gi[k]=Ls[k]'(by omega):=by simp only[Gi];rw[List.getElem_append_left]
  rw[e] at hp ⊢
  have hm:Ls[k]'(by omega) ∈ Ls:=List.getElem_mem _
  have hl:=Ati hm
  have ht:=A9a hp
  rw[hl] at ht ⊢
  unfold I8
  rw[if_pos (by rw[ht];exact List.contains_iff_mem.2 hm)]
 ·have e:Gi[k]=[Uw[k - 5]'(by simp[Gi,h5] at hk;omega)]:=by
   simp only[Gi]
   rw[List.getElem_append_right (by omega)]
   simp[h5]
  rw[e] at hp ⊢
  have hno:¬ l.take 2 ∈ Ls:=fun h=>by
   obtain⟨j,hj,hj2⟩:=hcont h
   refine hn j (by simp[Gi];omega) (by omega) ?_
   have e:Gi[j]'(by simp[Gi];omega)=Ls[j]:=by simp only[Gi];rw[List.getElem_append_left]
   rw[e];exact hj2
  obtain⟨t,rfl⟩:=hp
  unfold I8
  rw[if_neg (by simpa using hno)]
  simp
theorem Ap5 {l:List UInt8} (hn:∀ j (h:j < Gi.length),¬ Gi[j] <+: l):I8 l=0:=by
 have h5:Ls.length=5:=rfl
 unfold I8
 rw[if_neg,if_neg]
 ·intro h
  rcases l with _ | ⟨c,t⟩
  ·simp at h
  ·simp only[List.head?_cons,Option.any_some] at h
   have h':=List.contains_iff_mem.1 h
   obtain⟨j,hj,e⟩:=List.getElem_of_mem h'
   refine hn (5+j) (by simp[Gi,h5];omega) ?_
   have e2:Gi[5+j]'(by simp[Gi,h5];omega)=[Uw[j]]:=by
    simp only[Gi]
    rw[List.getElem_append_right (by omega)]
    simp[h5]
   rw[e2,e]
   exact⟨t,rfl⟩
 ·intro h
  have h':=List.contains_iff_mem.1 h
  obtain⟨j,hj,e⟩:=List.getElem_of_mem h'
  refine hn j (by simp[Gi];omega) ?_
  have e2:Gi[j]'(by simp[Gi];omega)=Ls[j]:=by simp only[Gi];rw[List.getElem_append_left]
  rw[e2,e]
  exact List.take_prefix 2 l
abbrev Nd:=A2
def Dl (op:Int):Int:=if 1≤op∧op≤4 then 0 else if op=5 then 1 else if 6≤op∧op≤14 then 2 else -1
theorem A9e (n:Nat) (op:Int):Jk (n+1) op=some (Dl op):=by
 rcases Wk op with h | h | h | h | h | h | h | h | h | h | h | h | h | h | h | h
 ·have:Dl op= -1:=by unfold Dl;rw[if_neg (by omega),if_neg (by omega),if_neg (by omega)]
  rw[Jk,this,Aq (show ¬ 1≤op by omega),Ca.2 (show op≠5 by omega),An,Aq (show ¬ 6≤op by omega)]
 ·have:Dl op= -1:=by unfold Dl;rw[if_neg (by omega),if_neg (by omega),if_neg (by omega)]
  rw[Jk,this,A6 (show 1≤op by omega),Aq (show ¬ op≤4 by omega),Ca.2 (show op≠5 by omega),An,A6 (show 6≤op by omega),Aq (show ¬ op≤14 by omega)]
 all_goals rw[h];rfl
theorem A33 (n:Nat) (op:Int):Tl (n+1) op=some (Dl op):=by
 have e:Tl (n+1) op=Jk (n+1) op:=by
  rw[Tl,Jk]
 rw[e,A9e]
inductive Tr where
 | leaf (x:Nd)
 | un (x:Nd) (a:Tr)
 | bin (x:Nd) (a b:Tr)
def Tr.flat:Tr→List Nd
 | .leaf x=>[x]
 | .un x a=>x :: a.flat
 | .bin x a b=>x :: (a.flat++b.flat)
def Tr.wf:Tr→Prop
 | .leaf x=>Dl x.B3=0
 | .un x a=>Dl x.B3=1∧a.wf
 | .bin x a b=>Dl x.B3=2∧a.wf∧b.wf
def Tr.dep:Tr→Nat
 | .leaf _=>0
 | .un _ a=>1+a.dep
 | .bin _ a b=>1+max a.dep b.dep
theorem Tr.flat_pos (t:Tr):1≤t.flat.length:=by cases t<;>simp[Tr.flat]
def H6:List Nd→Nat→Option Nat
 | [],_=>none
 | x :: l,w=>if Dl x.B3 < 0 then none else if(w:Int)+Dl x.B3 - 1=0 then some 1 else(H6 l ((w:Int)+Dl x.B3 - 1).toNat).map (·+1)
def T2:List Tr→List Nd
 | []=>[]
 | t :: ts=>t.flat++T2 ts
theorem Uj (op:Int):Dl op= -1∨Dl op=0∨Dl op=1∨Dl op=2:=by
 unfold Dl
 repeat' split
 all_goals omega
theorem Ado:∀ (t:Tr) (w:Nat) (rest:List Nd),t.wf→1≤w→H6 (t.flat++rest) w=if w=1 then some t.flat.length else(H6 rest (w - 1)).map (·+t.flat.length):=by
 intro t
 induction t with
 | leaf x =>
  intro w rest h hw
  simp only[Tr.wf] at h
  simp only[Tr.flat,List.cons_append,List.nil_append,H6,h,List.length_cons,List.length_nil]
  by_cases c:w=1
  ·rw[if_neg (by omega),if_pos (by omega),if_pos c]
  ·rw[if_neg (by omega),if_neg (by omega),if_neg c,show((w:Int)+0 - 1).toNat=w - 1 by omega]
 | un x a ih =>
  intro w rest h hw
  obtain⟨h1,h2⟩:=h
  simp only[Tr.flat,List.cons_append,H6,h1,List.length_cons]
  rw[if_neg (by omega),if_neg (by omega),show((w:Int)+1 - 1).toNat=w by omega,ih w rest h2 hw]
  by_cases c:w=1
  ·rw[if_pos c,if_pos c];rfl
  ·rw[if_neg c,if_neg c,Option.map_map];rfl
 | bin x a b iha ihb =>
  intro w rest h hw
  obtain⟨h1,h2,h3⟩:=h
  simp only[Tr.flat,List.cons_append,H6,h1,List.length_cons,List.append_assoc,List.length_append]
  rw[if_neg (by omega),if_neg (by omega),show((w:Int)+2 - 1).toNat=w+1 by omega,iha (w+1) _ h2 (by omega),if_neg (by omega),show w+1 - 1=w by omega,ihb w rest h3 hw]
  by_cases c:w=1
  ·rw[if_pos c,if_pos c];exact congrArg some (by dsimp only;omega)
  ·rw[if_neg c,if_neg c,Option.map_map,Option.map_map];congr 1;funext j;simp only[Function.comp_apply];try omega
theorem Akl:∀ (l:List Nd) (w j:Nat),1≤w→H6 l w=some j→∃ ts:List Tr,ts.length=w∧(∀ t ∈ ts,t.wf)∧T2 ts=l.take j∧j≤l.length∧1≤j:=by
 intro l
 induction l with
 | nil=>intro w j _ h;cases h
 | cons x l ih =>
  intro w j hw h
  rw[H6] at h
  rcases Uj x.B3 with g | g | g | g
  ·rw[g,if_pos (by omega)] at h;cases h
  all_goals rw[g] at h;rw[if_neg (by omega)] at h
  ·by_cases c:w=1
   ·rw[if_pos (by omega)] at h
    obtain rfl:=Option.some.inj h
    exact⟨[.leaf x],by simp[c],by simpa [Tr.wf] using g,by simp[T2,Tr.flat],by simp,by omega⟩
   ·rw[if_neg (by omega)] at h
    obtain⟨j',h1,h2⟩:=Option.map_eq_some_iff.1 h
    obtain⟨ts,e1,e2,e3,e4,e5⟩:=ih _ j' (by omega) h1
    subst h2
    exact⟨.leaf x :: ts,by simp[e1];omega,by simpa [Tr.wf] using⟨g,e2⟩,by simp[T2,Tr.flat,e3],by simpa using e4,by omega⟩
  ·rw[if_neg (by omega)] at h
   obtain⟨j',h1,h2⟩:=Option.map_eq_some_iff.1 h
   obtain⟨ts,e1,e2,e3,e4,e5⟩:=ih _ j' (by omega) h1
   subst h2
   match ts,e1,e2,e3 with
   | [],e1,_,_=>simp at e1;omega
   | t :: ts,e1,e2,e3 =>
    exact⟨.un x t :: ts,by simp at e1 ⊢;omega,by simpa [Tr.wf,g] using e2,by simp only[T2] at e3;simp[T2,Tr.flat,e3],by simpa using e4,by omega⟩
  ·rw[if_neg (by omega)] at h
   obtain⟨j',h1,h2⟩:=Option.map_eq_some_iff.1 h
   obtain⟨ts,e1,e2,e3,e4,e5⟩:=ih _ j' (by omega) h1
   subst h2
   match ts,e1,e2,e3 with
   | [],e1,_,_=>simp at e1;omega
   | [t],e1,_,_=>simp at e1;omega
   | t :: u :: ts,e1,e2,e3 =>
    refine⟨.bin x t u :: ts,by simp at e1 ⊢;omega,?_,by simp only[T2] at e3;simp[T2,Tr.flat,List.append_assoc,e3],by simpa using e4,by omega⟩
    intro v hv
    rcases List.mem_cons.1 hv with rfl | hv
    ·exact⟨g,e2 t (by simp),e2 u (by simp)⟩
    ·exact e2 v (by simp[hv])
theorem Aeu {l:List Nd} {j:Nat} (h:H6 l 1=some j):∃ t:Tr,t.wf∧t.flat=l.take j∧j≤l.length∧1≤j:=by
 obtain⟨ts,e1,e2,e3,e4,e5⟩:=Akl l 1 j (by omega) h
 match ts,e1,e2,e3 with
 | [t],_,e2,e3=>exact⟨t,e2 t (by simp),by simpa [T2] using e3,e4,e5⟩
def A06 (l:List Nd) (i:Int):Int:=if i < 0 then -1 else match H6 (l.drop i.toNat) 1 with
 | some j=>i+j
 | none=> -1
def Aik (d:Int) (r:LR Unit Int):Int:=match r with
 | .out _=>d
 | .ret v=>v
theorem Auj (n:Nat) (l:List Nd) (hl:l.length < 1000000):∀ (m k i w:Nat),i+m=l.length→m < k→1≤w→w≤i+2 →
 (He (n+1) l k (i:Int) (w:Int)).map (Aik (-1))=some (match H6 (l.drop i) w with | some j=>(i:Int)+j | none=> -1):=by
 intro m
 induction m with
 | zero =>
  intro k i w hi hk hw hb
  obtain⟨k,rfl⟩:∃ j,k=j+1:=⟨k - 1,by omega⟩
  rw[He,Aq (by omega),List.drop_of_length_le (by omega)];rfl
 | succ m ih =>
  intro k i w hi hk hw hb
  obtain⟨k,rfl⟩:∃ j,k=j+1:=⟨k - 1,by omega⟩
  have hlt:i < l.length:=by omega
  rw[He,A6 (by omega),C8 hlt,List.drop_eq_getElem_cons hlt,H6,A1,A9e,A1,Ay i (by omega)]
  rcases Uj l[i].B3 with g | g | g | g
  ·rw[g,A6 (by omega),if_pos (by omega)];rfl
  all_goals rw[g,Aq (by omega),if_neg (by omega)]
  ·rw[Cx (n:=0 - 1) (by omega),Cx (by omega)]
   by_cases c:w=1
   ·subst c;rw[if_pos (by omega)];rfl
   ·rw[if_neg (by omega),Ca.2 (by omega),An,show(w:Int)+(0 - 1)=((w - 1:Nat):Int) by omega,ih k (i+1) (w - 1) (by omega) (by omega) (by omega) (by omega),show((w:Int)+0 - 1).toNat=w - 1 by omega]
    cases H6 (l.drop (i+1)) (w - 1) with
    | none=>rfl
    | some j=>exact congrArg some (by show((i+1:Nat):Int)+(j:Int)=(i:Int)+((j+1:Nat):Int);omega)
  ·rw[Cx (n:=1 - 1) (by omega),Cx (by omega),if_neg (by omega),Ca.2 (by omega),An,show(w:Int)+(1 - 1)=(w:Int) by omega,ih k (i+1) w (by omega) (by omega) (by omega) (by omega),show((w:Int)+1 - 1).toNat=w by omega]
   cases H6 (l.drop (i+1)) w with
   | none=>rfl
   | some j=>exact congrArg some (by show((i+1:Nat):Int)+(j:Int)=(i:Int)+((j+1:Nat):Int);omega)
  ·rw[Cx (n:=2 - 1) (by omega),Cx (by omega),if_neg (by omega),Ca.2 (by omega),An,show(w:Int)+(2 - 1)=((w+1:Nat):Int) by omega,ih k (i+1) (w+1) (by omega) (by omega) (by omega) (by omega),show((w:Int)+2 - 1).toNat=w+1 by omega]
   cases H6 (l.drop (i+1)) (w+1) with
   | none=>rfl
   | some j=>exact congrArg some (by show((i+1:Nat):Int)+(j:Int)=(i:Int)+((j+1:Nat):Int);omega)
theorem Ah6 {τ:Type} {o:Option (LR Unit Int)} {d r:Int} (h:o.map (Aik d)=some r):(o.bind fun o11=>match o11 with | .out _=>some d | .ret v=>some v)=some r:=by
 obtain⟨x,rfl,h2⟩:=Option.map_eq_some_iff.1 h
 cases x<;>exact congrArg some h2
theorem Ats (n:Nat) (l:List Nd) (i:Int) (hl:l.length < 1000000) (hn:l.length+4 < n):Qr n l i=some (A06 l i):=by
 obtain⟨n,rfl⟩:∃ j,n=j+2:=⟨n - 2,by omega⟩
 rw[Qr,A06]
 by_cases c:i < 0
 ·rw[A6 c,if_pos c]
 ·rw[Aq c,if_neg c]
  by_cases c2:i.toNat≤l.length
  ·have:=Auj n l hl (l.length - i.toNat) (n+1) i.toNat 1 (by omega) (by omega) (by omega) (by omega)
   rw[show((i.toNat:Nat):Int)=i by omega] at this
   exact Ah6 (τ:=Unit) this
  ·have e:He (n+1) l (n+1) i 1=some (.out ()):=by rw[He,Aq (by omega)]
   rw[e,List.drop_of_length_le (by omega)];rfl
theorem B23 (n:Nat) (l:List Nd) (hl:l.length < 1000000):∀ (m k i w:Nat),i+m=l.length→m < k→1≤w→w≤i+2 →
 (Pj (n+1) l k (w:Int) (i:Int)).map (Aik (-1))=some (match H6 (l.drop i) w with | some j=>(i:Int)+j | none=> -1):=by
 intro m
 induction m with
 | zero =>
  intro k i w hi hk hw hb
  obtain⟨k,rfl⟩:∃ j,k=j+1:=⟨k - 1,by omega⟩
  rw[Pj,Aq (by omega),List.drop_of_length_le (by omega)];rfl
 | succ m ih =>
  intro k i w hi hk hw hb
  obtain⟨k,rfl⟩:∃ j,k=j+1:=⟨k - 1,by omega⟩
  have hlt:i < l.length:=by omega
  rw[Pj,A6 (by omega),C8 hlt,List.drop_eq_getElem_cons hlt,H6,A1,A33,A1,Ay i (by omega),Cx (n:=(w:Int) - 1) (by omega)]
  rcases Uj l[i].B3 with g | g | g | g
  ·rw[g,A6 (by omega),if_pos (by omega)];rfl
  all_goals rw[g,Aq (by omega),if_neg (by omega)]
  ·rw[Cx (by omega)]
   by_cases c:w=1
   ·subst c;rw[if_pos (by omega)];rfl
   ·rw[if_neg (by omega),Ca.2 (by omega),An,show(w:Int) - 1+0=((w - 1:Nat):Int) by omega,ih k (i+1) (w - 1) (by omega) (by omega) (by omega) (by omega),show((w:Int)+0 - 1).toNat=w - 1 by omega]
    cases H6 (l.drop (i+1)) (w - 1) with
    | none=>rfl
    | some j=>exact congrArg some (by show((i+1:Nat):Int)+(j:Int)=(i:Int)+((j+1:Nat):Int);omega)
  ·rw[Cx (by omega),if_neg (by omega),Ca.2 (by omega),An,show(w:Int) - 1+1=(w:Int) by omega,ih k (i+1) w (by omega) (by omega) (by omega) (by omega),show((w:Int)+1 - 1).toNat=w by omega]
   cases H6 (l.drop (i+1)) w with
   | none=>rfl
   | some j=>exact congrArg some (by show((i+1:Nat):Int)+(j:Int)=(i:Int)+((j+1:Nat):Int);omega)
  ·rw[Cx (by omega),if_neg (by omega),Ca.2 (by omega),An,show(w:Int) - 1+2=((w+1:Nat):Int) by omega,ih k (i+1) (w+1) (by omega) (by omega) (by omega) (by omega),show((w:Int)+2 - 1).toNat=w+1 by omega]
   cases H6 (l.drop (i+1)) (w+1) with
   | none=>rfl
   | some j=>exact congrArg some (by show((i+1:Nat):Int)+(j:Int)=(i:Int)+((j+1:Nat):Int);omega)
theorem Ahn (n:Nat) (l:List Nd) (i:Int) (hl:l.length < 1000000) (hn:l.length+4 < n):Xg n l i=some (A06 l i):=by
 obtain⟨n,rfl⟩:∃ j,n=j+2:=⟨n - 2,by omega⟩
 rw[Xg,A06]
 by_cases c:i < 0
 ·rw[A6 c,if_pos c]
 ·rw[Aq c,if_neg c]
  by_cases c2:i.toNat≤l.length
  ·have:=B23 n l hl (l.length - i.toNat) (n+1) i.toNat 1 (by omega) (by omega) (by omega) (by omega)
   rw[show((i.toNat:Nat):Int)=i by omega] at this
   exact Ah6 (τ:=Unit) this
  ·have e:Pj (n+1) l (n+1) 1 i=some (.out ()):=by rw[Pj,Aq (by omega)]
   rw[e,List.drop_of_length_le (by omega)];rfl
theorem Ajk {t:Tr} (h:t.wf) (pre post:List Nd):A06 (pre++(t.flat++post)) (pre.length:Int)=((pre.length+t.flat.length:Nat):Int):=by
 rw[A06,if_neg (by omega),Int.toNat_natCast,List.drop_left,Ado t 1 post h (by omega),if_pos rfl];simp
def Mk:List Int→List Int
 | []=>[]
 | a :: r=>if 0 < a - 1 then(a - 1) :: r else Mk r
def Ff:List Nd→Int×List Int→Int×List Int
 | [],s=>s
 | x :: l,(m,R)=>if 0 < Dl x.B3 then Ff l (if m < (R.length:Int) then(R.length:Int) else m,Dl x.B3 :: R) else Ff l (if m < (R.length:Int) then(R.length:Int) else m,Mk R)
theorem A38:∀ (t:Tr) (rest:List Nd) (m:Int) (R:List Int),t.wf→0≤m→Ff (t.flat++rest) (m,R)=Ff rest (max m (R.length+t.dep:Nat),Mk R):=by
 intro t
 have hmax:∀ (m:Int) (k:Nat),(if m < (k:Int) then(k:Int) else m)=max m (k:Int):=by intro m k;split<;>omega
 induction t with
 | leaf x =>
  intro rest m R h hm
  simp only[Tr.wf] at h
  simp only[Tr.flat,List.cons_append,List.nil_append,Ff,h,Tr.dep,Nat.add_zero]
  rw[if_neg (by omega),hmax]
 | un x a ih =>
  intro rest m R h hm
  obtain⟨h1,h2⟩:=h
  simp only[Tr.flat,List.cons_append,Ff,h1,Tr.dep]
  rw[if_pos (by omega),hmax,ih _ _ _ h2 (by omega),Mk,if_neg (by omega),List.length_cons]
  congr 2;omega
 | bin x a b iha ihb =>
  intro rest m R h hm
  obtain⟨h1,h2,h3⟩:=h
  simp only[Tr.flat,List.cons_append,Ff,h1,Tr.dep,List.append_assoc]
  rw[if_pos (by omega),hmax,iha _ _ _ h2 (by omega),Mk,if_pos (by omega),ihb _ _ _ h3 (by omega),Mk,if_neg (by omega),List.length_cons,List.length_cons]
  congr 2;omega
theorem Aj1 (n:Nat):∀ (R:List Int) (k:Nat),R.length < k→R.length < 1000000→(∀ v ∈ R,1≤v∧v≤2)→Ht n k R.reverse=some (.out (Mk R).reverse):=by
 intro R
 induction R with
 | nil =>
  intro k hk _ _
  obtain⟨k,rfl⟩:∃ j,k=j+1:=⟨k - 1,by omega⟩
  rw[Ht,List.reverse_nil];rfl
 | cons a R ih =>
  intro k hk hl hv
  obtain⟨k,rfl⟩:∃ j,k=j+1:=⟨k - 1,by omega⟩
  have ha:=hv a (List.mem_cons_self ..)
  rw[List.length_cons] at hl
  have hlen:(a :: R).reverse.length=R.length+1:=by simp
  have w:IntKind.i64.wrap (((R.length+1:Nat):Int) - 1)=(R.length:Int):=by rw[Cx (by omega)];omega
  have hset:∀ v:Int,((a :: R).reverse).set R.length v=R.reverse++[v]:=by
   intro v;rw[List.reverse_cons,List.set_append_right _ _ (by simp)];simp
  have g1:idx (a :: R).reverse (R.length:Int)=some a:=by rw[Qg,List.reverse_cons,List.getElem?_append_right (by simp)];simp
  have g2:∀ v:Int,idx (R.reverse++[v]) (R.length:Int)=some v:=by intro v;rw[Qg,List.getElem?_append_right (by simp)];simp
  rw[Ht,hlen,A6 (by omega),w,g1]
  simp only[A1,Int.toNat_natCast,hset,g2]
  rw[Cx (n:=a - 1) (by omega),Mk]
  by_cases c:0 < a - 1
  ·rw[A6 c,if_pos c,List.reverse_cons]
  ·have c2:(decide (0≤(R.length:Int))&&decide ((R.length:Int)≤(((R.reverse++[a - 1]).length:Nat):Int)))=true:=by
    rw[decide_eq_true (by omega),decide_eq_true (by simp;omega)];rfl
   have e:List.take R.length (R.reverse++[a - 1])=R.reverse:=by
    rw[List.take_append_of_le_length (by simp),List.take_of_length_le (by simp)]
   rw[Aq c,if_neg c,c2,Af,e]
   exact ih k (by rw[List.length_cons] at hk;omega) (by omega) (fun v h=>hv v (List.mem_cons_of_mem _ h))
theorem Abs:∀ (R:List Int),(∀ v ∈ R,1≤v∧v≤2)→(∀ v ∈ Mk R,1≤v∧v≤2)∧(Mk R).length≤R.length:=by
 intro R
 induction R with
 | nil=>intro h;exact⟨h,Nat.le_refl _⟩
 | cons a R ih =>
  intro h
  have ha:=h a (List.mem_cons_self ..)
  have hR:∀ v ∈ R,1≤v∧v≤2:=fun v hv=>h v (List.mem_cons_of_mem _ hv)
  rw[Mk]
  split
  ·exact⟨fun v hv=>by rcases List.mem_cons.1 hv with rfl | hv;exact⟨by omega,by omega⟩;exact hR v hv,by simp⟩
  ·exact⟨(ih hR).1,by have:=(ih hR).2;simp;omega⟩
theorem Ak6 (n:Nat) (l:List Nd) (hl:l.length < 100000) (hn:l.length+2 < n) {k:Nat} (hk:l.length < k):Fu n l k 0 0 []=some (.out ((Ff l (0,[])).1,(Ff l (0,[])).2.reverse)):=by
 refine Qy l (fun k i (s:Int×List Int)=>Fu n l k s.1 (i:Int) s.2.reverse) (fun l s=>some (.out ((Ff l s).1,(Ff l s).2.reverse)))
  (fun i s=>s.2.length≤i∧∀ v ∈ s.2,1≤v∧v≤2) (s:=(0,[])) hk ⟨Nat.le_refl _,by simp⟩ ?_ ?_
 ·intro k s hs
  rw[Fu,Aq (by omega)];rfl
 ·rintro k i ⟨m,R⟩ x hi hx ⟨r1,r2⟩ ih
  dsimp only at r1 r2 ⊢
  obtain⟨n,rfl⟩:∃ j,n=j+1:=⟨n - 1,by omega⟩
  rw[Fu,A6 (by omega),Cn hx,A1,A9e,A1,Ay i (by omega),List.length_reverse,Ff]
  by_cases c:0 < Dl x.B3
  ·rw[A6 c,if_pos c,A6 (by omega),← List.reverse_cons]
   refine ih (_,_ :: R) ⟨by simp;omega,fun v hv=>?_⟩
   rcases List.mem_cons.1 hv with rfl | hv
   ·rcases Uj x.B3 with g | g | g | g<;>omega
   ·exact r2 v hv
  ·have hc:=Abs R r2
   rw[Aq c,if_neg c,Aj1 (n+1) R (n+1) (by omega) (by omega) r2,A1]
   exact ih (_,Mk R) ⟨by dsimp only;omega,hc.1⟩
theorem Tr.dep_lt (t:Tr):t.dep < t.flat.length:=by
 induction t with
 | leaf x=>simp[Tr.dep,Tr.flat]
 | un x a ih=>simp[Tr.dep,Tr.flat];omega
 | bin x a b iha ihb=>simp[Tr.dep,Tr.flat];omega
theorem Ar6:∀ (t:Tr) (n:Nat) (pre post:List Nd),t.wf→(pre++(t.flat++post)).length < 100000→(pre++(t.flat++post)).length+10+t.dep < n→Ln n (pre++(t.flat++post)) (pre.length:Int)=some (t.dep:Int):=by
 intro t
 induction t with
 | leaf x =>
  intro n pre post h hl hn
  obtain⟨n,rfl⟩:∃ j,n=j+3:=⟨n - 3,by omega⟩
  simp only[Tr.wf] at h
  have g:idx (pre++((Tr.leaf x).flat++post)) (pre.length:Int)=some x:=by rw[Qg,List.getElem?_append_right (by simp)];simp[Tr.flat]
  rw[Ln,Mq,g,A1,A33,A1,h];rfl
 | un x a ih =>
  intro n pre post h hl hn
  obtain⟨n,rfl⟩:∃ j,n=j+4:=⟨n - 4,by omega⟩
  obtain⟨h1,h2⟩:=h
  have e:pre++((Tr.un x a).flat++post)=(pre++[x])++(a.flat++post):=by simp[Tr.flat]
  have hp:((pre++[x]).length:Int)=(pre.length:Int)+1:=by simp
  rw[e] at hl hn ⊢
  simp only[Tr.dep] at hn
  have g:idx ((pre++[x])++(a.flat++post)) (pre.length:Int)=some x:=by rw[Qg,List.append_assoc,List.getElem?_append_right (by simp)];simp
  have i1:=ih (n+3) (pre++[x]) post h2 hl (by omega)
  have ee:=Ajk h2 (pre++[x]) post
  have hd:=a.dep_lt
  simp only[List.length_append,List.length_cons,List.length_nil] at hl hn
  rw[hp] at i1 ee
  rw[Ln,Mq,g,A1,A33,A1,h1,A6 (by omega),Cx (n:=(pre.length:Int)+1) (by omega),i1,A1,Ahn _ _ _ (by simp;omega) (by simp;omega),A1,Cx (by omega),Cx (by omega)]
  rw[Mq,g,A1,A33,A1,h1,Aq (by omega)]
  simp only[A1,Tr.dep]
  congr 1
  split<;>omega
 | bin x a b iha ihb =>
  intro n pre post h hl hn
  obtain⟨n,rfl⟩:∃ j,n=j+5:=⟨n - 5,by omega⟩
  obtain⟨h1,h2,h3⟩:=h
  have e:pre++((Tr.bin x a b).flat++post)=(pre++[x])++(a.flat++(b.flat++post)):=by simp[Tr.flat]
  have e2:(pre++[x])++(a.flat++(b.flat++post))=(pre++[x]++a.flat)++(b.flat++post):=by simp
  have hp:((pre++[x]).length:Int)=(pre.length:Int)+1:=by simp
  have hp2:((pre++[x]++a.flat).length:Int)=((pre++[x]).length+a.flat.length:Nat):=by simp;omega
  rw[e] at hl hn ⊢
  simp only[Tr.dep] at hn
  have g:idx ((pre++[x])++(a.flat++(b.flat++post))) (pre.length:Int)=some x:=by rw[Qg,List.append_assoc,List.getElem?_append_right (by simp)];simp
  have i1:=iha (n+4) (pre++[x]) (b.flat++post) h2 hl (by omega)
  have i2:=ihb (n+4) (pre++[x]++a.flat) post h3 (by rw[← e2];exact hl) (by rw[← e2];omega)
  have ee:=Ajk h2 (pre++[x]) (b.flat++post)
  have ee2:=Ajk h3 (pre++[x]++a.flat) post
  rw[← e2,hp2] at i2 ee2
  have hd:=a.dep_lt
  have hd2:=b.dep_lt
  simp only[List.length_append,List.length_cons,List.length_nil] at hl hn ee2 i2
  rw[hp] at i1 ee
  rw[Ln,Mq,g,A1,A33,A1,h1,A6 (by omega),Cx (n:=(pre.length:Int)+1) (by omega),i1,A1,Ahn _ _ _ (by simp;omega) (by simp;omega),A1,Cx (n:=1+(a.dep:Int)) (by omega),Cx (n:=0+1) (by omega),ee]
  rw[Mq,g,A1,A33,A1,h1,A6 (by omega)]
  simp only[List.length_append,List.length_cons,List.length_nil]
  rw[i2,A1,Ahn _ _ _ (by simp;omega) (by simp;omega),A1,Cx (n:=1+(b.dep:Int)) (by omega),Cx (by omega)]
  rw[Mq,g,A1,A33,A1,h1,Aq (by omega)]
  simp only[A1,Tr.dep]
  congr 1
  repeat' split
  all_goals omega
theorem A80 (n:Nat) (c:Int):Rp (n+1) c=some (Et c):=by
 rw[Rp]
 by_cases h1:97≤c<;>by_cases h2:c≤122<;>by_cases h3:65≤c<;>by_cases h4:c≤90<;>simp[Et,h1,h2,h3,h4]<;>(by_cases h5:c=95<;>simp[h5])
theorem Af2 (n:Nat) (c:Int):Sq (n+1) c=some (Cv c):=by
 rw[Sq]
 by_cases h1:48≤c<;>simp[Cv,h1]
theorem B36 (n:Nat) (s:List UInt8) (hn:30 < n):Up n s=some (kwB s):=by
 obtain⟨n,rfl⟩:∃ j,n=j+2:=⟨n - 2,by omega⟩
 rw[Up,A00,A1]
 have:=Ag5 kws (fun k i=>Lc (n+1) s kws k (i:Int)) (fun x=>x==s) (fun k=>?_) (fun k i x hi hx=>?_) (k:=n+1) (by have:kws.length=21:=rfl;omega)
 ·have e:kws.any (fun x=>x==s)=kwB s:=by
   rw[kwB,List.contains_eq_any_beq];congr 1;funext x;rw[BEq.comm]
  rw[e] at this
  have this:Lc (n+1) s kws (n+1) 0=_:=this
  show(Lc (n+1) s kws (n+1) 0).bind _=_
  rw[this]
  cases kwB s<;>rfl
 ·rw[Lc,Aq (by omega)]
 ·have:kws.length=21:=rfl
  rw[Lc,A6 (by omega),Cn hx,A1,Ay i (by omega)]
theorem Adh (n:Nat) (s:List UInt8) (hn:s.length+40 < n) (hs:s.length < 1000000):J3 n s=some (Cp s):=by
 obtain⟨n,rfl⟩:∃ j,n=j+2:=⟨n - 2,by omega⟩
 rw[J3]
 by_cases c1:(s.length:Int) < 1
 ·have:s=[]:=List.length_eq_zero_iff.1 (by omega)
  subst this;rw[A6 c1];rfl
 by_cases c2:16 < (s.length:Int)
 ·rw[Aq c1,A6 c2,Cp,decide_eq_false (show ¬ s.length≤16 by omega)];simp
 rw[Aq c1,Aq c2]
 obtain⟨c,r,rfl⟩:∃ c r,s=c :: r:=by
  cases s with
  | nil=>simp at c1
  | cons c r=>exact⟨c,r,rfl⟩
 have g:idx (c :: r) 0=some c:=rfl
 rw[g,A1,A80,A1]
 cases hl:Et (c.toNat:Int) with
 | false =>
  have:Cp (c :: r)=false:=Akz (k:=0) (by simp) (by simp[Rk,hl])
  rw[this];rfl
 | true =>
  rw[B36 _ _ (by omega)]
  simp only[Af,A1]
  cases hk:kwB (c :: r) with
  | true=>simp[Cp,hk]
  | false =>
   have hL:O6 (n+1) (c :: r) (n+1) 0=bif (c :: r).all (fun x=>Et (x.toNat:Int) || Cv (x.toNat:Int)) then some (.out ()) else some (.ret false):=by
    refine Nh (c :: r) (fun k i=>O6 (n+1) (c :: r) k (i:Int)) _ (fun k=>?_) (fun k i x hi hx=>?_) (by omega)
    ·rw[O6,Aq (by omega)]
    ·rw[O6,A6 (by omega),Cn hx,A1,A80,A1,A1,Af2,A1,Ay i (by omega)]
     cases Et (x.toNat:Int)<;>rfl
   have e:Cp (c :: r)=(c :: r).all (fun x=>Et (x.toNat:Int) || Cv (x.toNat:Int)):=by
    have e1:Cp (c :: r)=(List.range (c :: r).length).all (Rk (c :: r)):=by
     rw[Cp,hk,decide_eq_true (by omega)];simp
    rw[e1,Bool.eq_iff_iff,List.all_eq_true,List.all_eq_true]
    constructor
    ·intro h x hx
     obtain⟨i,hi,rfl⟩:=List.mem_iff_getElem.1 hx
     have:=h i (by simpa using hi)
     simp only[Rk,Ax hi] at this
     revert this
     cases Et _<;>cases Cv _<;>simp
    ·intro h i hi
     have hi:i < (c :: r).length:=by simpa using hi
     have:=h _ (List.getElem_mem hi)
     simp only[Rk,Ax hi]
     cases i with
     | zero=>simp[hl]
     | succ i=>simpa using this
   rw[An,hL,← e]
   cases Cp (c :: r)<;>rfl
def E2 (x:Nd):Bool:=!decide (x.Ab < 0)&&(if x.B3=1 then decide (0≤x.Bs∧x.Bs≤9999)&&(x.Ao==[]&&x.Cq==[])
 else if x.B3=2∨x.B3=3 then x.Bs==0&&(Cp x.Ao&&x.Cq==[]) else if x.B3=4 then x.Bs==0&&(Cp x.Ao&&Cp x.Cq) else x.Bs==0&&(x.Ao==[]&&x.Cq==[]))
theorem Apf (n:Nat) (x:Nd):Po (n+2) x=some (E2 x):=by
 rw[Po,E2]
 by_cases c:x.Ab < 0
 ·rw[A6 c,decide_eq_true c];rfl
 rw[Aq c,decide_eq_false c]
 simp only[Dp,A1,beq_self_eq_true,Bool.true_and,Bool.and_true,Bool.not_false]
 by_cases c1:x.B3=1
 ·rw[if_pos c1,c1]
  simp only[beq_self_eq_true,Af]
  cases (x.Ao==[])<;>cases (x.Cq==[])<;>by_cases h:0≤x.Bs<;>by_cases h2:x.Bs≤9999<;>simp[h,h2]
 rw[if_neg c1,Ca.2 c1]
 by_cases c4:x.B3=4
 ·rw[if_neg (by omega),if_pos c4,c4]
  simp only[beq_self_eq_true,Af,An]
  cases Cp x.Cq<;>cases Cp x.Ao<;>cases (x.Bs==0)<;>rfl
 rw[if_neg c4,Ca.2 c4]
 by_cases c2:x.B3=2
 ·rw[if_pos (.inl c2),c2]
  simp only[beq_self_eq_true,Af,An]
  cases Cp x.Ao<;>cases (x.Bs==0)<;>cases (x.Cq==[])<;>rfl
 rw[Ca.2 c2]
 by_cases c3:x.B3=3
 ·rw[if_pos (.inr c3),c3]
  simp only[beq_self_eq_true,Af,An]
  cases Cp x.Ao<;>cases (x.Bs==0)<;>cases (x.Cq==[])<;>rfl
 rw[if_neg (by omega),Ca.2 c3]
 rfl
theorem B0d (n:Nat) (x:Nd) (hn:x.Ao.length+50 < n) (hn2:x.Cq.length+50 < n) (h1:x.Ao.length < 1000000) (h2:x.Cq.length < 1000000):Y7 n x=some (E2 x):=by
 obtain⟨n,rfl⟩:∃ j,n=j+1:=⟨n - 1,by omega⟩
 rw[Y7,E2]
 by_cases c:x.Ab < 0
 ·rw[A6 c,decide_eq_true c];rfl
 rw[Aq c,decide_eq_false c,Adh n x.Ao (by omega) h1,Adh n x.Cq (by omega) h2]
 simp only[A1,Bool.not_false,Bool.true_and]
 by_cases c1:x.B3=1
 ·rw[if_pos c1,c1]
  simp only[beq_self_eq_true,Af]
  cases (x.Ao==[])<;>cases (x.Cq==[])<;>by_cases h:0≤x.Bs<;>by_cases h2:x.Bs≤9999<;>simp[h,h2]
 rw[if_neg c1,Ca.2 c1]
 by_cases c2:x.B3=2
 ·rw[if_pos (.inl c2),c2]
  simp only[beq_self_eq_true,Af,An]
  cases Cp x.Ao<;>cases (x.Bs==0)<;>rfl
 rw[Ca.2 c2]
 by_cases c3:x.B3=3
 ·rw[if_pos (.inr c3),c3]
  simp only[beq_self_eq_true,Af,An]
  cases Cp x.Ao<;>cases (x.Bs==0)<;>rfl
 rw[if_neg (by omega),Ca.2 c3]
 by_cases c4:x.B3=4
 ·rw[if_pos c4,c4]
  simp only[beq_self_eq_true,Af,An]
  cases Cp x.Ao<;>cases (x.Bs==0)<;>rfl
 rw[if_neg c4,Ca.2 c4]
 cases (x.Ao==[])<;>cases (x.Bs==0)<;>rfl
def Ep (l:List Nd):Bool:=decide (1≤l.length∧l.length≤200)&&(decide (H6 l 1=some l.length)&&(l.all E2&&decide ((Ff l (0,[])).1≤30)))
theorem A6r (n:Nat) (l:List Nd) (hl:l.length < 100000) (hn:l.length+4 < n):Lz n l=some (Ff l (0,[])).1:=by
 obtain⟨n,rfl⟩:∃ j,n=j+1:=⟨n - 1,by omega⟩
 rw[Lz,Ak6 n l hl (by omega) (by omega)];rfl
theorem Amf (l:List Nd) (hl:1≤l.length):(A06 l 0 != (l.length:Int))=!decide (H6 l 1=some l.length):=by
 have e:A06 l 0=match H6 l 1 with | some j=>((j:Nat):Int) | none=> -1:=by
  rw[A06,if_neg (by omega)]
  show(match H6 l 1 with | some j=>(0:Int)+(j:Int) | none=> -1)=_
  cases H6 l 1 with
  | none=>rfl
  | some j=>simp
 rw[e]
 cases H6 l 1 with
 | none =>
  show((-1:Int) != (l.length:Int))=_
  rw[bne_iff_ne.2 (by omega)];simp
 | some j =>
  show(((j:Nat):Int) != (l.length:Int))=_
  rw[Asv]
  by_cases h:j=l.length<;>simp[h]
theorem Y6 (n:Nat) (l:List Nd) (hl:l.length < 100000) (hn:l.length+20 < n):Jx n l=some (Ep l):=by
 obtain⟨n,rfl⟩:∃ j,n=j+3:=⟨n - 3,by omega⟩
 rw[Jx,Ep]
 by_cases c1:l.length=0
 ·rw[beq_iff_eq.2 (show((l.length:Nat):Int)=0 by omega),decide_eq_false (show ¬ (1≤l.length∧l.length≤200) by omega)];rfl
 rw[Ca.2 (show((l.length:Nat):Int)≠0 by omega)]
 by_cases c2:200 < (l.length:Int)
 ·rw[A6 c2,decide_eq_false (show ¬ (1≤l.length∧l.length≤200) by omega)];rfl
 have hL:Gq (n+2) l (n+2) 0=bif l.all E2 then some (.out ()) else some (.ret false):=by
  refine Nh l (fun k i=>Gq (n+2) l k (i:Int)) _ (fun k=>?_) (fun k i x hi hx=>?_) (by omega)
  ·rw[Gq,Aq (by omega)]
  ·rw[Gq,A6 (by omega),Cn hx,A1,Apf,A1,Ay i (by omega)]
 rw[Aq c2,Ats (n+2) l 0 (by omega) (by omega),A1,Amf l (by omega),hL,decide_eq_true (show 1≤l.length∧l.length≤200 by omega)]
 simp only[An,A6r (n+2) l hl (by omega)]
 cases decide (H6 l 1=some l.length) with
 | false=>rfl
 | true=>cases l.all E2<;>rfl
def Hn (l:List Nd):Bool:=decide (l.length≤250)&&l.all fun x=>decide (x.Ao.length≤100∧x.Cq.length≤100)
theorem Ay4 (n:Nat) (l:List Nd) (hl:Hn l=true) (hn:500 < n):Xa n l=some (Ep l):=by
 simp only[Hn,Ah,C1,List.all_eq_true] at hl
 obtain⟨n,rfl⟩:∃ j,n=j+3:=⟨n - 3,by omega⟩
 rw[Xa,Ep]
 by_cases c2:200 < (l.length:Int)
 ·rw[A6 c2,decide_eq_false (show ¬ (1≤l.length∧l.length≤200) by omega)];rfl
 rw[Aq c2]
 by_cases c1:l.length=0
 ·rw[beq_iff_eq.2 (show((l.length:Nat):Int)=0 by omega),decide_eq_false (show ¬ (1≤l.length∧l.length≤200) by omega)];rfl
 rw[Ca.2 (show((l.length:Nat):Int)≠0 by omega)]
 have hL:P3 (n+2) l (n+2) 0=bif l.all E2 then some (.out ()) else some (.ret false):=by
  refine Nh l (fun k i=>P3 (n+2) l k (i:Int)) _ (fun k=>?_) (fun k i x hi hx=>?_) (by omega)
  ·rw[P3,Aq (by omega)]
  ·have:=hl.2 x (List.mem_of_getElem? hx)
   rw[P3,A6 (by omega),Cn hx,A1,B0d _ x (by omega) (by omega) (by omega) (by omega),A1,Ay i (by omega)]
 rw[Ahn (n+2) l 0 (by omega) (by omega),A1,Amf l (by omega),hL,decide_eq_true (show 1≤l.length∧l.length≤200 by omega)]
 simp only[An]
 by_cases he:H6 l 1=some l.length
 ·rw[decide_eq_true he]
  cases l.all E2 with
  | false=>rfl
  | true =>
   obtain⟨t,h1,h2,_,_⟩:=Aeu he
   rw[List.take_length] at h2
   have hd:=t.dep_lt
   have e1:Ln (n+2) l 0=some (t.dep:Int):=by
    have:=Ar6 t (n+2) [] [] h1 (by simp[h2];omega) (by simp[h2];rw[h2] at hd;omega)
    simpa [h2] using this
   have e2:(Ff l (0,[])).1=(t.dep:Int):=by
    have:=A38 t [] 0 [] h1 (by omega)
    rw[List.append_nil,h2] at this
    rw[this];simp[Ff]
   simp only[Bool.not_true,An,Af,A1,e1,e2,Bool.true_and]
 ·rw[decide_eq_false he];rfl
def A03 {α:Type} (p:α→Bool):List α→Nat→Option Nat
 | [],_=>none
 | x :: l,i=>bif p x then some i else A03 p l (i+1)
theorem Ay0 {α:Type} {p:α→Bool}:∀ {l:List α} {i j:Nat},A03 p l i=some j→i≤j∧j < i+l.length∧∃ x,l[j - i]?=some x∧p x=true:=by
 intro l
 induction l with
 | nil=>intro i j h;cases h
 | cons x l ih =>
  intro i j h
  rw[A03] at h
  cases hp:p x with
  | true =>
   rw[hp] at h
   obtain rfl:i=j:=Option.some.inj h
   exact⟨Nat.le_refl _,by simp,x,by simp,hp⟩
  | false =>
   rw[hp] at h
   obtain⟨h1,h2,y,h3,h4⟩:=ih h
   refine⟨by omega,by simp;omega,y,?_,h4⟩
   rw[show j - i=(j - (i+1))+1 by omega,List.getElem?_cons_succ];exact h3
theorem Av2 {α τ:Type} (l:List α) (L:Nat→Nat→Option (LR Unit τ)) (p:α→Bool) (g:Nat→α→Option (LR Unit τ)) (h0:∀ k,L (k+1) l.length=some (.out ()))
 (h1:∀ k i x,i < l.length→l[i]?=some x→L (k+1) i=bif p x then g i x else L k (i+1)) :
 ∀ (m k i:Nat),i+m=l.length→m < k→L k i=match A03 p (l.drop i) i with | some j=>(match l[j]? with | some x=>g j x | none=>none) | none=>some (.out ()):=by
 intro m
 induction m with
 | zero =>
  intro k i hi hk
  obtain⟨k,rfl⟩:∃ j,k=j+1:=⟨k - 1,by omega⟩
  obtain rfl:i=l.length:=by omega
  rw[h0,List.drop_length];rfl
 | succ m ih =>
  intro k i hi hk
  obtain⟨k,rfl⟩:∃ j,k=j+1:=⟨k - 1,by omega⟩
  have hlt:i < l.length:=by omega
  rw[h1 k i l[i] hlt (Ax hlt),ih k (i+1) (by omega) (by omega),List.drop_eq_getElem_cons hlt,A03]
  cases hp:p l[i] with
  | true=>simp only[Af,Ax hlt]
  | false=>rfl
theorem Azh {τ:Type} (s:List UInt8) (p:Int→Bool) (L:Nat→Nat→Option (LR Int τ)) (h0:∀ k,L (k+1) s.length=some (.out (s.length:Int)))
 (h1:∀ k i c,i < s.length→s[i]?=some c→L (k+1) i=bif p c.toNat then L k (i+1) else some (.out (i:Int))) :
 ∀ (m k i:Nat),i+m=s.length→m < k→L k i=some (.out ((i+Cj p (s.drop i):Nat):Int)):=by
 intro m
 induction m with
 | zero =>
  intro k i hi hk
  obtain⟨k,rfl⟩:∃ j,k=j+1:=⟨k - 1,by omega⟩
  obtain rfl:i=s.length:=by omega
  rw[h0,List.drop_length];simp[Cj]
 | succ m ih =>
  intro k i hi hk
  obtain⟨k,rfl⟩:∃ j,k=j+1:=⟨k - 1,by omega⟩
  have hlt:i < s.length:=by omega
  rw[h1 k i s[i] hlt (Ax hlt),List.drop_eq_getElem_cons hlt,Kj]
  cases hp:p (s[i].toNat:Int) with
  | true=>rw[Af,ih k (i+1) (by omega) (by omega),if_pos rfl];congr 3;omega
  | false=>rw[An,if_neg (by simp)];rfl
theorem B2e (n:Nat) (s:List UInt8) (hs:s.length < 1000000) {k i:Nat} (hi:i≤s.length) (hk:s.length - i < k):R2 n s k (i:Int)=some (.out ((i+Cj Kz (s.drop i):Nat):Int)):=by
 refine Azh s Kz (fun k i=>R2 n s k (i:Int)) (fun k=>?_) (fun k i c hi hc=>?_) (s.length - i) k i (by omega) hk
 ·rw[R2,Aq (by omega)]
 ·rw[R2,A6 (by omega),Cn hc,A1,Ay i (by omega)]
  have:(((c.toNat:Nat):Int) != 10)=Kz c.toNat:=by
   unfold Kz
   by_cases h:((c.toNat:Nat):Int)=10<;>simp[h]
  rw[this]
def Ap1 (r:LR Int Int):Int:=match r with
 | .out x=>x
 | .ret x=>x
theorem B34 (n:Nat) (s:List UInt8) (hs:s.length < 1000000) (hn:s.length < n):∀ (m k i:Nat),s.length - i≤m→i≤s.length→m < k→(Jw n s k (i:Int)).map Ap1=some ((i+D7 false (s.drop i):Nat):Int):=by
 intro m
 induction m with
 | zero =>
  intro k i hm hi hk
  obtain⟨k,rfl⟩:∃ j,k=j+1:=⟨k - 1,by omega⟩
  obtain rfl:i=s.length:=by omega
  rw[Jw,Aq (by omega),List.drop_length];simp[D7,Ap1]
 | succ m ih =>
  intro k i hm hi hk
  obtain⟨k,rfl⟩:∃ j,k=j+1:=⟨k - 1,by omega⟩
  by_cases hlt:i < s.length
  ·have hc:s[i]?=some s[i]:=Ax hlt
   rw[Jw,A6 (by omega),Cn hc,Ay i (by omega),List.drop_eq_getElem_cons hlt]
   generalize hcc:s[i]=c at *
   simp only[A1]
   by_cases hb:Ji (c.toNat:Int)=true
   ·have hi1:=ih k (i+1) (by omega) (by omega) (by omega)
    have e:(Jw n s k ((i+1:Nat):Int)).map Ap1=some ((i+D7 false (c :: s.drop (i+1)):Nat):Int):=by
     rw[hi1,Zd hb];congr 1;omega
    rw[← e]
    unfold Ji at hb
    rw[C1] at hb
    rcases hb with h | h | h | h<;>rw[h]<;>rfl
   ·have hb':Ji (c.toNat:Int)=false:=by simpa using hb
    have hnb:=hb'
    unfold Ji at hnb
    rw[decide_eq_false_iff_not] at hnb
    rw[Ca.2 (show((c.toNat:Nat):Int)≠32 by omega),Ca.2 (show((c.toNat:Nat):Int)≠9 by omega),Ca.2 (show((c.toNat:Nat):Int)≠10 by omega),Ca.2 (show((c.toNat:Nat):Int)≠13 by omega)]
    simp only[An]
    by_cases h35:c.toNat=35
    ·have hr:=B2e n s hs (k:=n) (i:=i) (by omega) (by omega)
     have hd:s.drop i=c :: s.drop (i+1):=by rw[List.drop_eq_getElem_cons hlt,hcc]
     have hl1:1≤Cj Kz (s.drop i):=by
      rw[hd,Kj,if_pos (by rw[h35];decide)];omega
     have hl2:=S7 Kz (s.drop i)
     rw[List.length_drop] at hl2
     rw[h35,hr,A1]
     show Option.map Ap1 (Jw n s k _)=_
     rw[ih k (i+Cj Kz (s.drop i)) (by omega) (by omega) (by omega),A3m h35,← hd,List.drop_drop]
     congr 1;omega
    ·rw[Ca.2 (show((c.toNat:Nat):Int)≠35 by omega),An,A3u hb' h35]
     rfl
  ·obtain rfl:i=s.length:=by omega
   rw[Jw,Aq (by omega),List.drop_length];simp[D7,Ap1]
theorem B05 (n:Nat) (s:List UInt8) (i:Nat) (hs:s.length < 1000000) (hn:s.length+1 < n) (hi:i≤s.length):Xj n s (i:Int)=some ((i+D7 false (s.drop i):Nat):Int):=by
 obtain⟨n,rfl⟩:∃ j,n=j+1:=⟨n - 1,by omega⟩
 obtain⟨r,h1,h2⟩:=Option.map_eq_some_iff.1 (B34 n s hs (by omega) s.length n i (by omega) hi (by omega))
 rw[Xj,h1]
 cases r<;>exact congrArg some h2
def Amh (s:List UInt8) (at':Nat):Lx→A5×Int
 | .tok k n v=>(⟨k,(s.drop at').take n,v,at'⟩,0)
 | .err e=>(⟨0,[],0,0⟩,e)
theorem B1v (n:Nat) (s:List UInt8) (hs:s.length < 1000000) (a:Nat) (k i:Nat) (h0:a < i) (hi:i≤s.length) (hk:s.length - i < k):Ns (n+1) s (a:Int) k (i:Int)=some (.out ((i+Cj H8 (s.drop i):Nat):Int)):=by
 have key:∀ (m k i:Nat),a < i→i+m=s.length→m < k→Ns (n+1) s (a:Int) k (i:Int)=some (.out ((i+Cj H8 (s.drop i):Nat):Int)):=by
  intro m
  induction m with
  | zero =>
   intro k i ha hi hk
   obtain⟨k,rfl⟩:∃ j,k=j+1:=⟨k - 1,by omega⟩
   obtain rfl:i=s.length:=by omega
   rw[Ns,Aq (by omega),List.drop_length];simp[Cj]
  | succ m ih =>
   intro k i ha hi hk
   obtain⟨k,rfl⟩:∃ j,k=j+1:=⟨k - 1,by omega⟩
   have hlt:i < s.length:=by omega
   rw[Ns,A6 (by omega),Cn (Ax hlt),A1,A80,A1,A1,Af2,A1,Ay i (by omega),A6 (by omega),List.drop_eq_getElem_cons hlt,Kj]
   have e:=ih k (i+1) (by omega) (by omega) (by omega)
   unfold H8
   cases Et (s[i].toNat:Int) with
   | true=>rw[Af,e,Bool.true_or,if_pos rfl];congr 3;unfold H8;omega
   | false =>
    cases Cv (s[i].toNat:Int) with
    | true=>rw[An,Af,e,Bool.or_true,if_pos rfl];congr 3;unfold H8;omega
    | false=>rw[An,An,if_neg (by simp)];rfl
 exact key (s.length - i) k i h0 (by omega) hk
theorem Az0 (n:Nat) (s:List UInt8) (hs:s.length < 1000000):∀ (m k i v:Nat),i+m=s.length→m < k→v≤10000 →
 Qq (n+1) s k (i:Int) (v:Int)=some (.out (((i+Cj Cv (s.drop i):Nat):Int),(((s.drop i).take (Cj Cv (s.drop i))).foldl (fun n c=>min (10*n+(c.toNat - 48)) 10000) v:Nat))):=by
 intro m
 induction m with
 | zero =>
  intro k i v hi hk hv
  obtain⟨k,rfl⟩:∃ j,k=j+1:=⟨k - 1,by omega⟩
  obtain rfl:i=s.length:=by omega
  rw[Qq,Aq (by omega),List.drop_length];simp[Cj]
 | succ m ih =>
  intro k i v hi hk hv
  obtain⟨k,rfl⟩:∃ j,k=j+1:=⟨k - 1,by omega⟩
  have hlt:i < s.length:=by omega
  rw[Qq,A6 (by omega),Cn (Ax hlt),A1,Af2,A1,A1,Ay i (by omega),List.drop_eq_getElem_cons hlt,Kj]
  cases hd:Cv (s[i].toNat:Int) with
  | false=>rw[An,if_neg (by simp)];simp
  | true =>
   have hd':48≤s[i].toNat∧s[i].toNat≤57:=by
    unfold Cv at hd;rw[C1] at hd;omega
   have w1:IntKind.u8.wrap ((s[i].toNat:Int) - 48)=((s[i].toNat - 48:Nat):Int):=by
    simp only[IntKind.wrap,IntKind.bits,IntKind.signed]
    simp;omega
   rw[Af,if_pos rfl,w1,Cx (n:=10*(v:Int)) (by omega),Cx (n:=((s[i].toNat - 48:Nat):Int)) (by omega),Cx (by omega)]
   have e:(if 10000 < 10*(v:Int)+((s[i].toNat - 48:Nat):Int) then(10000:Int) else 10*(v:Int)+((s[i].toNat - 48:Nat):Int))=((min (10*v+(s[i].toNat - 48)) 10000:Nat):Int):=by split<;>omega
   rw[e,ih k (i+1) _ (by omega) (by omega) (by omega),List.take_succ_cons,List.foldl_cons]
   congr 3;omega
theorem Axz (n:Nat):A01 (n+1)=some Gi:=rfl
theorem A9y (s:List UInt8) (a k:Nat):List.drop a (List.take (a+k) s)=(s.drop a).take k:=by rw[List.drop_take];congr 1;omega
theorem B1z (n:Nat) (s:List UInt8) (hs:s.length < 1000000) (a:Nat) (ha:a≤s.length) {k:Nat} (hk:20 < k) :
 Pm n s (a:Int) Gi k 0=match A03 (fun x:List UInt8=>decide (x <+: s.drop a)) Gi 0 with
  | some j=>(match Gi[j]? with | some x=>some (.ret ((⟨3,x,0,(a:Int)⟩:A5),0)) | none=>none)
  | none=>some (.out ()):=by
 have hlen:Gi.length=18:=rfl
 have h:=Av2 Gi (fun k i=>Pm n s (a:Int) Gi k (i:Int)) (fun x:List UInt8=>decide (x <+: s.drop a)) (fun i x=>some (.ret ((⟨3,x,0,(a:Int)⟩:A5),0))) (fun k=>by rw[Pm,Aq (by omega)]) (fun k i x hi hx=>by
  have hxl:x.length≤2:=by
   have hm:=List.mem_of_getElem? hx
   have:Gi.all (fun x=>decide (x.length≤2))=true:=by decide
   simpa using List.all_eq_true.1 this x hm
  rw[Pm,A6 (by omega),Cn hx,A1,A1,Ay i (by omega),Cx (n:=(a:Int)+(x.length:Int)) (by omega)]
  by_cases hl:(a:Int)+(x.length:Int)≤(s.length:Int)
  ·have c:(decide (0≤(a:Int)+(x.length:Int))&&decide ((a:Int)+(x.length:Int)≤(s.length:Int))&&decide (0≤(a:Int))&&decide ((a:Int)≤(a:Int)+(x.length:Int)))=true:=by
    rw[decide_eq_true (by omega),decide_eq_true hl,decide_eq_true (by omega),decide_eq_true (by omega)];rfl
   rw[A6 hl,c,Af,Int.toNat_natCast,show((a:Int)+(x.length:Int)).toNat=a+x.length by omega,A9y,A1]
   have e:((s.drop a).take x.length==x)=decide (x <+: s.drop a):=by
    rw[Bool.eq_iff_iff,beq_iff_eq,C1,List.prefix_iff_eq_take]
    exact⟨fun h=>h.symm,fun h=>h.symm⟩
   rw[e]
  ·have e:decide (x <+: s.drop a)=false:=decide_eq_false fun hp=>by
    have:=hp.length_le
    rw[List.length_drop] at this;omega
   rw[Aq hl,e,An]) Gi.length k 0 (by omega) (by omega)
 rw[List.drop_zero] at h
 refine h.trans ?_
 cases A03 (fun x:List UInt8=>decide (x <+: s.drop a)) Gi 0 with
 | none=>rfl
 | some j=>(dsimp only;generalize Gi[j]?=q;cases q<;>rfl)
theorem Aqs {α:Type} {p:α→Bool}:∀ {l:List α} {i j:Nat},A03 p l i=some j→∀ k x,i+k < j→l[k]?=some x→p x=false:=by
 intro l
 induction l with
 | nil=>intro i j h;cases h
 | cons y l ih =>
  intro i j h k x hk hx
  rw[A03] at h
  cases hp:p y with
  | true =>
   rw[hp] at h
   have:i=j:=Option.some.inj h
   omega
  | false =>
   rw[hp] at h
   cases k with
   | zero=>obtain rfl:y=x:=by simpa using hx
           exact hp
   | succ k=>exact ih h k x (by omega) (by simpa using hx)
theorem Asb {α:Type} {p:α→Bool}:∀ {l:List α} {i:Nat},A03 p l i=none→∀ x ∈ l,p x=false:=by
 intro l
 induction l with
 | nil=>intro i _ x hx;cases hx
 | cons y l ih =>
  intro i h x hx
  rw[A03] at h
  cases hp:p y with
  | true=>rw[hp] at h;cases h
  | false =>
   rw[hp] at h
   rcases List.mem_cons.1 hx with rfl | hx
   ·exact hp
   ·exact ih h x hx
theorem B2r (n:Nat) (s:List UInt8) (a:Nat) (hs:s.length < 1000000) (hn:s.length+30 < n) (ha:a < s.length):Zp n s (a:Int)=some (Amh s a (Jo (s.drop a))):=by
 obtain⟨n,rfl⟩:∃ j,n=j+2:=⟨n - 2,by omega⟩
 have hd:s.drop a=s[a] :: s.drop (a+1):=List.drop_eq_getElem_cons ha
 have hcons:∀ p,Cj p (s.drop a)=if p s[a].toNat then Cj p (s.drop (a+1))+1 else 0:=fun p=>by rw[hd,Kj]
 have hlen:=fun p=>S7 p (s.drop a)
 rw[List.length_drop] at hlen
 have hone:Jo (s.drop a)=if Et s[a].toNat then(if Cj H8 (s.drop a) > 16 then .err 2 else .tok 1 (Cj H8 (s.drop a)) 0)
  else if Cv s[a].toNat then(if Ku ((s.drop a).take (Cj Cv (s.drop a))) > 9999 then .err 4 else .tok 2 (Cj Cv (s.drop a)) (Ku ((s.drop a).take (Cj Cv (s.drop a)))))
  else if I8 (s.drop a)=0 then .err 3 else .tok 3 (I8 (s.drop a)) 0:=by rw[hd];rfl
 have cut:∀ m:Nat,m≤s.length - a→(decide (0≤((a+m:Nat):Int))&&decide (((a+m:Nat):Int)≤(s.length:Int))&&decide (0≤(a:Int))&&decide ((a:Int)≤((a+m:Nat):Int)))=true:=by
  intro m hm
  rw[decide_eq_true (by omega),decide_eq_true (by omega),decide_eq_true (by omega),decide_eq_true (by omega)];rfl
 rw[Zp,Ns,A6 (by omega),Cn (Ax ha),A1,A80,A1,Ay a (by omega),Aq (show ¬ (a:Int) < (a:Int) by omega),hone]
 cases hl:Et (s[a].toNat:Int) with
 | true =>
  have hw:H8 (s[a].toNat:Int)=true:=by unfold H8;rw[hl];rfl
  have h1:=hcons H8
  rw[if_pos hw] at h1
  have h2:=hlen H8
  rw[Af,B1v n s hs a n (a+1) (by omega) (by omega) (by omega),if_pos rfl]
  have e:a+1+Cj H8 (s.drop (a+1))=a+Cj H8 (s.drop a):=by omega
  rw[e]
  simp only[A1]
  rw[A6 (by omega),Cx (by omega)]
  by_cases c:Cj H8 (s.drop a) > 16
  ·rw[A6 (by omega),if_pos c];rfl
  ·rw[Aq (by omega),if_neg c,cut _ (by omega),Af,Int.toNat_natCast,Int.toNat_natCast,A9y];rfl
 | false =>
  rw[An,if_neg (by simp)]
  simp only[A1]
  rw[Aq (show ¬ (a:Int) < (a:Int) by omega)]
  have hD:=Az0 n s hs (s.length - a) (n+1) a 0 (by omega) (by omega) (by omega)
  have hD:Qq (n+1) s (n+1) (a:Int) 0=some (.out (((a+Cj Cv (s.drop a):Nat):Int),((Ku ((s.drop a).take (Cj Cv (s.drop a))):Nat):Int))):=hD
  rw[hD]
  simp only[A1]
  have h1:=hcons Cv
  cases hg:Cv (s[a].toNat:Int) with
  | true =>
   rw[hg,if_pos rfl] at h1
   have h2:=hlen Cv
   rw[A6 (by omega),if_pos rfl]
   by_cases c:Ku ((s.drop a).take (Cj Cv (s.drop a))) > 9999
   ·rw[A6 (by omega),if_pos c];rfl
   ·rw[Aq (by omega),if_neg c,cut _ (by omega),Af,Int.toNat_natCast,Int.toNat_natCast,A9y];rfl
  | false =>
   rw[hg,if_neg (by simp)] at h1
   rw[Aq (by omega),if_neg (by simp),Axz,A1,B1z (n+1) s hs a (by omega) (by omega)]
   cases hf:A03 (fun x:List UInt8=>decide (x <+: s.drop a)) Gi 0 with
   | none =>
    have hnone:I8 (s.drop a)=0:=Ap5 fun j hj=>by
     have:=Asb hf Gi[j] (List.getElem_mem hj)
     simpa using this
    rw[hnone,if_pos rfl];rfl
   | some j =>
    obtain⟨_,j2,x,j3,j4⟩:=Ay0 hf
    rw[Nat.sub_zero] at j3
    have hj:j < Gi.length:=by omega
    have hx:Gi[j]=x:=by rw[Ax hj] at j3;exact Option.some.inj j3
    have hfirst:=Alr (l:=s.drop a) hj (by rw[hx];simpa using j4) (fun k hk hkj=>by
     have:=Aqs hf k Gi[k] (by omega) (Ax hk)
     simpa using this)
    rw[hx] at hfirst
    have hx0:0 < x.length:=by
     have:Gi.all (fun x=>decide (0 < x.length))=true:=by decide
     have:=List.all_eq_true.1 this x (List.mem_of_getElem? j3)
     simpa using this
    rw[hfirst.1,if_neg (by omega)]
    simp only[j3,A1,Amh,hfirst.2]
    rfl
def tkS (t:Tok):A5:=⟨t.kind,t.text,t.n,t.at'⟩
def Rc (r:Z8):List A5×Int×Int:=(r.toks.map tkS,r.err,r.at')
def A32 (r:LR (List A5) (List A5×Int×Int)):List A5×Int×Int:=match r with
 | .out x=>(x,0,0)
 | .ret x=>x
theorem B2j (n:Nat) (s:List UInt8) (hs:s.length≤20000) (hn:s.length+40 < n):∀ (m k p f:Nat) (acc:List Tok),s.length - p≤m→m < k→(s.drop p).length < f→p≤s.length→acc.length≤p →
 (O5 n s k ((p+D7 false (s.drop p):Nat):Int) (acc.map tkS)).map A32=some (Rc (Ed f (s.drop p) p acc)):=by
 intro m
 induction m with
 | zero =>
  intro k p f acc hm hk hf hp ha
  obtain⟨k,rfl⟩:∃ j,k=j+1:=⟨k - 1,by omega⟩
  obtain⟨f,rfl⟩:∃ j,f=j+1:=⟨f - 1,by omega⟩
  obtain rfl:p=s.length:=by omega
  rw[List.drop_length,O5,Aq (by simp[D7])];rfl
 | succ m ih =>
  intro k p f acc hm hk hf hp ha
  obtain⟨k,rfl⟩:∃ j,k=j+1:=⟨k - 1,by omega⟩
  obtain⟨f,rfl⟩:∃ j,f=j+1:=⟨f - 1,by omega⟩
  have hg:=A0i false (s.drop p)
  rw[List.length_drop] at hg
  have hdd:(s.drop p).drop (D7 false (s.drop p))=s.drop (p+D7 false (s.drop p)):=by rw[List.drop_drop]
  generalize hi:p+D7 false (s.drop p)=i at *
  rw[Ed,hdd,hi]
  by_cases c:i < s.length
  ·have hcons:s.drop i=s[i] :: s.drop (i+1):=List.drop_eq_getElem_cons c
   rw[O5,A6 (by omega),B2r n s i (by omega) (by omega) c,A1]
   rw[hcons]
   dsimp only
   rw[← hcons]
   cases ho:Jo (s.drop i) with
   | err e =>
    have he:(e != 0)=true:=Aye ho
    simp only[Amh,he,Af];rfl
   | tok kd ln v =>
    obtain⟨l1,l2⟩:=Sn ho
    rw[List.length_drop] at l2
    have htl:((s.drop i).take ln).length=ln:=by rw[List.length_take,List.length_drop];omega
    have e0:((0:Int) != 0)=false:=rfl
    simp only[Amh,e0,An,htl]
    rw[A6 (by rw[Au];omega),Cx (by omega),show(i:Int)+(ln:Int)=((i+ln:Nat):Int) by omega,B05 n s (i+ln) (by omega) (by omega) (by omega),A1]
    have hh:=ih k (i+ln) f (acc++[⟨kd,(s.drop i).take ln,v,(i:Nat)⟩]) (by omega) (by omega) (by rw[List.length_drop] at hf ⊢;omega) (by omega) (by simp;omega)
    rw[List.map_append] at hh
    rw[List.drop_drop]
    exact hh
  ·obtain rfl:i=s.length:=by omega
   rw[List.drop_length,O5,Aq (by omega)];rfl
theorem B1m (n:Nat) (s:List UInt8) (hs:s.length < 1000000) (hn:s.length+50 < n):Yb n s=some (Rc (Hr s)):=by
 obtain⟨n,rfl⟩:∃ j,n=j+1:=⟨n - 1,by omega⟩
 rw[Yb,Hr]
 by_cases c:20000 < (s.length:Int)
 ·rw[A6 c,if_pos (by omega)];rfl
 ·rw[Aq c,if_neg (by omega),show(0:Int)=((0:Nat):Int) from rfl,B05 n s 0 (by omega) (by omega) (by omega),A1]
  obtain⟨r,h1,h2⟩:=Option.map_eq_some_iff.1 (B2j n s (by omega) (by omega) s.length n 0 (s.length+1) [] (by omega) (by omega) (by simp) (by omega) (by simp))
  have h1:O5 n s n ((0+D7 false (s.drop 0):Nat):Int) []=some r:=h1
  rw[h1,A1]
  have h2:A32 r=Rc (Ed (s.length+1) s 0 []):=by rw[h2,List.drop_zero]
  rw[← h2]
  cases r<;>rfl
end Go.Proofs.YtnijlelbihnamaaGreat
end
