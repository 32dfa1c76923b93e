/- Parts of the proofs: what they lean on. Conditions: none. -/
import Derived.Test.YtnijlelbihnamaaGreatProg
import Derived.Test.YtnijlelbihnamaaGreatPrgS11
section
namespace Go.Proofs.YtnijlelbihnamaaGreat
open Go.RowKit Go.WideShapes
set_option linter.unusedVariables false
set_option linter.unusedSimpArgs false
theorem Ajw {P:Program} {w:World} {r:Reach} {base:Nat} {t:TypeId} {v:Value} {fs:Array Field} (ht:P.underlying t=some (.struct fs)) (h:Value.okWide P w r base t v):∃ cs,v=.agg cs:=by
 simp only[Value.okWide,ht] at h
 obtain⟨cs,rfl,_⟩:=h
 exact⟨cs,rfl⟩
structure Aw where
 Ao:(List UInt8)
 Bs:Int
 Ab:Int
 deriving DecidableEq,Inhabited
def Am (x:Aw):List AV:=[AV.str (x.Ao),AV.int .i64 (x.Bs),AV.int .i64 (x.Ab)]
structure A2 where
 B3:Int
 Bs:Int
 Ao:(List UInt8)
 Cq:(List UInt8)
 Ab:Int
 deriving DecidableEq,Inhabited
def A3 (x:A2):List AV:=[AV.int .i64 (x.B3),AV.int .i64 (x.Bs),AV.str (x.Ao),AV.str (x.Cq),AV.int .i64 (x.Ab)]
def Ue (l:(List A2)):List AV:=[AV.sl 5 (List.map A3 l)]
structure A0 where
 A7:Int
 Bd:(List UInt8)
 Be:(List UInt8)
 Bm:(List A2)
 C6:(List A2)
 Br:Bool
 B5:Int
 Ch:Int
 Ab:Int
 deriving DecidableEq,Inhabited
def A9 (x:A0):List AV:=[AV.int .i64 (x.A7),AV.str (x.Bd),AV.str (x.Be),AV.sl 5 (List.map A3 (x.Bm)),AV.sl 5 (List.map A3 (x.C6)),AV.bool (x.Br),AV.int .i64 (x.B5),AV.int .i64 (x.Ch),AV.int .i64 (x.Ab)]
structure Ae where
 Ao:(List UInt8)
 Bh:(List (List UInt8))
 B5:(List A0)
 Ab:Int
 deriving DecidableEq,Inhabited
def Ad (x:Ae):List AV:=[AV.str (x.Ao),AV.sl 1 (List.map Dv (x.Bh)),AV.sl 9 (List.map A9 (x.B5)),AV.int .i64 (x.Ab)]
structure Ag where
 A7:Int
 Bm:(List A2)
 Ab:Int
 deriving DecidableEq,Inhabited
def Aj (x:Ag):List AV:=[AV.int .i64 (x.A7),AV.sl 5 (List.map A3 (x.Bm)),AV.int .i64 (x.Ab)]
structure Az where
 Bo:Int
 B0:(List Aw)
 Ak:(List Ae)
 Ar:(List Ag)
 deriving DecidableEq,Inhabited
def At2 (x:Az):List AV:=[AV.int .i64 (x.Bo),AV.sl 3 (List.map Am (x.B0)),AV.sl 4 (List.map Ad (x.Ak)),AV.sl 3 (List.map Aj (x.Ar))]
structure A5 where
 A7:Int
 Ac:(List UInt8)
 Bs:Int
 Ab:Int
 deriving DecidableEq,Inhabited
def A4 (x:A5):List AV:=[AV.int .i64 (x.A7),AV.str (x.Ac),AV.int .i64 (x.Bs),AV.int .i64 (x.Ab)]
structure Bn where
 f_word:(List UInt8)
 f_form:(List UInt8)
 f_body:Bool
 f_more:Bool
 deriving DecidableEq,Inhabited
def Zu (x:Bn):List AV:=[AV.str (x.f_word),AV.str (x.f_form),AV.bool (x.f_body),AV.bool (x.f_more)]
def A8 (p:((List UInt8)×Int)):List AV:=[AV.str (p.1),AV.int .i64 (p.2)]
theorem Tu (l:List ((List UInt8)×Int)) (k:(List UInt8)) (z:Int):N7 (AV.int .i64 (z)) (List.map A8 l) (AV.str (k))=AV.int .i64 (Bf l k z):=Aev (ek:=fun x=>AV.str (x)) (ev:=fun x=>AV.int .i64 (x)) (c:=A8) (fun _=>rfl) Aam k z l
theorem U5 (l:List ((List UInt8)×Int)) (k:(List UInt8)) (v:Int):T3 (List.map A8 l) (AV.str (k)) (AV.int .i64 (v))=List.map A8 (Re l k v):=Aiv (ek:=fun x=>AV.str (x)) (ev:=fun x=>AV.int .i64 (x)) (c:=A8) (fun _=>rfl) Aam k v l
theorem ls:(∀ {α β:Type} {f:α→β} {l:List α},(l.map f).length=l.length)∧(∀ {α β:Type} (f:α→β) (l:List α),List.take l.length (List.map f l)=List.map f l)∧Program.cellsOf Tryz.prog 40=1∧Program.cellsOf Tryz.prog 136=1∧Program.cellsOf Tryz.prog 42=3∧Program.cellsOf Tryz.prog 47=5∧Program.cellsOf Tryz.prog 83=9∧Program.cellsOf Tryz.prog 39=4∧Program.cellsOf Tryz.prog 55=4∧Program.cellsOf Tryz.prog 45=3∧Program.cellsOf Tryz.prog 3=1∧Program.cellsOf Tryz.prog 111=4∧Program.cellsOf Tryz.prog 9=1∧Program.cellsOf Tryz.prog 5=1 :=
 ⟨List.length_map ..,C0,by kernel_rfl,by kernel_rfl,by kernel_rfl,by kernel_rfl,by kernel_rfl,by kernel_rfl,by kernel_rfl,by kernel_rfl,by kernel_rfl,by kernel_rfl,by kernel_rfl,by kernel_rfl⟩
theorem lt:(∀ {α β:Type} (f:α→β) (l:List α),List.take l.length (List.map f l)=List.map f l)∧Program.cellsOf Tryz.prog 40=1∧Program.cellsOf Tryz.prog 136=1∧Program.cellsOf Tryz.prog 42=3∧Program.cellsOf Tryz.prog 47=5∧Program.cellsOf Tryz.prog 83=9∧Program.cellsOf Tryz.prog 39=4∧Program.cellsOf Tryz.prog 55=4∧Program.cellsOf Tryz.prog 45=3∧Program.cellsOf Tryz.prog 3=1∧Program.cellsOf Tryz.prog 111=4∧Program.cellsOf Tryz.prog 9=1∧Program.cellsOf Tryz.prog 5=1 :=
 ls.2
theorem cq {ρ:Type} {cont:Tm→Hp→Option ρ} {tm tm':Tm} {hp hp':Hp} {r:Option ρ} (h:cont tm' hp'=r) (h1:tm=tm':=by first | rfl | (simp only[ls]<;>rfl) | (simp only[ls,List.map_append,List.map_cons,List.map_nil,List.append_nil,List.length_set,J4]<;>rfl)) (h2:hp=hp':=by first | rfl | (simp only[ls]<;>rfl) | (simp only[ls,List.map_append,List.map_cons,List.map_nil,List.append_nil,List.length_set,J4]<;>rfl)):cont tm hp=r:=Arf h h1 h2
theorem kq {ρ:Type} {K:Ex→Tm→Hp→Option ρ} {e:Ex} {tm tm':Tm} {hp hp':Hp} {r:Option ρ} (h:K e tm' hp'=r) (h1:tm=tm':=by first | rfl | (simp only[ls]<;>rfl) | (simp only[ls,List.map_append,List.map_cons,List.map_nil,List.append_nil,List.length_set,J4]<;>rfl)) (h2:hp=hp':=by first | rfl | (simp only[ls]<;>rfl) | (simp only[ls,List.map_append,List.map_cons,List.map_nil,List.append_nil,List.length_set,J4]<;>rfl)):K e tm hp=r:=Arj h h1 h2
theorem fq {ρ:Type} {x y z:Option ρ} (h:x=y:=by first | rfl | (simp only[J4,List.length_set]<;>rfl) | (simp only[ls]<;>rfl) | ((conv=>lhs;arg 1;arg 1;whnf);simp only[Em];rfl)) (h2:y=z:=by first | rfl | (simp only[List.map_take,List.map_drop];done) | (simp only[List.map_take,List.map_drop]<;>rfl) | (simp only[ls,List.drop_zero,List.length_set,J4]<;>rfl)):x=z:=h.trans h2
theorem c0:((0:Nat):Int)=0:=rfl
theorem rq {ρ:Type} {x z:Option ρ} (h:x=z:=by first | rfl | (simp only[ls]<;>rfl)):x=z:=h
abbrev iA (x:Int):AV:=.int .i64 x
abbrev bA (x:Bool):AV:=.bool x
abbrev sA (x:List UInt8):AV:=.str x
theorem sj {α:Type} {a r:α} (h:some a=some r):a=r:=Option.some.inj h
theorem lq {ρ σ τ ν:Type} {body:Tm→Hp→(Ex→Tm→Hp→Option ρ)→Option ρ} {keep:Nat→List Nat} {h0:Nat} {K:Ex→Tm→Hp→Option ρ} {r:Option ρ} (id:Nat) (tmOf:σ→(Nat→Nat)→Tm) (hpOf:σ→(Nat→Nat)→Hp) (tmX:τ→(Nat→Nat)→Tm) (hpX:τ→(Nat→Nat)→Hp) (encR:ν→ρ) (L:Nat→σ→Option (LR τ ν)) (hL:∀ s,L 0 s=none) (o:LR τ ν) (n:Nat) (s:σ) (a:Nat→Nat) {tm:Tm} {hp:Hp} (h:L n s=some o)
 (hround:∀ (k:Nat) (s:σ) (a:Nat→Nat) (K':Ex→Tm→Hp→Option ρ) (cont:Tm→Hp→Option ρ),(∀ tm hp,K' .ret tm hp=K .ret tm hp)→(∀ s' a',L k s'=some o→cont (tmOf s' a') (hpOf s' a')=r)→L (k+1) s=some o→Abf K' id tmX hpX encR r o →
  Mf force (fun tm=>F7 (fun hp=>body tm hp (fun e tm hp=>Mf force (fun tm=>F7 (fun hp=>match e with
   | .normal=>cont tm hp
   | .exit id=>K' (.exit id) tm hp
   | .ret=>K' .ret tm hp) (Nz h0 hp)) (A49 (keep (Abe e)) h0 hp 0 tm))) (hpOf s a)) (tmOf s a)=r)
 (hx:Abf K id tmX hpX encR r o)
 (h1:tm=tmOf s a:=by first | rfl | (simp only[ls]<;>rfl) | (simp only[ls,List.map_append,List.map_cons,List.map_nil,List.append_nil,List.length_set,J4]<;>rfl)) (h2:hp=hpOf s a:=by first | rfl | (simp only[ls]<;>rfl) | (simp only[ls,List.map_append,List.map_cons,List.map_nil,List.append_nil,List.length_set,J4]<;>rfl)):rounds body keep h0 n tm hp K=r :=
 Aic id tmOf hpOf tmX hpX encR L hL o hround n s a tm hp h hx h1 h2
theorem lrc {ρ τ ν:Type} {K:Ex→Tm→Hp→Option ρ} {id:Nat} {tmX:τ→(Nat→Nat)→Tm} {hpX:τ→(Nat→Nat)→Hp} {encR:ν→ρ} {r:Option ρ} {o:LR τ ν} (h1:∀ v,o=.ret v→r=some (encR v)) (h2:∀ t a,o=.out t→K (.exit id) (tmX t a) (hpX t a)=r):Abf K id tmX hpX encR r o:=by
 cases o with
 | out t=>exact fun a=>h2 t a rfl
 | ret v=>exact h1 v rfl
theorem nn {α:Type} {r:α} {P:Prop}:(none:Option α)=some r→P:=fun h=>by cases h
theorem A54 {α:Type} {c:Bool} {a:Option α} {r:α} {G:Prop} (h1:c=true→a=some r→G):(bif c then a else none)=some r→G:=fun h=>B6 h h1
theorem br {α ρ:Type} {c:Bool} {a b:Option α} {r:α} {L L1 L2 R:ρ} (k1:a=some r→L1=R) (k2:b=some r→L2=R) (w1:c=true→L=L1:=by(intro hc;simp only[hc,ls];(conv=>lhs;whnf);try exact rfl)) (w2:c=false→L=L2:=by(intro hc;simp only[hc,ls];(conv=>lhs;whnf);try exact rfl)):(bif c then a else b)=some r→L=R:=by
 cases c
 ·exact fun h=>(w2 rfl).trans (k2 h)
 ·exact fun h=>(w1 rfl).trans (k1 h)
theorem bt {α ρ:Type} {c:Bool} {a:Option α} {r:α} {L L1 R:ρ} (k1:a=some r→L1=R) (w1:c=true→L=L1:=by(intro hc;simp only[hc,ls];(conv=>lhs;whnf);try exact rfl)):(bif c then a else none)=some r→L=R:=by
 cases c
 ·exact fun h=>nn h
 ·exact fun h=>(w1 rfl).trans (k1 h)
theorem cp {α ρ:Type} {c:Bool} {a:Option α} {r:α} {L L1 R:ρ} (k1:a=some r→L1=R) (w1:c=true→∀ q,L1=q→L=q:=by(intro hc q hq;refine B4 hc ?_;(try simp only[ls]);(conv=>lhs;whnf);exact hq)):(bif c then a else none)=some r→L=R:=A54 fun hc h=>w1 hc _ (k1 h)
theorem cn {α ρ:Type} {c:Bool} {a:Option α} {r:α} {L L1 R:ρ} (k1:a=some r→L1=R) (w1:c=true→∀ q,L1=q→L=q:=by(intro hc q hq;refine B4 (Arq hc (by simp only[Au,C0]) (by kernel_rfl)) ?_;(try simp only[ls]);(conv=>lhs;whnf);exact hq)):(bif c then a else none)=some r→L=R:=A54 fun hc h=>w1 hc _ (k1 h)
theorem sl {α:Type} (f:α→List AV) (l:List α) (i j:Nat):List.drop i (List.take j (List.map f l))=List.map f (List.drop i (List.take j l)):=by rw[List.map_drop,List.map_take]
theorem cs {α ρ:Type} {c:Bool} {a:Option α} {r:α} {E:Prop} {L L1 R:ρ} (e:E) (k1:a=some r→L1=R) (w1:c=true→E→∀ q,L1=q→L=q:=by(intro hc he q hq;(try simp only[ls]);refine B4 hc ?_;simp only[he,ls];(conv=>lhs;whnf);exact hq)):(bif c then a else none)=some r→L=R:=A54 fun hc h=>w1 hc e _ (k1 h)
theorem ixs {β ρ:Type} {l:List UInt8} {i:Int} {g:UInt8→Option β} {r:β} {L:ρ} {L1:UInt8→ρ} {R:ρ} (k:∀ x,g x=some r→L1 x=R) (w:∀ x,idx l i=some x→∀ q,L1 x=q→L=q:=by(intro x hx q hq;refine B4 (Ga hx) ?_;simp only[Ars hx,ls];(conv=>lhs;whnf);exact hq)):(idx l i).bind g=some r→L=R:=fun h=>As h fun x hx h2=>w x hx _ (k x h2)
theorem ix {α β ρ:Type} {l:List α} {i:Int} {g:α→Option β} {r:β} {L:ρ} {L1:α→ρ} {R:ρ} (k:∀ x,g x=some r→L1 x=R) (w:∀ x,idx l i=some x→∀ q,L1 x=q→L=q:=by(intro x hx q hq;refine B4 (by first | exact Ga hx | exact Pd hx | (have z:=Ga hx;simp only[ls] at z ⊢;exact z)) ?_;simp only[Ik hx,ls];(conv=>lhs;whnf);exact hq)):(idx l i).bind g=some r→L=R:=fun h=>As h fun x hx h2=>w x hx _ (k x h2)
theorem ca {α β ρ:Type} {P:Program} {H:Dr} {X:Ext} {call:Ha} {n:Nat} {m:Option α} {g:α→Option β} {r:β} {f:FuncId} {a:List AV} {p:Hp} {v:α→Option (AV×Hp)} {L:ρ} {L1:α→ρ} {R:ρ} (hc:∀ g l h,call false g l h=Mt P H X n g l h) (hk:∀ y,m=some y→Mt P H X n f a p=v y) (k:∀ y,g y=some r→L1 y=R) (w:∀ y,call false f a p=v y→L=L1 y:=by(intro y hk;(first | simp only[hk] | rewrite[hk] | (simp only[ls];simp only[hk]));(conv=>lhs;whnf);try exact rfl)):m.bind g=some r→L=R:=fun h=>As h fun y hy h2=>(w y ((hc _ _ _).trans (hk y hy))).trans (k y h2)
theorem tw {α β ρ:Type} {P:Program} {H:Dr} {X:Ext} {call:Ha} {n:Nat} {m:Option α} {g:α→Option β} {r:β} {f:FuncId} {a:List AV} {v v':α→Option (AV×Hp)} {L:ρ} {L1:α→ρ} {R:ρ} (hc:∀ g l h,call false g l h=Mt P H X n g l h) (hk:∀ y,m=some y→Mt P H X n f a []=v y) (ht:∀ y,call false f a []=v y→A0j P true call f a=v' y) (k:∀ y,g y=some r→L1 y=R) (w:∀ y,(∀ b,b=true→A0j P b call f a=v' y)→L=L1 y:=by(intro y hk;(try simp only[ls]);(rewrite[hk];rotate_left;(first | rfl | kernel_rfl));(try simp only[ls]);(conv=>lhs;whnf);try exact rfl)):m.bind g=some r→L=R:=fun h=>As h fun y hy h2=>(w y (fun b hb=>by subst hb;exact ht y ((hc _ _ _).trans (hk y hy)))).trans (k y h2)
theorem nb {γ α ρ:Type} {l:List γ} {a b:Option α} {r:α} {L L1 L2 R:ρ} (k1:a=some r→L1=R) (k2:b=some r→L2=R) (w1:l=[]→L=L1:=by(intro hc;simp only[hc,ls,List.map_nil];(conv=>lhs;whnf);try exact rfl)) (w2:decide (l.length=0)=false→L=L2:=by(intro hc;simp only[hc,ls];(conv=>lhs;whnf);try exact rfl)):(bif decide (l.length=0) then a else b)=some r→L=R:=by
 by_cases h:l.length=0
 ·rw[decide_eq_true h];exact fun e=>(w1 (List.eq_nil_of_length_eq_zero h)).trans (k1 e)
 ·rw[decide_eq_false h];exact fun e=>(w2 (decide_eq_false h)).trans (k2 e)
theorem cr {α β ρ:Type} {P:Program} {H:Dr} {X:Ext} {call:Ha} {n:Nat} {m:Option α} {g:α→Option β} {r:β} {f:FuncId} {a:List AV} {p:Hp} {v:α→Option (AV×Hp)} {L:ρ} {L1:α→ρ} {R:ρ} (hc:∀ g l h,call false g l h=Mt P H X n g l h) (hk:∀ y,m=some y→Mt P H X n f a p=v y) (k:∀ y,g y=some r→L1 y=R) (w:∀ y,call false f a p=v y→L=L1 y:=by(intro y hk;(try simp only[List.length_nil,List.map_nil] at hk);(try simp only[List.length_nil,List.map_nil]);(first | ((try simp only[ls]);simp only[hk]) | ((try simp only[List.drop_zero] at hk);(try simp only[List.drop_zero,ls]);simp only[hk]) | simp only[hk] | rewrite[hk]);(try simp only[ls]);(conv=>lhs;whnf);try exact rfl)):m.bind g=some r→L=R:=ca hc hk k w
theorem ap {α:Type} (f:α→List AV) (a:List (List AV)) (l:List α) (y:List (List AV)) (m:List α) (ha:a=List.map f l:=by rfl) (hy:y=List.map f m:=by rfl):a++y=List.map f (l++m)∧a.length+y.length=(l++m).length∧l.length+y.length=(l++m).length∧l.length+m.length=(l++m).length∧a.length+m.length=(l++m).length:=by
 subst ha;subst hy;simp
theorem ar {α ρ:Type} {c:Bool} {a:Option α} {r:α} {E:Prop} {L L1 R:ρ} (e:E) (k1:a=some r→L1=R) (w1:c=true→E→∀ q,L1=q→L=q:=by(intro hc he q hq;(first | refine B4 (Lu hc (by first | rfl | simp only[Au]) (by first | rfl | simp only[Au]) (by first | rfl | simp only[Au,C0]) (by kernel_rfl)) ?_ | refine B4 (Jq hc (by first | rfl | simp only[Au]) (by first | rfl | simp only[Au,C0]) (by kernel_rfl)) ?_ | skip);(try simp only[lt]);(try simp only[he]);(try simp only[ls,c0]);(try simp only[he]);(try simp only[ls]);(conv=>lhs;whnf);exact hq)):(bif c then a else none)=some r→L=R:=A54 fun hc h=>w1 hc e _ (k1 h)
theorem rz {α ρ:Type} {a r:α} {L R:ρ} (k:a=r→L=R:=by(intro e;cases e;first | rfl | (simp only[ls]<;>rfl))):some a=some r→L=R:=fun h=>k (sj h)
theorem B0t {α:Type} {r:Rd α} {enc:α→List AV} (he:Enc r enc) {W:World} {cs:Array Value} {x:α} (h:r.rel W (Value.agg cs).cells.toList x):Rep (SAll W) W [] [] (.agg (enc x)) (.agg cs):=by
 obtain⟨h1,h2⟩:=he _ _ _ h
 cases cs
 exact .agg _ _ _ _ h1 h2
theorem Awm {a b:List UInt8} (h:bs a=bs b):a=b:=by
 have:=congrArg (fun x:ByteArray=>x.data.toList) h
 simpa [bs] using this
def S8:Rd (List UInt8):=Aui
theorem Ud:P2 Tryz.prog 9 S8:=Al1 Tryz.underlying9 (by kernel_rfl)
theorem Yr:Enc S8 Dv:=B0q
def M4:Rd Int:=Aod .i64
theorem Oc:P2 Tryz.prog 3 M4:=Avb Tryz.underlying3 (by kernel_rfl)
theorem Ol:Enc M4 Dy:=B1j _
def Aav:Rd Aw:=A4p (fun x=>⟨x.1,x.2.1,x.2.2⟩) (Lf S8 (Lf M4 M4))
theorem Asa:P2 Tryz.prog 45 Aav:=A0u _ (W0 Tryz.underlying45 (by kernel_rfl) (Gv rfl Ud (Gv rfl Oc (Yv rfl Oc) (by decide)) (by decide)))
theorem Aul:Enc Aav Am:=A5n (fun _=>rfl) (Ko Yr (Ko Ol Ol))
def A4o:Rd (List Aw):=Uv Aav
theorem Alt:P2 Tryz.prog 23 A4o:=Xh Tryz.underlying23 (by kernel_rfl) Asa (by decide)
theorem Am3:Enc A4o (fun l=>[AV.sl 3 (l.map Am)]):=A0h Aul
def A6m:Rd (List (List UInt8)):=Uv S8
theorem Apt:P2 Tryz.prog 36 A6m:=Xh Tryz.underlying36 (by kernel_rfl) Ud (by decide)
theorem Apv:Enc A6m (fun l=>[AV.sl 1 (l.map Dv)]):=A0h Yr
def A8v:Rd A2:=A4p (fun x=>⟨x.1,x.2.1,x.2.2.1,x.2.2.2.1,x.2.2.2.2⟩) (Lf M4 (Lf M4 (Lf S8 (Lf S8 M4))))
theorem Aqf:P2 Tryz.prog 47 A8v:=A0u _ (W0 Tryz.underlying47 (by kernel_rfl) (Gv rfl Oc (Gv rfl Oc (Gv rfl Ud (Gv rfl Ud (Yv rfl Oc) (by decide)) (by decide)) (by decide)) (by decide)))
theorem Ar2:Enc A8v A3:=A5n (fun _=>rfl) (Ko Ol (Ko Ol (Ko Yr (Ko Yr Ol))))
def Vw:Rd (List A2):=Uv A8v
theorem A2z:P2 Tryz.prog 40 Vw:=Xh Tryz.underlying40 (by kernel_rfl) Aqf (by decide)
theorem A34:Enc Vw (fun l=>[AV.sl 5 (l.map A3)]):=A0h Ar2
def Aj3:Rd Bool:=Ah2
theorem B18:P2 Tryz.prog 4 Aj3:=Auh Tryz.underlying4 (by kernel_rfl)
theorem B12:Enc Aj3 B3d:=Ay5
def A8m:Rd A0:=A4p (fun x=>⟨x.1,x.2.1,x.2.2.1,x.2.2.2.1,x.2.2.2.2.1,x.2.2.2.2.2.1,x.2.2.2.2.2.2.1,x.2.2.2.2.2.2.2.1,x.2.2.2.2.2.2.2.2⟩) (Lf M4 (Lf S8 (Lf S8 (Lf Vw (Lf Vw (Lf Aj3 (Lf M4 (Lf M4 M4))))))))
theorem Aqu:P2 Tryz.prog 83 A8m:=A0u _ (W0 Tryz.underlying83 (by kernel_rfl) (Gv rfl Oc (Gv rfl Ud (Gv rfl Ud (Gv rfl A2z (Gv rfl A2z (Gv rfl B18 (Gv rfl Oc (Gv rfl Oc (Yv rfl Oc) (by decide)) (by decide)) (by decide)) (by decide)) (by decide)) (by decide)) (by decide)) (by decide)))
theorem Aqp:Enc A8m A9:=A5n (fun _=>rfl) (Ko Ol (Ko Yr (Ko Yr (Ko A34 (Ko A34 (Ko B12 (Ko Ol (Ko Ol Ol))))))))
def A31:Rd (List A0):=Uv A8m
theorem Ak0:P2 Tryz.prog 37 A31:=Xh Tryz.underlying37 (by kernel_rfl) Aqu (by decide)
theorem Ak5:Enc A31 (fun l=>[AV.sl 9 (l.map A9)]):=A0h Aqp
def A4j:Rd Ae:=A4p (fun x=>⟨x.1,x.2.1,x.2.2.1,x.2.2.2⟩) (Lf S8 (Lf A6m (Lf A31 M4)))
theorem Ama:P2 Tryz.prog 39 A4j:=A0u _ (W0 Tryz.underlying39 (by kernel_rfl) (Gv rfl Ud (Gv rfl Apt (Gv rfl Ak0 (Yv rfl Oc) (by decide)) (by decide)) (by decide)))
theorem Am1:Enc A4j Ad:=A5n (fun _=>rfl) (Ko Yr (Ko Apv (Ko Ak5 Ol)))
def A0b:Rd (List Ae):=Uv A4j
theorem Ag8:P2 Tryz.prog 24 A0b:=Xh Tryz.underlying24 (by kernel_rfl) Ama (by decide)
theorem Aez:Enc A0b (fun l=>[AV.sl 4 (l.map Ad)]):=A0h Am1
def A69:Rd Ag:=A4p (fun x=>⟨x.1,x.2.1,x.2.2⟩) (Lf M4 (Lf Vw M4))
theorem Apz:P2 Tryz.prog 42 A69:=A0u _ (W0 Tryz.underlying42 (by kernel_rfl) (Gv rfl Oc (Gv rfl A2z (Yv rfl Oc) (by decide)) (by decide)))
theorem An8:Enc A69 Aj:=A5n (fun _=>rfl) (Ko Ol (Ko A34 Ol))
def A1q:Rd (List Ag):=Uv A69
theorem Ah7:P2 Tryz.prog 25 A1q:=Xh Tryz.underlying25 (by kernel_rfl) Apz (by decide)
theorem Agl:Enc A1q (fun l=>[AV.sl 3 (l.map Aj)]):=A0h An8
def Aef:Rd Az:=A4p (fun x=>⟨x.1,x.2.1,x.2.2.1,x.2.2.2⟩) (Lf M4 (Lf A4o (Lf A0b A1q)))
theorem Aqe:P2 Tryz.prog 27 Aef:=A0u _ (W0 Tryz.underlying27 (by kernel_rfl) (Gv rfl Oc (Gv rfl Alt (Gv rfl Ag8 (Yv rfl Ah7) (by decide)) (by decide)) (by decide)))
theorem Aq8:Enc Aef At2:=A5n (fun _=>rfl) (Ko Ol (Ko Am3 (Ko Aez Agl)))
set_option maxRecDepth 100000
set_option maxHeartbeats 4000000
noncomputable abbrev CN:=Mt Tryz.prog HH XT
def Nt:Nat→Int→Option Bool
 | 0,_=>none
 | n+1,E1=>(bif decide (48≤E1) then(some (decide (E1≤57))) else(some false))
def Me:Nat→Int→Option Bool
 | 0,_=>none
 | n+1,E1=>(bif decide (97≤E1) then(bif decide (E1≤122) then(some true) else(bif decide (65≤E1) then(bif decide (E1≤90) then(some true) else(some (E1==95))) else(some (E1==95)))) else(bif decide (65≤E1) then(bif decide (E1≤90) then(some true) else(some (E1==95))) else(some (E1==95))))
def Pq:Nat→(List UInt8)→Option Int
 | 0,_=>none
 | n+1,B7=>(bif decide (2≤((B7.length:Nat):Int)) then(bif (decide (0≤2)&&decide (2≤((B7.length:Nat):Int))) then(bif ((List.drop 0 (List.take ((2:Int).toNat) B7))==([61,61]:List UInt8)) then(some 2) else(bif ((List.drop 0 (List.take ((2:Int).toNat) B7))==([33,61]:List UInt8)) then(some 2) else(bif ((List.drop 0 (List.take ((2:Int).toNat) B7))==([60,61]:List UInt8)) then(some 2) else(bif ((List.drop 0 (List.take ((2:Int).toNat) B7))==([38,38]:List UInt8)) then(some 2) else(bif ((List.drop 0 (List.take ((2:Int).toNat) B7))==([124,124]:List UInt8)) then(some 2) else((idx B7 0).bind fun x8=>(bif ((x8.toNat:Int)==59) then(some 1) else(bif ((x8.toNat:Int)==44) then(some 1) else(bif ((x8.toNat:Int)==123) then(some 1) else(bif ((x8.toNat:Int)==125) then(some 1) else(bif ((x8.toNat:Int)==40) then(some 1) else(bif ((x8.toNat:Int)==41) then(some 1) else(bif ((x8.toNat:Int)==46) then(some 1) else(bif ((x8.toNat:Int)==61) then(some 1) else(bif ((x8.toNat:Int)==43) then(some 1) else(bif ((x8.toNat:Int)==45) then(some 1) else(bif ((x8.toNat:Int)==42) then(some 1) else(bif ((x8.toNat:Int)==33) then(some 1) else(bif ((x8.toNat:Int)==60) then(some 1) else(some 0)))))))))))))))))))) else none) else((idx B7 0).bind fun x22=>(bif ((x22.toNat:Int)==59) then(some 1) else(bif ((x22.toNat:Int)==44) then(some 1) else(bif ((x22.toNat:Int)==123) then(some 1) else(bif ((x22.toNat:Int)==125) then(some 1) else(bif ((x22.toNat:Int)==40) then(some 1) else(bif ((x22.toNat:Int)==41) then(some 1) else(bif ((x22.toNat:Int)==46) then(some 1) else(bif ((x22.toNat:Int)==61) then(some 1) else(bif ((x22.toNat:Int)==43) then(some 1) else(bif ((x22.toNat:Int)==45) then(some 1) else(bif ((x22.toNat:Int)==42) then(some 1) else(bif ((x22.toNat:Int)==33) then(some 1) else(bif ((x22.toNat:Int)==60) then(some 1) else(some 0))))))))))))))))
def D1 (n:Nat)  (B7:(List UInt8)):Nat→Int→(List A5)→Option (LR (List A5) ((List A5)×Int×Int))
 | 0,_,_=>none
 | k4+1,s2,s3=>(bif decide (s2<((B7.length:Nat):Int)) then(bif (decide (0≤s2)&&decide (s2≤((B7.length:Nat):Int))) then((idx (List.drop (s2.toNat) (List.take (B7.length) B7)) 0).bind fun x14=>(bif ((IntKind.i32.wrap ((x14.toNat:Int)))==32) then(D1 n B7 k4 (IntKind.i64.wrap (s2+1)) s3) else(bif ((IntKind.i32.wrap ((x14.toNat:Int)))==9) then(D1 n B7 k4 (IntKind.i64.wrap (s2+1)) s3) else(bif ((IntKind.i32.wrap ((x14.toNat:Int)))==10) then(D1 n B7 k4 (IntKind.i64.wrap (s2+1)) s3) else(bif ((IntKind.i32.wrap ((x14.toNat:Int)))==13) then(D1 n B7 k4 (IntKind.i64.wrap (s2+1)) s3) else(bif ((IntKind.i32.wrap ((x14.toNat:Int)))==35) then((Pr n (List.drop (s2.toNat) (List.take (B7.length) B7))).bind fun y20=>(D1 n B7 k4 (IntKind.i64.wrap (s2+y20)) s3)) else((Me n (IntKind.i32.wrap ((x14.toNat:Int)))).bind fun y22=>(bif y22 then((Pk n (List.drop (s2.toNat) (List.take (B7.length) B7))).bind fun y25=>(bif decide (16<y25) then(some (.ret (([]:List A5),2,s2))) else(bif (decide (0≤y25)&&decide (y25≤((((List.drop (s2.toNat) (List.take (B7.length) B7))).length:Nat):Int))) then(bif decide ((s3.length+1)*41≤140737488355328) then(D1 n B7 k4 (IntKind.i64.wrap (s2+((((List.drop 0 (List.take (y25.toNat) (List.drop (s2.toNat) (List.take (B7.length) B7))))).length:Nat):Int))) (s3++([(⟨1,(List.drop 0 (List.take (y25.toNat) (List.drop (s2.toNat) (List.take (B7.length) B7)))),0,s2⟩:A5)]:List A5))) else none) else none))) else((Nt n (IntKind.i32.wrap ((x14.toNat:Int)))).bind fun y31=>(bif y31 then((Qk n (List.drop (s2.toNat) (List.take (B7.length) B7))).bind fun y34=>(bif (decide (0≤y34)&&decide (y34≤((((List.drop (s2.toNat) (List.take (B7.length) B7))).length:Nat):Int))) then(bif (decide (0≤y34)&&decide (y34≤((((List.drop (s2.toNat) (List.take (B7.length) B7))).length:Nat):Int))) then((Vo n (List.drop 0 (List.take (y34.toNat) (List.drop (s2.toNat) (List.take (B7.length) B7))))).bind fun y38=>(bif decide (9999<y38) then(some (.ret (([]:List A5),4,s2))) else(bif decide ((s3.length+1)*41≤140737488355328) then(D1 n B7 k4 (IntKind.i64.wrap (s2+((((List.drop 0 (List.take (y34.toNat) (List.drop (s2.toNat) (List.take (B7.length) B7))))).length:Nat):Int))) (s3++([(⟨2,(List.drop 0 (List.take (y34.toNat) (List.drop (s2.toNat) (List.take (B7.length) B7)))),y38,s2⟩:A5)]:List A5))) else none))) else none) else none)) else((Pq n (List.drop (s2.toNat) (List.take (B7.length) B7))).bind fun y43=>(bif (y43==0) then(some (.ret (([]:List A5),3,s2))) else(bif (decide (0≤y43)&&decide (y43≤((((List.drop (s2.toNat) (List.take (B7.length) B7))).length:Nat):Int))) then(bif decide ((s3.length+1)*41≤140737488355328) then(D1 n B7 k4 (IntKind.i64.wrap (s2+((((List.drop 0 (List.take (y43.toNat) (List.drop (s2.toNat) (List.take (B7.length) B7))))).length:Nat):Int))) (s3++([(⟨3,(List.drop 0 (List.take (y43.toNat) (List.drop (s2.toNat) (List.take (B7.length) B7)))),0,s2⟩:A5)]:List A5))) else none) else none))))))))))))) else none) else(some (.out s3)))
def Pf:Nat→(List UInt8)→Option ((List A5)×Int×Int)
 | 0,_=>none
 | n+1,B7=>(bif decide (20000<((B7.length:Nat):Int)) then(some (([]:List A5),2,20000)) else((D1 n B7 n 0 ([]:List A5)).bind fun o11=>match o11 with|.out x50=>(some (x50,0,0))|.ret v=>some v))
def On (n:Nat)  (Aa:(List A2)):Nat→Int→Option (LR Unit Bool)
 | 0,_=>none
 | k3+1,s2=>(bif decide (s2<((Aa.length:Nat):Int)) then((idx Aa s2).bind fun x12=>(bif decide (100<((x12.Ao.length:Nat):Int)) then(some (.ret false)) else((idx Aa s2).bind fun x14=>(bif decide (100<((x14.Cq.length:Nat):Int)) then(some (.ret false)) else(On n Aa k3 (IntKind.i64.wrap (s2+1))))))) else(some (.out ())))
def Sm:Nat→(List A2)→Option Bool
 | 0,_=>none
 | n+1,Aa=>(bif decide (250<((Aa.length:Nat):Int)) then(some false) else((On n Aa n 0).bind fun o10=>match o10 with|.out _=>(some true)|.ret v=>some v))
def Fz (n:Nat)  (Bp:(List A2)) (Bt:(List A2)):Nat→Bool→Int→Option (LR Unit Bool)
 | 0,_,_=>none
 | k4+1,s2,s3=>(bif decide (s3<((Bp.length:Nat):Int)) then((idx Bp s3).bind fun x13=>((idx Bt s3).bind fun x14=>(bif (x13.B3 != x14.B3) then(some (.ret false)) else((idx Bp s3).bind fun x16=>((idx Bt s3).bind fun x17=>(bif (x16.Bs != x17.Bs) then(some (.ret false)) else((idx Bp s3).bind fun x19=>((idx Bt s3).bind fun x20=>(bif (x19.Ao==x20.Ao) then((idx Bp s3).bind fun x22=>((idx Bt s3).bind fun x23=>(bif (x22.Cq==x23.Cq) then(bif s2 then((idx Bp s3).bind fun x26=>((idx Bt s3).bind fun x27=>(bif (x26.Ab != x27.Ab) then(some (.ret false)) else(Fz n Bp Bt k4 true (IntKind.i64.wrap (s3+1)))))) else(Fz n Bp Bt k4 false (IntKind.i64.wrap (s3+1)))) else(some (.ret false))))) else(some (.ret false))))))))))) else(some (.out ())))
def Hh:Nat→(List A2)→(List A2)→Bool→Option Bool
 | 0,_,_,_=>none
 | n+1,Bp,Bt,Er=>(bif (((Bp.length:Nat):Int) != ((Bt.length:Nat):Int)) then(some false) else((Fz n Bp Bt n Er 0).bind fun o11=>match o11 with|.out _=>(some true)|.ret v=>some v))
def Jk:Nat→Int→Option Int
 | 0,_=>none
 | n+1,Dm=>(bif decide (1≤Dm) then(bif decide (Dm≤4) then(some 0) else(bif (Dm==5) then(some 1) else(bif decide (6≤Dm) then(bif decide (Dm≤14) then(some 2) else(some (-1))) else(some (-1))))) else(bif (Dm==5) then(some 1) else(bif decide (6≤Dm) then(bif decide (Dm≤14) then(some 2) else(some (-1))) else(some (-1)))))
def He (n:Nat)  (Aa:(List A2)):Nat→Int→Int→Option (LR Unit Int)
 | 0,_,_=>none
 | k4+1,s2,s3=>(bif decide (s2<((Aa.length:Nat):Int)) then((idx Aa s2).bind fun x13=>((Jk n x13.B3).bind fun y14=>(bif decide (y14<0) then(some (.ret (-1))) else(bif ((IntKind.i64.wrap (s3+(IntKind.i64.wrap (y14 - 1))))==0) then(some (.ret (IntKind.i64.wrap (s2+1)))) else(He n Aa k4 (IntKind.i64.wrap (s2+1)) (IntKind.i64.wrap (s3+(IntKind.i64.wrap (y14 - 1))))))))) else(some (.out ())))
def Qr:Nat→(List A2)→Int→Option Int
 | 0,_,_=>none
 | n+1,Aa,Bb=>(bif decide (Bb<0) then(some (-1)) else((He n Aa n Bb 1).bind fun o11=>match o11 with|.out _=>(some (-1))|.ret v=>some v))
def Ek (n:Nat)  (Aa:(List A2)):Nat→Int→(List A2)→Option (LR (List A2) (List A2))
 | 0,_,_=>none
 | k3+1,s1,s2=>(bif decide (s1<((Aa.length:Nat):Int)) then((idx Aa s1).bind fun x12=>(bif (x12.B3==2) then(bif decide ((s2.length+1)*57≤140737488355328) then(Ek n Aa k3 (IntKind.i64.wrap (s1+1)) (s2++([x12]:List A2))) else none) else(bif (x12.B3==3) then(bif decide ((s2.length+1)*57≤140737488355328) then(Ek n Aa k3 (IntKind.i64.wrap (s1+1)) (s2++([x12]:List A2))) else none) else(bif (x12.B3==4) then(bif decide ((s2.length+1)*57≤140737488355328) then(Ek n Aa k3 (IntKind.i64.wrap (s1+1)) (s2++([x12]:List A2))) else none) else(Ek n Aa k3 (IntKind.i64.wrap (s1+1)) s2))))) else(some (.out s2)))
def Lq:Nat→(List A2)→Option (List A2)
 | 0,_=>none
 | n+1,Aa=>((Ek n Aa n 0 ([]:List A2)).bind fun o10=>match o10 with|.out x23=>(some x23)|.ret v=>some v)
def Ht (n:Nat) :Nat→(List Int)→Option (LR (List Int) Int)
 | 0,_=>none
 | k21+1,s20=>(bif decide (0<((s20.length:Nat):Int)) then((idx s20 (IntKind.i64.wrap (((s20.length:Nat):Int) - 1))).bind fun x30=>((idx s20 (IntKind.i64.wrap (((s20.length:Nat):Int) - 1))).bind fun x31=>((idx (List.set s20 (IntKind.i64.wrap (((s20.length:Nat):Int) - 1)).toNat (IntKind.i64.wrap (x30 - 1))) (IntKind.i64.wrap (((s20.length:Nat):Int) - 1))).bind fun x33=>(bif decide (0<x33) then(some (.out (List.set s20 (IntKind.i64.wrap (((s20.length:Nat):Int) - 1)).toNat (IntKind.i64.wrap (x30 - 1))))) else(bif (decide (0≤(IntKind.i64.wrap (((s20.length:Nat):Int) - 1)))&&decide ((IntKind.i64.wrap (((s20.length:Nat):Int) - 1))≤((((List.set s20 (IntKind.i64.wrap (((s20.length:Nat):Int) - 1)).toNat (IntKind.i64.wrap (x30 - 1)))).length:Nat):Int))) then(Ht n k21 (List.take ((IntKind.i64.wrap (((s20.length:Nat):Int) - 1)).toNat) (List.set s20 (IntKind.i64.wrap (((s20.length:Nat):Int) - 1)).toNat (IntKind.i64.wrap (x30 - 1))))) else none))))) else(some (.out s20)))
def Fu (n:Nat)  (Aa:(List A2)):Nat→Int→Int→(List Int)→Option (LR (Int×(List Int)) Int)
 | 0,_,_,_=>none
 | k4+1,s1,s2,s3=>(bif decide (s2<((Aa.length:Nat):Int)) then((idx Aa s2).bind fun x13=>((Jk n x13.B3).bind fun y14=>(bif decide (0<y14) then(bif decide ((s3.length+1)*9≤140737488355328) then(Fu n Aa k4 (if s1<((s3.length:Nat):Int) then((s3.length:Nat):Int) else s1) (IntKind.i64.wrap (s2+1)) (s3++([y14]:List Int))) else none) else((Ht n n s3).bind fun o28=>match o28 with|.out x38=>(Fu n Aa k4 (if s1<((s3.length:Nat):Int) then((s3.length:Nat):Int) else s1) (IntKind.i64.wrap (s2+1)) x38)|.ret v=>some (.ret v))))) else(some (.out (s1,s3))))
def Lz:Nat→(List A2)→Option Int
 | 0,_=>none
 | n+1,Aa=>((Fu n Aa n 0 0 ([]:List Int)).bind fun o11=>match o11 with|.out (x41,x42)=>(some x41)|.ret v=>some v)
def Fq (n:Nat)  (Ks:(List (List A2))):Nat→Int→(List A2)→Option (LR (List A2) (List A2))
 | 0,_,_=>none
 | k3+1,s1,s2=>(bif decide (s1<((Ks.length:Nat):Int)) then((idx Ks s1).bind fun x12=>(bif decide ((s2.length+x12.length)*57≤140737488355328) then(Fq n Ks k3 (IntKind.i64.wrap (s1+1)) (s2++x12)) else none)) else(some (.out s2)))
def Cw:Nat→A2→(List (List A2))→Option (List A2)
 | 0,_,_=>none
 | n+1,B1,Ks=>((Fq n Ks n 0 ([B1]:List A2)).bind fun o10=>match o10 with|.out x16=>(some x16)|.ret v=>some v)
def Cs:Nat→(List UInt8)→(List A5)→Int→Int→Int→Int→Option Bool
 | 0,_,_,_,_,_,_=>none
 | n+1,Kp,p_l,p_i,p_in,p_e,p_at=>(bif decide (p_i<((p_l.length:Nat):Int)) then((idx p_l p_i).bind fun x2=>(bif (x2.A7==3) then((idx p_l p_i).bind fun x4=>(some (x4.Ac==Kp))) else(some false))) else(some false))
def Ce:Nat→Int→(List A5)→Int→Int→Int→Int→Option ((List A2)×Int×Int)
 | 0,_,_,_,_,_,_=>none
 | n+1,Q7,p_l,p_i,p_in,p_e,p_at=>(bif (p_e != 0) then(some (([]:List A2),p_e,p_at)) else(bif decide (p_i<((p_l.length:Nat):Int)) then((idx p_l p_i).bind fun x3=>(some (([]:List A2),Q7,x3.Ab))) else(bif (Q7==5) then(bif decide (0<((p_l.length:Nat):Int)) then((idx p_l (IntKind.i64.wrap (((p_l.length:Nat):Int) - 1))).bind fun x6=>((idx p_l (IntKind.i64.wrap (((p_l.length:Nat):Int) - 1))).bind fun x7=>(some (([]:List A2),6,IntKind.i64.wrap (x6.Ab+((x7.Ac.length:Nat):Int)))))) else(some (([]:List A2),6,p_at))) else(bif decide (0<((p_l.length:Nat):Int)) then((idx p_l (IntKind.i64.wrap (((p_l.length:Nat):Int) - 1))).bind fun x9=>((idx p_l (IntKind.i64.wrap (((p_l.length:Nat):Int) - 1))).bind fun x10=>(some (([]:List A2),Q7,IntKind.i64.wrap (x9.Ab+((x10.Ac.length:Nat):Int)))))) else(some (([]:List A2),Q7,p_at))))))
def D5:Nat→(List A5)→Int→Int→Int→Int→Option ((List UInt8)×Int×Bool×Int)
 | 0,_,_,_,_,_=>none
 | n+1,p_l,p_i,p_in,p_e,p_at=>(bif decide (((p_l.length:Nat):Int)≤p_i) then(some (([]:List UInt8),0,false,p_i)) else((idx p_l p_i).bind fun x2=>(bif (x2.A7 != 1) then(some (([]:List UInt8),0,false,p_i)) else((idx p_l p_i).bind fun x4=>((Dp n x4.Ac).bind fun y5=>(bif y5 then((idx p_l p_i).bind fun x8=>(some (x8.Ac,x8.Ab,true,IntKind.i64.wrap (p_i+1)))) else(some (([]:List UInt8),0,false,p_i))))))))
def Hc:Nat→Int→Option (List UInt8)
 | 0,_=>none
 | n+1,Dm=>(bif decide (Dm=((14:Nat):Int)) then(some ([124,124]:List UInt8)) else(bif decide (Dm=((13:Nat):Int)) then(some ([38,38]:List UInt8)) else(bif decide (Dm=((12:Nat):Int)) then(some ([60,61]:List UInt8)) else(bif decide (Dm=((11:Nat):Int)) then(some ([60]:List UInt8)) else(bif decide (Dm=((10:Nat):Int)) then(some ([33,61]:List UInt8)) else(bif decide (Dm=((9:Nat):Int)) then(some ([61,61]:List UInt8)) else(bif decide (Dm=((8:Nat):Int)) then(some ([42]:List UInt8)) else(bif decide (Dm=((7:Nat):Int)) then(some ([45]:List UInt8)) else(bif decide (Dm=((6:Nat):Int)) then(some ([43]:List UInt8)) else(bif decide (Dm=((5:Nat):Int)) then(some ([33]:List UInt8)) else(bif decide (Dm=((4:Nat):Int)) then(some ([]:List UInt8)) else(bif decide (Dm=((3:Nat):Int)) then(some ([]:List UInt8)) else(bif decide (Dm=((2:Nat):Int)) then(some ([]:List UInt8)) else(bif decide (Dm=((1:Nat):Int)) then(some ([]:List UInt8)) else(bif decide (Dm=((0:Nat):Int)) then(some ([]:List UInt8)) else none)))))))))))))))
def Bv (n:Nat)  (B2:(List Int)) (p_l:(List A5)) (s5:Int) (s6:Int) (s7:Int) (s8:Int):Nat→Int→Int→Option (LR Int ((List A2)×Int×Int×Int×Int))
 | 0,_,_=>none
 | k20+1,s18,s19=>(bif decide (s19<((B2.length:Nat):Int)) then((idx B2 s19).bind fun x29=>((Hc n x29).bind fun y30=>((Cs n y30 p_l s5 s6 s7 s8).bind fun y32=>(bif y32 then(Bv n B2 p_l s5 s6 s7 s8 k20 x29 (IntKind.i64.wrap (s19+1))) else(Bv n B2 p_l s5 s6 s7 s8 k20 s18 (IntKind.i64.wrap (s19+1))))))) else(some (.out s18)))
def Bc (n:Nat) (rec_expr_parser_both:(List A5)→Int→Int→Int→Int→Option ((List A2)×Int×Int×Int×Int)) (B2:(List Int)) (p_l:(List A5)):Nat→Bool→(List A2)→Int→Int→Int→Int→Option (LR ((List A2)×Int×Int×Int×Int) ((List A2)×Int×Int×Int×Int))
 | 0,_,_,_,_,_,_=>none
 | k9+1,s3,s4,s5,s6,s7,s8=>(bif (s7==0) then((Bv n B2 p_l s5 s6 s7 s8 n 0 0).bind fun o27=>match o27 with|.out x36=>(bif (x36==0) then(some (.out (s4,s5,s6,s7,s8))) else((idx p_l s5).bind fun x38=>((rec_expr_parser_both p_l (IntKind.i64.wrap (s5+1)) s6 s7 s8).bind fun y39=>((Cw n (⟨x36,0,([]:List UInt8),([]:List UInt8),x38.Ab⟩:A2) ([s4,y39.1]:List (List A2))).bind fun y41=>(bif s3 then(some (.out (y41,y39.2.1,y39.2.2.1,y39.2.2.2.1,y39.2.2.2.2))) else(Bc n rec_expr_parser_both B2 p_l k9 false y41 y39.2.1 y39.2.2.1 y39.2.2.2.1 y39.2.2.2.2))))))|.ret v=>some (.ret v)) else(some (.out (s4,s5,s6,s7,s8))))
def E9 (n:Nat)  (B2:(List Int)) (p_l:(List A5)) (s5:Int) (s6:Int) (s7:Int) (s8:Int):Nat→Int→Int→Option (LR Int ((List A2)×Int×Int×Int×Int))
 | 0,_,_=>none
 | k20+1,s18,s19=>(bif decide (s19<((B2.length:Nat):Int)) then((idx B2 s19).bind fun x29=>((Hc n x29).bind fun y30=>((Cs n y30 p_l s5 s6 s7 s8).bind fun y32=>(bif y32 then(E9 n B2 p_l s5 s6 s7 s8 k20 x29 (IntKind.i64.wrap (s19+1))) else(E9 n B2 p_l s5 s6 s7 s8 k20 s18 (IntKind.i64.wrap (s19+1))))))) else(some (.out s18)))
def Eu (n:Nat) (rec_expr_parser_compared:(List A5)→Int→Int→Int→Int→Option ((List A2)×Int×Int×Int×Int)) (B2:(List Int)) (p_l:(List A5)):Nat→Bool→(List A2)→Int→Int→Int→Int→Option (LR ((List A2)×Int×Int×Int×Int) ((List A2)×Int×Int×Int×Int))
 | 0,_,_,_,_,_,_=>none
 | k9+1,s3,s4,s5,s6,s7,s8=>(bif (s7==0) then((E9 n B2 p_l s5 s6 s7 s8 n 0 0).bind fun o27=>match o27 with|.out x36=>(bif (x36==0) then(some (.out (s4,s5,s6,s7,s8))) else((idx p_l s5).bind fun x38=>((rec_expr_parser_compared p_l (IntKind.i64.wrap (s5+1)) s6 s7 s8).bind fun y39=>((Cw n (⟨x36,0,([]:List UInt8),([]:List UInt8),x38.Ab⟩:A2) ([s4,y39.1]:List (List A2))).bind fun y41=>(bif s3 then(some (.out (y41,y39.2.1,y39.2.2.1,y39.2.2.2.1,y39.2.2.2.2))) else(Eu n rec_expr_parser_compared B2 p_l k9 false y41 y39.2.1 y39.2.2.1 y39.2.2.2.1 y39.2.2.2.2))))))|.ret v=>some (.ret v)) else(some (.out (s4,s5,s6,s7,s8))))
def E7 (n:Nat)  (B2:(List Int)) (p_l:(List A5)) (s5:Int) (s6:Int) (s7:Int) (s8:Int):Nat→Int→Int→Option (LR Int ((List A2)×Int×Int×Int×Int))
 | 0,_,_=>none
 | k20+1,s18,s19=>(bif decide (s19<((B2.length:Nat):Int)) then((idx B2 s19).bind fun x29=>((Hc n x29).bind fun y30=>((Cs n y30 p_l s5 s6 s7 s8).bind fun y32=>(bif y32 then(E7 n B2 p_l s5 s6 s7 s8 k20 x29 (IntKind.i64.wrap (s19+1))) else(E7 n B2 p_l s5 s6 s7 s8 k20 s18 (IntKind.i64.wrap (s19+1))))))) else(some (.out s18)))
def Ey (n:Nat) (rec_expr_parser_sum:(List A5)→Int→Int→Int→Int→Option ((List A2)×Int×Int×Int×Int)) (B2:(List Int)) (p_l:(List A5)):Nat→Bool→(List A2)→Int→Int→Int→Int→Option (LR ((List A2)×Int×Int×Int×Int) ((List A2)×Int×Int×Int×Int))
 | 0,_,_,_,_,_,_=>none
 | k9+1,s3,s4,s5,s6,s7,s8=>(bif (s7==0) then((E7 n B2 p_l s5 s6 s7 s8 n 0 0).bind fun o27=>match o27 with|.out x36=>(bif (x36==0) then(some (.out (s4,s5,s6,s7,s8))) else((idx p_l s5).bind fun x38=>((rec_expr_parser_sum p_l (IntKind.i64.wrap (s5+1)) s6 s7 s8).bind fun y39=>((Cw n (⟨x36,0,([]:List UInt8),([]:List UInt8),x38.Ab⟩:A2) ([s4,y39.1]:List (List A2))).bind fun y41=>(bif s3 then(some (.out (y41,y39.2.1,y39.2.2.1,y39.2.2.2.1,y39.2.2.2.2))) else(Ey n rec_expr_parser_sum B2 p_l k9 false y41 y39.2.1 y39.2.2.1 y39.2.2.2.1 y39.2.2.2.2))))))|.ret v=>some (.ret v)) else(some (.out (s4,s5,s6,s7,s8))))
def E6 (n:Nat)  (B2:(List Int)) (p_l:(List A5)) (s5:Int) (s6:Int) (s7:Int) (s8:Int):Nat→Int→Int→Option (LR Int ((List A2)×Int×Int×Int×Int))
 | 0,_,_=>none
 | k20+1,s18,s19=>(bif decide (s19<((B2.length:Nat):Int)) then((idx B2 s19).bind fun x29=>((Hc n x29).bind fun y30=>((Cs n y30 p_l s5 s6 s7 s8).bind fun y32=>(bif y32 then(E6 n B2 p_l s5 s6 s7 s8 k20 x29 (IntKind.i64.wrap (s19+1))) else(E6 n B2 p_l s5 s6 s7 s8 k20 s18 (IntKind.i64.wrap (s19+1))))))) else(some (.out s18)))
def Ev (n:Nat) (rec_expr_parser_product:(List A5)→Int→Int→Int→Int→Option ((List A2)×Int×Int×Int×Int)) (B2:(List Int)) (p_l:(List A5)):Nat→Bool→(List A2)→Int→Int→Int→Int→Option (LR ((List A2)×Int×Int×Int×Int) ((List A2)×Int×Int×Int×Int))
 | 0,_,_,_,_,_,_=>none
 | k9+1,s3,s4,s5,s6,s7,s8=>(bif (s7==0) then((E6 n B2 p_l s5 s6 s7 s8 n 0 0).bind fun o27=>match o27 with|.out x36=>(bif (x36==0) then(some (.out (s4,s5,s6,s7,s8))) else((idx p_l s5).bind fun x38=>((rec_expr_parser_product p_l (IntKind.i64.wrap (s5+1)) s6 s7 s8).bind fun y39=>((Cw n (⟨x36,0,([]:List UInt8),([]:List UInt8),x38.Ab⟩:A2) ([s4,y39.1]:List (List A2))).bind fun y41=>(bif s3 then(some (.out (y41,y39.2.1,y39.2.2.1,y39.2.2.2.1,y39.2.2.2.2))) else(Ev n rec_expr_parser_product B2 p_l k9 false y41 y39.2.1 y39.2.2.1 y39.2.2.2.1 y39.2.2.2.2))))))|.ret v=>some (.ret v)) else(some (.out (s4,s5,s6,s7,s8))))
def Eb (n:Nat)  (B2:(List Int)) (p_l:(List A5)) (s5:Int) (s6:Int) (s7:Int) (s8:Int):Nat→Int→Int→Option (LR Int ((List A2)×Int×Int×Int×Int))
 | 0,_,_=>none
 | k20+1,s18,s19=>(bif decide (s19<((B2.length:Nat):Int)) then((idx B2 s19).bind fun x29=>((Hc n x29).bind fun y30=>((Cs n y30 p_l s5 s6 s7 s8).bind fun y32=>(bif y32 then(Eb n B2 p_l s5 s6 s7 s8 k20 x29 (IntKind.i64.wrap (s19+1))) else(Eb n B2 p_l s5 s6 s7 s8 k20 s18 (IntKind.i64.wrap (s19+1))))))) else(some (.out s18)))
def F0 (n:Nat) (rec_expr_parser_single:(List A5)→Int→Int→Int→Int→Option ((List A2)×Int×Int×Int×Int)) (B2:(List Int)) (p_l:(List A5)):Nat→Bool→(List A2)→Int→Int→Int→Int→Option (LR ((List A2)×Int×Int×Int×Int) ((List A2)×Int×Int×Int×Int))
 | 0,_,_,_,_,_,_=>none
 | k9+1,s3,s4,s5,s6,s7,s8=>(bif (s7==0) then((Eb n B2 p_l s5 s6 s7 s8 n 0 0).bind fun o27=>match o27 with|.out x36=>(bif (x36==0) then(some (.out (s4,s5,s6,s7,s8))) else((idx p_l s5).bind fun x38=>((rec_expr_parser_single p_l (IntKind.i64.wrap (s5+1)) s6 s7 s8).bind fun y39=>((Cw n (⟨x36,0,([]:List UInt8),([]:List UInt8),x38.Ab⟩:A2) ([s4,y39.1]:List (List A2))).bind fun y41=>(bif s3 then(some (.out (y41,y39.2.1,y39.2.2.1,y39.2.2.2.1,y39.2.2.2.2))) else(F0 n rec_expr_parser_single B2 p_l k9 false y41 y39.2.1 y39.2.2.1 y39.2.2.2.1 y39.2.2.2.2))))))|.ret v=>some (.ret v)) else(some (.out (s4,s5,s6,s7,s8))))
mutual
def D8:Nat→(List A5)→Int→Int→Int→Int→Option ((List A2)×Int×Int×Int×Int)
 | 0,_,_,_,_,_=>none
 | n+1,p_l,p_i,p_in,p_e,p_at=>(((Lk n) false ([14]:List Int) p_l p_i p_in p_e p_at).bind fun y1=>(some (y1.1,y1.2.1,y1.2.2.1,y1.2.2.2.1,y1.2.2.2.2)))
def D6:Nat→(List A5)→Int→Int→Int→Int→Option ((List A2)×Int×Int×Int×Int)
 | 0,_,_,_,_,_=>none
 | n+1,p_l,p_i,p_in,p_e,p_at=>(((Kc n) false ([13]:List Int) p_l p_i p_in p_e p_at).bind fun y1=>(some (y1.1,y1.2.1,y1.2.2.1,y1.2.2.2.1,y1.2.2.2.2)))
def Cm:Nat→(List A5)→Int→Int→Int→Int→Option ((List A2)×Int×Int×Int×Int)
 | 0,_,_,_,_,_=>none
 | n+1,p_l,p_i,p_in,p_e,p_at=>(((Kf n) true ([9,10,11,12]:List Int) p_l p_i p_in p_e p_at).bind fun y1=>(some (y1.1,y1.2.1,y1.2.2.1,y1.2.2.2.1,y1.2.2.2.2)))
def Eg:Nat→(List A5)→Int→Int→Int→Int→Option ((List A2)×Int×Int×Int×Int)
 | 0,_,_,_,_,_=>none
 | n+1,p_l,p_i,p_in,p_e,p_at=>(bif decide (30≤p_in) then((Ce n 7 p_l p_i p_in p_e p_at).bind fun y2=>(some (y2.1,p_i,p_in,y2.2.1,y2.2.2))) else(((Bq n) p_l (IntKind.i64.wrap (p_i+1)) (IntKind.i64.wrap (p_in+1)) p_e p_at).bind fun y4=>(some (y4.1,y4.2.1,IntKind.i64.wrap (y4.2.2.1 - 1),y4.2.2.2.1,y4.2.2.2.2))))
def Du:Nat→(List A5)→Int→Int→Int→Int→Option ((List A2)×Int×Int×Int×Int)
 | 0,_,_,_,_,_=>none
 | n+1,p_l,p_i,p_in,p_e,p_at=>(bif decide (30≤p_in) then((Ce n 7 p_l p_i p_in p_e p_at).bind fun y2=>(some (y2.1,p_i,p_in,y2.2.1,y2.2.2))) else(((D8 n) p_l (IntKind.i64.wrap (p_i+1)) (IntKind.i64.wrap (p_in+1)) p_e p_at).bind fun y4=>(some (y4.1,y4.2.1,IntKind.i64.wrap (y4.2.2.1 - 1),y4.2.2.2.1,y4.2.2.2.2))))
def Cr:Nat→(List A5)→Int→Int→Int→Int→Option ((List A2)×Int×Int×Int×Int)
 | 0,_,_,_,_,_=>none
 | n+1,p_l,p_i,p_in,p_e,p_at=>(((Kd n) false ([8]:List Int) p_l p_i p_in p_e p_at).bind fun y1=>(some (y1.1,y1.2.1,y1.2.2.1,y1.2.2.2.1,y1.2.2.2.2)))
def Lk:Nat→Bool→(List Int)→(List A5)→Int→Int→Int→Int→Option ((List A2)×Int×Int×Int×Int)
 | 0,_,_,_,_,_,_,_=>none
 | n+1,Cz,B2,p_l,p_i,p_in,p_e,p_at=>(((D6 n) p_l p_i p_in p_e p_at).bind fun y1=>((Bc n (D6 n) B2 p_l n Cz y1.1 y1.2.1 y1.2.2.1 y1.2.2.2.1 y1.2.2.2.2).bind fun o16=>match o16 with|.out (x46,x47,x48,x49,x50)=>(some (x46,x47,x48,x49,x50))|.ret v=>some v))
def Kc:Nat→Bool→(List Int)→(List A5)→Int→Int→Int→Int→Option ((List A2)×Int×Int×Int×Int)
 | 0,_,_,_,_,_,_,_=>none
 | n+1,Cz,B2,p_l,p_i,p_in,p_e,p_at=>(((Cm n) p_l p_i p_in p_e p_at).bind fun y1=>((Eu n (Cm n) B2 p_l n Cz y1.1 y1.2.1 y1.2.2.1 y1.2.2.2.1 y1.2.2.2.2).bind fun o16=>match o16 with|.out (x46,x47,x48,x49,x50)=>(some (x46,x47,x48,x49,x50))|.ret v=>some v))
def Kf:Nat→Bool→(List Int)→(List A5)→Int→Int→Int→Int→Option ((List A2)×Int×Int×Int×Int)
 | 0,_,_,_,_,_,_,_=>none
 | n+1,Cz,B2,p_l,p_i,p_in,p_e,p_at=>(((De n) p_l p_i p_in p_e p_at).bind fun y1=>((Ey n (De n) B2 p_l n Cz y1.1 y1.2.1 y1.2.2.1 y1.2.2.2.1 y1.2.2.2.2).bind fun o16=>match o16 with|.out (x46,x47,x48,x49,x50)=>(some (x46,x47,x48,x49,x50))|.ret v=>some v))
def Ke:Nat→Bool→(List Int)→(List A5)→Int→Int→Int→Int→Option ((List A2)×Int×Int×Int×Int)
 | 0,_,_,_,_,_,_,_=>none
 | n+1,Cz,B2,p_l,p_i,p_in,p_e,p_at=>(((Cr n) p_l p_i p_in p_e p_at).bind fun y1=>((Ev n (Cr n) B2 p_l n Cz y1.1 y1.2.1 y1.2.2.1 y1.2.2.2.1 y1.2.2.2.2).bind fun o16=>match o16 with|.out (x46,x47,x48,x49,x50)=>(some (x46,x47,x48,x49,x50))|.ret v=>some v))
def Kd:Nat→Bool→(List Int)→(List A5)→Int→Int→Int→Int→Option ((List A2)×Int×Int×Int×Int)
 | 0,_,_,_,_,_,_,_=>none
 | n+1,Cz,B2,p_l,p_i,p_in,p_e,p_at=>(((Bq n) p_l p_i p_in p_e p_at).bind fun y1=>((F0 n (Bq n) B2 p_l n Cz y1.1 y1.2.1 y1.2.2.1 y1.2.2.2.1 y1.2.2.2.2).bind fun o16=>match o16 with|.out (x46,x47,x48,x49,x50)=>(some (x46,x47,x48,x49,x50))|.ret v=>some v))
def Bq:Nat→(List A5)→Int→Int→Int→Int→Option ((List A2)×Int×Int×Int×Int)
 | 0,_,_,_,_,_=>none
 | n+1,p_l,p_i,p_in,p_e,p_at=>(bif (p_e != 0) then(some (([]:List A2),p_i,p_in,p_e,p_at)) else((Cs n ([33]:List UInt8) p_l p_i p_in p_e p_at).bind fun y2=>(bif y2 then((idx p_l p_i).bind fun x5=>(((Eg n) p_l p_i p_in p_e p_at).bind fun y6=>((Cw n (⟨5,0,([]:List UInt8),([]:List UInt8),x5.Ab⟩:A2) ([y6.1]:List (List A2))).bind fun y8=>(some (y8,y6.2.1,y6.2.2.1,y6.2.2.2.1,y6.2.2.2.2))))) else((Cs n ([40]:List UInt8) p_l p_i p_in p_e p_at).bind fun y10=>(bif y10 then(((Du n) p_l p_i p_in p_e p_at).bind fun y13=>(bif (y13.2.2.2.1==0) then((Cs n ([41]:List UInt8) p_l y13.2.1 y13.2.2.1 y13.2.2.2.1 y13.2.2.2.2).bind fun y16=>(bif y16 then(some (y13.1,IntKind.i64.wrap (y13.2.1+1),y13.2.2.1,y13.2.2.2.1,y13.2.2.2.2)) else((Ce n 5 p_l y13.2.1 y13.2.2.1 y13.2.2.2.1 y13.2.2.2.2).bind fun y19=>(some (y19.1,y13.2.1,y13.2.2.1,y19.2.1,y19.2.2))))) else(some (y13.1,IntKind.i64.wrap (y13.2.1+1),y13.2.2.1,y13.2.2.2.1,y13.2.2.2.2)))) else(bif decide (p_i<((p_l.length:Nat):Int)) then((idx p_l p_i).bind fun x22=>(bif (x22.A7==2) then((idx p_l p_i).bind fun x24=>((Cw n (⟨1,x24.Bs,([]:List UInt8),([]:List UInt8),x24.Ab⟩:A2) ([]:List (List A2))).bind fun y25=>(some (y25,IntKind.i64.wrap (p_i+1),p_in,p_e,p_at)))) else((D5 n p_l p_i p_in p_e p_at).bind fun y27=>(bif y27.2.2.1 then((Cs n ([46]:List UInt8) p_l y27.2.2.2 p_in p_e p_at).bind fun y30=>(bif y30 then((D5 n p_l (IntKind.i64.wrap (y27.2.2.2+1)) p_in p_e p_at).bind fun y33=>(bif y33.2.2.1 then((Cw n (⟨4,0,y33.1,y27.1,y27.2.1⟩:A2) ([]:List (List A2))).bind fun y36=>(some (y36,y33.2.2.2,p_in,p_e,p_at))) else((Ce n 5 p_l y33.2.2.2 p_in p_e p_at).bind fun y38=>(some (y38.1,y33.2.2.2,p_in,y38.2.1,y38.2.2))))) else((Cw n (⟨2,0,y27.1,([]:List UInt8),y27.2.1⟩:A2) ([]:List (List A2))).bind fun y40=>(some (y40,y27.2.2.2,p_in,p_e,p_at))))) else((Ce n 5 p_l y27.2.2.2 p_in p_e p_at).bind fun y42=>(some (y42.1,y27.2.2.2,p_in,y42.2.1,y42.2.2))))))) else((D5 n p_l p_i p_in p_e p_at).bind fun y44=>(bif y44.2.2.1 then((Cs n ([46]:List UInt8) p_l y44.2.2.2 p_in p_e p_at).bind fun y47=>(bif y47 then((D5 n p_l (IntKind.i64.wrap (y44.2.2.2+1)) p_in p_e p_at).bind fun y50=>(bif y50.2.2.1 then((Cw n (⟨4,0,y50.1,y44.1,y44.2.1⟩:A2) ([]:List (List A2))).bind fun y53=>(some (y53,y50.2.2.2,p_in,p_e,p_at))) else((Ce n 5 p_l y50.2.2.2 p_in p_e p_at).bind fun y55=>(some (y55.1,y50.2.2.2,p_in,y55.2.1,y55.2.2))))) else((Cw n (⟨2,0,y44.1,([]:List UInt8),y44.2.1⟩:A2) ([]:List (List A2))).bind fun y57=>(some (y57,y44.2.2.2,p_in,p_e,p_at))))) else((Ce n 5 p_l y44.2.2.2 p_in p_e p_at).bind fun y59=>(some (y59.1,y44.2.2.2,p_in,y59.2.1,y59.2.2)))))))))))
def De:Nat→(List A5)→Int→Int→Int→Int→Option ((List A2)×Int×Int×Int×Int)
 | 0,_,_,_,_,_=>none
 | n+1,p_l,p_i,p_in,p_e,p_at=>(((Ke n) false ([6,7]:List Int) p_l p_i p_in p_e p_at).bind fun y1=>(some (y1.1,y1.2.1,y1.2.2.1,y1.2.2.2.1,y1.2.2.2.2)))
end
def I9:Nat→(List A5)→Int→Option ((List A2)×Int×Int×Int)
 | 0,_,_=>none
 | n+1,Aa,Bb=>(bif decide (Bb<0) then(some (([]:List A2),0,1,0)) else((D8 n Aa Bb 0 0 0).bind fun y2=>(bif (y2.2.2.2.1 != 0) then(some (([]:List A2),0,y2.2.2.2.1,y2.2.2.2.2)) else((Lz n y2.1).bind fun y5=>(bif decide (30<y5) then((idx Aa Bb).bind fun x8=>(some (([]:List A2),0,7,x8.Ab))) else(bif decide (200<((y2.1.length:Nat):Int)) then((idx Aa Bb).bind fun x10=>(some (([]:List A2),0,2,x10.Ab))) else(some (y2.1,y2.2.1,0,0))))))))
def Po:Nat→A2→Option Bool
 | 0,_=>none
 | n+1,B1=>(bif decide (B1.Ab<0) then(some false) else(bif (B1.B3==1) then(bif ((B1.B3==B1.B3)&&((B1.Bs==B1.Bs)&&((B1.Ao==([]:List UInt8))&&((B1.Cq==([]:List UInt8))&&((B1.Ab==B1.Ab)&&true))))) then(bif decide (0≤B1.Bs) then(some (decide (B1.Bs≤9999))) else(some false)) else(some false)) else(bif (B1.B3==4) then((Dp n B1.Cq).bind fun y7=>(bif y7 then(bif ((B1.B3==B1.B3)&&((B1.Bs==0)&&((B1.Ao==B1.Ao)&&((B1.Cq==B1.Cq)&&((B1.Ab==B1.Ab)&&true))))) then((Dp n B1.Ao).bind fun y11=>(some y11)) else(some false)) else(some false))) else(bif (B1.B3==2) then(bif ((B1.B3==B1.B3)&&((B1.Bs==0)&&((B1.Ao==B1.Ao)&&((B1.Cq==([]:List UInt8))&&((B1.Ab==B1.Ab)&&true))))) then((Dp n B1.Ao).bind fun y16=>(some y16)) else(some false)) else(bif (B1.B3==3) then(bif ((B1.B3==B1.B3)&&((B1.Bs==0)&&((B1.Ao==B1.Ao)&&((B1.Cq==([]:List UInt8))&&((B1.Ab==B1.Ab)&&true))))) then((Dp n B1.Ao).bind fun y21=>(some y21)) else(some false)) else(some ((B1.B3==B1.B3)&&((B1.Bs==0)&&((B1.Ao==([]:List UInt8))&&((B1.Cq==([]:List UInt8))&&((B1.Ab==B1.Ab)&&true)))))))))))
def Gq (n:Nat)  (Aa:(List A2)):Nat→Int→Option (LR Unit Bool)
 | 0,_=>none
 | k7+1,s6=>(bif decide (s6<((Aa.length:Nat):Int)) then((idx Aa s6).bind fun x16=>((Po n x16).bind fun y17=>(bif y17 then(Gq n Aa k7 (IntKind.i64.wrap (s6+1))) else(some (.ret false))))) else(some (.out ())))
def Jx:Nat→(List A2)→Option Bool
 | 0,_=>none
 | n+1,Aa=>(bif (((Aa.length:Nat):Int)==0) then(some false) else(bif decide (200<((Aa.length:Nat):Int)) then(some false) else((Qr n Aa 0).bind fun y3=>(bif (y3 != ((Aa.length:Nat):Int)) then(some false) else((Gq n Aa n 0).bind fun o14=>match o14 with|.out _=>((Lz n Aa).bind fun y21=>(some (decide (y21≤30))))|.ret v=>some v)))))
def F8:Nat→Int→Option (List UInt8)
 | 0,_=>none
 | n+1,Cd=>(bif decide (Cd<10) then(some ([UInt8.ofNat (IntKind.u8.wrap (IntKind.i64.wrap (48+Cd))).toNat]:List UInt8)) else(((F8 n) (IntKind.i64.wrap (Int.tdiv Cd 10))).bind fun y2=>(bif decide (y2.length+(([UInt8.ofNat (IntKind.u8.wrap (IntKind.i64.wrap (48+(Int.tmod Cd 10)))).toNat]:List UInt8)).length≤140737488355328) then(some (y2++([UInt8.ofNat (IntKind.u8.wrap (IntKind.i64.wrap (48+(Int.tmod Cd 10)))).toNat]:List UInt8))) else none)))
def I1:Nat→(List A2)→Int→Bool→Option ((List UInt8)×Int)
 | 0,_,_,_=>none
 | n+1,Aa,Bb,Ra=>((idx Aa Bb).bind fun x1=>(bif (x1.B3==1) then((F8 n x1.Bs).bind fun y3=>(some (y3,IntKind.i64.wrap (Bb+1)))) else(bif (x1.B3==2) then(some (x1.Ao,IntKind.i64.wrap (Bb+1))) else(bif (x1.B3==3) then(some (x1.Ao,IntKind.i64.wrap (Bb+1))) else(bif (x1.B3==4) then(bif decide (x1.Cq.length+(([46]:List UInt8)).length≤140737488355328) then(bif decide (((x1.Cq++([46]:List UInt8))).length+x1.Ao.length≤140737488355328) then(some (((x1.Cq++([46]:List UInt8))++x1.Ao),IntKind.i64.wrap (Bb+1))) else none) else none) else(bif (x1.B3==5) then(((I1 n) Aa (IntKind.i64.wrap (Bb+1)) true).bind fun y11=>((Hc n x1.B3).bind fun y13=>(bif decide (y13.length+y11.1.length≤140737488355328) then(some ((y13++y11.1),y11.2)) else none))) else(((I1 n) Aa (IntKind.i64.wrap (Bb+1)) true).bind fun y16=>(((I1 n) Aa y16.2 true).bind fun y18=>(bif decide (y16.1.length+(([32]:List UInt8)).length≤140737488355328) then((Hc n x1.B3).bind fun y21=>(bif decide (((y16.1++([32]:List UInt8))).length+y21.length≤140737488355328) then(bif decide ((((y16.1++([32]:List UInt8))++y21)).length+(([32]:List UInt8)).length≤140737488355328) then(bif decide (((((y16.1++([32]:List UInt8))++y21)++([32]:List UInt8))).length+y18.1.length≤140737488355328) then(bif Ra then(bif decide ((([40]:List UInt8)).length+(((((y16.1++([32]:List UInt8))++y21)++([32]:List UInt8))++y18.1)).length≤140737488355328) then(bif decide (((([40]:List UInt8)++((((y16.1++([32]:List UInt8))++y21)++([32]:List UInt8))++y18.1))).length+(([41]:List UInt8)).length≤140737488355328) then(some (((([40]:List UInt8)++((((y16.1++([32]:List UInt8))++y21)++([32]:List UInt8))++y18.1))++([41]:List UInt8)),y18.2)) else none) else none) else(some (((((y16.1++([32]:List UInt8))++y21)++([32]:List UInt8))++y18.1),y18.2))) else none) else none) else none)) else none)))))))))
def Gk:Nat→(List A2)→Option (List UInt8)
 | 0,_=>none
 | n+1,Aa=>((Jx n Aa).bind fun y1=>(bif y1 then((I1 n Aa 0 false).bind fun y4=>(some y4.1)) else(some ([]:List UInt8))))
def O9 (n:Nat)  (Aa:(List A0)):Nat→Int→Option (LR Unit Bool)
 | 0,_=>none
 | k3+1,s2=>(bif decide (s2<((Aa.length:Nat):Int)) then((idx Aa s2).bind fun x12=>(bif decide (100<((x12.Bd.length:Nat):Int)) then(some (.ret false)) else((idx Aa s2).bind fun x14=>(bif decide (100<((x14.Be.length:Nat):Int)) then(some (.ret false)) else((idx Aa s2).bind fun x16=>((Sm n x16.Bm).bind fun y17=>(bif y17 then((idx Aa s2).bind fun x20=>((Sm n x20.C6).bind fun y21=>(bif y21 then(O9 n Aa k3 (IntKind.i64.wrap (s2+1))) else(some (.ret false))))) else(some (.ret false))))))))) else(some (.out ())))
def X5:Nat→(List A0)→Option Bool
 | 0,_=>none
 | n+1,Aa=>(bif decide (60<((Aa.length:Nat):Int)) then(some false) else((O9 n Aa n 0).bind fun o10=>match o10 with|.out _=>(some true)|.ret v=>some v))
def Fv (n:Nat)  (Bp:(List A0)) (Bt:(List A0)):Nat→Bool→Int→Option (LR Unit Bool)
 | 0,_,_=>none
 | k4+1,s2,s3=>(bif decide (s3<((Bp.length:Nat):Int)) then((idx Bp s3).bind fun x13=>((idx Bt s3).bind fun x14=>(bif (x13.A7 != x14.A7) then(some (.ret false)) else(bif (x13.Bd==x14.Bd) then(bif (x13.Be==x14.Be) then(bif (x13.Br==x14.Br) then(bif (x13.B5 != x14.B5) then(some (.ret false)) else(bif (x13.Ch != x14.Ch) then(some (.ret false)) else(bif s2 then(bif (x13.Ab != x14.Ab) then(some (.ret false)) else((Hh n x13.Bm x14.Bm true).bind fun y23=>(bif y23 then((Hh n x13.C6 x14.C6 true).bind fun y26=>(bif y26 then(Fv n Bp Bt k4 true (IntKind.i64.wrap (s3+1))) else(some (.ret false)))) else(some (.ret false))))) else((Hh n x13.Bm x14.Bm false).bind fun y29=>(bif y29 then((Hh n x13.C6 x14.C6 false).bind fun y32=>(bif y32 then(Fv n Bp Bt k4 false (IntKind.i64.wrap (s3+1))) else(some (.ret false)))) else(some (.ret false))))))) else(some (.ret false))) else(some (.ret false))) else(some (.ret false)))))) else(some (.out ())))
def O2:Nat→(List A0)→(List A0)→Bool→Option Bool
 | 0,_,_,_=>none
 | n+1,Bp,Bt,Er=>(bif (((Bp.length:Nat):Int) != ((Bt.length:Nat):Int)) then(some false) else((Fv n Bp Bt n Er 0).bind fun o11=>match o11 with|.out _=>(some true)|.ret v=>some v))
def J9:Nat→Option (List Bn)
 | 0=>none
 | n+1=>(some ([(⟨([]:List UInt8),([]:List UInt8),false,false⟩:Bn),(⟨([115,107,105,112]:List UInt8),([59]:List UInt8),false,false⟩:Bn),(⟨([115,101,116]:List UInt8),([114,61,101,59]:List UInt8),false,false⟩:Bn),(⟨([108,111,97,100]:List UInt8),([114,61,108,59]:List UInt8),false,false⟩:Bn),(⟨([115,116,111,114,101]:List UInt8),([108,61,101,59]:List UInt8),false,false⟩:Bn),(⟨([99,97,115]:List UInt8),([114,61,108,44,101,44,102,59]:List UInt8),false,false⟩:Bn),(⟨([102,97,100,100]:List UInt8),([114,61,108,44,101,59]:List UInt8),false,false⟩:Bn),(⟨([120,99,104,103]:List UInt8),([114,61,108,44,101,59]:List UInt8),false,false⟩:Bn),(⟨([102,101,110,99,101]:List UInt8),([59]:List UInt8),false,false⟩:Bn),(⟨([97,119,97,105,116]:List UInt8),([108,113,101,59]:List UInt8),false,false⟩:Bn),(⟨([105,102]:List UInt8),([101]:List UInt8),true,true⟩:Bn),(⟨([119,104,105,108,101]:List UInt8),([101]:List UInt8),true,false⟩:Bn),(⟨([108,111,111,112]:List UInt8),([]:List UInt8),true,false⟩:Bn),(⟨([98,114,101,97,107]:List UInt8),([59]:List UInt8),false,false⟩:Bn)]:List Bn))
def Dd:Nat→Int→(List UInt8)→(List A5)→Int→Int→Int→(List ((List UInt8)×Int))→Option Bool
 | 0,_,_,_,_,_,_,_=>none
 | n+1,E4,A7q,p_l,p_i,p_e,p_at,Al=>(bif decide (p_i<((p_l.length:Nat):Int)) then((idx p_l p_i).bind fun x2=>(bif (x2.A7==E4) then((idx p_l p_i).bind fun x4=>(some (x4.Ac==A7q))) else(some false))) else(some false))
def My:Nat→Int→Option (Bn×Bool)
 | 0,_=>none
 | n+1,Cd=>((J9 n ).bind fun y1=>(bif decide (Cd<1) then(some ((⟨([]:List UInt8),([]:List UInt8),false,false⟩:Bn),false)) else(bif decide (((y1.length:Nat):Int)≤Cd) then(some ((⟨([]:List UInt8),([]:List UInt8),false,false⟩:Bn),false)) else((idx y1 Cd).bind fun x5=>(some (x5,true))))))
def Pp:Nat→Option Bn
 | 0=>none
 | n+1=>((J9 n ).bind fun y1=>(some (⟨([]:List UInt8),([]:List UInt8),false,false⟩:Bn)))
def Ei:Nat→Int→(List A5)→Int→Int→Int→(List ((List UInt8)×Int))→Option Int
 | 0,_,_,_,_,_,_=>none
 | n+1,Bb,p_l,p_i,p_e,p_at,Al=>(bif decide (Bb<((p_l.length:Nat):Int)) then((idx p_l Bb).bind fun x2=>(some x2.Ab)) else(bif decide (0<((p_l.length:Nat):Int)) then((idx p_l (IntKind.i64.wrap (((p_l.length:Nat):Int) - 1))).bind fun x4=>((idx p_l (IntKind.i64.wrap (((p_l.length:Nat):Int) - 1))).bind fun x5=>(some (IntKind.i64.wrap (x4.Ab+((x5.Ac.length:Nat):Int)))))) else(some 0)))
def D4:Nat→(List A5)→Int→Int→Int→(List ((List UInt8)×Int))→Option (Int×Int)
 | 0,_,_,_,_,_=>none
 | n+1,p_l,p_i,p_e,p_at,Al=>(bif (p_e != 0) then(some (p_e,p_at)) else((Ei n p_i p_l p_i p_e p_at Al).bind fun y2=>(bif decide (((p_l.length:Nat):Int)≤p_i) then(some (6,y2)) else(some (5,y2)))))
def Bl:Nat→(List UInt8)→(List A5)→Int→Int→Int→(List ((List UInt8)×Int))→Option (Int×Int×Int)
 | 0,_,_,_,_,_,_=>none
 | n+1,Kp,p_l,p_i,p_e,p_at,Al=>(bif (p_e != 0) then(some (p_i,p_e,p_at)) else((Dd n 3 Kp p_l p_i p_e p_at Al).bind fun y2=>(bif y2 then(some (IntKind.i64.wrap (p_i+1),p_e,p_at)) else((D4 n p_l p_i p_e p_at Al).bind fun y5=>(some (p_i,y5.1,y5.2))))))
def Gy:Nat→(List A5)→Int→Int→Int→(List ((List UInt8)×Int))→Option ((List UInt8)×Int×Int×Int)
 | 0,_,_,_,_,_=>none
 | n+1,p_l,p_i,p_e,p_at,Al=>(bif (p_e != 0) then(some (([]:List UInt8),p_i,p_e,p_at)) else(bif decide (((p_l.length:Nat):Int)≤p_i) then((D4 n p_l p_i p_e p_at Al).bind fun y3=>(some (([]:List UInt8),p_i,y3.1,y3.2))) else((idx p_l p_i).bind fun x5=>(bif (x5.A7 != 1) then((D4 n p_l p_i p_e p_at Al).bind fun y7=>(some (([]:List UInt8),p_i,y7.1,y7.2))) else((idx p_l p_i).bind fun x9=>((Dp n x9.Ac).bind fun y10=>(bif y10 then((idx p_l (IntKind.i64.wrap ((IntKind.i64.wrap (p_i+1)) - 1))).bind fun x13=>(some (x13.Ac,IntKind.i64.wrap (p_i+1),p_e,p_at))) else((D4 n p_l p_i p_e p_at Al).bind fun y14=>(some (([]:List UInt8),p_i,y14.1,y14.2))))))))))
def Io:Nat→(List A5)→Int→Int→Int→(List ((List UInt8)×Int))→Int→(List UInt8)→(List UInt8)→(List A2)→(List A2)→Bool→Int→Int→Int→Option (Int×Int×Int×(List UInt8))
 | 0,_,_,_,_,_,_,_,_,_,_,_,_,_,_=>none
 | n+1,Fl,I4,I5,G5,Fm,Dg,Ee,Ef,Hu,Hv,G6,Dh,Di,F6=>((Gy n Fl I4 I5 G5 Fm).bind fun y1=>(some (y1.2.1,y1.2.2.1,y1.2.2.2,y1.1)))
def Il:Nat→(List A5)→Int→Int→Int→(List ((List UInt8)×Int))→Int→(List UInt8)→(List UInt8)→(List A2)→(List A2)→Bool→Int→Int→Int→Option (Int×Int×Int×(List UInt8))
 | 0,_,_,_,_,_,_,_,_,_,_,_,_,_,_=>none
 | n+1,Fl,I4,I5,G5,Fm,Dg,Ee,Ef,Hu,Hv,G6,Dh,Di,F6=>((Gy n Fl I4 I5 G5 Fm).bind fun y1=>(some (y1.2.1,y1.2.2.1,y1.2.2.2,y1.1)))
def Gd (n:Nat)  (y1:(List A2)):Nat→Int→Option (LR Unit Bool)
 | 0,_=>none
 | k4+1,s3=>(bif decide (s3<((y1.length:Nat):Int)) then((idx y1 s3).bind fun x13=>(bif (x13.B3 != 2) then(some (.ret false)) else(Gd n y1 k4 (IntKind.i64.wrap (s3+1))))) else(some (.out ())))
def J6:Nat→(List A2)→Option Bool
 | 0,_=>none
 | n+1,Aa=>((Lq n Aa).bind fun y1=>((Gd n y1 n 0).bind fun o11=>match o11 with|.out _=>((Jx n Aa).bind fun y16=>(some y16))|.ret v=>some v))
def Gx:Nat→(List A5)→Int→Int→Int→(List ((List UInt8)×Int))→Option ((List A2)×Int×Int×Int)
 | 0,_,_,_,_,_=>none
 | n+1,p_l,p_i,p_e,p_at,Al=>(bif (p_e != 0) then(some (([]:List A2),p_i,p_e,p_at)) else((I9 n p_l p_i).bind fun y2=>(bif (y2.2.2.1 != 0) then(some (([]:List A2),p_i,y2.2.2.1,y2.2.2.2)) else((J6 n y2.1).bind fun y5=>(bif y5 then(some (y2.1,y2.2.1,p_e,p_at)) else((D4 n p_l p_i p_e p_at Al).bind fun y8=>(some (([]:List A2),p_i,y8.1,y8.2))))))))
def Ii:Nat→(List A5)→Int→Int→Int→(List ((List UInt8)×Int))→Int→(List UInt8)→(List UInt8)→(List A2)→(List A2)→Bool→Int→Int→Int→Option (Int×Int×Int×(List A2))
 | 0,_,_,_,_,_,_,_,_,_,_,_,_,_,_=>none
 | n+1,Fl,I4,I5,G5,Fm,Dg,Ee,Ef,Hu,Hv,G6,Dh,Di,F6=>((Gx n Fl I4 I5 G5 Fm).bind fun y1=>(some (y1.2.1,y1.2.2.1,y1.2.2.2,y1.1)))
def Ij:Nat→(List A5)→Int→Int→Int→(List ((List UInt8)×Int))→Int→(List UInt8)→(List UInt8)→(List A2)→(List A2)→Bool→Int→Int→Int→Option (Int×Int×Int×(List A2))
 | 0,_,_,_,_,_,_,_,_,_,_,_,_,_,_=>none
 | n+1,Fl,I4,I5,G5,Fm,Dg,Ee,Ef,Hu,Hv,G6,Dh,Di,F6=>((Gx n Fl I4 I5 G5 Fm).bind fun y1=>(some (y1.2.1,y1.2.2.1,y1.2.2.2,y1.1)))
def In:Nat→(List A5)→Int→Int→Int→(List ((List UInt8)×Int))→Int→(List UInt8)→(List UInt8)→(List A2)→(List A2)→Bool→Int→Int→Int→Option (Int×Int×Int×Bool)
 | 0,_,_,_,_,_,_,_,_,_,_,_,_,_,_=>none
 | n+1,Fl,I4,I5,G5,Fm,Dg,Ee,Ef,Hu,Hv,G6,Dh,Di,F6=>((Dd n 3 ([33,61]:List UInt8) Fl I4 I5 G5 Fm).bind fun y1=>(bif y1 then(some (IntKind.i64.wrap (I4+1),I5,G5,true)) else((Bl n ([61,61]:List UInt8) Fl I4 I5 G5 Fm).bind fun y4=>(some (y4.1,y4.2.1,y4.2.2,false)))))
def C5 (n:Nat) (rec_stmt_parser_one:Int→(List A5)→Int→Int→Int→(List ((List UInt8)×Int))→Option ((List A0)×Int×Int×Int)) (F3:Int) (p_l:(List A5)) (Al:(List ((List UInt8)×Int))):Nat→Int→Int→Int→(List A0)→Option (LR (Int×Int×Int×(List A0)) ((List A0)×Int×Int×Int))
 | 0,_,_,_,_=>none
 | k5+1,s1,s2,s3,s4=>(bif (s2==0) then(bif decide (s1<((p_l.length:Nat):Int)) then((Dd n 3 ([125]:List UInt8) p_l s1 s2 s3 Al).bind fun y15=>(bif y15 then(some (.out (s1,s2,s3,s4))) else((rec_stmt_parser_one F3 p_l s1 s2 s3 Al).bind fun y18=>(bif decide ((s4.length+y18.1.length)*121≤140737488355328) then(C5 n rec_stmt_parser_one F3 p_l Al k5 y18.2.1 y18.2.2.1 y18.2.2.2 (s4++y18.1)) else none)))) else(some (.out (s1,s2,s3,s4)))) else(some (.out (s1,s2,s3,s4))))
def B8 (n:Nat)  (p_l:(List A5)) (Al:(List ((List UInt8)×Int))) (x4:A5) (y5:(Bn×Bool)) (y8:Int):Nat→Int→Int→Int→Int→(List UInt8)→(List UInt8)→(List A2)→(List A2)→Bool→Option (LR (Int×Int×Int×(List UInt8)×(List UInt8)×(List A2)×(List A2)×Bool) ((List A0)×Int×Int×Int))
 | 0,_,_,_,_,_,_,_,_,_=>none
 | k24+1,s15,s16,s17,s18,s19,s20,s21,s22,s23=>(bif decide (s15<((y5.1.f_form.length:Nat):Int)) then((idx y5.1.f_form s15).bind fun x33=>(bif decide ((x33.toNat:Int)=114) then(bif (s17==0) then((Io n p_l s16 s17 s18 Al (Bf Al x4.Ac 0) s19 s20 s21 s22 s23 0 0 y8).bind fun y36=>(B8 n p_l Al x4 y5 y8 k24 (IntKind.i64.wrap (s15+1)) y36.1 y36.2.1 y36.2.2.1 y36.2.2.2 s20 s21 s22 s23)) else(bif (decide (0≤(IntKind.i64.wrap (s15+1)))&&decide ((IntKind.i64.wrap (s15+1))≤((y5.1.f_form.length:Nat):Int))&&decide (0≤s15)&&decide (s15≤(IntKind.i64.wrap (s15+1)))) then((Bl n (List.drop (s15.toNat) (List.take ((IntKind.i64.wrap (s15+1)).toNat) y5.1.f_form)) p_l s16 s17 s18 Al).bind fun y39=>(B8 n p_l Al x4 y5 y8 k24 (IntKind.i64.wrap (s15+1)) y39.1 y39.2.1 y39.2.2 s19 s20 s21 s22 s23)) else none)) else(bif decide ((x33.toNat:Int)=108) then(bif (s17==0) then((Il n p_l s16 s17 s18 Al (Bf Al x4.Ac 0) s19 s20 s21 s22 s23 0 0 y8).bind fun y43=>(B8 n p_l Al x4 y5 y8 k24 (IntKind.i64.wrap (s15+1)) y43.1 y43.2.1 y43.2.2.1 s19 y43.2.2.2 s21 s22 s23)) else(bif (decide (0≤(IntKind.i64.wrap (s15+1)))&&decide ((IntKind.i64.wrap (s15+1))≤((y5.1.f_form.length:Nat):Int))&&decide (0≤s15)&&decide (s15≤(IntKind.i64.wrap (s15+1)))) then((Bl n (List.drop (s15.toNat) (List.take ((IntKind.i64.wrap (s15+1)).toNat) y5.1.f_form)) p_l s16 s17 s18 Al).bind fun y46=>(B8 n p_l Al x4 y5 y8 k24 (IntKind.i64.wrap (s15+1)) y46.1 y46.2.1 y46.2.2 s19 s20 s21 s22 s23)) else none)) else(bif decide ((x33.toNat:Int)=101) then(bif (s17==0) then((Ii n p_l s16 s17 s18 Al (Bf Al x4.Ac 0) s19 s20 s21 s22 s23 0 0 y8).bind fun y50=>(B8 n p_l Al x4 y5 y8 k24 (IntKind.i64.wrap (s15+1)) y50.1 y50.2.1 y50.2.2.1 s19 s20 y50.2.2.2 s22 s23)) else(bif (decide (0≤(IntKind.i64.wrap (s15+1)))&&decide ((IntKind.i64.wrap (s15+1))≤((y5.1.f_form.length:Nat):Int))&&decide (0≤s15)&&decide (s15≤(IntKind.i64.wrap (s15+1)))) then((Bl n (List.drop (s15.toNat) (List.take ((IntKind.i64.wrap (s15+1)).toNat) y5.1.f_form)) p_l s16 s17 s18 Al).bind fun y53=>(B8 n p_l Al x4 y5 y8 k24 (IntKind.i64.wrap (s15+1)) y53.1 y53.2.1 y53.2.2 s19 s20 s21 s22 s23)) else none)) else(bif decide ((x33.toNat:Int)=102) then(bif (s17==0) then((Ij n p_l s16 s17 s18 Al (Bf Al x4.Ac 0) s19 s20 s21 s22 s23 0 0 y8).bind fun y57=>(B8 n p_l Al x4 y5 y8 k24 (IntKind.i64.wrap (s15+1)) y57.1 y57.2.1 y57.2.2.1 s19 s20 s21 y57.2.2.2 s23)) else(bif (decide (0≤(IntKind.i64.wrap (s15+1)))&&decide ((IntKind.i64.wrap (s15+1))≤((y5.1.f_form.length:Nat):Int))&&decide (0≤s15)&&decide (s15≤(IntKind.i64.wrap (s15+1)))) then((Bl n (List.drop (s15.toNat) (List.take ((IntKind.i64.wrap (s15+1)).toNat) y5.1.f_form)) p_l s16 s17 s18 Al).bind fun y60=>(B8 n p_l Al x4 y5 y8 k24 (IntKind.i64.wrap (s15+1)) y60.1 y60.2.1 y60.2.2 s19 s20 s21 s22 s23)) else none)) else(bif decide ((x33.toNat:Int)=113) then(bif (s17==0) then((In n p_l s16 s17 s18 Al (Bf Al x4.Ac 0) s19 s20 s21 s22 s23 0 0 y8).bind fun y64=>(B8 n p_l Al x4 y5 y8 k24 (IntKind.i64.wrap (s15+1)) y64.1 y64.2.1 y64.2.2.1 s19 s20 s21 s22 y64.2.2.2)) else(bif (decide (0≤(IntKind.i64.wrap (s15+1)))&&decide ((IntKind.i64.wrap (s15+1))≤((y5.1.f_form.length:Nat):Int))&&decide (0≤s15)&&decide (s15≤(IntKind.i64.wrap (s15+1)))) then((Bl n (List.drop (s15.toNat) (List.take ((IntKind.i64.wrap (s15+1)).toNat) y5.1.f_form)) p_l s16 s17 s18 Al).bind fun y67=>(B8 n p_l Al x4 y5 y8 k24 (IntKind.i64.wrap (s15+1)) y67.1 y67.2.1 y67.2.2 s19 s20 s21 s22 s23)) else none)) else(bif (decide (0≤(IntKind.i64.wrap (s15+1)))&&decide ((IntKind.i64.wrap (s15+1))≤((y5.1.f_form.length:Nat):Int))&&decide (0≤s15)&&decide (s15≤(IntKind.i64.wrap (s15+1)))) then((Bl n (List.drop (s15.toNat) (List.take ((IntKind.i64.wrap (s15+1)).toNat) y5.1.f_form)) p_l s16 s17 s18 Al).bind fun y70=>(B8 n p_l Al x4 y5 y8 k24 (IntKind.i64.wrap (s15+1)) y70.1 y70.2.1 y70.2.2 s19 s20 s21 s22 s23)) else none))))))) else(some (.out (s16,s17,s18,s19,s20,s21,s22,s23))))
mutual
def Bu:Nat→Int→(List A5)→Int→Int→Int→(List ((List UInt8)×Int))→Option ((List A0)×Int×Int×Int)
 | 0,_,_,_,_,_,_=>none
 | n+1,F3,p_l,p_i,p_e,p_at,Al=>(bif (p_e==0) then((Dd n 3 ([123]:List UInt8) p_l p_i p_e p_at Al).bind fun y2=>(bif y2 then(bif decide (30≤F3) then((Ei n p_i p_l p_i p_e p_at Al).bind fun y6=>((Bl n ([123]:List UInt8) p_l p_i 7 y6 Al).bind fun y8=>(((C3 n) (IntKind.i64.wrap (F3+1)) p_l y8.1 y8.2.1 y8.2.2 Al).bind fun y10=>((Bl n ([125]:List UInt8) p_l y10.2.1 y10.2.2.1 y10.2.2.2 Al).bind fun y12=>(some (y10.1,y12.1,y12.2.1,y12.2.2)))))) else((Bl n ([123]:List UInt8) p_l p_i p_e p_at Al).bind fun y14=>(((C3 n) (IntKind.i64.wrap (F3+1)) p_l y14.1 y14.2.1 y14.2.2 Al).bind fun y16=>((Bl n ([125]:List UInt8) p_l y16.2.1 y16.2.2.1 y16.2.2.2 Al).bind fun y18=>(some (y16.1,y18.1,y18.2.1,y18.2.2)))))) else((Bl n ([123]:List UInt8) p_l p_i p_e p_at Al).bind fun y20=>(((C3 n) (IntKind.i64.wrap (F3+1)) p_l y20.1 y20.2.1 y20.2.2 Al).bind fun y22=>((Bl n ([125]:List UInt8) p_l y22.2.1 y22.2.2.1 y22.2.2.2 Al).bind fun y24=>(some (y22.1,y24.1,y24.2.1,y24.2.2))))))) else((Bl n ([123]:List UInt8) p_l p_i p_e p_at Al).bind fun y26=>(((C3 n) (IntKind.i64.wrap (F3+1)) p_l y26.1 y26.2.1 y26.2.2 Al).bind fun y28=>((Bl n ([125]:List UInt8) p_l y28.2.1 y28.2.2.1 y28.2.2.2 Al).bind fun y30=>(some (y28.1,y30.1,y30.2.1,y30.2.2))))))
def C3:Nat→Int→(List A5)→Int→Int→Int→(List ((List UInt8)×Int))→Option ((List A0)×Int×Int×Int)
 | 0,_,_,_,_,_,_=>none
 | n+1,F3,p_l,p_i,p_e,p_at,Al=>((C5 n (Bw n) F3 p_l Al n p_i p_e p_at ([]:List A0)).bind fun o12=>match o12 with|.out (x23,x24,x25,x26)=>(some (x26,x23,x24,x25))|.ret v=>some v)
def Bw:Nat→Int→(List A5)→Int→Int→Int→(List ((List UInt8)×Int))→Option ((List A0)×Int×Int×Int)
 | 0,_,_,_,_,_,_=>none
 | n+1,F3,p_l,p_i,p_e,p_at,Al=>(bif decide (p_i<((p_l.length:Nat):Int)) then((idx p_l p_i).bind fun x2=>(bif (x2.A7==1) then((idx p_l p_i).bind fun x4=>((My n (Bf Al x4.Ac 0)).bind fun y5=>(bif y5.2 then((Ei n p_i p_l p_i p_e p_at Al).bind fun y8=>(Sg n fun n10=>((B8 n p_l Al x4 y5 y8 n 0 (IntKind.i64.wrap (p_i+1)) p_e p_at ([]:List UInt8) ([]:List UInt8) ([]:List A2) ([]:List A2) false).bind fun o31=>match o31 with|.out (x73,x74,x75,x76,x77,x78,x79,x80)=>(bif y5.1.f_body then(((Bu n) F3 p_l x73 x74 x75 Al).bind fun y82=>(bif y5.1.f_more then(bif (y82.2.2.1==0) then((Dd n 1 ([101,108,115,101]:List UInt8) p_l y82.2.1 y82.2.2.1 y82.2.2.2 Al).bind fun y86=>(bif y86 then(((Bu n) F3 p_l (IntKind.i64.wrap (y82.2.1+1)) y82.2.2.1 y82.2.2.2 Al).bind fun y89=>(bif decide (((([(⟨(Bf Al x4.Ac 0),x76,x77,x78,x79,x80,((y82.1.length:Nat):Int),((y89.1.length:Nat):Int),y8⟩:A0)]:List A0)).length+y82.1.length)*121≤140737488355328) then(bif decide ((((([(⟨(Bf Al x4.Ac 0),x76,x77,x78,x79,x80,((y82.1.length:Nat):Int),((y89.1.length:Nat):Int),y8⟩:A0)]:List A0)++y82.1)).length+y89.1.length)*121≤140737488355328) then(some (((([(⟨(Bf Al x4.Ac 0),x76,x77,x78,x79,x80,((y82.1.length:Nat):Int),((y89.1.length:Nat):Int),y8⟩:A0)]:List A0)++y82.1)++y89.1),y89.2.1,y89.2.2.1,y89.2.2.2)) else none) else none)) else(bif decide (((([(⟨(Bf Al x4.Ac 0),x76,x77,x78,x79,x80,((y82.1.length:Nat):Int),0,y8⟩:A0)]:List A0)).length+y82.1.length)*121≤140737488355328) then(bif decide ((((([(⟨(Bf Al x4.Ac 0),x76,x77,x78,x79,x80,((y82.1.length:Nat):Int),0,y8⟩:A0)]:List A0)++y82.1)).length+0)*121≤140737488355328) then(some ((([(⟨(Bf Al x4.Ac 0),x76,x77,x78,x79,x80,((y82.1.length:Nat):Int),0,y8⟩:A0)]:List A0)++y82.1),y82.2.1,y82.2.2.1,y82.2.2.2)) else none) else none))) else(bif decide (((([(⟨(Bf Al x4.Ac 0),x76,x77,x78,x79,x80,((y82.1.length:Nat):Int),0,y8⟩:A0)]:List A0)).length+y82.1.length)*121≤140737488355328) then(bif decide ((((([(⟨(Bf Al x4.Ac 0),x76,x77,x78,x79,x80,((y82.1.length:Nat):Int),0,y8⟩:A0)]:List A0)++y82.1)).length+0)*121≤140737488355328) then(some ((([(⟨(Bf Al x4.Ac 0),x76,x77,x78,x79,x80,((y82.1.length:Nat):Int),0,y8⟩:A0)]:List A0)++y82.1),y82.2.1,y82.2.2.1,y82.2.2.2)) else none) else none)) else(bif decide (((([(⟨(Bf Al x4.Ac 0),x76,x77,x78,x79,x80,((y82.1.length:Nat):Int),0,y8⟩:A0)]:List A0)).length+y82.1.length)*121≤140737488355328) then(bif decide ((((([(⟨(Bf Al x4.Ac 0),x76,x77,x78,x79,x80,((y82.1.length:Nat):Int),0,y8⟩:A0)]:List A0)++y82.1)).length+0)*121≤140737488355328) then(some ((([(⟨(Bf Al x4.Ac 0),x76,x77,x78,x79,x80,((y82.1.length:Nat):Int),0,y8⟩:A0)]:List A0)++y82.1),y82.2.1,y82.2.2.1,y82.2.2.2)) else none) else none))) else(bif y5.1.f_more then(bif (x74==0) then((Dd n 1 ([101,108,115,101]:List UInt8) p_l x73 x74 x75 Al).bind fun y112=>(bif y112 then(((Bu n) F3 p_l (IntKind.i64.wrap (x73+1)) x74 x75 Al).bind fun y115=>(bif decide (((([(⟨(Bf Al x4.Ac 0),x76,x77,x78,x79,x80,0,((y115.1.length:Nat):Int),y8⟩:A0)]:List A0)).length+y115.1.length)*121≤140737488355328) then(some ((([(⟨(Bf Al x4.Ac 0),x76,x77,x78,x79,x80,0,((y115.1.length:Nat):Int),y8⟩:A0)]:List A0)++y115.1),y115.2.1,y115.2.2.1,y115.2.2.2)) else none)) else(some (([(⟨(Bf Al x4.Ac 0),x76,x77,x78,x79,x80,0,0,y8⟩:A0)]:List A0),x73,x74,x75)))) else(some (([(⟨(Bf Al x4.Ac 0),x76,x77,x78,x79,x80,0,0,y8⟩:A0)]:List A0),x73,x74,x75))) else(some (([(⟨(Bf Al x4.Ac 0),x76,x77,x78,x79,x80,0,0,y8⟩:A0)]:List A0),x73,x74,x75))))|.ret v=>some v))) else((D4 n p_l p_i p_e p_at Al).bind fun y134=>(some (([]:List A0),p_i,y134.1,y134.2)))))) else((Pp n ).bind fun y136=>((D4 n p_l p_i p_e p_at Al).bind fun y138=>(some (([]:List A0),p_i,y138.1,y138.2)))))) else((Pp n ).bind fun y140=>((D4 n p_l p_i p_e p_at Al).bind fun y142=>(some (([]:List A0),p_i,y142.1,y142.2)))))
end
def J1 (n:Nat)  (y3:(List Bn)):Nat→Int→(List ((List UInt8)×Int))→Option (LR (List ((List UInt8)×Int)) ((List A0)×Int×Int×Int))
 | 0,_,_=>none
 | k7+1,s5,s6=>(bif decide (s5<((y3.length:Nat):Int)) then((idx y3 s5).bind fun x16=>(bif (x16.f_word==([]:List UInt8)) then(J1 n y3 k7 (IntKind.i64.wrap (s5+1)) s6) else(J1 n y3 k7 (IntKind.i64.wrap (s5+1)) (Re s6 x16.f_word s5)))) else(some (.out s6)))
def Ic:Nat→(List A5)→Int→Option ((List A0)×Int×Int×Int)
 | 0,_,_=>none
 | n+1,Aa,Bb=>(bif decide (Bb<0) then(some (([]:List A0),0,1,0)) else(bif decide (((Aa.length:Nat):Int)<Bb) then(some (([]:List A0),0,1,0)) else((J9 n ).bind fun y3=>((J1 n y3 n 0 ([]:(List ((List UInt8)×Int)))).bind fun o14=>match o14 with|.out x20=>((C3 n 0 Aa Bb 0 0 x20).bind fun y21=>(bif (y21.2.2.1 != 0) then(some (([]:List A0),0,y21.2.2.1,y21.2.2.2)) else(bif decide (200<((y21.1.length:Nat):Int)) then((Ei n Bb Aa y21.2.1 y21.2.2.1 y21.2.2.2 x20).bind fun y25=>(some (([]:List A0),0,2,y25))) else(some (y21.1,y21.2.1,0,0)))))|.ret v=>some v))))
def Nu:Nat→Int→Option Bool
 | 0,_=>none
 | n+1,Ds=>(bif (Ds==10) then(some true) else(bif (Ds==11) then(some true) else(bif (Ds==12) then(some true) else(some false))))
def D9 (n:Nat) (rec_stmt_depth_1:Int→Int→Int→(List A0)→Int→Option (Bool×Int)) (Aa:(List A0)) (Dn:Int) (o0:(List A0)):Nat→Int→Int→Option (LR Int (Bool×Int))
 | 0,_,_=>none
 | k3+1,s1,s2=>(bif decide (s1<Dn) then((idx Aa s1).bind fun x12=>(bif decide (x12.B5<0) then(some (.ret (false,s2))) else(bif decide (x12.Ch<0) then(some (.ret (false,s2))) else(bif decide ((IntKind.i64.wrap ((IntKind.i64.wrap (Dn - s1)) - 1))<x12.B5) then(some (.ret (false,s2))) else(bif decide ((IntKind.i64.wrap ((IntKind.i64.wrap ((IntKind.i64.wrap (Dn - s1)) - 1)) - x12.B5))<x12.Ch) then(some (.ret (false,s2))) else((rec_stmt_depth_1 s1 (IntKind.i64.wrap ((IntKind.i64.wrap (s1+1))+x12.B5)) (IntKind.i64.wrap ((IntKind.i64.wrap ((IntKind.i64.wrap (s1+1))+x12.B5))+x12.Ch)) o0 s2).bind fun y17=>(bif y17.1 then(D9 n rec_stmt_depth_1 Aa Dn o0 k3 (IntKind.i64.wrap ((IntKind.i64.wrap ((IntKind.i64.wrap (s1+1))+x12.B5))+x12.Ch)) y17.2) else(some (.ret (false,y17.2)))))))))) else(some (.out s2)))
mutual
def Ky:Nat→(List A0)→Int→Int→Option Int
 | 0,_,_,_=>none
 | n+1,Aa,E5,Dn=>(((Hi n) Aa E5 Dn Aa 0).bind fun y1=>(bif y1.1 then(some y1.2) else(some (-1))))
def Ho:Nat→Int→Int→Int→(List A0)→Int→Option (Bool×Int)
 | 0,_,_,_,_,_=>none
 | n+1,G7,L8,Ms,o0,o1=>(((Ky n) o0 (IntKind.i64.wrap (G7+1)) L8).bind fun y1=>(((Ky n) o0 L8 Ms).bind fun y3=>((idx o0 G7).bind fun x5=>((Nu n x5.A7).bind fun y6=>(bif y6 then(bif (y1 != (-1)) then(some ((y3 != (-1)),A67 o1 (IntKind.i64.wrap (1+y1)) (IntKind.i64.wrap (1+y3)))) else(some (false,A67 o1 (IntKind.i64.wrap (1+y1)) (IntKind.i64.wrap (1+y3))))) else(bif (y1 != (-1)) then(some ((y3 != (-1)),o1)) else(some (false,o1))))))))
def Hi:Nat→(List A0)→Int→Int→(List A0)→Int→Option (Bool×Int)
 | 0,_,_,_,_,_=>none
 | n+1,Aa,E5,Dn,o0,o1=>((D9 n (Ho n) Aa Dn o0 n E5 o1).bind fun o10=>match o10 with|.out x21=>(some (true,x21))|.ret v=>some v)
end
def R1:Nat→(List A0)→Option Int
 | 0,_=>none
 | n+1,Aa=>((Ky n Aa 0 ((Aa.length:Nat):Int)).bind fun y1=>(some y1))
def Gt (n:Nat)  (Kq:Bn) (Mv:Int):Nat→Int→Option (LR Unit Bool)
 | 0,_=>none
 | k2+1,s1=>(bif decide (s1<((Kq.f_form.length:Nat):Int)) then((idx Kq.f_form s1).bind fun x11=>(bif ((x11.toNat:Int)==Mv) then(some (.ret true)) else(Gt n Kq Mv k2 (IntKind.i64.wrap (s1+1))))) else(some (.out ())))
def El:Nat→Bn→Int→Option Bool
 | 0,_,_=>none
 | n+1,Kq,Mv=>((Gt n Kq Mv n 0).bind fun o9=>match o9 with|.out _=>(some false)|.ret v=>some v)
def Iw:Nat→Int→(List UInt8)→(List UInt8)→(List UInt8)→Bool→Bool→Option Bool
 | 0,_,_,_,_,_,_=>none
 | n+1,G8,Kp,F9,Fa,Fb,Fc=>((El n (⟨F9,Fa,Fb,Fc⟩:Bn) G8).bind fun y1=>(bif y1 then((Dp n Kp).bind fun y4=>(bif y4 then(some true) else((El n (⟨F9,Fa,Fb,Fc⟩:Bn) G8).bind fun y7=>(bif y7 then(some false) else(some (Kp==([]:List UInt8))))))) else((El n (⟨F9,Fa,Fb,Fc⟩:Bn) G8).bind fun y10=>(bif y10 then(some false) else(some (Kp==([]:List UInt8)))))))
def J0:Nat→Int→(List A2)→(List UInt8)→(List UInt8)→Bool→Bool→Option Bool
 | 0,_,_,_,_,_,_=>none
 | n+1,G8,A3a,F9,Fa,Fb,Fc=>((El n (⟨F9,Fa,Fb,Fc⟩:Bn) G8).bind fun y1=>(bif y1 then((J6 n A3a).bind fun y4=>(bif y4 then(some true) else((El n (⟨F9,Fa,Fb,Fc⟩:Bn) G8).bind fun y7=>(bif y7 then(some false) else(some (((A3a.length:Nat):Int)==0)))))) else((El n (⟨F9,Fa,Fb,Fc⟩:Bn) G8).bind fun y10=>(bif y10 then(some false) else(some (((A3a.length:Nat):Int)==0))))))
def Ru:Nat→A0→Option Bool
 | 0,_=>none
 | n+1,B1=>((My n B1.A7).bind fun y1=>(bif y1.2 then(bif decide (B1.Ab<0) then(some false) else(bif B1.Br then((El n y1.1 113).bind fun y6=>(bif y6 then((Iw n 114 B1.Bd y1.1.f_word y1.1.f_form y1.1.f_body y1.1.f_more).bind fun y9=>(bif y9 then((Iw n 108 B1.Be y1.1.f_word y1.1.f_form y1.1.f_body y1.1.f_more).bind fun y12=>(bif y12 then((J0 n 101 B1.Bm y1.1.f_word y1.1.f_form y1.1.f_body y1.1.f_more).bind fun y15=>(bif y15 then((J0 n 102 B1.C6 y1.1.f_word y1.1.f_form y1.1.f_body y1.1.f_more).bind fun y18=>(bif y18 then(bif y1.1.f_body then(bif y1.1.f_more then(some true) else(some (B1.Ch==0))) else(bif (B1.B5==0) then(bif y1.1.f_more then(some true) else(some (B1.Ch==0))) else(some false))) else(some false))) else(some false))) else(some false))) else(some false))) else(some false))) else((Iw n 114 B1.Bd y1.1.f_word y1.1.f_form y1.1.f_body y1.1.f_more).bind fun y25=>(bif y25 then((Iw n 108 B1.Be y1.1.f_word y1.1.f_form y1.1.f_body y1.1.f_more).bind fun y28=>(bif y28 then((J0 n 101 B1.Bm y1.1.f_word y1.1.f_form y1.1.f_body y1.1.f_more).bind fun y31=>(bif y31 then((J0 n 102 B1.C6 y1.1.f_word y1.1.f_form y1.1.f_body y1.1.f_more).bind fun y34=>(bif y34 then(bif y1.1.f_body then(bif y1.1.f_more then(some true) else(some (B1.Ch==0))) else(bif (B1.B5==0) then(bif y1.1.f_more then(some true) else(some (B1.Ch==0))) else(some false))) else(some false))) else(some false))) else(some false))) else(some false))))) else(some false)))
def Iv (n:Nat)  (Aa:(List A0)):Nat→Int→Option (LR Unit Bool)
 | 0,_=>none
 | k7+1,s6=>(bif decide (s6<((Aa.length:Nat):Int)) then((idx Aa s6).bind fun x16=>((Ru n x16).bind fun y17=>(bif y17 then(Iv n Aa k7 (IntKind.i64.wrap (s6+1))) else(some (.ret false))))) else(some (.out ())))
def Nm:Nat→(List A0)→Option Bool
 | 0,_=>none
 | n+1,Aa=>((R1 n Aa).bind fun y1=>(bif (y1==(-1)) then(some false) else(bif decide (30<y1) then(some false) else(bif decide (200<((Aa.length:Nat):Int)) then(some false) else((Iv n Aa n 0).bind fun o14=>match o14 with|.out _=>(some true)|.ret v=>some v)))))
def E0 (n:Nat)  (B1:A0) (y1:(Bn×Bool)):Nat→(List UInt8)→Int→Bool→Option (LR ((List UInt8)×Bool) (List UInt8))
 | 0,_,_,_=>none
 | k6+1,s3,s4,s5=>(bif decide (s4<((y1.1.f_form.length:Nat):Int)) then((idx y1.1.f_form s4).bind fun x15=>(bif ((x15.toNat:Int)==114) then(bif decide ((([32]:List UInt8)).length+B1.Bd.length≤140737488355328) then(bif decide (s3.length+((([32]:List UInt8)++B1.Bd)).length≤140737488355328) then(E0 n B1 y1 k6 (s3++(([32]:List UInt8)++B1.Bd)) (IntKind.i64.wrap (s4+1)) s5) else none) else none) else(bif ((x15.toNat:Int)==108) then(bif decide ((([32]:List UInt8)).length+B1.Be.length≤140737488355328) then(bif decide (s3.length+((([32]:List UInt8)++B1.Be)).length≤140737488355328) then(E0 n B1 y1 k6 (s3++(([32]:List UInt8)++B1.Be)) (IntKind.i64.wrap (s4+1)) s5) else none) else none) else(bif ((x15.toNat:Int)==101) then((Gk n B1.Bm).bind fun y23=>(bif decide ((([32]:List UInt8)).length+y23.length≤140737488355328) then(bif decide (s3.length+((([32]:List UInt8)++y23)).length≤140737488355328) then(E0 n B1 y1 k6 (s3++(([32]:List UInt8)++y23)) (IntKind.i64.wrap (s4+1)) s5) else none) else none)) else(bif ((x15.toNat:Int)==102) then((Gk n B1.C6).bind fun y28=>(bif decide ((([32]:List UInt8)).length+y28.length≤140737488355328) then(bif decide (s3.length+((([32]:List UInt8)++y28)).length≤140737488355328) then(E0 n B1 y1 k6 (s3++(([32]:List UInt8)++y28)) (IntKind.i64.wrap (s4+1)) s5) else none) else none)) else(bif ((x15.toNat:Int)==113) then(bif s5 then(bif decide (s3.length+(([32,33,61]:List UInt8)).length≤140737488355328) then(E0 n B1 y1 k6 (s3++([32,33,61]:List UInt8)) (IntKind.i64.wrap (s4+1)) true) else none) else(bif decide (s3.length+(([32,61,61]:List UInt8)).length≤140737488355328) then(E0 n B1 y1 k6 (s3++([32,61,61]:List UInt8)) (IntKind.i64.wrap (s4+1)) false) else none)) else(bif ((x15.toNat:Int)==61) then(bif decide (s3.length+(([32,61]:List UInt8)).length≤140737488355328) then(E0 n B1 y1 k6 (s3++([32,61]:List UInt8)) (IntKind.i64.wrap (s4+1)) s5) else none) else(bif (decide (0≤(IntKind.i32.wrap ((x15.toNat:Int))))&&decide ((IntKind.i32.wrap ((x15.toNat:Int)))<128)) then(bif decide (s3.length+(([UInt8.ofNat (IntKind.i32.wrap ((x15.toNat:Int))).toNat])).length≤140737488355328) then(E0 n B1 y1 k6 (s3++([UInt8.ofNat (IntKind.i32.wrap ((x15.toNat:Int))).toNat])) (IntKind.i64.wrap (s4+1)) s5) else none) else none)))))))) else(some (.out (s3,s5))))
def Rv:Nat→A0→Option (List UInt8)
 | 0,_=>none
 | n+1,B1=>((My n B1.A7).bind fun y1=>((E0 n B1 y1 n y1.1.f_word 0 B1.Br).bind fun o13=>match o13 with|.out (x41,x42)=>(some x41)|.ret v=>some v))
def Ld (n:Nat)  (Mw:Int):Nat→(List UInt8)→Int→Option (LR (List UInt8) (List UInt8))
 | 0,_,_=>none
 | k3+1,s1,s2=>(bif decide (s2<Mw) then(bif decide (s1.length+(([32,32]:List UInt8)).length≤140737488355328) then(Ld n Mw k3 (s1++([32,32]:List UInt8)) (IntKind.i64.wrap (s2+1))) else none) else(some (.out s1)))
def Oq:Nat→Int→Option (List UInt8)
 | 0,_=>none
 | n+1,Mw=>((Ld n Mw n ([]:List UInt8) 0).bind fun o10=>match o10 with|.out x14=>(some x14)|.ret v=>some v)
def Dt (n:Nat) (rec_stmt_show_1:Int→Int→Int→(List UInt8)→Int→(List A0)→Option (Bool×(List UInt8))) (Aa:(List A0)) (Dn:Int) (o1:Int) (o2:(List A0)):Nat→Int→(List UInt8)→Option (LR (List UInt8) (Bool×(List UInt8)))
 | 0,_,_=>none
 | k3+1,s1,s2=>(bif decide (s1<Dn) then((idx Aa s1).bind fun x12=>(bif decide (x12.B5<0) then(some (.ret (false,s2))) else(bif decide (x12.Ch<0) then(some (.ret (false,s2))) else(bif decide ((IntKind.i64.wrap ((IntKind.i64.wrap (Dn - s1)) - 1))<x12.B5) then(some (.ret (false,s2))) else(bif decide ((IntKind.i64.wrap ((IntKind.i64.wrap ((IntKind.i64.wrap (Dn - s1)) - 1)) - x12.B5))<x12.Ch) then(some (.ret (false,s2))) else((rec_stmt_show_1 s1 (IntKind.i64.wrap ((IntKind.i64.wrap (s1+1))+x12.B5)) (IntKind.i64.wrap ((IntKind.i64.wrap ((IntKind.i64.wrap (s1+1))+x12.B5))+x12.Ch)) s2 o1 o2).bind fun y17=>(bif y17.1 then(Dt n rec_stmt_show_1 Aa Dn o1 o2 k3 (IntKind.i64.wrap ((IntKind.i64.wrap ((IntKind.i64.wrap (s1+1))+x12.B5))+x12.Ch)) y17.2) else(some (.ret (false,y17.2)))))))))) else(some (.out s2)))
mutual
def Kl:Nat→(List A0)→Int→Int→Int→Option (List UInt8)
 | 0,_,_,_,_=>none
 | n+1,Aa,E5,Dn,W5=>(((Gw n) Aa E5 Dn ([]:List UInt8) W5 Aa).bind fun y1=>(some y1.2))
def Jm:Nat→Int→Int→Int→(List UInt8)→Int→(List A0)→Option (Bool×(List UInt8))
 | 0,_,_,_,_,_,_=>none
 | n+1,G7,L8,Ms,o0,o1,o2=>((Oq n o1).bind fun y1=>((idx o2 G7).bind fun x3=>((Rv n x3).bind fun y4=>(bif decide (y1.length+y4.length≤140737488355328) then(bif decide (o0.length+((y1++y4)).length≤140737488355328) then((idx o2 G7).bind fun x8=>((Nu n x8.A7).bind fun y9=>(bif y9 then(((Kl n) o2 (IntKind.i64.wrap (G7+1)) L8 (IntKind.i64.wrap (o1+1))).bind fun y12=>(bif decide ((([32,123,10]:List UInt8)).length+y12.length≤140737488355328) then((Oq n o1).bind fun y15=>(bif decide (((([32,123,10]:List UInt8)++y12)).length+y15.length≤140737488355328) then(bif decide (((o0++(y1++y4))).length+(((([32,123,10]:List UInt8)++y12)++y15)).length≤140737488355328) then(bif decide (L8<Ms) then(((Kl n) o2 L8 Ms (IntKind.i64.wrap (o1+1))).bind fun y20=>(bif decide ((([125,32,101,108,115,101,32,123,10]:List UInt8)).length+y20.length≤140737488355328) then((Oq n o1).bind fun y23=>(bif decide (((([125,32,101,108,115,101,32,123,10]:List UInt8)++y20)).length+y23.length≤140737488355328) then(bif decide ((((o0++(y1++y4))++((([32,123,10]:List UInt8)++y12)++y15))).length+(((([125,32,101,108,115,101,32,123,10]:List UInt8)++y20)++y23)).length≤140737488355328) then(bif decide (((((o0++(y1++y4))++((([32,123,10]:List UInt8)++y12)++y15))++((([125,32,101,108,115,101,32,123,10]:List UInt8)++y20)++y23))).length+(([125]:List UInt8)).length≤140737488355328) then(bif decide ((((((o0++(y1++y4))++((([32,123,10]:List UInt8)++y12)++y15))++((([125,32,101,108,115,101,32,123,10]:List UInt8)++y20)++y23))++([125]:List UInt8))).length+(([10]:List UInt8)).length≤140737488355328) then(some (true,(((((o0++(y1++y4))++((([32,123,10]:List UInt8)++y12)++y15))++((([125,32,101,108,115,101,32,123,10]:List UInt8)++y20)++y23))++([125]:List UInt8))++([10]:List UInt8)))) else none) else none) else none) else none)) else none)) else(bif decide ((((o0++(y1++y4))++((([32,123,10]:List UInt8)++y12)++y15))).length+(([125]:List UInt8)).length≤140737488355328) then(bif decide (((((o0++(y1++y4))++((([32,123,10]:List UInt8)++y12)++y15))++([125]:List UInt8))).length+(([10]:List UInt8)).length≤140737488355328) then(some (true,((((o0++(y1++y4))++((([32,123,10]:List UInt8)++y12)++y15))++([125]:List UInt8))++([10]:List UInt8)))) else none) else none)) else none) else none)) else none)) else(bif decide (((o0++(y1++y4))).length+(([10]:List UInt8)).length≤140737488355328) then(some (true,((o0++(y1++y4))++([10]:List UInt8)))) else none)))) else none) else none))))
def Gw:Nat→(List A0)→Int→Int→(List UInt8)→Int→(List A0)→Option (Bool×(List UInt8))
 | 0,_,_,_,_,_,_=>none
 | n+1,Aa,E5,Dn,o0,o1,o2=>((Dt n (Jm n) Aa Dn o1 o2 n E5 o0).bind fun o10=>match o10 with|.out x21=>(some (true,x21))|.ret v=>some v)
end
def O4:Nat→(List A0)→Int→Option (List UInt8)
 | 0,_,_=>none
 | n+1,Aa,Te=>(bif decide (Te<0) then(some ([]:List UInt8)) else(bif decide (100<Te) then(some ([]:List UInt8)) else((Nm n Aa).bind fun y3=>(bif y3 then((Kl n Aa 0 ((Aa.length:Nat):Int) Te).bind fun y6=>(some y6)) else(some ([]:List UInt8))))))
def O8 (n:Nat)  (At:Az):Nat→Int→Option (LR Unit Bool)
 | 0,_=>none
 | k5+1,s4=>(bif decide (s4<((At.B0.length:Nat):Int)) then((idx At.B0 s4).bind fun x14=>(bif decide (100<((x14.Ao.length:Nat):Int)) then(some (.ret false)) else(O8 n At k5 (IntKind.i64.wrap (s4+1))))) else(some (.out ())))
def Oa (n:Nat)  (x27:Ae):Nat→Int→Option (LR Unit Bool)
 | 0,_=>none
 | k34+1,s33=>(bif decide (s33<((x27.Bh.length:Nat):Int)) then((idx x27.Bh s33).bind fun x43=>(bif decide (100<((x43.length:Nat):Int)) then(some (.ret false)) else(Oa n x27 k34 (IntKind.i64.wrap (s33+1))))) else(some (.out ())))
def Om (n:Nat)  (At:Az):Nat→Int→Option (LR Unit Bool)
 | 0,_=>none
 | k18+1,s17=>(bif decide (s17<((At.Ak.length:Nat):Int)) then((idx At.Ak s17).bind fun x27=>(bif decide (100<((x27.Ao.length:Nat):Int)) then(some (.ret false)) else(bif decide (20<((x27.Bh.length:Nat):Int)) then(some (.ret false)) else((X5 n x27.B5).bind fun y30=>(bif y30 then((Oa n x27 n 0).bind fun o41=>match o41 with|.out _=>(Om n At k18 (IntKind.i64.wrap (s17+1)))|.ret v=>some (.ret v)) else(some (.ret false))))))) else(some (.out ())))
def Oe (n:Nat)  (At:Az):Nat→Int→Option (LR Unit Bool)
 | 0,_=>none
 | k49+1,s48=>(bif decide (s48<((At.Ar.length:Nat):Int)) then((idx At.Ar s48).bind fun x58=>((Sm n x58.Bm).bind fun y59=>(bif y59 then(Oe n At k49 (IntKind.i64.wrap (s48+1))) else(some (.ret false))))) else(some (.out ())))
def X2:Nat→Az→Option Bool
 | 0,_=>none
 | n+1,At=>(bif decide (20<((At.B0.length:Nat):Int)) then(some false) else(bif decide (8<((At.Ak.length:Nat):Int)) then(some false) else(bif decide (12<((At.Ar.length:Nat):Int)) then(some false) else((O8 n At n 0).bind fun o12=>match o12 with|.out _=>((Om n At n 0).bind fun o25=>match o25 with|.out _=>((Oe n At n 0).bind fun o56=>match o56 with|.out _=>(some true)|.ret v=>some v)|.ret v=>some v)|.ret v=>some v))))
def Fw (n:Nat)  (Bp:Az) (Bt:Az):Nat→Bool→Int→Option (LR Bool Bool)
 | 0,_,_=>none
 | k7+1,s5,s6=>(bif decide (s6<((Bp.B0.length:Nat):Int)) then((idx Bp.B0 s6).bind fun x16=>((idx Bt.B0 s6).bind fun x17=>(bif (x16.Ao==x17.Ao) then((idx Bp.B0 s6).bind fun x19=>((idx Bt.B0 s6).bind fun x20=>(bif (x19.Bs != x20.Bs) then(some (.ret false)) else(bif s5 then((idx Bp.B0 s6).bind fun x23=>((idx Bt.B0 s6).bind fun x24=>(bif (x23.Ab != x24.Ab) then(some (.ret false)) else(Fw n Bp Bt k7 true (IntKind.i64.wrap (s6+1)))))) else(Fw n Bp Bt k7 false (IntKind.i64.wrap (s6+1))))))) else(some (.ret false))))) else(some (.out s5)))
def Gm (n:Nat)  (x39:Ae) (x40:Ae):Nat→Int→Option (LR Unit Bool)
 | 0,_=>none
 | k49+1,s48=>(bif decide (s48<((x39.Bh.length:Nat):Int)) then((idx x39.Bh s48).bind fun x58=>((idx x40.Bh s48).bind fun x59=>(bif (x58==x59) then(Gm n x39 x40 k49 (IntKind.i64.wrap (s48+1))) else(some (.ret false))))) else(some (.out ())))
def Gn (n:Nat)  (x39:Ae) (x40:Ae):Nat→Int→Option (LR Unit Bool)
 | 0,_=>none
 | k64+1,s63=>(bif decide (s63<((x39.Bh.length:Nat):Int)) then((idx x39.Bh s63).bind fun x73=>((idx x40.Bh s63).bind fun x74=>(bif (x73==x74) then(Gn n x39 x40 k64 (IntKind.i64.wrap (s63+1))) else(some (.ret false))))) else(some (.out ())))
def Fx (n:Nat)  (Bp:Az) (Bt:Az):Nat→Bool→Int→Option (LR Bool Bool)
 | 0,_,_=>none
 | k30+1,s28,s29=>(bif decide (s29<((Bp.Ak.length:Nat):Int)) then((idx Bp.Ak s29).bind fun x39=>((idx Bt.Ak s29).bind fun x40=>(bif (x39.Ao==x40.Ao) then(bif (((x39.Bh.length:Nat):Int) != ((x40.Bh.length:Nat):Int)) then(some (.ret false)) else((O2 n x39.B5 x40.B5 s28).bind fun y43=>(bif y43 then(bif s28 then(bif (x39.Ab != x40.Ab) then(some (.ret false)) else((Gm n x39 x40 n 0).bind fun o56=>match o56 with|.out _=>(Fx n Bp Bt k30 true (IntKind.i64.wrap (s29+1)))|.ret v=>some (.ret v))) else((Gn n x39 x40 n 0).bind fun o71=>match o71 with|.out _=>(Fx n Bp Bt k30 false (IntKind.i64.wrap (s29+1)))|.ret v=>some (.ret v))) else(some (.ret false))))) else(some (.ret false))))) else(some (.out s28)))
def Fy (n:Nat)  (Bp:Az) (Bt:Az):Nat→Bool→Int→Option (LR Unit Bool)
 | 0,_,_=>none
 | k82+1,s80,s81=>(bif decide (s81<((Bp.Ar.length:Nat):Int)) then((idx Bp.Ar s81).bind fun x91=>((idx Bt.Ar s81).bind fun x92=>(bif (x91.A7 != x92.A7) then(some (.ret false)) else((idx Bp.Ar s81).bind fun x94=>((idx Bt.Ar s81).bind fun x95=>((Hh n x94.Bm x95.Bm s80).bind fun y96=>(bif y96 then(bif s80 then((idx Bp.Ar s81).bind fun x100=>((idx Bt.Ar s81).bind fun x101=>(bif (x100.Ab != x101.Ab) then(some (.ret false)) else(Fy n Bp Bt k82 true (IntKind.i64.wrap (s81+1)))))) else(Fy n Bp Bt k82 false (IntKind.i64.wrap (s81+1)))) else(some (.ret false))))))))) else(some (.out ())))
def O0:Nat→Az→Az→Bool→Option Bool
 | 0,_,_,_=>none
 | n+1,Bp,Bt,Er=>(bif (Bp.Bo != Bt.Bo) then(some false) else(bif (((Bp.B0.length:Nat):Int) != ((Bt.B0.length:Nat):Int)) then(some false) else(bif (((Bp.Ak.length:Nat):Int) != ((Bt.Ak.length:Nat):Int)) then(some false) else(bif (((Bp.Ar.length:Nat):Int) != ((Bt.Ar.length:Nat):Int)) then(some false) else((Fw n Bp Bt n Er 0).bind fun o14=>match o14 with|.out x27=>((Fx n Bp Bt n x27 0).bind fun o37=>match o37 with|.out x79=>((Fy n Bp Bt n x79 0).bind fun o89=>match o89 with|.out _=>(some true)|.ret v=>some v)|.ret v=>some v)|.ret v=>some v)))))
set_option linter.unusedVariables false
set_option linter.unusedSimpArgs false
set_option maxRecDepth 100000
set_option maxHeartbeats 4000000
def Mr (n:Nat) :Nat→Int→(List A2)→Option (LR (List A2) (List A2))
 | 0,_,_=>none
 | k5+1,s3,s4=>(bif decide (s3<(((([]:List A2)).length:Nat):Int)) then((idx s4 s3).bind fun x14=>(Mr n k5 (IntKind.i64.wrap (s3+1)) (List.set s4 s3.toNat (⟨x14.B3,x14.Bs,x14.Ao,x14.Cq,0⟩:A2)))) else(some (.out s4)))
def Mj (n:Nat)  (Aa:(List A2)):Nat→Int→(List A2)→Option (LR (List A2) (List A2))
 | 0,_,_=>none
 | k21+1,s19,s20=>(bif decide (s19<((Aa.length:Nat):Int)) then((idx s20 s19).bind fun x30=>(Mj n Aa k21 (IntKind.i64.wrap (s19+1)) (List.set s20 s19.toNat (⟨x30.B3,x30.Bs,x30.Ao,x30.Cq,0⟩:A2)))) else(some (.out s20)))
def Nw:Nat→(List A2)→Option (List A2)
 | 0,_=>none
 | n+1,Aa=>(bif decide (Aa.length*57≤140737488355328) then(bif decide (Aa.length=0) then((Mr n n 0 ([]:List A2)).bind fun o12=>match o12 with|.out x17=>(some x17)|.ret v=>some v) else((Mj n Aa n 0 Aa).bind fun o28=>match o28 with|.out x33=>(some x33)|.ret v=>some v)) else none)
def Nk (n:Nat)  (At:Az):Nat→Int→(List Aw)→Option (LR (List Aw) Az)
 | 0,_,_=>none
 | k3+1,s1,s2=>(bif decide (s1<((At.B0.length:Nat):Int)) then((idx At.B0 s1).bind fun x12=>(bif decide ((s2.length+1)*33≤140737488355328) then(Nk n At k3 (IntKind.i64.wrap (s1+1)) (s2++([(⟨x12.Ao,x12.Bs,0⟩:Aw)]:List Aw))) else none)) else(some (.out s2)))
def O3 (n:Nat)  (x28:Ae):Nat→Int→(List A0)→Option (LR (List A0) Az)
 | 0,_,_=>none
 | k32+1,s30,s31=>(bif decide (s30<((x28.B5.length:Nat):Int)) then((idx x28.B5 s30).bind fun x41=>((Nw n x41.Bm).bind fun y42=>((Nw n x41.C6).bind fun y44=>(bif decide ((s31.length+1)*121≤140737488355328) then(O3 n x28 k32 (IntKind.i64.wrap (s30+1)) (s31++([(⟨x41.A7,x41.Bd,x41.Be,y42,y44,x41.Br,x41.B5,x41.Ch,0⟩:A0)]:List A0))) else none)))) else(some (.out s31)))
def Ny (n:Nat)  (At:Az):Nat→Int→(List Ae)→Option (LR (List Ae) Az)
 | 0,_,_=>none
 | k19+1,s17,s18=>(bif decide (s17<((At.Ak.length:Nat):Int)) then((idx At.Ak s17).bind fun x28=>(bif decide (x28.Bh.length*17≤140737488355328) then((O3 n x28 n 0 ([]:List A0)).bind fun o39=>match o39 with|.out x49=>(bif decide ((s18.length+1)*73≤140737488355328) then(Ny n At k19 (IntKind.i64.wrap (s17+1)) (s18++([(⟨x28.Ao,x28.Bh,x49,0⟩:Ae)]:List Ae))) else none)|.ret v=>some (.ret v)) else none)) else(some (.out s18)))
def Nn (n:Nat)  (At:Az):Nat→Int→(List Ag)→Option (LR (List Ag) Az)
 | 0,_,_=>none
 | k57+1,s55,s56=>(bif decide (s55<((At.Ar.length:Nat):Int)) then((idx At.Ar s55).bind fun x66=>((Nw n x66.Bm).bind fun y67=>(bif decide ((s56.length+1)*41≤140737488355328) then(Nn n At k57 (IntKind.i64.wrap (s55+1)) (s56++([(⟨x66.A7,y67,0⟩:Ag)]:List Ag))) else none))) else(some (.out s56)))
def Uy:Nat→Az→Option Az
 | 0,_=>none
 | n+1,At=>((Nk n At n 0 ([]:List Aw)).bind fun o10=>match o10 with|.out x16=>((Ny n At n 0 ([]:List Ae)).bind fun o26=>match o26 with|.out x54=>((Nn n At n 0 ([]:List Ag)).bind fun o64=>match o64 with|.out x72=>(some (⟨At.Bo,x16,x54,x72⟩:Az))|.ret v=>some v)|.ret v=>some v)|.ret v=>some v)
def Cf:Nat→Int→Int→(List A5)→Int→Int→Int→Option (Int×Int)
 | 0,_,_,_,_,_,_=>none
 | n+1,Q7,Ih,p_l,p_i,p_e,p_at=>(bif (p_e==0) then(some (Q7,Ih)) else(some (p_e,p_at)))
def T6:Nat→A5→Int→(List UInt8)→Option Bool
 | 0,_,_,_=>none
 | n+1,En,o0,o1=>(bif (En.A7==o0) then(some (En.Ac==o1)) else(some false))
def D3:Nat→(List A5)→Int→Int→Int→Int→(List UInt8)→Option (A5×Bool×Int)
 | 0,_,_,_,_,_,_=>none
 | n+1,p_l,p_i,p_e,p_at,o1,o2=>(bif (p_e != 0) then(some ((⟨0,([]:List UInt8),0,0⟩:A5),false,p_i)) else(bif decide (((p_l.length:Nat):Int)≤p_i) then(some ((⟨0,([]:List UInt8),0,0⟩:A5),false,p_i)) else((idx p_l p_i).bind fun x3=>((T6 n x3 o1 o2).bind fun y4=>(bif y4 then((idx p_l (IntKind.i64.wrap ((IntKind.i64.wrap (p_i+1)) - 1))).bind fun x7=>(some (x7,true,IntKind.i64.wrap (p_i+1)))) else(some ((⟨0,([]:List UInt8),0,0⟩:A5),false,p_i)))))))
def Dk:Nat→(List A5)→Int→Int→Int→Option (Int×Int)
 | 0,_,_,_,_=>none
 | n+1,p_l,p_i,p_e,p_at=>(bif decide (p_i<((p_l.length:Nat):Int)) then((idx p_l p_i).bind fun x2=>((Cf n 5 x2.Ab p_l p_i p_e p_at).bind fun y3=>(some (y3.1,y3.2)))) else(bif decide (0<((p_l.length:Nat):Int)) then((idx p_l (IntKind.i64.wrap (((p_l.length:Nat):Int) - 1))).bind fun x6=>((idx p_l (IntKind.i64.wrap (((p_l.length:Nat):Int) - 1))).bind fun x7=>((Cf n 6 (IntKind.i64.wrap (x6.Ab+((x7.Ac.length:Nat):Int))) p_l p_i p_e p_at).bind fun y8=>(some (y8.1,y8.2))))) else((Cf n 6 0 p_l p_i p_e p_at).bind fun y10=>(some (y10.1,y10.2)))))
def Gz:Nat→(List A5)→Int→Int→Int→Int→(List UInt8)→Option (A5×Int×Int×Int)
 | 0,_,_,_,_,_,_=>none
 | n+1,p_l,p_i,p_e,p_at,o1,o2=>((D3 n p_l p_i p_e p_at o1 o2).bind fun y1=>(bif y1.2.1 then(some (y1.1,y1.2.2,p_e,p_at)) else((Dk n p_l y1.2.2 p_e p_at).bind fun y4=>(some (y1.1,y1.2.2,y4.1,y4.2)))))
def By:Nat→(List UInt8)→(List A5)→Int→Int→Int→Option (Int×Int×Int)
 | 0,_,_,_,_,_=>none
 | n+1,Kp,p_l,p_i,p_e,p_at=>(Sg n fun n1=>((Gz n p_l p_i p_e p_at 3 Kp).bind fun y6=>(some (y6.2.1,y6.2.2.1,y6.2.2.2))))
def Hm (n:Nat) :Nat→Option (LR Unit (Ag×Int×Int×Int))
 | 0=>none
 | k5+1=>(some (.out ()))
def Df (n:Nat)  (y1:((List A2)×Int×Int×Int)):Nat→Int→(List A2)→Option (LR (List A2) (Ag×Int×Int×Int))
 | 0,_,_=>none
 | k24+1,s22,s23=>(bif decide (s22<((y1.1.length:Nat):Int)) then((idx s23 s22).bind fun x33=>(bif (x33.B3==2) then((idx s23 s22).bind fun x35=>(Df n y1 k24 (IntKind.i64.wrap (s22+1)) (List.set s23 s22.toNat (⟨3,x35.Bs,x35.Ao,x35.Cq,x35.Ab⟩:A2)))) else(Df n y1 k24 (IntKind.i64.wrap (s22+1)) s23))) else(some (.out s23)))
def I0:Nat→Int→Int→(List A5)→Int→Int→Int→Option (Ag×Int×Int×Int)
 | 0,_,_,_,_,_,_=>none
 | n+1,E4,Ih,p_l,p_i,p_e,p_at=>((I9 n p_l p_i).bind fun y1=>(bif decide (y1.1.length=0) then((Cf n y1.2.2.1 y1.2.2.2 p_l p_i p_e p_at).bind fun y3=>((Hm n n).bind fun o12=>match o12 with|.out _=>(bif (y3.1==0) then((By n ([59]:List UInt8) p_l y1.2.1 y3.1 y3.2).bind fun y15=>(some ((⟨E4,([]:List A2),Ih⟩:Ag),y15.1,y15.2.1,y15.2.2))) else((By n ([59]:List UInt8) p_l p_i y3.1 y3.2).bind fun y17=>(some ((⟨E4,([]:List A2),Ih⟩:Ag),y17.1,y17.2.1,y17.2.2))))|.ret v=>some v)) else((Cf n y1.2.2.1 y1.2.2.2 p_l p_i p_e p_at).bind fun y20=>((Df n y1 n 0 y1.1).bind fun o31=>match o31 with|.out x38=>(bif (y20.1==0) then((By n ([59]:List UInt8) p_l y1.2.1 y20.1 y20.2).bind fun y40=>(some ((⟨E4,x38,Ih⟩:Ag),y40.1,y40.2.1,y40.2.2))) else((By n ([59]:List UInt8) p_l p_i y20.1 y20.2).bind fun y42=>(some ((⟨E4,x38,Ih⟩:Ag),y42.1,y42.2.1,y42.2.2))))|.ret v=>some v))))
def Px:Nat→A5→Option Bool
 | 0,_=>none
 | n+1,En=>(some (En.A7==2))
def Hk:Nat→(List A5)→Int→Int→Int→Option (A5×Bool×Int)
 | 0,_,_,_,_=>none
 | n+1,p_l,p_i,p_e,p_at=>(bif (p_e != 0) then(some ((⟨0,([]:List UInt8),0,0⟩:A5),false,p_i)) else(bif decide (((p_l.length:Nat):Int)≤p_i) then(some ((⟨0,([]:List UInt8),0,0⟩:A5),false,p_i)) else((idx p_l p_i).bind fun x3=>((Px n x3).bind fun y4=>(bif y4 then((idx p_l (IntKind.i64.wrap ((IntKind.i64.wrap (p_i+1)) - 1))).bind fun x7=>(some (x7,true,IntKind.i64.wrap (p_i+1)))) else(some ((⟨0,([]:List UInt8),0,0⟩:A5),false,p_i)))))))
def G4:Nat→(List A5)→Int→Int→Int→Option (A5×Int×Int×Int)
 | 0,_,_,_,_=>none
 | n+1,p_l,p_i,p_e,p_at=>((Hk n p_l p_i p_e p_at).bind fun y1=>(bif y1.2.1 then(some (y1.1,y1.2.2,p_e,p_at)) else((Dk n p_l y1.2.2 p_e p_at).bind fun y4=>(some (y1.1,y1.2.2,y4.1,y4.2)))))
def Rw:Nat→A5→Option Bool
 | 0,_=>none
 | n+1,En=>(bif (En.A7==1) then((Dp n En.Ac).bind fun y2=>(some y2)) else(some false))
def Hj:Nat→(List A5)→Int→Int→Int→Option (A5×Bool×Int)
 | 0,_,_,_,_=>none
 | n+1,p_l,p_i,p_e,p_at=>(bif (p_e != 0) then(some ((⟨0,([]:List UInt8),0,0⟩:A5),false,p_i)) else(bif decide (((p_l.length:Nat):Int)≤p_i) then(some ((⟨0,([]:List UInt8),0,0⟩:A5),false,p_i)) else((idx p_l p_i).bind fun x3=>((Rw n x3).bind fun y4=>(bif y4 then((idx p_l (IntKind.i64.wrap ((IntKind.i64.wrap (p_i+1)) - 1))).bind fun x7=>(some (x7,true,IntKind.i64.wrap (p_i+1)))) else(some ((⟨0,([]:List UInt8),0,0⟩:A5),false,p_i)))))))
def F2:Nat→(List A5)→Int→Int→Int→Option (A5×Int×Int×Int)
 | 0,_,_,_,_=>none
 | n+1,p_l,p_i,p_e,p_at=>((Hj n p_l p_i p_e p_at).bind fun y1=>(bif y1.2.1 then(some (y1.1,y1.2.2,p_e,p_at)) else((Dk n p_l y1.2.2 p_e p_at).bind fun y4=>(some (y1.1,y1.2.2,y4.1,y4.2)))))
def J8:Nat→Int→(List A5)→Int→Int→Int→Option (Aw×Int×Int×Int)
 | 0,_,_,_,_,_=>none
 | n+1,Dc,p_l,p_i,p_e,p_at=>((F2 n p_l p_i p_e p_at).bind fun y1=>((By n ([61]:List UInt8) p_l y1.2.1 y1.2.2.1 y1.2.2.2).bind fun y3=>((G4 n p_l y3.1 y3.2.1 y3.2.2).bind fun y5=>((By n ([59]:List UInt8) p_l y5.2.1 y5.2.2.1 y5.2.2.2).bind fun y7=>(some ((⟨y1.1.Ac,y5.1.Bs,Dc⟩:Aw),y7.1,y7.2.1,y7.2.2))))))
def Dj (n:Nat)  (p_l:(List A5)):Nat→Bool→Int→Int→Int→(List (List UInt8))→Option (LR (Int×Int×Int×(List (List UInt8))) (Ae×Int×Int×Int))
 | 0,_,_,_,_,_=>none
 | k18+1,s13,s14,s15,s16,s17=>(bif s13 then((F2 n p_l s14 s15 s16).bind fun y27=>(bif decide ((s17.length+1)*17≤140737488355328) then(Sg n fun n31=>((D3 n p_l y27.2.1 y27.2.2.1 y27.2.2.2 3 ([44]:List UInt8)).bind fun y36=>(Dj n p_l k18 y36.2.1 y36.2.2 y27.2.2.1 y27.2.2.2 (s17++([y27.1.Ac]:List (List UInt8)))))) else none)) else(some (.out (s14,s15,s16,s17))))
def Hl:Nat→Int→(List A5)→Int→Int→Int→Option (Ae×Int×Int×Int)
 | 0,_,_,_,_,_=>none
 | n+1,Dc,p_l,p_i,p_e,p_at=>((F2 n p_l p_i p_e p_at).bind fun y1=>((By n ([123]:List UInt8) p_l y1.2.1 y1.2.2.1 y1.2.2.2).bind fun y3=>(Sg n fun n5=>((D3 n p_l y3.1 y3.2.1 y3.2.2 1 ([114,101,103]:List UInt8)).bind fun y10=>(bif y10.2.1 then((Dj n p_l n true y10.2.2 y3.2.1 y3.2.2 ([]:List (List UInt8))).bind fun o25=>match o25 with|.out (x39,x40,x41,x42)=>((By n ([59]:List UInt8) p_l x39 x40 x41).bind fun y43=>(bif (y43.2.1 != 0) then(some ((⟨y1.1.Ac,x42,([]:List A0),Dc⟩:Ae),y43.1,y43.2.1,y43.2.2)) else((Ic n p_l y43.1).bind fun y46=>((Cf n y46.2.2.1 y46.2.2.2 p_l y43.1 y43.2.1 y43.2.2).bind fun y48=>(bif (y48.1==0) then((By n ([125]:List UInt8) p_l y46.2.1 y48.1 y48.2).bind fun y51=>(some ((⟨y1.1.Ac,x42,y46.1,Dc⟩:Ae),y51.1,y51.2.1,y51.2.2))) else((By n ([125]:List UInt8) p_l y43.1 y48.1 y48.2).bind fun y53=>(some ((⟨y1.1.Ac,x42,y46.1,Dc⟩:Ae),y53.1,y53.2.1,y53.2.2))))))))|.ret v=>some v) else(bif (y3.2.1 != 0) then(some ((⟨y1.1.Ac,([]:List (List UInt8)),([]:List A0),Dc⟩:Ae),y10.2.2,y3.2.1,y3.2.2)) else((Ic n p_l y10.2.2).bind fun y57=>((Cf n y57.2.2.1 y57.2.2.2 p_l y10.2.2 y3.2.1 y3.2.2).bind fun y59=>(bif (y59.1==0) then((By n ([125]:List UInt8) p_l y57.2.1 y59.1 y59.2).bind fun y62=>(some ((⟨y1.1.Ac,([]:List (List UInt8)),y57.1,Dc⟩:Ae),y62.1,y62.2.1,y62.2.2))) else((By n ([125]:List UInt8) p_l y10.2.2 y59.1 y59.2).bind fun y64=>(some ((⟨y1.1.Ac,([]:List (List UInt8)),y57.1,Dc⟩:Ae),y64.1,y64.2.1,y64.2.2))))))))))))
def Km:Nat→Int→Option (List UInt8)
 | 0,_=>none
 | n+1,Ds=>(bif (Ds==1) then(some ([102,111,114,97,108,108]:List UInt8)) else(bif (Ds==2) then(some ([101,120,105,115,116,115]:List UInt8)) else(bif (Ds==3) then(some ([97,108,119,97,121,115]:List UInt8)) else(some ([]:List UInt8)))))
def Ix (n:Nat)  (y1:((List A5)×Int×Int)):Nat→Bool→Int→Int→Int→Int→(List UInt8)→Int→Int→(List Aw)→Option (LR (Int×Int×Int×Int×(List UInt8)×Int×Int×(List Aw)) (Az×Int×Int))
 | 0,_,_,_,_,_,_,_,_,_=>none
 | k31+1,s22,s23,s24,s25,s26,s27,s28,s29,s30=>(bif s22 then((J8 n s29 y1.1 s23 s24 s25).bind fun y40=>(bif decide ((s30.length+1)*33≤140737488355328) then(Sg n fun n44=>((D3 n y1.1 y40.2.1 y40.2.2.1 y40.2.2.2 1 ([108,111,99]:List UInt8)).bind fun y49=>(Ix n y1 k31 y49.2.1 y49.2.2 y40.2.2.1 y40.2.2.2 y49.1.A7 y49.1.Ac y49.1.Bs y49.1.Ab (s30++([y40.1]:List Aw))))) else none)) else(some (.out (s23,s24,s25,s26,s27,s28,s29,s30))))
def Iy (n:Nat)  (y1:((List A5)×Int×Int)):Nat→Bool→Int→Int→Int→(List Ae)→Int→(List UInt8)→Int→Int→Option (LR (Int×Int×Int×Int×(List UInt8)×Int×Int×(List Ae)) (Az×Int×Int))
 | 0,_,_,_,_,_,_,_,_,_=>none
 | k76+1,s67,s68,s69,s70,s71,s72,s73,s74,s75=>(bif s67 then((Hl n s75 y1.1 s68 s69 s70).bind fun y85=>(bif decide ((s71.length+1)*73≤140737488355328) then(Sg n fun n89=>((D3 n y1.1 y85.2.1 y85.2.2.1 y85.2.2.2 1 ([116,104,114,101,97,100]:List UInt8)).bind fun y94=>(Iy n y1 k76 y94.2.1 y94.2.2 y85.2.2.1 y85.2.2.2 (s71++([y85.1]:List Ae)) y94.1.A7 y94.1.Ac y94.1.Bs y94.1.Ab))) else none)) else(some (.out (s68,s69,s70,s72,s73,s74,s75,s71))))
def E3 (n:Nat)  (y1:((List A5)×Int×Int)):Nat→Bool→Int→Int→Int→Int→(List Ag)→Option (LR (Bool×Int×Int×Int×(List Ag)) (Az×Int×Int))
 | 0,_,_,_,_,_,_=>none
 | k125+1,s119,s120,s121,s122,s123,s124=>(bif decide (s120≤3) then((Km n s120).bind fun y134=>(Sg n fun n136=>((D3 n y1.1 s121 s122 s123 1 y134).bind fun y141=>(bif y141.2.1 then((I0 n s120 y141.1.Ab y1.1 y141.2.2 s122 s123).bind fun y144=>(bif decide ((s124.length+1)*41≤140737488355328) then(E3 n y1 k125 true (IntKind.i64.wrap (s120+1)) y144.2.1 y144.2.2.1 y144.2.2.2 (s124++([y144.1]:List Ag))) else none)) else(E3 n y1 k125 s119 (IntKind.i64.wrap (s120+1)) y141.2.2 s122 s123 s124))))) else(some (.out (s119,s121,s122,s123,s124))))
def Hs (n:Nat)  (y1:((List A5)×Int×Int)):Nat→Bool→Int→Int→Int→(List Ag)→Option (LR (Int×Int×Int×(List Ag)) (Az×Int×Int))
 | 0,_,_,_,_,_=>none
 | k110+1,s105,s106,s107,s108,s109=>(bif s105 then((E3 n y1 n false 1 s106 s107 s108 s109).bind fun o132=>match o132 with|.out (x149,x150,x151,x152,x153)=>(Hs n y1 k110 x149 x150 x151 x152 x153)|.ret v=>some (.ret v)) else(some (.out (s106,s107,s108,s109))))
def Gj:Nat→(List UInt8)→Option (Az×Int×Int)
 | 0,_=>none
 | n+1,B7=>((Pf n B7).bind fun y1=>(bif (y1.2.1 != 0) then(some ((⟨0,([]:List Aw),([]:List Ae),([]:List Ag)⟩:Az),y1.2.1,y1.2.2)) else(Sg n fun n4=>((Gz n y1.1 0 0 0 1 ([109,111,100]:List UInt8)).bind fun y9=>((G4 n y1.1 y9.2.1 y9.2.2.1 y9.2.2.2).bind fun y11=>((By n ([59]:List UInt8) y1.1 y11.2.1 y11.2.2.1 y11.2.2.2).bind fun y13=>(Sg n fun n15=>((D3 n y1.1 y13.1 y13.2.1 y13.2.2 1 ([108,111,99]:List UInt8)).bind fun y20=>((Ix n y1 n y20.2.1 y20.2.2 y13.2.1 y13.2.2 y20.1.A7 y20.1.Ac y20.1.Bs y20.1.Ab ([]:List Aw)).bind fun o38=>match o38 with|.out (x52,x53,x54,x55,x56,x57,x58,x59)=>(Sg n fun n60=>((D3 n y1.1 x52 x53 x54 1 ([116,104,114,101,97,100]:List UInt8)).bind fun y65=>((Iy n y1 n y65.2.1 y65.2.2 x53 x54 ([]:List Ae) y65.1.A7 y65.1.Ac y65.1.Bs y65.1.Ab).bind fun o83=>match o83 with|.out (x97,x98,x99,x100,x101,x102,x103,x104)=>((Hs n y1 n true x97 x98 x99 ([]:List Ag)).bind fun o117=>match o117 with|.out (x156,x157,x158,x159)=>(bif decide (x156<((y1.1.length:Nat):Int)) then((Dk n y1.1 x156 x157 x158).bind fun y161=>(bif (y161.1 != 0) then(some ((⟨0,([]:List Aw),([]:List Ae),([]:List Ag)⟩:Az),y161.1,y161.2)) else(some ((⟨y11.1.Bs,x59,x104,x159⟩:Az),0,0)))) else(bif (x157 != 0) then(some ((⟨0,([]:List Aw),([]:List Ae),([]:List Ag)⟩:Az),x157,x158)) else(some ((⟨y11.1.Bs,x59,x104,x159⟩:Az),0,0))))|.ret v=>some v)|.ret v=>some v)))|.ret v=>some v)))))))))
def Mn:Nat→Int→Option Bool
 | 0,_=>none
 | n+1,Cd=>(bif decide (0≤Cd) then(some (decide (Cd≤9999))) else(some false))
def Qh:Nat→Int→Int→(List Aw)→(List Ae)→(List Ag)→Option Bool
 | 0,_,_,_,_,_=>none
 | n+1,G7,C7,Bx,Ba,Bi=>((idx Bx G7).bind fun x1=>((Dp n x1.Ao).bind fun y2=>(bif y2 then((Mn n x1.Bs).bind fun y5=>(bif y5 then(some (decide (0≤x1.Ab))) else(some false))) else(some false))))
def Lb (n:Nat)  (Cd:Int) (C7:Int) (Bx:(List Aw)) (Ba:(List Ae)) (Bi:(List Ag)):Nat→Int→Option (LR Unit Bool)
 | 0,_=>none
 | k2+1,s1=>(bif decide (s1<Cd) then((Qh n s1 C7 Bx Ba Bi).bind fun y11=>(bif y11 then(Lb n Cd C7 Bx Ba Bi k2 (IntKind.i64.wrap (s1+1))) else(some (.ret false)))) else(some (.out ())))
def T5:Nat→Int→Int→(List Aw)→(List Ae)→(List Ag)→Option Bool
 | 0,_,_,_,_,_=>none
 | n+1,Cd,C7,Bx,Ba,Bi=>((Lb n Cd C7 Bx Ba Bi n 0).bind fun o9=>match o9 with|.out _=>(some true)|.ret v=>some v)
def P7:Nat→Int→(List UInt8)→(List (List UInt8))→(List A0)→Int→Option Bool
 | 0,_,_,_,_,_=>none
 | n+1,G7,Gf,G9,Gg,Kg=>((idx G9 G7).bind fun x1=>((Dp n x1).bind fun y2=>(some y2)))
def Iq (n:Nat)  (Cd:Int) (Gf:(List UInt8)) (G9:(List (List UInt8))) (Gg:(List A0)) (Kg:Int):Nat→Int→Option (LR Unit Bool)
 | 0,_=>none
 | k2+1,s1=>(bif decide (s1<Cd) then((P7 n s1 Gf G9 Gg Kg).bind fun y11=>(bif y11 then(Iq n Cd Gf G9 Gg Kg k2 (IntKind.i64.wrap (s1+1))) else(some (.ret false)))) else(some (.out ())))
def Qt:Nat→Int→(List UInt8)→(List (List UInt8))→(List A0)→Int→Option Bool
 | 0,_,_,_,_,_=>none
 | n+1,Cd,Gf,G9,Gg,Kg=>((Iq n Cd Gf G9 Gg Kg n 0).bind fun o9=>match o9 with|.out _=>(some true)|.ret v=>some v)
def Q1:Nat→Ae→Option Bool
 | 0,_=>none
 | n+1,En=>((Dp n En.Ao).bind fun y1=>(bif y1 then(bif decide (0≤En.Ab) then((Nm n En.B5).bind fun y5=>(bif y5 then((Qt n ((En.Bh.length:Nat):Int) En.Ao En.Bh En.B5 En.Ab).bind fun y8=>(some y8)) else(some false))) else(some false)) else(some false)))
def Qa:Nat→Int→Int→(List Aw)→(List Ae)→(List Ag)→Option Bool
 | 0,_,_,_,_,_=>none
 | n+1,G7,C7,Bx,Ba,Bi=>((idx Ba G7).bind fun x1=>((Q1 n x1).bind fun y2=>(some y2)))
def Iz (n:Nat)  (Cd:Int) (C7:Int) (Bx:(List Aw)) (Ba:(List Ae)) (Bi:(List Ag)):Nat→Int→Option (LR Unit Bool)
 | 0,_=>none
 | k2+1,s1=>(bif decide (s1<Cd) then((Qa n s1 C7 Bx Ba Bi).bind fun y11=>(bif y11 then(Iz n Cd C7 Bx Ba Bi k2 (IntKind.i64.wrap (s1+1))) else(some (.ret false)))) else(some (.out ())))
def Qu:Nat→Int→Int→(List Aw)→(List Ae)→(List Ag)→Option Bool
 | 0,_,_,_,_,_=>none
 | n+1,Cd,C7,Bx,Ba,Bi=>((Iz n Cd C7 Bx Ba Bi n 0).bind fun o9=>match o9 with|.out _=>(some true)|.ret v=>some v)
def Jn (n:Nat)  (y1:(List A2)):Nat→Int→Option (LR Unit Bool)
 | 0,_=>none
 | k4+1,s3=>(bif decide (s3<((y1.length:Nat):Int)) then((idx y1 s3).bind fun x13=>(bif (x13.B3==2) then(some (.ret false)) else(Jn n y1 k4 (IntKind.i64.wrap (s3+1))))) else(some (.out ())))
def R8:Nat→Ag→Option Bool
 | 0,_=>none
 | n+1,E1=>((Lq n E1.Bm).bind fun y1=>((Jn n y1 n 0).bind fun o11=>match o11 with|.out _=>((Km n E1.A7).bind fun y16=>(bif (y16==([]:List UInt8)) then(some false) else((Jx n E1.Bm).bind fun y19=>(bif y19 then(some (decide (0≤E1.Ab))) else(some false)))))|.ret v=>some v))
def Qi:Nat→Int→Int→(List Aw)→(List Ae)→(List Ag)→Option Bool
 | 0,_,_,_,_,_=>none
 | n+1,G7,C7,Bx,Ba,Bi=>((idx Bi G7).bind fun x1=>((R8 n x1).bind fun y2=>(some y2)))
def Iu (n:Nat)  (Cd:Int) (C7:Int) (Bx:(List Aw)) (Ba:(List Ae)) (Bi:(List Ag)):Nat→Int→Option (LR Unit Bool)
 | 0,_=>none
 | k2+1,s1=>(bif decide (s1<Cd) then((Qi n s1 C7 Bx Ba Bi).bind fun y11=>(bif y11 then(Iu n Cd C7 Bx Ba Bi k2 (IntKind.i64.wrap (s1+1))) else(some (.ret false)))) else(some (.out ())))
def R6:Nat→Int→Int→(List Aw)→(List Ae)→(List Ag)→Option Bool
 | 0,_,_,_,_,_=>none
 | n+1,Cd,C7,Bx,Ba,Bi=>((Iu n Cd C7 Bx Ba Bi n 0).bind fun o9=>match o9 with|.out _=>(some true)|.ret v=>some v)
def Mo:Nat→Az→Option Bool
 | 0,_=>none
 | n+1,At=>((T5 n ((At.B0.length:Nat):Int) At.Bo At.B0 At.Ak At.Ar).bind fun y1=>((Mn n At.Bo).bind fun y3=>(bif y3 then(bif y1 then((Qu n ((At.Ak.length:Nat):Int) At.Bo At.B0 At.Ak At.Ar).bind fun y7=>(bif y7 then((R6 n ((At.Ar.length:Nat):Int) At.Bo At.B0 At.Ak At.Ar).bind fun y10=>(some y10)) else(some false))) else(some false)) else(some false))))
def Im:Nat→Int→Option (List UInt8)
 | 0,_=>none
 | n+1,Cd=>(bif decide (Cd<10) then(some ([UInt8.ofNat (IntKind.u8.wrap (IntKind.i64.wrap (48+Cd))).toNat]:List UInt8)) else(((Im n) (IntKind.i64.wrap (Int.tdiv Cd 10))).bind fun y2=>(bif decide (y2.length+(([UInt8.ofNat (IntKind.u8.wrap (IntKind.i64.wrap (48+(Int.tmod Cd 10)))).toNat]:List UInt8)).length≤140737488355328) then(some (y2++([UInt8.ofNat (IntKind.u8.wrap (IntKind.i64.wrap (48+(Int.tmod Cd 10)))).toNat]:List UInt8))) else none)))
def Jr (n:Nat)  (At:Az):Nat→(List UInt8)→Int→Option (LR (List UInt8) (List UInt8))
 | 0,_,_=>none
 | k10+1,s8,s9=>(bif decide (s9<((At.B0.length:Nat):Int)) then((idx At.B0 s9).bind fun x19=>(bif decide ((([108,111,99,32]:List UInt8)).length+x19.Ao.length≤140737488355328) then(bif decide (((([108,111,99,32]:List UInt8)++x19.Ao)).length+(([32,61,32]:List UInt8)).length≤140737488355328) then((Im n x19.Bs).bind fun y22=>(bif decide ((((([108,111,99,32]:List UInt8)++x19.Ao)++([32,61,32]:List UInt8))).length+y22.length≤140737488355328) then(bif decide (((((([108,111,99,32]:List UInt8)++x19.Ao)++([32,61,32]:List UInt8))++y22)).length+(([59,10]:List UInt8)).length≤140737488355328) then(bif decide (s8.length+(((((([108,111,99,32]:List UInt8)++x19.Ao)++([32,61,32]:List UInt8))++y22)++([59,10]:List UInt8))).length≤140737488355328) then(Jr n At k10 (s8++((((([108,111,99,32]:List UInt8)++x19.Ao)++([32,61,32]:List UInt8))++y22)++([59,10]:List UInt8))) (IntKind.i64.wrap (s9+1))) else none) else none) else none)) else none) else none)) else(some (.out s8)))
def Ie (n:Nat)  (x40:Ae):Nat→(List UInt8)→(List UInt8)→Int→Option (LR (List UInt8) (List UInt8))
 | 0,_,_,_=>none
 | k47+1,s44,s45,s46=>(bif decide (s46<((x40.Bh.length:Nat):Int)) then((idx x40.Bh s46).bind fun x56=>(bif decide (s45.length+x56.length≤140737488355328) then(bif decide (s44.length+((s45++x56)).length≤140737488355328) then(Ie n x40 k47 (s44++(s45++x56)) ([44,32]:List UInt8) (IntKind.i64.wrap (s46+1))) else none) else none)) else(some (.out s44)))
def Id (n:Nat)  (At:Az):Nat→(List UInt8)→Int→Option (LR (List UInt8) (List UInt8))
 | 0,_,_=>none
 | k31+1,s29,s30=>(bif decide (s30<((At.Ak.length:Nat):Int)) then((idx At.Ak s30).bind fun x40=>(bif decide ((([116,104,114,101,97,100,32]:List UInt8)).length+x40.Ao.length≤140737488355328) then(bif decide (((([116,104,114,101,97,100,32]:List UInt8)++x40.Ao)).length+(([32,123,10]:List UInt8)).length≤140737488355328) then(bif decide (s29.length+(((([116,104,114,101,97,100,32]:List UInt8)++x40.Ao)++([32,123,10]:List UInt8))).length≤140737488355328) then((Ie n x40 n (s29++((([116,104,114,101,97,100,32]:List UInt8)++x40.Ao)++([32,123,10]:List UInt8))) ([32,32,114,101,103,32]:List UInt8) 0).bind fun o54=>match o54 with|.out x60=>(bif decide (0<((x40.Bh.length:Nat):Int)) then(bif decide (x60.length+(([59,10]:List UInt8)).length≤140737488355328) then((O4 n x40.B5 1).bind fun y63=>(bif decide (y63.length+(([125,10]:List UInt8)).length≤140737488355328) then(bif decide (((x60++([59,10]:List UInt8))).length+((y63++([125,10]:List UInt8))).length≤140737488355328) then(Id n At k31 ((x60++([59,10]:List UInt8))++(y63++([125,10]:List UInt8))) (IntKind.i64.wrap (s30+1))) else none) else none)) else none) else((O4 n x40.B5 1).bind fun y67=>(bif decide (y67.length+(([125,10]:List UInt8)).length≤140737488355328) then(bif decide (x60.length+((y67++([125,10]:List UInt8))).length≤140737488355328) then(Id n At k31 (x60++(y67++([125,10]:List UInt8))) (IntKind.i64.wrap (s30+1))) else none) else none)))|.ret v=>some (.ret v)) else none) else none) else none)) else(some (.out s29)))
def K0 (n:Nat)  (At:Az):Nat→(List UInt8)→Int→Option (LR (List UInt8) (List UInt8))
 | 0,_,_=>none
 | k76+1,s74,s75=>(bif decide (s75<((At.Ar.length:Nat):Int)) then((idx At.Ar s75).bind fun x85=>((Km n x85.A7).bind fun y86=>(bif decide (y86.length+(([32]:List UInt8)).length≤140737488355328) then((Gk n x85.Bm).bind fun y89=>(bif decide (((y86++([32]:List UInt8))).length+y89.length≤140737488355328) then(bif decide ((((y86++([32]:List UInt8))++y89)).length+(([59,10]:List UInt8)).length≤140737488355328) then(bif decide (s74.length+((((y86++([32]:List UInt8))++y89)++([59,10]:List UInt8))).length≤140737488355328) then(K0 n At k76 (s74++(((y86++([32]:List UInt8))++y89)++([59,10]:List UInt8))) (IntKind.i64.wrap (s75+1))) else none) else none) else none)) else none))) else(some (.out s74)))
def Pe:Nat→Az→Option (List UInt8)
 | 0,_=>none
 | n+1,At=>((Mo n At).bind fun y1=>(bif y1 then((Im n At.Bo).bind fun y4=>(bif decide ((([109,111,100,32]:List UInt8)).length+y4.length≤140737488355328) then(bif decide (((([109,111,100,32]:List UInt8)++y4)).length+(([59,10]:List UInt8)).length≤140737488355328) then((Jr n At n ((([109,111,100,32]:List UInt8)++y4)++([59,10]:List UInt8)) 0).bind fun o17=>match o17 with|.out x28=>((Id n At n x28 0).bind fun o38=>match o38 with|.out x73=>((K0 n At n x73 0).bind fun o83=>match o83 with|.out x95=>(some x95)|.ret v=>some v)|.ret v=>some v)|.ret v=>some v) else none) else none)) else(some ([]:List UInt8))))
def Pt:Nat→Option (List UInt8)
 | 0=>none
 | n+1=>(some (List.append ([109,111,100,32,50,59,10,108,111,99,32,120,32,61,32,48,59,10,116,104,114,101,97,100,32,116,32,123,10,32,32,114,101,103,32,97,44,32,98,59,10,32,32,108]:List UInt8) ([111,97,100,32,97,32,61,32,120,59,10,125,10,102,111,114,97,108,108,32,40,116,46,97,32,61,61,32,48,41,32,38,38,32,40,120,32,61,61,32,48,41,59,10]:List UInt8)))
def Ir:Nat→Option Bool
 | 0=>none
 | n+1=>((Pt n ).bind fun y1=>((Gj n y1).bind fun y3=>((Gj n ([109,111,100,32,50,59,32,108,111,99,32,120,59]:List UInt8)).bind fun y5=>((Gj n ([109,111,100,32,50,59,32,116,104,114,101,97,100,32,116,32,123,32,125,10,125]:List UInt8)).bind fun y7=>((Gj n ([]:List UInt8)).bind fun y9=>(bif (y3.2.1 != 0) then(some false) else(bif (y3.1.Bo != 2) then(some false) else(bif (((y3.1.B0.length:Nat):Int) != 1) then(some false) else(bif (((y3.1.Ak.length:Nat):Int) != 1) then(some false) else(bif (((y3.1.Ar.length:Nat):Int) != 1) then(some false) else((idx y3.1.Ak 0).bind fun x16=>(bif (((x16.Bh.length:Nat):Int) != 2) then(some false) else((idx y3.1.Ar 0).bind fun x18=>(bif (((x18.Bm.length:Nat):Int) != 7) then(some false) else((Uy n y3.1).bind fun y20=>((idx y3.1.B0 0).bind fun x22=>(bif (x22.Ab==7) then(bif (((y20.B0.length:Nat):Int)==1) then((idx y20.B0 0).bind fun x25=>(bif (x25.Ab==0) then((idx y3.1.Ar 0).bind fun x27=>((idx x27.Bm 5).bind fun x28=>(bif (x28.B3==3) then(bif (y5.2.1==5) then(bif (y5.2.2==12) then(bif (y7.2.1==5) then(bif (y7.2.2==20) then(bif (y9.2.1==6) then(bif (y9.2.2==0) then((Pe n y3.1).bind fun y36=>((Pt n ).bind fun y38=>(bif (y36==y38) then((Mo n y3.1).bind fun y41=>(some y41)) else(some false)))) else(some false)) else(some false)) else(some false)) else(some false)) else(some false)) else(some false)) else(some false)))) else(some false))) else(some false)) else(some false))))))))))))))))))
def Tw:Nat→Az→Option Bool
 | 0,_=>none
 | n+1,At=>((X2 n At).bind fun y1=>(bif y1 then((Mo n At).bind fun y4=>(bif y4 then((Pe n At).bind fun y7=>((Gj n y7).bind fun y9=>(bif decide (20000<((y7.length:Nat):Int)) then((Ir n ).bind fun y12=>(some y12)) else(bif (y9.2.1==0) then(bif (y9.2.2==0) then((O0 n At y9.1 false).bind fun y16=>(bif y16 then((Pe n y9.1).bind fun y19=>(bif (y19==y7) then((Ir n ).bind fun y22=>(some y22)) else(some false))) else(some false))) else(some false)) else(some false))))) else((Ir n ).bind fun y24=>(some y24)))) else((Ir n ).bind fun y26=>(some y26))))
theorem C8 {α:Type} {l:List α} {i:Nat} (h:i < l.length):idx l (i:Int)=some l[i]:=by rw[Qg,Ax h]
theorem Ay (k:Nat) (h:k < 4611686018427387904):IntKind.i64.wrap ((k:Int)+1)=((k+1:Nat):Int):=All k (by omega)
theorem A6 {α:Type} {p:Prop} [Decidable p] (h:p) (a b:α):(bif decide p then a else b)=a:=by rw[decide_eq_true h];rfl
theorem Aq {α:Type} {p:Prop} [Decidable p] (h:¬ p) (a b:α):(bif decide p then a else b)=b:=by rw[decide_eq_false h];rfl
theorem Atk (a b:Nat):((a:Int)==(b:Int))=(a==b):=by
 by_cases h:a=b
 ·subst h;simp
 ·have:¬ (a:Int)=(b:Int):=by omega
  rw[Ca.2 h,Ca.2 this]
theorem Asv (a b:Nat):((a:Int) != (b:Int))=!(a==b):=by rw[← Atk];rfl
theorem Ac7 {α σ ρ:Type} (l:List α) (L:Nat→Nat→σ→Option ρ) (F:List α→σ→Option ρ) (Inv:Nat→σ→Prop)
 (h0:∀ k s,Inv l.length s→L (k+1) l.length s=F [] s)
 (h1:∀ k i s x,i < l.length→l[i]?=some x→Inv i s→(∀ s',Inv (i+1) s'→L k (i+1) s'=F (l.drop (i+1)) s')→L (k+1) i s=F (x :: l.drop (i+1)) s) :
 ∀ (m k i:Nat) (s:σ),i+m=l.length→m < k→Inv i s→L k i s=F (l.drop i) s:=by
 intro m
 induction m with
 | zero =>
  intro k i s hi hk hs
  obtain⟨k,rfl⟩:∃ j,k=j+1:=⟨k - 1,by omega⟩
  obtain rfl:i=l.length:=by omega
  rw[h0 k s hs,List.drop_length]
 | succ m ih =>
  intro k i s hi hk hs
  obtain⟨k,rfl⟩:∃ j,k=j+1:=⟨k - 1,by omega⟩
  have hlt:i < l.length:=by omega
  rw[h1 k i s l[i] hlt (Ax hlt) hs (fun s' hs'=>ih k (i+1) s' (by omega) (by omega) hs'),List.drop_eq_getElem_cons hlt]
theorem Qy {α σ ρ:Type} (l:List α) (L:Nat→Nat→σ→Option ρ) (F:List α→σ→Option ρ) (Inv:Nat→σ→Prop) {k:Nat} {s:σ} (hk:l.length < k) (hs:Inv 0 s)
 (h0:∀ k s,Inv l.length s→L (k+1) l.length s=F [] s)
 (h1:∀ k i s x,i < l.length→l[i]?=some x→Inv i s→(∀ s',Inv (i+1) s'→L k (i+1) s'=F (l.drop (i+1)) s')→L (k+1) i s=F (x :: l.drop (i+1)) s) :
 L k 0 s=F l s:=Ac7 l L F Inv h0 h1 l.length k 0 s (by omega) hk hs
theorem Cn {α:Type} {l:List α} {i:Nat} {x:α} (h:l[i]?=some x):idx l (i:Int)=some x:=by rw[Qg,h]
theorem Wk (op:Int):op < 1∨15≤op∨op=1∨op=2∨op=3∨op=4∨op=5∨op=6∨op=7∨op=8∨op=9∨op=10∨op=11∨op=12∨op=13∨op=14:=by omega
theorem Nh {α:Type} (l:List α) (L:Nat→Nat→Option (LR Unit Bool)) (p:α→Bool) (h0:∀ k,L (k+1) l.length=some (.out ()))
 (h1:∀ k i x,i < l.length→l[i]?=some x→L (k+1) i=bif p x then L k (i+1) else some (.ret false)) {k:Nat} (hk:l.length < k):L k 0=bif l.all p then some (.out ()) else some (.ret false):=by
 refine Qy l (fun k i (_:Unit)=>L k i) (fun l _=>bif l.all p then some (.out ()) else some (.ret false)) (fun _ _=>True) (s:=()) hk trivial (fun k s _=>h0 k) ?_
 intro k i s x hi hx _ ih
 rw[h1 k i x hi hx,ih () trivial,List.all_cons]
 cases p x<;>rfl
theorem Ag5 {α:Type} (l:List α) (L:Nat→Nat→Option (LR Unit Bool)) (p:α→Bool) (h0:∀ k,L (k+1) l.length=some (.out ()))
 (h1:∀ k i x,i < l.length→l[i]?=some x→L (k+1) i=bif p x then some (.ret true) else L k (i+1)) {k:Nat} (hk:l.length < k):L k 0=bif l.any p then some (.ret true) else some (.out ()):=by
 refine Qy l (fun k i (_:Unit)=>L k i) (fun l _=>bif l.any p then some (.ret true) else some (.out ())) (fun _ _=>True) (s:=()) hk trivial (fun k s _=>h0 k) ?_
 intro k i s x hi hx _ ih
 rw[h1 k i x hi hx,ih () trivial,List.any_cons]
 cases p x<;>rfl
structure Tok where
 kind:Int
 text:List UInt8
 n:Int
 at':Int
def Ji (c:Int):Bool:=decide (c=32∨c=9∨c=10∨c=13)
def D7:Bool→List UInt8→Nat
 | _,[]=>0
 | true,c :: t=>if c.toNat=10 then 1+D7 false t else 1+D7 true t
 | false,c :: t=>if Ji c.toNat then 1+D7 false t else if c.toNat=35 then 1+D7 true t else 0
inductive Lx where
 | tok (kind:Int) (len:Nat) (n:Nat)
 | err (e:Int)
def Jo (l:List UInt8):Lx:=match l with
 | []=>.err 3
 | c :: _ =>
  if Et c.toNat then(if Cj H8 l > 16 then .err 2 else .tok 1 (Cj H8 l) 0)
  else if Cv c.toNat then(if Ku (l.take (Cj Cv l)) > 9999 then .err 4 else .tok 2 (Cj Cv l) (Ku (l.take (Cj Cv l))))
  else if I8 l=0 then .err 3 else .tok 3 (I8 l) 0
structure Z8 where
 toks:List Tok
 err:Int
 at':Int
def Ed:Nat→List UInt8→Nat→List Tok→Z8
 | 0,_,_,acc=>⟨acc,0,0⟩
 | f+1,l,p,acc=>match l.drop (D7 false l) with
   | []=>⟨acc,0,0⟩
   | c :: t=>match Jo (c :: t) with
     | .err e=>⟨[],e,(p+D7 false l:Nat)⟩
     | .tok k n v=>Ed f ((c :: t).drop n) (p+D7 false l+n) (acc++[⟨k,(c :: t).take n,v,(p+D7 false l:Nat)⟩])
def Hr (l:List UInt8):Z8:=if l.length > 20000 then⟨[],2,20000⟩ else Ed (l.length+1) l 0 []
theorem A0i (b:Bool) (l:List UInt8):D7 b l≤l.length:=by
 induction l generalizing b with
 | nil=>simp[D7]
 | cons c t ih =>
  have h1:=ih true;have h2:=ih false
  cases b<;>simp only[D7,List.length_cons]<;>repeat' split
  all_goals omega
theorem S7 (p:Int→Bool) (l:List UInt8):Cj p l≤l.length:=(List.takeWhile_prefix (fun c:UInt8=>p c.toNat) (l:=l)).length_le
theorem Kj (p:Int→Bool) (c:UInt8) (t:List UInt8):Cj p (c :: t)=if p c.toNat then Cj p t+1 else 0:=by
 unfold Cj
 rw[List.takeWhile_cons]
 split<;>simp
theorem Aap (c:UInt8) (t:List UInt8):I8 (c :: t)≤(c :: t).length:=by
 unfold I8
 split
 ·rename_i h
  rcases t with _ | ⟨d,t⟩
  ·simp[Ls] at h
  ·simp
 ·split<;>simp
theorem Sn {l:List UInt8} {k:Int} {n v:Nat} (h:Jo l=.tok k n v):0 < n∧n≤l.length:=by
 rcases l with _ | ⟨c,t⟩
 ·simp[Jo] at h
 ·simp only[Jo] at h
  split at h
  ·rename_i hc
   split at h
   ·simp at h
   ·simp only[Lx.tok.injEq] at h
    obtain⟨_,rfl,_⟩:=h
    have h1:H8 c.toNat=true:=by simp[H8,hc]
    exact⟨by rw[Kj,if_pos h1];omega,S7 _ _⟩
  ·split at h
   ·rename_i hc
    split at h
    ·simp at h
    ·simp only[Lx.tok.injEq] at h
     obtain⟨_,rfl,_⟩:=h
     exact⟨by rw[Kj,if_pos hc];omega,S7 _ _⟩
   ·split at h
    ·simp at h
    ·simp only[Lx.tok.injEq] at h
     obtain⟨_,rfl,_⟩:=h
     exact⟨by omega,Aap _ _⟩
theorem Vs (f g:Nat) (l:List UInt8) (p:Nat) (acc:List Tok) (hf:l.length < f) (hg:l.length < g):Ed f l p acc=Ed g l p acc:=by
 induction f generalizing g l p acc with
 | zero=>omega
 | succ f ih =>
  cases g with
  | zero=>omega
  | succ g =>
   simp only[Ed]
   split
   ·rfl
   ·rename_i c t hd
    have hlen:(c :: t).length=l.length - D7 false l:=by rw[← hd];simp
    split
    ·rfl
    ·rename_i k n v ho
     have hn:=Sn ho
     have hlt:((c :: t).drop n).length < l.length:=by
      simp only[List.length_drop]
      simp only[List.length_cons] at hlen hn ⊢
      omega
     exact ih g _ _ _ (by omega) (by omega)
def N3 (l:List UInt8) (p:Nat) (acc:List Tok):Z8:=Ed (l.length+1) (l.drop p) p acc
theorem Ad5 (l:List UInt8) (p:Nat) (acc:List Tok) (g:Nat) (_hp:p≤l.length) (h:D7 false (l.drop p)=g+D7 false (l.drop (p+g))):N3 l p acc=N3 l (p+g) acc:=by
 have hg:=A0i false (l.drop p)
 simp only[List.length_drop] at hg
 have e:(l.drop p).drop (D7 false (l.drop p))=(l.drop (p+g)).drop (D7 false (l.drop (p+g))):=by
  rw[List.drop_drop,List.drop_drop,h];congr 1;omega
 unfold N3
 simp only[Ed]
 rw[e]
 have e2:p+D7 false (l.drop p)=p+g+D7 false (l.drop (p+g)):=by omega
 simp only[e2]
theorem A4h (l:List UInt8) (p:Nat) (acc:List Tok) (h:l.length≤p):N3 l p acc=⟨acc,0,0⟩:=by
 unfold N3
 have:l.drop p=[]:=List.drop_eq_nil_of_le h
 simp[Ed,this]
theorem Abx (l:List UInt8) (p:Nat) (acc:List Tok) (e:Int) (hg:D7 false (l.drop p)=0) (hp:p < l.length) (h:Jo (l.drop p)=.err e):N3 l p acc=⟨[],e,p⟩:=by
 unfold N3
 simp only[Ed,hg,List.drop_zero]
 rcases hl:l.drop p with _ | ⟨c,t⟩
 ·have:(l.drop p).length=0:=by rw[hl];rfl
  simp at this;omega
 ·rw[hl] at h
  simp[h]
theorem Ach (l:List UInt8) (p:Nat) (acc:List Tok) (k:Int) (n v:Nat) (hg:D7 false (l.drop p)=0) (hp:p < l.length) (h:Jo (l.drop p)=.tok k n v) :
 N3 l p acc=N3 l (p+n) (acc++[⟨k,(l.drop p).take n,v,p⟩]):=by
 have hn:=Sn h
 simp only[List.length_drop] at hn
 unfold N3
 rw[Ed]
 simp only[hg,List.drop_zero]
 rcases hl:l.drop p with _ | ⟨c,t⟩
 ·have:(l.drop p).length=0:=by rw[hl];rfl
  simp at this;omega
 ·rw[hl] at h
  simp only[h,Nat.add_zero]
  have e:(c :: t).drop n=l.drop (p+n):=by rw[← hl,List.drop_drop]
  rw[e]
  exact Vs _ _ _ _ _ (by simp;omega) (by simp;omega)
theorem Abo (l:List UInt8):D7 true l=Cj Kz l+D7 false (l.drop (Cj Kz l)):=by
 induction l with
 | nil=>simp[D7,Cj]
 | cons c t ih =>
  rw[Kj]
  by_cases h:c.toNat=10
  ·have h1:Kz c.toNat=false:=by simp[Kz,h]
   rw[if_neg (by rw[h1];simp),List.drop_zero,D7,D7,if_pos h,if_pos (by simp[Ji,h])]
   omega
  ·have h1:Kz c.toNat=true:=by simp only[Kz,C1];omega
   rw[if_pos h1,D7,if_neg h,ih,List.drop_succ_cons]
   omega
theorem A3m {c:UInt8} {t:List UInt8} (h:c.toNat=35):D7 false (c :: t)=Cj Kz (c :: t)+D7 false ((c :: t).drop (Cj Kz (c :: t))):=by
 rw[← Abo]
 have hb:Ji c.toNat=false:=by simp[Ji,h]
 rw[D7,D7,if_neg (by rw[hb];simp),if_pos h,if_neg (by omega)]
theorem Zd {c:UInt8} {t:List UInt8} (h:Ji c.toNat=true):D7 false (c :: t)=1+D7 false t:=by rw[D7,if_pos h]
theorem A3u {c:UInt8} {t:List UInt8} (h:Ji c.toNat=false) (h2:c.toNat≠35):D7 false (c :: t)=0:=by rw[D7,if_neg (by rw[h];simp),if_neg h2]
abbrev Nd:=A2
def Dl (op:Int):Int:=if 1≤op∧op≤4 then 0 else if op=5 then 1 else if 6≤op∧op≤14 then 2 else -1
theorem A9e (n:Nat) (op:Int):Jk (n+1) op=some (Dl op):=by
 rcases Wk op with h | h | h | h | h | h | h | h | h | h | h | h | h | h | h | h
 ·have:Dl op= -1:=by unfold Dl;rw[if_neg (by omega),if_neg (by omega),if_neg (by omega)]
  rw[Jk,this,Aq (show ¬ 1≤op by omega),Ca.2 (show op≠5 by omega),An,Aq (show ¬ 6≤op by omega)]
 ·have:Dl op= -1:=by unfold Dl;rw[if_neg (by omega),if_neg (by omega),if_neg (by omega)]
  rw[Jk,this,A6 (show 1≤op by omega),Aq (show ¬ op≤4 by omega),Ca.2 (show op≠5 by omega),An,A6 (show 6≤op by omega),Aq (show ¬ op≤14 by omega)]
 all_goals rw[h];rfl
inductive Tr where
 | leaf (x:Nd)
 | un (x:Nd) (a:Tr)
 | bin (x:Nd) (a b:Tr)
def Tr.flat:Tr→List Nd
 | .leaf x=>[x]
 | .un x a=>x :: a.flat
 | .bin x a b=>x :: (a.flat++b.flat)
def Tr.wf:Tr→Prop
 | .leaf x=>Dl x.B3=0
 | .un x a=>Dl x.B3=1∧a.wf
 | .bin x a b=>Dl x.B3=2∧a.wf∧b.wf
def Tr.dep:Tr→Nat
 | .leaf _=>0
 | .un _ a=>1+a.dep
 | .bin _ a b=>1+max a.dep b.dep
theorem Tr.flat_pos (t:Tr):1≤t.flat.length:=by cases t<;>simp[Tr.flat]
def H6:List Nd→Nat→Option Nat
 | [],_=>none
 | x :: l,w=>if Dl x.B3 < 0 then none else if(w:Int)+Dl x.B3 - 1=0 then some 1 else(H6 l ((w:Int)+Dl x.B3 - 1).toNat).map (·+1)
def T2:List Tr→List Nd
 | []=>[]
 | t :: ts=>t.flat++T2 ts
theorem Uj (op:Int):Dl op= -1∨Dl op=0∨Dl op=1∨Dl op=2:=by
 unfold Dl
 repeat' split
 all_goals omega
theorem Ado:∀ (t:Tr) (w:Nat) (rest:List Nd),t.wf→1≤w→H6 (t.flat++rest) w=if w=1 then some t.flat.length else(H6 rest (w - 1)).map (·+t.flat.length):=by
 intro t
 induction t with
 | leaf x =>
  intro w rest h hw
  simp only[Tr.wf] at h
  simp only[Tr.flat,List.cons_append,List.nil_append,H6,h,List.length_cons,List.length_nil]
  by_cases c:w=1
  ·rw[if_neg (by omega),if_pos (by omega),if_pos c]
  ·rw[if_neg (by omega),if_neg (by omega),if_neg c,show((w:Int)+0 - 1).toNat=w - 1 by omega]
 | un x a ih =>
  intro w rest h hw
  obtain⟨h1,h2⟩:=h
  simp only[Tr.flat,List.cons_append,H6,h1,List.length_cons]
  rw[if_neg (by omega),if_neg (by omega),show((w:Int)+1 - 1).toNat=w by omega,ih w rest h2 hw]
  by_cases c:w=1
  ·rw[if_pos c,if_pos c];rfl
  ·rw[if_neg c,if_neg c,Option.map_map];rfl
 | bin x a b iha ihb =>
  intro w rest h hw
  obtain⟨h1,h2,h3⟩:=h
  simp only[Tr.flat,List.cons_append,H6,h1,List.length_cons,List.append_assoc,List.length_append]
  rw[if_neg (by omega),if_neg (by omega),show((w:Int)+2 - 1).toNat=w+1 by omega,iha (w+1) _ h2 (by omega),if_neg (by omega),show w+1 - 1=w by omega,ihb w rest h3 hw]
  by_cases c:w=1
  ·rw[if_pos c,if_pos c];exact congrArg some (by dsimp only;omega)
  ·rw[if_neg c,if_neg c,Option.map_map,Option.map_map];congr 1;funext j;simp only[Function.comp_apply];try omega
theorem Akl:∀ (l:List Nd) (w j:Nat),1≤w→H6 l w=some j→∃ ts:List Tr,ts.length=w∧(∀ t ∈ ts,t.wf)∧T2 ts=l.take j∧j≤l.length∧1≤j:=by
 intro l
 induction l with
 | nil=>intro w j _ h;cases h
 | cons x l ih =>
  intro w j hw h
  rw[H6] at h
  rcases Uj x.B3 with g | g | g | g
  ·rw[g,if_pos (by omega)] at h;cases h
  all_goals rw[g] at h;rw[if_neg (by omega)] at h
  ·by_cases c:w=1
   ·rw[if_pos (by omega)] at h
    obtain rfl:=Option.some.inj h
    exact⟨[.leaf x],by simp[c],by simpa [Tr.wf] using g,by simp[T2,Tr.flat],by simp,by omega⟩
   ·rw[if_neg (by omega)] at h
    obtain⟨j',h1,h2⟩:=Option.map_eq_some_iff.1 h
    obtain⟨ts,e1,e2,e3,e4,e5⟩:=ih _ j' (by omega) h1
    subst h2
    exact⟨.leaf x :: ts,by simp[e1];omega,by simpa [Tr.wf] using⟨g,e2⟩,by simp[T2,Tr.flat,e3],by simpa using e4,by omega⟩
  ·rw[if_neg (by omega)] at h
   obtain⟨j',h1,h2⟩:=Option.map_eq_some_iff.1 h
   obtain⟨ts,e1,e2,e3,e4,e5⟩:=ih _ j' (by omega) h1
   subst h2
   match ts,e1,e2,e3 with
   | [],e1,_,_=>simp at e1;omega
   | t :: ts,e1,e2,e3 =>
    exact⟨.un x t :: ts,by simp at e1 ⊢;omega,by simpa [Tr.wf,g] using e2,by simp only[T2] at e3;simp[T2,Tr.flat,e3],by simpa using e4,by omega⟩
  ·rw[if_neg (by omega)] at h
   obtain⟨j',h1,h2⟩:=Option.map_eq_some_iff.1 h
   obtain⟨ts,e1,e2,e3,e4,e5⟩:=ih _ j' (by omega) h1
   subst h2
   match ts,e1,e2,e3 with
   | [],e1,_,_=>simp at e1;omega
   | [t],e1,_,_=>simp at e1;omega
   | t :: u :: ts,e1,e2,e3 =>
    refine⟨.bin x t u :: ts,by simp at e1 ⊢;omega,?_,by simp only[T2] at e3;simp[T2,Tr.flat,List.append_assoc,e3],by simpa using e4,by omega⟩
    intro v hv
    rcases List.mem_cons.1 hv with rfl | hv
    ·exact⟨g,e2 t (by simp),e2 u (by simp)⟩
    ·exact e2 v (by simp[hv])
theorem Aeu {l:List Nd} {j:Nat} (h:H6 l 1=some j):∃ t:Tr,t.wf∧t.flat=l.take j∧j≤l.length∧1≤j:=by
 obtain⟨ts,e1,e2,e3,e4,e5⟩:=Akl l 1 j (by omega) h
 match ts,e1,e2,e3 with
 | [t],_,e2,e3=>exact⟨t,e2 t (by simp),by simpa [T2] using e3,e4,e5⟩
def A06 (l:List Nd) (i:Int):Int:=if i < 0 then -1 else match H6 (l.drop i.toNat) 1 with
 | some j=>i+j
 | none=> -1
def Aik (d:Int) (r:LR Unit Int):Int:=match r with
 | .out _=>d
 | .ret v=>v
theorem Auj (n:Nat) (l:List Nd) (hl:l.length < 1000000):∀ (m k i w:Nat),i+m=l.length→m < k→1≤w→w≤i+2 →
 (He (n+1) l k (i:Int) (w:Int)).map (Aik (-1))=some (match H6 (l.drop i) w with | some j=>(i:Int)+j | none=> -1):=by
 intro m
 induction m with
 | zero =>
  intro k i w hi hk hw hb
  obtain⟨k,rfl⟩:∃ j,k=j+1:=⟨k - 1,by omega⟩
  rw[He,Aq (by omega),List.drop_of_length_le (by omega)];rfl
 | succ m ih =>
  intro k i w hi hk hw hb
  obtain⟨k,rfl⟩:∃ j,k=j+1:=⟨k - 1,by omega⟩
  have hlt:i < l.length:=by omega
  rw[He,A6 (by omega),C8 hlt,List.drop_eq_getElem_cons hlt,H6,A1,A9e,A1,Ay i (by omega)]
  rcases Uj l[i].B3 with g | g | g | g
  ·rw[g,A6 (by omega),if_pos (by omega)];rfl
  all_goals rw[g,Aq (by omega),if_neg (by omega)]
  ·rw[Cx (n:=0 - 1) (by omega),Cx (by omega)]
   by_cases c:w=1
   ·subst c;rw[if_pos (by omega)];rfl
   ·rw[if_neg (by omega),Ca.2 (by omega),An,show(w:Int)+(0 - 1)=((w - 1:Nat):Int) by omega,ih k (i+1) (w - 1) (by omega) (by omega) (by omega) (by omega),show((w:Int)+0 - 1).toNat=w - 1 by omega]
    cases H6 (l.drop (i+1)) (w - 1) with
    | none=>rfl
    | some j=>exact congrArg some (by show((i+1:Nat):Int)+(j:Int)=(i:Int)+((j+1:Nat):Int);omega)
  ·rw[Cx (n:=1 - 1) (by omega),Cx (by omega),if_neg (by omega),Ca.2 (by omega),An,show(w:Int)+(1 - 1)=(w:Int) by omega,ih k (i+1) w (by omega) (by omega) (by omega) (by omega),show((w:Int)+1 - 1).toNat=w by omega]
   cases H6 (l.drop (i+1)) w with
   | none=>rfl
   | some j=>exact congrArg some (by show((i+1:Nat):Int)+(j:Int)=(i:Int)+((j+1:Nat):Int);omega)
  ·rw[Cx (n:=2 - 1) (by omega),Cx (by omega),if_neg (by omega),Ca.2 (by omega),An,show(w:Int)+(2 - 1)=((w+1:Nat):Int) by omega,ih k (i+1) (w+1) (by omega) (by omega) (by omega) (by omega),show((w:Int)+2 - 1).toNat=w+1 by omega]
   cases H6 (l.drop (i+1)) (w+1) with
   | none=>rfl
   | some j=>exact congrArg some (by show((i+1:Nat):Int)+(j:Int)=(i:Int)+((j+1:Nat):Int);omega)
theorem Ah6 {τ:Type} {o:Option (LR Unit Int)} {d r:Int} (h:o.map (Aik d)=some r):(o.bind fun o11=>match o11 with | .out _=>some d | .ret v=>some v)=some r:=by
 obtain⟨x,rfl,h2⟩:=Option.map_eq_some_iff.1 h
 cases x<;>exact congrArg some h2
theorem Ats (n:Nat) (l:List Nd) (i:Int) (hl:l.length < 1000000) (hn:l.length+4 < n):Qr n l i=some (A06 l i):=by
 obtain⟨n,rfl⟩:∃ j,n=j+2:=⟨n - 2,by omega⟩
 rw[Qr,A06]
 by_cases c:i < 0
 ·rw[A6 c,if_pos c]
 ·rw[Aq c,if_neg c]
  by_cases c2:i.toNat≤l.length
  ·have:=Auj n l hl (l.length - i.toNat) (n+1) i.toNat 1 (by omega) (by omega) (by omega) (by omega)
   rw[show((i.toNat:Nat):Int)=i by omega] at this
   exact Ah6 (τ:=Unit) this
  ·have e:He (n+1) l (n+1) i 1=some (.out ()):=by rw[He,Aq (by omega)]
   rw[e,List.drop_of_length_le (by omega)];rfl
def Mk:List Int→List Int
 | []=>[]
 | a :: r=>if 0 < a - 1 then(a - 1) :: r else Mk r
def Ff:List Nd→Int×List Int→Int×List Int
 | [],s=>s
 | x :: l,(m,R)=>if 0 < Dl x.B3 then Ff l (if m < (R.length:Int) then(R.length:Int) else m,Dl x.B3 :: R) else Ff l (if m < (R.length:Int) then(R.length:Int) else m,Mk R)
theorem A38:∀ (t:Tr) (rest:List Nd) (m:Int) (R:List Int),t.wf→0≤m→Ff (t.flat++rest) (m,R)=Ff rest (max m (R.length+t.dep:Nat),Mk R):=by
 intro t
 have hmax:∀ (m:Int) (k:Nat),(if m < (k:Int) then(k:Int) else m)=max m (k:Int):=by intro m k;split<;>omega
 induction t with
 | leaf x =>
  intro rest m R h hm
  simp only[Tr.wf] at h
  simp only[Tr.flat,List.cons_append,List.nil_append,Ff,h,Tr.dep,Nat.add_zero]
  rw[if_neg (by omega),hmax]
 | un x a ih =>
  intro rest m R h hm
  obtain⟨h1,h2⟩:=h
  simp only[Tr.flat,List.cons_append,Ff,h1,Tr.dep]
  rw[if_pos (by omega),hmax,ih _ _ _ h2 (by omega),Mk,if_neg (by omega),List.length_cons]
  congr 2;omega
 | bin x a b iha ihb =>
  intro rest m R h hm
  obtain⟨h1,h2,h3⟩:=h
  simp only[Tr.flat,List.cons_append,Ff,h1,Tr.dep,List.append_assoc]
  rw[if_pos (by omega),hmax,iha _ _ _ h2 (by omega),Mk,if_pos (by omega),ihb _ _ _ h3 (by omega),Mk,if_neg (by omega),List.length_cons,List.length_cons]
  congr 2;omega
theorem Aj1 (n:Nat):∀ (R:List Int) (k:Nat),R.length < k→R.length < 1000000→(∀ v ∈ R,1≤v∧v≤2)→Ht n k R.reverse=some (.out (Mk R).reverse):=by
 intro R
 induction R with
 | nil =>
  intro k hk _ _
  obtain⟨k,rfl⟩:∃ j,k=j+1:=⟨k - 1,by omega⟩
  rw[Ht,List.reverse_nil];rfl
 | cons a R ih =>
  intro k hk hl hv
  obtain⟨k,rfl⟩:∃ j,k=j+1:=⟨k - 1,by omega⟩
  have ha:=hv a (List.mem_cons_self ..)
  rw[List.length_cons] at hl
  have hlen:(a :: R).reverse.length=R.length+1:=by simp
  have w:IntKind.i64.wrap (((R.length+1:Nat):Int) - 1)=(R.length:Int):=by rw[Cx (by omega)];omega
  have hset:∀ v:Int,((a :: R).reverse).set R.length v=R.reverse++[v]:=by
   intro v;rw[List.reverse_cons,List.set_append_right _ _ (by simp)];simp
  have g1:idx (a :: R).reverse (R.length:Int)=some a:=by rw[Qg,List.reverse_cons,List.getElem?_append_right (by simp)];simp
  have g2:∀ v:Int,idx (R.reverse++[v]) (R.length:Int)=some v:=by intro v;rw[Qg,List.getElem?_append_right (by simp)];simp
  rw[Ht,hlen,A6 (by omega),w,g1]
  simp only[A1,Int.toNat_natCast,hset,g2]
  rw[Cx (n:=a - 1) (by omega),Mk]
  by_cases c:0 < a - 1
  ·rw[A6 c,if_pos c,List.reverse_cons]
  ·have c2:(decide (0≤(R.length:Int))&&decide ((R.length:Int)≤(((R.reverse++[a - 1]).length:Nat):Int)))=true:=by
    rw[decide_eq_true (by omega),decide_eq_true (by simp;omega)];rfl
   have e:List.take R.length (R.reverse++[a - 1])=R.reverse:=by
    rw[List.take_append_of_le_length (by simp),List.take_of_length_le (by simp)]
   rw[Aq c,if_neg c,c2,Af,e]
   exact ih k (by rw[List.length_cons] at hk;omega) (by omega) (fun v h=>hv v (List.mem_cons_of_mem _ h))
theorem Abs:∀ (R:List Int),(∀ v ∈ R,1≤v∧v≤2)→(∀ v ∈ Mk R,1≤v∧v≤2)∧(Mk R).length≤R.length:=by
 intro R
 induction R with
 | nil=>intro h;exact⟨h,Nat.le_refl _⟩
 | cons a R ih =>
  intro h
  have ha:=h a (List.mem_cons_self ..)
  have hR:∀ v ∈ R,1≤v∧v≤2:=fun v hv=>h v (List.mem_cons_of_mem _ hv)
  rw[Mk]
  split
  ·exact⟨fun v hv=>by rcases List.mem_cons.1 hv with rfl | hv;exact⟨by omega,by omega⟩;exact hR v hv,by simp⟩
  ·exact⟨(ih hR).1,by have:=(ih hR).2;simp;omega⟩
theorem Ak6 (n:Nat) (l:List Nd) (hl:l.length < 100000) (hn:l.length+2 < n) {k:Nat} (hk:l.length < k):Fu n l k 0 0 []=some (.out ((Ff l (0,[])).1,(Ff l (0,[])).2.reverse)):=by
 refine Qy l (fun k i (s:Int×List Int)=>Fu n l k s.1 (i:Int) s.2.reverse) (fun l s=>some (.out ((Ff l s).1,(Ff l s).2.reverse)))
  (fun i s=>s.2.length≤i∧∀ v ∈ s.2,1≤v∧v≤2) (s:=(0,[])) hk ⟨Nat.le_refl _,by simp⟩ ?_ ?_
 ·intro k s hs
  rw[Fu,Aq (by omega)];rfl
 ·rintro k i ⟨m,R⟩ x hi hx ⟨r1,r2⟩ ih
  dsimp only at r1 r2 ⊢
  obtain⟨n,rfl⟩:∃ j,n=j+1:=⟨n - 1,by omega⟩
  rw[Fu,A6 (by omega),Cn hx,A1,A9e,A1,Ay i (by omega),List.length_reverse,Ff]
  by_cases c:0 < Dl x.B3
  ·rw[A6 c,if_pos c,A6 (by omega),← List.reverse_cons]
   refine ih (_,_ :: R) ⟨by simp;omega,fun v hv=>?_⟩
   rcases List.mem_cons.1 hv with rfl | hv
   ·rcases Uj x.B3 with g | g | g | g<;>omega
   ·exact r2 v hv
  ·have hc:=Abs R r2
   rw[Aq c,if_neg c,Aj1 (n+1) R (n+1) (by omega) (by omega) r2,A1]
   exact ih (_,Mk R) ⟨by dsimp only;omega,hc.1⟩
theorem Tr.dep_lt (t:Tr):t.dep < t.flat.length:=by
 induction t with
 | leaf x=>simp[Tr.dep,Tr.flat]
 | un x a ih=>simp[Tr.dep,Tr.flat];omega
 | bin x a b iha ihb=>simp[Tr.dep,Tr.flat];omega
def E2 (x:Nd):Bool:=!decide (x.Ab < 0)&&(if x.B3=1 then decide (0≤x.Bs∧x.Bs≤9999)&&(x.Ao==[]&&x.Cq==[])
 else if x.B3=2∨x.B3=3 then x.Bs==0&&(Cp x.Ao&&x.Cq==[]) else if x.B3=4 then x.Bs==0&&(Cp x.Ao&&Cp x.Cq) else x.Bs==0&&(x.Ao==[]&&x.Cq==[]))
theorem Apf (n:Nat) (x:Nd):Po (n+2) x=some (E2 x):=by
 rw[Po,E2]
 by_cases c:x.Ab < 0
 ·rw[A6 c,decide_eq_true c];rfl
 rw[Aq c,decide_eq_false c]
 simp only[Dp,A1,beq_self_eq_true,Bool.true_and,Bool.and_true,Bool.not_false]
 by_cases c1:x.B3=1
 ·rw[if_pos c1,c1]
  simp only[beq_self_eq_true,Af]
  cases (x.Ao==[])<;>cases (x.Cq==[])<;>by_cases h:0≤x.Bs<;>by_cases h2:x.Bs≤9999<;>simp[h,h2]
 rw[if_neg c1,Ca.2 c1]
 by_cases c4:x.B3=4
 ·rw[if_neg (by omega),if_pos c4,c4]
  simp only[beq_self_eq_true,Af,An]
  cases Cp x.Cq<;>cases Cp x.Ao<;>cases (x.Bs==0)<;>rfl
 rw[if_neg c4,Ca.2 c4]
 by_cases c2:x.B3=2
 ·rw[if_pos (.inl c2),c2]
  simp only[beq_self_eq_true,Af,An]
  cases Cp x.Ao<;>cases (x.Bs==0)<;>cases (x.Cq==[])<;>rfl
 rw[Ca.2 c2]
 by_cases c3:x.B3=3
 ·rw[if_pos (.inr c3),c3]
  simp only[beq_self_eq_true,Af,An]
  cases Cp x.Ao<;>cases (x.Bs==0)<;>cases (x.Cq==[])<;>rfl
 rw[if_neg (by omega),Ca.2 c3]
 rfl
def Ep (l:List Nd):Bool:=decide (1≤l.length∧l.length≤200)&&(decide (H6 l 1=some l.length)&&(l.all E2&&decide ((Ff l (0,[])).1≤30)))
theorem A6r (n:Nat) (l:List Nd) (hl:l.length < 100000) (hn:l.length+4 < n):Lz n l=some (Ff l (0,[])).1:=by
 obtain⟨n,rfl⟩:∃ j,n=j+1:=⟨n - 1,by omega⟩
 rw[Lz,Ak6 n l hl (by omega) (by omega)];rfl
theorem Amf (l:List Nd) (hl:1≤l.length):(A06 l 0 != (l.length:Int))=!decide (H6 l 1=some l.length):=by
 have e:A06 l 0=match H6 l 1 with | some j=>((j:Nat):Int) | none=> -1:=by
  rw[A06,if_neg (by omega)]
  show(match H6 l 1 with | some j=>(0:Int)+(j:Int) | none=> -1)=_
  cases H6 l 1 with
  | none=>rfl
  | some j=>simp
 rw[e]
 cases H6 l 1 with
 | none =>
  show((-1:Int) != (l.length:Int))=_
  rw[bne_iff_ne.2 (by omega)];simp
 | some j =>
  show(((j:Nat):Int) != (l.length:Int))=_
  rw[Asv]
  by_cases h:j=l.length<;>simp[h]
theorem Y6 (n:Nat) (l:List Nd) (hl:l.length < 100000) (hn:l.length+20 < n):Jx n l=some (Ep l):=by
 obtain⟨n,rfl⟩:∃ j,n=j+3:=⟨n - 3,by omega⟩
 rw[Jx,Ep]
 by_cases c1:l.length=0
 ·rw[beq_iff_eq.2 (show((l.length:Nat):Int)=0 by omega),decide_eq_false (show ¬ (1≤l.length∧l.length≤200) by omega)];rfl
 rw[Ca.2 (show((l.length:Nat):Int)≠0 by omega)]
 by_cases c2:200 < (l.length:Int)
 ·rw[A6 c2,decide_eq_false (show ¬ (1≤l.length∧l.length≤200) by omega)];rfl
 have hL:Gq (n+2) l (n+2) 0=bif l.all E2 then some (.out ()) else some (.ret false):=by
  refine Nh l (fun k i=>Gq (n+2) l k (i:Int)) _ (fun k=>?_) (fun k i x hi hx=>?_) (by omega)
  ·rw[Gq,Aq (by omega)]
  ·rw[Gq,A6 (by omega),Cn hx,A1,Apf,A1,Ay i (by omega)]
 rw[Aq c2,Ats (n+2) l 0 (by omega) (by omega),A1,Amf l (by omega),hL,decide_eq_true (show 1≤l.length∧l.length≤200 by omega)]
 simp only[An,A6r (n+2) l hl (by omega)]
 cases decide (H6 l 1=some l.length) with
 | false=>rfl
 | true=>cases l.all E2<;>rfl
def Hn (l:List Nd):Bool:=decide (l.length≤250)&&l.all fun x=>decide (x.Ao.length≤100∧x.Cq.length≤100)
theorem Ad8 (n:Nat) (l:List Nd) (hn:260 < n):Sm n l=some (Hn l):=by
 obtain⟨n,rfl⟩:∃ j,n=j+1:=⟨n - 1,by omega⟩
 rw[Sm,Hn]
 by_cases c:250 < (l.length:Int)
 ·rw[A6 c,decide_eq_false (by omega)];rfl
 have hL:On n l n 0=bif l.all (fun x=>decide (x.Ao.length≤100∧x.Cq.length≤100)) then some (.out ()) else some (.ret false):=by
  refine Nh l (fun k i=>On n l k (i:Int)) _ (fun k=>?_) (fun k i x hi hx=>?_) (by omega)
  ·rw[On,Aq (by omega)]
  ·rw[On,A6 (by omega),Cn hx,A1,A1,Ay i (by omega)]
   by_cases h1:100 < (x.Ao.length:Int)
   ·rw[A6 h1,Aq (by omega)]
   ·by_cases h2:100 < (x.Cq.length:Int)
    ·rw[Aq h1,A6 h2,Aq (by omega)]
    ·rw[Aq h1,Aq h2,A6 (by omega)]
 rw[Aq c,hL,decide_eq_true (by omega)]
 cases List.all l _<;>rfl
def tkS (t:Tok):A5:=⟨t.kind,t.text,t.n,t.at'⟩
def Rc (r:Z8):List A5×Int×Int:=(r.toks.map tkS,r.err,r.at')
def A32 (r:LR (List A5) (List A5×Int×Int)):List A5×Int×Int:=match r with
 | .out x=>(x,0,0)
 | .ret x=>x
theorem Ac3 (n:Nat) (c:Int):Me (n+1) c=some (Et c):=by
 rw[Me]
 by_cases h1:97≤c<;>by_cases h2:c≤122<;>by_cases h3:65≤c<;>by_cases h4:c≤90<;>simp[Et,h1,h2,h3,h4]<;>(by_cases h5:c=95<;>simp[h5])
theorem Afv (n:Nat) (c:Int):Nt (n+1) c=some (Cv c):=by
 rw[Nt]
 by_cases h1:48≤c<;>simp[Cv,h1]
theorem Ad1 (c:UInt8):IntKind.i32.wrap (c.toNat:Int)=(c.toNat:Int):=by
 have:=c.toNat_lt
 simp only[IntKind.wrap,IntKind.bits,IntKind.signed,Bool.true_and]
 split<;>simp at* <;>omega
theorem Lo (c:UInt8) (k:Int) (d:Nat) (hk:k=(d:Int)) (hd:d < 256):(((c.toNat:Nat):Int)==k)=(c==UInt8.ofNat d):=by
 subst hk
 rw[Bool.eq_iff_iff,beq_iff_eq,beq_iff_eq]
 constructor
 ·intro h
  have:c.toNat=d:=by omega
  rw[← this];simp
 ·intro h
  rw[h];simp;omega
def hdS (c:UInt8):Option Int:=(bif ((c.toNat:Int)==59) then(some 1) else(bif ((c.toNat:Int)==44) then(some 1) else(bif ((c.toNat:Int)==123) then(some 1) else(bif ((c.toNat:Int)==125) then(some 1) else(bif ((c.toNat:Int)==40) then(some 1) else(bif ((c.toNat:Int)==41) then(some 1) else(bif ((c.toNat:Int)==46) then(some 1) else(bif ((c.toNat:Int)==61) then(some 1) else(bif ((c.toNat:Int)==43) then(some 1) else(bif ((c.toNat:Int)==45) then(some 1) else(bif ((c.toNat:Int)==42) then(some 1) else(bif ((c.toNat:Int)==33) then(some 1) else(bif ((c.toNat:Int)==60) then(some 1) else(some 0))))))))))))))
theorem orS (b r:Bool) (x:Option Int) (h:x=some (if r=true then 1 else 0)):(bif b then some 1 else x)=some (if(b || r)=true then 1 else 0):=by
 cases b
 ·exact h
 ·rfl
theorem orT (k:Nat) (b r:Bool) (x:Option Int) (h:x=some ((if r=true then 2 else k:Nat):Int)):(bif b then some 2 else x)=some ((if(b || r)=true then 2 else k:Nat):Int):=by
 cases b
 ·exact h
 ·rfl
theorem Ano (c:UInt8):hdS c=some (if Uw.contains c then 1 else 0):=by
 unfold hdS
 rw[Lo c 59 59 rfl (by decide),Lo c 44 44 rfl (by decide),Lo c 123 123 rfl (by decide),Lo c 125 125 rfl (by decide),Lo c 40 40 rfl (by decide),Lo c 41 41 rfl (by decide),Lo c 46 46 rfl (by decide),Lo c 61 61 rfl (by decide),Lo c 43 43 rfl (by decide),Lo c 45 45 rfl (by decide),Lo c 42 42 rfl (by decide),Lo c 33 33 rfl (by decide),Lo c 60 60 rfl (by decide)]
 have:Uw.contains c=(c==UInt8.ofNat 59 || (c==UInt8.ofNat 44 || (c==UInt8.ofNat 123 || (c==UInt8.ofNat 125 || (c==UInt8.ofNat 40 || (c==UInt8.ofNat 41 || (c==UInt8.ofNat 46 || (c==UInt8.ofNat 61 || (c==UInt8.ofNat 43 || (c==UInt8.ofNat 45 || (c==UInt8.ofNat 42 || (c==UInt8.ofNat 33 || (c==UInt8.ofNat 60 || false))))))))))))):=rfl
 rw[this]
 exact orS _ _ _ (orS _ _ _ (orS _ _ _ (orS _ _ _ (orS _ _ _ (orS _ _ _ (orS _ _ _ (orS _ _ _ (orS _ _ _ (orS _ _ _ (orS _ _ _ (orS _ _ _ (orS _ _ _ rfl))))))))))))
theorem Ajm (n:Nat) (c:UInt8) (t:List UInt8):Pq (n+1) (c :: t)=some ((I8 (c :: t):Nat):Int):=by
 have hc:idx (c :: t) 0=some c:=rfl
 have hd:=Ano c
 unfold hdS at hd
 have h2:(I8 (c :: t):Nat)=if Ls.contains ((c :: t).take 2) then 2 else if Uw.contains c then 1 else 0:=rfl
 rw[Pq,hc]
 simp only[A1]
 rw[hd]
 have hl:((if Uw.contains c then 1 else 0:Nat):Int)=if Uw.contains c then 1 else 0:=by split<;>rfl
 by_cases h:2≤(((c :: t).length:Nat):Int)
 ·have hg:(decide (0≤2)&&decide ((2:Int)≤(((c :: t).length:Nat):Int)))=true:=by rw[decide_eq_true h];rfl
  rw[A6 h,hg,Af,h2,List.drop_zero,show((2:Int).toNat)=2 from rfl]
  have:Ls.contains ((c :: t).take 2)=((c :: t).take 2==[61,61] || ((c :: t).take 2==[33,61] || ((c :: t).take 2==[60,61] || ((c :: t).take 2==[38,38] || ((c :: t).take 2==[124,124] || false))))):=rfl
  rw[this]
  exact orT _ _ _ _ (orT _ _ _ _ (orT _ _ _ _ (orT _ _ _ _ (orT _ _ _ _ (congrArg some hl.symm)))))
 ·have:t=[]:=by
   cases t with
   | nil=>rfl
   | cons d t=>simp at h;omega
  subst this
  have h3:Ls.contains (([c]:List UInt8).take 2)=false:=by simp[Ls]
  rw[Aq h,h2,h3,← hl];rfl
theorem Ajj (n:Nat) (s:List UInt8) (hs:s.length≤20000):∀ (m k p:Nat) (acc:List Tok),s.length - p≤m→m < k→p≤s.length→acc.length≤p →
 (D1 (n+2) s k (p:Int) (acc.map tkS)).map A32=some (Rc (N3 s p acc)):=by
 intro m
 induction m with
 | zero =>
  intro k p acc hm hk hp ha
  obtain⟨k,rfl⟩:∃ j,k=j+1:=⟨k - 1,by omega⟩
  rw[A4h s p acc (by omega),D1,Aq (by omega)];rfl
 | succ m ih =>
  intro k p acc hm hk hp ha
  obtain⟨k,rfl⟩:∃ j,k=j+1:=⟨k - 1,by omega⟩
  by_cases c:p < s.length
  ·obtain⟨ch,t,hcons⟩:∃ ch t,s.drop p=ch :: t:=⟨_,_,List.drop_eq_getElem_cons c⟩
   have htd:t=s.drop (p+1):=by rw[← List.drop_drop,hcons];rfl
   have hlen:(s.drop p).length=s.length - p:=List.length_drop
   have hg:(decide (0≤(p:Int))&&decide ((p:Int)≤((s.length:Nat):Int)))=true:=by simp;omega
   have hx:idx (ch :: t) 0=some ch:=rfl
   have step:∀ (g:Nat),0 < g→p+g≤s.length→D7 false (s.drop p)=g+D7 false (s.drop (p+g))→(D1 (n+2) s k (IntKind.i64.wrap ((p:Int)+(g:Int))) (acc.map tkS)).map A32=some (Rc (N3 s p acc)):=by
    intro g h0 h1 h2
    rw[Cx (by omega),show(p:Int)+(g:Int)=((p+g:Nat):Int) by omega,ih k (p+g) acc (by omega) (by omega) h1 (by omega),Ad5 s p acc g hp h2]
   have tokk:∀ (kd:Int) (ln v:Nat),D7 false (s.drop p)=0→Jo (s.drop p)=.tok kd ln v →
    (bif (decide (0≤((ln:Nat):Int))&&decide (((ln:Nat):Int)≤(((s.drop p).length:Nat):Int))) then(bif decide ((List.length (acc.map tkS)+1)*41≤140737488355328) then D1 (n+2) s k (IntKind.i64.wrap ((p:Int)+(((List.drop 0 (List.take (((ln:Nat):Int).toNat) (s.drop p))).length:Nat):Int))) (acc.map tkS++([(⟨kd,List.drop 0 (List.take (((ln:Nat):Int).toNat) (s.drop p)),(v:Int),(p:Int)⟩:A5)]:List A5)) else none) else none).map A32=some (Rc (N3 s p acc)):=by
    intro kd ln v h0 h1
    obtain⟨l1,l2⟩:=Sn h1
    rw[hlen] at l2
    have g2:(decide (0≤((ln:Nat):Int))&&decide (((ln:Nat):Int)≤(((s.drop p).length:Nat):Int)))=true:=by rw[hlen];simp;omega
    rw[g2,Af,A6 (by rw[Au];omega),List.drop_zero,Int.toNat_natCast,List.length_take,hlen,show min ln (s.length - p)=ln by omega,Cx (by omega),show(p:Int)+(ln:Int)=((p+ln:Nat):Int) by omega]
    have hh:=ih k (p+ln) (acc++[⟨kd,(s.drop p).take ln,v,(p:Nat)⟩]) (by omega) (by omega) (by omega) (by simp;omega)
    rw[List.map_append] at hh
    rw[Ach s p acc kd ln v h0 c h1]
    exact hh
   have errk:∀ (e:Int),D7 false (s.drop p)=0→Jo (s.drop p)=.err e→(some (LR.ret (([]:List A5),e,(p:Int))):Option (LR (List A5) (List A5×Int×Int))).map A32=some (Rc (N3 s p acc)):=by
    intro e h0 h1
    rw[Abx s p acc e h0 c h1];rfl
   rw[D1,A6 (by omega),hg,Af,Int.toNat_natCast,List.take_length]
   rw[hcons] at step tokk errk hlen ⊢
   rw[hx,A1,Ad1]
   have hle:(ch :: t).length≤20000:=by rw[hlen];omega
   by_cases hb:Ji (ch.toNat:Int)=true
   ·have e1:=step 1 (by omega) (by omega) (by rw[Zd hb,htd])
    unfold Ji at hb
    rw[C1] at hb
    rcases hb with h | h | h | h<;>rw[h]<;>exact e1
   ·have hb':Ji (ch.toNat:Int)=false:=by simpa using hb
    have hnb:=hb'
    unfold Ji at hnb
    rw[decide_eq_false_iff_not] at hnb
    rw[Ca.2 (show((ch.toNat:Nat):Int)≠32 by omega),Ca.2 (show((ch.toNat:Nat):Int)≠9 by omega),Ca.2 (show((ch.toNat:Nat):Int)≠10 by omega),Ca.2 (show((ch.toNat:Nat):Int)≠13 by omega)]
    simp only[An]
    by_cases h35:ch.toNat=35
    ·have hl1:1≤Cj Kz (ch :: t):=by rw[Kj,if_pos (by rw[h35];decide)];omega
     have hl2:=S7 Kz (ch :: t)
     rw[hlen] at hl2
     have e1:=step (Cj Kz (ch :: t)) (by omega) (by omega) (by rw[A3m h35,← hcons,List.drop_drop])
     rw[h35,show(((35:Nat):Int)==35)=true from rfl,Af,Pr,A1]
     exact e1
    ·have h0:=A3u (t:=t) hb' h35
     have tk:=fun kd ln v=>tokk kd ln v h0
     have ek:=fun e=>errk e h0
     rw[Ca.2 (show((ch.toNat:Nat):Int)≠35 by omega),An,Ac3,A1]
     simp only[Jo] at tk ek
     cases hL:Et (ch.toNat:Int) with
     | true =>
      rw[hL] at tk ek
      simp only[if_true] at tk ek
      rw[Af,Pk,A1]
      by_cases hr:16 < Cj H8 (ch :: t)
      ·rw[A6 (by omega)]
       exact ek 2 (by rw[if_pos hr])
      ·rw[Aq (by omega)]
       exact tk 1 _ 0 (by rw[if_neg hr])
     | false =>
      rw[hL] at tk ek
      simp only[Bool.false_eq_true,if_false] at tk ek
      rw[An,Afv,A1]
      cases hD:Cv (ch.toNat:Int) with
      | true =>
       rw[hD] at tk ek
       simp only[if_true] at tk ek
       have hrl:=S7 Cv (ch :: t)
       have g3:(decide (0≤((Cj Cv (ch :: t):Nat):Int))&&decide (((Cj Cv (ch :: t):Nat):Int)≤(((ch :: t).length:Nat):Int)))=true:=by rw[decide_eq_true (by omega),decide_eq_true (by omega)];rfl
       have hall:((ch :: t).take (Cj Cv (ch :: t))).all (fun c=>Cv c.toNat)=true:=by
        unfold Cj
        rw[List.all_eq_true]
        have:(ch :: t).take ((ch :: t).takeWhile fun c=>Cv c.toNat).length=(ch :: t).takeWhile fun c=>Cv c.toNat:=List.prefix_iff_eq_take.1 (List.takeWhile_prefix _) |>.symm
        rw[this]
        intro x hx
        have h4:∀ (q:UInt8→Bool) (l:List UInt8) (x:UInt8),x ∈ l.takeWhile q→q x=true:=fun q l=>by
         induction l with
         | nil=>simp
         | cons a t ih =>
          intro x hx
          rw[List.takeWhile_cons] at hx
          split at hx
          ·rcases List.mem_cons.1 hx with rfl | hx
           ·assumption
           ·exact ih x hx
          ·simp at hx
        exact h4 _ _ x hx
       have tk2:=tk 2 (Cj Cv (ch :: t)) (Ku ((ch :: t).take (Cj Cv (ch :: t))))
       rw[g3,Af] at tk2
       rw[Af,Qk,A1,g3,Af,Af,List.drop_zero,Int.toNat_natCast,Vo,hall,Af,A1]
       rw[List.drop_zero,Int.toNat_natCast] at tk2
       by_cases hr:9999 < Ku ((ch :: t).take (Cj Cv (ch :: t)))
       ·rw[A6 (by omega)]
        exact ek 4 (by rw[if_pos hr])
       ·rw[Aq (by omega)]
        exact tk2 (by rw[if_neg hr])
      | false =>
       rw[hD] at tk ek
       simp only[Bool.false_eq_true,if_false] at tk ek
       rw[An,Ajm,A1]
       by_cases hz:I8 (ch :: t)=0
       ·rw[hz,show((((0:Nat):Int))==0)=true from rfl,Af]
        exact ek 3 (by rw[if_pos hz])
       ·rw[Ca.2 (show((I8 (ch :: t):Nat):Int)≠0 by omega),An]
        exact tk 3 _ 0 (by rw[if_neg hz])
  ·rw[A4h s p acc (by omega),D1,Aq (by omega)];rfl
theorem Ae0 (n:Nat) (s:List UInt8) (hn:s.length+50 < n∨20000 < s.length∧0 < n):Pf n s=some (Rc (Hr s)):=by
 obtain⟨n,rfl⟩:∃ j,n=j+1:=⟨n - 1,by omega⟩
 rw[Pf,Hr]
 by_cases c:20000 < (s.length:Int)
 ·rw[A6 c,if_pos (by omega)];rfl
 ·rw[Aq c,if_neg (by omega)]
  obtain⟨n,rfl⟩:∃ j,n=j+2:=⟨n - 2,by omega⟩
  obtain⟨r,h1,h2⟩:=Option.map_eq_some_iff.1 (Ajj n s (by omega) s.length (n+2) 0 [] (by omega) (by omega) (by omega) (by simp))
  have h1:D1 (n+2) s (n+2) 0 []=some r:=h1
  rw[h1,A1]
  have h2:A32 r=Rc (Ed (s.length+1) s 0 []):=h2
  rw[← h2]
  cases r<;>rfl
def Ki (n:Int):List UInt8:=(F8 5 n).getD []
theorem Adw {x:Nd}:Dl x.B3=0↔1≤x.B3∧x.B3≤4:=by
 unfold Dl;repeat' split
 all_goals omega
theorem B3a:∀ (j:Nat) (x:Int),j < 10→0≤x→x < 100000→x < 10 ^ (j+1)→∃ d:List UInt8,d.length≤j+1∧∀ k,j < k→F8 k x=some d:=by
 intro j
 induction j with
 | zero =>
  intro x _ h0 _ h1
  refine⟨[UInt8.ofNat (IntKind.u8.wrap (IntKind.i64.wrap (48+x))).toNat],by simp,fun k hk=>?_⟩
  obtain⟨k,rfl⟩:∃ i,k=i+1:=⟨k - 1,by omega⟩
  rw[F8,A6 (by simp at h1;omega)]
 | succ j ih =>
  intro x hj h0 hx h1
  by_cases c:x < 10
  ·refine⟨[UInt8.ofNat (IntKind.u8.wrap (IntKind.i64.wrap (48+x))).toNat],by simp,fun k hk=>?_⟩
   obtain⟨k,rfl⟩:∃ i,k=i+1:=⟨k - 1,by omega⟩
   rw[F8,A6 c]
  ·have hp:(10:Int) ^ (j+1+1)=10 ^ (j+1)*10:=Int.pow_succ 10 (j+1)
   obtain⟨d,d1,d2⟩:=ih (x / 10) (by omega) (by omega) (by omega) (by omega)
   refine⟨d++[UInt8.ofNat (IntKind.u8.wrap (IntKind.i64.wrap (48+(Int.tmod x 10)))).toNat],by simp;omega,fun k hk=>?_⟩
   obtain⟨k,rfl⟩:∃ i,k=i+1:=⟨k - 1,by omega⟩
   rw[F8,Aq c,Int.tdiv_eq_ediv_of_nonneg h0,Cx (by omega),d2 k (by omega),A1,A6 (by simp;omega)]
theorem Amp {x:Int} (h:0≤x∧x≤9999):(Ki x).length≤4∧∀ k,4≤k→F8 k x=some (Ki x):=by
 obtain⟨d,d1,d2⟩:=B3a 3 x (by omega) h.1 (by omega) (by simp;omega)
 have:Ki x=d:=by rw[Ki,d2 5 (by omega)];rfl
 rw[this];exact⟨d1,fun k hk=>d2 k (by omega)⟩
def Ez (op:Int):List UInt8:=if op=5 then [33] else if op=6 then [43] else if op=7 then [45] else if op=8 then [42] else if op=9 then [61,61] else if op=10 then [33,61] else if op=11 then [60] else if op=12 then [60,61] else if op=13 then [38,38] else [124,124]
theorem A6q (n:Nat) {op:Int} (h:5≤op∧op≤14):Hc (n+1) op=some (Ez op)∧(Ez op).length≤2:=by
 rcases Wk op with h | h | h | h | h | h | h | h | h | h | h | h | h | h | h | h
 all_goals try omega
 all_goals subst h;exact⟨rfl,by decide⟩
def Ig:Tr→Bool→List UInt8
 | .leaf x,_=>if x.B3=1 then Ki x.Bs else if x.B3=4 then x.Cq++[46]++x.Ao else x.Ao
 | .un _ a,_=>[33]++Ig a true
 | .bin x a b,o=>bif o then([40]++(Ig a true++[32]++Ez x.B3++[32]++Ig b true))++[41] else Ig a true++[32]++Ez x.B3++[32]++Ig b true
def P0 (l:List Nd):Prop:=∀ x ∈ l,E2 x=true∧x.Ao.length≤100∧x.Cq.length≤100
theorem A78 {x:Nd} (h:E2 x=true) (h1:x.B3=1):0≤x.Bs∧x.Bs≤9999:=by
 simp only[E2,h1,if_true,Ah,C1] at h
 exact h.2.1
theorem Ac1:∀ (t:Tr) (o:Bool),t.wf→P0 t.flat→(Ig t o).length≤300*t.flat.length:=by
 intro t
 induction t with
 | leaf x =>
  intro o h hn
  have:=hn x (by simp[Tr.flat])
  have h4:=(Adw (x:=x)).1 h
  simp only[Ig,Tr.flat,List.length_cons,List.length_nil]
  split
  ·rename_i c;have:=(Amp (A78 this.1 c)).1;omega
  ·split
   ·simp;omega
   ·omega
 | un x a ih =>
  intro o h hn
  have:=ih true h.2 (fun y hy=>hn y (by simp[Tr.flat,hy]))
  simp only[Ig,Tr.flat,List.length_cons,List.length_append,List.length_nil];omega
 | bin x a b iha ihb =>
  intro o h hn
  have h1:=iha true h.2.1 (fun y hy=>hn y (by simp[Tr.flat,hy]))
  have h2:=ihb true h.2.2 (fun y hy=>hn y (by simp[Tr.flat,hy]))
  have h5:5≤x.B3∧x.B3≤14:=by have h1:=h.1;unfold Dl at h1;split at h1<;>(try split at h1)<;>(try split at h1)<;>omega
  have h3:=(A6q 0 h5).2
  cases o<;>simp only[Ig,Af,An,Tr.flat,List.length_cons,List.length_append,List.length_nil]<;>omega
theorem An5 {pre post:List Nd} {x:Nd} {r:List Nd}:idx (pre++(x :: r++post)) (pre.length:Int)=some x:=by rw[Qg,List.getElem?_append_right (by simp)];simp
theorem Ay9:∀ (t:Tr) (n:Nat) (pre post:List Nd) (o:Bool),t.wf→P0 t.flat→(pre++(t.flat++post)).length < 1000→t.dep+10 < n→I1 n (pre++(t.flat++post)) (pre.length:Int) o=some (Ig t o,((pre.length+t.flat.length:Nat):Int)):=by
 intro t
 induction t with
 | leaf x =>
  intro n pre post o h hn hl hf
  obtain⟨n,rfl⟩:∃ j,n=j+1:=⟨n - 1,by omega⟩
  have h4:=(Adw (x:=x)).1 h
  have hx:=hn x (by simp[Tr.flat])
  simp only[List.length_append,Tr.flat,List.length_cons,List.length_nil] at hl
  have g:idx (pre++((Tr.leaf x).flat++post)) (pre.length:Int)=some x:=by rw[Tr.flat];exact An5
  rw[I1,g,A1,Ay pre.length (by omega)]
  simp only[Ig,Tr.flat,List.length_cons,List.length_nil,Nat.zero_add]
  have h4':x.B3=1∨x.B3=2∨x.B3=3∨x.B3=4:=by omega
  rcases h4' with c | c | c | c<;>simp only[c]
  ·simp only[(Amp (A78 hx.1 c)).2 n (by omega)];rfl
  ·rfl
  ·rfl
  ·show(bif decide (x.Cq.length+1≤140737488355328) then _ else _)=_
   rw[A6 (by omega),A6 (by simp;omega)];rfl
 | un x a ih =>
  intro n pre post o h hn hl hf
  obtain⟨n,rfl⟩:∃ j,n=j+2:=⟨n - 2,by omega⟩
  have h5:x.B3=5:=by have h1:=h.1;unfold Dl at h1;split at h1<;>(try split at h1)<;>(try split at h1)<;>omega
  have e:pre++((Tr.un x a).flat++post)=(pre++[x])++(a.flat++post):=by simp[Tr.flat]
  have hp1:((pre++[x]).length:Int)=((pre.length+1:Nat):Int):=by simp
  have g:idx (pre++((Tr.un x a).flat++post)) (pre.length:Int)=some x:=by rw[Tr.flat];exact An5
  have hna:P0 a.flat:=fun y hy=>hn y (by simp[Tr.flat,hy])
  have i1:=ih (n+1) (pre++[x]) post true h.2 hna (by rw[← e];exact hl) (by simp only[Tr.dep] at hf;omega)
  rw[← e,hp1] at i1
  have hs:=Ac1 a true h.2 hna
  have sg:=A6q n (op:=5) (by omega)
  simp only[List.length_append,Tr.flat,List.length_cons,List.length_nil] at hl
  rw[I1,g,A1,Ay pre.length (by omega),h5]
  simp only[i1,sg.1,A1,show((5:Int)==1)=false from rfl,show((5:Int)==2)=false from rfl,show((5:Int)==3)=false from rfl,show((5:Int)==4)=false from rfl,beq_self_eq_true,An,Af]
  have e5:Ez 5=[33]:=rfl
  rw[e5,A6 (by simp;omega)]
  simp only[Ig,Tr.flat,List.length_cons,List.length_append,List.length_nil]
  congr 2;omega
 | bin x a b iha ihb =>
  intro n pre post o h hn hl hf
  obtain⟨n,rfl⟩:∃ j,n=j+2:=⟨n - 2,by omega⟩
  have h5:6≤x.B3∧x.B3≤14:=by have h1:=h.1;unfold Dl at h1;split at h1<;>(try split at h1)<;>(try split at h1)<;>omega
  have e:pre++((Tr.bin x a b).flat++post)=(pre++[x])++(a.flat++(b.flat++post)):=by simp[Tr.flat]
  have e2:pre++((Tr.bin x a b).flat++post)=(pre++[x]++a.flat)++(b.flat++post):=by simp[Tr.flat]
  have hp1:((pre++[x]).length:Int)=((pre.length+1:Nat):Int):=by simp
  have hp2:(((pre++[x]).length+a.flat.length:Nat):Int)=((pre++[x]++a.flat).length:Int):=by simp;omega
  have g:idx (pre++((Tr.bin x a b).flat++post)) (pre.length:Int)=some x:=by rw[Tr.flat];exact An5
  have hna:P0 a.flat:=fun y hy=>hn y (by simp[Tr.flat,hy])
  have hnb:P0 b.flat:=fun y hy=>hn y (by simp[Tr.flat,hy])
  simp only[Tr.dep] at hf
  have i1:=iha (n+1) (pre++[x]) (b.flat++post) true h.2.1 hna (by rw[← e];exact hl) (by omega)
  have i2:=ihb (n+1) (pre++[x]++a.flat) post true h.2.2 hnb (by rw[← e2];exact hl) (by omega)
  rw[← e,hp1,hp2] at i1
  rw[← e2] at i2
  have hs:=Ac1 a true h.2.1 hna
  have hs2:=Ac1 b true h.2.2 hnb
  have sg:=A6q n (op:=x.B3) (by omega)
  simp only[List.length_append,Tr.flat,List.length_cons,List.length_nil] at hl
  rw[I1,g,A1,Ay pre.length (by omega)]
  simp only[i1,i2,sg.1,A1,Ca.2 (show x.B3≠1 by omega),Ca.2 (show x.B3≠2 by omega),Ca.2 (show x.B3≠3 by omega),Ca.2 (show x.B3≠4 by omega),Ca.2 (show x.B3≠5 by omega),An,Af]
  have sl:=sg.2
  rw[A6 (by simp;omega),A6 (by simp;omega),A6 (by simp;omega),A6 (by simp;omega)]
  cases o with
  | false =>
   simp only[An,Ig,Tr.flat,List.length_cons,List.length_append,List.length_nil]
   congr 2;omega
  | true =>
   rw[Af,A6 (by simp;omega),A6 (by simp;omega)]
   simp only[Af,Ig,Tr.flat,List.length_cons,List.length_append,List.length_nil]
   congr 2;omega
def Gb (x:Nd):Bool:=x.B3==2 || (x.B3==3 || x.B3==4)
theorem A3n {α τ:Type} (l:List α) (p:α→Bool) (L:Nat→Nat→List α→Option (LR (List α) τ)) (h0:∀ k s,L (k+1) l.length s=some (.out s))
 (h1:∀ k i x s,i < l.length→l[i]?=some x→s.length≤i→L (k+1) i s=L k (i+1) (bif p x then s++[x] else s)) {k:Nat} (hk:l.length < k):L k 0 []=some (.out (l.filter p)):=by
 have:=Qy l L (fun l s=>some (.out (s++l.filter p))) (fun i s=>s.length≤i) (s:=[]) hk (Nat.le_refl _) (fun k s _=>by rw[h0 k];simp) ?_
 ·rw[this];rfl
 ·intro k i s x hi hx hs ih
  rw[h1 k i x s hi hx hs]
  cases hp:p x with
  | true=>rw[Af,ih _ (by simp;omega)];simp[hp]
  | false=>rw[An,ih _ (by omega)];simp[hp]
theorem A97 (n:Nat) (l:List Nd) (hl:l.length < 100000) (hn:l.length+1 < n):Lq n l=some (l.filter Gb):=by
 obtain⟨n,rfl⟩:∃ j,n=j+1:=⟨n - 1,by omega⟩
 have:Ek n l n 0 []=some (.out (l.filter Gb)):=by
  refine A3n l Gb (fun k i s=>Ek n l k (i:Int) s) (fun k s=>?_) (fun k i x s hi hx hs=>?_) (by omega)
  ·rw[Ek,Aq (by omega)]
  ·rw[Ek,A6 (by omega),Cn hx,A1,Ay i (by omega),A6 (show(s.length+1)*57≤140737488355328 by omega)]
   unfold Gb
   cases (x.B3==2)<;>cases (x.B3==3)<;>cases (x.B3==4)<;>rfl
 rw[Lq,this];rfl
theorem A3h {l:List Nd} (h:Ep l=true):∃ t:Tr,t.wf∧t.flat=l∧l.length≤200∧t.dep≤30∧1≤l.length∧l.all E2=true∧(Ff l (0,[])).1=(t.dep:Int):=by
 simp only[Ep,Ah,C1] at h
 obtain⟨h1,h2,h3,h4⟩:=h
 obtain⟨t,t1,t2,_,_⟩:=Aeu h2
 rw[List.take_length] at t2
 have:=A38 t [] 0 [] t1 (by omega)
 rw[List.append_nil,t2] at this
 have e:(Ff l (0,[])).1=(t.dep:Int):=by rw[this];simp[Ff]
 rw[e] at h4
 exact⟨t,t1,t2,h1.2,by omega,h1.1,h3,e⟩
theorem A8k {l:List UInt8} {k:Nat} (hk:k < l.length) (h:Rk l k=true):H8 l[k].toNat=true:=by
 simp only[Rk,Ax hk,Bool.or_eq_true,Ah,C1] at h
 simp only[H8,Bool.or_eq_true]
 rcases h with h | h
 ·exact .inl h
 ·exact .inr h.2
def Auk (l:List UInt8):Prop:=∃ c t,l=c :: t∧Et c.toNat=true∧(∀ k (hk:k < l.length),H8 l[k].toNat=true)∧l.length≤16
theorem S5 {l:List UInt8} (h:Cp l=true):Auk l:=by
 simp only[Cp,Ah,Bool.not_eq_true',C1,List.all_eq_true,List.mem_range] at h
 obtain⟨⟨⟨h1,h2⟩,h3⟩,_⟩:=h
 rcases l with _ | ⟨c,t⟩
 ·simp at h1
 ·refine⟨c,t,rfl,?_,fun k hk=>A8k hk (h3 k hk),h2⟩
  have:=h3 0 (by simp)
  simpa [Rk] using this
theorem A6i {c:UInt8} (h:Et c.toNat=true):Ji c.toNat=false∧c.toNat≠35:=by
 simp only[Et,C1] at h
 simp only[Ji,decide_eq_false_iff_not]
 omega
def Tok.core (t:Tok):Int×List UInt8×Int:=(t.kind,t.text,t.n)
def Amd (x:Int):UInt8:=UInt8.ofNat (IntKind.u8.wrap (IntKind.i64.wrap (48+x))).toNat
theorem Alh {x:Int} (h:0≤x∧x < 10):((Amd x).toNat:Int)=48+x:=by
 have h1:x=0∨x=1∨x=2∨x=3∨x=4∨x=5∨x=6∨x=7∨x=8∨x=9:=by omega
 rcases h1 with rfl | rfl | rfl | rfl | rfl | rfl | rfl | rfl | rfl | rfl<;>decide
theorem Aed (d:List UInt8) (c:UInt8):Ku (d++[c])=min (10*Ku d+(c.toNat - 48)) 10000:=by
 simp[Ku,List.foldl_append]
theorem B37:∀ (j:Nat) (x:Int),j < 10→0≤x→x < 10000→x < 10 ^ (j+1)→∃ d:List UInt8,d.length≤j+1∧(∀ k,j < k→F8 k x=some d)∧d.all (fun c=>Cv c.toNat)=true∧(Ku d:Int)=x∧d≠[]:=by
 intro j
 have base:∀ (j:Nat) (x:Int),0≤x→x < 10→∃ d:List UInt8,d.length≤j+1∧(∀ k,j < k→F8 k x=some d)∧d.all (fun c=>Cv c.toNat)=true∧(Ku d:Int)=x∧d≠[]:=by
  intro j x h0 h1
  have hb:=Alh ⟨h0,h1⟩
  refine⟨[Amd x],by simp,fun k hk=>?_,?_,?_,by simp⟩
  ·obtain⟨k,rfl⟩:∃ i,k=i+1:=⟨k - 1,by omega⟩
   rw[F8,A6 h1];rfl
  ·simp only[List.all_cons,List.all_nil,Bool.and_true]
   unfold Cv;exact decide_eq_true (by omega)
  ·have:=Aed [] (Amd x)
   have e0:Ku []=0:=rfl
   rw[List.nil_append,e0] at this
   rw[this];omega
 induction j with
 | zero=>intro x _ h0 _ h1;exact base 0 x h0 (by simp at h1;omega)
 | succ j ih =>
  intro x hj h0 hx h1
  by_cases c:x < 10
  ·exact base _ x h0 c
  ·have hp:(10:Int) ^ (j+1+1)=10 ^ (j+1)*10:=Int.pow_succ 10 (j+1)
   obtain⟨d,d1,d2,d3,d4,d5⟩:=ih (x / 10) (by omega) (by omega) (by omega) (by omega)
   have hb:=Alh (x:=x % 10) ⟨by omega,by omega⟩
   have hm:Int.tmod x 10=x % 10:=Int.tmod_eq_emod_of_nonneg h0
   refine⟨d++[Amd (x % 10)],by simp;omega,fun k hk=>?_,?_,?_,by simp⟩
   ·obtain⟨k,rfl⟩:∃ i,k=i+1:=⟨k - 1,by omega⟩
    rw[F8,Aq c,Int.tdiv_eq_ediv_of_nonneg h0,Cx (by omega),d2 k (by omega),A1,A6 (by simp;omega),hm];rfl
   ·simp only[List.all_append,d3,List.all_cons,List.all_nil,Bool.and_true,Bool.true_and]
    unfold Cv;exact decide_eq_true (by omega)
   ·rw[Aed];omega
theorem Aci {x:Int} (h:0≤x∧x≤9999):(Ki x).all (fun c=>Cv c.toNat)=true∧(Ku (Ki x):Int)=x∧Ki x≠[]:=by
 obtain⟨d,d1,d2,d3,d4,d5⟩:=B37 3 x (by omega) h.1 (by omega) (by simp;omega)
 have:Ki x=d:=by rw[Ki,d2 5 (by omega)];rfl
 rw[this];exact⟨d3,d4,d5⟩
def A6s (r:List UInt8):Prop:=r=[]∨∃ c t,r=c :: t∧H8 c.toNat=false
theorem Aau {p:Int→Bool} {w r:List UInt8} (hw:∀ c ∈ w,p c.toNat=true) (hr:r=[]∨∃ c t,r=c :: t∧p c.toNat=false):Cj p (w++r)=w.length:=by
 induction w with
 | nil =>
  rcases hr with rfl | ⟨c,t,rfl,hc⟩
  ·simp[Cj]
  ·rw[List.nil_append,Kj,if_neg (by rw[hc];simp)];rfl
 | cons a w ih=>rw[List.cons_append,Kj,if_pos (hw a (List.mem_cons_self ..)),ih fun c hc=>hw c (List.mem_cons_of_mem _ hc)];simp
theorem Az6 {w r:List UInt8} (h:Cp w=true) (hr:A6s r):Jo (w++r)=.tok 1 w.length 0:=by
 obtain⟨c,t,rfl,h1,h2,h3⟩:=S5 h
 have hrun:Cj H8 (c :: t++r)=(c :: t).length:=Aau (fun d hd=>by
  obtain⟨k,hk,rfl⟩:=List.mem_iff_getElem.1 hd
  exact h2 k hk) hr
 rw[List.cons_append] at hrun ⊢
 show(if Et c.toNat then _ else _)=_
 rw[if_pos h1,hrun,if_neg (by omega)]
theorem B08 {x:Int} (hx:0≤x∧x≤9999) {r:List UInt8} (hr:A6s r):Jo (Ki x++r)=.tok 2 (Ki x).length x.toNat:=by
 obtain⟨h1,h2,h3⟩:=Aci hx
 obtain⟨c,t,hw⟩:=List.exists_cons_of_ne_nil h3
 have hd:Cv c.toNat=true:=by
  rw[hw] at h1;simp only[List.all_cons,Ah] at h1;exact h1.1
 have hl:Et c.toNat=false:=by
  unfold Cv at hd;unfold Et;rw[C1] at hd;exact decide_eq_false (by omega)
 have hrun:Cj Cv (Ki x++r)=(Ki x).length:=Aau (fun d hd=>List.all_eq_true.1 h1 d hd) (by
  rcases hr with rfl | ⟨c,t,rfl,hc⟩
  ·exact .inl rfl
  ·refine .inr ⟨c,t,rfl,?_⟩
   unfold H8 at hc;simp only[Bool.or_eq_false_iff] at hc;exact hc.2)
 have e:Jo (Ki x++r)=if Et c.toNat then(if Cj H8 (Ki x++r) > 16 then .err 2 else .tok 1 (Cj H8 (Ki x++r)) 0)
  else if Cv c.toNat then(if Ku ((Ki x++r).take (Cj Cv (Ki x++r))) > 9999 then .err 4 else .tok 2 (Cj Cv (Ki x++r)) (Ku ((Ki x++r).take (Cj Cv (Ki x++r)))))
  else if I8 (Ki x++r)=0 then .err 3 else .tok 3 (I8 (Ki x++r)) 0:=by rw[hw];rfl
 rw[e,hl,hd,hrun]
 have ht:(Ki x++r).take (Ki x).length=Ki x:=by rw[List.take_append_of_le_length (Nat.le_refl _),List.take_length]
 rw[ht,if_neg (by simp),if_pos rfl,if_neg (by omega)]
 congr 1;omega
theorem Ayb {op:Int} (h:6≤op∧op≤14) (r:List UInt8):Jo (Ez op++32 :: r)=.tok 3 (Ez op).length 0:=by
 rcases Wk op with h | h | h | h | h | h | h | h | h | h | h | h | h | h | h | h
 all_goals try omega
 all_goals subst h;rfl
theorem Azb (r:List UInt8):Jo (40 :: r)=.tok 3 1 0:=by cases r<;>rfl
theorem Awj (r:List UInt8):Jo (41 :: r)=.tok 3 1 0:=by cases r<;>rfl
theorem B0f (r:List UInt8):Jo (46 :: r)=.tok 3 1 0:=by cases r<;>rfl
theorem B0h {r:List UInt8} (h:∀ t,r≠61 :: t):Jo (33 :: r)=.tok 3 1 0:=by
 cases r with
 | nil=>rfl
 | cons c t =>
  have hc:c≠61:=fun e=>h t (by rw[e])
  have e:I8 (33 :: c :: t)=1:=by
   unfold I8
   have:Ls.contains ((33 :: c :: t).take 2)=false:=by
    simp only[List.take_succ_cons,List.take_zero,Ls,List.contains_cons,List.contains_nil,Bool.or_false]
    simp[hc]
   rw[this];rfl
  have e2:Jo (33 :: c :: t)=if I8 (33 :: c :: t)=0 then .err 3 else .tok 3 (I8 (33 :: c :: t)) 0:=rfl
  rw[e2,e];rfl
abbrev Ck:=Int×List UInt8×Int
def It:Tr→Bool→List Ck
 | .leaf x,_=>if x.B3=1 then [(2,Ki x.Bs,x.Bs)] else if x.B3=4 then [(1,x.Cq,0),(3,[46],0),(1,x.Ao,0)] else [(1,x.Ao,0)]
 | .un _ a,_=>(3,[33],0) :: It a true
 | .bin x a b,o=>bif o then(3,[40],0) :: ((It a true++(3,Ez x.B3,0) :: It b true)++[(3,[41],0)]) else It a true++(3,Ez x.B3,0) :: It b true
def Seg (ok:List UInt8→Prop) (s:List UInt8) (ts:List Ck):Prop:=∀ (rest:List UInt8) (p:Nat) (acc:List Tok),ok rest→∃ toks:List Tok,toks.map Tok.core=ts∧∀ f f',(s++rest).length < f→rest.length < f'→Ed f (s++rest) p acc=Ed f' rest (p+s.length) (acc++toks)
theorem Xi {ok:List UInt8→Prop} {w:List UInt8} {k:Int} {v:Nat} (hw:w≠[]) (hb:∀ c t,w=c :: t→Ji c.toNat=false∧c.toNat≠35) (h:∀ r,ok r→Jo (w++r)=.tok k w.length v):Seg ok w [(k,w,(v:Int))]:=by
 intro rest p acc hr
 refine⟨[⟨k,w,v,(p:Nat)⟩],rfl,fun f f' hf hf'=>?_⟩
 obtain⟨f,rfl⟩:∃ j,f=j+1:=⟨f - 1,by omega⟩
 obtain⟨c,t,rfl⟩:=List.exists_cons_of_ne_nil hw
 have ho:=h rest hr
 have hg:D7 false (c :: t++rest)=0:=A3u (hb c t rfl).1 (hb c t rfl).2
 rw[Ed,hg,List.drop_zero]
 rw[List.cons_append] at ho ⊢
 simp only[ho]
 have e1:(c :: (t++rest)).drop (c :: t).length=rest:=by rw[← List.cons_append,List.drop_left]
 have e2:(c :: (t++rest)).take (c :: t).length=c :: t:=by rw[← List.cons_append,List.take_left]
 rw[e1,e2]
 simp only[Nat.add_zero]
 exact Vs f f' _ _ _ (by simp at hf;omega) hf'
theorem Co {ok1 ok2:List UInt8→Prop} {s1 s2:List UInt8} {t1 t2:List Ck} (h1:Seg ok1 s1 t1) (h2:Seg ok2 s2 t2) (h:∀ r,ok2 r→ok1 (s2++r)):Seg ok2 (s1++s2) (t1++t2):=by
 intro rest p acc hr
 obtain⟨k1,a1,a2⟩:=h1 (s2++rest) p acc (h rest hr)
 obtain⟨k2,b1,b2⟩:=h2 rest (p+s1.length) (acc++k1) hr
 refine⟨k1++k2,by rw[List.map_append,a1,b1],fun f f' hf hf'=>?_⟩
 rw[List.append_assoc] at hf ⊢
 rw[a2 f ((s2++rest).length+1) hf (by omega),b2 _ f' (by omega) hf',List.length_append,List.append_assoc,Nat.add_assoc]
theorem Mx {ok:List UInt8→Prop} {s:List UInt8} {t:List Ck} (h:Seg ok s t):Seg ok (32 :: s) t:=by
 intro rest p acc hr
 obtain⟨k1,a1,a2⟩:=h rest (p+1) acc hr
 refine⟨k1,a1,fun f f' hf hf'=>?_⟩
 obtain⟨f,rfl⟩:∃ j,f=j+1:=⟨f - 1,by omega⟩
 have hg:D7 false (32 :: (s++rest))=1+D7 false (s++rest):=Zd (by decide)
 have e:Ed (f+1) (32 :: (s++rest)) p acc=Ed (f+1) (s++rest) (p+1) acc:=by
  rw[Ed,Ed,hg]
  have:(32 :: (s++rest)).drop (1+D7 false (s++rest))=(s++rest).drop (D7 false (s++rest)):=by rw[Nat.add_comm,List.drop_succ_cons]
  rw[this]
  have e3:p+(1+D7 false (s++rest))=p+1+D7 false (s++rest):=by omega
  rw[e3]
 rw[List.cons_append,e,a2 (f+1) f' (by simp at hf ⊢;omega) hf',List.length_cons]
 congr 1;omega
def OkE (r:List UInt8):Prop:=r=[]∨∃ t,r=32 :: t∨r=41 :: t∨r=44 :: t∨r=59 :: t∨r=10 :: t
theorem A5m {r:List UInt8} (h:OkE r):A6s r:=by
 rcases h with rfl | ⟨t,rfl | rfl | rfl | rfl | rfl⟩
 ·exact .inl rfl
 ·exact .inr ⟨32,t,rfl,by decide⟩
 ·exact .inr ⟨41,t,rfl,by decide⟩
 ·exact .inr ⟨44,t,rfl,by decide⟩
 ·exact .inr ⟨59,t,rfl,by decide⟩
 ·exact .inr ⟨10,t,rfl,by decide⟩
theorem A6d {ok ok2:List UInt8→Prop} {s:List UInt8} {t:List Ck} (h:Seg ok s t) (hk:∀ r,ok2 r→ok r):Seg ok2 s t:=fun rest p acc hr=>h rest p acc (hk rest hr)
theorem Ali {w:List UInt8} (h:Cp w=true):∃ c t,w=c :: t∧Et c.toNat=true:=by
 obtain⟨c,t,h1,h2,_⟩:=S5 h
 exact⟨c,t,h1,h2⟩
theorem Wc {w:List UInt8} (h:Cp w=true):Seg A6s w [(1,w,0)]:=by
 obtain⟨c,t,rfl,hl⟩:=Ali h
 exact Xi (by simp) (fun d u e=>by
  obtain⟨rfl,rfl⟩:=List.cons.inj e
  exact A6i hl) (fun r hr=>Az6 h hr)
theorem Ah0 {c:UInt8} (h:Cv c.toNat=true):Ji c.toNat=false∧c.toNat≠35:=by
 unfold Cv at h;rw[C1] at h
 refine⟨?_,by omega⟩
 unfold Ji;exact decide_eq_false (by omega)
theorem Aj9 {x:Int} (h:0≤x∧x≤9999):Seg A6s (Ki x) [(2,Ki x,x)]:=by
 obtain⟨h1,h2,h3⟩:=Aci h
 have:=Xi (ok:=A6s) (w:=Ki x) (k:=2) (v:=x.toNat) h3 (fun c t e=>by
  rw[e] at h1;simp only[List.all_cons,Ah] at h1
  exact Ah0 h1.1) (fun r hr=>B08 h hr)
 rw[show((x.toNat:Nat):Int)=x by omega] at this
 exact this
theorem Ag0 {op:Int} (h:6≤op∧op≤14):Seg (fun r=>∃ t,r=32 :: t) (Ez op) [(3,Ez op,0)]:=by
 refine Xi ?_ ?_ (fun r hr=>by obtain⟨t,rfl⟩:=hr;exact Ayb h t)
 ·rcases Wk op with h | h | h | h | h | h | h | h | h | h | h | h | h | h | h | h
  all_goals try omega
  all_goals subst h;decide
 ·rcases Wk op with h | h | h | h | h | h | h | h | h | h | h | h | h | h | h | h
  all_goals try omega
  all_goals subst h;intro c t e;obtain⟨rfl,_⟩:=List.cons.inj e;decide
theorem Ayy:Seg (fun _=>True) [40] [(3,[40],0)]:=Xi (by simp) (fun c t e=>by obtain⟨rfl,_⟩:=List.cons.inj e;decide) (fun r _=>Azb r)
theorem Ax4:Seg (fun _=>True) [41] [(3,[41],0)]:=Xi (by simp) (fun c t e=>by obtain⟨rfl,_⟩:=List.cons.inj e;decide) (fun r _=>Awj r)
theorem B11:Seg (fun _=>True) [46] [(3,[46],0)]:=Xi (by simp) (fun c t e=>by obtain⟨rfl,_⟩:=List.cons.inj e;decide) (fun r _=>B0f r)
theorem B1b:Seg (fun r=>∀ t,r≠61 :: t) [33] [(3,[33],0)]:=Xi (by simp) (fun c t e=>by obtain⟨rfl,_⟩:=List.cons.inj e;decide) (fun r hr=>B0h hr)
theorem Yw {x:Nd} (h:E2 x=true) (hk:1≤x.B3∧x.B3≤4) (h1:x.B3≠1):Cp x.Ao=true∧(x.B3=4→Cp x.Cq=true):=by
 simp only[E2,Ah] at h
 have h:=h.2
 rw[if_neg h1] at h
 by_cases c:x.B3=2∨x.B3=3
 ·rw[if_pos c] at h;simp only[Ah] at h
  exact⟨h.2.1,fun e=>by omega⟩
 ·rw[if_neg c,if_pos (by omega)] at h;simp only[Ah] at h
  exact⟨h.2.1,fun _=>h.2.2⟩
theorem Av9:∀ (t:Tr) (o:Bool),t.wf→P0 t.flat→∃ c u,Ig t o=c :: u∧c≠61:=by
 have hl:∀ {w:List UInt8},Cp w=true→∃ c u,w=c :: u∧c≠61:=by
  intro w h
  obtain⟨c,u,e,h2⟩:=Ali h
  refine⟨c,u,e,fun e=>?_⟩
  subst e;revert h2;decide
 intro t
 induction t with
 | leaf x =>
  intro o h hn
  have hk:=Adw.1 h
  have hx:=hn x (by simp[Tr.flat])
  rw[Ig]
  by_cases c1:x.B3=1
  ·rw[if_pos c1]
   obtain⟨h1,h2,h3⟩:=Aci (A78 hx.1 c1)
   obtain⟨c,u,e⟩:=List.exists_cons_of_ne_nil h3
   refine⟨c,u,e,fun e2=>?_⟩
   rw[e,e2] at h1;simp only[List.all_cons,Ah] at h1
   exact absurd h1.1 (by decide)
  ·obtain⟨n1,n2⟩:=Yw hx.1 hk c1
   rw[if_neg c1]
   by_cases c4:x.B3=4
   ·rw[if_pos c4]
    obtain⟨c,u,e,hc⟩:=hl (n2 c4)
    exact⟨c,u++[46]++x.Ao,by rw[e];simp,hc⟩
   ·rw[if_neg c4];exact hl n1
 | un x a ih=>intro o h hn;exact⟨33,Ig a true,rfl,by decide⟩
 | bin x a b iha ihb =>
  intro o h hn
  cases o with
  | true=>exact⟨40,_,rfl,by decide⟩
  | false =>
   obtain⟨c,u,e,hc⟩:=iha true h.2.1 (fun y hy=>hn y (by simp[Tr.flat,hy]))
   exact⟨c,u++([32]++Ez x.B3++[32]++Ig b true),by rw[Ig,An,e];simp,hc⟩
theorem Az3:∀ (t:Tr) (o:Bool),t.wf→P0 t.flat→Seg OkE (Ig t o) (It t o):=by
 intro t
 induction t with
 | leaf x =>
  intro o h hn
  have hk:=Adw.1 h
  have hx:=hn x (by simp[Tr.flat])
  rw[Ig,It]
  by_cases c1:x.B3=1
  ·rw[if_pos c1,if_pos c1];exact A6d (Aj9 (A78 hx.1 c1)) fun r hr=>A5m hr
  ·obtain⟨n1,n2⟩:=Yw hx.1 hk c1
   rw[if_neg c1,if_neg c1]
   by_cases c4:x.B3=4
   ·rw[if_pos c4,if_pos c4]
    have:=Co (Co (Wc (n2 c4)) B11 (fun r _=>.inr ⟨46,r,rfl,by decide⟩)) (A6d (Wc n1) fun r hr=>A5m hr) (fun _ _=>trivial)
    simpa using this
   ·rw[if_neg c4,if_neg c4];exact A6d (Wc n1) fun r hr=>A5m hr
 | un x a ih =>
  intro o h hn
  have hna:P0 a.flat:=fun y hy=>hn y (by simp[Tr.flat,hy])
  obtain⟨c,u,e,hc⟩:=Av9 a true h.2 hna
  exact Co B1b (ih true h.2 hna) (fun r _ t ht=>by
   rw[e] at ht;exact hc (List.cons.inj ht).1)
 | bin x a b iha ihb =>
  intro o h hn
  have h5:6≤x.B3∧x.B3≤14:=by have h1:=h.1;unfold Dl at h1;split at h1<;>(try split at h1)<;>(try split at h1)<;>omega
  have ha:=iha true h.2.1 (fun y hy=>hn y (by simp[Tr.flat,hy]))
  have hb:=ihb true h.2.2 (fun y hy=>hn y (by simp[Tr.flat,hy]))
  have mid:Seg OkE (Ez x.B3++(32 :: Ig b true)) ((3,Ez x.B3,0) :: It b true):=Co (Ag0 h5) (Mx hb) (fun r _=>⟨_,rfl⟩)
  have all:=Co ha (Mx mid) (fun r _=>.inr ⟨_,.inl rfl⟩)
  have e:Ig a true++32 :: (Ez x.B3++32 :: Ig b true)=Ig a true++[32]++Ez x.B3++[32]++Ig b true:=by simp
  rw[e] at all
  cases o with
  | false=>exact all
  | true =>
   have:=Co Ayy (Co all Ax4 (fun r _=>.inr ⟨r,.inr (.inl rfl)⟩)) (fun _ _=>trivial)
   exact A6d (by simpa [Ig,It] using this) (fun _ _=>trivial)
theorem Ak7:@E9=@Bv:=by
 funext n ops l a b c d k;induction k with
 | zero=>funext x y;rfl
 | succ k ih=>funext x y;rw[E9,Bv,ih]
theorem Aiz:@E7=@Bv:=by
 funext n ops l a b c d k;induction k with
 | zero=>funext x y;rfl
 | succ k ih=>funext x y;rw[E7,Bv,ih]
theorem Ajt:@E6=@Bv:=by
 funext n ops l a b c d k;induction k with
 | zero=>funext x y;rfl
 | succ k ih=>funext x y;rw[E6,Bv,ih]
theorem Ake:@Eb=@Bv:=by
 funext n ops l a b c d k;induction k with
 | zero=>funext x y;rfl
 | succ k ih=>funext x y;rw[Eb,Bv,ih]
theorem Akh:@Eu=@Bc:=by
 funext n r ops l k;induction k with
 | zero=>funext a b c d e f;rfl
 | succ k ih=>funext a b c d e f;rw[Eu,Bc,ih,Ak7]
theorem Ajf:@Ey=@Bc:=by
 funext n r ops l k;induction k with
 | zero=>funext a b c d e f;rfl
 | succ k ih=>funext a b c d e f;rw[Ey,Bc,ih,Aiz]
theorem Ak9:@Ev=@Bc:=by
 funext n r ops l k;induction k with
 | zero=>funext a b c d e f;rfl
 | succ k ih=>funext a b c d e f;rw[Ev,Bc,ih,Ajt]
theorem Akb:@F0=@Bc:=by
 funext n r ops l k;induction k with
 | zero=>funext a b c d e f;rfl
 | succ k ih=>funext a b c d e f;rw[F0,Bc,ih,Ake]
abbrev A36:=List Nd×Int×Int×Int×Int
def Rr (n:Nat) (next:List A5→Int→Int→Int→Int→Option A36) (once:Bool) (ops:List Int) (l:List A5) (i inn e at':Int):Option A36 :=
 (next l i inn e at').bind fun y1=>(Bc n next ops l n once y1.1 y1.2.1 y1.2.2.1 y1.2.2.2.1 y1.2.2.2.2).bind fun o16=>match o16 with | .out x=>some x | .ret v=>some v
theorem Atu (n:Nat) (l:List A5) (i inn e at':Int):D8 (n+2) l i inn e at'=Rr n (D6 n) false [14] l i inn e at':=by
 rw[D8,Lk]
 unfold Rr
 cases D6 n l i inn e at' with
 | none=>rfl
 | some y1 =>
  simp only[A1]
  cases Bc n (D6 n) [14] l n false y1.1 y1.2.1 y1.2.2.1 y1.2.2.2.1 y1.2.2.2.2 with
  | none=>rfl
  | some o=>cases o<;>rfl
theorem Anl (n:Nat) (l:List A5) (i inn e at':Int):D6 (n+2) l i inn e at'=Rr n (Cm n) false [13] l i inn e at':=by
 rw[D6,Kc,Akh]
 unfold Rr
 cases Cm n l i inn e at' with
 | none=>rfl
 | some y1 =>
  simp only[A1]
  cases Bc n (Cm n) [13] l n false y1.1 y1.2.1 y1.2.2.1 y1.2.2.2.1 y1.2.2.2.2 with
  | none=>rfl
  | some o=>cases o<;>rfl
theorem Aaj (n:Nat) (l:List A5) (i inn e at':Int):Cm (n+2) l i inn e at'=Rr n (De n) true [9,10,11,12] l i inn e at':=by
 rw[Cm,Kf,Ajf]
 unfold Rr
 cases De n l i inn e at' with
 | none=>rfl
 | some y1 =>
  simp only[A1]
  cases Bc n (De n) [9,10,11,12] l n true y1.1 y1.2.1 y1.2.2.1 y1.2.2.2.1 y1.2.2.2.2 with
  | none=>rfl
  | some o=>cases o<;>rfl
theorem At9 (n:Nat) (l:List A5) (i inn e at':Int):De (n+2) l i inn e at'=Rr n (Cr n) false [6,7] l i inn e at':=by
 rw[De,Ke,Ak9]
 unfold Rr
 cases Cr n l i inn e at' with
 | none=>rfl
 | some y1 =>
  simp only[A1]
  cases Bc n (Cr n) [6,7] l n false y1.1 y1.2.1 y1.2.2.1 y1.2.2.2.1 y1.2.2.2.2 with
  | none=>rfl
  | some o=>cases o<;>rfl
theorem Abi (n:Nat) (l:List A5) (i inn e at':Int):Cr (n+2) l i inn e at'=Rr n (Bq n) false [8] l i inn e at':=by
 rw[Cr,Kd,Akb]
 unfold Rr
 cases Bq n l i inn e at' with
 | none=>rfl
 | some y1 =>
  simp only[A1]
  cases Bc n (Bq n) [8] l n false y1.1 y1.2.1 y1.2.2.1 y1.2.2.2.1 y1.2.2.2.2 with
  | none=>rfl
  | some o=>cases o<;>rfl
def Bj (l:List A5) (i:Nat) (s:List UInt8):Bool:=match l[i]? with
 | some t=>t.A7==3&&t.Ac==s
 | none=>false
theorem Rm (n:Nat) (s:List UInt8) (l:List A5) (i:Nat) (a b c:Int):Cs (n+1) s l (i:Int) a b c=some (Bj l i s):=by
 rw[Cs,Bj]
 by_cases h:i < l.length
 ·rw[A6 (by omega),C8 h,Ax h]
  simp only[A1]
  cases (l[i].A7==3)<;>rfl
 ·rw[Aq (by omega),List.getElem?_eq_none (by omega)]
def Fr (l:List A5) (i:Nat) (ops:List Int):Int:=ops.foldl (fun acc op=>bif Bj l i (Ez op) then op else acc) 0
theorem Z4 (n:Nat) (ops:List Int) (l:List A5) (i:Nat) (a b c:Int) (ho:∀ op ∈ ops,6≤op∧op≤14) (hl:ops.length≤4) {k:Nat} (hk:5 < k):Bv (n+1) ops l (i:Int) a b c k 0 0=some (.out (Fr l i ops)):=by
 refine Qy ops (fun k j acc=>Bv (n+1) ops l (i:Int) a b c k acc (j:Int)) (fun r acc=>some (.out (r.foldl (fun acc op=>bif Bj l i (Ez op) then op else acc) acc))) (fun _ _=>True) (s:=0) (by omega) trivial (fun k s _=>?_) (fun k j s x hj hx _ ih=>?_)
 ·rw[Bv,Aq (by omega)];rfl
 ·have hx6:=ho x (List.mem_of_getElem? hx)
  rw[Bv,A6 (by omega),Cn hx,A1,(A6q n (by omega)).1,A1,Rm,A1,Ay j (by omega),List.foldl_cons]
  cases Bj l i (Ez x) with
  | true=>exact ih _ trivial
  | false=>exact ih _ trivial
theorem A26 (n:Nat) (x:Nd) (X Y:List Nd) (h:X.length+Y.length < 1000000) (hn:5 < n):Cw n x [X,Y]=some (x :: (X++Y)):=by
 obtain⟨n,rfl⟩:∃ j,n=j+5:=⟨n - 5,by omega⟩
 have e0:idx [X,Y] 0=some X:=rfl
 have e1:idx [X,Y] 1=some Y:=rfl
 have w1:IntKind.i64.wrap (0+1)=1:=by decide
 have w2:IntKind.i64.wrap (1+1)=2:=by decide
 rw[Cw,Fq,A6 (by simp),e0,A1,A6 (by simp;omega),w1,Fq,A6 (by simp),e1,A1,A6 (by simp;omega),w2,Fq,Aq (by simp)]
 simp
theorem A2c (n:Nat) (x:Nd) (X:List Nd) (h:X.length < 1000000) (hn:5 < n):Cw n x [X]=some (x :: X):=by
 obtain⟨n,rfl⟩:∃ j,n=j+5:=⟨n - 5,by omega⟩
 have e0:idx [X] 0=some X:=rfl
 have w1:IntKind.i64.wrap (0+1)=1:=by decide
 rw[Cw,Fq,A6 (by simp),e0,A1,A6 (by simp;omega),w1,Fq,Aq (by simp)]
 simp
theorem A2g (n:Nat) (x:Nd) (hn:5 < n):Cw n x []=some [x]:=by
 obtain⟨n,rfl⟩:∃ j,n=j+5:=⟨n - 5,by omega⟩
 rw[Cw,Fq,Aq (by simp)];rfl
abbrev Tk:=A5
inductive PR where
 | ok (x:List Nd) (tu:Nat)
 | bad (e:Int) (a:Int)
def Fg:Nat→List Int
 | 0=>[14]
 | 1=>[13]
 | 2=>[9,10,11,12]
 | 3=>[6,7]
 | _=>[8]
def Bg (l:List Tk) (i:Nat):Int:=match l[i]? with
 | some t=>t.Ab
 | none=>match l[l.length - 1]? with
   | some t=>IntKind.i64.wrap (t.Ab+((t.Ac.length:Nat):Int))
   | none=>0
def Fj (l:List Tk) (i:Nat):Int:=if i < l.length then 5 else 6
def Acl (l:List Tk) (i:Nat):PR:=.bad (Fj l i) (Bg l i)
def isN (l:List Tk) (i:Nat):Bool:=match l[i]? with
 | some t=>t.A7==1&&Cp t.Ac
 | none=>false
def isK (l:List Tk) (i:Nat):Bool:=match l[i]? with
 | some t=>t.A7==2
 | none=>false
inductive Md where
 | fl (f:Nat)
 | lp (f:Nat) (x:List Nd)
inductive PE (l:List Tk):Md→Nat→Nat→PR→Prop
 | deep {inn i:Nat} {t:Tk}:(Bj l i [33]=true∨Bj l i [40]=true)→30≤inn→l[i]?=some t→PE l (.fl 5) inn i (.bad 7 t.Ab)
 | not_ok {inn i tu:Nat} {t:Tk} {x:List Nd}:Bj l i [33]=true→inn < 30→l[i]?=some t→PE l (.fl 5) (inn+1) (i+1) (.ok x tu)→PE l (.fl 5) inn i (.ok (⟨5,0,[],[],t.Ab⟩ :: x) tu)
 | not_bad {inn i:Nat} {e a:Int}:Bj l i [33]=true→inn < 30→PE l (.fl 5) (inn+1) (i+1) (.bad e a)→PE l (.fl 5) inn i (.bad e a)
 | par_ok {inn i tu:Nat} {x:List Nd}:Bj l i [40]=true→inn < 30→PE l (.fl 0) (inn+1) (i+1) (.ok x tu)→Bj l tu [41]=true→PE l (.fl 5) inn i (.ok x (tu+1))
 | par_bad {inn i:Nat} {e a:Int}:Bj l i [40]=true→inn < 30→PE l (.fl 0) (inn+1) (i+1) (.bad e a)→PE l (.fl 5) inn i (.bad e a)
 | par_open {inn i tu:Nat} {x:List Nd}:Bj l i [40]=true→inn < 30→PE l (.fl 0) (inn+1) (i+1) (.ok x tu)→Bj l tu [41]=false→PE l (.fl 5) inn i (Acl l tu)
 | num {inn i:Nat} {t:Tk}:isK l i=true→l[i]?=some t→PE l (.fl 5) inn i (.ok [⟨1,t.Bs,[],[],t.Ab⟩] (i+1))
 | reg {inn i:Nat} {t:Tk}:isN l i=true→Bj l (i+1) [46]=false→l[i]?=some t→PE l (.fl 5) inn i (.ok [⟨2,0,t.Ac,[],t.Ab⟩] (i+1))
 | of {inn i:Nat} {t u:Tk}:isN l i=true→Bj l (i+1) [46]=true→isN l (i+2)=true→l[i]?=some t→l[i+2]?=some u→PE l (.fl 5) inn i (.ok [⟨4,0,u.Ac,t.Ac,t.Ab⟩] (i+3))
 | of_bad {inn i:Nat}:isN l i=true→Bj l (i+1) [46]=true→isN l (i+2)=false→PE l (.fl 5) inn i (Acl l (i+2))
 | no {inn i:Nat}:Bj l i [33]=false→Bj l i [40]=false→isK l i=false→isN l i=false→PE l (.fl 5) inn i (Acl l i)
 | fl_bad {f inn i:Nat} {e a:Int}:f < 5→PE l (.fl (f+1)) inn i (.bad e a)→PE l (.fl f) inn i (.bad e a)
 | fl_ok {f inn i tu:Nat} {x:List Nd} {r:PR}:f < 5→PE l (.fl (f+1)) inn i (.ok x tu)→PE l (.lp f x) inn tu r→PE l (.fl f) inn i r
 | lp_stop {f inn i:Nat} {x:List Nd}:Fr l i (Fg f)=0→PE l (.lp f x) inn i (.ok x i)
 | lp_bad {f inn i:Nat} {x:List Nd} {e a:Int}:f < 5→Fr l i (Fg f)≠0→PE l (.fl (f+1)) inn (i+1) (.bad e a)→PE l (.lp f x) inn i (.bad e a)
 | lp_once {inn i tu:Nat} {x y:List Nd} {t:Tk}:Fr l i (Fg 2)≠0→l[i]?=some t→PE l (.fl 3) inn (i+1) (.ok y tu)→PE l (.lp 2 x) inn i (.ok (⟨Fr l i (Fg 2),0,[],[],t.Ab⟩ :: (x++y)) tu)
 | lp_go {f inn i tu:Nat} {x y:List Nd} {t:Tk} {r:PR}:f < 5→f≠2→Fr l i (Fg f)≠0→l[i]?=some t→PE l (.fl (f+1)) inn (i+1) (.ok y tu)→PE l (.lp f (⟨Fr l i (Fg f),0,[],[],t.Ab⟩ :: (x++y))) inn tu r→PE l (.lp f x) inn i r
theorem D0 {l:List Tk} {i:Nat} {s:List UInt8} (h:Bj l i s=true):i < l.length:=by
 unfold Bj at h
 cases hg:l[i]? with
 | none=>rw[hg] at h;cases h
 | some t=>exact(List.getElem?_eq_some_iff.1 hg).1
theorem Ph {l:List Tk} {i:Nat} (h:isN l i=true):i < l.length:=by
 unfold isN at h
 cases hg:l[i]? with
 | none=>rw[hg] at h;cases h
 | some t=>exact(List.getElem?_eq_some_iff.1 hg).1
theorem H9 {l:List Tk} {i:Nat} {t:Tk} (h:l[i]?=some t):i < l.length:=(List.getElem?_eq_some_iff.1 h).1
theorem A9v {l:List Tk} {i:Nat}:∀ {ops:List Int} {a:Int},ops.foldl (fun acc op=>bif Bj l i (Ez op) then op else acc) a≠a→∃ op ∈ ops,Bj l i (Ez op)=true:=by
 intro ops
 induction ops with
 | nil=>intro a h;exact absurd rfl h
 | cons op ops ih =>
  intro a h
  cases hs:Bj l i (Ez op) with
  | true=>exact⟨op,List.mem_cons_self ..,hs⟩
  | false =>
   rw[List.foldl_cons,hs] at h
   obtain⟨o,ho,hh⟩:=ih h
   exact⟨o,List.mem_cons_of_mem _ ho,hh⟩
theorem Nb {l:List Tk} {i:Nat} {ops:List Int} (h:Fr l i ops≠0):i < l.length:=by
 obtain⟨op,_,hh⟩:=A9v h
 exact D0 hh
theorem Afx {l:List Tk} {i:Nat}:∀ {ops:List Int} {a:Int},ops.foldl (fun acc op=>bif Bj l i (Ez op) then op else acc) a=a∨ops.foldl (fun acc op=>bif Bj l i (Ez op) then op else acc) a ∈ ops:=by
 intro ops
 induction ops with
 | nil=>intro a;exact .inl rfl
 | cons op ops ih =>
  intro a
  rw[List.foldl_cons]
  cases Bj l i (Ez op) with
  | true =>
   rcases ih (a:=op) with h | h
   ·right;rw[Af,h];exact List.mem_cons_self ..
   ·right;exact List.mem_cons_of_mem _ h
  | false =>
   rcases ih (a:=a) with h | h
   ·left;exact h
   ·right;exact List.mem_cons_of_mem _ h
theorem H4 {l:List Tk} {md:Md} {inn i:Nat} {r:PR} (h:PE l md inn i r):i≤l.length→match md,r with
 | .fl _,.ok x tu=>i < tu∧tu≤l.length∧x.length≤tu - i∧1≤x.length
 | .lp _ x0,.ok x tu=>i≤tu∧tu≤l.length∧x.length≤x0.length+(tu - i)∧x0.length≤x.length
 | _,.bad e _=>e≠0:=by
 induction h with
 | deep h1 h2 h3=>intro _;show(7:Int)≠0;decide
 | not_ok h1 h2 h3 h4 ih=>intro _;have:=ih (by have:=D0 h1;omega);have:=D0 h1;dsimp only at *;simp only[List.length_cons];omega
 | not_bad h1 h2 h4 ih=>intro _;exact ih (by have:=D0 h1;omega)
 | par_ok h1 h2 h3 h4 ih=>intro _;have:=ih (by have:=D0 h1;omega);have:=D0 h1;have:=D0 h4;dsimp only at *;omega
 | par_bad h1 h2 h4 ih=>intro _;exact ih (by have:=D0 h1;omega)
 | par_open h1 h2 h3 h4 ih=>intro _;show Fj _ _≠0;unfold Fj;split<;>decide
 | num h1 h2=>intro _;have:=H9 h2;dsimp only;simp;omega
 | reg h1 h2 h3=>intro _;have:=H9 h3;dsimp only;simp;omega
 | of h1 h2 h3 h4 h5=>intro _;have:=H9 h5;dsimp only;simp;omega
 | of_bad h1 h2 h3=>intro _;show Fj _ _≠0;unfold Fj;split<;>decide
 | no h1 h2 h3 h4=>intro _;show Fj _ _≠0;unfold Fj;split<;>decide
 | fl_bad h1 h2 ih=>intro hi;exact ih hi
 | @fl_ok f inn i tu x r h1 h2 h3 ih1 ih2 =>
  intro hi;have:=ih1 hi;dsimp only at this;have h:=ih2 (by omega)
  cases r with
  | ok y to2=>dsimp only at h ⊢;omega
  | bad e a=>exact h
 | lp_stop h1=>intro hi;dsimp only;omega
 | lp_bad h1 h2 h3 ih=>intro hi;exact ih (by have:=Nb h2;omega)
 | lp_once h1 h2 h3 ih=>intro hi;have:=ih (by have:=Nb h1;omega);have:=Nb h1;dsimp only at *;simp only[List.length_cons,List.length_append];omega
 | @lp_go f inn i tu x y t r h1 h2 h3 h4 h5 h6 ih1 ih2 =>
  intro hi;have:=ih1 (by have:=Nb h3;omega);dsimp only at this;have h:=ih2 (by omega)
  cases r with
  | ok y to2=>dsimp only at h ⊢;simp only[List.length_cons,List.length_append] at h;omega
  | bad e a=>exact h
def flM:Nat→Nat→List Tk→Int→Int→Int→Int→Option A36
 | 0,n=>D8 n
 | 1,n=>D6 n
 | 2,n=>Cm n
 | 3,n=>De n
 | 4,n=>Cr n
 | _,n=>Bq n
theorem A90 {f n:Nat} (hf:f < 5) (l:List Tk) (i inn e a:Int):flM f (n+2) l i inn e a=Rr n (flM (f+1) n) (f==2) (Fg f) l i inn e a:=by
 match f,hf with
 | 0,_=>exact Atu n l i inn e a
 | 1,_=>exact Anl n l i inn e a
 | 2,_=>exact Aaj n l i inn e a
 | 3,_=>exact At9 n l i inn e a
 | 4,_=>exact Abi n l i inn e a
theorem Pn (f:Nat):(∀ op ∈ Fg f,6≤op∧op≤14)∧(Fg f).length≤4:=by
 match f with
 | 0=>exact⟨by decide,by decide⟩
 | 1=>exact⟨by decide,by decide⟩
 | 2=>exact⟨by decide,by decide⟩
 | 3=>exact⟨by decide,by decide⟩
 | _+4=>exact⟨by simp[Fg],by simp[Fg]⟩
theorem A2b (n:Nat) (l:List Tk) (i:Nat) (inn:Int) (hl:l.length < 1000000):Ce (n+1) 5 l (i:Int) inn 0 0=some ([],Fj l i,Bg l i):=by
 rw[Ce,Fj,Bg]
 by_cases h:i < l.length
 ·rw[if_pos h,A6 (by omega),C8 h,Ax h];rfl
 ·rw[if_neg h,Aq (by omega),List.getElem?_eq_none (by omega)]
  by_cases h0:0 < l.length
  ·have hx:l[l.length - 1]?=some l[l.length - 1]:=Ax (by omega)
   rw[A6 (by omega),Cx (by omega),show(l.length:Int) - 1=((l.length - 1:Nat):Int) by omega,Cn hx,hx];rfl
  ·rw[Aq (by omega),List.getElem?_eq_none (by omega)];rfl
theorem A8z (n:Nat) (l:List Tk) (i:Nat) (inn:Int) {t:Tk} (h:l[i]?=some t):Ce (n+1) 7 l (i:Int) inn 0 0=some ([],7,t.Ab):=by
 have:=H9 h
 rw[Ce,A6 (show(i:Int) < (l.length:Int) by omega),Cn h];rfl
theorem Acm (n:Nat) (l:List Tk) (i:Nat) (inn:Int) (hl:l.length < 1000000):D5 (n+2) l (i:Int) inn 0 0=match isN l i,l[i]? with
 | true,some t=>some (t.Ac,t.Ab,true,((i+1:Nat):Int))
 | _,_=>some ([],0,false,(i:Int)):=by
 rw[D5,isN]
 by_cases h:i < l.length
 ·rw[Aq (by omega),C8 h,Ax h]
  simp only[A1,Dp,Ay i (show i < 4611686018427387904 by omega)]
  cases hk:(l[i].A7==1) with
  | false =>
   rw[show(l[i].A7 != 1)=true by simp only[bne,hk];rfl];rfl
  | true =>
   rw[show(l[i].A7 != 1)=false by simp only[bne,hk];rfl]
   cases Cp l[i].Ac<;>rfl
 ·rw[A6 (by omega),List.getElem?_eq_none (by omega)]
theorem A2p {l:List Tk} {i:Nat} (h:isN l i=true):∃ t,l[i]?=some t:=⟨_,Ax (Ph h)⟩
theorem Ur {n:Nat} {l:List Tk} {i:Nat} {inn:Int} {t:Tk} (hl:l.length < 1000000) (h:isN l i=true) (ht:l[i]?=some t):D5 (n+2) l (i:Int) inn 0 0=some (t.Ac,t.Ab,true,((i+1:Nat):Int)):=by
 rw[Acm n l i inn hl,h,ht]
theorem A65 {n:Nat} {l:List Tk} {i:Nat} {inn:Int} (hl:l.length < 1000000) (h:isN l i=false):D5 (n+2) l (i:Int) inn 0 0=some ([],0,false,(i:Int)):=by
 rw[Acm n l i inn hl,h]
theorem Ac2 {l:List Tk} {i:Nat} {s:List UInt8} (h:Bj l i s=true):∃ t,l[i]?=some t∧t.A7=3∧t.Ac=s:=by
 unfold Bj at h
 cases hg:l[i]? with
 | none=>rw[hg] at h;cases h
 | some t=>rw[hg] at h;simp only[Ah,beq_iff_eq] at h;exact⟨t,rfl,h⟩
theorem Uz {l:List Tk} {i:Nat} {s s':List UInt8} (h:Bj l i s=true) (hs:s≠s'):Bj l i s'=false:=by
 obtain⟨t,ht,_,h2⟩:=Ac2 h
 simp only[Bj,ht,h2];simp[hs]
def Axx (l:List Tk) (inn i:Nat) (r:PR) (o:Option A36):Prop:=match r with
 | .ok x tu=>o=some (x,(tu:Int),(inn:Int),0,0)
 | .bad e a=>∃ (X:List Nd) (i':Nat) (j:Int),o=some (X,(i':Int),j,e,a)∧X.length+i≤i'+1∧i'+inn≤l.length+31
def Azc (l:List Tk) (inn i:Nat) (x:List Nd) (r:PR) (o:Option (LR A36 A36)):Prop:=match r with
 | .ok y tu=>o=some (.out (y,(tu:Int),(inn:Int),0,0))
 | .bad e a=>∃ (X:List Nd) (i':Nat) (j:Int),o=some (.out (X,(i':Int),j,e,a))∧X.length+i≤x.length+i'+1∧i'+inn≤l.length+31
def Imp (l:List Tk) (inn i:Nat) (r:PR):Md→Prop
 | .fl f=>∀ n,12*(l.length - i)+2*(5 - f)+40≤n→Axx l inn i r (flM f n l (i:Int) (inn:Int) 0 0)
 | .lp f x=>∀ n k,f < 5→x.length≤i→12*(l.length - i)+2*(5 - (f+1))+40≤n→l.length - i < k→Azc l inn i x r (Bc n (flM (f+1) n) (Fg f) l k (f==2) x (i:Int) (inn:Int) 0 0)
theorem Wh {n:Nat} {l:List Tk} {i:Nat} {inn:Int} {t:Tk} (h:Bj l i [33]=true) (ht:l[i]?=some t) :
 Bq (n+2) l (i:Int) inn 0 0=(Eg (n+1) l (i:Int) inn 0 0).bind fun y=>(Cw (n+1) ⟨5,0,[],[],t.Ab⟩ [y.1]).bind fun z=>some (z,y.2.1,y.2.2.1,y.2.2.2.1,y.2.2.2.2):=by
 rw[Bq,Rm,h]
 simp only[bne_self_eq_false,An,A1,Af,Cn ht]
theorem T1 {n:Nat} {l:List Tk} {i:Nat} {inn:Int} (h:Bj l i [40]=true) :
 Bq (n+2) l (i:Int) inn 0 0=(Du (n+1) l (i:Int) inn 0 0).bind fun y=>bif y.2.2.2.1==0 then(Cs (n+1) [41] l y.2.1 y.2.2.1 y.2.2.2.1 y.2.2.2.2).bind fun z=>bif z then some (y.1,IntKind.i64.wrap (y.2.1+1),y.2.2.1,y.2.2.2.1,y.2.2.2.2) else(Ce (n+1) 5 l y.2.1 y.2.2.1 y.2.2.2.1 y.2.2.2.2).bind fun w=>some (w.1,y.2.1,y.2.2.1,w.2.1,w.2.2) else some (y.1,IntKind.i64.wrap (y.2.1+1),y.2.2.1,y.2.2.2.1,y.2.2.2.2):=by
 have h0:Bj l i [33]=false:=Uz h (by decide)
 rw[Bq,Rm,h0,Rm,h]
 simp only[bne_self_eq_false,An,A1,Af]
theorem A13 {n:Nat} {l:List Tk} {i:Nat} {inn:Nat} {t:Tk} (h:30≤inn) (ht:l[i]?=some t):Eg (n+2) l (i:Int) (inn:Int) 0 0=some ([],(i:Int),(inn:Int),7,t.Ab)∧Du (n+2) l (i:Int) (inn:Int) 0 0=some ([],(i:Int),(inn:Int),7,t.Ab):=by
 constructor
 ·rw[Eg,A6 (by omega),A8z n l i inn ht];rfl
 ·rw[Du,A6 (by omega),A8z n l i inn ht];rfl
theorem Ti {n:Nat} {l:List Tk} {i:Nat} {inn:Nat} (h:inn < 30) (hi:i < l.length) (hl:l.length < 1000000):Eg (n+1) l (i:Int) (inn:Int) 0 0=((Bq n l ((i+1:Nat):Int) ((inn+1:Nat):Int) 0 0).bind fun y=>some (y.1,y.2.1,IntKind.i64.wrap (y.2.2.1 - 1),y.2.2.2.1,y.2.2.2.2))∧Du (n+1) l (i:Int) (inn:Int) 0 0=((D8 n l ((i+1:Nat):Int) ((inn+1:Nat):Int) 0 0).bind fun y=>some (y.1,y.2.1,IntKind.i64.wrap (y.2.2.1 - 1),y.2.2.2.1,y.2.2.2.2)):=by
 constructor
 ·rw[Eg,Aq (by omega),Ay i (by omega),Ay inn (by omega)]
 ·rw[Du,Aq (by omega),Ay i (by omega),Ay inn (by omega)]
theorem A4d (j:Nat) (h:j < 1000):IntKind.i64.wrap (((j+1:Nat):Int) - 1)=(j:Int):=by
 rw[Cx (by omega)];omega
theorem Ry {n:Nat} {l:List Tk} {i:Nat} {inn:Int} (h1:Bj l i [33]=false) (h2:Bj l i [40]=false) (h3:isK l i=false) (hl:l.length < 1000000) :
 Bq (n+3) l (i:Int) inn 0 0=(D5 (n+2) l (i:Int) inn 0 0).bind fun y=>bif y.2.2.1 then(Cs (n+2) [46] l y.2.2.2 inn 0 0).bind fun z=>bif z then(D5 (n+2) l (IntKind.i64.wrap (y.2.2.2+1)) inn 0 0).bind fun w=>bif w.2.2.1 then(Cw (n+2) ⟨4,0,w.1,y.1,y.2.1⟩ []).bind fun v=>some (v,w.2.2.2,inn,0,0) else(Ce (n+2) 5 l w.2.2.2 inn 0 0).bind fun v=>some (v.1,w.2.2.2,inn,v.2.1,v.2.2) else(Cw (n+2) ⟨2,0,y.1,[],y.2.1⟩ []).bind fun v=>some (v,y.2.2.2,inn,0,0) else(Ce (n+2) 5 l y.2.2.2 inn 0 0).bind fun v=>some (v.1,y.2.2.2,inn,v.2.1,v.2.2):=by
 rw[Bq,Rm,h1,Rm,h2]
 simp only[bne_self_eq_false,An,A1]
 by_cases h:i < l.length
 ·have hk:(l[i].A7==2)=false:=by rw[isK,Ax h] at h3;exact h3
  rw[A6 (by omega),C8 h,A1,hk,An]
 ·rw[Aq (by omega)]
theorem Aaa {n:Nat} {l:List Tk} {i:Nat} {inn:Int} {t:Tk} (h3:isK l i=true) (ht:l[i]?=some t) (hl:l.length < 1000000):Bq (n+10) l (i:Int) inn 0 0=some ([⟨1,t.Bs,[],[],t.Ab⟩],((i+1:Nat):Int),inn,0,0):=by
 have hk:t.A7=2:=by simpa [isK,ht] using h3
 have h1:Bj l i [33]=false:=by simp[Bj,ht,hk]
 have h2:Bj l i [40]=false:=by simp[Bj,ht,hk]
 have h:=H9 ht
 rw[Bq,Rm,h1,Rm,h2]
 simp only[bne_self_eq_false,An,A1,Cn ht,hk,beq_self_eq_true,Af,A2g (n+9) _ (by omega),Ay i (show i < 4611686018427387904 by omega)]
 rw[A6 (by omega)]
theorem To (n:Nat):flM 5 n=Bq n:=rfl
theorem Aa1 (n:Nat):flM 0 n=D8 n:=rfl
theorem Qf {l:List Tk} {i:Nat} (h:isN l i=true) (s:List UInt8):Bj l i s=false:=by
 obtain⟨t,ht⟩:=A2p h
 simp only[isN,ht,Ah,beq_iff_eq] at h
 simp[Bj,ht,h.1]
theorem A0a {l:List Tk} {i:Nat} (h:isN l i=true):isK l i=false:=by
 obtain⟨t,ht⟩:=A2p h
 simp only[isN,ht,Ah,beq_iff_eq] at h
 simp[isK,ht,h.1]
theorem Ail {l:List Tk} (hl:l.length < 100000) {md:Md} {inn i:Nat} {r:PR} (h:PE l md inn i r):i≤l.length→inn≤30→Imp l inn i r md:=by
 induction h with
 | @deep inn i t h1 h2 h3 =>
  intro hi hn n hf
  have hlt:=H9 h3
  obtain⟨n,rfl⟩:∃ j,n=j+10:=⟨n - 10,by omega⟩
  rw[To]
  rcases h1 with h1 | h1
  ·rw[Wh h1 h3,(A13 (n:=n+7) h2 h3).1,A1,A2c (n+9) _ _ (by simp) (by omega),A1]
   exact⟨_,_,_,rfl,by simp;omega,by omega⟩
  ·rw[T1 h1,(A13 (n:=n+7) h2 h3).2,A1,show((7:Int)==0)=false from rfl,An,Ay i (by omega)]
   exact⟨_,_,_,rfl,by simp;omega,by omega⟩
 | @not_ok inn i tu t x h1 h2 h3 h4 ih =>
  intro hi hn n hf
  have hlt:=H9 h3
  have hx:=H4 h4 (by omega);dsimp only at hx
  obtain⟨n,rfl⟩:∃ j,n=j+10:=⟨n - 10,by omega⟩
  have e:flM 5 (n+8) l ((i+1:Nat):Int) ((inn+1:Nat):Int) 0 0=_:=ih (by omega) (by omega) (n+8) (by omega)
  rw[To] at e ⊢
  rw[Wh h1 h3,(Ti (n:=n+8) h2 hlt (by omega)).1,e,Option.bind_some,Option.bind_some,A2c (n+9) _ _ (by dsimp only;omega) (by omega),Option.bind_some]
  dsimp only
  rw[A4d _ (by omega)];rfl
 | @not_bad inn i e a h1 h2 h4 ih =>
  intro hi hn n hf
  have hlt:=D0 h1
  obtain⟨n,rfl⟩:∃ j,n=j+10:=⟨n - 10,by omega⟩
  obtain⟨X,i',j,e,e1,e2⟩:=ih (by omega) (by omega) (n+8) (by omega)
  rw[To] at e ⊢
  rw[Wh h1 (List.getElem?_eq_getElem hlt),(Ti (n:=n+8) h2 hlt (by omega)).1,e,Option.bind_some,Option.bind_some,A2c (n+9) _ _ (by dsimp only;omega) (by omega),Option.bind_some]
  exact⟨_,i',_,rfl,by simp;omega,by omega⟩
 | @par_ok inn i tu x h1 h2 h3 h4 ih =>
  intro hi hn n hf
  have hlt:=D0 h1
  have hx:=H4 h3 (by omega);dsimp only at hx
  obtain⟨n,rfl⟩:∃ j,n=j+10:=⟨n - 10,by omega⟩
  have e:flM 0 (n+8) l ((i+1:Nat):Int) ((inn+1:Nat):Int) 0 0=_:=ih (by omega) (by omega) (n+8) (by omega)
  rw[Aa1] at e
  rw[To,T1 h1,(Ti (n:=n+8) h2 hlt (by omega)).2,e,A1,A1]
  dsimp only
  rw[beq_self_eq_true,Af,Rm,h4,A1,Af,Ay tu (by omega),A4d _ (by omega)];rfl
 | @par_bad inn i e a h1 h2 h3 ih =>
  intro hi hn n hf
  have hlt:=D0 h1
  have hx:=H4 h3 (by omega);dsimp only at hx
  obtain⟨n,rfl⟩:∃ j,n=j+10:=⟨n - 10,by omega⟩
  obtain⟨X,i',j,e,e1,e2⟩:=ih (by omega) (by omega) (n+8) (by omega)
  rw[Aa1] at e
  rw[To,T1 h1,(Ti (n:=n+8) h2 hlt (by omega)).2,e,A1,A1]
  dsimp only
  rw[Ca.2 hx,An,Ay i' (by omega)]
  exact⟨_,_,_,rfl,by omega,by omega⟩
 | @par_open inn i tu x h1 h2 h3 h4 ih =>
  intro hi hn n hf
  have hlt:=D0 h1
  have hx:=H4 h3 (by omega);dsimp only at hx
  obtain⟨n,rfl⟩:∃ j,n=j+10:=⟨n - 10,by omega⟩
  have e:flM 0 (n+8) l ((i+1:Nat):Int) ((inn+1:Nat):Int) 0 0=_:=ih (by omega) (by omega) (n+8) (by omega)
  rw[Aa1] at e
  rw[To,T1 h1,(Ti (n:=n+8) h2 hlt (by omega)).2,e,A1,A1]
  dsimp only
  rw[beq_self_eq_true,Af,Rm,h4,A1,An,A2b _ _ _ _ (by omega),A1]
  exact⟨_,_,_,rfl,by simp;omega,by omega⟩
 | @num inn i t h1 h2 =>
  intro hi hn n hf
  obtain⟨n,rfl⟩:∃ j,n=j+10:=⟨n - 10,by omega⟩
  rw[To,Aaa h1 h2 (by omega)];rfl
 | @reg inn i t h1 h2 h3 =>
  intro hi hn n hf
  have hlt:=H9 h3
  obtain⟨n,rfl⟩:∃ j,n=j+10:=⟨n - 10,by omega⟩
  rw[To,Ry (n:=n+7) (Qf h1 _) (Qf h1 _) (A0a h1) (by omega),Ur (n:=n+7) (by omega) h1 h3,A1]
  dsimp only
  rw[Af,Rm,h2,A1,An,A2g _ _ (by omega),A1];rfl
 | @of inn i t u h1 h2 h3 h4 h5 =>
  intro hi hn n hf
  have hlt:=H9 h5
  obtain⟨n,rfl⟩:∃ j,n=j+10:=⟨n - 10,by omega⟩
  rw[To,Ry (n:=n+7) (Qf h1 _) (Qf h1 _) (A0a h1) (by omega),Ur (n:=n+7) (by omega) h1 h4,A1]
  dsimp only
  rw[Af,Rm,h2,A1,Af,Ay (i+1) (by omega),Ur (n:=n+7) (by omega) h3 h5,A1]
  dsimp only
  rw[Af,A2g _ _ (by omega),A1];rfl
 | @of_bad inn i h1 h2 h3 =>
  intro hi hn n hf
  have hlt:=D0 h2
  obtain⟨n,rfl⟩:∃ j,n=j+10:=⟨n - 10,by omega⟩
  obtain⟨t,h4⟩:=A2p h1
  rw[To,Ry (n:=n+7) (Qf h1 _) (Qf h1 _) (A0a h1) (by omega),Ur (n:=n+7) (by omega) h1 h4,A1]
  dsimp only
  rw[Af,Rm,h2,A1,Af,Ay (i+1) (by omega),A65 (n:=n+7) (by omega) h3,A1]
  dsimp only
  rw[An,A2b _ _ _ _ (by omega),A1]
  exact⟨_,_,_,rfl,by simp;omega,by omega⟩
 | @no inn i h1 h2 h3 h4 =>
  intro hi hn n hf
  obtain⟨n,rfl⟩:∃ j,n=j+10:=⟨n - 10,by omega⟩
  rw[To,Ry (n:=n+7) h1 h2 h3 (by omega),A65 (n:=n+7) (by omega) h4,A1]
  dsimp only
  rw[An,A2b _ _ _ _ (by omega),A1]
  exact⟨_,_,_,rfl,by simp,by omega⟩
 | @fl_bad f inn i ee a h1 h2 ih =>
  intro hi hn n hf
  have he:=H4 h2 hi;dsimp only at he
  obtain⟨n,rfl⟩:∃ j,n=j+2:=⟨n - 2,by omega⟩
  obtain⟨X,i',j,e,e1,e2⟩:=ih hi hn n (by omega)
  obtain⟨k,hk⟩:∃ k,n=k+1:=⟨n - 1,by omega⟩
  rw[A90 h1,Rr,e,A1]
  dsimp only
  have:Bc n (flM (f+1) n) (Fg f) l n (f==2) X (i':Int) j ee a=some (.out (X,(i':Int),j,ee,a)):=by
   rw[show Bc n (flM (f+1) n) (Fg f) l n=Bc n (flM (f+1) n) (Fg f) l (k+1) by rw[← hk],Bc,Ca.2 he,An]
  rw[this]
  exact⟨_,_,_,rfl,e1,e2⟩
 | @fl_ok f inn i tu x r h1 h2 h3 ih1 ih2 =>
  intro hi hn n hf
  have hx:=H4 h2 hi;dsimp only at hx
  obtain⟨n,rfl⟩:∃ j,n=j+2:=⟨n - 2,by omega⟩
  have e:flM (f+1) n l (i:Int) (inn:Int) 0 0=_:=ih1 hi hn n (by omega)
  have e2:=ih2 (by omega) hn n n h1 (by omega) (by omega) (by omega)
  rw[A90 h1,Rr,e,A1]
  dsimp only
  cases r with
  | ok y to2=>rw[show Bc n (flM (f+1) n) (Fg f) l n (f==2) x (tu:Int) (inn:Int) 0 0=_ from e2];rfl
  | bad e' a =>
   obtain⟨X,i',j,e2,e3,e4⟩:=e2
   rw[e2]
   exact⟨_,_,_,rfl,by omega,e4⟩
 | @lp_stop f inn i x h1 =>
  intro hi hn n k h5 hx hf hk
  obtain⟨k,rfl⟩:∃ j,k=j+1:=⟨k - 1,by omega⟩
  obtain⟨m,hm⟩:∃ j,n=j+1:=⟨n - 1,by omega⟩
  rw[Bc,beq_self_eq_true,Af]
  have hL:Bv n (Fg f) l (i:Int) (inn:Int) 0 0 n 0 0=some (.out (Fr l i (Fg f))):=by
   rw[hm];exact Z4 m _ l i _ _ _ (Pn f).1 (Pn f).2 (by omega)
  rw[hL,A1]
  dsimp only
  rw[h1,beq_self_eq_true,Af];rfl
 | @lp_bad f inn i x e a h1 h2 h3 ih =>
  intro hi hn n k h5 hx hf hk
  have hlt:=Nb h2
  have he:=H4 h3 (by omega);dsimp only at he
  obtain⟨k,rfl⟩:∃ j,k=j+2:=⟨k - 2,by omega⟩
  obtain⟨m,hm⟩:∃ j,n=j+1:=⟨n - 1,by omega⟩
  obtain⟨X,i',j,e0,e1,e2⟩:=ih (by omega) hn n (by omega)
  have hL:Bv n (Fg f) l (i:Int) (inn:Int) 0 0 n 0 0=some (.out (Fr l i (Fg f))):=by
   rw[hm];exact Z4 m _ l i _ _ _ (Pn f).1 (Pn f).2 (by omega)
  rw[Bc,beq_self_eq_true,Af,hL,A1]
  dsimp only
  rw[beq_eq_false_iff_ne.2 h2,cond_false,C8 hlt,Option.bind_some,Ay i (by omega),e0,Option.bind_some,A26 n _ _ _ (by dsimp only;omega) (by omega),Option.bind_some]
  dsimp only
  cases f==2 with
  | true=>exact⟨_,_,_,rfl,by simp;omega,e2⟩
  | false =>
   rw[An,Bc,Ca.2 he,An]
   exact⟨_,_,_,rfl,by simp;omega,e2⟩
 | @lp_once inn i tu x y t h1 h2 h3 ih =>
  intro hi hn n k h5 hx hf hk
  have hlt:=Nb h1
  have he:=H4 h3 (by omega);dsimp only at he
  obtain⟨k,rfl⟩:∃ j,k=j+2:=⟨k - 2,by omega⟩
  obtain⟨m,hm⟩:∃ j,n=j+1:=⟨n - 1,by omega⟩
  have e0:flM 3 n l ((i+1:Nat):Int) (inn:Int) 0 0=_:=ih (by omega) hn n (by omega)
  have hL:Bv n (Fg 2) l (i:Int) (inn:Int) 0 0 n 0 0=some (.out (Fr l i (Fg 2))):=by
   rw[hm];exact Z4 m _ l i _ _ _ (Pn 2).1 (Pn 2).2 (by omega)
  rw[Bc,beq_self_eq_true,Af,hL,A1]
  dsimp only
  rw[beq_eq_false_iff_ne.2 h1,cond_false,Cn h2,Option.bind_some,Ay i (by omega),e0,Option.bind_some,A26 n _ _ _ (by dsimp only;omega) (by omega),Option.bind_some]
  rfl
 | @lp_go f inn i tu x y t r h1 h2 h3 h4 h5 h6 ih1 ih2 =>
  intro hi hn n k h7 hx hf hk
  have hlt:=Nb h3
  have he:=H4 h5 (by omega);dsimp only at he
  obtain⟨k,rfl⟩:∃ j,k=j+1:=⟨k - 1,by omega⟩
  obtain⟨m,hm⟩:∃ j,n=j+1:=⟨n - 1,by omega⟩
  have e0:flM (f+1) n l ((i+1:Nat):Int) (inn:Int) 0 0=_:=ih1 (by omega) hn n (by omega)
  have e1:=ih2 (by omega) hn n k h7 (by simp;omega) (by omega) (by omega)
  have hL:Bv n (Fg f) l (i:Int) (inn:Int) 0 0 n 0 0=some (.out (Fr l i (Fg f))):=by
   rw[hm];exact Z4 m _ l i _ _ _ (Pn f).1 (Pn f).2 (by omega)
  have hf2:(f==2)=false:=Ca.2 h2
  rw[hf2] at e1 ⊢
  rw[Bc,beq_self_eq_true,Af,hL,A1]
  dsimp only
  rw[beq_eq_false_iff_ne.2 h3,cond_false,Cn h4,Option.bind_some,Ay i (by omega),e0,Option.bind_some,A26 n _ _ _ (by dsimp only;omega) (by omega),Option.bind_some]
  dsimp only
  rw[An]
  cases r with
  | ok y to2=>exact e1
  | bad e' a =>
   obtain⟨X,i',j,e2,e3,e4⟩:=e1
   simp only[List.length_cons,List.length_append] at e3
   exact⟨_,_,_,e2,by omega,e4⟩
end Go.Proofs.YtnijlelbihnamaaGreat
end
