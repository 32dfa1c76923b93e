/- Parts of the proofs: what they lean on. Conditions: none. -/
import Derived.Test.YtnijlelbihnamaaProg
import Derived.Test.YtnijlelbihnamaaPrbS11
section
namespace Go.Proofs.Ytnijlelbihnamaa
set_option linter.unusedVariables false
structure B4 where
 An:(List UInt8)
 C2:Int
 Al:Int
 deriving DecidableEq,Inhabited
def Aj (x:B4):List AV:=[AV.str (x.An),AV.int .i64 (x.C2),AV.int .i64 (x.Al)]
structure A1 where
 Bm:Int
 C2:Int
 An:(List UInt8)
 Dd:(List UInt8)
 Al:Int
 deriving DecidableEq,Inhabited
def A0 (x:A1):List AV:=[AV.int .i64 (x.Bm),AV.int .i64 (x.C2),AV.str (x.An),AV.str (x.Dd),AV.int .i64 (x.Al)]
def Vm (l:(List A1)):List AV:=[AV.sl 5 (List.map A0 l)]
structure A3 where
 At:Int
 H7:(List UInt8)
 H8:(List UInt8)
 Et:(List A1)
 O6:(List A1)
 N3:Bool
 Be:Int
 Cv:Int
 Al:Int
 deriving DecidableEq,Inhabited
def Aa (x:A3):List AV:=[AV.int .i64 (x.At),AV.str (x.H7),AV.str (x.H8),AV.sl 5 (List.map A0 (x.Et)),AV.sl 5 (List.map A0 (x.O6)),AV.bool (x.N3),AV.int .i64 (x.Be),AV.int .i64 (x.Cv),AV.int .i64 (x.Al)]
structure Ad where
 An:(List UInt8)
 Bv:(List (List UInt8))
 Be:(List A3)
 Al:Int
 deriving DecidableEq,Inhabited
def A9 (x:Ad):List AV:=[AV.str (x.An),AV.sl 1 (List.map Fk (x.Bv)),AV.sl 9 (List.map Aa (x.Be)),AV.int .i64 (x.Al)]
structure Af where
 At:Int
 Et:(List A1)
 Al:Int
 deriving DecidableEq,Inhabited
def Ag (x:Af):List AV:=[AV.int .i64 (x.At),AV.sl 5 (List.map A0 (x.Et)),AV.int .i64 (x.Al)]
structure B7 where
 Bz:Int
 B8:(List B4)
 Ak:(List Ad)
 Ar:(List Af)
 deriving DecidableEq,Inhabited
structure A5 where
 At:Int
 A7:(List UInt8)
 C2:Int
 Al:Int
 deriving DecidableEq,Inhabited
def A2 (x:A5):List AV:=[AV.int .i64 (x.At),AV.str (x.A7),AV.int .i64 (x.C2),AV.int .i64 (x.Al)]
structure Bh where
 f_word:(List UInt8)
 f_form:(List UInt8)
 f_body:Bool
 f_more:Bool
 deriving DecidableEq,Inhabited
def A1d (x:Bh):List AV:=[AV.str (x.f_word),AV.str (x.f_form),AV.bool (x.f_body),AV.bool (x.f_more)]
def A6 (p:((List UInt8)×Int)):List AV:=[AV.str (p.1),AV.int .i64 (p.2)]
theorem Uw (l:List ((List UInt8)×Int)) (k:(List UInt8)) (z:Int):Fm (AV.int .i64 (z)) (List.map A6 l) (AV.str (k))=AV.int .i64 (B6 l k z):=A9l (ek:=fun x=>AV.str (x)) (ev:=fun x=>AV.int .i64 (x)) (c:=A6) (fun _=>rfl) A7t k z l
theorem V9 (l:List ((List UInt8)×Int)) (k:(List UInt8)) (v:Int):Kd (List.map A6 l) (AV.str (k)) (AV.int .i64 (v))=List.map A6 (Ok l k v):=Ac2 (ek:=fun x=>AV.str (x)) (ev:=fun x=>AV.int .i64 (x)) (c:=A6) (fun _=>rfl) A7t k v l
theorem ls:(∀ {α β:Type} {f:α→β} {l:List α},(l.map f).length=l.length)∧(∀ {α β:Type} (f:α→β) (l:List α),List.take l.length (List.map f l)=List.map f l)∧Program.cellsOf Try.prog 41=1∧Program.cellsOf Try.prog 43=3∧Program.cellsOf Try.prog 47=5∧Program.cellsOf Try.prog 73=9∧Program.cellsOf Try.prog 40=4∧Program.cellsOf Try.prog 55=4∧Program.cellsOf Try.prog 45=3∧Program.cellsOf Try.prog 3=1∧Program.cellsOf Try.prog 98=4∧Program.cellsOf Try.prog 9=1∧Program.cellsOf Try.prog 5=1 :=
 ⟨List.length_map ..,D2,by kernel_rfl,by kernel_rfl,by kernel_rfl,by kernel_rfl,by kernel_rfl,by kernel_rfl,by kernel_rfl,by kernel_rfl,by kernel_rfl,by kernel_rfl,by kernel_rfl⟩
theorem lt:(∀ {α β:Type} (f:α→β) (l:List α),List.take l.length (List.map f l)=List.map f l)∧Program.cellsOf Try.prog 41=1∧Program.cellsOf Try.prog 43=3∧Program.cellsOf Try.prog 47=5∧Program.cellsOf Try.prog 73=9∧Program.cellsOf Try.prog 40=4∧Program.cellsOf Try.prog 55=4∧Program.cellsOf Try.prog 45=3∧Program.cellsOf Try.prog 3=1∧Program.cellsOf Try.prog 98=4∧Program.cellsOf Try.prog 9=1∧Program.cellsOf Try.prog 5=1 :=
 ls.2
theorem cq {ρ:Type} {cont:Tm→Hp→Option ρ} {tm tm':Tm} {hp hp':Hp} {r:Option ρ} (h:cont tm' hp'=r) (h1:tm=tm':=by first | rfl | (simp only[ls]<;>rfl) | (simp only[ls,List.map_append,List.map_cons,List.map_nil,List.append_nil,List.length_set,I6]<;>rfl)) (h2:hp=hp':=by first | rfl | (simp only[ls]<;>rfl) | (simp only[ls,List.map_append,List.map_cons,List.map_nil,List.append_nil,List.length_set,I6]<;>rfl)):cont tm hp=r:=Ali h h1 h2
theorem kq {ρ:Type} {K:Ex→Tm→Hp→Option ρ} {e:Ex} {tm tm':Tm} {hp hp':Hp} {r:Option ρ} (h:K e tm' hp'=r) (h1:tm=tm':=by first | rfl | (simp only[ls]<;>rfl) | (simp only[ls,List.map_append,List.map_cons,List.map_nil,List.append_nil,List.length_set,I6]<;>rfl)) (h2:hp=hp':=by first | rfl | (simp only[ls]<;>rfl) | (simp only[ls,List.map_append,List.map_cons,List.map_nil,List.append_nil,List.length_set,I6]<;>rfl)):K e tm hp=r:=Alt h h1 h2
theorem fq {ρ:Type} {x y z:Option ρ} (h:x=y:=by first | rfl | (simp only[I6,List.length_set]<;>rfl) | (simp only[ls]<;>rfl) | ((conv=>lhs;arg 1;arg 1;whnf);simp only[Eo];rfl)) (h2:y=z:=by first | rfl | (simp only[List.map_take,List.map_drop];done) | (simp only[List.map_take,List.map_drop]<;>rfl) | (simp only[ls,List.drop_zero,List.length_set,I6]<;>rfl)):x=z:=h.trans h2
theorem c0:((0:Nat):Int)=0:=rfl
theorem rq {ρ:Type} {x z:Option ρ} (h:x=z:=by first | rfl | (simp only[ls]<;>rfl)):x=z:=h
abbrev iA (x:Int):AV:=.int .i64 x
abbrev bA (x:Bool):AV:=.bool x
abbrev sA (x:List UInt8):AV:=.str x
theorem sj {α:Type} {a r:α} (h:some a=some r):a=r:=Option.some.inj h
theorem lq {ρ σ τ ν:Type} {body:Tm→Hp→(Ex→Tm→Hp→Option ρ)→Option ρ} {keep:Nat→List Nat} {h0:Nat} {K:Ex→Tm→Hp→Option ρ} {r:Option ρ} (id:Nat) (tmOf:σ→(Nat→Nat)→Tm) (hpOf:σ→(Nat→Nat)→Hp) (tmX:τ→(Nat→Nat)→Tm) (hpX:τ→(Nat→Nat)→Hp) (encR:ν→ρ) (L:Nat→σ→Option (LR τ ν)) (hL:∀ s,L 0 s=none) (o:LR τ ν) (n:Nat) (s:σ) (a:Nat→Nat) {tm:Tm} {hp:Hp} (h:L n s=some o)
 (hround:∀ (k:Nat) (s:σ) (a:Nat→Nat) (K':Ex→Tm→Hp→Option ρ) (cont:Tm→Hp→Option ρ),(∀ tm hp,K' .ret tm hp=K .ret tm hp)→(∀ s' a',L k s'=some o→cont (tmOf s' a') (hpOf s' a')=r)→L (k+1) s=some o→A97 K' id tmX hpX encR r o →
  Fo force (fun tm=>Cc (fun hp=>body tm hp (fun e tm hp=>Fo force (fun tm=>Cc (fun hp=>match e with
   | .normal=>cont tm hp
   | .exit id=>K' (.exit id) tm hp
   | .ret=>K' .ret tm hp) (Gc h0 hp)) (Uh (keep (A37 e)) h0 hp 0 tm))) (hpOf s a)) (tmOf s a)=r)
 (hx:A97 K id tmX hpX encR r o)
 (h1:tm=tmOf s a:=by first | rfl | (simp only[ls]<;>rfl) | (simp only[ls,List.map_append,List.map_cons,List.map_nil,List.append_nil,List.length_set,I6]<;>rfl)) (h2:hp=hpOf s a:=by first | rfl | (simp only[ls]<;>rfl) | (simp only[ls,List.map_append,List.map_cons,List.map_nil,List.append_nil,List.length_set,I6]<;>rfl)):rounds body keep h0 n tm hp K=r :=
 Acv id tmOf hpOf tmX hpX encR L hL o hround n s a tm hp h hx h1 h2
theorem lrc {ρ τ ν:Type} {K:Ex→Tm→Hp→Option ρ} {id:Nat} {tmX:τ→(Nat→Nat)→Tm} {hpX:τ→(Nat→Nat)→Hp} {encR:ν→ρ} {r:Option ρ} {o:LR τ ν} (h1:∀ v,o=.ret v→r=some (encR v)) (h2:∀ t a,o=.out t→K (.exit id) (tmX t a) (hpX t a)=r):A97 K id tmX hpX encR r o:=by
 cases o with
 | out t=>exact fun a=>h2 t a rfl
 | ret v=>exact h1 v rfl
theorem nn {α:Type} {r:α} {P:Prop}:(none:Option α)=some r→P:=fun h=>by cases h
theorem A6w {α:Type} {c:Bool} {a:Option α} {r:α} {G:Prop} (h1:c=true→a=some r→G):(bif c then a else none)=some r→G:=fun h=>B0 h h1
theorem br {α ρ:Type} {c:Bool} {a b:Option α} {r:α} {L L1 L2 R:ρ} (k1:a=some r→L1=R) (k2:b=some r→L2=R) (w1:c=true→L=L1:=by(intro hc;simp only[hc,ls];(conv=>lhs;whnf);try exact rfl)) (w2:c=false→L=L2:=by(intro hc;simp only[hc,ls];(conv=>lhs;whnf);try exact rfl)):(bif c then a else b)=some r→L=R:=by
 cases c
 ·exact fun h=>(w2 rfl).trans (k2 h)
 ·exact fun h=>(w1 rfl).trans (k1 h)
theorem bt {α ρ:Type} {c:Bool} {a:Option α} {r:α} {L L1 R:ρ} (k1:a=some r→L1=R) (w1:c=true→L=L1:=by(intro hc;simp only[hc,ls];(conv=>lhs;whnf);try exact rfl)):(bif c then a else none)=some r→L=R:=by
 cases c
 ·exact fun h=>nn h
 ·exact fun h=>(w1 rfl).trans (k1 h)
theorem cp {α ρ:Type} {c:Bool} {a:Option α} {r:α} {L L1 R:ρ} (k1:a=some r→L1=R) (w1:c=true→∀ q,L1=q→L=q:=by(intro hc q hq;refine B1 hc ?_;(try simp only[ls]);(conv=>lhs;whnf);exact hq)):(bif c then a else none)=some r→L=R:=A6w fun hc h=>w1 hc _ (k1 h)
theorem cn {α ρ:Type} {c:Bool} {a:Option α} {r:α} {L L1 R:ρ} (k1:a=some r→L1=R) (w1:c=true→∀ q,L1=q→L=q:=by(intro hc q hq;refine B1 (Aks hc (by simp only[Bd,D2]) (by kernel_rfl)) ?_;(try simp only[ls]);(conv=>lhs;whnf);exact hq)):(bif c then a else none)=some r→L=R:=A6w fun hc h=>w1 hc _ (k1 h)
theorem sl {α:Type} (f:α→List AV) (l:List α) (i j:Nat):List.drop i (List.take j (List.map f l))=List.map f (List.drop i (List.take j l)):=by rw[List.map_drop,List.map_take]
theorem cs {α ρ:Type} {c:Bool} {a:Option α} {r:α} {E:Prop} {L L1 R:ρ} (e:E) (k1:a=some r→L1=R) (w1:c=true→E→∀ q,L1=q→L=q:=by(intro hc he q hq;(try simp only[ls]);refine B1 hc ?_;simp only[he,ls];(conv=>lhs;whnf);exact hq)):(bif c then a else none)=some r→L=R:=A6w fun hc h=>w1 hc e _ (k1 h)
theorem ixs {β ρ:Type} {l:List UInt8} {i:Int} {g:UInt8→Option β} {r:β} {L:ρ} {L1:UInt8→ρ} {R:ρ} (k:∀ x,g x=some r→L1 x=R) (w:∀ x,idx l i=some x→∀ q,L1 x=q→L=q:=by(intro x hx q hq;refine B1 (H1 hx) ?_;simp only[Akp hx,ls];(conv=>lhs;whnf);exact hq)):(idx l i).bind g=some r→L=R:=fun h=>Av h fun x hx h2=>w x hx _ (k x h2)
theorem ix {α β ρ:Type} {l:List α} {i:Int} {g:α→Option β} {r:β} {L:ρ} {L1:α→ρ} {R:ρ} (k:∀ x,g x=some r→L1 x=R) (w:∀ x,idx l i=some x→∀ q,L1 x=q→L=q:=by(intro x hx q hq;refine B1 (by first | exact H1 hx | exact Q7 hx | (have z:=H1 hx;simp only[ls] at z ⊢;exact z)) ?_;simp only[K0 hx,ls];(conv=>lhs;whnf);exact hq)):(idx l i).bind g=some r→L=R:=fun h=>Av h fun x hx h2=>w x hx _ (k x h2)
theorem ca {α β ρ:Type} {P:Program} {H:By} {X:Ext} {call:D1} {n:Nat} {m:Option α} {g:α→Option β} {r:β} {f:FuncId} {a:List AV} {p:Hp} {v:α→Option (AV×Hp)} {L:ρ} {L1:α→ρ} {R:ρ} (hc:∀ g l h,call false g l h=Hh P H X n g l h) (hk:∀ y,m=some y→Hh P H X n f a p=v y) (k:∀ y,g y=some r→L1 y=R) (w:∀ y,call false f a p=v y→L=L1 y:=by(intro y hk;(first | simp only[hk] | rewrite[hk] | (simp only[ls];simp only[hk]));(conv=>lhs;whnf);try exact rfl)):m.bind g=some r→L=R:=fun h=>Av h fun y hy h2=>(w y ((hc _ _ _).trans (hk y hy))).trans (k y h2)
theorem tw {α β ρ:Type} {P:Program} {H:By} {X:Ext} {call:D1} {n:Nat} {m:Option α} {g:α→Option β} {r:β} {f:FuncId} {a:List AV} {v v':α→Option (AV×Hp)} {L:ρ} {L1:α→ρ} {R:ρ} (hc:∀ g l h,call false g l h=Hh P H X n g l h) (hk:∀ y,m=some y→Hh P H X n f a []=v y) (ht:∀ y,call false f a []=v y→Tq P true call f a=v' y) (k:∀ y,g y=some r→L1 y=R) (w:∀ y,(∀ b,b=true→Tq P b call f a=v' y)→L=L1 y:=by(intro y hk;(try simp only[ls]);(rewrite[hk];rotate_left;(first | rfl | kernel_rfl));(try simp only[ls]);(conv=>lhs;whnf);try exact rfl)):m.bind g=some r→L=R:=fun h=>Av h fun y hy h2=>(w y (fun b hb=>by subst hb;exact ht y ((hc _ _ _).trans (hk y hy)))).trans (k y h2)
theorem nb {γ α ρ:Type} {l:List γ} {a b:Option α} {r:α} {L L1 L2 R:ρ} (k1:a=some r→L1=R) (k2:b=some r→L2=R) (w1:l=[]→L=L1:=by(intro hc;simp only[hc,ls,List.map_nil];(conv=>lhs;whnf);try exact rfl)) (w2:decide (l.length=0)=false→L=L2:=by(intro hc;simp only[hc,ls];(conv=>lhs;whnf);try exact rfl)):(bif decide (l.length=0) then a else b)=some r→L=R:=by
 by_cases h:l.length=0
 ·rw[decide_eq_true h];exact fun e=>(w1 (List.eq_nil_of_length_eq_zero h)).trans (k1 e)
 ·rw[decide_eq_false h];exact fun e=>(w2 (decide_eq_false h)).trans (k2 e)
theorem cr {α β ρ:Type} {P:Program} {H:By} {X:Ext} {call:D1} {n:Nat} {m:Option α} {g:α→Option β} {r:β} {f:FuncId} {a:List AV} {p:Hp} {v:α→Option (AV×Hp)} {L:ρ} {L1:α→ρ} {R:ρ} (hc:∀ g l h,call false g l h=Hh P H X n g l h) (hk:∀ y,m=some y→Hh P H X n f a p=v y) (k:∀ y,g y=some r→L1 y=R) (w:∀ y,call false f a p=v y→L=L1 y:=by(intro y hk;(try simp only[List.length_nil,List.map_nil] at hk);(try simp only[List.length_nil,List.map_nil]);(first | simp only[hk] | rewrite[hk] | ((try simp only[ls]);(first | simp only[hk] | rewrite[hk])) | ((try simp only[List.drop_zero] at hk);(try simp only[List.drop_zero,ls]);(first | simp only[hk] | rewrite[hk])));(try simp only[ls]);(conv=>lhs;whnf);try exact rfl)):m.bind g=some r→L=R:=ca hc hk k w
theorem ap {α:Type} (f:α→List AV) (a:List (List AV)) (l:List α) (y:List (List AV)) (m:List α) (ha:a=List.map f l:=by rfl) (hy:y=List.map f m:=by rfl):a++y=List.map f (l++m)∧a.length+y.length=(l++m).length∧l.length+y.length=(l++m).length∧l.length+m.length=(l++m).length∧a.length+m.length=(l++m).length:=by
 subst ha;subst hy;simp
theorem ar {α ρ:Type} {c:Bool} {a:Option α} {r:α} {E:Prop} {L L1 R:ρ} (e:E) (k1:a=some r→L1=R) (w1:c=true→E→∀ q,L1=q→L=q:=by(intro hc he q hq;(first | refine B1 (Wz hc (by first | rfl | simp only[Bd]) (by first | rfl | simp only[Bd]) (by first | rfl | simp only[Bd,D2]) (by kernel_rfl)) ?_ | refine B1 (U1 hc (by first | rfl | simp only[Bd]) (by first | rfl | simp only[Bd,D2]) (by kernel_rfl)) ?_ | skip);(try simp only[lt]);(try simp only[he]);(try simp only[ls,c0]);(try simp only[he]);(try simp only[ls]);(conv=>lhs;whnf);exact hq)):(bif c then a else none)=some r→L=R:=A6w fun hc h=>w1 hc e _ (k1 h)
theorem rz {α ρ:Type} {a r:α} {L R:ρ} (k:a=r→L=R:=by(intro e;cases e;first | rfl | (simp only[ls]<;>rfl))):some a=some r→L=R:=fun h=>k (sj h)
set_option linter.unusedSimpArgs false
theorem Am0 {a b:List UInt8} (h:bs a=bs b):a=b:=by
 have:=congrArg (fun x:ByteArray=>x.data.toList) h
 simpa [bs] using this
def Af2:Rd (List UInt8):=Amf
theorem Ag9:Adu Try.prog 9 Af2:=Agq Try.underlying9 (by kernel_rfl)
set_option maxRecDepth 100000
set_option maxHeartbeats 4000000
noncomputable abbrev CN:=Hh Try.prog HH XT
def O3:Nat→Int→Option Bool
 | 0,_=>none
 | n+1,Fr=>(bif decide (48≤Fr) then(some (decide (Fr≤57))) else(some false))
def Mf:Nat→Int→Option Bool
 | 0,_=>none
 | n+1,Fr=>(bif decide (97≤Fr) then(bif decide (Fr≤122) then(some true) else(bif decide (65≤Fr) then(bif decide (Fr≤90) then(some true) else(some (Fr==95))) else(some (Fr==95)))) else(bif decide (65≤Fr) then(bif decide (Fr≤90) then(some true) else(some (Fr==95))) else(some (Fr==95))))
def P1:Nat→(List UInt8)→Option Int
 | 0,_=>none
 | n+1,Bp=>(bif decide (2≤((Bp.length:Nat):Int)) then(bif (decide (0≤2)&&decide (2≤((Bp.length:Nat):Int))) then(bif ((List.drop 0 (List.take ((2:Int).toNat) Bp))==([61,61]:List UInt8)) then(some 2) else(bif ((List.drop 0 (List.take ((2:Int).toNat) Bp))==([33,61]:List UInt8)) then(some 2) else(bif ((List.drop 0 (List.take ((2:Int).toNat) Bp))==([60,61]:List UInt8)) then(some 2) else(bif ((List.drop 0 (List.take ((2:Int).toNat) Bp))==([38,38]:List UInt8)) then(some 2) else(bif ((List.drop 0 (List.take ((2:Int).toNat) Bp))==([124,124]:List UInt8)) then(some 2) else((idx Bp 0).bind fun x8=>(bif ((x8.toNat:Int)==59) then(some 1) else(bif ((x8.toNat:Int)==44) then(some 1) else(bif ((x8.toNat:Int)==123) then(some 1) else(bif ((x8.toNat:Int)==125) then(some 1) else(bif ((x8.toNat:Int)==40) then(some 1) else(bif ((x8.toNat:Int)==41) then(some 1) else(bif ((x8.toNat:Int)==46) then(some 1) else(bif ((x8.toNat:Int)==61) then(some 1) else(bif ((x8.toNat:Int)==43) then(some 1) else(bif ((x8.toNat:Int)==45) then(some 1) else(bif ((x8.toNat:Int)==42) then(some 1) else(bif ((x8.toNat:Int)==33) then(some 1) else(bif ((x8.toNat:Int)==60) then(some 1) else(some 0)))))))))))))))))))) else none) else((idx Bp 0).bind fun x22=>(bif ((x22.toNat:Int)==59) then(some 1) else(bif ((x22.toNat:Int)==44) then(some 1) else(bif ((x22.toNat:Int)==123) then(some 1) else(bif ((x22.toNat:Int)==125) then(some 1) else(bif ((x22.toNat:Int)==40) then(some 1) else(bif ((x22.toNat:Int)==41) then(some 1) else(bif ((x22.toNat:Int)==46) then(some 1) else(bif ((x22.toNat:Int)==61) then(some 1) else(bif ((x22.toNat:Int)==43) then(some 1) else(bif ((x22.toNat:Int)==45) then(some 1) else(bif ((x22.toNat:Int)==42) then(some 1) else(bif ((x22.toNat:Int)==33) then(some 1) else(bif ((x22.toNat:Int)==60) then(some 1) else(some 0))))))))))))))))
def Cu (n:Nat)  (Bp:(List UInt8)):Nat→Int→(List A5)→Option (LR (List A5) ((List A5)×Int×Int))
 | 0,_,_=>none
 | k4+1,s2,s3=>(bif decide (s2<((Bp.length:Nat):Int)) then(bif (decide (0≤s2)&&decide (s2≤((Bp.length:Nat):Int))) then((idx (List.drop (s2.toNat) (List.take (Bp.length) Bp)) 0).bind fun x14=>(bif ((IntKind.i32.wrap ((x14.toNat:Int)))==32) then(Cu n Bp k4 (IntKind.i64.wrap (s2+1)) s3) else(bif ((IntKind.i32.wrap ((x14.toNat:Int)))==9) then(Cu n Bp k4 (IntKind.i64.wrap (s2+1)) s3) else(bif ((IntKind.i32.wrap ((x14.toNat:Int)))==10) then(Cu n Bp k4 (IntKind.i64.wrap (s2+1)) s3) else(bif ((IntKind.i32.wrap ((x14.toNat:Int)))==13) then(Cu n Bp k4 (IntKind.i64.wrap (s2+1)) s3) else(bif ((IntKind.i32.wrap ((x14.toNat:Int)))==35) then((Kz n (List.drop (s2.toNat) (List.take (Bp.length) Bp))).bind fun y20=>(Cu n Bp k4 (IntKind.i64.wrap (s2+y20)) s3)) else((Mf n (IntKind.i32.wrap ((x14.toNat:Int)))).bind fun y22=>(bif y22 then((Kp n (List.drop (s2.toNat) (List.take (Bp.length) Bp))).bind fun y25=>(bif decide (16<y25) then(some (.ret (([]:List A5),2,s2))) else(bif (decide (0≤y25)&&decide (y25≤((((List.drop (s2.toNat) (List.take (Bp.length) Bp))).length:Nat):Int))) then(bif decide ((s3.length+1)*41≤140737488355328) then(Cu n Bp k4 (IntKind.i64.wrap (s2+((((List.drop 0 (List.take (y25.toNat) (List.drop (s2.toNat) (List.take (Bp.length) Bp))))).length:Nat):Int))) (s3++([(⟨1,(List.drop 0 (List.take (y25.toNat) (List.drop (s2.toNat) (List.take (Bp.length) Bp)))),0,s2⟩:A5)]:List A5))) else none) else none))) else((O3 n (IntKind.i32.wrap ((x14.toNat:Int)))).bind fun y31=>(bif y31 then((Lh n (List.drop (s2.toNat) (List.take (Bp.length) Bp))).bind fun y34=>(bif (decide (0≤y34)&&decide (y34≤((((List.drop (s2.toNat) (List.take (Bp.length) Bp))).length:Nat):Int))) then(bif (decide (0≤y34)&&decide (y34≤((((List.drop (s2.toNat) (List.take (Bp.length) Bp))).length:Nat):Int))) then((Ql n (List.drop 0 (List.take (y34.toNat) (List.drop (s2.toNat) (List.take (Bp.length) Bp))))).bind fun y38=>(bif decide (9999<y38) then(some (.ret (([]:List A5),4,s2))) else(bif decide ((s3.length+1)*41≤140737488355328) then(Cu n Bp k4 (IntKind.i64.wrap (s2+((((List.drop 0 (List.take (y34.toNat) (List.drop (s2.toNat) (List.take (Bp.length) Bp))))).length:Nat):Int))) (s3++([(⟨2,(List.drop 0 (List.take (y34.toNat) (List.drop (s2.toNat) (List.take (Bp.length) Bp)))),y38,s2⟩:A5)]:List A5))) else none))) else none) else none)) else((P1 n (List.drop (s2.toNat) (List.take (Bp.length) Bp))).bind fun y43=>(bif (y43==0) then(some (.ret (([]:List A5),3,s2))) else(bif (decide (0≤y43)&&decide (y43≤((((List.drop (s2.toNat) (List.take (Bp.length) Bp))).length:Nat):Int))) then(bif decide ((s3.length+1)*41≤140737488355328) then(Cu n Bp k4 (IntKind.i64.wrap (s2+((((List.drop 0 (List.take (y43.toNat) (List.drop (s2.toNat) (List.take (Bp.length) Bp))))).length:Nat):Int))) (s3++([(⟨3,(List.drop 0 (List.take (y43.toNat) (List.drop (s2.toNat) (List.take (Bp.length) Bp)))),0,s2⟩:A5)]:List A5))) else none) else none))))))))))))) else none) else(some (.out s3)))
def Oq:Nat→(List UInt8)→Option ((List A5)×Int×Int)
 | 0,_=>none
 | n+1,Bp=>(bif decide (20000<((Bp.length:Nat):Int)) then(some (([]:List A5),2,20000)) else((Cu n Bp n 0 ([]:List A5)).bind fun o11=>match o11 with|.out x50=>(some (x50,0,0))|.ret v=>some v))
def Fw (n:Nat)  (Bi:(List A1)) (Bk:(List A1)):Nat→Bool→Int→Option (LR Unit Bool)
 | 0,_,_=>none
 | k4+1,s2,s3=>(bif decide (s3<((Bi.length:Nat):Int)) then((idx Bi s3).bind fun x13=>((idx Bk s3).bind fun x14=>(bif (x13.Bm != x14.Bm) then(some (.ret false)) else((idx Bi s3).bind fun x16=>((idx Bk s3).bind fun x17=>(bif (x16.C2 != x17.C2) then(some (.ret false)) else((idx Bi s3).bind fun x19=>((idx Bk s3).bind fun x20=>(bif (x19.An==x20.An) then((idx Bi s3).bind fun x22=>((idx Bk s3).bind fun x23=>(bif (x22.Dd==x23.Dd) then(bif s2 then((idx Bi s3).bind fun x26=>((idx Bk s3).bind fun x27=>(bif (x26.Al != x27.Al) then(some (.ret false)) else(Fw n Bi Bk k4 true (IntKind.i64.wrap (s3+1)))))) else(Fw n Bi Bk k4 false (IntKind.i64.wrap (s3+1)))) else(some (.ret false))))) else(some (.ret false))))))))))) else(some (.out ())))
def Hi:Nat→(List A1)→(List A1)→Bool→Option Bool
 | 0,_,_,_=>none
 | n+1,Bi,Bk,Ef=>(bif (((Bi.length:Nat):Int) != ((Bk.length:Nat):Int)) then(some false) else((Fw n Bi Bk n Ef 0).bind fun o11=>match o11 with|.out _=>(some true)|.ret v=>some v))
def Kv:Nat→Int→Option Int
 | 0,_=>none
 | n+1,Ev=>(bif decide (1≤Ev) then(bif decide (Ev≤4) then(some 0) else(bif (Ev==5) then(some 1) else(bif decide (6≤Ev) then(bif decide (Ev≤14) then(some 2) else(some (-1))) else(some (-1))))) else(bif (Ev==5) then(some 1) else(bif decide (6≤Ev) then(bif decide (Ev≤14) then(some 2) else(some (-1))) else(some (-1)))))
def Ha (n:Nat)  (Ap:(List A1)):Nat→Int→Int→Option (LR Unit Int)
 | 0,_,_=>none
 | k4+1,s2,s3=>(bif decide (s2<((Ap.length:Nat):Int)) then((idx Ap s2).bind fun x13=>((Kv n x13.Bm).bind fun y14=>(bif decide (y14<0) then(some (.ret (-1))) else(bif ((IntKind.i64.wrap (s3+(IntKind.i64.wrap (y14 - 1))))==0) then(some (.ret (IntKind.i64.wrap (s2+1)))) else(Ha n Ap k4 (IntKind.i64.wrap (s2+1)) (IntKind.i64.wrap (s3+(IntKind.i64.wrap (y14 - 1))))))))) else(some (.out ())))
def Qo:Nat→(List A1)→Int→Option Int
 | 0,_,_=>none
 | n+1,Ap,E1=>(bif decide (E1<0) then(some (-1)) else((Ha n Ap n E1 1).bind fun o11=>match o11 with|.out _=>(some (-1))|.ret v=>some v))
def Eb (n:Nat)  (Ap:(List A1)):Nat→Int→(List A1)→Option (LR (List A1) (List A1))
 | 0,_,_=>none
 | k3+1,s1,s2=>(bif decide (s1<((Ap.length:Nat):Int)) then((idx Ap s1).bind fun x12=>(bif (x12.Bm==2) then(bif decide ((s2.length+1)*57≤140737488355328) then(Eb n Ap k3 (IntKind.i64.wrap (s1+1)) (s2++([x12]:List A1))) else none) else(bif (x12.Bm==3) then(bif decide ((s2.length+1)*57≤140737488355328) then(Eb n Ap k3 (IntKind.i64.wrap (s1+1)) (s2++([x12]:List A1))) else none) else(bif (x12.Bm==4) then(bif decide ((s2.length+1)*57≤140737488355328) then(Eb n Ap k3 (IntKind.i64.wrap (s1+1)) (s2++([x12]:List A1))) else none) else(Eb n Ap k3 (IntKind.i64.wrap (s1+1)) s2))))) else(some (.out s2)))
def Lm:Nat→(List A1)→Option (List A1)
 | 0,_=>none
 | n+1,Ap=>((Eb n Ap n 0 ([]:List A1)).bind fun o10=>match o10 with|.out x23=>(some x23)|.ret v=>some v)
def Hs (n:Nat) :Nat→(List Int)→Option (LR (List Int) Int)
 | 0,_=>none
 | k21+1,s20=>(bif decide (0<((s20.length:Nat):Int)) then((idx s20 (IntKind.i64.wrap (((s20.length:Nat):Int) - 1))).bind fun x30=>((idx s20 (IntKind.i64.wrap (((s20.length:Nat):Int) - 1))).bind fun x31=>((idx (List.set s20 (IntKind.i64.wrap (((s20.length:Nat):Int) - 1)).toNat (IntKind.i64.wrap (x30 - 1))) (IntKind.i64.wrap (((s20.length:Nat):Int) - 1))).bind fun x33=>(bif decide (0<x33) then(some (.out (List.set s20 (IntKind.i64.wrap (((s20.length:Nat):Int) - 1)).toNat (IntKind.i64.wrap (x30 - 1))))) else(bif (decide (0≤(IntKind.i64.wrap (((s20.length:Nat):Int) - 1)))&&decide ((IntKind.i64.wrap (((s20.length:Nat):Int) - 1))≤((((List.set s20 (IntKind.i64.wrap (((s20.length:Nat):Int) - 1)).toNat (IntKind.i64.wrap (x30 - 1)))).length:Nat):Int))) then(Hs n k21 (List.take ((IntKind.i64.wrap (((s20.length:Nat):Int) - 1)).toNat) (List.set s20 (IntKind.i64.wrap (((s20.length:Nat):Int) - 1)).toNat (IntKind.i64.wrap (x30 - 1))))) else none))))) else(some (.out s20)))
def Fy (n:Nat)  (Ap:(List A1)):Nat→Int→Int→(List Int)→Option (LR (Int×(List Int)) Int)
 | 0,_,_,_=>none
 | k4+1,s1,s2,s3=>(bif decide (s2<((Ap.length:Nat):Int)) then((idx Ap s2).bind fun x13=>((Kv n x13.Bm).bind fun y14=>(bif decide (0<y14) then(bif decide ((s3.length+1)*9≤140737488355328) then(Fy n Ap k4 (if s1<((s3.length:Nat):Int) then((s3.length:Nat):Int) else s1) (IntKind.i64.wrap (s2+1)) (s3++([y14]:List Int))) else none) else((Hs n n s3).bind fun o28=>match o28 with|.out x38=>(Fy n Ap k4 (if s1<((s3.length:Nat):Int) then((s3.length:Nat):Int) else s1) (IntKind.i64.wrap (s2+1)) x38)|.ret v=>some (.ret v))))) else(some (.out (s1,s3))))
def Le:Nat→(List A1)→Option Int
 | 0,_=>none
 | n+1,Ap=>((Fy n Ap n 0 0 ([]:List Int)).bind fun o11=>match o11 with|.out (x41,x42)=>(some x41)|.ret v=>some v)
def Fp (n:Nat)  (K3:(List (List A1))):Nat→Int→(List A1)→Option (LR (List A1) (List A1))
 | 0,_,_=>none
 | k3+1,s1,s2=>(bif decide (s1<((K3.length:Nat):Int)) then((idx K3 s1).bind fun x12=>(bif decide ((s2.length+x12.length)*57≤140737488355328) then(Fp n K3 k3 (IntKind.i64.wrap (s1+1)) (s2++x12)) else none)) else(some (.out s2)))
def Co:Nat→A1→(List (List A1))→Option (List A1)
 | 0,_,_=>none
 | n+1,Ax,K3=>((Fp n K3 n 0 ([Ax]:List A1)).bind fun o10=>match o10 with|.out x16=>(some x16)|.ret v=>some v)
def Ci:Nat→(List UInt8)→(List A5)→Int→Int→Int→Int→Option Bool
 | 0,_,_,_,_,_,_=>none
 | n+1,Jt,p_l,p_i,p_in,p_e,p_at=>(bif decide (p_i<((p_l.length:Nat):Int)) then((idx p_l p_i).bind fun x2=>(bif (x2.At==3) then((idx p_l p_i).bind fun x4=>(some (x4.A7==Jt))) else(some false))) else(some false))
def C8:Nat→Int→(List A5)→Int→Int→Int→Int→Option ((List A1)×Int×Int)
 | 0,_,_,_,_,_,_=>none
 | n+1,Su,p_l,p_i,p_in,p_e,p_at=>(bif (p_e != 0) then(some (([]:List A1),p_e,p_at)) else(bif decide (p_i<((p_l.length:Nat):Int)) then((idx p_l p_i).bind fun x3=>(some (([]:List A1),Su,x3.Al))) else(bif (Su==5) then(bif decide (0<((p_l.length:Nat):Int)) then((idx p_l (IntKind.i64.wrap (((p_l.length:Nat):Int) - 1))).bind fun x6=>((idx p_l (IntKind.i64.wrap (((p_l.length:Nat):Int) - 1))).bind fun x7=>(some (([]:List A1),6,IntKind.i64.wrap (x6.Al+((x7.A7.length:Nat):Int)))))) else(some (([]:List A1),6,p_at))) else(bif decide (0<((p_l.length:Nat):Int)) then((idx p_l (IntKind.i64.wrap (((p_l.length:Nat):Int) - 1))).bind fun x9=>((idx p_l (IntKind.i64.wrap (((p_l.length:Nat):Int) - 1))).bind fun x10=>(some (([]:List A1),Su,IntKind.i64.wrap (x9.Al+((x10.A7.length:Nat):Int)))))) else(some (([]:List A1),Su,p_at))))))
def D0:Nat→(List A5)→Int→Int→Int→Int→Option ((List UInt8)×Int×Bool×Int)
 | 0,_,_,_,_,_=>none
 | n+1,p_l,p_i,p_in,p_e,p_at=>(bif decide (((p_l.length:Nat):Int)≤p_i) then(some (([]:List UInt8),0,false,p_i)) else((idx p_l p_i).bind fun x2=>(bif (x2.At != 1) then(some (([]:List UInt8),0,false,p_i)) else((idx p_l p_i).bind fun x4=>((Dn n x4.A7).bind fun y5=>(bif y5 then((idx p_l p_i).bind fun x8=>(some (x8.A7,x8.Al,true,IntKind.i64.wrap (p_i+1)))) else(some (([]:List UInt8),0,false,p_i))))))))
def Hb:Nat→Int→Option (List UInt8)
 | 0,_=>none
 | n+1,Ev=>(bif decide (Ev=((14:Nat):Int)) then(some ([124,124]:List UInt8)) else(bif decide (Ev=((13:Nat):Int)) then(some ([38,38]:List UInt8)) else(bif decide (Ev=((12:Nat):Int)) then(some ([60,61]:List UInt8)) else(bif decide (Ev=((11:Nat):Int)) then(some ([60]:List UInt8)) else(bif decide (Ev=((10:Nat):Int)) then(some ([33,61]:List UInt8)) else(bif decide (Ev=((9:Nat):Int)) then(some ([61,61]:List UInt8)) else(bif decide (Ev=((8:Nat):Int)) then(some ([42]:List UInt8)) else(bif decide (Ev=((7:Nat):Int)) then(some ([45]:List UInt8)) else(bif decide (Ev=((6:Nat):Int)) then(some ([43]:List UInt8)) else(bif decide (Ev=((5:Nat):Int)) then(some ([33]:List UInt8)) else(bif decide (Ev=((4:Nat):Int)) then(some ([]:List UInt8)) else(bif decide (Ev=((3:Nat):Int)) then(some ([]:List UInt8)) else(bif decide (Ev=((2:Nat):Int)) then(some ([]:List UInt8)) else(bif decide (Ev=((1:Nat):Int)) then(some ([]:List UInt8)) else(bif decide (Ev=((0:Nat):Int)) then(some ([]:List UInt8)) else none)))))))))))))))
def Bo (n:Nat)  (Au:(List Int)) (p_l:(List A5)) (s5:Int) (s6:Int) (s7:Int) (s8:Int):Nat→Int→Int→Option (LR Int ((List A1)×Int×Int×Int×Int))
 | 0,_,_=>none
 | k20+1,s18,s19=>(bif decide (s19<((Au.length:Nat):Int)) then((idx Au s19).bind fun x29=>((Hb n x29).bind fun y30=>((Ci n y30 p_l s5 s6 s7 s8).bind fun y32=>(bif y32 then(Bo n Au p_l s5 s6 s7 s8 k20 x29 (IntKind.i64.wrap (s19+1))) else(Bo n Au p_l s5 s6 s7 s8 k20 s18 (IntKind.i64.wrap (s19+1))))))) else(some (.out s18)))
def B5 (n:Nat) (rec_expr_parser_both:(List A5)→Int→Int→Int→Int→Option ((List A1)×Int×Int×Int×Int)) (Au:(List Int)) (p_l:(List A5)):Nat→Bool→(List A1)→Int→Int→Int→Int→Option (LR ((List A1)×Int×Int×Int×Int) ((List A1)×Int×Int×Int×Int))
 | 0,_,_,_,_,_,_=>none
 | k9+1,s3,s4,s5,s6,s7,s8=>(bif (s7==0) then((Bo n Au p_l s5 s6 s7 s8 n 0 0).bind fun o27=>match o27 with|.out x36=>(bif (x36==0) then(some (.out (s4,s5,s6,s7,s8))) else((idx p_l s5).bind fun x38=>((rec_expr_parser_both p_l (IntKind.i64.wrap (s5+1)) s6 s7 s8).bind fun y39=>((Co n (⟨x36,0,([]:List UInt8),([]:List UInt8),x38.Al⟩:A1) ([s4,y39.1]:List (List A1))).bind fun y41=>(bif s3 then(some (.out (y41,y39.2.1,y39.2.2.1,y39.2.2.2.1,y39.2.2.2.2))) else(B5 n rec_expr_parser_both Au p_l k9 false y41 y39.2.1 y39.2.2.1 y39.2.2.2.1 y39.2.2.2.2))))))|.ret v=>some (.ret v)) else(some (.out (s4,s5,s6,s7,s8))))
def Dw (n:Nat)  (Au:(List Int)) (p_l:(List A5)) (s5:Int) (s6:Int) (s7:Int) (s8:Int):Nat→Int→Int→Option (LR Int ((List A1)×Int×Int×Int×Int))
 | 0,_,_=>none
 | k20+1,s18,s19=>(bif decide (s19<((Au.length:Nat):Int)) then((idx Au s19).bind fun x29=>((Hb n x29).bind fun y30=>((Ci n y30 p_l s5 s6 s7 s8).bind fun y32=>(bif y32 then(Dw n Au p_l s5 s6 s7 s8 k20 x29 (IntKind.i64.wrap (s19+1))) else(Dw n Au p_l s5 s6 s7 s8 k20 s18 (IntKind.i64.wrap (s19+1))))))) else(some (.out s18)))
def Ej (n:Nat) (rec_expr_parser_compared:(List A5)→Int→Int→Int→Int→Option ((List A1)×Int×Int×Int×Int)) (Au:(List Int)) (p_l:(List A5)):Nat→Bool→(List A1)→Int→Int→Int→Int→Option (LR ((List A1)×Int×Int×Int×Int) ((List A1)×Int×Int×Int×Int))
 | 0,_,_,_,_,_,_=>none
 | k9+1,s3,s4,s5,s6,s7,s8=>(bif (s7==0) then((Dw n Au p_l s5 s6 s7 s8 n 0 0).bind fun o27=>match o27 with|.out x36=>(bif (x36==0) then(some (.out (s4,s5,s6,s7,s8))) else((idx p_l s5).bind fun x38=>((rec_expr_parser_compared p_l (IntKind.i64.wrap (s5+1)) s6 s7 s8).bind fun y39=>((Co n (⟨x36,0,([]:List UInt8),([]:List UInt8),x38.Al⟩:A1) ([s4,y39.1]:List (List A1))).bind fun y41=>(bif s3 then(some (.out (y41,y39.2.1,y39.2.2.1,y39.2.2.2.1,y39.2.2.2.2))) else(Ej n rec_expr_parser_compared Au p_l k9 false y41 y39.2.1 y39.2.2.1 y39.2.2.2.1 y39.2.2.2.2))))))|.ret v=>some (.ret v)) else(some (.out (s4,s5,s6,s7,s8))))
def Du (n:Nat)  (Au:(List Int)) (p_l:(List A5)) (s5:Int) (s6:Int) (s7:Int) (s8:Int):Nat→Int→Int→Option (LR Int ((List A1)×Int×Int×Int×Int))
 | 0,_,_=>none
 | k20+1,s18,s19=>(bif decide (s19<((Au.length:Nat):Int)) then((idx Au s19).bind fun x29=>((Hb n x29).bind fun y30=>((Ci n y30 p_l s5 s6 s7 s8).bind fun y32=>(bif y32 then(Du n Au p_l s5 s6 s7 s8 k20 x29 (IntKind.i64.wrap (s19+1))) else(Du n Au p_l s5 s6 s7 s8 k20 s18 (IntKind.i64.wrap (s19+1))))))) else(some (.out s18)))
def Ei (n:Nat) (rec_expr_parser_sum:(List A5)→Int→Int→Int→Int→Option ((List A1)×Int×Int×Int×Int)) (Au:(List Int)) (p_l:(List A5)):Nat→Bool→(List A1)→Int→Int→Int→Int→Option (LR ((List A1)×Int×Int×Int×Int) ((List A1)×Int×Int×Int×Int))
 | 0,_,_,_,_,_,_=>none
 | k9+1,s3,s4,s5,s6,s7,s8=>(bif (s7==0) then((Du n Au p_l s5 s6 s7 s8 n 0 0).bind fun o27=>match o27 with|.out x36=>(bif (x36==0) then(some (.out (s4,s5,s6,s7,s8))) else((idx p_l s5).bind fun x38=>((rec_expr_parser_sum p_l (IntKind.i64.wrap (s5+1)) s6 s7 s8).bind fun y39=>((Co n (⟨x36,0,([]:List UInt8),([]:List UInt8),x38.Al⟩:A1) ([s4,y39.1]:List (List A1))).bind fun y41=>(bif s3 then(some (.out (y41,y39.2.1,y39.2.2.1,y39.2.2.2.1,y39.2.2.2.2))) else(Ei n rec_expr_parser_sum Au p_l k9 false y41 y39.2.1 y39.2.2.1 y39.2.2.2.1 y39.2.2.2.2))))))|.ret v=>some (.ret v)) else(some (.out (s4,s5,s6,s7,s8))))
def Dz (n:Nat)  (Au:(List Int)) (p_l:(List A5)) (s5:Int) (s6:Int) (s7:Int) (s8:Int):Nat→Int→Int→Option (LR Int ((List A1)×Int×Int×Int×Int))
 | 0,_,_=>none
 | k20+1,s18,s19=>(bif decide (s19<((Au.length:Nat):Int)) then((idx Au s19).bind fun x29=>((Hb n x29).bind fun y30=>((Ci n y30 p_l s5 s6 s7 s8).bind fun y32=>(bif y32 then(Dz n Au p_l s5 s6 s7 s8 k20 x29 (IntKind.i64.wrap (s19+1))) else(Dz n Au p_l s5 s6 s7 s8 k20 s18 (IntKind.i64.wrap (s19+1))))))) else(some (.out s18)))
def Em (n:Nat) (rec_expr_parser_product:(List A5)→Int→Int→Int→Int→Option ((List A1)×Int×Int×Int×Int)) (Au:(List Int)) (p_l:(List A5)):Nat→Bool→(List A1)→Int→Int→Int→Int→Option (LR ((List A1)×Int×Int×Int×Int) ((List A1)×Int×Int×Int×Int))
 | 0,_,_,_,_,_,_=>none
 | k9+1,s3,s4,s5,s6,s7,s8=>(bif (s7==0) then((Dz n Au p_l s5 s6 s7 s8 n 0 0).bind fun o27=>match o27 with|.out x36=>(bif (x36==0) then(some (.out (s4,s5,s6,s7,s8))) else((idx p_l s5).bind fun x38=>((rec_expr_parser_product p_l (IntKind.i64.wrap (s5+1)) s6 s7 s8).bind fun y39=>((Co n (⟨x36,0,([]:List UInt8),([]:List UInt8),x38.Al⟩:A1) ([s4,y39.1]:List (List A1))).bind fun y41=>(bif s3 then(some (.out (y41,y39.2.1,y39.2.2.1,y39.2.2.2.1,y39.2.2.2.2))) else(Em n rec_expr_parser_product Au p_l k9 false y41 y39.2.1 y39.2.2.1 y39.2.2.2.1 y39.2.2.2.2))))))|.ret v=>some (.ret v)) else(some (.out (s4,s5,s6,s7,s8))))
def Dy (n:Nat)  (Au:(List Int)) (p_l:(List A5)) (s5:Int) (s6:Int) (s7:Int) (s8:Int):Nat→Int→Int→Option (LR Int ((List A1)×Int×Int×Int×Int))
 | 0,_,_=>none
 | k20+1,s18,s19=>(bif decide (s19<((Au.length:Nat):Int)) then((idx Au s19).bind fun x29=>((Hb n x29).bind fun y30=>((Ci n y30 p_l s5 s6 s7 s8).bind fun y32=>(bif y32 then(Dy n Au p_l s5 s6 s7 s8 k20 x29 (IntKind.i64.wrap (s19+1))) else(Dy n Au p_l s5 s6 s7 s8 k20 s18 (IntKind.i64.wrap (s19+1))))))) else(some (.out s18)))
def En (n:Nat) (rec_expr_parser_single:(List A5)→Int→Int→Int→Int→Option ((List A1)×Int×Int×Int×Int)) (Au:(List Int)) (p_l:(List A5)):Nat→Bool→(List A1)→Int→Int→Int→Int→Option (LR ((List A1)×Int×Int×Int×Int) ((List A1)×Int×Int×Int×Int))
 | 0,_,_,_,_,_,_=>none
 | k9+1,s3,s4,s5,s6,s7,s8=>(bif (s7==0) then((Dy n Au p_l s5 s6 s7 s8 n 0 0).bind fun o27=>match o27 with|.out x36=>(bif (x36==0) then(some (.out (s4,s5,s6,s7,s8))) else((idx p_l s5).bind fun x38=>((rec_expr_parser_single p_l (IntKind.i64.wrap (s5+1)) s6 s7 s8).bind fun y39=>((Co n (⟨x36,0,([]:List UInt8),([]:List UInt8),x38.Al⟩:A1) ([s4,y39.1]:List (List A1))).bind fun y41=>(bif s3 then(some (.out (y41,y39.2.1,y39.2.2.1,y39.2.2.2.1,y39.2.2.2.2))) else(En n rec_expr_parser_single Au p_l k9 false y41 y39.2.1 y39.2.2.1 y39.2.2.2.1 y39.2.2.2.2))))))|.ret v=>some (.ret v)) else(some (.out (s4,s5,s6,s7,s8))))
mutual
def Dh:Nat→(List A5)→Int→Int→Int→Int→Option ((List A1)×Int×Int×Int×Int)
 | 0,_,_,_,_,_=>none
 | n+1,p_l,p_i,p_in,p_e,p_at=>(((L5 n) false ([14]:List Int) p_l p_i p_in p_e p_at).bind fun y1=>(some (y1.1,y1.2.1,y1.2.2.1,y1.2.2.2.1,y1.2.2.2.2)))
def Cx:Nat→(List A5)→Int→Int→Int→Int→Option ((List A1)×Int×Int×Int×Int)
 | 0,_,_,_,_,_=>none
 | n+1,p_l,p_i,p_in,p_e,p_at=>(((Jh n) false ([13]:List Int) p_l p_i p_in p_e p_at).bind fun y1=>(some (y1.1,y1.2.1,y1.2.2.1,y1.2.2.2.1,y1.2.2.2.2)))
def Ce:Nat→(List A5)→Int→Int→Int→Int→Option ((List A1)×Int×Int×Int×Int)
 | 0,_,_,_,_,_=>none
 | n+1,p_l,p_i,p_in,p_e,p_at=>(((Jk n) true ([9,10,11,12]:List Int) p_l p_i p_in p_e p_at).bind fun y1=>(some (y1.1,y1.2.1,y1.2.2.1,y1.2.2.2.1,y1.2.2.2.2)))
def E6:Nat→(List A5)→Int→Int→Int→Int→Option ((List A1)×Int×Int×Int×Int)
 | 0,_,_,_,_,_=>none
 | n+1,p_l,p_i,p_in,p_e,p_at=>(bif decide (30≤p_in) then((C8 n 7 p_l p_i p_in p_e p_at).bind fun y2=>(some (y2.1,p_i,p_in,y2.2.1,y2.2.2))) else(((Bj n) p_l (IntKind.i64.wrap (p_i+1)) (IntKind.i64.wrap (p_in+1)) p_e p_at).bind fun y4=>(some (y4.1,y4.2.1,IntKind.i64.wrap (y4.2.2.1 - 1),y4.2.2.2.1,y4.2.2.2.2))))
def Dm:Nat→(List A5)→Int→Int→Int→Int→Option ((List A1)×Int×Int×Int×Int)
 | 0,_,_,_,_,_=>none
 | n+1,p_l,p_i,p_in,p_e,p_at=>(bif decide (30≤p_in) then((C8 n 7 p_l p_i p_in p_e p_at).bind fun y2=>(some (y2.1,p_i,p_in,y2.2.1,y2.2.2))) else(((Dh n) p_l (IntKind.i64.wrap (p_i+1)) (IntKind.i64.wrap (p_in+1)) p_e p_at).bind fun y4=>(some (y4.1,y4.2.1,IntKind.i64.wrap (y4.2.2.1 - 1),y4.2.2.2.1,y4.2.2.2.2))))
def Ch:Nat→(List A5)→Int→Int→Int→Int→Option ((List A1)×Int×Int×Int×Int)
 | 0,_,_,_,_,_=>none
 | n+1,p_l,p_i,p_in,p_e,p_at=>(((Jl n) false ([8]:List Int) p_l p_i p_in p_e p_at).bind fun y1=>(some (y1.1,y1.2.1,y1.2.2.1,y1.2.2.2.1,y1.2.2.2.2)))
def L5:Nat→Bool→(List Int)→(List A5)→Int→Int→Int→Int→Option ((List A1)×Int×Int×Int×Int)
 | 0,_,_,_,_,_,_,_=>none
 | n+1,Cs,Au,p_l,p_i,p_in,p_e,p_at=>(((Cx n) p_l p_i p_in p_e p_at).bind fun y1=>((B5 n (Cx n) Au p_l n Cs y1.1 y1.2.1 y1.2.2.1 y1.2.2.2.1 y1.2.2.2.2).bind fun o16=>match o16 with|.out (x46,x47,x48,x49,x50)=>(some (x46,x47,x48,x49,x50))|.ret v=>some v))
def Jh:Nat→Bool→(List Int)→(List A5)→Int→Int→Int→Int→Option ((List A1)×Int×Int×Int×Int)
 | 0,_,_,_,_,_,_,_=>none
 | n+1,Cs,Au,p_l,p_i,p_in,p_e,p_at=>(((Ce n) p_l p_i p_in p_e p_at).bind fun y1=>((Ej n (Ce n) Au p_l n Cs y1.1 y1.2.1 y1.2.2.1 y1.2.2.2.1 y1.2.2.2.2).bind fun o16=>match o16 with|.out (x46,x47,x48,x49,x50)=>(some (x46,x47,x48,x49,x50))|.ret v=>some v))
def Jk:Nat→Bool→(List Int)→(List A5)→Int→Int→Int→Int→Option ((List A1)×Int×Int×Int×Int)
 | 0,_,_,_,_,_,_,_=>none
 | n+1,Cs,Au,p_l,p_i,p_in,p_e,p_at=>(((D6 n) p_l p_i p_in p_e p_at).bind fun y1=>((Ei n (D6 n) Au p_l n Cs y1.1 y1.2.1 y1.2.2.1 y1.2.2.2.1 y1.2.2.2.2).bind fun o16=>match o16 with|.out (x46,x47,x48,x49,x50)=>(some (x46,x47,x48,x49,x50))|.ret v=>some v))
def Ji:Nat→Bool→(List Int)→(List A5)→Int→Int→Int→Int→Option ((List A1)×Int×Int×Int×Int)
 | 0,_,_,_,_,_,_,_=>none
 | n+1,Cs,Au,p_l,p_i,p_in,p_e,p_at=>(((Ch n) p_l p_i p_in p_e p_at).bind fun y1=>((Em n (Ch n) Au p_l n Cs y1.1 y1.2.1 y1.2.2.1 y1.2.2.2.1 y1.2.2.2.2).bind fun o16=>match o16 with|.out (x46,x47,x48,x49,x50)=>(some (x46,x47,x48,x49,x50))|.ret v=>some v))
def Jl:Nat→Bool→(List Int)→(List A5)→Int→Int→Int→Int→Option ((List A1)×Int×Int×Int×Int)
 | 0,_,_,_,_,_,_,_=>none
 | n+1,Cs,Au,p_l,p_i,p_in,p_e,p_at=>(((Bj n) p_l p_i p_in p_e p_at).bind fun y1=>((En n (Bj n) Au p_l n Cs y1.1 y1.2.1 y1.2.2.1 y1.2.2.2.1 y1.2.2.2.2).bind fun o16=>match o16 with|.out (x46,x47,x48,x49,x50)=>(some (x46,x47,x48,x49,x50))|.ret v=>some v))
def Bj:Nat→(List A5)→Int→Int→Int→Int→Option ((List A1)×Int×Int×Int×Int)
 | 0,_,_,_,_,_=>none
 | n+1,p_l,p_i,p_in,p_e,p_at=>(bif (p_e != 0) then(some (([]:List A1),p_i,p_in,p_e,p_at)) else((Ci n ([33]:List UInt8) p_l p_i p_in p_e p_at).bind fun y2=>(bif y2 then((idx p_l p_i).bind fun x5=>(((E6 n) p_l p_i p_in p_e p_at).bind fun y6=>((Co n (⟨5,0,([]:List UInt8),([]:List UInt8),x5.Al⟩:A1) ([y6.1]:List (List A1))).bind fun y8=>(some (y8,y6.2.1,y6.2.2.1,y6.2.2.2.1,y6.2.2.2.2))))) else((Ci n ([40]:List UInt8) p_l p_i p_in p_e p_at).bind fun y10=>(bif y10 then(((Dm n) p_l p_i p_in p_e p_at).bind fun y13=>(bif (y13.2.2.2.1==0) then((Ci n ([41]:List UInt8) p_l y13.2.1 y13.2.2.1 y13.2.2.2.1 y13.2.2.2.2).bind fun y16=>(bif y16 then(some (y13.1,IntKind.i64.wrap (y13.2.1+1),y13.2.2.1,y13.2.2.2.1,y13.2.2.2.2)) else((C8 n 5 p_l y13.2.1 y13.2.2.1 y13.2.2.2.1 y13.2.2.2.2).bind fun y19=>(some (y19.1,y13.2.1,y13.2.2.1,y19.2.1,y19.2.2))))) else(some (y13.1,IntKind.i64.wrap (y13.2.1+1),y13.2.2.1,y13.2.2.2.1,y13.2.2.2.2)))) else(bif decide (p_i<((p_l.length:Nat):Int)) then((idx p_l p_i).bind fun x22=>(bif (x22.At==2) then((idx p_l p_i).bind fun x24=>((Co n (⟨1,x24.C2,([]:List UInt8),([]:List UInt8),x24.Al⟩:A1) ([]:List (List A1))).bind fun y25=>(some (y25,IntKind.i64.wrap (p_i+1),p_in,p_e,p_at)))) else((D0 n p_l p_i p_in p_e p_at).bind fun y27=>(bif y27.2.2.1 then((Ci n ([46]:List UInt8) p_l y27.2.2.2 p_in p_e p_at).bind fun y30=>(bif y30 then((D0 n p_l (IntKind.i64.wrap (y27.2.2.2+1)) p_in p_e p_at).bind fun y33=>(bif y33.2.2.1 then((Co n (⟨4,0,y33.1,y27.1,y27.2.1⟩:A1) ([]:List (List A1))).bind fun y36=>(some (y36,y33.2.2.2,p_in,p_e,p_at))) else((C8 n 5 p_l y33.2.2.2 p_in p_e p_at).bind fun y38=>(some (y38.1,y33.2.2.2,p_in,y38.2.1,y38.2.2))))) else((Co n (⟨2,0,y27.1,([]:List UInt8),y27.2.1⟩:A1) ([]:List (List A1))).bind fun y40=>(some (y40,y27.2.2.2,p_in,p_e,p_at))))) else((C8 n 5 p_l y27.2.2.2 p_in p_e p_at).bind fun y42=>(some (y42.1,y27.2.2.2,p_in,y42.2.1,y42.2.2))))))) else((D0 n p_l p_i p_in p_e p_at).bind fun y44=>(bif y44.2.2.1 then((Ci n ([46]:List UInt8) p_l y44.2.2.2 p_in p_e p_at).bind fun y47=>(bif y47 then((D0 n p_l (IntKind.i64.wrap (y44.2.2.2+1)) p_in p_e p_at).bind fun y50=>(bif y50.2.2.1 then((Co n (⟨4,0,y50.1,y44.1,y44.2.1⟩:A1) ([]:List (List A1))).bind fun y53=>(some (y53,y50.2.2.2,p_in,p_e,p_at))) else((C8 n 5 p_l y50.2.2.2 p_in p_e p_at).bind fun y55=>(some (y55.1,y50.2.2.2,p_in,y55.2.1,y55.2.2))))) else((Co n (⟨2,0,y44.1,([]:List UInt8),y44.2.1⟩:A1) ([]:List (List A1))).bind fun y57=>(some (y57,y44.2.2.2,p_in,p_e,p_at))))) else((C8 n 5 p_l y44.2.2.2 p_in p_e p_at).bind fun y59=>(some (y59.1,y44.2.2.2,p_in,y59.2.1,y59.2.2)))))))))))
def D6:Nat→(List A5)→Int→Int→Int→Int→Option ((List A1)×Int×Int×Int×Int)
 | 0,_,_,_,_,_=>none
 | n+1,p_l,p_i,p_in,p_e,p_at=>(((Ji n) false ([6,7]:List Int) p_l p_i p_in p_e p_at).bind fun y1=>(some (y1.1,y1.2.1,y1.2.2.1,y1.2.2.2.1,y1.2.2.2.2)))
end
def I7:Nat→(List A5)→Int→Option ((List A1)×Int×Int×Int)
 | 0,_,_=>none
 | n+1,Ap,E1=>(bif decide (E1<0) then(some (([]:List A1),0,1,0)) else((Dh n Ap E1 0 0 0).bind fun y2=>(bif (y2.2.2.2.1 != 0) then(some (([]:List A1),0,y2.2.2.2.1,y2.2.2.2.2)) else((Le n y2.1).bind fun y5=>(bif decide (30<y5) then((idx Ap E1).bind fun x8=>(some (([]:List A1),0,7,x8.Al))) else(bif decide (200<((y2.1.length:Nat):Int)) then((idx Ap E1).bind fun x10=>(some (([]:List A1),0,2,x10.Al))) else(some (y2.1,y2.2.1,0,0))))))))
def Ot:Nat→A1→Option Bool
 | 0,_=>none
 | n+1,Ax=>(bif decide (Ax.Al<0) then(some false) else(bif (Ax.Bm==1) then(bif ((Ax.Bm==Ax.Bm)&&((Ax.C2==Ax.C2)&&((Ax.An==([]:List UInt8))&&((Ax.Dd==([]:List UInt8))&&((Ax.Al==Ax.Al)&&true))))) then(bif decide (0≤Ax.C2) then(some (decide (Ax.C2≤9999))) else(some false)) else(some false)) else(bif (Ax.Bm==4) then((Dn n Ax.Dd).bind fun y7=>(bif y7 then(bif ((Ax.Bm==Ax.Bm)&&((Ax.C2==0)&&((Ax.An==Ax.An)&&((Ax.Dd==Ax.Dd)&&((Ax.Al==Ax.Al)&&true))))) then((Dn n Ax.An).bind fun y11=>(some y11)) else(some false)) else(some false))) else(bif (Ax.Bm==2) then(bif ((Ax.Bm==Ax.Bm)&&((Ax.C2==0)&&((Ax.An==Ax.An)&&((Ax.Dd==([]:List UInt8))&&((Ax.Al==Ax.Al)&&true))))) then((Dn n Ax.An).bind fun y16=>(some y16)) else(some false)) else(bif (Ax.Bm==3) then(bif ((Ax.Bm==Ax.Bm)&&((Ax.C2==0)&&((Ax.An==Ax.An)&&((Ax.Dd==([]:List UInt8))&&((Ax.Al==Ax.Al)&&true))))) then((Dn n Ax.An).bind fun y21=>(some y21)) else(some false)) else(some ((Ax.Bm==Ax.Bm)&&((Ax.C2==0)&&((Ax.An==([]:List UInt8))&&((Ax.Dd==([]:List UInt8))&&((Ax.Al==Ax.Al)&&true)))))))))))
def Gn (n:Nat)  (Ap:(List A1)):Nat→Int→Option (LR Unit Bool)
 | 0,_=>none
 | k7+1,s6=>(bif decide (s6<((Ap.length:Nat):Int)) then((idx Ap s6).bind fun x16=>((Ot n x16).bind fun y17=>(bif y17 then(Gn n Ap k7 (IntKind.i64.wrap (s6+1))) else(some (.ret false))))) else(some (.out ())))
def J9:Nat→(List A1)→Option Bool
 | 0,_=>none
 | n+1,Ap=>(bif (((Ap.length:Nat):Int)==0) then(some false) else(bif decide (200<((Ap.length:Nat):Int)) then(some false) else((Qo n Ap 0).bind fun y3=>(bif (y3 != ((Ap.length:Nat):Int)) then(some false) else((Gn n Ap n 0).bind fun o14=>match o14 with|.out _=>((Le n Ap).bind fun y21=>(some (decide (y21≤30))))|.ret v=>some v)))))
def Oh:Nat→Int→Option (List UInt8)
 | 0,_=>none
 | n+1,C7=>(bif decide (C7<10) then(some ([UInt8.ofNat (IntKind.u8.wrap (IntKind.i64.wrap (48+C7))).toNat]:List UInt8)) else(((Oh n) (IntKind.i64.wrap (Int.tdiv C7 10))).bind fun y2=>(bif decide (y2.length+(([UInt8.ofNat (IntKind.u8.wrap (IntKind.i64.wrap (48+(Int.tmod C7 10)))).toNat]:List UInt8)).length≤140737488355328) then(some (y2++([UInt8.ofNat (IntKind.u8.wrap (IntKind.i64.wrap (48+(Int.tmod C7 10)))).toNat]:List UInt8))) else none)))
def Lp:Nat→(List A1)→Int→Bool→Option ((List UInt8)×Int)
 | 0,_,_,_=>none
 | n+1,Ap,E1,R2=>((idx Ap E1).bind fun x1=>(bif (x1.Bm==1) then((Oh n x1.C2).bind fun y3=>(some (y3,IntKind.i64.wrap (E1+1)))) else(bif (x1.Bm==2) then(some (x1.An,IntKind.i64.wrap (E1+1))) else(bif (x1.Bm==3) then(some (x1.An,IntKind.i64.wrap (E1+1))) else(bif (x1.Bm==4) then(bif decide (x1.Dd.length+(([46]:List UInt8)).length≤140737488355328) then(bif decide (((x1.Dd++([46]:List UInt8))).length+x1.An.length≤140737488355328) then(some (((x1.Dd++([46]:List UInt8))++x1.An),IntKind.i64.wrap (E1+1))) else none) else none) else(bif (x1.Bm==5) then(((Lp n) Ap (IntKind.i64.wrap (E1+1)) true).bind fun y11=>((Hb n x1.Bm).bind fun y13=>(bif decide (y13.length+y11.1.length≤140737488355328) then(some ((y13++y11.1),y11.2)) else none))) else(((Lp n) Ap (IntKind.i64.wrap (E1+1)) true).bind fun y16=>(((Lp n) Ap y16.2 true).bind fun y18=>(bif decide (y16.1.length+(([32]:List UInt8)).length≤140737488355328) then((Hb n x1.Bm).bind fun y21=>(bif decide (((y16.1++([32]:List UInt8))).length+y21.length≤140737488355328) then(bif decide ((((y16.1++([32]:List UInt8))++y21)).length+(([32]:List UInt8)).length≤140737488355328) then(bif decide (((((y16.1++([32]:List UInt8))++y21)++([32]:List UInt8))).length+y18.1.length≤140737488355328) then(bif R2 then(bif decide ((([40]:List UInt8)).length+(((((y16.1++([32]:List UInt8))++y21)++([32]:List UInt8))++y18.1)).length≤140737488355328) then(bif decide (((([40]:List UInt8)++((((y16.1++([32]:List UInt8))++y21)++([32]:List UInt8))++y18.1))).length+(([41]:List UInt8)).length≤140737488355328) then(some (((([40]:List UInt8)++((((y16.1++([32]:List UInt8))++y21)++([32]:List UInt8))++y18.1))++([41]:List UInt8)),y18.2)) else none) else none) else(some (((((y16.1++([32]:List UInt8))++y21)++([32]:List UInt8))++y18.1),y18.2))) else none) else none) else none)) else none)))))))))
def P2:Nat→(List A1)→Option (List UInt8)
 | 0,_=>none
 | n+1,Ap=>((J9 n Ap).bind fun y1=>(bif y1 then((Lp n Ap 0 false).bind fun y4=>(some y4.1)) else(some ([]:List UInt8))))
def Ft (n:Nat)  (Bi:(List A3)) (Bk:(List A3)):Nat→Bool→Int→Option (LR Unit Bool)
 | 0,_,_=>none
 | k4+1,s2,s3=>(bif decide (s3<((Bi.length:Nat):Int)) then((idx Bi s3).bind fun x13=>((idx Bk s3).bind fun x14=>(bif (x13.At != x14.At) then(some (.ret false)) else(bif (x13.H7==x14.H7) then(bif (x13.H8==x14.H8) then(bif (x13.N3==x14.N3) then(bif (x13.Be != x14.Be) then(some (.ret false)) else(bif (x13.Cv != x14.Cv) then(some (.ret false)) else(bif s2 then(bif (x13.Al != x14.Al) then(some (.ret false)) else((Hi n x13.Et x14.Et true).bind fun y23=>(bif y23 then((Hi n x13.O6 x14.O6 true).bind fun y26=>(bif y26 then(Ft n Bi Bk k4 true (IntKind.i64.wrap (s3+1))) else(some (.ret false)))) else(some (.ret false))))) else((Hi n x13.Et x14.Et false).bind fun y29=>(bif y29 then((Hi n x13.O6 x14.O6 false).bind fun y32=>(bif y32 then(Ft n Bi Bk k4 false (IntKind.i64.wrap (s3+1))) else(some (.ret false)))) else(some (.ret false))))))) else(some (.ret false))) else(some (.ret false))) else(some (.ret false)))))) else(some (.out ())))
def O4:Nat→(List A3)→(List A3)→Bool→Option Bool
 | 0,_,_,_=>none
 | n+1,Bi,Bk,Ef=>(bif (((Bi.length:Nat):Int) != ((Bk.length:Nat):Int)) then(some false) else((Ft n Bi Bk n Ef 0).bind fun o11=>match o11 with|.out _=>(some true)|.ret v=>some v))
def J8:Nat→Option (List Bh)
 | 0=>none
 | n+1=>(some ([(⟨([]:List UInt8),([]:List UInt8),false,false⟩:Bh),(⟨([115,107,105,112]:List UInt8),([59]:List UInt8),false,false⟩:Bh),(⟨([115,101,116]:List UInt8),([114,61,101,59]:List UInt8),false,false⟩:Bh),(⟨([108,111,97,100]:List UInt8),([114,61,108,59]:List UInt8),false,false⟩:Bh),(⟨([115,116,111,114,101]:List UInt8),([108,61,101,59]:List UInt8),false,false⟩:Bh),(⟨([99,97,115]:List UInt8),([114,61,108,44,101,44,102,59]:List UInt8),false,false⟩:Bh),(⟨([102,97,100,100]:List UInt8),([114,61,108,44,101,59]:List UInt8),false,false⟩:Bh),(⟨([120,99,104,103]:List UInt8),([114,61,108,44,101,59]:List UInt8),false,false⟩:Bh),(⟨([102,101,110,99,101]:List UInt8),([59]:List UInt8),false,false⟩:Bh),(⟨([97,119,97,105,116]:List UInt8),([108,113,101,59]:List UInt8),false,false⟩:Bh),(⟨([105,102]:List UInt8),([101]:List UInt8),true,true⟩:Bh),(⟨([119,104,105,108,101]:List UInt8),([101]:List UInt8),true,false⟩:Bh),(⟨([108,111,111,112]:List UInt8),([]:List UInt8),true,false⟩:Bh),(⟨([98,114,101,97,107]:List UInt8),([59]:List UInt8),false,false⟩:Bh)]:List Bh))
def D5:Nat→Int→(List UInt8)→(List A5)→Int→Int→Int→(List ((List UInt8)×Int))→Option Bool
 | 0,_,_,_,_,_,_,_=>none
 | n+1,Gi,Aaj,p_l,p_i,p_e,p_at,Ab=>(bif decide (p_i<((p_l.length:Nat):Int)) then((idx p_l p_i).bind fun x2=>(bif (x2.At==Gi) then((idx p_l p_i).bind fun x4=>(some (x4.A7==Aaj))) else(some false))) else(some false))
def Pw:Nat→Int→Option (Bh×Bool)
 | 0,_=>none
 | n+1,C7=>((J8 n ).bind fun y1=>(bif decide (C7<1) then(some ((⟨([]:List UInt8),([]:List UInt8),false,false⟩:Bh),false)) else(bif decide (((y1.length:Nat):Int)≤C7) then(some ((⟨([]:List UInt8),([]:List UInt8),false,false⟩:Bh),false)) else((idx y1 C7).bind fun x5=>(some (x5,true))))))
def On:Nat→Option Bh
 | 0=>none
 | n+1=>((J8 n ).bind fun y1=>(some (⟨([]:List UInt8),([]:List UInt8),false,false⟩:Bh)))
def E8:Nat→Int→(List A5)→Int→Int→Int→(List ((List UInt8)×Int))→Option Int
 | 0,_,_,_,_,_,_=>none
 | n+1,E1,p_l,p_i,p_e,p_at,Ab=>(bif decide (E1<((p_l.length:Nat):Int)) then((idx p_l E1).bind fun x2=>(some x2.Al)) else(bif decide (0<((p_l.length:Nat):Int)) then((idx p_l (IntKind.i64.wrap (((p_l.length:Nat):Int) - 1))).bind fun x4=>((idx p_l (IntKind.i64.wrap (((p_l.length:Nat):Int) - 1))).bind fun x5=>(some (IntKind.i64.wrap (x4.Al+((x5.A7.length:Nat):Int)))))) else(some 0)))
def Cz:Nat→(List A5)→Int→Int→Int→(List ((List UInt8)×Int))→Option (Int×Int)
 | 0,_,_,_,_,_=>none
 | n+1,p_l,p_i,p_e,p_at,Ab=>(bif (p_e != 0) then(some (p_e,p_at)) else((E8 n p_i p_l p_i p_e p_at Ab).bind fun y2=>(bif decide (((p_l.length:Nat):Int)≤p_i) then(some (6,y2)) else(some (5,y2)))))
def Bc:Nat→(List UInt8)→(List A5)→Int→Int→Int→(List ((List UInt8)×Int))→Option (Int×Int×Int)
 | 0,_,_,_,_,_,_=>none
 | n+1,Jt,p_l,p_i,p_e,p_at,Ab=>(bif (p_e != 0) then(some (p_i,p_e,p_at)) else((D5 n 3 Jt p_l p_i p_e p_at Ab).bind fun y2=>(bif y2 then(some (IntKind.i64.wrap (p_i+1),p_e,p_at)) else((Cz n p_l p_i p_e p_at Ab).bind fun y5=>(some (p_i,y5.1,y5.2))))))
def H0:Nat→(List A5)→Int→Int→Int→(List ((List UInt8)×Int))→Option ((List UInt8)×Int×Int×Int)
 | 0,_,_,_,_,_=>none
 | n+1,p_l,p_i,p_e,p_at,Ab=>(bif (p_e != 0) then(some (([]:List UInt8),p_i,p_e,p_at)) else(bif decide (((p_l.length:Nat):Int)≤p_i) then((Cz n p_l p_i p_e p_at Ab).bind fun y3=>(some (([]:List UInt8),p_i,y3.1,y3.2))) else((idx p_l p_i).bind fun x5=>(bif (x5.At != 1) then((Cz n p_l p_i p_e p_at Ab).bind fun y7=>(some (([]:List UInt8),p_i,y7.1,y7.2))) else((idx p_l p_i).bind fun x9=>((Dn n x9.A7).bind fun y10=>(bif y10 then((idx p_l (IntKind.i64.wrap ((IntKind.i64.wrap (p_i+1)) - 1))).bind fun x13=>(some (x13.A7,IntKind.i64.wrap (p_i+1),p_e,p_at))) else((Cz n p_l p_i p_e p_at Ab).bind fun y14=>(some (([]:List UInt8),p_i,y14.1,y14.2))))))))))
def Ic:Nat→(List A5)→Int→Int→Int→(List ((List UInt8)×Int))→Int→(List UInt8)→(List UInt8)→(List A1)→(List A1)→Bool→Int→Int→Int→Option (Int×Int×Int×(List UInt8))
 | 0,_,_,_,_,_,_,_,_,_,_,_,_,_,_=>none
 | n+1,Fc,I0,I1,G5,Fd,D8,E4,E5,Hu,Hv,G6,D9,Da,Ew=>((H0 n Fc I0 I1 G5 Fd).bind fun y1=>(some (y1.2.1,y1.2.2.1,y1.2.2.2,y1.1)))
def Ib:Nat→(List A5)→Int→Int→Int→(List ((List UInt8)×Int))→Int→(List UInt8)→(List UInt8)→(List A1)→(List A1)→Bool→Int→Int→Int→Option (Int×Int×Int×(List UInt8))
 | 0,_,_,_,_,_,_,_,_,_,_,_,_,_,_=>none
 | n+1,Fc,I0,I1,G5,Fd,D8,E4,E5,Hu,Hv,G6,D9,Da,Ew=>((H0 n Fc I0 I1 G5 Fd).bind fun y1=>(some (y1.2.1,y1.2.2.1,y1.2.2.2,y1.1)))
def Hq (n:Nat)  (y1:(List A1)):Nat→Int→Option (LR Unit Bool)
 | 0,_=>none
 | k4+1,s3=>(bif decide (s3<((y1.length:Nat):Int)) then((idx y1 s3).bind fun x13=>(bif (x13.Bm != 2) then(some (.ret false)) else(Hq n y1 k4 (IntKind.i64.wrap (s3+1))))) else(some (.out ())))
def Lj:Nat→(List A1)→Option Bool
 | 0,_=>none
 | n+1,Ap=>((Lm n Ap).bind fun y1=>((Hq n y1 n 0).bind fun o11=>match o11 with|.out _=>((J9 n Ap).bind fun y16=>(some y16))|.ret v=>some v))
def Gz:Nat→(List A5)→Int→Int→Int→(List ((List UInt8)×Int))→Option ((List A1)×Int×Int×Int)
 | 0,_,_,_,_,_=>none
 | n+1,p_l,p_i,p_e,p_at,Ab=>(bif (p_e != 0) then(some (([]:List A1),p_i,p_e,p_at)) else((I7 n p_l p_i).bind fun y2=>(bif (y2.2.2.1 != 0) then(some (([]:List A1),p_i,y2.2.2.1,y2.2.2.2)) else((Lj n y2.1).bind fun y5=>(bif y5 then(some (y2.1,y2.2.1,p_e,p_at)) else((Cz n p_l p_i p_e p_at Ab).bind fun y8=>(some (([]:List A1),p_i,y8.1,y8.2))))))))
def Ie:Nat→(List A5)→Int→Int→Int→(List ((List UInt8)×Int))→Int→(List UInt8)→(List UInt8)→(List A1)→(List A1)→Bool→Int→Int→Int→Option (Int×Int×Int×(List A1))
 | 0,_,_,_,_,_,_,_,_,_,_,_,_,_,_=>none
 | n+1,Fc,I0,I1,G5,Fd,D8,E4,E5,Hu,Hv,G6,D9,Da,Ew=>((Gz n Fc I0 I1 G5 Fd).bind fun y1=>(some (y1.2.1,y1.2.2.1,y1.2.2.2,y1.1)))
def Ig:Nat→(List A5)→Int→Int→Int→(List ((List UInt8)×Int))→Int→(List UInt8)→(List UInt8)→(List A1)→(List A1)→Bool→Int→Int→Int→Option (Int×Int×Int×(List A1))
 | 0,_,_,_,_,_,_,_,_,_,_,_,_,_,_=>none
 | n+1,Fc,I0,I1,G5,Fd,D8,E4,E5,Hu,Hv,G6,D9,Da,Ew=>((Gz n Fc I0 I1 G5 Fd).bind fun y1=>(some (y1.2.1,y1.2.2.1,y1.2.2.2,y1.1)))
def Ia:Nat→(List A5)→Int→Int→Int→(List ((List UInt8)×Int))→Int→(List UInt8)→(List UInt8)→(List A1)→(List A1)→Bool→Int→Int→Int→Option (Int×Int×Int×Bool)
 | 0,_,_,_,_,_,_,_,_,_,_,_,_,_,_=>none
 | n+1,Fc,I0,I1,G5,Fd,D8,E4,E5,Hu,Hv,G6,D9,Da,Ew=>((D5 n 3 ([33,61]:List UInt8) Fc I0 I1 G5 Fd).bind fun y1=>(bif y1 then(some (IntKind.i64.wrap (I0+1),I1,G5,true)) else((Bc n ([61,61]:List UInt8) Fc I0 I1 G5 Fd).bind fun y4=>(some (y4.1,y4.2.1,y4.2.2,false)))))
def C4 (n:Nat) (rec_stmt_parser_one:Int→(List A5)→Int→Int→Int→(List ((List UInt8)×Int))→Option ((List A3)×Int×Int×Int)) (Ep:Int) (p_l:(List A5)) (Ab:(List ((List UInt8)×Int))):Nat→Int→Int→Int→(List A3)→Option (LR (Int×Int×Int×(List A3)) ((List A3)×Int×Int×Int))
 | 0,_,_,_,_=>none
 | k5+1,s1,s2,s3,s4=>(bif (s2==0) then(bif decide (s1<((p_l.length:Nat):Int)) then((D5 n 3 ([125]:List UInt8) p_l s1 s2 s3 Ab).bind fun y15=>(bif y15 then(some (.out (s1,s2,s3,s4))) else((rec_stmt_parser_one Ep p_l s1 s2 s3 Ab).bind fun y18=>(bif decide ((s4.length+y18.1.length)*121≤140737488355328) then(C4 n rec_stmt_parser_one Ep p_l Ab k5 y18.2.1 y18.2.2.1 y18.2.2.2 (s4++y18.1)) else none)))) else(some (.out (s1,s2,s3,s4)))) else(some (.out (s1,s2,s3,s4))))
def Az (n:Nat)  (p_l:(List A5)) (Ab:(List ((List UInt8)×Int))) (x4:A5) (y5:(Bh×Bool)) (y8:Int):Nat→Int→Int→Int→Int→(List UInt8)→(List UInt8)→(List A1)→(List A1)→Bool→Option (LR (Int×Int×Int×(List UInt8)×(List UInt8)×(List A1)×(List A1)×Bool) ((List A3)×Int×Int×Int))
 | 0,_,_,_,_,_,_,_,_,_=>none
 | k24+1,s15,s16,s17,s18,s19,s20,s21,s22,s23=>(bif decide (s15<((y5.1.f_form.length:Nat):Int)) then((idx y5.1.f_form s15).bind fun x33=>(bif decide ((x33.toNat:Int)=114) then(bif (s17==0) then((Ic n p_l s16 s17 s18 Ab (B6 Ab x4.A7 0) s19 s20 s21 s22 s23 0 0 y8).bind fun y36=>(Az n p_l Ab x4 y5 y8 k24 (IntKind.i64.wrap (s15+1)) y36.1 y36.2.1 y36.2.2.1 y36.2.2.2 s20 s21 s22 s23)) else(bif (decide (0≤(IntKind.i64.wrap (s15+1)))&&decide ((IntKind.i64.wrap (s15+1))≤((y5.1.f_form.length:Nat):Int))&&decide (0≤s15)&&decide (s15≤(IntKind.i64.wrap (s15+1)))) then((Bc n (List.drop (s15.toNat) (List.take ((IntKind.i64.wrap (s15+1)).toNat) y5.1.f_form)) p_l s16 s17 s18 Ab).bind fun y39=>(Az n p_l Ab x4 y5 y8 k24 (IntKind.i64.wrap (s15+1)) y39.1 y39.2.1 y39.2.2 s19 s20 s21 s22 s23)) else none)) else(bif decide ((x33.toNat:Int)=108) then(bif (s17==0) then((Ib n p_l s16 s17 s18 Ab (B6 Ab x4.A7 0) s19 s20 s21 s22 s23 0 0 y8).bind fun y43=>(Az n p_l Ab x4 y5 y8 k24 (IntKind.i64.wrap (s15+1)) y43.1 y43.2.1 y43.2.2.1 s19 y43.2.2.2 s21 s22 s23)) else(bif (decide (0≤(IntKind.i64.wrap (s15+1)))&&decide ((IntKind.i64.wrap (s15+1))≤((y5.1.f_form.length:Nat):Int))&&decide (0≤s15)&&decide (s15≤(IntKind.i64.wrap (s15+1)))) then((Bc n (List.drop (s15.toNat) (List.take ((IntKind.i64.wrap (s15+1)).toNat) y5.1.f_form)) p_l s16 s17 s18 Ab).bind fun y46=>(Az n p_l Ab x4 y5 y8 k24 (IntKind.i64.wrap (s15+1)) y46.1 y46.2.1 y46.2.2 s19 s20 s21 s22 s23)) else none)) else(bif decide ((x33.toNat:Int)=101) then(bif (s17==0) then((Ie n p_l s16 s17 s18 Ab (B6 Ab x4.A7 0) s19 s20 s21 s22 s23 0 0 y8).bind fun y50=>(Az n p_l Ab x4 y5 y8 k24 (IntKind.i64.wrap (s15+1)) y50.1 y50.2.1 y50.2.2.1 s19 s20 y50.2.2.2 s22 s23)) else(bif (decide (0≤(IntKind.i64.wrap (s15+1)))&&decide ((IntKind.i64.wrap (s15+1))≤((y5.1.f_form.length:Nat):Int))&&decide (0≤s15)&&decide (s15≤(IntKind.i64.wrap (s15+1)))) then((Bc n (List.drop (s15.toNat) (List.take ((IntKind.i64.wrap (s15+1)).toNat) y5.1.f_form)) p_l s16 s17 s18 Ab).bind fun y53=>(Az n p_l Ab x4 y5 y8 k24 (IntKind.i64.wrap (s15+1)) y53.1 y53.2.1 y53.2.2 s19 s20 s21 s22 s23)) else none)) else(bif decide ((x33.toNat:Int)=102) then(bif (s17==0) then((Ig n p_l s16 s17 s18 Ab (B6 Ab x4.A7 0) s19 s20 s21 s22 s23 0 0 y8).bind fun y57=>(Az n p_l Ab x4 y5 y8 k24 (IntKind.i64.wrap (s15+1)) y57.1 y57.2.1 y57.2.2.1 s19 s20 s21 y57.2.2.2 s23)) else(bif (decide (0≤(IntKind.i64.wrap (s15+1)))&&decide ((IntKind.i64.wrap (s15+1))≤((y5.1.f_form.length:Nat):Int))&&decide (0≤s15)&&decide (s15≤(IntKind.i64.wrap (s15+1)))) then((Bc n (List.drop (s15.toNat) (List.take ((IntKind.i64.wrap (s15+1)).toNat) y5.1.f_form)) p_l s16 s17 s18 Ab).bind fun y60=>(Az n p_l Ab x4 y5 y8 k24 (IntKind.i64.wrap (s15+1)) y60.1 y60.2.1 y60.2.2 s19 s20 s21 s22 s23)) else none)) else(bif decide ((x33.toNat:Int)=113) then(bif (s17==0) then((Ia n p_l s16 s17 s18 Ab (B6 Ab x4.A7 0) s19 s20 s21 s22 s23 0 0 y8).bind fun y64=>(Az n p_l Ab x4 y5 y8 k24 (IntKind.i64.wrap (s15+1)) y64.1 y64.2.1 y64.2.2.1 s19 s20 s21 s22 y64.2.2.2)) else(bif (decide (0≤(IntKind.i64.wrap (s15+1)))&&decide ((IntKind.i64.wrap (s15+1))≤((y5.1.f_form.length:Nat):Int))&&decide (0≤s15)&&decide (s15≤(IntKind.i64.wrap (s15+1)))) then((Bc n (List.drop (s15.toNat) (List.take ((IntKind.i64.wrap (s15+1)).toNat) y5.1.f_form)) p_l s16 s17 s18 Ab).bind fun y67=>(Az n p_l Ab x4 y5 y8 k24 (IntKind.i64.wrap (s15+1)) y67.1 y67.2.1 y67.2.2 s19 s20 s21 s22 s23)) else none)) else(bif (decide (0≤(IntKind.i64.wrap (s15+1)))&&decide ((IntKind.i64.wrap (s15+1))≤((y5.1.f_form.length:Nat):Int))&&decide (0≤s15)&&decide (s15≤(IntKind.i64.wrap (s15+1)))) then((Bc n (List.drop (s15.toNat) (List.take ((IntKind.i64.wrap (s15+1)).toNat) y5.1.f_form)) p_l s16 s17 s18 Ab).bind fun y70=>(Az n p_l Ab x4 y5 y8 k24 (IntKind.i64.wrap (s15+1)) y70.1 y70.2.1 y70.2.2 s19 s20 s21 s22 s23)) else none))))))) else(some (.out (s16,s17,s18,s19,s20,s21,s22,s23))))
mutual
def Bn:Nat→Int→(List A5)→Int→Int→Int→(List ((List UInt8)×Int))→Option ((List A3)×Int×Int×Int)
 | 0,_,_,_,_,_,_=>none
 | n+1,Ep,p_l,p_i,p_e,p_at,Ab=>(bif (p_e==0) then((D5 n 3 ([123]:List UInt8) p_l p_i p_e p_at Ab).bind fun y2=>(bif y2 then(bif decide (30≤Ep) then((E8 n p_i p_l p_i p_e p_at Ab).bind fun y6=>((Bc n ([123]:List UInt8) p_l p_i 7 y6 Ab).bind fun y8=>(((C0 n) (IntKind.i64.wrap (Ep+1)) p_l y8.1 y8.2.1 y8.2.2 Ab).bind fun y10=>((Bc n ([125]:List UInt8) p_l y10.2.1 y10.2.2.1 y10.2.2.2 Ab).bind fun y12=>(some (y10.1,y12.1,y12.2.1,y12.2.2)))))) else((Bc n ([123]:List UInt8) p_l p_i p_e p_at Ab).bind fun y14=>(((C0 n) (IntKind.i64.wrap (Ep+1)) p_l y14.1 y14.2.1 y14.2.2 Ab).bind fun y16=>((Bc n ([125]:List UInt8) p_l y16.2.1 y16.2.2.1 y16.2.2.2 Ab).bind fun y18=>(some (y16.1,y18.1,y18.2.1,y18.2.2)))))) else((Bc n ([123]:List UInt8) p_l p_i p_e p_at Ab).bind fun y20=>(((C0 n) (IntKind.i64.wrap (Ep+1)) p_l y20.1 y20.2.1 y20.2.2 Ab).bind fun y22=>((Bc n ([125]:List UInt8) p_l y22.2.1 y22.2.2.1 y22.2.2.2 Ab).bind fun y24=>(some (y22.1,y24.1,y24.2.1,y24.2.2))))))) else((Bc n ([123]:List UInt8) p_l p_i p_e p_at Ab).bind fun y26=>(((C0 n) (IntKind.i64.wrap (Ep+1)) p_l y26.1 y26.2.1 y26.2.2 Ab).bind fun y28=>((Bc n ([125]:List UInt8) p_l y28.2.1 y28.2.2.1 y28.2.2.2 Ab).bind fun y30=>(some (y28.1,y30.1,y30.2.1,y30.2.2))))))
def C0:Nat→Int→(List A5)→Int→Int→Int→(List ((List UInt8)×Int))→Option ((List A3)×Int×Int×Int)
 | 0,_,_,_,_,_,_=>none
 | n+1,Ep,p_l,p_i,p_e,p_at,Ab=>((C4 n (Bq n) Ep p_l Ab n p_i p_e p_at ([]:List A3)).bind fun o12=>match o12 with|.out (x23,x24,x25,x26)=>(some (x26,x23,x24,x25))|.ret v=>some v)
def Bq:Nat→Int→(List A5)→Int→Int→Int→(List ((List UInt8)×Int))→Option ((List A3)×Int×Int×Int)
 | 0,_,_,_,_,_,_=>none
 | n+1,Ep,p_l,p_i,p_e,p_at,Ab=>(bif decide (p_i<((p_l.length:Nat):Int)) then((idx p_l p_i).bind fun x2=>(bif (x2.At==1) then((idx p_l p_i).bind fun x4=>((Pw n (B6 Ab x4.A7 0)).bind fun y5=>(bif y5.2 then((E8 n p_i p_l p_i p_e p_at Ab).bind fun y8=>(Rg n fun n10=>((Az n p_l Ab x4 y5 y8 n 0 (IntKind.i64.wrap (p_i+1)) p_e p_at ([]:List UInt8) ([]:List UInt8) ([]:List A1) ([]:List A1) false).bind fun o31=>match o31 with|.out (x73,x74,x75,x76,x77,x78,x79,x80)=>(bif y5.1.f_body then(((Bn n) Ep p_l x73 x74 x75 Ab).bind fun y82=>(bif y5.1.f_more then(bif (y82.2.2.1==0) then((D5 n 1 ([101,108,115,101]:List UInt8) p_l y82.2.1 y82.2.2.1 y82.2.2.2 Ab).bind fun y86=>(bif y86 then(((Bn n) Ep p_l (IntKind.i64.wrap (y82.2.1+1)) y82.2.2.1 y82.2.2.2 Ab).bind fun y89=>(bif decide (((([(⟨(B6 Ab x4.A7 0),x76,x77,x78,x79,x80,((y82.1.length:Nat):Int),((y89.1.length:Nat):Int),y8⟩:A3)]:List A3)).length+y82.1.length)*121≤140737488355328) then(bif decide ((((([(⟨(B6 Ab x4.A7 0),x76,x77,x78,x79,x80,((y82.1.length:Nat):Int),((y89.1.length:Nat):Int),y8⟩:A3)]:List A3)++y82.1)).length+y89.1.length)*121≤140737488355328) then(some (((([(⟨(B6 Ab x4.A7 0),x76,x77,x78,x79,x80,((y82.1.length:Nat):Int),((y89.1.length:Nat):Int),y8⟩:A3)]:List A3)++y82.1)++y89.1),y89.2.1,y89.2.2.1,y89.2.2.2)) else none) else none)) else(bif decide (((([(⟨(B6 Ab x4.A7 0),x76,x77,x78,x79,x80,((y82.1.length:Nat):Int),0,y8⟩:A3)]:List A3)).length+y82.1.length)*121≤140737488355328) then(bif decide ((((([(⟨(B6 Ab x4.A7 0),x76,x77,x78,x79,x80,((y82.1.length:Nat):Int),0,y8⟩:A3)]:List A3)++y82.1)).length+0)*121≤140737488355328) then(some ((([(⟨(B6 Ab x4.A7 0),x76,x77,x78,x79,x80,((y82.1.length:Nat):Int),0,y8⟩:A3)]:List A3)++y82.1),y82.2.1,y82.2.2.1,y82.2.2.2)) else none) else none))) else(bif decide (((([(⟨(B6 Ab x4.A7 0),x76,x77,x78,x79,x80,((y82.1.length:Nat):Int),0,y8⟩:A3)]:List A3)).length+y82.1.length)*121≤140737488355328) then(bif decide ((((([(⟨(B6 Ab x4.A7 0),x76,x77,x78,x79,x80,((y82.1.length:Nat):Int),0,y8⟩:A3)]:List A3)++y82.1)).length+0)*121≤140737488355328) then(some ((([(⟨(B6 Ab x4.A7 0),x76,x77,x78,x79,x80,((y82.1.length:Nat):Int),0,y8⟩:A3)]:List A3)++y82.1),y82.2.1,y82.2.2.1,y82.2.2.2)) else none) else none)) else(bif decide (((([(⟨(B6 Ab x4.A7 0),x76,x77,x78,x79,x80,((y82.1.length:Nat):Int),0,y8⟩:A3)]:List A3)).length+y82.1.length)*121≤140737488355328) then(bif decide ((((([(⟨(B6 Ab x4.A7 0),x76,x77,x78,x79,x80,((y82.1.length:Nat):Int),0,y8⟩:A3)]:List A3)++y82.1)).length+0)*121≤140737488355328) then(some ((([(⟨(B6 Ab x4.A7 0),x76,x77,x78,x79,x80,((y82.1.length:Nat):Int),0,y8⟩:A3)]:List A3)++y82.1),y82.2.1,y82.2.2.1,y82.2.2.2)) else none) else none))) else(bif y5.1.f_more then(bif (x74==0) then((D5 n 1 ([101,108,115,101]:List UInt8) p_l x73 x74 x75 Ab).bind fun y112=>(bif y112 then(((Bn n) Ep p_l (IntKind.i64.wrap (x73+1)) x74 x75 Ab).bind fun y115=>(bif decide (((([(⟨(B6 Ab x4.A7 0),x76,x77,x78,x79,x80,0,((y115.1.length:Nat):Int),y8⟩:A3)]:List A3)).length+y115.1.length)*121≤140737488355328) then(some ((([(⟨(B6 Ab x4.A7 0),x76,x77,x78,x79,x80,0,((y115.1.length:Nat):Int),y8⟩:A3)]:List A3)++y115.1),y115.2.1,y115.2.2.1,y115.2.2.2)) else none)) else(some (([(⟨(B6 Ab x4.A7 0),x76,x77,x78,x79,x80,0,0,y8⟩:A3)]:List A3),x73,x74,x75)))) else(some (([(⟨(B6 Ab x4.A7 0),x76,x77,x78,x79,x80,0,0,y8⟩:A3)]:List A3),x73,x74,x75))) else(some (([(⟨(B6 Ab x4.A7 0),x76,x77,x78,x79,x80,0,0,y8⟩:A3)]:List A3),x73,x74,x75))))|.ret v=>some v))) else((Cz n p_l p_i p_e p_at Ab).bind fun y134=>(some (([]:List A3),p_i,y134.1,y134.2)))))) else((On n ).bind fun y136=>((Cz n p_l p_i p_e p_at Ab).bind fun y138=>(some (([]:List A3),p_i,y138.1,y138.2)))))) else((On n ).bind fun y140=>((Cz n p_l p_i p_e p_at Ab).bind fun y142=>(some (([]:List A3),p_i,y142.1,y142.2)))))
end
def Ij (n:Nat)  (y3:(List Bh)):Nat→Int→(List ((List UInt8)×Int))→Option (LR (List ((List UInt8)×Int)) ((List A3)×Int×Int×Int))
 | 0,_,_=>none
 | k7+1,s5,s6=>(bif decide (s5<((y3.length:Nat):Int)) then((idx y3 s5).bind fun x16=>(bif (x16.f_word==([]:List UInt8)) then(Ij n y3 k7 (IntKind.i64.wrap (s5+1)) s6) else(Ij n y3 k7 (IntKind.i64.wrap (s5+1)) (Ok s6 x16.f_word s5)))) else(some (.out s6)))
def I9:Nat→(List A5)→Int→Option ((List A3)×Int×Int×Int)
 | 0,_,_=>none
 | n+1,Ap,E1=>(bif decide (E1<0) then(some (([]:List A3),0,1,0)) else(bif decide (((Ap.length:Nat):Int)<E1) then(some (([]:List A3),0,1,0)) else((J8 n ).bind fun y3=>((Ij n y3 n 0 ([]:(List ((List UInt8)×Int)))).bind fun o14=>match o14 with|.out x20=>((C0 n 0 Ap E1 0 0 x20).bind fun y21=>(bif (y21.2.2.1 != 0) then(some (([]:List A3),0,y21.2.2.1,y21.2.2.2)) else(bif decide (200<((y21.1.length:Nat):Int)) then((E8 n E1 Ap y21.2.1 y21.2.2.1 y21.2.2.2 x20).bind fun y25=>(some (([]:List A3),0,2,y25))) else(some (y21.1,y21.2.1,0,0)))))|.ret v=>some v))))
def Qj:Nat→Int→Option Bool
 | 0,_=>none
 | n+1,J2=>(bif (J2==10) then(some true) else(bif (J2==11) then(some true) else(bif (J2==12) then(some true) else(some false))))
def F7 (n:Nat) (rec_stmt_depth_1:Int→Int→Int→(List A3)→Int→Option (Bool×Int)) (Ap:(List A3)) (Dk:Int) (o0:(List A3)):Nat→Int→Int→Option (LR Int (Bool×Int))
 | 0,_,_=>none
 | k3+1,s1,s2=>(bif decide (s1<Dk) then((idx Ap s1).bind fun x12=>(bif decide (x12.Be<0) then(some (.ret (false,s2))) else(bif decide (x12.Cv<0) then(some (.ret (false,s2))) else(bif decide ((IntKind.i64.wrap ((IntKind.i64.wrap (Dk - s1)) - 1))<x12.Be) then(some (.ret (false,s2))) else(bif decide ((IntKind.i64.wrap ((IntKind.i64.wrap ((IntKind.i64.wrap (Dk - s1)) - 1)) - x12.Be))<x12.Cv) then(some (.ret (false,s2))) else((rec_stmt_depth_1 s1 (IntKind.i64.wrap ((IntKind.i64.wrap (s1+1))+x12.Be)) (IntKind.i64.wrap ((IntKind.i64.wrap ((IntKind.i64.wrap (s1+1))+x12.Be))+x12.Cv)) o0 s2).bind fun y17=>(bif y17.1 then(F7 n rec_stmt_depth_1 Ap Dk o0 k3 (IntKind.i64.wrap ((IntKind.i64.wrap ((IntKind.i64.wrap (s1+1))+x12.Be))+x12.Cv)) y17.2) else(some (.ret (false,y17.2)))))))))) else(some (.out s2)))
mutual
def O1:Nat→(List A3)→Int→Int→Option Int
 | 0,_,_,_=>none
 | n+1,Ap,Dt,Dk=>(((Jc n) Ap Dt Dk Ap 0).bind fun y1=>(bif y1.1 then(some y1.2) else(some (-1))))
def Ld:Nat→Int→Int→Int→(List A3)→Int→Option (Bool×Int)
 | 0,_,_,_,_,_=>none
 | n+1,G7,Ko,Mo,o0,o1=>(((O1 n) o0 (IntKind.i64.wrap (G7+1)) Ko).bind fun y1=>(((O1 n) o0 Ko Mo).bind fun y3=>((idx o0 G7).bind fun x5=>((Qj n x5.At).bind fun y6=>(bif y6 then(bif (y1 != (-1)) then(some ((y3 != (-1)),A20 o1 (IntKind.i64.wrap (1+y1)) (IntKind.i64.wrap (1+y3)))) else(some (false,A20 o1 (IntKind.i64.wrap (1+y1)) (IntKind.i64.wrap (1+y3))))) else(bif (y1 != (-1)) then(some ((y3 != (-1)),o1)) else(some (false,o1))))))))
def Jc:Nat→(List A3)→Int→Int→(List A3)→Int→Option (Bool×Int)
 | 0,_,_,_,_,_=>none
 | n+1,Ap,Dt,Dk,o0,o1=>((F7 n (Ld n) Ap Dk o0 n Dt o1).bind fun o10=>match o10 with|.out x21=>(some (true,x21))|.ret v=>some v)
end
def Uv:Nat→(List A3)→Option Int
 | 0,_=>none
 | n+1,Ap=>((O1 n Ap 0 ((Ap.length:Nat):Int)).bind fun y1=>(some y1))
def J4 (n:Nat)  (Ju:Bh) (Mw:Int):Nat→Int→Option (LR Unit Bool)
 | 0,_=>none
 | k2+1,s1=>(bif decide (s1<((Ju.f_form.length:Nat):Int)) then((idx Ju.f_form s1).bind fun x11=>(bif ((x11.toNat:Int)==Mw) then(some (.ret true)) else(J4 n Ju Mw k2 (IntKind.i64.wrap (s1+1))))) else(some (.out ())))
def F9:Nat→Bh→Int→Option Bool
 | 0,_,_=>none
 | n+1,Ju,Mw=>((J4 n Ju Mw n 0).bind fun o9=>match o9 with|.out _=>(some false)|.ret v=>some v)
def Jz:Nat→Int→(List UInt8)→(List UInt8)→(List UInt8)→Bool→Bool→Option Bool
 | 0,_,_,_,_,_,_=>none
 | n+1,G8,Jt,Ez,F0,F1,F2=>((F9 n (⟨Ez,F0,F1,F2⟩:Bh) G8).bind fun y1=>(bif y1 then((Dn n Jt).bind fun y4=>(bif y4 then(some true) else((F9 n (⟨Ez,F0,F1,F2⟩:Bh) G8).bind fun y7=>(bif y7 then(some false) else(some (Jt==([]:List UInt8))))))) else((F9 n (⟨Ez,F0,F1,F2⟩:Bh) G8).bind fun y10=>(bif y10 then(some false) else(some (Jt==([]:List UInt8)))))))
def Jy:Nat→Int→(List A1)→(List UInt8)→(List UInt8)→Bool→Bool→Option Bool
 | 0,_,_,_,_,_,_=>none
 | n+1,G8,A5c,Ez,F0,F1,F2=>((F9 n (⟨Ez,F0,F1,F2⟩:Bh) G8).bind fun y1=>(bif y1 then((Lj n A5c).bind fun y4=>(bif y4 then(some true) else((F9 n (⟨Ez,F0,F1,F2⟩:Bh) G8).bind fun y7=>(bif y7 then(some false) else(some (((A5c.length:Nat):Int)==0)))))) else((F9 n (⟨Ez,F0,F1,F2⟩:Bh) G8).bind fun y10=>(bif y10 then(some false) else(some (((A5c.length:Nat):Int)==0))))))
def W9:Nat→A3→Option Bool
 | 0,_=>none
 | n+1,Ax=>((Pw n Ax.At).bind fun y1=>(bif y1.2 then(bif decide (Ax.Al<0) then(some false) else(bif Ax.N3 then((F9 n y1.1 113).bind fun y6=>(bif y6 then((Jz n 114 Ax.H7 y1.1.f_word y1.1.f_form y1.1.f_body y1.1.f_more).bind fun y9=>(bif y9 then((Jz n 108 Ax.H8 y1.1.f_word y1.1.f_form y1.1.f_body y1.1.f_more).bind fun y12=>(bif y12 then((Jy n 101 Ax.Et y1.1.f_word y1.1.f_form y1.1.f_body y1.1.f_more).bind fun y15=>(bif y15 then((Jy n 102 Ax.O6 y1.1.f_word y1.1.f_form y1.1.f_body y1.1.f_more).bind fun y18=>(bif y18 then(bif y1.1.f_body then(bif y1.1.f_more then(some true) else(some (Ax.Cv==0))) else(bif (Ax.Be==0) then(bif y1.1.f_more then(some true) else(some (Ax.Cv==0))) else(some false))) else(some false))) else(some false))) else(some false))) else(some false))) else(some false))) else((Jz n 114 Ax.H7 y1.1.f_word y1.1.f_form y1.1.f_body y1.1.f_more).bind fun y25=>(bif y25 then((Jz n 108 Ax.H8 y1.1.f_word y1.1.f_form y1.1.f_body y1.1.f_more).bind fun y28=>(bif y28 then((Jy n 101 Ax.Et y1.1.f_word y1.1.f_form y1.1.f_body y1.1.f_more).bind fun y31=>(bif y31 then((Jy n 102 Ax.O6 y1.1.f_word y1.1.f_form y1.1.f_body y1.1.f_more).bind fun y34=>(bif y34 then(bif y1.1.f_body then(bif y1.1.f_more then(some true) else(some (Ax.Cv==0))) else(bif (Ax.Be==0) then(bif y1.1.f_more then(some true) else(some (Ax.Cv==0))) else(some false))) else(some false))) else(some false))) else(some false))) else(some false))))) else(some false)))
def Mn (n:Nat)  (Ap:(List A3)):Nat→Int→Option (LR Unit Bool)
 | 0,_=>none
 | k7+1,s6=>(bif decide (s6<((Ap.length:Nat):Int)) then((idx Ap s6).bind fun x16=>((W9 n x16).bind fun y17=>(bif y17 then(Mn n Ap k7 (IntKind.i64.wrap (s6+1))) else(some (.ret false))))) else(some (.out ())))
def Qr:Nat→(List A3)→Option Bool
 | 0,_=>none
 | n+1,Ap=>((Uv n Ap).bind fun y1=>(bif (y1==(-1)) then(some false) else(bif decide (30<y1) then(some false) else(bif decide (200<((Ap.length:Nat):Int)) then(some false) else((Mn n Ap n 0).bind fun o14=>match o14 with|.out _=>(some true)|.ret v=>some v)))))
def Er (n:Nat)  (Ax:A3) (y1:(Bh×Bool)):Nat→(List UInt8)→Int→Bool→Option (LR ((List UInt8)×Bool) (List UInt8))
 | 0,_,_,_=>none
 | k6+1,s3,s4,s5=>(bif decide (s4<((y1.1.f_form.length:Nat):Int)) then((idx y1.1.f_form s4).bind fun x15=>(bif ((x15.toNat:Int)==114) then(bif decide ((([32]:List UInt8)).length+Ax.H7.length≤140737488355328) then(bif decide (s3.length+((([32]:List UInt8)++Ax.H7)).length≤140737488355328) then(Er n Ax y1 k6 (s3++(([32]:List UInt8)++Ax.H7)) (IntKind.i64.wrap (s4+1)) s5) else none) else none) else(bif ((x15.toNat:Int)==108) then(bif decide ((([32]:List UInt8)).length+Ax.H8.length≤140737488355328) then(bif decide (s3.length+((([32]:List UInt8)++Ax.H8)).length≤140737488355328) then(Er n Ax y1 k6 (s3++(([32]:List UInt8)++Ax.H8)) (IntKind.i64.wrap (s4+1)) s5) else none) else none) else(bif ((x15.toNat:Int)==101) then((P2 n Ax.Et).bind fun y23=>(bif decide ((([32]:List UInt8)).length+y23.length≤140737488355328) then(bif decide (s3.length+((([32]:List UInt8)++y23)).length≤140737488355328) then(Er n Ax y1 k6 (s3++(([32]:List UInt8)++y23)) (IntKind.i64.wrap (s4+1)) s5) else none) else none)) else(bif ((x15.toNat:Int)==102) then((P2 n Ax.O6).bind fun y28=>(bif decide ((([32]:List UInt8)).length+y28.length≤140737488355328) then(bif decide (s3.length+((([32]:List UInt8)++y28)).length≤140737488355328) then(Er n Ax y1 k6 (s3++(([32]:List UInt8)++y28)) (IntKind.i64.wrap (s4+1)) s5) else none) else none)) else(bif ((x15.toNat:Int)==113) then(bif s5 then(bif decide (s3.length+(([32,33,61]:List UInt8)).length≤140737488355328) then(Er n Ax y1 k6 (s3++([32,33,61]:List UInt8)) (IntKind.i64.wrap (s4+1)) true) else none) else(bif decide (s3.length+(([32,61,61]:List UInt8)).length≤140737488355328) then(Er n Ax y1 k6 (s3++([32,61,61]:List UInt8)) (IntKind.i64.wrap (s4+1)) false) else none)) else(bif ((x15.toNat:Int)==61) then(bif decide (s3.length+(([32,61]:List UInt8)).length≤140737488355328) then(Er n Ax y1 k6 (s3++([32,61]:List UInt8)) (IntKind.i64.wrap (s4+1)) s5) else none) else(bif (decide (0≤(IntKind.i32.wrap ((x15.toNat:Int))))&&decide ((IntKind.i32.wrap ((x15.toNat:Int)))<128)) then(bif decide (s3.length+(([UInt8.ofNat (IntKind.i32.wrap ((x15.toNat:Int))).toNat])).length≤140737488355328) then(Er n Ax y1 k6 (s3++([UInt8.ofNat (IntKind.i32.wrap ((x15.toNat:Int))).toNat])) (IntKind.i64.wrap (s4+1)) s5) else none) else none)))))))) else(some (.out (s3,s5))))
def Wj:Nat→A3→Option (List UInt8)
 | 0,_=>none
 | n+1,Ax=>((Pw n Ax.At).bind fun y1=>((Er n Ax y1 n y1.1.f_word 0 Ax.N3).bind fun o13=>match o13 with|.out (x41,x42)=>(some x41)|.ret v=>some v))
def Oo (n:Nat)  (Mx:Int):Nat→(List UInt8)→Int→Option (LR (List UInt8) (List UInt8))
 | 0,_,_=>none
 | k3+1,s1,s2=>(bif decide (s2<Mx) then(bif decide (s1.length+(([32,32]:List UInt8)).length≤140737488355328) then(Oo n Mx k3 (s1++([32,32]:List UInt8)) (IntKind.i64.wrap (s2+1))) else none) else(some (.out s1)))
def Qb:Nat→Int→Option (List UInt8)
 | 0,_=>none
 | n+1,Mx=>((Oo n Mx n ([]:List UInt8) 0).bind fun o10=>match o10 with|.out x14=>(some x14)|.ret v=>some v)
def Fj (n:Nat) (rec_stmt_show_1:Int→Int→Int→(List UInt8)→Int→(List A3)→Option (Bool×(List UInt8))) (Ap:(List A3)) (Dk:Int) (o1:Int) (o2:(List A3)):Nat→Int→(List UInt8)→Option (LR (List UInt8) (Bool×(List UInt8)))
 | 0,_,_=>none
 | k3+1,s1,s2=>(bif decide (s1<Dk) then((idx Ap s1).bind fun x12=>(bif decide (x12.Be<0) then(some (.ret (false,s2))) else(bif decide (x12.Cv<0) then(some (.ret (false,s2))) else(bif decide ((IntKind.i64.wrap ((IntKind.i64.wrap (Dk - s1)) - 1))<x12.Be) then(some (.ret (false,s2))) else(bif decide ((IntKind.i64.wrap ((IntKind.i64.wrap ((IntKind.i64.wrap (Dk - s1)) - 1)) - x12.Be))<x12.Cv) then(some (.ret (false,s2))) else((rec_stmt_show_1 s1 (IntKind.i64.wrap ((IntKind.i64.wrap (s1+1))+x12.Be)) (IntKind.i64.wrap ((IntKind.i64.wrap ((IntKind.i64.wrap (s1+1))+x12.Be))+x12.Cv)) s2 o1 o2).bind fun y17=>(bif y17.1 then(Fj n rec_stmt_show_1 Ap Dk o1 o2 k3 (IntKind.i64.wrap ((IntKind.i64.wrap ((IntKind.i64.wrap (s1+1))+x12.Be))+x12.Cv)) y17.2) else(some (.ret (false,y17.2)))))))))) else(some (.out s2)))
mutual
def P0:Nat→(List A3)→Int→Int→Int→Option (List UInt8)
 | 0,_,_,_,_=>none
 | n+1,Ap,Dt,Dk,Xi=>(((Jr n) Ap Dt Dk ([]:List UInt8) Xi Ap).bind fun y1=>(some y1.2))
def Mg:Nat→Int→Int→Int→(List UInt8)→Int→(List A3)→Option (Bool×(List UInt8))
 | 0,_,_,_,_,_,_=>none
 | n+1,G7,Ko,Mo,o0,o1,o2=>((Qb n o1).bind fun y1=>((idx o2 G7).bind fun x3=>((Wj n x3).bind fun y4=>(bif decide (y1.length+y4.length≤140737488355328) then(bif decide (o0.length+((y1++y4)).length≤140737488355328) then((idx o2 G7).bind fun x8=>((Qj n x8.At).bind fun y9=>(bif y9 then(((P0 n) o2 (IntKind.i64.wrap (G7+1)) Ko (IntKind.i64.wrap (o1+1))).bind fun y12=>(bif decide ((([32,123,10]:List UInt8)).length+y12.length≤140737488355328) then((Qb n o1).bind fun y15=>(bif decide (((([32,123,10]:List UInt8)++y12)).length+y15.length≤140737488355328) then(bif decide (((o0++(y1++y4))).length+(((([32,123,10]:List UInt8)++y12)++y15)).length≤140737488355328) then(bif decide (Ko<Mo) then(((P0 n) o2 Ko Mo (IntKind.i64.wrap (o1+1))).bind fun y20=>(bif decide ((([125,32,101,108,115,101,32,123,10]:List UInt8)).length+y20.length≤140737488355328) then((Qb n o1).bind fun y23=>(bif decide (((([125,32,101,108,115,101,32,123,10]:List UInt8)++y20)).length+y23.length≤140737488355328) then(bif decide ((((o0++(y1++y4))++((([32,123,10]:List UInt8)++y12)++y15))).length+(((([125,32,101,108,115,101,32,123,10]:List UInt8)++y20)++y23)).length≤140737488355328) then(bif decide (((((o0++(y1++y4))++((([32,123,10]:List UInt8)++y12)++y15))++((([125,32,101,108,115,101,32,123,10]:List UInt8)++y20)++y23))).length+(([125]:List UInt8)).length≤140737488355328) then(bif decide ((((((o0++(y1++y4))++((([32,123,10]:List UInt8)++y12)++y15))++((([125,32,101,108,115,101,32,123,10]:List UInt8)++y20)++y23))++([125]:List UInt8))).length+(([10]:List UInt8)).length≤140737488355328) then(some (true,(((((o0++(y1++y4))++((([32,123,10]:List UInt8)++y12)++y15))++((([125,32,101,108,115,101,32,123,10]:List UInt8)++y20)++y23))++([125]:List UInt8))++([10]:List UInt8)))) else none) else none) else none) else none)) else none)) else(bif decide ((((o0++(y1++y4))++((([32,123,10]:List UInt8)++y12)++y15))).length+(([125]:List UInt8)).length≤140737488355328) then(bif decide (((((o0++(y1++y4))++((([32,123,10]:List UInt8)++y12)++y15))++([125]:List UInt8))).length+(([10]:List UInt8)).length≤140737488355328) then(some (true,((((o0++(y1++y4))++((([32,123,10]:List UInt8)++y12)++y15))++([125]:List UInt8))++([10]:List UInt8)))) else none) else none)) else none) else none)) else none)) else(bif decide (((o0++(y1++y4))).length+(([10]:List UInt8)).length≤140737488355328) then(some (true,((o0++(y1++y4))++([10]:List UInt8)))) else none)))) else none) else none))))
def Jr:Nat→(List A3)→Int→Int→(List UInt8)→Int→(List A3)→Option (Bool×(List UInt8))
 | 0,_,_,_,_,_,_=>none
 | n+1,Ap,Dt,Dk,o0,o1,o2=>((Fj n (Mg n) Ap Dk o1 o2 n Dt o0).bind fun o10=>match o10 with|.out x21=>(some (true,x21))|.ret v=>some v)
end
def Rx:Nat→(List A3)→Int→Option (List UInt8)
 | 0,_,_=>none
 | n+1,Ap,Tx=>(bif decide (Tx<0) then(some ([]:List UInt8)) else(bif decide (100<Tx) then(some ([]:List UInt8)) else((Qr n Ap).bind fun y3=>(bif y3 then((P0 n Ap 0 ((Ap.length:Nat):Int) Tx).bind fun y6=>(some y6)) else(some ([]:List UInt8))))))
def Fv (n:Nat)  (Bi:B7) (Bk:B7):Nat→Bool→Int→Option (LR Bool Bool)
 | 0,_,_=>none
 | k7+1,s5,s6=>(bif decide (s6<((Bi.B8.length:Nat):Int)) then((idx Bi.B8 s6).bind fun x16=>((idx Bk.B8 s6).bind fun x17=>(bif (x16.An==x17.An) then((idx Bi.B8 s6).bind fun x19=>((idx Bk.B8 s6).bind fun x20=>(bif (x19.C2 != x20.C2) then(some (.ret false)) else(bif s5 then((idx Bi.B8 s6).bind fun x23=>((idx Bk.B8 s6).bind fun x24=>(bif (x23.Al != x24.Al) then(some (.ret false)) else(Fv n Bi Bk k7 true (IntKind.i64.wrap (s6+1)))))) else(Fv n Bi Bk k7 false (IntKind.i64.wrap (s6+1))))))) else(some (.ret false))))) else(some (.out s5)))
def Gp (n:Nat)  (x39:Ad) (x40:Ad):Nat→Int→Option (LR Unit Bool)
 | 0,_=>none
 | k49+1,s48=>(bif decide (s48<((x39.Bv.length:Nat):Int)) then((idx x39.Bv s48).bind fun x58=>((idx x40.Bv s48).bind fun x59=>(bif (x58==x59) then(Gp n x39 x40 k49 (IntKind.i64.wrap (s48+1))) else(some (.ret false))))) else(some (.out ())))
def Gr (n:Nat)  (x39:Ad) (x40:Ad):Nat→Int→Option (LR Unit Bool)
 | 0,_=>none
 | k64+1,s63=>(bif decide (s63<((x39.Bv.length:Nat):Int)) then((idx x39.Bv s63).bind fun x73=>((idx x40.Bv s63).bind fun x74=>(bif (x73==x74) then(Gr n x39 x40 k64 (IntKind.i64.wrap (s63+1))) else(some (.ret false))))) else(some (.out ())))
def Fx (n:Nat)  (Bi:B7) (Bk:B7):Nat→Bool→Int→Option (LR Bool Bool)
 | 0,_,_=>none
 | k30+1,s28,s29=>(bif decide (s29<((Bi.Ak.length:Nat):Int)) then((idx Bi.Ak s29).bind fun x39=>((idx Bk.Ak s29).bind fun x40=>(bif (x39.An==x40.An) then(bif (((x39.Bv.length:Nat):Int) != ((x40.Bv.length:Nat):Int)) then(some (.ret false)) else((O4 n x39.Be x40.Be s28).bind fun y43=>(bif y43 then(bif s28 then(bif (x39.Al != x40.Al) then(some (.ret false)) else((Gp n x39 x40 n 0).bind fun o56=>match o56 with|.out _=>(Fx n Bi Bk k30 true (IntKind.i64.wrap (s29+1)))|.ret v=>some (.ret v))) else((Gr n x39 x40 n 0).bind fun o71=>match o71 with|.out _=>(Fx n Bi Bk k30 false (IntKind.i64.wrap (s29+1)))|.ret v=>some (.ret v))) else(some (.ret false))))) else(some (.ret false))))) else(some (.out s28)))
def Fu (n:Nat)  (Bi:B7) (Bk:B7):Nat→Bool→Int→Option (LR Unit Bool)
 | 0,_,_=>none
 | k82+1,s80,s81=>(bif decide (s81<((Bi.Ar.length:Nat):Int)) then((idx Bi.Ar s81).bind fun x91=>((idx Bk.Ar s81).bind fun x92=>(bif (x91.At != x92.At) then(some (.ret false)) else((idx Bi.Ar s81).bind fun x94=>((idx Bk.Ar s81).bind fun x95=>((Hi n x94.Et x95.Et s80).bind fun y96=>(bif y96 then(bif s80 then((idx Bi.Ar s81).bind fun x100=>((idx Bk.Ar s81).bind fun x101=>(bif (x100.Al != x101.Al) then(some (.ret false)) else(Fu n Bi Bk k82 true (IntKind.i64.wrap (s81+1)))))) else(Fu n Bi Bk k82 false (IntKind.i64.wrap (s81+1)))) else(some (.ret false))))))))) else(some (.out ())))
def Ni:Nat→B7→B7→Bool→Option Bool
 | 0,_,_,_=>none
 | n+1,Bi,Bk,Ef=>(bif (Bi.Bz != Bk.Bz) then(some false) else(bif (((Bi.B8.length:Nat):Int) != ((Bk.B8.length:Nat):Int)) then(some false) else(bif (((Bi.Ak.length:Nat):Int) != ((Bk.Ak.length:Nat):Int)) then(some false) else(bif (((Bi.Ar.length:Nat):Int) != ((Bk.Ar.length:Nat):Int)) then(some false) else((Fv n Bi Bk n Ef 0).bind fun o14=>match o14 with|.out x27=>((Fx n Bi Bk n x27 0).bind fun o37=>match o37 with|.out x79=>((Fu n Bi Bk n x79 0).bind fun o89=>match o89 with|.out _=>(some true)|.ret v=>some v)|.ret v=>some v)|.ret v=>some v)))))
def M7 (n:Nat) :Nat→Int→(List A1)→Option (LR (List A1) (List A1))
 | 0,_,_=>none
 | k5+1,s3,s4=>(bif decide (s3<(((([]:List A1)).length:Nat):Int)) then((idx s4 s3).bind fun x14=>(M7 n k5 (IntKind.i64.wrap (s3+1)) (List.set s4 s3.toNat (⟨x14.Bm,x14.C2,x14.An,x14.Dd,0⟩:A1)))) else(some (.out s4)))
def Ml (n:Nat)  (Ap:(List A1)):Nat→Int→(List A1)→Option (LR (List A1) (List A1))
 | 0,_,_=>none
 | k21+1,s19,s20=>(bif decide (s19<((Ap.length:Nat):Int)) then((idx s20 s19).bind fun x30=>(Ml n Ap k21 (IntKind.i64.wrap (s19+1)) (List.set s20 s19.toNat (⟨x30.Bm,x30.C2,x30.An,x30.Dd,0⟩:A1)))) else(some (.out s20)))
def Nq:Nat→(List A1)→Option (List A1)
 | 0,_=>none
 | n+1,Ap=>(bif decide (Ap.length*57≤140737488355328) then(bif decide (Ap.length=0) then((M7 n n 0 ([]:List A1)).bind fun o12=>match o12 with|.out x17=>(some x17)|.ret v=>some v) else((Ml n Ap n 0 Ap).bind fun o28=>match o28 with|.out x33=>(some x33)|.ret v=>some v)) else none)
def O0 (n:Nat)  (As:B7):Nat→Int→(List B4)→Option (LR (List B4) B7)
 | 0,_,_=>none
 | k3+1,s1,s2=>(bif decide (s1<((As.B8.length:Nat):Int)) then((idx As.B8 s1).bind fun x12=>(bif decide ((s2.length+1)*33≤140737488355328) then(O0 n As k3 (IntKind.i64.wrap (s1+1)) (s2++([(⟨x12.An,x12.C2,0⟩:B4)]:List B4))) else none)) else(some (.out s2)))
def Nk (n:Nat)  (x28:Ad):Nat→Int→(List A3)→Option (LR (List A3) B7)
 | 0,_,_=>none
 | k32+1,s30,s31=>(bif decide (s30<((x28.Be.length:Nat):Int)) then((idx x28.Be s30).bind fun x41=>((Nq n x41.Et).bind fun y42=>((Nq n x41.O6).bind fun y44=>(bif decide ((s31.length+1)*121≤140737488355328) then(Nk n x28 k32 (IntKind.i64.wrap (s30+1)) (s31++([(⟨x41.At,x41.H7,x41.H8,y42,y44,x41.N3,x41.Be,x41.Cv,0⟩:A3)]:List A3))) else none)))) else(some (.out s31)))
def Ng (n:Nat)  (As:B7):Nat→Int→(List Ad)→Option (LR (List Ad) B7)
 | 0,_,_=>none
 | k19+1,s17,s18=>(bif decide (s17<((As.Ak.length:Nat):Int)) then((idx As.Ak s17).bind fun x28=>(bif decide (x28.Bv.length*17≤140737488355328) then((Nk n x28 n 0 ([]:List A3)).bind fun o39=>match o39 with|.out x49=>(bif decide ((s18.length+1)*73≤140737488355328) then(Ng n As k19 (IntKind.i64.wrap (s17+1)) (s18++([(⟨x28.An,x28.Bv,x49,0⟩:Ad)]:List Ad))) else none)|.ret v=>some (.ret v)) else none)) else(some (.out s18)))
def Nx (n:Nat)  (As:B7):Nat→Int→(List Af)→Option (LR (List Af) B7)
 | 0,_,_=>none
 | k57+1,s55,s56=>(bif decide (s55<((As.Ar.length:Nat):Int)) then((idx As.Ar s55).bind fun x66=>((Nq n x66.Et).bind fun y67=>(bif decide ((s56.length+1)*41≤140737488355328) then(Nx n As k57 (IntKind.i64.wrap (s55+1)) (s56++([(⟨x66.At,y67,0⟩:Af)]:List Af))) else none))) else(some (.out s56)))
def Vz:Nat→B7→Option B7
 | 0,_=>none
 | n+1,As=>((O0 n As n 0 ([]:List B4)).bind fun o10=>match o10 with|.out x16=>((Ng n As n 0 ([]:List Ad)).bind fun o26=>match o26 with|.out x54=>((Nx n As n 0 ([]:List Af)).bind fun o64=>match o64 with|.out x72=>(some (⟨As.Bz,x16,x54,x72⟩:B7))|.ret v=>some v)|.ret v=>some v)|.ret v=>some v)
def Ca:Nat→Int→Int→(List A5)→Int→Int→Int→Option (Int×Int)
 | 0,_,_,_,_,_,_=>none
 | n+1,Su,Jo,p_l,p_i,p_e,p_at=>(bif (p_e==0) then(some (Su,Jo)) else(some (p_e,p_at)))
def Sx:Nat→A5→Int→(List UInt8)→Option Bool
 | 0,_,_,_=>none
 | n+1,Ee,o0,o1=>(bif (Ee.At==o0) then(some (Ee.A7==o1)) else(some false))
def Cy:Nat→(List A5)→Int→Int→Int→Int→(List UInt8)→Option (A5×Bool×Int)
 | 0,_,_,_,_,_,_=>none
 | n+1,p_l,p_i,p_e,p_at,o1,o2=>(bif (p_e != 0) then(some ((⟨0,([]:List UInt8),0,0⟩:A5),false,p_i)) else(bif decide (((p_l.length:Nat):Int)≤p_i) then(some ((⟨0,([]:List UInt8),0,0⟩:A5),false,p_i)) else((idx p_l p_i).bind fun x3=>((Sx n x3 o1 o2).bind fun y4=>(bif y4 then((idx p_l (IntKind.i64.wrap ((IntKind.i64.wrap (p_i+1)) - 1))).bind fun x7=>(some (x7,true,IntKind.i64.wrap (p_i+1)))) else(some ((⟨0,([]:List UInt8),0,0⟩:A5),false,p_i)))))))
def Dg:Nat→(List A5)→Int→Int→Int→Option (Int×Int)
 | 0,_,_,_,_=>none
 | n+1,p_l,p_i,p_e,p_at=>(bif decide (p_i<((p_l.length:Nat):Int)) then((idx p_l p_i).bind fun x2=>((Ca n 5 x2.Al p_l p_i p_e p_at).bind fun y3=>(some (y3.1,y3.2)))) else(bif decide (0<((p_l.length:Nat):Int)) then((idx p_l (IntKind.i64.wrap (((p_l.length:Nat):Int) - 1))).bind fun x6=>((idx p_l (IntKind.i64.wrap (((p_l.length:Nat):Int) - 1))).bind fun x7=>((Ca n 6 (IntKind.i64.wrap (x6.Al+((x7.A7.length:Nat):Int))) p_l p_i p_e p_at).bind fun y8=>(some (y8.1,y8.2))))) else((Ca n 6 0 p_l p_i p_e p_at).bind fun y10=>(some (y10.1,y10.2)))))
def H6:Nat→(List A5)→Int→Int→Int→Int→(List UInt8)→Option (A5×Int×Int×Int)
 | 0,_,_,_,_,_,_=>none
 | n+1,p_l,p_i,p_e,p_at,o1,o2=>((Cy n p_l p_i p_e p_at o1 o2).bind fun y1=>(bif y1.2.1 then(some (y1.1,y1.2.2,p_e,p_at)) else((Dg n p_l y1.2.2 p_e p_at).bind fun y4=>(some (y1.1,y1.2.2,y4.1,y4.2)))))
def Bs:Nat→(List UInt8)→(List A5)→Int→Int→Int→Option (Int×Int×Int)
 | 0,_,_,_,_,_=>none
 | n+1,Jt,p_l,p_i,p_e,p_at=>(Rg n fun n1=>((H6 n p_l p_i p_e p_at 3 Jt).bind fun y6=>(some (y6.2.1,y6.2.2.1,y6.2.2.2))))
def Hj (n:Nat) :Nat→Option (LR Unit (Af×Int×Int×Int))
 | 0=>none
 | k5+1=>(some (.out ()))
def D7 (n:Nat)  (y1:((List A1)×Int×Int×Int)):Nat→Int→(List A1)→Option (LR (List A1) (Af×Int×Int×Int))
 | 0,_,_=>none
 | k24+1,s22,s23=>(bif decide (s22<((y1.1.length:Nat):Int)) then((idx s23 s22).bind fun x33=>(bif (x33.Bm==2) then((idx s23 s22).bind fun x35=>(D7 n y1 k24 (IntKind.i64.wrap (s22+1)) (List.set s23 s22.toNat (⟨3,x35.C2,x35.An,x35.Dd,x35.Al⟩:A1)))) else(D7 n y1 k24 (IntKind.i64.wrap (s22+1)) s23))) else(some (.out s23)))
def Hx:Nat→Int→Int→(List A5)→Int→Int→Int→Option (Af×Int×Int×Int)
 | 0,_,_,_,_,_,_=>none
 | n+1,Gi,Jo,p_l,p_i,p_e,p_at=>((I7 n p_l p_i).bind fun y1=>(bif decide (y1.1.length=0) then((Ca n y1.2.2.1 y1.2.2.2 p_l p_i p_e p_at).bind fun y3=>((Hj n n).bind fun o12=>match o12 with|.out _=>(bif (y3.1==0) then((Bs n ([59]:List UInt8) p_l y1.2.1 y3.1 y3.2).bind fun y15=>(some ((⟨Gi,([]:List A1),Jo⟩:Af),y15.1,y15.2.1,y15.2.2))) else((Bs n ([59]:List UInt8) p_l p_i y3.1 y3.2).bind fun y17=>(some ((⟨Gi,([]:List A1),Jo⟩:Af),y17.1,y17.2.1,y17.2.2))))|.ret v=>some v)) else((Ca n y1.2.2.1 y1.2.2.2 p_l p_i p_e p_at).bind fun y20=>((D7 n y1 n 0 y1.1).bind fun o31=>match o31 with|.out x38=>(bif (y20.1==0) then((Bs n ([59]:List UInt8) p_l y1.2.1 y20.1 y20.2).bind fun y40=>(some ((⟨Gi,x38,Jo⟩:Af),y40.1,y40.2.1,y40.2.2))) else((Bs n ([59]:List UInt8) p_l p_i y20.1 y20.2).bind fun y42=>(some ((⟨Gi,x38,Jo⟩:Af),y42.1,y42.2.1,y42.2.2))))|.ret v=>some v))))
def P6:Nat→A5→Option Bool
 | 0,_=>none
 | n+1,Ee=>(some (Ee.At==2))
def Hm:Nat→(List A5)→Int→Int→Int→Option (A5×Bool×Int)
 | 0,_,_,_,_=>none
 | n+1,p_l,p_i,p_e,p_at=>(bif (p_e != 0) then(some ((⟨0,([]:List UInt8),0,0⟩:A5),false,p_i)) else(bif decide (((p_l.length:Nat):Int)≤p_i) then(some ((⟨0,([]:List UInt8),0,0⟩:A5),false,p_i)) else((idx p_l p_i).bind fun x3=>((P6 n x3).bind fun y4=>(bif y4 then((idx p_l (IntKind.i64.wrap ((IntKind.i64.wrap (p_i+1)) - 1))).bind fun x7=>(some (x7,true,IntKind.i64.wrap (p_i+1)))) else(some ((⟨0,([]:List UInt8),0,0⟩:A5),false,p_i)))))))
def Fz:Nat→(List A5)→Int→Int→Int→Option (A5×Int×Int×Int)
 | 0,_,_,_,_=>none
 | n+1,p_l,p_i,p_e,p_at=>((Hm n p_l p_i p_e p_at).bind fun y1=>(bif y1.2.1 then(some (y1.1,y1.2.2,p_e,p_at)) else((Dg n p_l y1.2.2 p_e p_at).bind fun y4=>(some (y1.1,y1.2.2,y4.1,y4.2)))))
def Rr:Nat→A5→Option Bool
 | 0,_=>none
 | n+1,Ee=>(bif (Ee.At==1) then((Dn n Ee.A7).bind fun y2=>(some y2)) else(some false))
def Hn:Nat→(List A5)→Int→Int→Int→Option (A5×Bool×Int)
 | 0,_,_,_,_=>none
 | n+1,p_l,p_i,p_e,p_at=>(bif (p_e != 0) then(some ((⟨0,([]:List UInt8),0,0⟩:A5),false,p_i)) else(bif decide (((p_l.length:Nat):Int)≤p_i) then(some ((⟨0,([]:List UInt8),0,0⟩:A5),false,p_i)) else((idx p_l p_i).bind fun x3=>((Rr n x3).bind fun y4=>(bif y4 then((idx p_l (IntKind.i64.wrap ((IntKind.i64.wrap (p_i+1)) - 1))).bind fun x7=>(some (x7,true,IntKind.i64.wrap (p_i+1)))) else(some ((⟨0,([]:List UInt8),0,0⟩:A5),false,p_i)))))))
def Eg:Nat→(List A5)→Int→Int→Int→Option (A5×Int×Int×Int)
 | 0,_,_,_,_=>none
 | n+1,p_l,p_i,p_e,p_at=>((Hn n p_l p_i p_e p_at).bind fun y1=>(bif y1.2.1 then(some (y1.1,y1.2.2,p_e,p_at)) else((Dg n p_l y1.2.2 p_e p_at).bind fun y4=>(some (y1.1,y1.2.2,y4.1,y4.2)))))
def In:Nat→Int→(List A5)→Int→Int→Int→Option (B4×Int×Int×Int)
 | 0,_,_,_,_,_=>none
 | n+1,Iy,p_l,p_i,p_e,p_at=>((Eg n p_l p_i p_e p_at).bind fun y1=>((Bs n ([61]:List UInt8) p_l y1.2.1 y1.2.2.1 y1.2.2.2).bind fun y3=>((Fz n p_l y3.1 y3.2.1 y3.2.2).bind fun y5=>((Bs n ([59]:List UInt8) p_l y5.2.1 y5.2.2.1 y5.2.2.2).bind fun y7=>(some ((⟨y1.1.A7,y5.1.C2,Iy⟩:B4),y7.1,y7.2.1,y7.2.2))))))
def Df (n:Nat)  (p_l:(List A5)):Nat→Bool→Int→Int→Int→(List (List UInt8))→Option (LR (Int×Int×Int×(List (List UInt8))) (Ad×Int×Int×Int))
 | 0,_,_,_,_,_=>none
 | k18+1,s13,s14,s15,s16,s17=>(bif s13 then((Eg n p_l s14 s15 s16).bind fun y27=>(bif decide ((s17.length+1)*17≤140737488355328) then(Rg n fun n31=>((Cy n p_l y27.2.1 y27.2.2.1 y27.2.2.2 3 ([44]:List UInt8)).bind fun y36=>(Df n p_l k18 y36.2.1 y36.2.2 y27.2.2.1 y27.2.2.2 (s17++([y27.1.A7]:List (List UInt8)))))) else none)) else(some (.out (s14,s15,s16,s17))))
def He:Nat→Int→(List A5)→Int→Int→Int→Option (Ad×Int×Int×Int)
 | 0,_,_,_,_,_=>none
 | n+1,Iy,p_l,p_i,p_e,p_at=>((Eg n p_l p_i p_e p_at).bind fun y1=>((Bs n ([123]:List UInt8) p_l y1.2.1 y1.2.2.1 y1.2.2.2).bind fun y3=>(Rg n fun n5=>((Cy n p_l y3.1 y3.2.1 y3.2.2 1 ([114,101,103]:List UInt8)).bind fun y10=>(bif y10.2.1 then((Df n p_l n true y10.2.2 y3.2.1 y3.2.2 ([]:List (List UInt8))).bind fun o25=>match o25 with|.out (x39,x40,x41,x42)=>((Bs n ([59]:List UInt8) p_l x39 x40 x41).bind fun y43=>(bif (y43.2.1 != 0) then(some ((⟨y1.1.A7,x42,([]:List A3),Iy⟩:Ad),y43.1,y43.2.1,y43.2.2)) else((I9 n p_l y43.1).bind fun y46=>((Ca n y46.2.2.1 y46.2.2.2 p_l y43.1 y43.2.1 y43.2.2).bind fun y48=>(bif (y48.1==0) then((Bs n ([125]:List UInt8) p_l y46.2.1 y48.1 y48.2).bind fun y51=>(some ((⟨y1.1.A7,x42,y46.1,Iy⟩:Ad),y51.1,y51.2.1,y51.2.2))) else((Bs n ([125]:List UInt8) p_l y43.1 y48.1 y48.2).bind fun y53=>(some ((⟨y1.1.A7,x42,y46.1,Iy⟩:Ad),y53.1,y53.2.1,y53.2.2))))))))|.ret v=>some v) else(bif (y3.2.1 != 0) then(some ((⟨y1.1.A7,([]:List (List UInt8)),([]:List A3),Iy⟩:Ad),y10.2.2,y3.2.1,y3.2.2)) else((I9 n p_l y10.2.2).bind fun y57=>((Ca n y57.2.2.1 y57.2.2.2 p_l y10.2.2 y3.2.1 y3.2.2).bind fun y59=>(bif (y59.1==0) then((Bs n ([125]:List UInt8) p_l y57.2.1 y59.1 y59.2).bind fun y62=>(some ((⟨y1.1.A7,([]:List (List UInt8)),y57.1,Iy⟩:Ad),y62.1,y62.2.1,y62.2.2))) else((Bs n ([125]:List UInt8) p_l y10.2.2 y59.1 y59.2).bind fun y64=>(some ((⟨y1.1.A7,([]:List (List UInt8)),y57.1,Iy⟩:Ad),y64.1,y64.2.1,y64.2.2))))))))))))
def Mq:Nat→Int→Option (List UInt8)
 | 0,_=>none
 | n+1,J2=>(bif (J2==1) then(some ([102,111,114,97,108,108]:List UInt8)) else(bif (J2==2) then(some ([101,120,105,115,116,115]:List UInt8)) else(bif (J2==3) then(some ([97,108,119,97,121,115]:List UInt8)) else(some ([]:List UInt8)))))
def Ih (n:Nat)  (y1:((List A5)×Int×Int)):Nat→Bool→Int→Int→Int→Int→(List UInt8)→Int→Int→(List B4)→Option (LR (Int×Int×Int×Int×(List UInt8)×Int×Int×(List B4)) (B7×Int×Int))
 | 0,_,_,_,_,_,_,_,_,_=>none
 | k31+1,s22,s23,s24,s25,s26,s27,s28,s29,s30=>(bif s22 then((In n s29 y1.1 s23 s24 s25).bind fun y40=>(bif decide ((s30.length+1)*33≤140737488355328) then(Rg n fun n44=>((Cy n y1.1 y40.2.1 y40.2.2.1 y40.2.2.2 1 ([108,111,99]:List UInt8)).bind fun y49=>(Ih n y1 k31 y49.2.1 y49.2.2 y40.2.2.1 y40.2.2.2 y49.1.At y49.1.A7 y49.1.C2 y49.1.Al (s30++([y40.1]:List B4))))) else none)) else(some (.out (s23,s24,s25,s26,s27,s28,s29,s30))))
def Ik (n:Nat)  (y1:((List A5)×Int×Int)):Nat→Bool→Int→Int→Int→(List Ad)→Int→(List UInt8)→Int→Int→Option (LR (Int×Int×Int×Int×(List UInt8)×Int×Int×(List Ad)) (B7×Int×Int))
 | 0,_,_,_,_,_,_,_,_,_=>none
 | k76+1,s67,s68,s69,s70,s71,s72,s73,s74,s75=>(bif s67 then((He n s75 y1.1 s68 s69 s70).bind fun y85=>(bif decide ((s71.length+1)*73≤140737488355328) then(Rg n fun n89=>((Cy n y1.1 y85.2.1 y85.2.2.1 y85.2.2.2 1 ([116,104,114,101,97,100]:List UInt8)).bind fun y94=>(Ik n y1 k76 y94.2.1 y94.2.2 y85.2.2.1 y85.2.2.2 (s71++([y85.1]:List Ad)) y94.1.At y94.1.A7 y94.1.C2 y94.1.Al))) else none)) else(some (.out (s68,s69,s70,s72,s73,s74,s75,s71))))
def Ds (n:Nat)  (y1:((List A5)×Int×Int)):Nat→Bool→Int→Int→Int→Int→(List Af)→Option (LR (Bool×Int×Int×Int×(List Af)) (B7×Int×Int))
 | 0,_,_,_,_,_,_=>none
 | k125+1,s119,s120,s121,s122,s123,s124=>(bif decide (s120≤3) then((Mq n s120).bind fun y134=>(Rg n fun n136=>((Cy n y1.1 s121 s122 s123 1 y134).bind fun y141=>(bif y141.2.1 then((Hx n s120 y141.1.Al y1.1 y141.2.2 s122 s123).bind fun y144=>(bif decide ((s124.length+1)*41≤140737488355328) then(Ds n y1 k125 true (IntKind.i64.wrap (s120+1)) y144.2.1 y144.2.2.1 y144.2.2.2 (s124++([y144.1]:List Af))) else none)) else(Ds n y1 k125 s119 (IntKind.i64.wrap (s120+1)) y141.2.2 s122 s123 s124))))) else(some (.out (s119,s121,s122,s123,s124))))
def Ht (n:Nat)  (y1:((List A5)×Int×Int)):Nat→Bool→Int→Int→Int→(List Af)→Option (LR (Int×Int×Int×(List Af)) (B7×Int×Int))
 | 0,_,_,_,_,_=>none
 | k110+1,s105,s106,s107,s108,s109=>(bif s105 then((Ds n y1 n false 1 s106 s107 s108 s109).bind fun o132=>match o132 with|.out (x149,x150,x151,x152,x153)=>(Ht n y1 k110 x149 x150 x151 x152 x153)|.ret v=>some (.ret v)) else(some (.out (s106,s107,s108,s109))))
def Fn:Nat→(List UInt8)→Option (B7×Int×Int)
 | 0,_=>none
 | n+1,Bp=>((Oq n Bp).bind fun y1=>(bif (y1.2.1 != 0) then(some ((⟨0,([]:List B4),([]:List Ad),([]:List Af)⟩:B7),y1.2.1,y1.2.2)) else(Rg n fun n4=>((H6 n y1.1 0 0 0 1 ([109,111,100]:List UInt8)).bind fun y9=>((Fz n y1.1 y9.2.1 y9.2.2.1 y9.2.2.2).bind fun y11=>((Bs n ([59]:List UInt8) y1.1 y11.2.1 y11.2.2.1 y11.2.2.2).bind fun y13=>(Rg n fun n15=>((Cy n y1.1 y13.1 y13.2.1 y13.2.2 1 ([108,111,99]:List UInt8)).bind fun y20=>((Ih n y1 n y20.2.1 y20.2.2 y13.2.1 y13.2.2 y20.1.At y20.1.A7 y20.1.C2 y20.1.Al ([]:List B4)).bind fun o38=>match o38 with|.out (x52,x53,x54,x55,x56,x57,x58,x59)=>(Rg n fun n60=>((Cy n y1.1 x52 x53 x54 1 ([116,104,114,101,97,100]:List UInt8)).bind fun y65=>((Ik n y1 n y65.2.1 y65.2.2 x53 x54 ([]:List Ad) y65.1.At y65.1.A7 y65.1.C2 y65.1.Al).bind fun o83=>match o83 with|.out (x97,x98,x99,x100,x101,x102,x103,x104)=>((Ht n y1 n true x97 x98 x99 ([]:List Af)).bind fun o117=>match o117 with|.out (x156,x157,x158,x159)=>(bif decide (x156<((y1.1.length:Nat):Int)) then((Dg n y1.1 x156 x157 x158).bind fun y161=>(bif (y161.1 != 0) then(some ((⟨0,([]:List B4),([]:List Ad),([]:List Af)⟩:B7),y161.1,y161.2)) else(some ((⟨y11.1.C2,x59,x104,x159⟩:B7),0,0)))) else(bif (x157 != 0) then(some ((⟨0,([]:List B4),([]:List Ad),([]:List Af)⟩:B7),x157,x158)) else(some ((⟨y11.1.C2,x59,x104,x159⟩:B7),0,0))))|.ret v=>some v)|.ret v=>some v)))|.ret v=>some v)))))))))
def Pb:Nat→Int→Option Bool
 | 0,_=>none
 | n+1,C7=>(bif decide (0≤C7) then(some (decide (C7≤9999))) else(some false))
def Rn:Nat→Int→Int→(List B4)→(List Ad)→(List Af)→Option Bool
 | 0,_,_,_,_,_=>none
 | n+1,G7,C5,Br,B3,Bb=>((idx Br G7).bind fun x1=>((Dn n x1.An).bind fun y2=>(bif y2 then((Pb n x1.C2).bind fun y5=>(bif y5 then(some (decide (0≤x1.Al))) else(some false))) else(some false))))
def Oz (n:Nat)  (C7:Int) (C5:Int) (Br:(List B4)) (B3:(List Ad)) (Bb:(List Af)):Nat→Int→Option (LR Unit Bool)
 | 0,_=>none
 | k2+1,s1=>(bif decide (s1<C7) then((Rn n s1 C5 Br B3 Bb).bind fun y11=>(bif y11 then(Oz n C7 C5 Br B3 Bb k2 (IntKind.i64.wrap (s1+1))) else(some (.ret false)))) else(some (.out ())))
def Xx:Nat→Int→Int→(List B4)→(List Ad)→(List Af)→Option Bool
 | 0,_,_,_,_,_=>none
 | n+1,C7,C5,Br,B3,Bb=>((Oz n C7 C5 Br B3 Bb n 0).bind fun o9=>match o9 with|.out _=>(some true)|.ret v=>some v)
def Qd:Nat→Int→(List UInt8)→(List (List UInt8))→(List A3)→Int→Option Bool
 | 0,_,_,_,_,_=>none
 | n+1,G7,Gj,G9,Gk,Jp=>((idx G9 G7).bind fun x1=>((Dn n x1).bind fun y2=>(some y2)))
def M9 (n:Nat)  (C7:Int) (Gj:(List UInt8)) (G9:(List (List UInt8))) (Gk:(List A3)) (Jp:Int):Nat→Int→Option (LR Unit Bool)
 | 0,_=>none
 | k2+1,s1=>(bif decide (s1<C7) then((Qd n s1 Gj G9 Gk Jp).bind fun y11=>(bif y11 then(M9 n C7 Gj G9 Gk Jp k2 (IntKind.i64.wrap (s1+1))) else(some (.ret false)))) else(some (.out ())))
def Ux:Nat→Int→(List UInt8)→(List (List UInt8))→(List A3)→Int→Option Bool
 | 0,_,_,_,_,_=>none
 | n+1,C7,Gj,G9,Gk,Jp=>((M9 n C7 Gj G9 Gk Jp n 0).bind fun o9=>match o9 with|.out _=>(some true)|.ret v=>some v)
def So:Nat→Ad→Option Bool
 | 0,_=>none
 | n+1,Ee=>((Dn n Ee.An).bind fun y1=>(bif y1 then(bif decide (0≤Ee.Al) then((Qr n Ee.Be).bind fun y5=>(bif y5 then((Ux n ((Ee.Bv.length:Nat):Int) Ee.An Ee.Bv Ee.Be Ee.Al).bind fun y8=>(some y8)) else(some false))) else(some false)) else(some false)))
def Re:Nat→Int→Int→(List B4)→(List Ad)→(List Af)→Option Bool
 | 0,_,_,_,_,_=>none
 | n+1,G7,C5,Br,B3,Bb=>((idx B3 G7).bind fun x1=>((So n x1).bind fun y2=>(some y2)))
def Me (n:Nat)  (C7:Int) (C5:Int) (Br:(List B4)) (B3:(List Ad)) (Bb:(List Af)):Nat→Int→Option (LR Unit Bool)
 | 0,_=>none
 | k2+1,s1=>(bif decide (s1<C7) then((Re n s1 C5 Br B3 Bb).bind fun y11=>(bif y11 then(Me n C7 C5 Br B3 Bb k2 (IntKind.i64.wrap (s1+1))) else(some (.ret false)))) else(some (.out ())))
def U4:Nat→Int→Int→(List B4)→(List Ad)→(List Af)→Option Bool
 | 0,_,_,_,_,_=>none
 | n+1,C7,C5,Br,B3,Bb=>((Me n C7 C5 Br B3 Bb n 0).bind fun o9=>match o9 with|.out _=>(some true)|.ret v=>some v)
def Ma (n:Nat)  (y1:(List A1)):Nat→Int→Option (LR Unit Bool)
 | 0,_=>none
 | k4+1,s3=>(bif decide (s3<((y1.length:Nat):Int)) then((idx y1 s3).bind fun x13=>(bif (x13.Bm==2) then(some (.ret false)) else(Ma n y1 k4 (IntKind.i64.wrap (s3+1))))) else(some (.out ())))
def Uu:Nat→Af→Option Bool
 | 0,_=>none
 | n+1,Fr=>((Lm n Fr.Et).bind fun y1=>((Ma n y1 n 0).bind fun o11=>match o11 with|.out _=>((Mq n Fr.At).bind fun y16=>(bif (y16==([]:List UInt8)) then(some false) else((J9 n Fr.Et).bind fun y19=>(bif y19 then(some (decide (0≤Fr.Al))) else(some false)))))|.ret v=>some v))
def Ra:Nat→Int→Int→(List B4)→(List Ad)→(List Af)→Option Bool
 | 0,_,_,_,_,_=>none
 | n+1,G7,C5,Br,B3,Bb=>((idx Bb G7).bind fun x1=>((Uu n x1).bind fun y2=>(some y2)))
def Mk (n:Nat)  (C7:Int) (C5:Int) (Br:(List B4)) (B3:(List Ad)) (Bb:(List Af)):Nat→Int→Option (LR Unit Bool)
 | 0,_=>none
 | k2+1,s1=>(bif decide (s1<C7) then((Ra n s1 C5 Br B3 Bb).bind fun y11=>(bif y11 then(Mk n C7 C5 Br B3 Bb k2 (IntKind.i64.wrap (s1+1))) else(some (.ret false)))) else(some (.out ())))
def V0:Nat→Int→Int→(List B4)→(List Ad)→(List Af)→Option Bool
 | 0,_,_,_,_,_=>none
 | n+1,C7,C5,Br,B3,Bb=>((Mk n C7 C5 Br B3 Bb n 0).bind fun o9=>match o9 with|.out _=>(some true)|.ret v=>some v)
def Qu:Nat→B7→Option Bool
 | 0,_=>none
 | n+1,As=>((Xx n ((As.B8.length:Nat):Int) As.Bz As.B8 As.Ak As.Ar).bind fun y1=>((Pb n As.Bz).bind fun y3=>(bif y3 then(bif y1 then((U4 n ((As.Ak.length:Nat):Int) As.Bz As.B8 As.Ak As.Ar).bind fun y7=>(bif y7 then((V0 n ((As.Ar.length:Nat):Int) As.Bz As.B8 As.Ak As.Ar).bind fun y10=>(some y10)) else(some false))) else(some false)) else(some false))))
def Lf:Nat→Int→Option (List UInt8)
 | 0,_=>none
 | n+1,C7=>(bif decide (C7<10) then(some ([UInt8.ofNat (IntKind.u8.wrap (IntKind.i64.wrap (48+C7))).toNat]:List UInt8)) else(((Lf n) (IntKind.i64.wrap (Int.tdiv C7 10))).bind fun y2=>(bif decide (y2.length+(([UInt8.ofNat (IntKind.u8.wrap (IntKind.i64.wrap (48+(Int.tmod C7 10)))).toNat]:List UInt8)).length≤140737488355328) then(some (y2++([UInt8.ofNat (IntKind.u8.wrap (IntKind.i64.wrap (48+(Int.tmod C7 10)))).toNat]:List UInt8))) else none)))
def Nh (n:Nat)  (As:B7):Nat→(List UInt8)→Int→Option (LR (List UInt8) (List UInt8))
 | 0,_,_=>none
 | k10+1,s8,s9=>(bif decide (s9<((As.B8.length:Nat):Int)) then((idx As.B8 s9).bind fun x19=>(bif decide ((([108,111,99,32]:List UInt8)).length+x19.An.length≤140737488355328) then(bif decide (((([108,111,99,32]:List UInt8)++x19.An)).length+(([32,61,32]:List UInt8)).length≤140737488355328) then((Lf n x19.C2).bind fun y22=>(bif decide ((((([108,111,99,32]:List UInt8)++x19.An)++([32,61,32]:List UInt8))).length+y22.length≤140737488355328) then(bif decide (((((([108,111,99,32]:List UInt8)++x19.An)++([32,61,32]:List UInt8))++y22)).length+(([59,10]:List UInt8)).length≤140737488355328) then(bif decide (s8.length+(((((([108,111,99,32]:List UInt8)++x19.An)++([32,61,32]:List UInt8))++y22)++([59,10]:List UInt8))).length≤140737488355328) then(Nh n As k10 (s8++((((([108,111,99,32]:List UInt8)++x19.An)++([32,61,32]:List UInt8))++y22)++([59,10]:List UInt8))) (IntKind.i64.wrap (s9+1))) else none) else none) else none)) else none) else none)) else(some (.out s8)))
def Ns (n:Nat)  (x40:Ad):Nat→(List UInt8)→(List UInt8)→Int→Option (LR (List UInt8) (List UInt8))
 | 0,_,_,_=>none
 | k47+1,s44,s45,s46=>(bif decide (s46<((x40.Bv.length:Nat):Int)) then((idx x40.Bv s46).bind fun x56=>(bif decide (s45.length+x56.length≤140737488355328) then(bif decide (s44.length+((s45++x56)).length≤140737488355328) then(Ns n x40 k47 (s44++(s45++x56)) ([44,32]:List UInt8) (IntKind.i64.wrap (s46+1))) else none) else none)) else(some (.out s44)))
def Lc (n:Nat)  (As:B7):Nat→(List UInt8)→Int→Option (LR (List UInt8) (List UInt8))
 | 0,_,_=>none
 | k31+1,s29,s30=>(bif decide (s30<((As.Ak.length:Nat):Int)) then((idx As.Ak s30).bind fun x40=>(bif decide ((([116,104,114,101,97,100,32]:List UInt8)).length+x40.An.length≤140737488355328) then(bif decide (((([116,104,114,101,97,100,32]:List UInt8)++x40.An)).length+(([32,123,10]:List UInt8)).length≤140737488355328) then(bif decide (s29.length+(((([116,104,114,101,97,100,32]:List UInt8)++x40.An)++([32,123,10]:List UInt8))).length≤140737488355328) then((Ns n x40 n (s29++((([116,104,114,101,97,100,32]:List UInt8)++x40.An)++([32,123,10]:List UInt8))) ([32,32,114,101,103,32]:List UInt8) 0).bind fun o54=>match o54 with|.out x60=>(bif decide (0<((x40.Bv.length:Nat):Int)) then(bif decide (x60.length+(([59,10]:List UInt8)).length≤140737488355328) then((Rx n x40.Be 1).bind fun y63=>(bif decide (y63.length+(([125,10]:List UInt8)).length≤140737488355328) then(bif decide (((x60++([59,10]:List UInt8))).length+((y63++([125,10]:List UInt8))).length≤140737488355328) then(Lc n As k31 ((x60++([59,10]:List UInt8))++(y63++([125,10]:List UInt8))) (IntKind.i64.wrap (s30+1))) else none) else none)) else none) else((Rx n x40.Be 1).bind fun y67=>(bif decide (y67.length+(([125,10]:List UInt8)).length≤140737488355328) then(bif decide (x60.length+((y67++([125,10]:List UInt8))).length≤140737488355328) then(Lc n As k31 (x60++(y67++([125,10]:List UInt8))) (IntKind.i64.wrap (s30+1))) else none) else none)))|.ret v=>some (.ret v)) else none) else none) else none)) else(some (.out s29)))
def Nl (n:Nat)  (As:B7):Nat→(List UInt8)→Int→Option (LR (List UInt8) (List UInt8))
 | 0,_,_=>none
 | k76+1,s74,s75=>(bif decide (s75<((As.Ar.length:Nat):Int)) then((idx As.Ar s75).bind fun x85=>((Mq n x85.At).bind fun y86=>(bif decide (y86.length+(([32]:List UInt8)).length≤140737488355328) then((P2 n x85.Et).bind fun y89=>(bif decide (((y86++([32]:List UInt8))).length+y89.length≤140737488355328) then(bif decide ((((y86++([32]:List UInt8))++y89)).length+(([59,10]:List UInt8)).length≤140737488355328) then(bif decide (s74.length+((((y86++([32]:List UInt8))++y89)++([59,10]:List UInt8))).length≤140737488355328) then(Nl n As k76 (s74++(((y86++([32]:List UInt8))++y89)++([59,10]:List UInt8))) (IntKind.i64.wrap (s75+1))) else none) else none) else none)) else none))) else(some (.out s74)))
def W4:Nat→B7→Option (List UInt8)
 | 0,_=>none
 | n+1,As=>((Qu n As).bind fun y1=>(bif y1 then((Lf n As.Bz).bind fun y4=>(bif decide ((([109,111,100,32]:List UInt8)).length+y4.length≤140737488355328) then(bif decide (((([109,111,100,32]:List UInt8)++y4)).length+(([59,10]:List UInt8)).length≤140737488355328) then((Nh n As n ((([109,111,100,32]:List UInt8)++y4)++([59,10]:List UInt8)) 0).bind fun o17=>match o17 with|.out x28=>((Lc n As n x28 0).bind fun o38=>match o38 with|.out x73=>((Nl n As n x73 0).bind fun o83=>match o83 with|.out x95=>(some x95)|.ret v=>some v)|.ret v=>some v)|.ret v=>some v) else none) else none)) else(some ([]:List UInt8))))
def Pf:Nat→Option (List UInt8)
 | 0=>none
 | n+1=>(some (List.append ([109,111,100,32,50,59,10,108,111,99,32,120,32,61,32,48,59,10,116,104,114,101,97,100,32,116,32,123,10,32,32,114,101,103,32,97,44,32,98,59,10,32,32,108]:List UInt8) ([111,97,100,32,97,32,61,32,120,59,10,125,10,102,111,114,97,108,108,32,40,116,46,97,32,61,61,32,48,41,32,38,38,32,40,120,32,61,61,32,48,41,59,10]:List UInt8)))
def K2:Nat→Option Bool
 | 0=>none
 | n+1=>((Pf n ).bind fun y1=>((Fn n y1).bind fun y3=>((Fn n ([109,111,100,32,50,59,32,108,111,99,32,120,59]:List UInt8)).bind fun y5=>((Fn n ([109,111,100,32,50,59,32,116,104,114,101,97,100,32,116,32,123,32,125,10,125]:List UInt8)).bind fun y7=>((Fn n ([]:List UInt8)).bind fun y9=>(bif (y3.2.1 != 0) then(some false) else(bif (y3.1.Bz != 2) then(some false) else(bif (((y3.1.B8.length:Nat):Int) != 1) then(some false) else(bif (((y3.1.Ak.length:Nat):Int) != 1) then(some false) else(bif (((y3.1.Ar.length:Nat):Int) != 1) then(some false) else((idx y3.1.Ak 0).bind fun x16=>(bif (((x16.Bv.length:Nat):Int) != 2) then(some false) else((idx y3.1.Ar 0).bind fun x18=>(bif (((x18.Et.length:Nat):Int) != 7) then(some false) else((Vz n y3.1).bind fun y20=>((idx y3.1.B8 0).bind fun x22=>(bif (x22.Al==7) then(bif (((y20.B8.length:Nat):Int)==1) then((idx y20.B8 0).bind fun x25=>(bif (x25.Al==0) then((idx y3.1.Ar 0).bind fun x27=>((idx x27.Et 5).bind fun x28=>(bif (x28.Bm==3) then(bif (y5.2.1==5) then(bif (y5.2.2==12) then(bif (y7.2.1==5) then(bif (y7.2.2==20) then(bif (y9.2.1==6) then(bif (y9.2.2==0) then((W4 n y3.1).bind fun y36=>((Pf n ).bind fun y38=>(bif (y36==y38) then((Qu n y3.1).bind fun y41=>(some y41)) else(some false)))) else(some false)) else(some false)) else(some false)) else(some false)) else(some false)) else(some false)) else(some false)))) else(some false))) else(some false)) else(some false))))))))))))))))))
def I5:Nat→(List UInt8)→Option Bool
 | 0,_=>none
 | n+1,Bp=>(bif decide (3000<((Bp.length:Nat):Int)) then((K2 n ).bind fun y2=>(some y2)) else((Fn n Bp).bind fun y4=>(bif decide ((([32,35,32,114,101,109,97,114,107,59,32,36,10,9]:List UInt8)).length+Bp.length≤140737488355328) then(bif decide (((([32,35,32,114,101,109,97,114,107,59,32,36,10,9]:List UInt8)++Bp)).length+(([10,35,32,101,110,100]:List UInt8)).length≤140737488355328) then((Fn n ((([32,35,32,114,101,109,97,114,107,59,32,36,10,9]:List UInt8)++Bp)++([10,35,32,101,110,100]:List UInt8))).bind fun y8=>(bif (y4.2.1==y8.2.1) then((Ni n y4.1 y8.1 false).bind fun y11=>(bif y11 then((K2 n ).bind fun y14=>(some y14)) else(some false))) else(some false))) else none) else none)))
set_option linter.unusedVariables false
set_option linter.unusedSimpArgs false
theorem Cp {α:Type} {l:List α} {i:Nat} (h:i < l.length):idx l (i:Int)=some l[i]:=by rw[Ws,Ao h]
theorem Bx (k:Nat) (h:k < 4611686018427387904):IntKind.i64.wrap ((k:Int)+1)=((k+1:Nat):Int):=Afn k (by omega)
theorem Ah {α:Type} {p:Prop} [Decidable p] (h:p) (a b:α):(bif decide p then a else b)=a:=by rw[decide_eq_true h];rfl
theorem B9 {α:Type} {p:Prop} [Decidable p] (h:¬ p) (a b:α):(bif decide p then a else b)=b:=by rw[decide_eq_false h];rfl
theorem Ano (a b:Nat):((a:Int)==(b:Int))=(a==b):=by
 by_cases h:a=b
 ·subst h;simp
 ·have:¬ (a:Int)=(b:Int):=by omega
  rw[Cw.2 h,Cw.2 this]
theorem An6 (a b:Nat):((a:Int) != (b:Int))=!(a==b):=by rw[← Ano];rfl
theorem Agg {α σ ρ:Type} (l:List α) (L:Nat→Nat→σ→Option ρ) (F:List α→σ→Option ρ) (Inv:Nat→σ→Prop)
 (h0:∀ k s,Inv l.length s→L (k+1) l.length s=F [] s)
 (h1:∀ k i s x,i < l.length→l[i]?=some x→Inv i s→(∀ s',Inv (i+1) s'→L k (i+1) s'=F (l.drop (i+1)) s')→L (k+1) i s=F (x :: l.drop (i+1)) s) :
 ∀ (m k i:Nat) (s:σ),i+m=l.length→m < k→Inv i s→L k i s=F (l.drop i) s:=by
 intro m
 induction m with
 | zero =>
  intro k i s hi hk hs
  obtain⟨k,rfl⟩:∃ j,k=j+1:=⟨k - 1,by omega⟩
  obtain rfl:i=l.length:=by omega
  rw[h0 k s hs,List.drop_length]
 | succ m ih =>
  intro k i s hi hk hs
  obtain⟨k,rfl⟩:∃ j,k=j+1:=⟨k - 1,by omega⟩
  have hlt:i < l.length:=by omega
  rw[h1 k i s l[i] hlt (Ao hlt) hs (fun s' hs'=>ih k (i+1) s' (by omega) (by omega) hs'),List.drop_eq_getElem_cons hlt]
theorem T7 {α σ ρ:Type} (l:List α) (L:Nat→Nat→σ→Option ρ) (F:List α→σ→Option ρ) (Inv:Nat→σ→Prop) {k:Nat} {s:σ} (hk:l.length < k) (hs:Inv 0 s)
 (h0:∀ k s,Inv l.length s→L (k+1) l.length s=F [] s)
 (h1:∀ k i s x,i < l.length→l[i]?=some x→Inv i s→(∀ s',Inv (i+1) s'→L k (i+1) s'=F (l.drop (i+1)) s')→L (k+1) i s=F (x :: l.drop (i+1)) s) :
 L k 0 s=F l s:=Agg l L F Inv h0 h1 l.length k 0 s (by omega) hk hs
theorem Il {α:Type} {l:List α} {i:Nat} {x:α} (h:l[i]?=some x):idx l (i:Int)=some x:=by rw[Ws,h]
theorem A7w (op:Int):op < 1∨15≤op∨op=1∨op=2∨op=3∨op=4∨op=5∨op=6∨op=7∨op=8∨op=9∨op=10∨op=11∨op=12∨op=13∨op=14:=by omega
theorem Aif {α:Type} (l:List α) (L:Nat→Nat→Option (LR Unit Bool)) (p:α→Bool) (h0:∀ k,L (k+1) l.length=some (.out ()))
 (h1:∀ k i x,i < l.length→l[i]?=some x→L (k+1) i=bif p x then L k (i+1) else some (.ret false)) {k:Nat} (hk:l.length < k):L k 0=bif l.all p then some (.out ()) else some (.ret false):=by
 refine T7 l (fun k i (_:Unit)=>L k i) (fun l _=>bif l.all p then some (.out ()) else some (.ret false)) (fun _ _=>True) (s:=()) hk trivial (fun k s _=>h0 k) ?_
 intro k i s x hi hx _ ih
 rw[h1 k i x hi hx,ih () trivial,List.all_cons]
 cases p x<;>rfl
structure Tok where
 kind:Int
 text:List UInt8
 n:Int
 at':Int
def Lo (c:Int):Bool:=decide (c=32∨c=9∨c=10∨c=13)
def Cg:Bool→List UInt8→Nat
 | _,[]=>0
 | true,c :: t=>if c.toNat=10 then 1+Cg false t else 1+Cg true t
 | false,c :: t=>if Lo c.toNat then 1+Cg false t else if c.toNat=35 then 1+Cg true t else 0
inductive Lx where
 | tok (kind:Int) (len:Nat) (n:Nat)
 | err (e:Int)
def N0 (l:List UInt8):Lx:=match l with
 | []=>.err 3
 | c :: _ =>
  if H4 c.toNat then(if Cn M3 l > 16 then .err 2 else .tok 1 (Cn M3 l) 0)
  else if Ct c.toNat then(if Mc (l.take (Cn Ct l)) > 9999 then .err 4 else .tok 2 (Cn Ct l) (Mc (l.take (Cn Ct l))))
  else if La l=0 then .err 3 else .tok 3 (La l) 0
structure A14 where
 toks:List Tok
 err:Int
 at':Int
def Ec:Nat→List UInt8→Nat→List Tok→A14
 | 0,_,_,acc=>⟨acc,0,0⟩
 | f+1,l,p,acc=>match l.drop (Cg false l) with
   | []=>⟨acc,0,0⟩
   | c :: t=>match N0 (c :: t) with
     | .err e=>⟨[],e,(p+Cg false l:Nat)⟩
     | .tok k n v=>Ec f ((c :: t).drop n) (p+Cg false l+n) (acc++[⟨k,(c :: t).take n,v,(p+Cg false l:Nat)⟩])
def Hw (l:List UInt8):A14:=if l.length > 20000 then⟨[],2,20000⟩ else Ec (l.length+1) l 0 []
theorem A0p (b:Bool) (l:List UInt8):Cg b l≤l.length:=by
 induction l generalizing b with
 | nil=>simp[Cg]
 | cons c t ih =>
  have h1:=ih true;have h2:=ih false
  cases b<;>simp only[Cg,List.length_cons]<;>repeat' split
  all_goals omega
theorem Si (p:Int→Bool) (l:List UInt8):Cn p l≤l.length:=(List.takeWhile_prefix (fun c:UInt8=>p c.toNat) (l:=l)).length_le
theorem Kq (p:Int→Bool) (c:UInt8) (t:List UInt8):Cn p (c :: t)=if p c.toNat then Cn p t+1 else 0:=by
 unfold Cn
 rw[List.takeWhile_cons]
 split<;>simp
theorem Ae7 (c:UInt8) (t:List UInt8):La (c :: t)≤(c :: t).length:=by
 unfold La
 split
 ·rename_i h
  rcases t with _ | ⟨d,t⟩
  ·simp[Np] at h
  ·simp
 ·split<;>simp
theorem Rk {l:List UInt8} {k:Int} {n v:Nat} (h:N0 l=.tok k n v):0 < n∧n≤l.length:=by
 rcases l with _ | ⟨c,t⟩
 ·simp[N0] at h
 ·simp only[N0] at h
  split at h
  ·rename_i hc
   split at h
   ·simp at h
   ·simp only[Lx.tok.injEq] at h
    obtain⟨_,rfl,_⟩:=h
    have h1:M3 c.toNat=true:=by simp[M3,hc]
    exact⟨by rw[Kq,if_pos h1];omega,Si _ _⟩
  ·split at h
   ·rename_i hc
    split at h
    ·simp at h
    ·simp only[Lx.tok.injEq] at h
     obtain⟨_,rfl,_⟩:=h
     exact⟨by rw[Kq,if_pos hc];omega,Si _ _⟩
   ·split at h
    ·simp at h
    ·simp only[Lx.tok.injEq] at h
     obtain⟨_,rfl,_⟩:=h
     exact⟨by omega,Ae7 _ _⟩
theorem A8g (f g:Nat) (l:List UInt8) (p:Nat) (acc:List Tok) (hf:l.length < f) (hg:l.length < g):Ec f l p acc=Ec g l p acc:=by
 induction f generalizing g l p acc with
 | zero=>omega
 | succ f ih =>
  cases g with
  | zero=>omega
  | succ g =>
   simp only[Ec]
   split
   ·rfl
   ·rename_i c t hd
    have hlen:(c :: t).length=l.length - Cg false l:=by rw[← hd];simp
    split
    ·rfl
    ·rename_i k n v ho
     have hn:=Rk ho
     have hlt:((c :: t).drop n).length < l.length:=by
      simp only[List.length_drop]
      simp only[List.length_cons] at hlen hn ⊢
      omega
     exact ih g _ _ _ (by omega) (by omega)
def L6 (l:List UInt8) (p:Nat) (acc:List Tok):A14:=Ec (l.length+1) (l.drop p) p acc
theorem A63 (l:List UInt8) (p:Nat) (acc:List Tok) (g:Nat) (_hp:p≤l.length) (h:Cg false (l.drop p)=g+Cg false (l.drop (p+g))):L6 l p acc=L6 l (p+g) acc:=by
 have hg:=A0p false (l.drop p)
 simp only[List.length_drop] at hg
 have e:(l.drop p).drop (Cg false (l.drop p))=(l.drop (p+g)).drop (Cg false (l.drop (p+g))):=by
  rw[List.drop_drop,List.drop_drop,h];congr 1;omega
 unfold L6
 simp only[Ec]
 rw[e]
 have e2:p+Cg false (l.drop p)=p+g+Cg false (l.drop (p+g)):=by omega
 simp only[e2]
theorem A5d (l:List UInt8) (p:Nat) (acc:List Tok) (h:l.length≤p):L6 l p acc=⟨acc,0,0⟩:=by
 unfold L6
 have:l.drop p=[]:=List.drop_eq_nil_of_le h
 simp[Ec,this]
theorem Ag1 (l:List UInt8) (p:Nat) (acc:List Tok) (e:Int) (hg:Cg false (l.drop p)=0) (hp:p < l.length) (h:N0 (l.drop p)=.err e):L6 l p acc=⟨[],e,p⟩:=by
 unfold L6
 simp only[Ec,hg,List.drop_zero]
 rcases hl:l.drop p with _ | ⟨c,t⟩
 ·have:(l.drop p).length=0:=by rw[hl];rfl
  simp at this;omega
 ·rw[hl] at h
  simp[h]
theorem Ag3 (l:List UInt8) (p:Nat) (acc:List Tok) (k:Int) (n v:Nat) (hg:Cg false (l.drop p)=0) (hp:p < l.length) (h:N0 (l.drop p)=.tok k n v) :
 L6 l p acc=L6 l (p+n) (acc++[⟨k,(l.drop p).take n,v,p⟩]):=by
 have hn:=Rk h
 simp only[List.length_drop] at hn
 unfold L6
 rw[Ec]
 simp only[hg,List.drop_zero]
 rcases hl:l.drop p with _ | ⟨c,t⟩
 ·have:(l.drop p).length=0:=by rw[hl];rfl
  simp at this;omega
 ·rw[hl] at h
  simp only[h,Nat.add_zero]
  have e:(c :: t).drop n=l.drop (p+n):=by rw[← hl,List.drop_drop]
  rw[e]
  exact A8g _ _ _ _ _ (by simp;omega) (by simp;omega)
theorem Agn (l:List UInt8):Cg true l=Cn Kh l+Cg false (l.drop (Cn Kh l)):=by
 induction l with
 | nil=>simp[Cg,Cn]
 | cons c t ih =>
  rw[Kq]
  by_cases h:c.toNat=10
  ·have h1:Kh c.toNat=false:=by simp[Kh,h]
   rw[if_neg (by rw[h1];simp),List.drop_zero,Cg,Cg,if_pos h,if_pos (by simp[Lo,h])]
   omega
  ·have h1:Kh c.toNat=true:=by simp only[Kh,Bf];omega
   rw[if_pos h1,Cg,if_neg h,ih,List.drop_succ_cons]
   omega
theorem Aax {c:UInt8} {t:List UInt8} (h:c.toNat=35):Cg false (c :: t)=Cn Kh (c :: t)+Cg false ((c :: t).drop (Cn Kh (c :: t))):=by
 rw[← Agn]
 have hb:Lo c.toNat=false:=by simp[Lo,h]
 rw[Cg,Cg,if_neg (by rw[hb];simp),if_pos h,if_neg (by omega)]
theorem Adv {c:UInt8} {t:List UInt8} (h:Lo c.toNat=true):Cg false (c :: t)=1+Cg false t:=by rw[Cg,if_pos h]
theorem Ah9 {c:UInt8} {t:List UInt8} (h:Lo c.toNat=false) (h2:c.toNat≠35):Cg false (c :: t)=0:=by rw[Cg,if_neg (by rw[h];simp),if_neg h2]
abbrev Nd:=A1
def Fb (op:Int):Int:=if 1≤op∧op≤4 then 0 else if op=5 then 1 else if 6≤op∧op≤14 then 2 else -1
theorem Afj (n:Nat) (op:Int):Kv (n+1) op=some (Fb op):=by
 rcases A7w op with h | h | h | h | h | h | h | h | h | h | h | h | h | h | h | h
 ·have:Fb op= -1:=by unfold Fb;rw[if_neg (by omega),if_neg (by omega),if_neg (by omega)]
  rw[Kv,this,B9 (show ¬ 1≤op by omega),Cw.2 (show op≠5 by omega),Aw,B9 (show ¬ 6≤op by omega)]
 ·have:Fb op= -1:=by unfold Fb;rw[if_neg (by omega),if_neg (by omega),if_neg (by omega)]
  rw[Kv,this,Ah (show 1≤op by omega),B9 (show ¬ op≤4 by omega),Cw.2 (show op≠5 by omega),Aw,Ah (show 6≤op by omega),B9 (show ¬ op≤14 by omega)]
 all_goals rw[h];rfl
inductive Tr where
 | leaf (x:Nd)
 | un (x:Nd) (a:Tr)
 | bin (x:Nd) (a b:Tr)
def Tr.flat:Tr→List Nd
 | .leaf x=>[x]
 | .un x a=>x :: a.flat
 | .bin x a b=>x :: (a.flat++b.flat)
def Tr.wf:Tr→Prop
 | .leaf x=>Fb x.Bm=0
 | .un x a=>Fb x.Bm=1∧a.wf
 | .bin x a b=>Fb x.Bm=2∧a.wf∧b.wf
def Tr.dep:Tr→Nat
 | .leaf _=>0
 | .un _ a=>1+a.dep
 | .bin _ a b=>1+max a.dep b.dep
theorem Tr.flat_pos (t:Tr):1≤t.flat.length:=by cases t<;>simp[Tr.flat]
def It:List Nd→Nat→Option Nat
 | [],_=>none
 | x :: l,w=>if Fb x.Bm < 0 then none else if(w:Int)+Fb x.Bm - 1=0 then some 1 else(It l ((w:Int)+Fb x.Bm - 1).toNat).map (·+1)
theorem A44 (op:Int):Fb op= -1∨Fb op=0∨Fb op=1∨Fb op=2:=by
 unfold Fb
 repeat' split
 all_goals omega
theorem Ak8:∀ (t:Tr) (w:Nat) (rest:List Nd),t.wf→1≤w→It (t.flat++rest) w=if w=1 then some t.flat.length else(It rest (w - 1)).map (·+t.flat.length):=by
 intro t
 induction t with
 | leaf x =>
  intro w rest h hw
  simp only[Tr.wf] at h
  simp only[Tr.flat,List.cons_append,List.nil_append,It,h,List.length_cons,List.length_nil]
  by_cases c:w=1
  ·rw[if_neg (by omega),if_pos (by omega),if_pos c]
  ·rw[if_neg (by omega),if_neg (by omega),if_neg c,show((w:Int)+0 - 1).toNat=w - 1 by omega]
 | un x a ih =>
  intro w rest h hw
  obtain⟨h1,h2⟩:=h
  simp only[Tr.flat,List.cons_append,It,h1,List.length_cons]
  rw[if_neg (by omega),if_neg (by omega),show((w:Int)+1 - 1).toNat=w by omega,ih w rest h2 hw]
  by_cases c:w=1
  ·rw[if_pos c,if_pos c];rfl
  ·rw[if_neg c,if_neg c,Option.map_map];rfl
 | bin x a b iha ihb =>
  intro w rest h hw
  obtain⟨h1,h2,h3⟩:=h
  simp only[Tr.flat,List.cons_append,It,h1,List.length_cons,List.append_assoc,List.length_append]
  rw[if_neg (by omega),if_neg (by omega),show((w:Int)+2 - 1).toNat=w+1 by omega,iha (w+1) _ h2 (by omega),if_neg (by omega),show w+1 - 1=w by omega,ihb w rest h3 hw]
  by_cases c:w=1
  ·rw[if_pos c,if_pos c];exact congrArg some (by dsimp only;omega)
  ·rw[if_neg c,if_neg c,Option.map_map,Option.map_map];congr 1;funext j;simp only[Function.comp_apply];try omega
def A89 (l:List Nd) (i:Int):Int:=if i < 0 then -1 else match It (l.drop i.toNat) 1 with
 | some j=>i+j
 | none=> -1
def Amh (d:Int) (r:LR Unit Int):Int:=match r with
 | .out _=>d
 | .ret v=>v
theorem Ani (n:Nat) (l:List Nd) (hl:l.length < 1000000):∀ (m k i w:Nat),i+m=l.length→m < k→1≤w→w≤i+2 →
 (Ha (n+1) l k (i:Int) (w:Int)).map (Amh (-1))=some (match It (l.drop i) w with | some j=>(i:Int)+j | none=> -1):=by
 intro m
 induction m with
 | zero =>
  intro k i w hi hk hw hb
  obtain⟨k,rfl⟩:∃ j,k=j+1:=⟨k - 1,by omega⟩
  rw[Ha,B9 (by omega),List.drop_of_length_le (by omega)];rfl
 | succ m ih =>
  intro k i w hi hk hw hb
  obtain⟨k,rfl⟩:∃ j,k=j+1:=⟨k - 1,by omega⟩
  have hlt:i < l.length:=by omega
  rw[Ha,Ah (by omega),Cp hlt,List.drop_eq_getElem_cons hlt,It,A4,Afj,A4,Bx i (by omega)]
  rcases A44 l[i].Bm with g | g | g | g
  ·rw[g,Ah (by omega),if_pos (by omega)];rfl
  all_goals rw[g,B9 (by omega),if_neg (by omega)]
  ·rw[Gw (n:=0 - 1) (by omega),Gw (by omega)]
   by_cases c:w=1
   ·subst c;rw[if_pos (by omega)];rfl
   ·rw[if_neg (by omega),Cw.2 (by omega),Aw,show(w:Int)+(0 - 1)=((w - 1:Nat):Int) by omega,ih k (i+1) (w - 1) (by omega) (by omega) (by omega) (by omega),show((w:Int)+0 - 1).toNat=w - 1 by omega]
    cases It (l.drop (i+1)) (w - 1) with
    | none=>rfl
    | some j=>exact congrArg some (by show((i+1:Nat):Int)+(j:Int)=(i:Int)+((j+1:Nat):Int);omega)
  ·rw[Gw (n:=1 - 1) (by omega),Gw (by omega),if_neg (by omega),Cw.2 (by omega),Aw,show(w:Int)+(1 - 1)=(w:Int) by omega,ih k (i+1) w (by omega) (by omega) (by omega) (by omega),show((w:Int)+1 - 1).toNat=w by omega]
   cases It (l.drop (i+1)) w with
   | none=>rfl
   | some j=>exact congrArg some (by show((i+1:Nat):Int)+(j:Int)=(i:Int)+((j+1:Nat):Int);omega)
  ·rw[Gw (n:=2 - 1) (by omega),Gw (by omega),if_neg (by omega),Cw.2 (by omega),Aw,show(w:Int)+(2 - 1)=((w+1:Nat):Int) by omega,ih k (i+1) (w+1) (by omega) (by omega) (by omega) (by omega),show((w:Int)+2 - 1).toNat=w+1 by omega]
   cases It (l.drop (i+1)) (w+1) with
   | none=>rfl
   | some j=>exact congrArg some (by show((i+1:Nat):Int)+(j:Int)=(i:Int)+((j+1:Nat):Int);omega)
theorem Ami {τ:Type} {o:Option (LR Unit Int)} {d r:Int} (h:o.map (Amh d)=some r):(o.bind fun o11=>match o11 with | .out _=>some d | .ret v=>some v)=some r:=by
 obtain⟨x,rfl,h2⟩:=Option.map_eq_some_iff.1 h
 cases x<;>exact congrArg some h2
theorem Anu (n:Nat) (l:List Nd) (i:Int) (hl:l.length < 1000000) (hn:l.length+4 < n):Qo n l i=some (A89 l i):=by
 obtain⟨n,rfl⟩:∃ j,n=j+2:=⟨n - 2,by omega⟩
 rw[Qo,A89]
 by_cases c:i < 0
 ·rw[Ah c,if_pos c]
 ·rw[B9 c,if_neg c]
  by_cases c2:i.toNat≤l.length
  ·have:=Ani n l hl (l.length - i.toNat) (n+1) i.toNat 1 (by omega) (by omega) (by omega) (by omega)
   rw[show((i.toNat:Nat):Int)=i by omega] at this
   exact Ami (τ:=Unit) this
  ·have e:Ha (n+1) l (n+1) i 1=some (.out ()):=by rw[Ha,B9 (by omega)]
   rw[e,List.drop_of_length_le (by omega)];rfl
def Mh:List Int→List Int
 | []=>[]
 | a :: r=>if 0 < a - 1 then(a - 1) :: r else Mh r
def Es:List Nd→Int×List Int→Int×List Int
 | [],s=>s
 | x :: l,(m,R)=>if 0 < Fb x.Bm then Es l (if m < (R.length:Int) then(R.length:Int) else m,Fb x.Bm :: R) else Es l (if m < (R.length:Int) then(R.length:Int) else m,Mh R)
theorem Akn:∀ (t:Tr) (rest:List Nd) (m:Int) (R:List Int),t.wf→0≤m→Es (t.flat++rest) (m,R)=Es rest (max m (R.length+t.dep:Nat),Mh R):=by
 intro t
 have hmax:∀ (m:Int) (k:Nat),(if m < (k:Int) then(k:Int) else m)=max m (k:Int):=by intro m k;split<;>omega
 induction t with
 | leaf x =>
  intro rest m R h hm
  simp only[Tr.wf] at h
  simp only[Tr.flat,List.cons_append,List.nil_append,Es,h,Tr.dep,Nat.add_zero]
  rw[if_neg (by omega),hmax]
 | un x a ih =>
  intro rest m R h hm
  obtain⟨h1,h2⟩:=h
  simp only[Tr.flat,List.cons_append,Es,h1,Tr.dep]
  rw[if_pos (by omega),hmax,ih _ _ _ h2 (by omega),Mh,if_neg (by omega),List.length_cons]
  congr 2;omega
 | bin x a b iha ihb =>
  intro rest m R h hm
  obtain⟨h1,h2,h3⟩:=h
  simp only[Tr.flat,List.cons_append,Es,h1,Tr.dep,List.append_assoc]
  rw[if_pos (by omega),hmax,iha _ _ _ h2 (by omega),Mh,if_pos (by omega),ihb _ _ _ h3 (by omega),Mh,if_neg (by omega),List.length_cons,List.length_cons]
  congr 2;omega
theorem Ala (n:Nat):∀ (R:List Int) (k:Nat),R.length < k→R.length < 1000000→(∀ v ∈ R,1≤v∧v≤2)→Hs n k R.reverse=some (.out (Mh R).reverse):=by
 intro R
 induction R with
 | nil =>
  intro k hk _ _
  obtain⟨k,rfl⟩:∃ j,k=j+1:=⟨k - 1,by omega⟩
  rw[Hs,List.reverse_nil];rfl
 | cons a R ih =>
  intro k hk hl hv
  obtain⟨k,rfl⟩:∃ j,k=j+1:=⟨k - 1,by omega⟩
  have ha:=hv a (List.mem_cons_self ..)
  rw[List.length_cons] at hl
  have hlen:(a :: R).reverse.length=R.length+1:=by simp
  have w:IntKind.i64.wrap (((R.length+1:Nat):Int) - 1)=(R.length:Int):=by rw[Gw (by omega)];omega
  have hset:∀ v:Int,((a :: R).reverse).set R.length v=R.reverse++[v]:=by
   intro v;rw[List.reverse_cons,List.set_append_right _ _ (by simp)];simp
  have g1:idx (a :: R).reverse (R.length:Int)=some a:=by rw[Ws,List.reverse_cons,List.getElem?_append_right (by simp)];simp
  have g2:∀ v:Int,idx (R.reverse++[v]) (R.length:Int)=some v:=by intro v;rw[Ws,List.getElem?_append_right (by simp)];simp
  rw[Hs,hlen,Ah (by omega),w,g1]
  simp only[A4,Int.toNat_natCast,hset,g2]
  rw[Gw (n:=a - 1) (by omega),Mh]
  by_cases c:0 < a - 1
  ·rw[Ah c,if_pos c,List.reverse_cons]
  ·have c2:(decide (0≤(R.length:Int))&&decide ((R.length:Int)≤(((R.reverse++[a - 1]).length:Nat):Int)))=true:=by
    rw[decide_eq_true (by omega),decide_eq_true (by simp;omega)];rfl
   have e:List.take R.length (R.reverse++[a - 1])=R.reverse:=by
    rw[List.take_append_of_le_length (by simp),List.take_of_length_le (by simp)]
   rw[B9 c,if_neg c,c2,Ac,e]
   exact ih k (by rw[List.length_cons] at hk;omega) (by omega) (fun v h=>hv v (List.mem_cons_of_mem _ h))
theorem Aer:∀ (R:List Int),(∀ v ∈ R,1≤v∧v≤2)→(∀ v ∈ Mh R,1≤v∧v≤2)∧(Mh R).length≤R.length:=by
 intro R
 induction R with
 | nil=>intro h;exact⟨h,Nat.le_refl _⟩
 | cons a R ih =>
  intro h
  have ha:=h a (List.mem_cons_self ..)
  have hR:∀ v ∈ R,1≤v∧v≤2:=fun v hv=>h v (List.mem_cons_of_mem _ hv)
  rw[Mh]
  split
  ·exact⟨fun v hv=>by rcases List.mem_cons.1 hv with rfl | hv;exact⟨by omega,by omega⟩;exact hR v hv,by simp⟩
  ·exact⟨(ih hR).1,by have:=(ih hR).2;simp;omega⟩
theorem Akf (n:Nat) (l:List Nd) (hl:l.length < 100000) (hn:l.length+2 < n) {k:Nat} (hk:l.length < k):Fy n l k 0 0 []=some (.out ((Es l (0,[])).1,(Es l (0,[])).2.reverse)):=by
 refine T7 l (fun k i (s:Int×List Int)=>Fy n l k s.1 (i:Int) s.2.reverse) (fun l s=>some (.out ((Es l s).1,(Es l s).2.reverse)))
  (fun i s=>s.2.length≤i∧∀ v ∈ s.2,1≤v∧v≤2) (s:=(0,[])) hk ⟨Nat.le_refl _,by simp⟩ ?_ ?_
 ·intro k s hs
  rw[Fy,B9 (by omega)];rfl
 ·rintro k i ⟨m,R⟩ x hi hx ⟨r1,r2⟩ ih
  dsimp only at r1 r2 ⊢
  obtain⟨n,rfl⟩:∃ j,n=j+1:=⟨n - 1,by omega⟩
  rw[Fy,Ah (by omega),Il hx,A4,Afj,A4,Bx i (by omega),List.length_reverse,Es]
  by_cases c:0 < Fb x.Bm
  ·rw[Ah c,if_pos c,Ah (by omega),← List.reverse_cons]
   refine ih (_,_ :: R) ⟨by simp;omega,fun v hv=>?_⟩
   rcases List.mem_cons.1 hv with rfl | hv
   ·rcases A44 x.Bm with g | g | g | g<;>omega
   ·exact r2 v hv
  ·have hc:=Aer R r2
   rw[B9 c,if_neg c,Ala (n+1) R (n+1) (by omega) (by omega) r2,A4]
   exact ih (_,Mh R) ⟨by dsimp only;omega,hc.1⟩
def Gy (x:Nd):Bool:=!decide (x.Al < 0)&&(if x.Bm=1 then decide (0≤x.C2∧x.C2≤9999)&&(x.An==[]&&x.Dd==[])
 else if x.Bm=2∨x.Bm=3 then x.C2==0&&(E0 x.An&&x.Dd==[]) else if x.Bm=4 then x.C2==0&&(E0 x.An&&E0 x.Dd) else x.C2==0&&(x.An==[]&&x.Dd==[]))
theorem Amu (n:Nat) (x:Nd):Ot (n+2) x=some (Gy x):=by
 rw[Ot,Gy]
 by_cases c:x.Al < 0
 ·rw[Ah c,decide_eq_true c];rfl
 rw[B9 c,decide_eq_false c]
 simp only[Dn,A4,beq_self_eq_true,Bool.true_and,Bool.and_true,Bool.not_false]
 by_cases c1:x.Bm=1
 ·rw[if_pos c1,c1]
  simp only[beq_self_eq_true,Ac]
  cases (x.An==[])<;>cases (x.Dd==[])<;>by_cases h:0≤x.C2<;>by_cases h2:x.C2≤9999<;>simp[h,h2]
 rw[if_neg c1,Cw.2 c1]
 by_cases c4:x.Bm=4
 ·rw[if_neg (by omega),if_pos c4,c4]
  simp only[beq_self_eq_true,Ac,Aw]
  cases E0 x.Dd<;>cases E0 x.An<;>cases (x.C2==0)<;>rfl
 rw[if_neg c4,Cw.2 c4]
 by_cases c2:x.Bm=2
 ·rw[if_pos (.inl c2),c2]
  simp only[beq_self_eq_true,Ac,Aw]
  cases E0 x.An<;>cases (x.C2==0)<;>cases (x.Dd==[])<;>rfl
 rw[Cw.2 c2]
 by_cases c3:x.Bm=3
 ·rw[if_pos (.inr c3),c3]
  simp only[beq_self_eq_true,Ac,Aw]
  cases E0 x.An<;>cases (x.C2==0)<;>cases (x.Dd==[])<;>rfl
 rw[if_neg (by omega),Cw.2 c3]
 rfl
def Ip (l:List Nd):Bool:=decide (1≤l.length∧l.length≤200)&&(decide (It l 1=some l.length)&&(l.all Gy&&decide ((Es l (0,[])).1≤30)))
theorem A7f (n:Nat) (l:List Nd) (hl:l.length < 100000) (hn:l.length+4 < n):Le n l=some (Es l (0,[])).1:=by
 obtain⟨n,rfl⟩:∃ j,n=j+1:=⟨n - 1,by omega⟩
 rw[Le,Akf n l hl (by omega) (by omega)];rfl
theorem And (l:List Nd) (hl:1≤l.length):(A89 l 0 != (l.length:Int))=!decide (It l 1=some l.length):=by
 have e:A89 l 0=match It l 1 with | some j=>((j:Nat):Int) | none=> -1:=by
  rw[A89,if_neg (by omega)]
  show(match It l 1 with | some j=>(0:Int)+(j:Int) | none=> -1)=_
  cases It l 1 with
  | none=>rfl
  | some j=>simp
 rw[e]
 cases It l 1 with
 | none =>
  show((-1:Int) != (l.length:Int))=_
  rw[bne_iff_ne.2 (by omega)];simp
 | some j =>
  show(((j:Nat):Int) != (l.length:Int))=_
  rw[An6]
  by_cases h:j=l.length<;>simp[h]
theorem Aj0 (n:Nat) (l:List Nd) (hl:l.length < 100000) (hn:l.length+20 < n):J9 n l=some (Ip l):=by
 obtain⟨n,rfl⟩:∃ j,n=j+3:=⟨n - 3,by omega⟩
 rw[J9,Ip]
 by_cases c1:l.length=0
 ·rw[beq_iff_eq.2 (show((l.length:Nat):Int)=0 by omega),decide_eq_false (show ¬ (1≤l.length∧l.length≤200) by omega)];rfl
 rw[Cw.2 (show((l.length:Nat):Int)≠0 by omega)]
 by_cases c2:200 < (l.length:Int)
 ·rw[Ah c2,decide_eq_false (show ¬ (1≤l.length∧l.length≤200) by omega)];rfl
 have hL:Gn (n+2) l (n+2) 0=bif l.all Gy then some (.out ()) else some (.ret false):=by
  refine Aif l (fun k i=>Gn (n+2) l k (i:Int)) _ (fun k=>?_) (fun k i x hi hx=>?_) (by omega)
  ·rw[Gn,B9 (by omega)]
  ·rw[Gn,Ah (by omega),Il hx,A4,Amu,A4,Bx i (by omega)]
 rw[B9 c2,Anu (n+2) l 0 (by omega) (by omega),A4,And l (by omega),hL,decide_eq_true (show 1≤l.length∧l.length≤200 by omega)]
 simp only[Aw,A7f (n+2) l hl (by omega)]
 cases decide (It l 1=some l.length) with
 | false=>rfl
 | true=>cases l.all Gy<;>rfl
def Mj (l:List Nd):Bool:=decide (l.length≤250)&&l.all fun x=>decide (x.An.length≤100∧x.Dd.length≤100)
def tkS (t:Tok):A5:=⟨t.kind,t.text,t.n,t.at'⟩
def Wi (r:A14):List A5×Int×Int:=(r.toks.map tkS,r.err,r.at')
def A7d (r:LR (List A5) (List A5×Int×Int)):List A5×Int×Int:=match r with
 | .out x=>(x,0,0)
 | .ret x=>x
set_option maxRecDepth 10000
theorem Ah8 (n:Nat) (c:Int):Mf (n+1) c=some (H4 c):=by
 rw[Mf]
 by_cases h1:97≤c<;>by_cases h2:c≤122<;>by_cases h3:65≤c<;>by_cases h4:c≤90<;>simp[H4,h1,h2,h3,h4]<;>(by_cases h5:c=95<;>simp[h5])
theorem Ajc (n:Nat) (c:Int):O3 (n+1) c=some (Ct c):=by
 rw[O3]
 by_cases h1:48≤c<;>simp[Ct,h1]
theorem Aeq (c:UInt8):IntKind.i32.wrap (c.toNat:Int)=(c.toNat:Int):=by
 have:=c.toNat_lt
 simp only[IntKind.wrap,IntKind.bits,IntKind.signed,Bool.true_and]
 split<;>simp at* <;>omega
theorem Ll (c:UInt8) (k:Int) (d:Nat) (hk:k=(d:Int)) (hd:d < 256):(((c.toNat:Nat):Int)==k)=(c==UInt8.ofNat d):=by
 subst hk
 rw[Bool.eq_iff_iff,beq_iff_eq,beq_iff_eq]
 constructor
 ·intro h
  have:c.toNat=d:=by omega
  rw[← this];simp
 ·intro h
  rw[h];simp;omega
def hdS (c:UInt8):Option Int:=(bif ((c.toNat:Int)==59) then(some 1) else(bif ((c.toNat:Int)==44) then(some 1) else(bif ((c.toNat:Int)==123) then(some 1) else(bif ((c.toNat:Int)==125) then(some 1) else(bif ((c.toNat:Int)==40) then(some 1) else(bif ((c.toNat:Int)==41) then(some 1) else(bif ((c.toNat:Int)==46) then(some 1) else(bif ((c.toNat:Int)==61) then(some 1) else(bif ((c.toNat:Int)==43) then(some 1) else(bif ((c.toNat:Int)==45) then(some 1) else(bif ((c.toNat:Int)==42) then(some 1) else(bif ((c.toNat:Int)==33) then(some 1) else(bif ((c.toNat:Int)==60) then(some 1) else(some 0))))))))))))))
theorem orS (b r:Bool) (x:Option Int) (h:x=some (if r=true then 1 else 0)):(bif b then some 1 else x)=some (if(b || r)=true then 1 else 0):=by
 cases b
 ·exact h
 ·rfl
theorem orT (k:Nat) (b r:Bool) (x:Option Int) (h:x=some ((if r=true then 2 else k:Nat):Int)):(bif b then some 2 else x)=some ((if(b || r)=true then 2 else k:Nat):Int):=by
 cases b
 ·exact h
 ·rfl
theorem Ams (c:UInt8):hdS c=some (if Wk.contains c then 1 else 0):=by
 unfold hdS
 rw[Ll c 59 59 rfl (by decide),Ll c 44 44 rfl (by decide),Ll c 123 123 rfl (by decide),Ll c 125 125 rfl (by decide),Ll c 40 40 rfl (by decide),Ll c 41 41 rfl (by decide),Ll c 46 46 rfl (by decide),Ll c 61 61 rfl (by decide),Ll c 43 43 rfl (by decide),Ll c 45 45 rfl (by decide),Ll c 42 42 rfl (by decide),Ll c 33 33 rfl (by decide),Ll c 60 60 rfl (by decide)]
 have:Wk.contains c=(c==UInt8.ofNat 59 || (c==UInt8.ofNat 44 || (c==UInt8.ofNat 123 || (c==UInt8.ofNat 125 || (c==UInt8.ofNat 40 || (c==UInt8.ofNat 41 || (c==UInt8.ofNat 46 || (c==UInt8.ofNat 61 || (c==UInt8.ofNat 43 || (c==UInt8.ofNat 45 || (c==UInt8.ofNat 42 || (c==UInt8.ofNat 33 || (c==UInt8.ofNat 60 || false))))))))))))):=rfl
 rw[this]
 exact orS _ _ _ (orS _ _ _ (orS _ _ _ (orS _ _ _ (orS _ _ _ (orS _ _ _ (orS _ _ _ (orS _ _ _ (orS _ _ _ (orS _ _ _ (orS _ _ _ (orS _ _ _ (orS _ _ _ rfl))))))))))))
theorem Aki (n:Nat) (c:UInt8) (t:List UInt8):P1 (n+1) (c :: t)=some ((La (c :: t):Nat):Int):=by
 have hc:idx (c :: t) 0=some c:=rfl
 have hd:=Ams c
 unfold hdS at hd
 have h2:(La (c :: t):Nat)=if Np.contains ((c :: t).take 2) then 2 else if Wk.contains c then 1 else 0:=rfl
 rw[P1,hc]
 simp only[A4]
 rw[hd]
 have hl:((if Wk.contains c then 1 else 0:Nat):Int)=if Wk.contains c then 1 else 0:=by split<;>rfl
 by_cases h:2≤(((c :: t).length:Nat):Int)
 ·have hg:(decide (0≤2)&&decide ((2:Int)≤(((c :: t).length:Nat):Int)))=true:=by rw[decide_eq_true h];rfl
  rw[Ah h,hg,Ac,h2,List.drop_zero,show((2:Int).toNat)=2 from rfl]
  have:Np.contains ((c :: t).take 2)=((c :: t).take 2==[61,61] || ((c :: t).take 2==[33,61] || ((c :: t).take 2==[60,61] || ((c :: t).take 2==[38,38] || ((c :: t).take 2==[124,124] || false))))):=rfl
  rw[this]
  exact orT _ _ _ _ (orT _ _ _ _ (orT _ _ _ _ (orT _ _ _ _ (orT _ _ _ _ (congrArg some hl.symm)))))
 ·have:t=[]:=by
   cases t with
   | nil=>rfl
   | cons d t=>simp at h;omega
  subst this
  have h3:Np.contains (([c]:List UInt8).take 2)=false:=by simp[Np]
  rw[B9 h,h2,h3,← hl];rfl
theorem Al8 (n:Nat) (s:List UInt8) (hs:s.length≤20000):∀ (m k p:Nat) (acc:List Tok),s.length - p≤m→m < k→p≤s.length→acc.length≤p →
 (Cu (n+2) s k (p:Int) (acc.map tkS)).map A7d=some (Wi (L6 s p acc)):=by
 intro m
 induction m with
 | zero =>
  intro k p acc hm hk hp ha
  obtain⟨k,rfl⟩:∃ j,k=j+1:=⟨k - 1,by omega⟩
  rw[A5d s p acc (by omega),Cu,B9 (by omega)];rfl
 | succ m ih =>
  intro k p acc hm hk hp ha
  obtain⟨k,rfl⟩:∃ j,k=j+1:=⟨k - 1,by omega⟩
  by_cases c:p < s.length
  ·obtain⟨ch,t,hcons⟩:∃ ch t,s.drop p=ch :: t:=⟨_,_,List.drop_eq_getElem_cons c⟩
   have htd:t=s.drop (p+1):=by rw[← List.drop_drop,hcons];rfl
   have hlen:(s.drop p).length=s.length - p:=List.length_drop
   have hg:(decide (0≤(p:Int))&&decide ((p:Int)≤((s.length:Nat):Int)))=true:=by simp;omega
   have hx:idx (ch :: t) 0=some ch:=rfl
   have step:∀ (g:Nat),0 < g→p+g≤s.length→Cg false (s.drop p)=g+Cg false (s.drop (p+g))→(Cu (n+2) s k (IntKind.i64.wrap ((p:Int)+(g:Int))) (acc.map tkS)).map A7d=some (Wi (L6 s p acc)):=by
    intro g h0 h1 h2
    rw[Gw (by omega),show(p:Int)+(g:Int)=((p+g:Nat):Int) by omega,ih k (p+g) acc (by omega) (by omega) h1 (by omega),A63 s p acc g hp h2]
   have tokk:∀ (kd:Int) (ln v:Nat),Cg false (s.drop p)=0→N0 (s.drop p)=.tok kd ln v →
    (bif (decide (0≤((ln:Nat):Int))&&decide (((ln:Nat):Int)≤(((s.drop p).length:Nat):Int))) then(bif decide ((List.length (acc.map tkS)+1)*41≤140737488355328) then Cu (n+2) s k (IntKind.i64.wrap ((p:Int)+(((List.drop 0 (List.take (((ln:Nat):Int).toNat) (s.drop p))).length:Nat):Int))) (acc.map tkS++([(⟨kd,List.drop 0 (List.take (((ln:Nat):Int).toNat) (s.drop p)),(v:Int),(p:Int)⟩:A5)]:List A5)) else none) else none).map A7d=some (Wi (L6 s p acc)):=by
    intro kd ln v h0 h1
    obtain⟨l1,l2⟩:=Rk h1
    rw[hlen] at l2
    have g2:(decide (0≤((ln:Nat):Int))&&decide (((ln:Nat):Int)≤(((s.drop p).length:Nat):Int)))=true:=by rw[hlen];simp;omega
    rw[g2,Ac,Ah (by rw[Bd];omega),List.drop_zero,Int.toNat_natCast,List.length_take,hlen,show min ln (s.length - p)=ln by omega,Gw (by omega),show(p:Int)+(ln:Int)=((p+ln:Nat):Int) by omega]
    have hh:=ih k (p+ln) (acc++[⟨kd,(s.drop p).take ln,v,(p:Nat)⟩]) (by omega) (by omega) (by omega) (by simp;omega)
    rw[List.map_append] at hh
    rw[Ag3 s p acc kd ln v h0 c h1]
    exact hh
   have errk:∀ (e:Int),Cg false (s.drop p)=0→N0 (s.drop p)=.err e→(some (LR.ret (([]:List A5),e,(p:Int))):Option (LR (List A5) (List A5×Int×Int))).map A7d=some (Wi (L6 s p acc)):=by
    intro e h0 h1
    rw[Ag1 s p acc e h0 c h1];rfl
   rw[Cu,Ah (by omega),hg,Ac,Int.toNat_natCast,List.take_length]
   rw[hcons] at step tokk errk hlen ⊢
   rw[hx,A4,Aeq]
   have hle:(ch :: t).length≤20000:=by rw[hlen];omega
   by_cases hb:Lo (ch.toNat:Int)=true
   ·have e1:=step 1 (by omega) (by omega) (by rw[Adv hb,htd])
    unfold Lo at hb
    rw[Bf] at hb
    rcases hb with h | h | h | h<;>rw[h]<;>exact e1
   ·have hb':Lo (ch.toNat:Int)=false:=by simpa using hb
    have hnb:=hb'
    unfold Lo at hnb
    rw[decide_eq_false_iff_not] at hnb
    rw[Cw.2 (show((ch.toNat:Nat):Int)≠32 by omega),Cw.2 (show((ch.toNat:Nat):Int)≠9 by omega),Cw.2 (show((ch.toNat:Nat):Int)≠10 by omega),Cw.2 (show((ch.toNat:Nat):Int)≠13 by omega)]
    simp only[Aw]
    by_cases h35:ch.toNat=35
    ·have hl1:1≤Cn Kh (ch :: t):=by rw[Kq,if_pos (by rw[h35];decide)];omega
     have hl2:=Si Kh (ch :: t)
     rw[hlen] at hl2
     have e1:=step (Cn Kh (ch :: t)) (by omega) (by omega) (by rw[Aax h35,← hcons,List.drop_drop])
     rw[h35,show(((35:Nat):Int)==35)=true from rfl,Ac,Kz,A4]
     exact e1
    ·have h0:=Ah9 (t:=t) hb' h35
     have tk:=fun kd ln v=>tokk kd ln v h0
     have ek:=fun e=>errk e h0
     rw[Cw.2 (show((ch.toNat:Nat):Int)≠35 by omega),Aw,Ah8,A4]
     simp only[N0] at tk ek
     cases hL:H4 (ch.toNat:Int) with
     | true =>
      rw[hL] at tk ek
      simp only[if_true] at tk ek
      rw[Ac,Kp,A4]
      by_cases hr:16 < Cn M3 (ch :: t)
      ·rw[Ah (by omega)]
       exact ek 2 (by rw[if_pos hr])
      ·rw[B9 (by omega)]
       exact tk 1 _ 0 (by rw[if_neg hr])
     | false =>
      rw[hL] at tk ek
      simp only[Bool.false_eq_true,if_false] at tk ek
      rw[Aw,Ajc,A4]
      cases hD:Ct (ch.toNat:Int) with
      | true =>
       rw[hD] at tk ek
       simp only[if_true] at tk ek
       have hrl:=Si Ct (ch :: t)
       have g3:(decide (0≤((Cn Ct (ch :: t):Nat):Int))&&decide (((Cn Ct (ch :: t):Nat):Int)≤(((ch :: t).length:Nat):Int)))=true:=by rw[decide_eq_true (by omega),decide_eq_true (by omega)];rfl
       have hall:((ch :: t).take (Cn Ct (ch :: t))).all (fun c=>Ct c.toNat)=true:=by
        unfold Cn
        rw[List.all_eq_true]
        have:(ch :: t).take ((ch :: t).takeWhile fun c=>Ct c.toNat).length=(ch :: t).takeWhile fun c=>Ct c.toNat:=List.prefix_iff_eq_take.1 (List.takeWhile_prefix _) |>.symm
        rw[this]
        intro x hx
        have h4:∀ (q:UInt8→Bool) (l:List UInt8) (x:UInt8),x ∈ l.takeWhile q→q x=true:=fun q l=>by
         induction l with
         | nil=>simp
         | cons a t ih =>
          intro x hx
          rw[List.takeWhile_cons] at hx
          split at hx
          ·rcases List.mem_cons.1 hx with rfl | hx
           ·assumption
           ·exact ih x hx
          ·simp at hx
        exact h4 _ _ x hx
       have tk2:=tk 2 (Cn Ct (ch :: t)) (Mc ((ch :: t).take (Cn Ct (ch :: t))))
       rw[g3,Ac] at tk2
       rw[Ac,Lh,A4,g3,Ac,Ac,List.drop_zero,Int.toNat_natCast,Ql,hall,Ac,A4]
       rw[List.drop_zero,Int.toNat_natCast] at tk2
       by_cases hr:9999 < Mc ((ch :: t).take (Cn Ct (ch :: t)))
       ·rw[Ah (by omega)]
        exact ek 4 (by rw[if_pos hr])
       ·rw[B9 (by omega)]
        exact tk2 (by rw[if_neg hr])
      | false =>
       rw[hD] at tk ek
       simp only[Bool.false_eq_true,if_false] at tk ek
       rw[Aw,Aki,A4]
       by_cases hz:La (ch :: t)=0
       ·rw[hz,show((((0:Nat):Int))==0)=true from rfl,Ac]
        exact ek 3 (by rw[if_pos hz])
       ·rw[Cw.2 (show((La (ch :: t):Nat):Int)≠0 by omega),Aw]
        exact tk 3 _ 0 (by rw[if_neg hz])
  ·rw[A5d s p acc (by omega),Cu,B9 (by omega)];rfl
theorem Aka (n:Nat) (s:List UInt8) (hn:s.length+50 < n∨20000 < s.length∧0 < n):Oq n s=some (Wi (Hw s)):=by
 obtain⟨n,rfl⟩:∃ j,n=j+1:=⟨n - 1,by omega⟩
 rw[Oq,Hw]
 by_cases c:20000 < (s.length:Int)
 ·rw[Ah c,if_pos (by omega)];rfl
 ·rw[B9 c,if_neg (by omega)]
  obtain⟨n,rfl⟩:∃ j,n=j+2:=⟨n - 2,by omega⟩
  obtain⟨r,h1,h2⟩:=Option.map_eq_some_iff.1 (Al8 n s (by omega) s.length (n+2) 0 [] (by omega) (by omega) (by omega) (by simp))
  have h1:Cu (n+2) s (n+2) 0 []=some r:=h1
  rw[h1,A4]
  have h2:A7d r=Wi (Ec (s.length+1) s 0 []):=h2
  rw[← h2]
  cases r<;>rfl
def Q9 (op:Int):List UInt8:=if op=5 then [33] else if op=6 then [43] else if op=7 then [45] else if op=8 then [42] else if op=9 then [61,61] else if op=10 then [33,61] else if op=11 then [60] else if op=12 then [60,61] else if op=13 then [38,38] else [124,124]
theorem Alx (n:Nat) {op:Int} (h:5≤op∧op≤14):Hb (n+1) op=some (Q9 op)∧(Q9 op).length≤2:=by
 rcases A7w op with h | h | h | h | h | h | h | h | h | h | h | h | h | h | h | h
 all_goals try omega
 all_goals subst h;exact⟨rfl,by decide⟩
def Aby (l:List Nd):Prop:=∀ x ∈ l,Gy x=true∧x.An.length≤100∧x.Dd.length≤100
def L9 (x:Nd):Bool:=x.Bm==2 || (x.Bm==3 || x.Bm==4)
theorem Abe {α τ:Type} (l:List α) (p:α→Bool) (L:Nat→Nat→List α→Option (LR (List α) τ)) (h0:∀ k s,L (k+1) l.length s=some (.out s))
 (h1:∀ k i x s,i < l.length→l[i]?=some x→s.length≤i→L (k+1) i s=L k (i+1) (bif p x then s++[x] else s)) {k:Nat} (hk:l.length < k):L k 0 []=some (.out (l.filter p)):=by
 have:=T7 l L (fun l s=>some (.out (s++l.filter p))) (fun i s=>s.length≤i) (s:=[]) hk (Nat.le_refl _) (fun k s _=>by rw[h0 k];simp) ?_
 ·rw[this];rfl
 ·intro k i s x hi hx hs ih
  rw[h1 k i x s hi hx hs]
  cases hp:p x with
  | true=>rw[Ac,ih _ (by simp;omega)];simp[hp]
  | false=>rw[Aw,ih _ (by omega)];simp[hp]
theorem Al9 (n:Nat) (l:List Nd) (hl:l.length < 100000) (hn:l.length+1 < n):Lm n l=some (l.filter L9):=by
 obtain⟨n,rfl⟩:∃ j,n=j+1:=⟨n - 1,by omega⟩
 have:Eb n l n 0 []=some (.out (l.filter L9)):=by
  refine Abe l L9 (fun k i s=>Eb n l k (i:Int) s) (fun k s=>?_) (fun k i x s hi hx hs=>?_) (by omega)
  ·rw[Eb,B9 (by omega)]
  ·rw[Eb,Ah (by omega),Il hx,A4,Bx i (by omega),Ah (show(s.length+1)*57≤140737488355328 by omega)]
   unfold L9
   cases (x.Bm==2)<;>cases (x.Bm==3)<;>cases (x.Bm==4)<;>rfl
 rw[Lm,this];rfl
theorem Aar {l:List UInt8} {k:Nat} (hk:k < l.length) (h:Nw l k=true):M3 l[k].toNat=true:=by
 simp only[Nw,Ao hk,Bool.or_eq_true,A8,Bf] at h
 simp only[M3,Bool.or_eq_true]
 rcases h with h | h
 ·exact .inl h
 ·exact .inr h.2
def Anc (l:List UInt8):Prop:=∃ c t,l=c :: t∧H4 c.toNat=true∧(∀ k (hk:k < l.length),M3 l[k].toNat=true)∧l.length≤16
theorem A9x {l:List UInt8} (h:E0 l=true):Anc l:=by
 simp only[E0,A8,Bool.not_eq_true',Bf,List.all_eq_true,List.mem_range] at h
 obtain⟨⟨⟨h1,h2⟩,h3⟩,_⟩:=h
 rcases l with _ | ⟨c,t⟩
 ·simp at h1
 ·refine⟨c,t,rfl,?_,fun k hk=>Aar hk (h3 k hk),h2⟩
  have:=h3 0 (by simp)
  simpa [Nw] using this
def Tok.core (t:Tok):Int×List UInt8×Int:=(t.kind,t.text,t.n)
theorem Ak2:@Dw=@Bo:=by
 funext n ops l a b c d k;induction k with
 | zero=>funext x y;rfl
 | succ k ih=>funext x y;rw[Dw,Bo,ih]
theorem Alo:@Du=@Bo:=by
 funext n ops l a b c d k;induction k with
 | zero=>funext x y;rfl
 | succ k ih=>funext x y;rw[Du,Bo,ih]
theorem Alr:@Dz=@Bo:=by
 funext n ops l a b c d k;induction k with
 | zero=>funext x y;rfl
 | succ k ih=>funext x y;rw[Dz,Bo,ih]
theorem Akg:@Dy=@Bo:=by
 funext n ops l a b c d k;induction k with
 | zero=>funext x y;rfl
 | succ k ih=>funext x y;rw[Dy,Bo,ih]
theorem Aln:@Ej=@B5:=by
 funext n r ops l k;induction k with
 | zero=>funext a b c d e f;rfl
 | succ k ih=>funext a b c d e f;rw[Ej,B5,ih,Ak2]
theorem Ak3:@Ei=@B5:=by
 funext n r ops l k;induction k with
 | zero=>funext a b c d e f;rfl
 | succ k ih=>funext a b c d e f;rw[Ei,B5,ih,Alo]
theorem Al6:@Em=@B5:=by
 funext n r ops l k;induction k with
 | zero=>funext a b c d e f;rfl
 | succ k ih=>funext a b c d e f;rw[Em,B5,ih,Alr]
theorem Alc:@En=@B5:=by
 funext n r ops l k;induction k with
 | zero=>funext a b c d e f;rfl
 | succ k ih=>funext a b c d e f;rw[En,B5,ih,Akg]
abbrev A58:=List Nd×Int×Int×Int×Int
def Rb (n:Nat) (next:List A5→Int→Int→Int→Int→Option A58) (once:Bool) (ops:List Int) (l:List A5) (i inn e at':Int):Option A58 :=
 (next l i inn e at').bind fun y1=>(B5 n next ops l n once y1.1 y1.2.1 y1.2.2.1 y1.2.2.2.1 y1.2.2.2.2).bind fun o16=>match o16 with | .out x=>some x | .ret v=>some v
theorem Ao2 (n:Nat) (l:List A5) (i inn e at':Int):Dh (n+2) l i inn e at'=Rb n (Cx n) false [14] l i inn e at':=by
 rw[Dh,L5]
 unfold Rb
 cases Cx n l i inn e at' with
 | none=>rfl
 | some y1 =>
  simp only[A4]
  cases B5 n (Cx n) [14] l n false y1.1 y1.2.1 y1.2.2.1 y1.2.2.2.1 y1.2.2.2.2 with
  | none=>rfl
  | some o=>cases o<;>rfl
theorem Amo (n:Nat) (l:List A5) (i inn e at':Int):Cx (n+2) l i inn e at'=Rb n (Ce n) false [13] l i inn e at':=by
 rw[Cx,Jh,Aln]
 unfold Rb
 cases Ce n l i inn e at' with
 | none=>rfl
 | some y1 =>
  simp only[A4]
  cases B5 n (Ce n) [13] l n false y1.1 y1.2.1 y1.2.2.1 y1.2.2.2.1 y1.2.2.2.2 with
  | none=>rfl
  | some o=>cases o<;>rfl
theorem Ach (n:Nat) (l:List A5) (i inn e at':Int):Ce (n+2) l i inn e at'=Rb n (D6 n) true [9,10,11,12] l i inn e at':=by
 rw[Ce,Jk,Ak3]
 unfold Rb
 cases D6 n l i inn e at' with
 | none=>rfl
 | some y1 =>
  simp only[A4]
  cases B5 n (D6 n) [9,10,11,12] l n true y1.1 y1.2.1 y1.2.2.1 y1.2.2.2.1 y1.2.2.2.2 with
  | none=>rfl
  | some o=>cases o<;>rfl
theorem Anl (n:Nat) (l:List A5) (i inn e at':Int):D6 (n+2) l i inn e at'=Rb n (Ch n) false [6,7] l i inn e at':=by
 rw[D6,Ji,Al6]
 unfold Rb
 cases Ch n l i inn e at' with
 | none=>rfl
 | some y1 =>
  simp only[A4]
  cases B5 n (Ch n) [6,7] l n false y1.1 y1.2.1 y1.2.2.1 y1.2.2.2.1 y1.2.2.2.2 with
  | none=>rfl
  | some o=>cases o<;>rfl
theorem Af0 (n:Nat) (l:List A5) (i inn e at':Int):Ch (n+2) l i inn e at'=Rb n (Bj n) false [8] l i inn e at':=by
 rw[Ch,Jl,Alc]
 unfold Rb
 cases Bj n l i inn e at' with
 | none=>rfl
 | some y1 =>
  simp only[A4]
  cases B5 n (Bj n) [8] l n false y1.1 y1.2.1 y1.2.2.1 y1.2.2.2.1 y1.2.2.2.2 with
  | none=>rfl
  | some o=>cases o<;>rfl
def Bl (l:List A5) (i:Nat) (s:List UInt8):Bool:=match l[i]? with
 | some t=>t.At==3&&t.A7==s
 | none=>false
theorem Rh (n:Nat) (s:List UInt8) (l:List A5) (i:Nat) (a b c:Int):Ci (n+1) s l (i:Int) a b c=some (Bl l i s):=by
 rw[Ci,Bl]
 by_cases h:i < l.length
 ·rw[Ah (by omega),Cp h,Ao h]
  simp only[A4]
  cases (l[i].At==3)<;>rfl
 ·rw[B9 (by omega),List.getElem?_eq_none (by omega)]
def Ga (l:List A5) (i:Nat) (ops:List Int):Int:=ops.foldl (fun acc op=>bif Bl l i (Q9 op) then op else acc) 0
theorem A0m (n:Nat) (ops:List Int) (l:List A5) (i:Nat) (a b c:Int) (ho:∀ op ∈ ops,6≤op∧op≤14) (hl:ops.length≤4) {k:Nat} (hk:5 < k):Bo (n+1) ops l (i:Int) a b c k 0 0=some (.out (Ga l i ops)):=by
 refine T7 ops (fun k j acc=>Bo (n+1) ops l (i:Int) a b c k acc (j:Int)) (fun r acc=>some (.out (r.foldl (fun acc op=>bif Bl l i (Q9 op) then op else acc) acc))) (fun _ _=>True) (s:=0) (by omega) trivial (fun k s _=>?_) (fun k j s x hj hx _ ih=>?_)
 ·rw[Bo,B9 (by omega)];rfl
 ·have hx6:=ho x (List.mem_of_getElem? hx)
  rw[Bo,Ah (by omega),Il hx,A4,(Alx n (by omega)).1,A4,Rh,A4,Bx j (by omega),List.foldl_cons]
  cases Bl l i (Q9 x) with
  | true=>exact ih _ trivial
  | false=>exact ih _ trivial
theorem A55 (n:Nat) (x:Nd) (X Y:List Nd) (h:X.length+Y.length < 1000000) (hn:5 < n):Co n x [X,Y]=some (x :: (X++Y)):=by
 obtain⟨n,rfl⟩:∃ j,n=j+5:=⟨n - 5,by omega⟩
 have e0:idx [X,Y] 0=some X:=rfl
 have e1:idx [X,Y] 1=some Y:=rfl
 have w1:IntKind.i64.wrap (0+1)=1:=by decide
 have w2:IntKind.i64.wrap (1+1)=2:=by decide
 rw[Co,Fp,Ah (by simp),e0,A4,Ah (by simp;omega),w1,Fp,Ah (by simp),e1,A4,Ah (by simp;omega),w2,Fp,B9 (by simp)]
 simp
theorem A5b (n:Nat) (x:Nd) (X:List Nd) (h:X.length < 1000000) (hn:5 < n):Co n x [X]=some (x :: X):=by
 obtain⟨n,rfl⟩:∃ j,n=j+5:=⟨n - 5,by omega⟩
 have e0:idx [X] 0=some X:=rfl
 have w1:IntKind.i64.wrap (0+1)=1:=by decide
 rw[Co,Fp,Ah (by simp),e0,A4,Ah (by simp;omega),w1,Fp,B9 (by simp)]
 simp
theorem A51 (n:Nat) (x:Nd) (hn:5 < n):Co n x []=some [x]:=by
 obtain⟨n,rfl⟩:∃ j,n=j+5:=⟨n - 5,by omega⟩
 rw[Co,Fp,B9 (by simp)];rfl
abbrev Tk:=A5
inductive PR where
 | ok (x:List Nd) (tu:Nat)
 | bad (e:Int) (a:Int)
def Gu:Nat→List Int
 | 0=>[14]
 | 1=>[13]
 | 2=>[9,10,11,12]
 | 3=>[6,7]
 | _=>[8]
def Ba (l:List Tk) (i:Nat):Int:=match l[i]? with
 | some t=>t.Al
 | none=>match l[l.length - 1]? with
   | some t=>IntKind.i64.wrap (t.Al+((t.A7.length:Nat):Int))
   | none=>0
def El (l:List Tk) (i:Nat):Int:=if i < l.length then 5 else 6
def Ai1 (l:List Tk) (i:Nat):PR:=.bad (El l i) (Ba l i)
def isN (l:List Tk) (i:Nat):Bool:=match l[i]? with
 | some t=>t.At==1&&E0 t.A7
 | none=>false
def isK (l:List Tk) (i:Nat):Bool:=match l[i]? with
 | some t=>t.At==2
 | none=>false
inductive Md where
 | fl (f:Nat)
 | lp (f:Nat) (x:List Nd)
inductive PE (l:List Tk):Md→Nat→Nat→PR→Prop
 | deep {inn i:Nat} {t:Tk}:(Bl l i [33]=true∨Bl l i [40]=true)→30≤inn→l[i]?=some t→PE l (.fl 5) inn i (.bad 7 t.Al)
 | not_ok {inn i tu:Nat} {t:Tk} {x:List Nd}:Bl l i [33]=true→inn < 30→l[i]?=some t→PE l (.fl 5) (inn+1) (i+1) (.ok x tu)→PE l (.fl 5) inn i (.ok (⟨5,0,[],[],t.Al⟩ :: x) tu)
 | not_bad {inn i:Nat} {e a:Int}:Bl l i [33]=true→inn < 30→PE l (.fl 5) (inn+1) (i+1) (.bad e a)→PE l (.fl 5) inn i (.bad e a)
 | par_ok {inn i tu:Nat} {x:List Nd}:Bl l i [40]=true→inn < 30→PE l (.fl 0) (inn+1) (i+1) (.ok x tu)→Bl l tu [41]=true→PE l (.fl 5) inn i (.ok x (tu+1))
 | par_bad {inn i:Nat} {e a:Int}:Bl l i [40]=true→inn < 30→PE l (.fl 0) (inn+1) (i+1) (.bad e a)→PE l (.fl 5) inn i (.bad e a)
 | par_open {inn i tu:Nat} {x:List Nd}:Bl l i [40]=true→inn < 30→PE l (.fl 0) (inn+1) (i+1) (.ok x tu)→Bl l tu [41]=false→PE l (.fl 5) inn i (Ai1 l tu)
 | num {inn i:Nat} {t:Tk}:isK l i=true→l[i]?=some t→PE l (.fl 5) inn i (.ok [⟨1,t.C2,[],[],t.Al⟩] (i+1))
 | reg {inn i:Nat} {t:Tk}:isN l i=true→Bl l (i+1) [46]=false→l[i]?=some t→PE l (.fl 5) inn i (.ok [⟨2,0,t.A7,[],t.Al⟩] (i+1))
 | of {inn i:Nat} {t u:Tk}:isN l i=true→Bl l (i+1) [46]=true→isN l (i+2)=true→l[i]?=some t→l[i+2]?=some u→PE l (.fl 5) inn i (.ok [⟨4,0,u.A7,t.A7,t.Al⟩] (i+3))
 | of_bad {inn i:Nat}:isN l i=true→Bl l (i+1) [46]=true→isN l (i+2)=false→PE l (.fl 5) inn i (Ai1 l (i+2))
 | no {inn i:Nat}:Bl l i [33]=false→Bl l i [40]=false→isK l i=false→isN l i=false→PE l (.fl 5) inn i (Ai1 l i)
 | fl_bad {f inn i:Nat} {e a:Int}:f < 5→PE l (.fl (f+1)) inn i (.bad e a)→PE l (.fl f) inn i (.bad e a)
 | fl_ok {f inn i tu:Nat} {x:List Nd} {r:PR}:f < 5→PE l (.fl (f+1)) inn i (.ok x tu)→PE l (.lp f x) inn tu r→PE l (.fl f) inn i r
 | lp_stop {f inn i:Nat} {x:List Nd}:Ga l i (Gu f)=0→PE l (.lp f x) inn i (.ok x i)
 | lp_bad {f inn i:Nat} {x:List Nd} {e a:Int}:f < 5→Ga l i (Gu f)≠0→PE l (.fl (f+1)) inn (i+1) (.bad e a)→PE l (.lp f x) inn i (.bad e a)
 | lp_once {inn i tu:Nat} {x y:List Nd} {t:Tk}:Ga l i (Gu 2)≠0→l[i]?=some t→PE l (.fl 3) inn (i+1) (.ok y tu)→PE l (.lp 2 x) inn i (.ok (⟨Ga l i (Gu 2),0,[],[],t.Al⟩ :: (x++y)) tu)
 | lp_go {f inn i tu:Nat} {x y:List Nd} {t:Tk} {r:PR}:f < 5→f≠2→Ga l i (Gu f)≠0→l[i]?=some t→PE l (.fl (f+1)) inn (i+1) (.ok y tu)→PE l (.lp f (⟨Ga l i (Gu f),0,[],[],t.Al⟩ :: (x++y))) inn tu r→PE l (.lp f x) inn i r
theorem De {l:List Tk} {i:Nat} {s:List UInt8} (h:Bl l i s=true):i < l.length:=by
 unfold Bl at h
 cases hg:l[i]? with
 | none=>rw[hg] at h;cases h
 | some t=>exact(List.getElem?_eq_some_iff.1 hg).1
theorem Sb {l:List Tk} {i:Nat} (h:isN l i=true):i < l.length:=by
 unfold isN at h
 cases hg:l[i]? with
 | none=>rw[hg] at h;cases h
 | some t=>exact(List.getElem?_eq_some_iff.1 hg).1
theorem Jw {l:List Tk} {i:Nat} {t:Tk} (h:l[i]?=some t):i < l.length:=(List.getElem?_eq_some_iff.1 h).1
theorem Aci {l:List Tk} {i:Nat}:∀ {ops:List Int} {a:Int},ops.foldl (fun acc op=>bif Bl l i (Q9 op) then op else acc) a≠a→∃ op ∈ ops,Bl l i (Q9 op)=true:=by
 intro ops
 induction ops with
 | nil=>intro a h;exact absurd rfl h
 | cons op ops ih =>
  intro a h
  cases hs:Bl l i (Q9 op) with
  | true=>exact⟨op,List.mem_cons_self ..,hs⟩
  | false =>
   rw[List.foldl_cons,hs] at h
   obtain⟨o,ho,hh⟩:=ih h
   exact⟨o,List.mem_cons_of_mem _ ho,hh⟩
theorem Of {l:List Tk} {i:Nat} {ops:List Int} (h:Ga l i ops≠0):i < l.length:=by
 obtain⟨op,_,hh⟩:=Aci h
 exact De hh
theorem Aiu {l:List Tk} {i:Nat}:∀ {ops:List Int} {a:Int},ops.foldl (fun acc op=>bif Bl l i (Q9 op) then op else acc) a=a∨ops.foldl (fun acc op=>bif Bl l i (Q9 op) then op else acc) a ∈ ops:=by
 intro ops
 induction ops with
 | nil=>intro a;exact .inl rfl
 | cons op ops ih =>
  intro a
  rw[List.foldl_cons]
  cases Bl l i (Q9 op) with
  | true =>
   rcases ih (a:=op) with h | h
   ·right;rw[Ac,h];exact List.mem_cons_self ..
   ·right;exact List.mem_cons_of_mem _ h
  | false =>
   rcases ih (a:=a) with h | h
   ·left;exact h
   ·right;exact List.mem_cons_of_mem _ h
theorem I3 {l:List Tk} {md:Md} {inn i:Nat} {r:PR} (h:PE l md inn i r):i≤l.length→match md,r with
 | .fl _,.ok x tu=>i < tu∧tu≤l.length∧x.length≤tu - i∧1≤x.length
 | .lp _ x0,.ok x tu=>i≤tu∧tu≤l.length∧x.length≤x0.length+(tu - i)∧x0.length≤x.length
 | _,.bad e _=>e≠0:=by
 induction h with
 | deep h1 h2 h3=>intro _;show(7:Int)≠0;decide
 | not_ok h1 h2 h3 h4 ih=>intro _;have:=ih (by have:=De h1;omega);have:=De h1;dsimp only at *;simp only[List.length_cons];omega
 | not_bad h1 h2 h4 ih=>intro _;exact ih (by have:=De h1;omega)
 | par_ok h1 h2 h3 h4 ih=>intro _;have:=ih (by have:=De h1;omega);have:=De h1;have:=De h4;dsimp only at *;omega
 | par_bad h1 h2 h4 ih=>intro _;exact ih (by have:=De h1;omega)
 | par_open h1 h2 h3 h4 ih=>intro _;show El _ _≠0;unfold El;split<;>decide
 | num h1 h2=>intro _;have:=Jw h2;dsimp only;simp;omega
 | reg h1 h2 h3=>intro _;have:=Jw h3;dsimp only;simp;omega
 | of h1 h2 h3 h4 h5=>intro _;have:=Jw h5;dsimp only;simp;omega
 | of_bad h1 h2 h3=>intro _;show El _ _≠0;unfold El;split<;>decide
 | no h1 h2 h3 h4=>intro _;show El _ _≠0;unfold El;split<;>decide
 | fl_bad h1 h2 ih=>intro hi;exact ih hi
 | @fl_ok f inn i tu x r h1 h2 h3 ih1 ih2 =>
  intro hi;have:=ih1 hi;dsimp only at this;have h:=ih2 (by omega)
  cases r with
  | ok y to2=>dsimp only at h ⊢;omega
  | bad e a=>exact h
 | lp_stop h1=>intro hi;dsimp only;omega
 | lp_bad h1 h2 h3 ih=>intro hi;exact ih (by have:=Of h2;omega)
 | lp_once h1 h2 h3 ih=>intro hi;have:=ih (by have:=Of h1;omega);have:=Of h1;dsimp only at *;simp only[List.length_cons,List.length_append];omega
 | @lp_go f inn i tu x y t r h1 h2 h3 h4 h5 h6 ih1 ih2 =>
  intro hi;have:=ih1 (by have:=Of h3;omega);dsimp only at this;have h:=ih2 (by omega)
  cases r with
  | ok y to2=>dsimp only at h ⊢;simp only[List.length_cons,List.length_append] at h;omega
  | bad e a=>exact h
def flM:Nat→Nat→List Tk→Int→Int→Int→Int→Option A58
 | 0,n=>Dh n
 | 1,n=>Cx n
 | 2,n=>Ce n
 | 3,n=>D6 n
 | 4,n=>Ch n
 | _,n=>Bj n
theorem Abr {f n:Nat} (hf:f < 5) (l:List Tk) (i inn e a:Int):flM f (n+2) l i inn e a=Rb n (flM (f+1) n) (f==2) (Gu f) l i inn e a:=by
 match f,hf with
 | 0,_=>exact Ao2 n l i inn e a
 | 1,_=>exact Amo n l i inn e a
 | 2,_=>exact Ach n l i inn e a
 | 3,_=>exact Anl n l i inn e a
 | 4,_=>exact Af0 n l i inn e a
theorem Qz (f:Nat):(∀ op ∈ Gu f,6≤op∧op≤14)∧(Gu f).length≤4:=by
 match f with
 | 0=>exact⟨by decide,by decide⟩
 | 1=>exact⟨by decide,by decide⟩
 | 2=>exact⟨by decide,by decide⟩
 | 3=>exact⟨by decide,by decide⟩
 | _+4=>exact⟨by simp[Gu],by simp[Gu]⟩
theorem A4v (n:Nat) (l:List Tk) (i:Nat) (inn:Int) (hl:l.length < 1000000):C8 (n+1) 5 l (i:Int) inn 0 0=some ([],El l i,Ba l i):=by
 rw[C8,El,Ba]
 by_cases h:i < l.length
 ·rw[if_pos h,Ah (by omega),Cp h,Ao h];rfl
 ·rw[if_neg h,B9 (by omega),List.getElem?_eq_none (by omega)]
  by_cases h0:0 < l.length
  ·have hx:l[l.length - 1]?=some l[l.length - 1]:=Ao (by omega)
   rw[Ah (by omega),Gw (by omega),show(l.length:Int) - 1=((l.length - 1:Nat):Int) by omega,Il hx,hx];rfl
  ·rw[B9 (by omega),List.getElem?_eq_none (by omega)];rfl
theorem Ac8 (n:Nat) (l:List Tk) (i:Nat) (inn:Int) {t:Tk} (h:l[i]?=some t):C8 (n+1) 7 l (i:Int) inn 0 0=some ([],7,t.Al):=by
 have:=Jw h
 rw[C8,Ah (show(i:Int) < (l.length:Int) by omega),Il h];rfl
theorem Aev (n:Nat) (l:List Tk) (i:Nat) (inn:Int) (hl:l.length < 1000000):D0 (n+2) l (i:Int) inn 0 0=match isN l i,l[i]? with
 | true,some t=>some (t.A7,t.Al,true,((i+1:Nat):Int))
 | _,_=>some ([],0,false,(i:Int)):=by
 rw[D0,isN]
 by_cases h:i < l.length
 ·rw[B9 (by omega),Cp h,Ao h]
  simp only[A4,Dn,Bx i (show i < 4611686018427387904 by omega)]
  cases hk:(l[i].At==1) with
  | false =>
   rw[show(l[i].At != 1)=true by simp only[bne,hk];rfl];rfl
  | true =>
   rw[show(l[i].At != 1)=false by simp only[bne,hk];rfl]
   cases E0 l[i].A7<;>rfl
 ·rw[Ah (by omega),List.getElem?_eq_none (by omega)]
theorem A4a {l:List Tk} {i:Nat} (h:isN l i=true):∃ t,l[i]?=some t:=⟨_,Ao (Sb h)⟩
theorem Vc {n:Nat} {l:List Tk} {i:Nat} {inn:Int} {t:Tk} (hl:l.length < 1000000) (h:isN l i=true) (ht:l[i]?=some t):D0 (n+2) l (i:Int) inn 0 0=some (t.A7,t.Al,true,((i+1:Nat):Int)):=by
 rw[Aev n l i inn hl,h,ht]
theorem A93 {n:Nat} {l:List Tk} {i:Nat} {inn:Int} (hl:l.length < 1000000) (h:isN l i=false):D0 (n+2) l (i:Int) inn 0 0=some ([],0,false,(i:Int)):=by
 rw[Aev n l i inn hl,h]
theorem Ag0 {l:List Tk} {i:Nat} {s:List UInt8} (h:Bl l i s=true):∃ t,l[i]?=some t∧t.At=3∧t.A7=s:=by
 unfold Bl at h
 cases hg:l[i]? with
 | none=>rw[hg] at h;cases h
 | some t=>rw[hg] at h;simp only[A8,beq_iff_eq] at h;exact⟨t,rfl,h⟩
theorem Ahw {l:List Tk} {i:Nat} {s s':List UInt8} (h:Bl l i s=true) (hs:s≠s'):Bl l i s'=false:=by
 obtain⟨t,ht,_,h2⟩:=Ag0 h
 simp only[Bl,ht,h2];simp[hs]
def Aoe (l:List Tk) (inn i:Nat) (r:PR) (o:Option A58):Prop:=match r with
 | .ok x tu=>o=some (x,(tu:Int),(inn:Int),0,0)
 | .bad e a=>∃ (X:List Nd) (i':Nat) (j:Int),o=some (X,(i':Int),j,e,a)∧X.length+i≤i'+1∧i'+inn≤l.length+31
def Ao9 (l:List Tk) (inn i:Nat) (x:List Nd) (r:PR) (o:Option (LR A58 A58)):Prop:=match r with
 | .ok y tu=>o=some (.out (y,(tu:Int),(inn:Int),0,0))
 | .bad e a=>∃ (X:List Nd) (i':Nat) (j:Int),o=some (.out (X,(i':Int),j,e,a))∧X.length+i≤x.length+i'+1∧i'+inn≤l.length+31
def Imp (l:List Tk) (inn i:Nat) (r:PR):Md→Prop
 | .fl f=>∀ n,12*(l.length - i)+2*(5 - f)+40≤n→Aoe l inn i r (flM f n l (i:Int) (inn:Int) 0 0)
 | .lp f x=>∀ n k,f < 5→x.length≤i→12*(l.length - i)+2*(5 - (f+1))+40≤n→l.length - i < k→Ao9 l inn i x r (B5 n (flM (f+1) n) (Gu f) l k (f==2) x (i:Int) (inn:Int) 0 0)
theorem Xj {n:Nat} {l:List Tk} {i:Nat} {inn:Int} {t:Tk} (h:Bl l i [33]=true) (ht:l[i]?=some t) :
 Bj (n+2) l (i:Int) inn 0 0=(E6 (n+1) l (i:Int) inn 0 0).bind fun y=>(Co (n+1) ⟨5,0,[],[],t.Al⟩ [y.1]).bind fun z=>some (z,y.2.1,y.2.2.1,y.2.2.2.1,y.2.2.2.2):=by
 rw[Bj,Rh,h]
 simp only[bne_self_eq_false,Aw,A4,Ac,Il ht]
theorem T1 {n:Nat} {l:List Tk} {i:Nat} {inn:Int} (h:Bl l i [40]=true) :
 Bj (n+2) l (i:Int) inn 0 0=(Dm (n+1) l (i:Int) inn 0 0).bind fun y=>bif y.2.2.2.1==0 then(Ci (n+1) [41] l y.2.1 y.2.2.1 y.2.2.2.1 y.2.2.2.2).bind fun z=>bif z then some (y.1,IntKind.i64.wrap (y.2.1+1),y.2.2.1,y.2.2.2.1,y.2.2.2.2) else(C8 (n+1) 5 l y.2.1 y.2.2.1 y.2.2.2.1 y.2.2.2.2).bind fun w=>some (w.1,y.2.1,y.2.2.1,w.2.1,w.2.2) else some (y.1,IntKind.i64.wrap (y.2.1+1),y.2.2.1,y.2.2.2.1,y.2.2.2.2):=by
 have h0:Bl l i [33]=false:=Ahw h (by decide)
 rw[Bj,Rh,h0,Rh,h]
 simp only[bne_self_eq_false,Aw,A4,Ac]
theorem A3z {n:Nat} {l:List Tk} {i:Nat} {inn:Nat} {t:Tk} (h:30≤inn) (ht:l[i]?=some t):E6 (n+2) l (i:Int) (inn:Int) 0 0=some ([],(i:Int),(inn:Int),7,t.Al)∧Dm (n+2) l (i:Int) (inn:Int) 0 0=some ([],(i:Int),(inn:Int),7,t.Al):=by
 constructor
 ·rw[E6,Ah (by omega),Ac8 n l i inn ht];rfl
 ·rw[Dm,Ah (by omega),Ac8 n l i inn ht];rfl
theorem Ut {n:Nat} {l:List Tk} {i:Nat} {inn:Nat} (h:inn < 30) (hi:i < l.length) (hl:l.length < 1000000):E6 (n+1) l (i:Int) (inn:Int) 0 0=((Bj n l ((i+1:Nat):Int) ((inn+1:Nat):Int) 0 0).bind fun y=>some (y.1,y.2.1,IntKind.i64.wrap (y.2.2.1 - 1),y.2.2.2.1,y.2.2.2.2))∧Dm (n+1) l (i:Int) (inn:Int) 0 0=((Dh n l ((i+1:Nat):Int) ((inn+1:Nat):Int) 0 0).bind fun y=>some (y.1,y.2.1,IntKind.i64.wrap (y.2.2.1 - 1),y.2.2.2.1,y.2.2.2.2)):=by
 constructor
 ·rw[E6,B9 (by omega),Bx i (by omega),Bx inn (by omega)]
 ·rw[Dm,B9 (by omega),Bx i (by omega),Bx inn (by omega)]
theorem A5z (j:Nat) (h:j < 1000):IntKind.i64.wrap (((j+1:Nat):Int) - 1)=(j:Int):=by
 rw[Gw (by omega)];omega
theorem Ry {n:Nat} {l:List Tk} {i:Nat} {inn:Int} (h1:Bl l i [33]=false) (h2:Bl l i [40]=false) (h3:isK l i=false) (hl:l.length < 1000000) :
 Bj (n+3) l (i:Int) inn 0 0=(D0 (n+2) l (i:Int) inn 0 0).bind fun y=>bif y.2.2.1 then(Ci (n+2) [46] l y.2.2.2 inn 0 0).bind fun z=>bif z then(D0 (n+2) l (IntKind.i64.wrap (y.2.2.2+1)) inn 0 0).bind fun w=>bif w.2.2.1 then(Co (n+2) ⟨4,0,w.1,y.1,y.2.1⟩ []).bind fun v=>some (v,w.2.2.2,inn,0,0) else(C8 (n+2) 5 l w.2.2.2 inn 0 0).bind fun v=>some (v.1,w.2.2.2,inn,v.2.1,v.2.2) else(Co (n+2) ⟨2,0,y.1,[],y.2.1⟩ []).bind fun v=>some (v,y.2.2.2,inn,0,0) else(C8 (n+2) 5 l y.2.2.2 inn 0 0).bind fun v=>some (v.1,y.2.2.2,inn,v.2.1,v.2.2):=by
 rw[Bj,Rh,h1,Rh,h2]
 simp only[bne_self_eq_false,Aw,A4]
 by_cases h:i < l.length
 ·have hk:(l[i].At==2)=false:=by rw[isK,Ao h] at h3;exact h3
  rw[Ah (by omega),Cp h,A4,hk,Aw]
 ·rw[B9 (by omega)]
theorem Acl {n:Nat} {l:List Tk} {i:Nat} {inn:Int} {t:Tk} (h3:isK l i=true) (ht:l[i]?=some t) (hl:l.length < 1000000):Bj (n+10) l (i:Int) inn 0 0=some ([⟨1,t.C2,[],[],t.Al⟩],((i+1:Nat):Int),inn,0,0):=by
 have hk:t.At=2:=by simpa [isK,ht] using h3
 have h1:Bl l i [33]=false:=by simp[Bl,ht,hk]
 have h2:Bl l i [40]=false:=by simp[Bl,ht,hk]
 have h:=Jw ht
 rw[Bj,Rh,h1,Rh,h2]
 simp only[bne_self_eq_false,Aw,A4,Il ht,hk,beq_self_eq_true,Ac,A51 (n+9) _ (by omega),Bx i (show i < 4611686018427387904 by omega)]
 rw[Ah (by omega)]
theorem U5 (n:Nat):flM 5 n=Bj n:=rfl
theorem Ady (n:Nat):flM 0 n=Dh n:=rfl
theorem Q1 {l:List Tk} {i:Nat} (h:isN l i=true) (s:List UInt8):Bl l i s=false:=by
 obtain⟨t,ht⟩:=A4a h
 simp only[isN,ht,A8,beq_iff_eq] at h
 simp[Bl,ht,h.1]
theorem A29 {l:List Tk} {i:Nat} (h:isN l i=true):isK l i=false:=by
 obtain⟨t,ht⟩:=A4a h
 simp only[isN,ht,A8,beq_iff_eq] at h
 simp[isK,ht,h.1]
theorem Ao4 {l:List Tk} (hl:l.length < 100000) {md:Md} {inn i:Nat} {r:PR} (h:PE l md inn i r):i≤l.length→inn≤30→Imp l inn i r md:=by
 induction h with
 | @deep inn i t h1 h2 h3 =>
  intro hi hn n hf
  have hlt:=Jw h3
  obtain⟨n,rfl⟩:∃ j,n=j+10:=⟨n - 10,by omega⟩
  rw[U5]
  rcases h1 with h1 | h1
  ·rw[Xj h1 h3,(A3z (n:=n+7) h2 h3).1,A4,A5b (n+9) _ _ (by simp) (by omega),A4]
   exact⟨_,_,_,rfl,by simp;omega,by omega⟩
  ·rw[T1 h1,(A3z (n:=n+7) h2 h3).2,A4,show((7:Int)==0)=false from rfl,Aw,Bx i (by omega)]
   exact⟨_,_,_,rfl,by simp;omega,by omega⟩
 | @not_ok inn i tu t x h1 h2 h3 h4 ih =>
  intro hi hn n hf
  have hlt:=Jw h3
  have hx:=I3 h4 (by omega);dsimp only at hx
  obtain⟨n,rfl⟩:∃ j,n=j+10:=⟨n - 10,by omega⟩
  have e:flM 5 (n+8) l ((i+1:Nat):Int) ((inn+1:Nat):Int) 0 0=_:=ih (by omega) (by omega) (n+8) (by omega)
  rw[U5] at e ⊢
  rw[Xj h1 h3,(Ut (n:=n+8) h2 hlt (by omega)).1,e,Option.bind_some,Option.bind_some,A5b (n+9) _ _ (by dsimp only;omega) (by omega),Option.bind_some]
  dsimp only
  rw[A5z _ (by omega)];rfl
 | @not_bad inn i e a h1 h2 h4 ih =>
  intro hi hn n hf
  have hlt:=De h1
  obtain⟨n,rfl⟩:∃ j,n=j+10:=⟨n - 10,by omega⟩
  obtain⟨X,i',j,e,e1,e2⟩:=ih (by omega) (by omega) (n+8) (by omega)
  rw[U5] at e ⊢
  rw[Xj h1 (List.getElem?_eq_getElem hlt),(Ut (n:=n+8) h2 hlt (by omega)).1,e,Option.bind_some,Option.bind_some,A5b (n+9) _ _ (by dsimp only;omega) (by omega),Option.bind_some]
  exact⟨_,i',_,rfl,by simp;omega,by omega⟩
 | @par_ok inn i tu x h1 h2 h3 h4 ih =>
  intro hi hn n hf
  have hlt:=De h1
  have hx:=I3 h3 (by omega);dsimp only at hx
  obtain⟨n,rfl⟩:∃ j,n=j+10:=⟨n - 10,by omega⟩
  have e:flM 0 (n+8) l ((i+1:Nat):Int) ((inn+1:Nat):Int) 0 0=_:=ih (by omega) (by omega) (n+8) (by omega)
  rw[Ady] at e
  rw[U5,T1 h1,(Ut (n:=n+8) h2 hlt (by omega)).2,e,A4,A4]
  dsimp only
  rw[beq_self_eq_true,Ac,Rh,h4,A4,Ac,Bx tu (by omega),A5z _ (by omega)];rfl
 | @par_bad inn i e a h1 h2 h3 ih =>
  intro hi hn n hf
  have hlt:=De h1
  have hx:=I3 h3 (by omega);dsimp only at hx
  obtain⟨n,rfl⟩:∃ j,n=j+10:=⟨n - 10,by omega⟩
  obtain⟨X,i',j,e,e1,e2⟩:=ih (by omega) (by omega) (n+8) (by omega)
  rw[Ady] at e
  rw[U5,T1 h1,(Ut (n:=n+8) h2 hlt (by omega)).2,e,A4,A4]
  dsimp only
  rw[Cw.2 hx,Aw,Bx i' (by omega)]
  exact⟨_,_,_,rfl,by omega,by omega⟩
 | @par_open inn i tu x h1 h2 h3 h4 ih =>
  intro hi hn n hf
  have hlt:=De h1
  have hx:=I3 h3 (by omega);dsimp only at hx
  obtain⟨n,rfl⟩:∃ j,n=j+10:=⟨n - 10,by omega⟩
  have e:flM 0 (n+8) l ((i+1:Nat):Int) ((inn+1:Nat):Int) 0 0=_:=ih (by omega) (by omega) (n+8) (by omega)
  rw[Ady] at e
  rw[U5,T1 h1,(Ut (n:=n+8) h2 hlt (by omega)).2,e,A4,A4]
  dsimp only
  rw[beq_self_eq_true,Ac,Rh,h4,A4,Aw,A4v _ _ _ _ (by omega),A4]
  exact⟨_,_,_,rfl,by simp;omega,by omega⟩
 | @num inn i t h1 h2 =>
  intro hi hn n hf
  obtain⟨n,rfl⟩:∃ j,n=j+10:=⟨n - 10,by omega⟩
  rw[U5,Acl h1 h2 (by omega)];rfl
 | @reg inn i t h1 h2 h3 =>
  intro hi hn n hf
  have hlt:=Jw h3
  obtain⟨n,rfl⟩:∃ j,n=j+10:=⟨n - 10,by omega⟩
  rw[U5,Ry (n:=n+7) (Q1 h1 _) (Q1 h1 _) (A29 h1) (by omega),Vc (n:=n+7) (by omega) h1 h3,A4]
  dsimp only
  rw[Ac,Rh,h2,A4,Aw,A51 _ _ (by omega),A4];rfl
 | @of inn i t u h1 h2 h3 h4 h5 =>
  intro hi hn n hf
  have hlt:=Jw h5
  obtain⟨n,rfl⟩:∃ j,n=j+10:=⟨n - 10,by omega⟩
  rw[U5,Ry (n:=n+7) (Q1 h1 _) (Q1 h1 _) (A29 h1) (by omega),Vc (n:=n+7) (by omega) h1 h4,A4]
  dsimp only
  rw[Ac,Rh,h2,A4,Ac,Bx (i+1) (by omega),Vc (n:=n+7) (by omega) h3 h5,A4]
  dsimp only
  rw[Ac,A51 _ _ (by omega),A4];rfl
 | @of_bad inn i h1 h2 h3 =>
  intro hi hn n hf
  have hlt:=De h2
  obtain⟨n,rfl⟩:∃ j,n=j+10:=⟨n - 10,by omega⟩
  obtain⟨t,h4⟩:=A4a h1
  rw[U5,Ry (n:=n+7) (Q1 h1 _) (Q1 h1 _) (A29 h1) (by omega),Vc (n:=n+7) (by omega) h1 h4,A4]
  dsimp only
  rw[Ac,Rh,h2,A4,Ac,Bx (i+1) (by omega),A93 (n:=n+7) (by omega) h3,A4]
  dsimp only
  rw[Aw,A4v _ _ _ _ (by omega),A4]
  exact⟨_,_,_,rfl,by simp;omega,by omega⟩
 | @no inn i h1 h2 h3 h4 =>
  intro hi hn n hf
  obtain⟨n,rfl⟩:∃ j,n=j+10:=⟨n - 10,by omega⟩
  rw[U5,Ry (n:=n+7) h1 h2 h3 (by omega),A93 (n:=n+7) (by omega) h4,A4]
  dsimp only
  rw[Aw,A4v _ _ _ _ (by omega),A4]
  exact⟨_,_,_,rfl,by simp,by omega⟩
 | @fl_bad f inn i ee a h1 h2 ih =>
  intro hi hn n hf
  have he:=I3 h2 hi;dsimp only at he
  obtain⟨n,rfl⟩:∃ j,n=j+2:=⟨n - 2,by omega⟩
  obtain⟨X,i',j,e,e1,e2⟩:=ih hi hn n (by omega)
  obtain⟨k,hk⟩:∃ k,n=k+1:=⟨n - 1,by omega⟩
  rw[Abr h1,Rb,e,A4]
  dsimp only
  have:B5 n (flM (f+1) n) (Gu f) l n (f==2) X (i':Int) j ee a=some (.out (X,(i':Int),j,ee,a)):=by
   rw[show B5 n (flM (f+1) n) (Gu f) l n=B5 n (flM (f+1) n) (Gu f) l (k+1) by rw[← hk],B5,Cw.2 he,Aw]
  rw[this]
  exact⟨_,_,_,rfl,e1,e2⟩
 | @fl_ok f inn i tu x r h1 h2 h3 ih1 ih2 =>
  intro hi hn n hf
  have hx:=I3 h2 hi;dsimp only at hx
  obtain⟨n,rfl⟩:∃ j,n=j+2:=⟨n - 2,by omega⟩
  have e:flM (f+1) n l (i:Int) (inn:Int) 0 0=_:=ih1 hi hn n (by omega)
  have e2:=ih2 (by omega) hn n n h1 (by omega) (by omega) (by omega)
  rw[Abr h1,Rb,e,A4]
  dsimp only
  cases r with
  | ok y to2=>rw[show B5 n (flM (f+1) n) (Gu f) l n (f==2) x (tu:Int) (inn:Int) 0 0=_ from e2];rfl
  | bad e' a =>
   obtain⟨X,i',j,e2,e3,e4⟩:=e2
   rw[e2]
   exact⟨_,_,_,rfl,by omega,e4⟩
 | @lp_stop f inn i x h1 =>
  intro hi hn n k h5 hx hf hk
  obtain⟨k,rfl⟩:∃ j,k=j+1:=⟨k - 1,by omega⟩
  obtain⟨m,hm⟩:∃ j,n=j+1:=⟨n - 1,by omega⟩
  rw[B5,beq_self_eq_true,Ac]
  have hL:Bo n (Gu f) l (i:Int) (inn:Int) 0 0 n 0 0=some (.out (Ga l i (Gu f))):=by
   rw[hm];exact A0m m _ l i _ _ _ (Qz f).1 (Qz f).2 (by omega)
  rw[hL,A4]
  dsimp only
  rw[h1,beq_self_eq_true,Ac];rfl
 | @lp_bad f inn i x e a h1 h2 h3 ih =>
  intro hi hn n k h5 hx hf hk
  have hlt:=Of h2
  have he:=I3 h3 (by omega);dsimp only at he
  obtain⟨k,rfl⟩:∃ j,k=j+2:=⟨k - 2,by omega⟩
  obtain⟨m,hm⟩:∃ j,n=j+1:=⟨n - 1,by omega⟩
  obtain⟨X,i',j,e0,e1,e2⟩:=ih (by omega) hn n (by omega)
  have hL:Bo n (Gu f) l (i:Int) (inn:Int) 0 0 n 0 0=some (.out (Ga l i (Gu f))):=by
   rw[hm];exact A0m m _ l i _ _ _ (Qz f).1 (Qz f).2 (by omega)
  rw[B5,beq_self_eq_true,Ac,hL,A4]
  dsimp only
  rw[beq_eq_false_iff_ne.2 h2,cond_false,Cp hlt,Option.bind_some,Bx i (by omega),e0,Option.bind_some,A55 n _ _ _ (by dsimp only;omega) (by omega),Option.bind_some]
  dsimp only
  cases f==2 with
  | true=>exact⟨_,_,_,rfl,by simp;omega,e2⟩
  | false =>
   rw[Aw,B5,Cw.2 he,Aw]
   exact⟨_,_,_,rfl,by simp;omega,e2⟩
 | @lp_once inn i tu x y t h1 h2 h3 ih =>
  intro hi hn n k h5 hx hf hk
  have hlt:=Of h1
  have he:=I3 h3 (by omega);dsimp only at he
  obtain⟨k,rfl⟩:∃ j,k=j+2:=⟨k - 2,by omega⟩
  obtain⟨m,hm⟩:∃ j,n=j+1:=⟨n - 1,by omega⟩
  have e0:flM 3 n l ((i+1:Nat):Int) (inn:Int) 0 0=_:=ih (by omega) hn n (by omega)
  have hL:Bo n (Gu 2) l (i:Int) (inn:Int) 0 0 n 0 0=some (.out (Ga l i (Gu 2))):=by
   rw[hm];exact A0m m _ l i _ _ _ (Qz 2).1 (Qz 2).2 (by omega)
  rw[B5,beq_self_eq_true,Ac,hL,A4]
  dsimp only
  rw[beq_eq_false_iff_ne.2 h1,cond_false,Il h2,Option.bind_some,Bx i (by omega),e0,Option.bind_some,A55 n _ _ _ (by dsimp only;omega) (by omega),Option.bind_some]
  rfl
 | @lp_go f inn i tu x y t r h1 h2 h3 h4 h5 h6 ih1 ih2 =>
  intro hi hn n k h7 hx hf hk
  have hlt:=Of h3
  have he:=I3 h5 (by omega);dsimp only at he
  obtain⟨k,rfl⟩:∃ j,k=j+1:=⟨k - 1,by omega⟩
  obtain⟨m,hm⟩:∃ j,n=j+1:=⟨n - 1,by omega⟩
  have e0:flM (f+1) n l ((i+1:Nat):Int) (inn:Int) 0 0=_:=ih1 (by omega) hn n (by omega)
  have e1:=ih2 (by omega) hn n k h7 (by simp;omega) (by omega) (by omega)
  have hL:Bo n (Gu f) l (i:Int) (inn:Int) 0 0 n 0 0=some (.out (Ga l i (Gu f))):=by
   rw[hm];exact A0m m _ l i _ _ _ (Qz f).1 (Qz f).2 (by omega)
  have hf2:(f==2)=false:=Cw.2 h2
  rw[hf2] at e1 ⊢
  rw[B5,beq_self_eq_true,Ac,hL,A4]
  dsimp only
  rw[beq_eq_false_iff_ne.2 h3,cond_false,Il h4,Option.bind_some,Bx i (by omega),e0,Option.bind_some,A55 n _ _ _ (by dsimp only;omega) (by omega),Option.bind_some]
  dsimp only
  rw[Aw]
  cases r with
  | ok y to2=>exact e1
  | bad e' a =>
   obtain⟨X,i',j,e2,e3,e4⟩:=e1
   simp only[List.length_cons,List.length_append] at e3
   exact⟨_,_,_,e2,by omega,e4⟩
theorem Ait {l:List Tk} {f inn:Nat} (hf:f < 5) (j:Nat) (h:∀ i,j < i→i≤l.length→∃ r,PE l (.fl (f+1)) inn i r):∀ (m i:Nat) (x:List Nd),l.length - i≤m→j≤i→i≤l.length→∃ r,PE l (.lp f x) inn i r:=by
 intro m
 induction m with
 | zero =>
  intro i x hm hj hi
  refine⟨_,.lp_stop ?_⟩
  cases Decidable.em (Ga l i (Gu f)=0) with
  | inl h=>exact h
  | inr h=>have:=Of h;omega
 | succ m ih =>
  intro i x hm hj hi
  by_cases c:Ga l i (Gu f)=0
  ·exact⟨_,.lp_stop c⟩
  ·have hlt:=Of c
   obtain⟨r,hr⟩:=h (i+1) (by omega) (by omega)
   cases r with
   | bad e a=>exact⟨_,.lp_bad hf c hr⟩
   | ok y tu =>
    have hto:=I3 hr (by omega);dsimp only at hto
    by_cases c2:f=2
    ·subst c2;exact⟨_,.lp_once c (Ao hlt) hr⟩
    ·obtain⟨r,h2⟩:=ih tu (⟨Ga l i (Gu f),0,[],[],l[i].Al⟩ :: (x++y)) (by omega) (by omega) (by omega)
     exact⟨_,.lp_go hf c2 c (Ao hlt) hr h2⟩
theorem A31 {l:List Tk} {inn i:Nat} (hi:i≤l.length) (hn:inn≤30) (h:∀ f inn',f≤5→inn'≤30→i < l.length→∃ r,PE l (.fl f) inn' (i+1) r):∃ r,PE l (.fl 5) inn i r:=by
 cases h1:Bl l i [33] with
 | true =>
  have hlt:=De h1
  by_cases c:30≤inn
  ·exact⟨_,.deep (.inl h1) c (Ao hlt)⟩
  ·obtain⟨r,hr⟩:=h 5 (inn+1) (by omega) (by omega) hlt
   cases r with
   | bad e a=>exact⟨_,.not_bad h1 (by omega) hr⟩
   | ok y tu=>exact⟨_,.not_ok h1 (by omega) (Ao hlt) hr⟩
 | false =>
 cases h2:Bl l i [40] with
 | true =>
  have hlt:=De h2
  by_cases c:30≤inn
  ·exact⟨_,.deep (.inr h2) c (Ao hlt)⟩
  ·obtain⟨r,hr⟩:=h 0 (inn+1) (by omega) (by omega) hlt
   cases r with
   | bad e a=>exact⟨_,.par_bad h2 (by omega) hr⟩
   | ok y tu =>
    cases h3:Bl l tu [41] with
    | true=>exact⟨_,.par_ok h2 (by omega) hr h3⟩
    | false=>exact⟨_,.par_open h2 (by omega) hr h3⟩
 | false =>
 cases h3:isK l i with
 | true =>
  have:i < l.length:=by
   unfold isK at h3
   cases hg:l[i]? with
   | none=>rw[hg] at h3;cases h3
   | some t=>exact Jw hg
  exact⟨_,.num h3 (Ao this)⟩
 | false =>
 cases h4:isN l i with
 | false=>exact⟨_,.no h1 h2 h3 h4⟩
 | true =>
 have hlt:=Sb h4
 cases h5:Bl l (i+1) [46] with
 | false=>exact⟨_,.reg h4 h5 (Ao hlt)⟩
 | true =>
 cases h6:isN l (i+2) with
 | false=>exact⟨_,.of_bad h4 h5 h6⟩
 | true=>exact⟨_,.of h4 h5 h6 (Ao hlt) (Ao (Sb h6))⟩
theorem A9o {l:List Tk}:∀ (m i f inn:Nat),l.length - i≤m→i≤l.length→f≤5→inn≤30→∃ r,PE l (.fl f) inn i r:=by
 intro m
 induction m with
 | zero =>
  intro i f inn hm hi hf hn
  obtain⟨d,hd⟩:∃ d,d+f=5:=⟨5 - f,by omega⟩
  induction d generalizing f with
  | zero=>obtain rfl:f=5:=by omega
          exact A31 hi hn (fun _ _ _ _ h=>by omega)
  | succ d ih =>
   obtain⟨r,hr⟩:=ih (f+1) (by omega) (by omega)
   cases r with
   | bad e a=>exact⟨_,.fl_bad (by omega) hr⟩
   | ok y tu=>have:=I3 hr hi;dsimp only at this;omega
 | succ m ihm =>
  intro i f inn hm hi hf hn
  obtain⟨d,hd⟩:∃ d,d+f=5:=⟨5 - f,by omega⟩
  induction d generalizing f with
  | zero=>obtain rfl:f=5:=by omega
          exact A31 hi hn (fun f' inn' h1 h2 h3=>ihm (i+1) f' inn' (by omega) (by omega) h1 h2)
  | succ d ih =>
   obtain⟨r,hr⟩:=ih (f+1) (by omega) (by omega)
   cases r with
   | bad e a=>exact⟨_,.fl_bad (by omega) hr⟩
   | ok y tu =>
    have hto:=I3 hr hi;dsimp only at hto
    obtain⟨r,h2⟩:=Ait (f:=f) (inn:=inn) (by omega) tu (fun i' h1 h2=>ihm i' (f+1) inn (by omega) h2 (by omega) hn) l.length tu y (by omega) (by omega) (by omega)
    exact⟨_,.fl_ok (by omega) hr h2⟩
def I8 (l:List Tk) (i:Nat):PR→List Nd×Int×Int×Int
 | .bad e a=>([],0,e,a)
 | .ok x tu=>if 30 < (Es x (0,[])).1 then([],0,7,Ba l i) else if 200 < x.length then([],0,2,Ba l i) else(x,tu,0,0)
theorem Ak4 {l:List Tk} (hl:l.length < 100000) {n i:Nat} {r:PR} (hr:PE l (.fl 0) 0 i r) (hi:i≤l.length) (hn:12*l.length+100≤n):I7 n l (i:Int)=some (I8 l i r):=by
 obtain⟨n,rfl⟩:∃ j,n=j+1:=⟨n - 1,by omega⟩
 have h:=Ao4 hl hr hi (by omega) n (by omega)
 rw[I7,B9 (by omega)]
 rw[Ady] at h
 cases r with
 | bad e a =>
  have he:=I3 hr hi;dsimp only at he
  obtain⟨X,i',j,e1,_,_⟩:=h
  have e1:Dh n l (i:Int) 0 0 0=_:=e1
  rw[e1,A4]
  dsimp only
  rw[show(e != 0)=true by simpa using he];rfl
 | ok x tu =>
  have hx:=I3 hr hi;dsimp only at hx
  have h:Dh n l (i:Int) 0 0 0=_:=h
  have ht:l[i]?=some (l[i]'(by omega)):=Ao (by omega)
  have hp:Ba l i=(l[i]'(by omega)).Al:=by unfold Ba;rw[ht]
  rw[h,A4,A7f n x (by omega) (by omega),Il ht]
  simp only[bne_self_eq_false,Aw,A4,I8,hp]
  by_cases c:30 < (Es x (0,[])).1
  ·rw[Ah c,if_pos c]
  ·rw[B9 c,if_neg c]
   by_cases c2:200 < x.length
   ·rw[Ah (by omega),if_pos c2]
   ·rw[B9 (by omega),if_neg c2]
def Sq (t:Tk):Prop:=0≤t.Al∧0≤t.C2∧t.C2≤9999
def P7 (x:List Nd):Prop:=(∃ t:Tr,t.wf∧t.flat=x)∧∀ y ∈ x,Gy y=true∧y.Bm≠3
theorem A5h {op a:Int} (h:5≤op∧op≤14) (ha:0≤a):Gy ⟨op,0,[],[],a⟩=true:=by
 simp only[Gy]
 rw[decide_eq_false (by omega),if_neg (by omega),if_neg (by omega),if_neg (by omega)];rfl
theorem Anf {op:Int} (h:6≤op∧op≤14):Fb op=2:=by unfold Fb;rw[if_neg (by omega),if_neg (by omega),if_pos h]
theorem A92 {l:List Tk} {i f:Nat} (h:Ga l i (Gu f)≠0):6≤Ga l i (Gu f)∧Ga l i (Gu f)≤14:=by
 rcases Aiu (l:=l) (i:=i) (ops:=Gu f) (a:=0) with h1 | h1
 ·exact absurd h1 h
 ·exact(Qz f).1 _ h1
theorem A9k {op a:Int} {x y:List Nd} (h:6≤op∧op≤14) (ha:0≤a) (hx:P7 x) (hy:P7 y):P7 (⟨op,0,[],[],a⟩ :: (x++y)):=by
 obtain⟨⟨t,t1,t2⟩,hx⟩:=hx
 obtain⟨⟨u,u1,u2⟩,hy⟩:=hy
 refine⟨⟨.bin ⟨op,0,[],[],a⟩ t u,⟨Anf h,t1,u1⟩,by rw[Tr.flat,t2,u2]⟩,fun z hz=>?_⟩
 rcases List.mem_cons.1 hz with rfl | hz
 ·exact⟨A5h (by omega) ha,by dsimp only;omega⟩
 ·rcases List.mem_append.1 hz with hz | hz
  ·exact hx z hz
  ·exact hy z hz
theorem A4g {l:List Tk} (hl:∀ t ∈ l,Sq t) {md:Md} {inn i:Nat} {r:PR} (h:PE l md inn i r):match md,r with
 | .fl _,.ok x _=>P7 x
 | .lp _ x0,.ok x _=>P7 x0→P7 x
 | _,_=>True:=by
 have ok:∀ {i:Nat} {t:Tk},l[i]?=some t→Sq t:=fun h=>hl _ (List.mem_of_getElem? h)
 have nm:∀ {i:Nat} {t:Tk},isN l i=true→l[i]?=some t→E0 t.A7=true:=fun h1 h2=>by
  simp only[isN,h2,A8] at h1;exact h1.2
 induction h with
 | deep h1 h2 h3=>trivial
 | @not_ok inn i tu t x h1 h2 h3 h4 ih =>
  obtain⟨⟨u,u1,u2⟩,hx⟩:=ih
  refine⟨⟨.un ⟨5,0,[],[],t.Al⟩ u,⟨(by decide:Fb 5=1),u1⟩,by rw[Tr.flat,u2]⟩,fun z hz=>?_⟩
  rcases List.mem_cons.1 hz with rfl | hz
  ·exact⟨A5h (by omega) (ok h3).1,by dsimp only;omega⟩
  ·exact hx z hz
 | not_bad h1 h2 h4 ih=>trivial
 | par_ok h1 h2 h3 h4 ih=>exact ih
 | par_bad h1 h2 h4 ih=>trivial
 | par_open h1 h2 h3 h4 ih=>trivial
 | @num inn i t h1 h2 =>
  have:=ok h2
  refine⟨⟨.leaf ⟨1,t.C2,[],[],t.Al⟩,(by decide:Fb 1=0),rfl⟩,fun z hz=>?_⟩
  obtain rfl:=List.mem_singleton.1 hz
  refine⟨?_,(by decide:(1:Int)≠3)⟩
  simp only[Gy]
  rw[decide_eq_false (by have:=this.1;omega),if_pos trivial,decide_eq_true ⟨this.2.1,this.2.2⟩];rfl
 | @reg inn i t h1 h2 h3 =>
  have:=ok h3
  refine⟨⟨.leaf ⟨2,0,t.A7,[],t.Al⟩,(by decide:Fb 2=0),rfl⟩,fun z hz=>?_⟩
  obtain rfl:=List.mem_singleton.1 hz
  refine⟨?_,(by decide:(2:Int)≠3)⟩
  simp only[Gy]
  rw[decide_eq_false (by have:=this.1;omega),if_neg (by omega),if_pos (.inl trivial),nm h1 h3];rfl
 | @of inn i t u h1 h2 h3 h4 h5 =>
  have:=ok h4
  refine⟨⟨.leaf ⟨4,0,u.A7,t.A7,t.Al⟩,(by decide:Fb 4=0),rfl⟩,fun z hz=>?_⟩
  obtain rfl:=List.mem_singleton.1 hz
  refine⟨?_,(by decide:(4:Int)≠3)⟩
  simp only[Gy]
  rw[decide_eq_false (by have:=this.1;omega),if_neg (by omega),if_neg (by omega),if_pos trivial,nm h1 h4,nm h3 h5];rfl
 | of_bad h1 h2 h3=>trivial
 | no h1 h2 h3 h4=>trivial
 | fl_bad h1 h2 ih=>trivial
 | @fl_ok f inn i tu x r h1 h2 h3 ih1 ih2 =>
  cases r with
  | ok y to2=>exact ih2 ih1
  | bad e a=>trivial
 | lp_stop h1=>exact id
 | lp_bad h1 h2 h3 ih=>trivial
 | lp_once h1 h2 h3 ih=>exact fun hx=>A9k (A92 h1) (ok h2).1 hx ih
 | @lp_go f inn i tu x y t r h1 h2 h3 h4 h5 h6 ih1 ih2 =>
  cases r with
  | ok y to2=>exact fun hx=>ih2 (A9k (A92 h3) (ok h4).1 hx ih1)
  | bad e a=>trivial
def Ajq (x:Nd):Nd:=⟨if x.Bm=3 then 2 else x.Bm,x.C2,x.An,x.Dd,0⟩
theorem Aao (f:Nat) (l:List UInt8) (p:Nat) (acc:List Tok):(Ec f l p acc).toks.length≤acc.length+l.length:=by
 induction f generalizing l p acc with
 | zero=>simp[Ec]
 | succ f ih =>
  have hg:=A0p false l
  simp only[Ec]
  rcases hd:l.drop (Cg false l) with _ | ⟨c,u⟩
  ·simp
  ·have hlen:=congrArg List.length hd
   rw[List.length_drop] at hlen
   simp only
   cases ho:N0 (c :: u) with
   | err e=>simp
   | tok k n v =>
    simp only
    have hn:=Rk ho
    have:=ih ((c :: u).drop n) (p+Cg false l+n) (acc++[⟨k,(c :: u).take n,v,(p+Cg false l:Nat)⟩])
    simp only[List.length_append,List.length_singleton,List.length_drop] at this
    omega
theorem Ajg (l:List UInt8):(Hw l).toks.length≤l.length:=by
 unfold Hw
 split
 ·simp
 ·have:=Aao (l.length+1) l 0 []
  simpa using this
theorem Aja {l:List UInt8} {k:Int} {n v:Nat} (h:N0 l=.tok k n v):v≤9999:=by
 rcases l with _ | ⟨c,t⟩
 ·simp[N0] at h
 ·simp only[N0] at h
  repeat' split at h
  all_goals first
   | (simp at h;done)
   | (simp only[Lx.tok.injEq] at h;omega)
def Aea (B:Nat) (t:Tok):Prop:=0≤t.at'∧t.at'+t.text.length≤B∧0≤t.n∧t.n≤9999
theorem Aee (f:Nat) (l:List UInt8) (p B:Nat) (acc:List Tok) (hB:p+l.length≤B) (ha:∀ t ∈ acc,Aea B t):∀ t ∈ (Ec f l p acc).toks,Aea B t:=by
 induction f generalizing l p acc with
 | zero=>exact ha
 | succ f ih =>
  have hg:=A0p false l
  simp only[Ec]
  rcases hd:l.drop (Cg false l) with _ | ⟨c,u⟩
  ·exact ha
  ·have hlen:=congrArg List.length hd
   rw[List.length_drop] at hlen
   simp only
   cases ho:N0 (c :: u) with
   | err e=>simp
   | tok k n v =>
    simp only
    have hn:=Rk ho
    refine ih ((c :: u).drop n) (p+Cg false l+n) _ (by rw[List.length_drop];omega) (fun t ht=>?_)
    rcases List.mem_append.1 ht with ht | ht
    ·exact ha t ht
    ·obtain rfl:=List.mem_singleton.1 ht
     have:=Aja ho
     refine⟨by dsimp only;omega,?_,by dsimp only;omega,by dsimp only;omega⟩
     dsimp only
     rw[List.length_take];omega
theorem Akb (l:List UInt8):∀ t ∈ (Hw l).toks,Aea l.length t:=by
 unfold Hw
 split
 ·simp
 ·exact Aee _ _ _ _ _ (by omega) (by simp)
def R1 (s:List UInt8):List Tk:=(Hw s).toks.map tkS
theorem Xz (s:List UInt8):(∀ t ∈ R1 s,Sq t∧t.Al+t.A7.length≤s.length)∧(R1 s).length≤s.length:=by
 refine⟨fun t ht=>?_,by rw[R1,Bd];exact Ajg s⟩
 obtain⟨u,hu,rfl⟩:=List.mem_map.1 ht
 have:=Akb s u hu
 exact⟨⟨this.1,this.2.2.1,this.2.2.2⟩,this.2.1⟩
def An7 (l:List Tk):PR→Prop
 | .bad _ a=>(∃ t ∈ l,a=t.Al)∨(∃ i,a=Ba l i)
 | _=>True
theorem Ama {l:List Tk} {md:Md} {inn i:Nat} {r:PR} (h:PE l md inn i r):An7 l r:=by
 induction h with
 | deep h1 h2 h3=>exact .inl ⟨_,List.mem_of_getElem? h3,rfl⟩
 | not_bad h1 h2 h4 ih=>exact ih
 | par_bad h1 h2 h4 ih=>exact ih
 | par_open h1 h2 h3 h4 ih=>exact .inr ⟨_,rfl⟩
 | of_bad h1 h2 h3=>exact .inr ⟨_,rfl⟩
 | no h1 h2 h3 h4=>exact .inr ⟨_,rfl⟩
 | fl_bad h1 h2 ih=>exact ih
 | fl_ok h1 h2 h3 ih1 ih2=>exact ih2
 | lp_bad h1 h2 h3 ih=>exact ih
 | lp_go h1 h2 h3 h4 h5 h6 ih1 ih2=>exact ih2
 | _=>trivial
theorem Iz {l:List Tk} {B:Nat} (hB:B < 1000000) (h:∀ t ∈ l,Sq t∧t.Al+t.A7.length≤B) (i:Nat):0≤Ba l i∧Ba l i≤B:=by
 unfold Ba
 cases h1:l[i]? with
 | some t=>have:=h t (List.mem_of_getElem? h1);have:=this.1.1;dsimp only;omega
 | none =>
  cases h2:l[l.length - 1]? with
  | some t=>have:=h t (List.mem_of_getElem? h2);have:=this.1.1;dsimp only;rw[Gw (by omega)];omega
  | none=>dsimp only;omega
theorem A5w {l:List Tk} {B:Nat} (hB:B < 1000000) (h:∀ t ∈ l,Sq t∧t.Al+t.A7.length≤B) {md:Md} {inn i:Nat} {e a:Int} (hp:PE l md inn i (.bad e a)):0≤a∧a≤B:=by
 rcases Ama hp with ⟨t,ht,rfl⟩ | ⟨i,rfl⟩
 ·have:=h t ht;have:=this.1.1;omega
 ·exact Iz hB h i
theorem Aj5 {l:List Nd} (h6:l.all Gy=true) (hl:Mj l=true):Aby l:=by
 simp only[Mj,A8,Bf,List.all_eq_true] at hl
 exact fun x hx=>⟨List.all_eq_true.1 h6 x hx,(hl.2 x hx).1,(hl.2 x hx).2⟩
theorem Ad6 {x:List Nd} (h:P7 x) (hl:x.length≤200):Mj x=true:=by
 simp only[Mj,A8,Bf,List.all_eq_true]
 refine⟨by omega,fun y hy=>?_⟩
 have hy:=(h.2 y hy).1
 have nl:∀ {w:List UInt8},E0 w=true→w.length≤16:=fun h=>by
  obtain⟨_,_,_,_,_,h⟩:=A9x h;exact h
 simp only[Gy,A8] at hy
 have hy:=hy.2
 by_cases c1:y.Bm=1
 ·rw[if_pos c1] at hy
  simp only[A8,beq_iff_eq] at hy
  rw[hy.2.1,hy.2.2];simp
 ·rw[if_neg c1] at hy
  by_cases c2:y.Bm=2∨y.Bm=3
  ·rw[if_pos c2] at hy
   simp only[A8,beq_iff_eq] at hy
   have:=nl hy.2.1
   rw[hy.2.2];simp;omega
  ·rw[if_neg c2] at hy
   by_cases c4:y.Bm=4
   ·rw[if_pos c4] at hy
    simp only[A8,beq_iff_eq] at hy
    have:=nl hy.2.1;have:=nl hy.2.2
    omega
   ·rw[if_neg c4] at hy
    simp only[A8,beq_iff_eq] at hy
    rw[hy.2.1,hy.2.2];simp
theorem Zg {x:List Nd} (h:P7 x) (hl:x.length≤200) (hd:(Es x (0,[])).1≤30):∃ t:Tr,t.wf∧t.flat=x∧t.dep≤30∧Aby t.flat∧Ip x=true:=by
 obtain⟨⟨t,t1,rfl⟩,hg⟩:=h
 have hd2:=Akn t [] 0 [] t1 (by omega)
 rw[List.append_nil] at hd2
 have e:(Es t.flat (0,[])).1=(t.dep:Int):=by rw[hd2];simp[Es]
 have hp:=t.flat_pos
 have h6:t.flat.all Gy=true:=List.all_eq_true.2 fun y hy=>(hg y hy).1
 have he:It t.flat 1=some t.flat.length:=by
  have:=Ak8 t 1 [] t1 (by omega)
  rw[List.append_nil,if_pos rfl] at this;exact this
 refine⟨t,t1,rfl,by omega,Aj5 h6 (Ad6 ⟨⟨t,t1,rfl⟩,hg⟩ hl),?_⟩
 simp only[Ip,A8,Bf]
 exact⟨⟨hp,hl⟩,he,h6,hd⟩
theorem A5v {l:List Tk} {i:Nat} {r:PR} (hr:PE l (.fl 0) 0 i r) (hi:i≤l.length):(∃ e a,I8 l i r=([],0,e,a)∧e≠0∧(r=.bad e a∨a=Ba l i))∨(∃ x tu,r=.ok x tu∧I8 l i r=(x,(tu:Int),0,0)∧x.length≤200∧(Es x (0,[])).1≤30):=by
 cases r with
 | bad e a=>exact .inl ⟨e,a,rfl,I3 hr hi,.inl rfl⟩
 | ok x tu =>
  simp only[I8]
  by_cases c:30 < (Es x (0,[])).1
  ·rw[if_pos c];exact .inl ⟨7,_,rfl,by decide,.inr rfl⟩
  ·rw[if_neg c]
   by_cases c2:200 < x.length
   ·rw[if_pos c2];exact .inl ⟨2,_,rfl,by decide,.inr rfl⟩
   ·rw[if_neg c2];exact .inr ⟨x,tu,rfl,rfl,by omega,by omega⟩
theorem Ue (l:List Tk) (i:Nat):El l i≠0:=by unfold El;split<;>decide
theorem T3 {T:Nat} {l:List Tk} (hl:l.length < 100000) (hk:∀ t ∈ l,Sq t) (hT:∀ t ∈ l,t.A7.length≤T) (hT2:T < 100000) {n i:Nat} {r:PR} (hr:PE l (.fl 0) 0 i r) (hi:i≤l.length) (hn:12*l.length+T+200≤n) :
 I7 n l (i:Int)=some (I8 l i r):=Ak4 hl hr hi (by omega)
abbrev St:=A3
def N2 (x:List Nd):Bool:=(x.filter L9).all fun y=>y.Bm==2
theorem Ag4 {F:Nat→Int→Option (LR Unit Bool)} (l:List Nd) (h0:∀ k i,l.length≤i→F (k+1) (i:Int)=some (.out ())) (h1:∀ k i x,i < l.length→l[i]?=some x→F (k+1) (i:Int)=bif x.Bm != 2 then some (.ret false) else F k ((i+1:Nat):Int)):∀ (m i k:Nat),l.length - i≤m→l.length - i < k→F k (i:Int)=some (if(l.drop i).all (fun y=>y.Bm==2) then .out () else .ret false):=by
 intro m
 induction m with
 | zero =>
  intro i k h hk
  obtain⟨k,rfl⟩:∃ j,k=j+1:=⟨k - 1,by omega⟩
  rw[h0 k i (by omega),List.drop_of_length_le (by omega)];rfl
 | succ m ih =>
  intro i k h hk
  obtain⟨k,rfl⟩:∃ j,k=j+1:=⟨k - 1,by omega⟩
  by_cases hi:i < l.length
  ·rw[h1 k i _ hi (Ao hi),ih (i+1) k (by omega) (by omega),List.drop_eq_getElem_cons hi,List.all_cons]
   by_cases hx:l[i].Bm=2
   ·simp[hx]
   ·have:(l[i].Bm==2)=false:=by rw[beq_eq_false_iff_ne];exact hx
    simp[this,bne]
  ·rw[h0 k i (by omega),List.drop_of_length_le (by omega)];rfl
theorem Akc {x:List Nd} (h:P7 x) (hl:x.length≤200) (hd:(Es x (0,[])).1≤30) {n:Nat} (hn:600 < n):Lj n x=some (N2 x):=by
 obtain⟨t,_,_,_,_,h5⟩:=Zg h hl hd
 obtain⟨n,rfl⟩:∃ j,n=j+1:=⟨n - 1,by omega⟩
 have hf:(x.filter L9).length≤200:=Nat.le_trans (List.length_filter_le ..) hl
 rw[Lj,Al9 n x (by omega) (by omega),A4]
 have:=Ag4 (F:=fun k i=>Hq n (x.filter L9) k i) (x.filter L9) (fun k i h=>by rw[Hq,B9 (by omega)]) (fun k i y hi hy=>by rw[Hq,Ah (by omega),Il hy,A4,Bx i (by omega)]) (x.filter L9).length 0 n (by omega) (by omega)
 rw[show((0:Nat):Int)=0 from rfl] at this
 rw[this,A4,List.drop_zero,Aj0 n x (by omega) (by omega),h5]
 unfold N2
 by_cases c:(x.filter L9).all (fun y=>y.Bm==2)=true
 ·rw[if_pos c,c];rfl
 ·rw[if_neg c];rw[Bool.not_eq_true] at c;rw[c]
structure Toks (T:Nat) (l:List Tk):Prop where
 len:l.length < 100000
 ok:∀ t ∈ l,Sq t
 txt:∀ t ∈ l,t.A7.length≤T
 small:T < 100000
def Ke (l:List Tk) (i:Nat):PR→PR
 | .bad e a=>.bad e a
 | .ok x tu=>if 30 < (Es x (0,[])).1 then .bad 7 (Ba l i) else if 200 < x.length then .bad 2 (Ba l i) else if N2 x=true then .ok x tu else .bad 5 (Ba l i)
open Classical in
noncomputable def exQ (l:List Tk) (i:Nat):PR:=if h:∃ r,PE l (.fl 0) 0 i r then Ke l i h.choose else .bad 6 0
theorem Wl {T:Nat} {l:List Tk} (hk:Toks T l) {i:Nat} (hi:i≤l.length):∃ r,PE l (.fl 0) 0 i r∧exQ l i=Ke l i r:=by
 have h:∃ r,PE l (.fl 0) 0 i r:=A9o l.length i 0 0 (by omega) hi (by omega) (by omega)
 exact⟨h.choose,h.choose_spec,by unfold exQ;rw[dif_pos h]⟩
theorem Agh {T:Nat} {l:List Tk} (hk:Toks T l) {i:Nat} (hi:i≤l.length):match exQ l i with
 | .ok x tu=>i < tu∧tu≤l.length∧x.length≤200
 | .bad e _=>e≠0:=by
 obtain⟨r,hr,e⟩:=Wl hk hi
 rw[e]
 cases r with
 | bad e a=>exact I3 hr hi
 | ok x tu =>
  have:=I3 hr hi;dsimp only at this
  simp only[Ke]
  split
  ·rename_i h;split at h
   ·cases h
   ·split at h
    ·cases h
    ·split at h
     ·cases h;omega
     ·cases h
  ·rename_i h;split at h
   ·cases h;decide
   ·split at h
    ·cases h;decide
    ·split at h
     ·cases h
     ·cases h;decide
abbrev Mp:=List (List UInt8×Int)
theorem Toks.at' {T:Nat} {l:List Tk} (hk:Toks T l) {i:Nat} (h:i < l.length):Ba l i=(l[i]).Al:=by unfold Ba;rw[Ao h]
theorem A84 {l:List Tk} (hk:∀ t ∈ l,Sq t) {i:Nat} {r:PR} (hr:PE l (.fl 0) 0 i r) (hi:i≤l.length) :
 (∃ e a,e≠0∧I8 l i r=([],0,e,a)∧Ke l i r=.bad e a) ∨
 (∃ (x:List Nd) (tu:Nat),I8 l i r=(x,(tu:Int),0,0)∧i < tu∧tu≤l.length∧x.length≤200∧P7 x∧(Es x (0,[])).1≤30∧Ke l i r=if N2 x=true then .ok x tu else .bad 5 (Ba l i)):=by
 cases r with
 | bad e a=>exact .inl ⟨e,a,I3 hr hi,rfl,rfl⟩
 | ok x tu =>
  have hx:=I3 hr hi;dsimp only at hx
  have hg:P7 x:=A4g hk hr
  simp only[I8,Ke]
  by_cases c:30 < (Es x (0,[])).1
  ·rw[if_pos c,if_pos c];exact .inl ⟨7,_,by decide,rfl,rfl⟩
  ·rw[if_neg c,if_neg c]
   by_cases c2:200 < x.length
   ·rw[if_pos c2,if_pos c2];exact .inl ⟨2,_,by decide,rfl,rfl⟩
   ·rw[if_neg c2,if_neg c2];exact .inr ⟨x,tu,rfl,by omega,by omega,by omega,hg,by omega,rfl⟩
theorem Yg (n:Nat) (s:List UInt8) (l:List Tk) (i:Nat) (a b:Int) (m:Mp):D5 (n+1) 3 s l (i:Int) a b m=some (Bl l i s):=by
 rw[D5]
 by_cases h:i < l.length
 ·rw[Ah (by omega),Cp h,A4,A4]
  unfold Bl
  rw[Ao h]
  dsimp only
  cases hk:(l[i].At==3)<;>simp
 ·rw[B9 (by omega)]
  unfold Bl
  rw[List.getElem?_eq_none (by omega)]
theorem A0o (n:Nat) (l:List Tk) (i:Nat) (c a b:Int) (m:Mp) (hl:l.length < 1000000):E8 (n+1) (i:Int) l c a b m=some (Ba l i):=by
 rw[E8]
 by_cases h:i < l.length
 ·rw[Ah (by omega),Cp h,A4]
  unfold Ba
  rw[Ao h]
 ·rw[B9 (by omega)]
  unfold Ba
  rw[List.getElem?_eq_none (by omega)]
  by_cases h0:l.length=0
  ·have:l=[]:=List.length_eq_zero_iff.1 h0
   subst this
   rfl
  ·have e:IntKind.i64.wrap ((l.length:Int) - 1)=((l.length - 1:Nat):Int):=by rw[Gw (by omega)];omega
   rw[e,Ah (by omega),Cp (show l.length - 1 < l.length by omega),A4,A4,Ao (show l.length - 1 < l.length by omega)]
theorem A03 (n:Nat) (l:List Tk) (i:Nat) (m:Mp) (hl:l.length < 1000000):Cz (n+2) l (i:Int) 0 0 m=some (El l i,Ba l i):=by
 rw[Cz,bne_self_eq_false,Aw,A0o n l i _ _ _ m hl,A4]
 unfold El
 by_cases h:i < l.length
 ·rw[B9 (by omega),if_pos h]
 ·rw[Ah (by omega),if_neg h]
theorem Pq (n:Nat) (s:List UInt8) (l:List Tk) (i e a:Int) (m:Mp) (he:e≠0):Bc (n+1) s l i e a m=some (i,e,a):=by
 rw[Bc,show(e != 0)=true by rw[bne_iff_ne];exact he,Ac]
theorem Sc (n:Nat) (s:List UInt8) (l:List Tk) (i:Nat) (m:Mp) (hl:l.length < 1000000):Bc (n+3) s l (i:Int) 0 0 m=some (if Bl l i s=true then(((i+1:Nat):Int),0,0) else((i:Int),El l i,Ba l i)):=by
 rw[Bc,bne_self_eq_false,Aw,Yg,A4]
 by_cases c:Bl l i s=true
 ·have:=De c
  rw[if_pos c,c,Ac,Bx i (by omega)]
 ·rw[if_neg c];rw[Bool.not_eq_true] at c
  rw[c,Aw,A03 n l i m hl,A4]
def txt (l:List Tk) (i:Nat):List UInt8:=match l[i]? with | some t=>t.A7 | none=>[]
theorem Aew (n:Nat) (l:List Tk) (i:Nat) (m:Mp) (hl:l.length < 1000000):H0 (n+3) l (i:Int) 0 0 m=some (if isN l i=true then(txt l i,((i+1:Nat):Int),0,0) else([],(i:Int),El l i,Ba l i)):=by
 rw[H0,bne_self_eq_false,Aw,A03 n l i m hl]
 by_cases h:i < l.length
 ·have e1:IntKind.i64.wrap (IntKind.i64.wrap ((i:Int)+1) - 1)=(i:Int):=by rw[Bx i (by omega),Gw (by omega)];omega
  rw[B9 (by omega),Cp h,A4,e1,Cp h,Bx i (by omega)]
  have hn:isN l i=(l[i].At==1&&E0 l[i].A7):=by unfold isN;rw[Ao h]
  have ht:txt l i=l[i].A7:=by unfold txt;rw[Ao h]
  rw[hn,ht]
  by_cases h1:l[i].At=1
  ·rw[h1,bne_self_eq_false,Aw]
   simp only[A4,Dn,beq_self_eq_true,Bool.true_and]
   cases E0 l[i].A7<;>rfl
  ·rw[show(l[i].At != 1)=true by rw[bne_iff_ne];exact h1,show(l[i].At==1)=false by rw[beq_eq_false_iff_ne];exact h1];rfl
 ·rw[Ah (by omega)]
  have hn:isN l i=false:=by unfold isN;rw[List.getElem?_eq_none (by omega)]
  rw[hn];rfl
theorem Aff {T:Nat} {l:List Tk} (hk:Toks T l) {i n:Nat} (m:Mp) (hi:i≤l.length) (hn:12*l.length+T+800≤n):Gz n l (i:Int) 0 0 m=some (match exQ l i with | .ok x tu=>(x,(tu:Int),0,0) | .bad e a=>([],(i:Int),e,a)):=by
 obtain⟨r,hr,e⟩:=Wl hk hi
 obtain⟨n,rfl⟩:∃ j,n=j+3:=⟨n - 3,by omega⟩
 have hl:=hk.len
 rw[Gz,bne_self_eq_false,Aw,T3 hk.len hk.ok hk.txt hk.small hr hi (by omega),e,A4]
 rcases A84 hk.ok hr hi with ⟨e,a,h0,h1,h2⟩ | ⟨x,tu,h1,h3,h4,h5,h6,h7,h2⟩
 ·rw[h1,h2]
  dsimp only
  rw[show(e != 0)=true by rw[bne_iff_ne];exact h0];rfl
 ·rw[h1,h2]
  dsimp only
  rw[bne_self_eq_false,Aw,Akc h6 h5 h7 (by omega),A4]
  by_cases c:N2 x=true
  ·rw[if_pos c,c];rfl
  ·rw[if_neg c];rw[Bool.not_eq_true] at c
   have hlt:i < l.length:=by omega
   rw[c,Aw,A03 n l i m (by omega),A4]
   unfold El;rw[if_pos hlt]
structure Fs where
 reg:List UInt8
 loc:List UInt8
 e:List Nd
 f:List Nd
 ne:Bool
inductive FR where
 | ok (s:Fs) (i:Nat)
 | bad (e a:Int)
def Fg (l:List Tk) (ex:Nat→PR) (c:UInt8) (i:Nat) (s:Fs):FR :=
 if c.toNat=114 then(if isN l i=true then .ok { s with reg:=txt l i } (i+1) else .bad (El l i) (Ba l i))
 else if c.toNat=108 then(if isN l i=true then .ok { s with loc:=txt l i } (i+1) else .bad (El l i) (Ba l i))
 else if c.toNat=101 then(match ex i with | .ok x tu=>.ok { s with e:=x } tu | .bad e a=>.bad e a)
 else if c.toNat=102 then(match ex i with | .ok x tu=>.ok { s with f:=x } tu | .bad e a=>.bad e a)
 else if c.toNat=113 then(if Bl l i [33,61]=true then .ok { s with ne:=true } (i+1) else if Bl l i [61,61]=true then .ok { s with ne:=false } (i+1) else .bad (El l i) (Ba l i))
 else if Bl l i [c]=true then .ok s (i+1) else .bad (El l i) (Ba l i)
def Gd (l:List Tk) (ex:Nat→PR):List UInt8→Nat→Fs→FR
 | [],i,s=>.ok s i
 | c :: cs,i,s=>match Fg l ex c i s with
   | .ok s' j=>Gd l ex cs j s'
   | .bad e a=>.bad e a
def Ao3 (l:List Tk) (i:Nat):FR→Prop
 | .ok _ j=>i < j∧j≤l.length
 | .bad e _=>e≠0
def Aoh (l:List Tk) (i:Nat):FR→Prop
 | .ok _ j=>i≤j∧j≤l.length
 | .bad e _=>e≠0
theorem Dq {Q:FR→Prop} {c:Prop} [Decidable c] {a b:FR} (h1:c→Q a) (h2:¬ c→Q b):Q (if c then a else b):=by
 by_cases h:c
 ·rw[if_pos h];exact h1 h
 ·rw[if_neg h];exact h2 h
theorem U2 {T:Nat} {l:List Tk} (hk:Toks T l) {c:UInt8} {i:Nat} {s:Fs} (hi:i≤l.length):Ao3 l i (Fg l (exQ l) c i s):=by
 have hex:=Agh hk hi
 have h1:∀ s,Bl l i s=true→i < i+1∧i+1≤l.length:=fun s h=>by have:=De h;omega
 have h2:isN l i=true→i < i+1∧i+1≤l.length:=fun h=>by have:=Sb h;omega
 have he:=Ue l i
 unfold Fg
 refine Dq (fun _=>Dq h2 fun _=>he) fun _=>Dq (fun _=>Dq h2 fun _=>he) fun _=>Dq (fun _=>?_) fun _=>Dq (fun _=>?_) fun _=>Dq (fun _=>Dq (h1 _) fun _=>Dq (h1 _) fun _=>he) fun _=>Dq (h1 _) fun _=>he
 ·revert hex;cases exQ l i with
  | ok x tu=>intro h;exact⟨h.1,h.2.1⟩
  | bad e a=>intro h;exact h
 ·revert hex;cases exQ l i with
  | ok x tu=>intro h;exact⟨h.1,h.2.1⟩
  | bad e a=>intro h;exact h
theorem A0t {T:Nat} {l:List Tk} (hk:Toks T l):∀ (cs:List UInt8) (i:Nat) (s:Fs),i≤l.length→Aoh l i (Gd l (exQ l) cs i s)
 | [],i,s,hi=>⟨Nat.le_refl _,hi⟩
 | c :: cs,i,s,hi=>by
  have h:=U2 hk (c:=c) (s:=s) hi
  unfold Gd
  revert h
  cases Fg l (exQ l) c i s with
  | bad e a=>intro h;exact h
  | ok s' j =>
   intro h
   have:=A0t hk cs j s' h.2
   dsimp only
   revert this
   cases Gd l (exQ l) cs j s' with
   | ok s2 j2=>intro h2;exact⟨Nat.le_trans (Nat.le_of_lt h.1) h2.1,h2.2⟩
   | bad e a=>intro h2;exact h2
theorem Amb (pre cs:List UInt8) (c:UInt8) (h:pre.length < 1000000):List.drop ((pre.length:Int)).toNat (List.take (IntKind.i64.wrap ((pre.length:Int)+1)).toNat (pre++c :: cs))=[c]:=by
 rw[Bx pre.length (by omega)]
 rw[Int.toNat_natCast,Int.toNat_natCast,List.take_append,List.take_of_length_le (by omega),show pre.length+1 - pre.length=1 by omega,List.drop_append_of_le_length (by omega),List.drop_length]
 simp
theorem Amg (pre cs:List UInt8) (c:UInt8) (h:pre.length < 1000000):(decide (0≤IntKind.i64.wrap ((pre.length:Int)+1))&&decide (IntKind.i64.wrap ((pre.length:Int)+1)≤(((pre++c :: cs).length:Nat):Int))&&decide (0≤(pre.length:Int))&&decide ((pre.length:Int)≤IntKind.i64.wrap ((pre.length:Int)+1)))=true:=by
 rw[Bx pre.length (by omega)]
 simp only[A8,Bf,List.length_append,List.length_cons]
 omega
theorem Abi (pre cs:List UInt8) (c:UInt8):idx (pre++c :: cs) (pre.length:Int)=some c:=by rw[Ws];simp
theorem Zq (c:UInt8) (k:Nat) (K:Int) (hK:(k:Int)=K):decide ((c.toNat:Int)=K)=decide (c.toNat=k):=by
 subst hK
 by_cases h:c.toNat=k
 ·rw[h];simp
 ·rw[decide_eq_false h,decide_eq_false (by omega)]
theorem Aaq {l:List Tk} {n:Nat} (hn:5 < n) (m:Mp) (x4:Tk) (y5:Bh×Bool) (y8:Int) (i e a:Int) (he:e≠0) (s:Fs):∀ (cs pre:List UInt8) (k:Nat),y5.1.f_form=pre++cs→(pre++cs).length < 100→cs.length < k →
 Az n l m x4 y5 y8 k (pre.length:Int) i e a s.reg s.loc s.e s.f s.ne=some (.out (i,e,a,s.reg,s.loc,s.e,s.f,s.ne)):=by
 intro cs
 obtain⟨n,rfl⟩:∃ j,n=j+1:=⟨n - 1,by omega⟩
 have hb:(e==0)=false:=by rw[beq_eq_false_iff_ne];exact he
 induction cs with
 | nil =>
  intro pre k hf hlen hkk
  obtain⟨k,rfl⟩:∃ j,k=j+1:=⟨k - 1,by omega⟩
  rw[Az,hf,B9 (by simp)]
 | cons c cs ih =>
  intro pre k hf hlen hkk
  obtain⟨k,rfl⟩:∃ j,k=j+1:=⟨k - 1,by omega⟩
  have hp:pre.length < 1000000:=by simp at hlen;omega
  have go:=ih (pre++[c]) k (by simpa using hf) (by simpa using hlen) (by simp at hkk;omega)
  simp only[List.length_append,List.length_singleton] at go
  have hw:=Bx pre.length (show pre.length < 4611686018427387904 by omega)
  rw[Az,hf,Ah (show((pre.length:Nat):Int) < (((pre++c :: cs).length:Nat):Int) by simp;omega)]
  simp only[Abi,A4,hb,Aw,Amg pre cs c hp,Ac,Amb pre cs c hp,Pq _ _ _ _ _ _ _ he]
  simp only[hw,go]
  cases decide ((c.toNat:Int)=114)<;>cases decide ((c.toNat:Int)=108)<;>cases decide ((c.toNat:Int)=101)<;>cases decide ((c.toNat:Int)=102)<;>cases decide ((c.toNat:Int)=113)<;>rfl
theorem Aip {T:Nat} {l:List Tk} (hk:Toks T l) {n:Nat} (hn:12*l.length+T+900≤n) (m:Mp) (x4:Tk) (y5:Bh×Bool) (y8:Int):∀ (cs pre:List UInt8) (i k:Nat) (s:Fs),y5.1.f_form=pre++cs→i≤l.length→(pre++cs).length < 100→cs.length < k →
 match Gd l (exQ l) cs i s with
 | .ok s' j=>Az n l m x4 y5 y8 k (pre.length:Int) (i:Int) 0 0 s.reg s.loc s.e s.f s.ne=some (.out ((j:Int),0,0,s'.reg,s'.loc,s'.e,s'.f,s'.ne))
 | .bad e a=>∃ (i':Int) (s':Fs),Az n l m x4 y5 y8 k (pre.length:Int) (i:Int) 0 0 s.reg s.loc s.e s.f s.ne=some (.out (i',e,a,s'.reg,s'.loc,s'.e,s'.f,s'.ne)):=by
 intro cs
 induction cs with
 | nil =>
  intro pre i k s hf hi hlen hkk
  obtain⟨k,rfl⟩:∃ j,k=j+1:=⟨k - 1,by omega⟩
  rw[Gd,Az,hf,B9 (by simp)]
 | cons c cs ih =>
  intro pre i k s hf hi hlen hkk
  obtain⟨k,rfl⟩:∃ j,k=j+1:=⟨k - 1,by omega⟩
  obtain⟨n,rfl⟩:∃ j,n=j+5:=⟨n - 5,by omega⟩
  have hl:=hk.len
  have hp:pre.length < 1000000:=by simp at hlen;omega
  have hlen':(pre++[c]++cs).length < 100:=by simpa using hlen
  have hf':y5.1.f_form=pre++[c]++cs:=by simpa using hf
  have hkk':cs.length < k:=by simp at hkk;omega
  have go:∀ (j:Nat) (s':Fs),j≤l.length→match Gd l (exQ l) cs j s' with
   | .ok s2 j2=>Az (n+5) l m x4 y5 y8 k ((pre.length+1:Nat):Int) (j:Int) 0 0 s'.reg s'.loc s'.e s'.f s'.ne=some (.out ((j2:Int),0,0,s2.reg,s2.loc,s2.e,s2.f,s2.ne))
   | .bad e a=>∃ (i':Int) (s2:Fs),Az (n+5) l m x4 y5 y8 k ((pre.length+1:Nat):Int) (j:Int) 0 0 s'.reg s'.loc s'.e s'.f s'.ne=some (.out (i',e,a,s2.reg,s2.loc,s2.e,s2.f,s2.ne)):=fun j s' hj=>by
   have:=ih (pre++[c]) j k s' hf' hj hlen' hkk'
   simpa only [List.length_append,List.length_singleton] using this
  have stop:∀ (i' e a:Int) (s':Fs),e≠0→Az (n+5) l m x4 y5 y8 k ((pre.length+1:Nat):Int) i' e a s'.reg s'.loc s'.e s'.f s'.ne=some (.out (i',e,a,s'.reg,s'.loc,s'.e,s'.f,s'.ne)):=fun i' e a s' he=>by
   have:=Aaq (l:=l) (n:=n+5) (by omega) m x4 y5 y8 i' e a he s' cs (pre++[c]) k hf' hlen' hkk'
   simpa only [List.length_append,List.length_singleton] using this
  have hex:=Agh hk hi
  have hw:=Bx pre.length (show pre.length < 4611686018427387904 by omega)
  have hee:=Ue l i
  unfold Gd Fg
  rw[Az,hf,Ah (show((pre.length:Nat):Int) < (((pre++c :: cs).length:Nat):Int) by simp;omega)]
  simp only[Abi,A4,Zq c 114 114 rfl,Zq c 108 108 rfl,Zq c 101 101 rfl,Zq c 102 102 rfl,Zq c 113 113 rfl,beq_self_eq_true,Ac]
  by_cases c1:c.toNat=114
  ·simp only[if_pos c1,decide_eq_true c1,Ac,Ic,Aew (n+1) l i m (by omega),A4]
   by_cases h:isN l i=true
   ·simp only[if_pos h,hw]
    exact go (i+1) { s with reg:=txt l i } (Sb h)
   ·simp only[if_neg h,hw]
    exact⟨_,_,stop (i:Int) _ _ { s with reg:=[] } hee⟩
  ·rw[if_neg c1]
   simp only[decide_eq_false c1,Aw]
   by_cases c2:c.toNat=108
   ·simp only[if_pos c2,decide_eq_true c2,Ac,Ib,Aew (n+1) l i m (by omega),A4]
    by_cases h:isN l i=true
    ·simp only[if_pos h,hw]
     exact go (i+1) { s with loc:=txt l i } (Sb h)
    ·simp only[if_neg h,hw]
     exact⟨_,_,stop (i:Int) _ _ { s with loc:=[] } hee⟩
   ·rw[if_neg c2]
    simp only[decide_eq_false c2,Aw]
    by_cases c3:c.toNat=101
    ·simp only[if_pos c3,decide_eq_true c3,Ac,Ie,Aff hk m hi (show 12*l.length+T+800≤n+4 by omega),A4]
     revert hex
     cases exQ l i with
     | bad e a =>
      intro hex
      simp only[hw]
      exact⟨_,_,stop (i:Int) e a { s with e:=[] } hex⟩
     | ok y tu =>
      intro hex
      simp only[hw]
      exact go tu { s with e:=y } hex.2.1
    ·rw[if_neg c3]
     simp only[decide_eq_false c3,Aw]
     by_cases c4:c.toNat=102
     ·simp only[if_pos c4,decide_eq_true c4,Ac,Ig,Aff hk m hi (show 12*l.length+T+800≤n+4 by omega),A4]
      revert hex
      cases exQ l i with
      | bad e a =>
       intro hex
       simp only[hw]
       exact⟨_,_,stop (i:Int) e a { s with f:=[] } hex⟩
      | ok y tu =>
       intro hex
       simp only[hw]
       exact go tu { s with f:=y } hex.2.1
     ·rw[if_neg c4]
      simp only[decide_eq_false c4,Aw]
      by_cases c5:c.toNat=113
      ·simp only[if_pos c5,decide_eq_true c5,Ac,Ia,Yg,Sc (n+1) _ l i m (show l.length < 1000000 by omega),A4]
       by_cases h:Bl l i [33,61]=true
       ·have hlt:=De h
        rw[if_pos h,h,Ac,A4,Bx i (by omega),hw]
        exact go (i+1) { s with ne:=true } hlt
       ·rw[if_neg h];rw[Bool.not_eq_true] at h
        rw[h,Aw]
        by_cases h':Bl l i [61,61]=true
        ·have hlt:=De h'
         simp only[if_pos h',A4,hw]
         exact go (i+1) { s with ne:=false } hlt
        ·simp only[if_neg h',A4,hw]
         exact⟨_,_,stop (i:Int) _ _ { s with ne:=false } hee⟩
      ·rw[if_neg c5]
       simp only[decide_eq_false c5,Aw,Amg pre cs c hp,Amb pre cs c hp,Ac,Sc (n+2) _ l i m (show l.length < 1000000 by omega),A4]
       by_cases h:Bl l i [c]=true
       ·have hlt:=De h
        simp only[if_pos h,hw]
        exact go (i+1) s hlt
       ·simp only[if_neg h,hw]
        exact⟨_,_,stop (i:Int) _ _ s hee⟩
def Bu:Mp:=[([115,107,105,112],1),([115,101,116],2),([108,111,97,100],3),([115,116,111,114,101],4),([99,97,115],5),([102,97,100,100],6),([120,99,104,103],7),([102,101,110,99,101],8),([97,119,97,105,116],9),([105,102],10),([119,104,105,108,101],11),([108,111,111,112],12),([98,114,101,97,107],13)]
def A72 (s:List UInt8):Int:=B6 Bu s 0
def Aq (l:List Tk) (i:Nat):Int:=match l[i]? with
 | some t=>if t.At=1 then A72 t.A7 else 0
 | none=>0
def Cr (k:Int):List UInt8 :=
 if k=2 then [114,61,101,59] else if k=3 then [114,61,108,59] else if k=4 then [108,61,101,59] else if k=5 then [114,61,108,44,101,44,102,59]
 else if k=6 then [114,61,108,44,101,59] else if k=7 then [114,61,108,44,101,59] else if k=9 then [108,113,101,59] else if k=10 then [101] else if k=11 then [101] else if k=12 then [] else [59]
def Fa (k:Int):Bool:=k==10 || (k==11 || k==12)
theorem Ahj (s:List UInt8):0≤A72 s∧A72 s≤13:=by
 unfold A72 Bu
 simp only[B6]
 repeat' split
 all_goals omega
theorem A5f (l:List Tk) (i:Nat):0≤Aq l i∧Aq l i≤13:=by
 unfold Aq
 split
 ·split
  ·exact Ahj _
  ·omega
 ·omega
theorem C3 {l:List Tk} {i:Nat} (h:Aq l i≠0):i < l.length:=by
 unfold Aq at h
 cases hg:l[i]? with
 | none=>rw[hg] at h;exact absurd rfl h
 | some t=>exact Jw hg
theorem Mu {l:List Tk} {i:Nat} (h:Aq l i≠0) (s:List UInt8):Bl l i s=false:=by
 unfold Aq at h
 cases hg:l[i]? with
 | none=>rw[hg] at h;exact absurd rfl h
 | some t =>
  rw[hg] at h
  dsimp only at h
  by_cases hk:t.At=1
  ·simp[Bl,hg,hk]
  ·rw[if_neg hk] at h;exact absurd rfl h
theorem Ai2 (k:Int):(Cr k).length < 10:=by unfold Cr;repeat' split
                                           all_goals decide
inductive SR where
 | ok (x:List St) (tu:Nat)
 | bad (e a:Int)
def P9 (x:List St):SR→SR
 | .ok y tu=>.ok (x++y) tu
 | .bad e a=>.bad e a
def Kj (l:List Tk) (i:Nat):Bool:=match l[i]? with
 | some t=>t.At==1&&t.A7==[101,108,115,101]
 | none=>false
def fs0:Fs:=⟨[],[],[],[],false⟩
def mkS (k:Int) (s:Fs) (b c:Nat) (a:Int):St:=⟨k,s.reg,s.loc,s.e,s.f,s.ne,(b:Int),(c:Int),a⟩
inductive SE (l:List Tk):Bool→Nat→Nat→SR→Prop
 | stop {inn i:Nat}:(l.length≤i∨Bl l i [125]=true)→SE l false inn i (.ok [] i)
 | no {inn i:Nat}:i < l.length→Bl l i [125]=false→Aq l i=0→SE l false inn i (.bad 5 (Ba l i))
 | fbad {inn i:Nat} {e a:Int}:Aq l i≠0→Gd l (exQ l) (Cr (Aq l i)) (i+1) fs0=.bad e a→SE l false inn i (.bad e a)
 | simple {inn i j:Nat} {s:Fs} {r:SR}:Aq l i≠0→Fa (Aq l i)=false→Gd l (exQ l) (Cr (Aq l i)) (i+1) fs0=.ok s j→SE l false inn j r→SE l false inn i (P9 [mkS (Aq l i) s 0 0 (Ba l i)] r)
 | bbad {inn i j:Nat} {s:Fs} {e a:Int}:Aq l i≠0→Fa (Aq l i)=true→Gd l (exQ l) (Cr (Aq l i)) (i+1) fs0=.ok s j→SE l true inn j (.bad e a)→SE l false inn i (.bad e a)
 | blk {inn i j j2:Nat} {s:Fs} {b:List St} {r:SR}:Aq l i≠0→Fa (Aq l i)=true→Gd l (exQ l) (Cr (Aq l i)) (i+1) fs0=.ok s j→SE l true inn j (.ok b j2)→(Aq l i=10→Kj l j2=false)→SE l false inn j2 r→SE l false inn i (P9 (mkS (Aq l i) s b.length 0 (Ba l i) :: b) r)
 | ebad {inn i j j2:Nat} {s:Fs} {b:List St} {e a:Int}:Aq l i=10→Gd l (exQ l) (Cr (Aq l i)) (i+1) fs0=.ok s j→SE l true inn j (.ok b j2)→Kj l j2=true→SE l true inn (j2+1) (.bad e a)→SE l false inn i (.bad e a)
 | els {inn i j j2 j3:Nat} {s:Fs} {b c:List St} {r:SR}:Aq l i=10→Gd l (exQ l) (Cr (Aq l i)) (i+1) fs0=.ok s j→SE l true inn j (.ok b j2)→Kj l j2=true→SE l true inn (j2+1) (.ok c j3)→SE l false inn j3 r→SE l false inn i (P9 (mkS (Aq l i) s b.length c.length (Ba l i) :: (b++c)) r)
 | nob {inn i:Nat}:Bl l i [123]=false→SE l true inn i (.bad (El l i) (Ba l i))
 | deep {inn i:Nat}:Bl l i [123]=true→30≤inn→SE l true inn i (.bad 7 (Ba l i))
 | sbad {inn i:Nat} {e a:Int}:Bl l i [123]=true→inn < 30→SE l false (inn+1) (i+1) (.bad e a)→SE l true inn i (.bad e a)
 | close {inn i j:Nat} {x:List St}:Bl l i [123]=true→inn < 30→SE l false (inn+1) (i+1) (.ok x j)→Bl l j [125]=true→SE l true inn i (.ok x (j+1))
 | opn {inn i j:Nat} {x:List St}:Bl l i [123]=true→inn < 30→SE l false (inn+1) (i+1) (.ok x j)→Bl l j [125]=false→SE l true inn i (.bad (El l j) (Ba l j))
def J3 (l:List Tk) (i d:Nat):SR→Prop
 | .ok x tu=>i+d≤tu∧tu≤l.length∧x.length+d≤tu - i
 | .bad e _=>e≠0
theorem E2 {T:Nat} {l:List Tk} (hk:Toks T l) {cs:List UInt8} {i j:Nat} {s s':Fs} (hi:i≤l.length) (h:Gd l (exQ l) cs i s=.ok s' j):i≤j∧j≤l.length:=by
 have:=A0t hk cs i s hi
 rw[h] at this;exact this
theorem Hr {l:List Tk} {i:Nat} (h:Kj l i=true):i < l.length:=by
 unfold Kj at h
 cases hg:l[i]? with
 | none=>rw[hg] at h;cases h
 | some t=>exact Jw hg
theorem If {T:Nat} {l:List Tk} (hk:Toks T l) {md:Bool} {inn i:Nat} {r:SR} (h:SE l md inn i r):i≤l.length→J3 l i (if md then 1 else 0) r:=by
 induction h with
 | stop h=>intro hi;exact⟨by simp,hi,by simp⟩
 | no h1 h2 h3=>intro hi;show(5:Int)≠0;decide
 | @fbad inn i e a h1 h2 =>
  intro hi
  have:=A0t hk (Cr (Aq l i)) (i+1) fs0 (C3 h1)
  rw[h2] at this;exact this
 | @simple inn i j s r h1 h2 h3 h4 ih =>
  intro hi
  have h5:=E2 hk (C3 h1) h3
  have h6:=ih h5.2
  cases r with
  | ok x tu=>simp only[P9,J3,Bool.false_eq_true,if_false,List.length_append,List.length_singleton] at h6 ⊢;omega
  | bad e a=>exact h6
 | bbad h1 h2 h3 h4 ih=>intro hi;exact ih (E2 hk (C3 h1) h3).2
 | @blk inn i j j2 s b r h1 h2 h3 h4 h5 h6 ih1 ih2 =>
  intro hi
  have h7:=E2 hk (C3 h1) h3
  have h8:=ih1 h7.2
  simp only[J3,if_true] at h8
  have h9:=ih2 h8.2.1
  cases r with
  | ok x tu=>simp only[P9,J3,Bool.false_eq_true,if_false,List.length_append,List.length_cons] at h9 ⊢;omega
  | bad e a=>exact h9
 | @ebad inn i j j2 s b e a h1 h3 h4 h5 h6 ih1 ih2=>intro hi;exact ih2 (Hr h5)
 | @els inn i j j2 j3 s b c r h1 h3 h4 h5 h6 h7 ih1 ih2 ih3 =>
  intro hi
  have h10:Aq l i≠0:=by omega
  have h8:=E2 hk (C3 h10) h3
  have h9:=ih1 h8.2
  have h11:=ih2 (Hr h5)
  simp only[J3,if_true] at h9 h11
  have h12:=ih3 h11.2.1
  cases r with
  | ok x tu=>simp only[P9,J3,Bool.false_eq_true,if_false,List.length_append,List.length_cons] at h12 ⊢;omega
  | bad e a=>exact h12
 | nob h=>intro hi;exact Ue l _
 | deep h1 h2=>intro hi;show(7:Int)≠0;decide
 | sbad h1 h2 h3 ih=>intro hi;exact ih (De h1)
 | close h1 h2 h3 h4 ih=>intro hi;have:=ih (De h1);have:=De h4;simp only[J3,Bool.false_eq_true,if_false,if_true] at *;omega
 | opn h1 h2 h3 h4 ih=>intro hi;exact Ue l _
abbrev Adf:=List St×Int×Int×Int
end Go.Proofs.Ytnijlelbihnamaa
end
