/- Parts of the proofs: what they lean on. Conditions: none. -/
import Derived.Test.YtpnhafdimkmbbaaGreatProg
import Derived.Test.YtpnhafdimkmbbaaGreatLgtS11
section
namespace Go.Proofs.YtpnhafdimkmbbaaGreat
set_option linter.unusedVariables false
structure B9 where
 An:(List UInt8)
 Cu:Int
 A8:Int
 deriving DecidableEq,Inhabited
def Ai (x:B9):List AV:=[AV.str (x.An),AV.int .i64 (x.Cu),AV.int .i64 (x.A8)]
structure Aa where
 Bg:Int
 Cu:Int
 An:(List UInt8)
 Df:(List UInt8)
 A8:Int
 deriving DecidableEq,Inhabited
def Ak (x:Aa):List AV:=[AV.int .i64 (x.Bg),AV.int .i64 (x.Cu),AV.str (x.An),AV.str (x.Df),AV.int .i64 (x.A8)]
structure A0 where
 Ac:Int
 Ax:(List UInt8)
 Au:(List UInt8)
 B4:(List Aa)
 Bd:(List Aa)
 Bf:Bool
 Al:Int
 C4:Int
 A8:Int
 deriving DecidableEq,Inhabited
def Aj (x:A0):List AV:=[AV.int .i64 (x.Ac),AV.str (x.Ax),AV.str (x.Au),AV.sl 5 (List.map Ak (x.B4)),AV.sl 5 (List.map Ak (x.Bd)),AV.bool (x.Bf),AV.int .i64 (x.Al),AV.int .i64 (x.C4),AV.int .i64 (x.A8)]
structure Am where
 An:(List UInt8)
 B2:(List (List UInt8))
 Al:(List A0)
 A8:Int
 deriving DecidableEq,Inhabited
def Ab (x:Am):List AV:=[AV.str (x.An),AV.sl 1 (List.map Co (x.B2)),AV.sl 9 (List.map Aj (x.Al)),AV.int .i64 (x.A8)]
structure At where
 Ac:Int
 B4:(List Aa)
 A8:Int
 deriving DecidableEq,Inhabited
def Ae (x:At):List AV:=[AV.int .i64 (x.Ac),AV.sl 5 (List.map Ak (x.B4)),AV.int .i64 (x.A8)]
structure Be where
 Ay:Int
 Ao:(List B9)
 Ad:(List Am)
 Aq:(List At)
 deriving DecidableEq,Inhabited
def A4 (p:((List UInt8)×Int)):List AV:=[AV.str (p.1),AV.int .i64 (p.2)]
theorem B8 (l:List ((List UInt8)×Int)) (k:(List UInt8)) (z:Int):G1 (AV.int .i64 (z)) (List.map A4 l) (AV.str (k))=AV.int .i64 (C2 l k z):=A1p (ek:=fun x=>AV.str (x)) (ev:=fun x=>AV.int .i64 (x)) (c:=A4) (fun _=>rfl) V0 k z l
theorem Ph (l:List ((List UInt8)×Int)) (k:(List UInt8)) (v:Int):Jq (List.map A4 l) (AV.str (k)) (AV.int .i64 (v))=List.map A4 (Hn l k v):=A3r (ek:=fun x=>AV.str (x)) (ev:=fun x=>AV.int .i64 (x)) (c:=A4) (fun _=>rfl) V0 k v l
def A6 (p:((List UInt8)×(List ((List UInt8)×Int)))):List AV:=[AV.str (p.1),AV.mcl none (List.map A4 (p.2))]
theorem Jt (l:List ((List UInt8)×(List ((List UInt8)×Int)))) (k:(List UInt8)):G1 (AV.mcl none []) (List.map A6 l) (AV.str (k))=AV.mcl none (List.map A4 (C2 l k [])):=A1p (ek:=fun x=>AV.str (x)) (ev:=fun x=>AV.mcl none (List.map A4 (x))) (c:=A6) (fun _=>rfl) V0 k [] l
theorem Pm (l:List ((List UInt8)×(List ((List UInt8)×Int)))) (k:(List UInt8)):G7 (List.map A6 l) (AV.str (k))=Mg l k:=Abi (ek:=fun x=>AV.str (x)) (ev:=fun x=>AV.mcl none (List.map A4 (x))) (c:=A6) (fun _=>rfl) V0 k l
theorem Po (l:List ((List UInt8)×(List ((List UInt8)×Int)))) (k:(List UInt8)) (v:(List ((List UInt8)×Int))):Jq (List.map A6 l) (AV.str (k)) (AV.mcl none (List.map A4 (v)))=List.map A6 (Hn l k v):=A3r (ek:=fun x=>AV.str (x)) (ev:=fun x=>AV.mcl none (List.map A4 (x))) (c:=A6) (fun _=>rfl) V0 k v l
structure Av where
 Ac:Int
 Bt:(List UInt8)
 Cu:Int
 A8:Int
 deriving DecidableEq,Inhabited
def B0 (x:Av):List AV:=[AV.int .i64 (x.Ac),AV.str (x.Bt),AV.int .i64 (x.Cu),AV.int .i64 (x.A8)]
structure Bz where
 f_l:(List Aa)
 f_to:Int
 f_e:Int
 f_at:Int
 deriving DecidableEq,Inhabited
structure C3 where
 f_word:(List UInt8)
 f_form:(List UInt8)
 f_body:Bool
 f_more:Bool
 deriving DecidableEq,Inhabited
def Ab5 (x:C3):List AV:=[AV.str (x.f_word),AV.str (x.f_form),AV.bool (x.f_body),AV.bool (x.f_more)]
theorem ls:(∀ {α β:Type} {f:α→β} {l:List α},(l.map f).length=l.length)∧(∀ {α β:Type} (f:α→β) (l:List α),List.take l.length (List.map f l)=List.map f l)∧Program.cellsOf Tryz.prog 108=1∧Program.cellsOf Tryz.prog 45=3∧Program.cellsOf Tryz.prog 63=5∧Program.cellsOf Tryz.prog 59=9∧Program.cellsOf Tryz.prog 40=4∧Program.cellsOf Tryz.prog 81=4∧Program.cellsOf Tryz.prog 36=3∧Program.cellsOf Tryz.prog 3=1∧Program.cellsOf Tryz.prog 120=4∧Program.cellsOf Tryz.prog 9=1 :=
 ⟨List.length_map ..,Bu,by kernel_rfl,by kernel_rfl,by kernel_rfl,by kernel_rfl,by kernel_rfl,by kernel_rfl,by kernel_rfl,by kernel_rfl,by kernel_rfl,by kernel_rfl⟩
theorem lt:(∀ {α β:Type} (f:α→β) (l:List α),List.take l.length (List.map f l)=List.map f l)∧Program.cellsOf Tryz.prog 108=1∧Program.cellsOf Tryz.prog 45=3∧Program.cellsOf Tryz.prog 63=5∧Program.cellsOf Tryz.prog 59=9∧Program.cellsOf Tryz.prog 40=4∧Program.cellsOf Tryz.prog 81=4∧Program.cellsOf Tryz.prog 36=3∧Program.cellsOf Tryz.prog 3=1∧Program.cellsOf Tryz.prog 120=4∧Program.cellsOf Tryz.prog 9=1 :=
 ls.2
theorem cq {ρ:Type} {cont:Tm→Hp→Option ρ} {tm tm':Tm} {hp hp':Hp} {r:Option ρ} (h:cont tm' hp'=r) (h1:tm=tm':=by first | rfl | (simp only[ls]<;>rfl) | (simp only[ls,List.map_append,List.map_cons,List.map_nil,List.append_nil,List.length_set,Jj]<;>rfl)) (h2:hp=hp':=by first | rfl | (simp only[ls]<;>rfl) | (simp only[ls,List.map_append,List.map_cons,List.map_nil,List.append_nil,List.length_set,Jj]<;>rfl)):cont tm hp=r:=Akc h h1 h2
theorem kq {ρ:Type} {K:Ex→Tm→Hp→Option ρ} {e:Ex} {tm tm':Tm} {hp hp':Hp} {r:Option ρ} (h:K e tm' hp'=r) (h1:tm=tm':=by first | rfl | (simp only[ls]<;>rfl) | (simp only[ls,List.map_append,List.map_cons,List.map_nil,List.append_nil,List.length_set,Jj]<;>rfl)) (h2:hp=hp':=by first | rfl | (simp only[ls]<;>rfl) | (simp only[ls,List.map_append,List.map_cons,List.map_nil,List.append_nil,List.length_set,Jj]<;>rfl)):K e tm hp=r:=Ajj h h1 h2
theorem fq {ρ:Type} {x y z:Option ρ} (h:x=y:=by first | rfl | (simp only[Jj,List.length_set]<;>rfl) | (simp only[ls]<;>rfl)) (h2:y=z:=by first | rfl | (simp only[List.map_take,List.map_drop];done) | (simp only[List.map_take,List.map_drop]<;>rfl) | (simp only[ls,List.drop_zero,List.length_set,Jj]<;>rfl)):x=z:=h.trans h2
theorem c0:((0:Nat):Int)=0:=rfl
theorem rq {ρ:Type} {x z:Option ρ} (h:x=z:=by first | rfl | (simp only[ls]<;>rfl)):x=z:=h
abbrev iA (x:Int):AV:=.int .i64 x
abbrev bA (x:Bool):AV:=.bool x
abbrev sA (x:List UInt8):AV:=.str x
theorem sj {α:Type} {a r:α} (h:some a=some r):a=r:=Option.some.inj h
theorem lq {ρ σ τ ν:Type} {body:Tm→Hp→(Ex→Tm→Hp→Option ρ)→Option ρ} {keep:Nat→List Nat} {h0:Nat} {K:Ex→Tm→Hp→Option ρ} {r:Option ρ} (id:Nat) (tmOf:σ→(Nat→Nat)→Tm) (hpOf:σ→(Nat→Nat)→Hp) (tmX:τ→(Nat→Nat)→Tm) (hpX:τ→(Nat→Nat)→Hp) (encR:ν→ρ) (L:Nat→σ→Option (LR τ ν)) (hL:∀ s,L 0 s=none) (o:LR τ ν) (n:Nat) (s:σ) (a:Nat→Nat) {tm:Tm} {hp:Hp} (h:L n s=some o)
 (hround:∀ (k:Nat) (s:σ) (a:Nat→Nat) (K':Ex→Tm→Hp→Option ρ) (cont:Tm→Hp→Option ρ),(∀ tm hp,K' .ret tm hp=K .ret tm hp)→(∀ s' a',L k s'=some o→cont (tmOf s' a') (hpOf s' a')=r)→L (k+1) s=some o→Aab K' id tmX hpX encR r o →
  H7 force (fun tm=>Cw (fun hp=>body tm hp (fun e tm hp=>H7 force (fun tm=>Cw (fun hp=>match e with
   | .normal=>cont tm hp
   | .exit id=>K' (.exit id) tm hp
   | .ret=>K' .ret tm hp) (Hm h0 hp)) (V2 (keep (A1z e)) h0 hp 0 tm))) (hpOf s a)) (tmOf s a)=r)
 (hx:Aab K id tmX hpX encR r o)
 (h1:tm=tmOf s a:=by first | rfl | (simp only[ls]<;>rfl) | (simp only[ls,List.map_append,List.map_cons,List.map_nil,List.append_nil,List.length_set,Jj]<;>rfl)) (h2:hp=hpOf s a:=by first | rfl | (simp only[ls]<;>rfl) | (simp only[ls,List.map_append,List.map_cons,List.map_nil,List.append_nil,List.length_set,Jj]<;>rfl)):rounds body keep h0 n tm hp K=r :=
 Acn id tmOf hpOf tmX hpX encR L hL o hround n s a tm hp h hx h1 h2
theorem lrc {ρ τ ν:Type} {K:Ex→Tm→Hp→Option ρ} {id:Nat} {tmX:τ→(Nat→Nat)→Tm} {hpX:τ→(Nat→Nat)→Hp} {encR:ν→ρ} {r:Option ρ} {o:LR τ ν} (h1:∀ v,o=.ret v→r=some (encR v)) (h2:∀ t a,o=.out t→K (.exit id) (tmX t a) (hpX t a)=r):Aab K id tmX hpX encR r o:=by
 cases o with
 | out t=>exact fun a=>h2 t a rfl
 | ret v=>exact h1 v rfl
theorem Ada {α:Type} {c:Bool} {a:Option α} {r:α} {G:Prop} (h1:c=true→a=some r→G):(bif c then a else none)=some r→G:=fun h=>Fz h h1
theorem br {α ρ:Type} {c:Bool} {a b:Option α} {r:α} {L L1 L2 R:ρ} (k1:a=some r→L1=R) (k2:b=some r→L2=R) (w1:c=true→L=L1:=by(intro hc;simp only[hc,ls];(conv=>lhs;whnf);try exact rfl)) (w2:c=false→L=L2:=by(intro hc;simp only[hc,ls];(conv=>lhs;whnf);try exact rfl)):(bif c then a else b)=some r→L=R:=by
 cases c
 ·exact fun h=>(w2 rfl).trans (k2 h)
 ·exact fun h=>(w1 rfl).trans (k1 h)
theorem cp {α ρ:Type} {c:Bool} {a:Option α} {r:α} {L L1 R:ρ} (k1:a=some r→L1=R) (w1:c=true→∀ q,L1=q→L=q:=by(intro hc q hq;refine Cp hc ?_;(try simp only[ls]);(conv=>lhs;whnf);exact hq)):(bif c then a else none)=some r→L=R:=Ada fun hc h=>w1 hc _ (k1 h)
theorem sl {α:Type} (f:α→List AV) (l:List α) (i j:Nat):List.drop i (List.take j (List.map f l))=List.map f (List.drop i (List.take j l)):=by rw[List.map_drop,List.map_take]
theorem cs {α ρ:Type} {c:Bool} {a:Option α} {r:α} {E:Prop} {L L1 R:ρ} (e:E) (k1:a=some r→L1=R) (w1:c=true→E→∀ q,L1=q→L=q:=by(intro hc he q hq;(try simp only[ls]);refine Cp hc ?_;simp only[he,ls];(conv=>lhs;whnf);exact hq)):(bif c then a else none)=some r→L=R:=Ada fun hc h=>w1 hc e _ (k1 h)
theorem ixs {β ρ:Type} {l:List UInt8} {i:Int} {g:UInt8→Option β} {r:β} {L:ρ} {L1:UInt8→ρ} {R:ρ} (k:∀ x,g x=some r→L1 x=R) (w:∀ x,idx l i=some x→∀ q,L1 x=q→L=q:=by(intro x hx q hq;refine Cp (I9 hx) ?_;simp only[Ajw hx,ls];(conv=>lhs;whnf);exact hq)):(idx l i).bind g=some r→L=R:=fun h=>B1 h fun x hx h2=>w x hx _ (k x h2)
theorem ix {α β ρ:Type} {l:List α} {i:Int} {g:α→Option β} {r:β} {L:ρ} {L1:α→ρ} {R:ρ} (k:∀ x,g x=some r→L1 x=R) (w:∀ x,idx l i=some x→∀ q,L1 x=q→L=q:=by(intro x hx q hq;refine Cp (by first | exact I9 hx | exact Ui hx | (have z:=I9 hx;simp only[ls] at z ⊢;exact z)) ?_;simp only[No hx,ls];(conv=>lhs;whnf);exact hq)):(idx l i).bind g=some r→L=R:=fun h=>B1 h fun x hx h2=>w x hx _ (k x h2)
theorem ca {α β ρ:Type} {P:Program} {H:C5} {X:Ext} {call:Dw} {n:Nat} {m:Option α} {g:α→Option β} {r:β} {f:FuncId} {a:List AV} {p:Hp} {v:α→Option (AV×Hp)} {L:ρ} {L1:α→ρ} {R:ρ} (hc:∀ g l h,call false g l h=M3 P H X n g l h) (hk:∀ y,m=some y→M3 P H X n f a p=v y) (k:∀ y,g y=some r→L1 y=R) (w:∀ y,call false f a p=v y→L=L1 y:=by(intro y hk;(first | simp only[hk] | rewrite[hk] | (simp only[ls];simp only[hk]));(conv=>lhs;whnf);try exact rfl)):m.bind g=some r→L=R:=fun h=>B1 h fun y hy h2=>(w y ((hc _ _ _).trans (hk y hy))).trans (k y h2)
theorem tw {α β ρ:Type} {P:Program} {H:C5} {X:Ext} {call:Dw} {n:Nat} {m:Option α} {g:α→Option β} {r:β} {f:FuncId} {a:List AV} {v v':α→Option (AV×Hp)} {L:ρ} {L1:α→ρ} {R:ρ} (hc:∀ g l h,call false g l h=M3 P H X n g l h) (hk:∀ y,m=some y→M3 P H X n f a []=v y) (ht:∀ y,call false f a []=v y→Ue P true call f a=v' y) (k:∀ y,g y=some r→L1 y=R) (w:∀ y,(∀ b,b=true→Ue P b call f a=v' y)→L=L1 y:=by(intro y hk;(try simp only[ls]);(rewrite[hk];rotate_left;(first | rfl | kernel_rfl));(try simp only[ls]);(conv=>lhs;whnf);try exact rfl)):m.bind g=some r→L=R:=fun h=>B1 h fun y hy h2=>(w y (fun b hb=>by subst hb;exact ht y ((hc _ _ _).trans (hk y hy)))).trans (k y h2)
theorem nb {γ α ρ:Type} {l:List γ} {a b:Option α} {r:α} {L L1 L2 R:ρ} (k1:a=some r→L1=R) (k2:b=some r→L2=R) (w1:l=[]→L=L1:=by(intro hc;simp only[hc,ls,List.map_nil];(conv=>lhs;whnf);try exact rfl)) (w2:decide (l.length=0)=false→L=L2:=by(intro hc;simp only[hc,ls];(conv=>lhs;whnf);try exact rfl)):(bif decide (l.length=0) then a else b)=some r→L=R:=by
 by_cases h:l.length=0
 ·rw[decide_eq_true h];exact fun e=>(w1 (List.eq_nil_of_length_eq_zero h)).trans (k1 e)
 ·rw[decide_eq_false h];exact fun e=>(w2 (decide_eq_false h)).trans (k2 e)
theorem rj {α β ρ:Type} {m:Option α} {k:α→Option β} {r:β} {run:(Tm→Hp→Option ρ)→Option ρ} {K:Tm→Hp→Option ρ} {R:Option ρ} (T:α→Tm) (hp:α→Hp) (h1:∀ (K:Tm→Hp→Option ρ) b,m=some b→run K=K (T b) (hp b)) (h2:∀ b,k b=some r→K (T b) (hp b)=R):m.bind k=some r→A24 run K=R:=fun h=>B1 h fun b hb hk=>(A8r run K).trans ((h1 K b hb).trans (h2 b hk))
theorem cr {α β ρ:Type} {P:Program} {H:C5} {X:Ext} {call:Dw} {n:Nat} {m:Option α} {g:α→Option β} {r:β} {f:FuncId} {a:List AV} {p:Hp} {v:α→Option (AV×Hp)} {L:ρ} {L1:α→ρ} {R:ρ} (hc:∀ g l h,call false g l h=M3 P H X n g l h) (hk:∀ y,m=some y→M3 P H X n f a p=v y) (k:∀ y,g y=some r→L1 y=R) (w:∀ y,call false f a p=v y→L=L1 y:=by(intro y hk;(try simp only[List.length_nil,List.map_nil,List.drop_zero] at hk);(try simp only[List.length_nil,List.map_nil]);(try simp only[List.drop_zero,ls]);(first | simp only[hk] | rewrite[hk]);(try simp only[ls]);(conv=>lhs;whnf);try exact rfl)):m.bind g=some r→L=R:=ca hc hk k w
theorem ap {α:Type} (f:α→List AV) (a:List (List AV)) (l:List α) (y:List (List AV)) (m:List α) (ha:a=List.map f l:=by rfl) (hy:y=List.map f m:=by rfl):a++y=List.map f (l++m)∧a.length+y.length=(l++m).length∧l.length+y.length=(l++m).length∧l.length+m.length=(l++m).length∧a.length+m.length=(l++m).length:=by
 subst ha;subst hy;simp
theorem ar {α ρ:Type} {c:Bool} {a:Option α} {r:α} {E:Prop} {L L1 R:ρ} (e:E) (k1:a=some r→L1=R) (w1:c=true→E→∀ q,L1=q→L=q:=by(intro hc he q hq;(first | refine Cp (J7 hc (by first | rfl | simp only[List.length_map]) (by first | rfl | simp only[List.length_map]) (by first | rfl | simp only[List.length_map,Bu]) (by kernel_rfl)) ?_ | refine Cp (Hz hc (by first | rfl | simp only[List.length_map]) (by first | rfl | simp only[List.length_map,Bu]) (by kernel_rfl)) ?_ | skip);(try simp only[lt]);(try simp only[he]);(try simp only[ls,c0]);(try simp only[he]);(try simp only[ls]);(conv=>lhs;whnf);exact hq)):(bif c then a else none)=some r→L=R:=Ada fun hc h=>w1 hc e _ (k1 h)
theorem rz {α ρ:Type} {a r:α} {L R:ρ} (k:a=r→L=R:=by(intro e;cases e;first | rfl | (simp only[ls]<;>rfl))):some a=some r→L=R:=fun h=>k (sj h)
end Go.Proofs.YtpnhafdimkmbbaaGreat
end
section
namespace Go.Proofs.YtpnhafdimkmbbaaGreat
set_option linter.unusedVariables false
set_option linter.unusedSimpArgs false
theorem Am6 {a b:List UInt8} (h:bs a=bs b):a=b:=by
 have:=congrArg (fun x:ByteArray=>x.data.toList) h
 simpa [bs] using this
def Agg:Rd (List UInt8):=Amd
theorem Afg:Acj Tryz.prog 9 Agg:=Af1 Tryz.underlying9 (by kernel_rfl)
end Go.Proofs.YtpnhafdimkmbbaaGreat
end
section
namespace Go.Proofs.YtpnhafdimkmbbaaGreat
set_option linter.unusedVariables false
set_option linter.unusedSimpArgs false
set_option maxRecDepth 100000
set_option maxHeartbeats 4000000
noncomputable abbrev CN:=M3 Tryz.prog HH XT
def Ig (n:Nat)  (Bs:(List UInt8)):Nat→Int→Option (LR Int Int)
 | 0,_=>none
 | k22+1,s21=>(bif decide (s21<((Bs.length:Nat):Int)) then((idx Bs s21).bind fun x31=>(bif ((x31.toNat:Int) != 10) then(Ig n Bs k22 (IntKind.i64.wrap (s21+1))) else(some (.out s21)))) else(some (.out s21)))
def E4 (n:Nat)  (Bs:(List UInt8)):Nat→Int→Option (LR Int Int)
 | 0,_=>none
 | k2+1,s1=>(bif decide (s1<((Bs.length:Nat):Int)) then((idx Bs s1).bind fun x11=>(bif ((x11.toNat:Int)==32) then(E4 n Bs k2 (IntKind.i64.wrap (s1+1))) else((idx Bs s1).bind fun x13=>(bif ((x13.toNat:Int)==9) then(E4 n Bs k2 (IntKind.i64.wrap (s1+1))) else((idx Bs s1).bind fun x15=>(bif ((x15.toNat:Int)==10) then(E4 n Bs k2 (IntKind.i64.wrap (s1+1))) else((idx Bs s1).bind fun x17=>(bif ((x17.toNat:Int)==13) then(E4 n Bs k2 (IntKind.i64.wrap (s1+1))) else((idx Bs s1).bind fun x19=>(bif ((x19.toNat:Int)==35) then((Ig n Bs n s1).bind fun o29=>match o29 with|.out x34=>(E4 n Bs k2 x34)|.ret v=>some (.ret v)) else(some (.ret s1)))))))))))) else(some (.out s1)))
def Nm:Nat→(List UInt8)→Int→Option Int
 | 0,_,_=>none
 | n+1,Bs,Cj=>((E4 n Bs n Cj).bind fun o9=>match o9 with|.out x37=>(some x37)|.ret v=>some v)
def Jz:Nat→Int→Option Bool
 | 0,_=>none
 | n+1,Gg=>(bif decide (48≤Gg) then(some (decide (Gg≤57))) else(some false))
def J5:Nat→Int→Option Bool
 | 0,_=>none
 | n+1,Gg=>(bif decide (97≤Gg) then(bif decide (Gg≤122) then(some true) else(bif decide (65≤Gg) then(bif decide (Gg≤90) then(some true) else(some (Gg==95))) else(some (Gg==95)))) else(bif decide (65≤Gg) then(bif decide (Gg≤90) then(some true) else(some (Gg==95))) else(some (Gg==95))))
def Qd:Nat→Option (List (List UInt8))
 | 0=>none
 | n+1=>(some ([([61,61]:List UInt8),([33,61]:List UInt8),([60,61]:List UInt8),([38,38]:List UInt8),([124,124]:List UInt8),([59]:List UInt8),([44]:List UInt8),([123]:List UInt8),([125]:List UInt8),([40]:List UInt8),([41]:List UInt8),([46]:List UInt8),([61]:List UInt8),([43]:List UInt8),([45]:List UInt8),([42]:List UInt8),([33]:List UInt8),([60]:List UInt8)]:List (List UInt8)))
def Ga (n:Nat)  (Bs:(List UInt8)) (Cj:Int):Nat→Int→Option (LR Int (Av×Int))
 | 0,_=>none
 | k2+1,s1=>(bif decide (s1<((Bs.length:Nat):Int)) then((idx Bs s1).bind fun x11=>((J5 n (x11.toNat:Int)).bind fun y12=>(bif y12 then(Ga n Bs Cj k2 (IntKind.i64.wrap (s1+1))) else(bif decide (Cj<s1) then((idx Bs s1).bind fun x16=>((Jz n (x16.toNat:Int)).bind fun y17=>(bif y17 then(Ga n Bs Cj k2 (IntKind.i64.wrap (s1+1))) else(some (.out s1))))) else(some (.out s1)))))) else(some (.out s1)))
def Ie (n:Nat)  (Bs:(List UInt8)):Nat→Int→Int→Option (LR (Int×Int) (Av×Int))
 | 0,_,_=>none
 | k27+1,s25,s26=>(bif decide (s25<((Bs.length:Nat):Int)) then((idx Bs s25).bind fun x36=>((Jz n (x36.toNat:Int)).bind fun y37=>(bif y37 then((idx Bs s25).bind fun x40=>(Ie n Bs k27 (IntKind.i64.wrap (s25+1)) (if 10000<(IntKind.i64.wrap ((IntKind.i64.wrap (10*s26))+(IntKind.i64.wrap (IntKind.u8.wrap ((x40.toNat:Int) - 48))))) then 10000 else(IntKind.i64.wrap ((IntKind.i64.wrap (10*s26))+(IntKind.i64.wrap (IntKind.u8.wrap ((x40.toNat:Int) - 48)))))))) else(some (.out (s25,s26)))))) else(some (.out (s25,s26))))
def Hl (n:Nat)  (Bs:(List UInt8)) (Cj:Int) (y47:(List (List UInt8))):Nat→Int→Option (LR Unit (Av×Int))
 | 0,_=>none
 | k50+1,s49=>(bif decide (s49<((y47.length:Nat):Int)) then((idx y47 s49).bind fun x59=>(bif decide ((IntKind.i64.wrap (Cj+((x59.length:Nat):Int)))≤((Bs.length:Nat):Int)) then(bif (decide (0≤(IntKind.i64.wrap (Cj+((x59.length:Nat):Int))))&&decide ((IntKind.i64.wrap (Cj+((x59.length:Nat):Int)))≤((Bs.length:Nat):Int))&&decide (0≤Cj)&&decide (Cj≤(IntKind.i64.wrap (Cj+((x59.length:Nat):Int))))) then((idx y47 s49).bind fun x62=>(bif ((List.drop (Cj.toNat) (List.take ((IntKind.i64.wrap (Cj+((x59.length:Nat):Int))).toNat) Bs))==x62) then((idx y47 s49).bind fun x64=>(some (.ret ((⟨3,x64,0,Cj⟩:Av),0)))) else(Hl n Bs Cj y47 k50 (IntKind.i64.wrap (s49+1))))) else none) else(Hl n Bs Cj y47 k50 (IntKind.i64.wrap (s49+1))))) else(some (.out ())))
def Q1:Nat→(List UInt8)→Int→Option (Av×Int)
 | 0,_,_=>none
 | n+1,Bs,Cj=>((Ga n Bs Cj n Cj).bind fun o9=>match o9 with|.out x21=>(bif decide (Cj<x21) then(bif decide (16<(IntKind.i64.wrap (x21 - Cj))) then(some ((⟨0,([]:List UInt8),0,0⟩:Av),2)) else(bif (decide (0≤x21)&&decide (x21≤((Bs.length:Nat):Int))&&decide (0≤Cj)&&decide (Cj≤x21)) then(some ((⟨1,(List.drop (Cj.toNat) (List.take (x21.toNat) Bs)),0,Cj⟩:Av),0)) else none)) else((Ie n Bs n x21 0).bind fun o34=>match o34 with|.out (x42,x43)=>(bif decide (Cj<x42) then(bif decide (9999<x43) then(some ((⟨0,([]:List UInt8),0,0⟩:Av),4)) else(bif (decide (0≤x42)&&decide (x42≤((Bs.length:Nat):Int))&&decide (0≤Cj)&&decide (Cj≤x42)) then(some ((⟨2,(List.drop (Cj.toNat) (List.take (x42.toNat) Bs)),x43,Cj⟩:Av),0)) else none)) else((Qd n ).bind fun y47=>((Hl n Bs Cj y47 n 0).bind fun o57=>match o57 with|.out _=>(some ((⟨0,([]:List UInt8),0,0⟩:Av),3))|.ret v=>some v)))|.ret v=>some v))|.ret v=>some v)
def Gk (n:Nat)  (Bs:(List UInt8)):Nat→Int→(List Av)→Option (LR (List Av) ((List Av)×Int×Int))
 | 0,_,_=>none
 | k6+1,s4,s5=>(bif decide (s4<((Bs.length:Nat):Int)) then((Q1 n Bs s4).bind fun y15=>(bif (y15.2 != 0) then(some (.ret (([]:List Av),y15.2,s4))) else(bif decide ((s5.length+1)*41≤140737488355328) then((Nm n Bs (IntKind.i64.wrap (s4+((y15.1.Bt.length:Nat):Int)))).bind fun y20=>(Gk n Bs k6 y20 (s5++([y15.1]:List Av)))) else none))) else(some (.out s5)))
def Oi:Nat→(List UInt8)→Option ((List Av)×Int×Int)
 | 0,_=>none
 | n+1,Bs=>(bif decide (20000<((Bs.length:Nat):Int)) then(some (([]:List Av),2,20000)) else((Nm n Bs 0).bind fun y2=>((Gk n Bs n y2 ([]:List Av)).bind fun o13=>match o13 with|.out x23=>(some (x23,0,0))|.ret v=>some v)))
def Qb:Nat→Option (List (List UInt8))
 | 0=>none
 | n+1=>(some ([([109,111,100]:List UInt8),([108,111,99]:List UInt8),([116,104,114,101,97,100]:List UInt8),([114,101,103]:List UInt8),([115,107,105,112]:List UInt8),([115,101,116]:List UInt8),([108,111,97,100]:List UInt8),([115,116,111,114,101]:List UInt8),([99,97,115]:List UInt8),([102,97,100,100]:List UInt8),([120,99,104,103]:List UInt8),([102,101,110,99,101]:List UInt8),([97,119,97,105,116]:List UInt8),([105,102]:List UInt8),([101,108,115,101]:List UInt8),([119,104,105,108,101]:List UInt8),([108,111,111,112]:List UInt8),([98,114,101,97,107]:List UInt8),([102,111,114,97,108,108]:List UInt8),([101,120,105,115,116,115]:List UInt8),([97,108,119,97,121,115]:List UInt8)]:List (List UInt8)))
def Ek (n:Nat)  (Bs:(List UInt8)) (y1:(List (List UInt8))):Nat→Int→Option (LR Unit Bool)
 | 0,_=>none
 | k4+1,s3=>(bif decide (s3<((y1.length:Nat):Int)) then((idx y1 s3).bind fun x13=>(bif (x13==Bs) then(some (.ret true)) else(Ek n Bs y1 k4 (IntKind.i64.wrap (s3+1))))) else(some (.out ())))
def Lt:Nat→(List UInt8)→Option Bool
 | 0,_=>none
 | n+1,Bs=>((Qb n ).bind fun y1=>((Ek n Bs y1 n 0).bind fun o11=>match o11 with|.out _=>(some false)|.ret v=>some v))
def Gj (n:Nat)  (Bs:(List UInt8)):Nat→Int→Option (LR Unit Bool)
 | 0,_=>none
 | k11+1,s10=>(bif decide (s10<((Bs.length:Nat):Int)) then((idx Bs s10).bind fun x20=>((J5 n (x20.toNat:Int)).bind fun y21=>(bif y21 then(Gj n Bs k11 (IntKind.i64.wrap (s10+1))) else((idx Bs s10).bind fun x24=>((Jz n (x24.toNat:Int)).bind fun y25=>(bif y25 then(Gj n Bs k11 (IntKind.i64.wrap (s10+1))) else(some (.ret false)))))))) else(some (.out ())))
def D0:Nat→(List UInt8)→Option Bool
 | 0,_=>none
 | n+1,Bs=>(bif decide (((Bs.length:Nat):Int)<1) then(some false) else(bif decide (16<((Bs.length:Nat):Int)) then(some false) else((idx Bs 0).bind fun x3=>((J5 n (x3.toNat:Int)).bind fun y4=>(bif y4 then((Lt n Bs).bind fun y7=>(bif y7 then(some false) else((Gj n Bs n 0).bind fun o18=>match o18 with|.out _=>(some true)|.ret v=>some v))) else(some false))))))
def Ku:Nat→Int→Option Int
 | 0,_=>none
 | n+1,G3=>(bif decide (1≤G3) then(bif decide (G3≤4) then(some 0) else(bif (G3==5) then(some 1) else(bif decide (6≤G3) then(bif decide (G3≤14) then(some 2) else(some (-1))) else(some (-1))))) else(bif (G3==5) then(some 1) else(bif decide (6≤G3) then(bif decide (G3≤14) then(some 2) else(some (-1))) else(some (-1)))))
def Hj (n:Nat)  (A7:(List Aa)):Nat→Int→Int→Option (LR Unit Int)
 | 0,_,_=>none
 | k4+1,s2,s3=>(bif decide (s3<((A7.length:Nat):Int)) then((idx A7 s3).bind fun x13=>((Ku n x13.Bg).bind fun y14=>(bif decide (y14<0) then(some (.ret (-1))) else(bif ((IntKind.i64.wrap ((IntKind.i64.wrap (s2 - 1))+y14))==0) then(some (.ret (IntKind.i64.wrap (s3+1)))) else(Hj n A7 k4 (IntKind.i64.wrap ((IntKind.i64.wrap (s2 - 1))+y14)) (IntKind.i64.wrap (s3+1))))))) else(some (.out ())))
def Nl:Nat→(List Aa)→Int→Option Int
 | 0,_,_=>none
 | n+1,A7,B7=>(bif decide (B7<0) then(some (-1)) else((Hj n A7 n 1 B7).bind fun o11=>match o11 with|.out _=>(some (-1))|.ret v=>some v))
def Fj (n:Nat) (rec_ref02_deep:(List Aa)→Int→Option Int) (A7:(List Aa)) (B7:Int):Nat→Int→Int→Int→Option (LR Int Int)
 | 0,_,_,_=>none
 | k4+1,s1,s2,s3=>((idx A7 B7).bind fun x12=>((Ku n x12.Bg).bind fun y13=>(bif decide (s3<y13) then((rec_ref02_deep A7 s2).bind fun y16=>((Nl n A7 s2).bind fun y18=>(Fj n rec_ref02_deep A7 B7 k4 (if s1<(IntKind.i64.wrap (1+y16)) then(IntKind.i64.wrap (1+y16)) else s1) y18 (IntKind.i64.wrap (s3+1))))) else(some (.out s1)))))
def F1:Nat→(List Aa)→Int→Option Int
 | 0,_,_=>none
 | n+1,A7,B7=>((Fj n (F1 n) A7 B7 n 0 (IntKind.i64.wrap (B7+1)) 0).bind fun o11=>match o11 with|.out x21=>(some x21)|.ret v=>some v)
def Gp:Nat→Option (List (List Int))
 | 0=>none
 | n+1=>(some ([([14]:List Int),([13]:List Int),([9,10,11,12]:List Int),([6,7]:List Int),([8]:List Int)]:List (List Int)))
def Cv:Nat→(List Av)→Int→(List UInt8)→Option Bool
 | 0,_,_,_=>none
 | n+1,A7,B7,A0b=>(bif decide (B7<((A7.length:Nat):Int)) then((idx A7 B7).bind fun x2=>(bif (x2.Ac==3) then((idx A7 B7).bind fun x4=>(some (x4.Bt==A0b))) else(some false))) else(some false))
def Ht:Nat→(List Av)→Int→Option Int
 | 0,_,_=>none
 | n+1,A7,B7=>(bif decide (B7<((A7.length:Nat):Int)) then((idx A7 B7).bind fun x2=>(some x2.A8)) else(bif (((A7.length:Nat):Int)==0) then(some 0) else((idx A7 (IntKind.i64.wrap (((A7.length:Nat):Int) - 1))).bind fun x4=>((idx A7 (IntKind.i64.wrap (((A7.length:Nat):Int) - 1))).bind fun x5=>(some (IntKind.i64.wrap (x4.A8+((x5.Bt.length:Nat):Int))))))))
def Cr:Nat→(List Av)→Int→Option Bz
 | 0,_,_=>none
 | n+1,A7,B7=>(bif decide (((A7.length:Nat):Int)≤B7) then((Ht n A7 B7).bind fun y2=>(some (⟨([]:List Aa),0,6,y2⟩:Bz))) else((Ht n A7 B7).bind fun y4=>(some (⟨([]:List Aa),0,5,y4⟩:Bz))))
def Rz:Nat→Int→Option (List UInt8)
 | 0,_=>none
 | n+1,G3=>((idx ([([33]:List UInt8),([43]:List UInt8),([45]:List UInt8),([42]:List UInt8),([61,61]:List UInt8),([33,61]:List UInt8),([60]:List UInt8),([60,61]:List UInt8),([38,38]:List UInt8),([124,124]:List UInt8)]:List (List UInt8)) (IntKind.i64.wrap (G3 - 5))).bind fun x1=>(some x1))
def I6 (n:Nat)  (A7:(List Av)) (B7:Int) (Ni:(List Int)):Nat→Int→Option (LR Unit Int)
 | 0,_=>none
 | k2+1,s1=>(bif decide (s1<((Ni.length:Nat):Int)) then((idx Ni s1).bind fun x11=>((Rz n x11).bind fun y12=>((Cv n A7 B7 y12).bind fun y14=>(bif y14 then((idx Ni s1).bind fun x17=>(some (.ret x17))) else(I6 n A7 B7 Ni k2 (IntKind.i64.wrap (s1+1))))))) else(some (.out ())))
def N4:Nat→(List Av)→Int→(List Int)→Option Int
 | 0,_,_,_=>none
 | n+1,A7,B7,Ni=>((I6 n A7 B7 Ni n 0).bind fun o9=>match o9 with|.out _=>(some 0)|.ret v=>some v)
def F3 (n:Nat) (rec_ref02_floor:(List Av)→Int→Int→Int→Option Bz) (A7:(List Av)) (Cx:Int) (Qt:Int):Nat→(List Aa)→Int→Int→Int→Option (LR ((List Aa)×Int×Int×Int) Bz)
 | 0,_,_,_,_=>none
 | k10+1,s6,s7,s8,s9=>(bif (s8==0) then((Gp n ).bind fun y19=>((idx y19 Qt).bind fun x21=>((N4 n A7 s7 x21).bind fun y22=>(bif (y22==0) then(some (.ret (⟨s6,s7,s8,s9⟩:Bz))) else((rec_ref02_floor A7 (IntKind.i64.wrap (s7+1)) Cx (IntKind.i64.wrap (Qt+1))).bind fun y25=>(bif (y25.f_e != 0) then(some (.ret y25)) else((idx A7 s7).bind fun x28=>(bif decide (((([(⟨y22,0,([]:List UInt8),([]:List UInt8),x28.A8⟩:Aa)]:List Aa)).length+s6.length)*57≤140737488355328) then(bif decide ((((([(⟨y22,0,([]:List UInt8),([]:List UInt8),x28.A8⟩:Aa)]:List Aa)++s6)).length+y25.f_l.length)*57≤140737488355328) then(bif (Qt==2) then(some (.ret (⟨((([(⟨y22,0,([]:List UInt8),([]:List UInt8),x28.A8⟩:Aa)]:List Aa)++s6)++y25.f_l),y25.f_to,0,0⟩:Bz))) else(F3 n rec_ref02_floor A7 Cx Qt k10 ((([(⟨y22,0,([]:List UInt8),([]:List UInt8),x28.A8⟩:Aa)]:List Aa)++s6)++y25.f_l) y25.f_to 0 0)) else none) else none)))))))) else(some (.out (s6,s7,s8,s9))))
mutual
def Cm:Nat→(List Av)→Int→Int→Int→Option Bz
 | 0,_,_,_,_=>none
 | n+1,A7,B7,Cx,Qt=>(bif (Qt==5) then(((Dm n) A7 B7 Cx).bind fun y2=>(some y2)) else(((Cm n) A7 B7 Cx (IntKind.i64.wrap (Qt+1))).bind fun y4=>((F3 n (Cm n) A7 Cx Qt n y4.f_l y4.f_to y4.f_e y4.f_at).bind fun o17=>match o17 with|.out (x35,x36,x37,x38)=>(some (⟨x35,x36,x37,x38⟩:Bz))|.ret v=>some v)))
def Dm:Nat→(List Av)→Int→Int→Option Bz
 | 0,_,_,_=>none
 | n+1,A7,B7,Cx=>(bif decide (((A7.length:Nat):Int)≤B7) then((Cr n A7 B7).bind fun y2=>(some y2)) else((idx A7 B7).bind fun x4=>((Cv n A7 B7 ([40]:List UInt8)).bind fun y5=>(bif y5 then(bif decide (30≤Cx) then(some (⟨([]:List Aa),0,7,x4.A8⟩:Bz)) else((Cv n A7 B7 ([33]:List UInt8)).bind fun y9=>(bif y9 then(((Dm n) A7 (IntKind.i64.wrap (B7+1)) (IntKind.i64.wrap (Cx+1))).bind fun y12=>(bif (y12.f_e==0) then(bif decide (((([(⟨5,0,([]:List UInt8),([]:List UInt8),x4.A8⟩:Aa)]:List Aa)).length+y12.f_l.length)*57≤140737488355328) then(some (⟨(([(⟨5,0,([]:List UInt8),([]:List UInt8),x4.A8⟩:Aa)]:List Aa)++y12.f_l),y12.f_to,y12.f_e,y12.f_at⟩:Bz)) else none) else(some y12))) else((Cv n A7 B7 ([40]:List UInt8)).bind fun y17=>(bif y17 then(((Cm n) A7 (IntKind.i64.wrap (B7+1)) (IntKind.i64.wrap (Cx+1)) 0).bind fun y20=>(bif (y20.f_e==0) then((Cv n A7 y20.f_to ([41]:List UInt8)).bind fun y23=>(bif y23 then(some (⟨y20.f_l,IntKind.i64.wrap (y20.f_to+1),y20.f_e,y20.f_at⟩:Bz)) else((Cr n A7 y20.f_to).bind fun y26=>(some y26)))) else(some (⟨y20.f_l,IntKind.i64.wrap (y20.f_to+1),y20.f_e,y20.f_at⟩:Bz)))) else(bif (x4.Ac==2) then(some (⟨([(⟨1,x4.Cu,([]:List UInt8),([]:List UInt8),x4.A8⟩:Aa)]:List Aa),IntKind.i64.wrap (B7+1),0,0⟩:Bz)) else(bif (x4.Ac != 1) then((Cr n A7 B7).bind fun y30=>(some y30)) else((D0 n x4.Bt).bind fun y32=>(bif y32 then((Cv n A7 (IntKind.i64.wrap (B7+1)) ([46]:List UInt8)).bind fun y35=>(bif y35 then(bif decide (((A7.length:Nat):Int)≤(IntKind.i64.wrap (B7+2))) then((Cr n A7 (IntKind.i64.wrap (B7+2))).bind fun y39=>(some y39)) else((idx A7 (IntKind.i64.wrap (B7+2))).bind fun x41=>(bif (x41.Ac != 1) then((Cr n A7 (IntKind.i64.wrap (B7+2))).bind fun y43=>(some y43)) else((idx A7 (IntKind.i64.wrap (B7+2))).bind fun x45=>((D0 n x45.Bt).bind fun y46=>(bif y46 then((idx A7 (IntKind.i64.wrap (B7+2))).bind fun x49=>(some (⟨([(⟨4,0,x49.Bt,x4.Bt,x4.A8⟩:Aa)]:List Aa),IntKind.i64.wrap (B7+3),0,0⟩:Bz))) else((Cr n A7 (IntKind.i64.wrap (B7+2))).bind fun y50=>(some y50)))))))) else(some (⟨([(⟨2,0,x4.Bt,([]:List UInt8),x4.A8⟩:Aa)]:List Aa),IntKind.i64.wrap (B7+1),0,0⟩:Bz)))) else((Cr n A7 B7).bind fun y52=>(some y52))))))))))) else((Cv n A7 B7 ([33]:List UInt8)).bind fun y54=>(bif y54 then(bif decide (30≤Cx) then(some (⟨([]:List Aa),0,7,x4.A8⟩:Bz)) else((Cv n A7 B7 ([33]:List UInt8)).bind fun y58=>(bif y58 then(((Dm n) A7 (IntKind.i64.wrap (B7+1)) (IntKind.i64.wrap (Cx+1))).bind fun y61=>(bif (y61.f_e==0) then(bif decide (((([(⟨5,0,([]:List UInt8),([]:List UInt8),x4.A8⟩:Aa)]:List Aa)).length+y61.f_l.length)*57≤140737488355328) then(some (⟨(([(⟨5,0,([]:List UInt8),([]:List UInt8),x4.A8⟩:Aa)]:List Aa)++y61.f_l),y61.f_to,y61.f_e,y61.f_at⟩:Bz)) else none) else(some y61))) else((Cv n A7 B7 ([40]:List UInt8)).bind fun y66=>(bif y66 then(((Cm n) A7 (IntKind.i64.wrap (B7+1)) (IntKind.i64.wrap (Cx+1)) 0).bind fun y69=>(bif (y69.f_e==0) then((Cv n A7 y69.f_to ([41]:List UInt8)).bind fun y72=>(bif y72 then(some (⟨y69.f_l,IntKind.i64.wrap (y69.f_to+1),y69.f_e,y69.f_at⟩:Bz)) else((Cr n A7 y69.f_to).bind fun y75=>(some y75)))) else(some (⟨y69.f_l,IntKind.i64.wrap (y69.f_to+1),y69.f_e,y69.f_at⟩:Bz)))) else(bif (x4.Ac==2) then(some (⟨([(⟨1,x4.Cu,([]:List UInt8),([]:List UInt8),x4.A8⟩:Aa)]:List Aa),IntKind.i64.wrap (B7+1),0,0⟩:Bz)) else(bif (x4.Ac != 1) then((Cr n A7 B7).bind fun y79=>(some y79)) else((D0 n x4.Bt).bind fun y81=>(bif y81 then((Cv n A7 (IntKind.i64.wrap (B7+1)) ([46]:List UInt8)).bind fun y84=>(bif y84 then(bif decide (((A7.length:Nat):Int)≤(IntKind.i64.wrap (B7+2))) then((Cr n A7 (IntKind.i64.wrap (B7+2))).bind fun y88=>(some y88)) else((idx A7 (IntKind.i64.wrap (B7+2))).bind fun x90=>(bif (x90.Ac != 1) then((Cr n A7 (IntKind.i64.wrap (B7+2))).bind fun y92=>(some y92)) else((idx A7 (IntKind.i64.wrap (B7+2))).bind fun x94=>((D0 n x94.Bt).bind fun y95=>(bif y95 then((idx A7 (IntKind.i64.wrap (B7+2))).bind fun x98=>(some (⟨([(⟨4,0,x98.Bt,x4.Bt,x4.A8⟩:Aa)]:List Aa),IntKind.i64.wrap (B7+3),0,0⟩:Bz))) else((Cr n A7 (IntKind.i64.wrap (B7+2))).bind fun y99=>(some y99)))))))) else(some (⟨([(⟨2,0,x4.Bt,([]:List UInt8),x4.A8⟩:Aa)]:List Aa),IntKind.i64.wrap (B7+1),0,0⟩:Bz)))) else((Cr n A7 B7).bind fun y101=>(some y101))))))))))) else((Cv n A7 B7 ([33]:List UInt8)).bind fun y103=>(bif y103 then(((Dm n) A7 (IntKind.i64.wrap (B7+1)) (IntKind.i64.wrap (Cx+1))).bind fun y106=>(bif (y106.f_e==0) then(bif decide (((([(⟨5,0,([]:List UInt8),([]:List UInt8),x4.A8⟩:Aa)]:List Aa)).length+y106.f_l.length)*57≤140737488355328) then(some (⟨(([(⟨5,0,([]:List UInt8),([]:List UInt8),x4.A8⟩:Aa)]:List Aa)++y106.f_l),y106.f_to,y106.f_e,y106.f_at⟩:Bz)) else none) else(some y106))) else((Cv n A7 B7 ([40]:List UInt8)).bind fun y111=>(bif y111 then(((Cm n) A7 (IntKind.i64.wrap (B7+1)) (IntKind.i64.wrap (Cx+1)) 0).bind fun y114=>(bif (y114.f_e==0) then((Cv n A7 y114.f_to ([41]:List UInt8)).bind fun y117=>(bif y117 then(some (⟨y114.f_l,IntKind.i64.wrap (y114.f_to+1),y114.f_e,y114.f_at⟩:Bz)) else((Cr n A7 y114.f_to).bind fun y120=>(some y120)))) else(some (⟨y114.f_l,IntKind.i64.wrap (y114.f_to+1),y114.f_e,y114.f_at⟩:Bz)))) else(bif (x4.Ac==2) then(some (⟨([(⟨1,x4.Cu,([]:List UInt8),([]:List UInt8),x4.A8⟩:Aa)]:List Aa),IntKind.i64.wrap (B7+1),0,0⟩:Bz)) else(bif (x4.Ac != 1) then((Cr n A7 B7).bind fun y124=>(some y124)) else((D0 n x4.Bt).bind fun y126=>(bif y126 then((Cv n A7 (IntKind.i64.wrap (B7+1)) ([46]:List UInt8)).bind fun y129=>(bif y129 then(bif decide (((A7.length:Nat):Int)≤(IntKind.i64.wrap (B7+2))) then((Cr n A7 (IntKind.i64.wrap (B7+2))).bind fun y133=>(some y133)) else((idx A7 (IntKind.i64.wrap (B7+2))).bind fun x135=>(bif (x135.Ac != 1) then((Cr n A7 (IntKind.i64.wrap (B7+2))).bind fun y137=>(some y137)) else((idx A7 (IntKind.i64.wrap (B7+2))).bind fun x139=>((D0 n x139.Bt).bind fun y140=>(bif y140 then((idx A7 (IntKind.i64.wrap (B7+2))).bind fun x143=>(some (⟨([(⟨4,0,x143.Bt,x4.Bt,x4.A8⟩:Aa)]:List Aa),IntKind.i64.wrap (B7+3),0,0⟩:Bz))) else((Cr n A7 (IntKind.i64.wrap (B7+2))).bind fun y144=>(some y144)))))))) else(some (⟨([(⟨2,0,x4.Bt,([]:List UInt8),x4.A8⟩:Aa)]:List Aa),IntKind.i64.wrap (B7+1),0,0⟩:Bz)))) else((Cr n A7 B7).bind fun y146=>(some y146))))))))))))))))
end
def Jv:Nat→(List Av)→Int→Option ((List Aa)×Int×Int×Int)
 | 0,_,_=>none
 | n+1,A7,B7=>(bif decide (B7<0) then(some (([]:List Aa),0,1,0)) else((Cm n A7 B7 0 0).bind fun y2=>(bif (y2.f_e != 0) then(some (([]:List Aa),0,y2.f_e,y2.f_at)) else((F1 n y2.f_l 0).bind fun y5=>(bif decide (30<y5) then((idx A7 B7).bind fun x8=>(some (([]:List Aa),0,7,x8.A8))) else(bif decide (200<((y2.f_l.length:Nat):Int)) then((idx A7 B7).bind fun x10=>(some (([]:List Aa),0,2,x10.A8))) else(some (y2.f_l,y2.f_to,0,0))))))))
def Ef (n:Nat)  (A7:(List Aa)):Nat→Int→(List Aa)→Option (LR (List Aa) (List Aa))
 | 0,_,_=>none
 | k3+1,s1,s2=>(bif decide (s1<((A7.length:Nat):Int)) then((idx A7 s1).bind fun x12=>(bif (x12.Bg==2) then((idx A7 s1).bind fun x14=>(bif decide ((s2.length+1)*57≤140737488355328) then(Ef n A7 k3 (IntKind.i64.wrap (s1+1)) (s2++([x14]:List Aa))) else none)) else((idx A7 s1).bind fun x17=>(bif (x17.Bg==3) then((idx A7 s1).bind fun x19=>(bif decide ((s2.length+1)*57≤140737488355328) then(Ef n A7 k3 (IntKind.i64.wrap (s1+1)) (s2++([x19]:List Aa))) else none)) else((idx A7 s1).bind fun x22=>(bif (x22.Bg==4) then((idx A7 s1).bind fun x24=>(bif decide ((s2.length+1)*57≤140737488355328) then(Ef n A7 k3 (IntKind.i64.wrap (s1+1)) (s2++([x24]:List Aa))) else none)) else(Ef n A7 k3 (IntKind.i64.wrap (s1+1)) s2))))))) else(some (.out s2)))
def Ld:Nat→(List Aa)→Option (List Aa)
 | 0,_=>none
 | n+1,A7=>((Ef n A7 n 0 ([]:List Aa)).bind fun o10=>match o10 with|.out x28=>(some x28)|.ret v=>some v)
def Oq:Nat→Aa→Option Bool
 | 0,_=>none
 | n+1,Bc=>(bif decide (Bc.A8<0) then(some false) else(bif (Bc.Bg==1) then(bif decide (0≤Bc.Cu) then(bif decide (Bc.Cu≤9999) then(bif (Bc.An==([]:List UInt8)) then(some (Bc.Df==([]:List UInt8))) else(some false)) else(some false)) else(some false)) else(bif (Bc.Bg==2) then(bif (Bc.Cu==0) then((D0 n Bc.An).bind fun y8=>(bif y8 then(some (Bc.Df==([]:List UInt8))) else(some false))) else(some false)) else(bif (Bc.Bg==3) then(bif (Bc.Cu==0) then((D0 n Bc.An).bind fun y13=>(bif y13 then(some (Bc.Df==([]:List UInt8))) else(some false))) else(some false)) else(bif (Bc.Bg==4) then(bif (Bc.Cu==0) then((D0 n Bc.An).bind fun y18=>(bif y18 then((D0 n Bc.Df).bind fun y21=>(some y21)) else(some false))) else(some false)) else(bif (Bc.Cu==0) then(bif (Bc.An==([]:List UInt8)) then(some (Bc.Df==([]:List UInt8))) else(some false)) else(some false)))))))
def Gr (n:Nat)  (A7:(List Aa)):Nat→Int→Option (LR Unit Bool)
 | 0,_=>none
 | k7+1,s6=>(bif decide (s6<((A7.length:Nat):Int)) then((idx A7 s6).bind fun x16=>((Oq n x16).bind fun y17=>(bif y17 then(Gr n A7 k7 (IntKind.i64.wrap (s6+1))) else(some (.ret false))))) else(some (.out ())))
def Lb:Nat→(List Aa)→Option Bool
 | 0,_=>none
 | n+1,A7=>(bif decide (200<((A7.length:Nat):Int)) then(some false) else(bif (((A7.length:Nat):Int)==0) then(some false) else((Nl n A7 0).bind fun y3=>(bif (y3 != ((A7.length:Nat):Int)) then(some false) else((Gr n A7 n 0).bind fun o14=>match o14 with|.out _=>((F1 n A7 0).bind fun y21=>(some (decide (y21≤30))))|.ret v=>some v)))))
def Jb:Nat→Int→Option Int
 | 0,_=>none
 | n+1,G3=>(bif decide (1≤G3) then(bif decide (G3≤4) then(some 0) else(bif (G3==5) then(some 1) else(bif decide (6≤G3) then(bif decide (G3≤14) then(some 2) else(some (-1))) else(some (-1))))) else(bif (G3==5) then(some 1) else(bif decide (6≤G3) then(bif decide (G3≤14) then(some 2) else(some (-1))) else(some (-1)))))
def Ic (n:Nat)  (A7:(List Aa)):Nat→Int→Int→Option (LR Unit Int)
 | 0,_,_=>none
 | k4+1,s2,s3=>(bif decide (s2<((A7.length:Nat):Int)) then((idx A7 s2).bind fun x13=>((Jb n x13.Bg).bind fun y14=>(bif decide (y14<0) then(some (.ret (-1))) else(bif ((IntKind.i64.wrap (s3+(IntKind.i64.wrap (y14 - 1))))==0) then(some (.ret (IntKind.i64.wrap (s2+1)))) else(Ic n A7 k4 (IntKind.i64.wrap (s2+1)) (IntKind.i64.wrap (s3+(IntKind.i64.wrap (y14 - 1))))))))) else(some (.out ())))
def R8:Nat→(List Aa)→Int→Option Int
 | 0,_,_=>none
 | n+1,A7,B7=>(bif decide (B7<0) then(some (-1)) else((Ic n A7 n B7 1).bind fun o11=>match o11 with|.out _=>(some (-1))|.ret v=>some v))
def Es (n:Nat)  (A7:(List Aa)):Nat→Int→(List Aa)→Option (LR (List Aa) (List Aa))
 | 0,_,_=>none
 | k3+1,s1,s2=>(bif decide (s1<((A7.length:Nat):Int)) then((idx A7 s1).bind fun x12=>(bif (x12.Bg==2) then(bif decide ((s2.length+1)*57≤140737488355328) then(Es n A7 k3 (IntKind.i64.wrap (s1+1)) (s2++([x12]:List Aa))) else none) else(bif (x12.Bg==3) then(bif decide ((s2.length+1)*57≤140737488355328) then(Es n A7 k3 (IntKind.i64.wrap (s1+1)) (s2++([x12]:List Aa))) else none) else(bif (x12.Bg==4) then(bif decide ((s2.length+1)*57≤140737488355328) then(Es n A7 k3 (IntKind.i64.wrap (s1+1)) (s2++([x12]:List Aa))) else none) else(Es n A7 k3 (IntKind.i64.wrap (s1+1)) s2))))) else(some (.out s2)))
def Mh:Nat→(List Aa)→Option (List Aa)
 | 0,_=>none
 | n+1,A7=>((Es n A7 n 0 ([]:List Aa)).bind fun o10=>match o10 with|.out x23=>(some x23)|.ret v=>some v)
def Iv (n:Nat) :Nat→(List Int)→Option (LR (List Int) Int)
 | 0,_=>none
 | k21+1,s20=>(bif decide (0<((s20.length:Nat):Int)) then((idx s20 (IntKind.i64.wrap (((s20.length:Nat):Int) - 1))).bind fun x30=>((idx s20 (IntKind.i64.wrap (((s20.length:Nat):Int) - 1))).bind fun x31=>((idx (List.set s20 (IntKind.i64.wrap (((s20.length:Nat):Int) - 1)).toNat (IntKind.i64.wrap (x30 - 1))) (IntKind.i64.wrap (((s20.length:Nat):Int) - 1))).bind fun x33=>(bif decide (0<x33) then(some (.out (List.set s20 (IntKind.i64.wrap (((s20.length:Nat):Int) - 1)).toNat (IntKind.i64.wrap (x30 - 1))))) else(bif (decide (0≤(IntKind.i64.wrap (((s20.length:Nat):Int) - 1)))&&decide ((IntKind.i64.wrap (((s20.length:Nat):Int) - 1))≤((((List.set s20 (IntKind.i64.wrap (((s20.length:Nat):Int) - 1)).toNat (IntKind.i64.wrap (x30 - 1)))).length:Nat):Int))) then(Iv n k21 (List.take ((IntKind.i64.wrap (((s20.length:Nat):Int) - 1)).toNat) (List.set s20 (IntKind.i64.wrap (((s20.length:Nat):Int) - 1)).toNat (IntKind.i64.wrap (x30 - 1))))) else none))))) else(some (.out s20)))
def Gi (n:Nat)  (A7:(List Aa)):Nat→Int→Int→(List Int)→Option (LR (Int×(List Int)) Int)
 | 0,_,_,_=>none
 | k4+1,s1,s2,s3=>(bif decide (s2<((A7.length:Nat):Int)) then((idx A7 s2).bind fun x13=>((Jb n x13.Bg).bind fun y14=>(bif decide (0<y14) then(bif decide ((s3.length+1)*9≤140737488355328) then(Gi n A7 k4 (if s1<((s3.length:Nat):Int) then((s3.length:Nat):Int) else s1) (IntKind.i64.wrap (s2+1)) (s3++([y14]:List Int))) else none) else((Iv n n s3).bind fun o28=>match o28 with|.out x38=>(Gi n A7 k4 (if s1<((s3.length:Nat):Int) then((s3.length:Nat):Int) else s1) (IntKind.i64.wrap (s2+1)) x38)|.ret v=>some (.ret v))))) else(some (.out (s1,s3))))
def Oc:Nat→(List Aa)→Option Int
 | 0,_=>none
 | n+1,A7=>((Gi n A7 n 0 0 ([]:List Int)).bind fun o11=>match o11 with|.out (x41,x42)=>(some x41)|.ret v=>some v)
def Pw:Nat→Aa→Option Bool
 | 0,_=>none
 | n+1,Bc=>(bif decide (Bc.A8<0) then(some false) else(bif (Bc.Bg==1) then(bif ((Bc.Bg==Bc.Bg)&&((Bc.Cu==Bc.Cu)&&((Bc.An==([]:List UInt8))&&((Bc.Df==([]:List UInt8))&&((Bc.A8==Bc.A8)&&true))))) then(bif decide (0≤Bc.Cu) then(some (decide (Bc.Cu≤9999))) else(some false)) else(some false)) else(bif (Bc.Bg==4) then((Fa n Bc.Df).bind fun y7=>(bif y7 then(bif ((Bc.Bg==Bc.Bg)&&((Bc.Cu==0)&&((Bc.An==Bc.An)&&((Bc.Df==Bc.Df)&&((Bc.A8==Bc.A8)&&true))))) then((Fa n Bc.An).bind fun y11=>(some y11)) else(some false)) else(some false))) else(bif (Bc.Bg==2) then(bif ((Bc.Bg==Bc.Bg)&&((Bc.Cu==0)&&((Bc.An==Bc.An)&&((Bc.Df==([]:List UInt8))&&((Bc.A8==Bc.A8)&&true))))) then((Fa n Bc.An).bind fun y16=>(some y16)) else(some false)) else(bif (Bc.Bg==3) then(bif ((Bc.Bg==Bc.Bg)&&((Bc.Cu==0)&&((Bc.An==Bc.An)&&((Bc.Df==([]:List UInt8))&&((Bc.A8==Bc.A8)&&true))))) then((Fa n Bc.An).bind fun y21=>(some y21)) else(some false)) else(some ((Bc.Bg==Bc.Bg)&&((Bc.Cu==0)&&((Bc.An==([]:List UInt8))&&((Bc.Df==([]:List UInt8))&&((Bc.A8==Bc.A8)&&true)))))))))))
def Ho (n:Nat)  (A7:(List Aa)):Nat→Int→Option (LR Unit Bool)
 | 0,_=>none
 | k7+1,s6=>(bif decide (s6<((A7.length:Nat):Int)) then((idx A7 s6).bind fun x16=>((Pw n x16).bind fun y17=>(bif y17 then(Ho n A7 k7 (IntKind.i64.wrap (s6+1))) else(some (.ret false))))) else(some (.out ())))
def Mq:Nat→(List Aa)→Option Bool
 | 0,_=>none
 | n+1,A7=>(bif (((A7.length:Nat):Int)==0) then(some false) else(bif decide (200<((A7.length:Nat):Int)) then(some false) else((R8 n A7 0).bind fun y3=>(bif (y3 != ((A7.length:Nat):Int)) then(some false) else((Ho n A7 n 0).bind fun o14=>match o14 with|.out _=>((Oc n A7).bind fun y21=>(some (decide (y21≤30))))|.ret v=>some v)))))
def Fi:Nat→(List Av)→Int→Option (Int×Int)
 | 0,_,_=>none
 | n+1,A7,B7=>(bif decide (((A7.length:Nat):Int)≤B7) then((Ht n A7 B7).bind fun y2=>(some (6,y2))) else((Ht n A7 B7).bind fun y4=>(some (5,y4))))
def Ks:Nat→(List Av)→Int→Option Bool
 | 0,_,_=>none
 | n+1,A7,B7=>(bif decide (B7<((A7.length:Nat):Int)) then((idx A7 B7).bind fun x2=>(bif (x2.Ac==1) then((idx A7 B7).bind fun x4=>((D0 n x4.Bt).bind fun y5=>(some y5))) else(some false))) else(some false))
def Hu:Nat→Int→Option Bool
 | 0,_=>none
 | n+1,Bx=>(bif (Bx==10) then(some true) else(bif (Bx==11) then(some true) else(some (Bx==12))))
def O8:Nat→Int→Option (List UInt8)
 | 0,_=>none
 | n+1,Bx=>(bif (Bx==2) then(some ([114,61,101,59]:List UInt8)) else(bif (Bx==3) then(some ([114,61,108,59]:List UInt8)) else(bif (Bx==4) then(some ([108,61,101,59]:List UInt8)) else(bif (Bx==5) then(some ([114,61,108,44,101,44,102,59]:List UInt8)) else(bif (Bx==6) then(some ([114,61,108,44,101,59]:List UInt8)) else(bif (Bx==7) then(some ([114,61,108,44,101,59]:List UInt8)) else(bif (Bx==9) then(some ([108,113,101,59]:List UInt8)) else(bif (Bx==10) then(some ([101]:List UInt8)) else(bif (Bx==11) then(some ([101]:List UInt8)) else(bif (Bx==12) then(some ([]:List UInt8)) else(some ([59]:List UInt8))))))))))))
def F6 (n:Nat)  (y1:(List Aa)):Nat→Int→Option (LR Unit Bool)
 | 0,_=>none
 | k4+1,s3=>(bif decide (s3<((y1.length:Nat):Int)) then((idx y1 s3).bind fun x13=>(bif (x13.Bg != 2) then(some (.ret false)) else(F6 n y1 k4 (IntKind.i64.wrap (s3+1))))) else(some (.out ())))
def Eu:Nat→(List Aa)→Option Bool
 | 0,_=>none
 | n+1,A7=>((Ld n A7).bind fun y1=>((F6 n y1 n 0).bind fun o11=>match o11 with|.out _=>((Lb n A7).bind fun y16=>(some y16))|.ret v=>some v))
def Lf:Nat→(List Av)→Int→Option ((List Aa)×Int×Int×Int)
 | 0,_,_=>none
 | n+1,A7,B7=>((Jv n A7 B7).bind fun y1=>(bif (y1.2.2.1 != 0) then(some (([]:List Aa),0,y1.2.2.1,y1.2.2.2)) else((Eu n y1.1).bind fun y4=>(bif y4 then(some (y1.1,y1.2.1,0,0)) else((idx A7 B7).bind fun x7=>(some (([]:List Aa),0,5,x7.A8)))))))
def C8 (n:Nat)  (A7:(List Av)) (Ch:A0) (y1:(List UInt8)):Nat→Int→Int→(List UInt8)→(List UInt8)→(List Aa)→(List Aa)→Bool→Option (LR (Int×(List UInt8)×(List UInt8)×(List Aa)×(List Aa)×Bool) (A0×Int×Int×Int))
 | 0,_,_,_,_,_,_,_=>none
 | k10+1,s3,s4,s5,s6,s7,s8,s9=>(bif decide (s4<((y1.length:Nat):Int)) then((idx y1 s4).bind fun x19=>(bif ((x19.toNat:Int)==114) then((Ks n A7 s3).bind fun y21=>(bif y21 then((idx y1 s4).bind fun x24=>(bif ((x24.toNat:Int)==114) then((idx A7 s3).bind fun x26=>(C8 n A7 Ch y1 k10 (IntKind.i64.wrap (s3+1)) (IntKind.i64.wrap (s4+1)) x26.Bt s6 s7 s8 s9)) else((idx A7 s3).bind fun x27=>(C8 n A7 Ch y1 k10 (IntKind.i64.wrap (s3+1)) (IntKind.i64.wrap (s4+1)) s5 x27.Bt s7 s8 s9)))) else((Fi n A7 s3).bind fun y28=>(some (.ret ((⟨Ch.Ac,s5,s6,s7,s8,s9,Ch.Al,Ch.C4,Ch.A8⟩:A0),0,y28.1,y28.2)))))) else((idx y1 s4).bind fun x30=>(bif ((x30.toNat:Int)==108) then((Ks n A7 s3).bind fun y32=>(bif y32 then((idx y1 s4).bind fun x35=>(bif ((x35.toNat:Int)==114) then((idx A7 s3).bind fun x37=>(C8 n A7 Ch y1 k10 (IntKind.i64.wrap (s3+1)) (IntKind.i64.wrap (s4+1)) x37.Bt s6 s7 s8 s9)) else((idx A7 s3).bind fun x38=>(C8 n A7 Ch y1 k10 (IntKind.i64.wrap (s3+1)) (IntKind.i64.wrap (s4+1)) s5 x38.Bt s7 s8 s9)))) else((Fi n A7 s3).bind fun y39=>(some (.ret ((⟨Ch.Ac,s5,s6,s7,s8,s9,Ch.Al,Ch.C4,Ch.A8⟩:A0),0,y39.1,y39.2)))))) else((idx y1 s4).bind fun x41=>(bif ((x41.toNat:Int)==101) then((Lf n A7 s3).bind fun y43=>(bif (y43.2.2.1 != 0) then(some (.ret ((⟨Ch.Ac,s5,s6,s7,s8,s9,Ch.Al,Ch.C4,Ch.A8⟩:A0),0,y43.2.2.1,y43.2.2.2))) else((idx y1 s4).bind fun x46=>(bif ((x46.toNat:Int)==101) then(C8 n A7 Ch y1 k10 y43.2.1 (IntKind.i64.wrap (s4+1)) s5 s6 y43.1 s8 s9) else(C8 n A7 Ch y1 k10 y43.2.1 (IntKind.i64.wrap (s4+1)) s5 s6 s7 y43.1 s9))))) else((idx y1 s4).bind fun x48=>(bif ((x48.toNat:Int)==102) then((Lf n A7 s3).bind fun y50=>(bif (y50.2.2.1 != 0) then(some (.ret ((⟨Ch.Ac,s5,s6,s7,s8,s9,Ch.Al,Ch.C4,Ch.A8⟩:A0),0,y50.2.2.1,y50.2.2.2))) else((idx y1 s4).bind fun x53=>(bif ((x53.toNat:Int)==101) then(C8 n A7 Ch y1 k10 y50.2.1 (IntKind.i64.wrap (s4+1)) s5 s6 y50.1 s8 s9) else(C8 n A7 Ch y1 k10 y50.2.1 (IntKind.i64.wrap (s4+1)) s5 s6 s7 y50.1 s9))))) else((idx y1 s4).bind fun x55=>(bif ((x55.toNat:Int)==113) then((Cv n A7 s3 ([33,61]:List UInt8)).bind fun y57=>(bif y57 then(C8 n A7 Ch y1 k10 (IntKind.i64.wrap (s3+1)) (IntKind.i64.wrap (s4+1)) s5 s6 s7 s8 true) else((Cv n A7 s3 ([61,61]:List UInt8)).bind fun y60=>(bif y60 then(C8 n A7 Ch y1 k10 (IntKind.i64.wrap (s3+1)) (IntKind.i64.wrap (s4+1)) s5 s6 s7 s8 false) else((Fi n A7 s3).bind fun y63=>(some (.ret ((⟨Ch.Ac,s5,s6,s7,s8,false,Ch.Al,Ch.C4,Ch.A8⟩:A0),0,y63.1,y63.2)))))))) else(bif (decide (0≤(IntKind.i64.wrap (s4+1)))&&decide ((IntKind.i64.wrap (s4+1))≤((y1.length:Nat):Int))&&decide (0≤s4)&&decide (s4≤(IntKind.i64.wrap (s4+1)))) then((Cv n A7 s3 (List.drop (s4.toNat) (List.take ((IntKind.i64.wrap (s4+1)).toNat) y1))).bind fun y66=>(bif y66 then(C8 n A7 Ch y1 k10 (IntKind.i64.wrap (s3+1)) (IntKind.i64.wrap (s4+1)) s5 s6 s7 s8 s9) else((Fi n A7 s3).bind fun y69=>(some (.ret ((⟨Ch.Ac,s5,s6,s7,s8,s9,Ch.Al,Ch.C4,Ch.A8⟩:A0),0,y69.1,y69.2)))))) else none))))))))))) else(some (.out (s3,s5,s6,s7,s8,s9))))
def Ew:Nat→(List Av)→Int→A0→Option (A0×Int×Int×Int)
 | 0,_,_,_=>none
 | n+1,A7,B7,Ch=>((O8 n Ch.Ac).bind fun y1=>((C8 n A7 Ch y1 n B7 0 Ch.Ax Ch.Au Ch.B4 Ch.Bd Ch.Bf).bind fun o17=>match o17 with|.out (x72,x73,x74,x75,x76,x77)=>(some ((⟨Ch.Ac,x73,x74,x75,x76,x77,Ch.Al,Ch.C4,Ch.A8⟩:A0),x72,0,0))|.ret v=>some v))
def N9:Nat→Option (List (List UInt8))
 | 0=>none
 | n+1=>(some ([([]:List UInt8),([115,107,105,112]:List UInt8),([115,101,116]:List UInt8),([108,111,97,100]:List UInt8),([115,116,111,114,101]:List UInt8),([99,97,115]:List UInt8),([102,97,100,100]:List UInt8),([120,99,104,103]:List UInt8),([102,101,110,99,101]:List UInt8),([97,119,97,105,116]:List UInt8),([105,102]:List UInt8),([119,104,105,108,101]:List UInt8),([108,111,111,112]:List UInt8),([98,114,101,97,107]:List UInt8)]:List (List UInt8)))
def Et (n:Nat)  (A7:(List Av)) (B7:Int):Nat→Int→Option (LR Unit Int)
 | 0,_=>none
 | k2+1,s1=>((N9 n ).bind fun y10=>(bif decide (s1<((y10.length:Nat):Int)) then(bif decide (B7<((A7.length:Nat):Int)) then((idx A7 B7).bind fun x14=>(bif (x14.Ac==1) then((idx A7 B7).bind fun x16=>((N9 n ).bind fun y17=>((idx y17 s1).bind fun x19=>(bif (x16.Bt==x19) then(some (.ret s1)) else(Et n A7 B7 k2 (IntKind.i64.wrap (s1+1))))))) else(Et n A7 B7 k2 (IntKind.i64.wrap (s1+1))))) else(some (.out ()))) else(some (.out ()))))
def Mj:Nat→(List Av)→Int→Option Int
 | 0,_,_=>none
 | n+1,A7,B7=>((Et n A7 B7 n 1).bind fun o9=>match o9 with|.out _=>(some 0)|.ret v=>some v)
def Ci (n:Nat) (rec_ref03_braced:(List Av)→Int→Int→Option ((List A0)×Int×Int×Int)) (A7:(List Av)) (Cx:Int):Nat→Int→(List A0)→Option (LR (Int×(List A0)) ((List A0)×Int×Int×Int))
 | 0,_,_=>none
 | k3+1,s1,s2=>(bif decide (s1<((A7.length:Nat):Int)) then((Cv n A7 s1 ([125]:List UInt8)).bind fun y12=>(bif y12 then(some (.out (s1,s2))) else((Mj n A7 s1).bind fun y15=>(bif (y15==0) then((idx A7 s1).bind fun x18=>(some (.ret (([]:List A0),0,5,x18.A8)))) else((idx A7 s1).bind fun x19=>((Ew n A7 (IntKind.i64.wrap (s1+1)) (⟨y15,([]:List UInt8),([]:List UInt8),([]:List Aa),([]:List Aa),false,0,0,x19.A8⟩:A0)).bind fun y20=>(bif (y20.2.2.1 != 0) then(some (.ret (([]:List A0),0,y20.2.2.1,y20.2.2.2))) else((Hu n y15).bind fun y23=>(bif y23 then((rec_ref03_braced A7 y20.2.1 Cx).bind fun y26=>(bif (y26.2.2.1 != 0) then(some (.ret (([]:List A0),0,y26.2.2.1,y26.2.2.2))) else(bif (y15==10) then(bif decide (y26.2.1<((A7.length:Nat):Int)) then((idx A7 y26.2.1).bind fun x31=>(bif (x31.Ac==1) then((idx A7 y26.2.1).bind fun x33=>(bif (x33.Bt==([101,108,115,101]:List UInt8)) then((rec_ref03_braced A7 (IntKind.i64.wrap (y26.2.1+1)) Cx).bind fun y35=>(bif (y35.2.2.1 != 0) then(some (.ret (([]:List A0),0,y35.2.2.1,y35.2.2.2))) else(bif decide ((s2.length+1)*121≤140737488355328) then(bif decide ((((s2++([(⟨y20.1.Ac,y20.1.Ax,y20.1.Au,y20.1.B4,y20.1.Bd,y20.1.Bf,((y26.1.length:Nat):Int),((y35.1.length:Nat):Int),y20.1.A8⟩:A0)]:List A0))).length+y26.1.length)*121≤140737488355328) then(bif decide (((((s2++([(⟨y20.1.Ac,y20.1.Ax,y20.1.Au,y20.1.B4,y20.1.Bd,y20.1.Bf,((y26.1.length:Nat):Int),((y35.1.length:Nat):Int),y20.1.A8⟩:A0)]:List A0))++y26.1)).length+y35.1.length)*121≤140737488355328) then(Ci n rec_ref03_braced A7 Cx k3 y35.2.1 (((s2++([(⟨y20.1.Ac,y20.1.Ax,y20.1.Au,y20.1.B4,y20.1.Bd,y20.1.Bf,((y26.1.length:Nat):Int),((y35.1.length:Nat):Int),y20.1.A8⟩:A0)]:List A0))++y26.1)++y35.1)) else none) else none) else none))) else(bif decide ((s2.length+1)*121≤140737488355328) then(bif decide ((((s2++([(⟨y20.1.Ac,y20.1.Ax,y20.1.Au,y20.1.B4,y20.1.Bd,y20.1.Bf,((y26.1.length:Nat):Int),0,y20.1.A8⟩:A0)]:List A0))).length+y26.1.length)*121≤140737488355328) then(bif decide (((((s2++([(⟨y20.1.Ac,y20.1.Ax,y20.1.Au,y20.1.B4,y20.1.Bd,y20.1.Bf,((y26.1.length:Nat):Int),0,y20.1.A8⟩:A0)]:List A0))++y26.1)).length+0)*121≤140737488355328) then(Ci n rec_ref03_braced A7 Cx k3 y26.2.1 ((s2++([(⟨y20.1.Ac,y20.1.Ax,y20.1.Au,y20.1.B4,y20.1.Bd,y20.1.Bf,((y26.1.length:Nat):Int),0,y20.1.A8⟩:A0)]:List A0))++y26.1)) else none) else none) else none))) else(bif decide ((s2.length+1)*121≤140737488355328) then(bif decide ((((s2++([(⟨y20.1.Ac,y20.1.Ax,y20.1.Au,y20.1.B4,y20.1.Bd,y20.1.Bf,((y26.1.length:Nat):Int),0,y20.1.A8⟩:A0)]:List A0))).length+y26.1.length)*121≤140737488355328) then(bif decide (((((s2++([(⟨y20.1.Ac,y20.1.Ax,y20.1.Au,y20.1.B4,y20.1.Bd,y20.1.Bf,((y26.1.length:Nat):Int),0,y20.1.A8⟩:A0)]:List A0))++y26.1)).length+0)*121≤140737488355328) then(Ci n rec_ref03_braced A7 Cx k3 y26.2.1 ((s2++([(⟨y20.1.Ac,y20.1.Ax,y20.1.Au,y20.1.B4,y20.1.Bd,y20.1.Bf,((y26.1.length:Nat):Int),0,y20.1.A8⟩:A0)]:List A0))++y26.1)) else none) else none) else none))) else(bif decide ((s2.length+1)*121≤140737488355328) then(bif decide ((((s2++([(⟨y20.1.Ac,y20.1.Ax,y20.1.Au,y20.1.B4,y20.1.Bd,y20.1.Bf,((y26.1.length:Nat):Int),0,y20.1.A8⟩:A0)]:List A0))).length+y26.1.length)*121≤140737488355328) then(bif decide (((((s2++([(⟨y20.1.Ac,y20.1.Ax,y20.1.Au,y20.1.B4,y20.1.Bd,y20.1.Bf,((y26.1.length:Nat):Int),0,y20.1.A8⟩:A0)]:List A0))++y26.1)).length+0)*121≤140737488355328) then(Ci n rec_ref03_braced A7 Cx k3 y26.2.1 ((s2++([(⟨y20.1.Ac,y20.1.Ax,y20.1.Au,y20.1.B4,y20.1.Bd,y20.1.Bf,((y26.1.length:Nat):Int),0,y20.1.A8⟩:A0)]:List A0))++y26.1)) else none) else none) else none)) else(bif decide ((s2.length+1)*121≤140737488355328) then(bif decide ((((s2++([(⟨y20.1.Ac,y20.1.Ax,y20.1.Au,y20.1.B4,y20.1.Bd,y20.1.Bf,((y26.1.length:Nat):Int),0,y20.1.A8⟩:A0)]:List A0))).length+y26.1.length)*121≤140737488355328) then(bif decide (((((s2++([(⟨y20.1.Ac,y20.1.Ax,y20.1.Au,y20.1.B4,y20.1.Bd,y20.1.Bf,((y26.1.length:Nat):Int),0,y20.1.A8⟩:A0)]:List A0))++y26.1)).length+0)*121≤140737488355328) then(Ci n rec_ref03_braced A7 Cx k3 y26.2.1 ((s2++([(⟨y20.1.Ac,y20.1.Ax,y20.1.Au,y20.1.B4,y20.1.Bd,y20.1.Bf,((y26.1.length:Nat):Int),0,y20.1.A8⟩:A0)]:List A0))++y26.1)) else none) else none) else none)))) else(bif (y15==10) then(bif decide (y20.2.1<((A7.length:Nat):Int)) then((idx A7 y20.2.1).bind fun x74=>(bif (x74.Ac==1) then((idx A7 y20.2.1).bind fun x76=>(bif (x76.Bt==([101,108,115,101]:List UInt8)) then((rec_ref03_braced A7 (IntKind.i64.wrap (y20.2.1+1)) Cx).bind fun y78=>(bif (y78.2.2.1 != 0) then(some (.ret (([]:List A0),0,y78.2.2.1,y78.2.2.2))) else(bif decide ((s2.length+1)*121≤140737488355328) then(bif decide ((((s2++([(⟨y20.1.Ac,y20.1.Ax,y20.1.Au,y20.1.B4,y20.1.Bd,y20.1.Bf,0,((y78.1.length:Nat):Int),y20.1.A8⟩:A0)]:List A0))).length+0)*121≤140737488355328) then(bif decide ((((s2++([(⟨y20.1.Ac,y20.1.Ax,y20.1.Au,y20.1.B4,y20.1.Bd,y20.1.Bf,0,((y78.1.length:Nat):Int),y20.1.A8⟩:A0)]:List A0))).length+y78.1.length)*121≤140737488355328) then(Ci n rec_ref03_braced A7 Cx k3 y78.2.1 ((s2++([(⟨y20.1.Ac,y20.1.Ax,y20.1.Au,y20.1.B4,y20.1.Bd,y20.1.Bf,0,((y78.1.length:Nat):Int),y20.1.A8⟩:A0)]:List A0))++y78.1)) else none) else none) else none))) else(bif decide ((s2.length+1)*121≤140737488355328) then(bif decide ((((s2++([(⟨y20.1.Ac,y20.1.Ax,y20.1.Au,y20.1.B4,y20.1.Bd,y20.1.Bf,0,0,y20.1.A8⟩:A0)]:List A0))).length+0)*121≤140737488355328) then(bif decide ((((s2++([(⟨y20.1.Ac,y20.1.Ax,y20.1.Au,y20.1.B4,y20.1.Bd,y20.1.Bf,0,0,y20.1.A8⟩:A0)]:List A0))).length+0)*121≤140737488355328) then(Ci n rec_ref03_braced A7 Cx k3 y20.2.1 (s2++([(⟨y20.1.Ac,y20.1.Ax,y20.1.Au,y20.1.B4,y20.1.Bd,y20.1.Bf,0,0,y20.1.A8⟩:A0)]:List A0))) else none) else none) else none))) else(bif decide ((s2.length+1)*121≤140737488355328) then(bif decide ((((s2++([(⟨y20.1.Ac,y20.1.Ax,y20.1.Au,y20.1.B4,y20.1.Bd,y20.1.Bf,0,0,y20.1.A8⟩:A0)]:List A0))).length+0)*121≤140737488355328) then(bif decide ((((s2++([(⟨y20.1.Ac,y20.1.Ax,y20.1.Au,y20.1.B4,y20.1.Bd,y20.1.Bf,0,0,y20.1.A8⟩:A0)]:List A0))).length+0)*121≤140737488355328) then(Ci n rec_ref03_braced A7 Cx k3 y20.2.1 (s2++([(⟨y20.1.Ac,y20.1.Ax,y20.1.Au,y20.1.B4,y20.1.Bd,y20.1.Bf,0,0,y20.1.A8⟩:A0)]:List A0))) else none) else none) else none))) else(bif decide ((s2.length+1)*121≤140737488355328) then(bif decide ((((s2++([(⟨y20.1.Ac,y20.1.Ax,y20.1.Au,y20.1.B4,y20.1.Bd,y20.1.Bf,0,0,y20.1.A8⟩:A0)]:List A0))).length+0)*121≤140737488355328) then(bif decide ((((s2++([(⟨y20.1.Ac,y20.1.Ax,y20.1.Au,y20.1.B4,y20.1.Bd,y20.1.Bf,0,0,y20.1.A8⟩:A0)]:List A0))).length+0)*121≤140737488355328) then(Ci n rec_ref03_braced A7 Cx k3 y20.2.1 (s2++([(⟨y20.1.Ac,y20.1.Ax,y20.1.Au,y20.1.B4,y20.1.Bd,y20.1.Bf,0,0,y20.1.A8⟩:A0)]:List A0))) else none) else none) else none)) else(bif decide ((s2.length+1)*121≤140737488355328) then(bif decide ((((s2++([(⟨y20.1.Ac,y20.1.Ax,y20.1.Au,y20.1.B4,y20.1.Bd,y20.1.Bf,0,0,y20.1.A8⟩:A0)]:List A0))).length+0)*121≤140737488355328) then(bif decide ((((s2++([(⟨y20.1.Ac,y20.1.Ax,y20.1.Au,y20.1.B4,y20.1.Bd,y20.1.Bf,0,0,y20.1.A8⟩:A0)]:List A0))).length+0)*121≤140737488355328) then(Ci n rec_ref03_braced A7 Cx k3 y20.2.1 (s2++([(⟨y20.1.Ac,y20.1.Ax,y20.1.Au,y20.1.B4,y20.1.Bd,y20.1.Bf,0,0,y20.1.A8⟩:A0)]:List A0))) else none) else none) else none))))))))))) else(some (.out (s1,s2))))
mutual
def Cz:Nat→(List Av)→Int→Int→Option ((List A0)×Int×Int×Int)
 | 0,_,_,_=>none
 | n+1,A7,B7,Cx=>((Cv n A7 B7 ([123]:List UInt8)).bind fun y1=>(bif y1 then(bif decide (30≤Cx) then((idx A7 B7).bind fun x5=>(some (([]:List A0),0,7,x5.A8))) else(((Ei n) A7 (IntKind.i64.wrap (B7+1)) (IntKind.i64.wrap (Cx+1))).bind fun y6=>(bif (y6.2.2.1 != 0) then(some (([]:List A0),0,y6.2.2.1,y6.2.2.2)) else((Cv n A7 y6.2.1 ([125]:List UInt8)).bind fun y9=>(bif y9 then(some (y6.1,IntKind.i64.wrap (y6.2.1+1),0,0)) else((Fi n A7 y6.2.1).bind fun y12=>(some (([]:List A0),0,y12.1,y12.2)))))))) else((Fi n A7 B7).bind fun y14=>(some (([]:List A0),0,y14.1,y14.2)))))
def Ei:Nat→(List Av)→Int→Int→Option ((List A0)×Int×Int×Int)
 | 0,_,_,_=>none
 | n+1,A7,B7,Cx=>((Ci n (Cz n) A7 Cx n B7 ([]:List A0)).bind fun o10=>match o10 with|.out (x121,x122)=>(some (x122,x121,0,0))|.ret v=>some v)
end
def Io:Nat→(List Av)→Int→Option ((List A0)×Int×Int×Int)
 | 0,_,_=>none
 | n+1,A7,B7=>(bif decide (B7<0) then(some (([]:List A0),0,1,0)) else(bif decide (((A7.length:Nat):Int)<B7) then(some (([]:List A0),0,1,0)) else((Ei n A7 B7 0).bind fun y3=>(bif (y3.2.2.1 != 0) then(some (([]:List A0),0,y3.2.2.1,y3.2.2.2)) else(bif decide (200<((y3.1.length:Nat):Int)) then((Ht n A7 B7).bind fun y7=>(some (([]:List A0),0,2,y7))) else(some (y3.1,y3.2.1,0,0)))))))
def Iu (n:Nat)  (A7:(List A0)) (D9:Int):Nat→Int→(List Int)→Option (LR (List Int) (List Int))
 | 0,_,_=>none
 | k3+1,s1,s2=>(bif decide (s1<D9) then(bif decide ((s2.length+1)*9≤140737488355328) then((idx A7 s1).bind fun x14=>((idx A7 s1).bind fun x15=>(Iu n A7 D9 k3 (IntKind.i64.wrap ((IntKind.i64.wrap ((IntKind.i64.wrap (s1+1))+x14.Al))+x15.C4)) (s2++([s1]:List Int))))) else none) else(some (.out s2)))
def O4:Nat→(List A0)→Int→Int→Option (List Int)
 | 0,_,_,_=>none
 | n+1,A7,Dq,D9=>((Iu n A7 D9 n Dq ([]:List Int)).bind fun o10=>match o10 with|.out x17=>(some x17)|.ret v=>some v)
def Fl (n:Nat) (rec_ref03_deep:(List A0)→Int→Int→Option Int) (A7:(List A0)) (y1:(List Int)):Nat→Int→Int→Option (LR Int Int)
 | 0,_,_=>none
 | k5+1,s3,s4=>(bif decide (s4<((y1.length:Nat):Int)) then((idx y1 s4).bind fun x14=>((idx A7 x14).bind fun x15=>((Hu n x15.Ac).bind fun y16=>(bif y16 then((idx y1 s4).bind fun x19=>((idx y1 s4).bind fun x20=>((rec_ref03_deep A7 (IntKind.i64.wrap (x20+1)) (IntKind.i64.wrap ((IntKind.i64.wrap (x19+1))+x15.Al))).bind fun y21=>((rec_ref03_deep A7 (IntKind.i64.wrap ((IntKind.i64.wrap (x19+1))+x15.Al)) (IntKind.i64.wrap ((IntKind.i64.wrap ((IntKind.i64.wrap (x19+1))+x15.Al))+x15.C4))).bind fun y23=>(Fl n rec_ref03_deep A7 y1 k5 (V4 s3 (IntKind.i64.wrap (1+y21)) (IntKind.i64.wrap (1+y23))) (IntKind.i64.wrap (s4+1))))))) else(Fl n rec_ref03_deep A7 y1 k5 s3 (IntKind.i64.wrap (s4+1))))))) else(some (.out s3)))
def F2:Nat→(List A0)→Int→Int→Option Int
 | 0,_,_,_=>none
 | n+1,A7,Dq,D9=>((O4 n A7 Dq D9).bind fun y1=>((Fl n (F2 n) A7 y1 n 0 0).bind fun o12=>match o12 with|.out x26=>(some x26)|.ret v=>some v))
def Id (n:Nat)  (A7:(List UInt8)) (W9:Int):Nat→Int→Option (LR Unit Bool)
 | 0,_=>none
 | k2+1,s1=>(bif decide (s1<((A7.length:Nat):Int)) then((idx A7 s1).bind fun x11=>(bif ((x11.toNat:Int)==W9) then(some (.ret true)) else(Id n A7 W9 k2 (IntKind.i64.wrap (s1+1))))) else(some (.out ())))
def C6:Nat→(List UInt8)→Int→Option Bool
 | 0,_,_=>none
 | n+1,A7,W9=>((Id n A7 W9 n 0).bind fun o9=>match o9 with|.out _=>(some false)|.ret v=>some v)
def N5:Nat→Int→Option ((List UInt8)×Bool)
 | 0,_=>none
 | n+1,Bx=>(bif (Bx==1) then(some (([]:List UInt8),true)) else(bif (Bx==8) then(some (([]:List UInt8),true)) else(bif (Bx==13) then(some (([]:List UInt8),true)) else(bif (Bx==2) then(some (([114,101]:List UInt8),true)) else(bif (Bx==3) then(some (([114,108]:List UInt8),true)) else(bif (Bx==4) then(some (([108,101]:List UInt8),true)) else(bif (Bx==5) then(some (([114,108,101,102]:List UInt8),true)) else(bif (Bx==6) then(some (([114,108,101]:List UInt8),true)) else(bif (Bx==7) then(some (([114,108,101]:List UInt8),true)) else(bif (Bx==9) then(some (([108,101,110]:List UInt8),true)) else(bif (Bx==10) then(some (([101,98,120]:List UInt8),true)) else(bif (Bx==11) then(some (([101,98]:List UInt8),true)) else(bif (Bx==12) then(some (([98]:List UInt8),true)) else(some (([]:List UInt8),false)))))))))))))))
def Pz:Nat→A0→Option Bool
 | 0,_=>none
 | n+1,Bc=>((N5 n Bc.Ac).bind fun y1=>(bif y1.2 then(bif decide (Bc.A8<0) then(some false) else(((C6 n y1.1 114).bind fun y6=>((D0 n Bc.Ax).bind fun y8=>(bif (y6==y8) then((C6 n y1.1 114).bind fun y11=>(bif y11 then((C6 n y1.1 108).bind fun y14=>((D0 n Bc.Au).bind fun y16=>(bif (y14==y16) then((C6 n y1.1 108).bind fun y19=>(bif y19 then(some false) else(some (!(Bc.Au==([]:List UInt8)))))) else(some true)))) else(bif (Bc.Ax==([]:List UInt8)) then((C6 n y1.1 108).bind fun y23=>((D0 n Bc.Au).bind fun y25=>(bif (y23==y25) then((C6 n y1.1 108).bind fun y28=>(bif y28 then(some false) else(some (!(Bc.Au==([]:List UInt8)))))) else(some true)))) else(some true)))) else(some true)))).bind fun j5=>(bif j5 then(some false) else(((C6 n y1.1 101).bind fun y33=>(bif y33 then((Eu n Bc.B4).bind fun y36=>(bif y36 then((C6 n y1.1 101).bind fun y39=>(bif y39 then((C6 n y1.1 102).bind fun y42=>(bif y42 then((Eu n Bc.Bd).bind fun y45=>(bif y45 then((C6 n y1.1 102).bind fun y48=>(bif y48 then(some false) else(some (decide (0<((Bc.Bd.length:Nat):Int)))))) else(some true))) else((C6 n y1.1 102).bind fun y51=>(bif y51 then(some false) else(some (decide (0<((Bc.Bd.length:Nat):Int)))))))) else(bif decide (0<((Bc.B4.length:Nat):Int)) then(some true) else((C6 n y1.1 102).bind fun y55=>(bif y55 then((Eu n Bc.Bd).bind fun y58=>(bif y58 then((C6 n y1.1 102).bind fun y61=>(bif y61 then(some false) else(some (decide (0<((Bc.Bd.length:Nat):Int)))))) else(some true))) else((C6 n y1.1 102).bind fun y64=>(bif y64 then(some false) else(some (decide (0<((Bc.Bd.length:Nat):Int))))))))))) else(some true))) else((C6 n y1.1 101).bind fun y67=>(bif y67 then((C6 n y1.1 102).bind fun y70=>(bif y70 then((Eu n Bc.Bd).bind fun y73=>(bif y73 then((C6 n y1.1 102).bind fun y76=>(bif y76 then(some false) else(some (decide (0<((Bc.Bd.length:Nat):Int)))))) else(some true))) else((C6 n y1.1 102).bind fun y79=>(bif y79 then(some false) else(some (decide (0<((Bc.Bd.length:Nat):Int)))))))) else(bif decide (0<((Bc.B4.length:Nat):Int)) then(some true) else((C6 n y1.1 102).bind fun y83=>(bif y83 then((Eu n Bc.Bd).bind fun y86=>(bif y86 then((C6 n y1.1 102).bind fun y89=>(bif y89 then(some false) else(some (decide (0<((Bc.Bd.length:Nat):Int)))))) else(some true))) else((C6 n y1.1 102).bind fun y92=>(bif y92 then(some false) else(some (decide (0<((Bc.Bd.length:Nat):Int))))))))))))).bind fun j32=>(bif j32 then(some false) else((C6 n y1.1 110).bind fun y96=>(bif y96 then((C6 n y1.1 98).bind fun y99=>(bif y99 then((C6 n y1.1 120).bind fun y102=>(bif y102 then(some true) else(some (Bc.C4==0)))) else(bif (Bc.Al==0) then((C6 n y1.1 120).bind fun y106=>(bif y106 then(some true) else(some (Bc.C4==0)))) else(some false)))) else(bif Bc.Bf then(some false) else((C6 n y1.1 98).bind fun y110=>(bif y110 then((C6 n y1.1 120).bind fun y113=>(bif y113 then(some true) else(some (Bc.C4==0)))) else(bif (Bc.Al==0) then((C6 n y1.1 120).bind fun y117=>(bif y117 then(some true) else(some (Bc.C4==0)))) else(some false)))))))))))) else(some false)))
def I1 (n:Nat) (rec_ref03_whole:(List A0)→Int→Int→Option Bool) (A7:(List A0)) (D9:Int):Nat→Int→Option (LR Unit Bool)
 | 0,_=>none
 | k2+1,s1=>(bif decide (s1<D9) then((idx A7 s1).bind fun x11=>(bif decide (x11.Al<0) then(some (.ret false)) else(bif decide (x11.C4<0) then(some (.ret false)) else(bif decide ((IntKind.i64.wrap ((IntKind.i64.wrap (D9 - s1)) - 1))<x11.Al) then(some (.ret false)) else(bif decide ((IntKind.i64.wrap ((IntKind.i64.wrap ((IntKind.i64.wrap (D9 - s1)) - 1)) - x11.Al))<x11.C4) then(some (.ret false)) else((rec_ref03_whole A7 (IntKind.i64.wrap (s1+1)) (IntKind.i64.wrap ((IntKind.i64.wrap (s1+1))+x11.Al))).bind fun y16=>(bif y16 then((rec_ref03_whole A7 (IntKind.i64.wrap ((IntKind.i64.wrap (s1+1))+x11.Al)) (IntKind.i64.wrap ((IntKind.i64.wrap ((IntKind.i64.wrap (s1+1))+x11.Al))+x11.C4))).bind fun y19=>(bif y19 then(I1 n rec_ref03_whole A7 D9 k2 (IntKind.i64.wrap ((IntKind.i64.wrap ((IntKind.i64.wrap (s1+1))+x11.Al))+x11.C4))) else(some (.ret false)))) else(some (.ret false))))))))) else(some (.out ())))
def Fk:Nat→(List A0)→Int→Int→Option Bool
 | 0,_,_,_=>none
 | n+1,A7,Dq,D9=>((I1 n (Fk n) A7 D9 n Dq).bind fun o9=>match o9 with|.out _=>(some true)|.ret v=>some v)
def Gm (n:Nat)  (A7:(List A0)):Nat→Int→Option (LR Unit Bool)
 | 0,_=>none
 | k6+1,s5=>(bif decide (s5<((A7.length:Nat):Int)) then((idx A7 s5).bind fun x15=>((Pz n x15).bind fun y16=>(bif y16 then(Gm n A7 k6 (IntKind.i64.wrap (s5+1))) else(some (.ret false))))) else(some (.out ())))
def Nf:Nat→(List A0)→Option Bool
 | 0,_=>none
 | n+1,A7=>(bif decide (200<((A7.length:Nat):Int)) then(some false) else((Fk n A7 0 ((A7.length:Nat):Int)).bind fun y2=>(bif y2 then((Gm n A7 n 0).bind fun o13=>match o13 with|.out _=>((F2 n A7 0 ((A7.length:Nat):Int)).bind fun y20=>(some (decide (y20≤30))))|.ret v=>some v) else(some false))))
def Oh:Nat→Int→Option Bool
 | 0,_=>none
 | n+1,Bx=>(bif (Bx==10) then(some true) else(bif (Bx==11) then(some true) else(bif (Bx==12) then(some true) else(some false))))
def Cs (n:Nat) (rec_stmt_depth_1:Int→Int→Int→(List A0)→Int→Option (Bool×Int)) (A7:(List A0)) (D9:Int) (o0:(List A0)):Nat→Int→Int→Option (LR Int (Bool×Int))
 | 0,_,_=>none
 | k3+1,s1,s2=>(bif decide (s1<D9) then((idx A7 s1).bind fun x12=>(bif decide (x12.Al<0) then(some (.ret (false,s2))) else(bif decide (x12.C4<0) then(some (.ret (false,s2))) else(bif decide ((IntKind.i64.wrap ((IntKind.i64.wrap (D9 - s1)) - 1))<x12.Al) then(some (.ret (false,s2))) else(bif decide ((IntKind.i64.wrap ((IntKind.i64.wrap ((IntKind.i64.wrap (D9 - s1)) - 1)) - x12.Al))<x12.C4) then(some (.ret (false,s2))) else((rec_stmt_depth_1 s1 (IntKind.i64.wrap ((IntKind.i64.wrap (s1+1))+x12.Al)) (IntKind.i64.wrap ((IntKind.i64.wrap ((IntKind.i64.wrap (s1+1))+x12.Al))+x12.C4)) o0 s2).bind fun y17=>(bif y17.1 then(Cs n rec_stmt_depth_1 A7 D9 o0 k3 (IntKind.i64.wrap ((IntKind.i64.wrap ((IntKind.i64.wrap (s1+1))+x12.Al))+x12.C4)) y17.2) else(some (.ret (false,y17.2)))))))))) else(some (.out s2)))
mutual
def Jo:Nat→(List A0)→Int→Int→Option Int
 | 0,_,_,_=>none
 | n+1,A7,Dq,D9=>(((Gf n) A7 Dq D9 A7 0).bind fun y1=>(bif y1.1 then(some y1.2) else(some (-1))))
def Fq:Nat→Int→Int→Int→(List A0)→Int→Option (Bool×Int)
 | 0,_,_,_,_,_=>none
 | n+1,Jp,X9,Zq,o0,o1=>(((Jo n) o0 (IntKind.i64.wrap (Jp+1)) X9).bind fun y1=>(((Jo n) o0 X9 Zq).bind fun y3=>((idx o0 Jp).bind fun x5=>((Oh n x5.Ac).bind fun y6=>(bif y6 then(bif (y1 != (-1)) then(some ((y3 != (-1)),V4 o1 (IntKind.i64.wrap (1+y1)) (IntKind.i64.wrap (1+y3)))) else(some (false,V4 o1 (IntKind.i64.wrap (1+y1)) (IntKind.i64.wrap (1+y3))))) else(bif (y1 != (-1)) then(some ((y3 != (-1)),o1)) else(some (false,o1))))))))
def Gf:Nat→(List A0)→Int→Int→(List A0)→Int→Option (Bool×Int)
 | 0,_,_,_,_,_=>none
 | n+1,A7,Dq,D9,o0,o1=>((Cs n (Fq n) A7 D9 o0 n Dq o1).bind fun o10=>match o10 with|.out x21=>(some (true,x21))|.ret v=>some v)
end
def Of:Nat→(List A0)→Option Int
 | 0,_=>none
 | n+1,A7=>((Jo n A7 0 ((A7.length:Nat):Int)).bind fun y1=>(some y1))
def Fh (n:Nat)  (L9:C3) (Nq:Int):Nat→Int→Option (LR Unit Bool)
 | 0,_=>none
 | k2+1,s1=>(bif decide (s1<((L9.f_form.length:Nat):Int)) then((idx L9.f_form s1).bind fun x11=>(bif ((x11.toNat:Int)==Nq) then(some (.ret true)) else(Fh n L9 Nq k2 (IntKind.i64.wrap (s1+1))))) else(some (.out ())))
def Eg:Nat→C3→Int→Option Bool
 | 0,_,_=>none
 | n+1,L9,Nq=>((Fh n L9 Nq n 0).bind fun o9=>match o9 with|.out _=>(some false)|.ret v=>some v)
def Ip:Nat→Int→(List UInt8)→(List UInt8)→(List UInt8)→Bool→Bool→Option Bool
 | 0,_,_,_,_,_,_=>none
 | n+1,H4,A4z,Ft,Fu,Fv,Fw=>((Eg n (⟨Ft,Fu,Fv,Fw⟩:C3) H4).bind fun y1=>(bif y1 then((Fa n A4z).bind fun y4=>(bif y4 then(some true) else((Eg n (⟨Ft,Fu,Fv,Fw⟩:C3) H4).bind fun y7=>(bif y7 then(some false) else(some (A4z==([]:List UInt8))))))) else((Eg n (⟨Ft,Fu,Fv,Fw⟩:C3) H4).bind fun y10=>(bif y10 then(some false) else(some (A4z==([]:List UInt8)))))))
def Fm (n:Nat)  (y1:(List Aa)):Nat→Int→Option (LR Unit Bool)
 | 0,_=>none
 | k4+1,s3=>(bif decide (s3<((y1.length:Nat):Int)) then((idx y1 s3).bind fun x13=>(bif (x13.Bg != 2) then(some (.ret false)) else(Fm n y1 k4 (IntKind.i64.wrap (s3+1))))) else(some (.out ())))
def Jm:Nat→(List Aa)→Option Bool
 | 0,_=>none
 | n+1,A7=>((Mh n A7).bind fun y1=>((Fm n y1 n 0).bind fun o11=>match o11 with|.out _=>((Mq n A7).bind fun y16=>(some y16))|.ret v=>some v))
def Iw:Nat→Int→(List Aa)→(List UInt8)→(List UInt8)→Bool→Bool→Option Bool
 | 0,_,_,_,_,_,_=>none
 | n+1,H4,Dk,Ft,Fu,Fv,Fw=>((Eg n (⟨Ft,Fu,Fv,Fw⟩:C3) H4).bind fun y1=>(bif y1 then((Jm n Dk).bind fun y4=>(bif y4 then(some true) else((Eg n (⟨Ft,Fu,Fv,Fw⟩:C3) H4).bind fun y7=>(bif y7 then(some false) else(some (((Dk.length:Nat):Int)==0)))))) else((Eg n (⟨Ft,Fu,Fv,Fw⟩:C3) H4).bind fun y10=>(bif y10 then(some false) else(some (((Dk.length:Nat):Int)==0))))))
def Od:Nat→Option (List C3)
 | 0=>none
 | n+1=>(some ([(⟨([]:List UInt8),([]:List UInt8),false,false⟩:C3),(⟨([115,107,105,112]:List UInt8),([59]:List UInt8),false,false⟩:C3),(⟨([115,101,116]:List UInt8),([114,61,101,59]:List UInt8),false,false⟩:C3),(⟨([108,111,97,100]:List UInt8),([114,61,108,59]:List UInt8),false,false⟩:C3),(⟨([115,116,111,114,101]:List UInt8),([108,61,101,59]:List UInt8),false,false⟩:C3),(⟨([99,97,115]:List UInt8),([114,61,108,44,101,44,102,59]:List UInt8),false,false⟩:C3),(⟨([102,97,100,100]:List UInt8),([114,61,108,44,101,59]:List UInt8),false,false⟩:C3),(⟨([120,99,104,103]:List UInt8),([114,61,108,44,101,59]:List UInt8),false,false⟩:C3),(⟨([102,101,110,99,101]:List UInt8),([59]:List UInt8),false,false⟩:C3),(⟨([97,119,97,105,116]:List UInt8),([108,113,101,59]:List UInt8),false,false⟩:C3),(⟨([105,102]:List UInt8),([101]:List UInt8),true,true⟩:C3),(⟨([119,104,105,108,101]:List UInt8),([101]:List UInt8),true,false⟩:C3),(⟨([108,111,111,112]:List UInt8),([]:List UInt8),true,false⟩:C3),(⟨([98,114,101,97,107]:List UInt8),([59]:List UInt8),false,false⟩:C3)]:List C3))
def R0:Nat→Int→Option (C3×Bool)
 | 0,_=>none
 | n+1,Dc=>((Od n ).bind fun y1=>(bif decide (Dc<1) then(some ((⟨([]:List UInt8),([]:List UInt8),false,false⟩:C3),false)) else(bif decide (((y1.length:Nat):Int)≤Dc) then(some ((⟨([]:List UInt8),([]:List UInt8),false,false⟩:C3),false)) else((idx y1 Dc).bind fun x5=>(some (x5,true))))))
def Q0:Nat→A0→Option Bool
 | 0,_=>none
 | n+1,Bc=>((R0 n Bc.Ac).bind fun y1=>(bif y1.2 then(bif decide (Bc.A8<0) then(some false) else(bif Bc.Bf then((Eg n y1.1 113).bind fun y6=>(bif y6 then((Ip n 114 Bc.Ax y1.1.f_word y1.1.f_form y1.1.f_body y1.1.f_more).bind fun y9=>(bif y9 then((Ip n 108 Bc.Au y1.1.f_word y1.1.f_form y1.1.f_body y1.1.f_more).bind fun y12=>(bif y12 then((Iw n 101 Bc.B4 y1.1.f_word y1.1.f_form y1.1.f_body y1.1.f_more).bind fun y15=>(bif y15 then((Iw n 102 Bc.Bd y1.1.f_word y1.1.f_form y1.1.f_body y1.1.f_more).bind fun y18=>(bif y18 then(bif y1.1.f_body then(bif y1.1.f_more then(some true) else(some (Bc.C4==0))) else(bif (Bc.Al==0) then(bif y1.1.f_more then(some true) else(some (Bc.C4==0))) else(some false))) else(some false))) else(some false))) else(some false))) else(some false))) else(some false))) else((Ip n 114 Bc.Ax y1.1.f_word y1.1.f_form y1.1.f_body y1.1.f_more).bind fun y25=>(bif y25 then((Ip n 108 Bc.Au y1.1.f_word y1.1.f_form y1.1.f_body y1.1.f_more).bind fun y28=>(bif y28 then((Iw n 101 Bc.B4 y1.1.f_word y1.1.f_form y1.1.f_body y1.1.f_more).bind fun y31=>(bif y31 then((Iw n 102 Bc.Bd y1.1.f_word y1.1.f_form y1.1.f_body y1.1.f_more).bind fun y34=>(bif y34 then(bif y1.1.f_body then(bif y1.1.f_more then(some true) else(some (Bc.C4==0))) else(bif (Bc.Al==0) then(bif y1.1.f_more then(some true) else(some (Bc.C4==0))) else(some false))) else(some false))) else(some false))) else(some false))) else(some false))))) else(some false)))
def Hr (n:Nat)  (A7:(List A0)):Nat→Int→Option (LR Unit Bool)
 | 0,_=>none
 | k7+1,s6=>(bif decide (s6<((A7.length:Nat):Int)) then((idx A7 s6).bind fun x16=>((Q0 n x16).bind fun y17=>(bif y17 then(Hr n A7 k7 (IntKind.i64.wrap (s6+1))) else(some (.ret false))))) else(some (.out ())))
def O7:Nat→(List A0)→Option Bool
 | 0,_=>none
 | n+1,A7=>((Of n A7).bind fun y1=>(bif (y1==(-1)) then(some false) else(bif decide (30<y1) then(some false) else(bif decide (200<((A7.length:Nat):Int)) then(some false) else((Hr n A7 n 0).bind fun o14=>match o14 with|.out _=>(some true)|.ret v=>some v)))))
def E8:Nat→Int→Int→(List Av)→Int→Int→Int→Option (Int×Int)
 | 0,_,_,_,_,_,_=>none
 | n+1,Aah,A77,s_l,s_i,s_e,Dd=>(bif (s_e==0) then(bif (Aah != 0) then(some (Aah,A77)) else(some (s_e,Dd))) else(some (s_e,Dd)))
def Cq:Nat→(List Av)→Int→Int→Int→Option (Int×Int)
 | 0,_,_,_,_=>none
 | n+1,s_l,s_i,s_e,Dd=>(bif (s_e==0) then((Fi n s_l s_i).bind fun y2=>(some (y2.1,y2.2))) else(some (s_e,Dd)))
def Bv:Nat→(List UInt8)→(List Av)→Int→Int→Int→Option (Int×Int×Int)
 | 0,_,_,_,_,_=>none
 | n+1,Y5,s_l,s_i,s_e,Dd=>(bif (s_e==0) then((Cv n s_l s_i Y5).bind fun y2=>(bif y2 then(some (IntKind.i64.wrap (s_i+1),s_e,Dd)) else((Cq n s_l s_i s_e Dd).bind fun y5=>(some (s_i,y5.1,y5.2))))) else((Cq n s_l s_i s_e Dd).bind fun y7=>(some (s_i,y7.1,y7.2))))
def Il (n:Nat) :Nat→Option (LR Unit (At×Int×Int×Int))
 | 0=>none
 | k6+1=>(some (.out ()))
def Ds (n:Nat) :Nat→Int→(List Aa)→Option (LR (List Aa) (At×Int×Int×Int))
 | 0,_,_=>none
 | k25+1,s23,s24=>(bif decide (s23<((s24.length:Nat):Int)) then((idx s24 s23).bind fun x34=>(bif (x34.Bg==2) then((idx s24 s23).bind fun x36=>(Ds n k25 (IntKind.i64.wrap (s23+1)) (List.set s24 s23.toNat (⟨3,x36.Cu,x36.An,x36.Df,x36.A8⟩:Aa)))) else(Ds n k25 (IntKind.i64.wrap (s23+1)) s24))) else(some (.out s24)))
def Hf:Nat→Int→(List Av)→Int→Int→Int→Option (At×Int×Int×Int)
 | 0,_,_,_,_,_=>none
 | n+1,Kl,s_l,s_i,s_e,Dd=>((idx s_l s_i).bind fun x1=>((Jv n s_l (IntKind.i64.wrap (s_i+1))).bind fun y2=>(bif decide (y2.1.length=0) then((E8 n y2.2.2.1 y2.2.2.2 s_l (IntKind.i64.wrap (s_i+1)) s_e Dd).bind fun y4=>((Il n n).bind fun o13=>match o13 with|.out _=>(bif (y4.1==0) then((Bv n ([59]:List UInt8) s_l y2.2.1 y4.1 y4.2).bind fun y16=>(some ((⟨Kl,([]:List Aa),x1.A8⟩:At),y16.1,y16.2.1,y16.2.2))) else((Bv n ([59]:List UInt8) s_l (IntKind.i64.wrap (s_i+1)) y4.1 y4.2).bind fun y18=>(some ((⟨Kl,([]:List Aa),x1.A8⟩:At),y18.1,y18.2.1,y18.2.2))))|.ret v=>some v)) else((E8 n y2.2.2.1 y2.2.2.2 s_l (IntKind.i64.wrap (s_i+1)) s_e Dd).bind fun y21=>((Ds n n 0 y2.1).bind fun o32=>match o32 with|.out x39=>(bif (y21.1==0) then((Bv n ([59]:List UInt8) s_l y2.2.1 y21.1 y21.2).bind fun y41=>(some ((⟨Kl,x39,x1.A8⟩:At),y41.1,y41.2.1,y41.2.2))) else((Bv n ([59]:List UInt8) s_l (IntKind.i64.wrap (s_i+1)) y21.1 y21.2).bind fun y43=>(some ((⟨Kl,x39,x1.A8⟩:At),y43.1,y43.2.1,y43.2.2))))|.ret v=>some v)))))
def E1:Nat→(List UInt8)→(List Av)→Int→Int→Int→Option Bool
 | 0,_,_,_,_,_=>none
 | n+1,Y5,s_l,s_i,s_e,Dd=>(bif (s_e==0) then(bif decide (s_i<((s_l.length:Nat):Int)) then((idx s_l s_i).bind fun x3=>(bif (x3.Ac==1) then((idx s_l s_i).bind fun x5=>(some (x5.Bt==Y5))) else(some false))) else(some false)) else(some false))
def Kv:Nat→Int→Option (List UInt8)
 | 0,_=>none
 | n+1,Bx=>((idx ([([]:List UInt8),([102,111,114,97,108,108]:List UInt8),([101,120,105,115,116,115]:List UInt8),([97,108,119,97,121,115]:List UInt8)]:List (List UInt8)) Bx).bind fun x1=>(some x1))
def E7 (n:Nat)  (s_l:(List Av)) (s_i:Int) (s_e:Int) (Dd:Int):Nat→Int→Option (LR Unit Int)
 | 0,_=>none
 | k2+1,s1=>(bif decide (s1≤3) then((Kv n s1).bind fun y11=>((E1 n y11 s_l s_i s_e Dd).bind fun y13=>(bif y13 then(some (.ret s1)) else(E7 n s_l s_i s_e Dd k2 (IntKind.i64.wrap (s1+1)))))) else(some (.out ())))
def Fc:Nat→(List Av)→Int→Int→Int→Option Int
 | 0,_,_,_,_=>none
 | n+1,s_l,s_i,s_e,Dd=>((E7 n s_l s_i s_e Dd n 1).bind fun o9=>match o9 with|.out _=>(some 0)|.ret v=>some v)
def Ej:Nat→(List Av)→Int→Int→Int→Option ((List UInt8)×Int×Int×Int)
 | 0,_,_,_,_=>none
 | n+1,s_l,s_i,s_e,Dd=>(bif (s_e==0) then((Ks n s_l s_i).bind fun y2=>(bif y2 then((idx s_l (IntKind.i64.wrap ((IntKind.i64.wrap (s_i+1)) - 1))).bind fun x5=>(some (x5.Bt,IntKind.i64.wrap (s_i+1),s_e,Dd))) else((Cq n s_l s_i s_e Dd).bind fun y6=>(some (([]:List UInt8),s_i,y6.1,y6.2))))) else((Cq n s_l s_i s_e Dd).bind fun y8=>(some (([]:List UInt8),s_i,y8.1,y8.2))))
def Eh:Nat→(List Av)→Int→Int→Int→Option (Int×Int×Int×Int)
 | 0,_,_,_,_=>none
 | n+1,s_l,s_i,s_e,Dd=>(bif (s_e==0) then(bif decide (s_i<((s_l.length:Nat):Int)) then((idx s_l s_i).bind fun x3=>(bif (x3.Ac==2) then((idx s_l (IntKind.i64.wrap ((IntKind.i64.wrap (s_i+1)) - 1))).bind fun x5=>(some (x5.Cu,IntKind.i64.wrap (s_i+1),s_e,Dd))) else((Cq n s_l s_i s_e Dd).bind fun y6=>(some (0,s_i,y6.1,y6.2))))) else((Cq n s_l s_i s_e Dd).bind fun y8=>(some (0,s_i,y8.1,y8.2)))) else((Cq n s_l s_i s_e Dd).bind fun y10=>(some (0,s_i,y10.1,y10.2))))
def E9 (n:Nat)  (s_l:(List Av)):Nat→Int→Int→Int→(List (List UInt8))→Option (LR (Int×Int×Int×(List (List UInt8))) (Am×Int×Int×Int))
 | 0,_,_,_,_=>none
 | k15+1,s11,s12,s13,s14=>(bif (s12==0) then((Cv n s_l s11 ([44]:List UInt8)).bind fun y24=>(bif y24 then((Ej n s_l (IntKind.i64.wrap (s11+1)) s12 s13).bind fun y27=>(bif decide ((s14.length+1)*17≤140737488355328) then(E9 n s_l k15 y27.2.1 y27.2.2.1 y27.2.2.2 (s14++([y27.1]:List (List UInt8)))) else none)) else(some (.out (s11,s12,s13,s14))))) else(some (.out (s11,s12,s13,s14))))
def Gz:Nat→(List Av)→Int→Int→Int→Option (Am×Int×Int×Int)
 | 0,_,_,_,_=>none
 | n+1,s_l,s_i,s_e,Dd=>((idx s_l s_i).bind fun x1=>((Ej n s_l (IntKind.i64.wrap (s_i+1)) s_e Dd).bind fun y2=>((Bv n ([123]:List UInt8) s_l y2.2.1 y2.2.2.1 y2.2.2.2).bind fun y4=>((E1 n ([114,101,103]:List UInt8) s_l y4.1 y4.2.1 y4.2.2).bind fun y6=>(bif y6 then((Ej n s_l (IntKind.i64.wrap (y4.1+1)) y4.2.1 y4.2.2).bind fun y9=>((E9 n s_l n y9.2.1 y9.2.2.1 y9.2.2.2 ([y9.1]:List (List UInt8))).bind fun o22=>match o22 with|.out (x32,x33,x34,x35)=>((Bv n ([59]:List UInt8) s_l x32 x33 x34).bind fun y36=>(bif (y36.2.1==0) then((Io n s_l y36.1).bind fun y39=>((E8 n y39.2.2.1 y39.2.2.2 s_l y36.1 y36.2.1 y36.2.2).bind fun y41=>((Bv n ([125]:List UInt8) s_l y39.2.1 y41.1 y41.2).bind fun y43=>(some ((⟨y2.1,x35,y39.1,x1.A8⟩:Am),y43.1,y43.2.1,y43.2.2))))) else((Bv n ([125]:List UInt8) s_l y36.1 y36.2.1 y36.2.2).bind fun y45=>(some ((⟨y2.1,x35,([]:List A0),x1.A8⟩:Am),y45.1,y45.2.1,y45.2.2)))))|.ret v=>some v)) else(bif (y4.2.1==0) then((Io n s_l y4.1).bind fun y49=>((E8 n y49.2.2.1 y49.2.2.2 s_l y4.1 y4.2.1 y4.2.2).bind fun y51=>((Bv n ([125]:List UInt8) s_l y49.2.1 y51.1 y51.2).bind fun y53=>(some ((⟨y2.1,([]:List (List UInt8)),y49.1,x1.A8⟩:Am),y53.1,y53.2.1,y53.2.2))))) else((Bv n ([125]:List UInt8) s_l y4.1 y4.2.1 y4.2.2).bind fun y55=>(some ((⟨y2.1,([]:List (List UInt8)),([]:List A0),x1.A8⟩:Am),y55.1,y55.2.1,y55.2.2)))))))))
def Gx (n:Nat)  (y1:((List Av)×Int×Int)):Nat→Int→Int→Int→(List B9)→Option (LR (Int×Int×Int×(List B9)) (Be×Int×Int))
 | 0,_,_,_,_=>none
 | k15+1,s11,s12,s13,s14=>((E1 n ([108,111,99]:List UInt8) y1.1 s11 s12 s13).bind fun y23=>(bif y23 then((idx y1.1 s11).bind fun x26=>((Ej n y1.1 (IntKind.i64.wrap (s11+1)) s12 s13).bind fun y27=>((Bv n ([61]:List UInt8) y1.1 y27.2.1 y27.2.2.1 y27.2.2.2).bind fun y29=>((Eh n y1.1 y29.1 y29.2.1 y29.2.2).bind fun y31=>((Bv n ([59]:List UInt8) y1.1 y31.2.1 y31.2.2.1 y31.2.2.2).bind fun y33=>(bif decide ((s14.length+1)*33≤140737488355328) then(Gx n y1 k15 y33.1 y33.2.1 y33.2.2 (s14++([(⟨y27.1,y31.1,x26.A8⟩:B9)]:List B9))) else none)))))) else(some (.out (s11,s12,s13,s14)))))
def H2 (n:Nat)  (y1:((List Av)×Int×Int)):Nat→Int→Int→Int→(List Am)→Option (LR (Int×Int×Int×(List Am)) (Be×Int×Int))
 | 0,_,_,_,_=>none
 | k46+1,s42,s43,s44,s45=>((E1 n ([116,104,114,101,97,100]:List UInt8) y1.1 s42 s43 s44).bind fun y54=>(bif y54 then((Gz n y1.1 s42 s43 s44).bind fun y57=>(bif decide ((s45.length+1)*73≤140737488355328) then(H2 n y1 k46 y57.2.1 y57.2.2.1 y57.2.2.2 (s45++([y57.1]:List Am))) else none)) else(some (.out (s42,s43,s44,s45)))))
def H0 (n:Nat)  (y1:((List Av)×Int×Int)):Nat→Int→Int→Int→(List At)→Option (LR (Int×Int×Int×(List At)) (Be×Int×Int))
 | 0,_,_,_,_=>none
 | k70+1,s66,s67,s68,s69=>((Fc n y1.1 s66 s67 s68).bind fun y78=>(bif decide (0<y78) then((Fc n y1.1 s66 s67 s68).bind fun y81=>((Hf n y81 y1.1 s66 s67 s68).bind fun y83=>(bif decide ((s69.length+1)*41≤140737488355328) then(H0 n y1 k70 y83.2.1 y83.2.2.1 y83.2.2.2 (s69++([y83.1]:List At))) else none))) else(some (.out (s66,s67,s68,s69)))))
def Gn (n:Nat)  (y1:((List Av)×Int×Int)):Nat→Int→Int→Int→(List B9)→Option (LR (Int×Int×Int×(List B9)) (Be×Int×Int))
 | 0,_,_,_,_=>none
 | k110+1,s106,s107,s108,s109=>((E1 n ([108,111,99]:List UInt8) y1.1 s106 s107 s108).bind fun y118=>(bif y118 then((idx y1.1 s106).bind fun x121=>((Ej n y1.1 (IntKind.i64.wrap (s106+1)) s107 s108).bind fun y122=>((Bv n ([61]:List UInt8) y1.1 y122.2.1 y122.2.2.1 y122.2.2.2).bind fun y124=>((Eh n y1.1 y124.1 y124.2.1 y124.2.2).bind fun y126=>((Bv n ([59]:List UInt8) y1.1 y126.2.1 y126.2.2.1 y126.2.2.2).bind fun y128=>(bif decide ((s109.length+1)*33≤140737488355328) then(Gn n y1 k110 y128.1 y128.2.1 y128.2.2 (s109++([(⟨y122.1,y126.1,x121.A8⟩:B9)]:List B9))) else none)))))) else(some (.out (s106,s107,s108,s109)))))
def H3 (n:Nat)  (y1:((List Av)×Int×Int)):Nat→Int→Int→Int→(List Am)→Option (LR (Int×Int×Int×(List Am)) (Be×Int×Int))
 | 0,_,_,_,_=>none
 | k141+1,s137,s138,s139,s140=>((E1 n ([116,104,114,101,97,100]:List UInt8) y1.1 s137 s138 s139).bind fun y149=>(bif y149 then((Gz n y1.1 s137 s138 s139).bind fun y152=>(bif decide ((s140.length+1)*73≤140737488355328) then(H3 n y1 k141 y152.2.1 y152.2.2.1 y152.2.2.2 (s140++([y152.1]:List Am))) else none)) else(some (.out (s137,s138,s139,s140)))))
def H1 (n:Nat)  (y1:((List Av)×Int×Int)):Nat→Int→Int→Int→(List At)→Option (LR (Int×Int×Int×(List At)) (Be×Int×Int))
 | 0,_,_,_,_=>none
 | k165+1,s161,s162,s163,s164=>((Fc n y1.1 s161 s162 s163).bind fun y173=>(bif decide (0<y173) then((Fc n y1.1 s161 s162 s163).bind fun y176=>((Hf n y176 y1.1 s161 s162 s163).bind fun y178=>(bif decide ((s164.length+1)*41≤140737488355328) then(H1 n y1 k165 y178.2.1 y178.2.2.1 y178.2.2.2 (s164++([y178.1]:List At))) else none))) else(some (.out (s161,s162,s163,s164)))))
def Ng:Nat→(List UInt8)→Option (Be×Int×Int)
 | 0,_=>none
 | n+1,A0c=>((Oi n A0c).bind fun y1=>(bif (y1.2.1 != 0) then(some ((⟨0,([]:List B9),([]:List Am),([]:List At)⟩:Be),y1.2.1,y1.2.2)) else((E1 n ([109,111,100]:List UInt8) y1.1 0 0 0).bind fun y4=>(bif y4 then((Eh n y1.1 (IntKind.i64.wrap ((0:Int)+1)) 0 0).bind fun y7=>((Bv n ([59]:List UInt8) y1.1 y7.2.1 y7.2.2.1 y7.2.2.2).bind fun y9=>((Gx n y1 n y9.1 y9.2.1 y9.2.2 ([]:List B9)).bind fun o22=>match o22 with|.out (x38,x39,x40,x41)=>((H2 n y1 n x38 x39 x40 ([]:List Am)).bind fun o53=>match o53 with|.out (x62,x63,x64,x65)=>((H0 n y1 n x62 x63 x64 ([]:List At)).bind fun o77=>match o77 with|.out (x88,x89,x90,x91)=>(bif decide (x88<((y1.1.length:Nat):Int)) then((Cq n y1.1 x88 x89 x90).bind fun y93=>(bif (y93.1 != 0) then(some ((⟨0,([]:List B9),([]:List Am),([]:List At)⟩:Be),y93.1,y93.2)) else(some ((⟨y7.1,x41,x65,x91⟩:Be),0,0)))) else(bif (x89 != 0) then(some ((⟨0,([]:List B9),([]:List Am),([]:List At)⟩:Be),x89,x90)) else(some ((⟨y7.1,x41,x65,x91⟩:Be),0,0))))|.ret v=>some v)|.ret v=>some v)|.ret v=>some v))) else((Cq n y1.1 0 0 0).bind fun y100=>((Eh n y1.1 0 y100.1 y100.2).bind fun y102=>((Bv n ([59]:List UInt8) y1.1 y102.2.1 y102.2.2.1 y102.2.2.2).bind fun y104=>((Gn n y1 n y104.1 y104.2.1 y104.2.2 ([]:List B9)).bind fun o117=>match o117 with|.out (x133,x134,x135,x136)=>((H3 n y1 n x133 x134 x135 ([]:List Am)).bind fun o148=>match o148 with|.out (x157,x158,x159,x160)=>((H1 n y1 n x157 x158 x159 ([]:List At)).bind fun o172=>match o172 with|.out (x183,x184,x185,x186)=>(bif decide (x183<((y1.1.length:Nat):Int)) then((Cq n y1.1 x183 x184 x185).bind fun y188=>(bif (y188.1 != 0) then(some ((⟨0,([]:List B9),([]:List Am),([]:List At)⟩:Be),y188.1,y188.2)) else(some ((⟨y102.1,x136,x160,x186⟩:Be),0,0)))) else(bif (x184 != 0) then(some ((⟨0,([]:List B9),([]:List Am),([]:List At)⟩:Be),x184,x185)) else(some ((⟨y102.1,x136,x160,x186⟩:Be),0,0))))|.ret v=>some v)|.ret v=>some v)|.ret v=>some v))))))))
def G9 (n:Nat)  (y1:(List Aa)):Nat→Int→Option (LR Unit Bool)
 | 0,_=>none
 | k4+1,s3=>(bif decide (s3<((y1.length:Nat):Int)) then((idx y1 s3).bind fun x13=>(bif (x13.Bg==2) then(some (.ret false)) else(G9 n y1 k4 (IntKind.i64.wrap (s3+1))))) else(some (.out ())))
def Ln:Nat→(List Aa)→Option Bool
 | 0,_=>none
 | n+1,A7=>((Ld n A7).bind fun y1=>((G9 n y1 n 0).bind fun o11=>match o11 with|.out _=>((Lb n A7).bind fun y16=>(some y16))|.ret v=>some v))
def Pb:Nat→Int→Option Bool
 | 0,_=>none
 | n+1,Dc=>(bif decide (0≤Dc) then(some (decide (Dc≤9999))) else(some false))
def Gt (n:Nat)  (A5:Be):Nat→Int→Option (LR Unit Bool)
 | 0,_=>none
 | k5+1,s4=>(bif decide (s4<((A5.Ao.length:Nat):Int)) then((idx A5.Ao s4).bind fun x14=>((D0 n x14.An).bind fun y15=>(bif y15 then((idx A5.Ao s4).bind fun x18=>((Pb n x18.Cu).bind fun y19=>(bif y19 then((idx A5.Ao s4).bind fun x22=>(bif decide (x22.A8<0) then(some (.ret false)) else(Gt n A5 k5 (IntKind.i64.wrap (s4+1))))) else(some (.ret false))))) else(some (.ret false))))) else(some (.out ())))
def Gw (n:Nat)  (x35:Am):Nat→Int→Option (LR Unit Bool)
 | 0,_=>none
 | k44+1,s43=>(bif decide (s43<((x35.B2.length:Nat):Int)) then((idx x35.B2 s43).bind fun x53=>((D0 n x53).bind fun y54=>(bif y54 then(Gw n x35 k44 (IntKind.i64.wrap (s43+1))) else(some (.ret false))))) else(some (.out ())))
def Gy (n:Nat)  (A5:Be):Nat→Int→Option (LR Unit Bool)
 | 0,_=>none
 | k26+1,s25=>(bif decide (s25<((A5.Ad.length:Nat):Int)) then((idx A5.Ad s25).bind fun x35=>((D0 n x35.An).bind fun y36=>(bif y36 then((Nf n x35.Al).bind fun y39=>(bif y39 then(bif decide (x35.A8<0) then(some (.ret false)) else((Gw n x35 n 0).bind fun o51=>match o51 with|.out _=>(Gy n A5 k26 (IntKind.i64.wrap (s25+1)))|.ret v=>some (.ret v))) else(some (.ret false)))) else(some (.ret false))))) else(some (.out ())))
def Gl (n:Nat)  (A5:Be):Nat→Int→Option (LR Unit Bool)
 | 0,_=>none
 | k61+1,s60=>(bif decide (s60<((A5.Aq.length:Nat):Int)) then((idx A5.Aq s60).bind fun x70=>(bif decide (x70.Ac<1) then(some (.ret false)) else(bif decide (3<x70.Ac) then(some (.ret false)) else((Ln n x70.B4).bind fun y73=>(bif y73 then(bif decide (x70.A8<0) then(some (.ret false)) else(Gl n A5 k61 (IntKind.i64.wrap (s60+1)))) else(some (.ret false))))))) else(some (.out ())))
def N7:Nat→Be→Option Bool
 | 0,_=>none
 | n+1,A5=>((Pb n A5.Ay).bind fun y1=>(bif y1 then((Gt n A5 n 0).bind fun o12=>match o12 with|.out _=>((Gy n A5 n 0).bind fun o33=>match o33 with|.out _=>((Gl n A5 n 0).bind fun o68=>match o68 with|.out _=>(some true)|.ret v=>some v)|.ret v=>some v)|.ret v=>some v) else(some false)))
def Lg:Nat→Int→Option Bool
 | 0,_=>none
 | n+1,Dc=>(bif decide (0≤Dc) then(some (decide (Dc≤9999))) else(some false))
def Pf:Nat→Int→Int→(List B9)→(List Am)→(List At)→Option Bool
 | 0,_,_,_,_,_=>none
 | n+1,Jp,Cc,By,Bl,Bp=>((idx By Jp).bind fun x1=>((Fa n x1.An).bind fun y2=>(bif y2 then((Lg n x1.Cu).bind fun y5=>(bif y5 then(some (decide (0≤x1.A8))) else(some false))) else(some false))))
def Je (n:Nat)  (Dc:Int) (Cc:Int) (By:(List B9)) (Bl:(List Am)) (Bp:(List At)):Nat→Int→Option (LR Unit Bool)
 | 0,_=>none
 | k2+1,s1=>(bif decide (s1<Dc) then((Pf n s1 Cc By Bl Bp).bind fun y11=>(bif y11 then(Je n Dc Cc By Bl Bp k2 (IntKind.i64.wrap (s1+1))) else(some (.ret false)))) else(some (.out ())))
def Re:Nat→Int→Int→(List B9)→(List Am)→(List At)→Option Bool
 | 0,_,_,_,_,_=>none
 | n+1,Dc,Cc,By,Bl,Bp=>((Je n Dc Cc By Bl Bp n 0).bind fun o9=>match o9 with|.out _=>(some true)|.ret v=>some v)
def Nw:Nat→Int→(List UInt8)→(List (List UInt8))→(List A0)→Int→Option Bool
 | 0,_,_,_,_,_=>none
 | n+1,Jp,Hh,H5,Hi,L6=>((idx H5 Jp).bind fun x1=>((Fa n x1).bind fun y2=>(some y2)))
def Hw (n:Nat)  (Dc:Int) (Hh:(List UInt8)) (H5:(List (List UInt8))) (Hi:(List A0)) (L6:Int):Nat→Int→Option (LR Unit Bool)
 | 0,_=>none
 | k2+1,s1=>(bif decide (s1<Dc) then((Nw n s1 Hh H5 Hi L6).bind fun y11=>(bif y11 then(Hw n Dc Hh H5 Hi L6 k2 (IntKind.i64.wrap (s1+1))) else(some (.ret false)))) else(some (.out ())))
def O5:Nat→Int→(List UInt8)→(List (List UInt8))→(List A0)→Int→Option Bool
 | 0,_,_,_,_,_=>none
 | n+1,Dc,Hh,H5,Hi,L6=>((Hw n Dc Hh H5 Hi L6 n 0).bind fun o9=>match o9 with|.out _=>(some true)|.ret v=>some v)
def N8:Nat→Am→Option Bool
 | 0,_=>none
 | n+1,S5=>((Fa n S5.An).bind fun y1=>(bif y1 then(bif decide (0≤S5.A8) then((O7 n S5.Al).bind fun y5=>(bif y5 then((O5 n ((S5.B2.length:Nat):Int) S5.An S5.B2 S5.Al S5.A8).bind fun y8=>(some y8)) else(some false))) else(some false)) else(some false)))
def P5:Nat→Int→Int→(List B9)→(List Am)→(List At)→Option Bool
 | 0,_,_,_,_,_=>none
 | n+1,Jp,Cc,By,Bl,Bp=>((idx Bl Jp).bind fun x1=>((N8 n x1).bind fun y2=>(some y2)))
def Hq (n:Nat)  (Dc:Int) (Cc:Int) (By:(List B9)) (Bl:(List Am)) (Bp:(List At)):Nat→Int→Option (LR Unit Bool)
 | 0,_=>none
 | k2+1,s1=>(bif decide (s1<Dc) then((P5 n s1 Cc By Bl Bp).bind fun y11=>(bif y11 then(Hq n Dc Cc By Bl Bp k2 (IntKind.i64.wrap (s1+1))) else(some (.ret false)))) else(some (.out ())))
def Ol:Nat→Int→Int→(List B9)→(List Am)→(List At)→Option Bool
 | 0,_,_,_,_,_=>none
 | n+1,Dc,Cc,By,Bl,Bp=>((Hq n Dc Cc By Bl Bp n 0).bind fun o9=>match o9 with|.out _=>(some true)|.ret v=>some v)
def Pp:Nat→Int→Option (List UInt8)
 | 0,_=>none
 | n+1,Bx=>(bif (Bx==1) then(some ([102,111,114,97,108,108]:List UInt8)) else(bif (Bx==2) then(some ([101,120,105,115,116,115]:List UInt8)) else(bif (Bx==3) then(some ([97,108,119,97,121,115]:List UInt8)) else(some ([]:List UInt8)))))
def Ir (n:Nat)  (y1:(List Aa)):Nat→Int→Option (LR Unit Bool)
 | 0,_=>none
 | k4+1,s3=>(bif decide (s3<((y1.length:Nat):Int)) then((idx y1 s3).bind fun x13=>(bif (x13.Bg==2) then(some (.ret false)) else(Ir n y1 k4 (IntKind.i64.wrap (s3+1))))) else(some (.out ())))
def Og:Nat→At→Option Bool
 | 0,_=>none
 | n+1,Gg=>((Mh n Gg.B4).bind fun y1=>((Ir n y1 n 0).bind fun o11=>match o11 with|.out _=>((Pp n Gg.Ac).bind fun y16=>(bif (y16==([]:List UInt8)) then(some false) else((Mq n Gg.B4).bind fun y19=>(bif y19 then(some (decide (0≤Gg.A8))) else(some false)))))|.ret v=>some v))
def Oy:Nat→Int→Int→(List B9)→(List Am)→(List At)→Option Bool
 | 0,_,_,_,_,_=>none
 | n+1,Jp,Cc,By,Bl,Bp=>((idx Bp Jp).bind fun x1=>((Og n x1).bind fun y2=>(some y2)))
def Hs (n:Nat)  (Dc:Int) (Cc:Int) (By:(List B9)) (Bl:(List Am)) (Bp:(List At)):Nat→Int→Option (LR Unit Bool)
 | 0,_=>none
 | k2+1,s1=>(bif decide (s1<Dc) then((Oy n s1 Cc By Bl Bp).bind fun y11=>(bif y11 then(Hs n Dc Cc By Bl Bp k2 (IntKind.i64.wrap (s1+1))) else(some (.ret false)))) else(some (.out ())))
def O9:Nat→Int→Int→(List B9)→(List Am)→(List At)→Option Bool
 | 0,_,_,_,_,_=>none
 | n+1,Dc,Cc,By,Bl,Bp=>((Hs n Dc Cc By Bl Bp n 0).bind fun o9=>match o9 with|.out _=>(some true)|.ret v=>some v)
def Oo:Nat→Be→Option Bool
 | 0,_=>none
 | n+1,A5=>((Re n ((A5.Ao.length:Nat):Int) A5.Ay A5.Ao A5.Ad A5.Aq).bind fun y1=>((Lg n A5.Ay).bind fun y3=>(bif y3 then(bif y1 then((Ol n ((A5.Ad.length:Nat):Int) A5.Ay A5.Ao A5.Ad A5.Aq).bind fun y7=>(bif y7 then((O9 n ((A5.Aq.length:Nat):Int) A5.Ay A5.Ao A5.Ad A5.Aq).bind fun y10=>(some y10)) else(some false))) else(some false)) else(some false))))
def I3 (n:Nat)  (A7:(List (List UInt8))) (Fx:(List UInt8)):Nat→Int→Option (LR Unit Int)
 | 0,_=>none
 | k2+1,s1=>(bif decide (s1<((A7.length:Nat):Int)) then((idx A7 s1).bind fun x11=>(bif (x11==Fx) then(some (.ret s1)) else(I3 n A7 Fx k2 (IntKind.i64.wrap (s1+1))))) else(some (.out ())))
def D2:Nat→(List (List UInt8))→(List UInt8)→Option Int
 | 0,_,_=>none
 | n+1,A7,Fx=>((I3 n A7 Fx n 0).bind fun o9=>match o9 with|.out _=>(some (-1))|.ret v=>some v)
def Iq (n:Nat)  (A5:Be):Nat→Int→(List (List UInt8))→Option (LR (List (List UInt8)) (List (List UInt8)))
 | 0,_,_=>none
 | k3+1,s1,s2=>(bif decide (s1<((A5.Ao.length:Nat):Int)) then((idx A5.Ao s1).bind fun x12=>(bif decide ((s2.length+1)*17≤140737488355328) then(Iq n A5 k3 (IntKind.i64.wrap (s1+1)) (s2++([x12.An]:List (List UInt8)))) else none)) else(some (.out s2)))
def Gb:Nat→Be→Option (List (List UInt8))
 | 0,_=>none
 | n+1,A5=>((Iq n A5 n 0 ([]:List (List UInt8))).bind fun o10=>match o10 with|.out x16=>(some x16)|.ret v=>some v)
def Ge (n:Nat)  (A5:Be):Nat→Int→(List (List UInt8))→Option (LR (List (List UInt8)) (List (List UInt8)))
 | 0,_,_=>none
 | k3+1,s1,s2=>(bif decide (s1<((A5.Ad.length:Nat):Int)) then((idx A5.Ad s1).bind fun x12=>(bif decide ((s2.length+1)*17≤140737488355328) then(Ge n A5 k3 (IntKind.i64.wrap (s1+1)) (s2++([x12.An]:List (List UInt8)))) else none)) else(some (.out s2)))
def Ii:Nat→Be→Option (List (List UInt8))
 | 0,_=>none
 | n+1,A5=>((Ge n A5 n 0 ([]:List (List UInt8))).bind fun o10=>match o10 with|.out x16=>(some x16)|.ret v=>some v)
def D8 (n:Nat)  (A5:Be) (x13:At):Nat→Int→Option (LR Unit (Int×Int))
 | 0,_=>none
 | k15+1,s14=>(bif decide (s14<((x13.B4.length:Nat):Int)) then((idx x13.B4 s14).bind fun x24=>(bif (x24.Bg==3) then((Gb n A5).bind fun y26=>((D2 n y26 x24.An).bind fun y28=>(bif decide (y28<0) then(some (.ret (9,x24.A8))) else(bif (x24.Bg==4) then((Ii n A5).bind fun y32=>((D2 n y32 x24.Df).bind fun y34=>(bif decide (y34<0) then(some (.ret (9,x24.A8))) else((idx A5.Ad y34).bind fun x37=>((D2 n x37.B2 x24.An).bind fun y38=>(bif decide (y38<0) then(some (.ret (9,x24.A8))) else(bif (x24.Bg==1) then(bif decide (A5.Ay≤x24.Cu) then(some (.ret (11,x24.A8))) else(D8 n A5 x13 k15 (IntKind.i64.wrap (s14+1)))) else(D8 n A5 x13 k15 (IntKind.i64.wrap (s14+1)))))))))) else(bif (x24.Bg==1) then(bif decide (A5.Ay≤x24.Cu) then(some (.ret (11,x24.A8))) else(D8 n A5 x13 k15 (IntKind.i64.wrap (s14+1)))) else(D8 n A5 x13 k15 (IntKind.i64.wrap (s14+1)))))))) else(bif (x24.Bg==4) then((Ii n A5).bind fun y46=>((D2 n y46 x24.Df).bind fun y48=>(bif decide (y48<0) then(some (.ret (9,x24.A8))) else((idx A5.Ad y48).bind fun x51=>((D2 n x51.B2 x24.An).bind fun y52=>(bif decide (y52<0) then(some (.ret (9,x24.A8))) else(bif (x24.Bg==1) then(bif decide (A5.Ay≤x24.Cu) then(some (.ret (11,x24.A8))) else(D8 n A5 x13 k15 (IntKind.i64.wrap (s14+1)))) else(D8 n A5 x13 k15 (IntKind.i64.wrap (s14+1)))))))))) else(bif (x24.Bg==1) then(bif decide (A5.Ay≤x24.Cu) then(some (.ret (11,x24.A8))) else(D8 n A5 x13 k15 (IntKind.i64.wrap (s14+1)))) else(D8 n A5 x13 k15 (IntKind.i64.wrap (s14+1))))))) else(some (.out ())))
def Hd (n:Nat)  (A5:Be):Nat→Int→Option (LR Unit (Int×Int))
 | 0,_=>none
 | k2+1,s1=>(bif decide (s1<((A5.Aq.length:Nat):Int)) then(bif decide (8≤s1) then((idx A5.Aq s1).bind fun x12=>(some (.ret (12,x12.A8)))) else((idx A5.Aq s1).bind fun x13=>((D8 n A5 x13 n 0).bind fun o22=>match o22 with|.out _=>(Hd n A5 k2 (IntKind.i64.wrap (s1+1)))|.ret v=>some (.ret v)))) else(some (.out ())))
def M7:Nat→Be→Option (Int×Int)
 | 0,_=>none
 | n+1,A5=>((Hd n A5 n 0).bind fun o9=>match o9 with|.out _=>(some (0,0))|.ret v=>some v)
def It (n:Nat)  (A5:Be) (y1:(List (List UInt8))):Nat→Int→Option (LR Unit (Int×Int))
 | 0,_=>none
 | k4+1,s3=>(bif decide (s3<((A5.Ao.length:Nat):Int)) then((idx A5.Ao s3).bind fun x13=>(bif decide (6≤s3) then(some (.ret (12,x13.A8))) else((D2 n y1 x13.An).bind fun y15=>(bif decide (y15<s3) then(some (.ret (10,x13.A8))) else(bif decide (A5.Ay≤x13.Cu) then(some (.ret (11,x13.A8))) else(It n A5 y1 k4 (IntKind.i64.wrap (s3+1)))))))) else(some (.out ())))
def Oa:Nat→Be→Option (Int×Int)
 | 0,_=>none
 | n+1,A5=>((Gb n A5).bind fun y1=>((It n A5 y1 n 0).bind fun o11=>match o11 with|.out _=>(some (0,0))|.ret v=>some v))
def Fb (n:Nat)  (A7:(List A0)) (Cj:Int):Nat→Int→Option (LR Unit Bool)
 | 0,_=>none
 | k2+1,s1=>(bif decide (s1<Cj) then((idx A7 s1).bind fun x11=>(bif (x11.Ac==11) then((idx A7 s1).bind fun x13=>(bif decide (Cj≤(IntKind.i64.wrap (s1+x13.Al))) then(some (.ret true)) else(Fb n A7 Cj k2 (IntKind.i64.wrap (s1+1))))) else((idx A7 s1).bind fun x15=>(bif (x15.Ac==12) then((idx A7 s1).bind fun x17=>(bif decide (Cj≤(IntKind.i64.wrap (s1+x17.Al))) then(some (.ret true)) else(Fb n A7 Cj k2 (IntKind.i64.wrap (s1+1))))) else(Fb n A7 Cj k2 (IntKind.i64.wrap (s1+1))))))) else(some (.out ())))
def Mc:Nat→(List A0)→Int→Option Bool
 | 0,_,_=>none
 | n+1,A7,Cj=>((Fb n A7 Cj n 0).bind fun o9=>match o9 with|.out _=>(some false)|.ret v=>some v)
def F4 (n:Nat)  (A5:Be) (Km:(List (List UInt8))) (La:(List Aa)):Nat→Int→Option (LR Unit (Int×Int))
 | 0,_=>none
 | k2+1,s1=>(bif decide (s1<((La.length:Nat):Int)) then((idx La s1).bind fun x11=>(bif (x11.Bg==2) then((idx La s1).bind fun x13=>((D2 n Km x13.An).bind fun y14=>(bif decide (y14<0) then((idx La s1).bind fun x17=>(some (.ret (9,x17.A8)))) else((idx La s1).bind fun x18=>(bif (x18.Bg==1) then((idx La s1).bind fun x20=>(bif decide (A5.Ay≤x20.Cu) then((idx La s1).bind fun x22=>(some (.ret (11,x22.A8)))) else(F4 n A5 Km La k2 (IntKind.i64.wrap (s1+1))))) else(F4 n A5 Km La k2 (IntKind.i64.wrap (s1+1)))))))) else((idx La s1).bind fun x23=>(bif (x23.Bg==1) then((idx La s1).bind fun x25=>(bif decide (A5.Ay≤x25.Cu) then((idx La s1).bind fun x27=>(some (.ret (11,x27.A8)))) else(F4 n A5 Km La k2 (IntKind.i64.wrap (s1+1))))) else(F4 n A5 Km La k2 (IntKind.i64.wrap (s1+1))))))) else(some (.out ())))
def D1:Nat→Be→(List (List UInt8))→(List Aa)→Option (Int×Int)
 | 0,_,_,_=>none
 | n+1,A5,Km,La=>((F4 n A5 Km La n 0).bind fun o9=>match o9 with|.out _=>(some (0,0))|.ret v=>some v)
def Dy (n:Nat)  (A5:Be) (Br:Am):Nat→Int→Option (LR Unit (Int×Int))
 | 0,_=>none
 | k2+1,s1=>(bif decide (s1<((Br.Al.length:Nat):Int)) then((idx Br.Al s1).bind fun x11=>(bif (x11.Ac==13) then((Mc n Br.Al s1).bind fun y13=>(bif y13 then(bif (x11.Ax==([]:List UInt8)) then(bif (x11.Au==([]:List UInt8)) then((D1 n A5 Br.B2 x11.B4).bind fun y18=>(bif (y18.1 != 0) then(some (.ret (y18.1,y18.2))) else((D1 n A5 Br.B2 x11.Bd).bind fun y21=>(bif (y21.1 != 0) then(some (.ret (y21.1,y21.2))) else(Dy n A5 Br k2 (IntKind.i64.wrap (s1+1))))))) else((Gb n A5).bind fun y24=>((D2 n y24 x11.Au).bind fun y26=>(bif decide (y26<0) then(some (.ret (9,x11.A8))) else((D1 n A5 Br.B2 x11.B4).bind fun y29=>(bif (y29.1 != 0) then(some (.ret (y29.1,y29.2))) else((D1 n A5 Br.B2 x11.Bd).bind fun y32=>(bif (y32.1 != 0) then(some (.ret (y32.1,y32.2))) else(Dy n A5 Br k2 (IntKind.i64.wrap (s1+1))))))))))) else((D2 n Br.B2 x11.Ax).bind fun y35=>(bif decide (y35<0) then(some (.ret (9,x11.A8))) else(bif (x11.Au==([]:List UInt8)) then((D1 n A5 Br.B2 x11.B4).bind fun y39=>(bif (y39.1 != 0) then(some (.ret (y39.1,y39.2))) else((D1 n A5 Br.B2 x11.Bd).bind fun y42=>(bif (y42.1 != 0) then(some (.ret (y42.1,y42.2))) else(Dy n A5 Br k2 (IntKind.i64.wrap (s1+1))))))) else((Gb n A5).bind fun y45=>((D2 n y45 x11.Au).bind fun y47=>(bif decide (y47<0) then(some (.ret (9,x11.A8))) else((D1 n A5 Br.B2 x11.B4).bind fun y50=>(bif (y50.1 != 0) then(some (.ret (y50.1,y50.2))) else((D1 n A5 Br.B2 x11.Bd).bind fun y53=>(bif (y53.1 != 0) then(some (.ret (y53.1,y53.2))) else(Dy n A5 Br k2 (IntKind.i64.wrap (s1+1)))))))))))))) else(some (.ret (13,x11.A8))))) else(bif (x11.Ax==([]:List UInt8)) then(bif (x11.Au==([]:List UInt8)) then((D1 n A5 Br.B2 x11.B4).bind fun y58=>(bif (y58.1 != 0) then(some (.ret (y58.1,y58.2))) else((D1 n A5 Br.B2 x11.Bd).bind fun y61=>(bif (y61.1 != 0) then(some (.ret (y61.1,y61.2))) else(Dy n A5 Br k2 (IntKind.i64.wrap (s1+1))))))) else((Gb n A5).bind fun y64=>((D2 n y64 x11.Au).bind fun y66=>(bif decide (y66<0) then(some (.ret (9,x11.A8))) else((D1 n A5 Br.B2 x11.B4).bind fun y69=>(bif (y69.1 != 0) then(some (.ret (y69.1,y69.2))) else((D1 n A5 Br.B2 x11.Bd).bind fun y72=>(bif (y72.1 != 0) then(some (.ret (y72.1,y72.2))) else(Dy n A5 Br k2 (IntKind.i64.wrap (s1+1))))))))))) else((D2 n Br.B2 x11.Ax).bind fun y75=>(bif decide (y75<0) then(some (.ret (9,x11.A8))) else(bif (x11.Au==([]:List UInt8)) then((D1 n A5 Br.B2 x11.B4).bind fun y79=>(bif (y79.1 != 0) then(some (.ret (y79.1,y79.2))) else((D1 n A5 Br.B2 x11.Bd).bind fun y82=>(bif (y82.1 != 0) then(some (.ret (y82.1,y82.2))) else(Dy n A5 Br k2 (IntKind.i64.wrap (s1+1))))))) else((Gb n A5).bind fun y85=>((D2 n y85 x11.Au).bind fun y87=>(bif decide (y87<0) then(some (.ret (9,x11.A8))) else((D1 n A5 Br.B2 x11.B4).bind fun y90=>(bif (y90.1 != 0) then(some (.ret (y90.1,y90.2))) else((D1 n A5 Br.B2 x11.Bd).bind fun y93=>(bif (y93.1 != 0) then(some (.ret (y93.1,y93.2))) else(Dy n A5 Br k2 (IntKind.i64.wrap (s1+1)))))))))))))))) else(some (.out ())))
def Or:Nat→Be→Am→Option (Int×Int)
 | 0,_,_=>none
 | n+1,A5,Br=>((Dy n A5 Br n 0).bind fun o9=>match o9 with|.out _=>(some (0,0))|.ret v=>some v)
def Fe (n:Nat)  (A5:Be) (x14:Am):Nat→Int→Option (LR Unit (Int×Int))
 | 0,_=>none
 | k21+1,s20=>(bif decide (s20<((x14.B2.length:Nat):Int)) then((idx x14.B2 s20).bind fun x30=>((D2 n x14.B2 x30).bind fun y31=>(bif decide (y31<s20) then(some (.ret (10,x14.A8))) else((Gb n A5).bind fun y34=>((idx x14.B2 s20).bind fun x36=>((D2 n y34 x36).bind fun y37=>(bif decide (0≤y37) then(some (.ret (10,x14.A8))) else(Fe n A5 x14 k21 (IntKind.i64.wrap (s20+1)))))))))) else(some (.out ())))
def G8 (n:Nat)  (A5:Be) (y2:(List (List UInt8))):Nat→Int→Option (LR Unit (Int×Int))
 | 0,_=>none
 | k5+1,s4=>(bif decide (s4<((A5.Ad.length:Nat):Int)) then((idx A5.Ad s4).bind fun x14=>(bif decide (4≤s4) then(some (.ret (12,x14.A8))) else((D2 n y2 x14.An).bind fun y16=>(bif decide (y16<s4) then(some (.ret (10,x14.A8))) else(bif decide (6<((x14.B2.length:Nat):Int)) then(some (.ret (12,x14.A8))) else((Fe n A5 x14 n 0).bind fun o28=>match o28 with|.out _=>((Or n A5 x14).bind fun y41=>(bif (y41.1 != 0) then(some (.ret (y41.1,y41.2))) else(G8 n A5 y2 k5 (IntKind.i64.wrap (s4+1)))))|.ret v=>some (.ret v))))))) else(some (.out ())))
def Lp:Nat→Be→Option (Int×Int)
 | 0,_=>none
 | n+1,A5=>(bif (((A5.Ad.length:Nat):Int)==0) then(some (12,0)) else((Ii n A5).bind fun y2=>((G8 n A5 y2 n 0).bind fun o12=>match o12 with|.out _=>(some (0,0))|.ret v=>some v)))
def Nb:Nat→Be→Option (Int×Int)
 | 0,_=>none
 | n+1,A5=>((N7 n A5).bind fun y1=>(bif y1 then(bif decide (A5.Ay<2) then(some (11,0)) else(bif decide (16<A5.Ay) then(some (11,0)) else((Oa n A5).bind fun y6=>(bif (y6.1 != 0) then(some (y6.1,y6.2)) else((Lp n A5).bind fun y9=>(bif (y9.1 != 0) then(some (y9.1,y9.2)) else((M7 n A5).bind fun y12=>(some (y12.1,y12.2))))))))) else(some (8,0))))
def Ag:Nat→Bool→Int→Int→Int→(List B9)→(List Am)→(List At)→Int→Int→(List ((List UInt8)×Int))→(List ((List UInt8)×(List ((List UInt8)×Int))))→Option (Bool×Int×Int)
 | 0,_,_,_,_,_,_,_,_,_,_,_=>none
 | n+1,A78,A1r,A3n,A9,A3,A1,A2,c_e,c_at,Ap,Ar=>(bif A78 then(some ((c_e==0),c_e,c_at)) else(bif (c_e==0) then(some ((A1r==0),A1r,A3n)) else(some ((c_e==0),c_e,c_at))))
def Ee:Nat→Aa→Int→(List B9)→(List Am)→(List At)→Int→Int→(List ((List UInt8)×Int))→(List ((List UInt8)×(List ((List UInt8)×Int))))→Option Bool
 | 0,_,_,_,_,_,_,_,_,_=>none
 | n+1,S6,So,R5,Ms,Nr,A50,A0d,Ar,Bn=>(bif (S6.Bg==3) then(some (decide (0<(C2 Ar S6.An 0)))) else(some (decide (0<(C2 (C2 Bn S6.Df ([]:(List ((List UInt8)×Int)))) S6.An 0)))))
def Cn (n:Nat)  (Dk:(List Aa)) (A9:Int) (A3:(List B9)) (A1:(List Am)) (A2:(List At)) (Ap:(List ((List UInt8)×Int))) (Ar:(List ((List UInt8)×(List ((List UInt8)×Int))))):Nat→Int→Int→Int→Option (LR (Int×Int) (Int×Int))
 | 0,_,_,_=>none
 | k4+1,s1,s2,s3=>(bif decide (s1<((Dk.length:Nat):Int)) then((idx Dk s1).bind fun x13=>(bif (x13.Bg==1) then((Ag n (decide (x13.Cu<A9)) 11 x13.A8 A9 A3 A1 A2 s2 s3 Ap Ar).bind fun y15=>(Cn n Dk A9 A3 A1 A2 Ap Ar k4 (IntKind.i64.wrap (s1+1)) y15.2.1 y15.2.2)) else(bif (x13.Bg==2) then((Ee n x13 A9 A3 A1 A2 s2 s3 Ap Ar).bind fun y18=>((Ag n y18 9 x13.A8 A9 A3 A1 A2 s2 s3 Ap Ar).bind fun y20=>(Cn n Dk A9 A3 A1 A2 Ap Ar k4 (IntKind.i64.wrap (s1+1)) y20.2.1 y20.2.2))) else(bif (x13.Bg==3) then((Ee n x13 A9 A3 A1 A2 s2 s3 Ap Ar).bind fun y23=>((Ag n y23 9 x13.A8 A9 A3 A1 A2 s2 s3 Ap Ar).bind fun y25=>(Cn n Dk A9 A3 A1 A2 Ap Ar k4 (IntKind.i64.wrap (s1+1)) y25.2.1 y25.2.2))) else(bif (x13.Bg==4) then((Ee n x13 A9 A3 A1 A2 s2 s3 Ap Ar).bind fun y28=>((Ag n y28 9 x13.A8 A9 A3 A1 A2 s2 s3 Ap Ar).bind fun y30=>(Cn n Dk A9 A3 A1 A2 Ap Ar k4 (IntKind.i64.wrap (s1+1)) y30.2.1 y30.2.2))) else(Cn n Dk A9 A3 A1 A2 Ap Ar k4 (IntKind.i64.wrap (s1+1)) s2 s3)))))) else(some (.out (s2,s3))))
def I0:Nat→(List Aa)→Int→(List B9)→(List Am)→(List At)→Int→Int→(List ((List UInt8)×Int))→(List ((List UInt8)×(List ((List UInt8)×Int))))→Option (Int×Int)
 | 0,_,_,_,_,_,_,_,_,_=>none
 | n+1,Dk,A9,A3,A1,A2,c_e,c_at,Ap,Ar=>((Cn n Dk A9 A3 A1 A2 Ap Ar n 0 c_e c_at).bind fun o11=>match o11 with|.out (x33,x34)=>(some (x33,x34))|.ret v=>some v)
def G6:Nat→Int→At→Int→(List B9)→(List Am)→(List At)→Int→Int→(List ((List UInt8)×Int))→(List ((List UInt8)×(List ((List UInt8)×Int))))→Option (Int×Int)
 | 0,_,_,_,_,_,_,_,_,_,_=>none
 | n+1,B7,Ch,A9,A3,A1,A2,c_e,c_at,Ap,Ar=>((Ag n (decide (B7<8)) 12 Ch.A8 A9 A3 A1 A2 c_e c_at Ap Ar).bind fun y1=>((I0 n Ch.B4 A9 A3 A1 A2 y1.2.1 y1.2.2 Ap Ar).bind fun y3=>(some (y3.1,y3.2))))
def Fd:Nat→Aa→(List ((List UInt8)×Int))→Option Bool
 | 0,_,_=>none
 | n+1,Bc,Ap=>(some (decide (0<(C2 Ap Bc.An 0))))
def Cf (n:Nat)  (Dk:(List Aa)) (A9:Int) (A3:(List B9)) (A1:(List Am)) (A2:(List At)) (Ap:(List ((List UInt8)×Int))) (Ar:(List ((List UInt8)×(List ((List UInt8)×Int))))) (F7:(List ((List UInt8)×Int))):Nat→Int→Int→Int→Option (LR (Int×Int) (Int×Int))
 | 0,_,_,_=>none
 | k4+1,s1,s2,s3=>(bif decide (s1<((Dk.length:Nat):Int)) then((idx Dk s1).bind fun x13=>(bif (x13.Bg==1) then((Ag n (decide (x13.Cu<A9)) 11 x13.A8 A9 A3 A1 A2 s2 s3 Ap Ar).bind fun y15=>(Cf n Dk A9 A3 A1 A2 Ap Ar F7 k4 (IntKind.i64.wrap (s1+1)) y15.2.1 y15.2.2)) else(bif (x13.Bg==2) then((Fd n x13 F7).bind fun y18=>((Ag n y18 9 x13.A8 A9 A3 A1 A2 s2 s3 Ap Ar).bind fun y20=>(Cf n Dk A9 A3 A1 A2 Ap Ar F7 k4 (IntKind.i64.wrap (s1+1)) y20.2.1 y20.2.2))) else(bif (x13.Bg==3) then((Fd n x13 F7).bind fun y23=>((Ag n y23 9 x13.A8 A9 A3 A1 A2 s2 s3 Ap Ar).bind fun y25=>(Cf n Dk A9 A3 A1 A2 Ap Ar F7 k4 (IntKind.i64.wrap (s1+1)) y25.2.1 y25.2.2))) else(bif (x13.Bg==4) then((Fd n x13 F7).bind fun y28=>((Ag n y28 9 x13.A8 A9 A3 A1 A2 s2 s3 Ap Ar).bind fun y30=>(Cf n Dk A9 A3 A1 A2 Ap Ar F7 k4 (IntKind.i64.wrap (s1+1)) y30.2.1 y30.2.2))) else(Cf n Dk A9 A3 A1 A2 Ap Ar F7 k4 (IntKind.i64.wrap (s1+1)) s2 s3)))))) else(some (.out (s2,s3))))
def B6:Nat→(List Aa)→Int→(List B9)→(List Am)→(List At)→Int→Int→(List ((List UInt8)×Int))→(List ((List UInt8)×(List ((List UInt8)×Int))))→(List ((List UInt8)×Int))→Option (Int×Int)
 | 0,_,_,_,_,_,_,_,_,_,_=>none
 | n+1,Dk,A9,A3,A1,A2,c_e,c_at,Ap,Ar,F7=>((Cf n Dk A9 A3 A1 A2 Ap Ar F7 n 0 c_e c_at).bind fun o11=>match o11 with|.out (x33,x34)=>(some (x33,x34))|.ret v=>some v)
def Bq (n:Nat)  (Br:Am) (A9:Int) (A3:(List B9)) (A1:(List Am)) (A2:(List At)) (Ap:(List ((List UInt8)×Int))) (Ar:(List ((List UInt8)×(List ((List UInt8)×Int))))) (Bn:(List ((List UInt8)×Int))):Nat→Int→Int→Int→Int→Option (LR (Int×Int) (Int×Int))
 | 0,_,_,_,_=>none
 | k5+1,s1,s2,s3,s4=>(bif decide (s2<((Br.Al.length:Nat):Int)) then((idx Br.Al s2).bind fun x14=>(bif (x14.Ac==11) then(bif (x14.Ax==([]:List UInt8)) then((Ag n true 9 x14.A8 A9 A3 A1 A2 s3 s4 Ap Ar).bind fun y17=>(bif (x14.Au==([]:List UInt8)) then((Ag n true 9 x14.A8 A9 A3 A1 A2 y17.2.1 y17.2.2 Ap Ar).bind fun y20=>((B6 n x14.B4 A9 A3 A1 A2 y20.2.1 y20.2.2 Ap Ar Bn).bind fun y22=>((B6 n x14.Bd A9 A3 A1 A2 y22.1 y22.2 Ap Ar Bn).bind fun y24=>(Bq n Br A9 A3 A1 A2 Ap Ar Bn k5 (if s1<(IntKind.i64.wrap ((IntKind.i64.wrap (s2+1))+x14.Al)) then(IntKind.i64.wrap ((IntKind.i64.wrap (s2+1))+x14.Al)) else s1) (IntKind.i64.wrap (s2+1)) y24.1 y24.2)))) else((Ag n (decide (0<(C2 Ap x14.Au 0))) 9 x14.A8 A9 A3 A1 A2 y17.2.1 y17.2.2 Ap Ar).bind fun y26=>((B6 n x14.B4 A9 A3 A1 A2 y26.2.1 y26.2.2 Ap Ar Bn).bind fun y28=>((B6 n x14.Bd A9 A3 A1 A2 y28.1 y28.2 Ap Ar Bn).bind fun y30=>(Bq n Br A9 A3 A1 A2 Ap Ar Bn k5 (if s1<(IntKind.i64.wrap ((IntKind.i64.wrap (s2+1))+x14.Al)) then(IntKind.i64.wrap ((IntKind.i64.wrap (s2+1))+x14.Al)) else s1) (IntKind.i64.wrap (s2+1)) y30.1 y30.2)))))) else((Ag n (decide (0<(C2 Bn x14.Ax 0))) 9 x14.A8 A9 A3 A1 A2 s3 s4 Ap Ar).bind fun y32=>(bif (x14.Au==([]:List UInt8)) then((Ag n true 9 x14.A8 A9 A3 A1 A2 y32.2.1 y32.2.2 Ap Ar).bind fun y35=>((B6 n x14.B4 A9 A3 A1 A2 y35.2.1 y35.2.2 Ap Ar Bn).bind fun y37=>((B6 n x14.Bd A9 A3 A1 A2 y37.1 y37.2 Ap Ar Bn).bind fun y39=>(Bq n Br A9 A3 A1 A2 Ap Ar Bn k5 (if s1<(IntKind.i64.wrap ((IntKind.i64.wrap (s2+1))+x14.Al)) then(IntKind.i64.wrap ((IntKind.i64.wrap (s2+1))+x14.Al)) else s1) (IntKind.i64.wrap (s2+1)) y39.1 y39.2)))) else((Ag n (decide (0<(C2 Ap x14.Au 0))) 9 x14.A8 A9 A3 A1 A2 y32.2.1 y32.2.2 Ap Ar).bind fun y41=>((B6 n x14.B4 A9 A3 A1 A2 y41.2.1 y41.2.2 Ap Ar Bn).bind fun y43=>((B6 n x14.Bd A9 A3 A1 A2 y43.1 y43.2 Ap Ar Bn).bind fun y45=>(Bq n Br A9 A3 A1 A2 Ap Ar Bn k5 (if s1<(IntKind.i64.wrap ((IntKind.i64.wrap (s2+1))+x14.Al)) then(IntKind.i64.wrap ((IntKind.i64.wrap (s2+1))+x14.Al)) else s1) (IntKind.i64.wrap (s2+1)) y45.1 y45.2))))))) else(bif (x14.Ac==12) then(bif (x14.Ax==([]:List UInt8)) then((Ag n true 9 x14.A8 A9 A3 A1 A2 s3 s4 Ap Ar).bind fun y49=>(bif (x14.Au==([]:List UInt8)) then((Ag n true 9 x14.A8 A9 A3 A1 A2 y49.2.1 y49.2.2 Ap Ar).bind fun y52=>((B6 n x14.B4 A9 A3 A1 A2 y52.2.1 y52.2.2 Ap Ar Bn).bind fun y54=>((B6 n x14.Bd A9 A3 A1 A2 y54.1 y54.2 Ap Ar Bn).bind fun y56=>(Bq n Br A9 A3 A1 A2 Ap Ar Bn k5 (if s1<(IntKind.i64.wrap ((IntKind.i64.wrap (s2+1))+x14.Al)) then(IntKind.i64.wrap ((IntKind.i64.wrap (s2+1))+x14.Al)) else s1) (IntKind.i64.wrap (s2+1)) y56.1 y56.2)))) else((Ag n (decide (0<(C2 Ap x14.Au 0))) 9 x14.A8 A9 A3 A1 A2 y49.2.1 y49.2.2 Ap Ar).bind fun y58=>((B6 n x14.B4 A9 A3 A1 A2 y58.2.1 y58.2.2 Ap Ar Bn).bind fun y60=>((B6 n x14.Bd A9 A3 A1 A2 y60.1 y60.2 Ap Ar Bn).bind fun y62=>(Bq n Br A9 A3 A1 A2 Ap Ar Bn k5 (if s1<(IntKind.i64.wrap ((IntKind.i64.wrap (s2+1))+x14.Al)) then(IntKind.i64.wrap ((IntKind.i64.wrap (s2+1))+x14.Al)) else s1) (IntKind.i64.wrap (s2+1)) y62.1 y62.2)))))) else((Ag n (decide (0<(C2 Bn x14.Ax 0))) 9 x14.A8 A9 A3 A1 A2 s3 s4 Ap Ar).bind fun y64=>(bif (x14.Au==([]:List UInt8)) then((Ag n true 9 x14.A8 A9 A3 A1 A2 y64.2.1 y64.2.2 Ap Ar).bind fun y67=>((B6 n x14.B4 A9 A3 A1 A2 y67.2.1 y67.2.2 Ap Ar Bn).bind fun y69=>((B6 n x14.Bd A9 A3 A1 A2 y69.1 y69.2 Ap Ar Bn).bind fun y71=>(Bq n Br A9 A3 A1 A2 Ap Ar Bn k5 (if s1<(IntKind.i64.wrap ((IntKind.i64.wrap (s2+1))+x14.Al)) then(IntKind.i64.wrap ((IntKind.i64.wrap (s2+1))+x14.Al)) else s1) (IntKind.i64.wrap (s2+1)) y71.1 y71.2)))) else((Ag n (decide (0<(C2 Ap x14.Au 0))) 9 x14.A8 A9 A3 A1 A2 y64.2.1 y64.2.2 Ap Ar).bind fun y73=>((B6 n x14.B4 A9 A3 A1 A2 y73.2.1 y73.2.2 Ap Ar Bn).bind fun y75=>((B6 n x14.Bd A9 A3 A1 A2 y75.1 y75.2 Ap Ar Bn).bind fun y77=>(Bq n Br A9 A3 A1 A2 Ap Ar Bn k5 (if s1<(IntKind.i64.wrap ((IntKind.i64.wrap (s2+1))+x14.Al)) then(IntKind.i64.wrap ((IntKind.i64.wrap (s2+1))+x14.Al)) else s1) (IntKind.i64.wrap (s2+1)) y77.1 y77.2))))))) else(bif (x14.Ac==13) then((Ag n (decide (s2<s1)) 13 x14.A8 A9 A3 A1 A2 s3 s4 Ap Ar).bind fun y80=>(bif (x14.Ax==([]:List UInt8)) then((Ag n true 9 x14.A8 A9 A3 A1 A2 y80.2.1 y80.2.2 Ap Ar).bind fun y83=>(bif (x14.Au==([]:List UInt8)) then((Ag n true 9 x14.A8 A9 A3 A1 A2 y83.2.1 y83.2.2 Ap Ar).bind fun y86=>((B6 n x14.B4 A9 A3 A1 A2 y86.2.1 y86.2.2 Ap Ar Bn).bind fun y88=>((B6 n x14.Bd A9 A3 A1 A2 y88.1 y88.2 Ap Ar Bn).bind fun y90=>(Bq n Br A9 A3 A1 A2 Ap Ar Bn k5 s1 (IntKind.i64.wrap (s2+1)) y90.1 y90.2)))) else((Ag n (decide (0<(C2 Ap x14.Au 0))) 9 x14.A8 A9 A3 A1 A2 y83.2.1 y83.2.2 Ap Ar).bind fun y92=>((B6 n x14.B4 A9 A3 A1 A2 y92.2.1 y92.2.2 Ap Ar Bn).bind fun y94=>((B6 n x14.Bd A9 A3 A1 A2 y94.1 y94.2 Ap Ar Bn).bind fun y96=>(Bq n Br A9 A3 A1 A2 Ap Ar Bn k5 s1 (IntKind.i64.wrap (s2+1)) y96.1 y96.2)))))) else((Ag n (decide (0<(C2 Bn x14.Ax 0))) 9 x14.A8 A9 A3 A1 A2 y80.2.1 y80.2.2 Ap Ar).bind fun y98=>(bif (x14.Au==([]:List UInt8)) then((Ag n true 9 x14.A8 A9 A3 A1 A2 y98.2.1 y98.2.2 Ap Ar).bind fun y101=>((B6 n x14.B4 A9 A3 A1 A2 y101.2.1 y101.2.2 Ap Ar Bn).bind fun y103=>((B6 n x14.Bd A9 A3 A1 A2 y103.1 y103.2 Ap Ar Bn).bind fun y105=>(Bq n Br A9 A3 A1 A2 Ap Ar Bn k5 s1 (IntKind.i64.wrap (s2+1)) y105.1 y105.2)))) else((Ag n (decide (0<(C2 Ap x14.Au 0))) 9 x14.A8 A9 A3 A1 A2 y98.2.1 y98.2.2 Ap Ar).bind fun y107=>((B6 n x14.B4 A9 A3 A1 A2 y107.2.1 y107.2.2 Ap Ar Bn).bind fun y109=>((B6 n x14.Bd A9 A3 A1 A2 y109.1 y109.2 Ap Ar Bn).bind fun y111=>(Bq n Br A9 A3 A1 A2 Ap Ar Bn k5 s1 (IntKind.i64.wrap (s2+1)) y111.1 y111.2)))))))) else(bif (x14.Ax==([]:List UInt8)) then((Ag n true 9 x14.A8 A9 A3 A1 A2 s3 s4 Ap Ar).bind fun y114=>(bif (x14.Au==([]:List UInt8)) then((Ag n true 9 x14.A8 A9 A3 A1 A2 y114.2.1 y114.2.2 Ap Ar).bind fun y117=>((B6 n x14.B4 A9 A3 A1 A2 y117.2.1 y117.2.2 Ap Ar Bn).bind fun y119=>((B6 n x14.Bd A9 A3 A1 A2 y119.1 y119.2 Ap Ar Bn).bind fun y121=>(Bq n Br A9 A3 A1 A2 Ap Ar Bn k5 s1 (IntKind.i64.wrap (s2+1)) y121.1 y121.2)))) else((Ag n (decide (0<(C2 Ap x14.Au 0))) 9 x14.A8 A9 A3 A1 A2 y114.2.1 y114.2.2 Ap Ar).bind fun y123=>((B6 n x14.B4 A9 A3 A1 A2 y123.2.1 y123.2.2 Ap Ar Bn).bind fun y125=>((B6 n x14.Bd A9 A3 A1 A2 y125.1 y125.2 Ap Ar Bn).bind fun y127=>(Bq n Br A9 A3 A1 A2 Ap Ar Bn k5 s1 (IntKind.i64.wrap (s2+1)) y127.1 y127.2)))))) else((Ag n (decide (0<(C2 Bn x14.Ax 0))) 9 x14.A8 A9 A3 A1 A2 s3 s4 Ap Ar).bind fun y129=>(bif (x14.Au==([]:List UInt8)) then((Ag n true 9 x14.A8 A9 A3 A1 A2 y129.2.1 y129.2.2 Ap Ar).bind fun y132=>((B6 n x14.B4 A9 A3 A1 A2 y132.2.1 y132.2.2 Ap Ar Bn).bind fun y134=>((B6 n x14.Bd A9 A3 A1 A2 y134.1 y134.2 Ap Ar Bn).bind fun y136=>(Bq n Br A9 A3 A1 A2 Ap Ar Bn k5 s1 (IntKind.i64.wrap (s2+1)) y136.1 y136.2)))) else((Ag n (decide (0<(C2 Ap x14.Au 0))) 9 x14.A8 A9 A3 A1 A2 y129.2.1 y129.2.2 Ap Ar).bind fun y138=>((B6 n x14.B4 A9 A3 A1 A2 y138.2.1 y138.2.2 Ap Ar Bn).bind fun y140=>((B6 n x14.Bd A9 A3 A1 A2 y140.1 y140.2 Ap Ar Bn).bind fun y142=>(Bq n Br A9 A3 A1 A2 Ap Ar Bn k5 s1 (IntKind.i64.wrap (s2+1)) y142.1 y142.2))))))))))) else(some (.out (s3,s4))))
def In:Nat→Am→Int→(List B9)→(List Am)→(List At)→Int→Int→(List ((List UInt8)×Int))→(List ((List UInt8)×(List ((List UInt8)×Int))))→(List ((List UInt8)×Int))→Option (Int×Int)
 | 0,_,_,_,_,_,_,_,_,_,_=>none
 | n+1,Br,A9,A3,A1,A2,c_e,c_at,Ap,Ar,Bn=>((Bq n Br A9 A3 A1 A2 Ap Ar Bn n 0 0 c_e c_at).bind fun o12=>match o12 with|.out (x145,x146)=>(some (x145,x146))|.ret v=>some v)
def F0:Nat→Aa→(List ((List UInt8)×Int))→Option Bool
 | 0,_,_=>none
 | n+1,Bc,Ap=>(some (decide (0<(C2 Ap Bc.An 0))))
def Ce (n:Nat)  (Dk:(List Aa)) (A9:Int) (A3:(List B9)) (A1:(List Am)) (A2:(List At)) (Ap:(List ((List UInt8)×Int))) (Ar:(List ((List UInt8)×(List ((List UInt8)×Int))))) (F7:(List ((List UInt8)×Int))):Nat→Int→Int→Int→Option (LR (Int×Int) (Int×Int))
 | 0,_,_,_=>none
 | k4+1,s1,s2,s3=>(bif decide (s1<((Dk.length:Nat):Int)) then((idx Dk s1).bind fun x13=>(bif (x13.Bg==1) then((Ag n (decide (x13.Cu<A9)) 11 x13.A8 A9 A3 A1 A2 s2 s3 Ap Ar).bind fun y15=>(Ce n Dk A9 A3 A1 A2 Ap Ar F7 k4 (IntKind.i64.wrap (s1+1)) y15.2.1 y15.2.2)) else(bif (x13.Bg==2) then((F0 n x13 F7).bind fun y18=>((Ag n y18 9 x13.A8 A9 A3 A1 A2 s2 s3 Ap Ar).bind fun y20=>(Ce n Dk A9 A3 A1 A2 Ap Ar F7 k4 (IntKind.i64.wrap (s1+1)) y20.2.1 y20.2.2))) else(bif (x13.Bg==3) then((F0 n x13 F7).bind fun y23=>((Ag n y23 9 x13.A8 A9 A3 A1 A2 s2 s3 Ap Ar).bind fun y25=>(Ce n Dk A9 A3 A1 A2 Ap Ar F7 k4 (IntKind.i64.wrap (s1+1)) y25.2.1 y25.2.2))) else(bif (x13.Bg==4) then((F0 n x13 F7).bind fun y28=>((Ag n y28 9 x13.A8 A9 A3 A1 A2 s2 s3 Ap Ar).bind fun y30=>(Ce n Dk A9 A3 A1 A2 Ap Ar F7 k4 (IntKind.i64.wrap (s1+1)) y30.2.1 y30.2.2))) else(Ce n Dk A9 A3 A1 A2 Ap Ar F7 k4 (IntKind.i64.wrap (s1+1)) s2 s3)))))) else(some (.out (s2,s3))))
def B5:Nat→(List Aa)→Int→(List B9)→(List Am)→(List At)→Int→Int→(List ((List UInt8)×Int))→(List ((List UInt8)×(List ((List UInt8)×Int))))→(List ((List UInt8)×Int))→Option (Int×Int)
 | 0,_,_,_,_,_,_,_,_,_,_=>none
 | n+1,Dk,A9,A3,A1,A2,c_e,c_at,Ap,Ar,F7=>((Ce n Dk A9 A3 A1 A2 Ap Ar F7 n 0 c_e c_at).bind fun o11=>match o11 with|.out (x33,x34)=>(some (x33,x34))|.ret v=>some v)
end Go.Proofs.YtpnhafdimkmbbaaGreat
end
section
namespace Go.Proofs.YtpnhafdimkmbbaaGreat
set_option linter.unusedVariables false
set_option linter.unusedSimpArgs false
set_option maxRecDepth 100000
set_option maxHeartbeats 4000000
def Bo (n:Nat)  (Br:Am) (A9:Int) (A3:(List B9)) (A1:(List Am)) (A2:(List At)) (Ap:(List ((List UInt8)×Int))) (Ar:(List ((List UInt8)×(List ((List UInt8)×Int))))) (Bn:(List ((List UInt8)×Int))):Nat→Int→Int→Int→Int→Option (LR (Int×Int) (Int×Int))
 | 0,_,_,_,_=>none
 | k5+1,s1,s2,s3,s4=>(bif decide (s2<((Br.Al.length:Nat):Int)) then((idx Br.Al s2).bind fun x14=>(bif (x14.Ac==11) then(bif (x14.Ax==([]:List UInt8)) then((Ag n true 9 x14.A8 A9 A3 A1 A2 s3 s4 Ap Ar).bind fun y17=>(bif (x14.Au==([]:List UInt8)) then((Ag n true 9 x14.A8 A9 A3 A1 A2 y17.2.1 y17.2.2 Ap Ar).bind fun y20=>((B5 n x14.B4 A9 A3 A1 A2 y20.2.1 y20.2.2 Ap Ar Bn).bind fun y22=>((B5 n x14.Bd A9 A3 A1 A2 y22.1 y22.2 Ap Ar Bn).bind fun y24=>(Bo n Br A9 A3 A1 A2 Ap Ar Bn k5 (if s1<(IntKind.i64.wrap ((IntKind.i64.wrap (s2+1))+x14.Al)) then(IntKind.i64.wrap ((IntKind.i64.wrap (s2+1))+x14.Al)) else s1) (IntKind.i64.wrap (s2+1)) y24.1 y24.2)))) else((Ag n (decide (0<(C2 Ap x14.Au 0))) 9 x14.A8 A9 A3 A1 A2 y17.2.1 y17.2.2 Ap Ar).bind fun y26=>((B5 n x14.B4 A9 A3 A1 A2 y26.2.1 y26.2.2 Ap Ar Bn).bind fun y28=>((B5 n x14.Bd A9 A3 A1 A2 y28.1 y28.2 Ap Ar Bn).bind fun y30=>(Bo n Br A9 A3 A1 A2 Ap Ar Bn k5 (if s1<(IntKind.i64.wrap ((IntKind.i64.wrap (s2+1))+x14.Al)) then(IntKind.i64.wrap ((IntKind.i64.wrap (s2+1))+x14.Al)) else s1) (IntKind.i64.wrap (s2+1)) y30.1 y30.2)))))) else((Ag n (decide (0<(C2 Bn x14.Ax 0))) 9 x14.A8 A9 A3 A1 A2 s3 s4 Ap Ar).bind fun y32=>(bif (x14.Au==([]:List UInt8)) then((Ag n true 9 x14.A8 A9 A3 A1 A2 y32.2.1 y32.2.2 Ap Ar).bind fun y35=>((B5 n x14.B4 A9 A3 A1 A2 y35.2.1 y35.2.2 Ap Ar Bn).bind fun y37=>((B5 n x14.Bd A9 A3 A1 A2 y37.1 y37.2 Ap Ar Bn).bind fun y39=>(Bo n Br A9 A3 A1 A2 Ap Ar Bn k5 (if s1<(IntKind.i64.wrap ((IntKind.i64.wrap (s2+1))+x14.Al)) then(IntKind.i64.wrap ((IntKind.i64.wrap (s2+1))+x14.Al)) else s1) (IntKind.i64.wrap (s2+1)) y39.1 y39.2)))) else((Ag n (decide (0<(C2 Ap x14.Au 0))) 9 x14.A8 A9 A3 A1 A2 y32.2.1 y32.2.2 Ap Ar).bind fun y41=>((B5 n x14.B4 A9 A3 A1 A2 y41.2.1 y41.2.2 Ap Ar Bn).bind fun y43=>((B5 n x14.Bd A9 A3 A1 A2 y43.1 y43.2 Ap Ar Bn).bind fun y45=>(Bo n Br A9 A3 A1 A2 Ap Ar Bn k5 (if s1<(IntKind.i64.wrap ((IntKind.i64.wrap (s2+1))+x14.Al)) then(IntKind.i64.wrap ((IntKind.i64.wrap (s2+1))+x14.Al)) else s1) (IntKind.i64.wrap (s2+1)) y45.1 y45.2))))))) else(bif (x14.Ac==12) then(bif (x14.Ax==([]:List UInt8)) then((Ag n true 9 x14.A8 A9 A3 A1 A2 s3 s4 Ap Ar).bind fun y49=>(bif (x14.Au==([]:List UInt8)) then((Ag n true 9 x14.A8 A9 A3 A1 A2 y49.2.1 y49.2.2 Ap Ar).bind fun y52=>((B5 n x14.B4 A9 A3 A1 A2 y52.2.1 y52.2.2 Ap Ar Bn).bind fun y54=>((B5 n x14.Bd A9 A3 A1 A2 y54.1 y54.2 Ap Ar Bn).bind fun y56=>(Bo n Br A9 A3 A1 A2 Ap Ar Bn k5 (if s1<(IntKind.i64.wrap ((IntKind.i64.wrap (s2+1))+x14.Al)) then(IntKind.i64.wrap ((IntKind.i64.wrap (s2+1))+x14.Al)) else s1) (IntKind.i64.wrap (s2+1)) y56.1 y56.2)))) else((Ag n (decide (0<(C2 Ap x14.Au 0))) 9 x14.A8 A9 A3 A1 A2 y49.2.1 y49.2.2 Ap Ar).bind fun y58=>((B5 n x14.B4 A9 A3 A1 A2 y58.2.1 y58.2.2 Ap Ar Bn).bind fun y60=>((B5 n x14.Bd A9 A3 A1 A2 y60.1 y60.2 Ap Ar Bn).bind fun y62=>(Bo n Br A9 A3 A1 A2 Ap Ar Bn k5 (if s1<(IntKind.i64.wrap ((IntKind.i64.wrap (s2+1))+x14.Al)) then(IntKind.i64.wrap ((IntKind.i64.wrap (s2+1))+x14.Al)) else s1) (IntKind.i64.wrap (s2+1)) y62.1 y62.2)))))) else((Ag n (decide (0<(C2 Bn x14.Ax 0))) 9 x14.A8 A9 A3 A1 A2 s3 s4 Ap Ar).bind fun y64=>(bif (x14.Au==([]:List UInt8)) then((Ag n true 9 x14.A8 A9 A3 A1 A2 y64.2.1 y64.2.2 Ap Ar).bind fun y67=>((B5 n x14.B4 A9 A3 A1 A2 y67.2.1 y67.2.2 Ap Ar Bn).bind fun y69=>((B5 n x14.Bd A9 A3 A1 A2 y69.1 y69.2 Ap Ar Bn).bind fun y71=>(Bo n Br A9 A3 A1 A2 Ap Ar Bn k5 (if s1<(IntKind.i64.wrap ((IntKind.i64.wrap (s2+1))+x14.Al)) then(IntKind.i64.wrap ((IntKind.i64.wrap (s2+1))+x14.Al)) else s1) (IntKind.i64.wrap (s2+1)) y71.1 y71.2)))) else((Ag n (decide (0<(C2 Ap x14.Au 0))) 9 x14.A8 A9 A3 A1 A2 y64.2.1 y64.2.2 Ap Ar).bind fun y73=>((B5 n x14.B4 A9 A3 A1 A2 y73.2.1 y73.2.2 Ap Ar Bn).bind fun y75=>((B5 n x14.Bd A9 A3 A1 A2 y75.1 y75.2 Ap Ar Bn).bind fun y77=>(Bo n Br A9 A3 A1 A2 Ap Ar Bn k5 (if s1<(IntKind.i64.wrap ((IntKind.i64.wrap (s2+1))+x14.Al)) then(IntKind.i64.wrap ((IntKind.i64.wrap (s2+1))+x14.Al)) else s1) (IntKind.i64.wrap (s2+1)) y77.1 y77.2))))))) else(bif (x14.Ac==13) then((Ag n (decide (s2<s1)) 13 x14.A8 A9 A3 A1 A2 s3 s4 Ap Ar).bind fun y80=>(bif (x14.Ax==([]:List UInt8)) then((Ag n true 9 x14.A8 A9 A3 A1 A2 y80.2.1 y80.2.2 Ap Ar).bind fun y83=>(bif (x14.Au==([]:List UInt8)) then((Ag n true 9 x14.A8 A9 A3 A1 A2 y83.2.1 y83.2.2 Ap Ar).bind fun y86=>((B5 n x14.B4 A9 A3 A1 A2 y86.2.1 y86.2.2 Ap Ar Bn).bind fun y88=>((B5 n x14.Bd A9 A3 A1 A2 y88.1 y88.2 Ap Ar Bn).bind fun y90=>(Bo n Br A9 A3 A1 A2 Ap Ar Bn k5 s1 (IntKind.i64.wrap (s2+1)) y90.1 y90.2)))) else((Ag n (decide (0<(C2 Ap x14.Au 0))) 9 x14.A8 A9 A3 A1 A2 y83.2.1 y83.2.2 Ap Ar).bind fun y92=>((B5 n x14.B4 A9 A3 A1 A2 y92.2.1 y92.2.2 Ap Ar Bn).bind fun y94=>((B5 n x14.Bd A9 A3 A1 A2 y94.1 y94.2 Ap Ar Bn).bind fun y96=>(Bo n Br A9 A3 A1 A2 Ap Ar Bn k5 s1 (IntKind.i64.wrap (s2+1)) y96.1 y96.2)))))) else((Ag n (decide (0<(C2 Bn x14.Ax 0))) 9 x14.A8 A9 A3 A1 A2 y80.2.1 y80.2.2 Ap Ar).bind fun y98=>(bif (x14.Au==([]:List UInt8)) then((Ag n true 9 x14.A8 A9 A3 A1 A2 y98.2.1 y98.2.2 Ap Ar).bind fun y101=>((B5 n x14.B4 A9 A3 A1 A2 y101.2.1 y101.2.2 Ap Ar Bn).bind fun y103=>((B5 n x14.Bd A9 A3 A1 A2 y103.1 y103.2 Ap Ar Bn).bind fun y105=>(Bo n Br A9 A3 A1 A2 Ap Ar Bn k5 s1 (IntKind.i64.wrap (s2+1)) y105.1 y105.2)))) else((Ag n (decide (0<(C2 Ap x14.Au 0))) 9 x14.A8 A9 A3 A1 A2 y98.2.1 y98.2.2 Ap Ar).bind fun y107=>((B5 n x14.B4 A9 A3 A1 A2 y107.2.1 y107.2.2 Ap Ar Bn).bind fun y109=>((B5 n x14.Bd A9 A3 A1 A2 y109.1 y109.2 Ap Ar Bn).bind fun y111=>(Bo n Br A9 A3 A1 A2 Ap Ar Bn k5 s1 (IntKind.i64.wrap (s2+1)) y111.1 y111.2)))))))) else(bif (x14.Ax==([]:List UInt8)) then((Ag n true 9 x14.A8 A9 A3 A1 A2 s3 s4 Ap Ar).bind fun y114=>(bif (x14.Au==([]:List UInt8)) then((Ag n true 9 x14.A8 A9 A3 A1 A2 y114.2.1 y114.2.2 Ap Ar).bind fun y117=>((B5 n x14.B4 A9 A3 A1 A2 y117.2.1 y117.2.2 Ap Ar Bn).bind fun y119=>((B5 n x14.Bd A9 A3 A1 A2 y119.1 y119.2 Ap Ar Bn).bind fun y121=>(Bo n Br A9 A3 A1 A2 Ap Ar Bn k5 s1 (IntKind.i64.wrap (s2+1)) y121.1 y121.2)))) else((Ag n (decide (0<(C2 Ap x14.Au 0))) 9 x14.A8 A9 A3 A1 A2 y114.2.1 y114.2.2 Ap Ar).bind fun y123=>((B5 n x14.B4 A9 A3 A1 A2 y123.2.1 y123.2.2 Ap Ar Bn).bind fun y125=>((B5 n x14.Bd A9 A3 A1 A2 y125.1 y125.2 Ap Ar Bn).bind fun y127=>(Bo n Br A9 A3 A1 A2 Ap Ar Bn k5 s1 (IntKind.i64.wrap (s2+1)) y127.1 y127.2)))))) else((Ag n (decide (0<(C2 Bn x14.Ax 0))) 9 x14.A8 A9 A3 A1 A2 s3 s4 Ap Ar).bind fun y129=>(bif (x14.Au==([]:List UInt8)) then((Ag n true 9 x14.A8 A9 A3 A1 A2 y129.2.1 y129.2.2 Ap Ar).bind fun y132=>((B5 n x14.B4 A9 A3 A1 A2 y132.2.1 y132.2.2 Ap Ar Bn).bind fun y134=>((B5 n x14.Bd A9 A3 A1 A2 y134.1 y134.2 Ap Ar Bn).bind fun y136=>(Bo n Br A9 A3 A1 A2 Ap Ar Bn k5 s1 (IntKind.i64.wrap (s2+1)) y136.1 y136.2)))) else((Ag n (decide (0<(C2 Ap x14.Au 0))) 9 x14.A8 A9 A3 A1 A2 y129.2.1 y129.2.2 Ap Ar).bind fun y138=>((B5 n x14.B4 A9 A3 A1 A2 y138.2.1 y138.2.2 Ap Ar Bn).bind fun y140=>((B5 n x14.Bd A9 A3 A1 A2 y140.1 y140.2 Ap Ar Bn).bind fun y142=>(Bo n Br A9 A3 A1 A2 Ap Ar Bn k5 s1 (IntKind.i64.wrap (s2+1)) y142.1 y142.2))))))))))) else(some (.out (s3,s4))))
def Hk:Nat→Am→Int→(List B9)→(List Am)→(List At)→Int→Int→(List ((List UInt8)×Int))→(List ((List UInt8)×(List ((List UInt8)×Int))))→(List ((List UInt8)×Int))→Option (Int×Int)
 | 0,_,_,_,_,_,_,_,_,_,_=>none
 | n+1,Br,A9,A3,A1,A2,c_e,c_at,Ap,Ar,Bn=>((Bo n Br A9 A3 A1 A2 Ap Ar Bn n 0 0 c_e c_at).bind fun o12=>match o12 with|.out (x145,x146)=>(some (x145,x146))|.ret v=>some v)
def Da (n:Nat)  (F8:Am) (A9:Int) (A3:(List B9)) (A1:(List Am)) (A2:(List At)) (Ap:(List ((List UInt8)×Int))) (Ar:(List ((List UInt8)×(List ((List UInt8)×Int))))):Nat→Int→Int→Int→(List ((List UInt8)×Int))→Option (LR (Int×Int×(List ((List UInt8)×Int))) (Int×Int×(List ((List UInt8)×(List ((List UInt8)×Int))))))
 | 0,_,_,_,_=>none
 | k11+1,s7,s8,s9,s10=>(bif decide (s7<((F8.B2.length:Nat):Int)) then((idx F8.B2 s7).bind fun x20=>(bif ((C2 (Hn s10 x20 (IntKind.i64.wrap ((C2 s10 x20 0)+1))) x20 0)==1) then((Ag n ((C2 Ap x20 0)==0) 10 F8.A8 A9 A3 A1 A2 s8 s9 Ap Ar).bind fun y23=>(Da n F8 A9 A3 A1 A2 Ap Ar k11 (IntKind.i64.wrap (s7+1)) y23.2.1 y23.2.2 (Hn s10 x20 (IntKind.i64.wrap ((C2 s10 x20 0)+1))))) else((Ag n false 10 F8.A8 A9 A3 A1 A2 s8 s9 Ap Ar).bind fun y25=>(Da n F8 A9 A3 A1 A2 Ap Ar k11 (IntKind.i64.wrap (s7+1)) y25.2.1 y25.2.2 (Hn s10 x20 (IntKind.i64.wrap ((C2 s10 x20 0)+1))))))) else(some (.out (s8,s9,s10))))
def Fp:Nat→Int→Am→Int→(List B9)→(List Am)→(List At)→Int→Int→(List ((List UInt8)×Int))→(List ((List UInt8)×(List ((List UInt8)×Int))))→Option (Int×Int×(List ((List UInt8)×(List ((List UInt8)×Int)))))
 | 0,_,_,_,_,_,_,_,_,_,_=>none
 | n+1,B7,F8,A9,A3,A1,A2,c_e,c_at,Ap,Ar=>((Ag n (decide (B7<4)) 12 F8.A8 A9 A3 A1 A2 c_e c_at Ap Ar).bind fun y1=>((Ag n (!(Mg Ar F8.An)) 10 F8.A8 A9 A3 A1 A2 y1.2.1 y1.2.2 Ap Ar).bind fun y3=>((Ag n (decide (((F8.B2.length:Nat):Int)≤6)) 12 F8.A8 A9 A3 A1 A2 y3.2.1 y3.2.2 Ap Ar).bind fun y5=>((Da n F8 A9 A3 A1 A2 Ap Ar n 0 y5.2.1 y5.2.2 ([]:(List ((List UInt8)×Int)))).bind fun o18=>match o18 with|.out (x28,x29,x30)=>(bif (Mg Ar F8.An) then((In n F8 A9 A3 A1 A2 x28 x29 Ap Ar x30).bind fun y32=>(some (y32.1,y32.2,Ar))) else((Hk n F8 A9 A3 A1 A2 x28 x29 Ap (Hn Ar F8.An x30) x30).bind fun y35=>(some (y35.1,y35.2,(Hn Ar F8.An x30)))))|.ret v=>some v))))
def Ea (n:Nat)  (A9:Int) (A3:(List B9)) (A1:(List Am)) (A2:(List At)) (Ar:(List ((List UInt8)×(List ((List UInt8)×Int))))):Nat→Int→Int→Int→(List ((List UInt8)×Int))→Option (LR (Int×Int×(List ((List UInt8)×Int))) (Int×Int×(List ((List UInt8)×Int))))
 | 0,_,_,_,_=>none
 | k5+1,s1,s2,s3,s4=>(bif decide (s1<((A3.length:Nat):Int)) then((idx A3 s1).bind fun x14=>((Ag n (decide (s1<6)) 12 x14.A8 A9 A3 A1 A2 s2 s3 s4 Ar).bind fun y15=>((Ag n ((C2 s4 x14.An 0)==0) 10 x14.A8 A9 A3 A1 A2 y15.2.1 y15.2.2 s4 Ar).bind fun y17=>((Ag n (decide (x14.Cu<A9)) 11 x14.A8 A9 A3 A1 A2 y17.2.1 y17.2.2 s4 Ar).bind fun y19=>(Ea n A9 A3 A1 A2 Ar k5 (IntKind.i64.wrap (s1+1)) y19.2.1 y19.2.2 (Hn s4 x14.An (IntKind.i64.wrap ((C2 s4 x14.An 0)+1)))))))) else(some (.out (s2,s3,s4))))
def Fg:Nat→Int→(List B9)→(List Am)→(List At)→Int→Int→(List ((List UInt8)×Int))→(List ((List UInt8)×(List ((List UInt8)×Int))))→Option (Int×Int×(List ((List UInt8)×Int)))
 | 0,_,_,_,_,_,_,_,_=>none
 | n+1,A9,A3,A1,A2,c_e,c_at,Ap,Ar=>((Ea n A9 A3 A1 A2 Ar n 0 c_e c_at Ap).bind fun o12=>match o12 with|.out (x23,x24,x25)=>(some (x23,x24,x25))|.ret v=>some v)
def Ez (n:Nat)  (A5:Be) (y7:(Int×Int×(List ((List UInt8)×Int)))):Nat→Int→(List ((List UInt8)×(List ((List UInt8)×Int))))→Int→Int→Option (LR (Int×Int×(List ((List UInt8)×(List ((List UInt8)×Int))))) (Int×Int))
 | 0,_,_,_,_=>none
 | k15+1,s11,s12,s13,s14=>(bif decide (s11<((A5.Ad.length:Nat):Int)) then((idx A5.Ad s11).bind fun x24=>((Fp n s11 x24 A5.Ay A5.Ao A5.Ad A5.Aq s13 s14 y7.2.2 s12).bind fun y25=>(Ez n A5 y7 k15 (IntKind.i64.wrap (s11+1)) y25.2.2 y25.1 y25.2.1))) else(some (.out (s13,s14,s12))))
def Ev (n:Nat)  (A5:Be) (y7:(Int×Int×(List ((List UInt8)×Int)))) (x30:(List ((List UInt8)×(List ((List UInt8)×Int))))):Nat→Int→Int→Int→Option (LR (Int×Int) (Int×Int))
 | 0,_,_,_=>none
 | k34+1,s31,s32,s33=>(bif decide (s31<((A5.Aq.length:Nat):Int)) then((idx A5.Aq s31).bind fun x43=>((G6 n s31 x43 A5.Ay A5.Ao A5.Ad A5.Aq s32 s33 y7.2.2 x30).bind fun y44=>(Ev n A5 y7 x30 k34 (IntKind.i64.wrap (s31+1)) y44.1 y44.2))) else(some (.out (s32,s33))))
def J9 (n:Nat)  (A5:Be) (y53:(Int×Int×(List ((List UInt8)×Int)))):Nat→Int→(List ((List UInt8)×(List ((List UInt8)×Int))))→Int→Int→Option (LR (Int×Int×(List ((List UInt8)×(List ((List UInt8)×Int))))) (Int×Int))
 | 0,_,_,_,_=>none
 | k61+1,s57,s58,s59,s60=>(bif decide (s57<((A5.Ad.length:Nat):Int)) then((idx A5.Ad s57).bind fun x70=>((Fp n s57 x70 A5.Ay A5.Ao A5.Ad A5.Aq s59 s60 y53.2.2 s58).bind fun y71=>(J9 n A5 y53 k61 (IntKind.i64.wrap (s57+1)) y71.2.2 y71.1 y71.2.1))) else(some (.out (s59,s60,s58))))
def J8 (n:Nat)  (A5:Be) (y53:(Int×Int×(List ((List UInt8)×Int)))) (x76:(List ((List UInt8)×(List ((List UInt8)×Int))))):Nat→Int→Int→Int→Option (LR (Int×Int) (Int×Int))
 | 0,_,_,_=>none
 | k80+1,s77,s78,s79=>(bif decide (s77<((A5.Aq.length:Nat):Int)) then((idx A5.Aq s77).bind fun x89=>((G6 n s77 x89 A5.Ay A5.Ao A5.Ad A5.Aq s78 s79 y53.2.2 x76).bind fun y90=>(J8 n A5 y53 x76 k80 (IntKind.i64.wrap (s77+1)) y90.1 y90.2))) else(some (.out (s78,s79))))
def Gh:Nat→Be→Option (Int×Int)
 | 0,_=>none
 | n+1,A5=>((Oo n A5).bind fun y1=>(bif y1 then(bif decide (2≤A5.Ay) then((Ag n (decide (A5.Ay≤16)) 11 0 A5.Ay A5.Ao A5.Ad A5.Aq 0 0 ([]:(List ((List UInt8)×Int))) ([]:(List ((List UInt8)×(List ((List UInt8)×Int)))))).bind fun y5=>((Fg n A5.Ay A5.Ao A5.Ad A5.Aq y5.2.1 y5.2.2 ([]:(List ((List UInt8)×Int))) ([]:(List ((List UInt8)×(List ((List UInt8)×Int)))))).bind fun y7=>((Ag n (decide (0<((A5.Ad.length:Nat):Int))) 12 0 A5.Ay A5.Ao A5.Ad A5.Aq y7.1 y7.2.1 y7.2.2 ([]:(List ((List UInt8)×(List ((List UInt8)×Int)))))).bind fun y9=>((Ez n A5 y7 n 0 ([]:(List ((List UInt8)×(List ((List UInt8)×Int))))) y9.2.1 y9.2.2).bind fun o22=>match o22 with|.out (x28,x29,x30)=>((Ev n A5 y7 x30 n 0 x28 x29).bind fun o41=>match o41 with|.out (x47,x48)=>(some (x47,x48))|.ret v=>some v)|.ret v=>some v)))) else((Ag n false 11 0 A5.Ay A5.Ao A5.Ad A5.Aq 0 0 ([]:(List ((List UInt8)×Int))) ([]:(List ((List UInt8)×(List ((List UInt8)×Int)))))).bind fun y51=>((Fg n A5.Ay A5.Ao A5.Ad A5.Aq y51.2.1 y51.2.2 ([]:(List ((List UInt8)×Int))) ([]:(List ((List UInt8)×(List ((List UInt8)×Int)))))).bind fun y53=>((Ag n (decide (0<((A5.Ad.length:Nat):Int))) 12 0 A5.Ay A5.Ao A5.Ad A5.Aq y53.1 y53.2.1 y53.2.2 ([]:(List ((List UInt8)×(List ((List UInt8)×Int)))))).bind fun y55=>((J9 n A5 y53 n 0 ([]:(List ((List UInt8)×(List ((List UInt8)×Int))))) y55.2.1 y55.2.2).bind fun o68=>match o68 with|.out (x74,x75,x76)=>((J8 n A5 y53 x76 n 0 x74 x75).bind fun o87=>match o87 with|.out (x93,x94)=>(some (x93,x94))|.ret v=>some v)|.ret v=>some v))))) else(some (8,0))))
def Mf (n:Nat)  (A7:(List (List UInt8))) (Fx:(List UInt8)):Nat→Int→Option (LR Unit Int)
 | 0,_=>none
 | k2+1,s1=>(bif decide (s1<((A7.length:Nat):Int)) then((idx A7 s1).bind fun x11=>(bif (x11==Fx) then(some (.ret s1)) else(Mf n A7 Fx k2 (IntKind.i64.wrap (s1+1))))) else(some (.out ())))
def Qh:Nat→(List (List UInt8))→(List UInt8)→Option Int
 | 0,_,_=>none
 | n+1,A7,Fx=>((Mf n A7 Fx n 0).bind fun o9=>match o9 with|.out _=>(some (-1))|.ret v=>some v)
def N2 (n:Nat)  (A5:Be):Nat→Int→(List (List UInt8))→Option (LR (List (List UInt8)) (List (List UInt8)))
 | 0,_,_=>none
 | k3+1,s1,s2=>(bif decide (s1<((A5.Ao.length:Nat):Int)) then((idx A5.Ao s1).bind fun x12=>(bif decide ((s2.length+1)*17≤140737488355328) then(N2 n A5 k3 (IntKind.i64.wrap (s1+1)) (s2++([x12.An]:List (List UInt8)))) else none)) else(some (.out s2)))
def Uv:Nat→Be→Option (List (List UInt8))
 | 0,_=>none
 | n+1,A5=>((N2 n A5 n 0 ([]:List (List UInt8))).bind fun o10=>match o10 with|.out x16=>(some x16)|.ret v=>some v)
def Fo:Nat→(List UInt8)→Option Be
 | 0,_=>none
 | n+1,Bs=>((Ng n Bs).bind fun y1=>(some y1.1))
def Le:Nat→Option Bool
 | 0=>none
 | n+1=>((Fo n ([109,111,100,32,50,59,32,108,111,99,32,120,32,61,32,48,59,32,116,104,114,101,97,100,32,116,32,123,32,108,111,97,100,32,97,32,61,32,120,59,32,125]:List UInt8)).bind fun y1=>((Gh n y1).bind fun y3=>((Fo n ([109,111,100,32,50,59,32,116,104,114,101,97,100,32,116,32,123,32,114,101,103,32,97,59,32,115,101,116,32,97,32,61,32,50,59,32,125]:List UInt8)).bind fun y5=>((Gh n y5).bind fun y7=>((Fo n ([109,111,100,32,50,59,32,116,104,114,101,97,100,32,116,32,123,32,105,102,32,49,32,123,32,98,114,101,97,107,59,32,125,32,125]:List UInt8)).bind fun y9=>((Gh n y9).bind fun y11=>((Fo n (List.append ([109,111,100,32,50,59,32,108,111,99,32,120,32,61,32,48,59,32,116,104,114,101,97,100,32,116,32,123,32,114,101,103,32,97,59,32,108,111,111,112,32]:List UInt8) ([123,32,108,111,97,100,32,97,32,61,32,120,59,32,98,114,101,97,107,59,32,125,32,125,32,97,108,119,97,121,115,32,116,46,97,32,61,61,32,120,59]:List UInt8))).bind fun y13=>((Gh n y13).bind fun y15=>(bif (y3.1==9) then(bif (y3.2==29) then(bif (y7.1==11) then(bif (y7.2==33) then(bif (y11.1==13) then(bif (y11.2==25) then(bif (y15.1==0) then(bif (y15.2==0) then((Qh n ([([97]:List UInt8),([98]:List UInt8)]:List (List UInt8)) ([98]:List UInt8)).bind fun y25=>(bif (y25==1) then((Qh n ([]:List (List UInt8)) ([98]:List UInt8)).bind fun y28=>(bif (y28==(-1)) then((Fo n ([109,111,100,32,50,59,32,108,111,99,32,120,32,61,32,48,59]:List UInt8)).bind fun y31=>((Uv n y31).bind fun y33=>(some (((y33.length:Nat):Int)==1)))) else(some false))) else(some false))) else(some false)) else(some false)) else(some false)) else(some false)) else(some false)) else(some false)) else(some false)) else(some false))))))))))
def Ji:Nat→(List UInt8)→Option Bool
 | 0,_=>none
 | n+1,Bs=>(bif decide (3000<((Bs.length:Nat):Int)) then((Le n ).bind fun y2=>(some y2)) else((Fo n Bs).bind fun y4=>((Gh n y4).bind fun y6=>((Nb n y4).bind fun y8=>(bif (y6.1==y8.1) then(bif (y6.2==y8.2) then(bif decide (0≤y6.2) then(bif decide (y6.2≤((Bs.length:Nat):Int)) then((Le n ).bind fun y14=>(some y14)) else(some false)) else(some false)) else(some false)) else(some false))))))
end Go.Proofs.YtpnhafdimkmbbaaGreat
end
section
namespace Go.Proofs.YtpnhafdimkmbbaaGreat
set_option linter.unusedVariables false
set_option linter.unusedSimpArgs false
theorem E3 {α:Type} {l:List α} {i:Nat} (h:i < l.length):idx l (i:Int)=some l[i]:=by rw[Mo,List.getElem?_eq_getElem h]
theorem B3 (k:Nat) (h:k < 4611686018427387904):IntKind.i64.wrap ((k:Int)+1)=((k+1:Nat):Int):=Aex k (by omega)
theorem Af {α:Type} {p:Prop} [Decidable p] (h:p) (a b:α):(bif decide p then a else b)=a:=by rw[decide_eq_true h];rfl
theorem As {α:Type} {p:Prop} [Decidable p] (h:¬ p) (a b:α):(bif decide p then a else b)=b:=by rw[decide_eq_false h];rfl
theorem An5 (a b:Nat):((a:Int)==(b:Int))=(a==b):=by
 by_cases h:a=b
 ·subst h;simp
 ·have:¬ (a:Int)=(b:Int):=by omega
  rw[beq_eq_false_iff_ne.2 h,beq_eq_false_iff_ne.2 this]
theorem Ami (a b:Nat):((a:Int) != (b:Int))=!(a==b):=by rw[← An5];rfl
end Go.Proofs.YtpnhafdimkmbbaaGreat
end
section
namespace Go.Proofs.YtpnhafdimkmbbaaGreat
set_option linter.unusedVariables false
set_option linter.unusedSimpArgs false
theorem Ag6 {α σ ρ:Type} (l:List α) (L:Nat→Nat→σ→Option ρ) (F:List α→σ→Option ρ) (Inv:Nat→σ→Prop)
 (h0:∀ k s,Inv l.length s→L (k+1) l.length s=F [] s)
 (h1:∀ k i s x,i < l.length→l[i]?=some x→Inv i s→(∀ s',Inv (i+1) s'→L k (i+1) s'=F (l.drop (i+1)) s')→L (k+1) i s=F (x :: l.drop (i+1)) s) :
 ∀ (m k i:Nat) (s:σ),i+m=l.length→m < k→Inv i s→L k i s=F (l.drop i) s:=by
 intro m
 induction m with
 | zero =>
  intro k i s hi hk hs
  obtain⟨k,rfl⟩:∃ j,k=j+1:=⟨k - 1,by omega⟩
  obtain rfl:i=l.length:=by omega
  rw[h0 k s hs,List.drop_length]
 | succ m ih =>
  intro k i s hi hk hs
  obtain⟨k,rfl⟩:∃ j,k=j+1:=⟨k - 1,by omega⟩
  have hlt:i < l.length:=by omega
  rw[h1 k i s l[i] hlt (List.getElem?_eq_getElem hlt) hs (fun s' hs'=>ih k (i+1) s' (by omega) (by omega) hs'),List.drop_eq_getElem_cons hlt]
theorem Jd {α σ ρ:Type} (l:List α) (L:Nat→Nat→σ→Option ρ) (F:List α→σ→Option ρ) (Inv:Nat→σ→Prop) {k:Nat} {s:σ} (hk:l.length < k) (hs:Inv 0 s)
 (h0:∀ k s,Inv l.length s→L (k+1) l.length s=F [] s)
 (h1:∀ k i s x,i < l.length→l[i]?=some x→Inv i s→(∀ s',Inv (i+1) s'→L k (i+1) s'=F (l.drop (i+1)) s')→L (k+1) i s=F (x :: l.drop (i+1)) s) :
 L k 0 s=F l s:=Ag6 l L F Inv h0 h1 l.length k 0 s (by omega) hk hs
theorem Bm {α:Type} {l:List α} {i:Nat} {x:α} (h:l[i]?=some x):idx l (i:Int)=some x:=by rw[Mo,h]
theorem A7a (op:Int):op < 1∨15≤op∨op=1∨op=2∨op=3∨op=4∨op=5∨op=6∨op=7∨op=8∨op=9∨op=10∨op=11∨op=12∨op=13∨op=14:=by omega
theorem Ik {α:Type} (l:List α) (L:Nat→Nat→Option (LR Unit Bool)) (p:α→Bool) (h0:∀ k,L (k+1) l.length=some (.out ()))
 (h1:∀ k i x,i < l.length→l[i]?=some x→L (k+1) i=bif p x then L k (i+1) else some (.ret false)) {k:Nat} (hk:l.length < k):L k 0=bif l.all p then some (.out ()) else some (.ret false):=by
 refine Jd l (fun k i (_:Unit)=>L k i) (fun l _=>bif l.all p then some (.out ()) else some (.ret false)) (fun _ _=>True) (s:=()) hk trivial (fun k s _=>h0 k) ?_
 intro k i s x hi hx _ ih
 rw[h1 k i x hi hx,ih () trivial,List.all_cons]
 cases p x<;>rfl
theorem Aa9 {α β ν:Type} (l:List α) (f:α→β) (L:Nat→Nat→List β→Option (LR (List β) ν)) (h0:∀ k s,L (k+1) l.length s=some (.out s))
 (h1:∀ k i x s,i < l.length→l[i]?=some x→s.length=i→L (k+1) i s=L k (i+1) (s++[f x])) {k:Nat} (hk:l.length < k):L k 0 []=some (.out (l.map f)):=by
 have:=Jd l L (fun l s=>some (.out (s++l.map f))) (fun i s=>s.length=i) (s:=[]) hk rfl (fun k s _=>by rw[h0 k];simp) ?_
 ·rw[this];rfl
 ·intro k i s x hi hx hs ih
  rw[h1 k i x s hi hx hs,ih _ (by simp[hs])];simp
theorem Xm {α:Type} (l:List α) (L:Nat→Nat→Option (LR Unit Bool)) (p:α→Bool) (h0:∀ k,L (k+1) l.length=some (.out ()))
 (h1:∀ k i x,i < l.length→l[i]?=some x→L (k+1) i=bif p x then some (.ret true) else L k (i+1)) {k:Nat} (hk:l.length < k):L k 0=bif l.any p then some (.ret true) else some (.out ()):=by
 refine Jd l (fun k i (_:Unit)=>L k i) (fun l _=>bif l.any p then some (.ret true) else some (.out ())) (fun _ _=>True) (s:=()) hk trivial (fun k s _=>h0 k) ?_
 intro k i s x hi hx _ ih
 rw[h1 k i x hi hx,ih () trivial,List.any_cons]
 cases p x<;>rfl
end Go.Proofs.YtpnhafdimkmbbaaGreat
end
section
namespace Go.Proofs.YtpnhafdimkmbbaaGreat
structure Tok where
 kind:Int
 text:List UInt8
 n:Int
 at':Int
def Pr (c:Int):Bool:=decide (c=32∨c=9∨c=10∨c=13)
def En:Bool→List UInt8→Nat
 | _,[]=>0
 | true,c :: t=>if c.toNat=10 then 1+En false t else 1+En true t
 | false,c :: t=>if Pr c.toNat then 1+En false t else if c.toNat=35 then 1+En true t else 0
inductive Lx where
 | tok (kind:Int) (len:Nat) (n:Nat)
 | err (e:Int)
def Qo (l:List UInt8):Lx:=match l with
 | []=>.err 3
 | c :: _ =>
  if El c.toNat then(if Di Jg l > 16 then .err 2 else .tok 1 (Di Jg l) 0)
  else if Dr c.toNat then(if Wg (l.take (Di Dr l)) > 9999 then .err 4 else .tok 2 (Di Dr l) (Wg (l.take (Di Dr l))))
  else if Li l=0 then .err 3 else .tok 3 (Li l) 0
structure A4g where
 toks:List Tok
 err:Int
 at':Int
def Nn:Nat→List UInt8→Nat→List Tok→A4g
 | 0,_,_,acc=>⟨acc,0,0⟩
 | f+1,l,p,acc=>match l.drop (En false l) with
   | []=>⟨acc,0,0⟩
   | c :: t=>match Qo (c :: t) with
     | .err e=>⟨[],e,(p+En false l:Nat)⟩
     | .tok k n v=>Nn f ((c :: t).drop n) (p+En false l+n) (acc++[⟨k,(c :: t).take n,v,(p+En false l:Nat)⟩])
def M1 (l:List UInt8):A4g:=if l.length > 20000 then⟨[],2,20000⟩ else Nn (l.length+1) l 0 []
theorem A4d (b:Bool) (l:List UInt8):En b l≤l.length:=by
 induction l generalizing b with
 | nil=>simp[En]
 | cons c t ih =>
  have h1:=ih true;have h2:=ih false
  cases b<;>simp only[En,List.length_cons]<;>repeat' split
  all_goals omega
theorem Vp (p:Int→Bool) (l:List UInt8):Di p l≤l.length:=(List.takeWhile_prefix (fun c:UInt8=>p c.toNat) (l:=l)).length_le
theorem Kh (p:Int→Bool) (c:UInt8) (t:List UInt8):Di p (c :: t)=if p c.toNat then Di p t+1 else 0:=by
 unfold Di
 rw[List.takeWhile_cons]
 split<;>simp
theorem Ado (c:UInt8) (t:List UInt8):Li (c :: t)≤(c :: t).length:=by
 unfold Li
 split
 ·rename_i h
  rcases t with _ | ⟨d,t⟩
  ·simp[K0] at h
  ·simp
 ·split<;>simp
theorem A1l {l:List UInt8} {k:Int} {n v:Nat} (h:Qo l=.tok k n v):0 < n∧n≤l.length:=by
 rcases l with _ | ⟨c,t⟩
 ·simp[Qo] at h
 ·simp only[Qo] at h
  split at h
  ·rename_i hc
   split at h
   ·simp at h
   ·simp only[Lx.tok.injEq] at h
    obtain⟨_,rfl,_⟩:=h
    have h1:Jg c.toNat=true:=by simp[Jg,hc]
    exact⟨by rw[Kh,if_pos h1];omega,Vp _ _⟩
  ·split at h
   ·rename_i hc
    split at h
    ·simp at h
    ·simp only[Lx.tok.injEq] at h
     obtain⟨_,rfl,_⟩:=h
     exact⟨by rw[Kh,if_pos hc];omega,Vp _ _⟩
   ·split at h
    ·simp at h
    ·simp only[Lx.tok.injEq] at h
     obtain⟨_,rfl,_⟩:=h
     exact⟨by omega,Ado _ _⟩
theorem Agy {l:List UInt8} {e:Int} (h:Qo l=.err e):(e != 0)=true:=by
 rcases l with _ | ⟨c,t⟩
 ·simp only[Qo,Lx.err.injEq] at h;subst h;rfl
 ·simp only[Qo] at h
  repeat' split at h
  all_goals first
   | (simp only[Lx.err.injEq] at h;subst h;rfl)
   | simp at h
end Go.Proofs.YtpnhafdimkmbbaaGreat
end
section
namespace Go.Proofs.YtpnhafdimkmbbaaGreat
theorem Agm (l:List UInt8):En true l=Di Mz l+En false (l.drop (Di Mz l)):=by
 induction l with
 | nil=>simp[En,Di]
 | cons c t ih =>
  rw[Kh]
  by_cases h:c.toNat=10
  ·have h1:Mz c.toNat=false:=by simp[Mz,h]
   rw[if_neg (by rw[h1];simp),List.drop_zero,En,En,if_pos h,if_pos (by simp[Pr,h])]
   omega
  ·have h1:Mz c.toNat=true:=by simp only[Mz,decide_eq_true_eq];omega
   rw[if_pos h1,En,if_neg h,ih,List.drop_succ_cons]
   omega
theorem Aai {c:UInt8} {t:List UInt8} (h:c.toNat=35):En false (c :: t)=Di Mz (c :: t)+En false ((c :: t).drop (Di Mz (c :: t))):=by
 rw[← Agm]
 have hb:Pr c.toNat=false:=by simp[Pr,h]
 rw[En,En,if_neg (by rw[hb];simp),if_pos h,if_neg (by omega)]
theorem Aea {c:UInt8} {t:List UInt8} (h:Pr c.toNat=true):En false (c :: t)=1+En false t:=by rw[En,if_pos h]
theorem Ag7 {c:UInt8} {t:List UInt8} (h:Pr c.toNat=false) (h2:c.toNat≠35):En false (c :: t)=0:=by rw[En,if_neg (by rw[h];simp),if_neg h2]
end Go.Proofs.YtpnhafdimkmbbaaGreat
end
section
namespace Go.Proofs.YtpnhafdimkmbbaaGreat
def D4:List (List UInt8):=K0++A1t.map fun c=>[c]
theorem Ad2 {m:List UInt8} (h:m ∈ K0):m.length=2:=by
 simp only[K0,List.mem_cons,List.not_mem_nil,or_false] at h
 rcases h with rfl | rfl | rfl | rfl | rfl<;>rfl
theorem X0 {m l:List UInt8} (h:m <+: l):l.take m.length=m:=by
 obtain⟨t,rfl⟩:=h
 simp
theorem A5x {l:List UInt8} {k:Nat} (hk:k < D4.length) (hp:D4[k] <+: l) (hn:∀ j (h:j < D4.length),j < k→¬ D4[j] <+: l) :
 Li l=D4[k].length∧l.take D4[k].length=D4[k]:=by
 refine⟨?_,X0 hp⟩
 have h5:K0.length=5:=rfl
 have hcont:∀ (h:l.take 2 ∈ K0),∃ j,∃ (hj:j < K0.length),K0[j] <+: l:=fun h=>by
  obtain⟨j,hj,e⟩:=List.getElem_of_mem h
  exact⟨j,hj,by rw[e];exact List.take_prefix 2 l⟩
 rcases Nat.lt_or_ge k 5 with hlt | hge
 ·have e:D4[k]=K0[k]'(by omega):=by simp only[D4];rw[List.getElem_append_left]
  rw[e] at hp ⊢
  have hm:K0[k]'(by omega) ∈ K0:=List.getElem_mem _
  have hl:=Ad2 hm
  have ht:=X0 hp
  rw[hl] at ht ⊢
  unfold Li
  rw[if_pos (by rw[ht];exact List.contains_iff_mem.2 hm)]
 ·have e:D4[k]=[A1t[k - 5]'(by simp[D4,h5] at hk;omega)]:=by
   simp only[D4]
   rw[List.getElem_append_right (by omega)]
   simp[h5]
  rw[e] at hp ⊢
  have hno:¬ l.take 2 ∈ K0:=fun h=>by
   obtain⟨j,hj,hj2⟩:=hcont h
   refine hn j (by simp[D4];omega) (by omega) ?_
   have e:D4[j]'(by simp[D4];omega)=K0[j]:=by simp only[D4];rw[List.getElem_append_left]
   rw[e];exact hj2
  obtain⟨t,rfl⟩:=hp
  unfold Li
  rw[if_neg (by simpa using hno)]
  simp
theorem A9i {l:List UInt8} (hn:∀ j (h:j < D4.length),¬ D4[j] <+: l):Li l=0:=by
 have h5:K0.length=5:=rfl
 unfold Li
 rw[if_neg,if_neg]
 ·intro h
  rcases l with _ | ⟨c,t⟩
  ·simp at h
  ·simp only[List.head?_cons,Option.any_some] at h
   have h':=List.contains_iff_mem.1 h
   obtain⟨j,hj,e⟩:=List.getElem_of_mem h'
   refine hn (5+j) (by simp[D4,h5];omega) ?_
   have e2:D4[5+j]'(by simp[D4,h5];omega)=[A1t[j]]:=by
    simp only[D4]
    rw[List.getElem_append_right (by omega)]
    simp[h5]
   rw[e2,e]
   exact⟨t,rfl⟩
 ·intro h
  have h':=List.contains_iff_mem.1 h
  obtain⟨j,hj,e⟩:=List.getElem_of_mem h'
  refine hn j (by simp[D4];omega) ?_
  have e2:D4[j]'(by simp[D4];omega)=K0[j]:=by simp only[D4];rw[List.getElem_append_left]
  rw[e2,e]
  exact List.take_prefix 2 l
end Go.Proofs.YtpnhafdimkmbbaaGreat
end
section
namespace Go.Proofs.YtpnhafdimkmbbaaGreat
set_option linter.unusedVariables false
set_option linter.unusedSimpArgs false
abbrev Nd:=Aa
def Fn (op:Int):Int:=if 1≤op∧op≤4 then 0 else if op=5 then 1 else if 6≤op∧op≤14 then 2 else -1
theorem A7s (n:Nat) (op:Int):Jb (n+1) op=some (Fn op):=by
 rcases A7a op with h | h | h | h | h | h | h | h | h | h | h | h | h | h | h | h
 ·have:Fn op= -1:=by unfold Fn;rw[if_neg (by omega),if_neg (by omega),if_neg (by omega)]
  rw[Jb,this,As (show ¬ 1≤op by omega),beq_eq_false_iff_ne.2 (show op≠5 by omega),cond_false,As (show ¬ 6≤op by omega)]
 ·have:Fn op= -1:=by unfold Fn;rw[if_neg (by omega),if_neg (by omega),if_neg (by omega)]
  rw[Jb,this,Af (show 1≤op by omega),As (show ¬ op≤4 by omega),beq_eq_false_iff_ne.2 (show op≠5 by omega),cond_false,Af (show 6≤op by omega),As (show ¬ op≤14 by omega)]
 all_goals rw[h];rfl
theorem Sf (n:Nat) (op:Int):Ku (n+1) op=some (Fn op):=by
 have e:Ku (n+1) op=Jb (n+1) op:=by
  rw[Ku,Jb]
 rw[e,A7s]
inductive Tr where
 | leaf (x:Nd)
 | un (x:Nd) (a:Tr)
 | bin (x:Nd) (a b:Tr)
def Tr.flat:Tr→List Nd
 | .leaf x=>[x]
 | .un x a=>x :: a.flat
 | .bin x a b=>x :: (a.flat++b.flat)
def Tr.wf:Tr→Prop
 | .leaf x=>Fn x.Bg=0
 | .un x a=>Fn x.Bg=1∧a.wf
 | .bin x a b=>Fn x.Bg=2∧a.wf∧b.wf
def Tr.dep:Tr→Nat
 | .leaf _=>0
 | .un _ a=>1+a.dep
 | .bin _ a b=>1+max a.dep b.dep
theorem Tr.flat_pos (t:Tr):1≤t.flat.length:=by cases t<;>simp[Tr.flat]
def H9:List Nd→Nat→Option Nat
 | [],_=>none
 | x :: l,w=>if Fn x.Bg < 0 then none else if(w:Int)+Fn x.Bg - 1=0 then some 1 else(H9 l ((w:Int)+Fn x.Bg - 1).toNat).map (·+1)
def Tz:List Tr→List Nd
 | []=>[]
 | t :: ts=>t.flat++Tz ts
theorem Tu (op:Int):Fn op= -1∨Fn op=0∨Fn op=1∨Fn op=2:=by
 unfold Fn
 repeat' split
 all_goals omega
theorem Abg:∀ (t:Tr) (w:Nat) (rest:List Nd),t.wf→1≤w→H9 (t.flat++rest) w=if w=1 then some t.flat.length else(H9 rest (w - 1)).map (·+t.flat.length):=by
 intro t
 induction t with
 | leaf x =>
  intro w rest h hw
  simp only[Tr.wf] at h
  simp only[Tr.flat,List.cons_append,List.nil_append,H9,h,List.length_cons,List.length_nil]
  by_cases c:w=1
  ·rw[if_neg (by omega),if_pos (by omega),if_pos c]
  ·rw[if_neg (by omega),if_neg (by omega),if_neg c,show((w:Int)+0 - 1).toNat=w - 1 by omega]
 | un x a ih =>
  intro w rest h hw
  obtain⟨h1,h2⟩:=h
  simp only[Tr.flat,List.cons_append,H9,h1,List.length_cons]
  rw[if_neg (by omega),if_neg (by omega),show((w:Int)+1 - 1).toNat=w by omega,ih w rest h2 hw]
  by_cases c:w=1
  ·rw[if_pos c,if_pos c];rfl
  ·rw[if_neg c,if_neg c,Option.map_map];rfl
 | bin x a b iha ihb =>
  intro w rest h hw
  obtain⟨h1,h2,h3⟩:=h
  simp only[Tr.flat,List.cons_append,H9,h1,List.length_cons,List.append_assoc,List.length_append]
  rw[if_neg (by omega),if_neg (by omega),show((w:Int)+2 - 1).toNat=w+1 by omega,iha (w+1) _ h2 (by omega),if_neg (by omega),show w+1 - 1=w by omega,ihb w rest h3 hw]
  by_cases c:w=1
  ·rw[if_pos c,if_pos c];exact congrArg some (by dsimp only;omega)
  ·rw[if_neg c,if_neg c,Option.map_map,Option.map_map];congr 1;funext j;simp only[Function.comp_apply];try omega
theorem Akb:∀ (l:List Nd) (w j:Nat),1≤w→H9 l w=some j→∃ ts:List Tr,ts.length=w∧(∀ t ∈ ts,t.wf)∧Tz ts=l.take j∧j≤l.length∧1≤j:=by
 intro l
 induction l with
 | nil=>intro w j _ h;cases h
 | cons x l ih =>
  intro w j hw h
  rw[H9] at h
  rcases Tu x.Bg with g | g | g | g
  ·rw[g,if_pos (by omega)] at h;cases h
  all_goals rw[g] at h;rw[if_neg (by omega)] at h
  ·by_cases c:w=1
   ·rw[if_pos (by omega)] at h
    obtain rfl:=Option.some.inj h
    exact⟨[.leaf x],by simp[c],by simpa [Tr.wf] using g,by simp[Tz,Tr.flat],by simp,by omega⟩
   ·rw[if_neg (by omega)] at h
    obtain⟨j',h1,h2⟩:=Option.map_eq_some_iff.1 h
    obtain⟨ts,e1,e2,e3,e4,e5⟩:=ih _ j' (by omega) h1
    subst h2
    exact⟨.leaf x :: ts,by simp[e1];omega,by simpa [Tr.wf] using⟨g,e2⟩,by simp[Tz,Tr.flat,e3],by simpa using e4,by omega⟩
  ·rw[if_neg (by omega)] at h
   obtain⟨j',h1,h2⟩:=Option.map_eq_some_iff.1 h
   obtain⟨ts,e1,e2,e3,e4,e5⟩:=ih _ j' (by omega) h1
   subst h2
   match ts,e1,e2,e3 with
   | [],e1,_,_=>simp at e1;omega
   | t :: ts,e1,e2,e3 =>
    exact⟨.un x t :: ts,by simp at e1 ⊢;omega,by simpa [Tr.wf,g] using e2,by simp only[Tz] at e3;simp[Tz,Tr.flat,e3],by simpa using e4,by omega⟩
  ·rw[if_neg (by omega)] at h
   obtain⟨j',h1,h2⟩:=Option.map_eq_some_iff.1 h
   obtain⟨ts,e1,e2,e3,e4,e5⟩:=ih _ j' (by omega) h1
   subst h2
   match ts,e1,e2,e3 with
   | [],e1,_,_=>simp at e1;omega
   | [t],e1,_,_=>simp at e1;omega
   | t :: u :: ts,e1,e2,e3 =>
    refine⟨.bin x t u :: ts,by simp at e1 ⊢;omega,?_,by simp only[Tz] at e3;simp[Tz,Tr.flat,List.append_assoc,e3],by simpa using e4,by omega⟩
    intro v hv
    rcases List.mem_cons.1 hv with rfl | hv
    ·exact⟨g,e2 t (by simp),e2 u (by simp)⟩
    ·exact e2 v (by simp[hv])
theorem Aiv {l:List Nd} {j:Nat} (h:H9 l 1=some j):∃ t:Tr,t.wf∧t.flat=l.take j∧j≤l.length∧1≤j:=by
 obtain⟨ts,e1,e2,e3,e4,e5⟩:=Akb l 1 j (by omega) h
 match ts,e1,e2,e3 with
 | [t],_,e2,e3=>exact⟨t,e2 t (by simp),by simpa [Tz] using e3,e4,e5⟩
def Xn (l:List Nd) (i:Int):Int:=if i < 0 then -1 else match H9 (l.drop i.toNat) 1 with
 | some j=>i+j
 | none=> -1
def Aie (d:Int) (r:LR Unit Int):Int:=match r with
 | .out _=>d
 | .ret v=>v
theorem Amq (n:Nat) (l:List Nd) (hl:l.length < 1000000):∀ (m k i w:Nat),i+m=l.length→m < k→1≤w→w≤i+2 →
 (Ic (n+1) l k (i:Int) (w:Int)).map (Aie (-1))=some (match H9 (l.drop i) w with | some j=>(i:Int)+j | none=> -1):=by
 intro m
 induction m with
 | zero =>
  intro k i w hi hk hw hb
  obtain⟨k,rfl⟩:∃ j,k=j+1:=⟨k - 1,by omega⟩
  rw[Ic,As (by omega),List.drop_of_length_le (by omega)];rfl
 | succ m ih =>
  intro k i w hi hk hw hb
  obtain⟨k,rfl⟩:∃ j,k=j+1:=⟨k - 1,by omega⟩
  have hlt:i < l.length:=by omega
  rw[Ic,Af (by omega),E3 hlt,List.drop_eq_getElem_cons hlt,H9,Option.bind_some,A7s,Option.bind_some,B3 i (by omega)]
  rcases Tu l[i].Bg with g | g | g | g
  ·rw[g,Af (by omega),if_pos (by omega)];rfl
  all_goals rw[g,As (by omega),if_neg (by omega)]
  ·rw[C1 (n:=0 - 1) (by omega),C1 (by omega)]
   by_cases c:w=1
   ·subst c;rw[if_pos (by omega)];rfl
   ·rw[if_neg (by omega),beq_eq_false_iff_ne.2 (by omega),cond_false,show(w:Int)+(0 - 1)=((w - 1:Nat):Int) by omega,ih k (i+1) (w - 1) (by omega) (by omega) (by omega) (by omega),show((w:Int)+0 - 1).toNat=w - 1 by omega]
    cases H9 (l.drop (i+1)) (w - 1) with
    | none=>rfl
    | some j=>exact congrArg some (by show((i+1:Nat):Int)+(j:Int)=(i:Int)+((j+1:Nat):Int);omega)
  ·rw[C1 (n:=1 - 1) (by omega),C1 (by omega),if_neg (by omega),beq_eq_false_iff_ne.2 (by omega),cond_false,show(w:Int)+(1 - 1)=(w:Int) by omega,ih k (i+1) w (by omega) (by omega) (by omega) (by omega),show((w:Int)+1 - 1).toNat=w by omega]
   cases H9 (l.drop (i+1)) w with
   | none=>rfl
   | some j=>exact congrArg some (by show((i+1:Nat):Int)+(j:Int)=(i:Int)+((j+1:Nat):Int);omega)
  ·rw[C1 (n:=2 - 1) (by omega),C1 (by omega),if_neg (by omega),beq_eq_false_iff_ne.2 (by omega),cond_false,show(w:Int)+(2 - 1)=((w+1:Nat):Int) by omega,ih k (i+1) (w+1) (by omega) (by omega) (by omega) (by omega),show((w:Int)+2 - 1).toNat=w+1 by omega]
   cases H9 (l.drop (i+1)) (w+1) with
   | none=>rfl
   | some j=>exact congrArg some (by show((i+1:Nat):Int)+(j:Int)=(i:Int)+((j+1:Nat):Int);omega)
theorem Agf {τ:Type} {o:Option (LR Unit Int)} {d r:Int} (h:o.map (Aie d)=some r):(o.bind fun o11=>match o11 with | .out _=>some d | .ret v=>some v)=some r:=by
 obtain⟨x,rfl,h2⟩:=Option.map_eq_some_iff.1 h
 cases x<;>exact congrArg some h2
theorem An8 (n:Nat) (l:List Nd) (i:Int) (hl:l.length < 1000000) (hn:l.length+4 < n):R8 n l i=some (Xn l i):=by
 obtain⟨n,rfl⟩:∃ j,n=j+2:=⟨n - 2,by omega⟩
 rw[R8,Xn]
 by_cases c:i < 0
 ·rw[Af c,if_pos c]
 ·rw[As c,if_neg c]
  by_cases c2:i.toNat≤l.length
  ·have:=Amq n l hl (l.length - i.toNat) (n+1) i.toNat 1 (by omega) (by omega) (by omega) (by omega)
   rw[show((i.toNat:Nat):Int)=i by omega] at this
   exact Agf (τ:=Unit) this
  ·have e:Ic (n+1) l (n+1) i 1=some (.out ()):=by rw[Ic,As (by omega)]
   rw[e,List.drop_of_length_le (by omega)];rfl
theorem Al6 (n:Nat) (l:List Nd) (hl:l.length < 1000000):∀ (m k i w:Nat),i+m=l.length→m < k→1≤w→w≤i+2 →
 (Hj (n+1) l k (w:Int) (i:Int)).map (Aie (-1))=some (match H9 (l.drop i) w with | some j=>(i:Int)+j | none=> -1):=by
 intro m
 induction m with
 | zero =>
  intro k i w hi hk hw hb
  obtain⟨k,rfl⟩:∃ j,k=j+1:=⟨k - 1,by omega⟩
  rw[Hj,As (by omega),List.drop_of_length_le (by omega)];rfl
 | succ m ih =>
  intro k i w hi hk hw hb
  obtain⟨k,rfl⟩:∃ j,k=j+1:=⟨k - 1,by omega⟩
  have hlt:i < l.length:=by omega
  rw[Hj,Af (by omega),E3 hlt,List.drop_eq_getElem_cons hlt,H9,Option.bind_some,Sf,Option.bind_some,B3 i (by omega),C1 (n:=(w:Int) - 1) (by omega)]
  rcases Tu l[i].Bg with g | g | g | g
  ·rw[g,Af (by omega),if_pos (by omega)];rfl
  all_goals rw[g,As (by omega),if_neg (by omega)]
  ·rw[C1 (by omega)]
   by_cases c:w=1
   ·subst c;rw[if_pos (by omega)];rfl
   ·rw[if_neg (by omega),beq_eq_false_iff_ne.2 (by omega),cond_false,show(w:Int) - 1+0=((w - 1:Nat):Int) by omega,ih k (i+1) (w - 1) (by omega) (by omega) (by omega) (by omega),show((w:Int)+0 - 1).toNat=w - 1 by omega]
    cases H9 (l.drop (i+1)) (w - 1) with
    | none=>rfl
    | some j=>exact congrArg some (by show((i+1:Nat):Int)+(j:Int)=(i:Int)+((j+1:Nat):Int);omega)
  ·rw[C1 (by omega),if_neg (by omega),beq_eq_false_iff_ne.2 (by omega),cond_false,show(w:Int) - 1+1=(w:Int) by omega,ih k (i+1) w (by omega) (by omega) (by omega) (by omega),show((w:Int)+1 - 1).toNat=w by omega]
   cases H9 (l.drop (i+1)) w with
   | none=>rfl
   | some j=>exact congrArg some (by show((i+1:Nat):Int)+(j:Int)=(i:Int)+((j+1:Nat):Int);omega)
  ·rw[C1 (by omega),if_neg (by omega),beq_eq_false_iff_ne.2 (by omega),cond_false,show(w:Int) - 1+2=((w+1:Nat):Int) by omega,ih k (i+1) (w+1) (by omega) (by omega) (by omega) (by omega),show((w:Int)+2 - 1).toNat=w+1 by omega]
   cases H9 (l.drop (i+1)) (w+1) with
   | none=>rfl
   | some j=>exact congrArg some (by show((i+1:Nat):Int)+(j:Int)=(i:Int)+((j+1:Nat):Int);omega)
theorem A2w (n:Nat) (l:List Nd) (i:Int) (hl:l.length < 1000000) (hn:l.length+4 < n):Nl n l i=some (Xn l i):=by
 obtain⟨n,rfl⟩:∃ j,n=j+2:=⟨n - 2,by omega⟩
 rw[Nl,Xn]
 by_cases c:i < 0
 ·rw[Af c,if_pos c]
 ·rw[As c,if_neg c]
  by_cases c2:i.toNat≤l.length
  ·have:=Al6 n l hl (l.length - i.toNat) (n+1) i.toNat 1 (by omega) (by omega) (by omega) (by omega)
   rw[show((i.toNat:Nat):Int)=i by omega] at this
   exact Agf (τ:=Unit) this
  ·have e:Hj (n+1) l (n+1) 1 i=some (.out ()):=by rw[Hj,As (by omega)]
   rw[e,List.drop_of_length_le (by omega)];rfl
theorem A4o {t:Tr} (h:t.wf) (pre post:List Nd):Xn (pre++(t.flat++post)) (pre.length:Int)=((pre.length+t.flat.length:Nat):Int):=by
 rw[Xn,if_neg (by omega),Int.toNat_natCast,List.drop_left,Abg t 1 post h (by omega),if_pos rfl];simp
def Nc:List Int→List Int
 | []=>[]
 | a :: r=>if 0 < a - 1 then(a - 1) :: r else Nc r
def Ha:List Nd→Int×List Int→Int×List Int
 | [],s=>s
 | x :: l,(m,R)=>if 0 < Fn x.Bg then Ha l (if m < (R.length:Int) then(R.length:Int) else m,Fn x.Bg :: R) else Ha l (if m < (R.length:Int) then(R.length:Int) else m,Nc R)
theorem A48:∀ (t:Tr) (rest:List Nd) (m:Int) (R:List Int),t.wf→0≤m→Ha (t.flat++rest) (m,R)=Ha rest (max m (R.length+t.dep:Nat),Nc R):=by
 intro t
 have hmax:∀ (m:Int) (k:Nat),(if m < (k:Int) then(k:Int) else m)=max m (k:Int):=by intro m k;split<;>omega
 induction t with
 | leaf x =>
  intro rest m R h hm
  simp only[Tr.wf] at h
  simp only[Tr.flat,List.cons_append,List.nil_append,Ha,h,Tr.dep,Nat.add_zero]
  rw[if_neg (by omega),hmax]
 | un x a ih =>
  intro rest m R h hm
  obtain⟨h1,h2⟩:=h
  simp only[Tr.flat,List.cons_append,Ha,h1,Tr.dep]
  rw[if_pos (by omega),hmax,ih _ _ _ h2 (by omega),Nc,if_neg (by omega),List.length_cons]
  congr 2;omega
 | bin x a b iha ihb =>
  intro rest m R h hm
  obtain⟨h1,h2,h3⟩:=h
  simp only[Tr.flat,List.cons_append,Ha,h1,Tr.dep,List.append_assoc]
  rw[if_pos (by omega),hmax,iha _ _ _ h2 (by omega),Nc,if_pos (by omega),ihb _ _ _ h3 (by omega),Nc,if_neg (by omega),List.length_cons,List.length_cons]
  congr 2;omega
theorem Ajt (n:Nat):∀ (R:List Int) (k:Nat),R.length < k→R.length < 1000000→(∀ v ∈ R,1≤v∧v≤2)→Iv n k R.reverse=some (.out (Nc R).reverse):=by
 intro R
 induction R with
 | nil =>
  intro k hk _ _
  obtain⟨k,rfl⟩:∃ j,k=j+1:=⟨k - 1,by omega⟩
  rw[Iv,List.reverse_nil];rfl
 | cons a R ih =>
  intro k hk hl hv
  obtain⟨k,rfl⟩:∃ j,k=j+1:=⟨k - 1,by omega⟩
  have ha:=hv a (List.mem_cons_self ..)
  rw[List.length_cons] at hl
  have hlen:(a :: R).reverse.length=R.length+1:=by simp
  have w:IntKind.i64.wrap (((R.length+1:Nat):Int) - 1)=(R.length:Int):=by rw[C1 (by omega)];omega
  have hset:∀ v:Int,((a :: R).reverse).set R.length v=R.reverse++[v]:=by
   intro v;rw[List.reverse_cons,List.set_append_right _ _ (by simp)];simp
  have g1:idx (a :: R).reverse (R.length:Int)=some a:=by rw[Mo,List.reverse_cons,List.getElem?_append_right (by simp)];simp
  have g2:∀ v:Int,idx (R.reverse++[v]) (R.length:Int)=some v:=by intro v;rw[Mo,List.getElem?_append_right (by simp)];simp
  rw[Iv,hlen,Af (by omega),w,g1]
  simp only[Option.bind_some,Int.toNat_natCast,hset,g2]
  rw[C1 (n:=a - 1) (by omega),Nc]
  by_cases c:0 < a - 1
  ·rw[Af c,if_pos c,List.reverse_cons]
  ·have c2:(decide (0≤(R.length:Int))&&decide ((R.length:Int)≤(((R.reverse++[a - 1]).length:Nat):Int)))=true:=by
    rw[decide_eq_true (by omega),decide_eq_true (by simp;omega)];rfl
   have e:List.take R.length (R.reverse++[a - 1])=R.reverse:=by
    rw[List.take_append_of_le_length (by simp),List.take_of_length_le (by simp)]
   rw[As c,if_neg c,c2,cond_true,e]
   exact ih k (by rw[List.length_cons] at hk;omega) (by omega) (fun v h=>hv v (List.mem_cons_of_mem _ h))
theorem Afy:∀ (R:List Int),(∀ v ∈ R,1≤v∧v≤2)→(∀ v ∈ Nc R,1≤v∧v≤2)∧(Nc R).length≤R.length:=by
 intro R
 induction R with
 | nil=>intro h;exact⟨h,Nat.le_refl _⟩
 | cons a R ih =>
  intro h
  have ha:=h a (List.mem_cons_self ..)
  have hR:∀ v ∈ R,1≤v∧v≤2:=fun v hv=>h v (List.mem_cons_of_mem _ hv)
  rw[Nc]
  split
  ·exact⟨fun v hv=>by rcases List.mem_cons.1 hv with rfl | hv;exact⟨by omega,by omega⟩;exact hR v hv,by simp⟩
  ·exact⟨(ih hR).1,by have:=(ih hR).2;simp;omega⟩
theorem Ajs (n:Nat) (l:List Nd) (hl:l.length < 100000) (hn:l.length+2 < n) {k:Nat} (hk:l.length < k):Gi n l k 0 0 []=some (.out ((Ha l (0,[])).1,(Ha l (0,[])).2.reverse)):=by
 refine Jd l (fun k i (s:Int×List Int)=>Gi n l k s.1 (i:Int) s.2.reverse) (fun l s=>some (.out ((Ha l s).1,(Ha l s).2.reverse)))
  (fun i s=>s.2.length≤i∧∀ v ∈ s.2,1≤v∧v≤2) (s:=(0,[])) hk ⟨Nat.le_refl _,by simp⟩ ?_ ?_
 ·intro k s hs
  rw[Gi,As (by omega)];rfl
 ·rintro k i ⟨m,R⟩ x hi hx ⟨r1,r2⟩ ih
  dsimp only at r1 r2 ⊢
  obtain⟨n,rfl⟩:∃ j,n=j+1:=⟨n - 1,by omega⟩
  rw[Gi,Af (by omega),Bm hx,Option.bind_some,A7s,Option.bind_some,B3 i (by omega),List.length_reverse,Ha]
  by_cases c:0 < Fn x.Bg
  ·rw[Af c,if_pos c,Af (by omega),← List.reverse_cons]
   refine ih (_,_ :: R) ⟨by simp;omega,fun v hv=>?_⟩
   rcases List.mem_cons.1 hv with rfl | hv
   ·rcases Tu x.Bg with g | g | g | g<;>omega
   ·exact r2 v hv
  ·have hc:=Afy R r2
   rw[As c,if_neg c,Ajt (n+1) R (n+1) (by omega) (by omega) r2,Option.bind_some]
   exact ih (_,Nc R) ⟨by dsimp only;omega,hc.1⟩
theorem Tr.dep_lt (t:Tr):t.dep < t.flat.length:=by
 induction t with
 | leaf x=>simp[Tr.dep,Tr.flat]
 | un x a ih=>simp[Tr.dep,Tr.flat];omega
 | bin x a b iha ihb=>simp[Tr.dep,Tr.flat];omega
theorem Abs:∀ (t:Tr) (n:Nat) (pre post:List Nd),t.wf→(pre++(t.flat++post)).length < 100000→(pre++(t.flat++post)).length+10+t.dep < n→F1 n (pre++(t.flat++post)) (pre.length:Int)=some (t.dep:Int):=by
 intro t
 induction t with
 | leaf x =>
  intro n pre post h hl hn
  obtain⟨n,rfl⟩:∃ j,n=j+3:=⟨n - 3,by omega⟩
  simp only[Tr.wf] at h
  have g:idx (pre++((Tr.leaf x).flat++post)) (pre.length:Int)=some x:=by rw[Mo,List.getElem?_append_right (by simp)];simp[Tr.flat]
  rw[F1,Fj,g,Option.bind_some,Sf,Option.bind_some,h];rfl
 | un x a ih =>
  intro n pre post h hl hn
  obtain⟨n,rfl⟩:∃ j,n=j+4:=⟨n - 4,by omega⟩
  obtain⟨h1,h2⟩:=h
  have e:pre++((Tr.un x a).flat++post)=(pre++[x])++(a.flat++post):=by simp[Tr.flat]
  have hp:((pre++[x]).length:Int)=(pre.length:Int)+1:=by simp
  rw[e] at hl hn ⊢
  simp only[Tr.dep] at hn
  have g:idx ((pre++[x])++(a.flat++post)) (pre.length:Int)=some x:=by rw[Mo,List.append_assoc,List.getElem?_append_right (by simp)];simp
  have i1:=ih (n+3) (pre++[x]) post h2 hl (by omega)
  have ee:=A4o h2 (pre++[x]) post
  have hd:=a.dep_lt
  simp only[List.length_append,List.length_cons,List.length_nil] at hl hn
  rw[hp] at i1 ee
  rw[F1,Fj,g,Option.bind_some,Sf,Option.bind_some,h1,Af (by omega),C1 (n:=(pre.length:Int)+1) (by omega),i1,Option.bind_some,A2w _ _ _ (by simp;omega) (by simp;omega),Option.bind_some,C1 (by omega),C1 (by omega)]
  rw[Fj,g,Option.bind_some,Sf,Option.bind_some,h1,As (by omega)]
  simp only[Option.bind_some,Tr.dep]
  congr 1
  split<;>omega
 | bin x a b iha ihb =>
  intro n pre post h hl hn
  obtain⟨n,rfl⟩:∃ j,n=j+5:=⟨n - 5,by omega⟩
  obtain⟨h1,h2,h3⟩:=h
  have e:pre++((Tr.bin x a b).flat++post)=(pre++[x])++(a.flat++(b.flat++post)):=by simp[Tr.flat]
  have e2:(pre++[x])++(a.flat++(b.flat++post))=(pre++[x]++a.flat)++(b.flat++post):=by simp
  have hp:((pre++[x]).length:Int)=(pre.length:Int)+1:=by simp
  have hp2:((pre++[x]++a.flat).length:Int)=((pre++[x]).length+a.flat.length:Nat):=by simp;omega
  rw[e] at hl hn ⊢
  simp only[Tr.dep] at hn
  have g:idx ((pre++[x])++(a.flat++(b.flat++post))) (pre.length:Int)=some x:=by rw[Mo,List.append_assoc,List.getElem?_append_right (by simp)];simp
  have i1:=iha (n+4) (pre++[x]) (b.flat++post) h2 hl (by omega)
  have i2:=ihb (n+4) (pre++[x]++a.flat) post h3 (by rw[← e2];exact hl) (by rw[← e2];omega)
  have ee:=A4o h2 (pre++[x]) (b.flat++post)
  have ee2:=A4o h3 (pre++[x]++a.flat) post
  rw[← e2,hp2] at i2 ee2
  have hd:=a.dep_lt
  have hd2:=b.dep_lt
  simp only[List.length_append,List.length_cons,List.length_nil] at hl hn ee2 i2
  rw[hp] at i1 ee
  rw[F1,Fj,g,Option.bind_some,Sf,Option.bind_some,h1,Af (by omega),C1 (n:=(pre.length:Int)+1) (by omega),i1,Option.bind_some,A2w _ _ _ (by simp;omega) (by simp;omega),Option.bind_some,C1 (n:=1+(a.dep:Int)) (by omega),C1 (n:=0+1) (by omega),ee]
  rw[Fj,g,Option.bind_some,Sf,Option.bind_some,h1,Af (by omega)]
  simp only[List.length_append,List.length_cons,List.length_nil]
  rw[i2,Option.bind_some,A2w _ _ _ (by simp;omega) (by simp;omega),Option.bind_some,C1 (n:=1+(b.dep:Int)) (by omega),C1 (by omega)]
  rw[Fj,g,Option.bind_some,Sf,Option.bind_some,h1,As (by omega)]
  simp only[Option.bind_some,Tr.dep]
  congr 1
  repeat' split
  all_goals omega
end Go.Proofs.YtpnhafdimkmbbaaGreat
end
section
namespace Go.Proofs.YtpnhafdimkmbbaaGreat
set_option linter.unusedVariables false
set_option linter.unusedSimpArgs false
theorem W0 (n:Nat) (c:Int):J5 (n+1) c=some (El c):=by
 rw[J5]
 by_cases h1:97≤c<;>by_cases h2:c≤122<;>by_cases h3:65≤c<;>by_cases h4:c≤90<;>simp[El,h1,h2,h3,h4]<;>(by_cases h5:c=95<;>simp[h5])
theorem A1i (n:Nat) (c:Int):Jz (n+1) c=some (Dr c):=by
 rw[Jz]
 by_cases h1:48≤c<;>simp[Dr,h1]
theorem Amx (n:Nat) (s:List UInt8) (hn:30 < n):Lt n s=some (kwB s):=by
 obtain⟨n,rfl⟩:∃ j,n=j+2:=⟨n - 2,by omega⟩
 rw[Lt,Qb,Option.bind_some]
 have:=Xm kws (fun k i=>Ek (n+1) s kws k (i:Int)) (fun x=>x==s) (fun k=>?_) (fun k i x hi hx=>?_) (k:=n+1) (by have:kws.length=21:=rfl;omega)
 ·have e:kws.any (fun x=>x==s)=kwB s:=by
   rw[kwB,List.contains_eq_any_beq];congr 1;funext x;rw[BEq.comm]
  rw[e] at this
  have this:Ek (n+1) s kws (n+1) 0=_:=this
  show(Ek (n+1) s kws (n+1) 0).bind _=_
  rw[this]
  cases kwB s<;>rfl
 ·rw[Ek,As (by omega)]
 ·have:kws.length=21:=rfl
  rw[Ek,Af (by omega),Bm hx,Option.bind_some,B3 i (by omega)]
theorem P4 (n:Nat) (s:List UInt8) (hn:s.length+40 < n) (hs:s.length < 1000000):D0 n s=some (Ca s):=by
 obtain⟨n,rfl⟩:∃ j,n=j+2:=⟨n - 2,by omega⟩
 rw[D0]
 by_cases c1:(s.length:Int) < 1
 ·have:s=[]:=List.length_eq_zero_iff.1 (by omega)
  subst this;rw[Af c1];rfl
 by_cases c2:16 < (s.length:Int)
 ·rw[As c1,Af c2,Ca,decide_eq_false (show ¬ s.length≤16 by omega)];simp
 rw[As c1,As c2]
 obtain⟨c,r,rfl⟩:∃ c r,s=c :: r:=by
  cases s with
  | nil=>simp at c1
  | cons c r=>exact⟨c,r,rfl⟩
 have g:idx (c :: r) 0=some c:=rfl
 rw[g,Option.bind_some,W0,Option.bind_some]
 cases hl:El (c.toNat:Int) with
 | false =>
  have:Ca (c :: r)=false:=A5k (k:=0) (by simp) (by simp[Ko,hl])
  rw[this];rfl
 | true =>
  rw[Amx _ _ (by omega)]
  simp only[cond_true,Option.bind_some]
  cases hk:kwB (c :: r) with
  | true=>simp[Ca,hk]
  | false =>
   have hL:Gj (n+1) (c :: r) (n+1) 0=bif (c :: r).all (fun x=>El (x.toNat:Int) || Dr (x.toNat:Int)) then some (.out ()) else some (.ret false):=by
    refine Ik (c :: r) (fun k i=>Gj (n+1) (c :: r) k (i:Int)) _ (fun k=>?_) (fun k i x hi hx=>?_) (by omega)
    ·rw[Gj,As (by omega)]
    ·rw[Gj,Af (by omega),Bm hx,Option.bind_some,W0,Option.bind_some,Option.bind_some,A1i,Option.bind_some,B3 i (by omega)]
     cases El (x.toNat:Int)<;>rfl
   have e:Ca (c :: r)=(c :: r).all (fun x=>El (x.toNat:Int) || Dr (x.toNat:Int)):=by
    have e1:Ca (c :: r)=(List.range (c :: r).length).all (Ko (c :: r)):=by
     rw[Ca,hk,decide_eq_true (by omega)];simp
    rw[e1,Bool.eq_iff_iff,List.all_eq_true,List.all_eq_true]
    constructor
    ·intro h x hx
     obtain⟨i,hi,rfl⟩:=List.mem_iff_getElem.1 hx
     have:=h i (by simpa using hi)
     simp only[Ko,List.getElem?_eq_getElem hi] at this
     revert this
     cases El _<;>cases Dr _<;>simp
    ·intro h i hi
     have hi:i < (c :: r).length:=by simpa using hi
     have:=h _ (List.getElem_mem hi)
     simp only[Ko,List.getElem?_eq_getElem hi]
     cases i with
     | zero=>simp[hl]
     | succ i=>simpa using this
   rw[cond_false,hL,← e]
   cases Ca (c :: r)<;>rfl
def G2 (x:Nd):Bool:=!decide (x.A8 < 0)&&(if x.Bg=1 then decide (0≤x.Cu∧x.Cu≤9999)&&(x.An==[]&&x.Df==[])
 else if x.Bg=2∨x.Bg=3 then x.Cu==0&&(Ca x.An&&x.Df==[]) else if x.Bg=4 then x.Cu==0&&(Ca x.An&&Ca x.Df) else x.Cu==0&&(x.An==[]&&x.Df==[]))
theorem Am7 (n:Nat) (x:Nd):Pw (n+2) x=some (G2 x):=by
 rw[Pw,G2]
 by_cases c:x.A8 < 0
 ·rw[Af c,decide_eq_true c];rfl
 rw[As c,decide_eq_false c]
 simp only[Fa,Option.bind_some,beq_self_eq_true,Bool.true_and,Bool.and_true,Bool.not_false]
 by_cases c1:x.Bg=1
 ·rw[if_pos c1,c1]
  simp only[beq_self_eq_true,cond_true]
  cases (x.An==[])<;>cases (x.Df==[])<;>by_cases h:0≤x.Cu<;>by_cases h2:x.Cu≤9999<;>simp[h,h2]
 rw[if_neg c1,beq_eq_false_iff_ne.2 c1]
 by_cases c4:x.Bg=4
 ·rw[if_neg (by omega),if_pos c4,c4]
  simp only[beq_self_eq_true,cond_true,cond_false]
  cases Ca x.Df<;>cases Ca x.An<;>cases (x.Cu==0)<;>rfl
 rw[if_neg c4,beq_eq_false_iff_ne.2 c4]
 by_cases c2:x.Bg=2
 ·rw[if_pos (.inl c2),c2]
  simp only[beq_self_eq_true,cond_true,cond_false]
  cases Ca x.An<;>cases (x.Cu==0)<;>cases (x.Df==[])<;>rfl
 rw[beq_eq_false_iff_ne.2 c2]
 by_cases c3:x.Bg=3
 ·rw[if_pos (.inr c3),c3]
  simp only[beq_self_eq_true,cond_true,cond_false]
  cases Ca x.An<;>cases (x.Cu==0)<;>cases (x.Df==[])<;>rfl
 rw[if_neg (by omega),beq_eq_false_iff_ne.2 c3]
 rfl
theorem Akd (n:Nat) (x:Nd) (hn:x.An.length+50 < n) (hn2:x.Df.length+50 < n) (h1:x.An.length < 1000000) (h2:x.Df.length < 1000000):Oq n x=some (G2 x):=by
 obtain⟨n,rfl⟩:∃ j,n=j+1:=⟨n - 1,by omega⟩
 rw[Oq,G2]
 by_cases c:x.A8 < 0
 ·rw[Af c,decide_eq_true c];rfl
 rw[As c,decide_eq_false c,P4 n x.An (by omega) h1,P4 n x.Df (by omega) h2]
 simp only[Option.bind_some,Bool.not_false,Bool.true_and]
 by_cases c1:x.Bg=1
 ·rw[if_pos c1,c1]
  simp only[beq_self_eq_true,cond_true]
  cases (x.An==[])<;>cases (x.Df==[])<;>by_cases h:0≤x.Cu<;>by_cases h2:x.Cu≤9999<;>simp[h,h2]
 rw[if_neg c1,beq_eq_false_iff_ne.2 c1]
 by_cases c2:x.Bg=2
 ·rw[if_pos (.inl c2),c2]
  simp only[beq_self_eq_true,cond_true,cond_false]
  cases Ca x.An<;>cases (x.Cu==0)<;>rfl
 rw[beq_eq_false_iff_ne.2 c2]
 by_cases c3:x.Bg=3
 ·rw[if_pos (.inr c3),c3]
  simp only[beq_self_eq_true,cond_true,cond_false]
  cases Ca x.An<;>cases (x.Cu==0)<;>rfl
 rw[if_neg (by omega),beq_eq_false_iff_ne.2 c3]
 by_cases c4:x.Bg=4
 ·rw[if_pos c4,c4]
  simp only[beq_self_eq_true,cond_true,cond_false]
  cases Ca x.An<;>cases (x.Cu==0)<;>rfl
 rw[if_neg c4,beq_eq_false_iff_ne.2 c4]
 cases (x.An==[])<;>cases (x.Cu==0)<;>rfl
def Ey (l:List Nd):Bool:=decide (1≤l.length∧l.length≤200)&&(decide (H9 l 1=some l.length)&&(l.all G2&&decide ((Ha l (0,[])).1≤30)))
theorem Ai8 (n:Nat) (l:List Nd) (hl:l.length < 100000) (hn:l.length+4 < n):Oc n l=some (Ha l (0,[])).1:=by
 obtain⟨n,rfl⟩:∃ j,n=j+1:=⟨n - 1,by omega⟩
 rw[Oc,Ajs n l hl (by omega) (by omega)];rfl
theorem Aj8 (l:List Nd) (hl:1≤l.length):(Xn l 0 != (l.length:Int))=!decide (H9 l 1=some l.length):=by
 have e:Xn l 0=match H9 l 1 with | some j=>((j:Nat):Int) | none=> -1:=by
  rw[Xn,if_neg (by omega)]
  show(match H9 l 1 with | some j=>(0:Int)+(j:Int) | none=> -1)=_
  cases H9 l 1 with
  | none=>rfl
  | some j=>simp
 rw[e]
 cases H9 l 1 with
 | none =>
  show((-1:Int) != (l.length:Int))=_
  rw[bne_iff_ne.2 (by omega)];simp
 | some j =>
  show(((j:Nat):Int) != (l.length:Int))=_
  rw[Ami]
  by_cases h:j=l.length<;>simp[h]
theorem A19 (n:Nat) (l:List Nd) (hl:l.length < 100000) (hn:l.length+20 < n):Mq n l=some (Ey l):=by
 obtain⟨n,rfl⟩:∃ j,n=j+3:=⟨n - 3,by omega⟩
 rw[Mq,Ey]
 by_cases c1:l.length=0
 ·rw[beq_iff_eq.2 (show((l.length:Nat):Int)=0 by omega),decide_eq_false (show ¬ (1≤l.length∧l.length≤200) by omega)];rfl
 rw[beq_eq_false_iff_ne.2 (show((l.length:Nat):Int)≠0 by omega)]
 by_cases c2:200 < (l.length:Int)
 ·rw[Af c2,decide_eq_false (show ¬ (1≤l.length∧l.length≤200) by omega)];rfl
 have hL:Ho (n+2) l (n+2) 0=bif l.all G2 then some (.out ()) else some (.ret false):=by
  refine Ik l (fun k i=>Ho (n+2) l k (i:Int)) _ (fun k=>?_) (fun k i x hi hx=>?_) (by omega)
  ·rw[Ho,As (by omega)]
  ·rw[Ho,Af (by omega),Bm hx,Option.bind_some,Am7,Option.bind_some,B3 i (by omega)]
 rw[As c2,An8 (n+2) l 0 (by omega) (by omega),Option.bind_some,Aj8 l (by omega),hL,decide_eq_true (show 1≤l.length∧l.length≤200 by omega)]
 simp only[cond_false,Ai8 (n+2) l hl (by omega)]
 cases decide (H9 l 1=some l.length) with
 | false=>rfl
 | true=>cases l.all G2<;>rfl
def H8 (l:List Nd):Bool:=decide (l.length≤250)&&l.all fun x=>decide (x.An.length≤100∧x.Df.length≤100)
theorem A10 (n:Nat) (l:List Nd) (hl:H8 l=true) (hn:500 < n):Lb n l=some (Ey l):=by
 simp only[H8,Bool.and_eq_true,decide_eq_true_eq,List.all_eq_true] at hl
 obtain⟨n,rfl⟩:∃ j,n=j+3:=⟨n - 3,by omega⟩
 rw[Lb,Ey]
 by_cases c2:200 < (l.length:Int)
 ·rw[Af c2,decide_eq_false (show ¬ (1≤l.length∧l.length≤200) by omega)];rfl
 rw[As c2]
 by_cases c1:l.length=0
 ·rw[beq_iff_eq.2 (show((l.length:Nat):Int)=0 by omega),decide_eq_false (show ¬ (1≤l.length∧l.length≤200) by omega)];rfl
 rw[beq_eq_false_iff_ne.2 (show((l.length:Nat):Int)≠0 by omega)]
 have hL:Gr (n+2) l (n+2) 0=bif l.all G2 then some (.out ()) else some (.ret false):=by
  refine Ik l (fun k i=>Gr (n+2) l k (i:Int)) _ (fun k=>?_) (fun k i x hi hx=>?_) (by omega)
  ·rw[Gr,As (by omega)]
  ·have:=hl.2 x (List.mem_of_getElem? hx)
   rw[Gr,Af (by omega),Bm hx,Option.bind_some,Akd _ x (by omega) (by omega) (by omega) (by omega),Option.bind_some,B3 i (by omega)]
 rw[A2w (n+2) l 0 (by omega) (by omega),Option.bind_some,Aj8 l (by omega),hL,decide_eq_true (show 1≤l.length∧l.length≤200 by omega)]
 simp only[cond_false]
 by_cases he:H9 l 1=some l.length
 ·rw[decide_eq_true he]
  cases l.all G2 with
  | false=>rfl
  | true =>
   obtain⟨t,h1,h2,_,_⟩:=Aiv he
   rw[List.take_length] at h2
   have hd:=t.dep_lt
   have e1:F1 (n+2) l 0=some (t.dep:Int):=by
    have:=Abs t (n+2) [] [] h1 (by simp[h2];omega) (by simp[h2];rw[h2] at hd;omega)
    simpa [h2] using this
   have e2:(Ha l (0,[])).1=(t.dep:Int):=by
    have:=A48 t [] 0 [] h1 (by omega)
    rw[List.append_nil,h2] at this
    rw[this];simp[Ha]
   simp only[Bool.not_true,cond_false,cond_true,Option.bind_some,e1,e2,Bool.true_and]
 ·rw[decide_eq_false he];rfl
end Go.Proofs.YtpnhafdimkmbbaaGreat
end
section
namespace Go.Proofs.YtpnhafdimkmbbaaGreat
set_option linter.unusedVariables false
set_option linter.unusedSimpArgs false
def Qf {α:Type} (p:α→Bool):List α→Nat→Option Nat
 | [],_=>none
 | x :: l,i=>bif p x then some i else Qf p l (i+1)
theorem Ahw {α:Type} {p:α→Bool}:∀ {l:List α} {i j:Nat},Qf p l i=some j→i≤j∧j < i+l.length∧∃ x,l[j - i]?=some x∧p x=true:=by
 intro l
 induction l with
 | nil=>intro i j h;cases h
 | cons x l ih =>
  intro i j h
  rw[Qf] at h
  cases hp:p x with
  | true =>
   rw[hp] at h
   obtain rfl:i=j:=Option.some.inj h
   exact⟨Nat.le_refl _,by simp,x,by simp,hp⟩
  | false =>
   rw[hp] at h
   obtain⟨h1,h2,y,h3,h4⟩:=ih h
   refine⟨by omega,by simp;omega,y,?_,h4⟩
   rw[show j - i=(j - (i+1))+1 by omega,List.getElem?_cons_succ];exact h3
theorem Afv {α τ:Type} (l:List α) (L:Nat→Nat→Option (LR Unit τ)) (p:α→Bool) (g:Nat→α→Option (LR Unit τ)) (h0:∀ k,L (k+1) l.length=some (.out ()))
 (h1:∀ k i x,i < l.length→l[i]?=some x→L (k+1) i=bif p x then g i x else L k (i+1)) :
 ∀ (m k i:Nat),i+m=l.length→m < k→L k i=match Qf p (l.drop i) i with | some j=>(match l[j]? with | some x=>g j x | none=>none) | none=>some (.out ()):=by
 intro m
 induction m with
 | zero =>
  intro k i hi hk
  obtain⟨k,rfl⟩:∃ j,k=j+1:=⟨k - 1,by omega⟩
  obtain rfl:i=l.length:=by omega
  rw[h0,List.drop_length];rfl
 | succ m ih =>
  intro k i hi hk
  obtain⟨k,rfl⟩:∃ j,k=j+1:=⟨k - 1,by omega⟩
  have hlt:i < l.length:=by omega
  rw[h1 k i l[i] hlt (List.getElem?_eq_getElem hlt),ih k (i+1) (by omega) (by omega),List.drop_eq_getElem_cons hlt,Qf]
  cases hp:p l[i] with
  | true=>simp only[cond_true,List.getElem?_eq_getElem hlt]
  | false=>rfl
theorem Aiu {τ:Type} (s:List UInt8) (p:Int→Bool) (L:Nat→Nat→Option (LR Int τ)) (h0:∀ k,L (k+1) s.length=some (.out (s.length:Int)))
 (h1:∀ k i c,i < s.length→s[i]?=some c→L (k+1) i=bif p c.toNat then L k (i+1) else some (.out (i:Int))) :
 ∀ (m k i:Nat),i+m=s.length→m < k→L k i=some (.out ((i+Di p (s.drop i):Nat):Int)):=by
 intro m
 induction m with
 | zero =>
  intro k i hi hk
  obtain⟨k,rfl⟩:∃ j,k=j+1:=⟨k - 1,by omega⟩
  obtain rfl:i=s.length:=by omega
  rw[h0,List.drop_length];simp[Di]
 | succ m ih =>
  intro k i hi hk
  obtain⟨k,rfl⟩:∃ j,k=j+1:=⟨k - 1,by omega⟩
  have hlt:i < s.length:=by omega
  rw[h1 k i s[i] hlt (List.getElem?_eq_getElem hlt),List.drop_eq_getElem_cons hlt,Kh]
  cases hp:p (s[i].toNat:Int) with
  | true=>rw[cond_true,ih k (i+1) (by omega) (by omega),if_pos rfl];congr 3;omega
  | false=>rw[cond_false,if_neg (by simp)];rfl
theorem Alc (n:Nat) (s:List UInt8) (hs:s.length < 1000000) {k i:Nat} (hi:i≤s.length) (hk:s.length - i < k):Ig n s k (i:Int)=some (.out ((i+Di Mz (s.drop i):Nat):Int)):=by
 refine Aiu s Mz (fun k i=>Ig n s k (i:Int)) (fun k=>?_) (fun k i c hi hc=>?_) (s.length - i) k i (by omega) hk
 ·rw[Ig,As (by omega)]
 ·rw[Ig,Af (by omega),Bm hc,Option.bind_some,B3 i (by omega)]
  have:(((c.toNat:Nat):Int) != 10)=Mz c.toNat:=by
   unfold Mz
   by_cases h:((c.toNat:Nat):Int)=10<;>simp[h]
  rw[this]
def Aa1 (r:LR Int Int):Int:=match r with
 | .out x=>x
 | .ret x=>x
theorem Amj (n:Nat) (s:List UInt8) (hs:s.length < 1000000) (hn:s.length < n):∀ (m k i:Nat),s.length - i≤m→i≤s.length→m < k→(E4 n s k (i:Int)).map Aa1=some ((i+En false (s.drop i):Nat):Int):=by
 intro m
 induction m with
 | zero =>
  intro k i hm hi hk
  obtain⟨k,rfl⟩:∃ j,k=j+1:=⟨k - 1,by omega⟩
  obtain rfl:i=s.length:=by omega
  rw[E4,As (by omega),List.drop_length];simp[En,Aa1]
 | succ m ih =>
  intro k i hm hi hk
  obtain⟨k,rfl⟩:∃ j,k=j+1:=⟨k - 1,by omega⟩
  by_cases hlt:i < s.length
  ·have hc:s[i]?=some s[i]:=List.getElem?_eq_getElem hlt
   rw[E4,Af (by omega),Bm hc,B3 i (by omega),List.drop_eq_getElem_cons hlt]
   generalize hcc:s[i]=c at *
   simp only[Option.bind_some]
   by_cases hb:Pr (c.toNat:Int)=true
   ·have hi1:=ih k (i+1) (by omega) (by omega) (by omega)
    have e:(E4 n s k ((i+1:Nat):Int)).map Aa1=some ((i+En false (c :: s.drop (i+1)):Nat):Int):=by
     rw[hi1,Aea hb];congr 1;omega
    rw[← e]
    unfold Pr at hb
    rw[decide_eq_true_eq] at hb
    rcases hb with h | h | h | h<;>rw[h]<;>rfl
   ·have hb':Pr (c.toNat:Int)=false:=by simpa using hb
    have hnb:=hb'
    unfold Pr at hnb
    rw[decide_eq_false_iff_not] at hnb
    rw[beq_eq_false_iff_ne.2 (show((c.toNat:Nat):Int)≠32 by omega),beq_eq_false_iff_ne.2 (show((c.toNat:Nat):Int)≠9 by omega),beq_eq_false_iff_ne.2 (show((c.toNat:Nat):Int)≠10 by omega),beq_eq_false_iff_ne.2 (show((c.toNat:Nat):Int)≠13 by omega)]
    simp only[cond_false]
    by_cases h35:c.toNat=35
    ·have hr:=Alc n s hs (k:=n) (i:=i) (by omega) (by omega)
     have hd:s.drop i=c :: s.drop (i+1):=by rw[List.drop_eq_getElem_cons hlt,hcc]
     have hl1:1≤Di Mz (s.drop i):=by
      rw[hd,Kh,if_pos (by rw[h35];decide)];omega
     have hl2:=Vp Mz (s.drop i)
     rw[List.length_drop] at hl2
     rw[h35,hr,Option.bind_some]
     show Option.map Aa1 (E4 n s k _)=_
     rw[ih k (i+Di Mz (s.drop i)) (by omega) (by omega) (by omega),Aai h35,← hd,List.drop_drop]
     congr 1;omega
    ·rw[beq_eq_false_iff_ne.2 (show((c.toNat:Nat):Int)≠35 by omega),cond_false,Ag7 hb' h35]
     rfl
  ·obtain rfl:i=s.length:=by omega
   rw[E4,As (by omega),List.drop_length];simp[En,Aa1]
theorem Aiz (n:Nat) (s:List UInt8) (i:Nat) (hs:s.length < 1000000) (hn:s.length+1 < n) (hi:i≤s.length):Nm n s (i:Int)=some ((i+En false (s.drop i):Nat):Int):=by
 obtain⟨n,rfl⟩:∃ j,n=j+1:=⟨n - 1,by omega⟩
 obtain⟨r,h1,h2⟩:=Option.map_eq_some_iff.1 (Amj n s hs (by omega) s.length n i (by omega) hi (by omega))
 rw[Nm,h1]
 cases r<;>exact congrArg some h2
def A72 (s:List UInt8) (at':Nat):Lx→Av×Int
 | .tok k n v=>(⟨k,(s.drop at').take n,v,at'⟩,0)
 | .err e=>(⟨0,[],0,0⟩,e)
theorem Alx (n:Nat) (s:List UInt8) (hs:s.length < 1000000) (a:Nat) (k i:Nat) (h0:a < i) (hi:i≤s.length) (hk:s.length - i < k):Ga (n+1) s (a:Int) k (i:Int)=some (.out ((i+Di Jg (s.drop i):Nat):Int)):=by
 have key:∀ (m k i:Nat),a < i→i+m=s.length→m < k→Ga (n+1) s (a:Int) k (i:Int)=some (.out ((i+Di Jg (s.drop i):Nat):Int)):=by
  intro m
  induction m with
  | zero =>
   intro k i ha hi hk
   obtain⟨k,rfl⟩:∃ j,k=j+1:=⟨k - 1,by omega⟩
   obtain rfl:i=s.length:=by omega
   rw[Ga,As (by omega),List.drop_length];simp[Di]
  | succ m ih =>
   intro k i ha hi hk
   obtain⟨k,rfl⟩:∃ j,k=j+1:=⟨k - 1,by omega⟩
   have hlt:i < s.length:=by omega
   rw[Ga,Af (by omega),Bm (List.getElem?_eq_getElem hlt),Option.bind_some,W0,Option.bind_some,Option.bind_some,A1i,Option.bind_some,B3 i (by omega),Af (by omega),List.drop_eq_getElem_cons hlt,Kh]
   have e:=ih k (i+1) (by omega) (by omega) (by omega)
   unfold Jg
   cases El (s[i].toNat:Int) with
   | true=>rw[cond_true,e,Bool.true_or,if_pos rfl];congr 3;unfold Jg;omega
   | false =>
    cases Dr (s[i].toNat:Int) with
    | true=>rw[cond_false,cond_true,e,Bool.or_true,if_pos rfl];congr 3;unfold Jg;omega
    | false=>rw[cond_false,cond_false,if_neg (by simp)];rfl
 exact key (s.length - i) k i h0 (by omega) hk
theorem Ahh (n:Nat) (s:List UInt8) (hs:s.length < 1000000):∀ (m k i v:Nat),i+m=s.length→m < k→v≤10000 →
 Ie (n+1) s k (i:Int) (v:Int)=some (.out (((i+Di Dr (s.drop i):Nat):Int),(((s.drop i).take (Di Dr (s.drop i))).foldl (fun n c=>min (10*n+(c.toNat - 48)) 10000) v:Nat))):=by
 intro m
 induction m with
 | zero =>
  intro k i v hi hk hv
  obtain⟨k,rfl⟩:∃ j,k=j+1:=⟨k - 1,by omega⟩
  obtain rfl:i=s.length:=by omega
  rw[Ie,As (by omega),List.drop_length];simp[Di]
 | succ m ih =>
  intro k i v hi hk hv
  obtain⟨k,rfl⟩:∃ j,k=j+1:=⟨k - 1,by omega⟩
  have hlt:i < s.length:=by omega
  rw[Ie,Af (by omega),Bm (List.getElem?_eq_getElem hlt),Option.bind_some,A1i,Option.bind_some,Option.bind_some,B3 i (by omega),List.drop_eq_getElem_cons hlt,Kh]
  cases hd:Dr (s[i].toNat:Int) with
  | false=>rw[cond_false,if_neg (by simp)];simp
  | true =>
   have hd':48≤s[i].toNat∧s[i].toNat≤57:=by
    unfold Dr at hd;rw[decide_eq_true_eq] at hd;omega
   have w1:IntKind.u8.wrap ((s[i].toNat:Int) - 48)=((s[i].toNat - 48:Nat):Int):=by
    simp only[IntKind.wrap,IntKind.bits,IntKind.signed]
    simp;omega
   rw[cond_true,if_pos rfl,w1,C1 (n:=10*(v:Int)) (by omega),C1 (n:=((s[i].toNat - 48:Nat):Int)) (by omega),C1 (by omega)]
   have e:(if 10000 < 10*(v:Int)+((s[i].toNat - 48:Nat):Int) then(10000:Int) else 10*(v:Int)+((s[i].toNat - 48:Nat):Int))=((min (10*v+(s[i].toNat - 48)) 10000:Nat):Int):=by split<;>omega
   rw[e,ih k (i+1) _ (by omega) (by omega) (by omega),List.take_succ_cons,List.foldl_cons]
   congr 3;omega
theorem Ahd (n:Nat):Qd (n+1)=some D4:=rfl
theorem Y3 (s:List UInt8) (a k:Nat):List.drop a (List.take (a+k) s)=(s.drop a).take k:=by rw[List.drop_take];congr 1;omega
theorem Am2 (n:Nat) (s:List UInt8) (hs:s.length < 1000000) (a:Nat) (ha:a≤s.length) {k:Nat} (hk:20 < k) :
 Hl n s (a:Int) D4 k 0=match Qf (fun x:List UInt8=>decide (x <+: s.drop a)) D4 0 with
  | some j=>(match D4[j]? with | some x=>some (.ret ((⟨3,x,0,(a:Int)⟩:Av),0)) | none=>none)
  | none=>some (.out ()):=by
 have hlen:D4.length=18:=rfl
 have h:=Afv D4 (fun k i=>Hl n s (a:Int) D4 k (i:Int)) (fun x:List UInt8=>decide (x <+: s.drop a)) (fun i x=>some (.ret ((⟨3,x,0,(a:Int)⟩:Av),0))) (fun k=>by rw[Hl,As (by omega)]) (fun k i x hi hx=>by
  have hxl:x.length≤2:=by
   have hm:=List.mem_of_getElem? hx
   have:D4.all (fun x=>decide (x.length≤2))=true:=by decide
   simpa using List.all_eq_true.1 this x hm
  rw[Hl,Af (by omega),Bm hx,Option.bind_some,Option.bind_some,B3 i (by omega),C1 (n:=(a:Int)+(x.length:Int)) (by omega)]
  by_cases hl:(a:Int)+(x.length:Int)≤(s.length:Int)
  ·have c:(decide (0≤(a:Int)+(x.length:Int))&&decide ((a:Int)+(x.length:Int)≤(s.length:Int))&&decide (0≤(a:Int))&&decide ((a:Int)≤(a:Int)+(x.length:Int)))=true:=by
    rw[decide_eq_true (by omega),decide_eq_true hl,decide_eq_true (by omega),decide_eq_true (by omega)];rfl
   rw[Af hl,c,cond_true,Int.toNat_natCast,show((a:Int)+(x.length:Int)).toNat=a+x.length by omega,Y3,Option.bind_some]
   have e:((s.drop a).take x.length==x)=decide (x <+: s.drop a):=by
    rw[Bool.eq_iff_iff,beq_iff_eq,decide_eq_true_eq,List.prefix_iff_eq_take]
    exact⟨fun h=>h.symm,fun h=>h.symm⟩
   rw[e]
  ·have e:decide (x <+: s.drop a)=false:=decide_eq_false fun hp=>by
    have:=hp.length_le
    rw[List.length_drop] at this;omega
   rw[As hl,e,cond_false]) D4.length k 0 (by omega) (by omega)
 rw[List.drop_zero] at h
 refine h.trans ?_
 cases Qf (fun x:List UInt8=>decide (x <+: s.drop a)) D4 0 with
 | none=>rfl
 | some j=>(dsimp only;generalize D4[j]?=q;cases q<;>rfl)
theorem Aan {α:Type} {p:α→Bool}:∀ {l:List α} {i j:Nat},Qf p l i=some j→∀ k x,i+k < j→l[k]?=some x→p x=false:=by
 intro l
 induction l with
 | nil=>intro i j h;cases h
 | cons y l ih =>
  intro i j h k x hk hx
  rw[Qf] at h
  cases hp:p y with
  | true =>
   rw[hp] at h
   have:i=j:=Option.some.inj h
   omega
  | false =>
   rw[hp] at h
   cases k with
   | zero=>obtain rfl:y=x:=by simpa using hx
           exact hp
   | succ k=>exact ih h k x (by omega) (by simpa using hx)
theorem Ae0 {α:Type} {p:α→Bool}:∀ {l:List α} {i:Nat},Qf p l i=none→∀ x ∈ l,p x=false:=by
 intro l
 induction l with
 | nil=>intro i _ x hx;cases hx
 | cons y l ih =>
  intro i h x hx
  rw[Qf] at h
  cases hp:p y with
  | true=>rw[hp] at h;cases h
  | false =>
   rw[hp] at h
   rcases List.mem_cons.1 hx with rfl | hx
   ·exact hp
   ·exact ih h x hx
theorem Amn (n:Nat) (s:List UInt8) (a:Nat) (hs:s.length < 1000000) (hn:s.length+30 < n) (ha:a < s.length):Q1 n s (a:Int)=some (A72 s a (Qo (s.drop a))):=by
 obtain⟨n,rfl⟩:∃ j,n=j+2:=⟨n - 2,by omega⟩
 have hd:s.drop a=s[a] :: s.drop (a+1):=List.drop_eq_getElem_cons ha
 have hcons:∀ p,Di p (s.drop a)=if p s[a].toNat then Di p (s.drop (a+1))+1 else 0:=fun p=>by rw[hd,Kh]
 have hlen:=fun p=>Vp p (s.drop a)
 rw[List.length_drop] at hlen
 have hone:Qo (s.drop a)=if El s[a].toNat then(if Di Jg (s.drop a) > 16 then .err 2 else .tok 1 (Di Jg (s.drop a)) 0)
  else if Dr s[a].toNat then(if Wg ((s.drop a).take (Di Dr (s.drop a))) > 9999 then .err 4 else .tok 2 (Di Dr (s.drop a)) (Wg ((s.drop a).take (Di Dr (s.drop a)))))
  else if Li (s.drop a)=0 then .err 3 else .tok 3 (Li (s.drop a)) 0:=by rw[hd];rfl
 have cut:∀ m:Nat,m≤s.length - a→(decide (0≤((a+m:Nat):Int))&&decide (((a+m:Nat):Int)≤(s.length:Int))&&decide (0≤(a:Int))&&decide ((a:Int)≤((a+m:Nat):Int)))=true:=by
  intro m hm
  rw[decide_eq_true (by omega),decide_eq_true (by omega),decide_eq_true (by omega),decide_eq_true (by omega)];rfl
 rw[Q1,Ga,Af (by omega),Bm (List.getElem?_eq_getElem ha),Option.bind_some,W0,Option.bind_some,B3 a (by omega),As (show ¬ (a:Int) < (a:Int) by omega),hone]
 cases hl:El (s[a].toNat:Int) with
 | true =>
  have hw:Jg (s[a].toNat:Int)=true:=by unfold Jg;rw[hl];rfl
  have h1:=hcons Jg
  rw[if_pos hw] at h1
  have h2:=hlen Jg
  rw[cond_true,Alx n s hs a n (a+1) (by omega) (by omega) (by omega),if_pos rfl]
  have e:a+1+Di Jg (s.drop (a+1))=a+Di Jg (s.drop a):=by omega
  rw[e]
  simp only[Option.bind_some]
  rw[Af (by omega),C1 (by omega)]
  by_cases c:Di Jg (s.drop a) > 16
  ·rw[Af (by omega),if_pos c];rfl
  ·rw[As (by omega),if_neg c,cut _ (by omega),cond_true,Int.toNat_natCast,Int.toNat_natCast,Y3];rfl
 | false =>
  rw[cond_false,if_neg (by simp)]
  simp only[Option.bind_some]
  rw[As (show ¬ (a:Int) < (a:Int) by omega)]
  have hD:=Ahh n s hs (s.length - a) (n+1) a 0 (by omega) (by omega) (by omega)
  have hD:Ie (n+1) s (n+1) (a:Int) 0=some (.out (((a+Di Dr (s.drop a):Nat):Int),((Wg ((s.drop a).take (Di Dr (s.drop a))):Nat):Int))):=hD
  rw[hD]
  simp only[Option.bind_some]
  have h1:=hcons Dr
  cases hg:Dr (s[a].toNat:Int) with
  | true =>
   rw[hg,if_pos rfl] at h1
   have h2:=hlen Dr
   rw[Af (by omega),if_pos rfl]
   by_cases c:Wg ((s.drop a).take (Di Dr (s.drop a))) > 9999
   ·rw[Af (by omega),if_pos c];rfl
   ·rw[As (by omega),if_neg c,cut _ (by omega),cond_true,Int.toNat_natCast,Int.toNat_natCast,Y3];rfl
  | false =>
   rw[hg,if_neg (by simp)] at h1
   rw[As (by omega),if_neg (by simp),Ahd,Option.bind_some,Am2 (n+1) s hs a (by omega) (by omega)]
   cases hf:Qf (fun x:List UInt8=>decide (x <+: s.drop a)) D4 0 with
   | none =>
    have hnone:Li (s.drop a)=0:=A9i fun j hj=>by
     have:=Ae0 hf D4[j] (List.getElem_mem hj)
     simpa using this
    rw[hnone,if_pos rfl];rfl
   | some j =>
    obtain⟨_,j2,x,j3,j4⟩:=Ahw hf
    rw[Nat.sub_zero] at j3
    have hj:j < D4.length:=by omega
    have hx:D4[j]=x:=by rw[List.getElem?_eq_getElem hj] at j3;exact Option.some.inj j3
    have hfirst:=A5x (l:=s.drop a) hj (by rw[hx];simpa using j4) (fun k hk hkj=>by
     have:=Aan hf k D4[k] (by omega) (List.getElem?_eq_getElem hk)
     simpa using this)
    rw[hx] at hfirst
    have hx0:0 < x.length:=by
     have:D4.all (fun x=>decide (0 < x.length))=true:=by decide
     have:=List.all_eq_true.1 this x (List.mem_of_getElem? j3)
     simpa using this
    rw[hfirst.1,if_neg (by omega)]
    simp only[j3,Option.bind_some,A72,hfirst.2]
    rfl
def tkS (t:Tok):Av:=⟨t.kind,t.text,t.n,t.at'⟩
def A1c (r:A4g):List Av×Int×Int:=(r.toks.map tkS,r.err,r.at')
def Alu (r:LR (List Av) (List Av×Int×Int)):List Av×Int×Int:=match r with
 | .out x=>(x,0,0)
 | .ret x=>x
theorem Alq (n:Nat) (s:List UInt8) (hs:s.length≤20000) (hn:s.length+40 < n):∀ (m k p f:Nat) (acc:List Tok),s.length - p≤m→m < k→(s.drop p).length < f→p≤s.length→acc.length≤p →
 (Gk n s k ((p+En false (s.drop p):Nat):Int) (acc.map tkS)).map Alu=some (A1c (Nn f (s.drop p) p acc)):=by
 intro m
 induction m with
 | zero =>
  intro k p f acc hm hk hf hp ha
  obtain⟨k,rfl⟩:∃ j,k=j+1:=⟨k - 1,by omega⟩
  obtain⟨f,rfl⟩:∃ j,f=j+1:=⟨f - 1,by omega⟩
  obtain rfl:p=s.length:=by omega
  rw[List.drop_length,Gk,As (by simp[En])];rfl
 | succ m ih =>
  intro k p f acc hm hk hf hp ha
  obtain⟨k,rfl⟩:∃ j,k=j+1:=⟨k - 1,by omega⟩
  obtain⟨f,rfl⟩:∃ j,f=j+1:=⟨f - 1,by omega⟩
  have hg:=A4d false (s.drop p)
  rw[List.length_drop] at hg
  have hdd:(s.drop p).drop (En false (s.drop p))=s.drop (p+En false (s.drop p)):=by rw[List.drop_drop]
  generalize hi:p+En false (s.drop p)=i at *
  rw[Nn,hdd,hi]
  by_cases c:i < s.length
  ·have hcons:s.drop i=s[i] :: s.drop (i+1):=List.drop_eq_getElem_cons c
   rw[Gk,Af (by omega),Amn n s i (by omega) (by omega) c,Option.bind_some]
   rw[hcons]
   dsimp only
   rw[← hcons]
   cases ho:Qo (s.drop i) with
   | err e =>
    have he:(e != 0)=true:=Agy ho
    simp only[A72,he,cond_true];rfl
   | tok kd ln v =>
    obtain⟨l1,l2⟩:=A1l ho
    rw[List.length_drop] at l2
    have htl:((s.drop i).take ln).length=ln:=by rw[List.length_take,List.length_drop];omega
    have e0:((0:Int) != 0)=false:=rfl
    simp only[A72,e0,cond_false,htl]
    rw[Af (by rw[List.length_map];omega),C1 (by omega),show(i:Int)+(ln:Int)=((i+ln:Nat):Int) by omega,Aiz n s (i+ln) (by omega) (by omega) (by omega),Option.bind_some]
    have hh:=ih k (i+ln) f (acc++[⟨kd,(s.drop i).take ln,v,(i:Nat)⟩]) (by omega) (by omega) (by rw[List.length_drop] at hf ⊢;omega) (by omega) (by simp;omega)
    rw[List.map_append] at hh
    rw[List.drop_drop]
    exact hh
  ·obtain rfl:i=s.length:=by omega
   rw[List.drop_length,Gk,As (by omega)];rfl
theorem Alg (n:Nat) (s:List UInt8) (hs:s.length < 1000000) (hn:s.length+50 < n):Oi n s=some (A1c (M1 s)):=by
 obtain⟨n,rfl⟩:∃ j,n=j+1:=⟨n - 1,by omega⟩
 rw[Oi,M1]
 by_cases c:20000 < (s.length:Int)
 ·rw[Af c,if_pos (by omega)];rfl
 ·rw[As c,if_neg (by omega),show(0:Int)=((0:Nat):Int) from rfl,Aiz n s 0 (by omega) (by omega) (by omega),Option.bind_some]
  obtain⟨r,h1,h2⟩:=Option.map_eq_some_iff.1 (Alq n s (by omega) (by omega) s.length n 0 (s.length+1) [] (by omega) (by omega) (by simp) (by omega) (by simp))
  have h1:Gk n s n ((0+En false (s.drop 0):Nat):Int) []=some r:=h1
  rw[h1,Option.bind_some]
  have h2:Alu r=A1c (Nn (s.length+1) s 0 []):=by rw[h2,List.drop_zero]
  rw[← h2]
  cases r<;>rfl
end Go.Proofs.YtpnhafdimkmbbaaGreat
end
section
namespace Go.Proofs.YtpnhafdimkmbbaaGreat
set_option linter.unusedVariables false
set_option linter.unusedSimpArgs false
def Lm (op:Int):List UInt8:=if op=5 then [33] else if op=6 then [43] else if op=7 then [45] else if op=8 then [42] else if op=9 then [61,61] else if op=10 then [33,61] else if op=11 then [60] else if op=12 then [60,61] else if op=13 then [38,38] else [124,124]
def Ac7 (l:List Nd):Prop:=∀ x ∈ l,G2 x=true∧x.An.length≤100∧x.Df.length≤100
def Db (x:Nd):Bool:=x.Bg==2 || (x.Bg==3 || x.Bg==4)
theorem A0n {α τ:Type} (l:List α) (p:α→Bool) (L:Nat→Nat→List α→Option (LR (List α) τ)) (h0:∀ k s,L (k+1) l.length s=some (.out s))
 (h1:∀ k i x s,i < l.length→l[i]?=some x→s.length≤i→L (k+1) i s=L k (i+1) (bif p x then s++[x] else s)) {k:Nat} (hk:l.length < k):L k 0 []=some (.out (l.filter p)):=by
 have:=Jd l L (fun l s=>some (.out (s++l.filter p))) (fun i s=>s.length≤i) (s:=[]) hk (Nat.le_refl _) (fun k s _=>by rw[h0 k];simp) ?_
 ·rw[this];rfl
 ·intro k i s x hi hx hs ih
  rw[h1 k i x s hi hx hs]
  cases hp:p x with
  | true=>rw[cond_true,ih _ (by simp;omega)];simp[hp]
  | false=>rw[cond_false,ih _ (by omega)];simp[hp]
theorem A4f (n:Nat) (l:List Nd) (hl:l.length < 100000) (hn:l.length+1 < n):Mh n l=some (l.filter Db):=by
 obtain⟨n,rfl⟩:∃ j,n=j+1:=⟨n - 1,by omega⟩
 have:Es n l n 0 []=some (.out (l.filter Db)):=by
  refine A0n l Db (fun k i s=>Es n l k (i:Int) s) (fun k s=>?_) (fun k i x s hi hx hs=>?_) (by omega)
  ·rw[Es,As (by omega)]
  ·rw[Es,Af (by omega),Bm hx,Option.bind_some,B3 i (by omega),Af (show(s.length+1)*57≤140737488355328 by omega)]
   unfold Db
   cases (x.Bg==2)<;>cases (x.Bg==3)<;>cases (x.Bg==4)<;>rfl
 rw[Mh,this];rfl
theorem A15 (n:Nat) (l:List Nd) (hl:l.length < 100000) (hn:l.length+1 < n):Ld n l=some (l.filter Db):=by
 obtain⟨n,rfl⟩:∃ j,n=j+1:=⟨n - 1,by omega⟩
 have:Ef n l n 0 []=some (.out (l.filter Db)):=by
  refine A0n l Db (fun k i s=>Ef n l k (i:Int) s) (fun k s=>?_) (fun k i x s hi hx hs=>?_) (by omega)
  ·rw[Ef,As (by omega)]
  ·rw[Ef,Af (by omega),Bm hx]
   simp only[Option.bind_some]
   rw[B3 i (by omega),Af (show(s.length+1)*57≤140737488355328 by omega)]
   unfold Db
   cases (x.Bg==2)<;>cases (x.Bg==3)<;>cases (x.Bg==4)<;>rfl
 rw[Ld,this];rfl
end Go.Proofs.YtpnhafdimkmbbaaGreat
end
section
namespace Go.Proofs.YtpnhafdimkmbbaaGreat
set_option linter.unusedVariables false
theorem Ab7 {l:List UInt8} {k:Nat} (hk:k < l.length) (h:Ko l k=true):Jg l[k].toNat=true:=by
 simp only[Ko,List.getElem?_eq_getElem hk,Bool.or_eq_true,Bool.and_eq_true,decide_eq_true_eq] at h
 simp only[Jg,Bool.or_eq_true]
 rcases h with h | h
 ·exact .inl h
 ·exact .inr h.2
def An4 (l:List UInt8):Prop:=∃ c t,l=c :: t∧El c.toNat=true∧(∀ k (hk:k < l.length),Jg l[k].toNat=true)∧l.length≤16
theorem A9x {l:List UInt8} (h:Ca l=true):An4 l:=by
 simp only[Ca,Bool.and_eq_true,Bool.not_eq_true',decide_eq_true_eq,List.all_eq_true,List.mem_range] at h
 obtain⟨⟨⟨h1,h2⟩,h3⟩,_⟩:=h
 rcases l with _ | ⟨c,t⟩
 ·simp at h1
 ·refine⟨c,t,rfl,?_,fun k hk=>Ab7 hk (h3 k hk),h2⟩
  have:=h3 0 (by simp)
  simpa [Ko] using this
end Go.Proofs.YtpnhafdimkmbbaaGreat
end
section
namespace Go.Proofs.YtpnhafdimkmbbaaGreat
set_option linter.unusedVariables false
set_option linter.unusedSimpArgs false
def Bw (l:List Av) (i:Nat) (s:List UInt8):Bool:=match l[i]? with
 | some t=>t.Ac==3&&t.Bt==s
 | none=>false
def Jn (l:List Av) (i:Nat) (ops:List Int):Int:=ops.foldl (fun acc op=>bif Bw l i (Lm op) then op else acc) 0
end Go.Proofs.YtpnhafdimkmbbaaGreat
end
section
namespace Go.Proofs.YtpnhafdimkmbbaaGreat
set_option linter.unusedVariables false
set_option linter.unusedSimpArgs false
abbrev Tk:=Av
inductive PR where
 | ok (x:List Nd) (tu:Nat)
 | bad (e:Int) (a:Int)
def Kd:Nat→List Int
 | 0=>[14]
 | 1=>[13]
 | 2=>[9,10,11,12]
 | 3=>[6,7]
 | _=>[8]
def C7 (l:List Tk) (i:Nat):Int:=match l[i]? with
 | some t=>t.A8
 | none=>match l[l.length - 1]? with
   | some t=>IntKind.i64.wrap (t.A8+((t.Bt.length:Nat):Int))
   | none=>0
def Jl (l:List Tk) (i:Nat):Int:=if i < l.length then 5 else 6
def Ae3 (l:List Tk) (i:Nat):PR:=.bad (Jl l i) (C7 l i)
def isN (l:List Tk) (i:Nat):Bool:=match l[i]? with
 | some t=>t.Ac==1&&Ca t.Bt
 | none=>false
def isK (l:List Tk) (i:Nat):Bool:=match l[i]? with
 | some t=>t.Ac==2
 | none=>false
inductive Md where
 | fl (f:Nat)
 | lp (f:Nat) (x:List Nd)
inductive PE (l:List Tk):Md→Nat→Nat→PR→Prop
 | deep {inn i:Nat} {t:Tk}:(Bw l i [33]=true∨Bw l i [40]=true)→30≤inn→l[i]?=some t→PE l (.fl 5) inn i (.bad 7 t.A8)
 | not_ok {inn i tu:Nat} {t:Tk} {x:List Nd}:Bw l i [33]=true→inn < 30→l[i]?=some t→PE l (.fl 5) (inn+1) (i+1) (.ok x tu)→PE l (.fl 5) inn i (.ok (⟨5,0,[],[],t.A8⟩ :: x) tu)
 | not_bad {inn i:Nat} {e a:Int}:Bw l i [33]=true→inn < 30→PE l (.fl 5) (inn+1) (i+1) (.bad e a)→PE l (.fl 5) inn i (.bad e a)
 | par_ok {inn i tu:Nat} {x:List Nd}:Bw l i [40]=true→inn < 30→PE l (.fl 0) (inn+1) (i+1) (.ok x tu)→Bw l tu [41]=true→PE l (.fl 5) inn i (.ok x (tu+1))
 | par_bad {inn i:Nat} {e a:Int}:Bw l i [40]=true→inn < 30→PE l (.fl 0) (inn+1) (i+1) (.bad e a)→PE l (.fl 5) inn i (.bad e a)
 | par_open {inn i tu:Nat} {x:List Nd}:Bw l i [40]=true→inn < 30→PE l (.fl 0) (inn+1) (i+1) (.ok x tu)→Bw l tu [41]=false→PE l (.fl 5) inn i (Ae3 l tu)
 | num {inn i:Nat} {t:Tk}:isK l i=true→l[i]?=some t→PE l (.fl 5) inn i (.ok [⟨1,t.Cu,[],[],t.A8⟩] (i+1))
 | reg {inn i:Nat} {t:Tk}:isN l i=true→Bw l (i+1) [46]=false→l[i]?=some t→PE l (.fl 5) inn i (.ok [⟨2,0,t.Bt,[],t.A8⟩] (i+1))
 | of {inn i:Nat} {t u:Tk}:isN l i=true→Bw l (i+1) [46]=true→isN l (i+2)=true→l[i]?=some t→l[i+2]?=some u→PE l (.fl 5) inn i (.ok [⟨4,0,u.Bt,t.Bt,t.A8⟩] (i+3))
 | of_bad {inn i:Nat}:isN l i=true→Bw l (i+1) [46]=true→isN l (i+2)=false→PE l (.fl 5) inn i (Ae3 l (i+2))
 | no {inn i:Nat}:Bw l i [33]=false→Bw l i [40]=false→isK l i=false→isN l i=false→PE l (.fl 5) inn i (Ae3 l i)
 | fl_bad {f inn i:Nat} {e a:Int}:f < 5→PE l (.fl (f+1)) inn i (.bad e a)→PE l (.fl f) inn i (.bad e a)
 | fl_ok {f inn i tu:Nat} {x:List Nd} {r:PR}:f < 5→PE l (.fl (f+1)) inn i (.ok x tu)→PE l (.lp f x) inn tu r→PE l (.fl f) inn i r
 | lp_stop {f inn i:Nat} {x:List Nd}:Jn l i (Kd f)=0→PE l (.lp f x) inn i (.ok x i)
 | lp_bad {f inn i:Nat} {x:List Nd} {e a:Int}:f < 5→Jn l i (Kd f)≠0→PE l (.fl (f+1)) inn (i+1) (.bad e a)→PE l (.lp f x) inn i (.bad e a)
 | lp_once {inn i tu:Nat} {x y:List Nd} {t:Tk}:Jn l i (Kd 2)≠0→l[i]?=some t→PE l (.fl 3) inn (i+1) (.ok y tu)→PE l (.lp 2 x) inn i (.ok (⟨Jn l i (Kd 2),0,[],[],t.A8⟩ :: (x++y)) tu)
 | lp_go {f inn i tu:Nat} {x y:List Nd} {t:Tk} {r:PR}:f < 5→f≠2→Jn l i (Kd f)≠0→l[i]?=some t→PE l (.fl (f+1)) inn (i+1) (.ok y tu)→PE l (.lp f (⟨Jn l i (Kd f),0,[],[],t.A8⟩ :: (x++y))) inn tu r→PE l (.lp f x) inn i r
theorem E5 {l:List Tk} {i:Nat} {s:List UInt8} (h:Bw l i s=true):i < l.length:=by
 unfold Bw at h
 cases hg:l[i]? with
 | none=>rw[hg] at h;cases h
 | some t=>exact(List.getElem?_eq_some_iff.1 hg).1
theorem T6 {l:List Tk} {i:Nat} (h:isN l i=true):i < l.length:=by
 unfold isN at h
 cases hg:l[i]? with
 | none=>rw[hg] at h;cases h
 | some t=>exact(List.getElem?_eq_some_iff.1 hg).1
theorem J4 {l:List Tk} {i:Nat} {t:Tk} (h:l[i]?=some t):i < l.length:=(List.getElem?_eq_some_iff.1 h).1
theorem Aca {l:List Tk} {i:Nat}:∀ {ops:List Int} {a:Int},ops.foldl (fun acc op=>bif Bw l i (Lm op) then op else acc) a≠a→∃ op ∈ ops,Bw l i (Lm op)=true:=by
 intro ops
 induction ops with
 | nil=>intro a h;exact absurd rfl h
 | cons op ops ih =>
  intro a h
  cases hs:Bw l i (Lm op) with
  | true=>exact⟨op,List.mem_cons_self ..,hs⟩
  | false =>
   rw[List.foldl_cons,hs] at h
   obtain⟨o,ho,hh⟩:=ih h
   exact⟨o,List.mem_cons_of_mem _ ho,hh⟩
theorem Sc {l:List Tk} {i:Nat} {ops:List Int} (h:Jn l i ops≠0):i < l.length:=by
 obtain⟨op,_,hh⟩:=Aca h
 exact E5 hh
theorem Aip {l:List Tk} {i:Nat}:∀ {ops:List Int} {a:Int},ops.foldl (fun acc op=>bif Bw l i (Lm op) then op else acc) a=a∨ops.foldl (fun acc op=>bif Bw l i (Lm op) then op else acc) a ∈ ops:=by
 intro ops
 induction ops with
 | nil=>intro a;exact .inl rfl
 | cons op ops ih =>
  intro a
  rw[List.foldl_cons]
  cases Bw l i (Lm op) with
  | true =>
   rcases ih (a:=op) with h | h
   ·right;rw[cond_true,h];exact List.mem_cons_self ..
   ·right;exact List.mem_cons_of_mem _ h
  | false =>
   rcases ih (a:=a) with h | h
   ·left;exact h
   ·right;exact List.mem_cons_of_mem _ h
theorem M4 {l:List Tk} {md:Md} {inn i:Nat} {r:PR} (h:PE l md inn i r):i≤l.length→match md,r with
 | .fl _,.ok x tu=>i < tu∧tu≤l.length∧x.length≤tu - i∧1≤x.length
 | .lp _ x0,.ok x tu=>i≤tu∧tu≤l.length∧x.length≤x0.length+(tu - i)∧x0.length≤x.length
 | _,.bad e _=>e≠0:=by
 induction h with
 | deep h1 h2 h3=>intro _;show(7:Int)≠0;decide
 | not_ok h1 h2 h3 h4 ih=>intro _;have:=ih (by have:=E5 h1;omega);have:=E5 h1;dsimp only at *;simp only[List.length_cons];omega
 | not_bad h1 h2 h4 ih=>intro _;exact ih (by have:=E5 h1;omega)
 | par_ok h1 h2 h3 h4 ih=>intro _;have:=ih (by have:=E5 h1;omega);have:=E5 h1;have:=E5 h4;dsimp only at *;omega
 | par_bad h1 h2 h4 ih=>intro _;exact ih (by have:=E5 h1;omega)
 | par_open h1 h2 h3 h4 ih=>intro _;show Jl _ _≠0;unfold Jl;split<;>decide
 | num h1 h2=>intro _;have:=J4 h2;dsimp only;simp;omega
 | reg h1 h2 h3=>intro _;have:=J4 h3;dsimp only;simp;omega
 | of h1 h2 h3 h4 h5=>intro _;have:=J4 h5;dsimp only;simp;omega
 | of_bad h1 h2 h3=>intro _;show Jl _ _≠0;unfold Jl;split<;>decide
 | no h1 h2 h3 h4=>intro _;show Jl _ _≠0;unfold Jl;split<;>decide
 | fl_bad h1 h2 ih=>intro hi;exact ih hi
 | @fl_ok f inn i tu x r h1 h2 h3 ih1 ih2 =>
  intro hi;have:=ih1 hi;dsimp only at this;have h:=ih2 (by omega)
  cases r with
  | ok y to2=>dsimp only at h ⊢;omega
  | bad e a=>exact h
 | lp_stop h1=>intro hi;dsimp only;omega
 | lp_bad h1 h2 h3 ih=>intro hi;exact ih (by have:=Sc h2;omega)
 | lp_once h1 h2 h3 ih=>intro hi;have:=ih (by have:=Sc h1;omega);have:=Sc h1;dsimp only at *;simp only[List.length_cons,List.length_append];omega
 | @lp_go f inn i tu x y t r h1 h2 h3 h4 h5 h6 ih1 ih2 =>
  intro hi;have:=ih1 (by have:=Sc h3;omega);dsimp only at this;have h:=ih2 (by omega)
  cases r with
  | ok y to2=>dsimp only at h ⊢;simp only[List.length_cons,List.length_append] at h;omega
  | bad e a=>exact h
end Go.Proofs.YtpnhafdimkmbbaaGreat
end
section
namespace Go.Proofs.YtpnhafdimkmbbaaGreat
set_option linter.unusedVariables false
set_option linter.unusedSimpArgs false
theorem Aft (f:Nat):(∀ op ∈ Kd f,6≤op∧op≤14)∧(Kd f).length≤4:=by
 match f with
 | 0=>exact⟨by decide,by decide⟩
 | 1=>exact⟨by decide,by decide⟩
 | 2=>exact⟨by decide,by decide⟩
 | 3=>exact⟨by decide,by decide⟩
 | _+4=>exact⟨by simp[Kd],by simp[Kd]⟩
theorem Afi {l:List Tk} {i:Nat} {s:List UInt8} (h:Bw l i s=true):∃ t,l[i]?=some t∧t.Ac=3∧t.Bt=s:=by
 unfold Bw at h
 cases hg:l[i]? with
 | none=>rw[hg] at h;cases h
 | some t=>rw[hg] at h;simp only[Bool.and_eq_true,beq_iff_eq] at h;exact⟨t,rfl,h⟩
theorem Qn {l:List Tk} {i:Nat} {s s':List UInt8} (h:Bw l i s=true) (hs:s≠s'):Bw l i s'=false:=by
 obtain⟨t,ht,_,h2⟩:=Afi h
 simp only[Bw,ht,h2];simp[hs]
end Go.Proofs.YtpnhafdimkmbbaaGreat
end
section
namespace Go.Proofs.YtpnhafdimkmbbaaGreat
set_option linter.unusedVariables false
set_option linter.unusedSimpArgs false
theorem Ahy {l:List Tk} {f inn:Nat} (hf:f < 5) (j:Nat) (h:∀ i,j < i→i≤l.length→∃ r,PE l (.fl (f+1)) inn i r):∀ (m i:Nat) (x:List Nd),l.length - i≤m→j≤i→i≤l.length→∃ r,PE l (.lp f x) inn i r:=by
 intro m
 induction m with
 | zero =>
  intro i x hm hj hi
  refine⟨_,.lp_stop ?_⟩
  cases Decidable.em (Jn l i (Kd f)=0) with
  | inl h=>exact h
  | inr h=>have:=Sc h;omega
 | succ m ih =>
  intro i x hm hj hi
  by_cases c:Jn l i (Kd f)=0
  ·exact⟨_,.lp_stop c⟩
  ·have hlt:=Sc c
   obtain⟨r,hr⟩:=h (i+1) (by omega) (by omega)
   cases r with
   | bad e a=>exact⟨_,.lp_bad hf c hr⟩
   | ok y tu =>
    have hto:=M4 hr (by omega);dsimp only at hto
    by_cases c2:f=2
    ·subst c2;exact⟨_,.lp_once c (List.getElem?_eq_getElem hlt) hr⟩
    ·obtain⟨r,h2⟩:=ih tu (⟨Jn l i (Kd f),0,[],[],l[i].A8⟩ :: (x++y)) (by omega) (by omega) (by omega)
     exact⟨_,.lp_go hf c2 c (List.getElem?_eq_getElem hlt) hr h2⟩
theorem A2b {l:List Tk} {inn i:Nat} (hi:i≤l.length) (hn:inn≤30) (h:∀ f inn',f≤5→inn'≤30→i < l.length→∃ r,PE l (.fl f) inn' (i+1) r):∃ r,PE l (.fl 5) inn i r:=by
 cases h1:Bw l i [33] with
 | true =>
  have hlt:=E5 h1
  by_cases c:30≤inn
  ·exact⟨_,.deep (.inl h1) c (List.getElem?_eq_getElem hlt)⟩
  ·obtain⟨r,hr⟩:=h 5 (inn+1) (by omega) (by omega) hlt
   cases r with
   | bad e a=>exact⟨_,.not_bad h1 (by omega) hr⟩
   | ok y tu=>exact⟨_,.not_ok h1 (by omega) (List.getElem?_eq_getElem hlt) hr⟩
 | false =>
 cases h2:Bw l i [40] with
 | true =>
  have hlt:=E5 h2
  by_cases c:30≤inn
  ·exact⟨_,.deep (.inr h2) c (List.getElem?_eq_getElem hlt)⟩
  ·obtain⟨r,hr⟩:=h 0 (inn+1) (by omega) (by omega) hlt
   cases r with
   | bad e a=>exact⟨_,.par_bad h2 (by omega) hr⟩
   | ok y tu =>
    cases h3:Bw l tu [41] with
    | true=>exact⟨_,.par_ok h2 (by omega) hr h3⟩
    | false=>exact⟨_,.par_open h2 (by omega) hr h3⟩
 | false =>
 cases h3:isK l i with
 | true =>
  have:i < l.length:=by
   unfold isK at h3
   cases hg:l[i]? with
   | none=>rw[hg] at h3;cases h3
   | some t=>exact J4 hg
  exact⟨_,.num h3 (List.getElem?_eq_getElem this)⟩
 | false =>
 cases h4:isN l i with
 | false=>exact⟨_,.no h1 h2 h3 h4⟩
 | true =>
 have hlt:=T6 h4
 cases h5:Bw l (i+1) [46] with
 | false=>exact⟨_,.reg h4 h5 (List.getElem?_eq_getElem hlt)⟩
 | true =>
 cases h6:isN l (i+2) with
 | false=>exact⟨_,.of_bad h4 h5 h6⟩
 | true=>exact⟨_,.of h4 h5 h6 (List.getElem?_eq_getElem hlt) (List.getElem?_eq_getElem (T6 h6))⟩
theorem A9o {l:List Tk}:∀ (m i f inn:Nat),l.length - i≤m→i≤l.length→f≤5→inn≤30→∃ r,PE l (.fl f) inn i r:=by
 intro m
 induction m with
 | zero =>
  intro i f inn hm hi hf hn
  obtain⟨d,hd⟩:∃ d,d+f=5:=⟨5 - f,by omega⟩
  induction d generalizing f with
  | zero=>obtain rfl:f=5:=by omega
          exact A2b hi hn (fun _ _ _ _ h=>by omega)
  | succ d ih =>
   obtain⟨r,hr⟩:=ih (f+1) (by omega) (by omega)
   cases r with
   | bad e a=>exact⟨_,.fl_bad (by omega) hr⟩
   | ok y tu=>have:=M4 hr hi;dsimp only at this;omega
 | succ m ihm =>
  intro i f inn hm hi hf hn
  obtain⟨d,hd⟩:∃ d,d+f=5:=⟨5 - f,by omega⟩
  induction d generalizing f with
  | zero=>obtain rfl:f=5:=by omega
          exact A2b hi hn (fun f' inn' h1 h2 h3=>ihm (i+1) f' inn' (by omega) (by omega) h1 h2)
  | succ d ih =>
   obtain⟨r,hr⟩:=ih (f+1) (by omega) (by omega)
   cases r with
   | bad e a=>exact⟨_,.fl_bad (by omega) hr⟩
   | ok y tu =>
    have hto:=M4 hr hi;dsimp only at hto
    obtain⟨r,h2⟩:=Ahy (f:=f) (inn:=inn) (by omega) tu (fun i' h1 h2=>ihm i' (f+1) inn (by omega) h2 (by omega) hn) l.length tu y (by omega) (by omega) (by omega)
    exact⟨_,.fl_ok (by omega) hr h2⟩
def Q4 (l:List Tk) (i:Nat):PR→List Nd×Int×Int×Int
 | .bad e a=>([],0,e,a)
 | .ok x tu=>if 30 < (Ha x (0,[])).1 then([],0,7,C7 l i) else if 200 < x.length then([],0,2,C7 l i) else(x,tu,0,0)
def Tj (t:Tk):Prop:=0≤t.A8∧0≤t.Cu∧t.Cu≤9999
def O1 (x:List Nd):Prop:=(∃ t:Tr,t.wf∧t.flat=x)∧∀ y ∈ x,G2 y=true∧y.Bg≠3
theorem A51 {op a:Int} (h:5≤op∧op≤14) (ha:0≤a):G2 ⟨op,0,[],[],a⟩=true:=by
 simp only[G2]
 rw[decide_eq_false (by omega),if_neg (by omega),if_neg (by omega),if_neg (by omega)];rfl
theorem Amy {op:Int} (h:6≤op∧op≤14):Fn op=2:=by unfold Fn;rw[if_neg (by omega),if_neg (by omega),if_pos h]
theorem A7q {l:List Tk} {i f:Nat} (h:Jn l i (Kd f)≠0):6≤Jn l i (Kd f)∧Jn l i (Kd f)≤14:=by
 rcases Aip (l:=l) (i:=i) (ops:=Kd f) (a:=0) with h1 | h1
 ·exact absurd h1 h
 ·exact(Aft f).1 _ h1
theorem A91 {op a:Int} {x y:List Nd} (h:6≤op∧op≤14) (ha:0≤a) (hx:O1 x) (hy:O1 y):O1 (⟨op,0,[],[],a⟩ :: (x++y)):=by
 obtain⟨⟨t,t1,t2⟩,hx⟩:=hx
 obtain⟨⟨u,u1,u2⟩,hy⟩:=hy
 refine⟨⟨.bin ⟨op,0,[],[],a⟩ t u,⟨Amy h,t1,u1⟩,by rw[Tr.flat,t2,u2]⟩,fun z hz=>?_⟩
 rcases List.mem_cons.1 hz with rfl | hz
 ·exact⟨A51 (by omega) ha,by dsimp only;omega⟩
 ·rcases List.mem_append.1 hz with hz | hz
  ·exact hx z hz
  ·exact hy z hz
theorem A03 {l:List Tk} (hl:∀ t ∈ l,Tj t) {md:Md} {inn i:Nat} {r:PR} (h:PE l md inn i r):match md,r with
 | .fl _,.ok x _=>O1 x
 | .lp _ x0,.ok x _=>O1 x0→O1 x
 | _,_=>True:=by
 have ok:∀ {i:Nat} {t:Tk},l[i]?=some t→Tj t:=fun h=>hl _ (List.mem_of_getElem? h)
 have nm:∀ {i:Nat} {t:Tk},isN l i=true→l[i]?=some t→Ca t.Bt=true:=fun h1 h2=>by
  simp only[isN,h2,Bool.and_eq_true] at h1;exact h1.2
 induction h with
 | deep h1 h2 h3=>trivial
 | @not_ok inn i tu t x h1 h2 h3 h4 ih =>
  obtain⟨⟨u,u1,u2⟩,hx⟩:=ih
  refine⟨⟨.un ⟨5,0,[],[],t.A8⟩ u,⟨(by decide:Fn 5=1),u1⟩,by rw[Tr.flat,u2]⟩,fun z hz=>?_⟩
  rcases List.mem_cons.1 hz with rfl | hz
  ·exact⟨A51 (by omega) (ok h3).1,by dsimp only;omega⟩
  ·exact hx z hz
 | not_bad h1 h2 h4 ih=>trivial
 | par_ok h1 h2 h3 h4 ih=>exact ih
 | par_bad h1 h2 h4 ih=>trivial
 | par_open h1 h2 h3 h4 ih=>trivial
 | @num inn i t h1 h2 =>
  have:=ok h2
  refine⟨⟨.leaf ⟨1,t.Cu,[],[],t.A8⟩,(by decide:Fn 1=0),rfl⟩,fun z hz=>?_⟩
  obtain rfl:=List.mem_singleton.1 hz
  refine⟨?_,(by decide:(1:Int)≠3)⟩
  simp only[G2]
  rw[decide_eq_false (by have:=this.1;omega),if_pos trivial,decide_eq_true ⟨this.2.1,this.2.2⟩];rfl
 | @reg inn i t h1 h2 h3 =>
  have:=ok h3
  refine⟨⟨.leaf ⟨2,0,t.Bt,[],t.A8⟩,(by decide:Fn 2=0),rfl⟩,fun z hz=>?_⟩
  obtain rfl:=List.mem_singleton.1 hz
  refine⟨?_,(by decide:(2:Int)≠3)⟩
  simp only[G2]
  rw[decide_eq_false (by have:=this.1;omega),if_neg (by omega),if_pos (.inl trivial),nm h1 h3];rfl
 | @of inn i t u h1 h2 h3 h4 h5 =>
  have:=ok h4
  refine⟨⟨.leaf ⟨4,0,u.Bt,t.Bt,t.A8⟩,(by decide:Fn 4=0),rfl⟩,fun z hz=>?_⟩
  obtain rfl:=List.mem_singleton.1 hz
  refine⟨?_,(by decide:(4:Int)≠3)⟩
  simp only[G2]
  rw[decide_eq_false (by have:=this.1;omega),if_neg (by omega),if_neg (by omega),if_pos trivial,nm h1 h4,nm h3 h5];rfl
 | of_bad h1 h2 h3=>trivial
 | no h1 h2 h3 h4=>trivial
 | fl_bad h1 h2 ih=>trivial
 | @fl_ok f inn i tu x r h1 h2 h3 ih1 ih2 =>
  cases r with
  | ok y to2=>exact ih2 ih1
  | bad e a=>trivial
 | lp_stop h1=>exact id
 | lp_bad h1 h2 h3 ih=>trivial
 | lp_once h1 h2 h3 ih=>exact fun hx=>A91 (A7q h1) (ok h2).1 hx ih
 | @lp_go f inn i tu x y t r h1 h2 h3 h4 h5 h6 ih1 ih2 =>
  cases r with
  | ok y to2=>exact fun hx=>ih2 (A91 (A7q h3) (ok h4).1 hx ih1)
  | bad e a=>trivial
end Go.Proofs.YtpnhafdimkmbbaaGreat
end
section
namespace Go.Proofs.YtpnhafdimkmbbaaGreat
set_option linter.unusedVariables false
set_option linter.unusedSimpArgs false
def Aj1 (x:Nd):Nd:=⟨if x.Bg=3 then 2 else x.Bg,x.Cu,x.An,x.Df,0⟩
end Go.Proofs.YtpnhafdimkmbbaaGreat
end
