/- Parts of the proofs: what they lean on. Conditions: none. -/
import Derived.Test.YtpnhafdimkmbbaaGreatLegalTextsP3
section
namespace Go.Proofs.YtpnhafdimkmbbaaGreat
set_option linter.unusedVariables false
set_option linter.unusedSimpArgs false
set_option maxRecDepth 100000
set_option maxHeartbeats 4000000
theorem J6 {n:Nat} ⦃A7:(List Av)⦄ ⦃B7:Int⦄ ⦃r:(Int×Int)⦄:Fi n A7 B7=some r→CN n 76 [AV.sl 4 (List.map B0 A7),iA B7] []=some (AV.tup [iA r.1,iA r.2],[]):=by
 intro h;rcases n with _|n;cases h
 rw[Fi] at h
 refine Aw Tryz.func76 (by rfl) rfl rfl (Nat.le_of_ble_eq_true rfl) ?_
 intro call hc;conv=>lhs;whnf
 revert h
 refine br ?_ ?_
 refine ca hc (fun _ h=>Me h) ?_;intro y2
 exact rz
 refine ca hc (fun _ h=>Me h) ?_;intro y4
 exact rz
theorem Tc {n:Nat} ⦃A7:(List Av)⦄ ⦃B7:Int⦄ ⦃r:Bool⦄:Ks n A7 B7=some r→CN n 78 [AV.sl 4 (List.map B0 A7),iA B7] []=some (bA r,[]):=by
 intro h;rcases n with _|n;cases h
 rw[Ks] at h
 refine Aw Tryz.func78 (by rfl) rfl rfl (Nat.le_of_ble_eq_true rfl) ?_
 intro call hc;conv=>lhs;whnf
 revert h
 refine br ?_ ?_
 refine ix ?_;intro x2
 refine br ?_ ?_
 refine ix ?_;intro x4
 refine ca hc (fun _ h=>Dj h) ?_;intro y5
 exact rz
 exact rz
 exact rz
theorem X1 {n:Nat} ⦃Bx:Int⦄ ⦃r:Bool⦄:Hu n Bx=some r→CN n 88 [iA Bx] []=some (bA r,[]):=by
 intro h;rcases n with _|n;cases h
 rw[Hu] at h
 refine Aw Tryz.func88 (by rfl) rfl rfl (Nat.le_of_ble_eq_true rfl) ?_
 intro call hc;conv=>lhs;whnf
 revert h
 refine br ?_ ?_
 exact rz
 refine br ?_ ?_
 exact rz
 exact rz
theorem A6k {n:Nat} ⦃Bx:Int⦄ ⦃r:(List UInt8)⦄:O8 n Bx=some r→CN n 120 [iA Bx] []=some (sA r,[]):=by
 intro h;rcases n with _|n;cases h
 rw[O8] at h
 refine Aw Tryz.func120 (by rfl) rfl rfl (Nat.le_of_ble_eq_true rfl) ?_
 intro call hc;conv=>lhs;whnf
 revert h
 refine br ?_ ?_
 exact rz
 refine br ?_ ?_
 exact rz
 refine br ?_ ?_
 exact rz
 refine br ?_ ?_
 exact rz
 refine br ?_ ?_
 exact rz
 refine br ?_ ?_
 exact rz
 refine br ?_ ?_
 exact rz
 refine br ?_ ?_
 exact rz
 refine br ?_ ?_
 exact rz
 refine br ?_ ?_
 exact rz
 exact rz
theorem Kj {n:Nat} ⦃A7:(List Aa)⦄ ⦃r:Bool⦄:Eu n A7=some r→CN n 86 [AV.sl 5 (List.map Ak A7)] []=some (bA r,[]):=by
 intro h;rcases n with _|n;cases h
 rw[Eu] at h
 refine Aw Tryz.func86 (by rfl) rfl rfl (Nat.le_of_ble_eq_true rfl) ?_
 intro call hc;conv=>lhs;whnf
 revert h
 refine ca hc (fun _ h=>Wb h) ?_;intro y1
 intro h;refine B1 h ?_;clear h;intro o11 ho11 h
 refine lq (σ:=Int) (τ:=Unit) (ν:=Bool) 0 (fun s3 a5=>Bh 21 [(0,AV.sl 5 (List.map Ak A7)),(3,AV.sl 5 (List.map Ak y1)),(4,iA s3)]) (fun s3 a5=>[]) (fun _ a15=>Bh 21 [(0,AV.sl 5 (List.map Ak A7))]) (fun _ a15=>[]) (fun v=>(bA v,[])) (fun k s=>F6 n y1 k s) (fun s=>rfl) o11 n 0 (fun _=>0) ho11 ?_ ?_
 intro k4 s3 a5 K6 cont7 hK8 hcont9 h hr10
 replace h:F6 n y1 (k4+1) s3=some o11:=h
 rw[F6] at h
 conv=>lhs;whnf
 revert h
 refine br ?_ ?_
 refine ix ?_;intro x13
 refine br ?_ ?_
 intro h;cases sj h
 refine(hK8 _ _).trans ?_
 refine Eq.trans ?_ (Eq.symm (show _=some _ from hr10))
 conv=>lhs;whnf
 exact rq
 exact fun h=>cq (hcont9 (IntKind.i64.wrap (s3+1)) (fun _=>0) h)
 intro h;cases sj h
 exact kq (hr10 (fun _=>0))
 refine lrc ?_ ?_
 intro v e;subst e;cases sj h;rfl
 intro t a15 e;subst e
 dsimp only at h
 conv=>lhs;whnf
 revert h
 refine ca hc (fun _ h=>We h) ?_;intro y16
 exact rz
theorem Wl {n:Nat} ⦃A7:(List Av)⦄ ⦃B7:Int⦄ ⦃r:((List Aa)×Int×Int×Int)⦄:Lf n A7 B7=some r→CN n 121 [AV.sl 4 (List.map B0 A7),iA B7] []=some (AV.tup [AV.sl 5 (List.map Ak r.1),iA r.2.1,iA r.2.2.1,iA r.2.2.2],[]):=by
 intro h;rcases n with _|n;cases h
 rw[Lf] at h
 refine Aw Tryz.func121 (by rfl) rfl rfl (Nat.le_of_ble_eq_true rfl) ?_
 intro call hc;conv=>lhs;whnf
 revert h
 refine ca hc (fun _ h=>Wi h) ?_;intro y1
 refine br ?_ ?_
 exact rz
 refine ca hc (fun _ h=>Kj h) ?_;intro y4
 refine br ?_ ?_
 exact rz
 refine ix ?_;intro x7
 exact rz
theorem A2v {n:Nat} ⦃A7:(List Av)⦄ ⦃B7:Int⦄ ⦃Ch:A0⦄ ⦃r:(A0×Int×Int×Int)⦄:Ew n A7 B7 Ch=some r→CN n 110 [AV.sl 4 (List.map B0 A7),iA B7,AV.agg [iA Ch.Ac,sA Ch.Ax,sA Ch.Au,AV.sl 5 (List.map Ak Ch.B4),AV.sl 5 (List.map Ak Ch.Bd),bA Ch.Bf,iA Ch.Al,iA Ch.C4,iA Ch.A8]] []=some (AV.tup [AV.agg [iA r.1.Ac,sA r.1.Ax,sA r.1.Au,AV.sl 5 (List.map Ak r.1.B4),AV.sl 5 (List.map Ak r.1.Bd),bA r.1.Bf,iA r.1.Al,iA r.1.C4,iA r.1.A8],iA r.2.1,iA r.2.2.1,iA r.2.2.2],[]):=by
 intro h;rcases n with _|n;cases h
 rw[Ew] at h
 refine Aw Tryz.func110 (by rfl) rfl rfl (Nat.le_of_ble_eq_true rfl) ?_
 intro call hc;conv=>lhs;whnf
 revert h
 refine ca hc (fun _ h=>A6k h) ?_;intro y1
 intro h;refine B1 h ?_;clear h;intro o17 ho17 h
 refine lq (σ:=(Int×Int×(List UInt8)×(List UInt8)×(List Aa)×(List Aa)×Bool)) (τ:=(Int×(List UInt8)×(List UInt8)×(List Aa)×(List Aa)×Bool)) (ν:=(A0×Int×Int×Int)) 0 (fun(s3,s4,s5,s6,s7,s8,s9) a11=>Bh 157 [(0,AV.sl 4 (List.map B0 A7)),(1,iA s3),(5,AV.ptr 0 0),(6,AV.ptr 1 0),(10,sA y1),(11,iA s4)]) (fun(s3,s4,s5,s6,s7,s8,s9) a11=>[Ob.var 59 [iA Ch.Ac,sA s5,sA s6,AV.sl 5 (List.map Ak s7),AV.sl 5 (List.map Ak s8),bA s9,iA Ch.Al,iA Ch.C4,iA Ch.A8],Ob.var 59 [iA (0),sA (([]:List UInt8)),sA (([]:List UInt8)),AV.nils,AV.nils,bA false,iA (0),iA (0),iA (0)]]) (fun(x72,x73,x74,x75,x76,x77) a71=>Bh 157 [(1,iA x72),(5,AV.ptr 0 0),(6,AV.ptr 1 0)]) (fun(x72,x73,x74,x75,x76,x77) a71=>[Ob.var 59 [iA Ch.Ac,sA x73,sA x74,AV.sl 5 (List.map Ak x75),AV.sl 5 (List.map Ak x76),bA x77,iA Ch.Al,iA Ch.C4,iA Ch.A8],Ob.var 59 [iA (0),sA (([]:List UInt8)),sA (([]:List UInt8)),AV.nils,AV.nils,bA false,iA (0),iA (0),iA (0)]]) (fun v=>(AV.tup [AV.agg [iA v.1.Ac,sA v.1.Ax,sA v.1.Au,AV.sl 5 (List.map Ak v.1.B4),AV.sl 5 (List.map Ak v.1.Bd),bA v.1.Bf,iA v.1.Al,iA v.1.C4,iA v.1.A8],iA v.2.1,iA v.2.2.1,iA v.2.2.2],[])) (fun k s=>C8 n A7 Ch y1 k s.1 s.2.1 s.2.2.1 s.2.2.2.1 s.2.2.2.2.1 s.2.2.2.2.2.1 s.2.2.2.2.2.2) (fun s=>rfl) o17 n (B7,0,Ch.Ax,Ch.Au,Ch.B4,Ch.Bd,Ch.Bf) (fun _=>0) ho17 ?_ ?_
 intro k10 ss a11 K12 cont13 hK14 hcont15 h hr16
 obtain⟨s3,s4,s5,s6,s7,s8,s9⟩:=ss
 replace h:C8 n A7 Ch y1 (k10+1) s3 s4 s5 s6 s7 s8 s9=some o17:=h
 rw[C8] at h
 conv=>lhs;whnf
 revert h
 refine br ?_ ?_
 refine ixs ?_;intro x19
 refine br ?_ ?_
 refine ca hc (fun _ h=>Tc h) ?_;intro y21
 refine br ?_ ?_
 refine ixs ?_;intro x24
 refine br ?_ ?_
 refine ix ?_;intro x26
 exact fun h=>cq (hcont15 (IntKind.i64.wrap (s3+1),IntKind.i64.wrap (s4+1),x26.Bt,s6,s7,s8,s9) (fun _=>0) h)
 refine ix ?_;intro x27
 exact fun h=>cq (hcont15 (IntKind.i64.wrap (s3+1),IntKind.i64.wrap (s4+1),s5,x27.Bt,s7,s8,s9) (fun _=>0) h)
 refine ca hc (fun _ h=>J6 h) ?_;intro y28
 intro h;cases sj h
 refine(hK14 _ _).trans ?_
 refine Eq.trans ?_ (Eq.symm (show _=some _ from hr16))
 conv=>lhs;whnf
 exact rq
 refine ixs ?_;intro x30
 refine br ?_ ?_
 refine ca hc (fun _ h=>Tc h) ?_;intro y32
 refine br ?_ ?_
 refine ixs ?_;intro x35
 refine br ?_ ?_
 refine ix ?_;intro x37
 exact fun h=>cq (hcont15 (IntKind.i64.wrap (s3+1),IntKind.i64.wrap (s4+1),x37.Bt,s6,s7,s8,s9) (fun _=>0) h)
 refine ix ?_;intro x38
 exact fun h=>cq (hcont15 (IntKind.i64.wrap (s3+1),IntKind.i64.wrap (s4+1),s5,x38.Bt,s7,s8,s9) (fun _=>0) h)
 refine ca hc (fun _ h=>J6 h) ?_;intro y39
 intro h;cases sj h
 refine(hK14 _ _).trans ?_
 refine Eq.trans ?_ (Eq.symm (show _=some _ from hr16))
 conv=>lhs;whnf
 exact rq
 refine ixs ?_;intro x41
 refine br ?_ ?_
 refine ca hc (fun _ h=>Wl h) ?_;intro y43
 refine br ?_ ?_
 intro h;cases sj h
 refine(hK14 _ _).trans ?_
 refine Eq.trans ?_ (Eq.symm (show _=some _ from hr16))
 conv=>lhs;whnf
 exact rq
 refine ixs ?_;intro x46
 refine br ?_ ?_
 exact fun h=>cq (hcont15 (y43.2.1,IntKind.i64.wrap (s4+1),s5,s6,y43.1,s8,s9) (fun _=>0) h)
 exact fun h=>cq (hcont15 (y43.2.1,IntKind.i64.wrap (s4+1),s5,s6,s7,y43.1,s9) (fun _=>0) h)
 refine ixs ?_;intro x48
 refine br ?_ ?_
 refine ca hc (fun _ h=>Wl h) ?_;intro y50
 refine br ?_ ?_
 intro h;cases sj h
 refine(hK14 _ _).trans ?_
 refine Eq.trans ?_ (Eq.symm (show _=some _ from hr16))
 conv=>lhs;whnf
 exact rq
 refine ixs ?_;intro x53
 refine br ?_ ?_
 exact fun h=>cq (hcont15 (y50.2.1,IntKind.i64.wrap (s4+1),s5,s6,y50.1,s8,s9) (fun _=>0) h)
 exact fun h=>cq (hcont15 (y50.2.1,IntKind.i64.wrap (s4+1),s5,s6,s7,y50.1,s9) (fun _=>0) h)
 refine ixs ?_;intro x55
 refine br ?_ ?_
 refine ca hc (fun _ h=>D6 h) ?_;intro y57
 refine br ?_ ?_
 exact fun h=>cq (hcont15 (IntKind.i64.wrap (s3+1),IntKind.i64.wrap (s4+1),s5,s6,s7,s8,true) (fun _=>0) h)
 refine ca hc (fun _ h=>D6 h) ?_;intro y60
 refine br ?_ ?_
 exact fun h=>cq (hcont15 (IntKind.i64.wrap (s3+1),IntKind.i64.wrap (s4+1),s5,s6,s7,s8,false) (fun _=>0) h)
 refine ca hc (fun _ h=>J6 h) ?_;intro y63
 intro h;cases sj h
 refine(hK14 _ _).trans ?_
 refine Eq.trans ?_ (Eq.symm (show _=some _ from hr16))
 conv=>lhs;whnf
 exact rq
 refine cp ?_
 refine cr hc (fun _ h=>D6 h) ?_;intro y66
 refine br ?_ ?_
 exact fun h=>cq (hcont15 (IntKind.i64.wrap (s3+1),IntKind.i64.wrap (s4+1),s5,s6,s7,s8,s9) (fun _=>0) h)
 refine ca hc (fun _ h=>J6 h) ?_;intro y69
 intro h;cases sj h
 refine(hK14 _ _).trans ?_
 refine Eq.trans ?_ (Eq.symm (show _=some _ from hr16))
 conv=>lhs;whnf
 exact rq
 intro h;cases sj h
 exact kq (hr16 (fun _=>0))
 refine lrc ?_ ?_
 intro v e;subst e;cases sj h;rfl
 intro t a71 e;subst e
 obtain⟨x72,x73,x74,x75,x76,x77⟩:=t
 dsimp only at h
 conv=>lhs;whnf
 revert h
 exact rz
theorem Wn {n:Nat} ⦃r:(List (List UInt8))⦄:N9 n=some r→CN n 119 [] []=some (AV.sl 1 (List.map Co r),[]):=by
 intro h;rcases n with _|n;cases h
 rw[N9] at h
 refine Aw Tryz.func119 (by rfl) rfl rfl (Nat.le_of_ble_eq_true rfl) ?_
 intro call hc;conv=>lhs;whnf
 revert h
 exact rz
theorem A5u {n:Nat} ⦃A7:(List Av)⦄ ⦃B7:Int⦄ ⦃r:Int⦄:Mj n A7 B7=some r→CN n 109 [AV.sl 4 (List.map B0 A7),iA B7] []=some (iA r,[]):=by
 intro h;rcases n with _|n;cases h
 rw[Mj] at h
 refine Aw Tryz.func109 (by rfl) rfl rfl (Nat.le_of_ble_eq_true rfl) ?_
 intro call hc;conv=>lhs;whnf
 revert h
 intro h;refine B1 h ?_;clear h;intro o9 ho9 h
 refine lq (σ:=Int) (τ:=Unit) (ν:=Int) 0 (fun s1 a3=>Bh 37 [(0,AV.sl 4 (List.map B0 A7)),(1,iA B7),(5,iA s1)]) (fun s1 a3=>[]) (fun _ a21=>Bh 37 []) (fun _ a21=>[]) (fun v=>(iA v,[])) (fun k s=>Et n A7 B7 k s) (fun s=>rfl) o9 n 1 (fun _=>0) ho9 ?_ ?_
 intro k2 s1 a3 K4 cont5 hK6 hcont7 h hr8
 replace h:Et n A7 B7 (k2+1) s1=some o9:=h
 rw[Et] at h
 conv=>lhs;whnf
 revert h
 refine ca hc (fun _ h=>Wn h) ?_;intro y10
 refine br ?_ ?_
 refine br ?_ ?_
 refine ix ?_;intro x14
 refine br ?_ ?_
 refine ix ?_;intro x16
 refine ca hc (fun _ h=>Wn h) ?_;intro y17
 refine ix ?_;intro x19
 refine br ?_ ?_
 intro h;cases sj h
 refine(hK6 _ _).trans ?_
 refine Eq.trans ?_ (Eq.symm (show _=some _ from hr8))
 conv=>lhs;whnf
 exact rq
 exact fun h=>cq (hcont7 (IntKind.i64.wrap (s1+1)) (fun _=>0) h)
 exact fun h=>cq (hcont7 (IntKind.i64.wrap (s1+1)) (fun _=>0) h)
 intro h;cases sj h
 exact kq (hr8 (fun _=>0))
 intro h;cases sj h
 exact kq (hr8 (fun _=>0))
 refine lrc ?_ ?_
 intro v e;subst e;cases sj h;rfl
 intro t a21 e;subst e
 dsimp only at h
 conv=>lhs;whnf
 revert h
 exact rz
def Rq (n:Nat):Prop:=∀ ⦃A7:(List Av)⦄ ⦃B7:Int⦄ ⦃Cx:Int⦄ ⦃r:((List A0)×Int×Int×Int)⦄,Cz n A7 B7 Cx=some r→CN n 111 [AV.sl 4 (List.map B0 A7),iA B7,iA Cx] []=some (AV.tup [AV.sl 9 (List.map Aj r.1),iA r.2.1,iA r.2.2.1,iA r.2.2.2],[])
def Qc (n:Nat):Prop:=∀ ⦃A7:(List Av)⦄ ⦃B7:Int⦄ ⦃Cx:Int⦄ ⦃r:((List A0)×Int×Int×Int)⦄,Ei n A7 B7 Cx=some r→CN n 99 [AV.sl 4 (List.map B0 A7),iA B7,iA Cx] []=some (AV.tup [AV.sl 9 (List.map Aj r.1),iA r.2.1,iA r.2.2.1,iA r.2.2.2],[])
def Ru (n:Nat):Prop:=Rq n∧Qc n
theorem A38 (n:Nat) (ih:Ru n):Rq (n+1):=by
 intro A7 B7 Cx r h
 rw[Cz] at h
 refine Aw Tryz.func111 (by rfl) rfl rfl (Nat.le_of_ble_eq_true rfl) ?_
 intro call hc;conv=>lhs;whnf
 revert h
 refine ca hc (fun _ h=>D6 h) ?_;intro y1
 refine br ?_ ?_
 refine br ?_ ?_
 refine ix ?_;intro x5
 exact rz
 refine ca hc (fun _ h=>ih.2 h) ?_;intro y6
 refine br ?_ ?_
 exact rz
 refine ca hc (fun _ h=>D6 h) ?_;intro y9
 refine br ?_ ?_
 exact rz
 refine ca hc (fun _ h=>J6 h) ?_;intro y12
 exact rz
 refine ca hc (fun _ h=>J6 h) ?_;intro y14
 exact rz
theorem A6r (n:Nat) (ih:Ru n):Qc (n+1):=by
 intro A7 B7 Cx r h
 rw[Ei] at h
 refine Aw Tryz.func99 (by rfl) rfl rfl (Nat.le_of_ble_eq_true rfl) ?_
 intro call hc;conv=>lhs;whnf
 revert h
 intro h;refine B1 h ?_;clear h;intro o10 ho10 h
 refine lq (σ:=(Int×(List A0))) (τ:=(Int×(List A0))) (ν:=((List A0)×Int×Int×Int)) 0 (fun(s1,s2) a4=>Bh 142 [(0,AV.sl 4 (List.map B0 A7)),(1,iA s1),(2,iA Cx),(10,AV.row 0 (List.length s2))]) (fun(s1,s2) a4=>[Ob.row 59 9 (List.map Aj s2)]) (fun(x121,x122) a120=>Bh 142 [(1,iA x121),(10,AV.row 0 (List.length x122))]) (fun(x121,x122) a120=>[Ob.row 59 9 (List.map Aj x122)]) (fun v=>(AV.tup [AV.sl 9 (List.map Aj v.1),iA v.2.1,iA v.2.2.1,iA v.2.2.2],[])) (fun k s=>Ci n (Cz n) A7 Cx k s.1 s.2) (fun s=>rfl) o10 n (B7,([]:List A0)) (fun _=>0) ho10 ?_ ?_
 intro k3 ss a4 K5 cont6 hK7 hcont8 h hr9
 obtain⟨s1,s2⟩:=ss
 replace h:Ci n (Cz n) A7 Cx (k3+1) s1 s2=some o10:=h
 rw[Ci] at h
 conv=>lhs;whnf
 revert h
 refine br ?_ ?_
 refine ca hc (fun _ h=>D6 h) ?_;intro y12
 refine br ?_ ?_
 intro h;cases sj h
 exact kq (hr9 (fun _=>0))
 refine ca hc (fun _ h=>A5u h) ?_;intro y15
 refine br ?_ ?_
 refine ix ?_;intro x18
 intro h;cases sj h
 refine(hK7 _ _).trans ?_
 refine Eq.trans ?_ (Eq.symm (show _=some _ from hr9))
 conv=>lhs;whnf
 exact rq
 refine ix ?_;intro x19
 refine cr hc (fun y20 h=>(show CN n 110 [AV.sl 4 (List.map B0 A7),iA (IntKind.i64.wrap (s1+1)),AV.agg [iA y15,sA (([]:List UInt8)),sA (([]:List UInt8)),AV.sl 5 [],AV.sl 5 [],bA false,iA (0),iA (0),iA x19.A8]] []=some (AV.tup [AV.agg [iA y20.1.Ac,sA y20.1.Ax,sA y20.1.Au,AV.sl 5 (List.map Ak y20.1.B4),AV.sl 5 (List.map Ak y20.1.Bd),bA y20.1.Bf,iA y20.1.Al,iA y20.1.C4,iA y20.1.A8],iA y20.2.1,iA y20.2.2.1,iA y20.2.2.2],[]) from A2v (r:=y20) h)) ?_;intro y20
 refine br ?_ ?_
 intro h;cases sj h
 refine(hK7 _ _).trans ?_
 refine Eq.trans ?_ (Eq.symm (show _=some _ from hr9))
 conv=>lhs;whnf
 exact rq
 refine ca hc (fun _ h=>X1 h) ?_;intro y23
 refine br ?_ ?_
 refine ca hc (fun _ h=>ih.1 h) ?_;intro y26
 refine br ?_ ?_
 intro h;cases sj h
 refine(hK7 _ _).trans ?_
 refine Eq.trans ?_ (Eq.symm (show _=some _ from hr9))
 conv=>lhs;whnf
 exact rq
 refine br ?_ ?_
 refine br ?_ ?_
 refine ix ?_;intro x31
 refine br ?_ ?_
 refine ix ?_;intro x33
 refine br ?_ ?_
 refine ca hc (fun _ h=>ih.1 h) ?_;intro y35
 refine br ?_ ?_
 intro h;cases sj h
 refine(hK7 _ _).trans ?_
 refine Eq.trans ?_ (Eq.symm (show _=some _ from hr9))
 conv=>lhs;whnf
 exact rq
 refine ar (ap Aj (List.map Aj s2) s2 ([[iA y20.1.Ac,sA y20.1.Ax,sA y20.1.Au,AV.sl 5 (List.map Ak y20.1.B4),AV.sl 5 (List.map Ak y20.1.Bd),bA y20.1.Bf,iA (((y26.1.length:Nat):Int)),iA (((y35.1.length:Nat):Int)),iA y20.1.A8]]) ([(⟨y20.1.Ac,y20.1.Ax,y20.1.Au,y20.1.B4,y20.1.Bd,y20.1.Bf,((y26.1.length:Nat):Int),((y35.1.length:Nat):Int),y20.1.A8⟩:A0)]:List A0)) ?_
 refine ar (ap Aj (List.map Aj (s2++([(⟨y20.1.Ac,y20.1.Ax,y20.1.Au,y20.1.B4,y20.1.Bd,y20.1.Bf,((y26.1.length:Nat):Int),((y35.1.length:Nat):Int),y20.1.A8⟩:A0)]:List A0))) (s2++([(⟨y20.1.Ac,y20.1.Ax,y20.1.Au,y20.1.B4,y20.1.Bd,y20.1.Bf,((y26.1.length:Nat):Int),((y35.1.length:Nat):Int),y20.1.A8⟩:A0)]:List A0)) (List.map Aj y26.1) y26.1) ?_
 refine ar (ap Aj (List.map Aj ((s2++([(⟨y20.1.Ac,y20.1.Ax,y20.1.Au,y20.1.B4,y20.1.Bd,y20.1.Bf,((y26.1.length:Nat):Int),((y35.1.length:Nat):Int),y20.1.A8⟩:A0)]:List A0))++y26.1)) ((s2++([(⟨y20.1.Ac,y20.1.Ax,y20.1.Au,y20.1.B4,y20.1.Bd,y20.1.Bf,((y26.1.length:Nat):Int),((y35.1.length:Nat):Int),y20.1.A8⟩:A0)]:List A0))++y26.1) (List.map Aj y35.1) y35.1) ?_
 exact fun h=>cq (hcont8 (y35.2.1,(((s2++([(⟨y20.1.Ac,y20.1.Ax,y20.1.Au,y20.1.B4,y20.1.Bd,y20.1.Bf,((y26.1.length:Nat):Int),((y35.1.length:Nat):Int),y20.1.A8⟩:A0)]:List A0))++y26.1)++y35.1)) (fun _=>0) h)
 refine ar (ap Aj (List.map Aj s2) s2 ([[iA y20.1.Ac,sA y20.1.Ax,sA y20.1.Au,AV.sl 5 (List.map Ak y20.1.B4),AV.sl 5 (List.map Ak y20.1.Bd),bA y20.1.Bf,iA (((y26.1.length:Nat):Int)),iA (0),iA y20.1.A8]]) ([(⟨y20.1.Ac,y20.1.Ax,y20.1.Au,y20.1.B4,y20.1.Bd,y20.1.Bf,((y26.1.length:Nat):Int),0,y20.1.A8⟩:A0)]:List A0)) ?_
 refine ar (ap Aj (List.map Aj (s2++([(⟨y20.1.Ac,y20.1.Ax,y20.1.Au,y20.1.B4,y20.1.Bd,y20.1.Bf,((y26.1.length:Nat):Int),0,y20.1.A8⟩:A0)]:List A0))) (s2++([(⟨y20.1.Ac,y20.1.Ax,y20.1.Au,y20.1.B4,y20.1.Bd,y20.1.Bf,((y26.1.length:Nat):Int),0,y20.1.A8⟩:A0)]:List A0)) (List.map Aj y26.1) y26.1) ?_
 intro h
 refine Fz h ?_;clear h;intro hc50 h
 first|refine Cp (J7 hc50 (by first|rfl|simp only [List.length_map]) (by first|rfl|simp only [List.length_map]) (by first|rfl|simp only [List.length_map,Bu]) (by kernel_rfl)) ?_|refine Cp (Hz hc50 (by first|rfl|simp only [List.length_map]) (by first|rfl|simp only [List.length_map,Bu]) (by kernel_rfl)) ?_
 have hp48:(List.map Aj ((s2++([(⟨y20.1.Ac,y20.1.Ax,y20.1.Au,y20.1.B4,y20.1.Bd,y20.1.Bf,((y26.1.length:Nat):Int),0,y20.1.A8⟩:A0)]:List A0))++y26.1):List (List AV))++([]:List (List AV))=(List.map Aj ((s2++([(⟨y20.1.Ac,y20.1.Ax,y20.1.Au,y20.1.B4,y20.1.Bd,y20.1.Bf,((y26.1.length:Nat):Int),0,y20.1.A8⟩:A0)]:List A0))++y26.1):List (List AV)):=List.append_nil _
 have hl49:List.length (List.map Aj ((s2++([(⟨y20.1.Ac,y20.1.Ax,y20.1.Au,y20.1.B4,y20.1.Bd,y20.1.Bf,((y26.1.length:Nat):Int),0,y20.1.A8⟩:A0)]:List A0))++y26.1):List (List AV))+List.length ([]:List (List AV))=List.length (List.map Aj ((s2++([(⟨y20.1.Ac,y20.1.Ax,y20.1.Au,y20.1.B4,y20.1.Bd,y20.1.Bf,((y26.1.length:Nat):Int),0,y20.1.A8⟩:A0)]:List A0))++y26.1):List (List AV)):=rfl
 have hl49_b:List.length ((s2++([(⟨y20.1.Ac,y20.1.Ax,y20.1.Au,y20.1.B4,y20.1.Bd,y20.1.Bf,((y26.1.length:Nat):Int),0,y20.1.A8⟩:A0)]:List A0))++y26.1)+List.length ([]:List (List AV))=List.length ((s2++([(⟨y20.1.Ac,y20.1.Ax,y20.1.Au,y20.1.B4,y20.1.Bd,y20.1.Bf,((y26.1.length:Nat):Int),0,y20.1.A8⟩:A0)]:List A0))++y26.1):=rfl
 try simp only[ls,c0]
 try simp only[hp48,hl49,hl49_b]
 try simp only[ls]
 conv=>lhs;whnf
 revert h
 exact fun h=>cq (hcont8 (y26.2.1,((s2++([(⟨y20.1.Ac,y20.1.Ax,y20.1.Au,y20.1.B4,y20.1.Bd,y20.1.Bf,((y26.1.length:Nat):Int),0,y20.1.A8⟩:A0)]:List A0))++y26.1)) (fun _=>0) h)
 refine ar (ap Aj (List.map Aj s2) s2 ([[iA y20.1.Ac,sA y20.1.Ax,sA y20.1.Au,AV.sl 5 (List.map Ak y20.1.B4),AV.sl 5 (List.map Ak y20.1.Bd),bA y20.1.Bf,iA (((y26.1.length:Nat):Int)),iA (0),iA y20.1.A8]]) ([(⟨y20.1.Ac,y20.1.Ax,y20.1.Au,y20.1.B4,y20.1.Bd,y20.1.Bf,((y26.1.length:Nat):Int),0,y20.1.A8⟩:A0)]:List A0)) ?_
 refine ar (ap Aj (List.map Aj (s2++([(⟨y20.1.Ac,y20.1.Ax,y20.1.Au,y20.1.B4,y20.1.Bd,y20.1.Bf,((y26.1.length:Nat):Int),0,y20.1.A8⟩:A0)]:List A0))) (s2++([(⟨y20.1.Ac,y20.1.Ax,y20.1.Au,y20.1.B4,y20.1.Bd,y20.1.Bf,((y26.1.length:Nat):Int),0,y20.1.A8⟩:A0)]:List A0)) (List.map Aj y26.1) y26.1) ?_
 intro h
 refine Fz h ?_;clear h;intro hc57 h
 first|refine Cp (J7 hc57 (by first|rfl|simp only [List.length_map]) (by first|rfl|simp only [List.length_map]) (by first|rfl|simp only [List.length_map,Bu]) (by kernel_rfl)) ?_|refine Cp (Hz hc57 (by first|rfl|simp only [List.length_map]) (by first|rfl|simp only [List.length_map,Bu]) (by kernel_rfl)) ?_
 have hp55:(List.map Aj ((s2++([(⟨y20.1.Ac,y20.1.Ax,y20.1.Au,y20.1.B4,y20.1.Bd,y20.1.Bf,((y26.1.length:Nat):Int),0,y20.1.A8⟩:A0)]:List A0))++y26.1):List (List AV))++([]:List (List AV))=(List.map Aj ((s2++([(⟨y20.1.Ac,y20.1.Ax,y20.1.Au,y20.1.B4,y20.1.Bd,y20.1.Bf,((y26.1.length:Nat):Int),0,y20.1.A8⟩:A0)]:List A0))++y26.1):List (List AV)):=List.append_nil _
 have hl56:List.length (List.map Aj ((s2++([(⟨y20.1.Ac,y20.1.Ax,y20.1.Au,y20.1.B4,y20.1.Bd,y20.1.Bf,((y26.1.length:Nat):Int),0,y20.1.A8⟩:A0)]:List A0))++y26.1):List (List AV))+List.length ([]:List (List AV))=List.length (List.map Aj ((s2++([(⟨y20.1.Ac,y20.1.Ax,y20.1.Au,y20.1.B4,y20.1.Bd,y20.1.Bf,((y26.1.length:Nat):Int),0,y20.1.A8⟩:A0)]:List A0))++y26.1):List (List AV)):=rfl
 have hl56_b:List.length ((s2++([(⟨y20.1.Ac,y20.1.Ax,y20.1.Au,y20.1.B4,y20.1.Bd,y20.1.Bf,((y26.1.length:Nat):Int),0,y20.1.A8⟩:A0)]:List A0))++y26.1)+List.length ([]:List (List AV))=List.length ((s2++([(⟨y20.1.Ac,y20.1.Ax,y20.1.Au,y20.1.B4,y20.1.Bd,y20.1.Bf,((y26.1.length:Nat):Int),0,y20.1.A8⟩:A0)]:List A0))++y26.1):=rfl
 try simp only[ls,c0]
 try simp only[hp55,hl56,hl56_b]
 try simp only[ls]
 conv=>lhs;whnf
 revert h
 exact fun h=>cq (hcont8 (y26.2.1,((s2++([(⟨y20.1.Ac,y20.1.Ax,y20.1.Au,y20.1.B4,y20.1.Bd,y20.1.Bf,((y26.1.length:Nat):Int),0,y20.1.A8⟩:A0)]:List A0))++y26.1)) (fun _=>0) h)
 refine ar (ap Aj (List.map Aj s2) s2 ([[iA y20.1.Ac,sA y20.1.Ax,sA y20.1.Au,AV.sl 5 (List.map Ak y20.1.B4),AV.sl 5 (List.map Ak y20.1.Bd),bA y20.1.Bf,iA (((y26.1.length:Nat):Int)),iA (0),iA y20.1.A8]]) ([(⟨y20.1.Ac,y20.1.Ax,y20.1.Au,y20.1.B4,y20.1.Bd,y20.1.Bf,((y26.1.length:Nat):Int),0,y20.1.A8⟩:A0)]:List A0)) ?_
 refine ar (ap Aj (List.map Aj (s2++([(⟨y20.1.Ac,y20.1.Ax,y20.1.Au,y20.1.B4,y20.1.Bd,y20.1.Bf,((y26.1.length:Nat):Int),0,y20.1.A8⟩:A0)]:List A0))) (s2++([(⟨y20.1.Ac,y20.1.Ax,y20.1.Au,y20.1.B4,y20.1.Bd,y20.1.Bf,((y26.1.length:Nat):Int),0,y20.1.A8⟩:A0)]:List A0)) (List.map Aj y26.1) y26.1) ?_
 intro h
 refine Fz h ?_;clear h;intro hc64 h
 first|refine Cp (J7 hc64 (by first|rfl|simp only [List.length_map]) (by first|rfl|simp only [List.length_map]) (by first|rfl|simp only [List.length_map,Bu]) (by kernel_rfl)) ?_|refine Cp (Hz hc64 (by first|rfl|simp only [List.length_map]) (by first|rfl|simp only [List.length_map,Bu]) (by kernel_rfl)) ?_
 have hp62:(List.map Aj ((s2++([(⟨y20.1.Ac,y20.1.Ax,y20.1.Au,y20.1.B4,y20.1.Bd,y20.1.Bf,((y26.1.length:Nat):Int),0,y20.1.A8⟩:A0)]:List A0))++y26.1):List (List AV))++([]:List (List AV))=(List.map Aj ((s2++([(⟨y20.1.Ac,y20.1.Ax,y20.1.Au,y20.1.B4,y20.1.Bd,y20.1.Bf,((y26.1.length:Nat):Int),0,y20.1.A8⟩:A0)]:List A0))++y26.1):List (List AV)):=List.append_nil _
 have hl63:List.length (List.map Aj ((s2++([(⟨y20.1.Ac,y20.1.Ax,y20.1.Au,y20.1.B4,y20.1.Bd,y20.1.Bf,((y26.1.length:Nat):Int),0,y20.1.A8⟩:A0)]:List A0))++y26.1):List (List AV))+List.length ([]:List (List AV))=List.length (List.map Aj ((s2++([(⟨y20.1.Ac,y20.1.Ax,y20.1.Au,y20.1.B4,y20.1.Bd,y20.1.Bf,((y26.1.length:Nat):Int),0,y20.1.A8⟩:A0)]:List A0))++y26.1):List (List AV)):=rfl
 have hl63_b:List.length ((s2++([(⟨y20.1.Ac,y20.1.Ax,y20.1.Au,y20.1.B4,y20.1.Bd,y20.1.Bf,((y26.1.length:Nat):Int),0,y20.1.A8⟩:A0)]:List A0))++y26.1)+List.length ([]:List (List AV))=List.length ((s2++([(⟨y20.1.Ac,y20.1.Ax,y20.1.Au,y20.1.B4,y20.1.Bd,y20.1.Bf,((y26.1.length:Nat):Int),0,y20.1.A8⟩:A0)]:List A0))++y26.1):=rfl
 try simp only[ls,c0]
 try simp only[hp62,hl63,hl63_b]
 try simp only[ls]
 conv=>lhs;whnf
 revert h
 exact fun h=>cq (hcont8 (y26.2.1,((s2++([(⟨y20.1.Ac,y20.1.Ax,y20.1.Au,y20.1.B4,y20.1.Bd,y20.1.Bf,((y26.1.length:Nat):Int),0,y20.1.A8⟩:A0)]:List A0))++y26.1)) (fun _=>0) h)
 refine ar (ap Aj (List.map Aj s2) s2 ([[iA y20.1.Ac,sA y20.1.Ax,sA y20.1.Au,AV.sl 5 (List.map Ak y20.1.B4),AV.sl 5 (List.map Ak y20.1.Bd),bA y20.1.Bf,iA (((y26.1.length:Nat):Int)),iA (0),iA y20.1.A8]]) ([(⟨y20.1.Ac,y20.1.Ax,y20.1.Au,y20.1.B4,y20.1.Bd,y20.1.Bf,((y26.1.length:Nat):Int),0,y20.1.A8⟩:A0)]:List A0)) ?_
 refine ar (ap Aj (List.map Aj (s2++([(⟨y20.1.Ac,y20.1.Ax,y20.1.Au,y20.1.B4,y20.1.Bd,y20.1.Bf,((y26.1.length:Nat):Int),0,y20.1.A8⟩:A0)]:List A0))) (s2++([(⟨y20.1.Ac,y20.1.Ax,y20.1.Au,y20.1.B4,y20.1.Bd,y20.1.Bf,((y26.1.length:Nat):Int),0,y20.1.A8⟩:A0)]:List A0)) (List.map Aj y26.1) y26.1) ?_
 intro h
 refine Fz h ?_;clear h;intro hc71 h
 first|refine Cp (J7 hc71 (by first|rfl|simp only [List.length_map]) (by first|rfl|simp only [List.length_map]) (by first|rfl|simp only [List.length_map,Bu]) (by kernel_rfl)) ?_|refine Cp (Hz hc71 (by first|rfl|simp only [List.length_map]) (by first|rfl|simp only [List.length_map,Bu]) (by kernel_rfl)) ?_
 have hp69:(List.map Aj ((s2++([(⟨y20.1.Ac,y20.1.Ax,y20.1.Au,y20.1.B4,y20.1.Bd,y20.1.Bf,((y26.1.length:Nat):Int),0,y20.1.A8⟩:A0)]:List A0))++y26.1):List (List AV))++([]:List (List AV))=(List.map Aj ((s2++([(⟨y20.1.Ac,y20.1.Ax,y20.1.Au,y20.1.B4,y20.1.Bd,y20.1.Bf,((y26.1.length:Nat):Int),0,y20.1.A8⟩:A0)]:List A0))++y26.1):List (List AV)):=List.append_nil _
 have hl70:List.length (List.map Aj ((s2++([(⟨y20.1.Ac,y20.1.Ax,y20.1.Au,y20.1.B4,y20.1.Bd,y20.1.Bf,((y26.1.length:Nat):Int),0,y20.1.A8⟩:A0)]:List A0))++y26.1):List (List AV))+List.length ([]:List (List AV))=List.length (List.map Aj ((s2++([(⟨y20.1.Ac,y20.1.Ax,y20.1.Au,y20.1.B4,y20.1.Bd,y20.1.Bf,((y26.1.length:Nat):Int),0,y20.1.A8⟩:A0)]:List A0))++y26.1):List (List AV)):=rfl
 have hl70_b:List.length ((s2++([(⟨y20.1.Ac,y20.1.Ax,y20.1.Au,y20.1.B4,y20.1.Bd,y20.1.Bf,((y26.1.length:Nat):Int),0,y20.1.A8⟩:A0)]:List A0))++y26.1)+List.length ([]:List (List AV))=List.length ((s2++([(⟨y20.1.Ac,y20.1.Ax,y20.1.Au,y20.1.B4,y20.1.Bd,y20.1.Bf,((y26.1.length:Nat):Int),0,y20.1.A8⟩:A0)]:List A0))++y26.1):=rfl
 try simp only[ls,c0]
 try simp only[hp69,hl70,hl70_b]
 try simp only[ls]
 conv=>lhs;whnf
 revert h
 exact fun h=>cq (hcont8 (y26.2.1,((s2++([(⟨y20.1.Ac,y20.1.Ax,y20.1.Au,y20.1.B4,y20.1.Bd,y20.1.Bf,((y26.1.length:Nat):Int),0,y20.1.A8⟩:A0)]:List A0))++y26.1)) (fun _=>0) h)
 refine br ?_ ?_
 refine br ?_ ?_
 refine ix ?_;intro x74
 refine br ?_ ?_
 refine ix ?_;intro x76
 refine br ?_ ?_
 refine ca hc (fun _ h=>ih.1 h) ?_;intro y78
 refine br ?_ ?_
 intro h;cases sj h
 refine(hK7 _ _).trans ?_
 refine Eq.trans ?_ (Eq.symm (show _=some _ from hr9))
 conv=>lhs;whnf
 exact rq
 refine ar (ap Aj (List.map Aj s2) s2 ([[iA y20.1.Ac,sA y20.1.Ax,sA y20.1.Au,AV.sl 5 (List.map Ak y20.1.B4),AV.sl 5 (List.map Ak y20.1.Bd),bA y20.1.Bf,iA (0),iA (((y78.1.length:Nat):Int)),iA y20.1.A8]]) ([(⟨y20.1.Ac,y20.1.Ax,y20.1.Au,y20.1.B4,y20.1.Bd,y20.1.Bf,0,((y78.1.length:Nat):Int),y20.1.A8⟩:A0)]:List A0)) ?_
 intro h
 refine Fz h ?_;clear h;intro hc85 h
 first|refine Cp (J7 hc85 (by first|rfl|simp only [List.length_map]) (by first|rfl|simp only [List.length_map]) (by first|rfl|simp only [List.length_map,Bu]) (by kernel_rfl)) ?_|refine Cp (Hz hc85 (by first|rfl|simp only [List.length_map]) (by first|rfl|simp only [List.length_map,Bu]) (by kernel_rfl)) ?_
 have hp83:(List.map Aj (s2++([(⟨y20.1.Ac,y20.1.Ax,y20.1.Au,y20.1.B4,y20.1.Bd,y20.1.Bf,0,((y78.1.length:Nat):Int),y20.1.A8⟩:A0)]:List A0)):List (List AV))++([]:List (List AV))=(List.map Aj (s2++([(⟨y20.1.Ac,y20.1.Ax,y20.1.Au,y20.1.B4,y20.1.Bd,y20.1.Bf,0,((y78.1.length:Nat):Int),y20.1.A8⟩:A0)]:List A0)):List (List AV)):=List.append_nil _
 have hl84:List.length (List.map Aj (s2++([(⟨y20.1.Ac,y20.1.Ax,y20.1.Au,y20.1.B4,y20.1.Bd,y20.1.Bf,0,((y78.1.length:Nat):Int),y20.1.A8⟩:A0)]:List A0)):List (List AV))+List.length ([]:List (List AV))=List.length (List.map Aj (s2++([(⟨y20.1.Ac,y20.1.Ax,y20.1.Au,y20.1.B4,y20.1.Bd,y20.1.Bf,0,((y78.1.length:Nat):Int),y20.1.A8⟩:A0)]:List A0)):List (List AV)):=rfl
 have hl84_b:List.length (s2++([(⟨y20.1.Ac,y20.1.Ax,y20.1.Au,y20.1.B4,y20.1.Bd,y20.1.Bf,0,((y78.1.length:Nat):Int),y20.1.A8⟩:A0)]:List A0))+List.length ([]:List (List AV))=List.length (s2++([(⟨y20.1.Ac,y20.1.Ax,y20.1.Au,y20.1.B4,y20.1.Bd,y20.1.Bf,0,((y78.1.length:Nat):Int),y20.1.A8⟩:A0)]:List A0)):=rfl
 try simp only[ls,c0]
 try simp only[hp83,hl84,hl84_b]
 try simp only[ls]
 conv=>lhs;whnf
 revert h
 refine ar (ap Aj (List.map Aj (s2++([(⟨y20.1.Ac,y20.1.Ax,y20.1.Au,y20.1.B4,y20.1.Bd,y20.1.Bf,0,((y78.1.length:Nat):Int),y20.1.A8⟩:A0)]:List A0))) (s2++([(⟨y20.1.Ac,y20.1.Ax,y20.1.Au,y20.1.B4,y20.1.Bd,y20.1.Bf,0,((y78.1.length:Nat):Int),y20.1.A8⟩:A0)]:List A0)) (List.map Aj y78.1) y78.1) ?_
 exact fun h=>cq (hcont8 (y78.2.1,((s2++([(⟨y20.1.Ac,y20.1.Ax,y20.1.Au,y20.1.B4,y20.1.Bd,y20.1.Bf,0,((y78.1.length:Nat):Int),y20.1.A8⟩:A0)]:List A0))++y78.1)) (fun _=>0) h)
 refine ar (ap Aj (List.map Aj s2) s2 ([[iA y20.1.Ac,sA y20.1.Ax,sA y20.1.Au,AV.sl 5 (List.map Ak y20.1.B4),AV.sl 5 (List.map Ak y20.1.Bd),bA y20.1.Bf,iA (0),iA (0),iA y20.1.A8]]) ([(⟨y20.1.Ac,y20.1.Ax,y20.1.Au,y20.1.B4,y20.1.Bd,y20.1.Bf,0,0,y20.1.A8⟩:A0)]:List A0)) ?_
 intro h
 refine Fz h ?_;clear h;intro hc92 h
 first|refine Cp (J7 hc92 (by first|rfl|simp only [List.length_map]) (by first|rfl|simp only [List.length_map]) (by first|rfl|simp only [List.length_map,Bu]) (by kernel_rfl)) ?_|refine Cp (Hz hc92 (by first|rfl|simp only [List.length_map]) (by first|rfl|simp only [List.length_map,Bu]) (by kernel_rfl)) ?_
 have hp90:(List.map Aj (s2++([(⟨y20.1.Ac,y20.1.Ax,y20.1.Au,y20.1.B4,y20.1.Bd,y20.1.Bf,0,0,y20.1.A8⟩:A0)]:List A0)):List (List AV))++([]:List (List AV))=(List.map Aj (s2++([(⟨y20.1.Ac,y20.1.Ax,y20.1.Au,y20.1.B4,y20.1.Bd,y20.1.Bf,0,0,y20.1.A8⟩:A0)]:List A0)):List (List AV)):=List.append_nil _
 have hl91:List.length (List.map Aj (s2++([(⟨y20.1.Ac,y20.1.Ax,y20.1.Au,y20.1.B4,y20.1.Bd,y20.1.Bf,0,0,y20.1.A8⟩:A0)]:List A0)):List (List AV))+List.length ([]:List (List AV))=List.length (List.map Aj (s2++([(⟨y20.1.Ac,y20.1.Ax,y20.1.Au,y20.1.B4,y20.1.Bd,y20.1.Bf,0,0,y20.1.A8⟩:A0)]:List A0)):List (List AV)):=rfl
 have hl91_b:List.length (s2++([(⟨y20.1.Ac,y20.1.Ax,y20.1.Au,y20.1.B4,y20.1.Bd,y20.1.Bf,0,0,y20.1.A8⟩:A0)]:List A0))+List.length ([]:List (List AV))=List.length (s2++([(⟨y20.1.Ac,y20.1.Ax,y20.1.Au,y20.1.B4,y20.1.Bd,y20.1.Bf,0,0,y20.1.A8⟩:A0)]:List A0)):=rfl
 try simp only[ls,c0]
 try simp only[hp90,hl91,hl91_b]
 try simp only[ls]
 conv=>lhs;whnf
 revert h
 intro h
 refine Fz h ?_;clear h;intro hc95 h
 first|refine Cp (J7 hc95 (by first|rfl|simp only [List.length_map]) (by first|rfl|simp only [List.length_map]) (by first|rfl|simp only [List.length_map,Bu]) (by kernel_rfl)) ?_|refine Cp (Hz hc95 (by first|rfl|simp only [List.length_map]) (by first|rfl|simp only [List.length_map,Bu]) (by kernel_rfl)) ?_
 have hp93:(List.map Aj (s2++([(⟨y20.1.Ac,y20.1.Ax,y20.1.Au,y20.1.B4,y20.1.Bd,y20.1.Bf,0,0,y20.1.A8⟩:A0)]:List A0)):List (List AV))++([]:List (List AV))=(List.map Aj (s2++([(⟨y20.1.Ac,y20.1.Ax,y20.1.Au,y20.1.B4,y20.1.Bd,y20.1.Bf,0,0,y20.1.A8⟩:A0)]:List A0)):List (List AV)):=List.append_nil _
 have hl94:List.length (List.map Aj (s2++([(⟨y20.1.Ac,y20.1.Ax,y20.1.Au,y20.1.B4,y20.1.Bd,y20.1.Bf,0,0,y20.1.A8⟩:A0)]:List A0)):List (List AV))+List.length ([]:List (List AV))=List.length (List.map Aj (s2++([(⟨y20.1.Ac,y20.1.Ax,y20.1.Au,y20.1.B4,y20.1.Bd,y20.1.Bf,0,0,y20.1.A8⟩:A0)]:List A0)):List (List AV)):=rfl
 have hl94_b:List.length (s2++([(⟨y20.1.Ac,y20.1.Ax,y20.1.Au,y20.1.B4,y20.1.Bd,y20.1.Bf,0,0,y20.1.A8⟩:A0)]:List A0))+List.length ([]:List (List AV))=List.length (s2++([(⟨y20.1.Ac,y20.1.Ax,y20.1.Au,y20.1.B4,y20.1.Bd,y20.1.Bf,0,0,y20.1.A8⟩:A0)]:List A0)):=rfl
 try simp only[ls,c0]
 try simp only[hp93,hl94,hl94_b]
 try simp only[ls]
 conv=>lhs;whnf
 revert h
 exact fun h=>cq (hcont8 (y20.2.1,(s2++([(⟨y20.1.Ac,y20.1.Ax,y20.1.Au,y20.1.B4,y20.1.Bd,y20.1.Bf,0,0,y20.1.A8⟩:A0)]:List A0))) (fun _=>0) h)
 refine ar (ap Aj (List.map Aj s2) s2 ([[iA y20.1.Ac,sA y20.1.Ax,sA y20.1.Au,AV.sl 5 (List.map Ak y20.1.B4),AV.sl 5 (List.map Ak y20.1.Bd),bA y20.1.Bf,iA (0),iA (0),iA y20.1.A8]]) ([(⟨y20.1.Ac,y20.1.Ax,y20.1.Au,y20.1.B4,y20.1.Bd,y20.1.Bf,0,0,y20.1.A8⟩:A0)]:List A0)) ?_
 intro h
 refine Fz h ?_;clear h;intro hc100 h
 first|refine Cp (J7 hc100 (by first|rfl|simp only [List.length_map]) (by first|rfl|simp only [List.length_map]) (by first|rfl|simp only [List.length_map,Bu]) (by kernel_rfl)) ?_|refine Cp (Hz hc100 (by first|rfl|simp only [List.length_map]) (by first|rfl|simp only [List.length_map,Bu]) (by kernel_rfl)) ?_
 have hp98:(List.map Aj (s2++([(⟨y20.1.Ac,y20.1.Ax,y20.1.Au,y20.1.B4,y20.1.Bd,y20.1.Bf,0,0,y20.1.A8⟩:A0)]:List A0)):List (List AV))++([]:List (List AV))=(List.map Aj (s2++([(⟨y20.1.Ac,y20.1.Ax,y20.1.Au,y20.1.B4,y20.1.Bd,y20.1.Bf,0,0,y20.1.A8⟩:A0)]:List A0)):List (List AV)):=List.append_nil _
 have hl99:List.length (List.map Aj (s2++([(⟨y20.1.Ac,y20.1.Ax,y20.1.Au,y20.1.B4,y20.1.Bd,y20.1.Bf,0,0,y20.1.A8⟩:A0)]:List A0)):List (List AV))+List.length ([]:List (List AV))=List.length (List.map Aj (s2++([(⟨y20.1.Ac,y20.1.Ax,y20.1.Au,y20.1.B4,y20.1.Bd,y20.1.Bf,0,0,y20.1.A8⟩:A0)]:List A0)):List (List AV)):=rfl
 have hl99_b:List.length (s2++([(⟨y20.1.Ac,y20.1.Ax,y20.1.Au,y20.1.B4,y20.1.Bd,y20.1.Bf,0,0,y20.1.A8⟩:A0)]:List A0))+List.length ([]:List (List AV))=List.length (s2++([(⟨y20.1.Ac,y20.1.Ax,y20.1.Au,y20.1.B4,y20.1.Bd,y20.1.Bf,0,0,y20.1.A8⟩:A0)]:List A0)):=rfl
 try simp only[ls,c0]
 try simp only[hp98,hl99,hl99_b]
 try simp only[ls]
 conv=>lhs;whnf
 revert h
 intro h
 refine Fz h ?_;clear h;intro hc103 h
 first|refine Cp (J7 hc103 (by first|rfl|simp only [List.length_map]) (by first|rfl|simp only [List.length_map]) (by first|rfl|simp only [List.length_map,Bu]) (by kernel_rfl)) ?_|refine Cp (Hz hc103 (by first|rfl|simp only [List.length_map]) (by first|rfl|simp only [List.length_map,Bu]) (by kernel_rfl)) ?_
 have hp101:(List.map Aj (s2++([(⟨y20.1.Ac,y20.1.Ax,y20.1.Au,y20.1.B4,y20.1.Bd,y20.1.Bf,0,0,y20.1.A8⟩:A0)]:List A0)):List (List AV))++([]:List (List AV))=(List.map Aj (s2++([(⟨y20.1.Ac,y20.1.Ax,y20.1.Au,y20.1.B4,y20.1.Bd,y20.1.Bf,0,0,y20.1.A8⟩:A0)]:List A0)):List (List AV)):=List.append_nil _
 have hl102:List.length (List.map Aj (s2++([(⟨y20.1.Ac,y20.1.Ax,y20.1.Au,y20.1.B4,y20.1.Bd,y20.1.Bf,0,0,y20.1.A8⟩:A0)]:List A0)):List (List AV))+List.length ([]:List (List AV))=List.length (List.map Aj (s2++([(⟨y20.1.Ac,y20.1.Ax,y20.1.Au,y20.1.B4,y20.1.Bd,y20.1.Bf,0,0,y20.1.A8⟩:A0)]:List A0)):List (List AV)):=rfl
 have hl102_b:List.length (s2++([(⟨y20.1.Ac,y20.1.Ax,y20.1.Au,y20.1.B4,y20.1.Bd,y20.1.Bf,0,0,y20.1.A8⟩:A0)]:List A0))+List.length ([]:List (List AV))=List.length (s2++([(⟨y20.1.Ac,y20.1.Ax,y20.1.Au,y20.1.B4,y20.1.Bd,y20.1.Bf,0,0,y20.1.A8⟩:A0)]:List A0)):=rfl
 try simp only[ls,c0]
 try simp only[hp101,hl102,hl102_b]
 try simp only[ls]
 conv=>lhs;whnf
 revert h
 exact fun h=>cq (hcont8 (y20.2.1,(s2++([(⟨y20.1.Ac,y20.1.Ax,y20.1.Au,y20.1.B4,y20.1.Bd,y20.1.Bf,0,0,y20.1.A8⟩:A0)]:List A0))) (fun _=>0) h)
 refine ar (ap Aj (List.map Aj s2) s2 ([[iA y20.1.Ac,sA y20.1.Ax,sA y20.1.Au,AV.sl 5 (List.map Ak y20.1.B4),AV.sl 5 (List.map Ak y20.1.Bd),bA y20.1.Bf,iA (0),iA (0),iA y20.1.A8]]) ([(⟨y20.1.Ac,y20.1.Ax,y20.1.Au,y20.1.B4,y20.1.Bd,y20.1.Bf,0,0,y20.1.A8⟩:A0)]:List A0)) ?_
 intro h
 refine Fz h ?_;clear h;intro hc108 h
 first|refine Cp (J7 hc108 (by first|rfl|simp only [List.length_map]) (by first|rfl|simp only [List.length_map]) (by first|rfl|simp only [List.length_map,Bu]) (by kernel_rfl)) ?_|refine Cp (Hz hc108 (by first|rfl|simp only [List.length_map]) (by first|rfl|simp only [List.length_map,Bu]) (by kernel_rfl)) ?_
 have hp106:(List.map Aj (s2++([(⟨y20.1.Ac,y20.1.Ax,y20.1.Au,y20.1.B4,y20.1.Bd,y20.1.Bf,0,0,y20.1.A8⟩:A0)]:List A0)):List (List AV))++([]:List (List AV))=(List.map Aj (s2++([(⟨y20.1.Ac,y20.1.Ax,y20.1.Au,y20.1.B4,y20.1.Bd,y20.1.Bf,0,0,y20.1.A8⟩:A0)]:List A0)):List (List AV)):=List.append_nil _
 have hl107:List.length (List.map Aj (s2++([(⟨y20.1.Ac,y20.1.Ax,y20.1.Au,y20.1.B4,y20.1.Bd,y20.1.Bf,0,0,y20.1.A8⟩:A0)]:List A0)):List (List AV))+List.length ([]:List (List AV))=List.length (List.map Aj (s2++([(⟨y20.1.Ac,y20.1.Ax,y20.1.Au,y20.1.B4,y20.1.Bd,y20.1.Bf,0,0,y20.1.A8⟩:A0)]:List A0)):List (List AV)):=rfl
 have hl107_b:List.length (s2++([(⟨y20.1.Ac,y20.1.Ax,y20.1.Au,y20.1.B4,y20.1.Bd,y20.1.Bf,0,0,y20.1.A8⟩:A0)]:List A0))+List.length ([]:List (List AV))=List.length (s2++([(⟨y20.1.Ac,y20.1.Ax,y20.1.Au,y20.1.B4,y20.1.Bd,y20.1.Bf,0,0,y20.1.A8⟩:A0)]:List A0)):=rfl
 try simp only[ls,c0]
 try simp only[hp106,hl107,hl107_b]
 try simp only[ls]
 conv=>lhs;whnf
 revert h
 intro h
 refine Fz h ?_;clear h;intro hc111 h
 first|refine Cp (J7 hc111 (by first|rfl|simp only [List.length_map]) (by first|rfl|simp only [List.length_map]) (by first|rfl|simp only [List.length_map,Bu]) (by kernel_rfl)) ?_|refine Cp (Hz hc111 (by first|rfl|simp only [List.length_map]) (by first|rfl|simp only [List.length_map,Bu]) (by kernel_rfl)) ?_
 have hp109:(List.map Aj (s2++([(⟨y20.1.Ac,y20.1.Ax,y20.1.Au,y20.1.B4,y20.1.Bd,y20.1.Bf,0,0,y20.1.A8⟩:A0)]:List A0)):List (List AV))++([]:List (List AV))=(List.map Aj (s2++([(⟨y20.1.Ac,y20.1.Ax,y20.1.Au,y20.1.B4,y20.1.Bd,y20.1.Bf,0,0,y20.1.A8⟩:A0)]:List A0)):List (List AV)):=List.append_nil _
 have hl110:List.length (List.map Aj (s2++([(⟨y20.1.Ac,y20.1.Ax,y20.1.Au,y20.1.B4,y20.1.Bd,y20.1.Bf,0,0,y20.1.A8⟩:A0)]:List A0)):List (List AV))+List.length ([]:List (List AV))=List.length (List.map Aj (s2++([(⟨y20.1.Ac,y20.1.Ax,y20.1.Au,y20.1.B4,y20.1.Bd,y20.1.Bf,0,0,y20.1.A8⟩:A0)]:List A0)):List (List AV)):=rfl
 have hl110_b:List.length (s2++([(⟨y20.1.Ac,y20.1.Ax,y20.1.Au,y20.1.B4,y20.1.Bd,y20.1.Bf,0,0,y20.1.A8⟩:A0)]:List A0))+List.length ([]:List (List AV))=List.length (s2++([(⟨y20.1.Ac,y20.1.Ax,y20.1.Au,y20.1.B4,y20.1.Bd,y20.1.Bf,0,0,y20.1.A8⟩:A0)]:List A0)):=rfl
 try simp only[ls,c0]
 try simp only[hp109,hl110,hl110_b]
 try simp only[ls]
 conv=>lhs;whnf
 revert h
 exact fun h=>cq (hcont8 (y20.2.1,(s2++([(⟨y20.1.Ac,y20.1.Ax,y20.1.Au,y20.1.B4,y20.1.Bd,y20.1.Bf,0,0,y20.1.A8⟩:A0)]:List A0))) (fun _=>0) h)
 refine ar (ap Aj (List.map Aj s2) s2 ([[iA y20.1.Ac,sA y20.1.Ax,sA y20.1.Au,AV.sl 5 (List.map Ak y20.1.B4),AV.sl 5 (List.map Ak y20.1.Bd),bA y20.1.Bf,iA (0),iA (0),iA y20.1.A8]]) ([(⟨y20.1.Ac,y20.1.Ax,y20.1.Au,y20.1.B4,y20.1.Bd,y20.1.Bf,0,0,y20.1.A8⟩:A0)]:List A0)) ?_
 intro h
 refine Fz h ?_;clear h;intro hc116 h
 first|refine Cp (J7 hc116 (by first|rfl|simp only [List.length_map]) (by first|rfl|simp only [List.length_map]) (by first|rfl|simp only [List.length_map,Bu]) (by kernel_rfl)) ?_|refine Cp (Hz hc116 (by first|rfl|simp only [List.length_map]) (by first|rfl|simp only [List.length_map,Bu]) (by kernel_rfl)) ?_
 have hp114:(List.map Aj (s2++([(⟨y20.1.Ac,y20.1.Ax,y20.1.Au,y20.1.B4,y20.1.Bd,y20.1.Bf,0,0,y20.1.A8⟩:A0)]:List A0)):List (List AV))++([]:List (List AV))=(List.map Aj (s2++([(⟨y20.1.Ac,y20.1.Ax,y20.1.Au,y20.1.B4,y20.1.Bd,y20.1.Bf,0,0,y20.1.A8⟩:A0)]:List A0)):List (List AV)):=List.append_nil _
 have hl115:List.length (List.map Aj (s2++([(⟨y20.1.Ac,y20.1.Ax,y20.1.Au,y20.1.B4,y20.1.Bd,y20.1.Bf,0,0,y20.1.A8⟩:A0)]:List A0)):List (List AV))+List.length ([]:List (List AV))=List.length (List.map Aj (s2++([(⟨y20.1.Ac,y20.1.Ax,y20.1.Au,y20.1.B4,y20.1.Bd,y20.1.Bf,0,0,y20.1.A8⟩:A0)]:List A0)):List (List AV)):=rfl
 have hl115_b:List.length (s2++([(⟨y20.1.Ac,y20.1.Ax,y20.1.Au,y20.1.B4,y20.1.Bd,y20.1.Bf,0,0,y20.1.A8⟩:A0)]:List A0))+List.length ([]:List (List AV))=List.length (s2++([(⟨y20.1.Ac,y20.1.Ax,y20.1.Au,y20.1.B4,y20.1.Bd,y20.1.Bf,0,0,y20.1.A8⟩:A0)]:List A0)):=rfl
 try simp only[ls,c0]
 try simp only[hp114,hl115,hl115_b]
 try simp only[ls]
 conv=>lhs;whnf
 revert h
 intro h
 refine Fz h ?_;clear h;intro hc119 h
 first|refine Cp (J7 hc119 (by first|rfl|simp only [List.length_map]) (by first|rfl|simp only [List.length_map]) (by first|rfl|simp only [List.length_map,Bu]) (by kernel_rfl)) ?_|refine Cp (Hz hc119 (by first|rfl|simp only [List.length_map]) (by first|rfl|simp only [List.length_map,Bu]) (by kernel_rfl)) ?_
 have hp117:(List.map Aj (s2++([(⟨y20.1.Ac,y20.1.Ax,y20.1.Au,y20.1.B4,y20.1.Bd,y20.1.Bf,0,0,y20.1.A8⟩:A0)]:List A0)):List (List AV))++([]:List (List AV))=(List.map Aj (s2++([(⟨y20.1.Ac,y20.1.Ax,y20.1.Au,y20.1.B4,y20.1.Bd,y20.1.Bf,0,0,y20.1.A8⟩:A0)]:List A0)):List (List AV)):=List.append_nil _
 have hl118:List.length (List.map Aj (s2++([(⟨y20.1.Ac,y20.1.Ax,y20.1.Au,y20.1.B4,y20.1.Bd,y20.1.Bf,0,0,y20.1.A8⟩:A0)]:List A0)):List (List AV))+List.length ([]:List (List AV))=List.length (List.map Aj (s2++([(⟨y20.1.Ac,y20.1.Ax,y20.1.Au,y20.1.B4,y20.1.Bd,y20.1.Bf,0,0,y20.1.A8⟩:A0)]:List A0)):List (List AV)):=rfl
 have hl118_b:List.length (s2++([(⟨y20.1.Ac,y20.1.Ax,y20.1.Au,y20.1.B4,y20.1.Bd,y20.1.Bf,0,0,y20.1.A8⟩:A0)]:List A0))+List.length ([]:List (List AV))=List.length (s2++([(⟨y20.1.Ac,y20.1.Ax,y20.1.Au,y20.1.B4,y20.1.Bd,y20.1.Bf,0,0,y20.1.A8⟩:A0)]:List A0)):=rfl
 try simp only[ls,c0]
 try simp only[hp117,hl118,hl118_b]
 try simp only[ls]
 conv=>lhs;whnf
 revert h
 exact fun h=>cq (hcont8 (y20.2.1,(s2++([(⟨y20.1.Ac,y20.1.Ax,y20.1.Au,y20.1.B4,y20.1.Bd,y20.1.Bf,0,0,y20.1.A8⟩:A0)]:List A0))) (fun _=>0) h)
 intro h;cases sj h
 exact kq (hr9 (fun _=>0))
 refine lrc ?_ ?_
 intro v e;subst e;cases sj h;rfl
 intro t a120 e;subst e
 obtain⟨x121,x122⟩:=t
 dsimp only at h
 conv=>lhs;whnf
 revert h
 intro h;cases sj h
 try simp only[ls]
 exact fq (y:=some (AV.tup [AV.sl 9 (List.take (List.length x122) (List.map Aj x122)),iA x121,iA (0),iA (0)],[]))
theorem Ul:∀ n,Ru n
 | 0=>⟨by unfold Rq;intros;rename_i h;exact absurd h (by intro h;cases h),by unfold Qc;intros;rename_i h;exact absurd h (by intro h;cases h)⟩
 | n+1=>have ih:=Ul n
   ⟨A38 n ih,A6r n ih⟩
theorem A6g {n:Nat}:Qc n:=(Ul n).2
theorem Wy {n:Nat} ⦃A7:(List Av)⦄ ⦃B7:Int⦄ ⦃r:((List A0)×Int×Int×Int)⦄:Io n A7 B7=some r→CN n 79 [AV.sl 4 (List.map B0 A7),iA B7] []=some (AV.tup [AV.sl 9 (List.map Aj r.1),iA r.2.1,iA r.2.2.1,iA r.2.2.2],[]):=by
 intro h;rcases n with _|n;cases h
 rw[Io] at h
 refine Aw Tryz.func79 (by rfl) rfl rfl (Nat.le_of_ble_eq_true rfl) ?_
 intro call hc;conv=>lhs;whnf
 revert h
 refine br ?_ ?_
 exact rz
 refine br ?_ ?_
 exact rz
 refine ca hc (fun _ h=>A6g h) ?_;intro y3
 refine br ?_ ?_
 exact rz
 refine br ?_ ?_
 refine ca hc (fun _ h=>Me h) ?_;intro y7
 exact rz
 exact rz
theorem A5v {n:Nat} ⦃A7:(List A0)⦄ ⦃Dq:Int⦄ ⦃D9:Int⦄ ⦃r:(List Int)⦄:O4 n A7 Dq D9=some r→CN n 87 [AV.sl 9 (List.map Aj A7),iA Dq,iA D9] []=some (AV.sl 1 (List.map Ia r),[]):=by
 intro h;rcases n with _|n;cases h
 rw[O4] at h
 refine Aw Tryz.func87 (by rfl) rfl rfl (Nat.le_of_ble_eq_true rfl) ?_
 intro call hc;conv=>lhs;whnf
 revert h
 intro h;refine B1 h ?_;clear h;intro o10 ho10 h
 refine lq (σ:=(Int×(List Int))) (τ:=(List Int)) (ν:=(List Int)) 0 (fun(s1,s2) a4=>Bh 30 [(0,AV.sl 9 (List.map Aj A7)),(1,iA s1),(2,iA D9),(7,AV.row 0 (List.length s2))]) (fun(s1,s2) a4=>[Ob.row 3 1 (List.map Ia s2)]) (fun x17 a16=>Bh 30 [(7,AV.row 0 (List.length x17))]) (fun x17 a16=>[Ob.row 3 1 (List.map Ia x17)]) (fun v=>(AV.sl 1 (List.map Ia v),[])) (fun k s=>Iu n A7 D9 k s.1 s.2) (fun s=>rfl) o10 n (Dq,([]:List Int)) (fun _=>0) ho10 ?_ ?_
 intro k3 ss a4 K5 cont6 hK7 hcont8 h hr9
 obtain⟨s1,s2⟩:=ss
 replace h:Iu n A7 D9 (k3+1) s1 s2=some o10:=h
 rw[Iu] at h
 conv=>lhs;whnf
 revert h
 refine br ?_ ?_
 refine ar (ap Ia (List.map Ia s2) s2 ([[iA s1]]) ([s1]:List Int)) ?_
 refine ix ?_;intro x14
 refine ix ?_;intro x15
 exact fun h=>cq (hcont8 (IntKind.i64.wrap ((IntKind.i64.wrap ((IntKind.i64.wrap (s1+1))+x14.Al))+x15.C4),(s2++([s1]:List Int))) (fun _=>0) h)
 intro h;cases sj h
 exact kq (hr9 (fun _=>0))
 refine lrc ?_ ?_
 intro v e;subst e;cases sj h;rfl
 intro x17 a16 e;subst e
 dsimp only at h
 conv=>lhs;whnf
 revert h
 intro h;obtain rfl:=sj h
 try simp only[ls]
 exact fq (y:=some (AV.sl 1 (List.take (List.length x17) (List.map Ia x17)),[]))
def Q8 (n:Nat):Prop:=∀ ⦃A7:(List A0)⦄ ⦃Dq:Int⦄ ⦃D9:Int⦄ ⦃r:Int⦄,F2 n A7 Dq D9=some r→CN n 60 [AV.sl 9 (List.map Aj A7),iA Dq,iA D9] []=some (iA r,[])
def Te (n:Nat):Prop:=Q8 n
theorem A62 (n:Nat) (ih:Te n):Q8 (n+1):=by
 intro A7 Dq D9 r h
 rw[F2] at h
 refine Aw Tryz.func60 (by rfl) rfl rfl (Nat.le_of_ble_eq_true rfl) ?_
 intro call hc;conv=>lhs;whnf
 revert h
 refine ca hc (fun _ h=>A5v h) ?_;intro y1
 intro h;refine B1 h ?_;clear h;intro o12 ho12 h
 refine lq (σ:=(Int×Int)) (τ:=Int) (ν:=Int) 0 (fun(s3,s4) a6=>Bh 60 [(0,AV.sl 9 (List.map Aj A7)),(7,iA s3),(8,AV.sl 1 (List.map Ia y1)),(9,iA s4)]) (fun(s3,s4) a6=>[]) (fun x26 a25=>Bh 60 [(7,iA x26)]) (fun x26 a25=>[]) (fun v=>(iA v,[])) (fun k s=>Fl n (F2 n) A7 y1 k s.1 s.2) (fun s=>rfl) o12 n (0,0) (fun _=>0) ho12 ?_ ?_
 intro k5 ss a6 K7 cont8 hK9 hcont10 h hr11
 obtain⟨s3,s4⟩:=ss
 replace h:Fl n (F2 n) A7 y1 (k5+1) s3 s4=some o12:=h
 rw[Fl] at h
 conv=>lhs;whnf
 revert h
 refine br ?_ ?_
 refine ix ?_;intro x14
 refine ix ?_;intro x15
 refine ca hc (fun _ h=>X1 h) ?_;intro y16
 refine br ?_ ?_
 refine ix ?_;intro x19
 refine ix ?_;intro x20
 refine ca hc (fun _ h=>ih h) ?_;intro y21
 refine ca hc (fun _ h=>ih h) ?_;intro y23
 exact fun h=>cq (hcont10 (V4 s3 (IntKind.i64.wrap (1+y21)) (IntKind.i64.wrap (1+y23)),IntKind.i64.wrap (s4+1)) (fun _=>0) h)
 exact fun h=>cq (hcont10 (s3,IntKind.i64.wrap (s4+1)) (fun _=>0) h)
 intro h;cases sj h
 exact kq (hr11 (fun _=>0))
 refine lrc ?_ ?_
 intro v e;subst e;cases sj h;rfl
 intro x26 a25 e;subst e
 dsimp only at h
 conv=>lhs;whnf
 revert h
 exact rz
theorem X6:∀ n,Te n
 | 0=>by unfold Te Q8;intros;rename_i h;exact absurd h (by intro h;cases h)
 | n+1=>have ih:=X6 n
   A62 n ih
theorem A6c {n:Nat}:Q8 n:=(X6 n)
theorem Cb {n:Nat} ⦃A7:(List UInt8)⦄ ⦃W9:Int⦄ ⦃r:Bool⦄:C6 n A7 W9=some r→CN n 85 [sA A7,AV.int .u8 W9] []=some (bA r,[]):=by
 intro h;rcases n with _|n;cases h
 rw[C6] at h
 refine Aw Tryz.func85 (by rfl) rfl rfl (Nat.le_of_ble_eq_true rfl) ?_
 intro call hc;conv=>lhs;whnf
 revert h
 intro h;refine B1 h ?_;clear h;intro o9 ho9 h
 refine lq (σ:=Int) (τ:=Unit) (ν:=Bool) 0 (fun s1 a3=>Bh 17 [(0,sA A7),(1,AV.int .u8 W9),(5,iA s1)]) (fun s1 a3=>[]) (fun _ a13=>Bh 17 []) (fun _ a13=>[]) (fun v=>(bA v,[])) (fun k s=>Id n A7 W9 k s) (fun s=>rfl) o9 n 0 (fun _=>0) ho9 ?_ ?_
 intro k2 s1 a3 K4 cont5 hK6 hcont7 h hr8
 replace h:Id n A7 W9 (k2+1) s1=some o9:=h
 rw[Id] at h
 conv=>lhs;whnf
 revert h
 refine br ?_ ?_
 refine ixs ?_;intro x11
 refine br ?_ ?_
 intro h;cases sj h
 refine(hK6 _ _).trans ?_
 refine Eq.trans ?_ (Eq.symm (show _=some _ from hr8))
 conv=>lhs;whnf
 exact rq
 exact fun h=>cq (hcont7 (IntKind.i64.wrap (s1+1)) (fun _=>0) h)
 intro h;cases sj h
 exact kq (hr8 (fun _=>0))
 refine lrc ?_ ?_
 intro v e;subst e;cases sj h;rfl
 intro t a13 e;subst e
 dsimp only at h
 conv=>lhs;whnf
 revert h
 exact rz
theorem A4m {n:Nat} ⦃Bx:Int⦄ ⦃r:((List UInt8)×Bool)⦄:N5 n Bx=some r→CN n 84 [iA Bx] []=some (AV.tup [sA r.1,bA r.2],[]):=by
 intro h;rcases n with _|n;cases h
 rw[N5] at h
 refine Aw Tryz.func84 (by rfl) rfl rfl (Nat.le_of_ble_eq_true rfl) ?_
 intro call hc;conv=>lhs;whnf
 revert h
 refine br ?_ ?_
 exact rz
 refine br ?_ ?_
 exact rz
 refine br ?_ ?_
 exact rz
 refine br ?_ ?_
 exact rz
 refine br ?_ ?_
 exact rz
 refine br ?_ ?_
 exact rz
 refine br ?_ ?_
 exact rz
 refine br ?_ ?_
 exact rz
 refine br ?_ ?_
 exact rz
 refine br ?_ ?_
 exact rz
 refine br ?_ ?_
 exact rz
 refine br ?_ ?_
 exact rz
 refine br ?_ ?_
 exact rz
 exact rz
end Go.Proofs.YtpnhafdimkmbbaaGreat
end
section
namespace Go.Proofs.YtpnhafdimkmbbaaGreat
set_option linter.unusedVariables false
set_option linter.unusedSimpArgs false
set_option maxRecDepth 100000
set_option maxHeartbeats 4000000
theorem A7c {n:Nat} ⦃Bc:A0⦄ ⦃r:Bool⦄:Pz n Bc=some r→CN n 59 [AV.agg [iA Bc.Ac,sA Bc.Ax,sA Bc.Au,AV.sl 5 (List.map Ak Bc.B4),AV.sl 5 (List.map Ak Bc.Bd),bA Bc.Bf,iA Bc.Al,iA Bc.C4,iA Bc.A8]] []=some (bA r,[]):=by
 intro h;rcases n with _|n;cases h
 rw[Pz] at h
 refine Aw Tryz.func59 (by rfl) rfl rfl (Nat.le_of_ble_eq_true rfl) ?_
 intro call hc;conv=>lhs;whnf
 revert h
 refine ca hc (fun _ h=>A4m h) ?_;intro y1
 refine br ?_ ?_
 refine br ?_ ?_
 exact rz
 refine rj (α:=Bool) (fun j5=>Bh 117 [(1,AV.ptr 0 0),(3,sA y1.1),(51,bA j5)]) (fun _=>[Ob.var 59 [iA Bc.Ac,sA Bc.Ax,sA Bc.Au,AV.sl 5 (List.map Ak Bc.B4),AV.sl 5 (List.map Ak Bc.Bd),bA Bc.Bf,iA Bc.Al,iA Bc.C4,iA Bc.A8]]) ?_ ?_
 intro K122 b123 h;conv=>lhs;whnf
 revert h
 refine ca hc (fun _ h=>Cb h) ?_;intro y6
 refine ca hc (fun _ h=>Dj h) ?_;intro y8
 refine br ?_ ?_
 refine ca hc (fun _ h=>Cb h) ?_;intro y11
 refine br ?_ ?_
 refine ca hc (fun _ h=>Cb h) ?_;intro y14
 refine ca hc (fun _ h=>Dj h) ?_;intro y16
 refine br ?_ ?_
 refine ca hc (fun _ h=>Cb h) ?_;intro y19
 refine br ?_ ?_
 exact rz
 exact rz
 exact rz
 refine br ?_ ?_
 refine ca hc (fun _ h=>Cb h) ?_;intro y23
 refine ca hc (fun _ h=>Dj h) ?_;intro y25
 refine br ?_ ?_
 refine ca hc (fun _ h=>Cb h) ?_;intro y28
 refine br ?_ ?_
 exact rz
 exact rz
 exact rz
 exact rz
 exact rz
 intro j5 h;conv=>lhs;whnf
 revert h
 refine br ?_ ?_
 exact rz
 refine rj (α:=Bool) (fun j32=>Bh 117 [(1,AV.ptr 0 0),(3,sA y1.1),(91,bA j32)]) (fun _=>[Ob.var 59 [iA Bc.Ac,sA Bc.Ax,sA Bc.Au,AV.sl 5 (List.map Ak Bc.B4),AV.sl 5 (List.map Ak Bc.Bd),bA Bc.Bf,iA Bc.Al,iA Bc.C4,iA Bc.A8]]) ?_ ?_
 intro K120 b121 h;conv=>lhs;whnf
 revert h
 refine ca hc (fun _ h=>Cb h) ?_;intro y33
 refine br ?_ ?_
 refine ca hc (fun _ h=>Kj h) ?_;intro y36
 refine br ?_ ?_
 refine ca hc (fun _ h=>Cb h) ?_;intro y39
 refine br ?_ ?_
 refine ca hc (fun _ h=>Cb h) ?_;intro y42
 refine br ?_ ?_
 refine ca hc (fun _ h=>Kj h) ?_;intro y45
 refine br ?_ ?_
 refine ca hc (fun _ h=>Cb h) ?_;intro y48
 refine br ?_ ?_
 exact rz
 exact rz
 exact rz
 refine ca hc (fun _ h=>Cb h) ?_;intro y51
 refine br ?_ ?_
 exact rz
 exact rz
 refine br ?_ ?_
 exact rz
 refine ca hc (fun _ h=>Cb h) ?_;intro y55
 refine br ?_ ?_
 refine ca hc (fun _ h=>Kj h) ?_;intro y58
 refine br ?_ ?_
 refine ca hc (fun _ h=>Cb h) ?_;intro y61
 refine br ?_ ?_
 exact rz
 exact rz
 exact rz
 refine ca hc (fun _ h=>Cb h) ?_;intro y64
 refine br ?_ ?_
 exact rz
 exact rz
 exact rz
 refine ca hc (fun _ h=>Cb h) ?_;intro y67
 refine br ?_ ?_
 refine ca hc (fun _ h=>Cb h) ?_;intro y70
 refine br ?_ ?_
 refine ca hc (fun _ h=>Kj h) ?_;intro y73
 refine br ?_ ?_
 refine ca hc (fun _ h=>Cb h) ?_;intro y76
 refine br ?_ ?_
 exact rz
 exact rz
 exact rz
 refine ca hc (fun _ h=>Cb h) ?_;intro y79
 refine br ?_ ?_
 exact rz
 exact rz
 refine br ?_ ?_
 exact rz
 refine ca hc (fun _ h=>Cb h) ?_;intro y83
 refine br ?_ ?_
 refine ca hc (fun _ h=>Kj h) ?_;intro y86
 refine br ?_ ?_
 refine ca hc (fun _ h=>Cb h) ?_;intro y89
 refine br ?_ ?_
 exact rz
 exact rz
 exact rz
 refine ca hc (fun _ h=>Cb h) ?_;intro y92
 refine br ?_ ?_
 exact rz
 exact rz
 intro j32 h;conv=>lhs;whnf
 revert h
 refine br ?_ ?_
 exact rz
 refine ca hc (fun _ h=>Cb h) ?_;intro y96
 refine br ?_ ?_
 refine ca hc (fun _ h=>Cb h) ?_;intro y99
 refine br ?_ ?_
 refine ca hc (fun _ h=>Cb h) ?_;intro y102
 refine br ?_ ?_
 exact rz
 exact rz
 refine br ?_ ?_
 refine ca hc (fun _ h=>Cb h) ?_;intro y106
 refine br ?_ ?_
 exact rz
 exact rz
 exact rz
 refine br ?_ ?_
 exact rz
 refine ca hc (fun _ h=>Cb h) ?_;intro y110
 refine br ?_ ?_
 refine ca hc (fun _ h=>Cb h) ?_;intro y113
 refine br ?_ ?_
 exact rz
 exact rz
 refine br ?_ ?_
 refine ca hc (fun _ h=>Cb h) ?_;intro y117
 refine br ?_ ?_
 exact rz
 exact rz
 exact rz
 exact rz
def P9 (n:Nat):Prop:=∀ ⦃A7:(List A0)⦄ ⦃Dq:Int⦄ ⦃D9:Int⦄ ⦃r:Bool⦄,Fk n A7 Dq D9=some r→CN n 58 [AV.sl 9 (List.map Aj A7),iA Dq,iA D9] []=some (bA r,[])
def Sm (n:Nat):Prop:=P9 n
theorem A45 (n:Nat) (ih:Sm n):P9 (n+1):=by
 intro A7 Dq D9 r h
 rw[Fk] at h
 refine Aw Tryz.func58 (by rfl) rfl rfl (Nat.le_of_ble_eq_true rfl) ?_
 intro call hc;conv=>lhs;whnf
 revert h
 intro h;refine B1 h ?_;clear h;intro o9 ho9 h
 refine lq (σ:=Int) (τ:=Unit) (ν:=Bool) 0 (fun s1 a3=>Bh 70 [(0,AV.sl 9 (List.map Aj A7)),(1,iA s1),(2,iA D9)]) (fun s1 a3=>[]) (fun _ a22=>Bh 70 []) (fun _ a22=>[]) (fun v=>(bA v,[])) (fun k s=>I1 n (Fk n) A7 D9 k s) (fun s=>rfl) o9 n Dq (fun _=>0) ho9 ?_ ?_
 intro k2 s1 a3 K4 cont5 hK6 hcont7 h hr8
 replace h:I1 n (Fk n) A7 D9 (k2+1) s1=some o9:=h
 rw[I1] at h
 conv=>lhs;whnf
 revert h
 refine br ?_ ?_
 refine ix ?_;intro x11
 refine br ?_ ?_
 intro h;cases sj h
 refine(hK6 _ _).trans ?_
 refine Eq.trans ?_ (Eq.symm (show _=some _ from hr8))
 conv=>lhs;whnf
 exact rq
 refine br ?_ ?_
 intro h;cases sj h
 refine(hK6 _ _).trans ?_
 refine Eq.trans ?_ (Eq.symm (show _=some _ from hr8))
 conv=>lhs;whnf
 exact rq
 refine br ?_ ?_
 intro h;cases sj h
 refine(hK6 _ _).trans ?_
 refine Eq.trans ?_ (Eq.symm (show _=some _ from hr8))
 conv=>lhs;whnf
 exact rq
 refine br ?_ ?_
 intro h;cases sj h
 refine(hK6 _ _).trans ?_
 refine Eq.trans ?_ (Eq.symm (show _=some _ from hr8))
 conv=>lhs;whnf
 exact rq
 refine ca hc (fun _ h=>ih h) ?_;intro y16
 refine br ?_ ?_
 refine ca hc (fun _ h=>ih h) ?_;intro y19
 refine br ?_ ?_
 exact fun h=>cq (hcont7 (IntKind.i64.wrap ((IntKind.i64.wrap ((IntKind.i64.wrap (s1+1))+x11.Al))+x11.C4)) (fun _=>0) h)
 intro h;cases sj h
 refine(hK6 _ _).trans ?_
 refine Eq.trans ?_ (Eq.symm (show _=some _ from hr8))
 conv=>lhs;whnf
 exact rq
 intro h;cases sj h
 refine(hK6 _ _).trans ?_
 refine Eq.trans ?_ (Eq.symm (show _=some _ from hr8))
 conv=>lhs;whnf
 exact rq
 intro h;cases sj h
 exact kq (hr8 (fun _=>0))
 refine lrc ?_ ?_
 intro v e;subst e;cases sj h;rfl
 intro t a22 e;subst e
 dsimp only at h
 conv=>lhs;whnf
 revert h
 exact rz
theorem Vm:∀ n,Sm n
 | 0=>by unfold Sm P9;intros;rename_i h;exact absurd h (by intro h;cases h)
 | n+1=>have ih:=Vm n
   A45 n ih
theorem A4u {n:Nat}:P9 n:=(Vm n)
theorem A4k {n:Nat} ⦃A7:(List A0)⦄ ⦃r:Bool⦄:Nf n A7=some r→CN n 29 [AV.sl 9 (List.map Aj A7)] []=some (bA r,[]):=by
 intro h;rcases n with _|n;cases h
 rw[Nf] at h
 refine Aw Tryz.func29 (by rfl) rfl rfl (Nat.le_of_ble_eq_true rfl) ?_
 intro call hc;conv=>lhs;whnf
 revert h
 refine br ?_ ?_
 exact rz
 refine cr hc (fun _ h=>A4u h) ?_;intro y2
 refine br ?_ ?_
 intro h;refine B1 h ?_;clear h;intro o13 ho13 h
 refine lq (σ:=Int) (τ:=Unit) (ν:=Bool) 0 (fun s5 a7=>Bh 31 [(0,AV.sl 9 (List.map Aj A7)),(3,iA s5)]) (fun s5 a7=>[]) (fun _ a19=>Bh 31 [(0,AV.sl 9 (List.map Aj A7))]) (fun _ a19=>[]) (fun v=>(bA v,[])) (fun k s=>Gm n A7 k s) (fun s=>rfl) o13 n 0 (fun _=>0) ho13 ?_ ?_
 intro k6 s5 a7 K8 cont9 hK10 hcont11 h hr12
 replace h:Gm n A7 (k6+1) s5=some o13:=h
 rw[Gm] at h
 conv=>lhs;whnf
 revert h
 refine br ?_ ?_
 refine ix ?_;intro x15
 refine ca hc (fun _ h=>A7c h) ?_;intro y16
 refine br ?_ ?_
 exact fun h=>cq (hcont11 (IntKind.i64.wrap (s5+1)) (fun _=>0) h)
 intro h;cases sj h
 refine(hK10 _ _).trans ?_
 refine Eq.trans ?_ (Eq.symm (show _=some _ from hr12))
 conv=>lhs;whnf
 exact rq
 intro h;cases sj h
 exact kq (hr12 (fun _=>0))
 refine lrc ?_ ?_
 intro v e;subst e;cases sj h;rfl
 intro t a19 e;subst e
 dsimp only at h
 conv=>lhs;whnf
 revert h
 refine cr hc (fun _ h=>A6c h) ?_;intro y20
 exact rz
 exact rz
end Go.Proofs.YtpnhafdimkmbbaaGreat
end
section
namespace Go.Proofs.YtpnhafdimkmbbaaGreat
set_option linter.unusedVariables false
set_option linter.unusedSimpArgs false
set_option maxRecDepth 100000
set_option maxHeartbeats 4000000
theorem Ka {n:Nat} ⦃Aah:Int⦄ ⦃A77:Int⦄ ⦃s_l:(List Av)⦄ ⦃s_i:Int⦄ ⦃s_e:Int⦄ ⦃Dd:Int⦄ ⦃r:(Int×Int)⦄:E8 n Aah A77 s_l s_i s_e Dd=some r→CN n 80 [AV.ptr 0 0,iA Aah,iA A77] [Ob.var 77 [AV.sl 4 (List.map B0 s_l),iA s_i,iA s_e,iA Dd]]=some (AV.tup [],[Ob.var 77 [AV.sl 4 (List.map B0 s_l),iA s_i,iA r.1,iA r.2]]):=by
 intro h;rcases n with _|n;cases h
 rw[E8] at h
 refine Aw Tryz.func80 (by rfl) rfl rfl (Nat.le_of_ble_eq_true rfl) ?_
 intro call hc;conv=>lhs;whnf
 revert h
 refine br ?_ ?_
 refine br ?_ ?_
 exact rz
 exact rz
 exact rz
theorem Dt {n:Nat} ⦃s_l:(List Av)⦄ ⦃s_i:Int⦄ ⦃s_e:Int⦄ ⦃Dd:Int⦄ ⦃r:(Int×Int)⦄:Cq n s_l s_i s_e Dd=some r→CN n 48 [AV.ptr 0 0] [Ob.var 77 [AV.sl 4 (List.map B0 s_l),iA s_i,iA s_e,iA Dd]]=some (AV.tup [],[Ob.var 77 [AV.sl 4 (List.map B0 s_l),iA s_i,iA r.1,iA r.2]]):=by
 intro h;rcases n with _|n;cases h
 rw[Cq] at h
 refine Aw Tryz.func48 (by rfl) rfl rfl (Nat.le_of_ble_eq_true rfl) ?_
 intro call hc;conv=>lhs;whnf
 revert h
 refine br ?_ ?_
 refine ca hc (fun _ h=>J6 h) ?_;intro y2
 exact rz
 exact rz
theorem Ck {n:Nat} ⦃Y5:(List UInt8)⦄ ⦃s_l:(List Av)⦄ ⦃s_i:Int⦄ ⦃s_e:Int⦄ ⦃Dd:Int⦄ ⦃r:(Int×Int×Int)⦄:Bv n Y5 s_l s_i s_e Dd=some r→CN n 50 [AV.ptr 0 0,sA Y5] [Ob.var 77 [AV.sl 4 (List.map B0 s_l),iA s_i,iA s_e,iA Dd]]=some (AV.tup [],[Ob.var 77 [AV.sl 4 (List.map B0 s_l),iA r.1,iA r.2.1,iA r.2.2]]):=by
 intro h;rcases n with _|n;cases h
 rw[Bv] at h
 refine Aw Tryz.func50 (by rfl) rfl rfl (Nat.le_of_ble_eq_true rfl) ?_
 intro call hc;conv=>lhs;whnf
 revert h
 refine br ?_ ?_
 refine ca hc (fun _ h=>D6 h) ?_;intro y2
 refine br ?_ ?_
 exact rz
 refine ca hc (fun _ h=>Dt h) ?_;intro y5
 exact rz
 refine ca hc (fun _ h=>Dt h) ?_;intro y7
 exact rz
theorem Rl {n:Nat} ⦃Kl:Int⦄ ⦃s_l:(List Av)⦄ ⦃s_i:Int⦄ ⦃s_e:Int⦄ ⦃Dd:Int⦄ ⦃r:(At×Int×Int×Int)⦄:Hf n Kl s_l s_i s_e Dd=some r→CN n 54 [AV.ptr 0 0,iA Kl] [Ob.var 77 [AV.sl 4 (List.map B0 s_l),iA s_i,iA s_e,iA Dd]]=some (AV.agg [iA r.1.Ac,AV.sl 5 (List.map Ak r.1.B4),iA r.1.A8],[Ob.var 77 [AV.sl 4 (List.map B0 s_l),iA r.2.1,iA r.2.2.1,iA r.2.2.2]]):=by
 intro h;rcases n with _|n;cases h
 rw[Hf] at h
 refine Aw Tryz.func54 (by rfl) rfl rfl (Nat.le_of_ble_eq_true rfl) ?_
 intro call hc;conv=>lhs;whnf
 revert h
 refine ix ?_;intro x1
 refine tw hc (fun _ h=>Wi h) (fun _ h=>A7g (p:=[1,1,2,2,1]) (q:=[1,2,1,1]) h Tryz.func82 (by kernel_rfl) (by kernel_rfl) (by kernel_rfl) (by kernel_rfl) (by rfl) (A59 (by exact fun _=>rfl) _) (A59 (by exact fun _=>rfl) _)) ?_;intro y2
 refine nb ?_ ?_
 refine ca hc (fun _ h=>Ka h) ?_;intro y4
 intro h;refine B1 h ?_;clear h;intro o13 ho13 h
 refine lq (σ:=Unit) (τ:=Unit) (ν:=(At×Int×Int×Int)) 0 (fun _ a7=>Bh 79 [(0,AV.ptr 0 0),(4,AV.ptr 1 0),(5,AV.ptr 2 0),(6,AV.sl 5 []),(7,iA y2.2.1),(10,iA (0))]) (fun _ a7=>[Ob.var 77 [AV.sl 4 (List.map B0 s_l),iA (IntKind.i64.wrap (s_i+1)),iA y4.1,iA y4.2],Ob.var 45 [iA (0),AV.nils,iA (0)],Ob.var 45 [iA Kl,AV.nils,iA x1.A8]]) (fun _ a14=>Bh 79 [(0,AV.ptr 0 0),(4,AV.ptr 1 0),(5,AV.ptr 2 0),(6,AV.sl 5 []),(7,iA y2.2.1)]) (fun _ a14=>[Ob.var 77 [AV.sl 4 (List.map B0 s_l),iA (IntKind.i64.wrap (s_i+1)),iA y4.1,iA y4.2],Ob.var 45 [iA (0),AV.nils,iA (0)],Ob.var 45 [iA Kl,AV.nils,iA x1.A8]]) (fun v=>(AV.agg [iA v.1.Ac,AV.sl 5 (List.map Ak v.1.B4),iA v.1.A8],[Ob.var 77 [AV.sl 4 (List.map B0 s_l),iA v.2.1,iA v.2.2.1,iA v.2.2.2]])) (fun k s=>Il n k) (fun s=>rfl) o13 n () (fun _=>0) ho13 ?_ ?_
 intro k6 ss a7 K8 cont9 hK10 hcont11 h hr12
 replace h:Il n (k6+1)=some o13:=h
 rw[Il] at h
 conv=>lhs;whnf
 revert h
 intro h;cases sj h
 exact kq (hr12 (fun _=>0))
 refine lrc ?_ ?_
 intro v e;subst e;cases sj h;rfl
 intro t a14 e;subst e
 dsimp only at h
 conv=>lhs;whnf
 revert h
 refine br ?_ ?_
 refine ca hc (fun _ h=>Ck h) ?_;intro y16
 exact rz
 refine ca hc (fun _ h=>Ck h) ?_;intro y18
 exact rz
 refine ca hc (fun _ h=>Ka h) ?_;intro y21
 intro h;refine B1 h ?_;clear h;intro o32 ho32 h
 refine lq (σ:=(Int×(List Aa))) (τ:=(List Aa)) (ν:=(At×Int×Int×Int)) 0 (fun(s23,s24) a26=>Bh 79 [(0,AV.ptr 0 0),(4,AV.ptr 1 0),(5,AV.ptr 2 0),(6,AV.own 3 0 (List.length s24)),(7,iA y2.2.1),(10,iA s23)]) (fun(s23,s24) a26=>[Ob.var 77 [AV.sl 4 (List.map B0 s_l),iA (IntKind.i64.wrap (s_i+1)),iA y21.1,iA y21.2],Ob.var 45 [iA (0),AV.nils,iA (0)],Ob.var 45 [iA Kl,AV.nils,iA x1.A8],Ob.arr 5 (List.map Ak s24)]) (fun x39 a38=>Bh 79 [(0,AV.ptr 0 0),(4,AV.ptr 1 0),(5,AV.ptr 2 0),(6,AV.own 3 0 (List.length x39)),(7,iA y2.2.1)]) (fun x39 a38=>[Ob.var 77 [AV.sl 4 (List.map B0 s_l),iA (IntKind.i64.wrap (s_i+1)),iA y21.1,iA y21.2],Ob.var 45 [iA (0),AV.nils,iA (0)],Ob.var 45 [iA Kl,AV.nils,iA x1.A8],Ob.arr 5 (List.map Ak x39)]) (fun v=>(AV.agg [iA v.1.Ac,AV.sl 5 (List.map Ak v.1.B4),iA v.1.A8],[Ob.var 77 [AV.sl 4 (List.map B0 s_l),iA v.2.1,iA v.2.2.1,iA v.2.2.2]])) (fun k s=>Ds n k s.1 s.2) (fun s=>rfl) o32 n (0,y2.1) (fun _=>0) ho32 ?_ ?_
 intro k25 ss a26 K27 cont28 hK29 hcont30 h hr31
 obtain⟨s23,s24⟩:=ss
 replace h:Ds n (k25+1) s23 s24=some o32:=h
 rw[Ds] at h
 conv=>lhs;whnf
 revert h
 refine br ?_ ?_
 intro h
 refine B1 h ?_;clear h;intro x34 hx34 h
 try simp only[ls]
 refine Cp (by first|exact I9 hx34|exact Ui hx34|exact Zd hx34|exact Nk hx34|(have q:=I9 hx34;simp only[List.length_set] at q;exact q)|(have q:=Nk hx34;simp only[List.length_set,Nat.zero_add] at q ⊢;exact q)) ?_
 conv=>lhs;whnf
 try simp only[Nat.zero_add,No (f:=Ak) hx34,Ja,ls]
 conv=>lhs;whnf
 revert h
 refine br ?_ ?_
 intro h
 refine B1 h ?_;clear h;intro x36 hx36 h
 try simp only[ls]
 refine Cp (by first|exact I9 hx36|exact Ui hx36|exact Zd hx36|exact Nk hx36|(have q:=I9 hx36;simp only[List.length_set] at q;exact q)|(have q:=Nk hx36;simp only[List.length_set,Nat.zero_add] at q ⊢;exact q)) ?_
 conv=>lhs;whnf
 try simp only[Nat.zero_add,No (f:=Ak) hx36,Ja,ls]
 conv=>lhs;whnf
 revert h
 intro h
 have hs37:Dl (List.map Ak s24) s23.toNat [iA (3),iA x36.Cu,sA x36.An,sA x36.Df,iA x36.A8]=List.map Ak (List.set s24 s23.toNat (⟨3,x36.Cu,x36.An,x36.Df,x36.A8⟩:Aa)):=by rw[Cg,List.map_set];rfl
 have hs37_u:Dl (List.map Ak s24) s23.toNat (My (Ak x36) 0 [iA (3)])=List.map Ak (List.set s24 s23.toNat (⟨3,x36.Cu,x36.An,x36.Df,x36.A8⟩:Aa)):=by rw[Cg,List.map_set];rfl
 try simp only[Nat.zero_add,No (f:=Ak) hx36]
 conv=>lhs;whnf
 try simp only[hs37,hs37_u]
 conv=>lhs;whnf
 revert h
 exact fun h=>cq (hcont30 (IntKind.i64.wrap (s23+1),(List.set s24 s23.toNat (⟨3,x36.Cu,x36.An,x36.Df,x36.A8⟩:Aa))) (fun _=>0) h)
 exact fun h=>cq (hcont30 (IntKind.i64.wrap (s23+1),s24) (fun _=>0) h)
 intro h;cases sj h
 exact kq (hr31 (fun _=>0))
 refine lrc ?_ ?_
 intro v e;subst e;cases sj h;rfl
 intro x39 a38 e;subst e
 dsimp only at h
 conv=>lhs;whnf
 revert h
 refine br ?_ ?_
 refine ca hc (fun _ h=>Ck h) ?_;intro y41
 intro h;cases sj h
 try simp only[ls]
 exact fq (y:=some (AV.agg [iA Kl,AV.sl 5 (List.take (List.length x39) (List.drop 0 (List.map Ak x39))),iA x1.A8],[Ob.var 77 [AV.sl 4 (List.map B0 s_l),iA y41.1,iA y41.2.1,iA y41.2.2]]))
 refine ca hc (fun _ h=>Ck h) ?_;intro y43
 intro h;cases sj h
 try simp only[ls]
 exact fq (y:=some (AV.agg [iA Kl,AV.sl 5 (List.take (List.length x39) (List.drop 0 (List.map Ak x39))),iA x1.A8],[Ob.var 77 [AV.sl 4 (List.map B0 s_l),iA y43.1,iA y43.2.1,iA y43.2.2]]))
theorem Gd {n:Nat} ⦃Y5:(List UInt8)⦄ ⦃s_l:(List Av)⦄ ⦃s_i:Int⦄ ⦃s_e:Int⦄ ⦃Dd:Int⦄ ⦃r:Bool⦄:E1 n Y5 s_l s_i s_e Dd=some r→CN n 47 [AV.ptr 0 0,sA Y5] [Ob.var 77 [AV.sl 4 (List.map B0 s_l),iA s_i,iA s_e,iA Dd]]=some (bA r,[Ob.var 77 [AV.sl 4 (List.map B0 s_l),iA s_i,iA s_e,iA Dd]]):=by
 intro h;rcases n with _|n;cases h
 rw[E1] at h
 refine Aw Tryz.func47 (by rfl) rfl rfl (Nat.le_of_ble_eq_true rfl) ?_
 intro call hc;conv=>lhs;whnf
 revert h
 refine br ?_ ?_
 refine br ?_ ?_
 refine ix ?_;intro x3
 refine br ?_ ?_
 refine ix ?_;intro x5
 exact rz
 exact rz
 exact rz
 exact rz
theorem A6h {n:Nat} ⦃Bx:Int⦄ ⦃r:(List UInt8)⦄:Kv n Bx=some r→CN n 81 [iA Bx] []=some (sA r,[]):=by
 intro h;rcases n with _|n;cases h
 rw[Kv] at h
 refine Aw Tryz.func81 (by rfl) rfl rfl (Nat.le_of_ble_eq_true rfl) ?_
 intro call hc;conv=>lhs;whnf
 revert h
 intro h
 refine B1 h ?_;clear h;intro x1 hx1 h
 refine Cp (by first|exact I9 hx1|(have q:=I9 hx1;exact q)) ?_
 simp only[(show nth? ([[sA (([]:List UInt8))],[sA (([102,111,114,97,108,108]:List UInt8))],[sA (([101,120,105,115,116,115]:List UInt8))],[sA (([97,108,119,97,121,115]:List UInt8))]]:List (List AV)) Bx.toNat=some (Co x1) from No (f:=Co) hx1),ls]
 conv=>lhs;whnf
 revert h
 exact rz
theorem L0 {n:Nat} ⦃s_l:(List Av)⦄ ⦃s_i:Int⦄ ⦃s_e:Int⦄ ⦃Dd:Int⦄ ⦃r:Int⦄:Fc n s_l s_i s_e Dd=some r→CN n 53 [AV.ptr 0 0] [Ob.var 77 [AV.sl 4 (List.map B0 s_l),iA s_i,iA s_e,iA Dd]]=some (iA r,[Ob.var 77 [AV.sl 4 (List.map B0 s_l),iA s_i,iA s_e,iA Dd]]):=by
 intro h;rcases n with _|n;cases h
 rw[Fc] at h
 refine Aw Tryz.func53 (by rfl) rfl rfl (Nat.le_of_ble_eq_true rfl) ?_
 intro call hc;conv=>lhs;whnf
 revert h
 intro h;refine B1 h ?_;clear h;intro o9 ho9 h
 refine lq (σ:=Int) (τ:=Unit) (ν:=Int) 0 (fun s1 a3=>Bh 13 [(0,AV.ptr 0 0),(3,iA s1)]) (fun s1 a3=>[Ob.var 77 [AV.sl 4 (List.map B0 s_l),iA s_i,iA s_e,iA Dd]]) (fun _ a16=>Bh 13 []) (fun _ a16=>[Ob.var 77 [AV.sl 4 (List.map B0 s_l),iA s_i,iA s_e,iA Dd]]) (fun v=>(iA v,[Ob.var 77 [AV.sl 4 (List.map B0 s_l),iA s_i,iA s_e,iA Dd]])) (fun k s=>E7 n s_l s_i s_e Dd k s) (fun s=>rfl) o9 n 1 (fun _=>0) ho9 ?_ ?_
 intro k2 s1 a3 K4 cont5 hK6 hcont7 h hr8
 replace h:E7 n s_l s_i s_e Dd (k2+1) s1=some o9:=h
 rw[E7] at h
 conv=>lhs;whnf
 revert h
 refine br ?_ ?_
 refine ca hc (fun _ h=>A6h h) ?_;intro y11
 refine ca hc (fun _ h=>Gd h) ?_;intro y13
 refine br ?_ ?_
 intro h;cases sj h
 refine(hK6 _ _).trans ?_
 refine Eq.trans ?_ (Eq.symm (show _=some _ from hr8))
 conv=>lhs;whnf
 exact rq
 exact fun h=>cq (hcont7 (IntKind.i64.wrap (s1+1)) (fun _=>0) h)
 intro h;cases sj h
 exact kq (hr8 (fun _=>0))
 refine lrc ?_ ?_
 intro v e;subst e;cases sj h;rfl
 intro t a16 e;subst e
 dsimp only at h
 conv=>lhs;whnf
 revert h
 exact rz
theorem J1 {n:Nat} ⦃s_l:(List Av)⦄ ⦃s_i:Int⦄ ⦃s_e:Int⦄ ⦃Dd:Int⦄ ⦃r:((List UInt8)×Int×Int×Int)⦄:Ej n s_l s_i s_e Dd=some r→CN n 51 [AV.ptr 0 0] [Ob.var 77 [AV.sl 4 (List.map B0 s_l),iA s_i,iA s_e,iA Dd]]=some (sA r.1,[Ob.var 77 [AV.sl 4 (List.map B0 s_l),iA r.2.1,iA r.2.2.1,iA r.2.2.2]]):=by
 intro h;rcases n with _|n;cases h
 rw[Ej] at h
 refine Aw Tryz.func51 (by rfl) rfl rfl (Nat.le_of_ble_eq_true rfl) ?_
 intro call hc;conv=>lhs;whnf
 revert h
 refine br ?_ ?_
 refine ca hc (fun _ h=>Tc h) ?_;intro y2
 refine br ?_ ?_
 refine ix ?_;intro x5
 exact rz
 refine ca hc (fun _ h=>Dt h) ?_;intro y6
 exact rz
 refine ca hc (fun _ h=>Dt h) ?_;intro y8
 exact rz
theorem Ju {n:Nat} ⦃s_l:(List Av)⦄ ⦃s_i:Int⦄ ⦃s_e:Int⦄ ⦃Dd:Int⦄ ⦃r:(Int×Int×Int×Int)⦄:Eh n s_l s_i s_e Dd=some r→CN n 49 [AV.ptr 0 0] [Ob.var 77 [AV.sl 4 (List.map B0 s_l),iA s_i,iA s_e,iA Dd]]=some (iA r.1,[Ob.var 77 [AV.sl 4 (List.map B0 s_l),iA r.2.1,iA r.2.2.1,iA r.2.2.2]]):=by
 intro h;rcases n with _|n;cases h
 rw[Eh] at h
 refine Aw Tryz.func49 (by rfl) rfl rfl (Nat.le_of_ble_eq_true rfl) ?_
 intro call hc;conv=>lhs;whnf
 revert h
 refine br ?_ ?_
 refine br ?_ ?_
 refine ix ?_;intro x3
 refine br ?_ ?_
 refine ix ?_;intro x5
 exact rz
 refine ca hc (fun _ h=>Dt h) ?_;intro y6
 exact rz
 refine ca hc (fun _ h=>Dt h) ?_;intro y8
 exact rz
 refine ca hc (fun _ h=>Dt h) ?_;intro y10
 exact rz
theorem R2 {n:Nat} ⦃s_l:(List Av)⦄ ⦃s_i:Int⦄ ⦃s_e:Int⦄ ⦃Dd:Int⦄ ⦃r:(Am×Int×Int×Int)⦄:Gz n s_l s_i s_e Dd=some r→CN n 52 [AV.ptr 0 0] [Ob.var 77 [AV.sl 4 (List.map B0 s_l),iA s_i,iA s_e,iA Dd]]=some (AV.agg [sA r.1.An,AV.sl 1 (List.map Co r.1.B2),AV.sl 9 (List.map Aj r.1.Al),iA r.1.A8],[Ob.var 77 [AV.sl 4 (List.map B0 s_l),iA r.2.1,iA r.2.2.1,iA r.2.2.2]]):=by
 intro h;rcases n with _|n;cases h
 rw[Gz] at h
 refine Aw Tryz.func52 (by rfl) rfl rfl (Nat.le_of_ble_eq_true rfl) ?_
 intro call hc;conv=>lhs;whnf
 revert h
 refine ix ?_;intro x1
 refine ca hc (fun _ h=>J1 h) ?_;intro y2
 refine ca hc (fun _ h=>Ck h) ?_;intro y4
 refine ca hc (fun _ h=>Gd h) ?_;intro y6
 refine br ?_ ?_
 refine ca hc (fun _ h=>J1 h) ?_;intro y9
 intro h;refine B1 h ?_;clear h;intro o22 ho22 h
 refine lq (σ:=(Int×Int×Int×(List (List UInt8)))) (τ:=(Int×Int×Int×(List (List UInt8)))) (ν:=(Am×Int×Int×Int)) 0 (fun(s11,s12,s13,s14) a16=>Bh 112 [(0,AV.ptr 0 0),(2,AV.ptr 1 0),(3,AV.ptr 2 0)]) (fun(s11,s12,s13,s14) a16=>[Ob.var 77 [AV.sl 4 (List.map B0 s_l),iA s11,iA s12,iA s13],Ob.var 40 [sA (([]:List UInt8)),AV.nils,AV.nils,iA (0)],Ob.var 40 [sA y2.1,AV.row 3 (List.length s14),AV.nils,iA x1.A8],Ob.row 9 1 (List.map Co s14)]) (fun(x32,x33,x34,x35) a31=>Bh 112 [(0,AV.ptr 0 0),(2,AV.ptr 1 0),(3,AV.ptr 2 0)]) (fun(x32,x33,x34,x35) a31=>[Ob.var 77 [AV.sl 4 (List.map B0 s_l),iA x32,iA x33,iA x34],Ob.var 40 [sA (([]:List UInt8)),AV.nils,AV.nils,iA (0)],Ob.var 40 [sA y2.1,AV.row 3 (List.length x35),AV.nils,iA x1.A8],Ob.row 9 1 (List.map Co x35)]) (fun v=>(AV.agg [sA v.1.An,AV.sl 1 (List.map Co v.1.B2),AV.sl 9 (List.map Aj v.1.Al),iA v.1.A8],[Ob.var 77 [AV.sl 4 (List.map B0 s_l),iA v.2.1,iA v.2.2.1,iA v.2.2.2]])) (fun k s=>E9 n s_l k s.1 s.2.1 s.2.2.1 s.2.2.2) (fun s=>rfl) o22 n (y9.2.1,y9.2.2.1,y9.2.2.2,([y9.1]:List (List UInt8))) (fun _=>0) ho22 ?_ ?_
 intro k15 ss a16 K17 cont18 hK19 hcont20 h hr21
 obtain⟨s11,s12,s13,s14⟩:=ss
 replace h:E9 n s_l (k15+1) s11 s12 s13 s14=some o22:=h
 rw[E9] at h
 conv=>lhs;whnf
 revert h
 refine br ?_ ?_
 refine ca hc (fun _ h=>D6 h) ?_;intro y24
 refine br ?_ ?_
 refine ca hc (fun _ h=>J1 h) ?_;intro y27
 refine ar (ap Co (List.map Co s14) s14 ([[sA y27.1]]) ([y27.1]:List (List UInt8))) ?_
 exact fun h=>cq (hcont20 (y27.2.1,y27.2.2.1,y27.2.2.2,(s14++([y27.1]:List (List UInt8)))) (fun _=>0) h)
 intro h;cases sj h
 exact kq (hr21 (fun _=>0))
 intro h;cases sj h
 exact kq (hr21 (fun _=>0))
 refine lrc ?_ ?_
 intro v e;subst e;cases sj h;rfl
 intro t a31 e;subst e
 obtain⟨x32,x33,x34,x35⟩:=t
 dsimp only at h
 conv=>lhs;whnf
 revert h
 refine ca hc (fun _ h=>Ck h) ?_;intro y36
 refine br ?_ ?_
 refine ca hc (fun _ h=>Wy h) ?_;intro y39
 refine ca hc (fun _ h=>Ka h) ?_;intro y41
 refine ca hc (fun _ h=>Ck h) ?_;intro y43
 intro h;cases sj h
 try simp only[ls]
 exact fq (y:=some (AV.agg [sA y2.1,AV.sl 1 (List.take (List.length x35) (List.map Co x35)),AV.sl 9 (List.map Aj y39.1),iA x1.A8],[Ob.var 77 [AV.sl 4 (List.map B0 s_l),iA y43.1,iA y43.2.1,iA y43.2.2]]))
 refine ca hc (fun _ h=>Ck h) ?_;intro y45
 intro h;cases sj h
 try simp only[ls]
 exact fq (y:=some (AV.agg [sA y2.1,AV.sl 1 (List.take (List.length x35) (List.map Co x35)),AV.sl 9 [],iA x1.A8],[Ob.var 77 [AV.sl 4 (List.map B0 s_l),iA y45.1,iA y45.2.1,iA y45.2.2]]))
 refine br ?_ ?_
 refine ca hc (fun _ h=>Wy h) ?_;intro y49
 refine ca hc (fun _ h=>Ka h) ?_;intro y51
 refine ca hc (fun _ h=>Ck h) ?_;intro y53
 exact rz
 refine ca hc (fun _ h=>Ck h) ?_;intro y55
 exact rz
theorem A3w {n:Nat} ⦃A0c:(List UInt8)⦄ ⦃r:(Be×Int×Int)⦄:Ng n A0c=some r→CN n 25 [sA A0c] []=some (AV.tup [AV.agg [iA r.1.Ay,AV.sl 3 (List.map Ai r.1.Ao),AV.sl 4 (List.map Ab r.1.Ad),AV.sl 3 (List.map Ae r.1.Aq)],iA r.2.1,iA r.2.2],[]):=by
 intro h;rcases n with _|n;cases h
 rw[Ng] at h
 refine Aw Tryz.func25 (by rfl) rfl rfl (Nat.le_of_ble_eq_true rfl) ?_
 intro call hc;conv=>lhs;whnf
 revert h
 refine ca hc (fun _ h=>A6t h) ?_;intro y1
 refine br ?_ ?_
 exact rz
 refine ca hc (fun _ h=>Gd h) ?_;intro y4
 refine br ?_ ?_
 refine ca hc (fun _ h=>Ju h) ?_;intro y7
 refine ca hc (fun _ h=>Ck h) ?_;intro y9
 intro h;refine B1 h ?_;clear h;intro o22 ho22 h
 refine lq (σ:=(Int×Int×Int×(List B9))) (τ:=(Int×Int×Int×(List B9))) (ν:=(Be×Int×Int)) 0 (fun(s11,s12,s13,s14) a16=>Bh 125 [(2,AV.ptr 0 0),(5,AV.sl 4 (List.map B0 y1.1)),(8,AV.ptr 1 0),(9,AV.ptr 2 0)]) (fun(s11,s12,s13,s14) a16=>[Ob.var 26 [iA (0),AV.row 3 (List.length (([]:List B9))),AV.row 4 (List.length (([]:List Am))),AV.row 5 (List.length (([]:List At)))],Ob.var 77 [AV.sl 4 (List.map B0 y1.1),iA s11,iA s12,iA s13],Ob.var 26 [iA y7.1,AV.row 6 (List.length s14),AV.row 7 (List.length (([]:List Am))),AV.row 8 (List.length (([]:List At)))],Ob.row 36 3 ([]),Ob.row 40 4 ([]),Ob.row 45 3 ([]),Ob.row 36 3 (List.map Ai s14),Ob.row 40 4 ([]),Ob.row 45 3 ([])]) (fun(x38,x39,x40,x41) a37=>Bh 125 [(2,AV.ptr 0 0),(5,AV.sl 4 (List.map B0 y1.1)),(8,AV.ptr 1 0),(9,AV.ptr 2 0)]) (fun(x38,x39,x40,x41) a37=>[Ob.var 26 [iA (0),AV.row 3 (List.length (([]:List B9))),AV.row 4 (List.length (([]:List Am))),AV.row 5 (List.length (([]:List At)))],Ob.var 77 [AV.sl 4 (List.map B0 y1.1),iA x38,iA x39,iA x40],Ob.var 26 [iA y7.1,AV.row 6 (List.length x41),AV.row 7 (List.length (([]:List Am))),AV.row 8 (List.length (([]:List At)))],Ob.row 36 3 ([]),Ob.row 40 4 ([]),Ob.row 45 3 ([]),Ob.row 36 3 (List.map Ai x41),Ob.row 40 4 ([]),Ob.row 45 3 ([])]) (fun v=>(AV.tup [AV.agg [iA v.1.Ay,AV.sl 3 (List.map Ai v.1.Ao),AV.sl 4 (List.map Ab v.1.Ad),AV.sl 3 (List.map Ae v.1.Aq)],iA v.2.1,iA v.2.2],[])) (fun k s=>Gx n y1 k s.1 s.2.1 s.2.2.1 s.2.2.2) (fun s=>rfl) o22 n (y9.1,y9.2.1,y9.2.2,([]:List B9)) (fun _=>0) ho22 ?_ ?_
 intro k15 ss a16 K17 cont18 hK19 hcont20 h hr21
 obtain⟨s11,s12,s13,s14⟩:=ss
 replace h:Gx n y1 (k15+1) s11 s12 s13 s14=some o22:=h
 rw[Gx] at h
 conv=>lhs;whnf
 revert h
 refine ca hc (fun _ h=>Gd h) ?_;intro y23
 refine br ?_ ?_
 refine ix ?_;intro x26
 refine ca hc (fun _ h=>J1 h) ?_;intro y27
 refine ca hc (fun _ h=>Ck h) ?_;intro y29
 refine ca hc (fun _ h=>Ju h) ?_;intro y31
 refine ca hc (fun _ h=>Ck h) ?_;intro y33
 refine ar (ap Ai (List.map Ai s14) s14 ([[sA y27.1,iA y31.1,iA x26.A8]]) ([(⟨y27.1,y31.1,x26.A8⟩:B9)]:List B9)) ?_
 exact fun h=>cq (hcont20 (y33.1,y33.2.1,y33.2.2,(s14++([(⟨y27.1,y31.1,x26.A8⟩:B9)]:List B9))) (fun _=>0) h)
 intro h;cases sj h
 exact kq (hr21 (fun _=>0))
 refine lrc ?_ ?_
 intro v e;subst e;cases sj h;rfl
 intro t a37 e;subst e
 obtain⟨x38,x39,x40,x41⟩:=t
 dsimp only at h
 conv=>lhs;whnf
 revert h
 intro h;refine B1 h ?_;clear h;intro o53 ho53 h
 refine lq (σ:=(Int×Int×Int×(List Am))) (τ:=(Int×Int×Int×(List Am))) (ν:=(Be×Int×Int)) 2 (fun(s42,s43,s44,s45) a47=>Bh 125 [(2,AV.ptr 0 0),(5,AV.sl 4 (List.map B0 y1.1)),(8,AV.ptr 1 0),(9,AV.ptr 2 0)]) (fun(s42,s43,s44,s45) a47=>[Ob.var 26 [iA (0),AV.row 3 (List.length (([]:List B9))),AV.row 4 (List.length (([]:List Am))),AV.row 5 (List.length (([]:List At)))],Ob.var 77 [AV.sl 4 (List.map B0 y1.1),iA s42,iA s43,iA s44],Ob.var 26 [iA y7.1,AV.row 6 (List.length x41),AV.row 7 (List.length s45),AV.row 8 (List.length (([]:List At)))],Ob.row 36 3 ([]),Ob.row 40 4 ([]),Ob.row 45 3 ([]),Ob.row 36 3 (List.map Ai x41),Ob.row 40 4 (List.map Ab s45),Ob.row 45 3 ([])]) (fun(x62,x63,x64,x65) a61=>Bh 125 [(2,AV.ptr 0 0),(5,AV.sl 4 (List.map B0 y1.1)),(8,AV.ptr 1 0),(9,AV.ptr 2 0)]) (fun(x62,x63,x64,x65) a61=>[Ob.var 26 [iA (0),AV.row 3 (List.length (([]:List B9))),AV.row 4 (List.length (([]:List Am))),AV.row 5 (List.length (([]:List At)))],Ob.var 77 [AV.sl 4 (List.map B0 y1.1),iA x62,iA x63,iA x64],Ob.var 26 [iA y7.1,AV.row 6 (List.length x41),AV.row 7 (List.length x65),AV.row 8 (List.length (([]:List At)))],Ob.row 36 3 ([]),Ob.row 40 4 ([]),Ob.row 45 3 ([]),Ob.row 36 3 (List.map Ai x41),Ob.row 40 4 (List.map Ab x65),Ob.row 45 3 ([])]) (fun v=>(AV.tup [AV.agg [iA v.1.Ay,AV.sl 3 (List.map Ai v.1.Ao),AV.sl 4 (List.map Ab v.1.Ad),AV.sl 3 (List.map Ae v.1.Aq)],iA v.2.1,iA v.2.2],[])) (fun k s=>H2 n y1 k s.1 s.2.1 s.2.2.1 s.2.2.2) (fun s=>rfl) o53 n (x38,x39,x40,([]:List Am)) (fun _=>0) ho53 ?_ ?_
 intro k46 ss a47 K48 cont49 hK50 hcont51 h hr52
 obtain⟨s42,s43,s44,s45⟩:=ss
 replace h:H2 n y1 (k46+1) s42 s43 s44 s45=some o53:=h
 rw[H2] at h
 conv=>lhs;whnf
 revert h
 refine ca hc (fun _ h=>Gd h) ?_;intro y54
 refine br ?_ ?_
 refine ca hc (fun _ h=>R2 h) ?_;intro y57
 refine ar (ap Ab (List.map Ab s45) s45 ([[sA y57.1.An,AV.sl 1 (List.map Co y57.1.B2),AV.sl 9 (List.map Aj y57.1.Al),iA y57.1.A8]]) ([y57.1]:List Am)) ?_
 exact fun h=>cq (hcont51 (y57.2.1,y57.2.2.1,y57.2.2.2,(s45++([y57.1]:List Am))) (fun _=>0) h)
 intro h;cases sj h
 exact kq (hr52 (fun _=>0))
 refine lrc ?_ ?_
 intro v e;subst e;cases sj h;rfl
 intro t a61 e;subst e
 obtain⟨x62,x63,x64,x65⟩:=t
 dsimp only at h
 conv=>lhs;whnf
 revert h
 intro h;refine B1 h ?_;clear h;intro o77 ho77 h
 refine lq (σ:=(Int×Int×Int×(List At))) (τ:=(Int×Int×Int×(List At))) (ν:=(Be×Int×Int)) 4 (fun(s66,s67,s68,s69) a71=>Bh 125 [(2,AV.ptr 0 0),(5,AV.sl 4 (List.map B0 y1.1)),(8,AV.ptr 1 0),(9,AV.ptr 2 0)]) (fun(s66,s67,s68,s69) a71=>[Ob.var 26 [iA (0),AV.row 3 (List.length (([]:List B9))),AV.row 4 (List.length (([]:List Am))),AV.row 5 (List.length (([]:List At)))],Ob.var 77 [AV.sl 4 (List.map B0 y1.1),iA s66,iA s67,iA s68],Ob.var 26 [iA y7.1,AV.row 6 (List.length x41),AV.row 7 (List.length x65),AV.row 8 (List.length s69)],Ob.row 36 3 ([]),Ob.row 40 4 ([]),Ob.row 45 3 ([]),Ob.row 36 3 (List.map Ai x41),Ob.row 40 4 (List.map Ab x65),Ob.row 45 3 (List.map Ae s69)]) (fun(x88,x89,x90,x91) a87=>Bh 125 [(2,AV.ptr 0 0),(5,AV.sl 4 (List.map B0 y1.1)),(8,AV.ptr 1 0),(9,AV.ptr 2 0)]) (fun(x88,x89,x90,x91) a87=>[Ob.var 26 [iA (0),AV.row 3 (List.length (([]:List B9))),AV.row 4 (List.length (([]:List Am))),AV.row 5 (List.length (([]:List At)))],Ob.var 77 [AV.sl 4 (List.map B0 y1.1),iA x88,iA x89,iA x90],Ob.var 26 [iA y7.1,AV.row 6 (List.length x41),AV.row 7 (List.length x65),AV.row 8 (List.length x91)],Ob.row 36 3 ([]),Ob.row 40 4 ([]),Ob.row 45 3 ([]),Ob.row 36 3 (List.map Ai x41),Ob.row 40 4 (List.map Ab x65),Ob.row 45 3 (List.map Ae x91)]) (fun v=>(AV.tup [AV.agg [iA v.1.Ay,AV.sl 3 (List.map Ai v.1.Ao),AV.sl 4 (List.map Ab v.1.Ad),AV.sl 3 (List.map Ae v.1.Aq)],iA v.2.1,iA v.2.2],[])) (fun k s=>H0 n y1 k s.1 s.2.1 s.2.2.1 s.2.2.2) (fun s=>rfl) o77 n (x62,x63,x64,([]:List At)) (fun _=>0) ho77 ?_ ?_
 intro k70 ss a71 K72 cont73 hK74 hcont75 h hr76
 obtain⟨s66,s67,s68,s69⟩:=ss
 replace h:H0 n y1 (k70+1) s66 s67 s68 s69=some o77:=h
 rw[H0] at h
 conv=>lhs;whnf
 revert h
 refine ca hc (fun _ h=>L0 h) ?_;intro y78
 refine br ?_ ?_
 refine ca hc (fun _ h=>L0 h) ?_;intro y81
 refine ca hc (fun _ h=>Rl h) ?_;intro y83
 refine ar (ap Ae (List.map Ae s69) s69 ([[iA y83.1.Ac,AV.sl 5 (List.map Ak y83.1.B4),iA y83.1.A8]]) ([y83.1]:List At)) ?_
 exact fun h=>cq (hcont75 (y83.2.1,y83.2.2.1,y83.2.2.2,(s69++([y83.1]:List At))) (fun _=>0) h)
 intro h;cases sj h
 exact kq (hr76 (fun _=>0))
 refine lrc ?_ ?_
 intro v e;subst e;cases sj h;rfl
 intro t a87 e;subst e
 obtain⟨x88,x89,x90,x91⟩:=t
 dsimp only at h
 conv=>lhs;whnf
 revert h
 refine br ?_ ?_
 refine ca hc (fun _ h=>Dt h) ?_;intro y93
 refine br ?_ ?_
 exact rz
 intro h;cases sj h
 try simp only[ls]
 exact fq (y:=some (AV.tup [AV.agg [iA y7.1,AV.sl 3 (List.take (List.length x41) (List.map Ai x41)),AV.sl 4 (List.take (List.length x65) (List.map Ab x65)),AV.sl 3 (List.take (List.length x91) (List.map Ae x91))],iA (0),iA (0)],[]))
 refine br ?_ ?_
 exact rz
 intro h;cases sj h
 try simp only[ls]
 exact fq (y:=some (AV.tup [AV.agg [iA y7.1,AV.sl 3 (List.take (List.length x41) (List.map Ai x41)),AV.sl 4 (List.take (List.length x65) (List.map Ab x65)),AV.sl 3 (List.take (List.length x91) (List.map Ae x91))],iA (0),iA (0)],[]))
 refine ca hc (fun _ h=>Dt h) ?_;intro y100
 refine ca hc (fun _ h=>Ju h) ?_;intro y102
 refine ca hc (fun _ h=>Ck h) ?_;intro y104
 intro h;refine B1 h ?_;clear h;intro o117 ho117 h
 refine lq (σ:=(Int×Int×Int×(List B9))) (τ:=(Int×Int×Int×(List B9))) (ν:=(Be×Int×Int)) 0 (fun(s106,s107,s108,s109) a111=>Bh 125 [(2,AV.ptr 0 0),(5,AV.sl 4 (List.map B0 y1.1)),(8,AV.ptr 1 0),(9,AV.ptr 2 0)]) (fun(s106,s107,s108,s109) a111=>[Ob.var 26 [iA (0),AV.row 3 (List.length (([]:List B9))),AV.row 4 (List.length (([]:List Am))),AV.row 5 (List.length (([]:List At)))],Ob.var 77 [AV.sl 4 (List.map B0 y1.1),iA s106,iA s107,iA s108],Ob.var 26 [iA y102.1,AV.row 6 (List.length s109),AV.row 7 (List.length (([]:List Am))),AV.row 8 (List.length (([]:List At)))],Ob.row 36 3 ([]),Ob.row 40 4 ([]),Ob.row 45 3 ([]),Ob.row 36 3 (List.map Ai s109),Ob.row 40 4 ([]),Ob.row 45 3 ([])]) (fun(x133,x134,x135,x136) a132=>Bh 125 [(2,AV.ptr 0 0),(5,AV.sl 4 (List.map B0 y1.1)),(8,AV.ptr 1 0),(9,AV.ptr 2 0)]) (fun(x133,x134,x135,x136) a132=>[Ob.var 26 [iA (0),AV.row 3 (List.length (([]:List B9))),AV.row 4 (List.length (([]:List Am))),AV.row 5 (List.length (([]:List At)))],Ob.var 77 [AV.sl 4 (List.map B0 y1.1),iA x133,iA x134,iA x135],Ob.var 26 [iA y102.1,AV.row 6 (List.length x136),AV.row 7 (List.length (([]:List Am))),AV.row 8 (List.length (([]:List At)))],Ob.row 36 3 ([]),Ob.row 40 4 ([]),Ob.row 45 3 ([]),Ob.row 36 3 (List.map Ai x136),Ob.row 40 4 ([]),Ob.row 45 3 ([])]) (fun v=>(AV.tup [AV.agg [iA v.1.Ay,AV.sl 3 (List.map Ai v.1.Ao),AV.sl 4 (List.map Ab v.1.Ad),AV.sl 3 (List.map Ae v.1.Aq)],iA v.2.1,iA v.2.2],[])) (fun k s=>Gn n y1 k s.1 s.2.1 s.2.2.1 s.2.2.2) (fun s=>rfl) o117 n (y104.1,y104.2.1,y104.2.2,([]:List B9)) (fun _=>0) ho117 ?_ ?_
 intro k110 ss a111 K112 cont113 hK114 hcont115 h hr116
 obtain⟨s106,s107,s108,s109⟩:=ss
 replace h:Gn n y1 (k110+1) s106 s107 s108 s109=some o117:=h
 rw[Gn] at h
 conv=>lhs;whnf
 revert h
 refine ca hc (fun _ h=>Gd h) ?_;intro y118
 refine br ?_ ?_
 refine ix ?_;intro x121
 refine ca hc (fun _ h=>J1 h) ?_;intro y122
 refine ca hc (fun _ h=>Ck h) ?_;intro y124
 refine ca hc (fun _ h=>Ju h) ?_;intro y126
 refine ca hc (fun _ h=>Ck h) ?_;intro y128
 refine ar (ap Ai (List.map Ai s109) s109 ([[sA y122.1,iA y126.1,iA x121.A8]]) ([(⟨y122.1,y126.1,x121.A8⟩:B9)]:List B9)) ?_
 exact fun h=>cq (hcont115 (y128.1,y128.2.1,y128.2.2,(s109++([(⟨y122.1,y126.1,x121.A8⟩:B9)]:List B9))) (fun _=>0) h)
 intro h;cases sj h
 exact kq (hr116 (fun _=>0))
 refine lrc ?_ ?_
 intro v e;subst e;cases sj h;rfl
 intro t a132 e;subst e
 obtain⟨x133,x134,x135,x136⟩:=t
 dsimp only at h
 conv=>lhs;whnf
 revert h
 intro h;refine B1 h ?_;clear h;intro o148 ho148 h
 refine lq (σ:=(Int×Int×Int×(List Am))) (τ:=(Int×Int×Int×(List Am))) (ν:=(Be×Int×Int)) 2 (fun(s137,s138,s139,s140) a142=>Bh 125 [(2,AV.ptr 0 0),(5,AV.sl 4 (List.map B0 y1.1)),(8,AV.ptr 1 0),(9,AV.ptr 2 0)]) (fun(s137,s138,s139,s140) a142=>[Ob.var 26 [iA (0),AV.row 3 (List.length (([]:List B9))),AV.row 4 (List.length (([]:List Am))),AV.row 5 (List.length (([]:List At)))],Ob.var 77 [AV.sl 4 (List.map B0 y1.1),iA s137,iA s138,iA s139],Ob.var 26 [iA y102.1,AV.row 6 (List.length x136),AV.row 7 (List.length s140),AV.row 8 (List.length (([]:List At)))],Ob.row 36 3 ([]),Ob.row 40 4 ([]),Ob.row 45 3 ([]),Ob.row 36 3 (List.map Ai x136),Ob.row 40 4 (List.map Ab s140),Ob.row 45 3 ([])]) (fun(x157,x158,x159,x160) a156=>Bh 125 [(2,AV.ptr 0 0),(5,AV.sl 4 (List.map B0 y1.1)),(8,AV.ptr 1 0),(9,AV.ptr 2 0)]) (fun(x157,x158,x159,x160) a156=>[Ob.var 26 [iA (0),AV.row 3 (List.length (([]:List B9))),AV.row 4 (List.length (([]:List Am))),AV.row 5 (List.length (([]:List At)))],Ob.var 77 [AV.sl 4 (List.map B0 y1.1),iA x157,iA x158,iA x159],Ob.var 26 [iA y102.1,AV.row 6 (List.length x136),AV.row 7 (List.length x160),AV.row 8 (List.length (([]:List At)))],Ob.row 36 3 ([]),Ob.row 40 4 ([]),Ob.row 45 3 ([]),Ob.row 36 3 (List.map Ai x136),Ob.row 40 4 (List.map Ab x160),Ob.row 45 3 ([])]) (fun v=>(AV.tup [AV.agg [iA v.1.Ay,AV.sl 3 (List.map Ai v.1.Ao),AV.sl 4 (List.map Ab v.1.Ad),AV.sl 3 (List.map Ae v.1.Aq)],iA v.2.1,iA v.2.2],[])) (fun k s=>H3 n y1 k s.1 s.2.1 s.2.2.1 s.2.2.2) (fun s=>rfl) o148 n (x133,x134,x135,([]:List Am)) (fun _=>0) ho148 ?_ ?_
 intro k141 ss a142 K143 cont144 hK145 hcont146 h hr147
 obtain⟨s137,s138,s139,s140⟩:=ss
 replace h:H3 n y1 (k141+1) s137 s138 s139 s140=some o148:=h
 rw[H3] at h
 conv=>lhs;whnf
 revert h
 refine ca hc (fun _ h=>Gd h) ?_;intro y149
 refine br ?_ ?_
 refine ca hc (fun _ h=>R2 h) ?_;intro y152
 refine ar (ap Ab (List.map Ab s140) s140 ([[sA y152.1.An,AV.sl 1 (List.map Co y152.1.B2),AV.sl 9 (List.map Aj y152.1.Al),iA y152.1.A8]]) ([y152.1]:List Am)) ?_
 exact fun h=>cq (hcont146 (y152.2.1,y152.2.2.1,y152.2.2.2,(s140++([y152.1]:List Am))) (fun _=>0) h)
 intro h;cases sj h
 exact kq (hr147 (fun _=>0))
 refine lrc ?_ ?_
 intro v e;subst e;cases sj h;rfl
 intro t a156 e;subst e
 obtain⟨x157,x158,x159,x160⟩:=t
 dsimp only at h
 conv=>lhs;whnf
 revert h
 intro h;refine B1 h ?_;clear h;intro o172 ho172 h
 refine lq (σ:=(Int×Int×Int×(List At))) (τ:=(Int×Int×Int×(List At))) (ν:=(Be×Int×Int)) 4 (fun(s161,s162,s163,s164) a166=>Bh 125 [(2,AV.ptr 0 0),(5,AV.sl 4 (List.map B0 y1.1)),(8,AV.ptr 1 0),(9,AV.ptr 2 0)]) (fun(s161,s162,s163,s164) a166=>[Ob.var 26 [iA (0),AV.row 3 (List.length (([]:List B9))),AV.row 4 (List.length (([]:List Am))),AV.row 5 (List.length (([]:List At)))],Ob.var 77 [AV.sl 4 (List.map B0 y1.1),iA s161,iA s162,iA s163],Ob.var 26 [iA y102.1,AV.row 6 (List.length x136),AV.row 7 (List.length x160),AV.row 8 (List.length s164)],Ob.row 36 3 ([]),Ob.row 40 4 ([]),Ob.row 45 3 ([]),Ob.row 36 3 (List.map Ai x136),Ob.row 40 4 (List.map Ab x160),Ob.row 45 3 (List.map Ae s164)]) (fun(x183,x184,x185,x186) a182=>Bh 125 [(2,AV.ptr 0 0),(5,AV.sl 4 (List.map B0 y1.1)),(8,AV.ptr 1 0),(9,AV.ptr 2 0)]) (fun(x183,x184,x185,x186) a182=>[Ob.var 26 [iA (0),AV.row 3 (List.length (([]:List B9))),AV.row 4 (List.length (([]:List Am))),AV.row 5 (List.length (([]:List At)))],Ob.var 77 [AV.sl 4 (List.map B0 y1.1),iA x183,iA x184,iA x185],Ob.var 26 [iA y102.1,AV.row 6 (List.length x136),AV.row 7 (List.length x160),AV.row 8 (List.length x186)],Ob.row 36 3 ([]),Ob.row 40 4 ([]),Ob.row 45 3 ([]),Ob.row 36 3 (List.map Ai x136),Ob.row 40 4 (List.map Ab x160),Ob.row 45 3 (List.map Ae x186)]) (fun v=>(AV.tup [AV.agg [iA v.1.Ay,AV.sl 3 (List.map Ai v.1.Ao),AV.sl 4 (List.map Ab v.1.Ad),AV.sl 3 (List.map Ae v.1.Aq)],iA v.2.1,iA v.2.2],[])) (fun k s=>H1 n y1 k s.1 s.2.1 s.2.2.1 s.2.2.2) (fun s=>rfl) o172 n (x157,x158,x159,([]:List At)) (fun _=>0) ho172 ?_ ?_
 intro k165 ss a166 K167 cont168 hK169 hcont170 h hr171
 obtain⟨s161,s162,s163,s164⟩:=ss
 replace h:H1 n y1 (k165+1) s161 s162 s163 s164=some o172:=h
 rw[H1] at h
 conv=>lhs;whnf
 revert h
 refine ca hc (fun _ h=>L0 h) ?_;intro y173
 refine br ?_ ?_
 refine ca hc (fun _ h=>L0 h) ?_;intro y176
 refine ca hc (fun _ h=>Rl h) ?_;intro y178
 refine ar (ap Ae (List.map Ae s164) s164 ([[iA y178.1.Ac,AV.sl 5 (List.map Ak y178.1.B4),iA y178.1.A8]]) ([y178.1]:List At)) ?_
 exact fun h=>cq (hcont170 (y178.2.1,y178.2.2.1,y178.2.2.2,(s164++([y178.1]:List At))) (fun _=>0) h)
 intro h;cases sj h
 exact kq (hr171 (fun _=>0))
 refine lrc ?_ ?_
 intro v e;subst e;cases sj h;rfl
 intro t a182 e;subst e
 obtain⟨x183,x184,x185,x186⟩:=t
 dsimp only at h
 conv=>lhs;whnf
 revert h
 refine br ?_ ?_
 refine ca hc (fun _ h=>Dt h) ?_;intro y188
 refine br ?_ ?_
 exact rz
 intro h;cases sj h
 try simp only[ls]
 exact fq (y:=some (AV.tup [AV.agg [iA y102.1,AV.sl 3 (List.take (List.length x136) (List.map Ai x136)),AV.sl 4 (List.take (List.length x160) (List.map Ab x160)),AV.sl 3 (List.take (List.length x186) (List.map Ae x186))],iA (0),iA (0)],[]))
 refine br ?_ ?_
 exact rz
 intro h;cases sj h
 try simp only[ls]
 exact fq (y:=some (AV.tup [AV.agg [iA y102.1,AV.sl 3 (List.take (List.length x136) (List.map Ai x136)),AV.sl 4 (List.take (List.length x160) (List.map Ab x160)),AV.sl 3 (List.take (List.length x186) (List.map Ae x186))],iA (0),iA (0)],[]))
theorem A0y {n:Nat} ⦃A7:(List Aa)⦄ ⦃r:Bool⦄:Ln n A7=some r→CN n 30 [AV.sl 5 (List.map Ak A7)] []=some (bA r,[]):=by
 intro h;rcases n with _|n;cases h
 rw[Ln] at h
 refine Aw Tryz.func30 (by rfl) rfl rfl (Nat.le_of_ble_eq_true rfl) ?_
 intro call hc;conv=>lhs;whnf
 revert h
 refine ca hc (fun _ h=>Wb h) ?_;intro y1
 intro h;refine B1 h ?_;clear h;intro o11 ho11 h
 refine lq (σ:=Int) (τ:=Unit) (ν:=Bool) 0 (fun s3 a5=>Bh 21 [(0,AV.sl 5 (List.map Ak A7)),(3,AV.sl 5 (List.map Ak y1)),(4,iA s3)]) (fun s3 a5=>[]) (fun _ a15=>Bh 21 [(0,AV.sl 5 (List.map Ak A7))]) (fun _ a15=>[]) (fun v=>(bA v,[])) (fun k s=>G9 n y1 k s) (fun s=>rfl) o11 n 0 (fun _=>0) ho11 ?_ ?_
 intro k4 s3 a5 K6 cont7 hK8 hcont9 h hr10
 replace h:G9 n y1 (k4+1) s3=some o11:=h
 rw[G9] at h
 conv=>lhs;whnf
 revert h
 refine br ?_ ?_
 refine ix ?_;intro x13
 refine br ?_ ?_
 intro h;cases sj h
 refine(hK8 _ _).trans ?_
 refine Eq.trans ?_ (Eq.symm (show _=some _ from hr10))
 conv=>lhs;whnf
 exact rq
 exact fun h=>cq (hcont9 (IntKind.i64.wrap (s3+1)) (fun _=>0) h)
 intro h;cases sj h
 exact kq (hr10 (fun _=>0))
 refine lrc ?_ ?_
 intro v e;subst e;cases sj h;rfl
 intro t a15 e;subst e
 dsimp only at h
 conv=>lhs;whnf
 revert h
 refine ca hc (fun _ h=>We h) ?_;intro y16
 exact rz
theorem A0l {n:Nat} ⦃Dc:Int⦄ ⦃r:Bool⦄:Pb n Dc=some r→CN n 27 [iA Dc] []=some (bA r,[]):=by
 intro h;rcases n with _|n;cases h
 rw[Pb] at h
 refine Aw Tryz.func27 (by rfl) rfl rfl (Nat.le_of_ble_eq_true rfl) ?_
 intro call hc;conv=>lhs;whnf
 revert h
 refine br ?_ ?_
 exact rz
 exact rz
theorem A44 {n:Nat} ⦃A5:Be⦄ ⦃r:Bool⦄:N7 n A5=some r→CN n 12 [AV.agg [iA A5.Ay,AV.sl 3 (List.map Ai A5.Ao),AV.sl 4 (List.map Ab A5.Ad),AV.sl 3 (List.map Ae A5.Aq)]] []=some (bA r,[]):=by
 intro h;rcases n with _|n;cases h
 rw[N7] at h
 refine Aw Tryz.func12 (by rfl) rfl rfl (Nat.le_of_ble_eq_true rfl) ?_
 intro call hc;conv=>lhs;whnf
 revert h
 refine ca hc (fun _ h=>A0l h) ?_;intro y1
 refine br ?_ ?_
 intro h;refine B1 h ?_;clear h;intro o12 ho12 h
 refine lq (σ:=Int) (τ:=Unit) (ν:=Bool) 0 (fun s4 a6=>Bh 119 [(1,AV.ptr 0 0),(3,iA s4)]) (fun s4 a6=>[Ob.var 26 [iA A5.Ay,AV.sl 3 (List.map Ai A5.Ao),AV.sl 4 (List.map Ab A5.Ad),AV.sl 3 (List.map Ae A5.Aq)]]) (fun _ a24=>Bh 119 [(1,AV.ptr 0 0)]) (fun _ a24=>[Ob.var 26 [iA A5.Ay,AV.sl 3 (List.map Ai A5.Ao),AV.sl 4 (List.map Ab A5.Ad),AV.sl 3 (List.map Ae A5.Aq)]]) (fun v=>(bA v,[])) (fun k s=>Gt n A5 k s) (fun s=>rfl) o12 n 0 (fun _=>0) ho12 ?_ ?_
 intro k5 s4 a6 K7 cont8 hK9 hcont10 h hr11
 replace h:Gt n A5 (k5+1) s4=some o12:=h
 rw[Gt] at h
 conv=>lhs;whnf
 revert h
 refine br ?_ ?_
 refine ix ?_;intro x14
 refine ca hc (fun _ h=>Dj h) ?_;intro y15
 refine br ?_ ?_
 refine ix ?_;intro x18
 refine ca hc (fun _ h=>A0l h) ?_;intro y19
 refine br ?_ ?_
 refine ix ?_;intro x22
 refine br ?_ ?_
 intro h;cases sj h
 refine(hK9 _ _).trans ?_
 refine Eq.trans ?_ (Eq.symm (show _=some _ from hr11))
 conv=>lhs;whnf
 exact rq
 exact fun h=>cq (hcont10 (IntKind.i64.wrap (s4+1)) (fun _=>0) h)
 intro h;cases sj h
 refine(hK9 _ _).trans ?_
 refine Eq.trans ?_ (Eq.symm (show _=some _ from hr11))
 conv=>lhs;whnf
 exact rq
 intro h;cases sj h
 refine(hK9 _ _).trans ?_
 refine Eq.trans ?_ (Eq.symm (show _=some _ from hr11))
 conv=>lhs;whnf
 exact rq
 intro h;cases sj h
 exact kq (hr11 (fun _=>0))
 refine lrc ?_ ?_
 intro v e;subst e;cases sj h;rfl
 intro t a24 e;subst e
 dsimp only at h
 conv=>lhs;whnf
 revert h
 intro h;refine B1 h ?_;clear h;intro o33 ho33 h
 refine lq (σ:=Int) (τ:=Unit) (ν:=Bool) 2 (fun s25 a27=>Bh 119 [(1,AV.ptr 0 0),(4,iA s25)]) (fun s25 a27=>[Ob.var 26 [iA A5.Ay,AV.sl 3 (List.map Ai A5.Ao),AV.sl 4 (List.map Ab A5.Ad),AV.sl 3 (List.map Ae A5.Aq)]]) (fun _ a59=>Bh 119 [(1,AV.ptr 0 0)]) (fun _ a59=>[Ob.var 26 [iA A5.Ay,AV.sl 3 (List.map Ai A5.Ao),AV.sl 4 (List.map Ab A5.Ad),AV.sl 3 (List.map Ae A5.Aq)]]) (fun v=>(bA v,[])) (fun k s=>Gy n A5 k s) (fun s=>rfl) o33 n 0 (fun _=>0) ho33 ?_ ?_
 intro k26 s25 a27 K28 cont29 hK30 hcont31 h hr32
 replace h:Gy n A5 (k26+1) s25=some o33:=h
 rw[Gy] at h
 conv=>lhs;whnf
 revert h
 refine br ?_ ?_
 refine ix ?_;intro x35
 refine ca hc (fun _ h=>Dj h) ?_;intro y36
 refine br ?_ ?_
 refine ca hc (fun _ h=>A4k h) ?_;intro y39
 refine br ?_ ?_
 refine br ?_ ?_
 intro h;cases sj h
 refine(hK30 _ _).trans ?_
 refine Eq.trans ?_ (Eq.symm (show _=some _ from hr32))
 conv=>lhs;whnf
 exact rq
 intro h;refine B1 h ?_;clear h;intro o51 ho51 h
 refine lq (σ:=Int) (τ:=Unit) (ν:=Bool) 4 (fun s43 a45=>Bh 119 [(1,AV.ptr 0 0),(4,iA s25),(5,AV.ptr 1 0),(6,iA s43)]) (fun s43 a45=>[Ob.var 26 [iA A5.Ay,AV.sl 3 (List.map Ai A5.Ao),AV.sl 4 (List.map Ab A5.Ad),AV.sl 3 (List.map Ae A5.Aq)],Ob.var 40 [sA x35.An,AV.sl 1 (List.map Co x35.B2),AV.sl 9 (List.map Aj x35.Al),iA x35.A8]]) (fun _ a57=>Bh 119 [(1,AV.ptr 0 0),(4,iA s25)]) (fun _ a57=>[Ob.var 26 [iA A5.Ay,AV.sl 3 (List.map Ai A5.Ao),AV.sl 4 (List.map Ab A5.Ad),AV.sl 3 (List.map Ae A5.Aq)],Ob.var 40 [sA x35.An,AV.sl 1 (List.map Co x35.B2),AV.sl 9 (List.map Aj x35.Al),iA x35.A8]]) (fun v=>(bA v,[])) (fun k s=>Gw n x35 k s) (fun s=>rfl) o51 n 0 (fun _=>0) ho51 ?_ ?_
 intro k44 s43 a45 K46 cont47 hK48 hcont49 h hr50
 replace h:Gw n x35 (k44+1) s43=some o51:=h
 rw[Gw] at h
 conv=>lhs;whnf
 revert h
 refine br ?_ ?_
 refine ix ?_;intro x53
 refine ca hc (fun _ h=>Dj h) ?_;intro y54
 refine br ?_ ?_
 exact fun h=>cq (hcont49 (IntKind.i64.wrap (s43+1)) (fun _=>0) h)
 intro h;cases sj h
 refine(hK48 _ _).trans ?_
 conv=>lhs;whnf
 refine(hK30 _ _).trans ?_
 refine Eq.trans ?_ (Eq.symm (show _=some _ from hr50))
 conv=>lhs;whnf
 exact rq
 intro h;cases sj h
 exact kq (hr50 (fun _=>0))
 refine lrc ?_ ?_
 intro v e;subst e;cases sj h;exact hr32
 intro t a57 e;subst e
 dsimp only at h
 conv=>lhs;whnf
 revert h
 exact fun h=>cq (hcont31 (IntKind.i64.wrap (s25+1)) (fun _=>0) h)
 intro h;cases sj h
 refine(hK30 _ _).trans ?_
 refine Eq.trans ?_ (Eq.symm (show _=some _ from hr32))
 conv=>lhs;whnf
 exact rq
 intro h;cases sj h
 refine(hK30 _ _).trans ?_
 refine Eq.trans ?_ (Eq.symm (show _=some _ from hr32))
 conv=>lhs;whnf
 exact rq
 intro h;cases sj h
 exact kq (hr32 (fun _=>0))
 refine lrc ?_ ?_
 intro v e;subst e;cases sj h;rfl
 intro t a59 e;subst e
 dsimp only at h
 conv=>lhs;whnf
 revert h
 intro h;refine B1 h ?_;clear h;intro o68 ho68 h
 refine lq (σ:=Int) (τ:=Unit) (ν:=Bool) 6 (fun s60 a62=>Bh 119 [(1,AV.ptr 0 0),(7,iA s60)]) (fun s60 a62=>[Ob.var 26 [iA A5.Ay,AV.sl 3 (List.map Ai A5.Ao),AV.sl 4 (List.map Ab A5.Ad),AV.sl 3 (List.map Ae A5.Aq)]]) (fun _ a77=>Bh 119 []) (fun _ a77=>[Ob.var 26 [iA A5.Ay,AV.sl 3 (List.map Ai A5.Ao),AV.sl 4 (List.map Ab A5.Ad),AV.sl 3 (List.map Ae A5.Aq)]]) (fun v=>(bA v,[])) (fun k s=>Gl n A5 k s) (fun s=>rfl) o68 n 0 (fun _=>0) ho68 ?_ ?_
 intro k61 s60 a62 K63 cont64 hK65 hcont66 h hr67
 replace h:Gl n A5 (k61+1) s60=some o68:=h
 rw[Gl] at h
 conv=>lhs;whnf
 revert h
 refine br ?_ ?_
 refine ix ?_;intro x70
 refine br ?_ ?_
 intro h;cases sj h
 refine(hK65 _ _).trans ?_
 refine Eq.trans ?_ (Eq.symm (show _=some _ from hr67))
 conv=>lhs;whnf
 exact rq
 refine br ?_ ?_
 intro h;cases sj h
 refine(hK65 _ _).trans ?_
 refine Eq.trans ?_ (Eq.symm (show _=some _ from hr67))
 conv=>lhs;whnf
 exact rq
 refine ca hc (fun _ h=>A0y h) ?_;intro y73
 refine br ?_ ?_
 refine br ?_ ?_
 intro h;cases sj h
 refine(hK65 _ _).trans ?_
 refine Eq.trans ?_ (Eq.symm (show _=some _ from hr67))
 conv=>lhs;whnf
 exact rq
 exact fun h=>cq (hcont66 (IntKind.i64.wrap (s60+1)) (fun _=>0) h)
 intro h;cases sj h
 refine(hK65 _ _).trans ?_
 refine Eq.trans ?_ (Eq.symm (show _=some _ from hr67))
 conv=>lhs;whnf
 exact rq
 intro h;cases sj h
 exact kq (hr67 (fun _=>0))
 refine lrc ?_ ?_
 intro v e;subst e;cases sj h;rfl
 intro t a77 e;subst e
 dsimp only at h
 conv=>lhs;whnf
 revert h
 exact rz
 exact rz
end Go.Proofs.YtpnhafdimkmbbaaGreat
end
section
namespace Go.Proofs.YtpnhafdimkmbbaaGreat
set_option linter.unusedVariables false
set_option linter.unusedSimpArgs false
set_option maxRecDepth 100000
set_option maxHeartbeats 4000000
theorem Jr {n:Nat} ⦃Bs:(List UInt8)⦄ ⦃r:Be⦄:Fo n Bs=some r→CN n 10 [sA Bs] []=some (AV.agg [iA r.Ay,AV.sl 3 (List.map Ai r.Ao),AV.sl 4 (List.map Ab r.Ad),AV.sl 3 (List.map Ae r.Aq)],[]):=by
 intro h;rcases n with _|n;cases h
 rw[Fo] at h
 refine Aw Tryz.func10 (by rfl) rfl rfl (Nat.le_of_ble_eq_true rfl) ?_
 intro call hc;conv=>lhs;whnf
 revert h
 refine ca hc (fun _ h=>A3w h) ?_;intro y1
 exact rz
end Go.Proofs.YtpnhafdimkmbbaaGreat
end
section
namespace Go.Proofs.YtpnhafdimkmbbaaGreat
set_option linter.unusedVariables false
set_option linter.unusedSimpArgs false
set_option maxRecDepth 100000
set_option maxHeartbeats 4000000
theorem X4 {n:Nat} ⦃r:Bool⦄:Le n=some r→CN n 7 [] []=some (bA r,[]):=by
 intro h;rcases n with _|n;cases h
 rw[Le] at h
 refine Aw Tryz.func7 (by rfl) rfl rfl (Nat.le_of_ble_eq_true rfl) ?_
 intro call hc;conv=>lhs;whnf
 revert h
 refine ca hc (fun _ h=>Jr h) ?_;intro y1
 refine ca hc (fun _ h=>Mn h) ?_;intro y3
 refine ca hc (fun _ h=>Jr h) ?_;intro y5
 refine ca hc (fun _ h=>Mn h) ?_;intro y7
 refine ca hc (fun _ h=>Jr h) ?_;intro y9
 refine ca hc (fun _ h=>Mn h) ?_;intro y11
 refine ca hc (fun _ h=>Jr h) ?_;intro y13
 refine ca hc (fun _ h=>Mn h) ?_;intro y15
 refine br ?_ ?_
 refine br ?_ ?_
 refine br ?_ ?_
 refine br ?_ ?_
 refine br ?_ ?_
 refine br ?_ ?_
 refine br ?_ ?_
 refine br ?_ ?_
 refine cr hc (fun y25 h=>(show CN n 15 [AV.sl 1 [[sA (([97]:List UInt8))],[sA (([98]:List UInt8))]],sA (([98]:List UInt8))] []=some (iA y25,[]) from Wa (r:=y25) h)) ?_;intro y25
 refine br ?_ ?_
 refine cr hc (fun y28 h=>(show CN n 15 [AV.sl 1 [],sA (([98]:List UInt8))] []=some (iA y28,[]) from Wa (r:=y28) h)) ?_;intro y28
 refine br ?_ ?_
 refine ca hc (fun _ h=>Jr h) ?_;intro y31
 refine ca hc (fun _ h=>A66 h) ?_;intro y33
 exact rz
 exact rz
 exact rz
 exact rz
 exact rz
 exact rz
 exact rz
 exact rz
 exact rz
 exact rz
 exact rz
end Go.Proofs.YtpnhafdimkmbbaaGreat
end
section
namespace Go.Proofs.YtpnhafdimkmbbaaGreat
set_option linter.unusedVariables false
set_option linter.unusedSimpArgs false
set_option maxRecDepth 100000
set_option maxHeartbeats 4000000
theorem Dg {n:Nat} ⦃A7:(List (List UInt8))⦄ ⦃Fx:(List UInt8)⦄ ⦃r:Int⦄:D2 n A7 Fx=some r→CN n 43 [AV.sl 1 (List.map Co A7),sA Fx] []=some (iA r,[]):=by
 intro h;rcases n with _|n;cases h
 rw[D2] at h
 refine Aw Tryz.func43 (by rfl) rfl rfl (Nat.le_of_ble_eq_true rfl) ?_
 intro call hc;conv=>lhs;whnf
 revert h
 intro h;refine B1 h ?_;clear h;intro o9 ho9 h
 refine lq (σ:=Int) (τ:=Unit) (ν:=Int) 0 (fun s1 a3=>Bh 19 [(0,AV.sl 1 (List.map Co A7)),(1,sA Fx),(5,iA s1)]) (fun s1 a3=>[]) (fun _ a13=>Bh 19 []) (fun _ a13=>[]) (fun v=>(iA v,[])) (fun k s=>I3 n A7 Fx k s) (fun s=>rfl) o9 n 0 (fun _=>0) ho9 ?_ ?_
 intro k2 s1 a3 K4 cont5 hK6 hcont7 h hr8
 replace h:I3 n A7 Fx (k2+1) s1=some o9:=h
 rw[I3] at h
 conv=>lhs;whnf
 revert h
 refine br ?_ ?_
 refine ix ?_;intro x11
 refine br ?_ ?_
 intro h;cases sj h
 refine(hK6 _ _).trans ?_
 refine Eq.trans ?_ (Eq.symm (show _=some _ from hr8))
 conv=>lhs;whnf
 exact rq
 exact fun h=>cq (hcont7 (IntKind.i64.wrap (s1+1)) (fun _=>0) h)
 intro h;cases sj h
 exact kq (hr8 (fun _=>0))
 refine lrc ?_ ?_
 intro v e;subst e;cases sj h;rfl
 intro t a13 e;subst e
 dsimp only at h
 conv=>lhs;whnf
 revert h
 exact rz
theorem Jx {n:Nat} ⦃A5:Be⦄ ⦃r:(List (List UInt8))⦄:Gb n A5=some r→CN n 42 [AV.agg [iA A5.Ay,AV.sl 3 (List.map Ai A5.Ao),AV.sl 4 (List.map Ab A5.Ad),AV.sl 3 (List.map Ae A5.Aq)]] []=some (AV.sl 1 (List.map Co r),[]):=by
 intro h;rcases n with _|n;cases h
 rw[Gb] at h
 refine Aw Tryz.func42 (by rfl) rfl rfl (Nat.le_of_ble_eq_true rfl) ?_
 intro call hc;conv=>lhs;whnf
 revert h
 intro h;refine B1 h ?_;clear h;intro o10 ho10 h
 refine lq (σ:=(Int×(List (List UInt8)))) (τ:=(List (List UInt8))) (ν:=(List (List UInt8))) 0 (fun(s1,s2) a4=>Bh 22 [(1,AV.ptr 0 0),(3,AV.row 1 (List.length s2)),(4,iA s1)]) (fun(s1,s2) a4=>[Ob.var 26 [iA A5.Ay,AV.sl 3 (List.map Ai A5.Ao),AV.sl 4 (List.map Ab A5.Ad),AV.sl 3 (List.map Ae A5.Aq)],Ob.row 9 1 (List.map Co s2)]) (fun x16 a15=>Bh 22 [(3,AV.row 1 (List.length x16))]) (fun x16 a15=>[Ob.var 26 [iA A5.Ay,AV.sl 3 (List.map Ai A5.Ao),AV.sl 4 (List.map Ab A5.Ad),AV.sl 3 (List.map Ae A5.Aq)],Ob.row 9 1 (List.map Co x16)]) (fun v=>(AV.sl 1 (List.map Co v),[])) (fun k s=>Iq n A5 k s.1 s.2) (fun s=>rfl) o10 n (0,([]:List (List UInt8))) (fun _=>0) ho10 ?_ ?_
 intro k3 ss a4 K5 cont6 hK7 hcont8 h hr9
 obtain⟨s1,s2⟩:=ss
 replace h:Iq n A5 (k3+1) s1 s2=some o10:=h
 rw[Iq] at h
 conv=>lhs;whnf
 revert h
 refine br ?_ ?_
 refine ix ?_;intro x12
 refine ar (ap Co (List.map Co s2) s2 ([[sA x12.An]]) ([x12.An]:List (List UInt8))) ?_
 exact fun h=>cq (hcont8 (IntKind.i64.wrap (s1+1),(s2++([x12.An]:List (List UInt8)))) (fun _=>0) h)
 intro h;cases sj h
 exact kq (hr9 (fun _=>0))
 refine lrc ?_ ?_
 intro v e;subst e;cases sj h;rfl
 intro x16 a15 e;subst e
 dsimp only at h
 conv=>lhs;whnf
 revert h
 intro h;obtain rfl:=sj h
 try simp only[ls]
 exact fq (y:=some (AV.sl 1 (List.take (List.length x16) (List.map Co x16)),[]))
theorem Qm {n:Nat} ⦃A5:Be⦄ ⦃r:(List (List UInt8))⦄:Ii n A5=some r→CN n 44 [AV.agg [iA A5.Ay,AV.sl 3 (List.map Ai A5.Ao),AV.sl 4 (List.map Ab A5.Ad),AV.sl 3 (List.map Ae A5.Aq)]] []=some (AV.sl 1 (List.map Co r),[]):=by
 intro h;rcases n with _|n;cases h
 rw[Ii] at h
 refine Aw Tryz.func44 (by rfl) rfl rfl (Nat.le_of_ble_eq_true rfl) ?_
 intro call hc;conv=>lhs;whnf
 revert h
 intro h;refine B1 h ?_;clear h;intro o10 ho10 h
 refine lq (σ:=(Int×(List (List UInt8)))) (τ:=(List (List UInt8))) (ν:=(List (List UInt8))) 0 (fun(s1,s2) a4=>Bh 22 [(1,AV.ptr 0 0),(3,AV.row 1 (List.length s2)),(4,iA s1)]) (fun(s1,s2) a4=>[Ob.var 26 [iA A5.Ay,AV.sl 3 (List.map Ai A5.Ao),AV.sl 4 (List.map Ab A5.Ad),AV.sl 3 (List.map Ae A5.Aq)],Ob.row 9 1 (List.map Co s2)]) (fun x16 a15=>Bh 22 [(3,AV.row 1 (List.length x16))]) (fun x16 a15=>[Ob.var 26 [iA A5.Ay,AV.sl 3 (List.map Ai A5.Ao),AV.sl 4 (List.map Ab A5.Ad),AV.sl 3 (List.map Ae A5.Aq)],Ob.row 9 1 (List.map Co x16)]) (fun v=>(AV.sl 1 (List.map Co v),[])) (fun k s=>Ge n A5 k s.1 s.2) (fun s=>rfl) o10 n (0,([]:List (List UInt8))) (fun _=>0) ho10 ?_ ?_
 intro k3 ss a4 K5 cont6 hK7 hcont8 h hr9
 obtain⟨s1,s2⟩:=ss
 replace h:Ge n A5 (k3+1) s1 s2=some o10:=h
 rw[Ge] at h
 conv=>lhs;whnf
 revert h
 refine br ?_ ?_
 refine ix ?_;intro x12
 refine ar (ap Co (List.map Co s2) s2 ([[sA x12.An]]) ([x12.An]:List (List UInt8))) ?_
 exact fun h=>cq (hcont8 (IntKind.i64.wrap (s1+1),(s2++([x12.An]:List (List UInt8)))) (fun _=>0) h)
 intro h;cases sj h
 exact kq (hr9 (fun _=>0))
 refine lrc ?_ ?_
 intro v e;subst e;cases sj h;rfl
 intro x16 a15 e;subst e
 dsimp only at h
 conv=>lhs;whnf
 revert h
 intro h;obtain rfl:=sj h
 try simp only[ls]
 exact fq (y:=some (AV.sl 1 (List.take (List.length x16) (List.map Co x16)),[]))
theorem A2n {n:Nat} ⦃A5:Be⦄ ⦃r:(Int×Int)⦄:M7 n A5=some r→CN n 24 [AV.agg [iA A5.Ay,AV.sl 3 (List.map Ai A5.Ao),AV.sl 4 (List.map Ab A5.Ad),AV.sl 3 (List.map Ae A5.Aq)]] []=some (AV.tup [iA r.1,iA r.2],[]):=by
 intro h;rcases n with _|n;cases h
 rw[M7] at h
 refine Aw Tryz.func24 (by rfl) rfl rfl (Nat.le_of_ble_eq_true rfl) ?_
 intro call hc;conv=>lhs;whnf
 revert h
 intro h;refine B1 h ?_;clear h;intro o9 ho9 h
 refine lq (σ:=Int) (τ:=Unit) (ν:=(Int×Int)) 0 (fun s1 a3=>Bh 89 [(1,AV.ptr 0 0),(4,iA s1)]) (fun s1 a3=>[Ob.var 26 [iA A5.Ay,AV.sl 3 (List.map Ai A5.Ao),AV.sl 4 (List.map Ab A5.Ad),AV.sl 3 (List.map Ae A5.Aq)]]) (fun _ a61=>Bh 89 []) (fun _ a61=>[Ob.var 26 [iA A5.Ay,AV.sl 3 (List.map Ai A5.Ao),AV.sl 4 (List.map Ab A5.Ad),AV.sl 3 (List.map Ae A5.Aq)]]) (fun v=>(AV.tup [iA v.1,iA v.2],[])) (fun k s=>Hd n A5 k s) (fun s=>rfl) o9 n 0 (fun _=>0) ho9 ?_ ?_
 intro k2 s1 a3 K4 cont5 hK6 hcont7 h hr8
 replace h:Hd n A5 (k2+1) s1=some o9:=h
 rw[Hd] at h
 conv=>lhs;whnf
 revert h
 refine br ?_ ?_
 refine br ?_ ?_
 refine ix ?_;intro x12
 intro h;cases sj h
 refine(hK6 _ _).trans ?_
 refine Eq.trans ?_ (Eq.symm (show _=some _ from hr8))
 conv=>lhs;whnf
 exact rq
 refine ix ?_;intro x13
 intro h;refine B1 h ?_;clear h;intro o22 ho22 h
 refine lq (σ:=Int) (τ:=Unit) (ν:=(Int×Int)) 2 (fun s14 a16=>Bh 89 [(1,AV.ptr 0 0),(4,iA s1),(5,AV.sl 5 (List.map Ak x13.B4)),(6,iA s14)]) (fun s14 a16=>[Ob.var 26 [iA A5.Ay,AV.sl 3 (List.map Ai A5.Ao),AV.sl 4 (List.map Ab A5.Ad),AV.sl 3 (List.map Ae A5.Aq)]]) (fun _ a59=>Bh 89 [(1,AV.ptr 0 0),(4,iA s1)]) (fun _ a59=>[Ob.var 26 [iA A5.Ay,AV.sl 3 (List.map Ai A5.Ao),AV.sl 4 (List.map Ab A5.Ad),AV.sl 3 (List.map Ae A5.Aq)]]) (fun v=>(AV.tup [iA v.1,iA v.2],[])) (fun k s=>D8 n A5 x13 k s) (fun s=>rfl) o22 n 0 (fun _=>0) ho22 ?_ ?_
 intro k15 s14 a16 K17 cont18 hK19 hcont20 h hr21
 replace h:D8 n A5 x13 (k15+1) s14=some o22:=h
 rw[D8] at h
 conv=>lhs;whnf
 revert h
 refine br ?_ ?_
 refine ix ?_;intro x24
 refine br ?_ ?_
 refine ca hc (fun _ h=>Jx h) ?_;intro y26
 refine ca hc (fun _ h=>Dg h) ?_;intro y28
 refine br ?_ ?_
 intro h;cases sj h
 refine(hK19 _ _).trans ?_
 conv=>lhs;whnf
 refine(hK6 _ _).trans ?_
 refine Eq.trans ?_ (Eq.symm (show _=some _ from hr21))
 conv=>lhs;whnf
 exact rq
 refine br ?_ ?_
 refine ca hc (fun _ h=>Qm h) ?_;intro y32
 refine ca hc (fun _ h=>Dg h) ?_;intro y34
 refine br ?_ ?_
 intro h;cases sj h
 refine(hK19 _ _).trans ?_
 conv=>lhs;whnf
 refine(hK6 _ _).trans ?_
 refine Eq.trans ?_ (Eq.symm (show _=some _ from hr21))
 conv=>lhs;whnf
 exact rq
 refine ix ?_;intro x37
 refine ca hc (fun _ h=>Dg h) ?_;intro y38
 refine br ?_ ?_
 intro h;cases sj h
 refine(hK19 _ _).trans ?_
 conv=>lhs;whnf
 refine(hK6 _ _).trans ?_
 refine Eq.trans ?_ (Eq.symm (show _=some _ from hr21))
 conv=>lhs;whnf
 exact rq
 refine br ?_ ?_
 refine br ?_ ?_
 intro h;cases sj h
 refine(hK19 _ _).trans ?_
 conv=>lhs;whnf
 refine(hK6 _ _).trans ?_
 refine Eq.trans ?_ (Eq.symm (show _=some _ from hr21))
 conv=>lhs;whnf
 exact rq
 exact fun h=>cq (hcont20 (IntKind.i64.wrap (s14+1)) (fun _=>0) h)
 exact fun h=>cq (hcont20 (IntKind.i64.wrap (s14+1)) (fun _=>0) h)
 refine br ?_ ?_
 refine br ?_ ?_
 intro h;cases sj h
 refine(hK19 _ _).trans ?_
 conv=>lhs;whnf
 refine(hK6 _ _).trans ?_
 refine Eq.trans ?_ (Eq.symm (show _=some _ from hr21))
 conv=>lhs;whnf
 exact rq
 exact fun h=>cq (hcont20 (IntKind.i64.wrap (s14+1)) (fun _=>0) h)
 exact fun h=>cq (hcont20 (IntKind.i64.wrap (s14+1)) (fun _=>0) h)
 refine br ?_ ?_
 refine ca hc (fun _ h=>Qm h) ?_;intro y46
 refine ca hc (fun _ h=>Dg h) ?_;intro y48
 refine br ?_ ?_
 intro h;cases sj h
 refine(hK19 _ _).trans ?_
 conv=>lhs;whnf
 refine(hK6 _ _).trans ?_
 refine Eq.trans ?_ (Eq.symm (show _=some _ from hr21))
 conv=>lhs;whnf
 exact rq
 refine ix ?_;intro x51
 refine ca hc (fun _ h=>Dg h) ?_;intro y52
 refine br ?_ ?_
 intro h;cases sj h
 refine(hK19 _ _).trans ?_
 conv=>lhs;whnf
 refine(hK6 _ _).trans ?_
 refine Eq.trans ?_ (Eq.symm (show _=some _ from hr21))
 conv=>lhs;whnf
 exact rq
 refine br ?_ ?_
 refine br ?_ ?_
 intro h;cases sj h
 refine(hK19 _ _).trans ?_
 conv=>lhs;whnf
 refine(hK6 _ _).trans ?_
 refine Eq.trans ?_ (Eq.symm (show _=some _ from hr21))
 conv=>lhs;whnf
 exact rq
 exact fun h=>cq (hcont20 (IntKind.i64.wrap (s14+1)) (fun _=>0) h)
 exact fun h=>cq (hcont20 (IntKind.i64.wrap (s14+1)) (fun _=>0) h)
 refine br ?_ ?_
 refine br ?_ ?_
 intro h;cases sj h
 refine(hK19 _ _).trans ?_
 conv=>lhs;whnf
 refine(hK6 _ _).trans ?_
 refine Eq.trans ?_ (Eq.symm (show _=some _ from hr21))
 conv=>lhs;whnf
 exact rq
 exact fun h=>cq (hcont20 (IntKind.i64.wrap (s14+1)) (fun _=>0) h)
 exact fun h=>cq (hcont20 (IntKind.i64.wrap (s14+1)) (fun _=>0) h)
 intro h;cases sj h
 exact kq (hr21 (fun _=>0))
 refine lrc ?_ ?_
 intro v e;subst e;cases sj h;exact hr8
 intro t a59 e;subst e
 dsimp only at h
 conv=>lhs;whnf
 revert h
 exact fun h=>cq (hcont7 (IntKind.i64.wrap (s1+1)) (fun _=>0) h)
 intro h;cases sj h
 exact kq (hr8 (fun _=>0))
 refine lrc ?_ ?_
 intro v e;subst e;cases sj h;rfl
 intro t a61 e;subst e
 dsimp only at h
 conv=>lhs;whnf
 revert h
 exact rz
theorem A5z {n:Nat} ⦃A5:Be⦄ ⦃r:(Int×Int)⦄:Oa n A5=some r→CN n 22 [AV.agg [iA A5.Ay,AV.sl 3 (List.map Ai A5.Ao),AV.sl 4 (List.map Ab A5.Ad),AV.sl 3 (List.map Ae A5.Aq)]] []=some (AV.tup [iA r.1,iA r.2],[]):=by
 intro h;rcases n with _|n;cases h
 rw[Oa] at h
 refine Aw Tryz.func22 (by rfl) rfl rfl (Nat.le_of_ble_eq_true rfl) ?_
 intro call hc;conv=>lhs;whnf
 revert h
 refine ca hc (fun _ h=>Jx h) ?_;intro y1
 intro h;refine B1 h ?_;clear h;intro o11 ho11 h
 refine lq (σ:=Int) (τ:=Unit) (ν:=(Int×Int)) 0 (fun s3 a5=>Bh 40 [(1,AV.ptr 0 0),(4,AV.sl 1 (List.map Co y1)),(5,iA s3)]) (fun s3 a5=>[Ob.var 26 [iA A5.Ay,AV.sl 3 (List.map Ai A5.Ao),AV.sl 4 (List.map Ab A5.Ad),AV.sl 3 (List.map Ae A5.Aq)]]) (fun _ a19=>Bh 40 []) (fun _ a19=>[Ob.var 26 [iA A5.Ay,AV.sl 3 (List.map Ai A5.Ao),AV.sl 4 (List.map Ab A5.Ad),AV.sl 3 (List.map Ae A5.Aq)]]) (fun v=>(AV.tup [iA v.1,iA v.2],[])) (fun k s=>It n A5 y1 k s) (fun s=>rfl) o11 n 0 (fun _=>0) ho11 ?_ ?_
 intro k4 s3 a5 K6 cont7 hK8 hcont9 h hr10
 replace h:It n A5 y1 (k4+1) s3=some o11:=h
 rw[It] at h
 conv=>lhs;whnf
 revert h
 refine br ?_ ?_
 refine ix ?_;intro x13
 refine br ?_ ?_
 intro h;cases sj h
 refine(hK8 _ _).trans ?_
 refine Eq.trans ?_ (Eq.symm (show _=some _ from hr10))
 conv=>lhs;whnf
 exact rq
 refine ca hc (fun _ h=>Dg h) ?_;intro y15
 refine br ?_ ?_
 intro h;cases sj h
 refine(hK8 _ _).trans ?_
 refine Eq.trans ?_ (Eq.symm (show _=some _ from hr10))
 conv=>lhs;whnf
 exact rq
 refine br ?_ ?_
 intro h;cases sj h
 refine(hK8 _ _).trans ?_
 refine Eq.trans ?_ (Eq.symm (show _=some _ from hr10))
 conv=>lhs;whnf
 exact rq
 exact fun h=>cq (hcont9 (IntKind.i64.wrap (s3+1)) (fun _=>0) h)
 intro h;cases sj h
 exact kq (hr10 (fun _=>0))
 refine lrc ?_ ?_
 intro v e;subst e;cases sj h;rfl
 intro t a19 e;subst e
 dsimp only at h
 conv=>lhs;whnf
 revert h
 exact rz
theorem A39 {n:Nat} ⦃A7:(List A0)⦄ ⦃Cj:Int⦄ ⦃r:Bool⦄:Mc n A7 Cj=some r→CN n 72 [AV.sl 9 (List.map Aj A7),iA Cj] []=some (bA r,[]):=by
 intro h;rcases n with _|n;cases h
 rw[Mc] at h
 refine Aw Tryz.func72 (by rfl) rfl rfl (Nat.le_of_ble_eq_true rfl) ?_
 intro call hc;conv=>lhs;whnf
 revert h
 intro h;refine B1 h ?_;clear h;intro o9 ho9 h
 refine lq (σ:=Int) (τ:=Unit) (ν:=Bool) 0 (fun s1 a3=>Bh 36 [(0,AV.sl 9 (List.map Aj A7)),(1,iA Cj),(5,iA s1)]) (fun s1 a3=>[]) (fun _ a19=>Bh 36 []) (fun _ a19=>[]) (fun v=>(bA v,[])) (fun k s=>Fb n A7 Cj k s) (fun s=>rfl) o9 n 0 (fun _=>0) ho9 ?_ ?_
 intro k2 s1 a3 K4 cont5 hK6 hcont7 h hr8
 replace h:Fb n A7 Cj (k2+1) s1=some o9:=h
 rw[Fb] at h
 conv=>lhs;whnf
 revert h
 refine br ?_ ?_
 refine ix ?_;intro x11
 refine br ?_ ?_
 refine ix ?_;intro x13
 refine br ?_ ?_
 intro h;cases sj h
 refine(hK6 _ _).trans ?_
 refine Eq.trans ?_ (Eq.symm (show _=some _ from hr8))
 conv=>lhs;whnf
 exact rq
 exact fun h=>cq (hcont7 (IntKind.i64.wrap (s1+1)) (fun _=>0) h)
 refine ix ?_;intro x15
 refine br ?_ ?_
 refine ix ?_;intro x17
 refine br ?_ ?_
 intro h;cases sj h
 refine(hK6 _ _).trans ?_
 refine Eq.trans ?_ (Eq.symm (show _=some _ from hr8))
 conv=>lhs;whnf
 exact rq
 exact fun h=>cq (hcont7 (IntKind.i64.wrap (s1+1)) (fun _=>0) h)
 exact fun h=>cq (hcont7 (IntKind.i64.wrap (s1+1)) (fun _=>0) h)
 intro h;cases sj h
 exact kq (hr8 (fun _=>0))
 refine lrc ?_ ?_
 intro v e;subst e;cases sj h;rfl
 intro t a19 e;subst e
 dsimp only at h
 conv=>lhs;whnf
 revert h
 exact rz
theorem Dh {n:Nat} ⦃A5:Be⦄ ⦃Km:(List (List UInt8))⦄ ⦃La:(List Aa)⦄ ⦃r:(Int×Int)⦄:D1 n A5 Km La=some r→CN n 73 [AV.agg [iA A5.Ay,AV.sl 3 (List.map Ai A5.Ao),AV.sl 4 (List.map Ab A5.Ad),AV.sl 3 (List.map Ae A5.Aq)],AV.sl 1 (List.map Co Km),AV.sl 5 (List.map Ak La)] []=some (AV.tup [iA r.1,iA r.2],[]):=by
 intro h;rcases n with _|n;cases h
 rw[D1] at h
 refine Aw Tryz.func73 (by rfl) rfl rfl (Nat.le_of_ble_eq_true rfl) ?_
 intro call hc;conv=>lhs;whnf
 revert h
 intro h;refine B1 h ?_;clear h;intro o9 ho9 h
 refine lq (σ:=Int) (τ:=Unit) (ν:=(Int×Int)) 0 (fun s1 a3=>Bh 57 [(1,AV.sl 1 (List.map Co Km)),(2,AV.sl 5 (List.map Ak La)),(3,AV.ptr 0 0),(8,iA s1)]) (fun s1 a3=>[Ob.var 26 [iA A5.Ay,AV.sl 3 (List.map Ai A5.Ao),AV.sl 4 (List.map Ab A5.Ad),AV.sl 3 (List.map Ae A5.Aq)]]) (fun _ a28=>Bh 57 []) (fun _ a28=>[Ob.var 26 [iA A5.Ay,AV.sl 3 (List.map Ai A5.Ao),AV.sl 4 (List.map Ab A5.Ad),AV.sl 3 (List.map Ae A5.Aq)]]) (fun v=>(AV.tup [iA v.1,iA v.2],[])) (fun k s=>F4 n A5 Km La k s) (fun s=>rfl) o9 n 0 (fun _=>0) ho9 ?_ ?_
 intro k2 s1 a3 K4 cont5 hK6 hcont7 h hr8
 replace h:F4 n A5 Km La (k2+1) s1=some o9:=h
 rw[F4] at h
 conv=>lhs;whnf
 revert h
 refine br ?_ ?_
 refine ix ?_;intro x11
 refine br ?_ ?_
 refine ix ?_;intro x13
 refine ca hc (fun _ h=>Dg h) ?_;intro y14
 refine br ?_ ?_
 refine ix ?_;intro x17
 intro h;cases sj h
 refine(hK6 _ _).trans ?_
 refine Eq.trans ?_ (Eq.symm (show _=some _ from hr8))
 conv=>lhs;whnf
 exact rq
 refine ix ?_;intro x18
 refine br ?_ ?_
 refine ix ?_;intro x20
 refine br ?_ ?_
 refine ix ?_;intro x22
 intro h;cases sj h
 refine(hK6 _ _).trans ?_
 refine Eq.trans ?_ (Eq.symm (show _=some _ from hr8))
 conv=>lhs;whnf
 exact rq
 exact fun h=>cq (hcont7 (IntKind.i64.wrap (s1+1)) (fun _=>0) h)
 exact fun h=>cq (hcont7 (IntKind.i64.wrap (s1+1)) (fun _=>0) h)
 refine ix ?_;intro x23
 refine br ?_ ?_
 refine ix ?_;intro x25
 refine br ?_ ?_
 refine ix ?_;intro x27
 intro h;cases sj h
 refine(hK6 _ _).trans ?_
 refine Eq.trans ?_ (Eq.symm (show _=some _ from hr8))
 conv=>lhs;whnf
 exact rq
 exact fun h=>cq (hcont7 (IntKind.i64.wrap (s1+1)) (fun _=>0) h)
 exact fun h=>cq (hcont7 (IntKind.i64.wrap (s1+1)) (fun _=>0) h)
 intro h;cases sj h
 exact kq (hr8 (fun _=>0))
 refine lrc ?_ ?_
 intro v e;subst e;cases sj h;rfl
 intro t a28 e;subst e
 dsimp only at h
 conv=>lhs;whnf
 revert h
 exact rz
theorem A5y {n:Nat} ⦃A5:Be⦄ ⦃Br:Am⦄ ⦃r:(Int×Int)⦄:Or n A5 Br=some r→CN n 45 [AV.agg [iA A5.Ay,AV.sl 3 (List.map Ai A5.Ao),AV.sl 4 (List.map Ab A5.Ad),AV.sl 3 (List.map Ae A5.Aq)],AV.agg [sA Br.An,AV.sl 1 (List.map Co Br.B2),AV.sl 9 (List.map Aj Br.Al),iA Br.A8]] []=some (AV.tup [iA r.1,iA r.2],[]):=by
 intro h;rcases n with _|n;cases h
 rw[Or] at h
 refine Aw Tryz.func45 (by rfl) rfl rfl (Nat.le_of_ble_eq_true rfl) ?_
 intro call hc;conv=>lhs;whnf
 revert h
 intro h;refine B1 h ?_;clear h;intro o9 ho9 h
 refine lq (σ:=Int) (τ:=Unit) (ν:=(Int×Int)) 0 (fun s1 a3=>Bh 88 [(2,AV.ptr 0 0),(3,AV.ptr 1 0),(6,iA s1)]) (fun s1 a3=>[Ob.var 26 [iA A5.Ay,AV.sl 3 (List.map Ai A5.Ao),AV.sl 4 (List.map Ab A5.Ad),AV.sl 3 (List.map Ae A5.Aq)],Ob.var 40 [sA Br.An,AV.sl 1 (List.map Co Br.B2),AV.sl 9 (List.map Aj Br.Al),iA Br.A8]]) (fun _ a96=>Bh 88 []) (fun _ a96=>[Ob.var 26 [iA A5.Ay,AV.sl 3 (List.map Ai A5.Ao),AV.sl 4 (List.map Ab A5.Ad),AV.sl 3 (List.map Ae A5.Aq)],Ob.var 40 [sA Br.An,AV.sl 1 (List.map Co Br.B2),AV.sl 9 (List.map Aj Br.Al),iA Br.A8]]) (fun v=>(AV.tup [iA v.1,iA v.2],[])) (fun k s=>Dy n A5 Br k s) (fun s=>rfl) o9 n 0 (fun _=>0) ho9 ?_ ?_
 intro k2 s1 a3 K4 cont5 hK6 hcont7 h hr8
 replace h:Dy n A5 Br (k2+1) s1=some o9:=h
 rw[Dy] at h
 conv=>lhs;whnf
 revert h
 refine br ?_ ?_
 refine ix ?_;intro x11
 refine br ?_ ?_
 refine ca hc (fun _ h=>A39 h) ?_;intro y13
 refine br ?_ ?_
 refine br ?_ ?_
 refine br ?_ ?_
 refine ca hc (fun _ h=>Dh h) ?_;intro y18
 refine br ?_ ?_
 intro h;cases sj h
 refine(hK6 _ _).trans ?_
 refine Eq.trans ?_ (Eq.symm (show _=some _ from hr8))
 conv=>lhs;whnf
 exact rq
 refine ca hc (fun _ h=>Dh h) ?_;intro y21
 refine br ?_ ?_
 intro h;cases sj h
 refine(hK6 _ _).trans ?_
 refine Eq.trans ?_ (Eq.symm (show _=some _ from hr8))
 conv=>lhs;whnf
 exact rq
 exact fun h=>cq (hcont7 (IntKind.i64.wrap (s1+1)) (fun _=>0) h)
 refine ca hc (fun _ h=>Jx h) ?_;intro y24
 refine ca hc (fun _ h=>Dg h) ?_;intro y26
 refine br ?_ ?_
 intro h;cases sj h
 refine(hK6 _ _).trans ?_
 refine Eq.trans ?_ (Eq.symm (show _=some _ from hr8))
 conv=>lhs;whnf
 exact rq
 refine ca hc (fun _ h=>Dh h) ?_;intro y29
 refine br ?_ ?_
 intro h;cases sj h
 refine(hK6 _ _).trans ?_
 refine Eq.trans ?_ (Eq.symm (show _=some _ from hr8))
 conv=>lhs;whnf
 exact rq
 refine ca hc (fun _ h=>Dh h) ?_;intro y32
 refine br ?_ ?_
 intro h;cases sj h
 refine(hK6 _ _).trans ?_
 refine Eq.trans ?_ (Eq.symm (show _=some _ from hr8))
 conv=>lhs;whnf
 exact rq
 exact fun h=>cq (hcont7 (IntKind.i64.wrap (s1+1)) (fun _=>0) h)
 refine ca hc (fun _ h=>Dg h) ?_;intro y35
 refine br ?_ ?_
 intro h;cases sj h
 refine(hK6 _ _).trans ?_
 refine Eq.trans ?_ (Eq.symm (show _=some _ from hr8))
 conv=>lhs;whnf
 exact rq
 refine br ?_ ?_
 refine ca hc (fun _ h=>Dh h) ?_;intro y39
 refine br ?_ ?_
 intro h;cases sj h
 refine(hK6 _ _).trans ?_
 refine Eq.trans ?_ (Eq.symm (show _=some _ from hr8))
 conv=>lhs;whnf
 exact rq
 refine ca hc (fun _ h=>Dh h) ?_;intro y42
 refine br ?_ ?_
 intro h;cases sj h
 refine(hK6 _ _).trans ?_
 refine Eq.trans ?_ (Eq.symm (show _=some _ from hr8))
 conv=>lhs;whnf
 exact rq
 exact fun h=>cq (hcont7 (IntKind.i64.wrap (s1+1)) (fun _=>0) h)
 refine ca hc (fun _ h=>Jx h) ?_;intro y45
 refine ca hc (fun _ h=>Dg h) ?_;intro y47
 refine br ?_ ?_
 intro h;cases sj h
 refine(hK6 _ _).trans ?_
 refine Eq.trans ?_ (Eq.symm (show _=some _ from hr8))
 conv=>lhs;whnf
 exact rq
 refine ca hc (fun _ h=>Dh h) ?_;intro y50
 refine br ?_ ?_
 intro h;cases sj h
 refine(hK6 _ _).trans ?_
 refine Eq.trans ?_ (Eq.symm (show _=some _ from hr8))
 conv=>lhs;whnf
 exact rq
 refine ca hc (fun _ h=>Dh h) ?_;intro y53
 refine br ?_ ?_
 intro h;cases sj h
 refine(hK6 _ _).trans ?_
 refine Eq.trans ?_ (Eq.symm (show _=some _ from hr8))
 conv=>lhs;whnf
 exact rq
 exact fun h=>cq (hcont7 (IntKind.i64.wrap (s1+1)) (fun _=>0) h)
 intro h;cases sj h
 refine(hK6 _ _).trans ?_
 refine Eq.trans ?_ (Eq.symm (show _=some _ from hr8))
 conv=>lhs;whnf
 exact rq
 refine br ?_ ?_
 refine br ?_ ?_
 refine ca hc (fun _ h=>Dh h) ?_;intro y58
 refine br ?_ ?_
 intro h;cases sj h
 refine(hK6 _ _).trans ?_
 refine Eq.trans ?_ (Eq.symm (show _=some _ from hr8))
 conv=>lhs;whnf
 exact rq
 refine ca hc (fun _ h=>Dh h) ?_;intro y61
 refine br ?_ ?_
 intro h;cases sj h
 refine(hK6 _ _).trans ?_
 refine Eq.trans ?_ (Eq.symm (show _=some _ from hr8))
 conv=>lhs;whnf
 exact rq
 exact fun h=>cq (hcont7 (IntKind.i64.wrap (s1+1)) (fun _=>0) h)
 refine ca hc (fun _ h=>Jx h) ?_;intro y64
 refine ca hc (fun _ h=>Dg h) ?_;intro y66
 refine br ?_ ?_
 intro h;cases sj h
 refine(hK6 _ _).trans ?_
 refine Eq.trans ?_ (Eq.symm (show _=some _ from hr8))
 conv=>lhs;whnf
 exact rq
 refine ca hc (fun _ h=>Dh h) ?_;intro y69
 refine br ?_ ?_
 intro h;cases sj h
 refine(hK6 _ _).trans ?_
 refine Eq.trans ?_ (Eq.symm (show _=some _ from hr8))
 conv=>lhs;whnf
 exact rq
 refine ca hc (fun _ h=>Dh h) ?_;intro y72
 refine br ?_ ?_
 intro h;cases sj h
 refine(hK6 _ _).trans ?_
 refine Eq.trans ?_ (Eq.symm (show _=some _ from hr8))
 conv=>lhs;whnf
 exact rq
 exact fun h=>cq (hcont7 (IntKind.i64.wrap (s1+1)) (fun _=>0) h)
 refine ca hc (fun _ h=>Dg h) ?_;intro y75
 refine br ?_ ?_
 intro h;cases sj h
 refine(hK6 _ _).trans ?_
 refine Eq.trans ?_ (Eq.symm (show _=some _ from hr8))
 conv=>lhs;whnf
 exact rq
 refine br ?_ ?_
 refine ca hc (fun _ h=>Dh h) ?_;intro y79
 refine br ?_ ?_
 intro h;cases sj h
 refine(hK6 _ _).trans ?_
 refine Eq.trans ?_ (Eq.symm (show _=some _ from hr8))
 conv=>lhs;whnf
 exact rq
 refine ca hc (fun _ h=>Dh h) ?_;intro y82
 refine br ?_ ?_
 intro h;cases sj h
 refine(hK6 _ _).trans ?_
 refine Eq.trans ?_ (Eq.symm (show _=some _ from hr8))
 conv=>lhs;whnf
 exact rq
 exact fun h=>cq (hcont7 (IntKind.i64.wrap (s1+1)) (fun _=>0) h)
 refine ca hc (fun _ h=>Jx h) ?_;intro y85
 refine ca hc (fun _ h=>Dg h) ?_;intro y87
 refine br ?_ ?_
 intro h;cases sj h
 refine(hK6 _ _).trans ?_
 refine Eq.trans ?_ (Eq.symm (show _=some _ from hr8))
 conv=>lhs;whnf
 exact rq
 refine ca hc (fun _ h=>Dh h) ?_;intro y90
 refine br ?_ ?_
 intro h;cases sj h
 refine(hK6 _ _).trans ?_
 refine Eq.trans ?_ (Eq.symm (show _=some _ from hr8))
 conv=>lhs;whnf
 exact rq
 refine ca hc (fun _ h=>Dh h) ?_;intro y93
 refine br ?_ ?_
 intro h;cases sj h
 refine(hK6 _ _).trans ?_
 refine Eq.trans ?_ (Eq.symm (show _=some _ from hr8))
 conv=>lhs;whnf
 exact rq
 exact fun h=>cq (hcont7 (IntKind.i64.wrap (s1+1)) (fun _=>0) h)
 intro h;cases sj h
 exact kq (hr8 (fun _=>0))
 refine lrc ?_ ?_
 intro v e;subst e;cases sj h;rfl
 intro t a96 e;subst e
 dsimp only at h
 conv=>lhs;whnf
 revert h
 exact rz
theorem A11 {n:Nat} ⦃A5:Be⦄ ⦃r:(Int×Int)⦄:Lp n A5=some r→CN n 23 [AV.agg [iA A5.Ay,AV.sl 3 (List.map Ai A5.Ao),AV.sl 4 (List.map Ab A5.Ad),AV.sl 3 (List.map Ae A5.Aq)]] []=some (AV.tup [iA r.1,iA r.2],[]):=by
 intro h;rcases n with _|n;cases h
 rw[Lp] at h
 refine Aw Tryz.func23 (by rfl) rfl rfl (Nat.le_of_ble_eq_true rfl) ?_
 intro call hc;conv=>lhs;whnf
 revert h
 refine br ?_ ?_
 exact rz
 refine ca hc (fun _ h=>Qm h) ?_;intro y2
 intro h;refine B1 h ?_;clear h;intro o12 ho12 h
 refine lq (σ:=Int) (τ:=Unit) (ν:=(Int×Int)) 0 (fun s4 a6=>Bh 86 [(1,AV.ptr 0 0),(4,AV.sl 1 (List.map Co y2)),(5,iA s4)]) (fun s4 a6=>[Ob.var 26 [iA A5.Ay,AV.sl 3 (List.map Ai A5.Ao),AV.sl 4 (List.map Ab A5.Ad),AV.sl 3 (List.map Ae A5.Aq)]]) (fun _ a45=>Bh 86 []) (fun _ a45=>[Ob.var 26 [iA A5.Ay,AV.sl 3 (List.map Ai A5.Ao),AV.sl 4 (List.map Ab A5.Ad),AV.sl 3 (List.map Ae A5.Aq)]]) (fun v=>(AV.tup [iA v.1,iA v.2],[])) (fun k s=>G8 n A5 y2 k s) (fun s=>rfl) o12 n 0 (fun _=>0) ho12 ?_ ?_
 intro k5 s4 a6 K7 cont8 hK9 hcont10 h hr11
 replace h:G8 n A5 y2 (k5+1) s4=some o12:=h
 rw[G8] at h
 conv=>lhs;whnf
 revert h
 refine br ?_ ?_
 refine ix ?_;intro x14
 refine br ?_ ?_
 intro h;cases sj h
 refine(hK9 _ _).trans ?_
 refine Eq.trans ?_ (Eq.symm (show _=some _ from hr11))
 conv=>lhs;whnf
 exact rq
 refine ca hc (fun _ h=>Dg h) ?_;intro y16
 refine br ?_ ?_
 intro h;cases sj h
 refine(hK9 _ _).trans ?_
 refine Eq.trans ?_ (Eq.symm (show _=some _ from hr11))
 conv=>lhs;whnf
 exact rq
 refine br ?_ ?_
 intro h;cases sj h
 refine(hK9 _ _).trans ?_
 refine Eq.trans ?_ (Eq.symm (show _=some _ from hr11))
 conv=>lhs;whnf
 exact rq
 intro h;refine B1 h ?_;clear h;intro o28 ho28 h
 refine lq (σ:=Int) (τ:=Unit) (ν:=(Int×Int)) 2 (fun s20 a22=>Bh 86 [(1,AV.ptr 0 0),(4,AV.sl 1 (List.map Co y2)),(5,iA s4),(6,AV.ptr 1 0),(7,iA s20)]) (fun s20 a22=>[Ob.var 26 [iA A5.Ay,AV.sl 3 (List.map Ai A5.Ao),AV.sl 4 (List.map Ab A5.Ad),AV.sl 3 (List.map Ae A5.Aq)],Ob.var 40 [sA x14.An,AV.sl 1 (List.map Co x14.B2),AV.sl 9 (List.map Aj x14.Al),iA x14.A8]]) (fun _ a40=>Bh 86 [(1,AV.ptr 0 0),(4,AV.sl 1 (List.map Co y2)),(5,iA s4),(6,AV.ptr 1 0)]) (fun _ a40=>[Ob.var 26 [iA A5.Ay,AV.sl 3 (List.map Ai A5.Ao),AV.sl 4 (List.map Ab A5.Ad),AV.sl 3 (List.map Ae A5.Aq)],Ob.var 40 [sA x14.An,AV.sl 1 (List.map Co x14.B2),AV.sl 9 (List.map Aj x14.Al),iA x14.A8]]) (fun v=>(AV.tup [iA v.1,iA v.2],[])) (fun k s=>Fe n A5 x14 k s) (fun s=>rfl) o28 n 0 (fun _=>0) ho28 ?_ ?_
 intro k21 s20 a22 K23 cont24 hK25 hcont26 h hr27
 replace h:Fe n A5 x14 (k21+1) s20=some o28:=h
 rw[Fe] at h
 conv=>lhs;whnf
 revert h
 refine br ?_ ?_
 refine ix ?_;intro x30
 refine ca hc (fun _ h=>Dg h) ?_;intro y31
 refine br ?_ ?_
 intro h;cases sj h
 refine(hK25 _ _).trans ?_
 conv=>lhs;whnf
 refine(hK9 _ _).trans ?_
 refine Eq.trans ?_ (Eq.symm (show _=some _ from hr27))
 conv=>lhs;whnf
 exact rq
 refine ca hc (fun _ h=>Jx h) ?_;intro y34
 refine ix ?_;intro x36
 refine ca hc (fun _ h=>Dg h) ?_;intro y37
 refine br ?_ ?_
 intro h;cases sj h
 refine(hK25 _ _).trans ?_
 conv=>lhs;whnf
 refine(hK9 _ _).trans ?_
 refine Eq.trans ?_ (Eq.symm (show _=some _ from hr27))
 conv=>lhs;whnf
 exact rq
 exact fun h=>cq (hcont26 (IntKind.i64.wrap (s20+1)) (fun _=>0) h)
 intro h;cases sj h
 exact kq (hr27 (fun _=>0))
 refine lrc ?_ ?_
 intro v e;subst e;cases sj h;exact hr11
 intro t a40 e;subst e
 dsimp only at h
 conv=>lhs;whnf
 revert h
 refine ca hc (fun _ h=>A5y h) ?_;intro y41
 refine br ?_ ?_
 intro h;cases sj h
 refine(hK9 _ _).trans ?_
 refine Eq.trans ?_ (Eq.symm (show _=some _ from hr11))
 conv=>lhs;whnf
 exact rq
 exact fun h=>cq (hcont10 (IntKind.i64.wrap (s4+1)) (fun _=>0) h)
 intro h;cases sj h
 exact kq (hr11 (fun _=>0))
 refine lrc ?_ ?_
 intro v e;subst e;cases sj h;rfl
 intro t a45 e;subst e
 dsimp only at h
 conv=>lhs;whnf
 revert h
 exact rz
theorem A3t {n:Nat} ⦃A5:Be⦄ ⦃r:(Int×Int)⦄:Nb n A5=some r→CN n 9 [AV.agg [iA A5.Ay,AV.sl 3 (List.map Ai A5.Ao),AV.sl 4 (List.map Ab A5.Ad),AV.sl 3 (List.map Ae A5.Aq)]] []=some (AV.tup [iA r.1,iA r.2],[]):=by
 intro h;rcases n with _|n;cases h
 rw[Nb] at h
 refine Aw Tryz.func9 (by rfl) rfl rfl (Nat.le_of_ble_eq_true rfl) ?_
 intro call hc;conv=>lhs;whnf
 revert h
 refine ca hc (fun _ h=>A44 h) ?_;intro y1
 refine br ?_ ?_
 refine br ?_ ?_
 exact rz
 refine br ?_ ?_
 exact rz
 refine ca hc (fun _ h=>A5z h) ?_;intro y6
 refine br ?_ ?_
 exact rz
 refine ca hc (fun _ h=>A11 h) ?_;intro y9
 refine br ?_ ?_
 exact rz
 refine ca hc (fun _ h=>A2n h) ?_;intro y12
 exact rz
 exact rz
end Go.Proofs.YtpnhafdimkmbbaaGreat
end
section
namespace Go.Proofs.YtpnhafdimkmbbaaGreat
set_option linter.unusedVariables false
set_option linter.unusedSimpArgs false
set_option maxRecDepth 100000
set_option maxHeartbeats 4000000
theorem Yf {n:Nat} ⦃Bs:(List UInt8)⦄ ⦃r:Bool⦄:Ji n Bs=some r→CN n 4 [sA Bs] []=some (bA r,[]):=by
 intro h;rcases n with _|n;cases h
 rw[Ji] at h
 refine Aw Tryz.func4 (by rfl) rfl rfl (Nat.le_of_ble_eq_true rfl) ?_
 intro call hc;conv=>lhs;whnf
 revert h
 refine br ?_ ?_
 refine ca hc (fun _ h=>X4 h) ?_;intro y2
 exact rz
 refine ca hc (fun _ h=>Jr h) ?_;intro y4
 refine ca hc (fun _ h=>Mn h) ?_;intro y6
 refine ca hc (fun _ h=>A3t h) ?_;intro y8
 refine br ?_ ?_
 refine br ?_ ?_
 refine br ?_ ?_
 refine br ?_ ?_
 refine ca hc (fun _ h=>X4 h) ?_;intro y14
 exact rz
 exact rz
 exact rz
 exact rz
 exact rz
end Go.Proofs.YtpnhafdimkmbbaaGreat
end
