/- Parts of the proofs: what they lean on. Conditions: none. -/
import Derived.Test.YtpnhafdimkmbbaaGreatLegalLessP2
section
namespace Go.Proofs.YtpnhafdimkmbbaaGreat
set_option linter.unusedVariables false
set_option linter.unusedSimpArgs false
set_option maxRecDepth 100000
set_option maxHeartbeats 4000000
theorem ok_ref03_Wrong {n:Nat} ⦃v0_l:(List S_api_Token)⦄ ⦃v1_i:Int⦄ ⦃r:(Int×Int)⦄:m_ref03_Wrong n v0_l v1_i=some r→CN n 76 [AV.sl 4 (List.map c_api_Token v0_l),iA v1_i] []=some (AV.tup [iA r.1,iA r.2],[]):=by
 intro h;rcases n with _|n;cases h
 rw [m_ref03_Wrong] at h
 refine callN_eq' Tryz.func76 (by rfl) rfl rfl (Nat.le_of_ble_eq_true rfl) ?_
 intro call hc;conv=>lhs;whnf
 revert h
 refine br ?_ ?_
 refine ca hc (fun _ h=>ok_ref02_Place h) ?_;intro y2
 exact rz
 refine ca hc (fun _ h=>ok_ref02_Place h) ?_;intro y4
 exact rz
theorem ok_ref03_Name {n:Nat} ⦃v0_l:(List S_api_Token)⦄ ⦃v1_i:Int⦄ ⦃r:Bool⦄:m_ref03_Name n v0_l v1_i=some r→CN n 78 [AV.sl 4 (List.map c_api_Token v0_l),iA v1_i] []=some (bA r,[]):=by
 intro h;rcases n with _|n;cases h
 rw [m_ref03_Name] at h
 refine callN_eq' Tryz.func78 (by rfl) rfl rfl (Nat.le_of_ble_eq_true rfl) ?_
 intro call hc;conv=>lhs;whnf
 revert h
 refine br ?_ ?_
 refine ix ?_;intro x2
 refine br ?_ ?_
 refine ix ?_;intro x4
 refine ca hc (fun _ h=>ok_ref01_Name h) ?_;intro y5
 exact rz
 exact rz
 exact rz
theorem ok_ref03_block {n:Nat} ⦃v0_kind:Int⦄ ⦃r:Bool⦄:m_ref03_block n v0_kind=some r→CN n 88 [iA v0_kind] []=some (bA r,[]):=by
 intro h;rcases n with _|n;cases h
 rw [m_ref03_block] at h
 refine callN_eq' Tryz.func88 (by rfl) rfl rfl (Nat.le_of_ble_eq_true rfl) ?_
 intro call hc;conv=>lhs;whnf
 revert h
 refine br ?_ ?_
 exact rz
 refine br ?_ ?_
 exact rz
 exact rz
theorem ok_ref03_form {n:Nat} ⦃v0_kind:Int⦄ ⦃r:(List UInt8)⦄:m_ref03_form n v0_kind=some r→CN n 120 [iA v0_kind] []=some (sA r,[]):=by
 intro h;rcases n with _|n;cases h
 rw [m_ref03_form] at h
 refine callN_eq' Tryz.func120 (by rfl) rfl rfl (Nat.le_of_ble_eq_true rfl) ?_
 intro call hc;conv=>lhs;whnf
 revert h
 refine br ?_ ?_
 exact rz
 refine br ?_ ?_
 exact rz
 refine br ?_ ?_
 exact rz
 refine br ?_ ?_
 exact rz
 refine br ?_ ?_
 exact rz
 refine br ?_ ?_
 exact rz
 refine br ?_ ?_
 exact rz
 refine br ?_ ?_
 exact rz
 refine br ?_ ?_
 exact rz
 refine br ?_ ?_
 exact rz
 exact rz
theorem ok_ref03_Plain {n:Nat} ⦃v0_l:(List S_api_Node)⦄ ⦃r:Bool⦄:m_ref03_Plain n v0_l=some r→CN n 86 [AV.sl 5 (List.map c_api_Node v0_l)] []=some (bA r,[]):=by
 intro h;rcases n with _|n;cases h
 rw [m_ref03_Plain] at h
 refine callN_eq' Tryz.func86 (by rfl) rfl rfl (Nat.le_of_ble_eq_true rfl) ?_
 intro call hc;conv=>lhs;whnf
 revert h
 refine ca hc (fun _ h=>ok_ref02_Names h) ?_;intro y1
 intro h;refine bind_some2 h ?_;clear h;intro o11 ho11 h
 refine lq (σ:=Int) (τ:=Unit) (ν:=Bool) 0 (fun s3 a5=>stOf 21 [(0,AV.sl 5 (List.map c_api_Node v0_l)),(3,AV.sl 5 (List.map c_api_Node y1)),(4,iA s3)]) (fun s3 a5=>[]) (fun _ a15=>stOf 21 [(0,AV.sl 5 (List.map c_api_Node v0_l))]) (fun _ a15=>[]) (fun v=>(bA v,[])) (fun k s=>ref03_Plain_L0 n y1 k s) (fun s=>rfl) o11 n 0 (fun _=>0) ho11 ?_ ?_
 intro k4 s3 a5 K6 cont7 hK8 hcont9 h hr10
 replace h:ref03_Plain_L0 n y1 (k4+1) s3=some o11:=h
 rw [ref03_Plain_L0] at h
 conv=>lhs;whnf
 revert h
 refine br ?_ ?_
 refine ix ?_;intro x13
 refine br ?_ ?_
 intro h;cases sj h
 refine (hK8 _ _).trans ?_
 refine Eq.trans ?_ (Eq.symm (show _=some _ from hr10))
 conv=>lhs;whnf
 exact rq
 exact fun h=>cq (hcont9 (IntKind.i64.wrap (s3+1)) (fun _=>0) h)
 intro h;cases sj h
 exact kq (hr10 (fun _=>0))
 refine lrc ?_ ?_
 intro v e;subst e;cases sj h;rfl
 intro t a15 e;subst e
 dsimp only at h
 conv=>lhs;whnf
 revert h
 refine ca hc (fun _ h=>ok_ref02_Right h) ?_;intro y16
 exact rz
theorem ok_ref03_plain {n:Nat} ⦃v0_l:(List S_api_Token)⦄ ⦃v1_i:Int⦄ ⦃r:((List S_api_Node)×Int×Int×Int)⦄:m_ref03_plain n v0_l v1_i=some r→CN n 121 [AV.sl 4 (List.map c_api_Token v0_l),iA v1_i] []=some (AV.tup [AV.sl 5 (List.map c_api_Node r.1),iA r.2.1,iA r.2.2.1,iA r.2.2.2],[]):=by
 intro h;rcases n with _|n;cases h
 rw [m_ref03_plain] at h
 refine callN_eq' Tryz.func121 (by rfl) rfl rfl (Nat.le_of_ble_eq_true rfl) ?_
 intro call hc;conv=>lhs;whnf
 revert h
 refine ca hc (fun _ h=>ok_ref02_Parse h) ?_;intro y1
 refine br ?_ ?_
 exact rz
 refine ca hc (fun _ h=>ok_ref03_Plain h) ?_;intro y4
 refine br ?_ ?_
 exact rz
 refine ix ?_;intro x7
 exact rz
theorem ok_ref03_fields {n:Nat} ⦃v0_l:(List S_api_Token)⦄ ⦃v1_i:Int⦄ ⦃v2_x:S_api_Stmt⦄ ⦃r:(S_api_Stmt×Int×Int×Int)⦄:m_ref03_fields n v0_l v1_i v2_x=some r→CN n 110 [AV.sl 4 (List.map c_api_Token v0_l),iA v1_i,AV.agg [iA v2_x.f_Kind,sA v2_x.f_Reg,sA v2_x.f_Loc,AV.sl 5 (List.map c_api_Node v2_x.f_E),AV.sl 5 (List.map c_api_Node v2_x.f_F),bA v2_x.f_Ne,iA v2_x.f_Body,iA v2_x.f_Else,iA v2_x.f_At]] []=some (AV.tup [AV.agg [iA r.1.f_Kind,sA r.1.f_Reg,sA r.1.f_Loc,AV.sl 5 (List.map c_api_Node r.1.f_E),AV.sl 5 (List.map c_api_Node r.1.f_F),bA r.1.f_Ne,iA r.1.f_Body,iA r.1.f_Else,iA r.1.f_At],iA r.2.1,iA r.2.2.1,iA r.2.2.2],[]):=by
 intro h;rcases n with _|n;cases h
 rw [m_ref03_fields] at h
 refine callN_eq' Tryz.func110 (by rfl) rfl rfl (Nat.le_of_ble_eq_true rfl) ?_
 intro call hc;conv=>lhs;whnf
 revert h
 refine ca hc (fun _ h=>ok_ref03_form h) ?_;intro y1
 intro h;refine bind_some2 h ?_;clear h;intro o17 ho17 h
 refine lq (σ:=(Int×Int×(List UInt8)×(List UInt8)×(List S_api_Node)×(List S_api_Node)×Bool)) (τ:=(Int×(List UInt8)×(List UInt8)×(List S_api_Node)×(List S_api_Node)×Bool)) (ν:=(S_api_Stmt×Int×Int×Int)) 0 (fun (s3,s4,s5,s6,s7,s8,s9) a11=>stOf 157 [(0,AV.sl 4 (List.map c_api_Token v0_l)),(1,iA s3),(5,AV.ptr 0 0),(6,AV.ptr 1 0),(10,sA y1),(11,iA s4)]) (fun (s3,s4,s5,s6,s7,s8,s9) a11=>[Ob.var 59 [iA v2_x.f_Kind,sA s5,sA s6,AV.sl 5 (List.map c_api_Node s7),AV.sl 5 (List.map c_api_Node s8),bA s9,iA v2_x.f_Body,iA v2_x.f_Else,iA v2_x.f_At],Ob.var 59 [iA (0),sA (([]:List UInt8)),sA (([]:List UInt8)),AV.nils,AV.nils,bA false,iA (0),iA (0),iA (0)]]) (fun (x72,x73,x74,x75,x76,x77) a71=>stOf 157 [(1,iA x72),(5,AV.ptr 0 0),(6,AV.ptr 1 0)]) (fun (x72,x73,x74,x75,x76,x77) a71=>[Ob.var 59 [iA v2_x.f_Kind,sA x73,sA x74,AV.sl 5 (List.map c_api_Node x75),AV.sl 5 (List.map c_api_Node x76),bA x77,iA v2_x.f_Body,iA v2_x.f_Else,iA v2_x.f_At],Ob.var 59 [iA (0),sA (([]:List UInt8)),sA (([]:List UInt8)),AV.nils,AV.nils,bA false,iA (0),iA (0),iA (0)]]) (fun v=>(AV.tup [AV.agg [iA v.1.f_Kind,sA v.1.f_Reg,sA v.1.f_Loc,AV.sl 5 (List.map c_api_Node v.1.f_E),AV.sl 5 (List.map c_api_Node v.1.f_F),bA v.1.f_Ne,iA v.1.f_Body,iA v.1.f_Else,iA v.1.f_At],iA v.2.1,iA v.2.2.1,iA v.2.2.2],[])) (fun k s=>ref03_fields_L0 n v0_l v2_x y1 k s.1 s.2.1 s.2.2.1 s.2.2.2.1 s.2.2.2.2.1 s.2.2.2.2.2.1 s.2.2.2.2.2.2) (fun s=>rfl) o17 n (v1_i,0,v2_x.f_Reg,v2_x.f_Loc,v2_x.f_E,v2_x.f_F,v2_x.f_Ne) (fun _=>0) ho17 ?_ ?_
 intro k10 ss a11 K12 cont13 hK14 hcont15 h hr16
 obtain ⟨s3,s4,s5,s6,s7,s8,s9⟩:=ss
 replace h:ref03_fields_L0 n v0_l v2_x y1 (k10+1) s3 s4 s5 s6 s7 s8 s9=some o17:=h
 rw [ref03_fields_L0] at h
 conv=>lhs;whnf
 revert h
 refine br ?_ ?_
 refine ixs ?_;intro x19
 refine br ?_ ?_
 refine ca hc (fun _ h=>ok_ref03_Name h) ?_;intro y21
 refine br ?_ ?_
 refine ixs ?_;intro x24
 refine br ?_ ?_
 refine ix ?_;intro x26
 exact fun h=>cq (hcont15 (IntKind.i64.wrap (s3+1),IntKind.i64.wrap (s4+1),x26.f_Text,s6,s7,s8,s9) (fun _=>0) h)
 refine ix ?_;intro x27
 exact fun h=>cq (hcont15 (IntKind.i64.wrap (s3+1),IntKind.i64.wrap (s4+1),s5,x27.f_Text,s7,s8,s9) (fun _=>0) h)
 refine ca hc (fun _ h=>ok_ref03_Wrong h) ?_;intro y28
 intro h;cases sj h
 refine (hK14 _ _).trans ?_
 refine Eq.trans ?_ (Eq.symm (show _=some _ from hr16))
 conv=>lhs;whnf
 exact rq
 refine ixs ?_;intro x30
 refine br ?_ ?_
 refine ca hc (fun _ h=>ok_ref03_Name h) ?_;intro y32
 refine br ?_ ?_
 refine ixs ?_;intro x35
 refine br ?_ ?_
 refine ix ?_;intro x37
 exact fun h=>cq (hcont15 (IntKind.i64.wrap (s3+1),IntKind.i64.wrap (s4+1),x37.f_Text,s6,s7,s8,s9) (fun _=>0) h)
 refine ix ?_;intro x38
 exact fun h=>cq (hcont15 (IntKind.i64.wrap (s3+1),IntKind.i64.wrap (s4+1),s5,x38.f_Text,s7,s8,s9) (fun _=>0) h)
 refine ca hc (fun _ h=>ok_ref03_Wrong h) ?_;intro y39
 intro h;cases sj h
 refine (hK14 _ _).trans ?_
 refine Eq.trans ?_ (Eq.symm (show _=some _ from hr16))
 conv=>lhs;whnf
 exact rq
 refine ixs ?_;intro x41
 refine br ?_ ?_
 refine ca hc (fun _ h=>ok_ref03_plain h) ?_;intro y43
 refine br ?_ ?_
 intro h;cases sj h
 refine (hK14 _ _).trans ?_
 refine Eq.trans ?_ (Eq.symm (show _=some _ from hr16))
 conv=>lhs;whnf
 exact rq
 refine ixs ?_;intro x46
 refine br ?_ ?_
 exact fun h=>cq (hcont15 (y43.2.1,IntKind.i64.wrap (s4+1),s5,s6,y43.1,s8,s9) (fun _=>0) h)
 exact fun h=>cq (hcont15 (y43.2.1,IntKind.i64.wrap (s4+1),s5,s6,s7,y43.1,s9) (fun _=>0) h)
 refine ixs ?_;intro x48
 refine br ?_ ?_
 refine ca hc (fun _ h=>ok_ref03_plain h) ?_;intro y50
 refine br ?_ ?_
 intro h;cases sj h
 refine (hK14 _ _).trans ?_
 refine Eq.trans ?_ (Eq.symm (show _=some _ from hr16))
 conv=>lhs;whnf
 exact rq
 refine ixs ?_;intro x53
 refine br ?_ ?_
 exact fun h=>cq (hcont15 (y50.2.1,IntKind.i64.wrap (s4+1),s5,s6,y50.1,s8,s9) (fun _=>0) h)
 exact fun h=>cq (hcont15 (y50.2.1,IntKind.i64.wrap (s4+1),s5,s6,s7,y50.1,s9) (fun _=>0) h)
 refine ixs ?_;intro x55
 refine br ?_ ?_
 refine ca hc (fun _ h=>ok_ref02_Is h) ?_;intro y57
 refine br ?_ ?_
 exact fun h=>cq (hcont15 (IntKind.i64.wrap (s3+1),IntKind.i64.wrap (s4+1),s5,s6,s7,s8,true) (fun _=>0) h)
 refine ca hc (fun _ h=>ok_ref02_Is h) ?_;intro y60
 refine br ?_ ?_
 exact fun h=>cq (hcont15 (IntKind.i64.wrap (s3+1),IntKind.i64.wrap (s4+1),s5,s6,s7,s8,false) (fun _=>0) h)
 refine ca hc (fun _ h=>ok_ref03_Wrong h) ?_;intro y63
 intro h;cases sj h
 refine (hK14 _ _).trans ?_
 refine Eq.trans ?_ (Eq.symm (show _=some _ from hr16))
 conv=>lhs;whnf
 exact rq
 refine cp ?_
 refine cr hc (fun _ h=>ok_ref02_Is h) ?_;intro y66
 refine br ?_ ?_
 exact fun h=>cq (hcont15 (IntKind.i64.wrap (s3+1),IntKind.i64.wrap (s4+1),s5,s6,s7,s8,s9) (fun _=>0) h)
 refine ca hc (fun _ h=>ok_ref03_Wrong h) ?_;intro y69
 intro h;cases sj h
 refine (hK14 _ _).trans ?_
 refine Eq.trans ?_ (Eq.symm (show _=some _ from hr16))
 conv=>lhs;whnf
 exact rq
 intro h;cases sj h
 exact kq (hr16 (fun _=>0))
 refine lrc ?_ ?_
 intro v e;subst e;cases sj h;rfl
 intro t a71 e;subst e
 obtain ⟨x72,x73,x74,x75,x76,x77⟩:=t
 dsimp only at h
 conv=>lhs;whnf
 revert h
 exact rz
theorem ok_ref03_words {n:Nat} ⦃r:(List (List UInt8))⦄:m_ref03_words n=some r→CN n 119 [] []=some (AV.sl 1 (List.map encS r),[]):=by
 intro h;rcases n with _|n;cases h
 rw [m_ref03_words] at h
 refine callN_eq' Tryz.func119 (by rfl) rfl rfl (Nat.le_of_ble_eq_true rfl) ?_
 intro call hc;conv=>lhs;whnf
 revert h
 exact rz
theorem ok_ref03_kind {n:Nat} ⦃v0_l:(List S_api_Token)⦄ ⦃v1_i:Int⦄ ⦃r:Int⦄:m_ref03_kind n v0_l v1_i=some r→CN n 109 [AV.sl 4 (List.map c_api_Token v0_l),iA v1_i] []=some (iA r,[]):=by
 intro h;rcases n with _|n;cases h
 rw [m_ref03_kind] at h
 refine callN_eq' Tryz.func109 (by rfl) rfl rfl (Nat.le_of_ble_eq_true rfl) ?_
 intro call hc;conv=>lhs;whnf
 revert h
 intro h;refine bind_some2 h ?_;clear h;intro o9 ho9 h
 refine lq (σ:=Int) (τ:=Unit) (ν:=Int) 0 (fun s1 a3=>stOf 37 [(0,AV.sl 4 (List.map c_api_Token v0_l)),(1,iA v1_i),(5,iA s1)]) (fun s1 a3=>[]) (fun _ a21=>stOf 37 []) (fun _ a21=>[]) (fun v=>(iA v,[])) (fun k s=>ref03_kind_L0 n v0_l v1_i k s) (fun s=>rfl) o9 n 1 (fun _=>0) ho9 ?_ ?_
 intro k2 s1 a3 K4 cont5 hK6 hcont7 h hr8
 replace h:ref03_kind_L0 n v0_l v1_i (k2+1) s1=some o9:=h
 rw [ref03_kind_L0] at h
 conv=>lhs;whnf
 revert h
 refine ca hc (fun _ h=>ok_ref03_words h) ?_;intro y10
 refine br ?_ ?_
 refine br ?_ ?_
 refine ix ?_;intro x14
 refine br ?_ ?_
 refine ix ?_;intro x16
 refine ca hc (fun _ h=>ok_ref03_words h) ?_;intro y17
 refine ix ?_;intro x19
 refine br ?_ ?_
 intro h;cases sj h
 refine (hK6 _ _).trans ?_
 refine Eq.trans ?_ (Eq.symm (show _=some _ from hr8))
 conv=>lhs;whnf
 exact rq
 exact fun h=>cq (hcont7 (IntKind.i64.wrap (s1+1)) (fun _=>0) h)
 exact fun h=>cq (hcont7 (IntKind.i64.wrap (s1+1)) (fun _=>0) h)
 intro h;cases sj h
 exact kq (hr8 (fun _=>0))
 intro h;cases sj h
 exact kq (hr8 (fun _=>0))
 refine lrc ?_ ?_
 intro v e;subst e;cases sj h;rfl
 intro t a21 e;subst e
 dsimp only at h
 conv=>lhs;whnf
 revert h
 exact rz
def OK_ref03_braced (n:Nat):Prop:=∀ ⦃v0_l:(List S_api_Token)⦄ ⦃v1_i:Int⦄ ⦃v2_in:Int⦄ ⦃r:((List S_api_Stmt)×Int×Int×Int)⦄,m_ref03_braced n v0_l v1_i v2_in=some r→CN n 111 [AV.sl 4 (List.map c_api_Token v0_l),iA v1_i,iA v2_in] []=some (AV.tup [AV.sl 9 (List.map c_api_Stmt r.1),iA r.2.1,iA r.2.2.1,iA r.2.2.2],[])
def OK_ref03_list (n:Nat):Prop:=∀ ⦃v0_l:(List S_api_Token)⦄ ⦃v1_i:Int⦄ ⦃v2_in:Int⦄ ⦃r:((List S_api_Stmt)×Int×Int×Int)⦄,m_ref03_list n v0_l v1_i v2_in=some r→CN n 99 [AV.sl 4 (List.map c_api_Token v0_l),iA v1_i,iA v2_in] []=some (AV.tup [AV.sl 9 (List.map c_api_Stmt r.1),iA r.2.1,iA r.2.2.1,iA r.2.2.2],[])
def IH_ref03_braced (n : Nat) : Prop := OK_ref03_braced n ∧ OK_ref03_list n
theorem st_ref03_braced (n:Nat) (ih:IH_ref03_braced n):OK_ref03_braced (n+1):=by
 intro v0_l v1_i v2_in r h
 rw [m_ref03_braced] at h
 refine callN_eq' Tryz.func111 (by rfl) rfl rfl (Nat.le_of_ble_eq_true rfl) ?_
 intro call hc;conv=>lhs;whnf
 revert h
 refine ca hc (fun _ h=>ok_ref02_Is h) ?_;intro y1
 refine br ?_ ?_
 refine br ?_ ?_
 refine ix ?_;intro x5
 exact rz
 refine ca hc (fun _ h=>ih.2 h) ?_;intro y6
 refine br ?_ ?_
 exact rz
 refine ca hc (fun _ h=>ok_ref02_Is h) ?_;intro y9
 refine br ?_ ?_
 exact rz
 refine ca hc (fun _ h=>ok_ref03_Wrong h) ?_;intro y12
 exact rz
 refine ca hc (fun _ h=>ok_ref03_Wrong h) ?_;intro y14
 exact rz
theorem st_ref03_list (n:Nat) (ih:IH_ref03_braced n):OK_ref03_list (n+1):=by
 intro v0_l v1_i v2_in r h
 rw [m_ref03_list] at h
 refine callN_eq' Tryz.func99 (by rfl) rfl rfl (Nat.le_of_ble_eq_true rfl) ?_
 intro call hc;conv=>lhs;whnf
 revert h
 intro h;refine bind_some2 h ?_;clear h;intro o10 ho10 h
 refine lq (σ:=(Int×(List S_api_Stmt))) (τ:=(Int×(List S_api_Stmt))) (ν:=((List S_api_Stmt)×Int×Int×Int)) 0 (fun (s1,s2) a4=>stOf 142 [(0,AV.sl 4 (List.map c_api_Token v0_l)),(1,iA s1),(2,iA v2_in),(10,AV.row 0 (List.length s2))]) (fun (s1,s2) a4=>[Ob.row 59 9 (List.map c_api_Stmt s2)]) (fun (x121,x122) a120=>stOf 142 [(1,iA x121),(10,AV.row 0 (List.length x122))]) (fun (x121,x122) a120=>[Ob.row 59 9 (List.map c_api_Stmt x122)]) (fun v=>(AV.tup [AV.sl 9 (List.map c_api_Stmt v.1),iA v.2.1,iA v.2.2.1,iA v.2.2.2],[])) (fun k s=>ref03_list_L0 n (m_ref03_braced n) v0_l v2_in k s.1 s.2) (fun s=>rfl) o10 n (v1_i,([]:List S_api_Stmt)) (fun _=>0) ho10 ?_ ?_
 intro k3 ss a4 K5 cont6 hK7 hcont8 h hr9
 obtain ⟨s1,s2⟩:=ss
 replace h:ref03_list_L0 n (m_ref03_braced n) v0_l v2_in (k3+1) s1 s2=some o10:=h
 rw [ref03_list_L0] at h
 conv=>lhs;whnf
 revert h
 refine br ?_ ?_
 refine ca hc (fun _ h=>ok_ref02_Is h) ?_;intro y12
 refine br ?_ ?_
 intro h;cases sj h
 exact kq (hr9 (fun _=>0))
 refine ca hc (fun _ h=>ok_ref03_kind h) ?_;intro y15
 refine br ?_ ?_
 refine ix ?_;intro x18
 intro h;cases sj h
 refine (hK7 _ _).trans ?_
 refine Eq.trans ?_ (Eq.symm (show _=some _ from hr9))
 conv=>lhs;whnf
 exact rq
 refine ix ?_;intro x19
 refine cr hc (fun y20 h=>(show CN n 110 [AV.sl 4 (List.map c_api_Token v0_l),iA (IntKind.i64.wrap (s1+1)),AV.agg [iA y15,sA (([]:List UInt8)),sA (([]:List UInt8)),AV.sl 5 [],AV.sl 5 [],bA false,iA (0),iA (0),iA x19.f_At]] []=some (AV.tup [AV.agg [iA y20.1.f_Kind,sA y20.1.f_Reg,sA y20.1.f_Loc,AV.sl 5 (List.map c_api_Node y20.1.f_E),AV.sl 5 (List.map c_api_Node y20.1.f_F),bA y20.1.f_Ne,iA y20.1.f_Body,iA y20.1.f_Else,iA y20.1.f_At],iA y20.2.1,iA y20.2.2.1,iA y20.2.2.2],[]) from ok_ref03_fields (r:=y20) h)) ?_;intro y20
 refine br ?_ ?_
 intro h;cases sj h
 refine (hK7 _ _).trans ?_
 refine Eq.trans ?_ (Eq.symm (show _=some _ from hr9))
 conv=>lhs;whnf
 exact rq
 refine ca hc (fun _ h=>ok_ref03_block h) ?_;intro y23
 refine br ?_ ?_
 refine ca hc (fun _ h=>ih.1 h) ?_;intro y26
 refine br ?_ ?_
 intro h;cases sj h
 refine (hK7 _ _).trans ?_
 refine Eq.trans ?_ (Eq.symm (show _=some _ from hr9))
 conv=>lhs;whnf
 exact rq
 refine br ?_ ?_
 refine br ?_ ?_
 refine ix ?_;intro x31
 refine br ?_ ?_
 refine ix ?_;intro x33
 refine br ?_ ?_
 refine ca hc (fun _ h=>ih.1 h) ?_;intro y35
 refine br ?_ ?_
 intro h;cases sj h
 refine (hK7 _ _).trans ?_
 refine Eq.trans ?_ (Eq.symm (show _=some _ from hr9))
 conv=>lhs;whnf
 exact rq
 refine ar (ap c_api_Stmt (List.map c_api_Stmt s2) s2 ([[iA y20.1.f_Kind,sA y20.1.f_Reg,sA y20.1.f_Loc,AV.sl 5 (List.map c_api_Node y20.1.f_E),AV.sl 5 (List.map c_api_Node y20.1.f_F),bA y20.1.f_Ne,iA (((y26.1.length:Nat):Int)),iA (((y35.1.length:Nat):Int)),iA y20.1.f_At]]) ([(⟨y20.1.f_Kind,y20.1.f_Reg,y20.1.f_Loc,y20.1.f_E,y20.1.f_F,y20.1.f_Ne,((y26.1.length:Nat):Int),((y35.1.length:Nat):Int),y20.1.f_At⟩:S_api_Stmt)]:List S_api_Stmt)) ?_
 refine ar (ap c_api_Stmt (List.map c_api_Stmt (s2++([(⟨y20.1.f_Kind,y20.1.f_Reg,y20.1.f_Loc,y20.1.f_E,y20.1.f_F,y20.1.f_Ne,((y26.1.length:Nat):Int),((y35.1.length:Nat):Int),y20.1.f_At⟩:S_api_Stmt)]:List S_api_Stmt))) (s2++([(⟨y20.1.f_Kind,y20.1.f_Reg,y20.1.f_Loc,y20.1.f_E,y20.1.f_F,y20.1.f_Ne,((y26.1.length:Nat):Int),((y35.1.length:Nat):Int),y20.1.f_At⟩:S_api_Stmt)]:List S_api_Stmt)) (List.map c_api_Stmt y26.1) y26.1) ?_
 refine ar (ap c_api_Stmt (List.map c_api_Stmt ((s2++([(⟨y20.1.f_Kind,y20.1.f_Reg,y20.1.f_Loc,y20.1.f_E,y20.1.f_F,y20.1.f_Ne,((y26.1.length:Nat):Int),((y35.1.length:Nat):Int),y20.1.f_At⟩:S_api_Stmt)]:List S_api_Stmt))++y26.1)) ((s2++([(⟨y20.1.f_Kind,y20.1.f_Reg,y20.1.f_Loc,y20.1.f_E,y20.1.f_F,y20.1.f_Ne,((y26.1.length:Nat):Int),((y35.1.length:Nat):Int),y20.1.f_At⟩:S_api_Stmt)]:List S_api_Stmt))++y26.1) (List.map c_api_Stmt y35.1) y35.1) ?_
 exact fun h=>cq (hcont8 (y35.2.1,(((s2++([(⟨y20.1.f_Kind,y20.1.f_Reg,y20.1.f_Loc,y20.1.f_E,y20.1.f_F,y20.1.f_Ne,((y26.1.length:Nat):Int),((y35.1.length:Nat):Int),y20.1.f_At⟩:S_api_Stmt)]:List S_api_Stmt))++y26.1)++y35.1)) (fun _=>0) h)
 refine ar (ap c_api_Stmt (List.map c_api_Stmt s2) s2 ([[iA y20.1.f_Kind,sA y20.1.f_Reg,sA y20.1.f_Loc,AV.sl 5 (List.map c_api_Node y20.1.f_E),AV.sl 5 (List.map c_api_Node y20.1.f_F),bA y20.1.f_Ne,iA (((y26.1.length:Nat):Int)),iA (0),iA y20.1.f_At]]) ([(⟨y20.1.f_Kind,y20.1.f_Reg,y20.1.f_Loc,y20.1.f_E,y20.1.f_F,y20.1.f_Ne,((y26.1.length:Nat):Int),0,y20.1.f_At⟩:S_api_Stmt)]:List S_api_Stmt)) ?_
 refine ar (ap c_api_Stmt (List.map c_api_Stmt (s2++([(⟨y20.1.f_Kind,y20.1.f_Reg,y20.1.f_Loc,y20.1.f_E,y20.1.f_F,y20.1.f_Ne,((y26.1.length:Nat):Int),0,y20.1.f_At⟩:S_api_Stmt)]:List S_api_Stmt))) (s2++([(⟨y20.1.f_Kind,y20.1.f_Reg,y20.1.f_Loc,y20.1.f_E,y20.1.f_F,y20.1.f_Ne,((y26.1.length:Nat):Int),0,y20.1.f_At⟩:S_api_Stmt)]:List S_api_Stmt)) (List.map c_api_Stmt y26.1) y26.1) ?_
 intro h
 refine chk_some2 h ?_;clear h;intro hc50 h
 first|refine bif_pos (app_row hc50 (by first|rfl|simp only [List.length_map]) (by first|rfl|simp only [List.length_map]) (by first|rfl|simp only [List.length_map,take_map_len]) (by kernel_rfl)) ?_|refine bif_pos (app_row2 hc50 (by first|rfl|simp only [List.length_map]) (by first|rfl|simp only [List.length_map,take_map_len]) (by kernel_rfl)) ?_
 have hp48:(List.map c_api_Stmt ((s2++([(⟨y20.1.f_Kind,y20.1.f_Reg,y20.1.f_Loc,y20.1.f_E,y20.1.f_F,y20.1.f_Ne,((y26.1.length:Nat):Int),0,y20.1.f_At⟩:S_api_Stmt)]:List S_api_Stmt))++y26.1):List (List AV))++([]:List (List AV))=(List.map c_api_Stmt ((s2++([(⟨y20.1.f_Kind,y20.1.f_Reg,y20.1.f_Loc,y20.1.f_E,y20.1.f_F,y20.1.f_Ne,((y26.1.length:Nat):Int),0,y20.1.f_At⟩:S_api_Stmt)]:List S_api_Stmt))++y26.1):List (List AV)):=List.append_nil _
 have hl49:List.length (List.map c_api_Stmt ((s2++([(⟨y20.1.f_Kind,y20.1.f_Reg,y20.1.f_Loc,y20.1.f_E,y20.1.f_F,y20.1.f_Ne,((y26.1.length:Nat):Int),0,y20.1.f_At⟩:S_api_Stmt)]:List S_api_Stmt))++y26.1):List (List AV))+List.length ([]:List (List AV))=List.length (List.map c_api_Stmt ((s2++([(⟨y20.1.f_Kind,y20.1.f_Reg,y20.1.f_Loc,y20.1.f_E,y20.1.f_F,y20.1.f_Ne,((y26.1.length:Nat):Int),0,y20.1.f_At⟩:S_api_Stmt)]:List S_api_Stmt))++y26.1):List (List AV)):=rfl
 have hl49_b:List.length ((s2++([(⟨y20.1.f_Kind,y20.1.f_Reg,y20.1.f_Loc,y20.1.f_E,y20.1.f_F,y20.1.f_Ne,((y26.1.length:Nat):Int),0,y20.1.f_At⟩:S_api_Stmt)]:List S_api_Stmt))++y26.1)+List.length ([]:List (List AV))=List.length ((s2++([(⟨y20.1.f_Kind,y20.1.f_Reg,y20.1.f_Loc,y20.1.f_E,y20.1.f_F,y20.1.f_Ne,((y26.1.length:Nat):Int),0,y20.1.f_At⟩:S_api_Stmt)]:List S_api_Stmt))++y26.1):=rfl
 try simp only [ls,c0]
 try simp only [hp48,hl49,hl49_b]
 try simp only [ls]
 conv=>lhs;whnf
 revert h
 exact fun h=>cq (hcont8 (y26.2.1,((s2++([(⟨y20.1.f_Kind,y20.1.f_Reg,y20.1.f_Loc,y20.1.f_E,y20.1.f_F,y20.1.f_Ne,((y26.1.length:Nat):Int),0,y20.1.f_At⟩:S_api_Stmt)]:List S_api_Stmt))++y26.1)) (fun _=>0) h)
 refine ar (ap c_api_Stmt (List.map c_api_Stmt s2) s2 ([[iA y20.1.f_Kind,sA y20.1.f_Reg,sA y20.1.f_Loc,AV.sl 5 (List.map c_api_Node y20.1.f_E),AV.sl 5 (List.map c_api_Node y20.1.f_F),bA y20.1.f_Ne,iA (((y26.1.length:Nat):Int)),iA (0),iA y20.1.f_At]]) ([(⟨y20.1.f_Kind,y20.1.f_Reg,y20.1.f_Loc,y20.1.f_E,y20.1.f_F,y20.1.f_Ne,((y26.1.length:Nat):Int),0,y20.1.f_At⟩:S_api_Stmt)]:List S_api_Stmt)) ?_
 refine ar (ap c_api_Stmt (List.map c_api_Stmt (s2++([(⟨y20.1.f_Kind,y20.1.f_Reg,y20.1.f_Loc,y20.1.f_E,y20.1.f_F,y20.1.f_Ne,((y26.1.length:Nat):Int),0,y20.1.f_At⟩:S_api_Stmt)]:List S_api_Stmt))) (s2++([(⟨y20.1.f_Kind,y20.1.f_Reg,y20.1.f_Loc,y20.1.f_E,y20.1.f_F,y20.1.f_Ne,((y26.1.length:Nat):Int),0,y20.1.f_At⟩:S_api_Stmt)]:List S_api_Stmt)) (List.map c_api_Stmt y26.1) y26.1) ?_
 intro h
 refine chk_some2 h ?_;clear h;intro hc57 h
 first|refine bif_pos (app_row hc57 (by first|rfl|simp only [List.length_map]) (by first|rfl|simp only [List.length_map]) (by first|rfl|simp only [List.length_map,take_map_len]) (by kernel_rfl)) ?_|refine bif_pos (app_row2 hc57 (by first|rfl|simp only [List.length_map]) (by first|rfl|simp only [List.length_map,take_map_len]) (by kernel_rfl)) ?_
 have hp55:(List.map c_api_Stmt ((s2++([(⟨y20.1.f_Kind,y20.1.f_Reg,y20.1.f_Loc,y20.1.f_E,y20.1.f_F,y20.1.f_Ne,((y26.1.length:Nat):Int),0,y20.1.f_At⟩:S_api_Stmt)]:List S_api_Stmt))++y26.1):List (List AV))++([]:List (List AV))=(List.map c_api_Stmt ((s2++([(⟨y20.1.f_Kind,y20.1.f_Reg,y20.1.f_Loc,y20.1.f_E,y20.1.f_F,y20.1.f_Ne,((y26.1.length:Nat):Int),0,y20.1.f_At⟩:S_api_Stmt)]:List S_api_Stmt))++y26.1):List (List AV)):=List.append_nil _
 have hl56:List.length (List.map c_api_Stmt ((s2++([(⟨y20.1.f_Kind,y20.1.f_Reg,y20.1.f_Loc,y20.1.f_E,y20.1.f_F,y20.1.f_Ne,((y26.1.length:Nat):Int),0,y20.1.f_At⟩:S_api_Stmt)]:List S_api_Stmt))++y26.1):List (List AV))+List.length ([]:List (List AV))=List.length (List.map c_api_Stmt ((s2++([(⟨y20.1.f_Kind,y20.1.f_Reg,y20.1.f_Loc,y20.1.f_E,y20.1.f_F,y20.1.f_Ne,((y26.1.length:Nat):Int),0,y20.1.f_At⟩:S_api_Stmt)]:List S_api_Stmt))++y26.1):List (List AV)):=rfl
 have hl56_b:List.length ((s2++([(⟨y20.1.f_Kind,y20.1.f_Reg,y20.1.f_Loc,y20.1.f_E,y20.1.f_F,y20.1.f_Ne,((y26.1.length:Nat):Int),0,y20.1.f_At⟩:S_api_Stmt)]:List S_api_Stmt))++y26.1)+List.length ([]:List (List AV))=List.length ((s2++([(⟨y20.1.f_Kind,y20.1.f_Reg,y20.1.f_Loc,y20.1.f_E,y20.1.f_F,y20.1.f_Ne,((y26.1.length:Nat):Int),0,y20.1.f_At⟩:S_api_Stmt)]:List S_api_Stmt))++y26.1):=rfl
 try simp only [ls,c0]
 try simp only [hp55,hl56,hl56_b]
 try simp only [ls]
 conv=>lhs;whnf
 revert h
 exact fun h=>cq (hcont8 (y26.2.1,((s2++([(⟨y20.1.f_Kind,y20.1.f_Reg,y20.1.f_Loc,y20.1.f_E,y20.1.f_F,y20.1.f_Ne,((y26.1.length:Nat):Int),0,y20.1.f_At⟩:S_api_Stmt)]:List S_api_Stmt))++y26.1)) (fun _=>0) h)
 refine ar (ap c_api_Stmt (List.map c_api_Stmt s2) s2 ([[iA y20.1.f_Kind,sA y20.1.f_Reg,sA y20.1.f_Loc,AV.sl 5 (List.map c_api_Node y20.1.f_E),AV.sl 5 (List.map c_api_Node y20.1.f_F),bA y20.1.f_Ne,iA (((y26.1.length:Nat):Int)),iA (0),iA y20.1.f_At]]) ([(⟨y20.1.f_Kind,y20.1.f_Reg,y20.1.f_Loc,y20.1.f_E,y20.1.f_F,y20.1.f_Ne,((y26.1.length:Nat):Int),0,y20.1.f_At⟩:S_api_Stmt)]:List S_api_Stmt)) ?_
 refine ar (ap c_api_Stmt (List.map c_api_Stmt (s2++([(⟨y20.1.f_Kind,y20.1.f_Reg,y20.1.f_Loc,y20.1.f_E,y20.1.f_F,y20.1.f_Ne,((y26.1.length:Nat):Int),0,y20.1.f_At⟩:S_api_Stmt)]:List S_api_Stmt))) (s2++([(⟨y20.1.f_Kind,y20.1.f_Reg,y20.1.f_Loc,y20.1.f_E,y20.1.f_F,y20.1.f_Ne,((y26.1.length:Nat):Int),0,y20.1.f_At⟩:S_api_Stmt)]:List S_api_Stmt)) (List.map c_api_Stmt y26.1) y26.1) ?_
 intro h
 refine chk_some2 h ?_;clear h;intro hc64 h
 first|refine bif_pos (app_row hc64 (by first|rfl|simp only [List.length_map]) (by first|rfl|simp only [List.length_map]) (by first|rfl|simp only [List.length_map,take_map_len]) (by kernel_rfl)) ?_|refine bif_pos (app_row2 hc64 (by first|rfl|simp only [List.length_map]) (by first|rfl|simp only [List.length_map,take_map_len]) (by kernel_rfl)) ?_
 have hp62:(List.map c_api_Stmt ((s2++([(⟨y20.1.f_Kind,y20.1.f_Reg,y20.1.f_Loc,y20.1.f_E,y20.1.f_F,y20.1.f_Ne,((y26.1.length:Nat):Int),0,y20.1.f_At⟩:S_api_Stmt)]:List S_api_Stmt))++y26.1):List (List AV))++([]:List (List AV))=(List.map c_api_Stmt ((s2++([(⟨y20.1.f_Kind,y20.1.f_Reg,y20.1.f_Loc,y20.1.f_E,y20.1.f_F,y20.1.f_Ne,((y26.1.length:Nat):Int),0,y20.1.f_At⟩:S_api_Stmt)]:List S_api_Stmt))++y26.1):List (List AV)):=List.append_nil _
 have hl63:List.length (List.map c_api_Stmt ((s2++([(⟨y20.1.f_Kind,y20.1.f_Reg,y20.1.f_Loc,y20.1.f_E,y20.1.f_F,y20.1.f_Ne,((y26.1.length:Nat):Int),0,y20.1.f_At⟩:S_api_Stmt)]:List S_api_Stmt))++y26.1):List (List AV))+List.length ([]:List (List AV))=List.length (List.map c_api_Stmt ((s2++([(⟨y20.1.f_Kind,y20.1.f_Reg,y20.1.f_Loc,y20.1.f_E,y20.1.f_F,y20.1.f_Ne,((y26.1.length:Nat):Int),0,y20.1.f_At⟩:S_api_Stmt)]:List S_api_Stmt))++y26.1):List (List AV)):=rfl
 have hl63_b:List.length ((s2++([(⟨y20.1.f_Kind,y20.1.f_Reg,y20.1.f_Loc,y20.1.f_E,y20.1.f_F,y20.1.f_Ne,((y26.1.length:Nat):Int),0,y20.1.f_At⟩:S_api_Stmt)]:List S_api_Stmt))++y26.1)+List.length ([]:List (List AV))=List.length ((s2++([(⟨y20.1.f_Kind,y20.1.f_Reg,y20.1.f_Loc,y20.1.f_E,y20.1.f_F,y20.1.f_Ne,((y26.1.length:Nat):Int),0,y20.1.f_At⟩:S_api_Stmt)]:List S_api_Stmt))++y26.1):=rfl
 try simp only [ls,c0]
 try simp only [hp62,hl63,hl63_b]
 try simp only [ls]
 conv=>lhs;whnf
 revert h
 exact fun h=>cq (hcont8 (y26.2.1,((s2++([(⟨y20.1.f_Kind,y20.1.f_Reg,y20.1.f_Loc,y20.1.f_E,y20.1.f_F,y20.1.f_Ne,((y26.1.length:Nat):Int),0,y20.1.f_At⟩:S_api_Stmt)]:List S_api_Stmt))++y26.1)) (fun _=>0) h)
 refine ar (ap c_api_Stmt (List.map c_api_Stmt s2) s2 ([[iA y20.1.f_Kind,sA y20.1.f_Reg,sA y20.1.f_Loc,AV.sl 5 (List.map c_api_Node y20.1.f_E),AV.sl 5 (List.map c_api_Node y20.1.f_F),bA y20.1.f_Ne,iA (((y26.1.length:Nat):Int)),iA (0),iA y20.1.f_At]]) ([(⟨y20.1.f_Kind,y20.1.f_Reg,y20.1.f_Loc,y20.1.f_E,y20.1.f_F,y20.1.f_Ne,((y26.1.length:Nat):Int),0,y20.1.f_At⟩:S_api_Stmt)]:List S_api_Stmt)) ?_
 refine ar (ap c_api_Stmt (List.map c_api_Stmt (s2++([(⟨y20.1.f_Kind,y20.1.f_Reg,y20.1.f_Loc,y20.1.f_E,y20.1.f_F,y20.1.f_Ne,((y26.1.length:Nat):Int),0,y20.1.f_At⟩:S_api_Stmt)]:List S_api_Stmt))) (s2++([(⟨y20.1.f_Kind,y20.1.f_Reg,y20.1.f_Loc,y20.1.f_E,y20.1.f_F,y20.1.f_Ne,((y26.1.length:Nat):Int),0,y20.1.f_At⟩:S_api_Stmt)]:List S_api_Stmt)) (List.map c_api_Stmt y26.1) y26.1) ?_
 intro h
 refine chk_some2 h ?_;clear h;intro hc71 h
 first|refine bif_pos (app_row hc71 (by first|rfl|simp only [List.length_map]) (by first|rfl|simp only [List.length_map]) (by first|rfl|simp only [List.length_map,take_map_len]) (by kernel_rfl)) ?_|refine bif_pos (app_row2 hc71 (by first|rfl|simp only [List.length_map]) (by first|rfl|simp only [List.length_map,take_map_len]) (by kernel_rfl)) ?_
 have hp69:(List.map c_api_Stmt ((s2++([(⟨y20.1.f_Kind,y20.1.f_Reg,y20.1.f_Loc,y20.1.f_E,y20.1.f_F,y20.1.f_Ne,((y26.1.length:Nat):Int),0,y20.1.f_At⟩:S_api_Stmt)]:List S_api_Stmt))++y26.1):List (List AV))++([]:List (List AV))=(List.map c_api_Stmt ((s2++([(⟨y20.1.f_Kind,y20.1.f_Reg,y20.1.f_Loc,y20.1.f_E,y20.1.f_F,y20.1.f_Ne,((y26.1.length:Nat):Int),0,y20.1.f_At⟩:S_api_Stmt)]:List S_api_Stmt))++y26.1):List (List AV)):=List.append_nil _
 have hl70:List.length (List.map c_api_Stmt ((s2++([(⟨y20.1.f_Kind,y20.1.f_Reg,y20.1.f_Loc,y20.1.f_E,y20.1.f_F,y20.1.f_Ne,((y26.1.length:Nat):Int),0,y20.1.f_At⟩:S_api_Stmt)]:List S_api_Stmt))++y26.1):List (List AV))+List.length ([]:List (List AV))=List.length (List.map c_api_Stmt ((s2++([(⟨y20.1.f_Kind,y20.1.f_Reg,y20.1.f_Loc,y20.1.f_E,y20.1.f_F,y20.1.f_Ne,((y26.1.length:Nat):Int),0,y20.1.f_At⟩:S_api_Stmt)]:List S_api_Stmt))++y26.1):List (List AV)):=rfl
 have hl70_b:List.length ((s2++([(⟨y20.1.f_Kind,y20.1.f_Reg,y20.1.f_Loc,y20.1.f_E,y20.1.f_F,y20.1.f_Ne,((y26.1.length:Nat):Int),0,y20.1.f_At⟩:S_api_Stmt)]:List S_api_Stmt))++y26.1)+List.length ([]:List (List AV))=List.length ((s2++([(⟨y20.1.f_Kind,y20.1.f_Reg,y20.1.f_Loc,y20.1.f_E,y20.1.f_F,y20.1.f_Ne,((y26.1.length:Nat):Int),0,y20.1.f_At⟩:S_api_Stmt)]:List S_api_Stmt))++y26.1):=rfl
 try simp only [ls,c0]
 try simp only [hp69,hl70,hl70_b]
 try simp only [ls]
 conv=>lhs;whnf
 revert h
 exact fun h=>cq (hcont8 (y26.2.1,((s2++([(⟨y20.1.f_Kind,y20.1.f_Reg,y20.1.f_Loc,y20.1.f_E,y20.1.f_F,y20.1.f_Ne,((y26.1.length:Nat):Int),0,y20.1.f_At⟩:S_api_Stmt)]:List S_api_Stmt))++y26.1)) (fun _=>0) h)
 refine br ?_ ?_
 refine br ?_ ?_
 refine ix ?_;intro x74
 refine br ?_ ?_
 refine ix ?_;intro x76
 refine br ?_ ?_
 refine ca hc (fun _ h=>ih.1 h) ?_;intro y78
 refine br ?_ ?_
 intro h;cases sj h
 refine (hK7 _ _).trans ?_
 refine Eq.trans ?_ (Eq.symm (show _=some _ from hr9))
 conv=>lhs;whnf
 exact rq
 refine ar (ap c_api_Stmt (List.map c_api_Stmt s2) s2 ([[iA y20.1.f_Kind,sA y20.1.f_Reg,sA y20.1.f_Loc,AV.sl 5 (List.map c_api_Node y20.1.f_E),AV.sl 5 (List.map c_api_Node y20.1.f_F),bA y20.1.f_Ne,iA (0),iA (((y78.1.length:Nat):Int)),iA y20.1.f_At]]) ([(⟨y20.1.f_Kind,y20.1.f_Reg,y20.1.f_Loc,y20.1.f_E,y20.1.f_F,y20.1.f_Ne,0,((y78.1.length:Nat):Int),y20.1.f_At⟩:S_api_Stmt)]:List S_api_Stmt)) ?_
 intro h
 refine chk_some2 h ?_;clear h;intro hc85 h
 first|refine bif_pos (app_row hc85 (by first|rfl|simp only [List.length_map]) (by first|rfl|simp only [List.length_map]) (by first|rfl|simp only [List.length_map,take_map_len]) (by kernel_rfl)) ?_|refine bif_pos (app_row2 hc85 (by first|rfl|simp only [List.length_map]) (by first|rfl|simp only [List.length_map,take_map_len]) (by kernel_rfl)) ?_
 have hp83:(List.map c_api_Stmt (s2++([(⟨y20.1.f_Kind,y20.1.f_Reg,y20.1.f_Loc,y20.1.f_E,y20.1.f_F,y20.1.f_Ne,0,((y78.1.length:Nat):Int),y20.1.f_At⟩:S_api_Stmt)]:List S_api_Stmt)):List (List AV))++([]:List (List AV))=(List.map c_api_Stmt (s2++([(⟨y20.1.f_Kind,y20.1.f_Reg,y20.1.f_Loc,y20.1.f_E,y20.1.f_F,y20.1.f_Ne,0,((y78.1.length:Nat):Int),y20.1.f_At⟩:S_api_Stmt)]:List S_api_Stmt)):List (List AV)):=List.append_nil _
 have hl84:List.length (List.map c_api_Stmt (s2++([(⟨y20.1.f_Kind,y20.1.f_Reg,y20.1.f_Loc,y20.1.f_E,y20.1.f_F,y20.1.f_Ne,0,((y78.1.length:Nat):Int),y20.1.f_At⟩:S_api_Stmt)]:List S_api_Stmt)):List (List AV))+List.length ([]:List (List AV))=List.length (List.map c_api_Stmt (s2++([(⟨y20.1.f_Kind,y20.1.f_Reg,y20.1.f_Loc,y20.1.f_E,y20.1.f_F,y20.1.f_Ne,0,((y78.1.length:Nat):Int),y20.1.f_At⟩:S_api_Stmt)]:List S_api_Stmt)):List (List AV)):=rfl
 have hl84_b:List.length (s2++([(⟨y20.1.f_Kind,y20.1.f_Reg,y20.1.f_Loc,y20.1.f_E,y20.1.f_F,y20.1.f_Ne,0,((y78.1.length:Nat):Int),y20.1.f_At⟩:S_api_Stmt)]:List S_api_Stmt))+List.length ([]:List (List AV))=List.length (s2++([(⟨y20.1.f_Kind,y20.1.f_Reg,y20.1.f_Loc,y20.1.f_E,y20.1.f_F,y20.1.f_Ne,0,((y78.1.length:Nat):Int),y20.1.f_At⟩:S_api_Stmt)]:List S_api_Stmt)):=rfl
 try simp only [ls,c0]
 try simp only [hp83,hl84,hl84_b]
 try simp only [ls]
 conv=>lhs;whnf
 revert h
 refine ar (ap c_api_Stmt (List.map c_api_Stmt (s2++([(⟨y20.1.f_Kind,y20.1.f_Reg,y20.1.f_Loc,y20.1.f_E,y20.1.f_F,y20.1.f_Ne,0,((y78.1.length:Nat):Int),y20.1.f_At⟩:S_api_Stmt)]:List S_api_Stmt))) (s2++([(⟨y20.1.f_Kind,y20.1.f_Reg,y20.1.f_Loc,y20.1.f_E,y20.1.f_F,y20.1.f_Ne,0,((y78.1.length:Nat):Int),y20.1.f_At⟩:S_api_Stmt)]:List S_api_Stmt)) (List.map c_api_Stmt y78.1) y78.1) ?_
 exact fun h=>cq (hcont8 (y78.2.1,((s2++([(⟨y20.1.f_Kind,y20.1.f_Reg,y20.1.f_Loc,y20.1.f_E,y20.1.f_F,y20.1.f_Ne,0,((y78.1.length:Nat):Int),y20.1.f_At⟩:S_api_Stmt)]:List S_api_Stmt))++y78.1)) (fun _=>0) h)
 refine ar (ap c_api_Stmt (List.map c_api_Stmt s2) s2 ([[iA y20.1.f_Kind,sA y20.1.f_Reg,sA y20.1.f_Loc,AV.sl 5 (List.map c_api_Node y20.1.f_E),AV.sl 5 (List.map c_api_Node y20.1.f_F),bA y20.1.f_Ne,iA (0),iA (0),iA y20.1.f_At]]) ([(⟨y20.1.f_Kind,y20.1.f_Reg,y20.1.f_Loc,y20.1.f_E,y20.1.f_F,y20.1.f_Ne,0,0,y20.1.f_At⟩:S_api_Stmt)]:List S_api_Stmt)) ?_
 intro h
 refine chk_some2 h ?_;clear h;intro hc92 h
 first|refine bif_pos (app_row hc92 (by first|rfl|simp only [List.length_map]) (by first|rfl|simp only [List.length_map]) (by first|rfl|simp only [List.length_map,take_map_len]) (by kernel_rfl)) ?_|refine bif_pos (app_row2 hc92 (by first|rfl|simp only [List.length_map]) (by first|rfl|simp only [List.length_map,take_map_len]) (by kernel_rfl)) ?_
 have hp90:(List.map c_api_Stmt (s2++([(⟨y20.1.f_Kind,y20.1.f_Reg,y20.1.f_Loc,y20.1.f_E,y20.1.f_F,y20.1.f_Ne,0,0,y20.1.f_At⟩:S_api_Stmt)]:List S_api_Stmt)):List (List AV))++([]:List (List AV))=(List.map c_api_Stmt (s2++([(⟨y20.1.f_Kind,y20.1.f_Reg,y20.1.f_Loc,y20.1.f_E,y20.1.f_F,y20.1.f_Ne,0,0,y20.1.f_At⟩:S_api_Stmt)]:List S_api_Stmt)):List (List AV)):=List.append_nil _
 have hl91:List.length (List.map c_api_Stmt (s2++([(⟨y20.1.f_Kind,y20.1.f_Reg,y20.1.f_Loc,y20.1.f_E,y20.1.f_F,y20.1.f_Ne,0,0,y20.1.f_At⟩:S_api_Stmt)]:List S_api_Stmt)):List (List AV))+List.length ([]:List (List AV))=List.length (List.map c_api_Stmt (s2++([(⟨y20.1.f_Kind,y20.1.f_Reg,y20.1.f_Loc,y20.1.f_E,y20.1.f_F,y20.1.f_Ne,0,0,y20.1.f_At⟩:S_api_Stmt)]:List S_api_Stmt)):List (List AV)):=rfl
 have hl91_b:List.length (s2++([(⟨y20.1.f_Kind,y20.1.f_Reg,y20.1.f_Loc,y20.1.f_E,y20.1.f_F,y20.1.f_Ne,0,0,y20.1.f_At⟩:S_api_Stmt)]:List S_api_Stmt))+List.length ([]:List (List AV))=List.length (s2++([(⟨y20.1.f_Kind,y20.1.f_Reg,y20.1.f_Loc,y20.1.f_E,y20.1.f_F,y20.1.f_Ne,0,0,y20.1.f_At⟩:S_api_Stmt)]:List S_api_Stmt)):=rfl
 try simp only [ls,c0]
 try simp only [hp90,hl91,hl91_b]
 try simp only [ls]
 conv=>lhs;whnf
 revert h
 intro h
 refine chk_some2 h ?_;clear h;intro hc95 h
 first|refine bif_pos (app_row hc95 (by first|rfl|simp only [List.length_map]) (by first|rfl|simp only [List.length_map]) (by first|rfl|simp only [List.length_map,take_map_len]) (by kernel_rfl)) ?_|refine bif_pos (app_row2 hc95 (by first|rfl|simp only [List.length_map]) (by first|rfl|simp only [List.length_map,take_map_len]) (by kernel_rfl)) ?_
 have hp93:(List.map c_api_Stmt (s2++([(⟨y20.1.f_Kind,y20.1.f_Reg,y20.1.f_Loc,y20.1.f_E,y20.1.f_F,y20.1.f_Ne,0,0,y20.1.f_At⟩:S_api_Stmt)]:List S_api_Stmt)):List (List AV))++([]:List (List AV))=(List.map c_api_Stmt (s2++([(⟨y20.1.f_Kind,y20.1.f_Reg,y20.1.f_Loc,y20.1.f_E,y20.1.f_F,y20.1.f_Ne,0,0,y20.1.f_At⟩:S_api_Stmt)]:List S_api_Stmt)):List (List AV)):=List.append_nil _
 have hl94:List.length (List.map c_api_Stmt (s2++([(⟨y20.1.f_Kind,y20.1.f_Reg,y20.1.f_Loc,y20.1.f_E,y20.1.f_F,y20.1.f_Ne,0,0,y20.1.f_At⟩:S_api_Stmt)]:List S_api_Stmt)):List (List AV))+List.length ([]:List (List AV))=List.length (List.map c_api_Stmt (s2++([(⟨y20.1.f_Kind,y20.1.f_Reg,y20.1.f_Loc,y20.1.f_E,y20.1.f_F,y20.1.f_Ne,0,0,y20.1.f_At⟩:S_api_Stmt)]:List S_api_Stmt)):List (List AV)):=rfl
 have hl94_b:List.length (s2++([(⟨y20.1.f_Kind,y20.1.f_Reg,y20.1.f_Loc,y20.1.f_E,y20.1.f_F,y20.1.f_Ne,0,0,y20.1.f_At⟩:S_api_Stmt)]:List S_api_Stmt))+List.length ([]:List (List AV))=List.length (s2++([(⟨y20.1.f_Kind,y20.1.f_Reg,y20.1.f_Loc,y20.1.f_E,y20.1.f_F,y20.1.f_Ne,0,0,y20.1.f_At⟩:S_api_Stmt)]:List S_api_Stmt)):=rfl
 try simp only [ls,c0]
 try simp only [hp93,hl94,hl94_b]
 try simp only [ls]
 conv=>lhs;whnf
 revert h
 exact fun h=>cq (hcont8 (y20.2.1,(s2++([(⟨y20.1.f_Kind,y20.1.f_Reg,y20.1.f_Loc,y20.1.f_E,y20.1.f_F,y20.1.f_Ne,0,0,y20.1.f_At⟩:S_api_Stmt)]:List S_api_Stmt))) (fun _=>0) h)
 refine ar (ap c_api_Stmt (List.map c_api_Stmt s2) s2 ([[iA y20.1.f_Kind,sA y20.1.f_Reg,sA y20.1.f_Loc,AV.sl 5 (List.map c_api_Node y20.1.f_E),AV.sl 5 (List.map c_api_Node y20.1.f_F),bA y20.1.f_Ne,iA (0),iA (0),iA y20.1.f_At]]) ([(⟨y20.1.f_Kind,y20.1.f_Reg,y20.1.f_Loc,y20.1.f_E,y20.1.f_F,y20.1.f_Ne,0,0,y20.1.f_At⟩:S_api_Stmt)]:List S_api_Stmt)) ?_
 intro h
 refine chk_some2 h ?_;clear h;intro hc100 h
 first|refine bif_pos (app_row hc100 (by first|rfl|simp only [List.length_map]) (by first|rfl|simp only [List.length_map]) (by first|rfl|simp only [List.length_map,take_map_len]) (by kernel_rfl)) ?_|refine bif_pos (app_row2 hc100 (by first|rfl|simp only [List.length_map]) (by first|rfl|simp only [List.length_map,take_map_len]) (by kernel_rfl)) ?_
 have hp98:(List.map c_api_Stmt (s2++([(⟨y20.1.f_Kind,y20.1.f_Reg,y20.1.f_Loc,y20.1.f_E,y20.1.f_F,y20.1.f_Ne,0,0,y20.1.f_At⟩:S_api_Stmt)]:List S_api_Stmt)):List (List AV))++([]:List (List AV))=(List.map c_api_Stmt (s2++([(⟨y20.1.f_Kind,y20.1.f_Reg,y20.1.f_Loc,y20.1.f_E,y20.1.f_F,y20.1.f_Ne,0,0,y20.1.f_At⟩:S_api_Stmt)]:List S_api_Stmt)):List (List AV)):=List.append_nil _
 have hl99:List.length (List.map c_api_Stmt (s2++([(⟨y20.1.f_Kind,y20.1.f_Reg,y20.1.f_Loc,y20.1.f_E,y20.1.f_F,y20.1.f_Ne,0,0,y20.1.f_At⟩:S_api_Stmt)]:List S_api_Stmt)):List (List AV))+List.length ([]:List (List AV))=List.length (List.map c_api_Stmt (s2++([(⟨y20.1.f_Kind,y20.1.f_Reg,y20.1.f_Loc,y20.1.f_E,y20.1.f_F,y20.1.f_Ne,0,0,y20.1.f_At⟩:S_api_Stmt)]:List S_api_Stmt)):List (List AV)):=rfl
 have hl99_b:List.length (s2++([(⟨y20.1.f_Kind,y20.1.f_Reg,y20.1.f_Loc,y20.1.f_E,y20.1.f_F,y20.1.f_Ne,0,0,y20.1.f_At⟩:S_api_Stmt)]:List S_api_Stmt))+List.length ([]:List (List AV))=List.length (s2++([(⟨y20.1.f_Kind,y20.1.f_Reg,y20.1.f_Loc,y20.1.f_E,y20.1.f_F,y20.1.f_Ne,0,0,y20.1.f_At⟩:S_api_Stmt)]:List S_api_Stmt)):=rfl
 try simp only [ls,c0]
 try simp only [hp98,hl99,hl99_b]
 try simp only [ls]
 conv=>lhs;whnf
 revert h
 intro h
 refine chk_some2 h ?_;clear h;intro hc103 h
 first|refine bif_pos (app_row hc103 (by first|rfl|simp only [List.length_map]) (by first|rfl|simp only [List.length_map]) (by first|rfl|simp only [List.length_map,take_map_len]) (by kernel_rfl)) ?_|refine bif_pos (app_row2 hc103 (by first|rfl|simp only [List.length_map]) (by first|rfl|simp only [List.length_map,take_map_len]) (by kernel_rfl)) ?_
 have hp101:(List.map c_api_Stmt (s2++([(⟨y20.1.f_Kind,y20.1.f_Reg,y20.1.f_Loc,y20.1.f_E,y20.1.f_F,y20.1.f_Ne,0,0,y20.1.f_At⟩:S_api_Stmt)]:List S_api_Stmt)):List (List AV))++([]:List (List AV))=(List.map c_api_Stmt (s2++([(⟨y20.1.f_Kind,y20.1.f_Reg,y20.1.f_Loc,y20.1.f_E,y20.1.f_F,y20.1.f_Ne,0,0,y20.1.f_At⟩:S_api_Stmt)]:List S_api_Stmt)):List (List AV)):=List.append_nil _
 have hl102:List.length (List.map c_api_Stmt (s2++([(⟨y20.1.f_Kind,y20.1.f_Reg,y20.1.f_Loc,y20.1.f_E,y20.1.f_F,y20.1.f_Ne,0,0,y20.1.f_At⟩:S_api_Stmt)]:List S_api_Stmt)):List (List AV))+List.length ([]:List (List AV))=List.length (List.map c_api_Stmt (s2++([(⟨y20.1.f_Kind,y20.1.f_Reg,y20.1.f_Loc,y20.1.f_E,y20.1.f_F,y20.1.f_Ne,0,0,y20.1.f_At⟩:S_api_Stmt)]:List S_api_Stmt)):List (List AV)):=rfl
 have hl102_b:List.length (s2++([(⟨y20.1.f_Kind,y20.1.f_Reg,y20.1.f_Loc,y20.1.f_E,y20.1.f_F,y20.1.f_Ne,0,0,y20.1.f_At⟩:S_api_Stmt)]:List S_api_Stmt))+List.length ([]:List (List AV))=List.length (s2++([(⟨y20.1.f_Kind,y20.1.f_Reg,y20.1.f_Loc,y20.1.f_E,y20.1.f_F,y20.1.f_Ne,0,0,y20.1.f_At⟩:S_api_Stmt)]:List S_api_Stmt)):=rfl
 try simp only [ls,c0]
 try simp only [hp101,hl102,hl102_b]
 try simp only [ls]
 conv=>lhs;whnf
 revert h
 exact fun h=>cq (hcont8 (y20.2.1,(s2++([(⟨y20.1.f_Kind,y20.1.f_Reg,y20.1.f_Loc,y20.1.f_E,y20.1.f_F,y20.1.f_Ne,0,0,y20.1.f_At⟩:S_api_Stmt)]:List S_api_Stmt))) (fun _=>0) h)
 refine ar (ap c_api_Stmt (List.map c_api_Stmt s2) s2 ([[iA y20.1.f_Kind,sA y20.1.f_Reg,sA y20.1.f_Loc,AV.sl 5 (List.map c_api_Node y20.1.f_E),AV.sl 5 (List.map c_api_Node y20.1.f_F),bA y20.1.f_Ne,iA (0),iA (0),iA y20.1.f_At]]) ([(⟨y20.1.f_Kind,y20.1.f_Reg,y20.1.f_Loc,y20.1.f_E,y20.1.f_F,y20.1.f_Ne,0,0,y20.1.f_At⟩:S_api_Stmt)]:List S_api_Stmt)) ?_
 intro h
 refine chk_some2 h ?_;clear h;intro hc108 h
 first|refine bif_pos (app_row hc108 (by first|rfl|simp only [List.length_map]) (by first|rfl|simp only [List.length_map]) (by first|rfl|simp only [List.length_map,take_map_len]) (by kernel_rfl)) ?_|refine bif_pos (app_row2 hc108 (by first|rfl|simp only [List.length_map]) (by first|rfl|simp only [List.length_map,take_map_len]) (by kernel_rfl)) ?_
 have hp106:(List.map c_api_Stmt (s2++([(⟨y20.1.f_Kind,y20.1.f_Reg,y20.1.f_Loc,y20.1.f_E,y20.1.f_F,y20.1.f_Ne,0,0,y20.1.f_At⟩:S_api_Stmt)]:List S_api_Stmt)):List (List AV))++([]:List (List AV))=(List.map c_api_Stmt (s2++([(⟨y20.1.f_Kind,y20.1.f_Reg,y20.1.f_Loc,y20.1.f_E,y20.1.f_F,y20.1.f_Ne,0,0,y20.1.f_At⟩:S_api_Stmt)]:List S_api_Stmt)):List (List AV)):=List.append_nil _
 have hl107:List.length (List.map c_api_Stmt (s2++([(⟨y20.1.f_Kind,y20.1.f_Reg,y20.1.f_Loc,y20.1.f_E,y20.1.f_F,y20.1.f_Ne,0,0,y20.1.f_At⟩:S_api_Stmt)]:List S_api_Stmt)):List (List AV))+List.length ([]:List (List AV))=List.length (List.map c_api_Stmt (s2++([(⟨y20.1.f_Kind,y20.1.f_Reg,y20.1.f_Loc,y20.1.f_E,y20.1.f_F,y20.1.f_Ne,0,0,y20.1.f_At⟩:S_api_Stmt)]:List S_api_Stmt)):List (List AV)):=rfl
 have hl107_b:List.length (s2++([(⟨y20.1.f_Kind,y20.1.f_Reg,y20.1.f_Loc,y20.1.f_E,y20.1.f_F,y20.1.f_Ne,0,0,y20.1.f_At⟩:S_api_Stmt)]:List S_api_Stmt))+List.length ([]:List (List AV))=List.length (s2++([(⟨y20.1.f_Kind,y20.1.f_Reg,y20.1.f_Loc,y20.1.f_E,y20.1.f_F,y20.1.f_Ne,0,0,y20.1.f_At⟩:S_api_Stmt)]:List S_api_Stmt)):=rfl
 try simp only [ls,c0]
 try simp only [hp106,hl107,hl107_b]
 try simp only [ls]
 conv=>lhs;whnf
 revert h
 intro h
 refine chk_some2 h ?_;clear h;intro hc111 h
 first|refine bif_pos (app_row hc111 (by first|rfl|simp only [List.length_map]) (by first|rfl|simp only [List.length_map]) (by first|rfl|simp only [List.length_map,take_map_len]) (by kernel_rfl)) ?_|refine bif_pos (app_row2 hc111 (by first|rfl|simp only [List.length_map]) (by first|rfl|simp only [List.length_map,take_map_len]) (by kernel_rfl)) ?_
 have hp109:(List.map c_api_Stmt (s2++([(⟨y20.1.f_Kind,y20.1.f_Reg,y20.1.f_Loc,y20.1.f_E,y20.1.f_F,y20.1.f_Ne,0,0,y20.1.f_At⟩:S_api_Stmt)]:List S_api_Stmt)):List (List AV))++([]:List (List AV))=(List.map c_api_Stmt (s2++([(⟨y20.1.f_Kind,y20.1.f_Reg,y20.1.f_Loc,y20.1.f_E,y20.1.f_F,y20.1.f_Ne,0,0,y20.1.f_At⟩:S_api_Stmt)]:List S_api_Stmt)):List (List AV)):=List.append_nil _
 have hl110:List.length (List.map c_api_Stmt (s2++([(⟨y20.1.f_Kind,y20.1.f_Reg,y20.1.f_Loc,y20.1.f_E,y20.1.f_F,y20.1.f_Ne,0,0,y20.1.f_At⟩:S_api_Stmt)]:List S_api_Stmt)):List (List AV))+List.length ([]:List (List AV))=List.length (List.map c_api_Stmt (s2++([(⟨y20.1.f_Kind,y20.1.f_Reg,y20.1.f_Loc,y20.1.f_E,y20.1.f_F,y20.1.f_Ne,0,0,y20.1.f_At⟩:S_api_Stmt)]:List S_api_Stmt)):List (List AV)):=rfl
 have hl110_b:List.length (s2++([(⟨y20.1.f_Kind,y20.1.f_Reg,y20.1.f_Loc,y20.1.f_E,y20.1.f_F,y20.1.f_Ne,0,0,y20.1.f_At⟩:S_api_Stmt)]:List S_api_Stmt))+List.length ([]:List (List AV))=List.length (s2++([(⟨y20.1.f_Kind,y20.1.f_Reg,y20.1.f_Loc,y20.1.f_E,y20.1.f_F,y20.1.f_Ne,0,0,y20.1.f_At⟩:S_api_Stmt)]:List S_api_Stmt)):=rfl
 try simp only [ls,c0]
 try simp only [hp109,hl110,hl110_b]
 try simp only [ls]
 conv=>lhs;whnf
 revert h
 exact fun h=>cq (hcont8 (y20.2.1,(s2++([(⟨y20.1.f_Kind,y20.1.f_Reg,y20.1.f_Loc,y20.1.f_E,y20.1.f_F,y20.1.f_Ne,0,0,y20.1.f_At⟩:S_api_Stmt)]:List S_api_Stmt))) (fun _=>0) h)
 refine ar (ap c_api_Stmt (List.map c_api_Stmt s2) s2 ([[iA y20.1.f_Kind,sA y20.1.f_Reg,sA y20.1.f_Loc,AV.sl 5 (List.map c_api_Node y20.1.f_E),AV.sl 5 (List.map c_api_Node y20.1.f_F),bA y20.1.f_Ne,iA (0),iA (0),iA y20.1.f_At]]) ([(⟨y20.1.f_Kind,y20.1.f_Reg,y20.1.f_Loc,y20.1.f_E,y20.1.f_F,y20.1.f_Ne,0,0,y20.1.f_At⟩:S_api_Stmt)]:List S_api_Stmt)) ?_
 intro h
 refine chk_some2 h ?_;clear h;intro hc116 h
 first|refine bif_pos (app_row hc116 (by first|rfl|simp only [List.length_map]) (by first|rfl|simp only [List.length_map]) (by first|rfl|simp only [List.length_map,take_map_len]) (by kernel_rfl)) ?_|refine bif_pos (app_row2 hc116 (by first|rfl|simp only [List.length_map]) (by first|rfl|simp only [List.length_map,take_map_len]) (by kernel_rfl)) ?_
 have hp114:(List.map c_api_Stmt (s2++([(⟨y20.1.f_Kind,y20.1.f_Reg,y20.1.f_Loc,y20.1.f_E,y20.1.f_F,y20.1.f_Ne,0,0,y20.1.f_At⟩:S_api_Stmt)]:List S_api_Stmt)):List (List AV))++([]:List (List AV))=(List.map c_api_Stmt (s2++([(⟨y20.1.f_Kind,y20.1.f_Reg,y20.1.f_Loc,y20.1.f_E,y20.1.f_F,y20.1.f_Ne,0,0,y20.1.f_At⟩:S_api_Stmt)]:List S_api_Stmt)):List (List AV)):=List.append_nil _
 have hl115:List.length (List.map c_api_Stmt (s2++([(⟨y20.1.f_Kind,y20.1.f_Reg,y20.1.f_Loc,y20.1.f_E,y20.1.f_F,y20.1.f_Ne,0,0,y20.1.f_At⟩:S_api_Stmt)]:List S_api_Stmt)):List (List AV))+List.length ([]:List (List AV))=List.length (List.map c_api_Stmt (s2++([(⟨y20.1.f_Kind,y20.1.f_Reg,y20.1.f_Loc,y20.1.f_E,y20.1.f_F,y20.1.f_Ne,0,0,y20.1.f_At⟩:S_api_Stmt)]:List S_api_Stmt)):List (List AV)):=rfl
 have hl115_b:List.length (s2++([(⟨y20.1.f_Kind,y20.1.f_Reg,y20.1.f_Loc,y20.1.f_E,y20.1.f_F,y20.1.f_Ne,0,0,y20.1.f_At⟩:S_api_Stmt)]:List S_api_Stmt))+List.length ([]:List (List AV))=List.length (s2++([(⟨y20.1.f_Kind,y20.1.f_Reg,y20.1.f_Loc,y20.1.f_E,y20.1.f_F,y20.1.f_Ne,0,0,y20.1.f_At⟩:S_api_Stmt)]:List S_api_Stmt)):=rfl
 try simp only [ls,c0]
 try simp only [hp114,hl115,hl115_b]
 try simp only [ls]
 conv=>lhs;whnf
 revert h
 intro h
 refine chk_some2 h ?_;clear h;intro hc119 h
 first|refine bif_pos (app_row hc119 (by first|rfl|simp only [List.length_map]) (by first|rfl|simp only [List.length_map]) (by first|rfl|simp only [List.length_map,take_map_len]) (by kernel_rfl)) ?_|refine bif_pos (app_row2 hc119 (by first|rfl|simp only [List.length_map]) (by first|rfl|simp only [List.length_map,take_map_len]) (by kernel_rfl)) ?_
 have hp117:(List.map c_api_Stmt (s2++([(⟨y20.1.f_Kind,y20.1.f_Reg,y20.1.f_Loc,y20.1.f_E,y20.1.f_F,y20.1.f_Ne,0,0,y20.1.f_At⟩:S_api_Stmt)]:List S_api_Stmt)):List (List AV))++([]:List (List AV))=(List.map c_api_Stmt (s2++([(⟨y20.1.f_Kind,y20.1.f_Reg,y20.1.f_Loc,y20.1.f_E,y20.1.f_F,y20.1.f_Ne,0,0,y20.1.f_At⟩:S_api_Stmt)]:List S_api_Stmt)):List (List AV)):=List.append_nil _
 have hl118:List.length (List.map c_api_Stmt (s2++([(⟨y20.1.f_Kind,y20.1.f_Reg,y20.1.f_Loc,y20.1.f_E,y20.1.f_F,y20.1.f_Ne,0,0,y20.1.f_At⟩:S_api_Stmt)]:List S_api_Stmt)):List (List AV))+List.length ([]:List (List AV))=List.length (List.map c_api_Stmt (s2++([(⟨y20.1.f_Kind,y20.1.f_Reg,y20.1.f_Loc,y20.1.f_E,y20.1.f_F,y20.1.f_Ne,0,0,y20.1.f_At⟩:S_api_Stmt)]:List S_api_Stmt)):List (List AV)):=rfl
 have hl118_b:List.length (s2++([(⟨y20.1.f_Kind,y20.1.f_Reg,y20.1.f_Loc,y20.1.f_E,y20.1.f_F,y20.1.f_Ne,0,0,y20.1.f_At⟩:S_api_Stmt)]:List S_api_Stmt))+List.length ([]:List (List AV))=List.length (s2++([(⟨y20.1.f_Kind,y20.1.f_Reg,y20.1.f_Loc,y20.1.f_E,y20.1.f_F,y20.1.f_Ne,0,0,y20.1.f_At⟩:S_api_Stmt)]:List S_api_Stmt)):=rfl
 try simp only [ls,c0]
 try simp only [hp117,hl118,hl118_b]
 try simp only [ls]
 conv=>lhs;whnf
 revert h
 exact fun h=>cq (hcont8 (y20.2.1,(s2++([(⟨y20.1.f_Kind,y20.1.f_Reg,y20.1.f_Loc,y20.1.f_E,y20.1.f_F,y20.1.f_Ne,0,0,y20.1.f_At⟩:S_api_Stmt)]:List S_api_Stmt))) (fun _=>0) h)
 intro h;cases sj h
 exact kq (hr9 (fun _=>0))
 refine lrc ?_ ?_
 intro v e;subst e;cases sj h;rfl
 intro t a120 e;subst e
 obtain ⟨x121,x122⟩:=t
 dsimp only at h
 conv=>lhs;whnf
 revert h
 intro h;cases sj h
 try simp only [ls]
 exact fq (y:=some (AV.tup [AV.sl 9 (List.take (List.length x122) (List.map c_api_Stmt x122)),iA x121,iA (0),iA (0)],[]))
theorem all_ref03_braced : ∀ n, IH_ref03_braced n
  | 0 => ⟨by unfold OK_ref03_braced; intros; rename_i h; exact absurd h (by intro h; cases h), by unfold OK_ref03_list; intros; rename_i h; exact absurd h (by intro h; cases h)⟩
  | n + 1 => have ih := all_ref03_braced n
    ⟨st_ref03_braced n ih, st_ref03_list n ih⟩
theorem ok_ref03_list {n : Nat} : OK_ref03_list n := (all_ref03_braced n).2
theorem ok_ref03_Parse {n:Nat} ⦃v0_l:(List S_api_Token)⦄ ⦃v1_i:Int⦄ ⦃r:((List S_api_Stmt)×Int×Int×Int)⦄:m_ref03_Parse n v0_l v1_i=some r→CN n 79 [AV.sl 4 (List.map c_api_Token v0_l),iA v1_i] []=some (AV.tup [AV.sl 9 (List.map c_api_Stmt r.1),iA r.2.1,iA r.2.2.1,iA r.2.2.2],[]):=by
 intro h;rcases n with _|n;cases h
 rw [m_ref03_Parse] at h
 refine callN_eq' Tryz.func79 (by rfl) rfl rfl (Nat.le_of_ble_eq_true rfl) ?_
 intro call hc;conv=>lhs;whnf
 revert h
 refine br ?_ ?_
 exact rz
 refine br ?_ ?_
 exact rz
 refine ca hc (fun _ h=>ok_ref03_list h) ?_;intro y3
 refine br ?_ ?_
 exact rz
 refine br ?_ ?_
 refine ca hc (fun _ h=>ok_ref02_Place h) ?_;intro y7
 exact rz
 exact rz
theorem ok_ref03_Light {n:Nat} ⦃v0_l:(List S_api_Stmt)⦄ ⦃r:Bool⦄:m_ref03_Light n v0_l=some r→CN n 13 [AV.sl 9 (List.map c_api_Stmt v0_l)] []=some (bA r,[]):=by
 intro h;rcases n with _|n;cases h
 rw [m_ref03_Light] at h
 refine callN_eq' Tryz.func13 (by rfl) rfl rfl (Nat.le_of_ble_eq_true rfl) ?_
 intro call hc;conv=>lhs;whnf
 revert h
 refine br ?_ ?_
 exact rz
 intro h;refine bind_some2 h ?_;clear h;intro o10 ho10 h
 refine lq (σ:=Int) (τ:=Unit) (ν:=Bool) 0 (fun s2 a4=>stOf 47 [(0,AV.sl 9 (List.map c_api_Stmt v0_l)),(3,iA s2)]) (fun s2 a4=>[]) (fun _ a24=>stOf 47 []) (fun _ a24=>[]) (fun v=>(bA v,[])) (fun k s=>ref03_Light_L0 n v0_l k s) (fun s=>rfl) o10 n 0 (fun _=>0) ho10 ?_ ?_
 intro k3 s2 a4 K5 cont6 hK7 hcont8 h hr9
 replace h:ref03_Light_L0 n v0_l (k3+1) s2=some o10:=h
 rw [ref03_Light_L0] at h
 conv=>lhs;whnf
 revert h
 refine br ?_ ?_
 refine ix ?_;intro x12
 refine br ?_ ?_
 intro h;cases sj h
 refine (hK7 _ _).trans ?_
 refine Eq.trans ?_ (Eq.symm (show _=some _ from hr9))
 conv=>lhs;whnf
 exact rq
 refine ix ?_;intro x14
 refine br ?_ ?_
 intro h;cases sj h
 refine (hK7 _ _).trans ?_
 refine Eq.trans ?_ (Eq.symm (show _=some _ from hr9))
 conv=>lhs;whnf
 exact rq
 refine ix ?_;intro x16
 refine ca hc (fun _ h=>ok_ref02_Light h) ?_;intro y17
 refine br ?_ ?_
 refine ix ?_;intro x20
 refine ca hc (fun _ h=>ok_ref02_Light h) ?_;intro y21
 refine br ?_ ?_
 exact fun h=>cq (hcont8 (IntKind.i64.wrap (s2+1)) (fun _=>0) h)
 intro h;cases sj h
 refine (hK7 _ _).trans ?_
 refine Eq.trans ?_ (Eq.symm (show _=some _ from hr9))
 conv=>lhs;whnf
 exact rq
 intro h;cases sj h
 refine (hK7 _ _).trans ?_
 refine Eq.trans ?_ (Eq.symm (show _=some _ from hr9))
 conv=>lhs;whnf
 exact rq
 intro h;cases sj h
 exact kq (hr9 (fun _=>0))
 refine lrc ?_ ?_
 intro v e;subst e;cases sj h;rfl
 intro t a24 e;subst e
 dsimp only at h
 conv=>lhs;whnf
 revert h
 exact rz
theorem ok_ref03_tops {n:Nat} ⦃v0_l:(List S_api_Stmt)⦄ ⦃v1_from:Int⦄ ⦃v2_to:Int⦄ ⦃r:(List Int)⦄:m_ref03_tops n v0_l v1_from v2_to=some r→CN n 87 [AV.sl 9 (List.map c_api_Stmt v0_l),iA v1_from,iA v2_to] []=some (AV.sl 1 (List.map encI r),[]):=by
 intro h;rcases n with _|n;cases h
 rw [m_ref03_tops] at h
 refine callN_eq' Tryz.func87 (by rfl) rfl rfl (Nat.le_of_ble_eq_true rfl) ?_
 intro call hc;conv=>lhs;whnf
 revert h
 intro h;refine bind_some2 h ?_;clear h;intro o10 ho10 h
 refine lq (σ:=(Int×(List Int))) (τ:=(List Int)) (ν:=(List Int)) 0 (fun (s1,s2) a4=>stOf 30 [(0,AV.sl 9 (List.map c_api_Stmt v0_l)),(1,iA s1),(2,iA v2_to),(7,AV.row 0 (List.length s2))]) (fun (s1,s2) a4=>[Ob.row 3 1 (List.map encI s2)]) (fun x17 a16=>stOf 30 [(7,AV.row 0 (List.length x17))]) (fun x17 a16=>[Ob.row 3 1 (List.map encI x17)]) (fun v=>(AV.sl 1 (List.map encI v),[])) (fun k s=>ref03_tops_L0 n v0_l v2_to k s.1 s.2) (fun s=>rfl) o10 n (v1_from,([]:List Int)) (fun _=>0) ho10 ?_ ?_
 intro k3 ss a4 K5 cont6 hK7 hcont8 h hr9
 obtain ⟨s1,s2⟩:=ss
 replace h:ref03_tops_L0 n v0_l v2_to (k3+1) s1 s2=some o10:=h
 rw [ref03_tops_L0] at h
 conv=>lhs;whnf
 revert h
 refine br ?_ ?_
 refine ar (ap encI (List.map encI s2) s2 ([[iA s1]]) ([s1]:List Int)) ?_
 refine ix ?_;intro x14
 refine ix ?_;intro x15
 exact fun h=>cq (hcont8 (IntKind.i64.wrap ((IntKind.i64.wrap ((IntKind.i64.wrap (s1+1))+x14.f_Body))+x15.f_Else),(s2++([s1]:List Int))) (fun _=>0) h)
 intro h;cases sj h
 exact kq (hr9 (fun _=>0))
 refine lrc ?_ ?_
 intro v e;subst e;cases sj h;rfl
 intro x17 a16 e;subst e
 dsimp only at h
 conv=>lhs;whnf
 revert h
 intro h;obtain rfl:=sj h
 try simp only [ls]
 exact fq (y:=some (AV.sl 1 (List.take (List.length x17) (List.map encI x17)),[]))
def OK_ref03_deep (n:Nat):Prop:=∀ ⦃v0_l:(List S_api_Stmt)⦄ ⦃v1_from:Int⦄ ⦃v2_to:Int⦄ ⦃r:Int⦄,m_ref03_deep n v0_l v1_from v2_to=some r→CN n 60 [AV.sl 9 (List.map c_api_Stmt v0_l),iA v1_from,iA v2_to] []=some (iA r,[])
def IH_ref03_deep (n : Nat) : Prop := OK_ref03_deep n
theorem st_ref03_deep (n:Nat) (ih:IH_ref03_deep n):OK_ref03_deep (n+1):=by
 intro v0_l v1_from v2_to r h
 rw [m_ref03_deep] at h
 refine callN_eq' Tryz.func60 (by rfl) rfl rfl (Nat.le_of_ble_eq_true rfl) ?_
 intro call hc;conv=>lhs;whnf
 revert h
 refine ca hc (fun _ h=>ok_ref03_tops h) ?_;intro y1
 intro h;refine bind_some2 h ?_;clear h;intro o12 ho12 h
 refine lq (σ:=(Int×Int)) (τ:=Int) (ν:=Int) 0 (fun (s3,s4) a6=>stOf 60 [(0,AV.sl 9 (List.map c_api_Stmt v0_l)),(7,iA s3),(8,AV.sl 1 (List.map encI y1)),(9,iA s4)]) (fun (s3,s4) a6=>[]) (fun x26 a25=>stOf 60 [(7,iA x26)]) (fun x26 a25=>[]) (fun v=>(iA v,[])) (fun k s=>ref03_deep_L0 n (m_ref03_deep n) v0_l y1 k s.1 s.2) (fun s=>rfl) o12 n (0,0) (fun _=>0) ho12 ?_ ?_
 intro k5 ss a6 K7 cont8 hK9 hcont10 h hr11
 obtain ⟨s3,s4⟩:=ss
 replace h:ref03_deep_L0 n (m_ref03_deep n) v0_l y1 (k5+1) s3 s4=some o12:=h
 rw [ref03_deep_L0] at h
 conv=>lhs;whnf
 revert h
 refine br ?_ ?_
 refine ix ?_;intro x14
 refine ix ?_;intro x15
 refine ca hc (fun _ h=>ok_ref03_block h) ?_;intro y16
 refine br ?_ ?_
 refine ix ?_;intro x19
 refine ix ?_;intro x20
 refine ca hc (fun _ h=>ih h) ?_;intro y21
 refine ca hc (fun _ h=>ih h) ?_;intro y23
 exact fun h=>cq (hcont10 (max3 s3 (IntKind.i64.wrap (1+y21)) (IntKind.i64.wrap (1+y23)),IntKind.i64.wrap (s4+1)) (fun _=>0) h)
 exact fun h=>cq (hcont10 (s3,IntKind.i64.wrap (s4+1)) (fun _=>0) h)
 intro h;cases sj h
 exact kq (hr11 (fun _=>0))
 refine lrc ?_ ?_
 intro v e;subst e;cases sj h;rfl
 intro x26 a25 e;subst e
 dsimp only at h
 conv=>lhs;whnf
 revert h
 exact rz
theorem all_ref03_deep : ∀ n, IH_ref03_deep n
  | 0 => by unfold IH_ref03_deep OK_ref03_deep; intros; rename_i h; exact absurd h (by intro h; cases h)
  | n + 1 => have ih := all_ref03_deep n
    st_ref03_deep n ih
theorem ok_ref03_deep {n : Nat} : OK_ref03_deep n := (all_ref03_deep n)
theorem ok_ref03_has {n:Nat} ⦃v0_l:(List UInt8)⦄ ⦃v1_c:Int⦄ ⦃r:Bool⦄:m_ref03_has n v0_l v1_c=some r→CN n 85 [sA v0_l,AV.int .u8 v1_c] []=some (bA r,[]):=by
 intro h;rcases n with _|n;cases h
 rw [m_ref03_has] at h
 refine callN_eq' Tryz.func85 (by rfl) rfl rfl (Nat.le_of_ble_eq_true rfl) ?_
 intro call hc;conv=>lhs;whnf
 revert h
 intro h;refine bind_some2 h ?_;clear h;intro o9 ho9 h
 refine lq (σ:=Int) (τ:=Unit) (ν:=Bool) 0 (fun s1 a3=>stOf 17 [(0,sA v0_l),(1,AV.int .u8 v1_c),(5,iA s1)]) (fun s1 a3=>[]) (fun _ a13=>stOf 17 []) (fun _ a13=>[]) (fun v=>(bA v,[])) (fun k s=>ref03_has_L0 n v0_l v1_c k s) (fun s=>rfl) o9 n 0 (fun _=>0) ho9 ?_ ?_
 intro k2 s1 a3 K4 cont5 hK6 hcont7 h hr8
 replace h:ref03_has_L0 n v0_l v1_c (k2+1) s1=some o9:=h
 rw [ref03_has_L0] at h
 conv=>lhs;whnf
 revert h
 refine br ?_ ?_
 refine ixs ?_;intro x11
 refine br ?_ ?_
 intro h;cases sj h
 refine (hK6 _ _).trans ?_
 refine Eq.trans ?_ (Eq.symm (show _=some _ from hr8))
 conv=>lhs;whnf
 exact rq
 exact fun h=>cq (hcont7 (IntKind.i64.wrap (s1+1)) (fun _=>0) h)
 intro h;cases sj h
 exact kq (hr8 (fun _=>0))
 refine lrc ?_ ?_
 intro v e;subst e;cases sj h;rfl
 intro t a13 e;subst e
 dsimp only at h
 conv=>lhs;whnf
 revert h
 exact rz
theorem ok_ref03_parts {n:Nat} ⦃v0_kind:Int⦄ ⦃r:((List UInt8)×Bool)⦄:m_ref03_parts n v0_kind=some r→CN n 84 [iA v0_kind] []=some (AV.tup [sA r.1,bA r.2],[]):=by
 intro h;rcases n with _|n;cases h
 rw [m_ref03_parts] at h
 refine callN_eq' Tryz.func84 (by rfl) rfl rfl (Nat.le_of_ble_eq_true rfl) ?_
 intro call hc;conv=>lhs;whnf
 revert h
 refine br ?_ ?_
 exact rz
 refine br ?_ ?_
 exact rz
 refine br ?_ ?_
 exact rz
 refine br ?_ ?_
 exact rz
 refine br ?_ ?_
 exact rz
 refine br ?_ ?_
 exact rz
 refine br ?_ ?_
 exact rz
 refine br ?_ ?_
 exact rz
 refine br ?_ ?_
 exact rz
 refine br ?_ ?_
 exact rz
 refine br ?_ ?_
 exact rz
 refine br ?_ ?_
 exact rz
 refine br ?_ ?_
 exact rz
 exact rz
end Go.Proofs.YtpnhafdimkmbbaaGreat
end
section
namespace Go.Proofs.YtpnhafdimkmbbaaGreat
set_option linter.unusedVariables false
set_option linter.unusedSimpArgs false
set_option maxRecDepth 100000
set_option maxHeartbeats 4000000
theorem ok_ref03_one {n:Nat} ⦃v0_x:S_api_Stmt⦄ ⦃r:Bool⦄:m_ref03_one n v0_x=some r→CN n 59 [AV.agg [iA v0_x.f_Kind,sA v0_x.f_Reg,sA v0_x.f_Loc,AV.sl 5 (List.map c_api_Node v0_x.f_E),AV.sl 5 (List.map c_api_Node v0_x.f_F),bA v0_x.f_Ne,iA v0_x.f_Body,iA v0_x.f_Else,iA v0_x.f_At]] []=some (bA r,[]):=by
 intro h;rcases n with _|n;cases h
 rw [m_ref03_one] at h
 refine callN_eq' Tryz.func59 (by rfl) rfl rfl (Nat.le_of_ble_eq_true rfl) ?_
 intro call hc;conv=>lhs;whnf
 revert h
 refine ca hc (fun _ h=>ok_ref03_parts h) ?_;intro y1
 refine br ?_ ?_
 refine br ?_ ?_
 exact rz
 refine rj (α:=Bool) (fun j5=>stOf 117 [(1,AV.ptr 0 0),(3,sA y1.1),(51,bA j5)]) (fun _=>[Ob.var 59 [iA v0_x.f_Kind,sA v0_x.f_Reg,sA v0_x.f_Loc,AV.sl 5 (List.map c_api_Node v0_x.f_E),AV.sl 5 (List.map c_api_Node v0_x.f_F),bA v0_x.f_Ne,iA v0_x.f_Body,iA v0_x.f_Else,iA v0_x.f_At]]) ?_ ?_
 intro K122 b123 h;conv=>lhs;whnf
 revert h
 refine ca hc (fun _ h=>ok_ref03_has h) ?_;intro y6
 refine ca hc (fun _ h=>ok_ref01_Name h) ?_;intro y8
 refine br ?_ ?_
 refine ca hc (fun _ h=>ok_ref03_has h) ?_;intro y11
 refine br ?_ ?_
 refine ca hc (fun _ h=>ok_ref03_has h) ?_;intro y14
 refine ca hc (fun _ h=>ok_ref01_Name h) ?_;intro y16
 refine br ?_ ?_
 refine ca hc (fun _ h=>ok_ref03_has h) ?_;intro y19
 refine br ?_ ?_
 exact rz
 exact rz
 exact rz
 refine br ?_ ?_
 refine ca hc (fun _ h=>ok_ref03_has h) ?_;intro y23
 refine ca hc (fun _ h=>ok_ref01_Name h) ?_;intro y25
 refine br ?_ ?_
 refine ca hc (fun _ h=>ok_ref03_has h) ?_;intro y28
 refine br ?_ ?_
 exact rz
 exact rz
 exact rz
 exact rz
 exact rz
 intro j5 h;conv=>lhs;whnf
 revert h
 refine br ?_ ?_
 exact rz
 refine rj (α:=Bool) (fun j32=>stOf 117 [(1,AV.ptr 0 0),(3,sA y1.1),(91,bA j32)]) (fun _=>[Ob.var 59 [iA v0_x.f_Kind,sA v0_x.f_Reg,sA v0_x.f_Loc,AV.sl 5 (List.map c_api_Node v0_x.f_E),AV.sl 5 (List.map c_api_Node v0_x.f_F),bA v0_x.f_Ne,iA v0_x.f_Body,iA v0_x.f_Else,iA v0_x.f_At]]) ?_ ?_
 intro K120 b121 h;conv=>lhs;whnf
 revert h
 refine ca hc (fun _ h=>ok_ref03_has h) ?_;intro y33
 refine br ?_ ?_
 refine ca hc (fun _ h=>ok_ref03_Plain h) ?_;intro y36
 refine br ?_ ?_
 refine ca hc (fun _ h=>ok_ref03_has h) ?_;intro y39
 refine br ?_ ?_
 refine ca hc (fun _ h=>ok_ref03_has h) ?_;intro y42
 refine br ?_ ?_
 refine ca hc (fun _ h=>ok_ref03_Plain h) ?_;intro y45
 refine br ?_ ?_
 refine ca hc (fun _ h=>ok_ref03_has h) ?_;intro y48
 refine br ?_ ?_
 exact rz
 exact rz
 exact rz
 refine ca hc (fun _ h=>ok_ref03_has h) ?_;intro y51
 refine br ?_ ?_
 exact rz
 exact rz
 refine br ?_ ?_
 exact rz
 refine ca hc (fun _ h=>ok_ref03_has h) ?_;intro y55
 refine br ?_ ?_
 refine ca hc (fun _ h=>ok_ref03_Plain h) ?_;intro y58
 refine br ?_ ?_
 refine ca hc (fun _ h=>ok_ref03_has h) ?_;intro y61
 refine br ?_ ?_
 exact rz
 exact rz
 exact rz
 refine ca hc (fun _ h=>ok_ref03_has h) ?_;intro y64
 refine br ?_ ?_
 exact rz
 exact rz
 exact rz
 refine ca hc (fun _ h=>ok_ref03_has h) ?_;intro y67
 refine br ?_ ?_
 refine ca hc (fun _ h=>ok_ref03_has h) ?_;intro y70
 refine br ?_ ?_
 refine ca hc (fun _ h=>ok_ref03_Plain h) ?_;intro y73
 refine br ?_ ?_
 refine ca hc (fun _ h=>ok_ref03_has h) ?_;intro y76
 refine br ?_ ?_
 exact rz
 exact rz
 exact rz
 refine ca hc (fun _ h=>ok_ref03_has h) ?_;intro y79
 refine br ?_ ?_
 exact rz
 exact rz
 refine br ?_ ?_
 exact rz
 refine ca hc (fun _ h=>ok_ref03_has h) ?_;intro y83
 refine br ?_ ?_
 refine ca hc (fun _ h=>ok_ref03_Plain h) ?_;intro y86
 refine br ?_ ?_
 refine ca hc (fun _ h=>ok_ref03_has h) ?_;intro y89
 refine br ?_ ?_
 exact rz
 exact rz
 exact rz
 refine ca hc (fun _ h=>ok_ref03_has h) ?_;intro y92
 refine br ?_ ?_
 exact rz
 exact rz
 intro j32 h;conv=>lhs;whnf
 revert h
 refine br ?_ ?_
 exact rz
 refine ca hc (fun _ h=>ok_ref03_has h) ?_;intro y96
 refine br ?_ ?_
 refine ca hc (fun _ h=>ok_ref03_has h) ?_;intro y99
 refine br ?_ ?_
 refine ca hc (fun _ h=>ok_ref03_has h) ?_;intro y102
 refine br ?_ ?_
 exact rz
 exact rz
 refine br ?_ ?_
 refine ca hc (fun _ h=>ok_ref03_has h) ?_;intro y106
 refine br ?_ ?_
 exact rz
 exact rz
 exact rz
 refine br ?_ ?_
 exact rz
 refine ca hc (fun _ h=>ok_ref03_has h) ?_;intro y110
 refine br ?_ ?_
 refine ca hc (fun _ h=>ok_ref03_has h) ?_;intro y113
 refine br ?_ ?_
 exact rz
 exact rz
 refine br ?_ ?_
 refine ca hc (fun _ h=>ok_ref03_has h) ?_;intro y117
 refine br ?_ ?_
 exact rz
 exact rz
 exact rz
 exact rz
def OK_ref03_whole (n:Nat):Prop:=∀ ⦃v0_l:(List S_api_Stmt)⦄ ⦃v1_from:Int⦄ ⦃v2_to:Int⦄ ⦃r:Bool⦄,m_ref03_whole n v0_l v1_from v2_to=some r→CN n 58 [AV.sl 9 (List.map c_api_Stmt v0_l),iA v1_from,iA v2_to] []=some (bA r,[])
def IH_ref03_whole (n : Nat) : Prop := OK_ref03_whole n
theorem st_ref03_whole (n:Nat) (ih:IH_ref03_whole n):OK_ref03_whole (n+1):=by
 intro v0_l v1_from v2_to r h
 rw [m_ref03_whole] at h
 refine callN_eq' Tryz.func58 (by rfl) rfl rfl (Nat.le_of_ble_eq_true rfl) ?_
 intro call hc;conv=>lhs;whnf
 revert h
 intro h;refine bind_some2 h ?_;clear h;intro o9 ho9 h
 refine lq (σ:=Int) (τ:=Unit) (ν:=Bool) 0 (fun s1 a3=>stOf 70 [(0,AV.sl 9 (List.map c_api_Stmt v0_l)),(1,iA s1),(2,iA v2_to)]) (fun s1 a3=>[]) (fun _ a22=>stOf 70 []) (fun _ a22=>[]) (fun v=>(bA v,[])) (fun k s=>ref03_whole_L0 n (m_ref03_whole n) v0_l v2_to k s) (fun s=>rfl) o9 n v1_from (fun _=>0) ho9 ?_ ?_
 intro k2 s1 a3 K4 cont5 hK6 hcont7 h hr8
 replace h:ref03_whole_L0 n (m_ref03_whole n) v0_l v2_to (k2+1) s1=some o9:=h
 rw [ref03_whole_L0] at h
 conv=>lhs;whnf
 revert h
 refine br ?_ ?_
 refine ix ?_;intro x11
 refine br ?_ ?_
 intro h;cases sj h
 refine (hK6 _ _).trans ?_
 refine Eq.trans ?_ (Eq.symm (show _=some _ from hr8))
 conv=>lhs;whnf
 exact rq
 refine br ?_ ?_
 intro h;cases sj h
 refine (hK6 _ _).trans ?_
 refine Eq.trans ?_ (Eq.symm (show _=some _ from hr8))
 conv=>lhs;whnf
 exact rq
 refine br ?_ ?_
 intro h;cases sj h
 refine (hK6 _ _).trans ?_
 refine Eq.trans ?_ (Eq.symm (show _=some _ from hr8))
 conv=>lhs;whnf
 exact rq
 refine br ?_ ?_
 intro h;cases sj h
 refine (hK6 _ _).trans ?_
 refine Eq.trans ?_ (Eq.symm (show _=some _ from hr8))
 conv=>lhs;whnf
 exact rq
 refine ca hc (fun _ h=>ih h) ?_;intro y16
 refine br ?_ ?_
 refine ca hc (fun _ h=>ih h) ?_;intro y19
 refine br ?_ ?_
 exact fun h=>cq (hcont7 (IntKind.i64.wrap ((IntKind.i64.wrap ((IntKind.i64.wrap (s1+1))+x11.f_Body))+x11.f_Else)) (fun _=>0) h)
 intro h;cases sj h
 refine (hK6 _ _).trans ?_
 refine Eq.trans ?_ (Eq.symm (show _=some _ from hr8))
 conv=>lhs;whnf
 exact rq
 intro h;cases sj h
 refine (hK6 _ _).trans ?_
 refine Eq.trans ?_ (Eq.symm (show _=some _ from hr8))
 conv=>lhs;whnf
 exact rq
 intro h;cases sj h
 exact kq (hr8 (fun _=>0))
 refine lrc ?_ ?_
 intro v e;subst e;cases sj h;rfl
 intro t a22 e;subst e
 dsimp only at h
 conv=>lhs;whnf
 revert h
 exact rz
theorem all_ref03_whole : ∀ n, IH_ref03_whole n
  | 0 => by unfold IH_ref03_whole OK_ref03_whole; intros; rename_i h; exact absurd h (by intro h; cases h)
  | n + 1 => have ih := all_ref03_whole n
    st_ref03_whole n ih
theorem ok_ref03_whole {n : Nat} : OK_ref03_whole n := (all_ref03_whole n)
theorem ok_ref03_Right {n:Nat} ⦃v0_l:(List S_api_Stmt)⦄ ⦃r:Bool⦄:m_ref03_Right n v0_l=some r→CN n 29 [AV.sl 9 (List.map c_api_Stmt v0_l)] []=some (bA r,[]):=by
 intro h;rcases n with _|n;cases h
 rw [m_ref03_Right] at h
 refine callN_eq' Tryz.func29 (by rfl) rfl rfl (Nat.le_of_ble_eq_true rfl) ?_
 intro call hc;conv=>lhs;whnf
 revert h
 refine br ?_ ?_
 exact rz
 refine cr hc (fun _ h=>ok_ref03_whole h) ?_;intro y2
 refine br ?_ ?_
 intro h;refine bind_some2 h ?_;clear h;intro o13 ho13 h
 refine lq (σ:=Int) (τ:=Unit) (ν:=Bool) 0 (fun s5 a7=>stOf 31 [(0,AV.sl 9 (List.map c_api_Stmt v0_l)),(3,iA s5)]) (fun s5 a7=>[]) (fun _ a19=>stOf 31 [(0,AV.sl 9 (List.map c_api_Stmt v0_l))]) (fun _ a19=>[]) (fun v=>(bA v,[])) (fun k s=>ref03_Right_L0 n v0_l k s) (fun s=>rfl) o13 n 0 (fun _=>0) ho13 ?_ ?_
 intro k6 s5 a7 K8 cont9 hK10 hcont11 h hr12
 replace h:ref03_Right_L0 n v0_l (k6+1) s5=some o13:=h
 rw [ref03_Right_L0] at h
 conv=>lhs;whnf
 revert h
 refine br ?_ ?_
 refine ix ?_;intro x15
 refine ca hc (fun _ h=>ok_ref03_one h) ?_;intro y16
 refine br ?_ ?_
 exact fun h=>cq (hcont11 (IntKind.i64.wrap (s5+1)) (fun _=>0) h)
 intro h;cases sj h
 refine (hK10 _ _).trans ?_
 refine Eq.trans ?_ (Eq.symm (show _=some _ from hr12))
 conv=>lhs;whnf
 exact rq
 intro h;cases sj h
 exact kq (hr12 (fun _=>0))
 refine lrc ?_ ?_
 intro v e;subst e;cases sj h;rfl
 intro t a19 e;subst e
 dsimp only at h
 conv=>lhs;whnf
 revert h
 refine cr hc (fun _ h=>ok_ref03_deep h) ?_;intro y20
 exact rz
 exact rz
end Go.Proofs.YtpnhafdimkmbbaaGreat
end
section
namespace Go.Proofs.YtpnhafdimkmbbaaGreat
set_option linter.unusedVariables false
set_option linter.unusedSimpArgs false
set_option maxRecDepth 100000
set_option maxHeartbeats 4000000
theorem ok_ref04_state_fault {n:Nat} ⦃v1_e:Int⦄ ⦃v2_at:Int⦄ ⦃s_l:(List S_api_Token)⦄ ⦃s_i:Int⦄ ⦃s_e:Int⦄ ⦃s_at:Int⦄ ⦃r:(Int×Int)⦄:m_ref04_state_fault n v1_e v2_at s_l s_i s_e s_at=some r→CN n 80 [AV.ptr 0 0,iA v1_e,iA v2_at] [Ob.var 77 [AV.sl 4 (List.map c_api_Token s_l),iA s_i,iA s_e,iA s_at]]=some (AV.tup [],[Ob.var 77 [AV.sl 4 (List.map c_api_Token s_l),iA s_i,iA r.1,iA r.2]]):=by
 intro h;rcases n with _|n;cases h
 rw [m_ref04_state_fault] at h
 refine callN_eq' Tryz.func80 (by rfl) rfl rfl (Nat.le_of_ble_eq_true rfl) ?_
 intro call hc;conv=>lhs;whnf
 revert h
 refine br ?_ ?_
 refine br ?_ ?_
 exact rz
 exact rz
 exact rz
theorem ok_ref04_state_wrong {n:Nat} ⦃s_l:(List S_api_Token)⦄ ⦃s_i:Int⦄ ⦃s_e:Int⦄ ⦃s_at:Int⦄ ⦃r:(Int×Int)⦄:m_ref04_state_wrong n s_l s_i s_e s_at=some r→CN n 48 [AV.ptr 0 0] [Ob.var 77 [AV.sl 4 (List.map c_api_Token s_l),iA s_i,iA s_e,iA s_at]]=some (AV.tup [],[Ob.var 77 [AV.sl 4 (List.map c_api_Token s_l),iA s_i,iA r.1,iA r.2]]):=by
 intro h;rcases n with _|n;cases h
 rw [m_ref04_state_wrong] at h
 refine callN_eq' Tryz.func48 (by rfl) rfl rfl (Nat.le_of_ble_eq_true rfl) ?_
 intro call hc;conv=>lhs;whnf
 revert h
 refine br ?_ ?_
 refine ca hc (fun _ h=>ok_ref03_Wrong h) ?_;intro y2
 exact rz
 exact rz
theorem ok_ref04_state_sign {n:Nat} ⦃v1_w:(List UInt8)⦄ ⦃s_l:(List S_api_Token)⦄ ⦃s_i:Int⦄ ⦃s_e:Int⦄ ⦃s_at:Int⦄ ⦃r:(Int×Int×Int)⦄:m_ref04_state_sign n v1_w s_l s_i s_e s_at=some r→CN n 50 [AV.ptr 0 0,sA v1_w] [Ob.var 77 [AV.sl 4 (List.map c_api_Token s_l),iA s_i,iA s_e,iA s_at]]=some (AV.tup [],[Ob.var 77 [AV.sl 4 (List.map c_api_Token s_l),iA r.1,iA r.2.1,iA r.2.2]]):=by
 intro h;rcases n with _|n;cases h
 rw [m_ref04_state_sign] at h
 refine callN_eq' Tryz.func50 (by rfl) rfl rfl (Nat.le_of_ble_eq_true rfl) ?_
 intro call hc;conv=>lhs;whnf
 revert h
 refine br ?_ ?_
 refine ca hc (fun _ h=>ok_ref02_Is h) ?_;intro y2
 refine br ?_ ?_
 exact rz
 refine ca hc (fun _ h=>ok_ref04_state_wrong h) ?_;intro y5
 exact rz
 refine ca hc (fun _ h=>ok_ref04_state_wrong h) ?_;intro y7
 exact rz
theorem ok_ref04_state_claim {n:Nat} ⦃v1_kind:Int⦄ ⦃s_l:(List S_api_Token)⦄ ⦃s_i:Int⦄ ⦃s_e:Int⦄ ⦃s_at:Int⦄ ⦃r:(S_api_Claim×Int×Int×Int)⦄:m_ref04_state_claim n v1_kind s_l s_i s_e s_at=some r→CN n 54 [AV.ptr 0 0,iA v1_kind] [Ob.var 77 [AV.sl 4 (List.map c_api_Token s_l),iA s_i,iA s_e,iA s_at]]=some (AV.agg [iA r.1.f_Kind,AV.sl 5 (List.map c_api_Node r.1.f_E),iA r.1.f_At],[Ob.var 77 [AV.sl 4 (List.map c_api_Token s_l),iA r.2.1,iA r.2.2.1,iA r.2.2.2]]):=by
 intro h;rcases n with _|n;cases h
 rw [m_ref04_state_claim] at h
 refine callN_eq' Tryz.func54 (by rfl) rfl rfl (Nat.le_of_ble_eq_true rfl) ?_
 intro call hc;conv=>lhs;whnf
 revert h
 refine ix ?_;intro x1
 refine tw hc (fun _ h=>ok_ref02_Parse h) (fun _ h=>adoCall_thaw (p:=[1,1,2,2,1]) (q:=[1,2,1,1]) h Tryz.func82 (by kernel_rfl) (by kernel_rfl) (by kernel_rfl) (by kernel_rfl) (by rfl) (kinds_map (by exact fun _=>rfl) _) (kinds_map (by exact fun _=>rfl) _)) ?_;intro y2
 refine nb ?_ ?_
 refine ca hc (fun _ h=>ok_ref04_state_fault h) ?_;intro y4
 intro h;refine bind_some2 h ?_;clear h;intro o13 ho13 h
 refine lq (σ:=Unit) (τ:=Unit) (ν:=(S_api_Claim×Int×Int×Int)) 0 (fun _ a7=>stOf 79 [(0,AV.ptr 0 0),(4,AV.ptr 1 0),(5,AV.ptr 2 0),(6,AV.sl 5 []),(7,iA y2.2.1),(10,iA (0))]) (fun _ a7=>[Ob.var 77 [AV.sl 4 (List.map c_api_Token s_l),iA (IntKind.i64.wrap (s_i+1)),iA y4.1,iA y4.2],Ob.var 45 [iA (0),AV.nils,iA (0)],Ob.var 45 [iA v1_kind,AV.nils,iA x1.f_At]]) (fun _ a14=>stOf 79 [(0,AV.ptr 0 0),(4,AV.ptr 1 0),(5,AV.ptr 2 0),(6,AV.sl 5 []),(7,iA y2.2.1)]) (fun _ a14=>[Ob.var 77 [AV.sl 4 (List.map c_api_Token s_l),iA (IntKind.i64.wrap (s_i+1)),iA y4.1,iA y4.2],Ob.var 45 [iA (0),AV.nils,iA (0)],Ob.var 45 [iA v1_kind,AV.nils,iA x1.f_At]]) (fun v=>(AV.agg [iA v.1.f_Kind,AV.sl 5 (List.map c_api_Node v.1.f_E),iA v.1.f_At],[Ob.var 77 [AV.sl 4 (List.map c_api_Token s_l),iA v.2.1,iA v.2.2.1,iA v.2.2.2]])) (fun k s=>ref04_state_claim_L0 n k) (fun s=>rfl) o13 n () (fun _=>0) ho13 ?_ ?_
 intro k6 ss a7 K8 cont9 hK10 hcont11 h hr12
 replace h:ref04_state_claim_L0 n (k6+1)=some o13:=h
 rw [ref04_state_claim_L0] at h
 conv=>lhs;whnf
 revert h
 intro h;cases sj h
 exact kq (hr12 (fun _=>0))
 refine lrc ?_ ?_
 intro v e;subst e;cases sj h;rfl
 intro t a14 e;subst e
 dsimp only at h
 conv=>lhs;whnf
 revert h
 refine br ?_ ?_
 refine ca hc (fun _ h=>ok_ref04_state_sign h) ?_;intro y16
 exact rz
 refine ca hc (fun _ h=>ok_ref04_state_sign h) ?_;intro y18
 exact rz
 refine ca hc (fun _ h=>ok_ref04_state_fault h) ?_;intro y21
 intro h;refine bind_some2 h ?_;clear h;intro o32 ho32 h
 refine lq (σ:=(Int×(List S_api_Node))) (τ:=(List S_api_Node)) (ν:=(S_api_Claim×Int×Int×Int)) 0 (fun (s23,s24) a26=>stOf 79 [(0,AV.ptr 0 0),(4,AV.ptr 1 0),(5,AV.ptr 2 0),(6,AV.own 3 0 (List.length s24)),(7,iA y2.2.1),(10,iA s23)]) (fun (s23,s24) a26=>[Ob.var 77 [AV.sl 4 (List.map c_api_Token s_l),iA (IntKind.i64.wrap (s_i+1)),iA y21.1,iA y21.2],Ob.var 45 [iA (0),AV.nils,iA (0)],Ob.var 45 [iA v1_kind,AV.nils,iA x1.f_At],Ob.arr 5 (List.map c_api_Node s24)]) (fun x39 a38=>stOf 79 [(0,AV.ptr 0 0),(4,AV.ptr 1 0),(5,AV.ptr 2 0),(6,AV.own 3 0 (List.length x39)),(7,iA y2.2.1)]) (fun x39 a38=>[Ob.var 77 [AV.sl 4 (List.map c_api_Token s_l),iA (IntKind.i64.wrap (s_i+1)),iA y21.1,iA y21.2],Ob.var 45 [iA (0),AV.nils,iA (0)],Ob.var 45 [iA v1_kind,AV.nils,iA x1.f_At],Ob.arr 5 (List.map c_api_Node x39)]) (fun v=>(AV.agg [iA v.1.f_Kind,AV.sl 5 (List.map c_api_Node v.1.f_E),iA v.1.f_At],[Ob.var 77 [AV.sl 4 (List.map c_api_Token s_l),iA v.2.1,iA v.2.2.1,iA v.2.2.2]])) (fun k s=>ref04_state_claim_L1 n k s.1 s.2) (fun s=>rfl) o32 n (0,y2.1) (fun _=>0) ho32 ?_ ?_
 intro k25 ss a26 K27 cont28 hK29 hcont30 h hr31
 obtain ⟨s23,s24⟩:=ss
 replace h:ref04_state_claim_L1 n (k25+1) s23 s24=some o32:=h
 rw [ref04_state_claim_L1] at h
 conv=>lhs;whnf
 revert h
 refine br ?_ ?_
 intro h
 refine bind_some2 h ?_;clear h;intro x34 hx34 h
 try simp only [ls]
 refine bif_pos (by first|exact idx_in hx34|exact idx_in' hx34|exact own_in hx34|exact own_in' hx34|(have q:=idx_in hx34;simp only [List.length_set] at q;exact q)|(have q:=own_in' hx34;simp only [List.length_set,Nat.zero_add] at q ⊢;exact q)) ?_
 conv=>lhs;whnf
 try simp only [Nat.zero_add,idx_nth (f:=c_api_Node) hx34,dec_self,ls]
 conv=>lhs;whnf
 revert h
 refine br ?_ ?_
 intro h
 refine bind_some2 h ?_;clear h;intro x36 hx36 h
 try simp only [ls]
 refine bif_pos (by first|exact idx_in hx36|exact idx_in' hx36|exact own_in hx36|exact own_in' hx36|(have q:=idx_in hx36;simp only [List.length_set] at q;exact q)|(have q:=own_in' hx36;simp only [List.length_set,Nat.zero_add] at q ⊢;exact q)) ?_
 conv=>lhs;whnf
 try simp only [Nat.zero_add,idx_nth (f:=c_api_Node) hx36,dec_self,ls]
 conv=>lhs;whnf
 revert h
 intro h
 have hs37:setNth (List.map c_api_Node s24) s23.toNat [iA (3),iA x36.f_N,sA x36.f_Name,sA x36.f_In,iA x36.f_At]=List.map c_api_Node (List.set s24 s23.toNat (⟨3,x36.f_N,x36.f_Name,x36.f_In,x36.f_At⟩:S_api_Node)):=by rw [setNth_eq,List.map_set];rfl
 have hs37_u:setNth (List.map c_api_Node s24) s23.toNat (updL (c_api_Node x36) 0 [iA (3)])=List.map c_api_Node (List.set s24 s23.toNat (⟨3,x36.f_N,x36.f_Name,x36.f_In,x36.f_At⟩:S_api_Node)):=by rw [setNth_eq,List.map_set];rfl
 try simp only [Nat.zero_add,idx_nth (f:=c_api_Node) hx36]
 conv=>lhs;whnf
 try simp only [hs37,hs37_u]
 conv=>lhs;whnf
 revert h
 exact fun h=>cq (hcont30 (IntKind.i64.wrap (s23+1),(List.set s24 s23.toNat (⟨3,x36.f_N,x36.f_Name,x36.f_In,x36.f_At⟩:S_api_Node))) (fun _=>0) h)
 exact fun h=>cq (hcont30 (IntKind.i64.wrap (s23+1),s24) (fun _=>0) h)
 intro h;cases sj h
 exact kq (hr31 (fun _=>0))
 refine lrc ?_ ?_
 intro v e;subst e;cases sj h;rfl
 intro x39 a38 e;subst e
 dsimp only at h
 conv=>lhs;whnf
 revert h
 refine br ?_ ?_
 refine ca hc (fun _ h=>ok_ref04_state_sign h) ?_;intro y41
 intro h;cases sj h
 try simp only [ls]
 exact fq (y:=some (AV.agg [iA v1_kind,AV.sl 5 (List.take (List.length x39) (List.drop 0 (List.map c_api_Node x39))),iA x1.f_At],[Ob.var 77 [AV.sl 4 (List.map c_api_Token s_l),iA y41.1,iA y41.2.1,iA y41.2.2]]))
 refine ca hc (fun _ h=>ok_ref04_state_sign h) ?_;intro y43
 intro h;cases sj h
 try simp only [ls]
 exact fq (y:=some (AV.agg [iA v1_kind,AV.sl 5 (List.take (List.length x39) (List.drop 0 (List.map c_api_Node x39))),iA x1.f_At],[Ob.var 77 [AV.sl 4 (List.map c_api_Token s_l),iA y43.1,iA y43.2.1,iA y43.2.2]]))
theorem ok_ref04_state_key {n:Nat} ⦃v1_w:(List UInt8)⦄ ⦃s_l:(List S_api_Token)⦄ ⦃s_i:Int⦄ ⦃s_e:Int⦄ ⦃s_at:Int⦄ ⦃r:Bool⦄:m_ref04_state_key n v1_w s_l s_i s_e s_at=some r→CN n 47 [AV.ptr 0 0,sA v1_w] [Ob.var 77 [AV.sl 4 (List.map c_api_Token s_l),iA s_i,iA s_e,iA s_at]]=some (bA r,[Ob.var 77 [AV.sl 4 (List.map c_api_Token s_l),iA s_i,iA s_e,iA s_at]]):=by
 intro h;rcases n with _|n;cases h
 rw [m_ref04_state_key] at h
 refine callN_eq' Tryz.func47 (by rfl) rfl rfl (Nat.le_of_ble_eq_true rfl) ?_
 intro call hc;conv=>lhs;whnf
 revert h
 refine br ?_ ?_
 refine br ?_ ?_
 refine ix ?_;intro x3
 refine br ?_ ?_
 refine ix ?_;intro x5
 exact rz
 exact rz
 exact rz
 exact rz
theorem ok_ref04_word {n:Nat} ⦃v0_kind:Int⦄ ⦃r:(List UInt8)⦄:m_ref04_word n v0_kind=some r→CN n 81 [iA v0_kind] []=some (sA r,[]):=by
 intro h;rcases n with _|n;cases h
 rw [m_ref04_word] at h
 refine callN_eq' Tryz.func81 (by rfl) rfl rfl (Nat.le_of_ble_eq_true rfl) ?_
 intro call hc;conv=>lhs;whnf
 revert h
 intro h
 refine bind_some2 h ?_;clear h;intro x1 hx1 h
 refine bif_pos (by first|exact idx_in hx1|(have q:=idx_in hx1;exact q)) ?_
 simp only [(show nth? ([[sA (([]:List UInt8))],[sA (([102,111,114,97,108,108]:List UInt8))],[sA (([101,120,105,115,116,115]:List UInt8))],[sA (([97,108,119,97,121,115]:List UInt8))]]:List (List AV)) v0_kind.toNat=some (encS x1) from idx_nth (f:=encS) hx1),ls]
 conv=>lhs;whnf
 revert h
 exact rz
theorem ok_ref04_state_kind {n:Nat} ⦃s_l:(List S_api_Token)⦄ ⦃s_i:Int⦄ ⦃s_e:Int⦄ ⦃s_at:Int⦄ ⦃r:Int⦄:m_ref04_state_kind n s_l s_i s_e s_at=some r→CN n 53 [AV.ptr 0 0] [Ob.var 77 [AV.sl 4 (List.map c_api_Token s_l),iA s_i,iA s_e,iA s_at]]=some (iA r,[Ob.var 77 [AV.sl 4 (List.map c_api_Token s_l),iA s_i,iA s_e,iA s_at]]):=by
 intro h;rcases n with _|n;cases h
 rw [m_ref04_state_kind] at h
 refine callN_eq' Tryz.func53 (by rfl) rfl rfl (Nat.le_of_ble_eq_true rfl) ?_
 intro call hc;conv=>lhs;whnf
 revert h
 intro h;refine bind_some2 h ?_;clear h;intro o9 ho9 h
 refine lq (σ:=Int) (τ:=Unit) (ν:=Int) 0 (fun s1 a3=>stOf 13 [(0,AV.ptr 0 0),(3,iA s1)]) (fun s1 a3=>[Ob.var 77 [AV.sl 4 (List.map c_api_Token s_l),iA s_i,iA s_e,iA s_at]]) (fun _ a16=>stOf 13 []) (fun _ a16=>[Ob.var 77 [AV.sl 4 (List.map c_api_Token s_l),iA s_i,iA s_e,iA s_at]]) (fun v=>(iA v,[Ob.var 77 [AV.sl 4 (List.map c_api_Token s_l),iA s_i,iA s_e,iA s_at]])) (fun k s=>ref04_state_kind_L0 n s_l s_i s_e s_at k s) (fun s=>rfl) o9 n 1 (fun _=>0) ho9 ?_ ?_
 intro k2 s1 a3 K4 cont5 hK6 hcont7 h hr8
 replace h:ref04_state_kind_L0 n s_l s_i s_e s_at (k2+1) s1=some o9:=h
 rw [ref04_state_kind_L0] at h
 conv=>lhs;whnf
 revert h
 refine br ?_ ?_
 refine ca hc (fun _ h=>ok_ref04_word h) ?_;intro y11
 refine ca hc (fun _ h=>ok_ref04_state_key h) ?_;intro y13
 refine br ?_ ?_
 intro h;cases sj h
 refine (hK6 _ _).trans ?_
 refine Eq.trans ?_ (Eq.symm (show _=some _ from hr8))
 conv=>lhs;whnf
 exact rq
 exact fun h=>cq (hcont7 (IntKind.i64.wrap (s1+1)) (fun _=>0) h)
 intro h;cases sj h
 exact kq (hr8 (fun _=>0))
 refine lrc ?_ ?_
 intro v e;subst e;cases sj h;rfl
 intro t a16 e;subst e
 dsimp only at h
 conv=>lhs;whnf
 revert h
 exact rz
theorem ok_ref04_state_name {n:Nat} ⦃s_l:(List S_api_Token)⦄ ⦃s_i:Int⦄ ⦃s_e:Int⦄ ⦃s_at:Int⦄ ⦃r:((List UInt8)×Int×Int×Int)⦄:m_ref04_state_name n s_l s_i s_e s_at=some r→CN n 51 [AV.ptr 0 0] [Ob.var 77 [AV.sl 4 (List.map c_api_Token s_l),iA s_i,iA s_e,iA s_at]]=some (sA r.1,[Ob.var 77 [AV.sl 4 (List.map c_api_Token s_l),iA r.2.1,iA r.2.2.1,iA r.2.2.2]]):=by
 intro h;rcases n with _|n;cases h
 rw [m_ref04_state_name] at h
 refine callN_eq' Tryz.func51 (by rfl) rfl rfl (Nat.le_of_ble_eq_true rfl) ?_
 intro call hc;conv=>lhs;whnf
 revert h
 refine br ?_ ?_
 refine ca hc (fun _ h=>ok_ref03_Name h) ?_;intro y2
 refine br ?_ ?_
 refine ix ?_;intro x5
 exact rz
 refine ca hc (fun _ h=>ok_ref04_state_wrong h) ?_;intro y6
 exact rz
 refine ca hc (fun _ h=>ok_ref04_state_wrong h) ?_;intro y8
 exact rz
theorem ok_ref04_state_number {n:Nat} ⦃s_l:(List S_api_Token)⦄ ⦃s_i:Int⦄ ⦃s_e:Int⦄ ⦃s_at:Int⦄ ⦃r:(Int×Int×Int×Int)⦄:m_ref04_state_number n s_l s_i s_e s_at=some r→CN n 49 [AV.ptr 0 0] [Ob.var 77 [AV.sl 4 (List.map c_api_Token s_l),iA s_i,iA s_e,iA s_at]]=some (iA r.1,[Ob.var 77 [AV.sl 4 (List.map c_api_Token s_l),iA r.2.1,iA r.2.2.1,iA r.2.2.2]]):=by
 intro h;rcases n with _|n;cases h
 rw [m_ref04_state_number] at h
 refine callN_eq' Tryz.func49 (by rfl) rfl rfl (Nat.le_of_ble_eq_true rfl) ?_
 intro call hc;conv=>lhs;whnf
 revert h
 refine br ?_ ?_
 refine br ?_ ?_
 refine ix ?_;intro x3
 refine br ?_ ?_
 refine ix ?_;intro x5
 exact rz
 refine ca hc (fun _ h=>ok_ref04_state_wrong h) ?_;intro y6
 exact rz
 refine ca hc (fun _ h=>ok_ref04_state_wrong h) ?_;intro y8
 exact rz
 refine ca hc (fun _ h=>ok_ref04_state_wrong h) ?_;intro y10
 exact rz
theorem ok_ref04_state_thread {n:Nat} ⦃s_l:(List S_api_Token)⦄ ⦃s_i:Int⦄ ⦃s_e:Int⦄ ⦃s_at:Int⦄ ⦃r:(S_api_Thread×Int×Int×Int)⦄:m_ref04_state_thread n s_l s_i s_e s_at=some r→CN n 52 [AV.ptr 0 0] [Ob.var 77 [AV.sl 4 (List.map c_api_Token s_l),iA s_i,iA s_e,iA s_at]]=some (AV.agg [sA r.1.f_Name,AV.sl 1 (List.map encS r.1.f_Regs),AV.sl 9 (List.map c_api_Stmt r.1.f_Body),iA r.1.f_At],[Ob.var 77 [AV.sl 4 (List.map c_api_Token s_l),iA r.2.1,iA r.2.2.1,iA r.2.2.2]]):=by
 intro h;rcases n with _|n;cases h
 rw [m_ref04_state_thread] at h
 refine callN_eq' Tryz.func52 (by rfl) rfl rfl (Nat.le_of_ble_eq_true rfl) ?_
 intro call hc;conv=>lhs;whnf
 revert h
 refine ix ?_;intro x1
 refine ca hc (fun _ h=>ok_ref04_state_name h) ?_;intro y2
 refine ca hc (fun _ h=>ok_ref04_state_sign h) ?_;intro y4
 refine ca hc (fun _ h=>ok_ref04_state_key h) ?_;intro y6
 refine br ?_ ?_
 refine ca hc (fun _ h=>ok_ref04_state_name h) ?_;intro y9
 intro h;refine bind_some2 h ?_;clear h;intro o22 ho22 h
 refine lq (σ:=(Int×Int×Int×(List (List UInt8)))) (τ:=(Int×Int×Int×(List (List UInt8)))) (ν:=(S_api_Thread×Int×Int×Int)) 0 (fun (s11,s12,s13,s14) a16=>stOf 112 [(0,AV.ptr 0 0),(2,AV.ptr 1 0),(3,AV.ptr 2 0)]) (fun (s11,s12,s13,s14) a16=>[Ob.var 77 [AV.sl 4 (List.map c_api_Token s_l),iA s11,iA s12,iA s13],Ob.var 40 [sA (([]:List UInt8)),AV.nils,AV.nils,iA (0)],Ob.var 40 [sA y2.1,AV.row 3 (List.length s14),AV.nils,iA x1.f_At],Ob.row 9 1 (List.map encS s14)]) (fun (x32,x33,x34,x35) a31=>stOf 112 [(0,AV.ptr 0 0),(2,AV.ptr 1 0),(3,AV.ptr 2 0)]) (fun (x32,x33,x34,x35) a31=>[Ob.var 77 [AV.sl 4 (List.map c_api_Token s_l),iA x32,iA x33,iA x34],Ob.var 40 [sA (([]:List UInt8)),AV.nils,AV.nils,iA (0)],Ob.var 40 [sA y2.1,AV.row 3 (List.length x35),AV.nils,iA x1.f_At],Ob.row 9 1 (List.map encS x35)]) (fun v=>(AV.agg [sA v.1.f_Name,AV.sl 1 (List.map encS v.1.f_Regs),AV.sl 9 (List.map c_api_Stmt v.1.f_Body),iA v.1.f_At],[Ob.var 77 [AV.sl 4 (List.map c_api_Token s_l),iA v.2.1,iA v.2.2.1,iA v.2.2.2]])) (fun k s=>ref04_state_thread_L0 n s_l k s.1 s.2.1 s.2.2.1 s.2.2.2) (fun s=>rfl) o22 n (y9.2.1,y9.2.2.1,y9.2.2.2,([y9.1]:List (List UInt8))) (fun _=>0) ho22 ?_ ?_
 intro k15 ss a16 K17 cont18 hK19 hcont20 h hr21
 obtain ⟨s11,s12,s13,s14⟩:=ss
 replace h:ref04_state_thread_L0 n s_l (k15+1) s11 s12 s13 s14=some o22:=h
 rw [ref04_state_thread_L0] at h
 conv=>lhs;whnf
 revert h
 refine br ?_ ?_
 refine ca hc (fun _ h=>ok_ref02_Is h) ?_;intro y24
 refine br ?_ ?_
 refine ca hc (fun _ h=>ok_ref04_state_name h) ?_;intro y27
 refine ar (ap encS (List.map encS s14) s14 ([[sA y27.1]]) ([y27.1]:List (List UInt8))) ?_
 exact fun h=>cq (hcont20 (y27.2.1,y27.2.2.1,y27.2.2.2,(s14++([y27.1]:List (List UInt8)))) (fun _=>0) h)
 intro h;cases sj h
 exact kq (hr21 (fun _=>0))
 intro h;cases sj h
 exact kq (hr21 (fun _=>0))
 refine lrc ?_ ?_
 intro v e;subst e;cases sj h;rfl
 intro t a31 e;subst e
 obtain ⟨x32,x33,x34,x35⟩:=t
 dsimp only at h
 conv=>lhs;whnf
 revert h
 refine ca hc (fun _ h=>ok_ref04_state_sign h) ?_;intro y36
 refine br ?_ ?_
 refine ca hc (fun _ h=>ok_ref03_Parse h) ?_;intro y39
 refine ca hc (fun _ h=>ok_ref04_state_fault h) ?_;intro y41
 refine ca hc (fun _ h=>ok_ref04_state_sign h) ?_;intro y43
 intro h;cases sj h
 try simp only [ls]
 exact fq (y:=some (AV.agg [sA y2.1,AV.sl 1 (List.take (List.length x35) (List.map encS x35)),AV.sl 9 (List.map c_api_Stmt y39.1),iA x1.f_At],[Ob.var 77 [AV.sl 4 (List.map c_api_Token s_l),iA y43.1,iA y43.2.1,iA y43.2.2]]))
 refine ca hc (fun _ h=>ok_ref04_state_sign h) ?_;intro y45
 intro h;cases sj h
 try simp only [ls]
 exact fq (y:=some (AV.agg [sA y2.1,AV.sl 1 (List.take (List.length x35) (List.map encS x35)),AV.sl 9 [],iA x1.f_At],[Ob.var 77 [AV.sl 4 (List.map c_api_Token s_l),iA y45.1,iA y45.2.1,iA y45.2.2]]))
 refine br ?_ ?_
 refine ca hc (fun _ h=>ok_ref03_Parse h) ?_;intro y49
 refine ca hc (fun _ h=>ok_ref04_state_fault h) ?_;intro y51
 refine ca hc (fun _ h=>ok_ref04_state_sign h) ?_;intro y53
 exact rz
 refine ca hc (fun _ h=>ok_ref04_state_sign h) ?_;intro y55
 exact rz
theorem ok_ref04_Parse {n:Nat} ⦃v0_text:(List UInt8)⦄ ⦃r:(S_api_Prog×Int×Int)⦄:m_ref04_Parse n v0_text=some r→CN n 25 [sA v0_text] []=some (AV.tup [AV.agg [iA r.1.f_Mod,AV.sl 3 (List.map c_api_Var r.1.f_Locs),AV.sl 4 (List.map c_api_Thread r.1.f_Threads),AV.sl 3 (List.map c_api_Claim r.1.f_Claims)],iA r.2.1,iA r.2.2],[]):=by
 intro h;rcases n with _|n;cases h
 rw [m_ref04_Parse] at h
 refine callN_eq' Tryz.func25 (by rfl) rfl rfl (Nat.le_of_ble_eq_true rfl) ?_
 intro call hc;conv=>lhs;whnf
 revert h
 refine ca hc (fun _ h=>ok_ref01_Scan h) ?_;intro y1
 refine br ?_ ?_
 exact rz
 refine ca hc (fun _ h=>ok_ref04_state_key h) ?_;intro y4
 refine br ?_ ?_
 refine ca hc (fun _ h=>ok_ref04_state_number h) ?_;intro y7
 refine ca hc (fun _ h=>ok_ref04_state_sign h) ?_;intro y9
 intro h;refine bind_some2 h ?_;clear h;intro o22 ho22 h
 refine lq (σ:=(Int×Int×Int×(List S_api_Var))) (τ:=(Int×Int×Int×(List S_api_Var))) (ν:=(S_api_Prog×Int×Int)) 0 (fun (s11,s12,s13,s14) a16=>stOf 125 [(2,AV.ptr 0 0),(5,AV.sl 4 (List.map c_api_Token y1.1)),(8,AV.ptr 1 0),(9,AV.ptr 2 0)]) (fun (s11,s12,s13,s14) a16=>[Ob.var 26 [iA (0),AV.row 3 (List.length (([]:List S_api_Var))),AV.row 4 (List.length (([]:List S_api_Thread))),AV.row 5 (List.length (([]:List S_api_Claim)))],Ob.var 77 [AV.sl 4 (List.map c_api_Token y1.1),iA s11,iA s12,iA s13],Ob.var 26 [iA y7.1,AV.row 6 (List.length s14),AV.row 7 (List.length (([]:List S_api_Thread))),AV.row 8 (List.length (([]:List S_api_Claim)))],Ob.row 36 3 ([]),Ob.row 40 4 ([]),Ob.row 45 3 ([]),Ob.row 36 3 (List.map c_api_Var s14),Ob.row 40 4 ([]),Ob.row 45 3 ([])]) (fun (x38,x39,x40,x41) a37=>stOf 125 [(2,AV.ptr 0 0),(5,AV.sl 4 (List.map c_api_Token y1.1)),(8,AV.ptr 1 0),(9,AV.ptr 2 0)]) (fun (x38,x39,x40,x41) a37=>[Ob.var 26 [iA (0),AV.row 3 (List.length (([]:List S_api_Var))),AV.row 4 (List.length (([]:List S_api_Thread))),AV.row 5 (List.length (([]:List S_api_Claim)))],Ob.var 77 [AV.sl 4 (List.map c_api_Token y1.1),iA x38,iA x39,iA x40],Ob.var 26 [iA y7.1,AV.row 6 (List.length x41),AV.row 7 (List.length (([]:List S_api_Thread))),AV.row 8 (List.length (([]:List S_api_Claim)))],Ob.row 36 3 ([]),Ob.row 40 4 ([]),Ob.row 45 3 ([]),Ob.row 36 3 (List.map c_api_Var x41),Ob.row 40 4 ([]),Ob.row 45 3 ([])]) (fun v=>(AV.tup [AV.agg [iA v.1.f_Mod,AV.sl 3 (List.map c_api_Var v.1.f_Locs),AV.sl 4 (List.map c_api_Thread v.1.f_Threads),AV.sl 3 (List.map c_api_Claim v.1.f_Claims)],iA v.2.1,iA v.2.2],[])) (fun k s=>ref04_Parse_L0 n y1 k s.1 s.2.1 s.2.2.1 s.2.2.2) (fun s=>rfl) o22 n (y9.1,y9.2.1,y9.2.2,([]:List S_api_Var)) (fun _=>0) ho22 ?_ ?_
 intro k15 ss a16 K17 cont18 hK19 hcont20 h hr21
 obtain ⟨s11,s12,s13,s14⟩:=ss
 replace h:ref04_Parse_L0 n y1 (k15+1) s11 s12 s13 s14=some o22:=h
 rw [ref04_Parse_L0] at h
 conv=>lhs;whnf
 revert h
 refine ca hc (fun _ h=>ok_ref04_state_key h) ?_;intro y23
 refine br ?_ ?_
 refine ix ?_;intro x26
 refine ca hc (fun _ h=>ok_ref04_state_name h) ?_;intro y27
 refine ca hc (fun _ h=>ok_ref04_state_sign h) ?_;intro y29
 refine ca hc (fun _ h=>ok_ref04_state_number h) ?_;intro y31
 refine ca hc (fun _ h=>ok_ref04_state_sign h) ?_;intro y33
 refine ar (ap c_api_Var (List.map c_api_Var s14) s14 ([[sA y27.1,iA y31.1,iA x26.f_At]]) ([(⟨y27.1,y31.1,x26.f_At⟩:S_api_Var)]:List S_api_Var)) ?_
 exact fun h=>cq (hcont20 (y33.1,y33.2.1,y33.2.2,(s14++([(⟨y27.1,y31.1,x26.f_At⟩:S_api_Var)]:List S_api_Var))) (fun _=>0) h)
 intro h;cases sj h
 exact kq (hr21 (fun _=>0))
 refine lrc ?_ ?_
 intro v e;subst e;cases sj h;rfl
 intro t a37 e;subst e
 obtain ⟨x38,x39,x40,x41⟩:=t
 dsimp only at h
 conv=>lhs;whnf
 revert h
 intro h;refine bind_some2 h ?_;clear h;intro o53 ho53 h
 refine lq (σ:=(Int×Int×Int×(List S_api_Thread))) (τ:=(Int×Int×Int×(List S_api_Thread))) (ν:=(S_api_Prog×Int×Int)) 2 (fun (s42,s43,s44,s45) a47=>stOf 125 [(2,AV.ptr 0 0),(5,AV.sl 4 (List.map c_api_Token y1.1)),(8,AV.ptr 1 0),(9,AV.ptr 2 0)]) (fun (s42,s43,s44,s45) a47=>[Ob.var 26 [iA (0),AV.row 3 (List.length (([]:List S_api_Var))),AV.row 4 (List.length (([]:List S_api_Thread))),AV.row 5 (List.length (([]:List S_api_Claim)))],Ob.var 77 [AV.sl 4 (List.map c_api_Token y1.1),iA s42,iA s43,iA s44],Ob.var 26 [iA y7.1,AV.row 6 (List.length x41),AV.row 7 (List.length s45),AV.row 8 (List.length (([]:List S_api_Claim)))],Ob.row 36 3 ([]),Ob.row 40 4 ([]),Ob.row 45 3 ([]),Ob.row 36 3 (List.map c_api_Var x41),Ob.row 40 4 (List.map c_api_Thread s45),Ob.row 45 3 ([])]) (fun (x62,x63,x64,x65) a61=>stOf 125 [(2,AV.ptr 0 0),(5,AV.sl 4 (List.map c_api_Token y1.1)),(8,AV.ptr 1 0),(9,AV.ptr 2 0)]) (fun (x62,x63,x64,x65) a61=>[Ob.var 26 [iA (0),AV.row 3 (List.length (([]:List S_api_Var))),AV.row 4 (List.length (([]:List S_api_Thread))),AV.row 5 (List.length (([]:List S_api_Claim)))],Ob.var 77 [AV.sl 4 (List.map c_api_Token y1.1),iA x62,iA x63,iA x64],Ob.var 26 [iA y7.1,AV.row 6 (List.length x41),AV.row 7 (List.length x65),AV.row 8 (List.length (([]:List S_api_Claim)))],Ob.row 36 3 ([]),Ob.row 40 4 ([]),Ob.row 45 3 ([]),Ob.row 36 3 (List.map c_api_Var x41),Ob.row 40 4 (List.map c_api_Thread x65),Ob.row 45 3 ([])]) (fun v=>(AV.tup [AV.agg [iA v.1.f_Mod,AV.sl 3 (List.map c_api_Var v.1.f_Locs),AV.sl 4 (List.map c_api_Thread v.1.f_Threads),AV.sl 3 (List.map c_api_Claim v.1.f_Claims)],iA v.2.1,iA v.2.2],[])) (fun k s=>ref04_Parse_L1 n y1 k s.1 s.2.1 s.2.2.1 s.2.2.2) (fun s=>rfl) o53 n (x38,x39,x40,([]:List S_api_Thread)) (fun _=>0) ho53 ?_ ?_
 intro k46 ss a47 K48 cont49 hK50 hcont51 h hr52
 obtain ⟨s42,s43,s44,s45⟩:=ss
 replace h:ref04_Parse_L1 n y1 (k46+1) s42 s43 s44 s45=some o53:=h
 rw [ref04_Parse_L1] at h
 conv=>lhs;whnf
 revert h
 refine ca hc (fun _ h=>ok_ref04_state_key h) ?_;intro y54
 refine br ?_ ?_
 refine ca hc (fun _ h=>ok_ref04_state_thread h) ?_;intro y57
 refine ar (ap c_api_Thread (List.map c_api_Thread s45) s45 ([[sA y57.1.f_Name,AV.sl 1 (List.map encS y57.1.f_Regs),AV.sl 9 (List.map c_api_Stmt y57.1.f_Body),iA y57.1.f_At]]) ([y57.1]:List S_api_Thread)) ?_
 exact fun h=>cq (hcont51 (y57.2.1,y57.2.2.1,y57.2.2.2,(s45++([y57.1]:List S_api_Thread))) (fun _=>0) h)
 intro h;cases sj h
 exact kq (hr52 (fun _=>0))
 refine lrc ?_ ?_
 intro v e;subst e;cases sj h;rfl
 intro t a61 e;subst e
 obtain ⟨x62,x63,x64,x65⟩:=t
 dsimp only at h
 conv=>lhs;whnf
 revert h
 intro h;refine bind_some2 h ?_;clear h;intro o77 ho77 h
 refine lq (σ:=(Int×Int×Int×(List S_api_Claim))) (τ:=(Int×Int×Int×(List S_api_Claim))) (ν:=(S_api_Prog×Int×Int)) 4 (fun (s66,s67,s68,s69) a71=>stOf 125 [(2,AV.ptr 0 0),(5,AV.sl 4 (List.map c_api_Token y1.1)),(8,AV.ptr 1 0),(9,AV.ptr 2 0)]) (fun (s66,s67,s68,s69) a71=>[Ob.var 26 [iA (0),AV.row 3 (List.length (([]:List S_api_Var))),AV.row 4 (List.length (([]:List S_api_Thread))),AV.row 5 (List.length (([]:List S_api_Claim)))],Ob.var 77 [AV.sl 4 (List.map c_api_Token y1.1),iA s66,iA s67,iA s68],Ob.var 26 [iA y7.1,AV.row 6 (List.length x41),AV.row 7 (List.length x65),AV.row 8 (List.length s69)],Ob.row 36 3 ([]),Ob.row 40 4 ([]),Ob.row 45 3 ([]),Ob.row 36 3 (List.map c_api_Var x41),Ob.row 40 4 (List.map c_api_Thread x65),Ob.row 45 3 (List.map c_api_Claim s69)]) (fun (x88,x89,x90,x91) a87=>stOf 125 [(2,AV.ptr 0 0),(5,AV.sl 4 (List.map c_api_Token y1.1)),(8,AV.ptr 1 0),(9,AV.ptr 2 0)]) (fun (x88,x89,x90,x91) a87=>[Ob.var 26 [iA (0),AV.row 3 (List.length (([]:List S_api_Var))),AV.row 4 (List.length (([]:List S_api_Thread))),AV.row 5 (List.length (([]:List S_api_Claim)))],Ob.var 77 [AV.sl 4 (List.map c_api_Token y1.1),iA x88,iA x89,iA x90],Ob.var 26 [iA y7.1,AV.row 6 (List.length x41),AV.row 7 (List.length x65),AV.row 8 (List.length x91)],Ob.row 36 3 ([]),Ob.row 40 4 ([]),Ob.row 45 3 ([]),Ob.row 36 3 (List.map c_api_Var x41),Ob.row 40 4 (List.map c_api_Thread x65),Ob.row 45 3 (List.map c_api_Claim x91)]) (fun v=>(AV.tup [AV.agg [iA v.1.f_Mod,AV.sl 3 (List.map c_api_Var v.1.f_Locs),AV.sl 4 (List.map c_api_Thread v.1.f_Threads),AV.sl 3 (List.map c_api_Claim v.1.f_Claims)],iA v.2.1,iA v.2.2],[])) (fun k s=>ref04_Parse_L2 n y1 k s.1 s.2.1 s.2.2.1 s.2.2.2) (fun s=>rfl) o77 n (x62,x63,x64,([]:List S_api_Claim)) (fun _=>0) ho77 ?_ ?_
 intro k70 ss a71 K72 cont73 hK74 hcont75 h hr76
 obtain ⟨s66,s67,s68,s69⟩:=ss
 replace h:ref04_Parse_L2 n y1 (k70+1) s66 s67 s68 s69=some o77:=h
 rw [ref04_Parse_L2] at h
 conv=>lhs;whnf
 revert h
 refine ca hc (fun _ h=>ok_ref04_state_kind h) ?_;intro y78
 refine br ?_ ?_
 refine ca hc (fun _ h=>ok_ref04_state_kind h) ?_;intro y81
 refine ca hc (fun _ h=>ok_ref04_state_claim h) ?_;intro y83
 refine ar (ap c_api_Claim (List.map c_api_Claim s69) s69 ([[iA y83.1.f_Kind,AV.sl 5 (List.map c_api_Node y83.1.f_E),iA y83.1.f_At]]) ([y83.1]:List S_api_Claim)) ?_
 exact fun h=>cq (hcont75 (y83.2.1,y83.2.2.1,y83.2.2.2,(s69++([y83.1]:List S_api_Claim))) (fun _=>0) h)
 intro h;cases sj h
 exact kq (hr76 (fun _=>0))
 refine lrc ?_ ?_
 intro v e;subst e;cases sj h;rfl
 intro t a87 e;subst e
 obtain ⟨x88,x89,x90,x91⟩:=t
 dsimp only at h
 conv=>lhs;whnf
 revert h
 refine br ?_ ?_
 refine ca hc (fun _ h=>ok_ref04_state_wrong h) ?_;intro y93
 refine br ?_ ?_
 exact rz
 intro h;cases sj h
 try simp only [ls]
 exact fq (y:=some (AV.tup [AV.agg [iA y7.1,AV.sl 3 (List.take (List.length x41) (List.map c_api_Var x41)),AV.sl 4 (List.take (List.length x65) (List.map c_api_Thread x65)),AV.sl 3 (List.take (List.length x91) (List.map c_api_Claim x91))],iA (0),iA (0)],[]))
 refine br ?_ ?_
 exact rz
 intro h;cases sj h
 try simp only [ls]
 exact fq (y:=some (AV.tup [AV.agg [iA y7.1,AV.sl 3 (List.take (List.length x41) (List.map c_api_Var x41)),AV.sl 4 (List.take (List.length x65) (List.map c_api_Thread x65)),AV.sl 3 (List.take (List.length x91) (List.map c_api_Claim x91))],iA (0),iA (0)],[]))
 refine ca hc (fun _ h=>ok_ref04_state_wrong h) ?_;intro y100
 refine ca hc (fun _ h=>ok_ref04_state_number h) ?_;intro y102
 refine ca hc (fun _ h=>ok_ref04_state_sign h) ?_;intro y104
 intro h;refine bind_some2 h ?_;clear h;intro o117 ho117 h
 refine lq (σ:=(Int×Int×Int×(List S_api_Var))) (τ:=(Int×Int×Int×(List S_api_Var))) (ν:=(S_api_Prog×Int×Int)) 0 (fun (s106,s107,s108,s109) a111=>stOf 125 [(2,AV.ptr 0 0),(5,AV.sl 4 (List.map c_api_Token y1.1)),(8,AV.ptr 1 0),(9,AV.ptr 2 0)]) (fun (s106,s107,s108,s109) a111=>[Ob.var 26 [iA (0),AV.row 3 (List.length (([]:List S_api_Var))),AV.row 4 (List.length (([]:List S_api_Thread))),AV.row 5 (List.length (([]:List S_api_Claim)))],Ob.var 77 [AV.sl 4 (List.map c_api_Token y1.1),iA s106,iA s107,iA s108],Ob.var 26 [iA y102.1,AV.row 6 (List.length s109),AV.row 7 (List.length (([]:List S_api_Thread))),AV.row 8 (List.length (([]:List S_api_Claim)))],Ob.row 36 3 ([]),Ob.row 40 4 ([]),Ob.row 45 3 ([]),Ob.row 36 3 (List.map c_api_Var s109),Ob.row 40 4 ([]),Ob.row 45 3 ([])]) (fun (x133,x134,x135,x136) a132=>stOf 125 [(2,AV.ptr 0 0),(5,AV.sl 4 (List.map c_api_Token y1.1)),(8,AV.ptr 1 0),(9,AV.ptr 2 0)]) (fun (x133,x134,x135,x136) a132=>[Ob.var 26 [iA (0),AV.row 3 (List.length (([]:List S_api_Var))),AV.row 4 (List.length (([]:List S_api_Thread))),AV.row 5 (List.length (([]:List S_api_Claim)))],Ob.var 77 [AV.sl 4 (List.map c_api_Token y1.1),iA x133,iA x134,iA x135],Ob.var 26 [iA y102.1,AV.row 6 (List.length x136),AV.row 7 (List.length (([]:List S_api_Thread))),AV.row 8 (List.length (([]:List S_api_Claim)))],Ob.row 36 3 ([]),Ob.row 40 4 ([]),Ob.row 45 3 ([]),Ob.row 36 3 (List.map c_api_Var x136),Ob.row 40 4 ([]),Ob.row 45 3 ([])]) (fun v=>(AV.tup [AV.agg [iA v.1.f_Mod,AV.sl 3 (List.map c_api_Var v.1.f_Locs),AV.sl 4 (List.map c_api_Thread v.1.f_Threads),AV.sl 3 (List.map c_api_Claim v.1.f_Claims)],iA v.2.1,iA v.2.2],[])) (fun k s=>ref04_Parse_L3 n y1 k s.1 s.2.1 s.2.2.1 s.2.2.2) (fun s=>rfl) o117 n (y104.1,y104.2.1,y104.2.2,([]:List S_api_Var)) (fun _=>0) ho117 ?_ ?_
 intro k110 ss a111 K112 cont113 hK114 hcont115 h hr116
 obtain ⟨s106,s107,s108,s109⟩:=ss
 replace h:ref04_Parse_L3 n y1 (k110+1) s106 s107 s108 s109=some o117:=h
 rw [ref04_Parse_L3] at h
 conv=>lhs;whnf
 revert h
 refine ca hc (fun _ h=>ok_ref04_state_key h) ?_;intro y118
 refine br ?_ ?_
 refine ix ?_;intro x121
 refine ca hc (fun _ h=>ok_ref04_state_name h) ?_;intro y122
 refine ca hc (fun _ h=>ok_ref04_state_sign h) ?_;intro y124
 refine ca hc (fun _ h=>ok_ref04_state_number h) ?_;intro y126
 refine ca hc (fun _ h=>ok_ref04_state_sign h) ?_;intro y128
 refine ar (ap c_api_Var (List.map c_api_Var s109) s109 ([[sA y122.1,iA y126.1,iA x121.f_At]]) ([(⟨y122.1,y126.1,x121.f_At⟩:S_api_Var)]:List S_api_Var)) ?_
 exact fun h=>cq (hcont115 (y128.1,y128.2.1,y128.2.2,(s109++([(⟨y122.1,y126.1,x121.f_At⟩:S_api_Var)]:List S_api_Var))) (fun _=>0) h)
 intro h;cases sj h
 exact kq (hr116 (fun _=>0))
 refine lrc ?_ ?_
 intro v e;subst e;cases sj h;rfl
 intro t a132 e;subst e
 obtain ⟨x133,x134,x135,x136⟩:=t
 dsimp only at h
 conv=>lhs;whnf
 revert h
 intro h;refine bind_some2 h ?_;clear h;intro o148 ho148 h
 refine lq (σ:=(Int×Int×Int×(List S_api_Thread))) (τ:=(Int×Int×Int×(List S_api_Thread))) (ν:=(S_api_Prog×Int×Int)) 2 (fun (s137,s138,s139,s140) a142=>stOf 125 [(2,AV.ptr 0 0),(5,AV.sl 4 (List.map c_api_Token y1.1)),(8,AV.ptr 1 0),(9,AV.ptr 2 0)]) (fun (s137,s138,s139,s140) a142=>[Ob.var 26 [iA (0),AV.row 3 (List.length (([]:List S_api_Var))),AV.row 4 (List.length (([]:List S_api_Thread))),AV.row 5 (List.length (([]:List S_api_Claim)))],Ob.var 77 [AV.sl 4 (List.map c_api_Token y1.1),iA s137,iA s138,iA s139],Ob.var 26 [iA y102.1,AV.row 6 (List.length x136),AV.row 7 (List.length s140),AV.row 8 (List.length (([]:List S_api_Claim)))],Ob.row 36 3 ([]),Ob.row 40 4 ([]),Ob.row 45 3 ([]),Ob.row 36 3 (List.map c_api_Var x136),Ob.row 40 4 (List.map c_api_Thread s140),Ob.row 45 3 ([])]) (fun (x157,x158,x159,x160) a156=>stOf 125 [(2,AV.ptr 0 0),(5,AV.sl 4 (List.map c_api_Token y1.1)),(8,AV.ptr 1 0),(9,AV.ptr 2 0)]) (fun (x157,x158,x159,x160) a156=>[Ob.var 26 [iA (0),AV.row 3 (List.length (([]:List S_api_Var))),AV.row 4 (List.length (([]:List S_api_Thread))),AV.row 5 (List.length (([]:List S_api_Claim)))],Ob.var 77 [AV.sl 4 (List.map c_api_Token y1.1),iA x157,iA x158,iA x159],Ob.var 26 [iA y102.1,AV.row 6 (List.length x136),AV.row 7 (List.length x160),AV.row 8 (List.length (([]:List S_api_Claim)))],Ob.row 36 3 ([]),Ob.row 40 4 ([]),Ob.row 45 3 ([]),Ob.row 36 3 (List.map c_api_Var x136),Ob.row 40 4 (List.map c_api_Thread x160),Ob.row 45 3 ([])]) (fun v=>(AV.tup [AV.agg [iA v.1.f_Mod,AV.sl 3 (List.map c_api_Var v.1.f_Locs),AV.sl 4 (List.map c_api_Thread v.1.f_Threads),AV.sl 3 (List.map c_api_Claim v.1.f_Claims)],iA v.2.1,iA v.2.2],[])) (fun k s=>ref04_Parse_L4 n y1 k s.1 s.2.1 s.2.2.1 s.2.2.2) (fun s=>rfl) o148 n (x133,x134,x135,([]:List S_api_Thread)) (fun _=>0) ho148 ?_ ?_
 intro k141 ss a142 K143 cont144 hK145 hcont146 h hr147
 obtain ⟨s137,s138,s139,s140⟩:=ss
 replace h:ref04_Parse_L4 n y1 (k141+1) s137 s138 s139 s140=some o148:=h
 rw [ref04_Parse_L4] at h
 conv=>lhs;whnf
 revert h
 refine ca hc (fun _ h=>ok_ref04_state_key h) ?_;intro y149
 refine br ?_ ?_
 refine ca hc (fun _ h=>ok_ref04_state_thread h) ?_;intro y152
 refine ar (ap c_api_Thread (List.map c_api_Thread s140) s140 ([[sA y152.1.f_Name,AV.sl 1 (List.map encS y152.1.f_Regs),AV.sl 9 (List.map c_api_Stmt y152.1.f_Body),iA y152.1.f_At]]) ([y152.1]:List S_api_Thread)) ?_
 exact fun h=>cq (hcont146 (y152.2.1,y152.2.2.1,y152.2.2.2,(s140++([y152.1]:List S_api_Thread))) (fun _=>0) h)
 intro h;cases sj h
 exact kq (hr147 (fun _=>0))
 refine lrc ?_ ?_
 intro v e;subst e;cases sj h;rfl
 intro t a156 e;subst e
 obtain ⟨x157,x158,x159,x160⟩:=t
 dsimp only at h
 conv=>lhs;whnf
 revert h
 intro h;refine bind_some2 h ?_;clear h;intro o172 ho172 h
 refine lq (σ:=(Int×Int×Int×(List S_api_Claim))) (τ:=(Int×Int×Int×(List S_api_Claim))) (ν:=(S_api_Prog×Int×Int)) 4 (fun (s161,s162,s163,s164) a166=>stOf 125 [(2,AV.ptr 0 0),(5,AV.sl 4 (List.map c_api_Token y1.1)),(8,AV.ptr 1 0),(9,AV.ptr 2 0)]) (fun (s161,s162,s163,s164) a166=>[Ob.var 26 [iA (0),AV.row 3 (List.length (([]:List S_api_Var))),AV.row 4 (List.length (([]:List S_api_Thread))),AV.row 5 (List.length (([]:List S_api_Claim)))],Ob.var 77 [AV.sl 4 (List.map c_api_Token y1.1),iA s161,iA s162,iA s163],Ob.var 26 [iA y102.1,AV.row 6 (List.length x136),AV.row 7 (List.length x160),AV.row 8 (List.length s164)],Ob.row 36 3 ([]),Ob.row 40 4 ([]),Ob.row 45 3 ([]),Ob.row 36 3 (List.map c_api_Var x136),Ob.row 40 4 (List.map c_api_Thread x160),Ob.row 45 3 (List.map c_api_Claim s164)]) (fun (x183,x184,x185,x186) a182=>stOf 125 [(2,AV.ptr 0 0),(5,AV.sl 4 (List.map c_api_Token y1.1)),(8,AV.ptr 1 0),(9,AV.ptr 2 0)]) (fun (x183,x184,x185,x186) a182=>[Ob.var 26 [iA (0),AV.row 3 (List.length (([]:List S_api_Var))),AV.row 4 (List.length (([]:List S_api_Thread))),AV.row 5 (List.length (([]:List S_api_Claim)))],Ob.var 77 [AV.sl 4 (List.map c_api_Token y1.1),iA x183,iA x184,iA x185],Ob.var 26 [iA y102.1,AV.row 6 (List.length x136),AV.row 7 (List.length x160),AV.row 8 (List.length x186)],Ob.row 36 3 ([]),Ob.row 40 4 ([]),Ob.row 45 3 ([]),Ob.row 36 3 (List.map c_api_Var x136),Ob.row 40 4 (List.map c_api_Thread x160),Ob.row 45 3 (List.map c_api_Claim x186)]) (fun v=>(AV.tup [AV.agg [iA v.1.f_Mod,AV.sl 3 (List.map c_api_Var v.1.f_Locs),AV.sl 4 (List.map c_api_Thread v.1.f_Threads),AV.sl 3 (List.map c_api_Claim v.1.f_Claims)],iA v.2.1,iA v.2.2],[])) (fun k s=>ref04_Parse_L5 n y1 k s.1 s.2.1 s.2.2.1 s.2.2.2) (fun s=>rfl) o172 n (x157,x158,x159,([]:List S_api_Claim)) (fun _=>0) ho172 ?_ ?_
 intro k165 ss a166 K167 cont168 hK169 hcont170 h hr171
 obtain ⟨s161,s162,s163,s164⟩:=ss
 replace h:ref04_Parse_L5 n y1 (k165+1) s161 s162 s163 s164=some o172:=h
 rw [ref04_Parse_L5] at h
 conv=>lhs;whnf
 revert h
 refine ca hc (fun _ h=>ok_ref04_state_kind h) ?_;intro y173
 refine br ?_ ?_
 refine ca hc (fun _ h=>ok_ref04_state_kind h) ?_;intro y176
 refine ca hc (fun _ h=>ok_ref04_state_claim h) ?_;intro y178
 refine ar (ap c_api_Claim (List.map c_api_Claim s164) s164 ([[iA y178.1.f_Kind,AV.sl 5 (List.map c_api_Node y178.1.f_E),iA y178.1.f_At]]) ([y178.1]:List S_api_Claim)) ?_
 exact fun h=>cq (hcont170 (y178.2.1,y178.2.2.1,y178.2.2.2,(s164++([y178.1]:List S_api_Claim))) (fun _=>0) h)
 intro h;cases sj h
 exact kq (hr171 (fun _=>0))
 refine lrc ?_ ?_
 intro v e;subst e;cases sj h;rfl
 intro t a182 e;subst e
 obtain ⟨x183,x184,x185,x186⟩:=t
 dsimp only at h
 conv=>lhs;whnf
 revert h
 refine br ?_ ?_
 refine ca hc (fun _ h=>ok_ref04_state_wrong h) ?_;intro y188
 refine br ?_ ?_
 exact rz
 intro h;cases sj h
 try simp only [ls]
 exact fq (y:=some (AV.tup [AV.agg [iA y102.1,AV.sl 3 (List.take (List.length x136) (List.map c_api_Var x136)),AV.sl 4 (List.take (List.length x160) (List.map c_api_Thread x160)),AV.sl 3 (List.take (List.length x186) (List.map c_api_Claim x186))],iA (0),iA (0)],[]))
 refine br ?_ ?_
 exact rz
 intro h;cases sj h
 try simp only [ls]
 exact fq (y:=some (AV.tup [AV.agg [iA y102.1,AV.sl 3 (List.take (List.length x136) (List.map c_api_Var x136)),AV.sl 4 (List.take (List.length x160) (List.map c_api_Thread x160)),AV.sl 3 (List.take (List.length x186) (List.map c_api_Claim x186))],iA (0),iA (0)],[]))
theorem ok_ref04_Light {n:Nat} ⦃v0_p:S_api_Prog⦄ ⦃r:Bool⦄:m_ref04_Light n v0_p=some r→CN n 6 [AV.agg [iA v0_p.f_Mod,AV.sl 3 (List.map c_api_Var v0_p.f_Locs),AV.sl 4 (List.map c_api_Thread v0_p.f_Threads),AV.sl 3 (List.map c_api_Claim v0_p.f_Claims)]] []=some (bA r,[]):=by
 intro h;rcases n with _|n;cases h
 rw [m_ref04_Light] at h
 refine callN_eq' Tryz.func6 (by rfl) rfl rfl (Nat.le_of_ble_eq_true rfl) ?_
 intro call hc;conv=>lhs;whnf
 revert h
 refine br ?_ ?_
 exact rz
 refine br ?_ ?_
 exact rz
 refine br ?_ ?_
 exact rz
 intro h;refine bind_some2 h ?_;clear h;intro o12 ho12 h
 refine lq (σ:=Int) (τ:=Unit) (ν:=Bool) 0 (fun s4 a6=>stOf 96 [(1,AV.ptr 0 0),(3,iA s4)]) (fun s4 a6=>[Ob.var 26 [iA v0_p.f_Mod,AV.sl 3 (List.map c_api_Var v0_p.f_Locs),AV.sl 4 (List.map c_api_Thread v0_p.f_Threads),AV.sl 3 (List.map c_api_Claim v0_p.f_Claims)]]) (fun _ a16=>stOf 96 [(1,AV.ptr 0 0)]) (fun _ a16=>[Ob.var 26 [iA v0_p.f_Mod,AV.sl 3 (List.map c_api_Var v0_p.f_Locs),AV.sl 4 (List.map c_api_Thread v0_p.f_Threads),AV.sl 3 (List.map c_api_Claim v0_p.f_Claims)]]) (fun v=>(bA v,[])) (fun k s=>ref04_Light_L0 n v0_p k s) (fun s=>rfl) o12 n 0 (fun _=>0) ho12 ?_ ?_
 intro k5 s4 a6 K7 cont8 hK9 hcont10 h hr11
 replace h:ref04_Light_L0 n v0_p (k5+1) s4=some o12:=h
 rw [ref04_Light_L0] at h
 conv=>lhs;whnf
 revert h
 refine br ?_ ?_
 refine ix ?_;intro x14
 refine br ?_ ?_
 intro h;cases sj h
 refine (hK9 _ _).trans ?_
 refine Eq.trans ?_ (Eq.symm (show _=some _ from hr11))
 conv=>lhs;whnf
 exact rq
 exact fun h=>cq (hcont10 (IntKind.i64.wrap (s4+1)) (fun _=>0) h)
 intro h;cases sj h
 exact kq (hr11 (fun _=>0))
 refine lrc ?_ ?_
 intro v e;subst e;cases sj h;rfl
 intro t a16 e;subst e
 dsimp only at h
 conv=>lhs;whnf
 revert h
 intro h;refine bind_some2 h ?_;clear h;intro o25 ho25 h
 refine lq (σ:=Int) (τ:=Unit) (ν:=Bool) 2 (fun s17 a19=>stOf 96 [(1,AV.ptr 0 0),(4,iA s17)]) (fun s17 a19=>[Ob.var 26 [iA v0_p.f_Mod,AV.sl 3 (List.map c_api_Var v0_p.f_Locs),AV.sl 4 (List.map c_api_Thread v0_p.f_Threads),AV.sl 3 (List.map c_api_Claim v0_p.f_Claims)]]) (fun _ a47=>stOf 96 [(1,AV.ptr 0 0)]) (fun _ a47=>[Ob.var 26 [iA v0_p.f_Mod,AV.sl 3 (List.map c_api_Var v0_p.f_Locs),AV.sl 4 (List.map c_api_Thread v0_p.f_Threads),AV.sl 3 (List.map c_api_Claim v0_p.f_Claims)]]) (fun v=>(bA v,[])) (fun k s=>ref04_Light_L1 n v0_p k s) (fun s=>rfl) o25 n 0 (fun _=>0) ho25 ?_ ?_
 intro k18 s17 a19 K20 cont21 hK22 hcont23 h hr24
 replace h:ref04_Light_L1 n v0_p (k18+1) s17=some o25:=h
 rw [ref04_Light_L1] at h
 conv=>lhs;whnf
 revert h
 refine br ?_ ?_
 refine ix ?_;intro x27
 refine br ?_ ?_
 intro h;cases sj h
 refine (hK22 _ _).trans ?_
 refine Eq.trans ?_ (Eq.symm (show _=some _ from hr24))
 conv=>lhs;whnf
 exact rq
 refine br ?_ ?_
 intro h;cases sj h
 refine (hK22 _ _).trans ?_
 refine Eq.trans ?_ (Eq.symm (show _=some _ from hr24))
 conv=>lhs;whnf
 exact rq
 refine ca hc (fun _ h=>ok_ref03_Light h) ?_;intro y30
 refine br ?_ ?_
 intro h;refine bind_some2 h ?_;clear h;intro o41 ho41 h
 refine lq (σ:=Int) (τ:=Unit) (ν:=Bool) 4 (fun s33 a35=>stOf 96 [(1,AV.ptr 0 0),(4,iA s17),(5,AV.ptr 1 0),(6,iA s33)]) (fun s33 a35=>[Ob.var 26 [iA v0_p.f_Mod,AV.sl 3 (List.map c_api_Var v0_p.f_Locs),AV.sl 4 (List.map c_api_Thread v0_p.f_Threads),AV.sl 3 (List.map c_api_Claim v0_p.f_Claims)],Ob.var 40 [sA x27.f_Name,AV.sl 1 (List.map encS x27.f_Regs),AV.sl 9 (List.map c_api_Stmt x27.f_Body),iA x27.f_At]]) (fun _ a45=>stOf 96 [(1,AV.ptr 0 0),(4,iA s17)]) (fun _ a45=>[Ob.var 26 [iA v0_p.f_Mod,AV.sl 3 (List.map c_api_Var v0_p.f_Locs),AV.sl 4 (List.map c_api_Thread v0_p.f_Threads),AV.sl 3 (List.map c_api_Claim v0_p.f_Claims)],Ob.var 40 [sA x27.f_Name,AV.sl 1 (List.map encS x27.f_Regs),AV.sl 9 (List.map c_api_Stmt x27.f_Body),iA x27.f_At]]) (fun v=>(bA v,[])) (fun k s=>ref04_Light_L2 n x27 k s) (fun s=>rfl) o41 n 0 (fun _=>0) ho41 ?_ ?_
 intro k34 s33 a35 K36 cont37 hK38 hcont39 h hr40
 replace h:ref04_Light_L2 n x27 (k34+1) s33=some o41:=h
 rw [ref04_Light_L2] at h
 conv=>lhs;whnf
 revert h
 refine br ?_ ?_
 refine ix ?_;intro x43
 refine br ?_ ?_
 intro h;cases sj h
 refine (hK38 _ _).trans ?_
 conv=>lhs;whnf
 refine (hK22 _ _).trans ?_
 refine Eq.trans ?_ (Eq.symm (show _=some _ from hr40))
 conv=>lhs;whnf
 exact rq
 exact fun h=>cq (hcont39 (IntKind.i64.wrap (s33+1)) (fun _=>0) h)
 intro h;cases sj h
 exact kq (hr40 (fun _=>0))
 refine lrc ?_ ?_
 intro v e;subst e;cases sj h;exact hr24
 intro t a45 e;subst e
 dsimp only at h
 conv=>lhs;whnf
 revert h
 exact fun h=>cq (hcont23 (IntKind.i64.wrap (s17+1)) (fun _=>0) h)
 intro h;cases sj h
 refine (hK22 _ _).trans ?_
 refine Eq.trans ?_ (Eq.symm (show _=some _ from hr24))
 conv=>lhs;whnf
 exact rq
 intro h;cases sj h
 exact kq (hr24 (fun _=>0))
 refine lrc ?_ ?_
 intro v e;subst e;cases sj h;rfl
 intro t a47 e;subst e
 dsimp only at h
 conv=>lhs;whnf
 revert h
 intro h;refine bind_some2 h ?_;clear h;intro o56 ho56 h
 refine lq (σ:=Int) (τ:=Unit) (ν:=Bool) 6 (fun s48 a50=>stOf 96 [(1,AV.ptr 0 0),(7,iA s48)]) (fun s48 a50=>[Ob.var 26 [iA v0_p.f_Mod,AV.sl 3 (List.map c_api_Var v0_p.f_Locs),AV.sl 4 (List.map c_api_Thread v0_p.f_Threads),AV.sl 3 (List.map c_api_Claim v0_p.f_Claims)]]) (fun _ a62=>stOf 96 []) (fun _ a62=>[Ob.var 26 [iA v0_p.f_Mod,AV.sl 3 (List.map c_api_Var v0_p.f_Locs),AV.sl 4 (List.map c_api_Thread v0_p.f_Threads),AV.sl 3 (List.map c_api_Claim v0_p.f_Claims)]]) (fun v=>(bA v,[])) (fun k s=>ref04_Light_L3 n v0_p k s) (fun s=>rfl) o56 n 0 (fun _=>0) ho56 ?_ ?_
 intro k49 s48 a50 K51 cont52 hK53 hcont54 h hr55
 replace h:ref04_Light_L3 n v0_p (k49+1) s48=some o56:=h
 rw [ref04_Light_L3] at h
 conv=>lhs;whnf
 revert h
 refine br ?_ ?_
 refine ix ?_;intro x58
 refine ca hc (fun _ h=>ok_ref02_Light h) ?_;intro y59
 refine br ?_ ?_
 exact fun h=>cq (hcont54 (IntKind.i64.wrap (s48+1)) (fun _=>0) h)
 intro h;cases sj h
 refine (hK53 _ _).trans ?_
 refine Eq.trans ?_ (Eq.symm (show _=some _ from hr55))
 conv=>lhs;whnf
 exact rq
 intro h;cases sj h
 exact kq (hr55 (fun _=>0))
 refine lrc ?_ ?_
 intro v e;subst e;cases sj h;rfl
 intro t a62 e;subst e
 dsimp only at h
 conv=>lhs;whnf
 revert h
 exact rz
theorem ok_ref04_claimed {n:Nat} ⦃v0_l:(List S_api_Node)⦄ ⦃r:Bool⦄:m_ref04_claimed n v0_l=some r→CN n 30 [AV.sl 5 (List.map c_api_Node v0_l)] []=some (bA r,[]):=by
 intro h;rcases n with _|n;cases h
 rw [m_ref04_claimed] at h
 refine callN_eq' Tryz.func30 (by rfl) rfl rfl (Nat.le_of_ble_eq_true rfl) ?_
 intro call hc;conv=>lhs;whnf
 revert h
 refine ca hc (fun _ h=>ok_ref02_Names h) ?_;intro y1
 intro h;refine bind_some2 h ?_;clear h;intro o11 ho11 h
 refine lq (σ:=Int) (τ:=Unit) (ν:=Bool) 0 (fun s3 a5=>stOf 21 [(0,AV.sl 5 (List.map c_api_Node v0_l)),(3,AV.sl 5 (List.map c_api_Node y1)),(4,iA s3)]) (fun s3 a5=>[]) (fun _ a15=>stOf 21 [(0,AV.sl 5 (List.map c_api_Node v0_l))]) (fun _ a15=>[]) (fun v=>(bA v,[])) (fun k s=>ref04_claimed_L0 n y1 k s) (fun s=>rfl) o11 n 0 (fun _=>0) ho11 ?_ ?_
 intro k4 s3 a5 K6 cont7 hK8 hcont9 h hr10
 replace h:ref04_claimed_L0 n y1 (k4+1) s3=some o11:=h
 rw [ref04_claimed_L0] at h
 conv=>lhs;whnf
 revert h
 refine br ?_ ?_
 refine ix ?_;intro x13
 refine br ?_ ?_
 intro h;cases sj h
 refine (hK8 _ _).trans ?_
 refine Eq.trans ?_ (Eq.symm (show _=some _ from hr10))
 conv=>lhs;whnf
 exact rq
 exact fun h=>cq (hcont9 (IntKind.i64.wrap (s3+1)) (fun _=>0) h)
 intro h;cases sj h
 exact kq (hr10 (fun _=>0))
 refine lrc ?_ ?_
 intro v e;subst e;cases sj h;rfl
 intro t a15 e;subst e
 dsimp only at h
 conv=>lhs;whnf
 revert h
 refine ca hc (fun _ h=>ok_ref02_Right h) ?_;intro y16
 exact rz
theorem ok_ref04_in {n:Nat} ⦃v0_n:Int⦄ ⦃r:Bool⦄:m_ref04_in n v0_n=some r→CN n 27 [iA v0_n] []=some (bA r,[]):=by
 intro h;rcases n with _|n;cases h
 rw [m_ref04_in] at h
 refine callN_eq' Tryz.func27 (by rfl) rfl rfl (Nat.le_of_ble_eq_true rfl) ?_
 intro call hc;conv=>lhs;whnf
 revert h
 refine br ?_ ?_
 exact rz
 exact rz
theorem ok_ref04_Right {n:Nat} ⦃v0_p:S_api_Prog⦄ ⦃r:Bool⦄:m_ref04_Right n v0_p=some r→CN n 12 [AV.agg [iA v0_p.f_Mod,AV.sl 3 (List.map c_api_Var v0_p.f_Locs),AV.sl 4 (List.map c_api_Thread v0_p.f_Threads),AV.sl 3 (List.map c_api_Claim v0_p.f_Claims)]] []=some (bA r,[]):=by
 intro h;rcases n with _|n;cases h
 rw [m_ref04_Right] at h
 refine callN_eq' Tryz.func12 (by rfl) rfl rfl (Nat.le_of_ble_eq_true rfl) ?_
 intro call hc;conv=>lhs;whnf
 revert h
 refine ca hc (fun _ h=>ok_ref04_in h) ?_;intro y1
 refine br ?_ ?_
 intro h;refine bind_some2 h ?_;clear h;intro o12 ho12 h
 refine lq (σ:=Int) (τ:=Unit) (ν:=Bool) 0 (fun s4 a6=>stOf 119 [(1,AV.ptr 0 0),(3,iA s4)]) (fun s4 a6=>[Ob.var 26 [iA v0_p.f_Mod,AV.sl 3 (List.map c_api_Var v0_p.f_Locs),AV.sl 4 (List.map c_api_Thread v0_p.f_Threads),AV.sl 3 (List.map c_api_Claim v0_p.f_Claims)]]) (fun _ a24=>stOf 119 [(1,AV.ptr 0 0)]) (fun _ a24=>[Ob.var 26 [iA v0_p.f_Mod,AV.sl 3 (List.map c_api_Var v0_p.f_Locs),AV.sl 4 (List.map c_api_Thread v0_p.f_Threads),AV.sl 3 (List.map c_api_Claim v0_p.f_Claims)]]) (fun v=>(bA v,[])) (fun k s=>ref04_Right_L0 n v0_p k s) (fun s=>rfl) o12 n 0 (fun _=>0) ho12 ?_ ?_
 intro k5 s4 a6 K7 cont8 hK9 hcont10 h hr11
 replace h:ref04_Right_L0 n v0_p (k5+1) s4=some o12:=h
 rw [ref04_Right_L0] at h
 conv=>lhs;whnf
 revert h
 refine br ?_ ?_
 refine ix ?_;intro x14
 refine ca hc (fun _ h=>ok_ref01_Name h) ?_;intro y15
 refine br ?_ ?_
 refine ix ?_;intro x18
 refine ca hc (fun _ h=>ok_ref04_in h) ?_;intro y19
 refine br ?_ ?_
 refine ix ?_;intro x22
 refine br ?_ ?_
 intro h;cases sj h
 refine (hK9 _ _).trans ?_
 refine Eq.trans ?_ (Eq.symm (show _=some _ from hr11))
 conv=>lhs;whnf
 exact rq
 exact fun h=>cq (hcont10 (IntKind.i64.wrap (s4+1)) (fun _=>0) h)
 intro h;cases sj h
 refine (hK9 _ _).trans ?_
 refine Eq.trans ?_ (Eq.symm (show _=some _ from hr11))
 conv=>lhs;whnf
 exact rq
 intro h;cases sj h
 refine (hK9 _ _).trans ?_
 refine Eq.trans ?_ (Eq.symm (show _=some _ from hr11))
 conv=>lhs;whnf
 exact rq
 intro h;cases sj h
 exact kq (hr11 (fun _=>0))
 refine lrc ?_ ?_
 intro v e;subst e;cases sj h;rfl
 intro t a24 e;subst e
 dsimp only at h
 conv=>lhs;whnf
 revert h
 intro h;refine bind_some2 h ?_;clear h;intro o33 ho33 h
 refine lq (σ:=Int) (τ:=Unit) (ν:=Bool) 2 (fun s25 a27=>stOf 119 [(1,AV.ptr 0 0),(4,iA s25)]) (fun s25 a27=>[Ob.var 26 [iA v0_p.f_Mod,AV.sl 3 (List.map c_api_Var v0_p.f_Locs),AV.sl 4 (List.map c_api_Thread v0_p.f_Threads),AV.sl 3 (List.map c_api_Claim v0_p.f_Claims)]]) (fun _ a59=>stOf 119 [(1,AV.ptr 0 0)]) (fun _ a59=>[Ob.var 26 [iA v0_p.f_Mod,AV.sl 3 (List.map c_api_Var v0_p.f_Locs),AV.sl 4 (List.map c_api_Thread v0_p.f_Threads),AV.sl 3 (List.map c_api_Claim v0_p.f_Claims)]]) (fun v=>(bA v,[])) (fun k s=>ref04_Right_L1 n v0_p k s) (fun s=>rfl) o33 n 0 (fun _=>0) ho33 ?_ ?_
 intro k26 s25 a27 K28 cont29 hK30 hcont31 h hr32
 replace h:ref04_Right_L1 n v0_p (k26+1) s25=some o33:=h
 rw [ref04_Right_L1] at h
 conv=>lhs;whnf
 revert h
 refine br ?_ ?_
 refine ix ?_;intro x35
 refine ca hc (fun _ h=>ok_ref01_Name h) ?_;intro y36
 refine br ?_ ?_
 refine ca hc (fun _ h=>ok_ref03_Right h) ?_;intro y39
 refine br ?_ ?_
 refine br ?_ ?_
 intro h;cases sj h
 refine (hK30 _ _).trans ?_
 refine Eq.trans ?_ (Eq.symm (show _=some _ from hr32))
 conv=>lhs;whnf
 exact rq
 intro h;refine bind_some2 h ?_;clear h;intro o51 ho51 h
 refine lq (σ:=Int) (τ:=Unit) (ν:=Bool) 4 (fun s43 a45=>stOf 119 [(1,AV.ptr 0 0),(4,iA s25),(5,AV.ptr 1 0),(6,iA s43)]) (fun s43 a45=>[Ob.var 26 [iA v0_p.f_Mod,AV.sl 3 (List.map c_api_Var v0_p.f_Locs),AV.sl 4 (List.map c_api_Thread v0_p.f_Threads),AV.sl 3 (List.map c_api_Claim v0_p.f_Claims)],Ob.var 40 [sA x35.f_Name,AV.sl 1 (List.map encS x35.f_Regs),AV.sl 9 (List.map c_api_Stmt x35.f_Body),iA x35.f_At]]) (fun _ a57=>stOf 119 [(1,AV.ptr 0 0),(4,iA s25)]) (fun _ a57=>[Ob.var 26 [iA v0_p.f_Mod,AV.sl 3 (List.map c_api_Var v0_p.f_Locs),AV.sl 4 (List.map c_api_Thread v0_p.f_Threads),AV.sl 3 (List.map c_api_Claim v0_p.f_Claims)],Ob.var 40 [sA x35.f_Name,AV.sl 1 (List.map encS x35.f_Regs),AV.sl 9 (List.map c_api_Stmt x35.f_Body),iA x35.f_At]]) (fun v=>(bA v,[])) (fun k s=>ref04_Right_L2 n x35 k s) (fun s=>rfl) o51 n 0 (fun _=>0) ho51 ?_ ?_
 intro k44 s43 a45 K46 cont47 hK48 hcont49 h hr50
 replace h:ref04_Right_L2 n x35 (k44+1) s43=some o51:=h
 rw [ref04_Right_L2] at h
 conv=>lhs;whnf
 revert h
 refine br ?_ ?_
 refine ix ?_;intro x53
 refine ca hc (fun _ h=>ok_ref01_Name h) ?_;intro y54
 refine br ?_ ?_
 exact fun h=>cq (hcont49 (IntKind.i64.wrap (s43+1)) (fun _=>0) h)
 intro h;cases sj h
 refine (hK48 _ _).trans ?_
 conv=>lhs;whnf
 refine (hK30 _ _).trans ?_
 refine Eq.trans ?_ (Eq.symm (show _=some _ from hr50))
 conv=>lhs;whnf
 exact rq
 intro h;cases sj h
 exact kq (hr50 (fun _=>0))
 refine lrc ?_ ?_
 intro v e;subst e;cases sj h;exact hr32
 intro t a57 e;subst e
 dsimp only at h
 conv=>lhs;whnf
 revert h
 exact fun h=>cq (hcont31 (IntKind.i64.wrap (s25+1)) (fun _=>0) h)
 intro h;cases sj h
 refine (hK30 _ _).trans ?_
 refine Eq.trans ?_ (Eq.symm (show _=some _ from hr32))
 conv=>lhs;whnf
 exact rq
 intro h;cases sj h
 refine (hK30 _ _).trans ?_
 refine Eq.trans ?_ (Eq.symm (show _=some _ from hr32))
 conv=>lhs;whnf
 exact rq
 intro h;cases sj h
 exact kq (hr32 (fun _=>0))
 refine lrc ?_ ?_
 intro v e;subst e;cases sj h;rfl
 intro t a59 e;subst e
 dsimp only at h
 conv=>lhs;whnf
 revert h
 intro h;refine bind_some2 h ?_;clear h;intro o68 ho68 h
 refine lq (σ:=Int) (τ:=Unit) (ν:=Bool) 6 (fun s60 a62=>stOf 119 [(1,AV.ptr 0 0),(7,iA s60)]) (fun s60 a62=>[Ob.var 26 [iA v0_p.f_Mod,AV.sl 3 (List.map c_api_Var v0_p.f_Locs),AV.sl 4 (List.map c_api_Thread v0_p.f_Threads),AV.sl 3 (List.map c_api_Claim v0_p.f_Claims)]]) (fun _ a77=>stOf 119 []) (fun _ a77=>[Ob.var 26 [iA v0_p.f_Mod,AV.sl 3 (List.map c_api_Var v0_p.f_Locs),AV.sl 4 (List.map c_api_Thread v0_p.f_Threads),AV.sl 3 (List.map c_api_Claim v0_p.f_Claims)]]) (fun v=>(bA v,[])) (fun k s=>ref04_Right_L3 n v0_p k s) (fun s=>rfl) o68 n 0 (fun _=>0) ho68 ?_ ?_
 intro k61 s60 a62 K63 cont64 hK65 hcont66 h hr67
 replace h:ref04_Right_L3 n v0_p (k61+1) s60=some o68:=h
 rw [ref04_Right_L3] at h
 conv=>lhs;whnf
 revert h
 refine br ?_ ?_
 refine ix ?_;intro x70
 refine br ?_ ?_
 intro h;cases sj h
 refine (hK65 _ _).trans ?_
 refine Eq.trans ?_ (Eq.symm (show _=some _ from hr67))
 conv=>lhs;whnf
 exact rq
 refine br ?_ ?_
 intro h;cases sj h
 refine (hK65 _ _).trans ?_
 refine Eq.trans ?_ (Eq.symm (show _=some _ from hr67))
 conv=>lhs;whnf
 exact rq
 refine ca hc (fun _ h=>ok_ref04_claimed h) ?_;intro y73
 refine br ?_ ?_
 refine br ?_ ?_
 intro h;cases sj h
 refine (hK65 _ _).trans ?_
 refine Eq.trans ?_ (Eq.symm (show _=some _ from hr67))
 conv=>lhs;whnf
 exact rq
 exact fun h=>cq (hcont66 (IntKind.i64.wrap (s60+1)) (fun _=>0) h)
 intro h;cases sj h
 refine (hK65 _ _).trans ?_
 refine Eq.trans ?_ (Eq.symm (show _=some _ from hr67))
 conv=>lhs;whnf
 exact rq
 intro h;cases sj h
 exact kq (hr67 (fun _=>0))
 refine lrc ?_ ?_
 intro v e;subst e;cases sj h;rfl
 intro t a77 e;subst e
 dsimp only at h
 conv=>lhs;whnf
 revert h
 exact rz
 exact rz
theorem ok_ref04_nodes {n:Nat} ⦃v0_l:(List S_api_Node)⦄ ⦃r:(List S_api_Node)⦄:m_ref04_nodes n v0_l=some r→CN n 26 [AV.sl 5 (List.map c_api_Node v0_l)] []=some (AV.sl 5 (List.map c_api_Node r),[]):=by
 intro h;rcases n with _|n;cases h
 rw [m_ref04_nodes] at h
 refine callN_eq' Tryz.func26 (by rfl) rfl rfl (Nat.le_of_ble_eq_true rfl) ?_
 intro call hc;conv=>lhs;whnf
 revert h
 intro h;refine bind_some2 h ?_;clear h;intro o10 ho10 h
 refine lq (σ:=(Int×(List S_api_Node))) (τ:=(List S_api_Node)) (ν:=(List S_api_Node)) 0 (fun (s1,s2) a4=>stOf 22 [(0,AV.sl 5 (List.map c_api_Node v0_l)),(3,AV.row 0 (List.length s2)),(4,iA s1)]) (fun (s1,s2) a4=>[Ob.row 63 5 (List.map c_api_Node s2)]) (fun x16 a15=>stOf 22 [(3,AV.row 0 (List.length x16))]) (fun x16 a15=>[Ob.row 63 5 (List.map c_api_Node x16)]) (fun v=>(AV.sl 5 (List.map c_api_Node v),[])) (fun k s=>ref04_nodes_L0 n v0_l k s.1 s.2) (fun s=>rfl) o10 n (0,([]:List S_api_Node)) (fun _=>0) ho10 ?_ ?_
 intro k3 ss a4 K5 cont6 hK7 hcont8 h hr9
 obtain ⟨s1,s2⟩:=ss
 replace h:ref04_nodes_L0 n v0_l (k3+1) s1 s2=some o10:=h
 rw [ref04_nodes_L0] at h
 conv=>lhs;whnf
 revert h
 refine br ?_ ?_
 refine ix ?_;intro x12
 refine ar (ap c_api_Node (List.map c_api_Node s2) s2 ([[iA x12.f_Op,iA x12.f_N,sA x12.f_Name,sA x12.f_In,iA (0)]]) ([(⟨x12.f_Op,x12.f_N,x12.f_Name,x12.f_In,0⟩:S_api_Node)]:List S_api_Node)) ?_
 exact fun h=>cq (hcont8 (IntKind.i64.wrap (s1+1),(s2++([(⟨x12.f_Op,x12.f_N,x12.f_Name,x12.f_In,0⟩:S_api_Node)]:List S_api_Node))) (fun _=>0) h)
 intro h;cases sj h
 exact kq (hr9 (fun _=>0))
 refine lrc ?_ ?_
 intro v e;subst e;cases sj h;rfl
 intro x16 a15 e;subst e
 dsimp only at h
 conv=>lhs;whnf
 revert h
 intro h;obtain rfl:=sj h
 try simp only [ls]
 exact fq (y:=some (AV.sl 5 (List.take (List.length x16) (List.map c_api_Node x16)),[]))
end Go.Proofs.YtpnhafdimkmbbaaGreat
end
section
namespace Go.Proofs.YtpnhafdimkmbbaaGreat
set_option linter.unusedVariables false
set_option linter.unusedSimpArgs false
set_option maxRecDepth 100000
set_option maxHeartbeats 4000000
theorem ok_law05_parsed {n:Nat} ⦃v0_s:(List UInt8)⦄ ⦃r:S_api_Prog⦄:m_law05_parsed n v0_s=some r→CN n 10 [sA v0_s] []=some (AV.agg [iA r.f_Mod,AV.sl 3 (List.map c_api_Var r.f_Locs),AV.sl 4 (List.map c_api_Thread r.f_Threads),AV.sl 3 (List.map c_api_Claim r.f_Claims)],[]):=by
 intro h;rcases n with _|n;cases h
 rw [m_law05_parsed] at h
 refine callN_eq' Tryz.func10 (by rfl) rfl rfl (Nat.le_of_ble_eq_true rfl) ?_
 intro call hc;conv=>lhs;whnf
 revert h
 refine ca hc (fun _ h=>ok_ref04_Parse h) ?_;intro y1
 exact rz
end Go.Proofs.YtpnhafdimkmbbaaGreat
end
section
namespace Go.Proofs.YtpnhafdimkmbbaaGreat
set_option linter.unusedVariables false
set_option linter.unusedSimpArgs false
set_option maxRecDepth 100000
set_option maxHeartbeats 4000000
theorem ok_law05_known {n:Nat} ⦃r:Bool⦄:m_law05_known n=some r→CN n 7 [] []=some (bA r,[]):=by
 intro h;rcases n with _|n;cases h
 rw [m_law05_known] at h
 refine callN_eq' Tryz.func7 (by rfl) rfl rfl (Nat.le_of_ble_eq_true rfl) ?_
 intro call hc;conv=>lhs;whnf
 revert h
 refine ca hc (fun _ h=>ok_law05_parsed h) ?_;intro y1
 refine ca hc (fun _ h=>ok_legal_Check h) ?_;intro y3
 refine ca hc (fun _ h=>ok_law05_parsed h) ?_;intro y5
 refine ca hc (fun _ h=>ok_legal_Check h) ?_;intro y7
 refine ca hc (fun _ h=>ok_law05_parsed h) ?_;intro y9
 refine ca hc (fun _ h=>ok_legal_Check h) ?_;intro y11
 refine ca hc (fun _ h=>ok_law05_parsed h) ?_;intro y13
 refine ca hc (fun _ h=>ok_legal_Check h) ?_;intro y15
 refine br ?_ ?_
 refine br ?_ ?_
 refine br ?_ ?_
 refine br ?_ ?_
 refine br ?_ ?_
 refine br ?_ ?_
 refine br ?_ ?_
 refine br ?_ ?_
 refine cr hc (fun y25 h=>(show CN n 15 [AV.sl 1 [[sA (([97]:List UInt8))],[sA (([98]:List UInt8))]],sA (([98]:List UInt8))] []=some (iA y25,[]) from ok_legal_Index (r:=y25) h)) ?_;intro y25
 refine br ?_ ?_
 refine cr hc (fun y28 h=>(show CN n 15 [AV.sl 1 [],sA (([98]:List UInt8))] []=some (iA y28,[]) from ok_legal_Index (r:=y28) h)) ?_;intro y28
 refine br ?_ ?_
 refine ca hc (fun _ h=>ok_law05_parsed h) ?_;intro y31
 refine ca hc (fun _ h=>ok_legal_Locs h) ?_;intro y33
 exact rz
 exact rz
 exact rz
 exact rz
 exact rz
 exact rz
 exact rz
 exact rz
 exact rz
 exact rz
 exact rz
end Go.Proofs.YtpnhafdimkmbbaaGreat
end
section
namespace Go.Proofs.YtpnhafdimkmbbaaGreat
set_option linter.unusedVariables false
set_option linter.unusedSimpArgs false
set_option maxRecDepth 100000
set_option maxHeartbeats 4000000
theorem ok_ref04_Bare {n:Nat} ⦃v0_p:S_api_Prog⦄ ⦃r:S_api_Prog⦄:m_ref04_Bare n v0_p=some r→CN n 11 [AV.agg [iA v0_p.f_Mod,AV.sl 3 (List.map c_api_Var v0_p.f_Locs),AV.sl 4 (List.map c_api_Thread v0_p.f_Threads),AV.sl 3 (List.map c_api_Claim v0_p.f_Claims)]] []=some (AV.agg [iA r.f_Mod,AV.sl 3 (List.map c_api_Var r.f_Locs),AV.sl 4 (List.map c_api_Thread r.f_Threads),AV.sl 3 (List.map c_api_Claim r.f_Claims)],[]):=by
 intro h;rcases n with _|n;cases h
 rw [m_ref04_Bare] at h
 refine callN_eq' Tryz.func11 (by rfl) rfl rfl (Nat.le_of_ble_eq_true rfl) ?_
 intro call hc;conv=>lhs;whnf
 revert h
 intro h;refine bind_some2 h ?_;clear h;intro o10 ho10 h
 refine lq (σ:=(Int×(List S_api_Var))) (τ:=(List S_api_Var)) (ν:=S_api_Prog) 0 (fun (s1,s2) a4=>stOf 125 [(1,AV.ptr 0 0),(2,AV.ptr 1 0),(3,AV.ptr 2 0),(4,iA s1)]) (fun (s1,s2) a4=>[Ob.var 26 [iA v0_p.f_Mod,AV.sl 3 (List.map c_api_Var v0_p.f_Locs),AV.sl 4 (List.map c_api_Thread v0_p.f_Threads),AV.sl 3 (List.map c_api_Claim v0_p.f_Claims)],Ob.var 26 [iA (0),AV.row 3 (List.length (([]:List S_api_Var))),AV.row 4 (List.length (([]:List S_api_Thread))),AV.row 5 (List.length (([]:List S_api_Claim)))],Ob.var 26 [iA v0_p.f_Mod,AV.row 6 (List.length s2),AV.row 7 (List.length (([]:List S_api_Thread))),AV.row 8 (List.length (([]:List S_api_Claim)))],Ob.row 36 3 ([]),Ob.row 40 4 ([]),Ob.row 45 3 ([]),Ob.row 36 3 (List.map c_api_Var s2),Ob.row 40 4 ([]),Ob.row 45 3 ([])]) (fun x16 a15=>stOf 125 [(1,AV.ptr 0 0),(2,AV.ptr 1 0),(3,AV.ptr 2 0)]) (fun x16 a15=>[Ob.var 26 [iA v0_p.f_Mod,AV.sl 3 (List.map c_api_Var v0_p.f_Locs),AV.sl 4 (List.map c_api_Thread v0_p.f_Threads),AV.sl 3 (List.map c_api_Claim v0_p.f_Claims)],Ob.var 26 [iA (0),AV.row 3 (List.length (([]:List S_api_Var))),AV.row 4 (List.length (([]:List S_api_Thread))),AV.row 5 (List.length (([]:List S_api_Claim)))],Ob.var 26 [iA v0_p.f_Mod,AV.row 6 (List.length x16),AV.row 7 (List.length (([]:List S_api_Thread))),AV.row 8 (List.length (([]:List S_api_Claim)))],Ob.row 36 3 ([]),Ob.row 40 4 ([]),Ob.row 45 3 ([]),Ob.row 36 3 (List.map c_api_Var x16),Ob.row 40 4 ([]),Ob.row 45 3 ([])]) (fun v=>(AV.agg [iA v.f_Mod,AV.sl 3 (List.map c_api_Var v.f_Locs),AV.sl 4 (List.map c_api_Thread v.f_Threads),AV.sl 3 (List.map c_api_Claim v.f_Claims)],[])) (fun k s=>ref04_Bare_L0 n v0_p k s.1 s.2) (fun s=>rfl) o10 n (0,([]:List S_api_Var)) (fun _=>0) ho10 ?_ ?_
 intro k3 ss a4 K5 cont6 hK7 hcont8 h hr9
 obtain ⟨s1,s2⟩:=ss
 replace h:ref04_Bare_L0 n v0_p (k3+1) s1 s2=some o10:=h
 rw [ref04_Bare_L0] at h
 conv=>lhs;whnf
 revert h
 refine br ?_ ?_
 refine ix ?_;intro x12
 refine ar (ap c_api_Var (List.map c_api_Var s2) s2 ([[sA x12.f_Name,iA x12.f_N,iA (0)]]) ([(⟨x12.f_Name,x12.f_N,0⟩:S_api_Var)]:List S_api_Var)) ?_
 exact fun h=>cq (hcont8 (IntKind.i64.wrap (s1+1),(s2++([(⟨x12.f_Name,x12.f_N,0⟩:S_api_Var)]:List S_api_Var))) (fun _=>0) h)
 intro h;cases sj h
 exact kq (hr9 (fun _=>0))
 refine lrc ?_ ?_
 intro v e;subst e;cases sj h;rfl
 intro x16 a15 e;subst e
 dsimp only at h
 conv=>lhs;whnf
 revert h
 intro h;refine bind_some2 h ?_;clear h;intro o26 ho26 h
 refine lq (σ:=(Int×(List S_api_Thread))) (τ:=(List S_api_Thread)) (ν:=S_api_Prog) 2 (fun (s17,s18) a20=>stOf 125 [(1,AV.ptr 0 0),(2,AV.ptr 1 0),(3,AV.ptr 2 0),(6,iA s17)]) (fun (s17,s18) a20=>[Ob.var 26 [iA v0_p.f_Mod,AV.sl 3 (List.map c_api_Var v0_p.f_Locs),AV.sl 4 (List.map c_api_Thread v0_p.f_Threads),AV.sl 3 (List.map c_api_Claim v0_p.f_Claims)],Ob.var 26 [iA (0),AV.row 3 (List.length (([]:List S_api_Var))),AV.row 4 (List.length (([]:List S_api_Thread))),AV.row 5 (List.length (([]:List S_api_Claim)))],Ob.var 26 [iA v0_p.f_Mod,AV.row 6 (List.length x16),AV.row 7 (List.length s18),AV.row 8 (List.length (([]:List S_api_Claim)))],Ob.row 36 3 ([]),Ob.row 40 4 ([]),Ob.row 45 3 ([]),Ob.row 36 3 (List.map c_api_Var x16),Ob.row 40 4 (List.map c_api_Thread s18),Ob.row 45 3 ([])]) (fun x57 a56=>stOf 125 [(1,AV.ptr 0 0),(2,AV.ptr 1 0),(3,AV.ptr 2 0)]) (fun x57 a56=>[Ob.var 26 [iA v0_p.f_Mod,AV.sl 3 (List.map c_api_Var v0_p.f_Locs),AV.sl 4 (List.map c_api_Thread v0_p.f_Threads),AV.sl 3 (List.map c_api_Claim v0_p.f_Claims)],Ob.var 26 [iA (0),AV.row 3 (List.length (([]:List S_api_Var))),AV.row 4 (List.length (([]:List S_api_Thread))),AV.row 5 (List.length (([]:List S_api_Claim)))],Ob.var 26 [iA v0_p.f_Mod,AV.row 6 (List.length x16),AV.row 7 (List.length x57),AV.row 8 (List.length (([]:List S_api_Claim)))],Ob.row 36 3 ([]),Ob.row 40 4 ([]),Ob.row 45 3 ([]),Ob.row 36 3 (List.map c_api_Var x16),Ob.row 40 4 (List.map c_api_Thread x57),Ob.row 45 3 ([])]) (fun v=>(AV.agg [iA v.f_Mod,AV.sl 3 (List.map c_api_Var v.f_Locs),AV.sl 4 (List.map c_api_Thread v.f_Threads),AV.sl 3 (List.map c_api_Claim v.f_Claims)],[])) (fun k s=>ref04_Bare_L1 n v0_p k s.1 s.2) (fun s=>rfl) o26 n (0,([]:List S_api_Thread)) (fun _=>0) ho26 ?_ ?_
 intro k19 ss a20 K21 cont22 hK23 hcont24 h hr25
 obtain ⟨s17,s18⟩:=ss
 replace h:ref04_Bare_L1 n v0_p (k19+1) s17 s18=some o26:=h
 rw [ref04_Bare_L1] at h
 conv=>lhs;whnf
 revert h
 refine br ?_ ?_
 refine ix ?_;intro x28
 refine ix ?_;intro x29
 refine cn ?_
 intro h;refine bind_some2 h ?_;clear h;intro o40 ho40 h
 refine lq (σ:=(Int×(List S_api_Stmt))) (τ:=(List S_api_Stmt)) (ν:=S_api_Prog) 4 (fun (s31,s32) a34=>stOf 125 [(1,AV.ptr 0 0),(2,AV.ptr 1 0),(3,AV.ptr 2 0),(6,iA s17),(7,AV.ptr 9 0),(8,iA s31)]) (fun (s31,s32) a34=>[Ob.var 26 [iA v0_p.f_Mod,AV.sl 3 (List.map c_api_Var v0_p.f_Locs),AV.sl 4 (List.map c_api_Thread v0_p.f_Threads),AV.sl 3 (List.map c_api_Claim v0_p.f_Claims)],Ob.var 26 [iA (0),AV.row 3 (List.length (([]:List S_api_Var))),AV.row 4 (List.length (([]:List S_api_Thread))),AV.row 5 (List.length (([]:List S_api_Claim)))],Ob.var 26 [iA v0_p.f_Mod,AV.row 6 (List.length x16),AV.row 7 (List.length s18),AV.row 8 (List.length (([]:List S_api_Claim)))],Ob.row 36 3 ([]),Ob.row 40 4 ([]),Ob.row 45 3 ([]),Ob.row 36 3 (List.map c_api_Var x16),Ob.row 40 4 (List.map c_api_Thread s18),Ob.row 45 3 ([]),Ob.var 40 [sA x28.f_Name,AV.sl 1 (List.map encS x29.f_Regs),AV.row 10 (List.length s32),iA (0)],Ob.row 59 9 (List.map c_api_Stmt s32)]) (fun x52 a51=>stOf 125 [(1,AV.ptr 0 0),(2,AV.ptr 1 0),(3,AV.ptr 2 0),(6,iA s17),(7,AV.ptr 9 0)]) (fun x52 a51=>[Ob.var 26 [iA v0_p.f_Mod,AV.sl 3 (List.map c_api_Var v0_p.f_Locs),AV.sl 4 (List.map c_api_Thread v0_p.f_Threads),AV.sl 3 (List.map c_api_Claim v0_p.f_Claims)],Ob.var 26 [iA (0),AV.row 3 (List.length (([]:List S_api_Var))),AV.row 4 (List.length (([]:List S_api_Thread))),AV.row 5 (List.length (([]:List S_api_Claim)))],Ob.var 26 [iA v0_p.f_Mod,AV.row 6 (List.length x16),AV.row 7 (List.length s18),AV.row 8 (List.length (([]:List S_api_Claim)))],Ob.row 36 3 ([]),Ob.row 40 4 ([]),Ob.row 45 3 ([]),Ob.row 36 3 (List.map c_api_Var x16),Ob.row 40 4 (List.map c_api_Thread s18),Ob.row 45 3 ([]),Ob.var 40 [sA x28.f_Name,AV.sl 1 (List.map encS x29.f_Regs),AV.row 10 (List.length x52),iA (0)],Ob.row 59 9 (List.map c_api_Stmt x52)]) (fun v=>(AV.agg [iA v.f_Mod,AV.sl 3 (List.map c_api_Var v.f_Locs),AV.sl 4 (List.map c_api_Thread v.f_Threads),AV.sl 3 (List.map c_api_Claim v.f_Claims)],[])) (fun k s=>ref04_Bare_L2 n v0_p s17 k s.1 s.2) (fun s=>rfl) o40 n (0,([]:List S_api_Stmt)) (fun _=>0) ho40 ?_ ?_
 intro k33 ss a34 K35 cont36 hK37 hcont38 h hr39
 obtain ⟨s31,s32⟩:=ss
 replace h:ref04_Bare_L2 n v0_p s17 (k33+1) s31 s32=some o40:=h
 rw [ref04_Bare_L2] at h
 conv=>lhs;whnf
 revert h
 refine ix ?_;intro x41
 refine br ?_ ?_
 refine ix ?_;intro x43
 refine ix ?_;intro x44
 refine ca hc (fun _ h=>ok_ref04_nodes h) ?_;intro y45
 refine ca hc (fun _ h=>ok_ref04_nodes h) ?_;intro y47
 refine ar (ap c_api_Stmt (List.map c_api_Stmt s32) s32 ([[iA x44.f_Kind,sA x44.f_Reg,sA x44.f_Loc,AV.sl 5 (List.map c_api_Node y45),AV.sl 5 (List.map c_api_Node y47),bA x44.f_Ne,iA x44.f_Body,iA x44.f_Else,iA (0)]]) ([(⟨x44.f_Kind,x44.f_Reg,x44.f_Loc,y45,y47,x44.f_Ne,x44.f_Body,x44.f_Else,0⟩:S_api_Stmt)]:List S_api_Stmt)) ?_
 exact fun h=>cq (hcont38 (IntKind.i64.wrap (s31+1),(s32++([(⟨x44.f_Kind,x44.f_Reg,x44.f_Loc,y45,y47,x44.f_Ne,x44.f_Body,x44.f_Else,0⟩:S_api_Stmt)]:List S_api_Stmt))) (fun _=>0) h)
 intro h;cases sj h
 exact kq (hr39 (fun _=>0))
 refine lrc ?_ ?_
 intro v e;subst e;cases sj h;exact hr25
 intro x52 a51 e;subst e
 dsimp only at h
 conv=>lhs;whnf
 revert h
 refine ar (ap c_api_Thread (List.map c_api_Thread s18) s18 ([[sA x28.f_Name,AV.sl 1 (List.map encS x29.f_Regs),AV.sl 9 (List.map c_api_Stmt x52),iA (0)]]) ([(⟨x28.f_Name,x29.f_Regs,x52,0⟩:S_api_Thread)]:List S_api_Thread)) ?_
 exact fun h=>cq (hcont24 (IntKind.i64.wrap (s17+1),(s18++([(⟨x28.f_Name,x29.f_Regs,x52,0⟩:S_api_Thread)]:List S_api_Thread))) (fun _=>0) h)
 intro h;cases sj h
 exact kq (hr25 (fun _=>0))
 refine lrc ?_ ?_
 intro v e;subst e;cases sj h;rfl
 intro x57 a56 e;subst e
 dsimp only at h
 conv=>lhs;whnf
 revert h
 intro h;refine bind_some2 h ?_;clear h;intro o67 ho67 h
 refine lq (σ:=(Int×(List S_api_Claim))) (τ:=(List S_api_Claim)) (ν:=S_api_Prog) 6 (fun (s58,s59) a61=>stOf 125 [(1,AV.ptr 0 0),(2,AV.ptr 1 0),(3,AV.ptr 2 0),(10,iA s58)]) (fun (s58,s59) a61=>[Ob.var 26 [iA v0_p.f_Mod,AV.sl 3 (List.map c_api_Var v0_p.f_Locs),AV.sl 4 (List.map c_api_Thread v0_p.f_Threads),AV.sl 3 (List.map c_api_Claim v0_p.f_Claims)],Ob.var 26 [iA (0),AV.row 3 (List.length (([]:List S_api_Var))),AV.row 4 (List.length (([]:List S_api_Thread))),AV.row 5 (List.length (([]:List S_api_Claim)))],Ob.var 26 [iA v0_p.f_Mod,AV.row 6 (List.length x16),AV.row 7 (List.length x57),AV.row 8 (List.length s59)],Ob.row 36 3 ([]),Ob.row 40 4 ([]),Ob.row 45 3 ([]),Ob.row 36 3 (List.map c_api_Var x16),Ob.row 40 4 (List.map c_api_Thread x57),Ob.row 45 3 (List.map c_api_Claim s59)]) (fun x76 a75=>stOf 125 [(2,AV.ptr 1 0),(3,AV.ptr 2 0)]) (fun x76 a75=>[Ob.var 26 [iA v0_p.f_Mod,AV.sl 3 (List.map c_api_Var v0_p.f_Locs),AV.sl 4 (List.map c_api_Thread v0_p.f_Threads),AV.sl 3 (List.map c_api_Claim v0_p.f_Claims)],Ob.var 26 [iA (0),AV.row 3 (List.length (([]:List S_api_Var))),AV.row 4 (List.length (([]:List S_api_Thread))),AV.row 5 (List.length (([]:List S_api_Claim)))],Ob.var 26 [iA v0_p.f_Mod,AV.row 6 (List.length x16),AV.row 7 (List.length x57),AV.row 8 (List.length x76)],Ob.row 36 3 ([]),Ob.row 40 4 ([]),Ob.row 45 3 ([]),Ob.row 36 3 (List.map c_api_Var x16),Ob.row 40 4 (List.map c_api_Thread x57),Ob.row 45 3 (List.map c_api_Claim x76)]) (fun v=>(AV.agg [iA v.f_Mod,AV.sl 3 (List.map c_api_Var v.f_Locs),AV.sl 4 (List.map c_api_Thread v.f_Threads),AV.sl 3 (List.map c_api_Claim v.f_Claims)],[])) (fun k s=>ref04_Bare_L3 n v0_p k s.1 s.2) (fun s=>rfl) o67 n (0,([]:List S_api_Claim)) (fun _=>0) ho67 ?_ ?_
 intro k60 ss a61 K62 cont63 hK64 hcont65 h hr66
 obtain ⟨s58,s59⟩:=ss
 replace h:ref04_Bare_L3 n v0_p (k60+1) s58 s59=some o67:=h
 rw [ref04_Bare_L3] at h
 conv=>lhs;whnf
 revert h
 refine br ?_ ?_
 refine ix ?_;intro x69
 refine ix ?_;intro x70
 refine ca hc (fun _ h=>ok_ref04_nodes h) ?_;intro y71
 refine ar (ap c_api_Claim (List.map c_api_Claim s59) s59 ([[iA x69.f_Kind,AV.sl 5 (List.map c_api_Node y71),iA (0)]]) ([(⟨x69.f_Kind,y71,0⟩:S_api_Claim)]:List S_api_Claim)) ?_
 exact fun h=>cq (hcont65 (IntKind.i64.wrap (s58+1),(s59++([(⟨x69.f_Kind,y71,0⟩:S_api_Claim)]:List S_api_Claim))) (fun _=>0) h)
 intro h;cases sj h
 exact kq (hr66 (fun _=>0))
 refine lrc ?_ ?_
 intro v e;subst e;cases sj h;rfl
 intro x76 a75 e;subst e
 dsimp only at h
 conv=>lhs;whnf
 revert h
 intro h;cases sj h
 try simp only [ls]
 exact fq (y:=some (AV.agg [iA v0_p.f_Mod,AV.sl 3 (List.take (List.length x16) (List.map c_api_Var x16)),AV.sl 4 (List.take (List.length x57) (List.map c_api_Thread x57)),AV.sl 3 (List.take (List.length x76) (List.map c_api_Claim x76))],[]))
end Go.Proofs.YtpnhafdimkmbbaaGreat
end
section
namespace Go.Proofs.YtpnhafdimkmbbaaGreat
set_option linter.unusedVariables false
set_option linter.unusedSimpArgs false
set_option maxRecDepth 100000
set_option maxHeartbeats 4000000
theorem ok_law05_LegalLess {n:Nat} ⦃v0_p:S_api_Prog⦄ ⦃r:Bool⦄:m_law05_LegalLess n v0_p=some r→CN n 5 [AV.agg [iA v0_p.f_Mod,AV.sl 3 (List.map c_api_Var v0_p.f_Locs),AV.sl 4 (List.map c_api_Thread v0_p.f_Threads),AV.sl 3 (List.map c_api_Claim v0_p.f_Claims)]] []=some (bA r,[]):=by
 intro h;rcases n with _|n;cases h
 rw [m_law05_LegalLess] at h
 refine callN_eq' Tryz.func5 (by rfl) rfl rfl (Nat.le_of_ble_eq_true rfl) ?_
 intro call hc;conv=>lhs;whnf
 revert h
 refine ca hc (fun _ h=>ok_ref04_Light h) ?_;intro y1
 refine br ?_ ?_
 refine ca hc (fun _ h=>ok_legal_Check h) ?_;intro y4
 refine ca hc (fun _ h=>ok_ref04_Bare h) ?_;intro y6
 refine ca hc (fun _ h=>ok_legal_Check h) ?_;intro y8
 refine ca hc (fun _ h=>ok_ref04_Right h) ?_;intro y10
 refine br ?_ ?_
 refine br ?_ ?_
 exact rz
 refine br ?_ ?_
 exact rz
 refine br ?_ ?_
 refine ca hc (fun _ h=>ok_law05_known h) ?_;intro y16
 exact rz
 refine cr hc (fun y18 h=>(show CN n 8 [AV.agg [iA v0_p.f_Mod,AV.sl 3 (List.map c_api_Var v0_p.f_Locs),AV.sl 4 (List.map c_api_Thread v0_p.f_Threads),AV.sl 3 []]] []=some (AV.tup [iA y18.1,iA y18.2],[]) from ok_legal_Check (r:=y18) h)) ?_;intro y18
 refine br ?_ ?_
 refine cs (sl c_api_Claim v0_p.f_Claims 0 ((IntKind.i64.wrap (((v0_p.f_Claims.length:Nat):Int) - 1)).toNat)) ?_
 refine cr hc (fun y23 h=>(show CN n 8 [AV.agg [iA v0_p.f_Mod,AV.sl 3 (List.map c_api_Var v0_p.f_Locs),AV.sl 4 (List.map c_api_Thread v0_p.f_Threads),AV.sl 3 (List.map c_api_Claim ((List.drop 0 (List.take ((IntKind.i64.wrap (((v0_p.f_Claims.length:Nat):Int) - 1)).toNat) v0_p.f_Claims))))]] []=some (AV.tup [iA y23.1,iA y23.2],[]) from ok_legal_Check (r:=y23) h)) ?_;intro y23
 refine br ?_ ?_
 refine br ?_ ?_
 refine ca hc (fun _ h=>ok_law05_known h) ?_;intro y27
 exact rz
 exact rz
 exact rz
 refine cr hc (fun y29 h=>(show CN n 8 [AV.agg [iA v0_p.f_Mod,AV.sl 3 (List.map c_api_Var v0_p.f_Locs),AV.sl 4 (List.map c_api_Thread v0_p.f_Threads),AV.sl 3 []]] []=some (AV.tup [iA y29.1,iA y29.2],[]) from ok_legal_Check (r:=y29) h)) ?_;intro y29
 refine br ?_ ?_
 refine br ?_ ?_
 refine ca hc (fun _ h=>ok_law05_known h) ?_;intro y33
 exact rz
 exact rz
 exact rz
 refine br ?_ ?_
 refine ca hc (fun _ h=>ok_law05_known h) ?_;intro y36
 exact rz
 refine cr hc (fun y38 h=>(show CN n 8 [AV.agg [iA v0_p.f_Mod,AV.sl 3 (List.map c_api_Var v0_p.f_Locs),AV.sl 4 (List.map c_api_Thread v0_p.f_Threads),AV.sl 3 []]] []=some (AV.tup [iA y38.1,iA y38.2],[]) from ok_legal_Check (r:=y38) h)) ?_;intro y38
 refine br ?_ ?_
 refine cs (sl c_api_Claim v0_p.f_Claims 0 ((IntKind.i64.wrap (((v0_p.f_Claims.length:Nat):Int) - 1)).toNat)) ?_
 refine cr hc (fun y43 h=>(show CN n 8 [AV.agg [iA v0_p.f_Mod,AV.sl 3 (List.map c_api_Var v0_p.f_Locs),AV.sl 4 (List.map c_api_Thread v0_p.f_Threads),AV.sl 3 (List.map c_api_Claim ((List.drop 0 (List.take ((IntKind.i64.wrap (((v0_p.f_Claims.length:Nat):Int) - 1)).toNat) v0_p.f_Claims))))]] []=some (AV.tup [iA y43.1,iA y43.2],[]) from ok_legal_Check (r:=y43) h)) ?_;intro y43
 refine br ?_ ?_
 refine br ?_ ?_
 refine ca hc (fun _ h=>ok_law05_known h) ?_;intro y47
 exact rz
 exact rz
 exact rz
 refine cr hc (fun y49 h=>(show CN n 8 [AV.agg [iA v0_p.f_Mod,AV.sl 3 (List.map c_api_Var v0_p.f_Locs),AV.sl 4 (List.map c_api_Thread v0_p.f_Threads),AV.sl 3 []]] []=some (AV.tup [iA y49.1,iA y49.2],[]) from ok_legal_Check (r:=y49) h)) ?_;intro y49
 refine br ?_ ?_
 refine br ?_ ?_
 refine ca hc (fun _ h=>ok_law05_known h) ?_;intro y53
 exact rz
 exact rz
 exact rz
 refine ca hc (fun _ h=>ok_law05_known h) ?_;intro y55
 exact rz
end Go.Proofs.YtpnhafdimkmbbaaGreat
end
