/- Parts of the proofs: what they lean on. Conditions: none. -/
import Derived.Test.YtgelgahilfojdaaGreatGenMakesP2
set_option linter.unusedSimpArgs false
set_option linter.unusedVariables false
section
namespace Go.Proofs.YtgelgahilfojdaaGreat
set_option linter.unusedVariables false
set_option linter.unusedSimpArgs false
set_option maxRecDepth 100000
set_option maxHeartbeats 4000000
theorem ok_ref03_Wrong {n:Nat} ⦃v0_l:(List S_api_Token)⦄ ⦃v1_i:Int⦄ ⦃r:(Int×Int)⦄:m_ref03_Wrong n v0_l v1_i=some r→CN n 59 [AV.sl 4 (List.map c_api_Token v0_l),iA v1_i] []=some (AV.tup [iA r.1,iA r.2],[]):=by
 intro h;rcases n with _|n;cases h
 rw [m_ref03_Wrong] at h
 refine callN_eq' Tryz.func59 (by rfl) rfl rfl (Nat.le_of_ble_eq_true rfl) ?_
 intro call hc;conv=>lhs;whnf
 revert h
 refine br ?_ ?_
 refine ca hc (fun _ h=>ok_ref02_Place h) ?_;intro y2
 exact rz
 refine ca hc (fun _ h=>ok_ref02_Place h) ?_;intro y4
 exact rz
theorem ok_ref03_Name {n:Nat} ⦃v0_l:(List S_api_Token)⦄ ⦃v1_i:Int⦄ ⦃r:Bool⦄:m_ref03_Name n v0_l v1_i=some r→CN n 61 [AV.sl 4 (List.map c_api_Token v0_l),iA v1_i] []=some (bA r,[]):=by
 intro h;rcases n with _|n;cases h
 rw [m_ref03_Name] at h
 refine callN_eq' Tryz.func61 (by rfl) rfl rfl (Nat.le_of_ble_eq_true rfl) ?_
 intro call hc;conv=>lhs;whnf
 revert h
 refine br ?_ ?_
 refine ix ?_;intro x2
 refine br ?_ ?_
 refine ix ?_;intro x4
 refine ca hc (fun _ h=>ok_ref01_Name h) ?_;intro y5
 exact rz
 exact rz
 exact rz
theorem ok_ref03_block {n:Nat} ⦃v0_kind:Int⦄ ⦃r:Bool⦄:m_ref03_block n v0_kind=some r→CN n 102 [iA v0_kind] []=some (bA r,[]):=by
 intro h;rcases n with _|n;cases h
 rw [m_ref03_block] at h
 refine callN_eq' Tryz.func102 (by rfl) rfl rfl (Nat.le_of_ble_eq_true rfl) ?_
 intro call hc;conv=>lhs;whnf
 revert h
 refine br ?_ ?_
 exact rz
 refine br ?_ ?_
 exact rz
 exact rz
theorem ok_ref03_form {n:Nat} ⦃v0_kind:Int⦄ ⦃r:(List UInt8)⦄:m_ref03_form n v0_kind=some r→CN n 137 [iA v0_kind] []=some (sA r,[]):=by
 intro h;rcases n with _|n;cases h
 rw [m_ref03_form] at h
 refine callN_eq' Tryz.func137 (by rfl) rfl rfl (Nat.le_of_ble_eq_true rfl) ?_
 intro call hc;conv=>lhs;whnf
 revert h
 refine br ?_ ?_
 exact rz
 refine br ?_ ?_
 exact rz
 refine br ?_ ?_
 exact rz
 refine br ?_ ?_
 exact rz
 refine br ?_ ?_
 exact rz
 refine br ?_ ?_
 exact rz
 refine br ?_ ?_
 exact rz
 refine br ?_ ?_
 exact rz
 refine br ?_ ?_
 exact rz
 refine br ?_ ?_
 exact rz
 exact rz
theorem ok_ref03_Plain {n:Nat} ⦃v0_l:(List S_api_Node)⦄ ⦃r:Bool⦄:m_ref03_Plain n v0_l=some r→CN n 112 [AV.sl 5 (List.map c_api_Node v0_l)] []=some (bA r,[]):=by
 intro h;rcases n with _|n;cases h
 rw [m_ref03_Plain] at h
 refine callN_eq' Tryz.func112 (by rfl) rfl rfl (Nat.le_of_ble_eq_true rfl) ?_
 intro call hc;conv=>lhs;whnf
 revert h
 refine ca hc (fun _ h=>ok_ref02_Names h) ?_;intro y1
 intro h;refine bind_some2 h ?_;clear h;intro o11 ho11 h
 refine lq (σ:=Int) (τ:=Unit) (ν:=Bool) 0 (fun s3 a5=>stOf 21 [(0,AV.sl 5 (List.map c_api_Node v0_l)),(3,AV.sl 5 (List.map c_api_Node y1)),(4,iA s3)]) (fun s3 a5=>[]) (fun _ a15=>stOf 21 [(0,AV.sl 5 (List.map c_api_Node v0_l))]) (fun _ a15=>[]) (fun v=>(bA v,[])) (fun k s=>ref03_Plain_L0 n y1 k s) (fun s=>rfl) o11 n 0 (fun _=>0) ho11 ?_ ?_
 intro k4 s3 a5 K6 cont7 hK8 hcont9 h hr10
 replace h:ref03_Plain_L0 n y1 (k4+1) s3=some o11:=h
 rw [ref03_Plain_L0] at h
 conv=>lhs;whnf
 revert h
 refine br ?_ ?_
 refine ix ?_;intro x13
 refine br ?_ ?_
 intro h;cases sj h
 refine (hK8 _ _).trans ?_
 refine Eq.trans ?_ (Eq.symm (show _=some _ from hr10))
 conv=>lhs;whnf
 exact rq
 exact fun h=>cq (hcont9 (IntKind.i64.wrap (s3+1)) (fun _=>0) h)
 intro h;cases sj h
 exact kq (hr10 (fun _=>0))
 refine lrc ?_ ?_
 intro v e;subst e;cases sj h;rfl
 intro t a15 e;subst e
 dsimp only at h
 conv=>lhs;whnf
 revert h
 refine ca hc (fun _ h=>ok_ref02_Right h) ?_;intro y16
 exact rz
theorem ok_ref03_plain {n:Nat} ⦃v0_l:(List S_api_Token)⦄ ⦃v1_i:Int⦄ ⦃r:((List S_api_Node)×Int×Int×Int)⦄:m_ref03_plain n v0_l v1_i=some r→CN n 138 [AV.sl 4 (List.map c_api_Token v0_l),iA v1_i] []=some (AV.tup [AV.sl 5 (List.map c_api_Node r.1),iA r.2.1,iA r.2.2.1,iA r.2.2.2],[]):=by
 intro h;rcases n with _|n;cases h
 rw [m_ref03_plain] at h
 refine callN_eq' Tryz.func138 (by rfl) rfl rfl (Nat.le_of_ble_eq_true rfl) ?_
 intro call hc;conv=>lhs;whnf
 revert h
 refine ca hc (fun _ h=>ok_ref02_Parse h) ?_;intro y1
 refine br ?_ ?_
 exact rz
 refine ca hc (fun _ h=>ok_ref03_Plain h) ?_;intro y4
 refine br ?_ ?_
 exact rz
 refine ix ?_;intro x7
 exact rz
theorem ok_ref03_fields {n:Nat} ⦃v0_l:(List S_api_Token)⦄ ⦃v1_i:Int⦄ ⦃v2_x:S_api_Stmt⦄ ⦃r:(S_api_Stmt×Int×Int×Int)⦄:m_ref03_fields n v0_l v1_i v2_x=some r→CN n 114 [AV.sl 4 (List.map c_api_Token v0_l),iA v1_i,AV.agg [iA v2_x.f_Kind,sA v2_x.f_Reg,sA v2_x.f_Loc,AV.sl 5 (List.map c_api_Node v2_x.f_E),AV.sl 5 (List.map c_api_Node v2_x.f_F),bA v2_x.f_Ne,iA v2_x.f_Body,iA v2_x.f_Else,iA v2_x.f_At]] []=some (AV.tup [AV.agg [iA r.1.f_Kind,sA r.1.f_Reg,sA r.1.f_Loc,AV.sl 5 (List.map c_api_Node r.1.f_E),AV.sl 5 (List.map c_api_Node r.1.f_F),bA r.1.f_Ne,iA r.1.f_Body,iA r.1.f_Else,iA r.1.f_At],iA r.2.1,iA r.2.2.1,iA r.2.2.2],[]):=by
 intro h;rcases n with _|n;cases h
 rw [m_ref03_fields] at h
 refine callN_eq' Tryz.func114 (by rfl) rfl rfl (Nat.le_of_ble_eq_true rfl) ?_
 intro call hc;conv=>lhs;whnf
 revert h
 refine ca hc (fun _ h=>ok_ref03_form h) ?_;intro y1
 intro h;refine bind_some2 h ?_;clear h;intro o17 ho17 h
 refine lq (σ:=(Int×Int×(List UInt8)×(List UInt8)×(List S_api_Node)×(List S_api_Node)×Bool)) (τ:=(Int×(List UInt8)×(List UInt8)×(List S_api_Node)×(List S_api_Node)×Bool)) (ν:=(S_api_Stmt×Int×Int×Int)) 0 (fun (s3,s4,s5,s6,s7,s8,s9) a11=>stOf 157 [(0,AV.sl 4 (List.map c_api_Token v0_l)),(1,iA s3),(5,AV.ptr 0 0),(6,AV.ptr 1 0),(10,sA y1),(11,iA s4)]) (fun (s3,s4,s5,s6,s7,s8,s9) a11=>[Ob.var 82 [iA v2_x.f_Kind,sA s5,sA s6,AV.sl 5 (List.map c_api_Node s7),AV.sl 5 (List.map c_api_Node s8),bA s9,iA v2_x.f_Body,iA v2_x.f_Else,iA v2_x.f_At],Ob.var 82 [iA (0),sA (([]:List UInt8)),sA (([]:List UInt8)),AV.nils,AV.nils,bA false,iA (0),iA (0),iA (0)]]) (fun (x72,x73,x74,x75,x76,x77) a71=>stOf 157 [(1,iA x72),(5,AV.ptr 0 0),(6,AV.ptr 1 0)]) (fun (x72,x73,x74,x75,x76,x77) a71=>[Ob.var 82 [iA v2_x.f_Kind,sA x73,sA x74,AV.sl 5 (List.map c_api_Node x75),AV.sl 5 (List.map c_api_Node x76),bA x77,iA v2_x.f_Body,iA v2_x.f_Else,iA v2_x.f_At],Ob.var 82 [iA (0),sA (([]:List UInt8)),sA (([]:List UInt8)),AV.nils,AV.nils,bA false,iA (0),iA (0),iA (0)]]) (fun v=>(AV.tup [AV.agg [iA v.1.f_Kind,sA v.1.f_Reg,sA v.1.f_Loc,AV.sl 5 (List.map c_api_Node v.1.f_E),AV.sl 5 (List.map c_api_Node v.1.f_F),bA v.1.f_Ne,iA v.1.f_Body,iA v.1.f_Else,iA v.1.f_At],iA v.2.1,iA v.2.2.1,iA v.2.2.2],[])) (fun k s=>ref03_fields_L0 n v0_l v2_x y1 k s.1 s.2.1 s.2.2.1 s.2.2.2.1 s.2.2.2.2.1 s.2.2.2.2.2.1 s.2.2.2.2.2.2) (fun s=>rfl) o17 n (v1_i,0,v2_x.f_Reg,v2_x.f_Loc,v2_x.f_E,v2_x.f_F,v2_x.f_Ne) (fun _=>0) ho17 ?_ ?_
 intro k10 ss a11 K12 cont13 hK14 hcont15 h hr16
 obtain ⟨s3,s4,s5,s6,s7,s8,s9⟩:=ss
 replace h:ref03_fields_L0 n v0_l v2_x y1 (k10+1) s3 s4 s5 s6 s7 s8 s9=some o17:=h
 rw [ref03_fields_L0] at h
 conv=>lhs;whnf
 revert h
 refine br ?_ ?_
 refine ixs ?_;intro x19
 refine br ?_ ?_
 refine ca hc (fun _ h=>ok_ref03_Name h) ?_;intro y21
 refine br ?_ ?_
 refine ixs ?_;intro x24
 refine br ?_ ?_
 refine ix ?_;intro x26
 exact fun h=>cq (hcont15 (IntKind.i64.wrap (s3+1),IntKind.i64.wrap (s4+1),x26.f_Text,s6,s7,s8,s9) (fun _=>0) h)
 refine ix ?_;intro x27
 exact fun h=>cq (hcont15 (IntKind.i64.wrap (s3+1),IntKind.i64.wrap (s4+1),s5,x27.f_Text,s7,s8,s9) (fun _=>0) h)
 refine ca hc (fun _ h=>ok_ref03_Wrong h) ?_;intro y28
 intro h;cases sj h
 refine (hK14 _ _).trans ?_
 refine Eq.trans ?_ (Eq.symm (show _=some _ from hr16))
 conv=>lhs;whnf
 exact rq
 refine ixs ?_;intro x30
 refine br ?_ ?_
 refine ca hc (fun _ h=>ok_ref03_Name h) ?_;intro y32
 refine br ?_ ?_
 refine ixs ?_;intro x35
 refine br ?_ ?_
 refine ix ?_;intro x37
 exact fun h=>cq (hcont15 (IntKind.i64.wrap (s3+1),IntKind.i64.wrap (s4+1),x37.f_Text,s6,s7,s8,s9) (fun _=>0) h)
 refine ix ?_;intro x38
 exact fun h=>cq (hcont15 (IntKind.i64.wrap (s3+1),IntKind.i64.wrap (s4+1),s5,x38.f_Text,s7,s8,s9) (fun _=>0) h)
 refine ca hc (fun _ h=>ok_ref03_Wrong h) ?_;intro y39
 intro h;cases sj h
 refine (hK14 _ _).trans ?_
 refine Eq.trans ?_ (Eq.symm (show _=some _ from hr16))
 conv=>lhs;whnf
 exact rq
 refine ixs ?_;intro x41
 refine br ?_ ?_
 refine ca hc (fun _ h=>ok_ref03_plain h) ?_;intro y43
 refine br ?_ ?_
 intro h;cases sj h
 refine (hK14 _ _).trans ?_
 refine Eq.trans ?_ (Eq.symm (show _=some _ from hr16))
 conv=>lhs;whnf
 exact rq
 refine ixs ?_;intro x46
 refine br ?_ ?_
 exact fun h=>cq (hcont15 (y43.2.1,IntKind.i64.wrap (s4+1),s5,s6,y43.1,s8,s9) (fun _=>0) h)
 exact fun h=>cq (hcont15 (y43.2.1,IntKind.i64.wrap (s4+1),s5,s6,s7,y43.1,s9) (fun _=>0) h)
 refine ixs ?_;intro x48
 refine br ?_ ?_
 refine ca hc (fun _ h=>ok_ref03_plain h) ?_;intro y50
 refine br ?_ ?_
 intro h;cases sj h
 refine (hK14 _ _).trans ?_
 refine Eq.trans ?_ (Eq.symm (show _=some _ from hr16))
 conv=>lhs;whnf
 exact rq
 refine ixs ?_;intro x53
 refine br ?_ ?_
 exact fun h=>cq (hcont15 (y50.2.1,IntKind.i64.wrap (s4+1),s5,s6,y50.1,s8,s9) (fun _=>0) h)
 exact fun h=>cq (hcont15 (y50.2.1,IntKind.i64.wrap (s4+1),s5,s6,s7,y50.1,s9) (fun _=>0) h)
 refine ixs ?_;intro x55
 refine br ?_ ?_
 refine ca hc (fun _ h=>ok_ref02_Is h) ?_;intro y57
 refine br ?_ ?_
 exact fun h=>cq (hcont15 (IntKind.i64.wrap (s3+1),IntKind.i64.wrap (s4+1),s5,s6,s7,s8,true) (fun _=>0) h)
 refine ca hc (fun _ h=>ok_ref02_Is h) ?_;intro y60
 refine br ?_ ?_
 exact fun h=>cq (hcont15 (IntKind.i64.wrap (s3+1),IntKind.i64.wrap (s4+1),s5,s6,s7,s8,false) (fun _=>0) h)
 refine ca hc (fun _ h=>ok_ref03_Wrong h) ?_;intro y63
 intro h;cases sj h
 refine (hK14 _ _).trans ?_
 refine Eq.trans ?_ (Eq.symm (show _=some _ from hr16))
 conv=>lhs;whnf
 exact rq
 refine cp ?_
 refine cr hc (fun _ h=>ok_ref02_Is h) ?_;intro y66
 refine br ?_ ?_
 exact fun h=>cq (hcont15 (IntKind.i64.wrap (s3+1),IntKind.i64.wrap (s4+1),s5,s6,s7,s8,s9) (fun _=>0) h)
 refine ca hc (fun _ h=>ok_ref03_Wrong h) ?_;intro y69
 intro h;cases sj h
 refine (hK14 _ _).trans ?_
 refine Eq.trans ?_ (Eq.symm (show _=some _ from hr16))
 conv=>lhs;whnf
 exact rq
 intro h;cases sj h
 exact kq (hr16 (fun _=>0))
 refine lrc ?_ ?_
 intro v e;subst e;cases sj h;rfl
 intro t a71 e;subst e
 obtain ⟨x72,x73,x74,x75,x76,x77⟩:=t
 dsimp only at h
 conv=>lhs;whnf
 revert h
 exact rz
theorem ok_ref03_words {n:Nat} ⦃r:(List (List UInt8))⦄:m_ref03_words n=some r→CN n 104 [] []=some (AV.sl 1 (List.map encS r),[]):=by
 intro h;rcases n with _|n;cases h
 rw [m_ref03_words] at h
 refine callN_eq' Tryz.func104 (by rfl) rfl rfl (Nat.le_of_ble_eq_true rfl) ?_
 intro call hc;conv=>lhs;whnf
 revert h
 exact rz
theorem ok_ref03_kind {n:Nat} ⦃v0_l:(List S_api_Token)⦄ ⦃v1_i:Int⦄ ⦃r:Int⦄:m_ref03_kind n v0_l v1_i=some r→CN n 113 [AV.sl 4 (List.map c_api_Token v0_l),iA v1_i] []=some (iA r,[]):=by
 intro h;rcases n with _|n;cases h
 rw [m_ref03_kind] at h
 refine callN_eq' Tryz.func113 (by rfl) rfl rfl (Nat.le_of_ble_eq_true rfl) ?_
 intro call hc;conv=>lhs;whnf
 revert h
 intro h;refine bind_some2 h ?_;clear h;intro o9 ho9 h
 refine lq (σ:=Int) (τ:=Unit) (ν:=Int) 0 (fun s1 a3=>stOf 37 [(0,AV.sl 4 (List.map c_api_Token v0_l)),(1,iA v1_i),(5,iA s1)]) (fun s1 a3=>[]) (fun _ a21=>stOf 37 []) (fun _ a21=>[]) (fun v=>(iA v,[])) (fun k s=>ref03_kind_L0 n v0_l v1_i k s) (fun s=>rfl) o9 n 1 (fun _=>0) ho9 ?_ ?_
 intro k2 s1 a3 K4 cont5 hK6 hcont7 h hr8
 replace h:ref03_kind_L0 n v0_l v1_i (k2+1) s1=some o9:=h
 rw [ref03_kind_L0] at h
 conv=>lhs;whnf
 revert h
 refine ca hc (fun _ h=>ok_ref03_words h) ?_;intro y10
 refine br ?_ ?_
 refine br ?_ ?_
 refine ix ?_;intro x14
 refine br ?_ ?_
 refine ix ?_;intro x16
 refine ca hc (fun _ h=>ok_ref03_words h) ?_;intro y17
 refine ix ?_;intro x19
 refine br ?_ ?_
 intro h;cases sj h
 refine (hK6 _ _).trans ?_
 refine Eq.trans ?_ (Eq.symm (show _=some _ from hr8))
 conv=>lhs;whnf
 exact rq
 exact fun h=>cq (hcont7 (IntKind.i64.wrap (s1+1)) (fun _=>0) h)
 exact fun h=>cq (hcont7 (IntKind.i64.wrap (s1+1)) (fun _=>0) h)
 intro h;cases sj h
 exact kq (hr8 (fun _=>0))
 intro h;cases sj h
 exact kq (hr8 (fun _=>0))
 refine lrc ?_ ?_
 intro v e;subst e;cases sj h;rfl
 intro t a21 e;subst e
 dsimp only at h
 conv=>lhs;whnf
 revert h
 exact rz
def OK_ref03_braced (n:Nat):Prop:=∀ ⦃v0_l:(List S_api_Token)⦄ ⦃v1_i:Int⦄ ⦃v2_in:Int⦄ ⦃r:((List S_api_Stmt)×Int×Int×Int)⦄,m_ref03_braced n v0_l v1_i v2_in=some r→CN n 115 [AV.sl 4 (List.map c_api_Token v0_l),iA v1_i,iA v2_in] []=some (AV.tup [AV.sl 9 (List.map c_api_Stmt r.1),iA r.2.1,iA r.2.2.1,iA r.2.2.2],[])
def OK_ref03_list (n:Nat):Prop:=∀ ⦃v0_l:(List S_api_Token)⦄ ⦃v1_i:Int⦄ ⦃v2_in:Int⦄ ⦃r:((List S_api_Stmt)×Int×Int×Int)⦄,m_ref03_list n v0_l v1_i v2_in=some r→CN n 85 [AV.sl 4 (List.map c_api_Token v0_l),iA v1_i,iA v2_in] []=some (AV.tup [AV.sl 9 (List.map c_api_Stmt r.1),iA r.2.1,iA r.2.2.1,iA r.2.2.2],[])
def IH_ref03_braced (n : Nat) : Prop := OK_ref03_braced n ∧ OK_ref03_list n
theorem st_ref03_braced (n:Nat) (ih:IH_ref03_braced n):OK_ref03_braced (n+1):=by
 intro v0_l v1_i v2_in r h
 rw [m_ref03_braced] at h
 refine callN_eq' Tryz.func115 (by rfl) rfl rfl (Nat.le_of_ble_eq_true rfl) ?_
 intro call hc;conv=>lhs;whnf
 revert h
 refine ca hc (fun _ h=>ok_ref02_Is h) ?_;intro y1
 refine br ?_ ?_
 refine br ?_ ?_
 refine ix ?_;intro x5
 exact rz
 refine ca hc (fun _ h=>ih.2 h) ?_;intro y6
 refine br ?_ ?_
 exact rz
 refine ca hc (fun _ h=>ok_ref02_Is h) ?_;intro y9
 refine br ?_ ?_
 exact rz
 refine ca hc (fun _ h=>ok_ref03_Wrong h) ?_;intro y12
 exact rz
 refine ca hc (fun _ h=>ok_ref03_Wrong h) ?_;intro y14
 exact rz
theorem st_ref03_list (n:Nat) (ih:IH_ref03_braced n):OK_ref03_list (n+1):=by
 intro v0_l v1_i v2_in r h
 rw [m_ref03_list] at h
 refine callN_eq' Tryz.func85 (by rfl) rfl rfl (Nat.le_of_ble_eq_true rfl) ?_
 intro call hc;conv=>lhs;whnf
 revert h
 intro h;refine bind_some2 h ?_;clear h;intro o10 ho10 h
 refine lq (σ:=(Int×(List S_api_Stmt))) (τ:=(Int×(List S_api_Stmt))) (ν:=((List S_api_Stmt)×Int×Int×Int)) 0 (fun (s1,s2) a4=>stOf 142 [(0,AV.sl 4 (List.map c_api_Token v0_l)),(1,iA s1),(2,iA v2_in),(10,AV.row 0 (List.length s2))]) (fun (s1,s2) a4=>[Ob.row 82 9 (List.map c_api_Stmt s2)]) (fun (x121,x122) a120=>stOf 142 [(1,iA x121),(10,AV.row 0 (List.length x122))]) (fun (x121,x122) a120=>[Ob.row 82 9 (List.map c_api_Stmt x122)]) (fun v=>(AV.tup [AV.sl 9 (List.map c_api_Stmt v.1),iA v.2.1,iA v.2.2.1,iA v.2.2.2],[])) (fun k s=>ref03_list_L0 n (m_ref03_braced n) v0_l v2_in k s.1 s.2) (fun s=>rfl) o10 n (v1_i,([]:List S_api_Stmt)) (fun _=>0) ho10 ?_ ?_
 intro k3 ss a4 K5 cont6 hK7 hcont8 h hr9
 obtain ⟨s1,s2⟩:=ss
 replace h:ref03_list_L0 n (m_ref03_braced n) v0_l v2_in (k3+1) s1 s2=some o10:=h
 rw [ref03_list_L0] at h
 conv=>lhs;whnf
 revert h
 refine br ?_ ?_
 refine ca hc (fun _ h=>ok_ref02_Is h) ?_;intro y12
 refine br ?_ ?_
 intro h;cases sj h
 exact kq (hr9 (fun _=>0))
 refine ca hc (fun _ h=>ok_ref03_kind h) ?_;intro y15
 refine br ?_ ?_
 refine ix ?_;intro x18
 intro h;cases sj h
 refine (hK7 _ _).trans ?_
 refine Eq.trans ?_ (Eq.symm (show _=some _ from hr9))
 conv=>lhs;whnf
 exact rq
 refine ix ?_;intro x19
 refine cr hc (fun y20 h=>(show CN n 114 [AV.sl 4 (List.map c_api_Token v0_l),iA (IntKind.i64.wrap (s1+1)),AV.agg [iA y15,sA (([]:List UInt8)),sA (([]:List UInt8)),AV.sl 5 [],AV.sl 5 [],bA false,iA (0),iA (0),iA x19.f_At]] []=some (AV.tup [AV.agg [iA y20.1.f_Kind,sA y20.1.f_Reg,sA y20.1.f_Loc,AV.sl 5 (List.map c_api_Node y20.1.f_E),AV.sl 5 (List.map c_api_Node y20.1.f_F),bA y20.1.f_Ne,iA y20.1.f_Body,iA y20.1.f_Else,iA y20.1.f_At],iA y20.2.1,iA y20.2.2.1,iA y20.2.2.2],[]) from ok_ref03_fields (r:=y20) h)) ?_;intro y20
 refine br ?_ ?_
 intro h;cases sj h
 refine (hK7 _ _).trans ?_
 refine Eq.trans ?_ (Eq.symm (show _=some _ from hr9))
 conv=>lhs;whnf
 exact rq
 refine ca hc (fun _ h=>ok_ref03_block h) ?_;intro y23
 refine br ?_ ?_
 refine ca hc (fun _ h=>ih.1 h) ?_;intro y26
 refine br ?_ ?_
 intro h;cases sj h
 refine (hK7 _ _).trans ?_
 refine Eq.trans ?_ (Eq.symm (show _=some _ from hr9))
 conv=>lhs;whnf
 exact rq
 refine br ?_ ?_
 refine br ?_ ?_
 refine ix ?_;intro x31
 refine br ?_ ?_
 refine ix ?_;intro x33
 refine br ?_ ?_
 refine ca hc (fun _ h=>ih.1 h) ?_;intro y35
 refine br ?_ ?_
 intro h;cases sj h
 refine (hK7 _ _).trans ?_
 refine Eq.trans ?_ (Eq.symm (show _=some _ from hr9))
 conv=>lhs;whnf
 exact rq
 refine ar (ap c_api_Stmt (List.map c_api_Stmt s2) s2 ([[iA y20.1.f_Kind,sA y20.1.f_Reg,sA y20.1.f_Loc,AV.sl 5 (List.map c_api_Node y20.1.f_E),AV.sl 5 (List.map c_api_Node y20.1.f_F),bA y20.1.f_Ne,iA (((y26.1.length:Nat):Int)),iA (((y35.1.length:Nat):Int)),iA y20.1.f_At]]) ([(⟨y20.1.f_Kind,y20.1.f_Reg,y20.1.f_Loc,y20.1.f_E,y20.1.f_F,y20.1.f_Ne,((y26.1.length:Nat):Int),((y35.1.length:Nat):Int),y20.1.f_At⟩:S_api_Stmt)]:List S_api_Stmt)) ?_
 refine ar (ap c_api_Stmt (List.map c_api_Stmt (s2++([(⟨y20.1.f_Kind,y20.1.f_Reg,y20.1.f_Loc,y20.1.f_E,y20.1.f_F,y20.1.f_Ne,((y26.1.length:Nat):Int),((y35.1.length:Nat):Int),y20.1.f_At⟩:S_api_Stmt)]:List S_api_Stmt))) (s2++([(⟨y20.1.f_Kind,y20.1.f_Reg,y20.1.f_Loc,y20.1.f_E,y20.1.f_F,y20.1.f_Ne,((y26.1.length:Nat):Int),((y35.1.length:Nat):Int),y20.1.f_At⟩:S_api_Stmt)]:List S_api_Stmt)) (List.map c_api_Stmt y26.1) y26.1) ?_
 refine ar (ap c_api_Stmt (List.map c_api_Stmt ((s2++([(⟨y20.1.f_Kind,y20.1.f_Reg,y20.1.f_Loc,y20.1.f_E,y20.1.f_F,y20.1.f_Ne,((y26.1.length:Nat):Int),((y35.1.length:Nat):Int),y20.1.f_At⟩:S_api_Stmt)]:List S_api_Stmt))++y26.1)) ((s2++([(⟨y20.1.f_Kind,y20.1.f_Reg,y20.1.f_Loc,y20.1.f_E,y20.1.f_F,y20.1.f_Ne,((y26.1.length:Nat):Int),((y35.1.length:Nat):Int),y20.1.f_At⟩:S_api_Stmt)]:List S_api_Stmt))++y26.1) (List.map c_api_Stmt y35.1) y35.1) ?_
 exact fun h=>cq (hcont8 (y35.2.1,(((s2++([(⟨y20.1.f_Kind,y20.1.f_Reg,y20.1.f_Loc,y20.1.f_E,y20.1.f_F,y20.1.f_Ne,((y26.1.length:Nat):Int),((y35.1.length:Nat):Int),y20.1.f_At⟩:S_api_Stmt)]:List S_api_Stmt))++y26.1)++y35.1)) (fun _=>0) h)
 refine ar (ap c_api_Stmt (List.map c_api_Stmt s2) s2 ([[iA y20.1.f_Kind,sA y20.1.f_Reg,sA y20.1.f_Loc,AV.sl 5 (List.map c_api_Node y20.1.f_E),AV.sl 5 (List.map c_api_Node y20.1.f_F),bA y20.1.f_Ne,iA (((y26.1.length:Nat):Int)),iA (0),iA y20.1.f_At]]) ([(⟨y20.1.f_Kind,y20.1.f_Reg,y20.1.f_Loc,y20.1.f_E,y20.1.f_F,y20.1.f_Ne,((y26.1.length:Nat):Int),0,y20.1.f_At⟩:S_api_Stmt)]:List S_api_Stmt)) ?_
 refine ar (ap c_api_Stmt (List.map c_api_Stmt (s2++([(⟨y20.1.f_Kind,y20.1.f_Reg,y20.1.f_Loc,y20.1.f_E,y20.1.f_F,y20.1.f_Ne,((y26.1.length:Nat):Int),0,y20.1.f_At⟩:S_api_Stmt)]:List S_api_Stmt))) (s2++([(⟨y20.1.f_Kind,y20.1.f_Reg,y20.1.f_Loc,y20.1.f_E,y20.1.f_F,y20.1.f_Ne,((y26.1.length:Nat):Int),0,y20.1.f_At⟩:S_api_Stmt)]:List S_api_Stmt)) (List.map c_api_Stmt y26.1) y26.1) ?_
 intro h
 refine chk_some2 h ?_;clear h;intro hc50 h
 first|refine bif_pos (app_row hc50 (by first|rfl|simp only [List.length_map]) (by first|rfl|simp only [List.length_map]) (by first|rfl|simp only [List.length_map,take_map_len]) (by kernel_rfl)) ?_|refine bif_pos (app_row2 hc50 (by first|rfl|simp only [List.length_map]) (by first|rfl|simp only [List.length_map,take_map_len]) (by kernel_rfl)) ?_
 have hp48:(List.map c_api_Stmt ((s2++([(⟨y20.1.f_Kind,y20.1.f_Reg,y20.1.f_Loc,y20.1.f_E,y20.1.f_F,y20.1.f_Ne,((y26.1.length:Nat):Int),0,y20.1.f_At⟩:S_api_Stmt)]:List S_api_Stmt))++y26.1):List (List AV))++([]:List (List AV))=(List.map c_api_Stmt ((s2++([(⟨y20.1.f_Kind,y20.1.f_Reg,y20.1.f_Loc,y20.1.f_E,y20.1.f_F,y20.1.f_Ne,((y26.1.length:Nat):Int),0,y20.1.f_At⟩:S_api_Stmt)]:List S_api_Stmt))++y26.1):List (List AV)):=List.append_nil _
 have hl49:List.length (List.map c_api_Stmt ((s2++([(⟨y20.1.f_Kind,y20.1.f_Reg,y20.1.f_Loc,y20.1.f_E,y20.1.f_F,y20.1.f_Ne,((y26.1.length:Nat):Int),0,y20.1.f_At⟩:S_api_Stmt)]:List S_api_Stmt))++y26.1):List (List AV))+List.length ([]:List (List AV))=List.length (List.map c_api_Stmt ((s2++([(⟨y20.1.f_Kind,y20.1.f_Reg,y20.1.f_Loc,y20.1.f_E,y20.1.f_F,y20.1.f_Ne,((y26.1.length:Nat):Int),0,y20.1.f_At⟩:S_api_Stmt)]:List S_api_Stmt))++y26.1):List (List AV)):=rfl
 have hl49_b:List.length ((s2++([(⟨y20.1.f_Kind,y20.1.f_Reg,y20.1.f_Loc,y20.1.f_E,y20.1.f_F,y20.1.f_Ne,((y26.1.length:Nat):Int),0,y20.1.f_At⟩:S_api_Stmt)]:List S_api_Stmt))++y26.1)+List.length ([]:List (List AV))=List.length ((s2++([(⟨y20.1.f_Kind,y20.1.f_Reg,y20.1.f_Loc,y20.1.f_E,y20.1.f_F,y20.1.f_Ne,((y26.1.length:Nat):Int),0,y20.1.f_At⟩:S_api_Stmt)]:List S_api_Stmt))++y26.1):=rfl
 try simp only [ls,c0]
 try simp only [hp48,hl49,hl49_b]
 try simp only [ls]
 conv=>lhs;whnf
 revert h
 exact fun h=>cq (hcont8 (y26.2.1,((s2++([(⟨y20.1.f_Kind,y20.1.f_Reg,y20.1.f_Loc,y20.1.f_E,y20.1.f_F,y20.1.f_Ne,((y26.1.length:Nat):Int),0,y20.1.f_At⟩:S_api_Stmt)]:List S_api_Stmt))++y26.1)) (fun _=>0) h)
 refine ar (ap c_api_Stmt (List.map c_api_Stmt s2) s2 ([[iA y20.1.f_Kind,sA y20.1.f_Reg,sA y20.1.f_Loc,AV.sl 5 (List.map c_api_Node y20.1.f_E),AV.sl 5 (List.map c_api_Node y20.1.f_F),bA y20.1.f_Ne,iA (((y26.1.length:Nat):Int)),iA (0),iA y20.1.f_At]]) ([(⟨y20.1.f_Kind,y20.1.f_Reg,y20.1.f_Loc,y20.1.f_E,y20.1.f_F,y20.1.f_Ne,((y26.1.length:Nat):Int),0,y20.1.f_At⟩:S_api_Stmt)]:List S_api_Stmt)) ?_
 refine ar (ap c_api_Stmt (List.map c_api_Stmt (s2++([(⟨y20.1.f_Kind,y20.1.f_Reg,y20.1.f_Loc,y20.1.f_E,y20.1.f_F,y20.1.f_Ne,((y26.1.length:Nat):Int),0,y20.1.f_At⟩:S_api_Stmt)]:List S_api_Stmt))) (s2++([(⟨y20.1.f_Kind,y20.1.f_Reg,y20.1.f_Loc,y20.1.f_E,y20.1.f_F,y20.1.f_Ne,((y26.1.length:Nat):Int),0,y20.1.f_At⟩:S_api_Stmt)]:List S_api_Stmt)) (List.map c_api_Stmt y26.1) y26.1) ?_
 intro h
 refine chk_some2 h ?_;clear h;intro hc57 h
 first|refine bif_pos (app_row hc57 (by first|rfl|simp only [List.length_map]) (by first|rfl|simp only [List.length_map]) (by first|rfl|simp only [List.length_map,take_map_len]) (by kernel_rfl)) ?_|refine bif_pos (app_row2 hc57 (by first|rfl|simp only [List.length_map]) (by first|rfl|simp only [List.length_map,take_map_len]) (by kernel_rfl)) ?_
 have hp55:(List.map c_api_Stmt ((s2++([(⟨y20.1.f_Kind,y20.1.f_Reg,y20.1.f_Loc,y20.1.f_E,y20.1.f_F,y20.1.f_Ne,((y26.1.length:Nat):Int),0,y20.1.f_At⟩:S_api_Stmt)]:List S_api_Stmt))++y26.1):List (List AV))++([]:List (List AV))=(List.map c_api_Stmt ((s2++([(⟨y20.1.f_Kind,y20.1.f_Reg,y20.1.f_Loc,y20.1.f_E,y20.1.f_F,y20.1.f_Ne,((y26.1.length:Nat):Int),0,y20.1.f_At⟩:S_api_Stmt)]:List S_api_Stmt))++y26.1):List (List AV)):=List.append_nil _
 have hl56:List.length (List.map c_api_Stmt ((s2++([(⟨y20.1.f_Kind,y20.1.f_Reg,y20.1.f_Loc,y20.1.f_E,y20.1.f_F,y20.1.f_Ne,((y26.1.length:Nat):Int),0,y20.1.f_At⟩:S_api_Stmt)]:List S_api_Stmt))++y26.1):List (List AV))+List.length ([]:List (List AV))=List.length (List.map c_api_Stmt ((s2++([(⟨y20.1.f_Kind,y20.1.f_Reg,y20.1.f_Loc,y20.1.f_E,y20.1.f_F,y20.1.f_Ne,((y26.1.length:Nat):Int),0,y20.1.f_At⟩:S_api_Stmt)]:List S_api_Stmt))++y26.1):List (List AV)):=rfl
 have hl56_b:List.length ((s2++([(⟨y20.1.f_Kind,y20.1.f_Reg,y20.1.f_Loc,y20.1.f_E,y20.1.f_F,y20.1.f_Ne,((y26.1.length:Nat):Int),0,y20.1.f_At⟩:S_api_Stmt)]:List S_api_Stmt))++y26.1)+List.length ([]:List (List AV))=List.length ((s2++([(⟨y20.1.f_Kind,y20.1.f_Reg,y20.1.f_Loc,y20.1.f_E,y20.1.f_F,y20.1.f_Ne,((y26.1.length:Nat):Int),0,y20.1.f_At⟩:S_api_Stmt)]:List S_api_Stmt))++y26.1):=rfl
 try simp only [ls,c0]
 try simp only [hp55,hl56,hl56_b]
 try simp only [ls]
 conv=>lhs;whnf
 revert h
 exact fun h=>cq (hcont8 (y26.2.1,((s2++([(⟨y20.1.f_Kind,y20.1.f_Reg,y20.1.f_Loc,y20.1.f_E,y20.1.f_F,y20.1.f_Ne,((y26.1.length:Nat):Int),0,y20.1.f_At⟩:S_api_Stmt)]:List S_api_Stmt))++y26.1)) (fun _=>0) h)
 refine ar (ap c_api_Stmt (List.map c_api_Stmt s2) s2 ([[iA y20.1.f_Kind,sA y20.1.f_Reg,sA y20.1.f_Loc,AV.sl 5 (List.map c_api_Node y20.1.f_E),AV.sl 5 (List.map c_api_Node y20.1.f_F),bA y20.1.f_Ne,iA (((y26.1.length:Nat):Int)),iA (0),iA y20.1.f_At]]) ([(⟨y20.1.f_Kind,y20.1.f_Reg,y20.1.f_Loc,y20.1.f_E,y20.1.f_F,y20.1.f_Ne,((y26.1.length:Nat):Int),0,y20.1.f_At⟩:S_api_Stmt)]:List S_api_Stmt)) ?_
 refine ar (ap c_api_Stmt (List.map c_api_Stmt (s2++([(⟨y20.1.f_Kind,y20.1.f_Reg,y20.1.f_Loc,y20.1.f_E,y20.1.f_F,y20.1.f_Ne,((y26.1.length:Nat):Int),0,y20.1.f_At⟩:S_api_Stmt)]:List S_api_Stmt))) (s2++([(⟨y20.1.f_Kind,y20.1.f_Reg,y20.1.f_Loc,y20.1.f_E,y20.1.f_F,y20.1.f_Ne,((y26.1.length:Nat):Int),0,y20.1.f_At⟩:S_api_Stmt)]:List S_api_Stmt)) (List.map c_api_Stmt y26.1) y26.1) ?_
 intro h
 refine chk_some2 h ?_;clear h;intro hc64 h
 first|refine bif_pos (app_row hc64 (by first|rfl|simp only [List.length_map]) (by first|rfl|simp only [List.length_map]) (by first|rfl|simp only [List.length_map,take_map_len]) (by kernel_rfl)) ?_|refine bif_pos (app_row2 hc64 (by first|rfl|simp only [List.length_map]) (by first|rfl|simp only [List.length_map,take_map_len]) (by kernel_rfl)) ?_
 have hp62:(List.map c_api_Stmt ((s2++([(⟨y20.1.f_Kind,y20.1.f_Reg,y20.1.f_Loc,y20.1.f_E,y20.1.f_F,y20.1.f_Ne,((y26.1.length:Nat):Int),0,y20.1.f_At⟩:S_api_Stmt)]:List S_api_Stmt))++y26.1):List (List AV))++([]:List (List AV))=(List.map c_api_Stmt ((s2++([(⟨y20.1.f_Kind,y20.1.f_Reg,y20.1.f_Loc,y20.1.f_E,y20.1.f_F,y20.1.f_Ne,((y26.1.length:Nat):Int),0,y20.1.f_At⟩:S_api_Stmt)]:List S_api_Stmt))++y26.1):List (List AV)):=List.append_nil _
 have hl63:List.length (List.map c_api_Stmt ((s2++([(⟨y20.1.f_Kind,y20.1.f_Reg,y20.1.f_Loc,y20.1.f_E,y20.1.f_F,y20.1.f_Ne,((y26.1.length:Nat):Int),0,y20.1.f_At⟩:S_api_Stmt)]:List S_api_Stmt))++y26.1):List (List AV))+List.length ([]:List (List AV))=List.length (List.map c_api_Stmt ((s2++([(⟨y20.1.f_Kind,y20.1.f_Reg,y20.1.f_Loc,y20.1.f_E,y20.1.f_F,y20.1.f_Ne,((y26.1.length:Nat):Int),0,y20.1.f_At⟩:S_api_Stmt)]:List S_api_Stmt))++y26.1):List (List AV)):=rfl
 have hl63_b:List.length ((s2++([(⟨y20.1.f_Kind,y20.1.f_Reg,y20.1.f_Loc,y20.1.f_E,y20.1.f_F,y20.1.f_Ne,((y26.1.length:Nat):Int),0,y20.1.f_At⟩:S_api_Stmt)]:List S_api_Stmt))++y26.1)+List.length ([]:List (List AV))=List.length ((s2++([(⟨y20.1.f_Kind,y20.1.f_Reg,y20.1.f_Loc,y20.1.f_E,y20.1.f_F,y20.1.f_Ne,((y26.1.length:Nat):Int),0,y20.1.f_At⟩:S_api_Stmt)]:List S_api_Stmt))++y26.1):=rfl
 try simp only [ls,c0]
 try simp only [hp62,hl63,hl63_b]
 try simp only [ls]
 conv=>lhs;whnf
 revert h
 exact fun h=>cq (hcont8 (y26.2.1,((s2++([(⟨y20.1.f_Kind,y20.1.f_Reg,y20.1.f_Loc,y20.1.f_E,y20.1.f_F,y20.1.f_Ne,((y26.1.length:Nat):Int),0,y20.1.f_At⟩:S_api_Stmt)]:List S_api_Stmt))++y26.1)) (fun _=>0) h)
 refine ar (ap c_api_Stmt (List.map c_api_Stmt s2) s2 ([[iA y20.1.f_Kind,sA y20.1.f_Reg,sA y20.1.f_Loc,AV.sl 5 (List.map c_api_Node y20.1.f_E),AV.sl 5 (List.map c_api_Node y20.1.f_F),bA y20.1.f_Ne,iA (((y26.1.length:Nat):Int)),iA (0),iA y20.1.f_At]]) ([(⟨y20.1.f_Kind,y20.1.f_Reg,y20.1.f_Loc,y20.1.f_E,y20.1.f_F,y20.1.f_Ne,((y26.1.length:Nat):Int),0,y20.1.f_At⟩:S_api_Stmt)]:List S_api_Stmt)) ?_
 refine ar (ap c_api_Stmt (List.map c_api_Stmt (s2++([(⟨y20.1.f_Kind,y20.1.f_Reg,y20.1.f_Loc,y20.1.f_E,y20.1.f_F,y20.1.f_Ne,((y26.1.length:Nat):Int),0,y20.1.f_At⟩:S_api_Stmt)]:List S_api_Stmt))) (s2++([(⟨y20.1.f_Kind,y20.1.f_Reg,y20.1.f_Loc,y20.1.f_E,y20.1.f_F,y20.1.f_Ne,((y26.1.length:Nat):Int),0,y20.1.f_At⟩:S_api_Stmt)]:List S_api_Stmt)) (List.map c_api_Stmt y26.1) y26.1) ?_
 intro h
 refine chk_some2 h ?_;clear h;intro hc71 h
 first|refine bif_pos (app_row hc71 (by first|rfl|simp only [List.length_map]) (by first|rfl|simp only [List.length_map]) (by first|rfl|simp only [List.length_map,take_map_len]) (by kernel_rfl)) ?_|refine bif_pos (app_row2 hc71 (by first|rfl|simp only [List.length_map]) (by first|rfl|simp only [List.length_map,take_map_len]) (by kernel_rfl)) ?_
 have hp69:(List.map c_api_Stmt ((s2++([(⟨y20.1.f_Kind,y20.1.f_Reg,y20.1.f_Loc,y20.1.f_E,y20.1.f_F,y20.1.f_Ne,((y26.1.length:Nat):Int),0,y20.1.f_At⟩:S_api_Stmt)]:List S_api_Stmt))++y26.1):List (List AV))++([]:List (List AV))=(List.map c_api_Stmt ((s2++([(⟨y20.1.f_Kind,y20.1.f_Reg,y20.1.f_Loc,y20.1.f_E,y20.1.f_F,y20.1.f_Ne,((y26.1.length:Nat):Int),0,y20.1.f_At⟩:S_api_Stmt)]:List S_api_Stmt))++y26.1):List (List AV)):=List.append_nil _
 have hl70:List.length (List.map c_api_Stmt ((s2++([(⟨y20.1.f_Kind,y20.1.f_Reg,y20.1.f_Loc,y20.1.f_E,y20.1.f_F,y20.1.f_Ne,((y26.1.length:Nat):Int),0,y20.1.f_At⟩:S_api_Stmt)]:List S_api_Stmt))++y26.1):List (List AV))+List.length ([]:List (List AV))=List.length (List.map c_api_Stmt ((s2++([(⟨y20.1.f_Kind,y20.1.f_Reg,y20.1.f_Loc,y20.1.f_E,y20.1.f_F,y20.1.f_Ne,((y26.1.length:Nat):Int),0,y20.1.f_At⟩:S_api_Stmt)]:List S_api_Stmt))++y26.1):List (List AV)):=rfl
 have hl70_b:List.length ((s2++([(⟨y20.1.f_Kind,y20.1.f_Reg,y20.1.f_Loc,y20.1.f_E,y20.1.f_F,y20.1.f_Ne,((y26.1.length:Nat):Int),0,y20.1.f_At⟩:S_api_Stmt)]:List S_api_Stmt))++y26.1)+List.length ([]:List (List AV))=List.length ((s2++([(⟨y20.1.f_Kind,y20.1.f_Reg,y20.1.f_Loc,y20.1.f_E,y20.1.f_F,y20.1.f_Ne,((y26.1.length:Nat):Int),0,y20.1.f_At⟩:S_api_Stmt)]:List S_api_Stmt))++y26.1):=rfl
 try simp only [ls,c0]
 try simp only [hp69,hl70,hl70_b]
 try simp only [ls]
 conv=>lhs;whnf
 revert h
 exact fun h=>cq (hcont8 (y26.2.1,((s2++([(⟨y20.1.f_Kind,y20.1.f_Reg,y20.1.f_Loc,y20.1.f_E,y20.1.f_F,y20.1.f_Ne,((y26.1.length:Nat):Int),0,y20.1.f_At⟩:S_api_Stmt)]:List S_api_Stmt))++y26.1)) (fun _=>0) h)
 refine br ?_ ?_
 refine br ?_ ?_
 refine ix ?_;intro x74
 refine br ?_ ?_
 refine ix ?_;intro x76
 refine br ?_ ?_
 refine ca hc (fun _ h=>ih.1 h) ?_;intro y78
 refine br ?_ ?_
 intro h;cases sj h
 refine (hK7 _ _).trans ?_
 refine Eq.trans ?_ (Eq.symm (show _=some _ from hr9))
 conv=>lhs;whnf
 exact rq
 refine ar (ap c_api_Stmt (List.map c_api_Stmt s2) s2 ([[iA y20.1.f_Kind,sA y20.1.f_Reg,sA y20.1.f_Loc,AV.sl 5 (List.map c_api_Node y20.1.f_E),AV.sl 5 (List.map c_api_Node y20.1.f_F),bA y20.1.f_Ne,iA (0),iA (((y78.1.length:Nat):Int)),iA y20.1.f_At]]) ([(⟨y20.1.f_Kind,y20.1.f_Reg,y20.1.f_Loc,y20.1.f_E,y20.1.f_F,y20.1.f_Ne,0,((y78.1.length:Nat):Int),y20.1.f_At⟩:S_api_Stmt)]:List S_api_Stmt)) ?_
 intro h
 refine chk_some2 h ?_;clear h;intro hc85 h
 first|refine bif_pos (app_row hc85 (by first|rfl|simp only [List.length_map]) (by first|rfl|simp only [List.length_map]) (by first|rfl|simp only [List.length_map,take_map_len]) (by kernel_rfl)) ?_|refine bif_pos (app_row2 hc85 (by first|rfl|simp only [List.length_map]) (by first|rfl|simp only [List.length_map,take_map_len]) (by kernel_rfl)) ?_
 have hp83:(List.map c_api_Stmt (s2++([(⟨y20.1.f_Kind,y20.1.f_Reg,y20.1.f_Loc,y20.1.f_E,y20.1.f_F,y20.1.f_Ne,0,((y78.1.length:Nat):Int),y20.1.f_At⟩:S_api_Stmt)]:List S_api_Stmt)):List (List AV))++([]:List (List AV))=(List.map c_api_Stmt (s2++([(⟨y20.1.f_Kind,y20.1.f_Reg,y20.1.f_Loc,y20.1.f_E,y20.1.f_F,y20.1.f_Ne,0,((y78.1.length:Nat):Int),y20.1.f_At⟩:S_api_Stmt)]:List S_api_Stmt)):List (List AV)):=List.append_nil _
 have hl84:List.length (List.map c_api_Stmt (s2++([(⟨y20.1.f_Kind,y20.1.f_Reg,y20.1.f_Loc,y20.1.f_E,y20.1.f_F,y20.1.f_Ne,0,((y78.1.length:Nat):Int),y20.1.f_At⟩:S_api_Stmt)]:List S_api_Stmt)):List (List AV))+List.length ([]:List (List AV))=List.length (List.map c_api_Stmt (s2++([(⟨y20.1.f_Kind,y20.1.f_Reg,y20.1.f_Loc,y20.1.f_E,y20.1.f_F,y20.1.f_Ne,0,((y78.1.length:Nat):Int),y20.1.f_At⟩:S_api_Stmt)]:List S_api_Stmt)):List (List AV)):=rfl
 have hl84_b:List.length (s2++([(⟨y20.1.f_Kind,y20.1.f_Reg,y20.1.f_Loc,y20.1.f_E,y20.1.f_F,y20.1.f_Ne,0,((y78.1.length:Nat):Int),y20.1.f_At⟩:S_api_Stmt)]:List S_api_Stmt))+List.length ([]:List (List AV))=List.length (s2++([(⟨y20.1.f_Kind,y20.1.f_Reg,y20.1.f_Loc,y20.1.f_E,y20.1.f_F,y20.1.f_Ne,0,((y78.1.length:Nat):Int),y20.1.f_At⟩:S_api_Stmt)]:List S_api_Stmt)):=rfl
 try simp only [ls,c0]
 try simp only [hp83,hl84,hl84_b]
 try simp only [ls]
 conv=>lhs;whnf
 revert h
 refine ar (ap c_api_Stmt (List.map c_api_Stmt (s2++([(⟨y20.1.f_Kind,y20.1.f_Reg,y20.1.f_Loc,y20.1.f_E,y20.1.f_F,y20.1.f_Ne,0,((y78.1.length:Nat):Int),y20.1.f_At⟩:S_api_Stmt)]:List S_api_Stmt))) (s2++([(⟨y20.1.f_Kind,y20.1.f_Reg,y20.1.f_Loc,y20.1.f_E,y20.1.f_F,y20.1.f_Ne,0,((y78.1.length:Nat):Int),y20.1.f_At⟩:S_api_Stmt)]:List S_api_Stmt)) (List.map c_api_Stmt y78.1) y78.1) ?_
 exact fun h=>cq (hcont8 (y78.2.1,((s2++([(⟨y20.1.f_Kind,y20.1.f_Reg,y20.1.f_Loc,y20.1.f_E,y20.1.f_F,y20.1.f_Ne,0,((y78.1.length:Nat):Int),y20.1.f_At⟩:S_api_Stmt)]:List S_api_Stmt))++y78.1)) (fun _=>0) h)
 refine ar (ap c_api_Stmt (List.map c_api_Stmt s2) s2 ([[iA y20.1.f_Kind,sA y20.1.f_Reg,sA y20.1.f_Loc,AV.sl 5 (List.map c_api_Node y20.1.f_E),AV.sl 5 (List.map c_api_Node y20.1.f_F),bA y20.1.f_Ne,iA (0),iA (0),iA y20.1.f_At]]) ([(⟨y20.1.f_Kind,y20.1.f_Reg,y20.1.f_Loc,y20.1.f_E,y20.1.f_F,y20.1.f_Ne,0,0,y20.1.f_At⟩:S_api_Stmt)]:List S_api_Stmt)) ?_
 intro h
 refine chk_some2 h ?_;clear h;intro hc92 h
 first|refine bif_pos (app_row hc92 (by first|rfl|simp only [List.length_map]) (by first|rfl|simp only [List.length_map]) (by first|rfl|simp only [List.length_map,take_map_len]) (by kernel_rfl)) ?_|refine bif_pos (app_row2 hc92 (by first|rfl|simp only [List.length_map]) (by first|rfl|simp only [List.length_map,take_map_len]) (by kernel_rfl)) ?_
 have hp90:(List.map c_api_Stmt (s2++([(⟨y20.1.f_Kind,y20.1.f_Reg,y20.1.f_Loc,y20.1.f_E,y20.1.f_F,y20.1.f_Ne,0,0,y20.1.f_At⟩:S_api_Stmt)]:List S_api_Stmt)):List (List AV))++([]:List (List AV))=(List.map c_api_Stmt (s2++([(⟨y20.1.f_Kind,y20.1.f_Reg,y20.1.f_Loc,y20.1.f_E,y20.1.f_F,y20.1.f_Ne,0,0,y20.1.f_At⟩:S_api_Stmt)]:List S_api_Stmt)):List (List AV)):=List.append_nil _
 have hl91:List.length (List.map c_api_Stmt (s2++([(⟨y20.1.f_Kind,y20.1.f_Reg,y20.1.f_Loc,y20.1.f_E,y20.1.f_F,y20.1.f_Ne,0,0,y20.1.f_At⟩:S_api_Stmt)]:List S_api_Stmt)):List (List AV))+List.length ([]:List (List AV))=List.length (List.map c_api_Stmt (s2++([(⟨y20.1.f_Kind,y20.1.f_Reg,y20.1.f_Loc,y20.1.f_E,y20.1.f_F,y20.1.f_Ne,0,0,y20.1.f_At⟩:S_api_Stmt)]:List S_api_Stmt)):List (List AV)):=rfl
 have hl91_b:List.length (s2++([(⟨y20.1.f_Kind,y20.1.f_Reg,y20.1.f_Loc,y20.1.f_E,y20.1.f_F,y20.1.f_Ne,0,0,y20.1.f_At⟩:S_api_Stmt)]:List S_api_Stmt))+List.length ([]:List (List AV))=List.length (s2++([(⟨y20.1.f_Kind,y20.1.f_Reg,y20.1.f_Loc,y20.1.f_E,y20.1.f_F,y20.1.f_Ne,0,0,y20.1.f_At⟩:S_api_Stmt)]:List S_api_Stmt)):=rfl
 try simp only [ls,c0]
 try simp only [hp90,hl91,hl91_b]
 try simp only [ls]
 conv=>lhs;whnf
 revert h
 intro h
 refine chk_some2 h ?_;clear h;intro hc95 h
 first|refine bif_pos (app_row hc95 (by first|rfl|simp only [List.length_map]) (by first|rfl|simp only [List.length_map]) (by first|rfl|simp only [List.length_map,take_map_len]) (by kernel_rfl)) ?_|refine bif_pos (app_row2 hc95 (by first|rfl|simp only [List.length_map]) (by first|rfl|simp only [List.length_map,take_map_len]) (by kernel_rfl)) ?_
 have hp93:(List.map c_api_Stmt (s2++([(⟨y20.1.f_Kind,y20.1.f_Reg,y20.1.f_Loc,y20.1.f_E,y20.1.f_F,y20.1.f_Ne,0,0,y20.1.f_At⟩:S_api_Stmt)]:List S_api_Stmt)):List (List AV))++([]:List (List AV))=(List.map c_api_Stmt (s2++([(⟨y20.1.f_Kind,y20.1.f_Reg,y20.1.f_Loc,y20.1.f_E,y20.1.f_F,y20.1.f_Ne,0,0,y20.1.f_At⟩:S_api_Stmt)]:List S_api_Stmt)):List (List AV)):=List.append_nil _
 have hl94:List.length (List.map c_api_Stmt (s2++([(⟨y20.1.f_Kind,y20.1.f_Reg,y20.1.f_Loc,y20.1.f_E,y20.1.f_F,y20.1.f_Ne,0,0,y20.1.f_At⟩:S_api_Stmt)]:List S_api_Stmt)):List (List AV))+List.length ([]:List (List AV))=List.length (List.map c_api_Stmt (s2++([(⟨y20.1.f_Kind,y20.1.f_Reg,y20.1.f_Loc,y20.1.f_E,y20.1.f_F,y20.1.f_Ne,0,0,y20.1.f_At⟩:S_api_Stmt)]:List S_api_Stmt)):List (List AV)):=rfl
 have hl94_b:List.length (s2++([(⟨y20.1.f_Kind,y20.1.f_Reg,y20.1.f_Loc,y20.1.f_E,y20.1.f_F,y20.1.f_Ne,0,0,y20.1.f_At⟩:S_api_Stmt)]:List S_api_Stmt))+List.length ([]:List (List AV))=List.length (s2++([(⟨y20.1.f_Kind,y20.1.f_Reg,y20.1.f_Loc,y20.1.f_E,y20.1.f_F,y20.1.f_Ne,0,0,y20.1.f_At⟩:S_api_Stmt)]:List S_api_Stmt)):=rfl
 try simp only [ls,c0]
 try simp only [hp93,hl94,hl94_b]
 try simp only [ls]
 conv=>lhs;whnf
 revert h
 exact fun h=>cq (hcont8 (y20.2.1,(s2++([(⟨y20.1.f_Kind,y20.1.f_Reg,y20.1.f_Loc,y20.1.f_E,y20.1.f_F,y20.1.f_Ne,0,0,y20.1.f_At⟩:S_api_Stmt)]:List S_api_Stmt))) (fun _=>0) h)
 refine ar (ap c_api_Stmt (List.map c_api_Stmt s2) s2 ([[iA y20.1.f_Kind,sA y20.1.f_Reg,sA y20.1.f_Loc,AV.sl 5 (List.map c_api_Node y20.1.f_E),AV.sl 5 (List.map c_api_Node y20.1.f_F),bA y20.1.f_Ne,iA (0),iA (0),iA y20.1.f_At]]) ([(⟨y20.1.f_Kind,y20.1.f_Reg,y20.1.f_Loc,y20.1.f_E,y20.1.f_F,y20.1.f_Ne,0,0,y20.1.f_At⟩:S_api_Stmt)]:List S_api_Stmt)) ?_
 intro h
 refine chk_some2 h ?_;clear h;intro hc100 h
 first|refine bif_pos (app_row hc100 (by first|rfl|simp only [List.length_map]) (by first|rfl|simp only [List.length_map]) (by first|rfl|simp only [List.length_map,take_map_len]) (by kernel_rfl)) ?_|refine bif_pos (app_row2 hc100 (by first|rfl|simp only [List.length_map]) (by first|rfl|simp only [List.length_map,take_map_len]) (by kernel_rfl)) ?_
 have hp98:(List.map c_api_Stmt (s2++([(⟨y20.1.f_Kind,y20.1.f_Reg,y20.1.f_Loc,y20.1.f_E,y20.1.f_F,y20.1.f_Ne,0,0,y20.1.f_At⟩:S_api_Stmt)]:List S_api_Stmt)):List (List AV))++([]:List (List AV))=(List.map c_api_Stmt (s2++([(⟨y20.1.f_Kind,y20.1.f_Reg,y20.1.f_Loc,y20.1.f_E,y20.1.f_F,y20.1.f_Ne,0,0,y20.1.f_At⟩:S_api_Stmt)]:List S_api_Stmt)):List (List AV)):=List.append_nil _
 have hl99:List.length (List.map c_api_Stmt (s2++([(⟨y20.1.f_Kind,y20.1.f_Reg,y20.1.f_Loc,y20.1.f_E,y20.1.f_F,y20.1.f_Ne,0,0,y20.1.f_At⟩:S_api_Stmt)]:List S_api_Stmt)):List (List AV))+List.length ([]:List (List AV))=List.length (List.map c_api_Stmt (s2++([(⟨y20.1.f_Kind,y20.1.f_Reg,y20.1.f_Loc,y20.1.f_E,y20.1.f_F,y20.1.f_Ne,0,0,y20.1.f_At⟩:S_api_Stmt)]:List S_api_Stmt)):List (List AV)):=rfl
 have hl99_b:List.length (s2++([(⟨y20.1.f_Kind,y20.1.f_Reg,y20.1.f_Loc,y20.1.f_E,y20.1.f_F,y20.1.f_Ne,0,0,y20.1.f_At⟩:S_api_Stmt)]:List S_api_Stmt))+List.length ([]:List (List AV))=List.length (s2++([(⟨y20.1.f_Kind,y20.1.f_Reg,y20.1.f_Loc,y20.1.f_E,y20.1.f_F,y20.1.f_Ne,0,0,y20.1.f_At⟩:S_api_Stmt)]:List S_api_Stmt)):=rfl
 try simp only [ls,c0]
 try simp only [hp98,hl99,hl99_b]
 try simp only [ls]
 conv=>lhs;whnf
 revert h
 intro h
 refine chk_some2 h ?_;clear h;intro hc103 h
 first|refine bif_pos (app_row hc103 (by first|rfl|simp only [List.length_map]) (by first|rfl|simp only [List.length_map]) (by first|rfl|simp only [List.length_map,take_map_len]) (by kernel_rfl)) ?_|refine bif_pos (app_row2 hc103 (by first|rfl|simp only [List.length_map]) (by first|rfl|simp only [List.length_map,take_map_len]) (by kernel_rfl)) ?_
 have hp101:(List.map c_api_Stmt (s2++([(⟨y20.1.f_Kind,y20.1.f_Reg,y20.1.f_Loc,y20.1.f_E,y20.1.f_F,y20.1.f_Ne,0,0,y20.1.f_At⟩:S_api_Stmt)]:List S_api_Stmt)):List (List AV))++([]:List (List AV))=(List.map c_api_Stmt (s2++([(⟨y20.1.f_Kind,y20.1.f_Reg,y20.1.f_Loc,y20.1.f_E,y20.1.f_F,y20.1.f_Ne,0,0,y20.1.f_At⟩:S_api_Stmt)]:List S_api_Stmt)):List (List AV)):=List.append_nil _
 have hl102:List.length (List.map c_api_Stmt (s2++([(⟨y20.1.f_Kind,y20.1.f_Reg,y20.1.f_Loc,y20.1.f_E,y20.1.f_F,y20.1.f_Ne,0,0,y20.1.f_At⟩:S_api_Stmt)]:List S_api_Stmt)):List (List AV))+List.length ([]:List (List AV))=List.length (List.map c_api_Stmt (s2++([(⟨y20.1.f_Kind,y20.1.f_Reg,y20.1.f_Loc,y20.1.f_E,y20.1.f_F,y20.1.f_Ne,0,0,y20.1.f_At⟩:S_api_Stmt)]:List S_api_Stmt)):List (List AV)):=rfl
 have hl102_b:List.length (s2++([(⟨y20.1.f_Kind,y20.1.f_Reg,y20.1.f_Loc,y20.1.f_E,y20.1.f_F,y20.1.f_Ne,0,0,y20.1.f_At⟩:S_api_Stmt)]:List S_api_Stmt))+List.length ([]:List (List AV))=List.length (s2++([(⟨y20.1.f_Kind,y20.1.f_Reg,y20.1.f_Loc,y20.1.f_E,y20.1.f_F,y20.1.f_Ne,0,0,y20.1.f_At⟩:S_api_Stmt)]:List S_api_Stmt)):=rfl
 try simp only [ls,c0]
 try simp only [hp101,hl102,hl102_b]
 try simp only [ls]
 conv=>lhs;whnf
 revert h
 exact fun h=>cq (hcont8 (y20.2.1,(s2++([(⟨y20.1.f_Kind,y20.1.f_Reg,y20.1.f_Loc,y20.1.f_E,y20.1.f_F,y20.1.f_Ne,0,0,y20.1.f_At⟩:S_api_Stmt)]:List S_api_Stmt))) (fun _=>0) h)
 refine ar (ap c_api_Stmt (List.map c_api_Stmt s2) s2 ([[iA y20.1.f_Kind,sA y20.1.f_Reg,sA y20.1.f_Loc,AV.sl 5 (List.map c_api_Node y20.1.f_E),AV.sl 5 (List.map c_api_Node y20.1.f_F),bA y20.1.f_Ne,iA (0),iA (0),iA y20.1.f_At]]) ([(⟨y20.1.f_Kind,y20.1.f_Reg,y20.1.f_Loc,y20.1.f_E,y20.1.f_F,y20.1.f_Ne,0,0,y20.1.f_At⟩:S_api_Stmt)]:List S_api_Stmt)) ?_
 intro h
 refine chk_some2 h ?_;clear h;intro hc108 h
 first|refine bif_pos (app_row hc108 (by first|rfl|simp only [List.length_map]) (by first|rfl|simp only [List.length_map]) (by first|rfl|simp only [List.length_map,take_map_len]) (by kernel_rfl)) ?_|refine bif_pos (app_row2 hc108 (by first|rfl|simp only [List.length_map]) (by first|rfl|simp only [List.length_map,take_map_len]) (by kernel_rfl)) ?_
 have hp106:(List.map c_api_Stmt (s2++([(⟨y20.1.f_Kind,y20.1.f_Reg,y20.1.f_Loc,y20.1.f_E,y20.1.f_F,y20.1.f_Ne,0,0,y20.1.f_At⟩:S_api_Stmt)]:List S_api_Stmt)):List (List AV))++([]:List (List AV))=(List.map c_api_Stmt (s2++([(⟨y20.1.f_Kind,y20.1.f_Reg,y20.1.f_Loc,y20.1.f_E,y20.1.f_F,y20.1.f_Ne,0,0,y20.1.f_At⟩:S_api_Stmt)]:List S_api_Stmt)):List (List AV)):=List.append_nil _
 have hl107:List.length (List.map c_api_Stmt (s2++([(⟨y20.1.f_Kind,y20.1.f_Reg,y20.1.f_Loc,y20.1.f_E,y20.1.f_F,y20.1.f_Ne,0,0,y20.1.f_At⟩:S_api_Stmt)]:List S_api_Stmt)):List (List AV))+List.length ([]:List (List AV))=List.length (List.map c_api_Stmt (s2++([(⟨y20.1.f_Kind,y20.1.f_Reg,y20.1.f_Loc,y20.1.f_E,y20.1.f_F,y20.1.f_Ne,0,0,y20.1.f_At⟩:S_api_Stmt)]:List S_api_Stmt)):List (List AV)):=rfl
 have hl107_b:List.length (s2++([(⟨y20.1.f_Kind,y20.1.f_Reg,y20.1.f_Loc,y20.1.f_E,y20.1.f_F,y20.1.f_Ne,0,0,y20.1.f_At⟩:S_api_Stmt)]:List S_api_Stmt))+List.length ([]:List (List AV))=List.length (s2++([(⟨y20.1.f_Kind,y20.1.f_Reg,y20.1.f_Loc,y20.1.f_E,y20.1.f_F,y20.1.f_Ne,0,0,y20.1.f_At⟩:S_api_Stmt)]:List S_api_Stmt)):=rfl
 try simp only [ls,c0]
 try simp only [hp106,hl107,hl107_b]
 try simp only [ls]
 conv=>lhs;whnf
 revert h
 intro h
 refine chk_some2 h ?_;clear h;intro hc111 h
 first|refine bif_pos (app_row hc111 (by first|rfl|simp only [List.length_map]) (by first|rfl|simp only [List.length_map]) (by first|rfl|simp only [List.length_map,take_map_len]) (by kernel_rfl)) ?_|refine bif_pos (app_row2 hc111 (by first|rfl|simp only [List.length_map]) (by first|rfl|simp only [List.length_map,take_map_len]) (by kernel_rfl)) ?_
 have hp109:(List.map c_api_Stmt (s2++([(⟨y20.1.f_Kind,y20.1.f_Reg,y20.1.f_Loc,y20.1.f_E,y20.1.f_F,y20.1.f_Ne,0,0,y20.1.f_At⟩:S_api_Stmt)]:List S_api_Stmt)):List (List AV))++([]:List (List AV))=(List.map c_api_Stmt (s2++([(⟨y20.1.f_Kind,y20.1.f_Reg,y20.1.f_Loc,y20.1.f_E,y20.1.f_F,y20.1.f_Ne,0,0,y20.1.f_At⟩:S_api_Stmt)]:List S_api_Stmt)):List (List AV)):=List.append_nil _
 have hl110:List.length (List.map c_api_Stmt (s2++([(⟨y20.1.f_Kind,y20.1.f_Reg,y20.1.f_Loc,y20.1.f_E,y20.1.f_F,y20.1.f_Ne,0,0,y20.1.f_At⟩:S_api_Stmt)]:List S_api_Stmt)):List (List AV))+List.length ([]:List (List AV))=List.length (List.map c_api_Stmt (s2++([(⟨y20.1.f_Kind,y20.1.f_Reg,y20.1.f_Loc,y20.1.f_E,y20.1.f_F,y20.1.f_Ne,0,0,y20.1.f_At⟩:S_api_Stmt)]:List S_api_Stmt)):List (List AV)):=rfl
 have hl110_b:List.length (s2++([(⟨y20.1.f_Kind,y20.1.f_Reg,y20.1.f_Loc,y20.1.f_E,y20.1.f_F,y20.1.f_Ne,0,0,y20.1.f_At⟩:S_api_Stmt)]:List S_api_Stmt))+List.length ([]:List (List AV))=List.length (s2++([(⟨y20.1.f_Kind,y20.1.f_Reg,y20.1.f_Loc,y20.1.f_E,y20.1.f_F,y20.1.f_Ne,0,0,y20.1.f_At⟩:S_api_Stmt)]:List S_api_Stmt)):=rfl
 try simp only [ls,c0]
 try simp only [hp109,hl110,hl110_b]
 try simp only [ls]
 conv=>lhs;whnf
 revert h
 exact fun h=>cq (hcont8 (y20.2.1,(s2++([(⟨y20.1.f_Kind,y20.1.f_Reg,y20.1.f_Loc,y20.1.f_E,y20.1.f_F,y20.1.f_Ne,0,0,y20.1.f_At⟩:S_api_Stmt)]:List S_api_Stmt))) (fun _=>0) h)
 refine ar (ap c_api_Stmt (List.map c_api_Stmt s2) s2 ([[iA y20.1.f_Kind,sA y20.1.f_Reg,sA y20.1.f_Loc,AV.sl 5 (List.map c_api_Node y20.1.f_E),AV.sl 5 (List.map c_api_Node y20.1.f_F),bA y20.1.f_Ne,iA (0),iA (0),iA y20.1.f_At]]) ([(⟨y20.1.f_Kind,y20.1.f_Reg,y20.1.f_Loc,y20.1.f_E,y20.1.f_F,y20.1.f_Ne,0,0,y20.1.f_At⟩:S_api_Stmt)]:List S_api_Stmt)) ?_
 intro h
 refine chk_some2 h ?_;clear h;intro hc116 h
 first|refine bif_pos (app_row hc116 (by first|rfl|simp only [List.length_map]) (by first|rfl|simp only [List.length_map]) (by first|rfl|simp only [List.length_map,take_map_len]) (by kernel_rfl)) ?_|refine bif_pos (app_row2 hc116 (by first|rfl|simp only [List.length_map]) (by first|rfl|simp only [List.length_map,take_map_len]) (by kernel_rfl)) ?_
 have hp114:(List.map c_api_Stmt (s2++([(⟨y20.1.f_Kind,y20.1.f_Reg,y20.1.f_Loc,y20.1.f_E,y20.1.f_F,y20.1.f_Ne,0,0,y20.1.f_At⟩:S_api_Stmt)]:List S_api_Stmt)):List (List AV))++([]:List (List AV))=(List.map c_api_Stmt (s2++([(⟨y20.1.f_Kind,y20.1.f_Reg,y20.1.f_Loc,y20.1.f_E,y20.1.f_F,y20.1.f_Ne,0,0,y20.1.f_At⟩:S_api_Stmt)]:List S_api_Stmt)):List (List AV)):=List.append_nil _
 have hl115:List.length (List.map c_api_Stmt (s2++([(⟨y20.1.f_Kind,y20.1.f_Reg,y20.1.f_Loc,y20.1.f_E,y20.1.f_F,y20.1.f_Ne,0,0,y20.1.f_At⟩:S_api_Stmt)]:List S_api_Stmt)):List (List AV))+List.length ([]:List (List AV))=List.length (List.map c_api_Stmt (s2++([(⟨y20.1.f_Kind,y20.1.f_Reg,y20.1.f_Loc,y20.1.f_E,y20.1.f_F,y20.1.f_Ne,0,0,y20.1.f_At⟩:S_api_Stmt)]:List S_api_Stmt)):List (List AV)):=rfl
 have hl115_b:List.length (s2++([(⟨y20.1.f_Kind,y20.1.f_Reg,y20.1.f_Loc,y20.1.f_E,y20.1.f_F,y20.1.f_Ne,0,0,y20.1.f_At⟩:S_api_Stmt)]:List S_api_Stmt))+List.length ([]:List (List AV))=List.length (s2++([(⟨y20.1.f_Kind,y20.1.f_Reg,y20.1.f_Loc,y20.1.f_E,y20.1.f_F,y20.1.f_Ne,0,0,y20.1.f_At⟩:S_api_Stmt)]:List S_api_Stmt)):=rfl
 try simp only [ls,c0]
 try simp only [hp114,hl115,hl115_b]
 try simp only [ls]
 conv=>lhs;whnf
 revert h
 intro h
 refine chk_some2 h ?_;clear h;intro hc119 h
 first|refine bif_pos (app_row hc119 (by first|rfl|simp only [List.length_map]) (by first|rfl|simp only [List.length_map]) (by first|rfl|simp only [List.length_map,take_map_len]) (by kernel_rfl)) ?_|refine bif_pos (app_row2 hc119 (by first|rfl|simp only [List.length_map]) (by first|rfl|simp only [List.length_map,take_map_len]) (by kernel_rfl)) ?_
 have hp117:(List.map c_api_Stmt (s2++([(⟨y20.1.f_Kind,y20.1.f_Reg,y20.1.f_Loc,y20.1.f_E,y20.1.f_F,y20.1.f_Ne,0,0,y20.1.f_At⟩:S_api_Stmt)]:List S_api_Stmt)):List (List AV))++([]:List (List AV))=(List.map c_api_Stmt (s2++([(⟨y20.1.f_Kind,y20.1.f_Reg,y20.1.f_Loc,y20.1.f_E,y20.1.f_F,y20.1.f_Ne,0,0,y20.1.f_At⟩:S_api_Stmt)]:List S_api_Stmt)):List (List AV)):=List.append_nil _
 have hl118:List.length (List.map c_api_Stmt (s2++([(⟨y20.1.f_Kind,y20.1.f_Reg,y20.1.f_Loc,y20.1.f_E,y20.1.f_F,y20.1.f_Ne,0,0,y20.1.f_At⟩:S_api_Stmt)]:List S_api_Stmt)):List (List AV))+List.length ([]:List (List AV))=List.length (List.map c_api_Stmt (s2++([(⟨y20.1.f_Kind,y20.1.f_Reg,y20.1.f_Loc,y20.1.f_E,y20.1.f_F,y20.1.f_Ne,0,0,y20.1.f_At⟩:S_api_Stmt)]:List S_api_Stmt)):List (List AV)):=rfl
 have hl118_b:List.length (s2++([(⟨y20.1.f_Kind,y20.1.f_Reg,y20.1.f_Loc,y20.1.f_E,y20.1.f_F,y20.1.f_Ne,0,0,y20.1.f_At⟩:S_api_Stmt)]:List S_api_Stmt))+List.length ([]:List (List AV))=List.length (s2++([(⟨y20.1.f_Kind,y20.1.f_Reg,y20.1.f_Loc,y20.1.f_E,y20.1.f_F,y20.1.f_Ne,0,0,y20.1.f_At⟩:S_api_Stmt)]:List S_api_Stmt)):=rfl
 try simp only [ls,c0]
 try simp only [hp117,hl118,hl118_b]
 try simp only [ls]
 conv=>lhs;whnf
 revert h
 exact fun h=>cq (hcont8 (y20.2.1,(s2++([(⟨y20.1.f_Kind,y20.1.f_Reg,y20.1.f_Loc,y20.1.f_E,y20.1.f_F,y20.1.f_Ne,0,0,y20.1.f_At⟩:S_api_Stmt)]:List S_api_Stmt))) (fun _=>0) h)
 intro h;cases sj h
 exact kq (hr9 (fun _=>0))
 refine lrc ?_ ?_
 intro v e;subst e;cases sj h;rfl
 intro t a120 e;subst e
 obtain ⟨x121,x122⟩:=t
 dsimp only at h
 conv=>lhs;whnf
 revert h
 intro h;cases sj h
 try simp only [ls]
 exact fq (y:=some (AV.tup [AV.sl 9 (List.take (List.length x122) (List.map c_api_Stmt x122)),iA x121,iA (0),iA (0)],[]))
theorem all_ref03_braced : ∀ n, IH_ref03_braced n
  | 0 => ⟨by unfold OK_ref03_braced; intros; rename_i h; exact absurd h (by intro h; cases h), by unfold OK_ref03_list; intros; rename_i h; exact absurd h (by intro h; cases h)⟩
  | n + 1 => have ih := all_ref03_braced n
    ⟨st_ref03_braced n ih, st_ref03_list n ih⟩
theorem ok_ref03_list {n : Nat} : OK_ref03_list n := (all_ref03_braced n).2
theorem ok_ref03_Parse {n:Nat} ⦃v0_l:(List S_api_Token)⦄ ⦃v1_i:Int⦄ ⦃r:((List S_api_Stmt)×Int×Int×Int)⦄:m_ref03_Parse n v0_l v1_i=some r→CN n 62 [AV.sl 4 (List.map c_api_Token v0_l),iA v1_i] []=some (AV.tup [AV.sl 9 (List.map c_api_Stmt r.1),iA r.2.1,iA r.2.2.1,iA r.2.2.2],[]):=by
 intro h;rcases n with _|n;cases h
 rw [m_ref03_Parse] at h
 refine callN_eq' Tryz.func62 (by rfl) rfl rfl (Nat.le_of_ble_eq_true rfl) ?_
 intro call hc;conv=>lhs;whnf
 revert h
 refine br ?_ ?_
 exact rz
 refine br ?_ ?_
 exact rz
 refine ca hc (fun _ h=>ok_ref03_list h) ?_;intro y3
 refine br ?_ ?_
 exact rz
 refine br ?_ ?_
 refine ca hc (fun _ h=>ok_ref02_Place h) ?_;intro y7
 exact rz
 exact rz
theorem ok_ref03_Same {n:Nat} ⦃v0_a:(List S_api_Stmt)⦄ ⦃v1_b:(List S_api_Stmt)⦄ ⦃v2_places:Bool⦄ ⦃r:Bool⦄:m_ref03_Same n v0_a v1_b v2_places=some r→CN n 35 [AV.sl 9 (List.map c_api_Stmt v0_a),AV.sl 9 (List.map c_api_Stmt v1_b),bA v2_places] []=some (bA r,[]):=by
 intro h;rcases n with _|n;cases h
 rw [m_ref03_Same] at h
 refine callN_eq' Tryz.func35 (by rfl) rfl rfl (Nat.le_of_ble_eq_true rfl) ?_
 intro call hc;conv=>lhs;whnf
 revert h
 refine br ?_ ?_
 exact rz
 intro h;refine bind_some2 h ?_;clear h;intro o11 ho11 h
 refine lq (σ:=(Bool×Int)) (τ:=Unit) (ν:=Bool) 0 (fun (s2,s3) a5=>stOf 97 [(0,AV.sl 9 (List.map c_api_Stmt v0_a)),(1,AV.sl 9 (List.map c_api_Stmt v1_b)),(2,bA s2),(7,iA s3)]) (fun (s2,s3) a5=>[]) (fun _ a35=>stOf 97 []) (fun _ a35=>[]) (fun v=>(bA v,[])) (fun k s=>ref03_Same_L0 n v0_a v1_b k s.1 s.2) (fun s=>rfl) o11 n (v2_places,0) (fun _=>0) ho11 ?_ ?_
 intro k4 ss a5 K6 cont7 hK8 hcont9 h hr10
 obtain ⟨s2,s3⟩:=ss
 replace h:ref03_Same_L0 n v0_a v1_b (k4+1) s2 s3=some o11:=h
 rw [ref03_Same_L0] at h
 conv=>lhs;whnf
 revert h
 refine br ?_ ?_
 refine ix ?_;intro x13
 refine ix ?_;intro x14
 refine br ?_ ?_
 intro h;cases sj h
 refine (hK8 _ _).trans ?_
 refine Eq.trans ?_ (Eq.symm (show _=some _ from hr10))
 conv=>lhs;whnf
 exact rq
 refine br ?_ ?_
 refine br ?_ ?_
 refine br ?_ ?_
 refine br ?_ ?_
 intro h;cases sj h
 refine (hK8 _ _).trans ?_
 refine Eq.trans ?_ (Eq.symm (show _=some _ from hr10))
 conv=>lhs;whnf
 exact rq
 refine br ?_ ?_
 intro h;cases sj h
 refine (hK8 _ _).trans ?_
 refine Eq.trans ?_ (Eq.symm (show _=some _ from hr10))
 conv=>lhs;whnf
 exact rq
 refine br ?_ ?_
 refine br ?_ ?_
 intro h;cases sj h
 refine (hK8 _ _).trans ?_
 refine Eq.trans ?_ (Eq.symm (show _=some _ from hr10))
 conv=>lhs;whnf
 exact rq
 refine ca hc (fun _ h=>ok_ref02_Same h) ?_;intro y23
 refine br ?_ ?_
 refine ca hc (fun _ h=>ok_ref02_Same h) ?_;intro y26
 refine br ?_ ?_
 exact fun h=>cq (hcont9 (true,IntKind.i64.wrap (s3+1)) (fun _=>0) h)
 intro h;cases sj h
 refine (hK8 _ _).trans ?_
 refine Eq.trans ?_ (Eq.symm (show _=some _ from hr10))
 conv=>lhs;whnf
 exact rq
 intro h;cases sj h
 refine (hK8 _ _).trans ?_
 refine Eq.trans ?_ (Eq.symm (show _=some _ from hr10))
 conv=>lhs;whnf
 exact rq
 refine ca hc (fun _ h=>ok_ref02_Same h) ?_;intro y29
 refine br ?_ ?_
 refine ca hc (fun _ h=>ok_ref02_Same h) ?_;intro y32
 refine br ?_ ?_
 exact fun h=>cq (hcont9 (false,IntKind.i64.wrap (s3+1)) (fun _=>0) h)
 intro h;cases sj h
 refine (hK8 _ _).trans ?_
 refine Eq.trans ?_ (Eq.symm (show _=some _ from hr10))
 conv=>lhs;whnf
 exact rq
 intro h;cases sj h
 refine (hK8 _ _).trans ?_
 refine Eq.trans ?_ (Eq.symm (show _=some _ from hr10))
 conv=>lhs;whnf
 exact rq
 intro h;cases sj h
 refine (hK8 _ _).trans ?_
 refine Eq.trans ?_ (Eq.symm (show _=some _ from hr10))
 conv=>lhs;whnf
 exact rq
 intro h;cases sj h
 refine (hK8 _ _).trans ?_
 refine Eq.trans ?_ (Eq.symm (show _=some _ from hr10))
 conv=>lhs;whnf
 exact rq
 intro h;cases sj h
 refine (hK8 _ _).trans ?_
 refine Eq.trans ?_ (Eq.symm (show _=some _ from hr10))
 conv=>lhs;whnf
 exact rq
 intro h;cases sj h
 exact kq (hr10 (fun _=>0))
 refine lrc ?_ ?_
 intro v e;subst e;cases sj h;rfl
 intro t a35 e;subst e
 dsimp only at h
 conv=>lhs;whnf
 revert h
 exact rz
theorem ok_ref03_tops {n:Nat} ⦃v0_l:(List S_api_Stmt)⦄ ⦃v1_from:Int⦄ ⦃v2_to:Int⦄ ⦃r:(List Int)⦄:m_ref03_tops n v0_l v1_from v2_to=some r→CN n 100 [AV.sl 9 (List.map c_api_Stmt v0_l),iA v1_from,iA v2_to] []=some (AV.sl 1 (List.map encI r),[]):=by
 intro h;rcases n with _|n;cases h
 rw [m_ref03_tops] at h
 refine callN_eq' Tryz.func100 (by rfl) rfl rfl (Nat.le_of_ble_eq_true rfl) ?_
 intro call hc;conv=>lhs;whnf
 revert h
 intro h;refine bind_some2 h ?_;clear h;intro o10 ho10 h
 refine lq (σ:=(Int×(List Int))) (τ:=(List Int)) (ν:=(List Int)) 0 (fun (s1,s2) a4=>stOf 30 [(0,AV.sl 9 (List.map c_api_Stmt v0_l)),(1,iA s1),(2,iA v2_to),(7,AV.row 0 (List.length s2))]) (fun (s1,s2) a4=>[Ob.row 3 1 (List.map encI s2)]) (fun x17 a16=>stOf 30 [(7,AV.row 0 (List.length x17))]) (fun x17 a16=>[Ob.row 3 1 (List.map encI x17)]) (fun v=>(AV.sl 1 (List.map encI v),[])) (fun k s=>ref03_tops_L0 n v0_l v2_to k s.1 s.2) (fun s=>rfl) o10 n (v1_from,([]:List Int)) (fun _=>0) ho10 ?_ ?_
 intro k3 ss a4 K5 cont6 hK7 hcont8 h hr9
 obtain ⟨s1,s2⟩:=ss
 replace h:ref03_tops_L0 n v0_l v2_to (k3+1) s1 s2=some o10:=h
 rw [ref03_tops_L0] at h
 conv=>lhs;whnf
 revert h
 refine br ?_ ?_
 refine ar (ap encI (List.map encI s2) s2 ([[iA s1]]) ([s1]:List Int)) ?_
 refine ix ?_;intro x14
 refine ix ?_;intro x15
 exact fun h=>cq (hcont8 (IntKind.i64.wrap ((IntKind.i64.wrap ((IntKind.i64.wrap (s1+1))+x14.f_Body))+x15.f_Else),(s2++([s1]:List Int))) (fun _=>0) h)
 intro h;cases sj h
 exact kq (hr9 (fun _=>0))
 refine lrc ?_ ?_
 intro v e;subst e;cases sj h;rfl
 intro x17 a16 e;subst e
 dsimp only at h
 conv=>lhs;whnf
 revert h
 intro h;obtain rfl:=sj h
 try simp only [ls]
 exact fq (y:=some (AV.sl 1 (List.take (List.length x17) (List.map encI x17)),[]))
def OK_ref03_deep (n:Nat):Prop:=∀ ⦃v0_l:(List S_api_Stmt)⦄ ⦃v1_from:Int⦄ ⦃v2_to:Int⦄ ⦃r:Int⦄,m_ref03_deep n v0_l v1_from v2_to=some r→CN n 79 [AV.sl 9 (List.map c_api_Stmt v0_l),iA v1_from,iA v2_to] []=some (iA r,[])
def IH_ref03_deep (n : Nat) : Prop := OK_ref03_deep n
theorem st_ref03_deep (n:Nat) (ih:IH_ref03_deep n):OK_ref03_deep (n+1):=by
 intro v0_l v1_from v2_to r h
 rw [m_ref03_deep] at h
 refine callN_eq' Tryz.func79 (by rfl) rfl rfl (Nat.le_of_ble_eq_true rfl) ?_
 intro call hc;conv=>lhs;whnf
 revert h
 refine ca hc (fun _ h=>ok_ref03_tops h) ?_;intro y1
 intro h;refine bind_some2 h ?_;clear h;intro o12 ho12 h
 refine lq (σ:=(Int×Int)) (τ:=Int) (ν:=Int) 0 (fun (s3,s4) a6=>stOf 60 [(0,AV.sl 9 (List.map c_api_Stmt v0_l)),(7,iA s3),(8,AV.sl 1 (List.map encI y1)),(9,iA s4)]) (fun (s3,s4) a6=>[]) (fun x26 a25=>stOf 60 [(7,iA x26)]) (fun x26 a25=>[]) (fun v=>(iA v,[])) (fun k s=>ref03_deep_L0 n (m_ref03_deep n) v0_l y1 k s.1 s.2) (fun s=>rfl) o12 n (0,0) (fun _=>0) ho12 ?_ ?_
 intro k5 ss a6 K7 cont8 hK9 hcont10 h hr11
 obtain ⟨s3,s4⟩:=ss
 replace h:ref03_deep_L0 n (m_ref03_deep n) v0_l y1 (k5+1) s3 s4=some o12:=h
 rw [ref03_deep_L0] at h
 conv=>lhs;whnf
 revert h
 refine br ?_ ?_
 refine ix ?_;intro x14
 refine ix ?_;intro x15
 refine ca hc (fun _ h=>ok_ref03_block h) ?_;intro y16
 refine br ?_ ?_
 refine ix ?_;intro x19
 refine ix ?_;intro x20
 refine ca hc (fun _ h=>ih h) ?_;intro y21
 refine ca hc (fun _ h=>ih h) ?_;intro y23
 exact fun h=>cq (hcont10 (max3 s3 (IntKind.i64.wrap (1+y21)) (IntKind.i64.wrap (1+y23)),IntKind.i64.wrap (s4+1)) (fun _=>0) h)
 exact fun h=>cq (hcont10 (s3,IntKind.i64.wrap (s4+1)) (fun _=>0) h)
 intro h;cases sj h
 exact kq (hr11 (fun _=>0))
 refine lrc ?_ ?_
 intro v e;subst e;cases sj h;rfl
 intro x26 a25 e;subst e
 dsimp only at h
 conv=>lhs;whnf
 revert h
 exact rz
theorem all_ref03_deep : ∀ n, IH_ref03_deep n
  | 0 => by unfold IH_ref03_deep OK_ref03_deep; intros; rename_i h; exact absurd h (by intro h; cases h)
  | n + 1 => have ih := all_ref03_deep n
    st_ref03_deep n ih
theorem ok_ref03_deep {n : Nat} : OK_ref03_deep n := (all_ref03_deep n)
theorem ok_ref03_has {n:Nat} ⦃v0_l:(List UInt8)⦄ ⦃v1_c:Int⦄ ⦃r:Bool⦄:m_ref03_has n v0_l v1_c=some r→CN n 111 [sA v0_l,AV.int .u8 v1_c] []=some (bA r,[]):=by
 intro h;rcases n with _|n;cases h
 rw [m_ref03_has] at h
 refine callN_eq' Tryz.func111 (by rfl) rfl rfl (Nat.le_of_ble_eq_true rfl) ?_
 intro call hc;conv=>lhs;whnf
 revert h
 intro h;refine bind_some2 h ?_;clear h;intro o9 ho9 h
 refine lq (σ:=Int) (τ:=Unit) (ν:=Bool) 0 (fun s1 a3=>stOf 17 [(0,sA v0_l),(1,AV.int .u8 v1_c),(5,iA s1)]) (fun s1 a3=>[]) (fun _ a13=>stOf 17 []) (fun _ a13=>[]) (fun v=>(bA v,[])) (fun k s=>ref03_has_L0 n v0_l v1_c k s) (fun s=>rfl) o9 n 0 (fun _=>0) ho9 ?_ ?_
 intro k2 s1 a3 K4 cont5 hK6 hcont7 h hr8
 replace h:ref03_has_L0 n v0_l v1_c (k2+1) s1=some o9:=h
 rw [ref03_has_L0] at h
 conv=>lhs;whnf
 revert h
 refine br ?_ ?_
 refine ixs ?_;intro x11
 refine br ?_ ?_
 intro h;cases sj h
 refine (hK6 _ _).trans ?_
 refine Eq.trans ?_ (Eq.symm (show _=some _ from hr8))
 conv=>lhs;whnf
 exact rq
 exact fun h=>cq (hcont7 (IntKind.i64.wrap (s1+1)) (fun _=>0) h)
 intro h;cases sj h
 exact kq (hr8 (fun _=>0))
 refine lrc ?_ ?_
 intro v e;subst e;cases sj h;rfl
 intro t a13 e;subst e
 dsimp only at h
 conv=>lhs;whnf
 revert h
 exact rz
theorem ok_ref03_parts {n:Nat} ⦃v0_kind:Int⦄ ⦃r:((List UInt8)×Bool)⦄:m_ref03_parts n v0_kind=some r→CN n 110 [iA v0_kind] []=some (AV.tup [sA r.1,bA r.2],[]):=by
 intro h;rcases n with _|n;cases h
 rw [m_ref03_parts] at h
 refine callN_eq' Tryz.func110 (by rfl) rfl rfl (Nat.le_of_ble_eq_true rfl) ?_
 intro call hc;conv=>lhs;whnf
 revert h
 refine br ?_ ?_
 exact rz
 refine br ?_ ?_
 exact rz
 refine br ?_ ?_
 exact rz
 refine br ?_ ?_
 exact rz
 refine br ?_ ?_
 exact rz
 refine br ?_ ?_
 exact rz
 refine br ?_ ?_
 exact rz
 refine br ?_ ?_
 exact rz
 refine br ?_ ?_
 exact rz
 refine br ?_ ?_
 exact rz
 refine br ?_ ?_
 exact rz
 refine br ?_ ?_
 exact rz
 refine br ?_ ?_
 exact rz
 exact rz
end Go.Proofs.YtgelgahilfojdaaGreat
end
section
namespace Go.Proofs.YtgelgahilfojdaaGreat
set_option linter.unusedVariables false
set_option linter.unusedSimpArgs false
set_option maxRecDepth 100000
set_option maxHeartbeats 4000000
theorem ok_ref04_state_fault {n:Nat} ⦃v1_e:Int⦄ ⦃v2_at:Int⦄ ⦃s_l:(List S_api_Token)⦄ ⦃s_i:Int⦄ ⦃s_e:Int⦄ ⦃s_at:Int⦄ ⦃r:(Int×Int)⦄:m_ref04_state_fault n v1_e v2_at s_l s_i s_e s_at=some r→CN n 63 [AV.ptr 0 0,iA v1_e,iA v2_at] [Ob.var 65 [AV.sl 4 (List.map c_api_Token s_l),iA s_i,iA s_e,iA s_at]]=some (AV.tup [],[Ob.var 65 [AV.sl 4 (List.map c_api_Token s_l),iA s_i,iA r.1,iA r.2]]):=by
 intro h;rcases n with _|n;cases h
 rw [m_ref04_state_fault] at h
 refine callN_eq' Tryz.func63 (by rfl) rfl rfl (Nat.le_of_ble_eq_true rfl) ?_
 intro call hc;conv=>lhs;whnf
 revert h
 refine br ?_ ?_
 refine br ?_ ?_
 exact rz
 exact rz
 exact rz
theorem ok_ref04_state_wrong {n:Nat} ⦃s_l:(List S_api_Token)⦄ ⦃s_i:Int⦄ ⦃s_e:Int⦄ ⦃s_at:Int⦄ ⦃r:(Int×Int)⦄:m_ref04_state_wrong n s_l s_i s_e s_at=some r→CN n 27 [AV.ptr 0 0] [Ob.var 65 [AV.sl 4 (List.map c_api_Token s_l),iA s_i,iA s_e,iA s_at]]=some (AV.tup [],[Ob.var 65 [AV.sl 4 (List.map c_api_Token s_l),iA s_i,iA r.1,iA r.2]]):=by
 intro h;rcases n with _|n;cases h
 rw [m_ref04_state_wrong] at h
 refine callN_eq' Tryz.func27 (by rfl) rfl rfl (Nat.le_of_ble_eq_true rfl) ?_
 intro call hc;conv=>lhs;whnf
 revert h
 refine br ?_ ?_
 refine ca hc (fun _ h=>ok_ref03_Wrong h) ?_;intro y2
 exact rz
 exact rz
theorem ok_ref04_state_sign {n:Nat} ⦃v1_w:(List UInt8)⦄ ⦃s_l:(List S_api_Token)⦄ ⦃s_i:Int⦄ ⦃s_e:Int⦄ ⦃s_at:Int⦄ ⦃r:(Int×Int×Int)⦄:m_ref04_state_sign n v1_w s_l s_i s_e s_at=some r→CN n 29 [AV.ptr 0 0,sA v1_w] [Ob.var 65 [AV.sl 4 (List.map c_api_Token s_l),iA s_i,iA s_e,iA s_at]]=some (AV.tup [],[Ob.var 65 [AV.sl 4 (List.map c_api_Token s_l),iA r.1,iA r.2.1,iA r.2.2]]):=by
 intro h;rcases n with _|n;cases h
 rw [m_ref04_state_sign] at h
 refine callN_eq' Tryz.func29 (by rfl) rfl rfl (Nat.le_of_ble_eq_true rfl) ?_
 intro call hc;conv=>lhs;whnf
 revert h
 refine br ?_ ?_
 refine ca hc (fun _ h=>ok_ref02_Is h) ?_;intro y2
 refine br ?_ ?_
 exact rz
 refine ca hc (fun _ h=>ok_ref04_state_wrong h) ?_;intro y5
 exact rz
 refine ca hc (fun _ h=>ok_ref04_state_wrong h) ?_;intro y7
 exact rz
theorem ok_ref04_state_claim {n:Nat} ⦃v1_kind:Int⦄ ⦃s_l:(List S_api_Token)⦄ ⦃s_i:Int⦄ ⦃s_e:Int⦄ ⦃s_at:Int⦄ ⦃r:(S_api_Claim×Int×Int×Int)⦄:m_ref04_state_claim n v1_kind s_l s_i s_e s_at=some r→CN n 33 [AV.ptr 0 0,iA v1_kind] [Ob.var 65 [AV.sl 4 (List.map c_api_Token s_l),iA s_i,iA s_e,iA s_at]]=some (AV.agg [iA r.1.f_Kind,AV.sl 5 (List.map c_api_Node r.1.f_E),iA r.1.f_At],[Ob.var 65 [AV.sl 4 (List.map c_api_Token s_l),iA r.2.1,iA r.2.2.1,iA r.2.2.2]]):=by
 intro h;rcases n with _|n;cases h
 rw [m_ref04_state_claim] at h
 refine callN_eq' Tryz.func33 (by rfl) rfl rfl (Nat.le_of_ble_eq_true rfl) ?_
 intro call hc;conv=>lhs;whnf
 revert h
 refine ix ?_;intro x1
 refine tw hc (fun _ h=>ok_ref02_Parse h) (fun _ h=>adoCall_thaw (p:=[1,1,2,2,1]) (q:=[1,2,1,1]) h Tryz.func64 (by kernel_rfl) (by kernel_rfl) (by kernel_rfl) (by kernel_rfl) (by rfl) (kinds_map (by exact fun _=>rfl) _) (kinds_map (by exact fun _=>rfl) _)) ?_;intro y2
 refine nb ?_ ?_
 refine ca hc (fun _ h=>ok_ref04_state_fault h) ?_;intro y4
 intro h;refine bind_some2 h ?_;clear h;intro o13 ho13 h
 refine lq (σ:=Unit) (τ:=Unit) (ν:=(S_api_Claim×Int×Int×Int)) 0 (fun _ a7=>stOf 79 [(0,AV.ptr 0 0),(4,AV.ptr 1 0),(5,AV.ptr 2 0),(6,AV.sl 5 []),(7,iA y2.2.1),(10,iA (0))]) (fun _ a7=>[Ob.var 65 [AV.sl 4 (List.map c_api_Token s_l),iA (IntKind.i64.wrap (s_i+1)),iA y4.1,iA y4.2],Ob.var 57 [iA (0),AV.nils,iA (0)],Ob.var 57 [iA v1_kind,AV.nils,iA x1.f_At]]) (fun _ a14=>stOf 79 [(0,AV.ptr 0 0),(4,AV.ptr 1 0),(5,AV.ptr 2 0),(6,AV.sl 5 []),(7,iA y2.2.1)]) (fun _ a14=>[Ob.var 65 [AV.sl 4 (List.map c_api_Token s_l),iA (IntKind.i64.wrap (s_i+1)),iA y4.1,iA y4.2],Ob.var 57 [iA (0),AV.nils,iA (0)],Ob.var 57 [iA v1_kind,AV.nils,iA x1.f_At]]) (fun v=>(AV.agg [iA v.1.f_Kind,AV.sl 5 (List.map c_api_Node v.1.f_E),iA v.1.f_At],[Ob.var 65 [AV.sl 4 (List.map c_api_Token s_l),iA v.2.1,iA v.2.2.1,iA v.2.2.2]])) (fun k s=>ref04_state_claim_L0 n k) (fun s=>rfl) o13 n () (fun _=>0) ho13 ?_ ?_
 intro k6 ss a7 K8 cont9 hK10 hcont11 h hr12
 replace h:ref04_state_claim_L0 n (k6+1)=some o13:=h
 rw [ref04_state_claim_L0] at h
 conv=>lhs;whnf
 revert h
 intro h;cases sj h
 exact kq (hr12 (fun _=>0))
 refine lrc ?_ ?_
 intro v e;subst e;cases sj h;rfl
 intro t a14 e;subst e
 dsimp only at h
 conv=>lhs;whnf
 revert h
 refine br ?_ ?_
 refine ca hc (fun _ h=>ok_ref04_state_sign h) ?_;intro y16
 exact rz
 refine ca hc (fun _ h=>ok_ref04_state_sign h) ?_;intro y18
 exact rz
 refine ca hc (fun _ h=>ok_ref04_state_fault h) ?_;intro y21
 intro h;refine bind_some2 h ?_;clear h;intro o32 ho32 h
 refine lq (σ:=(Int×(List S_api_Node))) (τ:=(List S_api_Node)) (ν:=(S_api_Claim×Int×Int×Int)) 0 (fun (s23,s24) a26=>stOf 79 [(0,AV.ptr 0 0),(4,AV.ptr 1 0),(5,AV.ptr 2 0),(6,AV.own 3 0 (List.length s24)),(7,iA y2.2.1),(10,iA s23)]) (fun (s23,s24) a26=>[Ob.var 65 [AV.sl 4 (List.map c_api_Token s_l),iA (IntKind.i64.wrap (s_i+1)),iA y21.1,iA y21.2],Ob.var 57 [iA (0),AV.nils,iA (0)],Ob.var 57 [iA v1_kind,AV.nils,iA x1.f_At],Ob.arr 5 (List.map c_api_Node s24)]) (fun x39 a38=>stOf 79 [(0,AV.ptr 0 0),(4,AV.ptr 1 0),(5,AV.ptr 2 0),(6,AV.own 3 0 (List.length x39)),(7,iA y2.2.1)]) (fun x39 a38=>[Ob.var 65 [AV.sl 4 (List.map c_api_Token s_l),iA (IntKind.i64.wrap (s_i+1)),iA y21.1,iA y21.2],Ob.var 57 [iA (0),AV.nils,iA (0)],Ob.var 57 [iA v1_kind,AV.nils,iA x1.f_At],Ob.arr 5 (List.map c_api_Node x39)]) (fun v=>(AV.agg [iA v.1.f_Kind,AV.sl 5 (List.map c_api_Node v.1.f_E),iA v.1.f_At],[Ob.var 65 [AV.sl 4 (List.map c_api_Token s_l),iA v.2.1,iA v.2.2.1,iA v.2.2.2]])) (fun k s=>ref04_state_claim_L1 n k s.1 s.2) (fun s=>rfl) o32 n (0,y2.1) (fun _=>0) ho32 ?_ ?_
 intro k25 ss a26 K27 cont28 hK29 hcont30 h hr31
 obtain ⟨s23,s24⟩:=ss
 replace h:ref04_state_claim_L1 n (k25+1) s23 s24=some o32:=h
 rw [ref04_state_claim_L1] at h
 conv=>lhs;whnf
 revert h
 refine br ?_ ?_
 intro h
 refine bind_some2 h ?_;clear h;intro x34 hx34 h
 try simp only [ls]
 refine bif_pos (by first|exact idx_in hx34|exact idx_in' hx34|exact own_in hx34|exact own_in' hx34|(have q:=idx_in hx34;simp only [List.length_set] at q;exact q)|(have q:=own_in' hx34;simp only [List.length_set,Nat.zero_add] at q ⊢;exact q)) ?_
 conv=>lhs;whnf
 try simp only [Nat.zero_add,idx_nth (f:=c_api_Node) hx34,dec_self,ls]
 conv=>lhs;whnf
 revert h
 refine br ?_ ?_
 intro h
 refine bind_some2 h ?_;clear h;intro x36 hx36 h
 try simp only [ls]
 refine bif_pos (by first|exact idx_in hx36|exact idx_in' hx36|exact own_in hx36|exact own_in' hx36|(have q:=idx_in hx36;simp only [List.length_set] at q;exact q)|(have q:=own_in' hx36;simp only [List.length_set,Nat.zero_add] at q ⊢;exact q)) ?_
 conv=>lhs;whnf
 try simp only [Nat.zero_add,idx_nth (f:=c_api_Node) hx36,dec_self,ls]
 conv=>lhs;whnf
 revert h
 intro h
 have hs37:setNth (List.map c_api_Node s24) s23.toNat [iA (3),iA x36.f_N,sA x36.f_Name,sA x36.f_In,iA x36.f_At]=List.map c_api_Node (List.set s24 s23.toNat (⟨3,x36.f_N,x36.f_Name,x36.f_In,x36.f_At⟩:S_api_Node)):=by rw [setNth_eq,List.map_set];rfl
 have hs37_u:setNth (List.map c_api_Node s24) s23.toNat (updL (c_api_Node x36) 0 [iA (3)])=List.map c_api_Node (List.set s24 s23.toNat (⟨3,x36.f_N,x36.f_Name,x36.f_In,x36.f_At⟩:S_api_Node)):=by rw [setNth_eq,List.map_set];rfl
 try simp only [Nat.zero_add,idx_nth (f:=c_api_Node) hx36]
 conv=>lhs;whnf
 try simp only [hs37,hs37_u]
 conv=>lhs;whnf
 revert h
 exact fun h=>cq (hcont30 (IntKind.i64.wrap (s23+1),(List.set s24 s23.toNat (⟨3,x36.f_N,x36.f_Name,x36.f_In,x36.f_At⟩:S_api_Node))) (fun _=>0) h)
 exact fun h=>cq (hcont30 (IntKind.i64.wrap (s23+1),s24) (fun _=>0) h)
 intro h;cases sj h
 exact kq (hr31 (fun _=>0))
 refine lrc ?_ ?_
 intro v e;subst e;cases sj h;rfl
 intro x39 a38 e;subst e
 dsimp only at h
 conv=>lhs;whnf
 revert h
 refine br ?_ ?_
 refine ca hc (fun _ h=>ok_ref04_state_sign h) ?_;intro y41
 intro h;cases sj h
 try simp only [ls]
 exact fq (y:=some (AV.agg [iA v1_kind,AV.sl 5 (List.take (List.length x39) (List.drop 0 (List.map c_api_Node x39))),iA x1.f_At],[Ob.var 65 [AV.sl 4 (List.map c_api_Token s_l),iA y41.1,iA y41.2.1,iA y41.2.2]]))
 refine ca hc (fun _ h=>ok_ref04_state_sign h) ?_;intro y43
 intro h;cases sj h
 try simp only [ls]
 exact fq (y:=some (AV.agg [iA v1_kind,AV.sl 5 (List.take (List.length x39) (List.drop 0 (List.map c_api_Node x39))),iA x1.f_At],[Ob.var 65 [AV.sl 4 (List.map c_api_Token s_l),iA y43.1,iA y43.2.1,iA y43.2.2]]))
theorem ok_ref04_state_key {n:Nat} ⦃v1_w:(List UInt8)⦄ ⦃s_l:(List S_api_Token)⦄ ⦃s_i:Int⦄ ⦃s_e:Int⦄ ⦃s_at:Int⦄ ⦃r:Bool⦄:m_ref04_state_key n v1_w s_l s_i s_e s_at=some r→CN n 26 [AV.ptr 0 0,sA v1_w] [Ob.var 65 [AV.sl 4 (List.map c_api_Token s_l),iA s_i,iA s_e,iA s_at]]=some (bA r,[Ob.var 65 [AV.sl 4 (List.map c_api_Token s_l),iA s_i,iA s_e,iA s_at]]):=by
 intro h;rcases n with _|n;cases h
 rw [m_ref04_state_key] at h
 refine callN_eq' Tryz.func26 (by rfl) rfl rfl (Nat.le_of_ble_eq_true rfl) ?_
 intro call hc;conv=>lhs;whnf
 revert h
 refine br ?_ ?_
 refine br ?_ ?_
 refine ix ?_;intro x3
 refine br ?_ ?_
 refine ix ?_;intro x5
 exact rz
 exact rz
 exact rz
 exact rz
theorem ok_ref04_word {n:Nat} ⦃v0_kind:Int⦄ ⦃r:(List UInt8)⦄:m_ref04_word n v0_kind=some r→CN n 42 [iA v0_kind] []=some (sA r,[]):=by
 intro h;rcases n with _|n;cases h
 rw [m_ref04_word] at h
 refine callN_eq' Tryz.func42 (by rfl) rfl rfl (Nat.le_of_ble_eq_true rfl) ?_
 intro call hc;conv=>lhs;whnf
 revert h
 intro h
 refine bind_some2 h ?_;clear h;intro x1 hx1 h
 refine bif_pos (by first|exact idx_in hx1|(have q:=idx_in hx1;exact q)) ?_
 simp only [(show nth? ([[sA (([]:List UInt8))],[sA (([102,111,114,97,108,108]:List UInt8))],[sA (([101,120,105,115,116,115]:List UInt8))],[sA (([97,108,119,97,121,115]:List UInt8))]]:List (List AV)) v0_kind.toNat=some (encS x1) from idx_nth (f:=encS) hx1),ls]
 conv=>lhs;whnf
 revert h
 exact rz
theorem ok_ref04_state_kind {n:Nat} ⦃s_l:(List S_api_Token)⦄ ⦃s_i:Int⦄ ⦃s_e:Int⦄ ⦃s_at:Int⦄ ⦃r:Int⦄:m_ref04_state_kind n s_l s_i s_e s_at=some r→CN n 32 [AV.ptr 0 0] [Ob.var 65 [AV.sl 4 (List.map c_api_Token s_l),iA s_i,iA s_e,iA s_at]]=some (iA r,[Ob.var 65 [AV.sl 4 (List.map c_api_Token s_l),iA s_i,iA s_e,iA s_at]]):=by
 intro h;rcases n with _|n;cases h
 rw [m_ref04_state_kind] at h
 refine callN_eq' Tryz.func32 (by rfl) rfl rfl (Nat.le_of_ble_eq_true rfl) ?_
 intro call hc;conv=>lhs;whnf
 revert h
 intro h;refine bind_some2 h ?_;clear h;intro o9 ho9 h
 refine lq (σ:=Int) (τ:=Unit) (ν:=Int) 0 (fun s1 a3=>stOf 13 [(0,AV.ptr 0 0),(3,iA s1)]) (fun s1 a3=>[Ob.var 65 [AV.sl 4 (List.map c_api_Token s_l),iA s_i,iA s_e,iA s_at]]) (fun _ a16=>stOf 13 []) (fun _ a16=>[Ob.var 65 [AV.sl 4 (List.map c_api_Token s_l),iA s_i,iA s_e,iA s_at]]) (fun v=>(iA v,[Ob.var 65 [AV.sl 4 (List.map c_api_Token s_l),iA s_i,iA s_e,iA s_at]])) (fun k s=>ref04_state_kind_L0 n s_l s_i s_e s_at k s) (fun s=>rfl) o9 n 1 (fun _=>0) ho9 ?_ ?_
 intro k2 s1 a3 K4 cont5 hK6 hcont7 h hr8
 replace h:ref04_state_kind_L0 n s_l s_i s_e s_at (k2+1) s1=some o9:=h
 rw [ref04_state_kind_L0] at h
 conv=>lhs;whnf
 revert h
 refine br ?_ ?_
 refine ca hc (fun _ h=>ok_ref04_word h) ?_;intro y11
 refine ca hc (fun _ h=>ok_ref04_state_key h) ?_;intro y13
 refine br ?_ ?_
 intro h;cases sj h
 refine (hK6 _ _).trans ?_
 refine Eq.trans ?_ (Eq.symm (show _=some _ from hr8))
 conv=>lhs;whnf
 exact rq
 exact fun h=>cq (hcont7 (IntKind.i64.wrap (s1+1)) (fun _=>0) h)
 intro h;cases sj h
 exact kq (hr8 (fun _=>0))
 refine lrc ?_ ?_
 intro v e;subst e;cases sj h;rfl
 intro t a16 e;subst e
 dsimp only at h
 conv=>lhs;whnf
 revert h
 exact rz
theorem ok_ref04_state_name {n:Nat} ⦃s_l:(List S_api_Token)⦄ ⦃s_i:Int⦄ ⦃s_e:Int⦄ ⦃s_at:Int⦄ ⦃r:((List UInt8)×Int×Int×Int)⦄:m_ref04_state_name n s_l s_i s_e s_at=some r→CN n 30 [AV.ptr 0 0] [Ob.var 65 [AV.sl 4 (List.map c_api_Token s_l),iA s_i,iA s_e,iA s_at]]=some (sA r.1,[Ob.var 65 [AV.sl 4 (List.map c_api_Token s_l),iA r.2.1,iA r.2.2.1,iA r.2.2.2]]):=by
 intro h;rcases n with _|n;cases h
 rw [m_ref04_state_name] at h
 refine callN_eq' Tryz.func30 (by rfl) rfl rfl (Nat.le_of_ble_eq_true rfl) ?_
 intro call hc;conv=>lhs;whnf
 revert h
 refine br ?_ ?_
 refine ca hc (fun _ h=>ok_ref03_Name h) ?_;intro y2
 refine br ?_ ?_
 refine ix ?_;intro x5
 exact rz
 refine ca hc (fun _ h=>ok_ref04_state_wrong h) ?_;intro y6
 exact rz
 refine ca hc (fun _ h=>ok_ref04_state_wrong h) ?_;intro y8
 exact rz
theorem ok_ref04_state_number {n:Nat} ⦃s_l:(List S_api_Token)⦄ ⦃s_i:Int⦄ ⦃s_e:Int⦄ ⦃s_at:Int⦄ ⦃r:(Int×Int×Int×Int)⦄:m_ref04_state_number n s_l s_i s_e s_at=some r→CN n 28 [AV.ptr 0 0] [Ob.var 65 [AV.sl 4 (List.map c_api_Token s_l),iA s_i,iA s_e,iA s_at]]=some (iA r.1,[Ob.var 65 [AV.sl 4 (List.map c_api_Token s_l),iA r.2.1,iA r.2.2.1,iA r.2.2.2]]):=by
 intro h;rcases n with _|n;cases h
 rw [m_ref04_state_number] at h
 refine callN_eq' Tryz.func28 (by rfl) rfl rfl (Nat.le_of_ble_eq_true rfl) ?_
 intro call hc;conv=>lhs;whnf
 revert h
 refine br ?_ ?_
 refine br ?_ ?_
 refine ix ?_;intro x3
 refine br ?_ ?_
 refine ix ?_;intro x5
 exact rz
 refine ca hc (fun _ h=>ok_ref04_state_wrong h) ?_;intro y6
 exact rz
 refine ca hc (fun _ h=>ok_ref04_state_wrong h) ?_;intro y8
 exact rz
 refine ca hc (fun _ h=>ok_ref04_state_wrong h) ?_;intro y10
 exact rz
theorem ok_ref04_state_thread {n:Nat} ⦃s_l:(List S_api_Token)⦄ ⦃s_i:Int⦄ ⦃s_e:Int⦄ ⦃s_at:Int⦄ ⦃r:(S_api_Thread×Int×Int×Int)⦄:m_ref04_state_thread n s_l s_i s_e s_at=some r→CN n 31 [AV.ptr 0 0] [Ob.var 65 [AV.sl 4 (List.map c_api_Token s_l),iA s_i,iA s_e,iA s_at]]=some (AV.agg [sA r.1.f_Name,AV.sl 1 (List.map encS r.1.f_Regs),AV.sl 9 (List.map c_api_Stmt r.1.f_Body),iA r.1.f_At],[Ob.var 65 [AV.sl 4 (List.map c_api_Token s_l),iA r.2.1,iA r.2.2.1,iA r.2.2.2]]):=by
 intro h;rcases n with _|n;cases h
 rw [m_ref04_state_thread] at h
 refine callN_eq' Tryz.func31 (by rfl) rfl rfl (Nat.le_of_ble_eq_true rfl) ?_
 intro call hc;conv=>lhs;whnf
 revert h
 refine ix ?_;intro x1
 refine ca hc (fun _ h=>ok_ref04_state_name h) ?_;intro y2
 refine ca hc (fun _ h=>ok_ref04_state_sign h) ?_;intro y4
 refine ca hc (fun _ h=>ok_ref04_state_key h) ?_;intro y6
 refine br ?_ ?_
 refine ca hc (fun _ h=>ok_ref04_state_name h) ?_;intro y9
 intro h;refine bind_some2 h ?_;clear h;intro o22 ho22 h
 refine lq (σ:=(Int×Int×Int×(List (List UInt8)))) (τ:=(Int×Int×Int×(List (List UInt8)))) (ν:=(S_api_Thread×Int×Int×Int)) 0 (fun (s11,s12,s13,s14) a16=>stOf 112 [(0,AV.ptr 0 0),(2,AV.ptr 1 0),(3,AV.ptr 2 0)]) (fun (s11,s12,s13,s14) a16=>[Ob.var 65 [AV.sl 4 (List.map c_api_Token s_l),iA s11,iA s12,iA s13],Ob.var 52 [sA (([]:List UInt8)),AV.nils,AV.nils,iA (0)],Ob.var 52 [sA y2.1,AV.row 3 (List.length s14),AV.nils,iA x1.f_At],Ob.row 9 1 (List.map encS s14)]) (fun (x32,x33,x34,x35) a31=>stOf 112 [(0,AV.ptr 0 0),(2,AV.ptr 1 0),(3,AV.ptr 2 0)]) (fun (x32,x33,x34,x35) a31=>[Ob.var 65 [AV.sl 4 (List.map c_api_Token s_l),iA x32,iA x33,iA x34],Ob.var 52 [sA (([]:List UInt8)),AV.nils,AV.nils,iA (0)],Ob.var 52 [sA y2.1,AV.row 3 (List.length x35),AV.nils,iA x1.f_At],Ob.row 9 1 (List.map encS x35)]) (fun v=>(AV.agg [sA v.1.f_Name,AV.sl 1 (List.map encS v.1.f_Regs),AV.sl 9 (List.map c_api_Stmt v.1.f_Body),iA v.1.f_At],[Ob.var 65 [AV.sl 4 (List.map c_api_Token s_l),iA v.2.1,iA v.2.2.1,iA v.2.2.2]])) (fun k s=>ref04_state_thread_L0 n s_l k s.1 s.2.1 s.2.2.1 s.2.2.2) (fun s=>rfl) o22 n (y9.2.1,y9.2.2.1,y9.2.2.2,([y9.1]:List (List UInt8))) (fun _=>0) ho22 ?_ ?_
 intro k15 ss a16 K17 cont18 hK19 hcont20 h hr21
 obtain ⟨s11,s12,s13,s14⟩:=ss
 replace h:ref04_state_thread_L0 n s_l (k15+1) s11 s12 s13 s14=some o22:=h
 rw [ref04_state_thread_L0] at h
 conv=>lhs;whnf
 revert h
 refine br ?_ ?_
 refine ca hc (fun _ h=>ok_ref02_Is h) ?_;intro y24
 refine br ?_ ?_
 refine ca hc (fun _ h=>ok_ref04_state_name h) ?_;intro y27
 refine ar (ap encS (List.map encS s14) s14 ([[sA y27.1]]) ([y27.1]:List (List UInt8))) ?_
 exact fun h=>cq (hcont20 (y27.2.1,y27.2.2.1,y27.2.2.2,(s14++([y27.1]:List (List UInt8)))) (fun _=>0) h)
 intro h;cases sj h
 exact kq (hr21 (fun _=>0))
 intro h;cases sj h
 exact kq (hr21 (fun _=>0))
 refine lrc ?_ ?_
 intro v e;subst e;cases sj h;rfl
 intro t a31 e;subst e
 obtain ⟨x32,x33,x34,x35⟩:=t
 dsimp only at h
 conv=>lhs;whnf
 revert h
 refine ca hc (fun _ h=>ok_ref04_state_sign h) ?_;intro y36
 refine br ?_ ?_
 refine ca hc (fun _ h=>ok_ref03_Parse h) ?_;intro y39
 refine ca hc (fun _ h=>ok_ref04_state_fault h) ?_;intro y41
 refine ca hc (fun _ h=>ok_ref04_state_sign h) ?_;intro y43
 intro h;cases sj h
 try simp only [ls]
 exact fq (y:=some (AV.agg [sA y2.1,AV.sl 1 (List.take (List.length x35) (List.map encS x35)),AV.sl 9 (List.map c_api_Stmt y39.1),iA x1.f_At],[Ob.var 65 [AV.sl 4 (List.map c_api_Token s_l),iA y43.1,iA y43.2.1,iA y43.2.2]]))
 refine ca hc (fun _ h=>ok_ref04_state_sign h) ?_;intro y45
 intro h;cases sj h
 try simp only [ls]
 exact fq (y:=some (AV.agg [sA y2.1,AV.sl 1 (List.take (List.length x35) (List.map encS x35)),AV.sl 9 [],iA x1.f_At],[Ob.var 65 [AV.sl 4 (List.map c_api_Token s_l),iA y45.1,iA y45.2.1,iA y45.2.2]]))
 refine br ?_ ?_
 refine ca hc (fun _ h=>ok_ref03_Parse h) ?_;intro y49
 refine ca hc (fun _ h=>ok_ref04_state_fault h) ?_;intro y51
 refine ca hc (fun _ h=>ok_ref04_state_sign h) ?_;intro y53
 exact rz
 refine ca hc (fun _ h=>ok_ref04_state_sign h) ?_;intro y55
 exact rz
theorem ok_ref04_Parse {n:Nat} ⦃v0_text:(List UInt8)⦄ ⦃r:(S_api_Prog×Int×Int)⦄:m_ref04_Parse n v0_text=some r→CN n 7 [sA v0_text] []=some (AV.tup [AV.agg [iA r.1.f_Mod,AV.sl 3 (List.map c_api_Var r.1.f_Locs),AV.sl 4 (List.map c_api_Thread r.1.f_Threads),AV.sl 3 (List.map c_api_Claim r.1.f_Claims)],iA r.2.1,iA r.2.2],[]):=by
 intro h;rcases n with _|n;cases h
 rw [m_ref04_Parse] at h
 refine callN_eq' Tryz.func7 (by rfl) rfl rfl (Nat.le_of_ble_eq_true rfl) ?_
 intro call hc;conv=>lhs;whnf
 revert h
 refine ca hc (fun _ h=>ok_ref01_Scan h) ?_;intro y1
 refine br ?_ ?_
 exact rz
 refine ca hc (fun _ h=>ok_ref04_state_key h) ?_;intro y4
 refine br ?_ ?_
 refine ca hc (fun _ h=>ok_ref04_state_number h) ?_;intro y7
 refine ca hc (fun _ h=>ok_ref04_state_sign h) ?_;intro y9
 intro h;refine bind_some2 h ?_;clear h;intro o22 ho22 h
 refine lq (σ:=(Int×Int×Int×(List S_api_Var))) (τ:=(Int×Int×Int×(List S_api_Var))) (ν:=(S_api_Prog×Int×Int)) 0 (fun (s11,s12,s13,s14) a16=>stOf 125 [(2,AV.ptr 0 0),(5,AV.sl 4 (List.map c_api_Token y1.1)),(8,AV.ptr 1 0),(9,AV.ptr 2 0)]) (fun (s11,s12,s13,s14) a16=>[Ob.var 26 [iA (0),AV.row 3 (List.length (([]:List S_api_Var))),AV.row 4 (List.length (([]:List S_api_Thread))),AV.row 5 (List.length (([]:List S_api_Claim)))],Ob.var 65 [AV.sl 4 (List.map c_api_Token y1.1),iA s11,iA s12,iA s13],Ob.var 26 [iA y7.1,AV.row 6 (List.length s14),AV.row 7 (List.length (([]:List S_api_Thread))),AV.row 8 (List.length (([]:List S_api_Claim)))],Ob.row 48 3 ([]),Ob.row 52 4 ([]),Ob.row 57 3 ([]),Ob.row 48 3 (List.map c_api_Var s14),Ob.row 52 4 ([]),Ob.row 57 3 ([])]) (fun (x38,x39,x40,x41) a37=>stOf 125 [(2,AV.ptr 0 0),(5,AV.sl 4 (List.map c_api_Token y1.1)),(8,AV.ptr 1 0),(9,AV.ptr 2 0)]) (fun (x38,x39,x40,x41) a37=>[Ob.var 26 [iA (0),AV.row 3 (List.length (([]:List S_api_Var))),AV.row 4 (List.length (([]:List S_api_Thread))),AV.row 5 (List.length (([]:List S_api_Claim)))],Ob.var 65 [AV.sl 4 (List.map c_api_Token y1.1),iA x38,iA x39,iA x40],Ob.var 26 [iA y7.1,AV.row 6 (List.length x41),AV.row 7 (List.length (([]:List S_api_Thread))),AV.row 8 (List.length (([]:List S_api_Claim)))],Ob.row 48 3 ([]),Ob.row 52 4 ([]),Ob.row 57 3 ([]),Ob.row 48 3 (List.map c_api_Var x41),Ob.row 52 4 ([]),Ob.row 57 3 ([])]) (fun v=>(AV.tup [AV.agg [iA v.1.f_Mod,AV.sl 3 (List.map c_api_Var v.1.f_Locs),AV.sl 4 (List.map c_api_Thread v.1.f_Threads),AV.sl 3 (List.map c_api_Claim v.1.f_Claims)],iA v.2.1,iA v.2.2],[])) (fun k s=>ref04_Parse_L0 n y1 k s.1 s.2.1 s.2.2.1 s.2.2.2) (fun s=>rfl) o22 n (y9.1,y9.2.1,y9.2.2,([]:List S_api_Var)) (fun _=>0) ho22 ?_ ?_
 intro k15 ss a16 K17 cont18 hK19 hcont20 h hr21
 obtain ⟨s11,s12,s13,s14⟩:=ss
 replace h:ref04_Parse_L0 n y1 (k15+1) s11 s12 s13 s14=some o22:=h
 rw [ref04_Parse_L0] at h
 conv=>lhs;whnf
 revert h
 refine ca hc (fun _ h=>ok_ref04_state_key h) ?_;intro y23
 refine br ?_ ?_
 refine ix ?_;intro x26
 refine ca hc (fun _ h=>ok_ref04_state_name h) ?_;intro y27
 refine ca hc (fun _ h=>ok_ref04_state_sign h) ?_;intro y29
 refine ca hc (fun _ h=>ok_ref04_state_number h) ?_;intro y31
 refine ca hc (fun _ h=>ok_ref04_state_sign h) ?_;intro y33
 refine ar (ap c_api_Var (List.map c_api_Var s14) s14 ([[sA y27.1,iA y31.1,iA x26.f_At]]) ([(⟨y27.1,y31.1,x26.f_At⟩:S_api_Var)]:List S_api_Var)) ?_
 exact fun h=>cq (hcont20 (y33.1,y33.2.1,y33.2.2,(s14++([(⟨y27.1,y31.1,x26.f_At⟩:S_api_Var)]:List S_api_Var))) (fun _=>0) h)
 intro h;cases sj h
 exact kq (hr21 (fun _=>0))
 refine lrc ?_ ?_
 intro v e;subst e;cases sj h;rfl
 intro t a37 e;subst e
 obtain ⟨x38,x39,x40,x41⟩:=t
 dsimp only at h
 conv=>lhs;whnf
 revert h
 intro h;refine bind_some2 h ?_;clear h;intro o53 ho53 h
 refine lq (σ:=(Int×Int×Int×(List S_api_Thread))) (τ:=(Int×Int×Int×(List S_api_Thread))) (ν:=(S_api_Prog×Int×Int)) 2 (fun (s42,s43,s44,s45) a47=>stOf 125 [(2,AV.ptr 0 0),(5,AV.sl 4 (List.map c_api_Token y1.1)),(8,AV.ptr 1 0),(9,AV.ptr 2 0)]) (fun (s42,s43,s44,s45) a47=>[Ob.var 26 [iA (0),AV.row 3 (List.length (([]:List S_api_Var))),AV.row 4 (List.length (([]:List S_api_Thread))),AV.row 5 (List.length (([]:List S_api_Claim)))],Ob.var 65 [AV.sl 4 (List.map c_api_Token y1.1),iA s42,iA s43,iA s44],Ob.var 26 [iA y7.1,AV.row 6 (List.length x41),AV.row 7 (List.length s45),AV.row 8 (List.length (([]:List S_api_Claim)))],Ob.row 48 3 ([]),Ob.row 52 4 ([]),Ob.row 57 3 ([]),Ob.row 48 3 (List.map c_api_Var x41),Ob.row 52 4 (List.map c_api_Thread s45),Ob.row 57 3 ([])]) (fun (x62,x63,x64,x65) a61=>stOf 125 [(2,AV.ptr 0 0),(5,AV.sl 4 (List.map c_api_Token y1.1)),(8,AV.ptr 1 0),(9,AV.ptr 2 0)]) (fun (x62,x63,x64,x65) a61=>[Ob.var 26 [iA (0),AV.row 3 (List.length (([]:List S_api_Var))),AV.row 4 (List.length (([]:List S_api_Thread))),AV.row 5 (List.length (([]:List S_api_Claim)))],Ob.var 65 [AV.sl 4 (List.map c_api_Token y1.1),iA x62,iA x63,iA x64],Ob.var 26 [iA y7.1,AV.row 6 (List.length x41),AV.row 7 (List.length x65),AV.row 8 (List.length (([]:List S_api_Claim)))],Ob.row 48 3 ([]),Ob.row 52 4 ([]),Ob.row 57 3 ([]),Ob.row 48 3 (List.map c_api_Var x41),Ob.row 52 4 (List.map c_api_Thread x65),Ob.row 57 3 ([])]) (fun v=>(AV.tup [AV.agg [iA v.1.f_Mod,AV.sl 3 (List.map c_api_Var v.1.f_Locs),AV.sl 4 (List.map c_api_Thread v.1.f_Threads),AV.sl 3 (List.map c_api_Claim v.1.f_Claims)],iA v.2.1,iA v.2.2],[])) (fun k s=>ref04_Parse_L1 n y1 k s.1 s.2.1 s.2.2.1 s.2.2.2) (fun s=>rfl) o53 n (x38,x39,x40,([]:List S_api_Thread)) (fun _=>0) ho53 ?_ ?_
 intro k46 ss a47 K48 cont49 hK50 hcont51 h hr52
 obtain ⟨s42,s43,s44,s45⟩:=ss
 replace h:ref04_Parse_L1 n y1 (k46+1) s42 s43 s44 s45=some o53:=h
 rw [ref04_Parse_L1] at h
 conv=>lhs;whnf
 revert h
 refine ca hc (fun _ h=>ok_ref04_state_key h) ?_;intro y54
 refine br ?_ ?_
 refine ca hc (fun _ h=>ok_ref04_state_thread h) ?_;intro y57
 refine ar (ap c_api_Thread (List.map c_api_Thread s45) s45 ([[sA y57.1.f_Name,AV.sl 1 (List.map encS y57.1.f_Regs),AV.sl 9 (List.map c_api_Stmt y57.1.f_Body),iA y57.1.f_At]]) ([y57.1]:List S_api_Thread)) ?_
 exact fun h=>cq (hcont51 (y57.2.1,y57.2.2.1,y57.2.2.2,(s45++([y57.1]:List S_api_Thread))) (fun _=>0) h)
 intro h;cases sj h
 exact kq (hr52 (fun _=>0))
 refine lrc ?_ ?_
 intro v e;subst e;cases sj h;rfl
 intro t a61 e;subst e
 obtain ⟨x62,x63,x64,x65⟩:=t
 dsimp only at h
 conv=>lhs;whnf
 revert h
 intro h;refine bind_some2 h ?_;clear h;intro o77 ho77 h
 refine lq (σ:=(Int×Int×Int×(List S_api_Claim))) (τ:=(Int×Int×Int×(List S_api_Claim))) (ν:=(S_api_Prog×Int×Int)) 4 (fun (s66,s67,s68,s69) a71=>stOf 125 [(2,AV.ptr 0 0),(5,AV.sl 4 (List.map c_api_Token y1.1)),(8,AV.ptr 1 0),(9,AV.ptr 2 0)]) (fun (s66,s67,s68,s69) a71=>[Ob.var 26 [iA (0),AV.row 3 (List.length (([]:List S_api_Var))),AV.row 4 (List.length (([]:List S_api_Thread))),AV.row 5 (List.length (([]:List S_api_Claim)))],Ob.var 65 [AV.sl 4 (List.map c_api_Token y1.1),iA s66,iA s67,iA s68],Ob.var 26 [iA y7.1,AV.row 6 (List.length x41),AV.row 7 (List.length x65),AV.row 8 (List.length s69)],Ob.row 48 3 ([]),Ob.row 52 4 ([]),Ob.row 57 3 ([]),Ob.row 48 3 (List.map c_api_Var x41),Ob.row 52 4 (List.map c_api_Thread x65),Ob.row 57 3 (List.map c_api_Claim s69)]) (fun (x88,x89,x90,x91) a87=>stOf 125 [(2,AV.ptr 0 0),(5,AV.sl 4 (List.map c_api_Token y1.1)),(8,AV.ptr 1 0),(9,AV.ptr 2 0)]) (fun (x88,x89,x90,x91) a87=>[Ob.var 26 [iA (0),AV.row 3 (List.length (([]:List S_api_Var))),AV.row 4 (List.length (([]:List S_api_Thread))),AV.row 5 (List.length (([]:List S_api_Claim)))],Ob.var 65 [AV.sl 4 (List.map c_api_Token y1.1),iA x88,iA x89,iA x90],Ob.var 26 [iA y7.1,AV.row 6 (List.length x41),AV.row 7 (List.length x65),AV.row 8 (List.length x91)],Ob.row 48 3 ([]),Ob.row 52 4 ([]),Ob.row 57 3 ([]),Ob.row 48 3 (List.map c_api_Var x41),Ob.row 52 4 (List.map c_api_Thread x65),Ob.row 57 3 (List.map c_api_Claim x91)]) (fun v=>(AV.tup [AV.agg [iA v.1.f_Mod,AV.sl 3 (List.map c_api_Var v.1.f_Locs),AV.sl 4 (List.map c_api_Thread v.1.f_Threads),AV.sl 3 (List.map c_api_Claim v.1.f_Claims)],iA v.2.1,iA v.2.2],[])) (fun k s=>ref04_Parse_L2 n y1 k s.1 s.2.1 s.2.2.1 s.2.2.2) (fun s=>rfl) o77 n (x62,x63,x64,([]:List S_api_Claim)) (fun _=>0) ho77 ?_ ?_
 intro k70 ss a71 K72 cont73 hK74 hcont75 h hr76
 obtain ⟨s66,s67,s68,s69⟩:=ss
 replace h:ref04_Parse_L2 n y1 (k70+1) s66 s67 s68 s69=some o77:=h
 rw [ref04_Parse_L2] at h
 conv=>lhs;whnf
 revert h
 refine ca hc (fun _ h=>ok_ref04_state_kind h) ?_;intro y78
 refine br ?_ ?_
 refine ca hc (fun _ h=>ok_ref04_state_kind h) ?_;intro y81
 refine ca hc (fun _ h=>ok_ref04_state_claim h) ?_;intro y83
 refine ar (ap c_api_Claim (List.map c_api_Claim s69) s69 ([[iA y83.1.f_Kind,AV.sl 5 (List.map c_api_Node y83.1.f_E),iA y83.1.f_At]]) ([y83.1]:List S_api_Claim)) ?_
 exact fun h=>cq (hcont75 (y83.2.1,y83.2.2.1,y83.2.2.2,(s69++([y83.1]:List S_api_Claim))) (fun _=>0) h)
 intro h;cases sj h
 exact kq (hr76 (fun _=>0))
 refine lrc ?_ ?_
 intro v e;subst e;cases sj h;rfl
 intro t a87 e;subst e
 obtain ⟨x88,x89,x90,x91⟩:=t
 dsimp only at h
 conv=>lhs;whnf
 revert h
 refine br ?_ ?_
 refine ca hc (fun _ h=>ok_ref04_state_wrong h) ?_;intro y93
 refine br ?_ ?_
 exact rz
 intro h;cases sj h
 try simp only [ls]
 exact fq (y:=some (AV.tup [AV.agg [iA y7.1,AV.sl 3 (List.take (List.length x41) (List.map c_api_Var x41)),AV.sl 4 (List.take (List.length x65) (List.map c_api_Thread x65)),AV.sl 3 (List.take (List.length x91) (List.map c_api_Claim x91))],iA (0),iA (0)],[]))
 refine br ?_ ?_
 exact rz
 intro h;cases sj h
 try simp only [ls]
 exact fq (y:=some (AV.tup [AV.agg [iA y7.1,AV.sl 3 (List.take (List.length x41) (List.map c_api_Var x41)),AV.sl 4 (List.take (List.length x65) (List.map c_api_Thread x65)),AV.sl 3 (List.take (List.length x91) (List.map c_api_Claim x91))],iA (0),iA (0)],[]))
 refine ca hc (fun _ h=>ok_ref04_state_wrong h) ?_;intro y100
 refine ca hc (fun _ h=>ok_ref04_state_number h) ?_;intro y102
 refine ca hc (fun _ h=>ok_ref04_state_sign h) ?_;intro y104
 intro h;refine bind_some2 h ?_;clear h;intro o117 ho117 h
 refine lq (σ:=(Int×Int×Int×(List S_api_Var))) (τ:=(Int×Int×Int×(List S_api_Var))) (ν:=(S_api_Prog×Int×Int)) 0 (fun (s106,s107,s108,s109) a111=>stOf 125 [(2,AV.ptr 0 0),(5,AV.sl 4 (List.map c_api_Token y1.1)),(8,AV.ptr 1 0),(9,AV.ptr 2 0)]) (fun (s106,s107,s108,s109) a111=>[Ob.var 26 [iA (0),AV.row 3 (List.length (([]:List S_api_Var))),AV.row 4 (List.length (([]:List S_api_Thread))),AV.row 5 (List.length (([]:List S_api_Claim)))],Ob.var 65 [AV.sl 4 (List.map c_api_Token y1.1),iA s106,iA s107,iA s108],Ob.var 26 [iA y102.1,AV.row 6 (List.length s109),AV.row 7 (List.length (([]:List S_api_Thread))),AV.row 8 (List.length (([]:List S_api_Claim)))],Ob.row 48 3 ([]),Ob.row 52 4 ([]),Ob.row 57 3 ([]),Ob.row 48 3 (List.map c_api_Var s109),Ob.row 52 4 ([]),Ob.row 57 3 ([])]) (fun (x133,x134,x135,x136) a132=>stOf 125 [(2,AV.ptr 0 0),(5,AV.sl 4 (List.map c_api_Token y1.1)),(8,AV.ptr 1 0),(9,AV.ptr 2 0)]) (fun (x133,x134,x135,x136) a132=>[Ob.var 26 [iA (0),AV.row 3 (List.length (([]:List S_api_Var))),AV.row 4 (List.length (([]:List S_api_Thread))),AV.row 5 (List.length (([]:List S_api_Claim)))],Ob.var 65 [AV.sl 4 (List.map c_api_Token y1.1),iA x133,iA x134,iA x135],Ob.var 26 [iA y102.1,AV.row 6 (List.length x136),AV.row 7 (List.length (([]:List S_api_Thread))),AV.row 8 (List.length (([]:List S_api_Claim)))],Ob.row 48 3 ([]),Ob.row 52 4 ([]),Ob.row 57 3 ([]),Ob.row 48 3 (List.map c_api_Var x136),Ob.row 52 4 ([]),Ob.row 57 3 ([])]) (fun v=>(AV.tup [AV.agg [iA v.1.f_Mod,AV.sl 3 (List.map c_api_Var v.1.f_Locs),AV.sl 4 (List.map c_api_Thread v.1.f_Threads),AV.sl 3 (List.map c_api_Claim v.1.f_Claims)],iA v.2.1,iA v.2.2],[])) (fun k s=>ref04_Parse_L3 n y1 k s.1 s.2.1 s.2.2.1 s.2.2.2) (fun s=>rfl) o117 n (y104.1,y104.2.1,y104.2.2,([]:List S_api_Var)) (fun _=>0) ho117 ?_ ?_
 intro k110 ss a111 K112 cont113 hK114 hcont115 h hr116
 obtain ⟨s106,s107,s108,s109⟩:=ss
 replace h:ref04_Parse_L3 n y1 (k110+1) s106 s107 s108 s109=some o117:=h
 rw [ref04_Parse_L3] at h
 conv=>lhs;whnf
 revert h
 refine ca hc (fun _ h=>ok_ref04_state_key h) ?_;intro y118
 refine br ?_ ?_
 refine ix ?_;intro x121
 refine ca hc (fun _ h=>ok_ref04_state_name h) ?_;intro y122
 refine ca hc (fun _ h=>ok_ref04_state_sign h) ?_;intro y124
 refine ca hc (fun _ h=>ok_ref04_state_number h) ?_;intro y126
 refine ca hc (fun _ h=>ok_ref04_state_sign h) ?_;intro y128
 refine ar (ap c_api_Var (List.map c_api_Var s109) s109 ([[sA y122.1,iA y126.1,iA x121.f_At]]) ([(⟨y122.1,y126.1,x121.f_At⟩:S_api_Var)]:List S_api_Var)) ?_
 exact fun h=>cq (hcont115 (y128.1,y128.2.1,y128.2.2,(s109++([(⟨y122.1,y126.1,x121.f_At⟩:S_api_Var)]:List S_api_Var))) (fun _=>0) h)
 intro h;cases sj h
 exact kq (hr116 (fun _=>0))
 refine lrc ?_ ?_
 intro v e;subst e;cases sj h;rfl
 intro t a132 e;subst e
 obtain ⟨x133,x134,x135,x136⟩:=t
 dsimp only at h
 conv=>lhs;whnf
 revert h
 intro h;refine bind_some2 h ?_;clear h;intro o148 ho148 h
 refine lq (σ:=(Int×Int×Int×(List S_api_Thread))) (τ:=(Int×Int×Int×(List S_api_Thread))) (ν:=(S_api_Prog×Int×Int)) 2 (fun (s137,s138,s139,s140) a142=>stOf 125 [(2,AV.ptr 0 0),(5,AV.sl 4 (List.map c_api_Token y1.1)),(8,AV.ptr 1 0),(9,AV.ptr 2 0)]) (fun (s137,s138,s139,s140) a142=>[Ob.var 26 [iA (0),AV.row 3 (List.length (([]:List S_api_Var))),AV.row 4 (List.length (([]:List S_api_Thread))),AV.row 5 (List.length (([]:List S_api_Claim)))],Ob.var 65 [AV.sl 4 (List.map c_api_Token y1.1),iA s137,iA s138,iA s139],Ob.var 26 [iA y102.1,AV.row 6 (List.length x136),AV.row 7 (List.length s140),AV.row 8 (List.length (([]:List S_api_Claim)))],Ob.row 48 3 ([]),Ob.row 52 4 ([]),Ob.row 57 3 ([]),Ob.row 48 3 (List.map c_api_Var x136),Ob.row 52 4 (List.map c_api_Thread s140),Ob.row 57 3 ([])]) (fun (x157,x158,x159,x160) a156=>stOf 125 [(2,AV.ptr 0 0),(5,AV.sl 4 (List.map c_api_Token y1.1)),(8,AV.ptr 1 0),(9,AV.ptr 2 0)]) (fun (x157,x158,x159,x160) a156=>[Ob.var 26 [iA (0),AV.row 3 (List.length (([]:List S_api_Var))),AV.row 4 (List.length (([]:List S_api_Thread))),AV.row 5 (List.length (([]:List S_api_Claim)))],Ob.var 65 [AV.sl 4 (List.map c_api_Token y1.1),iA x157,iA x158,iA x159],Ob.var 26 [iA y102.1,AV.row 6 (List.length x136),AV.row 7 (List.length x160),AV.row 8 (List.length (([]:List S_api_Claim)))],Ob.row 48 3 ([]),Ob.row 52 4 ([]),Ob.row 57 3 ([]),Ob.row 48 3 (List.map c_api_Var x136),Ob.row 52 4 (List.map c_api_Thread x160),Ob.row 57 3 ([])]) (fun v=>(AV.tup [AV.agg [iA v.1.f_Mod,AV.sl 3 (List.map c_api_Var v.1.f_Locs),AV.sl 4 (List.map c_api_Thread v.1.f_Threads),AV.sl 3 (List.map c_api_Claim v.1.f_Claims)],iA v.2.1,iA v.2.2],[])) (fun k s=>ref04_Parse_L4 n y1 k s.1 s.2.1 s.2.2.1 s.2.2.2) (fun s=>rfl) o148 n (x133,x134,x135,([]:List S_api_Thread)) (fun _=>0) ho148 ?_ ?_
 intro k141 ss a142 K143 cont144 hK145 hcont146 h hr147
 obtain ⟨s137,s138,s139,s140⟩:=ss
 replace h:ref04_Parse_L4 n y1 (k141+1) s137 s138 s139 s140=some o148:=h
 rw [ref04_Parse_L4] at h
 conv=>lhs;whnf
 revert h
 refine ca hc (fun _ h=>ok_ref04_state_key h) ?_;intro y149
 refine br ?_ ?_
 refine ca hc (fun _ h=>ok_ref04_state_thread h) ?_;intro y152
 refine ar (ap c_api_Thread (List.map c_api_Thread s140) s140 ([[sA y152.1.f_Name,AV.sl 1 (List.map encS y152.1.f_Regs),AV.sl 9 (List.map c_api_Stmt y152.1.f_Body),iA y152.1.f_At]]) ([y152.1]:List S_api_Thread)) ?_
 exact fun h=>cq (hcont146 (y152.2.1,y152.2.2.1,y152.2.2.2,(s140++([y152.1]:List S_api_Thread))) (fun _=>0) h)
 intro h;cases sj h
 exact kq (hr147 (fun _=>0))
 refine lrc ?_ ?_
 intro v e;subst e;cases sj h;rfl
 intro t a156 e;subst e
 obtain ⟨x157,x158,x159,x160⟩:=t
 dsimp only at h
 conv=>lhs;whnf
 revert h
 intro h;refine bind_some2 h ?_;clear h;intro o172 ho172 h
 refine lq (σ:=(Int×Int×Int×(List S_api_Claim))) (τ:=(Int×Int×Int×(List S_api_Claim))) (ν:=(S_api_Prog×Int×Int)) 4 (fun (s161,s162,s163,s164) a166=>stOf 125 [(2,AV.ptr 0 0),(5,AV.sl 4 (List.map c_api_Token y1.1)),(8,AV.ptr 1 0),(9,AV.ptr 2 0)]) (fun (s161,s162,s163,s164) a166=>[Ob.var 26 [iA (0),AV.row 3 (List.length (([]:List S_api_Var))),AV.row 4 (List.length (([]:List S_api_Thread))),AV.row 5 (List.length (([]:List S_api_Claim)))],Ob.var 65 [AV.sl 4 (List.map c_api_Token y1.1),iA s161,iA s162,iA s163],Ob.var 26 [iA y102.1,AV.row 6 (List.length x136),AV.row 7 (List.length x160),AV.row 8 (List.length s164)],Ob.row 48 3 ([]),Ob.row 52 4 ([]),Ob.row 57 3 ([]),Ob.row 48 3 (List.map c_api_Var x136),Ob.row 52 4 (List.map c_api_Thread x160),Ob.row 57 3 (List.map c_api_Claim s164)]) (fun (x183,x184,x185,x186) a182=>stOf 125 [(2,AV.ptr 0 0),(5,AV.sl 4 (List.map c_api_Token y1.1)),(8,AV.ptr 1 0),(9,AV.ptr 2 0)]) (fun (x183,x184,x185,x186) a182=>[Ob.var 26 [iA (0),AV.row 3 (List.length (([]:List S_api_Var))),AV.row 4 (List.length (([]:List S_api_Thread))),AV.row 5 (List.length (([]:List S_api_Claim)))],Ob.var 65 [AV.sl 4 (List.map c_api_Token y1.1),iA x183,iA x184,iA x185],Ob.var 26 [iA y102.1,AV.row 6 (List.length x136),AV.row 7 (List.length x160),AV.row 8 (List.length x186)],Ob.row 48 3 ([]),Ob.row 52 4 ([]),Ob.row 57 3 ([]),Ob.row 48 3 (List.map c_api_Var x136),Ob.row 52 4 (List.map c_api_Thread x160),Ob.row 57 3 (List.map c_api_Claim x186)]) (fun v=>(AV.tup [AV.agg [iA v.1.f_Mod,AV.sl 3 (List.map c_api_Var v.1.f_Locs),AV.sl 4 (List.map c_api_Thread v.1.f_Threads),AV.sl 3 (List.map c_api_Claim v.1.f_Claims)],iA v.2.1,iA v.2.2],[])) (fun k s=>ref04_Parse_L5 n y1 k s.1 s.2.1 s.2.2.1 s.2.2.2) (fun s=>rfl) o172 n (x157,x158,x159,([]:List S_api_Claim)) (fun _=>0) ho172 ?_ ?_
 intro k165 ss a166 K167 cont168 hK169 hcont170 h hr171
 obtain ⟨s161,s162,s163,s164⟩:=ss
 replace h:ref04_Parse_L5 n y1 (k165+1) s161 s162 s163 s164=some o172:=h
 rw [ref04_Parse_L5] at h
 conv=>lhs;whnf
 revert h
 refine ca hc (fun _ h=>ok_ref04_state_kind h) ?_;intro y173
 refine br ?_ ?_
 refine ca hc (fun _ h=>ok_ref04_state_kind h) ?_;intro y176
 refine ca hc (fun _ h=>ok_ref04_state_claim h) ?_;intro y178
 refine ar (ap c_api_Claim (List.map c_api_Claim s164) s164 ([[iA y178.1.f_Kind,AV.sl 5 (List.map c_api_Node y178.1.f_E),iA y178.1.f_At]]) ([y178.1]:List S_api_Claim)) ?_
 exact fun h=>cq (hcont170 (y178.2.1,y178.2.2.1,y178.2.2.2,(s164++([y178.1]:List S_api_Claim))) (fun _=>0) h)
 intro h;cases sj h
 exact kq (hr171 (fun _=>0))
 refine lrc ?_ ?_
 intro v e;subst e;cases sj h;rfl
 intro t a182 e;subst e
 obtain ⟨x183,x184,x185,x186⟩:=t
 dsimp only at h
 conv=>lhs;whnf
 revert h
 refine br ?_ ?_
 refine ca hc (fun _ h=>ok_ref04_state_wrong h) ?_;intro y188
 refine br ?_ ?_
 exact rz
 intro h;cases sj h
 try simp only [ls]
 exact fq (y:=some (AV.tup [AV.agg [iA y102.1,AV.sl 3 (List.take (List.length x136) (List.map c_api_Var x136)),AV.sl 4 (List.take (List.length x160) (List.map c_api_Thread x160)),AV.sl 3 (List.take (List.length x186) (List.map c_api_Claim x186))],iA (0),iA (0)],[]))
 refine br ?_ ?_
 exact rz
 intro h;cases sj h
 try simp only [ls]
 exact fq (y:=some (AV.tup [AV.agg [iA y102.1,AV.sl 3 (List.take (List.length x136) (List.map c_api_Var x136)),AV.sl 4 (List.take (List.length x160) (List.map c_api_Thread x160)),AV.sl 3 (List.take (List.length x186) (List.map c_api_Claim x186))],iA (0),iA (0)],[]))
theorem ok_ref04_Same {n:Nat} ⦃v0_a:S_api_Prog⦄ ⦃v1_b:S_api_Prog⦄ ⦃v2_places:Bool⦄ ⦃r:Bool⦄:m_ref04_Same n v0_a v1_b v2_places=some r→CN n 9 [AV.agg [iA v0_a.f_Mod,AV.sl 3 (List.map c_api_Var v0_a.f_Locs),AV.sl 4 (List.map c_api_Thread v0_a.f_Threads),AV.sl 3 (List.map c_api_Claim v0_a.f_Claims)],AV.agg [iA v1_b.f_Mod,AV.sl 3 (List.map c_api_Var v1_b.f_Locs),AV.sl 4 (List.map c_api_Thread v1_b.f_Threads),AV.sl 3 (List.map c_api_Claim v1_b.f_Claims)],bA v2_places] []=some (bA r,[]):=by
 intro h;rcases n with _|n;cases h
 rw [m_ref04_Same] at h
 refine callN_eq' Tryz.func9 (by rfl) rfl rfl (Nat.le_of_ble_eq_true rfl) ?_
 intro call hc;conv=>lhs;whnf
 revert h
 refine br ?_ ?_
 exact rz
 refine br ?_ ?_
 exact rz
 refine br ?_ ?_
 exact rz
 refine br ?_ ?_
 exact rz
 intro h;refine bind_some2 h ?_;clear h;intro o14 ho14 h
 refine lq (σ:=(Bool×Int)) (τ:=Bool) (ν:=Bool) 0 (fun (s5,s6) a8=>stOf 221 [(2,bA s5),(3,AV.ptr 0 0),(4,AV.ptr 1 0),(7,iA s6)]) (fun (s5,s6) a8=>[Ob.var 26 [iA v0_a.f_Mod,AV.sl 3 (List.map c_api_Var v0_a.f_Locs),AV.sl 4 (List.map c_api_Thread v0_a.f_Threads),AV.sl 3 (List.map c_api_Claim v0_a.f_Claims)],Ob.var 26 [iA v1_b.f_Mod,AV.sl 3 (List.map c_api_Var v1_b.f_Locs),AV.sl 4 (List.map c_api_Thread v1_b.f_Threads),AV.sl 3 (List.map c_api_Claim v1_b.f_Claims)]]) (fun x27 a26=>stOf 221 [(2,bA x27),(3,AV.ptr 0 0),(4,AV.ptr 1 0)]) (fun x27 a26=>[Ob.var 26 [iA v0_a.f_Mod,AV.sl 3 (List.map c_api_Var v0_a.f_Locs),AV.sl 4 (List.map c_api_Thread v0_a.f_Threads),AV.sl 3 (List.map c_api_Claim v0_a.f_Claims)],Ob.var 26 [iA v1_b.f_Mod,AV.sl 3 (List.map c_api_Var v1_b.f_Locs),AV.sl 4 (List.map c_api_Thread v1_b.f_Threads),AV.sl 3 (List.map c_api_Claim v1_b.f_Claims)]]) (fun v=>(bA v,[])) (fun k s=>ref04_Same_L0 n v0_a v1_b k s.1 s.2) (fun s=>rfl) o14 n (v2_places,0) (fun _=>0) ho14 ?_ ?_
 intro k7 ss a8 K9 cont10 hK11 hcont12 h hr13
 obtain ⟨s5,s6⟩:=ss
 replace h:ref04_Same_L0 n v0_a v1_b (k7+1) s5 s6=some o14:=h
 rw [ref04_Same_L0] at h
 conv=>lhs;whnf
 revert h
 refine br ?_ ?_
 refine ix ?_;intro x16
 refine ix ?_;intro x17
 refine br ?_ ?_
 refine ix ?_;intro x19
 refine ix ?_;intro x20
 refine br ?_ ?_
 intro h;cases sj h
 refine (hK11 _ _).trans ?_
 refine Eq.trans ?_ (Eq.symm (show _=some _ from hr13))
 conv=>lhs;whnf
 exact rq
 refine br ?_ ?_
 refine ix ?_;intro x23
 refine ix ?_;intro x24
 refine br ?_ ?_
 intro h;cases sj h
 refine (hK11 _ _).trans ?_
 refine Eq.trans ?_ (Eq.symm (show _=some _ from hr13))
 conv=>lhs;whnf
 exact rq
 exact fun h=>cq (hcont12 (true,IntKind.i64.wrap (s6+1)) (fun _=>0) h)
 exact fun h=>cq (hcont12 (false,IntKind.i64.wrap (s6+1)) (fun _=>0) h)
 intro h;cases sj h
 refine (hK11 _ _).trans ?_
 refine Eq.trans ?_ (Eq.symm (show _=some _ from hr13))
 conv=>lhs;whnf
 exact rq
 intro h;cases sj h
 exact kq (hr13 (fun _=>0))
 refine lrc ?_ ?_
 intro v e;subst e;cases sj h;rfl
 intro x27 a26 e;subst e
 dsimp only at h
 conv=>lhs;whnf
 revert h
 intro h;refine bind_some2 h ?_;clear h;intro o37 ho37 h
 refine lq (σ:=(Bool×Int)) (τ:=Bool) (ν:=Bool) 2 (fun (s28,s29) a31=>stOf 221 [(2,bA s28),(3,AV.ptr 0 0),(4,AV.ptr 1 0),(8,iA s29)]) (fun (s28,s29) a31=>[Ob.var 26 [iA v0_a.f_Mod,AV.sl 3 (List.map c_api_Var v0_a.f_Locs),AV.sl 4 (List.map c_api_Thread v0_a.f_Threads),AV.sl 3 (List.map c_api_Claim v0_a.f_Claims)],Ob.var 26 [iA v1_b.f_Mod,AV.sl 3 (List.map c_api_Var v1_b.f_Locs),AV.sl 4 (List.map c_api_Thread v1_b.f_Threads),AV.sl 3 (List.map c_api_Claim v1_b.f_Claims)]]) (fun x79 a78=>stOf 221 [(2,bA x79),(3,AV.ptr 0 0),(4,AV.ptr 1 0)]) (fun x79 a78=>[Ob.var 26 [iA v0_a.f_Mod,AV.sl 3 (List.map c_api_Var v0_a.f_Locs),AV.sl 4 (List.map c_api_Thread v0_a.f_Threads),AV.sl 3 (List.map c_api_Claim v0_a.f_Claims)],Ob.var 26 [iA v1_b.f_Mod,AV.sl 3 (List.map c_api_Var v1_b.f_Locs),AV.sl 4 (List.map c_api_Thread v1_b.f_Threads),AV.sl 3 (List.map c_api_Claim v1_b.f_Claims)]]) (fun v=>(bA v,[])) (fun k s=>ref04_Same_L1 n v0_a v1_b k s.1 s.2) (fun s=>rfl) o37 n (x27,0) (fun _=>0) ho37 ?_ ?_
 intro k30 ss a31 K32 cont33 hK34 hcont35 h hr36
 obtain ⟨s28,s29⟩:=ss
 replace h:ref04_Same_L1 n v0_a v1_b (k30+1) s28 s29=some o37:=h
 rw [ref04_Same_L1] at h
 conv=>lhs;whnf
 revert h
 refine br ?_ ?_
 refine ix ?_;intro x39
 refine ix ?_;intro x40
 refine br ?_ ?_
 refine br ?_ ?_
 intro h;cases sj h
 refine (hK34 _ _).trans ?_
 refine Eq.trans ?_ (Eq.symm (show _=some _ from hr36))
 conv=>lhs;whnf
 exact rq
 refine ca hc (fun _ h=>ok_ref03_Same h) ?_;intro y43
 refine br ?_ ?_
 refine br ?_ ?_
 refine br ?_ ?_
 intro h;cases sj h
 refine (hK34 _ _).trans ?_
 refine Eq.trans ?_ (Eq.symm (show _=some _ from hr36))
 conv=>lhs;whnf
 exact rq
 intro h;refine bind_some2 h ?_;clear h;intro o56 ho56 h
 refine lq (σ:=Int) (τ:=Unit) (ν:=Bool) 4 (fun s48 a50=>stOf 221 [(2,bA true),(3,AV.ptr 0 0),(4,AV.ptr 1 0),(8,iA s29),(9,AV.ptr 2 0),(10,AV.ptr 3 0),(11,iA s48)]) (fun s48 a50=>[Ob.var 26 [iA v0_a.f_Mod,AV.sl 3 (List.map c_api_Var v0_a.f_Locs),AV.sl 4 (List.map c_api_Thread v0_a.f_Threads),AV.sl 3 (List.map c_api_Claim v0_a.f_Claims)],Ob.var 26 [iA v1_b.f_Mod,AV.sl 3 (List.map c_api_Var v1_b.f_Locs),AV.sl 4 (List.map c_api_Thread v1_b.f_Threads),AV.sl 3 (List.map c_api_Claim v1_b.f_Claims)],Ob.var 52 [sA x39.f_Name,AV.sl 1 (List.map encS x39.f_Regs),AV.sl 9 (List.map c_api_Stmt x39.f_Body),iA x39.f_At],Ob.var 52 [sA x40.f_Name,AV.sl 1 (List.map encS x40.f_Regs),AV.sl 9 (List.map c_api_Stmt x40.f_Body),iA x40.f_At]]) (fun _ a61=>stOf 221 [(2,bA true),(3,AV.ptr 0 0),(4,AV.ptr 1 0),(8,iA s29)]) (fun _ a61=>[Ob.var 26 [iA v0_a.f_Mod,AV.sl 3 (List.map c_api_Var v0_a.f_Locs),AV.sl 4 (List.map c_api_Thread v0_a.f_Threads),AV.sl 3 (List.map c_api_Claim v0_a.f_Claims)],Ob.var 26 [iA v1_b.f_Mod,AV.sl 3 (List.map c_api_Var v1_b.f_Locs),AV.sl 4 (List.map c_api_Thread v1_b.f_Threads),AV.sl 3 (List.map c_api_Claim v1_b.f_Claims)],Ob.var 52 [sA x39.f_Name,AV.sl 1 (List.map encS x39.f_Regs),AV.sl 9 (List.map c_api_Stmt x39.f_Body),iA x39.f_At],Ob.var 52 [sA x40.f_Name,AV.sl 1 (List.map encS x40.f_Regs),AV.sl 9 (List.map c_api_Stmt x40.f_Body),iA x40.f_At]]) (fun v=>(bA v,[])) (fun k s=>ref04_Same_L2 n x39 x40 k s) (fun s=>rfl) o56 n 0 (fun _=>0) ho56 ?_ ?_
 intro k49 s48 a50 K51 cont52 hK53 hcont54 h hr55
 replace h:ref04_Same_L2 n x39 x40 (k49+1) s48=some o56:=h
 rw [ref04_Same_L2] at h
 conv=>lhs;whnf
 revert h
 refine br ?_ ?_
 refine ix ?_;intro x58
 refine ix ?_;intro x59
 refine br ?_ ?_
 exact fun h=>cq (hcont54 (IntKind.i64.wrap (s48+1)) (fun _=>0) h)
 intro h;cases sj h
 refine (hK53 _ _).trans ?_
 conv=>lhs;whnf
 refine (hK34 _ _).trans ?_
 refine Eq.trans ?_ (Eq.symm (show _=some _ from hr55))
 conv=>lhs;whnf
 exact rq
 intro h;cases sj h
 exact kq (hr55 (fun _=>0))
 refine lrc ?_ ?_
 intro v e;subst e;cases sj h;exact hr36
 intro t a61 e;subst e
 dsimp only at h
 conv=>lhs;whnf
 revert h
 exact fun h=>cq (hcont35 (true,IntKind.i64.wrap (s29+1)) (fun _=>0) h)
 intro h;refine bind_some2 h ?_;clear h;intro o71 ho71 h
 refine lq (σ:=Int) (τ:=Unit) (ν:=Bool) 4 (fun s63 a65=>stOf 221 [(2,bA false),(3,AV.ptr 0 0),(4,AV.ptr 1 0),(8,iA s29),(9,AV.ptr 2 0),(10,AV.ptr 3 0),(11,iA s63)]) (fun s63 a65=>[Ob.var 26 [iA v0_a.f_Mod,AV.sl 3 (List.map c_api_Var v0_a.f_Locs),AV.sl 4 (List.map c_api_Thread v0_a.f_Threads),AV.sl 3 (List.map c_api_Claim v0_a.f_Claims)],Ob.var 26 [iA v1_b.f_Mod,AV.sl 3 (List.map c_api_Var v1_b.f_Locs),AV.sl 4 (List.map c_api_Thread v1_b.f_Threads),AV.sl 3 (List.map c_api_Claim v1_b.f_Claims)],Ob.var 52 [sA x39.f_Name,AV.sl 1 (List.map encS x39.f_Regs),AV.sl 9 (List.map c_api_Stmt x39.f_Body),iA x39.f_At],Ob.var 52 [sA x40.f_Name,AV.sl 1 (List.map encS x40.f_Regs),AV.sl 9 (List.map c_api_Stmt x40.f_Body),iA x40.f_At]]) (fun _ a76=>stOf 221 [(2,bA false),(3,AV.ptr 0 0),(4,AV.ptr 1 0),(8,iA s29)]) (fun _ a76=>[Ob.var 26 [iA v0_a.f_Mod,AV.sl 3 (List.map c_api_Var v0_a.f_Locs),AV.sl 4 (List.map c_api_Thread v0_a.f_Threads),AV.sl 3 (List.map c_api_Claim v0_a.f_Claims)],Ob.var 26 [iA v1_b.f_Mod,AV.sl 3 (List.map c_api_Var v1_b.f_Locs),AV.sl 4 (List.map c_api_Thread v1_b.f_Threads),AV.sl 3 (List.map c_api_Claim v1_b.f_Claims)],Ob.var 52 [sA x39.f_Name,AV.sl 1 (List.map encS x39.f_Regs),AV.sl 9 (List.map c_api_Stmt x39.f_Body),iA x39.f_At],Ob.var 52 [sA x40.f_Name,AV.sl 1 (List.map encS x40.f_Regs),AV.sl 9 (List.map c_api_Stmt x40.f_Body),iA x40.f_At]]) (fun v=>(bA v,[])) (fun k s=>ref04_Same_L3 n x39 x40 k s) (fun s=>rfl) o71 n 0 (fun _=>0) ho71 ?_ ?_
 intro k64 s63 a65 K66 cont67 hK68 hcont69 h hr70
 replace h:ref04_Same_L3 n x39 x40 (k64+1) s63=some o71:=h
 rw [ref04_Same_L3] at h
 conv=>lhs;whnf
 revert h
 refine br ?_ ?_
 refine ix ?_;intro x73
 refine ix ?_;intro x74
 refine br ?_ ?_
 exact fun h=>cq (hcont69 (IntKind.i64.wrap (s63+1)) (fun _=>0) h)
 intro h;cases sj h
 refine (hK68 _ _).trans ?_
 conv=>lhs;whnf
 refine (hK34 _ _).trans ?_
 refine Eq.trans ?_ (Eq.symm (show _=some _ from hr70))
 conv=>lhs;whnf
 exact rq
 intro h;cases sj h
 exact kq (hr70 (fun _=>0))
 refine lrc ?_ ?_
 intro v e;subst e;cases sj h;exact hr36
 intro t a76 e;subst e
 dsimp only at h
 conv=>lhs;whnf
 revert h
 exact fun h=>cq (hcont35 (false,IntKind.i64.wrap (s29+1)) (fun _=>0) h)
 intro h;cases sj h
 refine (hK34 _ _).trans ?_
 refine Eq.trans ?_ (Eq.symm (show _=some _ from hr36))
 conv=>lhs;whnf
 exact rq
 intro h;cases sj h
 refine (hK34 _ _).trans ?_
 refine Eq.trans ?_ (Eq.symm (show _=some _ from hr36))
 conv=>lhs;whnf
 exact rq
 intro h;cases sj h
 exact kq (hr36 (fun _=>0))
 refine lrc ?_ ?_
 intro v e;subst e;cases sj h;rfl
 intro x79 a78 e;subst e
 dsimp only at h
 conv=>lhs;whnf
 revert h
 intro h;refine bind_some2 h ?_;clear h;intro o89 ho89 h
 refine lq (σ:=(Bool×Int)) (τ:=Unit) (ν:=Bool) 6 (fun (s80,s81) a83=>stOf 221 [(2,bA s80),(3,AV.ptr 0 0),(4,AV.ptr 1 0),(12,iA s81)]) (fun (s80,s81) a83=>[Ob.var 26 [iA v0_a.f_Mod,AV.sl 3 (List.map c_api_Var v0_a.f_Locs),AV.sl 4 (List.map c_api_Thread v0_a.f_Threads),AV.sl 3 (List.map c_api_Claim v0_a.f_Claims)],Ob.var 26 [iA v1_b.f_Mod,AV.sl 3 (List.map c_api_Var v1_b.f_Locs),AV.sl 4 (List.map c_api_Thread v1_b.f_Threads),AV.sl 3 (List.map c_api_Claim v1_b.f_Claims)]]) (fun _ a103=>stOf 221 []) (fun _ a103=>[Ob.var 26 [iA v0_a.f_Mod,AV.sl 3 (List.map c_api_Var v0_a.f_Locs),AV.sl 4 (List.map c_api_Thread v0_a.f_Threads),AV.sl 3 (List.map c_api_Claim v0_a.f_Claims)],Ob.var 26 [iA v1_b.f_Mod,AV.sl 3 (List.map c_api_Var v1_b.f_Locs),AV.sl 4 (List.map c_api_Thread v1_b.f_Threads),AV.sl 3 (List.map c_api_Claim v1_b.f_Claims)]]) (fun v=>(bA v,[])) (fun k s=>ref04_Same_L4 n v0_a v1_b k s.1 s.2) (fun s=>rfl) o89 n (x79,0) (fun _=>0) ho89 ?_ ?_
 intro k82 ss a83 K84 cont85 hK86 hcont87 h hr88
 obtain ⟨s80,s81⟩:=ss
 replace h:ref04_Same_L4 n v0_a v1_b (k82+1) s80 s81=some o89:=h
 rw [ref04_Same_L4] at h
 conv=>lhs;whnf
 revert h
 refine br ?_ ?_
 refine ix ?_;intro x91
 refine ix ?_;intro x92
 refine br ?_ ?_
 intro h;cases sj h
 refine (hK86 _ _).trans ?_
 refine Eq.trans ?_ (Eq.symm (show _=some _ from hr88))
 conv=>lhs;whnf
 exact rq
 refine ix ?_;intro x94
 refine ix ?_;intro x95
 refine ca hc (fun _ h=>ok_ref02_Same h) ?_;intro y96
 refine br ?_ ?_
 refine br ?_ ?_
 refine ix ?_;intro x100
 refine ix ?_;intro x101
 refine br ?_ ?_
 intro h;cases sj h
 refine (hK86 _ _).trans ?_
 refine Eq.trans ?_ (Eq.symm (show _=some _ from hr88))
 conv=>lhs;whnf
 exact rq
 exact fun h=>cq (hcont87 (true,IntKind.i64.wrap (s81+1)) (fun _=>0) h)
 exact fun h=>cq (hcont87 (false,IntKind.i64.wrap (s81+1)) (fun _=>0) h)
 intro h;cases sj h
 refine (hK86 _ _).trans ?_
 refine Eq.trans ?_ (Eq.symm (show _=some _ from hr88))
 conv=>lhs;whnf
 exact rq
 intro h;cases sj h
 exact kq (hr88 (fun _=>0))
 refine lrc ?_ ?_
 intro v e;subst e;cases sj h;rfl
 intro t a103 e;subst e
 dsimp only at h
 conv=>lhs;whnf
 revert h
 exact rz
theorem ok_ref04_claimed {n:Nat} ⦃v0_l:(List S_api_Node)⦄ ⦃r:Bool⦄:m_ref04_claimed n v0_l=some r→CN n 52 [AV.sl 5 (List.map c_api_Node v0_l)] []=some (bA r,[]):=by
 intro h;rcases n with _|n;cases h
 rw [m_ref04_claimed] at h
 refine callN_eq' Tryz.func52 (by rfl) rfl rfl (Nat.le_of_ble_eq_true rfl) ?_
 intro call hc;conv=>lhs;whnf
 revert h
 refine ca hc (fun _ h=>ok_ref02_Names h) ?_;intro y1
 intro h;refine bind_some2 h ?_;clear h;intro o11 ho11 h
 refine lq (σ:=Int) (τ:=Unit) (ν:=Bool) 0 (fun s3 a5=>stOf 21 [(0,AV.sl 5 (List.map c_api_Node v0_l)),(3,AV.sl 5 (List.map c_api_Node y1)),(4,iA s3)]) (fun s3 a5=>[]) (fun _ a15=>stOf 21 [(0,AV.sl 5 (List.map c_api_Node v0_l))]) (fun _ a15=>[]) (fun v=>(bA v,[])) (fun k s=>ref04_claimed_L0 n y1 k s) (fun s=>rfl) o11 n 0 (fun _=>0) ho11 ?_ ?_
 intro k4 s3 a5 K6 cont7 hK8 hcont9 h hr10
 replace h:ref04_claimed_L0 n y1 (k4+1) s3=some o11:=h
 rw [ref04_claimed_L0] at h
 conv=>lhs;whnf
 revert h
 refine br ?_ ?_
 refine ix ?_;intro x13
 refine br ?_ ?_
 intro h;cases sj h
 refine (hK8 _ _).trans ?_
 refine Eq.trans ?_ (Eq.symm (show _=some _ from hr10))
 conv=>lhs;whnf
 exact rq
 exact fun h=>cq (hcont9 (IntKind.i64.wrap (s3+1)) (fun _=>0) h)
 intro h;cases sj h
 exact kq (hr10 (fun _=>0))
 refine lrc ?_ ?_
 intro v e;subst e;cases sj h;rfl
 intro t a15 e;subst e
 dsimp only at h
 conv=>lhs;whnf
 revert h
 refine ca hc (fun _ h=>ok_ref02_Right h) ?_;intro y16
 exact rz
theorem ok_ref04_in {n:Nat} ⦃v0_n:Int⦄ ⦃r:Bool⦄:m_ref04_in n v0_n=some r→CN n 49 [iA v0_n] []=some (bA r,[]):=by
 intro h;rcases n with _|n;cases h
 rw [m_ref04_in] at h
 refine callN_eq' Tryz.func49 (by rfl) rfl rfl (Nat.le_of_ble_eq_true rfl) ?_
 intro call hc;conv=>lhs;whnf
 revert h
 refine br ?_ ?_
 exact rz
 exact rz
end Go.Proofs.YtgelgahilfojdaaGreat
end
section
namespace Go.Proofs.YtgelgahilfojdaaGreat
set_option linter.unusedVariables false
set_option linter.unusedSimpArgs false
set_option maxRecDepth 100000
set_option maxHeartbeats 4000000
theorem ok_ref03_one {n:Nat} ⦃v0_x:S_api_Stmt⦄ ⦃r:Bool⦄:m_ref03_one n v0_x=some r→CN n 78 [AV.agg [iA v0_x.f_Kind,sA v0_x.f_Reg,sA v0_x.f_Loc,AV.sl 5 (List.map c_api_Node v0_x.f_E),AV.sl 5 (List.map c_api_Node v0_x.f_F),bA v0_x.f_Ne,iA v0_x.f_Body,iA v0_x.f_Else,iA v0_x.f_At]] []=some (bA r,[]):=by
 intro h;rcases n with _|n;cases h
 rw [m_ref03_one] at h
 refine callN_eq' Tryz.func78 (by rfl) rfl rfl (Nat.le_of_ble_eq_true rfl) ?_
 intro call hc;conv=>lhs;whnf
 revert h
 refine ca hc (fun _ h=>ok_ref03_parts h) ?_;intro y1
 refine br ?_ ?_
 refine br ?_ ?_
 exact rz
 refine rj (α:=Bool) (fun j5=>stOf 117 [(1,AV.ptr 0 0),(3,sA y1.1),(51,bA j5)]) (fun _=>[Ob.var 82 [iA v0_x.f_Kind,sA v0_x.f_Reg,sA v0_x.f_Loc,AV.sl 5 (List.map c_api_Node v0_x.f_E),AV.sl 5 (List.map c_api_Node v0_x.f_F),bA v0_x.f_Ne,iA v0_x.f_Body,iA v0_x.f_Else,iA v0_x.f_At]]) ?_ ?_
 intro K122 b123 h;conv=>lhs;whnf
 revert h
 refine ca hc (fun _ h=>ok_ref03_has h) ?_;intro y6
 refine ca hc (fun _ h=>ok_ref01_Name h) ?_;intro y8
 refine br ?_ ?_
 refine ca hc (fun _ h=>ok_ref03_has h) ?_;intro y11
 refine br ?_ ?_
 refine ca hc (fun _ h=>ok_ref03_has h) ?_;intro y14
 refine ca hc (fun _ h=>ok_ref01_Name h) ?_;intro y16
 refine br ?_ ?_
 refine ca hc (fun _ h=>ok_ref03_has h) ?_;intro y19
 refine br ?_ ?_
 exact rz
 exact rz
 exact rz
 refine br ?_ ?_
 refine ca hc (fun _ h=>ok_ref03_has h) ?_;intro y23
 refine ca hc (fun _ h=>ok_ref01_Name h) ?_;intro y25
 refine br ?_ ?_
 refine ca hc (fun _ h=>ok_ref03_has h) ?_;intro y28
 refine br ?_ ?_
 exact rz
 exact rz
 exact rz
 exact rz
 exact rz
 intro j5 h;conv=>lhs;whnf
 revert h
 refine br ?_ ?_
 exact rz
 refine rj (α:=Bool) (fun j32=>stOf 117 [(1,AV.ptr 0 0),(3,sA y1.1),(91,bA j32)]) (fun _=>[Ob.var 82 [iA v0_x.f_Kind,sA v0_x.f_Reg,sA v0_x.f_Loc,AV.sl 5 (List.map c_api_Node v0_x.f_E),AV.sl 5 (List.map c_api_Node v0_x.f_F),bA v0_x.f_Ne,iA v0_x.f_Body,iA v0_x.f_Else,iA v0_x.f_At]]) ?_ ?_
 intro K120 b121 h;conv=>lhs;whnf
 revert h
 refine ca hc (fun _ h=>ok_ref03_has h) ?_;intro y33
 refine br ?_ ?_
 refine ca hc (fun _ h=>ok_ref03_Plain h) ?_;intro y36
 refine br ?_ ?_
 refine ca hc (fun _ h=>ok_ref03_has h) ?_;intro y39
 refine br ?_ ?_
 refine ca hc (fun _ h=>ok_ref03_has h) ?_;intro y42
 refine br ?_ ?_
 refine ca hc (fun _ h=>ok_ref03_Plain h) ?_;intro y45
 refine br ?_ ?_
 refine ca hc (fun _ h=>ok_ref03_has h) ?_;intro y48
 refine br ?_ ?_
 exact rz
 exact rz
 exact rz
 refine ca hc (fun _ h=>ok_ref03_has h) ?_;intro y51
 refine br ?_ ?_
 exact rz
 exact rz
 refine br ?_ ?_
 exact rz
 refine ca hc (fun _ h=>ok_ref03_has h) ?_;intro y55
 refine br ?_ ?_
 refine ca hc (fun _ h=>ok_ref03_Plain h) ?_;intro y58
 refine br ?_ ?_
 refine ca hc (fun _ h=>ok_ref03_has h) ?_;intro y61
 refine br ?_ ?_
 exact rz
 exact rz
 exact rz
 refine ca hc (fun _ h=>ok_ref03_has h) ?_;intro y64
 refine br ?_ ?_
 exact rz
 exact rz
 exact rz
 refine ca hc (fun _ h=>ok_ref03_has h) ?_;intro y67
 refine br ?_ ?_
 refine ca hc (fun _ h=>ok_ref03_has h) ?_;intro y70
 refine br ?_ ?_
 refine ca hc (fun _ h=>ok_ref03_Plain h) ?_;intro y73
 refine br ?_ ?_
 refine ca hc (fun _ h=>ok_ref03_has h) ?_;intro y76
 refine br ?_ ?_
 exact rz
 exact rz
 exact rz
 refine ca hc (fun _ h=>ok_ref03_has h) ?_;intro y79
 refine br ?_ ?_
 exact rz
 exact rz
 refine br ?_ ?_
 exact rz
 refine ca hc (fun _ h=>ok_ref03_has h) ?_;intro y83
 refine br ?_ ?_
 refine ca hc (fun _ h=>ok_ref03_Plain h) ?_;intro y86
 refine br ?_ ?_
 refine ca hc (fun _ h=>ok_ref03_has h) ?_;intro y89
 refine br ?_ ?_
 exact rz
 exact rz
 exact rz
 refine ca hc (fun _ h=>ok_ref03_has h) ?_;intro y92
 refine br ?_ ?_
 exact rz
 exact rz
 intro j32 h;conv=>lhs;whnf
 revert h
 refine br ?_ ?_
 exact rz
 refine ca hc (fun _ h=>ok_ref03_has h) ?_;intro y96
 refine br ?_ ?_
 refine ca hc (fun _ h=>ok_ref03_has h) ?_;intro y99
 refine br ?_ ?_
 refine ca hc (fun _ h=>ok_ref03_has h) ?_;intro y102
 refine br ?_ ?_
 exact rz
 exact rz
 refine br ?_ ?_
 refine ca hc (fun _ h=>ok_ref03_has h) ?_;intro y106
 refine br ?_ ?_
 exact rz
 exact rz
 exact rz
 refine br ?_ ?_
 exact rz
 refine ca hc (fun _ h=>ok_ref03_has h) ?_;intro y110
 refine br ?_ ?_
 refine ca hc (fun _ h=>ok_ref03_has h) ?_;intro y113
 refine br ?_ ?_
 exact rz
 exact rz
 refine br ?_ ?_
 refine ca hc (fun _ h=>ok_ref03_has h) ?_;intro y117
 refine br ?_ ?_
 exact rz
 exact rz
 exact rz
 exact rz
def OK_ref03_whole (n:Nat):Prop:=∀ ⦃v0_l:(List S_api_Stmt)⦄ ⦃v1_from:Int⦄ ⦃v2_to:Int⦄ ⦃r:Bool⦄,m_ref03_whole n v0_l v1_from v2_to=some r→CN n 77 [AV.sl 9 (List.map c_api_Stmt v0_l),iA v1_from,iA v2_to] []=some (bA r,[])
def IH_ref03_whole (n : Nat) : Prop := OK_ref03_whole n
theorem st_ref03_whole (n:Nat) (ih:IH_ref03_whole n):OK_ref03_whole (n+1):=by
 intro v0_l v1_from v2_to r h
 rw [m_ref03_whole] at h
 refine callN_eq' Tryz.func77 (by rfl) rfl rfl (Nat.le_of_ble_eq_true rfl) ?_
 intro call hc;conv=>lhs;whnf
 revert h
 intro h;refine bind_some2 h ?_;clear h;intro o9 ho9 h
 refine lq (σ:=Int) (τ:=Unit) (ν:=Bool) 0 (fun s1 a3=>stOf 70 [(0,AV.sl 9 (List.map c_api_Stmt v0_l)),(1,iA s1),(2,iA v2_to)]) (fun s1 a3=>[]) (fun _ a22=>stOf 70 []) (fun _ a22=>[]) (fun v=>(bA v,[])) (fun k s=>ref03_whole_L0 n (m_ref03_whole n) v0_l v2_to k s) (fun s=>rfl) o9 n v1_from (fun _=>0) ho9 ?_ ?_
 intro k2 s1 a3 K4 cont5 hK6 hcont7 h hr8
 replace h:ref03_whole_L0 n (m_ref03_whole n) v0_l v2_to (k2+1) s1=some o9:=h
 rw [ref03_whole_L0] at h
 conv=>lhs;whnf
 revert h
 refine br ?_ ?_
 refine ix ?_;intro x11
 refine br ?_ ?_
 intro h;cases sj h
 refine (hK6 _ _).trans ?_
 refine Eq.trans ?_ (Eq.symm (show _=some _ from hr8))
 conv=>lhs;whnf
 exact rq
 refine br ?_ ?_
 intro h;cases sj h
 refine (hK6 _ _).trans ?_
 refine Eq.trans ?_ (Eq.symm (show _=some _ from hr8))
 conv=>lhs;whnf
 exact rq
 refine br ?_ ?_
 intro h;cases sj h
 refine (hK6 _ _).trans ?_
 refine Eq.trans ?_ (Eq.symm (show _=some _ from hr8))
 conv=>lhs;whnf
 exact rq
 refine br ?_ ?_
 intro h;cases sj h
 refine (hK6 _ _).trans ?_
 refine Eq.trans ?_ (Eq.symm (show _=some _ from hr8))
 conv=>lhs;whnf
 exact rq
 refine ca hc (fun _ h=>ih h) ?_;intro y16
 refine br ?_ ?_
 refine ca hc (fun _ h=>ih h) ?_;intro y19
 refine br ?_ ?_
 exact fun h=>cq (hcont7 (IntKind.i64.wrap ((IntKind.i64.wrap ((IntKind.i64.wrap (s1+1))+x11.f_Body))+x11.f_Else)) (fun _=>0) h)
 intro h;cases sj h
 refine (hK6 _ _).trans ?_
 refine Eq.trans ?_ (Eq.symm (show _=some _ from hr8))
 conv=>lhs;whnf
 exact rq
 intro h;cases sj h
 refine (hK6 _ _).trans ?_
 refine Eq.trans ?_ (Eq.symm (show _=some _ from hr8))
 conv=>lhs;whnf
 exact rq
 intro h;cases sj h
 exact kq (hr8 (fun _=>0))
 refine lrc ?_ ?_
 intro v e;subst e;cases sj h;rfl
 intro t a22 e;subst e
 dsimp only at h
 conv=>lhs;whnf
 revert h
 exact rz
theorem all_ref03_whole : ∀ n, IH_ref03_whole n
  | 0 => by unfold IH_ref03_whole OK_ref03_whole; intros; rename_i h; exact absurd h (by intro h; cases h)
  | n + 1 => have ih := all_ref03_whole n
    st_ref03_whole n ih
theorem ok_ref03_whole {n : Nat} : OK_ref03_whole n := (all_ref03_whole n)
theorem ok_ref03_Right {n:Nat} ⦃v0_l:(List S_api_Stmt)⦄ ⦃r:Bool⦄:m_ref03_Right n v0_l=some r→CN n 51 [AV.sl 9 (List.map c_api_Stmt v0_l)] []=some (bA r,[]):=by
 intro h;rcases n with _|n;cases h
 rw [m_ref03_Right] at h
 refine callN_eq' Tryz.func51 (by rfl) rfl rfl (Nat.le_of_ble_eq_true rfl) ?_
 intro call hc;conv=>lhs;whnf
 revert h
 refine br ?_ ?_
 exact rz
 refine cr hc (fun _ h=>ok_ref03_whole h) ?_;intro y2
 refine br ?_ ?_
 intro h;refine bind_some2 h ?_;clear h;intro o13 ho13 h
 refine lq (σ:=Int) (τ:=Unit) (ν:=Bool) 0 (fun s5 a7=>stOf 31 [(0,AV.sl 9 (List.map c_api_Stmt v0_l)),(3,iA s5)]) (fun s5 a7=>[]) (fun _ a19=>stOf 31 [(0,AV.sl 9 (List.map c_api_Stmt v0_l))]) (fun _ a19=>[]) (fun v=>(bA v,[])) (fun k s=>ref03_Right_L0 n v0_l k s) (fun s=>rfl) o13 n 0 (fun _=>0) ho13 ?_ ?_
 intro k6 s5 a7 K8 cont9 hK10 hcont11 h hr12
 replace h:ref03_Right_L0 n v0_l (k6+1) s5=some o13:=h
 rw [ref03_Right_L0] at h
 conv=>lhs;whnf
 revert h
 refine br ?_ ?_
 refine ix ?_;intro x15
 refine ca hc (fun _ h=>ok_ref03_one h) ?_;intro y16
 refine br ?_ ?_
 exact fun h=>cq (hcont11 (IntKind.i64.wrap (s5+1)) (fun _=>0) h)
 intro h;cases sj h
 refine (hK10 _ _).trans ?_
 refine Eq.trans ?_ (Eq.symm (show _=some _ from hr12))
 conv=>lhs;whnf
 exact rq
 intro h;cases sj h
 exact kq (hr12 (fun _=>0))
 refine lrc ?_ ?_
 intro v e;subst e;cases sj h;rfl
 intro t a19 e;subst e
 dsimp only at h
 conv=>lhs;whnf
 revert h
 refine cr hc (fun _ h=>ok_ref03_deep h) ?_;intro y20
 exact rz
 exact rz
theorem ok_ref03_pad {n:Nat} ⦃v0_deep:Int⦄ ⦃r:(List UInt8)⦄:m_ref03_pad n v0_deep=some r→CN n 101 [iA v0_deep] []=some (sA r,[]):=by
 intro h;rcases n with _|n;cases h
 rw [m_ref03_pad] at h
 refine callN_eq' Tryz.func101 (by rfl) rfl rfl (Nat.le_of_ble_eq_true rfl) ?_
 intro call hc;conv=>lhs;whnf
 revert h
 intro h;refine bind_some2 h ?_;clear h;intro o10 ho10 h
 refine lq (σ:=((List UInt8)×Int)) (τ:=(List UInt8)) (ν:=(List UInt8)) 0 (fun (s1,s2) a4=>stOf 13 [(0,iA v0_deep),(3,sA s1),(4,iA s2)]) (fun (s1,s2) a4=>[]) (fun x14 a13=>stOf 13 [(3,sA x14)]) (fun x14 a13=>[]) (fun v=>(sA v,[])) (fun k s=>ref03_pad_L0 n v0_deep k s.1 s.2) (fun s=>rfl) o10 n (([]:List UInt8),0) (fun _=>0) ho10 ?_ ?_
 intro k3 ss a4 K5 cont6 hK7 hcont8 h hr9
 obtain ⟨s1,s2⟩:=ss
 replace h:ref03_pad_L0 n v0_deep (k3+1) s1 s2=some o10:=h
 rw [ref03_pad_L0] at h
 conv=>lhs;whnf
 revert h
 refine br ?_ ?_
 intro h
 refine chk_some2 h ?_;clear h;intro hc12 h
 refine bif_pos hc12 ?_
 try simp only [ls]
 conv=>lhs;whnf
 revert h
 exact fun h=>cq (hcont8 ((s1++([32,32]:List UInt8)),IntKind.i64.wrap (s2+1)) (fun _=>0) h)
 intro h;cases sj h
 exact kq (hr9 (fun _=>0))
 refine lrc ?_ ?_
 intro v e;subst e;cases sj h;rfl
 intro x14 a13 e;subst e
 dsimp only at h
 conv=>lhs;whnf
 revert h
 exact rz
theorem ok_ref03_simple {n:Nat} ⦃v0_x:S_api_Stmt⦄ ⦃r:(List UInt8)⦄:m_ref03_simple n v0_x=some r→CN n 103 [AV.agg [iA v0_x.f_Kind,sA v0_x.f_Reg,sA v0_x.f_Loc,AV.sl 5 (List.map c_api_Node v0_x.f_E),AV.sl 5 (List.map c_api_Node v0_x.f_F),bA v0_x.f_Ne,iA v0_x.f_Body,iA v0_x.f_Else,iA v0_x.f_At]] []=some (sA r,[]):=by
 intro h;rcases n with _|n;cases h
 rw [m_ref03_simple] at h
 refine callN_eq' Tryz.func103 (by rfl) rfl rfl (Nat.le_of_ble_eq_true rfl) ?_
 intro call hc;conv=>lhs;whnf
 revert h
 refine ca hc (fun _ h=>ok_ref03_words h) ?_;intro y1
 refine ix ?_;intro x3
 refine br ?_ ?_
 intro h
 refine chk_some2 h ?_;clear h;intro hc5 h
 refine bif_pos hc5 ?_
 try simp only [ls]
 conv=>lhs;whnf
 revert h
 intro h
 refine chk_some2 h ?_;clear h;intro hc6 h
 refine bif_pos hc6 ?_
 try simp only [ls]
 conv=>lhs;whnf
 revert h
 intro h
 refine chk_some2 h ?_;clear h;intro hc7 h
 refine bif_pos hc7 ?_
 try simp only [ls]
 conv=>lhs;whnf
 revert h
 refine ca hc (fun _ h=>ok_ref02_Show h) ?_;intro y8
 intro h
 refine chk_some2 h ?_;clear h;intro hc10 h
 refine bif_pos hc10 ?_
 try simp only [ls]
 conv=>lhs;whnf
 revert h
 intro h
 refine chk_some2 h ?_;clear h;intro hc11 h
 refine bif_pos hc11 ?_
 try simp only [ls]
 conv=>lhs;whnf
 revert h
 exact rz
 refine br ?_ ?_
 intro h
 refine chk_some2 h ?_;clear h;intro hc13 h
 refine bif_pos hc13 ?_
 try simp only [ls]
 conv=>lhs;whnf
 revert h
 intro h
 refine chk_some2 h ?_;clear h;intro hc14 h
 refine bif_pos hc14 ?_
 try simp only [ls]
 conv=>lhs;whnf
 revert h
 intro h
 refine chk_some2 h ?_;clear h;intro hc15 h
 refine bif_pos hc15 ?_
 try simp only [ls]
 conv=>lhs;whnf
 revert h
 intro h
 refine chk_some2 h ?_;clear h;intro hc16 h
 refine bif_pos hc16 ?_
 try simp only [ls]
 conv=>lhs;whnf
 revert h
 intro h
 refine chk_some2 h ?_;clear h;intro hc17 h
 refine bif_pos hc17 ?_
 try simp only [ls]
 conv=>lhs;whnf
 revert h
 exact rz
 refine br ?_ ?_
 intro h
 refine chk_some2 h ?_;clear h;intro hc19 h
 refine bif_pos hc19 ?_
 try simp only [ls]
 conv=>lhs;whnf
 revert h
 intro h
 refine chk_some2 h ?_;clear h;intro hc20 h
 refine bif_pos hc20 ?_
 try simp only [ls]
 conv=>lhs;whnf
 revert h
 intro h
 refine chk_some2 h ?_;clear h;intro hc21 h
 refine bif_pos hc21 ?_
 try simp only [ls]
 conv=>lhs;whnf
 revert h
 refine ca hc (fun _ h=>ok_ref02_Show h) ?_;intro y22
 intro h
 refine chk_some2 h ?_;clear h;intro hc24 h
 refine bif_pos hc24 ?_
 try simp only [ls]
 conv=>lhs;whnf
 revert h
 intro h
 refine chk_some2 h ?_;clear h;intro hc25 h
 refine bif_pos hc25 ?_
 try simp only [ls]
 conv=>lhs;whnf
 revert h
 exact rz
 refine br ?_ ?_
 intro h
 refine chk_some2 h ?_;clear h;intro hc27 h
 refine bif_pos hc27 ?_
 try simp only [ls]
 conv=>lhs;whnf
 revert h
 intro h
 refine chk_some2 h ?_;clear h;intro hc28 h
 refine bif_pos hc28 ?_
 try simp only [ls]
 conv=>lhs;whnf
 revert h
 intro h
 refine chk_some2 h ?_;clear h;intro hc29 h
 refine bif_pos hc29 ?_
 try simp only [ls]
 conv=>lhs;whnf
 revert h
 intro h
 refine chk_some2 h ?_;clear h;intro hc30 h
 refine bif_pos hc30 ?_
 try simp only [ls]
 conv=>lhs;whnf
 revert h
 intro h
 refine chk_some2 h ?_;clear h;intro hc31 h
 refine bif_pos hc31 ?_
 try simp only [ls]
 conv=>lhs;whnf
 revert h
 refine ca hc (fun _ h=>ok_ref02_Show h) ?_;intro y32
 intro h
 refine chk_some2 h ?_;clear h;intro hc34 h
 refine bif_pos hc34 ?_
 try simp only [ls]
 conv=>lhs;whnf
 revert h
 intro h
 refine chk_some2 h ?_;clear h;intro hc35 h
 refine bif_pos hc35 ?_
 try simp only [ls]
 conv=>lhs;whnf
 revert h
 refine ca hc (fun _ h=>ok_ref02_Show h) ?_;intro y36
 intro h
 refine chk_some2 h ?_;clear h;intro hc38 h
 refine bif_pos hc38 ?_
 try simp only [ls]
 conv=>lhs;whnf
 revert h
 intro h
 refine chk_some2 h ?_;clear h;intro hc39 h
 refine bif_pos hc39 ?_
 try simp only [ls]
 conv=>lhs;whnf
 revert h
 exact rz
 refine br ?_ ?_
 intro h
 refine chk_some2 h ?_;clear h;intro hc41 h
 refine bif_pos hc41 ?_
 try simp only [ls]
 conv=>lhs;whnf
 revert h
 intro h
 refine chk_some2 h ?_;clear h;intro hc42 h
 refine bif_pos hc42 ?_
 try simp only [ls]
 conv=>lhs;whnf
 revert h
 intro h
 refine chk_some2 h ?_;clear h;intro hc43 h
 refine bif_pos hc43 ?_
 try simp only [ls]
 conv=>lhs;whnf
 revert h
 intro h
 refine chk_some2 h ?_;clear h;intro hc44 h
 refine bif_pos hc44 ?_
 try simp only [ls]
 conv=>lhs;whnf
 revert h
 intro h
 refine chk_some2 h ?_;clear h;intro hc45 h
 refine bif_pos hc45 ?_
 try simp only [ls]
 conv=>lhs;whnf
 revert h
 refine ca hc (fun _ h=>ok_ref02_Show h) ?_;intro y46
 intro h
 refine chk_some2 h ?_;clear h;intro hc48 h
 refine bif_pos hc48 ?_
 try simp only [ls]
 conv=>lhs;whnf
 revert h
 intro h
 refine chk_some2 h ?_;clear h;intro hc49 h
 refine bif_pos hc49 ?_
 try simp only [ls]
 conv=>lhs;whnf
 revert h
 exact rz
 refine br ?_ ?_
 intro h
 refine chk_some2 h ?_;clear h;intro hc51 h
 refine bif_pos hc51 ?_
 try simp only [ls]
 conv=>lhs;whnf
 revert h
 intro h
 refine chk_some2 h ?_;clear h;intro hc52 h
 refine bif_pos hc52 ?_
 try simp only [ls]
 conv=>lhs;whnf
 revert h
 intro h
 refine chk_some2 h ?_;clear h;intro hc53 h
 refine bif_pos hc53 ?_
 try simp only [ls]
 conv=>lhs;whnf
 revert h
 intro h
 refine chk_some2 h ?_;clear h;intro hc54 h
 refine bif_pos hc54 ?_
 try simp only [ls]
 conv=>lhs;whnf
 revert h
 intro h
 refine chk_some2 h ?_;clear h;intro hc55 h
 refine bif_pos hc55 ?_
 try simp only [ls]
 conv=>lhs;whnf
 revert h
 refine ca hc (fun _ h=>ok_ref02_Show h) ?_;intro y56
 intro h
 refine chk_some2 h ?_;clear h;intro hc58 h
 refine bif_pos hc58 ?_
 try simp only [ls]
 conv=>lhs;whnf
 revert h
 intro h
 refine chk_some2 h ?_;clear h;intro hc59 h
 refine bif_pos hc59 ?_
 try simp only [ls]
 conv=>lhs;whnf
 revert h
 exact rz
 refine br ?_ ?_
 refine br ?_ ?_
 intro h
 refine chk_some2 h ?_;clear h;intro hc62 h
 refine bif_pos hc62 ?_
 try simp only [ls]
 conv=>lhs;whnf
 revert h
 intro h
 refine chk_some2 h ?_;clear h;intro hc63 h
 refine bif_pos hc63 ?_
 try simp only [ls]
 conv=>lhs;whnf
 revert h
 intro h
 refine chk_some2 h ?_;clear h;intro hc64 h
 refine bif_pos hc64 ?_
 try simp only [ls]
 conv=>lhs;whnf
 revert h
 refine ca hc (fun _ h=>ok_ref02_Show h) ?_;intro y65
 intro h
 refine chk_some2 h ?_;clear h;intro hc67 h
 refine bif_pos hc67 ?_
 try simp only [ls]
 conv=>lhs;whnf
 revert h
 intro h
 refine chk_some2 h ?_;clear h;intro hc68 h
 refine bif_pos hc68 ?_
 try simp only [ls]
 conv=>lhs;whnf
 revert h
 exact rz
 intro h
 refine chk_some2 h ?_;clear h;intro hc69 h
 refine bif_pos hc69 ?_
 try simp only [ls]
 conv=>lhs;whnf
 revert h
 intro h
 refine chk_some2 h ?_;clear h;intro hc70 h
 refine bif_pos hc70 ?_
 try simp only [ls]
 conv=>lhs;whnf
 revert h
 intro h
 refine chk_some2 h ?_;clear h;intro hc71 h
 refine bif_pos hc71 ?_
 try simp only [ls]
 conv=>lhs;whnf
 revert h
 refine ca hc (fun _ h=>ok_ref02_Show h) ?_;intro y72
 intro h
 refine chk_some2 h ?_;clear h;intro hc74 h
 refine bif_pos hc74 ?_
 try simp only [ls]
 conv=>lhs;whnf
 revert h
 intro h
 refine chk_some2 h ?_;clear h;intro hc75 h
 refine bif_pos hc75 ?_
 try simp only [ls]
 conv=>lhs;whnf
 revert h
 exact rz
 intro h
 refine chk_some2 h ?_;clear h;intro hc76 h
 refine bif_pos hc76 ?_
 try simp only [ls]
 conv=>lhs;whnf
 revert h
 exact rz
def OK_ref03_show (n:Nat):Prop:=∀ ⦃v0_l:(List S_api_Stmt)⦄ ⦃v1_from:Int⦄ ⦃v2_to:Int⦄ ⦃v3_deep:Int⦄ ⦃r:(List UInt8)⦄,m_ref03_show n v0_l v1_from v2_to v3_deep=some r→CN n 71 [AV.sl 9 (List.map c_api_Stmt v0_l),iA v1_from,iA v2_to,iA v3_deep] []=some (sA r,[])
def IH_ref03_show (n : Nat) : Prop := OK_ref03_show n
theorem st_ref03_show (n:Nat) (ih:IH_ref03_show n):OK_ref03_show (n+1):=by
 intro v0_l v1_from v2_to v3_deep r h
 rw [m_ref03_show] at h
 refine callN_eq' Tryz.func71 (by rfl) rfl rfl (Nat.le_of_ble_eq_true rfl) ?_
 intro call hc;conv=>lhs;whnf
 revert h
 refine ca hc (fun _ h=>ok_ref03_tops h) ?_;intro y1
 intro h;refine bind_some2 h ?_;clear h;intro o12 ho12 h
 refine lq (σ:=((List UInt8)×Int)) (τ:=(List UInt8)) (ν:=(List UInt8)) 0 (fun (s3,s4) a6=>stOf 105 [(0,AV.sl 9 (List.map c_api_Stmt v0_l)),(3,iA v3_deep),(9,sA s3),(10,AV.sl 1 (List.map encI y1)),(11,iA s4)]) (fun (s3,s4) a6=>[]) (fun x74 a73=>stOf 105 [(9,sA x74)]) (fun x74 a73=>[]) (fun v=>(sA v,[])) (fun k s=>ref03_show_L0 n (m_ref03_show n) v0_l v3_deep y1 k s.1 s.2) (fun s=>rfl) o12 n (([]:List UInt8),0) (fun _=>0) ho12 ?_ ?_
 intro k5 ss a6 K7 cont8 hK9 hcont10 h hr11
 obtain ⟨s3,s4⟩:=ss
 replace h:ref03_show_L0 n (m_ref03_show n) v0_l v3_deep y1 (k5+1) s3 s4=some o12:=h
 rw [ref03_show_L0] at h
 conv=>lhs;whnf
 revert h
 refine br ?_ ?_
 refine ix ?_;intro x14
 refine ix ?_;intro x15
 refine ca hc (fun _ h=>ok_ref03_pad h) ?_;intro y16
 intro h
 refine chk_some2 h ?_;clear h;intro hc18 h
 refine bif_pos hc18 ?_
 try simp only [ls]
 conv=>lhs;whnf
 revert h
 refine ca hc (fun _ h=>ok_ref03_block h) ?_;intro y19
 refine br ?_ ?_
 refine ca hc (fun _ h=>ok_ref03_words h) ?_;intro y22
 refine ix ?_;intro x24
 intro h
 refine chk_some2 h ?_;clear h;intro hc25 h
 refine bif_pos hc25 ?_
 try simp only [ls]
 conv=>lhs;whnf
 revert h
 intro h
 refine chk_some2 h ?_;clear h;intro hc26 h
 refine bif_pos hc26 ?_
 try simp only [ls]
 conv=>lhs;whnf
 revert h
 refine br ?_ ?_
 refine ca hc (fun _ h=>ok_ref02_Show h) ?_;intro y28
 intro h
 refine chk_some2 h ?_;clear h;intro hc30 h
 refine bif_pos hc30 ?_
 try simp only [ls]
 conv=>lhs;whnf
 revert h
 intro h
 refine chk_some2 h ?_;clear h;intro hc31 h
 refine bif_pos hc31 ?_
 try simp only [ls]
 conv=>lhs;whnf
 revert h
 refine ix ?_;intro x32
 intro h
 refine chk_some2 h ?_;clear h;intro hc33 h
 refine bif_pos hc33 ?_
 try simp only [ls]
 conv=>lhs;whnf
 revert h
 refine ix ?_;intro x34
 refine ca hc (fun _ h=>ih h) ?_;intro y35
 intro h
 refine chk_some2 h ?_;clear h;intro hc37 h
 refine bif_pos hc37 ?_
 try simp only [ls]
 conv=>lhs;whnf
 revert h
 refine ca hc (fun _ h=>ok_ref03_pad h) ?_;intro y38
 intro h
 refine chk_some2 h ?_;clear h;intro hc40 h
 refine bif_pos hc40 ?_
 try simp only [ls]
 conv=>lhs;whnf
 revert h
 refine br ?_ ?_
 intro h
 refine chk_some2 h ?_;clear h;intro hc42 h
 refine bif_pos hc42 ?_
 try simp only [ls]
 conv=>lhs;whnf
 revert h
 refine ca hc (fun _ h=>ih h) ?_;intro y43
 intro h
 refine chk_some2 h ?_;clear h;intro hc45 h
 refine bif_pos hc45 ?_
 try simp only [ls]
 conv=>lhs;whnf
 revert h
 refine ca hc (fun _ h=>ok_ref03_pad h) ?_;intro y46
 intro h
 refine chk_some2 h ?_;clear h;intro hc48 h
 refine bif_pos hc48 ?_
 try simp only [ls]
 conv=>lhs;whnf
 revert h
 intro h
 refine chk_some2 h ?_;clear h;intro hc49 h
 refine bif_pos hc49 ?_
 try simp only [ls]
 conv=>lhs;whnf
 revert h
 exact fun h=>cq (hcont10 (((((((((((((s3++y16)++x24)++([32]:List UInt8))++y28)++([32]:List UInt8))++([123,10]:List UInt8))++y35)++y38)++([125,32,101,108,115,101,32,123,10]:List UInt8))++y43)++y46)++([125,10]:List UInt8)),IntKind.i64.wrap (s4+1)) (fun _=>0) h)
 intro h
 refine chk_some2 h ?_;clear h;intro hc50 h
 refine bif_pos hc50 ?_
 try simp only [ls]
 conv=>lhs;whnf
 revert h
 exact fun h=>cq (hcont10 ((((((((((s3++y16)++x24)++([32]:List UInt8))++y28)++([32]:List UInt8))++([123,10]:List UInt8))++y35)++y38)++([125,10]:List UInt8)),IntKind.i64.wrap (s4+1)) (fun _=>0) h)
 refine ix ?_;intro x51
 intro h
 refine chk_some2 h ?_;clear h;intro hc52 h
 refine bif_pos hc52 ?_
 try simp only [ls]
 conv=>lhs;whnf
 revert h
 refine ix ?_;intro x53
 refine ca hc (fun _ h=>ih h) ?_;intro y54
 intro h
 refine chk_some2 h ?_;clear h;intro hc56 h
 refine bif_pos hc56 ?_
 try simp only [ls]
 conv=>lhs;whnf
 revert h
 refine ca hc (fun _ h=>ok_ref03_pad h) ?_;intro y57
 intro h
 refine chk_some2 h ?_;clear h;intro hc59 h
 refine bif_pos hc59 ?_
 try simp only [ls]
 conv=>lhs;whnf
 revert h
 refine br ?_ ?_
 intro h
 refine chk_some2 h ?_;clear h;intro hc61 h
 refine bif_pos hc61 ?_
 try simp only [ls]
 conv=>lhs;whnf
 revert h
 refine ca hc (fun _ h=>ih h) ?_;intro y62
 intro h
 refine chk_some2 h ?_;clear h;intro hc64 h
 refine bif_pos hc64 ?_
 try simp only [ls]
 conv=>lhs;whnf
 revert h
 refine ca hc (fun _ h=>ok_ref03_pad h) ?_;intro y65
 intro h
 refine chk_some2 h ?_;clear h;intro hc67 h
 refine bif_pos hc67 ?_
 try simp only [ls]
 conv=>lhs;whnf
 revert h
 intro h
 refine chk_some2 h ?_;clear h;intro hc68 h
 refine bif_pos hc68 ?_
 try simp only [ls]
 conv=>lhs;whnf
 revert h
 exact fun h=>cq (hcont10 (((((((((((s3++y16)++x24)++([32]:List UInt8))++([123,10]:List UInt8))++y54)++y57)++([125,32,101,108,115,101,32,123,10]:List UInt8))++y62)++y65)++([125,10]:List UInt8)),IntKind.i64.wrap (s4+1)) (fun _=>0) h)
 intro h
 refine chk_some2 h ?_;clear h;intro hc69 h
 refine bif_pos hc69 ?_
 try simp only [ls]
 conv=>lhs;whnf
 revert h
 exact fun h=>cq (hcont10 ((((((((s3++y16)++x24)++([32]:List UInt8))++([123,10]:List UInt8))++y54)++y57)++([125,10]:List UInt8)),IntKind.i64.wrap (s4+1)) (fun _=>0) h)
 refine ca hc (fun _ h=>ok_ref03_simple h) ?_;intro y70
 intro h
 refine chk_some2 h ?_;clear h;intro hc72 h
 refine bif_pos hc72 ?_
 try simp only [ls]
 conv=>lhs;whnf
 revert h
 exact fun h=>cq (hcont10 (((s3++y16)++y70),IntKind.i64.wrap (s4+1)) (fun _=>0) h)
 intro h;cases sj h
 exact kq (hr11 (fun _=>0))
 refine lrc ?_ ?_
 intro v e;subst e;cases sj h;rfl
 intro x74 a73 e;subst e
 dsimp only at h
 conv=>lhs;whnf
 revert h
 exact rz
theorem all_ref03_show : ∀ n, IH_ref03_show n
  | 0 => by unfold IH_ref03_show OK_ref03_show; intros; rename_i h; exact absurd h (by intro h; cases h)
  | n + 1 => have ih := all_ref03_show n
    st_ref03_show n ih
theorem ok_ref03_show {n : Nat} : OK_ref03_show n := (all_ref03_show n)
theorem ok_ref03_Show {n:Nat} ⦃v0_l:(List S_api_Stmt)⦄ ⦃v1_deep:Int⦄ ⦃r:(List UInt8)⦄:m_ref03_Show n v0_l v1_deep=some r→CN n 41 [AV.sl 9 (List.map c_api_Stmt v0_l),iA v1_deep] []=some (sA r,[]):=by
 intro h;rcases n with _|n;cases h
 rw [m_ref03_Show] at h
 refine callN_eq' Tryz.func41 (by rfl) rfl rfl (Nat.le_of_ble_eq_true rfl) ?_
 intro call hc;conv=>lhs;whnf
 revert h
 refine ca hc (fun _ h=>ok_ref03_Right h) ?_;intro y1
 refine br ?_ ?_
 refine br ?_ ?_
 exact rz
 refine br ?_ ?_
 exact rz
 refine cr hc (fun _ h=>ok_ref03_show h) ?_;intro y6
 exact rz
 exact rz
end Go.Proofs.YtgelgahilfojdaaGreat
end
section
namespace Go.Proofs.YtgelgahilfojdaaGreat
set_option linter.unusedVariables false
set_option linter.unusedSimpArgs false
set_option maxRecDepth 100000
set_option maxHeartbeats 4000000
theorem ok_ref04_Right {n:Nat} ⦃v0_p:S_api_Prog⦄ ⦃r:Bool⦄:m_ref04_Right n v0_p=some r→CN n 21 [AV.agg [iA v0_p.f_Mod,AV.sl 3 (List.map c_api_Var v0_p.f_Locs),AV.sl 4 (List.map c_api_Thread v0_p.f_Threads),AV.sl 3 (List.map c_api_Claim v0_p.f_Claims)]] []=some (bA r,[]):=by
 intro h;rcases n with _|n;cases h
 rw [m_ref04_Right] at h
 refine callN_eq' Tryz.func21 (by rfl) rfl rfl (Nat.le_of_ble_eq_true rfl) ?_
 intro call hc;conv=>lhs;whnf
 revert h
 refine ca hc (fun _ h=>ok_ref04_in h) ?_;intro y1
 refine br ?_ ?_
 intro h;refine bind_some2 h ?_;clear h;intro o12 ho12 h
 refine lq (σ:=Int) (τ:=Unit) (ν:=Bool) 0 (fun s4 a6=>stOf 119 [(1,AV.ptr 0 0),(3,iA s4)]) (fun s4 a6=>[Ob.var 26 [iA v0_p.f_Mod,AV.sl 3 (List.map c_api_Var v0_p.f_Locs),AV.sl 4 (List.map c_api_Thread v0_p.f_Threads),AV.sl 3 (List.map c_api_Claim v0_p.f_Claims)]]) (fun _ a24=>stOf 119 [(1,AV.ptr 0 0)]) (fun _ a24=>[Ob.var 26 [iA v0_p.f_Mod,AV.sl 3 (List.map c_api_Var v0_p.f_Locs),AV.sl 4 (List.map c_api_Thread v0_p.f_Threads),AV.sl 3 (List.map c_api_Claim v0_p.f_Claims)]]) (fun v=>(bA v,[])) (fun k s=>ref04_Right_L0 n v0_p k s) (fun s=>rfl) o12 n 0 (fun _=>0) ho12 ?_ ?_
 intro k5 s4 a6 K7 cont8 hK9 hcont10 h hr11
 replace h:ref04_Right_L0 n v0_p (k5+1) s4=some o12:=h
 rw [ref04_Right_L0] at h
 conv=>lhs;whnf
 revert h
 refine br ?_ ?_
 refine ix ?_;intro x14
 refine ca hc (fun _ h=>ok_ref01_Name h) ?_;intro y15
 refine br ?_ ?_
 refine ix ?_;intro x18
 refine ca hc (fun _ h=>ok_ref04_in h) ?_;intro y19
 refine br ?_ ?_
 refine ix ?_;intro x22
 refine br ?_ ?_
 intro h;cases sj h
 refine (hK9 _ _).trans ?_
 refine Eq.trans ?_ (Eq.symm (show _=some _ from hr11))
 conv=>lhs;whnf
 exact rq
 exact fun h=>cq (hcont10 (IntKind.i64.wrap (s4+1)) (fun _=>0) h)
 intro h;cases sj h
 refine (hK9 _ _).trans ?_
 refine Eq.trans ?_ (Eq.symm (show _=some _ from hr11))
 conv=>lhs;whnf
 exact rq
 intro h;cases sj h
 refine (hK9 _ _).trans ?_
 refine Eq.trans ?_ (Eq.symm (show _=some _ from hr11))
 conv=>lhs;whnf
 exact rq
 intro h;cases sj h
 exact kq (hr11 (fun _=>0))
 refine lrc ?_ ?_
 intro v e;subst e;cases sj h;rfl
 intro t a24 e;subst e
 dsimp only at h
 conv=>lhs;whnf
 revert h
 intro h;refine bind_some2 h ?_;clear h;intro o33 ho33 h
 refine lq (σ:=Int) (τ:=Unit) (ν:=Bool) 2 (fun s25 a27=>stOf 119 [(1,AV.ptr 0 0),(4,iA s25)]) (fun s25 a27=>[Ob.var 26 [iA v0_p.f_Mod,AV.sl 3 (List.map c_api_Var v0_p.f_Locs),AV.sl 4 (List.map c_api_Thread v0_p.f_Threads),AV.sl 3 (List.map c_api_Claim v0_p.f_Claims)]]) (fun _ a59=>stOf 119 [(1,AV.ptr 0 0)]) (fun _ a59=>[Ob.var 26 [iA v0_p.f_Mod,AV.sl 3 (List.map c_api_Var v0_p.f_Locs),AV.sl 4 (List.map c_api_Thread v0_p.f_Threads),AV.sl 3 (List.map c_api_Claim v0_p.f_Claims)]]) (fun v=>(bA v,[])) (fun k s=>ref04_Right_L1 n v0_p k s) (fun s=>rfl) o33 n 0 (fun _=>0) ho33 ?_ ?_
 intro k26 s25 a27 K28 cont29 hK30 hcont31 h hr32
 replace h:ref04_Right_L1 n v0_p (k26+1) s25=some o33:=h
 rw [ref04_Right_L1] at h
 conv=>lhs;whnf
 revert h
 refine br ?_ ?_
 refine ix ?_;intro x35
 refine ca hc (fun _ h=>ok_ref01_Name h) ?_;intro y36
 refine br ?_ ?_
 refine ca hc (fun _ h=>ok_ref03_Right h) ?_;intro y39
 refine br ?_ ?_
 refine br ?_ ?_
 intro h;cases sj h
 refine (hK30 _ _).trans ?_
 refine Eq.trans ?_ (Eq.symm (show _=some _ from hr32))
 conv=>lhs;whnf
 exact rq
 intro h;refine bind_some2 h ?_;clear h;intro o51 ho51 h
 refine lq (σ:=Int) (τ:=Unit) (ν:=Bool) 4 (fun s43 a45=>stOf 119 [(1,AV.ptr 0 0),(4,iA s25),(5,AV.ptr 1 0),(6,iA s43)]) (fun s43 a45=>[Ob.var 26 [iA v0_p.f_Mod,AV.sl 3 (List.map c_api_Var v0_p.f_Locs),AV.sl 4 (List.map c_api_Thread v0_p.f_Threads),AV.sl 3 (List.map c_api_Claim v0_p.f_Claims)],Ob.var 52 [sA x35.f_Name,AV.sl 1 (List.map encS x35.f_Regs),AV.sl 9 (List.map c_api_Stmt x35.f_Body),iA x35.f_At]]) (fun _ a57=>stOf 119 [(1,AV.ptr 0 0),(4,iA s25)]) (fun _ a57=>[Ob.var 26 [iA v0_p.f_Mod,AV.sl 3 (List.map c_api_Var v0_p.f_Locs),AV.sl 4 (List.map c_api_Thread v0_p.f_Threads),AV.sl 3 (List.map c_api_Claim v0_p.f_Claims)],Ob.var 52 [sA x35.f_Name,AV.sl 1 (List.map encS x35.f_Regs),AV.sl 9 (List.map c_api_Stmt x35.f_Body),iA x35.f_At]]) (fun v=>(bA v,[])) (fun k s=>ref04_Right_L2 n x35 k s) (fun s=>rfl) o51 n 0 (fun _=>0) ho51 ?_ ?_
 intro k44 s43 a45 K46 cont47 hK48 hcont49 h hr50
 replace h:ref04_Right_L2 n x35 (k44+1) s43=some o51:=h
 rw [ref04_Right_L2] at h
 conv=>lhs;whnf
 revert h
 refine br ?_ ?_
 refine ix ?_;intro x53
 refine ca hc (fun _ h=>ok_ref01_Name h) ?_;intro y54
 refine br ?_ ?_
 exact fun h=>cq (hcont49 (IntKind.i64.wrap (s43+1)) (fun _=>0) h)
 intro h;cases sj h
 refine (hK48 _ _).trans ?_
 conv=>lhs;whnf
 refine (hK30 _ _).trans ?_
 refine Eq.trans ?_ (Eq.symm (show _=some _ from hr50))
 conv=>lhs;whnf
 exact rq
 intro h;cases sj h
 exact kq (hr50 (fun _=>0))
 refine lrc ?_ ?_
 intro v e;subst e;cases sj h;exact hr32
 intro t a57 e;subst e
 dsimp only at h
 conv=>lhs;whnf
 revert h
 exact fun h=>cq (hcont31 (IntKind.i64.wrap (s25+1)) (fun _=>0) h)
 intro h;cases sj h
 refine (hK30 _ _).trans ?_
 refine Eq.trans ?_ (Eq.symm (show _=some _ from hr32))
 conv=>lhs;whnf
 exact rq
 intro h;cases sj h
 refine (hK30 _ _).trans ?_
 refine Eq.trans ?_ (Eq.symm (show _=some _ from hr32))
 conv=>lhs;whnf
 exact rq
 intro h;cases sj h
 exact kq (hr32 (fun _=>0))
 refine lrc ?_ ?_
 intro v e;subst e;cases sj h;rfl
 intro t a59 e;subst e
 dsimp only at h
 conv=>lhs;whnf
 revert h
 intro h;refine bind_some2 h ?_;clear h;intro o68 ho68 h
 refine lq (σ:=Int) (τ:=Unit) (ν:=Bool) 6 (fun s60 a62=>stOf 119 [(1,AV.ptr 0 0),(7,iA s60)]) (fun s60 a62=>[Ob.var 26 [iA v0_p.f_Mod,AV.sl 3 (List.map c_api_Var v0_p.f_Locs),AV.sl 4 (List.map c_api_Thread v0_p.f_Threads),AV.sl 3 (List.map c_api_Claim v0_p.f_Claims)]]) (fun _ a77=>stOf 119 []) (fun _ a77=>[Ob.var 26 [iA v0_p.f_Mod,AV.sl 3 (List.map c_api_Var v0_p.f_Locs),AV.sl 4 (List.map c_api_Thread v0_p.f_Threads),AV.sl 3 (List.map c_api_Claim v0_p.f_Claims)]]) (fun v=>(bA v,[])) (fun k s=>ref04_Right_L3 n v0_p k s) (fun s=>rfl) o68 n 0 (fun _=>0) ho68 ?_ ?_
 intro k61 s60 a62 K63 cont64 hK65 hcont66 h hr67
 replace h:ref04_Right_L3 n v0_p (k61+1) s60=some o68:=h
 rw [ref04_Right_L3] at h
 conv=>lhs;whnf
 revert h
 refine br ?_ ?_
 refine ix ?_;intro x70
 refine br ?_ ?_
 intro h;cases sj h
 refine (hK65 _ _).trans ?_
 refine Eq.trans ?_ (Eq.symm (show _=some _ from hr67))
 conv=>lhs;whnf
 exact rq
 refine br ?_ ?_
 intro h;cases sj h
 refine (hK65 _ _).trans ?_
 refine Eq.trans ?_ (Eq.symm (show _=some _ from hr67))
 conv=>lhs;whnf
 exact rq
 refine ca hc (fun _ h=>ok_ref04_claimed h) ?_;intro y73
 refine br ?_ ?_
 refine br ?_ ?_
 intro h;cases sj h
 refine (hK65 _ _).trans ?_
 refine Eq.trans ?_ (Eq.symm (show _=some _ from hr67))
 conv=>lhs;whnf
 exact rq
 exact fun h=>cq (hcont66 (IntKind.i64.wrap (s60+1)) (fun _=>0) h)
 intro h;cases sj h
 refine (hK65 _ _).trans ?_
 refine Eq.trans ?_ (Eq.symm (show _=some _ from hr67))
 conv=>lhs;whnf
 exact rq
 intro h;cases sj h
 exact kq (hr67 (fun _=>0))
 refine lrc ?_ ?_
 intro v e;subst e;cases sj h;rfl
 intro t a77 e;subst e
 dsimp only at h
 conv=>lhs;whnf
 revert h
 exact rz
 exact rz
theorem ok_ref04_Show {n:Nat} ⦃v0_p:S_api_Prog⦄ ⦃r:(List UInt8)⦄:m_ref04_Show n v0_p=some r→CN n 12 [AV.agg [iA v0_p.f_Mod,AV.sl 3 (List.map c_api_Var v0_p.f_Locs),AV.sl 4 (List.map c_api_Thread v0_p.f_Threads),AV.sl 3 (List.map c_api_Claim v0_p.f_Claims)]] []=some (sA r,[]):=by
 intro h;rcases n with _|n;cases h
 rw [m_ref04_Show] at h
 refine callN_eq' Tryz.func12 (by rfl) rfl rfl (Nat.le_of_ble_eq_true rfl) ?_
 intro call hc;conv=>lhs;whnf
 revert h
 refine ca hc (fun _ h=>ok_ref04_Right h) ?_;intro y1
 refine br ?_ ?_
 refine ca hc (fun _ h=>ok_ref01_Digits h) ?_;intro y4
 intro h
 refine chk_some2 h ?_;clear h;intro hc6 h
 refine bif_pos hc6 ?_
 try simp only [ls]
 conv=>lhs;whnf
 revert h
 intro h
 refine chk_some2 h ?_;clear h;intro hc7 h
 refine bif_pos hc7 ?_
 try simp only [ls]
 conv=>lhs;whnf
 revert h
 intro h;refine bind_some2 h ?_;clear h;intro o17 ho17 h
 refine lq (σ:=((List UInt8)×Int)) (τ:=(List UInt8)) (ν:=(List UInt8)) 0 (fun (s8,s9) a11=>stOf 125 [(1,AV.ptr 0 0),(3,sA s8),(4,iA s9)]) (fun (s8,s9) a11=>[Ob.var 26 [iA v0_p.f_Mod,AV.sl 3 (List.map c_api_Var v0_p.f_Locs),AV.sl 4 (List.map c_api_Thread v0_p.f_Threads),AV.sl 3 (List.map c_api_Claim v0_p.f_Claims)]]) (fun x29 a28=>stOf 125 [(1,AV.ptr 0 0),(3,sA x29)]) (fun x29 a28=>[Ob.var 26 [iA v0_p.f_Mod,AV.sl 3 (List.map c_api_Var v0_p.f_Locs),AV.sl 4 (List.map c_api_Thread v0_p.f_Threads),AV.sl 3 (List.map c_api_Claim v0_p.f_Claims)]]) (fun v=>(sA v,[])) (fun k s=>ref04_Show_L0 n v0_p k s.1 s.2) (fun s=>rfl) o17 n (((([109,111,100,32]:List UInt8)++y4)++([59,10]:List UInt8)),0) (fun _=>0) ho17 ?_ ?_
 intro k10 ss a11 K12 cont13 hK14 hcont15 h hr16
 obtain ⟨s8,s9⟩:=ss
 replace h:ref04_Show_L0 n v0_p (k10+1) s8 s9=some o17:=h
 rw [ref04_Show_L0] at h
 conv=>lhs;whnf
 revert h
 refine br ?_ ?_
 intro h
 refine chk_some2 h ?_;clear h;intro hc19 h
 refine bif_pos hc19 ?_
 try simp only [ls]
 conv=>lhs;whnf
 revert h
 refine ix ?_;intro x20
 intro h
 refine chk_some2 h ?_;clear h;intro hc21 h
 refine bif_pos hc21 ?_
 try simp only [ls]
 conv=>lhs;whnf
 revert h
 intro h
 refine chk_some2 h ?_;clear h;intro hc22 h
 refine bif_pos hc22 ?_
 try simp only [ls]
 conv=>lhs;whnf
 revert h
 refine ix ?_;intro x23
 refine ca hc (fun _ h=>ok_ref01_Digits h) ?_;intro y24
 intro h
 refine chk_some2 h ?_;clear h;intro hc26 h
 refine bif_pos hc26 ?_
 try simp only [ls]
 conv=>lhs;whnf
 revert h
 intro h
 refine chk_some2 h ?_;clear h;intro hc27 h
 refine bif_pos hc27 ?_
 try simp only [ls]
 conv=>lhs;whnf
 revert h
 exact fun h=>cq (hcont15 ((((((s8++([108,111,99,32]:List UInt8))++x20.f_Name)++([32,61,32]:List UInt8))++y24)++([59,10]:List UInt8)),IntKind.i64.wrap (s9+1)) (fun _=>0) h)
 intro h;cases sj h
 exact kq (hr16 (fun _=>0))
 refine lrc ?_ ?_
 intro v e;subst e;cases sj h;rfl
 intro x29 a28 e;subst e
 dsimp only at h
 conv=>lhs;whnf
 revert h
 intro h;refine bind_some2 h ?_;clear h;intro o39 ho39 h
 refine lq (σ:=((List UInt8)×Int)) (τ:=(List UInt8)) (ν:=(List UInt8)) 2 (fun (s30,s31) a33=>stOf 125 [(1,AV.ptr 0 0),(3,sA s30),(5,iA s31)]) (fun (s30,s31) a33=>[Ob.var 26 [iA v0_p.f_Mod,AV.sl 3 (List.map c_api_Var v0_p.f_Locs),AV.sl 4 (List.map c_api_Thread v0_p.f_Threads),AV.sl 3 (List.map c_api_Claim v0_p.f_Claims)]]) (fun x77 a76=>stOf 125 [(1,AV.ptr 0 0),(3,sA x77)]) (fun x77 a76=>[Ob.var 26 [iA v0_p.f_Mod,AV.sl 3 (List.map c_api_Var v0_p.f_Locs),AV.sl 4 (List.map c_api_Thread v0_p.f_Threads),AV.sl 3 (List.map c_api_Claim v0_p.f_Claims)]]) (fun v=>(sA v,[])) (fun k s=>ref04_Show_L1 n v0_p k s.1 s.2) (fun s=>rfl) o39 n (x29,0) (fun _=>0) ho39 ?_ ?_
 intro k32 ss a33 K34 cont35 hK36 hcont37 h hr38
 obtain ⟨s30,s31⟩:=ss
 replace h:ref04_Show_L1 n v0_p (k32+1) s30 s31=some o39:=h
 rw [ref04_Show_L1] at h
 conv=>lhs;whnf
 revert h
 refine br ?_ ?_
 refine ix ?_;intro x41
 intro h
 refine chk_some2 h ?_;clear h;intro hc42 h
 refine bif_pos hc42 ?_
 try simp only [ls]
 conv=>lhs;whnf
 revert h
 intro h
 refine chk_some2 h ?_;clear h;intro hc43 h
 refine bif_pos hc43 ?_
 try simp only [ls]
 conv=>lhs;whnf
 revert h
 intro h
 refine chk_some2 h ?_;clear h;intro hc44 h
 refine bif_pos hc44 ?_
 try simp only [ls]
 conv=>lhs;whnf
 revert h
 intro h;refine bind_some2 h ?_;clear h;intro o54 ho54 h
 refine lq (σ:=((List UInt8)×Int)) (τ:=(List UInt8)) (ν:=(List UInt8)) 4 (fun (s45,s46) a48=>stOf 125 [(1,AV.ptr 0 0),(3,sA s45),(5,iA s31),(6,AV.ptr 1 0),(7,iA s46)]) (fun (s45,s46) a48=>[Ob.var 26 [iA v0_p.f_Mod,AV.sl 3 (List.map c_api_Var v0_p.f_Locs),AV.sl 4 (List.map c_api_Thread v0_p.f_Threads),AV.sl 3 (List.map c_api_Claim v0_p.f_Claims)],Ob.var 52 [sA x41.f_Name,AV.sl 1 (List.map encS x41.f_Regs),AV.sl 9 (List.map c_api_Stmt x41.f_Body),iA x41.f_At]]) (fun x64 a63=>stOf 125 [(1,AV.ptr 0 0),(3,sA x64),(5,iA s31),(6,AV.ptr 1 0)]) (fun x64 a63=>[Ob.var 26 [iA v0_p.f_Mod,AV.sl 3 (List.map c_api_Var v0_p.f_Locs),AV.sl 4 (List.map c_api_Thread v0_p.f_Threads),AV.sl 3 (List.map c_api_Claim v0_p.f_Claims)],Ob.var 52 [sA x41.f_Name,AV.sl 1 (List.map encS x41.f_Regs),AV.sl 9 (List.map c_api_Stmt x41.f_Body),iA x41.f_At]]) (fun v=>(sA v,[])) (fun k s=>ref04_Show_L2 n x41 k s.1 s.2) (fun s=>rfl) o54 n ((((s30++([116,104,114,101,97,100,32]:List UInt8))++x41.f_Name)++([32,123,10]:List UInt8)),0) (fun _=>0) ho54 ?_ ?_
 intro k47 ss a48 K49 cont50 hK51 hcont52 h hr53
 obtain ⟨s45,s46⟩:=ss
 replace h:ref04_Show_L2 n x41 (k47+1) s45 s46=some o54:=h
 rw [ref04_Show_L2] at h
 conv=>lhs;whnf
 revert h
 refine br ?_ ?_
 refine br ?_ ?_
 intro h
 refine chk_some2 h ?_;clear h;intro hc57 h
 refine bif_pos hc57 ?_
 try simp only [ls]
 conv=>lhs;whnf
 revert h
 refine ix ?_;intro x58
 intro h
 refine chk_some2 h ?_;clear h;intro hc59 h
 refine bif_pos hc59 ?_
 try simp only [ls]
 conv=>lhs;whnf
 revert h
 exact fun h=>cq (hcont52 (((s45++([32,32,114,101,103,32]:List UInt8))++x58),IntKind.i64.wrap (s46+1)) (fun _=>0) h)
 intro h
 refine chk_some2 h ?_;clear h;intro hc60 h
 refine bif_pos hc60 ?_
 try simp only [ls]
 conv=>lhs;whnf
 revert h
 refine ix ?_;intro x61
 intro h
 refine chk_some2 h ?_;clear h;intro hc62 h
 refine bif_pos hc62 ?_
 try simp only [ls]
 conv=>lhs;whnf
 revert h
 exact fun h=>cq (hcont52 (((s45++([44,32]:List UInt8))++x61),IntKind.i64.wrap (s46+1)) (fun _=>0) h)
 intro h;cases sj h
 exact kq (hr53 (fun _=>0))
 refine lrc ?_ ?_
 intro v e;subst e;cases sj h;exact hr38
 intro x64 a63 e;subst e
 dsimp only at h
 conv=>lhs;whnf
 revert h
 refine br ?_ ?_
 intro h
 refine chk_some2 h ?_;clear h;intro hc66 h
 refine bif_pos hc66 ?_
 try simp only [ls]
 conv=>lhs;whnf
 revert h
 refine ca hc (fun _ h=>ok_ref03_Show h) ?_;intro y67
 intro h
 refine chk_some2 h ?_;clear h;intro hc69 h
 refine bif_pos hc69 ?_
 try simp only [ls]
 conv=>lhs;whnf
 revert h
 intro h
 refine chk_some2 h ?_;clear h;intro hc70 h
 refine bif_pos hc70 ?_
 try simp only [ls]
 conv=>lhs;whnf
 revert h
 exact fun h=>cq (hcont37 ((((x64++([59,10]:List UInt8))++y67)++([125,10]:List UInt8)),IntKind.i64.wrap (s31+1)) (fun _=>0) h)
 refine ca hc (fun _ h=>ok_ref03_Show h) ?_;intro y71
 intro h
 refine chk_some2 h ?_;clear h;intro hc73 h
 refine bif_pos hc73 ?_
 try simp only [ls]
 conv=>lhs;whnf
 revert h
 intro h
 refine chk_some2 h ?_;clear h;intro hc74 h
 refine bif_pos hc74 ?_
 try simp only [ls]
 conv=>lhs;whnf
 revert h
 exact fun h=>cq (hcont37 (((x64++y71)++([125,10]:List UInt8)),IntKind.i64.wrap (s31+1)) (fun _=>0) h)
 intro h;cases sj h
 exact kq (hr38 (fun _=>0))
 refine lrc ?_ ?_
 intro v e;subst e;cases sj h;rfl
 intro x77 a76 e;subst e
 dsimp only at h
 conv=>lhs;whnf
 revert h
 intro h;refine bind_some2 h ?_;clear h;intro o87 ho87 h
 refine lq (σ:=((List UInt8)×Int)) (τ:=(List UInt8)) (ν:=(List UInt8)) 6 (fun (s78,s79) a81=>stOf 125 [(1,AV.ptr 0 0),(3,sA s78),(8,iA s79)]) (fun (s78,s79) a81=>[Ob.var 26 [iA v0_p.f_Mod,AV.sl 3 (List.map c_api_Var v0_p.f_Locs),AV.sl 4 (List.map c_api_Thread v0_p.f_Threads),AV.sl 3 (List.map c_api_Claim v0_p.f_Claims)]]) (fun x100 a99=>stOf 125 [(3,sA x100)]) (fun x100 a99=>[Ob.var 26 [iA v0_p.f_Mod,AV.sl 3 (List.map c_api_Var v0_p.f_Locs),AV.sl 4 (List.map c_api_Thread v0_p.f_Threads),AV.sl 3 (List.map c_api_Claim v0_p.f_Claims)]]) (fun v=>(sA v,[])) (fun k s=>ref04_Show_L3 n v0_p k s.1 s.2) (fun s=>rfl) o87 n (x77,0) (fun _=>0) ho87 ?_ ?_
 intro k80 ss a81 K82 cont83 hK84 hcont85 h hr86
 obtain ⟨s78,s79⟩:=ss
 replace h:ref04_Show_L3 n v0_p (k80+1) s78 s79=some o87:=h
 rw [ref04_Show_L3] at h
 conv=>lhs;whnf
 revert h
 refine br ?_ ?_
 refine ix ?_;intro x89
 refine ca hc (fun _ h=>ok_ref04_word h) ?_;intro y90
 intro h
 refine chk_some2 h ?_;clear h;intro hc92 h
 refine bif_pos hc92 ?_
 try simp only [ls]
 conv=>lhs;whnf
 revert h
 intro h
 refine chk_some2 h ?_;clear h;intro hc93 h
 refine bif_pos hc93 ?_
 try simp only [ls]
 conv=>lhs;whnf
 revert h
 refine ix ?_;intro x94
 refine ca hc (fun _ h=>ok_ref02_Show h) ?_;intro y95
 intro h
 refine chk_some2 h ?_;clear h;intro hc97 h
 refine bif_pos hc97 ?_
 try simp only [ls]
 conv=>lhs;whnf
 revert h
 intro h
 refine chk_some2 h ?_;clear h;intro hc98 h
 refine bif_pos hc98 ?_
 try simp only [ls]
 conv=>lhs;whnf
 revert h
 exact fun h=>cq (hcont85 (((((s78++y90)++([32]:List UInt8))++y95)++([59,10]:List UInt8)),IntKind.i64.wrap (s79+1)) (fun _=>0) h)
 intro h;cases sj h
 exact kq (hr86 (fun _=>0))
 refine lrc ?_ ?_
 intro v e;subst e;cases sj h;rfl
 intro x100 a99 e;subst e
 dsimp only at h
 conv=>lhs;whnf
 revert h
 exact rz
 exact rz
theorem ok_ref04_nodes {n:Nat} ⦃v0_l:(List S_api_Node)⦄ ⦃r:(List S_api_Node)⦄:m_ref04_nodes n v0_l=some r→CN n 70 [AV.sl 5 (List.map c_api_Node v0_l)] []=some (AV.sl 5 (List.map c_api_Node r),[]):=by
 intro h;rcases n with _|n;cases h
 rw [m_ref04_nodes] at h
 refine callN_eq' Tryz.func70 (by rfl) rfl rfl (Nat.le_of_ble_eq_true rfl) ?_
 intro call hc;conv=>lhs;whnf
 revert h
 intro h;refine bind_some2 h ?_;clear h;intro o10 ho10 h
 refine lq (σ:=(Int×(List S_api_Node))) (τ:=(List S_api_Node)) (ν:=(List S_api_Node)) 0 (fun (s1,s2) a4=>stOf 22 [(0,AV.sl 5 (List.map c_api_Node v0_l)),(3,AV.row 0 (List.length s2)),(4,iA s1)]) (fun (s1,s2) a4=>[Ob.row 85 5 (List.map c_api_Node s2)]) (fun x16 a15=>stOf 22 [(3,AV.row 0 (List.length x16))]) (fun x16 a15=>[Ob.row 85 5 (List.map c_api_Node x16)]) (fun v=>(AV.sl 5 (List.map c_api_Node v),[])) (fun k s=>ref04_nodes_L0 n v0_l k s.1 s.2) (fun s=>rfl) o10 n (0,([]:List S_api_Node)) (fun _=>0) ho10 ?_ ?_
 intro k3 ss a4 K5 cont6 hK7 hcont8 h hr9
 obtain ⟨s1,s2⟩:=ss
 replace h:ref04_nodes_L0 n v0_l (k3+1) s1 s2=some o10:=h
 rw [ref04_nodes_L0] at h
 conv=>lhs;whnf
 revert h
 refine br ?_ ?_
 refine ix ?_;intro x12
 refine ar (ap c_api_Node (List.map c_api_Node s2) s2 ([[iA x12.f_Op,iA x12.f_N,sA x12.f_Name,sA x12.f_In,iA (0)]]) ([(⟨x12.f_Op,x12.f_N,x12.f_Name,x12.f_In,0⟩:S_api_Node)]:List S_api_Node)) ?_
 exact fun h=>cq (hcont8 (IntKind.i64.wrap (s1+1),(s2++([(⟨x12.f_Op,x12.f_N,x12.f_Name,x12.f_In,0⟩:S_api_Node)]:List S_api_Node))) (fun _=>0) h)
 intro h;cases sj h
 exact kq (hr9 (fun _=>0))
 refine lrc ?_ ?_
 intro v e;subst e;cases sj h;rfl
 intro x16 a15 e;subst e
 dsimp only at h
 conv=>lhs;whnf
 revert h
 intro h;obtain rfl:=sj h
 try simp only [ls]
 exact fq (y:=some (AV.sl 5 (List.take (List.length x16) (List.map c_api_Node x16)),[]))
theorem ok_ref04_Bare {n:Nat} ⦃v0_p:S_api_Prog⦄ ⦃r:S_api_Prog⦄:m_ref04_Bare n v0_p=some r→CN n 40 [AV.agg [iA v0_p.f_Mod,AV.sl 3 (List.map c_api_Var v0_p.f_Locs),AV.sl 4 (List.map c_api_Thread v0_p.f_Threads),AV.sl 3 (List.map c_api_Claim v0_p.f_Claims)]] []=some (AV.agg [iA r.f_Mod,AV.sl 3 (List.map c_api_Var r.f_Locs),AV.sl 4 (List.map c_api_Thread r.f_Threads),AV.sl 3 (List.map c_api_Claim r.f_Claims)],[]):=by
 intro h;rcases n with _|n;cases h
 rw [m_ref04_Bare] at h
 refine callN_eq' Tryz.func40 (by rfl) rfl rfl (Nat.le_of_ble_eq_true rfl) ?_
 intro call hc;conv=>lhs;whnf
 revert h
 intro h;refine bind_some2 h ?_;clear h;intro o10 ho10 h
 refine lq (σ:=(Int×(List S_api_Var))) (τ:=(List S_api_Var)) (ν:=S_api_Prog) 0 (fun (s1,s2) a4=>stOf 125 [(1,AV.ptr 0 0),(2,AV.ptr 1 0),(3,AV.ptr 2 0),(4,iA s1)]) (fun (s1,s2) a4=>[Ob.var 26 [iA v0_p.f_Mod,AV.sl 3 (List.map c_api_Var v0_p.f_Locs),AV.sl 4 (List.map c_api_Thread v0_p.f_Threads),AV.sl 3 (List.map c_api_Claim v0_p.f_Claims)],Ob.var 26 [iA (0),AV.row 3 (List.length (([]:List S_api_Var))),AV.row 4 (List.length (([]:List S_api_Thread))),AV.row 5 (List.length (([]:List S_api_Claim)))],Ob.var 26 [iA v0_p.f_Mod,AV.row 6 (List.length s2),AV.row 7 (List.length (([]:List S_api_Thread))),AV.row 8 (List.length (([]:List S_api_Claim)))],Ob.row 48 3 ([]),Ob.row 52 4 ([]),Ob.row 57 3 ([]),Ob.row 48 3 (List.map c_api_Var s2),Ob.row 52 4 ([]),Ob.row 57 3 ([])]) (fun x16 a15=>stOf 125 [(1,AV.ptr 0 0),(2,AV.ptr 1 0),(3,AV.ptr 2 0)]) (fun x16 a15=>[Ob.var 26 [iA v0_p.f_Mod,AV.sl 3 (List.map c_api_Var v0_p.f_Locs),AV.sl 4 (List.map c_api_Thread v0_p.f_Threads),AV.sl 3 (List.map c_api_Claim v0_p.f_Claims)],Ob.var 26 [iA (0),AV.row 3 (List.length (([]:List S_api_Var))),AV.row 4 (List.length (([]:List S_api_Thread))),AV.row 5 (List.length (([]:List S_api_Claim)))],Ob.var 26 [iA v0_p.f_Mod,AV.row 6 (List.length x16),AV.row 7 (List.length (([]:List S_api_Thread))),AV.row 8 (List.length (([]:List S_api_Claim)))],Ob.row 48 3 ([]),Ob.row 52 4 ([]),Ob.row 57 3 ([]),Ob.row 48 3 (List.map c_api_Var x16),Ob.row 52 4 ([]),Ob.row 57 3 ([])]) (fun v=>(AV.agg [iA v.f_Mod,AV.sl 3 (List.map c_api_Var v.f_Locs),AV.sl 4 (List.map c_api_Thread v.f_Threads),AV.sl 3 (List.map c_api_Claim v.f_Claims)],[])) (fun k s=>ref04_Bare_L0 n v0_p k s.1 s.2) (fun s=>rfl) o10 n (0,([]:List S_api_Var)) (fun _=>0) ho10 ?_ ?_
 intro k3 ss a4 K5 cont6 hK7 hcont8 h hr9
 obtain ⟨s1,s2⟩:=ss
 replace h:ref04_Bare_L0 n v0_p (k3+1) s1 s2=some o10:=h
 rw [ref04_Bare_L0] at h
 conv=>lhs;whnf
 revert h
 refine br ?_ ?_
 refine ix ?_;intro x12
 refine ar (ap c_api_Var (List.map c_api_Var s2) s2 ([[sA x12.f_Name,iA x12.f_N,iA (0)]]) ([(⟨x12.f_Name,x12.f_N,0⟩:S_api_Var)]:List S_api_Var)) ?_
 exact fun h=>cq (hcont8 (IntKind.i64.wrap (s1+1),(s2++([(⟨x12.f_Name,x12.f_N,0⟩:S_api_Var)]:List S_api_Var))) (fun _=>0) h)
 intro h;cases sj h
 exact kq (hr9 (fun _=>0))
 refine lrc ?_ ?_
 intro v e;subst e;cases sj h;rfl
 intro x16 a15 e;subst e
 dsimp only at h
 conv=>lhs;whnf
 revert h
 intro h;refine bind_some2 h ?_;clear h;intro o26 ho26 h
 refine lq (σ:=(Int×(List S_api_Thread))) (τ:=(List S_api_Thread)) (ν:=S_api_Prog) 2 (fun (s17,s18) a20=>stOf 125 [(1,AV.ptr 0 0),(2,AV.ptr 1 0),(3,AV.ptr 2 0),(6,iA s17)]) (fun (s17,s18) a20=>[Ob.var 26 [iA v0_p.f_Mod,AV.sl 3 (List.map c_api_Var v0_p.f_Locs),AV.sl 4 (List.map c_api_Thread v0_p.f_Threads),AV.sl 3 (List.map c_api_Claim v0_p.f_Claims)],Ob.var 26 [iA (0),AV.row 3 (List.length (([]:List S_api_Var))),AV.row 4 (List.length (([]:List S_api_Thread))),AV.row 5 (List.length (([]:List S_api_Claim)))],Ob.var 26 [iA v0_p.f_Mod,AV.row 6 (List.length x16),AV.row 7 (List.length s18),AV.row 8 (List.length (([]:List S_api_Claim)))],Ob.row 48 3 ([]),Ob.row 52 4 ([]),Ob.row 57 3 ([]),Ob.row 48 3 (List.map c_api_Var x16),Ob.row 52 4 (List.map c_api_Thread s18),Ob.row 57 3 ([])]) (fun x57 a56=>stOf 125 [(1,AV.ptr 0 0),(2,AV.ptr 1 0),(3,AV.ptr 2 0)]) (fun x57 a56=>[Ob.var 26 [iA v0_p.f_Mod,AV.sl 3 (List.map c_api_Var v0_p.f_Locs),AV.sl 4 (List.map c_api_Thread v0_p.f_Threads),AV.sl 3 (List.map c_api_Claim v0_p.f_Claims)],Ob.var 26 [iA (0),AV.row 3 (List.length (([]:List S_api_Var))),AV.row 4 (List.length (([]:List S_api_Thread))),AV.row 5 (List.length (([]:List S_api_Claim)))],Ob.var 26 [iA v0_p.f_Mod,AV.row 6 (List.length x16),AV.row 7 (List.length x57),AV.row 8 (List.length (([]:List S_api_Claim)))],Ob.row 48 3 ([]),Ob.row 52 4 ([]),Ob.row 57 3 ([]),Ob.row 48 3 (List.map c_api_Var x16),Ob.row 52 4 (List.map c_api_Thread x57),Ob.row 57 3 ([])]) (fun v=>(AV.agg [iA v.f_Mod,AV.sl 3 (List.map c_api_Var v.f_Locs),AV.sl 4 (List.map c_api_Thread v.f_Threads),AV.sl 3 (List.map c_api_Claim v.f_Claims)],[])) (fun k s=>ref04_Bare_L1 n v0_p k s.1 s.2) (fun s=>rfl) o26 n (0,([]:List S_api_Thread)) (fun _=>0) ho26 ?_ ?_
 intro k19 ss a20 K21 cont22 hK23 hcont24 h hr25
 obtain ⟨s17,s18⟩:=ss
 replace h:ref04_Bare_L1 n v0_p (k19+1) s17 s18=some o26:=h
 rw [ref04_Bare_L1] at h
 conv=>lhs;whnf
 revert h
 refine br ?_ ?_
 refine ix ?_;intro x28
 refine ix ?_;intro x29
 refine cn ?_
 intro h;refine bind_some2 h ?_;clear h;intro o40 ho40 h
 refine lq (σ:=(Int×(List S_api_Stmt))) (τ:=(List S_api_Stmt)) (ν:=S_api_Prog) 4 (fun (s31,s32) a34=>stOf 125 [(1,AV.ptr 0 0),(2,AV.ptr 1 0),(3,AV.ptr 2 0),(6,iA s17),(7,AV.ptr 9 0),(8,iA s31)]) (fun (s31,s32) a34=>[Ob.var 26 [iA v0_p.f_Mod,AV.sl 3 (List.map c_api_Var v0_p.f_Locs),AV.sl 4 (List.map c_api_Thread v0_p.f_Threads),AV.sl 3 (List.map c_api_Claim v0_p.f_Claims)],Ob.var 26 [iA (0),AV.row 3 (List.length (([]:List S_api_Var))),AV.row 4 (List.length (([]:List S_api_Thread))),AV.row 5 (List.length (([]:List S_api_Claim)))],Ob.var 26 [iA v0_p.f_Mod,AV.row 6 (List.length x16),AV.row 7 (List.length s18),AV.row 8 (List.length (([]:List S_api_Claim)))],Ob.row 48 3 ([]),Ob.row 52 4 ([]),Ob.row 57 3 ([]),Ob.row 48 3 (List.map c_api_Var x16),Ob.row 52 4 (List.map c_api_Thread s18),Ob.row 57 3 ([]),Ob.var 52 [sA x28.f_Name,AV.sl 1 (List.map encS x29.f_Regs),AV.row 10 (List.length s32),iA (0)],Ob.row 82 9 (List.map c_api_Stmt s32)]) (fun x52 a51=>stOf 125 [(1,AV.ptr 0 0),(2,AV.ptr 1 0),(3,AV.ptr 2 0),(6,iA s17),(7,AV.ptr 9 0)]) (fun x52 a51=>[Ob.var 26 [iA v0_p.f_Mod,AV.sl 3 (List.map c_api_Var v0_p.f_Locs),AV.sl 4 (List.map c_api_Thread v0_p.f_Threads),AV.sl 3 (List.map c_api_Claim v0_p.f_Claims)],Ob.var 26 [iA (0),AV.row 3 (List.length (([]:List S_api_Var))),AV.row 4 (List.length (([]:List S_api_Thread))),AV.row 5 (List.length (([]:List S_api_Claim)))],Ob.var 26 [iA v0_p.f_Mod,AV.row 6 (List.length x16),AV.row 7 (List.length s18),AV.row 8 (List.length (([]:List S_api_Claim)))],Ob.row 48 3 ([]),Ob.row 52 4 ([]),Ob.row 57 3 ([]),Ob.row 48 3 (List.map c_api_Var x16),Ob.row 52 4 (List.map c_api_Thread s18),Ob.row 57 3 ([]),Ob.var 52 [sA x28.f_Name,AV.sl 1 (List.map encS x29.f_Regs),AV.row 10 (List.length x52),iA (0)],Ob.row 82 9 (List.map c_api_Stmt x52)]) (fun v=>(AV.agg [iA v.f_Mod,AV.sl 3 (List.map c_api_Var v.f_Locs),AV.sl 4 (List.map c_api_Thread v.f_Threads),AV.sl 3 (List.map c_api_Claim v.f_Claims)],[])) (fun k s=>ref04_Bare_L2 n v0_p s17 k s.1 s.2) (fun s=>rfl) o40 n (0,([]:List S_api_Stmt)) (fun _=>0) ho40 ?_ ?_
 intro k33 ss a34 K35 cont36 hK37 hcont38 h hr39
 obtain ⟨s31,s32⟩:=ss
 replace h:ref04_Bare_L2 n v0_p s17 (k33+1) s31 s32=some o40:=h
 rw [ref04_Bare_L2] at h
 conv=>lhs;whnf
 revert h
 refine ix ?_;intro x41
 refine br ?_ ?_
 refine ix ?_;intro x43
 refine ix ?_;intro x44
 refine ca hc (fun _ h=>ok_ref04_nodes h) ?_;intro y45
 refine ca hc (fun _ h=>ok_ref04_nodes h) ?_;intro y47
 refine ar (ap c_api_Stmt (List.map c_api_Stmt s32) s32 ([[iA x44.f_Kind,sA x44.f_Reg,sA x44.f_Loc,AV.sl 5 (List.map c_api_Node y45),AV.sl 5 (List.map c_api_Node y47),bA x44.f_Ne,iA x44.f_Body,iA x44.f_Else,iA (0)]]) ([(⟨x44.f_Kind,x44.f_Reg,x44.f_Loc,y45,y47,x44.f_Ne,x44.f_Body,x44.f_Else,0⟩:S_api_Stmt)]:List S_api_Stmt)) ?_
 exact fun h=>cq (hcont38 (IntKind.i64.wrap (s31+1),(s32++([(⟨x44.f_Kind,x44.f_Reg,x44.f_Loc,y45,y47,x44.f_Ne,x44.f_Body,x44.f_Else,0⟩:S_api_Stmt)]:List S_api_Stmt))) (fun _=>0) h)
 intro h;cases sj h
 exact kq (hr39 (fun _=>0))
 refine lrc ?_ ?_
 intro v e;subst e;cases sj h;exact hr25
 intro x52 a51 e;subst e
 dsimp only at h
 conv=>lhs;whnf
 revert h
 refine ar (ap c_api_Thread (List.map c_api_Thread s18) s18 ([[sA x28.f_Name,AV.sl 1 (List.map encS x29.f_Regs),AV.sl 9 (List.map c_api_Stmt x52),iA (0)]]) ([(⟨x28.f_Name,x29.f_Regs,x52,0⟩:S_api_Thread)]:List S_api_Thread)) ?_
 exact fun h=>cq (hcont24 (IntKind.i64.wrap (s17+1),(s18++([(⟨x28.f_Name,x29.f_Regs,x52,0⟩:S_api_Thread)]:List S_api_Thread))) (fun _=>0) h)
 intro h;cases sj h
 exact kq (hr25 (fun _=>0))
 refine lrc ?_ ?_
 intro v e;subst e;cases sj h;rfl
 intro x57 a56 e;subst e
 dsimp only at h
 conv=>lhs;whnf
 revert h
 intro h;refine bind_some2 h ?_;clear h;intro o67 ho67 h
 refine lq (σ:=(Int×(List S_api_Claim))) (τ:=(List S_api_Claim)) (ν:=S_api_Prog) 6 (fun (s58,s59) a61=>stOf 125 [(1,AV.ptr 0 0),(2,AV.ptr 1 0),(3,AV.ptr 2 0),(10,iA s58)]) (fun (s58,s59) a61=>[Ob.var 26 [iA v0_p.f_Mod,AV.sl 3 (List.map c_api_Var v0_p.f_Locs),AV.sl 4 (List.map c_api_Thread v0_p.f_Threads),AV.sl 3 (List.map c_api_Claim v0_p.f_Claims)],Ob.var 26 [iA (0),AV.row 3 (List.length (([]:List S_api_Var))),AV.row 4 (List.length (([]:List S_api_Thread))),AV.row 5 (List.length (([]:List S_api_Claim)))],Ob.var 26 [iA v0_p.f_Mod,AV.row 6 (List.length x16),AV.row 7 (List.length x57),AV.row 8 (List.length s59)],Ob.row 48 3 ([]),Ob.row 52 4 ([]),Ob.row 57 3 ([]),Ob.row 48 3 (List.map c_api_Var x16),Ob.row 52 4 (List.map c_api_Thread x57),Ob.row 57 3 (List.map c_api_Claim s59)]) (fun x76 a75=>stOf 125 [(2,AV.ptr 1 0),(3,AV.ptr 2 0)]) (fun x76 a75=>[Ob.var 26 [iA v0_p.f_Mod,AV.sl 3 (List.map c_api_Var v0_p.f_Locs),AV.sl 4 (List.map c_api_Thread v0_p.f_Threads),AV.sl 3 (List.map c_api_Claim v0_p.f_Claims)],Ob.var 26 [iA (0),AV.row 3 (List.length (([]:List S_api_Var))),AV.row 4 (List.length (([]:List S_api_Thread))),AV.row 5 (List.length (([]:List S_api_Claim)))],Ob.var 26 [iA v0_p.f_Mod,AV.row 6 (List.length x16),AV.row 7 (List.length x57),AV.row 8 (List.length x76)],Ob.row 48 3 ([]),Ob.row 52 4 ([]),Ob.row 57 3 ([]),Ob.row 48 3 (List.map c_api_Var x16),Ob.row 52 4 (List.map c_api_Thread x57),Ob.row 57 3 (List.map c_api_Claim x76)]) (fun v=>(AV.agg [iA v.f_Mod,AV.sl 3 (List.map c_api_Var v.f_Locs),AV.sl 4 (List.map c_api_Thread v.f_Threads),AV.sl 3 (List.map c_api_Claim v.f_Claims)],[])) (fun k s=>ref04_Bare_L3 n v0_p k s.1 s.2) (fun s=>rfl) o67 n (0,([]:List S_api_Claim)) (fun _=>0) ho67 ?_ ?_
 intro k60 ss a61 K62 cont63 hK64 hcont65 h hr66
 obtain ⟨s58,s59⟩:=ss
 replace h:ref04_Bare_L3 n v0_p (k60+1) s58 s59=some o67:=h
 rw [ref04_Bare_L3] at h
 conv=>lhs;whnf
 revert h
 refine br ?_ ?_
 refine ix ?_;intro x69
 refine ix ?_;intro x70
 refine ca hc (fun _ h=>ok_ref04_nodes h) ?_;intro y71
 refine ar (ap c_api_Claim (List.map c_api_Claim s59) s59 ([[iA x69.f_Kind,AV.sl 5 (List.map c_api_Node y71),iA (0)]]) ([(⟨x69.f_Kind,y71,0⟩:S_api_Claim)]:List S_api_Claim)) ?_
 exact fun h=>cq (hcont65 (IntKind.i64.wrap (s58+1),(s59++([(⟨x69.f_Kind,y71,0⟩:S_api_Claim)]:List S_api_Claim))) (fun _=>0) h)
 intro h;cases sj h
 exact kq (hr66 (fun _=>0))
 refine lrc ?_ ?_
 intro v e;subst e;cases sj h;rfl
 intro x76 a75 e;subst e
 dsimp only at h
 conv=>lhs;whnf
 revert h
 intro h;cases sj h
 try simp only [ls]
 exact fq (y:=some (AV.agg [iA v0_p.f_Mod,AV.sl 3 (List.take (List.length x16) (List.map c_api_Var x16)),AV.sl 4 (List.take (List.length x57) (List.map c_api_Thread x57)),AV.sl 3 (List.take (List.length x76) (List.map c_api_Claim x76))],[]))
end Go.Proofs.YtgelgahilfojdaaGreat
end
section
namespace Go.Proofs.YtgelgahilfojdaaGreat
set_option linter.unusedVariables false
set_option linter.unusedSimpArgs false
set_option maxRecDepth 100000
set_option maxHeartbeats 4000000
theorem ok_ref26_body {n:Nat} ⦃v0_kind:Int⦄ ⦃v1_n:Int⦄ ⦃r:(List UInt8)⦄:m_ref26_body n v0_kind v1_n=some r→CN n 39 [iA v0_kind,iA v1_n] []=some (sA r,[]):=by
 intro h;rcases n with _|n;cases h
 rw [m_ref26_body] at h
 refine callN_eq' Tryz.func39 (by rfl) rfl rfl (Nat.le_of_ble_eq_true rfl) ?_
 intro call hc;conv=>lhs;whnf
 revert h
 refine br ?_ ?_
 exact rz
 refine br ?_ ?_
 exact rz
 refine ca hc (fun _ h=>ok_ref01_Digits h) ?_;intro y3
 intro h
 refine chk_some2 h ?_;clear h;intro hc5 h
 refine bif_pos hc5 ?_
 try simp only [ls]
 conv=>lhs;whnf
 revert h
 intro h
 refine chk_some2 h ?_;clear h;intro hc6 h
 refine bif_pos hc6 ?_
 try simp only [ls]
 conv=>lhs;whnf
 revert h
 exact rz
theorem ok_ref26_locs {n:Nat} ⦃v0_kind:Int⦄ ⦃r:(List UInt8)⦄:m_ref26_locs n v0_kind=some r→CN n 38 [iA v0_kind] []=some (sA r,[]):=by
 intro h;rcases n with _|n;cases h
 rw [m_ref26_locs] at h
 refine callN_eq' Tryz.func38 (by rfl) rfl rfl (Nat.le_of_ble_eq_true rfl) ?_
 intro call hc;conv=>lhs;whnf
 revert h
 refine br ?_ ?_
 exact rz
 refine br ?_ ?_
 exact rz
 exact rz
theorem ok_ref26_Make {n:Nat} ⦃v0_kind:Int⦄ ⦃v1_n:Int⦄ ⦃v2_mod:Int⦄ ⦃r:(S_api_Prog×Int)⦄:m_ref26_Make n v0_kind v1_n v2_mod=some r→CN n 11 [iA v0_kind,iA v1_n,iA v2_mod] []=some (AV.tup [AV.agg [iA r.1.f_Mod,AV.sl 3 (List.map c_api_Var r.1.f_Locs),AV.sl 4 (List.map c_api_Thread r.1.f_Threads),AV.sl 3 (List.map c_api_Claim r.1.f_Claims)],iA r.2],[]):=by
 intro h;rcases n with _|n;cases h
 rw [m_ref26_Make] at h
 refine callN_eq' Tryz.func11 (by rfl) rfl rfl (Nat.le_of_ble_eq_true rfl) ?_
 intro call hc;conv=>lhs;whnf
 revert h
 refine br ?_ ?_
 exact rz
 refine br ?_ ?_
 exact rz
 refine br ?_ ?_
 exact rz
 refine br ?_ ?_
 exact rz
 refine br ?_ ?_
 exact rz
 refine br ?_ ?_
 exact rz
 refine ca hc (fun _ h=>ok_ref01_Digits h) ?_;intro y7
 intro h
 refine chk_some2 h ?_;clear h;intro hc9 h
 refine bif_pos hc9 ?_
 try simp only [ls]
 conv=>lhs;whnf
 revert h
 intro h
 refine chk_some2 h ?_;clear h;intro hc10 h
 refine bif_pos hc10 ?_
 try simp only [ls]
 conv=>lhs;whnf
 revert h
 refine ca hc (fun _ h=>ok_ref26_locs h) ?_;intro y11
 intro h
 refine chk_some2 h ?_;clear h;intro hc13 h
 refine bif_pos hc13 ?_
 try simp only [ls]
 conv=>lhs;whnf
 revert h
 intro h;refine bind_some2 h ?_;clear h;intro o24 ho24 h
 refine lq (σ:=((List UInt8)×(List UInt8)×Int)) (τ:=((List UInt8)×(List UInt8))) (ν:=(S_api_Prog×Int)) 0 (fun (s14,s15,s16) a18=>stOf 93 [(0,iA v0_kind),(1,iA v1_n),(6,AV.ptr 0 0),(8,sA s14),(9,sA s15),(10,iA s16)]) (fun (s14,s15,s16) a18=>[Ob.var 26 [iA (0),AV.nils,AV.nils,AV.nils]]) (fun (x43,x44) a42=>stOf 93 [(0,iA v0_kind),(1,iA v1_n),(6,AV.ptr 0 0),(8,sA x43),(9,sA x44)]) (fun (x43,x44) a42=>[Ob.var 26 [iA (0),AV.nils,AV.nils,AV.nils]]) (fun v=>(AV.tup [AV.agg [iA v.1.f_Mod,AV.sl 3 (List.map c_api_Var v.1.f_Locs),AV.sl 4 (List.map c_api_Thread v.1.f_Threads),AV.sl 3 (List.map c_api_Claim v.1.f_Claims)],iA v.2],[])) (fun k s=>ref26_Make_L0 n v0_kind v1_n k s.1 s.2.1 s.2.2) (fun s=>rfl) o24 n ((((([109,111,100,32]:List UInt8)++y7)++([59,32]:List UInt8))++y11),([]:List UInt8),0) (fun _=>0) ho24 ?_ ?_
 intro k17 ss a18 K19 cont20 hK21 hcont22 h hr23
 obtain ⟨s14,s15,s16⟩:=ss
 replace h:ref26_Make_L0 n v0_kind v1_n (k17+1) s14 s15 s16=some o24:=h
 rw [ref26_Make_L0] at h
 conv=>lhs;whnf
 revert h
 refine br ?_ ?_
 refine ca hc (fun _ h=>ok_ref01_Digits h) ?_;intro y26
 intro h
 refine chk_some2 h ?_;clear h;intro hc28 h
 refine bif_pos hc28 ?_
 try simp only [ls]
 conv=>lhs;whnf
 revert h
 intro h
 refine chk_some2 h ?_;clear h;intro hc29 h
 refine bif_pos hc29 ?_
 try simp only [ls]
 conv=>lhs;whnf
 revert h
 intro h
 refine chk_some2 h ?_;clear h;intro hc30 h
 refine bif_pos hc30 ?_
 try simp only [ls]
 conv=>lhs;whnf
 revert h
 intro h
 refine chk_some2 h ?_;clear h;intro hc31 h
 refine bif_pos hc31 ?_
 try simp only [ls]
 conv=>lhs;whnf
 revert h
 refine ca hc (fun _ h=>ok_ref26_body h) ?_;intro y32
 intro h
 refine chk_some2 h ?_;clear h;intro hc34 h
 refine bif_pos hc34 ?_
 try simp only [ls]
 conv=>lhs;whnf
 revert h
 intro h
 refine chk_some2 h ?_;clear h;intro hc35 h
 refine bif_pos hc35 ?_
 try simp only [ls]
 conv=>lhs;whnf
 revert h
 refine br ?_ ?_
 intro h
 refine chk_some2 h ?_;clear h;intro hc37 h
 refine bif_pos hc37 ?_
 try simp only [ls]
 conv=>lhs;whnf
 revert h
 intro h
 refine chk_some2 h ?_;clear h;intro hc38 h
 refine bif_pos hc38 ?_
 try simp only [ls]
 conv=>lhs;whnf
 revert h
 intro h
 refine chk_some2 h ?_;clear h;intro hc39 h
 refine bif_pos hc39 ?_
 try simp only [ls]
 conv=>lhs;whnf
 revert h
 exact fun h=>cq (hcont22 ((((((s14++([32,116,104,114,101,97,100,32]:List UInt8))++(([116]:List UInt8)++y26))++([32,123,32]:List UInt8))++y32)++([32,125]:List UInt8)),(((s15++([32,43,32]:List UInt8))++(([116]:List UInt8)++y26))++([46,99,115]:List UInt8)),IntKind.i64.wrap (s16+1)) (fun _=>0) h)
 intro h
 refine chk_some2 h ?_;clear h;intro hc40 h
 refine bif_pos hc40 ?_
 try simp only [ls]
 conv=>lhs;whnf
 revert h
 intro h
 refine chk_some2 h ?_;clear h;intro hc41 h
 refine bif_pos hc41 ?_
 try simp only [ls]
 conv=>lhs;whnf
 revert h
 exact fun h=>cq (hcont22 ((((((s14++([32,116,104,114,101,97,100,32]:List UInt8))++(([116]:List UInt8)++y26))++([32,123,32]:List UInt8))++y32)++([32,125]:List UInt8)),((s15++(([116]:List UInt8)++y26))++([46,99,115]:List UInt8)),IntKind.i64.wrap (s16+1)) (fun _=>0) h)
 intro h;cases sj h
 exact kq (hr23 (fun _=>0))
 refine lrc ?_ ?_
 intro v e;subst e;cases sj h;rfl
 intro t a42 e;subst e
 obtain ⟨x43,x44⟩:=t
 dsimp only at h
 conv=>lhs;whnf
 revert h
 refine br ?_ ?_
 intro h
 refine chk_some2 h ?_;clear h;intro hc46 h
 refine bif_pos hc46 ?_
 try simp only [ls]
 conv=>lhs;whnf
 revert h
 intro h
 refine chk_some2 h ?_;clear h;intro hc47 h
 refine bif_pos hc47 ?_
 try simp only [ls]
 conv=>lhs;whnf
 revert h
 intro h
 refine chk_some2 h ?_;clear h;intro hc48 h
 refine bif_pos hc48 ?_
 try simp only [ls]
 conv=>lhs;whnf
 revert h
 intro h
 refine chk_some2 h ?_;clear h;intro hc49 h
 refine bif_pos hc49 ?_
 try simp only [ls]
 conv=>lhs;whnf
 revert h
 refine ca hc (fun _ h=>ok_ref01_Digits h) ?_;intro y50
 intro h
 refine chk_some2 h ?_;clear h;intro hc52 h
 refine bif_pos hc52 ?_
 try simp only [ls]
 conv=>lhs;whnf
 revert h
 intro h
 refine chk_some2 h ?_;clear h;intro hc53 h
 refine bif_pos hc53 ?_
 try simp only [ls]
 conv=>lhs;whnf
 revert h
 refine ca hc (fun _ h=>ok_ref04_Parse h) ?_;intro y54
 refine ca hc (fun _ h=>ok_ref04_Bare h) ?_;intro y56
 exact rz
 intro h
 refine chk_some2 h ?_;clear h;intro hc58 h
 refine bif_pos hc58 ?_
 try simp only [ls]
 conv=>lhs;whnf
 revert h
 refine ca hc (fun _ h=>ok_ref01_Digits h) ?_;intro y59
 intro h
 refine chk_some2 h ?_;clear h;intro hc61 h
 refine bif_pos hc61 ?_
 try simp only [ls]
 conv=>lhs;whnf
 revert h
 intro h
 refine chk_some2 h ?_;clear h;intro hc62 h
 refine bif_pos hc62 ?_
 try simp only [ls]
 conv=>lhs;whnf
 revert h
 refine ca hc (fun _ h=>ok_ref04_Parse h) ?_;intro y63
 refine ca hc (fun _ h=>ok_ref04_Bare h) ?_;intro y65
 exact rz
end Go.Proofs.YtgelgahilfojdaaGreat
end
section
namespace Go.Proofs.YtgelgahilfojdaaGreat
set_option linter.unusedVariables false
set_option linter.unusedSimpArgs false
set_option maxRecDepth 100000
set_option maxHeartbeats 4000000
theorem ok_law26_GenMakes {n:Nat} ⦃v0_kind:Int⦄ ⦃v1_n:Int⦄ ⦃v2_mod:Int⦄ ⦃r:Bool⦄:m_law26_GenMakes n v0_kind v1_n v2_mod=some r→CN n 4 [iA v0_kind,iA v1_n,iA v2_mod] []=some (bA r,[]):=by
 intro h;rcases n with _|n;cases h
 rw [m_law26_GenMakes] at h
 refine callN_eq' Tryz.func4 (by rfl) rfl rfl (Nat.le_of_ble_eq_true rfl) ?_
 intro call hc;conv=>lhs;whnf
 revert h
 refine ca hc (fun _ h=>ok_gen_Make h) ?_;intro y1
 refine ca hc (fun _ h=>ok_ref26_Make h) ?_;intro y3
 refine ca hc (fun _ h=>ok_ref04_Same h) ?_;intro y5
 refine br ?_ ?_
 refine br ?_ ?_
 exact rz
 refine br ?_ ?_
 refine ca hc (fun _ h=>ok_ref04_Show h) ?_;intro y10
 refine ca hc (fun _ h=>ok_gen_Lock h) ?_;intro y12
 refine ca hc (fun _ h=>ok_ref26_Make h) ?_;intro y14
 refine ca hc (fun _ h=>ok_gen_Ticket h) ?_;intro y16
 refine ca hc (fun _ h=>ok_ref26_Make h) ?_;intro y18
 refine ca hc (fun _ h=>ok_gen_Barrier h) ?_;intro y20
 refine ca hc (fun _ h=>ok_ref26_Make h) ?_;intro y22
 refine ca hc (fun _ h=>ok_gen_Text h) ?_;intro y24
 refine br ?_ ?_
 refine ca hc (fun _ h=>ok_ref04_Same h) ?_;intro y27
 refine br ?_ ?_
 refine br ?_ ?_
 refine ca hc (fun _ h=>ok_ref04_Same h) ?_;intro y31
 refine br ?_ ?_
 refine br ?_ ?_
 refine ca hc (fun _ h=>ok_ref04_Same h) ?_;intro y35
 refine br ?_ ?_
 refine br ?_ ?_
 refine ca hc (fun _ h=>ok_law26_known h) ?_;intro y39
 exact rz
 exact rz
 exact rz
 exact rz
 exact rz
 exact rz
 exact rz
 exact rz
 refine ca hc (fun _ h=>ok_gen_Lock h) ?_;intro y41
 refine ca hc (fun _ h=>ok_ref26_Make h) ?_;intro y43
 refine ca hc (fun _ h=>ok_gen_Ticket h) ?_;intro y45
 refine ca hc (fun _ h=>ok_ref26_Make h) ?_;intro y47
 refine ca hc (fun _ h=>ok_gen_Barrier h) ?_;intro y49
 refine ca hc (fun _ h=>ok_ref26_Make h) ?_;intro y51
 refine ca hc (fun _ h=>ok_gen_Text h) ?_;intro y53
 refine br ?_ ?_
 refine ca hc (fun _ h=>ok_ref04_Same h) ?_;intro y56
 refine br ?_ ?_
 refine br ?_ ?_
 refine ca hc (fun _ h=>ok_ref04_Same h) ?_;intro y60
 refine br ?_ ?_
 refine br ?_ ?_
 refine ca hc (fun _ h=>ok_ref04_Same h) ?_;intro y64
 refine br ?_ ?_
 refine br ?_ ?_
 refine ca hc (fun _ h=>ok_law26_known h) ?_;intro y68
 exact rz
 exact rz
 exact rz
 exact rz
 exact rz
 exact rz
 exact rz
 exact rz
 exact rz
end Go.Proofs.YtgelgahilfojdaaGreat
end
