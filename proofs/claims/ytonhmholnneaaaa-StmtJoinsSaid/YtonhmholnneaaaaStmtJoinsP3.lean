/- Parts of the proofs: what they lean on. Conditions: none. -/
import Derived.Test.YtonhmholnneaaaaStmtJoinsP2
section
namespace Go.Proofs.Ytonhmholnneaaaa
set_option linter.unusedVariables false
set_option linter.unusedSimpArgs false
set_option maxRecDepth 100000
set_option maxHeartbeats 4000000
def OK_stmt_parser_block (n:Nat):Prop:=∀ ⦃v1_in:Int⦄ ⦃p_l:(List S_api_Token)⦄ ⦃p_i:Int⦄ ⦃p_e:Int⦄ ⦃p_at:Int⦄ ⦃o1_m:(List ((List UInt8)×Int))⦄ ⦃r:((List S_api_Stmt)×Int×Int×Int)⦄,m_stmt_parser_block n v1_in p_l p_i p_e p_at o1_m=some r→CN n 53 [AV.ptr 0 0,iA v1_in] [Ob.var 51 [AV.sl 4 (List.map c_api_Token p_l),iA p_i,AV.mapp 1,iA p_e,iA p_at],Ob.mp none false (List.map c_mp_map_string_int o1_m)]=some (AV.sl 9 (List.map c_api_Stmt r.1),[Ob.var 51 [AV.sl 4 (List.map c_api_Token p_l),iA r.2.1,AV.mapp 1,iA r.2.2.1,iA r.2.2.2],Ob.mp none false (List.map c_mp_map_string_int o1_m)])
def OK_stmt_parser_list (n:Nat):Prop:=∀ ⦃v1_in:Int⦄ ⦃p_l:(List S_api_Token)⦄ ⦃p_i:Int⦄ ⦃p_e:Int⦄ ⦃p_at:Int⦄ ⦃o1_m:(List ((List UInt8)×Int))⦄ ⦃r:((List S_api_Stmt)×Int×Int×Int)⦄,m_stmt_parser_list n v1_in p_l p_i p_e p_at o1_m=some r→CN n 20 [AV.ptr 0 0,iA v1_in] [Ob.var 51 [AV.sl 4 (List.map c_api_Token p_l),iA p_i,AV.mapp 1,iA p_e,iA p_at],Ob.mp none false (List.map c_mp_map_string_int o1_m)]=some (AV.sl 9 (List.map c_api_Stmt r.1),[Ob.var 51 [AV.sl 4 (List.map c_api_Token p_l),iA r.2.1,AV.mapp 1,iA r.2.2.1,iA r.2.2.2],Ob.mp none false (List.map c_mp_map_string_int o1_m)])
def OK_stmt_parser_one (n:Nat):Prop:=∀ ⦃v1_in:Int⦄ ⦃p_l:(List S_api_Token)⦄ ⦃p_i:Int⦄ ⦃p_e:Int⦄ ⦃p_at:Int⦄ ⦃o1_m:(List ((List UInt8)×Int))⦄ ⦃r:((List S_api_Stmt)×Int×Int×Int)⦄,m_stmt_parser_one n v1_in p_l p_i p_e p_at o1_m=some r→CN n 39 [AV.ptr 0 0,iA v1_in] [Ob.var 51 [AV.sl 4 (List.map c_api_Token p_l),iA p_i,AV.mapp 1,iA p_e,iA p_at],Ob.mp none false (List.map c_mp_map_string_int o1_m)]=some (AV.sl 9 (List.map c_api_Stmt r.1),[Ob.var 51 [AV.sl 4 (List.map c_api_Token p_l),iA r.2.1,AV.mapp 1,iA r.2.2.1,iA r.2.2.2],Ob.mp none false (List.map c_mp_map_string_int o1_m)])
def IH_stmt_parser_block (n : Nat) : Prop := OK_stmt_parser_block n ∧ OK_stmt_parser_list n ∧ OK_stmt_parser_one n
theorem st_stmt_parser_block (n:Nat) (ih:IH_stmt_parser_block n):OK_stmt_parser_block (n+1):=by
 intro v1_in p_l p_i p_e p_at o1_m r h
 rw [m_stmt_parser_block] at h
 refine callN_eq' Try.func53 (by rfl) rfl rfl (Nat.le_of_ble_eq_true rfl) ?_
 intro call hc;conv=>lhs;whnf
 revert h
 refine br ?_ ?_
 refine ca hc (fun _ h=>ok_stmt_parser_is h) ?_;intro y2
 refine br ?_ ?_
 refine br ?_ ?_
 refine ca hc (fun _ h=>ok_stmt_parser_place h) ?_;intro y6
 refine ca hc (fun _ h=>ok_stmt_parser_sign h) ?_;intro y8
 refine ca hc (fun _ h=>ih.2.1 h) ?_;intro y10
 refine ca hc (fun _ h=>ok_stmt_parser_sign h) ?_;intro y12
 intro h;cases sj h
 try simp only [ls]
 exact fq (y:=some (AV.sl 9 (List.map c_api_Stmt y10.1),[Ob.var 51 [AV.sl 4 (List.map c_api_Token p_l),iA y12.1,AV.mapp 1,iA y12.2.1,iA y12.2.2],Ob.mp none false (List.map c_mp_map_string_int o1_m)]))
 refine ca hc (fun _ h=>ok_stmt_parser_sign h) ?_;intro y14
 refine ca hc (fun _ h=>ih.2.1 h) ?_;intro y16
 refine ca hc (fun _ h=>ok_stmt_parser_sign h) ?_;intro y18
 intro h;cases sj h
 try simp only [ls]
 exact fq (y:=some (AV.sl 9 (List.map c_api_Stmt y16.1),[Ob.var 51 [AV.sl 4 (List.map c_api_Token p_l),iA y18.1,AV.mapp 1,iA y18.2.1,iA y18.2.2],Ob.mp none false (List.map c_mp_map_string_int o1_m)]))
 refine ca hc (fun _ h=>ok_stmt_parser_sign h) ?_;intro y20
 refine ca hc (fun _ h=>ih.2.1 h) ?_;intro y22
 refine ca hc (fun _ h=>ok_stmt_parser_sign h) ?_;intro y24
 intro h;cases sj h
 try simp only [ls]
 exact fq (y:=some (AV.sl 9 (List.map c_api_Stmt y22.1),[Ob.var 51 [AV.sl 4 (List.map c_api_Token p_l),iA y24.1,AV.mapp 1,iA y24.2.1,iA y24.2.2],Ob.mp none false (List.map c_mp_map_string_int o1_m)]))
 refine ca hc (fun _ h=>ok_stmt_parser_sign h) ?_;intro y26
 refine ca hc (fun _ h=>ih.2.1 h) ?_;intro y28
 refine ca hc (fun _ h=>ok_stmt_parser_sign h) ?_;intro y30
 intro h;cases sj h
 try simp only [ls]
 exact fq (y:=some (AV.sl 9 (List.map c_api_Stmt y28.1),[Ob.var 51 [AV.sl 4 (List.map c_api_Token p_l),iA y30.1,AV.mapp 1,iA y30.2.1,iA y30.2.2],Ob.mp none false (List.map c_mp_map_string_int o1_m)]))
theorem st_stmt_parser_list (n:Nat) (ih:IH_stmt_parser_block n):OK_stmt_parser_list (n+1):=by
 intro v1_in p_l p_i p_e p_at o1_m r h
 rw [m_stmt_parser_list] at h
 refine callN_eq' Try.func20 (by rfl) rfl rfl (Nat.le_of_ble_eq_true rfl) ?_
 intro call hc;conv=>lhs;whnf
 revert h
 intro h;refine bind_some2 h ?_;clear h;intro o12 ho12 h
 refine lq (σ:=(Int×Int×Int×(List S_api_Stmt))) (τ:=(Int×Int×Int×(List S_api_Stmt))) (ν:=((List S_api_Stmt)×Int×Int×Int)) 0 (fun (s1,s2,s3,s4) a6=>stOf 34 [(0,AV.ptr 0 0),(1,iA v1_in),(5,AV.row 2 (List.length s4))]) (fun (s1,s2,s3,s4) a6=>[Ob.var 51 [AV.sl 4 (List.map c_api_Token p_l),iA s1,AV.mapp 1,iA s2,iA s3],Ob.mp none false (List.map c_mp_map_string_int o1_m),Ob.row 40 9 (List.map c_api_Stmt s4)]) (fun (x23,x24,x25,x26) a22=>stOf 34 [(5,AV.row 2 (List.length x26))]) (fun (x23,x24,x25,x26) a22=>[Ob.var 51 [AV.sl 4 (List.map c_api_Token p_l),iA x23,AV.mapp 1,iA x24,iA x25],Ob.mp none false (List.map c_mp_map_string_int o1_m),Ob.row 40 9 (List.map c_api_Stmt x26)]) (fun v=>(AV.sl 9 (List.map c_api_Stmt v.1),[Ob.var 51 [AV.sl 4 (List.map c_api_Token p_l),iA v.2.1,AV.mapp 1,iA v.2.2.1,iA v.2.2.2],Ob.mp none false (List.map c_mp_map_string_int o1_m)])) (fun k s=>stmt_parser_list_L0 n (m_stmt_parser_one n) v1_in p_l o1_m k s.1 s.2.1 s.2.2.1 s.2.2.2) (fun s=>rfl) o12 n (p_i,p_e,p_at,([]:List S_api_Stmt)) (fun _=>0) ho12 ?_ ?_
 intro k5 ss a6 K7 cont8 hK9 hcont10 h hr11
 obtain ⟨s1,s2,s3,s4⟩:=ss
 replace h:stmt_parser_list_L0 n (m_stmt_parser_one n) v1_in p_l o1_m (k5+1) s1 s2 s3 s4=some o12:=h
 rw [stmt_parser_list_L0] at h
 conv=>lhs;whnf
 revert h
 refine br ?_ ?_
 refine br ?_ ?_
 refine ca hc (fun _ h=>ok_stmt_parser_is h) ?_;intro y15
 refine br ?_ ?_
 intro h;cases sj h
 exact kq (hr11 (fun _=>0))
 refine ca hc (fun _ h=>ih.2.2 h) ?_;intro y18
 refine ar (ap c_api_Stmt (List.map c_api_Stmt s4) s4 (List.map c_api_Stmt y18.1) y18.1) ?_
 exact fun h=>cq (hcont10 (y18.2.1,y18.2.2.1,y18.2.2.2,(s4++y18.1)) (fun _=>0) h)
 intro h;cases sj h
 exact kq (hr11 (fun _=>0))
 intro h;cases sj h
 exact kq (hr11 (fun _=>0))
 refine lrc ?_ ?_
 intro v e;subst e;cases sj h;rfl
 intro t a22 e;subst e
 obtain ⟨x23,x24,x25,x26⟩:=t
 dsimp only at h
 conv=>lhs;whnf
 revert h
 intro h;cases sj h
 try simp only [ls]
 exact fq (y:=some (AV.sl 9 (List.take (List.length x26) (List.map c_api_Stmt x26)),[Ob.var 51 [AV.sl 4 (List.map c_api_Token p_l),iA x23,AV.mapp 1,iA x24,iA x25],Ob.mp none false (List.map c_mp_map_string_int o1_m)]))
theorem st_stmt_parser_one (n:Nat) (ih:IH_stmt_parser_block n):OK_stmt_parser_one (n+1):=by
 intro v1_in p_l p_i p_e p_at o1_m r h
 rw [m_stmt_parser_one] at h
 refine callN_eqA Try.func39 (by rfl) rfl rfl (Nat.le_of_ble_eq_true rfl) ?_
 intro call hc hcA;conv=>lhs;whnf
 revert h
 refine br ?_ ?_
 refine ix ?_;intro x2
 refine br ?_ ?_
 refine ix ?_;intro x4
 intro h
 simp only [look_c_mp_map_string_int,ls]
 conv=>lhs;whnf
 revert h
 refine ca hc (fun _ h=>ok_stmt_of h) ?_;intro y5
 refine br ?_ ?_
 refine ca hc (fun _ h=>ok_stmt_parser_place h) ?_;intro y8
 intro h
 obtain ⟨n10,hn14,h⟩:=inl_some h
 obtain ⟨call11,hc12,ho13⟩:=callN_openA (f:=51) (args:=[AV.ptr 0 0,AV.ptr 2 0]) (hp:=[Ob.var 51 [AV.sl 4 (List.map c_api_Token p_l),iA (IntKind.i64.wrap (p_i+1)),AV.mapp 1,iA p_e,iA p_at],Ob.mp none false (List.map c_mp_map_string_int o1_m),Ob.var 40 [iA ((mget o1_m x4.f_Text 0)),sA (([]:List UInt8)),sA (([]:List UInt8)),AV.sl 5 [],AV.sl 5 [],bA false,iA (0),iA (0),iA y8]]) hcA hn14 Try.func51 (by rfl) rfl rfl (Nat.le_of_ble_eq_true rfl)
 try simp only [ls]
 simp only [ho13]
 conv=>lhs;whnf
 revert h
 intro h;refine bind_some2 h ?_;clear h;intro o31 ho31 h
 refine lq (σ:=(Int×Int×Int×Int×(List UInt8)×(List UInt8)×(List S_api_Node)×(List S_api_Node)×Bool)) (τ:=(Int×Int×Int×(List UInt8)×(List UInt8)×(List S_api_Node)×(List S_api_Node)×Bool)) (ν:=((List S_api_Stmt)×Int×Int×Int)) 0 (fun (s15,s16,s17,s18,s19,s20,s21,s22,s23) a25=>stOf 157 [(0,AV.ptr 0 0),(1,iA v1_in),(6,AV.ptr 2 0),(8,AV.ptr 3 0),(9,AV.mapp 6),(84,iA (((y5.1.f_form.length:Nat):Int))),(85,iA s15)]) (fun (s15,s16,s17,s18,s19,s20,s21,s22,s23) a25=>[Ob.var 51 [AV.sl 4 (List.map c_api_Token p_l),iA s16,AV.mapp 1,iA s17,iA s18],Ob.mp none false (List.map c_mp_map_string_int o1_m),Ob.var 55 [sA y5.1.f_word,sA y5.1.f_form,bA y5.1.f_body,bA y5.1.f_more],Ob.var 40 [iA ((mget o1_m x4.f_Text 0)),sA s19,sA s20,AV.sl 5 (List.map c_api_Node s21),AV.sl 5 (List.map c_api_Node s22),bA s23,iA (0),iA (0),iA y8],Ob.var 48 [AV.ptr 0 0],Ob.var 83 [AV.ptr 3 0],Ob.mpo (some .u8) [[AV.int .u8 (114),AV.func 58 [] [AV.ptr 4 0,AV.ptr 5 0]],[AV.int .u8 (108),AV.func 60 [] [AV.ptr 4 0,AV.ptr 5 0]],[AV.int .u8 (101),AV.func 61 [] [AV.ptr 4 0,AV.ptr 5 0]],[AV.int .u8 (102),AV.func 63 [] [AV.ptr 4 0,AV.ptr 5 0]],[AV.int .u8 (113),AV.func 64 [] [AV.ptr 4 0,AV.ptr 5 0]]]]) (fun (x73,x74,x75,x76,x77,x78,x79,x80) a72=>stOf 157 [(0,AV.ptr 0 0),(1,iA v1_in),(6,AV.ptr 2 0),(8,AV.ptr 3 0)]) (fun (x73,x74,x75,x76,x77,x78,x79,x80) a72=>[Ob.var 51 [AV.sl 4 (List.map c_api_Token p_l),iA x73,AV.mapp 1,iA x74,iA x75],Ob.mp none false (List.map c_mp_map_string_int o1_m),Ob.var 55 [sA y5.1.f_word,sA y5.1.f_form,bA y5.1.f_body,bA y5.1.f_more],Ob.var 40 [iA ((mget o1_m x4.f_Text 0)),sA x76,sA x77,AV.sl 5 (List.map c_api_Node x78),AV.sl 5 (List.map c_api_Node x79),bA x80,iA (0),iA (0),iA y8],Ob.var 48 [AV.ptr 0 0],Ob.var 83 [AV.ptr 3 0],Ob.mpo (some .u8) [[AV.int .u8 (114),AV.func 58 [] [AV.ptr 4 0,AV.ptr 5 0]],[AV.int .u8 (108),AV.func 60 [] [AV.ptr 4 0,AV.ptr 5 0]],[AV.int .u8 (101),AV.func 61 [] [AV.ptr 4 0,AV.ptr 5 0]],[AV.int .u8 (102),AV.func 63 [] [AV.ptr 4 0,AV.ptr 5 0]],[AV.int .u8 (113),AV.func 64 [] [AV.ptr 4 0,AV.ptr 5 0]]]]) (fun v=>(AV.sl 9 (List.map c_api_Stmt v.1),[Ob.var 51 [AV.sl 4 (List.map c_api_Token p_l),iA v.2.1,AV.mapp 1,iA v.2.2.1,iA v.2.2.2],Ob.mp none false (List.map c_mp_map_string_int o1_m)])) (fun k s=>stmt_parser_one_L0 n p_l o1_m x4 y5 y8 k s.1 s.2.1 s.2.2.1 s.2.2.2.1 s.2.2.2.2.1 s.2.2.2.2.2.1 s.2.2.2.2.2.2.1 s.2.2.2.2.2.2.2.1 s.2.2.2.2.2.2.2.2) (fun s=>rfl) o31 n (0,IntKind.i64.wrap (p_i+1),p_e,p_at,([]:List UInt8),([]:List UInt8),([]:List S_api_Node),([]:List S_api_Node),false) (fun _=>0) ho31 ?_ ?_
 intro k24 ss a25 K26 cont27 hK28 hcont29 h hr30
 obtain ⟨s15,s16,s17,s18,s19,s20,s21,s22,s23⟩:=ss
 replace h:stmt_parser_one_L0 n p_l o1_m x4 y5 y8 (k24+1) s15 s16 s17 s18 s19 s20 s21 s22 s23=some o31:=h
 rw [stmt_parser_one_L0] at h
 conv=>lhs;whnf
 revert h
 refine br ?_ ?_
 refine ixs ?_;intro x33
 refine br ?_ ?_
 refine br ?_ ?_
 refine ca hc (fun _ h=>ok_stmt_parser_parts_1 h) ?_;intro y36
 exact fun h=>cq (hcont29 (IntKind.i64.wrap (s15+1),y36.1,y36.2.1,y36.2.2.1,y36.2.2.2,s20,s21,s22,s23) (fun _=>0) h)
 refine cp ?_
 refine cr hc (fun _ h=>ok_stmt_parser_sign h) ?_;intro y39
 exact fun h=>cq (hcont29 (IntKind.i64.wrap (s15+1),y39.1,y39.2.1,y39.2.2,s19,s20,s21,s22,s23) (fun _=>0) h)
 refine br ?_ ?_
 refine br ?_ ?_
 refine ca hc (fun _ h=>ok_stmt_parser_parts_2 h) ?_;intro y43
 exact fun h=>cq (hcont29 (IntKind.i64.wrap (s15+1),y43.1,y43.2.1,y43.2.2.1,s19,y43.2.2.2,s21,s22,s23) (fun _=>0) h)
 refine cp ?_
 refine cr hc (fun _ h=>ok_stmt_parser_sign h) ?_;intro y46
 exact fun h=>cq (hcont29 (IntKind.i64.wrap (s15+1),y46.1,y46.2.1,y46.2.2,s19,s20,s21,s22,s23) (fun _=>0) h)
 refine br ?_ ?_
 refine br ?_ ?_
 refine ca hc (fun _ h=>ok_stmt_parser_parts_3 h) ?_;intro y50
 exact fun h=>cq (hcont29 (IntKind.i64.wrap (s15+1),y50.1,y50.2.1,y50.2.2.1,s19,s20,y50.2.2.2,s22,s23) (fun _=>0) h)
 refine cp ?_
 refine cr hc (fun _ h=>ok_stmt_parser_sign h) ?_;intro y53
 exact fun h=>cq (hcont29 (IntKind.i64.wrap (s15+1),y53.1,y53.2.1,y53.2.2,s19,s20,s21,s22,s23) (fun _=>0) h)
 refine br ?_ ?_
 refine br ?_ ?_
 refine ca hc (fun _ h=>ok_stmt_parser_parts_4 h) ?_;intro y57
 exact fun h=>cq (hcont29 (IntKind.i64.wrap (s15+1),y57.1,y57.2.1,y57.2.2.1,s19,s20,s21,y57.2.2.2,s23) (fun _=>0) h)
 refine cp ?_
 refine cr hc (fun _ h=>ok_stmt_parser_sign h) ?_;intro y60
 exact fun h=>cq (hcont29 (IntKind.i64.wrap (s15+1),y60.1,y60.2.1,y60.2.2,s19,s20,s21,s22,s23) (fun _=>0) h)
 refine br ?_ ?_
 refine br ?_ ?_
 refine ca hc (fun _ h=>ok_stmt_parser_parts_5 h) ?_;intro y64
 exact fun h=>cq (hcont29 (IntKind.i64.wrap (s15+1),y64.1,y64.2.1,y64.2.2.1,s19,s20,s21,s22,y64.2.2.2) (fun _=>0) h)
 refine cp ?_
 refine cr hc (fun _ h=>ok_stmt_parser_sign h) ?_;intro y67
 exact fun h=>cq (hcont29 (IntKind.i64.wrap (s15+1),y67.1,y67.2.1,y67.2.2,s19,s20,s21,s22,s23) (fun _=>0) h)
 refine cp ?_
 refine cr hc (fun _ h=>ok_stmt_parser_sign h) ?_;intro y70
 exact fun h=>cq (hcont29 (IntKind.i64.wrap (s15+1),y70.1,y70.2.1,y70.2.2,s19,s20,s21,s22,s23) (fun _=>0) h)
 intro h;cases sj h
 exact kq (hr30 (fun _=>0))
 refine lrc ?_ ?_
 intro v e;subst e;cases sj h;rfl
 intro t a72 e;subst e
 obtain ⟨x73,x74,x75,x76,x77,x78,x79,x80⟩:=t
 dsimp only at h
 conv=>lhs;whnf
 revert h
 refine br ?_ ?_
 refine ca hc (fun _ h=>ih.1 h) ?_;intro y82
 refine br ?_ ?_
 refine br ?_ ?_
 refine ca hc (fun _ h=>ok_stmt_parser_is h) ?_;intro y86
 refine br ?_ ?_
 refine ca hc (fun _ h=>ih.1 h) ?_;intro y89
 refine ar (ap c_api_Stmt ([[iA ((mget o1_m x4.f_Text 0)),sA x76,sA x77,AV.sl 5 (List.map c_api_Node x78),AV.sl 5 (List.map c_api_Node x79),bA x80,iA (((y82.1.length:Nat):Int)),iA (((y89.1.length:Nat):Int)),iA y8]]) ([(⟨(mget o1_m x4.f_Text 0),x76,x77,x78,x79,x80,((y82.1.length:Nat):Int),((y89.1.length:Nat):Int),y8⟩:S_api_Stmt)]:List S_api_Stmt) (List.map c_api_Stmt y82.1) y82.1) ?_
 refine ar (ap c_api_Stmt (List.map c_api_Stmt (([(⟨(mget o1_m x4.f_Text 0),x76,x77,x78,x79,x80,((y82.1.length:Nat):Int),((y89.1.length:Nat):Int),y8⟩:S_api_Stmt)]:List S_api_Stmt)++y82.1)) (([(⟨(mget o1_m x4.f_Text 0),x76,x77,x78,x79,x80,((y82.1.length:Nat):Int),((y89.1.length:Nat):Int),y8⟩:S_api_Stmt)]:List S_api_Stmt)++y82.1) (List.map c_api_Stmt y89.1) y89.1) ?_
 intro h;cases sj h
 try simp only [ls]
 exact fq (y:=some (AV.sl 9 (List.take (List.length (((([(⟨(mget o1_m x4.f_Text 0),x76,x77,x78,x79,x80,((y82.1.length:Nat):Int),((y89.1.length:Nat):Int),y8⟩:S_api_Stmt)]:List S_api_Stmt)++y82.1)++y89.1))) (List.map c_api_Stmt ((([(⟨(mget o1_m x4.f_Text 0),x76,x77,x78,x79,x80,((y82.1.length:Nat):Int),((y89.1.length:Nat):Int),y8⟩:S_api_Stmt)]:List S_api_Stmt)++y82.1)++y89.1))),[Ob.var 51 [AV.sl 4 (List.map c_api_Token p_l),iA y89.2.1,AV.mapp 1,iA y89.2.2.1,iA y89.2.2.2],Ob.mp none false (List.map c_mp_map_string_int o1_m)]))
 refine ar (ap c_api_Stmt ([[iA ((mget o1_m x4.f_Text 0)),sA x76,sA x77,AV.sl 5 (List.map c_api_Node x78),AV.sl 5 (List.map c_api_Node x79),bA x80,iA (((y82.1.length:Nat):Int)),iA (0),iA y8]]) ([(⟨(mget o1_m x4.f_Text 0),x76,x77,x78,x79,x80,((y82.1.length:Nat):Int),0,y8⟩:S_api_Stmt)]:List S_api_Stmt) (List.map c_api_Stmt y82.1) y82.1) ?_
 intro h
 refine chk_some2 h ?_;clear h;intro hc99 h
 first|refine bif_pos (app_row hc99 (by first|rfl|simp only [List.length_map]) (by first|rfl|simp only [List.length_map]) (by first|rfl|simp only [List.length_map,take_map_len]) (by kernel_rfl)) ?_|refine bif_pos (app_row2 hc99 (by first|rfl|simp only [List.length_map]) (by first|rfl|simp only [List.length_map,take_map_len]) (by kernel_rfl)) ?_
 have hp97:(List.map c_api_Stmt (([(⟨(mget o1_m x4.f_Text 0),x76,x77,x78,x79,x80,((y82.1.length:Nat):Int),0,y8⟩:S_api_Stmt)]:List S_api_Stmt)++y82.1):List (List AV))++([]:List (List AV))=(List.map c_api_Stmt (([(⟨(mget o1_m x4.f_Text 0),x76,x77,x78,x79,x80,((y82.1.length:Nat):Int),0,y8⟩:S_api_Stmt)]:List S_api_Stmt)++y82.1):List (List AV)):=List.append_nil _
 have hl98:List.length (List.map c_api_Stmt (([(⟨(mget o1_m x4.f_Text 0),x76,x77,x78,x79,x80,((y82.1.length:Nat):Int),0,y8⟩:S_api_Stmt)]:List S_api_Stmt)++y82.1):List (List AV))+List.length ([]:List (List AV))=List.length (List.map c_api_Stmt (([(⟨(mget o1_m x4.f_Text 0),x76,x77,x78,x79,x80,((y82.1.length:Nat):Int),0,y8⟩:S_api_Stmt)]:List S_api_Stmt)++y82.1):List (List AV)):=rfl
 have hl98_b:List.length (([(⟨(mget o1_m x4.f_Text 0),x76,x77,x78,x79,x80,((y82.1.length:Nat):Int),0,y8⟩:S_api_Stmt)]:List S_api_Stmt)++y82.1)+List.length ([]:List (List AV))=List.length (([(⟨(mget o1_m x4.f_Text 0),x76,x77,x78,x79,x80,((y82.1.length:Nat):Int),0,y8⟩:S_api_Stmt)]:List S_api_Stmt)++y82.1):=rfl
 try simp only [ls,c0]
 try simp only [hp97,hl98,hl98_b]
 try simp only [ls]
 conv=>lhs;whnf
 revert h
 intro h;cases sj h
 try simp only [ls]
 exact fq (y:=some (AV.sl 9 (List.take (List.length ((([(⟨(mget o1_m x4.f_Text 0),x76,x77,x78,x79,x80,((y82.1.length:Nat):Int),0,y8⟩:S_api_Stmt)]:List S_api_Stmt)++y82.1))) (List.map c_api_Stmt (([(⟨(mget o1_m x4.f_Text 0),x76,x77,x78,x79,x80,((y82.1.length:Nat):Int),0,y8⟩:S_api_Stmt)]:List S_api_Stmt)++y82.1))),[Ob.var 51 [AV.sl 4 (List.map c_api_Token p_l),iA y82.2.1,AV.mapp 1,iA y82.2.2.1,iA y82.2.2.2],Ob.mp none false (List.map c_mp_map_string_int o1_m)]))
 refine ar (ap c_api_Stmt ([[iA ((mget o1_m x4.f_Text 0)),sA x76,sA x77,AV.sl 5 (List.map c_api_Node x78),AV.sl 5 (List.map c_api_Node x79),bA x80,iA (((y82.1.length:Nat):Int)),iA (0),iA y8]]) ([(⟨(mget o1_m x4.f_Text 0),x76,x77,x78,x79,x80,((y82.1.length:Nat):Int),0,y8⟩:S_api_Stmt)]:List S_api_Stmt) (List.map c_api_Stmt y82.1) y82.1) ?_
 intro h
 refine chk_some2 h ?_;clear h;intro hc104 h
 first|refine bif_pos (app_row hc104 (by first|rfl|simp only [List.length_map]) (by first|rfl|simp only [List.length_map]) (by first|rfl|simp only [List.length_map,take_map_len]) (by kernel_rfl)) ?_|refine bif_pos (app_row2 hc104 (by first|rfl|simp only [List.length_map]) (by first|rfl|simp only [List.length_map,take_map_len]) (by kernel_rfl)) ?_
 have hp102:(List.map c_api_Stmt (([(⟨(mget o1_m x4.f_Text 0),x76,x77,x78,x79,x80,((y82.1.length:Nat):Int),0,y8⟩:S_api_Stmt)]:List S_api_Stmt)++y82.1):List (List AV))++([]:List (List AV))=(List.map c_api_Stmt (([(⟨(mget o1_m x4.f_Text 0),x76,x77,x78,x79,x80,((y82.1.length:Nat):Int),0,y8⟩:S_api_Stmt)]:List S_api_Stmt)++y82.1):List (List AV)):=List.append_nil _
 have hl103:List.length (List.map c_api_Stmt (([(⟨(mget o1_m x4.f_Text 0),x76,x77,x78,x79,x80,((y82.1.length:Nat):Int),0,y8⟩:S_api_Stmt)]:List S_api_Stmt)++y82.1):List (List AV))+List.length ([]:List (List AV))=List.length (List.map c_api_Stmt (([(⟨(mget o1_m x4.f_Text 0),x76,x77,x78,x79,x80,((y82.1.length:Nat):Int),0,y8⟩:S_api_Stmt)]:List S_api_Stmt)++y82.1):List (List AV)):=rfl
 have hl103_b:List.length (([(⟨(mget o1_m x4.f_Text 0),x76,x77,x78,x79,x80,((y82.1.length:Nat):Int),0,y8⟩:S_api_Stmt)]:List S_api_Stmt)++y82.1)+List.length ([]:List (List AV))=List.length (([(⟨(mget o1_m x4.f_Text 0),x76,x77,x78,x79,x80,((y82.1.length:Nat):Int),0,y8⟩:S_api_Stmt)]:List S_api_Stmt)++y82.1):=rfl
 try simp only [ls,c0]
 try simp only [hp102,hl103,hl103_b]
 try simp only [ls]
 conv=>lhs;whnf
 revert h
 intro h;cases sj h
 try simp only [ls]
 exact fq (y:=some (AV.sl 9 (List.take (List.length ((([(⟨(mget o1_m x4.f_Text 0),x76,x77,x78,x79,x80,((y82.1.length:Nat):Int),0,y8⟩:S_api_Stmt)]:List S_api_Stmt)++y82.1))) (List.map c_api_Stmt (([(⟨(mget o1_m x4.f_Text 0),x76,x77,x78,x79,x80,((y82.1.length:Nat):Int),0,y8⟩:S_api_Stmt)]:List S_api_Stmt)++y82.1))),[Ob.var 51 [AV.sl 4 (List.map c_api_Token p_l),iA y82.2.1,AV.mapp 1,iA y82.2.2.1,iA y82.2.2.2],Ob.mp none false (List.map c_mp_map_string_int o1_m)]))
 refine ar (ap c_api_Stmt ([[iA ((mget o1_m x4.f_Text 0)),sA x76,sA x77,AV.sl 5 (List.map c_api_Node x78),AV.sl 5 (List.map c_api_Node x79),bA x80,iA (((y82.1.length:Nat):Int)),iA (0),iA y8]]) ([(⟨(mget o1_m x4.f_Text 0),x76,x77,x78,x79,x80,((y82.1.length:Nat):Int),0,y8⟩:S_api_Stmt)]:List S_api_Stmt) (List.map c_api_Stmt y82.1) y82.1) ?_
 intro h
 refine chk_some2 h ?_;clear h;intro hc109 h
 first|refine bif_pos (app_row hc109 (by first|rfl|simp only [List.length_map]) (by first|rfl|simp only [List.length_map]) (by first|rfl|simp only [List.length_map,take_map_len]) (by kernel_rfl)) ?_|refine bif_pos (app_row2 hc109 (by first|rfl|simp only [List.length_map]) (by first|rfl|simp only [List.length_map,take_map_len]) (by kernel_rfl)) ?_
 have hp107:(List.map c_api_Stmt (([(⟨(mget o1_m x4.f_Text 0),x76,x77,x78,x79,x80,((y82.1.length:Nat):Int),0,y8⟩:S_api_Stmt)]:List S_api_Stmt)++y82.1):List (List AV))++([]:List (List AV))=(List.map c_api_Stmt (([(⟨(mget o1_m x4.f_Text 0),x76,x77,x78,x79,x80,((y82.1.length:Nat):Int),0,y8⟩:S_api_Stmt)]:List S_api_Stmt)++y82.1):List (List AV)):=List.append_nil _
 have hl108:List.length (List.map c_api_Stmt (([(⟨(mget o1_m x4.f_Text 0),x76,x77,x78,x79,x80,((y82.1.length:Nat):Int),0,y8⟩:S_api_Stmt)]:List S_api_Stmt)++y82.1):List (List AV))+List.length ([]:List (List AV))=List.length (List.map c_api_Stmt (([(⟨(mget o1_m x4.f_Text 0),x76,x77,x78,x79,x80,((y82.1.length:Nat):Int),0,y8⟩:S_api_Stmt)]:List S_api_Stmt)++y82.1):List (List AV)):=rfl
 have hl108_b:List.length (([(⟨(mget o1_m x4.f_Text 0),x76,x77,x78,x79,x80,((y82.1.length:Nat):Int),0,y8⟩:S_api_Stmt)]:List S_api_Stmt)++y82.1)+List.length ([]:List (List AV))=List.length (([(⟨(mget o1_m x4.f_Text 0),x76,x77,x78,x79,x80,((y82.1.length:Nat):Int),0,y8⟩:S_api_Stmt)]:List S_api_Stmt)++y82.1):=rfl
 try simp only [ls,c0]
 try simp only [hp107,hl108,hl108_b]
 try simp only [ls]
 conv=>lhs;whnf
 revert h
 intro h;cases sj h
 try simp only [ls]
 exact fq (y:=some (AV.sl 9 (List.take (List.length ((([(⟨(mget o1_m x4.f_Text 0),x76,x77,x78,x79,x80,((y82.1.length:Nat):Int),0,y8⟩:S_api_Stmt)]:List S_api_Stmt)++y82.1))) (List.map c_api_Stmt (([(⟨(mget o1_m x4.f_Text 0),x76,x77,x78,x79,x80,((y82.1.length:Nat):Int),0,y8⟩:S_api_Stmt)]:List S_api_Stmt)++y82.1))),[Ob.var 51 [AV.sl 4 (List.map c_api_Token p_l),iA y82.2.1,AV.mapp 1,iA y82.2.2.1,iA y82.2.2.2],Ob.mp none false (List.map c_mp_map_string_int o1_m)]))
 refine br ?_ ?_
 refine br ?_ ?_
 refine ca hc (fun _ h=>ok_stmt_parser_is h) ?_;intro y112
 refine br ?_ ?_
 refine ca hc (fun _ h=>ih.1 h) ?_;intro y115
 intro h
 have hp117:([[iA ((mget o1_m x4.f_Text 0)),sA x76,sA x77,AV.sl 5 (List.map c_api_Node x78),AV.sl 5 (List.map c_api_Node x79),bA x80,iA (0),iA (((y115.1.length:Nat):Int)),iA y8]]:List (List AV))++([]:List (List AV))=([[iA ((mget o1_m x4.f_Text 0)),sA x76,sA x77,AV.sl 5 (List.map c_api_Node x78),AV.sl 5 (List.map c_api_Node x79),bA x80,iA (0),iA (((y115.1.length:Nat):Int)),iA y8]]:List (List AV)):=List.append_nil _
 have hl118:List.length ([[iA ((mget o1_m x4.f_Text 0)),sA x76,sA x77,AV.sl 5 (List.map c_api_Node x78),AV.sl 5 (List.map c_api_Node x79),bA x80,iA (0),iA (((y115.1.length:Nat):Int)),iA y8]]:List (List AV))+List.length ([]:List (List AV))=List.length ([[iA ((mget o1_m x4.f_Text 0)),sA x76,sA x77,AV.sl 5 (List.map c_api_Node x78),AV.sl 5 (List.map c_api_Node x79),bA x80,iA (0),iA (((y115.1.length:Nat):Int)),iA y8]]:List (List AV)):=rfl
 have hl118_b:List.length ([(⟨(mget o1_m x4.f_Text 0),x76,x77,x78,x79,x80,0,((y115.1.length:Nat):Int),y8⟩:S_api_Stmt)]:List S_api_Stmt)+List.length ([]:List (List AV))=List.length ([(⟨(mget o1_m x4.f_Text 0),x76,x77,x78,x79,x80,0,((y115.1.length:Nat):Int),y8⟩:S_api_Stmt)]:List S_api_Stmt):=rfl
 try simp only [ls,c0]
 try simp only [hp117,hl118,hl118_b]
 conv=>lhs;whnf
 revert h
 refine ar (ap c_api_Stmt ([[iA ((mget o1_m x4.f_Text 0)),sA x76,sA x77,AV.sl 5 (List.map c_api_Node x78),AV.sl 5 (List.map c_api_Node x79),bA x80,iA (0),iA (((y115.1.length:Nat):Int)),iA y8]]) ([(⟨(mget o1_m x4.f_Text 0),x76,x77,x78,x79,x80,0,((y115.1.length:Nat):Int),y8⟩:S_api_Stmt)]:List S_api_Stmt) (List.map c_api_Stmt y115.1) y115.1) ?_
 intro h;cases sj h
 try simp only [ls]
 exact fq (y:=some (AV.sl 9 (List.take (List.length ((([(⟨(mget o1_m x4.f_Text 0),x76,x77,x78,x79,x80,0,((y115.1.length:Nat):Int),y8⟩:S_api_Stmt)]:List S_api_Stmt)++y115.1))) (List.map c_api_Stmt (([(⟨(mget o1_m x4.f_Text 0),x76,x77,x78,x79,x80,0,((y115.1.length:Nat):Int),y8⟩:S_api_Stmt)]:List S_api_Stmt)++y115.1))),[Ob.var 51 [AV.sl 4 (List.map c_api_Token p_l),iA y115.2.1,AV.mapp 1,iA y115.2.2.1,iA y115.2.2.2],Ob.mp none false (List.map c_mp_map_string_int o1_m)]))
 intro h
 have hp121:([[iA ((mget o1_m x4.f_Text 0)),sA x76,sA x77,AV.sl 5 (List.map c_api_Node x78),AV.sl 5 (List.map c_api_Node x79),bA x80,iA (0),iA (0),iA y8]]:List (List AV))++([]:List (List AV))=([[iA ((mget o1_m x4.f_Text 0)),sA x76,sA x77,AV.sl 5 (List.map c_api_Node x78),AV.sl 5 (List.map c_api_Node x79),bA x80,iA (0),iA (0),iA y8]]:List (List AV)):=List.append_nil _
 have hl122:List.length ([[iA ((mget o1_m x4.f_Text 0)),sA x76,sA x77,AV.sl 5 (List.map c_api_Node x78),AV.sl 5 (List.map c_api_Node x79),bA x80,iA (0),iA (0),iA y8]]:List (List AV))+List.length ([]:List (List AV))=List.length ([[iA ((mget o1_m x4.f_Text 0)),sA x76,sA x77,AV.sl 5 (List.map c_api_Node x78),AV.sl 5 (List.map c_api_Node x79),bA x80,iA (0),iA (0),iA y8]]:List (List AV)):=rfl
 have hl122_b:List.length ([(⟨(mget o1_m x4.f_Text 0),x76,x77,x78,x79,x80,0,0,y8⟩:S_api_Stmt)]:List S_api_Stmt)+List.length ([]:List (List AV))=List.length ([(⟨(mget o1_m x4.f_Text 0),x76,x77,x78,x79,x80,0,0,y8⟩:S_api_Stmt)]:List S_api_Stmt):=rfl
 try simp only [ls,c0]
 try simp only [hp121,hl122,hl122_b]
 conv=>lhs;whnf
 revert h
 intro h
 have hp123:([[iA ((mget o1_m x4.f_Text 0)),sA x76,sA x77,AV.sl 5 (List.map c_api_Node x78),AV.sl 5 (List.map c_api_Node x79),bA x80,iA (0),iA (0),iA y8]]:List (List AV))++([]:List (List AV))=([[iA ((mget o1_m x4.f_Text 0)),sA x76,sA x77,AV.sl 5 (List.map c_api_Node x78),AV.sl 5 (List.map c_api_Node x79),bA x80,iA (0),iA (0),iA y8]]:List (List AV)):=List.append_nil _
 have hl124:List.length ([[iA ((mget o1_m x4.f_Text 0)),sA x76,sA x77,AV.sl 5 (List.map c_api_Node x78),AV.sl 5 (List.map c_api_Node x79),bA x80,iA (0),iA (0),iA y8]]:List (List AV))+List.length ([]:List (List AV))=List.length ([[iA ((mget o1_m x4.f_Text 0)),sA x76,sA x77,AV.sl 5 (List.map c_api_Node x78),AV.sl 5 (List.map c_api_Node x79),bA x80,iA (0),iA (0),iA y8]]:List (List AV)):=rfl
 have hl124_b:List.length ([(⟨(mget o1_m x4.f_Text 0),x76,x77,x78,x79,x80,0,0,y8⟩:S_api_Stmt)]:List S_api_Stmt)+List.length ([]:List (List AV))=List.length ([(⟨(mget o1_m x4.f_Text 0),x76,x77,x78,x79,x80,0,0,y8⟩:S_api_Stmt)]:List S_api_Stmt):=rfl
 try simp only [ls,c0]
 try simp only [hp123,hl124,hl124_b]
 conv=>lhs;whnf
 revert h
 intro h;cases sj h
 try simp only [ls]
 exact fq (y:=some (AV.sl 9 (List.take (List.length (([(⟨(mget o1_m x4.f_Text 0),x76,x77,x78,x79,x80,0,0,y8⟩:S_api_Stmt)]:List S_api_Stmt))) ([[iA ((mget o1_m x4.f_Text 0)),sA x76,sA x77,AV.sl 5 (List.map c_api_Node x78),AV.sl 5 (List.map c_api_Node x79),bA x80,iA (0),iA (0),iA y8]])),[Ob.var 51 [AV.sl 4 (List.map c_api_Token p_l),iA x73,AV.mapp 1,iA x74,iA x75],Ob.mp none false (List.map c_mp_map_string_int o1_m)]))
 intro h
 have hp125:([[iA ((mget o1_m x4.f_Text 0)),sA x76,sA x77,AV.sl 5 (List.map c_api_Node x78),AV.sl 5 (List.map c_api_Node x79),bA x80,iA (0),iA (0),iA y8]]:List (List AV))++([]:List (List AV))=([[iA ((mget o1_m x4.f_Text 0)),sA x76,sA x77,AV.sl 5 (List.map c_api_Node x78),AV.sl 5 (List.map c_api_Node x79),bA x80,iA (0),iA (0),iA y8]]:List (List AV)):=List.append_nil _
 have hl126:List.length ([[iA ((mget o1_m x4.f_Text 0)),sA x76,sA x77,AV.sl 5 (List.map c_api_Node x78),AV.sl 5 (List.map c_api_Node x79),bA x80,iA (0),iA (0),iA y8]]:List (List AV))+List.length ([]:List (List AV))=List.length ([[iA ((mget o1_m x4.f_Text 0)),sA x76,sA x77,AV.sl 5 (List.map c_api_Node x78),AV.sl 5 (List.map c_api_Node x79),bA x80,iA (0),iA (0),iA y8]]:List (List AV)):=rfl
 have hl126_b:List.length ([(⟨(mget o1_m x4.f_Text 0),x76,x77,x78,x79,x80,0,0,y8⟩:S_api_Stmt)]:List S_api_Stmt)+List.length ([]:List (List AV))=List.length ([(⟨(mget o1_m x4.f_Text 0),x76,x77,x78,x79,x80,0,0,y8⟩:S_api_Stmt)]:List S_api_Stmt):=rfl
 try simp only [ls,c0]
 try simp only [hp125,hl126,hl126_b]
 conv=>lhs;whnf
 revert h
 intro h
 have hp127:([[iA ((mget o1_m x4.f_Text 0)),sA x76,sA x77,AV.sl 5 (List.map c_api_Node x78),AV.sl 5 (List.map c_api_Node x79),bA x80,iA (0),iA (0),iA y8]]:List (List AV))++([]:List (List AV))=([[iA ((mget o1_m x4.f_Text 0)),sA x76,sA x77,AV.sl 5 (List.map c_api_Node x78),AV.sl 5 (List.map c_api_Node x79),bA x80,iA (0),iA (0),iA y8]]:List (List AV)):=List.append_nil _
 have hl128:List.length ([[iA ((mget o1_m x4.f_Text 0)),sA x76,sA x77,AV.sl 5 (List.map c_api_Node x78),AV.sl 5 (List.map c_api_Node x79),bA x80,iA (0),iA (0),iA y8]]:List (List AV))+List.length ([]:List (List AV))=List.length ([[iA ((mget o1_m x4.f_Text 0)),sA x76,sA x77,AV.sl 5 (List.map c_api_Node x78),AV.sl 5 (List.map c_api_Node x79),bA x80,iA (0),iA (0),iA y8]]:List (List AV)):=rfl
 have hl128_b:List.length ([(⟨(mget o1_m x4.f_Text 0),x76,x77,x78,x79,x80,0,0,y8⟩:S_api_Stmt)]:List S_api_Stmt)+List.length ([]:List (List AV))=List.length ([(⟨(mget o1_m x4.f_Text 0),x76,x77,x78,x79,x80,0,0,y8⟩:S_api_Stmt)]:List S_api_Stmt):=rfl
 try simp only [ls,c0]
 try simp only [hp127,hl128,hl128_b]
 conv=>lhs;whnf
 revert h
 intro h;cases sj h
 try simp only [ls]
 exact fq (y:=some (AV.sl 9 (List.take (List.length (([(⟨(mget o1_m x4.f_Text 0),x76,x77,x78,x79,x80,0,0,y8⟩:S_api_Stmt)]:List S_api_Stmt))) ([[iA ((mget o1_m x4.f_Text 0)),sA x76,sA x77,AV.sl 5 (List.map c_api_Node x78),AV.sl 5 (List.map c_api_Node x79),bA x80,iA (0),iA (0),iA y8]])),[Ob.var 51 [AV.sl 4 (List.map c_api_Token p_l),iA x73,AV.mapp 1,iA x74,iA x75],Ob.mp none false (List.map c_mp_map_string_int o1_m)]))
 intro h
 have hp129:([[iA ((mget o1_m x4.f_Text 0)),sA x76,sA x77,AV.sl 5 (List.map c_api_Node x78),AV.sl 5 (List.map c_api_Node x79),bA x80,iA (0),iA (0),iA y8]]:List (List AV))++([]:List (List AV))=([[iA ((mget o1_m x4.f_Text 0)),sA x76,sA x77,AV.sl 5 (List.map c_api_Node x78),AV.sl 5 (List.map c_api_Node x79),bA x80,iA (0),iA (0),iA y8]]:List (List AV)):=List.append_nil _
 have hl130:List.length ([[iA ((mget o1_m x4.f_Text 0)),sA x76,sA x77,AV.sl 5 (List.map c_api_Node x78),AV.sl 5 (List.map c_api_Node x79),bA x80,iA (0),iA (0),iA y8]]:List (List AV))+List.length ([]:List (List AV))=List.length ([[iA ((mget o1_m x4.f_Text 0)),sA x76,sA x77,AV.sl 5 (List.map c_api_Node x78),AV.sl 5 (List.map c_api_Node x79),bA x80,iA (0),iA (0),iA y8]]:List (List AV)):=rfl
 have hl130_b:List.length ([(⟨(mget o1_m x4.f_Text 0),x76,x77,x78,x79,x80,0,0,y8⟩:S_api_Stmt)]:List S_api_Stmt)+List.length ([]:List (List AV))=List.length ([(⟨(mget o1_m x4.f_Text 0),x76,x77,x78,x79,x80,0,0,y8⟩:S_api_Stmt)]:List S_api_Stmt):=rfl
 try simp only [ls,c0]
 try simp only [hp129,hl130,hl130_b]
 conv=>lhs;whnf
 revert h
 intro h
 have hp131:([[iA ((mget o1_m x4.f_Text 0)),sA x76,sA x77,AV.sl 5 (List.map c_api_Node x78),AV.sl 5 (List.map c_api_Node x79),bA x80,iA (0),iA (0),iA y8]]:List (List AV))++([]:List (List AV))=([[iA ((mget o1_m x4.f_Text 0)),sA x76,sA x77,AV.sl 5 (List.map c_api_Node x78),AV.sl 5 (List.map c_api_Node x79),bA x80,iA (0),iA (0),iA y8]]:List (List AV)):=List.append_nil _
 have hl132:List.length ([[iA ((mget o1_m x4.f_Text 0)),sA x76,sA x77,AV.sl 5 (List.map c_api_Node x78),AV.sl 5 (List.map c_api_Node x79),bA x80,iA (0),iA (0),iA y8]]:List (List AV))+List.length ([]:List (List AV))=List.length ([[iA ((mget o1_m x4.f_Text 0)),sA x76,sA x77,AV.sl 5 (List.map c_api_Node x78),AV.sl 5 (List.map c_api_Node x79),bA x80,iA (0),iA (0),iA y8]]:List (List AV)):=rfl
 have hl132_b:List.length ([(⟨(mget o1_m x4.f_Text 0),x76,x77,x78,x79,x80,0,0,y8⟩:S_api_Stmt)]:List S_api_Stmt)+List.length ([]:List (List AV))=List.length ([(⟨(mget o1_m x4.f_Text 0),x76,x77,x78,x79,x80,0,0,y8⟩:S_api_Stmt)]:List S_api_Stmt):=rfl
 try simp only [ls,c0]
 try simp only [hp131,hl132,hl132_b]
 conv=>lhs;whnf
 revert h
 intro h;cases sj h
 try simp only [ls]
 exact fq (y:=some (AV.sl 9 (List.take (List.length (([(⟨(mget o1_m x4.f_Text 0),x76,x77,x78,x79,x80,0,0,y8⟩:S_api_Stmt)]:List S_api_Stmt))) ([[iA ((mget o1_m x4.f_Text 0)),sA x76,sA x77,AV.sl 5 (List.map c_api_Node x78),AV.sl 5 (List.map c_api_Node x79),bA x80,iA (0),iA (0),iA y8]])),[Ob.var 51 [AV.sl 4 (List.map c_api_Token p_l),iA x73,AV.mapp 1,iA x74,iA x75],Ob.mp none false (List.map c_mp_map_string_int o1_m)]))
 refine ca hc (fun _ h=>ok_stmt_parser_fail h) ?_;intro y134
 intro h;cases sj h
 try simp only [ls]
 exact fq (y:=some (AV.sl 9 [],[Ob.var 51 [AV.sl 4 (List.map c_api_Token p_l),iA p_i,AV.mapp 1,iA y134.1,iA y134.2],Ob.mp none false (List.map c_mp_map_string_int o1_m)]))
 refine ca hc (fun _ h=>ok_stmt_of_1 h) ?_;intro y136
 refine ca hc (fun _ h=>ok_stmt_parser_fail h) ?_;intro y138
 intro h;cases sj h
 try simp only [ls]
 exact fq (y:=some (AV.sl 9 [],[Ob.var 51 [AV.sl 4 (List.map c_api_Token p_l),iA p_i,AV.mapp 1,iA y138.1,iA y138.2],Ob.mp none false (List.map c_mp_map_string_int o1_m)]))
 refine ca hc (fun _ h=>ok_stmt_of_1 h) ?_;intro y140
 refine ca hc (fun _ h=>ok_stmt_parser_fail h) ?_;intro y142
 intro h;cases sj h
 try simp only [ls]
 exact fq (y:=some (AV.sl 9 [],[Ob.var 51 [AV.sl 4 (List.map c_api_Token p_l),iA p_i,AV.mapp 1,iA y142.1,iA y142.2],Ob.mp none false (List.map c_mp_map_string_int o1_m)]))
theorem all_stmt_parser_block : ∀ n, IH_stmt_parser_block n
  | 0 => ⟨by unfold OK_stmt_parser_block; intros; rename_i h; exact absurd h (by intro h; cases h), by unfold OK_stmt_parser_list; intros; rename_i h; exact absurd h (by intro h; cases h), by unfold OK_stmt_parser_one; intros; rename_i h; exact absurd h (by intro h; cases h)⟩
  | n + 1 => have ih := all_stmt_parser_block n
    ⟨st_stmt_parser_block n ih, st_stmt_parser_list n ih, st_stmt_parser_one n ih⟩
theorem ok_stmt_parser_list {n : Nat} : OK_stmt_parser_list n := (all_stmt_parser_block n).2.1
theorem ok_stmt_Parse {n:Nat} ⦃v0_l:(List S_api_Token)⦄ ⦃v1_i:Int⦄ ⦃r:((List S_api_Stmt)×Int×Int×Int)⦄:m_stmt_Parse n v0_l v1_i=some r→CN n 11 [AV.sl 4 (List.map c_api_Token v0_l),iA v1_i] []=some (AV.tup [AV.sl 9 (List.map c_api_Stmt r.1),iA r.2.1,iA r.2.2.1,iA r.2.2.2],[]):=by
 intro h;rcases n with _|n;cases h
 rw [m_stmt_Parse] at h
 refine callN_eq' Try.func11 (by rfl) rfl rfl (Nat.le_of_ble_eq_true rfl) ?_
 intro call hc;conv=>lhs;whnf
 revert h
 refine br ?_ ?_
 exact rz
 refine br ?_ ?_
 exact rz
 refine ca hc (fun _ h=>ok_stmt_kinds h) ?_;intro y3
 intro h;refine bind_some2 h ?_;clear h;intro o14 ho14 h
 refine lq (σ:=(Int×(List ((List UInt8)×Int)))) (τ:=(List ((List UInt8)×Int))) (ν:=((List S_api_Stmt)×Int×Int×Int)) 0 (fun (s5,s6) a8=>stOf 71 [(1,iA v1_i),(8,AV.ptr 1 0),(25,AV.sl 4 (List.map c_stmt_kind y3)),(26,iA (((y3.length:Nat):Int))),(27,iA s5)]) (fun (s5,s6) a8=>[Ob.mp none false (List.map c_mp_map_string_int s6),Ob.var 51 [AV.sl 4 (List.map c_api_Token v0_l),iA v1_i,AV.mapp 0,iA (0),iA (0)]]) (fun x20 a19=>stOf 71 [(1,iA v1_i),(8,AV.ptr 1 0)]) (fun x20 a19=>[Ob.mp none false (List.map c_mp_map_string_int x20),Ob.var 51 [AV.sl 4 (List.map c_api_Token v0_l),iA v1_i,AV.mapp 0,iA (0),iA (0)]]) (fun v=>(AV.tup [AV.sl 9 (List.map c_api_Stmt v.1),iA v.2.1,iA v.2.2.1,iA v.2.2.2],[])) (fun k s=>stmt_Parse_L0 n y3 k s.1 s.2) (fun s=>rfl) o14 n (0,([]:(List ((List UInt8)×Int)))) (fun _=>0) ho14 ?_ ?_
 intro k7 ss a8 K9 cont10 hK11 hcont12 h hr13
 obtain ⟨s5,s6⟩:=ss
 replace h:stmt_Parse_L0 n y3 (k7+1) s5 s6=some o14:=h
 rw [stmt_Parse_L0] at h
 conv=>lhs;whnf
 revert h
 refine br ?_ ?_
 refine ix ?_;intro x16
 refine br ?_ ?_
 exact fun h=>cq (hcont12 (IntKind.i64.wrap (s5+1),s6) (fun _=>0) h)
 intro h
 have hs18:mpSet (List.map c_mp_map_string_int s6) (sA x16.f_word) (iA s5)=List.map c_mp_map_string_int (mset s6 x16.f_word s5):=set_c_mp_map_string_int _ _ _
 try simp only [hs18]
 conv=>lhs;whnf
 revert h
 exact fun h=>cq (hcont12 (IntKind.i64.wrap (s5+1),(mset s6 x16.f_word s5)) (fun _=>0) h)
 intro h;cases sj h
 exact kq (hr13 (fun _=>0))
 refine lrc ?_ ?_
 intro v e;subst e;cases sj h;rfl
 intro x20 a19 e;subst e
 dsimp only at h
 conv=>lhs;whnf
 revert h
 refine ca hc (fun _ h=>ok_stmt_parser_list h) ?_;intro y21
 refine br ?_ ?_
 exact rz
 refine br ?_ ?_
 refine ca hc (fun _ h=>ok_stmt_parser_place h) ?_;intro y25
 exact rz
 exact rz
theorem ok_stmt_kind_has {n:Nat} ⦃v0_k:S_stmt_kind⦄ ⦃v1_part:Int⦄ ⦃r:Bool⦄:m_stmt_kind_has n v0_k v1_part=some r→CN n 26 [AV.agg [sA v0_k.f_word,sA v0_k.f_form,bA v0_k.f_body,bA v0_k.f_more],AV.int .u8 v1_part] []=some (bA r,[]):=by
 intro h;rcases n with _|n;cases h
 rw [m_stmt_kind_has] at h
 refine callN_eq' Try.func26 (by rfl) rfl rfl (Nat.le_of_ble_eq_true rfl) ?_
 intro call hc;conv=>lhs;whnf
 revert h
 intro h;refine bind_some2 h ?_;clear h;intro o9 ho9 h
 refine lq (σ:=Int) (τ:=Unit) (ν:=Bool) 0 (fun s1 a3=>stOf 19 [(1,AV.int .u8 v1_part),(2,AV.ptr 0 0),(8,iA (((v0_k.f_form.length:Nat):Int))),(9,iA s1)]) (fun s1 a3=>[Ob.var 55 [sA v0_k.f_word,sA v0_k.f_form,bA v0_k.f_body,bA v0_k.f_more]]) (fun _ a13=>stOf 19 []) (fun _ a13=>[Ob.var 55 [sA v0_k.f_word,sA v0_k.f_form,bA v0_k.f_body,bA v0_k.f_more]]) (fun v=>(bA v,[])) (fun k s=>stmt_kind_has_L0 n v0_k v1_part k s) (fun s=>rfl) o9 n 0 (fun _=>0) ho9 ?_ ?_
 intro k2 s1 a3 K4 cont5 hK6 hcont7 h hr8
 replace h:stmt_kind_has_L0 n v0_k v1_part (k2+1) s1=some o9:=h
 rw [stmt_kind_has_L0] at h
 conv=>lhs;whnf
 revert h
 refine br ?_ ?_
 refine ixs ?_;intro x11
 refine br ?_ ?_
 intro h;cases sj h
 refine (hK6 _ _).trans ?_
 refine Eq.trans ?_ (Eq.symm (show _=some _ from hr8))
 conv=>lhs;whnf
 exact rq
 exact fun h=>cq (hcont7 (IntKind.i64.wrap (s1+1)) (fun _=>0) h)
 intro h;cases sj h
 exact kq (hr8 (fun _=>0))
 refine lrc ?_ ?_
 intro v e;subst e;cases sj h;rfl
 intro t a13 e;subst e
 dsimp only at h
 conv=>lhs;whnf
 revert h
 exact rz
theorem ok_stmt_fits_1 {n:Nat} ⦃v0_part:Int⦄ ⦃v1_s:(List UInt8)⦄ ⦃o0_word:(List UInt8)⦄ ⦃o0_form:(List UInt8)⦄ ⦃o0_body:Bool⦄ ⦃o0_more:Bool⦄ ⦃r:Bool⦄:m_stmt_fits_1 n v0_part v1_s o0_word o0_form o0_body o0_more=some r→CN n 25 [AV.int .u8 v0_part,sA v1_s,AV.ptr 0 0] [Ob.var 55 [sA o0_word,sA o0_form,bA o0_body,bA o0_more]]=some (bA r,[Ob.var 55 [sA o0_word,sA o0_form,bA o0_body,bA o0_more]]):=by
 intro h;rcases n with _|n;cases h
 rw [m_stmt_fits_1] at h
 refine callN_eq' Try.func25 (by rfl) rfl rfl (Nat.le_of_ble_eq_true rfl) ?_
 intro call hc;conv=>lhs;whnf
 revert h
 refine ca hc (fun y1 h=>(show CN n 26 [AV.agg [sA o0_word,sA o0_form,bA o0_body,bA o0_more],AV.int .u8 v0_part] []=some (bA y1,[]) from ok_stmt_kind_has (r:=y1) h)) ?_;intro y1
 refine br ?_ ?_
 refine ca hc (fun _ h=>ok_scan_Name h) ?_;intro y4
 refine br ?_ ?_
 exact rz
 refine ca hc (fun y7 h=>(show CN n 26 [AV.agg [sA o0_word,sA o0_form,bA o0_body,bA o0_more],AV.int .u8 v0_part] []=some (bA y7,[]) from ok_stmt_kind_has (r:=y7) h)) ?_;intro y7
 refine br ?_ ?_
 exact rz
 exact rz
 refine ca hc (fun y10 h=>(show CN n 26 [AV.agg [sA o0_word,sA o0_form,bA o0_body,bA o0_more],AV.int .u8 v0_part] []=some (bA y10,[]) from ok_stmt_kind_has (r:=y10) h)) ?_;intro y10
 refine br ?_ ?_
 exact rz
 exact rz
theorem ok_stmt_fits_2 {n:Nat} ⦃v0_part:Int⦄ ⦃v1_l:(List S_api_Node)⦄ ⦃o0_word:(List UInt8)⦄ ⦃o0_form:(List UInt8)⦄ ⦃o0_body:Bool⦄ ⦃o0_more:Bool⦄ ⦃r:Bool⦄:m_stmt_fits_2 n v0_part v1_l o0_word o0_form o0_body o0_more=some r→CN n 28 [AV.int .u8 v0_part,AV.sl 5 (List.map c_api_Node v1_l),AV.ptr 0 0] [Ob.var 55 [sA o0_word,sA o0_form,bA o0_body,bA o0_more]]=some (bA r,[Ob.var 55 [sA o0_word,sA o0_form,bA o0_body,bA o0_more]]):=by
 intro h;rcases n with _|n;cases h
 rw [m_stmt_fits_2] at h
 refine callN_eq' Try.func28 (by rfl) rfl rfl (Nat.le_of_ble_eq_true rfl) ?_
 intro call hc;conv=>lhs;whnf
 revert h
 refine ca hc (fun y1 h=>(show CN n 26 [AV.agg [sA o0_word,sA o0_form,bA o0_body,bA o0_more],AV.int .u8 v0_part] []=some (bA y1,[]) from ok_stmt_kind_has (r:=y1) h)) ?_;intro y1
 refine br ?_ ?_
 refine ca hc (fun _ h=>ok_stmt_plain h) ?_;intro y4
 refine br ?_ ?_
 exact rz
 refine ca hc (fun y7 h=>(show CN n 26 [AV.agg [sA o0_word,sA o0_form,bA o0_body,bA o0_more],AV.int .u8 v0_part] []=some (bA y7,[]) from ok_stmt_kind_has (r:=y7) h)) ?_;intro y7
 refine br ?_ ?_
 exact rz
 exact rz
 refine ca hc (fun y10 h=>(show CN n 26 [AV.agg [sA o0_word,sA o0_form,bA o0_body,bA o0_more],AV.int .u8 v0_part] []=some (bA y10,[]) from ok_stmt_kind_has (r:=y10) h)) ?_;intro y10
 refine br ?_ ?_
 exact rz
 exact rz
theorem ok_stmt_fits {n:Nat} ⦃v0_x:S_api_Stmt⦄ ⦃r:Bool⦄:m_stmt_fits n v0_x=some r→CN n 15 [AV.agg [iA v0_x.f_Kind,sA v0_x.f_Reg,sA v0_x.f_Loc,AV.sl 5 (List.map c_api_Node v0_x.f_E),AV.sl 5 (List.map c_api_Node v0_x.f_F),bA v0_x.f_Ne,iA v0_x.f_Body,iA v0_x.f_Else,iA v0_x.f_At]] []=some (bA r,[]):=by
 intro h;rcases n with _|n;cases h
 rw [m_stmt_fits] at h
 refine callN_eq' Try.func15 (by rfl) rfl rfl (Nat.le_of_ble_eq_true rfl) ?_
 intro call hc;conv=>lhs;whnf
 revert h
 refine ca hc (fun _ h=>ok_stmt_of h) ?_;intro y1
 refine br ?_ ?_
 refine br ?_ ?_
 exact rz
 refine br ?_ ?_
 refine ca hc (fun _ h=>ok_stmt_kind_has h) ?_;intro y6
 refine br ?_ ?_
 refine ca hc (fun _ h=>ok_stmt_fits_1 h) ?_;intro y9
 refine br ?_ ?_
 refine ca hc (fun _ h=>ok_stmt_fits_1 h) ?_;intro y12
 refine br ?_ ?_
 refine ca hc (fun _ h=>ok_stmt_fits_2 h) ?_;intro y15
 refine br ?_ ?_
 refine ca hc (fun _ h=>ok_stmt_fits_2 h) ?_;intro y18
 refine br ?_ ?_
 refine br ?_ ?_
 refine br ?_ ?_
 exact rz
 exact rz
 refine br ?_ ?_
 refine br ?_ ?_
 exact rz
 exact rz
 exact rz
 exact rz
 exact rz
 exact rz
 exact rz
 exact rz
 refine ca hc (fun _ h=>ok_stmt_fits_1 h) ?_;intro y25
 refine br ?_ ?_
 refine ca hc (fun _ h=>ok_stmt_fits_1 h) ?_;intro y28
 refine br ?_ ?_
 refine ca hc (fun _ h=>ok_stmt_fits_2 h) ?_;intro y31
 refine br ?_ ?_
 refine ca hc (fun _ h=>ok_stmt_fits_2 h) ?_;intro y34
 refine br ?_ ?_
 refine br ?_ ?_
 refine br ?_ ?_
 exact rz
 exact rz
 refine br ?_ ?_
 refine br ?_ ?_
 exact rz
 exact rz
 exact rz
 exact rz
 exact rz
 exact rz
 exact rz
 exact rz
theorem ok_stmt_Right {n:Nat} ⦃v0_l:(List S_api_Stmt)⦄ ⦃r:Bool⦄:m_stmt_Right n v0_l=some r→CN n 7 [AV.sl 9 (List.map c_api_Stmt v0_l)] []=some (bA r,[]):=by
 intro h;rcases n with _|n;cases h
 rw [m_stmt_Right] at h
 refine callN_eq' Try.func7 (by rfl) rfl rfl (Nat.le_of_ble_eq_true rfl) ?_
 intro call hc;conv=>lhs;whnf
 revert h
 refine ca hc (fun _ h=>ok_stmt_Depth h) ?_;intro y1
 refine br ?_ ?_
 exact rz
 refine br ?_ ?_
 exact rz
 refine br ?_ ?_
 exact rz
 intro h;refine bind_some2 h ?_;clear h;intro o14 ho14 h
 refine lq (σ:=Int) (τ:=Unit) (ν:=Bool) 0 (fun s6 a8=>stOf 29 [(19,AV.sl 9 (List.map c_api_Stmt v0_l)),(20,iA (((v0_l.length:Nat):Int))),(21,iA s6)]) (fun s6 a8=>[]) (fun _ a20=>stOf 29 []) (fun _ a20=>[]) (fun v=>(bA v,[])) (fun k s=>stmt_Right_L0 n v0_l k s) (fun s=>rfl) o14 n 0 (fun _=>0) ho14 ?_ ?_
 intro k7 s6 a8 K9 cont10 hK11 hcont12 h hr13
 replace h:stmt_Right_L0 n v0_l (k7+1) s6=some o14:=h
 rw [stmt_Right_L0] at h
 conv=>lhs;whnf
 revert h
 refine br ?_ ?_
 refine ix ?_;intro x16
 refine ca hc (fun _ h=>ok_stmt_fits h) ?_;intro y17
 refine br ?_ ?_
 exact fun h=>cq (hcont12 (IntKind.i64.wrap (s6+1)) (fun _=>0) h)
 intro h;cases sj h
 refine (hK11 _ _).trans ?_
 refine Eq.trans ?_ (Eq.symm (show _=some _ from hr13))
 conv=>lhs;whnf
 exact rq
 intro h;cases sj h
 exact kq (hr13 (fun _=>0))
 refine lrc ?_ ?_
 intro v e;subst e;cases sj h;rfl
 intro t a20 e;subst e
 dsimp only at h
 conv=>lhs;whnf
 revert h
 exact rz
theorem ok_stmt_head {n:Nat} ⦃v0_x:S_api_Stmt⦄ ⦃r:(List UInt8)⦄:m_stmt_head n v0_x=some r→CN n 34 [AV.agg [iA v0_x.f_Kind,sA v0_x.f_Reg,sA v0_x.f_Loc,AV.sl 5 (List.map c_api_Node v0_x.f_E),AV.sl 5 (List.map c_api_Node v0_x.f_F),bA v0_x.f_Ne,iA v0_x.f_Body,iA v0_x.f_Else,iA v0_x.f_At]] []=some (sA r,[]):=by
 intro h;rcases n with _|n;cases h
 rw [m_stmt_head] at h
 refine callN_eq' Try.func34 (by rfl) rfl rfl (Nat.le_of_ble_eq_true rfl) ?_
 intro call hc;conv=>lhs;whnf
 revert h
 refine ca hc (fun _ h=>ok_stmt_of h) ?_;intro y1
 intro h;refine bind_some2 h ?_;clear h;intro o13 ho13 h
 refine lq (σ:=((List UInt8)×Int×Bool)) (τ:=((List UInt8)×Bool)) (ν:=(List UInt8)) 0 (fun (s3,s4,s5) a7=>stOf 76 [(1,AV.ptr 0 0),(3,AV.ptr 1 0),(5,sA s3),(18,iA (((y1.1.f_form.length:Nat):Int))),(19,iA s4)]) (fun (s3,s4,s5) a7=>[Ob.var 40 [iA v0_x.f_Kind,sA v0_x.f_Reg,sA v0_x.f_Loc,AV.sl 5 (List.map c_api_Node v0_x.f_E),AV.sl 5 (List.map c_api_Node v0_x.f_F),bA s5,iA v0_x.f_Body,iA v0_x.f_Else,iA v0_x.f_At],Ob.var 55 [sA y1.1.f_word,sA y1.1.f_form,bA y1.1.f_body,bA y1.1.f_more]]) (fun (x41,x42) a40=>stOf 76 [(5,sA x41)]) (fun (x41,x42) a40=>[Ob.var 40 [iA v0_x.f_Kind,sA v0_x.f_Reg,sA v0_x.f_Loc,AV.sl 5 (List.map c_api_Node v0_x.f_E),AV.sl 5 (List.map c_api_Node v0_x.f_F),bA x42,iA v0_x.f_Body,iA v0_x.f_Else,iA v0_x.f_At],Ob.var 55 [sA y1.1.f_word,sA y1.1.f_form,bA y1.1.f_body,bA y1.1.f_more]]) (fun v=>(sA v,[])) (fun k s=>stmt_head_L0 n v0_x y1 k s.1 s.2.1 s.2.2) (fun s=>rfl) o13 n (y1.1.f_word,0,v0_x.f_Ne) (fun _=>0) ho13 ?_ ?_
 intro k6 ss a7 K8 cont9 hK10 hcont11 h hr12
 obtain ⟨s3,s4,s5⟩:=ss
 replace h:stmt_head_L0 n v0_x y1 (k6+1) s3 s4 s5=some o13:=h
 rw [stmt_head_L0] at h
 conv=>lhs;whnf
 revert h
 refine br ?_ ?_
 refine ixs ?_;intro x15
 refine br ?_ ?_
 intro h
 refine chk_some2 h ?_;clear h;intro hc17 h
 refine bif_pos hc17 ?_
 try simp only [ls]
 conv=>lhs;whnf
 revert h
 intro h
 refine chk_some2 h ?_;clear h;intro hc18 h
 refine bif_pos hc18 ?_
 try simp only [ls]
 conv=>lhs;whnf
 revert h
 exact fun h=>cq (hcont11 ((s3++(([32]:List UInt8)++v0_x.f_Reg)),IntKind.i64.wrap (s4+1),s5) (fun _=>0) h)
 refine br ?_ ?_
 intro h
 refine chk_some2 h ?_;clear h;intro hc20 h
 refine bif_pos hc20 ?_
 try simp only [ls]
 conv=>lhs;whnf
 revert h
 intro h
 refine chk_some2 h ?_;clear h;intro hc21 h
 refine bif_pos hc21 ?_
 try simp only [ls]
 conv=>lhs;whnf
 revert h
 exact fun h=>cq (hcont11 ((s3++(([32]:List UInt8)++v0_x.f_Loc)),IntKind.i64.wrap (s4+1),s5) (fun _=>0) h)
 refine br ?_ ?_
 refine ca hc (fun _ h=>ok_expr_Show h) ?_;intro y23
 intro h
 refine chk_some2 h ?_;clear h;intro hc25 h
 refine bif_pos hc25 ?_
 try simp only [ls]
 conv=>lhs;whnf
 revert h
 intro h
 refine chk_some2 h ?_;clear h;intro hc26 h
 refine bif_pos hc26 ?_
 try simp only [ls]
 conv=>lhs;whnf
 revert h
 exact fun h=>cq (hcont11 ((s3++(([32]:List UInt8)++y23)),IntKind.i64.wrap (s4+1),s5) (fun _=>0) h)
 refine br ?_ ?_
 refine ca hc (fun _ h=>ok_expr_Show h) ?_;intro y28
 intro h
 refine chk_some2 h ?_;clear h;intro hc30 h
 refine bif_pos hc30 ?_
 try simp only [ls]
 conv=>lhs;whnf
 revert h
 intro h
 refine chk_some2 h ?_;clear h;intro hc31 h
 refine bif_pos hc31 ?_
 try simp only [ls]
 conv=>lhs;whnf
 revert h
 exact fun h=>cq (hcont11 ((s3++(([32]:List UInt8)++y28)),IntKind.i64.wrap (s4+1),s5) (fun _=>0) h)
 refine br ?_ ?_
 refine br ?_ ?_
 intro h
 refine chk_some2 h ?_;clear h;intro hc34 h
 refine bif_pos hc34 ?_
 try simp only [ls]
 conv=>lhs;whnf
 revert h
 exact fun h=>cq (hcont11 ((s3++([32,33,61]:List UInt8)),IntKind.i64.wrap (s4+1),true) (fun _=>0) h)
 intro h
 refine chk_some2 h ?_;clear h;intro hc35 h
 refine bif_pos hc35 ?_
 try simp only [ls]
 conv=>lhs;whnf
 revert h
 exact fun h=>cq (hcont11 ((s3++([32,61,61]:List UInt8)),IntKind.i64.wrap (s4+1),false) (fun _=>0) h)
 refine br ?_ ?_
 intro h
 refine chk_some2 h ?_;clear h;intro hc37 h
 refine bif_pos hc37 ?_
 try simp only [ls]
 conv=>lhs;whnf
 revert h
 exact fun h=>cq (hcont11 ((s3++([32,61]:List UInt8)),IntKind.i64.wrap (s4+1),s5) (fun _=>0) h)
 refine cp ?_
 intro h
 refine chk_some2 h ?_;clear h;intro hc39 h
 refine bif_pos hc39 ?_
 try simp only [ls]
 conv=>lhs;whnf
 revert h
 exact fun h=>cq (hcont11 ((s3++([UInt8.ofNat (IntKind.i32.wrap ((x15.toNat:Int))).toNat])),IntKind.i64.wrap (s4+1),s5) (fun _=>0) h)
 intro h;cases sj h
 exact kq (hr12 (fun _=>0))
 refine lrc ?_ ?_
 intro v e;subst e;cases sj h;rfl
 intro t a40 e;subst e
 obtain ⟨x41,x42⟩:=t
 dsimp only at h
 conv=>lhs;whnf
 revert h
 exact rz
theorem ok_stmt_pad {n:Nat} ⦃v0_deep:Int⦄ ⦃r:(List UInt8)⦄:m_stmt_pad n v0_deep=some r→CN n 33 [iA v0_deep] []=some (sA r,[]):=by
 intro h;rcases n with _|n;cases h
 rw [m_stmt_pad] at h
 refine callN_eq' Try.func33 (by rfl) rfl rfl (Nat.le_of_ble_eq_true rfl) ?_
 intro call hc;conv=>lhs;whnf
 revert h
 intro h;refine bind_some2 h ?_;clear h;intro o10 ho10 h
 refine lq (σ:=((List UInt8)×Int)) (τ:=(List UInt8)) (ν:=(List UInt8)) 0 (fun (s1,s2) a4=>stOf 11 [(3,sA s1),(4,iA v0_deep),(5,iA s2)]) (fun (s1,s2) a4=>[]) (fun x14 a13=>stOf 11 [(3,sA x14)]) (fun x14 a13=>[]) (fun v=>(sA v,[])) (fun k s=>stmt_pad_L0 n v0_deep k s.1 s.2) (fun s=>rfl) o10 n (([]:List UInt8),0) (fun _=>0) ho10 ?_ ?_
 intro k3 ss a4 K5 cont6 hK7 hcont8 h hr9
 obtain ⟨s1,s2⟩:=ss
 replace h:stmt_pad_L0 n v0_deep (k3+1) s1 s2=some o10:=h
 rw [stmt_pad_L0] at h
 conv=>lhs;whnf
 revert h
 refine br ?_ ?_
 intro h
 refine chk_some2 h ?_;clear h;intro hc12 h
 refine bif_pos hc12 ?_
 try simp only [ls]
 conv=>lhs;whnf
 revert h
 exact fun h=>cq (hcont8 ((s1++([32,32]:List UInt8)),IntKind.i64.wrap (s2+1)) (fun _=>0) h)
 intro h;cases sj h
 exact kq (hr9 (fun _=>0))
 refine lrc ?_ ?_
 intro v e;subst e;cases sj h;rfl
 intro x14 a13 e;subst e
 dsimp only at h
 conv=>lhs;whnf
 revert h
 exact rz
def OK_stmt_show (n:Nat):Prop:=∀ ⦃v0_l:(List S_api_Stmt)⦄ ⦃v1_from:Int⦄ ⦃v2_to:Int⦄ ⦃v3_deep:Int⦄ ⦃r:(List UInt8)⦄,m_stmt_show n v0_l v1_from v2_to v3_deep=some r→CN n 17 [AV.sl 9 (List.map c_api_Stmt v0_l),iA v1_from,iA v2_to,iA v3_deep] []=some (sA r,[])
def OK_stmt_show_1 (n:Nat):Prop:=∀ ⦃v0_i:Int⦄ ⦃v1_mid:Int⦄ ⦃v2_end:Int⦄ ⦃o0:(List UInt8)⦄ ⦃o1:Int⦄ ⦃o2:(List S_api_Stmt)⦄ ⦃r:(Bool×(List UInt8))⦄,m_stmt_show_1 n v0_i v1_mid v2_end o0 o1 o2=some r→CN n 32 [iA v0_i,iA v1_mid,iA v2_end,AV.ptr 0 0,AV.ptr 1 0,AV.ptr 2 0] [Ob.var 9 [sA o0],Ob.var 3 [iA o1],Ob.var 22 [AV.sl 9 (List.map c_api_Stmt o2)]]=some (bA r.1,[Ob.var 9 [sA r.2],Ob.var 3 [iA o1],Ob.var 22 [AV.sl 9 (List.map c_api_Stmt o2)]])
def OK_stmt_walk_stmt_show_1 (n:Nat):Prop:=∀ ⦃v0_l:(List S_api_Stmt)⦄ ⦃v1_from:Int⦄ ⦃v2_to:Int⦄ ⦃o0:(List UInt8)⦄ ⦃o1:Int⦄ ⦃o2:(List S_api_Stmt)⦄ ⦃r:(Bool×(List UInt8))⦄,m_stmt_walk_stmt_show_1 n v0_l v1_from v2_to o0 o1 o2=some r→CN n 30 [AV.sl 9 (List.map c_api_Stmt v0_l),iA v1_from,iA v2_to,AV.func 32 [] [AV.ptr 0 0,AV.ptr 1 0,AV.ptr 2 0]] [Ob.var 9 [sA o0],Ob.var 3 [iA o1],Ob.var 22 [AV.sl 9 (List.map c_api_Stmt o2)]]=some (bA r.1,[Ob.var 9 [sA r.2],Ob.var 3 [iA o1],Ob.var 22 [AV.sl 9 (List.map c_api_Stmt o2)]])
def IH_stmt_show (n : Nat) : Prop := OK_stmt_show n ∧ OK_stmt_show_1 n ∧ OK_stmt_walk_stmt_show_1 n
theorem st_stmt_show (n:Nat) (ih:IH_stmt_show n):OK_stmt_show (n+1):=by
 intro v0_l v1_from v2_to v3_deep r h
 rw [m_stmt_show] at h
 refine callN_eq' Try.func17 (by rfl) rfl rfl (Nat.le_of_ble_eq_true rfl) ?_
 intro call hc;conv=>lhs;whnf
 revert h
 refine cr hc (fun _ h=>ih.2.2 h) ?_;intro y1
 exact rz
theorem st_stmt_show_1 (n:Nat) (ih:IH_stmt_show n):OK_stmt_show_1 (n+1):=by
 intro v0_i v1_mid v2_end o0 o1 o2 r h
 rw [m_stmt_show_1] at h
 refine callN_eq' Try.func32 (by rfl) rfl rfl (Nat.le_of_ble_eq_true rfl) ?_
 intro call hc;conv=>lhs;whnf
 revert h
 refine ca hc (fun _ h=>ok_stmt_pad h) ?_;intro y1
 refine ix ?_;intro x3
 refine ca hc (fun _ h=>ok_stmt_head h) ?_;intro y4
 intro h
 refine chk_some2 h ?_;clear h;intro hc6 h
 refine bif_pos hc6 ?_
 try simp only [ls]
 conv=>lhs;whnf
 revert h
 intro h
 refine chk_some2 h ?_;clear h;intro hc7 h
 refine bif_pos hc7 ?_
 try simp only [ls]
 conv=>lhs;whnf
 revert h
 refine ix ?_;intro x8
 refine ca hc (fun _ h=>ok_stmt_nests h) ?_;intro y9
 refine br ?_ ?_
 refine ca hc (fun _ h=>ih.1 h) ?_;intro y12
 intro h
 refine chk_some2 h ?_;clear h;intro hc14 h
 refine bif_pos hc14 ?_
 try simp only [ls]
 conv=>lhs;whnf
 revert h
 refine ca hc (fun _ h=>ok_stmt_pad h) ?_;intro y15
 intro h
 refine chk_some2 h ?_;clear h;intro hc17 h
 refine bif_pos hc17 ?_
 try simp only [ls]
 conv=>lhs;whnf
 revert h
 intro h
 refine chk_some2 h ?_;clear h;intro hc18 h
 refine bif_pos hc18 ?_
 try simp only [ls]
 conv=>lhs;whnf
 revert h
 refine br ?_ ?_
 refine ca hc (fun _ h=>ih.1 h) ?_;intro y20
 intro h
 refine chk_some2 h ?_;clear h;intro hc22 h
 refine bif_pos hc22 ?_
 try simp only [ls]
 conv=>lhs;whnf
 revert h
 refine ca hc (fun _ h=>ok_stmt_pad h) ?_;intro y23
 intro h
 refine chk_some2 h ?_;clear h;intro hc25 h
 refine bif_pos hc25 ?_
 try simp only [ls]
 conv=>lhs;whnf
 revert h
 intro h
 refine chk_some2 h ?_;clear h;intro hc26 h
 refine bif_pos hc26 ?_
 try simp only [ls]
 conv=>lhs;whnf
 revert h
 intro h
 refine chk_some2 h ?_;clear h;intro hc27 h
 refine bif_pos hc27 ?_
 try simp only [ls]
 conv=>lhs;whnf
 revert h
 intro h
 refine chk_some2 h ?_;clear h;intro hc28 h
 refine bif_pos hc28 ?_
 try simp only [ls]
 conv=>lhs;whnf
 revert h
 exact rz
 intro h
 refine chk_some2 h ?_;clear h;intro hc29 h
 refine bif_pos hc29 ?_
 try simp only [ls]
 conv=>lhs;whnf
 revert h
 intro h
 refine chk_some2 h ?_;clear h;intro hc30 h
 refine bif_pos hc30 ?_
 try simp only [ls]
 conv=>lhs;whnf
 revert h
 exact rz
 intro h
 refine chk_some2 h ?_;clear h;intro hc31 h
 refine bif_pos hc31 ?_
 try simp only [ls]
 conv=>lhs;whnf
 revert h
 exact rz
theorem st_stmt_walk_stmt_show_1 (n:Nat) (ih:IH_stmt_show n):OK_stmt_walk_stmt_show_1 (n+1):=by
 intro v0_l v1_from v2_to o0 o1 o2 r h
 rw [m_stmt_walk_stmt_show_1] at h
 refine callN_eq' Try.func30 (by rfl) rfl rfl (Nat.le_of_ble_eq_true rfl) ?_
 intro call hc;conv=>lhs;whnf
 revert h
 intro h;refine bind_some2 h ?_;clear h;intro o10 ho10 h
 refine lq (σ:=(Int×(List UInt8))) (τ:=(List UInt8)) (ν:=(Bool×(List UInt8))) 0 (fun (s1,s2) a4=>stOf 63 [(0,AV.sl 9 (List.map c_api_Stmt v0_l)),(1,iA s1),(2,iA v2_to),(3,AV.func 32 [] [AV.ptr 0 0,AV.ptr 1 0,AV.ptr 2 0])]) (fun (s1,s2) a4=>[Ob.var 9 [sA s2],Ob.var 3 [iA o1],Ob.var 22 [AV.sl 9 (List.map c_api_Stmt o2)]]) (fun x21 a20=>stOf 63 []) (fun x21 a20=>[Ob.var 9 [sA x21],Ob.var 3 [iA o1],Ob.var 22 [AV.sl 9 (List.map c_api_Stmt o2)]]) (fun v=>(bA v.1,[Ob.var 9 [sA v.2],Ob.var 3 [iA o1],Ob.var 22 [AV.sl 9 (List.map c_api_Stmt o2)]])) (fun k s=>stmt_walk_stmt_show_1_L0 n (m_stmt_show_1 n) v0_l v2_to o1 o2 k s.1 s.2) (fun s=>rfl) o10 n (v1_from,o0) (fun _=>0) ho10 ?_ ?_
 intro k3 ss a4 K5 cont6 hK7 hcont8 h hr9
 obtain ⟨s1,s2⟩:=ss
 replace h:stmt_walk_stmt_show_1_L0 n (m_stmt_show_1 n) v0_l v2_to o1 o2 (k3+1) s1 s2=some o10:=h
 rw [stmt_walk_stmt_show_1_L0] at h
 conv=>lhs;whnf
 revert h
 refine br ?_ ?_
 refine ix ?_;intro x12
 refine br ?_ ?_
 intro h;cases sj h
 refine (hK7 _ _).trans ?_
 refine Eq.trans ?_ (Eq.symm (show _=some _ from hr9))
 conv=>lhs;whnf
 exact rq
 refine br ?_ ?_
 intro h;cases sj h
 refine (hK7 _ _).trans ?_
 refine Eq.trans ?_ (Eq.symm (show _=some _ from hr9))
 conv=>lhs;whnf
 exact rq
 refine br ?_ ?_
 intro h;cases sj h
 refine (hK7 _ _).trans ?_
 refine Eq.trans ?_ (Eq.symm (show _=some _ from hr9))
 conv=>lhs;whnf
 exact rq
 refine br ?_ ?_
 intro h;cases sj h
 refine (hK7 _ _).trans ?_
 refine Eq.trans ?_ (Eq.symm (show _=some _ from hr9))
 conv=>lhs;whnf
 exact rq
 refine ca hc (fun _ h=>ih.2.1 h) ?_;intro y17
 refine br ?_ ?_
 exact fun h=>cq (hcont8 (IntKind.i64.wrap ((IntKind.i64.wrap ((IntKind.i64.wrap (s1+1))+x12.f_Body))+x12.f_Else),y17.2) (fun _=>0) h)
 intro h;cases sj h
 refine (hK7 _ _).trans ?_
 refine Eq.trans ?_ (Eq.symm (show _=some _ from hr9))
 conv=>lhs;whnf
 exact rq
 intro h;cases sj h
 exact kq (hr9 (fun _=>0))
 refine lrc ?_ ?_
 intro v e;subst e;cases sj h;rfl
 intro x21 a20 e;subst e
 dsimp only at h
 conv=>lhs;whnf
 revert h
 exact rz
theorem all_stmt_show : ∀ n, IH_stmt_show n
  | 0 => ⟨by unfold OK_stmt_show; intros; rename_i h; exact absurd h (by intro h; cases h), by unfold OK_stmt_show_1; intros; rename_i h; exact absurd h (by intro h; cases h), by unfold OK_stmt_walk_stmt_show_1; intros; rename_i h; exact absurd h (by intro h; cases h)⟩
  | n + 1 => have ih := all_stmt_show n
    ⟨st_stmt_show n ih, st_stmt_show_1 n ih, st_stmt_walk_stmt_show_1 n ih⟩
theorem ok_stmt_show {n : Nat} : OK_stmt_show n := (all_stmt_show n).1
theorem ok_stmt_Show {n:Nat} ⦃v0_l:(List S_api_Stmt)⦄ ⦃v1_deep:Int⦄ ⦃r:(List UInt8)⦄:m_stmt_Show n v0_l v1_deep=some r→CN n 9 [AV.sl 9 (List.map c_api_Stmt v0_l),iA v1_deep] []=some (sA r,[]):=by
 intro h;rcases n with _|n;cases h
 rw [m_stmt_Show] at h
 refine callN_eq' Try.func9 (by rfl) rfl rfl (Nat.le_of_ble_eq_true rfl) ?_
 intro call hc;conv=>lhs;whnf
 revert h
 refine br ?_ ?_
 exact rz
 refine br ?_ ?_
 exact rz
 refine ca hc (fun _ h=>ok_stmt_Right h) ?_;intro y3
 refine br ?_ ?_
 refine cr hc (fun _ h=>ok_stmt_show h) ?_;intro y6
 exact rz
 exact rz
theorem ok_stmt_Tops_1 {n:Nat} ⦃v0_i:Int⦄ ⦃v1_:Int⦄ ⦃v2_:Int⦄ ⦃o0:(List Int)⦄ ⦃r:(Bool×(List Int))⦄:m_stmt_Tops_1 n v0_i v1_ v2_ o0=some r→CN n 31 [iA v0_i,iA v1_,iA v2_,AV.ptr 0 0] [Ob.var 43 [AV.row 1 (List.length o0)],Ob.row 3 1 (List.map encI o0)]=some (bA r.1,[Ob.var 43 [AV.row 1 (List.length r.2)],Ob.row 3 1 (List.map encI r.2)]):=by
 intro h;rcases n with _|n;cases h
 rw [m_stmt_Tops_1] at h
 refine callN_eq' Try.func31 (by rfl) rfl rfl (Nat.le_of_ble_eq_true rfl) ?_
 intro call hc;conv=>lhs;whnf
 revert h
 refine ar (ap encI (List.map encI o0) o0 ([[iA v0_i]]) ([v0_i]:List Int)) ?_
 intro h;cases sj h
 try simp only [ls]
 exact fq (y:=some (bA true,[Ob.var 43 [AV.row 1 (List.length ((o0++([v0_i]:List Int))))],Ob.row 3 1 (List.map encI (o0++([v0_i]:List Int)))]))
end Go.Proofs.Ytonhmholnneaaaa
end
section
namespace Go.Proofs.Ytonhmholnneaaaa
set_option linter.unusedVariables false
set_option linter.unusedSimpArgs false
set_option maxRecDepth 100000
set_option maxHeartbeats 4000000
theorem ok_stmt_walk_stmt_Tops_1 {n:Nat} ⦃v0_l:(List S_api_Stmt)⦄ ⦃v1_from:Int⦄ ⦃v2_to:Int⦄ ⦃o0:(List Int)⦄ ⦃r:(Bool×(List Int))⦄:m_stmt_walk_stmt_Tops_1 n v0_l v1_from v2_to o0=some r→CN n 30 [AV.sl 9 (List.map c_api_Stmt v0_l),iA v1_from,iA v2_to,AV.func 31 [] [AV.ptr 0 0]] [Ob.var 43 [AV.row 1 (List.length o0)],Ob.row 3 1 (List.map encI o0)]=some (bA r.1,[Ob.var 43 [AV.row 1 (List.length r.2)],Ob.row 3 1 (List.map encI r.2)]):=by
 intro h;rcases n with _|n;cases h
 rw [m_stmt_walk_stmt_Tops_1] at h
 refine callN_eq' Try.func30 (by rfl) rfl rfl (Nat.le_of_ble_eq_true rfl) ?_
 intro call hc;conv=>lhs;whnf
 revert h
 intro h;refine bind_some2 h ?_;clear h;intro o10 ho10 h
 refine lq (σ:=(Int×(List Int))) (τ:=(List Int)) (ν:=(Bool×(List Int))) 0 (fun (s1,s2) a4=>stOf 63 [(0,AV.sl 9 (List.map c_api_Stmt v0_l)),(1,iA s1),(2,iA v2_to),(3,AV.func 31 [] [AV.ptr 0 0])]) (fun (s1,s2) a4=>[Ob.var 43 [AV.row 1 (List.length s2)],Ob.row 3 1 (List.map encI s2)]) (fun x21 a20=>stOf 63 []) (fun x21 a20=>[Ob.var 43 [AV.row 1 (List.length x21)],Ob.row 3 1 (List.map encI x21)]) (fun v=>(bA v.1,[Ob.var 43 [AV.row 1 (List.length v.2)],Ob.row 3 1 (List.map encI v.2)])) (fun k s=>stmt_walk_stmt_Tops_1_L0 n v0_l v2_to k s.1 s.2) (fun s=>rfl) o10 n (v1_from,o0) (fun _=>0) ho10 ?_ ?_
 intro k3 ss a4 K5 cont6 hK7 hcont8 h hr9
 obtain ⟨s1,s2⟩:=ss
 replace h:stmt_walk_stmt_Tops_1_L0 n v0_l v2_to (k3+1) s1 s2=some o10:=h
 rw [stmt_walk_stmt_Tops_1_L0] at h
 conv=>lhs;whnf
 revert h
 refine br ?_ ?_
 refine ix ?_;intro x12
 refine br ?_ ?_
 intro h;cases sj h
 refine (hK7 _ _).trans ?_
 refine Eq.trans ?_ (Eq.symm (show _=some _ from hr9))
 conv=>lhs;whnf
 try simp only [ls]
 exact fq (y:=some (bA false,[Ob.var 43 [AV.row 1 (List.length s2)],Ob.row 3 1 (List.map encI s2)]))
 refine br ?_ ?_
 intro h;cases sj h
 refine (hK7 _ _).trans ?_
 refine Eq.trans ?_ (Eq.symm (show _=some _ from hr9))
 conv=>lhs;whnf
 try simp only [ls]
 exact fq (y:=some (bA false,[Ob.var 43 [AV.row 1 (List.length s2)],Ob.row 3 1 (List.map encI s2)]))
 refine br ?_ ?_
 intro h;cases sj h
 refine (hK7 _ _).trans ?_
 refine Eq.trans ?_ (Eq.symm (show _=some _ from hr9))
 conv=>lhs;whnf
 try simp only [ls]
 exact fq (y:=some (bA false,[Ob.var 43 [AV.row 1 (List.length s2)],Ob.row 3 1 (List.map encI s2)]))
 refine br ?_ ?_
 intro h;cases sj h
 refine (hK7 _ _).trans ?_
 refine Eq.trans ?_ (Eq.symm (show _=some _ from hr9))
 conv=>lhs;whnf
 try simp only [ls]
 exact fq (y:=some (bA false,[Ob.var 43 [AV.row 1 (List.length s2)],Ob.row 3 1 (List.map encI s2)]))
 refine cr hc (fun _ h=>ok_stmt_Tops_1 h) ?_;intro y17
 refine br ?_ ?_
 exact fun h=>cq (hcont8 (IntKind.i64.wrap ((IntKind.i64.wrap ((IntKind.i64.wrap (s1+1))+x12.f_Body))+x12.f_Else),y17.2) (fun _=>0) h)
 intro h;cases sj h
 refine (hK7 _ _).trans ?_
 refine Eq.trans ?_ (Eq.symm (show _=some _ from hr9))
 conv=>lhs;whnf
 try simp only [ls]
 exact fq (y:=some (bA false,[Ob.var 43 [AV.row 1 (List.length y17.2)],Ob.row 3 1 (List.map encI y17.2)]))
 intro h;cases sj h
 exact kq (hr9 (fun _=>0))
 refine lrc ?_ ?_
 intro v e;subst e;cases sj h;rfl
 intro x21 a20 e;subst e
 dsimp only at h
 conv=>lhs;whnf
 revert h
 intro h;cases sj h
 try simp only [ls]
 exact fq (y:=some (bA true,[Ob.var 43 [AV.row 1 (List.length x21)],Ob.row 3 1 (List.map encI x21)]))
theorem ok_stmt_Tops {n:Nat} ⦃v0_l:(List S_api_Stmt)⦄ ⦃r:(List Int)⦄:m_stmt_Tops n v0_l=some r→CN n 16 [AV.sl 9 (List.map c_api_Stmt v0_l)] []=some (AV.sl 1 (List.map encI r),[]):=by
 intro h;rcases n with _|n;cases h
 rw [m_stmt_Tops] at h
 refine callN_eq' Try.func16 (by rfl) rfl rfl (Nat.le_of_ble_eq_true rfl) ?_
 intro call hc;conv=>lhs;whnf
 revert h
 refine ca hc (fun _ h=>ok_stmt_Depth h) ?_;intro y1
 refine br ?_ ?_
 exact rz
 refine cr hc (fun y4 h=>(show CN n 30 [AV.sl 9 (List.map c_api_Stmt v0_l),iA (0),iA (((v0_l.length:Nat):Int)),AV.func 31 [] [AV.ptr 0 0]] [Ob.var 43 [AV.row 1 (List.length (([]:List Int)))],Ob.row 3 1 ([])]=some (bA y4.1,[Ob.var 43 [AV.row 1 (List.length y4.2)],Ob.row 3 1 (List.map encI y4.2)]) from ok_stmt_walk_stmt_Tops_1 (r:=y4) h)) ?_;intro y4
 intro h;cases sj h
 try simp only [ls]
 exact fq (y:=some (AV.sl 1 (List.take (List.length y4.2) (List.map encI y4.2)),[]))
end Go.Proofs.Ytonhmholnneaaaa
end
section
namespace Go.Proofs.Ytonhmholnneaaaa
set_option linter.unusedVariables false
set_option linter.unusedSimpArgs false
set_option maxRecDepth 100000
set_option maxHeartbeats 4000000
theorem ok_law03_known {n:Nat} ⦃r:Bool⦄:m_law03_known n=some r→CN n 8 [] []=some (bA r,[]):=by
 intro h;rcases n with _|n;cases h
 rw [m_law03_known] at h
 refine callN_eq' Try.func8 (by rfl) rfl rfl (Nat.le_of_ble_eq_true rfl) ?_
 intro call hc;conv=>lhs;whnf
 revert h
 refine ca hc (fun _ h=>ok_law03_tokens h) ?_;intro y1
 refine ca hc (fun _ h=>ok_stmt_Parse h) ?_;intro y3
 refine ca hc (fun _ h=>ok_law03_tokens h) ?_;intro y5
 refine ca hc (fun _ h=>ok_stmt_Parse h) ?_;intro y7
 refine ca hc (fun _ h=>ok_law03_tokens h) ?_;intro y9
 refine ca hc (fun _ h=>ok_stmt_Parse h) ?_;intro y11
 refine ca hc (fun _ h=>ok_law03_tokens h) ?_;intro y13
 refine ca hc (fun _ h=>ok_stmt_Parse h) ?_;intro y15
 refine br ?_ ?_
 refine br ?_ ?_
 refine br ?_ ?_
 refine ix ?_;intro x20
 refine br ?_ ?_
 refine ix ?_;intro x22
 refine br ?_ ?_
 refine ix ?_;intro x24
 refine br ?_ ?_
 refine ix ?_;intro x26
 refine br ?_ ?_
 refine br ?_ ?_
 refine br ?_ ?_
 refine br ?_ ?_
 refine br ?_ ?_
 refine br ?_ ?_
 refine br ?_ ?_
 refine ca hc (fun _ h=>ok_stmt_Right h) ?_;intro y34
 refine br ?_ ?_
 refine ca hc (fun _ h=>ok_stmt_Depth h) ?_;intro y37
 refine br ?_ ?_
 refine ca hc (fun _ h=>ok_stmt_Tops h) ?_;intro y40
 refine br ?_ ?_
 refine ca hc (fun _ h=>ok_stmt_Show h) ?_;intro y43
 exact rz
 exact rz
 exact rz
 exact rz
 exact rz
 exact rz
 exact rz
 exact rz
 exact rz
 exact rz
 exact rz
 exact rz
 exact rz
 exact rz
 exact rz
 exact rz
 exact rz
end Go.Proofs.Ytonhmholnneaaaa
end
section
namespace Go.Proofs.Ytonhmholnneaaaa
set_option linter.unusedVariables false
set_option linter.unusedSimpArgs false
set_option maxRecDepth 100000
set_option maxHeartbeats 4000000
theorem ok_ref02_Light {n:Nat} ⦃v0_l:(List S_api_Node)⦄ ⦃r:Bool⦄:m_ref02_Light n v0_l=some r→CN n 14 [AV.sl 5 (List.map c_api_Node v0_l)] []=some (bA r,[]):=by
 intro h;rcases n with _|n;cases h
 rw [m_ref02_Light] at h
 refine callN_eq' Try.func14 (by rfl) rfl rfl (Nat.le_of_ble_eq_true rfl) ?_
 intro call hc;conv=>lhs;whnf
 revert h
 refine br ?_ ?_
 exact rz
 intro h;refine bind_some2 h ?_;clear h;intro o10 ho10 h
 refine lq (σ:=Int) (τ:=Unit) (ν:=Bool) 0 (fun s2 a4=>stOf 29 [(0,AV.sl 5 (List.map c_api_Node v0_l)),(3,iA s2)]) (fun s2 a4=>[]) (fun _ a16=>stOf 29 []) (fun _ a16=>[]) (fun v=>(bA v,[])) (fun k s=>ref02_Light_L0 n v0_l k s) (fun s=>rfl) o10 n 0 (fun _=>0) ho10 ?_ ?_
 intro k3 s2 a4 K5 cont6 hK7 hcont8 h hr9
 replace h:ref02_Light_L0 n v0_l (k3+1) s2=some o10:=h
 rw [ref02_Light_L0] at h
 conv=>lhs;whnf
 revert h
 refine br ?_ ?_
 refine ix ?_;intro x12
 refine br ?_ ?_
 intro h;cases sj h
 refine (hK7 _ _).trans ?_
 refine Eq.trans ?_ (Eq.symm (show _=some _ from hr9))
 conv=>lhs;whnf
 exact rq
 refine ix ?_;intro x14
 refine br ?_ ?_
 intro h;cases sj h
 refine (hK7 _ _).trans ?_
 refine Eq.trans ?_ (Eq.symm (show _=some _ from hr9))
 conv=>lhs;whnf
 exact rq
 exact fun h=>cq (hcont8 (IntKind.i64.wrap (s2+1)) (fun _=>0) h)
 intro h;cases sj h
 exact kq (hr9 (fun _=>0))
 refine lrc ?_ ?_
 intro v e;subst e;cases sj h;rfl
 intro t a16 e;subst e
 dsimp only at h
 conv=>lhs;whnf
 revert h
 exact rz
theorem ok_ref02_Same {n:Nat} ⦃v0_a:(List S_api_Node)⦄ ⦃v1_b:(List S_api_Node)⦄ ⦃v2_places:Bool⦄ ⦃r:Bool⦄:m_ref02_Same n v0_a v1_b v2_places=some r→CN n 22 [AV.sl 5 (List.map c_api_Node v0_a),AV.sl 5 (List.map c_api_Node v1_b),bA v2_places] []=some (bA r,[]):=by
 intro h;rcases n with _|n;cases h
 rw [m_ref02_Same] at h
 refine callN_eq' Try.func22 (by rfl) rfl rfl (Nat.le_of_ble_eq_true rfl) ?_
 intro call hc;conv=>lhs;whnf
 revert h
 refine br ?_ ?_
 exact rz
 intro h;refine bind_some2 h ?_;clear h;intro o11 ho11 h
 refine lq (σ:=(Bool×Int)) (τ:=Unit) (ν:=Bool) 0 (fun (s2,s3) a5=>stOf 85 [(0,AV.sl 5 (List.map c_api_Node v0_a)),(1,AV.sl 5 (List.map c_api_Node v1_b)),(2,bA s2),(7,iA s3)]) (fun (s2,s3) a5=>[]) (fun _ a29=>stOf 85 []) (fun _ a29=>[]) (fun v=>(bA v,[])) (fun k s=>ref02_Same_L0 n v0_a v1_b k s.1 s.2) (fun s=>rfl) o11 n (v2_places,0) (fun _=>0) ho11 ?_ ?_
 intro k4 ss a5 K6 cont7 hK8 hcont9 h hr10
 obtain ⟨s2,s3⟩:=ss
 replace h:ref02_Same_L0 n v0_a v1_b (k4+1) s2 s3=some o11:=h
 rw [ref02_Same_L0] at h
 conv=>lhs;whnf
 revert h
 refine br ?_ ?_
 refine ix ?_;intro x13
 refine ix ?_;intro x14
 refine br ?_ ?_
 intro h;cases sj h
 refine (hK8 _ _).trans ?_
 refine Eq.trans ?_ (Eq.symm (show _=some _ from hr10))
 conv=>lhs;whnf
 exact rq
 refine ix ?_;intro x16
 refine ix ?_;intro x17
 refine br ?_ ?_
 intro h;cases sj h
 refine (hK8 _ _).trans ?_
 refine Eq.trans ?_ (Eq.symm (show _=some _ from hr10))
 conv=>lhs;whnf
 exact rq
 refine ix ?_;intro x19
 refine ix ?_;intro x20
 refine br ?_ ?_
 refine ix ?_;intro x22
 refine ix ?_;intro x23
 refine br ?_ ?_
 refine br ?_ ?_
 refine ix ?_;intro x26
 refine ix ?_;intro x27
 refine br ?_ ?_
 intro h;cases sj h
 refine (hK8 _ _).trans ?_
 refine Eq.trans ?_ (Eq.symm (show _=some _ from hr10))
 conv=>lhs;whnf
 exact rq
 exact fun h=>cq (hcont9 (true,IntKind.i64.wrap (s3+1)) (fun _=>0) h)
 exact fun h=>cq (hcont9 (false,IntKind.i64.wrap (s3+1)) (fun _=>0) h)
 intro h;cases sj h
 refine (hK8 _ _).trans ?_
 refine Eq.trans ?_ (Eq.symm (show _=some _ from hr10))
 conv=>lhs;whnf
 exact rq
 intro h;cases sj h
 refine (hK8 _ _).trans ?_
 refine Eq.trans ?_ (Eq.symm (show _=some _ from hr10))
 conv=>lhs;whnf
 exact rq
 intro h;cases sj h
 exact kq (hr10 (fun _=>0))
 refine lrc ?_ ?_
 intro v e;subst e;cases sj h;rfl
 intro t a29 e;subst e
 dsimp only at h
 conv=>lhs;whnf
 revert h
 exact rz
end Go.Proofs.Ytonhmholnneaaaa
end
section
namespace Go.Proofs.Ytonhmholnneaaaa
set_option linter.unusedVariables false
set_option linter.unusedSimpArgs false
set_option maxRecDepth 100000
set_option maxHeartbeats 4000000
theorem ok_ref03_Light {n:Nat} ⦃v0_l:(List S_api_Stmt)⦄ ⦃r:Bool⦄:m_ref03_Light n v0_l=some r→CN n 6 [AV.sl 9 (List.map c_api_Stmt v0_l)] []=some (bA r,[]):=by
 intro h;rcases n with _|n;cases h
 rw [m_ref03_Light] at h
 refine callN_eq' Try.func6 (by rfl) rfl rfl (Nat.le_of_ble_eq_true rfl) ?_
 intro call hc;conv=>lhs;whnf
 revert h
 refine br ?_ ?_
 exact rz
 intro h;refine bind_some2 h ?_;clear h;intro o10 ho10 h
 refine lq (σ:=Int) (τ:=Unit) (ν:=Bool) 0 (fun s2 a4=>stOf 47 [(0,AV.sl 9 (List.map c_api_Stmt v0_l)),(3,iA s2)]) (fun s2 a4=>[]) (fun _ a24=>stOf 47 []) (fun _ a24=>[]) (fun v=>(bA v,[])) (fun k s=>ref03_Light_L0 n v0_l k s) (fun s=>rfl) o10 n 0 (fun _=>0) ho10 ?_ ?_
 intro k3 s2 a4 K5 cont6 hK7 hcont8 h hr9
 replace h:ref03_Light_L0 n v0_l (k3+1) s2=some o10:=h
 rw [ref03_Light_L0] at h
 conv=>lhs;whnf
 revert h
 refine br ?_ ?_
 refine ix ?_;intro x12
 refine br ?_ ?_
 intro h;cases sj h
 refine (hK7 _ _).trans ?_
 refine Eq.trans ?_ (Eq.symm (show _=some _ from hr9))
 conv=>lhs;whnf
 exact rq
 refine ix ?_;intro x14
 refine br ?_ ?_
 intro h;cases sj h
 refine (hK7 _ _).trans ?_
 refine Eq.trans ?_ (Eq.symm (show _=some _ from hr9))
 conv=>lhs;whnf
 exact rq
 refine ix ?_;intro x16
 refine ca hc (fun _ h=>ok_ref02_Light h) ?_;intro y17
 refine br ?_ ?_
 refine ix ?_;intro x20
 refine ca hc (fun _ h=>ok_ref02_Light h) ?_;intro y21
 refine br ?_ ?_
 exact fun h=>cq (hcont8 (IntKind.i64.wrap (s2+1)) (fun _=>0) h)
 intro h;cases sj h
 refine (hK7 _ _).trans ?_
 refine Eq.trans ?_ (Eq.symm (show _=some _ from hr9))
 conv=>lhs;whnf
 exact rq
 intro h;cases sj h
 refine (hK7 _ _).trans ?_
 refine Eq.trans ?_ (Eq.symm (show _=some _ from hr9))
 conv=>lhs;whnf
 exact rq
 intro h;cases sj h
 exact kq (hr9 (fun _=>0))
 refine lrc ?_ ?_
 intro v e;subst e;cases sj h;rfl
 intro t a24 e;subst e
 dsimp only at h
 conv=>lhs;whnf
 revert h
 exact rz
theorem ok_ref03_Same {n:Nat} ⦃v0_a:(List S_api_Stmt)⦄ ⦃v1_b:(List S_api_Stmt)⦄ ⦃v2_places:Bool⦄ ⦃r:Bool⦄:m_ref03_Same n v0_a v1_b v2_places=some r→CN n 12 [AV.sl 9 (List.map c_api_Stmt v0_a),AV.sl 9 (List.map c_api_Stmt v1_b),bA v2_places] []=some (bA r,[]):=by
 intro h;rcases n with _|n;cases h
 rw [m_ref03_Same] at h
 refine callN_eq' Try.func12 (by rfl) rfl rfl (Nat.le_of_ble_eq_true rfl) ?_
 intro call hc;conv=>lhs;whnf
 revert h
 refine br ?_ ?_
 exact rz
 intro h;refine bind_some2 h ?_;clear h;intro o11 ho11 h
 refine lq (σ:=(Bool×Int)) (τ:=Unit) (ν:=Bool) 0 (fun (s2,s3) a5=>stOf 97 [(0,AV.sl 9 (List.map c_api_Stmt v0_a)),(1,AV.sl 9 (List.map c_api_Stmt v1_b)),(2,bA s2),(7,iA s3)]) (fun (s2,s3) a5=>[]) (fun _ a35=>stOf 97 []) (fun _ a35=>[]) (fun v=>(bA v,[])) (fun k s=>ref03_Same_L0 n v0_a v1_b k s.1 s.2) (fun s=>rfl) o11 n (v2_places,0) (fun _=>0) ho11 ?_ ?_
 intro k4 ss a5 K6 cont7 hK8 hcont9 h hr10
 obtain ⟨s2,s3⟩:=ss
 replace h:ref03_Same_L0 n v0_a v1_b (k4+1) s2 s3=some o11:=h
 rw [ref03_Same_L0] at h
 conv=>lhs;whnf
 revert h
 refine br ?_ ?_
 refine ix ?_;intro x13
 refine ix ?_;intro x14
 refine br ?_ ?_
 intro h;cases sj h
 refine (hK8 _ _).trans ?_
 refine Eq.trans ?_ (Eq.symm (show _=some _ from hr10))
 conv=>lhs;whnf
 exact rq
 refine br ?_ ?_
 refine br ?_ ?_
 refine br ?_ ?_
 refine br ?_ ?_
 intro h;cases sj h
 refine (hK8 _ _).trans ?_
 refine Eq.trans ?_ (Eq.symm (show _=some _ from hr10))
 conv=>lhs;whnf
 exact rq
 refine br ?_ ?_
 intro h;cases sj h
 refine (hK8 _ _).trans ?_
 refine Eq.trans ?_ (Eq.symm (show _=some _ from hr10))
 conv=>lhs;whnf
 exact rq
 refine br ?_ ?_
 refine br ?_ ?_
 intro h;cases sj h
 refine (hK8 _ _).trans ?_
 refine Eq.trans ?_ (Eq.symm (show _=some _ from hr10))
 conv=>lhs;whnf
 exact rq
 refine ca hc (fun _ h=>ok_ref02_Same h) ?_;intro y23
 refine br ?_ ?_
 refine ca hc (fun _ h=>ok_ref02_Same h) ?_;intro y26
 refine br ?_ ?_
 exact fun h=>cq (hcont9 (true,IntKind.i64.wrap (s3+1)) (fun _=>0) h)
 intro h;cases sj h
 refine (hK8 _ _).trans ?_
 refine Eq.trans ?_ (Eq.symm (show _=some _ from hr10))
 conv=>lhs;whnf
 exact rq
 intro h;cases sj h
 refine (hK8 _ _).trans ?_
 refine Eq.trans ?_ (Eq.symm (show _=some _ from hr10))
 conv=>lhs;whnf
 exact rq
 refine ca hc (fun _ h=>ok_ref02_Same h) ?_;intro y29
 refine br ?_ ?_
 refine ca hc (fun _ h=>ok_ref02_Same h) ?_;intro y32
 refine br ?_ ?_
 exact fun h=>cq (hcont9 (false,IntKind.i64.wrap (s3+1)) (fun _=>0) h)
 intro h;cases sj h
 refine (hK8 _ _).trans ?_
 refine Eq.trans ?_ (Eq.symm (show _=some _ from hr10))
 conv=>lhs;whnf
 exact rq
 intro h;cases sj h
 refine (hK8 _ _).trans ?_
 refine Eq.trans ?_ (Eq.symm (show _=some _ from hr10))
 conv=>lhs;whnf
 exact rq
 intro h;cases sj h
 refine (hK8 _ _).trans ?_
 refine Eq.trans ?_ (Eq.symm (show _=some _ from hr10))
 conv=>lhs;whnf
 exact rq
 intro h;cases sj h
 refine (hK8 _ _).trans ?_
 refine Eq.trans ?_ (Eq.symm (show _=some _ from hr10))
 conv=>lhs;whnf
 exact rq
 intro h;cases sj h
 refine (hK8 _ _).trans ?_
 refine Eq.trans ?_ (Eq.symm (show _=some _ from hr10))
 conv=>lhs;whnf
 exact rq
 intro h;cases sj h
 exact kq (hr10 (fun _=>0))
 refine lrc ?_ ?_
 intro v e;subst e;cases sj h;rfl
 intro t a35 e;subst e
 dsimp only at h
 conv=>lhs;whnf
 revert h
 exact rz
end Go.Proofs.Ytonhmholnneaaaa
end
section
namespace Go.Proofs.Ytonhmholnneaaaa
set_option linter.unusedVariables false
set_option linter.unusedSimpArgs false
set_option maxRecDepth 100000
set_option maxHeartbeats 4000000
theorem ok_law03_StmtJoins {n:Nat} ⦃v0_a:(List S_api_Stmt)⦄ ⦃v1_b:(List S_api_Stmt)⦄ ⦃r:Bool⦄:m_law03_StmtJoins n v0_a v1_b=some r→CN n 5 [AV.sl 9 (List.map c_api_Stmt v0_a),AV.sl 9 (List.map c_api_Stmt v1_b)] []=some (bA r,[]):=by
 intro h;rcases n with _|n;cases h
 rw [m_law03_StmtJoins] at h
 refine callN_eq' Try.func5 (by rfl) rfl rfl (Nat.le_of_ble_eq_true rfl) ?_
 intro call hc;conv=>lhs;whnf
 revert h
 refine ca hc (fun _ h=>ok_ref03_Light h) ?_;intro y1
 refine br ?_ ?_
 refine ca hc (fun _ h=>ok_ref03_Light h) ?_;intro y4
 refine br ?_ ?_
 refine ca hc (fun _ h=>ok_stmt_Right h) ?_;intro y7
 refine br ?_ ?_
 refine ca hc (fun _ h=>ok_stmt_Right h) ?_;intro y10
 refine br ?_ ?_
 refine ca hc (fun _ h=>ok_stmt_Show h) ?_;intro y13
 refine ca hc (fun _ h=>ok_stmt_Show h) ?_;intro y15
 intro h
 refine chk_some2 h ?_;clear h;intro hc17 h
 refine bif_pos hc17 ?_
 try simp only [ls]
 conv=>lhs;whnf
 revert h
 refine ca hc (fun _ h=>ok_law03_tokens h) ?_;intro y18
 refine ca hc (fun _ h=>ok_stmt_Parse h) ?_;intro y20
 refine cn ?_
 refine ar (ap c_api_Stmt (List.map c_api_Stmt v0_a) v0_a (List.map c_api_Stmt v1_b) v1_b) ?_
 refine br ?_ ?_
 refine cr hc (fun _ h=>ok_stmt_Right h) ?_;intro y26
 refine br ?_ ?_
 refine cr hc (fun _ h=>ok_stmt_Depth h) ?_;intro y29
 refine ca hc (fun _ h=>ok_stmt_Depth h) ?_;intro y31
 refine ca hc (fun _ h=>ok_stmt_Depth h) ?_;intro y33
 refine br ?_ ?_
 refine ca hc (fun _ h=>ok_law03_known h) ?_;intro y36
 exact rz
 exact rz
 exact rz
 refine br ?_ ?_
 refine cr hc (fun _ h=>ok_ref03_Same h) ?_;intro y39
 refine br ?_ ?_
 refine cr hc (fun _ h=>ok_stmt_Right h) ?_;intro y42
 refine br ?_ ?_
 refine cr hc (fun _ h=>ok_stmt_Depth h) ?_;intro y45
 refine ca hc (fun _ h=>ok_stmt_Depth h) ?_;intro y47
 refine ca hc (fun _ h=>ok_stmt_Depth h) ?_;intro y49
 refine br ?_ ?_
 refine ca hc (fun _ h=>ok_law03_known h) ?_;intro y52
 exact rz
 exact rz
 exact rz
 exact rz
 exact rz
 refine ca hc (fun _ h=>ok_law03_known h) ?_;intro y54
 exact rz
 refine ca hc (fun _ h=>ok_law03_known h) ?_;intro y56
 exact rz
 refine ca hc (fun _ h=>ok_law03_known h) ?_;intro y58
 exact rz
 refine ca hc (fun _ h=>ok_law03_known h) ?_;intro y60
 exact rz
end Go.Proofs.Ytonhmholnneaaaa
end
