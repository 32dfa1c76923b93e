/- Parts of the proofs: what they lean on. Conditions: none. -/
import Derived.Test.YtpnhafdimkmbbaaLegalMoreP2
section
namespace Go.Proofs.Ytpnhafdimkmbbaa
set_option linter.unusedVariables false
set_option linter.unusedSimpArgs false
set_option maxRecDepth 100000
set_option maxHeartbeats 4000000
theorem ok_ref04_state_fault {n:Nat} ⦃v1_e:Int⦄ ⦃v2_at:Int⦄ ⦃s_l:(List S_api_Token)⦄ ⦃s_i:Int⦄ ⦃s_e:Int⦄ ⦃s_at:Int⦄ ⦃r:(Int×Int)⦄:m_ref04_state_fault n v1_e v2_at s_l s_i s_e s_at=some r→CN n 56 [AV.ptr 0 0,iA v1_e,iA v2_at] [Ob.var 76 [AV.sl 4 (List.map c_api_Token s_l),iA s_i,iA s_e,iA s_at]]=some (AV.tup [],[Ob.var 76 [AV.sl 4 (List.map c_api_Token s_l),iA s_i,iA r.1,iA r.2]]):=by
 intro h;rcases n with _|n;cases h
 rw [m_ref04_state_fault] at h
 refine callN_eq' Try.func56 (by rfl) rfl rfl (Nat.le_of_ble_eq_true rfl) ?_
 intro call hc;conv=>lhs;whnf
 revert h
 refine br ?_ ?_
 refine br ?_ ?_
 exact rz
 exact rz
 exact rz
theorem ok_ref04_state_wrong {n:Nat} ⦃s_l:(List S_api_Token)⦄ ⦃s_i:Int⦄ ⦃s_e:Int⦄ ⦃s_at:Int⦄ ⦃r:(Int×Int)⦄:m_ref04_state_wrong n s_l s_i s_e s_at=some r→CN n 34 [AV.ptr 0 0] [Ob.var 76 [AV.sl 4 (List.map c_api_Token s_l),iA s_i,iA s_e,iA s_at]]=some (AV.tup [],[Ob.var 76 [AV.sl 4 (List.map c_api_Token s_l),iA s_i,iA r.1,iA r.2]]):=by
 intro h;rcases n with _|n;cases h
 rw [m_ref04_state_wrong] at h
 refine callN_eq' Try.func34 (by rfl) rfl rfl (Nat.le_of_ble_eq_true rfl) ?_
 intro call hc;conv=>lhs;whnf
 revert h
 refine br ?_ ?_
 refine ca hc (fun _ h=>ok_ref03_Wrong h) ?_;intro y2
 exact rz
 exact rz
theorem ok_ref04_state_sign {n:Nat} ⦃v1_w:(List UInt8)⦄ ⦃s_l:(List S_api_Token)⦄ ⦃s_i:Int⦄ ⦃s_e:Int⦄ ⦃s_at:Int⦄ ⦃r:(Int×Int×Int)⦄:m_ref04_state_sign n v1_w s_l s_i s_e s_at=some r→CN n 36 [AV.ptr 0 0,sA v1_w] [Ob.var 76 [AV.sl 4 (List.map c_api_Token s_l),iA s_i,iA s_e,iA s_at]]=some (AV.tup [],[Ob.var 76 [AV.sl 4 (List.map c_api_Token s_l),iA r.1,iA r.2.1,iA r.2.2]]):=by
 intro h;rcases n with _|n;cases h
 rw [m_ref04_state_sign] at h
 refine callN_eq' Try.func36 (by rfl) rfl rfl (Nat.le_of_ble_eq_true rfl) ?_
 intro call hc;conv=>lhs;whnf
 revert h
 refine br ?_ ?_
 refine ca hc (fun _ h=>ok_ref02_Is h) ?_;intro y2
 refine br ?_ ?_
 exact rz
 refine ca hc (fun _ h=>ok_ref04_state_wrong h) ?_;intro y5
 exact rz
 refine ca hc (fun _ h=>ok_ref04_state_wrong h) ?_;intro y7
 exact rz
theorem ok_ref04_state_claim {n:Nat} ⦃v1_kind:Int⦄ ⦃s_l:(List S_api_Token)⦄ ⦃s_i:Int⦄ ⦃s_e:Int⦄ ⦃s_at:Int⦄ ⦃r:(S_api_Claim×Int×Int×Int)⦄:m_ref04_state_claim n v1_kind s_l s_i s_e s_at=some r→CN n 40 [AV.ptr 0 0,iA v1_kind] [Ob.var 76 [AV.sl 4 (List.map c_api_Token s_l),iA s_i,iA s_e,iA s_at]]=some (AV.agg [iA r.1.f_Kind,AV.sl 5 (List.map c_api_Node r.1.f_E),iA r.1.f_At],[Ob.var 76 [AV.sl 4 (List.map c_api_Token s_l),iA r.2.1,iA r.2.2.1,iA r.2.2.2]]):=by
 intro h;rcases n with _|n;cases h
 rw [m_ref04_state_claim] at h
 refine callN_eq' Try.func40 (by rfl) rfl rfl (Nat.le_of_ble_eq_true rfl) ?_
 intro call hc;conv=>lhs;whnf
 revert h
 refine ix ?_;intro x1
 refine tw hc (fun _ h=>ok_ref02_Parse h) (fun _ h=>adoCall_thaw (p:=[1,1,2,2,1]) (q:=[1,2,1,1]) h Try.func58 (by kernel_rfl) (by kernel_rfl) (by kernel_rfl) (by kernel_rfl) (by rfl) (kinds_map (by exact fun _=>rfl) _) (kinds_map (by exact fun _=>rfl) _)) ?_;intro y2
 refine nb ?_ ?_
 refine ca hc (fun _ h=>ok_ref04_state_fault h) ?_;intro y4
 intro h;refine bind_some2 h ?_;clear h;intro o13 ho13 h
 refine lq (σ:=Unit) (τ:=Unit) (ν:=(S_api_Claim×Int×Int×Int)) 0 (fun _ a7=>stOf 79 [(0,AV.ptr 0 0),(4,AV.ptr 1 0),(5,AV.ptr 2 0),(6,AV.sl 5 []),(7,iA y2.2.1),(10,iA (0))]) (fun _ a7=>[Ob.var 76 [AV.sl 4 (List.map c_api_Token s_l),iA (IntKind.i64.wrap (s_i+1)),iA y4.1,iA y4.2],Ob.var 46 [iA (0),AV.nils,iA (0)],Ob.var 46 [iA v1_kind,AV.nils,iA x1.f_At]]) (fun _ a14=>stOf 79 [(0,AV.ptr 0 0),(4,AV.ptr 1 0),(5,AV.ptr 2 0),(6,AV.sl 5 []),(7,iA y2.2.1)]) (fun _ a14=>[Ob.var 76 [AV.sl 4 (List.map c_api_Token s_l),iA (IntKind.i64.wrap (s_i+1)),iA y4.1,iA y4.2],Ob.var 46 [iA (0),AV.nils,iA (0)],Ob.var 46 [iA v1_kind,AV.nils,iA x1.f_At]]) (fun v=>(AV.agg [iA v.1.f_Kind,AV.sl 5 (List.map c_api_Node v.1.f_E),iA v.1.f_At],[Ob.var 76 [AV.sl 4 (List.map c_api_Token s_l),iA v.2.1,iA v.2.2.1,iA v.2.2.2]])) (fun k s=>ref04_state_claim_L0 n k) (fun s=>rfl) o13 n () (fun _=>0) ho13 ?_ ?_
 intro k6 ss a7 K8 cont9 hK10 hcont11 h hr12
 replace h:ref04_state_claim_L0 n (k6+1)=some o13:=h
 rw [ref04_state_claim_L0] at h
 conv=>lhs;whnf
 revert h
 intro h;cases sj h
 exact kq (hr12 (fun _=>0))
 refine lrc ?_ ?_
 intro v e;subst e;cases sj h;rfl
 intro t a14 e;subst e
 dsimp only at h
 conv=>lhs;whnf
 revert h
 refine br ?_ ?_
 refine ca hc (fun _ h=>ok_ref04_state_sign h) ?_;intro y16
 exact rz
 refine ca hc (fun _ h=>ok_ref04_state_sign h) ?_;intro y18
 exact rz
 refine ca hc (fun _ h=>ok_ref04_state_fault h) ?_;intro y21
 intro h;refine bind_some2 h ?_;clear h;intro o32 ho32 h
 refine lq (σ:=(Int×(List S_api_Node))) (τ:=(List S_api_Node)) (ν:=(S_api_Claim×Int×Int×Int)) 0 (fun (s23,s24) a26=>stOf 79 [(0,AV.ptr 0 0),(4,AV.ptr 1 0),(5,AV.ptr 2 0),(6,AV.own 3 0 (List.length s24)),(7,iA y2.2.1),(10,iA s23)]) (fun (s23,s24) a26=>[Ob.var 76 [AV.sl 4 (List.map c_api_Token s_l),iA (IntKind.i64.wrap (s_i+1)),iA y21.1,iA y21.2],Ob.var 46 [iA (0),AV.nils,iA (0)],Ob.var 46 [iA v1_kind,AV.nils,iA x1.f_At],Ob.arr 5 (List.map c_api_Node s24)]) (fun x39 a38=>stOf 79 [(0,AV.ptr 0 0),(4,AV.ptr 1 0),(5,AV.ptr 2 0),(6,AV.own 3 0 (List.length x39)),(7,iA y2.2.1)]) (fun x39 a38=>[Ob.var 76 [AV.sl 4 (List.map c_api_Token s_l),iA (IntKind.i64.wrap (s_i+1)),iA y21.1,iA y21.2],Ob.var 46 [iA (0),AV.nils,iA (0)],Ob.var 46 [iA v1_kind,AV.nils,iA x1.f_At],Ob.arr 5 (List.map c_api_Node x39)]) (fun v=>(AV.agg [iA v.1.f_Kind,AV.sl 5 (List.map c_api_Node v.1.f_E),iA v.1.f_At],[Ob.var 76 [AV.sl 4 (List.map c_api_Token s_l),iA v.2.1,iA v.2.2.1,iA v.2.2.2]])) (fun k s=>ref04_state_claim_L1 n k s.1 s.2) (fun s=>rfl) o32 n (0,y2.1) (fun _=>0) ho32 ?_ ?_
 intro k25 ss a26 K27 cont28 hK29 hcont30 h hr31
 obtain ⟨s23,s24⟩:=ss
 replace h:ref04_state_claim_L1 n (k25+1) s23 s24=some o32:=h
 rw [ref04_state_claim_L1] at h
 conv=>lhs;whnf
 revert h
 refine br ?_ ?_
 intro h
 refine bind_some2 h ?_;clear h;intro x34 hx34 h
 try simp only [ls]
 refine bif_pos (by first|exact idx_in hx34|exact idx_in' hx34|exact own_in hx34|exact own_in' hx34|(have q:=idx_in hx34;simp only [List.length_set] at q;exact q)|(have q:=own_in' hx34;simp only [List.length_set,Nat.zero_add] at q ⊢;exact q)) ?_
 conv=>lhs;whnf
 try simp only [Nat.zero_add,idx_nth (f:=c_api_Node) hx34,dec_self,ls]
 conv=>lhs;whnf
 revert h
 refine br ?_ ?_
 intro h
 refine bind_some2 h ?_;clear h;intro x36 hx36 h
 try simp only [ls]
 refine bif_pos (by first|exact idx_in hx36|exact idx_in' hx36|exact own_in hx36|exact own_in' hx36|(have q:=idx_in hx36;simp only [List.length_set] at q;exact q)|(have q:=own_in' hx36;simp only [List.length_set,Nat.zero_add] at q ⊢;exact q)) ?_
 conv=>lhs;whnf
 try simp only [Nat.zero_add,idx_nth (f:=c_api_Node) hx36,dec_self,ls]
 conv=>lhs;whnf
 revert h
 intro h
 have hs37:setNth (List.map c_api_Node s24) s23.toNat [iA (3),iA x36.f_N,sA x36.f_Name,sA x36.f_In,iA x36.f_At]=List.map c_api_Node (List.set s24 s23.toNat (⟨3,x36.f_N,x36.f_Name,x36.f_In,x36.f_At⟩:S_api_Node)):=by rw [setNth_eq,List.map_set];rfl
 have hs37_u:setNth (List.map c_api_Node s24) s23.toNat (updL (c_api_Node x36) 0 [iA (3)])=List.map c_api_Node (List.set s24 s23.toNat (⟨3,x36.f_N,x36.f_Name,x36.f_In,x36.f_At⟩:S_api_Node)):=by rw [setNth_eq,List.map_set];rfl
 try simp only [Nat.zero_add,idx_nth (f:=c_api_Node) hx36]
 conv=>lhs;whnf
 try simp only [hs37,hs37_u]
 conv=>lhs;whnf
 revert h
 exact fun h=>cq (hcont30 (IntKind.i64.wrap (s23+1),(List.set s24 s23.toNat (⟨3,x36.f_N,x36.f_Name,x36.f_In,x36.f_At⟩:S_api_Node))) (fun _=>0) h)
 exact fun h=>cq (hcont30 (IntKind.i64.wrap (s23+1),s24) (fun _=>0) h)
 intro h;cases sj h
 exact kq (hr31 (fun _=>0))
 refine lrc ?_ ?_
 intro v e;subst e;cases sj h;rfl
 intro x39 a38 e;subst e
 dsimp only at h
 conv=>lhs;whnf
 revert h
 refine br ?_ ?_
 refine ca hc (fun _ h=>ok_ref04_state_sign h) ?_;intro y41
 intro h;cases sj h
 try simp only [ls]
 exact fq (y:=some (AV.agg [iA v1_kind,AV.sl 5 (List.take (List.length x39) (List.drop 0 (List.map c_api_Node x39))),iA x1.f_At],[Ob.var 76 [AV.sl 4 (List.map c_api_Token s_l),iA y41.1,iA y41.2.1,iA y41.2.2]]))
 refine ca hc (fun _ h=>ok_ref04_state_sign h) ?_;intro y43
 intro h;cases sj h
 try simp only [ls]
 exact fq (y:=some (AV.agg [iA v1_kind,AV.sl 5 (List.take (List.length x39) (List.drop 0 (List.map c_api_Node x39))),iA x1.f_At],[Ob.var 76 [AV.sl 4 (List.map c_api_Token s_l),iA y43.1,iA y43.2.1,iA y43.2.2]]))
theorem ok_ref04_state_key {n:Nat} ⦃v1_w:(List UInt8)⦄ ⦃s_l:(List S_api_Token)⦄ ⦃s_i:Int⦄ ⦃s_e:Int⦄ ⦃s_at:Int⦄ ⦃r:Bool⦄:m_ref04_state_key n v1_w s_l s_i s_e s_at=some r→CN n 33 [AV.ptr 0 0,sA v1_w] [Ob.var 76 [AV.sl 4 (List.map c_api_Token s_l),iA s_i,iA s_e,iA s_at]]=some (bA r,[Ob.var 76 [AV.sl 4 (List.map c_api_Token s_l),iA s_i,iA s_e,iA s_at]]):=by
 intro h;rcases n with _|n;cases h
 rw [m_ref04_state_key] at h
 refine callN_eq' Try.func33 (by rfl) rfl rfl (Nat.le_of_ble_eq_true rfl) ?_
 intro call hc;conv=>lhs;whnf
 revert h
 refine br ?_ ?_
 refine br ?_ ?_
 refine ix ?_;intro x3
 refine br ?_ ?_
 refine ix ?_;intro x5
 exact rz
 exact rz
 exact rz
 exact rz
theorem ok_ref04_word {n:Nat} ⦃v0_kind:Int⦄ ⦃r:(List UInt8)⦄:m_ref04_word n v0_kind=some r→CN n 57 [iA v0_kind] []=some (sA r,[]):=by
 intro h;rcases n with _|n;cases h
 rw [m_ref04_word] at h
 refine callN_eq' Try.func57 (by rfl) rfl rfl (Nat.le_of_ble_eq_true rfl) ?_
 intro call hc;conv=>lhs;whnf
 revert h
 intro h
 refine bind_some2 h ?_;clear h;intro x1 hx1 h
 refine bif_pos (by first|exact idx_in hx1|(have q:=idx_in hx1;exact q)) ?_
 simp only [(show nth? ([[sA (([]:List UInt8))],[sA (([102,111,114,97,108,108]:List UInt8))],[sA (([101,120,105,115,116,115]:List UInt8))],[sA (([97,108,119,97,121,115]:List UInt8))]]:List (List AV)) v0_kind.toNat=some (encS x1) from idx_nth (f:=encS) hx1),ls]
 conv=>lhs;whnf
 revert h
 exact rz
theorem ok_ref04_state_kind {n:Nat} ⦃s_l:(List S_api_Token)⦄ ⦃s_i:Int⦄ ⦃s_e:Int⦄ ⦃s_at:Int⦄ ⦃r:Int⦄:m_ref04_state_kind n s_l s_i s_e s_at=some r→CN n 39 [AV.ptr 0 0] [Ob.var 76 [AV.sl 4 (List.map c_api_Token s_l),iA s_i,iA s_e,iA s_at]]=some (iA r,[Ob.var 76 [AV.sl 4 (List.map c_api_Token s_l),iA s_i,iA s_e,iA s_at]]):=by
 intro h;rcases n with _|n;cases h
 rw [m_ref04_state_kind] at h
 refine callN_eq' Try.func39 (by rfl) rfl rfl (Nat.le_of_ble_eq_true rfl) ?_
 intro call hc;conv=>lhs;whnf
 revert h
 intro h;refine bind_some2 h ?_;clear h;intro o9 ho9 h
 refine lq (σ:=Int) (τ:=Unit) (ν:=Int) 0 (fun s1 a3=>stOf 13 [(0,AV.ptr 0 0),(3,iA s1)]) (fun s1 a3=>[Ob.var 76 [AV.sl 4 (List.map c_api_Token s_l),iA s_i,iA s_e,iA s_at]]) (fun _ a16=>stOf 13 []) (fun _ a16=>[Ob.var 76 [AV.sl 4 (List.map c_api_Token s_l),iA s_i,iA s_e,iA s_at]]) (fun v=>(iA v,[Ob.var 76 [AV.sl 4 (List.map c_api_Token s_l),iA s_i,iA s_e,iA s_at]])) (fun k s=>ref04_state_kind_L0 n s_l s_i s_e s_at k s) (fun s=>rfl) o9 n 1 (fun _=>0) ho9 ?_ ?_
 intro k2 s1 a3 K4 cont5 hK6 hcont7 h hr8
 replace h:ref04_state_kind_L0 n s_l s_i s_e s_at (k2+1) s1=some o9:=h
 rw [ref04_state_kind_L0] at h
 conv=>lhs;whnf
 revert h
 refine br ?_ ?_
 refine ca hc (fun _ h=>ok_ref04_word h) ?_;intro y11
 refine ca hc (fun _ h=>ok_ref04_state_key h) ?_;intro y13
 refine br ?_ ?_
 intro h;cases sj h
 refine (hK6 _ _).trans ?_
 refine Eq.trans ?_ (Eq.symm (show _=some _ from hr8))
 conv=>lhs;whnf
 exact rq
 exact fun h=>cq (hcont7 (IntKind.i64.wrap (s1+1)) (fun _=>0) h)
 intro h;cases sj h
 exact kq (hr8 (fun _=>0))
 refine lrc ?_ ?_
 intro v e;subst e;cases sj h;rfl
 intro t a16 e;subst e
 dsimp only at h
 conv=>lhs;whnf
 revert h
 exact rz
theorem ok_ref04_state_name {n:Nat} ⦃s_l:(List S_api_Token)⦄ ⦃s_i:Int⦄ ⦃s_e:Int⦄ ⦃s_at:Int⦄ ⦃r:((List UInt8)×Int×Int×Int)⦄:m_ref04_state_name n s_l s_i s_e s_at=some r→CN n 37 [AV.ptr 0 0] [Ob.var 76 [AV.sl 4 (List.map c_api_Token s_l),iA s_i,iA s_e,iA s_at]]=some (sA r.1,[Ob.var 76 [AV.sl 4 (List.map c_api_Token s_l),iA r.2.1,iA r.2.2.1,iA r.2.2.2]]):=by
 intro h;rcases n with _|n;cases h
 rw [m_ref04_state_name] at h
 refine callN_eq' Try.func37 (by rfl) rfl rfl (Nat.le_of_ble_eq_true rfl) ?_
 intro call hc;conv=>lhs;whnf
 revert h
 refine br ?_ ?_
 refine ca hc (fun _ h=>ok_ref03_Name h) ?_;intro y2
 refine br ?_ ?_
 refine ix ?_;intro x5
 exact rz
 refine ca hc (fun _ h=>ok_ref04_state_wrong h) ?_;intro y6
 exact rz
 refine ca hc (fun _ h=>ok_ref04_state_wrong h) ?_;intro y8
 exact rz
theorem ok_ref04_state_number {n:Nat} ⦃s_l:(List S_api_Token)⦄ ⦃s_i:Int⦄ ⦃s_e:Int⦄ ⦃s_at:Int⦄ ⦃r:(Int×Int×Int×Int)⦄:m_ref04_state_number n s_l s_i s_e s_at=some r→CN n 35 [AV.ptr 0 0] [Ob.var 76 [AV.sl 4 (List.map c_api_Token s_l),iA s_i,iA s_e,iA s_at]]=some (iA r.1,[Ob.var 76 [AV.sl 4 (List.map c_api_Token s_l),iA r.2.1,iA r.2.2.1,iA r.2.2.2]]):=by
 intro h;rcases n with _|n;cases h
 rw [m_ref04_state_number] at h
 refine callN_eq' Try.func35 (by rfl) rfl rfl (Nat.le_of_ble_eq_true rfl) ?_
 intro call hc;conv=>lhs;whnf
 revert h
 refine br ?_ ?_
 refine br ?_ ?_
 refine ix ?_;intro x3
 refine br ?_ ?_
 refine ix ?_;intro x5
 exact rz
 refine ca hc (fun _ h=>ok_ref04_state_wrong h) ?_;intro y6
 exact rz
 refine ca hc (fun _ h=>ok_ref04_state_wrong h) ?_;intro y8
 exact rz
 refine ca hc (fun _ h=>ok_ref04_state_wrong h) ?_;intro y10
 exact rz
theorem ok_ref04_state_thread {n:Nat} ⦃s_l:(List S_api_Token)⦄ ⦃s_i:Int⦄ ⦃s_e:Int⦄ ⦃s_at:Int⦄ ⦃r:(S_api_Thread×Int×Int×Int)⦄:m_ref04_state_thread n s_l s_i s_e s_at=some r→CN n 38 [AV.ptr 0 0] [Ob.var 76 [AV.sl 4 (List.map c_api_Token s_l),iA s_i,iA s_e,iA s_at]]=some (AV.agg [sA r.1.f_Name,AV.sl 1 (List.map encS r.1.f_Regs),AV.sl 9 (List.map c_api_Stmt r.1.f_Body),iA r.1.f_At],[Ob.var 76 [AV.sl 4 (List.map c_api_Token s_l),iA r.2.1,iA r.2.2.1,iA r.2.2.2]]):=by
 intro h;rcases n with _|n;cases h
 rw [m_ref04_state_thread] at h
 refine callN_eq' Try.func38 (by rfl) rfl rfl (Nat.le_of_ble_eq_true rfl) ?_
 intro call hc;conv=>lhs;whnf
 revert h
 refine ix ?_;intro x1
 refine ca hc (fun _ h=>ok_ref04_state_name h) ?_;intro y2
 refine ca hc (fun _ h=>ok_ref04_state_sign h) ?_;intro y4
 refine ca hc (fun _ h=>ok_ref04_state_key h) ?_;intro y6
 refine br ?_ ?_
 refine ca hc (fun _ h=>ok_ref04_state_name h) ?_;intro y9
 intro h;refine bind_some2 h ?_;clear h;intro o22 ho22 h
 refine lq (σ:=(Int×Int×Int×(List (List UInt8)))) (τ:=(Int×Int×Int×(List (List UInt8)))) (ν:=(S_api_Thread×Int×Int×Int)) 0 (fun (s11,s12,s13,s14) a16=>stOf 112 [(0,AV.ptr 0 0),(2,AV.ptr 1 0),(3,AV.ptr 2 0)]) (fun (s11,s12,s13,s14) a16=>[Ob.var 76 [AV.sl 4 (List.map c_api_Token s_l),iA s11,iA s12,iA s13],Ob.var 40 [sA (([]:List UInt8)),AV.nils,AV.nils,iA (0)],Ob.var 40 [sA y2.1,AV.row 3 (List.length s14),AV.nils,iA x1.f_At],Ob.row 9 1 (List.map encS s14)]) (fun (x32,x33,x34,x35) a31=>stOf 112 [(0,AV.ptr 0 0),(2,AV.ptr 1 0),(3,AV.ptr 2 0)]) (fun (x32,x33,x34,x35) a31=>[Ob.var 76 [AV.sl 4 (List.map c_api_Token s_l),iA x32,iA x33,iA x34],Ob.var 40 [sA (([]:List UInt8)),AV.nils,AV.nils,iA (0)],Ob.var 40 [sA y2.1,AV.row 3 (List.length x35),AV.nils,iA x1.f_At],Ob.row 9 1 (List.map encS x35)]) (fun v=>(AV.agg [sA v.1.f_Name,AV.sl 1 (List.map encS v.1.f_Regs),AV.sl 9 (List.map c_api_Stmt v.1.f_Body),iA v.1.f_At],[Ob.var 76 [AV.sl 4 (List.map c_api_Token s_l),iA v.2.1,iA v.2.2.1,iA v.2.2.2]])) (fun k s=>ref04_state_thread_L0 n s_l k s.1 s.2.1 s.2.2.1 s.2.2.2) (fun s=>rfl) o22 n (y9.2.1,y9.2.2.1,y9.2.2.2,([y9.1]:List (List UInt8))) (fun _=>0) ho22 ?_ ?_
 intro k15 ss a16 K17 cont18 hK19 hcont20 h hr21
 obtain ⟨s11,s12,s13,s14⟩:=ss
 replace h:ref04_state_thread_L0 n s_l (k15+1) s11 s12 s13 s14=some o22:=h
 rw [ref04_state_thread_L0] at h
 conv=>lhs;whnf
 revert h
 refine br ?_ ?_
 refine ca hc (fun _ h=>ok_ref02_Is h) ?_;intro y24
 refine br ?_ ?_
 refine ca hc (fun _ h=>ok_ref04_state_name h) ?_;intro y27
 refine ar (ap encS (List.map encS s14) s14 ([[sA y27.1]]) ([y27.1]:List (List UInt8))) ?_
 exact fun h=>cq (hcont20 (y27.2.1,y27.2.2.1,y27.2.2.2,(s14++([y27.1]:List (List UInt8)))) (fun _=>0) h)
 intro h;cases sj h
 exact kq (hr21 (fun _=>0))
 intro h;cases sj h
 exact kq (hr21 (fun _=>0))
 refine lrc ?_ ?_
 intro v e;subst e;cases sj h;rfl
 intro t a31 e;subst e
 obtain ⟨x32,x33,x34,x35⟩:=t
 dsimp only at h
 conv=>lhs;whnf
 revert h
 refine ca hc (fun _ h=>ok_ref04_state_sign h) ?_;intro y36
 refine br ?_ ?_
 refine ca hc (fun _ h=>ok_ref03_Parse h) ?_;intro y39
 refine ca hc (fun _ h=>ok_ref04_state_fault h) ?_;intro y41
 refine ca hc (fun _ h=>ok_ref04_state_sign h) ?_;intro y43
 intro h;cases sj h
 try simp only [ls]
 exact fq (y:=some (AV.agg [sA y2.1,AV.sl 1 (List.take (List.length x35) (List.map encS x35)),AV.sl 9 (List.map c_api_Stmt y39.1),iA x1.f_At],[Ob.var 76 [AV.sl 4 (List.map c_api_Token s_l),iA y43.1,iA y43.2.1,iA y43.2.2]]))
 refine ca hc (fun _ h=>ok_ref04_state_sign h) ?_;intro y45
 intro h;cases sj h
 try simp only [ls]
 exact fq (y:=some (AV.agg [sA y2.1,AV.sl 1 (List.take (List.length x35) (List.map encS x35)),AV.sl 9 [],iA x1.f_At],[Ob.var 76 [AV.sl 4 (List.map c_api_Token s_l),iA y45.1,iA y45.2.1,iA y45.2.2]]))
 refine br ?_ ?_
 refine ca hc (fun _ h=>ok_ref03_Parse h) ?_;intro y49
 refine ca hc (fun _ h=>ok_ref04_state_fault h) ?_;intro y51
 refine ca hc (fun _ h=>ok_ref04_state_sign h) ?_;intro y53
 exact rz
 refine ca hc (fun _ h=>ok_ref04_state_sign h) ?_;intro y55
 exact rz
theorem ok_ref04_Parse {n:Nat} ⦃v0_text:(List UInt8)⦄ ⦃r:(S_api_Prog×Int×Int)⦄:m_ref04_Parse n v0_text=some r→CN n 20 [sA v0_text] []=some (AV.tup [AV.agg [iA r.1.f_Mod,AV.sl 3 (List.map c_api_Var r.1.f_Locs),AV.sl 4 (List.map c_api_Thread r.1.f_Threads),AV.sl 3 (List.map c_api_Claim r.1.f_Claims)],iA r.2.1,iA r.2.2],[]):=by
 intro h;rcases n with _|n;cases h
 rw [m_ref04_Parse] at h
 refine callN_eq' Try.func20 (by rfl) rfl rfl (Nat.le_of_ble_eq_true rfl) ?_
 intro call hc;conv=>lhs;whnf
 revert h
 refine ca hc (fun _ h=>ok_ref01_Scan h) ?_;intro y1
 refine br ?_ ?_
 exact rz
 refine ca hc (fun _ h=>ok_ref04_state_key h) ?_;intro y4
 refine br ?_ ?_
 refine ca hc (fun _ h=>ok_ref04_state_number h) ?_;intro y7
 refine ca hc (fun _ h=>ok_ref04_state_sign h) ?_;intro y9
 intro h;refine bind_some2 h ?_;clear h;intro o22 ho22 h
 refine lq (σ:=(Int×Int×Int×(List S_api_Var))) (τ:=(Int×Int×Int×(List S_api_Var))) (ν:=(S_api_Prog×Int×Int)) 0 (fun (s11,s12,s13,s14) a16=>stOf 125 [(2,AV.ptr 0 0),(5,AV.sl 4 (List.map c_api_Token y1.1)),(8,AV.ptr 1 0),(9,AV.ptr 2 0)]) (fun (s11,s12,s13,s14) a16=>[Ob.var 26 [iA (0),AV.row 3 (List.length (([]:List S_api_Var))),AV.row 4 (List.length (([]:List S_api_Thread))),AV.row 5 (List.length (([]:List S_api_Claim)))],Ob.var 76 [AV.sl 4 (List.map c_api_Token y1.1),iA s11,iA s12,iA s13],Ob.var 26 [iA y7.1,AV.row 6 (List.length s14),AV.row 7 (List.length (([]:List S_api_Thread))),AV.row 8 (List.length (([]:List S_api_Claim)))],Ob.row 37 3 ([]),Ob.row 40 4 ([]),Ob.row 46 3 ([]),Ob.row 37 3 (List.map c_api_Var s14),Ob.row 40 4 ([]),Ob.row 46 3 ([])]) (fun (x38,x39,x40,x41) a37=>stOf 125 [(2,AV.ptr 0 0),(5,AV.sl 4 (List.map c_api_Token y1.1)),(8,AV.ptr 1 0),(9,AV.ptr 2 0)]) (fun (x38,x39,x40,x41) a37=>[Ob.var 26 [iA (0),AV.row 3 (List.length (([]:List S_api_Var))),AV.row 4 (List.length (([]:List S_api_Thread))),AV.row 5 (List.length (([]:List S_api_Claim)))],Ob.var 76 [AV.sl 4 (List.map c_api_Token y1.1),iA x38,iA x39,iA x40],Ob.var 26 [iA y7.1,AV.row 6 (List.length x41),AV.row 7 (List.length (([]:List S_api_Thread))),AV.row 8 (List.length (([]:List S_api_Claim)))],Ob.row 37 3 ([]),Ob.row 40 4 ([]),Ob.row 46 3 ([]),Ob.row 37 3 (List.map c_api_Var x41),Ob.row 40 4 ([]),Ob.row 46 3 ([])]) (fun v=>(AV.tup [AV.agg [iA v.1.f_Mod,AV.sl 3 (List.map c_api_Var v.1.f_Locs),AV.sl 4 (List.map c_api_Thread v.1.f_Threads),AV.sl 3 (List.map c_api_Claim v.1.f_Claims)],iA v.2.1,iA v.2.2],[])) (fun k s=>ref04_Parse_L0 n y1 k s.1 s.2.1 s.2.2.1 s.2.2.2) (fun s=>rfl) o22 n (y9.1,y9.2.1,y9.2.2,([]:List S_api_Var)) (fun _=>0) ho22 ?_ ?_
 intro k15 ss a16 K17 cont18 hK19 hcont20 h hr21
 obtain ⟨s11,s12,s13,s14⟩:=ss
 replace h:ref04_Parse_L0 n y1 (k15+1) s11 s12 s13 s14=some o22:=h
 rw [ref04_Parse_L0] at h
 conv=>lhs;whnf
 revert h
 refine ca hc (fun _ h=>ok_ref04_state_key h) ?_;intro y23
 refine br ?_ ?_
 refine ix ?_;intro x26
 refine ca hc (fun _ h=>ok_ref04_state_name h) ?_;intro y27
 refine ca hc (fun _ h=>ok_ref04_state_sign h) ?_;intro y29
 refine ca hc (fun _ h=>ok_ref04_state_number h) ?_;intro y31
 refine ca hc (fun _ h=>ok_ref04_state_sign h) ?_;intro y33
 refine ar (ap c_api_Var (List.map c_api_Var s14) s14 ([[sA y27.1,iA y31.1,iA x26.f_At]]) ([(⟨y27.1,y31.1,x26.f_At⟩:S_api_Var)]:List S_api_Var)) ?_
 exact fun h=>cq (hcont20 (y33.1,y33.2.1,y33.2.2,(s14++([(⟨y27.1,y31.1,x26.f_At⟩:S_api_Var)]:List S_api_Var))) (fun _=>0) h)
 intro h;cases sj h
 exact kq (hr21 (fun _=>0))
 refine lrc ?_ ?_
 intro v e;subst e;cases sj h;rfl
 intro t a37 e;subst e
 obtain ⟨x38,x39,x40,x41⟩:=t
 dsimp only at h
 conv=>lhs;whnf
 revert h
 intro h;refine bind_some2 h ?_;clear h;intro o53 ho53 h
 refine lq (σ:=(Int×Int×Int×(List S_api_Thread))) (τ:=(Int×Int×Int×(List S_api_Thread))) (ν:=(S_api_Prog×Int×Int)) 2 (fun (s42,s43,s44,s45) a47=>stOf 125 [(2,AV.ptr 0 0),(5,AV.sl 4 (List.map c_api_Token y1.1)),(8,AV.ptr 1 0),(9,AV.ptr 2 0)]) (fun (s42,s43,s44,s45) a47=>[Ob.var 26 [iA (0),AV.row 3 (List.length (([]:List S_api_Var))),AV.row 4 (List.length (([]:List S_api_Thread))),AV.row 5 (List.length (([]:List S_api_Claim)))],Ob.var 76 [AV.sl 4 (List.map c_api_Token y1.1),iA s42,iA s43,iA s44],Ob.var 26 [iA y7.1,AV.row 6 (List.length x41),AV.row 7 (List.length s45),AV.row 8 (List.length (([]:List S_api_Claim)))],Ob.row 37 3 ([]),Ob.row 40 4 ([]),Ob.row 46 3 ([]),Ob.row 37 3 (List.map c_api_Var x41),Ob.row 40 4 (List.map c_api_Thread s45),Ob.row 46 3 ([])]) (fun (x62,x63,x64,x65) a61=>stOf 125 [(2,AV.ptr 0 0),(5,AV.sl 4 (List.map c_api_Token y1.1)),(8,AV.ptr 1 0),(9,AV.ptr 2 0)]) (fun (x62,x63,x64,x65) a61=>[Ob.var 26 [iA (0),AV.row 3 (List.length (([]:List S_api_Var))),AV.row 4 (List.length (([]:List S_api_Thread))),AV.row 5 (List.length (([]:List S_api_Claim)))],Ob.var 76 [AV.sl 4 (List.map c_api_Token y1.1),iA x62,iA x63,iA x64],Ob.var 26 [iA y7.1,AV.row 6 (List.length x41),AV.row 7 (List.length x65),AV.row 8 (List.length (([]:List S_api_Claim)))],Ob.row 37 3 ([]),Ob.row 40 4 ([]),Ob.row 46 3 ([]),Ob.row 37 3 (List.map c_api_Var x41),Ob.row 40 4 (List.map c_api_Thread x65),Ob.row 46 3 ([])]) (fun v=>(AV.tup [AV.agg [iA v.1.f_Mod,AV.sl 3 (List.map c_api_Var v.1.f_Locs),AV.sl 4 (List.map c_api_Thread v.1.f_Threads),AV.sl 3 (List.map c_api_Claim v.1.f_Claims)],iA v.2.1,iA v.2.2],[])) (fun k s=>ref04_Parse_L1 n y1 k s.1 s.2.1 s.2.2.1 s.2.2.2) (fun s=>rfl) o53 n (x38,x39,x40,([]:List S_api_Thread)) (fun _=>0) ho53 ?_ ?_
 intro k46 ss a47 K48 cont49 hK50 hcont51 h hr52
 obtain ⟨s42,s43,s44,s45⟩:=ss
 replace h:ref04_Parse_L1 n y1 (k46+1) s42 s43 s44 s45=some o53:=h
 rw [ref04_Parse_L1] at h
 conv=>lhs;whnf
 revert h
 refine ca hc (fun _ h=>ok_ref04_state_key h) ?_;intro y54
 refine br ?_ ?_
 refine ca hc (fun _ h=>ok_ref04_state_thread h) ?_;intro y57
 refine ar (ap c_api_Thread (List.map c_api_Thread s45) s45 ([[sA y57.1.f_Name,AV.sl 1 (List.map encS y57.1.f_Regs),AV.sl 9 (List.map c_api_Stmt y57.1.f_Body),iA y57.1.f_At]]) ([y57.1]:List S_api_Thread)) ?_
 exact fun h=>cq (hcont51 (y57.2.1,y57.2.2.1,y57.2.2.2,(s45++([y57.1]:List S_api_Thread))) (fun _=>0) h)
 intro h;cases sj h
 exact kq (hr52 (fun _=>0))
 refine lrc ?_ ?_
 intro v e;subst e;cases sj h;rfl
 intro t a61 e;subst e
 obtain ⟨x62,x63,x64,x65⟩:=t
 dsimp only at h
 conv=>lhs;whnf
 revert h
 intro h;refine bind_some2 h ?_;clear h;intro o77 ho77 h
 refine lq (σ:=(Int×Int×Int×(List S_api_Claim))) (τ:=(Int×Int×Int×(List S_api_Claim))) (ν:=(S_api_Prog×Int×Int)) 4 (fun (s66,s67,s68,s69) a71=>stOf 125 [(2,AV.ptr 0 0),(5,AV.sl 4 (List.map c_api_Token y1.1)),(8,AV.ptr 1 0),(9,AV.ptr 2 0)]) (fun (s66,s67,s68,s69) a71=>[Ob.var 26 [iA (0),AV.row 3 (List.length (([]:List S_api_Var))),AV.row 4 (List.length (([]:List S_api_Thread))),AV.row 5 (List.length (([]:List S_api_Claim)))],Ob.var 76 [AV.sl 4 (List.map c_api_Token y1.1),iA s66,iA s67,iA s68],Ob.var 26 [iA y7.1,AV.row 6 (List.length x41),AV.row 7 (List.length x65),AV.row 8 (List.length s69)],Ob.row 37 3 ([]),Ob.row 40 4 ([]),Ob.row 46 3 ([]),Ob.row 37 3 (List.map c_api_Var x41),Ob.row 40 4 (List.map c_api_Thread x65),Ob.row 46 3 (List.map c_api_Claim s69)]) (fun (x88,x89,x90,x91) a87=>stOf 125 [(2,AV.ptr 0 0),(5,AV.sl 4 (List.map c_api_Token y1.1)),(8,AV.ptr 1 0),(9,AV.ptr 2 0)]) (fun (x88,x89,x90,x91) a87=>[Ob.var 26 [iA (0),AV.row 3 (List.length (([]:List S_api_Var))),AV.row 4 (List.length (([]:List S_api_Thread))),AV.row 5 (List.length (([]:List S_api_Claim)))],Ob.var 76 [AV.sl 4 (List.map c_api_Token y1.1),iA x88,iA x89,iA x90],Ob.var 26 [iA y7.1,AV.row 6 (List.length x41),AV.row 7 (List.length x65),AV.row 8 (List.length x91)],Ob.row 37 3 ([]),Ob.row 40 4 ([]),Ob.row 46 3 ([]),Ob.row 37 3 (List.map c_api_Var x41),Ob.row 40 4 (List.map c_api_Thread x65),Ob.row 46 3 (List.map c_api_Claim x91)]) (fun v=>(AV.tup [AV.agg [iA v.1.f_Mod,AV.sl 3 (List.map c_api_Var v.1.f_Locs),AV.sl 4 (List.map c_api_Thread v.1.f_Threads),AV.sl 3 (List.map c_api_Claim v.1.f_Claims)],iA v.2.1,iA v.2.2],[])) (fun k s=>ref04_Parse_L2 n y1 k s.1 s.2.1 s.2.2.1 s.2.2.2) (fun s=>rfl) o77 n (x62,x63,x64,([]:List S_api_Claim)) (fun _=>0) ho77 ?_ ?_
 intro k70 ss a71 K72 cont73 hK74 hcont75 h hr76
 obtain ⟨s66,s67,s68,s69⟩:=ss
 replace h:ref04_Parse_L2 n y1 (k70+1) s66 s67 s68 s69=some o77:=h
 rw [ref04_Parse_L2] at h
 conv=>lhs;whnf
 revert h
 refine ca hc (fun _ h=>ok_ref04_state_kind h) ?_;intro y78
 refine br ?_ ?_
 refine ca hc (fun _ h=>ok_ref04_state_kind h) ?_;intro y81
 refine ca hc (fun _ h=>ok_ref04_state_claim h) ?_;intro y83
 refine ar (ap c_api_Claim (List.map c_api_Claim s69) s69 ([[iA y83.1.f_Kind,AV.sl 5 (List.map c_api_Node y83.1.f_E),iA y83.1.f_At]]) ([y83.1]:List S_api_Claim)) ?_
 exact fun h=>cq (hcont75 (y83.2.1,y83.2.2.1,y83.2.2.2,(s69++([y83.1]:List S_api_Claim))) (fun _=>0) h)
 intro h;cases sj h
 exact kq (hr76 (fun _=>0))
 refine lrc ?_ ?_
 intro v e;subst e;cases sj h;rfl
 intro t a87 e;subst e
 obtain ⟨x88,x89,x90,x91⟩:=t
 dsimp only at h
 conv=>lhs;whnf
 revert h
 refine br ?_ ?_
 refine ca hc (fun _ h=>ok_ref04_state_wrong h) ?_;intro y93
 refine br ?_ ?_
 exact rz
 intro h;cases sj h
 try simp only [ls]
 exact fq (y:=some (AV.tup [AV.agg [iA y7.1,AV.sl 3 (List.take (List.length x41) (List.map c_api_Var x41)),AV.sl 4 (List.take (List.length x65) (List.map c_api_Thread x65)),AV.sl 3 (List.take (List.length x91) (List.map c_api_Claim x91))],iA (0),iA (0)],[]))
 refine br ?_ ?_
 exact rz
 intro h;cases sj h
 try simp only [ls]
 exact fq (y:=some (AV.tup [AV.agg [iA y7.1,AV.sl 3 (List.take (List.length x41) (List.map c_api_Var x41)),AV.sl 4 (List.take (List.length x65) (List.map c_api_Thread x65)),AV.sl 3 (List.take (List.length x91) (List.map c_api_Claim x91))],iA (0),iA (0)],[]))
 refine ca hc (fun _ h=>ok_ref04_state_wrong h) ?_;intro y100
 refine ca hc (fun _ h=>ok_ref04_state_number h) ?_;intro y102
 refine ca hc (fun _ h=>ok_ref04_state_sign h) ?_;intro y104
 intro h;refine bind_some2 h ?_;clear h;intro o117 ho117 h
 refine lq (σ:=(Int×Int×Int×(List S_api_Var))) (τ:=(Int×Int×Int×(List S_api_Var))) (ν:=(S_api_Prog×Int×Int)) 0 (fun (s106,s107,s108,s109) a111=>stOf 125 [(2,AV.ptr 0 0),(5,AV.sl 4 (List.map c_api_Token y1.1)),(8,AV.ptr 1 0),(9,AV.ptr 2 0)]) (fun (s106,s107,s108,s109) a111=>[Ob.var 26 [iA (0),AV.row 3 (List.length (([]:List S_api_Var))),AV.row 4 (List.length (([]:List S_api_Thread))),AV.row 5 (List.length (([]:List S_api_Claim)))],Ob.var 76 [AV.sl 4 (List.map c_api_Token y1.1),iA s106,iA s107,iA s108],Ob.var 26 [iA y102.1,AV.row 6 (List.length s109),AV.row 7 (List.length (([]:List S_api_Thread))),AV.row 8 (List.length (([]:List S_api_Claim)))],Ob.row 37 3 ([]),Ob.row 40 4 ([]),Ob.row 46 3 ([]),Ob.row 37 3 (List.map c_api_Var s109),Ob.row 40 4 ([]),Ob.row 46 3 ([])]) (fun (x133,x134,x135,x136) a132=>stOf 125 [(2,AV.ptr 0 0),(5,AV.sl 4 (List.map c_api_Token y1.1)),(8,AV.ptr 1 0),(9,AV.ptr 2 0)]) (fun (x133,x134,x135,x136) a132=>[Ob.var 26 [iA (0),AV.row 3 (List.length (([]:List S_api_Var))),AV.row 4 (List.length (([]:List S_api_Thread))),AV.row 5 (List.length (([]:List S_api_Claim)))],Ob.var 76 [AV.sl 4 (List.map c_api_Token y1.1),iA x133,iA x134,iA x135],Ob.var 26 [iA y102.1,AV.row 6 (List.length x136),AV.row 7 (List.length (([]:List S_api_Thread))),AV.row 8 (List.length (([]:List S_api_Claim)))],Ob.row 37 3 ([]),Ob.row 40 4 ([]),Ob.row 46 3 ([]),Ob.row 37 3 (List.map c_api_Var x136),Ob.row 40 4 ([]),Ob.row 46 3 ([])]) (fun v=>(AV.tup [AV.agg [iA v.1.f_Mod,AV.sl 3 (List.map c_api_Var v.1.f_Locs),AV.sl 4 (List.map c_api_Thread v.1.f_Threads),AV.sl 3 (List.map c_api_Claim v.1.f_Claims)],iA v.2.1,iA v.2.2],[])) (fun k s=>ref04_Parse_L3 n y1 k s.1 s.2.1 s.2.2.1 s.2.2.2) (fun s=>rfl) o117 n (y104.1,y104.2.1,y104.2.2,([]:List S_api_Var)) (fun _=>0) ho117 ?_ ?_
 intro k110 ss a111 K112 cont113 hK114 hcont115 h hr116
 obtain ⟨s106,s107,s108,s109⟩:=ss
 replace h:ref04_Parse_L3 n y1 (k110+1) s106 s107 s108 s109=some o117:=h
 rw [ref04_Parse_L3] at h
 conv=>lhs;whnf
 revert h
 refine ca hc (fun _ h=>ok_ref04_state_key h) ?_;intro y118
 refine br ?_ ?_
 refine ix ?_;intro x121
 refine ca hc (fun _ h=>ok_ref04_state_name h) ?_;intro y122
 refine ca hc (fun _ h=>ok_ref04_state_sign h) ?_;intro y124
 refine ca hc (fun _ h=>ok_ref04_state_number h) ?_;intro y126
 refine ca hc (fun _ h=>ok_ref04_state_sign h) ?_;intro y128
 refine ar (ap c_api_Var (List.map c_api_Var s109) s109 ([[sA y122.1,iA y126.1,iA x121.f_At]]) ([(⟨y122.1,y126.1,x121.f_At⟩:S_api_Var)]:List S_api_Var)) ?_
 exact fun h=>cq (hcont115 (y128.1,y128.2.1,y128.2.2,(s109++([(⟨y122.1,y126.1,x121.f_At⟩:S_api_Var)]:List S_api_Var))) (fun _=>0) h)
 intro h;cases sj h
 exact kq (hr116 (fun _=>0))
 refine lrc ?_ ?_
 intro v e;subst e;cases sj h;rfl
 intro t a132 e;subst e
 obtain ⟨x133,x134,x135,x136⟩:=t
 dsimp only at h
 conv=>lhs;whnf
 revert h
 intro h;refine bind_some2 h ?_;clear h;intro o148 ho148 h
 refine lq (σ:=(Int×Int×Int×(List S_api_Thread))) (τ:=(Int×Int×Int×(List S_api_Thread))) (ν:=(S_api_Prog×Int×Int)) 2 (fun (s137,s138,s139,s140) a142=>stOf 125 [(2,AV.ptr 0 0),(5,AV.sl 4 (List.map c_api_Token y1.1)),(8,AV.ptr 1 0),(9,AV.ptr 2 0)]) (fun (s137,s138,s139,s140) a142=>[Ob.var 26 [iA (0),AV.row 3 (List.length (([]:List S_api_Var))),AV.row 4 (List.length (([]:List S_api_Thread))),AV.row 5 (List.length (([]:List S_api_Claim)))],Ob.var 76 [AV.sl 4 (List.map c_api_Token y1.1),iA s137,iA s138,iA s139],Ob.var 26 [iA y102.1,AV.row 6 (List.length x136),AV.row 7 (List.length s140),AV.row 8 (List.length (([]:List S_api_Claim)))],Ob.row 37 3 ([]),Ob.row 40 4 ([]),Ob.row 46 3 ([]),Ob.row 37 3 (List.map c_api_Var x136),Ob.row 40 4 (List.map c_api_Thread s140),Ob.row 46 3 ([])]) (fun (x157,x158,x159,x160) a156=>stOf 125 [(2,AV.ptr 0 0),(5,AV.sl 4 (List.map c_api_Token y1.1)),(8,AV.ptr 1 0),(9,AV.ptr 2 0)]) (fun (x157,x158,x159,x160) a156=>[Ob.var 26 [iA (0),AV.row 3 (List.length (([]:List S_api_Var))),AV.row 4 (List.length (([]:List S_api_Thread))),AV.row 5 (List.length (([]:List S_api_Claim)))],Ob.var 76 [AV.sl 4 (List.map c_api_Token y1.1),iA x157,iA x158,iA x159],Ob.var 26 [iA y102.1,AV.row 6 (List.length x136),AV.row 7 (List.length x160),AV.row 8 (List.length (([]:List S_api_Claim)))],Ob.row 37 3 ([]),Ob.row 40 4 ([]),Ob.row 46 3 ([]),Ob.row 37 3 (List.map c_api_Var x136),Ob.row 40 4 (List.map c_api_Thread x160),Ob.row 46 3 ([])]) (fun v=>(AV.tup [AV.agg [iA v.1.f_Mod,AV.sl 3 (List.map c_api_Var v.1.f_Locs),AV.sl 4 (List.map c_api_Thread v.1.f_Threads),AV.sl 3 (List.map c_api_Claim v.1.f_Claims)],iA v.2.1,iA v.2.2],[])) (fun k s=>ref04_Parse_L4 n y1 k s.1 s.2.1 s.2.2.1 s.2.2.2) (fun s=>rfl) o148 n (x133,x134,x135,([]:List S_api_Thread)) (fun _=>0) ho148 ?_ ?_
 intro k141 ss a142 K143 cont144 hK145 hcont146 h hr147
 obtain ⟨s137,s138,s139,s140⟩:=ss
 replace h:ref04_Parse_L4 n y1 (k141+1) s137 s138 s139 s140=some o148:=h
 rw [ref04_Parse_L4] at h
 conv=>lhs;whnf
 revert h
 refine ca hc (fun _ h=>ok_ref04_state_key h) ?_;intro y149
 refine br ?_ ?_
 refine ca hc (fun _ h=>ok_ref04_state_thread h) ?_;intro y152
 refine ar (ap c_api_Thread (List.map c_api_Thread s140) s140 ([[sA y152.1.f_Name,AV.sl 1 (List.map encS y152.1.f_Regs),AV.sl 9 (List.map c_api_Stmt y152.1.f_Body),iA y152.1.f_At]]) ([y152.1]:List S_api_Thread)) ?_
 exact fun h=>cq (hcont146 (y152.2.1,y152.2.2.1,y152.2.2.2,(s140++([y152.1]:List S_api_Thread))) (fun _=>0) h)
 intro h;cases sj h
 exact kq (hr147 (fun _=>0))
 refine lrc ?_ ?_
 intro v e;subst e;cases sj h;rfl
 intro t a156 e;subst e
 obtain ⟨x157,x158,x159,x160⟩:=t
 dsimp only at h
 conv=>lhs;whnf
 revert h
 intro h;refine bind_some2 h ?_;clear h;intro o172 ho172 h
 refine lq (σ:=(Int×Int×Int×(List S_api_Claim))) (τ:=(Int×Int×Int×(List S_api_Claim))) (ν:=(S_api_Prog×Int×Int)) 4 (fun (s161,s162,s163,s164) a166=>stOf 125 [(2,AV.ptr 0 0),(5,AV.sl 4 (List.map c_api_Token y1.1)),(8,AV.ptr 1 0),(9,AV.ptr 2 0)]) (fun (s161,s162,s163,s164) a166=>[Ob.var 26 [iA (0),AV.row 3 (List.length (([]:List S_api_Var))),AV.row 4 (List.length (([]:List S_api_Thread))),AV.row 5 (List.length (([]:List S_api_Claim)))],Ob.var 76 [AV.sl 4 (List.map c_api_Token y1.1),iA s161,iA s162,iA s163],Ob.var 26 [iA y102.1,AV.row 6 (List.length x136),AV.row 7 (List.length x160),AV.row 8 (List.length s164)],Ob.row 37 3 ([]),Ob.row 40 4 ([]),Ob.row 46 3 ([]),Ob.row 37 3 (List.map c_api_Var x136),Ob.row 40 4 (List.map c_api_Thread x160),Ob.row 46 3 (List.map c_api_Claim s164)]) (fun (x183,x184,x185,x186) a182=>stOf 125 [(2,AV.ptr 0 0),(5,AV.sl 4 (List.map c_api_Token y1.1)),(8,AV.ptr 1 0),(9,AV.ptr 2 0)]) (fun (x183,x184,x185,x186) a182=>[Ob.var 26 [iA (0),AV.row 3 (List.length (([]:List S_api_Var))),AV.row 4 (List.length (([]:List S_api_Thread))),AV.row 5 (List.length (([]:List S_api_Claim)))],Ob.var 76 [AV.sl 4 (List.map c_api_Token y1.1),iA x183,iA x184,iA x185],Ob.var 26 [iA y102.1,AV.row 6 (List.length x136),AV.row 7 (List.length x160),AV.row 8 (List.length x186)],Ob.row 37 3 ([]),Ob.row 40 4 ([]),Ob.row 46 3 ([]),Ob.row 37 3 (List.map c_api_Var x136),Ob.row 40 4 (List.map c_api_Thread x160),Ob.row 46 3 (List.map c_api_Claim x186)]) (fun v=>(AV.tup [AV.agg [iA v.1.f_Mod,AV.sl 3 (List.map c_api_Var v.1.f_Locs),AV.sl 4 (List.map c_api_Thread v.1.f_Threads),AV.sl 3 (List.map c_api_Claim v.1.f_Claims)],iA v.2.1,iA v.2.2],[])) (fun k s=>ref04_Parse_L5 n y1 k s.1 s.2.1 s.2.2.1 s.2.2.2) (fun s=>rfl) o172 n (x157,x158,x159,([]:List S_api_Claim)) (fun _=>0) ho172 ?_ ?_
 intro k165 ss a166 K167 cont168 hK169 hcont170 h hr171
 obtain ⟨s161,s162,s163,s164⟩:=ss
 replace h:ref04_Parse_L5 n y1 (k165+1) s161 s162 s163 s164=some o172:=h
 rw [ref04_Parse_L5] at h
 conv=>lhs;whnf
 revert h
 refine ca hc (fun _ h=>ok_ref04_state_kind h) ?_;intro y173
 refine br ?_ ?_
 refine ca hc (fun _ h=>ok_ref04_state_kind h) ?_;intro y176
 refine ca hc (fun _ h=>ok_ref04_state_claim h) ?_;intro y178
 refine ar (ap c_api_Claim (List.map c_api_Claim s164) s164 ([[iA y178.1.f_Kind,AV.sl 5 (List.map c_api_Node y178.1.f_E),iA y178.1.f_At]]) ([y178.1]:List S_api_Claim)) ?_
 exact fun h=>cq (hcont170 (y178.2.1,y178.2.2.1,y178.2.2.2,(s164++([y178.1]:List S_api_Claim))) (fun _=>0) h)
 intro h;cases sj h
 exact kq (hr171 (fun _=>0))
 refine lrc ?_ ?_
 intro v e;subst e;cases sj h;rfl
 intro t a182 e;subst e
 obtain ⟨x183,x184,x185,x186⟩:=t
 dsimp only at h
 conv=>lhs;whnf
 revert h
 refine br ?_ ?_
 refine ca hc (fun _ h=>ok_ref04_state_wrong h) ?_;intro y188
 refine br ?_ ?_
 exact rz
 intro h;cases sj h
 try simp only [ls]
 exact fq (y:=some (AV.tup [AV.agg [iA y102.1,AV.sl 3 (List.take (List.length x136) (List.map c_api_Var x136)),AV.sl 4 (List.take (List.length x160) (List.map c_api_Thread x160)),AV.sl 3 (List.take (List.length x186) (List.map c_api_Claim x186))],iA (0),iA (0)],[]))
 refine br ?_ ?_
 exact rz
 intro h;cases sj h
 try simp only [ls]
 exact fq (y:=some (AV.tup [AV.agg [iA y102.1,AV.sl 3 (List.take (List.length x136) (List.map c_api_Var x136)),AV.sl 4 (List.take (List.length x160) (List.map c_api_Thread x160)),AV.sl 3 (List.take (List.length x186) (List.map c_api_Claim x186))],iA (0),iA (0)],[]))
theorem ok_ref04_Light {n:Nat} ⦃v0_p:S_api_Prog⦄ ⦃r:Bool⦄:m_ref04_Light n v0_p=some r→CN n 5 [AV.agg [iA v0_p.f_Mod,AV.sl 3 (List.map c_api_Var v0_p.f_Locs),AV.sl 4 (List.map c_api_Thread v0_p.f_Threads),AV.sl 3 (List.map c_api_Claim v0_p.f_Claims)]] []=some (bA r,[]):=by
 intro h;rcases n with _|n;cases h
 rw [m_ref04_Light] at h
 refine callN_eq' Try.func5 (by rfl) rfl rfl (Nat.le_of_ble_eq_true rfl) ?_
 intro call hc;conv=>lhs;whnf
 revert h
 refine br ?_ ?_
 exact rz
 refine br ?_ ?_
 exact rz
 refine br ?_ ?_
 exact rz
 intro h;refine bind_some2 h ?_;clear h;intro o12 ho12 h
 refine lq (σ:=Int) (τ:=Unit) (ν:=Bool) 0 (fun s4 a6=>stOf 96 [(1,AV.ptr 0 0),(3,iA s4)]) (fun s4 a6=>[Ob.var 26 [iA v0_p.f_Mod,AV.sl 3 (List.map c_api_Var v0_p.f_Locs),AV.sl 4 (List.map c_api_Thread v0_p.f_Threads),AV.sl 3 (List.map c_api_Claim v0_p.f_Claims)]]) (fun _ a16=>stOf 96 [(1,AV.ptr 0 0)]) (fun _ a16=>[Ob.var 26 [iA v0_p.f_Mod,AV.sl 3 (List.map c_api_Var v0_p.f_Locs),AV.sl 4 (List.map c_api_Thread v0_p.f_Threads),AV.sl 3 (List.map c_api_Claim v0_p.f_Claims)]]) (fun v=>(bA v,[])) (fun k s=>ref04_Light_L0 n v0_p k s) (fun s=>rfl) o12 n 0 (fun _=>0) ho12 ?_ ?_
 intro k5 s4 a6 K7 cont8 hK9 hcont10 h hr11
 replace h:ref04_Light_L0 n v0_p (k5+1) s4=some o12:=h
 rw [ref04_Light_L0] at h
 conv=>lhs;whnf
 revert h
 refine br ?_ ?_
 refine ix ?_;intro x14
 refine br ?_ ?_
 intro h;cases sj h
 refine (hK9 _ _).trans ?_
 refine Eq.trans ?_ (Eq.symm (show _=some _ from hr11))
 conv=>lhs;whnf
 exact rq
 exact fun h=>cq (hcont10 (IntKind.i64.wrap (s4+1)) (fun _=>0) h)
 intro h;cases sj h
 exact kq (hr11 (fun _=>0))
 refine lrc ?_ ?_
 intro v e;subst e;cases sj h;rfl
 intro t a16 e;subst e
 dsimp only at h
 conv=>lhs;whnf
 revert h
 intro h;refine bind_some2 h ?_;clear h;intro o25 ho25 h
 refine lq (σ:=Int) (τ:=Unit) (ν:=Bool) 2 (fun s17 a19=>stOf 96 [(1,AV.ptr 0 0),(4,iA s17)]) (fun s17 a19=>[Ob.var 26 [iA v0_p.f_Mod,AV.sl 3 (List.map c_api_Var v0_p.f_Locs),AV.sl 4 (List.map c_api_Thread v0_p.f_Threads),AV.sl 3 (List.map c_api_Claim v0_p.f_Claims)]]) (fun _ a47=>stOf 96 [(1,AV.ptr 0 0)]) (fun _ a47=>[Ob.var 26 [iA v0_p.f_Mod,AV.sl 3 (List.map c_api_Var v0_p.f_Locs),AV.sl 4 (List.map c_api_Thread v0_p.f_Threads),AV.sl 3 (List.map c_api_Claim v0_p.f_Claims)]]) (fun v=>(bA v,[])) (fun k s=>ref04_Light_L1 n v0_p k s) (fun s=>rfl) o25 n 0 (fun _=>0) ho25 ?_ ?_
 intro k18 s17 a19 K20 cont21 hK22 hcont23 h hr24
 replace h:ref04_Light_L1 n v0_p (k18+1) s17=some o25:=h
 rw [ref04_Light_L1] at h
 conv=>lhs;whnf
 revert h
 refine br ?_ ?_
 refine ix ?_;intro x27
 refine br ?_ ?_
 intro h;cases sj h
 refine (hK22 _ _).trans ?_
 refine Eq.trans ?_ (Eq.symm (show _=some _ from hr24))
 conv=>lhs;whnf
 exact rq
 refine br ?_ ?_
 intro h;cases sj h
 refine (hK22 _ _).trans ?_
 refine Eq.trans ?_ (Eq.symm (show _=some _ from hr24))
 conv=>lhs;whnf
 exact rq
 refine ca hc (fun _ h=>ok_ref03_Light h) ?_;intro y30
 refine br ?_ ?_
 intro h;refine bind_some2 h ?_;clear h;intro o41 ho41 h
 refine lq (σ:=Int) (τ:=Unit) (ν:=Bool) 4 (fun s33 a35=>stOf 96 [(1,AV.ptr 0 0),(4,iA s17),(5,AV.ptr 1 0),(6,iA s33)]) (fun s33 a35=>[Ob.var 26 [iA v0_p.f_Mod,AV.sl 3 (List.map c_api_Var v0_p.f_Locs),AV.sl 4 (List.map c_api_Thread v0_p.f_Threads),AV.sl 3 (List.map c_api_Claim v0_p.f_Claims)],Ob.var 40 [sA x27.f_Name,AV.sl 1 (List.map encS x27.f_Regs),AV.sl 9 (List.map c_api_Stmt x27.f_Body),iA x27.f_At]]) (fun _ a45=>stOf 96 [(1,AV.ptr 0 0),(4,iA s17)]) (fun _ a45=>[Ob.var 26 [iA v0_p.f_Mod,AV.sl 3 (List.map c_api_Var v0_p.f_Locs),AV.sl 4 (List.map c_api_Thread v0_p.f_Threads),AV.sl 3 (List.map c_api_Claim v0_p.f_Claims)],Ob.var 40 [sA x27.f_Name,AV.sl 1 (List.map encS x27.f_Regs),AV.sl 9 (List.map c_api_Stmt x27.f_Body),iA x27.f_At]]) (fun v=>(bA v,[])) (fun k s=>ref04_Light_L2 n x27 k s) (fun s=>rfl) o41 n 0 (fun _=>0) ho41 ?_ ?_
 intro k34 s33 a35 K36 cont37 hK38 hcont39 h hr40
 replace h:ref04_Light_L2 n x27 (k34+1) s33=some o41:=h
 rw [ref04_Light_L2] at h
 conv=>lhs;whnf
 revert h
 refine br ?_ ?_
 refine ix ?_;intro x43
 refine br ?_ ?_
 intro h;cases sj h
 refine (hK38 _ _).trans ?_
 conv=>lhs;whnf
 refine (hK22 _ _).trans ?_
 refine Eq.trans ?_ (Eq.symm (show _=some _ from hr40))
 conv=>lhs;whnf
 exact rq
 exact fun h=>cq (hcont39 (IntKind.i64.wrap (s33+1)) (fun _=>0) h)
 intro h;cases sj h
 exact kq (hr40 (fun _=>0))
 refine lrc ?_ ?_
 intro v e;subst e;cases sj h;exact hr24
 intro t a45 e;subst e
 dsimp only at h
 conv=>lhs;whnf
 revert h
 exact fun h=>cq (hcont23 (IntKind.i64.wrap (s17+1)) (fun _=>0) h)
 intro h;cases sj h
 refine (hK22 _ _).trans ?_
 refine Eq.trans ?_ (Eq.symm (show _=some _ from hr24))
 conv=>lhs;whnf
 exact rq
 intro h;cases sj h
 exact kq (hr24 (fun _=>0))
 refine lrc ?_ ?_
 intro v e;subst e;cases sj h;rfl
 intro t a47 e;subst e
 dsimp only at h
 conv=>lhs;whnf
 revert h
 intro h;refine bind_some2 h ?_;clear h;intro o56 ho56 h
 refine lq (σ:=Int) (τ:=Unit) (ν:=Bool) 6 (fun s48 a50=>stOf 96 [(1,AV.ptr 0 0),(7,iA s48)]) (fun s48 a50=>[Ob.var 26 [iA v0_p.f_Mod,AV.sl 3 (List.map c_api_Var v0_p.f_Locs),AV.sl 4 (List.map c_api_Thread v0_p.f_Threads),AV.sl 3 (List.map c_api_Claim v0_p.f_Claims)]]) (fun _ a62=>stOf 96 []) (fun _ a62=>[Ob.var 26 [iA v0_p.f_Mod,AV.sl 3 (List.map c_api_Var v0_p.f_Locs),AV.sl 4 (List.map c_api_Thread v0_p.f_Threads),AV.sl 3 (List.map c_api_Claim v0_p.f_Claims)]]) (fun v=>(bA v,[])) (fun k s=>ref04_Light_L3 n v0_p k s) (fun s=>rfl) o56 n 0 (fun _=>0) ho56 ?_ ?_
 intro k49 s48 a50 K51 cont52 hK53 hcont54 h hr55
 replace h:ref04_Light_L3 n v0_p (k49+1) s48=some o56:=h
 rw [ref04_Light_L3] at h
 conv=>lhs;whnf
 revert h
 refine br ?_ ?_
 refine ix ?_;intro x58
 refine ca hc (fun _ h=>ok_ref02_Light h) ?_;intro y59
 refine br ?_ ?_
 exact fun h=>cq (hcont54 (IntKind.i64.wrap (s48+1)) (fun _=>0) h)
 intro h;cases sj h
 refine (hK53 _ _).trans ?_
 refine Eq.trans ?_ (Eq.symm (show _=some _ from hr55))
 conv=>lhs;whnf
 exact rq
 intro h;cases sj h
 exact kq (hr55 (fun _=>0))
 refine lrc ?_ ?_
 intro v e;subst e;cases sj h;rfl
 intro t a62 e;subst e
 dsimp only at h
 conv=>lhs;whnf
 revert h
 exact rz
end Go.Proofs.Ytpnhafdimkmbbaa
end
section
namespace Go.Proofs.Ytpnhafdimkmbbaa
set_option linter.unusedVariables false
set_option linter.unusedSimpArgs false
set_option maxRecDepth 100000
set_option maxHeartbeats 4000000
theorem ok_law05_parsed {n:Nat} ⦃v0_s:(List UInt8)⦄ ⦃r:S_api_Prog⦄:m_law05_parsed n v0_s=some r→CN n 14 [sA v0_s] []=some (AV.agg [iA r.f_Mod,AV.sl 3 (List.map c_api_Var r.f_Locs),AV.sl 4 (List.map c_api_Thread r.f_Threads),AV.sl 3 (List.map c_api_Claim r.f_Claims)],[]):=by
 intro h;rcases n with _|n;cases h
 rw [m_law05_parsed] at h
 refine callN_eq' Try.func14 (by rfl) rfl rfl (Nat.le_of_ble_eq_true rfl) ?_
 intro call hc;conv=>lhs;whnf
 revert h
 refine ca hc (fun _ h=>ok_ref04_Parse h) ?_;intro y1
 exact rz
end Go.Proofs.Ytpnhafdimkmbbaa
end
section
namespace Go.Proofs.Ytpnhafdimkmbbaa
set_option linter.unusedVariables false
set_option linter.unusedSimpArgs false
set_option maxRecDepth 100000
set_option maxHeartbeats 4000000
theorem ok_law05_known {n:Nat} ⦃r:Bool⦄:m_law05_known n=some r→CN n 6 [] []=some (bA r,[]):=by
 intro h;rcases n with _|n;cases h
 rw [m_law05_known] at h
 refine callN_eq' Try.func6 (by rfl) rfl rfl (Nat.le_of_ble_eq_true rfl) ?_
 intro call hc;conv=>lhs;whnf
 revert h
 refine ca hc (fun _ h=>ok_law05_parsed h) ?_;intro y1
 refine ca hc (fun _ h=>ok_legal_Check h) ?_;intro y3
 refine ca hc (fun _ h=>ok_law05_parsed h) ?_;intro y5
 refine ca hc (fun _ h=>ok_legal_Check h) ?_;intro y7
 refine ca hc (fun _ h=>ok_law05_parsed h) ?_;intro y9
 refine ca hc (fun _ h=>ok_legal_Check h) ?_;intro y11
 refine ca hc (fun _ h=>ok_law05_parsed h) ?_;intro y13
 refine ca hc (fun _ h=>ok_legal_Check h) ?_;intro y15
 refine br ?_ ?_
 refine br ?_ ?_
 refine br ?_ ?_
 refine br ?_ ?_
 refine br ?_ ?_
 refine br ?_ ?_
 refine br ?_ ?_
 refine br ?_ ?_
 refine cr hc (fun y25 h=>(show CN n 9 [AV.sl 1 [[sA (([97]:List UInt8))],[sA (([98]:List UInt8))]],sA (([98]:List UInt8))] []=some (iA y25,[]) from ok_legal_Index (r:=y25) h)) ?_;intro y25
 refine br ?_ ?_
 refine cr hc (fun y28 h=>(show CN n 9 [AV.sl 1 [],sA (([98]:List UInt8))] []=some (iA y28,[]) from ok_legal_Index (r:=y28) h)) ?_;intro y28
 refine br ?_ ?_
 refine ca hc (fun _ h=>ok_law05_parsed h) ?_;intro y31
 refine ca hc (fun _ h=>ok_legal_Locs h) ?_;intro y33
 exact rz
 exact rz
 exact rz
 exact rz
 exact rz
 exact rz
 exact rz
 exact rz
 exact rz
 exact rz
 exact rz
end Go.Proofs.Ytpnhafdimkmbbaa
end
section
namespace Go.Proofs.Ytpnhafdimkmbbaa
set_option linter.unusedVariables false
set_option linter.unusedSimpArgs false
set_option maxRecDepth 100000
set_option maxHeartbeats 4000000
theorem ok_law05_LegalMore {n:Nat} ⦃v0_p:S_api_Prog⦄ ⦃v1_n:Int⦄ ⦃r:Bool⦄:m_law05_LegalMore n v0_p v1_n=some r→CN n 4 [AV.agg [iA v0_p.f_Mod,AV.sl 3 (List.map c_api_Var v0_p.f_Locs),AV.sl 4 (List.map c_api_Thread v0_p.f_Threads),AV.sl 3 (List.map c_api_Claim v0_p.f_Claims)],AV.int .u8 v1_n] []=some (bA r,[]):=by
 intro h;rcases n with _|n;cases h
 rw [m_law05_LegalMore] at h
 refine callN_eq' Try.func4 (by rfl) rfl rfl (Nat.le_of_ble_eq_true rfl) ?_
 intro call hc;conv=>lhs;whnf
 revert h
 refine ca hc (fun _ h=>ok_ref04_Light h) ?_;intro y1
 refine br ?_ ?_
 refine ca hc (fun _ h=>ok_legal_Check h) ?_;intro y4
 refine br ?_ ?_
 refine ca hc (fun _ h=>ok_law05_known h) ?_;intro y7
 exact rz
 refine cn ?_
 refine bf ?_
 refine ar (ap c_api_Var (List.map c_api_Var v0_p.f_Locs) v0_p.f_Locs ([[sA (([102,114,101,115,104,95,110,97,109,101]:List UInt8)),iA ((Int.tmod (IntKind.i64.wrap v1_n) v0_p.f_Mod)),iA (7)]]) ([(⟨([102,114,101,115,104,95,110,97,109,101]:List UInt8),(Int.tmod (IntKind.i64.wrap v1_n) v0_p.f_Mod),7⟩:S_api_Var)]:List S_api_Var)) ?_
 refine ca hc (fun _ h=>ok_legal_Locs h) ?_;intro y13
 refine ca hc (fun _ h=>ok_legal_Index h) ?_;intro y15
 intro h;refine bind_some2 h ?_;clear h;intro o26 ho26 h
 refine lq (σ:=(Bool×Int)) (τ:=Bool) (ν:=Bool) 0 (fun (s17,s18) a20=>stOf 89 [(2,AV.ptr 0 0),(7,AV.ptr 1 0),(9,bA s17),(10,iA s18)]) (fun (s17,s18) a20=>[Ob.var 26 [iA v0_p.f_Mod,AV.sl 3 (List.map c_api_Var v0_p.f_Locs),AV.sl 4 (List.map c_api_Thread v0_p.f_Threads),AV.sl 3 (List.map c_api_Claim v0_p.f_Claims)],Ob.var 26 [iA v0_p.f_Mod,AV.row 2 (List.length ((v0_p.f_Locs++([(⟨([102,114,101,115,104,95,110,97,109,101]:List UInt8),(Int.tmod (IntKind.i64.wrap v1_n) v0_p.f_Mod),7⟩:S_api_Var)]:List S_api_Var)))),AV.sl 4 (List.map c_api_Thread v0_p.f_Threads),AV.sl 3 (List.map c_api_Claim v0_p.f_Claims)],Ob.row 37 3 (List.map c_api_Var (v0_p.f_Locs++([(⟨([102,114,101,115,104,95,110,97,109,101]:List UInt8),(Int.tmod (IntKind.i64.wrap v1_n) v0_p.f_Mod),7⟩:S_api_Var)]:List S_api_Var)))]) (fun x33 a32=>stOf 89 [(2,AV.ptr 0 0),(7,AV.ptr 1 0),(9,bA x33)]) (fun x33 a32=>[Ob.var 26 [iA v0_p.f_Mod,AV.sl 3 (List.map c_api_Var v0_p.f_Locs),AV.sl 4 (List.map c_api_Thread v0_p.f_Threads),AV.sl 3 (List.map c_api_Claim v0_p.f_Claims)],Ob.var 26 [iA v0_p.f_Mod,AV.row 2 (List.length ((v0_p.f_Locs++([(⟨([102,114,101,115,104,95,110,97,109,101]:List UInt8),(Int.tmod (IntKind.i64.wrap v1_n) v0_p.f_Mod),7⟩:S_api_Var)]:List S_api_Var)))),AV.sl 4 (List.map c_api_Thread v0_p.f_Threads),AV.sl 3 (List.map c_api_Claim v0_p.f_Claims)],Ob.row 37 3 (List.map c_api_Var (v0_p.f_Locs++([(⟨([102,114,101,115,104,95,110,97,109,101]:List UInt8),(Int.tmod (IntKind.i64.wrap v1_n) v0_p.f_Mod),7⟩:S_api_Var)]:List S_api_Var)))]) (fun v=>(bA v,[])) (fun k s=>law05_LegalMore_L0 n v0_p k s.1 s.2) (fun s=>rfl) o26 n (decide (0≤y15),0) (fun _=>0) ho26 ?_ ?_
 intro k19 ss a20 K21 cont22 hK23 hcont24 h hr25
 obtain ⟨s17,s18⟩:=ss
 replace h:law05_LegalMore_L0 n v0_p (k19+1) s17 s18=some o26:=h
 rw [law05_LegalMore_L0] at h
 conv=>lhs;whnf
 revert h
 refine br ?_ ?_
 refine br ?_ ?_
 exact fun h=>cq (hcont24 (true,IntKind.i64.wrap (s18+1)) (fun _=>0) h)
 refine ix ?_;intro x29
 refine ca hc (fun _ h=>ok_legal_Index h) ?_;intro y30
 exact fun h=>cq (hcont24 (decide (0≤y30),IntKind.i64.wrap (s18+1)) (fun _=>0) h)
 intro h;cases sj h
 exact kq (hr25 (fun _=>0))
 refine lrc ?_ ?_
 intro v e;subst e;cases sj h;rfl
 intro x33 a32 e;subst e
 dsimp only at h
 conv=>lhs;whnf
 revert h
 refine cr hc (fun y34 h=>(show CN n 11 [AV.agg [iA v0_p.f_Mod,AV.sl 3 (List.map c_api_Var ((v0_p.f_Locs++([(⟨([102,114,101,115,104,95,110,97,109,101]:List UInt8),(Int.tmod (IntKind.i64.wrap v1_n) v0_p.f_Mod),7⟩:S_api_Var)]:List S_api_Var)))),AV.sl 4 (List.map c_api_Thread v0_p.f_Threads),AV.sl 3 (List.map c_api_Claim v0_p.f_Claims)]] []=some (AV.tup [iA y34.1,iA y34.2],[]) from ok_legal_Check (r:=y34) h)) ?_;intro y34
 refine br ?_ ?_
 refine br ?_ ?_
 refine br ?_ ?_
 refine ca hc (fun _ h=>ok_law05_known h) ?_;intro y39
 exact rz
 exact rz
 exact rz
 refine br ?_ ?_
 refine ca hc (fun _ h=>ok_law05_known h) ?_;intro y42
 exact rz
 exact rz
 refine ca hc (fun _ h=>ok_law05_known h) ?_;intro y45
 exact rz
end Go.Proofs.Ytpnhafdimkmbbaa
end
