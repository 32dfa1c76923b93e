/- Parts of the proofs: what they lean on. Conditions: none. -/
import Derived.Test.YtgelgahilfojdaaGreatGenLegalP2
section
namespace Go.Proofs.YtgelgahilfojdaaGreat
set_option linter.unusedVariables false
set_option linter.unusedSimpArgs false
set_option maxRecDepth 100000
set_option maxHeartbeats 4000000
theorem ok_ref04_state_fault {n:Nat} ⦃v1_e:Int⦄ ⦃v2_at:Int⦄ ⦃s_l:(List S_api_Token)⦄ ⦃s_i:Int⦄ ⦃s_e:Int⦄ ⦃s_at:Int⦄ ⦃r:(Int×Int)⦄:m_ref04_state_fault n v1_e v2_at s_l s_i s_e s_at=some r→CN n 63 [AV.ptr 0 0,iA v1_e,iA v2_at] [Ob.var 65 [AV.sl 4 (List.map c_api_Token s_l),iA s_i,iA s_e,iA s_at]]=some (AV.tup [],[Ob.var 65 [AV.sl 4 (List.map c_api_Token s_l),iA s_i,iA r.1,iA r.2]]):=by
 intro h;rcases n with _|n;cases h
 rw [m_ref04_state_fault] at h
 refine callN_eq' Tryz.func63 (by rfl) rfl rfl (Nat.le_of_ble_eq_true rfl) ?_
 intro call hc;conv=>lhs;whnf
 revert h
 refine br ?_ ?_
 refine br ?_ ?_
 exact rz
 exact rz
 exact rz
theorem ok_ref04_state_wrong {n:Nat} ⦃s_l:(List S_api_Token)⦄ ⦃s_i:Int⦄ ⦃s_e:Int⦄ ⦃s_at:Int⦄ ⦃r:(Int×Int)⦄:m_ref04_state_wrong n s_l s_i s_e s_at=some r→CN n 27 [AV.ptr 0 0] [Ob.var 65 [AV.sl 4 (List.map c_api_Token s_l),iA s_i,iA s_e,iA s_at]]=some (AV.tup [],[Ob.var 65 [AV.sl 4 (List.map c_api_Token s_l),iA s_i,iA r.1,iA r.2]]):=by
 intro h;rcases n with _|n;cases h
 rw [m_ref04_state_wrong] at h
 refine callN_eq' Tryz.func27 (by rfl) rfl rfl (Nat.le_of_ble_eq_true rfl) ?_
 intro call hc;conv=>lhs;whnf
 revert h
 refine br ?_ ?_
 refine ca hc (fun _ h=>ok_ref03_Wrong h) ?_;intro y2
 exact rz
 exact rz
theorem ok_ref04_state_sign {n:Nat} ⦃v1_w:(List UInt8)⦄ ⦃s_l:(List S_api_Token)⦄ ⦃s_i:Int⦄ ⦃s_e:Int⦄ ⦃s_at:Int⦄ ⦃r:(Int×Int×Int)⦄:m_ref04_state_sign n v1_w s_l s_i s_e s_at=some r→CN n 29 [AV.ptr 0 0,sA v1_w] [Ob.var 65 [AV.sl 4 (List.map c_api_Token s_l),iA s_i,iA s_e,iA s_at]]=some (AV.tup [],[Ob.var 65 [AV.sl 4 (List.map c_api_Token s_l),iA r.1,iA r.2.1,iA r.2.2]]):=by
 intro h;rcases n with _|n;cases h
 rw [m_ref04_state_sign] at h
 refine callN_eq' Tryz.func29 (by rfl) rfl rfl (Nat.le_of_ble_eq_true rfl) ?_
 intro call hc;conv=>lhs;whnf
 revert h
 refine br ?_ ?_
 refine ca hc (fun _ h=>ok_ref02_Is h) ?_;intro y2
 refine br ?_ ?_
 exact rz
 refine ca hc (fun _ h=>ok_ref04_state_wrong h) ?_;intro y5
 exact rz
 refine ca hc (fun _ h=>ok_ref04_state_wrong h) ?_;intro y7
 exact rz
theorem ok_ref04_state_claim {n:Nat} ⦃v1_kind:Int⦄ ⦃s_l:(List S_api_Token)⦄ ⦃s_i:Int⦄ ⦃s_e:Int⦄ ⦃s_at:Int⦄ ⦃r:(S_api_Claim×Int×Int×Int)⦄:m_ref04_state_claim n v1_kind s_l s_i s_e s_at=some r→CN n 33 [AV.ptr 0 0,iA v1_kind] [Ob.var 65 [AV.sl 4 (List.map c_api_Token s_l),iA s_i,iA s_e,iA s_at]]=some (AV.agg [iA r.1.f_Kind,AV.sl 5 (List.map c_api_Node r.1.f_E),iA r.1.f_At],[Ob.var 65 [AV.sl 4 (List.map c_api_Token s_l),iA r.2.1,iA r.2.2.1,iA r.2.2.2]]):=by
 intro h;rcases n with _|n;cases h
 rw [m_ref04_state_claim] at h
 refine callN_eq' Tryz.func33 (by rfl) rfl rfl (Nat.le_of_ble_eq_true rfl) ?_
 intro call hc;conv=>lhs;whnf
 revert h
 refine ix ?_;intro x1
 refine tw hc (fun _ h=>ok_ref02_Parse h) (fun _ h=>adoCall_thaw (p:=[1,1,2,2,1]) (q:=[1,2,1,1]) h Tryz.func64 (by kernel_rfl) (by kernel_rfl) (by kernel_rfl) (by kernel_rfl) (by rfl) (kinds_map (by exact fun _=>rfl) _) (kinds_map (by exact fun _=>rfl) _)) ?_;intro y2
 refine nb ?_ ?_
 refine ca hc (fun _ h=>ok_ref04_state_fault h) ?_;intro y4
 intro h;refine bind_some2 h ?_;clear h;intro o13 ho13 h
 refine lq (σ:=Unit) (τ:=Unit) (ν:=(S_api_Claim×Int×Int×Int)) 0 (fun _ a7=>stOf 79 [(0,AV.ptr 0 0),(4,AV.ptr 1 0),(5,AV.ptr 2 0),(6,AV.sl 5 []),(7,iA y2.2.1),(10,iA (0))]) (fun _ a7=>[Ob.var 65 [AV.sl 4 (List.map c_api_Token s_l),iA (IntKind.i64.wrap (s_i+1)),iA y4.1,iA y4.2],Ob.var 57 [iA (0),AV.nils,iA (0)],Ob.var 57 [iA v1_kind,AV.nils,iA x1.f_At]]) (fun _ a14=>stOf 79 [(0,AV.ptr 0 0),(4,AV.ptr 1 0),(5,AV.ptr 2 0),(6,AV.sl 5 []),(7,iA y2.2.1)]) (fun _ a14=>[Ob.var 65 [AV.sl 4 (List.map c_api_Token s_l),iA (IntKind.i64.wrap (s_i+1)),iA y4.1,iA y4.2],Ob.var 57 [iA (0),AV.nils,iA (0)],Ob.var 57 [iA v1_kind,AV.nils,iA x1.f_At]]) (fun v=>(AV.agg [iA v.1.f_Kind,AV.sl 5 (List.map c_api_Node v.1.f_E),iA v.1.f_At],[Ob.var 65 [AV.sl 4 (List.map c_api_Token s_l),iA v.2.1,iA v.2.2.1,iA v.2.2.2]])) (fun k s=>ref04_state_claim_L0 n k) (fun s=>rfl) o13 n () (fun _=>0) ho13 ?_ ?_
 intro k6 ss a7 K8 cont9 hK10 hcont11 h hr12
 replace h:ref04_state_claim_L0 n (k6+1)=some o13:=h
 rw [ref04_state_claim_L0] at h
 conv=>lhs;whnf
 revert h
 intro h;cases sj h
 exact kq (hr12 (fun _=>0))
 refine lrc ?_ ?_
 intro v e;subst e;cases sj h;rfl
 intro t a14 e;subst e
 dsimp only at h
 conv=>lhs;whnf
 revert h
 refine br ?_ ?_
 refine ca hc (fun _ h=>ok_ref04_state_sign h) ?_;intro y16
 exact rz
 refine ca hc (fun _ h=>ok_ref04_state_sign h) ?_;intro y18
 exact rz
 refine ca hc (fun _ h=>ok_ref04_state_fault h) ?_;intro y21
 intro h;refine bind_some2 h ?_;clear h;intro o32 ho32 h
 refine lq (σ:=(Int×(List S_api_Node))) (τ:=(List S_api_Node)) (ν:=(S_api_Claim×Int×Int×Int)) 0 (fun (s23,s24) a26=>stOf 79 [(0,AV.ptr 0 0),(4,AV.ptr 1 0),(5,AV.ptr 2 0),(6,AV.own 3 0 (List.length s24)),(7,iA y2.2.1),(10,iA s23)]) (fun (s23,s24) a26=>[Ob.var 65 [AV.sl 4 (List.map c_api_Token s_l),iA (IntKind.i64.wrap (s_i+1)),iA y21.1,iA y21.2],Ob.var 57 [iA (0),AV.nils,iA (0)],Ob.var 57 [iA v1_kind,AV.nils,iA x1.f_At],Ob.arr 5 (List.map c_api_Node s24)]) (fun x39 a38=>stOf 79 [(0,AV.ptr 0 0),(4,AV.ptr 1 0),(5,AV.ptr 2 0),(6,AV.own 3 0 (List.length x39)),(7,iA y2.2.1)]) (fun x39 a38=>[Ob.var 65 [AV.sl 4 (List.map c_api_Token s_l),iA (IntKind.i64.wrap (s_i+1)),iA y21.1,iA y21.2],Ob.var 57 [iA (0),AV.nils,iA (0)],Ob.var 57 [iA v1_kind,AV.nils,iA x1.f_At],Ob.arr 5 (List.map c_api_Node x39)]) (fun v=>(AV.agg [iA v.1.f_Kind,AV.sl 5 (List.map c_api_Node v.1.f_E),iA v.1.f_At],[Ob.var 65 [AV.sl 4 (List.map c_api_Token s_l),iA v.2.1,iA v.2.2.1,iA v.2.2.2]])) (fun k s=>ref04_state_claim_L1 n k s.1 s.2) (fun s=>rfl) o32 n (0,y2.1) (fun _=>0) ho32 ?_ ?_
 intro k25 ss a26 K27 cont28 hK29 hcont30 h hr31
 obtain ⟨s23,s24⟩:=ss
 replace h:ref04_state_claim_L1 n (k25+1) s23 s24=some o32:=h
 rw [ref04_state_claim_L1] at h
 conv=>lhs;whnf
 revert h
 refine br ?_ ?_
 intro h
 refine bind_some2 h ?_;clear h;intro x34 hx34 h
 try simp only [ls]
 refine bif_pos (by first|exact idx_in hx34|exact idx_in' hx34|exact own_in hx34|exact own_in' hx34|(have q:=idx_in hx34;simp only [List.length_set] at q;exact q)|(have q:=own_in' hx34;simp only [List.length_set,Nat.zero_add] at q ⊢;exact q)) ?_
 conv=>lhs;whnf
 try simp only [Nat.zero_add,idx_nth (f:=c_api_Node) hx34,dec_self,ls]
 conv=>lhs;whnf
 revert h
 refine br ?_ ?_
 intro h
 refine bind_some2 h ?_;clear h;intro x36 hx36 h
 try simp only [ls]
 refine bif_pos (by first|exact idx_in hx36|exact idx_in' hx36|exact own_in hx36|exact own_in' hx36|(have q:=idx_in hx36;simp only [List.length_set] at q;exact q)|(have q:=own_in' hx36;simp only [List.length_set,Nat.zero_add] at q ⊢;exact q)) ?_
 conv=>lhs;whnf
 try simp only [Nat.zero_add,idx_nth (f:=c_api_Node) hx36,dec_self,ls]
 conv=>lhs;whnf
 revert h
 intro h
 have hs37:setNth (List.map c_api_Node s24) s23.toNat [iA (3),iA x36.f_N,sA x36.f_Name,sA x36.f_In,iA x36.f_At]=List.map c_api_Node (List.set s24 s23.toNat (⟨3,x36.f_N,x36.f_Name,x36.f_In,x36.f_At⟩:S_api_Node)):=by rw [setNth_eq,List.map_set];rfl
 have hs37_u:setNth (List.map c_api_Node s24) s23.toNat (updL (c_api_Node x36) 0 [iA (3)])=List.map c_api_Node (List.set s24 s23.toNat (⟨3,x36.f_N,x36.f_Name,x36.f_In,x36.f_At⟩:S_api_Node)):=by rw [setNth_eq,List.map_set];rfl
 try simp only [Nat.zero_add,idx_nth (f:=c_api_Node) hx36]
 conv=>lhs;whnf
 try simp only [hs37,hs37_u]
 conv=>lhs;whnf
 revert h
 exact fun h=>cq (hcont30 (IntKind.i64.wrap (s23+1),(List.set s24 s23.toNat (⟨3,x36.f_N,x36.f_Name,x36.f_In,x36.f_At⟩:S_api_Node))) (fun _=>0) h)
 exact fun h=>cq (hcont30 (IntKind.i64.wrap (s23+1),s24) (fun _=>0) h)
 intro h;cases sj h
 exact kq (hr31 (fun _=>0))
 refine lrc ?_ ?_
 intro v e;subst e;cases sj h;rfl
 intro x39 a38 e;subst e
 dsimp only at h
 conv=>lhs;whnf
 revert h
 refine br ?_ ?_
 refine ca hc (fun _ h=>ok_ref04_state_sign h) ?_;intro y41
 intro h;cases sj h
 try simp only [ls]
 exact fq (y:=some (AV.agg [iA v1_kind,AV.sl 5 (List.take (List.length x39) (List.drop 0 (List.map c_api_Node x39))),iA x1.f_At],[Ob.var 65 [AV.sl 4 (List.map c_api_Token s_l),iA y41.1,iA y41.2.1,iA y41.2.2]]))
 refine ca hc (fun _ h=>ok_ref04_state_sign h) ?_;intro y43
 intro h;cases sj h
 try simp only [ls]
 exact fq (y:=some (AV.agg [iA v1_kind,AV.sl 5 (List.take (List.length x39) (List.drop 0 (List.map c_api_Node x39))),iA x1.f_At],[Ob.var 65 [AV.sl 4 (List.map c_api_Token s_l),iA y43.1,iA y43.2.1,iA y43.2.2]]))
theorem ok_ref04_state_key {n:Nat} ⦃v1_w:(List UInt8)⦄ ⦃s_l:(List S_api_Token)⦄ ⦃s_i:Int⦄ ⦃s_e:Int⦄ ⦃s_at:Int⦄ ⦃r:Bool⦄:m_ref04_state_key n v1_w s_l s_i s_e s_at=some r→CN n 26 [AV.ptr 0 0,sA v1_w] [Ob.var 65 [AV.sl 4 (List.map c_api_Token s_l),iA s_i,iA s_e,iA s_at]]=some (bA r,[Ob.var 65 [AV.sl 4 (List.map c_api_Token s_l),iA s_i,iA s_e,iA s_at]]):=by
 intro h;rcases n with _|n;cases h
 rw [m_ref04_state_key] at h
 refine callN_eq' Tryz.func26 (by rfl) rfl rfl (Nat.le_of_ble_eq_true rfl) ?_
 intro call hc;conv=>lhs;whnf
 revert h
 refine br ?_ ?_
 refine br ?_ ?_
 refine ix ?_;intro x3
 refine br ?_ ?_
 refine ix ?_;intro x5
 exact rz
 exact rz
 exact rz
 exact rz
theorem ok_ref04_word {n:Nat} ⦃v0_kind:Int⦄ ⦃r:(List UInt8)⦄:m_ref04_word n v0_kind=some r→CN n 42 [iA v0_kind] []=some (sA r,[]):=by
 intro h;rcases n with _|n;cases h
 rw [m_ref04_word] at h
 refine callN_eq' Tryz.func42 (by rfl) rfl rfl (Nat.le_of_ble_eq_true rfl) ?_
 intro call hc;conv=>lhs;whnf
 revert h
 intro h
 refine bind_some2 h ?_;clear h;intro x1 hx1 h
 refine bif_pos (by first|exact idx_in hx1|(have q:=idx_in hx1;exact q)) ?_
 simp only [(show nth? ([[sA (([]:List UInt8))],[sA (([102,111,114,97,108,108]:List UInt8))],[sA (([101,120,105,115,116,115]:List UInt8))],[sA (([97,108,119,97,121,115]:List UInt8))]]:List (List AV)) v0_kind.toNat=some (encS x1) from idx_nth (f:=encS) hx1),ls]
 conv=>lhs;whnf
 revert h
 exact rz
theorem ok_ref04_state_kind {n:Nat} ⦃s_l:(List S_api_Token)⦄ ⦃s_i:Int⦄ ⦃s_e:Int⦄ ⦃s_at:Int⦄ ⦃r:Int⦄:m_ref04_state_kind n s_l s_i s_e s_at=some r→CN n 32 [AV.ptr 0 0] [Ob.var 65 [AV.sl 4 (List.map c_api_Token s_l),iA s_i,iA s_e,iA s_at]]=some (iA r,[Ob.var 65 [AV.sl 4 (List.map c_api_Token s_l),iA s_i,iA s_e,iA s_at]]):=by
 intro h;rcases n with _|n;cases h
 rw [m_ref04_state_kind] at h
 refine callN_eq' Tryz.func32 (by rfl) rfl rfl (Nat.le_of_ble_eq_true rfl) ?_
 intro call hc;conv=>lhs;whnf
 revert h
 intro h;refine bind_some2 h ?_;clear h;intro o9 ho9 h
 refine lq (σ:=Int) (τ:=Unit) (ν:=Int) 0 (fun s1 a3=>stOf 13 [(0,AV.ptr 0 0),(3,iA s1)]) (fun s1 a3=>[Ob.var 65 [AV.sl 4 (List.map c_api_Token s_l),iA s_i,iA s_e,iA s_at]]) (fun _ a16=>stOf 13 []) (fun _ a16=>[Ob.var 65 [AV.sl 4 (List.map c_api_Token s_l),iA s_i,iA s_e,iA s_at]]) (fun v=>(iA v,[Ob.var 65 [AV.sl 4 (List.map c_api_Token s_l),iA s_i,iA s_e,iA s_at]])) (fun k s=>ref04_state_kind_L0 n s_l s_i s_e s_at k s) (fun s=>rfl) o9 n 1 (fun _=>0) ho9 ?_ ?_
 intro k2 s1 a3 K4 cont5 hK6 hcont7 h hr8
 replace h:ref04_state_kind_L0 n s_l s_i s_e s_at (k2+1) s1=some o9:=h
 rw [ref04_state_kind_L0] at h
 conv=>lhs;whnf
 revert h
 refine br ?_ ?_
 refine ca hc (fun _ h=>ok_ref04_word h) ?_;intro y11
 refine ca hc (fun _ h=>ok_ref04_state_key h) ?_;intro y13
 refine br ?_ ?_
 intro h;cases sj h
 refine (hK6 _ _).trans ?_
 refine Eq.trans ?_ (Eq.symm (show _=some _ from hr8))
 conv=>lhs;whnf
 exact rq
 exact fun h=>cq (hcont7 (IntKind.i64.wrap (s1+1)) (fun _=>0) h)
 intro h;cases sj h
 exact kq (hr8 (fun _=>0))
 refine lrc ?_ ?_
 intro v e;subst e;cases sj h;rfl
 intro t a16 e;subst e
 dsimp only at h
 conv=>lhs;whnf
 revert h
 exact rz
theorem ok_ref04_state_name {n:Nat} ⦃s_l:(List S_api_Token)⦄ ⦃s_i:Int⦄ ⦃s_e:Int⦄ ⦃s_at:Int⦄ ⦃r:((List UInt8)×Int×Int×Int)⦄:m_ref04_state_name n s_l s_i s_e s_at=some r→CN n 30 [AV.ptr 0 0] [Ob.var 65 [AV.sl 4 (List.map c_api_Token s_l),iA s_i,iA s_e,iA s_at]]=some (sA r.1,[Ob.var 65 [AV.sl 4 (List.map c_api_Token s_l),iA r.2.1,iA r.2.2.1,iA r.2.2.2]]):=by
 intro h;rcases n with _|n;cases h
 rw [m_ref04_state_name] at h
 refine callN_eq' Tryz.func30 (by rfl) rfl rfl (Nat.le_of_ble_eq_true rfl) ?_
 intro call hc;conv=>lhs;whnf
 revert h
 refine br ?_ ?_
 refine ca hc (fun _ h=>ok_ref03_Name h) ?_;intro y2
 refine br ?_ ?_
 refine ix ?_;intro x5
 exact rz
 refine ca hc (fun _ h=>ok_ref04_state_wrong h) ?_;intro y6
 exact rz
 refine ca hc (fun _ h=>ok_ref04_state_wrong h) ?_;intro y8
 exact rz
theorem ok_ref04_state_number {n:Nat} ⦃s_l:(List S_api_Token)⦄ ⦃s_i:Int⦄ ⦃s_e:Int⦄ ⦃s_at:Int⦄ ⦃r:(Int×Int×Int×Int)⦄:m_ref04_state_number n s_l s_i s_e s_at=some r→CN n 28 [AV.ptr 0 0] [Ob.var 65 [AV.sl 4 (List.map c_api_Token s_l),iA s_i,iA s_e,iA s_at]]=some (iA r.1,[Ob.var 65 [AV.sl 4 (List.map c_api_Token s_l),iA r.2.1,iA r.2.2.1,iA r.2.2.2]]):=by
 intro h;rcases n with _|n;cases h
 rw [m_ref04_state_number] at h
 refine callN_eq' Tryz.func28 (by rfl) rfl rfl (Nat.le_of_ble_eq_true rfl) ?_
 intro call hc;conv=>lhs;whnf
 revert h
 refine br ?_ ?_
 refine br ?_ ?_
 refine ix ?_;intro x3
 refine br ?_ ?_
 refine ix ?_;intro x5
 exact rz
 refine ca hc (fun _ h=>ok_ref04_state_wrong h) ?_;intro y6
 exact rz
 refine ca hc (fun _ h=>ok_ref04_state_wrong h) ?_;intro y8
 exact rz
 refine ca hc (fun _ h=>ok_ref04_state_wrong h) ?_;intro y10
 exact rz
theorem ok_ref04_state_thread {n:Nat} ⦃s_l:(List S_api_Token)⦄ ⦃s_i:Int⦄ ⦃s_e:Int⦄ ⦃s_at:Int⦄ ⦃r:(S_api_Thread×Int×Int×Int)⦄:m_ref04_state_thread n s_l s_i s_e s_at=some r→CN n 31 [AV.ptr 0 0] [Ob.var 65 [AV.sl 4 (List.map c_api_Token s_l),iA s_i,iA s_e,iA s_at]]=some (AV.agg [sA r.1.f_Name,AV.sl 1 (List.map encS r.1.f_Regs),AV.sl 9 (List.map c_api_Stmt r.1.f_Body),iA r.1.f_At],[Ob.var 65 [AV.sl 4 (List.map c_api_Token s_l),iA r.2.1,iA r.2.2.1,iA r.2.2.2]]):=by
 intro h;rcases n with _|n;cases h
 rw [m_ref04_state_thread] at h
 refine callN_eq' Tryz.func31 (by rfl) rfl rfl (Nat.le_of_ble_eq_true rfl) ?_
 intro call hc;conv=>lhs;whnf
 revert h
 refine ix ?_;intro x1
 refine ca hc (fun _ h=>ok_ref04_state_name h) ?_;intro y2
 refine ca hc (fun _ h=>ok_ref04_state_sign h) ?_;intro y4
 refine ca hc (fun _ h=>ok_ref04_state_key h) ?_;intro y6
 refine br ?_ ?_
 refine ca hc (fun _ h=>ok_ref04_state_name h) ?_;intro y9
 intro h;refine bind_some2 h ?_;clear h;intro o22 ho22 h
 refine lq (σ:=(Int×Int×Int×(List (List UInt8)))) (τ:=(Int×Int×Int×(List (List UInt8)))) (ν:=(S_api_Thread×Int×Int×Int)) 0 (fun (s11,s12,s13,s14) a16=>stOf 112 [(0,AV.ptr 0 0),(2,AV.ptr 1 0),(3,AV.ptr 2 0)]) (fun (s11,s12,s13,s14) a16=>[Ob.var 65 [AV.sl 4 (List.map c_api_Token s_l),iA s11,iA s12,iA s13],Ob.var 52 [sA (([]:List UInt8)),AV.nils,AV.nils,iA (0)],Ob.var 52 [sA y2.1,AV.row 3 (List.length s14),AV.nils,iA x1.f_At],Ob.row 9 1 (List.map encS s14)]) (fun (x32,x33,x34,x35) a31=>stOf 112 [(0,AV.ptr 0 0),(2,AV.ptr 1 0),(3,AV.ptr 2 0)]) (fun (x32,x33,x34,x35) a31=>[Ob.var 65 [AV.sl 4 (List.map c_api_Token s_l),iA x32,iA x33,iA x34],Ob.var 52 [sA (([]:List UInt8)),AV.nils,AV.nils,iA (0)],Ob.var 52 [sA y2.1,AV.row 3 (List.length x35),AV.nils,iA x1.f_At],Ob.row 9 1 (List.map encS x35)]) (fun v=>(AV.agg [sA v.1.f_Name,AV.sl 1 (List.map encS v.1.f_Regs),AV.sl 9 (List.map c_api_Stmt v.1.f_Body),iA v.1.f_At],[Ob.var 65 [AV.sl 4 (List.map c_api_Token s_l),iA v.2.1,iA v.2.2.1,iA v.2.2.2]])) (fun k s=>ref04_state_thread_L0 n s_l k s.1 s.2.1 s.2.2.1 s.2.2.2) (fun s=>rfl) o22 n (y9.2.1,y9.2.2.1,y9.2.2.2,([y9.1]:List (List UInt8))) (fun _=>0) ho22 ?_ ?_
 intro k15 ss a16 K17 cont18 hK19 hcont20 h hr21
 obtain ⟨s11,s12,s13,s14⟩:=ss
 replace h:ref04_state_thread_L0 n s_l (k15+1) s11 s12 s13 s14=some o22:=h
 rw [ref04_state_thread_L0] at h
 conv=>lhs;whnf
 revert h
 refine br ?_ ?_
 refine ca hc (fun _ h=>ok_ref02_Is h) ?_;intro y24
 refine br ?_ ?_
 refine ca hc (fun _ h=>ok_ref04_state_name h) ?_;intro y27
 refine ar (ap encS (List.map encS s14) s14 ([[sA y27.1]]) ([y27.1]:List (List UInt8))) ?_
 exact fun h=>cq (hcont20 (y27.2.1,y27.2.2.1,y27.2.2.2,(s14++([y27.1]:List (List UInt8)))) (fun _=>0) h)
 intro h;cases sj h
 exact kq (hr21 (fun _=>0))
 intro h;cases sj h
 exact kq (hr21 (fun _=>0))
 refine lrc ?_ ?_
 intro v e;subst e;cases sj h;rfl
 intro t a31 e;subst e
 obtain ⟨x32,x33,x34,x35⟩:=t
 dsimp only at h
 conv=>lhs;whnf
 revert h
 refine ca hc (fun _ h=>ok_ref04_state_sign h) ?_;intro y36
 refine br ?_ ?_
 refine ca hc (fun _ h=>ok_ref03_Parse h) ?_;intro y39
 refine ca hc (fun _ h=>ok_ref04_state_fault h) ?_;intro y41
 refine ca hc (fun _ h=>ok_ref04_state_sign h) ?_;intro y43
 intro h;cases sj h
 try simp only [ls]
 exact fq (y:=some (AV.agg [sA y2.1,AV.sl 1 (List.take (List.length x35) (List.map encS x35)),AV.sl 9 (List.map c_api_Stmt y39.1),iA x1.f_At],[Ob.var 65 [AV.sl 4 (List.map c_api_Token s_l),iA y43.1,iA y43.2.1,iA y43.2.2]]))
 refine ca hc (fun _ h=>ok_ref04_state_sign h) ?_;intro y45
 intro h;cases sj h
 try simp only [ls]
 exact fq (y:=some (AV.agg [sA y2.1,AV.sl 1 (List.take (List.length x35) (List.map encS x35)),AV.sl 9 [],iA x1.f_At],[Ob.var 65 [AV.sl 4 (List.map c_api_Token s_l),iA y45.1,iA y45.2.1,iA y45.2.2]]))
 refine br ?_ ?_
 refine ca hc (fun _ h=>ok_ref03_Parse h) ?_;intro y49
 refine ca hc (fun _ h=>ok_ref04_state_fault h) ?_;intro y51
 refine ca hc (fun _ h=>ok_ref04_state_sign h) ?_;intro y53
 exact rz
 refine ca hc (fun _ h=>ok_ref04_state_sign h) ?_;intro y55
 exact rz
theorem ok_ref04_Parse {n:Nat} ⦃v0_text:(List UInt8)⦄ ⦃r:(S_api_Prog×Int×Int)⦄:m_ref04_Parse n v0_text=some r→CN n 7 [sA v0_text] []=some (AV.tup [AV.agg [iA r.1.f_Mod,AV.sl 3 (List.map c_api_Var r.1.f_Locs),AV.sl 4 (List.map c_api_Thread r.1.f_Threads),AV.sl 3 (List.map c_api_Claim r.1.f_Claims)],iA r.2.1,iA r.2.2],[]):=by
 intro h;rcases n with _|n;cases h
 rw [m_ref04_Parse] at h
 refine callN_eq' Tryz.func7 (by rfl) rfl rfl (Nat.le_of_ble_eq_true rfl) ?_
 intro call hc;conv=>lhs;whnf
 revert h
 refine ca hc (fun _ h=>ok_ref01_Scan h) ?_;intro y1
 refine br ?_ ?_
 exact rz
 refine ca hc (fun _ h=>ok_ref04_state_key h) ?_;intro y4
 refine br ?_ ?_
 refine ca hc (fun _ h=>ok_ref04_state_number h) ?_;intro y7
 refine ca hc (fun _ h=>ok_ref04_state_sign h) ?_;intro y9
 intro h;refine bind_some2 h ?_;clear h;intro o22 ho22 h
 refine lq (σ:=(Int×Int×Int×(List S_api_Var))) (τ:=(Int×Int×Int×(List S_api_Var))) (ν:=(S_api_Prog×Int×Int)) 0 (fun (s11,s12,s13,s14) a16=>stOf 125 [(2,AV.ptr 0 0),(5,AV.sl 4 (List.map c_api_Token y1.1)),(8,AV.ptr 1 0),(9,AV.ptr 2 0)]) (fun (s11,s12,s13,s14) a16=>[Ob.var 26 [iA (0),AV.row 3 (List.length (([]:List S_api_Var))),AV.row 4 (List.length (([]:List S_api_Thread))),AV.row 5 (List.length (([]:List S_api_Claim)))],Ob.var 65 [AV.sl 4 (List.map c_api_Token y1.1),iA s11,iA s12,iA s13],Ob.var 26 [iA y7.1,AV.row 6 (List.length s14),AV.row 7 (List.length (([]:List S_api_Thread))),AV.row 8 (List.length (([]:List S_api_Claim)))],Ob.row 48 3 ([]),Ob.row 52 4 ([]),Ob.row 57 3 ([]),Ob.row 48 3 (List.map c_api_Var s14),Ob.row 52 4 ([]),Ob.row 57 3 ([])]) (fun (x38,x39,x40,x41) a37=>stOf 125 [(2,AV.ptr 0 0),(5,AV.sl 4 (List.map c_api_Token y1.1)),(8,AV.ptr 1 0),(9,AV.ptr 2 0)]) (fun (x38,x39,x40,x41) a37=>[Ob.var 26 [iA (0),AV.row 3 (List.length (([]:List S_api_Var))),AV.row 4 (List.length (([]:List S_api_Thread))),AV.row 5 (List.length (([]:List S_api_Claim)))],Ob.var 65 [AV.sl 4 (List.map c_api_Token y1.1),iA x38,iA x39,iA x40],Ob.var 26 [iA y7.1,AV.row 6 (List.length x41),AV.row 7 (List.length (([]:List S_api_Thread))),AV.row 8 (List.length (([]:List S_api_Claim)))],Ob.row 48 3 ([]),Ob.row 52 4 ([]),Ob.row 57 3 ([]),Ob.row 48 3 (List.map c_api_Var x41),Ob.row 52 4 ([]),Ob.row 57 3 ([])]) (fun v=>(AV.tup [AV.agg [iA v.1.f_Mod,AV.sl 3 (List.map c_api_Var v.1.f_Locs),AV.sl 4 (List.map c_api_Thread v.1.f_Threads),AV.sl 3 (List.map c_api_Claim v.1.f_Claims)],iA v.2.1,iA v.2.2],[])) (fun k s=>ref04_Parse_L0 n y1 k s.1 s.2.1 s.2.2.1 s.2.2.2) (fun s=>rfl) o22 n (y9.1,y9.2.1,y9.2.2,([]:List S_api_Var)) (fun _=>0) ho22 ?_ ?_
 intro k15 ss a16 K17 cont18 hK19 hcont20 h hr21
 obtain ⟨s11,s12,s13,s14⟩:=ss
 replace h:ref04_Parse_L0 n y1 (k15+1) s11 s12 s13 s14=some o22:=h
 rw [ref04_Parse_L0] at h
 conv=>lhs;whnf
 revert h
 refine ca hc (fun _ h=>ok_ref04_state_key h) ?_;intro y23
 refine br ?_ ?_
 refine ix ?_;intro x26
 refine ca hc (fun _ h=>ok_ref04_state_name h) ?_;intro y27
 refine ca hc (fun _ h=>ok_ref04_state_sign h) ?_;intro y29
 refine ca hc (fun _ h=>ok_ref04_state_number h) ?_;intro y31
 refine ca hc (fun _ h=>ok_ref04_state_sign h) ?_;intro y33
 refine ar (ap c_api_Var (List.map c_api_Var s14) s14 ([[sA y27.1,iA y31.1,iA x26.f_At]]) ([(⟨y27.1,y31.1,x26.f_At⟩:S_api_Var)]:List S_api_Var)) ?_
 exact fun h=>cq (hcont20 (y33.1,y33.2.1,y33.2.2,(s14++([(⟨y27.1,y31.1,x26.f_At⟩:S_api_Var)]:List S_api_Var))) (fun _=>0) h)
 intro h;cases sj h
 exact kq (hr21 (fun _=>0))
 refine lrc ?_ ?_
 intro v e;subst e;cases sj h;rfl
 intro t a37 e;subst e
 obtain ⟨x38,x39,x40,x41⟩:=t
 dsimp only at h
 conv=>lhs;whnf
 revert h
 intro h;refine bind_some2 h ?_;clear h;intro o53 ho53 h
 refine lq (σ:=(Int×Int×Int×(List S_api_Thread))) (τ:=(Int×Int×Int×(List S_api_Thread))) (ν:=(S_api_Prog×Int×Int)) 2 (fun (s42,s43,s44,s45) a47=>stOf 125 [(2,AV.ptr 0 0),(5,AV.sl 4 (List.map c_api_Token y1.1)),(8,AV.ptr 1 0),(9,AV.ptr 2 0)]) (fun (s42,s43,s44,s45) a47=>[Ob.var 26 [iA (0),AV.row 3 (List.length (([]:List S_api_Var))),AV.row 4 (List.length (([]:List S_api_Thread))),AV.row 5 (List.length (([]:List S_api_Claim)))],Ob.var 65 [AV.sl 4 (List.map c_api_Token y1.1),iA s42,iA s43,iA s44],Ob.var 26 [iA y7.1,AV.row 6 (List.length x41),AV.row 7 (List.length s45),AV.row 8 (List.length (([]:List S_api_Claim)))],Ob.row 48 3 ([]),Ob.row 52 4 ([]),Ob.row 57 3 ([]),Ob.row 48 3 (List.map c_api_Var x41),Ob.row 52 4 (List.map c_api_Thread s45),Ob.row 57 3 ([])]) (fun (x62,x63,x64,x65) a61=>stOf 125 [(2,AV.ptr 0 0),(5,AV.sl 4 (List.map c_api_Token y1.1)),(8,AV.ptr 1 0),(9,AV.ptr 2 0)]) (fun (x62,x63,x64,x65) a61=>[Ob.var 26 [iA (0),AV.row 3 (List.length (([]:List S_api_Var))),AV.row 4 (List.length (([]:List S_api_Thread))),AV.row 5 (List.length (([]:List S_api_Claim)))],Ob.var 65 [AV.sl 4 (List.map c_api_Token y1.1),iA x62,iA x63,iA x64],Ob.var 26 [iA y7.1,AV.row 6 (List.length x41),AV.row 7 (List.length x65),AV.row 8 (List.length (([]:List S_api_Claim)))],Ob.row 48 3 ([]),Ob.row 52 4 ([]),Ob.row 57 3 ([]),Ob.row 48 3 (List.map c_api_Var x41),Ob.row 52 4 (List.map c_api_Thread x65),Ob.row 57 3 ([])]) (fun v=>(AV.tup [AV.agg [iA v.1.f_Mod,AV.sl 3 (List.map c_api_Var v.1.f_Locs),AV.sl 4 (List.map c_api_Thread v.1.f_Threads),AV.sl 3 (List.map c_api_Claim v.1.f_Claims)],iA v.2.1,iA v.2.2],[])) (fun k s=>ref04_Parse_L1 n y1 k s.1 s.2.1 s.2.2.1 s.2.2.2) (fun s=>rfl) o53 n (x38,x39,x40,([]:List S_api_Thread)) (fun _=>0) ho53 ?_ ?_
 intro k46 ss a47 K48 cont49 hK50 hcont51 h hr52
 obtain ⟨s42,s43,s44,s45⟩:=ss
 replace h:ref04_Parse_L1 n y1 (k46+1) s42 s43 s44 s45=some o53:=h
 rw [ref04_Parse_L1] at h
 conv=>lhs;whnf
 revert h
 refine ca hc (fun _ h=>ok_ref04_state_key h) ?_;intro y54
 refine br ?_ ?_
 refine ca hc (fun _ h=>ok_ref04_state_thread h) ?_;intro y57
 refine ar (ap c_api_Thread (List.map c_api_Thread s45) s45 ([[sA y57.1.f_Name,AV.sl 1 (List.map encS y57.1.f_Regs),AV.sl 9 (List.map c_api_Stmt y57.1.f_Body),iA y57.1.f_At]]) ([y57.1]:List S_api_Thread)) ?_
 exact fun h=>cq (hcont51 (y57.2.1,y57.2.2.1,y57.2.2.2,(s45++([y57.1]:List S_api_Thread))) (fun _=>0) h)
 intro h;cases sj h
 exact kq (hr52 (fun _=>0))
 refine lrc ?_ ?_
 intro v e;subst e;cases sj h;rfl
 intro t a61 e;subst e
 obtain ⟨x62,x63,x64,x65⟩:=t
 dsimp only at h
 conv=>lhs;whnf
 revert h
 intro h;refine bind_some2 h ?_;clear h;intro o77 ho77 h
 refine lq (σ:=(Int×Int×Int×(List S_api_Claim))) (τ:=(Int×Int×Int×(List S_api_Claim))) (ν:=(S_api_Prog×Int×Int)) 4 (fun (s66,s67,s68,s69) a71=>stOf 125 [(2,AV.ptr 0 0),(5,AV.sl 4 (List.map c_api_Token y1.1)),(8,AV.ptr 1 0),(9,AV.ptr 2 0)]) (fun (s66,s67,s68,s69) a71=>[Ob.var 26 [iA (0),AV.row 3 (List.length (([]:List S_api_Var))),AV.row 4 (List.length (([]:List S_api_Thread))),AV.row 5 (List.length (([]:List S_api_Claim)))],Ob.var 65 [AV.sl 4 (List.map c_api_Token y1.1),iA s66,iA s67,iA s68],Ob.var 26 [iA y7.1,AV.row 6 (List.length x41),AV.row 7 (List.length x65),AV.row 8 (List.length s69)],Ob.row 48 3 ([]),Ob.row 52 4 ([]),Ob.row 57 3 ([]),Ob.row 48 3 (List.map c_api_Var x41),Ob.row 52 4 (List.map c_api_Thread x65),Ob.row 57 3 (List.map c_api_Claim s69)]) (fun (x88,x89,x90,x91) a87=>stOf 125 [(2,AV.ptr 0 0),(5,AV.sl 4 (List.map c_api_Token y1.1)),(8,AV.ptr 1 0),(9,AV.ptr 2 0)]) (fun (x88,x89,x90,x91) a87=>[Ob.var 26 [iA (0),AV.row 3 (List.length (([]:List S_api_Var))),AV.row 4 (List.length (([]:List S_api_Thread))),AV.row 5 (List.length (([]:List S_api_Claim)))],Ob.var 65 [AV.sl 4 (List.map c_api_Token y1.1),iA x88,iA x89,iA x90],Ob.var 26 [iA y7.1,AV.row 6 (List.length x41),AV.row 7 (List.length x65),AV.row 8 (List.length x91)],Ob.row 48 3 ([]),Ob.row 52 4 ([]),Ob.row 57 3 ([]),Ob.row 48 3 (List.map c_api_Var x41),Ob.row 52 4 (List.map c_api_Thread x65),Ob.row 57 3 (List.map c_api_Claim x91)]) (fun v=>(AV.tup [AV.agg [iA v.1.f_Mod,AV.sl 3 (List.map c_api_Var v.1.f_Locs),AV.sl 4 (List.map c_api_Thread v.1.f_Threads),AV.sl 3 (List.map c_api_Claim v.1.f_Claims)],iA v.2.1,iA v.2.2],[])) (fun k s=>ref04_Parse_L2 n y1 k s.1 s.2.1 s.2.2.1 s.2.2.2) (fun s=>rfl) o77 n (x62,x63,x64,([]:List S_api_Claim)) (fun _=>0) ho77 ?_ ?_
 intro k70 ss a71 K72 cont73 hK74 hcont75 h hr76
 obtain ⟨s66,s67,s68,s69⟩:=ss
 replace h:ref04_Parse_L2 n y1 (k70+1) s66 s67 s68 s69=some o77:=h
 rw [ref04_Parse_L2] at h
 conv=>lhs;whnf
 revert h
 refine ca hc (fun _ h=>ok_ref04_state_kind h) ?_;intro y78
 refine br ?_ ?_
 refine ca hc (fun _ h=>ok_ref04_state_kind h) ?_;intro y81
 refine ca hc (fun _ h=>ok_ref04_state_claim h) ?_;intro y83
 refine ar (ap c_api_Claim (List.map c_api_Claim s69) s69 ([[iA y83.1.f_Kind,AV.sl 5 (List.map c_api_Node y83.1.f_E),iA y83.1.f_At]]) ([y83.1]:List S_api_Claim)) ?_
 exact fun h=>cq (hcont75 (y83.2.1,y83.2.2.1,y83.2.2.2,(s69++([y83.1]:List S_api_Claim))) (fun _=>0) h)
 intro h;cases sj h
 exact kq (hr76 (fun _=>0))
 refine lrc ?_ ?_
 intro v e;subst e;cases sj h;rfl
 intro t a87 e;subst e
 obtain ⟨x88,x89,x90,x91⟩:=t
 dsimp only at h
 conv=>lhs;whnf
 revert h
 refine br ?_ ?_
 refine ca hc (fun _ h=>ok_ref04_state_wrong h) ?_;intro y93
 refine br ?_ ?_
 exact rz
 intro h;cases sj h
 try simp only [ls]
 exact fq (y:=some (AV.tup [AV.agg [iA y7.1,AV.sl 3 (List.take (List.length x41) (List.map c_api_Var x41)),AV.sl 4 (List.take (List.length x65) (List.map c_api_Thread x65)),AV.sl 3 (List.take (List.length x91) (List.map c_api_Claim x91))],iA (0),iA (0)],[]))
 refine br ?_ ?_
 exact rz
 intro h;cases sj h
 try simp only [ls]
 exact fq (y:=some (AV.tup [AV.agg [iA y7.1,AV.sl 3 (List.take (List.length x41) (List.map c_api_Var x41)),AV.sl 4 (List.take (List.length x65) (List.map c_api_Thread x65)),AV.sl 3 (List.take (List.length x91) (List.map c_api_Claim x91))],iA (0),iA (0)],[]))
 refine ca hc (fun _ h=>ok_ref04_state_wrong h) ?_;intro y100
 refine ca hc (fun _ h=>ok_ref04_state_number h) ?_;intro y102
 refine ca hc (fun _ h=>ok_ref04_state_sign h) ?_;intro y104
 intro h;refine bind_some2 h ?_;clear h;intro o117 ho117 h
 refine lq (σ:=(Int×Int×Int×(List S_api_Var))) (τ:=(Int×Int×Int×(List S_api_Var))) (ν:=(S_api_Prog×Int×Int)) 0 (fun (s106,s107,s108,s109) a111=>stOf 125 [(2,AV.ptr 0 0),(5,AV.sl 4 (List.map c_api_Token y1.1)),(8,AV.ptr 1 0),(9,AV.ptr 2 0)]) (fun (s106,s107,s108,s109) a111=>[Ob.var 26 [iA (0),AV.row 3 (List.length (([]:List S_api_Var))),AV.row 4 (List.length (([]:List S_api_Thread))),AV.row 5 (List.length (([]:List S_api_Claim)))],Ob.var 65 [AV.sl 4 (List.map c_api_Token y1.1),iA s106,iA s107,iA s108],Ob.var 26 [iA y102.1,AV.row 6 (List.length s109),AV.row 7 (List.length (([]:List S_api_Thread))),AV.row 8 (List.length (([]:List S_api_Claim)))],Ob.row 48 3 ([]),Ob.row 52 4 ([]),Ob.row 57 3 ([]),Ob.row 48 3 (List.map c_api_Var s109),Ob.row 52 4 ([]),Ob.row 57 3 ([])]) (fun (x133,x134,x135,x136) a132=>stOf 125 [(2,AV.ptr 0 0),(5,AV.sl 4 (List.map c_api_Token y1.1)),(8,AV.ptr 1 0),(9,AV.ptr 2 0)]) (fun (x133,x134,x135,x136) a132=>[Ob.var 26 [iA (0),AV.row 3 (List.length (([]:List S_api_Var))),AV.row 4 (List.length (([]:List S_api_Thread))),AV.row 5 (List.length (([]:List S_api_Claim)))],Ob.var 65 [AV.sl 4 (List.map c_api_Token y1.1),iA x133,iA x134,iA x135],Ob.var 26 [iA y102.1,AV.row 6 (List.length x136),AV.row 7 (List.length (([]:List S_api_Thread))),AV.row 8 (List.length (([]:List S_api_Claim)))],Ob.row 48 3 ([]),Ob.row 52 4 ([]),Ob.row 57 3 ([]),Ob.row 48 3 (List.map c_api_Var x136),Ob.row 52 4 ([]),Ob.row 57 3 ([])]) (fun v=>(AV.tup [AV.agg [iA v.1.f_Mod,AV.sl 3 (List.map c_api_Var v.1.f_Locs),AV.sl 4 (List.map c_api_Thread v.1.f_Threads),AV.sl 3 (List.map c_api_Claim v.1.f_Claims)],iA v.2.1,iA v.2.2],[])) (fun k s=>ref04_Parse_L3 n y1 k s.1 s.2.1 s.2.2.1 s.2.2.2) (fun s=>rfl) o117 n (y104.1,y104.2.1,y104.2.2,([]:List S_api_Var)) (fun _=>0) ho117 ?_ ?_
 intro k110 ss a111 K112 cont113 hK114 hcont115 h hr116
 obtain ⟨s106,s107,s108,s109⟩:=ss
 replace h:ref04_Parse_L3 n y1 (k110+1) s106 s107 s108 s109=some o117:=h
 rw [ref04_Parse_L3] at h
 conv=>lhs;whnf
 revert h
 refine ca hc (fun _ h=>ok_ref04_state_key h) ?_;intro y118
 refine br ?_ ?_
 refine ix ?_;intro x121
 refine ca hc (fun _ h=>ok_ref04_state_name h) ?_;intro y122
 refine ca hc (fun _ h=>ok_ref04_state_sign h) ?_;intro y124
 refine ca hc (fun _ h=>ok_ref04_state_number h) ?_;intro y126
 refine ca hc (fun _ h=>ok_ref04_state_sign h) ?_;intro y128
 refine ar (ap c_api_Var (List.map c_api_Var s109) s109 ([[sA y122.1,iA y126.1,iA x121.f_At]]) ([(⟨y122.1,y126.1,x121.f_At⟩:S_api_Var)]:List S_api_Var)) ?_
 exact fun h=>cq (hcont115 (y128.1,y128.2.1,y128.2.2,(s109++([(⟨y122.1,y126.1,x121.f_At⟩:S_api_Var)]:List S_api_Var))) (fun _=>0) h)
 intro h;cases sj h
 exact kq (hr116 (fun _=>0))
 refine lrc ?_ ?_
 intro v e;subst e;cases sj h;rfl
 intro t a132 e;subst e
 obtain ⟨x133,x134,x135,x136⟩:=t
 dsimp only at h
 conv=>lhs;whnf
 revert h
 intro h;refine bind_some2 h ?_;clear h;intro o148 ho148 h
 refine lq (σ:=(Int×Int×Int×(List S_api_Thread))) (τ:=(Int×Int×Int×(List S_api_Thread))) (ν:=(S_api_Prog×Int×Int)) 2 (fun (s137,s138,s139,s140) a142=>stOf 125 [(2,AV.ptr 0 0),(5,AV.sl 4 (List.map c_api_Token y1.1)),(8,AV.ptr 1 0),(9,AV.ptr 2 0)]) (fun (s137,s138,s139,s140) a142=>[Ob.var 26 [iA (0),AV.row 3 (List.length (([]:List S_api_Var))),AV.row 4 (List.length (([]:List S_api_Thread))),AV.row 5 (List.length (([]:List S_api_Claim)))],Ob.var 65 [AV.sl 4 (List.map c_api_Token y1.1),iA s137,iA s138,iA s139],Ob.var 26 [iA y102.1,AV.row 6 (List.length x136),AV.row 7 (List.length s140),AV.row 8 (List.length (([]:List S_api_Claim)))],Ob.row 48 3 ([]),Ob.row 52 4 ([]),Ob.row 57 3 ([]),Ob.row 48 3 (List.map c_api_Var x136),Ob.row 52 4 (List.map c_api_Thread s140),Ob.row 57 3 ([])]) (fun (x157,x158,x159,x160) a156=>stOf 125 [(2,AV.ptr 0 0),(5,AV.sl 4 (List.map c_api_Token y1.1)),(8,AV.ptr 1 0),(9,AV.ptr 2 0)]) (fun (x157,x158,x159,x160) a156=>[Ob.var 26 [iA (0),AV.row 3 (List.length (([]:List S_api_Var))),AV.row 4 (List.length (([]:List S_api_Thread))),AV.row 5 (List.length (([]:List S_api_Claim)))],Ob.var 65 [AV.sl 4 (List.map c_api_Token y1.1),iA x157,iA x158,iA x159],Ob.var 26 [iA y102.1,AV.row 6 (List.length x136),AV.row 7 (List.length x160),AV.row 8 (List.length (([]:List S_api_Claim)))],Ob.row 48 3 ([]),Ob.row 52 4 ([]),Ob.row 57 3 ([]),Ob.row 48 3 (List.map c_api_Var x136),Ob.row 52 4 (List.map c_api_Thread x160),Ob.row 57 3 ([])]) (fun v=>(AV.tup [AV.agg [iA v.1.f_Mod,AV.sl 3 (List.map c_api_Var v.1.f_Locs),AV.sl 4 (List.map c_api_Thread v.1.f_Threads),AV.sl 3 (List.map c_api_Claim v.1.f_Claims)],iA v.2.1,iA v.2.2],[])) (fun k s=>ref04_Parse_L4 n y1 k s.1 s.2.1 s.2.2.1 s.2.2.2) (fun s=>rfl) o148 n (x133,x134,x135,([]:List S_api_Thread)) (fun _=>0) ho148 ?_ ?_
 intro k141 ss a142 K143 cont144 hK145 hcont146 h hr147
 obtain ⟨s137,s138,s139,s140⟩:=ss
 replace h:ref04_Parse_L4 n y1 (k141+1) s137 s138 s139 s140=some o148:=h
 rw [ref04_Parse_L4] at h
 conv=>lhs;whnf
 revert h
 refine ca hc (fun _ h=>ok_ref04_state_key h) ?_;intro y149
 refine br ?_ ?_
 refine ca hc (fun _ h=>ok_ref04_state_thread h) ?_;intro y152
 refine ar (ap c_api_Thread (List.map c_api_Thread s140) s140 ([[sA y152.1.f_Name,AV.sl 1 (List.map encS y152.1.f_Regs),AV.sl 9 (List.map c_api_Stmt y152.1.f_Body),iA y152.1.f_At]]) ([y152.1]:List S_api_Thread)) ?_
 exact fun h=>cq (hcont146 (y152.2.1,y152.2.2.1,y152.2.2.2,(s140++([y152.1]:List S_api_Thread))) (fun _=>0) h)
 intro h;cases sj h
 exact kq (hr147 (fun _=>0))
 refine lrc ?_ ?_
 intro v e;subst e;cases sj h;rfl
 intro t a156 e;subst e
 obtain ⟨x157,x158,x159,x160⟩:=t
 dsimp only at h
 conv=>lhs;whnf
 revert h
 intro h;refine bind_some2 h ?_;clear h;intro o172 ho172 h
 refine lq (σ:=(Int×Int×Int×(List S_api_Claim))) (τ:=(Int×Int×Int×(List S_api_Claim))) (ν:=(S_api_Prog×Int×Int)) 4 (fun (s161,s162,s163,s164) a166=>stOf 125 [(2,AV.ptr 0 0),(5,AV.sl 4 (List.map c_api_Token y1.1)),(8,AV.ptr 1 0),(9,AV.ptr 2 0)]) (fun (s161,s162,s163,s164) a166=>[Ob.var 26 [iA (0),AV.row 3 (List.length (([]:List S_api_Var))),AV.row 4 (List.length (([]:List S_api_Thread))),AV.row 5 (List.length (([]:List S_api_Claim)))],Ob.var 65 [AV.sl 4 (List.map c_api_Token y1.1),iA s161,iA s162,iA s163],Ob.var 26 [iA y102.1,AV.row 6 (List.length x136),AV.row 7 (List.length x160),AV.row 8 (List.length s164)],Ob.row 48 3 ([]),Ob.row 52 4 ([]),Ob.row 57 3 ([]),Ob.row 48 3 (List.map c_api_Var x136),Ob.row 52 4 (List.map c_api_Thread x160),Ob.row 57 3 (List.map c_api_Claim s164)]) (fun (x183,x184,x185,x186) a182=>stOf 125 [(2,AV.ptr 0 0),(5,AV.sl 4 (List.map c_api_Token y1.1)),(8,AV.ptr 1 0),(9,AV.ptr 2 0)]) (fun (x183,x184,x185,x186) a182=>[Ob.var 26 [iA (0),AV.row 3 (List.length (([]:List S_api_Var))),AV.row 4 (List.length (([]:List S_api_Thread))),AV.row 5 (List.length (([]:List S_api_Claim)))],Ob.var 65 [AV.sl 4 (List.map c_api_Token y1.1),iA x183,iA x184,iA x185],Ob.var 26 [iA y102.1,AV.row 6 (List.length x136),AV.row 7 (List.length x160),AV.row 8 (List.length x186)],Ob.row 48 3 ([]),Ob.row 52 4 ([]),Ob.row 57 3 ([]),Ob.row 48 3 (List.map c_api_Var x136),Ob.row 52 4 (List.map c_api_Thread x160),Ob.row 57 3 (List.map c_api_Claim x186)]) (fun v=>(AV.tup [AV.agg [iA v.1.f_Mod,AV.sl 3 (List.map c_api_Var v.1.f_Locs),AV.sl 4 (List.map c_api_Thread v.1.f_Threads),AV.sl 3 (List.map c_api_Claim v.1.f_Claims)],iA v.2.1,iA v.2.2],[])) (fun k s=>ref04_Parse_L5 n y1 k s.1 s.2.1 s.2.2.1 s.2.2.2) (fun s=>rfl) o172 n (x157,x158,x159,([]:List S_api_Claim)) (fun _=>0) ho172 ?_ ?_
 intro k165 ss a166 K167 cont168 hK169 hcont170 h hr171
 obtain ⟨s161,s162,s163,s164⟩:=ss
 replace h:ref04_Parse_L5 n y1 (k165+1) s161 s162 s163 s164=some o172:=h
 rw [ref04_Parse_L5] at h
 conv=>lhs;whnf
 revert h
 refine ca hc (fun _ h=>ok_ref04_state_kind h) ?_;intro y173
 refine br ?_ ?_
 refine ca hc (fun _ h=>ok_ref04_state_kind h) ?_;intro y176
 refine ca hc (fun _ h=>ok_ref04_state_claim h) ?_;intro y178
 refine ar (ap c_api_Claim (List.map c_api_Claim s164) s164 ([[iA y178.1.f_Kind,AV.sl 5 (List.map c_api_Node y178.1.f_E),iA y178.1.f_At]]) ([y178.1]:List S_api_Claim)) ?_
 exact fun h=>cq (hcont170 (y178.2.1,y178.2.2.1,y178.2.2.2,(s164++([y178.1]:List S_api_Claim))) (fun _=>0) h)
 intro h;cases sj h
 exact kq (hr171 (fun _=>0))
 refine lrc ?_ ?_
 intro v e;subst e;cases sj h;rfl
 intro t a182 e;subst e
 obtain ⟨x183,x184,x185,x186⟩:=t
 dsimp only at h
 conv=>lhs;whnf
 revert h
 refine br ?_ ?_
 refine ca hc (fun _ h=>ok_ref04_state_wrong h) ?_;intro y188
 refine br ?_ ?_
 exact rz
 intro h;cases sj h
 try simp only [ls]
 exact fq (y:=some (AV.tup [AV.agg [iA y102.1,AV.sl 3 (List.take (List.length x136) (List.map c_api_Var x136)),AV.sl 4 (List.take (List.length x160) (List.map c_api_Thread x160)),AV.sl 3 (List.take (List.length x186) (List.map c_api_Claim x186))],iA (0),iA (0)],[]))
 refine br ?_ ?_
 exact rz
 intro h;cases sj h
 try simp only [ls]
 exact fq (y:=some (AV.tup [AV.agg [iA y102.1,AV.sl 3 (List.take (List.length x136) (List.map c_api_Var x136)),AV.sl 4 (List.take (List.length x160) (List.map c_api_Thread x160)),AV.sl 3 (List.take (List.length x186) (List.map c_api_Claim x186))],iA (0),iA (0)],[]))
theorem ok_ref04_Same {n:Nat} ⦃v0_a:S_api_Prog⦄ ⦃v1_b:S_api_Prog⦄ ⦃v2_places:Bool⦄ ⦃r:Bool⦄:m_ref04_Same n v0_a v1_b v2_places=some r→CN n 9 [AV.agg [iA v0_a.f_Mod,AV.sl 3 (List.map c_api_Var v0_a.f_Locs),AV.sl 4 (List.map c_api_Thread v0_a.f_Threads),AV.sl 3 (List.map c_api_Claim v0_a.f_Claims)],AV.agg [iA v1_b.f_Mod,AV.sl 3 (List.map c_api_Var v1_b.f_Locs),AV.sl 4 (List.map c_api_Thread v1_b.f_Threads),AV.sl 3 (List.map c_api_Claim v1_b.f_Claims)],bA v2_places] []=some (bA r,[]):=by
 intro h;rcases n with _|n;cases h
 rw [m_ref04_Same] at h
 refine callN_eq' Tryz.func9 (by rfl) rfl rfl (Nat.le_of_ble_eq_true rfl) ?_
 intro call hc;conv=>lhs;whnf
 revert h
 refine br ?_ ?_
 exact rz
 refine br ?_ ?_
 exact rz
 refine br ?_ ?_
 exact rz
 refine br ?_ ?_
 exact rz
 intro h;refine bind_some2 h ?_;clear h;intro o14 ho14 h
 refine lq (σ:=(Bool×Int)) (τ:=Bool) (ν:=Bool) 0 (fun (s5,s6) a8=>stOf 221 [(2,bA s5),(3,AV.ptr 0 0),(4,AV.ptr 1 0),(7,iA s6)]) (fun (s5,s6) a8=>[Ob.var 26 [iA v0_a.f_Mod,AV.sl 3 (List.map c_api_Var v0_a.f_Locs),AV.sl 4 (List.map c_api_Thread v0_a.f_Threads),AV.sl 3 (List.map c_api_Claim v0_a.f_Claims)],Ob.var 26 [iA v1_b.f_Mod,AV.sl 3 (List.map c_api_Var v1_b.f_Locs),AV.sl 4 (List.map c_api_Thread v1_b.f_Threads),AV.sl 3 (List.map c_api_Claim v1_b.f_Claims)]]) (fun x27 a26=>stOf 221 [(2,bA x27),(3,AV.ptr 0 0),(4,AV.ptr 1 0)]) (fun x27 a26=>[Ob.var 26 [iA v0_a.f_Mod,AV.sl 3 (List.map c_api_Var v0_a.f_Locs),AV.sl 4 (List.map c_api_Thread v0_a.f_Threads),AV.sl 3 (List.map c_api_Claim v0_a.f_Claims)],Ob.var 26 [iA v1_b.f_Mod,AV.sl 3 (List.map c_api_Var v1_b.f_Locs),AV.sl 4 (List.map c_api_Thread v1_b.f_Threads),AV.sl 3 (List.map c_api_Claim v1_b.f_Claims)]]) (fun v=>(bA v,[])) (fun k s=>ref04_Same_L0 n v0_a v1_b k s.1 s.2) (fun s=>rfl) o14 n (v2_places,0) (fun _=>0) ho14 ?_ ?_
 intro k7 ss a8 K9 cont10 hK11 hcont12 h hr13
 obtain ⟨s5,s6⟩:=ss
 replace h:ref04_Same_L0 n v0_a v1_b (k7+1) s5 s6=some o14:=h
 rw [ref04_Same_L0] at h
 conv=>lhs;whnf
 revert h
 refine br ?_ ?_
 refine ix ?_;intro x16
 refine ix ?_;intro x17
 refine br ?_ ?_
 refine ix ?_;intro x19
 refine ix ?_;intro x20
 refine br ?_ ?_
 intro h;cases sj h
 refine (hK11 _ _).trans ?_
 refine Eq.trans ?_ (Eq.symm (show _=some _ from hr13))
 conv=>lhs;whnf
 exact rq
 refine br ?_ ?_
 refine ix ?_;intro x23
 refine ix ?_;intro x24
 refine br ?_ ?_
 intro h;cases sj h
 refine (hK11 _ _).trans ?_
 refine Eq.trans ?_ (Eq.symm (show _=some _ from hr13))
 conv=>lhs;whnf
 exact rq
 exact fun h=>cq (hcont12 (true,IntKind.i64.wrap (s6+1)) (fun _=>0) h)
 exact fun h=>cq (hcont12 (false,IntKind.i64.wrap (s6+1)) (fun _=>0) h)
 intro h;cases sj h
 refine (hK11 _ _).trans ?_
 refine Eq.trans ?_ (Eq.symm (show _=some _ from hr13))
 conv=>lhs;whnf
 exact rq
 intro h;cases sj h
 exact kq (hr13 (fun _=>0))
 refine lrc ?_ ?_
 intro v e;subst e;cases sj h;rfl
 intro x27 a26 e;subst e
 dsimp only at h
 conv=>lhs;whnf
 revert h
 intro h;refine bind_some2 h ?_;clear h;intro o37 ho37 h
 refine lq (σ:=(Bool×Int)) (τ:=Bool) (ν:=Bool) 2 (fun (s28,s29) a31=>stOf 221 [(2,bA s28),(3,AV.ptr 0 0),(4,AV.ptr 1 0),(8,iA s29)]) (fun (s28,s29) a31=>[Ob.var 26 [iA v0_a.f_Mod,AV.sl 3 (List.map c_api_Var v0_a.f_Locs),AV.sl 4 (List.map c_api_Thread v0_a.f_Threads),AV.sl 3 (List.map c_api_Claim v0_a.f_Claims)],Ob.var 26 [iA v1_b.f_Mod,AV.sl 3 (List.map c_api_Var v1_b.f_Locs),AV.sl 4 (List.map c_api_Thread v1_b.f_Threads),AV.sl 3 (List.map c_api_Claim v1_b.f_Claims)]]) (fun x79 a78=>stOf 221 [(2,bA x79),(3,AV.ptr 0 0),(4,AV.ptr 1 0)]) (fun x79 a78=>[Ob.var 26 [iA v0_a.f_Mod,AV.sl 3 (List.map c_api_Var v0_a.f_Locs),AV.sl 4 (List.map c_api_Thread v0_a.f_Threads),AV.sl 3 (List.map c_api_Claim v0_a.f_Claims)],Ob.var 26 [iA v1_b.f_Mod,AV.sl 3 (List.map c_api_Var v1_b.f_Locs),AV.sl 4 (List.map c_api_Thread v1_b.f_Threads),AV.sl 3 (List.map c_api_Claim v1_b.f_Claims)]]) (fun v=>(bA v,[])) (fun k s=>ref04_Same_L1 n v0_a v1_b k s.1 s.2) (fun s=>rfl) o37 n (x27,0) (fun _=>0) ho37 ?_ ?_
 intro k30 ss a31 K32 cont33 hK34 hcont35 h hr36
 obtain ⟨s28,s29⟩:=ss
 replace h:ref04_Same_L1 n v0_a v1_b (k30+1) s28 s29=some o37:=h
 rw [ref04_Same_L1] at h
 conv=>lhs;whnf
 revert h
 refine br ?_ ?_
 refine ix ?_;intro x39
 refine ix ?_;intro x40
 refine br ?_ ?_
 refine br ?_ ?_
 intro h;cases sj h
 refine (hK34 _ _).trans ?_
 refine Eq.trans ?_ (Eq.symm (show _=some _ from hr36))
 conv=>lhs;whnf
 exact rq
 refine ca hc (fun _ h=>ok_ref03_Same h) ?_;intro y43
 refine br ?_ ?_
 refine br ?_ ?_
 refine br ?_ ?_
 intro h;cases sj h
 refine (hK34 _ _).trans ?_
 refine Eq.trans ?_ (Eq.symm (show _=some _ from hr36))
 conv=>lhs;whnf
 exact rq
 intro h;refine bind_some2 h ?_;clear h;intro o56 ho56 h
 refine lq (σ:=Int) (τ:=Unit) (ν:=Bool) 4 (fun s48 a50=>stOf 221 [(2,bA true),(3,AV.ptr 0 0),(4,AV.ptr 1 0),(8,iA s29),(9,AV.ptr 2 0),(10,AV.ptr 3 0),(11,iA s48)]) (fun s48 a50=>[Ob.var 26 [iA v0_a.f_Mod,AV.sl 3 (List.map c_api_Var v0_a.f_Locs),AV.sl 4 (List.map c_api_Thread v0_a.f_Threads),AV.sl 3 (List.map c_api_Claim v0_a.f_Claims)],Ob.var 26 [iA v1_b.f_Mod,AV.sl 3 (List.map c_api_Var v1_b.f_Locs),AV.sl 4 (List.map c_api_Thread v1_b.f_Threads),AV.sl 3 (List.map c_api_Claim v1_b.f_Claims)],Ob.var 52 [sA x39.f_Name,AV.sl 1 (List.map encS x39.f_Regs),AV.sl 9 (List.map c_api_Stmt x39.f_Body),iA x39.f_At],Ob.var 52 [sA x40.f_Name,AV.sl 1 (List.map encS x40.f_Regs),AV.sl 9 (List.map c_api_Stmt x40.f_Body),iA x40.f_At]]) (fun _ a61=>stOf 221 [(2,bA true),(3,AV.ptr 0 0),(4,AV.ptr 1 0),(8,iA s29)]) (fun _ a61=>[Ob.var 26 [iA v0_a.f_Mod,AV.sl 3 (List.map c_api_Var v0_a.f_Locs),AV.sl 4 (List.map c_api_Thread v0_a.f_Threads),AV.sl 3 (List.map c_api_Claim v0_a.f_Claims)],Ob.var 26 [iA v1_b.f_Mod,AV.sl 3 (List.map c_api_Var v1_b.f_Locs),AV.sl 4 (List.map c_api_Thread v1_b.f_Threads),AV.sl 3 (List.map c_api_Claim v1_b.f_Claims)],Ob.var 52 [sA x39.f_Name,AV.sl 1 (List.map encS x39.f_Regs),AV.sl 9 (List.map c_api_Stmt x39.f_Body),iA x39.f_At],Ob.var 52 [sA x40.f_Name,AV.sl 1 (List.map encS x40.f_Regs),AV.sl 9 (List.map c_api_Stmt x40.f_Body),iA x40.f_At]]) (fun v=>(bA v,[])) (fun k s=>ref04_Same_L2 n x39 x40 k s) (fun s=>rfl) o56 n 0 (fun _=>0) ho56 ?_ ?_
 intro k49 s48 a50 K51 cont52 hK53 hcont54 h hr55
 replace h:ref04_Same_L2 n x39 x40 (k49+1) s48=some o56:=h
 rw [ref04_Same_L2] at h
 conv=>lhs;whnf
 revert h
 refine br ?_ ?_
 refine ix ?_;intro x58
 refine ix ?_;intro x59
 refine br ?_ ?_
 exact fun h=>cq (hcont54 (IntKind.i64.wrap (s48+1)) (fun _=>0) h)
 intro h;cases sj h
 refine (hK53 _ _).trans ?_
 conv=>lhs;whnf
 refine (hK34 _ _).trans ?_
 refine Eq.trans ?_ (Eq.symm (show _=some _ from hr55))
 conv=>lhs;whnf
 exact rq
 intro h;cases sj h
 exact kq (hr55 (fun _=>0))
 refine lrc ?_ ?_
 intro v e;subst e;cases sj h;exact hr36
 intro t a61 e;subst e
 dsimp only at h
 conv=>lhs;whnf
 revert h
 exact fun h=>cq (hcont35 (true,IntKind.i64.wrap (s29+1)) (fun _=>0) h)
 intro h;refine bind_some2 h ?_;clear h;intro o71 ho71 h
 refine lq (σ:=Int) (τ:=Unit) (ν:=Bool) 4 (fun s63 a65=>stOf 221 [(2,bA false),(3,AV.ptr 0 0),(4,AV.ptr 1 0),(8,iA s29),(9,AV.ptr 2 0),(10,AV.ptr 3 0),(11,iA s63)]) (fun s63 a65=>[Ob.var 26 [iA v0_a.f_Mod,AV.sl 3 (List.map c_api_Var v0_a.f_Locs),AV.sl 4 (List.map c_api_Thread v0_a.f_Threads),AV.sl 3 (List.map c_api_Claim v0_a.f_Claims)],Ob.var 26 [iA v1_b.f_Mod,AV.sl 3 (List.map c_api_Var v1_b.f_Locs),AV.sl 4 (List.map c_api_Thread v1_b.f_Threads),AV.sl 3 (List.map c_api_Claim v1_b.f_Claims)],Ob.var 52 [sA x39.f_Name,AV.sl 1 (List.map encS x39.f_Regs),AV.sl 9 (List.map c_api_Stmt x39.f_Body),iA x39.f_At],Ob.var 52 [sA x40.f_Name,AV.sl 1 (List.map encS x40.f_Regs),AV.sl 9 (List.map c_api_Stmt x40.f_Body),iA x40.f_At]]) (fun _ a76=>stOf 221 [(2,bA false),(3,AV.ptr 0 0),(4,AV.ptr 1 0),(8,iA s29)]) (fun _ a76=>[Ob.var 26 [iA v0_a.f_Mod,AV.sl 3 (List.map c_api_Var v0_a.f_Locs),AV.sl 4 (List.map c_api_Thread v0_a.f_Threads),AV.sl 3 (List.map c_api_Claim v0_a.f_Claims)],Ob.var 26 [iA v1_b.f_Mod,AV.sl 3 (List.map c_api_Var v1_b.f_Locs),AV.sl 4 (List.map c_api_Thread v1_b.f_Threads),AV.sl 3 (List.map c_api_Claim v1_b.f_Claims)],Ob.var 52 [sA x39.f_Name,AV.sl 1 (List.map encS x39.f_Regs),AV.sl 9 (List.map c_api_Stmt x39.f_Body),iA x39.f_At],Ob.var 52 [sA x40.f_Name,AV.sl 1 (List.map encS x40.f_Regs),AV.sl 9 (List.map c_api_Stmt x40.f_Body),iA x40.f_At]]) (fun v=>(bA v,[])) (fun k s=>ref04_Same_L3 n x39 x40 k s) (fun s=>rfl) o71 n 0 (fun _=>0) ho71 ?_ ?_
 intro k64 s63 a65 K66 cont67 hK68 hcont69 h hr70
 replace h:ref04_Same_L3 n x39 x40 (k64+1) s63=some o71:=h
 rw [ref04_Same_L3] at h
 conv=>lhs;whnf
 revert h
 refine br ?_ ?_
 refine ix ?_;intro x73
 refine ix ?_;intro x74
 refine br ?_ ?_
 exact fun h=>cq (hcont69 (IntKind.i64.wrap (s63+1)) (fun _=>0) h)
 intro h;cases sj h
 refine (hK68 _ _).trans ?_
 conv=>lhs;whnf
 refine (hK34 _ _).trans ?_
 refine Eq.trans ?_ (Eq.symm (show _=some _ from hr70))
 conv=>lhs;whnf
 exact rq
 intro h;cases sj h
 exact kq (hr70 (fun _=>0))
 refine lrc ?_ ?_
 intro v e;subst e;cases sj h;exact hr36
 intro t a76 e;subst e
 dsimp only at h
 conv=>lhs;whnf
 revert h
 exact fun h=>cq (hcont35 (false,IntKind.i64.wrap (s29+1)) (fun _=>0) h)
 intro h;cases sj h
 refine (hK34 _ _).trans ?_
 refine Eq.trans ?_ (Eq.symm (show _=some _ from hr36))
 conv=>lhs;whnf
 exact rq
 intro h;cases sj h
 refine (hK34 _ _).trans ?_
 refine Eq.trans ?_ (Eq.symm (show _=some _ from hr36))
 conv=>lhs;whnf
 exact rq
 intro h;cases sj h
 exact kq (hr36 (fun _=>0))
 refine lrc ?_ ?_
 intro v e;subst e;cases sj h;rfl
 intro x79 a78 e;subst e
 dsimp only at h
 conv=>lhs;whnf
 revert h
 intro h;refine bind_some2 h ?_;clear h;intro o89 ho89 h
 refine lq (σ:=(Bool×Int)) (τ:=Unit) (ν:=Bool) 6 (fun (s80,s81) a83=>stOf 221 [(2,bA s80),(3,AV.ptr 0 0),(4,AV.ptr 1 0),(12,iA s81)]) (fun (s80,s81) a83=>[Ob.var 26 [iA v0_a.f_Mod,AV.sl 3 (List.map c_api_Var v0_a.f_Locs),AV.sl 4 (List.map c_api_Thread v0_a.f_Threads),AV.sl 3 (List.map c_api_Claim v0_a.f_Claims)],Ob.var 26 [iA v1_b.f_Mod,AV.sl 3 (List.map c_api_Var v1_b.f_Locs),AV.sl 4 (List.map c_api_Thread v1_b.f_Threads),AV.sl 3 (List.map c_api_Claim v1_b.f_Claims)]]) (fun _ a103=>stOf 221 []) (fun _ a103=>[Ob.var 26 [iA v0_a.f_Mod,AV.sl 3 (List.map c_api_Var v0_a.f_Locs),AV.sl 4 (List.map c_api_Thread v0_a.f_Threads),AV.sl 3 (List.map c_api_Claim v0_a.f_Claims)],Ob.var 26 [iA v1_b.f_Mod,AV.sl 3 (List.map c_api_Var v1_b.f_Locs),AV.sl 4 (List.map c_api_Thread v1_b.f_Threads),AV.sl 3 (List.map c_api_Claim v1_b.f_Claims)]]) (fun v=>(bA v,[])) (fun k s=>ref04_Same_L4 n v0_a v1_b k s.1 s.2) (fun s=>rfl) o89 n (x79,0) (fun _=>0) ho89 ?_ ?_
 intro k82 ss a83 K84 cont85 hK86 hcont87 h hr88
 obtain ⟨s80,s81⟩:=ss
 replace h:ref04_Same_L4 n v0_a v1_b (k82+1) s80 s81=some o89:=h
 rw [ref04_Same_L4] at h
 conv=>lhs;whnf
 revert h
 refine br ?_ ?_
 refine ix ?_;intro x91
 refine ix ?_;intro x92
 refine br ?_ ?_
 intro h;cases sj h
 refine (hK86 _ _).trans ?_
 refine Eq.trans ?_ (Eq.symm (show _=some _ from hr88))
 conv=>lhs;whnf
 exact rq
 refine ix ?_;intro x94
 refine ix ?_;intro x95
 refine ca hc (fun _ h=>ok_ref02_Same h) ?_;intro y96
 refine br ?_ ?_
 refine br ?_ ?_
 refine ix ?_;intro x100
 refine ix ?_;intro x101
 refine br ?_ ?_
 intro h;cases sj h
 refine (hK86 _ _).trans ?_
 refine Eq.trans ?_ (Eq.symm (show _=some _ from hr88))
 conv=>lhs;whnf
 exact rq
 exact fun h=>cq (hcont87 (true,IntKind.i64.wrap (s81+1)) (fun _=>0) h)
 exact fun h=>cq (hcont87 (false,IntKind.i64.wrap (s81+1)) (fun _=>0) h)
 intro h;cases sj h
 refine (hK86 _ _).trans ?_
 refine Eq.trans ?_ (Eq.symm (show _=some _ from hr88))
 conv=>lhs;whnf
 exact rq
 intro h;cases sj h
 exact kq (hr88 (fun _=>0))
 refine lrc ?_ ?_
 intro v e;subst e;cases sj h;rfl
 intro t a103 e;subst e
 dsimp only at h
 conv=>lhs;whnf
 revert h
 exact rz
theorem ok_ref04_claimed {n:Nat} ⦃v0_l:(List S_api_Node)⦄ ⦃r:Bool⦄:m_ref04_claimed n v0_l=some r→CN n 52 [AV.sl 5 (List.map c_api_Node v0_l)] []=some (bA r,[]):=by
 intro h;rcases n with _|n;cases h
 rw [m_ref04_claimed] at h
 refine callN_eq' Tryz.func52 (by rfl) rfl rfl (Nat.le_of_ble_eq_true rfl) ?_
 intro call hc;conv=>lhs;whnf
 revert h
 refine ca hc (fun _ h=>ok_ref02_Names h) ?_;intro y1
 intro h;refine bind_some2 h ?_;clear h;intro o11 ho11 h
 refine lq (σ:=Int) (τ:=Unit) (ν:=Bool) 0 (fun s3 a5=>stOf 21 [(0,AV.sl 5 (List.map c_api_Node v0_l)),(3,AV.sl 5 (List.map c_api_Node y1)),(4,iA s3)]) (fun s3 a5=>[]) (fun _ a15=>stOf 21 [(0,AV.sl 5 (List.map c_api_Node v0_l))]) (fun _ a15=>[]) (fun v=>(bA v,[])) (fun k s=>ref04_claimed_L0 n y1 k s) (fun s=>rfl) o11 n 0 (fun _=>0) ho11 ?_ ?_
 intro k4 s3 a5 K6 cont7 hK8 hcont9 h hr10
 replace h:ref04_claimed_L0 n y1 (k4+1) s3=some o11:=h
 rw [ref04_claimed_L0] at h
 conv=>lhs;whnf
 revert h
 refine br ?_ ?_
 refine ix ?_;intro x13
 refine br ?_ ?_
 intro h;cases sj h
 refine (hK8 _ _).trans ?_
 refine Eq.trans ?_ (Eq.symm (show _=some _ from hr10))
 conv=>lhs;whnf
 exact rq
 exact fun h=>cq (hcont9 (IntKind.i64.wrap (s3+1)) (fun _=>0) h)
 intro h;cases sj h
 exact kq (hr10 (fun _=>0))
 refine lrc ?_ ?_
 intro v e;subst e;cases sj h;rfl
 intro t a15 e;subst e
 dsimp only at h
 conv=>lhs;whnf
 revert h
 refine ca hc (fun _ h=>ok_ref02_Right h) ?_;intro y16
 exact rz
theorem ok_ref04_in {n:Nat} ⦃v0_n:Int⦄ ⦃r:Bool⦄:m_ref04_in n v0_n=some r→CN n 49 [iA v0_n] []=some (bA r,[]):=by
 intro h;rcases n with _|n;cases h
 rw [m_ref04_in] at h
 refine callN_eq' Tryz.func49 (by rfl) rfl rfl (Nat.le_of_ble_eq_true rfl) ?_
 intro call hc;conv=>lhs;whnf
 revert h
 refine br ?_ ?_
 exact rz
 exact rz
end Go.Proofs.YtgelgahilfojdaaGreat
end
section
namespace Go.Proofs.YtgelgahilfojdaaGreat
set_option linter.unusedVariables false
set_option linter.unusedSimpArgs false
set_option maxRecDepth 100000
set_option maxHeartbeats 4000000
theorem ok_ref03_one {n:Nat} ⦃v0_x:S_api_Stmt⦄ ⦃r:Bool⦄:m_ref03_one n v0_x=some r→CN n 78 [AV.agg [iA v0_x.f_Kind,sA v0_x.f_Reg,sA v0_x.f_Loc,AV.sl 5 (List.map c_api_Node v0_x.f_E),AV.sl 5 (List.map c_api_Node v0_x.f_F),bA v0_x.f_Ne,iA v0_x.f_Body,iA v0_x.f_Else,iA v0_x.f_At]] []=some (bA r,[]):=by
 intro h;rcases n with _|n;cases h
 rw [m_ref03_one] at h
 refine callN_eq' Tryz.func78 (by rfl) rfl rfl (Nat.le_of_ble_eq_true rfl) ?_
 intro call hc;conv=>lhs;whnf
 revert h
 refine ca hc (fun _ h=>ok_ref03_parts h) ?_;intro y1
 refine br ?_ ?_
 refine br ?_ ?_
 exact rz
 refine rj (α:=Bool) (fun j5=>stOf 117 [(1,AV.ptr 0 0),(3,sA y1.1),(51,bA j5)]) (fun _=>[Ob.var 82 [iA v0_x.f_Kind,sA v0_x.f_Reg,sA v0_x.f_Loc,AV.sl 5 (List.map c_api_Node v0_x.f_E),AV.sl 5 (List.map c_api_Node v0_x.f_F),bA v0_x.f_Ne,iA v0_x.f_Body,iA v0_x.f_Else,iA v0_x.f_At]]) ?_ ?_
 intro K122 b123 h;conv=>lhs;whnf
 revert h
 refine ca hc (fun _ h=>ok_ref03_has h) ?_;intro y6
 refine ca hc (fun _ h=>ok_ref01_Name h) ?_;intro y8
 refine br ?_ ?_
 refine ca hc (fun _ h=>ok_ref03_has h) ?_;intro y11
 refine br ?_ ?_
 refine ca hc (fun _ h=>ok_ref03_has h) ?_;intro y14
 refine ca hc (fun _ h=>ok_ref01_Name h) ?_;intro y16
 refine br ?_ ?_
 refine ca hc (fun _ h=>ok_ref03_has h) ?_;intro y19
 refine br ?_ ?_
 exact rz
 exact rz
 exact rz
 refine br ?_ ?_
 refine ca hc (fun _ h=>ok_ref03_has h) ?_;intro y23
 refine ca hc (fun _ h=>ok_ref01_Name h) ?_;intro y25
 refine br ?_ ?_
 refine ca hc (fun _ h=>ok_ref03_has h) ?_;intro y28
 refine br ?_ ?_
 exact rz
 exact rz
 exact rz
 exact rz
 exact rz
 intro j5 h;conv=>lhs;whnf
 revert h
 refine br ?_ ?_
 exact rz
 refine rj (α:=Bool) (fun j32=>stOf 117 [(1,AV.ptr 0 0),(3,sA y1.1),(91,bA j32)]) (fun _=>[Ob.var 82 [iA v0_x.f_Kind,sA v0_x.f_Reg,sA v0_x.f_Loc,AV.sl 5 (List.map c_api_Node v0_x.f_E),AV.sl 5 (List.map c_api_Node v0_x.f_F),bA v0_x.f_Ne,iA v0_x.f_Body,iA v0_x.f_Else,iA v0_x.f_At]]) ?_ ?_
 intro K120 b121 h;conv=>lhs;whnf
 revert h
 refine ca hc (fun _ h=>ok_ref03_has h) ?_;intro y33
 refine br ?_ ?_
 refine ca hc (fun _ h=>ok_ref03_Plain h) ?_;intro y36
 refine br ?_ ?_
 refine ca hc (fun _ h=>ok_ref03_has h) ?_;intro y39
 refine br ?_ ?_
 refine ca hc (fun _ h=>ok_ref03_has h) ?_;intro y42
 refine br ?_ ?_
 refine ca hc (fun _ h=>ok_ref03_Plain h) ?_;intro y45
 refine br ?_ ?_
 refine ca hc (fun _ h=>ok_ref03_has h) ?_;intro y48
 refine br ?_ ?_
 exact rz
 exact rz
 exact rz
 refine ca hc (fun _ h=>ok_ref03_has h) ?_;intro y51
 refine br ?_ ?_
 exact rz
 exact rz
 refine br ?_ ?_
 exact rz
 refine ca hc (fun _ h=>ok_ref03_has h) ?_;intro y55
 refine br ?_ ?_
 refine ca hc (fun _ h=>ok_ref03_Plain h) ?_;intro y58
 refine br ?_ ?_
 refine ca hc (fun _ h=>ok_ref03_has h) ?_;intro y61
 refine br ?_ ?_
 exact rz
 exact rz
 exact rz
 refine ca hc (fun _ h=>ok_ref03_has h) ?_;intro y64
 refine br ?_ ?_
 exact rz
 exact rz
 exact rz
 refine ca hc (fun _ h=>ok_ref03_has h) ?_;intro y67
 refine br ?_ ?_
 refine ca hc (fun _ h=>ok_ref03_has h) ?_;intro y70
 refine br ?_ ?_
 refine ca hc (fun _ h=>ok_ref03_Plain h) ?_;intro y73
 refine br ?_ ?_
 refine ca hc (fun _ h=>ok_ref03_has h) ?_;intro y76
 refine br ?_ ?_
 exact rz
 exact rz
 exact rz
 refine ca hc (fun _ h=>ok_ref03_has h) ?_;intro y79
 refine br ?_ ?_
 exact rz
 exact rz
 refine br ?_ ?_
 exact rz
 refine ca hc (fun _ h=>ok_ref03_has h) ?_;intro y83
 refine br ?_ ?_
 refine ca hc (fun _ h=>ok_ref03_Plain h) ?_;intro y86
 refine br ?_ ?_
 refine ca hc (fun _ h=>ok_ref03_has h) ?_;intro y89
 refine br ?_ ?_
 exact rz
 exact rz
 exact rz
 refine ca hc (fun _ h=>ok_ref03_has h) ?_;intro y92
 refine br ?_ ?_
 exact rz
 exact rz
 intro j32 h;conv=>lhs;whnf
 revert h
 refine br ?_ ?_
 exact rz
 refine ca hc (fun _ h=>ok_ref03_has h) ?_;intro y96
 refine br ?_ ?_
 refine ca hc (fun _ h=>ok_ref03_has h) ?_;intro y99
 refine br ?_ ?_
 refine ca hc (fun _ h=>ok_ref03_has h) ?_;intro y102
 refine br ?_ ?_
 exact rz
 exact rz
 refine br ?_ ?_
 refine ca hc (fun _ h=>ok_ref03_has h) ?_;intro y106
 refine br ?_ ?_
 exact rz
 exact rz
 exact rz
 refine br ?_ ?_
 exact rz
 refine ca hc (fun _ h=>ok_ref03_has h) ?_;intro y110
 refine br ?_ ?_
 refine ca hc (fun _ h=>ok_ref03_has h) ?_;intro y113
 refine br ?_ ?_
 exact rz
 exact rz
 refine br ?_ ?_
 refine ca hc (fun _ h=>ok_ref03_has h) ?_;intro y117
 refine br ?_ ?_
 exact rz
 exact rz
 exact rz
 exact rz
def OK_ref03_whole (n:Nat):Prop:=∀ ⦃v0_l:(List S_api_Stmt)⦄ ⦃v1_from:Int⦄ ⦃v2_to:Int⦄ ⦃r:Bool⦄,m_ref03_whole n v0_l v1_from v2_to=some r→CN n 77 [AV.sl 9 (List.map c_api_Stmt v0_l),iA v1_from,iA v2_to] []=some (bA r,[])
def IH_ref03_whole (n : Nat) : Prop := OK_ref03_whole n
theorem st_ref03_whole (n:Nat) (ih:IH_ref03_whole n):OK_ref03_whole (n+1):=by
 intro v0_l v1_from v2_to r h
 rw [m_ref03_whole] at h
 refine callN_eq' Tryz.func77 (by rfl) rfl rfl (Nat.le_of_ble_eq_true rfl) ?_
 intro call hc;conv=>lhs;whnf
 revert h
 intro h;refine bind_some2 h ?_;clear h;intro o9 ho9 h
 refine lq (σ:=Int) (τ:=Unit) (ν:=Bool) 0 (fun s1 a3=>stOf 70 [(0,AV.sl 9 (List.map c_api_Stmt v0_l)),(1,iA s1),(2,iA v2_to)]) (fun s1 a3=>[]) (fun _ a22=>stOf 70 []) (fun _ a22=>[]) (fun v=>(bA v,[])) (fun k s=>ref03_whole_L0 n (m_ref03_whole n) v0_l v2_to k s) (fun s=>rfl) o9 n v1_from (fun _=>0) ho9 ?_ ?_
 intro k2 s1 a3 K4 cont5 hK6 hcont7 h hr8
 replace h:ref03_whole_L0 n (m_ref03_whole n) v0_l v2_to (k2+1) s1=some o9:=h
 rw [ref03_whole_L0] at h
 conv=>lhs;whnf
 revert h
 refine br ?_ ?_
 refine ix ?_;intro x11
 refine br ?_ ?_
 intro h;cases sj h
 refine (hK6 _ _).trans ?_
 refine Eq.trans ?_ (Eq.symm (show _=some _ from hr8))
 conv=>lhs;whnf
 exact rq
 refine br ?_ ?_
 intro h;cases sj h
 refine (hK6 _ _).trans ?_
 refine Eq.trans ?_ (Eq.symm (show _=some _ from hr8))
 conv=>lhs;whnf
 exact rq
 refine br ?_ ?_
 intro h;cases sj h
 refine (hK6 _ _).trans ?_
 refine Eq.trans ?_ (Eq.symm (show _=some _ from hr8))
 conv=>lhs;whnf
 exact rq
 refine br ?_ ?_
 intro h;cases sj h
 refine (hK6 _ _).trans ?_
 refine Eq.trans ?_ (Eq.symm (show _=some _ from hr8))
 conv=>lhs;whnf
 exact rq
 refine ca hc (fun _ h=>ih h) ?_;intro y16
 refine br ?_ ?_
 refine ca hc (fun _ h=>ih h) ?_;intro y19
 refine br ?_ ?_
 exact fun h=>cq (hcont7 (IntKind.i64.wrap ((IntKind.i64.wrap ((IntKind.i64.wrap (s1+1))+x11.f_Body))+x11.f_Else)) (fun _=>0) h)
 intro h;cases sj h
 refine (hK6 _ _).trans ?_
 refine Eq.trans ?_ (Eq.symm (show _=some _ from hr8))
 conv=>lhs;whnf
 exact rq
 intro h;cases sj h
 refine (hK6 _ _).trans ?_
 refine Eq.trans ?_ (Eq.symm (show _=some _ from hr8))
 conv=>lhs;whnf
 exact rq
 intro h;cases sj h
 exact kq (hr8 (fun _=>0))
 refine lrc ?_ ?_
 intro v e;subst e;cases sj h;rfl
 intro t a22 e;subst e
 dsimp only at h
 conv=>lhs;whnf
 revert h
 exact rz
theorem all_ref03_whole : ∀ n, IH_ref03_whole n
  | 0 => by unfold IH_ref03_whole OK_ref03_whole; intros; rename_i h; exact absurd h (by intro h; cases h)
  | n + 1 => have ih := all_ref03_whole n
    st_ref03_whole n ih
theorem ok_ref03_whole {n : Nat} : OK_ref03_whole n := (all_ref03_whole n)
theorem ok_ref03_Right {n:Nat} ⦃v0_l:(List S_api_Stmt)⦄ ⦃r:Bool⦄:m_ref03_Right n v0_l=some r→CN n 51 [AV.sl 9 (List.map c_api_Stmt v0_l)] []=some (bA r,[]):=by
 intro h;rcases n with _|n;cases h
 rw [m_ref03_Right] at h
 refine callN_eq' Tryz.func51 (by rfl) rfl rfl (Nat.le_of_ble_eq_true rfl) ?_
 intro call hc;conv=>lhs;whnf
 revert h
 refine br ?_ ?_
 exact rz
 refine cr hc (fun _ h=>ok_ref03_whole h) ?_;intro y2
 refine br ?_ ?_
 intro h;refine bind_some2 h ?_;clear h;intro o13 ho13 h
 refine lq (σ:=Int) (τ:=Unit) (ν:=Bool) 0 (fun s5 a7=>stOf 31 [(0,AV.sl 9 (List.map c_api_Stmt v0_l)),(3,iA s5)]) (fun s5 a7=>[]) (fun _ a19=>stOf 31 [(0,AV.sl 9 (List.map c_api_Stmt v0_l))]) (fun _ a19=>[]) (fun v=>(bA v,[])) (fun k s=>ref03_Right_L0 n v0_l k s) (fun s=>rfl) o13 n 0 (fun _=>0) ho13 ?_ ?_
 intro k6 s5 a7 K8 cont9 hK10 hcont11 h hr12
 replace h:ref03_Right_L0 n v0_l (k6+1) s5=some o13:=h
 rw [ref03_Right_L0] at h
 conv=>lhs;whnf
 revert h
 refine br ?_ ?_
 refine ix ?_;intro x15
 refine ca hc (fun _ h=>ok_ref03_one h) ?_;intro y16
 refine br ?_ ?_
 exact fun h=>cq (hcont11 (IntKind.i64.wrap (s5+1)) (fun _=>0) h)
 intro h;cases sj h
 refine (hK10 _ _).trans ?_
 refine Eq.trans ?_ (Eq.symm (show _=some _ from hr12))
 conv=>lhs;whnf
 exact rq
 intro h;cases sj h
 exact kq (hr12 (fun _=>0))
 refine lrc ?_ ?_
 intro v e;subst e;cases sj h;rfl
 intro t a19 e;subst e
 dsimp only at h
 conv=>lhs;whnf
 revert h
 refine cr hc (fun _ h=>ok_ref03_deep h) ?_;intro y20
 exact rz
 exact rz
end Go.Proofs.YtgelgahilfojdaaGreat
end
section
namespace Go.Proofs.YtgelgahilfojdaaGreat
set_option linter.unusedVariables false
set_option linter.unusedSimpArgs false
set_option maxRecDepth 100000
set_option maxHeartbeats 4000000
theorem ok_ref04_Right {n:Nat} ⦃v0_p:S_api_Prog⦄ ⦃r:Bool⦄:m_ref04_Right n v0_p=some r→CN n 21 [AV.agg [iA v0_p.f_Mod,AV.sl 3 (List.map c_api_Var v0_p.f_Locs),AV.sl 4 (List.map c_api_Thread v0_p.f_Threads),AV.sl 3 (List.map c_api_Claim v0_p.f_Claims)]] []=some (bA r,[]):=by
 intro h;rcases n with _|n;cases h
 rw [m_ref04_Right] at h
 refine callN_eq' Tryz.func21 (by rfl) rfl rfl (Nat.le_of_ble_eq_true rfl) ?_
 intro call hc;conv=>lhs;whnf
 revert h
 refine ca hc (fun _ h=>ok_ref04_in h) ?_;intro y1
 refine br ?_ ?_
 intro h;refine bind_some2 h ?_;clear h;intro o12 ho12 h
 refine lq (σ:=Int) (τ:=Unit) (ν:=Bool) 0 (fun s4 a6=>stOf 119 [(1,AV.ptr 0 0),(3,iA s4)]) (fun s4 a6=>[Ob.var 26 [iA v0_p.f_Mod,AV.sl 3 (List.map c_api_Var v0_p.f_Locs),AV.sl 4 (List.map c_api_Thread v0_p.f_Threads),AV.sl 3 (List.map c_api_Claim v0_p.f_Claims)]]) (fun _ a24=>stOf 119 [(1,AV.ptr 0 0)]) (fun _ a24=>[Ob.var 26 [iA v0_p.f_Mod,AV.sl 3 (List.map c_api_Var v0_p.f_Locs),AV.sl 4 (List.map c_api_Thread v0_p.f_Threads),AV.sl 3 (List.map c_api_Claim v0_p.f_Claims)]]) (fun v=>(bA v,[])) (fun k s=>ref04_Right_L0 n v0_p k s) (fun s=>rfl) o12 n 0 (fun _=>0) ho12 ?_ ?_
 intro k5 s4 a6 K7 cont8 hK9 hcont10 h hr11
 replace h:ref04_Right_L0 n v0_p (k5+1) s4=some o12:=h
 rw [ref04_Right_L0] at h
 conv=>lhs;whnf
 revert h
 refine br ?_ ?_
 refine ix ?_;intro x14
 refine ca hc (fun _ h=>ok_ref01_Name h) ?_;intro y15
 refine br ?_ ?_
 refine ix ?_;intro x18
 refine ca hc (fun _ h=>ok_ref04_in h) ?_;intro y19
 refine br ?_ ?_
 refine ix ?_;intro x22
 refine br ?_ ?_
 intro h;cases sj h
 refine (hK9 _ _).trans ?_
 refine Eq.trans ?_ (Eq.symm (show _=some _ from hr11))
 conv=>lhs;whnf
 exact rq
 exact fun h=>cq (hcont10 (IntKind.i64.wrap (s4+1)) (fun _=>0) h)
 intro h;cases sj h
 refine (hK9 _ _).trans ?_
 refine Eq.trans ?_ (Eq.symm (show _=some _ from hr11))
 conv=>lhs;whnf
 exact rq
 intro h;cases sj h
 refine (hK9 _ _).trans ?_
 refine Eq.trans ?_ (Eq.symm (show _=some _ from hr11))
 conv=>lhs;whnf
 exact rq
 intro h;cases sj h
 exact kq (hr11 (fun _=>0))
 refine lrc ?_ ?_
 intro v e;subst e;cases sj h;rfl
 intro t a24 e;subst e
 dsimp only at h
 conv=>lhs;whnf
 revert h
 intro h;refine bind_some2 h ?_;clear h;intro o33 ho33 h
 refine lq (σ:=Int) (τ:=Unit) (ν:=Bool) 2 (fun s25 a27=>stOf 119 [(1,AV.ptr 0 0),(4,iA s25)]) (fun s25 a27=>[Ob.var 26 [iA v0_p.f_Mod,AV.sl 3 (List.map c_api_Var v0_p.f_Locs),AV.sl 4 (List.map c_api_Thread v0_p.f_Threads),AV.sl 3 (List.map c_api_Claim v0_p.f_Claims)]]) (fun _ a59=>stOf 119 [(1,AV.ptr 0 0)]) (fun _ a59=>[Ob.var 26 [iA v0_p.f_Mod,AV.sl 3 (List.map c_api_Var v0_p.f_Locs),AV.sl 4 (List.map c_api_Thread v0_p.f_Threads),AV.sl 3 (List.map c_api_Claim v0_p.f_Claims)]]) (fun v=>(bA v,[])) (fun k s=>ref04_Right_L1 n v0_p k s) (fun s=>rfl) o33 n 0 (fun _=>0) ho33 ?_ ?_
 intro k26 s25 a27 K28 cont29 hK30 hcont31 h hr32
 replace h:ref04_Right_L1 n v0_p (k26+1) s25=some o33:=h
 rw [ref04_Right_L1] at h
 conv=>lhs;whnf
 revert h
 refine br ?_ ?_
 refine ix ?_;intro x35
 refine ca hc (fun _ h=>ok_ref01_Name h) ?_;intro y36
 refine br ?_ ?_
 refine ca hc (fun _ h=>ok_ref03_Right h) ?_;intro y39
 refine br ?_ ?_
 refine br ?_ ?_
 intro h;cases sj h
 refine (hK30 _ _).trans ?_
 refine Eq.trans ?_ (Eq.symm (show _=some _ from hr32))
 conv=>lhs;whnf
 exact rq
 intro h;refine bind_some2 h ?_;clear h;intro o51 ho51 h
 refine lq (σ:=Int) (τ:=Unit) (ν:=Bool) 4 (fun s43 a45=>stOf 119 [(1,AV.ptr 0 0),(4,iA s25),(5,AV.ptr 1 0),(6,iA s43)]) (fun s43 a45=>[Ob.var 26 [iA v0_p.f_Mod,AV.sl 3 (List.map c_api_Var v0_p.f_Locs),AV.sl 4 (List.map c_api_Thread v0_p.f_Threads),AV.sl 3 (List.map c_api_Claim v0_p.f_Claims)],Ob.var 52 [sA x35.f_Name,AV.sl 1 (List.map encS x35.f_Regs),AV.sl 9 (List.map c_api_Stmt x35.f_Body),iA x35.f_At]]) (fun _ a57=>stOf 119 [(1,AV.ptr 0 0),(4,iA s25)]) (fun _ a57=>[Ob.var 26 [iA v0_p.f_Mod,AV.sl 3 (List.map c_api_Var v0_p.f_Locs),AV.sl 4 (List.map c_api_Thread v0_p.f_Threads),AV.sl 3 (List.map c_api_Claim v0_p.f_Claims)],Ob.var 52 [sA x35.f_Name,AV.sl 1 (List.map encS x35.f_Regs),AV.sl 9 (List.map c_api_Stmt x35.f_Body),iA x35.f_At]]) (fun v=>(bA v,[])) (fun k s=>ref04_Right_L2 n x35 k s) (fun s=>rfl) o51 n 0 (fun _=>0) ho51 ?_ ?_
 intro k44 s43 a45 K46 cont47 hK48 hcont49 h hr50
 replace h:ref04_Right_L2 n x35 (k44+1) s43=some o51:=h
 rw [ref04_Right_L2] at h
 conv=>lhs;whnf
 revert h
 refine br ?_ ?_
 refine ix ?_;intro x53
 refine ca hc (fun _ h=>ok_ref01_Name h) ?_;intro y54
 refine br ?_ ?_
 exact fun h=>cq (hcont49 (IntKind.i64.wrap (s43+1)) (fun _=>0) h)
 intro h;cases sj h
 refine (hK48 _ _).trans ?_
 conv=>lhs;whnf
 refine (hK30 _ _).trans ?_
 refine Eq.trans ?_ (Eq.symm (show _=some _ from hr50))
 conv=>lhs;whnf
 exact rq
 intro h;cases sj h
 exact kq (hr50 (fun _=>0))
 refine lrc ?_ ?_
 intro v e;subst e;cases sj h;exact hr32
 intro t a57 e;subst e
 dsimp only at h
 conv=>lhs;whnf
 revert h
 exact fun h=>cq (hcont31 (IntKind.i64.wrap (s25+1)) (fun _=>0) h)
 intro h;cases sj h
 refine (hK30 _ _).trans ?_
 refine Eq.trans ?_ (Eq.symm (show _=some _ from hr32))
 conv=>lhs;whnf
 exact rq
 intro h;cases sj h
 refine (hK30 _ _).trans ?_
 refine Eq.trans ?_ (Eq.symm (show _=some _ from hr32))
 conv=>lhs;whnf
 exact rq
 intro h;cases sj h
 exact kq (hr32 (fun _=>0))
 refine lrc ?_ ?_
 intro v e;subst e;cases sj h;rfl
 intro t a59 e;subst e
 dsimp only at h
 conv=>lhs;whnf
 revert h
 intro h;refine bind_some2 h ?_;clear h;intro o68 ho68 h
 refine lq (σ:=Int) (τ:=Unit) (ν:=Bool) 6 (fun s60 a62=>stOf 119 [(1,AV.ptr 0 0),(7,iA s60)]) (fun s60 a62=>[Ob.var 26 [iA v0_p.f_Mod,AV.sl 3 (List.map c_api_Var v0_p.f_Locs),AV.sl 4 (List.map c_api_Thread v0_p.f_Threads),AV.sl 3 (List.map c_api_Claim v0_p.f_Claims)]]) (fun _ a77=>stOf 119 []) (fun _ a77=>[Ob.var 26 [iA v0_p.f_Mod,AV.sl 3 (List.map c_api_Var v0_p.f_Locs),AV.sl 4 (List.map c_api_Thread v0_p.f_Threads),AV.sl 3 (List.map c_api_Claim v0_p.f_Claims)]]) (fun v=>(bA v,[])) (fun k s=>ref04_Right_L3 n v0_p k s) (fun s=>rfl) o68 n 0 (fun _=>0) ho68 ?_ ?_
 intro k61 s60 a62 K63 cont64 hK65 hcont66 h hr67
 replace h:ref04_Right_L3 n v0_p (k61+1) s60=some o68:=h
 rw [ref04_Right_L3] at h
 conv=>lhs;whnf
 revert h
 refine br ?_ ?_
 refine ix ?_;intro x70
 refine br ?_ ?_
 intro h;cases sj h
 refine (hK65 _ _).trans ?_
 refine Eq.trans ?_ (Eq.symm (show _=some _ from hr67))
 conv=>lhs;whnf
 exact rq
 refine br ?_ ?_
 intro h;cases sj h
 refine (hK65 _ _).trans ?_
 refine Eq.trans ?_ (Eq.symm (show _=some _ from hr67))
 conv=>lhs;whnf
 exact rq
 refine ca hc (fun _ h=>ok_ref04_claimed h) ?_;intro y73
 refine br ?_ ?_
 refine br ?_ ?_
 intro h;cases sj h
 refine (hK65 _ _).trans ?_
 refine Eq.trans ?_ (Eq.symm (show _=some _ from hr67))
 conv=>lhs;whnf
 exact rq
 exact fun h=>cq (hcont66 (IntKind.i64.wrap (s60+1)) (fun _=>0) h)
 intro h;cases sj h
 refine (hK65 _ _).trans ?_
 refine Eq.trans ?_ (Eq.symm (show _=some _ from hr67))
 conv=>lhs;whnf
 exact rq
 intro h;cases sj h
 exact kq (hr67 (fun _=>0))
 refine lrc ?_ ?_
 intro v e;subst e;cases sj h;rfl
 intro t a77 e;subst e
 dsimp only at h
 conv=>lhs;whnf
 revert h
 exact rz
 exact rz
end Go.Proofs.YtgelgahilfojdaaGreat
end
section
namespace Go.Proofs.YtgelgahilfojdaaGreat
set_option linter.unusedVariables false
set_option linter.unusedSimpArgs false
set_option maxRecDepth 100000
set_option maxHeartbeats 4000000
theorem ok_ref05_Index {n:Nat} ⦃v0_l:(List (List UInt8))⦄ ⦃v1_name:(List UInt8)⦄ ⦃r:Int⦄:m_ref05_Index n v0_l v1_name=some r→CN n 54 [AV.sl 1 (List.map encS v0_l),sA v1_name] []=some (iA r,[]):=by
 intro h;rcases n with _|n;cases h
 rw [m_ref05_Index] at h
 refine callN_eq' Tryz.func54 (by rfl) rfl rfl (Nat.le_of_ble_eq_true rfl) ?_
 intro call hc;conv=>lhs;whnf
 revert h
 intro h;refine bind_some2 h ?_;clear h;intro o9 ho9 h
 refine lq (σ:=Int) (τ:=Unit) (ν:=Int) 0 (fun s1 a3=>stOf 19 [(0,AV.sl 1 (List.map encS v0_l)),(1,sA v1_name),(5,iA s1)]) (fun s1 a3=>[]) (fun _ a13=>stOf 19 []) (fun _ a13=>[]) (fun v=>(iA v,[])) (fun k s=>ref05_Index_L0 n v0_l v1_name k s) (fun s=>rfl) o9 n 0 (fun _=>0) ho9 ?_ ?_
 intro k2 s1 a3 K4 cont5 hK6 hcont7 h hr8
 replace h:ref05_Index_L0 n v0_l v1_name (k2+1) s1=some o9:=h
 rw [ref05_Index_L0] at h
 conv=>lhs;whnf
 revert h
 refine br ?_ ?_
 refine ix ?_;intro x11
 refine br ?_ ?_
 intro h;cases sj h
 refine (hK6 _ _).trans ?_
 refine Eq.trans ?_ (Eq.symm (show _=some _ from hr8))
 conv=>lhs;whnf
 exact rq
 exact fun h=>cq (hcont7 (IntKind.i64.wrap (s1+1)) (fun _=>0) h)
 intro h;cases sj h
 exact kq (hr8 (fun _=>0))
 refine lrc ?_ ?_
 intro v e;subst e;cases sj h;rfl
 intro t a13 e;subst e
 dsimp only at h
 conv=>lhs;whnf
 revert h
 exact rz
theorem ok_ref05_Locs {n:Nat} ⦃v0_p:S_api_Prog⦄ ⦃r:(List (List UInt8))⦄:m_ref05_Locs n v0_p=some r→CN n 53 [AV.agg [iA v0_p.f_Mod,AV.sl 3 (List.map c_api_Var v0_p.f_Locs),AV.sl 4 (List.map c_api_Thread v0_p.f_Threads),AV.sl 3 (List.map c_api_Claim v0_p.f_Claims)]] []=some (AV.sl 1 (List.map encS r),[]):=by
 intro h;rcases n with _|n;cases h
 rw [m_ref05_Locs] at h
 refine callN_eq' Tryz.func53 (by rfl) rfl rfl (Nat.le_of_ble_eq_true rfl) ?_
 intro call hc;conv=>lhs;whnf
 revert h
 intro h;refine bind_some2 h ?_;clear h;intro o10 ho10 h
 refine lq (σ:=(Int×(List (List UInt8)))) (τ:=(List (List UInt8))) (ν:=(List (List UInt8))) 0 (fun (s1,s2) a4=>stOf 22 [(1,AV.ptr 0 0),(3,AV.row 1 (List.length s2)),(4,iA s1)]) (fun (s1,s2) a4=>[Ob.var 26 [iA v0_p.f_Mod,AV.sl 3 (List.map c_api_Var v0_p.f_Locs),AV.sl 4 (List.map c_api_Thread v0_p.f_Threads),AV.sl 3 (List.map c_api_Claim v0_p.f_Claims)],Ob.row 9 1 (List.map encS s2)]) (fun x16 a15=>stOf 22 [(3,AV.row 1 (List.length x16))]) (fun x16 a15=>[Ob.var 26 [iA v0_p.f_Mod,AV.sl 3 (List.map c_api_Var v0_p.f_Locs),AV.sl 4 (List.map c_api_Thread v0_p.f_Threads),AV.sl 3 (List.map c_api_Claim v0_p.f_Claims)],Ob.row 9 1 (List.map encS x16)]) (fun v=>(AV.sl 1 (List.map encS v),[])) (fun k s=>ref05_Locs_L0 n v0_p k s.1 s.2) (fun s=>rfl) o10 n (0,([]:List (List UInt8))) (fun _=>0) ho10 ?_ ?_
 intro k3 ss a4 K5 cont6 hK7 hcont8 h hr9
 obtain ⟨s1,s2⟩:=ss
 replace h:ref05_Locs_L0 n v0_p (k3+1) s1 s2=some o10:=h
 rw [ref05_Locs_L0] at h
 conv=>lhs;whnf
 revert h
 refine br ?_ ?_
 refine ix ?_;intro x12
 refine ar (ap encS (List.map encS s2) s2 ([[sA x12.f_Name]]) ([x12.f_Name]:List (List UInt8))) ?_
 exact fun h=>cq (hcont8 (IntKind.i64.wrap (s1+1),(s2++([x12.f_Name]:List (List UInt8)))) (fun _=>0) h)
 intro h;cases sj h
 exact kq (hr9 (fun _=>0))
 refine lrc ?_ ?_
 intro v e;subst e;cases sj h;rfl
 intro x16 a15 e;subst e
 dsimp only at h
 conv=>lhs;whnf
 revert h
 intro h;obtain rfl:=sj h
 try simp only [ls]
 exact fq (y:=some (AV.sl 1 (List.take (List.length x16) (List.map encS x16)),[]))
theorem ok_ref05_Threads {n:Nat} ⦃v0_p:S_api_Prog⦄ ⦃r:(List (List UInt8))⦄:m_ref05_Threads n v0_p=some r→CN n 55 [AV.agg [iA v0_p.f_Mod,AV.sl 3 (List.map c_api_Var v0_p.f_Locs),AV.sl 4 (List.map c_api_Thread v0_p.f_Threads),AV.sl 3 (List.map c_api_Claim v0_p.f_Claims)]] []=some (AV.sl 1 (List.map encS r),[]):=by
 intro h;rcases n with _|n;cases h
 rw [m_ref05_Threads] at h
 refine callN_eq' Tryz.func55 (by rfl) rfl rfl (Nat.le_of_ble_eq_true rfl) ?_
 intro call hc;conv=>lhs;whnf
 revert h
 intro h;refine bind_some2 h ?_;clear h;intro o10 ho10 h
 refine lq (σ:=(Int×(List (List UInt8)))) (τ:=(List (List UInt8))) (ν:=(List (List UInt8))) 0 (fun (s1,s2) a4=>stOf 22 [(1,AV.ptr 0 0),(3,AV.row 1 (List.length s2)),(4,iA s1)]) (fun (s1,s2) a4=>[Ob.var 26 [iA v0_p.f_Mod,AV.sl 3 (List.map c_api_Var v0_p.f_Locs),AV.sl 4 (List.map c_api_Thread v0_p.f_Threads),AV.sl 3 (List.map c_api_Claim v0_p.f_Claims)],Ob.row 9 1 (List.map encS s2)]) (fun x16 a15=>stOf 22 [(3,AV.row 1 (List.length x16))]) (fun x16 a15=>[Ob.var 26 [iA v0_p.f_Mod,AV.sl 3 (List.map c_api_Var v0_p.f_Locs),AV.sl 4 (List.map c_api_Thread v0_p.f_Threads),AV.sl 3 (List.map c_api_Claim v0_p.f_Claims)],Ob.row 9 1 (List.map encS x16)]) (fun v=>(AV.sl 1 (List.map encS v),[])) (fun k s=>ref05_Threads_L0 n v0_p k s.1 s.2) (fun s=>rfl) o10 n (0,([]:List (List UInt8))) (fun _=>0) ho10 ?_ ?_
 intro k3 ss a4 K5 cont6 hK7 hcont8 h hr9
 obtain ⟨s1,s2⟩:=ss
 replace h:ref05_Threads_L0 n v0_p (k3+1) s1 s2=some o10:=h
 rw [ref05_Threads_L0] at h
 conv=>lhs;whnf
 revert h
 refine br ?_ ?_
 refine ix ?_;intro x12
 refine ar (ap encS (List.map encS s2) s2 ([[sA x12.f_Name]]) ([x12.f_Name]:List (List UInt8))) ?_
 exact fun h=>cq (hcont8 (IntKind.i64.wrap (s1+1),(s2++([x12.f_Name]:List (List UInt8)))) (fun _=>0) h)
 intro h;cases sj h
 exact kq (hr9 (fun _=>0))
 refine lrc ?_ ?_
 intro v e;subst e;cases sj h;rfl
 intro x16 a15 e;subst e
 dsimp only at h
 conv=>lhs;whnf
 revert h
 intro h;obtain rfl:=sj h
 try simp only [ls]
 exact fq (y:=some (AV.sl 1 (List.take (List.length x16) (List.map encS x16)),[]))
theorem ok_ref05_claims {n:Nat} ⦃v0_p:S_api_Prog⦄ ⦃r:(Int×Int)⦄:m_ref05_claims n v0_p=some r→CN n 24 [AV.agg [iA v0_p.f_Mod,AV.sl 3 (List.map c_api_Var v0_p.f_Locs),AV.sl 4 (List.map c_api_Thread v0_p.f_Threads),AV.sl 3 (List.map c_api_Claim v0_p.f_Claims)]] []=some (AV.tup [iA r.1,iA r.2],[]):=by
 intro h;rcases n with _|n;cases h
 rw [m_ref05_claims] at h
 refine callN_eq' Tryz.func24 (by rfl) rfl rfl (Nat.le_of_ble_eq_true rfl) ?_
 intro call hc;conv=>lhs;whnf
 revert h
 intro h;refine bind_some2 h ?_;clear h;intro o9 ho9 h
 refine lq (σ:=Int) (τ:=Unit) (ν:=(Int×Int)) 0 (fun s1 a3=>stOf 89 [(1,AV.ptr 0 0),(4,iA s1)]) (fun s1 a3=>[Ob.var 26 [iA v0_p.f_Mod,AV.sl 3 (List.map c_api_Var v0_p.f_Locs),AV.sl 4 (List.map c_api_Thread v0_p.f_Threads),AV.sl 3 (List.map c_api_Claim v0_p.f_Claims)]]) (fun _ a61=>stOf 89 []) (fun _ a61=>[Ob.var 26 [iA v0_p.f_Mod,AV.sl 3 (List.map c_api_Var v0_p.f_Locs),AV.sl 4 (List.map c_api_Thread v0_p.f_Threads),AV.sl 3 (List.map c_api_Claim v0_p.f_Claims)]]) (fun v=>(AV.tup [iA v.1,iA v.2],[])) (fun k s=>ref05_claims_L0 n v0_p k s) (fun s=>rfl) o9 n 0 (fun _=>0) ho9 ?_ ?_
 intro k2 s1 a3 K4 cont5 hK6 hcont7 h hr8
 replace h:ref05_claims_L0 n v0_p (k2+1) s1=some o9:=h
 rw [ref05_claims_L0] at h
 conv=>lhs;whnf
 revert h
 refine br ?_ ?_
 refine br ?_ ?_
 refine ix ?_;intro x12
 intro h;cases sj h
 refine (hK6 _ _).trans ?_
 refine Eq.trans ?_ (Eq.symm (show _=some _ from hr8))
 conv=>lhs;whnf
 exact rq
 refine ix ?_;intro x13
 intro h;refine bind_some2 h ?_;clear h;intro o22 ho22 h
 refine lq (σ:=Int) (τ:=Unit) (ν:=(Int×Int)) 2 (fun s14 a16=>stOf 89 [(1,AV.ptr 0 0),(4,iA s1),(5,AV.sl 5 (List.map c_api_Node x13.f_E)),(6,iA s14)]) (fun s14 a16=>[Ob.var 26 [iA v0_p.f_Mod,AV.sl 3 (List.map c_api_Var v0_p.f_Locs),AV.sl 4 (List.map c_api_Thread v0_p.f_Threads),AV.sl 3 (List.map c_api_Claim v0_p.f_Claims)]]) (fun _ a59=>stOf 89 [(1,AV.ptr 0 0),(4,iA s1)]) (fun _ a59=>[Ob.var 26 [iA v0_p.f_Mod,AV.sl 3 (List.map c_api_Var v0_p.f_Locs),AV.sl 4 (List.map c_api_Thread v0_p.f_Threads),AV.sl 3 (List.map c_api_Claim v0_p.f_Claims)]]) (fun v=>(AV.tup [iA v.1,iA v.2],[])) (fun k s=>ref05_claims_L1 n v0_p x13 k s) (fun s=>rfl) o22 n 0 (fun _=>0) ho22 ?_ ?_
 intro k15 s14 a16 K17 cont18 hK19 hcont20 h hr21
 replace h:ref05_claims_L1 n v0_p x13 (k15+1) s14=some o22:=h
 rw [ref05_claims_L1] at h
 conv=>lhs;whnf
 revert h
 refine br ?_ ?_
 refine ix ?_;intro x24
 refine br ?_ ?_
 refine ca hc (fun _ h=>ok_ref05_Locs h) ?_;intro y26
 refine ca hc (fun _ h=>ok_ref05_Index h) ?_;intro y28
 refine br ?_ ?_
 intro h;cases sj h
 refine (hK19 _ _).trans ?_
 conv=>lhs;whnf
 refine (hK6 _ _).trans ?_
 refine Eq.trans ?_ (Eq.symm (show _=some _ from hr21))
 conv=>lhs;whnf
 exact rq
 refine br ?_ ?_
 refine ca hc (fun _ h=>ok_ref05_Threads h) ?_;intro y32
 refine ca hc (fun _ h=>ok_ref05_Index h) ?_;intro y34
 refine br ?_ ?_
 intro h;cases sj h
 refine (hK19 _ _).trans ?_
 conv=>lhs;whnf
 refine (hK6 _ _).trans ?_
 refine Eq.trans ?_ (Eq.symm (show _=some _ from hr21))
 conv=>lhs;whnf
 exact rq
 refine ix ?_;intro x37
 refine ca hc (fun _ h=>ok_ref05_Index h) ?_;intro y38
 refine br ?_ ?_
 intro h;cases sj h
 refine (hK19 _ _).trans ?_
 conv=>lhs;whnf
 refine (hK6 _ _).trans ?_
 refine Eq.trans ?_ (Eq.symm (show _=some _ from hr21))
 conv=>lhs;whnf
 exact rq
 refine br ?_ ?_
 refine br ?_ ?_
 intro h;cases sj h
 refine (hK19 _ _).trans ?_
 conv=>lhs;whnf
 refine (hK6 _ _).trans ?_
 refine Eq.trans ?_ (Eq.symm (show _=some _ from hr21))
 conv=>lhs;whnf
 exact rq
 exact fun h=>cq (hcont20 (IntKind.i64.wrap (s14+1)) (fun _=>0) h)
 exact fun h=>cq (hcont20 (IntKind.i64.wrap (s14+1)) (fun _=>0) h)
 refine br ?_ ?_
 refine br ?_ ?_
 intro h;cases sj h
 refine (hK19 _ _).trans ?_
 conv=>lhs;whnf
 refine (hK6 _ _).trans ?_
 refine Eq.trans ?_ (Eq.symm (show _=some _ from hr21))
 conv=>lhs;whnf
 exact rq
 exact fun h=>cq (hcont20 (IntKind.i64.wrap (s14+1)) (fun _=>0) h)
 exact fun h=>cq (hcont20 (IntKind.i64.wrap (s14+1)) (fun _=>0) h)
 refine br ?_ ?_
 refine ca hc (fun _ h=>ok_ref05_Threads h) ?_;intro y46
 refine ca hc (fun _ h=>ok_ref05_Index h) ?_;intro y48
 refine br ?_ ?_
 intro h;cases sj h
 refine (hK19 _ _).trans ?_
 conv=>lhs;whnf
 refine (hK6 _ _).trans ?_
 refine Eq.trans ?_ (Eq.symm (show _=some _ from hr21))
 conv=>lhs;whnf
 exact rq
 refine ix ?_;intro x51
 refine ca hc (fun _ h=>ok_ref05_Index h) ?_;intro y52
 refine br ?_ ?_
 intro h;cases sj h
 refine (hK19 _ _).trans ?_
 conv=>lhs;whnf
 refine (hK6 _ _).trans ?_
 refine Eq.trans ?_ (Eq.symm (show _=some _ from hr21))
 conv=>lhs;whnf
 exact rq
 refine br ?_ ?_
 refine br ?_ ?_
 intro h;cases sj h
 refine (hK19 _ _).trans ?_
 conv=>lhs;whnf
 refine (hK6 _ _).trans ?_
 refine Eq.trans ?_ (Eq.symm (show _=some _ from hr21))
 conv=>lhs;whnf
 exact rq
 exact fun h=>cq (hcont20 (IntKind.i64.wrap (s14+1)) (fun _=>0) h)
 exact fun h=>cq (hcont20 (IntKind.i64.wrap (s14+1)) (fun _=>0) h)
 refine br ?_ ?_
 refine br ?_ ?_
 intro h;cases sj h
 refine (hK19 _ _).trans ?_
 conv=>lhs;whnf
 refine (hK6 _ _).trans ?_
 refine Eq.trans ?_ (Eq.symm (show _=some _ from hr21))
 conv=>lhs;whnf
 exact rq
 exact fun h=>cq (hcont20 (IntKind.i64.wrap (s14+1)) (fun _=>0) h)
 exact fun h=>cq (hcont20 (IntKind.i64.wrap (s14+1)) (fun _=>0) h)
 intro h;cases sj h
 exact kq (hr21 (fun _=>0))
 refine lrc ?_ ?_
 intro v e;subst e;cases sj h;exact hr8
 intro t a59 e;subst e
 dsimp only at h
 conv=>lhs;whnf
 revert h
 exact fun h=>cq (hcont7 (IntKind.i64.wrap (s1+1)) (fun _=>0) h)
 intro h;cases sj h
 exact kq (hr8 (fun _=>0))
 refine lrc ?_ ?_
 intro v e;subst e;cases sj h;rfl
 intro t a61 e;subst e
 dsimp only at h
 conv=>lhs;whnf
 revert h
 exact rz
theorem ok_ref05_locs {n:Nat} ⦃v0_p:S_api_Prog⦄ ⦃r:(Int×Int)⦄:m_ref05_locs n v0_p=some r→CN n 22 [AV.agg [iA v0_p.f_Mod,AV.sl 3 (List.map c_api_Var v0_p.f_Locs),AV.sl 4 (List.map c_api_Thread v0_p.f_Threads),AV.sl 3 (List.map c_api_Claim v0_p.f_Claims)]] []=some (AV.tup [iA r.1,iA r.2],[]):=by
 intro h;rcases n with _|n;cases h
 rw [m_ref05_locs] at h
 refine callN_eq' Tryz.func22 (by rfl) rfl rfl (Nat.le_of_ble_eq_true rfl) ?_
 intro call hc;conv=>lhs;whnf
 revert h
 refine ca hc (fun _ h=>ok_ref05_Locs h) ?_;intro y1
 intro h;refine bind_some2 h ?_;clear h;intro o11 ho11 h
 refine lq (σ:=Int) (τ:=Unit) (ν:=(Int×Int)) 0 (fun s3 a5=>stOf 40 [(1,AV.ptr 0 0),(4,AV.sl 1 (List.map encS y1)),(5,iA s3)]) (fun s3 a5=>[Ob.var 26 [iA v0_p.f_Mod,AV.sl 3 (List.map c_api_Var v0_p.f_Locs),AV.sl 4 (List.map c_api_Thread v0_p.f_Threads),AV.sl 3 (List.map c_api_Claim v0_p.f_Claims)]]) (fun _ a19=>stOf 40 []) (fun _ a19=>[Ob.var 26 [iA v0_p.f_Mod,AV.sl 3 (List.map c_api_Var v0_p.f_Locs),AV.sl 4 (List.map c_api_Thread v0_p.f_Threads),AV.sl 3 (List.map c_api_Claim v0_p.f_Claims)]]) (fun v=>(AV.tup [iA v.1,iA v.2],[])) (fun k s=>ref05_locs_L0 n v0_p y1 k s) (fun s=>rfl) o11 n 0 (fun _=>0) ho11 ?_ ?_
 intro k4 s3 a5 K6 cont7 hK8 hcont9 h hr10
 replace h:ref05_locs_L0 n v0_p y1 (k4+1) s3=some o11:=h
 rw [ref05_locs_L0] at h
 conv=>lhs;whnf
 revert h
 refine br ?_ ?_
 refine ix ?_;intro x13
 refine br ?_ ?_
 intro h;cases sj h
 refine (hK8 _ _).trans ?_
 refine Eq.trans ?_ (Eq.symm (show _=some _ from hr10))
 conv=>lhs;whnf
 exact rq
 refine ca hc (fun _ h=>ok_ref05_Index h) ?_;intro y15
 refine br ?_ ?_
 intro h;cases sj h
 refine (hK8 _ _).trans ?_
 refine Eq.trans ?_ (Eq.symm (show _=some _ from hr10))
 conv=>lhs;whnf
 exact rq
 refine br ?_ ?_
 intro h;cases sj h
 refine (hK8 _ _).trans ?_
 refine Eq.trans ?_ (Eq.symm (show _=some _ from hr10))
 conv=>lhs;whnf
 exact rq
 exact fun h=>cq (hcont9 (IntKind.i64.wrap (s3+1)) (fun _=>0) h)
 intro h;cases sj h
 exact kq (hr10 (fun _=>0))
 refine lrc ?_ ?_
 intro v e;subst e;cases sj h;rfl
 intro t a19 e;subst e
 dsimp only at h
 conv=>lhs;whnf
 revert h
 exact rz
theorem ok_ref05_looped {n:Nat} ⦃v0_l:(List S_api_Stmt)⦄ ⦃v1_at:Int⦄ ⦃r:Bool⦄:m_ref05_looped n v0_l v1_at=some r→CN n 81 [AV.sl 9 (List.map c_api_Stmt v0_l),iA v1_at] []=some (bA r,[]):=by
 intro h;rcases n with _|n;cases h
 rw [m_ref05_looped] at h
 refine callN_eq' Tryz.func81 (by rfl) rfl rfl (Nat.le_of_ble_eq_true rfl) ?_
 intro call hc;conv=>lhs;whnf
 revert h
 intro h;refine bind_some2 h ?_;clear h;intro o9 ho9 h
 refine lq (σ:=Int) (τ:=Unit) (ν:=Bool) 0 (fun s1 a3=>stOf 36 [(0,AV.sl 9 (List.map c_api_Stmt v0_l)),(1,iA v1_at),(5,iA s1)]) (fun s1 a3=>[]) (fun _ a19=>stOf 36 []) (fun _ a19=>[]) (fun v=>(bA v,[])) (fun k s=>ref05_looped_L0 n v0_l v1_at k s) (fun s=>rfl) o9 n 0 (fun _=>0) ho9 ?_ ?_
 intro k2 s1 a3 K4 cont5 hK6 hcont7 h hr8
 replace h:ref05_looped_L0 n v0_l v1_at (k2+1) s1=some o9:=h
 rw [ref05_looped_L0] at h
 conv=>lhs;whnf
 revert h
 refine br ?_ ?_
 refine ix ?_;intro x11
 refine br ?_ ?_
 refine ix ?_;intro x13
 refine br ?_ ?_
 intro h;cases sj h
 refine (hK6 _ _).trans ?_
 refine Eq.trans ?_ (Eq.symm (show _=some _ from hr8))
 conv=>lhs;whnf
 exact rq
 exact fun h=>cq (hcont7 (IntKind.i64.wrap (s1+1)) (fun _=>0) h)
 refine ix ?_;intro x15
 refine br ?_ ?_
 refine ix ?_;intro x17
 refine br ?_ ?_
 intro h;cases sj h
 refine (hK6 _ _).trans ?_
 refine Eq.trans ?_ (Eq.symm (show _=some _ from hr8))
 conv=>lhs;whnf
 exact rq
 exact fun h=>cq (hcont7 (IntKind.i64.wrap (s1+1)) (fun _=>0) h)
 exact fun h=>cq (hcont7 (IntKind.i64.wrap (s1+1)) (fun _=>0) h)
 intro h;cases sj h
 exact kq (hr8 (fun _=>0))
 refine lrc ?_ ?_
 intro v e;subst e;cases sj h;rfl
 intro t a19 e;subst e
 dsimp only at h
 conv=>lhs;whnf
 revert h
 exact rz
theorem ok_ref05_nodes {n:Nat} ⦃v0_p:S_api_Prog⦄ ⦃v1_regs:(List (List UInt8))⦄ ⦃v2_l:(List S_api_Node)⦄ ⦃r:(Int×Int)⦄:m_ref05_nodes n v0_p v1_regs v2_l=some r→CN n 82 [AV.agg [iA v0_p.f_Mod,AV.sl 3 (List.map c_api_Var v0_p.f_Locs),AV.sl 4 (List.map c_api_Thread v0_p.f_Threads),AV.sl 3 (List.map c_api_Claim v0_p.f_Claims)],AV.sl 1 (List.map encS v1_regs),AV.sl 5 (List.map c_api_Node v2_l)] []=some (AV.tup [iA r.1,iA r.2],[]):=by
 intro h;rcases n with _|n;cases h
 rw [m_ref05_nodes] at h
 refine callN_eq' Tryz.func82 (by rfl) rfl rfl (Nat.le_of_ble_eq_true rfl) ?_
 intro call hc;conv=>lhs;whnf
 revert h
 intro h;refine bind_some2 h ?_;clear h;intro o9 ho9 h
 refine lq (σ:=Int) (τ:=Unit) (ν:=(Int×Int)) 0 (fun s1 a3=>stOf 57 [(1,AV.sl 1 (List.map encS v1_regs)),(2,AV.sl 5 (List.map c_api_Node v2_l)),(3,AV.ptr 0 0),(8,iA s1)]) (fun s1 a3=>[Ob.var 26 [iA v0_p.f_Mod,AV.sl 3 (List.map c_api_Var v0_p.f_Locs),AV.sl 4 (List.map c_api_Thread v0_p.f_Threads),AV.sl 3 (List.map c_api_Claim v0_p.f_Claims)]]) (fun _ a28=>stOf 57 []) (fun _ a28=>[Ob.var 26 [iA v0_p.f_Mod,AV.sl 3 (List.map c_api_Var v0_p.f_Locs),AV.sl 4 (List.map c_api_Thread v0_p.f_Threads),AV.sl 3 (List.map c_api_Claim v0_p.f_Claims)]]) (fun v=>(AV.tup [iA v.1,iA v.2],[])) (fun k s=>ref05_nodes_L0 n v0_p v1_regs v2_l k s) (fun s=>rfl) o9 n 0 (fun _=>0) ho9 ?_ ?_
 intro k2 s1 a3 K4 cont5 hK6 hcont7 h hr8
 replace h:ref05_nodes_L0 n v0_p v1_regs v2_l (k2+1) s1=some o9:=h
 rw [ref05_nodes_L0] at h
 conv=>lhs;whnf
 revert h
 refine br ?_ ?_
 refine ix ?_;intro x11
 refine br ?_ ?_
 refine ix ?_;intro x13
 refine ca hc (fun _ h=>ok_ref05_Index h) ?_;intro y14
 refine br ?_ ?_
 refine ix ?_;intro x17
 intro h;cases sj h
 refine (hK6 _ _).trans ?_
 refine Eq.trans ?_ (Eq.symm (show _=some _ from hr8))
 conv=>lhs;whnf
 exact rq
 refine ix ?_;intro x18
 refine br ?_ ?_
 refine ix ?_;intro x20
 refine br ?_ ?_
 refine ix ?_;intro x22
 intro h;cases sj h
 refine (hK6 _ _).trans ?_
 refine Eq.trans ?_ (Eq.symm (show _=some _ from hr8))
 conv=>lhs;whnf
 exact rq
 exact fun h=>cq (hcont7 (IntKind.i64.wrap (s1+1)) (fun _=>0) h)
 exact fun h=>cq (hcont7 (IntKind.i64.wrap (s1+1)) (fun _=>0) h)
 refine ix ?_;intro x23
 refine br ?_ ?_
 refine ix ?_;intro x25
 refine br ?_ ?_
 refine ix ?_;intro x27
 intro h;cases sj h
 refine (hK6 _ _).trans ?_
 refine Eq.trans ?_ (Eq.symm (show _=some _ from hr8))
 conv=>lhs;whnf
 exact rq
 exact fun h=>cq (hcont7 (IntKind.i64.wrap (s1+1)) (fun _=>0) h)
 exact fun h=>cq (hcont7 (IntKind.i64.wrap (s1+1)) (fun _=>0) h)
 intro h;cases sj h
 exact kq (hr8 (fun _=>0))
 refine lrc ?_ ?_
 intro v e;subst e;cases sj h;rfl
 intro t a28 e;subst e
 dsimp only at h
 conv=>lhs;whnf
 revert h
 exact rz
theorem ok_ref05_body {n:Nat} ⦃v0_p:S_api_Prog⦄ ⦃v1_t:S_api_Thread⦄ ⦃r:(Int×Int)⦄:m_ref05_body n v0_p v1_t=some r→CN n 56 [AV.agg [iA v0_p.f_Mod,AV.sl 3 (List.map c_api_Var v0_p.f_Locs),AV.sl 4 (List.map c_api_Thread v0_p.f_Threads),AV.sl 3 (List.map c_api_Claim v0_p.f_Claims)],AV.agg [sA v1_t.f_Name,AV.sl 1 (List.map encS v1_t.f_Regs),AV.sl 9 (List.map c_api_Stmt v1_t.f_Body),iA v1_t.f_At]] []=some (AV.tup [iA r.1,iA r.2],[]):=by
 intro h;rcases n with _|n;cases h
 rw [m_ref05_body] at h
 refine callN_eq' Tryz.func56 (by rfl) rfl rfl (Nat.le_of_ble_eq_true rfl) ?_
 intro call hc;conv=>lhs;whnf
 revert h
 intro h;refine bind_some2 h ?_;clear h;intro o9 ho9 h
 refine lq (σ:=Int) (τ:=Unit) (ν:=(Int×Int)) 0 (fun s1 a3=>stOf 88 [(2,AV.ptr 0 0),(3,AV.ptr 1 0),(6,iA s1)]) (fun s1 a3=>[Ob.var 26 [iA v0_p.f_Mod,AV.sl 3 (List.map c_api_Var v0_p.f_Locs),AV.sl 4 (List.map c_api_Thread v0_p.f_Threads),AV.sl 3 (List.map c_api_Claim v0_p.f_Claims)],Ob.var 52 [sA v1_t.f_Name,AV.sl 1 (List.map encS v1_t.f_Regs),AV.sl 9 (List.map c_api_Stmt v1_t.f_Body),iA v1_t.f_At]]) (fun _ a96=>stOf 88 []) (fun _ a96=>[Ob.var 26 [iA v0_p.f_Mod,AV.sl 3 (List.map c_api_Var v0_p.f_Locs),AV.sl 4 (List.map c_api_Thread v0_p.f_Threads),AV.sl 3 (List.map c_api_Claim v0_p.f_Claims)],Ob.var 52 [sA v1_t.f_Name,AV.sl 1 (List.map encS v1_t.f_Regs),AV.sl 9 (List.map c_api_Stmt v1_t.f_Body),iA v1_t.f_At]]) (fun v=>(AV.tup [iA v.1,iA v.2],[])) (fun k s=>ref05_body_L0 n v0_p v1_t k s) (fun s=>rfl) o9 n 0 (fun _=>0) ho9 ?_ ?_
 intro k2 s1 a3 K4 cont5 hK6 hcont7 h hr8
 replace h:ref05_body_L0 n v0_p v1_t (k2+1) s1=some o9:=h
 rw [ref05_body_L0] at h
 conv=>lhs;whnf
 revert h
 refine br ?_ ?_
 refine ix ?_;intro x11
 refine br ?_ ?_
 refine ca hc (fun _ h=>ok_ref05_looped h) ?_;intro y13
 refine br ?_ ?_
 refine br ?_ ?_
 refine br ?_ ?_
 refine ca hc (fun _ h=>ok_ref05_nodes h) ?_;intro y18
 refine br ?_ ?_
 intro h;cases sj h
 refine (hK6 _ _).trans ?_
 refine Eq.trans ?_ (Eq.symm (show _=some _ from hr8))
 conv=>lhs;whnf
 exact rq
 refine ca hc (fun _ h=>ok_ref05_nodes h) ?_;intro y21
 refine br ?_ ?_
 intro h;cases sj h
 refine (hK6 _ _).trans ?_
 refine Eq.trans ?_ (Eq.symm (show _=some _ from hr8))
 conv=>lhs;whnf
 exact rq
 exact fun h=>cq (hcont7 (IntKind.i64.wrap (s1+1)) (fun _=>0) h)
 refine ca hc (fun _ h=>ok_ref05_Locs h) ?_;intro y24
 refine ca hc (fun _ h=>ok_ref05_Index h) ?_;intro y26
 refine br ?_ ?_
 intro h;cases sj h
 refine (hK6 _ _).trans ?_
 refine Eq.trans ?_ (Eq.symm (show _=some _ from hr8))
 conv=>lhs;whnf
 exact rq
 refine ca hc (fun _ h=>ok_ref05_nodes h) ?_;intro y29
 refine br ?_ ?_
 intro h;cases sj h
 refine (hK6 _ _).trans ?_
 refine Eq.trans ?_ (Eq.symm (show _=some _ from hr8))
 conv=>lhs;whnf
 exact rq
 refine ca hc (fun _ h=>ok_ref05_nodes h) ?_;intro y32
 refine br ?_ ?_
 intro h;cases sj h
 refine (hK6 _ _).trans ?_
 refine Eq.trans ?_ (Eq.symm (show _=some _ from hr8))
 conv=>lhs;whnf
 exact rq
 exact fun h=>cq (hcont7 (IntKind.i64.wrap (s1+1)) (fun _=>0) h)
 refine ca hc (fun _ h=>ok_ref05_Index h) ?_;intro y35
 refine br ?_ ?_
 intro h;cases sj h
 refine (hK6 _ _).trans ?_
 refine Eq.trans ?_ (Eq.symm (show _=some _ from hr8))
 conv=>lhs;whnf
 exact rq
 refine br ?_ ?_
 refine ca hc (fun _ h=>ok_ref05_nodes h) ?_;intro y39
 refine br ?_ ?_
 intro h;cases sj h
 refine (hK6 _ _).trans ?_
 refine Eq.trans ?_ (Eq.symm (show _=some _ from hr8))
 conv=>lhs;whnf
 exact rq
 refine ca hc (fun _ h=>ok_ref05_nodes h) ?_;intro y42
 refine br ?_ ?_
 intro h;cases sj h
 refine (hK6 _ _).trans ?_
 refine Eq.trans ?_ (Eq.symm (show _=some _ from hr8))
 conv=>lhs;whnf
 exact rq
 exact fun h=>cq (hcont7 (IntKind.i64.wrap (s1+1)) (fun _=>0) h)
 refine ca hc (fun _ h=>ok_ref05_Locs h) ?_;intro y45
 refine ca hc (fun _ h=>ok_ref05_Index h) ?_;intro y47
 refine br ?_ ?_
 intro h;cases sj h
 refine (hK6 _ _).trans ?_
 refine Eq.trans ?_ (Eq.symm (show _=some _ from hr8))
 conv=>lhs;whnf
 exact rq
 refine ca hc (fun _ h=>ok_ref05_nodes h) ?_;intro y50
 refine br ?_ ?_
 intro h;cases sj h
 refine (hK6 _ _).trans ?_
 refine Eq.trans ?_ (Eq.symm (show _=some _ from hr8))
 conv=>lhs;whnf
 exact rq
 refine ca hc (fun _ h=>ok_ref05_nodes h) ?_;intro y53
 refine br ?_ ?_
 intro h;cases sj h
 refine (hK6 _ _).trans ?_
 refine Eq.trans ?_ (Eq.symm (show _=some _ from hr8))
 conv=>lhs;whnf
 exact rq
 exact fun h=>cq (hcont7 (IntKind.i64.wrap (s1+1)) (fun _=>0) h)
 intro h;cases sj h
 refine (hK6 _ _).trans ?_
 refine Eq.trans ?_ (Eq.symm (show _=some _ from hr8))
 conv=>lhs;whnf
 exact rq
 refine br ?_ ?_
 refine br ?_ ?_
 refine ca hc (fun _ h=>ok_ref05_nodes h) ?_;intro y58
 refine br ?_ ?_
 intro h;cases sj h
 refine (hK6 _ _).trans ?_
 refine Eq.trans ?_ (Eq.symm (show _=some _ from hr8))
 conv=>lhs;whnf
 exact rq
 refine ca hc (fun _ h=>ok_ref05_nodes h) ?_;intro y61
 refine br ?_ ?_
 intro h;cases sj h
 refine (hK6 _ _).trans ?_
 refine Eq.trans ?_ (Eq.symm (show _=some _ from hr8))
 conv=>lhs;whnf
 exact rq
 exact fun h=>cq (hcont7 (IntKind.i64.wrap (s1+1)) (fun _=>0) h)
 refine ca hc (fun _ h=>ok_ref05_Locs h) ?_;intro y64
 refine ca hc (fun _ h=>ok_ref05_Index h) ?_;intro y66
 refine br ?_ ?_
 intro h;cases sj h
 refine (hK6 _ _).trans ?_
 refine Eq.trans ?_ (Eq.symm (show _=some _ from hr8))
 conv=>lhs;whnf
 exact rq
 refine ca hc (fun _ h=>ok_ref05_nodes h) ?_;intro y69
 refine br ?_ ?_
 intro h;cases sj h
 refine (hK6 _ _).trans ?_
 refine Eq.trans ?_ (Eq.symm (show _=some _ from hr8))
 conv=>lhs;whnf
 exact rq
 refine ca hc (fun _ h=>ok_ref05_nodes h) ?_;intro y72
 refine br ?_ ?_
 intro h;cases sj h
 refine (hK6 _ _).trans ?_
 refine Eq.trans ?_ (Eq.symm (show _=some _ from hr8))
 conv=>lhs;whnf
 exact rq
 exact fun h=>cq (hcont7 (IntKind.i64.wrap (s1+1)) (fun _=>0) h)
 refine ca hc (fun _ h=>ok_ref05_Index h) ?_;intro y75
 refine br ?_ ?_
 intro h;cases sj h
 refine (hK6 _ _).trans ?_
 refine Eq.trans ?_ (Eq.symm (show _=some _ from hr8))
 conv=>lhs;whnf
 exact rq
 refine br ?_ ?_
 refine ca hc (fun _ h=>ok_ref05_nodes h) ?_;intro y79
 refine br ?_ ?_
 intro h;cases sj h
 refine (hK6 _ _).trans ?_
 refine Eq.trans ?_ (Eq.symm (show _=some _ from hr8))
 conv=>lhs;whnf
 exact rq
 refine ca hc (fun _ h=>ok_ref05_nodes h) ?_;intro y82
 refine br ?_ ?_
 intro h;cases sj h
 refine (hK6 _ _).trans ?_
 refine Eq.trans ?_ (Eq.symm (show _=some _ from hr8))
 conv=>lhs;whnf
 exact rq
 exact fun h=>cq (hcont7 (IntKind.i64.wrap (s1+1)) (fun _=>0) h)
 refine ca hc (fun _ h=>ok_ref05_Locs h) ?_;intro y85
 refine ca hc (fun _ h=>ok_ref05_Index h) ?_;intro y87
 refine br ?_ ?_
 intro h;cases sj h
 refine (hK6 _ _).trans ?_
 refine Eq.trans ?_ (Eq.symm (show _=some _ from hr8))
 conv=>lhs;whnf
 exact rq
 refine ca hc (fun _ h=>ok_ref05_nodes h) ?_;intro y90
 refine br ?_ ?_
 intro h;cases sj h
 refine (hK6 _ _).trans ?_
 refine Eq.trans ?_ (Eq.symm (show _=some _ from hr8))
 conv=>lhs;whnf
 exact rq
 refine ca hc (fun _ h=>ok_ref05_nodes h) ?_;intro y93
 refine br ?_ ?_
 intro h;cases sj h
 refine (hK6 _ _).trans ?_
 refine Eq.trans ?_ (Eq.symm (show _=some _ from hr8))
 conv=>lhs;whnf
 exact rq
 exact fun h=>cq (hcont7 (IntKind.i64.wrap (s1+1)) (fun _=>0) h)
 intro h;cases sj h
 exact kq (hr8 (fun _=>0))
 refine lrc ?_ ?_
 intro v e;subst e;cases sj h;rfl
 intro t a96 e;subst e
 dsimp only at h
 conv=>lhs;whnf
 revert h
 exact rz
theorem ok_ref05_threads {n:Nat} ⦃v0_p:S_api_Prog⦄ ⦃r:(Int×Int)⦄:m_ref05_threads n v0_p=some r→CN n 23 [AV.agg [iA v0_p.f_Mod,AV.sl 3 (List.map c_api_Var v0_p.f_Locs),AV.sl 4 (List.map c_api_Thread v0_p.f_Threads),AV.sl 3 (List.map c_api_Claim v0_p.f_Claims)]] []=some (AV.tup [iA r.1,iA r.2],[]):=by
 intro h;rcases n with _|n;cases h
 rw [m_ref05_threads] at h
 refine callN_eq' Tryz.func23 (by rfl) rfl rfl (Nat.le_of_ble_eq_true rfl) ?_
 intro call hc;conv=>lhs;whnf
 revert h
 refine br ?_ ?_
 exact rz
 refine ca hc (fun _ h=>ok_ref05_Threads h) ?_;intro y2
 intro h;refine bind_some2 h ?_;clear h;intro o12 ho12 h
 refine lq (σ:=Int) (τ:=Unit) (ν:=(Int×Int)) 0 (fun s4 a6=>stOf 86 [(1,AV.ptr 0 0),(4,AV.sl 1 (List.map encS y2)),(5,iA s4)]) (fun s4 a6=>[Ob.var 26 [iA v0_p.f_Mod,AV.sl 3 (List.map c_api_Var v0_p.f_Locs),AV.sl 4 (List.map c_api_Thread v0_p.f_Threads),AV.sl 3 (List.map c_api_Claim v0_p.f_Claims)]]) (fun _ a45=>stOf 86 []) (fun _ a45=>[Ob.var 26 [iA v0_p.f_Mod,AV.sl 3 (List.map c_api_Var v0_p.f_Locs),AV.sl 4 (List.map c_api_Thread v0_p.f_Threads),AV.sl 3 (List.map c_api_Claim v0_p.f_Claims)]]) (fun v=>(AV.tup [iA v.1,iA v.2],[])) (fun k s=>ref05_threads_L0 n v0_p y2 k s) (fun s=>rfl) o12 n 0 (fun _=>0) ho12 ?_ ?_
 intro k5 s4 a6 K7 cont8 hK9 hcont10 h hr11
 replace h:ref05_threads_L0 n v0_p y2 (k5+1) s4=some o12:=h
 rw [ref05_threads_L0] at h
 conv=>lhs;whnf
 revert h
 refine br ?_ ?_
 refine ix ?_;intro x14
 refine br ?_ ?_
 intro h;cases sj h
 refine (hK9 _ _).trans ?_
 refine Eq.trans ?_ (Eq.symm (show _=some _ from hr11))
 conv=>lhs;whnf
 exact rq
 refine ca hc (fun _ h=>ok_ref05_Index h) ?_;intro y16
 refine br ?_ ?_
 intro h;cases sj h
 refine (hK9 _ _).trans ?_
 refine Eq.trans ?_ (Eq.symm (show _=some _ from hr11))
 conv=>lhs;whnf
 exact rq
 refine br ?_ ?_
 intro h;cases sj h
 refine (hK9 _ _).trans ?_
 refine Eq.trans ?_ (Eq.symm (show _=some _ from hr11))
 conv=>lhs;whnf
 exact rq
 intro h;refine bind_some2 h ?_;clear h;intro o28 ho28 h
 refine lq (σ:=Int) (τ:=Unit) (ν:=(Int×Int)) 2 (fun s20 a22=>stOf 86 [(1,AV.ptr 0 0),(4,AV.sl 1 (List.map encS y2)),(5,iA s4),(6,AV.ptr 1 0),(7,iA s20)]) (fun s20 a22=>[Ob.var 26 [iA v0_p.f_Mod,AV.sl 3 (List.map c_api_Var v0_p.f_Locs),AV.sl 4 (List.map c_api_Thread v0_p.f_Threads),AV.sl 3 (List.map c_api_Claim v0_p.f_Claims)],Ob.var 52 [sA x14.f_Name,AV.sl 1 (List.map encS x14.f_Regs),AV.sl 9 (List.map c_api_Stmt x14.f_Body),iA x14.f_At]]) (fun _ a40=>stOf 86 [(1,AV.ptr 0 0),(4,AV.sl 1 (List.map encS y2)),(5,iA s4),(6,AV.ptr 1 0)]) (fun _ a40=>[Ob.var 26 [iA v0_p.f_Mod,AV.sl 3 (List.map c_api_Var v0_p.f_Locs),AV.sl 4 (List.map c_api_Thread v0_p.f_Threads),AV.sl 3 (List.map c_api_Claim v0_p.f_Claims)],Ob.var 52 [sA x14.f_Name,AV.sl 1 (List.map encS x14.f_Regs),AV.sl 9 (List.map c_api_Stmt x14.f_Body),iA x14.f_At]]) (fun v=>(AV.tup [iA v.1,iA v.2],[])) (fun k s=>ref05_threads_L1 n v0_p x14 k s) (fun s=>rfl) o28 n 0 (fun _=>0) ho28 ?_ ?_
 intro k21 s20 a22 K23 cont24 hK25 hcont26 h hr27
 replace h:ref05_threads_L1 n v0_p x14 (k21+1) s20=some o28:=h
 rw [ref05_threads_L1] at h
 conv=>lhs;whnf
 revert h
 refine br ?_ ?_
 refine ix ?_;intro x30
 refine ca hc (fun _ h=>ok_ref05_Index h) ?_;intro y31
 refine br ?_ ?_
 intro h;cases sj h
 refine (hK25 _ _).trans ?_
 conv=>lhs;whnf
 refine (hK9 _ _).trans ?_
 refine Eq.trans ?_ (Eq.symm (show _=some _ from hr27))
 conv=>lhs;whnf
 exact rq
 refine ca hc (fun _ h=>ok_ref05_Locs h) ?_;intro y34
 refine ix ?_;intro x36
 refine ca hc (fun _ h=>ok_ref05_Index h) ?_;intro y37
 refine br ?_ ?_
 intro h;cases sj h
 refine (hK25 _ _).trans ?_
 conv=>lhs;whnf
 refine (hK9 _ _).trans ?_
 refine Eq.trans ?_ (Eq.symm (show _=some _ from hr27))
 conv=>lhs;whnf
 exact rq
 exact fun h=>cq (hcont26 (IntKind.i64.wrap (s20+1)) (fun _=>0) h)
 intro h;cases sj h
 exact kq (hr27 (fun _=>0))
 refine lrc ?_ ?_
 intro v e;subst e;cases sj h;exact hr11
 intro t a40 e;subst e
 dsimp only at h
 conv=>lhs;whnf
 revert h
 refine ca hc (fun _ h=>ok_ref05_body h) ?_;intro y41
 refine br ?_ ?_
 intro h;cases sj h
 refine (hK9 _ _).trans ?_
 refine Eq.trans ?_ (Eq.symm (show _=some _ from hr11))
 conv=>lhs;whnf
 exact rq
 exact fun h=>cq (hcont10 (IntKind.i64.wrap (s4+1)) (fun _=>0) h)
 intro h;cases sj h
 exact kq (hr11 (fun _=>0))
 refine lrc ?_ ?_
 intro v e;subst e;cases sj h;rfl
 intro t a45 e;subst e
 dsimp only at h
 conv=>lhs;whnf
 revert h
 exact rz
theorem ok_ref05_Check {n:Nat} ⦃v0_p:S_api_Prog⦄ ⦃r:(Int×Int)⦄:m_ref05_Check n v0_p=some r→CN n 6 [AV.agg [iA v0_p.f_Mod,AV.sl 3 (List.map c_api_Var v0_p.f_Locs),AV.sl 4 (List.map c_api_Thread v0_p.f_Threads),AV.sl 3 (List.map c_api_Claim v0_p.f_Claims)]] []=some (AV.tup [iA r.1,iA r.2],[]):=by
 intro h;rcases n with _|n;cases h
 rw [m_ref05_Check] at h
 refine callN_eq' Tryz.func6 (by rfl) rfl rfl (Nat.le_of_ble_eq_true rfl) ?_
 intro call hc;conv=>lhs;whnf
 revert h
 refine ca hc (fun _ h=>ok_ref04_Right h) ?_;intro y1
 refine br ?_ ?_
 refine br ?_ ?_
 exact rz
 refine br ?_ ?_
 exact rz
 refine ca hc (fun _ h=>ok_ref05_locs h) ?_;intro y6
 refine br ?_ ?_
 exact rz
 refine ca hc (fun _ h=>ok_ref05_threads h) ?_;intro y9
 refine br ?_ ?_
 exact rz
 refine ca hc (fun _ h=>ok_ref05_claims h) ?_;intro y12
 exact rz
 exact rz
end Go.Proofs.YtgelgahilfojdaaGreat
end
section
namespace Go.Proofs.YtgelgahilfojdaaGreat
set_option linter.unusedVariables false
set_option linter.unusedSimpArgs false
set_option maxRecDepth 100000
set_option maxHeartbeats 4000000
theorem ok_law26_GenLegal {n:Nat} ⦃v0_kind:Int⦄ ⦃v1_n:Int⦄ ⦃v2_mod:Int⦄ ⦃r:Bool⦄:m_law26_GenLegal n v0_kind v1_n v2_mod=some r→CN n 3 [AV.int .u8 v0_kind,AV.int .u8 v1_n,AV.int .u8 v2_mod] []=some (bA r,[]):=by
 intro h;rcases n with _|n;cases h
 rw [m_law26_GenLegal] at h
 refine callN_eq' Tryz.func3 (by rfl) rfl rfl (Nat.le_of_ble_eq_true rfl) ?_
 intro call hc;conv=>lhs;whnf
 revert h
 refine bf ?_
 refine ca hc (fun _ h=>ok_gen_Make h) ?_;intro y2
 refine ca hc (fun _ h=>ok_ref05_Check h) ?_;intro y4
 refine ca hc (fun _ h=>ok_gen_Text h) ?_;intro y6
 refine ca hc (fun _ h=>ok_ref04_Parse h) ?_;intro y8
 refine br ?_ ?_
 refine br ?_ ?_
 refine br ?_ ?_
 refine ca hc (fun _ h=>ok_ref04_Same h) ?_;intro y13
 refine br ?_ ?_
 refine br ?_ ?_
 refine br ?_ ?_
 refine ca hc (fun _ h=>ok_law26_known h) ?_;intro y18
 exact rz
 exact rz
 exact rz
 exact rz
 exact rz
 exact rz
 exact rz
end Go.Proofs.YtgelgahilfojdaaGreat
end
