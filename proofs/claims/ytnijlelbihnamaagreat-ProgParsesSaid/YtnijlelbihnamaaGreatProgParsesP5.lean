/- Parts of the proofs: what they lean on. Conditions: none. -/
import Derived.Test.YtnijlelbihnamaaGreatProgParsesP4
section
namespace Go.Proofs.YtnijlelbihnamaaGreat
set_option linter.unusedVariables false
set_option linter.unusedSimpArgs false
set_option maxRecDepth 100000
set_option maxHeartbeats 4000000
theorem A4r {n:Nat} ⦃Bp:Az⦄ ⦃Bt:Az⦄ ⦃Er:Bool⦄ ⦃r:Bool⦄:O0 n Bp Bt Er=some r→CN n 8 [AV.agg [iA Bp.Bo,AV.sl 3 (List.map Am Bp.B0),AV.sl 4 (List.map Ad Bp.Ak),AV.sl 3 (List.map Aj Bp.Ar)],AV.agg [iA Bt.Bo,AV.sl 3 (List.map Am Bt.B0),AV.sl 4 (List.map Ad Bt.Ak),AV.sl 3 (List.map Aj Bt.Ar)],bA Er] []=some (bA r,[]):=by
 intro h;rcases n with _|n;cases h
 rw[O0] at h
 refine Ai Tryz.func8 (by rfl) rfl rfl (Ap rfl) ?_
 intro call hc;conv=>lhs;whnf
 revert h
 refine br ?_ ?_
 exact rz
 refine br ?_ ?_
 exact rz
 refine br ?_ ?_
 exact rz
 refine br ?_ ?_
 exact rz
 intro h;refine As h ?_;clear h;intro o14 ho14 h
 refine lq (σ:=(Bool×Int)) (τ:=Bool) (ν:=Bool) 0 (fun(s5,s6) a8=>B9 221 [(2,bA s5),(3,AV.ptr 0 0),(4,AV.ptr 1 0),(7,iA s6)]) (fun(s5,s6) a8=>[Ob.var 27 [iA Bp.Bo,AV.sl 3 (List.map Am Bp.B0),AV.sl 4 (List.map Ad Bp.Ak),AV.sl 3 (List.map Aj Bp.Ar)],Ob.var 27 [iA Bt.Bo,AV.sl 3 (List.map Am Bt.B0),AV.sl 4 (List.map Ad Bt.Ak),AV.sl 3 (List.map Aj Bt.Ar)]]) (fun x27 a26=>B9 221 [(2,bA x27),(3,AV.ptr 0 0),(4,AV.ptr 1 0)]) (fun x27 a26=>[Ob.var 27 [iA Bp.Bo,AV.sl 3 (List.map Am Bp.B0),AV.sl 4 (List.map Ad Bp.Ak),AV.sl 3 (List.map Aj Bp.Ar)],Ob.var 27 [iA Bt.Bo,AV.sl 3 (List.map Am Bt.B0),AV.sl 4 (List.map Ad Bt.Ak),AV.sl 3 (List.map Aj Bt.Ar)]]) (fun v=>(bA v,[])) (fun k s=>Fw n Bp Bt k s.1 s.2) (fun s=>rfl) o14 n (Er,0) (fun _=>0) ho14 ?_ ?_
 intro k7 ss a8 K9 cont10 hK11 hcont12 h hr13
 obtain⟨s5,s6⟩:=ss
 replace h:Fw n Bp Bt (k7+1) s5 s6=some o14:=h
 rw[Fw] at h
 conv=>lhs;whnf
 revert h
 refine br ?_ ?_
 refine ix ?_;intro x16
 refine ix ?_;intro x17
 refine br ?_ ?_
 refine ix ?_;intro x19
 refine ix ?_;intro x20
 refine br ?_ ?_
 intro h;cases sj h
 refine(hK11 _ _).trans ?_
 refine Eq.trans ?_ (Eq.symm (show _=some _ from hr13))
 conv=>lhs;whnf
 exact rq
 refine br ?_ ?_
 refine ix ?_;intro x23
 refine ix ?_;intro x24
 refine br ?_ ?_
 intro h;cases sj h
 refine(hK11 _ _).trans ?_
 refine Eq.trans ?_ (Eq.symm (show _=some _ from hr13))
 conv=>lhs;whnf
 exact rq
 exact fun h=>cq (hcont12 (true,IntKind.i64.wrap (s6+1)) (fun _=>0) h)
 exact fun h=>cq (hcont12 (false,IntKind.i64.wrap (s6+1)) (fun _=>0) h)
 intro h;cases sj h
 refine(hK11 _ _).trans ?_
 refine Eq.trans ?_ (Eq.symm (show _=some _ from hr13))
 conv=>lhs;whnf
 exact rq
 intro h;cases sj h
 exact kq (hr13 (fun _=>0))
 refine lrc ?_ ?_
 intro v e;subst e;cases sj h;rfl
 intro x27 a26 e;subst e
 dsimp only at h
 conv=>lhs;whnf
 revert h
 intro h;refine As h ?_;clear h;intro o37 ho37 h
 refine lq (σ:=(Bool×Int)) (τ:=Bool) (ν:=Bool) 2 (fun(s28,s29) a31=>B9 221 [(2,bA s28),(3,AV.ptr 0 0),(4,AV.ptr 1 0),(8,iA s29)]) (fun(s28,s29) a31=>[Ob.var 27 [iA Bp.Bo,AV.sl 3 (List.map Am Bp.B0),AV.sl 4 (List.map Ad Bp.Ak),AV.sl 3 (List.map Aj Bp.Ar)],Ob.var 27 [iA Bt.Bo,AV.sl 3 (List.map Am Bt.B0),AV.sl 4 (List.map Ad Bt.Ak),AV.sl 3 (List.map Aj Bt.Ar)]]) (fun x79 a78=>B9 221 [(2,bA x79),(3,AV.ptr 0 0),(4,AV.ptr 1 0)]) (fun x79 a78=>[Ob.var 27 [iA Bp.Bo,AV.sl 3 (List.map Am Bp.B0),AV.sl 4 (List.map Ad Bp.Ak),AV.sl 3 (List.map Aj Bp.Ar)],Ob.var 27 [iA Bt.Bo,AV.sl 3 (List.map Am Bt.B0),AV.sl 4 (List.map Ad Bt.Ak),AV.sl 3 (List.map Aj Bt.Ar)]]) (fun v=>(bA v,[])) (fun k s=>Fx n Bp Bt k s.1 s.2) (fun s=>rfl) o37 n (x27,0) (fun _=>0) ho37 ?_ ?_
 intro k30 ss a31 K32 cont33 hK34 hcont35 h hr36
 obtain⟨s28,s29⟩:=ss
 replace h:Fx n Bp Bt (k30+1) s28 s29=some o37:=h
 rw[Fx] at h
 conv=>lhs;whnf
 revert h
 refine br ?_ ?_
 refine ix ?_;intro x39
 refine ix ?_;intro x40
 refine br ?_ ?_
 refine br ?_ ?_
 intro h;cases sj h
 refine(hK34 _ _).trans ?_
 refine Eq.trans ?_ (Eq.symm (show _=some _ from hr36))
 conv=>lhs;whnf
 exact rq
 refine ca hc (fun _ h=>A50 h) ?_;intro y43
 refine br ?_ ?_
 refine br ?_ ?_
 refine br ?_ ?_
 intro h;cases sj h
 refine(hK34 _ _).trans ?_
 refine Eq.trans ?_ (Eq.symm (show _=some _ from hr36))
 conv=>lhs;whnf
 exact rq
 intro h;refine As h ?_;clear h;intro o56 ho56 h
 refine lq (σ:=Int) (τ:=Unit) (ν:=Bool) 4 (fun s48 a50=>B9 221 [(2,bA true),(3,AV.ptr 0 0),(4,AV.ptr 1 0),(8,iA s29),(9,AV.ptr 2 0),(10,AV.ptr 3 0),(11,iA s48)]) (fun s48 a50=>[Ob.var 27 [iA Bp.Bo,AV.sl 3 (List.map Am Bp.B0),AV.sl 4 (List.map Ad Bp.Ak),AV.sl 3 (List.map Aj Bp.Ar)],Ob.var 27 [iA Bt.Bo,AV.sl 3 (List.map Am Bt.B0),AV.sl 4 (List.map Ad Bt.Ak),AV.sl 3 (List.map Aj Bt.Ar)],Ob.var 39 [sA x39.Ao,AV.sl 1 (List.map Dv x39.Bh),AV.sl 9 (List.map A9 x39.B5),iA x39.Ab],Ob.var 39 [sA x40.Ao,AV.sl 1 (List.map Dv x40.Bh),AV.sl 9 (List.map A9 x40.B5),iA x40.Ab]]) (fun _ a61=>B9 221 [(2,bA true),(3,AV.ptr 0 0),(4,AV.ptr 1 0),(8,iA s29)]) (fun _ a61=>[Ob.var 27 [iA Bp.Bo,AV.sl 3 (List.map Am Bp.B0),AV.sl 4 (List.map Ad Bp.Ak),AV.sl 3 (List.map Aj Bp.Ar)],Ob.var 27 [iA Bt.Bo,AV.sl 3 (List.map Am Bt.B0),AV.sl 4 (List.map Ad Bt.Ak),AV.sl 3 (List.map Aj Bt.Ar)],Ob.var 39 [sA x39.Ao,AV.sl 1 (List.map Dv x39.Bh),AV.sl 9 (List.map A9 x39.B5),iA x39.Ab],Ob.var 39 [sA x40.Ao,AV.sl 1 (List.map Dv x40.Bh),AV.sl 9 (List.map A9 x40.B5),iA x40.Ab]]) (fun v=>(bA v,[])) (fun k s=>Gm n x39 x40 k s) (fun s=>rfl) o56 n 0 (fun _=>0) ho56 ?_ ?_
 intro k49 s48 a50 K51 cont52 hK53 hcont54 h hr55
 replace h:Gm n x39 x40 (k49+1) s48=some o56:=h
 rw[Gm] at h
 conv=>lhs;whnf
 revert h
 refine br ?_ ?_
 refine ix ?_;intro x58
 refine ix ?_;intro x59
 refine br ?_ ?_
 exact fun h=>cq (hcont54 (IntKind.i64.wrap (s48+1)) (fun _=>0) h)
 intro h;cases sj h
 refine(hK53 _ _).trans ?_
 conv=>lhs;whnf
 refine(hK34 _ _).trans ?_
 refine Eq.trans ?_ (Eq.symm (show _=some _ from hr55))
 conv=>lhs;whnf
 exact rq
 intro h;cases sj h
 exact kq (hr55 (fun _=>0))
 refine lrc ?_ ?_
 intro v e;subst e;cases sj h;exact hr36
 intro t a61 e;subst e
 dsimp only at h
 conv=>lhs;whnf
 revert h
 exact fun h=>cq (hcont35 (true,IntKind.i64.wrap (s29+1)) (fun _=>0) h)
 intro h;refine As h ?_;clear h;intro o71 ho71 h
 refine lq (σ:=Int) (τ:=Unit) (ν:=Bool) 4 (fun s63 a65=>B9 221 [(2,bA false),(3,AV.ptr 0 0),(4,AV.ptr 1 0),(8,iA s29),(9,AV.ptr 2 0),(10,AV.ptr 3 0),(11,iA s63)]) (fun s63 a65=>[Ob.var 27 [iA Bp.Bo,AV.sl 3 (List.map Am Bp.B0),AV.sl 4 (List.map Ad Bp.Ak),AV.sl 3 (List.map Aj Bp.Ar)],Ob.var 27 [iA Bt.Bo,AV.sl 3 (List.map Am Bt.B0),AV.sl 4 (List.map Ad Bt.Ak),AV.sl 3 (List.map Aj Bt.Ar)],Ob.var 39 [sA x39.Ao,AV.sl 1 (List.map Dv x39.Bh),AV.sl 9 (List.map A9 x39.B5),iA x39.Ab],Ob.var 39 [sA x40.Ao,AV.sl 1 (List.map Dv x40.Bh),AV.sl 9 (List.map A9 x40.B5),iA x40.Ab]]) (fun _ a76=>B9 221 [(2,bA false),(3,AV.ptr 0 0),(4,AV.ptr 1 0),(8,iA s29)]) (fun _ a76=>[Ob.var 27 [iA Bp.Bo,AV.sl 3 (List.map Am Bp.B0),AV.sl 4 (List.map Ad Bp.Ak),AV.sl 3 (List.map Aj Bp.Ar)],Ob.var 27 [iA Bt.Bo,AV.sl 3 (List.map Am Bt.B0),AV.sl 4 (List.map Ad Bt.Ak),AV.sl 3 (List.map Aj Bt.Ar)],Ob.var 39 [sA x39.Ao,AV.sl 1 (List.map Dv x39.Bh),AV.sl 9 (List.map A9 x39.B5),iA x39.Ab],Ob.var 39 [sA x40.Ao,AV.sl 1 (List.map Dv x40.Bh),AV.sl 9 (List.map A9 x40.B5),iA x40.Ab]]) (fun v=>(bA v,[])) (fun k s=>Gn n x39 x40 k s) (fun s=>rfl) o71 n 0 (fun _=>0) ho71 ?_ ?_
 intro k64 s63 a65 K66 cont67 hK68 hcont69 h hr70
 replace h:Gn n x39 x40 (k64+1) s63=some o71:=h
 rw[Gn] at h
 conv=>lhs;whnf
 revert h
 refine br ?_ ?_
 refine ix ?_;intro x73
 refine ix ?_;intro x74
 refine br ?_ ?_
 exact fun h=>cq (hcont69 (IntKind.i64.wrap (s63+1)) (fun _=>0) h)
 intro h;cases sj h
 refine(hK68 _ _).trans ?_
 conv=>lhs;whnf
 refine(hK34 _ _).trans ?_
 refine Eq.trans ?_ (Eq.symm (show _=some _ from hr70))
 conv=>lhs;whnf
 exact rq
 intro h;cases sj h
 exact kq (hr70 (fun _=>0))
 refine lrc ?_ ?_
 intro v e;subst e;cases sj h;exact hr36
 intro t a76 e;subst e
 dsimp only at h
 conv=>lhs;whnf
 revert h
 exact fun h=>cq (hcont35 (false,IntKind.i64.wrap (s29+1)) (fun _=>0) h)
 intro h;cases sj h
 refine(hK34 _ _).trans ?_
 refine Eq.trans ?_ (Eq.symm (show _=some _ from hr36))
 conv=>lhs;whnf
 exact rq
 intro h;cases sj h
 refine(hK34 _ _).trans ?_
 refine Eq.trans ?_ (Eq.symm (show _=some _ from hr36))
 conv=>lhs;whnf
 exact rq
 intro h;cases sj h
 exact kq (hr36 (fun _=>0))
 refine lrc ?_ ?_
 intro v e;subst e;cases sj h;rfl
 intro x79 a78 e;subst e
 dsimp only at h
 conv=>lhs;whnf
 revert h
 intro h;refine As h ?_;clear h;intro o89 ho89 h
 refine lq (σ:=(Bool×Int)) (τ:=Unit) (ν:=Bool) 6 (fun(s80,s81) a83=>B9 221 [(2,bA s80),(3,AV.ptr 0 0),(4,AV.ptr 1 0),(12,iA s81)]) (fun(s80,s81) a83=>[Ob.var 27 [iA Bp.Bo,AV.sl 3 (List.map Am Bp.B0),AV.sl 4 (List.map Ad Bp.Ak),AV.sl 3 (List.map Aj Bp.Ar)],Ob.var 27 [iA Bt.Bo,AV.sl 3 (List.map Am Bt.B0),AV.sl 4 (List.map Ad Bt.Ak),AV.sl 3 (List.map Aj Bt.Ar)]]) (fun _ a103=>B9 221 []) (fun _ a103=>[Ob.var 27 [iA Bp.Bo,AV.sl 3 (List.map Am Bp.B0),AV.sl 4 (List.map Ad Bp.Ak),AV.sl 3 (List.map Aj Bp.Ar)],Ob.var 27 [iA Bt.Bo,AV.sl 3 (List.map Am Bt.B0),AV.sl 4 (List.map Ad Bt.Ak),AV.sl 3 (List.map Aj Bt.Ar)]]) (fun v=>(bA v,[])) (fun k s=>Fy n Bp Bt k s.1 s.2) (fun s=>rfl) o89 n (x79,0) (fun _=>0) ho89 ?_ ?_
 intro k82 ss a83 K84 cont85 hK86 hcont87 h hr88
 obtain⟨s80,s81⟩:=ss
 replace h:Fy n Bp Bt (k82+1) s80 s81=some o89:=h
 rw[Fy] at h
 conv=>lhs;whnf
 revert h
 refine br ?_ ?_
 refine ix ?_;intro x91
 refine ix ?_;intro x92
 refine br ?_ ?_
 intro h;cases sj h
 refine(hK86 _ _).trans ?_
 refine Eq.trans ?_ (Eq.symm (show _=some _ from hr88))
 conv=>lhs;whnf
 exact rq
 refine ix ?_;intro x94
 refine ix ?_;intro x95
 refine ca hc (fun _ h=>Mh h) ?_;intro y96
 refine br ?_ ?_
 refine br ?_ ?_
 refine ix ?_;intro x100
 refine ix ?_;intro x101
 refine br ?_ ?_
 intro h;cases sj h
 refine(hK86 _ _).trans ?_
 refine Eq.trans ?_ (Eq.symm (show _=some _ from hr88))
 conv=>lhs;whnf
 exact rq
 exact fun h=>cq (hcont87 (true,IntKind.i64.wrap (s81+1)) (fun _=>0) h)
 exact fun h=>cq (hcont87 (false,IntKind.i64.wrap (s81+1)) (fun _=>0) h)
 intro h;cases sj h
 refine(hK86 _ _).trans ?_
 refine Eq.trans ?_ (Eq.symm (show _=some _ from hr88))
 conv=>lhs;whnf
 exact rq
 intro h;cases sj h
 exact kq (hr88 (fun _=>0))
 refine lrc ?_ ?_
 intro v e;subst e;cases sj h;rfl
 intro t a103 e;subst e
 dsimp only at h
 conv=>lhs;whnf
 revert h
 exact rz
theorem Sx {n:Nat} ⦃Q7:Int⦄ ⦃Ih:Int⦄ ⦃s_l:(List A5)⦄ ⦃s_i:Int⦄ ⦃s_e:Int⦄ ⦃H3:Int⦄ ⦃r:(Int×Int)⦄:Ka n Q7 Ih s_l s_i s_e H3=some r→CN n 68 [AV.ptr 0 0,iA Q7,iA Ih] [Ob.var 68 [AV.sl 4 (List.map A4 s_l),iA s_i,iA s_e,iA H3]]=some (AV.tup [],[Ob.var 68 [AV.sl 4 (List.map A4 s_l),iA s_i,iA r.1,iA r.2]]):=by
 intro h;rcases n with _|n;cases h
 rw[Ka] at h
 refine Ai Tryz.func68 (by rfl) rfl rfl (Ap rfl) ?_
 intro call hc;conv=>lhs;whnf
 revert h
 refine br ?_ ?_
 refine br ?_ ?_
 exact rz
 exact rz
 exact rz
theorem I7 {n:Nat} ⦃s_l:(List A5)⦄ ⦃s_i:Int⦄ ⦃s_e:Int⦄ ⦃H3:Int⦄ ⦃r:(Int×Int)⦄:Fe n s_l s_i s_e H3=some r→CN n 27 [AV.ptr 0 0] [Ob.var 68 [AV.sl 4 (List.map A4 s_l),iA s_i,iA s_e,iA H3]]=some (AV.tup [],[Ob.var 68 [AV.sl 4 (List.map A4 s_l),iA s_i,iA r.1,iA r.2]]):=by
 intro h;rcases n with _|n;cases h
 rw[Fe] at h
 refine Ai Tryz.func27 (by rfl) rfl rfl (Ap rfl) ?_
 intro call hc;conv=>lhs;whnf
 revert h
 refine br ?_ ?_
 refine ca hc (fun _ h=>Rl h) ?_;intro y2
 exact rz
 exact rz
theorem Es {n:Nat} ⦃Aaz:(List UInt8)⦄ ⦃s_l:(List A5)⦄ ⦃s_i:Int⦄ ⦃s_e:Int⦄ ⦃H3:Int⦄ ⦃r:(Int×Int×Int)⦄:Da n Aaz s_l s_i s_e H3=some r→CN n 29 [AV.ptr 0 0,sA Aaz] [Ob.var 68 [AV.sl 4 (List.map A4 s_l),iA s_i,iA s_e,iA H3]]=some (AV.tup [],[Ob.var 68 [AV.sl 4 (List.map A4 s_l),iA r.1,iA r.2.1,iA r.2.2]]):=by
 intro h;rcases n with _|n;cases h
 rw[Da] at h
 refine Ai Tryz.func29 (by rfl) rfl rfl (Ap rfl) ?_
 intro call hc;conv=>lhs;whnf
 revert h
 refine br ?_ ?_
 refine ca hc (fun _ h=>Gl h) ?_;intro y2
 refine br ?_ ?_
 exact rz
 refine ca hc (fun _ h=>I7 h) ?_;intro y5
 exact rz
 refine ca hc (fun _ h=>I7 h) ?_;intro y7
 exact rz
theorem A1r {n:Nat} ⦃E4:Int⦄ ⦃s_l:(List A5)⦄ ⦃s_i:Int⦄ ⦃s_e:Int⦄ ⦃H3:Int⦄ ⦃r:(Ag×Int×Int×Int)⦄:Pc n E4 s_l s_i s_e H3=some r→CN n 33 [AV.ptr 0 0,iA E4] [Ob.var 68 [AV.sl 4 (List.map A4 s_l),iA s_i,iA s_e,iA H3]]=some (AV.agg [iA r.1.A7,AV.sl 5 (List.map A3 r.1.Bm),iA r.1.Ab],[Ob.var 68 [AV.sl 4 (List.map A4 s_l),iA r.2.1,iA r.2.2.1,iA r.2.2.2]]):=by
 intro h;rcases n with _|n;cases h
 rw[Pc] at h
 refine Ai Tryz.func33 (by rfl) rfl rfl (Ap rfl) ?_
 intro call hc;conv=>lhs;whnf
 revert h
 refine ix ?_;intro x1
 refine tw hc (fun _ h=>A9m h) (fun _ h=>A6y (p:=[1,1,2,2,1]) (q:=[1,2,1,1]) h Tryz.func70 (by kernel_rfl) (by kernel_rfl) (by kernel_rfl) (by kernel_rfl) (by rfl) (A0r (by exact fun _=>rfl) _) (A0r (by exact fun _=>rfl) _)) ?_;intro y2
 refine nb ?_ ?_
 refine ca hc (fun _ h=>Sx h) ?_;intro y4
 intro h;refine As h ?_;clear h;intro o13 ho13 h
 refine lq (σ:=Unit) (τ:=Unit) (ν:=(Ag×Int×Int×Int)) 0 (fun _ a7=>B9 79 [(0,AV.ptr 0 0),(4,AV.ptr 1 0),(5,AV.ptr 2 0),(6,AV.sl 5 []),(7,iA y2.2.1),(10,iA (0))]) (fun _ a7=>[Ob.var 68 [AV.sl 4 (List.map A4 s_l),iA (IntKind.i64.wrap (s_i+1)),iA y4.1,iA y4.2],Ob.var 42 [iA (0),AV.nils,iA (0)],Ob.var 42 [iA E4,AV.nils,iA x1.Ab]]) (fun _ a14=>B9 79 [(0,AV.ptr 0 0),(4,AV.ptr 1 0),(5,AV.ptr 2 0),(6,AV.sl 5 []),(7,iA y2.2.1)]) (fun _ a14=>[Ob.var 68 [AV.sl 4 (List.map A4 s_l),iA (IntKind.i64.wrap (s_i+1)),iA y4.1,iA y4.2],Ob.var 42 [iA (0),AV.nils,iA (0)],Ob.var 42 [iA E4,AV.nils,iA x1.Ab]]) (fun v=>(AV.agg [iA v.1.A7,AV.sl 5 (List.map A3 v.1.Bm),iA v.1.Ab],[Ob.var 68 [AV.sl 4 (List.map A4 s_l),iA v.2.1,iA v.2.2.1,iA v.2.2.2]])) (fun k s=>R4 n k) (fun s=>rfl) o13 n () (fun _=>0) ho13 ?_ ?_
 intro k6 ss a7 K8 cont9 hK10 hcont11 h hr12
 replace h:R4 n (k6+1)=some o13:=h
 rw[R4] at h
 conv=>lhs;whnf
 revert h
 intro h;cases sj h
 exact kq (hr12 (fun _=>0))
 refine lrc ?_ ?_
 intro v e;subst e;cases sj h;rfl
 intro t a14 e;subst e
 dsimp only at h
 conv=>lhs;whnf
 revert h
 refine br ?_ ?_
 refine ca hc (fun _ h=>Es h) ?_;intro y16
 exact rz
 refine ca hc (fun _ h=>Es h) ?_;intro y18
 exact rz
 refine ca hc (fun _ h=>Sx h) ?_;intro y21
 intro h;refine As h ?_;clear h;intro o32 ho32 h
 refine lq (σ:=(Int×(List A2))) (τ:=(List A2)) (ν:=(Ag×Int×Int×Int)) 0 (fun(s23,s24) a26=>B9 79 [(0,AV.ptr 0 0),(4,AV.ptr 1 0),(5,AV.ptr 2 0),(6,AV.own 3 0 (List.length s24)),(7,iA y2.2.1),(10,iA s23)]) (fun(s23,s24) a26=>[Ob.var 68 [AV.sl 4 (List.map A4 s_l),iA (IntKind.i64.wrap (s_i+1)),iA y21.1,iA y21.2],Ob.var 42 [iA (0),AV.nils,iA (0)],Ob.var 42 [iA E4,AV.nils,iA x1.Ab],Ob.arr 5 (List.map A3 s24)]) (fun x39 a38=>B9 79 [(0,AV.ptr 0 0),(4,AV.ptr 1 0),(5,AV.ptr 2 0),(6,AV.own 3 0 (List.length x39)),(7,iA y2.2.1)]) (fun x39 a38=>[Ob.var 68 [AV.sl 4 (List.map A4 s_l),iA (IntKind.i64.wrap (s_i+1)),iA y21.1,iA y21.2],Ob.var 42 [iA (0),AV.nils,iA (0)],Ob.var 42 [iA E4,AV.nils,iA x1.Ab],Ob.arr 5 (List.map A3 x39)]) (fun v=>(AV.agg [iA v.1.A7,AV.sl 5 (List.map A3 v.1.Bm),iA v.1.Ab],[Ob.var 68 [AV.sl 4 (List.map A4 s_l),iA v.2.1,iA v.2.2.1,iA v.2.2.2]])) (fun k s=>I6 n k s.1 s.2) (fun s=>rfl) o32 n (0,y2.1) (fun _=>0) ho32 ?_ ?_
 intro k25 ss a26 K27 cont28 hK29 hcont30 h hr31
 obtain⟨s23,s24⟩:=ss
 replace h:I6 n (k25+1) s23 s24=some o32:=h
 rw[I6] at h
 conv=>lhs;whnf
 revert h
 refine br ?_ ?_
 intro h
 refine As h ?_;clear h;intro x34 hx34 h
 try simp only[ls]
 refine B4 (by first|exact Ga hx34|exact Pd hx34|exact Ss hx34|exact Hw hx34|(have q:=Ga hx34;simp only[List.length_set] at q;exact q)|(have q:=Hw hx34;simp only[List.length_set,Nat.zero_add] at q ⊢;exact q)) ?_
 conv=>lhs;whnf
 try simp only[Nat.zero_add,Ik (f:=A3) hx34,Em,ls]
 conv=>lhs;whnf
 revert h
 refine br ?_ ?_
 intro h
 refine As h ?_;clear h;intro x36 hx36 h
 try simp only[ls]
 refine B4 (by first|exact Ga hx36|exact Pd hx36|exact Ss hx36|exact Hw hx36|(have q:=Ga hx36;simp only[List.length_set] at q;exact q)|(have q:=Hw hx36;simp only[List.length_set,Nat.zero_add] at q ⊢;exact q)) ?_
 conv=>lhs;whnf
 try simp only[Nat.zero_add,Ik (f:=A3) hx36,Em,ls]
 conv=>lhs;whnf
 revert h
 intro h
 have hs37:E8 (List.map A3 s24) s23.toNat [iA (3),iA x36.Bs,sA x36.Ao,sA x36.Cq,iA x36.Ab]=List.map A3 (List.set s24 s23.toNat (⟨3,x36.Bs,x36.Ao,x36.Cq,x36.Ab⟩:A2)):=by rw[D2,List.map_set];rfl
 have hs37_u:E8 (List.map A3 s24) s23.toNat (S4 (A3 x36) 0 [iA (3)])=List.map A3 (List.set s24 s23.toNat (⟨3,x36.Bs,x36.Ao,x36.Cq,x36.Ab⟩:A2)):=by rw[D2,List.map_set];rfl
 try simp only[Nat.zero_add,Ik (f:=A3) hx36]
 conv=>lhs;whnf
 try simp only[hs37,hs37_u]
 conv=>lhs;whnf
 revert h
 exact fun h=>cq (hcont30 (IntKind.i64.wrap (s23+1),(List.set s24 s23.toNat (⟨3,x36.Bs,x36.Ao,x36.Cq,x36.Ab⟩:A2))) (fun _=>0) h)
 exact fun h=>cq (hcont30 (IntKind.i64.wrap (s23+1),s24) (fun _=>0) h)
 intro h;cases sj h
 exact kq (hr31 (fun _=>0))
 refine lrc ?_ ?_
 intro v e;subst e;cases sj h;rfl
 intro x39 a38 e;subst e
 dsimp only at h
 conv=>lhs;whnf
 revert h
 refine br ?_ ?_
 refine ca hc (fun _ h=>Es h) ?_;intro y41
 intro h;cases sj h
 try simp only[ls]
 exact fq (y:=some (AV.agg [iA E4,AV.sl 5 (List.take (List.length x39) (List.drop 0 (List.map A3 x39))),iA x1.Ab],[Ob.var 68 [AV.sl 4 (List.map A4 s_l),iA y41.1,iA y41.2.1,iA y41.2.2]]))
 refine ca hc (fun _ h=>Es h) ?_;intro y43
 intro h;cases sj h
 try simp only[ls]
 exact fq (y:=some (AV.agg [iA E4,AV.sl 5 (List.take (List.length x39) (List.drop 0 (List.map A3 x39))),iA x1.Ab],[Ob.var 68 [AV.sl 4 (List.map A4 s_l),iA y43.1,iA y43.2.1,iA y43.2.2]]))
theorem Np {n:Nat} ⦃Aaz:(List UInt8)⦄ ⦃s_l:(List A5)⦄ ⦃s_i:Int⦄ ⦃s_e:Int⦄ ⦃H3:Int⦄ ⦃r:Bool⦄:J7 n Aaz s_l s_i s_e H3=some r→CN n 26 [AV.ptr 0 0,sA Aaz] [Ob.var 68 [AV.sl 4 (List.map A4 s_l),iA s_i,iA s_e,iA H3]]=some (bA r,[Ob.var 68 [AV.sl 4 (List.map A4 s_l),iA s_i,iA s_e,iA H3]]):=by
 intro h;rcases n with _|n;cases h
 rw[J7] at h
 refine Ai Tryz.func26 (by rfl) rfl rfl (Ap rfl) ?_
 intro call hc;conv=>lhs;whnf
 revert h
 refine br ?_ ?_
 refine br ?_ ?_
 refine ix ?_;intro x3
 refine br ?_ ?_
 refine ix ?_;intro x5
 exact rz
 exact rz
 exact rz
 exact rz
theorem Am0 {n:Nat} ⦃Ds:Int⦄ ⦃r:(List UInt8)⦄:Tf n Ds=some r→CN n 69 [iA Ds] []=some (sA r,[]):=by
 intro h;rcases n with _|n;cases h
 rw[Tf] at h
 refine Ai Tryz.func69 (by rfl) rfl rfl (Ap rfl) ?_
 intro call hc;conv=>lhs;whnf
 revert h
 intro h
 refine As h ?_;clear h;intro x1 hx1 h
 refine B4 (by first|exact Ga hx1|(have q:=Ga hx1;exact q)) ?_
 simp only[(show nth? ([[sA (([]:List UInt8))],[sA (([102,111,114,97,108,108]:List UInt8))],[sA (([101,120,105,115,116,115]:List UInt8))],[sA (([97,108,119,97,121,115]:List UInt8))]]:List (List AV)) Ds.toNat=some (Dv x1) from Ik (f:=Dv) hx1),ls]
 conv=>lhs;whnf
 revert h
 exact rz
theorem U1 {n:Nat} ⦃s_l:(List A5)⦄ ⦃s_i:Int⦄ ⦃s_e:Int⦄ ⦃H3:Int⦄ ⦃r:Int⦄:M3 n s_l s_i s_e H3=some r→CN n 32 [AV.ptr 0 0] [Ob.var 68 [AV.sl 4 (List.map A4 s_l),iA s_i,iA s_e,iA H3]]=some (iA r,[Ob.var 68 [AV.sl 4 (List.map A4 s_l),iA s_i,iA s_e,iA H3]]):=by
 intro h;rcases n with _|n;cases h
 rw[M3] at h
 refine Ai Tryz.func32 (by rfl) rfl rfl (Ap rfl) ?_
 intro call hc;conv=>lhs;whnf
 revert h
 intro h;refine As h ?_;clear h;intro o9 ho9 h
 refine lq (σ:=Int) (τ:=Unit) (ν:=Int) 0 (fun s1 a3=>B9 13 [(0,AV.ptr 0 0),(3,iA s1)]) (fun s1 a3=>[Ob.var 68 [AV.sl 4 (List.map A4 s_l),iA s_i,iA s_e,iA H3]]) (fun _ a16=>B9 13 []) (fun _ a16=>[Ob.var 68 [AV.sl 4 (List.map A4 s_l),iA s_i,iA s_e,iA H3]]) (fun v=>(iA v,[Ob.var 68 [AV.sl 4 (List.map A4 s_l),iA s_i,iA s_e,iA H3]])) (fun k s=>K3 n s_l s_i s_e H3 k s) (fun s=>rfl) o9 n 1 (fun _=>0) ho9 ?_ ?_
 intro k2 s1 a3 K4 cont5 hK6 hcont7 h hr8
 replace h:K3 n s_l s_i s_e H3 (k2+1) s1=some o9:=h
 rw[K3] at h
 conv=>lhs;whnf
 revert h
 refine br ?_ ?_
 refine ca hc (fun _ h=>Am0 h) ?_;intro y11
 refine ca hc (fun _ h=>Np h) ?_;intro y13
 refine br ?_ ?_
 intro h;cases sj h
 refine(hK6 _ _).trans ?_
 refine Eq.trans ?_ (Eq.symm (show _=some _ from hr8))
 conv=>lhs;whnf
 exact rq
 exact fun h=>cq (hcont7 (IntKind.i64.wrap (s1+1)) (fun _=>0) h)
 intro h;cases sj h
 exact kq (hr8 (fun _=>0))
 refine lrc ?_ ?_
 intro v e;subst e;cases sj h;rfl
 intro t a16 e;subst e
 dsimp only at h
 conv=>lhs;whnf
 revert h
 exact rz
theorem Ri {n:Nat} ⦃s_l:(List A5)⦄ ⦃s_i:Int⦄ ⦃s_e:Int⦄ ⦃H3:Int⦄ ⦃r:((List UInt8)×Int×Int×Int)⦄:L5 n s_l s_i s_e H3=some r→CN n 30 [AV.ptr 0 0] [Ob.var 68 [AV.sl 4 (List.map A4 s_l),iA s_i,iA s_e,iA H3]]=some (sA r.1,[Ob.var 68 [AV.sl 4 (List.map A4 s_l),iA r.2.1,iA r.2.2.1,iA r.2.2.2]]):=by
 intro h;rcases n with _|n;cases h
 rw[L5] at h
 refine Ai Tryz.func30 (by rfl) rfl rfl (Ap rfl) ?_
 intro call hc;conv=>lhs;whnf
 revert h
 refine br ?_ ?_
 refine ca hc (fun _ h=>A51 h) ?_;intro y2
 refine br ?_ ?_
 refine ix ?_;intro x5
 exact rz
 refine ca hc (fun _ h=>I7 h) ?_;intro y6
 exact rz
 refine ca hc (fun _ h=>I7 h) ?_;intro y8
 exact rz
theorem Sd {n:Nat} ⦃s_l:(List A5)⦄ ⦃s_i:Int⦄ ⦃s_e:Int⦄ ⦃H3:Int⦄ ⦃r:(Int×Int×Int×Int)⦄:Kx n s_l s_i s_e H3=some r→CN n 28 [AV.ptr 0 0] [Ob.var 68 [AV.sl 4 (List.map A4 s_l),iA s_i,iA s_e,iA H3]]=some (iA r.1,[Ob.var 68 [AV.sl 4 (List.map A4 s_l),iA r.2.1,iA r.2.2.1,iA r.2.2.2]]):=by
 intro h;rcases n with _|n;cases h
 rw[Kx] at h
 refine Ai Tryz.func28 (by rfl) rfl rfl (Ap rfl) ?_
 intro call hc;conv=>lhs;whnf
 revert h
 refine br ?_ ?_
 refine br ?_ ?_
 refine ix ?_;intro x3
 refine br ?_ ?_
 refine ix ?_;intro x5
 exact rz
 refine ca hc (fun _ h=>I7 h) ?_;intro y6
 exact rz
 refine ca hc (fun _ h=>I7 h) ?_;intro y8
 exact rz
 refine ca hc (fun _ h=>I7 h) ?_;intro y10
 exact rz
theorem A0z {n:Nat} ⦃s_l:(List A5)⦄ ⦃s_i:Int⦄ ⦃s_e:Int⦄ ⦃H3:Int⦄ ⦃r:(Ae×Int×Int×Int)⦄:P1 n s_l s_i s_e H3=some r→CN n 31 [AV.ptr 0 0] [Ob.var 68 [AV.sl 4 (List.map A4 s_l),iA s_i,iA s_e,iA H3]]=some (AV.agg [sA r.1.Ao,AV.sl 1 (List.map Dv r.1.Bh),AV.sl 9 (List.map A9 r.1.B5),iA r.1.Ab],[Ob.var 68 [AV.sl 4 (List.map A4 s_l),iA r.2.1,iA r.2.2.1,iA r.2.2.2]]):=by
 intro h;rcases n with _|n;cases h
 rw[P1] at h
 refine Ai Tryz.func31 (by rfl) rfl rfl (Ap rfl) ?_
 intro call hc;conv=>lhs;whnf
 revert h
 refine ix ?_;intro x1
 refine ca hc (fun _ h=>Ri h) ?_;intro y2
 refine ca hc (fun _ h=>Es h) ?_;intro y4
 refine ca hc (fun _ h=>Np h) ?_;intro y6
 refine br ?_ ?_
 refine ca hc (fun _ h=>Ri h) ?_;intro y9
 intro h;refine As h ?_;clear h;intro o22 ho22 h
 refine lq (σ:=(Int×Int×Int×(List (List UInt8)))) (τ:=(Int×Int×Int×(List (List UInt8)))) (ν:=(Ae×Int×Int×Int)) 0 (fun(s11,s12,s13,s14) a16=>B9 112 [(0,AV.ptr 0 0),(2,AV.ptr 1 0),(3,AV.ptr 2 0)]) (fun(s11,s12,s13,s14) a16=>[Ob.var 68 [AV.sl 4 (List.map A4 s_l),iA s11,iA s12,iA s13],Ob.var 39 [sA (([]:List UInt8)),AV.nils,AV.nils,iA (0)],Ob.var 39 [sA y2.1,AV.row 3 (List.length s14),AV.nils,iA x1.Ab],Ob.row 9 1 (List.map Dv s14)]) (fun(x32,x33,x34,x35) a31=>B9 112 [(0,AV.ptr 0 0),(2,AV.ptr 1 0),(3,AV.ptr 2 0)]) (fun(x32,x33,x34,x35) a31=>[Ob.var 68 [AV.sl 4 (List.map A4 s_l),iA x32,iA x33,iA x34],Ob.var 39 [sA (([]:List UInt8)),AV.nils,AV.nils,iA (0)],Ob.var 39 [sA y2.1,AV.row 3 (List.length x35),AV.nils,iA x1.Ab],Ob.row 9 1 (List.map Dv x35)]) (fun v=>(AV.agg [sA v.1.Ao,AV.sl 1 (List.map Dv v.1.Bh),AV.sl 9 (List.map A9 v.1.B5),iA v.1.Ab],[Ob.var 68 [AV.sl 4 (List.map A4 s_l),iA v.2.1,iA v.2.2.1,iA v.2.2.2]])) (fun k s=>Kh n s_l k s.1 s.2.1 s.2.2.1 s.2.2.2) (fun s=>rfl) o22 n (y9.2.1,y9.2.2.1,y9.2.2.2,([y9.1]:List (List UInt8))) (fun _=>0) ho22 ?_ ?_
 intro k15 ss a16 K17 cont18 hK19 hcont20 h hr21
 obtain⟨s11,s12,s13,s14⟩:=ss
 replace h:Kh n s_l (k15+1) s11 s12 s13 s14=some o22:=h
 rw[Kh] at h
 conv=>lhs;whnf
 revert h
 refine br ?_ ?_
 refine ca hc (fun _ h=>Gl h) ?_;intro y24
 refine br ?_ ?_
 refine ca hc (fun _ h=>Ri h) ?_;intro y27
 refine ar (ap Dv (List.map Dv s14) s14 ([[sA y27.1]]) ([y27.1]:List (List UInt8))) ?_
 exact fun h=>cq (hcont20 (y27.2.1,y27.2.2.1,y27.2.2.2,(s14++([y27.1]:List (List UInt8)))) (fun _=>0) h)
 intro h;cases sj h
 exact kq (hr21 (fun _=>0))
 intro h;cases sj h
 exact kq (hr21 (fun _=>0))
 refine lrc ?_ ?_
 intro v e;subst e;cases sj h;rfl
 intro t a31 e;subst e
 obtain⟨x32,x33,x34,x35⟩:=t
 dsimp only at h
 conv=>lhs;whnf
 revert h
 refine ca hc (fun _ h=>Es h) ?_;intro y36
 refine br ?_ ?_
 refine ca hc (fun _ h=>A9f h) ?_;intro y39
 refine ca hc (fun _ h=>Sx h) ?_;intro y41
 refine ca hc (fun _ h=>Es h) ?_;intro y43
 intro h;cases sj h
 try simp only[ls]
 exact fq (y:=some (AV.agg [sA y2.1,AV.sl 1 (List.take (List.length x35) (List.map Dv x35)),AV.sl 9 (List.map A9 y39.1),iA x1.Ab],[Ob.var 68 [AV.sl 4 (List.map A4 s_l),iA y43.1,iA y43.2.1,iA y43.2.2]]))
 refine ca hc (fun _ h=>Es h) ?_;intro y45
 intro h;cases sj h
 try simp only[ls]
 exact fq (y:=some (AV.agg [sA y2.1,AV.sl 1 (List.take (List.length x35) (List.map Dv x35)),AV.sl 9 [],iA x1.Ab],[Ob.var 68 [AV.sl 4 (List.map A4 s_l),iA y45.1,iA y45.2.1,iA y45.2.2]]))
 refine br ?_ ?_
 refine ca hc (fun _ h=>A9f h) ?_;intro y49
 refine ca hc (fun _ h=>Sx h) ?_;intro y51
 refine ca hc (fun _ h=>Es h) ?_;intro y53
 exact rz
 refine ca hc (fun _ h=>Es h) ?_;intro y55
 exact rz
theorem Akj {n:Nat} ⦃Ae3:(List UInt8)⦄ ⦃r:(Az×Int×Int)⦄:Wy n Ae3=some r→CN n 7 [sA Ae3] []=some (AV.tup [AV.agg [iA r.1.Bo,AV.sl 3 (List.map Am r.1.B0),AV.sl 4 (List.map Ad r.1.Ak),AV.sl 3 (List.map Aj r.1.Ar)],iA r.2.1,iA r.2.2],[]):=by
 intro h;rcases n with _|n;cases h
 rw[Wy] at h
 refine Ai Tryz.func7 (by rfl) rfl rfl (Ap rfl) ?_
 intro call hc;conv=>lhs;whnf
 revert h
 refine ca hc (fun _ h=>Am6 h) ?_;intro y1
 refine br ?_ ?_
 exact rz
 refine ca hc (fun _ h=>Np h) ?_;intro y4
 refine br ?_ ?_
 refine ca hc (fun _ h=>Sd h) ?_;intro y7
 refine ca hc (fun _ h=>Es h) ?_;intro y9
 intro h;refine As h ?_;clear h;intro o22 ho22 h
 refine lq (σ:=(Int×Int×Int×(List Aw))) (τ:=(Int×Int×Int×(List Aw))) (ν:=(Az×Int×Int)) 0 (fun(s11,s12,s13,s14) a16=>B9 125 [(2,AV.ptr 0 0),(5,AV.sl 4 (List.map A4 y1.1)),(8,AV.ptr 1 0),(9,AV.ptr 2 0)]) (fun(s11,s12,s13,s14) a16=>[Ob.var 27 [iA (0),AV.row 3 (List.length (([]:List Aw))),AV.row 4 (List.length (([]:List Ae))),AV.row 5 (List.length (([]:List Ag)))],Ob.var 68 [AV.sl 4 (List.map A4 y1.1),iA s11,iA s12,iA s13],Ob.var 27 [iA y7.1,AV.row 6 (List.length s14),AV.row 7 (List.length (([]:List Ae))),AV.row 8 (List.length (([]:List Ag)))],Ob.row 45 3 ([]),Ob.row 39 4 ([]),Ob.row 42 3 ([]),Ob.row 45 3 (List.map Am s14),Ob.row 39 4 ([]),Ob.row 42 3 ([])]) (fun(x38,x39,x40,x41) a37=>B9 125 [(2,AV.ptr 0 0),(5,AV.sl 4 (List.map A4 y1.1)),(8,AV.ptr 1 0),(9,AV.ptr 2 0)]) (fun(x38,x39,x40,x41) a37=>[Ob.var 27 [iA (0),AV.row 3 (List.length (([]:List Aw))),AV.row 4 (List.length (([]:List Ae))),AV.row 5 (List.length (([]:List Ag)))],Ob.var 68 [AV.sl 4 (List.map A4 y1.1),iA x38,iA x39,iA x40],Ob.var 27 [iA y7.1,AV.row 6 (List.length x41),AV.row 7 (List.length (([]:List Ae))),AV.row 8 (List.length (([]:List Ag)))],Ob.row 45 3 ([]),Ob.row 39 4 ([]),Ob.row 42 3 ([]),Ob.row 45 3 (List.map Am x41),Ob.row 39 4 ([]),Ob.row 42 3 ([])]) (fun v=>(AV.tup [AV.agg [iA v.1.Bo,AV.sl 3 (List.map Am v.1.B0),AV.sl 4 (List.map Ad v.1.Ak),AV.sl 3 (List.map Aj v.1.Ar)],iA v.2.1,iA v.2.2],[])) (fun k s=>Ow n y1 k s.1 s.2.1 s.2.2.1 s.2.2.2) (fun s=>rfl) o22 n (y9.1,y9.2.1,y9.2.2,([]:List Aw)) (fun _=>0) ho22 ?_ ?_
 intro k15 ss a16 K17 cont18 hK19 hcont20 h hr21
 obtain⟨s11,s12,s13,s14⟩:=ss
 replace h:Ow n y1 (k15+1) s11 s12 s13 s14=some o22:=h
 rw[Ow] at h
 conv=>lhs;whnf
 revert h
 refine ca hc (fun _ h=>Np h) ?_;intro y23
 refine br ?_ ?_
 refine ix ?_;intro x26
 refine ca hc (fun _ h=>Ri h) ?_;intro y27
 refine ca hc (fun _ h=>Es h) ?_;intro y29
 refine ca hc (fun _ h=>Sd h) ?_;intro y31
 refine ca hc (fun _ h=>Es h) ?_;intro y33
 refine ar (ap Am (List.map Am s14) s14 ([[sA y27.1,iA y31.1,iA x26.Ab]]) ([(⟨y27.1,y31.1,x26.Ab⟩:Aw)]:List Aw)) ?_
 exact fun h=>cq (hcont20 (y33.1,y33.2.1,y33.2.2,(s14++([(⟨y27.1,y31.1,x26.Ab⟩:Aw)]:List Aw))) (fun _=>0) h)
 intro h;cases sj h
 exact kq (hr21 (fun _=>0))
 refine lrc ?_ ?_
 intro v e;subst e;cases sj h;rfl
 intro t a37 e;subst e
 obtain⟨x38,x39,x40,x41⟩:=t
 dsimp only at h
 conv=>lhs;whnf
 revert h
 intro h;refine As h ?_;clear h;intro o53 ho53 h
 refine lq (σ:=(Int×Int×Int×(List Ae))) (τ:=(Int×Int×Int×(List Ae))) (ν:=(Az×Int×Int)) 2 (fun(s42,s43,s44,s45) a47=>B9 125 [(2,AV.ptr 0 0),(5,AV.sl 4 (List.map A4 y1.1)),(8,AV.ptr 1 0),(9,AV.ptr 2 0)]) (fun(s42,s43,s44,s45) a47=>[Ob.var 27 [iA (0),AV.row 3 (List.length (([]:List Aw))),AV.row 4 (List.length (([]:List Ae))),AV.row 5 (List.length (([]:List Ag)))],Ob.var 68 [AV.sl 4 (List.map A4 y1.1),iA s42,iA s43,iA s44],Ob.var 27 [iA y7.1,AV.row 6 (List.length x41),AV.row 7 (List.length s45),AV.row 8 (List.length (([]:List Ag)))],Ob.row 45 3 ([]),Ob.row 39 4 ([]),Ob.row 42 3 ([]),Ob.row 45 3 (List.map Am x41),Ob.row 39 4 (List.map Ad s45),Ob.row 42 3 ([])]) (fun(x62,x63,x64,x65) a61=>B9 125 [(2,AV.ptr 0 0),(5,AV.sl 4 (List.map A4 y1.1)),(8,AV.ptr 1 0),(9,AV.ptr 2 0)]) (fun(x62,x63,x64,x65) a61=>[Ob.var 27 [iA (0),AV.row 3 (List.length (([]:List Aw))),AV.row 4 (List.length (([]:List Ae))),AV.row 5 (List.length (([]:List Ag)))],Ob.var 68 [AV.sl 4 (List.map A4 y1.1),iA x62,iA x63,iA x64],Ob.var 27 [iA y7.1,AV.row 6 (List.length x41),AV.row 7 (List.length x65),AV.row 8 (List.length (([]:List Ag)))],Ob.row 45 3 ([]),Ob.row 39 4 ([]),Ob.row 42 3 ([]),Ob.row 45 3 (List.map Am x41),Ob.row 39 4 (List.map Ad x65),Ob.row 42 3 ([])]) (fun v=>(AV.tup [AV.agg [iA v.1.Bo,AV.sl 3 (List.map Am v.1.B0),AV.sl 4 (List.map Ad v.1.Ak),AV.sl 3 (List.map Aj v.1.Ar)],iA v.2.1,iA v.2.2],[])) (fun k s=>P4 n y1 k s.1 s.2.1 s.2.2.1 s.2.2.2) (fun s=>rfl) o53 n (x38,x39,x40,([]:List Ae)) (fun _=>0) ho53 ?_ ?_
 intro k46 ss a47 K48 cont49 hK50 hcont51 h hr52
 obtain⟨s42,s43,s44,s45⟩:=ss
 replace h:P4 n y1 (k46+1) s42 s43 s44 s45=some o53:=h
 rw[P4] at h
 conv=>lhs;whnf
 revert h
 refine ca hc (fun _ h=>Np h) ?_;intro y54
 refine br ?_ ?_
 refine ca hc (fun _ h=>A0z h) ?_;intro y57
 refine ar (ap Ad (List.map Ad s45) s45 ([[sA y57.1.Ao,AV.sl 1 (List.map Dv y57.1.Bh),AV.sl 9 (List.map A9 y57.1.B5),iA y57.1.Ab]]) ([y57.1]:List Ae)) ?_
 exact fun h=>cq (hcont51 (y57.2.1,y57.2.2.1,y57.2.2.2,(s45++([y57.1]:List Ae))) (fun _=>0) h)
 intro h;cases sj h
 exact kq (hr52 (fun _=>0))
 refine lrc ?_ ?_
 intro v e;subst e;cases sj h;rfl
 intro t a61 e;subst e
 obtain⟨x62,x63,x64,x65⟩:=t
 dsimp only at h
 conv=>lhs;whnf
 revert h
 intro h;refine As h ?_;clear h;intro o77 ho77 h
 refine lq (σ:=(Int×Int×Int×(List Ag))) (τ:=(Int×Int×Int×(List Ag))) (ν:=(Az×Int×Int)) 4 (fun(s66,s67,s68,s69) a71=>B9 125 [(2,AV.ptr 0 0),(5,AV.sl 4 (List.map A4 y1.1)),(8,AV.ptr 1 0),(9,AV.ptr 2 0)]) (fun(s66,s67,s68,s69) a71=>[Ob.var 27 [iA (0),AV.row 3 (List.length (([]:List Aw))),AV.row 4 (List.length (([]:List Ae))),AV.row 5 (List.length (([]:List Ag)))],Ob.var 68 [AV.sl 4 (List.map A4 y1.1),iA s66,iA s67,iA s68],Ob.var 27 [iA y7.1,AV.row 6 (List.length x41),AV.row 7 (List.length x65),AV.row 8 (List.length s69)],Ob.row 45 3 ([]),Ob.row 39 4 ([]),Ob.row 42 3 ([]),Ob.row 45 3 (List.map Am x41),Ob.row 39 4 (List.map Ad x65),Ob.row 42 3 (List.map Aj s69)]) (fun(x88,x89,x90,x91) a87=>B9 125 [(2,AV.ptr 0 0),(5,AV.sl 4 (List.map A4 y1.1)),(8,AV.ptr 1 0),(9,AV.ptr 2 0)]) (fun(x88,x89,x90,x91) a87=>[Ob.var 27 [iA (0),AV.row 3 (List.length (([]:List Aw))),AV.row 4 (List.length (([]:List Ae))),AV.row 5 (List.length (([]:List Ag)))],Ob.var 68 [AV.sl 4 (List.map A4 y1.1),iA x88,iA x89,iA x90],Ob.var 27 [iA y7.1,AV.row 6 (List.length x41),AV.row 7 (List.length x65),AV.row 8 (List.length x91)],Ob.row 45 3 ([]),Ob.row 39 4 ([]),Ob.row 42 3 ([]),Ob.row 45 3 (List.map Am x41),Ob.row 39 4 (List.map Ad x65),Ob.row 42 3 (List.map Aj x91)]) (fun v=>(AV.tup [AV.agg [iA v.1.Bo,AV.sl 3 (List.map Am v.1.B0),AV.sl 4 (List.map Ad v.1.Ak),AV.sl 3 (List.map Aj v.1.Ar)],iA v.2.1,iA v.2.2],[])) (fun k s=>Of n y1 k s.1 s.2.1 s.2.2.1 s.2.2.2) (fun s=>rfl) o77 n (x62,x63,x64,([]:List Ag)) (fun _=>0) ho77 ?_ ?_
 intro k70 ss a71 K72 cont73 hK74 hcont75 h hr76
 obtain⟨s66,s67,s68,s69⟩:=ss
 replace h:Of n y1 (k70+1) s66 s67 s68 s69=some o77:=h
 rw[Of] at h
 conv=>lhs;whnf
 revert h
 refine ca hc (fun _ h=>U1 h) ?_;intro y78
 refine br ?_ ?_
 refine ca hc (fun _ h=>U1 h) ?_;intro y81
 refine ca hc (fun _ h=>A1r h) ?_;intro y83
 refine ar (ap Aj (List.map Aj s69) s69 ([[iA y83.1.A7,AV.sl 5 (List.map A3 y83.1.Bm),iA y83.1.Ab]]) ([y83.1]:List Ag)) ?_
 exact fun h=>cq (hcont75 (y83.2.1,y83.2.2.1,y83.2.2.2,(s69++([y83.1]:List Ag))) (fun _=>0) h)
 intro h;cases sj h
 exact kq (hr76 (fun _=>0))
 refine lrc ?_ ?_
 intro v e;subst e;cases sj h;rfl
 intro t a87 e;subst e
 obtain⟨x88,x89,x90,x91⟩:=t
 dsimp only at h
 conv=>lhs;whnf
 revert h
 refine br ?_ ?_
 refine ca hc (fun _ h=>I7 h) ?_;intro y93
 refine br ?_ ?_
 exact rz
 intro h;cases sj h
 try simp only[ls]
 exact fq (y:=some (AV.tup [AV.agg [iA y7.1,AV.sl 3 (List.take (List.length x41) (List.map Am x41)),AV.sl 4 (List.take (List.length x65) (List.map Ad x65)),AV.sl 3 (List.take (List.length x91) (List.map Aj x91))],iA (0),iA (0)],[]))
 refine br ?_ ?_
 exact rz
 intro h;cases sj h
 try simp only[ls]
 exact fq (y:=some (AV.tup [AV.agg [iA y7.1,AV.sl 3 (List.take (List.length x41) (List.map Am x41)),AV.sl 4 (List.take (List.length x65) (List.map Ad x65)),AV.sl 3 (List.take (List.length x91) (List.map Aj x91))],iA (0),iA (0)],[]))
 refine ca hc (fun _ h=>I7 h) ?_;intro y100
 refine ca hc (fun _ h=>Sd h) ?_;intro y102
 refine ca hc (fun _ h=>Es h) ?_;intro y104
 intro h;refine As h ?_;clear h;intro o117 ho117 h
 refine lq (σ:=(Int×Int×Int×(List Aw))) (τ:=(Int×Int×Int×(List Aw))) (ν:=(Az×Int×Int)) 0 (fun(s106,s107,s108,s109) a111=>B9 125 [(2,AV.ptr 0 0),(5,AV.sl 4 (List.map A4 y1.1)),(8,AV.ptr 1 0),(9,AV.ptr 2 0)]) (fun(s106,s107,s108,s109) a111=>[Ob.var 27 [iA (0),AV.row 3 (List.length (([]:List Aw))),AV.row 4 (List.length (([]:List Ae))),AV.row 5 (List.length (([]:List Ag)))],Ob.var 68 [AV.sl 4 (List.map A4 y1.1),iA s106,iA s107,iA s108],Ob.var 27 [iA y102.1,AV.row 6 (List.length s109),AV.row 7 (List.length (([]:List Ae))),AV.row 8 (List.length (([]:List Ag)))],Ob.row 45 3 ([]),Ob.row 39 4 ([]),Ob.row 42 3 ([]),Ob.row 45 3 (List.map Am s109),Ob.row 39 4 ([]),Ob.row 42 3 ([])]) (fun(x133,x134,x135,x136) a132=>B9 125 [(2,AV.ptr 0 0),(5,AV.sl 4 (List.map A4 y1.1)),(8,AV.ptr 1 0),(9,AV.ptr 2 0)]) (fun(x133,x134,x135,x136) a132=>[Ob.var 27 [iA (0),AV.row 3 (List.length (([]:List Aw))),AV.row 4 (List.length (([]:List Ae))),AV.row 5 (List.length (([]:List Ag)))],Ob.var 68 [AV.sl 4 (List.map A4 y1.1),iA x133,iA x134,iA x135],Ob.var 27 [iA y102.1,AV.row 6 (List.length x136),AV.row 7 (List.length (([]:List Ae))),AV.row 8 (List.length (([]:List Ag)))],Ob.row 45 3 ([]),Ob.row 39 4 ([]),Ob.row 42 3 ([]),Ob.row 45 3 (List.map Am x136),Ob.row 39 4 ([]),Ob.row 42 3 ([])]) (fun v=>(AV.tup [AV.agg [iA v.1.Bo,AV.sl 3 (List.map Am v.1.B0),AV.sl 4 (List.map Ad v.1.Ak),AV.sl 3 (List.map Aj v.1.Ar)],iA v.2.1,iA v.2.2],[])) (fun k s=>Ou n y1 k s.1 s.2.1 s.2.2.1 s.2.2.2) (fun s=>rfl) o117 n (y104.1,y104.2.1,y104.2.2,([]:List Aw)) (fun _=>0) ho117 ?_ ?_
 intro k110 ss a111 K112 cont113 hK114 hcont115 h hr116
 obtain⟨s106,s107,s108,s109⟩:=ss
 replace h:Ou n y1 (k110+1) s106 s107 s108 s109=some o117:=h
 rw[Ou] at h
 conv=>lhs;whnf
 revert h
 refine ca hc (fun _ h=>Np h) ?_;intro y118
 refine br ?_ ?_
 refine ix ?_;intro x121
 refine ca hc (fun _ h=>Ri h) ?_;intro y122
 refine ca hc (fun _ h=>Es h) ?_;intro y124
 refine ca hc (fun _ h=>Sd h) ?_;intro y126
 refine ca hc (fun _ h=>Es h) ?_;intro y128
 refine ar (ap Am (List.map Am s109) s109 ([[sA y122.1,iA y126.1,iA x121.Ab]]) ([(⟨y122.1,y126.1,x121.Ab⟩:Aw)]:List Aw)) ?_
 exact fun h=>cq (hcont115 (y128.1,y128.2.1,y128.2.2,(s109++([(⟨y122.1,y126.1,x121.Ab⟩:Aw)]:List Aw))) (fun _=>0) h)
 intro h;cases sj h
 exact kq (hr116 (fun _=>0))
 refine lrc ?_ ?_
 intro v e;subst e;cases sj h;rfl
 intro t a132 e;subst e
 obtain⟨x133,x134,x135,x136⟩:=t
 dsimp only at h
 conv=>lhs;whnf
 revert h
 intro h;refine As h ?_;clear h;intro o148 ho148 h
 refine lq (σ:=(Int×Int×Int×(List Ae))) (τ:=(Int×Int×Int×(List Ae))) (ν:=(Az×Int×Int)) 2 (fun(s137,s138,s139,s140) a142=>B9 125 [(2,AV.ptr 0 0),(5,AV.sl 4 (List.map A4 y1.1)),(8,AV.ptr 1 0),(9,AV.ptr 2 0)]) (fun(s137,s138,s139,s140) a142=>[Ob.var 27 [iA (0),AV.row 3 (List.length (([]:List Aw))),AV.row 4 (List.length (([]:List Ae))),AV.row 5 (List.length (([]:List Ag)))],Ob.var 68 [AV.sl 4 (List.map A4 y1.1),iA s137,iA s138,iA s139],Ob.var 27 [iA y102.1,AV.row 6 (List.length x136),AV.row 7 (List.length s140),AV.row 8 (List.length (([]:List Ag)))],Ob.row 45 3 ([]),Ob.row 39 4 ([]),Ob.row 42 3 ([]),Ob.row 45 3 (List.map Am x136),Ob.row 39 4 (List.map Ad s140),Ob.row 42 3 ([])]) (fun(x157,x158,x159,x160) a156=>B9 125 [(2,AV.ptr 0 0),(5,AV.sl 4 (List.map A4 y1.1)),(8,AV.ptr 1 0),(9,AV.ptr 2 0)]) (fun(x157,x158,x159,x160) a156=>[Ob.var 27 [iA (0),AV.row 3 (List.length (([]:List Aw))),AV.row 4 (List.length (([]:List Ae))),AV.row 5 (List.length (([]:List Ag)))],Ob.var 68 [AV.sl 4 (List.map A4 y1.1),iA x157,iA x158,iA x159],Ob.var 27 [iA y102.1,AV.row 6 (List.length x136),AV.row 7 (List.length x160),AV.row 8 (List.length (([]:List Ag)))],Ob.row 45 3 ([]),Ob.row 39 4 ([]),Ob.row 42 3 ([]),Ob.row 45 3 (List.map Am x136),Ob.row 39 4 (List.map Ad x160),Ob.row 42 3 ([])]) (fun v=>(AV.tup [AV.agg [iA v.1.Bo,AV.sl 3 (List.map Am v.1.B0),AV.sl 4 (List.map Ad v.1.Ak),AV.sl 3 (List.map Aj v.1.Ar)],iA v.2.1,iA v.2.2],[])) (fun k s=>Oy n y1 k s.1 s.2.1 s.2.2.1 s.2.2.2) (fun s=>rfl) o148 n (x133,x134,x135,([]:List Ae)) (fun _=>0) ho148 ?_ ?_
 intro k141 ss a142 K143 cont144 hK145 hcont146 h hr147
 obtain⟨s137,s138,s139,s140⟩:=ss
 replace h:Oy n y1 (k141+1) s137 s138 s139 s140=some o148:=h
 rw[Oy] at h
 conv=>lhs;whnf
 revert h
 refine ca hc (fun _ h=>Np h) ?_;intro y149
 refine br ?_ ?_
 refine ca hc (fun _ h=>A0z h) ?_;intro y152
 refine ar (ap Ad (List.map Ad s140) s140 ([[sA y152.1.Ao,AV.sl 1 (List.map Dv y152.1.Bh),AV.sl 9 (List.map A9 y152.1.B5),iA y152.1.Ab]]) ([y152.1]:List Ae)) ?_
 exact fun h=>cq (hcont146 (y152.2.1,y152.2.2.1,y152.2.2.2,(s140++([y152.1]:List Ae))) (fun _=>0) h)
 intro h;cases sj h
 exact kq (hr147 (fun _=>0))
 refine lrc ?_ ?_
 intro v e;subst e;cases sj h;rfl
 intro t a156 e;subst e
 obtain⟨x157,x158,x159,x160⟩:=t
 dsimp only at h
 conv=>lhs;whnf
 revert h
 intro h;refine As h ?_;clear h;intro o172 ho172 h
 refine lq (σ:=(Int×Int×Int×(List Ag))) (τ:=(Int×Int×Int×(List Ag))) (ν:=(Az×Int×Int)) 4 (fun(s161,s162,s163,s164) a166=>B9 125 [(2,AV.ptr 0 0),(5,AV.sl 4 (List.map A4 y1.1)),(8,AV.ptr 1 0),(9,AV.ptr 2 0)]) (fun(s161,s162,s163,s164) a166=>[Ob.var 27 [iA (0),AV.row 3 (List.length (([]:List Aw))),AV.row 4 (List.length (([]:List Ae))),AV.row 5 (List.length (([]:List Ag)))],Ob.var 68 [AV.sl 4 (List.map A4 y1.1),iA s161,iA s162,iA s163],Ob.var 27 [iA y102.1,AV.row 6 (List.length x136),AV.row 7 (List.length x160),AV.row 8 (List.length s164)],Ob.row 45 3 ([]),Ob.row 39 4 ([]),Ob.row 42 3 ([]),Ob.row 45 3 (List.map Am x136),Ob.row 39 4 (List.map Ad x160),Ob.row 42 3 (List.map Aj s164)]) (fun(x183,x184,x185,x186) a182=>B9 125 [(2,AV.ptr 0 0),(5,AV.sl 4 (List.map A4 y1.1)),(8,AV.ptr 1 0),(9,AV.ptr 2 0)]) (fun(x183,x184,x185,x186) a182=>[Ob.var 27 [iA (0),AV.row 3 (List.length (([]:List Aw))),AV.row 4 (List.length (([]:List Ae))),AV.row 5 (List.length (([]:List Ag)))],Ob.var 68 [AV.sl 4 (List.map A4 y1.1),iA x183,iA x184,iA x185],Ob.var 27 [iA y102.1,AV.row 6 (List.length x136),AV.row 7 (List.length x160),AV.row 8 (List.length x186)],Ob.row 45 3 ([]),Ob.row 39 4 ([]),Ob.row 42 3 ([]),Ob.row 45 3 (List.map Am x136),Ob.row 39 4 (List.map Ad x160),Ob.row 42 3 (List.map Aj x186)]) (fun v=>(AV.tup [AV.agg [iA v.1.Bo,AV.sl 3 (List.map Am v.1.B0),AV.sl 4 (List.map Ad v.1.Ak),AV.sl 3 (List.map Aj v.1.Ar)],iA v.2.1,iA v.2.2],[])) (fun k s=>Oj n y1 k s.1 s.2.1 s.2.2.1 s.2.2.2) (fun s=>rfl) o172 n (x157,x158,x159,([]:List Ag)) (fun _=>0) ho172 ?_ ?_
 intro k165 ss a166 K167 cont168 hK169 hcont170 h hr171
 obtain⟨s161,s162,s163,s164⟩:=ss
 replace h:Oj n y1 (k165+1) s161 s162 s163 s164=some o172:=h
 rw[Oj] at h
 conv=>lhs;whnf
 revert h
 refine ca hc (fun _ h=>U1 h) ?_;intro y173
 refine br ?_ ?_
 refine ca hc (fun _ h=>U1 h) ?_;intro y176
 refine ca hc (fun _ h=>A1r h) ?_;intro y178
 refine ar (ap Aj (List.map Aj s164) s164 ([[iA y178.1.A7,AV.sl 5 (List.map A3 y178.1.Bm),iA y178.1.Ab]]) ([y178.1]:List Ag)) ?_
 exact fun h=>cq (hcont170 (y178.2.1,y178.2.2.1,y178.2.2.2,(s164++([y178.1]:List Ag))) (fun _=>0) h)
 intro h;cases sj h
 exact kq (hr171 (fun _=>0))
 refine lrc ?_ ?_
 intro v e;subst e;cases sj h;rfl
 intro t a182 e;subst e
 obtain⟨x183,x184,x185,x186⟩:=t
 dsimp only at h
 conv=>lhs;whnf
 revert h
 refine br ?_ ?_
 refine ca hc (fun _ h=>I7 h) ?_;intro y188
 refine br ?_ ?_
 exact rz
 intro h;cases sj h
 try simp only[ls]
 exact fq (y:=some (AV.tup [AV.agg [iA y102.1,AV.sl 3 (List.take (List.length x136) (List.map Am x136)),AV.sl 4 (List.take (List.length x160) (List.map Ad x160)),AV.sl 3 (List.take (List.length x186) (List.map Aj x186))],iA (0),iA (0)],[]))
 refine br ?_ ?_
 exact rz
 intro h;cases sj h
 try simp only[ls]
 exact fq (y:=some (AV.tup [AV.agg [iA y102.1,AV.sl 3 (List.take (List.length x136) (List.map Am x136)),AV.sl 4 (List.take (List.length x160) (List.map Ad x160)),AV.sl 3 (List.take (List.length x186) (List.map Aj x186))],iA (0),iA (0)],[]))
theorem Ab8 {n:Nat} ⦃B7:(List UInt8)⦄ ⦃r:Bool⦄:S9 n B7=some r→CN n 3 [sA B7] []=some (bA r,[]):=by
 intro h;rcases n with _|n;cases h
 rw[S9] at h
 refine Ai Tryz.func3 (by rfl) rfl rfl (Ap rfl) ?_
 intro call hc;conv=>lhs;whnf
 revert h
 refine br ?_ ?_
 refine ca hc (fun _ h=>Rt h) ?_;intro y2
 exact rz
 refine ca hc (fun _ h=>Mc h) ?_;intro y4
 refine ca hc (fun _ h=>Akj h) ?_;intro y6
 refine ca hc (fun _ h=>A4r h) ?_;intro y8
 refine br ?_ ?_
 refine br ?_ ?_
 refine br ?_ ?_
 refine ca hc (fun _ h=>Rt h) ?_;intro y13
 exact rz
 exact rz
 exact rz
 exact rz
end Go.Proofs.YtnijlelbihnamaaGreat
end
