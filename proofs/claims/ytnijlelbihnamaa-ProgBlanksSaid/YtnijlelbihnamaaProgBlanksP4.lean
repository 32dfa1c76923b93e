/- Parts of the proofs: what they lean on. Conditions: none. -/
import Derived.Test.YtnijlelbihnamaaProgBlanksP3
section
namespace Go.Proofs.Ytnijlelbihnamaa
set_option linter.unusedVariables false
set_option linter.unusedSimpArgs false
set_option maxRecDepth 100000
set_option maxHeartbeats 4000000
theorem A6t {n:Nat} ⦃Bi:B7⦄ ⦃Bk:B7⦄ ⦃Ef:Bool⦄ ⦃r:Bool⦄:Ni n Bi Bk Ef=some r→CN n 10 [AV.agg [iA Bi.Bz,AV.sl 3 (List.map Aj Bi.B8),AV.sl 4 (List.map A9 Bi.Ak),AV.sl 3 (List.map Ag Bi.Ar)],AV.agg [iA Bk.Bz,AV.sl 3 (List.map Aj Bk.B8),AV.sl 4 (List.map A9 Bk.Ak),AV.sl 3 (List.map Ag Bk.Ar)],bA Ef] []=some (bA r,[]):=by
 intro h;rcases n with _|n;cases h
 rw[Ni] at h
 refine Ai Try.func10 (by rfl) rfl rfl (Am rfl) ?_
 intro call hc;conv=>lhs;whnf
 revert h
 refine br ?_ ?_
 exact rz
 refine br ?_ ?_
 exact rz
 refine br ?_ ?_
 exact rz
 refine br ?_ ?_
 exact rz
 intro h;refine Av h ?_;clear h;intro o14 ho14 h
 refine lq (σ:=(Bool×Int)) (τ:=Bool) (ν:=Bool) 0 (fun(s5,s6) a8=>Bg 221 [(2,bA s5),(3,AV.ptr 0 0),(4,AV.ptr 1 0),(7,iA s6)]) (fun(s5,s6) a8=>[Ob.var 27 [iA Bi.Bz,AV.sl 3 (List.map Aj Bi.B8),AV.sl 4 (List.map A9 Bi.Ak),AV.sl 3 (List.map Ag Bi.Ar)],Ob.var 27 [iA Bk.Bz,AV.sl 3 (List.map Aj Bk.B8),AV.sl 4 (List.map A9 Bk.Ak),AV.sl 3 (List.map Ag Bk.Ar)]]) (fun x27 a26=>Bg 221 [(2,bA x27),(3,AV.ptr 0 0),(4,AV.ptr 1 0)]) (fun x27 a26=>[Ob.var 27 [iA Bi.Bz,AV.sl 3 (List.map Aj Bi.B8),AV.sl 4 (List.map A9 Bi.Ak),AV.sl 3 (List.map Ag Bi.Ar)],Ob.var 27 [iA Bk.Bz,AV.sl 3 (List.map Aj Bk.B8),AV.sl 4 (List.map A9 Bk.Ak),AV.sl 3 (List.map Ag Bk.Ar)]]) (fun v=>(bA v,[])) (fun k s=>Fv n Bi Bk k s.1 s.2) (fun s=>rfl) o14 n (Ef,0) (fun _=>0) ho14 ?_ ?_
 intro k7 ss a8 K9 cont10 hK11 hcont12 h hr13
 obtain⟨s5,s6⟩:=ss
 replace h:Fv n Bi Bk (k7+1) s5 s6=some o14:=h
 rw[Fv] at h
 conv=>lhs;whnf
 revert h
 refine br ?_ ?_
 refine ix ?_;intro x16
 refine ix ?_;intro x17
 refine br ?_ ?_
 refine ix ?_;intro x19
 refine ix ?_;intro x20
 refine br ?_ ?_
 intro h;cases sj h
 refine(hK11 _ _).trans ?_
 refine Eq.trans ?_ (Eq.symm (show _=some _ from hr13))
 conv=>lhs;whnf
 exact rq
 refine br ?_ ?_
 refine ix ?_;intro x23
 refine ix ?_;intro x24
 refine br ?_ ?_
 intro h;cases sj h
 refine(hK11 _ _).trans ?_
 refine Eq.trans ?_ (Eq.symm (show _=some _ from hr13))
 conv=>lhs;whnf
 exact rq
 exact fun h=>cq (hcont12 (true,IntKind.i64.wrap (s6+1)) (fun _=>0) h)
 exact fun h=>cq (hcont12 (false,IntKind.i64.wrap (s6+1)) (fun _=>0) h)
 intro h;cases sj h
 refine(hK11 _ _).trans ?_
 refine Eq.trans ?_ (Eq.symm (show _=some _ from hr13))
 conv=>lhs;whnf
 exact rq
 intro h;cases sj h
 exact kq (hr13 (fun _=>0))
 refine lrc ?_ ?_
 intro v e;subst e;cases sj h;rfl
 intro x27 a26 e;subst e
 dsimp only at h
 conv=>lhs;whnf
 revert h
 intro h;refine Av h ?_;clear h;intro o37 ho37 h
 refine lq (σ:=(Bool×Int)) (τ:=Bool) (ν:=Bool) 2 (fun(s28,s29) a31=>Bg 221 [(2,bA s28),(3,AV.ptr 0 0),(4,AV.ptr 1 0),(8,iA s29)]) (fun(s28,s29) a31=>[Ob.var 27 [iA Bi.Bz,AV.sl 3 (List.map Aj Bi.B8),AV.sl 4 (List.map A9 Bi.Ak),AV.sl 3 (List.map Ag Bi.Ar)],Ob.var 27 [iA Bk.Bz,AV.sl 3 (List.map Aj Bk.B8),AV.sl 4 (List.map A9 Bk.Ak),AV.sl 3 (List.map Ag Bk.Ar)]]) (fun x79 a78=>Bg 221 [(2,bA x79),(3,AV.ptr 0 0),(4,AV.ptr 1 0)]) (fun x79 a78=>[Ob.var 27 [iA Bi.Bz,AV.sl 3 (List.map Aj Bi.B8),AV.sl 4 (List.map A9 Bi.Ak),AV.sl 3 (List.map Ag Bi.Ar)],Ob.var 27 [iA Bk.Bz,AV.sl 3 (List.map Aj Bk.B8),AV.sl 4 (List.map A9 Bk.Ak),AV.sl 3 (List.map Ag Bk.Ar)]]) (fun v=>(bA v,[])) (fun k s=>Fx n Bi Bk k s.1 s.2) (fun s=>rfl) o37 n (x27,0) (fun _=>0) ho37 ?_ ?_
 intro k30 ss a31 K32 cont33 hK34 hcont35 h hr36
 obtain⟨s28,s29⟩:=ss
 replace h:Fx n Bi Bk (k30+1) s28 s29=some o37:=h
 rw[Fx] at h
 conv=>lhs;whnf
 revert h
 refine br ?_ ?_
 refine ix ?_;intro x39
 refine ix ?_;intro x40
 refine br ?_ ?_
 refine br ?_ ?_
 intro h;cases sj h
 refine(hK34 _ _).trans ?_
 refine Eq.trans ?_ (Eq.symm (show _=some _ from hr36))
 conv=>lhs;whnf
 exact rq
 refine ca hc (fun _ h=>A6s h) ?_;intro y43
 refine br ?_ ?_
 refine br ?_ ?_
 refine br ?_ ?_
 intro h;cases sj h
 refine(hK34 _ _).trans ?_
 refine Eq.trans ?_ (Eq.symm (show _=some _ from hr36))
 conv=>lhs;whnf
 exact rq
 intro h;refine Av h ?_;clear h;intro o56 ho56 h
 refine lq (σ:=Int) (τ:=Unit) (ν:=Bool) 4 (fun s48 a50=>Bg 221 [(2,bA true),(3,AV.ptr 0 0),(4,AV.ptr 1 0),(8,iA s29),(9,AV.ptr 2 0),(10,AV.ptr 3 0),(11,iA s48)]) (fun s48 a50=>[Ob.var 27 [iA Bi.Bz,AV.sl 3 (List.map Aj Bi.B8),AV.sl 4 (List.map A9 Bi.Ak),AV.sl 3 (List.map Ag Bi.Ar)],Ob.var 27 [iA Bk.Bz,AV.sl 3 (List.map Aj Bk.B8),AV.sl 4 (List.map A9 Bk.Ak),AV.sl 3 (List.map Ag Bk.Ar)],Ob.var 40 [sA x39.An,AV.sl 1 (List.map Fk x39.Bv),AV.sl 9 (List.map Aa x39.Be),iA x39.Al],Ob.var 40 [sA x40.An,AV.sl 1 (List.map Fk x40.Bv),AV.sl 9 (List.map Aa x40.Be),iA x40.Al]]) (fun _ a61=>Bg 221 [(2,bA true),(3,AV.ptr 0 0),(4,AV.ptr 1 0),(8,iA s29)]) (fun _ a61=>[Ob.var 27 [iA Bi.Bz,AV.sl 3 (List.map Aj Bi.B8),AV.sl 4 (List.map A9 Bi.Ak),AV.sl 3 (List.map Ag Bi.Ar)],Ob.var 27 [iA Bk.Bz,AV.sl 3 (List.map Aj Bk.B8),AV.sl 4 (List.map A9 Bk.Ak),AV.sl 3 (List.map Ag Bk.Ar)],Ob.var 40 [sA x39.An,AV.sl 1 (List.map Fk x39.Bv),AV.sl 9 (List.map Aa x39.Be),iA x39.Al],Ob.var 40 [sA x40.An,AV.sl 1 (List.map Fk x40.Bv),AV.sl 9 (List.map Aa x40.Be),iA x40.Al]]) (fun v=>(bA v,[])) (fun k s=>Gp n x39 x40 k s) (fun s=>rfl) o56 n 0 (fun _=>0) ho56 ?_ ?_
 intro k49 s48 a50 K51 cont52 hK53 hcont54 h hr55
 replace h:Gp n x39 x40 (k49+1) s48=some o56:=h
 rw[Gp] at h
 conv=>lhs;whnf
 revert h
 refine br ?_ ?_
 refine ix ?_;intro x58
 refine ix ?_;intro x59
 refine br ?_ ?_
 exact fun h=>cq (hcont54 (IntKind.i64.wrap (s48+1)) (fun _=>0) h)
 intro h;cases sj h
 refine(hK53 _ _).trans ?_
 conv=>lhs;whnf
 refine(hK34 _ _).trans ?_
 refine Eq.trans ?_ (Eq.symm (show _=some _ from hr55))
 conv=>lhs;whnf
 exact rq
 intro h;cases sj h
 exact kq (hr55 (fun _=>0))
 refine lrc ?_ ?_
 intro v e;subst e;cases sj h;exact hr36
 intro t a61 e;subst e
 dsimp only at h
 conv=>lhs;whnf
 revert h
 exact fun h=>cq (hcont35 (true,IntKind.i64.wrap (s29+1)) (fun _=>0) h)
 intro h;refine Av h ?_;clear h;intro o71 ho71 h
 refine lq (σ:=Int) (τ:=Unit) (ν:=Bool) 4 (fun s63 a65=>Bg 221 [(2,bA false),(3,AV.ptr 0 0),(4,AV.ptr 1 0),(8,iA s29),(9,AV.ptr 2 0),(10,AV.ptr 3 0),(11,iA s63)]) (fun s63 a65=>[Ob.var 27 [iA Bi.Bz,AV.sl 3 (List.map Aj Bi.B8),AV.sl 4 (List.map A9 Bi.Ak),AV.sl 3 (List.map Ag Bi.Ar)],Ob.var 27 [iA Bk.Bz,AV.sl 3 (List.map Aj Bk.B8),AV.sl 4 (List.map A9 Bk.Ak),AV.sl 3 (List.map Ag Bk.Ar)],Ob.var 40 [sA x39.An,AV.sl 1 (List.map Fk x39.Bv),AV.sl 9 (List.map Aa x39.Be),iA x39.Al],Ob.var 40 [sA x40.An,AV.sl 1 (List.map Fk x40.Bv),AV.sl 9 (List.map Aa x40.Be),iA x40.Al]]) (fun _ a76=>Bg 221 [(2,bA false),(3,AV.ptr 0 0),(4,AV.ptr 1 0),(8,iA s29)]) (fun _ a76=>[Ob.var 27 [iA Bi.Bz,AV.sl 3 (List.map Aj Bi.B8),AV.sl 4 (List.map A9 Bi.Ak),AV.sl 3 (List.map Ag Bi.Ar)],Ob.var 27 [iA Bk.Bz,AV.sl 3 (List.map Aj Bk.B8),AV.sl 4 (List.map A9 Bk.Ak),AV.sl 3 (List.map Ag Bk.Ar)],Ob.var 40 [sA x39.An,AV.sl 1 (List.map Fk x39.Bv),AV.sl 9 (List.map Aa x39.Be),iA x39.Al],Ob.var 40 [sA x40.An,AV.sl 1 (List.map Fk x40.Bv),AV.sl 9 (List.map Aa x40.Be),iA x40.Al]]) (fun v=>(bA v,[])) (fun k s=>Gr n x39 x40 k s) (fun s=>rfl) o71 n 0 (fun _=>0) ho71 ?_ ?_
 intro k64 s63 a65 K66 cont67 hK68 hcont69 h hr70
 replace h:Gr n x39 x40 (k64+1) s63=some o71:=h
 rw[Gr] at h
 conv=>lhs;whnf
 revert h
 refine br ?_ ?_
 refine ix ?_;intro x73
 refine ix ?_;intro x74
 refine br ?_ ?_
 exact fun h=>cq (hcont69 (IntKind.i64.wrap (s63+1)) (fun _=>0) h)
 intro h;cases sj h
 refine(hK68 _ _).trans ?_
 conv=>lhs;whnf
 refine(hK34 _ _).trans ?_
 refine Eq.trans ?_ (Eq.symm (show _=some _ from hr70))
 conv=>lhs;whnf
 exact rq
 intro h;cases sj h
 exact kq (hr70 (fun _=>0))
 refine lrc ?_ ?_
 intro v e;subst e;cases sj h;exact hr36
 intro t a76 e;subst e
 dsimp only at h
 conv=>lhs;whnf
 revert h
 exact fun h=>cq (hcont35 (false,IntKind.i64.wrap (s29+1)) (fun _=>0) h)
 intro h;cases sj h
 refine(hK34 _ _).trans ?_
 refine Eq.trans ?_ (Eq.symm (show _=some _ from hr36))
 conv=>lhs;whnf
 exact rq
 intro h;cases sj h
 refine(hK34 _ _).trans ?_
 refine Eq.trans ?_ (Eq.symm (show _=some _ from hr36))
 conv=>lhs;whnf
 exact rq
 intro h;cases sj h
 exact kq (hr36 (fun _=>0))
 refine lrc ?_ ?_
 intro v e;subst e;cases sj h;rfl
 intro x79 a78 e;subst e
 dsimp only at h
 conv=>lhs;whnf
 revert h
 intro h;refine Av h ?_;clear h;intro o89 ho89 h
 refine lq (σ:=(Bool×Int)) (τ:=Unit) (ν:=Bool) 6 (fun(s80,s81) a83=>Bg 221 [(2,bA s80),(3,AV.ptr 0 0),(4,AV.ptr 1 0),(12,iA s81)]) (fun(s80,s81) a83=>[Ob.var 27 [iA Bi.Bz,AV.sl 3 (List.map Aj Bi.B8),AV.sl 4 (List.map A9 Bi.Ak),AV.sl 3 (List.map Ag Bi.Ar)],Ob.var 27 [iA Bk.Bz,AV.sl 3 (List.map Aj Bk.B8),AV.sl 4 (List.map A9 Bk.Ak),AV.sl 3 (List.map Ag Bk.Ar)]]) (fun _ a103=>Bg 221 []) (fun _ a103=>[Ob.var 27 [iA Bi.Bz,AV.sl 3 (List.map Aj Bi.B8),AV.sl 4 (List.map A9 Bi.Ak),AV.sl 3 (List.map Ag Bi.Ar)],Ob.var 27 [iA Bk.Bz,AV.sl 3 (List.map Aj Bk.B8),AV.sl 4 (List.map A9 Bk.Ak),AV.sl 3 (List.map Ag Bk.Ar)]]) (fun v=>(bA v,[])) (fun k s=>Fu n Bi Bk k s.1 s.2) (fun s=>rfl) o89 n (x79,0) (fun _=>0) ho89 ?_ ?_
 intro k82 ss a83 K84 cont85 hK86 hcont87 h hr88
 obtain⟨s80,s81⟩:=ss
 replace h:Fu n Bi Bk (k82+1) s80 s81=some o89:=h
 rw[Fu] at h
 conv=>lhs;whnf
 revert h
 refine br ?_ ?_
 refine ix ?_;intro x91
 refine ix ?_;intro x92
 refine br ?_ ?_
 intro h;cases sj h
 refine(hK86 _ _).trans ?_
 refine Eq.trans ?_ (Eq.symm (show _=some _ from hr88))
 conv=>lhs;whnf
 exact rq
 refine ix ?_;intro x94
 refine ix ?_;intro x95
 refine ca hc (fun _ h=>M8 h) ?_;intro y96
 refine br ?_ ?_
 refine br ?_ ?_
 refine ix ?_;intro x100
 refine ix ?_;intro x101
 refine br ?_ ?_
 intro h;cases sj h
 refine(hK86 _ _).trans ?_
 refine Eq.trans ?_ (Eq.symm (show _=some _ from hr88))
 conv=>lhs;whnf
 exact rq
 exact fun h=>cq (hcont87 (true,IntKind.i64.wrap (s81+1)) (fun _=>0) h)
 exact fun h=>cq (hcont87 (false,IntKind.i64.wrap (s81+1)) (fun _=>0) h)
 intro h;cases sj h
 refine(hK86 _ _).trans ?_
 refine Eq.trans ?_ (Eq.symm (show _=some _ from hr88))
 conv=>lhs;whnf
 exact rq
 intro h;cases sj h
 exact kq (hr88 (fun _=>0))
 refine lrc ?_ ?_
 intro v e;subst e;cases sj h;rfl
 intro t a103 e;subst e
 dsimp only at h
 conv=>lhs;whnf
 revert h
 exact rz
theorem Z2 {n:Nat} ⦃Bp:(List UInt8)⦄ ⦃r:Bool⦄:I5 n Bp=some r→CN n 4 [sA Bp] []=some (bA r,[]):=by
 intro h;rcases n with _|n;cases h
 rw[I5] at h
 refine Ai Try.func4 (by rfl) rfl rfl (Am rfl) ?_
 intro call hc;conv=>lhs;whnf
 revert h
 refine br ?_ ?_
 refine ca hc (fun _ h=>X9 h) ?_;intro y2
 exact rz
 refine ca hc (fun _ h=>Jv h) ?_;intro y4
 intro h
 refine B0 h ?_;clear h;intro hc6 h
 refine B1 hc6 ?_
 try simp only[ls]
 conv=>lhs;whnf
 revert h
 intro h
 refine B0 h ?_;clear h;intro hc7 h
 refine B1 hc7 ?_
 try simp only[ls]
 conv=>lhs;whnf
 revert h
 refine ca hc (fun _ h=>Jv h) ?_;intro y8
 refine br ?_ ?_
 refine ca hc (fun _ h=>A6t h) ?_;intro y11
 refine br ?_ ?_
 refine ca hc (fun _ h=>X9 h) ?_;intro y14
 exact rz
 exact rz
 exact rz
end Go.Proofs.Ytnijlelbihnamaa
end
