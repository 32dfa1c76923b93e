/- Parts of the proofs: what they lean on. Conditions: none. -/
import Derived.Test.YteindmlljlboeaaGreatPshS12
section
namespace Go.Proofs.YteindmlljlboeaaGreat
set_option linter.unusedVariables false
set_option linter.unusedSimpArgs false
set_option maxRecDepth 100000
set_option maxHeartbeats 4000000
theorem Vl {n:Nat} ⦃Cq:Int⦄ ⦃r:Int⦄:Kj n Cq=some r→CN n 117 [iA Cq] []=some (iA r,[]):=by
 intro h;rcases n with _|n;cases h
 rw[Kj] at h
 refine An Tryz.func117 (by rfl) rfl rfl (As rfl) ?_
 intro call hc;conv=>lhs;whnf
 revert h
 refine br ?_ ?_
 refine br ?_ ?_
 exact rz
 refine br ?_ ?_
 exact rz
 refine br ?_ ?_
 refine br ?_ ?_
 exact rz
 exact rz
 exact rz
 refine br ?_ ?_
 exact rz
 refine br ?_ ?_
 refine br ?_ ?_
 exact rz
 exact rz
 exact rz
theorem Xl {n:Nat} ⦃Aa:(List A0)⦄ ⦃C3:Int⦄ ⦃r:Int⦄:Nf n Aa C3=some r→CN n 91 [AV.sl 5 (List.map A1 Aa),iA C3] []=some (iA r,[]):=by
 intro h;rcases n with _|n;cases h
 rw[Nf] at h
 refine An Tryz.func91 (by rfl) rfl rfl (As rfl) ?_
 intro call hc;conv=>lhs;whnf
 revert h
 refine br ?_ ?_
 exact rz
 intro h;refine Av h ?_;clear h;intro o11 ho11 h
 refine lq (σ:=(Int×Int)) (τ:=Unit) (ν:=Int) 0 (fun(s2,s3) a5=>B4 33 [(0,AV.sl 5 (List.map A1 Aa)),(5,iA s2),(6,iA s3)]) (fun(s2,s3) a5=>[]) (fun _ a18=>B4 33 []) (fun _ a18=>[]) (fun v=>(iA v,[])) (fun k s=>Hv n Aa k s.1 s.2) (fun s=>rfl) o11 n (1,C3) (fun _=>0) ho11 ?_ ?_
 intro k4 ss a5 K6 cont7 hK8 hcont9 h hr10
 obtain⟨s2,s3⟩:=ss
 replace h:Hv n Aa (k4+1) s2 s3=some o11:=h
 rw[Hv] at h
 conv=>lhs;whnf
 revert h
 refine br ?_ ?_
 refine ix ?_;intro x13
 refine ca hc (fun _ h=>Vl h) ?_;intro y14
 refine br ?_ ?_
 intro h;cases sj h
 refine(hK8 _ _).trans ?_
 refine Eq.trans ?_ (Eq.symm (show _=some _ from hr10))
 conv=>lhs;whnf
 exact rq
 refine br ?_ ?_
 intro h;cases sj h
 refine(hK8 _ _).trans ?_
 refine Eq.trans ?_ (Eq.symm (show _=some _ from hr10))
 conv=>lhs;whnf
 exact rq
 exact fun h=>cq (hcont9 (IntKind.i64.wrap ((IntKind.i64.wrap (s2 - 1))+y14),IntKind.i64.wrap (s3+1)) (fun _=>0) h)
 intro h;cases sj h
 exact kq (hr10 (fun _=>0))
 refine lrc ?_ ?_
 intro v e;subst e;cases sj h;rfl
 intro t a18 e;subst e
 dsimp only at h
 conv=>lhs;whnf
 revert h
 exact rz
theorem Uw {n:Nat} ⦃Aa:(List A0)⦄ ⦃r:Bool⦄:Kv n Aa=some r→CN n 14 [AV.sl 5 (List.map A1 Aa)] []=some (bA r,[]):=by
 intro h;rcases n with _|n;cases h
 rw[Kv] at h
 refine An Tryz.func14 (by rfl) rfl rfl (As rfl) ?_
 intro call hc;conv=>lhs;whnf
 revert h
 refine br ?_ ?_
 exact rz
 intro h;refine Av h ?_;clear h;intro o10 ho10 h
 refine lq (σ:=Int) (τ:=Unit) (ν:=Bool) 0 (fun s2 a4=>B4 29 [(0,AV.sl 5 (List.map A1 Aa)),(3,iA s2)]) (fun s2 a4=>[]) (fun _ a16=>B4 29 []) (fun _ a16=>[]) (fun v=>(bA v,[])) (fun k s=>Gp n Aa k s) (fun s=>rfl) o10 n 0 (fun _=>0) ho10 ?_ ?_
 intro k3 s2 a4 K5 cont6 hK7 hcont8 h hr9
 replace h:Gp n Aa (k3+1) s2=some o10:=h
 rw[Gp] at h
 conv=>lhs;whnf
 revert h
 refine br ?_ ?_
 refine ix ?_;intro x12
 refine br ?_ ?_
 intro h;cases sj h
 refine(hK7 _ _).trans ?_
 refine Eq.trans ?_ (Eq.symm (show _=some _ from hr9))
 conv=>lhs;whnf
 exact rq
 refine ix ?_;intro x14
 refine br ?_ ?_
 intro h;cases sj h
 refine(hK7 _ _).trans ?_
 refine Eq.trans ?_ (Eq.symm (show _=some _ from hr9))
 conv=>lhs;whnf
 exact rq
 exact fun h=>cq (hcont8 (IntKind.i64.wrap (s2+1)) (fun _=>0) h)
 intro h;cases sj h
 exact kq (hr9 (fun _=>0))
 refine lrc ?_ ?_
 intro v e;subst e;cases sj h;rfl
 intro t a16 e;subst e
 dsimp only at h
 conv=>lhs;whnf
 revert h
 exact rz
theorem Zn {n:Nat} ⦃Aa:(List A0)⦄ ⦃r:(List A0)⦄:Ml n Aa=some r→CN n 64 [AV.sl 5 (List.map A1 Aa)] []=some (AV.sl 5 (List.map A1 r),[]):=by
 intro h;rcases n with _|n;cases h
 rw[Ml] at h
 refine An Tryz.func64 (by rfl) rfl rfl (As rfl) ?_
 intro call hc;conv=>lhs;whnf
 revert h
 intro h;refine Av h ?_;clear h;intro o10 ho10 h
 refine lq (σ:=(Int×(List A0))) (τ:=(List A0)) (ν:=(List A0)) 0 (fun(s1,s2) a4=>B4 41 [(0,AV.sl 5 (List.map A1 Aa)),(3,AV.row 0 (List.length s2)),(4,iA s1)]) (fun(s1,s2) a4=>[Ob.row 42 5 (List.map A1 s2)]) (fun x28 a27=>B4 41 [(3,AV.row 0 (List.length x28))]) (fun x28 a27=>[Ob.row 42 5 (List.map A1 x28)]) (fun v=>(AV.sl 5 (List.map A1 v),[])) (fun k s=>Ds n Aa k s.1 s.2) (fun s=>rfl) o10 n (0,([]:List A0)) (fun _=>0) ho10 ?_ ?_
 intro k3 ss a4 K5 cont6 hK7 hcont8 h hr9
 obtain⟨s1,s2⟩:=ss
 replace h:Ds n Aa (k3+1) s1 s2=some o10:=h
 rw[Ds] at h
 conv=>lhs;whnf
 revert h
 refine br ?_ ?_
 refine ix ?_;intro x12
 refine br ?_ ?_
 refine ix ?_;intro x14
 refine ar (ap A1 (List.map A1 s2) s2 ([[iA x14.B1,iA x14.Bk,sA x14.Ae,sA x14.C2,iA x14.B0]]) ([x14]:List A0)) ?_
 exact fun h=>cq (hcont8 (IntKind.i64.wrap (s1+1),(s2++([x14]:List A0))) (fun _=>0) h)
 refine ix ?_;intro x17
 refine br ?_ ?_
 refine ix ?_;intro x19
 refine ar (ap A1 (List.map A1 s2) s2 ([[iA x19.B1,iA x19.Bk,sA x19.Ae,sA x19.C2,iA x19.B0]]) ([x19]:List A0)) ?_
 exact fun h=>cq (hcont8 (IntKind.i64.wrap (s1+1),(s2++([x19]:List A0))) (fun _=>0) h)
 refine ix ?_;intro x22
 refine br ?_ ?_
 refine ix ?_;intro x24
 refine ar (ap A1 (List.map A1 s2) s2 ([[iA x24.B1,iA x24.Bk,sA x24.Ae,sA x24.C2,iA x24.B0]]) ([x24]:List A0)) ?_
 exact fun h=>cq (hcont8 (IntKind.i64.wrap (s1+1),(s2++([x24]:List A0))) (fun _=>0) h)
 exact fun h=>cq (hcont8 (IntKind.i64.wrap (s1+1),s2) (fun _=>0) h)
 intro h;cases sj h
 exact kq (hr9 (fun _=>0))
 refine lrc ?_ ?_
 intro v e;subst e;cases sj h;rfl
 intro x28 a27 e;subst e
 dsimp only at h
 conv=>lhs;whnf
 revert h
 intro h;obtain rfl:=sj h
 try simp only[ls]
 exact fq (y:=some (AV.sl 5 (List.take (List.length x28) (List.map A1 x28)),[]))
def Sg (n:Nat):Prop:=∀ ⦃Aa:(List A0)⦄ ⦃C3:Int⦄ ⦃r:Int⦄,Fy n Aa C3=some r→CN n 93 [AV.sl 5 (List.map A1 Aa),iA C3] []=some (iA r,[])
def W1 (n:Nat):Prop:=Sg n
theorem Aap (n:Nat) (ih:W1 n):Sg (n+1):=by
 intro Aa C3 r h
 rw[Fy] at h
 refine An Tryz.func93 (by rfl) rfl rfl (As rfl) ?_
 intro call hc;conv=>lhs;whnf
 revert h
 intro h;refine Av h ?_;clear h;intro o11 ho11 h
 refine lq (σ:=(Int×Int×Int)) (τ:=Int) (ν:=Int) 0 (fun(s1,s2,s3) a5=>B4 30 [(0,AV.sl 5 (List.map A1 Aa)),(1,iA C3),(5,iA s1),(6,iA s2),(7,iA s3)]) (fun(s1,s2,s3) a5=>[]) (fun x21 a20=>B4 30 [(5,iA x21)]) (fun x21 a20=>[]) (fun v=>(iA v,[])) (fun k s=>Ez n (Fy n) Aa C3 k s.1 s.2.1 s.2.2) (fun s=>rfl) o11 n (0,IntKind.i64.wrap (C3+1),0) (fun _=>0) ho11 ?_ ?_
 intro k4 ss a5 K6 cont7 hK8 hcont9 h hr10
 obtain⟨s1,s2,s3⟩:=ss
 replace h:Ez n (Fy n) Aa C3 (k4+1) s1 s2 s3=some o11:=h
 rw[Ez] at h
 conv=>lhs;whnf
 revert h
 refine ix ?_;intro x12
 refine ca hc (fun _ h=>Vl h) ?_;intro y13
 refine br ?_ ?_
 refine ca hc (fun _ h=>ih h) ?_;intro y16
 refine ca hc (fun _ h=>Xl h) ?_;intro y18
 exact fun h=>cq (hcont9 ((if s1<(IntKind.i64.wrap (1+y16)) then(IntKind.i64.wrap (1+y16)) else s1),y18,IntKind.i64.wrap (s3+1)) (fun _=>0) h)
 intro h;cases sj h
 exact kq (hr10 (fun _=>0))
 refine lrc ?_ ?_
 intro v e;subst e;cases sj h;rfl
 intro x21 a20 e;subst e
 dsimp only at h
 conv=>lhs;whnf
 revert h
 exact rz
theorem Zv:∀ n,W1 n
 | 0=>by unfold W1 Sg;intros;rename_i h;exact absurd h (by intro h;cases h)
 | n+1=>have ih:=Zv n
   Aap n ih
theorem Aaf {n:Nat}:Sg n:=(Zv n)
theorem Aae {n:Nat} ⦃Aj:A0⦄ ⦃r:Bool⦄:Qj n Aj=some r→CN n 92 [AV.agg [iA Aj.B1,iA Aj.Bk,sA Aj.Ae,sA Aj.C2,iA Aj.B0]] []=some (bA r,[]):=by
 intro h;rcases n with _|n;cases h
 rw[Qj] at h
 refine An Tryz.func92 (by rfl) rfl rfl (As rfl) ?_
 intro call hc;conv=>lhs;whnf
 revert h
 refine br ?_ ?_
 exact rz
 refine br ?_ ?_
 refine br ?_ ?_
 refine br ?_ ?_
 refine br ?_ ?_
 exact rz
 exact rz
 exact rz
 exact rz
 refine br ?_ ?_
 refine br ?_ ?_
 refine ca hc (fun _ h=>Gc h) ?_;intro y8
 refine br ?_ ?_
 exact rz
 exact rz
 exact rz
 refine br ?_ ?_
 refine br ?_ ?_
 refine ca hc (fun _ h=>Gc h) ?_;intro y13
 refine br ?_ ?_
 exact rz
 exact rz
 exact rz
 refine br ?_ ?_
 refine br ?_ ?_
 refine ca hc (fun _ h=>Gc h) ?_;intro y18
 refine br ?_ ?_
 refine ca hc (fun _ h=>Gc h) ?_;intro y21
 exact rz
 exact rz
 exact rz
 refine br ?_ ?_
 refine br ?_ ?_
 exact rz
 exact rz
 exact rz
theorem Ul {n:Nat} ⦃Aa:(List A0)⦄ ⦃r:Bool⦄:Kt n Aa=some r→CN n 65 [AV.sl 5 (List.map A1 Aa)] []=some (bA r,[]):=by
 intro h;rcases n with _|n;cases h
 rw[Kt] at h
 refine An Tryz.func65 (by rfl) rfl rfl (As rfl) ?_
 intro call hc;conv=>lhs;whnf
 revert h
 refine br ?_ ?_
 exact rz
 refine br ?_ ?_
 exact rz
 refine ca hc (fun _ h=>Xl h) ?_;intro y3
 refine br ?_ ?_
 exact rz
 intro h;refine Av h ?_;clear h;intro o14 ho14 h
 refine lq (σ:=Int) (τ:=Unit) (ν:=Bool) 0 (fun s6 a8=>B4 34 [(0,AV.sl 5 (List.map A1 Aa)),(3,iA s6)]) (fun s6 a8=>[]) (fun _ a20=>B4 34 [(0,AV.sl 5 (List.map A1 Aa))]) (fun _ a20=>[]) (fun v=>(bA v,[])) (fun k s=>Gm n Aa k s) (fun s=>rfl) o14 n 0 (fun _=>0) ho14 ?_ ?_
 intro k7 s6 a8 K9 cont10 hK11 hcont12 h hr13
 replace h:Gm n Aa (k7+1) s6=some o14:=h
 rw[Gm] at h
 conv=>lhs;whnf
 revert h
 refine br ?_ ?_
 refine ix ?_;intro x16
 refine ca hc (fun _ h=>Aae h) ?_;intro y17
 refine br ?_ ?_
 exact fun h=>cq (hcont12 (IntKind.i64.wrap (s6+1)) (fun _=>0) h)
 intro h;cases sj h
 refine(hK11 _ _).trans ?_
 refine Eq.trans ?_ (Eq.symm (show _=some _ from hr13))
 conv=>lhs;whnf
 exact rq
 intro h;cases sj h
 exact kq (hr13 (fun _=>0))
 refine lrc ?_ ?_
 intro v e;subst e;cases sj h;rfl
 intro t a20 e;subst e
 dsimp only at h
 conv=>lhs;whnf
 revert h
 refine ca hc (fun _ h=>Aaf h) ?_;intro y21
 exact rz
theorem Pc {n:Nat} ⦃Bn:(List A0)⦄ ⦃Bp:(List A0)⦄ ⦃Ei:Bool⦄ ⦃r:Bool⦄:Jc n Bn Bp Ei=some r→CN n 31 [AV.sl 5 (List.map A1 Bn),AV.sl 5 (List.map A1 Bp),bA Ei] []=some (bA r,[]):=by
 intro h;rcases n with _|n;cases h
 rw[Jc] at h
 refine An Tryz.func31 (by rfl) rfl rfl (As rfl) ?_
 intro call hc;conv=>lhs;whnf
 revert h
 refine br ?_ ?_
 exact rz
 intro h;refine Av h ?_;clear h;intro o11 ho11 h
 refine lq (σ:=(Bool×Int)) (τ:=Unit) (ν:=Bool) 0 (fun(s2,s3) a5=>B4 85 [(0,AV.sl 5 (List.map A1 Bn)),(1,AV.sl 5 (List.map A1 Bp)),(2,bA s2),(7,iA s3)]) (fun(s2,s3) a5=>[]) (fun _ a29=>B4 85 []) (fun _ a29=>[]) (fun v=>(bA v,[])) (fun k s=>G7 n Bn Bp k s.1 s.2) (fun s=>rfl) o11 n (Ei,0) (fun _=>0) ho11 ?_ ?_
 intro k4 ss a5 K6 cont7 hK8 hcont9 h hr10
 obtain⟨s2,s3⟩:=ss
 replace h:G7 n Bn Bp (k4+1) s2 s3=some o11:=h
 rw[G7] at h
 conv=>lhs;whnf
 revert h
 refine br ?_ ?_
 refine ix ?_;intro x13
 refine ix ?_;intro x14
 refine br ?_ ?_
 intro h;cases sj h
 refine(hK8 _ _).trans ?_
 refine Eq.trans ?_ (Eq.symm (show _=some _ from hr10))
 conv=>lhs;whnf
 exact rq
 refine ix ?_;intro x16
 refine ix ?_;intro x17
 refine br ?_ ?_
 intro h;cases sj h
 refine(hK8 _ _).trans ?_
 refine Eq.trans ?_ (Eq.symm (show _=some _ from hr10))
 conv=>lhs;whnf
 exact rq
 refine ix ?_;intro x19
 refine ix ?_;intro x20
 refine br ?_ ?_
 refine ix ?_;intro x22
 refine ix ?_;intro x23
 refine br ?_ ?_
 refine br ?_ ?_
 refine ix ?_;intro x26
 refine ix ?_;intro x27
 refine br ?_ ?_
 intro h;cases sj h
 refine(hK8 _ _).trans ?_
 refine Eq.trans ?_ (Eq.symm (show _=some _ from hr10))
 conv=>lhs;whnf
 exact rq
 exact fun h=>cq (hcont9 (true,IntKind.i64.wrap (s3+1)) (fun _=>0) h)
 exact fun h=>cq (hcont9 (false,IntKind.i64.wrap (s3+1)) (fun _=>0) h)
 intro h;cases sj h
 refine(hK8 _ _).trans ?_
 refine Eq.trans ?_ (Eq.symm (show _=some _ from hr10))
 conv=>lhs;whnf
 exact rq
 intro h;cases sj h
 refine(hK8 _ _).trans ?_
 refine Eq.trans ?_ (Eq.symm (show _=some _ from hr10))
 conv=>lhs;whnf
 exact rq
 intro h;cases sj h
 exact kq (hr10 (fun _=>0))
 refine lrc ?_ ?_
 intro v e;subst e;cases sj h;rfl
 intro t a29 e;subst e
 dsimp only at h
 conv=>lhs;whnf
 revert h
 exact rz
theorem Aao {n:Nat} ⦃Cq:Int⦄ ⦃r:(List UInt8)⦄:Tp n Cq=some r→CN n 105 [iA Cq] []=some (sA r,[]):=by
 intro h;rcases n with _|n;cases h
 rw[Tp] at h
 refine An Tryz.func105 (by rfl) rfl rfl (As rfl) ?_
 intro call hc;conv=>lhs;whnf
 revert h
 intro h
 refine Av h ?_;clear h;intro x1 hx1 h
 refine Am (by first|exact Fh hx1|(have q:=Fh hx1;exact q)) ?_
 simp only[(show nth? ([[sA (([33]:List UInt8))],[sA (([43]:List UInt8))],[sA (([45]:List UInt8))],[sA (([42]:List UInt8))],[sA (([61,61]:List UInt8))],[sA (([33,61]:List UInt8))],[sA (([60]:List UInt8))],[sA (([60,61]:List UInt8))],[sA (([38,38]:List UInt8))],[sA (([124,124]:List UInt8))]]:List (List AV)) (IntKind.i64.wrap (Cq - 5)).toNat=some (D6 x1) from Kp (f:=D6) hx1),ls]
 conv=>lhs;whnf
 revert h
 exact rz
def Sp (n:Nat):Prop:=∀ ⦃Aa:(List A0)⦄ ⦃C3:Int⦄ ⦃r:(List UInt8)⦄,Hi n Aa C3=some r→CN n 104 [AV.sl 5 (List.map A1 Aa),iA C3] []=some (sA r,[])
def Sa (n:Nat):Prop:=∀ ⦃Aa:(List A0)⦄ ⦃C3:Int⦄ ⦃r:(List UInt8)⦄,Ht n Aa C3=some r→CN n 69 [AV.sl 5 (List.map A1 Aa),iA C3] []=some (sA r,[])
def Sh (n:Nat):Prop:=Sp n∧Sa n
theorem A5m (n:Nat) (ih:Sh n):Sp (n+1):=by
 intro Aa C3 r h
 rw[Hi] at h
 refine An Tryz.func104 (by rfl) rfl rfl (As rfl) ?_
 intro call hc;conv=>lhs;whnf
 revert h
 refine ca hc (fun _ h=>ih.2 h) ?_;intro y1
 refine ix ?_;intro x3
 refine ca hc (fun _ h=>Vl h) ?_;intro y4
 refine br ?_ ?_
 intro h
 refine Ad h ?_;clear h;intro hc7 h
 refine Am hc7 ?_
 try simp only[ls]
 conv=>lhs;whnf
 revert h
 intro h
 refine Ad h ?_;clear h;intro hc8 h
 refine Am hc8 ?_
 try simp only[ls]
 conv=>lhs;whnf
 revert h
 exact rz
 exact rz
theorem Aa7 (n:Nat) (ih:Sh n):Sa (n+1):=by
 intro Aa C3 r h
 rw[Ht] at h
 refine An Tryz.func69 (by rfl) rfl rfl (As rfl) ?_
 intro call hc;conv=>lhs;whnf
 revert h
 refine ix ?_;intro x1
 refine br ?_ ?_
 refine ca hc (fun _ h=>U9 h) ?_;intro y3
 exact rz
 refine br ?_ ?_
 exact rz
 refine br ?_ ?_
 exact rz
 refine br ?_ ?_
 intro h
 refine Ad h ?_;clear h;intro hc8 h
 refine Am hc8 ?_
 try simp only[ls]
 conv=>lhs;whnf
 revert h
 intro h
 refine Ad h ?_;clear h;intro hc9 h
 refine Am hc9 ?_
 try simp only[ls]
 conv=>lhs;whnf
 revert h
 exact rz
 refine br ?_ ?_
 refine ca hc (fun _ h=>ih.1 h) ?_;intro y11
 intro h
 refine Ad h ?_;clear h;intro hc13 h
 refine Am hc13 ?_
 try simp only[ls]
 conv=>lhs;whnf
 revert h
 exact rz
 refine ca hc (fun _ h=>ih.1 h) ?_;intro y14
 intro h
 refine Ad h ?_;clear h;intro hc16 h
 refine Am hc16 ?_
 try simp only[ls]
 conv=>lhs;whnf
 revert h
 refine ca hc (fun _ h=>Aao h) ?_;intro y17
 intro h
 refine Ad h ?_;clear h;intro hc19 h
 refine Am hc19 ?_
 try simp only[ls]
 conv=>lhs;whnf
 revert h
 intro h
 refine Ad h ?_;clear h;intro hc20 h
 refine Am hc20 ?_
 try simp only[ls]
 conv=>lhs;whnf
 revert h
 refine ca hc (fun _ h=>Xl h) ?_;intro y21
 refine ca hc (fun _ h=>ih.1 h) ?_;intro y23
 intro h
 refine Ad h ?_;clear h;intro hc25 h
 refine Am hc25 ?_
 try simp only[ls]
 conv=>lhs;whnf
 revert h
 exact rz
theorem W3:∀ n,Sh n
 | 0=>⟨by unfold Sp;intros;rename_i h;exact absurd h (by intro h;cases h),by unfold Sa;intros;rename_i h;exact absurd h (by intro h;cases h)⟩
 | n+1=>have ih:=W3 n
   ⟨A5m n ih,Aa7 n ih⟩
theorem Aac {n:Nat}:Sa n:=(W3 n).2
theorem Gb {n:Nat} ⦃Aa:(List A0)⦄ ⦃r:(List UInt8)⦄:Dc n Aa=some r→CN n 40 [AV.sl 5 (List.map A1 Aa)] []=some (sA r,[]):=by
 intro h;rcases n with _|n;cases h
 rw[Dc] at h
 refine An Tryz.func40 (by rfl) rfl rfl (As rfl) ?_
 intro call hc;conv=>lhs;whnf
 revert h
 refine ca hc (fun _ h=>Ul h) ?_;intro y1
 refine br ?_ ?_
 refine ca hc (fun _ h=>Aac h) ?_;intro y4
 exact rz
 exact rz
theorem A8d {n:Nat} ⦃Aa:(List A2)⦄ ⦃r:Bool⦄:P4 n Aa=some r→CN n 13 [AV.sl 9 (List.map Al Aa)] []=some (bA r,[]):=by
 intro h;rcases n with _|n;cases h
 rw[P4] at h
 refine An Tryz.func13 (by rfl) rfl rfl (As rfl) ?_
 intro call hc;conv=>lhs;whnf
 revert h
 refine br ?_ ?_
 exact rz
 intro h;refine Av h ?_;clear h;intro o10 ho10 h
 refine lq (σ:=Int) (τ:=Unit) (ν:=Bool) 0 (fun s2 a4=>B4 47 [(0,AV.sl 9 (List.map Al Aa)),(3,iA s2)]) (fun s2 a4=>[]) (fun _ a24=>B4 47 []) (fun _ a24=>[]) (fun v=>(bA v,[])) (fun k s=>H5 n Aa k s) (fun s=>rfl) o10 n 0 (fun _=>0) ho10 ?_ ?_
 intro k3 s2 a4 K5 cont6 hK7 hcont8 h hr9
 replace h:H5 n Aa (k3+1) s2=some o10:=h
 rw[H5] at h
 conv=>lhs;whnf
 revert h
 refine br ?_ ?_
 refine ix ?_;intro x12
 refine br ?_ ?_
 intro h;cases sj h
 refine(hK7 _ _).trans ?_
 refine Eq.trans ?_ (Eq.symm (show _=some _ from hr9))
 conv=>lhs;whnf
 exact rq
 refine ix ?_;intro x14
 refine br ?_ ?_
 intro h;cases sj h
 refine(hK7 _ _).trans ?_
 refine Eq.trans ?_ (Eq.symm (show _=some _ from hr9))
 conv=>lhs;whnf
 exact rq
 refine ix ?_;intro x16
 refine ca hc (fun _ h=>Uw h) ?_;intro y17
 refine br ?_ ?_
 refine ix ?_;intro x20
 refine ca hc (fun _ h=>Uw h) ?_;intro y21
 refine br ?_ ?_
 exact fun h=>cq (hcont8 (IntKind.i64.wrap (s2+1)) (fun _=>0) h)
 intro h;cases sj h
 refine(hK7 _ _).trans ?_
 refine Eq.trans ?_ (Eq.symm (show _=some _ from hr9))
 conv=>lhs;whnf
 exact rq
 intro h;cases sj h
 refine(hK7 _ _).trans ?_
 refine Eq.trans ?_ (Eq.symm (show _=some _ from hr9))
 conv=>lhs;whnf
 exact rq
 intro h;cases sj h
 exact kq (hr9 (fun _=>0))
 refine lrc ?_ ?_
 intro v e;subst e;cases sj h;rfl
 intro t a24 e;subst e
 dsimp only at h
 conv=>lhs;whnf
 revert h
 exact rz
theorem Ns {n:Nat} ⦃Aa:(List A0)⦄ ⦃r:Bool⦄:I8 n Aa=some r→CN n 88 [AV.sl 5 (List.map A1 Aa)] []=some (bA r,[]):=by
 intro h;rcases n with _|n;cases h
 rw[I8] at h
 refine An Tryz.func88 (by rfl) rfl rfl (As rfl) ?_
 intro call hc;conv=>lhs;whnf
 revert h
 refine ca hc (fun _ h=>Zn h) ?_;intro y1
 intro h;refine Av h ?_;clear h;intro o11 ho11 h
 refine lq (σ:=Int) (τ:=Unit) (ν:=Bool) 0 (fun s3 a5=>B4 21 [(0,AV.sl 5 (List.map A1 Aa)),(3,AV.sl 5 (List.map A1 y1)),(4,iA s3)]) (fun s3 a5=>[]) (fun _ a15=>B4 21 [(0,AV.sl 5 (List.map A1 Aa))]) (fun _ a15=>[]) (fun v=>(bA v,[])) (fun k s=>Ik n y1 k s) (fun s=>rfl) o11 n 0 (fun _=>0) ho11 ?_ ?_
 intro k4 s3 a5 K6 cont7 hK8 hcont9 h hr10
 replace h:Ik n y1 (k4+1) s3=some o11:=h
 rw[Ik] at h
 conv=>lhs;whnf
 revert h
 refine br ?_ ?_
 refine ix ?_;intro x13
 refine br ?_ ?_
 intro h;cases sj h
 refine(hK8 _ _).trans ?_
 refine Eq.trans ?_ (Eq.symm (show _=some _ from hr10))
 conv=>lhs;whnf
 exact rq
 exact fun h=>cq (hcont9 (IntKind.i64.wrap (s3+1)) (fun _=>0) h)
 intro h;cases sj h
 exact kq (hr10 (fun _=>0))
 refine lrc ?_ ?_
 intro v e;subst e;cases sj h;rfl
 intro t a15 e;subst e
 dsimp only at h
 conv=>lhs;whnf
 revert h
 refine ca hc (fun _ h=>Ul h) ?_;intro y16
 exact rz
theorem Zi {n:Nat} ⦃C6:Int⦄ ⦃r:Bool⦄:Me n C6=some r→CN n 90 [iA C6] []=some (bA r,[]):=by
 intro h;rcases n with _|n;cases h
 rw[Me] at h
 refine An Tryz.func90 (by rfl) rfl rfl (As rfl) ?_
 intro call hc;conv=>lhs;whnf
 revert h
 refine br ?_ ?_
 exact rz
 refine br ?_ ?_
 exact rz
 exact rz
theorem A1u {n:Nat} ⦃Aa:(List A2)⦄ ⦃By:Int⦄ ⦃Bt:Int⦄ ⦃r:(List Int)⦄:Km n Aa By Bt=some r→CN n 89 [AV.sl 9 (List.map Al Aa),iA By,iA Bt] []=some (AV.sl 1 (List.map Cz r),[]):=by
 intro h;rcases n with _|n;cases h
 rw[Km] at h
 refine An Tryz.func89 (by rfl) rfl rfl (As rfl) ?_
 intro call hc;conv=>lhs;whnf
 revert h
 intro h;refine Av h ?_;clear h;intro o10 ho10 h
 refine lq (σ:=(Int×(List Int))) (τ:=(List Int)) (ν:=(List Int)) 0 (fun(s1,s2) a4=>B4 30 [(0,AV.sl 9 (List.map Al Aa)),(1,iA s1),(2,iA Bt),(7,AV.row 0 (List.length s2))]) (fun(s1,s2) a4=>[Ob.row 3 1 (List.map Cz s2)]) (fun x17 a16=>B4 30 [(7,AV.row 0 (List.length x17))]) (fun x17 a16=>[Ob.row 3 1 (List.map Cz x17)]) (fun v=>(AV.sl 1 (List.map Cz v),[])) (fun k s=>Jr n Aa Bt k s.1 s.2) (fun s=>rfl) o10 n (By,([]:List Int)) (fun _=>0) ho10 ?_ ?_
 intro k3 ss a4 K5 cont6 hK7 hcont8 h hr9
 obtain⟨s1,s2⟩:=ss
 replace h:Jr n Aa Bt (k3+1) s1 s2=some o10:=h
 rw[Jr] at h
 conv=>lhs;whnf
 revert h
 refine br ?_ ?_
 refine ar (ap Cz (List.map Cz s2) s2 ([[iA s1]]) ([s1]:List Int)) ?_
 refine ix ?_;intro x14
 refine ix ?_;intro x15
 exact fun h=>cq (hcont8 (IntKind.i64.wrap ((IntKind.i64.wrap ((IntKind.i64.wrap (s1+1))+x14.Aq))+x15.Be),(s2++([s1]:List Int))) (fun _=>0) h)
 intro h;cases sj h
 exact kq (hr9 (fun _=>0))
 refine lrc ?_ ?_
 intro v e;subst e;cases sj h;rfl
 intro x17 a16 e;subst e
 dsimp only at h
 conv=>lhs;whnf
 revert h
 intro h;obtain rfl:=sj h
 try simp only[ls]
 exact fq (y:=some (AV.sl 1 (List.take (List.length x17) (List.map Cz x17)),[]))
def S6 (n:Nat):Prop:=∀ ⦃Aa:(List A2)⦄ ⦃By:Int⦄ ⦃Bt:Int⦄ ⦃r:Int⦄,Ef n Aa By Bt=some r→CN n 63 [AV.sl 9 (List.map Al Aa),iA By,iA Bt] []=some (iA r,[])
def Vo (n:Nat):Prop:=S6 n
theorem A9y (n:Nat) (ih:Vo n):S6 (n+1):=by
 intro Aa By Bt r h
 rw[Ef] at h
 refine An Tryz.func63 (by rfl) rfl rfl (As rfl) ?_
 intro call hc;conv=>lhs;whnf
 revert h
 refine ca hc (fun _ h=>A1u h) ?_;intro y1
 intro h;refine Av h ?_;clear h;intro o12 ho12 h
 refine lq (σ:=(Int×Int)) (τ:=Int) (ν:=Int) 0 (fun(s3,s4) a6=>B4 60 [(0,AV.sl 9 (List.map Al Aa)),(7,iA s3),(8,AV.sl 1 (List.map Cz y1)),(9,iA s4)]) (fun(s3,s4) a6=>[]) (fun x26 a25=>B4 60 [(7,iA x26)]) (fun x26 a25=>[]) (fun v=>(iA v,[])) (fun k s=>Ey n (Ef n) Aa y1 k s.1 s.2) (fun s=>rfl) o12 n (0,0) (fun _=>0) ho12 ?_ ?_
 intro k5 ss a6 K7 cont8 hK9 hcont10 h hr11
 obtain⟨s3,s4⟩:=ss
 replace h:Ey n (Ef n) Aa y1 (k5+1) s3 s4=some o12:=h
 rw[Ey] at h
 conv=>lhs;whnf
 revert h
 refine br ?_ ?_
 refine ix ?_;intro x14
 refine ix ?_;intro x15
 refine ca hc (fun _ h=>Zi h) ?_;intro y16
 refine br ?_ ?_
 refine ix ?_;intro x19
 refine ix ?_;intro x20
 refine ca hc (fun _ h=>ih h) ?_;intro y21
 refine ca hc (fun _ h=>ih h) ?_;intro y23
 exact fun h=>cq (hcont10 (X6 s3 (IntKind.i64.wrap (1+y21)) (IntKind.i64.wrap (1+y23)),IntKind.i64.wrap (s4+1)) (fun _=>0) h)
 exact fun h=>cq (hcont10 (s3,IntKind.i64.wrap (s4+1)) (fun _=>0) h)
 intro h;cases sj h
 exact kq (hr11 (fun _=>0))
 refine lrc ?_ ?_
 intro v e;subst e;cases sj h;rfl
 intro x26 a25 e;subst e
 dsimp only at h
 conv=>lhs;whnf
 revert h
 exact rz
theorem A01:∀ n,Vo n
 | 0=>by unfold Vo S6;intros;rename_i h;exact absurd h (by intro h;cases h)
 | n+1=>have ih:=A01 n
   A9y n ih
theorem Aav {n:Nat}:S6 n:=(A01 n)
theorem Bz {n:Nat} ⦃Aa:(List UInt8)⦄ ⦃Zb:Int⦄ ⦃r:Bool⦄:Bw n Aa Zb=some r→CN n 87 [sA Aa,AV.int .u8 Zb] []=some (bA r,[]):=by
 intro h;rcases n with _|n;cases h
 rw[Bw] at h
 refine An Tryz.func87 (by rfl) rfl rfl (As rfl) ?_
 intro call hc;conv=>lhs;whnf
 revert h
 intro h;refine Av h ?_;clear h;intro o9 ho9 h
 refine lq (σ:=Int) (τ:=Unit) (ν:=Bool) 0 (fun s1 a3=>B4 17 [(0,sA Aa),(1,AV.int .u8 Zb),(5,iA s1)]) (fun s1 a3=>[]) (fun _ a13=>B4 17 []) (fun _ a13=>[]) (fun v=>(bA v,[])) (fun k s=>Jb n Aa Zb k s) (fun s=>rfl) o9 n 0 (fun _=>0) ho9 ?_ ?_
 intro k2 s1 a3 K4 cont5 hK6 hcont7 h hr8
 replace h:Jb n Aa Zb (k2+1) s1=some o9:=h
 rw[Jb] at h
 conv=>lhs;whnf
 revert h
 refine br ?_ ?_
 refine ixs ?_;intro x11
 refine br ?_ ?_
 intro h;cases sj h
 refine(hK6 _ _).trans ?_
 refine Eq.trans ?_ (Eq.symm (show _=some _ from hr8))
 conv=>lhs;whnf
 exact rq
 exact fun h=>cq (hcont7 (IntKind.i64.wrap (s1+1)) (fun _=>0) h)
 intro h;cases sj h
 exact kq (hr8 (fun _=>0))
 refine lrc ?_ ?_
 intro v e;subst e;cases sj h;rfl
 intro t a13 e;subst e
 dsimp only at h
 conv=>lhs;whnf
 revert h
 exact rz
theorem A85 {n:Nat} ⦃C6:Int⦄ ⦃r:((List UInt8)×Bool)⦄:P6 n C6=some r→CN n 86 [iA C6] []=some (AV.tup [sA r.1,bA r.2],[]):=by
 intro h;rcases n with _|n;cases h
 rw[P6] at h
 refine An Tryz.func86 (by rfl) rfl rfl (As rfl) ?_
 intro call hc;conv=>lhs;whnf
 revert h
 refine br ?_ ?_
 exact rz
 refine br ?_ ?_
 exact rz
 refine br ?_ ?_
 exact rz
 refine br ?_ ?_
 exact rz
 refine br ?_ ?_
 exact rz
 refine br ?_ ?_
 exact rz
 refine br ?_ ?_
 exact rz
 refine br ?_ ?_
 exact rz
 refine br ?_ ?_
 exact rz
 refine br ?_ ?_
 exact rz
 refine br ?_ ?_
 exact rz
 refine br ?_ ?_
 exact rz
 refine br ?_ ?_
 exact rz
 exact rz
theorem Acg {n:Nat} ⦃Aj:A2⦄ ⦃r:Bool⦄:Rw n Aj=some r→CN n 62 [AV.agg [iA Aj.Ah,sA Aj.Bj,sA Aj.Bg,AV.sl 5 (List.map A1 Aj.Bh),AV.sl 5 (List.map A1 Aj.Cg),bA Aj.Cx,iA Aj.Aq,iA Aj.Be,iA Aj.B0]] []=some (bA r,[]):=by
 intro h;rcases n with _|n;cases h
 rw[Rw] at h
 refine An Tryz.func62 (by rfl) rfl rfl (As rfl) ?_
 intro call hc;conv=>lhs;whnf
 revert h
 refine ca hc (fun _ h=>A85 h) ?_;intro y1
 refine br ?_ ?_
 refine br ?_ ?_
 exact rz
 refine rj (α:=Bool) (fun j5=>B4 117 [(1,AV.ptr 0 0),(3,sA y1.1),(51,bA j5)]) (fun _=>[Ob.var 38 [iA Aj.Ah,sA Aj.Bj,sA Aj.Bg,AV.sl 5 (List.map A1 Aj.Bh),AV.sl 5 (List.map A1 Aj.Cg),bA Aj.Cx,iA Aj.Aq,iA Aj.Be,iA Aj.B0]]) ?_ ?_
 intro K122 b123 h;conv=>lhs;whnf
 revert h
 refine ca hc (fun _ h=>Bz h) ?_;intro y6
 refine ca hc (fun _ h=>Gc h) ?_;intro y8
 refine br ?_ ?_
 refine ca hc (fun _ h=>Bz h) ?_;intro y11
 refine br ?_ ?_
 refine ca hc (fun _ h=>Bz h) ?_;intro y14
 refine ca hc (fun _ h=>Gc h) ?_;intro y16
 refine br ?_ ?_
 refine ca hc (fun _ h=>Bz h) ?_;intro y19
 refine br ?_ ?_
 exact rz
 exact rz
 exact rz
 refine br ?_ ?_
 refine ca hc (fun _ h=>Bz h) ?_;intro y23
 refine ca hc (fun _ h=>Gc h) ?_;intro y25
 refine br ?_ ?_
 refine ca hc (fun _ h=>Bz h) ?_;intro y28
 refine br ?_ ?_
 exact rz
 exact rz
 exact rz
 exact rz
 exact rz
 intro j5 h;conv=>lhs;whnf
 revert h
 refine br ?_ ?_
 exact rz
 refine rj (α:=Bool) (fun j32=>B4 117 [(1,AV.ptr 0 0),(3,sA y1.1),(91,bA j32)]) (fun _=>[Ob.var 38 [iA Aj.Ah,sA Aj.Bj,sA Aj.Bg,AV.sl 5 (List.map A1 Aj.Bh),AV.sl 5 (List.map A1 Aj.Cg),bA Aj.Cx,iA Aj.Aq,iA Aj.Be,iA Aj.B0]]) ?_ ?_
 intro K120 b121 h;conv=>lhs;whnf
 revert h
 refine ca hc (fun _ h=>Bz h) ?_;intro y33
 refine br ?_ ?_
 refine ca hc (fun _ h=>Ns h) ?_;intro y36
 refine br ?_ ?_
 refine ca hc (fun _ h=>Bz h) ?_;intro y39
 refine br ?_ ?_
 refine ca hc (fun _ h=>Bz h) ?_;intro y42
 refine br ?_ ?_
 refine ca hc (fun _ h=>Ns h) ?_;intro y45
 refine br ?_ ?_
 refine ca hc (fun _ h=>Bz h) ?_;intro y48
 refine br ?_ ?_
 exact rz
 exact rz
 exact rz
 refine ca hc (fun _ h=>Bz h) ?_;intro y51
 refine br ?_ ?_
 exact rz
 exact rz
 refine br ?_ ?_
 exact rz
 refine ca hc (fun _ h=>Bz h) ?_;intro y55
 refine br ?_ ?_
 refine ca hc (fun _ h=>Ns h) ?_;intro y58
 refine br ?_ ?_
 refine ca hc (fun _ h=>Bz h) ?_;intro y61
 refine br ?_ ?_
 exact rz
 exact rz
 exact rz
 refine ca hc (fun _ h=>Bz h) ?_;intro y64
 refine br ?_ ?_
 exact rz
 exact rz
 exact rz
 refine ca hc (fun _ h=>Bz h) ?_;intro y67
 refine br ?_ ?_
 refine ca hc (fun _ h=>Bz h) ?_;intro y70
 refine br ?_ ?_
 refine ca hc (fun _ h=>Ns h) ?_;intro y73
 refine br ?_ ?_
 refine ca hc (fun _ h=>Bz h) ?_;intro y76
 refine br ?_ ?_
 exact rz
 exact rz
 exact rz
 refine ca hc (fun _ h=>Bz h) ?_;intro y79
 refine br ?_ ?_
 exact rz
 exact rz
 refine br ?_ ?_
 exact rz
 refine ca hc (fun _ h=>Bz h) ?_;intro y83
 refine br ?_ ?_
 refine ca hc (fun _ h=>Ns h) ?_;intro y86
 refine br ?_ ?_
 refine ca hc (fun _ h=>Bz h) ?_;intro y89
 refine br ?_ ?_
 exact rz
 exact rz
 exact rz
 refine ca hc (fun _ h=>Bz h) ?_;intro y92
 refine br ?_ ?_
 exact rz
 exact rz
 intro j32 h;conv=>lhs;whnf
 revert h
 refine br ?_ ?_
 exact rz
 refine ca hc (fun _ h=>Bz h) ?_;intro y96
 refine br ?_ ?_
 refine ca hc (fun _ h=>Bz h) ?_;intro y99
 refine br ?_ ?_
 refine ca hc (fun _ h=>Bz h) ?_;intro y102
 refine br ?_ ?_
 exact rz
 exact rz
 refine br ?_ ?_
 refine ca hc (fun _ h=>Bz h) ?_;intro y106
 refine br ?_ ?_
 exact rz
 exact rz
 exact rz
 refine br ?_ ?_
 exact rz
 refine ca hc (fun _ h=>Bz h) ?_;intro y110
 refine br ?_ ?_
 refine ca hc (fun _ h=>Bz h) ?_;intro y113
 refine br ?_ ?_
 exact rz
 exact rz
 refine br ?_ ?_
 refine ca hc (fun _ h=>Bz h) ?_;intro y117
 refine br ?_ ?_
 exact rz
 exact rz
 exact rz
 exact rz
def Re (n:Nat):Prop:=∀ ⦃Aa:(List A2)⦄ ⦃By:Int⦄ ⦃Bt:Int⦄ ⦃r:Bool⦄,Et n Aa By Bt=some r→CN n 61 [AV.sl 9 (List.map Al Aa),iA By,iA Bt] []=some (bA r,[])
def Uq (n:Nat):Prop:=Re n
theorem A8m (n:Nat) (ih:Uq n):Re (n+1):=by
 intro Aa By Bt r h
 rw[Et] at h
 refine An Tryz.func61 (by rfl) rfl rfl (As rfl) ?_
 intro call hc;conv=>lhs;whnf
 revert h
 intro h;refine Av h ?_;clear h;intro o9 ho9 h
 refine lq (σ:=Int) (τ:=Unit) (ν:=Bool) 0 (fun s1 a3=>B4 70 [(0,AV.sl 9 (List.map Al Aa)),(1,iA s1),(2,iA Bt)]) (fun s1 a3=>[]) (fun _ a22=>B4 70 []) (fun _ a22=>[]) (fun v=>(bA v,[])) (fun k s=>Io n (Et n) Aa Bt k s) (fun s=>rfl) o9 n By (fun _=>0) ho9 ?_ ?_
 intro k2 s1 a3 K4 cont5 hK6 hcont7 h hr8
 replace h:Io n (Et n) Aa Bt (k2+1) s1=some o9:=h
 rw[Io] at h
 conv=>lhs;whnf
 revert h
 refine br ?_ ?_
 refine ix ?_;intro x11
 refine br ?_ ?_
 intro h;cases sj h
 refine(hK6 _ _).trans ?_
 refine Eq.trans ?_ (Eq.symm (show _=some _ from hr8))
 conv=>lhs;whnf
 exact rq
 refine br ?_ ?_
 intro h;cases sj h
 refine(hK6 _ _).trans ?_
 refine Eq.trans ?_ (Eq.symm (show _=some _ from hr8))
 conv=>lhs;whnf
 exact rq
 refine br ?_ ?_
 intro h;cases sj h
 refine(hK6 _ _).trans ?_
 refine Eq.trans ?_ (Eq.symm (show _=some _ from hr8))
 conv=>lhs;whnf
 exact rq
 refine br ?_ ?_
 intro h;cases sj h
 refine(hK6 _ _).trans ?_
 refine Eq.trans ?_ (Eq.symm (show _=some _ from hr8))
 conv=>lhs;whnf
 exact rq
 refine ca hc (fun _ h=>ih h) ?_;intro y16
 refine br ?_ ?_
 refine ca hc (fun _ h=>ih h) ?_;intro y19
 refine br ?_ ?_
 exact fun h=>cq (hcont7 (IntKind.i64.wrap ((IntKind.i64.wrap ((IntKind.i64.wrap (s1+1))+x11.Aq))+x11.Be)) (fun _=>0) h)
 intro h;cases sj h
 refine(hK6 _ _).trans ?_
 refine Eq.trans ?_ (Eq.symm (show _=some _ from hr8))
 conv=>lhs;whnf
 exact rq
 intro h;cases sj h
 refine(hK6 _ _).trans ?_
 refine Eq.trans ?_ (Eq.symm (show _=some _ from hr8))
 conv=>lhs;whnf
 exact rq
 intro h;cases sj h
 exact kq (hr8 (fun _=>0))
 refine lrc ?_ ?_
 intro v e;subst e;cases sj h;rfl
 intro t a22 e;subst e
 dsimp only at h
 conv=>lhs;whnf
 revert h
 exact rz
theorem Yi:∀ n,Uq n
 | 0=>by unfold Uq Re;intros;rename_i h;exact absurd h (by intro h;cases h)
 | n+1=>have ih:=Yi n
   A8m n ih
theorem A8u {n:Nat}:Re n:=(Yi n)
theorem Zl {n:Nat} ⦃Aa:(List A2)⦄ ⦃r:Bool⦄:Mb n Aa=some r→CN n 28 [AV.sl 9 (List.map Al Aa)] []=some (bA r,[]):=by
 intro h;rcases n with _|n;cases h
 rw[Mb] at h
 refine An Tryz.func28 (by rfl) rfl rfl (As rfl) ?_
 intro call hc;conv=>lhs;whnf
 revert h
 refine br ?_ ?_
 exact rz
 refine cr hc (fun _ h=>A8u h) ?_;intro y2
 refine br ?_ ?_
 intro h;refine Av h ?_;clear h;intro o13 ho13 h
 refine lq (σ:=Int) (τ:=Unit) (ν:=Bool) 0 (fun s5 a7=>B4 31 [(0,AV.sl 9 (List.map Al Aa)),(3,iA s5)]) (fun s5 a7=>[]) (fun _ a19=>B4 31 [(0,AV.sl 9 (List.map Al Aa))]) (fun _ a19=>[]) (fun v=>(bA v,[])) (fun k s=>Gt n Aa k s) (fun s=>rfl) o13 n 0 (fun _=>0) ho13 ?_ ?_
 intro k6 s5 a7 K8 cont9 hK10 hcont11 h hr12
 replace h:Gt n Aa (k6+1) s5=some o13:=h
 rw[Gt] at h
 conv=>lhs;whnf
 revert h
 refine br ?_ ?_
 refine ix ?_;intro x15
 refine ca hc (fun _ h=>Acg h) ?_;intro y16
 refine br ?_ ?_
 exact fun h=>cq (hcont11 (IntKind.i64.wrap (s5+1)) (fun _=>0) h)
 intro h;cases sj h
 refine(hK10 _ _).trans ?_
 refine Eq.trans ?_ (Eq.symm (show _=some _ from hr12))
 conv=>lhs;whnf
 exact rq
 intro h;cases sj h
 exact kq (hr12 (fun _=>0))
 refine lrc ?_ ?_
 intro v e;subst e;cases sj h;rfl
 intro t a19 e;subst e
 dsimp only at h
 conv=>lhs;whnf
 revert h
 refine cr hc (fun _ h=>Aav h) ?_;intro y20
 exact rz
 exact rz
theorem Aar {n:Nat} ⦃Bn:(List A2)⦄ ⦃Bp:(List A2)⦄ ⦃Ei:Bool⦄ ⦃r:Bool⦄:Qr n Bn Bp Ei=some r→CN n 30 [AV.sl 9 (List.map Al Bn),AV.sl 9 (List.map Al Bp),bA Ei] []=some (bA r,[]):=by
 intro h;rcases n with _|n;cases h
 rw[Qr] at h
 refine An Tryz.func30 (by rfl) rfl rfl (As rfl) ?_
 intro call hc;conv=>lhs;whnf
 revert h
 refine br ?_ ?_
 exact rz
 intro h;refine Av h ?_;clear h;intro o11 ho11 h
 refine lq (σ:=(Bool×Int)) (τ:=Unit) (ν:=Bool) 0 (fun(s2,s3) a5=>B4 97 [(0,AV.sl 9 (List.map Al Bn)),(1,AV.sl 9 (List.map Al Bp)),(2,bA s2),(7,iA s3)]) (fun(s2,s3) a5=>[]) (fun _ a35=>B4 97 []) (fun _ a35=>[]) (fun v=>(bA v,[])) (fun k s=>Ge n Bn Bp k s.1 s.2) (fun s=>rfl) o11 n (Ei,0) (fun _=>0) ho11 ?_ ?_
 intro k4 ss a5 K6 cont7 hK8 hcont9 h hr10
 obtain⟨s2,s3⟩:=ss
 replace h:Ge n Bn Bp (k4+1) s2 s3=some o11:=h
 rw[Ge] at h
 conv=>lhs;whnf
 revert h
 refine br ?_ ?_
 refine ix ?_;intro x13
 refine ix ?_;intro x14
 refine br ?_ ?_
 intro h;cases sj h
 refine(hK8 _ _).trans ?_
 refine Eq.trans ?_ (Eq.symm (show _=some _ from hr10))
 conv=>lhs;whnf
 exact rq
 refine br ?_ ?_
 refine br ?_ ?_
 refine br ?_ ?_
 refine br ?_ ?_
 intro h;cases sj h
 refine(hK8 _ _).trans ?_
 refine Eq.trans ?_ (Eq.symm (show _=some _ from hr10))
 conv=>lhs;whnf
 exact rq
 refine br ?_ ?_
 intro h;cases sj h
 refine(hK8 _ _).trans ?_
 refine Eq.trans ?_ (Eq.symm (show _=some _ from hr10))
 conv=>lhs;whnf
 exact rq
 refine br ?_ ?_
 refine br ?_ ?_
 intro h;cases sj h
 refine(hK8 _ _).trans ?_
 refine Eq.trans ?_ (Eq.symm (show _=some _ from hr10))
 conv=>lhs;whnf
 exact rq
 refine ca hc (fun _ h=>Pc h) ?_;intro y23
 refine br ?_ ?_
 refine ca hc (fun _ h=>Pc h) ?_;intro y26
 refine br ?_ ?_
 exact fun h=>cq (hcont9 (true,IntKind.i64.wrap (s3+1)) (fun _=>0) h)
 intro h;cases sj h
 refine(hK8 _ _).trans ?_
 refine Eq.trans ?_ (Eq.symm (show _=some _ from hr10))
 conv=>lhs;whnf
 exact rq
 intro h;cases sj h
 refine(hK8 _ _).trans ?_
 refine Eq.trans ?_ (Eq.symm (show _=some _ from hr10))
 conv=>lhs;whnf
 exact rq
 refine ca hc (fun _ h=>Pc h) ?_;intro y29
 refine br ?_ ?_
 refine ca hc (fun _ h=>Pc h) ?_;intro y32
 refine br ?_ ?_
 exact fun h=>cq (hcont9 (false,IntKind.i64.wrap (s3+1)) (fun _=>0) h)
 intro h;cases sj h
 refine(hK8 _ _).trans ?_
 refine Eq.trans ?_ (Eq.symm (show _=some _ from hr10))
 conv=>lhs;whnf
 exact rq
 intro h;cases sj h
 refine(hK8 _ _).trans ?_
 refine Eq.trans ?_ (Eq.symm (show _=some _ from hr10))
 conv=>lhs;whnf
 exact rq
 intro h;cases sj h
 refine(hK8 _ _).trans ?_
 refine Eq.trans ?_ (Eq.symm (show _=some _ from hr10))
 conv=>lhs;whnf
 exact rq
 intro h;cases sj h
 refine(hK8 _ _).trans ?_
 refine Eq.trans ?_ (Eq.symm (show _=some _ from hr10))
 conv=>lhs;whnf
 exact rq
 intro h;cases sj h
 refine(hK8 _ _).trans ?_
 refine Eq.trans ?_ (Eq.symm (show _=some _ from hr10))
 conv=>lhs;whnf
 exact rq
 intro h;cases sj h
 exact kq (hr10 (fun _=>0))
 refine lrc ?_ ?_
 intro v e;subst e;cases sj h;rfl
 intro t a35 e;subst e
 dsimp only at h
 conv=>lhs;whnf
 revert h
 exact rz
theorem Q8 {n:Nat} ⦃F6:Int⦄ ⦃r:(List UInt8)⦄:Kf n F6=some r→CN n 101 [iA F6] []=some (sA r,[]):=by
 intro h;rcases n with _|n;cases h
 rw[Kf] at h
 refine An Tryz.func101 (by rfl) rfl rfl (As rfl) ?_
 intro call hc;conv=>lhs;whnf
 revert h
 intro h;refine Av h ?_;clear h;intro o10 ho10 h
 refine lq (σ:=((List UInt8)×Int)) (τ:=(List UInt8)) (ν:=(List UInt8)) 0 (fun(s1,s2) a4=>B4 13 [(0,iA F6),(3,sA s1),(4,iA s2)]) (fun(s1,s2) a4=>[]) (fun x14 a13=>B4 13 [(3,sA x14)]) (fun x14 a13=>[]) (fun v=>(sA v,[])) (fun k s=>J1 n F6 k s.1 s.2) (fun s=>rfl) o10 n (([]:List UInt8),0) (fun _=>0) ho10 ?_ ?_
 intro k3 ss a4 K5 cont6 hK7 hcont8 h hr9
 obtain⟨s1,s2⟩:=ss
 replace h:J1 n F6 (k3+1) s1 s2=some o10:=h
 rw[J1] at h
 conv=>lhs;whnf
 revert h
 refine br ?_ ?_
 intro h
 refine Ad h ?_;clear h;intro hc12 h
 refine Am hc12 ?_
 try simp only[ls]
 conv=>lhs;whnf
 revert h
 exact fun h=>cq (hcont8 ((s1++([32,32]:List UInt8)),IntKind.i64.wrap (s2+1)) (fun _=>0) h)
 intro h;cases sj h
 exact kq (hr9 (fun _=>0))
 refine lrc ?_ ?_
 intro v e;subst e;cases sj h;rfl
 intro x14 a13 e;subst e
 dsimp only at h
 conv=>lhs;whnf
 revert h
 exact rz
theorem Zf {n:Nat} ⦃r:(List (List UInt8))⦄:P5 n=some r→CN n 103 [] []=some (AV.sl 1 (List.map D6 r),[]):=by
 intro h;rcases n with _|n;cases h
 rw[P5] at h
 refine An Tryz.func103 (by rfl) rfl rfl (As rfl) ?_
 intro call hc;conv=>lhs;whnf
 revert h
 exact rz
theorem A6v {n:Nat} ⦃Aj:A2⦄ ⦃r:(List UInt8)⦄:O1 n Aj=some r→CN n 102 [AV.agg [iA Aj.Ah,sA Aj.Bj,sA Aj.Bg,AV.sl 5 (List.map A1 Aj.Bh),AV.sl 5 (List.map A1 Aj.Cg),bA Aj.Cx,iA Aj.Aq,iA Aj.Be,iA Aj.B0]] []=some (sA r,[]):=by
 intro h;rcases n with _|n;cases h
 rw[O1] at h
 refine An Tryz.func102 (by rfl) rfl rfl (As rfl) ?_
 intro call hc;conv=>lhs;whnf
 revert h
 refine ca hc (fun _ h=>Zf h) ?_;intro y1
 refine ix ?_;intro x3
 refine br ?_ ?_
 intro h
 refine Ad h ?_;clear h;intro hc5 h
 refine Am hc5 ?_
 try simp only[ls]
 conv=>lhs;whnf
 revert h
 intro h
 refine Ad h ?_;clear h;intro hc6 h
 refine Am hc6 ?_
 try simp only[ls]
 conv=>lhs;whnf
 revert h
 intro h
 refine Ad h ?_;clear h;intro hc7 h
 refine Am hc7 ?_
 try simp only[ls]
 conv=>lhs;whnf
 revert h
 refine ca hc (fun _ h=>Gb h) ?_;intro y8
 intro h
 refine Ad h ?_;clear h;intro hc10 h
 refine Am hc10 ?_
 try simp only[ls]
 conv=>lhs;whnf
 revert h
 intro h
 refine Ad h ?_;clear h;intro hc11 h
 refine Am hc11 ?_
 try simp only[ls]
 conv=>lhs;whnf
 revert h
 exact rz
 refine br ?_ ?_
 intro h
 refine Ad h ?_;clear h;intro hc13 h
 refine Am hc13 ?_
 try simp only[ls]
 conv=>lhs;whnf
 revert h
 intro h
 refine Ad h ?_;clear h;intro hc14 h
 refine Am hc14 ?_
 try simp only[ls]
 conv=>lhs;whnf
 revert h
 intro h
 refine Ad h ?_;clear h;intro hc15 h
 refine Am hc15 ?_
 try simp only[ls]
 conv=>lhs;whnf
 revert h
 intro h
 refine Ad h ?_;clear h;intro hc16 h
 refine Am hc16 ?_
 try simp only[ls]
 conv=>lhs;whnf
 revert h
 intro h
 refine Ad h ?_;clear h;intro hc17 h
 refine Am hc17 ?_
 try simp only[ls]
 conv=>lhs;whnf
 revert h
 exact rz
 refine br ?_ ?_
 intro h
 refine Ad h ?_;clear h;intro hc19 h
 refine Am hc19 ?_
 try simp only[ls]
 conv=>lhs;whnf
 revert h
 intro h
 refine Ad h ?_;clear h;intro hc20 h
 refine Am hc20 ?_
 try simp only[ls]
 conv=>lhs;whnf
 revert h
 intro h
 refine Ad h ?_;clear h;intro hc21 h
 refine Am hc21 ?_
 try simp only[ls]
 conv=>lhs;whnf
 revert h
 refine ca hc (fun _ h=>Gb h) ?_;intro y22
 intro h
 refine Ad h ?_;clear h;intro hc24 h
 refine Am hc24 ?_
 try simp only[ls]
 conv=>lhs;whnf
 revert h
 intro h
 refine Ad h ?_;clear h;intro hc25 h
 refine Am hc25 ?_
 try simp only[ls]
 conv=>lhs;whnf
 revert h
 exact rz
 refine br ?_ ?_
 intro h
 refine Ad h ?_;clear h;intro hc27 h
 refine Am hc27 ?_
 try simp only[ls]
 conv=>lhs;whnf
 revert h
 intro h
 refine Ad h ?_;clear h;intro hc28 h
 refine Am hc28 ?_
 try simp only[ls]
 conv=>lhs;whnf
 revert h
 intro h
 refine Ad h ?_;clear h;intro hc29 h
 refine Am hc29 ?_
 try simp only[ls]
 conv=>lhs;whnf
 revert h
 intro h
 refine Ad h ?_;clear h;intro hc30 h
 refine Am hc30 ?_
 try simp only[ls]
 conv=>lhs;whnf
 revert h
 intro h
 refine Ad h ?_;clear h;intro hc31 h
 refine Am hc31 ?_
 try simp only[ls]
 conv=>lhs;whnf
 revert h
 refine ca hc (fun _ h=>Gb h) ?_;intro y32
 intro h
 refine Ad h ?_;clear h;intro hc34 h
 refine Am hc34 ?_
 try simp only[ls]
 conv=>lhs;whnf
 revert h
 intro h
 refine Ad h ?_;clear h;intro hc35 h
 refine Am hc35 ?_
 try simp only[ls]
 conv=>lhs;whnf
 revert h
 refine ca hc (fun _ h=>Gb h) ?_;intro y36
 intro h
 refine Ad h ?_;clear h;intro hc38 h
 refine Am hc38 ?_
 try simp only[ls]
 conv=>lhs;whnf
 revert h
 intro h
 refine Ad h ?_;clear h;intro hc39 h
 refine Am hc39 ?_
 try simp only[ls]
 conv=>lhs;whnf
 revert h
 exact rz
 refine br ?_ ?_
 intro h
 refine Ad h ?_;clear h;intro hc41 h
 refine Am hc41 ?_
 try simp only[ls]
 conv=>lhs;whnf
 revert h
 intro h
 refine Ad h ?_;clear h;intro hc42 h
 refine Am hc42 ?_
 try simp only[ls]
 conv=>lhs;whnf
 revert h
 intro h
 refine Ad h ?_;clear h;intro hc43 h
 refine Am hc43 ?_
 try simp only[ls]
 conv=>lhs;whnf
 revert h
 intro h
 refine Ad h ?_;clear h;intro hc44 h
 refine Am hc44 ?_
 try simp only[ls]
 conv=>lhs;whnf
 revert h
 intro h
 refine Ad h ?_;clear h;intro hc45 h
 refine Am hc45 ?_
 try simp only[ls]
 conv=>lhs;whnf
 revert h
 refine ca hc (fun _ h=>Gb h) ?_;intro y46
 intro h
 refine Ad h ?_;clear h;intro hc48 h
 refine Am hc48 ?_
 try simp only[ls]
 conv=>lhs;whnf
 revert h
 intro h
 refine Ad h ?_;clear h;intro hc49 h
 refine Am hc49 ?_
 try simp only[ls]
 conv=>lhs;whnf
 revert h
 exact rz
 refine br ?_ ?_
 intro h
 refine Ad h ?_;clear h;intro hc51 h
 refine Am hc51 ?_
 try simp only[ls]
 conv=>lhs;whnf
 revert h
 intro h
 refine Ad h ?_;clear h;intro hc52 h
 refine Am hc52 ?_
 try simp only[ls]
 conv=>lhs;whnf
 revert h
 intro h
 refine Ad h ?_;clear h;intro hc53 h
 refine Am hc53 ?_
 try simp only[ls]
 conv=>lhs;whnf
 revert h
 intro h
 refine Ad h ?_;clear h;intro hc54 h
 refine Am hc54 ?_
 try simp only[ls]
 conv=>lhs;whnf
 revert h
 intro h
 refine Ad h ?_;clear h;intro hc55 h
 refine Am hc55 ?_
 try simp only[ls]
 conv=>lhs;whnf
 revert h
 refine ca hc (fun _ h=>Gb h) ?_;intro y56
 intro h
 refine Ad h ?_;clear h;intro hc58 h
 refine Am hc58 ?_
 try simp only[ls]
 conv=>lhs;whnf
 revert h
 intro h
 refine Ad h ?_;clear h;intro hc59 h
 refine Am hc59 ?_
 try simp only[ls]
 conv=>lhs;whnf
 revert h
 exact rz
 refine br ?_ ?_
 refine br ?_ ?_
 intro h
 refine Ad h ?_;clear h;intro hc62 h
 refine Am hc62 ?_
 try simp only[ls]
 conv=>lhs;whnf
 revert h
 intro h
 refine Ad h ?_;clear h;intro hc63 h
 refine Am hc63 ?_
 try simp only[ls]
 conv=>lhs;whnf
 revert h
 intro h
 refine Ad h ?_;clear h;intro hc64 h
 refine Am hc64 ?_
 try simp only[ls]
 conv=>lhs;whnf
 revert h
 refine ca hc (fun _ h=>Gb h) ?_;intro y65
 intro h
 refine Ad h ?_;clear h;intro hc67 h
 refine Am hc67 ?_
 try simp only[ls]
 conv=>lhs;whnf
 revert h
 intro h
 refine Ad h ?_;clear h;intro hc68 h
 refine Am hc68 ?_
 try simp only[ls]
 conv=>lhs;whnf
 revert h
 exact rz
 intro h
 refine Ad h ?_;clear h;intro hc69 h
 refine Am hc69 ?_
 try simp only[ls]
 conv=>lhs;whnf
 revert h
 intro h
 refine Ad h ?_;clear h;intro hc70 h
 refine Am hc70 ?_
 try simp only[ls]
 conv=>lhs;whnf
 revert h
 intro h
 refine Ad h ?_;clear h;intro hc71 h
 refine Am hc71 ?_
 try simp only[ls]
 conv=>lhs;whnf
 revert h
 refine ca hc (fun _ h=>Gb h) ?_;intro y72
 intro h
 refine Ad h ?_;clear h;intro hc74 h
 refine Am hc74 ?_
 try simp only[ls]
 conv=>lhs;whnf
 revert h
 intro h
 refine Ad h ?_;clear h;intro hc75 h
 refine Am hc75 ?_
 try simp only[ls]
 conv=>lhs;whnf
 revert h
 exact rz
 intro h
 refine Ad h ?_;clear h;intro hc76 h
 refine Am hc76 ?_
 try simp only[ls]
 conv=>lhs;whnf
 revert h
 exact rz
def S7 (n:Nat):Prop:=∀ ⦃Aa:(List A2)⦄ ⦃By:Int⦄ ⦃Bt:Int⦄ ⦃D9:Int⦄ ⦃r:(List UInt8)⦄,Eu n Aa By Bt D9=some r→CN n 68 [AV.sl 9 (List.map Al Aa),iA By,iA Bt,iA D9] []=some (sA r,[])
def Vt (n:Nat):Prop:=S7 n
theorem Aa5 (n:Nat) (ih:Vt n):S7 (n+1):=by
 intro Aa By Bt D9 r h
 rw[Eu] at h
 refine An Tryz.func68 (by rfl) rfl rfl (As rfl) ?_
 intro call hc;conv=>lhs;whnf
 revert h
 refine ca hc (fun _ h=>A1u h) ?_;intro y1
 intro h;refine Av h ?_;clear h;intro o12 ho12 h
 refine lq (σ:=((List UInt8)×Int)) (τ:=(List UInt8)) (ν:=(List UInt8)) 0 (fun(s3,s4) a6=>B4 105 [(0,AV.sl 9 (List.map Al Aa)),(3,iA D9),(9,sA s3),(10,AV.sl 1 (List.map Cz y1)),(11,iA s4)]) (fun(s3,s4) a6=>[]) (fun x74 a73=>B4 105 [(9,sA x74)]) (fun x74 a73=>[]) (fun v=>(sA v,[])) (fun k s=>Dk n (Eu n) Aa D9 y1 k s.1 s.2) (fun s=>rfl) o12 n (([]:List UInt8),0) (fun _=>0) ho12 ?_ ?_
 intro k5 ss a6 K7 cont8 hK9 hcont10 h hr11
 obtain⟨s3,s4⟩:=ss
 replace h:Dk n (Eu n) Aa D9 y1 (k5+1) s3 s4=some o12:=h
 rw[Dk] at h
 conv=>lhs;whnf
 revert h
 refine br ?_ ?_
 refine ix ?_;intro x14
 refine ix ?_;intro x15
 refine ca hc (fun _ h=>Q8 h) ?_;intro y16
 intro h
 refine Ad h ?_;clear h;intro hc18 h
 refine Am hc18 ?_
 try simp only[ls]
 conv=>lhs;whnf
 revert h
 refine ca hc (fun _ h=>Zi h) ?_;intro y19
 refine br ?_ ?_
 refine ca hc (fun _ h=>Zf h) ?_;intro y22
 refine ix ?_;intro x24
 intro h
 refine Ad h ?_;clear h;intro hc25 h
 refine Am hc25 ?_
 try simp only[ls]
 conv=>lhs;whnf
 revert h
 intro h
 refine Ad h ?_;clear h;intro hc26 h
 refine Am hc26 ?_
 try simp only[ls]
 conv=>lhs;whnf
 revert h
 refine br ?_ ?_
 refine ca hc (fun _ h=>Gb h) ?_;intro y28
 intro h
 refine Ad h ?_;clear h;intro hc30 h
 refine Am hc30 ?_
 try simp only[ls]
 conv=>lhs;whnf
 revert h
 intro h
 refine Ad h ?_;clear h;intro hc31 h
 refine Am hc31 ?_
 try simp only[ls]
 conv=>lhs;whnf
 revert h
 refine ix ?_;intro x32
 intro h
 refine Ad h ?_;clear h;intro hc33 h
 refine Am hc33 ?_
 try simp only[ls]
 conv=>lhs;whnf
 revert h
 refine ix ?_;intro x34
 refine ca hc (fun _ h=>ih h) ?_;intro y35
 intro h
 refine Ad h ?_;clear h;intro hc37 h
 refine Am hc37 ?_
 try simp only[ls]
 conv=>lhs;whnf
 revert h
 refine ca hc (fun _ h=>Q8 h) ?_;intro y38
 intro h
 refine Ad h ?_;clear h;intro hc40 h
 refine Am hc40 ?_
 try simp only[ls]
 conv=>lhs;whnf
 revert h
 refine br ?_ ?_
 intro h
 refine Ad h ?_;clear h;intro hc42 h
 refine Am hc42 ?_
 try simp only[ls]
 conv=>lhs;whnf
 revert h
 refine ca hc (fun _ h=>ih h) ?_;intro y43
 intro h
 refine Ad h ?_;clear h;intro hc45 h
 refine Am hc45 ?_
 try simp only[ls]
 conv=>lhs;whnf
 revert h
 refine ca hc (fun _ h=>Q8 h) ?_;intro y46
 intro h
 refine Ad h ?_;clear h;intro hc48 h
 refine Am hc48 ?_
 try simp only[ls]
 conv=>lhs;whnf
 revert h
 intro h
 refine Ad h ?_;clear h;intro hc49 h
 refine Am hc49 ?_
 try simp only[ls]
 conv=>lhs;whnf
 revert h
 exact fun h=>cq (hcont10 (((((((((((((s3++y16)++x24)++([32]:List UInt8))++y28)++([32]:List UInt8))++([123,10]:List UInt8))++y35)++y38)++([125,32,101,108,115,101,32,123,10]:List UInt8))++y43)++y46)++([125,10]:List UInt8)),IntKind.i64.wrap (s4+1)) (fun _=>0) h)
 intro h
 refine Ad h ?_;clear h;intro hc50 h
 refine Am hc50 ?_
 try simp only[ls]
 conv=>lhs;whnf
 revert h
 exact fun h=>cq (hcont10 ((((((((((s3++y16)++x24)++([32]:List UInt8))++y28)++([32]:List UInt8))++([123,10]:List UInt8))++y35)++y38)++([125,10]:List UInt8)),IntKind.i64.wrap (s4+1)) (fun _=>0) h)
 refine ix ?_;intro x51
 intro h
 refine Ad h ?_;clear h;intro hc52 h
 refine Am hc52 ?_
 try simp only[ls]
 conv=>lhs;whnf
 revert h
 refine ix ?_;intro x53
 refine ca hc (fun _ h=>ih h) ?_;intro y54
 intro h
 refine Ad h ?_;clear h;intro hc56 h
 refine Am hc56 ?_
 try simp only[ls]
 conv=>lhs;whnf
 revert h
 refine ca hc (fun _ h=>Q8 h) ?_;intro y57
 intro h
 refine Ad h ?_;clear h;intro hc59 h
 refine Am hc59 ?_
 try simp only[ls]
 conv=>lhs;whnf
 revert h
 refine br ?_ ?_
 intro h
 refine Ad h ?_;clear h;intro hc61 h
 refine Am hc61 ?_
 try simp only[ls]
 conv=>lhs;whnf
 revert h
 refine ca hc (fun _ h=>ih h) ?_;intro y62
 intro h
 refine Ad h ?_;clear h;intro hc64 h
 refine Am hc64 ?_
 try simp only[ls]
 conv=>lhs;whnf
 revert h
 refine ca hc (fun _ h=>Q8 h) ?_;intro y65
 intro h
 refine Ad h ?_;clear h;intro hc67 h
 refine Am hc67 ?_
 try simp only[ls]
 conv=>lhs;whnf
 revert h
 intro h
 refine Ad h ?_;clear h;intro hc68 h
 refine Am hc68 ?_
 try simp only[ls]
 conv=>lhs;whnf
 revert h
 exact fun h=>cq (hcont10 (((((((((((s3++y16)++x24)++([32]:List UInt8))++([123,10]:List UInt8))++y54)++y57)++([125,32,101,108,115,101,32,123,10]:List UInt8))++y62)++y65)++([125,10]:List UInt8)),IntKind.i64.wrap (s4+1)) (fun _=>0) h)
 intro h
 refine Ad h ?_;clear h;intro hc69 h
 refine Am hc69 ?_
 try simp only[ls]
 conv=>lhs;whnf
 revert h
 exact fun h=>cq (hcont10 ((((((((s3++y16)++x24)++([32]:List UInt8))++([123,10]:List UInt8))++y54)++y57)++([125,10]:List UInt8)),IntKind.i64.wrap (s4+1)) (fun _=>0) h)
 refine ca hc (fun _ h=>A6v h) ?_;intro y70
 intro h
 refine Ad h ?_;clear h;intro hc72 h
 refine Am hc72 ?_
 try simp only[ls]
 conv=>lhs;whnf
 revert h
 exact fun h=>cq (hcont10 (((s3++y16)++y70),IntKind.i64.wrap (s4+1)) (fun _=>0) h)
 intro h;cases sj h
 exact kq (hr11 (fun _=>0))
 refine lrc ?_ ?_
 intro v e;subst e;cases sj h;rfl
 intro x74 a73 e;subst e
 dsimp only at h
 conv=>lhs;whnf
 revert h
 exact rz
theorem A05:∀ n,Vt n
 | 0=>by unfold Vt S7;intros;rename_i h;exact absurd h (by intro h;cases h)
 | n+1=>have ih:=A05 n
   Aa5 n ih
theorem Aaw {n:Nat}:S7 n:=(A05 n)
theorem A1m {n:Nat} ⦃Aa:(List A2)⦄ ⦃Lg:Int⦄ ⦃r:(List UInt8)⦄:Lm n Aa Lg=some r→CN n 38 [AV.sl 9 (List.map Al Aa),iA Lg] []=some (sA r,[]):=by
 intro h;rcases n with _|n;cases h
 rw[Lm] at h
 refine An Tryz.func38 (by rfl) rfl rfl (As rfl) ?_
 intro call hc;conv=>lhs;whnf
 revert h
 refine ca hc (fun _ h=>Zl h) ?_;intro y1
 refine br ?_ ?_
 refine br ?_ ?_
 exact rz
 refine br ?_ ?_
 exact rz
 refine cr hc (fun _ h=>Aaw h) ?_;intro y6
 exact rz
 exact rz
theorem Un {n:Nat} ⦃Aa:(List A0)⦄ ⦃r:(List A0)⦄:Ku n Aa=some r→CN n 32 [AV.sl 5 (List.map A1 Aa)] []=some (AV.sl 5 (List.map A1 r),[]):=by
 intro h;rcases n with _|n;cases h
 rw[Ku] at h
 refine An Tryz.func32 (by rfl) rfl rfl (As rfl) ?_
 intro call hc;conv=>lhs;whnf
 revert h
 intro h;refine Av h ?_;clear h;intro o10 ho10 h
 refine lq (σ:=(Int×(List A0))) (τ:=(List A0)) (ν:=(List A0)) 0 (fun(s1,s2) a4=>B4 22 [(0,AV.sl 5 (List.map A1 Aa)),(3,AV.row 0 (List.length s2)),(4,iA s1)]) (fun(s1,s2) a4=>[Ob.row 42 5 (List.map A1 s2)]) (fun x16 a15=>B4 22 [(3,AV.row 0 (List.length x16))]) (fun x16 a15=>[Ob.row 42 5 (List.map A1 x16)]) (fun v=>(AV.sl 5 (List.map A1 v),[])) (fun k s=>Ir n Aa k s.1 s.2) (fun s=>rfl) o10 n (0,([]:List A0)) (fun _=>0) ho10 ?_ ?_
 intro k3 ss a4 K5 cont6 hK7 hcont8 h hr9
 obtain⟨s1,s2⟩:=ss
 replace h:Ir n Aa (k3+1) s1 s2=some o10:=h
 rw[Ir] at h
 conv=>lhs;whnf
 revert h
 refine br ?_ ?_
 refine ix ?_;intro x12
 refine ar (ap A1 (List.map A1 s2) s2 ([[iA x12.B1,iA x12.Bk,sA x12.Ae,sA x12.C2,iA (0)]]) ([(⟨x12.B1,x12.Bk,x12.Ae,x12.C2,0⟩:A0)]:List A0)) ?_
 exact fun h=>cq (hcont8 (IntKind.i64.wrap (s1+1),(s2++([(⟨x12.B1,x12.Bk,x12.Ae,x12.C2,0⟩:A0)]:List A0))) (fun _=>0) h)
 intro h;cases sj h
 exact kq (hr9 (fun _=>0))
 refine lrc ?_ ?_
 intro v e;subst e;cases sj h;rfl
 intro x16 a15 e;subst e
 dsimp only at h
 conv=>lhs;whnf
 revert h
 intro h;obtain rfl:=sj h
 try simp only[ls]
 exact fq (y:=some (AV.sl 5 (List.take (List.length x16) (List.map A1 x16)),[]))
theorem Aah {n:Nat} ⦃A9:Ar⦄ ⦃r:Ar⦄:Lk n A9=some r→CN n 10 [AV.agg [iA A9.B2,AV.sl 3 (List.map Ak A9.Ao),AV.sl 4 (List.map A8 A9.A7),AV.sl 3 (List.map Af A9.Ac)]] []=some (AV.agg [iA r.B2,AV.sl 3 (List.map Ak r.Ao),AV.sl 4 (List.map A8 r.A7),AV.sl 3 (List.map Af r.Ac)],[]):=by
 intro h;rcases n with _|n;cases h
 rw[Lk] at h
 refine An Tryz.func10 (by rfl) rfl rfl (As rfl) ?_
 intro call hc;conv=>lhs;whnf
 revert h
 intro h;refine Av h ?_;clear h;intro o10 ho10 h
 refine lq (σ:=(Int×(List Az))) (τ:=(List Az)) (ν:=Ar) 0 (fun(s1,s2) a4=>B4 125 [(1,AV.ptr 0 0),(2,AV.ptr 1 0),(3,AV.ptr 2 0),(4,iA s1)]) (fun(s1,s2) a4=>[Ob.var 26 [iA A9.B2,AV.sl 3 (List.map Ak A9.Ao),AV.sl 4 (List.map A8 A9.A7),AV.sl 3 (List.map Af A9.Ac)],Ob.var 26 [iA (0),AV.row 3 (List.length (([]:List Az))),AV.row 4 (List.length (([]:List Ag))),AV.row 5 (List.length (([]:List Ai)))],Ob.var 26 [iA A9.B2,AV.row 6 (List.length s2),AV.row 7 (List.length (([]:List Ag))),AV.row 8 (List.length (([]:List Ai)))],Ob.row 44 3 ([]),Ob.row 35 4 ([]),Ob.row 40 3 ([]),Ob.row 44 3 (List.map Ak s2),Ob.row 35 4 ([]),Ob.row 40 3 ([])]) (fun x16 a15=>B4 125 [(1,AV.ptr 0 0),(2,AV.ptr 1 0),(3,AV.ptr 2 0)]) (fun x16 a15=>[Ob.var 26 [iA A9.B2,AV.sl 3 (List.map Ak A9.Ao),AV.sl 4 (List.map A8 A9.A7),AV.sl 3 (List.map Af A9.Ac)],Ob.var 26 [iA (0),AV.row 3 (List.length (([]:List Az))),AV.row 4 (List.length (([]:List Ag))),AV.row 5 (List.length (([]:List Ai)))],Ob.var 26 [iA A9.B2,AV.row 6 (List.length x16),AV.row 7 (List.length (([]:List Ag))),AV.row 8 (List.length (([]:List Ai)))],Ob.row 44 3 ([]),Ob.row 35 4 ([]),Ob.row 40 3 ([]),Ob.row 44 3 (List.map Ak x16),Ob.row 35 4 ([]),Ob.row 40 3 ([])]) (fun v=>(AV.agg [iA v.B2,AV.sl 3 (List.map Ak v.Ao),AV.sl 4 (List.map A8 v.A7),AV.sl 3 (List.map Af v.Ac)],[])) (fun k s=>Jp n A9 k s.1 s.2) (fun s=>rfl) o10 n (0,([]:List Az)) (fun _=>0) ho10 ?_ ?_
 intro k3 ss a4 K5 cont6 hK7 hcont8 h hr9
 obtain⟨s1,s2⟩:=ss
 replace h:Jp n A9 (k3+1) s1 s2=some o10:=h
 rw[Jp] at h
 conv=>lhs;whnf
 revert h
 refine br ?_ ?_
 refine ix ?_;intro x12
 refine ar (ap Ak (List.map Ak s2) s2 ([[sA x12.Ae,iA x12.Bk,iA (0)]]) ([(⟨x12.Ae,x12.Bk,0⟩:Az)]:List Az)) ?_
 exact fun h=>cq (hcont8 (IntKind.i64.wrap (s1+1),(s2++([(⟨x12.Ae,x12.Bk,0⟩:Az)]:List Az))) (fun _=>0) h)
 intro h;cases sj h
 exact kq (hr9 (fun _=>0))
 refine lrc ?_ ?_
 intro v e;subst e;cases sj h;rfl
 intro x16 a15 e;subst e
 dsimp only at h
 conv=>lhs;whnf
 revert h
 intro h;refine Av h ?_;clear h;intro o26 ho26 h
 refine lq (σ:=(Int×(List Ag))) (τ:=(List Ag)) (ν:=Ar) 2 (fun(s17,s18) a20=>B4 125 [(1,AV.ptr 0 0),(2,AV.ptr 1 0),(3,AV.ptr 2 0),(6,iA s17)]) (fun(s17,s18) a20=>[Ob.var 26 [iA A9.B2,AV.sl 3 (List.map Ak A9.Ao),AV.sl 4 (List.map A8 A9.A7),AV.sl 3 (List.map Af A9.Ac)],Ob.var 26 [iA (0),AV.row 3 (List.length (([]:List Az))),AV.row 4 (List.length (([]:List Ag))),AV.row 5 (List.length (([]:List Ai)))],Ob.var 26 [iA A9.B2,AV.row 6 (List.length x16),AV.row 7 (List.length s18),AV.row 8 (List.length (([]:List Ai)))],Ob.row 44 3 ([]),Ob.row 35 4 ([]),Ob.row 40 3 ([]),Ob.row 44 3 (List.map Ak x16),Ob.row 35 4 (List.map A8 s18),Ob.row 40 3 ([])]) (fun x57 a56=>B4 125 [(1,AV.ptr 0 0),(2,AV.ptr 1 0),(3,AV.ptr 2 0)]) (fun x57 a56=>[Ob.var 26 [iA A9.B2,AV.sl 3 (List.map Ak A9.Ao),AV.sl 4 (List.map A8 A9.A7),AV.sl 3 (List.map Af A9.Ac)],Ob.var 26 [iA (0),AV.row 3 (List.length (([]:List Az))),AV.row 4 (List.length (([]:List Ag))),AV.row 5 (List.length (([]:List Ai)))],Ob.var 26 [iA A9.B2,AV.row 6 (List.length x16),AV.row 7 (List.length x57),AV.row 8 (List.length (([]:List Ai)))],Ob.row 44 3 ([]),Ob.row 35 4 ([]),Ob.row 40 3 ([]),Ob.row 44 3 (List.map Ak x16),Ob.row 35 4 (List.map A8 x57),Ob.row 40 3 ([])]) (fun v=>(AV.agg [iA v.B2,AV.sl 3 (List.map Ak v.Ao),AV.sl 4 (List.map A8 v.A7),AV.sl 3 (List.map Af v.Ac)],[])) (fun k s=>Ji n A9 k s.1 s.2) (fun s=>rfl) o26 n (0,([]:List Ag)) (fun _=>0) ho26 ?_ ?_
 intro k19 ss a20 K21 cont22 hK23 hcont24 h hr25
 obtain⟨s17,s18⟩:=ss
 replace h:Ji n A9 (k19+1) s17 s18=some o26:=h
 rw[Ji] at h
 conv=>lhs;whnf
 revert h
 refine br ?_ ?_
 refine ix ?_;intro x28
 refine ix ?_;intro x29
 refine cn ?_
 intro h;refine Av h ?_;clear h;intro o40 ho40 h
 refine lq (σ:=(Int×(List A2))) (τ:=(List A2)) (ν:=Ar) 4 (fun(s31,s32) a34=>B4 125 [(1,AV.ptr 0 0),(2,AV.ptr 1 0),(3,AV.ptr 2 0),(6,iA s17),(7,AV.ptr 9 0),(8,iA s31)]) (fun(s31,s32) a34=>[Ob.var 26 [iA A9.B2,AV.sl 3 (List.map Ak A9.Ao),AV.sl 4 (List.map A8 A9.A7),AV.sl 3 (List.map Af A9.Ac)],Ob.var 26 [iA (0),AV.row 3 (List.length (([]:List Az))),AV.row 4 (List.length (([]:List Ag))),AV.row 5 (List.length (([]:List Ai)))],Ob.var 26 [iA A9.B2,AV.row 6 (List.length x16),AV.row 7 (List.length s18),AV.row 8 (List.length (([]:List Ai)))],Ob.row 44 3 ([]),Ob.row 35 4 ([]),Ob.row 40 3 ([]),Ob.row 44 3 (List.map Ak x16),Ob.row 35 4 (List.map A8 s18),Ob.row 40 3 ([]),Ob.var 35 [sA x28.Ae,AV.sl 1 (List.map D6 x29.Ay),AV.row 10 (List.length s32),iA (0)],Ob.row 38 9 (List.map Al s32)]) (fun x52 a51=>B4 125 [(1,AV.ptr 0 0),(2,AV.ptr 1 0),(3,AV.ptr 2 0),(6,iA s17),(7,AV.ptr 9 0)]) (fun x52 a51=>[Ob.var 26 [iA A9.B2,AV.sl 3 (List.map Ak A9.Ao),AV.sl 4 (List.map A8 A9.A7),AV.sl 3 (List.map Af A9.Ac)],Ob.var 26 [iA (0),AV.row 3 (List.length (([]:List Az))),AV.row 4 (List.length (([]:List Ag))),AV.row 5 (List.length (([]:List Ai)))],Ob.var 26 [iA A9.B2,AV.row 6 (List.length x16),AV.row 7 (List.length s18),AV.row 8 (List.length (([]:List Ai)))],Ob.row 44 3 ([]),Ob.row 35 4 ([]),Ob.row 40 3 ([]),Ob.row 44 3 (List.map Ak x16),Ob.row 35 4 (List.map A8 s18),Ob.row 40 3 ([]),Ob.var 35 [sA x28.Ae,AV.sl 1 (List.map D6 x29.Ay),AV.row 10 (List.length x52),iA (0)],Ob.row 38 9 (List.map Al x52)]) (fun v=>(AV.agg [iA v.B2,AV.sl 3 (List.map Ak v.Ao),AV.sl 4 (List.map A8 v.A7),AV.sl 3 (List.map Af v.Ac)],[])) (fun k s=>Jm n A9 s17 k s.1 s.2) (fun s=>rfl) o40 n (0,([]:List A2)) (fun _=>0) ho40 ?_ ?_
 intro k33 ss a34 K35 cont36 hK37 hcont38 h hr39
 obtain⟨s31,s32⟩:=ss
 replace h:Jm n A9 s17 (k33+1) s31 s32=some o40:=h
 rw[Jm] at h
 conv=>lhs;whnf
 revert h
 refine ix ?_;intro x41
 refine br ?_ ?_
 refine ix ?_;intro x43
 refine ix ?_;intro x44
 refine ca hc (fun _ h=>Un h) ?_;intro y45
 refine ca hc (fun _ h=>Un h) ?_;intro y47
 refine ar (ap Al (List.map Al s32) s32 ([[iA x44.Ah,sA x44.Bj,sA x44.Bg,AV.sl 5 (List.map A1 y45),AV.sl 5 (List.map A1 y47),bA x44.Cx,iA x44.Aq,iA x44.Be,iA (0)]]) ([(⟨x44.Ah,x44.Bj,x44.Bg,y45,y47,x44.Cx,x44.Aq,x44.Be,0⟩:A2)]:List A2)) ?_
 exact fun h=>cq (hcont38 (IntKind.i64.wrap (s31+1),(s32++([(⟨x44.Ah,x44.Bj,x44.Bg,y45,y47,x44.Cx,x44.Aq,x44.Be,0⟩:A2)]:List A2))) (fun _=>0) h)
 intro h;cases sj h
 exact kq (hr39 (fun _=>0))
 refine lrc ?_ ?_
 intro v e;subst e;cases sj h;exact hr25
 intro x52 a51 e;subst e
 dsimp only at h
 conv=>lhs;whnf
 revert h
 refine ar (ap A8 (List.map A8 s18) s18 ([[sA x28.Ae,AV.sl 1 (List.map D6 x29.Ay),AV.sl 9 (List.map Al x52),iA (0)]]) ([(⟨x28.Ae,x29.Ay,x52,0⟩:Ag)]:List Ag)) ?_
 exact fun h=>cq (hcont24 (IntKind.i64.wrap (s17+1),(s18++([(⟨x28.Ae,x29.Ay,x52,0⟩:Ag)]:List Ag))) (fun _=>0) h)
 intro h;cases sj h
 exact kq (hr25 (fun _=>0))
 refine lrc ?_ ?_
 intro v e;subst e;cases sj h;rfl
 intro x57 a56 e;subst e
 dsimp only at h
 conv=>lhs;whnf
 revert h
 intro h;refine Av h ?_;clear h;intro o67 ho67 h
 refine lq (σ:=(Int×(List Ai))) (τ:=(List Ai)) (ν:=Ar) 6 (fun(s58,s59) a61=>B4 125 [(1,AV.ptr 0 0),(2,AV.ptr 1 0),(3,AV.ptr 2 0),(10,iA s58)]) (fun(s58,s59) a61=>[Ob.var 26 [iA A9.B2,AV.sl 3 (List.map Ak A9.Ao),AV.sl 4 (List.map A8 A9.A7),AV.sl 3 (List.map Af A9.Ac)],Ob.var 26 [iA (0),AV.row 3 (List.length (([]:List Az))),AV.row 4 (List.length (([]:List Ag))),AV.row 5 (List.length (([]:List Ai)))],Ob.var 26 [iA A9.B2,AV.row 6 (List.length x16),AV.row 7 (List.length x57),AV.row 8 (List.length s59)],Ob.row 44 3 ([]),Ob.row 35 4 ([]),Ob.row 40 3 ([]),Ob.row 44 3 (List.map Ak x16),Ob.row 35 4 (List.map A8 x57),Ob.row 40 3 (List.map Af s59)]) (fun x76 a75=>B4 125 [(2,AV.ptr 1 0),(3,AV.ptr 2 0)]) (fun x76 a75=>[Ob.var 26 [iA A9.B2,AV.sl 3 (List.map Ak A9.Ao),AV.sl 4 (List.map A8 A9.A7),AV.sl 3 (List.map Af A9.Ac)],Ob.var 26 [iA (0),AV.row 3 (List.length (([]:List Az))),AV.row 4 (List.length (([]:List Ag))),AV.row 5 (List.length (([]:List Ai)))],Ob.var 26 [iA A9.B2,AV.row 6 (List.length x16),AV.row 7 (List.length x57),AV.row 8 (List.length x76)],Ob.row 44 3 ([]),Ob.row 35 4 ([]),Ob.row 40 3 ([]),Ob.row 44 3 (List.map Ak x16),Ob.row 35 4 (List.map A8 x57),Ob.row 40 3 (List.map Af x76)]) (fun v=>(AV.agg [iA v.B2,AV.sl 3 (List.map Ak v.Ao),AV.sl 4 (List.map A8 v.A7),AV.sl 3 (List.map Af v.Ac)],[])) (fun k s=>Jk n A9 k s.1 s.2) (fun s=>rfl) o67 n (0,([]:List Ai)) (fun _=>0) ho67 ?_ ?_
 intro k60 ss a61 K62 cont63 hK64 hcont65 h hr66
 obtain⟨s58,s59⟩:=ss
 replace h:Jk n A9 (k60+1) s58 s59=some o67:=h
 rw[Jk] at h
 conv=>lhs;whnf
 revert h
 refine br ?_ ?_
 refine ix ?_;intro x69
 refine ix ?_;intro x70
 refine ca hc (fun _ h=>Un h) ?_;intro y71
 refine ar (ap Af (List.map Af s59) s59 ([[iA x69.Ah,AV.sl 5 (List.map A1 y71),iA (0)]]) ([(⟨x69.Ah,y71,0⟩:Ai)]:List Ai)) ?_
 exact fun h=>cq (hcont65 (IntKind.i64.wrap (s58+1),(s59++([(⟨x69.Ah,y71,0⟩:Ai)]:List Ai))) (fun _=>0) h)
 intro h;cases sj h
 exact kq (hr66 (fun _=>0))
 refine lrc ?_ ?_
 intro v e;subst e;cases sj h;rfl
 intro x76 a75 e;subst e
 dsimp only at h
 conv=>lhs;whnf
 revert h
 intro h;cases sj h
 try simp only[ls]
 exact fq (y:=some (AV.agg [iA A9.B2,AV.sl 3 (List.take (List.length x16) (List.map Ak x16)),AV.sl 4 (List.take (List.length x57) (List.map A8 x57)),AV.sl 3 (List.take (List.length x76) (List.map Af x76))],[]))
theorem A84 {n:Nat} ⦃A9:Ar⦄ ⦃r:Bool⦄:Mf n A9=some r→CN n 4 [AV.agg [iA A9.B2,AV.sl 3 (List.map Ak A9.Ao),AV.sl 4 (List.map A8 A9.A7),AV.sl 3 (List.map Af A9.Ac)]] []=some (bA r,[]):=by
 intro h;rcases n with _|n;cases h
 rw[Mf] at h
 refine An Tryz.func4 (by rfl) rfl rfl (As rfl) ?_
 intro call hc;conv=>lhs;whnf
 revert h
 refine br ?_ ?_
 exact rz
 refine br ?_ ?_
 exact rz
 refine br ?_ ?_
 exact rz
 intro h;refine Av h ?_;clear h;intro o12 ho12 h
 refine lq (σ:=Int) (τ:=Unit) (ν:=Bool) 0 (fun s4 a6=>B4 96 [(1,AV.ptr 0 0),(3,iA s4)]) (fun s4 a6=>[Ob.var 26 [iA A9.B2,AV.sl 3 (List.map Ak A9.Ao),AV.sl 4 (List.map A8 A9.A7),AV.sl 3 (List.map Af A9.Ac)]]) (fun _ a16=>B4 96 [(1,AV.ptr 0 0)]) (fun _ a16=>[Ob.var 26 [iA A9.B2,AV.sl 3 (List.map Ak A9.Ao),AV.sl 4 (List.map A8 A9.A7),AV.sl 3 (List.map Af A9.Ac)]]) (fun v=>(bA v,[])) (fun k s=>Gk n A9 k s) (fun s=>rfl) o12 n 0 (fun _=>0) ho12 ?_ ?_
 intro k5 s4 a6 K7 cont8 hK9 hcont10 h hr11
 replace h:Gk n A9 (k5+1) s4=some o12:=h
 rw[Gk] at h
 conv=>lhs;whnf
 revert h
 refine br ?_ ?_
 refine ix ?_;intro x14
 refine br ?_ ?_
 intro h;cases sj h
 refine(hK9 _ _).trans ?_
 refine Eq.trans ?_ (Eq.symm (show _=some _ from hr11))
 conv=>lhs;whnf
 exact rq
 exact fun h=>cq (hcont10 (IntKind.i64.wrap (s4+1)) (fun _=>0) h)
 intro h;cases sj h
 exact kq (hr11 (fun _=>0))
 refine lrc ?_ ?_
 intro v e;subst e;cases sj h;rfl
 intro t a16 e;subst e
 dsimp only at h
 conv=>lhs;whnf
 revert h
 intro h;refine Av h ?_;clear h;intro o25 ho25 h
 refine lq (σ:=Int) (τ:=Unit) (ν:=Bool) 2 (fun s17 a19=>B4 96 [(1,AV.ptr 0 0),(4,iA s17)]) (fun s17 a19=>[Ob.var 26 [iA A9.B2,AV.sl 3 (List.map Ak A9.Ao),AV.sl 4 (List.map A8 A9.A7),AV.sl 3 (List.map Af A9.Ac)]]) (fun _ a47=>B4 96 [(1,AV.ptr 0 0)]) (fun _ a47=>[Ob.var 26 [iA A9.B2,AV.sl 3 (List.map Ak A9.Ao),AV.sl 4 (List.map A8 A9.A7),AV.sl 3 (List.map Af A9.Ac)]]) (fun v=>(bA v,[])) (fun k s=>Gr n A9 k s) (fun s=>rfl) o25 n 0 (fun _=>0) ho25 ?_ ?_
 intro k18 s17 a19 K20 cont21 hK22 hcont23 h hr24
 replace h:Gr n A9 (k18+1) s17=some o25:=h
 rw[Gr] at h
 conv=>lhs;whnf
 revert h
 refine br ?_ ?_
 refine ix ?_;intro x27
 refine br ?_ ?_
 intro h;cases sj h
 refine(hK22 _ _).trans ?_
 refine Eq.trans ?_ (Eq.symm (show _=some _ from hr24))
 conv=>lhs;whnf
 exact rq
 refine br ?_ ?_
 intro h;cases sj h
 refine(hK22 _ _).trans ?_
 refine Eq.trans ?_ (Eq.symm (show _=some _ from hr24))
 conv=>lhs;whnf
 exact rq
 refine ca hc (fun _ h=>A8d h) ?_;intro y30
 refine br ?_ ?_
 intro h;refine Av h ?_;clear h;intro o41 ho41 h
 refine lq (σ:=Int) (τ:=Unit) (ν:=Bool) 4 (fun s33 a35=>B4 96 [(1,AV.ptr 0 0),(4,iA s17),(5,AV.ptr 1 0),(6,iA s33)]) (fun s33 a35=>[Ob.var 26 [iA A9.B2,AV.sl 3 (List.map Ak A9.Ao),AV.sl 4 (List.map A8 A9.A7),AV.sl 3 (List.map Af A9.Ac)],Ob.var 35 [sA x27.Ae,AV.sl 1 (List.map D6 x27.Ay),AV.sl 9 (List.map Al x27.Aq),iA x27.B0]]) (fun _ a45=>B4 96 [(1,AV.ptr 0 0),(4,iA s17)]) (fun _ a45=>[Ob.var 26 [iA A9.B2,AV.sl 3 (List.map Ak A9.Ao),AV.sl 4 (List.map A8 A9.A7),AV.sl 3 (List.map Af A9.Ac)],Ob.var 35 [sA x27.Ae,AV.sl 1 (List.map D6 x27.Ay),AV.sl 9 (List.map Al x27.Aq),iA x27.B0]]) (fun v=>(bA v,[])) (fun k s=>H3 n x27 k s) (fun s=>rfl) o41 n 0 (fun _=>0) ho41 ?_ ?_
 intro k34 s33 a35 K36 cont37 hK38 hcont39 h hr40
 replace h:H3 n x27 (k34+1) s33=some o41:=h
 rw[H3] at h
 conv=>lhs;whnf
 revert h
 refine br ?_ ?_
 refine ix ?_;intro x43
 refine br ?_ ?_
 intro h;cases sj h
 refine(hK38 _ _).trans ?_
 conv=>lhs;whnf
 refine(hK22 _ _).trans ?_
 refine Eq.trans ?_ (Eq.symm (show _=some _ from hr40))
 conv=>lhs;whnf
 exact rq
 exact fun h=>cq (hcont39 (IntKind.i64.wrap (s33+1)) (fun _=>0) h)
 intro h;cases sj h
 exact kq (hr40 (fun _=>0))
 refine lrc ?_ ?_
 intro v e;subst e;cases sj h;exact hr24
 intro t a45 e;subst e
 dsimp only at h
 conv=>lhs;whnf
 revert h
 exact fun h=>cq (hcont23 (IntKind.i64.wrap (s17+1)) (fun _=>0) h)
 intro h;cases sj h
 refine(hK22 _ _).trans ?_
 refine Eq.trans ?_ (Eq.symm (show _=some _ from hr24))
 conv=>lhs;whnf
 exact rq
 intro h;cases sj h
 exact kq (hr24 (fun _=>0))
 refine lrc ?_ ?_
 intro v e;subst e;cases sj h;rfl
 intro t a47 e;subst e
 dsimp only at h
 conv=>lhs;whnf
 revert h
 intro h;refine Av h ?_;clear h;intro o56 ho56 h
 refine lq (σ:=Int) (τ:=Unit) (ν:=Bool) 6 (fun s48 a50=>B4 96 [(1,AV.ptr 0 0),(7,iA s48)]) (fun s48 a50=>[Ob.var 26 [iA A9.B2,AV.sl 3 (List.map Ak A9.Ao),AV.sl 4 (List.map A8 A9.A7),AV.sl 3 (List.map Af A9.Ac)]]) (fun _ a62=>B4 96 []) (fun _ a62=>[Ob.var 26 [iA A9.B2,AV.sl 3 (List.map Ak A9.Ao),AV.sl 4 (List.map A8 A9.A7),AV.sl 3 (List.map Af A9.Ac)]]) (fun v=>(bA v,[])) (fun k s=>Gq n A9 k s) (fun s=>rfl) o56 n 0 (fun _=>0) ho56 ?_ ?_
 intro k49 s48 a50 K51 cont52 hK53 hcont54 h hr55
 replace h:Gq n A9 (k49+1) s48=some o56:=h
 rw[Gq] at h
 conv=>lhs;whnf
 revert h
 refine br ?_ ?_
 refine ix ?_;intro x58
 refine ca hc (fun _ h=>Uw h) ?_;intro y59
 refine br ?_ ?_
 exact fun h=>cq (hcont54 (IntKind.i64.wrap (s48+1)) (fun _=>0) h)
 intro h;cases sj h
 refine(hK53 _ _).trans ?_
 refine Eq.trans ?_ (Eq.symm (show _=some _ from hr55))
 conv=>lhs;whnf
 exact rq
 intro h;cases sj h
 exact kq (hr55 (fun _=>0))
 refine lrc ?_ ?_
 intro v e;subst e;cases sj h;rfl
 intro t a62 e;subst e
 dsimp only at h
 conv=>lhs;whnf
 revert h
 exact rz
theorem A4o {n:Nat} ⦃Aa:(List A0)⦄ ⦃r:Bool⦄:Mv n Aa=some r→CN n 29 [AV.sl 5 (List.map A1 Aa)] []=some (bA r,[]):=by
 intro h;rcases n with _|n;cases h
 rw[Mv] at h
 refine An Tryz.func29 (by rfl) rfl rfl (As rfl) ?_
 intro call hc;conv=>lhs;whnf
 revert h
 refine ca hc (fun _ h=>Zn h) ?_;intro y1
 intro h;refine Av h ?_;clear h;intro o11 ho11 h
 refine lq (σ:=Int) (τ:=Unit) (ν:=Bool) 0 (fun s3 a5=>B4 21 [(0,AV.sl 5 (List.map A1 Aa)),(3,AV.sl 5 (List.map A1 y1)),(4,iA s3)]) (fun s3 a5=>[]) (fun _ a15=>B4 21 [(0,AV.sl 5 (List.map A1 Aa))]) (fun _ a15=>[]) (fun v=>(bA v,[])) (fun k s=>Fr n y1 k s) (fun s=>rfl) o11 n 0 (fun _=>0) ho11 ?_ ?_
 intro k4 s3 a5 K6 cont7 hK8 hcont9 h hr10
 replace h:Fr n y1 (k4+1) s3=some o11:=h
 rw[Fr] at h
 conv=>lhs;whnf
 revert h
 refine br ?_ ?_
 refine ix ?_;intro x13
 refine br ?_ ?_
 intro h;cases sj h
 refine(hK8 _ _).trans ?_
 refine Eq.trans ?_ (Eq.symm (show _=some _ from hr10))
 conv=>lhs;whnf
 exact rq
 exact fun h=>cq (hcont9 (IntKind.i64.wrap (s3+1)) (fun _=>0) h)
 intro h;cases sj h
 exact kq (hr10 (fun _=>0))
 refine lrc ?_ ?_
 intro v e;subst e;cases sj h;rfl
 intro t a15 e;subst e
 dsimp only at h
 conv=>lhs;whnf
 revert h
 refine ca hc (fun _ h=>Ul h) ?_;intro y16
 exact rz
theorem A4a {n:Nat} ⦃Bv:Int⦄ ⦃r:Bool⦄:R8 n Bv=some r→CN n 26 [iA Bv] []=some (bA r,[]):=by
 intro h;rcases n with _|n;cases h
 rw[R8] at h
 refine An Tryz.func26 (by rfl) rfl rfl (As rfl) ?_
 intro call hc;conv=>lhs;whnf
 revert h
 refine br ?_ ?_
 exact rz
 exact rz
theorem Ze {n:Nat} ⦃A9:Ar⦄ ⦃r:Bool⦄:Jg n A9=some r→CN n 8 [AV.agg [iA A9.B2,AV.sl 3 (List.map Ak A9.Ao),AV.sl 4 (List.map A8 A9.A7),AV.sl 3 (List.map Af A9.Ac)]] []=some (bA r,[]):=by
 intro h;rcases n with _|n;cases h
 rw[Jg] at h
 refine An Tryz.func8 (by rfl) rfl rfl (As rfl) ?_
 intro call hc;conv=>lhs;whnf
 revert h
 refine ca hc (fun _ h=>A4a h) ?_;intro y1
 refine br ?_ ?_
 intro h;refine Av h ?_;clear h;intro o12 ho12 h
 refine lq (σ:=Int) (τ:=Unit) (ν:=Bool) 0 (fun s4 a6=>B4 119 [(1,AV.ptr 0 0),(3,iA s4)]) (fun s4 a6=>[Ob.var 26 [iA A9.B2,AV.sl 3 (List.map Ak A9.Ao),AV.sl 4 (List.map A8 A9.A7),AV.sl 3 (List.map Af A9.Ac)]]) (fun _ a24=>B4 119 [(1,AV.ptr 0 0)]) (fun _ a24=>[Ob.var 26 [iA A9.B2,AV.sl 3 (List.map Ak A9.Ao),AV.sl 4 (List.map A8 A9.A7),AV.sl 3 (List.map Af A9.Ac)]]) (fun v=>(bA v,[])) (fun k s=>Gv n A9 k s) (fun s=>rfl) o12 n 0 (fun _=>0) ho12 ?_ ?_
 intro k5 s4 a6 K7 cont8 hK9 hcont10 h hr11
 replace h:Gv n A9 (k5+1) s4=some o12:=h
 rw[Gv] at h
 conv=>lhs;whnf
 revert h
 refine br ?_ ?_
 refine ix ?_;intro x14
 refine ca hc (fun _ h=>Gc h) ?_;intro y15
 refine br ?_ ?_
 refine ix ?_;intro x18
 refine ca hc (fun _ h=>A4a h) ?_;intro y19
 refine br ?_ ?_
 refine ix ?_;intro x22
 refine br ?_ ?_
 intro h;cases sj h
 refine(hK9 _ _).trans ?_
 refine Eq.trans ?_ (Eq.symm (show _=some _ from hr11))
 conv=>lhs;whnf
 exact rq
 exact fun h=>cq (hcont10 (IntKind.i64.wrap (s4+1)) (fun _=>0) h)
 intro h;cases sj h
 refine(hK9 _ _).trans ?_
 refine Eq.trans ?_ (Eq.symm (show _=some _ from hr11))
 conv=>lhs;whnf
 exact rq
 intro h;cases sj h
 refine(hK9 _ _).trans ?_
 refine Eq.trans ?_ (Eq.symm (show _=some _ from hr11))
 conv=>lhs;whnf
 exact rq
 intro h;cases sj h
 exact kq (hr11 (fun _=>0))
 refine lrc ?_ ?_
 intro v e;subst e;cases sj h;rfl
 intro t a24 e;subst e
 dsimp only at h
 conv=>lhs;whnf
 revert h
 intro h;refine Av h ?_;clear h;intro o33 ho33 h
 refine lq (σ:=Int) (τ:=Unit) (ν:=Bool) 2 (fun s25 a27=>B4 119 [(1,AV.ptr 0 0),(4,iA s25)]) (fun s25 a27=>[Ob.var 26 [iA A9.B2,AV.sl 3 (List.map Ak A9.Ao),AV.sl 4 (List.map A8 A9.A7),AV.sl 3 (List.map Af A9.Ac)]]) (fun _ a59=>B4 119 [(1,AV.ptr 0 0)]) (fun _ a59=>[Ob.var 26 [iA A9.B2,AV.sl 3 (List.map Ak A9.Ao),AV.sl 4 (List.map A8 A9.A7),AV.sl 3 (List.map Af A9.Ac)]]) (fun v=>(bA v,[])) (fun k s=>Gg n A9 k s) (fun s=>rfl) o33 n 0 (fun _=>0) ho33 ?_ ?_
 intro k26 s25 a27 K28 cont29 hK30 hcont31 h hr32
 replace h:Gg n A9 (k26+1) s25=some o33:=h
 rw[Gg] at h
 conv=>lhs;whnf
 revert h
 refine br ?_ ?_
 refine ix ?_;intro x35
 refine ca hc (fun _ h=>Gc h) ?_;intro y36
 refine br ?_ ?_
 refine ca hc (fun _ h=>Zl h) ?_;intro y39
 refine br ?_ ?_
 refine br ?_ ?_
 intro h;cases sj h
 refine(hK30 _ _).trans ?_
 refine Eq.trans ?_ (Eq.symm (show _=some _ from hr32))
 conv=>lhs;whnf
 exact rq
 intro h;refine Av h ?_;clear h;intro o51 ho51 h
 refine lq (σ:=Int) (τ:=Unit) (ν:=Bool) 4 (fun s43 a45=>B4 119 [(1,AV.ptr 0 0),(4,iA s25),(5,AV.ptr 1 0),(6,iA s43)]) (fun s43 a45=>[Ob.var 26 [iA A9.B2,AV.sl 3 (List.map Ak A9.Ao),AV.sl 4 (List.map A8 A9.A7),AV.sl 3 (List.map Af A9.Ac)],Ob.var 35 [sA x35.Ae,AV.sl 1 (List.map D6 x35.Ay),AV.sl 9 (List.map Al x35.Aq),iA x35.B0]]) (fun _ a57=>B4 119 [(1,AV.ptr 0 0),(4,iA s25)]) (fun _ a57=>[Ob.var 26 [iA A9.B2,AV.sl 3 (List.map Ak A9.Ao),AV.sl 4 (List.map A8 A9.A7),AV.sl 3 (List.map Af A9.Ac)],Ob.var 35 [sA x35.Ae,AV.sl 1 (List.map D6 x35.Ay),AV.sl 9 (List.map Al x35.Aq),iA x35.B0]]) (fun v=>(bA v,[])) (fun k s=>Gu n x35 k s) (fun s=>rfl) o51 n 0 (fun _=>0) ho51 ?_ ?_
 intro k44 s43 a45 K46 cont47 hK48 hcont49 h hr50
 replace h:Gu n x35 (k44+1) s43=some o51:=h
 rw[Gu] at h
 conv=>lhs;whnf
 revert h
 refine br ?_ ?_
 refine ix ?_;intro x53
 refine ca hc (fun _ h=>Gc h) ?_;intro y54
 refine br ?_ ?_
 exact fun h=>cq (hcont49 (IntKind.i64.wrap (s43+1)) (fun _=>0) h)
 intro h;cases sj h
 refine(hK48 _ _).trans ?_
 conv=>lhs;whnf
 refine(hK30 _ _).trans ?_
 refine Eq.trans ?_ (Eq.symm (show _=some _ from hr50))
 conv=>lhs;whnf
 exact rq
 intro h;cases sj h
 exact kq (hr50 (fun _=>0))
 refine lrc ?_ ?_
 intro v e;subst e;cases sj h;exact hr32
 intro t a57 e;subst e
 dsimp only at h
 conv=>lhs;whnf
 revert h
 exact fun h=>cq (hcont31 (IntKind.i64.wrap (s25+1)) (fun _=>0) h)
 intro h;cases sj h
 refine(hK30 _ _).trans ?_
 refine Eq.trans ?_ (Eq.symm (show _=some _ from hr32))
 conv=>lhs;whnf
 exact rq
 intro h;cases sj h
 refine(hK30 _ _).trans ?_
 refine Eq.trans ?_ (Eq.symm (show _=some _ from hr32))
 conv=>lhs;whnf
 exact rq
 intro h;cases sj h
 exact kq (hr32 (fun _=>0))
 refine lrc ?_ ?_
 intro v e;subst e;cases sj h;rfl
 intro t a59 e;subst e
 dsimp only at h
 conv=>lhs;whnf
 revert h
 intro h;refine Av h ?_;clear h;intro o68 ho68 h
 refine lq (σ:=Int) (τ:=Unit) (ν:=Bool) 6 (fun s60 a62=>B4 119 [(1,AV.ptr 0 0),(7,iA s60)]) (fun s60 a62=>[Ob.var 26 [iA A9.B2,AV.sl 3 (List.map Ak A9.Ao),AV.sl 4 (List.map A8 A9.A7),AV.sl 3 (List.map Af A9.Ac)]]) (fun _ a77=>B4 119 []) (fun _ a77=>[Ob.var 26 [iA A9.B2,AV.sl 3 (List.map Ak A9.Ao),AV.sl 4 (List.map A8 A9.A7),AV.sl 3 (List.map Af A9.Ac)]]) (fun v=>(bA v,[])) (fun k s=>H4 n A9 k s) (fun s=>rfl) o68 n 0 (fun _=>0) ho68 ?_ ?_
 intro k61 s60 a62 K63 cont64 hK65 hcont66 h hr67
 replace h:H4 n A9 (k61+1) s60=some o68:=h
 rw[H4] at h
 conv=>lhs;whnf
 revert h
 refine br ?_ ?_
 refine ix ?_;intro x70
 refine br ?_ ?_
 intro h;cases sj h
 refine(hK65 _ _).trans ?_
 refine Eq.trans ?_ (Eq.symm (show _=some _ from hr67))
 conv=>lhs;whnf
 exact rq
 refine br ?_ ?_
 intro h;cases sj h
 refine(hK65 _ _).trans ?_
 refine Eq.trans ?_ (Eq.symm (show _=some _ from hr67))
 conv=>lhs;whnf
 exact rq
 refine ca hc (fun _ h=>A4o h) ?_;intro y73
 refine br ?_ ?_
 refine br ?_ ?_
 intro h;cases sj h
 refine(hK65 _ _).trans ?_
 refine Eq.trans ?_ (Eq.symm (show _=some _ from hr67))
 conv=>lhs;whnf
 exact rq
 exact fun h=>cq (hcont66 (IntKind.i64.wrap (s60+1)) (fun _=>0) h)
 intro h;cases sj h
 refine(hK65 _ _).trans ?_
 refine Eq.trans ?_ (Eq.symm (show _=some _ from hr67))
 conv=>lhs;whnf
 exact rq
 intro h;cases sj h
 exact kq (hr67 (fun _=>0))
 refine lrc ?_ ?_
 intro v e;subst e;cases sj h;rfl
 intro t a77 e;subst e
 dsimp only at h
 conv=>lhs;whnf
 revert h
 exact rz
 exact rz
theorem Aan {n:Nat} ⦃Bn:Ar⦄ ⦃Bp:Ar⦄ ⦃Ei:Bool⦄ ⦃r:Bool⦄:Lw n Bn Bp Ei=some r→CN n 9 [AV.agg [iA Bn.B2,AV.sl 3 (List.map Ak Bn.Ao),AV.sl 4 (List.map A8 Bn.A7),AV.sl 3 (List.map Af Bn.Ac)],AV.agg [iA Bp.B2,AV.sl 3 (List.map Ak Bp.Ao),AV.sl 4 (List.map A8 Bp.A7),AV.sl 3 (List.map Af Bp.Ac)],bA Ei] []=some (bA r,[]):=by
 intro h;rcases n with _|n;cases h
 rw[Lw] at h
 refine An Tryz.func9 (by rfl) rfl rfl (As rfl) ?_
 intro call hc;conv=>lhs;whnf
 revert h
 refine br ?_ ?_
 exact rz
 refine br ?_ ?_
 exact rz
 refine br ?_ ?_
 exact rz
 refine br ?_ ?_
 exact rz
 intro h;refine Av h ?_;clear h;intro o14 ho14 h
 refine lq (σ:=(Bool×Int)) (τ:=Bool) (ν:=Bool) 0 (fun(s5,s6) a8=>B4 221 [(2,bA s5),(3,AV.ptr 0 0),(4,AV.ptr 1 0),(7,iA s6)]) (fun(s5,s6) a8=>[Ob.var 26 [iA Bn.B2,AV.sl 3 (List.map Ak Bn.Ao),AV.sl 4 (List.map A8 Bn.A7),AV.sl 3 (List.map Af Bn.Ac)],Ob.var 26 [iA Bp.B2,AV.sl 3 (List.map Ak Bp.Ao),AV.sl 4 (List.map A8 Bp.A7),AV.sl 3 (List.map Af Bp.Ac)]]) (fun x27 a26=>B4 221 [(2,bA x27),(3,AV.ptr 0 0),(4,AV.ptr 1 0)]) (fun x27 a26=>[Ob.var 26 [iA Bn.B2,AV.sl 3 (List.map Ak Bn.Ao),AV.sl 4 (List.map A8 Bn.A7),AV.sl 3 (List.map Af Bn.Ac)],Ob.var 26 [iA Bp.B2,AV.sl 3 (List.map Ak Bp.Ao),AV.sl 4 (List.map A8 Bp.A7),AV.sl 3 (List.map Af Bp.Ac)]]) (fun v=>(bA v,[])) (fun k s=>Ga n Bn Bp k s.1 s.2) (fun s=>rfl) o14 n (Ei,0) (fun _=>0) ho14 ?_ ?_
 intro k7 ss a8 K9 cont10 hK11 hcont12 h hr13
 obtain⟨s5,s6⟩:=ss
 replace h:Ga n Bn Bp (k7+1) s5 s6=some o14:=h
 rw[Ga] at h
 conv=>lhs;whnf
 revert h
 refine br ?_ ?_
 refine ix ?_;intro x16
 refine ix ?_;intro x17
 refine br ?_ ?_
 refine ix ?_;intro x19
 refine ix ?_;intro x20
 refine br ?_ ?_
 intro h;cases sj h
 refine(hK11 _ _).trans ?_
 refine Eq.trans ?_ (Eq.symm (show _=some _ from hr13))
 conv=>lhs;whnf
 exact rq
 refine br ?_ ?_
 refine ix ?_;intro x23
 refine ix ?_;intro x24
 refine br ?_ ?_
 intro h;cases sj h
 refine(hK11 _ _).trans ?_
 refine Eq.trans ?_ (Eq.symm (show _=some _ from hr13))
 conv=>lhs;whnf
 exact rq
 exact fun h=>cq (hcont12 (true,IntKind.i64.wrap (s6+1)) (fun _=>0) h)
 exact fun h=>cq (hcont12 (false,IntKind.i64.wrap (s6+1)) (fun _=>0) h)
 intro h;cases sj h
 refine(hK11 _ _).trans ?_
 refine Eq.trans ?_ (Eq.symm (show _=some _ from hr13))
 conv=>lhs;whnf
 exact rq
 intro h;cases sj h
 exact kq (hr13 (fun _=>0))
 refine lrc ?_ ?_
 intro v e;subst e;cases sj h;rfl
 intro x27 a26 e;subst e
 dsimp only at h
 conv=>lhs;whnf
 revert h
 intro h;refine Av h ?_;clear h;intro o37 ho37 h
 refine lq (σ:=(Bool×Int)) (τ:=Bool) (ν:=Bool) 2 (fun(s28,s29) a31=>B4 221 [(2,bA s28),(3,AV.ptr 0 0),(4,AV.ptr 1 0),(8,iA s29)]) (fun(s28,s29) a31=>[Ob.var 26 [iA Bn.B2,AV.sl 3 (List.map Ak Bn.Ao),AV.sl 4 (List.map A8 Bn.A7),AV.sl 3 (List.map Af Bn.Ac)],Ob.var 26 [iA Bp.B2,AV.sl 3 (List.map Ak Bp.Ao),AV.sl 4 (List.map A8 Bp.A7),AV.sl 3 (List.map Af Bp.Ac)]]) (fun x79 a78=>B4 221 [(2,bA x79),(3,AV.ptr 0 0),(4,AV.ptr 1 0)]) (fun x79 a78=>[Ob.var 26 [iA Bn.B2,AV.sl 3 (List.map Ak Bn.Ao),AV.sl 4 (List.map A8 Bn.A7),AV.sl 3 (List.map Af Bn.Ac)],Ob.var 26 [iA Bp.B2,AV.sl 3 (List.map Ak Bp.Ao),AV.sl 4 (List.map A8 Bp.A7),AV.sl 3 (List.map Af Bp.Ac)]]) (fun v=>(bA v,[])) (fun k s=>G5 n Bn Bp k s.1 s.2) (fun s=>rfl) o37 n (x27,0) (fun _=>0) ho37 ?_ ?_
 intro k30 ss a31 K32 cont33 hK34 hcont35 h hr36
 obtain⟨s28,s29⟩:=ss
 replace h:G5 n Bn Bp (k30+1) s28 s29=some o37:=h
 rw[G5] at h
 conv=>lhs;whnf
 revert h
 refine br ?_ ?_
 refine ix ?_;intro x39
 refine ix ?_;intro x40
 refine br ?_ ?_
 refine br ?_ ?_
 intro h;cases sj h
 refine(hK34 _ _).trans ?_
 refine Eq.trans ?_ (Eq.symm (show _=some _ from hr36))
 conv=>lhs;whnf
 exact rq
 refine ca hc (fun _ h=>Aar h) ?_;intro y43
 refine br ?_ ?_
 refine br ?_ ?_
 refine br ?_ ?_
 intro h;cases sj h
 refine(hK34 _ _).trans ?_
 refine Eq.trans ?_ (Eq.symm (show _=some _ from hr36))
 conv=>lhs;whnf
 exact rq
 intro h;refine Av h ?_;clear h;intro o56 ho56 h
 refine lq (σ:=Int) (τ:=Unit) (ν:=Bool) 4 (fun s48 a50=>B4 221 [(2,bA true),(3,AV.ptr 0 0),(4,AV.ptr 1 0),(8,iA s29),(9,AV.ptr 2 0),(10,AV.ptr 3 0),(11,iA s48)]) (fun s48 a50=>[Ob.var 26 [iA Bn.B2,AV.sl 3 (List.map Ak Bn.Ao),AV.sl 4 (List.map A8 Bn.A7),AV.sl 3 (List.map Af Bn.Ac)],Ob.var 26 [iA Bp.B2,AV.sl 3 (List.map Ak Bp.Ao),AV.sl 4 (List.map A8 Bp.A7),AV.sl 3 (List.map Af Bp.Ac)],Ob.var 35 [sA x39.Ae,AV.sl 1 (List.map D6 x39.Ay),AV.sl 9 (List.map Al x39.Aq),iA x39.B0],Ob.var 35 [sA x40.Ae,AV.sl 1 (List.map D6 x40.Ay),AV.sl 9 (List.map Al x40.Aq),iA x40.B0]]) (fun _ a61=>B4 221 [(2,bA true),(3,AV.ptr 0 0),(4,AV.ptr 1 0),(8,iA s29)]) (fun _ a61=>[Ob.var 26 [iA Bn.B2,AV.sl 3 (List.map Ak Bn.Ao),AV.sl 4 (List.map A8 Bn.A7),AV.sl 3 (List.map Af Bn.Ac)],Ob.var 26 [iA Bp.B2,AV.sl 3 (List.map Ak Bp.Ao),AV.sl 4 (List.map A8 Bp.A7),AV.sl 3 (List.map Af Bp.Ac)],Ob.var 35 [sA x39.Ae,AV.sl 1 (List.map D6 x39.Ay),AV.sl 9 (List.map Al x39.Aq),iA x39.B0],Ob.var 35 [sA x40.Ae,AV.sl 1 (List.map D6 x40.Ay),AV.sl 9 (List.map Al x40.Aq),iA x40.B0]]) (fun v=>(bA v,[])) (fun k s=>I9 n x39 x40 k s) (fun s=>rfl) o56 n 0 (fun _=>0) ho56 ?_ ?_
 intro k49 s48 a50 K51 cont52 hK53 hcont54 h hr55
 replace h:I9 n x39 x40 (k49+1) s48=some o56:=h
 rw[I9] at h
 conv=>lhs;whnf
 revert h
 refine br ?_ ?_
 refine ix ?_;intro x58
 refine ix ?_;intro x59
 refine br ?_ ?_
 exact fun h=>cq (hcont54 (IntKind.i64.wrap (s48+1)) (fun _=>0) h)
 intro h;cases sj h
 refine(hK53 _ _).trans ?_
 conv=>lhs;whnf
 refine(hK34 _ _).trans ?_
 refine Eq.trans ?_ (Eq.symm (show _=some _ from hr55))
 conv=>lhs;whnf
 exact rq
 intro h;cases sj h
 exact kq (hr55 (fun _=>0))
 refine lrc ?_ ?_
 intro v e;subst e;cases sj h;exact hr36
 intro t a61 e;subst e
 dsimp only at h
 conv=>lhs;whnf
 revert h
 exact fun h=>cq (hcont35 (true,IntKind.i64.wrap (s29+1)) (fun _=>0) h)
 intro h;refine Av h ?_;clear h;intro o71 ho71 h
 refine lq (σ:=Int) (τ:=Unit) (ν:=Bool) 4 (fun s63 a65=>B4 221 [(2,bA false),(3,AV.ptr 0 0),(4,AV.ptr 1 0),(8,iA s29),(9,AV.ptr 2 0),(10,AV.ptr 3 0),(11,iA s63)]) (fun s63 a65=>[Ob.var 26 [iA Bn.B2,AV.sl 3 (List.map Ak Bn.Ao),AV.sl 4 (List.map A8 Bn.A7),AV.sl 3 (List.map Af Bn.Ac)],Ob.var 26 [iA Bp.B2,AV.sl 3 (List.map Ak Bp.Ao),AV.sl 4 (List.map A8 Bp.A7),AV.sl 3 (List.map Af Bp.Ac)],Ob.var 35 [sA x39.Ae,AV.sl 1 (List.map D6 x39.Ay),AV.sl 9 (List.map Al x39.Aq),iA x39.B0],Ob.var 35 [sA x40.Ae,AV.sl 1 (List.map D6 x40.Ay),AV.sl 9 (List.map Al x40.Aq),iA x40.B0]]) (fun _ a76=>B4 221 [(2,bA false),(3,AV.ptr 0 0),(4,AV.ptr 1 0),(8,iA s29)]) (fun _ a76=>[Ob.var 26 [iA Bn.B2,AV.sl 3 (List.map Ak Bn.Ao),AV.sl 4 (List.map A8 Bn.A7),AV.sl 3 (List.map Af Bn.Ac)],Ob.var 26 [iA Bp.B2,AV.sl 3 (List.map Ak Bp.Ao),AV.sl 4 (List.map A8 Bp.A7),AV.sl 3 (List.map Af Bp.Ac)],Ob.var 35 [sA x39.Ae,AV.sl 1 (List.map D6 x39.Ay),AV.sl 9 (List.map Al x39.Aq),iA x39.B0],Ob.var 35 [sA x40.Ae,AV.sl 1 (List.map D6 x40.Ay),AV.sl 9 (List.map Al x40.Aq),iA x40.B0]]) (fun v=>(bA v,[])) (fun k s=>Ia n x39 x40 k s) (fun s=>rfl) o71 n 0 (fun _=>0) ho71 ?_ ?_
 intro k64 s63 a65 K66 cont67 hK68 hcont69 h hr70
 replace h:Ia n x39 x40 (k64+1) s63=some o71:=h
 rw[Ia] at h
 conv=>lhs;whnf
 revert h
 refine br ?_ ?_
 refine ix ?_;intro x73
 refine ix ?_;intro x74
 refine br ?_ ?_
 exact fun h=>cq (hcont69 (IntKind.i64.wrap (s63+1)) (fun _=>0) h)
 intro h;cases sj h
 refine(hK68 _ _).trans ?_
 conv=>lhs;whnf
 refine(hK34 _ _).trans ?_
 refine Eq.trans ?_ (Eq.symm (show _=some _ from hr70))
 conv=>lhs;whnf
 exact rq
 intro h;cases sj h
 exact kq (hr70 (fun _=>0))
 refine lrc ?_ ?_
 intro v e;subst e;cases sj h;exact hr36
 intro t a76 e;subst e
 dsimp only at h
 conv=>lhs;whnf
 revert h
 exact fun h=>cq (hcont35 (false,IntKind.i64.wrap (s29+1)) (fun _=>0) h)
 intro h;cases sj h
 refine(hK34 _ _).trans ?_
 refine Eq.trans ?_ (Eq.symm (show _=some _ from hr36))
 conv=>lhs;whnf
 exact rq
 intro h;cases sj h
 refine(hK34 _ _).trans ?_
 refine Eq.trans ?_ (Eq.symm (show _=some _ from hr36))
 conv=>lhs;whnf
 exact rq
 intro h;cases sj h
 exact kq (hr36 (fun _=>0))
 refine lrc ?_ ?_
 intro v e;subst e;cases sj h;rfl
 intro x79 a78 e;subst e
 dsimp only at h
 conv=>lhs;whnf
 revert h
 intro h;refine Av h ?_;clear h;intro o89 ho89 h
 refine lq (σ:=(Bool×Int)) (τ:=Unit) (ν:=Bool) 6 (fun(s80,s81) a83=>B4 221 [(2,bA s80),(3,AV.ptr 0 0),(4,AV.ptr 1 0),(12,iA s81)]) (fun(s80,s81) a83=>[Ob.var 26 [iA Bn.B2,AV.sl 3 (List.map Ak Bn.Ao),AV.sl 4 (List.map A8 Bn.A7),AV.sl 3 (List.map Af Bn.Ac)],Ob.var 26 [iA Bp.B2,AV.sl 3 (List.map Ak Bp.Ao),AV.sl 4 (List.map A8 Bp.A7),AV.sl 3 (List.map Af Bp.Ac)]]) (fun _ a103=>B4 221 []) (fun _ a103=>[Ob.var 26 [iA Bn.B2,AV.sl 3 (List.map Ak Bn.Ao),AV.sl 4 (List.map A8 Bn.A7),AV.sl 3 (List.map Af Bn.Ac)],Ob.var 26 [iA Bp.B2,AV.sl 3 (List.map Ak Bp.Ao),AV.sl 4 (List.map A8 Bp.A7),AV.sl 3 (List.map Af Bp.Ac)]]) (fun v=>(bA v,[])) (fun k s=>G9 n Bn Bp k s.1 s.2) (fun s=>rfl) o89 n (x79,0) (fun _=>0) ho89 ?_ ?_
 intro k82 ss a83 K84 cont85 hK86 hcont87 h hr88
 obtain⟨s80,s81⟩:=ss
 replace h:G9 n Bn Bp (k82+1) s80 s81=some o89:=h
 rw[G9] at h
 conv=>lhs;whnf
 revert h
 refine br ?_ ?_
 refine ix ?_;intro x91
 refine ix ?_;intro x92
 refine br ?_ ?_
 intro h;cases sj h
 refine(hK86 _ _).trans ?_
 refine Eq.trans ?_ (Eq.symm (show _=some _ from hr88))
 conv=>lhs;whnf
 exact rq
 refine ix ?_;intro x94
 refine ix ?_;intro x95
 refine ca hc (fun _ h=>Pc h) ?_;intro y96
 refine br ?_ ?_
 refine br ?_ ?_
 refine ix ?_;intro x100
 refine ix ?_;intro x101
 refine br ?_ ?_
 intro h;cases sj h
 refine(hK86 _ _).trans ?_
 refine Eq.trans ?_ (Eq.symm (show _=some _ from hr88))
 conv=>lhs;whnf
 exact rq
 exact fun h=>cq (hcont87 (true,IntKind.i64.wrap (s81+1)) (fun _=>0) h)
 exact fun h=>cq (hcont87 (false,IntKind.i64.wrap (s81+1)) (fun _=>0) h)
 intro h;cases sj h
 refine(hK86 _ _).trans ?_
 refine Eq.trans ?_ (Eq.symm (show _=some _ from hr88))
 conv=>lhs;whnf
 exact rq
 intro h;cases sj h
 exact kq (hr88 (fun _=>0))
 refine lrc ?_ ?_
 intro v e;subst e;cases sj h;rfl
 intro t a103 e;subst e
 dsimp only at h
 conv=>lhs;whnf
 revert h
 exact rz
theorem Aa0 {n:Nat} ⦃C6:Int⦄ ⦃r:(List UInt8)⦄:Tx n C6=some r→CN n 39 [iA C6] []=some (sA r,[]):=by
 intro h;rcases n with _|n;cases h
 rw[Tx] at h
 refine An Tryz.func39 (by rfl) rfl rfl (As rfl) ?_
 intro call hc;conv=>lhs;whnf
 revert h
 intro h
 refine Av h ?_;clear h;intro x1 hx1 h
 refine Am (by first|exact Fh hx1|(have q:=Fh hx1;exact q)) ?_
 simp only[(show nth? ([[sA (([]:List UInt8))],[sA (([102,111,114,97,108,108]:List UInt8))],[sA (([101,120,105,115,116,115]:List UInt8))],[sA (([97,108,119,97,121,115]:List UInt8))]]:List (List AV)) C6.toNat=some (D6 x1) from Kp (f:=D6) hx1),ls]
 conv=>lhs;whnf
 revert h
 exact rz
theorem Aax {n:Nat} ⦃A9:Ar⦄ ⦃r:(List UInt8)⦄:Ko n A9=some r→CN n 12 [AV.agg [iA A9.B2,AV.sl 3 (List.map Ak A9.Ao),AV.sl 4 (List.map A8 A9.A7),AV.sl 3 (List.map Af A9.Ac)]] []=some (sA r,[]):=by
 intro h;rcases n with _|n;cases h
 rw[Ko] at h
 refine An Tryz.func12 (by rfl) rfl rfl (As rfl) ?_
 intro call hc;conv=>lhs;whnf
 revert h
 refine ca hc (fun _ h=>Ze h) ?_;intro y1
 refine br ?_ ?_
 refine ca hc (fun _ h=>U9 h) ?_;intro y4
 intro h
 refine Ad h ?_;clear h;intro hc6 h
 refine Am hc6 ?_
 try simp only[ls]
 conv=>lhs;whnf
 revert h
 intro h
 refine Ad h ?_;clear h;intro hc7 h
 refine Am hc7 ?_
 try simp only[ls]
 conv=>lhs;whnf
 revert h
 intro h;refine Av h ?_;clear h;intro o17 ho17 h
 refine lq (σ:=((List UInt8)×Int)) (τ:=(List UInt8)) (ν:=(List UInt8)) 0 (fun(s8,s9) a11=>B4 125 [(1,AV.ptr 0 0),(3,sA s8),(4,iA s9)]) (fun(s8,s9) a11=>[Ob.var 26 [iA A9.B2,AV.sl 3 (List.map Ak A9.Ao),AV.sl 4 (List.map A8 A9.A7),AV.sl 3 (List.map Af A9.Ac)]]) (fun x29 a28=>B4 125 [(1,AV.ptr 0 0),(3,sA x29)]) (fun x29 a28=>[Ob.var 26 [iA A9.B2,AV.sl 3 (List.map Ak A9.Ao),AV.sl 4 (List.map A8 A9.A7),AV.sl 3 (List.map Af A9.Ac)]]) (fun v=>(sA v,[])) (fun k s=>Hy n A9 k s.1 s.2) (fun s=>rfl) o17 n (((([109,111,100,32]:List UInt8)++y4)++([59,10]:List UInt8)),0) (fun _=>0) ho17 ?_ ?_
 intro k10 ss a11 K12 cont13 hK14 hcont15 h hr16
 obtain⟨s8,s9⟩:=ss
 replace h:Hy n A9 (k10+1) s8 s9=some o17:=h
 rw[Hy] at h
 conv=>lhs;whnf
 revert h
 refine br ?_ ?_
 intro h
 refine Ad h ?_;clear h;intro hc19 h
 refine Am hc19 ?_
 try simp only[ls]
 conv=>lhs;whnf
 revert h
 refine ix ?_;intro x20
 intro h
 refine Ad h ?_;clear h;intro hc21 h
 refine Am hc21 ?_
 try simp only[ls]
 conv=>lhs;whnf
 revert h
 intro h
 refine Ad h ?_;clear h;intro hc22 h
 refine Am hc22 ?_
 try simp only[ls]
 conv=>lhs;whnf
 revert h
 refine ix ?_;intro x23
 refine ca hc (fun _ h=>U9 h) ?_;intro y24
 intro h
 refine Ad h ?_;clear h;intro hc26 h
 refine Am hc26 ?_
 try simp only[ls]
 conv=>lhs;whnf
 revert h
 intro h
 refine Ad h ?_;clear h;intro hc27 h
 refine Am hc27 ?_
 try simp only[ls]
 conv=>lhs;whnf
 revert h
 exact fun h=>cq (hcont15 ((((((s8++([108,111,99,32]:List UInt8))++x20.Ae)++([32,61,32]:List UInt8))++y24)++([59,10]:List UInt8)),IntKind.i64.wrap (s9+1)) (fun _=>0) h)
 intro h;cases sj h
 exact kq (hr16 (fun _=>0))
 refine lrc ?_ ?_
 intro v e;subst e;cases sj h;rfl
 intro x29 a28 e;subst e
 dsimp only at h
 conv=>lhs;whnf
 revert h
 intro h;refine Av h ?_;clear h;intro o39 ho39 h
 refine lq (σ:=((List UInt8)×Int)) (τ:=(List UInt8)) (ν:=(List UInt8)) 2 (fun(s30,s31) a33=>B4 125 [(1,AV.ptr 0 0),(3,sA s30),(5,iA s31)]) (fun(s30,s31) a33=>[Ob.var 26 [iA A9.B2,AV.sl 3 (List.map Ak A9.Ao),AV.sl 4 (List.map A8 A9.A7),AV.sl 3 (List.map Af A9.Ac)]]) (fun x77 a76=>B4 125 [(1,AV.ptr 0 0),(3,sA x77)]) (fun x77 a76=>[Ob.var 26 [iA A9.B2,AV.sl 3 (List.map Ak A9.Ao),AV.sl 4 (List.map A8 A9.A7),AV.sl 3 (List.map Af A9.Ac)]]) (fun v=>(sA v,[])) (fun k s=>Gd n A9 k s.1 s.2) (fun s=>rfl) o39 n (x29,0) (fun _=>0) ho39 ?_ ?_
 intro k32 ss a33 K34 cont35 hK36 hcont37 h hr38
 obtain⟨s30,s31⟩:=ss
 replace h:Gd n A9 (k32+1) s30 s31=some o39:=h
 rw[Gd] at h
 conv=>lhs;whnf
 revert h
 refine br ?_ ?_
 refine ix ?_;intro x41
 intro h
 refine Ad h ?_;clear h;intro hc42 h
 refine Am hc42 ?_
 try simp only[ls]
 conv=>lhs;whnf
 revert h
 intro h
 refine Ad h ?_;clear h;intro hc43 h
 refine Am hc43 ?_
 try simp only[ls]
 conv=>lhs;whnf
 revert h
 intro h
 refine Ad h ?_;clear h;intro hc44 h
 refine Am hc44 ?_
 try simp only[ls]
 conv=>lhs;whnf
 revert h
 intro h;refine Av h ?_;clear h;intro o54 ho54 h
 refine lq (σ:=((List UInt8)×Int)) (τ:=(List UInt8)) (ν:=(List UInt8)) 4 (fun(s45,s46) a48=>B4 125 [(1,AV.ptr 0 0),(3,sA s45),(5,iA s31),(6,AV.ptr 1 0),(7,iA s46)]) (fun(s45,s46) a48=>[Ob.var 26 [iA A9.B2,AV.sl 3 (List.map Ak A9.Ao),AV.sl 4 (List.map A8 A9.A7),AV.sl 3 (List.map Af A9.Ac)],Ob.var 35 [sA x41.Ae,AV.sl 1 (List.map D6 x41.Ay),AV.sl 9 (List.map Al x41.Aq),iA x41.B0]]) (fun x64 a63=>B4 125 [(1,AV.ptr 0 0),(3,sA x64),(5,iA s31),(6,AV.ptr 1 0)]) (fun x64 a63=>[Ob.var 26 [iA A9.B2,AV.sl 3 (List.map Ak A9.Ao),AV.sl 4 (List.map A8 A9.A7),AV.sl 3 (List.map Af A9.Ac)],Ob.var 35 [sA x41.Ae,AV.sl 1 (List.map D6 x41.Ay),AV.sl 9 (List.map Al x41.Aq),iA x41.B0]]) (fun v=>(sA v,[])) (fun k s=>Eb n x41 k s.1 s.2) (fun s=>rfl) o54 n ((((s30++([116,104,114,101,97,100,32]:List UInt8))++x41.Ae)++([32,123,10]:List UInt8)),0) (fun _=>0) ho54 ?_ ?_
 intro k47 ss a48 K49 cont50 hK51 hcont52 h hr53
 obtain⟨s45,s46⟩:=ss
 replace h:Eb n x41 (k47+1) s45 s46=some o54:=h
 rw[Eb] at h
 conv=>lhs;whnf
 revert h
 refine br ?_ ?_
 refine br ?_ ?_
 intro h
 refine Ad h ?_;clear h;intro hc57 h
 refine Am hc57 ?_
 try simp only[ls]
 conv=>lhs;whnf
 revert h
 refine ix ?_;intro x58
 intro h
 refine Ad h ?_;clear h;intro hc59 h
 refine Am hc59 ?_
 try simp only[ls]
 conv=>lhs;whnf
 revert h
 exact fun h=>cq (hcont52 (((s45++([32,32,114,101,103,32]:List UInt8))++x58),IntKind.i64.wrap (s46+1)) (fun _=>0) h)
 intro h
 refine Ad h ?_;clear h;intro hc60 h
 refine Am hc60 ?_
 try simp only[ls]
 conv=>lhs;whnf
 revert h
 refine ix ?_;intro x61
 intro h
 refine Ad h ?_;clear h;intro hc62 h
 refine Am hc62 ?_
 try simp only[ls]
 conv=>lhs;whnf
 revert h
 exact fun h=>cq (hcont52 (((s45++([44,32]:List UInt8))++x61),IntKind.i64.wrap (s46+1)) (fun _=>0) h)
 intro h;cases sj h
 exact kq (hr53 (fun _=>0))
 refine lrc ?_ ?_
 intro v e;subst e;cases sj h;exact hr38
 intro x64 a63 e;subst e
 dsimp only at h
 conv=>lhs;whnf
 revert h
 refine br ?_ ?_
 intro h
 refine Ad h ?_;clear h;intro hc66 h
 refine Am hc66 ?_
 try simp only[ls]
 conv=>lhs;whnf
 revert h
 refine ca hc (fun _ h=>A1m h) ?_;intro y67
 intro h
 refine Ad h ?_;clear h;intro hc69 h
 refine Am hc69 ?_
 try simp only[ls]
 conv=>lhs;whnf
 revert h
 intro h
 refine Ad h ?_;clear h;intro hc70 h
 refine Am hc70 ?_
 try simp only[ls]
 conv=>lhs;whnf
 revert h
 exact fun h=>cq (hcont37 ((((x64++([59,10]:List UInt8))++y67)++([125,10]:List UInt8)),IntKind.i64.wrap (s31+1)) (fun _=>0) h)
 refine ca hc (fun _ h=>A1m h) ?_;intro y71
 intro h
 refine Ad h ?_;clear h;intro hc73 h
 refine Am hc73 ?_
 try simp only[ls]
 conv=>lhs;whnf
 revert h
 intro h
 refine Ad h ?_;clear h;intro hc74 h
 refine Am hc74 ?_
 try simp only[ls]
 conv=>lhs;whnf
 revert h
 exact fun h=>cq (hcont37 (((x64++y71)++([125,10]:List UInt8)),IntKind.i64.wrap (s31+1)) (fun _=>0) h)
 intro h;cases sj h
 exact kq (hr38 (fun _=>0))
 refine lrc ?_ ?_
 intro v e;subst e;cases sj h;rfl
 intro x77 a76 e;subst e
 dsimp only at h
 conv=>lhs;whnf
 revert h
 intro h;refine Av h ?_;clear h;intro o87 ho87 h
 refine lq (σ:=((List UInt8)×Int)) (τ:=(List UInt8)) (ν:=(List UInt8)) 6 (fun(s78,s79) a81=>B4 125 [(1,AV.ptr 0 0),(3,sA s78),(8,iA s79)]) (fun(s78,s79) a81=>[Ob.var 26 [iA A9.B2,AV.sl 3 (List.map Ak A9.Ao),AV.sl 4 (List.map A8 A9.A7),AV.sl 3 (List.map Af A9.Ac)]]) (fun x100 a99=>B4 125 [(3,sA x100)]) (fun x100 a99=>[Ob.var 26 [iA A9.B2,AV.sl 3 (List.map Ak A9.Ao),AV.sl 4 (List.map A8 A9.A7),AV.sl 3 (List.map Af A9.Ac)]]) (fun v=>(sA v,[])) (fun k s=>Ic n A9 k s.1 s.2) (fun s=>rfl) o87 n (x77,0) (fun _=>0) ho87 ?_ ?_
 intro k80 ss a81 K82 cont83 hK84 hcont85 h hr86
 obtain⟨s78,s79⟩:=ss
 replace h:Ic n A9 (k80+1) s78 s79=some o87:=h
 rw[Ic] at h
 conv=>lhs;whnf
 revert h
 refine br ?_ ?_
 refine ix ?_;intro x89
 refine ca hc (fun _ h=>Aa0 h) ?_;intro y90
 intro h
 refine Ad h ?_;clear h;intro hc92 h
 refine Am hc92 ?_
 try simp only[ls]
 conv=>lhs;whnf
 revert h
 intro h
 refine Ad h ?_;clear h;intro hc93 h
 refine Am hc93 ?_
 try simp only[ls]
 conv=>lhs;whnf
 revert h
 refine ix ?_;intro x94
 refine ca hc (fun _ h=>Gb h) ?_;intro y95
 intro h
 refine Ad h ?_;clear h;intro hc97 h
 refine Am hc97 ?_
 try simp only[ls]
 conv=>lhs;whnf
 revert h
 intro h
 refine Ad h ?_;clear h;intro hc98 h
 refine Am hc98 ?_
 try simp only[ls]
 conv=>lhs;whnf
 revert h
 exact fun h=>cq (hcont85 (((((s78++y90)++([32]:List UInt8))++y95)++([59,10]:List UInt8)),IntKind.i64.wrap (s79+1)) (fun _=>0) h)
 intro h;cases sj h
 exact kq (hr86 (fun _=>0))
 refine lrc ?_ ?_
 intro v e;subst e;cases sj h;rfl
 intro x100 a99 e;subst e
 dsimp only at h
 conv=>lhs;whnf
 revert h
 exact rz
 exact rz
end Go.Proofs.YteindmlljlboeaaGreat
end
