/- Parts of the proofs: what they lean on. Conditions: none. -/
import Derived.Test.YteindmlljlboeaaGreatPshS11
section
namespace Go.Proofs.YteindmlljlboeaaGreat
set_option linter.unusedVariables false
set_option linter.unusedSimpArgs false
set_option maxRecDepth 100000
set_option maxHeartbeats 4000000
theorem A2m {n:Nat} ⦃Cq:Int⦄ ⦃r:Int⦄:Ka n Cq=some r→CN n 116 [iA Cq] []=some (iA r,[]):=by
 intro h;rcases n with _|n;cases h
 rw[Ka] at h
 refine An Tryz.func116 (by rfl) rfl rfl (As rfl) ?_
 intro call hc;conv=>lhs;whnf
 revert h
 refine br ?_ ?_
 refine br ?_ ?_
 exact rz
 refine br ?_ ?_
 exact rz
 refine br ?_ ?_
 refine br ?_ ?_
 exact rz
 exact rz
 exact rz
 refine br ?_ ?_
 exact rz
 refine br ?_ ?_
 refine br ?_ ?_
 exact rz
 exact rz
 exact rz
theorem Aep {n:Nat} ⦃Aa:(List A0)⦄ ⦃C3:Int⦄ ⦃r:Int⦄:Tt n Aa C3=some r→CN n 82 [AV.sl 5 (List.map A1 Aa),iA C3] []=some (iA r,[]):=by
 intro h;rcases n with _|n;cases h
 rw[Tt] at h
 refine An Tryz.func82 (by rfl) rfl rfl (As rfl) ?_
 intro call hc;conv=>lhs;whnf
 revert h
 refine br ?_ ?_
 exact rz
 intro h;refine Av h ?_;clear h;intro o11 ho11 h
 refine lq (σ:=(Int×Int)) (τ:=Unit) (ν:=Int) 0 (fun(s2,s3) a5=>B4 31 [(0,AV.sl 5 (List.map A1 Aa)),(1,iA s2),(5,iA s3)]) (fun(s2,s3) a5=>[]) (fun _ a18=>B4 31 []) (fun _ a18=>[]) (fun v=>(iA v,[])) (fun k s=>Iv n Aa k s.1 s.2) (fun s=>rfl) o11 n (C3,1) (fun _=>0) ho11 ?_ ?_
 intro k4 ss a5 K6 cont7 hK8 hcont9 h hr10
 obtain⟨s2,s3⟩:=ss
 replace h:Iv n Aa (k4+1) s2 s3=some o11:=h
 rw[Iv] at h
 conv=>lhs;whnf
 revert h
 refine br ?_ ?_
 refine ix ?_;intro x13
 refine ca hc (fun _ h=>A2m h) ?_;intro y14
 refine br ?_ ?_
 intro h;cases sj h
 refine(hK8 _ _).trans ?_
 refine Eq.trans ?_ (Eq.symm (show _=some _ from hr10))
 conv=>lhs;whnf
 exact rq
 refine br ?_ ?_
 intro h;cases sj h
 refine(hK8 _ _).trans ?_
 refine Eq.trans ?_ (Eq.symm (show _=some _ from hr10))
 conv=>lhs;whnf
 exact rq
 exact fun h=>cq (hcont9 (IntKind.i64.wrap (s2+1),IntKind.i64.wrap (s3+(IntKind.i64.wrap (y14 - 1)))) (fun _=>0) h)
 intro h;cases sj h
 exact kq (hr10 (fun _=>0))
 refine lrc ?_ ?_
 intro v e;subst e;cases sj h;rfl
 intro t a18 e;subst e
 dsimp only at h
 conv=>lhs;whnf
 revert h
 exact rz
theorem A1x {n:Nat} ⦃Aa:(List A0)⦄ ⦃r:(List A0)⦄:Np n Aa=some r→CN n 56 [AV.sl 5 (List.map A1 Aa)] []=some (AV.sl 5 (List.map A1 r),[]):=by
 intro h;rcases n with _|n;cases h
 rw[Np] at h
 refine An Tryz.func56 (by rfl) rfl rfl (As rfl) ?_
 intro call hc;conv=>lhs;whnf
 revert h
 intro h;refine Av h ?_;clear h;intro o10 ho10 h
 refine lq (σ:=(Int×(List A0))) (τ:=(List A0)) (ν:=(List A0)) 0 (fun(s1,s2) a4=>B4 24 [(3,AV.row 0 (List.length s2)),(6,AV.sl 5 (List.map A1 Aa)),(7,iA (((Aa.length:Nat):Int))),(8,iA s1)]) (fun(s1,s2) a4=>[Ob.row 42 5 (List.map A1 s2)]) (fun x23 a22=>B4 24 [(3,AV.row 0 (List.length x23))]) (fun x23 a22=>[Ob.row 42 5 (List.map A1 x23)]) (fun v=>(AV.sl 5 (List.map A1 v),[])) (fun k s=>Ec n Aa k s.1 s.2) (fun s=>rfl) o10 n (0,([]:List A0)) (fun _=>0) ho10 ?_ ?_
 intro k3 ss a4 K5 cont6 hK7 hcont8 h hr9
 obtain⟨s1,s2⟩:=ss
 replace h:Ec n Aa (k3+1) s1 s2=some o10:=h
 rw[Ec] at h
 conv=>lhs;whnf
 revert h
 refine br ?_ ?_
 refine ix ?_;intro x12
 refine br ?_ ?_
 refine ar (ap A1 (List.map A1 s2) s2 ([[iA x12.B1,iA x12.Bk,sA x12.Ae,sA x12.C2,iA x12.B0]]) ([x12]:List A0)) ?_
 exact fun h=>cq (hcont8 (IntKind.i64.wrap (s1+1),(s2++([x12]:List A0))) (fun _=>0) h)
 refine br ?_ ?_
 refine ar (ap A1 (List.map A1 s2) s2 ([[iA x12.B1,iA x12.Bk,sA x12.Ae,sA x12.C2,iA x12.B0]]) ([x12]:List A0)) ?_
 exact fun h=>cq (hcont8 (IntKind.i64.wrap (s1+1),(s2++([x12]:List A0))) (fun _=>0) h)
 refine br ?_ ?_
 refine ar (ap A1 (List.map A1 s2) s2 ([[iA x12.B1,iA x12.Bk,sA x12.Ae,sA x12.C2,iA x12.B0]]) ([x12]:List A0)) ?_
 exact fun h=>cq (hcont8 (IntKind.i64.wrap (s1+1),(s2++([x12]:List A0))) (fun _=>0) h)
 exact fun h=>cq (hcont8 (IntKind.i64.wrap (s1+1),s2) (fun _=>0) h)
 intro h;cases sj h
 exact kq (hr9 (fun _=>0))
 refine lrc ?_ ?_
 intro v e;subst e;cases sj h;rfl
 intro x23 a22 e;subst e
 dsimp only at h
 conv=>lhs;whnf
 revert h
 intro h;obtain rfl:=sj h
 try simp only[ls]
 exact fq (y:=some (AV.sl 5 (List.take (List.length x23) (List.map A1 x23)),[]))
theorem A1r {n:Nat} ⦃Aa:(List A0)⦄ ⦃r:Int⦄:O3 n Aa=some r→CN n 84 [AV.sl 5 (List.map A1 Aa)] []=some (iA r,[]):=by
 intro h;rcases n with _|n;cases h
 rw[O3] at h
 refine An Tryz.func84 (by rfl) rfl rfl (As rfl) ?_
 intro call hc;conv=>lhs;whnf
 revert h
 intro h;refine Av h ?_;clear h;intro o11 ho11 h
 refine lq (σ:=(Int×Int×(List Int))) (τ:=(Int×(List Int))) (ν:=Int) 0 (fun(s1,s2,s3) a5=>B4 50 [(3,AV.stk 0 (a5 0) (List.length s3)),(4,iA s1),(9,AV.sl 5 (List.map A1 Aa)),(10,iA (((Aa.length:Nat):Int))),(11,iA s2)]) (fun(s1,s2,s3) a5=>[Ob.stk (a5 0) 3 1 (List.map Cz s3)]) (fun(x41,x42) a40=>B4 50 [(4,iA x41)]) (fun(x41,x42) a40=>[Ob.stk (a40 0) 3 1 (List.map Cz x42)]) (fun v=>(iA v,[])) (fun k s=>G6 n Aa k s.1 s.2.1 s.2.2) (fun s=>rfl) o11 n (0,0,([]:List Int)) (fun j=>(bif Nat.beq j 0 then 0 else 0)) ho11 ?_ ?_
 intro k4 ss a5 K6 cont7 hK8 hcont9 h hr10
 obtain⟨s1,s2,s3⟩:=ss
 replace h:G6 n Aa (k4+1) s1 s2 s3=some o11:=h
 rw[G6] at h
 conv=>lhs;whnf
 revert h
 refine br ?_ ?_
 refine ix ?_;intro x13
 refine ca hc (fun _ h=>A2m h) ?_;intro y14
 refine br ?_ ?_
 intro h
 refine Ad h ?_;clear h;intro hc19 h
 try simp only[Ep]
 conv=>lhs;whnf
 first|refine Am (Zk hc19 (by first|rfl|simp only [B3]) (by first|rfl|simp only [B3]) (by first|rfl|simp only [B3,Cu]) (by kernel_rfl)) ?_|refine Am (X8 hc19 (by first|rfl|simp only [B3]) (by first|rfl|simp only [B3,Cu]) (by kernel_rfl)) ?_
 try simp only[lt]
 have hp17:(List.map Cz s3:List (List AV))++[[iA y14]]=List.map Cz (s3++([y14]:List Int)):=by first|rfl|(rw[List.map_append];rfl)|(rw[List.map_append];done)|(simp only[List.map_append,List.map_cons,List.map_nil,List.nil_append,Cz]<;>rfl)
 have hl18:List.length (List.map Cz s3:List (List AV))+List.length ([[iA y14]]:List (List AV))=List.length (s3++([y14]:List Int)):=by simp only[B3,List.length_append]<;>rfl
 have hl18_b:List.length s3+List.length ([[iA y14]]:List (List AV))=List.length (s3++([y14]:List Int)):=by simp only[B3,List.length_append]<;>rfl
 have hl18_c:List.length s3+List.length ([y14]:List Int)=List.length (s3++([y14]:List Int)):=by simp only[B3,List.length_append]<;>rfl
 first|simp only [hp17,hl18]|(simp only[B3,Cu];simp only[hp17,hl18_b,hl18_c])
 try simp only[ls]
 conv=>lhs;whnf
 revert h
 exact fun h=>cq (hcont9 ((if s1<((s3.length:Nat):Int) then((s3.length:Nat):Int) else s1),IntKind.i64.wrap (s2+1),(s3++([y14]:List Int))) (fun j=>(bif Nat.beq j 0 then((a5 0)+1) else 0)) h)
 intro h;refine Av h ?_;clear h;intro o28 ho28 h
 refine lq (σ:=(List Int)) (τ:=(List Int)) (ν:=Int) 2 (fun s20 a22=>B4 50 [(3,AV.stk 0 (a22 0) (List.length s20)),(4,iA ((if s1<((s3.length:Nat):Int) then((s3.length:Nat):Int) else s1))),(9,AV.sl 5 (List.map A1 Aa)),(10,iA (((Aa.length:Nat):Int))),(11,iA s2)]) (fun s20 a22=>[Ob.stk (a22 0) 3 1 (List.map Cz s20),Ob.var 42 [iA x13.B1,iA x13.Bk,sA x13.Ae,sA x13.C2,iA x13.B0]]) (fun x38 a37=>B4 50 [(3,AV.stk 0 (a37 0) (List.length x38)),(4,iA ((if s1<((s3.length:Nat):Int) then((s3.length:Nat):Int) else s1))),(9,AV.sl 5 (List.map A1 Aa)),(10,iA (((Aa.length:Nat):Int))),(11,iA s2)]) (fun x38 a37=>[Ob.stk (a37 0) 3 1 (List.map Cz x38),Ob.var 42 [iA x13.B1,iA x13.Bk,sA x13.Ae,sA x13.C2,iA x13.B0]]) (fun v=>(iA v,[])) (fun k s=>Jj n k s) (fun s=>rfl) o28 n s3 (fun j=>(bif Nat.beq j 0 then(a5 0) else 0)) ho28 ?_ ?_
 intro k21 s20 a22 K23 cont24 hK25 hcont26 h hr27
 replace h:Jj n (k21+1) s20=some o28:=h
 rw[Jj] at h
 conv=>lhs;whnf
 revert h
 refine br ?_ ?_
 intro h
 refine Av h ?_;clear h;intro x30 hx30 h
 try simp only[Ep]
 conv=>lhs;whnf
 try simp only[ls]
 refine Am (by first|exact Fh hx30|exact T1 hx30|exact Wu hx30|exact Kq hx30|(have q:=Fh hx30;simp only[List.length_set] at q;exact q)|(have q:=Kq hx30;simp only[List.length_set,Nat.zero_add] at q ⊢;exact q)) ?_
 conv=>lhs;whnf
 try simp only[Kp (f:=Cz) hx30,Ep,ls]
 conv=>lhs;whnf
 revert h
 intro h
 refine Av h ?_;clear h;intro x31 hx31 h
 try simp only[Ep]
 conv=>lhs;whnf
 try simp only[ls]
 refine Am (by first|exact Fh hx31|exact T1 hx31|exact Wu hx31|exact Kq hx31|(have q:=Fh hx31;simp only[List.length_set] at q;exact q)|(have q:=Kq hx31;simp only[List.length_set,Nat.zero_add] at q ⊢;exact q)) ?_
 conv=>lhs;whnf
 try simp only[Kp (f:=Cz) hx31,Ep,ls]
 conv=>lhs;whnf
 revert h
 intro h
 have hs32:C7 (List.map Cz s20) (IntKind.i64.wrap (((s20.length:Nat):Int) - 1)).toNat [iA (IntKind.i64.wrap (x30 - 1))]=List.map Cz (List.set s20 (IntKind.i64.wrap (((s20.length:Nat):Int) - 1)).toNat (IntKind.i64.wrap (x30 - 1))):=by rw[Br,List.map_set];rfl
 have hs32_u:C7 (List.map Cz s20) (IntKind.i64.wrap (((s20.length:Nat):Int) - 1)).toNat (M8 (Cz x31) 0 [iA (IntKind.i64.wrap (x30 - 1))])=List.map Cz (List.set s20 (IntKind.i64.wrap (((s20.length:Nat):Int) - 1)).toNat (IntKind.i64.wrap (x30 - 1))):=by rw[Br,List.map_set];rfl
 try simp only[Kp (f:=Cz) hx31,Ep]
 conv=>lhs;whnf
 try simp only[hs32,hs32_u,Ep]
 conv=>lhs;whnf
 revert h
 intro h
 refine Av h ?_;clear h;intro x33 hx33 h
 try simp only[Ep]
 conv=>lhs;whnf
 try simp only[ls]
 refine Am (by first|exact Fh hx33|exact T1 hx33|exact Wu hx33|exact Kq hx33|(have q:=Fh hx33;simp only[List.length_set] at q;exact q)|(have q:=Kq hx33;simp only[List.length_set,Nat.zero_add] at q ⊢;exact q)) ?_
 conv=>lhs;whnf
 try simp only[Kp (f:=Cz) hx33,Ep,ls]
 conv=>lhs;whnf
 revert h
 refine br ?_ ?_
 intro h;cases sj h
 exact kq (hr27 (fun j=>(bif Nat.beq j 0 then(a22 0) else 0)))
 intro h
 refine Ad h ?_;clear h;intro hc36 h
 try simp only[Ep]
 conv=>lhs;whnf
 try simp only[ls]
 first|refine Am hc36 ?_|(refine Am (by have q:=hc36;simp only[List.length_set] at q;exact q) ?_)
 have hs35:List.take ((IntKind.i64.wrap (((s20.length:Nat):Int) - 1)).toNat) (List.map Cz (List.set s20 (IntKind.i64.wrap (((s20.length:Nat):Int) - 1)).toNat (IntKind.i64.wrap (x30 - 1))))=List.map Cz (List.take ((IntKind.i64.wrap (((s20.length:Nat):Int) - 1)).toNat) (List.set s20 (IntKind.i64.wrap (((s20.length:Nat):Int) - 1)).toNat (IntKind.i64.wrap (x30 - 1)))):=by rw[List.map_take]
 have hs35_l:List.length (List.take ((IntKind.i64.wrap (((s20.length:Nat):Int) - 1)).toNat) (List.set s20 (IntKind.i64.wrap (((s20.length:Nat):Int) - 1)).toNat (IntKind.i64.wrap (x30 - 1))))=(IntKind.i64.wrap (((s20.length:Nat):Int) - 1)).toNat:=by simp only[List.length_take];exact Nat.min_eq_left (Aoe hc36)
 conv=>lhs;whnf
 try simp only[Ep,hs35]
 conv=>lhs;whnf
 try simp only[hs35]
 have hs35_s:∀ q,AV.stk 0 q ((IntKind.i64.wrap (((s20.length:Nat):Int) - 1)).toNat)=AV.stk 0 q (List.length (List.take ((IntKind.i64.wrap (((s20.length:Nat):Int) - 1)).toNat) (List.set s20 (IntKind.i64.wrap (((s20.length:Nat):Int) - 1)).toNat (IntKind.i64.wrap (x30 - 1))))):=fun q=>by rw[hs35_l]
 try simp only[hs35_s]
 conv=>lhs;whnf
 revert h
 exact fun h=>cq (hcont26 (List.take ((IntKind.i64.wrap (((s20.length:Nat):Int) - 1)).toNat) (List.set s20 (IntKind.i64.wrap (((s20.length:Nat):Int) - 1)).toNat (IntKind.i64.wrap (x30 - 1)))) (fun j=>(bif Nat.beq j 0 then((a22 0)+1) else 0)) h)
 intro h;cases sj h
 exact kq (hr27 (fun j=>(bif Nat.beq j 0 then(a22 0) else 0)))
 refine lrc ?_ ?_
 intro v e;subst e;cases sj h;exact hr10
 intro x38 a37 e;subst e
 dsimp only at h
 conv=>lhs;whnf
 revert h
 exact fun h=>cq (hcont9 ((if s1<((s3.length:Nat):Int) then((s3.length:Nat):Int) else s1),IntKind.i64.wrap (s2+1),x38) (fun j=>(bif Nat.beq j 0 then(a37 0) else 0)) h)
 intro h;cases sj h
 exact kq (hr10 (fun j=>(bif Nat.beq j 0 then(a5 0) else 0)))
 refine lrc ?_ ?_
 intro v e;subst e;cases sj h;rfl
 intro t a40 e;subst e
 obtain⟨x41,x42⟩:=t
 dsimp only at h
 conv=>lhs;whnf
 revert h
 exact rz
theorem G1 {n:Nat} ⦃Aj:A0⦄ ⦃Mr:(List (List A0))⦄ ⦃r:(List A0)⦄:F3 n Aj Mr=some r→CN n 128 [AV.agg [iA Aj.B1,iA Aj.Bk,sA Aj.Ae,sA Aj.C2,iA Aj.B0],AV.sl 1 (List.map Y7 Mr)] []=some (AV.sl 5 (List.map A1 r),[]):=by
 intro h;rcases n with _|n;cases h
 rw[F3] at h
 refine An Tryz.func128 (by rfl) rfl rfl (As rfl) ?_
 intro call hc;conv=>lhs;whnf
 revert h
 intro h;refine Av h ?_;clear h;intro o10 ho10 h
 refine lq (σ:=(Int×(List A0))) (τ:=(List A0)) (ν:=(List A0)) 0 (fun(s1,s2) a4=>B4 21 [(5,AV.row 1 (List.length s2)),(10,AV.sl 1 (List.map Y7 Mr)),(11,iA (((Mr.length:Nat):Int))),(12,iA s1)]) (fun(s1,s2) a4=>[Ob.var 42 [iA Aj.B1,iA Aj.Bk,sA Aj.Ae,sA Aj.C2,iA Aj.B0],Ob.row 42 5 (List.map A1 s2)]) (fun x16 a15=>B4 21 [(5,AV.row 1 (List.length x16))]) (fun x16 a15=>[Ob.var 42 [iA Aj.B1,iA Aj.Bk,sA Aj.Ae,sA Aj.C2,iA Aj.B0],Ob.row 42 5 (List.map A1 x16)]) (fun v=>(AV.sl 5 (List.map A1 v),[])) (fun k s=>Qh n Mr k s.1 s.2) (fun s=>rfl) o10 n (0,([Aj]:List A0)) (fun _=>0) ho10 ?_ ?_
 intro k3 ss a4 K5 cont6 hK7 hcont8 h hr9
 obtain⟨s1,s2⟩:=ss
 replace h:Qh n Mr (k3+1) s1 s2=some o10:=h
 rw[Qh] at h
 conv=>lhs;whnf
 revert h
 refine br ?_ ?_
 refine ix ?_;intro x12
 refine ar (ap A1 (List.map A1 s2) s2 (List.map A1 x12) x12) ?_
 exact fun h=>cq (hcont8 (IntKind.i64.wrap (s1+1),(s2++x12)) (fun _=>0) h)
 intro h;cases sj h
 exact kq (hr9 (fun _=>0))
 refine lrc ?_ ?_
 intro v e;subst e;cases sj h;rfl
 intro x16 a15 e;subst e
 dsimp only at h
 conv=>lhs;whnf
 revert h
 intro h;obtain rfl:=sj h
 try simp only[ls]
 exact fq (y:=some (AV.sl 5 (List.take (List.length x16) (List.map A1 x16)),[]))
theorem Do {n:Nat} ⦃M9:(List UInt8)⦄ ⦃p_l:(List A6)⦄ ⦃p_i:Int⦄ ⦃p_in:Int⦄ ⦃p_e:Int⦄ ⦃p_at:Int⦄ ⦃r:Bool⦄:Da n M9 p_l p_i p_in p_e p_at=some r→CN n 127 [AV.ptr 0 0,sA M9] [Ob.var 121 [AV.sl 4 (List.map A5 p_l),iA p_i,iA p_in,iA p_e,iA p_at]]=some (bA r,[Ob.var 121 [AV.sl 4 (List.map A5 p_l),iA p_i,iA p_in,iA p_e,iA p_at]]):=by
 intro h;rcases n with _|n;cases h
 rw[Da] at h
 refine An Tryz.func127 (by rfl) rfl rfl (As rfl) ?_
 intro call hc;conv=>lhs;whnf
 revert h
 refine br ?_ ?_
 refine ix ?_;intro x2
 refine br ?_ ?_
 refine ix ?_;intro x4
 exact rz
 exact rz
 exact rz
theorem Fe {n:Nat} ⦃W2:Int⦄ ⦃p_l:(List A6)⦄ ⦃p_i:Int⦄ ⦃p_in:Int⦄ ⦃p_e:Int⦄ ⦃p_at:Int⦄ ⦃r:((List A0)×Int×Int)⦄:Dx n W2 p_l p_i p_in p_e p_at=some r→CN n 141 [AV.ptr 0 0,iA W2] [Ob.var 121 [AV.sl 4 (List.map A5 p_l),iA p_i,iA p_in,iA p_e,iA p_at]]=some (AV.sl 5 (List.map A1 r.1),[Ob.var 121 [AV.sl 4 (List.map A5 p_l),iA p_i,iA p_in,iA r.2.1,iA r.2.2]]):=by
 intro h;rcases n with _|n;cases h
 rw[Dx] at h
 refine An Tryz.func141 (by rfl) rfl rfl (As rfl) ?_
 intro call hc;conv=>lhs;whnf
 revert h
 refine br ?_ ?_
 exact rz
 refine br ?_ ?_
 refine ix ?_;intro x3
 exact rz
 refine br ?_ ?_
 refine br ?_ ?_
 refine ix ?_;intro x6
 refine ix ?_;intro x7
 exact rz
 exact rz
 refine br ?_ ?_
 refine ix ?_;intro x9
 refine ix ?_;intro x10
 exact rz
 exact rz
theorem M3 {n:Nat} ⦃p_l:(List A6)⦄ ⦃p_i:Int⦄ ⦃p_in:Int⦄ ⦃p_e:Int⦄ ⦃p_at:Int⦄ ⦃r:((List UInt8)×Int×Bool×Int)⦄:Ig n p_l p_i p_in p_e p_at=some r→CN n 142 [AV.ptr 0 0] [Ob.var 121 [AV.sl 4 (List.map A5 p_l),iA p_i,iA p_in,iA p_e,iA p_at]]=some (AV.tup [sA r.1,iA r.2.1,bA r.2.2.1],[Ob.var 121 [AV.sl 4 (List.map A5 p_l),iA r.2.2.2,iA p_in,iA p_e,iA p_at]]):=by
 intro h;rcases n with _|n;cases h
 rw[Ig] at h
 refine An Tryz.func142 (by rfl) rfl rfl (As rfl) ?_
 intro call hc;conv=>lhs;whnf
 revert h
 refine br ?_ ?_
 exact rz
 refine ix ?_;intro x2
 refine br ?_ ?_
 exact rz
 refine ix ?_;intro x4
 refine ca hc (fun _ h=>Fz h) ?_;intro y5
 refine br ?_ ?_
 refine ix ?_;intro x8
 exact rz
 exact rz
theorem Ln {n:Nat} ⦃Cq:Int⦄ ⦃r:(List UInt8)⦄:Hu n Cq=some r→CN n 100 [iA Cq] []=some (sA r,[]):=by
 intro h;rcases n with _|n;cases h
 rw[Hu] at h
 refine An Tryz.func100 (by rfl) rfl rfl (As rfl) ?_
 intro call hc;conv=>lhs;whnf
 revert h
 refine br ?_ ?_
 exact rz
 refine br ?_ ?_
 exact rz
 refine br ?_ ?_
 exact rz
 refine br ?_ ?_
 exact rz
 refine br ?_ ?_
 exact rz
 refine br ?_ ?_
 exact rz
 refine br ?_ ?_
 exact rz
 refine br ?_ ?_
 exact rz
 refine br ?_ ?_
 exact rz
 refine br ?_ ?_
 exact rz
 refine br ?_ ?_
 exact rz
 refine br ?_ ?_
 exact rz
 refine br ?_ ?_
 exact rz
 refine br ?_ ?_
 exact rz
 refine bt ?_
 exact rz
def My (n:Nat):Prop:=∀ ⦃p_l:(List A6)⦄ ⦃p_i:Int⦄ ⦃p_in:Int⦄ ⦃p_e:Int⦄ ⦃p_at:Int⦄ ⦃r:((List A0)×Int×Int×Int×Int)⦄,Nl n p_l p_i p_in p_e p_at=some r→CN n 109 [AV.ptr 0 0] [Ob.var 121 [AV.sl 4 (List.map A5 p_l),iA p_i,iA p_in,iA p_e,iA p_at]]=some (AV.sl 5 (List.map A1 r.1),[Ob.var 121 [AV.sl 4 (List.map A5 p_l),iA r.2.1,iA r.2.2.1,iA r.2.2.2.1,iA r.2.2.2.2]])
def Pp (n:Nat):Prop:=∀ ⦃p_l:(List A6)⦄ ⦃p_i:Int⦄ ⦃p_in:Int⦄ ⦃p_e:Int⦄ ⦃p_at:Int⦄ ⦃r:((List A0)×Int×Int×Int×Int)⦄,Ii n p_l p_i p_in p_e p_at=some r→CN n 121 [AV.ptr 0 0] [Ob.var 121 [AV.sl 4 (List.map A5 p_l),iA p_i,iA p_in,iA p_e,iA p_at]]=some (AV.sl 5 (List.map A1 r.1),[Ob.var 121 [AV.sl 4 (List.map A5 p_l),iA r.2.1,iA r.2.2.1,iA r.2.2.2.1,iA r.2.2.2.2]])
def M7 (n:Nat):Prop:=∀ ⦃p_l:(List A6)⦄ ⦃p_i:Int⦄ ⦃p_in:Int⦄ ⦃p_e:Int⦄ ⦃p_at:Int⦄ ⦃r:((List A0)×Int×Int×Int×Int)⦄,F4 n p_l p_i p_in p_e p_at=some r→CN n 129 [AV.ptr 0 0] [Ob.var 121 [AV.sl 4 (List.map A5 p_l),iA p_i,iA p_in,iA p_e,iA p_at]]=some (AV.sl 5 (List.map A1 r.1),[Ob.var 121 [AV.sl 4 (List.map A5 p_l),iA r.2.1,iA r.2.2.1,iA r.2.2.2.1,iA r.2.2.2.2]])
def Or (n:Nat):Prop:=∀ ⦃p_l:(List A6)⦄ ⦃p_i:Int⦄ ⦃p_in:Int⦄ ⦃p_e:Int⦄ ⦃p_at:Int⦄ ⦃r:((List A0)×Int×Int×Int×Int)⦄,Pn n p_l p_i p_in p_e p_at=some r→CN n 140 [AV.ptr 0 0,AV.func 139 [] []] [Ob.var 121 [AV.sl 4 (List.map A5 p_l),iA p_i,iA p_in,iA p_e,iA p_at]]=some (AV.sl 5 (List.map A1 r.1),[Ob.var 121 [AV.sl 4 (List.map A5 p_l),iA r.2.1,iA r.2.2.1,iA r.2.2.2.1,iA r.2.2.2.2]])
def Ni (n:Nat):Prop:=∀ ⦃p_l:(List A6)⦄ ⦃p_i:Int⦄ ⦃p_in:Int⦄ ⦃p_e:Int⦄ ⦃p_at:Int⦄ ⦃r:((List A0)×Int×Int×Int×Int)⦄,O6 n p_l p_i p_in p_e p_at=some r→CN n 140 [AV.ptr 0 0,AV.func 109 [] []] [Ob.var 121 [AV.sl 4 (List.map A5 p_l),iA p_i,iA p_in,iA p_e,iA p_at]]=some (AV.sl 5 (List.map A1 r.1),[Ob.var 121 [AV.sl 4 (List.map A5 p_l),iA r.2.1,iA r.2.2.1,iA r.2.2.2.1,iA r.2.2.2.2]])
def Nb (n:Nat):Prop:=∀ ⦃p_l:(List A6)⦄ ⦃p_i:Int⦄ ⦃p_in:Int⦄ ⦃p_e:Int⦄ ⦃p_at:Int⦄ ⦃r:((List A0)×Int×Int×Int×Int)⦄,Fn n p_l p_i p_in p_e p_at=some r→CN n 138 [AV.ptr 0 0] [Ob.var 121 [AV.sl 4 (List.map A5 p_l),iA p_i,iA p_in,iA p_e,iA p_at]]=some (AV.sl 5 (List.map A1 r.1),[Ob.var 121 [AV.sl 4 (List.map A5 p_l),iA r.2.1,iA r.2.2.1,iA r.2.2.2.1,iA r.2.2.2.2]])
def Qo (n:Nat):Prop:=∀ ⦃Cr:Bool⦄ ⦃B5:(List Int)⦄ ⦃p_l:(List A6)⦄ ⦃p_i:Int⦄ ⦃p_in:Int⦄ ⦃p_e:Int⦄ ⦃p_at:Int⦄ ⦃r:((List A0)×Int×Int×Int×Int)⦄,Rh n Cr B5 p_l p_i p_in p_e p_at=some r→CN n 120 [AV.ptr 0 0,AV.func 121 [] [],bA Cr,AV.sl 1 (List.map Cz B5)] [Ob.var 121 [AV.sl 4 (List.map A5 p_l),iA p_i,iA p_in,iA p_e,iA p_at]]=some (AV.sl 5 (List.map A1 r.1),[Ob.var 121 [AV.sl 4 (List.map A5 p_l),iA r.2.1,iA r.2.2.1,iA r.2.2.2.1,iA r.2.2.2.2]])
def Oj (n:Nat):Prop:=∀ ⦃Cr:Bool⦄ ⦃B5:(List Int)⦄ ⦃p_l:(List A6)⦄ ⦃p_i:Int⦄ ⦃p_in:Int⦄ ⦃p_e:Int⦄ ⦃p_at:Int⦄ ⦃r:((List A0)×Int×Int×Int×Int)⦄,Pt n Cr B5 p_l p_i p_in p_e p_at=some r→CN n 120 [AV.ptr 0 0,AV.func 129 [] [],bA Cr,AV.sl 1 (List.map Cz B5)] [Ob.var 121 [AV.sl 4 (List.map A5 p_l),iA p_i,iA p_in,iA p_e,iA p_at]]=some (AV.sl 5 (List.map A1 r.1),[Ob.var 121 [AV.sl 4 (List.map A5 p_l),iA r.2.1,iA r.2.2.1,iA r.2.2.2.1,iA r.2.2.2.2]])
def Oi (n:Nat):Prop:=∀ ⦃Cr:Bool⦄ ⦃B5:(List Int)⦄ ⦃p_l:(List A6)⦄ ⦃p_i:Int⦄ ⦃p_in:Int⦄ ⦃p_e:Int⦄ ⦃p_at:Int⦄ ⦃r:((List A0)×Int×Int×Int×Int)⦄,Pr n Cr B5 p_l p_i p_in p_e p_at=some r→CN n 120 [AV.ptr 0 0,AV.func 137 [] [],bA Cr,AV.sl 1 (List.map Cz B5)] [Ob.var 121 [AV.sl 4 (List.map A5 p_l),iA p_i,iA p_in,iA p_e,iA p_at]]=some (AV.sl 5 (List.map A1 r.1),[Ob.var 121 [AV.sl 4 (List.map A5 p_l),iA r.2.1,iA r.2.2.1,iA r.2.2.2.1,iA r.2.2.2.2]])
def Om (n:Nat):Prop:=∀ ⦃Cr:Bool⦄ ⦃B5:(List Int)⦄ ⦃p_l:(List A6)⦄ ⦃p_i:Int⦄ ⦃p_in:Int⦄ ⦃p_e:Int⦄ ⦃p_at:Int⦄ ⦃r:((List A0)×Int×Int×Int×Int)⦄,Po n Cr B5 p_l p_i p_in p_e p_at=some r→CN n 120 [AV.ptr 0 0,AV.func 138 [] [],bA Cr,AV.sl 1 (List.map Cz B5)] [Ob.var 121 [AV.sl 4 (List.map A5 p_l),iA p_i,iA p_in,iA p_e,iA p_at]]=some (AV.sl 5 (List.map A1 r.1),[Ob.var 121 [AV.sl 4 (List.map A5 p_l),iA r.2.1,iA r.2.2.1,iA r.2.2.2.1,iA r.2.2.2.2]])
def Ok (n:Nat):Prop:=∀ ⦃Cr:Bool⦄ ⦃B5:(List Int)⦄ ⦃p_l:(List A6)⦄ ⦃p_i:Int⦄ ⦃p_in:Int⦄ ⦃p_e:Int⦄ ⦃p_at:Int⦄ ⦃r:((List A0)×Int×Int×Int×Int)⦄,Pm n Cr B5 p_l p_i p_in p_e p_at=some r→CN n 120 [AV.ptr 0 0,AV.func 139 [] [],bA Cr,AV.sl 1 (List.map Cz B5)] [Ob.var 121 [AV.sl 4 (List.map A5 p_l),iA p_i,iA p_in,iA p_e,iA p_at]]=some (AV.sl 5 (List.map A1 r.1),[Ob.var 121 [AV.sl 4 (List.map A5 p_l),iA r.2.1,iA r.2.2.1,iA r.2.2.2.1,iA r.2.2.2.2]])
def No (n:Nat):Prop:=∀ ⦃p_l:(List A6)⦄ ⦃p_i:Int⦄ ⦃p_in:Int⦄ ⦃p_e:Int⦄ ⦃p_at:Int⦄ ⦃r:((List A0)×Int×Int×Int×Int)⦄,El n p_l p_i p_in p_e p_at=some r→CN n 139 [AV.ptr 0 0] [Ob.var 121 [AV.sl 4 (List.map A5 p_l),iA p_i,iA p_in,iA p_e,iA p_at]]=some (AV.sl 5 (List.map A1 r.1),[Ob.var 121 [AV.sl 4 (List.map A5 p_l),iA r.2.1,iA r.2.2.1,iA r.2.2.2.1,iA r.2.2.2.2]])
def Qd (n:Nat):Prop:=∀ ⦃p_l:(List A6)⦄ ⦃p_i:Int⦄ ⦃p_in:Int⦄ ⦃p_e:Int⦄ ⦃p_at:Int⦄ ⦃r:((List A0)×Int×Int×Int×Int)⦄,Jf n p_l p_i p_in p_e p_at=some r→CN n 137 [AV.ptr 0 0] [Ob.var 121 [AV.sl 4 (List.map A5 p_l),iA p_i,iA p_in,iA p_e,iA p_at]]=some (AV.sl 5 (List.map A1 r.1),[Ob.var 121 [AV.sl 4 (List.map A5 p_l),iA r.2.1,iA r.2.2.1,iA r.2.2.2.1,iA r.2.2.2.2]])
def Cf (n:Nat):Prop:=My n∧Pp n∧M7 n∧Or n∧Ni n∧Nb n∧Qo n∧Oj n∧Oi n∧Om n∧Ok n∧No n∧Qd n
theorem A2n (n:Nat) (ih:Cf n):My (n+1):=by
 intro p_l p_i p_in p_e p_at r h
 rw[Nl] at h
 refine An Tryz.func109 (by rfl) rfl rfl (As rfl) ?_
 intro call hc;conv=>lhs;whnf
 revert h
 refine cr hc (fun y1 h=>(show CN n 120 [AV.ptr 0 0,AV.func 121 [] [],bA false,AV.sl 1 [[iA (14)]]] [Ob.var 121 [AV.sl 4 (List.map A5 p_l),iA p_i,iA p_in,iA p_e,iA p_at]]=some (AV.sl 5 (List.map A1 y1.1),[Ob.var 121 [AV.sl 4 (List.map A5 p_l),iA y1.2.1,iA y1.2.2.1,iA y1.2.2.2.1,iA y1.2.2.2.2]]) from ih.2.2.2.2.2.2.1 (r:=y1) h)) ?_;intro y1
 exact rz
theorem A20 (n:Nat) (ih:Cf n):Pp (n+1):=by
 intro p_l p_i p_in p_e p_at r h
 rw[Ii] at h
 refine An Tryz.func121 (by rfl) rfl rfl (As rfl) ?_
 intro call hc;conv=>lhs;whnf
 revert h
 refine cr hc (fun y1 h=>(show CN n 120 [AV.ptr 0 0,AV.func 129 [] [],bA false,AV.sl 1 [[iA (13)]]] [Ob.var 121 [AV.sl 4 (List.map A5 p_l),iA p_i,iA p_in,iA p_e,iA p_at]]=some (AV.sl 5 (List.map A1 y1.1),[Ob.var 121 [AV.sl 4 (List.map A5 p_l),iA y1.2.1,iA y1.2.2.1,iA y1.2.2.2.1,iA y1.2.2.2.2]]) from ih.2.2.2.2.2.2.2.1 (r:=y1) h)) ?_;intro y1
 exact rz
theorem Y0 (n:Nat) (ih:Cf n):M7 (n+1):=by
 intro p_l p_i p_in p_e p_at r h
 rw[F4] at h
 refine An Tryz.func129 (by rfl) rfl rfl (As rfl) ?_
 intro call hc;conv=>lhs;whnf
 revert h
 refine cr hc (fun y1 h=>(show CN n 120 [AV.ptr 0 0,AV.func 137 [] [],bA true,AV.sl 1 [[iA (9)],[iA (10)],[iA (11)],[iA (12)]]] [Ob.var 121 [AV.sl 4 (List.map A5 p_l),iA p_i,iA p_in,iA p_e,iA p_at]]=some (AV.sl 5 (List.map A1 y1.1),[Ob.var 121 [AV.sl 4 (List.map A5 p_l),iA y1.2.1,iA y1.2.2.1,iA y1.2.2.2.1,iA y1.2.2.2.2]]) from ih.2.2.2.2.2.2.2.2.1 (r:=y1) h)) ?_;intro y1
 exact rz
theorem A0f (n:Nat) (ih:Cf n):Or (n+1):=by
 intro p_l p_i p_in p_e p_at r h
 rw[Pn] at h
 refine An Tryz.func140 (by rfl) rfl rfl (As rfl) ?_
 intro call hc;conv=>lhs;whnf
 revert h
 refine br ?_ ?_
 refine ca hc (fun _ h=>Fe h) ?_;intro y2
 exact rz
 refine ca hc (fun _ h=>ih.2.2.2.2.2.2.2.2.2.2.2.1 h) ?_;intro y4
 exact rz
theorem Yo (n:Nat) (ih:Cf n):Ni (n+1):=by
 intro p_l p_i p_in p_e p_at r h
 rw[O6] at h
 refine An Tryz.func140 (by rfl) rfl rfl (As rfl) ?_
 intro call hc;conv=>lhs;whnf
 revert h
 refine br ?_ ?_
 refine ca hc (fun _ h=>Fe h) ?_;intro y2
 exact rz
 refine ca hc (fun _ h=>ih.1 h) ?_;intro y4
 exact rz
theorem Z7 (n:Nat) (ih:Cf n):Nb (n+1):=by
 intro p_l p_i p_in p_e p_at r h
 rw[Fn] at h
 refine An Tryz.func138 (by rfl) rfl rfl (As rfl) ?_
 intro call hc;conv=>lhs;whnf
 revert h
 refine cr hc (fun y1 h=>(show CN n 120 [AV.ptr 0 0,AV.func 139 [] [],bA false,AV.sl 1 [[iA (8)]]] [Ob.var 121 [AV.sl 4 (List.map A5 p_l),iA p_i,iA p_in,iA p_e,iA p_at]]=some (AV.sl 5 (List.map A1 y1.1),[Ob.var 121 [AV.sl 4 (List.map A5 p_l),iA y1.2.1,iA y1.2.2.1,iA y1.2.2.2.1,iA y1.2.2.2.2]]) from ih.2.2.2.2.2.2.2.2.2.2.1 (r:=y1) h)) ?_;intro y1
 exact rz
theorem A2c (n:Nat) (ih:Cf n):Qo (n+1):=by
 intro Cr B5 p_l p_i p_in p_e p_at r h
 rw[Rh] at h
 refine An Tryz.func120 (by rfl) rfl rfl (As rfl) ?_
 intro call hc;conv=>lhs;whnf
 revert h
 refine ca hc (fun _ h=>ih.2.1 h) ?_;intro y1
 intro h;refine Av h ?_;clear h;intro o16 ho16 h
 refine lq (σ:=(Bool×(List A0)×Int×Int×Int×Int)) (τ:=((List A0)×Int×Int×Int×Int)) (ν:=((List A0)×Int×Int×Int×Int)) 0 (fun(s3,s4,s5,s6,s7,s8) a10=>B4 67 [(0,AV.ptr 0 0),(1,AV.func 121 [] []),(2,bA s3),(3,AV.sl 1 (List.map Cz B5)),(9,AV.sl 5 (List.map A1 s4))]) (fun(s3,s4,s5,s6,s7,s8) a10=>[Ob.var 121 [AV.sl 4 (List.map A5 p_l),iA s5,iA s6,iA s7,iA s8]]) (fun(x46,x47,x48,x49,x50) a45=>B4 67 [(9,AV.sl 5 (List.map A1 x46))]) (fun(x46,x47,x48,x49,x50) a45=>[Ob.var 121 [AV.sl 4 (List.map A5 p_l),iA x47,iA x48,iA x49,iA x50]]) (fun v=>(AV.sl 5 (List.map A1 v.1),[Ob.var 121 [AV.sl 4 (List.map A5 p_l),iA v.2.1,iA v.2.2.1,iA v.2.2.2.1,iA v.2.2.2.2]])) (fun k s=>Kl n (Ii n) B5 p_l k s.1 s.2.1 s.2.2.1 s.2.2.2.1 s.2.2.2.2.1 s.2.2.2.2.2) (fun s=>rfl) o16 n (Cr,y1.1,y1.2.1,y1.2.2.1,y1.2.2.2.1,y1.2.2.2.2) (fun _=>0) ho16 ?_ ?_
 intro k9 ss a10 K11 cont12 hK13 hcont14 h hr15
 obtain⟨s3,s4,s5,s6,s7,s8⟩:=ss
 replace h:Kl n (Ii n) B5 p_l (k9+1) s3 s4 s5 s6 s7 s8=some o16:=h
 rw[Kl] at h
 conv=>lhs;whnf
 revert h
 refine br ?_ ?_
 intro h;refine Av h ?_;clear h;intro o27 ho27 h
 refine lq (σ:=(Int×Int)) (τ:=Int) (ν:=((List A0)×Int×Int×Int×Int)) 2 (fun(s18,s19) a21=>B4 67 [(0,AV.ptr 0 0),(1,AV.func 121 [] []),(2,bA s3),(3,AV.sl 1 (List.map Cz B5)),(9,AV.sl 5 (List.map A1 s4)),(10,iA s18),(23,AV.sl 1 (List.map Cz B5)),(24,iA (((B5.length:Nat):Int))),(25,iA s19)]) (fun(s18,s19) a21=>[Ob.var 121 [AV.sl 4 (List.map A5 p_l),iA s5,iA s6,iA s7,iA s8]]) (fun x36 a35=>B4 67 [(0,AV.ptr 0 0),(1,AV.func 121 [] []),(2,bA s3),(3,AV.sl 1 (List.map Cz B5)),(9,AV.sl 5 (List.map A1 s4)),(10,iA x36)]) (fun x36 a35=>[Ob.var 121 [AV.sl 4 (List.map A5 p_l),iA s5,iA s6,iA s7,iA s8]]) (fun v=>(AV.sl 5 (List.map A1 v.1),[Ob.var 121 [AV.sl 4 (List.map A5 p_l),iA v.2.1,iA v.2.2.1,iA v.2.2.2.1,iA v.2.2.2.2]])) (fun k s=>Il n B5 p_l s5 s6 s7 s8 k s.1 s.2) (fun s=>rfl) o27 n (0,0) (fun _=>0) ho27 ?_ ?_
 intro k20 ss a21 K22 cont23 hK24 hcont25 h hr26
 obtain⟨s18,s19⟩:=ss
 replace h:Il n B5 p_l s5 s6 s7 s8 (k20+1) s18 s19=some o27:=h
 rw[Il] at h
 conv=>lhs;whnf
 revert h
 refine br ?_ ?_
 refine ix ?_;intro x29
 refine ca hc (fun _ h=>Ln h) ?_;intro y30
 refine ca hc (fun _ h=>Do h) ?_;intro y32
 refine br ?_ ?_
 exact fun h=>cq (hcont25 (x29,IntKind.i64.wrap (s19+1)) (fun _=>0) h)
 exact fun h=>cq (hcont25 (s18,IntKind.i64.wrap (s19+1)) (fun _=>0) h)
 intro h;cases sj h
 exact kq (hr26 (fun _=>0))
 refine lrc ?_ ?_
 intro v e;subst e;cases sj h;exact hr15
 intro x36 a35 e;subst e
 dsimp only at h
 conv=>lhs;whnf
 revert h
 refine br ?_ ?_
 intro h;cases sj h
 exact kq (hr15 (fun _=>0))
 refine ix ?_;intro x38
 refine ca hc (fun _ h=>ih.2.1 h) ?_;intro y39
 refine cr hc (fun y41 h=>(show CN n 128 [AV.agg [iA x36,iA (0),sA (([]:List UInt8)),sA (([]:List UInt8)),iA x38.B0],AV.sl 1 [[AV.sl 5 (List.map A1 s4)],[AV.sl 5 (List.map A1 y39.1)]]] []=some (AV.sl 5 (List.map A1 y41),[]) from G1 (r:=y41) h)) ?_;intro y41
 refine br ?_ ?_
 intro h;cases sj h
 exact kq (hr15 (fun _=>0))
 exact fun h=>cq (hcont14 (false,y41,y39.2.1,y39.2.2.1,y39.2.2.2.1,y39.2.2.2.2) (fun _=>0) h)
 intro h;cases sj h
 exact kq (hr15 (fun _=>0))
 refine lrc ?_ ?_
 intro v e;subst e;cases sj h;rfl
 intro t a45 e;subst e
 obtain⟨x46,x47,x48,x49,x50⟩:=t
 dsimp only at h
 conv=>lhs;whnf
 revert h
 exact rz
theorem A0u (n:Nat) (ih:Cf n):Oj (n+1):=by
 intro Cr B5 p_l p_i p_in p_e p_at r h
 rw[Pt] at h
 refine An Tryz.func120 (by rfl) rfl rfl (As rfl) ?_
 intro call hc;conv=>lhs;whnf
 revert h
 refine ca hc (fun _ h=>ih.2.2.1 h) ?_;intro y1
 intro h;refine Av h ?_;clear h;intro o16 ho16 h
 refine lq (σ:=(Bool×(List A0)×Int×Int×Int×Int)) (τ:=((List A0)×Int×Int×Int×Int)) (ν:=((List A0)×Int×Int×Int×Int)) 0 (fun(s3,s4,s5,s6,s7,s8) a10=>B4 67 [(0,AV.ptr 0 0),(1,AV.func 129 [] []),(2,bA s3),(3,AV.sl 1 (List.map Cz B5)),(9,AV.sl 5 (List.map A1 s4))]) (fun(s3,s4,s5,s6,s7,s8) a10=>[Ob.var 121 [AV.sl 4 (List.map A5 p_l),iA s5,iA s6,iA s7,iA s8]]) (fun(x46,x47,x48,x49,x50) a45=>B4 67 [(9,AV.sl 5 (List.map A1 x46))]) (fun(x46,x47,x48,x49,x50) a45=>[Ob.var 121 [AV.sl 4 (List.map A5 p_l),iA x47,iA x48,iA x49,iA x50]]) (fun v=>(AV.sl 5 (List.map A1 v.1),[Ob.var 121 [AV.sl 4 (List.map A5 p_l),iA v.2.1,iA v.2.2.1,iA v.2.2.2.1,iA v.2.2.2.2]])) (fun k s=>J0 n (F4 n) B5 p_l k s.1 s.2.1 s.2.2.1 s.2.2.2.1 s.2.2.2.2.1 s.2.2.2.2.2) (fun s=>rfl) o16 n (Cr,y1.1,y1.2.1,y1.2.2.1,y1.2.2.2.1,y1.2.2.2.2) (fun _=>0) ho16 ?_ ?_
 intro k9 ss a10 K11 cont12 hK13 hcont14 h hr15
 obtain⟨s3,s4,s5,s6,s7,s8⟩:=ss
 replace h:J0 n (F4 n) B5 p_l (k9+1) s3 s4 s5 s6 s7 s8=some o16:=h
 rw[J0] at h
 conv=>lhs;whnf
 revert h
 refine br ?_ ?_
 intro h;refine Av h ?_;clear h;intro o27 ho27 h
 refine lq (σ:=(Int×Int)) (τ:=Int) (ν:=((List A0)×Int×Int×Int×Int)) 2 (fun(s18,s19) a21=>B4 67 [(0,AV.ptr 0 0),(1,AV.func 129 [] []),(2,bA s3),(3,AV.sl 1 (List.map Cz B5)),(9,AV.sl 5 (List.map A1 s4)),(10,iA s18),(23,AV.sl 1 (List.map Cz B5)),(24,iA (((B5.length:Nat):Int))),(25,iA s19)]) (fun(s18,s19) a21=>[Ob.var 121 [AV.sl 4 (List.map A5 p_l),iA s5,iA s6,iA s7,iA s8]]) (fun x36 a35=>B4 67 [(0,AV.ptr 0 0),(1,AV.func 129 [] []),(2,bA s3),(3,AV.sl 1 (List.map Cz B5)),(9,AV.sl 5 (List.map A1 s4)),(10,iA x36)]) (fun x36 a35=>[Ob.var 121 [AV.sl 4 (List.map A5 p_l),iA s5,iA s6,iA s7,iA s8]]) (fun v=>(AV.sl 5 (List.map A1 v.1),[Ob.var 121 [AV.sl 4 (List.map A5 p_l),iA v.2.1,iA v.2.2.1,iA v.2.2.2.1,iA v.2.2.2.2]])) (fun k s=>Gs n B5 p_l s5 s6 s7 s8 k s.1 s.2) (fun s=>rfl) o27 n (0,0) (fun _=>0) ho27 ?_ ?_
 intro k20 ss a21 K22 cont23 hK24 hcont25 h hr26
 obtain⟨s18,s19⟩:=ss
 replace h:Gs n B5 p_l s5 s6 s7 s8 (k20+1) s18 s19=some o27:=h
 rw[Gs] at h
 conv=>lhs;whnf
 revert h
 refine br ?_ ?_
 refine ix ?_;intro x29
 refine ca hc (fun _ h=>Ln h) ?_;intro y30
 refine ca hc (fun _ h=>Do h) ?_;intro y32
 refine br ?_ ?_
 exact fun h=>cq (hcont25 (x29,IntKind.i64.wrap (s19+1)) (fun _=>0) h)
 exact fun h=>cq (hcont25 (s18,IntKind.i64.wrap (s19+1)) (fun _=>0) h)
 intro h;cases sj h
 exact kq (hr26 (fun _=>0))
 refine lrc ?_ ?_
 intro v e;subst e;cases sj h;exact hr15
 intro x36 a35 e;subst e
 dsimp only at h
 conv=>lhs;whnf
 revert h
 refine br ?_ ?_
 intro h;cases sj h
 exact kq (hr15 (fun _=>0))
 refine ix ?_;intro x38
 refine ca hc (fun _ h=>ih.2.2.1 h) ?_;intro y39
 refine cr hc (fun y41 h=>(show CN n 128 [AV.agg [iA x36,iA (0),sA (([]:List UInt8)),sA (([]:List UInt8)),iA x38.B0],AV.sl 1 [[AV.sl 5 (List.map A1 s4)],[AV.sl 5 (List.map A1 y39.1)]]] []=some (AV.sl 5 (List.map A1 y41),[]) from G1 (r:=y41) h)) ?_;intro y41
 refine br ?_ ?_
 intro h;cases sj h
 exact kq (hr15 (fun _=>0))
 exact fun h=>cq (hcont14 (false,y41,y39.2.1,y39.2.2.1,y39.2.2.2.1,y39.2.2.2.2) (fun _=>0) h)
 intro h;cases sj h
 exact kq (hr15 (fun _=>0))
 refine lrc ?_ ?_
 intro v e;subst e;cases sj h;rfl
 intro t a45 e;subst e
 obtain⟨x46,x47,x48,x49,x50⟩:=t
 dsimp only at h
 conv=>lhs;whnf
 revert h
 exact rz
theorem A1b (n:Nat) (ih:Cf n):Oi (n+1):=by
 intro Cr B5 p_l p_i p_in p_e p_at r h
 rw[Pr] at h
 refine An Tryz.func120 (by rfl) rfl rfl (As rfl) ?_
 intro call hc;conv=>lhs;whnf
 revert h
 refine ca hc (fun _ h=>ih.2.2.2.2.2.2.2.2.2.2.2.2 h) ?_;intro y1
 intro h;refine Av h ?_;clear h;intro o16 ho16 h
 refine lq (σ:=(Bool×(List A0)×Int×Int×Int×Int)) (τ:=((List A0)×Int×Int×Int×Int)) (ν:=((List A0)×Int×Int×Int×Int)) 0 (fun(s3,s4,s5,s6,s7,s8) a10=>B4 67 [(0,AV.ptr 0 0),(1,AV.func 137 [] []),(2,bA s3),(3,AV.sl 1 (List.map Cz B5)),(9,AV.sl 5 (List.map A1 s4))]) (fun(s3,s4,s5,s6,s7,s8) a10=>[Ob.var 121 [AV.sl 4 (List.map A5 p_l),iA s5,iA s6,iA s7,iA s8]]) (fun(x46,x47,x48,x49,x50) a45=>B4 67 [(9,AV.sl 5 (List.map A1 x46))]) (fun(x46,x47,x48,x49,x50) a45=>[Ob.var 121 [AV.sl 4 (List.map A5 p_l),iA x47,iA x48,iA x49,iA x50]]) (fun v=>(AV.sl 5 (List.map A1 v.1),[Ob.var 121 [AV.sl 4 (List.map A5 p_l),iA v.2.1,iA v.2.2.1,iA v.2.2.2.1,iA v.2.2.2.2]])) (fun k s=>Iz n (Jf n) B5 p_l k s.1 s.2.1 s.2.2.1 s.2.2.2.1 s.2.2.2.2.1 s.2.2.2.2.2) (fun s=>rfl) o16 n (Cr,y1.1,y1.2.1,y1.2.2.1,y1.2.2.2.1,y1.2.2.2.2) (fun _=>0) ho16 ?_ ?_
 intro k9 ss a10 K11 cont12 hK13 hcont14 h hr15
 obtain⟨s3,s4,s5,s6,s7,s8⟩:=ss
 replace h:Iz n (Jf n) B5 p_l (k9+1) s3 s4 s5 s6 s7 s8=some o16:=h
 rw[Iz] at h
 conv=>lhs;whnf
 revert h
 refine br ?_ ?_
 intro h;refine Av h ?_;clear h;intro o27 ho27 h
 refine lq (σ:=(Int×Int)) (τ:=Int) (ν:=((List A0)×Int×Int×Int×Int)) 2 (fun(s18,s19) a21=>B4 67 [(0,AV.ptr 0 0),(1,AV.func 137 [] []),(2,bA s3),(3,AV.sl 1 (List.map Cz B5)),(9,AV.sl 5 (List.map A1 s4)),(10,iA s18),(23,AV.sl 1 (List.map Cz B5)),(24,iA (((B5.length:Nat):Int))),(25,iA s19)]) (fun(s18,s19) a21=>[Ob.var 121 [AV.sl 4 (List.map A5 p_l),iA s5,iA s6,iA s7,iA s8]]) (fun x36 a35=>B4 67 [(0,AV.ptr 0 0),(1,AV.func 137 [] []),(2,bA s3),(3,AV.sl 1 (List.map Cz B5)),(9,AV.sl 5 (List.map A1 s4)),(10,iA x36)]) (fun x36 a35=>[Ob.var 121 [AV.sl 4 (List.map A5 p_l),iA s5,iA s6,iA s7,iA s8]]) (fun v=>(AV.sl 5 (List.map A1 v.1),[Ob.var 121 [AV.sl 4 (List.map A5 p_l),iA v.2.1,iA v.2.2.1,iA v.2.2.2.1,iA v.2.2.2.2]])) (fun k s=>Gh n B5 p_l s5 s6 s7 s8 k s.1 s.2) (fun s=>rfl) o27 n (0,0) (fun _=>0) ho27 ?_ ?_
 intro k20 ss a21 K22 cont23 hK24 hcont25 h hr26
 obtain⟨s18,s19⟩:=ss
 replace h:Gh n B5 p_l s5 s6 s7 s8 (k20+1) s18 s19=some o27:=h
 rw[Gh] at h
 conv=>lhs;whnf
 revert h
 refine br ?_ ?_
 refine ix ?_;intro x29
 refine ca hc (fun _ h=>Ln h) ?_;intro y30
 refine ca hc (fun _ h=>Do h) ?_;intro y32
 refine br ?_ ?_
 exact fun h=>cq (hcont25 (x29,IntKind.i64.wrap (s19+1)) (fun _=>0) h)
 exact fun h=>cq (hcont25 (s18,IntKind.i64.wrap (s19+1)) (fun _=>0) h)
 intro h;cases sj h
 exact kq (hr26 (fun _=>0))
 refine lrc ?_ ?_
 intro v e;subst e;cases sj h;exact hr15
 intro x36 a35 e;subst e
 dsimp only at h
 conv=>lhs;whnf
 revert h
 refine br ?_ ?_
 intro h;cases sj h
 exact kq (hr15 (fun _=>0))
 refine ix ?_;intro x38
 refine ca hc (fun _ h=>ih.2.2.2.2.2.2.2.2.2.2.2.2 h) ?_;intro y39
 refine cr hc (fun y41 h=>(show CN n 128 [AV.agg [iA x36,iA (0),sA (([]:List UInt8)),sA (([]:List UInt8)),iA x38.B0],AV.sl 1 [[AV.sl 5 (List.map A1 s4)],[AV.sl 5 (List.map A1 y39.1)]]] []=some (AV.sl 5 (List.map A1 y41),[]) from G1 (r:=y41) h)) ?_;intro y41
 refine br ?_ ?_
 intro h;cases sj h
 exact kq (hr15 (fun _=>0))
 exact fun h=>cq (hcont14 (false,y41,y39.2.1,y39.2.2.1,y39.2.2.2.1,y39.2.2.2.2) (fun _=>0) h)
 intro h;cases sj h
 exact kq (hr15 (fun _=>0))
 refine lrc ?_ ?_
 intro v e;subst e;cases sj h;rfl
 intro t a45 e;subst e
 obtain⟨x46,x47,x48,x49,x50⟩:=t
 dsimp only at h
 conv=>lhs;whnf
 revert h
 exact rz
theorem A0p (n:Nat) (ih:Cf n):Om (n+1):=by
 intro Cr B5 p_l p_i p_in p_e p_at r h
 rw[Po] at h
 refine An Tryz.func120 (by rfl) rfl rfl (As rfl) ?_
 intro call hc;conv=>lhs;whnf
 revert h
 refine ca hc (fun _ h=>ih.2.2.2.2.2.1 h) ?_;intro y1
 intro h;refine Av h ?_;clear h;intro o16 ho16 h
 refine lq (σ:=(Bool×(List A0)×Int×Int×Int×Int)) (τ:=((List A0)×Int×Int×Int×Int)) (ν:=((List A0)×Int×Int×Int×Int)) 0 (fun(s3,s4,s5,s6,s7,s8) a10=>B4 67 [(0,AV.ptr 0 0),(1,AV.func 138 [] []),(2,bA s3),(3,AV.sl 1 (List.map Cz B5)),(9,AV.sl 5 (List.map A1 s4))]) (fun(s3,s4,s5,s6,s7,s8) a10=>[Ob.var 121 [AV.sl 4 (List.map A5 p_l),iA s5,iA s6,iA s7,iA s8]]) (fun(x46,x47,x48,x49,x50) a45=>B4 67 [(9,AV.sl 5 (List.map A1 x46))]) (fun(x46,x47,x48,x49,x50) a45=>[Ob.var 121 [AV.sl 4 (List.map A5 p_l),iA x47,iA x48,iA x49,iA x50]]) (fun v=>(AV.sl 5 (List.map A1 v.1),[Ob.var 121 [AV.sl 4 (List.map A5 p_l),iA v.2.1,iA v.2.2.1,iA v.2.2.2.1,iA v.2.2.2.2]])) (fun k s=>Iy n (Fn n) B5 p_l k s.1 s.2.1 s.2.2.1 s.2.2.2.1 s.2.2.2.2.1 s.2.2.2.2.2) (fun s=>rfl) o16 n (Cr,y1.1,y1.2.1,y1.2.2.1,y1.2.2.2.1,y1.2.2.2.2) (fun _=>0) ho16 ?_ ?_
 intro k9 ss a10 K11 cont12 hK13 hcont14 h hr15
 obtain⟨s3,s4,s5,s6,s7,s8⟩:=ss
 replace h:Iy n (Fn n) B5 p_l (k9+1) s3 s4 s5 s6 s7 s8=some o16:=h
 rw[Iy] at h
 conv=>lhs;whnf
 revert h
 refine br ?_ ?_
 intro h;refine Av h ?_;clear h;intro o27 ho27 h
 refine lq (σ:=(Int×Int)) (τ:=Int) (ν:=((List A0)×Int×Int×Int×Int)) 2 (fun(s18,s19) a21=>B4 67 [(0,AV.ptr 0 0),(1,AV.func 138 [] []),(2,bA s3),(3,AV.sl 1 (List.map Cz B5)),(9,AV.sl 5 (List.map A1 s4)),(10,iA s18),(23,AV.sl 1 (List.map Cz B5)),(24,iA (((B5.length:Nat):Int))),(25,iA s19)]) (fun(s18,s19) a21=>[Ob.var 121 [AV.sl 4 (List.map A5 p_l),iA s5,iA s6,iA s7,iA s8]]) (fun x36 a35=>B4 67 [(0,AV.ptr 0 0),(1,AV.func 138 [] []),(2,bA s3),(3,AV.sl 1 (List.map Cz B5)),(9,AV.sl 5 (List.map A1 s4)),(10,iA x36)]) (fun x36 a35=>[Ob.var 121 [AV.sl 4 (List.map A5 p_l),iA s5,iA s6,iA s7,iA s8]]) (fun v=>(AV.sl 5 (List.map A1 v.1),[Ob.var 121 [AV.sl 4 (List.map A5 p_l),iA v.2.1,iA v.2.2.1,iA v.2.2.2.1,iA v.2.2.2.2]])) (fun k s=>Gl n B5 p_l s5 s6 s7 s8 k s.1 s.2) (fun s=>rfl) o27 n (0,0) (fun _=>0) ho27 ?_ ?_
 intro k20 ss a21 K22 cont23 hK24 hcont25 h hr26
 obtain⟨s18,s19⟩:=ss
 replace h:Gl n B5 p_l s5 s6 s7 s8 (k20+1) s18 s19=some o27:=h
 rw[Gl] at h
 conv=>lhs;whnf
 revert h
 refine br ?_ ?_
 refine ix ?_;intro x29
 refine ca hc (fun _ h=>Ln h) ?_;intro y30
 refine ca hc (fun _ h=>Do h) ?_;intro y32
 refine br ?_ ?_
 exact fun h=>cq (hcont25 (x29,IntKind.i64.wrap (s19+1)) (fun _=>0) h)
 exact fun h=>cq (hcont25 (s18,IntKind.i64.wrap (s19+1)) (fun _=>0) h)
 intro h;cases sj h
 exact kq (hr26 (fun _=>0))
 refine lrc ?_ ?_
 intro v e;subst e;cases sj h;exact hr15
 intro x36 a35 e;subst e
 dsimp only at h
 conv=>lhs;whnf
 revert h
 refine br ?_ ?_
 intro h;cases sj h
 exact kq (hr15 (fun _=>0))
 refine ix ?_;intro x38
 refine ca hc (fun _ h=>ih.2.2.2.2.2.1 h) ?_;intro y39
 refine cr hc (fun y41 h=>(show CN n 128 [AV.agg [iA x36,iA (0),sA (([]:List UInt8)),sA (([]:List UInt8)),iA x38.B0],AV.sl 1 [[AV.sl 5 (List.map A1 s4)],[AV.sl 5 (List.map A1 y39.1)]]] []=some (AV.sl 5 (List.map A1 y41),[]) from G1 (r:=y41) h)) ?_;intro y41
 refine br ?_ ?_
 intro h;cases sj h
 exact kq (hr15 (fun _=>0))
 exact fun h=>cq (hcont14 (false,y41,y39.2.1,y39.2.2.1,y39.2.2.2.1,y39.2.2.2.2) (fun _=>0) h)
 intro h;cases sj h
 exact kq (hr15 (fun _=>0))
 refine lrc ?_ ?_
 intro v e;subst e;cases sj h;rfl
 intro t a45 e;subst e
 obtain⟨x46,x47,x48,x49,x50⟩:=t
 dsimp only at h
 conv=>lhs;whnf
 revert h
 exact rz
theorem A1h (n:Nat) (ih:Cf n):Ok (n+1):=by
 intro Cr B5 p_l p_i p_in p_e p_at r h
 rw[Pm] at h
 refine An Tryz.func120 (by rfl) rfl rfl (As rfl) ?_
 intro call hc;conv=>lhs;whnf
 revert h
 refine ca hc (fun _ h=>ih.2.2.2.2.2.2.2.2.2.2.2.1 h) ?_;intro y1
 intro h;refine Av h ?_;clear h;intro o16 ho16 h
 refine lq (σ:=(Bool×(List A0)×Int×Int×Int×Int)) (τ:=((List A0)×Int×Int×Int×Int)) (ν:=((List A0)×Int×Int×Int×Int)) 0 (fun(s3,s4,s5,s6,s7,s8) a10=>B4 67 [(0,AV.ptr 0 0),(1,AV.func 139 [] []),(2,bA s3),(3,AV.sl 1 (List.map Cz B5)),(9,AV.sl 5 (List.map A1 s4))]) (fun(s3,s4,s5,s6,s7,s8) a10=>[Ob.var 121 [AV.sl 4 (List.map A5 p_l),iA s5,iA s6,iA s7,iA s8]]) (fun(x46,x47,x48,x49,x50) a45=>B4 67 [(9,AV.sl 5 (List.map A1 x46))]) (fun(x46,x47,x48,x49,x50) a45=>[Ob.var 121 [AV.sl 4 (List.map A5 p_l),iA x47,iA x48,iA x49,iA x50]]) (fun v=>(AV.sl 5 (List.map A1 v.1),[Ob.var 121 [AV.sl 4 (List.map A5 p_l),iA v.2.1,iA v.2.2.1,iA v.2.2.2.1,iA v.2.2.2.2]])) (fun k s=>J9 n (El n) B5 p_l k s.1 s.2.1 s.2.2.1 s.2.2.2.1 s.2.2.2.2.1 s.2.2.2.2.2) (fun s=>rfl) o16 n (Cr,y1.1,y1.2.1,y1.2.2.1,y1.2.2.2.1,y1.2.2.2.2) (fun _=>0) ho16 ?_ ?_
 intro k9 ss a10 K11 cont12 hK13 hcont14 h hr15
 obtain⟨s3,s4,s5,s6,s7,s8⟩:=ss
 replace h:J9 n (El n) B5 p_l (k9+1) s3 s4 s5 s6 s7 s8=some o16:=h
 rw[J9] at h
 conv=>lhs;whnf
 revert h
 refine br ?_ ?_
 intro h;refine Av h ?_;clear h;intro o27 ho27 h
 refine lq (σ:=(Int×Int)) (τ:=Int) (ν:=((List A0)×Int×Int×Int×Int)) 2 (fun(s18,s19) a21=>B4 67 [(0,AV.ptr 0 0),(1,AV.func 139 [] []),(2,bA s3),(3,AV.sl 1 (List.map Cz B5)),(9,AV.sl 5 (List.map A1 s4)),(10,iA s18),(23,AV.sl 1 (List.map Cz B5)),(24,iA (((B5.length:Nat):Int))),(25,iA s19)]) (fun(s18,s19) a21=>[Ob.var 121 [AV.sl 4 (List.map A5 p_l),iA s5,iA s6,iA s7,iA s8]]) (fun x36 a35=>B4 67 [(0,AV.ptr 0 0),(1,AV.func 139 [] []),(2,bA s3),(3,AV.sl 1 (List.map Cz B5)),(9,AV.sl 5 (List.map A1 s4)),(10,iA x36)]) (fun x36 a35=>[Ob.var 121 [AV.sl 4 (List.map A5 p_l),iA s5,iA s6,iA s7,iA s8]]) (fun v=>(AV.sl 5 (List.map A1 v.1),[Ob.var 121 [AV.sl 4 (List.map A5 p_l),iA v.2.1,iA v.2.2.1,iA v.2.2.2.1,iA v.2.2.2.2]])) (fun k s=>Gf n B5 p_l s5 s6 s7 s8 k s.1 s.2) (fun s=>rfl) o27 n (0,0) (fun _=>0) ho27 ?_ ?_
 intro k20 ss a21 K22 cont23 hK24 hcont25 h hr26
 obtain⟨s18,s19⟩:=ss
 replace h:Gf n B5 p_l s5 s6 s7 s8 (k20+1) s18 s19=some o27:=h
 rw[Gf] at h
 conv=>lhs;whnf
 revert h
 refine br ?_ ?_
 refine ix ?_;intro x29
 refine ca hc (fun _ h=>Ln h) ?_;intro y30
 refine ca hc (fun _ h=>Do h) ?_;intro y32
 refine br ?_ ?_
 exact fun h=>cq (hcont25 (x29,IntKind.i64.wrap (s19+1)) (fun _=>0) h)
 exact fun h=>cq (hcont25 (s18,IntKind.i64.wrap (s19+1)) (fun _=>0) h)
 intro h;cases sj h
 exact kq (hr26 (fun _=>0))
 refine lrc ?_ ?_
 intro v e;subst e;cases sj h;exact hr15
 intro x36 a35 e;subst e
 dsimp only at h
 conv=>lhs;whnf
 revert h
 refine br ?_ ?_
 intro h;cases sj h
 exact kq (hr15 (fun _=>0))
 refine ix ?_;intro x38
 refine ca hc (fun _ h=>ih.2.2.2.2.2.2.2.2.2.2.2.1 h) ?_;intro y39
 refine cr hc (fun y41 h=>(show CN n 128 [AV.agg [iA x36,iA (0),sA (([]:List UInt8)),sA (([]:List UInt8)),iA x38.B0],AV.sl 1 [[AV.sl 5 (List.map A1 s4)],[AV.sl 5 (List.map A1 y39.1)]]] []=some (AV.sl 5 (List.map A1 y41),[]) from G1 (r:=y41) h)) ?_;intro y41
 refine br ?_ ?_
 intro h;cases sj h
 exact kq (hr15 (fun _=>0))
 exact fun h=>cq (hcont14 (false,y41,y39.2.1,y39.2.2.1,y39.2.2.2.1,y39.2.2.2.2) (fun _=>0) h)
 intro h;cases sj h
 exact kq (hr15 (fun _=>0))
 refine lrc ?_ ?_
 intro v e;subst e;cases sj h;rfl
 intro t a45 e;subst e
 obtain⟨x46,x47,x48,x49,x50⟩:=t
 dsimp only at h
 conv=>lhs;whnf
 revert h
 exact rz
theorem Zx (n:Nat) (ih:Cf n):No (n+1):=by
 intro p_l p_i p_in p_e p_at r h
 rw[El] at h
 refine An Tryz.func139 (by rfl) rfl rfl (As rfl) ?_
 intro call hc;conv=>lhs;whnf
 revert h
 refine br ?_ ?_
 exact rz
 refine ca hc (fun _ h=>Do h) ?_;intro y2
 refine br ?_ ?_
 refine ix ?_;intro x5
 refine ca hc (fun _ h=>ih.2.2.2.1 h) ?_;intro y6
 refine cr hc (fun y8 h=>(show CN n 128 [AV.agg [iA (5),iA (0),sA (([]:List UInt8)),sA (([]:List UInt8)),iA x5.B0],AV.sl 1 [[AV.sl 5 (List.map A1 y6.1)]]] []=some (AV.sl 5 (List.map A1 y8),[]) from G1 (r:=y8) h)) ?_;intro y8
 exact rz
 refine ca hc (fun _ h=>Do h) ?_;intro y10
 refine br ?_ ?_
 refine ca hc (fun _ h=>ih.2.2.2.2.1 h) ?_;intro y13
 refine br ?_ ?_
 refine ca hc (fun _ h=>Do h) ?_;intro y16
 refine br ?_ ?_
 exact rz
 refine ca hc (fun _ h=>Fe h) ?_;intro y19
 exact rz
 exact rz
 refine br ?_ ?_
 refine ix ?_;intro x22
 refine br ?_ ?_
 refine ix ?_;intro x24
 refine cr hc (fun y25 h=>(show CN n 128 [AV.agg [iA (1),iA x24.Bk,sA (([]:List UInt8)),sA (([]:List UInt8)),iA x24.B0],AV.sl 1 []] []=some (AV.sl 5 (List.map A1 y25),[]) from G1 (r:=y25) h)) ?_;intro y25
 exact rz
 refine ca hc (fun _ h=>M3 h) ?_;intro y27
 refine br ?_ ?_
 refine ca hc (fun _ h=>Do h) ?_;intro y30
 refine br ?_ ?_
 refine ca hc (fun _ h=>M3 h) ?_;intro y33
 refine br ?_ ?_
 refine cr hc (fun y36 h=>(show CN n 128 [AV.agg [iA (4),iA (0),sA y33.1,sA y27.1,iA y27.2.1],AV.sl 1 []] []=some (AV.sl 5 (List.map A1 y36),[]) from G1 (r:=y36) h)) ?_;intro y36
 exact rz
 refine ca hc (fun _ h=>Fe h) ?_;intro y38
 exact rz
 refine cr hc (fun y40 h=>(show CN n 128 [AV.agg [iA (2),iA (0),sA y27.1,sA (([]:List UInt8)),iA y27.2.1],AV.sl 1 []] []=some (AV.sl 5 (List.map A1 y40),[]) from G1 (r:=y40) h)) ?_;intro y40
 exact rz
 refine ca hc (fun _ h=>Fe h) ?_;intro y42
 exact rz
 refine ca hc (fun _ h=>M3 h) ?_;intro y44
 refine br ?_ ?_
 refine ca hc (fun _ h=>Do h) ?_;intro y47
 refine br ?_ ?_
 refine ca hc (fun _ h=>M3 h) ?_;intro y50
 refine br ?_ ?_
 refine cr hc (fun y53 h=>(show CN n 128 [AV.agg [iA (4),iA (0),sA y50.1,sA y44.1,iA y44.2.1],AV.sl 1 []] []=some (AV.sl 5 (List.map A1 y53),[]) from G1 (r:=y53) h)) ?_;intro y53
 exact rz
 refine ca hc (fun _ h=>Fe h) ?_;intro y55
 exact rz
 refine cr hc (fun y57 h=>(show CN n 128 [AV.agg [iA (2),iA (0),sA y44.1,sA (([]:List UInt8)),iA y44.2.1],AV.sl 1 []] []=some (AV.sl 5 (List.map A1 y57),[]) from G1 (r:=y57) h)) ?_;intro y57
 exact rz
 refine ca hc (fun _ h=>Fe h) ?_;intro y59
 exact rz
theorem A2e (n:Nat) (ih:Cf n):Qd (n+1):=by
 intro p_l p_i p_in p_e p_at r h
 rw[Jf] at h
 refine An Tryz.func137 (by rfl) rfl rfl (As rfl) ?_
 intro call hc;conv=>lhs;whnf
 revert h
 refine cr hc (fun y1 h=>(show CN n 120 [AV.ptr 0 0,AV.func 138 [] [],bA false,AV.sl 1 [[iA (6)],[iA (7)]]] [Ob.var 121 [AV.sl 4 (List.map A5 p_l),iA p_i,iA p_in,iA p_e,iA p_at]]=some (AV.sl 5 (List.map A1 y1.1),[Ob.var 121 [AV.sl 4 (List.map A5 p_l),iA y1.2.1,iA y1.2.2.1,iA y1.2.2.2.1,iA y1.2.2.2.2]]) from ih.2.2.2.2.2.2.2.2.2.1 (r:=y1) h)) ?_;intro y1
 exact rz
theorem Uf:∀ n,Cf n
 | 0=>⟨by unfold My;intros;rename_i h;exact absurd h (by intro h;cases h),by unfold Pp;intros;rename_i h;exact absurd h (by intro h;cases h),by unfold M7;intros;rename_i h;exact absurd h (by intro h;cases h),by unfold Or;intros;rename_i h;exact absurd h (by intro h;cases h),by unfold Ni;intros;rename_i h;exact absurd h (by intro h;cases h),by unfold Nb;intros;rename_i h;exact absurd h (by intro h;cases h),by unfold Qo;intros;rename_i h;exact absurd h (by intro h;cases h),by unfold Oj;intros;rename_i h;exact absurd h (by intro h;cases h),by unfold Oi;intros;rename_i h;exact absurd h (by intro h;cases h),by unfold Om;intros;rename_i h;exact absurd h (by intro h;cases h),by unfold Ok;intros;rename_i h;exact absurd h (by intro h;cases h),by unfold No;intros;rename_i h;exact absurd h (by intro h;cases h),by unfold Qd;intros;rename_i h;exact absurd h (by intro h;cases h)⟩
 | n+1=>have ih:=Uf n
   ⟨A2n n ih,A20 n ih,Y0 n ih,A0f n ih,Yo n ih,Z7 n ih,A2c n ih,A0u n ih,A1b n ih,A0p n ih,A1h n ih,Zx n ih,A2e n ih⟩
theorem A2d {n:Nat}:My n:=(Uf n).1
theorem A1t {n:Nat} ⦃Aa:(List A6)⦄ ⦃C3:Int⦄ ⦃r:((List A0)×Int×Int×Int)⦄:To n Aa C3=some r→CN n 79 [AV.sl 4 (List.map A5 Aa),iA C3] []=some (AV.tup [AV.sl 5 (List.map A1 r.1),iA r.2.1,iA r.2.2.1,iA r.2.2.2],[]):=by
 intro h;rcases n with _|n;cases h
 rw[To] at h
 refine An Tryz.func79 (by rfl) rfl rfl (As rfl) ?_
 intro call hc;conv=>lhs;whnf
 revert h
 refine br ?_ ?_
 exact rz
 refine ca hc (fun _ h=>A2d h) ?_;intro y2
 refine br ?_ ?_
 exact rz
 refine ca hc (fun _ h=>A1r h) ?_;intro y5
 refine br ?_ ?_
 refine ix ?_;intro x8
 exact rz
 refine br ?_ ?_
 refine ix ?_;intro x10
 exact rz
 exact rz
theorem Ae1 {n:Nat} ⦃Aj:A0⦄ ⦃r:Bool⦄:Rp n Aj=some r→CN n 83 [AV.agg [iA Aj.B1,iA Aj.Bk,sA Aj.Ae,sA Aj.C2,iA Aj.B0]] []=some (bA r,[]):=by
 intro h;rcases n with _|n;cases h
 rw[Rp] at h
 refine An Tryz.func83 (by rfl) rfl rfl (As rfl) ?_
 intro call hc;conv=>lhs;whnf
 revert h
 refine br ?_ ?_
 exact rz
 refine br ?_ ?_
 intro h
 have hf5:Y2 Tryz.prog 42=some (fieldsOf Tryz.prog 42):=by kernel_rfl
 simp only[hf5,B3,Cu]
 conv=>lhs;whnf
 revert h
 refine br ?_ ?_
 refine br ?_ ?_
 exact rz
 exact rz
 exact rz
 refine br ?_ ?_
 refine ca hc (fun _ h=>Fz h) ?_;intro y7
 refine br ?_ ?_
 intro h
 have hf13:Y2 Tryz.prog 42=some (fieldsOf Tryz.prog 42):=by kernel_rfl
 simp only[hf13,B3,Cu]
 conv=>lhs;whnf
 revert h
 refine br ?_ ?_
 refine ca hc (fun _ h=>Fz h) ?_;intro y11
 exact rz
 exact rz
 exact rz
 refine br ?_ ?_
 intro h
 have hf18:Y2 Tryz.prog 42=some (fieldsOf Tryz.prog 42):=by kernel_rfl
 simp only[hf18,B3,Cu]
 conv=>lhs;whnf
 revert h
 refine br ?_ ?_
 refine ca hc (fun _ h=>Fz h) ?_;intro y16
 exact rz
 exact rz
 refine br ?_ ?_
 intro h
 have hf23:Y2 Tryz.prog 42=some (fieldsOf Tryz.prog 42):=by kernel_rfl
 simp only[hf23,B3,Cu]
 conv=>lhs;whnf
 revert h
 refine br ?_ ?_
 refine ca hc (fun _ h=>Fz h) ?_;intro y21
 exact rz
 exact rz
 intro h
 have hf24:Y2 Tryz.prog 42=some (fieldsOf Tryz.prog 42):=by kernel_rfl
 simp only[hf24,B3,Cu]
 conv=>lhs;whnf
 revert h
 exact rz
theorem Vk {n:Nat} ⦃Aa:(List A0)⦄ ⦃r:Bool⦄:Lv n Aa=some r→CN n 57 [AV.sl 5 (List.map A1 Aa)] []=some (bA r,[]):=by
 intro h;rcases n with _|n;cases h
 rw[Lv] at h
 refine An Tryz.func57 (by rfl) rfl rfl (As rfl) ?_
 intro call hc;conv=>lhs;whnf
 revert h
 refine br ?_ ?_
 exact rz
 refine br ?_ ?_
 exact rz
 refine ca hc (fun _ h=>Aep h) ?_;intro y3
 refine br ?_ ?_
 exact rz
 intro h;refine Av h ?_;clear h;intro o14 ho14 h
 refine lq (σ:=Int) (τ:=Unit) (ν:=Bool) 0 (fun s6 a8=>B4 33 [(0,AV.sl 5 (List.map A1 Aa)),(20,AV.sl 5 (List.map A1 Aa)),(21,iA (((Aa.length:Nat):Int))),(22,iA s6)]) (fun s6 a8=>[]) (fun _ a20=>B4 33 [(0,AV.sl 5 (List.map A1 Aa))]) (fun _ a20=>[]) (fun v=>(bA v,[])) (fun k s=>Hz n Aa k s) (fun s=>rfl) o14 n 0 (fun _=>0) ho14 ?_ ?_
 intro k7 s6 a8 K9 cont10 hK11 hcont12 h hr13
 replace h:Hz n Aa (k7+1) s6=some o14:=h
 rw[Hz] at h
 conv=>lhs;whnf
 revert h
 refine br ?_ ?_
 refine ix ?_;intro x16
 refine ca hc (fun _ h=>Ae1 h) ?_;intro y17
 refine br ?_ ?_
 exact fun h=>cq (hcont12 (IntKind.i64.wrap (s6+1)) (fun _=>0) h)
 intro h;cases sj h
 refine(hK11 _ _).trans ?_
 refine Eq.trans ?_ (Eq.symm (show _=some _ from hr13))
 conv=>lhs;whnf
 exact rq
 intro h;cases sj h
 exact kq (hr13 (fun _=>0))
 refine lrc ?_ ?_
 intro v e;subst e;cases sj h;rfl
 intro t a20 e;subst e
 dsimp only at h
 conv=>lhs;whnf
 revert h
 refine ca hc (fun _ h=>A1r h) ?_;intro y21
 exact rz
def Px (n:Nat):Prop:=∀ ⦃Bv:Int⦄ ⦃r:(List UInt8)⦄,D8 n Bv=some r→CN n 99 [iA Bv] []=some (sA r,[])
def Tf (n:Nat):Prop:=Px n
theorem A5v (n:Nat) (ih:Tf n):Px (n+1):=by
 intro Bv r h
 rw[D8] at h
 refine An Tryz.func99 (by rfl) rfl rfl (As rfl) ?_
 intro call hc;conv=>lhs;whnf
 revert h
 refine br ?_ ?_
 exact rz
 refine ca hc (fun _ h=>ih h) ?_;intro y2
 intro h
 refine Ad h ?_;clear h;intro hc4 h
 refine Am hc4 ?_
 try simp only[ls]
 conv=>lhs;whnf
 revert h
 exact rz
theorem Xr:∀ n,Tf n
 | 0=>by unfold Tf Px;intros;rename_i h;exact absurd h (by intro h;cases h)
 | n+1=>have ih:=Xr n
   A5v n ih
theorem A5r {n:Nat}:Px n:=(Xr n)
def S5 (n:Nat):Prop:=∀ ⦃Aa:(List A0)⦄ ⦃C3:Int⦄ ⦃Uc:Bool⦄ ⦃r:((List UInt8)×Int)⦄,G0 n Aa C3 Uc=some r→CN n 67 [AV.sl 5 (List.map A1 Aa),iA C3,bA Uc] []=some (AV.tup [sA r.1,iA r.2],[])
def Vu (n:Nat):Prop:=S5 n
theorem Aaz (n:Nat) (ih:Vu n):S5 (n+1):=by
 intro Aa C3 Uc r h
 rw[G0] at h
 refine An Tryz.func67 (by rfl) rfl rfl (As rfl) ?_
 intro call hc;conv=>lhs;whnf
 revert h
 refine ix ?_;intro x1
 refine br ?_ ?_
 refine ca hc (fun _ h=>A5r h) ?_;intro y3
 exact rz
 refine br ?_ ?_
 exact rz
 refine br ?_ ?_
 exact rz
 refine br ?_ ?_
 intro h
 refine Ad h ?_;clear h;intro hc8 h
 refine Am hc8 ?_
 try simp only[ls]
 conv=>lhs;whnf
 revert h
 intro h
 refine Ad h ?_;clear h;intro hc9 h
 refine Am hc9 ?_
 try simp only[ls]
 conv=>lhs;whnf
 revert h
 exact rz
 refine br ?_ ?_
 refine ca hc (fun _ h=>ih h) ?_;intro y11
 refine ca hc (fun _ h=>Ln h) ?_;intro y13
 intro h
 refine Ad h ?_;clear h;intro hc15 h
 refine Am hc15 ?_
 try simp only[ls]
 conv=>lhs;whnf
 revert h
 exact rz
 refine ca hc (fun _ h=>ih h) ?_;intro y16
 refine ca hc (fun _ h=>ih h) ?_;intro y18
 intro h
 refine Ad h ?_;clear h;intro hc20 h
 refine Am hc20 ?_
 try simp only[ls]
 conv=>lhs;whnf
 revert h
 refine ca hc (fun _ h=>Ln h) ?_;intro y21
 intro h
 refine Ad h ?_;clear h;intro hc23 h
 refine Am hc23 ?_
 try simp only[ls]
 conv=>lhs;whnf
 revert h
 intro h
 refine Ad h ?_;clear h;intro hc24 h
 refine Am hc24 ?_
 try simp only[ls]
 conv=>lhs;whnf
 revert h
 intro h
 refine Ad h ?_;clear h;intro hc25 h
 refine Am hc25 ?_
 try simp only[ls]
 conv=>lhs;whnf
 revert h
 refine br ?_ ?_
 intro h
 refine Ad h ?_;clear h;intro hc27 h
 refine Am hc27 ?_
 try simp only[ls]
 conv=>lhs;whnf
 revert h
 intro h
 refine Ad h ?_;clear h;intro hc28 h
 refine Am hc28 ?_
 try simp only[ls]
 conv=>lhs;whnf
 revert h
 exact rz
 exact rz
theorem Zd:∀ n,Vu n
 | 0=>by unfold Vu S5;intros;rename_i h;exact absurd h (by intro h;cases h)
 | n+1=>have ih:=Zd n
   Aaz n ih
theorem Aaj {n:Nat}:S5 n:=(Zd n)
theorem X3 {n:Nat} ⦃Aa:(List A0)⦄ ⦃r:(List UInt8)⦄:Dj n Aa=some r→CN n 36 [AV.sl 5 (List.map A1 Aa)] []=some (sA r,[]):=by
 intro h;rcases n with _|n;cases h
 rw[Dj] at h
 refine An Tryz.func36 (by rfl) rfl rfl (As rfl) ?_
 intro call hc;conv=>lhs;whnf
 revert h
 refine ca hc (fun _ h=>Vk h) ?_;intro y1
 refine br ?_ ?_
 refine ca hc (fun _ h=>Aaj h) ?_;intro y4
 exact rz
 exact rz
theorem Vy {n:Nat} ⦃r:(List Bm)⦄:Lr n=some r→CN n 106 [] []=some (AV.sl 4 (List.map A4j r),[]):=by
 intro h;rcases n with _|n;cases h
 rw[Lr] at h
 refine An Tryz.func106 (by rfl) rfl rfl (As rfl) ?_
 intro call hc;conv=>lhs;whnf
 revert h
 exact rz
theorem Je {n:Nat} ⦃Ho:Int⦄ ⦃Aej:(List UInt8)⦄ ⦃p_l:(List A6)⦄ ⦃p_i:Int⦄ ⦃p_e:Int⦄ ⦃p_at:Int⦄ ⦃At:(List ((List UInt8)×Int))⦄ ⦃r:Bool⦄:Fu n Ho Aej p_l p_i p_e p_at At=some r→CN n 118 [AV.ptr 0 0,iA Ho,sA Aej] [Ob.var 112 [AV.sl 4 (List.map A5 p_l),iA p_i,AV.mapp 1,iA p_e,iA p_at],Ob.mp none false (List.map Ab At)]=some (bA r,[Ob.var 112 [AV.sl 4 (List.map A5 p_l),iA p_i,AV.mapp 1,iA p_e,iA p_at],Ob.mp none false (List.map Ab At)]):=by
 intro h;rcases n with _|n;cases h
 rw[Fu] at h
 refine An Tryz.func118 (by rfl) rfl rfl (As rfl) ?_
 intro call hc;conv=>lhs;whnf
 revert h
 refine br ?_ ?_
 refine ix ?_;intro x2
 refine br ?_ ?_
 refine ix ?_;intro x4
 intro h;cases sj h
 try simp only[ls]
 exact fq (y:=some (bA ((x4.Au==Aej)),[Ob.var 112 [AV.sl 4 (List.map A5 p_l),iA p_i,AV.mapp 1,iA p_e,iA p_at],Ob.mp none false (List.map Ab At)]))
 intro h;obtain rfl:=sj h
 try simp only[ls]
 exact fq (y:=some (bA false,[Ob.var 112 [AV.sl 4 (List.map A5 p_l),iA p_i,AV.mapp 1,iA p_e,iA p_at],Ob.mp none false (List.map Ab At)]))
 intro h;obtain rfl:=sj h
 try simp only[ls]
 exact fq (y:=some (bA false,[Ob.var 112 [AV.sl 4 (List.map A5 p_l),iA p_i,AV.mapp 1,iA p_e,iA p_at],Ob.mp none false (List.map Ab At)]))
theorem A17 {n:Nat} ⦃Bv:Int⦄ ⦃r:(Bm×Bool)⦄:Od n Bv=some r→CN n 111 [iA Bv] []=some (AV.tup [AV.agg [sA r.1.f_word,sA r.1.f_form,bA r.1.f_body,bA r.1.f_more],bA r.2],[]):=by
 intro h;rcases n with _|n;cases h
 rw[Od] at h
 refine An Tryz.func111 (by rfl) rfl rfl (As rfl) ?_
 intro call hc;conv=>lhs;whnf
 revert h
 refine ca hc (fun _ h=>Vy h) ?_;intro y1
 refine br ?_ ?_
 exact rz
 refine br ?_ ?_
 exact rz
 refine ix ?_;intro x5
 exact rz
theorem A30 {n:Nat} ⦃r:Bm⦄:V3 n=some r→CN n 111 [iA (0)] []=some (AV.tup [AV.agg [sA r.f_word,sA r.f_form,bA r.f_body,bA r.f_more],bA false],[]):=by
 intro h;rcases n with _|n;cases h
 rw[V3] at h
 refine An Tryz.func111 (by rfl) rfl rfl (As rfl) ?_
 intro call hc;conv=>lhs;whnf
 revert h
 refine ca hc (fun _ h=>Vy h) ?_;intro y1
 exact rz
theorem L9 {n:Nat} ⦃C3:Int⦄ ⦃p_l:(List A6)⦄ ⦃p_i:Int⦄ ⦃p_e:Int⦄ ⦃p_at:Int⦄ ⦃At:(List ((List UInt8)×Int))⦄ ⦃r:Int⦄:Hm n C3 p_l p_i p_e p_at At=some r→CN n 108 [AV.ptr 0 0,iA C3] [Ob.var 112 [AV.sl 4 (List.map A5 p_l),iA p_i,AV.mapp 1,iA p_e,iA p_at],Ob.mp none false (List.map Ab At)]=some (iA r,[Ob.var 112 [AV.sl 4 (List.map A5 p_l),iA p_i,AV.mapp 1,iA p_e,iA p_at],Ob.mp none false (List.map Ab At)]):=by
 intro h;rcases n with _|n;cases h
 rw[Hm] at h
 refine An Tryz.func108 (by rfl) rfl rfl (As rfl) ?_
 intro call hc;conv=>lhs;whnf
 revert h
 refine br ?_ ?_
 refine ix ?_;intro x2
 intro h;cases sj h
 try simp only[ls]
 exact fq (y:=some (iA x2.B0,[Ob.var 112 [AV.sl 4 (List.map A5 p_l),iA p_i,AV.mapp 1,iA p_e,iA p_at],Ob.mp none false (List.map Ab At)]))
 refine br ?_ ?_
 refine ix ?_;intro x4
 refine ix ?_;intro x5
 intro h;cases sj h
 try simp only[ls]
 exact fq (y:=some (iA (IntKind.i64.wrap (x4.B0+((x5.Au.length:Nat):Int))),[Ob.var 112 [AV.sl 4 (List.map A5 p_l),iA p_i,AV.mapp 1,iA p_e,iA p_at],Ob.mp none false (List.map Ab At)]))
 intro h;cases sj h
 try simp only[ls]
 exact fq (y:=some (iA (0),[Ob.var 112 [AV.sl 4 (List.map A5 p_l),iA p_i,AV.mapp 1,iA p_e,iA p_at],Ob.mp none false (List.map Ab At)]))
theorem E9 {n:Nat} ⦃p_l:(List A6)⦄ ⦃p_i:Int⦄ ⦃p_e:Int⦄ ⦃p_at:Int⦄ ⦃At:(List ((List UInt8)×Int))⦄ ⦃r:(Int×Int)⦄:Dg n p_l p_i p_e p_at At=some r→CN n 123 [AV.ptr 0 0] [Ob.var 112 [AV.sl 4 (List.map A5 p_l),iA p_i,AV.mapp 1,iA p_e,iA p_at],Ob.mp none false (List.map Ab At)]=some (AV.tup [],[Ob.var 112 [AV.sl 4 (List.map A5 p_l),iA p_i,AV.mapp 1,iA r.1,iA r.2],Ob.mp none false (List.map Ab At)]):=by
 intro h;rcases n with _|n;cases h
 rw[Dg] at h
 refine An Tryz.func123 (by rfl) rfl rfl (As rfl) ?_
 intro call hc;conv=>lhs;whnf
 revert h
 refine br ?_ ?_
 intro h;cases sj h
 try simp only[ls]
 exact fq (y:=some (AV.tup [],[Ob.var 112 [AV.sl 4 (List.map A5 p_l),iA p_i,AV.mapp 1,iA p_e,iA p_at],Ob.mp none false (List.map Ab At)]))
 refine ca hc (fun _ h=>L9 h) ?_;intro y2
 refine br ?_ ?_
 intro h;cases sj h
 try simp only[ls]
 exact fq (y:=some (AV.tup [],[Ob.var 112 [AV.sl 4 (List.map A5 p_l),iA p_i,AV.mapp 1,iA (6),iA y2],Ob.mp none false (List.map Ab At)]))
 intro h;cases sj h
 try simp only[ls]
 exact fq (y:=some (AV.tup [],[Ob.var 112 [AV.sl 4 (List.map A5 p_l),iA p_i,AV.mapp 1,iA (5),iA y2],Ob.mp none false (List.map Ab At)]))
theorem C8 {n:Nat} ⦃M9:(List UInt8)⦄ ⦃p_l:(List A6)⦄ ⦃p_i:Int⦄ ⦃p_e:Int⦄ ⦃p_at:Int⦄ ⦃At:(List ((List UInt8)×Int))⦄ ⦃r:(Int×Int×Int)⦄:C4 n M9 p_l p_i p_e p_at At=some r→CN n 125 [AV.ptr 0 0,sA M9] [Ob.var 112 [AV.sl 4 (List.map A5 p_l),iA p_i,AV.mapp 1,iA p_e,iA p_at],Ob.mp none false (List.map Ab At)]=some (AV.tup [],[Ob.var 112 [AV.sl 4 (List.map A5 p_l),iA r.1,AV.mapp 1,iA r.2.1,iA r.2.2],Ob.mp none false (List.map Ab At)]):=by
 intro h;rcases n with _|n;cases h
 rw[C4] at h
 refine An Tryz.func125 (by rfl) rfl rfl (As rfl) ?_
 intro call hc;conv=>lhs;whnf
 revert h
 refine br ?_ ?_
 intro h;cases sj h
 try simp only[ls]
 exact fq (y:=some (AV.tup [],[Ob.var 112 [AV.sl 4 (List.map A5 p_l),iA p_i,AV.mapp 1,iA p_e,iA p_at],Ob.mp none false (List.map Ab At)]))
 refine ca hc (fun _ h=>Je h) ?_;intro y2
 refine br ?_ ?_
 intro h;cases sj h
 try simp only[ls]
 exact fq (y:=some (AV.tup [],[Ob.var 112 [AV.sl 4 (List.map A5 p_l),iA (IntKind.i64.wrap (p_i+1)),AV.mapp 1,iA p_e,iA p_at],Ob.mp none false (List.map Ab At)]))
 refine ca hc (fun _ h=>E9 h) ?_;intro y5
 intro h;cases sj h
 try simp only[ls]
 exact fq (y:=some (AV.tup [],[Ob.var 112 [AV.sl 4 (List.map A5 p_l),iA p_i,AV.mapp 1,iA y5.1,iA y5.2],Ob.mp none false (List.map Ab At)]))
theorem Ug {n:Nat} ⦃p_l:(List A6)⦄ ⦃p_i:Int⦄ ⦃p_e:Int⦄ ⦃p_at:Int⦄ ⦃At:(List ((List UInt8)×Int))⦄ ⦃r:((List UInt8)×Int×Int×Int)⦄:N8 n p_l p_i p_e p_at At=some r→CN n 131 [AV.ptr 0 0] [Ob.var 112 [AV.sl 4 (List.map A5 p_l),iA p_i,AV.mapp 1,iA p_e,iA p_at],Ob.mp none false (List.map Ab At)]=some (sA r.1,[Ob.var 112 [AV.sl 4 (List.map A5 p_l),iA r.2.1,AV.mapp 1,iA r.2.2.1,iA r.2.2.2],Ob.mp none false (List.map Ab At)]):=by
 intro h;rcases n with _|n;cases h
 rw[N8] at h
 refine An Tryz.func131 (by rfl) rfl rfl (As rfl) ?_
 intro call hc;conv=>lhs;whnf
 revert h
 refine br ?_ ?_
 intro h;cases sj h
 try simp only[ls]
 exact fq (y:=some (sA (([]:List UInt8)),[Ob.var 112 [AV.sl 4 (List.map A5 p_l),iA p_i,AV.mapp 1,iA p_e,iA p_at],Ob.mp none false (List.map Ab At)]))
 refine br ?_ ?_
 refine ca hc (fun _ h=>E9 h) ?_;intro y3
 intro h;cases sj h
 try simp only[ls]
 exact fq (y:=some (sA (([]:List UInt8)),[Ob.var 112 [AV.sl 4 (List.map A5 p_l),iA p_i,AV.mapp 1,iA y3.1,iA y3.2],Ob.mp none false (List.map Ab At)]))
 refine ix ?_;intro x5
 refine br ?_ ?_
 refine ca hc (fun _ h=>E9 h) ?_;intro y7
 intro h;cases sj h
 try simp only[ls]
 exact fq (y:=some (sA (([]:List UInt8)),[Ob.var 112 [AV.sl 4 (List.map A5 p_l),iA p_i,AV.mapp 1,iA y7.1,iA y7.2],Ob.mp none false (List.map Ab At)]))
 refine ix ?_;intro x9
 refine ca hc (fun _ h=>Fz h) ?_;intro y10
 refine br ?_ ?_
 refine ix ?_;intro x13
 intro h;cases sj h
 try simp only[ls]
 exact fq (y:=some (sA x13.Au,[Ob.var 112 [AV.sl 4 (List.map A5 p_l),iA (IntKind.i64.wrap (p_i+1)),AV.mapp 1,iA p_e,iA p_at],Ob.mp none false (List.map Ab At)]))
 refine ca hc (fun _ h=>E9 h) ?_;intro y14
 intro h;cases sj h
 try simp only[ls]
 exact fq (y:=some (sA (([]:List UInt8)),[Ob.var 112 [AV.sl 4 (List.map A5 p_l),iA p_i,AV.mapp 1,iA y14.1,iA y14.2],Ob.mp none false (List.map Ab At)]))
theorem Z0 {n:Nat} ⦃Fi:(List A6)⦄ ⦃K2:Int⦄ ⦃K3:Int⦄ ⦃H6:Int⦄ ⦃Fj:(List ((List UInt8)×Int))⦄ ⦃D1:Int⦄ ⦃E6:(List UInt8)⦄ ⦃E7:(List UInt8)⦄ ⦃Jt:(List A0)⦄ ⦃Ju:(List A0)⦄ ⦃H7:Bool⦄ ⦃D2:Int⦄ ⦃D3:Int⦄ ⦃F1:Int⦄ ⦃r:(Int×Int×Int×(List UInt8))⦄:Nr n Fi K2 K3 H6 Fj D1 E6 E7 Jt Ju H7 D2 D3 F1=some r→CN n 130 [AV.ptr 0 0,AV.ptr 3 0] [Ob.var 109 [AV.ptr 1 0],Ob.var 112 [AV.sl 4 (List.map A5 Fi),iA K2,AV.mapp 2,iA K3,iA H6],Ob.mp none false (List.map Ab Fj),Ob.var 133 [AV.ptr 4 0],Ob.var 38 [iA D1,sA E6,sA E7,AV.sl 5 (List.map A1 Jt),AV.sl 5 (List.map A1 Ju),bA H7,iA D2,iA D3,iA F1]]=some (AV.tup [],[Ob.var 109 [AV.ptr 1 0],Ob.var 112 [AV.sl 4 (List.map A5 Fi),iA r.1,AV.mapp 2,iA r.2.1,iA r.2.2.1],Ob.mp none false (List.map Ab Fj),Ob.var 133 [AV.ptr 4 0],Ob.var 38 [iA D1,sA r.2.2.2,sA E7,AV.sl 5 (List.map A1 Jt),AV.sl 5 (List.map A1 Ju),bA H7,iA D2,iA D3,iA F1]]):=by
 intro h;rcases n with _|n;cases h
 rw[Nr] at h
 refine An Tryz.func130 (by rfl) rfl rfl (As rfl) ?_
 intro call hc;conv=>lhs;whnf
 revert h
 refine ca hc (fun _ h=>Ug h) ?_;intro y1
 intro h;cases sj h
 try simp only[ls]
 exact fq (y:=some (AV.tup [],[Ob.var 109 [AV.ptr 1 0],Ob.var 112 [AV.sl 4 (List.map A5 Fi),iA y1.2.1,AV.mapp 2,iA y1.2.2.1,iA y1.2.2.2],Ob.mp none false (List.map Ab Fj),Ob.var 133 [AV.ptr 4 0],Ob.var 38 [iA D1,sA y1.1,sA E7,AV.sl 5 (List.map A1 Jt),AV.sl 5 (List.map A1 Ju),bA H7,iA D2,iA D3,iA F1]]))
theorem Z2 {n:Nat} ⦃Fi:(List A6)⦄ ⦃K2:Int⦄ ⦃K3:Int⦄ ⦃H6:Int⦄ ⦃Fj:(List ((List UInt8)×Int))⦄ ⦃D1:Int⦄ ⦃E6:(List UInt8)⦄ ⦃E7:(List UInt8)⦄ ⦃Jt:(List A0)⦄ ⦃Ju:(List A0)⦄ ⦃H7:Bool⦄ ⦃D2:Int⦄ ⦃D3:Int⦄ ⦃F1:Int⦄ ⦃r:(Int×Int×Int×(List UInt8))⦄:Nz n Fi K2 K3 H6 Fj D1 E6 E7 Jt Ju H7 D2 D3 F1=some r→CN n 132 [AV.ptr 0 0,AV.ptr 3 0] [Ob.var 109 [AV.ptr 1 0],Ob.var 112 [AV.sl 4 (List.map A5 Fi),iA K2,AV.mapp 2,iA K3,iA H6],Ob.mp none false (List.map Ab Fj),Ob.var 133 [AV.ptr 4 0],Ob.var 38 [iA D1,sA E6,sA E7,AV.sl 5 (List.map A1 Jt),AV.sl 5 (List.map A1 Ju),bA H7,iA D2,iA D3,iA F1]]=some (AV.tup [],[Ob.var 109 [AV.ptr 1 0],Ob.var 112 [AV.sl 4 (List.map A5 Fi),iA r.1,AV.mapp 2,iA r.2.1,iA r.2.2.1],Ob.mp none false (List.map Ab Fj),Ob.var 133 [AV.ptr 4 0],Ob.var 38 [iA D1,sA E6,sA r.2.2.2,AV.sl 5 (List.map A1 Jt),AV.sl 5 (List.map A1 Ju),bA H7,iA D2,iA D3,iA F1]]):=by
 intro h;rcases n with _|n;cases h
 rw[Nz] at h
 refine An Tryz.func132 (by rfl) rfl rfl (As rfl) ?_
 intro call hc;conv=>lhs;whnf
 revert h
 refine ca hc (fun _ h=>Ug h) ?_;intro y1
 intro h;cases sj h
 try simp only[ls]
 exact fq (y:=some (AV.tup [],[Ob.var 109 [AV.ptr 1 0],Ob.var 112 [AV.sl 4 (List.map A5 Fi),iA y1.2.1,AV.mapp 2,iA y1.2.2.1,iA y1.2.2.2],Ob.mp none false (List.map Ab Fj),Ob.var 133 [AV.ptr 4 0],Ob.var 38 [iA D1,sA E6,sA y1.1,AV.sl 5 (List.map A1 Jt),AV.sl 5 (List.map A1 Ju),bA H7,iA D2,iA D3,iA F1]]))
theorem A1o {n:Nat} ⦃Aa:(List A0)⦄ ⦃r:Bool⦄:O7 n Aa=some r→CN n 115 [AV.sl 5 (List.map A1 Aa)] []=some (bA r,[]):=by
 intro h;rcases n with _|n;cases h
 rw[O7] at h
 refine An Tryz.func115 (by rfl) rfl rfl (As rfl) ?_
 intro call hc;conv=>lhs;whnf
 revert h
 refine ca hc (fun _ h=>A1x h) ?_;intro y1
 intro h;refine Av h ?_;clear h;intro o11 ho11 h
 refine lq (σ:=Int) (τ:=Unit) (ν:=Bool) 0 (fun s3 a5=>B4 18 [(0,AV.sl 5 (List.map A1 Aa)),(6,AV.sl 5 (List.map A1 y1)),(7,iA (((y1.length:Nat):Int))),(8,iA s3)]) (fun s3 a5=>[]) (fun _ a15=>B4 18 [(0,AV.sl 5 (List.map A1 Aa))]) (fun _ a15=>[]) (fun v=>(bA v,[])) (fun k s=>Jo n y1 k s) (fun s=>rfl) o11 n 0 (fun _=>0) ho11 ?_ ?_
 intro k4 s3 a5 K6 cont7 hK8 hcont9 h hr10
 replace h:Jo n y1 (k4+1) s3=some o11:=h
 rw[Jo] at h
 conv=>lhs;whnf
 revert h
 refine br ?_ ?_
 refine ix ?_;intro x13
 refine br ?_ ?_
 intro h;cases sj h
 refine(hK8 _ _).trans ?_
 refine Eq.trans ?_ (Eq.symm (show _=some _ from hr10))
 conv=>lhs;whnf
 exact rq
 exact fun h=>cq (hcont9 (IntKind.i64.wrap (s3+1)) (fun _=>0) h)
 intro h;cases sj h
 exact kq (hr10 (fun _=>0))
 refine lrc ?_ ?_
 intro v e;subst e;cases sj h;rfl
 intro t a15 e;subst e
 dsimp only at h
 conv=>lhs;whnf
 revert h
 refine ca hc (fun _ h=>Vk h) ?_;intro y16
 exact rz
theorem Ud {n:Nat} ⦃p_l:(List A6)⦄ ⦃p_i:Int⦄ ⦃p_e:Int⦄ ⦃p_at:Int⦄ ⦃At:(List ((List UInt8)×Int))⦄ ⦃r:((List A0)×Int×Int×Int)⦄:Mx n p_l p_i p_e p_at At=some r→CN n 134 [AV.ptr 0 0] [Ob.var 112 [AV.sl 4 (List.map A5 p_l),iA p_i,AV.mapp 1,iA p_e,iA p_at],Ob.mp none false (List.map Ab At)]=some (AV.sl 5 (List.map A1 r.1),[Ob.var 112 [AV.sl 4 (List.map A5 p_l),iA r.2.1,AV.mapp 1,iA r.2.2.1,iA r.2.2.2],Ob.mp none false (List.map Ab At)]):=by
 intro h;rcases n with _|n;cases h
 rw[Mx] at h
 refine An Tryz.func134 (by rfl) rfl rfl (As rfl) ?_
 intro call hc;conv=>lhs;whnf
 revert h
 refine br ?_ ?_
 intro h;cases sj h
 try simp only[ls]
 exact fq (y:=some (AV.sl 5 [],[Ob.var 112 [AV.sl 4 (List.map A5 p_l),iA p_i,AV.mapp 1,iA p_e,iA p_at],Ob.mp none false (List.map Ab At)]))
 refine ca hc (fun _ h=>A1t h) ?_;intro y2
 refine br ?_ ?_
 intro h;cases sj h
 try simp only[ls]
 exact fq (y:=some (AV.sl 5 [],[Ob.var 112 [AV.sl 4 (List.map A5 p_l),iA p_i,AV.mapp 1,iA y2.2.2.1,iA y2.2.2.2],Ob.mp none false (List.map Ab At)]))
 refine ca hc (fun _ h=>A1o h) ?_;intro y5
 refine br ?_ ?_
 intro h;cases sj h
 try simp only[ls]
 exact fq (y:=some (AV.sl 5 (List.map A1 y2.1),[Ob.var 112 [AV.sl 4 (List.map A5 p_l),iA y2.2.1,AV.mapp 1,iA p_e,iA p_at],Ob.mp none false (List.map Ab At)]))
 refine ca hc (fun _ h=>E9 h) ?_;intro y8
 intro h;cases sj h
 try simp only[ls]
 exact fq (y:=some (AV.sl 5 [],[Ob.var 112 [AV.sl 4 (List.map A5 p_l),iA p_i,AV.mapp 1,iA y8.1,iA y8.2],Ob.mp none false (List.map Ab At)]))
theorem Yv {n:Nat} ⦃Fi:(List A6)⦄ ⦃K2:Int⦄ ⦃K3:Int⦄ ⦃H6:Int⦄ ⦃Fj:(List ((List UInt8)×Int))⦄ ⦃D1:Int⦄ ⦃E6:(List UInt8)⦄ ⦃E7:(List UInt8)⦄ ⦃Jt:(List A0)⦄ ⦃Ju:(List A0)⦄ ⦃H7:Bool⦄ ⦃D2:Int⦄ ⦃D3:Int⦄ ⦃F1:Int⦄ ⦃r:(Int×Int×Int×(List A0))⦄:Nv n Fi K2 K3 H6 Fj D1 E6 E7 Jt Ju H7 D2 D3 F1=some r→CN n 133 [AV.ptr 0 0,AV.ptr 3 0] [Ob.var 109 [AV.ptr 1 0],Ob.var 112 [AV.sl 4 (List.map A5 Fi),iA K2,AV.mapp 2,iA K3,iA H6],Ob.mp none false (List.map Ab Fj),Ob.var 133 [AV.ptr 4 0],Ob.var 38 [iA D1,sA E6,sA E7,AV.sl 5 (List.map A1 Jt),AV.sl 5 (List.map A1 Ju),bA H7,iA D2,iA D3,iA F1]]=some (AV.tup [],[Ob.var 109 [AV.ptr 1 0],Ob.var 112 [AV.sl 4 (List.map A5 Fi),iA r.1,AV.mapp 2,iA r.2.1,iA r.2.2.1],Ob.mp none false (List.map Ab Fj),Ob.var 133 [AV.ptr 4 0],Ob.var 38 [iA D1,sA E6,sA E7,AV.sl 5 (List.map A1 r.2.2.2),AV.sl 5 (List.map A1 Ju),bA H7,iA D2,iA D3,iA F1]]):=by
 intro h;rcases n with _|n;cases h
 rw[Nv] at h
 refine An Tryz.func133 (by rfl) rfl rfl (As rfl) ?_
 intro call hc;conv=>lhs;whnf
 revert h
 refine ca hc (fun _ h=>Ud h) ?_;intro y1
 intro h;cases sj h
 try simp only[ls]
 exact fq (y:=some (AV.tup [],[Ob.var 109 [AV.ptr 1 0],Ob.var 112 [AV.sl 4 (List.map A5 Fi),iA y1.2.1,AV.mapp 2,iA y1.2.2.1,iA y1.2.2.2],Ob.mp none false (List.map Ab Fj),Ob.var 133 [AV.ptr 4 0],Ob.var 38 [iA D1,sA E6,sA E7,AV.sl 5 (List.map A1 y1.1),AV.sl 5 (List.map A1 Ju),bA H7,iA D2,iA D3,iA F1]]))
theorem Yt {n:Nat} ⦃Fi:(List A6)⦄ ⦃K2:Int⦄ ⦃K3:Int⦄ ⦃H6:Int⦄ ⦃Fj:(List ((List UInt8)×Int))⦄ ⦃D1:Int⦄ ⦃E6:(List UInt8)⦄ ⦃E7:(List UInt8)⦄ ⦃Jt:(List A0)⦄ ⦃Ju:(List A0)⦄ ⦃H7:Bool⦄ ⦃D2:Int⦄ ⦃D3:Int⦄ ⦃F1:Int⦄ ⦃r:(Int×Int×Int×(List A0))⦄:Nq n Fi K2 K3 H6 Fj D1 E6 E7 Jt Ju H7 D2 D3 F1=some r→CN n 135 [AV.ptr 0 0,AV.ptr 3 0] [Ob.var 109 [AV.ptr 1 0],Ob.var 112 [AV.sl 4 (List.map A5 Fi),iA K2,AV.mapp 2,iA K3,iA H6],Ob.mp none false (List.map Ab Fj),Ob.var 133 [AV.ptr 4 0],Ob.var 38 [iA D1,sA E6,sA E7,AV.sl 5 (List.map A1 Jt),AV.sl 5 (List.map A1 Ju),bA H7,iA D2,iA D3,iA F1]]=some (AV.tup [],[Ob.var 109 [AV.ptr 1 0],Ob.var 112 [AV.sl 4 (List.map A5 Fi),iA r.1,AV.mapp 2,iA r.2.1,iA r.2.2.1],Ob.mp none false (List.map Ab Fj),Ob.var 133 [AV.ptr 4 0],Ob.var 38 [iA D1,sA E6,sA E7,AV.sl 5 (List.map A1 Jt),AV.sl 5 (List.map A1 r.2.2.2),bA H7,iA D2,iA D3,iA F1]]):=by
 intro h;rcases n with _|n;cases h
 rw[Nq] at h
 refine An Tryz.func135 (by rfl) rfl rfl (As rfl) ?_
 intro call hc;conv=>lhs;whnf
 revert h
 refine ca hc (fun _ h=>Ud h) ?_;intro y1
 intro h;cases sj h
 try simp only[ls]
 exact fq (y:=some (AV.tup [],[Ob.var 109 [AV.ptr 1 0],Ob.var 112 [AV.sl 4 (List.map A5 Fi),iA y1.2.1,AV.mapp 2,iA y1.2.2.1,iA y1.2.2.2],Ob.mp none false (List.map Ab Fj),Ob.var 133 [AV.ptr 4 0],Ob.var 38 [iA D1,sA E6,sA E7,AV.sl 5 (List.map A1 Jt),AV.sl 5 (List.map A1 y1.1),bA H7,iA D2,iA D3,iA F1]]))
theorem Z5 {n:Nat} ⦃Fi:(List A6)⦄ ⦃K2:Int⦄ ⦃K3:Int⦄ ⦃H6:Int⦄ ⦃Fj:(List ((List UInt8)×Int))⦄ ⦃D1:Int⦄ ⦃E6:(List UInt8)⦄ ⦃E7:(List UInt8)⦄ ⦃Jt:(List A0)⦄ ⦃Ju:(List A0)⦄ ⦃H7:Bool⦄ ⦃D2:Int⦄ ⦃D3:Int⦄ ⦃F1:Int⦄ ⦃r:(Int×Int×Int×Bool)⦄:Ny n Fi K2 K3 H6 Fj D1 E6 E7 Jt Ju H7 D2 D3 F1=some r→CN n 136 [AV.ptr 0 0,AV.ptr 3 0] [Ob.var 109 [AV.ptr 1 0],Ob.var 112 [AV.sl 4 (List.map A5 Fi),iA K2,AV.mapp 2,iA K3,iA H6],Ob.mp none false (List.map Ab Fj),Ob.var 133 [AV.ptr 4 0],Ob.var 38 [iA D1,sA E6,sA E7,AV.sl 5 (List.map A1 Jt),AV.sl 5 (List.map A1 Ju),bA H7,iA D2,iA D3,iA F1]]=some (AV.tup [],[Ob.var 109 [AV.ptr 1 0],Ob.var 112 [AV.sl 4 (List.map A5 Fi),iA r.1,AV.mapp 2,iA r.2.1,iA r.2.2.1],Ob.mp none false (List.map Ab Fj),Ob.var 133 [AV.ptr 4 0],Ob.var 38 [iA D1,sA E6,sA E7,AV.sl 5 (List.map A1 Jt),AV.sl 5 (List.map A1 Ju),bA r.2.2.2,iA D2,iA D3,iA F1]]):=by
 intro h;rcases n with _|n;cases h
 rw[Ny] at h
 refine An Tryz.func136 (by rfl) rfl rfl (As rfl) ?_
 intro call hc;conv=>lhs;whnf
 revert h
 refine ca hc (fun _ h=>Je h) ?_;intro y1
 refine br ?_ ?_
 intro h;cases sj h
 try simp only[ls]
 exact fq (y:=some (AV.tup [],[Ob.var 109 [AV.ptr 1 0],Ob.var 112 [AV.sl 4 (List.map A5 Fi),iA (IntKind.i64.wrap (K2+1)),AV.mapp 2,iA K3,iA H6],Ob.mp none false (List.map Ab Fj),Ob.var 133 [AV.ptr 4 0],Ob.var 38 [iA D1,sA E6,sA E7,AV.sl 5 (List.map A1 Jt),AV.sl 5 (List.map A1 Ju),bA true,iA D2,iA D3,iA F1]]))
 refine ca hc (fun _ h=>C8 h) ?_;intro y4
 intro h;cases sj h
 try simp only[ls]
 exact fq (y:=some (AV.tup [],[Ob.var 109 [AV.ptr 1 0],Ob.var 112 [AV.sl 4 (List.map A5 Fi),iA y4.1,AV.mapp 2,iA y4.2.1,iA y4.2.2],Ob.mp none false (List.map Ab Fj),Ob.var 133 [AV.ptr 4 0],Ob.var 38 [iA D1,sA E6,sA E7,AV.sl 5 (List.map A1 Jt),AV.sl 5 (List.map A1 Ju),bA false,iA D2,iA D3,iA F1]]))
def Oz (n:Nat):Prop:=∀ ⦃Er:Int⦄ ⦃p_l:(List A6)⦄ ⦃p_i:Int⦄ ⦃p_e:Int⦄ ⦃p_at:Int⦄ ⦃At:(List ((List UInt8)×Int))⦄ ⦃r:((List A2)×Int×Int×Int)⦄,Jx n Er p_l p_i p_e p_at At=some r→CN n 126 [AV.ptr 0 0,iA Er] [Ob.var 112 [AV.sl 4 (List.map A5 p_l),iA p_i,AV.mapp 1,iA p_e,iA p_at],Ob.mp none false (List.map Ab At)]=some (AV.sl 9 (List.map Al r.1),[Ob.var 112 [AV.sl 4 (List.map A5 p_l),iA r.2.1,AV.mapp 1,iA r.2.2.1,iA r.2.2.2],Ob.mp none false (List.map Ab At)])
def M2 (n:Nat):Prop:=∀ ⦃Er:Int⦄ ⦃p_l:(List A6)⦄ ⦃p_i:Int⦄ ⦃p_e:Int⦄ ⦃p_at:Int⦄ ⦃At:(List ((List UInt8)×Int))⦄ ⦃r:((List A2)×Int×Int×Int)⦄,G2 n Er p_l p_i p_e p_at At=some r→CN n 107 [AV.ptr 0 0,iA Er] [Ob.var 112 [AV.sl 4 (List.map A5 p_l),iA p_i,AV.mapp 1,iA p_e,iA p_at],Ob.mp none false (List.map Ab At)]=some (AV.sl 9 (List.map Al r.1),[Ob.var 112 [AV.sl 4 (List.map A5 p_l),iA r.2.1,AV.mapp 1,iA r.2.2.1,iA r.2.2.2],Ob.mp none false (List.map Ab At)])
def Qq (n:Nat):Prop:=∀ ⦃Er:Int⦄ ⦃p_l:(List A6)⦄ ⦃p_i:Int⦄ ⦃p_e:Int⦄ ⦃p_at:Int⦄ ⦃At:(List ((List UInt8)×Int))⦄ ⦃r:((List A2)×Int×Int×Int)⦄,Kz n Er p_l p_i p_e p_at At=some r→CN n 119 [AV.ptr 0 0,iA Er] [Ob.var 112 [AV.sl 4 (List.map A5 p_l),iA p_i,AV.mapp 1,iA p_e,iA p_at],Ob.mp none false (List.map Ab At)]=some (AV.sl 9 (List.map Al r.1),[Ob.var 112 [AV.sl 4 (List.map A5 p_l),iA r.2.1,AV.mapp 1,iA r.2.2.1,iA r.2.2.2],Ob.mp none false (List.map Ab At)])
def L7 (n:Nat):Prop:=Oz n∧M2 n∧Qq n
theorem A0k (n:Nat) (ih:L7 n):Oz (n+1):=by
 intro Er p_l p_i p_e p_at At r h
 rw[Jx] at h
 refine An Tryz.func126 (by rfl) rfl rfl (As rfl) ?_
 intro call hc;conv=>lhs;whnf
 revert h
 refine br ?_ ?_
 refine ca hc (fun _ h=>Je h) ?_;intro y2
 refine br ?_ ?_
 refine br ?_ ?_
 refine ca hc (fun _ h=>L9 h) ?_;intro y6
 refine ca hc (fun _ h=>C8 h) ?_;intro y8
 refine ca hc (fun _ h=>ih.2.1 h) ?_;intro y10
 refine ca hc (fun _ h=>C8 h) ?_;intro y12
 intro h;cases sj h
 try simp only[ls]
 exact fq (y:=some (AV.sl 9 (List.map Al y10.1),[Ob.var 112 [AV.sl 4 (List.map A5 p_l),iA y12.1,AV.mapp 1,iA y12.2.1,iA y12.2.2],Ob.mp none false (List.map Ab At)]))
 refine ca hc (fun _ h=>C8 h) ?_;intro y14
 refine ca hc (fun _ h=>ih.2.1 h) ?_;intro y16
 refine ca hc (fun _ h=>C8 h) ?_;intro y18
 intro h;cases sj h
 try simp only[ls]
 exact fq (y:=some (AV.sl 9 (List.map Al y16.1),[Ob.var 112 [AV.sl 4 (List.map A5 p_l),iA y18.1,AV.mapp 1,iA y18.2.1,iA y18.2.2],Ob.mp none false (List.map Ab At)]))
 refine ca hc (fun _ h=>C8 h) ?_;intro y20
 refine ca hc (fun _ h=>ih.2.1 h) ?_;intro y22
 refine ca hc (fun _ h=>C8 h) ?_;intro y24
 intro h;cases sj h
 try simp only[ls]
 exact fq (y:=some (AV.sl 9 (List.map Al y22.1),[Ob.var 112 [AV.sl 4 (List.map A5 p_l),iA y24.1,AV.mapp 1,iA y24.2.1,iA y24.2.2],Ob.mp none false (List.map Ab At)]))
 refine ca hc (fun _ h=>C8 h) ?_;intro y26
 refine ca hc (fun _ h=>ih.2.1 h) ?_;intro y28
 refine ca hc (fun _ h=>C8 h) ?_;intro y30
 intro h;cases sj h
 try simp only[ls]
 exact fq (y:=some (AV.sl 9 (List.map Al y28.1),[Ob.var 112 [AV.sl 4 (List.map A5 p_l),iA y30.1,AV.mapp 1,iA y30.2.1,iA y30.2.2],Ob.mp none false (List.map Ab At)]))
theorem A1y (n:Nat) (ih:L7 n):M2 (n+1):=by
 intro Er p_l p_i p_e p_at At r h
 rw[G2] at h
 refine An Tryz.func107 (by rfl) rfl rfl (As rfl) ?_
 intro call hc;conv=>lhs;whnf
 revert h
 intro h;refine Av h ?_;clear h;intro o12 ho12 h
 refine lq (σ:=(Int×Int×Int×(List A2))) (τ:=(Int×Int×Int×(List A2))) (ν:=((List A2)×Int×Int×Int)) 0 (fun(s1,s2,s3,s4) a6=>B4 34 [(0,AV.ptr 0 0),(1,iA Er),(5,AV.row 2 (List.length s4))]) (fun(s1,s2,s3,s4) a6=>[Ob.var 112 [AV.sl 4 (List.map A5 p_l),iA s1,AV.mapp 1,iA s2,iA s3],Ob.mp none false (List.map Ab At),Ob.row 38 9 (List.map Al s4)]) (fun(x23,x24,x25,x26) a22=>B4 34 [(5,AV.row 2 (List.length x26))]) (fun(x23,x24,x25,x26) a22=>[Ob.var 112 [AV.sl 4 (List.map A5 p_l),iA x23,AV.mapp 1,iA x24,iA x25],Ob.mp none false (List.map Ab At),Ob.row 38 9 (List.map Al x26)]) (fun v=>(AV.sl 9 (List.map Al v.1),[Ob.var 112 [AV.sl 4 (List.map A5 p_l),iA v.2.1,AV.mapp 1,iA v.2.2.1,iA v.2.2.2],Ob.mp none false (List.map Ab At)])) (fun k s=>Jw n (Kz n) Er p_l At k s.1 s.2.1 s.2.2.1 s.2.2.2) (fun s=>rfl) o12 n (p_i,p_e,p_at,([]:List A2)) (fun _=>0) ho12 ?_ ?_
 intro k5 ss a6 K7 cont8 hK9 hcont10 h hr11
 obtain⟨s1,s2,s3,s4⟩:=ss
 replace h:Jw n (Kz n) Er p_l At (k5+1) s1 s2 s3 s4=some o12:=h
 rw[Jw] at h
 conv=>lhs;whnf
 revert h
 refine br ?_ ?_
 refine br ?_ ?_
 refine ca hc (fun _ h=>Je h) ?_;intro y15
 refine br ?_ ?_
 intro h;cases sj h
 exact kq (hr11 (fun _=>0))
 refine ca hc (fun _ h=>ih.2.2 h) ?_;intro y18
 refine ar (ap Al (List.map Al s4) s4 (List.map Al y18.1) y18.1) ?_
 exact fun h=>cq (hcont10 (y18.2.1,y18.2.2.1,y18.2.2.2,(s4++y18.1)) (fun _=>0) h)
 intro h;cases sj h
 exact kq (hr11 (fun _=>0))
 intro h;cases sj h
 exact kq (hr11 (fun _=>0))
 refine lrc ?_ ?_
 intro v e;subst e;cases sj h;rfl
 intro t a22 e;subst e
 obtain⟨x23,x24,x25,x26⟩:=t
 dsimp only at h
 conv=>lhs;whnf
 revert h
 intro h;cases sj h
 try simp only[ls]
 exact fq (y:=some (AV.sl 9 (List.take (List.length x26) (List.map Al x26)),[Ob.var 112 [AV.sl 4 (List.map A5 p_l),iA x23,AV.mapp 1,iA x24,iA x25],Ob.mp none false (List.map Ab At)]))
theorem A2y (n:Nat) (ih:L7 n):Qq (n+1):=by
 intro Er p_l p_i p_e p_at At r h
 rw[Kz] at h
 refine Ye Tryz.func119 (by rfl) rfl rfl (As rfl) ?_
 intro call hc hcA;conv=>lhs;whnf
 revert h
 refine br ?_ ?_
 refine ix ?_;intro x2
 refine br ?_ ?_
 refine ix ?_;intro x4
 intro h
 simp only[Xb,ls]
 conv=>lhs;whnf
 revert h
 refine ca hc (fun _ h=>A17 h) ?_;intro y5
 refine br ?_ ?_
 refine ca hc (fun _ h=>L9 h) ?_;intro y8
 intro h
 obtain⟨n10,hn14,h⟩:=Nc h
 obtain⟨call11,hc12,hcA15,ho13⟩:=Iu (f:=124) (args:=[AV.ptr 0 0,AV.ptr 2 0]) (hp:=[Ob.var 112 [AV.sl 4 (List.map A5 p_l),iA (IntKind.i64.wrap (p_i+1)),AV.mapp 1,iA p_e,iA p_at],Ob.mp none false (List.map Ab At),Ob.var 38 [iA ((Bc At x4.Au 0)),sA (([]:List UInt8)),sA (([]:List UInt8)),AV.sl 5 [],AV.sl 5 [],bA false,iA (0),iA (0),iA y8]]) hcA hn14 Tryz.func124 (by rfl) rfl rfl (As rfl)
 try simp only[ls]
 simp only[ho13]
 conv=>lhs;whnf
 revert h
 intro h;refine Av h ?_;clear h;intro o32 ho32 h
 refine lq (σ:=(Int×Int×Int×Int×(List UInt8)×(List UInt8)×(List A0)×(List A0)×Bool)) (τ:=(Int×Int×Int×(List UInt8)×(List UInt8)×(List A0)×(List A0)×Bool)) (ν:=((List A2)×Int×Int×Int)) 0 (fun(s16,s17,s18,s19,s20,s21,s22,s23,s24) a26=>B4 157 [(0,AV.ptr 0 0),(1,iA Er),(6,AV.ptr 2 0),(8,AV.ptr 3 0),(9,AV.mapp 6),(84,iA (((y5.1.f_form.length:Nat):Int))),(85,iA s16)]) (fun(s16,s17,s18,s19,s20,s21,s22,s23,s24) a26=>[Ob.var 112 [AV.sl 4 (List.map A5 p_l),iA s17,AV.mapp 1,iA s18,iA s19],Ob.mp none false (List.map Ab At),Ob.var 116 [sA y5.1.f_word,sA y5.1.f_form,bA y5.1.f_body,bA y5.1.f_more],Ob.var 38 [iA ((Bc At x4.Au 0)),sA s20,sA s21,AV.sl 5 (List.map A1 s22),AV.sl 5 (List.map A1 s23),bA s24,iA (0),iA (0),iA y8],Ob.var 109 [AV.ptr 0 0],Ob.var 133 [AV.ptr 3 0],Ob.mpo (some .u8) [[AV.int .u8 (114),AV.func 130 [] [AV.ptr 4 0,AV.ptr 5 0]],[AV.int .u8 (108),AV.func 132 [] [AV.ptr 4 0,AV.ptr 5 0]],[AV.int .u8 (101),AV.func 133 [] [AV.ptr 4 0,AV.ptr 5 0]],[AV.int .u8 (102),AV.func 135 [] [AV.ptr 4 0,AV.ptr 5 0]],[AV.int .u8 (113),AV.func 136 [] [AV.ptr 4 0,AV.ptr 5 0]]]]) (fun(x74,x75,x76,x77,x78,x79,x80,x81) a73=>B4 157 [(0,AV.ptr 0 0),(1,iA Er),(6,AV.ptr 2 0),(8,AV.ptr 3 0)]) (fun(x74,x75,x76,x77,x78,x79,x80,x81) a73=>[Ob.var 112 [AV.sl 4 (List.map A5 p_l),iA x74,AV.mapp 1,iA x75,iA x76],Ob.mp none false (List.map Ab At),Ob.var 116 [sA y5.1.f_word,sA y5.1.f_form,bA y5.1.f_body,bA y5.1.f_more],Ob.var 38 [iA ((Bc At x4.Au 0)),sA x77,sA x78,AV.sl 5 (List.map A1 x79),AV.sl 5 (List.map A1 x80),bA x81,iA (0),iA (0),iA y8],Ob.var 109 [AV.ptr 0 0],Ob.var 133 [AV.ptr 3 0],Ob.mpo (some .u8) [[AV.int .u8 (114),AV.func 130 [] [AV.ptr 4 0,AV.ptr 5 0]],[AV.int .u8 (108),AV.func 132 [] [AV.ptr 4 0,AV.ptr 5 0]],[AV.int .u8 (101),AV.func 133 [] [AV.ptr 4 0,AV.ptr 5 0]],[AV.int .u8 (102),AV.func 135 [] [AV.ptr 4 0,AV.ptr 5 0]],[AV.int .u8 (113),AV.func 136 [] [AV.ptr 4 0,AV.ptr 5 0]]]]) (fun v=>(AV.sl 9 (List.map Al v.1),[Ob.var 112 [AV.sl 4 (List.map A5 p_l),iA v.2.1,AV.mapp 1,iA v.2.2.1,iA v.2.2.2],Ob.mp none false (List.map Ab At)])) (fun k s=>Cc n p_l At x4 y5 y8 k s.1 s.2.1 s.2.2.1 s.2.2.2.1 s.2.2.2.2.1 s.2.2.2.2.2.1 s.2.2.2.2.2.2.1 s.2.2.2.2.2.2.2.1 s.2.2.2.2.2.2.2.2) (fun s=>rfl) o32 n (0,IntKind.i64.wrap (p_i+1),p_e,p_at,([]:List UInt8),([]:List UInt8),([]:List A0),([]:List A0),false) (fun _=>0) ho32 ?_ ?_
 intro k25 ss a26 K27 cont28 hK29 hcont30 h hr31
 obtain⟨s16,s17,s18,s19,s20,s21,s22,s23,s24⟩:=ss
 replace h:Cc n p_l At x4 y5 y8 (k25+1) s16 s17 s18 s19 s20 s21 s22 s23 s24=some o32:=h
 rw[Cc] at h
 conv=>lhs;whnf
 revert h
 refine br ?_ ?_
 refine ixs ?_;intro x34
 refine br ?_ ?_
 refine br ?_ ?_
 refine ca hc (fun _ h=>Z0 h) ?_;intro y37
 exact fun h=>cq (hcont30 (IntKind.i64.wrap (s16+1),y37.1,y37.2.1,y37.2.2.1,y37.2.2.2,s21,s22,s23,s24) (fun _=>0) h)
 refine cp ?_
 refine cr hc (fun _ h=>C8 h) ?_;intro y40
 exact fun h=>cq (hcont30 (IntKind.i64.wrap (s16+1),y40.1,y40.2.1,y40.2.2,s20,s21,s22,s23,s24) (fun _=>0) h)
 refine br ?_ ?_
 refine br ?_ ?_
 refine ca hc (fun _ h=>Z2 h) ?_;intro y44
 exact fun h=>cq (hcont30 (IntKind.i64.wrap (s16+1),y44.1,y44.2.1,y44.2.2.1,s20,y44.2.2.2,s22,s23,s24) (fun _=>0) h)
 refine cp ?_
 refine cr hc (fun _ h=>C8 h) ?_;intro y47
 exact fun h=>cq (hcont30 (IntKind.i64.wrap (s16+1),y47.1,y47.2.1,y47.2.2,s20,s21,s22,s23,s24) (fun _=>0) h)
 refine br ?_ ?_
 refine br ?_ ?_
 refine ca hc (fun _ h=>Yv h) ?_;intro y51
 exact fun h=>cq (hcont30 (IntKind.i64.wrap (s16+1),y51.1,y51.2.1,y51.2.2.1,s20,s21,y51.2.2.2,s23,s24) (fun _=>0) h)
 refine cp ?_
 refine cr hc (fun _ h=>C8 h) ?_;intro y54
 exact fun h=>cq (hcont30 (IntKind.i64.wrap (s16+1),y54.1,y54.2.1,y54.2.2,s20,s21,s22,s23,s24) (fun _=>0) h)
 refine br ?_ ?_
 refine br ?_ ?_
 refine ca hc (fun _ h=>Yt h) ?_;intro y58
 exact fun h=>cq (hcont30 (IntKind.i64.wrap (s16+1),y58.1,y58.2.1,y58.2.2.1,s20,s21,s22,y58.2.2.2,s24) (fun _=>0) h)
 refine cp ?_
 refine cr hc (fun _ h=>C8 h) ?_;intro y61
 exact fun h=>cq (hcont30 (IntKind.i64.wrap (s16+1),y61.1,y61.2.1,y61.2.2,s20,s21,s22,s23,s24) (fun _=>0) h)
 refine br ?_ ?_
 refine br ?_ ?_
 refine ca hc (fun _ h=>Z5 h) ?_;intro y65
 exact fun h=>cq (hcont30 (IntKind.i64.wrap (s16+1),y65.1,y65.2.1,y65.2.2.1,s20,s21,s22,s23,y65.2.2.2) (fun _=>0) h)
 refine cp ?_
 refine cr hc (fun _ h=>C8 h) ?_;intro y68
 exact fun h=>cq (hcont30 (IntKind.i64.wrap (s16+1),y68.1,y68.2.1,y68.2.2,s20,s21,s22,s23,s24) (fun _=>0) h)
 refine cp ?_
 refine cr hc (fun _ h=>C8 h) ?_;intro y71
 exact fun h=>cq (hcont30 (IntKind.i64.wrap (s16+1),y71.1,y71.2.1,y71.2.2,s20,s21,s22,s23,s24) (fun _=>0) h)
 intro h;cases sj h
 exact kq (hr31 (fun _=>0))
 refine lrc ?_ ?_
 intro v e;subst e;cases sj h;rfl
 intro t a73 e;subst e
 obtain⟨x74,x75,x76,x77,x78,x79,x80,x81⟩:=t
 dsimp only at h
 conv=>lhs;whnf
 revert h
 refine br ?_ ?_
 refine ca hc (fun _ h=>ih.1 h) ?_;intro y83
 refine br ?_ ?_
 refine br ?_ ?_
 refine ca hc (fun _ h=>Je h) ?_;intro y87
 refine br ?_ ?_
 refine ca hc (fun _ h=>ih.1 h) ?_;intro y90
 refine ar (ap Al ([[iA ((Bc At x4.Au 0)),sA x77,sA x78,AV.sl 5 (List.map A1 x79),AV.sl 5 (List.map A1 x80),bA x81,iA (((y83.1.length:Nat):Int)),iA (((y90.1.length:Nat):Int)),iA y8]]) ([(⟨(Bc At x4.Au 0),x77,x78,x79,x80,x81,((y83.1.length:Nat):Int),((y90.1.length:Nat):Int),y8⟩:A2)]:List A2) (List.map Al y83.1) y83.1) ?_
 refine ar (ap Al (List.map Al (([(⟨(Bc At x4.Au 0),x77,x78,x79,x80,x81,((y83.1.length:Nat):Int),((y90.1.length:Nat):Int),y8⟩:A2)]:List A2)++y83.1)) (([(⟨(Bc At x4.Au 0),x77,x78,x79,x80,x81,((y83.1.length:Nat):Int),((y90.1.length:Nat):Int),y8⟩:A2)]:List A2)++y83.1) (List.map Al y90.1) y90.1) ?_
 intro h;cases sj h
 try simp only[ls]
 exact fq (y:=some (AV.sl 9 (List.take (List.length (((([(⟨(Bc At x4.Au 0),x77,x78,x79,x80,x81,((y83.1.length:Nat):Int),((y90.1.length:Nat):Int),y8⟩:A2)]:List A2)++y83.1)++y90.1))) (List.map Al ((([(⟨(Bc At x4.Au 0),x77,x78,x79,x80,x81,((y83.1.length:Nat):Int),((y90.1.length:Nat):Int),y8⟩:A2)]:List A2)++y83.1)++y90.1))),[Ob.var 112 [AV.sl 4 (List.map A5 p_l),iA y90.2.1,AV.mapp 1,iA y90.2.2.1,iA y90.2.2.2],Ob.mp none false (List.map Ab At)]))
 refine ar (ap Al ([[iA ((Bc At x4.Au 0)),sA x77,sA x78,AV.sl 5 (List.map A1 x79),AV.sl 5 (List.map A1 x80),bA x81,iA (((y83.1.length:Nat):Int)),iA (0),iA y8]]) ([(⟨(Bc At x4.Au 0),x77,x78,x79,x80,x81,((y83.1.length:Nat):Int),0,y8⟩:A2)]:List A2) (List.map Al y83.1) y83.1) ?_
 intro h
 refine Ad h ?_;clear h;intro hc100 h
 first|refine Am (Zk hc100 (by first|rfl|simp only [B3]) (by first|rfl|simp only [B3]) (by first|rfl|simp only [B3,Cu]) (by kernel_rfl)) ?_|refine Am (X8 hc100 (by first|rfl|simp only [B3]) (by first|rfl|simp only [B3,Cu]) (by kernel_rfl)) ?_
 have hp98:(List.map Al (([(⟨(Bc At x4.Au 0),x77,x78,x79,x80,x81,((y83.1.length:Nat):Int),0,y8⟩:A2)]:List A2)++y83.1):List (List AV))++([]:List (List AV))=(List.map Al (([(⟨(Bc At x4.Au 0),x77,x78,x79,x80,x81,((y83.1.length:Nat):Int),0,y8⟩:A2)]:List A2)++y83.1):List (List AV)):=List.append_nil _
 have hl99:List.length (List.map Al (([(⟨(Bc At x4.Au 0),x77,x78,x79,x80,x81,((y83.1.length:Nat):Int),0,y8⟩:A2)]:List A2)++y83.1):List (List AV))+List.length ([]:List (List AV))=List.length (List.map Al (([(⟨(Bc At x4.Au 0),x77,x78,x79,x80,x81,((y83.1.length:Nat):Int),0,y8⟩:A2)]:List A2)++y83.1):List (List AV)):=rfl
 have hl99_b:List.length (([(⟨(Bc At x4.Au 0),x77,x78,x79,x80,x81,((y83.1.length:Nat):Int),0,y8⟩:A2)]:List A2)++y83.1)+List.length ([]:List (List AV))=List.length (([(⟨(Bc At x4.Au 0),x77,x78,x79,x80,x81,((y83.1.length:Nat):Int),0,y8⟩:A2)]:List A2)++y83.1):=rfl
 try simp only[ls,c0]
 try simp only[hp98,hl99,hl99_b]
 try simp only[ls]
 conv=>lhs;whnf
 revert h
 intro h;cases sj h
 try simp only[ls]
 exact fq (y:=some (AV.sl 9 (List.take (List.length ((([(⟨(Bc At x4.Au 0),x77,x78,x79,x80,x81,((y83.1.length:Nat):Int),0,y8⟩:A2)]:List A2)++y83.1))) (List.map Al (([(⟨(Bc At x4.Au 0),x77,x78,x79,x80,x81,((y83.1.length:Nat):Int),0,y8⟩:A2)]:List A2)++y83.1))),[Ob.var 112 [AV.sl 4 (List.map A5 p_l),iA y83.2.1,AV.mapp 1,iA y83.2.2.1,iA y83.2.2.2],Ob.mp none false (List.map Ab At)]))
 refine ar (ap Al ([[iA ((Bc At x4.Au 0)),sA x77,sA x78,AV.sl 5 (List.map A1 x79),AV.sl 5 (List.map A1 x80),bA x81,iA (((y83.1.length:Nat):Int)),iA (0),iA y8]]) ([(⟨(Bc At x4.Au 0),x77,x78,x79,x80,x81,((y83.1.length:Nat):Int),0,y8⟩:A2)]:List A2) (List.map Al y83.1) y83.1) ?_
 intro h
 refine Ad h ?_;clear h;intro hc105 h
 first|refine Am (Zk hc105 (by first|rfl|simp only [B3]) (by first|rfl|simp only [B3]) (by first|rfl|simp only [B3,Cu]) (by kernel_rfl)) ?_|refine Am (X8 hc105 (by first|rfl|simp only [B3]) (by first|rfl|simp only [B3,Cu]) (by kernel_rfl)) ?_
 have hp103:(List.map Al (([(⟨(Bc At x4.Au 0),x77,x78,x79,x80,x81,((y83.1.length:Nat):Int),0,y8⟩:A2)]:List A2)++y83.1):List (List AV))++([]:List (List AV))=(List.map Al (([(⟨(Bc At x4.Au 0),x77,x78,x79,x80,x81,((y83.1.length:Nat):Int),0,y8⟩:A2)]:List A2)++y83.1):List (List AV)):=List.append_nil _
 have hl104:List.length (List.map Al (([(⟨(Bc At x4.Au 0),x77,x78,x79,x80,x81,((y83.1.length:Nat):Int),0,y8⟩:A2)]:List A2)++y83.1):List (List AV))+List.length ([]:List (List AV))=List.length (List.map Al (([(⟨(Bc At x4.Au 0),x77,x78,x79,x80,x81,((y83.1.length:Nat):Int),0,y8⟩:A2)]:List A2)++y83.1):List (List AV)):=rfl
 have hl104_b:List.length (([(⟨(Bc At x4.Au 0),x77,x78,x79,x80,x81,((y83.1.length:Nat):Int),0,y8⟩:A2)]:List A2)++y83.1)+List.length ([]:List (List AV))=List.length (([(⟨(Bc At x4.Au 0),x77,x78,x79,x80,x81,((y83.1.length:Nat):Int),0,y8⟩:A2)]:List A2)++y83.1):=rfl
 try simp only[ls,c0]
 try simp only[hp103,hl104,hl104_b]
 try simp only[ls]
 conv=>lhs;whnf
 revert h
 intro h;cases sj h
 try simp only[ls]
 exact fq (y:=some (AV.sl 9 (List.take (List.length ((([(⟨(Bc At x4.Au 0),x77,x78,x79,x80,x81,((y83.1.length:Nat):Int),0,y8⟩:A2)]:List A2)++y83.1))) (List.map Al (([(⟨(Bc At x4.Au 0),x77,x78,x79,x80,x81,((y83.1.length:Nat):Int),0,y8⟩:A2)]:List A2)++y83.1))),[Ob.var 112 [AV.sl 4 (List.map A5 p_l),iA y83.2.1,AV.mapp 1,iA y83.2.2.1,iA y83.2.2.2],Ob.mp none false (List.map Ab At)]))
 refine ar (ap Al ([[iA ((Bc At x4.Au 0)),sA x77,sA x78,AV.sl 5 (List.map A1 x79),AV.sl 5 (List.map A1 x80),bA x81,iA (((y83.1.length:Nat):Int)),iA (0),iA y8]]) ([(⟨(Bc At x4.Au 0),x77,x78,x79,x80,x81,((y83.1.length:Nat):Int),0,y8⟩:A2)]:List A2) (List.map Al y83.1) y83.1) ?_
 intro h
 refine Ad h ?_;clear h;intro hc110 h
 first|refine Am (Zk hc110 (by first|rfl|simp only [B3]) (by first|rfl|simp only [B3]) (by first|rfl|simp only [B3,Cu]) (by kernel_rfl)) ?_|refine Am (X8 hc110 (by first|rfl|simp only [B3]) (by first|rfl|simp only [B3,Cu]) (by kernel_rfl)) ?_
 have hp108:(List.map Al (([(⟨(Bc At x4.Au 0),x77,x78,x79,x80,x81,((y83.1.length:Nat):Int),0,y8⟩:A2)]:List A2)++y83.1):List (List AV))++([]:List (List AV))=(List.map Al (([(⟨(Bc At x4.Au 0),x77,x78,x79,x80,x81,((y83.1.length:Nat):Int),0,y8⟩:A2)]:List A2)++y83.1):List (List AV)):=List.append_nil _
 have hl109:List.length (List.map Al (([(⟨(Bc At x4.Au 0),x77,x78,x79,x80,x81,((y83.1.length:Nat):Int),0,y8⟩:A2)]:List A2)++y83.1):List (List AV))+List.length ([]:List (List AV))=List.length (List.map Al (([(⟨(Bc At x4.Au 0),x77,x78,x79,x80,x81,((y83.1.length:Nat):Int),0,y8⟩:A2)]:List A2)++y83.1):List (List AV)):=rfl
 have hl109_b:List.length (([(⟨(Bc At x4.Au 0),x77,x78,x79,x80,x81,((y83.1.length:Nat):Int),0,y8⟩:A2)]:List A2)++y83.1)+List.length ([]:List (List AV))=List.length (([(⟨(Bc At x4.Au 0),x77,x78,x79,x80,x81,((y83.1.length:Nat):Int),0,y8⟩:A2)]:List A2)++y83.1):=rfl
 try simp only[ls,c0]
 try simp only[hp108,hl109,hl109_b]
 try simp only[ls]
 conv=>lhs;whnf
 revert h
 intro h;cases sj h
 try simp only[ls]
 exact fq (y:=some (AV.sl 9 (List.take (List.length ((([(⟨(Bc At x4.Au 0),x77,x78,x79,x80,x81,((y83.1.length:Nat):Int),0,y8⟩:A2)]:List A2)++y83.1))) (List.map Al (([(⟨(Bc At x4.Au 0),x77,x78,x79,x80,x81,((y83.1.length:Nat):Int),0,y8⟩:A2)]:List A2)++y83.1))),[Ob.var 112 [AV.sl 4 (List.map A5 p_l),iA y83.2.1,AV.mapp 1,iA y83.2.2.1,iA y83.2.2.2],Ob.mp none false (List.map Ab At)]))
 refine br ?_ ?_
 refine br ?_ ?_
 refine ca hc (fun _ h=>Je h) ?_;intro y113
 refine br ?_ ?_
 refine ca hc (fun _ h=>ih.1 h) ?_;intro y116
 intro h
 have hp118:([[iA ((Bc At x4.Au 0)),sA x77,sA x78,AV.sl 5 (List.map A1 x79),AV.sl 5 (List.map A1 x80),bA x81,iA (0),iA (((y116.1.length:Nat):Int)),iA y8]]:List (List AV))++([]:List (List AV))=([[iA ((Bc At x4.Au 0)),sA x77,sA x78,AV.sl 5 (List.map A1 x79),AV.sl 5 (List.map A1 x80),bA x81,iA (0),iA (((y116.1.length:Nat):Int)),iA y8]]:List (List AV)):=List.append_nil _
 have hl119:List.length ([[iA ((Bc At x4.Au 0)),sA x77,sA x78,AV.sl 5 (List.map A1 x79),AV.sl 5 (List.map A1 x80),bA x81,iA (0),iA (((y116.1.length:Nat):Int)),iA y8]]:List (List AV))+List.length ([]:List (List AV))=List.length ([[iA ((Bc At x4.Au 0)),sA x77,sA x78,AV.sl 5 (List.map A1 x79),AV.sl 5 (List.map A1 x80),bA x81,iA (0),iA (((y116.1.length:Nat):Int)),iA y8]]:List (List AV)):=rfl
 have hl119_b:List.length ([(⟨(Bc At x4.Au 0),x77,x78,x79,x80,x81,0,((y116.1.length:Nat):Int),y8⟩:A2)]:List A2)+List.length ([]:List (List AV))=List.length ([(⟨(Bc At x4.Au 0),x77,x78,x79,x80,x81,0,((y116.1.length:Nat):Int),y8⟩:A2)]:List A2):=rfl
 try simp only[ls,c0]
 try simp only[hp118,hl119,hl119_b]
 conv=>lhs;whnf
 revert h
 refine ar (ap Al ([[iA ((Bc At x4.Au 0)),sA x77,sA x78,AV.sl 5 (List.map A1 x79),AV.sl 5 (List.map A1 x80),bA x81,iA (0),iA (((y116.1.length:Nat):Int)),iA y8]]) ([(⟨(Bc At x4.Au 0),x77,x78,x79,x80,x81,0,((y116.1.length:Nat):Int),y8⟩:A2)]:List A2) (List.map Al y116.1) y116.1) ?_
 intro h;cases sj h
 try simp only[ls]
 exact fq (y:=some (AV.sl 9 (List.take (List.length ((([(⟨(Bc At x4.Au 0),x77,x78,x79,x80,x81,0,((y116.1.length:Nat):Int),y8⟩:A2)]:List A2)++y116.1))) (List.map Al (([(⟨(Bc At x4.Au 0),x77,x78,x79,x80,x81,0,((y116.1.length:Nat):Int),y8⟩:A2)]:List A2)++y116.1))),[Ob.var 112 [AV.sl 4 (List.map A5 p_l),iA y116.2.1,AV.mapp 1,iA y116.2.2.1,iA y116.2.2.2],Ob.mp none false (List.map Ab At)]))
 intro h
 have hp122:([[iA ((Bc At x4.Au 0)),sA x77,sA x78,AV.sl 5 (List.map A1 x79),AV.sl 5 (List.map A1 x80),bA x81,iA (0),iA (0),iA y8]]:List (List AV))++([]:List (List AV))=([[iA ((Bc At x4.Au 0)),sA x77,sA x78,AV.sl 5 (List.map A1 x79),AV.sl 5 (List.map A1 x80),bA x81,iA (0),iA (0),iA y8]]:List (List AV)):=List.append_nil _
 have hl123:List.length ([[iA ((Bc At x4.Au 0)),sA x77,sA x78,AV.sl 5 (List.map A1 x79),AV.sl 5 (List.map A1 x80),bA x81,iA (0),iA (0),iA y8]]:List (List AV))+List.length ([]:List (List AV))=List.length ([[iA ((Bc At x4.Au 0)),sA x77,sA x78,AV.sl 5 (List.map A1 x79),AV.sl 5 (List.map A1 x80),bA x81,iA (0),iA (0),iA y8]]:List (List AV)):=rfl
 have hl123_b:List.length ([(⟨(Bc At x4.Au 0),x77,x78,x79,x80,x81,0,0,y8⟩:A2)]:List A2)+List.length ([]:List (List AV))=List.length ([(⟨(Bc At x4.Au 0),x77,x78,x79,x80,x81,0,0,y8⟩:A2)]:List A2):=rfl
 try simp only[ls,c0]
 try simp only[hp122,hl123,hl123_b]
 conv=>lhs;whnf
 revert h
 intro h
 have hp124:([[iA ((Bc At x4.Au 0)),sA x77,sA x78,AV.sl 5 (List.map A1 x79),AV.sl 5 (List.map A1 x80),bA x81,iA (0),iA (0),iA y8]]:List (List AV))++([]:List (List AV))=([[iA ((Bc At x4.Au 0)),sA x77,sA x78,AV.sl 5 (List.map A1 x79),AV.sl 5 (List.map A1 x80),bA x81,iA (0),iA (0),iA y8]]:List (List AV)):=List.append_nil _
 have hl125:List.length ([[iA ((Bc At x4.Au 0)),sA x77,sA x78,AV.sl 5 (List.map A1 x79),AV.sl 5 (List.map A1 x80),bA x81,iA (0),iA (0),iA y8]]:List (List AV))+List.length ([]:List (List AV))=List.length ([[iA ((Bc At x4.Au 0)),sA x77,sA x78,AV.sl 5 (List.map A1 x79),AV.sl 5 (List.map A1 x80),bA x81,iA (0),iA (0),iA y8]]:List (List AV)):=rfl
 have hl125_b:List.length ([(⟨(Bc At x4.Au 0),x77,x78,x79,x80,x81,0,0,y8⟩:A2)]:List A2)+List.length ([]:List (List AV))=List.length ([(⟨(Bc At x4.Au 0),x77,x78,x79,x80,x81,0,0,y8⟩:A2)]:List A2):=rfl
 try simp only[ls,c0]
 try simp only[hp124,hl125,hl125_b]
 conv=>lhs;whnf
 revert h
 intro h;cases sj h
 try simp only[ls]
 exact fq (y:=some (AV.sl 9 (List.take (List.length (([(⟨(Bc At x4.Au 0),x77,x78,x79,x80,x81,0,0,y8⟩:A2)]:List A2))) ([[iA ((Bc At x4.Au 0)),sA x77,sA x78,AV.sl 5 (List.map A1 x79),AV.sl 5 (List.map A1 x80),bA x81,iA (0),iA (0),iA y8]])),[Ob.var 112 [AV.sl 4 (List.map A5 p_l),iA x74,AV.mapp 1,iA x75,iA x76],Ob.mp none false (List.map Ab At)]))
 intro h
 have hp126:([[iA ((Bc At x4.Au 0)),sA x77,sA x78,AV.sl 5 (List.map A1 x79),AV.sl 5 (List.map A1 x80),bA x81,iA (0),iA (0),iA y8]]:List (List AV))++([]:List (List AV))=([[iA ((Bc At x4.Au 0)),sA x77,sA x78,AV.sl 5 (List.map A1 x79),AV.sl 5 (List.map A1 x80),bA x81,iA (0),iA (0),iA y8]]:List (List AV)):=List.append_nil _
 have hl127:List.length ([[iA ((Bc At x4.Au 0)),sA x77,sA x78,AV.sl 5 (List.map A1 x79),AV.sl 5 (List.map A1 x80),bA x81,iA (0),iA (0),iA y8]]:List (List AV))+List.length ([]:List (List AV))=List.length ([[iA ((Bc At x4.Au 0)),sA x77,sA x78,AV.sl 5 (List.map A1 x79),AV.sl 5 (List.map A1 x80),bA x81,iA (0),iA (0),iA y8]]:List (List AV)):=rfl
 have hl127_b:List.length ([(⟨(Bc At x4.Au 0),x77,x78,x79,x80,x81,0,0,y8⟩:A2)]:List A2)+List.length ([]:List (List AV))=List.length ([(⟨(Bc At x4.Au 0),x77,x78,x79,x80,x81,0,0,y8⟩:A2)]:List A2):=rfl
 try simp only[ls,c0]
 try simp only[hp126,hl127,hl127_b]
 conv=>lhs;whnf
 revert h
 intro h
 have hp128:([[iA ((Bc At x4.Au 0)),sA x77,sA x78,AV.sl 5 (List.map A1 x79),AV.sl 5 (List.map A1 x80),bA x81,iA (0),iA (0),iA y8]]:List (List AV))++([]:List (List AV))=([[iA ((Bc At x4.Au 0)),sA x77,sA x78,AV.sl 5 (List.map A1 x79),AV.sl 5 (List.map A1 x80),bA x81,iA (0),iA (0),iA y8]]:List (List AV)):=List.append_nil _
 have hl129:List.length ([[iA ((Bc At x4.Au 0)),sA x77,sA x78,AV.sl 5 (List.map A1 x79),AV.sl 5 (List.map A1 x80),bA x81,iA (0),iA (0),iA y8]]:List (List AV))+List.length ([]:List (List AV))=List.length ([[iA ((Bc At x4.Au 0)),sA x77,sA x78,AV.sl 5 (List.map A1 x79),AV.sl 5 (List.map A1 x80),bA x81,iA (0),iA (0),iA y8]]:List (List AV)):=rfl
 have hl129_b:List.length ([(⟨(Bc At x4.Au 0),x77,x78,x79,x80,x81,0,0,y8⟩:A2)]:List A2)+List.length ([]:List (List AV))=List.length ([(⟨(Bc At x4.Au 0),x77,x78,x79,x80,x81,0,0,y8⟩:A2)]:List A2):=rfl
 try simp only[ls,c0]
 try simp only[hp128,hl129,hl129_b]
 conv=>lhs;whnf
 revert h
 intro h;cases sj h
 try simp only[ls]
 exact fq (y:=some (AV.sl 9 (List.take (List.length (([(⟨(Bc At x4.Au 0),x77,x78,x79,x80,x81,0,0,y8⟩:A2)]:List A2))) ([[iA ((Bc At x4.Au 0)),sA x77,sA x78,AV.sl 5 (List.map A1 x79),AV.sl 5 (List.map A1 x80),bA x81,iA (0),iA (0),iA y8]])),[Ob.var 112 [AV.sl 4 (List.map A5 p_l),iA x74,AV.mapp 1,iA x75,iA x76],Ob.mp none false (List.map Ab At)]))
 intro h
 have hp130:([[iA ((Bc At x4.Au 0)),sA x77,sA x78,AV.sl 5 (List.map A1 x79),AV.sl 5 (List.map A1 x80),bA x81,iA (0),iA (0),iA y8]]:List (List AV))++([]:List (List AV))=([[iA ((Bc At x4.Au 0)),sA x77,sA x78,AV.sl 5 (List.map A1 x79),AV.sl 5 (List.map A1 x80),bA x81,iA (0),iA (0),iA y8]]:List (List AV)):=List.append_nil _
 have hl131:List.length ([[iA ((Bc At x4.Au 0)),sA x77,sA x78,AV.sl 5 (List.map A1 x79),AV.sl 5 (List.map A1 x80),bA x81,iA (0),iA (0),iA y8]]:List (List AV))+List.length ([]:List (List AV))=List.length ([[iA ((Bc At x4.Au 0)),sA x77,sA x78,AV.sl 5 (List.map A1 x79),AV.sl 5 (List.map A1 x80),bA x81,iA (0),iA (0),iA y8]]:List (List AV)):=rfl
 have hl131_b:List.length ([(⟨(Bc At x4.Au 0),x77,x78,x79,x80,x81,0,0,y8⟩:A2)]:List A2)+List.length ([]:List (List AV))=List.length ([(⟨(Bc At x4.Au 0),x77,x78,x79,x80,x81,0,0,y8⟩:A2)]:List A2):=rfl
 try simp only[ls,c0]
 try simp only[hp130,hl131,hl131_b]
 conv=>lhs;whnf
 revert h
 intro h
 have hp132:([[iA ((Bc At x4.Au 0)),sA x77,sA x78,AV.sl 5 (List.map A1 x79),AV.sl 5 (List.map A1 x80),bA x81,iA (0),iA (0),iA y8]]:List (List AV))++([]:List (List AV))=([[iA ((Bc At x4.Au 0)),sA x77,sA x78,AV.sl 5 (List.map A1 x79),AV.sl 5 (List.map A1 x80),bA x81,iA (0),iA (0),iA y8]]:List (List AV)):=List.append_nil _
 have hl133:List.length ([[iA ((Bc At x4.Au 0)),sA x77,sA x78,AV.sl 5 (List.map A1 x79),AV.sl 5 (List.map A1 x80),bA x81,iA (0),iA (0),iA y8]]:List (List AV))+List.length ([]:List (List AV))=List.length ([[iA ((Bc At x4.Au 0)),sA x77,sA x78,AV.sl 5 (List.map A1 x79),AV.sl 5 (List.map A1 x80),bA x81,iA (0),iA (0),iA y8]]:List (List AV)):=rfl
 have hl133_b:List.length ([(⟨(Bc At x4.Au 0),x77,x78,x79,x80,x81,0,0,y8⟩:A2)]:List A2)+List.length ([]:List (List AV))=List.length ([(⟨(Bc At x4.Au 0),x77,x78,x79,x80,x81,0,0,y8⟩:A2)]:List A2):=rfl
 try simp only[ls,c0]
 try simp only[hp132,hl133,hl133_b]
 conv=>lhs;whnf
 revert h
 intro h;cases sj h
 try simp only[ls]
 exact fq (y:=some (AV.sl 9 (List.take (List.length (([(⟨(Bc At x4.Au 0),x77,x78,x79,x80,x81,0,0,y8⟩:A2)]:List A2))) ([[iA ((Bc At x4.Au 0)),sA x77,sA x78,AV.sl 5 (List.map A1 x79),AV.sl 5 (List.map A1 x80),bA x81,iA (0),iA (0),iA y8]])),[Ob.var 112 [AV.sl 4 (List.map A5 p_l),iA x74,AV.mapp 1,iA x75,iA x76],Ob.mp none false (List.map Ab At)]))
 refine ca hc (fun _ h=>E9 h) ?_;intro y135
 intro h;cases sj h
 try simp only[ls]
 exact fq (y:=some (AV.sl 9 [],[Ob.var 112 [AV.sl 4 (List.map A5 p_l),iA p_i,AV.mapp 1,iA y135.1,iA y135.2],Ob.mp none false (List.map Ab At)]))
 refine ca hc (fun _ h=>A30 h) ?_;intro y137
 refine ca hc (fun _ h=>E9 h) ?_;intro y139
 intro h;cases sj h
 try simp only[ls]
 exact fq (y:=some (AV.sl 9 [],[Ob.var 112 [AV.sl 4 (List.map A5 p_l),iA p_i,AV.mapp 1,iA y139.1,iA y139.2],Ob.mp none false (List.map Ab At)]))
 refine ca hc (fun _ h=>A30 h) ?_;intro y141
 refine ca hc (fun _ h=>E9 h) ?_;intro y143
 intro h;cases sj h
 try simp only[ls]
 exact fq (y:=some (AV.sl 9 [],[Ob.var 112 [AV.sl 4 (List.map A5 p_l),iA p_i,AV.mapp 1,iA y143.1,iA y143.2],Ob.mp none false (List.map Ab At)]))
theorem T3:∀ n,L7 n
 | 0=>⟨by unfold Oz;intros;rename_i h;exact absurd h (by intro h;cases h),by unfold M2;intros;rename_i h;exact absurd h (by intro h;cases h),by unfold Qq;intros;rename_i h;exact absurd h (by intro h;cases h)⟩
 | n+1=>have ih:=T3 n
   ⟨A0k n ih,A1y n ih,A2y n ih⟩
theorem A22 {n:Nat}:M2 n:=(T3 n).2.1
theorem A1v {n:Nat} ⦃Aa:(List A6)⦄ ⦃C3:Int⦄ ⦃r:((List A2)×Int×Int×Int)⦄:Ti n Aa C3=some r→CN n 77 [AV.sl 4 (List.map A5 Aa),iA C3] []=some (AV.tup [AV.sl 9 (List.map Al r.1),iA r.2.1,iA r.2.2.1,iA r.2.2.2],[]):=by
 intro h;rcases n with _|n;cases h
 rw[Ti] at h
 refine An Tryz.func77 (by rfl) rfl rfl (As rfl) ?_
 intro call hc;conv=>lhs;whnf
 revert h
 refine br ?_ ?_
 exact rz
 refine br ?_ ?_
 exact rz
 refine ca hc (fun _ h=>Vy h) ?_;intro y3
 intro h;refine Av h ?_;clear h;intro o14 ho14 h
 refine lq (σ:=(Int×(List ((List UInt8)×Int)))) (τ:=(List ((List UInt8)×Int))) (ν:=((List A2)×Int×Int×Int)) 0 (fun(s5,s6) a8=>B4 71 [(1,iA C3),(8,AV.ptr 1 0),(25,AV.sl 4 (List.map A4j y3)),(26,iA (((y3.length:Nat):Int))),(27,iA s5)]) (fun(s5,s6) a8=>[Ob.mp none false (List.map Ab s6),Ob.var 112 [AV.sl 4 (List.map A5 Aa),iA C3,AV.mapp 0,iA (0),iA (0)]]) (fun x20 a19=>B4 71 [(1,iA C3),(8,AV.ptr 1 0)]) (fun x20 a19=>[Ob.mp none false (List.map Ab x20),Ob.var 112 [AV.sl 4 (List.map A5 Aa),iA C3,AV.mapp 0,iA (0),iA (0)]]) (fun v=>(AV.tup [AV.sl 9 (List.map Al v.1),iA v.2.1,iA v.2.2.1,iA v.2.2.2],[])) (fun k s=>Mo n y3 k s.1 s.2) (fun s=>rfl) o14 n (0,([]:(List ((List UInt8)×Int)))) (fun _=>0) ho14 ?_ ?_
 intro k7 ss a8 K9 cont10 hK11 hcont12 h hr13
 obtain⟨s5,s6⟩:=ss
 replace h:Mo n y3 (k7+1) s5 s6=some o14:=h
 rw[Mo] at h
 conv=>lhs;whnf
 revert h
 refine br ?_ ?_
 refine ix ?_;intro x16
 refine br ?_ ?_
 exact fun h=>cq (hcont12 (IntKind.i64.wrap (s5+1),s6) (fun _=>0) h)
 intro h
 have hs18:N6 (List.map Ab s6) (sA x16.f_word) (iA s5)=List.map Ab (Rj s6 x16.f_word s5):=Xy _ _ _
 try simp only[hs18]
 conv=>lhs;whnf
 revert h
 exact fun h=>cq (hcont12 (IntKind.i64.wrap (s5+1),(Rj s6 x16.f_word s5)) (fun _=>0) h)
 intro h;cases sj h
 exact kq (hr13 (fun _=>0))
 refine lrc ?_ ?_
 intro v e;subst e;cases sj h;rfl
 intro x20 a19 e;subst e
 dsimp only at h
 conv=>lhs;whnf
 revert h
 refine ca hc (fun _ h=>A22 h) ?_;intro y21
 refine br ?_ ?_
 exact rz
 refine br ?_ ?_
 refine ca hc (fun _ h=>L9 h) ?_;intro y25
 exact rz
 exact rz
theorem A1w {n:Nat} ⦃C6:Int⦄ ⦃r:Bool⦄:Oa n C6=some r→CN n 98 [iA C6] []=some (bA r,[]):=by
 intro h;rcases n with _|n;cases h
 rw[Oa] at h
 refine An Tryz.func98 (by rfl) rfl rfl (As rfl) ?_
 intro call hc;conv=>lhs;whnf
 revert h
 refine br ?_ ?_
 exact rz
 refine br ?_ ?_
 exact rz
 refine br ?_ ?_
 exact rz
 exact rz
def S9 (n:Nat):Prop:=∀ ⦃Aa:(List A2)⦄ ⦃By:Int⦄ ⦃Bt:Int⦄ ⦃r:Int⦄,Kk n Aa By Bt=some r→CN n 110 [AV.sl 9 (List.map Al Aa),iA By,iA Bt] []=some (iA r,[])
def U0 (n:Nat):Prop:=∀ ⦃H8:Int⦄ ⦃Na:Int⦄ ⦃Pd:Int⦄ ⦃o0:(List A2)⦄ ⦃o1:Int⦄ ⦃r:(Bool×Int)⦄,F5 n H8 Na Pd o0 o1=some r→CN n 122 [iA H8,iA Na,iA Pd,AV.ptr 0 0,AV.ptr 1 0] [Ob.var 33 [AV.sl 9 (List.map Al o0)],Ob.var 3 [iA o1]]=some (bA r.1,[Ob.var 33 [AV.sl 9 (List.map Al o0)],Ob.var 3 [iA r.2]])
def L3 (n:Nat):Prop:=∀ ⦃Aa:(List A2)⦄ ⦃By:Int⦄ ⦃Bt:Int⦄ ⦃o0:(List A2)⦄ ⦃o1:Int⦄ ⦃r:(Bool×Int)⦄,G4 n Aa By Bt o0 o1=some r→CN n 94 [AV.sl 9 (List.map Al Aa),iA By,iA Bt,AV.func 122 [] [AV.ptr 0 0,AV.ptr 1 0]] [Ob.var 33 [AV.sl 9 (List.map Al o0)],Ob.var 3 [iA o1]]=some (bA r.1,[Ob.var 33 [AV.sl 9 (List.map Al o0)],Ob.var 3 [iA r.2]])
def Sd (n:Nat):Prop:=S9 n∧U0 n∧L3 n
theorem Aai (n:Nat) (ih:Sd n):S9 (n+1):=by
 intro Aa By Bt r h
 rw[Kk] at h
 refine An Tryz.func110 (by rfl) rfl rfl (As rfl) ?_
 intro call hc;conv=>lhs;whnf
 revert h
 refine ca hc (fun _ h=>ih.2.2 h) ?_;intro y1
 refine br ?_ ?_
 exact rz
 exact rz
theorem A7i (n:Nat) (ih:Sd n):U0 (n+1):=by
 intro H8 Na Pd o0 o1 r h
 rw[F5] at h
 refine An Tryz.func122 (by rfl) rfl rfl (As rfl) ?_
 intro call hc;conv=>lhs;whnf
 revert h
 refine ca hc (fun _ h=>ih.1 h) ?_;intro y1
 refine ca hc (fun _ h=>ih.1 h) ?_;intro y3
 refine ix ?_;intro x5
 refine ca hc (fun _ h=>A1w h) ?_;intro y6
 refine br ?_ ?_
 refine br ?_ ?_
 exact rz
 exact rz
 refine br ?_ ?_
 exact rz
 exact rz
theorem Wk (n:Nat) (ih:Sd n):L3 (n+1):=by
 intro Aa By Bt o0 o1 r h
 rw[G4] at h
 refine An Tryz.func94 (by rfl) rfl rfl (As rfl) ?_
 intro call hc;conv=>lhs;whnf
 revert h
 intro h;refine Av h ?_;clear h;intro o10 ho10 h
 refine lq (σ:=(Int×Int)) (τ:=Int) (ν:=(Bool×Int)) 0 (fun(s1,s2) a4=>B4 63 [(0,AV.sl 9 (List.map Al Aa)),(1,iA s1),(2,iA Bt),(3,AV.func 122 [] [AV.ptr 0 0,AV.ptr 1 0])]) (fun(s1,s2) a4=>[Ob.var 33 [AV.sl 9 (List.map Al o0)],Ob.var 3 [iA s2]]) (fun x21 a20=>B4 63 []) (fun x21 a20=>[Ob.var 33 [AV.sl 9 (List.map Al o0)],Ob.var 3 [iA x21]]) (fun v=>(bA v.1,[Ob.var 33 [AV.sl 9 (List.map Al o0)],Ob.var 3 [iA v.2]])) (fun k s=>C9 n (F5 n) Aa Bt o0 k s.1 s.2) (fun s=>rfl) o10 n (By,o1) (fun _=>0) ho10 ?_ ?_
 intro k3 ss a4 K5 cont6 hK7 hcont8 h hr9
 obtain⟨s1,s2⟩:=ss
 replace h:C9 n (F5 n) Aa Bt o0 (k3+1) s1 s2=some o10:=h
 rw[C9] at h
 conv=>lhs;whnf
 revert h
 refine br ?_ ?_
 refine ix ?_;intro x12
 refine br ?_ ?_
 intro h;cases sj h
 refine(hK7 _ _).trans ?_
 refine Eq.trans ?_ (Eq.symm (show _=some _ from hr9))
 conv=>lhs;whnf
 exact rq
 refine br ?_ ?_
 intro h;cases sj h
 refine(hK7 _ _).trans ?_
 refine Eq.trans ?_ (Eq.symm (show _=some _ from hr9))
 conv=>lhs;whnf
 exact rq
 refine br ?_ ?_
 intro h;cases sj h
 refine(hK7 _ _).trans ?_
 refine Eq.trans ?_ (Eq.symm (show _=some _ from hr9))
 conv=>lhs;whnf
 exact rq
 refine br ?_ ?_
 intro h;cases sj h
 refine(hK7 _ _).trans ?_
 refine Eq.trans ?_ (Eq.symm (show _=some _ from hr9))
 conv=>lhs;whnf
 exact rq
 refine ca hc (fun _ h=>ih.2.1 h) ?_;intro y17
 refine br ?_ ?_
 exact fun h=>cq (hcont8 (IntKind.i64.wrap ((IntKind.i64.wrap ((IntKind.i64.wrap (s1+1))+x12.Aq))+x12.Be),y17.2) (fun _=>0) h)
 intro h;cases sj h
 refine(hK7 _ _).trans ?_
 refine Eq.trans ?_ (Eq.symm (show _=some _ from hr9))
 conv=>lhs;whnf
 exact rq
 intro h;cases sj h
 exact kq (hr9 (fun _=>0))
 refine lrc ?_ ?_
 intro v e;subst e;cases sj h;rfl
 intro x21 a20 e;subst e
 dsimp only at h
 conv=>lhs;whnf
 revert h
 exact rz
theorem A00:∀ n,Sd n
 | 0=>⟨by unfold S9;intros;rename_i h;exact absurd h (by intro h;cases h),by unfold U0;intros;rename_i h;exact absurd h (by intro h;cases h),by unfold L3;intros;rename_i h;exact absurd h (by intro h;cases h)⟩
 | n+1=>have ih:=A00 n
   ⟨Aai n ih,A7i n ih,Wk n ih⟩
theorem Aas {n:Nat}:S9 n:=(A00 n).1
theorem Aat {n:Nat} ⦃Aa:(List A2)⦄ ⦃r:Int⦄:Qt n Aa=some r→CN n 80 [AV.sl 9 (List.map Al Aa)] []=some (iA r,[]):=by
 intro h;rcases n with _|n;cases h
 rw[Qt] at h
 refine An Tryz.func80 (by rfl) rfl rfl (As rfl) ?_
 intro call hc;conv=>lhs;whnf
 revert h
 refine cr hc (fun _ h=>Aas h) ?_;intro y1
 exact rz
theorem If {n:Nat} ⦃Ma:Bm⦄ ⦃Pk:Int⦄ ⦃r:Bool⦄:Dt n Ma Pk=some r→CN n 113 [AV.agg [sA Ma.f_word,sA Ma.f_form,bA Ma.f_body,bA Ma.f_more],AV.int .u8 Pk] []=some (bA r,[]):=by
 intro h;rcases n with _|n;cases h
 rw[Dt] at h
 refine An Tryz.func113 (by rfl) rfl rfl (As rfl) ?_
 intro call hc;conv=>lhs;whnf
 revert h
 intro h;refine Av h ?_;clear h;intro o9 ho9 h
 refine lq (σ:=Int) (τ:=Unit) (ν:=Bool) 0 (fun s1 a3=>B4 19 [(1,AV.int .u8 Pk),(2,AV.ptr 0 0),(8,iA (((Ma.f_form.length:Nat):Int))),(9,iA s1)]) (fun s1 a3=>[Ob.var 116 [sA Ma.f_word,sA Ma.f_form,bA Ma.f_body,bA Ma.f_more]]) (fun _ a13=>B4 19 []) (fun _ a13=>[Ob.var 116 [sA Ma.f_word,sA Ma.f_form,bA Ma.f_body,bA Ma.f_more]]) (fun v=>(bA v,[])) (fun k s=>Em n Ma Pk k s) (fun s=>rfl) o9 n 0 (fun _=>0) ho9 ?_ ?_
 intro k2 s1 a3 K4 cont5 hK6 hcont7 h hr8
 replace h:Em n Ma Pk (k2+1) s1=some o9:=h
 rw[Em] at h
 conv=>lhs;whnf
 revert h
 refine br ?_ ?_
 refine ixs ?_;intro x11
 refine br ?_ ?_
 intro h;cases sj h
 refine(hK6 _ _).trans ?_
 refine Eq.trans ?_ (Eq.symm (show _=some _ from hr8))
 conv=>lhs;whnf
 exact rq
 exact fun h=>cq (hcont7 (IntKind.i64.wrap (s1+1)) (fun _=>0) h)
 intro h;cases sj h
 exact kq (hr8 (fun _=>0))
 refine lrc ?_ ?_
 intro v e;subst e;cases sj h;rfl
 intro t a13 e;subst e
 dsimp only at h
 conv=>lhs;whnf
 revert h
 exact rz
theorem R9 {n:Nat} ⦃H9:Int⦄ ⦃M9:(List UInt8)⦄ ⦃F7:(List UInt8)⦄ ⦃F8:(List UInt8)⦄ ⦃F9:Bool⦄ ⦃Fa:Bool⦄ ⦃r:Bool⦄:Jq n H9 M9 F7 F8 F9 Fa=some r→CN n 112 [AV.int .u8 H9,sA M9,AV.ptr 0 0] [Ob.var 116 [sA F7,sA F8,bA F9,bA Fa]]=some (bA r,[Ob.var 116 [sA F7,sA F8,bA F9,bA Fa]]):=by
 intro h;rcases n with _|n;cases h
 rw[Jq] at h
 refine An Tryz.func112 (by rfl) rfl rfl (As rfl) ?_
 intro call hc;conv=>lhs;whnf
 revert h
 refine ca hc (fun y1 h=>(show CN n 113 [AV.agg [sA F7,sA F8,bA F9,bA Fa],AV.int .u8 H9] []=some (bA y1,[]) from If (r:=y1) h)) ?_;intro y1
 refine br ?_ ?_
 refine ca hc (fun _ h=>Fz h) ?_;intro y4
 refine br ?_ ?_
 exact rz
 refine ca hc (fun y7 h=>(show CN n 113 [AV.agg [sA F7,sA F8,bA F9,bA Fa],AV.int .u8 H9] []=some (bA y7,[]) from If (r:=y7) h)) ?_;intro y7
 refine br ?_ ?_
 exact rz
 exact rz
 refine ca hc (fun y10 h=>(show CN n 113 [AV.agg [sA F7,sA F8,bA F9,bA Fa],AV.int .u8 H9] []=some (bA y10,[]) from If (r:=y10) h)) ?_;intro y10
 refine br ?_ ?_
 exact rz
 exact rz
theorem R7 {n:Nat} ⦃H9:Int⦄ ⦃A8z:(List A0)⦄ ⦃F7:(List UInt8)⦄ ⦃F8:(List UInt8)⦄ ⦃F9:Bool⦄ ⦃Fa:Bool⦄ ⦃r:Bool⦄:Jl n H9 A8z F7 F8 F9 Fa=some r→CN n 114 [AV.int .u8 H9,AV.sl 5 (List.map A1 A8z),AV.ptr 0 0] [Ob.var 116 [sA F7,sA F8,bA F9,bA Fa]]=some (bA r,[Ob.var 116 [sA F7,sA F8,bA F9,bA Fa]]):=by
 intro h;rcases n with _|n;cases h
 rw[Jl] at h
 refine An Tryz.func114 (by rfl) rfl rfl (As rfl) ?_
 intro call hc;conv=>lhs;whnf
 revert h
 refine ca hc (fun y1 h=>(show CN n 113 [AV.agg [sA F7,sA F8,bA F9,bA Fa],AV.int .u8 H9] []=some (bA y1,[]) from If (r:=y1) h)) ?_;intro y1
 refine br ?_ ?_
 refine ca hc (fun _ h=>A1o h) ?_;intro y4
 refine br ?_ ?_
 exact rz
 refine ca hc (fun y7 h=>(show CN n 113 [AV.agg [sA F7,sA F8,bA F9,bA Fa],AV.int .u8 H9] []=some (bA y7,[]) from If (r:=y7) h)) ?_;intro y7
 refine br ?_ ?_
 exact rz
 exact rz
 refine ca hc (fun y10 h=>(show CN n 113 [AV.agg [sA F7,sA F8,bA F9,bA Fa],AV.int .u8 H9] []=some (bA y10,[]) from If (r:=y10) h)) ?_;intro y10
 refine br ?_ ?_
 exact rz
 exact rz
theorem Aef {n:Nat} ⦃Aj:A2⦄ ⦃r:Bool⦄:Rs n Aj=some r→CN n 81 [AV.agg [iA Aj.Ah,sA Aj.Bj,sA Aj.Bg,AV.sl 5 (List.map A1 Aj.Bh),AV.sl 5 (List.map A1 Aj.Cg),bA Aj.Cx,iA Aj.Aq,iA Aj.Be,iA Aj.B0]] []=some (bA r,[]):=by
 intro h;rcases n with _|n;cases h
 rw[Rs] at h
 refine An Tryz.func81 (by rfl) rfl rfl (As rfl) ?_
 intro call hc;conv=>lhs;whnf
 revert h
 refine ca hc (fun _ h=>A17 h) ?_;intro y1
 refine br ?_ ?_
 refine br ?_ ?_
 exact rz
 refine br ?_ ?_
 refine ca hc (fun _ h=>If h) ?_;intro y6
 refine br ?_ ?_
 refine ca hc (fun _ h=>R9 h) ?_;intro y9
 refine br ?_ ?_
 refine ca hc (fun _ h=>R9 h) ?_;intro y12
 refine br ?_ ?_
 refine ca hc (fun _ h=>R7 h) ?_;intro y15
 refine br ?_ ?_
 refine ca hc (fun _ h=>R7 h) ?_;intro y18
 refine br ?_ ?_
 refine br ?_ ?_
 refine br ?_ ?_
 exact rz
 exact rz
 refine br ?_ ?_
 refine br ?_ ?_
 exact rz
 exact rz
 exact rz
 exact rz
 exact rz
 exact rz
 exact rz
 exact rz
 refine ca hc (fun _ h=>R9 h) ?_;intro y25
 refine br ?_ ?_
 refine ca hc (fun _ h=>R9 h) ?_;intro y28
 refine br ?_ ?_
 refine ca hc (fun _ h=>R7 h) ?_;intro y31
 refine br ?_ ?_
 refine ca hc (fun _ h=>R7 h) ?_;intro y34
 refine br ?_ ?_
 refine br ?_ ?_
 refine br ?_ ?_
 exact rz
 exact rz
 refine br ?_ ?_
 refine br ?_ ?_
 exact rz
 exact rz
 exact rz
 exact rz
 exact rz
 exact rz
 exact rz
 exact rz
theorem A1l {n:Nat} ⦃Aa:(List A2)⦄ ⦃r:Bool⦄:Nu n Aa=some r→CN n 54 [AV.sl 9 (List.map Al Aa)] []=some (bA r,[]):=by
 intro h;rcases n with _|n;cases h
 rw[Nu] at h
 refine An Tryz.func54 (by rfl) rfl rfl (As rfl) ?_
 intro call hc;conv=>lhs;whnf
 revert h
 refine ca hc (fun _ h=>Aat h) ?_;intro y1
 refine br ?_ ?_
 exact rz
 refine br ?_ ?_
 exact rz
 refine br ?_ ?_
 exact rz
 intro h;refine Av h ?_;clear h;intro o14 ho14 h
 refine lq (σ:=Int) (τ:=Unit) (ν:=Bool) 0 (fun s6 a8=>B4 29 [(19,AV.sl 9 (List.map Al Aa)),(20,iA (((Aa.length:Nat):Int))),(21,iA s6)]) (fun s6 a8=>[]) (fun _ a20=>B4 29 []) (fun _ a20=>[]) (fun v=>(bA v,[])) (fun k s=>I3 n Aa k s) (fun s=>rfl) o14 n 0 (fun _=>0) ho14 ?_ ?_
 intro k7 s6 a8 K9 cont10 hK11 hcont12 h hr13
 replace h:I3 n Aa (k7+1) s6=some o14:=h
 rw[I3] at h
 conv=>lhs;whnf
 revert h
 refine br ?_ ?_
 refine ix ?_;intro x16
 refine ca hc (fun _ h=>Aef h) ?_;intro y17
 refine br ?_ ?_
 exact fun h=>cq (hcont12 (IntKind.i64.wrap (s6+1)) (fun _=>0) h)
 intro h;cases sj h
 refine(hK11 _ _).trans ?_
 refine Eq.trans ?_ (Eq.symm (show _=some _ from hr13))
 conv=>lhs;whnf
 exact rq
 intro h;cases sj h
 exact kq (hr13 (fun _=>0))
 refine lrc ?_ ?_
 intro v e;subst e;cases sj h;rfl
 intro t a20 e;subst e
 dsimp only at h
 conv=>lhs;whnf
 revert h
 exact rz
theorem Abl {n:Nat} ⦃Aj:A2⦄ ⦃r:(List UInt8)⦄:Rt n Aj=some r→CN n 97 [AV.agg [iA Aj.Ah,sA Aj.Bj,sA Aj.Bg,AV.sl 5 (List.map A1 Aj.Bh),AV.sl 5 (List.map A1 Aj.Cg),bA Aj.Cx,iA Aj.Aq,iA Aj.Be,iA Aj.B0]] []=some (sA r,[]):=by
 intro h;rcases n with _|n;cases h
 rw[Rt] at h
 refine An Tryz.func97 (by rfl) rfl rfl (As rfl) ?_
 intro call hc;conv=>lhs;whnf
 revert h
 refine ca hc (fun _ h=>A17 h) ?_;intro y1
 intro h;refine Av h ?_;clear h;intro o13 ho13 h
 refine lq (σ:=((List UInt8)×Int×Bool)) (τ:=((List UInt8)×Bool)) (ν:=(List UInt8)) 0 (fun(s3,s4,s5) a7=>B4 76 [(1,AV.ptr 0 0),(3,AV.ptr 1 0),(5,sA s3),(18,iA (((y1.1.f_form.length:Nat):Int))),(19,iA s4)]) (fun(s3,s4,s5) a7=>[Ob.var 38 [iA Aj.Ah,sA Aj.Bj,sA Aj.Bg,AV.sl 5 (List.map A1 Aj.Bh),AV.sl 5 (List.map A1 Aj.Cg),bA s5,iA Aj.Aq,iA Aj.Be,iA Aj.B0],Ob.var 116 [sA y1.1.f_word,sA y1.1.f_form,bA y1.1.f_body,bA y1.1.f_more]]) (fun(x41,x42) a40=>B4 76 [(5,sA x41)]) (fun(x41,x42) a40=>[Ob.var 38 [iA Aj.Ah,sA Aj.Bj,sA Aj.Bg,AV.sl 5 (List.map A1 Aj.Bh),AV.sl 5 (List.map A1 Aj.Cg),bA x42,iA Aj.Aq,iA Aj.Be,iA Aj.B0],Ob.var 116 [sA y1.1.f_word,sA y1.1.f_form,bA y1.1.f_body,bA y1.1.f_more]]) (fun v=>(sA v,[])) (fun k s=>D4 n Aj y1 k s.1 s.2.1 s.2.2) (fun s=>rfl) o13 n (y1.1.f_word,0,Aj.Cx) (fun _=>0) ho13 ?_ ?_
 intro k6 ss a7 K8 cont9 hK10 hcont11 h hr12
 obtain⟨s3,s4,s5⟩:=ss
 replace h:D4 n Aj y1 (k6+1) s3 s4 s5=some o13:=h
 rw[D4] at h
 conv=>lhs;whnf
 revert h
 refine br ?_ ?_
 refine ixs ?_;intro x15
 refine br ?_ ?_
 intro h
 refine Ad h ?_;clear h;intro hc17 h
 refine Am hc17 ?_
 try simp only[ls]
 conv=>lhs;whnf
 revert h
 intro h
 refine Ad h ?_;clear h;intro hc18 h
 refine Am hc18 ?_
 try simp only[ls]
 conv=>lhs;whnf
 revert h
 exact fun h=>cq (hcont11 ((s3++(([32]:List UInt8)++Aj.Bj)),IntKind.i64.wrap (s4+1),s5) (fun _=>0) h)
 refine br ?_ ?_
 intro h
 refine Ad h ?_;clear h;intro hc20 h
 refine Am hc20 ?_
 try simp only[ls]
 conv=>lhs;whnf
 revert h
 intro h
 refine Ad h ?_;clear h;intro hc21 h
 refine Am hc21 ?_
 try simp only[ls]
 conv=>lhs;whnf
 revert h
 exact fun h=>cq (hcont11 ((s3++(([32]:List UInt8)++Aj.Bg)),IntKind.i64.wrap (s4+1),s5) (fun _=>0) h)
 refine br ?_ ?_
 refine ca hc (fun _ h=>X3 h) ?_;intro y23
 intro h
 refine Ad h ?_;clear h;intro hc25 h
 refine Am hc25 ?_
 try simp only[ls]
 conv=>lhs;whnf
 revert h
 intro h
 refine Ad h ?_;clear h;intro hc26 h
 refine Am hc26 ?_
 try simp only[ls]
 conv=>lhs;whnf
 revert h
 exact fun h=>cq (hcont11 ((s3++(([32]:List UInt8)++y23)),IntKind.i64.wrap (s4+1),s5) (fun _=>0) h)
 refine br ?_ ?_
 refine ca hc (fun _ h=>X3 h) ?_;intro y28
 intro h
 refine Ad h ?_;clear h;intro hc30 h
 refine Am hc30 ?_
 try simp only[ls]
 conv=>lhs;whnf
 revert h
 intro h
 refine Ad h ?_;clear h;intro hc31 h
 refine Am hc31 ?_
 try simp only[ls]
 conv=>lhs;whnf
 revert h
 exact fun h=>cq (hcont11 ((s3++(([32]:List UInt8)++y28)),IntKind.i64.wrap (s4+1),s5) (fun _=>0) h)
 refine br ?_ ?_
 refine br ?_ ?_
 intro h
 refine Ad h ?_;clear h;intro hc34 h
 refine Am hc34 ?_
 try simp only[ls]
 conv=>lhs;whnf
 revert h
 exact fun h=>cq (hcont11 ((s3++([32,33,61]:List UInt8)),IntKind.i64.wrap (s4+1),true) (fun _=>0) h)
 intro h
 refine Ad h ?_;clear h;intro hc35 h
 refine Am hc35 ?_
 try simp only[ls]
 conv=>lhs;whnf
 revert h
 exact fun h=>cq (hcont11 ((s3++([32,61,61]:List UInt8)),IntKind.i64.wrap (s4+1),false) (fun _=>0) h)
 refine br ?_ ?_
 intro h
 refine Ad h ?_;clear h;intro hc37 h
 refine Am hc37 ?_
 try simp only[ls]
 conv=>lhs;whnf
 revert h
 exact fun h=>cq (hcont11 ((s3++([32,61]:List UInt8)),IntKind.i64.wrap (s4+1),s5) (fun _=>0) h)
 refine cp ?_
 intro h
 refine Ad h ?_;clear h;intro hc39 h
 refine Am hc39 ?_
 try simp only[ls]
 conv=>lhs;whnf
 revert h
 exact fun h=>cq (hcont11 ((s3++([UInt8.ofNat (IntKind.i32.wrap ((x15.toNat:Int))).toNat])),IntKind.i64.wrap (s4+1),s5) (fun _=>0) h)
 intro h;cases sj h
 exact kq (hr12 (fun _=>0))
 refine lrc ?_ ?_
 intro v e;subst e;cases sj h;rfl
 intro t a40 e;subst e
 obtain⟨x41,x42⟩:=t
 dsimp only at h
 conv=>lhs;whnf
 revert h
 exact rz
theorem Ys {n:Nat} ⦃F6:Int⦄ ⦃r:(List UInt8)⦄:Ol n F6=some r→CN n 96 [iA F6] []=some (sA r,[]):=by
 intro h;rcases n with _|n;cases h
 rw[Ol] at h
 refine An Tryz.func96 (by rfl) rfl rfl (As rfl) ?_
 intro call hc;conv=>lhs;whnf
 revert h
 intro h;refine Av h ?_;clear h;intro o10 ho10 h
 refine lq (σ:=((List UInt8)×Int)) (τ:=(List UInt8)) (ν:=(List UInt8)) 0 (fun(s1,s2) a4=>B4 11 [(3,sA s1),(4,iA F6),(5,iA s2)]) (fun(s1,s2) a4=>[]) (fun x14 a13=>B4 11 [(3,sA x14)]) (fun x14 a13=>[]) (fun v=>(sA v,[])) (fun k s=>Ke n F6 k s.1 s.2) (fun s=>rfl) o10 n (([]:List UInt8),0) (fun _=>0) ho10 ?_ ?_
 intro k3 ss a4 K5 cont6 hK7 hcont8 h hr9
 obtain⟨s1,s2⟩:=ss
 replace h:Ke n F6 (k3+1) s1 s2=some o10:=h
 rw[Ke] at h
 conv=>lhs;whnf
 revert h
 refine br ?_ ?_
 intro h
 refine Ad h ?_;clear h;intro hc12 h
 refine Am hc12 ?_
 try simp only[ls]
 conv=>lhs;whnf
 revert h
 exact fun h=>cq (hcont8 ((s1++([32,32]:List UInt8)),IntKind.i64.wrap (s2+1)) (fun _=>0) h)
 intro h;cases sj h
 exact kq (hr9 (fun _=>0))
 refine lrc ?_ ?_
 intro v e;subst e;cases sj h;rfl
 intro x14 a13 e;subst e
 dsimp only at h
 conv=>lhs;whnf
 revert h
 exact rz
def Tz (n:Nat):Prop:=∀ ⦃Aa:(List A2)⦄ ⦃By:Int⦄ ⦃Bt:Int⦄ ⦃D9:Int⦄ ⦃r:(List UInt8)⦄,It n Aa By Bt D9=some r→CN n 66 [AV.sl 9 (List.map Al Aa),iA By,iA Bt,iA D9] []=some (sA r,[])
def Up (n:Nat):Prop:=∀ ⦃H8:Int⦄ ⦃Na:Int⦄ ⦃Pd:Int⦄ ⦃o0:(List UInt8)⦄ ⦃o1:Int⦄ ⦃o2:(List A2)⦄ ⦃r:(Bool×(List UInt8))⦄,Jn n H8 Na Pd o0 o1 o2=some r→CN n 95 [iA H8,iA Na,iA Pd,AV.ptr 0 0,AV.ptr 1 0,AV.ptr 2 0] [Ob.var 9 [sA o0],Ob.var 3 [iA o1],Ob.var 33 [AV.sl 9 (List.map Al o2)]]=some (bA r.1,[Ob.var 9 [sA r.2],Ob.var 3 [iA o1],Ob.var 33 [AV.sl 9 (List.map Al o2)]])
def Lh (n:Nat):Prop:=∀ ⦃Aa:(List A2)⦄ ⦃By:Int⦄ ⦃Bt:Int⦄ ⦃o0:(List UInt8)⦄ ⦃o1:Int⦄ ⦃o2:(List A2)⦄ ⦃r:(Bool×(List UInt8))⦄,Ej n Aa By Bt o0 o1 o2=some r→CN n 94 [AV.sl 9 (List.map Al Aa),iA By,iA Bt,AV.func 95 [] [AV.ptr 0 0,AV.ptr 1 0,AV.ptr 2 0]] [Ob.var 9 [sA o0],Ob.var 3 [iA o1],Ob.var 33 [AV.sl 9 (List.map Al o2)]]=some (bA r.1,[Ob.var 9 [sA r.2],Ob.var 3 [iA o1],Ob.var 33 [AV.sl 9 (List.map Al o2)]])
def U4 (n:Nat):Prop:=Tz n∧Up n∧Lh n
theorem Adp (n:Nat) (ih:U4 n):Tz (n+1):=by
 intro Aa By Bt D9 r h
 rw[It] at h
 refine An Tryz.func66 (by rfl) rfl rfl (As rfl) ?_
 intro call hc;conv=>lhs;whnf
 revert h
 refine cr hc (fun _ h=>ih.2.2 h) ?_;intro y1
 exact rz
theorem A8e (n:Nat) (ih:U4 n):Up (n+1):=by
 intro H8 Na Pd o0 o1 o2 r h
 rw[Jn] at h
 refine An Tryz.func95 (by rfl) rfl rfl (As rfl) ?_
 intro call hc;conv=>lhs;whnf
 revert h
 refine ca hc (fun _ h=>Ys h) ?_;intro y1
 refine ix ?_;intro x3
 refine ca hc (fun _ h=>Abl h) ?_;intro y4
 intro h
 refine Ad h ?_;clear h;intro hc6 h
 refine Am hc6 ?_
 try simp only[ls]
 conv=>lhs;whnf
 revert h
 intro h
 refine Ad h ?_;clear h;intro hc7 h
 refine Am hc7 ?_
 try simp only[ls]
 conv=>lhs;whnf
 revert h
 refine ix ?_;intro x8
 refine ca hc (fun _ h=>A1w h) ?_;intro y9
 refine br ?_ ?_
 refine ca hc (fun _ h=>ih.1 h) ?_;intro y12
 intro h
 refine Ad h ?_;clear h;intro hc14 h
 refine Am hc14 ?_
 try simp only[ls]
 conv=>lhs;whnf
 revert h
 refine ca hc (fun _ h=>Ys h) ?_;intro y15
 intro h
 refine Ad h ?_;clear h;intro hc17 h
 refine Am hc17 ?_
 try simp only[ls]
 conv=>lhs;whnf
 revert h
 intro h
 refine Ad h ?_;clear h;intro hc18 h
 refine Am hc18 ?_
 try simp only[ls]
 conv=>lhs;whnf
 revert h
 refine br ?_ ?_
 refine ca hc (fun _ h=>ih.1 h) ?_;intro y20
 intro h
 refine Ad h ?_;clear h;intro hc22 h
 refine Am hc22 ?_
 try simp only[ls]
 conv=>lhs;whnf
 revert h
 refine ca hc (fun _ h=>Ys h) ?_;intro y23
 intro h
 refine Ad h ?_;clear h;intro hc25 h
 refine Am hc25 ?_
 try simp only[ls]
 conv=>lhs;whnf
 revert h
 intro h
 refine Ad h ?_;clear h;intro hc26 h
 refine Am hc26 ?_
 try simp only[ls]
 conv=>lhs;whnf
 revert h
 intro h
 refine Ad h ?_;clear h;intro hc27 h
 refine Am hc27 ?_
 try simp only[ls]
 conv=>lhs;whnf
 revert h
 intro h
 refine Ad h ?_;clear h;intro hc28 h
 refine Am hc28 ?_
 try simp only[ls]
 conv=>lhs;whnf
 revert h
 exact rz
 intro h
 refine Ad h ?_;clear h;intro hc29 h
 refine Am hc29 ?_
 try simp only[ls]
 conv=>lhs;whnf
 revert h
 intro h
 refine Ad h ?_;clear h;intro hc30 h
 refine Am hc30 ?_
 try simp only[ls]
 conv=>lhs;whnf
 revert h
 exact rz
 intro h
 refine Ad h ?_;clear h;intro hc31 h
 refine Am hc31 ?_
 try simp only[ls]
 conv=>lhs;whnf
 revert h
 exact rz
theorem Wx (n:Nat) (ih:U4 n):Lh (n+1):=by
 intro Aa By Bt o0 o1 o2 r h
 rw[Ej] at h
 refine An Tryz.func94 (by rfl) rfl rfl (As rfl) ?_
 intro call hc;conv=>lhs;whnf
 revert h
 intro h;refine Av h ?_;clear h;intro o10 ho10 h
 refine lq (σ:=(Int×(List UInt8))) (τ:=(List UInt8)) (ν:=(Bool×(List UInt8))) 0 (fun(s1,s2) a4=>B4 63 [(0,AV.sl 9 (List.map Al Aa)),(1,iA s1),(2,iA Bt),(3,AV.func 95 [] [AV.ptr 0 0,AV.ptr 1 0,AV.ptr 2 0])]) (fun(s1,s2) a4=>[Ob.var 9 [sA s2],Ob.var 3 [iA o1],Ob.var 33 [AV.sl 9 (List.map Al o2)]]) (fun x21 a20=>B4 63 []) (fun x21 a20=>[Ob.var 9 [sA x21],Ob.var 3 [iA o1],Ob.var 33 [AV.sl 9 (List.map Al o2)]]) (fun v=>(bA v.1,[Ob.var 9 [sA v.2],Ob.var 3 [iA o1],Ob.var 33 [AV.sl 9 (List.map Al o2)]])) (fun k s=>Cs n (Jn n) Aa Bt o1 o2 k s.1 s.2) (fun s=>rfl) o10 n (By,o0) (fun _=>0) ho10 ?_ ?_
 intro k3 ss a4 K5 cont6 hK7 hcont8 h hr9
 obtain⟨s1,s2⟩:=ss
 replace h:Cs n (Jn n) Aa Bt o1 o2 (k3+1) s1 s2=some o10:=h
 rw[Cs] at h
 conv=>lhs;whnf
 revert h
 refine br ?_ ?_
 refine ix ?_;intro x12
 refine br ?_ ?_
 intro h;cases sj h
 refine(hK7 _ _).trans ?_
 refine Eq.trans ?_ (Eq.symm (show _=some _ from hr9))
 conv=>lhs;whnf
 exact rq
 refine br ?_ ?_
 intro h;cases sj h
 refine(hK7 _ _).trans ?_
 refine Eq.trans ?_ (Eq.symm (show _=some _ from hr9))
 conv=>lhs;whnf
 exact rq
 refine br ?_ ?_
 intro h;cases sj h
 refine(hK7 _ _).trans ?_
 refine Eq.trans ?_ (Eq.symm (show _=some _ from hr9))
 conv=>lhs;whnf
 exact rq
 refine br ?_ ?_
 intro h;cases sj h
 refine(hK7 _ _).trans ?_
 refine Eq.trans ?_ (Eq.symm (show _=some _ from hr9))
 conv=>lhs;whnf
 exact rq
 refine ca hc (fun _ h=>ih.2.1 h) ?_;intro y17
 refine br ?_ ?_
 exact fun h=>cq (hcont8 (IntKind.i64.wrap ((IntKind.i64.wrap ((IntKind.i64.wrap (s1+1))+x12.Aq))+x12.Be),y17.2) (fun _=>0) h)
 intro h;cases sj h
 refine(hK7 _ _).trans ?_
 refine Eq.trans ?_ (Eq.symm (show _=some _ from hr9))
 conv=>lhs;whnf
 exact rq
 intro h;cases sj h
 exact kq (hr9 (fun _=>0))
 refine lrc ?_ ?_
 intro v e;subst e;cases sj h;rfl
 intro x21 a20 e;subst e
 dsimp only at h
 conv=>lhs;whnf
 revert h
 exact rz
theorem A1s:∀ n,U4 n
 | 0=>⟨by unfold Tz;intros;rename_i h;exact absurd h (by intro h;cases h),by unfold Up;intros;rename_i h;exact absurd h (by intro h;cases h),by unfold Lh;intros;rename_i h;exact absurd h (by intro h;cases h)⟩
 | n+1=>have ih:=A1s n
   ⟨Adp n ih,A8e n ih,Wx n ih⟩
theorem Acj {n:Nat}:Tz n:=(A1s n).1
theorem A2z {n:Nat} ⦃Aa:(List A2)⦄ ⦃Lg:Int⦄ ⦃r:(List UInt8)⦄:Ng n Aa Lg=some r→CN n 34 [AV.sl 9 (List.map Al Aa),iA Lg] []=some (sA r,[]):=by
 intro h;rcases n with _|n;cases h
 rw[Ng] at h
 refine An Tryz.func34 (by rfl) rfl rfl (As rfl) ?_
 intro call hc;conv=>lhs;whnf
 revert h
 refine br ?_ ?_
 exact rz
 refine br ?_ ?_
 exact rz
 refine ca hc (fun _ h=>A1l h) ?_;intro y3
 refine br ?_ ?_
 refine cr hc (fun _ h=>Acj h) ?_;intro y6
 exact rz
 exact rz
theorem Vq {n:Nat} ⦃Aa:(List A0)⦄ ⦃r:(List A0)⦄:Lp n Aa=some r→CN n 17 [AV.sl 5 (List.map A1 Aa)] []=some (AV.sl 5 (List.map A1 r),[]):=by
 intro h;rcases n with _|n;cases h
 rw[Lp] at h
 refine An Tryz.func17 (by rfl) rfl rfl (As rfl) ?_
 intro call hc;conv=>lhs;whnf
 revert h
 refine cn ?_
 refine br ?_ ?_
 intro h;refine Av h ?_;clear h;intro o12 ho12 h
 refine lq (σ:=(Int×(List A0))) (τ:=(List A0)) (ν:=(List A0)) 0 (fun(s3,s4) a6=>B4 18 [(3,AV.stk 0 (a6 0) (List.length s4)),(8,iA ((((([]:List A0)).length:Nat):Int))),(9,iA s3)]) (fun(s3,s4) a6=>[Ob.stk (a6 0) 42 5 (List.map A1 s4)]) (fun x17 a16=>B4 18 [(3,AV.stk 0 (a16 0) (List.length x17))]) (fun x17 a16=>[Ob.stk (a16 0) 42 5 (List.map A1 x17)]) (fun v=>(AV.sl 5 (List.map A1 v),[])) (fun k s=>Mq n k s.1 s.2) (fun s=>rfl) o12 n (0,([]:List A0)) (fun j=>(bif Nat.beq j 0 then 0 else 0)) ho12 ?_ ?_
 intro k5 ss a6 K7 cont8 hK9 hcont10 h hr11
 obtain⟨s3,s4⟩:=ss
 replace h:Mq n (k5+1) s3 s4=some o12:=h
 rw[Mq] at h
 conv=>lhs;whnf
 revert h
 refine br ?_ ?_
 intro h
 refine Av h ?_;clear h;intro x14 hx14 h
 try simp only[Ep]
 conv=>lhs;whnf
 try simp only[ls]
 refine Am (by first|exact Fh hx14|exact T1 hx14|exact Wu hx14|exact Kq hx14|(have q:=Fh hx14;simp only[List.length_set] at q;exact q)|(have q:=Kq hx14;simp only[List.length_set,Nat.zero_add] at q ⊢;exact q)) ?_
 conv=>lhs;whnf
 try simp only[Kp (f:=A1) hx14,Ep,ls]
 conv=>lhs;whnf
 revert h
 intro h
 have hs15:C7 (List.map A1 s4) s3.toNat [iA x14.B1,iA x14.Bk,sA x14.Ae,sA x14.C2,iA (0)]=List.map A1 (List.set s4 s3.toNat (⟨x14.B1,x14.Bk,x14.Ae,x14.C2,0⟩:A0)):=by rw[Br,List.map_set];rfl
 have hs15_u:C7 (List.map A1 s4) s3.toNat (M8 (A1 x14) 4 [iA (0)])=List.map A1 (List.set s4 s3.toNat (⟨x14.B1,x14.Bk,x14.Ae,x14.C2,0⟩:A0)):=by rw[Br,List.map_set];rfl
 try simp only[Kp (f:=A1) hx14,Ep]
 conv=>lhs;whnf
 try simp only[hs15,hs15_u,Ep]
 conv=>lhs;whnf
 revert h
 exact fun h=>cq (hcont10 (IntKind.i64.wrap (s3+1),(List.set s4 s3.toNat (⟨x14.B1,x14.Bk,x14.Ae,x14.C2,0⟩:A0))) (fun j=>(bif Nat.beq j 0 then(a6 0) else 0)) h)
 intro h;cases sj h
 exact kq (hr11 (fun j=>(bif Nat.beq j 0 then(a6 0) else 0)))
 refine lrc ?_ ?_
 intro v e;subst e;cases sj h;rfl
 intro x17 a16 e;subst e
 dsimp only at h
 conv=>lhs;whnf
 revert h
 intro h;obtain rfl:=sj h
 try simp only[ls]
 exact fq (y:=some (AV.sl 5 (List.take (List.length x17) (List.map A1 x17)),[]))
 intro h;refine Av h ?_;clear h;intro o28 ho28 h
 refine lq (σ:=(Int×(List A0))) (τ:=(List A0)) (ν:=(List A0)) 0 (fun(s19,s20) a22=>B4 18 [(3,AV.own 0 0 (List.length s20)),(8,iA (((Aa.length:Nat):Int))),(9,iA s19)]) (fun(s19,s20) a22=>[Ob.arr 5 (List.map A1 s20)]) (fun x33 a32=>B4 18 [(3,AV.own 0 0 (List.length x33))]) (fun x33 a32=>[Ob.arr 5 (List.map A1 x33)]) (fun v=>(AV.sl 5 (List.map A1 v),[])) (fun k s=>I7 n Aa k s.1 s.2) (fun s=>rfl) o28 n (0,Aa) (fun _=>0) ho28 ?_ ?_
 intro k21 ss a22 K23 cont24 hK25 hcont26 h hr27
 obtain⟨s19,s20⟩:=ss
 replace h:I7 n Aa (k21+1) s19 s20=some o28:=h
 rw[I7] at h
 conv=>lhs;whnf
 revert h
 refine br ?_ ?_
 intro h
 refine Av h ?_;clear h;intro x30 hx30 h
 try simp only[ls]
 refine Am (by first|exact Fh hx30|exact T1 hx30|exact Wu hx30|exact Kq hx30|(have q:=Fh hx30;simp only[List.length_set] at q;exact q)|(have q:=Kq hx30;simp only[List.length_set,Nat.zero_add] at q ⊢;exact q)) ?_
 conv=>lhs;whnf
 try simp only[Nat.zero_add,Kp (f:=A1) hx30,Ep,ls]
 conv=>lhs;whnf
 revert h
 intro h
 have hs31:C7 (List.map A1 s20) s19.toNat [iA x30.B1,iA x30.Bk,sA x30.Ae,sA x30.C2,iA (0)]=List.map A1 (List.set s20 s19.toNat (⟨x30.B1,x30.Bk,x30.Ae,x30.C2,0⟩:A0)):=by rw[Br,List.map_set];rfl
 have hs31_u:C7 (List.map A1 s20) s19.toNat (M8 (A1 x30) 4 [iA (0)])=List.map A1 (List.set s20 s19.toNat (⟨x30.B1,x30.Bk,x30.Ae,x30.C2,0⟩:A0)):=by rw[Br,List.map_set];rfl
 try simp only[Nat.zero_add,Kp (f:=A1) hx30]
 conv=>lhs;whnf
 try simp only[hs31,hs31_u]
 conv=>lhs;whnf
 revert h
 exact fun h=>cq (hcont26 (IntKind.i64.wrap (s19+1),(List.set s20 s19.toNat (⟨x30.B1,x30.Bk,x30.Ae,x30.C2,0⟩:A0))) (fun _=>0) h)
 intro h;cases sj h
 exact kq (hr27 (fun _=>0))
 refine lrc ?_ ?_
 intro v e;subst e;cases sj h;rfl
 intro x33 a32 e;subst e
 dsimp only at h
 conv=>lhs;whnf
 revert h
 intro h;obtain rfl:=sj h
 try simp only[ls]
 exact fq (y:=some (AV.sl 5 (List.take (List.length x33) (List.drop 0 (List.map A1 x33))),[]))
theorem A2s {n:Nat} ⦃A9:Ar⦄ ⦃r:Ar⦄:Lc n A9=some r→CN n 6 [AV.agg [iA A9.B2,AV.sl 3 (List.map Ak A9.Ao),AV.sl 4 (List.map A8 A9.A7),AV.sl 3 (List.map Af A9.Ac)]] []=some (AV.agg [iA r.B2,AV.sl 3 (List.map Ak r.Ao),AV.sl 4 (List.map A8 r.A7),AV.sl 3 (List.map Af r.Ac)],[]):=by
 intro h;rcases n with _|n;cases h
 rw[Lc] at h
 refine An Tryz.func6 (by rfl) rfl rfl (As rfl) ?_
 intro call hc;conv=>lhs;whnf
 revert h
 intro h;refine Av h ?_;clear h;intro o10 ho10 h
 refine lq (σ:=(Int×(List Az))) (τ:=(List Az)) (ν:=Ar) 0 (fun(s1,s2) a4=>B4 97 [(1,AV.ptr 0 0),(2,AV.ptr 1 0),(3,AV.ptr 2 0),(17,AV.sl 3 (List.map Ak A9.Ao)),(18,iA (((A9.Ao.length:Nat):Int))),(19,iA s1)]) (fun(s1,s2) a4=>[Ob.var 26 [iA A9.B2,AV.sl 3 (List.map Ak A9.Ao),AV.sl 4 (List.map A8 A9.A7),AV.sl 3 (List.map Af A9.Ac)],Ob.var 26 [iA (0),AV.row 3 (List.length (([]:List Az))),AV.row 4 (List.length (([]:List Ag))),AV.row 5 (List.length (([]:List Ai)))],Ob.var 26 [iA A9.B2,AV.row 6 (List.length s2),AV.row 7 (List.length (([]:List Ag))),AV.row 8 (List.length (([]:List Ai)))],Ob.row 44 3 ([]),Ob.row 35 4 ([]),Ob.row 40 3 ([]),Ob.row 44 3 (List.map Ak s2),Ob.row 35 4 ([]),Ob.row 40 3 ([])]) (fun x16 a15=>B4 97 [(1,AV.ptr 0 0),(2,AV.ptr 1 0),(3,AV.ptr 2 0)]) (fun x16 a15=>[Ob.var 26 [iA A9.B2,AV.sl 3 (List.map Ak A9.Ao),AV.sl 4 (List.map A8 A9.A7),AV.sl 3 (List.map Af A9.Ac)],Ob.var 26 [iA (0),AV.row 3 (List.length (([]:List Az))),AV.row 4 (List.length (([]:List Ag))),AV.row 5 (List.length (([]:List Ai)))],Ob.var 26 [iA A9.B2,AV.row 6 (List.length x16),AV.row 7 (List.length (([]:List Ag))),AV.row 8 (List.length (([]:List Ai)))],Ob.row 44 3 ([]),Ob.row 35 4 ([]),Ob.row 40 3 ([]),Ob.row 44 3 (List.map Ak x16),Ob.row 35 4 ([]),Ob.row 40 3 ([])]) (fun v=>(AV.agg [iA v.B2,AV.sl 3 (List.map Ak v.Ao),AV.sl 4 (List.map A8 v.A7),AV.sl 3 (List.map Af v.Ac)],[])) (fun k s=>Jd n A9 k s.1 s.2) (fun s=>rfl) o10 n (0,([]:List Az)) (fun _=>0) ho10 ?_ ?_
 intro k3 ss a4 K5 cont6 hK7 hcont8 h hr9
 obtain⟨s1,s2⟩:=ss
 replace h:Jd n A9 (k3+1) s1 s2=some o10:=h
 rw[Jd] at h
 conv=>lhs;whnf
 revert h
 refine br ?_ ?_
 refine ix ?_;intro x12
 refine ar (ap Ak (List.map Ak s2) s2 ([[sA x12.Ae,iA x12.Bk,iA (0)]]) ([(⟨x12.Ae,x12.Bk,0⟩:Az)]:List Az)) ?_
 exact fun h=>cq (hcont8 (IntKind.i64.wrap (s1+1),(s2++([(⟨x12.Ae,x12.Bk,0⟩:Az)]:List Az))) (fun _=>0) h)
 intro h;cases sj h
 exact kq (hr9 (fun _=>0))
 refine lrc ?_ ?_
 intro v e;subst e;cases sj h;rfl
 intro x16 a15 e;subst e
 dsimp only at h
 conv=>lhs;whnf
 revert h
 intro h;refine Av h ?_;clear h;intro o26 ho26 h
 refine lq (σ:=(Int×(List Ag))) (τ:=(List Ag)) (ν:=Ar) 2 (fun(s17,s18) a20=>B4 97 [(1,AV.ptr 0 0),(2,AV.ptr 1 0),(3,AV.ptr 2 0),(35,AV.sl 4 (List.map A8 A9.A7)),(36,iA (((A9.A7.length:Nat):Int))),(37,iA s17)]) (fun(s17,s18) a20=>[Ob.var 26 [iA A9.B2,AV.sl 3 (List.map Ak A9.Ao),AV.sl 4 (List.map A8 A9.A7),AV.sl 3 (List.map Af A9.Ac)],Ob.var 26 [iA (0),AV.row 3 (List.length (([]:List Az))),AV.row 4 (List.length (([]:List Ag))),AV.row 5 (List.length (([]:List Ai)))],Ob.var 26 [iA A9.B2,AV.row 6 (List.length x16),AV.row 7 (List.length s18),AV.row 8 (List.length (([]:List Ai)))],Ob.row 44 3 ([]),Ob.row 35 4 ([]),Ob.row 40 3 ([]),Ob.row 44 3 (List.map Ak x16),Ob.row 35 4 (List.map A8 s18),Ob.row 40 3 ([])]) (fun x54 a53=>B4 97 [(1,AV.ptr 0 0),(2,AV.ptr 1 0),(3,AV.ptr 2 0)]) (fun x54 a53=>[Ob.var 26 [iA A9.B2,AV.sl 3 (List.map Ak A9.Ao),AV.sl 4 (List.map A8 A9.A7),AV.sl 3 (List.map Af A9.Ac)],Ob.var 26 [iA (0),AV.row 3 (List.length (([]:List Az))),AV.row 4 (List.length (([]:List Ag))),AV.row 5 (List.length (([]:List Ai)))],Ob.var 26 [iA A9.B2,AV.row 6 (List.length x16),AV.row 7 (List.length x54),AV.row 8 (List.length (([]:List Ai)))],Ob.row 44 3 ([]),Ob.row 35 4 ([]),Ob.row 40 3 ([]),Ob.row 44 3 (List.map Ak x16),Ob.row 35 4 (List.map A8 x54),Ob.row 40 3 ([])]) (fun v=>(AV.agg [iA v.B2,AV.sl 3 (List.map Ak v.Ao),AV.sl 4 (List.map A8 v.A7),AV.sl 3 (List.map Af v.Ac)],[])) (fun k s=>J2 n A9 k s.1 s.2) (fun s=>rfl) o26 n (0,([]:List Ag)) (fun _=>0) ho26 ?_ ?_
 intro k19 ss a20 K21 cont22 hK23 hcont24 h hr25
 obtain⟨s17,s18⟩:=ss
 replace h:J2 n A9 (k19+1) s17 s18=some o26:=h
 rw[J2] at h
 conv=>lhs;whnf
 revert h
 refine br ?_ ?_
 refine ix ?_;intro x28
 refine cn ?_
 intro h;refine Av h ?_;clear h;intro o39 ho39 h
 refine lq (σ:=(Int×(List A2))) (τ:=(List A2)) (ν:=Ar) 4 (fun(s30,s31) a33=>B4 97 [(1,AV.ptr 0 0),(2,AV.ptr 1 0),(3,AV.ptr 2 0),(8,AV.ptr 10 0),(35,AV.sl 4 (List.map A8 A9.A7)),(36,iA (((A9.A7.length:Nat):Int))),(37,iA s17),(48,AV.sl 9 (List.map Al x28.Aq)),(49,iA (((x28.Aq.length:Nat):Int))),(50,iA s30)]) (fun(s30,s31) a33=>[Ob.var 26 [iA A9.B2,AV.sl 3 (List.map Ak A9.Ao),AV.sl 4 (List.map A8 A9.A7),AV.sl 3 (List.map Af A9.Ac)],Ob.var 26 [iA (0),AV.row 3 (List.length (([]:List Az))),AV.row 4 (List.length (([]:List Ag))),AV.row 5 (List.length (([]:List Ai)))],Ob.var 26 [iA A9.B2,AV.row 6 (List.length x16),AV.row 7 (List.length s18),AV.row 8 (List.length (([]:List Ai)))],Ob.row 44 3 ([]),Ob.row 35 4 ([]),Ob.row 40 3 ([]),Ob.row 44 3 (List.map Ak x16),Ob.row 35 4 (List.map A8 s18),Ob.row 40 3 ([]),Ob.var 35 [sA x28.Ae,AV.sl 1 (List.map D6 x28.Ay),AV.sl 9 (List.map Al x28.Aq),iA x28.B0],Ob.var 35 [sA x28.Ae,AV.sl 1 (List.map D6 x28.Ay),AV.row 11 (List.length s31),iA (0)],Ob.row 38 9 (List.map Al s31)]) (fun x49 a48=>B4 97 [(1,AV.ptr 0 0),(2,AV.ptr 1 0),(3,AV.ptr 2 0),(8,AV.ptr 10 0),(35,AV.sl 4 (List.map A8 A9.A7)),(36,iA (((A9.A7.length:Nat):Int))),(37,iA s17)]) (fun x49 a48=>[Ob.var 26 [iA A9.B2,AV.sl 3 (List.map Ak A9.Ao),AV.sl 4 (List.map A8 A9.A7),AV.sl 3 (List.map Af A9.Ac)],Ob.var 26 [iA (0),AV.row 3 (List.length (([]:List Az))),AV.row 4 (List.length (([]:List Ag))),AV.row 5 (List.length (([]:List Ai)))],Ob.var 26 [iA A9.B2,AV.row 6 (List.length x16),AV.row 7 (List.length s18),AV.row 8 (List.length (([]:List Ai)))],Ob.row 44 3 ([]),Ob.row 35 4 ([]),Ob.row 40 3 ([]),Ob.row 44 3 (List.map Ak x16),Ob.row 35 4 (List.map A8 s18),Ob.row 40 3 ([]),Ob.var 35 [sA x28.Ae,AV.sl 1 (List.map D6 x28.Ay),AV.sl 9 (List.map Al x28.Aq),iA x28.B0],Ob.var 35 [sA x28.Ae,AV.sl 1 (List.map D6 x28.Ay),AV.row 11 (List.length x49),iA (0)],Ob.row 38 9 (List.map Al x49)]) (fun v=>(AV.agg [iA v.B2,AV.sl 3 (List.map Ak v.Ao),AV.sl 4 (List.map A8 v.A7),AV.sl 3 (List.map Af v.Ac)],[])) (fun k s=>J7 n x28 k s.1 s.2) (fun s=>rfl) o39 n (0,([]:List A2)) (fun _=>0) ho39 ?_ ?_
 intro k32 ss a33 K34 cont35 hK36 hcont37 h hr38
 obtain⟨s30,s31⟩:=ss
 replace h:J7 n x28 (k32+1) s30 s31=some o39:=h
 rw[J7] at h
 conv=>lhs;whnf
 revert h
 refine br ?_ ?_
 refine ix ?_;intro x41
 refine ca hc (fun _ h=>Vq h) ?_;intro y42
 refine ca hc (fun _ h=>Vq h) ?_;intro y44
 refine ar (ap Al (List.map Al s31) s31 ([[iA x41.Ah,sA x41.Bj,sA x41.Bg,AV.sl 5 (List.map A1 y42),AV.sl 5 (List.map A1 y44),bA x41.Cx,iA x41.Aq,iA x41.Be,iA (0)]]) ([(⟨x41.Ah,x41.Bj,x41.Bg,y42,y44,x41.Cx,x41.Aq,x41.Be,0⟩:A2)]:List A2)) ?_
 exact fun h=>cq (hcont37 (IntKind.i64.wrap (s30+1),(s31++([(⟨x41.Ah,x41.Bj,x41.Bg,y42,y44,x41.Cx,x41.Aq,x41.Be,0⟩:A2)]:List A2))) (fun _=>0) h)
 intro h;cases sj h
 exact kq (hr38 (fun _=>0))
 refine lrc ?_ ?_
 intro v e;subst e;cases sj h;exact hr25
 intro x49 a48 e;subst e
 dsimp only at h
 conv=>lhs;whnf
 revert h
 refine ar (ap A8 (List.map A8 s18) s18 ([[sA x28.Ae,AV.sl 1 (List.map D6 x28.Ay),AV.sl 9 (List.map Al x49),iA (0)]]) ([(⟨x28.Ae,x28.Ay,x49,0⟩:Ag)]:List Ag)) ?_
 exact fun h=>cq (hcont24 (IntKind.i64.wrap (s17+1),(s18++([(⟨x28.Ae,x28.Ay,x49,0⟩:Ag)]:List Ag))) (fun _=>0) h)
 intro h;cases sj h
 exact kq (hr25 (fun _=>0))
 refine lrc ?_ ?_
 intro v e;subst e;cases sj h;rfl
 intro x54 a53 e;subst e
 dsimp only at h
 conv=>lhs;whnf
 revert h
 intro h;refine Av h ?_;clear h;intro o64 ho64 h
 refine lq (σ:=(Int×(List Ai))) (τ:=(List Ai)) (ν:=Ar) 6 (fun(s55,s56) a58=>B4 97 [(2,AV.ptr 1 0),(3,AV.ptr 2 0),(78,AV.sl 3 (List.map Af A9.Ac)),(79,iA (((A9.Ac.length:Nat):Int))),(80,iA s55)]) (fun(s55,s56) a58=>[Ob.var 26 [iA A9.B2,AV.sl 3 (List.map Ak A9.Ao),AV.sl 4 (List.map A8 A9.A7),AV.sl 3 (List.map Af A9.Ac)],Ob.var 26 [iA (0),AV.row 3 (List.length (([]:List Az))),AV.row 4 (List.length (([]:List Ag))),AV.row 5 (List.length (([]:List Ai)))],Ob.var 26 [iA A9.B2,AV.row 6 (List.length x16),AV.row 7 (List.length x54),AV.row 8 (List.length s56)],Ob.row 44 3 ([]),Ob.row 35 4 ([]),Ob.row 40 3 ([]),Ob.row 44 3 (List.map Ak x16),Ob.row 35 4 (List.map A8 x54),Ob.row 40 3 (List.map Af s56)]) (fun x72 a71=>B4 97 [(2,AV.ptr 1 0),(3,AV.ptr 2 0)]) (fun x72 a71=>[Ob.var 26 [iA A9.B2,AV.sl 3 (List.map Ak A9.Ao),AV.sl 4 (List.map A8 A9.A7),AV.sl 3 (List.map Af A9.Ac)],Ob.var 26 [iA (0),AV.row 3 (List.length (([]:List Az))),AV.row 4 (List.length (([]:List Ag))),AV.row 5 (List.length (([]:List Ai)))],Ob.var 26 [iA A9.B2,AV.row 6 (List.length x16),AV.row 7 (List.length x54),AV.row 8 (List.length x72)],Ob.row 44 3 ([]),Ob.row 35 4 ([]),Ob.row 40 3 ([]),Ob.row 44 3 (List.map Ak x16),Ob.row 35 4 (List.map A8 x54),Ob.row 40 3 (List.map Af x72)]) (fun v=>(AV.agg [iA v.B2,AV.sl 3 (List.map Ak v.Ao),AV.sl 4 (List.map A8 v.A7),AV.sl 3 (List.map Af v.Ac)],[])) (fun k s=>Iw n A9 k s.1 s.2) (fun s=>rfl) o64 n (0,([]:List Ai)) (fun _=>0) ho64 ?_ ?_
 intro k57 ss a58 K59 cont60 hK61 hcont62 h hr63
 obtain⟨s55,s56⟩:=ss
 replace h:Iw n A9 (k57+1) s55 s56=some o64:=h
 rw[Iw] at h
 conv=>lhs;whnf
 revert h
 refine br ?_ ?_
 refine ix ?_;intro x66
 refine ca hc (fun _ h=>Vq h) ?_;intro y67
 refine ar (ap Af (List.map Af s56) s56 ([[iA x66.Ah,AV.sl 5 (List.map A1 y67),iA (0)]]) ([(⟨x66.Ah,y67,0⟩:Ai)]:List Ai)) ?_
 exact fun h=>cq (hcont62 (IntKind.i64.wrap (s55+1),(s56++([(⟨x66.Ah,y67,0⟩:Ai)]:List Ai))) (fun _=>0) h)
 intro h;cases sj h
 exact kq (hr63 (fun _=>0))
 refine lrc ?_ ?_
 intro v e;subst e;cases sj h;rfl
 intro x72 a71 e;subst e
 dsimp only at h
 conv=>lhs;whnf
 revert h
 intro h;cases sj h
 try simp only[ls]
 exact fq (y:=some (AV.agg [iA A9.B2,AV.sl 3 (List.take (List.length x16) (List.map Ak x16)),AV.sl 4 (List.take (List.length x54) (List.map A8 x54)),AV.sl 3 (List.take (List.length x72) (List.map Af x72))],[]))
theorem En {n:Nat} ⦃W2:Int⦄ ⦃M5:Int⦄ ⦃p_l:(List A6)⦄ ⦃p_i:Int⦄ ⦃p_e:Int⦄ ⦃p_at:Int⦄ ⦃r:(Int×Int)⦄:Dm n W2 M5 p_l p_i p_e p_at=some r→CN n 78 [AV.ptr 0 0,iA W2,iA M5] [Ob.var 67 [AV.sl 4 (List.map A5 p_l),iA p_i,iA p_e,iA p_at]]=some (AV.tup [],[Ob.var 67 [AV.sl 4 (List.map A5 p_l),iA p_i,iA r.1,iA r.2]]):=by
 intro h;rcases n with _|n;cases h
 rw[Dm] at h
 refine An Tryz.func78 (by rfl) rfl rfl (As rfl) ?_
 intro call hc;conv=>lhs;whnf
 revert h
 refine br ?_ ?_
 exact rz
 exact rz
theorem Aex {n:Nat} ⦃Eh:A6⦄ ⦃o0:Int⦄ ⦃o1:(List UInt8)⦄ ⦃r:Bool⦄:A0l n Eh o0 o1=some r→CN n 75 [AV.agg [iA Eh.Ah,sA Eh.Au,iA Eh.Bk,iA Eh.B0],AV.ptr 0 0,AV.ptr 1 0] [Ob.var 3 [iA o0],Ob.var 9 [sA o1]]=some (bA r,[Ob.var 3 [iA o0],Ob.var 9 [sA o1]]):=by
 intro h;rcases n with _|n;cases h
 rw[A0l] at h
 refine An Tryz.func75 (by rfl) rfl rfl (As rfl) ?_
 intro call hc;conv=>lhs;whnf
 revert h
 refine br ?_ ?_
 exact rz
 exact rz
theorem E8 {n:Nat} ⦃p_l:(List A6)⦄ ⦃p_i:Int⦄ ⦃p_e:Int⦄ ⦃p_at:Int⦄ ⦃o1:Int⦄ ⦃o2:(List UInt8)⦄ ⦃r:(A6×Bool×Int)⦄:Di n p_l p_i p_e p_at o1 o2=some r→CN n 46 [AV.ptr 0 0,AV.func 75 [] [AV.ptr 1 0,AV.ptr 2 0]] [Ob.var 67 [AV.sl 4 (List.map A5 p_l),iA p_i,iA p_e,iA p_at],Ob.var 3 [iA o1],Ob.var 9 [sA o2]]=some (AV.tup [AV.agg [iA r.1.Ah,sA r.1.Au,iA r.1.Bk,iA r.1.B0],bA r.2.1],[Ob.var 67 [AV.sl 4 (List.map A5 p_l),iA r.2.2,iA p_e,iA p_at],Ob.var 3 [iA o1],Ob.var 9 [sA o2]]):=by
 intro h;rcases n with _|n;cases h
 rw[Di] at h
 refine An Tryz.func46 (by rfl) rfl rfl (As rfl) ?_
 intro call hc;conv=>lhs;whnf
 revert h
 refine br ?_ ?_
 exact rz
 refine br ?_ ?_
 exact rz
 refine ix ?_;intro x3
 refine ca hc (fun _ h=>Aex h) ?_;intro y4
 refine br ?_ ?_
 refine ix ?_;intro x7
 exact rz
 exact rz
theorem L5 {n:Nat} ⦃p_l:(List A6)⦄ ⦃p_i:Int⦄ ⦃p_e:Int⦄ ⦃p_at:Int⦄ ⦃r:(Int×Int)⦄:Hl n p_l p_i p_e p_at=some r→CN n 50 [AV.ptr 0 0] [Ob.var 67 [AV.sl 4 (List.map A5 p_l),iA p_i,iA p_e,iA p_at]]=some (AV.tup [],[Ob.var 67 [AV.sl 4 (List.map A5 p_l),iA p_i,iA r.1,iA r.2]]):=by
 intro h;rcases n with _|n;cases h
 rw[Hl] at h
 refine An Tryz.func50 (by rfl) rfl rfl (As rfl) ?_
 intro call hc;conv=>lhs;whnf
 revert h
 refine br ?_ ?_
 refine ix ?_;intro x2
 refine ca hc (fun _ h=>En h) ?_;intro y3
 exact rz
 refine br ?_ ?_
 refine ix ?_;intro x6
 refine ix ?_;intro x7
 refine cr hc (fun _ h=>En h) ?_;intro y8
 exact rz
 refine ca hc (fun _ h=>En h) ?_;intro y10
 exact rz
theorem Ue {n:Nat} ⦃p_l:(List A6)⦄ ⦃p_i:Int⦄ ⦃p_e:Int⦄ ⦃p_at:Int⦄ ⦃o1:Int⦄ ⦃o2:(List UInt8)⦄ ⦃r:(A6×Int×Int×Int)⦄:N5 n p_l p_i p_e p_at o1 o2=some r→CN n 42 [AV.ptr 0 0,AV.func 75 [] [AV.ptr 1 0,AV.ptr 2 0]] [Ob.var 67 [AV.sl 4 (List.map A5 p_l),iA p_i,iA p_e,iA p_at],Ob.var 3 [iA o1],Ob.var 9 [sA o2]]=some (AV.agg [iA r.1.Ah,sA r.1.Au,iA r.1.Bk,iA r.1.B0],[Ob.var 67 [AV.sl 4 (List.map A5 p_l),iA r.2.1,iA r.2.2.1,iA r.2.2.2],Ob.var 3 [iA o1],Ob.var 9 [sA o2]]):=by
 intro h;rcases n with _|n;cases h
 rw[N5] at h
 refine An Tryz.func42 (by rfl) rfl rfl (As rfl) ?_
 intro call hc;conv=>lhs;whnf
 revert h
 refine ca hc (fun _ h=>E8 h) ?_;intro y1
 refine br ?_ ?_
 exact rz
 refine ca hc (fun _ h=>L5 h) ?_;intro y4
 exact rz
theorem Ci {n:Nat} ⦃M9:(List UInt8)⦄ ⦃p_l:(List A6)⦄ ⦃p_i:Int⦄ ⦃p_e:Int⦄ ⦃p_at:Int⦄ ⦃r:(Int×Int×Int)⦄:Cd n M9 p_l p_i p_e p_at=some r→CN n 45 [AV.ptr 0 0,sA M9] [Ob.var 67 [AV.sl 4 (List.map A5 p_l),iA p_i,iA p_e,iA p_at]]=some (AV.tup [],[Ob.var 67 [AV.sl 4 (List.map A5 p_l),iA r.1,iA r.2.1,iA r.2.2]]):=by
 intro h;rcases n with _|n;cases h
 rw[Cd] at h
 refine Ye Tryz.func45 (by rfl) rfl rfl (As rfl) ?_
 intro call hc hcA;conv=>lhs;whnf
 revert h
 intro h
 obtain⟨n1,hn5,h⟩:=Nc h
 obtain⟨call2,hc3,hcA6,ho4⟩:=Iu (f:=43) (args:=[iA (3),sA M9]) (hp:=[]) hcA hn5 Tryz.func43 (by rfl) rfl rfl (As rfl)
 try simp only[ls]
 simp only[ho4]
 conv=>lhs;whnf
 revert h
 refine ca hc (fun _ h=>Ue h) ?_;intro y7
 exact rz
theorem A0x {n:Nat} ⦃Ho:Int⦄ ⦃M5:Int⦄ ⦃p_l:(List A6)⦄ ⦃p_i:Int⦄ ⦃p_e:Int⦄ ⦃p_at:Int⦄ ⦃r:(Ai×Int×Int×Int)⦄:Pq n Ho M5 p_l p_i p_e p_at=some r→CN n 49 [AV.ptr 0 0,iA Ho,iA M5] [Ob.var 67 [AV.sl 4 (List.map A5 p_l),iA p_i,iA p_e,iA p_at]]=some (AV.agg [iA r.1.Ah,AV.sl 5 (List.map A1 r.1.Bh),iA r.1.B0],[Ob.var 67 [AV.sl 4 (List.map A5 p_l),iA r.2.1,iA r.2.2.1,iA r.2.2.2]]):=by
 intro h;rcases n with _|n;cases h
 rw[Pq] at h
 refine An Tryz.func49 (by rfl) rfl rfl (As rfl) ?_
 intro call hc;conv=>lhs;whnf
 revert h
 refine tw hc (fun _ h=>A1t h) (fun _ h=>Ae3 (p:=[1,1,2,2,1]) (q:=[1,2,1,1]) h Tryz.func79 (by kernel_rfl) (by kernel_rfl) (by kernel_rfl) (by kernel_rfl) (by rfl) (A9a (by exact fun _=>rfl) _) (A9a (by exact fun _=>rfl) _)) ?_;intro y1
 refine nb ?_ ?_
 refine ca hc (fun _ h=>En h) ?_;intro y3
 intro h;refine Av h ?_;clear h;intro o12 ho12 h
 refine lq (σ:=Unit) (τ:=Unit) (ν:=(Ai×Int×Int×Int)) 0 (fun _ a6=>B4 61 [(0,AV.ptr 0 0),(1,iA Ho),(2,iA M5),(6,AV.ptr 1 0),(7,AV.sl 5 []),(8,iA y1.2.1),(31,iA (0)),(32,iA (0))]) (fun _ a6=>[Ob.var 67 [AV.sl 4 (List.map A5 p_l),iA p_i,iA y3.1,iA y3.2],Ob.var 40 [iA (0),AV.nils,iA (0)]]) (fun _ a13=>B4 61 [(0,AV.ptr 0 0),(1,iA Ho),(2,iA M5),(6,AV.ptr 1 0),(7,AV.sl 5 []),(8,iA y1.2.1)]) (fun _ a13=>[Ob.var 67 [AV.sl 4 (List.map A5 p_l),iA p_i,iA y3.1,iA y3.2],Ob.var 40 [iA (0),AV.nils,iA (0)]]) (fun v=>(AV.agg [iA v.1.Ah,AV.sl 5 (List.map A1 v.1.Bh),iA v.1.B0],[Ob.var 67 [AV.sl 4 (List.map A5 p_l),iA v.2.1,iA v.2.2.1,iA v.2.2.2]])) (fun k s=>L8 n k) (fun s=>rfl) o12 n () (fun _=>0) ho12 ?_ ?_
 intro k5 ss a6 K7 cont8 hK9 hcont10 h hr11
 replace h:L8 n (k5+1)=some o12:=h
 rw[L8] at h
 conv=>lhs;whnf
 revert h
 intro h;cases sj h
 exact kq (hr11 (fun _=>0))
 refine lrc ?_ ?_
 intro v e;subst e;cases sj h;rfl
 intro t a13 e;subst e
 dsimp only at h
 conv=>lhs;whnf
 revert h
 refine br ?_ ?_
 refine ca hc (fun _ h=>Ci h) ?_;intro y15
 exact rz
 refine ca hc (fun _ h=>Ci h) ?_;intro y17
 exact rz
 refine ca hc (fun _ h=>En h) ?_;intro y20
 intro h;refine Av h ?_;clear h;intro o31 ho31 h
 refine lq (σ:=(Int×(List A0))) (τ:=(List A0)) (ν:=(Ai×Int×Int×Int)) 0 (fun(s22,s23) a25=>B4 61 [(0,AV.ptr 0 0),(1,iA Ho),(2,iA M5),(6,AV.ptr 1 0),(7,AV.own 2 0 (List.length s23)),(8,iA y1.2.1),(31,iA (((y1.1.length:Nat):Int))),(32,iA s22)]) (fun(s22,s23) a25=>[Ob.var 67 [AV.sl 4 (List.map A5 p_l),iA p_i,iA y20.1,iA y20.2],Ob.var 40 [iA (0),AV.nils,iA (0)],Ob.arr 5 (List.map A1 s23)]) (fun x38 a37=>B4 61 [(0,AV.ptr 0 0),(1,iA Ho),(2,iA M5),(6,AV.ptr 1 0),(7,AV.own 2 0 (List.length x38)),(8,iA y1.2.1)]) (fun x38 a37=>[Ob.var 67 [AV.sl 4 (List.map A5 p_l),iA p_i,iA y20.1,iA y20.2],Ob.var 40 [iA (0),AV.nils,iA (0)],Ob.arr 5 (List.map A1 x38)]) (fun v=>(AV.agg [iA v.1.Ah,AV.sl 5 (List.map A1 v.1.Bh),iA v.1.B0],[Ob.var 67 [AV.sl 4 (List.map A5 p_l),iA v.2.1,iA v.2.2.1,iA v.2.2.2]])) (fun k s=>Gn n y1 k s.1 s.2) (fun s=>rfl) o31 n (0,y1.1) (fun _=>0) ho31 ?_ ?_
 intro k24 ss a25 K26 cont27 hK28 hcont29 h hr30
 obtain⟨s22,s23⟩:=ss
 replace h:Gn n y1 (k24+1) s22 s23=some o31:=h
 rw[Gn] at h
 conv=>lhs;whnf
 revert h
 refine br ?_ ?_
 intro h
 refine Av h ?_;clear h;intro x33 hx33 h
 try simp only[ls]
 refine Am (by first|exact Fh hx33|exact T1 hx33|exact Wu hx33|exact Kq hx33|(have q:=Fh hx33;simp only[List.length_set] at q;exact q)|(have q:=Kq hx33;simp only[List.length_set,Nat.zero_add] at q ⊢;exact q)) ?_
 conv=>lhs;whnf
 try simp only[Nat.zero_add,Kp (f:=A1) hx33,Ep,ls]
 conv=>lhs;whnf
 revert h
 refine br ?_ ?_
 intro h
 refine Av h ?_;clear h;intro x35 hx35 h
 try simp only[ls]
 refine Am (by first|exact Fh hx35|exact T1 hx35|exact Wu hx35|exact Kq hx35|(have q:=Fh hx35;simp only[List.length_set] at q;exact q)|(have q:=Kq hx35;simp only[List.length_set,Nat.zero_add] at q ⊢;exact q)) ?_
 conv=>lhs;whnf
 try simp only[Nat.zero_add,Kp (f:=A1) hx35,Ep,ls]
 conv=>lhs;whnf
 revert h
 intro h
 have hs36:C7 (List.map A1 s23) s22.toNat [iA (3),iA x35.Bk,sA x35.Ae,sA x35.C2,iA x35.B0]=List.map A1 (List.set s23 s22.toNat (⟨3,x35.Bk,x35.Ae,x35.C2,x35.B0⟩:A0)):=by rw[Br,List.map_set];rfl
 have hs36_u:C7 (List.map A1 s23) s22.toNat (M8 (A1 x35) 0 [iA (3)])=List.map A1 (List.set s23 s22.toNat (⟨3,x35.Bk,x35.Ae,x35.C2,x35.B0⟩:A0)):=by rw[Br,List.map_set];rfl
 try simp only[Nat.zero_add,Kp (f:=A1) hx35]
 conv=>lhs;whnf
 try simp only[hs36,hs36_u]
 conv=>lhs;whnf
 revert h
 exact fun h=>cq (hcont29 (IntKind.i64.wrap (s22+1),(List.set s23 s22.toNat (⟨3,x35.Bk,x35.Ae,x35.C2,x35.B0⟩:A0))) (fun _=>0) h)
 exact fun h=>cq (hcont29 (IntKind.i64.wrap (s22+1),s23) (fun _=>0) h)
 intro h;cases sj h
 exact kq (hr30 (fun _=>0))
 refine lrc ?_ ?_
 intro v e;subst e;cases sj h;rfl
 intro x38 a37 e;subst e
 dsimp only at h
 conv=>lhs;whnf
 revert h
 refine br ?_ ?_
 refine ca hc (fun _ h=>Ci h) ?_;intro y40
 intro h;cases sj h
 try simp only[ls]
 exact fq (y:=some (AV.agg [iA Ho,AV.sl 5 (List.take (List.length x38) (List.drop 0 (List.map A1 x38))),iA M5],[Ob.var 67 [AV.sl 4 (List.map A5 p_l),iA y40.1,iA y40.2.1,iA y40.2.2]]))
 refine ca hc (fun _ h=>Ci h) ?_;intro y42
 intro h;cases sj h
 try simp only[ls]
 exact fq (y:=some (AV.agg [iA Ho,AV.sl 5 (List.take (List.length x38) (List.drop 0 (List.map A1 x38))),iA M5],[Ob.var 67 [AV.sl 4 (List.map A5 p_l),iA y42.1,iA y42.2.1,iA y42.2.2]]))
theorem A8t {n:Nat} ⦃Eh:A6⦄ ⦃r:Bool⦄:Vx n Eh=some r→CN n 44 [AV.agg [iA Eh.Ah,sA Eh.Au,iA Eh.Bk,iA Eh.B0]] []=some (bA r,[]):=by
 intro h;rcases n with _|n;cases h
 rw[Vx] at h
 refine An Tryz.func44 (by rfl) rfl rfl (As rfl) ?_
 intro call hc;conv=>lhs;whnf
 revert h
 exact rz
theorem Zz {n:Nat} ⦃p_l:(List A6)⦄ ⦃p_i:Int⦄ ⦃p_e:Int⦄ ⦃p_at:Int⦄ ⦃r:(A6×Bool×Int)⦄:Oy n p_l p_i p_e p_at=some r→CN n 46 [AV.ptr 0 0,AV.func 44 [] []] [Ob.var 67 [AV.sl 4 (List.map A5 p_l),iA p_i,iA p_e,iA p_at]]=some (AV.tup [AV.agg [iA r.1.Ah,sA r.1.Au,iA r.1.Bk,iA r.1.B0],bA r.2.1],[Ob.var 67 [AV.sl 4 (List.map A5 p_l),iA r.2.2,iA p_e,iA p_at]]):=by
 intro h;rcases n with _|n;cases h
 rw[Oy] at h
 refine An Tryz.func46 (by rfl) rfl rfl (As rfl) ?_
 intro call hc;conv=>lhs;whnf
 revert h
 refine br ?_ ?_
 exact rz
 refine br ?_ ?_
 exact rz
 refine ix ?_;intro x3
 refine ca hc (fun _ h=>A8t h) ?_;intro y4
 refine br ?_ ?_
 refine ix ?_;intro x7
 exact rz
 exact rz
theorem T6 {n:Nat} ⦃p_l:(List A6)⦄ ⦃p_i:Int⦄ ⦃p_e:Int⦄ ⦃p_at:Int⦄ ⦃r:(A6×Int×Int×Int)⦄:L6 n p_l p_i p_e p_at=some r→CN n 42 [AV.ptr 0 0,AV.func 44 [] []] [Ob.var 67 [AV.sl 4 (List.map A5 p_l),iA p_i,iA p_e,iA p_at]]=some (AV.agg [iA r.1.Ah,sA r.1.Au,iA r.1.Bk,iA r.1.B0],[Ob.var 67 [AV.sl 4 (List.map A5 p_l),iA r.2.1,iA r.2.2.1,iA r.2.2.2]]):=by
 intro h;rcases n with _|n;cases h
 rw[L6] at h
 refine An Tryz.func42 (by rfl) rfl rfl (As rfl) ?_
 intro call hc;conv=>lhs;whnf
 revert h
 refine ca hc (fun _ h=>Zz h) ?_;intro y1
 refine br ?_ ?_
 exact rz
 refine ca hc (fun _ h=>L5 h) ?_;intro y4
 exact rz
theorem Ac0 {n:Nat} ⦃Eh:A6⦄ ⦃r:Bool⦄:Yu n Eh=some r→CN n 76 [AV.agg [iA Eh.Ah,sA Eh.Au,iA Eh.Bk,iA Eh.B0]] []=some (bA r,[]):=by
 intro h;rcases n with _|n;cases h
 rw[Yu] at h
 refine An Tryz.func76 (by rfl) rfl rfl (As rfl) ?_
 intro call hc;conv=>lhs;whnf
 revert h
 refine br ?_ ?_
 refine ca hc (fun _ h=>Fz h) ?_;intro y2
 exact rz
 exact rz
theorem Zq {n:Nat} ⦃p_l:(List A6)⦄ ⦃p_i:Int⦄ ⦃p_e:Int⦄ ⦃p_at:Int⦄ ⦃r:(A6×Bool×Int)⦄:Oo n p_l p_i p_e p_at=some r→CN n 46 [AV.ptr 0 0,AV.func 76 [] []] [Ob.var 67 [AV.sl 4 (List.map A5 p_l),iA p_i,iA p_e,iA p_at]]=some (AV.tup [AV.agg [iA r.1.Ah,sA r.1.Au,iA r.1.Bk,iA r.1.B0],bA r.2.1],[Ob.var 67 [AV.sl 4 (List.map A5 p_l),iA r.2.2,iA p_e,iA p_at]]):=by
 intro h;rcases n with _|n;cases h
 rw[Oo] at h
 refine An Tryz.func46 (by rfl) rfl rfl (As rfl) ?_
 intro call hc;conv=>lhs;whnf
 revert h
 refine br ?_ ?_
 exact rz
 refine br ?_ ?_
 exact rz
 refine ix ?_;intro x3
 refine ca hc (fun _ h=>Ac0 h) ?_;intro y4
 refine br ?_ ?_
 refine ix ?_;intro x7
 exact rz
 exact rz
theorem Nx {n:Nat} ⦃p_l:(List A6)⦄ ⦃p_i:Int⦄ ⦃p_e:Int⦄ ⦃p_at:Int⦄ ⦃r:(A6×Int×Int×Int)⦄:J4 n p_l p_i p_e p_at=some r→CN n 42 [AV.ptr 0 0,AV.func 76 [] []] [Ob.var 67 [AV.sl 4 (List.map A5 p_l),iA p_i,iA p_e,iA p_at]]=some (AV.agg [iA r.1.Ah,sA r.1.Au,iA r.1.Bk,iA r.1.B0],[Ob.var 67 [AV.sl 4 (List.map A5 p_l),iA r.2.1,iA r.2.2.1,iA r.2.2.2]]):=by
 intro h;rcases n with _|n;cases h
 rw[J4] at h
 refine An Tryz.func42 (by rfl) rfl rfl (As rfl) ?_
 intro call hc;conv=>lhs;whnf
 revert h
 refine ca hc (fun _ h=>Zq h) ?_;intro y1
 refine br ?_ ?_
 exact rz
 refine ca hc (fun _ h=>L5 h) ?_;intro y4
 exact rz
theorem A25 {n:Nat} ⦃La:Int⦄ ⦃p_l:(List A6)⦄ ⦃p_i:Int⦄ ⦃p_e:Int⦄ ⦃p_at:Int⦄ ⦃r:(Az×Int×Int×Int)⦄:Rk n La p_l p_i p_e p_at=some r→CN n 47 [AV.ptr 0 0,iA La] [Ob.var 67 [AV.sl 4 (List.map A5 p_l),iA p_i,iA p_e,iA p_at]]=some (AV.agg [sA r.1.Ae,iA r.1.Bk,iA r.1.B0],[Ob.var 67 [AV.sl 4 (List.map A5 p_l),iA r.2.1,iA r.2.2.1,iA r.2.2.2]]):=by
 intro h;rcases n with _|n;cases h
 rw[Rk] at h
 refine An Tryz.func47 (by rfl) rfl rfl (As rfl) ?_
 intro call hc;conv=>lhs;whnf
 revert h
 refine ca hc (fun _ h=>Nx h) ?_;intro y1
 refine ca hc (fun _ h=>Ci h) ?_;intro y3
 refine ca hc (fun _ h=>T6 h) ?_;intro y5
 refine ca hc (fun _ h=>Ci h) ?_;intro y7
 exact rz
theorem A06 {n:Nat} ⦃La:Int⦄ ⦃p_l:(List A6)⦄ ⦃p_i:Int⦄ ⦃p_e:Int⦄ ⦃p_at:Int⦄ ⦃r:(Ag×Int×Int×Int)⦄:Og n La p_l p_i p_e p_at=some r→CN n 48 [AV.ptr 0 0,iA La] [Ob.var 67 [AV.sl 4 (List.map A5 p_l),iA p_i,iA p_e,iA p_at]]=some (AV.agg [sA r.1.Ae,AV.sl 1 (List.map D6 r.1.Ay),AV.sl 9 (List.map Al r.1.Aq),iA r.1.B0],[Ob.var 67 [AV.sl 4 (List.map A5 p_l),iA r.2.1,iA r.2.2.1,iA r.2.2.2]]):=by
 intro h;rcases n with _|n;cases h
 rw[Og] at h
 refine Ye Tryz.func48 (by rfl) rfl rfl (As rfl) ?_
 intro call hc hcA;conv=>lhs;whnf
 revert h
 refine ca hc (fun _ h=>Nx h) ?_;intro y1
 refine ca hc (fun _ h=>Ci h) ?_;intro y3
 intro h
 obtain⟨n5,hn9,h⟩:=Nc h
 obtain⟨call6,hc7,hcA10,ho8⟩:=Iu (f:=43) (args:=[iA (1),sA (([114,101,103]:List UInt8))]) (hp:=[]) hcA hn9 Tryz.func43 (by rfl) rfl rfl (As rfl)
 try simp only[ls]
 simp only[ho8]
 conv=>lhs;whnf
 revert h
 refine ca hc (fun _ h=>E8 h) ?_;intro y11
 refine br ?_ ?_
 intro h;refine Av h ?_;clear h;intro o26 ho26 h
 refine lq (σ:=(Bool×Int×Int×Int×(List (List UInt8)))) (τ:=(Int×Int×Int×(List (List UInt8)))) (ν:=(Ag×Int×Int×Int)) 0 (fun(s14,s15,s16,s17,s18) a20=>B4 82 [(0,AV.ptr 0 0),(4,AV.ptr 1 0),(5,AV.ptr 2 0),(8,bA s14)]) (fun(s14,s15,s16,s17,s18) a20=>[Ob.var 67 [AV.sl 4 (List.map A5 p_l),iA s15,iA s16,iA s17],Ob.var 35 [sA (([]:List UInt8)),AV.row 6 (List.length (([]:List (List UInt8)))),AV.row 7 (List.length (([]:List A2))),iA (0)],Ob.var 35 [sA y1.1.Au,AV.row 8 (List.length s18),AV.row 9 (List.length (([]:List A2))),iA La],Ob.var 3 [iA (1)],Ob.var 9 [sA (([114,101,103]:List UInt8))],Ob.var 69 [iA y11.1.Ah,sA y11.1.Au,iA y11.1.Bk,iA y11.1.B0],Ob.row 9 1 ([]),Ob.row 38 9 ([]),Ob.row 9 1 (List.map D6 s18),Ob.row 38 9 ([])]) (fun(x41,x42,x43,x44) a40=>B4 82 [(0,AV.ptr 0 0),(4,AV.ptr 1 0),(5,AV.ptr 2 0)]) (fun(x41,x42,x43,x44) a40=>[Ob.var 67 [AV.sl 4 (List.map A5 p_l),iA x41,iA x42,iA x43],Ob.var 35 [sA (([]:List UInt8)),AV.row 6 (List.length (([]:List (List UInt8)))),AV.row 7 (List.length (([]:List A2))),iA (0)],Ob.var 35 [sA y1.1.Au,AV.row 8 (List.length x44),AV.row 9 (List.length (([]:List A2))),iA La],Ob.var 3 [iA (1)],Ob.var 9 [sA (([114,101,103]:List UInt8))],Ob.var 69 [iA y11.1.Ah,sA y11.1.Au,iA y11.1.Bk,iA y11.1.B0],Ob.row 9 1 ([]),Ob.row 38 9 ([]),Ob.row 9 1 (List.map D6 x44),Ob.row 38 9 ([])]) (fun v=>(AV.agg [sA v.1.Ae,AV.sl 1 (List.map D6 v.1.Ay),AV.sl 9 (List.map Al v.1.Aq),iA v.1.B0],[Ob.var 67 [AV.sl 4 (List.map A5 p_l),iA v.2.1,iA v.2.2.1,iA v.2.2.2]])) (fun k s=>Im n p_l k s.1 s.2.1 s.2.2.1 s.2.2.2.1 s.2.2.2.2) (fun s=>rfl) o26 n (true,y11.2.2,y3.2.1,y3.2.2,([]:List (List UInt8))) (fun _=>0) ho26 ?_ ?_
 intro k19 ss a20 K21 cont22 hK23 hcont24 h hr25
 obtain⟨s14,s15,s16,s17,s18⟩:=ss
 replace h:Im n p_l (k19+1) s14 s15 s16 s17 s18=some o26:=h
 rw[Im] at h
 conv=>lhs;whnf
 revert h
 refine br ?_ ?_
 refine ca hc (fun _ h=>Nx h) ?_;intro y28
 refine ar (ap D6 (List.map D6 s18) s18 ([[sA y28.1.Au]]) ([y28.1.Au]:List (List UInt8))) ?_
 intro h
 obtain⟨n32,hn36,h⟩:=Nc h
 obtain⟨call33,hc34,hcA37,ho35⟩:=Iu (f:=43) (args:=[iA (3),sA (([44]:List UInt8))]) (hp:=[]) hcA hn36 Tryz.func43 (by rfl) rfl rfl (As rfl)
 try simp only[ls]
 simp only[ho35]
 conv=>lhs;whnf
 revert h
 refine ca hc (fun _ h=>E8 h) ?_;intro y38
 exact fun h=>cq (hcont24 (y38.2.1,y38.2.2,y28.2.2.1,y28.2.2.2,(s18++([y28.1.Au]:List (List UInt8)))) (fun _=>0) h)
 intro h;cases sj h
 exact kq (hr25 (fun _=>0))
 refine lrc ?_ ?_
 intro v e;subst e;cases sj h;rfl
 intro t a40 e;subst e
 obtain⟨x41,x42,x43,x44⟩:=t
 dsimp only at h
 conv=>lhs;whnf
 revert h
 refine ca hc (fun _ h=>Ci h) ?_;intro y45
 refine br ?_ ?_
 intro h;cases sj h
 try simp only[ls]
 exact fq (y:=some (AV.agg [sA y1.1.Au,AV.sl 1 (List.take (List.length x44) (List.map D6 x44)),AV.sl 9 (List.take (List.length (([]:List A2))) ([])),iA La],[Ob.var 67 [AV.sl 4 (List.map A5 p_l),iA y45.1,iA y45.2.1,iA y45.2.2]]))
 refine ca hc (fun _ h=>A1v h) ?_;intro y48
 refine ca hc (fun _ h=>En h) ?_;intro y50
 refine br ?_ ?_
 refine ca hc (fun _ h=>Ci h) ?_;intro y53
 intro h;cases sj h
 try simp only[ls]
 exact fq (y:=some (AV.agg [sA y1.1.Au,AV.sl 1 (List.take (List.length x44) (List.map D6 x44)),AV.sl 9 (List.map Al y48.1),iA La],[Ob.var 67 [AV.sl 4 (List.map A5 p_l),iA y53.1,iA y53.2.1,iA y53.2.2]]))
 refine ca hc (fun _ h=>Ci h) ?_;intro y55
 intro h;cases sj h
 try simp only[ls]
 exact fq (y:=some (AV.agg [sA y1.1.Au,AV.sl 1 (List.take (List.length x44) (List.map D6 x44)),AV.sl 9 (List.map Al y48.1),iA La],[Ob.var 67 [AV.sl 4 (List.map A5 p_l),iA y55.1,iA y55.2.1,iA y55.2.2]]))
 refine br ?_ ?_
 exact rz
 refine ca hc (fun _ h=>A1v h) ?_;intro y59
 refine ca hc (fun _ h=>En h) ?_;intro y61
 refine br ?_ ?_
 refine ca hc (fun _ h=>Ci h) ?_;intro y64
 exact rz
 refine ca hc (fun _ h=>Ci h) ?_;intro y66
 exact rz
theorem Xd {n:Nat} ⦃C6:Int⦄ ⦃r:(List UInt8)⦄:Lb n C6=some r→CN n 35 [iA C6] []=some (sA r,[]):=by
 intro h;rcases n with _|n;cases h
 rw[Lb] at h
 refine An Tryz.func35 (by rfl) rfl rfl (As rfl) ?_
 intro call hc;conv=>lhs;whnf
 revert h
 refine br ?_ ?_
 exact rz
 refine br ?_ ?_
 exact rz
 refine br ?_ ?_
 exact rz
 exact rz
theorem Aaq {n:Nat} ⦃Cy:Int⦄ ⦃r:Bool⦄:Xh n Cy=some r→CN n 52 [AV.int .i32 Cy] []=some (bA r,[]):=by
 intro h;rcases n with _|n;cases h
 rw[Xh] at h
 refine An Tryz.func52 (by rfl) rfl rfl (As rfl) ?_
 intro call hc;conv=>lhs;whnf
 revert h
 refine br ?_ ?_
 exact rz
 exact rz
theorem A7z {n:Nat} ⦃Cy:Int⦄ ⦃r:Bool⦄:Vn n Cy=some r→CN n 51 [AV.int .i32 Cy] []=some (bA r,[]):=by
 intro h;rcases n with _|n;cases h
 rw[Vn] at h
 refine An Tryz.func51 (by rfl) rfl rfl (As rfl) ?_
 intro call hc;conv=>lhs;whnf
 revert h
 refine br ?_ ?_
 refine br ?_ ?_
 exact rz
 refine br ?_ ?_
 refine br ?_ ?_
 exact rz
 exact rz
 exact rz
 refine br ?_ ?_
 refine br ?_ ?_
 exact rz
 exact rz
 exact rz
theorem Adv {n:Nat} ⦃Bi:(List UInt8)⦄ ⦃r:Int⦄:Yq n Bi=some r→CN n 74 [sA Bi] []=some (iA r,[]):=by
 intro h;rcases n with _|n;cases h
 rw[Yq] at h
 refine An Tryz.func74 (by rfl) rfl rfl (As rfl) ?_
 intro call hc;conv=>lhs;whnf
 revert h
 refine br ?_ ?_
 refine cp ?_
 refine br ?_ ?_
 exact rz
 refine br ?_ ?_
 exact rz
 refine br ?_ ?_
 exact rz
 refine br ?_ ?_
 exact rz
 refine br ?_ ?_
 exact rz
 refine ixs ?_;intro x8
 refine br ?_ ?_
 exact rz
 refine br ?_ ?_
 exact rz
 refine br ?_ ?_
 exact rz
 refine br ?_ ?_
 exact rz
 refine br ?_ ?_
 exact rz
 refine br ?_ ?_
 exact rz
 refine br ?_ ?_
 exact rz
 refine br ?_ ?_
 exact rz
 refine br ?_ ?_
 exact rz
 refine br ?_ ?_
 exact rz
 refine br ?_ ?_
 exact rz
 refine br ?_ ?_
 exact rz
 refine br ?_ ?_
 exact rz
 exact rz
 refine ixs ?_;intro x22
 refine br ?_ ?_
 exact rz
 refine br ?_ ?_
 exact rz
 refine br ?_ ?_
 exact rz
 refine br ?_ ?_
 exact rz
 refine br ?_ ?_
 exact rz
 refine br ?_ ?_
 exact rz
 refine br ?_ ?_
 exact rz
 refine br ?_ ?_
 exact rz
 refine br ?_ ?_
 exact rz
 refine br ?_ ?_
 exact rz
 refine br ?_ ?_
 exact rz
 refine br ?_ ?_
 exact rz
 refine br ?_ ?_
 exact rz
 exact rz
theorem Abv {n:Nat} ⦃Bi:(List UInt8)⦄ ⦃r:((List A6)×Int×Int)⦄:Yr n Bi=some r→CN n 41 [sA Bi] []=some (AV.tup [AV.sl 4 (List.map A5 r.1),iA r.2.1,iA r.2.2],[]):=by
 intro h;rcases n with _|n;cases h
 rw[Yr] at h
 refine An Tryz.func41 (by rfl) rfl rfl (As rfl) ?_
 intro call hc;conv=>lhs;whnf
 revert h
 refine br ?_ ?_
 exact rz
 intro h;refine Av h ?_;clear h;intro o11 ho11 h
 refine lq (σ:=(Int×(List A6))) (τ:=(List A6)) (ν:=((List A6)×Int×Int)) 0 (fun(s2,s3) a5=>B4 104 [(0,sA Bi),(5,AV.row 0 (List.length s3)),(6,iA s2)]) (fun(s2,s3) a5=>[Ob.row 69 4 (List.map A5 s3)]) (fun x50 a49=>B4 104 [(5,AV.row 0 (List.length x50))]) (fun x50 a49=>[Ob.row 69 4 (List.map A5 x50)]) (fun v=>(AV.tup [AV.sl 4 (List.map A5 v.1),iA v.2.1,iA v.2.2],[])) (fun k s=>Ev n Bi k s.1 s.2) (fun s=>rfl) o11 n (0,([]:List A6)) (fun _=>0) ho11 ?_ ?_
 intro k4 ss a5 K6 cont7 hK8 hcont9 h hr10
 obtain⟨s2,s3⟩:=ss
 replace h:Ev n Bi (k4+1) s2 s3=some o11:=h
 rw[Ev] at h
 conv=>lhs;whnf
 revert h
 refine br ?_ ?_
 refine cp ?_
 refine ixs ?_;intro x14
 refine br ?_ ?_
 exact fun h=>cq (hcont9 (IntKind.i64.wrap (s2+1),s3) (fun _=>0) h)
 refine br ?_ ?_
 exact fun h=>cq (hcont9 (IntKind.i64.wrap (s2+1),s3) (fun _=>0) h)
 refine br ?_ ?_
 exact fun h=>cq (hcont9 (IntKind.i64.wrap (s2+1),s3) (fun _=>0) h)
 refine br ?_ ?_
 exact fun h=>cq (hcont9 (IntKind.i64.wrap (s2+1),s3) (fun _=>0) h)
 refine br ?_ ?_
 refine cr hc (fun _ h=>Y1 h) ?_;intro y20
 exact fun h=>cq (hcont9 (IntKind.i64.wrap (s2+y20),s3) (fun _=>0) h)
 refine ca hc (fun _ h=>A7z h) ?_;intro y22
 refine br ?_ ?_
 refine cr hc (fun _ h=>Xz h) ?_;intro y25
 refine br ?_ ?_
 intro h;cases sj h
 refine(hK8 _ _).trans ?_
 refine Eq.trans ?_ (Eq.symm (show _=some _ from hr10))
 conv=>lhs;whnf
 exact rq
 refine cp ?_
 refine ar (ap A5 (List.map A5 s3) s3 ([[iA (1),sA ((List.drop 0 (List.take (y25.toNat) (List.drop (s2.toNat) (List.take (Bi.length) Bi))))),iA (0),iA s2]]) ([(⟨1,(List.drop 0 (List.take (y25.toNat) (List.drop (s2.toNat) (List.take (Bi.length) Bi)))),0,s2⟩:A6)]:List A6)) ?_
 exact fun h=>cq (hcont9 (IntKind.i64.wrap (s2+((((List.drop 0 (List.take (y25.toNat) (List.drop (s2.toNat) (List.take (Bi.length) Bi))))).length:Nat):Int)),(s3++([(⟨1,(List.drop 0 (List.take (y25.toNat) (List.drop (s2.toNat) (List.take (Bi.length) Bi)))),0,s2⟩:A6)]:List A6))) (fun _=>0) h)
 refine ca hc (fun _ h=>Aaq h) ?_;intro y31
 refine br ?_ ?_
 refine cr hc (fun _ h=>Z3 h) ?_;intro y34
 refine cp ?_
 refine cp ?_
 refine cr hc (fun _ h=>Aa4 h) ?_;intro y38
 refine br ?_ ?_
 intro h;cases sj h
 refine(hK8 _ _).trans ?_
 refine Eq.trans ?_ (Eq.symm (show _=some _ from hr10))
 conv=>lhs;whnf
 exact rq
 refine ar (ap A5 (List.map A5 s3) s3 ([[iA (2),sA ((List.drop 0 (List.take (y34.toNat) (List.drop (s2.toNat) (List.take (Bi.length) Bi))))),iA y38,iA s2]]) ([(⟨2,(List.drop 0 (List.take (y34.toNat) (List.drop (s2.toNat) (List.take (Bi.length) Bi)))),y38,s2⟩:A6)]:List A6)) ?_
 exact fun h=>cq (hcont9 (IntKind.i64.wrap (s2+((((List.drop 0 (List.take (y34.toNat) (List.drop (s2.toNat) (List.take (Bi.length) Bi))))).length:Nat):Int)),(s3++([(⟨2,(List.drop 0 (List.take (y34.toNat) (List.drop (s2.toNat) (List.take (Bi.length) Bi)))),y38,s2⟩:A6)]:List A6))) (fun _=>0) h)
 refine cr hc (fun _ h=>Adv h) ?_;intro y43
 refine br ?_ ?_
 intro h;cases sj h
 refine(hK8 _ _).trans ?_
 refine Eq.trans ?_ (Eq.symm (show _=some _ from hr10))
 conv=>lhs;whnf
 exact rq
 refine cp ?_
 refine ar (ap A5 (List.map A5 s3) s3 ([[iA (3),sA ((List.drop 0 (List.take (y43.toNat) (List.drop (s2.toNat) (List.take (Bi.length) Bi))))),iA (0),iA s2]]) ([(⟨3,(List.drop 0 (List.take (y43.toNat) (List.drop (s2.toNat) (List.take (Bi.length) Bi)))),0,s2⟩:A6)]:List A6)) ?_
 exact fun h=>cq (hcont9 (IntKind.i64.wrap (s2+((((List.drop 0 (List.take (y43.toNat) (List.drop (s2.toNat) (List.take (Bi.length) Bi))))).length:Nat):Int)),(s3++([(⟨3,(List.drop 0 (List.take (y43.toNat) (List.drop (s2.toNat) (List.take (Bi.length) Bi)))),0,s2⟩:A6)]:List A6))) (fun _=>0) h)
 intro h;cases sj h
 exact kq (hr10 (fun _=>0))
 refine lrc ?_ ?_
 intro v e;subst e;cases sj h;rfl
 intro x50 a49 e;subst e
 dsimp only at h
 conv=>lhs;whnf
 revert h
 intro h;cases sj h
 try simp only[ls]
 exact fq (y:=some (AV.tup [AV.sl 4 (List.take (List.length x50) (List.map A5 x50)),iA (0),iA (0)],[]))
theorem S8 {n:Nat} ⦃Bi:(List UInt8)⦄ ⦃r:(Ar×Int×Int)⦄:O9 n Bi=some r→CN n 15 [sA Bi] []=some (AV.tup [AV.agg [iA r.1.B2,AV.sl 3 (List.map Ak r.1.Ao),AV.sl 4 (List.map A8 r.1.A7),AV.sl 3 (List.map Af r.1.Ac)],iA r.2.1,iA r.2.2],[]):=by
 intro h;rcases n with _|n;cases h
 rw[O9] at h
 refine Ye Tryz.func15 (by rfl) rfl rfl (As rfl) ?_
 intro call hc hcA;conv=>lhs;whnf
 revert h
 refine ca hc (fun _ h=>Abv h) ?_;intro y1
 refine br ?_ ?_
 exact rz
 intro h
 obtain⟨n4,hn8,h⟩:=Nc h
 obtain⟨call5,hc6,hcA9,ho7⟩:=Iu (f:=43) (args:=[iA (1),sA (([109,111,100]:List UInt8))]) (hp:=[]) hcA hn8 Tryz.func43 (by rfl) rfl rfl (As rfl)
 try simp only[ls]
 simp only[ho7]
 conv=>lhs;whnf
 revert h
 refine ca hc (fun _ h=>Ue h) ?_;intro y10
 refine ca hc (fun _ h=>T6 h) ?_;intro y12
 refine ca hc (fun _ h=>Ci h) ?_;intro y14
 intro h
 obtain⟨n16,hn20,h⟩:=Nc h
 obtain⟨call17,hc18,hcA21,ho19⟩:=Iu (f:=43) (args:=[iA (1),sA (([108,111,99]:List UInt8))]) (hp:=[]) hcA hn20 Tryz.func43 (by rfl) rfl rfl (As rfl)
 try simp only[ls]
 simp only[ho19]
 conv=>lhs;whnf
 revert h
 refine ca hc (fun _ h=>E8 h) ?_;intro y22
 intro h;refine Av h ?_;clear h;intro o40 ho40 h
 refine lq (σ:=(Bool×Int×Int×Int×Int×(List UInt8)×Int×Int×(List Az))) (τ:=(Int×Int×Int×Int×(List UInt8)×Int×Int×(List Az))) (ν:=(Ar×Int×Int)) 0 (fun(s24,s25,s26,s27,s28,s29,s30,s31,s32) a34=>B4 135 [(2,AV.ptr 0 0),(5,AV.sl 4 (List.map A5 y1.1)),(8,AV.ptr 1 0),(9,AV.ptr 2 0),(10,AV.ptr 7 0),(11,bA s24)]) (fun(s24,s25,s26,s27,s28,s29,s30,s31,s32) a34=>[Ob.var 26 [iA (0),AV.row 8 (List.length (([]:List Az))),AV.row 9 (List.length (([]:List Ag))),AV.row 10 (List.length (([]:List Ai)))],Ob.var 67 [AV.sl 4 (List.map A5 y1.1),iA s25,iA s26,iA s27],Ob.var 26 [iA y12.1.Bk,AV.row 11 (List.length s32),AV.row 12 (List.length (([]:List Ag))),AV.row 13 (List.length (([]:List Ai)))],Ob.var 3 [iA (1)],Ob.var 9 [sA (([109,111,100]:List UInt8))],Ob.var 3 [iA (1)],Ob.var 9 [sA (([108,111,99]:List UInt8))],Ob.var 69 [iA s28,sA s29,iA s30,iA s31],Ob.row 44 3 ([]),Ob.row 35 4 ([]),Ob.row 40 3 ([]),Ob.row 44 3 (List.map Ak s32),Ob.row 35 4 ([]),Ob.row 40 3 ([])]) (fun(x55,x56,x57,x58,x59,x60,x61,x62) a54=>B4 135 [(2,AV.ptr 0 0),(5,AV.sl 4 (List.map A5 y1.1)),(8,AV.ptr 1 0),(9,AV.ptr 2 0)]) (fun(x55,x56,x57,x58,x59,x60,x61,x62) a54=>[Ob.var 26 [iA (0),AV.row 8 (List.length (([]:List Az))),AV.row 9 (List.length (([]:List Ag))),AV.row 10 (List.length (([]:List Ai)))],Ob.var 67 [AV.sl 4 (List.map A5 y1.1),iA x55,iA x56,iA x57],Ob.var 26 [iA y12.1.Bk,AV.row 11 (List.length x62),AV.row 12 (List.length (([]:List Ag))),AV.row 13 (List.length (([]:List Ai)))],Ob.var 3 [iA (1)],Ob.var 9 [sA (([109,111,100]:List UInt8))],Ob.var 3 [iA (1)],Ob.var 9 [sA (([108,111,99]:List UInt8))],Ob.var 69 [iA x58,sA x59,iA x60,iA x61],Ob.row 44 3 ([]),Ob.row 35 4 ([]),Ob.row 40 3 ([]),Ob.row 44 3 (List.map Ak x62),Ob.row 35 4 ([]),Ob.row 40 3 ([])]) (fun v=>(AV.tup [AV.agg [iA v.1.B2,AV.sl 3 (List.map Ak v.1.Ao),AV.sl 4 (List.map A8 v.1.A7),AV.sl 3 (List.map Af v.1.Ac)],iA v.2.1,iA v.2.2],[])) (fun k s=>Pa n y1 k s.1 s.2.1 s.2.2.1 s.2.2.2.1 s.2.2.2.2.1 s.2.2.2.2.2.1 s.2.2.2.2.2.2.1 s.2.2.2.2.2.2.2.1 s.2.2.2.2.2.2.2.2) (fun s=>rfl) o40 n (y22.2.1,y22.2.2,y14.2.1,y14.2.2,y22.1.Ah,y22.1.Au,y22.1.Bk,y22.1.B0,([]:List Az)) (fun _=>0) ho40 ?_ ?_
 intro k33 ss a34 K35 cont36 hK37 hcont38 h hr39
 obtain⟨s24,s25,s26,s27,s28,s29,s30,s31,s32⟩:=ss
 replace h:Pa n y1 (k33+1) s24 s25 s26 s27 s28 s29 s30 s31 s32=some o40:=h
 rw[Pa] at h
 conv=>lhs;whnf
 revert h
 refine br ?_ ?_
 refine ca hc (fun _ h=>A25 h) ?_;intro y42
 refine ar (ap Ak (List.map Ak s32) s32 ([[sA y42.1.Ae,iA y42.1.Bk,iA y42.1.B0]]) ([y42.1]:List Az)) ?_
 intro h
 obtain⟨n46,hn50,h⟩:=Nc h
 obtain⟨call47,hc48,hcA51,ho49⟩:=Iu (f:=43) (args:=[iA (1),sA (([108,111,99]:List UInt8))]) (hp:=[]) hcA hn50 Tryz.func43 (by rfl) rfl rfl (As rfl)
 try simp only[ls]
 simp only[ho49]
 conv=>lhs;whnf
 revert h
 refine ca hc (fun _ h=>E8 h) ?_;intro y52
 exact fun h=>cq (hcont38 (y52.2.1,y52.2.2,y42.2.2.1,y42.2.2.2,y52.1.Ah,y52.1.Au,y52.1.Bk,y52.1.B0,(s32++([y42.1]:List Az))) (fun _=>0) h)
 intro h;cases sj h
 exact kq (hr39 (fun _=>0))
 refine lrc ?_ ?_
 intro v e;subst e;cases sj h;rfl
 intro t a54 e;subst e
 obtain⟨x55,x56,x57,x58,x59,x60,x61,x62⟩:=t
 dsimp only at h
 conv=>lhs;whnf
 revert h
 intro h
 obtain⟨n63,hn67,h⟩:=Nc h
 obtain⟨call64,hc65,hcA68,ho66⟩:=Iu (f:=43) (args:=[iA (1),sA (([116,104,114,101,97,100]:List UInt8))]) (hp:=[]) hcA hn67 Tryz.func43 (by rfl) rfl rfl (As rfl)
 try simp only[ls]
 simp only[ho66]
 conv=>lhs;whnf
 revert h
 refine ca hc (fun _ h=>E8 h) ?_;intro y69
 intro h;refine Av h ?_;clear h;intro o87 ho87 h
 refine lq (σ:=(Bool×Int×Int×Int×(List Ag)×Int×(List UInt8)×Int×Int)) (τ:=(Int×Int×Int×Int×(List UInt8)×Int×Int×(List Ag))) (ν:=(Ar×Int×Int)) 2 (fun(s71,s72,s73,s74,s75,s76,s77,s78,s79) a81=>B4 135 [(2,AV.ptr 0 0),(5,AV.sl 4 (List.map A5 y1.1)),(8,AV.ptr 1 0),(9,AV.ptr 2 0),(12,AV.ptr 16 0),(13,bA s71)]) (fun(s71,s72,s73,s74,s75,s76,s77,s78,s79) a81=>[Ob.var 26 [iA (0),AV.row 8 (List.length (([]:List Az))),AV.row 9 (List.length (([]:List Ag))),AV.row 10 (List.length (([]:List Ai)))],Ob.var 67 [AV.sl 4 (List.map A5 y1.1),iA s72,iA s73,iA s74],Ob.var 26 [iA y12.1.Bk,AV.row 11 (List.length x62),AV.row 12 (List.length s75),AV.row 13 (List.length (([]:List Ai)))],Ob.var 3 [iA (1)],Ob.var 9 [sA (([109,111,100]:List UInt8))],Ob.var 3 [iA (1)],Ob.var 9 [sA (([108,111,99]:List UInt8))],Ob.var 69 [iA x58,sA x59,iA x60,iA x61],Ob.row 44 3 ([]),Ob.row 35 4 ([]),Ob.row 40 3 ([]),Ob.row 44 3 (List.map Ak x62),Ob.row 35 4 (List.map A8 s75),Ob.row 40 3 ([]),Ob.var 3 [iA (1)],Ob.var 9 [sA (([116,104,114,101,97,100]:List UInt8))],Ob.var 69 [iA s76,sA s77,iA s78,iA s79]]) (fun(x102,x103,x104,x105,x106,x107,x108,x109) a101=>B4 135 [(2,AV.ptr 0 0),(5,AV.sl 4 (List.map A5 y1.1)),(8,AV.ptr 1 0),(9,AV.ptr 2 0)]) (fun(x102,x103,x104,x105,x106,x107,x108,x109) a101=>[Ob.var 26 [iA (0),AV.row 8 (List.length (([]:List Az))),AV.row 9 (List.length (([]:List Ag))),AV.row 10 (List.length (([]:List Ai)))],Ob.var 67 [AV.sl 4 (List.map A5 y1.1),iA x102,iA x103,iA x104],Ob.var 26 [iA y12.1.Bk,AV.row 11 (List.length x62),AV.row 12 (List.length x109),AV.row 13 (List.length (([]:List Ai)))],Ob.var 3 [iA (1)],Ob.var 9 [sA (([109,111,100]:List UInt8))],Ob.var 3 [iA (1)],Ob.var 9 [sA (([108,111,99]:List UInt8))],Ob.var 69 [iA x58,sA x59,iA x60,iA x61],Ob.row 44 3 ([]),Ob.row 35 4 ([]),Ob.row 40 3 ([]),Ob.row 44 3 (List.map Ak x62),Ob.row 35 4 (List.map A8 x109),Ob.row 40 3 ([]),Ob.var 3 [iA (1)],Ob.var 9 [sA (([116,104,114,101,97,100]:List UInt8))],Ob.var 69 [iA x105,sA x106,iA x107,iA x108]]) (fun v=>(AV.tup [AV.agg [iA v.1.B2,AV.sl 3 (List.map Ak v.1.Ao),AV.sl 4 (List.map A8 v.1.A7),AV.sl 3 (List.map Af v.1.Ac)],iA v.2.1,iA v.2.2],[])) (fun k s=>P8 n y1 k s.1 s.2.1 s.2.2.1 s.2.2.2.1 s.2.2.2.2.1 s.2.2.2.2.2.1 s.2.2.2.2.2.2.1 s.2.2.2.2.2.2.2.1 s.2.2.2.2.2.2.2.2) (fun s=>rfl) o87 n (y69.2.1,y69.2.2,x56,x57,([]:List Ag),y69.1.Ah,y69.1.Au,y69.1.Bk,y69.1.B0) (fun _=>0) ho87 ?_ ?_
 intro k80 ss a81 K82 cont83 hK84 hcont85 h hr86
 obtain⟨s71,s72,s73,s74,s75,s76,s77,s78,s79⟩:=ss
 replace h:P8 n y1 (k80+1) s71 s72 s73 s74 s75 s76 s77 s78 s79=some o87:=h
 rw[P8] at h
 conv=>lhs;whnf
 revert h
 refine br ?_ ?_
 refine ca hc (fun _ h=>A06 h) ?_;intro y89
 refine ar (ap A8 (List.map A8 s75) s75 ([[sA y89.1.Ae,AV.sl 1 (List.map D6 y89.1.Ay),AV.sl 9 (List.map Al y89.1.Aq),iA y89.1.B0]]) ([y89.1]:List Ag)) ?_
 intro h
 obtain⟨n93,hn97,h⟩:=Nc h
 obtain⟨call94,hc95,hcA98,ho96⟩:=Iu (f:=43) (args:=[iA (1),sA (([116,104,114,101,97,100]:List UInt8))]) (hp:=[]) hcA hn97 Tryz.func43 (by rfl) rfl rfl (As rfl)
 try simp only[ls]
 simp only[ho96]
 conv=>lhs;whnf
 revert h
 refine ca hc (fun _ h=>E8 h) ?_;intro y99
 exact fun h=>cq (hcont85 (y99.2.1,y99.2.2,y89.2.2.1,y89.2.2.2,(s75++([y89.1]:List Ag)),y99.1.Ah,y99.1.Au,y99.1.Bk,y99.1.B0) (fun _=>0) h)
 intro h;cases sj h
 exact kq (hr86 (fun _=>0))
 refine lrc ?_ ?_
 intro v e;subst e;cases sj h;rfl
 intro t a101 e;subst e
 obtain⟨x102,x103,x104,x105,x106,x107,x108,x109⟩:=t
 dsimp only at h
 conv=>lhs;whnf
 revert h
 intro h;refine Av h ?_;clear h;intro o122 ho122 h
 refine lq (σ:=(Bool×Int×Int×Int×(List Ai))) (τ:=(Int×Int×Int×(List Ai))) (ν:=(Ar×Int×Int)) 4 (fun(s110,s111,s112,s113,s114) a116=>B4 135 [(2,AV.ptr 0 0),(5,AV.sl 4 (List.map A5 y1.1)),(8,AV.ptr 1 0),(9,AV.ptr 2 0),(14,bA s110)]) (fun(s110,s111,s112,s113,s114) a116=>[Ob.var 26 [iA (0),AV.row 8 (List.length (([]:List Az))),AV.row 9 (List.length (([]:List Ag))),AV.row 10 (List.length (([]:List Ai)))],Ob.var 67 [AV.sl 4 (List.map A5 y1.1),iA s111,iA s112,iA s113],Ob.var 26 [iA y12.1.Bk,AV.row 11 (List.length x62),AV.row 12 (List.length x109),AV.row 13 (List.length s114)],Ob.var 3 [iA (1)],Ob.var 9 [sA (([109,111,100]:List UInt8))],Ob.var 3 [iA (1)],Ob.var 9 [sA (([108,111,99]:List UInt8))],Ob.var 69 [iA x58,sA x59,iA x60,iA x61],Ob.row 44 3 ([]),Ob.row 35 4 ([]),Ob.row 40 3 ([]),Ob.row 44 3 (List.map Ak x62),Ob.row 35 4 (List.map A8 x109),Ob.row 40 3 (List.map Af s114),Ob.var 3 [iA (1)],Ob.var 9 [sA (([116,104,114,101,97,100]:List UInt8))],Ob.var 69 [iA x105,sA x106,iA x107,iA x108]]) (fun(x162,x163,x164,x165) a161=>B4 135 [(2,AV.ptr 0 0),(5,AV.sl 4 (List.map A5 y1.1)),(8,AV.ptr 1 0),(9,AV.ptr 2 0)]) (fun(x162,x163,x164,x165) a161=>[Ob.var 26 [iA (0),AV.row 8 (List.length (([]:List Az))),AV.row 9 (List.length (([]:List Ag))),AV.row 10 (List.length (([]:List Ai)))],Ob.var 67 [AV.sl 4 (List.map A5 y1.1),iA x162,iA x163,iA x164],Ob.var 26 [iA y12.1.Bk,AV.row 11 (List.length x62),AV.row 12 (List.length x109),AV.row 13 (List.length x165)],Ob.var 3 [iA (1)],Ob.var 9 [sA (([109,111,100]:List UInt8))],Ob.var 3 [iA (1)],Ob.var 9 [sA (([108,111,99]:List UInt8))],Ob.var 69 [iA x58,sA x59,iA x60,iA x61],Ob.row 44 3 ([]),Ob.row 35 4 ([]),Ob.row 40 3 ([]),Ob.row 44 3 (List.map Ak x62),Ob.row 35 4 (List.map A8 x109),Ob.row 40 3 (List.map Af x165),Ob.var 3 [iA (1)],Ob.var 9 [sA (([116,104,114,101,97,100]:List UInt8))],Ob.var 69 [iA x105,sA x106,iA x107,iA x108]]) (fun v=>(AV.tup [AV.agg [iA v.1.B2,AV.sl 3 (List.map Ak v.1.Ao),AV.sl 4 (List.map A8 v.1.A7),AV.sl 3 (List.map Af v.1.Ac)],iA v.2.1,iA v.2.2],[])) (fun k s=>P7 n y1 k s.1 s.2.1 s.2.2.1 s.2.2.2.1 s.2.2.2.2) (fun s=>rfl) o122 n (true,x102,x103,x104,([]:List Ai)) (fun _=>0) ho122 ?_ ?_
 intro k115 ss a116 K117 cont118 hK119 hcont120 h hr121
 obtain⟨s110,s111,s112,s113,s114⟩:=ss
 replace h:P7 n y1 (k115+1) s110 s111 s112 s113 s114=some o122:=h
 rw[P7] at h
 conv=>lhs;whnf
 revert h
 refine br ?_ ?_
 intro h;refine Av h ?_;clear h;intro o137 ho137 h
 refine lq (σ:=(Bool×Int×Int×Int×Int×(List Ai))) (τ:=(Bool×Int×Int×Int×(List Ai))) (ν:=(Ar×Int×Int)) 6 (fun(s124,s125,s126,s127,s128,s129) a131=>B4 135 [(2,AV.ptr 0 0),(5,AV.sl 4 (List.map A5 y1.1)),(8,AV.ptr 1 0),(9,AV.ptr 2 0),(14,bA s124),(15,iA s125)]) (fun(s124,s125,s126,s127,s128,s129) a131=>[Ob.var 26 [iA (0),AV.row 8 (List.length (([]:List Az))),AV.row 9 (List.length (([]:List Ag))),AV.row 10 (List.length (([]:List Ai)))],Ob.var 67 [AV.sl 4 (List.map A5 y1.1),iA s126,iA s127,iA s128],Ob.var 26 [iA y12.1.Bk,AV.row 11 (List.length x62),AV.row 12 (List.length x109),AV.row 13 (List.length s129)],Ob.var 3 [iA (1)],Ob.var 9 [sA (([109,111,100]:List UInt8))],Ob.var 3 [iA (1)],Ob.var 9 [sA (([108,111,99]:List UInt8))],Ob.var 69 [iA x58,sA x59,iA x60,iA x61],Ob.row 44 3 ([]),Ob.row 35 4 ([]),Ob.row 40 3 ([]),Ob.row 44 3 (List.map Ak x62),Ob.row 35 4 (List.map A8 x109),Ob.row 40 3 (List.map Af s129),Ob.var 3 [iA (1)],Ob.var 9 [sA (([116,104,114,101,97,100]:List UInt8))],Ob.var 69 [iA x105,sA x106,iA x107,iA x108]]) (fun(x155,x156,x157,x158,x159) a154=>B4 135 [(2,AV.ptr 0 0),(5,AV.sl 4 (List.map A5 y1.1)),(8,AV.ptr 1 0),(9,AV.ptr 2 0),(14,bA x155)]) (fun(x155,x156,x157,x158,x159) a154=>[Ob.var 26 [iA (0),AV.row 8 (List.length (([]:List Az))),AV.row 9 (List.length (([]:List Ag))),AV.row 10 (List.length (([]:List Ai)))],Ob.var 67 [AV.sl 4 (List.map A5 y1.1),iA x156,iA x157,iA x158],Ob.var 26 [iA y12.1.Bk,AV.row 11 (List.length x62),AV.row 12 (List.length x109),AV.row 13 (List.length x159)],Ob.var 3 [iA (1)],Ob.var 9 [sA (([109,111,100]:List UInt8))],Ob.var 3 [iA (1)],Ob.var 9 [sA (([108,111,99]:List UInt8))],Ob.var 69 [iA x58,sA x59,iA x60,iA x61],Ob.row 44 3 ([]),Ob.row 35 4 ([]),Ob.row 40 3 ([]),Ob.row 44 3 (List.map Ak x62),Ob.row 35 4 (List.map A8 x109),Ob.row 40 3 (List.map Af x159),Ob.var 3 [iA (1)],Ob.var 9 [sA (([116,104,114,101,97,100]:List UInt8))],Ob.var 69 [iA x105,sA x106,iA x107,iA x108]]) (fun v=>(AV.tup [AV.agg [iA v.1.B2,AV.sl 3 (List.map Ak v.1.Ao),AV.sl 4 (List.map A8 v.1.A7),AV.sl 3 (List.map Af v.1.Ac)],iA v.2.1,iA v.2.2],[])) (fun k s=>Mg n y1 k s.1 s.2.1 s.2.2.1 s.2.2.2.1 s.2.2.2.2.1 s.2.2.2.2.2) (fun s=>rfl) o137 n (false,1,s111,s112,s113,s114) (fun _=>0) ho137 ?_ ?_
 intro k130 ss a131 K132 cont133 hK134 hcont135 h hr136
 obtain⟨s124,s125,s126,s127,s128,s129⟩:=ss
 replace h:Mg n y1 (k130+1) s124 s125 s126 s127 s128 s129=some o137:=h
 rw[Mg] at h
 conv=>lhs;whnf
 revert h
 refine br ?_ ?_
 refine ca hc (fun _ h=>Xd h) ?_;intro y139
 intro h
 obtain⟨n141,hn145,h⟩:=Nc h
 obtain⟨call142,hc143,hcA146,ho144⟩:=Iu (f:=43) (args:=[iA (1),sA y139]) (hp:=[]) hcA hn145 Tryz.func43 (by rfl) rfl rfl (As rfl)
 try simp only[ls]
 simp only[ho144]
 conv=>lhs;whnf
 revert h
 refine ca hc (fun _ h=>E8 h) ?_;intro y147
 refine br ?_ ?_
 refine ca hc (fun _ h=>A0x h) ?_;intro y150
 refine ar (ap Af (List.map Af s129) s129 ([[iA y150.1.Ah,AV.sl 5 (List.map A1 y150.1.Bh),iA y150.1.B0]]) ([y150.1]:List Ai)) ?_
 exact fun h=>cq (hcont135 (true,IntKind.i64.wrap (s125+1),y150.2.1,y150.2.2.1,y150.2.2.2,(s129++([y150.1]:List Ai))) (fun _=>0) h)
 exact fun h=>cq (hcont135 (s124,IntKind.i64.wrap (s125+1),y147.2.2,s127,s128,s129) (fun _=>0) h)
 intro h;cases sj h
 exact kq (hr136 (fun _=>0))
 refine lrc ?_ ?_
 intro v e;subst e;cases sj h;exact hr121
 intro t a154 e;subst e
 obtain⟨x155,x156,x157,x158,x159⟩:=t
 dsimp only at h
 conv=>lhs;whnf
 revert h
 exact fun h=>cq (hcont120 (x155,x156,x157,x158,x159) (fun _=>0) h)
 intro h;cases sj h
 exact kq (hr121 (fun _=>0))
 refine lrc ?_ ?_
 intro v e;subst e;cases sj h;rfl
 intro t a161 e;subst e
 obtain⟨x162,x163,x164,x165⟩:=t
 dsimp only at h
 conv=>lhs;whnf
 revert h
 refine br ?_ ?_
 refine ca hc (fun _ h=>L5 h) ?_;intro y167
 refine br ?_ ?_
 exact rz
 intro h;cases sj h
 try simp only[ls]
 exact fq (y:=some (AV.tup [AV.agg [iA y12.1.Bk,AV.sl 3 (List.take (List.length x62) (List.map Ak x62)),AV.sl 4 (List.take (List.length x109) (List.map A8 x109)),AV.sl 3 (List.take (List.length x165) (List.map Af x165))],iA (0),iA (0)],[]))
 refine br ?_ ?_
 exact rz
 intro h;cases sj h
 try simp only[ls]
 exact fq (y:=some (AV.tup [AV.agg [iA y12.1.Bk,AV.sl 3 (List.take (List.length x62) (List.map Ak x62)),AV.sl 4 (List.take (List.length x109) (List.map A8 x109)),AV.sl 3 (List.take (List.length x165) (List.map Af x165))],iA (0),iA (0)],[]))
theorem Zt {n:Nat} ⦃Bv:Int⦄ ⦃r:Bool⦄:Mh n Bv=some r→CN n 21 [iA Bv] []=some (bA r,[]):=by
 intro h;rcases n with _|n;cases h
 rw[Mh] at h
 refine An Tryz.func21 (by rfl) rfl rfl (As rfl) ?_
 intro call hc;conv=>lhs;whnf
 revert h
 refine br ?_ ?_
 exact rz
 exact rz
theorem A5s {n:Nat} ⦃H8:Int⦄ ⦃C1:Int⦄ ⦃Bq:(List Az)⦄ ⦃Ba:(List Ag)⦄ ⦃Bf:(List Ai)⦄ ⦃r:Bool⦄:Qz n H8 C1 Bq Ba Bf=some r→CN n 19 [iA H8,AV.ptr 0 0] [Ob.var 26 [iA C1,AV.sl 3 (List.map Ak Bq),AV.sl 4 (List.map A8 Ba),AV.sl 3 (List.map Af Bf)]]=some (bA r,[Ob.var 26 [iA C1,AV.sl 3 (List.map Ak Bq),AV.sl 4 (List.map A8 Ba),AV.sl 3 (List.map Af Bf)]]):=by
 intro h;rcases n with _|n;cases h
 rw[Qz] at h
 refine An Tryz.func19 (by rfl) rfl rfl (As rfl) ?_
 intro call hc;conv=>lhs;whnf
 revert h
 refine ix ?_;intro x1
 refine ca hc (fun _ h=>Fz h) ?_;intro y2
 refine br ?_ ?_
 refine ca hc (fun _ h=>Zt h) ?_;intro y5
 refine br ?_ ?_
 exact rz
 exact rz
 exact rz
theorem Aek {n:Nat} ⦃Bv:Int⦄ ⦃C1:Int⦄ ⦃Bq:(List Az)⦄ ⦃Ba:(List Ag)⦄ ⦃Bf:(List Ai)⦄ ⦃r:Bool⦄:Te n Bv C1 Bq Ba Bf=some r→CN n 18 [iA Bv,AV.func 19 [] [AV.ptr 0 0]] [Ob.var 26 [iA C1,AV.sl 3 (List.map Ak Bq),AV.sl 4 (List.map A8 Ba),AV.sl 3 (List.map Af Bf)]]=some (bA r,[Ob.var 26 [iA C1,AV.sl 3 (List.map Ak Bq),AV.sl 4 (List.map A8 Ba),AV.sl 3 (List.map Af Bf)]]):=by
 intro h;rcases n with _|n;cases h
 rw[Te] at h
 refine An Tryz.func18 (by rfl) rfl rfl (As rfl) ?_
 intro call hc;conv=>lhs;whnf
 revert h
 intro h;refine Av h ?_;clear h;intro o9 ho9 h
 refine lq (σ:=Int) (τ:=Unit) (ν:=Bool) 0 (fun s1 a3=>B4 15 [(1,AV.func 19 [] [AV.ptr 0 0]),(6,iA Bv),(7,iA s1)]) (fun s1 a3=>[Ob.var 26 [iA C1,AV.sl 3 (List.map Ak Bq),AV.sl 4 (List.map A8 Ba),AV.sl 3 (List.map Af Bf)]]) (fun _ a14=>B4 15 []) (fun _ a14=>[Ob.var 26 [iA C1,AV.sl 3 (List.map Ak Bq),AV.sl 4 (List.map A8 Ba),AV.sl 3 (List.map Af Bf)]]) (fun v=>(bA v,[Ob.var 26 [iA C1,AV.sl 3 (List.map Ak Bq),AV.sl 4 (List.map A8 Ba),AV.sl 3 (List.map Af Bf)]])) (fun k s=>Kh n Bv C1 Bq Ba Bf k s) (fun s=>rfl) o9 n 0 (fun _=>0) ho9 ?_ ?_
 intro k2 s1 a3 K4 cont5 hK6 hcont7 h hr8
 replace h:Kh n Bv C1 Bq Ba Bf (k2+1) s1=some o9:=h
 rw[Kh] at h
 conv=>lhs;whnf
 revert h
 refine br ?_ ?_
 refine ca hc (fun _ h=>A5s h) ?_;intro y11
 refine br ?_ ?_
 exact fun h=>cq (hcont7 (IntKind.i64.wrap (s1+1)) (fun _=>0) h)
 intro h;cases sj h
 refine(hK6 _ _).trans ?_
 refine Eq.trans ?_ (Eq.symm (show _=some _ from hr8))
 conv=>lhs;whnf
 exact rq
 intro h;cases sj h
 exact kq (hr8 (fun _=>0))
 refine lrc ?_ ?_
 intro v e;subst e;cases sj h;rfl
 intro t a14 e;subst e
 dsimp only at h
 conv=>lhs;whnf
 revert h
 exact rz
theorem A5i {n:Nat} ⦃H8:Int⦄ ⦃Hq:(List UInt8)⦄ ⦃Ha:(List (List UInt8))⦄ ⦃Hr:(List A2)⦄ ⦃M6:Int⦄ ⦃r:Bool⦄:Pz n H8 Hq Ha Hr M6=some r→CN n 55 [iA H8,AV.ptr 0 0] [Ob.var 35 [sA Hq,AV.sl 1 (List.map D6 Ha),AV.sl 9 (List.map Al Hr),iA M6]]=some (bA r,[Ob.var 35 [sA Hq,AV.sl 1 (List.map D6 Ha),AV.sl 9 (List.map Al Hr),iA M6]]):=by
 intro h;rcases n with _|n;cases h
 rw[Pz] at h
 refine An Tryz.func55 (by rfl) rfl rfl (As rfl) ?_
 intro call hc;conv=>lhs;whnf
 revert h
 refine ix ?_;intro x1
 refine ca hc (fun _ h=>Fz h) ?_;intro y2
 exact rz
theorem Aab {n:Nat} ⦃Bv:Int⦄ ⦃Hq:(List UInt8)⦄ ⦃Ha:(List (List UInt8))⦄ ⦃Hr:(List A2)⦄ ⦃M6:Int⦄ ⦃r:Bool⦄:Q5 n Bv Hq Ha Hr M6=some r→CN n 18 [iA Bv,AV.func 55 [] [AV.ptr 0 0]] [Ob.var 35 [sA Hq,AV.sl 1 (List.map D6 Ha),AV.sl 9 (List.map Al Hr),iA M6]]=some (bA r,[Ob.var 35 [sA Hq,AV.sl 1 (List.map D6 Ha),AV.sl 9 (List.map Al Hr),iA M6]]):=by
 intro h;rcases n with _|n;cases h
 rw[Q5] at h
 refine An Tryz.func18 (by rfl) rfl rfl (As rfl) ?_
 intro call hc;conv=>lhs;whnf
 revert h
 intro h;refine Av h ?_;clear h;intro o9 ho9 h
 refine lq (σ:=Int) (τ:=Unit) (ν:=Bool) 0 (fun s1 a3=>B4 15 [(1,AV.func 55 [] [AV.ptr 0 0]),(6,iA Bv),(7,iA s1)]) (fun s1 a3=>[Ob.var 35 [sA Hq,AV.sl 1 (List.map D6 Ha),AV.sl 9 (List.map Al Hr),iA M6]]) (fun _ a14=>B4 15 []) (fun _ a14=>[Ob.var 35 [sA Hq,AV.sl 1 (List.map D6 Ha),AV.sl 9 (List.map Al Hr),iA M6]]) (fun v=>(bA v,[Ob.var 35 [sA Hq,AV.sl 1 (List.map D6 Ha),AV.sl 9 (List.map Al Hr),iA M6]])) (fun k s=>I0 n Bv Hq Ha Hr M6 k s) (fun s=>rfl) o9 n 0 (fun _=>0) ho9 ?_ ?_
 intro k2 s1 a3 K4 cont5 hK6 hcont7 h hr8
 replace h:I0 n Bv Hq Ha Hr M6 (k2+1) s1=some o9:=h
 rw[I0] at h
 conv=>lhs;whnf
 revert h
 refine br ?_ ?_
 refine ca hc (fun _ h=>A5i h) ?_;intro y11
 refine br ?_ ?_
 exact fun h=>cq (hcont7 (IntKind.i64.wrap (s1+1)) (fun _=>0) h)
 intro h;cases sj h
 refine(hK6 _ _).trans ?_
 refine Eq.trans ?_ (Eq.symm (show _=some _ from hr8))
 conv=>lhs;whnf
 exact rq
 intro h;cases sj h
 exact kq (hr8 (fun _=>0))
 refine lrc ?_ ?_
 intro v e;subst e;cases sj h;rfl
 intro t a14 e;subst e
 dsimp only at h
 conv=>lhs;whnf
 revert h
 exact rz
theorem A83 {n:Nat} ⦃Eh:Ag⦄ ⦃r:Bool⦄:P2 n Eh=some r→CN n 23 [AV.agg [sA Eh.Ae,AV.sl 1 (List.map D6 Eh.Ay),AV.sl 9 (List.map Al Eh.Aq),iA Eh.B0]] []=some (bA r,[]):=by
 intro h;rcases n with _|n;cases h
 rw[P2] at h
 refine An Tryz.func23 (by rfl) rfl rfl (As rfl) ?_
 intro call hc;conv=>lhs;whnf
 revert h
 refine ca hc (fun _ h=>Fz h) ?_;intro y1
 refine br ?_ ?_
 refine br ?_ ?_
 refine ca hc (fun _ h=>A1l h) ?_;intro y5
 refine br ?_ ?_
 refine cr hc (fun _ h=>Aab h) ?_;intro y8
 exact rz
 exact rz
 exact rz
 exact rz
theorem A7b {n:Nat} ⦃H8:Int⦄ ⦃C1:Int⦄ ⦃Bq:(List Az)⦄ ⦃Ba:(List Ag)⦄ ⦃Bf:(List Ai)⦄ ⦃r:Bool⦄:R6 n H8 C1 Bq Ba Bf=some r→CN n 22 [iA H8,AV.ptr 0 0] [Ob.var 26 [iA C1,AV.sl 3 (List.map Ak Bq),AV.sl 4 (List.map A8 Ba),AV.sl 3 (List.map Af Bf)]]=some (bA r,[Ob.var 26 [iA C1,AV.sl 3 (List.map Ak Bq),AV.sl 4 (List.map A8 Ba),AV.sl 3 (List.map Af Bf)]]):=by
 intro h;rcases n with _|n;cases h
 rw[R6] at h
 refine An Tryz.func22 (by rfl) rfl rfl (As rfl) ?_
 intro call hc;conv=>lhs;whnf
 revert h
 refine ix ?_;intro x1
 refine ca hc (fun _ h=>A83 h) ?_;intro y2
 exact rz
theorem A9z {n:Nat} ⦃Bv:Int⦄ ⦃C1:Int⦄ ⦃Bq:(List Az)⦄ ⦃Ba:(List Ag)⦄ ⦃Bf:(List Ai)⦄ ⦃r:Bool⦄:Qb n Bv C1 Bq Ba Bf=some r→CN n 18 [iA Bv,AV.func 22 [] [AV.ptr 0 0]] [Ob.var 26 [iA C1,AV.sl 3 (List.map Ak Bq),AV.sl 4 (List.map A8 Ba),AV.sl 3 (List.map Af Bf)]]=some (bA r,[Ob.var 26 [iA C1,AV.sl 3 (List.map Ak Bq),AV.sl 4 (List.map A8 Ba),AV.sl 3 (List.map Af Bf)]]):=by
 intro h;rcases n with _|n;cases h
 rw[Qb] at h
 refine An Tryz.func18 (by rfl) rfl rfl (As rfl) ?_
 intro call hc;conv=>lhs;whnf
 revert h
 intro h;refine Av h ?_;clear h;intro o9 ho9 h
 refine lq (σ:=Int) (τ:=Unit) (ν:=Bool) 0 (fun s1 a3=>B4 15 [(1,AV.func 22 [] [AV.ptr 0 0]),(6,iA Bv),(7,iA s1)]) (fun s1 a3=>[Ob.var 26 [iA C1,AV.sl 3 (List.map Ak Bq),AV.sl 4 (List.map A8 Ba),AV.sl 3 (List.map Af Bf)]]) (fun _ a14=>B4 15 []) (fun _ a14=>[Ob.var 26 [iA C1,AV.sl 3 (List.map Ak Bq),AV.sl 4 (List.map A8 Ba),AV.sl 3 (List.map Af Bf)]]) (fun v=>(bA v,[Ob.var 26 [iA C1,AV.sl 3 (List.map Ak Bq),AV.sl 4 (List.map A8 Ba),AV.sl 3 (List.map Af Bf)]])) (fun k s=>I1 n Bv C1 Bq Ba Bf k s) (fun s=>rfl) o9 n 0 (fun _=>0) ho9 ?_ ?_
 intro k2 s1 a3 K4 cont5 hK6 hcont7 h hr8
 replace h:I1 n Bv C1 Bq Ba Bf (k2+1) s1=some o9:=h
 rw[I1] at h
 conv=>lhs;whnf
 revert h
 refine br ?_ ?_
 refine ca hc (fun _ h=>A7b h) ?_;intro y11
 refine br ?_ ?_
 exact fun h=>cq (hcont7 (IntKind.i64.wrap (s1+1)) (fun _=>0) h)
 intro h;cases sj h
 refine(hK6 _ _).trans ?_
 refine Eq.trans ?_ (Eq.symm (show _=some _ from hr8))
 conv=>lhs;whnf
 exact rq
 intro h;cases sj h
 exact kq (hr8 (fun _=>0))
 refine lrc ?_ ?_
 intro v e;subst e;cases sj h;rfl
 intro t a14 e;subst e
 dsimp only at h
 conv=>lhs;whnf
 revert h
 exact rz
theorem Aau {n:Nat} ⦃Cy:Ai⦄ ⦃r:Bool⦄:Q6 n Cy=some r→CN n 25 [AV.agg [iA Cy.Ah,AV.sl 5 (List.map A1 Cy.Bh),iA Cy.B0]] []=some (bA r,[]):=by
 intro h;rcases n with _|n;cases h
 rw[Q6] at h
 refine An Tryz.func25 (by rfl) rfl rfl (As rfl) ?_
 intro call hc;conv=>lhs;whnf
 revert h
 refine ca hc (fun _ h=>A1x h) ?_;intro y1
 intro h;refine Av h ?_;clear h;intro o11 ho11 h
 refine lq (σ:=Int) (τ:=Unit) (ν:=Bool) 0 (fun s3 a5=>B4 31 [(1,AV.ptr 0 0),(7,AV.sl 5 (List.map A1 y1)),(8,iA (((y1.length:Nat):Int))),(9,iA s3)]) (fun s3 a5=>[Ob.var 40 [iA Cy.Ah,AV.sl 5 (List.map A1 Cy.Bh),iA Cy.B0]]) (fun _ a15=>B4 31 [(1,AV.ptr 0 0)]) (fun _ a15=>[Ob.var 40 [iA Cy.Ah,AV.sl 5 (List.map A1 Cy.Bh),iA Cy.B0]]) (fun v=>(bA v,[])) (fun k s=>Jh n y1 k s) (fun s=>rfl) o11 n 0 (fun _=>0) ho11 ?_ ?_
 intro k4 s3 a5 K6 cont7 hK8 hcont9 h hr10
 replace h:Jh n y1 (k4+1) s3=some o11:=h
 rw[Jh] at h
 conv=>lhs;whnf
 revert h
 refine br ?_ ?_
 refine ix ?_;intro x13
 refine br ?_ ?_
 intro h;cases sj h
 refine(hK8 _ _).trans ?_
 refine Eq.trans ?_ (Eq.symm (show _=some _ from hr10))
 conv=>lhs;whnf
 exact rq
 exact fun h=>cq (hcont9 (IntKind.i64.wrap (s3+1)) (fun _=>0) h)
 intro h;cases sj h
 exact kq (hr10 (fun _=>0))
 refine lrc ?_ ?_
 intro v e;subst e;cases sj h;rfl
 intro t a15 e;subst e
 dsimp only at h
 conv=>lhs;whnf
 revert h
 refine ca hc (fun _ h=>Xd h) ?_;intro y16
 refine br ?_ ?_
 exact rz
 refine ca hc (fun _ h=>Vk h) ?_;intro y19
 refine br ?_ ?_
 exact rz
 exact rz
theorem A6l {n:Nat} ⦃H8:Int⦄ ⦃C1:Int⦄ ⦃Bq:(List Az)⦄ ⦃Ba:(List Ag)⦄ ⦃Bf:(List Ai)⦄ ⦃r:Bool⦄:R3 n H8 C1 Bq Ba Bf=some r→CN n 24 [iA H8,AV.ptr 0 0] [Ob.var 26 [iA C1,AV.sl 3 (List.map Ak Bq),AV.sl 4 (List.map A8 Ba),AV.sl 3 (List.map Af Bf)]]=some (bA r,[Ob.var 26 [iA C1,AV.sl 3 (List.map Ak Bq),AV.sl 4 (List.map A8 Ba),AV.sl 3 (List.map Af Bf)]]):=by
 intro h;rcases n with _|n;cases h
 rw[R3] at h
 refine An Tryz.func24 (by rfl) rfl rfl (As rfl) ?_
 intro call hc;conv=>lhs;whnf
 revert h
 refine ix ?_;intro x1
 refine ca hc (fun _ h=>Aau h) ?_;intro y2
 exact rz
theorem Aa6 {n:Nat} ⦃Bv:Int⦄ ⦃C1:Int⦄ ⦃Bq:(List Az)⦄ ⦃Ba:(List Ag)⦄ ⦃Bf:(List Ai)⦄ ⦃r:Bool⦄:Qi n Bv C1 Bq Ba Bf=some r→CN n 18 [iA Bv,AV.func 24 [] [AV.ptr 0 0]] [Ob.var 26 [iA C1,AV.sl 3 (List.map Ak Bq),AV.sl 4 (List.map A8 Ba),AV.sl 3 (List.map Af Bf)]]=some (bA r,[Ob.var 26 [iA C1,AV.sl 3 (List.map Ak Bq),AV.sl 4 (List.map A8 Ba),AV.sl 3 (List.map Af Bf)]]):=by
 intro h;rcases n with _|n;cases h
 rw[Qi] at h
 refine An Tryz.func18 (by rfl) rfl rfl (As rfl) ?_
 intro call hc;conv=>lhs;whnf
 revert h
 intro h;refine Av h ?_;clear h;intro o9 ho9 h
 refine lq (σ:=Int) (τ:=Unit) (ν:=Bool) 0 (fun s1 a3=>B4 15 [(1,AV.func 24 [] [AV.ptr 0 0]),(6,iA Bv),(7,iA s1)]) (fun s1 a3=>[Ob.var 26 [iA C1,AV.sl 3 (List.map Ak Bq),AV.sl 4 (List.map A8 Ba),AV.sl 3 (List.map Af Bf)]]) (fun _ a14=>B4 15 []) (fun _ a14=>[Ob.var 26 [iA C1,AV.sl 3 (List.map Ak Bq),AV.sl 4 (List.map A8 Ba),AV.sl 3 (List.map Af Bf)]]) (fun v=>(bA v,[Ob.var 26 [iA C1,AV.sl 3 (List.map Ak Bq),AV.sl 4 (List.map A8 Ba),AV.sl 3 (List.map Af Bf)]])) (fun k s=>I6 n Bv C1 Bq Ba Bf k s) (fun s=>rfl) o9 n 0 (fun _=>0) ho9 ?_ ?_
 intro k2 s1 a3 K4 cont5 hK6 hcont7 h hr8
 replace h:I6 n Bv C1 Bq Ba Bf (k2+1) s1=some o9:=h
 rw[I6] at h
 conv=>lhs;whnf
 revert h
 refine br ?_ ?_
 refine ca hc (fun _ h=>A6l h) ?_;intro y11
 refine br ?_ ?_
 exact fun h=>cq (hcont7 (IntKind.i64.wrap (s1+1)) (fun _=>0) h)
 intro h;cases sj h
 refine(hK6 _ _).trans ?_
 refine Eq.trans ?_ (Eq.symm (show _=some _ from hr8))
 conv=>lhs;whnf
 exact rq
 intro h;cases sj h
 exact kq (hr8 (fun _=>0))
 refine lrc ?_ ?_
 intro v e;subst e;cases sj h;rfl
 intro t a14 e;subst e
 dsimp only at h
 conv=>lhs;whnf
 revert h
 exact rz
theorem Vv {n:Nat} ⦃A9:Ar⦄ ⦃r:Bool⦄:J8 n A9=some r→CN n 7 [AV.agg [iA A9.B2,AV.sl 3 (List.map Ak A9.Ao),AV.sl 4 (List.map A8 A9.A7),AV.sl 3 (List.map Af A9.Ac)]] []=some (bA r,[]):=by
 intro h;rcases n with _|n;cases h
 rw[J8] at h
 refine An Tryz.func7 (by rfl) rfl rfl (As rfl) ?_
 intro call hc;conv=>lhs;whnf
 revert h
 refine cr hc (fun _ h=>Aek h) ?_;intro y1
 refine ca hc (fun _ h=>Zt h) ?_;intro y3
 refine br ?_ ?_
 refine br ?_ ?_
 refine cr hc (fun _ h=>A9z h) ?_;intro y7
 refine br ?_ ?_
 refine cr hc (fun _ h=>Aa6 h) ?_;intro y10
 exact rz
 exact rz
 exact rz
 exact rz
def Pu (n:Nat):Prop:=∀ ⦃Bv:Int⦄ ⦃r:(List UInt8)⦄,In n Bv=some r→CN n 33 [iA Bv] []=some (sA r,[])
def Ty (n:Nat):Prop:=Pu n
theorem A7g (n:Nat) (ih:Ty n):Pu (n+1):=by
 intro Bv r h
 rw[In] at h
 refine An Tryz.func33 (by rfl) rfl rfl (As rfl) ?_
 intro call hc;conv=>lhs;whnf
 revert h
 refine br ?_ ?_
 exact rz
 refine ca hc (fun _ h=>ih h) ?_;intro y2
 intro h
 refine Ad h ?_;clear h;intro hc4 h
 refine Am hc4 ?_
 try simp only[ls]
 conv=>lhs;whnf
 revert h
 exact rz
theorem Xx:∀ n,Ty n
 | 0=>by unfold Ty Pu;intros;rename_i h;exact absurd h (by intro h;cases h)
 | n+1=>have ih:=Xx n
   A7g n ih
theorem Yl {n:Nat}:Pu n:=(Xx n)
theorem A27 {n:Nat} ⦃A9:Ar⦄ ⦃r:(List UInt8)⦄:Kb n A9=some r→CN n 11 [AV.agg [iA A9.B2,AV.sl 3 (List.map Ak A9.Ao),AV.sl 4 (List.map A8 A9.A7),AV.sl 3 (List.map Af A9.Ac)]] []=some (sA r,[]):=by
 intro h;rcases n with _|n;cases h
 rw[Kb] at h
 refine An Tryz.func11 (by rfl) rfl rfl (As rfl) ?_
 intro call hc;conv=>lhs;whnf
 revert h
 refine ca hc (fun _ h=>Vv h) ?_;intro y1
 refine br ?_ ?_
 refine ca hc (fun _ h=>Yl h) ?_;intro y4
 intro h
 refine Ad h ?_;clear h;intro hc6 h
 refine Am hc6 ?_
 try simp only[ls]
 conv=>lhs;whnf
 revert h
 intro h
 refine Ad h ?_;clear h;intro hc7 h
 refine Am hc7 ?_
 try simp only[ls]
 conv=>lhs;whnf
 revert h
 intro h;refine Av h ?_;clear h;intro o17 ho17 h
 refine lq (σ:=((List UInt8)×Int)) (τ:=(List UInt8)) (ν:=(List UInt8)) 0 (fun(s8,s9) a11=>B4 99 [(1,AV.ptr 0 0),(3,sA s8),(22,AV.sl 3 (List.map Ak A9.Ao)),(23,iA (((A9.Ao.length:Nat):Int))),(24,iA s9)]) (fun(s8,s9) a11=>[Ob.var 26 [iA A9.B2,AV.sl 3 (List.map Ak A9.Ao),AV.sl 4 (List.map A8 A9.A7),AV.sl 3 (List.map Af A9.Ac)]]) (fun x28 a27=>B4 99 [(1,AV.ptr 0 0),(3,sA x28)]) (fun x28 a27=>[Ob.var 26 [iA A9.B2,AV.sl 3 (List.map Ak A9.Ao),AV.sl 4 (List.map A8 A9.A7),AV.sl 3 (List.map Af A9.Ac)]]) (fun v=>(sA v,[])) (fun k s=>J5 n A9 k s.1 s.2) (fun s=>rfl) o17 n (((([109,111,100,32]:List UInt8)++y4)++([59,10]:List UInt8)),0) (fun _=>0) ho17 ?_ ?_
 intro k10 ss a11 K12 cont13 hK14 hcont15 h hr16
 obtain⟨s8,s9⟩:=ss
 replace h:J5 n A9 (k10+1) s8 s9=some o17:=h
 rw[J5] at h
 conv=>lhs;whnf
 revert h
 refine br ?_ ?_
 refine ix ?_;intro x19
 intro h
 refine Ad h ?_;clear h;intro hc20 h
 refine Am hc20 ?_
 try simp only[ls]
 conv=>lhs;whnf
 revert h
 intro h
 refine Ad h ?_;clear h;intro hc21 h
 refine Am hc21 ?_
 try simp only[ls]
 conv=>lhs;whnf
 revert h
 refine ca hc (fun _ h=>Yl h) ?_;intro y22
 intro h
 refine Ad h ?_;clear h;intro hc24 h
 refine Am hc24 ?_
 try simp only[ls]
 conv=>lhs;whnf
 revert h
 intro h
 refine Ad h ?_;clear h;intro hc25 h
 refine Am hc25 ?_
 try simp only[ls]
 conv=>lhs;whnf
 revert h
 intro h
 refine Ad h ?_;clear h;intro hc26 h
 refine Am hc26 ?_
 try simp only[ls]
 conv=>lhs;whnf
 revert h
 exact fun h=>cq (hcont15 ((s8++((((([108,111,99,32]:List UInt8)++x19.Ae)++([32,61,32]:List UInt8))++y22)++([59,10]:List UInt8))),IntKind.i64.wrap (s9+1)) (fun _=>0) h)
 intro h;cases sj h
 exact kq (hr16 (fun _=>0))
 refine lrc ?_ ?_
 intro v e;subst e;cases sj h;rfl
 intro x28 a27 e;subst e
 dsimp only at h
 conv=>lhs;whnf
 revert h
 intro h;refine Av h ?_;clear h;intro o38 ho38 h
 refine lq (σ:=((List UInt8)×Int)) (τ:=(List UInt8)) (ν:=(List UInt8)) 2 (fun(s29,s30) a32=>B4 99 [(1,AV.ptr 0 0),(3,sA s29),(41,AV.sl 4 (List.map A8 A9.A7)),(42,iA (((A9.A7.length:Nat):Int))),(43,iA s30)]) (fun(s29,s30) a32=>[Ob.var 26 [iA A9.B2,AV.sl 3 (List.map Ak A9.Ao),AV.sl 4 (List.map A8 A9.A7),AV.sl 3 (List.map Af A9.Ac)]]) (fun x73 a72=>B4 99 [(1,AV.ptr 0 0),(3,sA x73)]) (fun x73 a72=>[Ob.var 26 [iA A9.B2,AV.sl 3 (List.map Ak A9.Ao),AV.sl 4 (List.map A8 A9.A7),AV.sl 3 (List.map Af A9.Ac)]]) (fun v=>(sA v,[])) (fun k s=>Hx n A9 k s.1 s.2) (fun s=>rfl) o38 n (x28,0) (fun _=>0) ho38 ?_ ?_
 intro k31 ss a32 K33 cont34 hK35 hcont36 h hr37
 obtain⟨s29,s30⟩:=ss
 replace h:Hx n A9 (k31+1) s29 s30=some o38:=h
 rw[Hx] at h
 conv=>lhs;whnf
 revert h
 refine br ?_ ?_
 refine ix ?_;intro x40
 intro h
 refine Ad h ?_;clear h;intro hc41 h
 refine Am hc41 ?_
 try simp only[ls]
 conv=>lhs;whnf
 revert h
 intro h
 refine Ad h ?_;clear h;intro hc42 h
 refine Am hc42 ?_
 try simp only[ls]
 conv=>lhs;whnf
 revert h
 intro h
 refine Ad h ?_;clear h;intro hc43 h
 refine Am hc43 ?_
 try simp only[ls]
 conv=>lhs;whnf
 revert h
 intro h;refine Av h ?_;clear h;intro o54 ho54 h
 refine lq (σ:=((List UInt8)×(List UInt8)×Int)) (τ:=(List UInt8)) (ν:=(List UInt8)) 4 (fun(s44,s45,s46) a48=>B4 99 [(1,AV.ptr 0 0),(3,sA s44),(7,AV.ptr 1 0),(8,sA s45),(41,AV.sl 4 (List.map A8 A9.A7)),(42,iA (((A9.A7.length:Nat):Int))),(43,iA s30),(54,AV.sl 1 (List.map D6 x40.Ay)),(55,iA (((x40.Ay.length:Nat):Int))),(56,iA s46)]) (fun(s44,s45,s46) a48=>[Ob.var 26 [iA A9.B2,AV.sl 3 (List.map Ak A9.Ao),AV.sl 4 (List.map A8 A9.A7),AV.sl 3 (List.map Af A9.Ac)],Ob.var 35 [sA x40.Ae,AV.sl 1 (List.map D6 x40.Ay),AV.sl 9 (List.map Al x40.Aq),iA x40.B0]]) (fun x60 a59=>B4 99 [(1,AV.ptr 0 0),(3,sA x60),(7,AV.ptr 1 0),(41,AV.sl 4 (List.map A8 A9.A7)),(42,iA (((A9.A7.length:Nat):Int))),(43,iA s30)]) (fun x60 a59=>[Ob.var 26 [iA A9.B2,AV.sl 3 (List.map Ak A9.Ao),AV.sl 4 (List.map A8 A9.A7),AV.sl 3 (List.map Af A9.Ac)],Ob.var 35 [sA x40.Ae,AV.sl 1 (List.map D6 x40.Ay),AV.sl 9 (List.map Al x40.Aq),iA x40.B0]]) (fun v=>(sA v,[])) (fun k s=>Ft n x40 k s.1 s.2.1 s.2.2) (fun s=>rfl) o54 n ((s29++((([116,104,114,101,97,100,32]:List UInt8)++x40.Ae)++([32,123,10]:List UInt8))),([32,32,114,101,103,32]:List UInt8),0) (fun _=>0) ho54 ?_ ?_
 intro k47 ss a48 K49 cont50 hK51 hcont52 h hr53
 obtain⟨s44,s45,s46⟩:=ss
 replace h:Ft n x40 (k47+1) s44 s45 s46=some o54:=h
 rw[Ft] at h
 conv=>lhs;whnf
 revert h
 refine br ?_ ?_
 refine ix ?_;intro x56
 intro h
 refine Ad h ?_;clear h;intro hc57 h
 refine Am hc57 ?_
 try simp only[ls]
 conv=>lhs;whnf
 revert h
 intro h
 refine Ad h ?_;clear h;intro hc58 h
 refine Am hc58 ?_
 try simp only[ls]
 conv=>lhs;whnf
 revert h
 exact fun h=>cq (hcont52 ((s44++(s45++x56)),([44,32]:List UInt8),IntKind.i64.wrap (s46+1)) (fun _=>0) h)
 intro h;cases sj h
 exact kq (hr53 (fun _=>0))
 refine lrc ?_ ?_
 intro v e;subst e;cases sj h;exact hr37
 intro x60 a59 e;subst e
 dsimp only at h
 conv=>lhs;whnf
 revert h
 refine br ?_ ?_
 intro h
 refine Ad h ?_;clear h;intro hc62 h
 refine Am hc62 ?_
 try simp only[ls]
 conv=>lhs;whnf
 revert h
 refine ca hc (fun _ h=>A2z h) ?_;intro y63
 intro h
 refine Ad h ?_;clear h;intro hc65 h
 refine Am hc65 ?_
 try simp only[ls]
 conv=>lhs;whnf
 revert h
 intro h
 refine Ad h ?_;clear h;intro hc66 h
 refine Am hc66 ?_
 try simp only[ls]
 conv=>lhs;whnf
 revert h
 exact fun h=>cq (hcont36 (((x60++([59,10]:List UInt8))++(y63++([125,10]:List UInt8))),IntKind.i64.wrap (s30+1)) (fun _=>0) h)
 refine ca hc (fun _ h=>A2z h) ?_;intro y67
 intro h
 refine Ad h ?_;clear h;intro hc69 h
 refine Am hc69 ?_
 try simp only[ls]
 conv=>lhs;whnf
 revert h
 intro h
 refine Ad h ?_;clear h;intro hc70 h
 refine Am hc70 ?_
 try simp only[ls]
 conv=>lhs;whnf
 revert h
 exact fun h=>cq (hcont36 ((x60++(y67++([125,10]:List UInt8))),IntKind.i64.wrap (s30+1)) (fun _=>0) h)
 intro h;cases sj h
 exact kq (hr37 (fun _=>0))
 refine lrc ?_ ?_
 intro v e;subst e;cases sj h;rfl
 intro x73 a72 e;subst e
 dsimp only at h
 conv=>lhs;whnf
 revert h
 intro h;refine Av h ?_;clear h;intro o83 ho83 h
 refine lq (σ:=((List UInt8)×Int)) (τ:=(List UInt8)) (ν:=(List UInt8)) 6 (fun(s74,s75) a77=>B4 99 [(3,sA s74),(80,AV.sl 3 (List.map Af A9.Ac)),(81,iA (((A9.Ac.length:Nat):Int))),(82,iA s75)]) (fun(s74,s75) a77=>[Ob.var 26 [iA A9.B2,AV.sl 3 (List.map Ak A9.Ao),AV.sl 4 (List.map A8 A9.A7),AV.sl 3 (List.map Af A9.Ac)]]) (fun x95 a94=>B4 99 [(3,sA x95)]) (fun x95 a94=>[Ob.var 26 [iA A9.B2,AV.sl 3 (List.map Ak A9.Ao),AV.sl 4 (List.map A8 A9.A7),AV.sl 3 (List.map Af A9.Ac)]]) (fun v=>(sA v,[])) (fun k s=>Ja n A9 k s.1 s.2) (fun s=>rfl) o83 n (x73,0) (fun _=>0) ho83 ?_ ?_
 intro k76 ss a77 K78 cont79 hK80 hcont81 h hr82
 obtain⟨s74,s75⟩:=ss
 replace h:Ja n A9 (k76+1) s74 s75=some o83:=h
 rw[Ja] at h
 conv=>lhs;whnf
 revert h
 refine br ?_ ?_
 refine ix ?_;intro x85
 refine ca hc (fun _ h=>Xd h) ?_;intro y86
 intro h
 refine Ad h ?_;clear h;intro hc88 h
 refine Am hc88 ?_
 try simp only[ls]
 conv=>lhs;whnf
 revert h
 refine ca hc (fun _ h=>X3 h) ?_;intro y89
 intro h
 refine Ad h ?_;clear h;intro hc91 h
 refine Am hc91 ?_
 try simp only[ls]
 conv=>lhs;whnf
 revert h
 intro h
 refine Ad h ?_;clear h;intro hc92 h
 refine Am hc92 ?_
 try simp only[ls]
 conv=>lhs;whnf
 revert h
 intro h
 refine Ad h ?_;clear h;intro hc93 h
 refine Am hc93 ?_
 try simp only[ls]
 conv=>lhs;whnf
 revert h
 exact fun h=>cq (hcont81 ((s74++(((y86++([32]:List UInt8))++y89)++([59,10]:List UInt8))),IntKind.i64.wrap (s75+1)) (fun _=>0) h)
 intro h;cases sj h
 exact kq (hr82 (fun _=>0))
 refine lrc ?_ ?_
 intro v e;subst e;cases sj h;rfl
 intro x95 a94 e;subst e
 dsimp only at h
 conv=>lhs;whnf
 revert h
 exact rz
 exact rz
def Pv (n:Nat):Prop:=∀ ⦃Bv:Int⦄ ⦃r:(List UInt8)⦄,Gy n Bv=some r→CN n 37 [iA Bv] []=some (sA r,[])
def Ua (n:Nat):Prop:=Pv n
theorem A6s (n:Nat) (ih:Ua n):Pv (n+1):=by
 intro Bv r h
 rw[Gy] at h
 refine An Tryz.func37 (by rfl) rfl rfl (As rfl) ?_
 intro call hc;conv=>lhs;whnf
 revert h
 refine br ?_ ?_
 exact rz
 refine ca hc (fun _ h=>ih h) ?_;intro y2
 intro h
 refine Ad h ?_;clear h;intro hc4 h
 refine Am hc4 ?_
 try simp only[ls]
 conv=>lhs;whnf
 revert h
 exact rz
theorem Xs:∀ n,Ua n
 | 0=>by unfold Ua Pv;intros;rename_i h;exact absurd h (by intro h;cases h)
 | n+1=>have ih:=Xs n
   A6s n ih
theorem U9 {n:Nat}:Pv n:=(Xs n)
theorem A7y {n:Nat} ⦃r:(List (List UInt8))⦄:Sf n=some r→CN n 85 [] []=some (AV.sl 1 (List.map D6 r),[]):=by
 intro h;rcases n with _|n;cases h
 rw[Sf] at h
 refine An Tryz.func85 (by rfl) rfl rfl (As rfl) ?_
 intro call hc;conv=>lhs;whnf
 revert h
 exact rz
theorem A4r {n:Nat} ⦃Bi:(List UInt8)⦄ ⦃r:Bool⦄:N4 n Bi=some r→CN n 59 [sA Bi] []=some (bA r,[]):=by
 intro h;rcases n with _|n;cases h
 rw[N4] at h
 refine An Tryz.func59 (by rfl) rfl rfl (As rfl) ?_
 intro call hc;conv=>lhs;whnf
 revert h
 refine ca hc (fun _ h=>A7y h) ?_;intro y1
 intro h;refine Av h ?_;clear h;intro o11 ho11 h
 refine lq (σ:=Int) (τ:=Unit) (ν:=Bool) 0 (fun s3 a5=>B4 18 [(0,sA Bi),(3,AV.sl 1 (List.map D6 y1)),(4,iA s3)]) (fun s3 a5=>[]) (fun _ a15=>B4 18 []) (fun _ a15=>[]) (fun v=>(bA v,[])) (fun k s=>Dz n Bi y1 k s) (fun s=>rfl) o11 n 0 (fun _=>0) ho11 ?_ ?_
 intro k4 s3 a5 K6 cont7 hK8 hcont9 h hr10
 replace h:Dz n Bi y1 (k4+1) s3=some o11:=h
 rw[Dz] at h
 conv=>lhs;whnf
 revert h
 refine br ?_ ?_
 refine ix ?_;intro x13
 refine br ?_ ?_
 intro h;cases sj h
 refine(hK8 _ _).trans ?_
 refine Eq.trans ?_ (Eq.symm (show _=some _ from hr10))
 conv=>lhs;whnf
 exact rq
 exact fun h=>cq (hcont9 (IntKind.i64.wrap (s3+1)) (fun _=>0) h)
 intro h;cases sj h
 exact kq (hr10 (fun _=>0))
 refine lrc ?_ ?_
 intro v e;subst e;cases sj h;rfl
 intro t a15 e;subst e
 dsimp only at h
 conv=>lhs;whnf
 revert h
 exact rz
theorem A8p {n:Nat} ⦃Cy:Int⦄ ⦃r:Bool⦄:P1 n Cy=some r→CN n 60 [AV.int .u8 Cy] []=some (bA r,[]):=by
 intro h;rcases n with _|n;cases h
 rw[P1] at h
 refine An Tryz.func60 (by rfl) rfl rfl (As rfl) ?_
 intro call hc;conv=>lhs;whnf
 revert h
 refine br ?_ ?_
 exact rz
 exact rz
theorem Yh {n:Nat} ⦃Cy:Int⦄ ⦃r:Bool⦄:Le n Cy=some r→CN n 58 [AV.int .u8 Cy] []=some (bA r,[]):=by
 intro h;rcases n with _|n;cases h
 rw[Le] at h
 refine An Tryz.func58 (by rfl) rfl rfl (As rfl) ?_
 intro call hc;conv=>lhs;whnf
 revert h
 refine br ?_ ?_
 refine br ?_ ?_
 exact rz
 refine br ?_ ?_
 refine br ?_ ?_
 exact rz
 exact rz
 exact rz
 refine br ?_ ?_
 refine br ?_ ?_
 exact rz
 exact rz
 exact rz
theorem Gc {n:Nat} ⦃Bi:(List UInt8)⦄ ⦃r:Bool⦄:Du n Bi=some r→CN n 27 [sA Bi] []=some (bA r,[]):=by
 intro h;rcases n with _|n;cases h
 rw[Du] at h
 refine An Tryz.func27 (by rfl) rfl rfl (As rfl) ?_
 intro call hc;conv=>lhs;whnf
 revert h
 refine br ?_ ?_
 exact rz
 refine br ?_ ?_
 exact rz
 refine ixs ?_;intro x3
 refine ca hc (fun _ h=>Yh h) ?_;intro y4
 refine br ?_ ?_
 refine ca hc (fun _ h=>A4r h) ?_;intro y7
 refine br ?_ ?_
 exact rz
 intro h;refine Av h ?_;clear h;intro o18 ho18 h
 refine lq (σ:=Int) (τ:=Unit) (ν:=Bool) 0 (fun s10 a12=>B4 40 [(0,sA Bi),(3,iA s10)]) (fun s10 a12=>[]) (fun _ a28=>B4 40 []) (fun _ a28=>[]) (fun v=>(bA v,[])) (fun k s=>G8 n Bi k s) (fun s=>rfl) o18 n 0 (fun _=>0) ho18 ?_ ?_
 intro k11 s10 a12 K13 cont14 hK15 hcont16 h hr17
 replace h:G8 n Bi (k11+1) s10=some o18:=h
 rw[G8] at h
 conv=>lhs;whnf
 revert h
 refine br ?_ ?_
 refine ixs ?_;intro x20
 refine ca hc (fun _ h=>Yh h) ?_;intro y21
 refine br ?_ ?_
 exact fun h=>cq (hcont16 (IntKind.i64.wrap (s10+1)) (fun _=>0) h)
 refine ixs ?_;intro x24
 refine ca hc (fun _ h=>A8p h) ?_;intro y25
 refine br ?_ ?_
 exact fun h=>cq (hcont16 (IntKind.i64.wrap (s10+1)) (fun _=>0) h)
 intro h;cases sj h
 refine(hK15 _ _).trans ?_
 refine Eq.trans ?_ (Eq.symm (show _=some _ from hr17))
 conv=>lhs;whnf
 exact rq
 intro h;cases sj h
 exact kq (hr17 (fun _=>0))
 refine lrc ?_ ?_
 intro v e;subst e;cases sj h;rfl
 intro t a28 e;subst e
 dsimp only at h
 conv=>lhs;whnf
 revert h
 exact rz
 exact rz
end Go.Proofs.YteindmlljlboeaaGreat
end
