/- Parts of the proofs: what they lean on. Conditions: none. -/
import Derived.Test.YtnijlelbihnamaaProgBlanksP2
section
namespace Go.Proofs.Ytnijlelbihnamaa
set_option linter.unusedVariables false
set_option linter.unusedSimpArgs false
set_option maxRecDepth 100000
set_option maxHeartbeats 4000000
theorem Zo {n:Nat} ⦃Ev:Int⦄ ⦃r:Int⦄:Kv n Ev=some r→CN n 76 [iA Ev] []=some (iA r,[]):=by
 intro h;rcases n with _|n;cases h
 rw[Kv] at h
 refine Ai Try.func76 (by rfl) rfl rfl (Am rfl) ?_
 intro call hc;conv=>lhs;whnf
 revert h
 refine br ?_ ?_
 refine br ?_ ?_
 exact rz
 refine br ?_ ?_
 exact rz
 refine br ?_ ?_
 refine br ?_ ?_
 exact rz
 exact rz
 exact rz
 refine br ?_ ?_
 exact rz
 refine br ?_ ?_
 refine br ?_ ?_
 exact rz
 exact rz
 exact rz
theorem Ab7 {n:Nat} ⦃Ap:(List A1)⦄ ⦃E1:Int⦄ ⦃r:Int⦄:Qo n Ap E1=some r→CN n 68 [AV.sl 5 (List.map A0 Ap),iA E1] []=some (iA r,[]):=by
 intro h;rcases n with _|n;cases h
 rw[Qo] at h
 refine Ai Try.func68 (by rfl) rfl rfl (Am rfl) ?_
 intro call hc;conv=>lhs;whnf
 revert h
 refine br ?_ ?_
 exact rz
 intro h;refine Av h ?_;clear h;intro o11 ho11 h
 refine lq (σ:=(Int×Int)) (τ:=Unit) (ν:=Int) 0 (fun(s2,s3) a5=>Bg 31 [(0,AV.sl 5 (List.map A0 Ap)),(1,iA s2),(5,iA s3)]) (fun(s2,s3) a5=>[]) (fun _ a18=>Bg 31 []) (fun _ a18=>[]) (fun v=>(iA v,[])) (fun k s=>Ha n Ap k s.1 s.2) (fun s=>rfl) o11 n (E1,1) (fun _=>0) ho11 ?_ ?_
 intro k4 ss a5 K6 cont7 hK8 hcont9 h hr10
 obtain⟨s2,s3⟩:=ss
 replace h:Ha n Ap (k4+1) s2 s3=some o11:=h
 rw[Ha] at h
 conv=>lhs;whnf
 revert h
 refine br ?_ ?_
 refine ix ?_;intro x13
 refine ca hc (fun _ h=>Zo h) ?_;intro y14
 refine br ?_ ?_
 intro h;cases sj h
 refine(hK8 _ _).trans ?_
 refine Eq.trans ?_ (Eq.symm (show _=some _ from hr10))
 conv=>lhs;whnf
 exact rq
 refine br ?_ ?_
 intro h;cases sj h
 refine(hK8 _ _).trans ?_
 refine Eq.trans ?_ (Eq.symm (show _=some _ from hr10))
 conv=>lhs;whnf
 exact rq
 exact fun h=>cq (hcont9 (IntKind.i64.wrap (s2+1),IntKind.i64.wrap (s3+(IntKind.i64.wrap (y14 - 1)))) (fun _=>0) h)
 intro h;cases sj h
 exact kq (hr10 (fun _=>0))
 refine lrc ?_ ?_
 intro v e;subst e;cases sj h;rfl
 intro t a18 e;subst e
 dsimp only at h
 conv=>lhs;whnf
 revert h
 exact rz
theorem Yv {n:Nat} ⦃Ap:(List A1)⦄ ⦃r:(List A1)⦄:Lm n Ap=some r→CN n 55 [AV.sl 5 (List.map A0 Ap)] []=some (AV.sl 5 (List.map A0 r),[]):=by
 intro h;rcases n with _|n;cases h
 rw[Lm] at h
 refine Ai Try.func55 (by rfl) rfl rfl (Am rfl) ?_
 intro call hc;conv=>lhs;whnf
 revert h
 intro h;refine Av h ?_;clear h;intro o10 ho10 h
 refine lq (σ:=(Int×(List A1))) (τ:=(List A1)) (ν:=(List A1)) 0 (fun(s1,s2) a4=>Bg 24 [(3,AV.row 0 (List.length s2)),(6,AV.sl 5 (List.map A0 Ap)),(7,iA (((Ap.length:Nat):Int))),(8,iA s1)]) (fun(s1,s2) a4=>[Ob.row 47 5 (List.map A0 s2)]) (fun x23 a22=>Bg 24 [(3,AV.row 0 (List.length x23))]) (fun x23 a22=>[Ob.row 47 5 (List.map A0 x23)]) (fun v=>(AV.sl 5 (List.map A0 v),[])) (fun k s=>Eb n Ap k s.1 s.2) (fun s=>rfl) o10 n (0,([]:List A1)) (fun _=>0) ho10 ?_ ?_
 intro k3 ss a4 K5 cont6 hK7 hcont8 h hr9
 obtain⟨s1,s2⟩:=ss
 replace h:Eb n Ap (k3+1) s1 s2=some o10:=h
 rw[Eb] at h
 conv=>lhs;whnf
 revert h
 refine br ?_ ?_
 refine ix ?_;intro x12
 refine br ?_ ?_
 refine ar (ap A0 (List.map A0 s2) s2 ([[iA x12.Bm,iA x12.C2,sA x12.An,sA x12.Dd,iA x12.Al]]) ([x12]:List A1)) ?_
 exact fun h=>cq (hcont8 (IntKind.i64.wrap (s1+1),(s2++([x12]:List A1))) (fun _=>0) h)
 refine br ?_ ?_
 refine ar (ap A0 (List.map A0 s2) s2 ([[iA x12.Bm,iA x12.C2,sA x12.An,sA x12.Dd,iA x12.Al]]) ([x12]:List A1)) ?_
 exact fun h=>cq (hcont8 (IntKind.i64.wrap (s1+1),(s2++([x12]:List A1))) (fun _=>0) h)
 refine br ?_ ?_
 refine ar (ap A0 (List.map A0 s2) s2 ([[iA x12.Bm,iA x12.C2,sA x12.An,sA x12.Dd,iA x12.Al]]) ([x12]:List A1)) ?_
 exact fun h=>cq (hcont8 (IntKind.i64.wrap (s1+1),(s2++([x12]:List A1))) (fun _=>0) h)
 exact fun h=>cq (hcont8 (IntKind.i64.wrap (s1+1),s2) (fun _=>0) h)
 intro h;cases sj h
 exact kq (hr9 (fun _=>0))
 refine lrc ?_ ?_
 intro v e;subst e;cases sj h;rfl
 intro x23 a22 e;subst e
 dsimp only at h
 conv=>lhs;whnf
 revert h
 intro h;obtain rfl:=sj h
 try simp only[ls]
 exact fq (y:=some (AV.sl 5 (List.take (List.length x23) (List.map A0 x23)),[]))
theorem Yo {n:Nat} ⦃Ap:(List A1)⦄ ⦃r:Int⦄:Le n Ap=some r→CN n 60 [AV.sl 5 (List.map A0 Ap)] []=some (iA r,[]):=by
 intro h;rcases n with _|n;cases h
 rw[Le] at h
 refine Ai Try.func60 (by rfl) rfl rfl (Am rfl) ?_
 intro call hc;conv=>lhs;whnf
 revert h
 intro h;refine Av h ?_;clear h;intro o11 ho11 h
 refine lq (σ:=(Int×Int×(List Int))) (τ:=(Int×(List Int))) (ν:=Int) 0 (fun(s1,s2,s3) a5=>Bg 50 [(3,AV.stk 0 (a5 0) (List.length s3)),(4,iA s1),(9,AV.sl 5 (List.map A0 Ap)),(10,iA (((Ap.length:Nat):Int))),(11,iA s2)]) (fun(s1,s2,s3) a5=>[Ob.stk (a5 0) 3 1 (List.map Dx s3)]) (fun(x41,x42) a40=>Bg 50 [(4,iA x41)]) (fun(x41,x42) a40=>[Ob.stk (a40 0) 3 1 (List.map Dx x42)]) (fun v=>(iA v,[])) (fun k s=>Fy n Ap k s.1 s.2.1 s.2.2) (fun s=>rfl) o11 n (0,0,([]:List Int)) (fun j=>(bif Nat.beq j 0 then 0 else 0)) ho11 ?_ ?_
 intro k4 ss a5 K6 cont7 hK8 hcont9 h hr10
 obtain⟨s1,s2,s3⟩:=ss
 replace h:Fy n Ap (k4+1) s1 s2 s3=some o11:=h
 rw[Fy] at h
 conv=>lhs;whnf
 revert h
 refine br ?_ ?_
 refine ix ?_;intro x13
 refine ca hc (fun _ h=>Zo h) ?_;intro y14
 refine br ?_ ?_
 intro h
 refine B0 h ?_;clear h;intro hc19 h
 try simp only[Eo]
 conv=>lhs;whnf
 first|refine B1 (Wz hc19 (by first|rfl|simp only [Bd]) (by first|rfl|simp only [Bd]) (by first|rfl|simp only [Bd,D2]) (by kernel_rfl)) ?_|refine B1 (U1 hc19 (by first|rfl|simp only [Bd]) (by first|rfl|simp only [Bd,D2]) (by kernel_rfl)) ?_
 try simp only[lt]
 have hp17:(List.map Dx s3:List (List AV))++[[iA y14]]=List.map Dx (s3++([y14]:List Int)):=by first|rfl|(rw[List.map_append];rfl)|(rw[List.map_append];done)|(simp only[List.map_append,List.map_cons,List.map_nil,List.nil_append,Dx]<;>rfl)
 have hl18:List.length (List.map Dx s3:List (List AV))+List.length ([[iA y14]]:List (List AV))=List.length (s3++([y14]:List Int)):=by simp only[Bd,List.length_append]<;>rfl
 have hl18_b:List.length s3+List.length ([[iA y14]]:List (List AV))=List.length (s3++([y14]:List Int)):=by simp only[Bd,List.length_append]<;>rfl
 have hl18_c:List.length s3+List.length ([y14]:List Int)=List.length (s3++([y14]:List Int)):=by simp only[Bd,List.length_append]<;>rfl
 first|simp only [hp17,hl18]|(simp only[Bd,D2];simp only[hp17,hl18_b,hl18_c])
 try simp only[ls]
 conv=>lhs;whnf
 revert h
 exact fun h=>cq (hcont9 ((if s1<((s3.length:Nat):Int) then((s3.length:Nat):Int) else s1),IntKind.i64.wrap (s2+1),(s3++([y14]:List Int))) (fun j=>(bif Nat.beq j 0 then((a5 0)+1) else 0)) h)
 intro h;refine Av h ?_;clear h;intro o28 ho28 h
 refine lq (σ:=(List Int)) (τ:=(List Int)) (ν:=Int) 2 (fun s20 a22=>Bg 50 [(3,AV.stk 0 (a22 0) (List.length s20)),(4,iA ((if s1<((s3.length:Nat):Int) then((s3.length:Nat):Int) else s1))),(9,AV.sl 5 (List.map A0 Ap)),(10,iA (((Ap.length:Nat):Int))),(11,iA s2)]) (fun s20 a22=>[Ob.stk (a22 0) 3 1 (List.map Dx s20),Ob.var 47 [iA x13.Bm,iA x13.C2,sA x13.An,sA x13.Dd,iA x13.Al]]) (fun x38 a37=>Bg 50 [(3,AV.stk 0 (a37 0) (List.length x38)),(4,iA ((if s1<((s3.length:Nat):Int) then((s3.length:Nat):Int) else s1))),(9,AV.sl 5 (List.map A0 Ap)),(10,iA (((Ap.length:Nat):Int))),(11,iA s2)]) (fun x38 a37=>[Ob.stk (a37 0) 3 1 (List.map Dx x38),Ob.var 47 [iA x13.Bm,iA x13.C2,sA x13.An,sA x13.Dd,iA x13.Al]]) (fun v=>(iA v,[])) (fun k s=>Hs n k s) (fun s=>rfl) o28 n s3 (fun j=>(bif Nat.beq j 0 then(a5 0) else 0)) ho28 ?_ ?_
 intro k21 s20 a22 K23 cont24 hK25 hcont26 h hr27
 replace h:Hs n (k21+1) s20=some o28:=h
 rw[Hs] at h
 conv=>lhs;whnf
 revert h
 refine br ?_ ?_
 intro h
 refine Av h ?_;clear h;intro x30 hx30 h
 try simp only[Eo]
 conv=>lhs;whnf
 try simp only[ls]
 refine B1 (by first|exact H1 hx30|exact Q7 hx30|exact Ur hx30|exact Id hx30|(have q:=H1 hx30;simp only[List.length_set] at q;exact q)|(have q:=Id hx30;simp only[List.length_set,Nat.zero_add] at q ⊢;exact q)) ?_
 conv=>lhs;whnf
 try simp only[K0 (f:=Dx) hx30,Eo,ls]
 conv=>lhs;whnf
 revert h
 intro h
 refine Av h ?_;clear h;intro x31 hx31 h
 try simp only[Eo]
 conv=>lhs;whnf
 try simp only[ls]
 refine B1 (by first|exact H1 hx31|exact Q7 hx31|exact Ur hx31|exact Id hx31|(have q:=H1 hx31;simp only[List.length_set] at q;exact q)|(have q:=Id hx31;simp only[List.length_set,Nat.zero_add] at q ⊢;exact q)) ?_
 conv=>lhs;whnf
 try simp only[K0 (f:=Dx) hx31,Eo,ls]
 conv=>lhs;whnf
 revert h
 intro h
 have hs32:Cb (List.map Dx s20) (IntKind.i64.wrap (((s20.length:Nat):Int) - 1)).toNat [iA (IntKind.i64.wrap (x30 - 1))]=List.map Dx (List.set s20 (IntKind.i64.wrap (((s20.length:Nat):Int) - 1)).toNat (IntKind.i64.wrap (x30 - 1))):=by rw[Bw,List.map_set];rfl
 have hs32_u:Cb (List.map Dx s20) (IntKind.i64.wrap (((s20.length:Nat):Int) - 1)).toNat (Ks (Dx x31) 0 [iA (IntKind.i64.wrap (x30 - 1))])=List.map Dx (List.set s20 (IntKind.i64.wrap (((s20.length:Nat):Int) - 1)).toNat (IntKind.i64.wrap (x30 - 1))):=by rw[Bw,List.map_set];rfl
 try simp only[K0 (f:=Dx) hx31,Eo]
 conv=>lhs;whnf
 try simp only[hs32,hs32_u,Eo]
 conv=>lhs;whnf
 revert h
 intro h
 refine Av h ?_;clear h;intro x33 hx33 h
 try simp only[Eo]
 conv=>lhs;whnf
 try simp only[ls]
 refine B1 (by first|exact H1 hx33|exact Q7 hx33|exact Ur hx33|exact Id hx33|(have q:=H1 hx33;simp only[List.length_set] at q;exact q)|(have q:=Id hx33;simp only[List.length_set,Nat.zero_add] at q ⊢;exact q)) ?_
 conv=>lhs;whnf
 try simp only[K0 (f:=Dx) hx33,Eo,ls]
 conv=>lhs;whnf
 revert h
 refine br ?_ ?_
 intro h;cases sj h
 exact kq (hr27 (fun j=>(bif Nat.beq j 0 then(a22 0) else 0)))
 intro h
 refine B0 h ?_;clear h;intro hc36 h
 try simp only[Eo]
 conv=>lhs;whnf
 try simp only[ls]
 first|refine B1 hc36 ?_|(refine B1 (by have q:=hc36;simp only[List.length_set] at q;exact q) ?_)
 have hs35:List.take ((IntKind.i64.wrap (((s20.length:Nat):Int) - 1)).toNat) (List.map Dx (List.set s20 (IntKind.i64.wrap (((s20.length:Nat):Int) - 1)).toNat (IntKind.i64.wrap (x30 - 1))))=List.map Dx (List.take ((IntKind.i64.wrap (((s20.length:Nat):Int) - 1)).toNat) (List.set s20 (IntKind.i64.wrap (((s20.length:Nat):Int) - 1)).toNat (IntKind.i64.wrap (x30 - 1)))):=by rw[List.map_take]
 have hs35_l:List.length (List.take ((IntKind.i64.wrap (((s20.length:Nat):Int) - 1)).toNat) (List.set s20 (IntKind.i64.wrap (((s20.length:Nat):Int) - 1)).toNat (IntKind.i64.wrap (x30 - 1))))=(IntKind.i64.wrap (((s20.length:Nat):Int) - 1)).toNat:=by simp only[List.length_take];exact Nat.min_eq_left (An2 hc36)
 conv=>lhs;whnf
 try simp only[Eo,hs35]
 conv=>lhs;whnf
 try simp only[hs35]
 have hs35_s:∀ q,AV.stk 0 q ((IntKind.i64.wrap (((s20.length:Nat):Int) - 1)).toNat)=AV.stk 0 q (List.length (List.take ((IntKind.i64.wrap (((s20.length:Nat):Int) - 1)).toNat) (List.set s20 (IntKind.i64.wrap (((s20.length:Nat):Int) - 1)).toNat (IntKind.i64.wrap (x30 - 1))))):=fun q=>by rw[hs35_l]
 try simp only[hs35_s]
 conv=>lhs;whnf
 revert h
 exact fun h=>cq (hcont26 (List.take ((IntKind.i64.wrap (((s20.length:Nat):Int) - 1)).toNat) (List.set s20 (IntKind.i64.wrap (((s20.length:Nat):Int) - 1)).toNat (IntKind.i64.wrap (x30 - 1)))) (fun j=>(bif Nat.beq j 0 then((a22 0)+1) else 0)) h)
 intro h;cases sj h
 exact kq (hr27 (fun j=>(bif Nat.beq j 0 then(a22 0) else 0)))
 refine lrc ?_ ?_
 intro v e;subst e;cases sj h;exact hr10
 intro x38 a37 e;subst e
 dsimp only at h
 conv=>lhs;whnf
 revert h
 exact fun h=>cq (hcont9 ((if s1<((s3.length:Nat):Int) then((s3.length:Nat):Int) else s1),IntKind.i64.wrap (s2+1),x38) (fun j=>(bif Nat.beq j 0 then(a37 0) else 0)) h)
 intro h;cases sj h
 exact kq (hr10 (fun j=>(bif Nat.beq j 0 then(a5 0) else 0)))
 refine lrc ?_ ?_
 intro v e;subst e;cases sj h;rfl
 intro t a40 e;subst e
 obtain⟨x41,x42⟩:=t
 dsimp only at h
 conv=>lhs;whnf
 revert h
 exact rz
theorem Fq {n:Nat} ⦃Ax:A1⦄ ⦃K3:(List (List A1))⦄ ⦃r:(List A1)⦄:Co n Ax K3=some r→CN n 88 [AV.agg [iA Ax.Bm,iA Ax.C2,sA Ax.An,sA Ax.Dd,iA Ax.Al],AV.sl 1 (List.map Vm K3)] []=some (AV.sl 5 (List.map A0 r),[]):=by
 intro h;rcases n with _|n;cases h
 rw[Co] at h
 refine Ai Try.func88 (by rfl) rfl rfl (Am rfl) ?_
 intro call hc;conv=>lhs;whnf
 revert h
 intro h;refine Av h ?_;clear h;intro o10 ho10 h
 refine lq (σ:=(Int×(List A1))) (τ:=(List A1)) (ν:=(List A1)) 0 (fun(s1,s2) a4=>Bg 21 [(5,AV.row 1 (List.length s2)),(10,AV.sl 1 (List.map Vm K3)),(11,iA (((K3.length:Nat):Int))),(12,iA s1)]) (fun(s1,s2) a4=>[Ob.var 47 [iA Ax.Bm,iA Ax.C2,sA Ax.An,sA Ax.Dd,iA Ax.Al],Ob.row 47 5 (List.map A0 s2)]) (fun x16 a15=>Bg 21 [(5,AV.row 1 (List.length x16))]) (fun x16 a15=>[Ob.var 47 [iA Ax.Bm,iA Ax.C2,sA Ax.An,sA Ax.Dd,iA Ax.Al],Ob.row 47 5 (List.map A0 x16)]) (fun v=>(AV.sl 5 (List.map A0 v),[])) (fun k s=>Fp n K3 k s.1 s.2) (fun s=>rfl) o10 n (0,([Ax]:List A1)) (fun _=>0) ho10 ?_ ?_
 intro k3 ss a4 K5 cont6 hK7 hcont8 h hr9
 obtain⟨s1,s2⟩:=ss
 replace h:Fp n K3 (k3+1) s1 s2=some o10:=h
 rw[Fp] at h
 conv=>lhs;whnf
 revert h
 refine br ?_ ?_
 refine ix ?_;intro x12
 refine ar (ap A0 (List.map A0 s2) s2 (List.map A0 x12) x12) ?_
 exact fun h=>cq (hcont8 (IntKind.i64.wrap (s1+1),(s2++x12)) (fun _=>0) h)
 intro h;cases sj h
 exact kq (hr9 (fun _=>0))
 refine lrc ?_ ?_
 intro v e;subst e;cases sj h;rfl
 intro x16 a15 e;subst e
 dsimp only at h
 conv=>lhs;whnf
 revert h
 intro h;obtain rfl:=sj h
 try simp only[ls]
 exact fq (y:=some (AV.sl 5 (List.take (List.length x16) (List.map A0 x16)),[]))
theorem Do {n:Nat} ⦃Jt:(List UInt8)⦄ ⦃p_l:(List A5)⦄ ⦃p_i:Int⦄ ⦃p_in:Int⦄ ⦃p_e:Int⦄ ⦃p_at:Int⦄ ⦃r:Bool⦄:Ci n Jt p_l p_i p_in p_e p_at=some r→CN n 87 [AV.ptr 0 0,sA Jt] [Ob.var 103 [AV.sl 4 (List.map A2 p_l),iA p_i,iA p_in,iA p_e,iA p_at]]=some (bA r,[Ob.var 103 [AV.sl 4 (List.map A2 p_l),iA p_i,iA p_in,iA p_e,iA p_at]]):=by
 intro h;rcases n with _|n;cases h
 rw[Ci] at h
 refine Ai Try.func87 (by rfl) rfl rfl (Am rfl) ?_
 intro call hc;conv=>lhs;whnf
 revert h
 refine br ?_ ?_
 refine ix ?_;intro x2
 refine br ?_ ?_
 refine ix ?_;intro x4
 exact rz
 exact rz
 exact rz
theorem F5 {n:Nat} ⦃Su:Int⦄ ⦃p_l:(List A5)⦄ ⦃p_i:Int⦄ ⦃p_in:Int⦄ ⦃p_e:Int⦄ ⦃p_at:Int⦄ ⦃r:((List A1)×Int×Int)⦄:C8 n Su p_l p_i p_in p_e p_at=some r→CN n 102 [AV.ptr 0 0,iA Su] [Ob.var 103 [AV.sl 4 (List.map A2 p_l),iA p_i,iA p_in,iA p_e,iA p_at]]=some (AV.sl 5 (List.map A0 r.1),[Ob.var 103 [AV.sl 4 (List.map A2 p_l),iA p_i,iA p_in,iA r.2.1,iA r.2.2]]):=by
 intro h;rcases n with _|n;cases h
 rw[C8] at h
 refine Ai Try.func102 (by rfl) rfl rfl (Am rfl) ?_
 intro call hc;conv=>lhs;whnf
 revert h
 refine br ?_ ?_
 exact rz
 refine br ?_ ?_
 refine ix ?_;intro x3
 exact rz
 refine br ?_ ?_
 refine br ?_ ?_
 refine ix ?_;intro x6
 refine ix ?_;intro x7
 exact rz
 exact rz
 refine br ?_ ?_
 refine ix ?_;intro x9
 refine ix ?_;intro x10
 exact rz
 exact rz
theorem Jm {n:Nat} ⦃p_l:(List A5)⦄ ⦃p_i:Int⦄ ⦃p_in:Int⦄ ⦃p_e:Int⦄ ⦃p_at:Int⦄ ⦃r:((List UInt8)×Int×Bool×Int)⦄:D0 n p_l p_i p_in p_e p_at=some r→CN n 103 [AV.ptr 0 0] [Ob.var 103 [AV.sl 4 (List.map A2 p_l),iA p_i,iA p_in,iA p_e,iA p_at]]=some (AV.tup [sA r.1,iA r.2.1,bA r.2.2.1],[Ob.var 103 [AV.sl 4 (List.map A2 p_l),iA r.2.2.2,iA p_in,iA p_e,iA p_at]]):=by
 intro h;rcases n with _|n;cases h
 rw[D0] at h
 refine Ai Try.func103 (by rfl) rfl rfl (Am rfl) ?_
 intro call hc;conv=>lhs;whnf
 revert h
 refine br ?_ ?_
 exact rz
 refine ix ?_;intro x2
 refine br ?_ ?_
 exact rz
 refine ix ?_;intro x4
 refine ca hc (fun _ h=>Fi h) ?_;intro y5
 refine br ?_ ?_
 refine ix ?_;intro x8
 exact rz
 exact rz
theorem Jd {n:Nat} ⦃Ev:Int⦄ ⦃r:(List UInt8)⦄:Hb n Ev=some r→CN n 71 [iA Ev] []=some (sA r,[]):=by
 intro h;rcases n with _|n;cases h
 rw[Hb] at h
 refine Ai Try.func71 (by rfl) rfl rfl (Am rfl) ?_
 intro call hc;conv=>lhs;whnf
 revert h
 refine br ?_ ?_
 exact rz
 refine br ?_ ?_
 exact rz
 refine br ?_ ?_
 exact rz
 refine br ?_ ?_
 exact rz
 refine br ?_ ?_
 exact rz
 refine br ?_ ?_
 exact rz
 refine br ?_ ?_
 exact rz
 refine br ?_ ?_
 exact rz
 refine br ?_ ?_
 exact rz
 refine br ?_ ?_
 exact rz
 refine br ?_ ?_
 exact rz
 refine br ?_ ?_
 exact rz
 refine br ?_ ?_
 exact rz
 refine br ?_ ?_
 exact rz
 refine bt ?_
 exact rz
def Kc (n:Nat):Prop:=∀ ⦃p_l:(List A5)⦄ ⦃p_i:Int⦄ ⦃p_in:Int⦄ ⦃p_e:Int⦄ ⦃p_at:Int⦄ ⦃r:((List A1)×Int×Int×Int×Int)⦄,Dh n p_l p_i p_in p_e p_at=some r→CN n 59 [AV.ptr 0 0] [Ob.var 103 [AV.sl 4 (List.map A2 p_l),iA p_i,iA p_in,iA p_e,iA p_at]]=some (AV.sl 5 (List.map A0 r.1),[Ob.var 103 [AV.sl 4 (List.map A2 p_l),iA r.2.1,iA r.2.2.1,iA r.2.2.2.1,iA r.2.2.2.2]])
def My (n:Nat):Prop:=∀ ⦃p_l:(List A5)⦄ ⦃p_i:Int⦄ ⦃p_in:Int⦄ ⦃p_e:Int⦄ ⦃p_at:Int⦄ ⦃r:((List A1)×Int×Int×Int×Int)⦄,Cx n p_l p_i p_in p_e p_at=some r→CN n 75 [AV.ptr 0 0] [Ob.var 103 [AV.sl 4 (List.map A2 p_l),iA p_i,iA p_in,iA p_e,iA p_at]]=some (AV.sl 5 (List.map A0 r.1),[Ob.var 103 [AV.sl 4 (List.map A2 p_l),iA r.2.1,iA r.2.2.1,iA r.2.2.2.1,iA r.2.2.2.2]])
def Js (n:Nat):Prop:=∀ ⦃p_l:(List A5)⦄ ⦃p_i:Int⦄ ⦃p_in:Int⦄ ⦃p_e:Int⦄ ⦃p_at:Int⦄ ⦃r:((List A1)×Int×Int×Int×Int)⦄,Ce n p_l p_i p_in p_e p_at=some r→CN n 89 [AV.ptr 0 0] [Ob.var 103 [AV.sl 4 (List.map A2 p_l),iA p_i,iA p_in,iA p_e,iA p_at]]=some (AV.sl 5 (List.map A0 r.1),[Ob.var 103 [AV.sl 4 (List.map A2 p_l),iA r.2.1,iA r.2.2.1,iA r.2.2.2.1,iA r.2.2.2.2]])
def Lw (n:Nat):Prop:=∀ ⦃p_l:(List A5)⦄ ⦃p_i:Int⦄ ⦃p_in:Int⦄ ⦃p_e:Int⦄ ⦃p_at:Int⦄ ⦃r:((List A1)×Int×Int×Int×Int)⦄,E6 n p_l p_i p_in p_e p_at=some r→CN n 101 [AV.ptr 0 0,AV.func 100 [] []] [Ob.var 103 [AV.sl 4 (List.map A2 p_l),iA p_i,iA p_in,iA p_e,iA p_at]]=some (AV.sl 5 (List.map A0 r.1),[Ob.var 103 [AV.sl 4 (List.map A2 p_l),iA r.2.1,iA r.2.2.1,iA r.2.2.2.1,iA r.2.2.2.2]])
def Kw (n:Nat):Prop:=∀ ⦃p_l:(List A5)⦄ ⦃p_i:Int⦄ ⦃p_in:Int⦄ ⦃p_e:Int⦄ ⦃p_at:Int⦄ ⦃r:((List A1)×Int×Int×Int×Int)⦄,Dm n p_l p_i p_in p_e p_at=some r→CN n 101 [AV.ptr 0 0,AV.func 59 [] []] [Ob.var 103 [AV.sl 4 (List.map A2 p_l),iA p_i,iA p_in,iA p_e,iA p_at]]=some (AV.sl 5 (List.map A0 r.1),[Ob.var 103 [AV.sl 4 (List.map A2 p_l),iA r.2.1,iA r.2.2.1,iA r.2.2.2.1,iA r.2.2.2.2]])
def Kt (n:Nat):Prop:=∀ ⦃p_l:(List A5)⦄ ⦃p_i:Int⦄ ⦃p_in:Int⦄ ⦃p_e:Int⦄ ⦃p_at:Int⦄ ⦃r:((List A1)×Int×Int×Int×Int)⦄,Ch n p_l p_i p_in p_e p_at=some r→CN n 99 [AV.ptr 0 0] [Ob.var 103 [AV.sl 4 (List.map A2 p_l),iA p_i,iA p_in,iA p_e,iA p_at]]=some (AV.sl 5 (List.map A0 r.1),[Ob.var 103 [AV.sl 4 (List.map A2 p_l),iA r.2.1,iA r.2.2.1,iA r.2.2.2.1,iA r.2.2.2.2]])
def Nr (n:Nat):Prop:=∀ ⦃Cs:Bool⦄ ⦃Au:(List Int)⦄ ⦃p_l:(List A5)⦄ ⦃p_i:Int⦄ ⦃p_in:Int⦄ ⦃p_e:Int⦄ ⦃p_at:Int⦄ ⦃r:((List A1)×Int×Int×Int×Int)⦄,L5 n Cs Au p_l p_i p_in p_e p_at=some r→CN n 74 [AV.ptr 0 0,AV.func 75 [] [],bA Cs,AV.sl 1 (List.map Dx Au)] [Ob.var 103 [AV.sl 4 (List.map A2 p_l),iA p_i,iA p_in,iA p_e,iA p_at]]=some (AV.sl 5 (List.map A0 r.1),[Ob.var 103 [AV.sl 4 (List.map A2 p_l),iA r.2.1,iA r.2.2.1,iA r.2.2.2.1,iA r.2.2.2.2]])
def M6 (n:Nat):Prop:=∀ ⦃Cs:Bool⦄ ⦃Au:(List Int)⦄ ⦃p_l:(List A5)⦄ ⦃p_i:Int⦄ ⦃p_in:Int⦄ ⦃p_e:Int⦄ ⦃p_at:Int⦄ ⦃r:((List A1)×Int×Int×Int×Int)⦄,Jh n Cs Au p_l p_i p_in p_e p_at=some r→CN n 74 [AV.ptr 0 0,AV.func 89 [] [],bA Cs,AV.sl 1 (List.map Dx Au)] [Ob.var 103 [AV.sl 4 (List.map A2 p_l),iA p_i,iA p_in,iA p_e,iA p_at]]=some (AV.sl 5 (List.map A0 r.1),[Ob.var 103 [AV.sl 4 (List.map A2 p_l),iA r.2.1,iA r.2.2.1,iA r.2.2.2.1,iA r.2.2.2.2]])
def Lz (n:Nat):Prop:=∀ ⦃Cs:Bool⦄ ⦃Au:(List Int)⦄ ⦃p_l:(List A5)⦄ ⦃p_i:Int⦄ ⦃p_in:Int⦄ ⦃p_e:Int⦄ ⦃p_at:Int⦄ ⦃r:((List A1)×Int×Int×Int×Int)⦄,Jk n Cs Au p_l p_i p_in p_e p_at=some r→CN n 74 [AV.ptr 0 0,AV.func 98 [] [],bA Cs,AV.sl 1 (List.map Dx Au)] [Ob.var 103 [AV.sl 4 (List.map A2 p_l),iA p_i,iA p_in,iA p_e,iA p_at]]=some (AV.sl 5 (List.map A0 r.1),[Ob.var 103 [AV.sl 4 (List.map A2 p_l),iA r.2.1,iA r.2.2.1,iA r.2.2.2.1,iA r.2.2.2.2]])
def M0 (n:Nat):Prop:=∀ ⦃Cs:Bool⦄ ⦃Au:(List Int)⦄ ⦃p_l:(List A5)⦄ ⦃p_i:Int⦄ ⦃p_in:Int⦄ ⦃p_e:Int⦄ ⦃p_at:Int⦄ ⦃r:((List A1)×Int×Int×Int×Int)⦄,Ji n Cs Au p_l p_i p_in p_e p_at=some r→CN n 74 [AV.ptr 0 0,AV.func 99 [] [],bA Cs,AV.sl 1 (List.map Dx Au)] [Ob.var 103 [AV.sl 4 (List.map A2 p_l),iA p_i,iA p_in,iA p_e,iA p_at]]=some (AV.sl 5 (List.map A0 r.1),[Ob.var 103 [AV.sl 4 (List.map A2 p_l),iA r.2.1,iA r.2.2.1,iA r.2.2.2.1,iA r.2.2.2.2]])
def M2 (n:Nat):Prop:=∀ ⦃Cs:Bool⦄ ⦃Au:(List Int)⦄ ⦃p_l:(List A5)⦄ ⦃p_i:Int⦄ ⦃p_in:Int⦄ ⦃p_e:Int⦄ ⦃p_at:Int⦄ ⦃r:((List A1)×Int×Int×Int×Int)⦄,Jl n Cs Au p_l p_i p_in p_e p_at=some r→CN n 74 [AV.ptr 0 0,AV.func 100 [] [],bA Cs,AV.sl 1 (List.map Dx Au)] [Ob.var 103 [AV.sl 4 (List.map A2 p_l),iA p_i,iA p_in,iA p_e,iA p_at]]=some (AV.sl 5 (List.map A0 r.1),[Ob.var 103 [AV.sl 4 (List.map A2 p_l),iA r.2.1,iA r.2.2.1,iA r.2.2.2.1,iA r.2.2.2.2]])
def L8 (n:Nat):Prop:=∀ ⦃p_l:(List A5)⦄ ⦃p_i:Int⦄ ⦃p_in:Int⦄ ⦃p_e:Int⦄ ⦃p_at:Int⦄ ⦃r:((List A1)×Int×Int×Int×Int)⦄,Bj n p_l p_i p_in p_e p_at=some r→CN n 100 [AV.ptr 0 0] [Ob.var 103 [AV.sl 4 (List.map A2 p_l),iA p_i,iA p_in,iA p_e,iA p_at]]=some (AV.sl 5 (List.map A0 r.1),[Ob.var 103 [AV.sl 4 (List.map A2 p_l),iA r.2.1,iA r.2.2.1,iA r.2.2.2.1,iA r.2.2.2.2]])
def Nm (n:Nat):Prop:=∀ ⦃p_l:(List A5)⦄ ⦃p_i:Int⦄ ⦃p_in:Int⦄ ⦃p_e:Int⦄ ⦃p_at:Int⦄ ⦃r:((List A1)×Int×Int×Int×Int)⦄,D6 n p_l p_i p_in p_e p_at=some r→CN n 98 [AV.ptr 0 0] [Ob.var 103 [AV.sl 4 (List.map A2 p_l),iA p_i,iA p_in,iA p_e,iA p_at]]=some (AV.sl 5 (List.map A0 r.1),[Ob.var 103 [AV.sl 4 (List.map A2 p_l),iA r.2.1,iA r.2.2.1,iA r.2.2.2.1,iA r.2.2.2.2]])
def Cj (n:Nat):Prop:=Kc n∧My n∧Js n∧Lw n∧Kw n∧Kt n∧Nr n∧M6 n∧Lz n∧M0 n∧M2 n∧L8 n∧Nm n
theorem Zy (n:Nat) (ih:Cj n):Kc (n+1):=by
 intro p_l p_i p_in p_e p_at r h
 rw[Dh] at h
 refine Ai Try.func59 (by rfl) rfl rfl (Am rfl) ?_
 intro call hc;conv=>lhs;whnf
 revert h
 refine cr hc (fun y1 h=>(show CN n 74 [AV.ptr 0 0,AV.func 75 [] [],bA false,AV.sl 1 [[iA (14)]]] [Ob.var 103 [AV.sl 4 (List.map A2 p_l),iA p_i,iA p_in,iA p_e,iA p_at]]=some (AV.sl 5 (List.map A0 y1.1),[Ob.var 103 [AV.sl 4 (List.map A2 p_l),iA y1.2.1,iA y1.2.2.1,iA y1.2.2.2.1,iA y1.2.2.2.2]]) from ih.2.2.2.2.2.2.1 (r:=y1) h)) ?_;intro y1
 exact rz
theorem Z0 (n:Nat) (ih:Cj n):My (n+1):=by
 intro p_l p_i p_in p_e p_at r h
 rw[Cx] at h
 refine Ai Try.func75 (by rfl) rfl rfl (Am rfl) ?_
 intro call hc;conv=>lhs;whnf
 revert h
 refine cr hc (fun y1 h=>(show CN n 74 [AV.ptr 0 0,AV.func 89 [] [],bA false,AV.sl 1 [[iA (13)]]] [Ob.var 103 [AV.sl 4 (List.map A2 p_l),iA p_i,iA p_in,iA p_e,iA p_at]]=some (AV.sl 5 (List.map A0 y1.1),[Ob.var 103 [AV.sl 4 (List.map A2 p_l),iA y1.2.1,iA y1.2.2.1,iA y1.2.2.2.1,iA y1.2.2.2.2]]) from ih.2.2.2.2.2.2.2.1 (r:=y1) h)) ?_;intro y1
 exact rz
theorem V8 (n:Nat) (ih:Cj n):Js (n+1):=by
 intro p_l p_i p_in p_e p_at r h
 rw[Ce] at h
 refine Ai Try.func89 (by rfl) rfl rfl (Am rfl) ?_
 intro call hc;conv=>lhs;whnf
 revert h
 refine cr hc (fun y1 h=>(show CN n 74 [AV.ptr 0 0,AV.func 98 [] [],bA true,AV.sl 1 [[iA (9)],[iA (10)],[iA (11)],[iA (12)]]] [Ob.var 103 [AV.sl 4 (List.map A2 p_l),iA p_i,iA p_in,iA p_e,iA p_at]]=some (AV.sl 5 (List.map A0 y1.1),[Ob.var 103 [AV.sl 4 (List.map A2 p_l),iA y1.2.1,iA y1.2.2.1,iA y1.2.2.2.1,iA y1.2.2.2.2]]) from ih.2.2.2.2.2.2.2.2.1 (r:=y1) h)) ?_;intro y1
 exact rz
theorem Xq (n:Nat) (ih:Cj n):Lw (n+1):=by
 intro p_l p_i p_in p_e p_at r h
 rw[E6] at h
 refine Ai Try.func101 (by rfl) rfl rfl (Am rfl) ?_
 intro call hc;conv=>lhs;whnf
 revert h
 refine br ?_ ?_
 refine ca hc (fun _ h=>F5 h) ?_;intro y2
 exact rz
 refine ca hc (fun _ h=>ih.2.2.2.2.2.2.2.2.2.2.2.1 h) ?_;intro y4
 exact rz
theorem Wa (n:Nat) (ih:Cj n):Kw (n+1):=by
 intro p_l p_i p_in p_e p_at r h
 rw[Dm] at h
 refine Ai Try.func101 (by rfl) rfl rfl (Am rfl) ?_
 intro call hc;conv=>lhs;whnf
 revert h
 refine br ?_ ?_
 refine ca hc (fun _ h=>F5 h) ?_;intro y2
 exact rz
 refine ca hc (fun _ h=>ih.1 h) ?_;intro y4
 exact rz
theorem W8 (n:Nat) (ih:Cj n):Kt (n+1):=by
 intro p_l p_i p_in p_e p_at r h
 rw[Ch] at h
 refine Ai Try.func99 (by rfl) rfl rfl (Am rfl) ?_
 intro call hc;conv=>lhs;whnf
 revert h
 refine cr hc (fun y1 h=>(show CN n 74 [AV.ptr 0 0,AV.func 100 [] [],bA false,AV.sl 1 [[iA (8)]]] [Ob.var 103 [AV.sl 4 (List.map A2 p_l),iA p_i,iA p_in,iA p_e,iA p_at]]=some (AV.sl 5 (List.map A0 y1.1),[Ob.var 103 [AV.sl 4 (List.map A2 p_l),iA y1.2.1,iA y1.2.2.1,iA y1.2.2.2.1,iA y1.2.2.2.2]]) from ih.2.2.2.2.2.2.2.2.2.2.1 (r:=y1) h)) ?_;intro y1
 exact rz
theorem Zb (n:Nat) (ih:Cj n):Nr (n+1):=by
 intro Cs Au p_l p_i p_in p_e p_at r h
 rw[L5] at h
 refine Ai Try.func74 (by rfl) rfl rfl (Am rfl) ?_
 intro call hc;conv=>lhs;whnf
 revert h
 refine ca hc (fun _ h=>ih.2.1 h) ?_;intro y1
 intro h;refine Av h ?_;clear h;intro o16 ho16 h
 refine lq (σ:=(Bool×(List A1)×Int×Int×Int×Int)) (τ:=((List A1)×Int×Int×Int×Int)) (ν:=((List A1)×Int×Int×Int×Int)) 0 (fun(s3,s4,s5,s6,s7,s8) a10=>Bg 67 [(0,AV.ptr 0 0),(1,AV.func 75 [] []),(2,bA s3),(3,AV.sl 1 (List.map Dx Au)),(9,AV.sl 5 (List.map A0 s4))]) (fun(s3,s4,s5,s6,s7,s8) a10=>[Ob.var 103 [AV.sl 4 (List.map A2 p_l),iA s5,iA s6,iA s7,iA s8]]) (fun(x46,x47,x48,x49,x50) a45=>Bg 67 [(9,AV.sl 5 (List.map A0 x46))]) (fun(x46,x47,x48,x49,x50) a45=>[Ob.var 103 [AV.sl 4 (List.map A2 p_l),iA x47,iA x48,iA x49,iA x50]]) (fun v=>(AV.sl 5 (List.map A0 v.1),[Ob.var 103 [AV.sl 4 (List.map A2 p_l),iA v.2.1,iA v.2.2.1,iA v.2.2.2.1,iA v.2.2.2.2]])) (fun k s=>B5 n (Cx n) Au p_l k s.1 s.2.1 s.2.2.1 s.2.2.2.1 s.2.2.2.2.1 s.2.2.2.2.2) (fun s=>rfl) o16 n (Cs,y1.1,y1.2.1,y1.2.2.1,y1.2.2.2.1,y1.2.2.2.2) (fun _=>0) ho16 ?_ ?_
 intro k9 ss a10 K11 cont12 hK13 hcont14 h hr15
 obtain⟨s3,s4,s5,s6,s7,s8⟩:=ss
 replace h:B5 n (Cx n) Au p_l (k9+1) s3 s4 s5 s6 s7 s8=some o16:=h
 rw[B5] at h
 conv=>lhs;whnf
 revert h
 refine br ?_ ?_
 intro h;refine Av h ?_;clear h;intro o27 ho27 h
 refine lq (σ:=(Int×Int)) (τ:=Int) (ν:=((List A1)×Int×Int×Int×Int)) 2 (fun(s18,s19) a21=>Bg 67 [(0,AV.ptr 0 0),(1,AV.func 75 [] []),(2,bA s3),(3,AV.sl 1 (List.map Dx Au)),(9,AV.sl 5 (List.map A0 s4)),(10,iA s18),(23,AV.sl 1 (List.map Dx Au)),(24,iA (((Au.length:Nat):Int))),(25,iA s19)]) (fun(s18,s19) a21=>[Ob.var 103 [AV.sl 4 (List.map A2 p_l),iA s5,iA s6,iA s7,iA s8]]) (fun x36 a35=>Bg 67 [(0,AV.ptr 0 0),(1,AV.func 75 [] []),(2,bA s3),(3,AV.sl 1 (List.map Dx Au)),(9,AV.sl 5 (List.map A0 s4)),(10,iA x36)]) (fun x36 a35=>[Ob.var 103 [AV.sl 4 (List.map A2 p_l),iA s5,iA s6,iA s7,iA s8]]) (fun v=>(AV.sl 5 (List.map A0 v.1),[Ob.var 103 [AV.sl 4 (List.map A2 p_l),iA v.2.1,iA v.2.2.1,iA v.2.2.2.1,iA v.2.2.2.2]])) (fun k s=>Bo n Au p_l s5 s6 s7 s8 k s.1 s.2) (fun s=>rfl) o27 n (0,0) (fun _=>0) ho27 ?_ ?_
 intro k20 ss a21 K22 cont23 hK24 hcont25 h hr26
 obtain⟨s18,s19⟩:=ss
 replace h:Bo n Au p_l s5 s6 s7 s8 (k20+1) s18 s19=some o27:=h
 rw[Bo] at h
 conv=>lhs;whnf
 revert h
 refine br ?_ ?_
 refine ix ?_;intro x29
 refine ca hc (fun _ h=>Jd h) ?_;intro y30
 refine ca hc (fun _ h=>Do h) ?_;intro y32
 refine br ?_ ?_
 exact fun h=>cq (hcont25 (x29,IntKind.i64.wrap (s19+1)) (fun _=>0) h)
 exact fun h=>cq (hcont25 (s18,IntKind.i64.wrap (s19+1)) (fun _=>0) h)
 intro h;cases sj h
 exact kq (hr26 (fun _=>0))
 refine lrc ?_ ?_
 intro v e;subst e;cases sj h;exact hr15
 intro x36 a35 e;subst e
 dsimp only at h
 conv=>lhs;whnf
 revert h
 refine br ?_ ?_
 intro h;cases sj h
 exact kq (hr15 (fun _=>0))
 refine ix ?_;intro x38
 refine ca hc (fun _ h=>ih.2.1 h) ?_;intro y39
 refine cr hc (fun y41 h=>(show CN n 88 [AV.agg [iA x36,iA (0),sA (([]:List UInt8)),sA (([]:List UInt8)),iA x38.Al],AV.sl 1 [[AV.sl 5 (List.map A0 s4)],[AV.sl 5 (List.map A0 y39.1)]]] []=some (AV.sl 5 (List.map A0 y41),[]) from Fq (r:=y41) h)) ?_;intro y41
 refine br ?_ ?_
 intro h;cases sj h
 exact kq (hr15 (fun _=>0))
 exact fun h=>cq (hcont14 (false,y41,y39.2.1,y39.2.2.1,y39.2.2.2.1,y39.2.2.2.2) (fun _=>0) h)
 intro h;cases sj h
 exact kq (hr15 (fun _=>0))
 refine lrc ?_ ?_
 intro v e;subst e;cases sj h;rfl
 intro t a45 e;subst e
 obtain⟨x46,x47,x48,x49,x50⟩:=t
 dsimp only at h
 conv=>lhs;whnf
 revert h
 exact rz
theorem Yi (n:Nat) (ih:Cj n):M6 (n+1):=by
 intro Cs Au p_l p_i p_in p_e p_at r h
 rw[Jh] at h
 refine Ai Try.func74 (by rfl) rfl rfl (Am rfl) ?_
 intro call hc;conv=>lhs;whnf
 revert h
 refine ca hc (fun _ h=>ih.2.2.1 h) ?_;intro y1
 intro h;refine Av h ?_;clear h;intro o16 ho16 h
 refine lq (σ:=(Bool×(List A1)×Int×Int×Int×Int)) (τ:=((List A1)×Int×Int×Int×Int)) (ν:=((List A1)×Int×Int×Int×Int)) 0 (fun(s3,s4,s5,s6,s7,s8) a10=>Bg 67 [(0,AV.ptr 0 0),(1,AV.func 89 [] []),(2,bA s3),(3,AV.sl 1 (List.map Dx Au)),(9,AV.sl 5 (List.map A0 s4))]) (fun(s3,s4,s5,s6,s7,s8) a10=>[Ob.var 103 [AV.sl 4 (List.map A2 p_l),iA s5,iA s6,iA s7,iA s8]]) (fun(x46,x47,x48,x49,x50) a45=>Bg 67 [(9,AV.sl 5 (List.map A0 x46))]) (fun(x46,x47,x48,x49,x50) a45=>[Ob.var 103 [AV.sl 4 (List.map A2 p_l),iA x47,iA x48,iA x49,iA x50]]) (fun v=>(AV.sl 5 (List.map A0 v.1),[Ob.var 103 [AV.sl 4 (List.map A2 p_l),iA v.2.1,iA v.2.2.1,iA v.2.2.2.1,iA v.2.2.2.2]])) (fun k s=>Ej n (Ce n) Au p_l k s.1 s.2.1 s.2.2.1 s.2.2.2.1 s.2.2.2.2.1 s.2.2.2.2.2) (fun s=>rfl) o16 n (Cs,y1.1,y1.2.1,y1.2.2.1,y1.2.2.2.1,y1.2.2.2.2) (fun _=>0) ho16 ?_ ?_
 intro k9 ss a10 K11 cont12 hK13 hcont14 h hr15
 obtain⟨s3,s4,s5,s6,s7,s8⟩:=ss
 replace h:Ej n (Ce n) Au p_l (k9+1) s3 s4 s5 s6 s7 s8=some o16:=h
 rw[Ej] at h
 conv=>lhs;whnf
 revert h
 refine br ?_ ?_
 intro h;refine Av h ?_;clear h;intro o27 ho27 h
 refine lq (σ:=(Int×Int)) (τ:=Int) (ν:=((List A1)×Int×Int×Int×Int)) 2 (fun(s18,s19) a21=>Bg 67 [(0,AV.ptr 0 0),(1,AV.func 89 [] []),(2,bA s3),(3,AV.sl 1 (List.map Dx Au)),(9,AV.sl 5 (List.map A0 s4)),(10,iA s18),(23,AV.sl 1 (List.map Dx Au)),(24,iA (((Au.length:Nat):Int))),(25,iA s19)]) (fun(s18,s19) a21=>[Ob.var 103 [AV.sl 4 (List.map A2 p_l),iA s5,iA s6,iA s7,iA s8]]) (fun x36 a35=>Bg 67 [(0,AV.ptr 0 0),(1,AV.func 89 [] []),(2,bA s3),(3,AV.sl 1 (List.map Dx Au)),(9,AV.sl 5 (List.map A0 s4)),(10,iA x36)]) (fun x36 a35=>[Ob.var 103 [AV.sl 4 (List.map A2 p_l),iA s5,iA s6,iA s7,iA s8]]) (fun v=>(AV.sl 5 (List.map A0 v.1),[Ob.var 103 [AV.sl 4 (List.map A2 p_l),iA v.2.1,iA v.2.2.1,iA v.2.2.2.1,iA v.2.2.2.2]])) (fun k s=>Dw n Au p_l s5 s6 s7 s8 k s.1 s.2) (fun s=>rfl) o27 n (0,0) (fun _=>0) ho27 ?_ ?_
 intro k20 ss a21 K22 cont23 hK24 hcont25 h hr26
 obtain⟨s18,s19⟩:=ss
 replace h:Dw n Au p_l s5 s6 s7 s8 (k20+1) s18 s19=some o27:=h
 rw[Dw] at h
 conv=>lhs;whnf
 revert h
 refine br ?_ ?_
 refine ix ?_;intro x29
 refine ca hc (fun _ h=>Jd h) ?_;intro y30
 refine ca hc (fun _ h=>Do h) ?_;intro y32
 refine br ?_ ?_
 exact fun h=>cq (hcont25 (x29,IntKind.i64.wrap (s19+1)) (fun _=>0) h)
 exact fun h=>cq (hcont25 (s18,IntKind.i64.wrap (s19+1)) (fun _=>0) h)
 intro h;cases sj h
 exact kq (hr26 (fun _=>0))
 refine lrc ?_ ?_
 intro v e;subst e;cases sj h;exact hr15
 intro x36 a35 e;subst e
 dsimp only at h
 conv=>lhs;whnf
 revert h
 refine br ?_ ?_
 intro h;cases sj h
 exact kq (hr15 (fun _=>0))
 refine ix ?_;intro x38
 refine ca hc (fun _ h=>ih.2.2.1 h) ?_;intro y39
 refine cr hc (fun y41 h=>(show CN n 88 [AV.agg [iA x36,iA (0),sA (([]:List UInt8)),sA (([]:List UInt8)),iA x38.Al],AV.sl 1 [[AV.sl 5 (List.map A0 s4)],[AV.sl 5 (List.map A0 y39.1)]]] []=some (AV.sl 5 (List.map A0 y41),[]) from Fq (r:=y41) h)) ?_;intro y41
 refine br ?_ ?_
 intro h;cases sj h
 exact kq (hr15 (fun _=>0))
 exact fun h=>cq (hcont14 (false,y41,y39.2.1,y39.2.2.1,y39.2.2.2.1,y39.2.2.2.2) (fun _=>0) h)
 intro h;cases sj h
 exact kq (hr15 (fun _=>0))
 refine lrc ?_ ?_
 intro v e;subst e;cases sj h;rfl
 intro t a45 e;subst e
 obtain⟨x46,x47,x48,x49,x50⟩:=t
 dsimp only at h
 conv=>lhs;whnf
 revert h
 exact rz
theorem Xl (n:Nat) (ih:Cj n):Lz (n+1):=by
 intro Cs Au p_l p_i p_in p_e p_at r h
 rw[Jk] at h
 refine Ai Try.func74 (by rfl) rfl rfl (Am rfl) ?_
 intro call hc;conv=>lhs;whnf
 revert h
 refine ca hc (fun _ h=>ih.2.2.2.2.2.2.2.2.2.2.2.2 h) ?_;intro y1
 intro h;refine Av h ?_;clear h;intro o16 ho16 h
 refine lq (σ:=(Bool×(List A1)×Int×Int×Int×Int)) (τ:=((List A1)×Int×Int×Int×Int)) (ν:=((List A1)×Int×Int×Int×Int)) 0 (fun(s3,s4,s5,s6,s7,s8) a10=>Bg 67 [(0,AV.ptr 0 0),(1,AV.func 98 [] []),(2,bA s3),(3,AV.sl 1 (List.map Dx Au)),(9,AV.sl 5 (List.map A0 s4))]) (fun(s3,s4,s5,s6,s7,s8) a10=>[Ob.var 103 [AV.sl 4 (List.map A2 p_l),iA s5,iA s6,iA s7,iA s8]]) (fun(x46,x47,x48,x49,x50) a45=>Bg 67 [(9,AV.sl 5 (List.map A0 x46))]) (fun(x46,x47,x48,x49,x50) a45=>[Ob.var 103 [AV.sl 4 (List.map A2 p_l),iA x47,iA x48,iA x49,iA x50]]) (fun v=>(AV.sl 5 (List.map A0 v.1),[Ob.var 103 [AV.sl 4 (List.map A2 p_l),iA v.2.1,iA v.2.2.1,iA v.2.2.2.1,iA v.2.2.2.2]])) (fun k s=>Ei n (D6 n) Au p_l k s.1 s.2.1 s.2.2.1 s.2.2.2.1 s.2.2.2.2.1 s.2.2.2.2.2) (fun s=>rfl) o16 n (Cs,y1.1,y1.2.1,y1.2.2.1,y1.2.2.2.1,y1.2.2.2.2) (fun _=>0) ho16 ?_ ?_
 intro k9 ss a10 K11 cont12 hK13 hcont14 h hr15
 obtain⟨s3,s4,s5,s6,s7,s8⟩:=ss
 replace h:Ei n (D6 n) Au p_l (k9+1) s3 s4 s5 s6 s7 s8=some o16:=h
 rw[Ei] at h
 conv=>lhs;whnf
 revert h
 refine br ?_ ?_
 intro h;refine Av h ?_;clear h;intro o27 ho27 h
 refine lq (σ:=(Int×Int)) (τ:=Int) (ν:=((List A1)×Int×Int×Int×Int)) 2 (fun(s18,s19) a21=>Bg 67 [(0,AV.ptr 0 0),(1,AV.func 98 [] []),(2,bA s3),(3,AV.sl 1 (List.map Dx Au)),(9,AV.sl 5 (List.map A0 s4)),(10,iA s18),(23,AV.sl 1 (List.map Dx Au)),(24,iA (((Au.length:Nat):Int))),(25,iA s19)]) (fun(s18,s19) a21=>[Ob.var 103 [AV.sl 4 (List.map A2 p_l),iA s5,iA s6,iA s7,iA s8]]) (fun x36 a35=>Bg 67 [(0,AV.ptr 0 0),(1,AV.func 98 [] []),(2,bA s3),(3,AV.sl 1 (List.map Dx Au)),(9,AV.sl 5 (List.map A0 s4)),(10,iA x36)]) (fun x36 a35=>[Ob.var 103 [AV.sl 4 (List.map A2 p_l),iA s5,iA s6,iA s7,iA s8]]) (fun v=>(AV.sl 5 (List.map A0 v.1),[Ob.var 103 [AV.sl 4 (List.map A2 p_l),iA v.2.1,iA v.2.2.1,iA v.2.2.2.1,iA v.2.2.2.2]])) (fun k s=>Du n Au p_l s5 s6 s7 s8 k s.1 s.2) (fun s=>rfl) o27 n (0,0) (fun _=>0) ho27 ?_ ?_
 intro k20 ss a21 K22 cont23 hK24 hcont25 h hr26
 obtain⟨s18,s19⟩:=ss
 replace h:Du n Au p_l s5 s6 s7 s8 (k20+1) s18 s19=some o27:=h
 rw[Du] at h
 conv=>lhs;whnf
 revert h
 refine br ?_ ?_
 refine ix ?_;intro x29
 refine ca hc (fun _ h=>Jd h) ?_;intro y30
 refine ca hc (fun _ h=>Do h) ?_;intro y32
 refine br ?_ ?_
 exact fun h=>cq (hcont25 (x29,IntKind.i64.wrap (s19+1)) (fun _=>0) h)
 exact fun h=>cq (hcont25 (s18,IntKind.i64.wrap (s19+1)) (fun _=>0) h)
 intro h;cases sj h
 exact kq (hr26 (fun _=>0))
 refine lrc ?_ ?_
 intro v e;subst e;cases sj h;exact hr15
 intro x36 a35 e;subst e
 dsimp only at h
 conv=>lhs;whnf
 revert h
 refine br ?_ ?_
 intro h;cases sj h
 exact kq (hr15 (fun _=>0))
 refine ix ?_;intro x38
 refine ca hc (fun _ h=>ih.2.2.2.2.2.2.2.2.2.2.2.2 h) ?_;intro y39
 refine cr hc (fun y41 h=>(show CN n 88 [AV.agg [iA x36,iA (0),sA (([]:List UInt8)),sA (([]:List UInt8)),iA x38.Al],AV.sl 1 [[AV.sl 5 (List.map A0 s4)],[AV.sl 5 (List.map A0 y39.1)]]] []=some (AV.sl 5 (List.map A0 y41),[]) from Fq (r:=y41) h)) ?_;intro y41
 refine br ?_ ?_
 intro h;cases sj h
 exact kq (hr15 (fun _=>0))
 exact fun h=>cq (hcont14 (false,y41,y39.2.1,y39.2.2.1,y39.2.2.2.1,y39.2.2.2.2) (fun _=>0) h)
 intro h;cases sj h
 exact kq (hr15 (fun _=>0))
 refine lrc ?_ ?_
 intro v e;subst e;cases sj h;rfl
 intro t a45 e;subst e
 obtain⟨x46,x47,x48,x49,x50⟩:=t
 dsimp only at h
 conv=>lhs;whnf
 revert h
 exact rz
theorem Yd (n:Nat) (ih:Cj n):M0 (n+1):=by
 intro Cs Au p_l p_i p_in p_e p_at r h
 rw[Ji] at h
 refine Ai Try.func74 (by rfl) rfl rfl (Am rfl) ?_
 intro call hc;conv=>lhs;whnf
 revert h
 refine ca hc (fun _ h=>ih.2.2.2.2.2.1 h) ?_;intro y1
 intro h;refine Av h ?_;clear h;intro o16 ho16 h
 refine lq (σ:=(Bool×(List A1)×Int×Int×Int×Int)) (τ:=((List A1)×Int×Int×Int×Int)) (ν:=((List A1)×Int×Int×Int×Int)) 0 (fun(s3,s4,s5,s6,s7,s8) a10=>Bg 67 [(0,AV.ptr 0 0),(1,AV.func 99 [] []),(2,bA s3),(3,AV.sl 1 (List.map Dx Au)),(9,AV.sl 5 (List.map A0 s4))]) (fun(s3,s4,s5,s6,s7,s8) a10=>[Ob.var 103 [AV.sl 4 (List.map A2 p_l),iA s5,iA s6,iA s7,iA s8]]) (fun(x46,x47,x48,x49,x50) a45=>Bg 67 [(9,AV.sl 5 (List.map A0 x46))]) (fun(x46,x47,x48,x49,x50) a45=>[Ob.var 103 [AV.sl 4 (List.map A2 p_l),iA x47,iA x48,iA x49,iA x50]]) (fun v=>(AV.sl 5 (List.map A0 v.1),[Ob.var 103 [AV.sl 4 (List.map A2 p_l),iA v.2.1,iA v.2.2.1,iA v.2.2.2.1,iA v.2.2.2.2]])) (fun k s=>Em n (Ch n) Au p_l k s.1 s.2.1 s.2.2.1 s.2.2.2.1 s.2.2.2.2.1 s.2.2.2.2.2) (fun s=>rfl) o16 n (Cs,y1.1,y1.2.1,y1.2.2.1,y1.2.2.2.1,y1.2.2.2.2) (fun _=>0) ho16 ?_ ?_
 intro k9 ss a10 K11 cont12 hK13 hcont14 h hr15
 obtain⟨s3,s4,s5,s6,s7,s8⟩:=ss
 replace h:Em n (Ch n) Au p_l (k9+1) s3 s4 s5 s6 s7 s8=some o16:=h
 rw[Em] at h
 conv=>lhs;whnf
 revert h
 refine br ?_ ?_
 intro h;refine Av h ?_;clear h;intro o27 ho27 h
 refine lq (σ:=(Int×Int)) (τ:=Int) (ν:=((List A1)×Int×Int×Int×Int)) 2 (fun(s18,s19) a21=>Bg 67 [(0,AV.ptr 0 0),(1,AV.func 99 [] []),(2,bA s3),(3,AV.sl 1 (List.map Dx Au)),(9,AV.sl 5 (List.map A0 s4)),(10,iA s18),(23,AV.sl 1 (List.map Dx Au)),(24,iA (((Au.length:Nat):Int))),(25,iA s19)]) (fun(s18,s19) a21=>[Ob.var 103 [AV.sl 4 (List.map A2 p_l),iA s5,iA s6,iA s7,iA s8]]) (fun x36 a35=>Bg 67 [(0,AV.ptr 0 0),(1,AV.func 99 [] []),(2,bA s3),(3,AV.sl 1 (List.map Dx Au)),(9,AV.sl 5 (List.map A0 s4)),(10,iA x36)]) (fun x36 a35=>[Ob.var 103 [AV.sl 4 (List.map A2 p_l),iA s5,iA s6,iA s7,iA s8]]) (fun v=>(AV.sl 5 (List.map A0 v.1),[Ob.var 103 [AV.sl 4 (List.map A2 p_l),iA v.2.1,iA v.2.2.1,iA v.2.2.2.1,iA v.2.2.2.2]])) (fun k s=>Dz n Au p_l s5 s6 s7 s8 k s.1 s.2) (fun s=>rfl) o27 n (0,0) (fun _=>0) ho27 ?_ ?_
 intro k20 ss a21 K22 cont23 hK24 hcont25 h hr26
 obtain⟨s18,s19⟩:=ss
 replace h:Dz n Au p_l s5 s6 s7 s8 (k20+1) s18 s19=some o27:=h
 rw[Dz] at h
 conv=>lhs;whnf
 revert h
 refine br ?_ ?_
 refine ix ?_;intro x29
 refine ca hc (fun _ h=>Jd h) ?_;intro y30
 refine ca hc (fun _ h=>Do h) ?_;intro y32
 refine br ?_ ?_
 exact fun h=>cq (hcont25 (x29,IntKind.i64.wrap (s19+1)) (fun _=>0) h)
 exact fun h=>cq (hcont25 (s18,IntKind.i64.wrap (s19+1)) (fun _=>0) h)
 intro h;cases sj h
 exact kq (hr26 (fun _=>0))
 refine lrc ?_ ?_
 intro v e;subst e;cases sj h;exact hr15
 intro x36 a35 e;subst e
 dsimp only at h
 conv=>lhs;whnf
 revert h
 refine br ?_ ?_
 intro h;cases sj h
 exact kq (hr15 (fun _=>0))
 refine ix ?_;intro x38
 refine ca hc (fun _ h=>ih.2.2.2.2.2.1 h) ?_;intro y39
 refine cr hc (fun y41 h=>(show CN n 88 [AV.agg [iA x36,iA (0),sA (([]:List UInt8)),sA (([]:List UInt8)),iA x38.Al],AV.sl 1 [[AV.sl 5 (List.map A0 s4)],[AV.sl 5 (List.map A0 y39.1)]]] []=some (AV.sl 5 (List.map A0 y41),[]) from Fq (r:=y41) h)) ?_;intro y41
 refine br ?_ ?_
 intro h;cases sj h
 exact kq (hr15 (fun _=>0))
 exact fun h=>cq (hcont14 (false,y41,y39.2.1,y39.2.2.1,y39.2.2.2.1,y39.2.2.2.2) (fun _=>0) h)
 intro h;cases sj h
 exact kq (hr15 (fun _=>0))
 refine lrc ?_ ?_
 intro v e;subst e;cases sj h;rfl
 intro t a45 e;subst e
 obtain⟨x46,x47,x48,x49,x50⟩:=t
 dsimp only at h
 conv=>lhs;whnf
 revert h
 exact rz
theorem Xs (n:Nat) (ih:Cj n):M2 (n+1):=by
 intro Cs Au p_l p_i p_in p_e p_at r h
 rw[Jl] at h
 refine Ai Try.func74 (by rfl) rfl rfl (Am rfl) ?_
 intro call hc;conv=>lhs;whnf
 revert h
 refine ca hc (fun _ h=>ih.2.2.2.2.2.2.2.2.2.2.2.1 h) ?_;intro y1
 intro h;refine Av h ?_;clear h;intro o16 ho16 h
 refine lq (σ:=(Bool×(List A1)×Int×Int×Int×Int)) (τ:=((List A1)×Int×Int×Int×Int)) (ν:=((List A1)×Int×Int×Int×Int)) 0 (fun(s3,s4,s5,s6,s7,s8) a10=>Bg 67 [(0,AV.ptr 0 0),(1,AV.func 100 [] []),(2,bA s3),(3,AV.sl 1 (List.map Dx Au)),(9,AV.sl 5 (List.map A0 s4))]) (fun(s3,s4,s5,s6,s7,s8) a10=>[Ob.var 103 [AV.sl 4 (List.map A2 p_l),iA s5,iA s6,iA s7,iA s8]]) (fun(x46,x47,x48,x49,x50) a45=>Bg 67 [(9,AV.sl 5 (List.map A0 x46))]) (fun(x46,x47,x48,x49,x50) a45=>[Ob.var 103 [AV.sl 4 (List.map A2 p_l),iA x47,iA x48,iA x49,iA x50]]) (fun v=>(AV.sl 5 (List.map A0 v.1),[Ob.var 103 [AV.sl 4 (List.map A2 p_l),iA v.2.1,iA v.2.2.1,iA v.2.2.2.1,iA v.2.2.2.2]])) (fun k s=>En n (Bj n) Au p_l k s.1 s.2.1 s.2.2.1 s.2.2.2.1 s.2.2.2.2.1 s.2.2.2.2.2) (fun s=>rfl) o16 n (Cs,y1.1,y1.2.1,y1.2.2.1,y1.2.2.2.1,y1.2.2.2.2) (fun _=>0) ho16 ?_ ?_
 intro k9 ss a10 K11 cont12 hK13 hcont14 h hr15
 obtain⟨s3,s4,s5,s6,s7,s8⟩:=ss
 replace h:En n (Bj n) Au p_l (k9+1) s3 s4 s5 s6 s7 s8=some o16:=h
 rw[En] at h
 conv=>lhs;whnf
 revert h
 refine br ?_ ?_
 intro h;refine Av h ?_;clear h;intro o27 ho27 h
 refine lq (σ:=(Int×Int)) (τ:=Int) (ν:=((List A1)×Int×Int×Int×Int)) 2 (fun(s18,s19) a21=>Bg 67 [(0,AV.ptr 0 0),(1,AV.func 100 [] []),(2,bA s3),(3,AV.sl 1 (List.map Dx Au)),(9,AV.sl 5 (List.map A0 s4)),(10,iA s18),(23,AV.sl 1 (List.map Dx Au)),(24,iA (((Au.length:Nat):Int))),(25,iA s19)]) (fun(s18,s19) a21=>[Ob.var 103 [AV.sl 4 (List.map A2 p_l),iA s5,iA s6,iA s7,iA s8]]) (fun x36 a35=>Bg 67 [(0,AV.ptr 0 0),(1,AV.func 100 [] []),(2,bA s3),(3,AV.sl 1 (List.map Dx Au)),(9,AV.sl 5 (List.map A0 s4)),(10,iA x36)]) (fun x36 a35=>[Ob.var 103 [AV.sl 4 (List.map A2 p_l),iA s5,iA s6,iA s7,iA s8]]) (fun v=>(AV.sl 5 (List.map A0 v.1),[Ob.var 103 [AV.sl 4 (List.map A2 p_l),iA v.2.1,iA v.2.2.1,iA v.2.2.2.1,iA v.2.2.2.2]])) (fun k s=>Dy n Au p_l s5 s6 s7 s8 k s.1 s.2) (fun s=>rfl) o27 n (0,0) (fun _=>0) ho27 ?_ ?_
 intro k20 ss a21 K22 cont23 hK24 hcont25 h hr26
 obtain⟨s18,s19⟩:=ss
 replace h:Dy n Au p_l s5 s6 s7 s8 (k20+1) s18 s19=some o27:=h
 rw[Dy] at h
 conv=>lhs;whnf
 revert h
 refine br ?_ ?_
 refine ix ?_;intro x29
 refine ca hc (fun _ h=>Jd h) ?_;intro y30
 refine ca hc (fun _ h=>Do h) ?_;intro y32
 refine br ?_ ?_
 exact fun h=>cq (hcont25 (x29,IntKind.i64.wrap (s19+1)) (fun _=>0) h)
 exact fun h=>cq (hcont25 (s18,IntKind.i64.wrap (s19+1)) (fun _=>0) h)
 intro h;cases sj h
 exact kq (hr26 (fun _=>0))
 refine lrc ?_ ?_
 intro v e;subst e;cases sj h;exact hr15
 intro x36 a35 e;subst e
 dsimp only at h
 conv=>lhs;whnf
 revert h
 refine br ?_ ?_
 intro h;cases sj h
 exact kq (hr15 (fun _=>0))
 refine ix ?_;intro x38
 refine ca hc (fun _ h=>ih.2.2.2.2.2.2.2.2.2.2.2.1 h) ?_;intro y39
 refine cr hc (fun y41 h=>(show CN n 88 [AV.agg [iA x36,iA (0),sA (([]:List UInt8)),sA (([]:List UInt8)),iA x38.Al],AV.sl 1 [[AV.sl 5 (List.map A0 s4)],[AV.sl 5 (List.map A0 y39.1)]]] []=some (AV.sl 5 (List.map A0 y41),[]) from Fq (r:=y41) h)) ?_;intro y41
 refine br ?_ ?_
 intro h;cases sj h
 exact kq (hr15 (fun _=>0))
 exact fun h=>cq (hcont14 (false,y41,y39.2.1,y39.2.2.1,y39.2.2.2.1,y39.2.2.2.2) (fun _=>0) h)
 intro h;cases sj h
 exact kq (hr15 (fun _=>0))
 refine lrc ?_ ?_
 intro v e;subst e;cases sj h;rfl
 intro t a45 e;subst e
 obtain⟨x46,x47,x48,x49,x50⟩:=t
 dsimp only at h
 conv=>lhs;whnf
 revert h
 exact rz
theorem Xh (n:Nat) (ih:Cj n):L8 (n+1):=by
 intro p_l p_i p_in p_e p_at r h
 rw[Bj] at h
 refine Ai Try.func100 (by rfl) rfl rfl (Am rfl) ?_
 intro call hc;conv=>lhs;whnf
 revert h
 refine br ?_ ?_
 exact rz
 refine ca hc (fun _ h=>Do h) ?_;intro y2
 refine br ?_ ?_
 refine ix ?_;intro x5
 refine ca hc (fun _ h=>ih.2.2.2.1 h) ?_;intro y6
 refine cr hc (fun y8 h=>(show CN n 88 [AV.agg [iA (5),iA (0),sA (([]:List UInt8)),sA (([]:List UInt8)),iA x5.Al],AV.sl 1 [[AV.sl 5 (List.map A0 y6.1)]]] []=some (AV.sl 5 (List.map A0 y8),[]) from Fq (r:=y8) h)) ?_;intro y8
 exact rz
 refine ca hc (fun _ h=>Do h) ?_;intro y10
 refine br ?_ ?_
 refine ca hc (fun _ h=>ih.2.2.2.2.1 h) ?_;intro y13
 refine br ?_ ?_
 refine ca hc (fun _ h=>Do h) ?_;intro y16
 refine br ?_ ?_
 exact rz
 refine ca hc (fun _ h=>F5 h) ?_;intro y19
 exact rz
 exact rz
 refine br ?_ ?_
 refine ix ?_;intro x22
 refine br ?_ ?_
 refine ix ?_;intro x24
 refine cr hc (fun y25 h=>(show CN n 88 [AV.agg [iA (1),iA x24.C2,sA (([]:List UInt8)),sA (([]:List UInt8)),iA x24.Al],AV.sl 1 []] []=some (AV.sl 5 (List.map A0 y25),[]) from Fq (r:=y25) h)) ?_;intro y25
 exact rz
 refine ca hc (fun _ h=>Jm h) ?_;intro y27
 refine br ?_ ?_
 refine ca hc (fun _ h=>Do h) ?_;intro y30
 refine br ?_ ?_
 refine ca hc (fun _ h=>Jm h) ?_;intro y33
 refine br ?_ ?_
 refine cr hc (fun y36 h=>(show CN n 88 [AV.agg [iA (4),iA (0),sA y33.1,sA y27.1,iA y27.2.1],AV.sl 1 []] []=some (AV.sl 5 (List.map A0 y36),[]) from Fq (r:=y36) h)) ?_;intro y36
 exact rz
 refine ca hc (fun _ h=>F5 h) ?_;intro y38
 exact rz
 refine cr hc (fun y40 h=>(show CN n 88 [AV.agg [iA (2),iA (0),sA y27.1,sA (([]:List UInt8)),iA y27.2.1],AV.sl 1 []] []=some (AV.sl 5 (List.map A0 y40),[]) from Fq (r:=y40) h)) ?_;intro y40
 exact rz
 refine ca hc (fun _ h=>F5 h) ?_;intro y42
 exact rz
 refine ca hc (fun _ h=>Jm h) ?_;intro y44
 refine br ?_ ?_
 refine ca hc (fun _ h=>Do h) ?_;intro y47
 refine br ?_ ?_
 refine ca hc (fun _ h=>Jm h) ?_;intro y50
 refine br ?_ ?_
 refine cr hc (fun y53 h=>(show CN n 88 [AV.agg [iA (4),iA (0),sA y50.1,sA y44.1,iA y44.2.1],AV.sl 1 []] []=some (AV.sl 5 (List.map A0 y53),[]) from Fq (r:=y53) h)) ?_;intro y53
 exact rz
 refine ca hc (fun _ h=>F5 h) ?_;intro y55
 exact rz
 refine cr hc (fun y57 h=>(show CN n 88 [AV.agg [iA (2),iA (0),sA y44.1,sA (([]:List UInt8)),iA y44.2.1],AV.sl 1 []] []=some (AV.sl 5 (List.map A0 y57),[]) from Fq (r:=y57) h)) ?_;intro y57
 exact rz
 refine ca hc (fun _ h=>F5 h) ?_;intro y59
 exact rz
theorem Zc (n:Nat) (ih:Cj n):Nm (n+1):=by
 intro p_l p_i p_in p_e p_at r h
 rw[D6] at h
 refine Ai Try.func98 (by rfl) rfl rfl (Am rfl) ?_
 intro call hc;conv=>lhs;whnf
 revert h
 refine cr hc (fun y1 h=>(show CN n 74 [AV.ptr 0 0,AV.func 99 [] [],bA false,AV.sl 1 [[iA (6)],[iA (7)]]] [Ob.var 103 [AV.sl 4 (List.map A2 p_l),iA p_i,iA p_in,iA p_e,iA p_at]]=some (AV.sl 5 (List.map A0 y1.1),[Ob.var 103 [AV.sl 4 (List.map A2 p_l),iA y1.2.1,iA y1.2.2.1,iA y1.2.2.2.1,iA y1.2.2.2.2]]) from ih.2.2.2.2.2.2.2.2.2.1 (r:=y1) h)) ?_;intro y1
 exact rz
theorem R3:∀ n,Cj n
 | 0=>⟨by unfold Kc;intros;rename_i h;exact absurd h (by intro h;cases h),by unfold My;intros;rename_i h;exact absurd h (by intro h;cases h),by unfold Js;intros;rename_i h;exact absurd h (by intro h;cases h),by unfold Lw;intros;rename_i h;exact absurd h (by intro h;cases h),by unfold Kw;intros;rename_i h;exact absurd h (by intro h;cases h),by unfold Kt;intros;rename_i h;exact absurd h (by intro h;cases h),by unfold Nr;intros;rename_i h;exact absurd h (by intro h;cases h),by unfold M6;intros;rename_i h;exact absurd h (by intro h;cases h),by unfold Lz;intros;rename_i h;exact absurd h (by intro h;cases h),by unfold M0;intros;rename_i h;exact absurd h (by intro h;cases h),by unfold M2;intros;rename_i h;exact absurd h (by intro h;cases h),by unfold L8;intros;rename_i h;exact absurd h (by intro h;cases h),by unfold Nm;intros;rename_i h;exact absurd h (by intro h;cases h)⟩
 | n+1=>have ih:=R3 n
   ⟨Zy n ih,Z0 n ih,V8 n ih,Xq n ih,Wa n ih,W8 n ih,Zb n ih,Yi n ih,Xl n ih,Yd n ih,Xs n ih,Xh n ih,Zc n ih⟩
theorem A07 {n:Nat}:Kc n:=(R3 n).1
theorem Yt {n:Nat} ⦃Ap:(List A5)⦄ ⦃E1:Int⦄ ⦃r:((List A1)×Int×Int×Int)⦄:I7 n Ap E1=some r→CN n 48 [AV.sl 4 (List.map A2 Ap),iA E1] []=some (AV.tup [AV.sl 5 (List.map A0 r.1),iA r.2.1,iA r.2.2.1,iA r.2.2.2],[]):=by
 intro h;rcases n with _|n;cases h
 rw[I7] at h
 refine Ai Try.func48 (by rfl) rfl rfl (Am rfl) ?_
 intro call hc;conv=>lhs;whnf
 revert h
 refine br ?_ ?_
 exact rz
 refine ca hc (fun _ h=>A07 h) ?_;intro y2
 refine br ?_ ?_
 exact rz
 refine ca hc (fun _ h=>Yo h) ?_;intro y5
 refine br ?_ ?_
 refine ix ?_;intro x8
 exact rz
 refine br ?_ ?_
 refine ix ?_;intro x10
 exact rz
 exact rz
theorem A7z {n:Nat} ⦃Ax:A1⦄ ⦃r:Bool⦄:Ot n Ax=some r→CN n 69 [AV.agg [iA Ax.Bm,iA Ax.C2,sA Ax.An,sA Ax.Dd,iA Ax.Al]] []=some (bA r,[]):=by
 intro h;rcases n with _|n;cases h
 rw[Ot] at h
 refine Ai Try.func69 (by rfl) rfl rfl (Am rfl) ?_
 intro call hc;conv=>lhs;whnf
 revert h
 refine br ?_ ?_
 exact rz
 refine br ?_ ?_
 intro h
 have hf5:Vw Try.prog 47=some (fieldsOf Try.prog 47):=by kernel_rfl
 simp only[hf5,Bd,D2]
 conv=>lhs;whnf
 revert h
 refine br ?_ ?_
 refine br ?_ ?_
 exact rz
 exact rz
 exact rz
 refine br ?_ ?_
 refine ca hc (fun _ h=>Fi h) ?_;intro y7
 refine br ?_ ?_
 intro h
 have hf13:Vw Try.prog 47=some (fieldsOf Try.prog 47):=by kernel_rfl
 simp only[hf13,Bd,D2]
 conv=>lhs;whnf
 revert h
 refine br ?_ ?_
 refine ca hc (fun _ h=>Fi h) ?_;intro y11
 exact rz
 exact rz
 exact rz
 refine br ?_ ?_
 intro h
 have hf18:Vw Try.prog 47=some (fieldsOf Try.prog 47):=by kernel_rfl
 simp only[hf18,Bd,D2]
 conv=>lhs;whnf
 revert h
 refine br ?_ ?_
 refine ca hc (fun _ h=>Fi h) ?_;intro y16
 exact rz
 exact rz
 refine br ?_ ?_
 intro h
 have hf23:Vw Try.prog 47=some (fieldsOf Try.prog 47):=by kernel_rfl
 simp only[hf23,Bd,D2]
 conv=>lhs;whnf
 revert h
 refine br ?_ ?_
 refine ca hc (fun _ h=>Fi h) ?_;intro y21
 exact rz
 exact rz
 intro h
 have hf24:Vw Try.prog 47=some (fieldsOf Try.prog 47):=by kernel_rfl
 simp only[hf24,Bd,D2]
 conv=>lhs;whnf
 revert h
 exact rz
theorem Ss {n:Nat} ⦃Ap:(List A1)⦄ ⦃r:Bool⦄:J9 n Ap=some r→CN n 51 [AV.sl 5 (List.map A0 Ap)] []=some (bA r,[]):=by
 intro h;rcases n with _|n;cases h
 rw[J9] at h
 refine Ai Try.func51 (by rfl) rfl rfl (Am rfl) ?_
 intro call hc;conv=>lhs;whnf
 revert h
 refine br ?_ ?_
 exact rz
 refine br ?_ ?_
 exact rz
 refine ca hc (fun _ h=>Ab7 h) ?_;intro y3
 refine br ?_ ?_
 exact rz
 intro h;refine Av h ?_;clear h;intro o14 ho14 h
 refine lq (σ:=Int) (τ:=Unit) (ν:=Bool) 0 (fun s6 a8=>Bg 33 [(0,AV.sl 5 (List.map A0 Ap)),(20,AV.sl 5 (List.map A0 Ap)),(21,iA (((Ap.length:Nat):Int))),(22,iA s6)]) (fun s6 a8=>[]) (fun _ a20=>Bg 33 [(0,AV.sl 5 (List.map A0 Ap))]) (fun _ a20=>[]) (fun v=>(bA v,[])) (fun k s=>Gn n Ap k s) (fun s=>rfl) o14 n 0 (fun _=>0) ho14 ?_ ?_
 intro k7 s6 a8 K9 cont10 hK11 hcont12 h hr13
 replace h:Gn n Ap (k7+1) s6=some o14:=h
 rw[Gn] at h
 conv=>lhs;whnf
 revert h
 refine br ?_ ?_
 refine ix ?_;intro x16
 refine ca hc (fun _ h=>A7z h) ?_;intro y17
 refine br ?_ ?_
 exact fun h=>cq (hcont12 (IntKind.i64.wrap (s6+1)) (fun _=>0) h)
 intro h;cases sj h
 refine(hK11 _ _).trans ?_
 refine Eq.trans ?_ (Eq.symm (show _=some _ from hr13))
 conv=>lhs;whnf
 exact rq
 intro h;cases sj h
 exact kq (hr13 (fun _=>0))
 refine lrc ?_ ?_
 intro v e;subst e;cases sj h;rfl
 intro t a20 e;subst e
 dsimp only at h
 conv=>lhs;whnf
 revert h
 refine ca hc (fun _ h=>Yo h) ?_;intro y21
 exact rz
def N7 (n:Nat):Prop:=∀ ⦃C7:Int⦄ ⦃r:(List UInt8)⦄,Oh n C7=some r→CN n 70 [iA C7] []=some (sA r,[])
def Qg (n:Nat):Prop:=N7 n
theorem A2p (n:Nat) (ih:Qg n):N7 (n+1):=by
 intro C7 r h
 rw[Oh] at h
 refine Ai Try.func70 (by rfl) rfl rfl (Am rfl) ?_
 intro call hc;conv=>lhs;whnf
 revert h
 refine br ?_ ?_
 exact rz
 refine ca hc (fun _ h=>ih h) ?_;intro y2
 intro h
 refine B0 h ?_;clear h;intro hc4 h
 refine B1 hc4 ?_
 try simp only[ls]
 conv=>lhs;whnf
 revert h
 exact rz
theorem Tz:∀ n,Qg n
 | 0=>by unfold Qg N7;intros;rename_i h;exact absurd h (by intro h;cases h)
 | n+1=>have ih:=Tz n
   A2p n ih
theorem A2s {n:Nat}:N7 n:=(Tz n)
def Pe (n:Nat):Prop:=∀ ⦃Ap:(List A1)⦄ ⦃E1:Int⦄ ⦃R2:Bool⦄ ⦃r:((List UInt8)×Int)⦄,Lp n Ap E1 R2=some r→CN n 52 [AV.sl 5 (List.map A0 Ap),iA E1,bA R2] []=some (AV.tup [sA r.1,iA r.2],[])
def Sr (n:Nat):Prop:=Pe n
theorem A6f (n:Nat) (ih:Sr n):Pe (n+1):=by
 intro Ap E1 R2 r h
 rw[Lp] at h
 refine Ai Try.func52 (by rfl) rfl rfl (Am rfl) ?_
 intro call hc;conv=>lhs;whnf
 revert h
 refine ix ?_;intro x1
 refine br ?_ ?_
 refine ca hc (fun _ h=>A2s h) ?_;intro y3
 exact rz
 refine br ?_ ?_
 exact rz
 refine br ?_ ?_
 exact rz
 refine br ?_ ?_
 intro h
 refine B0 h ?_;clear h;intro hc8 h
 refine B1 hc8 ?_
 try simp only[ls]
 conv=>lhs;whnf
 revert h
 intro h
 refine B0 h ?_;clear h;intro hc9 h
 refine B1 hc9 ?_
 try simp only[ls]
 conv=>lhs;whnf
 revert h
 exact rz
 refine br ?_ ?_
 refine ca hc (fun _ h=>ih h) ?_;intro y11
 refine ca hc (fun _ h=>Jd h) ?_;intro y13
 intro h
 refine B0 h ?_;clear h;intro hc15 h
 refine B1 hc15 ?_
 try simp only[ls]
 conv=>lhs;whnf
 revert h
 exact rz
 refine ca hc (fun _ h=>ih h) ?_;intro y16
 refine ca hc (fun _ h=>ih h) ?_;intro y18
 intro h
 refine B0 h ?_;clear h;intro hc20 h
 refine B1 hc20 ?_
 try simp only[ls]
 conv=>lhs;whnf
 revert h
 refine ca hc (fun _ h=>Jd h) ?_;intro y21
 intro h
 refine B0 h ?_;clear h;intro hc23 h
 refine B1 hc23 ?_
 try simp only[ls]
 conv=>lhs;whnf
 revert h
 intro h
 refine B0 h ?_;clear h;intro hc24 h
 refine B1 hc24 ?_
 try simp only[ls]
 conv=>lhs;whnf
 revert h
 intro h
 refine B0 h ?_;clear h;intro hc25 h
 refine B1 hc25 ?_
 try simp only[ls]
 conv=>lhs;whnf
 revert h
 refine br ?_ ?_
 intro h
 refine B0 h ?_;clear h;intro hc27 h
 refine B1 hc27 ?_
 try simp only[ls]
 conv=>lhs;whnf
 revert h
 intro h
 refine B0 h ?_;clear h;intro hc28 h
 refine B1 hc28 ?_
 try simp only[ls]
 conv=>lhs;whnf
 revert h
 exact rz
 exact rz
theorem Xb:∀ n,Sr n
 | 0=>by unfold Sr Pe;intros;rename_i h;exact absurd h (by intro h;cases h)
 | n+1=>have ih:=Xb n
   A6f n ih
theorem A6r {n:Nat}:Pe n:=(Xb n)
theorem Un {n:Nat} ⦃Ap:(List A1)⦄ ⦃r:(List UInt8)⦄:P2 n Ap=some r→CN n 25 [AV.sl 5 (List.map A0 Ap)] []=some (sA r,[]):=by
 intro h;rcases n with _|n;cases h
 rw[P2] at h
 refine Ai Try.func25 (by rfl) rfl rfl (Am rfl) ?_
 intro call hc;conv=>lhs;whnf
 revert h
 refine ca hc (fun _ h=>Ss h) ?_;intro y1
 refine br ?_ ?_
 refine ca hc (fun _ h=>A6r h) ?_;intro y4
 exact rz
 exact rz
theorem Sk {n:Nat} ⦃r:(List Bh)⦄:J8 n=some r→CN n 56 [] []=some (AV.sl 4 (List.map A1d r),[]):=by
 intro h;rcases n with _|n;cases h
 rw[J8] at h
 refine Ai Try.func56 (by rfl) rfl rfl (Am rfl) ?_
 intro call hc;conv=>lhs;whnf
 revert h
 exact rz
theorem Ho {n:Nat} ⦃Gi:Int⦄ ⦃Aaj:(List UInt8)⦄ ⦃p_l:(List A5)⦄ ⦃p_i:Int⦄ ⦃p_e:Int⦄ ⦃p_at:Int⦄ ⦃Ab:(List ((List UInt8)×Int))⦄ ⦃r:Bool⦄:D5 n Gi Aaj p_l p_i p_e p_at Ab=some r→CN n 72 [AV.ptr 0 0,iA Gi,sA Aaj] [Ob.var 94 [AV.sl 4 (List.map A2 p_l),iA p_i,AV.mapp 1,iA p_e,iA p_at],Ob.mp none false (List.map A6 Ab)]=some (bA r,[Ob.var 94 [AV.sl 4 (List.map A2 p_l),iA p_i,AV.mapp 1,iA p_e,iA p_at],Ob.mp none false (List.map A6 Ab)]):=by
 intro h;rcases n with _|n;cases h
 rw[D5] at h
 refine Ai Try.func72 (by rfl) rfl rfl (Am rfl) ?_
 intro call hc;conv=>lhs;whnf
 revert h
 refine br ?_ ?_
 refine ix ?_;intro x2
 refine br ?_ ?_
 refine ix ?_;intro x4
 intro h;cases sj h
 try simp only[ls]
 exact fq (y:=some (bA ((x4.A7==Aaj)),[Ob.var 94 [AV.sl 4 (List.map A2 p_l),iA p_i,AV.mapp 1,iA p_e,iA p_at],Ob.mp none false (List.map A6 Ab)]))
 intro h;obtain rfl:=sj h
 try simp only[ls]
 exact fq (y:=some (bA false,[Ob.var 94 [AV.sl 4 (List.map A2 p_l),iA p_i,AV.mapp 1,iA p_e,iA p_at],Ob.mp none false (List.map A6 Ab)]))
 intro h;obtain rfl:=sj h
 try simp only[ls]
 exact fq (y:=some (bA false,[Ob.var 94 [AV.sl 4 (List.map A2 p_l),iA p_i,AV.mapp 1,iA p_e,iA p_at],Ob.mp none false (List.map A6 Ab)]))
theorem Y6 {n:Nat} ⦃C7:Int⦄ ⦃r:(Bh×Bool)⦄:Pw n C7=some r→CN n 78 [iA C7] []=some (AV.tup [AV.agg [sA r.1.f_word,sA r.1.f_form,bA r.1.f_body,bA r.1.f_more],bA r.2],[]):=by
 intro h;rcases n with _|n;cases h
 rw[Pw] at h
 refine Ai Try.func78 (by rfl) rfl rfl (Am rfl) ?_
 intro call hc;conv=>lhs;whnf
 revert h
 refine ca hc (fun _ h=>Sk h) ?_;intro y1
 refine br ?_ ?_
 exact rz
 refine br ?_ ?_
 exact rz
 refine ix ?_;intro x5
 exact rz
theorem Zk {n:Nat} ⦃r:Bh⦄:On n=some r→CN n 78 [iA (0)] []=some (AV.tup [AV.agg [sA r.f_word,sA r.f_form,bA r.f_body,bA r.f_more],bA false],[]):=by
 intro h;rcases n with _|n;cases h
 rw[On] at h
 refine Ai Try.func78 (by rfl) rfl rfl (Am rfl) ?_
 intro call hc;conv=>lhs;whnf
 revert h
 refine ca hc (fun _ h=>Sk h) ?_;intro y1
 exact rz
theorem Iq {n:Nat} ⦃E1:Int⦄ ⦃p_l:(List A5)⦄ ⦃p_i:Int⦄ ⦃p_e:Int⦄ ⦃p_at:Int⦄ ⦃Ab:(List ((List UInt8)×Int))⦄ ⦃r:Int⦄:E8 n E1 p_l p_i p_e p_at Ab=some r→CN n 58 [AV.ptr 0 0,iA E1] [Ob.var 94 [AV.sl 4 (List.map A2 p_l),iA p_i,AV.mapp 1,iA p_e,iA p_at],Ob.mp none false (List.map A6 Ab)]=some (iA r,[Ob.var 94 [AV.sl 4 (List.map A2 p_l),iA p_i,AV.mapp 1,iA p_e,iA p_at],Ob.mp none false (List.map A6 Ab)]):=by
 intro h;rcases n with _|n;cases h
 rw[E8] at h
 refine Ai Try.func58 (by rfl) rfl rfl (Am rfl) ?_
 intro call hc;conv=>lhs;whnf
 revert h
 refine br ?_ ?_
 refine ix ?_;intro x2
 intro h;cases sj h
 try simp only[ls]
 exact fq (y:=some (iA x2.Al,[Ob.var 94 [AV.sl 4 (List.map A2 p_l),iA p_i,AV.mapp 1,iA p_e,iA p_at],Ob.mp none false (List.map A6 Ab)]))
 refine br ?_ ?_
 refine ix ?_;intro x4
 refine ix ?_;intro x5
 intro h;cases sj h
 try simp only[ls]
 exact fq (y:=some (iA (IntKind.i64.wrap (x4.Al+((x5.A7.length:Nat):Int))),[Ob.var 94 [AV.sl 4 (List.map A2 p_l),iA p_i,AV.mapp 1,iA p_e,iA p_at],Ob.mp none false (List.map A6 Ab)]))
 intro h;cases sj h
 try simp only[ls]
 exact fq (y:=some (iA (0),[Ob.var 94 [AV.sl 4 (List.map A2 p_l),iA p_i,AV.mapp 1,iA p_e,iA p_at],Ob.mp none false (List.map A6 Ab)]))
theorem E7 {n:Nat} ⦃p_l:(List A5)⦄ ⦃p_i:Int⦄ ⦃p_e:Int⦄ ⦃p_at:Int⦄ ⦃Ab:(List ((List UInt8)×Int))⦄ ⦃r:(Int×Int)⦄:Cz n p_l p_i p_e p_at Ab=some r→CN n 83 [AV.ptr 0 0] [Ob.var 94 [AV.sl 4 (List.map A2 p_l),iA p_i,AV.mapp 1,iA p_e,iA p_at],Ob.mp none false (List.map A6 Ab)]=some (AV.tup [],[Ob.var 94 [AV.sl 4 (List.map A2 p_l),iA p_i,AV.mapp 1,iA r.1,iA r.2],Ob.mp none false (List.map A6 Ab)]):=by
 intro h;rcases n with _|n;cases h
 rw[Cz] at h
 refine Ai Try.func83 (by rfl) rfl rfl (Am rfl) ?_
 intro call hc;conv=>lhs;whnf
 revert h
 refine br ?_ ?_
 intro h;cases sj h
 try simp only[ls]
 exact fq (y:=some (AV.tup [],[Ob.var 94 [AV.sl 4 (List.map A2 p_l),iA p_i,AV.mapp 1,iA p_e,iA p_at],Ob.mp none false (List.map A6 Ab)]))
 refine ca hc (fun _ h=>Iq h) ?_;intro y2
 refine br ?_ ?_
 intro h;cases sj h
 try simp only[ls]
 exact fq (y:=some (AV.tup [],[Ob.var 94 [AV.sl 4 (List.map A2 p_l),iA p_i,AV.mapp 1,iA (6),iA y2],Ob.mp none false (List.map A6 Ab)]))
 intro h;cases sj h
 try simp only[ls]
 exact fq (y:=some (AV.tup [],[Ob.var 94 [AV.sl 4 (List.map A2 p_l),iA p_i,AV.mapp 1,iA (5),iA y2],Ob.mp none false (List.map A6 Ab)]))
theorem C9 {n:Nat} ⦃Jt:(List UInt8)⦄ ⦃p_l:(List A5)⦄ ⦃p_i:Int⦄ ⦃p_e:Int⦄ ⦃p_at:Int⦄ ⦃Ab:(List ((List UInt8)×Int))⦄ ⦃r:(Int×Int×Int)⦄:Bc n Jt p_l p_i p_e p_at Ab=some r→CN n 85 [AV.ptr 0 0,sA Jt] [Ob.var 94 [AV.sl 4 (List.map A2 p_l),iA p_i,AV.mapp 1,iA p_e,iA p_at],Ob.mp none false (List.map A6 Ab)]=some (AV.tup [],[Ob.var 94 [AV.sl 4 (List.map A2 p_l),iA r.1,AV.mapp 1,iA r.2.1,iA r.2.2],Ob.mp none false (List.map A6 Ab)]):=by
 intro h;rcases n with _|n;cases h
 rw[Bc] at h
 refine Ai Try.func85 (by rfl) rfl rfl (Am rfl) ?_
 intro call hc;conv=>lhs;whnf
 revert h
 refine br ?_ ?_
 intro h;cases sj h
 try simp only[ls]
 exact fq (y:=some (AV.tup [],[Ob.var 94 [AV.sl 4 (List.map A2 p_l),iA p_i,AV.mapp 1,iA p_e,iA p_at],Ob.mp none false (List.map A6 Ab)]))
 refine ca hc (fun _ h=>Ho h) ?_;intro y2
 refine br ?_ ?_
 intro h;cases sj h
 try simp only[ls]
 exact fq (y:=some (AV.tup [],[Ob.var 94 [AV.sl 4 (List.map A2 p_l),iA (IntKind.i64.wrap (p_i+1)),AV.mapp 1,iA p_e,iA p_at],Ob.mp none false (List.map A6 Ab)]))
 refine ca hc (fun _ h=>E7 h) ?_;intro y5
 intro h;cases sj h
 try simp only[ls]
 exact fq (y:=some (AV.tup [],[Ob.var 94 [AV.sl 4 (List.map A2 p_l),iA p_i,AV.mapp 1,iA y5.1,iA y5.2],Ob.mp none false (List.map A6 Ab)]))
theorem R5 {n:Nat} ⦃p_l:(List A5)⦄ ⦃p_i:Int⦄ ⦃p_e:Int⦄ ⦃p_at:Int⦄ ⦃Ab:(List ((List UInt8)×Int))⦄ ⦃r:((List UInt8)×Int×Int×Int)⦄:H0 n p_l p_i p_e p_at Ab=some r→CN n 92 [AV.ptr 0 0] [Ob.var 94 [AV.sl 4 (List.map A2 p_l),iA p_i,AV.mapp 1,iA p_e,iA p_at],Ob.mp none false (List.map A6 Ab)]=some (sA r.1,[Ob.var 94 [AV.sl 4 (List.map A2 p_l),iA r.2.1,AV.mapp 1,iA r.2.2.1,iA r.2.2.2],Ob.mp none false (List.map A6 Ab)]):=by
 intro h;rcases n with _|n;cases h
 rw[H0] at h
 refine Ai Try.func92 (by rfl) rfl rfl (Am rfl) ?_
 intro call hc;conv=>lhs;whnf
 revert h
 refine br ?_ ?_
 intro h;cases sj h
 try simp only[ls]
 exact fq (y:=some (sA (([]:List UInt8)),[Ob.var 94 [AV.sl 4 (List.map A2 p_l),iA p_i,AV.mapp 1,iA p_e,iA p_at],Ob.mp none false (List.map A6 Ab)]))
 refine br ?_ ?_
 refine ca hc (fun _ h=>E7 h) ?_;intro y3
 intro h;cases sj h
 try simp only[ls]
 exact fq (y:=some (sA (([]:List UInt8)),[Ob.var 94 [AV.sl 4 (List.map A2 p_l),iA p_i,AV.mapp 1,iA y3.1,iA y3.2],Ob.mp none false (List.map A6 Ab)]))
 refine ix ?_;intro x5
 refine br ?_ ?_
 refine ca hc (fun _ h=>E7 h) ?_;intro y7
 intro h;cases sj h
 try simp only[ls]
 exact fq (y:=some (sA (([]:List UInt8)),[Ob.var 94 [AV.sl 4 (List.map A2 p_l),iA p_i,AV.mapp 1,iA y7.1,iA y7.2],Ob.mp none false (List.map A6 Ab)]))
 refine ix ?_;intro x9
 refine ca hc (fun _ h=>Fi h) ?_;intro y10
 refine br ?_ ?_
 refine ix ?_;intro x13
 intro h;cases sj h
 try simp only[ls]
 exact fq (y:=some (sA x13.A7,[Ob.var 94 [AV.sl 4 (List.map A2 p_l),iA (IntKind.i64.wrap (p_i+1)),AV.mapp 1,iA p_e,iA p_at],Ob.mp none false (List.map A6 Ab)]))
 refine ca hc (fun _ h=>E7 h) ?_;intro y14
 intro h;cases sj h
 try simp only[ls]
 exact fq (y:=some (sA (([]:List UInt8)),[Ob.var 94 [AV.sl 4 (List.map A2 p_l),iA p_i,AV.mapp 1,iA y14.1,iA y14.2],Ob.mp none false (List.map A6 Ab)]))
theorem W5 {n:Nat} ⦃Fc:(List A5)⦄ ⦃I0:Int⦄ ⦃I1:Int⦄ ⦃G5:Int⦄ ⦃Fd:(List ((List UInt8)×Int))⦄ ⦃D8:Int⦄ ⦃E4:(List UInt8)⦄ ⦃E5:(List UInt8)⦄ ⦃Hu:(List A1)⦄ ⦃Hv:(List A1)⦄ ⦃G6:Bool⦄ ⦃D9:Int⦄ ⦃Da:Int⦄ ⦃Ew:Int⦄ ⦃r:(Int×Int×Int×(List UInt8))⦄:Ic n Fc I0 I1 G5 Fd D8 E4 E5 Hu Hv G6 D9 Da Ew=some r→CN n 91 [AV.ptr 0 0,AV.ptr 3 0] [Ob.var 91 [AV.ptr 1 0],Ob.var 94 [AV.sl 4 (List.map A2 Fc),iA I0,AV.mapp 2,iA I1,iA G5],Ob.mp none false (List.map A6 Fd),Ob.var 126 [AV.ptr 4 0],Ob.var 73 [iA D8,sA E4,sA E5,AV.sl 5 (List.map A0 Hu),AV.sl 5 (List.map A0 Hv),bA G6,iA D9,iA Da,iA Ew]]=some (AV.tup [],[Ob.var 91 [AV.ptr 1 0],Ob.var 94 [AV.sl 4 (List.map A2 Fc),iA r.1,AV.mapp 2,iA r.2.1,iA r.2.2.1],Ob.mp none false (List.map A6 Fd),Ob.var 126 [AV.ptr 4 0],Ob.var 73 [iA D8,sA r.2.2.2,sA E5,AV.sl 5 (List.map A0 Hu),AV.sl 5 (List.map A0 Hv),bA G6,iA D9,iA Da,iA Ew]]):=by
 intro h;rcases n with _|n;cases h
 rw[Ic] at h
 refine Ai Try.func91 (by rfl) rfl rfl (Am rfl) ?_
 intro call hc;conv=>lhs;whnf
 revert h
 refine ca hc (fun _ h=>R5 h) ?_;intro y1
 intro h;cases sj h
 try simp only[ls]
 exact fq (y:=some (AV.tup [],[Ob.var 91 [AV.ptr 1 0],Ob.var 94 [AV.sl 4 (List.map A2 Fc),iA y1.2.1,AV.mapp 2,iA y1.2.2.1,iA y1.2.2.2],Ob.mp none false (List.map A6 Fd),Ob.var 126 [AV.ptr 4 0],Ob.var 73 [iA D8,sA y1.1,sA E5,AV.sl 5 (List.map A0 Hu),AV.sl 5 (List.map A0 Hv),bA G6,iA D9,iA Da,iA Ew]]))
theorem Wd {n:Nat} ⦃Fc:(List A5)⦄ ⦃I0:Int⦄ ⦃I1:Int⦄ ⦃G5:Int⦄ ⦃Fd:(List ((List UInt8)×Int))⦄ ⦃D8:Int⦄ ⦃E4:(List UInt8)⦄ ⦃E5:(List UInt8)⦄ ⦃Hu:(List A1)⦄ ⦃Hv:(List A1)⦄ ⦃G6:Bool⦄ ⦃D9:Int⦄ ⦃Da:Int⦄ ⦃Ew:Int⦄ ⦃r:(Int×Int×Int×(List UInt8))⦄:Ib n Fc I0 I1 G5 Fd D8 E4 E5 Hu Hv G6 D9 Da Ew=some r→CN n 93 [AV.ptr 0 0,AV.ptr 3 0] [Ob.var 91 [AV.ptr 1 0],Ob.var 94 [AV.sl 4 (List.map A2 Fc),iA I0,AV.mapp 2,iA I1,iA G5],Ob.mp none false (List.map A6 Fd),Ob.var 126 [AV.ptr 4 0],Ob.var 73 [iA D8,sA E4,sA E5,AV.sl 5 (List.map A0 Hu),AV.sl 5 (List.map A0 Hv),bA G6,iA D9,iA Da,iA Ew]]=some (AV.tup [],[Ob.var 91 [AV.ptr 1 0],Ob.var 94 [AV.sl 4 (List.map A2 Fc),iA r.1,AV.mapp 2,iA r.2.1,iA r.2.2.1],Ob.mp none false (List.map A6 Fd),Ob.var 126 [AV.ptr 4 0],Ob.var 73 [iA D8,sA E4,sA r.2.2.2,AV.sl 5 (List.map A0 Hu),AV.sl 5 (List.map A0 Hv),bA G6,iA D9,iA Da,iA Ew]]):=by
 intro h;rcases n with _|n;cases h
 rw[Ib] at h
 refine Ai Try.func93 (by rfl) rfl rfl (Am rfl) ?_
 intro call hc;conv=>lhs;whnf
 revert h
 refine ca hc (fun _ h=>R5 h) ?_;intro y1
 intro h;cases sj h
 try simp only[ls]
 exact fq (y:=some (AV.tup [],[Ob.var 91 [AV.ptr 1 0],Ob.var 94 [AV.sl 4 (List.map A2 Fc),iA y1.2.1,AV.mapp 2,iA y1.2.2.1,iA y1.2.2.2],Ob.mp none false (List.map A6 Fd),Ob.var 126 [AV.ptr 4 0],Ob.var 73 [iA D8,sA E4,sA y1.1,AV.sl 5 (List.map A0 Hu),AV.sl 5 (List.map A0 Hv),bA G6,iA D9,iA Da,iA Ew]]))
theorem Yl {n:Nat} ⦃Ap:(List A1)⦄ ⦃r:Bool⦄:Lj n Ap=some r→CN n 82 [AV.sl 5 (List.map A0 Ap)] []=some (bA r,[]):=by
 intro h;rcases n with _|n;cases h
 rw[Lj] at h
 refine Ai Try.func82 (by rfl) rfl rfl (Am rfl) ?_
 intro call hc;conv=>lhs;whnf
 revert h
 refine ca hc (fun _ h=>Yv h) ?_;intro y1
 intro h;refine Av h ?_;clear h;intro o11 ho11 h
 refine lq (σ:=Int) (τ:=Unit) (ν:=Bool) 0 (fun s3 a5=>Bg 18 [(0,AV.sl 5 (List.map A0 Ap)),(6,AV.sl 5 (List.map A0 y1)),(7,iA (((y1.length:Nat):Int))),(8,iA s3)]) (fun s3 a5=>[]) (fun _ a15=>Bg 18 [(0,AV.sl 5 (List.map A0 Ap))]) (fun _ a15=>[]) (fun v=>(bA v,[])) (fun k s=>Hq n y1 k s) (fun s=>rfl) o11 n 0 (fun _=>0) ho11 ?_ ?_
 intro k4 s3 a5 K6 cont7 hK8 hcont9 h hr10
 replace h:Hq n y1 (k4+1) s3=some o11:=h
 rw[Hq] at h
 conv=>lhs;whnf
 revert h
 refine br ?_ ?_
 refine ix ?_;intro x13
 refine br ?_ ?_
 intro h;cases sj h
 refine(hK8 _ _).trans ?_
 refine Eq.trans ?_ (Eq.symm (show _=some _ from hr10))
 conv=>lhs;whnf
 exact rq
 exact fun h=>cq (hcont9 (IntKind.i64.wrap (s3+1)) (fun _=>0) h)
 intro h;cases sj h
 exact kq (hr10 (fun _=>0))
 refine lrc ?_ ?_
 intro v e;subst e;cases sj h;rfl
 intro t a15 e;subst e
 dsimp only at h
 conv=>lhs;whnf
 revert h
 refine ca hc (fun _ h=>Ss h) ?_;intro y16
 exact rz
theorem R4 {n:Nat} ⦃p_l:(List A5)⦄ ⦃p_i:Int⦄ ⦃p_e:Int⦄ ⦃p_at:Int⦄ ⦃Ab:(List ((List UInt8)×Int))⦄ ⦃r:((List A1)×Int×Int×Int)⦄:Gz n p_l p_i p_e p_at Ab=some r→CN n 95 [AV.ptr 0 0] [Ob.var 94 [AV.sl 4 (List.map A2 p_l),iA p_i,AV.mapp 1,iA p_e,iA p_at],Ob.mp none false (List.map A6 Ab)]=some (AV.sl 5 (List.map A0 r.1),[Ob.var 94 [AV.sl 4 (List.map A2 p_l),iA r.2.1,AV.mapp 1,iA r.2.2.1,iA r.2.2.2],Ob.mp none false (List.map A6 Ab)]):=by
 intro h;rcases n with _|n;cases h
 rw[Gz] at h
 refine Ai Try.func95 (by rfl) rfl rfl (Am rfl) ?_
 intro call hc;conv=>lhs;whnf
 revert h
 refine br ?_ ?_
 intro h;cases sj h
 try simp only[ls]
 exact fq (y:=some (AV.sl 5 [],[Ob.var 94 [AV.sl 4 (List.map A2 p_l),iA p_i,AV.mapp 1,iA p_e,iA p_at],Ob.mp none false (List.map A6 Ab)]))
 refine ca hc (fun _ h=>Yt h) ?_;intro y2
 refine br ?_ ?_
 intro h;cases sj h
 try simp only[ls]
 exact fq (y:=some (AV.sl 5 [],[Ob.var 94 [AV.sl 4 (List.map A2 p_l),iA p_i,AV.mapp 1,iA y2.2.2.1,iA y2.2.2.2],Ob.mp none false (List.map A6 Ab)]))
 refine ca hc (fun _ h=>Yl h) ?_;intro y5
 refine br ?_ ?_
 intro h;cases sj h
 try simp only[ls]
 exact fq (y:=some (AV.sl 5 (List.map A0 y2.1),[Ob.var 94 [AV.sl 4 (List.map A2 p_l),iA y2.2.1,AV.mapp 1,iA p_e,iA p_at],Ob.mp none false (List.map A6 Ab)]))
 refine ca hc (fun _ h=>E7 h) ?_;intro y8
 intro h;cases sj h
 try simp only[ls]
 exact fq (y:=some (AV.sl 5 [],[Ob.var 94 [AV.sl 4 (List.map A2 p_l),iA p_i,AV.mapp 1,iA y8.1,iA y8.2],Ob.mp none false (List.map A6 Ab)]))
theorem Wg {n:Nat} ⦃Fc:(List A5)⦄ ⦃I0:Int⦄ ⦃I1:Int⦄ ⦃G5:Int⦄ ⦃Fd:(List ((List UInt8)×Int))⦄ ⦃D8:Int⦄ ⦃E4:(List UInt8)⦄ ⦃E5:(List UInt8)⦄ ⦃Hu:(List A1)⦄ ⦃Hv:(List A1)⦄ ⦃G6:Bool⦄ ⦃D9:Int⦄ ⦃Da:Int⦄ ⦃Ew:Int⦄ ⦃r:(Int×Int×Int×(List A1))⦄:Ie n Fc I0 I1 G5 Fd D8 E4 E5 Hu Hv G6 D9 Da Ew=some r→CN n 94 [AV.ptr 0 0,AV.ptr 3 0] [Ob.var 91 [AV.ptr 1 0],Ob.var 94 [AV.sl 4 (List.map A2 Fc),iA I0,AV.mapp 2,iA I1,iA G5],Ob.mp none false (List.map A6 Fd),Ob.var 126 [AV.ptr 4 0],Ob.var 73 [iA D8,sA E4,sA E5,AV.sl 5 (List.map A0 Hu),AV.sl 5 (List.map A0 Hv),bA G6,iA D9,iA Da,iA Ew]]=some (AV.tup [],[Ob.var 91 [AV.ptr 1 0],Ob.var 94 [AV.sl 4 (List.map A2 Fc),iA r.1,AV.mapp 2,iA r.2.1,iA r.2.2.1],Ob.mp none false (List.map A6 Fd),Ob.var 126 [AV.ptr 4 0],Ob.var 73 [iA D8,sA E4,sA E5,AV.sl 5 (List.map A0 r.2.2.2),AV.sl 5 (List.map A0 Hv),bA G6,iA D9,iA Da,iA Ew]]):=by
 intro h;rcases n with _|n;cases h
 rw[Ie] at h
 refine Ai Try.func94 (by rfl) rfl rfl (Am rfl) ?_
 intro call hc;conv=>lhs;whnf
 revert h
 refine ca hc (fun _ h=>R4 h) ?_;intro y1
 intro h;cases sj h
 try simp only[ls]
 exact fq (y:=some (AV.tup [],[Ob.var 91 [AV.ptr 1 0],Ob.var 94 [AV.sl 4 (List.map A2 Fc),iA y1.2.1,AV.mapp 2,iA y1.2.2.1,iA y1.2.2.2],Ob.mp none false (List.map A6 Fd),Ob.var 126 [AV.ptr 4 0],Ob.var 73 [iA D8,sA E4,sA E5,AV.sl 5 (List.map A0 y1.1),AV.sl 5 (List.map A0 Hv),bA G6,iA D9,iA Da,iA Ew]]))
theorem We {n:Nat} ⦃Fc:(List A5)⦄ ⦃I0:Int⦄ ⦃I1:Int⦄ ⦃G5:Int⦄ ⦃Fd:(List ((List UInt8)×Int))⦄ ⦃D8:Int⦄ ⦃E4:(List UInt8)⦄ ⦃E5:(List UInt8)⦄ ⦃Hu:(List A1)⦄ ⦃Hv:(List A1)⦄ ⦃G6:Bool⦄ ⦃D9:Int⦄ ⦃Da:Int⦄ ⦃Ew:Int⦄ ⦃r:(Int×Int×Int×(List A1))⦄:Ig n Fc I0 I1 G5 Fd D8 E4 E5 Hu Hv G6 D9 Da Ew=some r→CN n 96 [AV.ptr 0 0,AV.ptr 3 0] [Ob.var 91 [AV.ptr 1 0],Ob.var 94 [AV.sl 4 (List.map A2 Fc),iA I0,AV.mapp 2,iA I1,iA G5],Ob.mp none false (List.map A6 Fd),Ob.var 126 [AV.ptr 4 0],Ob.var 73 [iA D8,sA E4,sA E5,AV.sl 5 (List.map A0 Hu),AV.sl 5 (List.map A0 Hv),bA G6,iA D9,iA Da,iA Ew]]=some (AV.tup [],[Ob.var 91 [AV.ptr 1 0],Ob.var 94 [AV.sl 4 (List.map A2 Fc),iA r.1,AV.mapp 2,iA r.2.1,iA r.2.2.1],Ob.mp none false (List.map A6 Fd),Ob.var 126 [AV.ptr 4 0],Ob.var 73 [iA D8,sA E4,sA E5,AV.sl 5 (List.map A0 Hu),AV.sl 5 (List.map A0 r.2.2.2),bA G6,iA D9,iA Da,iA Ew]]):=by
 intro h;rcases n with _|n;cases h
 rw[Ig] at h
 refine Ai Try.func96 (by rfl) rfl rfl (Am rfl) ?_
 intro call hc;conv=>lhs;whnf
 revert h
 refine ca hc (fun _ h=>R4 h) ?_;intro y1
 intro h;cases sj h
 try simp only[ls]
 exact fq (y:=some (AV.tup [],[Ob.var 91 [AV.ptr 1 0],Ob.var 94 [AV.sl 4 (List.map A2 Fc),iA y1.2.1,AV.mapp 2,iA y1.2.2.1,iA y1.2.2.2],Ob.mp none false (List.map A6 Fd),Ob.var 126 [AV.ptr 4 0],Ob.var 73 [iA D8,sA E4,sA E5,AV.sl 5 (List.map A0 Hu),AV.sl 5 (List.map A0 y1.1),bA G6,iA D9,iA Da,iA Ew]]))
theorem Wc {n:Nat} ⦃Fc:(List A5)⦄ ⦃I0:Int⦄ ⦃I1:Int⦄ ⦃G5:Int⦄ ⦃Fd:(List ((List UInt8)×Int))⦄ ⦃D8:Int⦄ ⦃E4:(List UInt8)⦄ ⦃E5:(List UInt8)⦄ ⦃Hu:(List A1)⦄ ⦃Hv:(List A1)⦄ ⦃G6:Bool⦄ ⦃D9:Int⦄ ⦃Da:Int⦄ ⦃Ew:Int⦄ ⦃r:(Int×Int×Int×Bool)⦄:Ia n Fc I0 I1 G5 Fd D8 E4 E5 Hu Hv G6 D9 Da Ew=some r→CN n 97 [AV.ptr 0 0,AV.ptr 3 0] [Ob.var 91 [AV.ptr 1 0],Ob.var 94 [AV.sl 4 (List.map A2 Fc),iA I0,AV.mapp 2,iA I1,iA G5],Ob.mp none false (List.map A6 Fd),Ob.var 126 [AV.ptr 4 0],Ob.var 73 [iA D8,sA E4,sA E5,AV.sl 5 (List.map A0 Hu),AV.sl 5 (List.map A0 Hv),bA G6,iA D9,iA Da,iA Ew]]=some (AV.tup [],[Ob.var 91 [AV.ptr 1 0],Ob.var 94 [AV.sl 4 (List.map A2 Fc),iA r.1,AV.mapp 2,iA r.2.1,iA r.2.2.1],Ob.mp none false (List.map A6 Fd),Ob.var 126 [AV.ptr 4 0],Ob.var 73 [iA D8,sA E4,sA E5,AV.sl 5 (List.map A0 Hu),AV.sl 5 (List.map A0 Hv),bA r.2.2.2,iA D9,iA Da,iA Ew]]):=by
 intro h;rcases n with _|n;cases h
 rw[Ia] at h
 refine Ai Try.func97 (by rfl) rfl rfl (Am rfl) ?_
 intro call hc;conv=>lhs;whnf
 revert h
 refine ca hc (fun _ h=>Ho h) ?_;intro y1
 refine br ?_ ?_
 intro h;cases sj h
 try simp only[ls]
 exact fq (y:=some (AV.tup [],[Ob.var 91 [AV.ptr 1 0],Ob.var 94 [AV.sl 4 (List.map A2 Fc),iA (IntKind.i64.wrap (I0+1)),AV.mapp 2,iA I1,iA G5],Ob.mp none false (List.map A6 Fd),Ob.var 126 [AV.ptr 4 0],Ob.var 73 [iA D8,sA E4,sA E5,AV.sl 5 (List.map A0 Hu),AV.sl 5 (List.map A0 Hv),bA true,iA D9,iA Da,iA Ew]]))
 refine ca hc (fun _ h=>C9 h) ?_;intro y4
 intro h;cases sj h
 try simp only[ls]
 exact fq (y:=some (AV.tup [],[Ob.var 91 [AV.ptr 1 0],Ob.var 94 [AV.sl 4 (List.map A2 Fc),iA y4.1,AV.mapp 2,iA y4.2.1,iA y4.2.2],Ob.mp none false (List.map A6 Fd),Ob.var 126 [AV.ptr 4 0],Ob.var 73 [iA D8,sA E4,sA E5,AV.sl 5 (List.map A0 Hu),AV.sl 5 (List.map A0 Hv),bA false,iA D9,iA Da,iA Ew]]))
def Lv (n:Nat):Prop:=∀ ⦃Ep:Int⦄ ⦃p_l:(List A5)⦄ ⦃p_i:Int⦄ ⦃p_e:Int⦄ ⦃p_at:Int⦄ ⦃Ab:(List ((List UInt8)×Int))⦄ ⦃r:((List A3)×Int×Int×Int)⦄,Bn n Ep p_l p_i p_e p_at Ab=some r→CN n 86 [AV.ptr 0 0,iA Ep] [Ob.var 94 [AV.sl 4 (List.map A2 p_l),iA p_i,AV.mapp 1,iA p_e,iA p_at],Ob.mp none false (List.map A6 Ab)]=some (AV.sl 9 (List.map Aa r.1),[Ob.var 94 [AV.sl 4 (List.map A2 p_l),iA r.2.1,AV.mapp 1,iA r.2.2.1,iA r.2.2.2],Ob.mp none false (List.map A6 Ab)])
def Jf (n:Nat):Prop:=∀ ⦃Ep:Int⦄ ⦃p_l:(List A5)⦄ ⦃p_i:Int⦄ ⦃p_e:Int⦄ ⦃p_at:Int⦄ ⦃Ab:(List ((List UInt8)×Int))⦄ ⦃r:((List A3)×Int×Int×Int)⦄,C0 n Ep p_l p_i p_e p_at Ab=some r→CN n 57 [AV.ptr 0 0,iA Ep] [Ob.var 94 [AV.sl 4 (List.map A2 p_l),iA p_i,AV.mapp 1,iA p_e,iA p_at],Ob.mp none false (List.map A6 Ab)]=some (AV.sl 9 (List.map Aa r.1),[Ob.var 94 [AV.sl 4 (List.map A2 p_l),iA r.2.1,AV.mapp 1,iA r.2.2.1,iA r.2.2.2],Ob.mp none false (List.map A6 Ab)])
def No (n:Nat):Prop:=∀ ⦃Ep:Int⦄ ⦃p_l:(List A5)⦄ ⦃p_i:Int⦄ ⦃p_e:Int⦄ ⦃p_at:Int⦄ ⦃Ab:(List ((List UInt8)×Int))⦄ ⦃r:((List A3)×Int×Int×Int)⦄,Bq n Ep p_l p_i p_e p_at Ab=some r→CN n 73 [AV.ptr 0 0,iA Ep] [Ob.var 94 [AV.sl 4 (List.map A2 p_l),iA p_i,AV.mapp 1,iA p_e,iA p_at],Ob.mp none false (List.map A6 Ab)]=some (AV.sl 9 (List.map Aa r.1),[Ob.var 94 [AV.sl 4 (List.map A2 p_l),iA r.2.1,AV.mapp 1,iA r.2.2.1,iA r.2.2.2],Ob.mp none false (List.map A6 Ab)])
def Iu (n:Nat):Prop:=Lv n∧Jf n∧No n
theorem Xy (n:Nat) (ih:Iu n):Lv (n+1):=by
 intro Ep p_l p_i p_e p_at Ab r h
 rw[Bn] at h
 refine Ai Try.func86 (by rfl) rfl rfl (Am rfl) ?_
 intro call hc;conv=>lhs;whnf
 revert h
 refine br ?_ ?_
 refine ca hc (fun _ h=>Ho h) ?_;intro y2
 refine br ?_ ?_
 refine br ?_ ?_
 refine ca hc (fun _ h=>Iq h) ?_;intro y6
 refine ca hc (fun _ h=>C9 h) ?_;intro y8
 refine ca hc (fun _ h=>ih.2.1 h) ?_;intro y10
 refine ca hc (fun _ h=>C9 h) ?_;intro y12
 intro h;cases sj h
 try simp only[ls]
 exact fq (y:=some (AV.sl 9 (List.map Aa y10.1),[Ob.var 94 [AV.sl 4 (List.map A2 p_l),iA y12.1,AV.mapp 1,iA y12.2.1,iA y12.2.2],Ob.mp none false (List.map A6 Ab)]))
 refine ca hc (fun _ h=>C9 h) ?_;intro y14
 refine ca hc (fun _ h=>ih.2.1 h) ?_;intro y16
 refine ca hc (fun _ h=>C9 h) ?_;intro y18
 intro h;cases sj h
 try simp only[ls]
 exact fq (y:=some (AV.sl 9 (List.map Aa y16.1),[Ob.var 94 [AV.sl 4 (List.map A2 p_l),iA y18.1,AV.mapp 1,iA y18.2.1,iA y18.2.2],Ob.mp none false (List.map A6 Ab)]))
 refine ca hc (fun _ h=>C9 h) ?_;intro y20
 refine ca hc (fun _ h=>ih.2.1 h) ?_;intro y22
 refine ca hc (fun _ h=>C9 h) ?_;intro y24
 intro h;cases sj h
 try simp only[ls]
 exact fq (y:=some (AV.sl 9 (List.map Aa y22.1),[Ob.var 94 [AV.sl 4 (List.map A2 p_l),iA y24.1,AV.mapp 1,iA y24.2.1,iA y24.2.2],Ob.mp none false (List.map A6 Ab)]))
 refine ca hc (fun _ h=>C9 h) ?_;intro y26
 refine ca hc (fun _ h=>ih.2.1 h) ?_;intro y28
 refine ca hc (fun _ h=>C9 h) ?_;intro y30
 intro h;cases sj h
 try simp only[ls]
 exact fq (y:=some (AV.sl 9 (List.map Aa y28.1),[Ob.var 94 [AV.sl 4 (List.map A2 p_l),iA y30.1,AV.mapp 1,iA y30.2.1,iA y30.2.2],Ob.mp none false (List.map A6 Ab)]))
theorem Z1 (n:Nat) (ih:Iu n):Jf (n+1):=by
 intro Ep p_l p_i p_e p_at Ab r h
 rw[C0] at h
 refine Ai Try.func57 (by rfl) rfl rfl (Am rfl) ?_
 intro call hc;conv=>lhs;whnf
 revert h
 intro h;refine Av h ?_;clear h;intro o12 ho12 h
 refine lq (σ:=(Int×Int×Int×(List A3))) (τ:=(Int×Int×Int×(List A3))) (ν:=((List A3)×Int×Int×Int)) 0 (fun(s1,s2,s3,s4) a6=>Bg 34 [(0,AV.ptr 0 0),(1,iA Ep),(5,AV.row 2 (List.length s4))]) (fun(s1,s2,s3,s4) a6=>[Ob.var 94 [AV.sl 4 (List.map A2 p_l),iA s1,AV.mapp 1,iA s2,iA s3],Ob.mp none false (List.map A6 Ab),Ob.row 73 9 (List.map Aa s4)]) (fun(x23,x24,x25,x26) a22=>Bg 34 [(5,AV.row 2 (List.length x26))]) (fun(x23,x24,x25,x26) a22=>[Ob.var 94 [AV.sl 4 (List.map A2 p_l),iA x23,AV.mapp 1,iA x24,iA x25],Ob.mp none false (List.map A6 Ab),Ob.row 73 9 (List.map Aa x26)]) (fun v=>(AV.sl 9 (List.map Aa v.1),[Ob.var 94 [AV.sl 4 (List.map A2 p_l),iA v.2.1,AV.mapp 1,iA v.2.2.1,iA v.2.2.2],Ob.mp none false (List.map A6 Ab)])) (fun k s=>C4 n (Bq n) Ep p_l Ab k s.1 s.2.1 s.2.2.1 s.2.2.2) (fun s=>rfl) o12 n (p_i,p_e,p_at,([]:List A3)) (fun _=>0) ho12 ?_ ?_
 intro k5 ss a6 K7 cont8 hK9 hcont10 h hr11
 obtain⟨s1,s2,s3,s4⟩:=ss
 replace h:C4 n (Bq n) Ep p_l Ab (k5+1) s1 s2 s3 s4=some o12:=h
 rw[C4] at h
 conv=>lhs;whnf
 revert h
 refine br ?_ ?_
 refine br ?_ ?_
 refine ca hc (fun _ h=>Ho h) ?_;intro y15
 refine br ?_ ?_
 intro h;cases sj h
 exact kq (hr11 (fun _=>0))
 refine ca hc (fun _ h=>ih.2.2 h) ?_;intro y18
 refine ar (ap Aa (List.map Aa s4) s4 (List.map Aa y18.1) y18.1) ?_
 exact fun h=>cq (hcont10 (y18.2.1,y18.2.2.1,y18.2.2.2,(s4++y18.1)) (fun _=>0) h)
 intro h;cases sj h
 exact kq (hr11 (fun _=>0))
 intro h;cases sj h
 exact kq (hr11 (fun _=>0))
 refine lrc ?_ ?_
 intro v e;subst e;cases sj h;rfl
 intro t a22 e;subst e
 obtain⟨x23,x24,x25,x26⟩:=t
 dsimp only at h
 conv=>lhs;whnf
 revert h
 intro h;cases sj h
 try simp only[ls]
 exact fq (y:=some (AV.sl 9 (List.take (List.length x26) (List.map Aa x26)),[Ob.var 94 [AV.sl 4 (List.map A2 p_l),iA x23,AV.mapp 1,iA x24,iA x25],Ob.mp none false (List.map A6 Ab)]))
theorem A0a (n:Nat) (ih:Iu n):No (n+1):=by
 intro Ep p_l p_i p_e p_at Ab r h
 rw[Bq] at h
 refine Vb Try.func73 (by rfl) rfl rfl (Am rfl) ?_
 intro call hc hcA;conv=>lhs;whnf
 revert h
 refine br ?_ ?_
 refine ix ?_;intro x2
 refine br ?_ ?_
 refine ix ?_;intro x4
 intro h
 simp only[Uw,ls]
 conv=>lhs;whnf
 revert h
 refine ca hc (fun _ h=>Y6 h) ?_;intro y5
 refine br ?_ ?_
 refine ca hc (fun _ h=>Iq h) ?_;intro y8
 intro h
 obtain⟨n10,hn14,h⟩:=Ku h
 obtain⟨call11,hc12,ho13⟩:=Hc (f:=84) (args:=[AV.ptr 0 0,AV.ptr 2 0]) (hp:=[Ob.var 94 [AV.sl 4 (List.map A2 p_l),iA (IntKind.i64.wrap (p_i+1)),AV.mapp 1,iA p_e,iA p_at],Ob.mp none false (List.map A6 Ab),Ob.var 73 [iA ((B6 Ab x4.A7 0)),sA (([]:List UInt8)),sA (([]:List UInt8)),AV.sl 5 [],AV.sl 5 [],bA false,iA (0),iA (0),iA y8]]) hcA hn14 Try.func84 (by rfl) rfl rfl (Am rfl)
 try simp only[ls]
 simp only[ho13]
 conv=>lhs;whnf
 revert h
 intro h;refine Av h ?_;clear h;intro o31 ho31 h
 refine lq (σ:=(Int×Int×Int×Int×(List UInt8)×(List UInt8)×(List A1)×(List A1)×Bool)) (τ:=(Int×Int×Int×(List UInt8)×(List UInt8)×(List A1)×(List A1)×Bool)) (ν:=((List A3)×Int×Int×Int)) 0 (fun(s15,s16,s17,s18,s19,s20,s21,s22,s23) a25=>Bg 157 [(0,AV.ptr 0 0),(1,iA Ep),(6,AV.ptr 2 0),(8,AV.ptr 3 0),(9,AV.mapp 6),(84,iA (((y5.1.f_form.length:Nat):Int))),(85,iA s15)]) (fun(s15,s16,s17,s18,s19,s20,s21,s22,s23) a25=>[Ob.var 94 [AV.sl 4 (List.map A2 p_l),iA s16,AV.mapp 1,iA s17,iA s18],Ob.mp none false (List.map A6 Ab),Ob.var 98 [sA y5.1.f_word,sA y5.1.f_form,bA y5.1.f_body,bA y5.1.f_more],Ob.var 73 [iA ((B6 Ab x4.A7 0)),sA s19,sA s20,AV.sl 5 (List.map A0 s21),AV.sl 5 (List.map A0 s22),bA s23,iA (0),iA (0),iA y8],Ob.var 91 [AV.ptr 0 0],Ob.var 126 [AV.ptr 3 0],Ob.mpo (some .u8) [[AV.int .u8 (114),AV.func 91 [] [AV.ptr 4 0,AV.ptr 5 0]],[AV.int .u8 (108),AV.func 93 [] [AV.ptr 4 0,AV.ptr 5 0]],[AV.int .u8 (101),AV.func 94 [] [AV.ptr 4 0,AV.ptr 5 0]],[AV.int .u8 (102),AV.func 96 [] [AV.ptr 4 0,AV.ptr 5 0]],[AV.int .u8 (113),AV.func 97 [] [AV.ptr 4 0,AV.ptr 5 0]]]]) (fun(x73,x74,x75,x76,x77,x78,x79,x80) a72=>Bg 157 [(0,AV.ptr 0 0),(1,iA Ep),(6,AV.ptr 2 0),(8,AV.ptr 3 0)]) (fun(x73,x74,x75,x76,x77,x78,x79,x80) a72=>[Ob.var 94 [AV.sl 4 (List.map A2 p_l),iA x73,AV.mapp 1,iA x74,iA x75],Ob.mp none false (List.map A6 Ab),Ob.var 98 [sA y5.1.f_word,sA y5.1.f_form,bA y5.1.f_body,bA y5.1.f_more],Ob.var 73 [iA ((B6 Ab x4.A7 0)),sA x76,sA x77,AV.sl 5 (List.map A0 x78),AV.sl 5 (List.map A0 x79),bA x80,iA (0),iA (0),iA y8],Ob.var 91 [AV.ptr 0 0],Ob.var 126 [AV.ptr 3 0],Ob.mpo (some .u8) [[AV.int .u8 (114),AV.func 91 [] [AV.ptr 4 0,AV.ptr 5 0]],[AV.int .u8 (108),AV.func 93 [] [AV.ptr 4 0,AV.ptr 5 0]],[AV.int .u8 (101),AV.func 94 [] [AV.ptr 4 0,AV.ptr 5 0]],[AV.int .u8 (102),AV.func 96 [] [AV.ptr 4 0,AV.ptr 5 0]],[AV.int .u8 (113),AV.func 97 [] [AV.ptr 4 0,AV.ptr 5 0]]]]) (fun v=>(AV.sl 9 (List.map Aa v.1),[Ob.var 94 [AV.sl 4 (List.map A2 p_l),iA v.2.1,AV.mapp 1,iA v.2.2.1,iA v.2.2.2],Ob.mp none false (List.map A6 Ab)])) (fun k s=>Az n p_l Ab x4 y5 y8 k s.1 s.2.1 s.2.2.1 s.2.2.2.1 s.2.2.2.2.1 s.2.2.2.2.2.1 s.2.2.2.2.2.2.1 s.2.2.2.2.2.2.2.1 s.2.2.2.2.2.2.2.2) (fun s=>rfl) o31 n (0,IntKind.i64.wrap (p_i+1),p_e,p_at,([]:List UInt8),([]:List UInt8),([]:List A1),([]:List A1),false) (fun _=>0) ho31 ?_ ?_
 intro k24 ss a25 K26 cont27 hK28 hcont29 h hr30
 obtain⟨s15,s16,s17,s18,s19,s20,s21,s22,s23⟩:=ss
 replace h:Az n p_l Ab x4 y5 y8 (k24+1) s15 s16 s17 s18 s19 s20 s21 s22 s23=some o31:=h
 rw[Az] at h
 conv=>lhs;whnf
 revert h
 refine br ?_ ?_
 refine ixs ?_;intro x33
 refine br ?_ ?_
 refine br ?_ ?_
 refine ca hc (fun _ h=>W5 h) ?_;intro y36
 exact fun h=>cq (hcont29 (IntKind.i64.wrap (s15+1),y36.1,y36.2.1,y36.2.2.1,y36.2.2.2,s20,s21,s22,s23) (fun _=>0) h)
 refine cp ?_
 refine cr hc (fun _ h=>C9 h) ?_;intro y39
 exact fun h=>cq (hcont29 (IntKind.i64.wrap (s15+1),y39.1,y39.2.1,y39.2.2,s19,s20,s21,s22,s23) (fun _=>0) h)
 refine br ?_ ?_
 refine br ?_ ?_
 refine ca hc (fun _ h=>Wd h) ?_;intro y43
 exact fun h=>cq (hcont29 (IntKind.i64.wrap (s15+1),y43.1,y43.2.1,y43.2.2.1,s19,y43.2.2.2,s21,s22,s23) (fun _=>0) h)
 refine cp ?_
 refine cr hc (fun _ h=>C9 h) ?_;intro y46
 exact fun h=>cq (hcont29 (IntKind.i64.wrap (s15+1),y46.1,y46.2.1,y46.2.2,s19,s20,s21,s22,s23) (fun _=>0) h)
 refine br ?_ ?_
 refine br ?_ ?_
 refine ca hc (fun _ h=>Wg h) ?_;intro y50
 exact fun h=>cq (hcont29 (IntKind.i64.wrap (s15+1),y50.1,y50.2.1,y50.2.2.1,s19,s20,y50.2.2.2,s22,s23) (fun _=>0) h)
 refine cp ?_
 refine cr hc (fun _ h=>C9 h) ?_;intro y53
 exact fun h=>cq (hcont29 (IntKind.i64.wrap (s15+1),y53.1,y53.2.1,y53.2.2,s19,s20,s21,s22,s23) (fun _=>0) h)
 refine br ?_ ?_
 refine br ?_ ?_
 refine ca hc (fun _ h=>We h) ?_;intro y57
 exact fun h=>cq (hcont29 (IntKind.i64.wrap (s15+1),y57.1,y57.2.1,y57.2.2.1,s19,s20,s21,y57.2.2.2,s23) (fun _=>0) h)
 refine cp ?_
 refine cr hc (fun _ h=>C9 h) ?_;intro y60
 exact fun h=>cq (hcont29 (IntKind.i64.wrap (s15+1),y60.1,y60.2.1,y60.2.2,s19,s20,s21,s22,s23) (fun _=>0) h)
 refine br ?_ ?_
 refine br ?_ ?_
 refine ca hc (fun _ h=>Wc h) ?_;intro y64
 exact fun h=>cq (hcont29 (IntKind.i64.wrap (s15+1),y64.1,y64.2.1,y64.2.2.1,s19,s20,s21,s22,y64.2.2.2) (fun _=>0) h)
 refine cp ?_
 refine cr hc (fun _ h=>C9 h) ?_;intro y67
 exact fun h=>cq (hcont29 (IntKind.i64.wrap (s15+1),y67.1,y67.2.1,y67.2.2,s19,s20,s21,s22,s23) (fun _=>0) h)
 refine cp ?_
 refine cr hc (fun _ h=>C9 h) ?_;intro y70
 exact fun h=>cq (hcont29 (IntKind.i64.wrap (s15+1),y70.1,y70.2.1,y70.2.2,s19,s20,s21,s22,s23) (fun _=>0) h)
 intro h;cases sj h
 exact kq (hr30 (fun _=>0))
 refine lrc ?_ ?_
 intro v e;subst e;cases sj h;rfl
 intro t a72 e;subst e
 obtain⟨x73,x74,x75,x76,x77,x78,x79,x80⟩:=t
 dsimp only at h
 conv=>lhs;whnf
 revert h
 refine br ?_ ?_
 refine ca hc (fun _ h=>ih.1 h) ?_;intro y82
 refine br ?_ ?_
 refine br ?_ ?_
 refine ca hc (fun _ h=>Ho h) ?_;intro y86
 refine br ?_ ?_
 refine ca hc (fun _ h=>ih.1 h) ?_;intro y89
 refine ar (ap Aa ([[iA ((B6 Ab x4.A7 0)),sA x76,sA x77,AV.sl 5 (List.map A0 x78),AV.sl 5 (List.map A0 x79),bA x80,iA (((y82.1.length:Nat):Int)),iA (((y89.1.length:Nat):Int)),iA y8]]) ([(⟨(B6 Ab x4.A7 0),x76,x77,x78,x79,x80,((y82.1.length:Nat):Int),((y89.1.length:Nat):Int),y8⟩:A3)]:List A3) (List.map Aa y82.1) y82.1) ?_
 refine ar (ap Aa (List.map Aa (([(⟨(B6 Ab x4.A7 0),x76,x77,x78,x79,x80,((y82.1.length:Nat):Int),((y89.1.length:Nat):Int),y8⟩:A3)]:List A3)++y82.1)) (([(⟨(B6 Ab x4.A7 0),x76,x77,x78,x79,x80,((y82.1.length:Nat):Int),((y89.1.length:Nat):Int),y8⟩:A3)]:List A3)++y82.1) (List.map Aa y89.1) y89.1) ?_
 intro h;cases sj h
 try simp only[ls]
 exact fq (y:=some (AV.sl 9 (List.take (List.length (((([(⟨(B6 Ab x4.A7 0),x76,x77,x78,x79,x80,((y82.1.length:Nat):Int),((y89.1.length:Nat):Int),y8⟩:A3)]:List A3)++y82.1)++y89.1))) (List.map Aa ((([(⟨(B6 Ab x4.A7 0),x76,x77,x78,x79,x80,((y82.1.length:Nat):Int),((y89.1.length:Nat):Int),y8⟩:A3)]:List A3)++y82.1)++y89.1))),[Ob.var 94 [AV.sl 4 (List.map A2 p_l),iA y89.2.1,AV.mapp 1,iA y89.2.2.1,iA y89.2.2.2],Ob.mp none false (List.map A6 Ab)]))
 refine ar (ap Aa ([[iA ((B6 Ab x4.A7 0)),sA x76,sA x77,AV.sl 5 (List.map A0 x78),AV.sl 5 (List.map A0 x79),bA x80,iA (((y82.1.length:Nat):Int)),iA (0),iA y8]]) ([(⟨(B6 Ab x4.A7 0),x76,x77,x78,x79,x80,((y82.1.length:Nat):Int),0,y8⟩:A3)]:List A3) (List.map Aa y82.1) y82.1) ?_
 intro h
 refine B0 h ?_;clear h;intro hc99 h
 first|refine B1 (Wz hc99 (by first|rfl|simp only [Bd]) (by first|rfl|simp only [Bd]) (by first|rfl|simp only [Bd,D2]) (by kernel_rfl)) ?_|refine B1 (U1 hc99 (by first|rfl|simp only [Bd]) (by first|rfl|simp only [Bd,D2]) (by kernel_rfl)) ?_
 have hp97:(List.map Aa (([(⟨(B6 Ab x4.A7 0),x76,x77,x78,x79,x80,((y82.1.length:Nat):Int),0,y8⟩:A3)]:List A3)++y82.1):List (List AV))++([]:List (List AV))=(List.map Aa (([(⟨(B6 Ab x4.A7 0),x76,x77,x78,x79,x80,((y82.1.length:Nat):Int),0,y8⟩:A3)]:List A3)++y82.1):List (List AV)):=List.append_nil _
 have hl98:List.length (List.map Aa (([(⟨(B6 Ab x4.A7 0),x76,x77,x78,x79,x80,((y82.1.length:Nat):Int),0,y8⟩:A3)]:List A3)++y82.1):List (List AV))+List.length ([]:List (List AV))=List.length (List.map Aa (([(⟨(B6 Ab x4.A7 0),x76,x77,x78,x79,x80,((y82.1.length:Nat):Int),0,y8⟩:A3)]:List A3)++y82.1):List (List AV)):=rfl
 have hl98_b:List.length (([(⟨(B6 Ab x4.A7 0),x76,x77,x78,x79,x80,((y82.1.length:Nat):Int),0,y8⟩:A3)]:List A3)++y82.1)+List.length ([]:List (List AV))=List.length (([(⟨(B6 Ab x4.A7 0),x76,x77,x78,x79,x80,((y82.1.length:Nat):Int),0,y8⟩:A3)]:List A3)++y82.1):=rfl
 try simp only[ls,c0]
 try simp only[hp97,hl98,hl98_b]
 try simp only[ls]
 conv=>lhs;whnf
 revert h
 intro h;cases sj h
 try simp only[ls]
 exact fq (y:=some (AV.sl 9 (List.take (List.length ((([(⟨(B6 Ab x4.A7 0),x76,x77,x78,x79,x80,((y82.1.length:Nat):Int),0,y8⟩:A3)]:List A3)++y82.1))) (List.map Aa (([(⟨(B6 Ab x4.A7 0),x76,x77,x78,x79,x80,((y82.1.length:Nat):Int),0,y8⟩:A3)]:List A3)++y82.1))),[Ob.var 94 [AV.sl 4 (List.map A2 p_l),iA y82.2.1,AV.mapp 1,iA y82.2.2.1,iA y82.2.2.2],Ob.mp none false (List.map A6 Ab)]))
 refine ar (ap Aa ([[iA ((B6 Ab x4.A7 0)),sA x76,sA x77,AV.sl 5 (List.map A0 x78),AV.sl 5 (List.map A0 x79),bA x80,iA (((y82.1.length:Nat):Int)),iA (0),iA y8]]) ([(⟨(B6 Ab x4.A7 0),x76,x77,x78,x79,x80,((y82.1.length:Nat):Int),0,y8⟩:A3)]:List A3) (List.map Aa y82.1) y82.1) ?_
 intro h
 refine B0 h ?_;clear h;intro hc104 h
 first|refine B1 (Wz hc104 (by first|rfl|simp only [Bd]) (by first|rfl|simp only [Bd]) (by first|rfl|simp only [Bd,D2]) (by kernel_rfl)) ?_|refine B1 (U1 hc104 (by first|rfl|simp only [Bd]) (by first|rfl|simp only [Bd,D2]) (by kernel_rfl)) ?_
 have hp102:(List.map Aa (([(⟨(B6 Ab x4.A7 0),x76,x77,x78,x79,x80,((y82.1.length:Nat):Int),0,y8⟩:A3)]:List A3)++y82.1):List (List AV))++([]:List (List AV))=(List.map Aa (([(⟨(B6 Ab x4.A7 0),x76,x77,x78,x79,x80,((y82.1.length:Nat):Int),0,y8⟩:A3)]:List A3)++y82.1):List (List AV)):=List.append_nil _
 have hl103:List.length (List.map Aa (([(⟨(B6 Ab x4.A7 0),x76,x77,x78,x79,x80,((y82.1.length:Nat):Int),0,y8⟩:A3)]:List A3)++y82.1):List (List AV))+List.length ([]:List (List AV))=List.length (List.map Aa (([(⟨(B6 Ab x4.A7 0),x76,x77,x78,x79,x80,((y82.1.length:Nat):Int),0,y8⟩:A3)]:List A3)++y82.1):List (List AV)):=rfl
 have hl103_b:List.length (([(⟨(B6 Ab x4.A7 0),x76,x77,x78,x79,x80,((y82.1.length:Nat):Int),0,y8⟩:A3)]:List A3)++y82.1)+List.length ([]:List (List AV))=List.length (([(⟨(B6 Ab x4.A7 0),x76,x77,x78,x79,x80,((y82.1.length:Nat):Int),0,y8⟩:A3)]:List A3)++y82.1):=rfl
 try simp only[ls,c0]
 try simp only[hp102,hl103,hl103_b]
 try simp only[ls]
 conv=>lhs;whnf
 revert h
 intro h;cases sj h
 try simp only[ls]
 exact fq (y:=some (AV.sl 9 (List.take (List.length ((([(⟨(B6 Ab x4.A7 0),x76,x77,x78,x79,x80,((y82.1.length:Nat):Int),0,y8⟩:A3)]:List A3)++y82.1))) (List.map Aa (([(⟨(B6 Ab x4.A7 0),x76,x77,x78,x79,x80,((y82.1.length:Nat):Int),0,y8⟩:A3)]:List A3)++y82.1))),[Ob.var 94 [AV.sl 4 (List.map A2 p_l),iA y82.2.1,AV.mapp 1,iA y82.2.2.1,iA y82.2.2.2],Ob.mp none false (List.map A6 Ab)]))
 refine ar (ap Aa ([[iA ((B6 Ab x4.A7 0)),sA x76,sA x77,AV.sl 5 (List.map A0 x78),AV.sl 5 (List.map A0 x79),bA x80,iA (((y82.1.length:Nat):Int)),iA (0),iA y8]]) ([(⟨(B6 Ab x4.A7 0),x76,x77,x78,x79,x80,((y82.1.length:Nat):Int),0,y8⟩:A3)]:List A3) (List.map Aa y82.1) y82.1) ?_
 intro h
 refine B0 h ?_;clear h;intro hc109 h
 first|refine B1 (Wz hc109 (by first|rfl|simp only [Bd]) (by first|rfl|simp only [Bd]) (by first|rfl|simp only [Bd,D2]) (by kernel_rfl)) ?_|refine B1 (U1 hc109 (by first|rfl|simp only [Bd]) (by first|rfl|simp only [Bd,D2]) (by kernel_rfl)) ?_
 have hp107:(List.map Aa (([(⟨(B6 Ab x4.A7 0),x76,x77,x78,x79,x80,((y82.1.length:Nat):Int),0,y8⟩:A3)]:List A3)++y82.1):List (List AV))++([]:List (List AV))=(List.map Aa (([(⟨(B6 Ab x4.A7 0),x76,x77,x78,x79,x80,((y82.1.length:Nat):Int),0,y8⟩:A3)]:List A3)++y82.1):List (List AV)):=List.append_nil _
 have hl108:List.length (List.map Aa (([(⟨(B6 Ab x4.A7 0),x76,x77,x78,x79,x80,((y82.1.length:Nat):Int),0,y8⟩:A3)]:List A3)++y82.1):List (List AV))+List.length ([]:List (List AV))=List.length (List.map Aa (([(⟨(B6 Ab x4.A7 0),x76,x77,x78,x79,x80,((y82.1.length:Nat):Int),0,y8⟩:A3)]:List A3)++y82.1):List (List AV)):=rfl
 have hl108_b:List.length (([(⟨(B6 Ab x4.A7 0),x76,x77,x78,x79,x80,((y82.1.length:Nat):Int),0,y8⟩:A3)]:List A3)++y82.1)+List.length ([]:List (List AV))=List.length (([(⟨(B6 Ab x4.A7 0),x76,x77,x78,x79,x80,((y82.1.length:Nat):Int),0,y8⟩:A3)]:List A3)++y82.1):=rfl
 try simp only[ls,c0]
 try simp only[hp107,hl108,hl108_b]
 try simp only[ls]
 conv=>lhs;whnf
 revert h
 intro h;cases sj h
 try simp only[ls]
 exact fq (y:=some (AV.sl 9 (List.take (List.length ((([(⟨(B6 Ab x4.A7 0),x76,x77,x78,x79,x80,((y82.1.length:Nat):Int),0,y8⟩:A3)]:List A3)++y82.1))) (List.map Aa (([(⟨(B6 Ab x4.A7 0),x76,x77,x78,x79,x80,((y82.1.length:Nat):Int),0,y8⟩:A3)]:List A3)++y82.1))),[Ob.var 94 [AV.sl 4 (List.map A2 p_l),iA y82.2.1,AV.mapp 1,iA y82.2.2.1,iA y82.2.2.2],Ob.mp none false (List.map A6 Ab)]))
 refine br ?_ ?_
 refine br ?_ ?_
 refine ca hc (fun _ h=>Ho h) ?_;intro y112
 refine br ?_ ?_
 refine ca hc (fun _ h=>ih.1 h) ?_;intro y115
 intro h
 have hp117:([[iA ((B6 Ab x4.A7 0)),sA x76,sA x77,AV.sl 5 (List.map A0 x78),AV.sl 5 (List.map A0 x79),bA x80,iA (0),iA (((y115.1.length:Nat):Int)),iA y8]]:List (List AV))++([]:List (List AV))=([[iA ((B6 Ab x4.A7 0)),sA x76,sA x77,AV.sl 5 (List.map A0 x78),AV.sl 5 (List.map A0 x79),bA x80,iA (0),iA (((y115.1.length:Nat):Int)),iA y8]]:List (List AV)):=List.append_nil _
 have hl118:List.length ([[iA ((B6 Ab x4.A7 0)),sA x76,sA x77,AV.sl 5 (List.map A0 x78),AV.sl 5 (List.map A0 x79),bA x80,iA (0),iA (((y115.1.length:Nat):Int)),iA y8]]:List (List AV))+List.length ([]:List (List AV))=List.length ([[iA ((B6 Ab x4.A7 0)),sA x76,sA x77,AV.sl 5 (List.map A0 x78),AV.sl 5 (List.map A0 x79),bA x80,iA (0),iA (((y115.1.length:Nat):Int)),iA y8]]:List (List AV)):=rfl
 have hl118_b:List.length ([(⟨(B6 Ab x4.A7 0),x76,x77,x78,x79,x80,0,((y115.1.length:Nat):Int),y8⟩:A3)]:List A3)+List.length ([]:List (List AV))=List.length ([(⟨(B6 Ab x4.A7 0),x76,x77,x78,x79,x80,0,((y115.1.length:Nat):Int),y8⟩:A3)]:List A3):=rfl
 try simp only[ls,c0]
 try simp only[hp117,hl118,hl118_b]
 conv=>lhs;whnf
 revert h
 refine ar (ap Aa ([[iA ((B6 Ab x4.A7 0)),sA x76,sA x77,AV.sl 5 (List.map A0 x78),AV.sl 5 (List.map A0 x79),bA x80,iA (0),iA (((y115.1.length:Nat):Int)),iA y8]]) ([(⟨(B6 Ab x4.A7 0),x76,x77,x78,x79,x80,0,((y115.1.length:Nat):Int),y8⟩:A3)]:List A3) (List.map Aa y115.1) y115.1) ?_
 intro h;cases sj h
 try simp only[ls]
 exact fq (y:=some (AV.sl 9 (List.take (List.length ((([(⟨(B6 Ab x4.A7 0),x76,x77,x78,x79,x80,0,((y115.1.length:Nat):Int),y8⟩:A3)]:List A3)++y115.1))) (List.map Aa (([(⟨(B6 Ab x4.A7 0),x76,x77,x78,x79,x80,0,((y115.1.length:Nat):Int),y8⟩:A3)]:List A3)++y115.1))),[Ob.var 94 [AV.sl 4 (List.map A2 p_l),iA y115.2.1,AV.mapp 1,iA y115.2.2.1,iA y115.2.2.2],Ob.mp none false (List.map A6 Ab)]))
 intro h
 have hp121:([[iA ((B6 Ab x4.A7 0)),sA x76,sA x77,AV.sl 5 (List.map A0 x78),AV.sl 5 (List.map A0 x79),bA x80,iA (0),iA (0),iA y8]]:List (List AV))++([]:List (List AV))=([[iA ((B6 Ab x4.A7 0)),sA x76,sA x77,AV.sl 5 (List.map A0 x78),AV.sl 5 (List.map A0 x79),bA x80,iA (0),iA (0),iA y8]]:List (List AV)):=List.append_nil _
 have hl122:List.length ([[iA ((B6 Ab x4.A7 0)),sA x76,sA x77,AV.sl 5 (List.map A0 x78),AV.sl 5 (List.map A0 x79),bA x80,iA (0),iA (0),iA y8]]:List (List AV))+List.length ([]:List (List AV))=List.length ([[iA ((B6 Ab x4.A7 0)),sA x76,sA x77,AV.sl 5 (List.map A0 x78),AV.sl 5 (List.map A0 x79),bA x80,iA (0),iA (0),iA y8]]:List (List AV)):=rfl
 have hl122_b:List.length ([(⟨(B6 Ab x4.A7 0),x76,x77,x78,x79,x80,0,0,y8⟩:A3)]:List A3)+List.length ([]:List (List AV))=List.length ([(⟨(B6 Ab x4.A7 0),x76,x77,x78,x79,x80,0,0,y8⟩:A3)]:List A3):=rfl
 try simp only[ls,c0]
 try simp only[hp121,hl122,hl122_b]
 conv=>lhs;whnf
 revert h
 intro h
 have hp123:([[iA ((B6 Ab x4.A7 0)),sA x76,sA x77,AV.sl 5 (List.map A0 x78),AV.sl 5 (List.map A0 x79),bA x80,iA (0),iA (0),iA y8]]:List (List AV))++([]:List (List AV))=([[iA ((B6 Ab x4.A7 0)),sA x76,sA x77,AV.sl 5 (List.map A0 x78),AV.sl 5 (List.map A0 x79),bA x80,iA (0),iA (0),iA y8]]:List (List AV)):=List.append_nil _
 have hl124:List.length ([[iA ((B6 Ab x4.A7 0)),sA x76,sA x77,AV.sl 5 (List.map A0 x78),AV.sl 5 (List.map A0 x79),bA x80,iA (0),iA (0),iA y8]]:List (List AV))+List.length ([]:List (List AV))=List.length ([[iA ((B6 Ab x4.A7 0)),sA x76,sA x77,AV.sl 5 (List.map A0 x78),AV.sl 5 (List.map A0 x79),bA x80,iA (0),iA (0),iA y8]]:List (List AV)):=rfl
 have hl124_b:List.length ([(⟨(B6 Ab x4.A7 0),x76,x77,x78,x79,x80,0,0,y8⟩:A3)]:List A3)+List.length ([]:List (List AV))=List.length ([(⟨(B6 Ab x4.A7 0),x76,x77,x78,x79,x80,0,0,y8⟩:A3)]:List A3):=rfl
 try simp only[ls,c0]
 try simp only[hp123,hl124,hl124_b]
 conv=>lhs;whnf
 revert h
 intro h;cases sj h
 try simp only[ls]
 exact fq (y:=some (AV.sl 9 (List.take (List.length (([(⟨(B6 Ab x4.A7 0),x76,x77,x78,x79,x80,0,0,y8⟩:A3)]:List A3))) ([[iA ((B6 Ab x4.A7 0)),sA x76,sA x77,AV.sl 5 (List.map A0 x78),AV.sl 5 (List.map A0 x79),bA x80,iA (0),iA (0),iA y8]])),[Ob.var 94 [AV.sl 4 (List.map A2 p_l),iA x73,AV.mapp 1,iA x74,iA x75],Ob.mp none false (List.map A6 Ab)]))
 intro h
 have hp125:([[iA ((B6 Ab x4.A7 0)),sA x76,sA x77,AV.sl 5 (List.map A0 x78),AV.sl 5 (List.map A0 x79),bA x80,iA (0),iA (0),iA y8]]:List (List AV))++([]:List (List AV))=([[iA ((B6 Ab x4.A7 0)),sA x76,sA x77,AV.sl 5 (List.map A0 x78),AV.sl 5 (List.map A0 x79),bA x80,iA (0),iA (0),iA y8]]:List (List AV)):=List.append_nil _
 have hl126:List.length ([[iA ((B6 Ab x4.A7 0)),sA x76,sA x77,AV.sl 5 (List.map A0 x78),AV.sl 5 (List.map A0 x79),bA x80,iA (0),iA (0),iA y8]]:List (List AV))+List.length ([]:List (List AV))=List.length ([[iA ((B6 Ab x4.A7 0)),sA x76,sA x77,AV.sl 5 (List.map A0 x78),AV.sl 5 (List.map A0 x79),bA x80,iA (0),iA (0),iA y8]]:List (List AV)):=rfl
 have hl126_b:List.length ([(⟨(B6 Ab x4.A7 0),x76,x77,x78,x79,x80,0,0,y8⟩:A3)]:List A3)+List.length ([]:List (List AV))=List.length ([(⟨(B6 Ab x4.A7 0),x76,x77,x78,x79,x80,0,0,y8⟩:A3)]:List A3):=rfl
 try simp only[ls,c0]
 try simp only[hp125,hl126,hl126_b]
 conv=>lhs;whnf
 revert h
 intro h
 have hp127:([[iA ((B6 Ab x4.A7 0)),sA x76,sA x77,AV.sl 5 (List.map A0 x78),AV.sl 5 (List.map A0 x79),bA x80,iA (0),iA (0),iA y8]]:List (List AV))++([]:List (List AV))=([[iA ((B6 Ab x4.A7 0)),sA x76,sA x77,AV.sl 5 (List.map A0 x78),AV.sl 5 (List.map A0 x79),bA x80,iA (0),iA (0),iA y8]]:List (List AV)):=List.append_nil _
 have hl128:List.length ([[iA ((B6 Ab x4.A7 0)),sA x76,sA x77,AV.sl 5 (List.map A0 x78),AV.sl 5 (List.map A0 x79),bA x80,iA (0),iA (0),iA y8]]:List (List AV))+List.length ([]:List (List AV))=List.length ([[iA ((B6 Ab x4.A7 0)),sA x76,sA x77,AV.sl 5 (List.map A0 x78),AV.sl 5 (List.map A0 x79),bA x80,iA (0),iA (0),iA y8]]:List (List AV)):=rfl
 have hl128_b:List.length ([(⟨(B6 Ab x4.A7 0),x76,x77,x78,x79,x80,0,0,y8⟩:A3)]:List A3)+List.length ([]:List (List AV))=List.length ([(⟨(B6 Ab x4.A7 0),x76,x77,x78,x79,x80,0,0,y8⟩:A3)]:List A3):=rfl
 try simp only[ls,c0]
 try simp only[hp127,hl128,hl128_b]
 conv=>lhs;whnf
 revert h
 intro h;cases sj h
 try simp only[ls]
 exact fq (y:=some (AV.sl 9 (List.take (List.length (([(⟨(B6 Ab x4.A7 0),x76,x77,x78,x79,x80,0,0,y8⟩:A3)]:List A3))) ([[iA ((B6 Ab x4.A7 0)),sA x76,sA x77,AV.sl 5 (List.map A0 x78),AV.sl 5 (List.map A0 x79),bA x80,iA (0),iA (0),iA y8]])),[Ob.var 94 [AV.sl 4 (List.map A2 p_l),iA x73,AV.mapp 1,iA x74,iA x75],Ob.mp none false (List.map A6 Ab)]))
 intro h
 have hp129:([[iA ((B6 Ab x4.A7 0)),sA x76,sA x77,AV.sl 5 (List.map A0 x78),AV.sl 5 (List.map A0 x79),bA x80,iA (0),iA (0),iA y8]]:List (List AV))++([]:List (List AV))=([[iA ((B6 Ab x4.A7 0)),sA x76,sA x77,AV.sl 5 (List.map A0 x78),AV.sl 5 (List.map A0 x79),bA x80,iA (0),iA (0),iA y8]]:List (List AV)):=List.append_nil _
 have hl130:List.length ([[iA ((B6 Ab x4.A7 0)),sA x76,sA x77,AV.sl 5 (List.map A0 x78),AV.sl 5 (List.map A0 x79),bA x80,iA (0),iA (0),iA y8]]:List (List AV))+List.length ([]:List (List AV))=List.length ([[iA ((B6 Ab x4.A7 0)),sA x76,sA x77,AV.sl 5 (List.map A0 x78),AV.sl 5 (List.map A0 x79),bA x80,iA (0),iA (0),iA y8]]:List (List AV)):=rfl
 have hl130_b:List.length ([(⟨(B6 Ab x4.A7 0),x76,x77,x78,x79,x80,0,0,y8⟩:A3)]:List A3)+List.length ([]:List (List AV))=List.length ([(⟨(B6 Ab x4.A7 0),x76,x77,x78,x79,x80,0,0,y8⟩:A3)]:List A3):=rfl
 try simp only[ls,c0]
 try simp only[hp129,hl130,hl130_b]
 conv=>lhs;whnf
 revert h
 intro h
 have hp131:([[iA ((B6 Ab x4.A7 0)),sA x76,sA x77,AV.sl 5 (List.map A0 x78),AV.sl 5 (List.map A0 x79),bA x80,iA (0),iA (0),iA y8]]:List (List AV))++([]:List (List AV))=([[iA ((B6 Ab x4.A7 0)),sA x76,sA x77,AV.sl 5 (List.map A0 x78),AV.sl 5 (List.map A0 x79),bA x80,iA (0),iA (0),iA y8]]:List (List AV)):=List.append_nil _
 have hl132:List.length ([[iA ((B6 Ab x4.A7 0)),sA x76,sA x77,AV.sl 5 (List.map A0 x78),AV.sl 5 (List.map A0 x79),bA x80,iA (0),iA (0),iA y8]]:List (List AV))+List.length ([]:List (List AV))=List.length ([[iA ((B6 Ab x4.A7 0)),sA x76,sA x77,AV.sl 5 (List.map A0 x78),AV.sl 5 (List.map A0 x79),bA x80,iA (0),iA (0),iA y8]]:List (List AV)):=rfl
 have hl132_b:List.length ([(⟨(B6 Ab x4.A7 0),x76,x77,x78,x79,x80,0,0,y8⟩:A3)]:List A3)+List.length ([]:List (List AV))=List.length ([(⟨(B6 Ab x4.A7 0),x76,x77,x78,x79,x80,0,0,y8⟩:A3)]:List A3):=rfl
 try simp only[ls,c0]
 try simp only[hp131,hl132,hl132_b]
 conv=>lhs;whnf
 revert h
 intro h;cases sj h
 try simp only[ls]
 exact fq (y:=some (AV.sl 9 (List.take (List.length (([(⟨(B6 Ab x4.A7 0),x76,x77,x78,x79,x80,0,0,y8⟩:A3)]:List A3))) ([[iA ((B6 Ab x4.A7 0)),sA x76,sA x77,AV.sl 5 (List.map A0 x78),AV.sl 5 (List.map A0 x79),bA x80,iA (0),iA (0),iA y8]])),[Ob.var 94 [AV.sl 4 (List.map A2 p_l),iA x73,AV.mapp 1,iA x74,iA x75],Ob.mp none false (List.map A6 Ab)]))
 refine ca hc (fun _ h=>E7 h) ?_;intro y134
 intro h;cases sj h
 try simp only[ls]
 exact fq (y:=some (AV.sl 9 [],[Ob.var 94 [AV.sl 4 (List.map A2 p_l),iA p_i,AV.mapp 1,iA y134.1,iA y134.2],Ob.mp none false (List.map A6 Ab)]))
 refine ca hc (fun _ h=>Zk h) ?_;intro y136
 refine ca hc (fun _ h=>E7 h) ?_;intro y138
 intro h;cases sj h
 try simp only[ls]
 exact fq (y:=some (AV.sl 9 [],[Ob.var 94 [AV.sl 4 (List.map A2 p_l),iA p_i,AV.mapp 1,iA y138.1,iA y138.2],Ob.mp none false (List.map A6 Ab)]))
 refine ca hc (fun _ h=>Zk h) ?_;intro y140
 refine ca hc (fun _ h=>E7 h) ?_;intro y142
 intro h;cases sj h
 try simp only[ls]
 exact fq (y:=some (AV.sl 9 [],[Ob.var 94 [AV.sl 4 (List.map A2 p_l),iA p_i,AV.mapp 1,iA y142.1,iA y142.2],Ob.mp none false (List.map A6 Ab)]))
theorem Q3:∀ n,Iu n
 | 0=>⟨by unfold Lv;intros;rename_i h;exact absurd h (by intro h;cases h),by unfold Jf;intros;rename_i h;exact absurd h (by intro h;cases h),by unfold No;intros;rename_i h;exact absurd h (by intro h;cases h)⟩
 | n+1=>have ih:=Q3 n
   ⟨Xy n ih,Z1 n ih,A0a n ih⟩
theorem Yz {n:Nat}:Jf n:=(Q3 n).2.1
theorem Ys {n:Nat} ⦃Ap:(List A5)⦄ ⦃E1:Int⦄ ⦃r:((List A3)×Int×Int×Int)⦄:I9 n Ap E1=some r→CN n 46 [AV.sl 4 (List.map A2 Ap),iA E1] []=some (AV.tup [AV.sl 9 (List.map Aa r.1),iA r.2.1,iA r.2.2.1,iA r.2.2.2],[]):=by
 intro h;rcases n with _|n;cases h
 rw[I9] at h
 refine Ai Try.func46 (by rfl) rfl rfl (Am rfl) ?_
 intro call hc;conv=>lhs;whnf
 revert h
 refine br ?_ ?_
 exact rz
 refine br ?_ ?_
 exact rz
 refine ca hc (fun _ h=>Sk h) ?_;intro y3
 intro h;refine Av h ?_;clear h;intro o14 ho14 h
 refine lq (σ:=(Int×(List ((List UInt8)×Int)))) (τ:=(List ((List UInt8)×Int))) (ν:=((List A3)×Int×Int×Int)) 0 (fun(s5,s6) a8=>Bg 71 [(1,iA E1),(8,AV.ptr 1 0),(25,AV.sl 4 (List.map A1d y3)),(26,iA (((y3.length:Nat):Int))),(27,iA s5)]) (fun(s5,s6) a8=>[Ob.mp none false (List.map A6 s6),Ob.var 94 [AV.sl 4 (List.map A2 Ap),iA E1,AV.mapp 0,iA (0),iA (0)]]) (fun x20 a19=>Bg 71 [(1,iA E1),(8,AV.ptr 1 0)]) (fun x20 a19=>[Ob.mp none false (List.map A6 x20),Ob.var 94 [AV.sl 4 (List.map A2 Ap),iA E1,AV.mapp 0,iA (0),iA (0)]]) (fun v=>(AV.tup [AV.sl 9 (List.map Aa v.1),iA v.2.1,iA v.2.2.1,iA v.2.2.2],[])) (fun k s=>Ij n y3 k s.1 s.2) (fun s=>rfl) o14 n (0,([]:(List ((List UInt8)×Int)))) (fun _=>0) ho14 ?_ ?_
 intro k7 ss a8 K9 cont10 hK11 hcont12 h hr13
 obtain⟨s5,s6⟩:=ss
 replace h:Ij n y3 (k7+1) s5 s6=some o14:=h
 rw[Ij] at h
 conv=>lhs;whnf
 revert h
 refine br ?_ ?_
 refine ix ?_;intro x16
 refine br ?_ ?_
 exact fun h=>cq (hcont12 (IntKind.i64.wrap (s5+1),s6) (fun _=>0) h)
 intro h
 have hs18:Kd (List.map A6 s6) (sA x16.f_word) (iA s5)=List.map A6 (Ok s6 x16.f_word s5):=V9 _ _ _
 try simp only[hs18]
 conv=>lhs;whnf
 revert h
 exact fun h=>cq (hcont12 (IntKind.i64.wrap (s5+1),(Ok s6 x16.f_word s5)) (fun _=>0) h)
 intro h;cases sj h
 exact kq (hr13 (fun _=>0))
 refine lrc ?_ ?_
 intro v e;subst e;cases sj h;rfl
 intro x20 a19 e;subst e
 dsimp only at h
 conv=>lhs;whnf
 revert h
 refine ca hc (fun _ h=>Yz h) ?_;intro y21
 refine br ?_ ?_
 exact rz
 refine br ?_ ?_
 refine ca hc (fun _ h=>Iq h) ?_;intro y25
 exact rz
 exact rz
theorem Yu {n:Nat} ⦃J2:Int⦄ ⦃r:Bool⦄:Qj n J2=some r→CN n 67 [iA J2] []=some (bA r,[]):=by
 intro h;rcases n with _|n;cases h
 rw[Qj] at h
 refine Ai Try.func67 (by rfl) rfl rfl (Am rfl) ?_
 intro call hc;conv=>lhs;whnf
 revert h
 refine br ?_ ?_
 exact rz
 refine br ?_ ?_
 exact rz
 refine br ?_ ?_
 exact rz
 exact rz
def Pc (n:Nat):Prop:=∀ ⦃Ap:(List A3)⦄ ⦃Dt:Int⦄ ⦃Dk:Int⦄ ⦃r:Int⦄,O1 n Ap Dt Dk=some r→CN n 77 [AV.sl 9 (List.map Aa Ap),iA Dt,iA Dk] []=some (iA r,[])
def Qk (n:Nat):Prop:=∀ ⦃G7:Int⦄ ⦃Ko:Int⦄ ⦃Mo:Int⦄ ⦃o0:(List A3)⦄ ⦃o1:Int⦄ ⦃r:(Bool×Int)⦄,Ld n G7 Ko Mo o0 o1=some r→CN n 90 [iA G7,iA Ko,iA Mo,AV.ptr 0 0,AV.ptr 1 0] [Ob.var 38 [AV.sl 9 (List.map Aa o0)],Ob.var 3 [iA o1]]=some (bA r.1,[Ob.var 38 [AV.sl 9 (List.map Aa o0)],Ob.var 3 [iA r.2]])
def Ir (n:Nat):Prop:=∀ ⦃Ap:(List A3)⦄ ⦃Dt:Int⦄ ⦃Dk:Int⦄ ⦃o0:(List A3)⦄ ⦃o1:Int⦄ ⦃r:(Bool×Int)⦄,Jc n Ap Dt Dk o0 o1=some r→CN n 63 [AV.sl 9 (List.map Aa Ap),iA Dt,iA Dk,AV.func 90 [] [AV.ptr 0 0,AV.ptr 1 0]] [Ob.var 38 [AV.sl 9 (List.map Aa o0)],Ob.var 3 [iA o1]]=some (bA r.1,[Ob.var 38 [AV.sl 9 (List.map Aa o0)],Ob.var 3 [iA r.2]])
def Pa (n:Nat):Prop:=Pc n∧Qk n∧Ir n
theorem A6h (n:Nat) (ih:Pa n):Pc (n+1):=by
 intro Ap Dt Dk r h
 rw[O1] at h
 refine Ai Try.func77 (by rfl) rfl rfl (Am rfl) ?_
 intro call hc;conv=>lhs;whnf
 revert h
 refine ca hc (fun _ h=>ih.2.2 h) ?_;intro y1
 refine br ?_ ?_
 exact rz
 exact rz
theorem A3p (n:Nat) (ih:Pa n):Qk (n+1):=by
 intro G7 Ko Mo o0 o1 r h
 rw[Ld] at h
 refine Ai Try.func90 (by rfl) rfl rfl (Am rfl) ?_
 intro call hc;conv=>lhs;whnf
 revert h
 refine ca hc (fun _ h=>ih.1 h) ?_;intro y1
 refine ca hc (fun _ h=>ih.1 h) ?_;intro y3
 refine ix ?_;intro x5
 refine ca hc (fun _ h=>Yu h) ?_;intro y6
 refine br ?_ ?_
 refine br ?_ ?_
 exact rz
 exact rz
 refine br ?_ ?_
 exact rz
 exact rz
theorem T8 (n:Nat) (ih:Pa n):Ir (n+1):=by
 intro Ap Dt Dk o0 o1 r h
 rw[Jc] at h
 refine Ai Try.func63 (by rfl) rfl rfl (Am rfl) ?_
 intro call hc;conv=>lhs;whnf
 revert h
 intro h;refine Av h ?_;clear h;intro o10 ho10 h
 refine lq (σ:=(Int×Int)) (τ:=Int) (ν:=(Bool×Int)) 0 (fun(s1,s2) a4=>Bg 63 [(0,AV.sl 9 (List.map Aa Ap)),(1,iA s1),(2,iA Dk),(3,AV.func 90 [] [AV.ptr 0 0,AV.ptr 1 0])]) (fun(s1,s2) a4=>[Ob.var 38 [AV.sl 9 (List.map Aa o0)],Ob.var 3 [iA s2]]) (fun x21 a20=>Bg 63 []) (fun x21 a20=>[Ob.var 38 [AV.sl 9 (List.map Aa o0)],Ob.var 3 [iA x21]]) (fun v=>(bA v.1,[Ob.var 38 [AV.sl 9 (List.map Aa o0)],Ob.var 3 [iA v.2]])) (fun k s=>F7 n (Ld n) Ap Dk o0 k s.1 s.2) (fun s=>rfl) o10 n (Dt,o1) (fun _=>0) ho10 ?_ ?_
 intro k3 ss a4 K5 cont6 hK7 hcont8 h hr9
 obtain⟨s1,s2⟩:=ss
 replace h:F7 n (Ld n) Ap Dk o0 (k3+1) s1 s2=some o10:=h
 rw[F7] at h
 conv=>lhs;whnf
 revert h
 refine br ?_ ?_
 refine ix ?_;intro x12
 refine br ?_ ?_
 intro h;cases sj h
 refine(hK7 _ _).trans ?_
 refine Eq.trans ?_ (Eq.symm (show _=some _ from hr9))
 conv=>lhs;whnf
 exact rq
 refine br ?_ ?_
 intro h;cases sj h
 refine(hK7 _ _).trans ?_
 refine Eq.trans ?_ (Eq.symm (show _=some _ from hr9))
 conv=>lhs;whnf
 exact rq
 refine br ?_ ?_
 intro h;cases sj h
 refine(hK7 _ _).trans ?_
 refine Eq.trans ?_ (Eq.symm (show _=some _ from hr9))
 conv=>lhs;whnf
 exact rq
 refine br ?_ ?_
 intro h;cases sj h
 refine(hK7 _ _).trans ?_
 refine Eq.trans ?_ (Eq.symm (show _=some _ from hr9))
 conv=>lhs;whnf
 exact rq
 refine ca hc (fun _ h=>ih.2.1 h) ?_;intro y17
 refine br ?_ ?_
 exact fun h=>cq (hcont8 (IntKind.i64.wrap ((IntKind.i64.wrap ((IntKind.i64.wrap (s1+1))+x12.Be))+x12.Cv),y17.2) (fun _=>0) h)
 intro h;cases sj h
 refine(hK7 _ _).trans ?_
 refine Eq.trans ?_ (Eq.symm (show _=some _ from hr9))
 conv=>lhs;whnf
 exact rq
 intro h;cases sj h
 exact kq (hr9 (fun _=>0))
 refine lrc ?_ ?_
 intro v e;subst e;cases sj h;rfl
 intro x21 a20 e;subst e
 dsimp only at h
 conv=>lhs;whnf
 revert h
 exact rz
theorem X5:∀ n,Pa n
 | 0=>⟨by unfold Pc;intros;rename_i h;exact absurd h (by intro h;cases h),by unfold Qk;intros;rename_i h;exact absurd h (by intro h;cases h),by unfold Ir;intros;rename_i h;exact absurd h (by intro h;cases h)⟩
 | n+1=>have ih:=X5 n
   ⟨A6h n ih,A3p n ih,T8 n ih⟩
theorem A6g {n:Nat}:Pc n:=(X5 n).1
theorem A6i {n:Nat} ⦃Ap:(List A3)⦄ ⦃r:Int⦄:Uv n Ap=some r→CN n 61 [AV.sl 9 (List.map Aa Ap)] []=some (iA r,[]):=by
 intro h;rcases n with _|n;cases h
 rw[Uv] at h
 refine Ai Try.func61 (by rfl) rfl rfl (Am rfl) ?_
 intro call hc;conv=>lhs;whnf
 revert h
 refine cr hc (fun _ h=>A6g h) ?_;intro y1
 exact rz
theorem Gv {n:Nat} ⦃Ju:Bh⦄ ⦃Mw:Int⦄ ⦃r:Bool⦄:F9 n Ju Mw=some r→CN n 80 [AV.agg [sA Ju.f_word,sA Ju.f_form,bA Ju.f_body,bA Ju.f_more],AV.int .u8 Mw] []=some (bA r,[]):=by
 intro h;rcases n with _|n;cases h
 rw[F9] at h
 refine Ai Try.func80 (by rfl) rfl rfl (Am rfl) ?_
 intro call hc;conv=>lhs;whnf
 revert h
 intro h;refine Av h ?_;clear h;intro o9 ho9 h
 refine lq (σ:=Int) (τ:=Unit) (ν:=Bool) 0 (fun s1 a3=>Bg 19 [(1,AV.int .u8 Mw),(2,AV.ptr 0 0),(8,iA (((Ju.f_form.length:Nat):Int))),(9,iA s1)]) (fun s1 a3=>[Ob.var 98 [sA Ju.f_word,sA Ju.f_form,bA Ju.f_body,bA Ju.f_more]]) (fun _ a13=>Bg 19 []) (fun _ a13=>[Ob.var 98 [sA Ju.f_word,sA Ju.f_form,bA Ju.f_body,bA Ju.f_more]]) (fun v=>(bA v,[])) (fun k s=>J4 n Ju Mw k s) (fun s=>rfl) o9 n 0 (fun _=>0) ho9 ?_ ?_
 intro k2 s1 a3 K4 cont5 hK6 hcont7 h hr8
 replace h:J4 n Ju Mw (k2+1) s1=some o9:=h
 rw[J4] at h
 conv=>lhs;whnf
 revert h
 refine br ?_ ?_
 refine ixs ?_;intro x11
 refine br ?_ ?_
 intro h;cases sj h
 refine(hK6 _ _).trans ?_
 refine Eq.trans ?_ (Eq.symm (show _=some _ from hr8))
 conv=>lhs;whnf
 exact rq
 exact fun h=>cq (hcont7 (IntKind.i64.wrap (s1+1)) (fun _=>0) h)
 intro h;cases sj h
 exact kq (hr8 (fun _=>0))
 refine lrc ?_ ?_
 intro v e;subst e;cases sj h;rfl
 intro t a13 e;subst e
 dsimp only at h
 conv=>lhs;whnf
 revert h
 exact rz
theorem Oc {n:Nat} ⦃G8:Int⦄ ⦃Jt:(List UInt8)⦄ ⦃Ez:(List UInt8)⦄ ⦃F0:(List UInt8)⦄ ⦃F1:Bool⦄ ⦃F2:Bool⦄ ⦃r:Bool⦄:Jz n G8 Jt Ez F0 F1 F2=some r→CN n 79 [AV.int .u8 G8,sA Jt,AV.ptr 0 0] [Ob.var 98 [sA Ez,sA F0,bA F1,bA F2]]=some (bA r,[Ob.var 98 [sA Ez,sA F0,bA F1,bA F2]]):=by
 intro h;rcases n with _|n;cases h
 rw[Jz] at h
 refine Ai Try.func79 (by rfl) rfl rfl (Am rfl) ?_
 intro call hc;conv=>lhs;whnf
 revert h
 refine ca hc (fun y1 h=>(show CN n 80 [AV.agg [sA Ez,sA F0,bA F1,bA F2],AV.int .u8 G8] []=some (bA y1,[]) from Gv (r:=y1) h)) ?_;intro y1
 refine br ?_ ?_
 refine ca hc (fun _ h=>Fi h) ?_;intro y4
 refine br ?_ ?_
 exact rz
 refine ca hc (fun y7 h=>(show CN n 80 [AV.agg [sA Ez,sA F0,bA F1,bA F2],AV.int .u8 G8] []=some (bA y7,[]) from Gv (r:=y7) h)) ?_;intro y7
 refine br ?_ ?_
 exact rz
 exact rz
 refine ca hc (fun y10 h=>(show CN n 80 [AV.agg [sA Ez,sA F0,bA F1,bA F2],AV.int .u8 G8] []=some (bA y10,[]) from Gv (r:=y10) h)) ?_;intro y10
 refine br ?_ ?_
 exact rz
 exact rz
theorem Oe {n:Nat} ⦃G8:Int⦄ ⦃A5c:(List A1)⦄ ⦃Ez:(List UInt8)⦄ ⦃F0:(List UInt8)⦄ ⦃F1:Bool⦄ ⦃F2:Bool⦄ ⦃r:Bool⦄:Jy n G8 A5c Ez F0 F1 F2=some r→CN n 81 [AV.int .u8 G8,AV.sl 5 (List.map A0 A5c),AV.ptr 0 0] [Ob.var 98 [sA Ez,sA F0,bA F1,bA F2]]=some (bA r,[Ob.var 98 [sA Ez,sA F0,bA F1,bA F2]]):=by
 intro h;rcases n with _|n;cases h
 rw[Jy] at h
 refine Ai Try.func81 (by rfl) rfl rfl (Am rfl) ?_
 intro call hc;conv=>lhs;whnf
 revert h
 refine ca hc (fun y1 h=>(show CN n 80 [AV.agg [sA Ez,sA F0,bA F1,bA F2],AV.int .u8 G8] []=some (bA y1,[]) from Gv (r:=y1) h)) ?_;intro y1
 refine br ?_ ?_
 refine ca hc (fun _ h=>Yl h) ?_;intro y4
 refine br ?_ ?_
 exact rz
 refine ca hc (fun y7 h=>(show CN n 80 [AV.agg [sA Ez,sA F0,bA F1,bA F2],AV.int .u8 G8] []=some (bA y7,[]) from Gv (r:=y7) h)) ?_;intro y7
 refine br ?_ ?_
 exact rz
 exact rz
 refine ca hc (fun y10 h=>(show CN n 80 [AV.agg [sA Ez,sA F0,bA F1,bA F2],AV.int .u8 G8] []=some (bA y10,[]) from Gv (r:=y10) h)) ?_;intro y10
 refine br ?_ ?_
 exact rz
 exact rz
theorem A8j {n:Nat} ⦃Ax:A3⦄ ⦃r:Bool⦄:W9 n Ax=some r→CN n 62 [AV.agg [iA Ax.At,sA Ax.H7,sA Ax.H8,AV.sl 5 (List.map A0 Ax.Et),AV.sl 5 (List.map A0 Ax.O6),bA Ax.N3,iA Ax.Be,iA Ax.Cv,iA Ax.Al]] []=some (bA r,[]):=by
 intro h;rcases n with _|n;cases h
 rw[W9] at h
 refine Ai Try.func62 (by rfl) rfl rfl (Am rfl) ?_
 intro call hc;conv=>lhs;whnf
 revert h
 refine ca hc (fun _ h=>Y6 h) ?_;intro y1
 refine br ?_ ?_
 refine br ?_ ?_
 exact rz
 refine br ?_ ?_
 refine ca hc (fun _ h=>Gv h) ?_;intro y6
 refine br ?_ ?_
 refine ca hc (fun _ h=>Oc h) ?_;intro y9
 refine br ?_ ?_
 refine ca hc (fun _ h=>Oc h) ?_;intro y12
 refine br ?_ ?_
 refine ca hc (fun _ h=>Oe h) ?_;intro y15
 refine br ?_ ?_
 refine ca hc (fun _ h=>Oe h) ?_;intro y18
 refine br ?_ ?_
 refine br ?_ ?_
 refine br ?_ ?_
 exact rz
 exact rz
 refine br ?_ ?_
 refine br ?_ ?_
 exact rz
 exact rz
 exact rz
 exact rz
 exact rz
 exact rz
 exact rz
 exact rz
 refine ca hc (fun _ h=>Oc h) ?_;intro y25
 refine br ?_ ?_
 refine ca hc (fun _ h=>Oc h) ?_;intro y28
 refine br ?_ ?_
 refine ca hc (fun _ h=>Oe h) ?_;intro y31
 refine br ?_ ?_
 refine ca hc (fun _ h=>Oe h) ?_;intro y34
 refine br ?_ ?_
 refine br ?_ ?_
 refine br ?_ ?_
 exact rz
 exact rz
 refine br ?_ ?_
 refine br ?_ ?_
 exact rz
 exact rz
 exact rz
 exact rz
 exact rz
 exact rz
 exact rz
 exact rz
theorem Yr {n:Nat} ⦃Ap:(List A3)⦄ ⦃r:Bool⦄:Qr n Ap=some r→CN n 49 [AV.sl 9 (List.map Aa Ap)] []=some (bA r,[]):=by
 intro h;rcases n with _|n;cases h
 rw[Qr] at h
 refine Ai Try.func49 (by rfl) rfl rfl (Am rfl) ?_
 intro call hc;conv=>lhs;whnf
 revert h
 refine ca hc (fun _ h=>A6i h) ?_;intro y1
 refine br ?_ ?_
 exact rz
 refine br ?_ ?_
 exact rz
 refine br ?_ ?_
 exact rz
 intro h;refine Av h ?_;clear h;intro o14 ho14 h
 refine lq (σ:=Int) (τ:=Unit) (ν:=Bool) 0 (fun s6 a8=>Bg 29 [(19,AV.sl 9 (List.map Aa Ap)),(20,iA (((Ap.length:Nat):Int))),(21,iA s6)]) (fun s6 a8=>[]) (fun _ a20=>Bg 29 []) (fun _ a20=>[]) (fun v=>(bA v,[])) (fun k s=>Mn n Ap k s) (fun s=>rfl) o14 n 0 (fun _=>0) ho14 ?_ ?_
 intro k7 s6 a8 K9 cont10 hK11 hcont12 h hr13
 replace h:Mn n Ap (k7+1) s6=some o14:=h
 rw[Mn] at h
 conv=>lhs;whnf
 revert h
 refine br ?_ ?_
 refine ix ?_;intro x16
 refine ca hc (fun _ h=>A8j h) ?_;intro y17
 refine br ?_ ?_
 exact fun h=>cq (hcont12 (IntKind.i64.wrap (s6+1)) (fun _=>0) h)
 intro h;cases sj h
 refine(hK11 _ _).trans ?_
 refine Eq.trans ?_ (Eq.symm (show _=some _ from hr13))
 conv=>lhs;whnf
 exact rq
 intro h;cases sj h
 exact kq (hr13 (fun _=>0))
 refine lrc ?_ ?_
 intro v e;subst e;cases sj h;rfl
 intro t a20 e;subst e
 dsimp only at h
 conv=>lhs;whnf
 revert h
 exact rz
theorem A8a {n:Nat} ⦃Ax:A3⦄ ⦃r:(List UInt8)⦄:Wj n Ax=some r→CN n 66 [AV.agg [iA Ax.At,sA Ax.H7,sA Ax.H8,AV.sl 5 (List.map A0 Ax.Et),AV.sl 5 (List.map A0 Ax.O6),bA Ax.N3,iA Ax.Be,iA Ax.Cv,iA Ax.Al]] []=some (sA r,[]):=by
 intro h;rcases n with _|n;cases h
 rw[Wj] at h
 refine Ai Try.func66 (by rfl) rfl rfl (Am rfl) ?_
 intro call hc;conv=>lhs;whnf
 revert h
 refine ca hc (fun _ h=>Y6 h) ?_;intro y1
 intro h;refine Av h ?_;clear h;intro o13 ho13 h
 refine lq (σ:=((List UInt8)×Int×Bool)) (τ:=((List UInt8)×Bool)) (ν:=(List UInt8)) 0 (fun(s3,s4,s5) a7=>Bg 76 [(1,AV.ptr 0 0),(3,AV.ptr 1 0),(5,sA s3),(18,iA (((y1.1.f_form.length:Nat):Int))),(19,iA s4)]) (fun(s3,s4,s5) a7=>[Ob.var 73 [iA Ax.At,sA Ax.H7,sA Ax.H8,AV.sl 5 (List.map A0 Ax.Et),AV.sl 5 (List.map A0 Ax.O6),bA s5,iA Ax.Be,iA Ax.Cv,iA Ax.Al],Ob.var 98 [sA y1.1.f_word,sA y1.1.f_form,bA y1.1.f_body,bA y1.1.f_more]]) (fun(x41,x42) a40=>Bg 76 [(5,sA x41)]) (fun(x41,x42) a40=>[Ob.var 73 [iA Ax.At,sA Ax.H7,sA Ax.H8,AV.sl 5 (List.map A0 Ax.Et),AV.sl 5 (List.map A0 Ax.O6),bA x42,iA Ax.Be,iA Ax.Cv,iA Ax.Al],Ob.var 98 [sA y1.1.f_word,sA y1.1.f_form,bA y1.1.f_body,bA y1.1.f_more]]) (fun v=>(sA v,[])) (fun k s=>Er n Ax y1 k s.1 s.2.1 s.2.2) (fun s=>rfl) o13 n (y1.1.f_word,0,Ax.N3) (fun _=>0) ho13 ?_ ?_
 intro k6 ss a7 K8 cont9 hK10 hcont11 h hr12
 obtain⟨s3,s4,s5⟩:=ss
 replace h:Er n Ax y1 (k6+1) s3 s4 s5=some o13:=h
 rw[Er] at h
 conv=>lhs;whnf
 revert h
 refine br ?_ ?_
 refine ixs ?_;intro x15
 refine br ?_ ?_
 intro h
 refine B0 h ?_;clear h;intro hc17 h
 refine B1 hc17 ?_
 try simp only[ls]
 conv=>lhs;whnf
 revert h
 intro h
 refine B0 h ?_;clear h;intro hc18 h
 refine B1 hc18 ?_
 try simp only[ls]
 conv=>lhs;whnf
 revert h
 exact fun h=>cq (hcont11 ((s3++(([32]:List UInt8)++Ax.H7)),IntKind.i64.wrap (s4+1),s5) (fun _=>0) h)
 refine br ?_ ?_
 intro h
 refine B0 h ?_;clear h;intro hc20 h
 refine B1 hc20 ?_
 try simp only[ls]
 conv=>lhs;whnf
 revert h
 intro h
 refine B0 h ?_;clear h;intro hc21 h
 refine B1 hc21 ?_
 try simp only[ls]
 conv=>lhs;whnf
 revert h
 exact fun h=>cq (hcont11 ((s3++(([32]:List UInt8)++Ax.H8)),IntKind.i64.wrap (s4+1),s5) (fun _=>0) h)
 refine br ?_ ?_
 refine ca hc (fun _ h=>Un h) ?_;intro y23
 intro h
 refine B0 h ?_;clear h;intro hc25 h
 refine B1 hc25 ?_
 try simp only[ls]
 conv=>lhs;whnf
 revert h
 intro h
 refine B0 h ?_;clear h;intro hc26 h
 refine B1 hc26 ?_
 try simp only[ls]
 conv=>lhs;whnf
 revert h
 exact fun h=>cq (hcont11 ((s3++(([32]:List UInt8)++y23)),IntKind.i64.wrap (s4+1),s5) (fun _=>0) h)
 refine br ?_ ?_
 refine ca hc (fun _ h=>Un h) ?_;intro y28
 intro h
 refine B0 h ?_;clear h;intro hc30 h
 refine B1 hc30 ?_
 try simp only[ls]
 conv=>lhs;whnf
 revert h
 intro h
 refine B0 h ?_;clear h;intro hc31 h
 refine B1 hc31 ?_
 try simp only[ls]
 conv=>lhs;whnf
 revert h
 exact fun h=>cq (hcont11 ((s3++(([32]:List UInt8)++y28)),IntKind.i64.wrap (s4+1),s5) (fun _=>0) h)
 refine br ?_ ?_
 refine br ?_ ?_
 intro h
 refine B0 h ?_;clear h;intro hc34 h
 refine B1 hc34 ?_
 try simp only[ls]
 conv=>lhs;whnf
 revert h
 exact fun h=>cq (hcont11 ((s3++([32,33,61]:List UInt8)),IntKind.i64.wrap (s4+1),true) (fun _=>0) h)
 intro h
 refine B0 h ?_;clear h;intro hc35 h
 refine B1 hc35 ?_
 try simp only[ls]
 conv=>lhs;whnf
 revert h
 exact fun h=>cq (hcont11 ((s3++([32,61,61]:List UInt8)),IntKind.i64.wrap (s4+1),false) (fun _=>0) h)
 refine br ?_ ?_
 intro h
 refine B0 h ?_;clear h;intro hc37 h
 refine B1 hc37 ?_
 try simp only[ls]
 conv=>lhs;whnf
 revert h
 exact fun h=>cq (hcont11 ((s3++([32,61]:List UInt8)),IntKind.i64.wrap (s4+1),s5) (fun _=>0) h)
 refine cp ?_
 intro h
 refine B0 h ?_;clear h;intro hc39 h
 refine B1 hc39 ?_
 try simp only[ls]
 conv=>lhs;whnf
 revert h
 exact fun h=>cq (hcont11 ((s3++([UInt8.ofNat (IntKind.i32.wrap ((x15.toNat:Int))).toNat])),IntKind.i64.wrap (s4+1),s5) (fun _=>0) h)
 intro h;cases sj h
 exact kq (hr12 (fun _=>0))
 refine lrc ?_ ?_
 intro v e;subst e;cases sj h;rfl
 intro t a40 e;subst e
 obtain⟨x41,x42⟩:=t
 dsimp only at h
 conv=>lhs;whnf
 revert h
 exact rz
theorem W3 {n:Nat} ⦃Mx:Int⦄ ⦃r:(List UInt8)⦄:Qb n Mx=some r→CN n 65 [iA Mx] []=some (sA r,[]):=by
 intro h;rcases n with _|n;cases h
 rw[Qb] at h
 refine Ai Try.func65 (by rfl) rfl rfl (Am rfl) ?_
 intro call hc;conv=>lhs;whnf
 revert h
 intro h;refine Av h ?_;clear h;intro o10 ho10 h
 refine lq (σ:=((List UInt8)×Int)) (τ:=(List UInt8)) (ν:=(List UInt8)) 0 (fun(s1,s2) a4=>Bg 11 [(3,sA s1),(4,iA Mx),(5,iA s2)]) (fun(s1,s2) a4=>[]) (fun x14 a13=>Bg 11 [(3,sA x14)]) (fun x14 a13=>[]) (fun v=>(sA v,[])) (fun k s=>Oo n Mx k s.1 s.2) (fun s=>rfl) o10 n (([]:List UInt8),0) (fun _=>0) ho10 ?_ ?_
 intro k3 ss a4 K5 cont6 hK7 hcont8 h hr9
 obtain⟨s1,s2⟩:=ss
 replace h:Oo n Mx (k3+1) s1 s2=some o10:=h
 rw[Oo] at h
 conv=>lhs;whnf
 revert h
 refine br ?_ ?_
 intro h
 refine B0 h ?_;clear h;intro hc12 h
 refine B1 hc12 ?_
 try simp only[ls]
 conv=>lhs;whnf
 revert h
 exact fun h=>cq (hcont8 ((s1++([32,32]:List UInt8)),IntKind.i64.wrap (s2+1)) (fun _=>0) h)
 intro h;cases sj h
 exact kq (hr9 (fun _=>0))
 refine lrc ?_ ?_
 intro v e;subst e;cases sj h;rfl
 intro x14 a13 e;subst e
 dsimp only at h
 conv=>lhs;whnf
 revert h
 exact rz
def Qq (n:Nat):Prop:=∀ ⦃Ap:(List A3)⦄ ⦃Dt:Int⦄ ⦃Dk:Int⦄ ⦃Xi:Int⦄ ⦃r:(List UInt8)⦄,P0 n Ap Dt Dk Xi=some r→CN n 50 [AV.sl 9 (List.map Aa Ap),iA Dt,iA Dk,iA Xi] []=some (sA r,[])
def Rm (n:Nat):Prop:=∀ ⦃G7:Int⦄ ⦃Ko:Int⦄ ⦃Mo:Int⦄ ⦃o0:(List UInt8)⦄ ⦃o1:Int⦄ ⦃o2:(List A3)⦄ ⦃r:(Bool×(List UInt8))⦄,Mg n G7 Ko Mo o0 o1 o2=some r→CN n 64 [iA G7,iA Ko,iA Mo,AV.ptr 0 0,AV.ptr 1 0,AV.ptr 2 0] [Ob.var 9 [sA o0],Ob.var 3 [iA o1],Ob.var 38 [AV.sl 9 (List.map Aa o2)]]=some (bA r.1,[Ob.var 9 [sA r.2],Ob.var 3 [iA o1],Ob.var 38 [AV.sl 9 (List.map Aa o2)]])
def J7 (n:Nat):Prop:=∀ ⦃Ap:(List A3)⦄ ⦃Dt:Int⦄ ⦃Dk:Int⦄ ⦃o0:(List UInt8)⦄ ⦃o1:Int⦄ ⦃o2:(List A3)⦄ ⦃r:(Bool×(List UInt8))⦄,Jr n Ap Dt Dk o0 o1 o2=some r→CN n 63 [AV.sl 9 (List.map Aa Ap),iA Dt,iA Dk,AV.func 64 [] [AV.ptr 0 0,AV.ptr 1 0,AV.ptr 2 0]] [Ob.var 9 [sA o0],Ob.var 3 [iA o1],Ob.var 38 [AV.sl 9 (List.map Aa o2)]]=some (bA r.1,[Ob.var 9 [sA r.2],Ob.var 3 [iA o1],Ob.var 38 [AV.sl 9 (List.map Aa o2)]])
def Qs (n:Nat):Prop:=Qq n∧Rm n∧J7 n
theorem A9v (n:Nat) (ih:Qs n):Qq (n+1):=by
 intro Ap Dt Dk Xi r h
 rw[P0] at h
 refine Ai Try.func50 (by rfl) rfl rfl (Am rfl) ?_
 intro call hc;conv=>lhs;whnf
 revert h
 refine cr hc (fun _ h=>ih.2.2 h) ?_;intro y1
 exact rz
theorem A4j (n:Nat) (ih:Qs n):Rm (n+1):=by
 intro G7 Ko Mo o0 o1 o2 r h
 rw[Mg] at h
 refine Ai Try.func64 (by rfl) rfl rfl (Am rfl) ?_
 intro call hc;conv=>lhs;whnf
 revert h
 refine ca hc (fun _ h=>W3 h) ?_;intro y1
 refine ix ?_;intro x3
 refine ca hc (fun _ h=>A8a h) ?_;intro y4
 intro h
 refine B0 h ?_;clear h;intro hc6 h
 refine B1 hc6 ?_
 try simp only[ls]
 conv=>lhs;whnf
 revert h
 intro h
 refine B0 h ?_;clear h;intro hc7 h
 refine B1 hc7 ?_
 try simp only[ls]
 conv=>lhs;whnf
 revert h
 refine ix ?_;intro x8
 refine ca hc (fun _ h=>Yu h) ?_;intro y9
 refine br ?_ ?_
 refine ca hc (fun _ h=>ih.1 h) ?_;intro y12
 intro h
 refine B0 h ?_;clear h;intro hc14 h
 refine B1 hc14 ?_
 try simp only[ls]
 conv=>lhs;whnf
 revert h
 refine ca hc (fun _ h=>W3 h) ?_;intro y15
 intro h
 refine B0 h ?_;clear h;intro hc17 h
 refine B1 hc17 ?_
 try simp only[ls]
 conv=>lhs;whnf
 revert h
 intro h
 refine B0 h ?_;clear h;intro hc18 h
 refine B1 hc18 ?_
 try simp only[ls]
 conv=>lhs;whnf
 revert h
 refine br ?_ ?_
 refine ca hc (fun _ h=>ih.1 h) ?_;intro y20
 intro h
 refine B0 h ?_;clear h;intro hc22 h
 refine B1 hc22 ?_
 try simp only[ls]
 conv=>lhs;whnf
 revert h
 refine ca hc (fun _ h=>W3 h) ?_;intro y23
 intro h
 refine B0 h ?_;clear h;intro hc25 h
 refine B1 hc25 ?_
 try simp only[ls]
 conv=>lhs;whnf
 revert h
 intro h
 refine B0 h ?_;clear h;intro hc26 h
 refine B1 hc26 ?_
 try simp only[ls]
 conv=>lhs;whnf
 revert h
 intro h
 refine B0 h ?_;clear h;intro hc27 h
 refine B1 hc27 ?_
 try simp only[ls]
 conv=>lhs;whnf
 revert h
 intro h
 refine B0 h ?_;clear h;intro hc28 h
 refine B1 hc28 ?_
 try simp only[ls]
 conv=>lhs;whnf
 revert h
 exact rz
 intro h
 refine B0 h ?_;clear h;intro hc29 h
 refine B1 hc29 ?_
 try simp only[ls]
 conv=>lhs;whnf
 revert h
 intro h
 refine B0 h ?_;clear h;intro hc30 h
 refine B1 hc30 ?_
 try simp only[ls]
 conv=>lhs;whnf
 revert h
 exact rz
 intro h
 refine B0 h ?_;clear h;intro hc31 h
 refine B1 hc31 ?_
 try simp only[ls]
 conv=>lhs;whnf
 revert h
 exact rz
theorem Up (n:Nat) (ih:Qs n):J7 (n+1):=by
 intro Ap Dt Dk o0 o1 o2 r h
 rw[Jr] at h
 refine Ai Try.func63 (by rfl) rfl rfl (Am rfl) ?_
 intro call hc;conv=>lhs;whnf
 revert h
 intro h;refine Av h ?_;clear h;intro o10 ho10 h
 refine lq (σ:=(Int×(List UInt8))) (τ:=(List UInt8)) (ν:=(Bool×(List UInt8))) 0 (fun(s1,s2) a4=>Bg 63 [(0,AV.sl 9 (List.map Aa Ap)),(1,iA s1),(2,iA Dk),(3,AV.func 64 [] [AV.ptr 0 0,AV.ptr 1 0,AV.ptr 2 0])]) (fun(s1,s2) a4=>[Ob.var 9 [sA s2],Ob.var 3 [iA o1],Ob.var 38 [AV.sl 9 (List.map Aa o2)]]) (fun x21 a20=>Bg 63 []) (fun x21 a20=>[Ob.var 9 [sA x21],Ob.var 3 [iA o1],Ob.var 38 [AV.sl 9 (List.map Aa o2)]]) (fun v=>(bA v.1,[Ob.var 9 [sA v.2],Ob.var 3 [iA o1],Ob.var 38 [AV.sl 9 (List.map Aa o2)]])) (fun k s=>Fj n (Mg n) Ap Dk o1 o2 k s.1 s.2) (fun s=>rfl) o10 n (Dt,o0) (fun _=>0) ho10 ?_ ?_
 intro k3 ss a4 K5 cont6 hK7 hcont8 h hr9
 obtain⟨s1,s2⟩:=ss
 replace h:Fj n (Mg n) Ap Dk o1 o2 (k3+1) s1 s2=some o10:=h
 rw[Fj] at h
 conv=>lhs;whnf
 revert h
 refine br ?_ ?_
 refine ix ?_;intro x12
 refine br ?_ ?_
 intro h;cases sj h
 refine(hK7 _ _).trans ?_
 refine Eq.trans ?_ (Eq.symm (show _=some _ from hr9))
 conv=>lhs;whnf
 exact rq
 refine br ?_ ?_
 intro h;cases sj h
 refine(hK7 _ _).trans ?_
 refine Eq.trans ?_ (Eq.symm (show _=some _ from hr9))
 conv=>lhs;whnf
 exact rq
 refine br ?_ ?_
 intro h;cases sj h
 refine(hK7 _ _).trans ?_
 refine Eq.trans ?_ (Eq.symm (show _=some _ from hr9))
 conv=>lhs;whnf
 exact rq
 refine br ?_ ?_
 intro h;cases sj h
 refine(hK7 _ _).trans ?_
 refine Eq.trans ?_ (Eq.symm (show _=some _ from hr9))
 conv=>lhs;whnf
 exact rq
 refine ca hc (fun _ h=>ih.2.1 h) ?_;intro y17
 refine br ?_ ?_
 exact fun h=>cq (hcont8 (IntKind.i64.wrap ((IntKind.i64.wrap ((IntKind.i64.wrap (s1+1))+x12.Be))+x12.Cv),y17.2) (fun _=>0) h)
 intro h;cases sj h
 refine(hK7 _ _).trans ?_
 refine Eq.trans ?_ (Eq.symm (show _=some _ from hr9))
 conv=>lhs;whnf
 exact rq
 intro h;cases sj h
 exact kq (hr9 (fun _=>0))
 refine lrc ?_ ?_
 intro v e;subst e;cases sj h;rfl
 intro x21 a20 e;subst e
 dsimp only at h
 conv=>lhs;whnf
 revert h
 exact rz
theorem Yp:∀ n,Qs n
 | 0=>⟨by unfold Qq;intros;rename_i h;exact absurd h (by intro h;cases h),by unfold Rm;intros;rename_i h;exact absurd h (by intro h;cases h),by unfold J7;intros;rename_i h;exact absurd h (by intro h;cases h)⟩
 | n+1=>have ih:=Yp n
   ⟨A9v n ih,A4j n ih,Up n ih⟩
theorem A9m {n:Nat}:Qq n:=(Yp n).1
theorem A0k {n:Nat} ⦃Ap:(List A3)⦄ ⦃Tx:Int⦄ ⦃r:(List UInt8)⦄:Rx n Ap Tx=some r→CN n 24 [AV.sl 9 (List.map Aa Ap),iA Tx] []=some (sA r,[]):=by
 intro h;rcases n with _|n;cases h
 rw[Rx] at h
 refine Ai Try.func24 (by rfl) rfl rfl (Am rfl) ?_
 intro call hc;conv=>lhs;whnf
 revert h
 refine br ?_ ?_
 exact rz
 refine br ?_ ?_
 exact rz
 refine ca hc (fun _ h=>Yr h) ?_;intro y3
 refine br ?_ ?_
 refine cr hc (fun _ h=>A9m h) ?_;intro y6
 exact rz
 exact rz
theorem Sp {n:Nat} ⦃Ap:(List A1)⦄ ⦃r:(List A1)⦄:Nq n Ap=some r→CN n 34 [AV.sl 5 (List.map A0 Ap)] []=some (AV.sl 5 (List.map A0 r),[]):=by
 intro h;rcases n with _|n;cases h
 rw[Nq] at h
 refine Ai Try.func34 (by rfl) rfl rfl (Am rfl) ?_
 intro call hc;conv=>lhs;whnf
 revert h
 refine cn ?_
 refine br ?_ ?_
 intro h;refine Av h ?_;clear h;intro o12 ho12 h
 refine lq (σ:=(Int×(List A1))) (τ:=(List A1)) (ν:=(List A1)) 0 (fun(s3,s4) a6=>Bg 18 [(3,AV.stk 0 (a6 0) (List.length s4)),(8,iA ((((([]:List A1)).length:Nat):Int))),(9,iA s3)]) (fun(s3,s4) a6=>[Ob.stk (a6 0) 47 5 (List.map A0 s4)]) (fun x17 a16=>Bg 18 [(3,AV.stk 0 (a16 0) (List.length x17))]) (fun x17 a16=>[Ob.stk (a16 0) 47 5 (List.map A0 x17)]) (fun v=>(AV.sl 5 (List.map A0 v),[])) (fun k s=>M7 n k s.1 s.2) (fun s=>rfl) o12 n (0,([]:List A1)) (fun j=>(bif Nat.beq j 0 then 0 else 0)) ho12 ?_ ?_
 intro k5 ss a6 K7 cont8 hK9 hcont10 h hr11
 obtain⟨s3,s4⟩:=ss
 replace h:M7 n (k5+1) s3 s4=some o12:=h
 rw[M7] at h
 conv=>lhs;whnf
 revert h
 refine br ?_ ?_
 intro h
 refine Av h ?_;clear h;intro x14 hx14 h
 try simp only[Eo]
 conv=>lhs;whnf
 try simp only[ls]
 refine B1 (by first|exact H1 hx14|exact Q7 hx14|exact Ur hx14|exact Id hx14|(have q:=H1 hx14;simp only[List.length_set] at q;exact q)|(have q:=Id hx14;simp only[List.length_set,Nat.zero_add] at q ⊢;exact q)) ?_
 conv=>lhs;whnf
 try simp only[K0 (f:=A0) hx14,Eo,ls]
 conv=>lhs;whnf
 revert h
 intro h
 have hs15:Cb (List.map A0 s4) s3.toNat [iA x14.Bm,iA x14.C2,sA x14.An,sA x14.Dd,iA (0)]=List.map A0 (List.set s4 s3.toNat (⟨x14.Bm,x14.C2,x14.An,x14.Dd,0⟩:A1)):=by rw[Bw,List.map_set];rfl
 have hs15_u:Cb (List.map A0 s4) s3.toNat (Ks (A0 x14) 4 [iA (0)])=List.map A0 (List.set s4 s3.toNat (⟨x14.Bm,x14.C2,x14.An,x14.Dd,0⟩:A1)):=by rw[Bw,List.map_set];rfl
 try simp only[K0 (f:=A0) hx14,Eo]
 conv=>lhs;whnf
 try simp only[hs15,hs15_u,Eo]
 conv=>lhs;whnf
 revert h
 exact fun h=>cq (hcont10 (IntKind.i64.wrap (s3+1),(List.set s4 s3.toNat (⟨x14.Bm,x14.C2,x14.An,x14.Dd,0⟩:A1))) (fun j=>(bif Nat.beq j 0 then(a6 0) else 0)) h)
 intro h;cases sj h
 exact kq (hr11 (fun j=>(bif Nat.beq j 0 then(a6 0) else 0)))
 refine lrc ?_ ?_
 intro v e;subst e;cases sj h;rfl
 intro x17 a16 e;subst e
 dsimp only at h
 conv=>lhs;whnf
 revert h
 intro h;obtain rfl:=sj h
 try simp only[ls]
 exact fq (y:=some (AV.sl 5 (List.take (List.length x17) (List.map A0 x17)),[]))
 intro h;refine Av h ?_;clear h;intro o28 ho28 h
 refine lq (σ:=(Int×(List A1))) (τ:=(List A1)) (ν:=(List A1)) 0 (fun(s19,s20) a22=>Bg 18 [(3,AV.own 0 0 (List.length s20)),(8,iA (((Ap.length:Nat):Int))),(9,iA s19)]) (fun(s19,s20) a22=>[Ob.arr 5 (List.map A0 s20)]) (fun x33 a32=>Bg 18 [(3,AV.own 0 0 (List.length x33))]) (fun x33 a32=>[Ob.arr 5 (List.map A0 x33)]) (fun v=>(AV.sl 5 (List.map A0 v),[])) (fun k s=>Ml n Ap k s.1 s.2) (fun s=>rfl) o28 n (0,Ap) (fun _=>0) ho28 ?_ ?_
 intro k21 ss a22 K23 cont24 hK25 hcont26 h hr27
 obtain⟨s19,s20⟩:=ss
 replace h:Ml n Ap (k21+1) s19 s20=some o28:=h
 rw[Ml] at h
 conv=>lhs;whnf
 revert h
 refine br ?_ ?_
 intro h
 refine Av h ?_;clear h;intro x30 hx30 h
 try simp only[ls]
 refine B1 (by first|exact H1 hx30|exact Q7 hx30|exact Ur hx30|exact Id hx30|(have q:=H1 hx30;simp only[List.length_set] at q;exact q)|(have q:=Id hx30;simp only[List.length_set,Nat.zero_add] at q ⊢;exact q)) ?_
 conv=>lhs;whnf
 try simp only[Nat.zero_add,K0 (f:=A0) hx30,Eo,ls]
 conv=>lhs;whnf
 revert h
 intro h
 have hs31:Cb (List.map A0 s20) s19.toNat [iA x30.Bm,iA x30.C2,sA x30.An,sA x30.Dd,iA (0)]=List.map A0 (List.set s20 s19.toNat (⟨x30.Bm,x30.C2,x30.An,x30.Dd,0⟩:A1)):=by rw[Bw,List.map_set];rfl
 have hs31_u:Cb (List.map A0 s20) s19.toNat (Ks (A0 x30) 4 [iA (0)])=List.map A0 (List.set s20 s19.toNat (⟨x30.Bm,x30.C2,x30.An,x30.Dd,0⟩:A1)):=by rw[Bw,List.map_set];rfl
 try simp only[Nat.zero_add,K0 (f:=A0) hx30]
 conv=>lhs;whnf
 try simp only[hs31,hs31_u]
 conv=>lhs;whnf
 revert h
 exact fun h=>cq (hcont26 (IntKind.i64.wrap (s19+1),(List.set s20 s19.toNat (⟨x30.Bm,x30.C2,x30.An,x30.Dd,0⟩:A1))) (fun _=>0) h)
 intro h;cases sj h
 exact kq (hr27 (fun _=>0))
 refine lrc ?_ ?_
 intro v e;subst e;cases sj h;rfl
 intro x33 a32 e;subst e
 dsimp only at h
 conv=>lhs;whnf
 revert h
 intro h;obtain rfl:=sj h
 try simp only[ls]
 exact fq (y:=some (AV.sl 5 (List.take (List.length x33) (List.drop 0 (List.map A0 x33))),[]))
theorem A9z {n:Nat} ⦃As:B7⦄ ⦃r:B7⦄:Vz n As=some r→CN n 9 [AV.agg [iA As.Bz,AV.sl 3 (List.map Aj As.B8),AV.sl 4 (List.map A9 As.Ak),AV.sl 3 (List.map Ag As.Ar)]] []=some (AV.agg [iA r.Bz,AV.sl 3 (List.map Aj r.B8),AV.sl 4 (List.map A9 r.Ak),AV.sl 3 (List.map Ag r.Ar)],[]):=by
 intro h;rcases n with _|n;cases h
 rw[Vz] at h
 refine Ai Try.func9 (by rfl) rfl rfl (Am rfl) ?_
 intro call hc;conv=>lhs;whnf
 revert h
 intro h;refine Av h ?_;clear h;intro o10 ho10 h
 refine lq (σ:=(Int×(List B4))) (τ:=(List B4)) (ν:=B7) 0 (fun(s1,s2) a4=>Bg 97 [(1,AV.ptr 0 0),(2,AV.ptr 1 0),(3,AV.ptr 2 0),(17,AV.sl 3 (List.map Aj As.B8)),(18,iA (((As.B8.length:Nat):Int))),(19,iA s1)]) (fun(s1,s2) a4=>[Ob.var 27 [iA As.Bz,AV.sl 3 (List.map Aj As.B8),AV.sl 4 (List.map A9 As.Ak),AV.sl 3 (List.map Ag As.Ar)],Ob.var 27 [iA (0),AV.row 3 (List.length (([]:List B4))),AV.row 4 (List.length (([]:List Ad))),AV.row 5 (List.length (([]:List Af)))],Ob.var 27 [iA As.Bz,AV.row 6 (List.length s2),AV.row 7 (List.length (([]:List Ad))),AV.row 8 (List.length (([]:List Af)))],Ob.row 45 3 ([]),Ob.row 40 4 ([]),Ob.row 43 3 ([]),Ob.row 45 3 (List.map Aj s2),Ob.row 40 4 ([]),Ob.row 43 3 ([])]) (fun x16 a15=>Bg 97 [(1,AV.ptr 0 0),(2,AV.ptr 1 0),(3,AV.ptr 2 0)]) (fun x16 a15=>[Ob.var 27 [iA As.Bz,AV.sl 3 (List.map Aj As.B8),AV.sl 4 (List.map A9 As.Ak),AV.sl 3 (List.map Ag As.Ar)],Ob.var 27 [iA (0),AV.row 3 (List.length (([]:List B4))),AV.row 4 (List.length (([]:List Ad))),AV.row 5 (List.length (([]:List Af)))],Ob.var 27 [iA As.Bz,AV.row 6 (List.length x16),AV.row 7 (List.length (([]:List Ad))),AV.row 8 (List.length (([]:List Af)))],Ob.row 45 3 ([]),Ob.row 40 4 ([]),Ob.row 43 3 ([]),Ob.row 45 3 (List.map Aj x16),Ob.row 40 4 ([]),Ob.row 43 3 ([])]) (fun v=>(AV.agg [iA v.Bz,AV.sl 3 (List.map Aj v.B8),AV.sl 4 (List.map A9 v.Ak),AV.sl 3 (List.map Ag v.Ar)],[])) (fun k s=>O0 n As k s.1 s.2) (fun s=>rfl) o10 n (0,([]:List B4)) (fun _=>0) ho10 ?_ ?_
 intro k3 ss a4 K5 cont6 hK7 hcont8 h hr9
 obtain⟨s1,s2⟩:=ss
 replace h:O0 n As (k3+1) s1 s2=some o10:=h
 rw[O0] at h
 conv=>lhs;whnf
 revert h
 refine br ?_ ?_
 refine ix ?_;intro x12
 refine ar (ap Aj (List.map Aj s2) s2 ([[sA x12.An,iA x12.C2,iA (0)]]) ([(⟨x12.An,x12.C2,0⟩:B4)]:List B4)) ?_
 exact fun h=>cq (hcont8 (IntKind.i64.wrap (s1+1),(s2++([(⟨x12.An,x12.C2,0⟩:B4)]:List B4))) (fun _=>0) h)
 intro h;cases sj h
 exact kq (hr9 (fun _=>0))
 refine lrc ?_ ?_
 intro v e;subst e;cases sj h;rfl
 intro x16 a15 e;subst e
 dsimp only at h
 conv=>lhs;whnf
 revert h
 intro h;refine Av h ?_;clear h;intro o26 ho26 h
 refine lq (σ:=(Int×(List Ad))) (τ:=(List Ad)) (ν:=B7) 2 (fun(s17,s18) a20=>Bg 97 [(1,AV.ptr 0 0),(2,AV.ptr 1 0),(3,AV.ptr 2 0),(35,AV.sl 4 (List.map A9 As.Ak)),(36,iA (((As.Ak.length:Nat):Int))),(37,iA s17)]) (fun(s17,s18) a20=>[Ob.var 27 [iA As.Bz,AV.sl 3 (List.map Aj As.B8),AV.sl 4 (List.map A9 As.Ak),AV.sl 3 (List.map Ag As.Ar)],Ob.var 27 [iA (0),AV.row 3 (List.length (([]:List B4))),AV.row 4 (List.length (([]:List Ad))),AV.row 5 (List.length (([]:List Af)))],Ob.var 27 [iA As.Bz,AV.row 6 (List.length x16),AV.row 7 (List.length s18),AV.row 8 (List.length (([]:List Af)))],Ob.row 45 3 ([]),Ob.row 40 4 ([]),Ob.row 43 3 ([]),Ob.row 45 3 (List.map Aj x16),Ob.row 40 4 (List.map A9 s18),Ob.row 43 3 ([])]) (fun x54 a53=>Bg 97 [(1,AV.ptr 0 0),(2,AV.ptr 1 0),(3,AV.ptr 2 0)]) (fun x54 a53=>[Ob.var 27 [iA As.Bz,AV.sl 3 (List.map Aj As.B8),AV.sl 4 (List.map A9 As.Ak),AV.sl 3 (List.map Ag As.Ar)],Ob.var 27 [iA (0),AV.row 3 (List.length (([]:List B4))),AV.row 4 (List.length (([]:List Ad))),AV.row 5 (List.length (([]:List Af)))],Ob.var 27 [iA As.Bz,AV.row 6 (List.length x16),AV.row 7 (List.length x54),AV.row 8 (List.length (([]:List Af)))],Ob.row 45 3 ([]),Ob.row 40 4 ([]),Ob.row 43 3 ([]),Ob.row 45 3 (List.map Aj x16),Ob.row 40 4 (List.map A9 x54),Ob.row 43 3 ([])]) (fun v=>(AV.agg [iA v.Bz,AV.sl 3 (List.map Aj v.B8),AV.sl 4 (List.map A9 v.Ak),AV.sl 3 (List.map Ag v.Ar)],[])) (fun k s=>Ng n As k s.1 s.2) (fun s=>rfl) o26 n (0,([]:List Ad)) (fun _=>0) ho26 ?_ ?_
 intro k19 ss a20 K21 cont22 hK23 hcont24 h hr25
 obtain⟨s17,s18⟩:=ss
 replace h:Ng n As (k19+1) s17 s18=some o26:=h
 rw[Ng] at h
 conv=>lhs;whnf
 revert h
 refine br ?_ ?_
 refine ix ?_;intro x28
 refine cn ?_
 intro h;refine Av h ?_;clear h;intro o39 ho39 h
 refine lq (σ:=(Int×(List A3))) (τ:=(List A3)) (ν:=B7) 4 (fun(s30,s31) a33=>Bg 97 [(1,AV.ptr 0 0),(2,AV.ptr 1 0),(3,AV.ptr 2 0),(8,AV.ptr 10 0),(35,AV.sl 4 (List.map A9 As.Ak)),(36,iA (((As.Ak.length:Nat):Int))),(37,iA s17),(48,AV.sl 9 (List.map Aa x28.Be)),(49,iA (((x28.Be.length:Nat):Int))),(50,iA s30)]) (fun(s30,s31) a33=>[Ob.var 27 [iA As.Bz,AV.sl 3 (List.map Aj As.B8),AV.sl 4 (List.map A9 As.Ak),AV.sl 3 (List.map Ag As.Ar)],Ob.var 27 [iA (0),AV.row 3 (List.length (([]:List B4))),AV.row 4 (List.length (([]:List Ad))),AV.row 5 (List.length (([]:List Af)))],Ob.var 27 [iA As.Bz,AV.row 6 (List.length x16),AV.row 7 (List.length s18),AV.row 8 (List.length (([]:List Af)))],Ob.row 45 3 ([]),Ob.row 40 4 ([]),Ob.row 43 3 ([]),Ob.row 45 3 (List.map Aj x16),Ob.row 40 4 (List.map A9 s18),Ob.row 43 3 ([]),Ob.var 40 [sA x28.An,AV.sl 1 (List.map Fk x28.Bv),AV.sl 9 (List.map Aa x28.Be),iA x28.Al],Ob.var 40 [sA x28.An,AV.sl 1 (List.map Fk x28.Bv),AV.row 11 (List.length s31),iA (0)],Ob.row 73 9 (List.map Aa s31)]) (fun x49 a48=>Bg 97 [(1,AV.ptr 0 0),(2,AV.ptr 1 0),(3,AV.ptr 2 0),(8,AV.ptr 10 0),(35,AV.sl 4 (List.map A9 As.Ak)),(36,iA (((As.Ak.length:Nat):Int))),(37,iA s17)]) (fun x49 a48=>[Ob.var 27 [iA As.Bz,AV.sl 3 (List.map Aj As.B8),AV.sl 4 (List.map A9 As.Ak),AV.sl 3 (List.map Ag As.Ar)],Ob.var 27 [iA (0),AV.row 3 (List.length (([]:List B4))),AV.row 4 (List.length (([]:List Ad))),AV.row 5 (List.length (([]:List Af)))],Ob.var 27 [iA As.Bz,AV.row 6 (List.length x16),AV.row 7 (List.length s18),AV.row 8 (List.length (([]:List Af)))],Ob.row 45 3 ([]),Ob.row 40 4 ([]),Ob.row 43 3 ([]),Ob.row 45 3 (List.map Aj x16),Ob.row 40 4 (List.map A9 s18),Ob.row 43 3 ([]),Ob.var 40 [sA x28.An,AV.sl 1 (List.map Fk x28.Bv),AV.sl 9 (List.map Aa x28.Be),iA x28.Al],Ob.var 40 [sA x28.An,AV.sl 1 (List.map Fk x28.Bv),AV.row 11 (List.length x49),iA (0)],Ob.row 73 9 (List.map Aa x49)]) (fun v=>(AV.agg [iA v.Bz,AV.sl 3 (List.map Aj v.B8),AV.sl 4 (List.map A9 v.Ak),AV.sl 3 (List.map Ag v.Ar)],[])) (fun k s=>Nk n x28 k s.1 s.2) (fun s=>rfl) o39 n (0,([]:List A3)) (fun _=>0) ho39 ?_ ?_
 intro k32 ss a33 K34 cont35 hK36 hcont37 h hr38
 obtain⟨s30,s31⟩:=ss
 replace h:Nk n x28 (k32+1) s30 s31=some o39:=h
 rw[Nk] at h
 conv=>lhs;whnf
 revert h
 refine br ?_ ?_
 refine ix ?_;intro x41
 refine ca hc (fun _ h=>Sp h) ?_;intro y42
 refine ca hc (fun _ h=>Sp h) ?_;intro y44
 refine ar (ap Aa (List.map Aa s31) s31 ([[iA x41.At,sA x41.H7,sA x41.H8,AV.sl 5 (List.map A0 y42),AV.sl 5 (List.map A0 y44),bA x41.N3,iA x41.Be,iA x41.Cv,iA (0)]]) ([(⟨x41.At,x41.H7,x41.H8,y42,y44,x41.N3,x41.Be,x41.Cv,0⟩:A3)]:List A3)) ?_
 exact fun h=>cq (hcont37 (IntKind.i64.wrap (s30+1),(s31++([(⟨x41.At,x41.H7,x41.H8,y42,y44,x41.N3,x41.Be,x41.Cv,0⟩:A3)]:List A3))) (fun _=>0) h)
 intro h;cases sj h
 exact kq (hr38 (fun _=>0))
 refine lrc ?_ ?_
 intro v e;subst e;cases sj h;exact hr25
 intro x49 a48 e;subst e
 dsimp only at h
 conv=>lhs;whnf
 revert h
 refine ar (ap A9 (List.map A9 s18) s18 ([[sA x28.An,AV.sl 1 (List.map Fk x28.Bv),AV.sl 9 (List.map Aa x49),iA (0)]]) ([(⟨x28.An,x28.Bv,x49,0⟩:Ad)]:List Ad)) ?_
 exact fun h=>cq (hcont24 (IntKind.i64.wrap (s17+1),(s18++([(⟨x28.An,x28.Bv,x49,0⟩:Ad)]:List Ad))) (fun _=>0) h)
 intro h;cases sj h
 exact kq (hr25 (fun _=>0))
 refine lrc ?_ ?_
 intro v e;subst e;cases sj h;rfl
 intro x54 a53 e;subst e
 dsimp only at h
 conv=>lhs;whnf
 revert h
 intro h;refine Av h ?_;clear h;intro o64 ho64 h
 refine lq (σ:=(Int×(List Af))) (τ:=(List Af)) (ν:=B7) 6 (fun(s55,s56) a58=>Bg 97 [(2,AV.ptr 1 0),(3,AV.ptr 2 0),(78,AV.sl 3 (List.map Ag As.Ar)),(79,iA (((As.Ar.length:Nat):Int))),(80,iA s55)]) (fun(s55,s56) a58=>[Ob.var 27 [iA As.Bz,AV.sl 3 (List.map Aj As.B8),AV.sl 4 (List.map A9 As.Ak),AV.sl 3 (List.map Ag As.Ar)],Ob.var 27 [iA (0),AV.row 3 (List.length (([]:List B4))),AV.row 4 (List.length (([]:List Ad))),AV.row 5 (List.length (([]:List Af)))],Ob.var 27 [iA As.Bz,AV.row 6 (List.length x16),AV.row 7 (List.length x54),AV.row 8 (List.length s56)],Ob.row 45 3 ([]),Ob.row 40 4 ([]),Ob.row 43 3 ([]),Ob.row 45 3 (List.map Aj x16),Ob.row 40 4 (List.map A9 x54),Ob.row 43 3 (List.map Ag s56)]) (fun x72 a71=>Bg 97 [(2,AV.ptr 1 0),(3,AV.ptr 2 0)]) (fun x72 a71=>[Ob.var 27 [iA As.Bz,AV.sl 3 (List.map Aj As.B8),AV.sl 4 (List.map A9 As.Ak),AV.sl 3 (List.map Ag As.Ar)],Ob.var 27 [iA (0),AV.row 3 (List.length (([]:List B4))),AV.row 4 (List.length (([]:List Ad))),AV.row 5 (List.length (([]:List Af)))],Ob.var 27 [iA As.Bz,AV.row 6 (List.length x16),AV.row 7 (List.length x54),AV.row 8 (List.length x72)],Ob.row 45 3 ([]),Ob.row 40 4 ([]),Ob.row 43 3 ([]),Ob.row 45 3 (List.map Aj x16),Ob.row 40 4 (List.map A9 x54),Ob.row 43 3 (List.map Ag x72)]) (fun v=>(AV.agg [iA v.Bz,AV.sl 3 (List.map Aj v.B8),AV.sl 4 (List.map A9 v.Ak),AV.sl 3 (List.map Ag v.Ar)],[])) (fun k s=>Nx n As k s.1 s.2) (fun s=>rfl) o64 n (0,([]:List Af)) (fun _=>0) ho64 ?_ ?_
 intro k57 ss a58 K59 cont60 hK61 hcont62 h hr63
 obtain⟨s55,s56⟩:=ss
 replace h:Nx n As (k57+1) s55 s56=some o64:=h
 rw[Nx] at h
 conv=>lhs;whnf
 revert h
 refine br ?_ ?_
 refine ix ?_;intro x66
 refine ca hc (fun _ h=>Sp h) ?_;intro y67
 refine ar (ap Ag (List.map Ag s56) s56 ([[iA x66.At,AV.sl 5 (List.map A0 y67),iA (0)]]) ([(⟨x66.At,y67,0⟩:Af)]:List Af)) ?_
 exact fun h=>cq (hcont62 (IntKind.i64.wrap (s55+1),(s56++([(⟨x66.At,y67,0⟩:Af)]:List Af))) (fun _=>0) h)
 intro h;cases sj h
 exact kq (hr63 (fun _=>0))
 refine lrc ?_ ?_
 intro v e;subst e;cases sj h;rfl
 intro x72 a71 e;subst e
 dsimp only at h
 conv=>lhs;whnf
 revert h
 intro h;cases sj h
 try simp only[ls]
 exact fq (y:=some (AV.agg [iA As.Bz,AV.sl 3 (List.take (List.length x16) (List.map Aj x16)),AV.sl 4 (List.take (List.length x54) (List.map A9 x54)),AV.sl 3 (List.take (List.length x72) (List.map Ag x72))],[]))
theorem Ek {n:Nat} ⦃Su:Int⦄ ⦃Jo:Int⦄ ⦃p_l:(List A5)⦄ ⦃p_i:Int⦄ ⦃p_e:Int⦄ ⦃p_at:Int⦄ ⦃r:(Int×Int)⦄:Ca n Su Jo p_l p_i p_e p_at=some r→CN n 47 [AV.ptr 0 0,iA Su,iA Jo] [Ob.var 53 [AV.sl 4 (List.map A2 p_l),iA p_i,iA p_e,iA p_at]]=some (AV.tup [],[Ob.var 53 [AV.sl 4 (List.map A2 p_l),iA p_i,iA r.1,iA r.2]]):=by
 intro h;rcases n with _|n;cases h
 rw[Ca] at h
 refine Ai Try.func47 (by rfl) rfl rfl (Am rfl) ?_
 intro call hc;conv=>lhs;whnf
 revert h
 refine br ?_ ?_
 exact rz
 exact rz
theorem Aav {n:Nat} ⦃Ee:A5⦄ ⦃o0:Int⦄ ⦃o1:(List UInt8)⦄ ⦃r:Bool⦄:Sx n Ee o0 o1=some r→CN n 44 [AV.agg [iA Ee.At,sA Ee.A7,iA Ee.C2,iA Ee.Al],AV.ptr 0 0,AV.ptr 1 0] [Ob.var 3 [iA o0],Ob.var 9 [sA o1]]=some (bA r,[Ob.var 3 [iA o0],Ob.var 9 [sA o1]]):=by
 intro h;rcases n with _|n;cases h
 rw[Sx] at h
 refine Ai Try.func44 (by rfl) rfl rfl (Am rfl) ?_
 intro call hc;conv=>lhs;whnf
 revert h
 refine br ?_ ?_
 exact rz
 exact rz
theorem E9 {n:Nat} ⦃p_l:(List A5)⦄ ⦃p_i:Int⦄ ⦃p_e:Int⦄ ⦃p_at:Int⦄ ⦃o1:Int⦄ ⦃o2:(List UInt8)⦄ ⦃r:(A5×Bool×Int)⦄:Cy n p_l p_i p_e p_at o1 o2=some r→CN n 17 [AV.ptr 0 0,AV.func 44 [] [AV.ptr 1 0,AV.ptr 2 0]] [Ob.var 53 [AV.sl 4 (List.map A2 p_l),iA p_i,iA p_e,iA p_at],Ob.var 3 [iA o1],Ob.var 9 [sA o2]]=some (AV.tup [AV.agg [iA r.1.At,sA r.1.A7,iA r.1.C2,iA r.1.Al],bA r.2.1],[Ob.var 53 [AV.sl 4 (List.map A2 p_l),iA r.2.2,iA p_e,iA p_at],Ob.var 3 [iA o1],Ob.var 9 [sA o2]]):=by
 intro h;rcases n with _|n;cases h
 rw[Cy] at h
 refine Ai Try.func17 (by rfl) rfl rfl (Am rfl) ?_
 intro call hc;conv=>lhs;whnf
 revert h
 refine br ?_ ?_
 exact rz
 refine br ?_ ?_
 exact rz
 refine ix ?_;intro x3
 refine ca hc (fun _ h=>Aav h) ?_;intro y4
 refine br ?_ ?_
 refine ix ?_;intro x7
 exact rz
 exact rz
theorem Is {n:Nat} ⦃p_l:(List A5)⦄ ⦃p_i:Int⦄ ⦃p_e:Int⦄ ⦃p_at:Int⦄ ⦃r:(Int×Int)⦄:Dg n p_l p_i p_e p_at=some r→CN n 22 [AV.ptr 0 0] [Ob.var 53 [AV.sl 4 (List.map A2 p_l),iA p_i,iA p_e,iA p_at]]=some (AV.tup [],[Ob.var 53 [AV.sl 4 (List.map A2 p_l),iA p_i,iA r.1,iA r.2]]):=by
 intro h;rcases n with _|n;cases h
 rw[Dg] at h
 refine Ai Try.func22 (by rfl) rfl rfl (Am rfl) ?_
 intro call hc;conv=>lhs;whnf
 revert h
 refine br ?_ ?_
 refine ix ?_;intro x2
 refine ca hc (fun _ h=>Ek h) ?_;intro y3
 exact rz
 refine br ?_ ?_
 refine ix ?_;intro x6
 refine ix ?_;intro x7
 refine cr hc (fun _ h=>Ek h) ?_;intro y8
 exact rz
 refine ca hc (fun _ h=>Ek h) ?_;intro y10
 exact rz
theorem R6 {n:Nat} ⦃p_l:(List A5)⦄ ⦃p_i:Int⦄ ⦃p_e:Int⦄ ⦃p_at:Int⦄ ⦃o1:Int⦄ ⦃o2:(List UInt8)⦄ ⦃r:(A5×Int×Int×Int)⦄:H6 n p_l p_i p_e p_at o1 o2=some r→CN n 13 [AV.ptr 0 0,AV.func 44 [] [AV.ptr 1 0,AV.ptr 2 0]] [Ob.var 53 [AV.sl 4 (List.map A2 p_l),iA p_i,iA p_e,iA p_at],Ob.var 3 [iA o1],Ob.var 9 [sA o2]]=some (AV.agg [iA r.1.At,sA r.1.A7,iA r.1.C2,iA r.1.Al],[Ob.var 53 [AV.sl 4 (List.map A2 p_l),iA r.2.1,iA r.2.2.1,iA r.2.2.2],Ob.var 3 [iA o1],Ob.var 9 [sA o2]]):=by
 intro h;rcases n with _|n;cases h
 rw[H6] at h
 refine Ai Try.func13 (by rfl) rfl rfl (Am rfl) ?_
 intro call hc;conv=>lhs;whnf
 revert h
 refine ca hc (fun _ h=>E9 h) ?_;intro y1
 refine br ?_ ?_
 exact rz
 refine ca hc (fun _ h=>Is h) ?_;intro y4
 exact rz
theorem Ck {n:Nat} ⦃Jt:(List UInt8)⦄ ⦃p_l:(List A5)⦄ ⦃p_i:Int⦄ ⦃p_e:Int⦄ ⦃p_at:Int⦄ ⦃r:(Int×Int×Int)⦄:Bs n Jt p_l p_i p_e p_at=some r→CN n 16 [AV.ptr 0 0,sA Jt] [Ob.var 53 [AV.sl 4 (List.map A2 p_l),iA p_i,iA p_e,iA p_at]]=some (AV.tup [],[Ob.var 53 [AV.sl 4 (List.map A2 p_l),iA r.1,iA r.2.1,iA r.2.2]]):=by
 intro h;rcases n with _|n;cases h
 rw[Bs] at h
 refine Vb Try.func16 (by rfl) rfl rfl (Am rfl) ?_
 intro call hc hcA;conv=>lhs;whnf
 revert h
 intro h
 obtain⟨n1,hn5,h⟩:=Ku h
 obtain⟨call2,hc3,ho4⟩:=Hc (f:=14) (args:=[iA (3),sA Jt]) (hp:=[]) hcA hn5 Try.func14 (by rfl) rfl rfl (Am rfl)
 try simp only[ls]
 simp only[ho4]
 conv=>lhs;whnf
 revert h
 refine ca hc (fun _ h=>R6 h) ?_;intro y6
 exact rz
theorem Y3 {n:Nat} ⦃Gi:Int⦄ ⦃Jo:Int⦄ ⦃p_l:(List A5)⦄ ⦃p_i:Int⦄ ⦃p_e:Int⦄ ⦃p_at:Int⦄ ⦃r:(Af×Int×Int×Int)⦄:Hx n Gi Jo p_l p_i p_e p_at=some r→CN n 21 [AV.ptr 0 0,iA Gi,iA Jo] [Ob.var 53 [AV.sl 4 (List.map A2 p_l),iA p_i,iA p_e,iA p_at]]=some (AV.agg [iA r.1.At,AV.sl 5 (List.map A0 r.1.Et),iA r.1.Al],[Ob.var 53 [AV.sl 4 (List.map A2 p_l),iA r.2.1,iA r.2.2.1,iA r.2.2.2]]):=by
 intro h;rcases n with _|n;cases h
 rw[Hx] at h
 refine Ai Try.func21 (by rfl) rfl rfl (Am rfl) ?_
 intro call hc;conv=>lhs;whnf
 revert h
 refine tw hc (fun _ h=>Yt h) (fun _ h=>Aa3 (p:=[1,1,2,2,1]) (q:=[1,2,1,1]) h Try.func48 (by kernel_rfl) (by kernel_rfl) (by kernel_rfl) (by kernel_rfl) (by rfl) (A5g (by exact fun _=>rfl) _) (A5g (by exact fun _=>rfl) _)) ?_;intro y1
 refine nb ?_ ?_
 refine ca hc (fun _ h=>Ek h) ?_;intro y3
 intro h;refine Av h ?_;clear h;intro o12 ho12 h
 refine lq (σ:=Unit) (τ:=Unit) (ν:=(Af×Int×Int×Int)) 0 (fun _ a6=>Bg 61 [(0,AV.ptr 0 0),(1,iA Gi),(2,iA Jo),(6,AV.ptr 1 0),(7,AV.sl 5 []),(8,iA y1.2.1),(31,iA (0)),(32,iA (0))]) (fun _ a6=>[Ob.var 53 [AV.sl 4 (List.map A2 p_l),iA p_i,iA y3.1,iA y3.2],Ob.var 43 [iA (0),AV.nils,iA (0)]]) (fun _ a13=>Bg 61 [(0,AV.ptr 0 0),(1,iA Gi),(2,iA Jo),(6,AV.ptr 1 0),(7,AV.sl 5 []),(8,iA y1.2.1)]) (fun _ a13=>[Ob.var 53 [AV.sl 4 (List.map A2 p_l),iA p_i,iA y3.1,iA y3.2],Ob.var 43 [iA (0),AV.nils,iA (0)]]) (fun v=>(AV.agg [iA v.1.At,AV.sl 5 (List.map A0 v.1.Et),iA v.1.Al],[Ob.var 53 [AV.sl 4 (List.map A2 p_l),iA v.2.1,iA v.2.2.1,iA v.2.2.2]])) (fun k s=>Hj n k) (fun s=>rfl) o12 n () (fun _=>0) ho12 ?_ ?_
 intro k5 ss a6 K7 cont8 hK9 hcont10 h hr11
 replace h:Hj n (k5+1)=some o12:=h
 rw[Hj] at h
 conv=>lhs;whnf
 revert h
 intro h;cases sj h
 exact kq (hr11 (fun _=>0))
 refine lrc ?_ ?_
 intro v e;subst e;cases sj h;rfl
 intro t a13 e;subst e
 dsimp only at h
 conv=>lhs;whnf
 revert h
 refine br ?_ ?_
 refine ca hc (fun _ h=>Ck h) ?_;intro y15
 exact rz
 refine ca hc (fun _ h=>Ck h) ?_;intro y17
 exact rz
 refine ca hc (fun _ h=>Ek h) ?_;intro y20
 intro h;refine Av h ?_;clear h;intro o31 ho31 h
 refine lq (σ:=(Int×(List A1))) (τ:=(List A1)) (ν:=(Af×Int×Int×Int)) 0 (fun(s22,s23) a25=>Bg 61 [(0,AV.ptr 0 0),(1,iA Gi),(2,iA Jo),(6,AV.ptr 1 0),(7,AV.own 2 0 (List.length s23)),(8,iA y1.2.1),(31,iA (((y1.1.length:Nat):Int))),(32,iA s22)]) (fun(s22,s23) a25=>[Ob.var 53 [AV.sl 4 (List.map A2 p_l),iA p_i,iA y20.1,iA y20.2],Ob.var 43 [iA (0),AV.nils,iA (0)],Ob.arr 5 (List.map A0 s23)]) (fun x38 a37=>Bg 61 [(0,AV.ptr 0 0),(1,iA Gi),(2,iA Jo),(6,AV.ptr 1 0),(7,AV.own 2 0 (List.length x38)),(8,iA y1.2.1)]) (fun x38 a37=>[Ob.var 53 [AV.sl 4 (List.map A2 p_l),iA p_i,iA y20.1,iA y20.2],Ob.var 43 [iA (0),AV.nils,iA (0)],Ob.arr 5 (List.map A0 x38)]) (fun v=>(AV.agg [iA v.1.At,AV.sl 5 (List.map A0 v.1.Et),iA v.1.Al],[Ob.var 53 [AV.sl 4 (List.map A2 p_l),iA v.2.1,iA v.2.2.1,iA v.2.2.2]])) (fun k s=>D7 n y1 k s.1 s.2) (fun s=>rfl) o31 n (0,y1.1) (fun _=>0) ho31 ?_ ?_
 intro k24 ss a25 K26 cont27 hK28 hcont29 h hr30
 obtain⟨s22,s23⟩:=ss
 replace h:D7 n y1 (k24+1) s22 s23=some o31:=h
 rw[D7] at h
 conv=>lhs;whnf
 revert h
 refine br ?_ ?_
 intro h
 refine Av h ?_;clear h;intro x33 hx33 h
 try simp only[ls]
 refine B1 (by first|exact H1 hx33|exact Q7 hx33|exact Ur hx33|exact Id hx33|(have q:=H1 hx33;simp only[List.length_set] at q;exact q)|(have q:=Id hx33;simp only[List.length_set,Nat.zero_add] at q ⊢;exact q)) ?_
 conv=>lhs;whnf
 try simp only[Nat.zero_add,K0 (f:=A0) hx33,Eo,ls]
 conv=>lhs;whnf
 revert h
 refine br ?_ ?_
 intro h
 refine Av h ?_;clear h;intro x35 hx35 h
 try simp only[ls]
 refine B1 (by first|exact H1 hx35|exact Q7 hx35|exact Ur hx35|exact Id hx35|(have q:=H1 hx35;simp only[List.length_set] at q;exact q)|(have q:=Id hx35;simp only[List.length_set,Nat.zero_add] at q ⊢;exact q)) ?_
 conv=>lhs;whnf
 try simp only[Nat.zero_add,K0 (f:=A0) hx35,Eo,ls]
 conv=>lhs;whnf
 revert h
 intro h
 have hs36:Cb (List.map A0 s23) s22.toNat [iA (3),iA x35.C2,sA x35.An,sA x35.Dd,iA x35.Al]=List.map A0 (List.set s23 s22.toNat (⟨3,x35.C2,x35.An,x35.Dd,x35.Al⟩:A1)):=by rw[Bw,List.map_set];rfl
 have hs36_u:Cb (List.map A0 s23) s22.toNat (Ks (A0 x35) 0 [iA (3)])=List.map A0 (List.set s23 s22.toNat (⟨3,x35.C2,x35.An,x35.Dd,x35.Al⟩:A1)):=by rw[Bw,List.map_set];rfl
 try simp only[Nat.zero_add,K0 (f:=A0) hx35]
 conv=>lhs;whnf
 try simp only[hs36,hs36_u]
 conv=>lhs;whnf
 revert h
 exact fun h=>cq (hcont29 (IntKind.i64.wrap (s22+1),(List.set s23 s22.toNat (⟨3,x35.C2,x35.An,x35.Dd,x35.Al⟩:A1))) (fun _=>0) h)
 exact fun h=>cq (hcont29 (IntKind.i64.wrap (s22+1),s23) (fun _=>0) h)
 intro h;cases sj h
 exact kq (hr30 (fun _=>0))
 refine lrc ?_ ?_
 intro v e;subst e;cases sj h;rfl
 intro x38 a37 e;subst e
 dsimp only at h
 conv=>lhs;whnf
 revert h
 refine br ?_ ?_
 refine ca hc (fun _ h=>Ck h) ?_;intro y40
 intro h;cases sj h
 try simp only[ls]
 exact fq (y:=some (AV.agg [iA Gi,AV.sl 5 (List.take (List.length x38) (List.drop 0 (List.map A0 x38))),iA Jo],[Ob.var 53 [AV.sl 4 (List.map A2 p_l),iA y40.1,iA y40.2.1,iA y40.2.2]]))
 refine ca hc (fun _ h=>Ck h) ?_;intro y42
 intro h;cases sj h
 try simp only[ls]
 exact fq (y:=some (AV.agg [iA Gi,AV.sl 5 (List.take (List.length x38) (List.drop 0 (List.map A0 x38))),iA Jo],[Ob.var 53 [AV.sl 4 (List.map A2 p_l),iA y42.1,iA y42.2.1,iA y42.2.2]]))
theorem A57 {n:Nat} ⦃Ee:A5⦄ ⦃r:Bool⦄:P6 n Ee=some r→CN n 15 [AV.agg [iA Ee.At,sA Ee.A7,iA Ee.C2,iA Ee.Al]] []=some (bA r,[]):=by
 intro h;rcases n with _|n;cases h
 rw[P6] at h
 refine Ai Try.func15 (by rfl) rfl rfl (Am rfl) ?_
 intro call hc;conv=>lhs;whnf
 revert h
 exact rz
theorem Xe {n:Nat} ⦃p_l:(List A5)⦄ ⦃p_i:Int⦄ ⦃p_e:Int⦄ ⦃p_at:Int⦄ ⦃r:(A5×Bool×Int)⦄:Hm n p_l p_i p_e p_at=some r→CN n 17 [AV.ptr 0 0,AV.func 15 [] []] [Ob.var 53 [AV.sl 4 (List.map A2 p_l),iA p_i,iA p_e,iA p_at]]=some (AV.tup [AV.agg [iA r.1.At,sA r.1.A7,iA r.1.C2,iA r.1.Al],bA r.2.1],[Ob.var 53 [AV.sl 4 (List.map A2 p_l),iA r.2.2,iA p_e,iA p_at]]):=by
 intro h;rcases n with _|n;cases h
 rw[Hm] at h
 refine Ai Try.func17 (by rfl) rfl rfl (Am rfl) ?_
 intro call hc;conv=>lhs;whnf
 revert h
 refine br ?_ ?_
 exact rz
 refine br ?_ ?_
 exact rz
 refine ix ?_;intro x3
 refine ca hc (fun _ h=>A57 h) ?_;intro y4
 refine br ?_ ?_
 refine ix ?_;intro x7
 exact rz
 exact rz
theorem Q0 {n:Nat} ⦃p_l:(List A5)⦄ ⦃p_i:Int⦄ ⦃p_e:Int⦄ ⦃p_at:Int⦄ ⦃r:(A5×Int×Int×Int)⦄:Fz n p_l p_i p_e p_at=some r→CN n 13 [AV.ptr 0 0,AV.func 15 [] []] [Ob.var 53 [AV.sl 4 (List.map A2 p_l),iA p_i,iA p_e,iA p_at]]=some (AV.agg [iA r.1.At,sA r.1.A7,iA r.1.C2,iA r.1.Al],[Ob.var 53 [AV.sl 4 (List.map A2 p_l),iA r.2.1,iA r.2.2.1,iA r.2.2.2]]):=by
 intro h;rcases n with _|n;cases h
 rw[Fz] at h
 refine Ai Try.func13 (by rfl) rfl rfl (Am rfl) ?_
 intro call hc;conv=>lhs;whnf
 revert h
 refine ca hc (fun _ h=>Xe h) ?_;intro y1
 refine br ?_ ?_
 exact rz
 refine ca hc (fun _ h=>Is h) ?_;intro y4
 exact rz
theorem A9w {n:Nat} ⦃Ee:A5⦄ ⦃r:Bool⦄:Rr n Ee=some r→CN n 45 [AV.agg [iA Ee.At,sA Ee.A7,iA Ee.C2,iA Ee.Al]] []=some (bA r,[]):=by
 intro h;rcases n with _|n;cases h
 rw[Rr] at h
 refine Ai Try.func45 (by rfl) rfl rfl (Am rfl) ?_
 intro call hc;conv=>lhs;whnf
 revert h
 refine br ?_ ?_
 refine ca hc (fun _ h=>Fi h) ?_;intro y2
 exact rz
 exact rz
theorem Xg {n:Nat} ⦃p_l:(List A5)⦄ ⦃p_i:Int⦄ ⦃p_e:Int⦄ ⦃p_at:Int⦄ ⦃r:(A5×Bool×Int)⦄:Hn n p_l p_i p_e p_at=some r→CN n 17 [AV.ptr 0 0,AV.func 45 [] []] [Ob.var 53 [AV.sl 4 (List.map A2 p_l),iA p_i,iA p_e,iA p_at]]=some (AV.tup [AV.agg [iA r.1.At,sA r.1.A7,iA r.1.C2,iA r.1.Al],bA r.2.1],[Ob.var 53 [AV.sl 4 (List.map A2 p_l),iA r.2.2,iA p_e,iA p_at]]):=by
 intro h;rcases n with _|n;cases h
 rw[Hn] at h
 refine Ai Try.func17 (by rfl) rfl rfl (Am rfl) ?_
 intro call hc;conv=>lhs;whnf
 revert h
 refine br ?_ ?_
 exact rz
 refine br ?_ ?_
 exact rz
 refine ix ?_;intro x3
 refine ca hc (fun _ h=>A9w h) ?_;intro y4
 refine br ?_ ?_
 refine ix ?_;intro x7
 exact rz
 exact rz
theorem Lb {n:Nat} ⦃p_l:(List A5)⦄ ⦃p_i:Int⦄ ⦃p_e:Int⦄ ⦃p_at:Int⦄ ⦃r:(A5×Int×Int×Int)⦄:Eg n p_l p_i p_e p_at=some r→CN n 13 [AV.ptr 0 0,AV.func 45 [] []] [Ob.var 53 [AV.sl 4 (List.map A2 p_l),iA p_i,iA p_e,iA p_at]]=some (AV.agg [iA r.1.At,sA r.1.A7,iA r.1.C2,iA r.1.Al],[Ob.var 53 [AV.sl 4 (List.map A2 p_l),iA r.2.1,iA r.2.2.1,iA r.2.2.2]]):=by
 intro h;rcases n with _|n;cases h
 rw[Eg] at h
 refine Ai Try.func13 (by rfl) rfl rfl (Am rfl) ?_
 intro call hc;conv=>lhs;whnf
 revert h
 refine ca hc (fun _ h=>Xg h) ?_;intro y1
 refine br ?_ ?_
 exact rz
 refine ca hc (fun _ h=>Is h) ?_;intro y4
 exact rz
theorem Zm {n:Nat} ⦃Iy:Int⦄ ⦃p_l:(List A5)⦄ ⦃p_i:Int⦄ ⦃p_e:Int⦄ ⦃p_at:Int⦄ ⦃r:(B4×Int×Int×Int)⦄:In n Iy p_l p_i p_e p_at=some r→CN n 18 [AV.ptr 0 0,iA Iy] [Ob.var 53 [AV.sl 4 (List.map A2 p_l),iA p_i,iA p_e,iA p_at]]=some (AV.agg [sA r.1.An,iA r.1.C2,iA r.1.Al],[Ob.var 53 [AV.sl 4 (List.map A2 p_l),iA r.2.1,iA r.2.2.1,iA r.2.2.2]]):=by
 intro h;rcases n with _|n;cases h
 rw[In] at h
 refine Ai Try.func18 (by rfl) rfl rfl (Am rfl) ?_
 intro call hc;conv=>lhs;whnf
 revert h
 refine ca hc (fun _ h=>Lb h) ?_;intro y1
 refine ca hc (fun _ h=>Ck h) ?_;intro y3
 refine ca hc (fun _ h=>Q0 h) ?_;intro y5
 refine ca hc (fun _ h=>Ck h) ?_;intro y7
 exact rz
theorem Wt {n:Nat} ⦃Iy:Int⦄ ⦃p_l:(List A5)⦄ ⦃p_i:Int⦄ ⦃p_e:Int⦄ ⦃p_at:Int⦄ ⦃r:(Ad×Int×Int×Int)⦄:He n Iy p_l p_i p_e p_at=some r→CN n 19 [AV.ptr 0 0,iA Iy] [Ob.var 53 [AV.sl 4 (List.map A2 p_l),iA p_i,iA p_e,iA p_at]]=some (AV.agg [sA r.1.An,AV.sl 1 (List.map Fk r.1.Bv),AV.sl 9 (List.map Aa r.1.Be),iA r.1.Al],[Ob.var 53 [AV.sl 4 (List.map A2 p_l),iA r.2.1,iA r.2.2.1,iA r.2.2.2]]):=by
 intro h;rcases n with _|n;cases h
 rw[He] at h
 refine Vb Try.func19 (by rfl) rfl rfl (Am rfl) ?_
 intro call hc hcA;conv=>lhs;whnf
 revert h
 refine ca hc (fun _ h=>Lb h) ?_;intro y1
 refine ca hc (fun _ h=>Ck h) ?_;intro y3
 intro h
 obtain⟨n5,hn9,h⟩:=Ku h
 obtain⟨call6,hc7,ho8⟩:=Hc (f:=14) (args:=[iA (1),sA (([114,101,103]:List UInt8))]) (hp:=[]) hcA hn9 Try.func14 (by rfl) rfl rfl (Am rfl)
 try simp only[ls]
 simp only[ho8]
 conv=>lhs;whnf
 revert h
 refine ca hc (fun _ h=>E9 h) ?_;intro y10
 refine br ?_ ?_
 intro h;refine Av h ?_;clear h;intro o25 ho25 h
 refine lq (σ:=(Bool×Int×Int×Int×(List (List UInt8)))) (τ:=(Int×Int×Int×(List (List UInt8)))) (ν:=(Ad×Int×Int×Int)) 0 (fun(s13,s14,s15,s16,s17) a19=>Bg 82 [(0,AV.ptr 0 0),(4,AV.ptr 1 0),(5,AV.ptr 2 0),(8,bA s13)]) (fun(s13,s14,s15,s16,s17) a19=>[Ob.var 53 [AV.sl 4 (List.map A2 p_l),iA s14,iA s15,iA s16],Ob.var 40 [sA (([]:List UInt8)),AV.row 6 (List.length (([]:List (List UInt8)))),AV.row 7 (List.length (([]:List A3))),iA (0)],Ob.var 40 [sA y1.1.A7,AV.row 8 (List.length s17),AV.row 9 (List.length (([]:List A3))),iA Iy],Ob.var 3 [iA (1)],Ob.var 9 [sA (([114,101,103]:List UInt8))],Ob.var 55 [iA y10.1.At,sA y10.1.A7,iA y10.1.C2,iA y10.1.Al],Ob.row 9 1 ([]),Ob.row 73 9 ([]),Ob.row 9 1 (List.map Fk s17),Ob.row 73 9 ([])]) (fun(x39,x40,x41,x42) a38=>Bg 82 [(0,AV.ptr 0 0),(4,AV.ptr 1 0),(5,AV.ptr 2 0)]) (fun(x39,x40,x41,x42) a38=>[Ob.var 53 [AV.sl 4 (List.map A2 p_l),iA x39,iA x40,iA x41],Ob.var 40 [sA (([]:List UInt8)),AV.row 6 (List.length (([]:List (List UInt8)))),AV.row 7 (List.length (([]:List A3))),iA (0)],Ob.var 40 [sA y1.1.A7,AV.row 8 (List.length x42),AV.row 9 (List.length (([]:List A3))),iA Iy],Ob.var 3 [iA (1)],Ob.var 9 [sA (([114,101,103]:List UInt8))],Ob.var 55 [iA y10.1.At,sA y10.1.A7,iA y10.1.C2,iA y10.1.Al],Ob.row 9 1 ([]),Ob.row 73 9 ([]),Ob.row 9 1 (List.map Fk x42),Ob.row 73 9 ([])]) (fun v=>(AV.agg [sA v.1.An,AV.sl 1 (List.map Fk v.1.Bv),AV.sl 9 (List.map Aa v.1.Be),iA v.1.Al],[Ob.var 53 [AV.sl 4 (List.map A2 p_l),iA v.2.1,iA v.2.2.1,iA v.2.2.2]])) (fun k s=>Df n p_l k s.1 s.2.1 s.2.2.1 s.2.2.2.1 s.2.2.2.2) (fun s=>rfl) o25 n (true,y10.2.2,y3.2.1,y3.2.2,([]:List (List UInt8))) (fun _=>0) ho25 ?_ ?_
 intro k18 ss a19 K20 cont21 hK22 hcont23 h hr24
 obtain⟨s13,s14,s15,s16,s17⟩:=ss
 replace h:Df n p_l (k18+1) s13 s14 s15 s16 s17=some o25:=h
 rw[Df] at h
 conv=>lhs;whnf
 revert h
 refine br ?_ ?_
 refine ca hc (fun _ h=>Lb h) ?_;intro y27
 refine ar (ap Fk (List.map Fk s17) s17 ([[sA y27.1.A7]]) ([y27.1.A7]:List (List UInt8))) ?_
 intro h
 obtain⟨n31,hn35,h⟩:=Ku h
 obtain⟨call32,hc33,ho34⟩:=Hc (f:=14) (args:=[iA (3),sA (([44]:List UInt8))]) (hp:=[]) hcA hn35 Try.func14 (by rfl) rfl rfl (Am rfl)
 try simp only[ls]
 simp only[ho34]
 conv=>lhs;whnf
 revert h
 refine ca hc (fun _ h=>E9 h) ?_;intro y36
 exact fun h=>cq (hcont23 (y36.2.1,y36.2.2,y27.2.2.1,y27.2.2.2,(s17++([y27.1.A7]:List (List UInt8)))) (fun _=>0) h)
 intro h;cases sj h
 exact kq (hr24 (fun _=>0))
 refine lrc ?_ ?_
 intro v e;subst e;cases sj h;rfl
 intro t a38 e;subst e
 obtain⟨x39,x40,x41,x42⟩:=t
 dsimp only at h
 conv=>lhs;whnf
 revert h
 refine ca hc (fun _ h=>Ck h) ?_;intro y43
 refine br ?_ ?_
 intro h;cases sj h
 try simp only[ls]
 exact fq (y:=some (AV.agg [sA y1.1.A7,AV.sl 1 (List.take (List.length x42) (List.map Fk x42)),AV.sl 9 (List.take (List.length (([]:List A3))) ([])),iA Iy],[Ob.var 53 [AV.sl 4 (List.map A2 p_l),iA y43.1,iA y43.2.1,iA y43.2.2]]))
 refine ca hc (fun _ h=>Ys h) ?_;intro y46
 refine ca hc (fun _ h=>Ek h) ?_;intro y48
 refine br ?_ ?_
 refine ca hc (fun _ h=>Ck h) ?_;intro y51
 intro h;cases sj h
 try simp only[ls]
 exact fq (y:=some (AV.agg [sA y1.1.A7,AV.sl 1 (List.take (List.length x42) (List.map Fk x42)),AV.sl 9 (List.map Aa y46.1),iA Iy],[Ob.var 53 [AV.sl 4 (List.map A2 p_l),iA y51.1,iA y51.2.1,iA y51.2.2]]))
 refine ca hc (fun _ h=>Ck h) ?_;intro y53
 intro h;cases sj h
 try simp only[ls]
 exact fq (y:=some (AV.agg [sA y1.1.A7,AV.sl 1 (List.take (List.length x42) (List.map Fk x42)),AV.sl 9 (List.map Aa y46.1),iA Iy],[Ob.var 53 [AV.sl 4 (List.map A2 p_l),iA y53.1,iA y53.2.1,iA y53.2.2]]))
 refine br ?_ ?_
 exact rz
 refine ca hc (fun _ h=>Ys h) ?_;intro y57
 refine ca hc (fun _ h=>Ek h) ?_;intro y59
 refine br ?_ ?_
 refine ca hc (fun _ h=>Ck h) ?_;intro y62
 exact rz
 refine ca hc (fun _ h=>Ck h) ?_;intro y64
 exact rz
theorem Uo {n:Nat} ⦃J2:Int⦄ ⦃r:(List UInt8)⦄:Mq n J2=some r→CN n 20 [iA J2] []=some (sA r,[]):=by
 intro h;rcases n with _|n;cases h
 rw[Mq] at h
 refine Ai Try.func20 (by rfl) rfl rfl (Am rfl) ?_
 intro call hc;conv=>lhs;whnf
 revert h
 refine br ?_ ?_
 exact rz
 refine br ?_ ?_
 exact rz
 refine br ?_ ?_
 exact rz
 exact rz
theorem A6p {n:Nat} ⦃Fr:Int⦄ ⦃r:Bool⦄:O3 n Fr=some r→CN n 41 [AV.int .i32 Fr] []=some (bA r,[]):=by
 intro h;rcases n with _|n;cases h
 rw[O3] at h
 refine Ai Try.func41 (by rfl) rfl rfl (Am rfl) ?_
 intro call hc;conv=>lhs;whnf
 revert h
 refine br ?_ ?_
 exact rz
 exact rz
theorem A4z {n:Nat} ⦃Fr:Int⦄ ⦃r:Bool⦄:Mf n Fr=some r→CN n 39 [AV.int .i32 Fr] []=some (bA r,[]):=by
 intro h;rcases n with _|n;cases h
 rw[Mf] at h
 refine Ai Try.func39 (by rfl) rfl rfl (Am rfl) ?_
 intro call hc;conv=>lhs;whnf
 revert h
 refine br ?_ ?_
 refine br ?_ ?_
 exact rz
 refine br ?_ ?_
 refine br ?_ ?_
 exact rz
 exact rz
 exact rz
 refine br ?_ ?_
 refine br ?_ ?_
 exact rz
 exact rz
 exact rz
theorem A9y {n:Nat} ⦃Bp:(List UInt8)⦄ ⦃r:Int⦄:P1 n Bp=some r→CN n 43 [sA Bp] []=some (iA r,[]):=by
 intro h;rcases n with _|n;cases h
 rw[P1] at h
 refine Ai Try.func43 (by rfl) rfl rfl (Am rfl) ?_
 intro call hc;conv=>lhs;whnf
 revert h
 refine br ?_ ?_
 refine cp ?_
 refine br ?_ ?_
 exact rz
 refine br ?_ ?_
 exact rz
 refine br ?_ ?_
 exact rz
 refine br ?_ ?_
 exact rz
 refine br ?_ ?_
 exact rz
 refine ixs ?_;intro x8
 refine br ?_ ?_
 exact rz
 refine br ?_ ?_
 exact rz
 refine br ?_ ?_
 exact rz
 refine br ?_ ?_
 exact rz
 refine br ?_ ?_
 exact rz
 refine br ?_ ?_
 exact rz
 refine br ?_ ?_
 exact rz
 refine br ?_ ?_
 exact rz
 refine br ?_ ?_
 exact rz
 refine br ?_ ?_
 exact rz
 refine br ?_ ?_
 exact rz
 refine br ?_ ?_
 exact rz
 refine br ?_ ?_
 exact rz
 exact rz
 refine ixs ?_;intro x22
 refine br ?_ ?_
 exact rz
 refine br ?_ ?_
 exact rz
 refine br ?_ ?_
 exact rz
 refine br ?_ ?_
 exact rz
 refine br ?_ ?_
 exact rz
 refine br ?_ ?_
 exact rz
 refine br ?_ ?_
 exact rz
 refine br ?_ ?_
 exact rz
 refine br ?_ ?_
 exact rz
 refine br ?_ ?_
 exact rz
 refine br ?_ ?_
 exact rz
 refine br ?_ ?_
 exact rz
 refine br ?_ ?_
 exact rz
 exact rz
theorem A7e {n:Nat} ⦃Bp:(List UInt8)⦄ ⦃r:((List A5)×Int×Int)⦄:Oq n Bp=some r→CN n 12 [sA Bp] []=some (AV.tup [AV.sl 4 (List.map A2 r.1),iA r.2.1,iA r.2.2],[]):=by
 intro h;rcases n with _|n;cases h
 rw[Oq] at h
 refine Ai Try.func12 (by rfl) rfl rfl (Am rfl) ?_
 intro call hc;conv=>lhs;whnf
 revert h
 refine br ?_ ?_
 exact rz
 intro h;refine Av h ?_;clear h;intro o11 ho11 h
 refine lq (σ:=(Int×(List A5))) (τ:=(List A5)) (ν:=((List A5)×Int×Int)) 0 (fun(s2,s3) a5=>Bg 104 [(0,sA Bp),(5,AV.row 0 (List.length s3)),(6,iA s2)]) (fun(s2,s3) a5=>[Ob.row 55 4 (List.map A2 s3)]) (fun x50 a49=>Bg 104 [(5,AV.row 0 (List.length x50))]) (fun x50 a49=>[Ob.row 55 4 (List.map A2 x50)]) (fun v=>(AV.tup [AV.sl 4 (List.map A2 v.1),iA v.2.1,iA v.2.2],[])) (fun k s=>Cu n Bp k s.1 s.2) (fun s=>rfl) o11 n (0,([]:List A5)) (fun _=>0) ho11 ?_ ?_
 intro k4 ss a5 K6 cont7 hK8 hcont9 h hr10
 obtain⟨s2,s3⟩:=ss
 replace h:Cu n Bp (k4+1) s2 s3=some o11:=h
 rw[Cu] at h
 conv=>lhs;whnf
 revert h
 refine br ?_ ?_
 refine cp ?_
 refine ixs ?_;intro x14
 refine br ?_ ?_
 exact fun h=>cq (hcont9 (IntKind.i64.wrap (s2+1),s3) (fun _=>0) h)
 refine br ?_ ?_
 exact fun h=>cq (hcont9 (IntKind.i64.wrap (s2+1),s3) (fun _=>0) h)
 refine br ?_ ?_
 exact fun h=>cq (hcont9 (IntKind.i64.wrap (s2+1),s3) (fun _=>0) h)
 refine br ?_ ?_
 exact fun h=>cq (hcont9 (IntKind.i64.wrap (s2+1),s3) (fun _=>0) h)
 refine br ?_ ?_
 refine cr hc (fun _ h=>V7 h) ?_;intro y20
 exact fun h=>cq (hcont9 (IntKind.i64.wrap (s2+y20),s3) (fun _=>0) h)
 refine ca hc (fun _ h=>A4z h) ?_;intro y22
 refine br ?_ ?_
 refine cr hc (fun _ h=>V6 h) ?_;intro y25
 refine br ?_ ?_
 intro h;cases sj h
 refine(hK8 _ _).trans ?_
 refine Eq.trans ?_ (Eq.symm (show _=some _ from hr10))
 conv=>lhs;whnf
 exact rq
 refine cp ?_
 refine ar (ap A2 (List.map A2 s3) s3 ([[iA (1),sA ((List.drop 0 (List.take (y25.toNat) (List.drop (s2.toNat) (List.take (Bp.length) Bp))))),iA (0),iA s2]]) ([(⟨1,(List.drop 0 (List.take (y25.toNat) (List.drop (s2.toNat) (List.take (Bp.length) Bp)))),0,s2⟩:A5)]:List A5)) ?_
 exact fun h=>cq (hcont9 (IntKind.i64.wrap (s2+((((List.drop 0 (List.take (y25.toNat) (List.drop (s2.toNat) (List.take (Bp.length) Bp))))).length:Nat):Int)),(s3++([(⟨1,(List.drop 0 (List.take (y25.toNat) (List.drop (s2.toNat) (List.take (Bp.length) Bp)))),0,s2⟩:A5)]:List A5))) (fun _=>0) h)
 refine ca hc (fun _ h=>A6p h) ?_;intro y31
 refine br ?_ ?_
 refine cr hc (fun _ h=>Wh h) ?_;intro y34
 refine cp ?_
 refine cp ?_
 refine cr hc (fun _ h=>A6e h) ?_;intro y38
 refine br ?_ ?_
 intro h;cases sj h
 refine(hK8 _ _).trans ?_
 refine Eq.trans ?_ (Eq.symm (show _=some _ from hr10))
 conv=>lhs;whnf
 exact rq
 refine ar (ap A2 (List.map A2 s3) s3 ([[iA (2),sA ((List.drop 0 (List.take (y34.toNat) (List.drop (s2.toNat) (List.take (Bp.length) Bp))))),iA y38,iA s2]]) ([(⟨2,(List.drop 0 (List.take (y34.toNat) (List.drop (s2.toNat) (List.take (Bp.length) Bp)))),y38,s2⟩:A5)]:List A5)) ?_
 exact fun h=>cq (hcont9 (IntKind.i64.wrap (s2+((((List.drop 0 (List.take (y34.toNat) (List.drop (s2.toNat) (List.take (Bp.length) Bp))))).length:Nat):Int)),(s3++([(⟨2,(List.drop 0 (List.take (y34.toNat) (List.drop (s2.toNat) (List.take (Bp.length) Bp)))),y38,s2⟩:A5)]:List A5))) (fun _=>0) h)
 refine cr hc (fun _ h=>A9y h) ?_;intro y43
 refine br ?_ ?_
 intro h;cases sj h
 refine(hK8 _ _).trans ?_
 refine Eq.trans ?_ (Eq.symm (show _=some _ from hr10))
 conv=>lhs;whnf
 exact rq
 refine cp ?_
 refine ar (ap A2 (List.map A2 s3) s3 ([[iA (3),sA ((List.drop 0 (List.take (y43.toNat) (List.drop (s2.toNat) (List.take (Bp.length) Bp))))),iA (0),iA s2]]) ([(⟨3,(List.drop 0 (List.take (y43.toNat) (List.drop (s2.toNat) (List.take (Bp.length) Bp)))),0,s2⟩:A5)]:List A5)) ?_
 exact fun h=>cq (hcont9 (IntKind.i64.wrap (s2+((((List.drop 0 (List.take (y43.toNat) (List.drop (s2.toNat) (List.take (Bp.length) Bp))))).length:Nat):Int)),(s3++([(⟨3,(List.drop 0 (List.take (y43.toNat) (List.drop (s2.toNat) (List.take (Bp.length) Bp)))),0,s2⟩:A5)]:List A5))) (fun _=>0) h)
 intro h;cases sj h
 exact kq (hr10 (fun _=>0))
 refine lrc ?_ ?_
 intro v e;subst e;cases sj h;rfl
 intro x50 a49 e;subst e
 dsimp only at h
 conv=>lhs;whnf
 revert h
 intro h;cases sj h
 try simp only[ls]
 exact fq (y:=some (AV.tup [AV.sl 4 (List.take (List.length x50) (List.map A2 x50)),iA (0),iA (0)],[]))
theorem Jv {n:Nat} ⦃Bp:(List UInt8)⦄ ⦃r:(B7×Int×Int)⦄:Fn n Bp=some r→CN n 6 [sA Bp] []=some (AV.tup [AV.agg [iA r.1.Bz,AV.sl 3 (List.map Aj r.1.B8),AV.sl 4 (List.map A9 r.1.Ak),AV.sl 3 (List.map Ag r.1.Ar)],iA r.2.1,iA r.2.2],[]):=by
 intro h;rcases n with _|n;cases h
 rw[Fn] at h
 refine Vb Try.func6 (by rfl) rfl rfl (Am rfl) ?_
 intro call hc hcA;conv=>lhs;whnf
 revert h
 refine ca hc (fun _ h=>A7e h) ?_;intro y1
 refine br ?_ ?_
 exact rz
 intro h
 obtain⟨n4,hn8,h⟩:=Ku h
 obtain⟨call5,hc6,ho7⟩:=Hc (f:=14) (args:=[iA (1),sA (([109,111,100]:List UInt8))]) (hp:=[]) hcA hn8 Try.func14 (by rfl) rfl rfl (Am rfl)
 try simp only[ls]
 simp only[ho7]
 conv=>lhs;whnf
 revert h
 refine ca hc (fun _ h=>R6 h) ?_;intro y9
 refine ca hc (fun _ h=>Q0 h) ?_;intro y11
 refine ca hc (fun _ h=>Ck h) ?_;intro y13
 intro h
 obtain⟨n15,hn19,h⟩:=Ku h
 obtain⟨call16,hc17,ho18⟩:=Hc (f:=14) (args:=[iA (1),sA (([108,111,99]:List UInt8))]) (hp:=[]) hcA hn19 Try.func14 (by rfl) rfl rfl (Am rfl)
 try simp only[ls]
 simp only[ho18]
 conv=>lhs;whnf
 revert h
 refine ca hc (fun _ h=>E9 h) ?_;intro y20
 intro h;refine Av h ?_;clear h;intro o38 ho38 h
 refine lq (σ:=(Bool×Int×Int×Int×Int×(List UInt8)×Int×Int×(List B4))) (τ:=(Int×Int×Int×Int×(List UInt8)×Int×Int×(List B4))) (ν:=(B7×Int×Int)) 0 (fun(s22,s23,s24,s25,s26,s27,s28,s29,s30) a32=>Bg 135 [(2,AV.ptr 0 0),(5,AV.sl 4 (List.map A2 y1.1)),(8,AV.ptr 1 0),(9,AV.ptr 2 0),(10,AV.ptr 7 0),(11,bA s22)]) (fun(s22,s23,s24,s25,s26,s27,s28,s29,s30) a32=>[Ob.var 27 [iA (0),AV.row 8 (List.length (([]:List B4))),AV.row 9 (List.length (([]:List Ad))),AV.row 10 (List.length (([]:List Af)))],Ob.var 53 [AV.sl 4 (List.map A2 y1.1),iA s23,iA s24,iA s25],Ob.var 27 [iA y11.1.C2,AV.row 11 (List.length s30),AV.row 12 (List.length (([]:List Ad))),AV.row 13 (List.length (([]:List Af)))],Ob.var 3 [iA (1)],Ob.var 9 [sA (([109,111,100]:List UInt8))],Ob.var 3 [iA (1)],Ob.var 9 [sA (([108,111,99]:List UInt8))],Ob.var 55 [iA s26,sA s27,iA s28,iA s29],Ob.row 45 3 ([]),Ob.row 40 4 ([]),Ob.row 43 3 ([]),Ob.row 45 3 (List.map Aj s30),Ob.row 40 4 ([]),Ob.row 43 3 ([])]) (fun(x52,x53,x54,x55,x56,x57,x58,x59) a51=>Bg 135 [(2,AV.ptr 0 0),(5,AV.sl 4 (List.map A2 y1.1)),(8,AV.ptr 1 0),(9,AV.ptr 2 0)]) (fun(x52,x53,x54,x55,x56,x57,x58,x59) a51=>[Ob.var 27 [iA (0),AV.row 8 (List.length (([]:List B4))),AV.row 9 (List.length (([]:List Ad))),AV.row 10 (List.length (([]:List Af)))],Ob.var 53 [AV.sl 4 (List.map A2 y1.1),iA x52,iA x53,iA x54],Ob.var 27 [iA y11.1.C2,AV.row 11 (List.length x59),AV.row 12 (List.length (([]:List Ad))),AV.row 13 (List.length (([]:List Af)))],Ob.var 3 [iA (1)],Ob.var 9 [sA (([109,111,100]:List UInt8))],Ob.var 3 [iA (1)],Ob.var 9 [sA (([108,111,99]:List UInt8))],Ob.var 55 [iA x55,sA x56,iA x57,iA x58],Ob.row 45 3 ([]),Ob.row 40 4 ([]),Ob.row 43 3 ([]),Ob.row 45 3 (List.map Aj x59),Ob.row 40 4 ([]),Ob.row 43 3 ([])]) (fun v=>(AV.tup [AV.agg [iA v.1.Bz,AV.sl 3 (List.map Aj v.1.B8),AV.sl 4 (List.map A9 v.1.Ak),AV.sl 3 (List.map Ag v.1.Ar)],iA v.2.1,iA v.2.2],[])) (fun k s=>Ih n y1 k s.1 s.2.1 s.2.2.1 s.2.2.2.1 s.2.2.2.2.1 s.2.2.2.2.2.1 s.2.2.2.2.2.2.1 s.2.2.2.2.2.2.2.1 s.2.2.2.2.2.2.2.2) (fun s=>rfl) o38 n (y20.2.1,y20.2.2,y13.2.1,y13.2.2,y20.1.At,y20.1.A7,y20.1.C2,y20.1.Al,([]:List B4)) (fun _=>0) ho38 ?_ ?_
 intro k31 ss a32 K33 cont34 hK35 hcont36 h hr37
 obtain⟨s22,s23,s24,s25,s26,s27,s28,s29,s30⟩:=ss
 replace h:Ih n y1 (k31+1) s22 s23 s24 s25 s26 s27 s28 s29 s30=some o38:=h
 rw[Ih] at h
 conv=>lhs;whnf
 revert h
 refine br ?_ ?_
 refine ca hc (fun _ h=>Zm h) ?_;intro y40
 refine ar (ap Aj (List.map Aj s30) s30 ([[sA y40.1.An,iA y40.1.C2,iA y40.1.Al]]) ([y40.1]:List B4)) ?_
 intro h
 obtain⟨n44,hn48,h⟩:=Ku h
 obtain⟨call45,hc46,ho47⟩:=Hc (f:=14) (args:=[iA (1),sA (([108,111,99]:List UInt8))]) (hp:=[]) hcA hn48 Try.func14 (by rfl) rfl rfl (Am rfl)
 try simp only[ls]
 simp only[ho47]
 conv=>lhs;whnf
 revert h
 refine ca hc (fun _ h=>E9 h) ?_;intro y49
 exact fun h=>cq (hcont36 (y49.2.1,y49.2.2,y40.2.2.1,y40.2.2.2,y49.1.At,y49.1.A7,y49.1.C2,y49.1.Al,(s30++([y40.1]:List B4))) (fun _=>0) h)
 intro h;cases sj h
 exact kq (hr37 (fun _=>0))
 refine lrc ?_ ?_
 intro v e;subst e;cases sj h;rfl
 intro t a51 e;subst e
 obtain⟨x52,x53,x54,x55,x56,x57,x58,x59⟩:=t
 dsimp only at h
 conv=>lhs;whnf
 revert h
 intro h
 obtain⟨n60,hn64,h⟩:=Ku h
 obtain⟨call61,hc62,ho63⟩:=Hc (f:=14) (args:=[iA (1),sA (([116,104,114,101,97,100]:List UInt8))]) (hp:=[]) hcA hn64 Try.func14 (by rfl) rfl rfl (Am rfl)
 try simp only[ls]
 simp only[ho63]
 conv=>lhs;whnf
 revert h
 refine ca hc (fun _ h=>E9 h) ?_;intro y65
 intro h;refine Av h ?_;clear h;intro o83 ho83 h
 refine lq (σ:=(Bool×Int×Int×Int×(List Ad)×Int×(List UInt8)×Int×Int)) (τ:=(Int×Int×Int×Int×(List UInt8)×Int×Int×(List Ad))) (ν:=(B7×Int×Int)) 2 (fun(s67,s68,s69,s70,s71,s72,s73,s74,s75) a77=>Bg 135 [(2,AV.ptr 0 0),(5,AV.sl 4 (List.map A2 y1.1)),(8,AV.ptr 1 0),(9,AV.ptr 2 0),(12,AV.ptr 16 0),(13,bA s67)]) (fun(s67,s68,s69,s70,s71,s72,s73,s74,s75) a77=>[Ob.var 27 [iA (0),AV.row 8 (List.length (([]:List B4))),AV.row 9 (List.length (([]:List Ad))),AV.row 10 (List.length (([]:List Af)))],Ob.var 53 [AV.sl 4 (List.map A2 y1.1),iA s68,iA s69,iA s70],Ob.var 27 [iA y11.1.C2,AV.row 11 (List.length x59),AV.row 12 (List.length s71),AV.row 13 (List.length (([]:List Af)))],Ob.var 3 [iA (1)],Ob.var 9 [sA (([109,111,100]:List UInt8))],Ob.var 3 [iA (1)],Ob.var 9 [sA (([108,111,99]:List UInt8))],Ob.var 55 [iA x55,sA x56,iA x57,iA x58],Ob.row 45 3 ([]),Ob.row 40 4 ([]),Ob.row 43 3 ([]),Ob.row 45 3 (List.map Aj x59),Ob.row 40 4 (List.map A9 s71),Ob.row 43 3 ([]),Ob.var 3 [iA (1)],Ob.var 9 [sA (([116,104,114,101,97,100]:List UInt8))],Ob.var 55 [iA s72,sA s73,iA s74,iA s75]]) (fun(x97,x98,x99,x100,x101,x102,x103,x104) a96=>Bg 135 [(2,AV.ptr 0 0),(5,AV.sl 4 (List.map A2 y1.1)),(8,AV.ptr 1 0),(9,AV.ptr 2 0)]) (fun(x97,x98,x99,x100,x101,x102,x103,x104) a96=>[Ob.var 27 [iA (0),AV.row 8 (List.length (([]:List B4))),AV.row 9 (List.length (([]:List Ad))),AV.row 10 (List.length (([]:List Af)))],Ob.var 53 [AV.sl 4 (List.map A2 y1.1),iA x97,iA x98,iA x99],Ob.var 27 [iA y11.1.C2,AV.row 11 (List.length x59),AV.row 12 (List.length x104),AV.row 13 (List.length (([]:List Af)))],Ob.var 3 [iA (1)],Ob.var 9 [sA (([109,111,100]:List UInt8))],Ob.var 3 [iA (1)],Ob.var 9 [sA (([108,111,99]:List UInt8))],Ob.var 55 [iA x55,sA x56,iA x57,iA x58],Ob.row 45 3 ([]),Ob.row 40 4 ([]),Ob.row 43 3 ([]),Ob.row 45 3 (List.map Aj x59),Ob.row 40 4 (List.map A9 x104),Ob.row 43 3 ([]),Ob.var 3 [iA (1)],Ob.var 9 [sA (([116,104,114,101,97,100]:List UInt8))],Ob.var 55 [iA x100,sA x101,iA x102,iA x103]]) (fun v=>(AV.tup [AV.agg [iA v.1.Bz,AV.sl 3 (List.map Aj v.1.B8),AV.sl 4 (List.map A9 v.1.Ak),AV.sl 3 (List.map Ag v.1.Ar)],iA v.2.1,iA v.2.2],[])) (fun k s=>Ik n y1 k s.1 s.2.1 s.2.2.1 s.2.2.2.1 s.2.2.2.2.1 s.2.2.2.2.2.1 s.2.2.2.2.2.2.1 s.2.2.2.2.2.2.2.1 s.2.2.2.2.2.2.2.2) (fun s=>rfl) o83 n (y65.2.1,y65.2.2,x53,x54,([]:List Ad),y65.1.At,y65.1.A7,y65.1.C2,y65.1.Al) (fun _=>0) ho83 ?_ ?_
 intro k76 ss a77 K78 cont79 hK80 hcont81 h hr82
 obtain⟨s67,s68,s69,s70,s71,s72,s73,s74,s75⟩:=ss
 replace h:Ik n y1 (k76+1) s67 s68 s69 s70 s71 s72 s73 s74 s75=some o83:=h
 rw[Ik] at h
 conv=>lhs;whnf
 revert h
 refine br ?_ ?_
 refine ca hc (fun _ h=>Wt h) ?_;intro y85
 refine ar (ap A9 (List.map A9 s71) s71 ([[sA y85.1.An,AV.sl 1 (List.map Fk y85.1.Bv),AV.sl 9 (List.map Aa y85.1.Be),iA y85.1.Al]]) ([y85.1]:List Ad)) ?_
 intro h
 obtain⟨n89,hn93,h⟩:=Ku h
 obtain⟨call90,hc91,ho92⟩:=Hc (f:=14) (args:=[iA (1),sA (([116,104,114,101,97,100]:List UInt8))]) (hp:=[]) hcA hn93 Try.func14 (by rfl) rfl rfl (Am rfl)
 try simp only[ls]
 simp only[ho92]
 conv=>lhs;whnf
 revert h
 refine ca hc (fun _ h=>E9 h) ?_;intro y94
 exact fun h=>cq (hcont81 (y94.2.1,y94.2.2,y85.2.2.1,y85.2.2.2,(s71++([y85.1]:List Ad)),y94.1.At,y94.1.A7,y94.1.C2,y94.1.Al) (fun _=>0) h)
 intro h;cases sj h
 exact kq (hr82 (fun _=>0))
 refine lrc ?_ ?_
 intro v e;subst e;cases sj h;rfl
 intro t a96 e;subst e
 obtain⟨x97,x98,x99,x100,x101,x102,x103,x104⟩:=t
 dsimp only at h
 conv=>lhs;whnf
 revert h
 intro h;refine Av h ?_;clear h;intro o117 ho117 h
 refine lq (σ:=(Bool×Int×Int×Int×(List Af))) (τ:=(Int×Int×Int×(List Af))) (ν:=(B7×Int×Int)) 4 (fun(s105,s106,s107,s108,s109) a111=>Bg 135 [(2,AV.ptr 0 0),(5,AV.sl 4 (List.map A2 y1.1)),(8,AV.ptr 1 0),(9,AV.ptr 2 0),(14,bA s105)]) (fun(s105,s106,s107,s108,s109) a111=>[Ob.var 27 [iA (0),AV.row 8 (List.length (([]:List B4))),AV.row 9 (List.length (([]:List Ad))),AV.row 10 (List.length (([]:List Af)))],Ob.var 53 [AV.sl 4 (List.map A2 y1.1),iA s106,iA s107,iA s108],Ob.var 27 [iA y11.1.C2,AV.row 11 (List.length x59),AV.row 12 (List.length x104),AV.row 13 (List.length s109)],Ob.var 3 [iA (1)],Ob.var 9 [sA (([109,111,100]:List UInt8))],Ob.var 3 [iA (1)],Ob.var 9 [sA (([108,111,99]:List UInt8))],Ob.var 55 [iA x55,sA x56,iA x57,iA x58],Ob.row 45 3 ([]),Ob.row 40 4 ([]),Ob.row 43 3 ([]),Ob.row 45 3 (List.map Aj x59),Ob.row 40 4 (List.map A9 x104),Ob.row 43 3 (List.map Ag s109),Ob.var 3 [iA (1)],Ob.var 9 [sA (([116,104,114,101,97,100]:List UInt8))],Ob.var 55 [iA x100,sA x101,iA x102,iA x103]]) (fun(x156,x157,x158,x159) a155=>Bg 135 [(2,AV.ptr 0 0),(5,AV.sl 4 (List.map A2 y1.1)),(8,AV.ptr 1 0),(9,AV.ptr 2 0)]) (fun(x156,x157,x158,x159) a155=>[Ob.var 27 [iA (0),AV.row 8 (List.length (([]:List B4))),AV.row 9 (List.length (([]:List Ad))),AV.row 10 (List.length (([]:List Af)))],Ob.var 53 [AV.sl 4 (List.map A2 y1.1),iA x156,iA x157,iA x158],Ob.var 27 [iA y11.1.C2,AV.row 11 (List.length x59),AV.row 12 (List.length x104),AV.row 13 (List.length x159)],Ob.var 3 [iA (1)],Ob.var 9 [sA (([109,111,100]:List UInt8))],Ob.var 3 [iA (1)],Ob.var 9 [sA (([108,111,99]:List UInt8))],Ob.var 55 [iA x55,sA x56,iA x57,iA x58],Ob.row 45 3 ([]),Ob.row 40 4 ([]),Ob.row 43 3 ([]),Ob.row 45 3 (List.map Aj x59),Ob.row 40 4 (List.map A9 x104),Ob.row 43 3 (List.map Ag x159),Ob.var 3 [iA (1)],Ob.var 9 [sA (([116,104,114,101,97,100]:List UInt8))],Ob.var 55 [iA x100,sA x101,iA x102,iA x103]]) (fun v=>(AV.tup [AV.agg [iA v.1.Bz,AV.sl 3 (List.map Aj v.1.B8),AV.sl 4 (List.map A9 v.1.Ak),AV.sl 3 (List.map Ag v.1.Ar)],iA v.2.1,iA v.2.2],[])) (fun k s=>Ht n y1 k s.1 s.2.1 s.2.2.1 s.2.2.2.1 s.2.2.2.2) (fun s=>rfl) o117 n (true,x97,x98,x99,([]:List Af)) (fun _=>0) ho117 ?_ ?_
 intro k110 ss a111 K112 cont113 hK114 hcont115 h hr116
 obtain⟨s105,s106,s107,s108,s109⟩:=ss
 replace h:Ht n y1 (k110+1) s105 s106 s107 s108 s109=some o117:=h
 rw[Ht] at h
 conv=>lhs;whnf
 revert h
 refine br ?_ ?_
 intro h;refine Av h ?_;clear h;intro o132 ho132 h
 refine lq (σ:=(Bool×Int×Int×Int×Int×(List Af))) (τ:=(Bool×Int×Int×Int×(List Af))) (ν:=(B7×Int×Int)) 6 (fun(s119,s120,s121,s122,s123,s124) a126=>Bg 135 [(2,AV.ptr 0 0),(5,AV.sl 4 (List.map A2 y1.1)),(8,AV.ptr 1 0),(9,AV.ptr 2 0),(14,bA s119),(15,iA s120)]) (fun(s119,s120,s121,s122,s123,s124) a126=>[Ob.var 27 [iA (0),AV.row 8 (List.length (([]:List B4))),AV.row 9 (List.length (([]:List Ad))),AV.row 10 (List.length (([]:List Af)))],Ob.var 53 [AV.sl 4 (List.map A2 y1.1),iA s121,iA s122,iA s123],Ob.var 27 [iA y11.1.C2,AV.row 11 (List.length x59),AV.row 12 (List.length x104),AV.row 13 (List.length s124)],Ob.var 3 [iA (1)],Ob.var 9 [sA (([109,111,100]:List UInt8))],Ob.var 3 [iA (1)],Ob.var 9 [sA (([108,111,99]:List UInt8))],Ob.var 55 [iA x55,sA x56,iA x57,iA x58],Ob.row 45 3 ([]),Ob.row 40 4 ([]),Ob.row 43 3 ([]),Ob.row 45 3 (List.map Aj x59),Ob.row 40 4 (List.map A9 x104),Ob.row 43 3 (List.map Ag s124),Ob.var 3 [iA (1)],Ob.var 9 [sA (([116,104,114,101,97,100]:List UInt8))],Ob.var 55 [iA x100,sA x101,iA x102,iA x103]]) (fun(x149,x150,x151,x152,x153) a148=>Bg 135 [(2,AV.ptr 0 0),(5,AV.sl 4 (List.map A2 y1.1)),(8,AV.ptr 1 0),(9,AV.ptr 2 0),(14,bA x149)]) (fun(x149,x150,x151,x152,x153) a148=>[Ob.var 27 [iA (0),AV.row 8 (List.length (([]:List B4))),AV.row 9 (List.length (([]:List Ad))),AV.row 10 (List.length (([]:List Af)))],Ob.var 53 [AV.sl 4 (List.map A2 y1.1),iA x150,iA x151,iA x152],Ob.var 27 [iA y11.1.C2,AV.row 11 (List.length x59),AV.row 12 (List.length x104),AV.row 13 (List.length x153)],Ob.var 3 [iA (1)],Ob.var 9 [sA (([109,111,100]:List UInt8))],Ob.var 3 [iA (1)],Ob.var 9 [sA (([108,111,99]:List UInt8))],Ob.var 55 [iA x55,sA x56,iA x57,iA x58],Ob.row 45 3 ([]),Ob.row 40 4 ([]),Ob.row 43 3 ([]),Ob.row 45 3 (List.map Aj x59),Ob.row 40 4 (List.map A9 x104),Ob.row 43 3 (List.map Ag x153),Ob.var 3 [iA (1)],Ob.var 9 [sA (([116,104,114,101,97,100]:List UInt8))],Ob.var 55 [iA x100,sA x101,iA x102,iA x103]]) (fun v=>(AV.tup [AV.agg [iA v.1.Bz,AV.sl 3 (List.map Aj v.1.B8),AV.sl 4 (List.map A9 v.1.Ak),AV.sl 3 (List.map Ag v.1.Ar)],iA v.2.1,iA v.2.2],[])) (fun k s=>Ds n y1 k s.1 s.2.1 s.2.2.1 s.2.2.2.1 s.2.2.2.2.1 s.2.2.2.2.2) (fun s=>rfl) o132 n (false,1,s106,s107,s108,s109) (fun _=>0) ho132 ?_ ?_
 intro k125 ss a126 K127 cont128 hK129 hcont130 h hr131
 obtain⟨s119,s120,s121,s122,s123,s124⟩:=ss
 replace h:Ds n y1 (k125+1) s119 s120 s121 s122 s123 s124=some o132:=h
 rw[Ds] at h
 conv=>lhs;whnf
 revert h
 refine br ?_ ?_
 refine ca hc (fun _ h=>Uo h) ?_;intro y134
 intro h
 obtain⟨n136,hn140,h⟩:=Ku h
 obtain⟨call137,hc138,ho139⟩:=Hc (f:=14) (args:=[iA (1),sA y134]) (hp:=[]) hcA hn140 Try.func14 (by rfl) rfl rfl (Am rfl)
 try simp only[ls]
 simp only[ho139]
 conv=>lhs;whnf
 revert h
 refine ca hc (fun _ h=>E9 h) ?_;intro y141
 refine br ?_ ?_
 refine ca hc (fun _ h=>Y3 h) ?_;intro y144
 refine ar (ap Ag (List.map Ag s124) s124 ([[iA y144.1.At,AV.sl 5 (List.map A0 y144.1.Et),iA y144.1.Al]]) ([y144.1]:List Af)) ?_
 exact fun h=>cq (hcont130 (true,IntKind.i64.wrap (s120+1),y144.2.1,y144.2.2.1,y144.2.2.2,(s124++([y144.1]:List Af))) (fun _=>0) h)
 exact fun h=>cq (hcont130 (s119,IntKind.i64.wrap (s120+1),y141.2.2,s122,s123,s124) (fun _=>0) h)
 intro h;cases sj h
 exact kq (hr131 (fun _=>0))
 refine lrc ?_ ?_
 intro v e;subst e;cases sj h;exact hr116
 intro t a148 e;subst e
 obtain⟨x149,x150,x151,x152,x153⟩:=t
 dsimp only at h
 conv=>lhs;whnf
 revert h
 exact fun h=>cq (hcont115 (x149,x150,x151,x152,x153) (fun _=>0) h)
 intro h;cases sj h
 exact kq (hr116 (fun _=>0))
 refine lrc ?_ ?_
 intro v e;subst e;cases sj h;rfl
 intro t a155 e;subst e
 obtain⟨x156,x157,x158,x159⟩:=t
 dsimp only at h
 conv=>lhs;whnf
 revert h
 refine br ?_ ?_
 refine ca hc (fun _ h=>Is h) ?_;intro y161
 refine br ?_ ?_
 exact rz
 intro h;cases sj h
 try simp only[ls]
 exact fq (y:=some (AV.tup [AV.agg [iA y11.1.C2,AV.sl 3 (List.take (List.length x59) (List.map Aj x59)),AV.sl 4 (List.take (List.length x104) (List.map A9 x104)),AV.sl 3 (List.take (List.length x159) (List.map Ag x159))],iA (0),iA (0)],[]))
 refine br ?_ ?_
 exact rz
 intro h;cases sj h
 try simp only[ls]
 exact fq (y:=some (AV.tup [AV.agg [iA y11.1.C2,AV.sl 3 (List.take (List.length x59) (List.map Aj x59)),AV.sl 4 (List.take (List.length x104) (List.map A9 x104)),AV.sl 3 (List.take (List.length x159) (List.map Ag x159))],iA (0),iA (0)],[]))
theorem X4 {n:Nat} ⦃C7:Int⦄ ⦃r:Bool⦄:Pb n C7=some r→CN n 29 [iA C7] []=some (bA r,[]):=by
 intro h;rcases n with _|n;cases h
 rw[Pb] at h
 refine Ai Try.func29 (by rfl) rfl rfl (Am rfl) ?_
 intro call hc;conv=>lhs;whnf
 revert h
 refine br ?_ ?_
 exact rz
 exact rz
theorem A3f {n:Nat} ⦃G7:Int⦄ ⦃C5:Int⦄ ⦃Br:(List B4)⦄ ⦃B3:(List Ad)⦄ ⦃Bb:(List Af)⦄ ⦃r:Bool⦄:Rn n G7 C5 Br B3 Bb=some r→CN n 27 [iA G7,AV.ptr 0 0] [Ob.var 27 [iA C5,AV.sl 3 (List.map Aj Br),AV.sl 4 (List.map A9 B3),AV.sl 3 (List.map Ag Bb)]]=some (bA r,[Ob.var 27 [iA C5,AV.sl 3 (List.map Aj Br),AV.sl 4 (List.map A9 B3),AV.sl 3 (List.map Ag Bb)]]):=by
 intro h;rcases n with _|n;cases h
 rw[Rn] at h
 refine Ai Try.func27 (by rfl) rfl rfl (Am rfl) ?_
 intro call hc;conv=>lhs;whnf
 revert h
 refine ix ?_;intro x1
 refine ca hc (fun _ h=>Fi h) ?_;intro y2
 refine br ?_ ?_
 refine ca hc (fun _ h=>X4 h) ?_;intro y5
 refine br ?_ ?_
 exact rz
 exact rz
 exact rz
theorem Ab0 {n:Nat} ⦃C7:Int⦄ ⦃C5:Int⦄ ⦃Br:(List B4)⦄ ⦃B3:(List Ad)⦄ ⦃Bb:(List Af)⦄ ⦃r:Bool⦄:Xx n C7 C5 Br B3 Bb=some r→CN n 26 [iA C7,AV.func 27 [] [AV.ptr 0 0]] [Ob.var 27 [iA C5,AV.sl 3 (List.map Aj Br),AV.sl 4 (List.map A9 B3),AV.sl 3 (List.map Ag Bb)]]=some (bA r,[Ob.var 27 [iA C5,AV.sl 3 (List.map Aj Br),AV.sl 4 (List.map A9 B3),AV.sl 3 (List.map Ag Bb)]]):=by
 intro h;rcases n with _|n;cases h
 rw[Xx] at h
 refine Ai Try.func26 (by rfl) rfl rfl (Am rfl) ?_
 intro call hc;conv=>lhs;whnf
 revert h
 intro h;refine Av h ?_;clear h;intro o9 ho9 h
 refine lq (σ:=Int) (τ:=Unit) (ν:=Bool) 0 (fun s1 a3=>Bg 15 [(1,AV.func 27 [] [AV.ptr 0 0]),(6,iA C7),(7,iA s1)]) (fun s1 a3=>[Ob.var 27 [iA C5,AV.sl 3 (List.map Aj Br),AV.sl 4 (List.map A9 B3),AV.sl 3 (List.map Ag Bb)]]) (fun _ a14=>Bg 15 []) (fun _ a14=>[Ob.var 27 [iA C5,AV.sl 3 (List.map Aj Br),AV.sl 4 (List.map A9 B3),AV.sl 3 (List.map Ag Bb)]]) (fun v=>(bA v,[Ob.var 27 [iA C5,AV.sl 3 (List.map Aj Br),AV.sl 4 (List.map A9 B3),AV.sl 3 (List.map Ag Bb)]])) (fun k s=>Oz n C7 C5 Br B3 Bb k s) (fun s=>rfl) o9 n 0 (fun _=>0) ho9 ?_ ?_
 intro k2 s1 a3 K4 cont5 hK6 hcont7 h hr8
 replace h:Oz n C7 C5 Br B3 Bb (k2+1) s1=some o9:=h
 rw[Oz] at h
 conv=>lhs;whnf
 revert h
 refine br ?_ ?_
 refine ca hc (fun _ h=>A3f h) ?_;intro y11
 refine br ?_ ?_
 exact fun h=>cq (hcont7 (IntKind.i64.wrap (s1+1)) (fun _=>0) h)
 intro h;cases sj h
 refine(hK6 _ _).trans ?_
 refine Eq.trans ?_ (Eq.symm (show _=some _ from hr8))
 conv=>lhs;whnf
 exact rq
 intro h;cases sj h
 exact kq (hr8 (fun _=>0))
 refine lrc ?_ ?_
 intro v e;subst e;cases sj h;rfl
 intro t a14 e;subst e
 dsimp only at h
 conv=>lhs;whnf
 revert h
 exact rz
theorem A1s {n:Nat} ⦃G7:Int⦄ ⦃Gj:(List UInt8)⦄ ⦃G9:(List (List UInt8))⦄ ⦃Gk:(List A3)⦄ ⦃Jp:Int⦄ ⦃r:Bool⦄:Qd n G7 Gj G9 Gk Jp=some r→CN n 54 [iA G7,AV.ptr 0 0] [Ob.var 40 [sA Gj,AV.sl 1 (List.map Fk G9),AV.sl 9 (List.map Aa Gk),iA Jp]]=some (bA r,[Ob.var 40 [sA Gj,AV.sl 1 (List.map Fk G9),AV.sl 9 (List.map Aa Gk),iA Jp]]):=by
 intro h;rcases n with _|n;cases h
 rw[Qd] at h
 refine Ai Try.func54 (by rfl) rfl rfl (Am rfl) ?_
 intro call hc;conv=>lhs;whnf
 revert h
 refine ix ?_;intro x1
 refine ca hc (fun _ h=>Fi h) ?_;intro y2
 exact rz
theorem A6c {n:Nat} ⦃C7:Int⦄ ⦃Gj:(List UInt8)⦄ ⦃G9:(List (List UInt8))⦄ ⦃Gk:(List A3)⦄ ⦃Jp:Int⦄ ⦃r:Bool⦄:Ux n C7 Gj G9 Gk Jp=some r→CN n 26 [iA C7,AV.func 54 [] [AV.ptr 0 0]] [Ob.var 40 [sA Gj,AV.sl 1 (List.map Fk G9),AV.sl 9 (List.map Aa Gk),iA Jp]]=some (bA r,[Ob.var 40 [sA Gj,AV.sl 1 (List.map Fk G9),AV.sl 9 (List.map Aa Gk),iA Jp]]):=by
 intro h;rcases n with _|n;cases h
 rw[Ux] at h
 refine Ai Try.func26 (by rfl) rfl rfl (Am rfl) ?_
 intro call hc;conv=>lhs;whnf
 revert h
 intro h;refine Av h ?_;clear h;intro o9 ho9 h
 refine lq (σ:=Int) (τ:=Unit) (ν:=Bool) 0 (fun s1 a3=>Bg 15 [(1,AV.func 54 [] [AV.ptr 0 0]),(6,iA C7),(7,iA s1)]) (fun s1 a3=>[Ob.var 40 [sA Gj,AV.sl 1 (List.map Fk G9),AV.sl 9 (List.map Aa Gk),iA Jp]]) (fun _ a14=>Bg 15 []) (fun _ a14=>[Ob.var 40 [sA Gj,AV.sl 1 (List.map Fk G9),AV.sl 9 (List.map Aa Gk),iA Jp]]) (fun v=>(bA v,[Ob.var 40 [sA Gj,AV.sl 1 (List.map Fk G9),AV.sl 9 (List.map Aa Gk),iA Jp]])) (fun k s=>M9 n C7 Gj G9 Gk Jp k s) (fun s=>rfl) o9 n 0 (fun _=>0) ho9 ?_ ?_
 intro k2 s1 a3 K4 cont5 hK6 hcont7 h hr8
 replace h:M9 n C7 Gj G9 Gk Jp (k2+1) s1=some o9:=h
 rw[M9] at h
 conv=>lhs;whnf
 revert h
 refine br ?_ ?_
 refine ca hc (fun _ h=>A1s h) ?_;intro y11
 refine br ?_ ?_
 exact fun h=>cq (hcont7 (IntKind.i64.wrap (s1+1)) (fun _=>0) h)
 intro h;cases sj h
 refine(hK6 _ _).trans ?_
 refine Eq.trans ?_ (Eq.symm (show _=some _ from hr8))
 conv=>lhs;whnf
 exact rq
 intro h;cases sj h
 exact kq (hr8 (fun _=>0))
 refine lrc ?_ ?_
 intro v e;subst e;cases sj h;rfl
 intro t a14 e;subst e
 dsimp only at h
 conv=>lhs;whnf
 revert h
 exact rz
theorem A52 {n:Nat} ⦃Ee:Ad⦄ ⦃r:Bool⦄:So n Ee=some r→CN n 31 [AV.agg [sA Ee.An,AV.sl 1 (List.map Fk Ee.Bv),AV.sl 9 (List.map Aa Ee.Be),iA Ee.Al]] []=some (bA r,[]):=by
 intro h;rcases n with _|n;cases h
 rw[So] at h
 refine Ai Try.func31 (by rfl) rfl rfl (Am rfl) ?_
 intro call hc;conv=>lhs;whnf
 revert h
 refine ca hc (fun _ h=>Fi h) ?_;intro y1
 refine br ?_ ?_
 refine br ?_ ?_
 refine ca hc (fun _ h=>Yr h) ?_;intro y5
 refine br ?_ ?_
 refine cr hc (fun _ h=>A6c h) ?_;intro y8
 exact rz
 exact rz
 exact rz
 exact rz
theorem A41 {n:Nat} ⦃G7:Int⦄ ⦃C5:Int⦄ ⦃Br:(List B4)⦄ ⦃B3:(List Ad)⦄ ⦃Bb:(List Af)⦄ ⦃r:Bool⦄:Re n G7 C5 Br B3 Bb=some r→CN n 30 [iA G7,AV.ptr 0 0] [Ob.var 27 [iA C5,AV.sl 3 (List.map Aj Br),AV.sl 4 (List.map A9 B3),AV.sl 3 (List.map Ag Bb)]]=some (bA r,[Ob.var 27 [iA C5,AV.sl 3 (List.map Aj Br),AV.sl 4 (List.map A9 B3),AV.sl 3 (List.map Ag Bb)]]):=by
 intro h;rcases n with _|n;cases h
 rw[Re] at h
 refine Ai Try.func30 (by rfl) rfl rfl (Am rfl) ?_
 intro call hc;conv=>lhs;whnf
 revert h
 refine ix ?_;intro x1
 refine ca hc (fun _ h=>A52 h) ?_;intro y2
 exact rz
theorem A6k {n:Nat} ⦃C7:Int⦄ ⦃C5:Int⦄ ⦃Br:(List B4)⦄ ⦃B3:(List Ad)⦄ ⦃Bb:(List Af)⦄ ⦃r:Bool⦄:U4 n C7 C5 Br B3 Bb=some r→CN n 26 [iA C7,AV.func 30 [] [AV.ptr 0 0]] [Ob.var 27 [iA C5,AV.sl 3 (List.map Aj Br),AV.sl 4 (List.map A9 B3),AV.sl 3 (List.map Ag Bb)]]=some (bA r,[Ob.var 27 [iA C5,AV.sl 3 (List.map Aj Br),AV.sl 4 (List.map A9 B3),AV.sl 3 (List.map Ag Bb)]]):=by
 intro h;rcases n with _|n;cases h
 rw[U4] at h
 refine Ai Try.func26 (by rfl) rfl rfl (Am rfl) ?_
 intro call hc;conv=>lhs;whnf
 revert h
 intro h;refine Av h ?_;clear h;intro o9 ho9 h
 refine lq (σ:=Int) (τ:=Unit) (ν:=Bool) 0 (fun s1 a3=>Bg 15 [(1,AV.func 30 [] [AV.ptr 0 0]),(6,iA C7),(7,iA s1)]) (fun s1 a3=>[Ob.var 27 [iA C5,AV.sl 3 (List.map Aj Br),AV.sl 4 (List.map A9 B3),AV.sl 3 (List.map Ag Bb)]]) (fun _ a14=>Bg 15 []) (fun _ a14=>[Ob.var 27 [iA C5,AV.sl 3 (List.map Aj Br),AV.sl 4 (List.map A9 B3),AV.sl 3 (List.map Ag Bb)]]) (fun v=>(bA v,[Ob.var 27 [iA C5,AV.sl 3 (List.map Aj Br),AV.sl 4 (List.map A9 B3),AV.sl 3 (List.map Ag Bb)]])) (fun k s=>Me n C7 C5 Br B3 Bb k s) (fun s=>rfl) o9 n 0 (fun _=>0) ho9 ?_ ?_
 intro k2 s1 a3 K4 cont5 hK6 hcont7 h hr8
 replace h:Me n C7 C5 Br B3 Bb (k2+1) s1=some o9:=h
 rw[Me] at h
 conv=>lhs;whnf
 revert h
 refine br ?_ ?_
 refine ca hc (fun _ h=>A41 h) ?_;intro y11
 refine br ?_ ?_
 exact fun h=>cq (hcont7 (IntKind.i64.wrap (s1+1)) (fun _=>0) h)
 intro h;cases sj h
 refine(hK6 _ _).trans ?_
 refine Eq.trans ?_ (Eq.symm (show _=some _ from hr8))
 conv=>lhs;whnf
 exact rq
 intro h;cases sj h
 exact kq (hr8 (fun _=>0))
 refine lrc ?_ ?_
 intro v e;subst e;cases sj h;rfl
 intro t a14 e;subst e
 dsimp only at h
 conv=>lhs;whnf
 revert h
 exact rz
theorem A6b {n:Nat} ⦃Fr:Af⦄ ⦃r:Bool⦄:Uu n Fr=some r→CN n 33 [AV.agg [iA Fr.At,AV.sl 5 (List.map A0 Fr.Et),iA Fr.Al]] []=some (bA r,[]):=by
 intro h;rcases n with _|n;cases h
 rw[Uu] at h
 refine Ai Try.func33 (by rfl) rfl rfl (Am rfl) ?_
 intro call hc;conv=>lhs;whnf
 revert h
 refine ca hc (fun _ h=>Yv h) ?_;intro y1
 intro h;refine Av h ?_;clear h;intro o11 ho11 h
 refine lq (σ:=Int) (τ:=Unit) (ν:=Bool) 0 (fun s3 a5=>Bg 31 [(1,AV.ptr 0 0),(7,AV.sl 5 (List.map A0 y1)),(8,iA (((y1.length:Nat):Int))),(9,iA s3)]) (fun s3 a5=>[Ob.var 43 [iA Fr.At,AV.sl 5 (List.map A0 Fr.Et),iA Fr.Al]]) (fun _ a15=>Bg 31 [(1,AV.ptr 0 0)]) (fun _ a15=>[Ob.var 43 [iA Fr.At,AV.sl 5 (List.map A0 Fr.Et),iA Fr.Al]]) (fun v=>(bA v,[])) (fun k s=>Ma n y1 k s) (fun s=>rfl) o11 n 0 (fun _=>0) ho11 ?_ ?_
 intro k4 s3 a5 K6 cont7 hK8 hcont9 h hr10
 replace h:Ma n y1 (k4+1) s3=some o11:=h
 rw[Ma] at h
 conv=>lhs;whnf
 revert h
 refine br ?_ ?_
 refine ix ?_;intro x13
 refine br ?_ ?_
 intro h;cases sj h
 refine(hK8 _ _).trans ?_
 refine Eq.trans ?_ (Eq.symm (show _=some _ from hr10))
 conv=>lhs;whnf
 exact rq
 exact fun h=>cq (hcont9 (IntKind.i64.wrap (s3+1)) (fun _=>0) h)
 intro h;cases sj h
 exact kq (hr10 (fun _=>0))
 refine lrc ?_ ?_
 intro v e;subst e;cases sj h;rfl
 intro t a15 e;subst e
 dsimp only at h
 conv=>lhs;whnf
 revert h
 refine ca hc (fun _ h=>Uo h) ?_;intro y16
 refine br ?_ ?_
 exact rz
 refine ca hc (fun _ h=>Ss h) ?_;intro y19
 refine br ?_ ?_
 exact rz
 exact rz
theorem A2r {n:Nat} ⦃G7:Int⦄ ⦃C5:Int⦄ ⦃Br:(List B4)⦄ ⦃B3:(List Ad)⦄ ⦃Bb:(List Af)⦄ ⦃r:Bool⦄:Ra n G7 C5 Br B3 Bb=some r→CN n 32 [iA G7,AV.ptr 0 0] [Ob.var 27 [iA C5,AV.sl 3 (List.map Aj Br),AV.sl 4 (List.map A9 B3),AV.sl 3 (List.map Ag Bb)]]=some (bA r,[Ob.var 27 [iA C5,AV.sl 3 (List.map Aj Br),AV.sl 4 (List.map A9 B3),AV.sl 3 (List.map Ag Bb)]]):=by
 intro h;rcases n with _|n;cases h
 rw[Ra] at h
 refine Ai Try.func32 (by rfl) rfl rfl (Am rfl) ?_
 intro call hc;conv=>lhs;whnf
 revert h
 refine ix ?_;intro x1
 refine ca hc (fun _ h=>A6b h) ?_;intro y2
 exact rz
theorem A6n {n:Nat} ⦃C7:Int⦄ ⦃C5:Int⦄ ⦃Br:(List B4)⦄ ⦃B3:(List Ad)⦄ ⦃Bb:(List Af)⦄ ⦃r:Bool⦄:V0 n C7 C5 Br B3 Bb=some r→CN n 26 [iA C7,AV.func 32 [] [AV.ptr 0 0]] [Ob.var 27 [iA C5,AV.sl 3 (List.map Aj Br),AV.sl 4 (List.map A9 B3),AV.sl 3 (List.map Ag Bb)]]=some (bA r,[Ob.var 27 [iA C5,AV.sl 3 (List.map Aj Br),AV.sl 4 (List.map A9 B3),AV.sl 3 (List.map Ag Bb)]]):=by
 intro h;rcases n with _|n;cases h
 rw[V0] at h
 refine Ai Try.func26 (by rfl) rfl rfl (Am rfl) ?_
 intro call hc;conv=>lhs;whnf
 revert h
 intro h;refine Av h ?_;clear h;intro o9 ho9 h
 refine lq (σ:=Int) (τ:=Unit) (ν:=Bool) 0 (fun s1 a3=>Bg 15 [(1,AV.func 32 [] [AV.ptr 0 0]),(6,iA C7),(7,iA s1)]) (fun s1 a3=>[Ob.var 27 [iA C5,AV.sl 3 (List.map Aj Br),AV.sl 4 (List.map A9 B3),AV.sl 3 (List.map Ag Bb)]]) (fun _ a14=>Bg 15 []) (fun _ a14=>[Ob.var 27 [iA C5,AV.sl 3 (List.map Aj Br),AV.sl 4 (List.map A9 B3),AV.sl 3 (List.map Ag Bb)]]) (fun v=>(bA v,[Ob.var 27 [iA C5,AV.sl 3 (List.map Aj Br),AV.sl 4 (List.map A9 B3),AV.sl 3 (List.map Ag Bb)]])) (fun k s=>Mk n C7 C5 Br B3 Bb k s) (fun s=>rfl) o9 n 0 (fun _=>0) ho9 ?_ ?_
 intro k2 s1 a3 K4 cont5 hK6 hcont7 h hr8
 replace h:Mk n C7 C5 Br B3 Bb (k2+1) s1=some o9:=h
 rw[Mk] at h
 conv=>lhs;whnf
 revert h
 refine br ?_ ?_
 refine ca hc (fun _ h=>A2r h) ?_;intro y11
 refine br ?_ ?_
 exact fun h=>cq (hcont7 (IntKind.i64.wrap (s1+1)) (fun _=>0) h)
 intro h;cases sj h
 refine(hK6 _ _).trans ?_
 refine Eq.trans ?_ (Eq.symm (show _=some _ from hr8))
 conv=>lhs;whnf
 exact rq
 intro h;cases sj h
 exact kq (hr8 (fun _=>0))
 refine lrc ?_ ?_
 intro v e;subst e;cases sj h;rfl
 intro t a14 e;subst e
 dsimp only at h
 conv=>lhs;whnf
 revert h
 exact rz
theorem Yw {n:Nat} ⦃As:B7⦄ ⦃r:Bool⦄:Qu n As=some r→CN n 8 [AV.agg [iA As.Bz,AV.sl 3 (List.map Aj As.B8),AV.sl 4 (List.map A9 As.Ak),AV.sl 3 (List.map Ag As.Ar)]] []=some (bA r,[]):=by
 intro h;rcases n with _|n;cases h
 rw[Qu] at h
 refine Ai Try.func8 (by rfl) rfl rfl (Am rfl) ?_
 intro call hc;conv=>lhs;whnf
 revert h
 refine cr hc (fun _ h=>Ab0 h) ?_;intro y1
 refine ca hc (fun _ h=>X4 h) ?_;intro y3
 refine br ?_ ?_
 refine br ?_ ?_
 refine cr hc (fun _ h=>A6k h) ?_;intro y7
 refine br ?_ ?_
 refine cr hc (fun _ h=>A6n h) ?_;intro y10
 exact rz
 exact rz
 exact rz
 exact rz
def N6 (n:Nat):Prop:=∀ ⦃C7:Int⦄ ⦃r:(List UInt8)⦄,Lf n C7=some r→CN n 23 [iA C7] []=some (sA r,[])
def Qp (n:Nat):Prop:=N6 n
theorem A2v (n:Nat) (ih:Qp n):N6 (n+1):=by
 intro C7 r h
 rw[Lf] at h
 refine Ai Try.func23 (by rfl) rfl rfl (Am rfl) ?_
 intro call hc;conv=>lhs;whnf
 revert h
 refine br ?_ ?_
 exact rz
 refine ca hc (fun _ h=>ih h) ?_;intro y2
 intro h
 refine B0 h ?_;clear h;intro hc4 h
 refine B1 hc4 ?_
 try simp only[ls]
 conv=>lhs;whnf
 revert h
 exact rz
theorem Uy:∀ n,Qp n
 | 0=>by unfold Qp N6;intros;rename_i h;exact absurd h (by intro h;cases h)
 | n+1=>have ih:=Uy n
   A2v n ih
theorem Vp {n:Nat}:N6 n:=(Uy n)
theorem Aa8 {n:Nat} ⦃As:B7⦄ ⦃r:(List UInt8)⦄:W4 n As=some r→CN n 7 [AV.agg [iA As.Bz,AV.sl 3 (List.map Aj As.B8),AV.sl 4 (List.map A9 As.Ak),AV.sl 3 (List.map Ag As.Ar)]] []=some (sA r,[]):=by
 intro h;rcases n with _|n;cases h
 rw[W4] at h
 refine Ai Try.func7 (by rfl) rfl rfl (Am rfl) ?_
 intro call hc;conv=>lhs;whnf
 revert h
 refine ca hc (fun _ h=>Yw h) ?_;intro y1
 refine br ?_ ?_
 refine ca hc (fun _ h=>Vp h) ?_;intro y4
 intro h
 refine B0 h ?_;clear h;intro hc6 h
 refine B1 hc6 ?_
 try simp only[ls]
 conv=>lhs;whnf
 revert h
 intro h
 refine B0 h ?_;clear h;intro hc7 h
 refine B1 hc7 ?_
 try simp only[ls]
 conv=>lhs;whnf
 revert h
 intro h;refine Av h ?_;clear h;intro o17 ho17 h
 refine lq (σ:=((List UInt8)×Int)) (τ:=(List UInt8)) (ν:=(List UInt8)) 0 (fun(s8,s9) a11=>Bg 99 [(1,AV.ptr 0 0),(3,sA s8),(22,AV.sl 3 (List.map Aj As.B8)),(23,iA (((As.B8.length:Nat):Int))),(24,iA s9)]) (fun(s8,s9) a11=>[Ob.var 27 [iA As.Bz,AV.sl 3 (List.map Aj As.B8),AV.sl 4 (List.map A9 As.Ak),AV.sl 3 (List.map Ag As.Ar)]]) (fun x28 a27=>Bg 99 [(1,AV.ptr 0 0),(3,sA x28)]) (fun x28 a27=>[Ob.var 27 [iA As.Bz,AV.sl 3 (List.map Aj As.B8),AV.sl 4 (List.map A9 As.Ak),AV.sl 3 (List.map Ag As.Ar)]]) (fun v=>(sA v,[])) (fun k s=>Nh n As k s.1 s.2) (fun s=>rfl) o17 n (((([109,111,100,32]:List UInt8)++y4)++([59,10]:List UInt8)),0) (fun _=>0) ho17 ?_ ?_
 intro k10 ss a11 K12 cont13 hK14 hcont15 h hr16
 obtain⟨s8,s9⟩:=ss
 replace h:Nh n As (k10+1) s8 s9=some o17:=h
 rw[Nh] at h
 conv=>lhs;whnf
 revert h
 refine br ?_ ?_
 refine ix ?_;intro x19
 intro h
 refine B0 h ?_;clear h;intro hc20 h
 refine B1 hc20 ?_
 try simp only[ls]
 conv=>lhs;whnf
 revert h
 intro h
 refine B0 h ?_;clear h;intro hc21 h
 refine B1 hc21 ?_
 try simp only[ls]
 conv=>lhs;whnf
 revert h
 refine ca hc (fun _ h=>Vp h) ?_;intro y22
 intro h
 refine B0 h ?_;clear h;intro hc24 h
 refine B1 hc24 ?_
 try simp only[ls]
 conv=>lhs;whnf
 revert h
 intro h
 refine B0 h ?_;clear h;intro hc25 h
 refine B1 hc25 ?_
 try simp only[ls]
 conv=>lhs;whnf
 revert h
 intro h
 refine B0 h ?_;clear h;intro hc26 h
 refine B1 hc26 ?_
 try simp only[ls]
 conv=>lhs;whnf
 revert h
 exact fun h=>cq (hcont15 ((s8++((((([108,111,99,32]:List UInt8)++x19.An)++([32,61,32]:List UInt8))++y22)++([59,10]:List UInt8))),IntKind.i64.wrap (s9+1)) (fun _=>0) h)
 intro h;cases sj h
 exact kq (hr16 (fun _=>0))
 refine lrc ?_ ?_
 intro v e;subst e;cases sj h;rfl
 intro x28 a27 e;subst e
 dsimp only at h
 conv=>lhs;whnf
 revert h
 intro h;refine Av h ?_;clear h;intro o38 ho38 h
 refine lq (σ:=((List UInt8)×Int)) (τ:=(List UInt8)) (ν:=(List UInt8)) 2 (fun(s29,s30) a32=>Bg 99 [(1,AV.ptr 0 0),(3,sA s29),(41,AV.sl 4 (List.map A9 As.Ak)),(42,iA (((As.Ak.length:Nat):Int))),(43,iA s30)]) (fun(s29,s30) a32=>[Ob.var 27 [iA As.Bz,AV.sl 3 (List.map Aj As.B8),AV.sl 4 (List.map A9 As.Ak),AV.sl 3 (List.map Ag As.Ar)]]) (fun x73 a72=>Bg 99 [(1,AV.ptr 0 0),(3,sA x73)]) (fun x73 a72=>[Ob.var 27 [iA As.Bz,AV.sl 3 (List.map Aj As.B8),AV.sl 4 (List.map A9 As.Ak),AV.sl 3 (List.map Ag As.Ar)]]) (fun v=>(sA v,[])) (fun k s=>Lc n As k s.1 s.2) (fun s=>rfl) o38 n (x28,0) (fun _=>0) ho38 ?_ ?_
 intro k31 ss a32 K33 cont34 hK35 hcont36 h hr37
 obtain⟨s29,s30⟩:=ss
 replace h:Lc n As (k31+1) s29 s30=some o38:=h
 rw[Lc] at h
 conv=>lhs;whnf
 revert h
 refine br ?_ ?_
 refine ix ?_;intro x40
 intro h
 refine B0 h ?_;clear h;intro hc41 h
 refine B1 hc41 ?_
 try simp only[ls]
 conv=>lhs;whnf
 revert h
 intro h
 refine B0 h ?_;clear h;intro hc42 h
 refine B1 hc42 ?_
 try simp only[ls]
 conv=>lhs;whnf
 revert h
 intro h
 refine B0 h ?_;clear h;intro hc43 h
 refine B1 hc43 ?_
 try simp only[ls]
 conv=>lhs;whnf
 revert h
 intro h;refine Av h ?_;clear h;intro o54 ho54 h
 refine lq (σ:=((List UInt8)×(List UInt8)×Int)) (τ:=(List UInt8)) (ν:=(List UInt8)) 4 (fun(s44,s45,s46) a48=>Bg 99 [(1,AV.ptr 0 0),(3,sA s44),(7,AV.ptr 1 0),(8,sA s45),(41,AV.sl 4 (List.map A9 As.Ak)),(42,iA (((As.Ak.length:Nat):Int))),(43,iA s30),(54,AV.sl 1 (List.map Fk x40.Bv)),(55,iA (((x40.Bv.length:Nat):Int))),(56,iA s46)]) (fun(s44,s45,s46) a48=>[Ob.var 27 [iA As.Bz,AV.sl 3 (List.map Aj As.B8),AV.sl 4 (List.map A9 As.Ak),AV.sl 3 (List.map Ag As.Ar)],Ob.var 40 [sA x40.An,AV.sl 1 (List.map Fk x40.Bv),AV.sl 9 (List.map Aa x40.Be),iA x40.Al]]) (fun x60 a59=>Bg 99 [(1,AV.ptr 0 0),(3,sA x60),(7,AV.ptr 1 0),(41,AV.sl 4 (List.map A9 As.Ak)),(42,iA (((As.Ak.length:Nat):Int))),(43,iA s30)]) (fun x60 a59=>[Ob.var 27 [iA As.Bz,AV.sl 3 (List.map Aj As.B8),AV.sl 4 (List.map A9 As.Ak),AV.sl 3 (List.map Ag As.Ar)],Ob.var 40 [sA x40.An,AV.sl 1 (List.map Fk x40.Bv),AV.sl 9 (List.map Aa x40.Be),iA x40.Al]]) (fun v=>(sA v,[])) (fun k s=>Ns n x40 k s.1 s.2.1 s.2.2) (fun s=>rfl) o54 n ((s29++((([116,104,114,101,97,100,32]:List UInt8)++x40.An)++([32,123,10]:List UInt8))),([32,32,114,101,103,32]:List UInt8),0) (fun _=>0) ho54 ?_ ?_
 intro k47 ss a48 K49 cont50 hK51 hcont52 h hr53
 obtain⟨s44,s45,s46⟩:=ss
 replace h:Ns n x40 (k47+1) s44 s45 s46=some o54:=h
 rw[Ns] at h
 conv=>lhs;whnf
 revert h
 refine br ?_ ?_
 refine ix ?_;intro x56
 intro h
 refine B0 h ?_;clear h;intro hc57 h
 refine B1 hc57 ?_
 try simp only[ls]
 conv=>lhs;whnf
 revert h
 intro h
 refine B0 h ?_;clear h;intro hc58 h
 refine B1 hc58 ?_
 try simp only[ls]
 conv=>lhs;whnf
 revert h
 exact fun h=>cq (hcont52 ((s44++(s45++x56)),([44,32]:List UInt8),IntKind.i64.wrap (s46+1)) (fun _=>0) h)
 intro h;cases sj h
 exact kq (hr53 (fun _=>0))
 refine lrc ?_ ?_
 intro v e;subst e;cases sj h;exact hr37
 intro x60 a59 e;subst e
 dsimp only at h
 conv=>lhs;whnf
 revert h
 refine br ?_ ?_
 intro h
 refine B0 h ?_;clear h;intro hc62 h
 refine B1 hc62 ?_
 try simp only[ls]
 conv=>lhs;whnf
 revert h
 refine ca hc (fun _ h=>A0k h) ?_;intro y63
 intro h
 refine B0 h ?_;clear h;intro hc65 h
 refine B1 hc65 ?_
 try simp only[ls]
 conv=>lhs;whnf
 revert h
 intro h
 refine B0 h ?_;clear h;intro hc66 h
 refine B1 hc66 ?_
 try simp only[ls]
 conv=>lhs;whnf
 revert h
 exact fun h=>cq (hcont36 (((x60++([59,10]:List UInt8))++(y63++([125,10]:List UInt8))),IntKind.i64.wrap (s30+1)) (fun _=>0) h)
 refine ca hc (fun _ h=>A0k h) ?_;intro y67
 intro h
 refine B0 h ?_;clear h;intro hc69 h
 refine B1 hc69 ?_
 try simp only[ls]
 conv=>lhs;whnf
 revert h
 intro h
 refine B0 h ?_;clear h;intro hc70 h
 refine B1 hc70 ?_
 try simp only[ls]
 conv=>lhs;whnf
 revert h
 exact fun h=>cq (hcont36 ((x60++(y67++([125,10]:List UInt8))),IntKind.i64.wrap (s30+1)) (fun _=>0) h)
 intro h;cases sj h
 exact kq (hr37 (fun _=>0))
 refine lrc ?_ ?_
 intro v e;subst e;cases sj h;rfl
 intro x73 a72 e;subst e
 dsimp only at h
 conv=>lhs;whnf
 revert h
 intro h;refine Av h ?_;clear h;intro o83 ho83 h
 refine lq (σ:=((List UInt8)×Int)) (τ:=(List UInt8)) (ν:=(List UInt8)) 6 (fun(s74,s75) a77=>Bg 99 [(3,sA s74),(80,AV.sl 3 (List.map Ag As.Ar)),(81,iA (((As.Ar.length:Nat):Int))),(82,iA s75)]) (fun(s74,s75) a77=>[Ob.var 27 [iA As.Bz,AV.sl 3 (List.map Aj As.B8),AV.sl 4 (List.map A9 As.Ak),AV.sl 3 (List.map Ag As.Ar)]]) (fun x95 a94=>Bg 99 [(3,sA x95)]) (fun x95 a94=>[Ob.var 27 [iA As.Bz,AV.sl 3 (List.map Aj As.B8),AV.sl 4 (List.map A9 As.Ak),AV.sl 3 (List.map Ag As.Ar)]]) (fun v=>(sA v,[])) (fun k s=>Nl n As k s.1 s.2) (fun s=>rfl) o83 n (x73,0) (fun _=>0) ho83 ?_ ?_
 intro k76 ss a77 K78 cont79 hK80 hcont81 h hr82
 obtain⟨s74,s75⟩:=ss
 replace h:Nl n As (k76+1) s74 s75=some o83:=h
 rw[Nl] at h
 conv=>lhs;whnf
 revert h
 refine br ?_ ?_
 refine ix ?_;intro x85
 refine ca hc (fun _ h=>Uo h) ?_;intro y86
 intro h
 refine B0 h ?_;clear h;intro hc88 h
 refine B1 hc88 ?_
 try simp only[ls]
 conv=>lhs;whnf
 revert h
 refine ca hc (fun _ h=>Un h) ?_;intro y89
 intro h
 refine B0 h ?_;clear h;intro hc91 h
 refine B1 hc91 ?_
 try simp only[ls]
 conv=>lhs;whnf
 revert h
 intro h
 refine B0 h ?_;clear h;intro hc92 h
 refine B1 hc92 ?_
 try simp only[ls]
 conv=>lhs;whnf
 revert h
 intro h
 refine B0 h ?_;clear h;intro hc93 h
 refine B1 hc93 ?_
 try simp only[ls]
 conv=>lhs;whnf
 revert h
 exact fun h=>cq (hcont81 ((s74++(((y86++([32]:List UInt8))++y89)++([59,10]:List UInt8))),IntKind.i64.wrap (s75+1)) (fun _=>0) h)
 intro h;cases sj h
 exact kq (hr82 (fun _=>0))
 refine lrc ?_ ?_
 intro v e;subst e;cases sj h;rfl
 intro x95 a94 e;subst e
 dsimp only at h
 conv=>lhs;whnf
 revert h
 exact rz
 exact rz
theorem X2 {n:Nat} ⦃r:(List UInt8)⦄:Pf n=some r→CN n 11 [] []=some (sA r,[]):=by
 intro h;rcases n with _|n;cases h
 rw[Pf] at h
 refine Ai Try.func11 (by rfl) rfl rfl (Am rfl) ?_
 intro call hc;conv=>lhs;whnf
 revert h
 exact rz
theorem X9 {n:Nat} ⦃r:Bool⦄:K2 n=some r→CN n 5 [] []=some (bA r,[]):=by
 intro h;rcases n with _|n;cases h
 rw[K2] at h
 refine Ai Try.func5 (by rfl) rfl rfl (Am rfl) ?_
 intro call hc;conv=>lhs;whnf
 revert h
 refine ca hc (fun _ h=>X2 h) ?_;intro y1
 refine ca hc (fun _ h=>Jv h) ?_;intro y3
 refine ca hc (fun _ h=>Jv h) ?_;intro y5
 refine ca hc (fun _ h=>Jv h) ?_;intro y7
 refine cr hc (fun _ h=>Jv h) ?_;intro y9
 refine br ?_ ?_
 exact rz
 refine br ?_ ?_
 exact rz
 refine br ?_ ?_
 exact rz
 refine br ?_ ?_
 exact rz
 refine br ?_ ?_
 exact rz
 refine ix ?_;intro x16
 refine br ?_ ?_
 exact rz
 refine ix ?_;intro x18
 refine br ?_ ?_
 exact rz
 refine ca hc (fun _ h=>A9z h) ?_;intro y20
 refine ix ?_;intro x22
 refine br ?_ ?_
 refine br ?_ ?_
 refine ix ?_;intro x25
 refine br ?_ ?_
 refine ix ?_;intro x27
 refine ix ?_;intro x28
 refine br ?_ ?_
 refine br ?_ ?_
 refine br ?_ ?_
 refine br ?_ ?_
 refine br ?_ ?_
 refine br ?_ ?_
 refine br ?_ ?_
 refine ca hc (fun _ h=>Aa8 h) ?_;intro y36
 refine ca hc (fun _ h=>X2 h) ?_;intro y38
 refine br ?_ ?_
 refine ca hc (fun _ h=>Yw h) ?_;intro y41
 exact rz
 exact rz
 exact rz
 exact rz
 exact rz
 exact rz
 exact rz
 exact rz
 exact rz
 exact rz
 exact rz
 exact rz
theorem M8 {n:Nat} ⦃Bi:(List A1)⦄ ⦃Bk:(List A1)⦄ ⦃Ef:Bool⦄ ⦃r:Bool⦄:Hi n Bi Bk Ef=some r→CN n 36 [AV.sl 5 (List.map A0 Bi),AV.sl 5 (List.map A0 Bk),bA Ef] []=some (bA r,[]):=by
 intro h;rcases n with _|n;cases h
 rw[Hi] at h
 refine Ai Try.func36 (by rfl) rfl rfl (Am rfl) ?_
 intro call hc;conv=>lhs;whnf
 revert h
 refine br ?_ ?_
 exact rz
 intro h;refine Av h ?_;clear h;intro o11 ho11 h
 refine lq (σ:=(Bool×Int)) (τ:=Unit) (ν:=Bool) 0 (fun(s2,s3) a5=>Bg 85 [(0,AV.sl 5 (List.map A0 Bi)),(1,AV.sl 5 (List.map A0 Bk)),(2,bA s2),(7,iA s3)]) (fun(s2,s3) a5=>[]) (fun _ a29=>Bg 85 []) (fun _ a29=>[]) (fun v=>(bA v,[])) (fun k s=>Fw n Bi Bk k s.1 s.2) (fun s=>rfl) o11 n (Ef,0) (fun _=>0) ho11 ?_ ?_
 intro k4 ss a5 K6 cont7 hK8 hcont9 h hr10
 obtain⟨s2,s3⟩:=ss
 replace h:Fw n Bi Bk (k4+1) s2 s3=some o11:=h
 rw[Fw] at h
 conv=>lhs;whnf
 revert h
 refine br ?_ ?_
 refine ix ?_;intro x13
 refine ix ?_;intro x14
 refine br ?_ ?_
 intro h;cases sj h
 refine(hK8 _ _).trans ?_
 refine Eq.trans ?_ (Eq.symm (show _=some _ from hr10))
 conv=>lhs;whnf
 exact rq
 refine ix ?_;intro x16
 refine ix ?_;intro x17
 refine br ?_ ?_
 intro h;cases sj h
 refine(hK8 _ _).trans ?_
 refine Eq.trans ?_ (Eq.symm (show _=some _ from hr10))
 conv=>lhs;whnf
 exact rq
 refine ix ?_;intro x19
 refine ix ?_;intro x20
 refine br ?_ ?_
 refine ix ?_;intro x22
 refine ix ?_;intro x23
 refine br ?_ ?_
 refine br ?_ ?_
 refine ix ?_;intro x26
 refine ix ?_;intro x27
 refine br ?_ ?_
 intro h;cases sj h
 refine(hK8 _ _).trans ?_
 refine Eq.trans ?_ (Eq.symm (show _=some _ from hr10))
 conv=>lhs;whnf
 exact rq
 exact fun h=>cq (hcont9 (true,IntKind.i64.wrap (s3+1)) (fun _=>0) h)
 exact fun h=>cq (hcont9 (false,IntKind.i64.wrap (s3+1)) (fun _=>0) h)
 intro h;cases sj h
 refine(hK8 _ _).trans ?_
 refine Eq.trans ?_ (Eq.symm (show _=some _ from hr10))
 conv=>lhs;whnf
 exact rq
 intro h;cases sj h
 refine(hK8 _ _).trans ?_
 refine Eq.trans ?_ (Eq.symm (show _=some _ from hr10))
 conv=>lhs;whnf
 exact rq
 intro h;cases sj h
 exact kq (hr10 (fun _=>0))
 refine lrc ?_ ?_
 intro v e;subst e;cases sj h;rfl
 intro t a29 e;subst e
 dsimp only at h
 conv=>lhs;whnf
 revert h
 exact rz
theorem A6s {n:Nat} ⦃Bi:(List A3)⦄ ⦃Bk:(List A3)⦄ ⦃Ef:Bool⦄ ⦃r:Bool⦄:O4 n Bi Bk Ef=some r→CN n 35 [AV.sl 9 (List.map Aa Bi),AV.sl 9 (List.map Aa Bk),bA Ef] []=some (bA r,[]):=by
 intro h;rcases n with _|n;cases h
 rw[O4] at h
 refine Ai Try.func35 (by rfl) rfl rfl (Am rfl) ?_
 intro call hc;conv=>lhs;whnf
 revert h
 refine br ?_ ?_
 exact rz
 intro h;refine Av h ?_;clear h;intro o11 ho11 h
 refine lq (σ:=(Bool×Int)) (τ:=Unit) (ν:=Bool) 0 (fun(s2,s3) a5=>Bg 97 [(0,AV.sl 9 (List.map Aa Bi)),(1,AV.sl 9 (List.map Aa Bk)),(2,bA s2),(7,iA s3)]) (fun(s2,s3) a5=>[]) (fun _ a35=>Bg 97 []) (fun _ a35=>[]) (fun v=>(bA v,[])) (fun k s=>Ft n Bi Bk k s.1 s.2) (fun s=>rfl) o11 n (Ef,0) (fun _=>0) ho11 ?_ ?_
 intro k4 ss a5 K6 cont7 hK8 hcont9 h hr10
 obtain⟨s2,s3⟩:=ss
 replace h:Ft n Bi Bk (k4+1) s2 s3=some o11:=h
 rw[Ft] at h
 conv=>lhs;whnf
 revert h
 refine br ?_ ?_
 refine ix ?_;intro x13
 refine ix ?_;intro x14
 refine br ?_ ?_
 intro h;cases sj h
 refine(hK8 _ _).trans ?_
 refine Eq.trans ?_ (Eq.symm (show _=some _ from hr10))
 conv=>lhs;whnf
 exact rq
 refine br ?_ ?_
 refine br ?_ ?_
 refine br ?_ ?_
 refine br ?_ ?_
 intro h;cases sj h
 refine(hK8 _ _).trans ?_
 refine Eq.trans ?_ (Eq.symm (show _=some _ from hr10))
 conv=>lhs;whnf
 exact rq
 refine br ?_ ?_
 intro h;cases sj h
 refine(hK8 _ _).trans ?_
 refine Eq.trans ?_ (Eq.symm (show _=some _ from hr10))
 conv=>lhs;whnf
 exact rq
 refine br ?_ ?_
 refine br ?_ ?_
 intro h;cases sj h
 refine(hK8 _ _).trans ?_
 refine Eq.trans ?_ (Eq.symm (show _=some _ from hr10))
 conv=>lhs;whnf
 exact rq
 refine ca hc (fun _ h=>M8 h) ?_;intro y23
 refine br ?_ ?_
 refine ca hc (fun _ h=>M8 h) ?_;intro y26
 refine br ?_ ?_
 exact fun h=>cq (hcont9 (true,IntKind.i64.wrap (s3+1)) (fun _=>0) h)
 intro h;cases sj h
 refine(hK8 _ _).trans ?_
 refine Eq.trans ?_ (Eq.symm (show _=some _ from hr10))
 conv=>lhs;whnf
 exact rq
 intro h;cases sj h
 refine(hK8 _ _).trans ?_
 refine Eq.trans ?_ (Eq.symm (show _=some _ from hr10))
 conv=>lhs;whnf
 exact rq
 refine ca hc (fun _ h=>M8 h) ?_;intro y29
 refine br ?_ ?_
 refine ca hc (fun _ h=>M8 h) ?_;intro y32
 refine br ?_ ?_
 exact fun h=>cq (hcont9 (false,IntKind.i64.wrap (s3+1)) (fun _=>0) h)
 intro h;cases sj h
 refine(hK8 _ _).trans ?_
 refine Eq.trans ?_ (Eq.symm (show _=some _ from hr10))
 conv=>lhs;whnf
 exact rq
 intro h;cases sj h
 refine(hK8 _ _).trans ?_
 refine Eq.trans ?_ (Eq.symm (show _=some _ from hr10))
 conv=>lhs;whnf
 exact rq
 intro h;cases sj h
 refine(hK8 _ _).trans ?_
 refine Eq.trans ?_ (Eq.symm (show _=some _ from hr10))
 conv=>lhs;whnf
 exact rq
 intro h;cases sj h
 refine(hK8 _ _).trans ?_
 refine Eq.trans ?_ (Eq.symm (show _=some _ from hr10))
 conv=>lhs;whnf
 exact rq
 intro h;cases sj h
 refine(hK8 _ _).trans ?_
 refine Eq.trans ?_ (Eq.symm (show _=some _ from hr10))
 conv=>lhs;whnf
 exact rq
 intro h;cases sj h
 exact kq (hr10 (fun _=>0))
 refine lrc ?_ ?_
 intro v e;subst e;cases sj h;rfl
 intro t a35 e;subst e
 dsimp only at h
 conv=>lhs;whnf
 revert h
 exact rz
end Go.Proofs.Ytnijlelbihnamaa
end
