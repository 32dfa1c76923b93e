/- Parts of the proofs: what they lean on. Conditions: none. -/
import Derived.KernelRfl
import Derived.Test.YtceibnlnjmpkoaaGenAlikeP1
section
namespace Go.Proofs.Ytceibnlnjmpkoaa
set_option linter.unusedVariables false
set_option maxRecDepth 100000
def W0 (n:Nat) (k m:Int):Option Bool :=
 (Ev n k 1 m).bind fun y1=>(Ev n k 4 m).bind fun y3=>(H3 n y3.1).bind fun y5=>(H3 n y1.1).bind fun y7=>bif (y1.2 != 0) then some false else bif (y3.2 != 0) then some false else bif (y5.2.1 != 0) then some false else bif (y7.2.1 != 0) then some false else(Ej n y5 y7 n 0).bind fun o21=>match o21 with
  | .out _=>some true
  | .ret v=>some v
theorem A6z:∀ m:Nat,m < 17→5≤m→W0 3000 1 m=some true:=by decide +kernel
theorem A6l:∀ m:Nat,m < 17→5≤m→W0 3000 2 m=some true:=by decide +kernel
theorem A5c:Jz 3000=some true:=by decide +kernel
theorem A2o {k m:Nat} (hk:1≤k∧k≤2) (hm:5≤m∧m≤16):W0 3000 k m=some true:=by
 rcases(show k=1∨k=2 by omega) with rfl | rfl
 ·exact A6z m (by omega) hm.1
 ·exact A6l m (by omega) hm.1
theorem A3j (a b:Int) (ha:(Lit.int .u8 a).wf=true) (hb:(Lit.int .u8 b).wf=true):Hf 3001 a b=some true:=by
 have r:∀ x:Int,(Lit.int .u8 x).wf=true→0≤x∧x < 256:=by
  intro x hx
  rw[Lit.wf,Ar] at hx
  have h1:=of_decide_eq_true hx.1
  have h2:=of_decide_eq_true hx.2
  have e1:IntKind.u8.min=0:=by decide
  have e2:IntKind.u8.max=255:=by decide
  rw[e1] at h1
  rw[e2] at h2
  omega
 obtain⟨a0,a1⟩:=r a ha
 obtain⟨b0,b1⟩:=r b hb
 obtain⟨a,rfl⟩:∃ j:Nat,a=j:=⟨a.toNat,by omega⟩
 obtain⟨b,rfl⟩:∃ j:Nat,b=j:=⟨b.toNat,by omega⟩
 have ka:IntKind.i64.wrap (1+Int.tmod (IntKind.i64.wrap (a:Int)) 2)=((1+a % 2:Nat):Int):=by
  rw[Vp (n:=(a:Int)) (by omega),Int.tmod_eq_emod_of_nonneg (by omega),Vp (by omega)];omega
 have kb:IntKind.i64.wrap (5+Int.tmod (IntKind.i64.wrap (b:Int)) 12)=((5+b % 12:Nat):Int):=by
  rw[Vp (n:=(b:Int)) (by omega),Int.tmod_eq_emod_of_nonneg (by omega),Vp (by omega)];omega
 have h:=A2o (k:=1+a % 2) (m:=5+b % 12) (by omega) (by omega)
 rw[W0] at h
 obtain⟨y1,h1,h⟩:=Kn h
 obtain⟨y3,h3,h⟩:=Kn h
 obtain⟨y5,h5,h⟩:=Kn h
 obtain⟨y7,h7,h⟩:=Kn h
 have h1':Ev 3000 ((1+a % 2:Nat):Int) 1 ((5+b % 12:Nat):Int)=some y1:=h1
 simp only[Hf,ka,kb,h1',h3,h5,h7,Rn]
 cases q1:y1.2 != 0 with
 | true=>rw[q1] at h;cases h
 | false =>
 cases q3:y3.2 != 0 with
 | true=>rw[q1,q3] at h;cases h
 | false =>
 cases q5:y5.2.1 != 0 with
 | true=>rw[q1,q3,q5] at h;cases h
 | false =>
 cases q7:y7.2.1 != 0 with
 | true=>rw[q1,q3,q5,q7] at h;cases h
 | false =>
 rw[q1,q3,q5,q7] at h
 simp only[Fc] at h ⊢
 obtain⟨o,ho,h⟩:=Kn h
 rw[ho,Rn]
 cases o with
 | out x=>simp only[A5c,Rn]
 | ret v=>exact h
set_option linter.unusedSimpArgs false
set_option maxHeartbeats 4000000
theorem Sq {n:Nat} ⦃Bz:Int⦄ ⦃r:Int⦄:Mo n Bz=some r→CN n 101 [iA Bz] []=some (iA r,[]):=by
 intro h;rcases n with _|n;cases h
 rw[Mo] at h
 refine Ah Try.func101 (by rfl) rfl rfl (As rfl) ?_
 intro call hc;conv=>lhs;whnf
 revert h
 refine br ?_ ?_
 refine br ?_ ?_
 exact rz
 refine br ?_ ?_
 exact rz
 refine br ?_ ?_
 refine br ?_ ?_
 exact rz
 exact rz
 exact rz
 refine br ?_ ?_
 exact rz
 refine br ?_ ?_
 refine br ?_ ?_
 exact rz
 exact rz
 exact rz
theorem A1e {n:Nat} ⦃A4:(List A3)⦄ ⦃Cz:Int⦄ ⦃r:Int⦄:Ru n A4 Cz=some r→CN n 89 [AV.sl 5 (List.map A8 A4),iA Cz] []=some (iA r,[]):=by
 intro h;rcases n with _|n;cases h
 rw[Ru] at h
 refine Ah Try.func89 (by rfl) rfl rfl (As rfl) ?_
 intro call hc;conv=>lhs;whnf
 revert h
 refine br ?_ ?_
 exact rz
 intro h;refine Ak h ?_;clear h;intro o11 ho11 h
 refine lq (σ:=(Int×Int)) (τ:=Unit) (ν:=Int) 0 (fun(s2,s3) a5=>B2 31 [(0,AV.sl 5 (List.map A8 A4)),(1,iA s2),(5,iA s3)]) (fun(s2,s3) a5=>[]) (fun _ a18=>B2 31 []) (fun _ a18=>[]) (fun v=>(iA v,[])) (fun k s=>Jq n A4 k s.1 s.2) (fun s=>rfl) o11 n (Cz,1) (fun _=>0) ho11 ?_ ?_
 intro k4 ss a5 K6 cont7 hK8 hcont9 h hr10
 obtain⟨s2,s3⟩:=ss
 replace h:Jq n A4 (k4+1) s2 s3=some o11:=h
 rw[Jq] at h
 conv=>lhs;whnf
 revert h
 refine br ?_ ?_
 refine ix ?_;intro x13
 refine ca hc (fun _ h=>Sq h) ?_;intro y14
 refine br ?_ ?_
 intro h;cases sj h
 refine(hK8 _ _).trans ?_
 refine Eq.trans ?_ (Eq.symm (show _=some _ from hr10))
 conv=>lhs;whnf
 exact rq
 refine br ?_ ?_
 intro h;cases sj h
 refine(hK8 _ _).trans ?_
 refine Eq.trans ?_ (Eq.symm (show _=some _ from hr10))
 conv=>lhs;whnf
 exact rq
 exact fun h=>cq (hcont9 (IntKind.i64.wrap (s2+1),IntKind.i64.wrap (s3+(IntKind.i64.wrap (y14 - 1)))) (fun _=>0) h)
 intro h;cases sj h
 exact kq (hr10 (fun _=>0))
 refine lrc ?_ ?_
 intro v e;subst e;cases sj h;rfl
 intro t a18 e;subst e
 dsimp only at h
 conv=>lhs;whnf
 revert h
 exact rz
theorem Rz {n:Nat} ⦃A4:(List A3)⦄ ⦃r:(List A3)⦄:Lf n A4=some r→CN n 81 [AV.sl 5 (List.map A8 A4)] []=some (AV.sl 5 (List.map A8 r),[]):=by
 intro h;rcases n with _|n;cases h
 rw[Lf] at h
 refine Ah Try.func81 (by rfl) rfl rfl (As rfl) ?_
 intro call hc;conv=>lhs;whnf
 revert h
 intro h;refine Ak h ?_;clear h;intro o10 ho10 h
 refine lq (σ:=(Int×(List A3))) (τ:=(List A3)) (ν:=(List A3)) 0 (fun(s1,s2) a4=>B2 24 [(3,AV.row 0 (List.length s2)),(6,AV.sl 5 (List.map A8 A4)),(7,iA (((A4.length:Nat):Int))),(8,iA s1)]) (fun(s1,s2) a4=>[Ob.row 72 5 (List.map A8 s2)]) (fun x23 a22=>B2 24 [(3,AV.row 0 (List.length x23))]) (fun x23 a22=>[Ob.row 72 5 (List.map A8 x23)]) (fun v=>(AV.sl 5 (List.map A8 v),[])) (fun k s=>Ek n A4 k s.1 s.2) (fun s=>rfl) o10 n (0,([]:List A3)) (fun _=>0) ho10 ?_ ?_
 intro k3 ss a4 K5 cont6 hK7 hcont8 h hr9
 obtain⟨s1,s2⟩:=ss
 replace h:Ek n A4 (k3+1) s1 s2=some o10:=h
 rw[Ek] at h
 conv=>lhs;whnf
 revert h
 refine br ?_ ?_
 refine ix ?_;intro x12
 refine br ?_ ?_
 refine ar (ap A8 (List.map A8 s2) s2 ([[iA x12.Bd,iA x12.De,sA x12.B5,sA x12.Em,iA x12.Bi]]) ([x12]:List A3)) ?_
 exact fun h=>cq (hcont8 (IntKind.i64.wrap (s1+1),(s2++([x12]:List A3))) (fun _=>0) h)
 refine br ?_ ?_
 refine ar (ap A8 (List.map A8 s2) s2 ([[iA x12.Bd,iA x12.De,sA x12.B5,sA x12.Em,iA x12.Bi]]) ([x12]:List A3)) ?_
 exact fun h=>cq (hcont8 (IntKind.i64.wrap (s1+1),(s2++([x12]:List A3))) (fun _=>0) h)
 refine br ?_ ?_
 refine ar (ap A8 (List.map A8 s2) s2 ([[iA x12.Bd,iA x12.De,sA x12.B5,sA x12.Em,iA x12.Bi]]) ([x12]:List A3)) ?_
 exact fun h=>cq (hcont8 (IntKind.i64.wrap (s1+1),(s2++([x12]:List A3))) (fun _=>0) h)
 exact fun h=>cq (hcont8 (IntKind.i64.wrap (s1+1),s2) (fun _=>0) h)
 intro h;cases sj h
 exact kq (hr9 (fun _=>0))
 refine lrc ?_ ?_
 intro v e;subst e;cases sj h;rfl
 intro x23 a22 e;subst e
 dsimp only at h
 conv=>lhs;whnf
 revert h
 intro h;obtain rfl:=sj h
 try simp only[ls]
 exact fq (y:=some (AV.sl 5 (List.take (List.length x23) (List.map A8 x23)),[]))
theorem Yr {n:Nat} ⦃A4:(List A3)⦄ ⦃r:Int⦄:Ov n A4=some r→CN n 91 [AV.sl 5 (List.map A8 A4)] []=some (iA r,[]):=by
 intro h;rcases n with _|n;cases h
 rw[Ov] at h
 refine Ah Try.func91 (by rfl) rfl rfl (As rfl) ?_
 intro call hc;conv=>lhs;whnf
 revert h
 intro h;refine Ak h ?_;clear h;intro o11 ho11 h
 refine lq (σ:=(Int×Int×(List Int))) (τ:=(Int×(List Int))) (ν:=Int) 0 (fun(s1,s2,s3) a5=>B2 50 [(3,AV.stk 0 (a5 0) (List.length s3)),(4,iA s1),(9,AV.sl 5 (List.map A8 A4)),(10,iA (((A4.length:Nat):Int))),(11,iA s2)]) (fun(s1,s2,s3) a5=>[Ob.stk (a5 0) 3 1 (List.map Cf s3)]) (fun(x41,x42) a40=>B2 50 [(4,iA x41)]) (fun(x41,x42) a40=>[Ob.stk (a40 0) 3 1 (List.map Cf x42)]) (fun v=>(iA v,[])) (fun k s=>Fx n A4 k s.1 s.2.1 s.2.2) (fun s=>rfl) o11 n (0,0,([]:List Int)) (fun j=>(bif Nat.beq j 0 then 0 else 0)) ho11 ?_ ?_
 intro k4 ss a5 K6 cont7 hK8 hcont9 h hr10
 obtain⟨s1,s2,s3⟩:=ss
 replace h:Fx n A4 (k4+1) s1 s2 s3=some o11:=h
 rw[Fx] at h
 conv=>lhs;whnf
 revert h
 refine br ?_ ?_
 refine ix ?_;intro x13
 refine ca hc (fun _ h=>Sq h) ?_;intro y14
 refine br ?_ ?_
 intro h
 refine Ay h ?_;clear h;intro hc19 h
 try simp only[E3]
 conv=>lhs;whnf
 first|refine Az (A25 hc19 (by first|rfl|simp only [Bs]) (by first|rfl|simp only [Bs]) (by first|rfl|simp only [Bs,Cw]) (by kernel_rfl)) ?_|refine Az (Zy hc19 (by first|rfl|simp only [Bs]) (by first|rfl|simp only [Bs,Cw]) (by kernel_rfl)) ?_
 try simp only[lt]
 have hp17:(List.map Cf s3:List (List AV))++[[iA y14]]=List.map Cf (s3++([y14]:List Int)):=by first|rfl|(rw[List.map_append];rfl)|(rw[List.map_append];done)|(simp only[List.map_append,List.map_cons,List.map_nil,List.nil_append,Cf]<;>rfl)
 have hl18:List.length (List.map Cf s3:List (List AV))+List.length ([[iA y14]]:List (List AV))=List.length (s3++([y14]:List Int)):=by simp only[Bs,List.length_append]<;>rfl
 have hl18_b:List.length s3+List.length ([[iA y14]]:List (List AV))=List.length (s3++([y14]:List Int)):=by simp only[Bs,List.length_append]<;>rfl
 have hl18_c:List.length s3+List.length ([y14]:List Int)=List.length (s3++([y14]:List Int)):=by simp only[Bs,List.length_append]<;>rfl
 first|simp only [hp17,hl18]|(simp only[Bs,Cw];simp only[hp17,hl18_b,hl18_c])
 try simp only[ls]
 conv=>lhs;whnf
 revert h
 exact fun h=>cq (hcont9 ((if s1<((s3.length:Nat):Int) then((s3.length:Nat):Int) else s1),IntKind.i64.wrap (s2+1),(s3++([y14]:List Int))) (fun j=>(bif Nat.beq j 0 then((a5 0)+1) else 0)) h)
 intro h;refine Ak h ?_;clear h;intro o28 ho28 h
 refine lq (σ:=(List Int)) (τ:=(List Int)) (ν:=Int) 2 (fun s20 a22=>B2 50 [(3,AV.stk 0 (a22 0) (List.length s20)),(4,iA ((if s1<((s3.length:Nat):Int) then((s3.length:Nat):Int) else s1))),(9,AV.sl 5 (List.map A8 A4)),(10,iA (((A4.length:Nat):Int))),(11,iA s2)]) (fun s20 a22=>[Ob.stk (a22 0) 3 1 (List.map Cf s20),Ob.var 72 [iA x13.Bd,iA x13.De,sA x13.B5,sA x13.Em,iA x13.Bi]]) (fun x38 a37=>B2 50 [(3,AV.stk 0 (a37 0) (List.length x38)),(4,iA ((if s1<((s3.length:Nat):Int) then((s3.length:Nat):Int) else s1))),(9,AV.sl 5 (List.map A8 A4)),(10,iA (((A4.length:Nat):Int))),(11,iA s2)]) (fun x38 a37=>[Ob.stk (a37 0) 3 1 (List.map Cf x38),Ob.var 72 [iA x13.Bd,iA x13.De,sA x13.B5,sA x13.Em,iA x13.Bi]]) (fun v=>(iA v,[])) (fun k s=>Hj n k s) (fun s=>rfl) o28 n s3 (fun j=>(bif Nat.beq j 0 then(a5 0) else 0)) ho28 ?_ ?_
 intro k21 s20 a22 K23 cont24 hK25 hcont26 h hr27
 replace h:Hj n (k21+1) s20=some o28:=h
 rw[Hj] at h
 conv=>lhs;whnf
 revert h
 refine br ?_ ?_
 intro h
 refine Ak h ?_;clear h;intro x30 hx30 h
 try simp only[E3]
 conv=>lhs;whnf
 try simp only[ls]
 refine Az (by first|exact Eo hx30|exact M6 hx30|exact Ql hx30|exact G3 hx30|(have q:=Eo hx30;simp only[List.length_set] at q;exact q)|(have q:=G3 hx30;simp only[List.length_set,Nat.zero_add] at q ⊢;exact q)) ?_
 conv=>lhs;whnf
 try simp only[I8 (f:=Cf) hx30,E3,ls]
 conv=>lhs;whnf
 revert h
 intro h
 refine Ak h ?_;clear h;intro x31 hx31 h
 try simp only[E3]
 conv=>lhs;whnf
 try simp only[ls]
 refine Az (by first|exact Eo hx31|exact M6 hx31|exact Ql hx31|exact G3 hx31|(have q:=Eo hx31;simp only[List.length_set] at q;exact q)|(have q:=G3 hx31;simp only[List.length_set,Nat.zero_add] at q ⊢;exact q)) ?_
 conv=>lhs;whnf
 try simp only[I8 (f:=Cf) hx31,E3,ls]
 conv=>lhs;whnf
 revert h
 intro h
 have hs32:Bx (List.map Cf s20) (IntKind.i64.wrap (((s20.length:Nat):Int) - 1)).toNat [iA (IntKind.i64.wrap (x30 - 1))]=List.map Cf (List.set s20 (IntKind.i64.wrap (((s20.length:Nat):Int) - 1)).toNat (IntKind.i64.wrap (x30 - 1))):=by rw[Bg,List.map_set];rfl
 have hs32_u:Bx (List.map Cf s20) (IntKind.i64.wrap (((s20.length:Nat):Int) - 1)).toNat (Gw (Cf x31) 0 [iA (IntKind.i64.wrap (x30 - 1))])=List.map Cf (List.set s20 (IntKind.i64.wrap (((s20.length:Nat):Int) - 1)).toNat (IntKind.i64.wrap (x30 - 1))):=by rw[Bg,List.map_set];rfl
 try simp only[I8 (f:=Cf) hx31,E3]
 conv=>lhs;whnf
 try simp only[hs32,hs32_u,E3]
 conv=>lhs;whnf
 revert h
 intro h
 refine Ak h ?_;clear h;intro x33 hx33 h
 try simp only[E3]
 conv=>lhs;whnf
 try simp only[ls]
 refine Az (by first|exact Eo hx33|exact M6 hx33|exact Ql hx33|exact G3 hx33|(have q:=Eo hx33;simp only[List.length_set] at q;exact q)|(have q:=G3 hx33;simp only[List.length_set,Nat.zero_add] at q ⊢;exact q)) ?_
 conv=>lhs;whnf
 try simp only[I8 (f:=Cf) hx33,E3,ls]
 conv=>lhs;whnf
 revert h
 refine br ?_ ?_
 intro h;cases sj h
 exact kq (hr27 (fun j=>(bif Nat.beq j 0 then(a22 0) else 0)))
 intro h
 refine Ay h ?_;clear h;intro hc36 h
 try simp only[E3]
 conv=>lhs;whnf
 try simp only[ls]
 first|refine Az hc36 ?_|(refine Az (by have q:=hc36;simp only[List.length_set] at q;exact q) ?_)
 have hs35:List.take ((IntKind.i64.wrap (((s20.length:Nat):Int) - 1)).toNat) (List.map Cf (List.set s20 (IntKind.i64.wrap (((s20.length:Nat):Int) - 1)).toNat (IntKind.i64.wrap (x30 - 1))))=List.map Cf (List.take ((IntKind.i64.wrap (((s20.length:Nat):Int) - 1)).toNat) (List.set s20 (IntKind.i64.wrap (((s20.length:Nat):Int) - 1)).toNat (IntKind.i64.wrap (x30 - 1)))):=by rw[List.map_take]
 have hs35_l:List.length (List.take ((IntKind.i64.wrap (((s20.length:Nat):Int) - 1)).toNat) (List.set s20 (IntKind.i64.wrap (((s20.length:Nat):Int) - 1)).toNat (IntKind.i64.wrap (x30 - 1))))=(IntKind.i64.wrap (((s20.length:Nat):Int) - 1)).toNat:=by simp only[List.length_take];exact Nat.min_eq_left (A79 hc36)
 conv=>lhs;whnf
 try simp only[E3,hs35]
 conv=>lhs;whnf
 try simp only[hs35]
 have hs35_s:∀ q,AV.stk 0 q ((IntKind.i64.wrap (((s20.length:Nat):Int) - 1)).toNat)=AV.stk 0 q (List.length (List.take ((IntKind.i64.wrap (((s20.length:Nat):Int) - 1)).toNat) (List.set s20 (IntKind.i64.wrap (((s20.length:Nat):Int) - 1)).toNat (IntKind.i64.wrap (x30 - 1))))):=fun q=>by rw[hs35_l]
 try simp only[hs35_s]
 conv=>lhs;whnf
 revert h
 exact fun h=>cq (hcont26 (List.take ((IntKind.i64.wrap (((s20.length:Nat):Int) - 1)).toNat) (List.set s20 (IntKind.i64.wrap (((s20.length:Nat):Int) - 1)).toNat (IntKind.i64.wrap (x30 - 1)))) (fun j=>(bif Nat.beq j 0 then((a22 0)+1) else 0)) h)
 intro h;cases sj h
 exact kq (hr27 (fun j=>(bif Nat.beq j 0 then(a22 0) else 0)))
 refine lrc ?_ ?_
 intro v e;subst e;cases sj h;exact hr10
 intro x38 a37 e;subst e
 dsimp only at h
 conv=>lhs;whnf
 revert h
 exact fun h=>cq (hcont9 ((if s1<((s3.length:Nat):Int) then((s3.length:Nat):Int) else s1),IntKind.i64.wrap (s2+1),x38) (fun j=>(bif Nat.beq j 0 then(a37 0) else 0)) h)
 intro h;cases sj h
 exact kq (hr10 (fun j=>(bif Nat.beq j 0 then(a5 0) else 0)))
 refine lrc ?_ ?_
 intro v e;subst e;cases sj h;rfl
 intro t a40 e;subst e
 obtain⟨x41,x42⟩:=t
 dsimp only at h
 conv=>lhs;whnf
 revert h
 exact rz
theorem A0p {n:Nat} ⦃Ag:A3⦄ ⦃r:Bool⦄:Q3 n Ag=some r→CN n 90 [AV.agg [iA Ag.Bd,iA Ag.De,sA Ag.B5,sA Ag.Em,iA Ag.Bi]] []=some (bA r,[]):=by
 intro h;rcases n with _|n;cases h
 rw[Q3] at h
 refine Ah Try.func90 (by rfl) rfl rfl (As rfl) ?_
 intro call hc;conv=>lhs;whnf
 revert h
 refine br ?_ ?_
 exact rz
 refine br ?_ ?_
 intro h
 have hf5:Nl Try.prog 72=some (fieldsOf Try.prog 72):=by kernel_rfl
 simp only[hf5,Bs,Cw]
 conv=>lhs;whnf
 revert h
 refine br ?_ ?_
 refine br ?_ ?_
 exact rz
 exact rz
 exact rz
 refine br ?_ ?_
 refine ca hc (fun _ h=>Ey h) ?_;intro y7
 refine br ?_ ?_
 intro h
 have hf13:Nl Try.prog 72=some (fieldsOf Try.prog 72):=by kernel_rfl
 simp only[hf13,Bs,Cw]
 conv=>lhs;whnf
 revert h
 refine br ?_ ?_
 refine ca hc (fun _ h=>Ey h) ?_;intro y11
 exact rz
 exact rz
 exact rz
 refine br ?_ ?_
 intro h
 have hf18:Nl Try.prog 72=some (fieldsOf Try.prog 72):=by kernel_rfl
 simp only[hf18,Bs,Cw]
 conv=>lhs;whnf
 revert h
 refine br ?_ ?_
 refine ca hc (fun _ h=>Ey h) ?_;intro y16
 exact rz
 exact rz
 refine br ?_ ?_
 intro h
 have hf23:Nl Try.prog 72=some (fieldsOf Try.prog 72):=by kernel_rfl
 simp only[hf23,Bs,Cw]
 conv=>lhs;whnf
 revert h
 refine br ?_ ?_
 refine ca hc (fun _ h=>Ey h) ?_;intro y21
 exact rz
 exact rz
 intro h
 have hf24:Nl Try.prog 72=some (fieldsOf Try.prog 72):=by kernel_rfl
 simp only[hf24,Bs,Cw]
 conv=>lhs;whnf
 revert h
 exact rz
theorem N7 {n:Nat} ⦃A4:(List A3)⦄ ⦃r:Bool⦄:Iu n A4=some r→CN n 66 [AV.sl 5 (List.map A8 A4)] []=some (bA r,[]):=by
 intro h;rcases n with _|n;cases h
 rw[Iu] at h
 refine Ah Try.func66 (by rfl) rfl rfl (As rfl) ?_
 intro call hc;conv=>lhs;whnf
 revert h
 refine br ?_ ?_
 exact rz
 refine br ?_ ?_
 exact rz
 refine ca hc (fun _ h=>A1e h) ?_;intro y3
 refine br ?_ ?_
 exact rz
 intro h;refine Ak h ?_;clear h;intro o14 ho14 h
 refine lq (σ:=Int) (τ:=Unit) (ν:=Bool) 0 (fun s6 a8=>B2 33 [(0,AV.sl 5 (List.map A8 A4)),(20,AV.sl 5 (List.map A8 A4)),(21,iA (((A4.length:Nat):Int))),(22,iA s6)]) (fun s6 a8=>[]) (fun _ a20=>B2 33 [(0,AV.sl 5 (List.map A8 A4))]) (fun _ a20=>[]) (fun v=>(bA v,[])) (fun k s=>Hh n A4 k s) (fun s=>rfl) o14 n 0 (fun _=>0) ho14 ?_ ?_
 intro k7 s6 a8 K9 cont10 hK11 hcont12 h hr13
 replace h:Hh n A4 (k7+1) s6=some o14:=h
 rw[Hh] at h
 conv=>lhs;whnf
 revert h
 refine br ?_ ?_
 refine ix ?_;intro x16
 refine ca hc (fun _ h=>A0p h) ?_;intro y17
 refine br ?_ ?_
 exact fun h=>cq (hcont12 (IntKind.i64.wrap (s6+1)) (fun _=>0) h)
 intro h;cases sj h
 refine(hK11 _ _).trans ?_
 refine Eq.trans ?_ (Eq.symm (show _=some _ from hr13))
 conv=>lhs;whnf
 exact rq
 intro h;cases sj h
 exact kq (hr13 (fun _=>0))
 refine lrc ?_ ?_
 intro v e;subst e;cases sj h;rfl
 intro t a20 e;subst e
 dsimp only at h
 conv=>lhs;whnf
 revert h
 refine ca hc (fun _ h=>Yr h) ?_;intro y21
 exact rz
def Ig (n:Nat):Prop:=∀ ⦃B9:Int⦄ ⦃r:(List UInt8)⦄,Je n B9=some r→CN n 92 [iA B9] []=some (sA r,[])
def Lp (n:Nat):Prop:=Ig n
theorem W8 (n:Nat) (ih:Lp n):Ig (n+1):=by
 intro B9 r h
 rw[Je] at h
 refine Ah Try.func92 (by rfl) rfl rfl (As rfl) ?_
 intro call hc;conv=>lhs;whnf
 revert h
 refine br ?_ ?_
 exact rz
 refine ca hc (fun _ h=>ih h) ?_;intro y2
 intro h
 refine Ay h ?_;clear h;intro hc4 h
 refine Az hc4 ?_
 try simp only[ls]
 conv=>lhs;whnf
 revert h
 exact rz
theorem P6:∀ n,Lp n
 | 0=>by unfold Lp Ig;intros;rename_i h;exact absurd h (by intro h;cases h)
 | n+1=>have ih:=P6 n
   W8 n ih
theorem V4 {n:Nat}:Ig n:=(P6 n)
theorem So {n:Nat} ⦃Bz:Int⦄ ⦃r:(List UInt8)⦄:Mj n Bz=some r→CN n 93 [iA Bz] []=some (sA r,[]):=by
 intro h;rcases n with _|n;cases h
 rw[Mj] at h
 refine Ah Try.func93 (by rfl) rfl rfl (As rfl) ?_
 intro call hc;conv=>lhs;whnf
 revert h
 refine br ?_ ?_
 exact rz
 refine br ?_ ?_
 exact rz
 refine br ?_ ?_
 exact rz
 refine br ?_ ?_
 exact rz
 refine br ?_ ?_
 exact rz
 refine br ?_ ?_
 exact rz
 refine br ?_ ?_
 exact rz
 refine br ?_ ?_
 exact rz
 refine br ?_ ?_
 exact rz
 refine br ?_ ?_
 exact rz
 refine br ?_ ?_
 exact rz
 refine br ?_ ?_
 exact rz
 refine br ?_ ?_
 exact rz
 refine br ?_ ?_
 exact rz
 refine bt ?_
 exact rz
def Kd (n:Nat):Prop:=∀ ⦃A4:(List A3)⦄ ⦃Cz:Int⦄ ⦃Lr:Bool⦄ ⦃r:((List UInt8)×Int)⦄,H5 n A4 Cz Lr=some r→CN n 67 [AV.sl 5 (List.map A8 A4),iA Cz,bA Lr] []=some (AV.tup [sA r.1,iA r.2],[])
def Ni (n:Nat):Prop:=Kd n
theorem Yk (n:Nat) (ih:Ni n):Kd (n+1):=by
 intro A4 Cz Lr r h
 rw[H5] at h
 refine Ah Try.func67 (by rfl) rfl rfl (As rfl) ?_
 intro call hc;conv=>lhs;whnf
 revert h
 refine ix ?_;intro x1
 refine br ?_ ?_
 refine ca hc (fun _ h=>V4 h) ?_;intro y3
 exact rz
 refine br ?_ ?_
 exact rz
 refine br ?_ ?_
 exact rz
 refine br ?_ ?_
 intro h
 refine Ay h ?_;clear h;intro hc8 h
 refine Az hc8 ?_
 try simp only[ls]
 conv=>lhs;whnf
 revert h
 intro h
 refine Ay h ?_;clear h;intro hc9 h
 refine Az hc9 ?_
 try simp only[ls]
 conv=>lhs;whnf
 revert h
 exact rz
 refine br ?_ ?_
 refine ca hc (fun _ h=>ih h) ?_;intro y11
 refine ca hc (fun _ h=>So h) ?_;intro y13
 intro h
 refine Ay h ?_;clear h;intro hc15 h
 refine Az hc15 ?_
 try simp only[ls]
 conv=>lhs;whnf
 revert h
 exact rz
 refine ca hc (fun _ h=>ih h) ?_;intro y16
 refine ca hc (fun _ h=>ih h) ?_;intro y18
 intro h
 refine Ay h ?_;clear h;intro hc20 h
 refine Az hc20 ?_
 try simp only[ls]
 conv=>lhs;whnf
 revert h
 refine ca hc (fun _ h=>So h) ?_;intro y21
 intro h
 refine Ay h ?_;clear h;intro hc23 h
 refine Az hc23 ?_
 try simp only[ls]
 conv=>lhs;whnf
 revert h
 intro h
 refine Ay h ?_;clear h;intro hc24 h
 refine Az hc24 ?_
 try simp only[ls]
 conv=>lhs;whnf
 revert h
 intro h
 refine Ay h ?_;clear h;intro hc25 h
 refine Az hc25 ?_
 try simp only[ls]
 conv=>lhs;whnf
 revert h
 refine br ?_ ?_
 intro h
 refine Ay h ?_;clear h;intro hc27 h
 refine Az hc27 ?_
 try simp only[ls]
 conv=>lhs;whnf
 revert h
 intro h
 refine Ay h ?_;clear h;intro hc28 h
 refine Az hc28 ?_
 try simp only[ls]
 conv=>lhs;whnf
 revert h
 exact rz
 exact rz
theorem Qn:∀ n,Ni n
 | 0=>by unfold Ni Kd;intros;rename_i h;exact absurd h (by intro h;cases h)
 | n+1=>have ih:=Qn n
   Yk n ih
theorem Ys {n:Nat}:Kd n:=(Qn n)
theorem Pb {n:Nat} ⦃A4:(List A3)⦄ ⦃r:(List UInt8)⦄:Jm n A4=some r→CN n 44 [AV.sl 5 (List.map A8 A4)] []=some (sA r,[]):=by
 intro h;rcases n with _|n;cases h
 rw[Jm] at h
 refine Ah Try.func44 (by rfl) rfl rfl (As rfl) ?_
 intro call hc;conv=>lhs;whnf
 revert h
 refine ca hc (fun _ h=>N7 h) ?_;intro y1
 refine br ?_ ?_
 refine ca hc (fun _ h=>Ys h) ?_;intro y4
 exact rz
 exact rz
theorem S7 {n:Nat} ⦃Bt:Int⦄ ⦃r:Bool⦄:Kx n Bt=some r→CN n 88 [iA Bt] []=some (bA r,[]):=by
 intro h;rcases n with _|n;cases h
 rw[Kx] at h
 refine Ah Try.func88 (by rfl) rfl rfl (As rfl) ?_
 intro call hc;conv=>lhs;whnf
 revert h
 refine br ?_ ?_
 exact rz
 refine br ?_ ?_
 exact rz
 refine br ?_ ?_
 exact rz
 exact rz
def Kc (n:Nat):Prop:=∀ ⦃A4:(List A6)⦄ ⦃B7:Int⦄ ⦃Al:Int⦄ ⦃r:Int⦄,Iv n A4 B7 Al=some r→CN n 95 [AV.sl 9 (List.map Am A4),iA B7,iA Al] []=some (iA r,[])
def Ll (n:Nat):Prop:=∀ ⦃Do:Int⦄ ⦃Gf:Int⦄ ⦃I2:Int⦄ ⦃o0:(List A6)⦄ ⦃o1:Int⦄ ⦃r:(Bool×Int)⦄,Gz n Do Gf I2 o0 o1=some r→CN n 102 [iA Do,iA Gf,iA I2,AV.ptr 0 0,AV.ptr 1 0] [Ob.var 49 [AV.sl 9 (List.map Am o0)],Ob.var 3 [iA o1]]=some (bA r.1,[Ob.var 49 [AV.sl 9 (List.map Am o0)],Ob.var 3 [iA r.2]])
def F5 (n:Nat):Prop:=∀ ⦃A4:(List A6)⦄ ⦃B7:Int⦄ ⦃Al:Int⦄ ⦃o0:(List A6)⦄ ⦃o1:Int⦄ ⦃r:(Bool×Int)⦄,Fm n A4 B7 Al o0 o1=some r→CN n 84 [AV.sl 9 (List.map Am A4),iA B7,iA Al,AV.func 102 [] [AV.ptr 0 0,AV.ptr 1 0]] [Ob.var 49 [AV.sl 9 (List.map Am o0)],Ob.var 3 [iA o1]]=some (bA r.1,[Ob.var 49 [AV.sl 9 (List.map Am o0)],Ob.var 3 [iA r.2]])
def Kb (n:Nat):Prop:=Kc n∧Ll n∧F5 n
theorem Y5 (n:Nat) (ih:Kb n):Kc (n+1):=by
 intro A4 B7 Al r h
 rw[Iv] at h
 refine Ah Try.func95 (by rfl) rfl rfl (As rfl) ?_
 intro call hc;conv=>lhs;whnf
 revert h
 refine ca hc (fun _ h=>ih.2.2 h) ?_;intro y1
 refine br ?_ ?_
 exact rz
 exact rz
theorem V0 (n:Nat) (ih:Kb n):Ll (n+1):=by
 intro Do Gf I2 o0 o1 r h
 rw[Gz] at h
 refine Ah Try.func102 (by rfl) rfl rfl (As rfl) ?_
 intro call hc;conv=>lhs;whnf
 revert h
 refine ca hc (fun _ h=>ih.1 h) ?_;intro y1
 refine ca hc (fun _ h=>ih.1 h) ?_;intro y3
 refine ix ?_;intro x5
 refine ca hc (fun _ h=>S7 h) ?_;intro y6
 refine br ?_ ?_
 refine br ?_ ?_
 exact rz
 exact rz
 refine br ?_ ?_
 exact rz
 exact rz
theorem O1 (n:Nat) (ih:Kb n):F5 (n+1):=by
 intro A4 B7 Al o0 o1 r h
 rw[Fm] at h
 refine Ah Try.func84 (by rfl) rfl rfl (As rfl) ?_
 intro call hc;conv=>lhs;whnf
 revert h
 intro h;refine Ak h ?_;clear h;intro o10 ho10 h
 refine lq (σ:=(Int×Int)) (τ:=Int) (ν:=(Bool×Int)) 0 (fun(s1,s2) a4=>B2 63 [(0,AV.sl 9 (List.map Am A4)),(1,iA s1),(2,iA Al),(3,AV.func 102 [] [AV.ptr 0 0,AV.ptr 1 0])]) (fun(s1,s2) a4=>[Ob.var 49 [AV.sl 9 (List.map Am o0)],Ob.var 3 [iA s2]]) (fun x21 a20=>B2 63 []) (fun x21 a20=>[Ob.var 49 [AV.sl 9 (List.map Am o0)],Ob.var 3 [iA x21]]) (fun v=>(bA v.1,[Ob.var 49 [AV.sl 9 (List.map Am o0)],Ob.var 3 [iA v.2]])) (fun k s=>Da n (Gz n) A4 Al o0 k s.1 s.2) (fun s=>rfl) o10 n (B7,o1) (fun _=>0) ho10 ?_ ?_
 intro k3 ss a4 K5 cont6 hK7 hcont8 h hr9
 obtain⟨s1,s2⟩:=ss
 replace h:Da n (Gz n) A4 Al o0 (k3+1) s1 s2=some o10:=h
 rw[Da] at h
 conv=>lhs;whnf
 revert h
 refine br ?_ ?_
 refine ix ?_;intro x12
 refine br ?_ ?_
 intro h;cases sj h
 refine(hK7 _ _).trans ?_
 refine Eq.trans ?_ (Eq.symm (show _=some _ from hr9))
 conv=>lhs;whnf
 exact rq
 refine br ?_ ?_
 intro h;cases sj h
 refine(hK7 _ _).trans ?_
 refine Eq.trans ?_ (Eq.symm (show _=some _ from hr9))
 conv=>lhs;whnf
 exact rq
 refine br ?_ ?_
 intro h;cases sj h
 refine(hK7 _ _).trans ?_
 refine Eq.trans ?_ (Eq.symm (show _=some _ from hr9))
 conv=>lhs;whnf
 exact rq
 refine br ?_ ?_
 intro h;cases sj h
 refine(hK7 _ _).trans ?_
 refine Eq.trans ?_ (Eq.symm (show _=some _ from hr9))
 conv=>lhs;whnf
 exact rq
 refine ca hc (fun _ h=>ih.2.1 h) ?_;intro y17
 refine br ?_ ?_
 exact fun h=>cq (hcont8 (IntKind.i64.wrap ((IntKind.i64.wrap ((IntKind.i64.wrap (s1+1))+x12.A7))+x12.Ae),y17.2) (fun _=>0) h)
 intro h;cases sj h
 refine(hK7 _ _).trans ?_
 refine Eq.trans ?_ (Eq.symm (show _=some _ from hr9))
 conv=>lhs;whnf
 exact rq
 intro h;cases sj h
 exact kq (hr9 (fun _=>0))
 refine lrc ?_ ?_
 intro v e;subst e;cases sj h;rfl
 intro x21 a20 e;subst e
 dsimp only at h
 conv=>lhs;whnf
 revert h
 exact rz
theorem Qr:∀ n,Kb n
 | 0=>⟨by unfold Kc;intros;rename_i h;exact absurd h (by intro h;cases h),by unfold Ll;intros;rename_i h;exact absurd h (by intro h;cases h),by unfold F5;intros;rename_i h;exact absurd h (by intro h;cases h)⟩
 | n+1=>have ih:=Qr n
   ⟨Y5 n ih,V0 n ih,O1 n ih⟩
theorem Y8 {n:Nat}:Kc n:=(Qr n).1
theorem Ya {n:Nat} ⦃A4:(List A6)⦄ ⦃r:Int⦄:Od n A4=some r→CN n 82 [AV.sl 9 (List.map Am A4)] []=some (iA r,[]):=by
 intro h;rcases n with _|n;cases h
 rw[Od] at h
 refine Ah Try.func82 (by rfl) rfl rfl (As rfl) ?_
 intro call hc;conv=>lhs;whnf
 revert h
 refine cr hc (fun _ h=>Y8 h) ?_;intro y1
 exact rz
theorem E4 {n:Nat} ⦃Fu:Bh⦄ ⦃Ia:Int⦄ ⦃r:Bool⦄:Db n Fu Ia=some r→CN n 98 [AV.agg [sA Fu.f_word,sA Fu.f_form,bA Fu.f_body,bA Fu.f_more],AV.int .u8 Ia] []=some (bA r,[]):=by
 intro h;rcases n with _|n;cases h
 rw[Db] at h
 refine Ah Try.func98 (by rfl) rfl rfl (As rfl) ?_
 intro call hc;conv=>lhs;whnf
 revert h
 intro h;refine Ak h ?_;clear h;intro o9 ho9 h
 refine lq (σ:=Int) (τ:=Unit) (ν:=Bool) 0 (fun s1 a3=>B2 19 [(1,AV.int .u8 Ia),(2,AV.ptr 0 0),(8,iA (((Fu.f_form.length:Nat):Int))),(9,iA s1)]) (fun s1 a3=>[Ob.var 119 [sA Fu.f_word,sA Fu.f_form,bA Fu.f_body,bA Fu.f_more]]) (fun _ a13=>B2 19 []) (fun _ a13=>[Ob.var 119 [sA Fu.f_word,sA Fu.f_form,bA Fu.f_body,bA Fu.f_more]]) (fun v=>(bA v,[])) (fun k s=>Fd n Fu Ia k s) (fun s=>rfl) o9 n 0 (fun _=>0) ho9 ?_ ?_
 intro k2 s1 a3 K4 cont5 hK6 hcont7 h hr8
 replace h:Fd n Fu Ia (k2+1) s1=some o9:=h
 rw[Fd] at h
 conv=>lhs;whnf
 revert h
 refine br ?_ ?_
 refine ixs ?_;intro x11
 refine br ?_ ?_
 intro h;cases sj h
 refine(hK6 _ _).trans ?_
 refine Eq.trans ?_ (Eq.symm (show _=some _ from hr8))
 conv=>lhs;whnf
 exact rq
 exact fun h=>cq (hcont7 (IntKind.i64.wrap (s1+1)) (fun _=>0) h)
 intro h;cases sj h
 exact kq (hr8 (fun _=>0))
 refine lrc ?_ ?_
 intro v e;subst e;cases sj h;rfl
 intro t a13 e;subst e
 dsimp only at h
 conv=>lhs;whnf
 revert h
 exact rz
theorem J9 {n:Nat} ⦃Dp:Int⦄ ⦃Xk:(List UInt8)⦄ ⦃D3:(List UInt8)⦄ ⦃D4:(List UInt8)⦄ ⦃D5:Bool⦄ ⦃D6:Bool⦄ ⦃r:Bool⦄:G2 n Dp Xk D3 D4 D5 D6=some r→CN n 97 [AV.int .u8 Dp,sA Xk,AV.ptr 0 0] [Ob.var 119 [sA D3,sA D4,bA D5,bA D6]]=some (bA r,[Ob.var 119 [sA D3,sA D4,bA D5,bA D6]]):=by
 intro h;rcases n with _|n;cases h
 rw[G2] at h
 refine Ah Try.func97 (by rfl) rfl rfl (As rfl) ?_
 intro call hc;conv=>lhs;whnf
 revert h
 refine ca hc (fun y1 h=>(show CN n 98 [AV.agg [sA D3,sA D4,bA D5,bA D6],AV.int .u8 Dp] []=some (bA y1,[]) from E4 (r:=y1) h)) ?_;intro y1
 refine br ?_ ?_
 refine ca hc (fun _ h=>Ey h) ?_;intro y4
 refine br ?_ ?_
 exact rz
 refine ca hc (fun y7 h=>(show CN n 98 [AV.agg [sA D3,sA D4,bA D5,bA D6],AV.int .u8 Dp] []=some (bA y7,[]) from E4 (r:=y7) h)) ?_;intro y7
 refine br ?_ ?_
 exact rz
 exact rz
 refine ca hc (fun y10 h=>(show CN n 98 [AV.agg [sA D3,sA D4,bA D5,bA D6],AV.int .u8 Dp] []=some (bA y10,[]) from E4 (r:=y10) h)) ?_;intro y10
 refine br ?_ ?_
 exact rz
 exact rz
theorem Yp {n:Nat} ⦃A4:(List A3)⦄ ⦃r:Bool⦄:Oi n A4=some r→CN n 100 [AV.sl 5 (List.map A8 A4)] []=some (bA r,[]):=by
 intro h;rcases n with _|n;cases h
 rw[Oi] at h
 refine Ah Try.func100 (by rfl) rfl rfl (As rfl) ?_
 intro call hc;conv=>lhs;whnf
 revert h
 refine ca hc (fun _ h=>Rz h) ?_;intro y1
 intro h;refine Ak h ?_;clear h;intro o11 ho11 h
 refine lq (σ:=Int) (τ:=Unit) (ν:=Bool) 0 (fun s3 a5=>B2 18 [(0,AV.sl 5 (List.map A8 A4)),(6,AV.sl 5 (List.map A8 y1)),(7,iA (((y1.length:Nat):Int))),(8,iA s3)]) (fun s3 a5=>[]) (fun _ a15=>B2 18 [(0,AV.sl 5 (List.map A8 A4))]) (fun _ a15=>[]) (fun v=>(bA v,[])) (fun k s=>Hs n y1 k s) (fun s=>rfl) o11 n 0 (fun _=>0) ho11 ?_ ?_
 intro k4 s3 a5 K6 cont7 hK8 hcont9 h hr10
 replace h:Hs n y1 (k4+1) s3=some o11:=h
 rw[Hs] at h
 conv=>lhs;whnf
 revert h
 refine br ?_ ?_
 refine ix ?_;intro x13
 refine br ?_ ?_
 intro h;cases sj h
 refine(hK8 _ _).trans ?_
 refine Eq.trans ?_ (Eq.symm (show _=some _ from hr10))
 conv=>lhs;whnf
 exact rq
 exact fun h=>cq (hcont9 (IntKind.i64.wrap (s3+1)) (fun _=>0) h)
 intro h;cases sj h
 exact kq (hr10 (fun _=>0))
 refine lrc ?_ ?_
 intro v e;subst e;cases sj h;rfl
 intro t a15 e;subst e
 dsimp only at h
 conv=>lhs;whnf
 revert h
 refine ca hc (fun _ h=>N7 h) ?_;intro y16
 exact rz
theorem J7 {n:Nat} ⦃Dp:Int⦄ ⦃Xl:(List A3)⦄ ⦃D3:(List UInt8)⦄ ⦃D4:(List UInt8)⦄ ⦃D5:Bool⦄ ⦃D6:Bool⦄ ⦃r:Bool⦄:Fy n Dp Xl D3 D4 D5 D6=some r→CN n 99 [AV.int .u8 Dp,AV.sl 5 (List.map A8 Xl),AV.ptr 0 0] [Ob.var 119 [sA D3,sA D4,bA D5,bA D6]]=some (bA r,[Ob.var 119 [sA D3,sA D4,bA D5,bA D6]]):=by
 intro h;rcases n with _|n;cases h
 rw[Fy] at h
 refine Ah Try.func99 (by rfl) rfl rfl (As rfl) ?_
 intro call hc;conv=>lhs;whnf
 revert h
 refine ca hc (fun y1 h=>(show CN n 98 [AV.agg [sA D3,sA D4,bA D5,bA D6],AV.int .u8 Dp] []=some (bA y1,[]) from E4 (r:=y1) h)) ?_;intro y1
 refine br ?_ ?_
 refine ca hc (fun _ h=>Yp h) ?_;intro y4
 refine br ?_ ?_
 exact rz
 refine ca hc (fun y7 h=>(show CN n 98 [AV.agg [sA D3,sA D4,bA D5,bA D6],AV.int .u8 Dp] []=some (bA y7,[]) from E4 (r:=y7) h)) ?_;intro y7
 refine br ?_ ?_
 exact rz
 exact rz
 refine ca hc (fun y10 h=>(show CN n 98 [AV.agg [sA D3,sA D4,bA D5,bA D6],AV.int .u8 Dp] []=some (bA y10,[]) from E4 (r:=y10) h)) ?_;intro y10
 refine br ?_ ?_
 exact rz
 exact rz
theorem Y4 {n:Nat} ⦃r:(List Bh)⦄:Ow n=some r→CN n 103 [] []=some (AV.sl 4 (List.map A1m r),[]):=by
 intro h;rcases n with _|n;cases h
 rw[Ow] at h
 refine Ah Try.func103 (by rfl) rfl rfl (As rfl) ?_
 intro call hc;conv=>lhs;whnf
 revert h
 exact rz
theorem Uw {n:Nat} ⦃B9:Int⦄ ⦃r:(Bh×Bool)⦄:Pi n B9=some r→CN n 96 [iA B9] []=some (AV.tup [AV.agg [sA r.1.f_word,sA r.1.f_form,bA r.1.f_body,bA r.1.f_more],bA r.2],[]):=by
 intro h;rcases n with _|n;cases h
 rw[Pi] at h
 refine Ah Try.func96 (by rfl) rfl rfl (As rfl) ?_
 intro call hc;conv=>lhs;whnf
 revert h
 refine ca hc (fun _ h=>Y4 h) ?_;intro y1
 refine br ?_ ?_
 exact rz
 refine br ?_ ?_
 exact rz
 refine ix ?_;intro x5
 exact rz
theorem A05 {n:Nat} ⦃Ag:A6⦄ ⦃r:Bool⦄:Q5 n Ag=some r→CN n 83 [AV.agg [iA Ag.Ax,sA Ag.Ec,sA Ag.Cr,AV.sl 5 (List.map A8 Ag.Es),AV.sl 5 (List.map A8 Ag.F4),bA Ag.Ct,iA Ag.A7,iA Ag.Ae,iA Ag.Bi]] []=some (bA r,[]):=by
 intro h;rcases n with _|n;cases h
 rw[Q5] at h
 refine Ah Try.func83 (by rfl) rfl rfl (As rfl) ?_
 intro call hc;conv=>lhs;whnf
 revert h
 refine ca hc (fun _ h=>Uw h) ?_;intro y1
 refine br ?_ ?_
 refine br ?_ ?_
 exact rz
 refine br ?_ ?_
 refine ca hc (fun _ h=>E4 h) ?_;intro y6
 refine br ?_ ?_
 refine ca hc (fun _ h=>J9 h) ?_;intro y9
 refine br ?_ ?_
 refine ca hc (fun _ h=>J9 h) ?_;intro y12
 refine br ?_ ?_
 refine ca hc (fun _ h=>J7 h) ?_;intro y15
 refine br ?_ ?_
 refine ca hc (fun _ h=>J7 h) ?_;intro y18
 refine br ?_ ?_
 refine br ?_ ?_
 refine br ?_ ?_
 exact rz
 exact rz
 refine br ?_ ?_
 refine br ?_ ?_
 exact rz
 exact rz
 exact rz
 exact rz
 exact rz
 exact rz
 exact rz
 exact rz
 refine ca hc (fun _ h=>J9 h) ?_;intro y25
 refine br ?_ ?_
 refine ca hc (fun _ h=>J9 h) ?_;intro y28
 refine br ?_ ?_
 refine ca hc (fun _ h=>J7 h) ?_;intro y31
 refine br ?_ ?_
 refine ca hc (fun _ h=>J7 h) ?_;intro y34
 refine br ?_ ?_
 refine br ?_ ?_
 refine br ?_ ?_
 exact rz
 exact rz
 refine br ?_ ?_
 refine br ?_ ?_
 exact rz
 exact rz
 exact rz
 exact rz
 exact rz
 exact rz
 exact rz
 exact rz
theorem Sb {n:Nat} ⦃A4:(List A6)⦄ ⦃r:Bool⦄:Lq n A4=some r→CN n 64 [AV.sl 9 (List.map Am A4)] []=some (bA r,[]):=by
 intro h;rcases n with _|n;cases h
 rw[Lq] at h
 refine Ah Try.func64 (by rfl) rfl rfl (As rfl) ?_
 intro call hc;conv=>lhs;whnf
 revert h
 refine ca hc (fun _ h=>Ya h) ?_;intro y1
 refine br ?_ ?_
 exact rz
 refine br ?_ ?_
 exact rz
 refine br ?_ ?_
 exact rz
 intro h;refine Ak h ?_;clear h;intro o14 ho14 h
 refine lq (σ:=Int) (τ:=Unit) (ν:=Bool) 0 (fun s6 a8=>B2 29 [(19,AV.sl 9 (List.map Am A4)),(20,iA (((A4.length:Nat):Int))),(21,iA s6)]) (fun s6 a8=>[]) (fun _ a20=>B2 29 []) (fun _ a20=>[]) (fun v=>(bA v,[])) (fun k s=>Hk n A4 k s) (fun s=>rfl) o14 n 0 (fun _=>0) ho14 ?_ ?_
 intro k7 s6 a8 K9 cont10 hK11 hcont12 h hr13
 replace h:Hk n A4 (k7+1) s6=some o14:=h
 rw[Hk] at h
 conv=>lhs;whnf
 revert h
 refine br ?_ ?_
 refine ix ?_;intro x16
 refine ca hc (fun _ h=>A05 h) ?_;intro y17
 refine br ?_ ?_
 exact fun h=>cq (hcont12 (IntKind.i64.wrap (s6+1)) (fun _=>0) h)
 intro h;cases sj h
 refine(hK11 _ _).trans ?_
 refine Eq.trans ?_ (Eq.symm (show _=some _ from hr13))
 conv=>lhs;whnf
 exact rq
 intro h;cases sj h
 exact kq (hr13 (fun _=>0))
 refine lrc ?_ ?_
 intro v e;subst e;cases sj h;rfl
 intro t a20 e;subst e
 dsimp only at h
 conv=>lhs;whnf
 revert h
 exact rz
theorem A0s {n:Nat} ⦃Ag:A6⦄ ⦃r:(List UInt8)⦄:Qe n Ag=some r→CN n 87 [AV.agg [iA Ag.Ax,sA Ag.Ec,sA Ag.Cr,AV.sl 5 (List.map A8 Ag.Es),AV.sl 5 (List.map A8 Ag.F4),bA Ag.Ct,iA Ag.A7,iA Ag.Ae,iA Ag.Bi]] []=some (sA r,[]):=by
 intro h;rcases n with _|n;cases h
 rw[Qe] at h
 refine Ah Try.func87 (by rfl) rfl rfl (As rfl) ?_
 intro call hc;conv=>lhs;whnf
 revert h
 refine ca hc (fun _ h=>Uw h) ?_;intro y1
 intro h;refine Ak h ?_;clear h;intro o13 ho13 h
 refine lq (σ:=((List UInt8)×Int×Bool)) (τ:=((List UInt8)×Bool)) (ν:=(List UInt8)) 0 (fun(s3,s4,s5) a7=>B2 76 [(1,AV.ptr 0 0),(3,AV.ptr 1 0),(5,sA s3),(18,iA (((y1.1.f_form.length:Nat):Int))),(19,iA s4)]) (fun(s3,s4,s5) a7=>[Ob.var 69 [iA Ag.Ax,sA Ag.Ec,sA Ag.Cr,AV.sl 5 (List.map A8 Ag.Es),AV.sl 5 (List.map A8 Ag.F4),bA s5,iA Ag.A7,iA Ag.Ae,iA Ag.Bi],Ob.var 119 [sA y1.1.f_word,sA y1.1.f_form,bA y1.1.f_body,bA y1.1.f_more]]) (fun(x41,x42) a40=>B2 76 [(5,sA x41)]) (fun(x41,x42) a40=>[Ob.var 69 [iA Ag.Ax,sA Ag.Ec,sA Ag.Cr,AV.sl 5 (List.map A8 Ag.Es),AV.sl 5 (List.map A8 Ag.F4),bA x42,iA Ag.A7,iA Ag.Ae,iA Ag.Bi],Ob.var 119 [sA y1.1.f_word,sA y1.1.f_form,bA y1.1.f_body,bA y1.1.f_more]]) (fun v=>(sA v,[])) (fun k s=>D1 n Ag y1 k s.1 s.2.1 s.2.2) (fun s=>rfl) o13 n (y1.1.f_word,0,Ag.Ct) (fun _=>0) ho13 ?_ ?_
 intro k6 ss a7 K8 cont9 hK10 hcont11 h hr12
 obtain⟨s3,s4,s5⟩:=ss
 replace h:D1 n Ag y1 (k6+1) s3 s4 s5=some o13:=h
 rw[D1] at h
 conv=>lhs;whnf
 revert h
 refine br ?_ ?_
 refine ixs ?_;intro x15
 refine br ?_ ?_
 intro h
 refine Ay h ?_;clear h;intro hc17 h
 refine Az hc17 ?_
 try simp only[ls]
 conv=>lhs;whnf
 revert h
 intro h
 refine Ay h ?_;clear h;intro hc18 h
 refine Az hc18 ?_
 try simp only[ls]
 conv=>lhs;whnf
 revert h
 exact fun h=>cq (hcont11 ((s3++(([32]:List UInt8)++Ag.Ec)),IntKind.i64.wrap (s4+1),s5) (fun _=>0) h)
 refine br ?_ ?_
 intro h
 refine Ay h ?_;clear h;intro hc20 h
 refine Az hc20 ?_
 try simp only[ls]
 conv=>lhs;whnf
 revert h
 intro h
 refine Ay h ?_;clear h;intro hc21 h
 refine Az hc21 ?_
 try simp only[ls]
 conv=>lhs;whnf
 revert h
 exact fun h=>cq (hcont11 ((s3++(([32]:List UInt8)++Ag.Cr)),IntKind.i64.wrap (s4+1),s5) (fun _=>0) h)
 refine br ?_ ?_
 refine ca hc (fun _ h=>Pb h) ?_;intro y23
 intro h
 refine Ay h ?_;clear h;intro hc25 h
 refine Az hc25 ?_
 try simp only[ls]
 conv=>lhs;whnf
 revert h
 intro h
 refine Ay h ?_;clear h;intro hc26 h
 refine Az hc26 ?_
 try simp only[ls]
 conv=>lhs;whnf
 revert h
 exact fun h=>cq (hcont11 ((s3++(([32]:List UInt8)++y23)),IntKind.i64.wrap (s4+1),s5) (fun _=>0) h)
 refine br ?_ ?_
 refine ca hc (fun _ h=>Pb h) ?_;intro y28
 intro h
 refine Ay h ?_;clear h;intro hc30 h
 refine Az hc30 ?_
 try simp only[ls]
 conv=>lhs;whnf
 revert h
 intro h
 refine Ay h ?_;clear h;intro hc31 h
 refine Az hc31 ?_
 try simp only[ls]
 conv=>lhs;whnf
 revert h
 exact fun h=>cq (hcont11 ((s3++(([32]:List UInt8)++y28)),IntKind.i64.wrap (s4+1),s5) (fun _=>0) h)
 refine br ?_ ?_
 refine br ?_ ?_
 intro h
 refine Ay h ?_;clear h;intro hc34 h
 refine Az hc34 ?_
 try simp only[ls]
 conv=>lhs;whnf
 revert h
 exact fun h=>cq (hcont11 ((s3++([32,33,61]:List UInt8)),IntKind.i64.wrap (s4+1),true) (fun _=>0) h)
 intro h
 refine Ay h ?_;clear h;intro hc35 h
 refine Az hc35 ?_
 try simp only[ls]
 conv=>lhs;whnf
 revert h
 exact fun h=>cq (hcont11 ((s3++([32,61,61]:List UInt8)),IntKind.i64.wrap (s4+1),false) (fun _=>0) h)
 refine br ?_ ?_
 intro h
 refine Ay h ?_;clear h;intro hc37 h
 refine Az hc37 ?_
 try simp only[ls]
 conv=>lhs;whnf
 revert h
 exact fun h=>cq (hcont11 ((s3++([32,61]:List UInt8)),IntKind.i64.wrap (s4+1),s5) (fun _=>0) h)
 refine cp ?_
 intro h
 refine Ay h ?_;clear h;intro hc39 h
 refine Az hc39 ?_
 try simp only[ls]
 conv=>lhs;whnf
 revert h
 exact fun h=>cq (hcont11 ((s3++([UInt8.ofNat (IntKind.i32.wrap ((x15.toNat:Int))).toNat])),IntKind.i64.wrap (s4+1),s5) (fun _=>0) h)
 intro h;cases sj h
 exact kq (hr12 (fun _=>0))
 refine lrc ?_ ?_
 intro v e;subst e;cases sj h;rfl
 intro t a40 e;subst e
 obtain⟨x41,x42⟩:=t
 dsimp only at h
 conv=>lhs;whnf
 revert h
 exact rz
theorem Qh {n:Nat} ⦃Ib:Int⦄ ⦃r:(List UInt8)⦄:Li n Ib=some r→CN n 86 [iA Ib] []=some (sA r,[]):=by
 intro h;rcases n with _|n;cases h
 rw[Li] at h
 refine Ah Try.func86 (by rfl) rfl rfl (As rfl) ?_
 intro call hc;conv=>lhs;whnf
 revert h
 intro h;refine Ak h ?_;clear h;intro o10 ho10 h
 refine lq (σ:=((List UInt8)×Int)) (τ:=(List UInt8)) (ν:=(List UInt8)) 0 (fun(s1,s2) a4=>B2 11 [(3,sA s1),(4,iA Ib),(5,iA s2)]) (fun(s1,s2) a4=>[]) (fun x14 a13=>B2 11 [(3,sA x14)]) (fun x14 a13=>[]) (fun v=>(sA v,[])) (fun k s=>Js n Ib k s.1 s.2) (fun s=>rfl) o10 n (([]:List UInt8),0) (fun _=>0) ho10 ?_ ?_
 intro k3 ss a4 K5 cont6 hK7 hcont8 h hr9
 obtain⟨s1,s2⟩:=ss
 replace h:Js n Ib (k3+1) s1 s2=some o10:=h
 rw[Js] at h
 conv=>lhs;whnf
 revert h
 refine br ?_ ?_
 intro h
 refine Ay h ?_;clear h;intro hc12 h
 refine Az hc12 ?_
 try simp only[ls]
 conv=>lhs;whnf
 revert h
 exact fun h=>cq (hcont8 ((s1++([32,32]:List UInt8)),IntKind.i64.wrap (s2+1)) (fun _=>0) h)
 intro h;cases sj h
 exact kq (hr9 (fun _=>0))
 refine lrc ?_ ?_
 intro v e;subst e;cases sj h;rfl
 intro x14 a13 e;subst e
 dsimp only at h
 conv=>lhs;whnf
 revert h
 exact rz
def L3 (n:Nat):Prop:=∀ ⦃A4:(List A6)⦄ ⦃B7:Int⦄ ⦃Al:Int⦄ ⦃R6:Int⦄ ⦃r:(List UInt8)⦄,Jl n A4 B7 Al R6=some r→CN n 65 [AV.sl 9 (List.map Am A4),iA B7,iA Al,iA R6] []=some (sA r,[])
def Ma (n:Nat):Prop:=∀ ⦃Do:Int⦄ ⦃Gf:Int⦄ ⦃I2:Int⦄ ⦃o0:(List UInt8)⦄ ⦃o1:Int⦄ ⦃o2:(List A6)⦄ ⦃r:(Bool×(List UInt8))⦄,Hq n Do Gf I2 o0 o1 o2=some r→CN n 85 [iA Do,iA Gf,iA I2,AV.ptr 0 0,AV.ptr 1 0,AV.ptr 2 0] [Ob.var 9 [sA o0],Ob.var 3 [iA o1],Ob.var 49 [AV.sl 9 (List.map Am o2)]]=some (bA r.1,[Ob.var 9 [sA r.2],Ob.var 3 [iA o1],Ob.var 49 [AV.sl 9 (List.map Am o2)]])
def Fk (n:Nat):Prop:=∀ ⦃A4:(List A6)⦄ ⦃B7:Int⦄ ⦃Al:Int⦄ ⦃o0:(List UInt8)⦄ ⦃o1:Int⦄ ⦃o2:(List A6)⦄ ⦃r:(Bool×(List UInt8))⦄,Ft n A4 B7 Al o0 o1 o2=some r→CN n 84 [AV.sl 9 (List.map Am A4),iA B7,iA Al,AV.func 85 [] [AV.ptr 0 0,AV.ptr 1 0,AV.ptr 2 0]] [Ob.var 9 [sA o0],Ob.var 3 [iA o1],Ob.var 49 [AV.sl 9 (List.map Am o2)]]=some (bA r.1,[Ob.var 9 [sA r.2],Ob.var 3 [iA o1],Ob.var 49 [AV.sl 9 (List.map Am o2)]])
def La (n:Nat):Prop:=L3 n∧Ma n∧Fk n
theorem A0r (n:Nat) (ih:La n):L3 (n+1):=by
 intro A4 B7 Al R6 r h
 rw[Jl] at h
 refine Ah Try.func65 (by rfl) rfl rfl (As rfl) ?_
 intro call hc;conv=>lhs;whnf
 revert h
 refine cr hc (fun _ h=>ih.2.2 h) ?_;intro y1
 exact rz
theorem Xi (n:Nat) (ih:La n):Ma (n+1):=by
 intro Do Gf I2 o0 o1 o2 r h
 rw[Hq] at h
 refine Ah Try.func85 (by rfl) rfl rfl (As rfl) ?_
 intro call hc;conv=>lhs;whnf
 revert h
 refine ca hc (fun _ h=>Qh h) ?_;intro y1
 refine ix ?_;intro x3
 refine ca hc (fun _ h=>A0s h) ?_;intro y4
 intro h
 refine Ay h ?_;clear h;intro hc6 h
 refine Az hc6 ?_
 try simp only[ls]
 conv=>lhs;whnf
 revert h
 intro h
 refine Ay h ?_;clear h;intro hc7 h
 refine Az hc7 ?_
 try simp only[ls]
 conv=>lhs;whnf
 revert h
 refine ix ?_;intro x8
 refine ca hc (fun _ h=>S7 h) ?_;intro y9
 refine br ?_ ?_
 refine ca hc (fun _ h=>ih.1 h) ?_;intro y12
 intro h
 refine Ay h ?_;clear h;intro hc14 h
 refine Az hc14 ?_
 try simp only[ls]
 conv=>lhs;whnf
 revert h
 refine ca hc (fun _ h=>Qh h) ?_;intro y15
 intro h
 refine Ay h ?_;clear h;intro hc17 h
 refine Az hc17 ?_
 try simp only[ls]
 conv=>lhs;whnf
 revert h
 intro h
 refine Ay h ?_;clear h;intro hc18 h
 refine Az hc18 ?_
 try simp only[ls]
 conv=>lhs;whnf
 revert h
 refine br ?_ ?_
 refine ca hc (fun _ h=>ih.1 h) ?_;intro y20
 intro h
 refine Ay h ?_;clear h;intro hc22 h
 refine Az hc22 ?_
 try simp only[ls]
 conv=>lhs;whnf
 revert h
 refine ca hc (fun _ h=>Qh h) ?_;intro y23
 intro h
 refine Ay h ?_;clear h;intro hc25 h
 refine Az hc25 ?_
 try simp only[ls]
 conv=>lhs;whnf
 revert h
 intro h
 refine Ay h ?_;clear h;intro hc26 h
 refine Az hc26 ?_
 try simp only[ls]
 conv=>lhs;whnf
 revert h
 intro h
 refine Ay h ?_;clear h;intro hc27 h
 refine Az hc27 ?_
 try simp only[ls]
 conv=>lhs;whnf
 revert h
 intro h
 refine Ay h ?_;clear h;intro hc28 h
 refine Az hc28 ?_
 try simp only[ls]
 conv=>lhs;whnf
 revert h
 exact rz
 intro h
 refine Ay h ?_;clear h;intro hc29 h
 refine Az hc29 ?_
 try simp only[ls]
 conv=>lhs;whnf
 revert h
 intro h
 refine Ay h ?_;clear h;intro hc30 h
 refine Az hc30 ?_
 try simp only[ls]
 conv=>lhs;whnf
 revert h
 exact rz
 intro h
 refine Ay h ?_;clear h;intro hc31 h
 refine Az hc31 ?_
 try simp only[ls]
 conv=>lhs;whnf
 revert h
 exact rz
theorem Pf (n:Nat) (ih:La n):Fk (n+1):=by
 intro A4 B7 Al o0 o1 o2 r h
 rw[Ft] at h
 refine Ah Try.func84 (by rfl) rfl rfl (As rfl) ?_
 intro call hc;conv=>lhs;whnf
 revert h
 intro h;refine Ak h ?_;clear h;intro o10 ho10 h
 refine lq (σ:=(Int×(List UInt8))) (τ:=(List UInt8)) (ν:=(Bool×(List UInt8))) 0 (fun(s1,s2) a4=>B2 63 [(0,AV.sl 9 (List.map Am A4)),(1,iA s1),(2,iA Al),(3,AV.func 85 [] [AV.ptr 0 0,AV.ptr 1 0,AV.ptr 2 0])]) (fun(s1,s2) a4=>[Ob.var 9 [sA s2],Ob.var 3 [iA o1],Ob.var 49 [AV.sl 9 (List.map Am o2)]]) (fun x21 a20=>B2 63 []) (fun x21 a20=>[Ob.var 9 [sA x21],Ob.var 3 [iA o1],Ob.var 49 [AV.sl 9 (List.map Am o2)]]) (fun v=>(bA v.1,[Ob.var 9 [sA v.2],Ob.var 3 [iA o1],Ob.var 49 [AV.sl 9 (List.map Am o2)]])) (fun k s=>Df n (Hq n) A4 Al o1 o2 k s.1 s.2) (fun s=>rfl) o10 n (B7,o0) (fun _=>0) ho10 ?_ ?_
 intro k3 ss a4 K5 cont6 hK7 hcont8 h hr9
 obtain⟨s1,s2⟩:=ss
 replace h:Df n (Hq n) A4 Al o1 o2 (k3+1) s1 s2=some o10:=h
 rw[Df] at h
 conv=>lhs;whnf
 revert h
 refine br ?_ ?_
 refine ix ?_;intro x12
 refine br ?_ ?_
 intro h;cases sj h
 refine(hK7 _ _).trans ?_
 refine Eq.trans ?_ (Eq.symm (show _=some _ from hr9))
 conv=>lhs;whnf
 exact rq
 refine br ?_ ?_
 intro h;cases sj h
 refine(hK7 _ _).trans ?_
 refine Eq.trans ?_ (Eq.symm (show _=some _ from hr9))
 conv=>lhs;whnf
 exact rq
 refine br ?_ ?_
 intro h;cases sj h
 refine(hK7 _ _).trans ?_
 refine Eq.trans ?_ (Eq.symm (show _=some _ from hr9))
 conv=>lhs;whnf
 exact rq
 refine br ?_ ?_
 intro h;cases sj h
 refine(hK7 _ _).trans ?_
 refine Eq.trans ?_ (Eq.symm (show _=some _ from hr9))
 conv=>lhs;whnf
 exact rq
 refine ca hc (fun _ h=>ih.2.1 h) ?_;intro y17
 refine br ?_ ?_
 exact fun h=>cq (hcont8 (IntKind.i64.wrap ((IntKind.i64.wrap ((IntKind.i64.wrap (s1+1))+x12.A7))+x12.Ae),y17.2) (fun _=>0) h)
 intro h;cases sj h
 refine(hK7 _ _).trans ?_
 refine Eq.trans ?_ (Eq.symm (show _=some _ from hr9))
 conv=>lhs;whnf
 exact rq
 intro h;cases sj h
 exact kq (hr9 (fun _=>0))
 refine lrc ?_ ?_
 intro v e;subst e;cases sj h;rfl
 intro x21 a20 e;subst e
 dsimp only at h
 conv=>lhs;whnf
 revert h
 exact rz
theorem S6:∀ n,La n
 | 0=>⟨by unfold L3;intros;rename_i h;exact absurd h (by intro h;cases h),by unfold Ma;intros;rename_i h;exact absurd h (by intro h;cases h),by unfold Fk;intros;rename_i h;exact absurd h (by intro h;cases h)⟩
 | n+1=>have ih:=S6 n
   ⟨A0r n ih,Xi n ih,Pf n ih⟩
theorem Za {n:Nat}:L3 n:=(S6 n).1
theorem T7 {n:Nat} ⦃A4:(List A6)⦄ ⦃O9:Int⦄ ⦃r:(List UInt8)⦄:Mp n A4 O9=some r→CN n 42 [AV.sl 9 (List.map Am A4),iA O9] []=some (sA r,[]):=by
 intro h;rcases n with _|n;cases h
 rw[Mp] at h
 refine Ah Try.func42 (by rfl) rfl rfl (As rfl) ?_
 intro call hc;conv=>lhs;whnf
 revert h
 refine br ?_ ?_
 exact rz
 refine br ?_ ?_
 exact rz
 refine ca hc (fun _ h=>Sb h) ?_;intro y3
 refine br ?_ ?_
 refine cr hc (fun _ h=>Za h) ?_;intro y6
 exact rz
 exact rz
theorem Qx {n:Nat} ⦃B9:Int⦄ ⦃r:Bool⦄:K2 n B9=some r→CN n 59 [iA B9] []=some (bA r,[]):=by
 intro h;rcases n with _|n;cases h
 rw[K2] at h
 refine Ah Try.func59 (by rfl) rfl rfl (As rfl) ?_
 intro call hc;conv=>lhs;whnf
 revert h
 refine br ?_ ?_
 exact rz
 exact rz
theorem Wd {n:Nat} ⦃Do:Int⦄ ⦃Bn:Int⦄ ⦃Ba:(List Ao)⦄ ⦃B1:(List Aa)⦄ ⦃B3:(List A2)⦄ ⦃r:Bool⦄:M8 n Do Bn Ba B1 B3=some r→CN n 57 [iA Do,AV.ptr 0 0] [Ob.var 26 [iA Bn,AV.sl 3 (List.map Ad Ba),AV.sl 4 (List.map Ab B1),AV.sl 3 (List.map Ac B3)]]=some (bA r,[Ob.var 26 [iA Bn,AV.sl 3 (List.map Ad Ba),AV.sl 4 (List.map Ab B1),AV.sl 3 (List.map Ac B3)]]):=by
 intro h;rcases n with _|n;cases h
 rw[M8] at h
 refine Ah Try.func57 (by rfl) rfl rfl (As rfl) ?_
 intro call hc;conv=>lhs;whnf
 revert h
 refine ix ?_;intro x1
 refine ca hc (fun _ h=>Ey h) ?_;intro y2
 refine br ?_ ?_
 refine ca hc (fun _ h=>Qx h) ?_;intro y5
 refine br ?_ ?_
 exact rz
 exact rz
 exact rz
theorem A20 {n:Nat} ⦃B9:Int⦄ ⦃Bn:Int⦄ ⦃Ba:(List Ao)⦄ ⦃B1:(List Aa)⦄ ⦃B3:(List A2)⦄ ⦃r:Bool⦄:Rt n B9 Bn Ba B1 B3=some r→CN n 56 [iA B9,AV.func 57 [] [AV.ptr 0 0]] [Ob.var 26 [iA Bn,AV.sl 3 (List.map Ad Ba),AV.sl 4 (List.map Ab B1),AV.sl 3 (List.map Ac B3)]]=some (bA r,[Ob.var 26 [iA Bn,AV.sl 3 (List.map Ad Ba),AV.sl 4 (List.map Ab B1),AV.sl 3 (List.map Ac B3)]]):=by
 intro h;rcases n with _|n;cases h
 rw[Rt] at h
 refine Ah Try.func56 (by rfl) rfl rfl (As rfl) ?_
 intro call hc;conv=>lhs;whnf
 revert h
 intro h;refine Ak h ?_;clear h;intro o9 ho9 h
 refine lq (σ:=Int) (τ:=Unit) (ν:=Bool) 0 (fun s1 a3=>B2 15 [(1,AV.func 57 [] [AV.ptr 0 0]),(6,iA B9),(7,iA s1)]) (fun s1 a3=>[Ob.var 26 [iA Bn,AV.sl 3 (List.map Ad Ba),AV.sl 4 (List.map Ab B1),AV.sl 3 (List.map Ac B3)]]) (fun _ a14=>B2 15 []) (fun _ a14=>[Ob.var 26 [iA Bn,AV.sl 3 (List.map Ad Ba),AV.sl 4 (List.map Ab B1),AV.sl 3 (List.map Ac B3)]]) (fun v=>(bA v,[Ob.var 26 [iA Bn,AV.sl 3 (List.map Ad Ba),AV.sl 4 (List.map Ab B1),AV.sl 3 (List.map Ac B3)]])) (fun k s=>Jk n B9 Bn Ba B1 B3 k s) (fun s=>rfl) o9 n 0 (fun _=>0) ho9 ?_ ?_
 intro k2 s1 a3 K4 cont5 hK6 hcont7 h hr8
 replace h:Jk n B9 Bn Ba B1 B3 (k2+1) s1=some o9:=h
 rw[Jk] at h
 conv=>lhs;whnf
 revert h
 refine br ?_ ?_
 refine ca hc (fun _ h=>Wd h) ?_;intro y11
 refine br ?_ ?_
 exact fun h=>cq (hcont7 (IntKind.i64.wrap (s1+1)) (fun _=>0) h)
 intro h;cases sj h
 refine(hK6 _ _).trans ?_
 refine Eq.trans ?_ (Eq.symm (show _=some _ from hr8))
 conv=>lhs;whnf
 exact rq
 intro h;cases sj h
 exact kq (hr8 (fun _=>0))
 refine lrc ?_ ?_
 intro v e;subst e;cases sj h;rfl
 intro t a14 e;subst e
 dsimp only at h
 conv=>lhs;whnf
 revert h
 exact rz
theorem Un {n:Nat} ⦃Do:Int⦄ ⦃Dx:(List UInt8)⦄ ⦃Dq:(List (List UInt8))⦄ ⦃Dy:(List A6)⦄ ⦃Fs:Int⦄ ⦃r:Bool⦄:Lc n Do Dx Dq Dy Fs=some r→CN n 80 [iA Do,AV.ptr 0 0] [Ob.var 51 [sA Dx,AV.sl 1 (List.map Aw Dq),AV.sl 9 (List.map Am Dy),iA Fs]]=some (bA r,[Ob.var 51 [sA Dx,AV.sl 1 (List.map Aw Dq),AV.sl 9 (List.map Am Dy),iA Fs]]):=by
 intro h;rcases n with _|n;cases h
 rw[Lc] at h
 refine Ah Try.func80 (by rfl) rfl rfl (As rfl) ?_
 intro call hc;conv=>lhs;whnf
 revert h
 refine ix ?_;intro x1
 refine ca hc (fun _ h=>Ey h) ?_;intro y2
 exact rz
theorem Ym {n:Nat} ⦃B9:Int⦄ ⦃Dx:(List UInt8)⦄ ⦃Dq:(List (List UInt8))⦄ ⦃Dy:(List A6)⦄ ⦃Fs:Int⦄ ⦃r:Bool⦄:Pc n B9 Dx Dq Dy Fs=some r→CN n 56 [iA B9,AV.func 80 [] [AV.ptr 0 0]] [Ob.var 51 [sA Dx,AV.sl 1 (List.map Aw Dq),AV.sl 9 (List.map Am Dy),iA Fs]]=some (bA r,[Ob.var 51 [sA Dx,AV.sl 1 (List.map Aw Dq),AV.sl 9 (List.map Am Dy),iA Fs]]):=by
 intro h;rcases n with _|n;cases h
 rw[Pc] at h
 refine Ah Try.func56 (by rfl) rfl rfl (As rfl) ?_
 intro call hc;conv=>lhs;whnf
 revert h
 intro h;refine Ak h ?_;clear h;intro o9 ho9 h
 refine lq (σ:=Int) (τ:=Unit) (ν:=Bool) 0 (fun s1 a3=>B2 15 [(1,AV.func 80 [] [AV.ptr 0 0]),(6,iA B9),(7,iA s1)]) (fun s1 a3=>[Ob.var 51 [sA Dx,AV.sl 1 (List.map Aw Dq),AV.sl 9 (List.map Am Dy),iA Fs]]) (fun _ a14=>B2 15 []) (fun _ a14=>[Ob.var 51 [sA Dx,AV.sl 1 (List.map Aw Dq),AV.sl 9 (List.map Am Dy),iA Fs]]) (fun v=>(bA v,[Ob.var 51 [sA Dx,AV.sl 1 (List.map Aw Dq),AV.sl 9 (List.map Am Dy),iA Fs]])) (fun k s=>Ho n B9 Dx Dq Dy Fs k s) (fun s=>rfl) o9 n 0 (fun _=>0) ho9 ?_ ?_
 intro k2 s1 a3 K4 cont5 hK6 hcont7 h hr8
 replace h:Ho n B9 Dx Dq Dy Fs (k2+1) s1=some o9:=h
 rw[Ho] at h
 conv=>lhs;whnf
 revert h
 refine br ?_ ?_
 refine ca hc (fun _ h=>Un h) ?_;intro y11
 refine br ?_ ?_
 exact fun h=>cq (hcont7 (IntKind.i64.wrap (s1+1)) (fun _=>0) h)
 intro h;cases sj h
 refine(hK6 _ _).trans ?_
 refine Eq.trans ?_ (Eq.symm (show _=some _ from hr8))
 conv=>lhs;whnf
 exact rq
 intro h;cases sj h
 exact kq (hr8 (fun _=>0))
 refine lrc ?_ ?_
 intro v e;subst e;cases sj h;rfl
 intro t a14 e;subst e
 dsimp only at h
 conv=>lhs;whnf
 revert h
 exact rz
theorem Wz {n:Nat} ⦃Ls:Aa⦄ ⦃r:Bool⦄:Nc n Ls=some r→CN n 61 [AV.agg [sA Ls.B5,AV.sl 1 (List.map Aw Ls.Bu),AV.sl 9 (List.map Am Ls.A7),iA Ls.Bi]] []=some (bA r,[]):=by
 intro h;rcases n with _|n;cases h
 rw[Nc] at h
 refine Ah Try.func61 (by rfl) rfl rfl (As rfl) ?_
 intro call hc;conv=>lhs;whnf
 revert h
 refine ca hc (fun _ h=>Ey h) ?_;intro y1
 refine br ?_ ?_
 refine br ?_ ?_
 refine ca hc (fun _ h=>Sb h) ?_;intro y5
 refine br ?_ ?_
 refine cr hc (fun _ h=>Ym h) ?_;intro y8
 exact rz
 exact rz
 exact rz
 exact rz
theorem Vy {n:Nat} ⦃Do:Int⦄ ⦃Bn:Int⦄ ⦃Ba:(List Ao)⦄ ⦃B1:(List Aa)⦄ ⦃B3:(List A2)⦄ ⦃r:Bool⦄:Lu n Do Bn Ba B1 B3=some r→CN n 60 [iA Do,AV.ptr 0 0] [Ob.var 26 [iA Bn,AV.sl 3 (List.map Ad Ba),AV.sl 4 (List.map Ab B1),AV.sl 3 (List.map Ac B3)]]=some (bA r,[Ob.var 26 [iA Bn,AV.sl 3 (List.map Ad Ba),AV.sl 4 (List.map Ab B1),AV.sl 3 (List.map Ac B3)]]):=by
 intro h;rcases n with _|n;cases h
 rw[Lu] at h
 refine Ah Try.func60 (by rfl) rfl rfl (As rfl) ?_
 intro call hc;conv=>lhs;whnf
 revert h
 refine ix ?_;intro x1
 refine ca hc (fun _ h=>Wz h) ?_;intro y2
 exact rz
theorem Yy {n:Nat} ⦃B9:Int⦄ ⦃Bn:Int⦄ ⦃Ba:(List Ao)⦄ ⦃B1:(List Aa)⦄ ⦃B3:(List A2)⦄ ⦃r:Bool⦄:Ok n B9 Bn Ba B1 B3=some r→CN n 56 [iA B9,AV.func 60 [] [AV.ptr 0 0]] [Ob.var 26 [iA Bn,AV.sl 3 (List.map Ad Ba),AV.sl 4 (List.map Ab B1),AV.sl 3 (List.map Ac B3)]]=some (bA r,[Ob.var 26 [iA Bn,AV.sl 3 (List.map Ad Ba),AV.sl 4 (List.map Ab B1),AV.sl 3 (List.map Ac B3)]]):=by
 intro h;rcases n with _|n;cases h
 rw[Ok] at h
 refine Ah Try.func56 (by rfl) rfl rfl (As rfl) ?_
 intro call hc;conv=>lhs;whnf
 revert h
 intro h;refine Ak h ?_;clear h;intro o9 ho9 h
 refine lq (σ:=Int) (τ:=Unit) (ν:=Bool) 0 (fun s1 a3=>B2 15 [(1,AV.func 60 [] [AV.ptr 0 0]),(6,iA B9),(7,iA s1)]) (fun s1 a3=>[Ob.var 26 [iA Bn,AV.sl 3 (List.map Ad Ba),AV.sl 4 (List.map Ab B1),AV.sl 3 (List.map Ac B3)]]) (fun _ a14=>B2 15 []) (fun _ a14=>[Ob.var 26 [iA Bn,AV.sl 3 (List.map Ad Ba),AV.sl 4 (List.map Ab B1),AV.sl 3 (List.map Ac B3)]]) (fun v=>(bA v,[Ob.var 26 [iA Bn,AV.sl 3 (List.map Ad Ba),AV.sl 4 (List.map Ab B1),AV.sl 3 (List.map Ac B3)]])) (fun k s=>Hm n B9 Bn Ba B1 B3 k s) (fun s=>rfl) o9 n 0 (fun _=>0) ho9 ?_ ?_
 intro k2 s1 a3 K4 cont5 hK6 hcont7 h hr8
 replace h:Hm n B9 Bn Ba B1 B3 (k2+1) s1=some o9:=h
 rw[Hm] at h
 conv=>lhs;whnf
 revert h
 refine br ?_ ?_
 refine ca hc (fun _ h=>Vy h) ?_;intro y11
 refine br ?_ ?_
 exact fun h=>cq (hcont7 (IntKind.i64.wrap (s1+1)) (fun _=>0) h)
 intro h;cases sj h
 refine(hK6 _ _).trans ?_
 refine Eq.trans ?_ (Eq.symm (show _=some _ from hr8))
 conv=>lhs;whnf
 exact rq
 intro h;cases sj h
 exact kq (hr8 (fun _=>0))
 refine lrc ?_ ?_
 intro v e;subst e;cases sj h;rfl
 intro t a14 e;subst e
 dsimp only at h
 conv=>lhs;whnf
 revert h
 exact rz
theorem Tf {n:Nat} ⦃Bt:Int⦄ ⦃r:(List UInt8)⦄:Mk n Bt=some r→CN n 43 [iA Bt] []=some (sA r,[]):=by
 intro h;rcases n with _|n;cases h
 rw[Mk] at h
 refine Ah Try.func43 (by rfl) rfl rfl (As rfl) ?_
 intro call hc;conv=>lhs;whnf
 revert h
 refine br ?_ ?_
 exact rz
 refine br ?_ ?_
 exact rz
 refine br ?_ ?_
 exact rz
 exact rz
theorem Ye {n:Nat} ⦃Dj:A2⦄ ⦃r:Bool⦄:Of n Dj=some r→CN n 63 [AV.agg [iA Dj.Ax,AV.sl 5 (List.map A8 Dj.Es),iA Dj.Bi]] []=some (bA r,[]):=by
 intro h;rcases n with _|n;cases h
 rw[Of] at h
 refine Ah Try.func63 (by rfl) rfl rfl (As rfl) ?_
 intro call hc;conv=>lhs;whnf
 revert h
 refine ca hc (fun _ h=>Rz h) ?_;intro y1
 intro h;refine Ak h ?_;clear h;intro o11 ho11 h
 refine lq (σ:=Int) (τ:=Unit) (ν:=Bool) 0 (fun s3 a5=>B2 31 [(1,AV.ptr 0 0),(7,AV.sl 5 (List.map A8 y1)),(8,iA (((y1.length:Nat):Int))),(9,iA s3)]) (fun s3 a5=>[Ob.var 56 [iA Dj.Ax,AV.sl 5 (List.map A8 Dj.Es),iA Dj.Bi]]) (fun _ a15=>B2 31 [(1,AV.ptr 0 0)]) (fun _ a15=>[Ob.var 56 [iA Dj.Ax,AV.sl 5 (List.map A8 Dj.Es),iA Dj.Bi]]) (fun v=>(bA v,[])) (fun k s=>I1 n y1 k s) (fun s=>rfl) o11 n 0 (fun _=>0) ho11 ?_ ?_
 intro k4 s3 a5 K6 cont7 hK8 hcont9 h hr10
 replace h:I1 n y1 (k4+1) s3=some o11:=h
 rw[I1] at h
 conv=>lhs;whnf
 revert h
 refine br ?_ ?_
 refine ix ?_;intro x13
 refine br ?_ ?_
 intro h;cases sj h
 refine(hK8 _ _).trans ?_
 refine Eq.trans ?_ (Eq.symm (show _=some _ from hr10))
 conv=>lhs;whnf
 exact rq
 exact fun h=>cq (hcont9 (IntKind.i64.wrap (s3+1)) (fun _=>0) h)
 intro h;cases sj h
 exact kq (hr10 (fun _=>0))
 refine lrc ?_ ?_
 intro v e;subst e;cases sj h;rfl
 intro t a15 e;subst e
 dsimp only at h
 conv=>lhs;whnf
 revert h
 refine ca hc (fun _ h=>Tf h) ?_;intro y16
 refine br ?_ ?_
 exact rz
 refine ca hc (fun _ h=>N7 h) ?_;intro y19
 refine br ?_ ?_
 exact rz
 exact rz
theorem Wb {n:Nat} ⦃Do:Int⦄ ⦃Bn:Int⦄ ⦃Ba:(List Ao)⦄ ⦃B1:(List Aa)⦄ ⦃B3:(List A2)⦄ ⦃r:Bool⦄:Lv n Do Bn Ba B1 B3=some r→CN n 62 [iA Do,AV.ptr 0 0] [Ob.var 26 [iA Bn,AV.sl 3 (List.map Ad Ba),AV.sl 4 (List.map Ab B1),AV.sl 3 (List.map Ac B3)]]=some (bA r,[Ob.var 26 [iA Bn,AV.sl 3 (List.map Ad Ba),AV.sl 4 (List.map Ab B1),AV.sl 3 (List.map Ac B3)]]):=by
 intro h;rcases n with _|n;cases h
 rw[Lv] at h
 refine Ah Try.func62 (by rfl) rfl rfl (As rfl) ?_
 intro call hc;conv=>lhs;whnf
 revert h
 refine ix ?_;intro x1
 refine ca hc (fun _ h=>Ye h) ?_;intro y2
 exact rz
theorem Yl {n:Nat} ⦃B9:Int⦄ ⦃Bn:Int⦄ ⦃Ba:(List Ao)⦄ ⦃B1:(List Aa)⦄ ⦃B3:(List A2)⦄ ⦃r:Bool⦄:Pd n B9 Bn Ba B1 B3=some r→CN n 56 [iA B9,AV.func 62 [] [AV.ptr 0 0]] [Ob.var 26 [iA Bn,AV.sl 3 (List.map Ad Ba),AV.sl 4 (List.map Ab B1),AV.sl 3 (List.map Ac B3)]]=some (bA r,[Ob.var 26 [iA Bn,AV.sl 3 (List.map Ad Ba),AV.sl 4 (List.map Ab B1),AV.sl 3 (List.map Ac B3)]]):=by
 intro h;rcases n with _|n;cases h
 rw[Pd] at h
 refine Ah Try.func56 (by rfl) rfl rfl (As rfl) ?_
 intro call hc;conv=>lhs;whnf
 revert h
 intro h;refine Ak h ?_;clear h;intro o9 ho9 h
 refine lq (σ:=Int) (τ:=Unit) (ν:=Bool) 0 (fun s1 a3=>B2 15 [(1,AV.func 62 [] [AV.ptr 0 0]),(6,iA B9),(7,iA s1)]) (fun s1 a3=>[Ob.var 26 [iA Bn,AV.sl 3 (List.map Ad Ba),AV.sl 4 (List.map Ab B1),AV.sl 3 (List.map Ac B3)]]) (fun _ a14=>B2 15 []) (fun _ a14=>[Ob.var 26 [iA Bn,AV.sl 3 (List.map Ad Ba),AV.sl 4 (List.map Ab B1),AV.sl 3 (List.map Ac B3)]]) (fun v=>(bA v,[Ob.var 26 [iA Bn,AV.sl 3 (List.map Ad Ba),AV.sl 4 (List.map Ab B1),AV.sl 3 (List.map Ac B3)]])) (fun k s=>Hv n B9 Bn Ba B1 B3 k s) (fun s=>rfl) o9 n 0 (fun _=>0) ho9 ?_ ?_
 intro k2 s1 a3 K4 cont5 hK6 hcont7 h hr8
 replace h:Hv n B9 Bn Ba B1 B3 (k2+1) s1=some o9:=h
 rw[Hv] at h
 conv=>lhs;whnf
 revert h
 refine br ?_ ?_
 refine ca hc (fun _ h=>Wb h) ?_;intro y11
 refine br ?_ ?_
 exact fun h=>cq (hcont7 (IntKind.i64.wrap (s1+1)) (fun _=>0) h)
 intro h;cases sj h
 refine(hK6 _ _).trans ?_
 refine Eq.trans ?_ (Eq.symm (show _=some _ from hr8))
 conv=>lhs;whnf
 exact rq
 intro h;cases sj h
 exact kq (hr8 (fun _=>0))
 refine lrc ?_ ?_
 intro v e;subst e;cases sj h;rfl
 intro t a14 e;subst e
 dsimp only at h
 conv=>lhs;whnf
 revert h
 exact rz
theorem Y9 {n:Nat} ⦃A5:Aq⦄ ⦃r:Bool⦄:Pa n A5=some r→CN n 40 [AV.agg [iA A5.B8,AV.sl 3 (List.map Ad A5.B4),AV.sl 4 (List.map Ab A5.An),AV.sl 3 (List.map Ac A5.Au)]] []=some (bA r,[]):=by
 intro h;rcases n with _|n;cases h
 rw[Pa] at h
 refine Ah Try.func40 (by rfl) rfl rfl (As rfl) ?_
 intro call hc;conv=>lhs;whnf
 revert h
 refine cr hc (fun _ h=>A20 h) ?_;intro y1
 refine ca hc (fun _ h=>Qx h) ?_;intro y3
 refine br ?_ ?_
 refine br ?_ ?_
 refine cr hc (fun _ h=>Yy h) ?_;intro y7
 refine br ?_ ?_
 refine cr hc (fun _ h=>Yl h) ?_;intro y10
 exact rz
 exact rz
 exact rz
 exact rz
def Ih (n:Nat):Prop:=∀ ⦃B9:Int⦄ ⦃r:(List UInt8)⦄,H4 n B9=some r→CN n 41 [iA B9] []=some (sA r,[])
def L0 (n:Nat):Prop:=Ih n
theorem Wh (n:Nat) (ih:L0 n):Ih (n+1):=by
 intro B9 r h
 rw[H4] at h
 refine Ah Try.func41 (by rfl) rfl rfl (As rfl) ?_
 intro call hc;conv=>lhs;whnf
 revert h
 refine br ?_ ?_
 exact rz
 refine ca hc (fun _ h=>ih h) ?_;intro y2
 intro h
 refine Ay h ?_;clear h;intro hc4 h
 refine Az hc4 ?_
 try simp only[ls]
 conv=>lhs;whnf
 revert h
 exact rz
theorem Ol:∀ n,L0 n
 | 0=>by unfold L0 Ih;intros;rename_i h;exact absurd h (by intro h;cases h)
 | n+1=>have ih:=Ol n
   Wh n ih
theorem Px {n:Nat}:Ih n:=(Ol n)
theorem Zr {n:Nat} ⦃A5:Aq⦄ ⦃r:(List UInt8)⦄:Qg n A5=some r→CN n 30 [AV.agg [iA A5.B8,AV.sl 3 (List.map Ad A5.B4),AV.sl 4 (List.map Ab A5.An),AV.sl 3 (List.map Ac A5.Au)]] []=some (sA r,[]):=by
 intro h;rcases n with _|n;cases h
 rw[Qg] at h
 refine Ah Try.func30 (by rfl) rfl rfl (As rfl) ?_
 intro call hc;conv=>lhs;whnf
 revert h
 refine ca hc (fun _ h=>Y9 h) ?_;intro y1
 refine br ?_ ?_
 refine ca hc (fun _ h=>Px h) ?_;intro y4
 intro h
 refine Ay h ?_;clear h;intro hc6 h
 refine Az hc6 ?_
 try simp only[ls]
 conv=>lhs;whnf
 revert h
 intro h
 refine Ay h ?_;clear h;intro hc7 h
 refine Az hc7 ?_
 try simp only[ls]
 conv=>lhs;whnf
 revert h
 intro h;refine Ak h ?_;clear h;intro o17 ho17 h
 refine lq (σ:=((List UInt8)×Int)) (τ:=(List UInt8)) (ν:=(List UInt8)) 0 (fun(s8,s9) a11=>B2 99 [(1,AV.ptr 0 0),(3,sA s8),(22,AV.sl 3 (List.map Ad A5.B4)),(23,iA (((A5.B4.length:Nat):Int))),(24,iA s9)]) (fun(s8,s9) a11=>[Ob.var 26 [iA A5.B8,AV.sl 3 (List.map Ad A5.B4),AV.sl 4 (List.map Ab A5.An),AV.sl 3 (List.map Ac A5.Au)]]) (fun x28 a27=>B2 99 [(1,AV.ptr 0 0),(3,sA x28)]) (fun x28 a27=>[Ob.var 26 [iA A5.B8,AV.sl 3 (List.map Ad A5.B4),AV.sl 4 (List.map Ab A5.An),AV.sl 3 (List.map Ac A5.Au)]]) (fun v=>(sA v,[])) (fun k s=>Ir n A5 k s.1 s.2) (fun s=>rfl) o17 n (((([109,111,100,32]:List UInt8)++y4)++([59,10]:List UInt8)),0) (fun _=>0) ho17 ?_ ?_
 intro k10 ss a11 K12 cont13 hK14 hcont15 h hr16
 obtain⟨s8,s9⟩:=ss
 replace h:Ir n A5 (k10+1) s8 s9=some o17:=h
 rw[Ir] at h
 conv=>lhs;whnf
 revert h
 refine br ?_ ?_
 refine ix ?_;intro x19
 intro h
 refine Ay h ?_;clear h;intro hc20 h
 refine Az hc20 ?_
 try simp only[ls]
 conv=>lhs;whnf
 revert h
 intro h
 refine Ay h ?_;clear h;intro hc21 h
 refine Az hc21 ?_
 try simp only[ls]
 conv=>lhs;whnf
 revert h
 refine ca hc (fun _ h=>Px h) ?_;intro y22
 intro h
 refine Ay h ?_;clear h;intro hc24 h
 refine Az hc24 ?_
 try simp only[ls]
 conv=>lhs;whnf
 revert h
 intro h
 refine Ay h ?_;clear h;intro hc25 h
 refine Az hc25 ?_
 try simp only[ls]
 conv=>lhs;whnf
 revert h
 intro h
 refine Ay h ?_;clear h;intro hc26 h
 refine Az hc26 ?_
 try simp only[ls]
 conv=>lhs;whnf
 revert h
 exact fun h=>cq (hcont15 ((s8++((((([108,111,99,32]:List UInt8)++x19.B5)++([32,61,32]:List UInt8))++y22)++([59,10]:List UInt8))),IntKind.i64.wrap (s9+1)) (fun _=>0) h)
 intro h;cases sj h
 exact kq (hr16 (fun _=>0))
 refine lrc ?_ ?_
 intro v e;subst e;cases sj h;rfl
 intro x28 a27 e;subst e
 dsimp only at h
 conv=>lhs;whnf
 revert h
 intro h;refine Ak h ?_;clear h;intro o38 ho38 h
 refine lq (σ:=((List UInt8)×Int)) (τ:=(List UInt8)) (ν:=(List UInt8)) 2 (fun(s29,s30) a32=>B2 99 [(1,AV.ptr 0 0),(3,sA s29),(41,AV.sl 4 (List.map Ab A5.An)),(42,iA (((A5.An.length:Nat):Int))),(43,iA s30)]) (fun(s29,s30) a32=>[Ob.var 26 [iA A5.B8,AV.sl 3 (List.map Ad A5.B4),AV.sl 4 (List.map Ab A5.An),AV.sl 3 (List.map Ac A5.Au)]]) (fun x73 a72=>B2 99 [(1,AV.ptr 0 0),(3,sA x73)]) (fun x73 a72=>[Ob.var 26 [iA A5.B8,AV.sl 3 (List.map Ad A5.B4),AV.sl 4 (List.map Ab A5.An),AV.sl 3 (List.map Ac A5.Au)]]) (fun v=>(sA v,[])) (fun k s=>Gs n A5 k s.1 s.2) (fun s=>rfl) o38 n (x28,0) (fun _=>0) ho38 ?_ ?_
 intro k31 ss a32 K33 cont34 hK35 hcont36 h hr37
 obtain⟨s29,s30⟩:=ss
 replace h:Gs n A5 (k31+1) s29 s30=some o38:=h
 rw[Gs] at h
 conv=>lhs;whnf
 revert h
 refine br ?_ ?_
 refine ix ?_;intro x40
 intro h
 refine Ay h ?_;clear h;intro hc41 h
 refine Az hc41 ?_
 try simp only[ls]
 conv=>lhs;whnf
 revert h
 intro h
 refine Ay h ?_;clear h;intro hc42 h
 refine Az hc42 ?_
 try simp only[ls]
 conv=>lhs;whnf
 revert h
 intro h
 refine Ay h ?_;clear h;intro hc43 h
 refine Az hc43 ?_
 try simp only[ls]
 conv=>lhs;whnf
 revert h
 intro h;refine Ak h ?_;clear h;intro o54 ho54 h
 refine lq (σ:=((List UInt8)×(List UInt8)×Int)) (τ:=(List UInt8)) (ν:=(List UInt8)) 4 (fun(s44,s45,s46) a48=>B2 99 [(1,AV.ptr 0 0),(3,sA s44),(7,AV.ptr 1 0),(8,sA s45),(41,AV.sl 4 (List.map Ab A5.An)),(42,iA (((A5.An.length:Nat):Int))),(43,iA s30),(54,AV.sl 1 (List.map Aw x40.Bu)),(55,iA (((x40.Bu.length:Nat):Int))),(56,iA s46)]) (fun(s44,s45,s46) a48=>[Ob.var 26 [iA A5.B8,AV.sl 3 (List.map Ad A5.B4),AV.sl 4 (List.map Ab A5.An),AV.sl 3 (List.map Ac A5.Au)],Ob.var 51 [sA x40.B5,AV.sl 1 (List.map Aw x40.Bu),AV.sl 9 (List.map Am x40.A7),iA x40.Bi]]) (fun x60 a59=>B2 99 [(1,AV.ptr 0 0),(3,sA x60),(7,AV.ptr 1 0),(41,AV.sl 4 (List.map Ab A5.An)),(42,iA (((A5.An.length:Nat):Int))),(43,iA s30)]) (fun x60 a59=>[Ob.var 26 [iA A5.B8,AV.sl 3 (List.map Ad A5.B4),AV.sl 4 (List.map Ab A5.An),AV.sl 3 (List.map Ac A5.Au)],Ob.var 51 [sA x40.B5,AV.sl 1 (List.map Aw x40.Bu),AV.sl 9 (List.map Am x40.A7),iA x40.Bi]]) (fun v=>(sA v,[])) (fun k s=>Iw n x40 k s.1 s.2.1 s.2.2) (fun s=>rfl) o54 n ((s29++((([116,104,114,101,97,100,32]:List UInt8)++x40.B5)++([32,123,10]:List UInt8))),([32,32,114,101,103,32]:List UInt8),0) (fun _=>0) ho54 ?_ ?_
 intro k47 ss a48 K49 cont50 hK51 hcont52 h hr53
 obtain⟨s44,s45,s46⟩:=ss
 replace h:Iw n x40 (k47+1) s44 s45 s46=some o54:=h
 rw[Iw] at h
 conv=>lhs;whnf
 revert h
 refine br ?_ ?_
 refine ix ?_;intro x56
 intro h
 refine Ay h ?_;clear h;intro hc57 h
 refine Az hc57 ?_
 try simp only[ls]
 conv=>lhs;whnf
 revert h
 intro h
 refine Ay h ?_;clear h;intro hc58 h
 refine Az hc58 ?_
 try simp only[ls]
 conv=>lhs;whnf
 revert h
 exact fun h=>cq (hcont52 ((s44++(s45++x56)),([44,32]:List UInt8),IntKind.i64.wrap (s46+1)) (fun _=>0) h)
 intro h;cases sj h
 exact kq (hr53 (fun _=>0))
 refine lrc ?_ ?_
 intro v e;subst e;cases sj h;exact hr37
 intro x60 a59 e;subst e
 dsimp only at h
 conv=>lhs;whnf
 revert h
 refine br ?_ ?_
 intro h
 refine Ay h ?_;clear h;intro hc62 h
 refine Az hc62 ?_
 try simp only[ls]
 conv=>lhs;whnf
 revert h
 refine ca hc (fun _ h=>T7 h) ?_;intro y63
 intro h
 refine Ay h ?_;clear h;intro hc65 h
 refine Az hc65 ?_
 try simp only[ls]
 conv=>lhs;whnf
 revert h
 intro h
 refine Ay h ?_;clear h;intro hc66 h
 refine Az hc66 ?_
 try simp only[ls]
 conv=>lhs;whnf
 revert h
 exact fun h=>cq (hcont36 (((x60++([59,10]:List UInt8))++(y63++([125,10]:List UInt8))),IntKind.i64.wrap (s30+1)) (fun _=>0) h)
 refine ca hc (fun _ h=>T7 h) ?_;intro y67
 intro h
 refine Ay h ?_;clear h;intro hc69 h
 refine Az hc69 ?_
 try simp only[ls]
 conv=>lhs;whnf
 revert h
 intro h
 refine Ay h ?_;clear h;intro hc70 h
 refine Az hc70 ?_
 try simp only[ls]
 conv=>lhs;whnf
 revert h
 exact fun h=>cq (hcont36 ((x60++(y67++([125,10]:List UInt8))),IntKind.i64.wrap (s30+1)) (fun _=>0) h)
 intro h;cases sj h
 exact kq (hr37 (fun _=>0))
 refine lrc ?_ ?_
 intro v e;subst e;cases sj h;rfl
 intro x73 a72 e;subst e
 dsimp only at h
 conv=>lhs;whnf
 revert h
 intro h;refine Ak h ?_;clear h;intro o83 ho83 h
 refine lq (σ:=((List UInt8)×Int)) (τ:=(List UInt8)) (ν:=(List UInt8)) 6 (fun(s74,s75) a77=>B2 99 [(3,sA s74),(80,AV.sl 3 (List.map Ac A5.Au)),(81,iA (((A5.Au.length:Nat):Int))),(82,iA s75)]) (fun(s74,s75) a77=>[Ob.var 26 [iA A5.B8,AV.sl 3 (List.map Ad A5.B4),AV.sl 4 (List.map Ab A5.An),AV.sl 3 (List.map Ac A5.Au)]]) (fun x95 a94=>B2 99 [(3,sA x95)]) (fun x95 a94=>[Ob.var 26 [iA A5.B8,AV.sl 3 (List.map Ad A5.B4),AV.sl 4 (List.map Ab A5.An),AV.sl 3 (List.map Ac A5.Au)]]) (fun v=>(sA v,[])) (fun k s=>Ix n A5 k s.1 s.2) (fun s=>rfl) o83 n (x73,0) (fun _=>0) ho83 ?_ ?_
 intro k76 ss a77 K78 cont79 hK80 hcont81 h hr82
 obtain⟨s74,s75⟩:=ss
 replace h:Ix n A5 (k76+1) s74 s75=some o83:=h
 rw[Ix] at h
 conv=>lhs;whnf
 revert h
 refine br ?_ ?_
 refine ix ?_;intro x85
 refine ca hc (fun _ h=>Tf h) ?_;intro y86
 intro h
 refine Ay h ?_;clear h;intro hc88 h
 refine Az hc88 ?_
 try simp only[ls]
 conv=>lhs;whnf
 revert h
 refine ca hc (fun _ h=>Pb h) ?_;intro y89
 intro h
 refine Ay h ?_;clear h;intro hc91 h
 refine Az hc91 ?_
 try simp only[ls]
 conv=>lhs;whnf
 revert h
 intro h
 refine Ay h ?_;clear h;intro hc92 h
 refine Az hc92 ?_
 try simp only[ls]
 conv=>lhs;whnf
 revert h
 intro h
 refine Ay h ?_;clear h;intro hc93 h
 refine Az hc93 ?_
 try simp only[ls]
 conv=>lhs;whnf
 revert h
 exact fun h=>cq (hcont81 ((s74++(((y86++([32]:List UInt8))++y89)++([59,10]:List UInt8))),IntKind.i64.wrap (s75+1)) (fun _=>0) h)
 intro h;cases sj h
 exact kq (hr82 (fun _=>0))
 refine lrc ?_ ?_
 intro v e;subst e;cases sj h;rfl
 intro x95 a94 e;subst e
 dsimp only at h
 conv=>lhs;whnf
 revert h
 exact rz
 exact rz
theorem A15 {n:Nat} ⦃r:((List (List UInt8))×(List (List UInt8))×Bool×(List (List UInt8))×(List (List UInt8))×Bool×(List (List UInt8))×(List (List UInt8))×Bool×(List (List UInt8))×(List (List UInt8))×Bool)⦄:Qb n=some r→CN n 8 [] []=some (AV.sl 4 [[AV.sl 1 (List.map Aw r.1),AV.sl 1 (List.map Aw r.2.1),AV.nilf,bA r.2.2.1],[AV.sl 1 (List.map Aw r.2.2.2.1),AV.sl 1 (List.map Aw r.2.2.2.2.1),AV.func 20 [] [],bA r.2.2.2.2.2.1],[AV.sl 1 (List.map Aw r.2.2.2.2.2.2.1),AV.sl 1 (List.map Aw r.2.2.2.2.2.2.2.1),AV.func 23 [] [],bA r.2.2.2.2.2.2.2.2.1],[AV.sl 1 (List.map Aw r.2.2.2.2.2.2.2.2.2.1),AV.sl 1 (List.map Aw r.2.2.2.2.2.2.2.2.2.2.1),AV.func 24 [] [],bA r.2.2.2.2.2.2.2.2.2.2.2]],[]):=by
 intro h;rcases n with _|n;cases h
 rw[Qb] at h
 refine Ah Try.func8 (by rfl) rfl rfl (As rfl) ?_
 intro call hc;conv=>lhs;whnf
 revert h
 exact rz
theorem C5 {n:Nat} ⦃B9:Int⦄ ⦃r:(List A3)⦄:C7 n B9=some r→CN n 11 [iA B9] []=some (AV.sl 5 (List.map A8 r),[]):=by
 intro h;rcases n with _|n;cases h
 rw[C7] at h
 refine Ah Try.func11 (by rfl) rfl rfl (As rfl) ?_
 intro call hc;conv=>lhs;whnf
 revert h
 exact rz
theorem Nq {n:Nat} ⦃Jf:(List UInt8)⦄ ⦃r:(List A3)⦄:Kp n Jf=some r→CN n 21 [sA Jf] []=some (AV.sl 5 (List.map A8 r),[]):=by
 intro h;rcases n with _|n;cases h
 rw[Kp] at h
 refine Ah Try.func21 (by rfl) rfl rfl (As rfl) ?_
 intro call hc;conv=>lhs;whnf
 revert h
 exact rz
theorem Cm {n:Nat} ⦃Bz:Int⦄ ⦃Nj:(List A3)⦄ ⦃Ry:(List A3)⦄ ⦃r:(List A3)⦄:Cn n Bz Nj Ry=some r→CN n 10 [iA Bz,AV.sl 5 (List.map A8 Nj),AV.sl 5 (List.map A8 Ry)] []=some (AV.sl 5 (List.map A8 r),[]):=by
 intro h;rcases n with _|n;cases h
 rw[Cn] at h
 refine Ah Try.func10 (by rfl) rfl rfl (As rfl) ?_
 intro call hc;conv=>lhs;whnf
 revert h
 refine ar (ap A8 ([[iA Bz,iA (0),sA (([]:List UInt8)),sA (([]:List UInt8)),iA (0)]]) ([(⟨Bz,0,([]:List UInt8),([]:List UInt8),0⟩:A3)]:List A3) (List.map A8 Nj) Nj) ?_
 refine ar (ap A8 (List.map A8 (([(⟨Bz,0,([]:List UInt8),([]:List UInt8),0⟩:A3)]:List A3)++Nj)) (([(⟨Bz,0,([]:List UInt8),([]:List UInt8),0⟩:A3)]:List A3)++Nj) (List.map A8 Ry) Ry) ?_
 intro h;cases sj h
 try simp only[ls]
 exact fq (y:=some (AV.sl 5 (List.take (List.length (((([(⟨Bz,0,([]:List UInt8),([]:List UInt8),0⟩:A3)]:List A3)++Nj)++Ry))) (List.map A8 ((([(⟨Bz,0,([]:List UInt8),([]:List UInt8),0⟩:A3)]:List A3)++Nj)++Ry))),[]))
theorem T9 {n:Nat} ⦃Qj:(List UInt8)⦄ ⦃Jg:(List A6)⦄ ⦃r:(List A6)⦄:Mg n Qj Jg=some r→CN n 22 [sA Qj,AV.sl 9 (List.map Am Jg)] []=some (AV.sl 9 (List.map Am r),[]):=by
 intro h;rcases n with _|n;cases h
 rw[Mg] at h
 refine Ah Try.func22 (by rfl) rfl rfl (As rfl) ?_
 intro call hc;conv=>lhs;whnf
 revert h
 refine ca hc (fun _ h=>C5 h) ?_;intro y1
 refine ca hc (fun _ h=>Nq h) ?_;intro y3
 refine ca hc (fun _ h=>C5 h) ?_;intro y5
 refine ca hc (fun _ h=>Cm h) ?_;intro y7
 refine ca hc (fun _ h=>C5 h) ?_;intro y9
 refine ar (ap Am ([[iA (2),sA (([99,115]:List UInt8)),sA (([]:List UInt8)),AV.sl 5 (List.map A8 y1),AV.sl 5 [],bA false,iA (0),iA (0),iA (0)],[iA (3),sA Qj,sA (([99]:List UInt8)),AV.sl 5 [],AV.sl 5 [],bA false,iA (0),iA (0),iA (0)],[iA (4),sA (([]:List UInt8)),sA (([99]:List UInt8)),AV.sl 5 (List.map A8 y7),AV.sl 5 [],bA false,iA (0),iA (0),iA (0)],[iA (2),sA (([99,115]:List UInt8)),sA (([]:List UInt8)),AV.sl 5 (List.map A8 y9),AV.sl 5 [],bA false,iA (0),iA (0),iA (0)],[iA (8),sA (([]:List UInt8)),sA (([]:List UInt8)),AV.sl 5 [],AV.sl 5 [],bA false,iA (0),iA (0),iA (0)]]) ([(⟨2,([99,115]:List UInt8),([]:List UInt8),y1,([]:List A3),false,0,0,0⟩:A6),(⟨3,Qj,([99]:List UInt8),([]:List A3),([]:List A3),false,0,0,0⟩:A6),(⟨4,([]:List UInt8),([99]:List UInt8),y7,([]:List A3),false,0,0,0⟩:A6),(⟨2,([99,115]:List UInt8),([]:List UInt8),y9,([]:List A3),false,0,0,0⟩:A6),(⟨8,([]:List UInt8),([]:List UInt8),([]:List A3),([]:List A3),false,0,0,0⟩:A6)]:List A6) (List.map Am Jg) Jg) ?_
 intro h;cases sj h
 try simp only[ls]
 exact fq (y:=some (AV.sl 9 (List.take (List.length ((([(⟨2,([99,115]:List UInt8),([]:List UInt8),y1,([]:List A3),false,0,0,0⟩:A6),(⟨3,Qj,([99]:List UInt8),([]:List A3),([]:List A3),false,0,0,0⟩:A6),(⟨4,([]:List UInt8),([99]:List UInt8),y7,([]:List A3),false,0,0,0⟩:A6),(⟨2,([99,115]:List UInt8),([]:List UInt8),y9,([]:List A3),false,0,0,0⟩:A6),(⟨8,([]:List UInt8),([]:List UInt8),([]:List A3),([]:List A3),false,0,0,0⟩:A6)]:List A6)++Jg))) (List.map Am (([(⟨2,([99,115]:List UInt8),([]:List UInt8),y1,([]:List A3),false,0,0,0⟩:A6),(⟨3,Qj,([99]:List UInt8),([]:List A3),([]:List A3),false,0,0,0⟩:A6),(⟨4,([]:List UInt8),([99]:List UInt8),y7,([]:List A3),false,0,0,0⟩:A6),(⟨2,([99,115]:List UInt8),([]:List UInt8),y9,([]:List A3),false,0,0,0⟩:A6),(⟨8,([]:List UInt8),([]:List UInt8),([]:List A3),([]:List A3),false,0,0,0⟩:A6)]:List A6)++Jg))),[]))
theorem X5 {n:Nat} ⦃v0_:Int⦄ ⦃r:(List A6)⦄:N4 n v0_=some r→CN n 20 [iA v0_] []=some (AV.sl 9 (List.map Am r),[]):=by
 intro h;rcases n with _|n;cases h
 rw[N4] at h
 refine Ah Try.func20 (by rfl) rfl rfl (As rfl) ?_
 intro call hc;conv=>lhs;whnf
 revert h
 refine ca hc (fun _ h=>C5 h) ?_;intro y1
 refine ca hc (fun _ h=>Nq h) ?_;intro y3
 refine ca hc (fun _ h=>C5 h) ?_;intro y5
 refine ca hc (fun _ h=>Cm h) ?_;intro y7
 refine ca hc (fun _ h=>C5 h) ?_;intro y9
 refine ca hc (fun _ h=>C5 h) ?_;intro y11
 refine cr hc (fun y13 h=>(show CN n 22 [sA (([97]:List UInt8)),AV.sl 9 [[iA (4),sA (([]:List UInt8)),sA (([108]:List UInt8)),AV.sl 5 (List.map A8 y11),AV.sl 5 [],bA false,iA (0),iA (0),iA (0)]]] []=some (AV.sl 9 (List.map Am y13),[]) from T9 (r:=y13) h)) ?_;intro y13
 refine ar (ap Am ([[iA (2),sA (([97]:List UInt8)),sA (([]:List UInt8)),AV.sl 5 (List.map A8 y1),AV.sl 5 [],bA false,iA (0),iA (0),iA (0)],[iA (11),sA (([]:List UInt8)),sA (([]:List UInt8)),AV.sl 5 (List.map A8 y7),AV.sl 5 [],bA false,iA (1),iA (0),iA (0)],[iA (7),sA (([97]:List UInt8)),sA (([108]:List UInt8)),AV.sl 5 (List.map A8 y9),AV.sl 5 [],bA false,iA (0),iA (0),iA (0)]]) ([(⟨2,([97]:List UInt8),([]:List UInt8),y1,([]:List A3),false,0,0,0⟩:A6),(⟨11,([]:List UInt8),([]:List UInt8),y7,([]:List A3),false,1,0,0⟩:A6),(⟨7,([97]:List UInt8),([108]:List UInt8),y9,([]:List A3),false,0,0,0⟩:A6)]:List A6) (List.map Am y13) y13) ?_
 intro h;cases sj h
 try simp only[ls]
 exact fq (y:=some (AV.sl 9 (List.take (List.length ((([(⟨2,([97]:List UInt8),([]:List UInt8),y1,([]:List A3),false,0,0,0⟩:A6),(⟨11,([]:List UInt8),([]:List UInt8),y7,([]:List A3),false,1,0,0⟩:A6),(⟨7,([97]:List UInt8),([108]:List UInt8),y9,([]:List A3),false,0,0,0⟩:A6)]:List A6)++y13))) (List.map Am (([(⟨2,([97]:List UInt8),([]:List UInt8),y1,([]:List A3),false,0,0,0⟩:A6),(⟨11,([]:List UInt8),([]:List UInt8),y7,([]:List A3),false,1,0,0⟩:A6),(⟨7,([97]:List UInt8),([108]:List UInt8),y9,([]:List A3),false,0,0,0⟩:A6)]:List A6)++y13))),[]))
theorem Xd {n:Nat} ⦃v0_:Int⦄ ⦃r:(List A6)⦄:N2 n v0_=some r→CN n 23 [iA v0_] []=some (AV.sl 9 (List.map Am r),[]):=by
 intro h;rcases n with _|n;cases h
 rw[N2] at h
 refine Ah Try.func23 (by rfl) rfl rfl (As rfl) ?_
 intro call hc;conv=>lhs;whnf
 revert h
 refine ca hc (fun _ h=>C5 h) ?_;intro y1
 refine ca hc (fun _ h=>Nq h) ?_;intro y3
 refine ca hc (fun _ h=>Nq h) ?_;intro y5
 refine ca hc (fun _ h=>C5 h) ?_;intro y7
 refine ca hc (fun _ h=>Cm h) ?_;intro y9
 refine cr hc (fun y11 h=>(show CN n 22 [sA (([98]:List UInt8)),AV.sl 9 [[iA (4),sA (([]:List UInt8)),sA (([110,111,119]:List UInt8)),AV.sl 5 (List.map A8 y9),AV.sl 5 [],bA false,iA (0),iA (0),iA (0)]]] []=some (AV.sl 9 (List.map Am y11),[]) from T9 (r:=y11) h)) ?_;intro y11
 refine ar (ap Am ([[iA (6),sA (([97]:List UInt8)),sA (([110,101,120,116]:List UInt8)),AV.sl 5 (List.map A8 y1),AV.sl 5 [],bA false,iA (0),iA (0),iA (0)],[iA (9),sA (([]:List UInt8)),sA (([110,111,119]:List UInt8)),AV.sl 5 (List.map A8 y3),AV.sl 5 [],bA false,iA (0),iA (0),iA (0)]]) ([(⟨6,([97]:List UInt8),([110,101,120,116]:List UInt8),y1,([]:List A3),false,0,0,0⟩:A6),(⟨9,([]:List UInt8),([110,111,119]:List UInt8),y3,([]:List A3),false,0,0,0⟩:A6)]:List A6) (List.map Am y11) y11) ?_
 intro h;cases sj h
 try simp only[ls]
 exact fq (y:=some (AV.sl 9 (List.take (List.length ((([(⟨6,([97]:List UInt8),([110,101,120,116]:List UInt8),y1,([]:List A3),false,0,0,0⟩:A6),(⟨9,([]:List UInt8),([110,111,119]:List UInt8),y3,([]:List A3),false,0,0,0⟩:A6)]:List A6)++y11))) (List.map Am (([(⟨6,([97]:List UInt8),([110,101,120,116]:List UInt8),y1,([]:List A3),false,0,0,0⟩:A6),(⟨9,([]:List UInt8),([110,111,119]:List UInt8),y3,([]:List A3),false,0,0,0⟩:A6)]:List A6)++y11))),[]))
theorem Wy {n:Nat} ⦃B9:Int⦄ ⦃r:(List A6)⦄:Nb n B9=some r→CN n 24 [iA B9] []=some (AV.sl 9 (List.map Am r),[]):=by
 intro h;rcases n with _|n;cases h
 rw[Nb] at h
 refine Ah Try.func24 (by rfl) rfl rfl (As rfl) ?_
 intro call hc;conv=>lhs;whnf
 revert h
 refine ca hc (fun _ h=>C5 h) ?_;intro y1
 refine ca hc (fun _ h=>C5 h) ?_;intro y3
 exact rz
theorem G9 {n:Nat} ⦃Jf:(List UInt8)⦄ ⦃r:(List A3)⦄:F8 n Jf=some r→CN n 12 [sA Jf] []=some (AV.sl 5 (List.map A8 r),[]):=by
 intro h;rcases n with _|n;cases h
 rw[F8] at h
 refine Ah Try.func12 (by rfl) rfl rfl (As rfl) ?_
 intro call hc;conv=>lhs;whnf
 revert h
 exact rz
theorem T4 {n:Nat} ⦃Q2:(List UInt8)⦄ ⦃Er:(List UInt8)⦄ ⦃r:(List A3)⦄:P2 n Q2 Er=some r→CN n 9 [sA Q2,sA Er] []=some (AV.sl 5 (List.map A8 r),[]):=by
 intro h;rcases n with _|n;cases h
 rw[P2] at h
 refine Ah Try.func9 (by rfl) rfl rfl (As rfl) ?_
 intro call hc;conv=>lhs;whnf
 revert h
 exact rz
theorem Jj {n:Nat} ⦃D9:Int⦄ ⦃C0:Int⦄ ⦃C2:Int⦄ ⦃r:(Aq×Int)⦄:Ev n D9 C0 C2=some r→CN n 4 [iA D9,iA C0,iA C2] []=some (AV.tup [AV.agg [iA r.1.B8,AV.sl 3 (List.map Ad r.1.B4),AV.sl 4 (List.map Ab r.1.An),AV.sl 3 (List.map Ac r.1.Au)],iA r.2],[]):=by
 intro h;rcases n with _|n;cases h
 rw[Ev] at h
 refine Ah Try.func4 (by rfl) rfl rfl (As rfl) ?_
 intro call hc;conv=>lhs;whnf
 revert h
 refine ca hc (fun _ h=>A15 h) ?_;intro y1
 refine br ?_ ?_
 exact rz
 intro h
 have hl269:((List.length ([[AV.sl 1 (List.map Aw y1.1),AV.sl 1 (List.map Aw y1.2.1),AV.nilf,bA y1.2.2.1],[AV.sl 1 (List.map Aw y1.2.2.2.1),AV.sl 1 (List.map Aw y1.2.2.2.2.1),AV.func 20 [] [],bA y1.2.2.2.2.2.1],[AV.sl 1 (List.map Aw y1.2.2.2.2.2.2.1),AV.sl 1 (List.map Aw y1.2.2.2.2.2.2.2.1),AV.func 23 [] [],bA y1.2.2.2.2.2.2.2.2.1],[AV.sl 1 (List.map Aw y1.2.2.2.2.2.2.2.2.2.1),AV.sl 1 (List.map Aw y1.2.2.2.2.2.2.2.2.2.2.1),AV.func 24 [] [],bA y1.2.2.2.2.2.2.2.2.2.2.2]]:List (List AV)):Nat):Int)=4:=rfl
 try simp only[hl269]
 conv=>lhs;whnf
 revert h
 refine br ?_ ?_
 exact rz
 refine br ?_ ?_
 exact rz
 refine br ?_ ?_
 exact rz
 refine br ?_ ?_
 exact rz
 refine br ?_ ?_
 exact rz
 refine il (fun hi9=>?_) ?_
 intro h
 refine Az (by rw[hi9];rfl) ?_
 simp only[(show nth? ([[AV.sl 1 (List.map Aw y1.1),AV.sl 1 (List.map Aw y1.2.1),AV.nilf,bA y1.2.2.1],[AV.sl 1 (List.map Aw y1.2.2.2.1),AV.sl 1 (List.map Aw y1.2.2.2.2.1),AV.func 20 [] [],bA y1.2.2.2.2.2.1],[AV.sl 1 (List.map Aw y1.2.2.2.2.2.2.1),AV.sl 1 (List.map Aw y1.2.2.2.2.2.2.2.1),AV.func 23 [] [],bA y1.2.2.2.2.2.2.2.2.1],[AV.sl 1 (List.map Aw y1.2.2.2.2.2.2.2.2.2.1),AV.sl 1 (List.map Aw y1.2.2.2.2.2.2.2.2.2.2.1),AV.func 24 [] [],bA y1.2.2.2.2.2.2.2.2.2.2.2]]:List (List AV)) D9.toNat=some [AV.sl 1 (List.map Aw y1.1),AV.sl 1 (List.map Aw y1.2.1),AV.nilf,bA y1.2.2.1] from by rw[hi9];rfl),ls]
 conv=>lhs;whnf
 revert h
 intro h;refine Ak h ?_;clear h;intro o19 ho19 h
 refine lq (σ:=(Int×(List Ao))) (τ:=(List Ao)) (ν:=(Aq×Int)) 0 (fun(s10,s11) a13=>B2 119 [(1,iA C0),(6,AV.ptr 0 0),(9,AV.ptr 1 0),(10,AV.ptr 2 0),(51,AV.sl 1 (List.map Aw y1.1)),(52,iA (((y1.1.length:Nat):Int))),(53,iA s10)]) (fun(s10,s11) a13=>[Ob.var 26 [iA (0),AV.row 3 (List.length (([]:List Ao))),AV.row 4 (List.length (([]:List Aa))),AV.row 5 (List.length (([]:List A2)))],Ob.var 45 [AV.sl 1 (List.map Aw y1.1),AV.sl 1 (List.map Aw y1.2.1),AV.nilf,bA y1.2.2.1],Ob.var 26 [iA C2,AV.row 6 (List.length s11),AV.row 7 (List.length (([]:List Aa))),AV.row 8 (List.length (([]:List A2)))],Ob.row 47 3 ([]),Ob.row 51 4 ([]),Ob.row 56 3 ([]),Ob.row 47 3 (List.map Ad s11),Ob.row 51 4 ([]),Ob.row 56 3 ([])]) (fun x25 a24=>B2 119 [(1,iA C0),(6,AV.ptr 0 0),(9,AV.ptr 1 0),(10,AV.ptr 2 0)]) (fun x25 a24=>[Ob.var 26 [iA (0),AV.row 3 (List.length (([]:List Ao))),AV.row 4 (List.length (([]:List Aa))),AV.row 5 (List.length (([]:List A2)))],Ob.var 45 [AV.sl 1 (List.map Aw y1.1),AV.sl 1 (List.map Aw y1.2.1),AV.nilf,bA y1.2.2.1],Ob.var 26 [iA C2,AV.row 6 (List.length x25),AV.row 7 (List.length (([]:List Aa))),AV.row 8 (List.length (([]:List A2)))],Ob.row 47 3 ([]),Ob.row 51 4 ([]),Ob.row 56 3 ([]),Ob.row 47 3 (List.map Ad x25),Ob.row 51 4 ([]),Ob.row 56 3 ([])]) (fun v=>(AV.tup [AV.agg [iA v.1.B8,AV.sl 3 (List.map Ad v.1.B4),AV.sl 4 (List.map Ab v.1.An),AV.sl 3 (List.map Ac v.1.Au)],iA v.2],[])) (fun k s=>Jw n y1 k s.1 s.2) (fun s=>rfl) o19 n (0,([]:List Ao)) (fun _=>0) ho19 ?_ ?_
 intro k12 ss a13 K14 cont15 hK16 hcont17 h hr18
 obtain⟨s10,s11⟩:=ss
 replace h:Jw n y1 (k12+1) s10 s11=some o19:=h
 rw[Jw] at h
 conv=>lhs;whnf
 revert h
 refine br ?_ ?_
 refine ix ?_;intro x21
 refine ar (ap Ad (List.map Ad s11) s11 ([[sA x21,iA (0),iA (0)]]) ([(⟨x21,0,0⟩:Ao)]:List Ao)) ?_
 exact fun h=>cq (hcont17 (IntKind.i64.wrap (s10+1),(s11++([(⟨x21,0,0⟩:Ao)]:List Ao))) (fun _=>0) h)
 intro h;cases sj h
 exact kq (hr18 (fun _=>0))
 refine lrc ?_ ?_
 intro v e;subst e;cases sj h;rfl
 intro x25 a24 e;subst e
 dsimp only at h
 conv=>lhs;whnf
 revert h
 intro h;refine Ak h ?_;clear h;intro o33 ho33 h
 refine lq (σ:=Unit) (τ:=Unit) (ν:=(Aq×Int)) 2 (fun _ a27=>B2 119 [(1,iA C0),(6,AV.ptr 0 0),(9,AV.ptr 1 0),(10,AV.ptr 2 0),(13,AV.sl 5 []),(65,iA C0),(66,iA (0))]) (fun _ a27=>[Ob.var 26 [iA (0),AV.row 3 (List.length (([]:List Ao))),AV.row 4 (List.length (([]:List Aa))),AV.row 5 (List.length (([]:List A2)))],Ob.var 45 [AV.sl 1 (List.map Aw y1.1),AV.sl 1 (List.map Aw y1.2.1),AV.nilf,bA y1.2.2.1],Ob.var 26 [iA C2,AV.row 6 (List.length x25),AV.row 7 (List.length (([]:List Aa))),AV.row 8 (List.length (([]:List A2)))],Ob.row 47 3 ([]),Ob.row 51 4 ([]),Ob.row 56 3 ([]),Ob.row 47 3 (List.map Ad x25),Ob.row 51 4 ([]),Ob.row 56 3 ([])]) (fun _ a36=>B2 119 [(1,iA C0),(6,AV.ptr 0 0),(9,AV.ptr 1 0),(10,AV.ptr 2 0),(13,AV.sl 5 [])]) (fun _ a36=>[Ob.var 26 [iA (0),AV.row 3 (List.length (([]:List Ao))),AV.row 4 (List.length (([]:List Aa))),AV.row 5 (List.length (([]:List A2)))],Ob.var 45 [AV.sl 1 (List.map Aw y1.1),AV.sl 1 (List.map Aw y1.2.1),AV.nilf,bA y1.2.2.1],Ob.var 26 [iA C2,AV.row 6 (List.length x25),AV.row 7 (List.length (([]:List Aa))),AV.row 8 (List.length (([]:List A2)))],Ob.row 47 3 ([]),Ob.row 51 4 ([]),Ob.row 56 3 ([]),Ob.row 47 3 (List.map Ad x25),Ob.row 51 4 ([]),Ob.row 56 3 ([])]) (fun v=>(AV.tup [AV.agg [iA v.1.B8,AV.sl 3 (List.map Ad v.1.B4),AV.sl 4 (List.map Ab v.1.An),AV.sl 3 (List.map Ac v.1.Au)],iA v.2],[])) (fun k s=>Mm n C0 k) (fun s=>rfl) o33 n () (fun _=>0) ho33 ?_ ?_
 intro k26 ss a27 K28 cont29 hK30 hcont31 h hr32
 replace h:Mm n C0 (k26+1)=some o33:=h
 rw[Mm] at h
 conv=>lhs;whnf
 revert h
 refine bf ?_
 intro h;cases sj h
 exact kq (hr32 (fun _=>0))
 refine lrc ?_ ?_
 intro v e;subst e;cases sj h;rfl
 intro t a36 e;subst e
 dsimp only at h
 conv=>lhs;whnf
 revert h
 refine br ?_ ?_
 refine ca hc (fun _ h=>C5 h) ?_;intro y38
 refine cr hc (fun y40 h=>(show CN n 10 [iA (12),AV.sl 5 [],AV.sl 5 (List.map A8 y38)] []=some (AV.sl 5 (List.map A8 y40),[]) from Cm (r:=y40) h)) ?_;intro y40
 refine ao (ap Ac ([]) ([]:List A2) ([[iA (3),AV.sl 5 (List.map A8 y40),iA (0)]]) ([(⟨3,y40,0⟩:A2)]:List A2)) ?_
 refine ca hc (fun _ h=>G9 h) ?_;intro y44
 refine ca hc (fun _ h=>C5 h) ?_;intro y46
 refine ca hc (fun _ h=>Cm h) ?_;intro y48
 refine ar (ap Ac (List.map Ac (([]:List A2)++([(⟨3,y40,0⟩:A2)]:List A2))) (([]:List A2)++([(⟨3,y40,0⟩:A2)]:List A2)) ([[iA (1),AV.sl 5 (List.map A8 y48),iA (0)]]) ([(⟨1,y48,0⟩:A2)]:List A2)) ?_
 intro h;cases sj h
 try simp only[ls]
 exact fq (y:=some (AV.tup [AV.agg [iA C2,AV.sl 3 (List.take (List.length x25) (List.map Ad x25)),AV.sl 4 (List.take (List.length (([]:List Aa))) ([])),AV.sl 3 (List.take (List.length (((([]:List A2)++([(⟨3,y40,0⟩:A2)]:List A2))++([(⟨1,y48,0⟩:A2)]:List A2)))) (List.map Ac ((([]:List A2)++([(⟨3,y40,0⟩:A2)]:List A2))++([(⟨1,y48,0⟩:A2)]:List A2))))],iA (0)],[]))
 refine ca hc (fun _ h=>G9 h) ?_;intro y52
 refine ca hc (fun _ h=>C5 h) ?_;intro y54
 refine ca hc (fun _ h=>Cm h) ?_;intro y56
 refine ao (ap Ac ([]) ([]:List A2) ([[iA (1),AV.sl 5 (List.map A8 y56),iA (0)]]) ([(⟨1,y56,0⟩:A2)]:List A2)) ?_
 intro h;cases sj h
 try simp only[ls]
 exact fq (y:=some (AV.tup [AV.agg [iA C2,AV.sl 3 (List.take (List.length x25) (List.map Ad x25)),AV.sl 4 (List.take (List.length (([]:List Aa))) ([])),AV.sl 3 (List.take (List.length ((([]:List A2)++([(⟨1,y56,0⟩:A2)]:List A2)))) (List.map Ac (([]:List A2)++([(⟨1,y56,0⟩:A2)]:List A2))))],iA (0)],[]))
 refine il (fun hi62=>?_) ?_
 intro h
 refine Az (by rw[hi62];rfl) ?_
 simp only[(show nth? ([[AV.sl 1 (List.map Aw y1.1),AV.sl 1 (List.map Aw y1.2.1),AV.nilf,bA y1.2.2.1],[AV.sl 1 (List.map Aw y1.2.2.2.1),AV.sl 1 (List.map Aw y1.2.2.2.2.1),AV.func 20 [] [],bA y1.2.2.2.2.2.1],[AV.sl 1 (List.map Aw y1.2.2.2.2.2.2.1),AV.sl 1 (List.map Aw y1.2.2.2.2.2.2.2.1),AV.func 23 [] [],bA y1.2.2.2.2.2.2.2.2.1],[AV.sl 1 (List.map Aw y1.2.2.2.2.2.2.2.2.2.1),AV.sl 1 (List.map Aw y1.2.2.2.2.2.2.2.2.2.2.1),AV.func 24 [] [],bA y1.2.2.2.2.2.2.2.2.2.2.2]]:List (List AV)) D9.toNat=some [AV.sl 1 (List.map Aw y1.2.2.2.1),AV.sl 1 (List.map Aw y1.2.2.2.2.1),AV.func 20 [] [],bA y1.2.2.2.2.2.1] from by rw[hi62];rfl),ls]
 conv=>lhs;whnf
 revert h
 intro h;refine Ak h ?_;clear h;intro o72 ho72 h
 refine lq (σ:=(Int×(List Ao))) (τ:=(List Ao)) (ν:=(Aq×Int)) 0 (fun(s63,s64) a66=>B2 119 [(1,iA C0),(6,AV.ptr 0 0),(9,AV.ptr 1 0),(10,AV.ptr 2 0),(51,AV.sl 1 (List.map Aw y1.2.2.2.1)),(52,iA (((y1.2.2.2.1.length:Nat):Int))),(53,iA s63)]) (fun(s63,s64) a66=>[Ob.var 26 [iA (0),AV.row 3 (List.length (([]:List Ao))),AV.row 4 (List.length (([]:List Aa))),AV.row 5 (List.length (([]:List A2)))],Ob.var 45 [AV.sl 1 (List.map Aw y1.2.2.2.1),AV.sl 1 (List.map Aw y1.2.2.2.2.1),AV.func 20 [] [],bA y1.2.2.2.2.2.1],Ob.var 26 [iA C2,AV.row 6 (List.length s64),AV.row 7 (List.length (([]:List Aa))),AV.row 8 (List.length (([]:List A2)))],Ob.row 47 3 ([]),Ob.row 51 4 ([]),Ob.row 56 3 ([]),Ob.row 47 3 (List.map Ad s64),Ob.row 51 4 ([]),Ob.row 56 3 ([])]) (fun x78 a77=>B2 119 [(1,iA C0),(6,AV.ptr 0 0),(9,AV.ptr 1 0),(10,AV.ptr 2 0)]) (fun x78 a77=>[Ob.var 26 [iA (0),AV.row 3 (List.length (([]:List Ao))),AV.row 4 (List.length (([]:List Aa))),AV.row 5 (List.length (([]:List A2)))],Ob.var 45 [AV.sl 1 (List.map Aw y1.2.2.2.1),AV.sl 1 (List.map Aw y1.2.2.2.2.1),AV.func 20 [] [],bA y1.2.2.2.2.2.1],Ob.var 26 [iA C2,AV.row 6 (List.length x78),AV.row 7 (List.length (([]:List Aa))),AV.row 8 (List.length (([]:List A2)))],Ob.row 47 3 ([]),Ob.row 51 4 ([]),Ob.row 56 3 ([]),Ob.row 47 3 (List.map Ad x78),Ob.row 51 4 ([]),Ob.row 56 3 ([])]) (fun v=>(AV.tup [AV.agg [iA v.1.B8,AV.sl 3 (List.map Ad v.1.B4),AV.sl 4 (List.map Ab v.1.An),AV.sl 3 (List.map Ac v.1.Au)],iA v.2],[])) (fun k s=>Jv n y1 k s.1 s.2) (fun s=>rfl) o72 n (0,([]:List Ao)) (fun _=>0) ho72 ?_ ?_
 intro k65 ss a66 K67 cont68 hK69 hcont70 h hr71
 obtain⟨s63,s64⟩:=ss
 replace h:Jv n y1 (k65+1) s63 s64=some o72:=h
 rw[Jv] at h
 conv=>lhs;whnf
 revert h
 refine br ?_ ?_
 refine ix ?_;intro x74
 refine ar (ap Ad (List.map Ad s64) s64 ([[sA x74,iA (0),iA (0)]]) ([(⟨x74,0,0⟩:Ao)]:List Ao)) ?_
 exact fun h=>cq (hcont70 (IntKind.i64.wrap (s63+1),(s64++([(⟨x74,0,0⟩:Ao)]:List Ao))) (fun _=>0) h)
 intro h;cases sj h
 exact kq (hr71 (fun _=>0))
 refine lrc ?_ ?_
 intro v e;subst e;cases sj h;rfl
 intro x78 a77 e;subst e
 dsimp only at h
 conv=>lhs;whnf
 revert h
 intro h;refine Ak h ?_;clear h;intro o89 ho89 h
 refine lq (σ:=((List A3)×Int×(List Aa))) (τ:=((List A3)×(List Aa))) (ν:=(Aq×Int)) 2 (fun(s79,s80,s81) a83=>B2 119 [(1,iA C0),(6,AV.ptr 0 0),(9,AV.ptr 1 0),(10,AV.ptr 2 0),(13,AV.sl 5 (List.map A8 s79)),(65,iA C0),(66,iA s80)]) (fun(s79,s80,s81) a83=>[Ob.var 26 [iA (0),AV.row 3 (List.length (([]:List Ao))),AV.row 4 (List.length (([]:List Aa))),AV.row 5 (List.length (([]:List A2)))],Ob.var 45 [AV.sl 1 (List.map Aw y1.2.2.2.1),AV.sl 1 (List.map Aw y1.2.2.2.2.1),AV.func 20 [] [],bA y1.2.2.2.2.2.1],Ob.var 26 [iA C2,AV.row 6 (List.length x78),AV.row 7 (List.length s81),AV.row 8 (List.length (([]:List A2)))],Ob.row 47 3 ([]),Ob.row 51 4 ([]),Ob.row 56 3 ([]),Ob.row 47 3 (List.map Ad x78),Ob.row 51 4 (List.map Ab s81),Ob.row 56 3 ([])]) (fun(x104,x105) a103=>B2 119 [(1,iA C0),(6,AV.ptr 0 0),(9,AV.ptr 1 0),(10,AV.ptr 2 0),(13,AV.sl 5 (List.map A8 x104))]) (fun(x104,x105) a103=>[Ob.var 26 [iA (0),AV.row 3 (List.length (([]:List Ao))),AV.row 4 (List.length (([]:List Aa))),AV.row 5 (List.length (([]:List A2)))],Ob.var 45 [AV.sl 1 (List.map Aw y1.2.2.2.1),AV.sl 1 (List.map Aw y1.2.2.2.2.1),AV.func 20 [] [],bA y1.2.2.2.2.2.1],Ob.var 26 [iA C2,AV.row 6 (List.length x78),AV.row 7 (List.length x105),AV.row 8 (List.length (([]:List A2)))],Ob.row 47 3 ([]),Ob.row 51 4 ([]),Ob.row 56 3 ([]),Ob.row 47 3 (List.map Ad x78),Ob.row 51 4 (List.map Ab x105),Ob.row 56 3 ([])]) (fun v=>(AV.tup [AV.agg [iA v.1.B8,AV.sl 3 (List.map Ad v.1.B4),AV.sl 4 (List.map Ab v.1.An),AV.sl 3 (List.map Ac v.1.Au)],iA v.2],[])) (fun k s=>I6 n C0 y1 k s.1 s.2.1 s.2.2) (fun s=>rfl) o89 n (([]:List A3),0,([]:List Aa)) (fun _=>0) ho89 ?_ ?_
 intro k82 ss a83 K84 cont85 hK86 hcont87 h hr88
 obtain⟨s79,s80,s81⟩:=ss
 replace h:I6 n C0 y1 (k82+1) s79 s80 s81=some o89:=h
 rw[I6] at h
 conv=>lhs;whnf
 revert h
 refine br ?_ ?_
 refine cp ?_
 intro h
 refine Ay h ?_;clear h;intro hc92 h
 first|refine Az hc92 ?_|skip
 try simp only[ls]
 conv=>lhs;whnf
 revert h
 refine cn ?_
 refine ca hc (fun _ h=>X5 h) ?_;intro y94
 refine ar (ap Ab (List.map Ab s81) s81 ([[sA ((([116]:List UInt8)++([UInt8.ofNat (IntKind.i32.wrap (IntKind.i64.wrap (48+s80))).toNat]))),AV.sl 1 (List.map Aw y1.2.2.2.2.1),AV.sl 9 (List.map Am y94),iA (0)]]) ([(⟨(([116]:List UInt8)++([UInt8.ofNat (IntKind.i32.wrap (IntKind.i64.wrap (48+s80))).toNat])),y1.2.2.2.2.1,y94,0⟩:Aa)]:List Aa)) ?_
 refine ca hc (fun _ h=>T4 h) ?_;intro y98
 refine br ?_ ?_
 refine ca hc (fun _ h=>Cm h) ?_;intro y101
 exact fun h=>cq (hcont87 (y101,IntKind.i64.wrap (s80+1),(s81++([(⟨(([116]:List UInt8)++([UInt8.ofNat (IntKind.i32.wrap (IntKind.i64.wrap (48+s80))).toNat])),y1.2.2.2.2.1,y94,0⟩:Aa)]:List Aa))) (fun _=>0) h)
 exact fun h=>cq (hcont87 (y98,IntKind.i64.wrap (s80+1),(s81++([(⟨(([116]:List UInt8)++([UInt8.ofNat (IntKind.i32.wrap (IntKind.i64.wrap (48+s80))).toNat])),y1.2.2.2.2.1,y94,0⟩:Aa)]:List Aa))) (fun _=>0) h)
 intro h;cases sj h
 exact kq (hr88 (fun _=>0))
 refine lrc ?_ ?_
 intro v e;subst e;cases sj h;rfl
 intro t a103 e;subst e
 obtain⟨x104,x105⟩:=t
 dsimp only at h
 conv=>lhs;whnf
 revert h
 refine br ?_ ?_
 refine ca hc (fun _ h=>C5 h) ?_;intro y107
 refine ca hc (fun _ h=>Cm h) ?_;intro y109
 refine ao (ap Ac ([]) ([]:List A2) ([[iA (3),AV.sl 5 (List.map A8 y109),iA (0)]]) ([(⟨3,y109,0⟩:A2)]:List A2)) ?_
 refine ca hc (fun _ h=>G9 h) ?_;intro y113
 refine ca hc (fun _ h=>C5 h) ?_;intro y115
 refine ca hc (fun _ h=>Cm h) ?_;intro y117
 refine ar (ap Ac (List.map Ac (([]:List A2)++([(⟨3,y109,0⟩:A2)]:List A2))) (([]:List A2)++([(⟨3,y109,0⟩:A2)]:List A2)) ([[iA (1),AV.sl 5 (List.map A8 y117),iA (0)]]) ([(⟨1,y117,0⟩:A2)]:List A2)) ?_
 intro h;cases sj h
 try simp only[ls]
 exact fq (y:=some (AV.tup [AV.agg [iA C2,AV.sl 3 (List.take (List.length x78) (List.map Ad x78)),AV.sl 4 (List.take (List.length x105) (List.map Ab x105)),AV.sl 3 (List.take (List.length (((([]:List A2)++([(⟨3,y109,0⟩:A2)]:List A2))++([(⟨1,y117,0⟩:A2)]:List A2)))) (List.map Ac ((([]:List A2)++([(⟨3,y109,0⟩:A2)]:List A2))++([(⟨1,y117,0⟩:A2)]:List A2))))],iA (0)],[]))
 refine ca hc (fun _ h=>G9 h) ?_;intro y121
 refine ca hc (fun _ h=>C5 h) ?_;intro y123
 refine ca hc (fun _ h=>Cm h) ?_;intro y125
 refine ao (ap Ac ([]) ([]:List A2) ([[iA (1),AV.sl 5 (List.map A8 y125),iA (0)]]) ([(⟨1,y125,0⟩:A2)]:List A2)) ?_
 intro h;cases sj h
 try simp only[ls]
 exact fq (y:=some (AV.tup [AV.agg [iA C2,AV.sl 3 (List.take (List.length x78) (List.map Ad x78)),AV.sl 4 (List.take (List.length x105) (List.map Ab x105)),AV.sl 3 (List.take (List.length ((([]:List A2)++([(⟨1,y125,0⟩:A2)]:List A2)))) (List.map Ac (([]:List A2)++([(⟨1,y125,0⟩:A2)]:List A2))))],iA (0)],[]))
 refine il (fun hi131=>?_) ?_
 intro h
 refine Az (by rw[hi131];rfl) ?_
 simp only[(show nth? ([[AV.sl 1 (List.map Aw y1.1),AV.sl 1 (List.map Aw y1.2.1),AV.nilf,bA y1.2.2.1],[AV.sl 1 (List.map Aw y1.2.2.2.1),AV.sl 1 (List.map Aw y1.2.2.2.2.1),AV.func 20 [] [],bA y1.2.2.2.2.2.1],[AV.sl 1 (List.map Aw y1.2.2.2.2.2.2.1),AV.sl 1 (List.map Aw y1.2.2.2.2.2.2.2.1),AV.func 23 [] [],bA y1.2.2.2.2.2.2.2.2.1],[AV.sl 1 (List.map Aw y1.2.2.2.2.2.2.2.2.2.1),AV.sl 1 (List.map Aw y1.2.2.2.2.2.2.2.2.2.2.1),AV.func 24 [] [],bA y1.2.2.2.2.2.2.2.2.2.2.2]]:List (List AV)) D9.toNat=some [AV.sl 1 (List.map Aw y1.2.2.2.2.2.2.1),AV.sl 1 (List.map Aw y1.2.2.2.2.2.2.2.1),AV.func 23 [] [],bA y1.2.2.2.2.2.2.2.2.1] from by rw[hi131];rfl),ls]
 conv=>lhs;whnf
 revert h
 intro h;refine Ak h ?_;clear h;intro o141 ho141 h
 refine lq (σ:=(Int×(List Ao))) (τ:=(List Ao)) (ν:=(Aq×Int)) 0 (fun(s132,s133) a135=>B2 119 [(1,iA C0),(6,AV.ptr 0 0),(9,AV.ptr 1 0),(10,AV.ptr 2 0),(51,AV.sl 1 (List.map Aw y1.2.2.2.2.2.2.1)),(52,iA (((y1.2.2.2.2.2.2.1.length:Nat):Int))),(53,iA s132)]) (fun(s132,s133) a135=>[Ob.var 26 [iA (0),AV.row 3 (List.length (([]:List Ao))),AV.row 4 (List.length (([]:List Aa))),AV.row 5 (List.length (([]:List A2)))],Ob.var 45 [AV.sl 1 (List.map Aw y1.2.2.2.2.2.2.1),AV.sl 1 (List.map Aw y1.2.2.2.2.2.2.2.1),AV.func 23 [] [],bA y1.2.2.2.2.2.2.2.2.1],Ob.var 26 [iA C2,AV.row 6 (List.length s133),AV.row 7 (List.length (([]:List Aa))),AV.row 8 (List.length (([]:List A2)))],Ob.row 47 3 ([]),Ob.row 51 4 ([]),Ob.row 56 3 ([]),Ob.row 47 3 (List.map Ad s133),Ob.row 51 4 ([]),Ob.row 56 3 ([])]) (fun x147 a146=>B2 119 [(1,iA C0),(6,AV.ptr 0 0),(9,AV.ptr 1 0),(10,AV.ptr 2 0)]) (fun x147 a146=>[Ob.var 26 [iA (0),AV.row 3 (List.length (([]:List Ao))),AV.row 4 (List.length (([]:List Aa))),AV.row 5 (List.length (([]:List A2)))],Ob.var 45 [AV.sl 1 (List.map Aw y1.2.2.2.2.2.2.1),AV.sl 1 (List.map Aw y1.2.2.2.2.2.2.2.1),AV.func 23 [] [],bA y1.2.2.2.2.2.2.2.2.1],Ob.var 26 [iA C2,AV.row 6 (List.length x147),AV.row 7 (List.length (([]:List Aa))),AV.row 8 (List.length (([]:List A2)))],Ob.row 47 3 ([]),Ob.row 51 4 ([]),Ob.row 56 3 ([]),Ob.row 47 3 (List.map Ad x147),Ob.row 51 4 ([]),Ob.row 56 3 ([])]) (fun v=>(AV.tup [AV.agg [iA v.1.B8,AV.sl 3 (List.map Ad v.1.B4),AV.sl 4 (List.map Ab v.1.An),AV.sl 3 (List.map Ac v.1.Au)],iA v.2],[])) (fun k s=>Jy n y1 k s.1 s.2) (fun s=>rfl) o141 n (0,([]:List Ao)) (fun _=>0) ho141 ?_ ?_
 intro k134 ss a135 K136 cont137 hK138 hcont139 h hr140
 obtain⟨s132,s133⟩:=ss
 replace h:Jy n y1 (k134+1) s132 s133=some o141:=h
 rw[Jy] at h
 conv=>lhs;whnf
 revert h
 refine br ?_ ?_
 refine ix ?_;intro x143
 refine ar (ap Ad (List.map Ad s133) s133 ([[sA x143,iA (0),iA (0)]]) ([(⟨x143,0,0⟩:Ao)]:List Ao)) ?_
 exact fun h=>cq (hcont139 (IntKind.i64.wrap (s132+1),(s133++([(⟨x143,0,0⟩:Ao)]:List Ao))) (fun _=>0) h)
 intro h;cases sj h
 exact kq (hr140 (fun _=>0))
 refine lrc ?_ ?_
 intro v e;subst e;cases sj h;rfl
 intro x147 a146 e;subst e
 dsimp only at h
 conv=>lhs;whnf
 revert h
 intro h;refine Ak h ?_;clear h;intro o158 ho158 h
 refine lq (σ:=((List A3)×Int×(List Aa))) (τ:=((List A3)×(List Aa))) (ν:=(Aq×Int)) 2 (fun(s148,s149,s150) a152=>B2 119 [(1,iA C0),(6,AV.ptr 0 0),(9,AV.ptr 1 0),(10,AV.ptr 2 0),(13,AV.sl 5 (List.map A8 s148)),(65,iA C0),(66,iA s149)]) (fun(s148,s149,s150) a152=>[Ob.var 26 [iA (0),AV.row 3 (List.length (([]:List Ao))),AV.row 4 (List.length (([]:List Aa))),AV.row 5 (List.length (([]:List A2)))],Ob.var 45 [AV.sl 1 (List.map Aw y1.2.2.2.2.2.2.1),AV.sl 1 (List.map Aw y1.2.2.2.2.2.2.2.1),AV.func 23 [] [],bA y1.2.2.2.2.2.2.2.2.1],Ob.var 26 [iA C2,AV.row 6 (List.length x147),AV.row 7 (List.length s150),AV.row 8 (List.length (([]:List A2)))],Ob.row 47 3 ([]),Ob.row 51 4 ([]),Ob.row 56 3 ([]),Ob.row 47 3 (List.map Ad x147),Ob.row 51 4 (List.map Ab s150),Ob.row 56 3 ([])]) (fun(x173,x174) a172=>B2 119 [(1,iA C0),(6,AV.ptr 0 0),(9,AV.ptr 1 0),(10,AV.ptr 2 0),(13,AV.sl 5 (List.map A8 x173))]) (fun(x173,x174) a172=>[Ob.var 26 [iA (0),AV.row 3 (List.length (([]:List Ao))),AV.row 4 (List.length (([]:List Aa))),AV.row 5 (List.length (([]:List A2)))],Ob.var 45 [AV.sl 1 (List.map Aw y1.2.2.2.2.2.2.1),AV.sl 1 (List.map Aw y1.2.2.2.2.2.2.2.1),AV.func 23 [] [],bA y1.2.2.2.2.2.2.2.2.1],Ob.var 26 [iA C2,AV.row 6 (List.length x147),AV.row 7 (List.length x174),AV.row 8 (List.length (([]:List A2)))],Ob.row 47 3 ([]),Ob.row 51 4 ([]),Ob.row 56 3 ([]),Ob.row 47 3 (List.map Ad x147),Ob.row 51 4 (List.map Ab x174),Ob.row 56 3 ([])]) (fun v=>(AV.tup [AV.agg [iA v.1.B8,AV.sl 3 (List.map Ad v.1.B4),AV.sl 4 (List.map Ab v.1.An),AV.sl 3 (List.map Ac v.1.Au)],iA v.2],[])) (fun k s=>I3 n C0 y1 k s.1 s.2.1 s.2.2) (fun s=>rfl) o158 n (([]:List A3),0,([]:List Aa)) (fun _=>0) ho158 ?_ ?_
 intro k151 ss a152 K153 cont154 hK155 hcont156 h hr157
 obtain⟨s148,s149,s150⟩:=ss
 replace h:I3 n C0 y1 (k151+1) s148 s149 s150=some o158:=h
 rw[I3] at h
 conv=>lhs;whnf
 revert h
 refine br ?_ ?_
 refine cp ?_
 intro h
 refine Ay h ?_;clear h;intro hc161 h
 first|refine Az hc161 ?_|skip
 try simp only[ls]
 conv=>lhs;whnf
 revert h
 refine cn ?_
 refine ca hc (fun _ h=>Xd h) ?_;intro y163
 refine ar (ap Ab (List.map Ab s150) s150 ([[sA ((([116]:List UInt8)++([UInt8.ofNat (IntKind.i32.wrap (IntKind.i64.wrap (48+s149))).toNat]))),AV.sl 1 (List.map Aw y1.2.2.2.2.2.2.2.1),AV.sl 9 (List.map Am y163),iA (0)]]) ([(⟨(([116]:List UInt8)++([UInt8.ofNat (IntKind.i32.wrap (IntKind.i64.wrap (48+s149))).toNat])),y1.2.2.2.2.2.2.2.1,y163,0⟩:Aa)]:List Aa)) ?_
 refine ca hc (fun _ h=>T4 h) ?_;intro y167
 refine br ?_ ?_
 refine ca hc (fun _ h=>Cm h) ?_;intro y170
 exact fun h=>cq (hcont156 (y170,IntKind.i64.wrap (s149+1),(s150++([(⟨(([116]:List UInt8)++([UInt8.ofNat (IntKind.i32.wrap (IntKind.i64.wrap (48+s149))).toNat])),y1.2.2.2.2.2.2.2.1,y163,0⟩:Aa)]:List Aa))) (fun _=>0) h)
 exact fun h=>cq (hcont156 (y167,IntKind.i64.wrap (s149+1),(s150++([(⟨(([116]:List UInt8)++([UInt8.ofNat (IntKind.i32.wrap (IntKind.i64.wrap (48+s149))).toNat])),y1.2.2.2.2.2.2.2.1,y163,0⟩:Aa)]:List Aa))) (fun _=>0) h)
 intro h;cases sj h
 exact kq (hr157 (fun _=>0))
 refine lrc ?_ ?_
 intro v e;subst e;cases sj h;rfl
 intro t a172 e;subst e
 obtain⟨x173,x174⟩:=t
 dsimp only at h
 conv=>lhs;whnf
 revert h
 refine br ?_ ?_
 refine ca hc (fun _ h=>C5 h) ?_;intro y176
 refine ca hc (fun _ h=>Cm h) ?_;intro y178
 refine ao (ap Ac ([]) ([]:List A2) ([[iA (3),AV.sl 5 (List.map A8 y178),iA (0)]]) ([(⟨3,y178,0⟩:A2)]:List A2)) ?_
 refine ca hc (fun _ h=>G9 h) ?_;intro y182
 refine ca hc (fun _ h=>C5 h) ?_;intro y184
 refine ca hc (fun _ h=>Cm h) ?_;intro y186
 refine ar (ap Ac (List.map Ac (([]:List A2)++([(⟨3,y178,0⟩:A2)]:List A2))) (([]:List A2)++([(⟨3,y178,0⟩:A2)]:List A2)) ([[iA (1),AV.sl 5 (List.map A8 y186),iA (0)]]) ([(⟨1,y186,0⟩:A2)]:List A2)) ?_
 intro h;cases sj h
 try simp only[ls]
 exact fq (y:=some (AV.tup [AV.agg [iA C2,AV.sl 3 (List.take (List.length x147) (List.map Ad x147)),AV.sl 4 (List.take (List.length x174) (List.map Ab x174)),AV.sl 3 (List.take (List.length (((([]:List A2)++([(⟨3,y178,0⟩:A2)]:List A2))++([(⟨1,y186,0⟩:A2)]:List A2)))) (List.map Ac ((([]:List A2)++([(⟨3,y178,0⟩:A2)]:List A2))++([(⟨1,y186,0⟩:A2)]:List A2))))],iA (0)],[]))
 refine ca hc (fun _ h=>G9 h) ?_;intro y190
 refine ca hc (fun _ h=>C5 h) ?_;intro y192
 refine ca hc (fun _ h=>Cm h) ?_;intro y194
 refine ao (ap Ac ([]) ([]:List A2) ([[iA (1),AV.sl 5 (List.map A8 y194),iA (0)]]) ([(⟨1,y194,0⟩:A2)]:List A2)) ?_
 intro h;cases sj h
 try simp only[ls]
 exact fq (y:=some (AV.tup [AV.agg [iA C2,AV.sl 3 (List.take (List.length x147) (List.map Ad x147)),AV.sl 4 (List.take (List.length x174) (List.map Ab x174)),AV.sl 3 (List.take (List.length ((([]:List A2)++([(⟨1,y194,0⟩:A2)]:List A2)))) (List.map Ac (([]:List A2)++([(⟨1,y194,0⟩:A2)]:List A2))))],iA (0)],[]))
 refine il (fun hi200=>?_) ?_
 intro h
 refine Az (by rw[hi200];rfl) ?_
 simp only[(show nth? ([[AV.sl 1 (List.map Aw y1.1),AV.sl 1 (List.map Aw y1.2.1),AV.nilf,bA y1.2.2.1],[AV.sl 1 (List.map Aw y1.2.2.2.1),AV.sl 1 (List.map Aw y1.2.2.2.2.1),AV.func 20 [] [],bA y1.2.2.2.2.2.1],[AV.sl 1 (List.map Aw y1.2.2.2.2.2.2.1),AV.sl 1 (List.map Aw y1.2.2.2.2.2.2.2.1),AV.func 23 [] [],bA y1.2.2.2.2.2.2.2.2.1],[AV.sl 1 (List.map Aw y1.2.2.2.2.2.2.2.2.2.1),AV.sl 1 (List.map Aw y1.2.2.2.2.2.2.2.2.2.2.1),AV.func 24 [] [],bA y1.2.2.2.2.2.2.2.2.2.2.2]]:List (List AV)) D9.toNat=some [AV.sl 1 (List.map Aw y1.2.2.2.2.2.2.2.2.2.1),AV.sl 1 (List.map Aw y1.2.2.2.2.2.2.2.2.2.2.1),AV.func 24 [] [],bA y1.2.2.2.2.2.2.2.2.2.2.2] from by rw[hi200];rfl),ls]
 conv=>lhs;whnf
 revert h
 intro h;refine Ak h ?_;clear h;intro o210 ho210 h
 refine lq (σ:=(Int×(List Ao))) (τ:=(List Ao)) (ν:=(Aq×Int)) 0 (fun(s201,s202) a204=>B2 119 [(1,iA C0),(6,AV.ptr 0 0),(9,AV.ptr 1 0),(10,AV.ptr 2 0),(51,AV.sl 1 (List.map Aw y1.2.2.2.2.2.2.2.2.2.1)),(52,iA (((y1.2.2.2.2.2.2.2.2.2.1.length:Nat):Int))),(53,iA s201)]) (fun(s201,s202) a204=>[Ob.var 26 [iA (0),AV.row 3 (List.length (([]:List Ao))),AV.row 4 (List.length (([]:List Aa))),AV.row 5 (List.length (([]:List A2)))],Ob.var 45 [AV.sl 1 (List.map Aw y1.2.2.2.2.2.2.2.2.2.1),AV.sl 1 (List.map Aw y1.2.2.2.2.2.2.2.2.2.2.1),AV.func 24 [] [],bA y1.2.2.2.2.2.2.2.2.2.2.2],Ob.var 26 [iA C2,AV.row 6 (List.length s202),AV.row 7 (List.length (([]:List Aa))),AV.row 8 (List.length (([]:List A2)))],Ob.row 47 3 ([]),Ob.row 51 4 ([]),Ob.row 56 3 ([]),Ob.row 47 3 (List.map Ad s202),Ob.row 51 4 ([]),Ob.row 56 3 ([])]) (fun x216 a215=>B2 119 [(1,iA C0),(6,AV.ptr 0 0),(9,AV.ptr 1 0),(10,AV.ptr 2 0)]) (fun x216 a215=>[Ob.var 26 [iA (0),AV.row 3 (List.length (([]:List Ao))),AV.row 4 (List.length (([]:List Aa))),AV.row 5 (List.length (([]:List A2)))],Ob.var 45 [AV.sl 1 (List.map Aw y1.2.2.2.2.2.2.2.2.2.1),AV.sl 1 (List.map Aw y1.2.2.2.2.2.2.2.2.2.2.1),AV.func 24 [] [],bA y1.2.2.2.2.2.2.2.2.2.2.2],Ob.var 26 [iA C2,AV.row 6 (List.length x216),AV.row 7 (List.length (([]:List Aa))),AV.row 8 (List.length (([]:List A2)))],Ob.row 47 3 ([]),Ob.row 51 4 ([]),Ob.row 56 3 ([]),Ob.row 47 3 (List.map Ad x216),Ob.row 51 4 ([]),Ob.row 56 3 ([])]) (fun v=>(AV.tup [AV.agg [iA v.1.B8,AV.sl 3 (List.map Ad v.1.B4),AV.sl 4 (List.map Ab v.1.An),AV.sl 3 (List.map Ac v.1.Au)],iA v.2],[])) (fun k s=>Ju n y1 k s.1 s.2) (fun s=>rfl) o210 n (0,([]:List Ao)) (fun _=>0) ho210 ?_ ?_
 intro k203 ss a204 K205 cont206 hK207 hcont208 h hr209
 obtain⟨s201,s202⟩:=ss
 replace h:Ju n y1 (k203+1) s201 s202=some o210:=h
 rw[Ju] at h
 conv=>lhs;whnf
 revert h
 refine br ?_ ?_
 refine ix ?_;intro x212
 refine ar (ap Ad (List.map Ad s202) s202 ([[sA x212,iA (0),iA (0)]]) ([(⟨x212,0,0⟩:Ao)]:List Ao)) ?_
 exact fun h=>cq (hcont208 (IntKind.i64.wrap (s201+1),(s202++([(⟨x212,0,0⟩:Ao)]:List Ao))) (fun _=>0) h)
 intro h;cases sj h
 exact kq (hr209 (fun _=>0))
 refine lrc ?_ ?_
 intro v e;subst e;cases sj h;rfl
 intro x216 a215 e;subst e
 dsimp only at h
 conv=>lhs;whnf
 revert h
 intro h;refine Ak h ?_;clear h;intro o227 ho227 h
 refine lq (σ:=((List A3)×Int×(List Aa))) (τ:=((List A3)×(List Aa))) (ν:=(Aq×Int)) 2 (fun(s217,s218,s219) a221=>B2 119 [(1,iA C0),(6,AV.ptr 0 0),(9,AV.ptr 1 0),(10,AV.ptr 2 0),(13,AV.sl 5 (List.map A8 s217)),(65,iA C0),(66,iA s218)]) (fun(s217,s218,s219) a221=>[Ob.var 26 [iA (0),AV.row 3 (List.length (([]:List Ao))),AV.row 4 (List.length (([]:List Aa))),AV.row 5 (List.length (([]:List A2)))],Ob.var 45 [AV.sl 1 (List.map Aw y1.2.2.2.2.2.2.2.2.2.1),AV.sl 1 (List.map Aw y1.2.2.2.2.2.2.2.2.2.2.1),AV.func 24 [] [],bA y1.2.2.2.2.2.2.2.2.2.2.2],Ob.var 26 [iA C2,AV.row 6 (List.length x216),AV.row 7 (List.length s219),AV.row 8 (List.length (([]:List A2)))],Ob.row 47 3 ([]),Ob.row 51 4 ([]),Ob.row 56 3 ([]),Ob.row 47 3 (List.map Ad x216),Ob.row 51 4 (List.map Ab s219),Ob.row 56 3 ([])]) (fun(x242,x243) a241=>B2 119 [(1,iA C0),(6,AV.ptr 0 0),(9,AV.ptr 1 0),(10,AV.ptr 2 0),(13,AV.sl 5 (List.map A8 x242))]) (fun(x242,x243) a241=>[Ob.var 26 [iA (0),AV.row 3 (List.length (([]:List Ao))),AV.row 4 (List.length (([]:List Aa))),AV.row 5 (List.length (([]:List A2)))],Ob.var 45 [AV.sl 1 (List.map Aw y1.2.2.2.2.2.2.2.2.2.1),AV.sl 1 (List.map Aw y1.2.2.2.2.2.2.2.2.2.2.1),AV.func 24 [] [],bA y1.2.2.2.2.2.2.2.2.2.2.2],Ob.var 26 [iA C2,AV.row 6 (List.length x216),AV.row 7 (List.length x243),AV.row 8 (List.length (([]:List A2)))],Ob.row 47 3 ([]),Ob.row 51 4 ([]),Ob.row 56 3 ([]),Ob.row 47 3 (List.map Ad x216),Ob.row 51 4 (List.map Ab x243),Ob.row 56 3 ([])]) (fun v=>(AV.tup [AV.agg [iA v.1.B8,AV.sl 3 (List.map Ad v.1.B4),AV.sl 4 (List.map Ab v.1.An),AV.sl 3 (List.map Ac v.1.Au)],iA v.2],[])) (fun k s=>I9 n C0 y1 k s.1 s.2.1 s.2.2) (fun s=>rfl) o227 n (([]:List A3),0,([]:List Aa)) (fun _=>0) ho227 ?_ ?_
 intro k220 ss a221 K222 cont223 hK224 hcont225 h hr226
 obtain⟨s217,s218,s219⟩:=ss
 replace h:I9 n C0 y1 (k220+1) s217 s218 s219=some o227:=h
 rw[I9] at h
 conv=>lhs;whnf
 revert h
 refine br ?_ ?_
 refine cp ?_
 intro h
 refine Ay h ?_;clear h;intro hc230 h
 first|refine Az hc230 ?_|skip
 try simp only[ls]
 conv=>lhs;whnf
 revert h
 refine cn ?_
 refine ca hc (fun _ h=>Wy h) ?_;intro y232
 refine ar (ap Ab (List.map Ab s219) s219 ([[sA ((([116]:List UInt8)++([UInt8.ofNat (IntKind.i32.wrap (IntKind.i64.wrap (48+s218))).toNat]))),AV.sl 1 (List.map Aw y1.2.2.2.2.2.2.2.2.2.2.1),AV.sl 9 (List.map Am y232),iA (0)]]) ([(⟨(([116]:List UInt8)++([UInt8.ofNat (IntKind.i32.wrap (IntKind.i64.wrap (48+s218))).toNat])),y1.2.2.2.2.2.2.2.2.2.2.1,y232,0⟩:Aa)]:List Aa)) ?_
 refine ca hc (fun _ h=>T4 h) ?_;intro y236
 refine br ?_ ?_
 refine ca hc (fun _ h=>Cm h) ?_;intro y239
 exact fun h=>cq (hcont225 (y239,IntKind.i64.wrap (s218+1),(s219++([(⟨(([116]:List UInt8)++([UInt8.ofNat (IntKind.i32.wrap (IntKind.i64.wrap (48+s218))).toNat])),y1.2.2.2.2.2.2.2.2.2.2.1,y232,0⟩:Aa)]:List Aa))) (fun _=>0) h)
 exact fun h=>cq (hcont225 (y236,IntKind.i64.wrap (s218+1),(s219++([(⟨(([116]:List UInt8)++([UInt8.ofNat (IntKind.i32.wrap (IntKind.i64.wrap (48+s218))).toNat])),y1.2.2.2.2.2.2.2.2.2.2.1,y232,0⟩:Aa)]:List Aa))) (fun _=>0) h)
 intro h;cases sj h
 exact kq (hr226 (fun _=>0))
 refine lrc ?_ ?_
 intro v e;subst e;cases sj h;rfl
 intro t a241 e;subst e
 obtain⟨x242,x243⟩:=t
 dsimp only at h
 conv=>lhs;whnf
 revert h
 refine br ?_ ?_
 refine ca hc (fun _ h=>C5 h) ?_;intro y245
 refine ca hc (fun _ h=>Cm h) ?_;intro y247
 refine ao (ap Ac ([]) ([]:List A2) ([[iA (3),AV.sl 5 (List.map A8 y247),iA (0)]]) ([(⟨3,y247,0⟩:A2)]:List A2)) ?_
 refine ca hc (fun _ h=>G9 h) ?_;intro y251
 refine ca hc (fun _ h=>C5 h) ?_;intro y253
 refine ca hc (fun _ h=>Cm h) ?_;intro y255
 refine ar (ap Ac (List.map Ac (([]:List A2)++([(⟨3,y247,0⟩:A2)]:List A2))) (([]:List A2)++([(⟨3,y247,0⟩:A2)]:List A2)) ([[iA (1),AV.sl 5 (List.map A8 y255),iA (0)]]) ([(⟨1,y255,0⟩:A2)]:List A2)) ?_
 intro h;cases sj h
 try simp only[ls]
 exact fq (y:=some (AV.tup [AV.agg [iA C2,AV.sl 3 (List.take (List.length x216) (List.map Ad x216)),AV.sl 4 (List.take (List.length x243) (List.map Ab x243)),AV.sl 3 (List.take (List.length (((([]:List A2)++([(⟨3,y247,0⟩:A2)]:List A2))++([(⟨1,y255,0⟩:A2)]:List A2)))) (List.map Ac ((([]:List A2)++([(⟨3,y247,0⟩:A2)]:List A2))++([(⟨1,y255,0⟩:A2)]:List A2))))],iA (0)],[]))
 refine ca hc (fun _ h=>G9 h) ?_;intro y259
 refine ca hc (fun _ h=>C5 h) ?_;intro y261
 refine ca hc (fun _ h=>Cm h) ?_;intro y263
 refine ao (ap Ac ([]) ([]:List A2) ([[iA (1),AV.sl 5 (List.map A8 y263),iA (0)]]) ([(⟨1,y263,0⟩:A2)]:List A2)) ?_
 intro h;cases sj h
 try simp only[ls]
 exact fq (y:=some (AV.tup [AV.agg [iA C2,AV.sl 3 (List.take (List.length x216) (List.map Ad x216)),AV.sl 4 (List.take (List.length x243) (List.map Ab x243)),AV.sl 3 (List.take (List.length ((([]:List A2)++([(⟨1,y263,0⟩:A2)]:List A2)))) (List.map Ac (([]:List A2)++([(⟨1,y263,0⟩:A2)]:List A2))))],iA (0)],[]))
 exact nn
theorem A1p {n:Nat} ⦃B9:Int⦄ ⦃Fo:Int⦄ ⦃r:(Aq×Int)⦄:Ri n B9 Fo=some r→CN n 17 [iA B9,iA Fo] []=some (AV.tup [AV.agg [iA r.1.B8,AV.sl 3 (List.map Ad r.1.B4),AV.sl 4 (List.map Ab r.1.An),AV.sl 3 (List.map Ac r.1.Au)],iA r.2],[]):=by
 intro h;rcases n with _|n;cases h
 rw[Ri] at h
 refine Ah Try.func17 (by rfl) rfl rfl (As rfl) ?_
 intro call hc;conv=>lhs;whnf
 revert h
 refine ca hc (fun _ h=>Jj h) ?_;intro y1
 exact rz
theorem Tz {n:Nat} ⦃D9:Int⦄ ⦃C0:Int⦄ ⦃C2:Int⦄ ⦃r:(List UInt8)⦄:Ny n D9 C0 C2=some r→CN n 19 [iA D9,iA C0,iA C2] []=some (sA r,[]):=by
 intro h;rcases n with _|n;cases h
 rw[Ny] at h
 refine Ah Try.func19 (by rfl) rfl rfl (As rfl) ?_
 intro call hc;conv=>lhs;whnf
 revert h
 refine ca hc (fun _ h=>Jj h) ?_;intro y1
 refine br ?_ ?_
 exact rz
 refine ca hc (fun _ h=>Zr h) ?_;intro y4
 exact rz
theorem Yq {n:Nat} ⦃B9:Int⦄ ⦃Fo:Int⦄ ⦃r:(Aq×Int)⦄:Ox n B9 Fo=some r→CN n 18 [iA B9,iA Fo] []=some (AV.tup [AV.agg [iA r.1.B8,AV.sl 3 (List.map Ad r.1.B4),AV.sl 4 (List.map Ab r.1.An),AV.sl 3 (List.map Ac r.1.Au)],iA r.2],[]):=by
 intro h;rcases n with _|n;cases h
 rw[Ox] at h
 refine Ah Try.func18 (by rfl) rfl rfl (As rfl) ?_
 intro call hc;conv=>lhs;whnf
 revert h
 refine ca hc (fun _ h=>Jj h) ?_;intro y1
 exact rz
theorem X0 {n:Nat} ⦃r:Bool⦄:Jz n=some r→CN n 7 [] []=some (bA r,[]):=by
 intro h;rcases n with _|n;cases h
 rw[Jz] at h
 refine Ah Try.func7 (by rfl) rfl rfl (As rfl) ?_
 intro call hc;conv=>lhs;whnf
 revert h
 refine ca hc (fun _ h=>A1p h) ?_;intro y1
 refine ca hc (fun _ h=>Yq h) ?_;intro y3
 refine br ?_ ?_
 refine br ?_ ?_
 refine br ?_ ?_
 refine br ?_ ?_
 refine br ?_ ?_
 refine ca hc (fun _ h=>Tz h) ?_;intro y10
 refine br ?_ ?_
 refine ca hc (fun _ h=>Tz h) ?_;intro y13
 exact rz
 exact rz
 exact rz
 exact rz
 exact rz
 exact rz
 exact rz
theorem X9 {n:Nat} ⦃r:(List (List UInt8))⦄:N9 n=some r→CN n 68 [] []=some (AV.sl 1 (List.map Aw r),[]):=by
 intro h;rcases n with _|n;cases h
 rw[N9] at h
 refine Ah Try.func68 (by rfl) rfl rfl (As rfl) ?_
 intro call hc;conv=>lhs;whnf
 revert h
 exact rz
theorem Us {n:Nat} ⦃En:(List UInt8)⦄ ⦃r:Bool⦄:L9 n En=some r→CN n 46 [sA En] []=some (bA r,[]):=by
 intro h;rcases n with _|n;cases h
 rw[L9] at h
 refine Ah Try.func46 (by rfl) rfl rfl (As rfl) ?_
 intro call hc;conv=>lhs;whnf
 revert h
 refine ca hc (fun _ h=>X9 h) ?_;intro y1
 intro h;refine Ak h ?_;clear h;intro o11 ho11 h
 refine lq (σ:=Int) (τ:=Unit) (ν:=Bool) 0 (fun s3 a5=>B2 18 [(0,sA En),(3,AV.sl 1 (List.map Aw y1)),(4,iA s3)]) (fun s3 a5=>[]) (fun _ a15=>B2 18 []) (fun _ a15=>[]) (fun v=>(bA v,[])) (fun k s=>Fg n En y1 k s) (fun s=>rfl) o11 n 0 (fun _=>0) ho11 ?_ ?_
 intro k4 s3 a5 K6 cont7 hK8 hcont9 h hr10
 replace h:Fg n En y1 (k4+1) s3=some o11:=h
 rw[Fg] at h
 conv=>lhs;whnf
 revert h
 refine br ?_ ?_
 refine ix ?_;intro x13
 refine br ?_ ?_
 intro h;cases sj h
 refine(hK8 _ _).trans ?_
 refine Eq.trans ?_ (Eq.symm (show _=some _ from hr10))
 conv=>lhs;whnf
 exact rq
 exact fun h=>cq (hcont9 (IntKind.i64.wrap (s3+1)) (fun _=>0) h)
 intro h;cases sj h
 exact kq (hr10 (fun _=>0))
 refine lrc ?_ ?_
 intro v e;subst e;cases sj h;rfl
 intro t a15 e;subst e
 dsimp only at h
 conv=>lhs;whnf
 revert h
 exact rz
theorem Wp {n:Nat} ⦃Dj:Int⦄ ⦃r:Bool⦄:N6 n Dj=some r→CN n 47 [AV.int .u8 Dj] []=some (bA r,[]):=by
 intro h;rcases n with _|n;cases h
 rw[N6] at h
 refine Ah Try.func47 (by rfl) rfl rfl (As rfl) ?_
 intro call hc;conv=>lhs;whnf
 revert h
 refine br ?_ ?_
 exact rz
 exact rz
theorem Ps {n:Nat} ⦃Dj:Int⦄ ⦃r:Bool⦄:Jd n Dj=some r→CN n 45 [AV.int .u8 Dj] []=some (bA r,[]):=by
 intro h;rcases n with _|n;cases h
 rw[Jd] at h
 refine Ah Try.func45 (by rfl) rfl rfl (As rfl) ?_
 intro call hc;conv=>lhs;whnf
 revert h
 refine br ?_ ?_
 refine br ?_ ?_
 exact rz
 refine br ?_ ?_
 refine br ?_ ?_
 exact rz
 exact rz
 exact rz
 refine br ?_ ?_
 refine br ?_ ?_
 exact rz
 exact rz
 exact rz
theorem Dk {n:Nat} ⦃En:(List UInt8)⦄ ⦃r:Bool⦄:D0 n En=some r→CN n 32 [sA En] []=some (bA r,[]):=by
 intro h;rcases n with _|n;cases h
 rw[D0] at h
 refine Ah Try.func32 (by rfl) rfl rfl (As rfl) ?_
 intro call hc;conv=>lhs;whnf
 revert h
 refine br ?_ ?_
 exact rz
 refine br ?_ ?_
 exact rz
 refine ixs ?_;intro x3
 refine ca hc (fun _ h=>Ps h) ?_;intro y4
 refine br ?_ ?_
 refine ca hc (fun _ h=>Us h) ?_;intro y7
 refine br ?_ ?_
 exact rz
 intro h;refine Ak h ?_;clear h;intro o18 ho18 h
 refine lq (σ:=Int) (τ:=Unit) (ν:=Bool) 0 (fun s10 a12=>B2 40 [(0,sA En),(3,iA s10)]) (fun s10 a12=>[]) (fun _ a28=>B2 40 []) (fun _ a28=>[]) (fun v=>(bA v,[])) (fun k s=>G0 n En k s) (fun s=>rfl) o18 n 0 (fun _=>0) ho18 ?_ ?_
 intro k11 s10 a12 K13 cont14 hK15 hcont16 h hr17
 replace h:G0 n En (k11+1) s10=some o18:=h
 rw[G0] at h
 conv=>lhs;whnf
 revert h
 refine br ?_ ?_
 refine ixs ?_;intro x20
 refine ca hc (fun _ h=>Ps h) ?_;intro y21
 refine br ?_ ?_
 exact fun h=>cq (hcont16 (IntKind.i64.wrap (s10+1)) (fun _=>0) h)
 refine ixs ?_;intro x24
 refine ca hc (fun _ h=>Wp h) ?_;intro y25
 refine br ?_ ?_
 exact fun h=>cq (hcont16 (IntKind.i64.wrap (s10+1)) (fun _=>0) h)
 intro h;cases sj h
 refine(hK15 _ _).trans ?_
 refine Eq.trans ?_ (Eq.symm (show _=some _ from hr17))
 conv=>lhs;whnf
 exact rq
 intro h;cases sj h
 exact kq (hr17 (fun _=>0))
 refine lrc ?_ ?_
 intro v e;subst e;cases sj h;rfl
 intro t a28 e;subst e
 dsimp only at h
 conv=>lhs;whnf
 revert h
 exact rz
 exact rz
theorem Qt {n:Nat} ⦃A4:(List A3)⦄ ⦃r:(List A3)⦄:K1 n A4=some r→CN n 51 [AV.sl 5 (List.map A8 A4)] []=some (AV.sl 5 (List.map A8 r),[]):=by
 intro h;rcases n with _|n;cases h
 rw[K1] at h
 refine Ah Try.func51 (by rfl) rfl rfl (As rfl) ?_
 intro call hc;conv=>lhs;whnf
 revert h
 intro h;refine Ak h ?_;clear h;intro o10 ho10 h
 refine lq (σ:=(Int×(List A3))) (τ:=(List A3)) (ν:=(List A3)) 0 (fun(s1,s2) a4=>B2 41 [(0,AV.sl 5 (List.map A8 A4)),(3,AV.row 0 (List.length s2)),(4,iA s1)]) (fun(s1,s2) a4=>[Ob.row 72 5 (List.map A8 s2)]) (fun x28 a27=>B2 41 [(3,AV.row 0 (List.length x28))]) (fun x28 a27=>[Ob.row 72 5 (List.map A8 x28)]) (fun v=>(AV.sl 5 (List.map A8 v),[])) (fun k s=>Eb n A4 k s.1 s.2) (fun s=>rfl) o10 n (0,([]:List A3)) (fun _=>0) ho10 ?_ ?_
 intro k3 ss a4 K5 cont6 hK7 hcont8 h hr9
 obtain⟨s1,s2⟩:=ss
 replace h:Eb n A4 (k3+1) s1 s2=some o10:=h
 rw[Eb] at h
 conv=>lhs;whnf
 revert h
 refine br ?_ ?_
 refine ix ?_;intro x12
 refine br ?_ ?_
 refine ix ?_;intro x14
 refine ar (ap A8 (List.map A8 s2) s2 ([[iA x14.Bd,iA x14.De,sA x14.B5,sA x14.Em,iA x14.Bi]]) ([x14]:List A3)) ?_
 exact fun h=>cq (hcont8 (IntKind.i64.wrap (s1+1),(s2++([x14]:List A3))) (fun _=>0) h)
 refine ix ?_;intro x17
 refine br ?_ ?_
 refine ix ?_;intro x19
 refine ar (ap A8 (List.map A8 s2) s2 ([[iA x19.Bd,iA x19.De,sA x19.B5,sA x19.Em,iA x19.Bi]]) ([x19]:List A3)) ?_
 exact fun h=>cq (hcont8 (IntKind.i64.wrap (s1+1),(s2++([x19]:List A3))) (fun _=>0) h)
 refine ix ?_;intro x22
 refine br ?_ ?_
 refine ix ?_;intro x24
 refine ar (ap A8 (List.map A8 s2) s2 ([[iA x24.Bd,iA x24.De,sA x24.B5,sA x24.Em,iA x24.Bi]]) ([x24]:List A3)) ?_
 exact fun h=>cq (hcont8 (IntKind.i64.wrap (s1+1),(s2++([x24]:List A3))) (fun _=>0) h)
 exact fun h=>cq (hcont8 (IntKind.i64.wrap (s1+1),s2) (fun _=>0) h)
 intro h;cases sj h
 exact kq (hr9 (fun _=>0))
 refine lrc ?_ ?_
 intro v e;subst e;cases sj h;rfl
 intro x28 a27 e;subst e
 dsimp only at h
 conv=>lhs;whnf
 revert h
 intro h;obtain rfl:=sj h
 try simp only[ls]
 exact fq (y:=some (AV.sl 5 (List.take (List.length x28) (List.map A8 x28)),[]))
theorem S8 {n:Nat} ⦃Bz:Int⦄ ⦃r:Int⦄:Lm n Bz=some r→CN n 94 [iA Bz] []=some (iA r,[]):=by
 intro h;rcases n with _|n;cases h
 rw[Lm] at h
 refine Ah Try.func94 (by rfl) rfl rfl (As rfl) ?_
 intro call hc;conv=>lhs;whnf
 revert h
 refine br ?_ ?_
 refine br ?_ ?_
 exact rz
 refine br ?_ ?_
 exact rz
 refine br ?_ ?_
 refine br ?_ ?_
 exact rz
 exact rz
 exact rz
 refine br ?_ ?_
 exact rz
 refine br ?_ ?_
 refine br ?_ ?_
 exact rz
 exact rz
 exact rz
theorem Le {n:Nat} ⦃A4:(List A3)⦄ ⦃Cz:Int⦄ ⦃r:Int⦄:I5 n A4 Cz=some r→CN n 74 [AV.sl 5 (List.map A8 A4),iA Cz] []=some (iA r,[]):=by
 intro h;rcases n with _|n;cases h
 rw[I5] at h
 refine Ah Try.func74 (by rfl) rfl rfl (As rfl) ?_
 intro call hc;conv=>lhs;whnf
 revert h
 refine br ?_ ?_
 exact rz
 intro h;refine Ak h ?_;clear h;intro o11 ho11 h
 refine lq (σ:=(Int×Int)) (τ:=Unit) (ν:=Int) 0 (fun(s2,s3) a5=>B2 33 [(0,AV.sl 5 (List.map A8 A4)),(5,iA s2),(6,iA s3)]) (fun(s2,s3) a5=>[]) (fun _ a18=>B2 33 []) (fun _ a18=>[]) (fun v=>(iA v,[])) (fun k s=>Iy n A4 k s.1 s.2) (fun s=>rfl) o11 n (1,Cz) (fun _=>0) ho11 ?_ ?_
 intro k4 ss a5 K6 cont7 hK8 hcont9 h hr10
 obtain⟨s2,s3⟩:=ss
 replace h:Iy n A4 (k4+1) s2 s3=some o11:=h
 rw[Iy] at h
 conv=>lhs;whnf
 revert h
 refine br ?_ ?_
 refine ix ?_;intro x13
 refine ca hc (fun _ h=>S8 h) ?_;intro y14
 refine br ?_ ?_
 intro h;cases sj h
 refine(hK8 _ _).trans ?_
 refine Eq.trans ?_ (Eq.symm (show _=some _ from hr10))
 conv=>lhs;whnf
 exact rq
 refine br ?_ ?_
 intro h;cases sj h
 refine(hK8 _ _).trans ?_
 refine Eq.trans ?_ (Eq.symm (show _=some _ from hr10))
 conv=>lhs;whnf
 exact rq
 exact fun h=>cq (hcont9 (IntKind.i64.wrap ((IntKind.i64.wrap (s2 - 1))+y14),IntKind.i64.wrap (s3+1)) (fun _=>0) h)
 intro h;cases sj h
 exact kq (hr10 (fun _=>0))
 refine lrc ?_ ?_
 intro v e;subst e;cases sj h;rfl
 intro t a18 e;subst e
 dsimp only at h
 conv=>lhs;whnf
 revert h
 exact rz
def K3 (n:Nat):Prop:=∀ ⦃A4:(List A3)⦄ ⦃Cz:Int⦄ ⦃r:Int⦄,H8 n A4 Cz=some r→CN n 76 [AV.sl 5 (List.map A8 A4),iA Cz] []=some (iA r,[])
def Nf (n:Nat):Prop:=K3 n
theorem Yn (n:Nat) (ih:Nf n):K3 (n+1):=by
 intro A4 Cz r h
 rw[H8] at h
 refine Ah Try.func76 (by rfl) rfl rfl (As rfl) ?_
 intro call hc;conv=>lhs;whnf
 revert h
 intro h;refine Ak h ?_;clear h;intro o11 ho11 h
 refine lq (σ:=(Int×Int×Int)) (τ:=Int) (ν:=Int) 0 (fun(s1,s2,s3) a5=>B2 30 [(0,AV.sl 5 (List.map A8 A4)),(1,iA Cz),(5,iA s1),(6,iA s2),(7,iA s3)]) (fun(s1,s2,s3) a5=>[]) (fun x21 a20=>B2 30 [(5,iA x21)]) (fun x21 a20=>[]) (fun v=>(iA v,[])) (fun k s=>Hn n (H8 n) A4 Cz k s.1 s.2.1 s.2.2) (fun s=>rfl) o11 n (0,IntKind.i64.wrap (Cz+1),0) (fun _=>0) ho11 ?_ ?_
 intro k4 ss a5 K6 cont7 hK8 hcont9 h hr10
 obtain⟨s1,s2,s3⟩:=ss
 replace h:Hn n (H8 n) A4 Cz (k4+1) s1 s2 s3=some o11:=h
 rw[Hn] at h
 conv=>lhs;whnf
 revert h
 refine ix ?_;intro x12
 refine ca hc (fun _ h=>S8 h) ?_;intro y13
 refine br ?_ ?_
 refine ca hc (fun _ h=>ih h) ?_;intro y16
 refine ca hc (fun _ h=>Le h) ?_;intro y18
 exact fun h=>cq (hcont9 ((if s1<(IntKind.i64.wrap (1+y16)) then(IntKind.i64.wrap (1+y16)) else s1),y18,IntKind.i64.wrap (s3+1)) (fun _=>0) h)
 intro h;cases sj h
 exact kq (hr10 (fun _=>0))
 refine lrc ?_ ?_
 intro v e;subst e;cases sj h;rfl
 intro x21 a20 e;subst e
 dsimp only at h
 conv=>lhs;whnf
 revert h
 exact rz
theorem R4:∀ n,Nf n
 | 0=>by unfold Nf K3;intros;rename_i h;exact absurd h (by intro h;cases h)
 | n+1=>have ih:=R4 n
   Yn n ih
theorem Yw {n:Nat}:K3 n:=(R4 n)
theorem Y6 {n:Nat} ⦃Ag:A3⦄ ⦃r:Bool⦄:P0 n Ag=some r→CN n 75 [AV.agg [iA Ag.Bd,iA Ag.De,sA Ag.B5,sA Ag.Em,iA Ag.Bi]] []=some (bA r,[]):=by
 intro h;rcases n with _|n;cases h
 rw[P0] at h
 refine Ah Try.func75 (by rfl) rfl rfl (As rfl) ?_
 intro call hc;conv=>lhs;whnf
 revert h
 refine br ?_ ?_
 exact rz
 refine br ?_ ?_
 refine br ?_ ?_
 refine br ?_ ?_
 refine br ?_ ?_
 exact rz
 exact rz
 exact rz
 exact rz
 refine br ?_ ?_
 refine br ?_ ?_
 refine ca hc (fun _ h=>Dk h) ?_;intro y8
 refine br ?_ ?_
 exact rz
 exact rz
 exact rz
 refine br ?_ ?_
 refine br ?_ ?_
 refine ca hc (fun _ h=>Dk h) ?_;intro y13
 refine br ?_ ?_
 exact rz
 exact rz
 exact rz
 refine br ?_ ?_
 refine br ?_ ?_
 refine ca hc (fun _ h=>Dk h) ?_;intro y18
 refine br ?_ ?_
 refine ca hc (fun _ h=>Dk h) ?_;intro y21
 exact rz
 exact rz
 exact rz
 refine br ?_ ?_
 refine br ?_ ?_
 exact rz
 exact rz
 exact rz
theorem M3 {n:Nat} ⦃A4:(List A3)⦄ ⦃r:Bool⦄:Hw n A4=some r→CN n 52 [AV.sl 5 (List.map A8 A4)] []=some (bA r,[]):=by
 intro h;rcases n with _|n;cases h
 rw[Hw] at h
 refine Ah Try.func52 (by rfl) rfl rfl (As rfl) ?_
 intro call hc;conv=>lhs;whnf
 revert h
 refine br ?_ ?_
 exact rz
 refine br ?_ ?_
 exact rz
 refine ca hc (fun _ h=>Le h) ?_;intro y3
 refine br ?_ ?_
 exact rz
 intro h;refine Ak h ?_;clear h;intro o14 ho14 h
 refine lq (σ:=Int) (τ:=Unit) (ν:=Bool) 0 (fun s6 a8=>B2 34 [(0,AV.sl 5 (List.map A8 A4)),(3,iA s6)]) (fun s6 a8=>[]) (fun _ a20=>B2 34 [(0,AV.sl 5 (List.map A8 A4))]) (fun _ a20=>[]) (fun v=>(bA v,[])) (fun k s=>Gv n A4 k s) (fun s=>rfl) o14 n 0 (fun _=>0) ho14 ?_ ?_
 intro k7 s6 a8 K9 cont10 hK11 hcont12 h hr13
 replace h:Gv n A4 (k7+1) s6=some o14:=h
 rw[Gv] at h
 conv=>lhs;whnf
 revert h
 refine br ?_ ?_
 refine ix ?_;intro x16
 refine ca hc (fun _ h=>Y6 h) ?_;intro y17
 refine br ?_ ?_
 exact fun h=>cq (hcont12 (IntKind.i64.wrap (s6+1)) (fun _=>0) h)
 intro h;cases sj h
 refine(hK11 _ _).trans ?_
 refine Eq.trans ?_ (Eq.symm (show _=some _ from hr13))
 conv=>lhs;whnf
 exact rq
 intro h;cases sj h
 exact kq (hr13 (fun _=>0))
 refine lrc ?_ ?_
 intro v e;subst e;cases sj h;rfl
 intro t a20 e;subst e
 dsimp only at h
 conv=>lhs;whnf
 revert h
 refine ca hc (fun _ h=>Yw h) ?_;intro y21
 exact rz
theorem Xh {n:Nat} ⦃Bt:Int⦄ ⦃r:Bool⦄:N1 n Bt=some r→CN n 73 [iA Bt] []=some (bA r,[]):=by
 intro h;rcases n with _|n;cases h
 rw[N1] at h
 refine Ah Try.func73 (by rfl) rfl rfl (As rfl) ?_
 intro call hc;conv=>lhs;whnf
 revert h
 refine br ?_ ?_
 exact rz
 refine br ?_ ?_
 exact rz
 exact rz
theorem Yf {n:Nat} ⦃A4:(List A6)⦄ ⦃B7:Int⦄ ⦃Al:Int⦄ ⦃r:(List Int)⦄:Oz n A4 B7 Al=some r→CN n 72 [AV.sl 9 (List.map Am A4),iA B7,iA Al] []=some (AV.sl 1 (List.map Cf r),[]):=by
 intro h;rcases n with _|n;cases h
 rw[Oz] at h
 refine Ah Try.func72 (by rfl) rfl rfl (As rfl) ?_
 intro call hc;conv=>lhs;whnf
 revert h
 intro h;refine Ak h ?_;clear h;intro o10 ho10 h
 refine lq (σ:=(Int×(List Int))) (τ:=(List Int)) (ν:=(List Int)) 0 (fun(s1,s2) a4=>B2 30 [(0,AV.sl 9 (List.map Am A4)),(1,iA s1),(2,iA Al),(7,AV.row 0 (List.length s2))]) (fun(s1,s2) a4=>[Ob.row 3 1 (List.map Cf s2)]) (fun x17 a16=>B2 30 [(7,AV.row 0 (List.length x17))]) (fun x17 a16=>[Ob.row 3 1 (List.map Cf x17)]) (fun v=>(AV.sl 1 (List.map Cf v),[])) (fun k s=>Hl n A4 Al k s.1 s.2) (fun s=>rfl) o10 n (B7,([]:List Int)) (fun _=>0) ho10 ?_ ?_
 intro k3 ss a4 K5 cont6 hK7 hcont8 h hr9
 obtain⟨s1,s2⟩:=ss
 replace h:Hl n A4 Al (k3+1) s1 s2=some o10:=h
 rw[Hl] at h
 conv=>lhs;whnf
 revert h
 refine br ?_ ?_
 refine ar (ap Cf (List.map Cf s2) s2 ([[iA s1]]) ([s1]:List Int)) ?_
 refine ix ?_;intro x14
 refine ix ?_;intro x15
 exact fun h=>cq (hcont8 (IntKind.i64.wrap ((IntKind.i64.wrap ((IntKind.i64.wrap (s1+1))+x14.A7))+x15.Ae),(s2++([s1]:List Int))) (fun _=>0) h)
 intro h;cases sj h
 exact kq (hr9 (fun _=>0))
 refine lrc ?_ ?_
 intro v e;subst e;cases sj h;rfl
 intro x17 a16 e;subst e
 dsimp only at h
 conv=>lhs;whnf
 revert h
 intro h;obtain rfl:=sj h
 try simp only[ls]
 exact fq (y:=some (AV.sl 1 (List.take (List.length x17) (List.map Cf x17)),[]))
def K0 (n:Nat):Prop:=∀ ⦃A4:(List A6)⦄ ⦃B7:Int⦄ ⦃Al:Int⦄ ⦃r:Int⦄,Gn n A4 B7 Al=some r→CN n 50 [AV.sl 9 (List.map Am A4),iA B7,iA Al] []=some (iA r,[])
def Nh (n:Nat):Prop:=K0 n
theorem Yx (n:Nat) (ih:Nh n):K0 (n+1):=by
 intro A4 B7 Al r h
 rw[Gn] at h
 refine Ah Try.func50 (by rfl) rfl rfl (As rfl) ?_
 intro call hc;conv=>lhs;whnf
 revert h
 refine ca hc (fun _ h=>Yf h) ?_;intro y1
 intro h;refine Ak h ?_;clear h;intro o12 ho12 h
 refine lq (σ:=(Int×Int)) (τ:=Int) (ν:=Int) 0 (fun(s3,s4) a6=>B2 60 [(0,AV.sl 9 (List.map Am A4)),(7,iA s3),(8,AV.sl 1 (List.map Cf y1)),(9,iA s4)]) (fun(s3,s4) a6=>[]) (fun x26 a25=>B2 60 [(7,iA x26)]) (fun x26 a25=>[]) (fun v=>(iA v,[])) (fun k s=>Fw n (Gn n) A4 y1 k s.1 s.2) (fun s=>rfl) o12 n (0,0) (fun _=>0) ho12 ?_ ?_
 intro k5 ss a6 K7 cont8 hK9 hcont10 h hr11
 obtain⟨s3,s4⟩:=ss
 replace h:Fw n (Gn n) A4 y1 (k5+1) s3 s4=some o12:=h
 rw[Fw] at h
 conv=>lhs;whnf
 revert h
 refine br ?_ ?_
 refine ix ?_;intro x14
 refine ix ?_;intro x15
 refine ca hc (fun _ h=>Xh h) ?_;intro y16
 refine br ?_ ?_
 refine ix ?_;intro x19
 refine ix ?_;intro x20
 refine ca hc (fun _ h=>ih h) ?_;intro y21
 refine ca hc (fun _ h=>ih h) ?_;intro y23
 exact fun h=>cq (hcont10 (R8 s3 (IntKind.i64.wrap (1+y21)) (IntKind.i64.wrap (1+y23)),IntKind.i64.wrap (s4+1)) (fun _=>0) h)
 exact fun h=>cq (hcont10 (s3,IntKind.i64.wrap (s4+1)) (fun _=>0) h)
 intro h;cases sj h
 exact kq (hr11 (fun _=>0))
 refine lrc ?_ ?_
 intro v e;subst e;cases sj h;rfl
 intro x26 a25 e;subst e
 dsimp only at h
 conv=>lhs;whnf
 revert h
 exact rz
theorem Qy:∀ n,Nh n
 | 0=>by unfold Nh K0;intros;rename_i h;exact absurd h (by intro h;cases h)
 | n+1=>have ih:=Qy n
   Yx n ih
theorem Yo {n:Nat}:K0 n:=(Qy n)
theorem Gl {n:Nat} ⦃A4:(List A3)⦄ ⦃r:Bool⦄:F1 n A4=some r→CN n 71 [AV.sl 5 (List.map A8 A4)] []=some (bA r,[]):=by
 intro h;rcases n with _|n;cases h
 rw[F1] at h
 refine Ah Try.func71 (by rfl) rfl rfl (As rfl) ?_
 intro call hc;conv=>lhs;whnf
 revert h
 refine ca hc (fun _ h=>Qt h) ?_;intro y1
 intro h;refine Ak h ?_;clear h;intro o11 ho11 h
 refine lq (σ:=Int) (τ:=Unit) (ν:=Bool) 0 (fun s3 a5=>B2 21 [(0,AV.sl 5 (List.map A8 A4)),(3,AV.sl 5 (List.map A8 y1)),(4,iA s3)]) (fun s3 a5=>[]) (fun _ a15=>B2 21 [(0,AV.sl 5 (List.map A8 A4))]) (fun _ a15=>[]) (fun v=>(bA v,[])) (fun k s=>H2 n y1 k s) (fun s=>rfl) o11 n 0 (fun _=>0) ho11 ?_ ?_
 intro k4 s3 a5 K6 cont7 hK8 hcont9 h hr10
 replace h:H2 n y1 (k4+1) s3=some o11:=h
 rw[H2] at h
 conv=>lhs;whnf
 revert h
 refine br ?_ ?_
 refine ix ?_;intro x13
 refine br ?_ ?_
 intro h;cases sj h
 refine(hK8 _ _).trans ?_
 refine Eq.trans ?_ (Eq.symm (show _=some _ from hr10))
 conv=>lhs;whnf
 exact rq
 exact fun h=>cq (hcont9 (IntKind.i64.wrap (s3+1)) (fun _=>0) h)
 intro h;cases sj h
 exact kq (hr10 (fun _=>0))
 refine lrc ?_ ?_
 intro v e;subst e;cases sj h;rfl
 intro t a15 e;subst e
 dsimp only at h
 conv=>lhs;whnf
 revert h
 refine ca hc (fun _ h=>M3 h) ?_;intro y16
 exact rz
theorem Bl {n:Nat} ⦃A4:(List UInt8)⦄ ⦃Qi:Int⦄ ⦃r:Bool⦄:Bo n A4 Qi=some r→CN n 70 [sA A4,AV.int .u8 Qi] []=some (bA r,[]):=by
 intro h;rcases n with _|n;cases h
 rw[Bo] at h
 refine Ah Try.func70 (by rfl) rfl rfl (As rfl) ?_
 intro call hc;conv=>lhs;whnf
 revert h
 intro h;refine Ak h ?_;clear h;intro o9 ho9 h
 refine lq (σ:=Int) (τ:=Unit) (ν:=Bool) 0 (fun s1 a3=>B2 17 [(0,sA A4),(1,AV.int .u8 Qi),(5,iA s1)]) (fun s1 a3=>[]) (fun _ a13=>B2 17 []) (fun _ a13=>[]) (fun v=>(bA v,[])) (fun k s=>Io n A4 Qi k s) (fun s=>rfl) o9 n 0 (fun _=>0) ho9 ?_ ?_
 intro k2 s1 a3 K4 cont5 hK6 hcont7 h hr8
 replace h:Io n A4 Qi (k2+1) s1=some o9:=h
 rw[Io] at h
 conv=>lhs;whnf
 revert h
 refine br ?_ ?_
 refine ixs ?_;intro x11
 refine br ?_ ?_
 intro h;cases sj h
 refine(hK6 _ _).trans ?_
 refine Eq.trans ?_ (Eq.symm (show _=some _ from hr8))
 conv=>lhs;whnf
 exact rq
 exact fun h=>cq (hcont7 (IntKind.i64.wrap (s1+1)) (fun _=>0) h)
 intro h;cases sj h
 exact kq (hr8 (fun _=>0))
 refine lrc ?_ ?_
 intro v e;subst e;cases sj h;rfl
 intro t a13 e;subst e
 dsimp only at h
 conv=>lhs;whnf
 revert h
 exact rz
theorem X6 {n:Nat} ⦃Bt:Int⦄ ⦃r:((List UInt8)×Bool)⦄:N8 n Bt=some r→CN n 69 [iA Bt] []=some (AV.tup [sA r.1,bA r.2],[]):=by
 intro h;rcases n with _|n;cases h
 rw[N8] at h
 refine Ah Try.func69 (by rfl) rfl rfl (As rfl) ?_
 intro call hc;conv=>lhs;whnf
 revert h
 refine br ?_ ?_
 exact rz
 refine br ?_ ?_
 exact rz
 refine br ?_ ?_
 exact rz
 refine br ?_ ?_
 exact rz
 refine br ?_ ?_
 exact rz
 refine br ?_ ?_
 exact rz
 refine br ?_ ?_
 exact rz
 refine br ?_ ?_
 exact rz
 refine br ?_ ?_
 exact rz
 refine br ?_ ?_
 exact rz
 refine br ?_ ?_
 exact rz
 refine br ?_ ?_
 exact rz
 refine br ?_ ?_
 exact rz
 exact rz
theorem Zw {n:Nat} ⦃Ag:A6⦄ ⦃r:Bool⦄:Q4 n Ag=some r→CN n 49 [AV.agg [iA Ag.Ax,sA Ag.Ec,sA Ag.Cr,AV.sl 5 (List.map A8 Ag.Es),AV.sl 5 (List.map A8 Ag.F4),bA Ag.Ct,iA Ag.A7,iA Ag.Ae,iA Ag.Bi]] []=some (bA r,[]):=by
 intro h;rcases n with _|n;cases h
 rw[Q4] at h
 refine Ah Try.func49 (by rfl) rfl rfl (As rfl) ?_
 intro call hc;conv=>lhs;whnf
 revert h
 refine ca hc (fun _ h=>X6 h) ?_;intro y1
 refine br ?_ ?_
 refine br ?_ ?_
 exact rz
 refine rj (α:=Bool) (fun j5=>B2 117 [(1,AV.ptr 0 0),(3,sA y1.1),(51,bA j5)]) (fun _=>[Ob.var 69 [iA Ag.Ax,sA Ag.Ec,sA Ag.Cr,AV.sl 5 (List.map A8 Ag.Es),AV.sl 5 (List.map A8 Ag.F4),bA Ag.Ct,iA Ag.A7,iA Ag.Ae,iA Ag.Bi]]) ?_ ?_
 intro K122 b123 h;conv=>lhs;whnf
 revert h
 refine ca hc (fun _ h=>Bl h) ?_;intro y6
 refine ca hc (fun _ h=>Dk h) ?_;intro y8
 refine br ?_ ?_
 refine ca hc (fun _ h=>Bl h) ?_;intro y11
 refine br ?_ ?_
 refine ca hc (fun _ h=>Bl h) ?_;intro y14
 refine ca hc (fun _ h=>Dk h) ?_;intro y16
 refine br ?_ ?_
 refine ca hc (fun _ h=>Bl h) ?_;intro y19
 refine br ?_ ?_
 exact rz
 exact rz
 exact rz
 refine br ?_ ?_
 refine ca hc (fun _ h=>Bl h) ?_;intro y23
 refine ca hc (fun _ h=>Dk h) ?_;intro y25
 refine br ?_ ?_
 refine ca hc (fun _ h=>Bl h) ?_;intro y28
 refine br ?_ ?_
 exact rz
 exact rz
 exact rz
 exact rz
 exact rz
 intro j5 h;conv=>lhs;whnf
 revert h
 refine br ?_ ?_
 exact rz
 refine rj (α:=Bool) (fun j32=>B2 117 [(1,AV.ptr 0 0),(3,sA y1.1),(91,bA j32)]) (fun _=>[Ob.var 69 [iA Ag.Ax,sA Ag.Ec,sA Ag.Cr,AV.sl 5 (List.map A8 Ag.Es),AV.sl 5 (List.map A8 Ag.F4),bA Ag.Ct,iA Ag.A7,iA Ag.Ae,iA Ag.Bi]]) ?_ ?_
 intro K120 b121 h;conv=>lhs;whnf
 revert h
 refine ca hc (fun _ h=>Bl h) ?_;intro y33
 refine br ?_ ?_
 refine ca hc (fun _ h=>Gl h) ?_;intro y36
 refine br ?_ ?_
 refine ca hc (fun _ h=>Bl h) ?_;intro y39
 refine br ?_ ?_
 refine ca hc (fun _ h=>Bl h) ?_;intro y42
 refine br ?_ ?_
 refine ca hc (fun _ h=>Gl h) ?_;intro y45
 refine br ?_ ?_
 refine ca hc (fun _ h=>Bl h) ?_;intro y48
 refine br ?_ ?_
 exact rz
 exact rz
 exact rz
 refine ca hc (fun _ h=>Bl h) ?_;intro y51
 refine br ?_ ?_
 exact rz
 exact rz
 refine br ?_ ?_
 exact rz
 refine ca hc (fun _ h=>Bl h) ?_;intro y55
 refine br ?_ ?_
 refine ca hc (fun _ h=>Gl h) ?_;intro y58
 refine br ?_ ?_
 refine ca hc (fun _ h=>Bl h) ?_;intro y61
 refine br ?_ ?_
 exact rz
 exact rz
 exact rz
 refine ca hc (fun _ h=>Bl h) ?_;intro y64
 refine br ?_ ?_
 exact rz
 exact rz
 exact rz
 refine ca hc (fun _ h=>Bl h) ?_;intro y67
 refine br ?_ ?_
 refine ca hc (fun _ h=>Bl h) ?_;intro y70
 refine br ?_ ?_
 refine ca hc (fun _ h=>Gl h) ?_;intro y73
 refine br ?_ ?_
 refine ca hc (fun _ h=>Bl h) ?_;intro y76
 refine br ?_ ?_
 exact rz
 exact rz
 exact rz
 refine ca hc (fun _ h=>Bl h) ?_;intro y79
 refine br ?_ ?_
 exact rz
 exact rz
 refine br ?_ ?_
 exact rz
 refine ca hc (fun _ h=>Bl h) ?_;intro y83
 refine br ?_ ?_
 refine ca hc (fun _ h=>Gl h) ?_;intro y86
 refine br ?_ ?_
 refine ca hc (fun _ h=>Bl h) ?_;intro y89
 refine br ?_ ?_
 exact rz
 exact rz
 exact rz
 refine ca hc (fun _ h=>Bl h) ?_;intro y92
 refine br ?_ ?_
 exact rz
 exact rz
 intro j32 h;conv=>lhs;whnf
 revert h
 refine br ?_ ?_
 exact rz
 refine ca hc (fun _ h=>Bl h) ?_;intro y96
 refine br ?_ ?_
 refine ca hc (fun _ h=>Bl h) ?_;intro y99
 refine br ?_ ?_
 refine ca hc (fun _ h=>Bl h) ?_;intro y102
 refine br ?_ ?_
 exact rz
 exact rz
 refine br ?_ ?_
 refine ca hc (fun _ h=>Bl h) ?_;intro y106
 refine br ?_ ?_
 exact rz
 exact rz
 exact rz
 refine br ?_ ?_
 exact rz
 refine ca hc (fun _ h=>Bl h) ?_;intro y110
 refine br ?_ ?_
 refine ca hc (fun _ h=>Bl h) ?_;intro y113
 refine br ?_ ?_
 exact rz
 exact rz
 refine br ?_ ?_
 refine ca hc (fun _ h=>Bl h) ?_;intro y117
 refine br ?_ ?_
 exact rz
 exact rz
 exact rz
 exact rz
def J5 (n:Nat):Prop:=∀ ⦃A4:(List A6)⦄ ⦃B7:Int⦄ ⦃Al:Int⦄ ⦃r:Bool⦄,G1 n A4 B7 Al=some r→CN n 48 [AV.sl 9 (List.map Am A4),iA B7,iA Al] []=some (bA r,[])
def M9 (n:Nat):Prop:=J5 n
theorem Ws (n:Nat) (ih:M9 n):J5 (n+1):=by
 intro A4 B7 Al r h
 rw[G1] at h
 refine Ah Try.func48 (by rfl) rfl rfl (As rfl) ?_
 intro call hc;conv=>lhs;whnf
 revert h
 intro h;refine Ak h ?_;clear h;intro o9 ho9 h
 refine lq (σ:=Int) (τ:=Unit) (ν:=Bool) 0 (fun s1 a3=>B2 70 [(0,AV.sl 9 (List.map Am A4)),(1,iA s1),(2,iA Al)]) (fun s1 a3=>[]) (fun _ a22=>B2 70 []) (fun _ a22=>[]) (fun v=>(bA v,[])) (fun k s=>Gq n (G1 n) A4 Al k s) (fun s=>rfl) o9 n B7 (fun _=>0) ho9 ?_ ?_
 intro k2 s1 a3 K4 cont5 hK6 hcont7 h hr8
 replace h:Gq n (G1 n) A4 Al (k2+1) s1=some o9:=h
 rw[Gq] at h
 conv=>lhs;whnf
 revert h
 refine br ?_ ?_
 refine ix ?_;intro x11
 refine br ?_ ?_
 intro h;cases sj h
 refine(hK6 _ _).trans ?_
 refine Eq.trans ?_ (Eq.symm (show _=some _ from hr8))
 conv=>lhs;whnf
 exact rq
 refine br ?_ ?_
 intro h;cases sj h
 refine(hK6 _ _).trans ?_
 refine Eq.trans ?_ (Eq.symm (show _=some _ from hr8))
 conv=>lhs;whnf
 exact rq
 refine br ?_ ?_
 intro h;cases sj h
 refine(hK6 _ _).trans ?_
 refine Eq.trans ?_ (Eq.symm (show _=some _ from hr8))
 conv=>lhs;whnf
 exact rq
 refine br ?_ ?_
 intro h;cases sj h
 refine(hK6 _ _).trans ?_
 refine Eq.trans ?_ (Eq.symm (show _=some _ from hr8))
 conv=>lhs;whnf
 exact rq
 refine ca hc (fun _ h=>ih h) ?_;intro y16
 refine br ?_ ?_
 refine ca hc (fun _ h=>ih h) ?_;intro y19
 refine br ?_ ?_
 exact fun h=>cq (hcont7 (IntKind.i64.wrap ((IntKind.i64.wrap ((IntKind.i64.wrap (s1+1))+x11.A7))+x11.Ae)) (fun _=>0) h)
 intro h;cases sj h
 refine(hK6 _ _).trans ?_
 refine Eq.trans ?_ (Eq.symm (show _=some _ from hr8))
 conv=>lhs;whnf
 exact rq
 intro h;cases sj h
 refine(hK6 _ _).trans ?_
 refine Eq.trans ?_ (Eq.symm (show _=some _ from hr8))
 conv=>lhs;whnf
 exact rq
 intro h;cases sj h
 exact kq (hr8 (fun _=>0))
 refine lrc ?_ ?_
 intro v e;subst e;cases sj h;rfl
 intro t a22 e;subst e
 dsimp only at h
 conv=>lhs;whnf
 revert h
 exact rz
theorem Pj:∀ n,M9 n
 | 0=>by unfold M9 J5;intros;rename_i h;exact absurd h (by intro h;cases h)
 | n+1=>have ih:=Pj n
   Ws n ih
theorem Wl {n:Nat}:J5 n:=(Pj n)
theorem Wr {n:Nat} ⦃A4:(List A6)⦄ ⦃r:Bool⦄:N3 n A4=some r→CN n 33 [AV.sl 9 (List.map Am A4)] []=some (bA r,[]):=by
 intro h;rcases n with _|n;cases h
 rw[N3] at h
 refine Ah Try.func33 (by rfl) rfl rfl (As rfl) ?_
 intro call hc;conv=>lhs;whnf
 revert h
 refine br ?_ ?_
 exact rz
 refine cr hc (fun _ h=>Wl h) ?_;intro y2
 refine br ?_ ?_
 intro h;refine Ak h ?_;clear h;intro o13 ho13 h
 refine lq (σ:=Int) (τ:=Unit) (ν:=Bool) 0 (fun s5 a7=>B2 31 [(0,AV.sl 9 (List.map Am A4)),(3,iA s5)]) (fun s5 a7=>[]) (fun _ a19=>B2 31 [(0,AV.sl 9 (List.map Am A4))]) (fun _ a19=>[]) (fun v=>(bA v,[])) (fun k s=>Gm n A4 k s) (fun s=>rfl) o13 n 0 (fun _=>0) ho13 ?_ ?_
 intro k6 s5 a7 K8 cont9 hK10 hcont11 h hr12
 replace h:Gm n A4 (k6+1) s5=some o13:=h
 rw[Gm] at h
 conv=>lhs;whnf
 revert h
 refine br ?_ ?_
 refine ix ?_;intro x15
 refine ca hc (fun _ h=>Zw h) ?_;intro y16
 refine br ?_ ?_
 exact fun h=>cq (hcont11 (IntKind.i64.wrap (s5+1)) (fun _=>0) h)
 intro h;cases sj h
 refine(hK10 _ _).trans ?_
 refine Eq.trans ?_ (Eq.symm (show _=some _ from hr12))
 conv=>lhs;whnf
 exact rq
 intro h;cases sj h
 exact kq (hr12 (fun _=>0))
 refine lrc ?_ ?_
 intro v e;subst e;cases sj h;rfl
 intro t a19 e;subst e
 dsimp only at h
 conv=>lhs;whnf
 revert h
 refine cr hc (fun _ h=>Yo h) ?_;intro y20
 exact rz
 exact rz
theorem Uk {n:Nat} ⦃A4:(List A3)⦄ ⦃r:Bool⦄:L4 n A4=some r→CN n 34 [AV.sl 5 (List.map A8 A4)] []=some (bA r,[]):=by
 intro h;rcases n with _|n;cases h
 rw[L4] at h
 refine Ah Try.func34 (by rfl) rfl rfl (As rfl) ?_
 intro call hc;conv=>lhs;whnf
 revert h
 refine ca hc (fun _ h=>Qt h) ?_;intro y1
 intro h;refine Ak h ?_;clear h;intro o11 ho11 h
 refine lq (σ:=Int) (τ:=Unit) (ν:=Bool) 0 (fun s3 a5=>B2 21 [(0,AV.sl 5 (List.map A8 A4)),(3,AV.sl 5 (List.map A8 y1)),(4,iA s3)]) (fun s3 a5=>[]) (fun _ a15=>B2 21 [(0,AV.sl 5 (List.map A8 A4))]) (fun _ a15=>[]) (fun v=>(bA v,[])) (fun k s=>Fl n y1 k s) (fun s=>rfl) o11 n 0 (fun _=>0) ho11 ?_ ?_
 intro k4 s3 a5 K6 cont7 hK8 hcont9 h hr10
 replace h:Fl n y1 (k4+1) s3=some o11:=h
 rw[Fl] at h
 conv=>lhs;whnf
 revert h
 refine br ?_ ?_
 refine ix ?_;intro x13
 refine br ?_ ?_
 intro h;cases sj h
 refine(hK8 _ _).trans ?_
 refine Eq.trans ?_ (Eq.symm (show _=some _ from hr10))
 conv=>lhs;whnf
 exact rq
 exact fun h=>cq (hcont9 (IntKind.i64.wrap (s3+1)) (fun _=>0) h)
 intro h;cases sj h
 exact kq (hr10 (fun _=>0))
 refine lrc ?_ ?_
 intro v e;subst e;cases sj h;rfl
 intro t a15 e;subst e
 dsimp only at h
 conv=>lhs;whnf
 revert h
 refine ca hc (fun _ h=>M3 h) ?_;intro y16
 exact rz
theorem U1 {n:Nat} ⦃B9:Int⦄ ⦃r:Bool⦄:Nk n B9=some r→CN n 31 [iA B9] []=some (bA r,[]):=by
 intro h;rcases n with _|n;cases h
 rw[Nk] at h
 refine Ah Try.func31 (by rfl) rfl rfl (As rfl) ?_
 intro call hc;conv=>lhs;whnf
 revert h
 refine br ?_ ?_
 exact rz
 exact rz
theorem Xg {n:Nat} ⦃A5:Aq⦄ ⦃r:Bool⦄:N0 n A5=some r→CN n 25 [AV.agg [iA A5.B8,AV.sl 3 (List.map Ad A5.B4),AV.sl 4 (List.map Ab A5.An),AV.sl 3 (List.map Ac A5.Au)]] []=some (bA r,[]):=by
 intro h;rcases n with _|n;cases h
 rw[N0] at h
 refine Ah Try.func25 (by rfl) rfl rfl (As rfl) ?_
 intro call hc;conv=>lhs;whnf
 revert h
 refine ca hc (fun _ h=>U1 h) ?_;intro y1
 refine br ?_ ?_
 intro h;refine Ak h ?_;clear h;intro o12 ho12 h
 refine lq (σ:=Int) (τ:=Unit) (ν:=Bool) 0 (fun s4 a6=>B2 119 [(1,AV.ptr 0 0),(3,iA s4)]) (fun s4 a6=>[Ob.var 26 [iA A5.B8,AV.sl 3 (List.map Ad A5.B4),AV.sl 4 (List.map Ab A5.An),AV.sl 3 (List.map Ac A5.Au)]]) (fun _ a24=>B2 119 [(1,AV.ptr 0 0)]) (fun _ a24=>[Ob.var 26 [iA A5.B8,AV.sl 3 (List.map Ad A5.B4),AV.sl 4 (List.map Ab A5.An),AV.sl 3 (List.map Ac A5.Au)]]) (fun v=>(bA v,[])) (fun k s=>Gt n A5 k s) (fun s=>rfl) o12 n 0 (fun _=>0) ho12 ?_ ?_
 intro k5 s4 a6 K7 cont8 hK9 hcont10 h hr11
 replace h:Gt n A5 (k5+1) s4=some o12:=h
 rw[Gt] at h
 conv=>lhs;whnf
 revert h
 refine br ?_ ?_
 refine ix ?_;intro x14
 refine ca hc (fun _ h=>Dk h) ?_;intro y15
 refine br ?_ ?_
 refine ix ?_;intro x18
 refine ca hc (fun _ h=>U1 h) ?_;intro y19
 refine br ?_ ?_
 refine ix ?_;intro x22
 refine br ?_ ?_
 intro h;cases sj h
 refine(hK9 _ _).trans ?_
 refine Eq.trans ?_ (Eq.symm (show _=some _ from hr11))
 conv=>lhs;whnf
 exact rq
 exact fun h=>cq (hcont10 (IntKind.i64.wrap (s4+1)) (fun _=>0) h)
 intro h;cases sj h
 refine(hK9 _ _).trans ?_
 refine Eq.trans ?_ (Eq.symm (show _=some _ from hr11))
 conv=>lhs;whnf
 exact rq
 intro h;cases sj h
 refine(hK9 _ _).trans ?_
 refine Eq.trans ?_ (Eq.symm (show _=some _ from hr11))
 conv=>lhs;whnf
 exact rq
 intro h;cases sj h
 exact kq (hr11 (fun _=>0))
 refine lrc ?_ ?_
 intro v e;subst e;cases sj h;rfl
 intro t a24 e;subst e
 dsimp only at h
 conv=>lhs;whnf
 revert h
 intro h;refine Ak h ?_;clear h;intro o33 ho33 h
 refine lq (σ:=Int) (τ:=Unit) (ν:=Bool) 2 (fun s25 a27=>B2 119 [(1,AV.ptr 0 0),(4,iA s25)]) (fun s25 a27=>[Ob.var 26 [iA A5.B8,AV.sl 3 (List.map Ad A5.B4),AV.sl 4 (List.map Ab A5.An),AV.sl 3 (List.map Ac A5.Au)]]) (fun _ a59=>B2 119 [(1,AV.ptr 0 0)]) (fun _ a59=>[Ob.var 26 [iA A5.B8,AV.sl 3 (List.map Ad A5.B4),AV.sl 4 (List.map Ab A5.An),AV.sl 3 (List.map Ac A5.Au)]]) (fun v=>(bA v,[])) (fun k s=>H7 n A5 k s) (fun s=>rfl) o33 n 0 (fun _=>0) ho33 ?_ ?_
 intro k26 s25 a27 K28 cont29 hK30 hcont31 h hr32
 replace h:H7 n A5 (k26+1) s25=some o33:=h
 rw[H7] at h
 conv=>lhs;whnf
 revert h
 refine br ?_ ?_
 refine ix ?_;intro x35
 refine ca hc (fun _ h=>Dk h) ?_;intro y36
 refine br ?_ ?_
 refine ca hc (fun _ h=>Wr h) ?_;intro y39
 refine br ?_ ?_
 refine br ?_ ?_
 intro h;cases sj h
 refine(hK30 _ _).trans ?_
 refine Eq.trans ?_ (Eq.symm (show _=some _ from hr32))
 conv=>lhs;whnf
 exact rq
 intro h;refine Ak h ?_;clear h;intro o51 ho51 h
 refine lq (σ:=Int) (τ:=Unit) (ν:=Bool) 4 (fun s43 a45=>B2 119 [(1,AV.ptr 0 0),(4,iA s25),(5,AV.ptr 1 0),(6,iA s43)]) (fun s43 a45=>[Ob.var 26 [iA A5.B8,AV.sl 3 (List.map Ad A5.B4),AV.sl 4 (List.map Ab A5.An),AV.sl 3 (List.map Ac A5.Au)],Ob.var 51 [sA x35.B5,AV.sl 1 (List.map Aw x35.Bu),AV.sl 9 (List.map Am x35.A7),iA x35.Bi]]) (fun _ a57=>B2 119 [(1,AV.ptr 0 0),(4,iA s25)]) (fun _ a57=>[Ob.var 26 [iA A5.B8,AV.sl 3 (List.map Ad A5.B4),AV.sl 4 (List.map Ab A5.An),AV.sl 3 (List.map Ac A5.Au)],Ob.var 51 [sA x35.B5,AV.sl 1 (List.map Aw x35.Bu),AV.sl 9 (List.map Am x35.A7),iA x35.Bi]]) (fun v=>(bA v,[])) (fun k s=>Gu n x35 k s) (fun s=>rfl) o51 n 0 (fun _=>0) ho51 ?_ ?_
 intro k44 s43 a45 K46 cont47 hK48 hcont49 h hr50
 replace h:Gu n x35 (k44+1) s43=some o51:=h
 rw[Gu] at h
 conv=>lhs;whnf
 revert h
 refine br ?_ ?_
 refine ix ?_;intro x53
 refine ca hc (fun _ h=>Dk h) ?_;intro y54
 refine br ?_ ?_
 exact fun h=>cq (hcont49 (IntKind.i64.wrap (s43+1)) (fun _=>0) h)
 intro h;cases sj h
 refine(hK48 _ _).trans ?_
 conv=>lhs;whnf
 refine(hK30 _ _).trans ?_
 refine Eq.trans ?_ (Eq.symm (show _=some _ from hr50))
 conv=>lhs;whnf
 exact rq
 intro h;cases sj h
 exact kq (hr50 (fun _=>0))
 refine lrc ?_ ?_
 intro v e;subst e;cases sj h;exact hr32
 intro t a57 e;subst e
 dsimp only at h
 conv=>lhs;whnf
 revert h
 exact fun h=>cq (hcont31 (IntKind.i64.wrap (s25+1)) (fun _=>0) h)
 intro h;cases sj h
 refine(hK30 _ _).trans ?_
 refine Eq.trans ?_ (Eq.symm (show _=some _ from hr32))
 conv=>lhs;whnf
 exact rq
 intro h;cases sj h
 refine(hK30 _ _).trans ?_
 refine Eq.trans ?_ (Eq.symm (show _=some _ from hr32))
 conv=>lhs;whnf
 exact rq
 intro h;cases sj h
 exact kq (hr32 (fun _=>0))
 refine lrc ?_ ?_
 intro v e;subst e;cases sj h;rfl
 intro t a59 e;subst e
 dsimp only at h
 conv=>lhs;whnf
 revert h
 intro h;refine Ak h ?_;clear h;intro o68 ho68 h
 refine lq (σ:=Int) (τ:=Unit) (ν:=Bool) 6 (fun s60 a62=>B2 119 [(1,AV.ptr 0 0),(7,iA s60)]) (fun s60 a62=>[Ob.var 26 [iA A5.B8,AV.sl 3 (List.map Ad A5.B4),AV.sl 4 (List.map Ab A5.An),AV.sl 3 (List.map Ac A5.Au)]]) (fun _ a77=>B2 119 []) (fun _ a77=>[Ob.var 26 [iA A5.B8,AV.sl 3 (List.map Ad A5.B4),AV.sl 4 (List.map Ab A5.An),AV.sl 3 (List.map Ac A5.Au)]]) (fun v=>(bA v,[])) (fun k s=>H0 n A5 k s) (fun s=>rfl) o68 n 0 (fun _=>0) ho68 ?_ ?_
 intro k61 s60 a62 K63 cont64 hK65 hcont66 h hr67
 replace h:H0 n A5 (k61+1) s60=some o68:=h
 rw[H0] at h
 conv=>lhs;whnf
 revert h
 refine br ?_ ?_
 refine ix ?_;intro x70
 refine br ?_ ?_
 intro h;cases sj h
 refine(hK65 _ _).trans ?_
 refine Eq.trans ?_ (Eq.symm (show _=some _ from hr67))
 conv=>lhs;whnf
 exact rq
 refine br ?_ ?_
 intro h;cases sj h
 refine(hK65 _ _).trans ?_
 refine Eq.trans ?_ (Eq.symm (show _=some _ from hr67))
 conv=>lhs;whnf
 exact rq
 refine ca hc (fun _ h=>Uk h) ?_;intro y73
 refine br ?_ ?_
 refine br ?_ ?_
 intro h;cases sj h
 refine(hK65 _ _).trans ?_
 refine Eq.trans ?_ (Eq.symm (show _=some _ from hr67))
 conv=>lhs;whnf
 exact rq
 exact fun h=>cq (hcont66 (IntKind.i64.wrap (s60+1)) (fun _=>0) h)
 intro h;cases sj h
 refine(hK65 _ _).trans ?_
 refine Eq.trans ?_ (Eq.symm (show _=some _ from hr67))
 conv=>lhs;whnf
 exact rq
 intro h;cases sj h
 exact kq (hr67 (fun _=>0))
 refine lrc ?_ ?_
 intro v e;subst e;cases sj h;rfl
 intro t a77 e;subst e
 dsimp only at h
 conv=>lhs;whnf
 revert h
 exact rz
 exact rz
theorem Br {n:Nat} ⦃A4:(List (List UInt8))⦄ ⦃Er:(List UInt8)⦄ ⦃r:Int⦄:Bp n A4 Er=some r→CN n 35 [AV.sl 1 (List.map Aw A4),sA Er] []=some (iA r,[]):=by
 intro h;rcases n with _|n;cases h
 rw[Bp] at h
 refine Ah Try.func35 (by rfl) rfl rfl (As rfl) ?_
 intro call hc;conv=>lhs;whnf
 revert h
 intro h;refine Ak h ?_;clear h;intro o9 ho9 h
 refine lq (σ:=Int) (τ:=Unit) (ν:=Int) 0 (fun s1 a3=>B2 19 [(0,AV.sl 1 (List.map Aw A4)),(1,sA Er),(5,iA s1)]) (fun s1 a3=>[]) (fun _ a13=>B2 19 []) (fun _ a13=>[]) (fun v=>(iA v,[])) (fun k s=>Gy n A4 Er k s) (fun s=>rfl) o9 n 0 (fun _=>0) ho9 ?_ ?_
 intro k2 s1 a3 K4 cont5 hK6 hcont7 h hr8
 replace h:Gy n A4 Er (k2+1) s1=some o9:=h
 rw[Gy] at h
 conv=>lhs;whnf
 revert h
 refine br ?_ ?_
 refine ix ?_;intro x11
 refine br ?_ ?_
 intro h;cases sj h
 refine(hK6 _ _).trans ?_
 refine Eq.trans ?_ (Eq.symm (show _=some _ from hr8))
 conv=>lhs;whnf
 exact rq
 exact fun h=>cq (hcont7 (IntKind.i64.wrap (s1+1)) (fun _=>0) h)
 intro h;cases sj h
 exact kq (hr8 (fun _=>0))
 refine lrc ?_ ?_
 intro v e;subst e;cases sj h;rfl
 intro t a13 e;subst e
 dsimp only at h
 conv=>lhs;whnf
 revert h
 exact rz
theorem El {n:Nat} ⦃A5:Aq⦄ ⦃r:(List (List UInt8))⦄:Dz n A5=some r→CN n 15 [AV.agg [iA A5.B8,AV.sl 3 (List.map Ad A5.B4),AV.sl 4 (List.map Ab A5.An),AV.sl 3 (List.map Ac A5.Au)]] []=some (AV.sl 1 (List.map Aw r),[]):=by
 intro h;rcases n with _|n;cases h
 rw[Dz] at h
 refine Ah Try.func15 (by rfl) rfl rfl (As rfl) ?_
 intro call hc;conv=>lhs;whnf
 revert h
 intro h;refine Ak h ?_;clear h;intro o10 ho10 h
 refine lq (σ:=(Int×(List (List UInt8)))) (τ:=(List (List UInt8))) (ν:=(List (List UInt8))) 0 (fun(s1,s2) a4=>B2 22 [(1,AV.ptr 0 0),(3,AV.row 1 (List.length s2)),(4,iA s1)]) (fun(s1,s2) a4=>[Ob.var 26 [iA A5.B8,AV.sl 3 (List.map Ad A5.B4),AV.sl 4 (List.map Ab A5.An),AV.sl 3 (List.map Ac A5.Au)],Ob.row 9 1 (List.map Aw s2)]) (fun x16 a15=>B2 22 [(3,AV.row 1 (List.length x16))]) (fun x16 a15=>[Ob.var 26 [iA A5.B8,AV.sl 3 (List.map Ad A5.B4),AV.sl 4 (List.map Ab A5.An),AV.sl 3 (List.map Ac A5.Au)],Ob.row 9 1 (List.map Aw x16)]) (fun v=>(AV.sl 1 (List.map Aw v),[])) (fun k s=>Ht n A5 k s.1 s.2) (fun s=>rfl) o10 n (0,([]:List (List UInt8))) (fun _=>0) ho10 ?_ ?_
 intro k3 ss a4 K5 cont6 hK7 hcont8 h hr9
 obtain⟨s1,s2⟩:=ss
 replace h:Ht n A5 (k3+1) s1 s2=some o10:=h
 rw[Ht] at h
 conv=>lhs;whnf
 revert h
 refine br ?_ ?_
 refine ix ?_;intro x12
 refine ar (ap Aw (List.map Aw s2) s2 ([[sA x12.B5]]) ([x12.B5]:List (List UInt8))) ?_
 exact fun h=>cq (hcont8 (IntKind.i64.wrap (s1+1),(s2++([x12.B5]:List (List UInt8)))) (fun _=>0) h)
 intro h;cases sj h
 exact kq (hr9 (fun _=>0))
 refine lrc ?_ ?_
 intro v e;subst e;cases sj h;rfl
 intro x16 a15 e;subst e
 dsimp only at h
 conv=>lhs;whnf
 revert h
 intro h;obtain rfl:=sj h
 try simp only[ls]
 exact fq (y:=some (AV.sl 1 (List.take (List.length x16) (List.map Aw x16)),[]))
theorem Kl {n:Nat} ⦃A5:Aq⦄ ⦃r:(List (List UInt8))⦄:G5 n A5=some r→CN n 36 [AV.agg [iA A5.B8,AV.sl 3 (List.map Ad A5.B4),AV.sl 4 (List.map Ab A5.An),AV.sl 3 (List.map Ac A5.Au)]] []=some (AV.sl 1 (List.map Aw r),[]):=by
 intro h;rcases n with _|n;cases h
 rw[G5] at h
 refine Ah Try.func36 (by rfl) rfl rfl (As rfl) ?_
 intro call hc;conv=>lhs;whnf
 revert h
 intro h;refine Ak h ?_;clear h;intro o10 ho10 h
 refine lq (σ:=(Int×(List (List UInt8)))) (τ:=(List (List UInt8))) (ν:=(List (List UInt8))) 0 (fun(s1,s2) a4=>B2 22 [(1,AV.ptr 0 0),(3,AV.row 1 (List.length s2)),(4,iA s1)]) (fun(s1,s2) a4=>[Ob.var 26 [iA A5.B8,AV.sl 3 (List.map Ad A5.B4),AV.sl 4 (List.map Ab A5.An),AV.sl 3 (List.map Ac A5.Au)],Ob.row 9 1 (List.map Aw s2)]) (fun x16 a15=>B2 22 [(3,AV.row 1 (List.length x16))]) (fun x16 a15=>[Ob.var 26 [iA A5.B8,AV.sl 3 (List.map Ad A5.B4),AV.sl 4 (List.map Ab A5.An),AV.sl 3 (List.map Ac A5.Au)],Ob.row 9 1 (List.map Aw x16)]) (fun v=>(AV.sl 1 (List.map Aw v),[])) (fun k s=>Ff n A5 k s.1 s.2) (fun s=>rfl) o10 n (0,([]:List (List UInt8))) (fun _=>0) ho10 ?_ ?_
 intro k3 ss a4 K5 cont6 hK7 hcont8 h hr9
 obtain⟨s1,s2⟩:=ss
 replace h:Ff n A5 (k3+1) s1 s2=some o10:=h
 rw[Ff] at h
 conv=>lhs;whnf
 revert h
 refine br ?_ ?_
 refine ix ?_;intro x12
 refine ar (ap Aw (List.map Aw s2) s2 ([[sA x12.B5]]) ([x12.B5]:List (List UInt8))) ?_
 exact fun h=>cq (hcont8 (IntKind.i64.wrap (s1+1),(s2++([x12.B5]:List (List UInt8)))) (fun _=>0) h)
 intro h;cases sj h
 exact kq (hr9 (fun _=>0))
 refine lrc ?_ ?_
 intro v e;subst e;cases sj h;rfl
 intro x16 a15 e;subst e
 dsimp only at h
 conv=>lhs;whnf
 revert h
 intro h;obtain rfl:=sj h
 try simp only[ls]
 exact fq (y:=some (AV.sl 1 (List.take (List.length x16) (List.map Aw x16)),[]))
theorem Vn {n:Nat} ⦃A5:Aq⦄ ⦃r:(Int×Int)⦄:Lt n A5=some r→CN n 28 [AV.agg [iA A5.B8,AV.sl 3 (List.map Ad A5.B4),AV.sl 4 (List.map Ab A5.An),AV.sl 3 (List.map Ac A5.Au)]] []=some (AV.tup [iA r.1,iA r.2],[]):=by
 intro h;rcases n with _|n;cases h
 rw[Lt] at h
 refine Ah Try.func28 (by rfl) rfl rfl (As rfl) ?_
 intro call hc;conv=>lhs;whnf
 revert h
 intro h;refine Ak h ?_;clear h;intro o9 ho9 h
 refine lq (σ:=Int) (τ:=Unit) (ν:=(Int×Int)) 0 (fun s1 a3=>B2 89 [(1,AV.ptr 0 0),(4,iA s1)]) (fun s1 a3=>[Ob.var 26 [iA A5.B8,AV.sl 3 (List.map Ad A5.B4),AV.sl 4 (List.map Ab A5.An),AV.sl 3 (List.map Ac A5.Au)]]) (fun _ a61=>B2 89 []) (fun _ a61=>[Ob.var 26 [iA A5.B8,AV.sl 3 (List.map Ad A5.B4),AV.sl 4 (List.map Ab A5.An),AV.sl 3 (List.map Ac A5.Au)]]) (fun v=>(AV.tup [iA v.1,iA v.2],[])) (fun k s=>Gc n A5 k s) (fun s=>rfl) o9 n 0 (fun _=>0) ho9 ?_ ?_
 intro k2 s1 a3 K4 cont5 hK6 hcont7 h hr8
 replace h:Gc n A5 (k2+1) s1=some o9:=h
 rw[Gc] at h
 conv=>lhs;whnf
 revert h
 refine br ?_ ?_
 refine br ?_ ?_
 refine ix ?_;intro x12
 intro h;cases sj h
 refine(hK6 _ _).trans ?_
 refine Eq.trans ?_ (Eq.symm (show _=some _ from hr8))
 conv=>lhs;whnf
 exact rq
 refine ix ?_;intro x13
 intro h;refine Ak h ?_;clear h;intro o22 ho22 h
 refine lq (σ:=Int) (τ:=Unit) (ν:=(Int×Int)) 2 (fun s14 a16=>B2 89 [(1,AV.ptr 0 0),(4,iA s1),(5,AV.sl 5 (List.map A8 x13.Es)),(6,iA s14)]) (fun s14 a16=>[Ob.var 26 [iA A5.B8,AV.sl 3 (List.map Ad A5.B4),AV.sl 4 (List.map Ab A5.An),AV.sl 3 (List.map Ac A5.Au)]]) (fun _ a59=>B2 89 [(1,AV.ptr 0 0),(4,iA s1)]) (fun _ a59=>[Ob.var 26 [iA A5.B8,AV.sl 3 (List.map Ad A5.B4),AV.sl 4 (List.map Ab A5.An),AV.sl 3 (List.map Ac A5.Au)]]) (fun v=>(AV.tup [iA v.1,iA v.2],[])) (fun k s=>Cj n A5 x13 k s) (fun s=>rfl) o22 n 0 (fun _=>0) ho22 ?_ ?_
 intro k15 s14 a16 K17 cont18 hK19 hcont20 h hr21
 replace h:Cj n A5 x13 (k15+1) s14=some o22:=h
 rw[Cj] at h
 conv=>lhs;whnf
 revert h
 refine br ?_ ?_
 refine ix ?_;intro x24
 refine br ?_ ?_
 refine ca hc (fun _ h=>El h) ?_;intro y26
 refine ca hc (fun _ h=>Br h) ?_;intro y28
 refine br ?_ ?_
 intro h;cases sj h
 refine(hK19 _ _).trans ?_
 conv=>lhs;whnf
 refine(hK6 _ _).trans ?_
 refine Eq.trans ?_ (Eq.symm (show _=some _ from hr21))
 conv=>lhs;whnf
 exact rq
 refine br ?_ ?_
 refine ca hc (fun _ h=>Kl h) ?_;intro y32
 refine ca hc (fun _ h=>Br h) ?_;intro y34
 refine br ?_ ?_
 intro h;cases sj h
 refine(hK19 _ _).trans ?_
 conv=>lhs;whnf
 refine(hK6 _ _).trans ?_
 refine Eq.trans ?_ (Eq.symm (show _=some _ from hr21))
 conv=>lhs;whnf
 exact rq
 refine ix ?_;intro x37
 refine ca hc (fun _ h=>Br h) ?_;intro y38
 refine br ?_ ?_
 intro h;cases sj h
 refine(hK19 _ _).trans ?_
 conv=>lhs;whnf
 refine(hK6 _ _).trans ?_
 refine Eq.trans ?_ (Eq.symm (show _=some _ from hr21))
 conv=>lhs;whnf
 exact rq
 refine br ?_ ?_
 refine br ?_ ?_
 intro h;cases sj h
 refine(hK19 _ _).trans ?_
 conv=>lhs;whnf
 refine(hK6 _ _).trans ?_
 refine Eq.trans ?_ (Eq.symm (show _=some _ from hr21))
 conv=>lhs;whnf
 exact rq
 exact fun h=>cq (hcont20 (IntKind.i64.wrap (s14+1)) (fun _=>0) h)
 exact fun h=>cq (hcont20 (IntKind.i64.wrap (s14+1)) (fun _=>0) h)
 refine br ?_ ?_
 refine br ?_ ?_
 intro h;cases sj h
 refine(hK19 _ _).trans ?_
 conv=>lhs;whnf
 refine(hK6 _ _).trans ?_
 refine Eq.trans ?_ (Eq.symm (show _=some _ from hr21))
 conv=>lhs;whnf
 exact rq
 exact fun h=>cq (hcont20 (IntKind.i64.wrap (s14+1)) (fun _=>0) h)
 exact fun h=>cq (hcont20 (IntKind.i64.wrap (s14+1)) (fun _=>0) h)
 refine br ?_ ?_
 refine ca hc (fun _ h=>Kl h) ?_;intro y46
 refine ca hc (fun _ h=>Br h) ?_;intro y48
 refine br ?_ ?_
 intro h;cases sj h
 refine(hK19 _ _).trans ?_
 conv=>lhs;whnf
 refine(hK6 _ _).trans ?_
 refine Eq.trans ?_ (Eq.symm (show _=some _ from hr21))
 conv=>lhs;whnf
 exact rq
 refine ix ?_;intro x51
 refine ca hc (fun _ h=>Br h) ?_;intro y52
 refine br ?_ ?_
 intro h;cases sj h
 refine(hK19 _ _).trans ?_
 conv=>lhs;whnf
 refine(hK6 _ _).trans ?_
 refine Eq.trans ?_ (Eq.symm (show _=some _ from hr21))
 conv=>lhs;whnf
 exact rq
 refine br ?_ ?_
 refine br ?_ ?_
 intro h;cases sj h
 refine(hK19 _ _).trans ?_
 conv=>lhs;whnf
 refine(hK6 _ _).trans ?_
 refine Eq.trans ?_ (Eq.symm (show _=some _ from hr21))
 conv=>lhs;whnf
 exact rq
 exact fun h=>cq (hcont20 (IntKind.i64.wrap (s14+1)) (fun _=>0) h)
 exact fun h=>cq (hcont20 (IntKind.i64.wrap (s14+1)) (fun _=>0) h)
 refine br ?_ ?_
 refine br ?_ ?_
 intro h;cases sj h
 refine(hK19 _ _).trans ?_
 conv=>lhs;whnf
 refine(hK6 _ _).trans ?_
 refine Eq.trans ?_ (Eq.symm (show _=some _ from hr21))
 conv=>lhs;whnf
 exact rq
 exact fun h=>cq (hcont20 (IntKind.i64.wrap (s14+1)) (fun _=>0) h)
 exact fun h=>cq (hcont20 (IntKind.i64.wrap (s14+1)) (fun _=>0) h)
 intro h;cases sj h
 exact kq (hr21 (fun _=>0))
 refine lrc ?_ ?_
 intro v e;subst e;cases sj h;exact hr8
 intro t a59 e;subst e
 dsimp only at h
 conv=>lhs;whnf
 revert h
 exact fun h=>cq (hcont7 (IntKind.i64.wrap (s1+1)) (fun _=>0) h)
 intro h;cases sj h
 exact kq (hr8 (fun _=>0))
 refine lrc ?_ ?_
 intro v e;subst e;cases sj h;rfl
 intro t a61 e;subst e
 dsimp only at h
 conv=>lhs;whnf
 revert h
 exact rz
theorem Yd {n:Nat} ⦃A5:Aq⦄ ⦃r:(Int×Int)⦄:On n A5=some r→CN n 26 [AV.agg [iA A5.B8,AV.sl 3 (List.map Ad A5.B4),AV.sl 4 (List.map Ab A5.An),AV.sl 3 (List.map Ac A5.Au)]] []=some (AV.tup [iA r.1,iA r.2],[]):=by
 intro h;rcases n with _|n;cases h
 rw[On] at h
 refine Ah Try.func26 (by rfl) rfl rfl (As rfl) ?_
 intro call hc;conv=>lhs;whnf
 revert h
 refine ca hc (fun _ h=>El h) ?_;intro y1
 intro h;refine Ak h ?_;clear h;intro o11 ho11 h
 refine lq (σ:=Int) (τ:=Unit) (ν:=(Int×Int)) 0 (fun s3 a5=>B2 40 [(1,AV.ptr 0 0),(4,AV.sl 1 (List.map Aw y1)),(5,iA s3)]) (fun s3 a5=>[Ob.var 26 [iA A5.B8,AV.sl 3 (List.map Ad A5.B4),AV.sl 4 (List.map Ab A5.An),AV.sl 3 (List.map Ac A5.Au)]]) (fun _ a19=>B2 40 []) (fun _ a19=>[Ob.var 26 [iA A5.B8,AV.sl 3 (List.map Ad A5.B4),AV.sl 4 (List.map Ab A5.An),AV.sl 3 (List.map Ac A5.Au)]]) (fun v=>(AV.tup [iA v.1,iA v.2],[])) (fun k s=>Hy n A5 y1 k s) (fun s=>rfl) o11 n 0 (fun _=>0) ho11 ?_ ?_
 intro k4 s3 a5 K6 cont7 hK8 hcont9 h hr10
 replace h:Hy n A5 y1 (k4+1) s3=some o11:=h
 rw[Hy] at h
 conv=>lhs;whnf
 revert h
 refine br ?_ ?_
 refine ix ?_;intro x13
 refine br ?_ ?_
 intro h;cases sj h
 refine(hK8 _ _).trans ?_
 refine Eq.trans ?_ (Eq.symm (show _=some _ from hr10))
 conv=>lhs;whnf
 exact rq
 refine ca hc (fun _ h=>Br h) ?_;intro y15
 refine br ?_ ?_
 intro h;cases sj h
 refine(hK8 _ _).trans ?_
 refine Eq.trans ?_ (Eq.symm (show _=some _ from hr10))
 conv=>lhs;whnf
 exact rq
 refine br ?_ ?_
 intro h;cases sj h
 refine(hK8 _ _).trans ?_
 refine Eq.trans ?_ (Eq.symm (show _=some _ from hr10))
 conv=>lhs;whnf
 exact rq
 exact fun h=>cq (hcont9 (IntKind.i64.wrap (s3+1)) (fun _=>0) h)
 intro h;cases sj h
 exact kq (hr10 (fun _=>0))
 refine lrc ?_ ?_
 intro v e;subst e;cases sj h;rfl
 intro t a19 e;subst e
 dsimp only at h
 conv=>lhs;whnf
 revert h
 exact rz
theorem V1 {n:Nat} ⦃A4:(List A6)⦄ ⦃Ik:Int⦄ ⦃r:Bool⦄:M1 n A4 Ik=some r→CN n 53 [AV.sl 9 (List.map Am A4),iA Ik] []=some (bA r,[]):=by
 intro h;rcases n with _|n;cases h
 rw[M1] at h
 refine Ah Try.func53 (by rfl) rfl rfl (As rfl) ?_
 intro call hc;conv=>lhs;whnf
 revert h
 intro h;refine Ak h ?_;clear h;intro o9 ho9 h
 refine lq (σ:=Int) (τ:=Unit) (ν:=Bool) 0 (fun s1 a3=>B2 36 [(0,AV.sl 9 (List.map Am A4)),(1,iA Ik),(5,iA s1)]) (fun s1 a3=>[]) (fun _ a19=>B2 36 []) (fun _ a19=>[]) (fun v=>(bA v,[])) (fun k s=>Ef n A4 Ik k s) (fun s=>rfl) o9 n 0 (fun _=>0) ho9 ?_ ?_
 intro k2 s1 a3 K4 cont5 hK6 hcont7 h hr8
 replace h:Ef n A4 Ik (k2+1) s1=some o9:=h
 rw[Ef] at h
 conv=>lhs;whnf
 revert h
 refine br ?_ ?_
 refine ix ?_;intro x11
 refine br ?_ ?_
 refine ix ?_;intro x13
 refine br ?_ ?_
 intro h;cases sj h
 refine(hK6 _ _).trans ?_
 refine Eq.trans ?_ (Eq.symm (show _=some _ from hr8))
 conv=>lhs;whnf
 exact rq
 exact fun h=>cq (hcont7 (IntKind.i64.wrap (s1+1)) (fun _=>0) h)
 refine ix ?_;intro x15
 refine br ?_ ?_
 refine ix ?_;intro x17
 refine br ?_ ?_
 intro h;cases sj h
 refine(hK6 _ _).trans ?_
 refine Eq.trans ?_ (Eq.symm (show _=some _ from hr8))
 conv=>lhs;whnf
 exact rq
 exact fun h=>cq (hcont7 (IntKind.i64.wrap (s1+1)) (fun _=>0) h)
 exact fun h=>cq (hcont7 (IntKind.i64.wrap (s1+1)) (fun _=>0) h)
 intro h;cases sj h
 exact kq (hr8 (fun _=>0))
 refine lrc ?_ ?_
 intro v e;subst e;cases sj h;rfl
 intro t a19 e;subst e
 dsimp only at h
 conv=>lhs;whnf
 revert h
 exact rz
theorem C6 {n:Nat} ⦃A5:Aq⦄ ⦃C8:(List (List UInt8))⦄ ⦃Fv:(List A3)⦄ ⦃r:(Int×Int)⦄:C4 n A5 C8 Fv=some r→CN n 54 [AV.agg [iA A5.B8,AV.sl 3 (List.map Ad A5.B4),AV.sl 4 (List.map Ab A5.An),AV.sl 3 (List.map Ac A5.Au)],AV.sl 1 (List.map Aw C8),AV.sl 5 (List.map A8 Fv)] []=some (AV.tup [iA r.1,iA r.2],[]):=by
 intro h;rcases n with _|n;cases h
 rw[C4] at h
 refine Ah Try.func54 (by rfl) rfl rfl (As rfl) ?_
 intro call hc;conv=>lhs;whnf
 revert h
 intro h;refine Ak h ?_;clear h;intro o9 ho9 h
 refine lq (σ:=Int) (τ:=Unit) (ν:=(Int×Int)) 0 (fun s1 a3=>B2 57 [(1,AV.sl 1 (List.map Aw C8)),(2,AV.sl 5 (List.map A8 Fv)),(3,AV.ptr 0 0),(8,iA s1)]) (fun s1 a3=>[Ob.var 26 [iA A5.B8,AV.sl 3 (List.map Ad A5.B4),AV.sl 4 (List.map Ab A5.An),AV.sl 3 (List.map Ac A5.Au)]]) (fun _ a28=>B2 57 []) (fun _ a28=>[Ob.var 26 [iA A5.B8,AV.sl 3 (List.map Ad A5.B4),AV.sl 4 (List.map Ab A5.An),AV.sl 3 (List.map Ac A5.Au)]]) (fun v=>(AV.tup [iA v.1,iA v.2],[])) (fun k s=>E7 n A5 C8 Fv k s) (fun s=>rfl) o9 n 0 (fun _=>0) ho9 ?_ ?_
 intro k2 s1 a3 K4 cont5 hK6 hcont7 h hr8
 replace h:E7 n A5 C8 Fv (k2+1) s1=some o9:=h
 rw[E7] at h
 conv=>lhs;whnf
 revert h
 refine br ?_ ?_
 refine ix ?_;intro x11
 refine br ?_ ?_
 refine ix ?_;intro x13
 refine ca hc (fun _ h=>Br h) ?_;intro y14
 refine br ?_ ?_
 refine ix ?_;intro x17
 intro h;cases sj h
 refine(hK6 _ _).trans ?_
 refine Eq.trans ?_ (Eq.symm (show _=some _ from hr8))
 conv=>lhs;whnf
 exact rq
 refine ix ?_;intro x18
 refine br ?_ ?_
 refine ix ?_;intro x20
 refine br ?_ ?_
 refine ix ?_;intro x22
 intro h;cases sj h
 refine(hK6 _ _).trans ?_
 refine Eq.trans ?_ (Eq.symm (show _=some _ from hr8))
 conv=>lhs;whnf
 exact rq
 exact fun h=>cq (hcont7 (IntKind.i64.wrap (s1+1)) (fun _=>0) h)
 exact fun h=>cq (hcont7 (IntKind.i64.wrap (s1+1)) (fun _=>0) h)
 refine ix ?_;intro x23
 refine br ?_ ?_
 refine ix ?_;intro x25
 refine br ?_ ?_
 refine ix ?_;intro x27
 intro h;cases sj h
 refine(hK6 _ _).trans ?_
 refine Eq.trans ?_ (Eq.symm (show _=some _ from hr8))
 conv=>lhs;whnf
 exact rq
 exact fun h=>cq (hcont7 (IntKind.i64.wrap (s1+1)) (fun _=>0) h)
 exact fun h=>cq (hcont7 (IntKind.i64.wrap (s1+1)) (fun _=>0) h)
 intro h;cases sj h
 exact kq (hr8 (fun _=>0))
 refine lrc ?_ ?_
 intro v e;subst e;cases sj h;rfl
 intro t a28 e;subst e
 dsimp only at h
 conv=>lhs;whnf
 revert h
 exact rz
theorem Yu {n:Nat} ⦃A5:Aq⦄ ⦃Cl:Aa⦄ ⦃r:(Int×Int)⦄:Oh n A5 Cl=some r→CN n 37 [AV.agg [iA A5.B8,AV.sl 3 (List.map Ad A5.B4),AV.sl 4 (List.map Ab A5.An),AV.sl 3 (List.map Ac A5.Au)],AV.agg [sA Cl.B5,AV.sl 1 (List.map Aw Cl.Bu),AV.sl 9 (List.map Am Cl.A7),iA Cl.Bi]] []=some (AV.tup [iA r.1,iA r.2],[]):=by
 intro h;rcases n with _|n;cases h
 rw[Oh] at h
 refine Ah Try.func37 (by rfl) rfl rfl (As rfl) ?_
 intro call hc;conv=>lhs;whnf
 revert h
 intro h;refine Ak h ?_;clear h;intro o9 ho9 h
 refine lq (σ:=Int) (τ:=Unit) (ν:=(Int×Int)) 0 (fun s1 a3=>B2 88 [(2,AV.ptr 0 0),(3,AV.ptr 1 0),(6,iA s1)]) (fun s1 a3=>[Ob.var 26 [iA A5.B8,AV.sl 3 (List.map Ad A5.B4),AV.sl 4 (List.map Ab A5.An),AV.sl 3 (List.map Ac A5.Au)],Ob.var 51 [sA Cl.B5,AV.sl 1 (List.map Aw Cl.Bu),AV.sl 9 (List.map Am Cl.A7),iA Cl.Bi]]) (fun _ a96=>B2 88 []) (fun _ a96=>[Ob.var 26 [iA A5.B8,AV.sl 3 (List.map Ad A5.B4),AV.sl 4 (List.map Ab A5.An),AV.sl 3 (List.map Ac A5.Au)],Ob.var 51 [sA Cl.B5,AV.sl 1 (List.map Aw Cl.Bu),AV.sl 9 (List.map Am Cl.A7),iA Cl.Bi]]) (fun v=>(AV.tup [iA v.1,iA v.2],[])) (fun k s=>Cv n A5 Cl k s) (fun s=>rfl) o9 n 0 (fun _=>0) ho9 ?_ ?_
 intro k2 s1 a3 K4 cont5 hK6 hcont7 h hr8
 replace h:Cv n A5 Cl (k2+1) s1=some o9:=h
 rw[Cv] at h
 conv=>lhs;whnf
 revert h
 refine br ?_ ?_
 refine ix ?_;intro x11
 refine br ?_ ?_
 refine ca hc (fun _ h=>V1 h) ?_;intro y13
 refine br ?_ ?_
 refine br ?_ ?_
 refine br ?_ ?_
 refine ca hc (fun _ h=>C6 h) ?_;intro y18
 refine br ?_ ?_
 intro h;cases sj h
 refine(hK6 _ _).trans ?_
 refine Eq.trans ?_ (Eq.symm (show _=some _ from hr8))
 conv=>lhs;whnf
 exact rq
 refine ca hc (fun _ h=>C6 h) ?_;intro y21
 refine br ?_ ?_
 intro h;cases sj h
 refine(hK6 _ _).trans ?_
 refine Eq.trans ?_ (Eq.symm (show _=some _ from hr8))
 conv=>lhs;whnf
 exact rq
 exact fun h=>cq (hcont7 (IntKind.i64.wrap (s1+1)) (fun _=>0) h)
 refine ca hc (fun _ h=>El h) ?_;intro y24
 refine ca hc (fun _ h=>Br h) ?_;intro y26
 refine br ?_ ?_
 intro h;cases sj h
 refine(hK6 _ _).trans ?_
 refine Eq.trans ?_ (Eq.symm (show _=some _ from hr8))
 conv=>lhs;whnf
 exact rq
 refine ca hc (fun _ h=>C6 h) ?_;intro y29
 refine br ?_ ?_
 intro h;cases sj h
 refine(hK6 _ _).trans ?_
 refine Eq.trans ?_ (Eq.symm (show _=some _ from hr8))
 conv=>lhs;whnf
 exact rq
 refine ca hc (fun _ h=>C6 h) ?_;intro y32
 refine br ?_ ?_
 intro h;cases sj h
 refine(hK6 _ _).trans ?_
 refine Eq.trans ?_ (Eq.symm (show _=some _ from hr8))
 conv=>lhs;whnf
 exact rq
 exact fun h=>cq (hcont7 (IntKind.i64.wrap (s1+1)) (fun _=>0) h)
 refine ca hc (fun _ h=>Br h) ?_;intro y35
 refine br ?_ ?_
 intro h;cases sj h
 refine(hK6 _ _).trans ?_
 refine Eq.trans ?_ (Eq.symm (show _=some _ from hr8))
 conv=>lhs;whnf
 exact rq
 refine br ?_ ?_
 refine ca hc (fun _ h=>C6 h) ?_;intro y39
 refine br ?_ ?_
 intro h;cases sj h
 refine(hK6 _ _).trans ?_
 refine Eq.trans ?_ (Eq.symm (show _=some _ from hr8))
 conv=>lhs;whnf
 exact rq
 refine ca hc (fun _ h=>C6 h) ?_;intro y42
 refine br ?_ ?_
 intro h;cases sj h
 refine(hK6 _ _).trans ?_
 refine Eq.trans ?_ (Eq.symm (show _=some _ from hr8))
 conv=>lhs;whnf
 exact rq
 exact fun h=>cq (hcont7 (IntKind.i64.wrap (s1+1)) (fun _=>0) h)
 refine ca hc (fun _ h=>El h) ?_;intro y45
 refine ca hc (fun _ h=>Br h) ?_;intro y47
 refine br ?_ ?_
 intro h;cases sj h
 refine(hK6 _ _).trans ?_
 refine Eq.trans ?_ (Eq.symm (show _=some _ from hr8))
 conv=>lhs;whnf
 exact rq
 refine ca hc (fun _ h=>C6 h) ?_;intro y50
 refine br ?_ ?_
 intro h;cases sj h
 refine(hK6 _ _).trans ?_
 refine Eq.trans ?_ (Eq.symm (show _=some _ from hr8))
 conv=>lhs;whnf
 exact rq
 refine ca hc (fun _ h=>C6 h) ?_;intro y53
 refine br ?_ ?_
 intro h;cases sj h
 refine(hK6 _ _).trans ?_
 refine Eq.trans ?_ (Eq.symm (show _=some _ from hr8))
 conv=>lhs;whnf
 exact rq
 exact fun h=>cq (hcont7 (IntKind.i64.wrap (s1+1)) (fun _=>0) h)
 intro h;cases sj h
 refine(hK6 _ _).trans ?_
 refine Eq.trans ?_ (Eq.symm (show _=some _ from hr8))
 conv=>lhs;whnf
 exact rq
 refine br ?_ ?_
 refine br ?_ ?_
 refine ca hc (fun _ h=>C6 h) ?_;intro y58
 refine br ?_ ?_
 intro h;cases sj h
 refine(hK6 _ _).trans ?_
 refine Eq.trans ?_ (Eq.symm (show _=some _ from hr8))
 conv=>lhs;whnf
 exact rq
 refine ca hc (fun _ h=>C6 h) ?_;intro y61
 refine br ?_ ?_
 intro h;cases sj h
 refine(hK6 _ _).trans ?_
 refine Eq.trans ?_ (Eq.symm (show _=some _ from hr8))
 conv=>lhs;whnf
 exact rq
 exact fun h=>cq (hcont7 (IntKind.i64.wrap (s1+1)) (fun _=>0) h)
 refine ca hc (fun _ h=>El h) ?_;intro y64
 refine ca hc (fun _ h=>Br h) ?_;intro y66
 refine br ?_ ?_
 intro h;cases sj h
 refine(hK6 _ _).trans ?_
 refine Eq.trans ?_ (Eq.symm (show _=some _ from hr8))
 conv=>lhs;whnf
 exact rq
 refine ca hc (fun _ h=>C6 h) ?_;intro y69
 refine br ?_ ?_
 intro h;cases sj h
 refine(hK6 _ _).trans ?_
 refine Eq.trans ?_ (Eq.symm (show _=some _ from hr8))
 conv=>lhs;whnf
 exact rq
 refine ca hc (fun _ h=>C6 h) ?_;intro y72
 refine br ?_ ?_
 intro h;cases sj h
 refine(hK6 _ _).trans ?_
 refine Eq.trans ?_ (Eq.symm (show _=some _ from hr8))
 conv=>lhs;whnf
 exact rq
 exact fun h=>cq (hcont7 (IntKind.i64.wrap (s1+1)) (fun _=>0) h)
 refine ca hc (fun _ h=>Br h) ?_;intro y75
 refine br ?_ ?_
 intro h;cases sj h
 refine(hK6 _ _).trans ?_
 refine Eq.trans ?_ (Eq.symm (show _=some _ from hr8))
 conv=>lhs;whnf
 exact rq
 refine br ?_ ?_
 refine ca hc (fun _ h=>C6 h) ?_;intro y79
 refine br ?_ ?_
 intro h;cases sj h
 refine(hK6 _ _).trans ?_
 refine Eq.trans ?_ (Eq.symm (show _=some _ from hr8))
 conv=>lhs;whnf
 exact rq
 refine ca hc (fun _ h=>C6 h) ?_;intro y82
 refine br ?_ ?_
 intro h;cases sj h
 refine(hK6 _ _).trans ?_
 refine Eq.trans ?_ (Eq.symm (show _=some _ from hr8))
 conv=>lhs;whnf
 exact rq
 exact fun h=>cq (hcont7 (IntKind.i64.wrap (s1+1)) (fun _=>0) h)
 refine ca hc (fun _ h=>El h) ?_;intro y85
 refine ca hc (fun _ h=>Br h) ?_;intro y87
 refine br ?_ ?_
 intro h;cases sj h
 refine(hK6 _ _).trans ?_
 refine Eq.trans ?_ (Eq.symm (show _=some _ from hr8))
 conv=>lhs;whnf
 exact rq
 refine ca hc (fun _ h=>C6 h) ?_;intro y90
 refine br ?_ ?_
 intro h;cases sj h
 refine(hK6 _ _).trans ?_
 refine Eq.trans ?_ (Eq.symm (show _=some _ from hr8))
 conv=>lhs;whnf
 exact rq
 refine ca hc (fun _ h=>C6 h) ?_;intro y93
 refine br ?_ ?_
 intro h;cases sj h
 refine(hK6 _ _).trans ?_
 refine Eq.trans ?_ (Eq.symm (show _=some _ from hr8))
 conv=>lhs;whnf
 exact rq
 exact fun h=>cq (hcont7 (IntKind.i64.wrap (s1+1)) (fun _=>0) h)
 intro h;cases sj h
 exact kq (hr8 (fun _=>0))
 refine lrc ?_ ?_
 intro v e;subst e;cases sj h;rfl
 intro t a96 e;subst e
 dsimp only at h
 conv=>lhs;whnf
 revert h
 exact rz
theorem Ui {n:Nat} ⦃A5:Aq⦄ ⦃r:(Int×Int)⦄:Lh n A5=some r→CN n 27 [AV.agg [iA A5.B8,AV.sl 3 (List.map Ad A5.B4),AV.sl 4 (List.map Ab A5.An),AV.sl 3 (List.map Ac A5.Au)]] []=some (AV.tup [iA r.1,iA r.2],[]):=by
 intro h;rcases n with _|n;cases h
 rw[Lh] at h
 refine Ah Try.func27 (by rfl) rfl rfl (As rfl) ?_
 intro call hc;conv=>lhs;whnf
 revert h
 refine br ?_ ?_
 exact rz
 refine ca hc (fun _ h=>Kl h) ?_;intro y2
 intro h;refine Ak h ?_;clear h;intro o12 ho12 h
 refine lq (σ:=Int) (τ:=Unit) (ν:=(Int×Int)) 0 (fun s4 a6=>B2 86 [(1,AV.ptr 0 0),(4,AV.sl 1 (List.map Aw y2)),(5,iA s4)]) (fun s4 a6=>[Ob.var 26 [iA A5.B8,AV.sl 3 (List.map Ad A5.B4),AV.sl 4 (List.map Ab A5.An),AV.sl 3 (List.map Ac A5.Au)]]) (fun _ a45=>B2 86 []) (fun _ a45=>[Ob.var 26 [iA A5.B8,AV.sl 3 (List.map Ad A5.B4),AV.sl 4 (List.map Ab A5.An),AV.sl 3 (List.map Ac A5.Au)]]) (fun v=>(AV.tup [iA v.1,iA v.2],[])) (fun k s=>Fh n A5 y2 k s) (fun s=>rfl) o12 n 0 (fun _=>0) ho12 ?_ ?_
 intro k5 s4 a6 K7 cont8 hK9 hcont10 h hr11
 replace h:Fh n A5 y2 (k5+1) s4=some o12:=h
 rw[Fh] at h
 conv=>lhs;whnf
 revert h
 refine br ?_ ?_
 refine ix ?_;intro x14
 refine br ?_ ?_
 intro h;cases sj h
 refine(hK9 _ _).trans ?_
 refine Eq.trans ?_ (Eq.symm (show _=some _ from hr11))
 conv=>lhs;whnf
 exact rq
 refine ca hc (fun _ h=>Br h) ?_;intro y16
 refine br ?_ ?_
 intro h;cases sj h
 refine(hK9 _ _).trans ?_
 refine Eq.trans ?_ (Eq.symm (show _=some _ from hr11))
 conv=>lhs;whnf
 exact rq
 refine br ?_ ?_
 intro h;cases sj h
 refine(hK9 _ _).trans ?_
 refine Eq.trans ?_ (Eq.symm (show _=some _ from hr11))
 conv=>lhs;whnf
 exact rq
 intro h;refine Ak h ?_;clear h;intro o28 ho28 h
 refine lq (σ:=Int) (τ:=Unit) (ν:=(Int×Int)) 2 (fun s20 a22=>B2 86 [(1,AV.ptr 0 0),(4,AV.sl 1 (List.map Aw y2)),(5,iA s4),(6,AV.ptr 1 0),(7,iA s20)]) (fun s20 a22=>[Ob.var 26 [iA A5.B8,AV.sl 3 (List.map Ad A5.B4),AV.sl 4 (List.map Ab A5.An),AV.sl 3 (List.map Ac A5.Au)],Ob.var 51 [sA x14.B5,AV.sl 1 (List.map Aw x14.Bu),AV.sl 9 (List.map Am x14.A7),iA x14.Bi]]) (fun _ a40=>B2 86 [(1,AV.ptr 0 0),(4,AV.sl 1 (List.map Aw y2)),(5,iA s4),(6,AV.ptr 1 0)]) (fun _ a40=>[Ob.var 26 [iA A5.B8,AV.sl 3 (List.map Ad A5.B4),AV.sl 4 (List.map Ab A5.An),AV.sl 3 (List.map Ac A5.Au)],Ob.var 51 [sA x14.B5,AV.sl 1 (List.map Aw x14.Bu),AV.sl 9 (List.map Am x14.A7),iA x14.Bi]]) (fun v=>(AV.tup [iA v.1,iA v.2],[])) (fun k s=>Fe n A5 x14 k s) (fun s=>rfl) o28 n 0 (fun _=>0) ho28 ?_ ?_
 intro k21 s20 a22 K23 cont24 hK25 hcont26 h hr27
 replace h:Fe n A5 x14 (k21+1) s20=some o28:=h
 rw[Fe] at h
 conv=>lhs;whnf
 revert h
 refine br ?_ ?_
 refine ix ?_;intro x30
 refine ca hc (fun _ h=>Br h) ?_;intro y31
 refine br ?_ ?_
 intro h;cases sj h
 refine(hK25 _ _).trans ?_
 conv=>lhs;whnf
 refine(hK9 _ _).trans ?_
 refine Eq.trans ?_ (Eq.symm (show _=some _ from hr27))
 conv=>lhs;whnf
 exact rq
 refine ca hc (fun _ h=>El h) ?_;intro y34
 refine ix ?_;intro x36
 refine ca hc (fun _ h=>Br h) ?_;intro y37
 refine br ?_ ?_
 intro h;cases sj h
 refine(hK25 _ _).trans ?_
 conv=>lhs;whnf
 refine(hK9 _ _).trans ?_
 refine Eq.trans ?_ (Eq.symm (show _=some _ from hr27))
 conv=>lhs;whnf
 exact rq
 exact fun h=>cq (hcont26 (IntKind.i64.wrap (s20+1)) (fun _=>0) h)
 intro h;cases sj h
 exact kq (hr27 (fun _=>0))
 refine lrc ?_ ?_
 intro v e;subst e;cases sj h;exact hr11
 intro t a40 e;subst e
 dsimp only at h
 conv=>lhs;whnf
 revert h
 refine ca hc (fun _ h=>Yu h) ?_;intro y41
 refine br ?_ ?_
 intro h;cases sj h
 refine(hK9 _ _).trans ?_
 refine Eq.trans ?_ (Eq.symm (show _=some _ from hr11))
 conv=>lhs;whnf
 exact rq
 exact fun h=>cq (hcont10 (IntKind.i64.wrap (s4+1)) (fun _=>0) h)
 intro h;cases sj h
 exact kq (hr11 (fun _=>0))
 refine lrc ?_ ?_
 intro v e;subst e;cases sj h;rfl
 intro t a45 e;subst e
 dsimp only at h
 conv=>lhs;whnf
 revert h
 exact rz
theorem X4 {n:Nat} ⦃A5:Aq⦄ ⦃r:(Int×Int)⦄:Nd n A5=some r→CN n 13 [AV.agg [iA A5.B8,AV.sl 3 (List.map Ad A5.B4),AV.sl 4 (List.map Ab A5.An),AV.sl 3 (List.map Ac A5.Au)]] []=some (AV.tup [iA r.1,iA r.2],[]):=by
 intro h;rcases n with _|n;cases h
 rw[Nd] at h
 refine Ah Try.func13 (by rfl) rfl rfl (As rfl) ?_
 intro call hc;conv=>lhs;whnf
 revert h
 refine ca hc (fun _ h=>Xg h) ?_;intro y1
 refine br ?_ ?_
 refine br ?_ ?_
 exact rz
 refine br ?_ ?_
 exact rz
 refine ca hc (fun _ h=>Yd h) ?_;intro y6
 refine br ?_ ?_
 exact rz
 refine ca hc (fun _ h=>Ui h) ?_;intro y9
 refine br ?_ ?_
 exact rz
 refine ca hc (fun _ h=>Vn h) ?_;intro y12
 exact rz
 exact rz
def Ke (n:Nat):Prop:=∀ ⦃A4:(List A3)⦄ ⦃Gh:Int⦄ ⦃Bm:(List OpS)⦄ ⦃r:Dg⦄,Ha n A4 Gh Bm=some r→CN n 55 [AV.sl 5 (List.map A8 A4),AV.own 0 0 (List.length Bm),iA Gh] [Ob.arr 3 (List.map At Bm)]=some ((match (r:Dg) with|.c0 y=>AV.sl 3 (List.map At y)|.c1 y=>AV.own 0 y.1 y.2),(match (r:Dg) with|.c0 y=>[Ob.arr 3 (List.map At Bm)]|.c1 y=>[Ob.arr 3 (List.map At Bm)]))
def Ng (n:Nat):Prop:=Ke n
theorem Yi (n:Nat) (ih:Ng n):Ke (n+1):=by
 intro A4 Gh Bm r h
 rw[Ha] at h
 refine Ah Try.func55 (by rfl) rfl rfl (As rfl) ?_
 intro call hc;conv=>lhs;whnf
 revert h
 refine ix ?_;intro x1
 refine br ?_ ?_
 intro h
 refine Ay h ?_;clear h;intro hc3 h
 try simp only[ls]
 refine Az hc3 ?_
 simp only[Nat.zero_add,Nat.sub_zero,ls]
 conv=>lhs;whnf
 revert h
 intro h;cases sj h
 try simp only[ls]
 exact fq (y:=some (AV.own 0 (Gh.toNat) ((IntKind.i64.wrap (Gh+1)).toNat - Gh.toNat),[Ob.arr 3 (List.map At Bm)]))
 intro h
 refine Ak h ?_;clear h;intro y4 hy4 h
 cases y4 with
 | c0 y6 =>
  dsimp only at h
  have hk5:call false 55 [AV.sl 5 (List.map A8 A4),AV.own 0 0 (List.length Bm),iA (IntKind.i64.wrap (Gh+1))] [Ob.arr 3 (List.map At Bm)]=some (AV.sl 3 (List.map At y6),[Ob.arr 3 (List.map At Bm)]):=(hc _ _ _).trans (ih (r:=(.c0 y6)) hy4)
  try simp only[List.drop_zero,ls]
  first|simp only [hk5]|rewrite [hk5]
  try simp only[ls]
  conv=>lhs;whnf
  revert h
  refine cn ?_
  refine br ?_ ?_
  refine ca hc (fun _ h=>Le h) ?_;intro y10
  intro h
  refine Ak h ?_;clear h;intro y12 hy12 h
  cases y12 with
  | c0 y14 =>
   dsimp only at h
   have hk13:call false 55 [AV.sl 5 (List.map A8 A4),AV.own 0 0 (List.length Bm),iA y10] [Ob.arr 3 (List.map At Bm)]=some (AV.sl 3 (List.map At y14),[Ob.arr 3 (List.map At Bm)]):=(hc _ _ _).trans (ih (r:=(.c0 y14)) hy12)
   try simp only[List.drop_zero,ls]
   first|simp only [hk13]|rewrite [hk13]
   try simp only[ls]
   conv=>lhs;whnf
   revert h
   refine ar (ap At (List.map At y6) y6 (List.map At y14) y14) ?_
   refine ar (ap At (List.map At (y6++y14)) (y6++y14) ([[iA x1.Bd,iA (0),iA (0)]]) ([(⟨x1.Bd,0,0⟩:OpS)]:List OpS)) ?_
   intro h;cases sj h
   try simp only[ls]
   exact fq (y:=some (AV.sl 3 (List.take (List.length (((y6++y14)++([(⟨x1.Bd,0,0⟩:OpS)]:List OpS)))) (List.map At ((y6++y14)++([(⟨x1.Bd,0,0⟩:OpS)]:List OpS)))),[Ob.arr 3 (List.map At Bm)]))
  | c1 y15 =>
   dsimp only at h
   have hk13:call false 55 [AV.sl 5 (List.map A8 A4),AV.own 0 0 (List.length Bm),iA y10] [Ob.arr 3 (List.map At Bm)]=some (AV.own 0 y15.1 y15.2,[Ob.arr 3 (List.map At Bm)]):=(hc _ _ _).trans (ih (r:=(.c1 y15)) hy12)
   try simp only[List.drop_zero,ls]
   first|simp only [hk13]|rewrite [hk13]
   try simp only[ls]
   conv=>lhs;whnf
   revert h
   intro h
   have hy20:List.take y15.2 (List.drop y15.1 (List.map At Bm))=List.map At (List.take y15.2 (List.drop y15.1 Bm)):=by rw[List.map_take,List.map_drop]
   simp only[hy20]
   conv=>lhs;whnf
   revert h
   refine ar (ap At (List.map At y6) y6 (List.map At ((List.take y15.2 (List.drop y15.1 Bm)))) (List.take y15.2 (List.drop y15.1 Bm))) ?_
   refine ar (ap At (List.map At (y6++(List.take y15.2 (List.drop y15.1 Bm)))) (y6++(List.take y15.2 (List.drop y15.1 Bm))) ([[iA x1.Bd,iA (0),iA (0)]]) ([(⟨x1.Bd,0,0⟩:OpS)]:List OpS)) ?_
   intro h;cases sj h
   try simp only[ls]
   exact fq (y:=some (AV.sl 3 (List.take (List.length (((y6++(List.take y15.2 (List.drop y15.1 Bm)))++([(⟨x1.Bd,0,0⟩:OpS)]:List OpS)))) (List.map At ((y6++(List.take y15.2 (List.drop y15.1 Bm)))++([(⟨x1.Bd,0,0⟩:OpS)]:List OpS)))),[Ob.arr 3 (List.map At Bm)]))
  refine ar (ap At (List.map At y6) y6 ([[iA x1.Bd,iA (0),iA (0)]]) ([(⟨x1.Bd,0,0⟩:OpS)]:List OpS)) ?_
  intro h;cases sj h
  try simp only[ls]
  exact fq (y:=some (AV.sl 3 (List.take (List.length ((y6++([(⟨x1.Bd,0,0⟩:OpS)]:List OpS)))) (List.map At (y6++([(⟨x1.Bd,0,0⟩:OpS)]:List OpS)))),[Ob.arr 3 (List.map At Bm)]))
 | c1 y7 =>
  dsimp only at h
  have hk5:call false 55 [AV.sl 5 (List.map A8 A4),AV.own 0 0 (List.length Bm),iA (IntKind.i64.wrap (Gh+1))] [Ob.arr 3 (List.map At Bm)]=some (AV.own 0 y7.1 y7.2,[Ob.arr 3 (List.map At Bm)]):=(hc _ _ _).trans (ih (r:=(.c1 y7)) hy4)
  try simp only[List.drop_zero,ls]
  first|simp only [hk5]|rewrite [hk5]
  try simp only[ls]
  conv=>lhs;whnf
  revert h
  intro h
  have hy27:List.take y7.2 (List.drop y7.1 (List.map At Bm))=List.map At (List.take y7.2 (List.drop y7.1 Bm)):=by rw[List.map_take,List.map_drop]
  simp only[hy27]
  conv=>lhs;whnf
  revert h
  refine cn ?_
  refine br ?_ ?_
  refine ca hc (fun _ h=>Le h) ?_;intro y30
  intro h
  refine Ak h ?_;clear h;intro y32 hy32 h
  cases y32 with
  | c0 y34 =>
   dsimp only at h
   have hk33:call false 55 [AV.sl 5 (List.map A8 A4),AV.own 0 0 (List.length Bm),iA y30] [Ob.arr 3 (List.map At Bm)]=some (AV.sl 3 (List.map At y34),[Ob.arr 3 (List.map At Bm)]):=(hc _ _ _).trans (ih (r:=(.c0 y34)) hy32)
   try simp only[List.drop_zero,ls]
   first|simp only [hk33]|rewrite [hk33]
   try simp only[ls]
   conv=>lhs;whnf
   revert h
   refine ar (ap At (List.map At ((List.take y7.2 (List.drop y7.1 Bm)))) (List.take y7.2 (List.drop y7.1 Bm)) (List.map At y34) y34) ?_
   refine ar (ap At (List.map At ((List.take y7.2 (List.drop y7.1 Bm))++y34)) ((List.take y7.2 (List.drop y7.1 Bm))++y34) ([[iA x1.Bd,iA (0),iA (0)]]) ([(⟨x1.Bd,0,0⟩:OpS)]:List OpS)) ?_
   intro h;cases sj h
   try simp only[ls]
   exact fq (y:=some (AV.sl 3 (List.take (List.length ((((List.take y7.2 (List.drop y7.1 Bm))++y34)++([(⟨x1.Bd,0,0⟩:OpS)]:List OpS)))) (List.map At (((List.take y7.2 (List.drop y7.1 Bm))++y34)++([(⟨x1.Bd,0,0⟩:OpS)]:List OpS)))),[Ob.arr 3 (List.map At Bm)]))
  | c1 y35 =>
   dsimp only at h
   have hk33:call false 55 [AV.sl 5 (List.map A8 A4),AV.own 0 0 (List.length Bm),iA y30] [Ob.arr 3 (List.map At Bm)]=some (AV.own 0 y35.1 y35.2,[Ob.arr 3 (List.map At Bm)]):=(hc _ _ _).trans (ih (r:=(.c1 y35)) hy32)
   try simp only[List.drop_zero,ls]
   first|simp only [hk33]|rewrite [hk33]
   try simp only[ls]
   conv=>lhs;whnf
   revert h
   intro h
   have hy40:List.take y35.2 (List.drop y35.1 (List.map At Bm))=List.map At (List.take y35.2 (List.drop y35.1 Bm)):=by rw[List.map_take,List.map_drop]
   simp only[hy40]
   conv=>lhs;whnf
   revert h
   refine ar (ap At (List.map At ((List.take y7.2 (List.drop y7.1 Bm)))) (List.take y7.2 (List.drop y7.1 Bm)) (List.map At ((List.take y35.2 (List.drop y35.1 Bm)))) (List.take y35.2 (List.drop y35.1 Bm))) ?_
   refine ar (ap At (List.map At ((List.take y7.2 (List.drop y7.1 Bm))++(List.take y35.2 (List.drop y35.1 Bm)))) ((List.take y7.2 (List.drop y7.1 Bm))++(List.take y35.2 (List.drop y35.1 Bm))) ([[iA x1.Bd,iA (0),iA (0)]]) ([(⟨x1.Bd,0,0⟩:OpS)]:List OpS)) ?_
   intro h;cases sj h
   try simp only[ls]
   exact fq (y:=some (AV.sl 3 (List.take (List.length ((((List.take y7.2 (List.drop y7.1 Bm))++(List.take y35.2 (List.drop y35.1 Bm)))++([(⟨x1.Bd,0,0⟩:OpS)]:List OpS)))) (List.map At (((List.take y7.2 (List.drop y7.1 Bm))++(List.take y35.2 (List.drop y35.1 Bm)))++([(⟨x1.Bd,0,0⟩:OpS)]:List OpS)))),[Ob.arr 3 (List.map At Bm)]))
  refine ar (ap At (List.map At ((List.take y7.2 (List.drop y7.1 Bm)))) (List.take y7.2 (List.drop y7.1 Bm)) ([[iA x1.Bd,iA (0),iA (0)]]) ([(⟨x1.Bd,0,0⟩:OpS)]:List OpS)) ?_
  intro h;cases sj h
  try simp only[ls]
  exact fq (y:=some (AV.sl 3 (List.take (List.length (((List.take y7.2 (List.drop y7.1 Bm))++([(⟨x1.Bd,0,0⟩:OpS)]:List OpS)))) (List.map At ((List.take y7.2 (List.drop y7.1 Bm))++([(⟨x1.Bd,0,0⟩:OpS)]:List OpS)))),[Ob.arr 3 (List.map At Bm)]))
theorem R5:∀ n,Ng n
 | 0=>by unfold Ng Ke;intros;rename_i h;exact absurd h (by intro h;cases h)
 | n+1=>have ih:=R5 n
   Yi n ih
theorem S5 {n:Nat}:Ke n:=(R5 n)
theorem Ij {n:Nat} ⦃A4:(List A3)⦄ ⦃C8:(List (List UInt8))⦄ ⦃r:((List OpS)×Bool)⦄:F9 n A4 C8=some r→CN n 38 [AV.sl 5 (List.map A8 A4),AV.sl 1 (List.map Aw C8)] []=some (AV.tup [AV.sl 3 (List.map At r.1),bA r.2],[]):=by
 intro h;rcases n with _|n;cases h
 rw[F9] at h
 refine Ah Try.func38 (by rfl) rfl rfl (As rfl) ?_
 intro call hc;conv=>lhs;whnf
 revert h
 refine ca hc (fun _ h=>M3 h) ?_;intro y1
 refine br ?_ ?_
 intro h
 refine Ay h ?_;clear h;intro hc5 h
 try simp only[ls]
 refine Az (by first|exact A6q (B:=24) hc5 rfl (by kernel_rfl)|exact A62 (B:=24) hc5 (by kernel_rfl)) ?_
 have hr4:List.replicate (((A4.length:Nat):Int)).toNat [iA (0),iA (0),iA (0)]=List.map At (List.replicate (((A4.length:Nat):Int)).toNat (⟨0,0,0⟩:OpS):List OpS):=by rw[List.map_replicate];rfl
 simp only[hr4,ls]
 conv=>lhs;whnf
 revert h
 intro h;refine Ak h ?_;clear h;intro o15 ho15 h
 refine lq (σ:=(Int×(List OpS))) (τ:=(List OpS)) (ν:=((List OpS)×Bool)) 0 (fun(s6,s7) a9=>B2 61 [(0,AV.sl 5 (List.map A8 A4)),(1,AV.sl 1 (List.map Aw C8)),(6,AV.own 0 0 (List.length s7)),(7,iA s6)]) (fun(s6,s7) a9=>[Ob.arr 3 (List.map At s7)]) (fun x33 a32=>B2 61 [(0,AV.sl 5 (List.map A8 A4)),(6,AV.own 0 0 (List.length x33))]) (fun x33 a32=>[Ob.arr 3 (List.map At x33)]) (fun v=>(AV.tup [AV.sl 3 (List.map At v.1),bA v.2],[])) (fun k s=>Ei n A4 C8 k s.1 s.2) (fun s=>rfl) o15 n (0,(List.replicate (((A4.length:Nat):Int)).toNat (⟨0,0,0⟩:OpS):List OpS)) (fun _=>0) ho15 ?_ ?_
 intro k8 ss a9 K10 cont11 hK12 hcont13 h hr14
 obtain⟨s6,s7⟩:=ss
 replace h:Ei n A4 C8 (k8+1) s6 s7=some o15:=h
 rw[Ei] at h
 conv=>lhs;whnf
 revert h
 refine br ?_ ?_
 refine ix ?_;intro x17
 refine br ?_ ?_
 refine ix ?_;intro x19
 intro h
 refine Ak h ?_;clear h;intro x20 hx20 h
 try simp only[ls]
 refine Az (by first|exact Eo hx20|exact M6 hx20|exact Ql hx20|exact G3 hx20|(have q:=Eo hx20;simp only[List.length_set] at q;exact q)|(have q:=G3 hx20;simp only[List.length_set,Nat.zero_add] at q ⊢;exact q)) ?_
 conv=>lhs;whnf
 try simp only[Nat.zero_add,I8 (f:=At) hx20,E3,ls]
 conv=>lhs;whnf
 revert h
 intro h
 have hs21:Bx (List.map At s7) s6.toNat [iA (1),iA x19.De,iA (0)]=List.map At (List.set s7 s6.toNat (⟨1,x19.De,0⟩:OpS)):=by rw[Bg,List.map_set];rfl
 have hs21_u:Bx (List.map At s7) s6.toNat (Gw (At x20) 0 [iA (1),iA x19.De,iA (0)])=List.map At (List.set s7 s6.toNat (⟨1,x19.De,0⟩:OpS)):=by rw[Bg,List.map_set];rfl
 try simp only[Nat.zero_add,I8 (f:=At) hx20]
 conv=>lhs;whnf
 try simp only[hs21,hs21_u]
 conv=>lhs;whnf
 revert h
 exact fun h=>cq (hcont13 (IntKind.i64.wrap (s6+1),(List.set s7 s6.toNat (⟨1,x19.De,0⟩:OpS))) (fun _=>0) h)
 refine br ?_ ?_
 refine ix ?_;intro x23
 refine ca hc (fun _ h=>Br h) ?_;intro y24
 intro h
 refine Ak h ?_;clear h;intro x26 hx26 h
 try simp only[ls]
 refine Az (by first|exact Eo hx26|exact M6 hx26|exact Ql hx26|exact G3 hx26|(have q:=Eo hx26;simp only[List.length_set] at q;exact q)|(have q:=G3 hx26;simp only[List.length_set,Nat.zero_add] at q ⊢;exact q)) ?_
 conv=>lhs;whnf
 try simp only[Nat.zero_add,I8 (f:=At) hx26,E3,ls]
 conv=>lhs;whnf
 revert h
 intro h
 have hs27:Bx (List.map At s7) s6.toNat [iA (2),iA y24,iA (0)]=List.map At (List.set s7 s6.toNat (⟨2,y24,0⟩:OpS)):=by rw[Bg,List.map_set];rfl
 have hs27_u:Bx (List.map At s7) s6.toNat (Gw (At x26) 0 [iA (2),iA y24,iA (0)])=List.map At (List.set s7 s6.toNat (⟨2,y24,0⟩:OpS)):=by rw[Bg,List.map_set];rfl
 try simp only[Nat.zero_add,I8 (f:=At) hx26]
 conv=>lhs;whnf
 try simp only[hs27,hs27_u]
 conv=>lhs;whnf
 revert h
 intro h
 refine Ak h ?_;clear h;intro x28 hx28 h
 try simp only[ls]
 refine Az (by first|exact Eo hx28|exact M6 hx28|exact Ql hx28|exact G3 hx28|(have q:=Eo hx28;simp only[List.length_set] at q;exact q)|(have q:=G3 hx28;simp only[List.length_set,Nat.zero_add] at q ⊢;exact q)) ?_
 conv=>lhs;whnf
 try simp only[Nat.zero_add,I8 (f:=At) hx28,E3,ls]
 conv=>lhs;whnf
 revert h
 refine br ?_ ?_
 intro h;cases sj h
 refine(hK12 _ _).trans ?_
 refine Eq.trans ?_ (Eq.symm (show _=some _ from hr14))
 conv=>lhs;whnf
 exact rq
 exact fun h=>cq (hcont13 (IntKind.i64.wrap (s6+1),(List.set s7 s6.toNat (⟨2,y24,0⟩:OpS))) (fun _=>0) h)
 refine br ?_ ?_
 intro h;cases sj h
 refine(hK12 _ _).trans ?_
 refine Eq.trans ?_ (Eq.symm (show _=some _ from hr14))
 conv=>lhs;whnf
 exact rq
 refine br ?_ ?_
 intro h;cases sj h
 refine(hK12 _ _).trans ?_
 refine Eq.trans ?_ (Eq.symm (show _=some _ from hr14))
 conv=>lhs;whnf
 exact rq
 exact fun h=>cq (hcont13 (IntKind.i64.wrap (s6+1),s7) (fun _=>0) h)
 intro h;cases sj h
 exact kq (hr14 (fun _=>0))
 refine lrc ?_ ?_
 intro v e;subst e;cases sj h;rfl
 intro x33 a32 e;subst e
 dsimp only at h
 conv=>lhs;whnf
 revert h
 intro h
 refine Ak h ?_;clear h;intro y34 hy34 h
 cases y34 with
 | c0 y36 =>
  dsimp only at h
  have hk35:call false 55 [AV.sl 5 (List.map A8 A4),AV.own 0 0 (List.length x33),iA (0)] [Ob.arr 3 (List.map At x33)]=some (AV.sl 3 (List.map At y36),[Ob.arr 3 (List.map At x33)]):=(hc _ _ _).trans (S5 (r:=(.c0 y36)) hy34)
  try simp only[List.drop_zero,ls]
  first|simp only [hk35]|rewrite [hk35]
  try simp only[ls]
  conv=>lhs;whnf
  revert h
  exact rz
 | c1 y37 =>
  dsimp only at h
  have hk35:call false 55 [AV.sl 5 (List.map A8 A4),AV.own 0 0 (List.length x33),iA (0)] [Ob.arr 3 (List.map At x33)]=some (AV.own 0 y37.1 y37.2,[Ob.arr 3 (List.map At x33)]):=(hc _ _ _).trans (S5 (r:=(.c1 y37)) hy34)
  try simp only[List.drop_zero,ls]
  first|simp only [hk35]|rewrite [hk35]
  try simp only[ls]
  conv=>lhs;whnf
  revert h
  intro h;cases sj h
  try simp only[ls]
  exact fq (y:=some (AV.tup [AV.sl 3 (List.take y37.2 (List.drop y37.1 (List.map At x33))),bA true],[]))
 exact rz
theorem Sa {n:Nat} ⦃F2:(List OpS)⦄ ⦃Fn:(List OpS)⦄ ⦃r:Bool⦄:L6 n F2 Fn=some r→CN n 16 [AV.sl 3 (List.map At F2),AV.sl 3 (List.map At Fn)] []=some (bA r,[]):=by
 intro h;rcases n with _|n;cases h
 rw[L6] at h
 refine Ah Try.func16 (by rfl) rfl rfl (As rfl) ?_
 intro call hc;conv=>lhs;whnf
 revert h
 refine br ?_ ?_
 exact rz
 intro h;refine Ak h ?_;clear h;intro o10 ho10 h
 refine lq (σ:=Int) (τ:=Unit) (ν:=Bool) 0 (fun s2 a4=>B2 26 [(0,AV.sl 3 (List.map At F2)),(1,AV.sl 3 (List.map At Fn)),(5,iA s2)]) (fun s2 a4=>[]) (fun _ a16=>B2 26 []) (fun _ a16=>[]) (fun v=>(bA v,[])) (fun k s=>Hz n F2 Fn k s) (fun s=>rfl) o10 n 0 (fun _=>0) ho10 ?_ ?_
 intro k3 s2 a4 K5 cont6 hK7 hcont8 h hr9
 replace h:Hz n F2 Fn (k3+1) s2=some o10:=h
 rw[Hz] at h
 conv=>lhs;whnf
 revert h
 refine br ?_ ?_
 refine ix ?_;intro x12
 refine ix ?_;intro x13
 intro h
 have hf15:Nl Try.prog 76=some (fieldsOf Try.prog 76):=by kernel_rfl
 simp only[hf15,Bs,Cw]
 conv=>lhs;whnf
 revert h
 refine br ?_ ?_
 exact fun h=>cq (hcont8 (IntKind.i64.wrap (s2+1)) (fun _=>0) h)
 intro h;cases sj h
 refine(hK7 _ _).trans ?_
 refine Eq.trans ?_ (Eq.symm (show _=some _ from hr9))
 conv=>lhs;whnf
 exact rq
 intro h;cases sj h
 exact kq (hr9 (fun _=>0))
 refine lrc ?_ ?_
 intro v e;subst e;cases sj h;rfl
 intro t a16 e;subst e
 dsimp only at h
 conv=>lhs;whnf
 revert h
 exact rz
theorem Cc {n:Nat} ⦃A4:(List A6)⦄ ⦃B7:Int⦄ ⦃Al:Int⦄ ⦃r:Int⦄:C9 n A4 B7 Al=some r→CN n 39 [AV.sl 9 (List.map Am A4),iA B7,iA Al] []=some (iA r,[]):=by
 intro h;rcases n with _|n;cases h
 rw[C9] at h
 refine Ah Try.func39 (by rfl) rfl rfl (As rfl) ?_
 intro call hc;conv=>lhs;whnf
 revert h
 intro h;refine Ak h ?_;clear h;intro o10 ho10 h
 refine lq (σ:=(Int×Int)) (τ:=Int) (ν:=Int) 0 (fun(s1,s2) a4=>B2 41 [(0,AV.sl 9 (List.map Am A4)),(2,iA Al),(7,iA s1),(8,iA s2)]) (fun(s1,s2) a4=>[]) (fun x19 a18=>B2 41 [(7,iA x19)]) (fun x19 a18=>[]) (fun v=>(iA v,[])) (fun k s=>E1 n A4 Al k s.1 s.2) (fun s=>rfl) o10 n (0,B7) (fun _=>0) ho10 ?_ ?_
 intro k3 ss a4 K5 cont6 hK7 hcont8 h hr9
 obtain⟨s1,s2⟩:=ss
 replace h:E1 n A4 Al (k3+1) s1 s2=some o10:=h
 rw[E1] at h
 conv=>lhs;whnf
 revert h
 refine br ?_ ?_
 refine ix ?_;intro x12
 refine br ?_ ?_
 exact fun h=>cq (hcont8 (s1,IntKind.i64.wrap (s2+1)) (fun _=>0) h)
 refine br ?_ ?_
 refine ix ?_;intro x15
 refine br ?_ ?_
 exact fun h=>cq (hcont8 (IntKind.i64.wrap ((IntKind.i64.wrap (s1+1))+1),IntKind.i64.wrap (s2+1)) (fun _=>0) h)
 exact fun h=>cq (hcont8 (IntKind.i64.wrap (s1+1),IntKind.i64.wrap (s2+1)) (fun _=>0) h)
 refine br ?_ ?_
 exact fun h=>cq (hcont8 (IntKind.i64.wrap (s1+2),IntKind.i64.wrap (s2+1)) (fun _=>0) h)
 exact fun h=>cq (hcont8 (IntKind.i64.wrap (s1+1),IntKind.i64.wrap (s2+1)) (fun _=>0) h)
 intro h;cases sj h
 exact kq (hr9 (fun _=>0))
 refine lrc ?_ ?_
 intro v e;subst e;cases sj h;rfl
 intro x19 a18 e;subst e
 dsimp only at h
 conv=>lhs;whnf
 revert h
 exact rz
def J1 (n:Nat):Prop:=∀ ⦃A4:(List A6)⦄ ⦃B7:Int⦄ ⦃Al:Int⦄ ⦃A1:Int⦄ ⦃Ap:Int⦄ ⦃Ai:(List (List UInt8))⦄ ⦃Aj:(List (List UInt8))⦄ ⦃r:(List A0)⦄,Bq n A4 B7 Al A1 Ap Ai Aj=some r→CN n 29 [AV.sl 9 (List.map Am A4),iA B7,iA Al,iA A1,iA Ap,AV.sl 1 (List.map Aw Ai),AV.sl 1 (List.map Aw Aj)] []=some (AV.sl 7 (List.map A9 r),[])
def Lw (n:Nat):Prop:=J1 n
theorem Wj (n:Nat) (ih:Lw n):J1 (n+1):=by
 intro A4 B7 Al A1 Ap Ai Aj r h
 rw[Bq] at h
 refine Ah Try.func29 (by rfl) rfl rfl (As rfl) ?_
 intro call hc;conv=>lhs;whnf
 revert h
 intro h;refine Ak h ?_;clear h;intro o10 ho10 h
 refine lq (σ:=(Int×(List A0))) (τ:=(List A0)) (ν:=(List A0)) 0 (fun(s1,s2) a4=>B2 234 [(0,AV.sl 9 (List.map Am A4)),(2,iA Al),(3,iA A1),(4,iA Ap),(5,AV.sl 1 (List.map Aw Ai)),(6,AV.sl 1 (List.map Aw Aj)),(15,AV.row 0 (List.length s2)),(16,iA s1)]) (fun(s1,s2) a4=>[Ob.row 64 7 (List.map A9 s2)]) (fun x211 a210=>B2 234 [(15,AV.row 0 (List.length x211))]) (fun x211 a210=>[Ob.row 64 7 (List.map A9 x211)]) (fun v=>(AV.sl 7 (List.map A9 v),[])) (fun k s=>B6 n (Bq n) A4 Al A1 Ap Ai Aj k s.1 s.2) (fun s=>rfl) o10 n (B7,([]:List A0)) (fun _=>0) ho10 ?_ ?_
 intro k3 ss a4 K5 cont6 hK7 hcont8 h hr9
 obtain⟨s1,s2⟩:=ss
 replace h:B6 n (Bq n) A4 Al A1 Ap Ai Aj (k3+1) s1 s2=some o10:=h
 rw[B6] at h
 conv=>lhs;whnf
 revert h
 refine br ?_ ?_
 refine ix ?_;intro x12
 refine ca hc (fun _ h=>Ij h) ?_;intro y13
 refine ca hc (fun _ h=>Ij h) ?_;intro y15
 refine br ?_ ?_
 refine br ?_ ?_
 refine ca hc (fun _ h=>Cc h) ?_;intro y19
 refine ca hc (fun _ h=>Cc h) ?_;intro y21
 refine br ?_ ?_
 exact fun h=>cq (hcont8 (IntKind.i64.wrap ((IntKind.i64.wrap ((IntKind.i64.wrap (s1+1))+x12.A7))+x12.Ae),s2) (fun _=>0) h)
 refine br ?_ ?_
 refine ar (ap A9 (List.map A9 s2) s2 ([[iA (20),iA (0),iA (0),AV.sl 3 [],AV.sl 3 [],bA false,iA Ap]]) ([(⟨20,0,0,([]:List OpS),([]:List OpS),false,Ap⟩:A0)]:List A0)) ?_
 exact fun h=>cq (hcont8 (IntKind.i64.wrap ((IntKind.i64.wrap ((IntKind.i64.wrap (s1+1))+x12.A7))+x12.Ae),(s2++([(⟨20,0,0,([]:List OpS),([]:List OpS),false,Ap⟩:A0)]:List A0))) (fun _=>0) h)
 refine br ?_ ?_
 refine br ?_ ?_
 refine ar (ap A9 (List.map A9 s2) s2 ([[iA (21),iA (0),iA (0),AV.sl 3 (List.map At y13.1),AV.sl 3 [],bA false,iA (IntKind.i64.wrap ((IntKind.i64.wrap ((IntKind.i64.wrap (A1+((s2.length:Nat):Int)))+1))+y19))]]) ([(⟨21,0,0,y13.1,([]:List OpS),false,IntKind.i64.wrap ((IntKind.i64.wrap ((IntKind.i64.wrap (A1+((s2.length:Nat):Int)))+1))+y19)⟩:A0)]:List A0)) ?_
 refine cr hc (fun _ h=>ih h) ?_;intro y31
 refine ar (ap A9 (List.map A9 (s2++([(⟨21,0,0,y13.1,([]:List OpS),false,IntKind.i64.wrap ((IntKind.i64.wrap ((IntKind.i64.wrap (A1+((s2.length:Nat):Int)))+1))+y19)⟩:A0)]:List A0))) (s2++([(⟨21,0,0,y13.1,([]:List OpS),false,IntKind.i64.wrap ((IntKind.i64.wrap ((IntKind.i64.wrap (A1+((s2.length:Nat):Int)))+1))+y19)⟩:A0)]:List A0)) (List.map A9 y31) y31) ?_
 exact fun h=>cq (hcont8 (IntKind.i64.wrap ((IntKind.i64.wrap ((IntKind.i64.wrap (s1+1))+x12.A7))+x12.Ae),((s2++([(⟨21,0,0,y13.1,([]:List OpS),false,IntKind.i64.wrap ((IntKind.i64.wrap ((IntKind.i64.wrap (A1+((s2.length:Nat):Int)))+1))+y19)⟩:A0)]:List A0))++y31)) (fun _=>0) h)
 refine ar (ap A9 (List.map A9 s2) s2 ([[iA (21),iA (0),iA (0),AV.sl 3 (List.map At y13.1),AV.sl 3 [],bA false,iA (IntKind.i64.wrap ((IntKind.i64.wrap ((IntKind.i64.wrap (A1+((s2.length:Nat):Int)))+2))+y19))]]) ([(⟨21,0,0,y13.1,([]:List OpS),false,IntKind.i64.wrap ((IntKind.i64.wrap ((IntKind.i64.wrap (A1+((s2.length:Nat):Int)))+2))+y19)⟩:A0)]:List A0)) ?_
 refine cr hc (fun _ h=>ih h) ?_;intro y37
 refine ar (ap A9 (List.map A9 (s2++([(⟨21,0,0,y13.1,([]:List OpS),false,IntKind.i64.wrap ((IntKind.i64.wrap ((IntKind.i64.wrap (A1+((s2.length:Nat):Int)))+2))+y19)⟩:A0)]:List A0))) (s2++([(⟨21,0,0,y13.1,([]:List OpS),false,IntKind.i64.wrap ((IntKind.i64.wrap ((IntKind.i64.wrap (A1+((s2.length:Nat):Int)))+2))+y19)⟩:A0)]:List A0)) (List.map A9 y37) y37) ?_
 refine ar (ap A9 (List.map A9 ((s2++([(⟨21,0,0,y13.1,([]:List OpS),false,IntKind.i64.wrap ((IntKind.i64.wrap ((IntKind.i64.wrap (A1+((s2.length:Nat):Int)))+2))+y19)⟩:A0)]:List A0))++y37)) ((s2++([(⟨21,0,0,y13.1,([]:List OpS),false,IntKind.i64.wrap ((IntKind.i64.wrap ((IntKind.i64.wrap (A1+((s2.length:Nat):Int)))+2))+y19)⟩:A0)]:List A0))++y37) ([[iA (20),iA (0),iA (0),AV.sl 3 [],AV.sl 3 [],bA false,iA (IntKind.i64.wrap ((IntKind.i64.wrap ((IntKind.i64.wrap ((IntKind.i64.wrap (A1+((s2.length:Nat):Int)))+2))+y19))+y21))]]) ([(⟨20,0,0,([]:List OpS),([]:List OpS),false,IntKind.i64.wrap ((IntKind.i64.wrap ((IntKind.i64.wrap ((IntKind.i64.wrap (A1+((s2.length:Nat):Int)))+2))+y19))+y21)⟩:A0)]:List A0)) ?_
 refine cr hc (fun _ h=>ih h) ?_;intro y43
 refine ar (ap A9 (List.map A9 (((s2++([(⟨21,0,0,y13.1,([]:List OpS),false,IntKind.i64.wrap ((IntKind.i64.wrap ((IntKind.i64.wrap (A1+((s2.length:Nat):Int)))+2))+y19)⟩:A0)]:List A0))++y37)++([(⟨20,0,0,([]:List OpS),([]:List OpS),false,IntKind.i64.wrap ((IntKind.i64.wrap ((IntKind.i64.wrap ((IntKind.i64.wrap (A1+((s2.length:Nat):Int)))+2))+y19))+y21)⟩:A0)]:List A0))) (((s2++([(⟨21,0,0,y13.1,([]:List OpS),false,IntKind.i64.wrap ((IntKind.i64.wrap ((IntKind.i64.wrap (A1+((s2.length:Nat):Int)))+2))+y19)⟩:A0)]:List A0))++y37)++([(⟨20,0,0,([]:List OpS),([]:List OpS),false,IntKind.i64.wrap ((IntKind.i64.wrap ((IntKind.i64.wrap ((IntKind.i64.wrap (A1+((s2.length:Nat):Int)))+2))+y19))+y21)⟩:A0)]:List A0)) (List.map A9 y43) y43) ?_
 exact fun h=>cq (hcont8 (IntKind.i64.wrap ((IntKind.i64.wrap ((IntKind.i64.wrap (s1+1))+x12.A7))+x12.Ae),((((s2++([(⟨21,0,0,y13.1,([]:List OpS),false,IntKind.i64.wrap ((IntKind.i64.wrap ((IntKind.i64.wrap (A1+((s2.length:Nat):Int)))+2))+y19)⟩:A0)]:List A0))++y37)++([(⟨20,0,0,([]:List OpS),([]:List OpS),false,IntKind.i64.wrap ((IntKind.i64.wrap ((IntKind.i64.wrap ((IntKind.i64.wrap (A1+((s2.length:Nat):Int)))+2))+y19))+y21)⟩:A0)]:List A0))++y43)) (fun _=>0) h)
 refine br ?_ ?_
 refine ar (ap A9 (List.map A9 s2) s2 ([[iA (21),iA (0),iA (0),AV.sl 3 (List.map At y13.1),AV.sl 3 [],bA false,iA (IntKind.i64.wrap ((IntKind.i64.wrap ((IntKind.i64.wrap (A1+((s2.length:Nat):Int)))+2))+y19))]]) ([(⟨21,0,0,y13.1,([]:List OpS),false,IntKind.i64.wrap ((IntKind.i64.wrap ((IntKind.i64.wrap (A1+((s2.length:Nat):Int)))+2))+y19)⟩:A0)]:List A0)) ?_
 refine cr hc (fun _ h=>ih h) ?_;intro y50
 refine ar (ap A9 (List.map A9 (s2++([(⟨21,0,0,y13.1,([]:List OpS),false,IntKind.i64.wrap ((IntKind.i64.wrap ((IntKind.i64.wrap (A1+((s2.length:Nat):Int)))+2))+y19)⟩:A0)]:List A0))) (s2++([(⟨21,0,0,y13.1,([]:List OpS),false,IntKind.i64.wrap ((IntKind.i64.wrap ((IntKind.i64.wrap (A1+((s2.length:Nat):Int)))+2))+y19)⟩:A0)]:List A0)) (List.map A9 y50) y50) ?_
 refine ar (ap A9 (List.map A9 ((s2++([(⟨21,0,0,y13.1,([]:List OpS),false,IntKind.i64.wrap ((IntKind.i64.wrap ((IntKind.i64.wrap (A1+((s2.length:Nat):Int)))+2))+y19)⟩:A0)]:List A0))++y50)) ((s2++([(⟨21,0,0,y13.1,([]:List OpS),false,IntKind.i64.wrap ((IntKind.i64.wrap ((IntKind.i64.wrap (A1+((s2.length:Nat):Int)))+2))+y19)⟩:A0)]:List A0))++y50) ([[iA (20),iA (0),iA (0),AV.sl 3 [],AV.sl 3 [],bA false,iA (IntKind.i64.wrap (A1+((s2.length:Nat):Int)))]]) ([(⟨20,0,0,([]:List OpS),([]:List OpS),false,IntKind.i64.wrap (A1+((s2.length:Nat):Int))⟩:A0)]:List A0)) ?_
 exact fun h=>cq (hcont8 (IntKind.i64.wrap ((IntKind.i64.wrap ((IntKind.i64.wrap (s1+1))+x12.A7))+x12.Ae),(((s2++([(⟨21,0,0,y13.1,([]:List OpS),false,IntKind.i64.wrap ((IntKind.i64.wrap ((IntKind.i64.wrap (A1+((s2.length:Nat):Int)))+2))+y19)⟩:A0)]:List A0))++y50)++([(⟨20,0,0,([]:List OpS),([]:List OpS),false,IntKind.i64.wrap (A1+((s2.length:Nat):Int))⟩:A0)]:List A0))) (fun _=>0) h)
 refine br ?_ ?_
 refine cr hc (fun _ h=>ih h) ?_;intro y57
 refine ar (ap A9 (List.map A9 s2) s2 (List.map A9 y57) y57) ?_
 refine ar (ap A9 (List.map A9 (s2++y57)) (s2++y57) ([[iA (20),iA (0),iA (0),AV.sl 3 [],AV.sl 3 [],bA false,iA (IntKind.i64.wrap (A1+((s2.length:Nat):Int)))]]) ([(⟨20,0,0,([]:List OpS),([]:List OpS),false,IntKind.i64.wrap (A1+((s2.length:Nat):Int))⟩:A0)]:List A0)) ?_
 exact fun h=>cq (hcont8 (IntKind.i64.wrap ((IntKind.i64.wrap ((IntKind.i64.wrap (s1+1))+x12.A7))+x12.Ae),((s2++y57)++([(⟨20,0,0,([]:List OpS),([]:List OpS),false,IntKind.i64.wrap (A1+((s2.length:Nat):Int))⟩:A0)]:List A0))) (fun _=>0) h)
 refine ar (ap A9 (List.map A9 s2) s2 ([[iA x12.Ax,iA (0),iA (0),AV.sl 3 (List.map At y13.1),AV.sl 3 (List.map At y15.1),bA x12.Ct,iA (0)]]) ([(⟨x12.Ax,0,0,y13.1,y15.1,x12.Ct,0⟩:A0)]:List A0)) ?_
 exact fun h=>cq (hcont8 (IntKind.i64.wrap ((IntKind.i64.wrap ((IntKind.i64.wrap (s1+1))+x12.A7))+x12.Ae),(s2++([(⟨x12.Ax,0,0,y13.1,y15.1,x12.Ct,0⟩:A0)]:List A0))) (fun _=>0) h)
 refine ca hc (fun _ h=>Br h) ?_;intro y65
 refine ca hc (fun _ h=>Cc h) ?_;intro y67
 refine ca hc (fun _ h=>Cc h) ?_;intro y69
 refine br ?_ ?_
 exact fun h=>cq (hcont8 (IntKind.i64.wrap ((IntKind.i64.wrap ((IntKind.i64.wrap (s1+1))+x12.A7))+x12.Ae),s2) (fun _=>0) h)
 refine br ?_ ?_
 refine ar (ap A9 (List.map A9 s2) s2 ([[iA (20),iA (0),iA (0),AV.sl 3 [],AV.sl 3 [],bA false,iA Ap]]) ([(⟨20,0,0,([]:List OpS),([]:List OpS),false,Ap⟩:A0)]:List A0)) ?_
 exact fun h=>cq (hcont8 (IntKind.i64.wrap ((IntKind.i64.wrap ((IntKind.i64.wrap (s1+1))+x12.A7))+x12.Ae),(s2++([(⟨20,0,0,([]:List OpS),([]:List OpS),false,Ap⟩:A0)]:List A0))) (fun _=>0) h)
 refine br ?_ ?_
 refine br ?_ ?_
 refine ar (ap A9 (List.map A9 s2) s2 ([[iA (21),iA (0),iA (0),AV.sl 3 (List.map At y13.1),AV.sl 3 [],bA false,iA (IntKind.i64.wrap ((IntKind.i64.wrap ((IntKind.i64.wrap (A1+((s2.length:Nat):Int)))+1))+y67))]]) ([(⟨21,0,0,y13.1,([]:List OpS),false,IntKind.i64.wrap ((IntKind.i64.wrap ((IntKind.i64.wrap (A1+((s2.length:Nat):Int)))+1))+y67)⟩:A0)]:List A0)) ?_
 refine cr hc (fun _ h=>ih h) ?_;intro y79
 refine ar (ap A9 (List.map A9 (s2++([(⟨21,0,0,y13.1,([]:List OpS),false,IntKind.i64.wrap ((IntKind.i64.wrap ((IntKind.i64.wrap (A1+((s2.length:Nat):Int)))+1))+y67)⟩:A0)]:List A0))) (s2++([(⟨21,0,0,y13.1,([]:List OpS),false,IntKind.i64.wrap ((IntKind.i64.wrap ((IntKind.i64.wrap (A1+((s2.length:Nat):Int)))+1))+y67)⟩:A0)]:List A0)) (List.map A9 y79) y79) ?_
 exact fun h=>cq (hcont8 (IntKind.i64.wrap ((IntKind.i64.wrap ((IntKind.i64.wrap (s1+1))+x12.A7))+x12.Ae),((s2++([(⟨21,0,0,y13.1,([]:List OpS),false,IntKind.i64.wrap ((IntKind.i64.wrap ((IntKind.i64.wrap (A1+((s2.length:Nat):Int)))+1))+y67)⟩:A0)]:List A0))++y79)) (fun _=>0) h)
 refine ar (ap A9 (List.map A9 s2) s2 ([[iA (21),iA (0),iA (0),AV.sl 3 (List.map At y13.1),AV.sl 3 [],bA false,iA (IntKind.i64.wrap ((IntKind.i64.wrap ((IntKind.i64.wrap (A1+((s2.length:Nat):Int)))+2))+y67))]]) ([(⟨21,0,0,y13.1,([]:List OpS),false,IntKind.i64.wrap ((IntKind.i64.wrap ((IntKind.i64.wrap (A1+((s2.length:Nat):Int)))+2))+y67)⟩:A0)]:List A0)) ?_
 refine cr hc (fun _ h=>ih h) ?_;intro y85
 refine ar (ap A9 (List.map A9 (s2++([(⟨21,0,0,y13.1,([]:List OpS),false,IntKind.i64.wrap ((IntKind.i64.wrap ((IntKind.i64.wrap (A1+((s2.length:Nat):Int)))+2))+y67)⟩:A0)]:List A0))) (s2++([(⟨21,0,0,y13.1,([]:List OpS),false,IntKind.i64.wrap ((IntKind.i64.wrap ((IntKind.i64.wrap (A1+((s2.length:Nat):Int)))+2))+y67)⟩:A0)]:List A0)) (List.map A9 y85) y85) ?_
 refine ar (ap A9 (List.map A9 ((s2++([(⟨21,0,0,y13.1,([]:List OpS),false,IntKind.i64.wrap ((IntKind.i64.wrap ((IntKind.i64.wrap (A1+((s2.length:Nat):Int)))+2))+y67)⟩:A0)]:List A0))++y85)) ((s2++([(⟨21,0,0,y13.1,([]:List OpS),false,IntKind.i64.wrap ((IntKind.i64.wrap ((IntKind.i64.wrap (A1+((s2.length:Nat):Int)))+2))+y67)⟩:A0)]:List A0))++y85) ([[iA (20),iA (0),iA (0),AV.sl 3 [],AV.sl 3 [],bA false,iA (IntKind.i64.wrap ((IntKind.i64.wrap ((IntKind.i64.wrap ((IntKind.i64.wrap (A1+((s2.length:Nat):Int)))+2))+y67))+y69))]]) ([(⟨20,0,0,([]:List OpS),([]:List OpS),false,IntKind.i64.wrap ((IntKind.i64.wrap ((IntKind.i64.wrap ((IntKind.i64.wrap (A1+((s2.length:Nat):Int)))+2))+y67))+y69)⟩:A0)]:List A0)) ?_
 refine cr hc (fun _ h=>ih h) ?_;intro y91
 refine ar (ap A9 (List.map A9 (((s2++([(⟨21,0,0,y13.1,([]:List OpS),false,IntKind.i64.wrap ((IntKind.i64.wrap ((IntKind.i64.wrap (A1+((s2.length:Nat):Int)))+2))+y67)⟩:A0)]:List A0))++y85)++([(⟨20,0,0,([]:List OpS),([]:List OpS),false,IntKind.i64.wrap ((IntKind.i64.wrap ((IntKind.i64.wrap ((IntKind.i64.wrap (A1+((s2.length:Nat):Int)))+2))+y67))+y69)⟩:A0)]:List A0))) (((s2++([(⟨21,0,0,y13.1,([]:List OpS),false,IntKind.i64.wrap ((IntKind.i64.wrap ((IntKind.i64.wrap (A1+((s2.length:Nat):Int)))+2))+y67)⟩:A0)]:List A0))++y85)++([(⟨20,0,0,([]:List OpS),([]:List OpS),false,IntKind.i64.wrap ((IntKind.i64.wrap ((IntKind.i64.wrap ((IntKind.i64.wrap (A1+((s2.length:Nat):Int)))+2))+y67))+y69)⟩:A0)]:List A0)) (List.map A9 y91) y91) ?_
 exact fun h=>cq (hcont8 (IntKind.i64.wrap ((IntKind.i64.wrap ((IntKind.i64.wrap (s1+1))+x12.A7))+x12.Ae),((((s2++([(⟨21,0,0,y13.1,([]:List OpS),false,IntKind.i64.wrap ((IntKind.i64.wrap ((IntKind.i64.wrap (A1+((s2.length:Nat):Int)))+2))+y67)⟩:A0)]:List A0))++y85)++([(⟨20,0,0,([]:List OpS),([]:List OpS),false,IntKind.i64.wrap ((IntKind.i64.wrap ((IntKind.i64.wrap ((IntKind.i64.wrap (A1+((s2.length:Nat):Int)))+2))+y67))+y69)⟩:A0)]:List A0))++y91)) (fun _=>0) h)
 refine br ?_ ?_
 refine ar (ap A9 (List.map A9 s2) s2 ([[iA (21),iA (0),iA (0),AV.sl 3 (List.map At y13.1),AV.sl 3 [],bA false,iA (IntKind.i64.wrap ((IntKind.i64.wrap ((IntKind.i64.wrap (A1+((s2.length:Nat):Int)))+2))+y67))]]) ([(⟨21,0,0,y13.1,([]:List OpS),false,IntKind.i64.wrap ((IntKind.i64.wrap ((IntKind.i64.wrap (A1+((s2.length:Nat):Int)))+2))+y67)⟩:A0)]:List A0)) ?_
 refine cr hc (fun _ h=>ih h) ?_;intro y98
 refine ar (ap A9 (List.map A9 (s2++([(⟨21,0,0,y13.1,([]:List OpS),false,IntKind.i64.wrap ((IntKind.i64.wrap ((IntKind.i64.wrap (A1+((s2.length:Nat):Int)))+2))+y67)⟩:A0)]:List A0))) (s2++([(⟨21,0,0,y13.1,([]:List OpS),false,IntKind.i64.wrap ((IntKind.i64.wrap ((IntKind.i64.wrap (A1+((s2.length:Nat):Int)))+2))+y67)⟩:A0)]:List A0)) (List.map A9 y98) y98) ?_
 refine ar (ap A9 (List.map A9 ((s2++([(⟨21,0,0,y13.1,([]:List OpS),false,IntKind.i64.wrap ((IntKind.i64.wrap ((IntKind.i64.wrap (A1+((s2.length:Nat):Int)))+2))+y67)⟩:A0)]:List A0))++y98)) ((s2++([(⟨21,0,0,y13.1,([]:List OpS),false,IntKind.i64.wrap ((IntKind.i64.wrap ((IntKind.i64.wrap (A1+((s2.length:Nat):Int)))+2))+y67)⟩:A0)]:List A0))++y98) ([[iA (20),iA (0),iA (0),AV.sl 3 [],AV.sl 3 [],bA false,iA (IntKind.i64.wrap (A1+((s2.length:Nat):Int)))]]) ([(⟨20,0,0,([]:List OpS),([]:List OpS),false,IntKind.i64.wrap (A1+((s2.length:Nat):Int))⟩:A0)]:List A0)) ?_
 exact fun h=>cq (hcont8 (IntKind.i64.wrap ((IntKind.i64.wrap ((IntKind.i64.wrap (s1+1))+x12.A7))+x12.Ae),(((s2++([(⟨21,0,0,y13.1,([]:List OpS),false,IntKind.i64.wrap ((IntKind.i64.wrap ((IntKind.i64.wrap (A1+((s2.length:Nat):Int)))+2))+y67)⟩:A0)]:List A0))++y98)++([(⟨20,0,0,([]:List OpS),([]:List OpS),false,IntKind.i64.wrap (A1+((s2.length:Nat):Int))⟩:A0)]:List A0))) (fun _=>0) h)
 refine br ?_ ?_
 refine cr hc (fun _ h=>ih h) ?_;intro y105
 refine ar (ap A9 (List.map A9 s2) s2 (List.map A9 y105) y105) ?_
 refine ar (ap A9 (List.map A9 (s2++y105)) (s2++y105) ([[iA (20),iA (0),iA (0),AV.sl 3 [],AV.sl 3 [],bA false,iA (IntKind.i64.wrap (A1+((s2.length:Nat):Int)))]]) ([(⟨20,0,0,([]:List OpS),([]:List OpS),false,IntKind.i64.wrap (A1+((s2.length:Nat):Int))⟩:A0)]:List A0)) ?_
 exact fun h=>cq (hcont8 (IntKind.i64.wrap ((IntKind.i64.wrap ((IntKind.i64.wrap (s1+1))+x12.A7))+x12.Ae),((s2++y105)++([(⟨20,0,0,([]:List OpS),([]:List OpS),false,IntKind.i64.wrap (A1+((s2.length:Nat):Int))⟩:A0)]:List A0))) (fun _=>0) h)
 refine ar (ap A9 (List.map A9 s2) s2 ([[iA x12.Ax,iA (0),iA y65,AV.sl 3 (List.map At y13.1),AV.sl 3 (List.map At y15.1),bA x12.Ct,iA (0)]]) ([(⟨x12.Ax,0,y65,y13.1,y15.1,x12.Ct,0⟩:A0)]:List A0)) ?_
 exact fun h=>cq (hcont8 (IntKind.i64.wrap ((IntKind.i64.wrap ((IntKind.i64.wrap (s1+1))+x12.A7))+x12.Ae),(s2++([(⟨x12.Ax,0,y65,y13.1,y15.1,x12.Ct,0⟩:A0)]:List A0))) (fun _=>0) h)
 refine ca hc (fun _ h=>Br h) ?_;intro y113
 refine br ?_ ?_
 refine ca hc (fun _ h=>Cc h) ?_;intro y116
 refine ca hc (fun _ h=>Cc h) ?_;intro y118
 refine br ?_ ?_
 exact fun h=>cq (hcont8 (IntKind.i64.wrap ((IntKind.i64.wrap ((IntKind.i64.wrap (s1+1))+x12.A7))+x12.Ae),s2) (fun _=>0) h)
 refine br ?_ ?_
 refine ar (ap A9 (List.map A9 s2) s2 ([[iA (20),iA (0),iA (0),AV.sl 3 [],AV.sl 3 [],bA false,iA Ap]]) ([(⟨20,0,0,([]:List OpS),([]:List OpS),false,Ap⟩:A0)]:List A0)) ?_
 exact fun h=>cq (hcont8 (IntKind.i64.wrap ((IntKind.i64.wrap ((IntKind.i64.wrap (s1+1))+x12.A7))+x12.Ae),(s2++([(⟨20,0,0,([]:List OpS),([]:List OpS),false,Ap⟩:A0)]:List A0))) (fun _=>0) h)
 refine br ?_ ?_
 refine br ?_ ?_
 refine ar (ap A9 (List.map A9 s2) s2 ([[iA (21),iA (0),iA (0),AV.sl 3 (List.map At y13.1),AV.sl 3 [],bA false,iA (IntKind.i64.wrap ((IntKind.i64.wrap ((IntKind.i64.wrap (A1+((s2.length:Nat):Int)))+1))+y116))]]) ([(⟨21,0,0,y13.1,([]:List OpS),false,IntKind.i64.wrap ((IntKind.i64.wrap ((IntKind.i64.wrap (A1+((s2.length:Nat):Int)))+1))+y116)⟩:A0)]:List A0)) ?_
 refine cr hc (fun _ h=>ih h) ?_;intro y128
 refine ar (ap A9 (List.map A9 (s2++([(⟨21,0,0,y13.1,([]:List OpS),false,IntKind.i64.wrap ((IntKind.i64.wrap ((IntKind.i64.wrap (A1+((s2.length:Nat):Int)))+1))+y116)⟩:A0)]:List A0))) (s2++([(⟨21,0,0,y13.1,([]:List OpS),false,IntKind.i64.wrap ((IntKind.i64.wrap ((IntKind.i64.wrap (A1+((s2.length:Nat):Int)))+1))+y116)⟩:A0)]:List A0)) (List.map A9 y128) y128) ?_
 exact fun h=>cq (hcont8 (IntKind.i64.wrap ((IntKind.i64.wrap ((IntKind.i64.wrap (s1+1))+x12.A7))+x12.Ae),((s2++([(⟨21,0,0,y13.1,([]:List OpS),false,IntKind.i64.wrap ((IntKind.i64.wrap ((IntKind.i64.wrap (A1+((s2.length:Nat):Int)))+1))+y116)⟩:A0)]:List A0))++y128)) (fun _=>0) h)
 refine ar (ap A9 (List.map A9 s2) s2 ([[iA (21),iA (0),iA (0),AV.sl 3 (List.map At y13.1),AV.sl 3 [],bA false,iA (IntKind.i64.wrap ((IntKind.i64.wrap ((IntKind.i64.wrap (A1+((s2.length:Nat):Int)))+2))+y116))]]) ([(⟨21,0,0,y13.1,([]:List OpS),false,IntKind.i64.wrap ((IntKind.i64.wrap ((IntKind.i64.wrap (A1+((s2.length:Nat):Int)))+2))+y116)⟩:A0)]:List A0)) ?_
 refine cr hc (fun _ h=>ih h) ?_;intro y134
 refine ar (ap A9 (List.map A9 (s2++([(⟨21,0,0,y13.1,([]:List OpS),false,IntKind.i64.wrap ((IntKind.i64.wrap ((IntKind.i64.wrap (A1+((s2.length:Nat):Int)))+2))+y116)⟩:A0)]:List A0))) (s2++([(⟨21,0,0,y13.1,([]:List OpS),false,IntKind.i64.wrap ((IntKind.i64.wrap ((IntKind.i64.wrap (A1+((s2.length:Nat):Int)))+2))+y116)⟩:A0)]:List A0)) (List.map A9 y134) y134) ?_
 refine ar (ap A9 (List.map A9 ((s2++([(⟨21,0,0,y13.1,([]:List OpS),false,IntKind.i64.wrap ((IntKind.i64.wrap ((IntKind.i64.wrap (A1+((s2.length:Nat):Int)))+2))+y116)⟩:A0)]:List A0))++y134)) ((s2++([(⟨21,0,0,y13.1,([]:List OpS),false,IntKind.i64.wrap ((IntKind.i64.wrap ((IntKind.i64.wrap (A1+((s2.length:Nat):Int)))+2))+y116)⟩:A0)]:List A0))++y134) ([[iA (20),iA (0),iA (0),AV.sl 3 [],AV.sl 3 [],bA false,iA (IntKind.i64.wrap ((IntKind.i64.wrap ((IntKind.i64.wrap ((IntKind.i64.wrap (A1+((s2.length:Nat):Int)))+2))+y116))+y118))]]) ([(⟨20,0,0,([]:List OpS),([]:List OpS),false,IntKind.i64.wrap ((IntKind.i64.wrap ((IntKind.i64.wrap ((IntKind.i64.wrap (A1+((s2.length:Nat):Int)))+2))+y116))+y118)⟩:A0)]:List A0)) ?_
 refine cr hc (fun _ h=>ih h) ?_;intro y140
 refine ar (ap A9 (List.map A9 (((s2++([(⟨21,0,0,y13.1,([]:List OpS),false,IntKind.i64.wrap ((IntKind.i64.wrap ((IntKind.i64.wrap (A1+((s2.length:Nat):Int)))+2))+y116)⟩:A0)]:List A0))++y134)++([(⟨20,0,0,([]:List OpS),([]:List OpS),false,IntKind.i64.wrap ((IntKind.i64.wrap ((IntKind.i64.wrap ((IntKind.i64.wrap (A1+((s2.length:Nat):Int)))+2))+y116))+y118)⟩:A0)]:List A0))) (((s2++([(⟨21,0,0,y13.1,([]:List OpS),false,IntKind.i64.wrap ((IntKind.i64.wrap ((IntKind.i64.wrap (A1+((s2.length:Nat):Int)))+2))+y116)⟩:A0)]:List A0))++y134)++([(⟨20,0,0,([]:List OpS),([]:List OpS),false,IntKind.i64.wrap ((IntKind.i64.wrap ((IntKind.i64.wrap ((IntKind.i64.wrap (A1+((s2.length:Nat):Int)))+2))+y116))+y118)⟩:A0)]:List A0)) (List.map A9 y140) y140) ?_
 exact fun h=>cq (hcont8 (IntKind.i64.wrap ((IntKind.i64.wrap ((IntKind.i64.wrap (s1+1))+x12.A7))+x12.Ae),((((s2++([(⟨21,0,0,y13.1,([]:List OpS),false,IntKind.i64.wrap ((IntKind.i64.wrap ((IntKind.i64.wrap (A1+((s2.length:Nat):Int)))+2))+y116)⟩:A0)]:List A0))++y134)++([(⟨20,0,0,([]:List OpS),([]:List OpS),false,IntKind.i64.wrap ((IntKind.i64.wrap ((IntKind.i64.wrap ((IntKind.i64.wrap (A1+((s2.length:Nat):Int)))+2))+y116))+y118)⟩:A0)]:List A0))++y140)) (fun _=>0) h)
 refine br ?_ ?_
 refine ar (ap A9 (List.map A9 s2) s2 ([[iA (21),iA (0),iA (0),AV.sl 3 (List.map At y13.1),AV.sl 3 [],bA false,iA (IntKind.i64.wrap ((IntKind.i64.wrap ((IntKind.i64.wrap (A1+((s2.length:Nat):Int)))+2))+y116))]]) ([(⟨21,0,0,y13.1,([]:List OpS),false,IntKind.i64.wrap ((IntKind.i64.wrap ((IntKind.i64.wrap (A1+((s2.length:Nat):Int)))+2))+y116)⟩:A0)]:List A0)) ?_
 refine cr hc (fun _ h=>ih h) ?_;intro y147
 refine ar (ap A9 (List.map A9 (s2++([(⟨21,0,0,y13.1,([]:List OpS),false,IntKind.i64.wrap ((IntKind.i64.wrap ((IntKind.i64.wrap (A1+((s2.length:Nat):Int)))+2))+y116)⟩:A0)]:List A0))) (s2++([(⟨21,0,0,y13.1,([]:List OpS),false,IntKind.i64.wrap ((IntKind.i64.wrap ((IntKind.i64.wrap (A1+((s2.length:Nat):Int)))+2))+y116)⟩:A0)]:List A0)) (List.map A9 y147) y147) ?_
 refine ar (ap A9 (List.map A9 ((s2++([(⟨21,0,0,y13.1,([]:List OpS),false,IntKind.i64.wrap ((IntKind.i64.wrap ((IntKind.i64.wrap (A1+((s2.length:Nat):Int)))+2))+y116)⟩:A0)]:List A0))++y147)) ((s2++([(⟨21,0,0,y13.1,([]:List OpS),false,IntKind.i64.wrap ((IntKind.i64.wrap ((IntKind.i64.wrap (A1+((s2.length:Nat):Int)))+2))+y116)⟩:A0)]:List A0))++y147) ([[iA (20),iA (0),iA (0),AV.sl 3 [],AV.sl 3 [],bA false,iA (IntKind.i64.wrap (A1+((s2.length:Nat):Int)))]]) ([(⟨20,0,0,([]:List OpS),([]:List OpS),false,IntKind.i64.wrap (A1+((s2.length:Nat):Int))⟩:A0)]:List A0)) ?_
 exact fun h=>cq (hcont8 (IntKind.i64.wrap ((IntKind.i64.wrap ((IntKind.i64.wrap (s1+1))+x12.A7))+x12.Ae),(((s2++([(⟨21,0,0,y13.1,([]:List OpS),false,IntKind.i64.wrap ((IntKind.i64.wrap ((IntKind.i64.wrap (A1+((s2.length:Nat):Int)))+2))+y116)⟩:A0)]:List A0))++y147)++([(⟨20,0,0,([]:List OpS),([]:List OpS),false,IntKind.i64.wrap (A1+((s2.length:Nat):Int))⟩:A0)]:List A0))) (fun _=>0) h)
 refine br ?_ ?_
 refine cr hc (fun _ h=>ih h) ?_;intro y154
 refine ar (ap A9 (List.map A9 s2) s2 (List.map A9 y154) y154) ?_
 refine ar (ap A9 (List.map A9 (s2++y154)) (s2++y154) ([[iA (20),iA (0),iA (0),AV.sl 3 [],AV.sl 3 [],bA false,iA (IntKind.i64.wrap (A1+((s2.length:Nat):Int)))]]) ([(⟨20,0,0,([]:List OpS),([]:List OpS),false,IntKind.i64.wrap (A1+((s2.length:Nat):Int))⟩:A0)]:List A0)) ?_
 exact fun h=>cq (hcont8 (IntKind.i64.wrap ((IntKind.i64.wrap ((IntKind.i64.wrap (s1+1))+x12.A7))+x12.Ae),((s2++y154)++([(⟨20,0,0,([]:List OpS),([]:List OpS),false,IntKind.i64.wrap (A1+((s2.length:Nat):Int))⟩:A0)]:List A0))) (fun _=>0) h)
 refine ar (ap A9 (List.map A9 s2) s2 ([[iA x12.Ax,iA y113,iA (0),AV.sl 3 (List.map At y13.1),AV.sl 3 (List.map At y15.1),bA x12.Ct,iA (0)]]) ([(⟨x12.Ax,y113,0,y13.1,y15.1,x12.Ct,0⟩:A0)]:List A0)) ?_
 exact fun h=>cq (hcont8 (IntKind.i64.wrap ((IntKind.i64.wrap ((IntKind.i64.wrap (s1+1))+x12.A7))+x12.Ae),(s2++([(⟨x12.Ax,y113,0,y13.1,y15.1,x12.Ct,0⟩:A0)]:List A0))) (fun _=>0) h)
 refine ca hc (fun _ h=>Br h) ?_;intro y162
 refine ca hc (fun _ h=>Cc h) ?_;intro y164
 refine ca hc (fun _ h=>Cc h) ?_;intro y166
 refine br ?_ ?_
 exact fun h=>cq (hcont8 (IntKind.i64.wrap ((IntKind.i64.wrap ((IntKind.i64.wrap (s1+1))+x12.A7))+x12.Ae),s2) (fun _=>0) h)
 refine br ?_ ?_
 refine ar (ap A9 (List.map A9 s2) s2 ([[iA (20),iA (0),iA (0),AV.sl 3 [],AV.sl 3 [],bA false,iA Ap]]) ([(⟨20,0,0,([]:List OpS),([]:List OpS),false,Ap⟩:A0)]:List A0)) ?_
 exact fun h=>cq (hcont8 (IntKind.i64.wrap ((IntKind.i64.wrap ((IntKind.i64.wrap (s1+1))+x12.A7))+x12.Ae),(s2++([(⟨20,0,0,([]:List OpS),([]:List OpS),false,Ap⟩:A0)]:List A0))) (fun _=>0) h)
 refine br ?_ ?_
 refine br ?_ ?_
 refine ar (ap A9 (List.map A9 s2) s2 ([[iA (21),iA (0),iA (0),AV.sl 3 (List.map At y13.1),AV.sl 3 [],bA false,iA (IntKind.i64.wrap ((IntKind.i64.wrap ((IntKind.i64.wrap (A1+((s2.length:Nat):Int)))+1))+y164))]]) ([(⟨21,0,0,y13.1,([]:List OpS),false,IntKind.i64.wrap ((IntKind.i64.wrap ((IntKind.i64.wrap (A1+((s2.length:Nat):Int)))+1))+y164)⟩:A0)]:List A0)) ?_
 refine cr hc (fun _ h=>ih h) ?_;intro y176
 refine ar (ap A9 (List.map A9 (s2++([(⟨21,0,0,y13.1,([]:List OpS),false,IntKind.i64.wrap ((IntKind.i64.wrap ((IntKind.i64.wrap (A1+((s2.length:Nat):Int)))+1))+y164)⟩:A0)]:List A0))) (s2++([(⟨21,0,0,y13.1,([]:List OpS),false,IntKind.i64.wrap ((IntKind.i64.wrap ((IntKind.i64.wrap (A1+((s2.length:Nat):Int)))+1))+y164)⟩:A0)]:List A0)) (List.map A9 y176) y176) ?_
 exact fun h=>cq (hcont8 (IntKind.i64.wrap ((IntKind.i64.wrap ((IntKind.i64.wrap (s1+1))+x12.A7))+x12.Ae),((s2++([(⟨21,0,0,y13.1,([]:List OpS),false,IntKind.i64.wrap ((IntKind.i64.wrap ((IntKind.i64.wrap (A1+((s2.length:Nat):Int)))+1))+y164)⟩:A0)]:List A0))++y176)) (fun _=>0) h)
 refine ar (ap A9 (List.map A9 s2) s2 ([[iA (21),iA (0),iA (0),AV.sl 3 (List.map At y13.1),AV.sl 3 [],bA false,iA (IntKind.i64.wrap ((IntKind.i64.wrap ((IntKind.i64.wrap (A1+((s2.length:Nat):Int)))+2))+y164))]]) ([(⟨21,0,0,y13.1,([]:List OpS),false,IntKind.i64.wrap ((IntKind.i64.wrap ((IntKind.i64.wrap (A1+((s2.length:Nat):Int)))+2))+y164)⟩:A0)]:List A0)) ?_
 refine cr hc (fun _ h=>ih h) ?_;intro y182
 refine ar (ap A9 (List.map A9 (s2++([(⟨21,0,0,y13.1,([]:List OpS),false,IntKind.i64.wrap ((IntKind.i64.wrap ((IntKind.i64.wrap (A1+((s2.length:Nat):Int)))+2))+y164)⟩:A0)]:List A0))) (s2++([(⟨21,0,0,y13.1,([]:List OpS),false,IntKind.i64.wrap ((IntKind.i64.wrap ((IntKind.i64.wrap (A1+((s2.length:Nat):Int)))+2))+y164)⟩:A0)]:List A0)) (List.map A9 y182) y182) ?_
 refine ar (ap A9 (List.map A9 ((s2++([(⟨21,0,0,y13.1,([]:List OpS),false,IntKind.i64.wrap ((IntKind.i64.wrap ((IntKind.i64.wrap (A1+((s2.length:Nat):Int)))+2))+y164)⟩:A0)]:List A0))++y182)) ((s2++([(⟨21,0,0,y13.1,([]:List OpS),false,IntKind.i64.wrap ((IntKind.i64.wrap ((IntKind.i64.wrap (A1+((s2.length:Nat):Int)))+2))+y164)⟩:A0)]:List A0))++y182) ([[iA (20),iA (0),iA (0),AV.sl 3 [],AV.sl 3 [],bA false,iA (IntKind.i64.wrap ((IntKind.i64.wrap ((IntKind.i64.wrap ((IntKind.i64.wrap (A1+((s2.length:Nat):Int)))+2))+y164))+y166))]]) ([(⟨20,0,0,([]:List OpS),([]:List OpS),false,IntKind.i64.wrap ((IntKind.i64.wrap ((IntKind.i64.wrap ((IntKind.i64.wrap (A1+((s2.length:Nat):Int)))+2))+y164))+y166)⟩:A0)]:List A0)) ?_
 refine cr hc (fun _ h=>ih h) ?_;intro y188
 refine ar (ap A9 (List.map A9 (((s2++([(⟨21,0,0,y13.1,([]:List OpS),false,IntKind.i64.wrap ((IntKind.i64.wrap ((IntKind.i64.wrap (A1+((s2.length:Nat):Int)))+2))+y164)⟩:A0)]:List A0))++y182)++([(⟨20,0,0,([]:List OpS),([]:List OpS),false,IntKind.i64.wrap ((IntKind.i64.wrap ((IntKind.i64.wrap ((IntKind.i64.wrap (A1+((s2.length:Nat):Int)))+2))+y164))+y166)⟩:A0)]:List A0))) (((s2++([(⟨21,0,0,y13.1,([]:List OpS),false,IntKind.i64.wrap ((IntKind.i64.wrap ((IntKind.i64.wrap (A1+((s2.length:Nat):Int)))+2))+y164)⟩:A0)]:List A0))++y182)++([(⟨20,0,0,([]:List OpS),([]:List OpS),false,IntKind.i64.wrap ((IntKind.i64.wrap ((IntKind.i64.wrap ((IntKind.i64.wrap (A1+((s2.length:Nat):Int)))+2))+y164))+y166)⟩:A0)]:List A0)) (List.map A9 y188) y188) ?_
 exact fun h=>cq (hcont8 (IntKind.i64.wrap ((IntKind.i64.wrap ((IntKind.i64.wrap (s1+1))+x12.A7))+x12.Ae),((((s2++([(⟨21,0,0,y13.1,([]:List OpS),false,IntKind.i64.wrap ((IntKind.i64.wrap ((IntKind.i64.wrap (A1+((s2.length:Nat):Int)))+2))+y164)⟩:A0)]:List A0))++y182)++([(⟨20,0,0,([]:List OpS),([]:List OpS),false,IntKind.i64.wrap ((IntKind.i64.wrap ((IntKind.i64.wrap ((IntKind.i64.wrap (A1+((s2.length:Nat):Int)))+2))+y164))+y166)⟩:A0)]:List A0))++y188)) (fun _=>0) h)
 refine br ?_ ?_
 refine ar (ap A9 (List.map A9 s2) s2 ([[iA (21),iA (0),iA (0),AV.sl 3 (List.map At y13.1),AV.sl 3 [],bA false,iA (IntKind.i64.wrap ((IntKind.i64.wrap ((IntKind.i64.wrap (A1+((s2.length:Nat):Int)))+2))+y164))]]) ([(⟨21,0,0,y13.1,([]:List OpS),false,IntKind.i64.wrap ((IntKind.i64.wrap ((IntKind.i64.wrap (A1+((s2.length:Nat):Int)))+2))+y164)⟩:A0)]:List A0)) ?_
 refine cr hc (fun _ h=>ih h) ?_;intro y195
 refine ar (ap A9 (List.map A9 (s2++([(⟨21,0,0,y13.1,([]:List OpS),false,IntKind.i64.wrap ((IntKind.i64.wrap ((IntKind.i64.wrap (A1+((s2.length:Nat):Int)))+2))+y164)⟩:A0)]:List A0))) (s2++([(⟨21,0,0,y13.1,([]:List OpS),false,IntKind.i64.wrap ((IntKind.i64.wrap ((IntKind.i64.wrap (A1+((s2.length:Nat):Int)))+2))+y164)⟩:A0)]:List A0)) (List.map A9 y195) y195) ?_
 refine ar (ap A9 (List.map A9 ((s2++([(⟨21,0,0,y13.1,([]:List OpS),false,IntKind.i64.wrap ((IntKind.i64.wrap ((IntKind.i64.wrap (A1+((s2.length:Nat):Int)))+2))+y164)⟩:A0)]:List A0))++y195)) ((s2++([(⟨21,0,0,y13.1,([]:List OpS),false,IntKind.i64.wrap ((IntKind.i64.wrap ((IntKind.i64.wrap (A1+((s2.length:Nat):Int)))+2))+y164)⟩:A0)]:List A0))++y195) ([[iA (20),iA (0),iA (0),AV.sl 3 [],AV.sl 3 [],bA false,iA (IntKind.i64.wrap (A1+((s2.length:Nat):Int)))]]) ([(⟨20,0,0,([]:List OpS),([]:List OpS),false,IntKind.i64.wrap (A1+((s2.length:Nat):Int))⟩:A0)]:List A0)) ?_
 exact fun h=>cq (hcont8 (IntKind.i64.wrap ((IntKind.i64.wrap ((IntKind.i64.wrap (s1+1))+x12.A7))+x12.Ae),(((s2++([(⟨21,0,0,y13.1,([]:List OpS),false,IntKind.i64.wrap ((IntKind.i64.wrap ((IntKind.i64.wrap (A1+((s2.length:Nat):Int)))+2))+y164)⟩:A0)]:List A0))++y195)++([(⟨20,0,0,([]:List OpS),([]:List OpS),false,IntKind.i64.wrap (A1+((s2.length:Nat):Int))⟩:A0)]:List A0))) (fun _=>0) h)
 refine br ?_ ?_
 refine cr hc (fun _ h=>ih h) ?_;intro y202
 refine ar (ap A9 (List.map A9 s2) s2 (List.map A9 y202) y202) ?_
 refine ar (ap A9 (List.map A9 (s2++y202)) (s2++y202) ([[iA (20),iA (0),iA (0),AV.sl 3 [],AV.sl 3 [],bA false,iA (IntKind.i64.wrap (A1+((s2.length:Nat):Int)))]]) ([(⟨20,0,0,([]:List OpS),([]:List OpS),false,IntKind.i64.wrap (A1+((s2.length:Nat):Int))⟩:A0)]:List A0)) ?_
 exact fun h=>cq (hcont8 (IntKind.i64.wrap ((IntKind.i64.wrap ((IntKind.i64.wrap (s1+1))+x12.A7))+x12.Ae),((s2++y202)++([(⟨20,0,0,([]:List OpS),([]:List OpS),false,IntKind.i64.wrap (A1+((s2.length:Nat):Int))⟩:A0)]:List A0))) (fun _=>0) h)
 refine ar (ap A9 (List.map A9 s2) s2 ([[iA x12.Ax,iA y113,iA y162,AV.sl 3 (List.map At y13.1),AV.sl 3 (List.map At y15.1),bA x12.Ct,iA (0)]]) ([(⟨x12.Ax,y113,y162,y13.1,y15.1,x12.Ct,0⟩:A0)]:List A0)) ?_
 exact fun h=>cq (hcont8 (IntKind.i64.wrap ((IntKind.i64.wrap ((IntKind.i64.wrap (s1+1))+x12.A7))+x12.Ae),(s2++([(⟨x12.Ax,y113,y162,y13.1,y15.1,x12.Ct,0⟩:A0)]:List A0))) (fun _=>0) h)
 intro h;cases sj h
 exact kq (hr9 (fun _=>0))
 refine lrc ?_ ?_
 intro v e;subst e;cases sj h;rfl
 intro x211 a210 e;subst e
 dsimp only at h
 conv=>lhs;whnf
 revert h
 intro h;obtain rfl:=sj h
 try simp only[ls]
 exact fq (y:=some (AV.sl 7 (List.take (List.length x211) (List.map A9 x211)),[]))
theorem Pn:∀ n,Lw n
 | 0=>by unfold Lw J1;intros;rename_i h;exact absurd h (by intro h;cases h)
 | n+1=>have ih:=Pn n
   Wj n ih
theorem Bv {n:Nat}:J1 n:=(Pn n)
end Go.Proofs.Ytceibnlnjmpkoaa
end
