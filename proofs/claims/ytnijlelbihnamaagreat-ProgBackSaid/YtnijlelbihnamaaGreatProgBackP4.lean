/- Parts of the proofs: what they lean on. Conditions: none. -/
import Derived.Test.YtnijlelbihnamaaGreatProgBackP3
section
namespace Go.Proofs.YtnijlelbihnamaaGreat
set_option linter.unusedVariables false
set_option linter.unusedSimpArgs false
set_option maxRecDepth 100000
set_option maxHeartbeats 4000000
theorem Xc {n:Nat} ⦃Aa:(List A5)⦄ ⦃Bb:Int⦄ ⦃r:((List A0)×Int×Int×Int)⦄:Ic n Aa Bb=some r→CN n 59 [AV.sl 4 (List.map A4 Aa),iA Bb] []=some (AV.tup [AV.sl 9 (List.map A9 r.1),iA r.2.1,iA r.2.2.1,iA r.2.2.2],[]):=by
 intro h;rcases n with _|n;cases h
 rw[Ic] at h
 refine Ai Tryz.func59 (by rfl) rfl rfl (Ap rfl) ?_
 intro call hc;conv=>lhs;whnf
 revert h
 refine br ?_ ?_
 exact rz
 refine br ?_ ?_
 exact rz
 refine ca hc (fun _ h=>Sh h) ?_;intro y3
 intro h;refine As h ?_;clear h;intro o14 ho14 h
 refine lq (σ:=(Int×(List ((List UInt8)×Int)))) (τ:=(List ((List UInt8)×Int))) (ν:=((List A0)×Int×Int×Int)) 0 (fun(s5,s6) a8=>B9 71 [(1,iA Bb),(8,AV.ptr 1 0),(25,AV.sl 4 (List.map Zu y3)),(26,iA (((y3.length:Nat):Int))),(27,iA s5)]) (fun(s5,s6) a8=>[Ob.mp none false (List.map A8 s6),Ob.var 107 [AV.sl 4 (List.map A4 Aa),iA Bb,AV.mapp 0,iA (0),iA (0)]]) (fun x20 a19=>B9 71 [(1,iA Bb),(8,AV.ptr 1 0)]) (fun x20 a19=>[Ob.mp none false (List.map A8 x20),Ob.var 107 [AV.sl 4 (List.map A4 Aa),iA Bb,AV.mapp 0,iA (0),iA (0)]]) (fun v=>(AV.tup [AV.sl 9 (List.map A9 v.1),iA v.2.1,iA v.2.2.1,iA v.2.2.2],[])) (fun k s=>J1 n y3 k s.1 s.2) (fun s=>rfl) o14 n (0,([]:(List ((List UInt8)×Int)))) (fun _=>0) ho14 ?_ ?_
 intro k7 ss a8 K9 cont10 hK11 hcont12 h hr13
 obtain⟨s5,s6⟩:=ss
 replace h:J1 n y3 (k7+1) s5 s6=some o14:=h
 rw[J1] at h
 conv=>lhs;whnf
 revert h
 refine br ?_ ?_
 refine ix ?_;intro x16
 refine br ?_ ?_
 exact fun h=>cq (hcont12 (IntKind.i64.wrap (s5+1),s6) (fun _=>0) h)
 intro h
 have hs18:T3 (List.map A8 s6) (sA x16.f_word) (iA s5)=List.map A8 (Re s6 x16.f_word s5):=U5 _ _ _
 try simp only[hs18]
 conv=>lhs;whnf
 revert h
 exact fun h=>cq (hcont12 (IntKind.i64.wrap (s5+1),(Re s6 x16.f_word s5)) (fun _=>0) h)
 intro h;cases sj h
 exact kq (hr13 (fun _=>0))
 refine lrc ?_ ?_
 intro v e;subst e;cases sj h;rfl
 intro x20 a19 e;subst e
 dsimp only at h
 conv=>lhs;whnf
 revert h
 refine ca hc (fun _ h=>Xo h) ?_;intro y21
 refine br ?_ ?_
 exact rz
 refine br ?_ ?_
 refine ca hc (fun _ h=>Jc h) ?_;intro y25
 exact rz
 exact rz
theorem Wx {n:Nat} ⦃Ds:Int⦄ ⦃r:Bool⦄:Nu n Ds=some r→CN n 99 [iA Ds] []=some (bA r,[]):=by
 intro h;rcases n with _|n;cases h
 rw[Nu] at h
 refine Ai Tryz.func99 (by rfl) rfl rfl (Ap rfl) ?_
 intro call hc;conv=>lhs;whnf
 revert h
 refine br ?_ ?_
 exact rz
 refine br ?_ ?_
 exact rz
 refine br ?_ ?_
 exact rz
 exact rz
def Q2 (n:Nat):Prop:=∀ ⦃Aa:(List A0)⦄ ⦃E5:Int⦄ ⦃Dn:Int⦄ ⦃r:Int⦄,Ky n Aa E5 Dn=some r→CN n 117 [AV.sl 9 (List.map A9 Aa),iA E5,iA Dn] []=some (iA r,[])
def Qz (n:Nat):Prop:=∀ ⦃G7:Int⦄ ⦃L8:Int⦄ ⦃Ms:Int⦄ ⦃o0:(List A0)⦄ ⦃o1:Int⦄ ⦃r:(Bool×Int)⦄,Ho n G7 L8 Ms o0 o1=some r→CN n 136 [iA G7,iA L8,iA Ms,AV.ptr 0 0,AV.ptr 1 0] [Ob.var 37 [AV.sl 9 (List.map A9 o0)],Ob.var 3 [iA o1]]=some (bA r.1,[Ob.var 37 [AV.sl 9 (List.map A9 o0)],Ob.var 3 [iA r.2]])
def Jg (n:Nat):Prop:=∀ ⦃Aa:(List A0)⦄ ⦃E5:Int⦄ ⦃Dn:Int⦄ ⦃o0:(List A0)⦄ ⦃o1:Int⦄ ⦃r:(Bool×Int)⦄,Hi n Aa E5 Dn o0 o1=some r→CN n 95 [AV.sl 9 (List.map A9 Aa),iA E5,iA Dn,AV.func 136 [] [AV.ptr 0 0,AV.ptr 1 0]] [Ob.var 37 [AV.sl 9 (List.map A9 o0)],Ob.var 3 [iA o1]]=some (bA r.1,[Ob.var 37 [AV.sl 9 (List.map A9 o0)],Ob.var 3 [iA r.2]])
def Q3 (n:Nat):Prop:=Q2 n∧Qz n∧Jg n
theorem A4q (n:Nat) (ih:Q3 n):Q2 (n+1):=by
 intro Aa E5 Dn r h
 rw[Ky] at h
 refine Ai Tryz.func117 (by rfl) rfl rfl (Ap rfl) ?_
 intro call hc;conv=>lhs;whnf
 revert h
 refine ca hc (fun _ h=>ih.2.2 h) ?_;intro y1
 refine br ?_ ?_
 exact rz
 exact rz
theorem A1t (n:Nat) (ih:Q3 n):Qz (n+1):=by
 intro G7 L8 Ms o0 o1 r h
 rw[Ho] at h
 refine Ai Tryz.func136 (by rfl) rfl rfl (Ap rfl) ?_
 intro call hc;conv=>lhs;whnf
 revert h
 refine ca hc (fun _ h=>ih.1 h) ?_;intro y1
 refine ca hc (fun _ h=>ih.1 h) ?_;intro y3
 refine ix ?_;intro x5
 refine ca hc (fun _ h=>Wx h) ?_;intro y6
 refine br ?_ ?_
 refine br ?_ ?_
 exact rz
 exact rz
 refine br ?_ ?_
 exact rz
 exact rz
theorem Sw (n:Nat) (ih:Q3 n):Jg (n+1):=by
 intro Aa E5 Dn o0 o1 r h
 rw[Hi] at h
 refine Ai Tryz.func95 (by rfl) rfl rfl (Ap rfl) ?_
 intro call hc;conv=>lhs;whnf
 revert h
 intro h;refine As h ?_;clear h;intro o10 ho10 h
 refine lq (σ:=(Int×Int)) (τ:=Int) (ν:=(Bool×Int)) 0 (fun(s1,s2) a4=>B9 63 [(0,AV.sl 9 (List.map A9 Aa)),(1,iA s1),(2,iA Dn),(3,AV.func 136 [] [AV.ptr 0 0,AV.ptr 1 0])]) (fun(s1,s2) a4=>[Ob.var 37 [AV.sl 9 (List.map A9 o0)],Ob.var 3 [iA s2]]) (fun x21 a20=>B9 63 []) (fun x21 a20=>[Ob.var 37 [AV.sl 9 (List.map A9 o0)],Ob.var 3 [iA x21]]) (fun v=>(bA v.1,[Ob.var 37 [AV.sl 9 (List.map A9 o0)],Ob.var 3 [iA v.2]])) (fun k s=>D9 n (Ho n) Aa Dn o0 k s.1 s.2) (fun s=>rfl) o10 n (E5,o1) (fun _=>0) ho10 ?_ ?_
 intro k3 ss a4 K5 cont6 hK7 hcont8 h hr9
 obtain⟨s1,s2⟩:=ss
 replace h:D9 n (Ho n) Aa Dn o0 (k3+1) s1 s2=some o10:=h
 rw[D9] at h
 conv=>lhs;whnf
 revert h
 refine br ?_ ?_
 refine ix ?_;intro x12
 refine br ?_ ?_
 intro h;cases sj h
 refine(hK7 _ _).trans ?_
 refine Eq.trans ?_ (Eq.symm (show _=some _ from hr9))
 conv=>lhs;whnf
 exact rq
 refine br ?_ ?_
 intro h;cases sj h
 refine(hK7 _ _).trans ?_
 refine Eq.trans ?_ (Eq.symm (show _=some _ from hr9))
 conv=>lhs;whnf
 exact rq
 refine br ?_ ?_
 intro h;cases sj h
 refine(hK7 _ _).trans ?_
 refine Eq.trans ?_ (Eq.symm (show _=some _ from hr9))
 conv=>lhs;whnf
 exact rq
 refine br ?_ ?_
 intro h;cases sj h
 refine(hK7 _ _).trans ?_
 refine Eq.trans ?_ (Eq.symm (show _=some _ from hr9))
 conv=>lhs;whnf
 exact rq
 refine ca hc (fun _ h=>ih.2.1 h) ?_;intro y17
 refine br ?_ ?_
 exact fun h=>cq (hcont8 (IntKind.i64.wrap ((IntKind.i64.wrap ((IntKind.i64.wrap (s1+1))+x12.B5))+x12.Ch),y17.2) (fun _=>0) h)
 intro h;cases sj h
 refine(hK7 _ _).trans ?_
 refine Eq.trans ?_ (Eq.symm (show _=some _ from hr9))
 conv=>lhs;whnf
 exact rq
 intro h;cases sj h
 exact kq (hr9 (fun _=>0))
 refine lrc ?_ ?_
 intro v e;subst e;cases sj h;rfl
 intro x21 a20 e;subst e
 dsimp only at h
 conv=>lhs;whnf
 revert h
 exact rz
theorem Vm:∀ n,Q3 n
 | 0=>⟨by unfold Q2;intros;rename_i h;exact absurd h (by intro h;cases h),by unfold Qz;intros;rename_i h;exact absurd h (by intro h;cases h),by unfold Jg;intros;rename_i h;exact absurd h (by intro h;cases h)⟩
 | n+1=>have ih:=Vm n
   ⟨A4q n ih,A1t n ih,Sw n ih⟩
theorem A4z {n:Nat}:Q2 n:=(Vm n).1
theorem A4k {n:Nat} ⦃Aa:(List A0)⦄ ⦃r:Int⦄:R1 n Aa=some r→CN n 91 [AV.sl 9 (List.map A9 Aa)] []=some (iA r,[]):=by
 intro h;rcases n with _|n;cases h
 rw[R1] at h
 refine Ai Tryz.func91 (by rfl) rfl rfl (Ap rfl) ?_
 intro call hc;conv=>lhs;whnf
 revert h
 refine cr hc (fun _ h=>A4z h) ?_;intro y1
 exact rz
theorem Gu {n:Nat} ⦃Kq:Bn⦄ ⦃Mv:Int⦄ ⦃r:Bool⦄:El n Kq Mv=some r→CN n 120 [AV.agg [sA Kq.f_word,sA Kq.f_form,bA Kq.f_body,bA Kq.f_more],AV.int .u8 Mv] []=some (bA r,[]):=by
 intro h;rcases n with _|n;cases h
 rw[El] at h
 refine Ai Tryz.func120 (by rfl) rfl rfl (Ap rfl) ?_
 intro call hc;conv=>lhs;whnf
 revert h
 intro h;refine As h ?_;clear h;intro o9 ho9 h
 refine lq (σ:=Int) (τ:=Unit) (ν:=Bool) 0 (fun s1 a3=>B9 19 [(1,AV.int .u8 Mv),(2,AV.ptr 0 0),(8,iA (((Kq.f_form.length:Nat):Int))),(9,iA s1)]) (fun s1 a3=>[Ob.var 111 [sA Kq.f_word,sA Kq.f_form,bA Kq.f_body,bA Kq.f_more]]) (fun _ a13=>B9 19 []) (fun _ a13=>[Ob.var 111 [sA Kq.f_word,sA Kq.f_form,bA Kq.f_body,bA Kq.f_more]]) (fun v=>(bA v,[])) (fun k s=>Gt n Kq Mv k s) (fun s=>rfl) o9 n 0 (fun _=>0) ho9 ?_ ?_
 intro k2 s1 a3 K4 cont5 hK6 hcont7 h hr8
 replace h:Gt n Kq Mv (k2+1) s1=some o9:=h
 rw[Gt] at h
 conv=>lhs;whnf
 revert h
 refine br ?_ ?_
 refine ixs ?_;intro x11
 refine br ?_ ?_
 intro h;cases sj h
 refine(hK6 _ _).trans ?_
 refine Eq.trans ?_ (Eq.symm (show _=some _ from hr8))
 conv=>lhs;whnf
 exact rq
 exact fun h=>cq (hcont7 (IntKind.i64.wrap (s1+1)) (fun _=>0) h)
 intro h;cases sj h
 exact kq (hr8 (fun _=>0))
 refine lrc ?_ ?_
 intro v e;subst e;cases sj h;rfl
 intro t a13 e;subst e
 dsimp only at h
 conv=>lhs;whnf
 revert h
 exact rz
theorem Ot {n:Nat} ⦃G8:Int⦄ ⦃Kp:(List UInt8)⦄ ⦃F9:(List UInt8)⦄ ⦃Fa:(List UInt8)⦄ ⦃Fb:Bool⦄ ⦃Fc:Bool⦄ ⦃r:Bool⦄:Iw n G8 Kp F9 Fa Fb Fc=some r→CN n 119 [AV.int .u8 G8,sA Kp,AV.ptr 0 0] [Ob.var 111 [sA F9,sA Fa,bA Fb,bA Fc]]=some (bA r,[Ob.var 111 [sA F9,sA Fa,bA Fb,bA Fc]]):=by
 intro h;rcases n with _|n;cases h
 rw[Iw] at h
 refine Ai Tryz.func119 (by rfl) rfl rfl (Ap rfl) ?_
 intro call hc;conv=>lhs;whnf
 revert h
 refine ca hc (fun y1 h=>(show CN n 120 [AV.agg [sA F9,sA Fa,bA Fb,bA Fc],AV.int .u8 G8] []=some (bA y1,[]) from Gu (r:=y1) h)) ?_;intro y1
 refine br ?_ ?_
 refine ca hc (fun _ h=>Gc h) ?_;intro y4
 refine br ?_ ?_
 exact rz
 refine ca hc (fun y7 h=>(show CN n 120 [AV.agg [sA F9,sA Fa,bA Fb,bA Fc],AV.int .u8 G8] []=some (bA y7,[]) from Gu (r:=y7) h)) ?_;intro y7
 refine br ?_ ?_
 exact rz
 exact rz
 refine ca hc (fun y10 h=>(show CN n 120 [AV.agg [sA F9,sA Fa,bA Fb,bA Fc],AV.int .u8 G8] []=some (bA y10,[]) from Gu (r:=y10) h)) ?_;intro y10
 refine br ?_ ?_
 exact rz
 exact rz
theorem Oo {n:Nat} ⦃G8:Int⦄ ⦃A3a:(List A2)⦄ ⦃F9:(List UInt8)⦄ ⦃Fa:(List UInt8)⦄ ⦃Fb:Bool⦄ ⦃Fc:Bool⦄ ⦃r:Bool⦄:J0 n G8 A3a F9 Fa Fb Fc=some r→CN n 121 [AV.int .u8 G8,AV.sl 5 (List.map A3 A3a),AV.ptr 0 0] [Ob.var 111 [sA F9,sA Fa,bA Fb,bA Fc]]=some (bA r,[Ob.var 111 [sA F9,sA Fa,bA Fb,bA Fc]]):=by
 intro h;rcases n with _|n;cases h
 rw[J0] at h
 refine Ai Tryz.func121 (by rfl) rfl rfl (Ap rfl) ?_
 intro call hc;conv=>lhs;whnf
 revert h
 refine ca hc (fun y1 h=>(show CN n 120 [AV.agg [sA F9,sA Fa,bA Fb,bA Fc],AV.int .u8 G8] []=some (bA y1,[]) from Gu (r:=y1) h)) ?_;intro y1
 refine br ?_ ?_
 refine ca hc (fun _ h=>X1 h) ?_;intro y4
 refine br ?_ ?_
 exact rz
 refine ca hc (fun y7 h=>(show CN n 120 [AV.agg [sA F9,sA Fa,bA Fb,bA Fc],AV.int .u8 G8] []=some (bA y7,[]) from Gu (r:=y7) h)) ?_;intro y7
 refine br ?_ ?_
 exact rz
 exact rz
 refine ca hc (fun y10 h=>(show CN n 120 [AV.agg [sA F9,sA Fa,bA Fb,bA Fc],AV.int .u8 G8] []=some (bA y10,[]) from Gu (r:=y10) h)) ?_;intro y10
 refine br ?_ ?_
 exact rz
 exact rz
theorem A7p {n:Nat} ⦃B1:A0⦄ ⦃r:Bool⦄:Ru n B1=some r→CN n 92 [AV.agg [iA B1.A7,sA B1.Bd,sA B1.Be,AV.sl 5 (List.map A3 B1.Bm),AV.sl 5 (List.map A3 B1.C6),bA B1.Br,iA B1.B5,iA B1.Ch,iA B1.Ab]] []=some (bA r,[]):=by
 intro h;rcases n with _|n;cases h
 rw[Ru] at h
 refine Ai Tryz.func92 (by rfl) rfl rfl (Ap rfl) ?_
 intro call hc;conv=>lhs;whnf
 revert h
 refine ca hc (fun _ h=>Wu h) ?_;intro y1
 refine br ?_ ?_
 refine br ?_ ?_
 exact rz
 refine br ?_ ?_
 refine ca hc (fun _ h=>Gu h) ?_;intro y6
 refine br ?_ ?_
 refine ca hc (fun _ h=>Ot h) ?_;intro y9
 refine br ?_ ?_
 refine ca hc (fun _ h=>Ot h) ?_;intro y12
 refine br ?_ ?_
 refine ca hc (fun _ h=>Oo h) ?_;intro y15
 refine br ?_ ?_
 refine ca hc (fun _ h=>Oo h) ?_;intro y18
 refine br ?_ ?_
 refine br ?_ ?_
 refine br ?_ ?_
 exact rz
 exact rz
 refine br ?_ ?_
 refine br ?_ ?_
 exact rz
 exact rz
 exact rz
 exact rz
 exact rz
 exact rz
 exact rz
 exact rz
 refine ca hc (fun _ h=>Ot h) ?_;intro y25
 refine br ?_ ?_
 refine ca hc (fun _ h=>Ot h) ?_;intro y28
 refine br ?_ ?_
 refine ca hc (fun _ h=>Oo h) ?_;intro y31
 refine br ?_ ?_
 refine ca hc (fun _ h=>Oo h) ?_;intro y34
 refine br ?_ ?_
 refine br ?_ ?_
 refine br ?_ ?_
 exact rz
 exact rz
 refine br ?_ ?_
 refine br ?_ ?_
 exact rz
 exact rz
 exact rz
 exact rz
 exact rz
 exact rz
 exact rz
 exact rz
theorem X0 {n:Nat} ⦃Aa:(List A0)⦄ ⦃r:Bool⦄:Nm n Aa=some r→CN n 72 [AV.sl 9 (List.map A9 Aa)] []=some (bA r,[]):=by
 intro h;rcases n with _|n;cases h
 rw[Nm] at h
 refine Ai Tryz.func72 (by rfl) rfl rfl (Ap rfl) ?_
 intro call hc;conv=>lhs;whnf
 revert h
 refine ca hc (fun _ h=>A4k h) ?_;intro y1
 refine br ?_ ?_
 exact rz
 refine br ?_ ?_
 exact rz
 refine br ?_ ?_
 exact rz
 intro h;refine As h ?_;clear h;intro o14 ho14 h
 refine lq (σ:=Int) (τ:=Unit) (ν:=Bool) 0 (fun s6 a8=>B9 29 [(19,AV.sl 9 (List.map A9 Aa)),(20,iA (((Aa.length:Nat):Int))),(21,iA s6)]) (fun s6 a8=>[]) (fun _ a20=>B9 29 []) (fun _ a20=>[]) (fun v=>(bA v,[])) (fun k s=>Iv n Aa k s) (fun s=>rfl) o14 n 0 (fun _=>0) ho14 ?_ ?_
 intro k7 s6 a8 K9 cont10 hK11 hcont12 h hr13
 replace h:Iv n Aa (k7+1) s6=some o14:=h
 rw[Iv] at h
 conv=>lhs;whnf
 revert h
 refine br ?_ ?_
 refine ix ?_;intro x16
 refine ca hc (fun _ h=>A7p h) ?_;intro y17
 refine br ?_ ?_
 exact fun h=>cq (hcont12 (IntKind.i64.wrap (s6+1)) (fun _=>0) h)
 intro h;cases sj h
 refine(hK11 _ _).trans ?_
 refine Eq.trans ?_ (Eq.symm (show _=some _ from hr13))
 conv=>lhs;whnf
 exact rq
 intro h;cases sj h
 exact kq (hr13 (fun _=>0))
 refine lrc ?_ ?_
 intro v e;subst e;cases sj h;rfl
 intro t a20 e;subst e
 dsimp only at h
 conv=>lhs;whnf
 revert h
 exact rz
theorem A6j {n:Nat} ⦃B1:A0⦄ ⦃r:(List UInt8)⦄:Rv n B1=some r→CN n 98 [AV.agg [iA B1.A7,sA B1.Bd,sA B1.Be,AV.sl 5 (List.map A3 B1.Bm),AV.sl 5 (List.map A3 B1.C6),bA B1.Br,iA B1.B5,iA B1.Ch,iA B1.Ab]] []=some (sA r,[]):=by
 intro h;rcases n with _|n;cases h
 rw[Rv] at h
 refine Ai Tryz.func98 (by rfl) rfl rfl (Ap rfl) ?_
 intro call hc;conv=>lhs;whnf
 revert h
 refine ca hc (fun _ h=>Wu h) ?_;intro y1
 intro h;refine As h ?_;clear h;intro o13 ho13 h
 refine lq (σ:=((List UInt8)×Int×Bool)) (τ:=((List UInt8)×Bool)) (ν:=(List UInt8)) 0 (fun(s3,s4,s5) a7=>B9 76 [(1,AV.ptr 0 0),(3,AV.ptr 1 0),(5,sA s3),(18,iA (((y1.1.f_form.length:Nat):Int))),(19,iA s4)]) (fun(s3,s4,s5) a7=>[Ob.var 83 [iA B1.A7,sA B1.Bd,sA B1.Be,AV.sl 5 (List.map A3 B1.Bm),AV.sl 5 (List.map A3 B1.C6),bA s5,iA B1.B5,iA B1.Ch,iA B1.Ab],Ob.var 111 [sA y1.1.f_word,sA y1.1.f_form,bA y1.1.f_body,bA y1.1.f_more]]) (fun(x41,x42) a40=>B9 76 [(5,sA x41)]) (fun(x41,x42) a40=>[Ob.var 83 [iA B1.A7,sA B1.Bd,sA B1.Be,AV.sl 5 (List.map A3 B1.Bm),AV.sl 5 (List.map A3 B1.C6),bA x42,iA B1.B5,iA B1.Ch,iA B1.Ab],Ob.var 111 [sA y1.1.f_word,sA y1.1.f_form,bA y1.1.f_body,bA y1.1.f_more]]) (fun v=>(sA v,[])) (fun k s=>E0 n B1 y1 k s.1 s.2.1 s.2.2) (fun s=>rfl) o13 n (y1.1.f_word,0,B1.Br) (fun _=>0) ho13 ?_ ?_
 intro k6 ss a7 K8 cont9 hK10 hcont11 h hr12
 obtain⟨s3,s4,s5⟩:=ss
 replace h:E0 n B1 y1 (k6+1) s3 s4 s5=some o13:=h
 rw[E0] at h
 conv=>lhs;whnf
 revert h
 refine br ?_ ?_
 refine ixs ?_;intro x15
 refine br ?_ ?_
 intro h
 refine B6 h ?_;clear h;intro hc17 h
 refine B4 hc17 ?_
 try simp only[ls]
 conv=>lhs;whnf
 revert h
 intro h
 refine B6 h ?_;clear h;intro hc18 h
 refine B4 hc18 ?_
 try simp only[ls]
 conv=>lhs;whnf
 revert h
 exact fun h=>cq (hcont11 ((s3++(([32]:List UInt8)++B1.Bd)),IntKind.i64.wrap (s4+1),s5) (fun _=>0) h)
 refine br ?_ ?_
 intro h
 refine B6 h ?_;clear h;intro hc20 h
 refine B4 hc20 ?_
 try simp only[ls]
 conv=>lhs;whnf
 revert h
 intro h
 refine B6 h ?_;clear h;intro hc21 h
 refine B4 hc21 ?_
 try simp only[ls]
 conv=>lhs;whnf
 revert h
 exact fun h=>cq (hcont11 ((s3++(([32]:List UInt8)++B1.Be)),IntKind.i64.wrap (s4+1),s5) (fun _=>0) h)
 refine br ?_ ?_
 refine ca hc (fun _ h=>Tz h) ?_;intro y23
 intro h
 refine B6 h ?_;clear h;intro hc25 h
 refine B4 hc25 ?_
 try simp only[ls]
 conv=>lhs;whnf
 revert h
 intro h
 refine B6 h ?_;clear h;intro hc26 h
 refine B4 hc26 ?_
 try simp only[ls]
 conv=>lhs;whnf
 revert h
 exact fun h=>cq (hcont11 ((s3++(([32]:List UInt8)++y23)),IntKind.i64.wrap (s4+1),s5) (fun _=>0) h)
 refine br ?_ ?_
 refine ca hc (fun _ h=>Tz h) ?_;intro y28
 intro h
 refine B6 h ?_;clear h;intro hc30 h
 refine B4 hc30 ?_
 try simp only[ls]
 conv=>lhs;whnf
 revert h
 intro h
 refine B6 h ?_;clear h;intro hc31 h
 refine B4 hc31 ?_
 try simp only[ls]
 conv=>lhs;whnf
 revert h
 exact fun h=>cq (hcont11 ((s3++(([32]:List UInt8)++y28)),IntKind.i64.wrap (s4+1),s5) (fun _=>0) h)
 refine br ?_ ?_
 refine br ?_ ?_
 intro h
 refine B6 h ?_;clear h;intro hc34 h
 refine B4 hc34 ?_
 try simp only[ls]
 conv=>lhs;whnf
 revert h
 exact fun h=>cq (hcont11 ((s3++([32,33,61]:List UInt8)),IntKind.i64.wrap (s4+1),true) (fun _=>0) h)
 intro h
 refine B6 h ?_;clear h;intro hc35 h
 refine B4 hc35 ?_
 try simp only[ls]
 conv=>lhs;whnf
 revert h
 exact fun h=>cq (hcont11 ((s3++([32,61,61]:List UInt8)),IntKind.i64.wrap (s4+1),false) (fun _=>0) h)
 refine br ?_ ?_
 intro h
 refine B6 h ?_;clear h;intro hc37 h
 refine B4 hc37 ?_
 try simp only[ls]
 conv=>lhs;whnf
 revert h
 exact fun h=>cq (hcont11 ((s3++([32,61]:List UInt8)),IntKind.i64.wrap (s4+1),s5) (fun _=>0) h)
 refine cp ?_
 intro h
 refine B6 h ?_;clear h;intro hc39 h
 refine B4 hc39 ?_
 try simp only[ls]
 conv=>lhs;whnf
 revert h
 exact fun h=>cq (hcont11 ((s3++([UInt8.ofNat (IntKind.i32.wrap ((x15.toNat:Int))).toNat])),IntKind.i64.wrap (s4+1),s5) (fun _=>0) h)
 intro h;cases sj h
 exact kq (hr12 (fun _=>0))
 refine lrc ?_ ?_
 intro v e;subst e;cases sj h;rfl
 intro t a40 e;subst e
 obtain⟨x41,x42⟩:=t
 dsimp only at h
 conv=>lhs;whnf
 revert h
 exact rz
theorem V0 {n:Nat} ⦃Mw:Int⦄ ⦃r:(List UInt8)⦄:Oq n Mw=some r→CN n 97 [iA Mw] []=some (sA r,[]):=by
 intro h;rcases n with _|n;cases h
 rw[Oq] at h
 refine Ai Tryz.func97 (by rfl) rfl rfl (Ap rfl) ?_
 intro call hc;conv=>lhs;whnf
 revert h
 intro h;refine As h ?_;clear h;intro o10 ho10 h
 refine lq (σ:=((List UInt8)×Int)) (τ:=(List UInt8)) (ν:=(List UInt8)) 0 (fun(s1,s2) a4=>B9 11 [(3,sA s1),(4,iA Mw),(5,iA s2)]) (fun(s1,s2) a4=>[]) (fun x14 a13=>B9 11 [(3,sA x14)]) (fun x14 a13=>[]) (fun v=>(sA v,[])) (fun k s=>Ld n Mw k s.1 s.2) (fun s=>rfl) o10 n (([]:List UInt8),0) (fun _=>0) ho10 ?_ ?_
 intro k3 ss a4 K5 cont6 hK7 hcont8 h hr9
 obtain⟨s1,s2⟩:=ss
 replace h:Ld n Mw (k3+1) s1 s2=some o10:=h
 rw[Ld] at h
 conv=>lhs;whnf
 revert h
 refine br ?_ ?_
 intro h
 refine B6 h ?_;clear h;intro hc12 h
 refine B4 hc12 ?_
 try simp only[ls]
 conv=>lhs;whnf
 revert h
 exact fun h=>cq (hcont8 ((s1++([32,32]:List UInt8)),IntKind.i64.wrap (s2+1)) (fun _=>0) h)
 intro h;cases sj h
 exact kq (hr9 (fun _=>0))
 refine lrc ?_ ?_
 intro v e;subst e;cases sj h;rfl
 intro x14 a13 e;subst e
 dsimp only at h
 conv=>lhs;whnf
 revert h
 exact rz
def Qp (n:Nat):Prop:=∀ ⦃Aa:(List A0)⦄ ⦃E5:Int⦄ ⦃Dn:Int⦄ ⦃W5:Int⦄ ⦃r:(List UInt8)⦄,Kl n Aa E5 Dn W5=some r→CN n 76 [AV.sl 9 (List.map A9 Aa),iA E5,iA Dn,iA W5] []=some (sA r,[])
def Rn (n:Nat):Prop:=∀ ⦃G7:Int⦄ ⦃L8:Int⦄ ⦃Ms:Int⦄ ⦃o0:(List UInt8)⦄ ⦃o1:Int⦄ ⦃o2:(List A0)⦄ ⦃r:(Bool×(List UInt8))⦄,Jm n G7 L8 Ms o0 o1 o2=some r→CN n 96 [iA G7,iA L8,iA Ms,AV.ptr 0 0,AV.ptr 1 0,AV.ptr 2 0] [Ob.var 9 [sA o0],Ob.var 3 [iA o1],Ob.var 37 [AV.sl 9 (List.map A9 o2)]]=some (bA r.1,[Ob.var 9 [sA r.2],Ob.var 3 [iA o1],Ob.var 37 [AV.sl 9 (List.map A9 o2)]])
def Jp (n:Nat):Prop:=∀ ⦃Aa:(List A0)⦄ ⦃E5:Int⦄ ⦃Dn:Int⦄ ⦃o0:(List UInt8)⦄ ⦃o1:Int⦄ ⦃o2:(List A0)⦄ ⦃r:(Bool×(List UInt8))⦄,Gw n Aa E5 Dn o0 o1 o2=some r→CN n 95 [AV.sl 9 (List.map A9 Aa),iA E5,iA Dn,AV.func 96 [] [AV.ptr 0 0,AV.ptr 1 0,AV.ptr 2 0]] [Ob.var 9 [sA o0],Ob.var 3 [iA o1],Ob.var 37 [AV.sl 9 (List.map A9 o2)]]=some (bA r.1,[Ob.var 9 [sA r.2],Ob.var 3 [iA o1],Ob.var 37 [AV.sl 9 (List.map A9 o2)]])
def R3 (n:Nat):Prop:=Qp n∧Rn n∧Jp n
theorem A64 (n:Nat) (ih:R3 n):Qp (n+1):=by
 intro Aa E5 Dn W5 r h
 rw[Kl] at h
 refine Ai Tryz.func76 (by rfl) rfl rfl (Ap rfl) ?_
 intro call hc;conv=>lhs;whnf
 revert h
 refine cr hc (fun _ h=>ih.2.2 h) ?_;intro y1
 exact rz
theorem A37 (n:Nat) (ih:R3 n):Rn (n+1):=by
 intro G7 L8 Ms o0 o1 o2 r h
 rw[Jm] at h
 refine Ai Tryz.func96 (by rfl) rfl rfl (Ap rfl) ?_
 intro call hc;conv=>lhs;whnf
 revert h
 refine ca hc (fun _ h=>V0 h) ?_;intro y1
 refine ix ?_;intro x3
 refine ca hc (fun _ h=>A6j h) ?_;intro y4
 intro h
 refine B6 h ?_;clear h;intro hc6 h
 refine B4 hc6 ?_
 try simp only[ls]
 conv=>lhs;whnf
 revert h
 intro h
 refine B6 h ?_;clear h;intro hc7 h
 refine B4 hc7 ?_
 try simp only[ls]
 conv=>lhs;whnf
 revert h
 refine ix ?_;intro x8
 refine ca hc (fun _ h=>Wx h) ?_;intro y9
 refine br ?_ ?_
 refine ca hc (fun _ h=>ih.1 h) ?_;intro y12
 intro h
 refine B6 h ?_;clear h;intro hc14 h
 refine B4 hc14 ?_
 try simp only[ls]
 conv=>lhs;whnf
 revert h
 refine ca hc (fun _ h=>V0 h) ?_;intro y15
 intro h
 refine B6 h ?_;clear h;intro hc17 h
 refine B4 hc17 ?_
 try simp only[ls]
 conv=>lhs;whnf
 revert h
 intro h
 refine B6 h ?_;clear h;intro hc18 h
 refine B4 hc18 ?_
 try simp only[ls]
 conv=>lhs;whnf
 revert h
 refine br ?_ ?_
 refine ca hc (fun _ h=>ih.1 h) ?_;intro y20
 intro h
 refine B6 h ?_;clear h;intro hc22 h
 refine B4 hc22 ?_
 try simp only[ls]
 conv=>lhs;whnf
 revert h
 refine ca hc (fun _ h=>V0 h) ?_;intro y23
 intro h
 refine B6 h ?_;clear h;intro hc25 h
 refine B4 hc25 ?_
 try simp only[ls]
 conv=>lhs;whnf
 revert h
 intro h
 refine B6 h ?_;clear h;intro hc26 h
 refine B4 hc26 ?_
 try simp only[ls]
 conv=>lhs;whnf
 revert h
 intro h
 refine B6 h ?_;clear h;intro hc27 h
 refine B4 hc27 ?_
 try simp only[ls]
 conv=>lhs;whnf
 revert h
 intro h
 refine B6 h ?_;clear h;intro hc28 h
 refine B4 hc28 ?_
 try simp only[ls]
 conv=>lhs;whnf
 revert h
 exact rz
 intro h
 refine B6 h ?_;clear h;intro hc29 h
 refine B4 hc29 ?_
 try simp only[ls]
 conv=>lhs;whnf
 revert h
 intro h
 refine B6 h ?_;clear h;intro hc30 h
 refine B4 hc30 ?_
 try simp only[ls]
 conv=>lhs;whnf
 revert h
 exact rz
 intro h
 refine B6 h ?_;clear h;intro hc31 h
 refine B4 hc31 ?_
 try simp only[ls]
 conv=>lhs;whnf
 revert h
 exact rz
theorem Tp (n:Nat) (ih:R3 n):Jp (n+1):=by
 intro Aa E5 Dn o0 o1 o2 r h
 rw[Gw] at h
 refine Ai Tryz.func95 (by rfl) rfl rfl (Ap rfl) ?_
 intro call hc;conv=>lhs;whnf
 revert h
 intro h;refine As h ?_;clear h;intro o10 ho10 h
 refine lq (σ:=(Int×(List UInt8))) (τ:=(List UInt8)) (ν:=(Bool×(List UInt8))) 0 (fun(s1,s2) a4=>B9 63 [(0,AV.sl 9 (List.map A9 Aa)),(1,iA s1),(2,iA Dn),(3,AV.func 96 [] [AV.ptr 0 0,AV.ptr 1 0,AV.ptr 2 0])]) (fun(s1,s2) a4=>[Ob.var 9 [sA s2],Ob.var 3 [iA o1],Ob.var 37 [AV.sl 9 (List.map A9 o2)]]) (fun x21 a20=>B9 63 []) (fun x21 a20=>[Ob.var 9 [sA x21],Ob.var 3 [iA o1],Ob.var 37 [AV.sl 9 (List.map A9 o2)]]) (fun v=>(bA v.1,[Ob.var 9 [sA v.2],Ob.var 3 [iA o1],Ob.var 37 [AV.sl 9 (List.map A9 o2)]])) (fun k s=>Dt n (Jm n) Aa Dn o1 o2 k s.1 s.2) (fun s=>rfl) o10 n (E5,o0) (fun _=>0) ho10 ?_ ?_
 intro k3 ss a4 K5 cont6 hK7 hcont8 h hr9
 obtain⟨s1,s2⟩:=ss
 replace h:Dt n (Jm n) Aa Dn o1 o2 (k3+1) s1 s2=some o10:=h
 rw[Dt] at h
 conv=>lhs;whnf
 revert h
 refine br ?_ ?_
 refine ix ?_;intro x12
 refine br ?_ ?_
 intro h;cases sj h
 refine(hK7 _ _).trans ?_
 refine Eq.trans ?_ (Eq.symm (show _=some _ from hr9))
 conv=>lhs;whnf
 exact rq
 refine br ?_ ?_
 intro h;cases sj h
 refine(hK7 _ _).trans ?_
 refine Eq.trans ?_ (Eq.symm (show _=some _ from hr9))
 conv=>lhs;whnf
 exact rq
 refine br ?_ ?_
 intro h;cases sj h
 refine(hK7 _ _).trans ?_
 refine Eq.trans ?_ (Eq.symm (show _=some _ from hr9))
 conv=>lhs;whnf
 exact rq
 refine br ?_ ?_
 intro h;cases sj h
 refine(hK7 _ _).trans ?_
 refine Eq.trans ?_ (Eq.symm (show _=some _ from hr9))
 conv=>lhs;whnf
 exact rq
 refine ca hc (fun _ h=>ih.2.1 h) ?_;intro y17
 refine br ?_ ?_
 exact fun h=>cq (hcont8 (IntKind.i64.wrap ((IntKind.i64.wrap ((IntKind.i64.wrap (s1+1))+x12.B5))+x12.Ch),y17.2) (fun _=>0) h)
 intro h;cases sj h
 refine(hK7 _ _).trans ?_
 refine Eq.trans ?_ (Eq.symm (show _=some _ from hr9))
 conv=>lhs;whnf
 exact rq
 intro h;cases sj h
 exact kq (hr9 (fun _=>0))
 refine lrc ?_ ?_
 intro v e;subst e;cases sj h;rfl
 intro x21 a20 e;subst e
 dsimp only at h
 conv=>lhs;whnf
 revert h
 exact rz
theorem X7:∀ n,R3 n
 | 0=>⟨by unfold Qp;intros;rename_i h;exact absurd h (by intro h;cases h),by unfold Rn;intros;rename_i h;exact absurd h (by intro h;cases h),by unfold Jp;intros;rename_i h;exact absurd h (by intro h;cases h)⟩
 | n+1=>have ih:=X7 n
   ⟨A64 n ih,A37 n ih,Tp n ih⟩
theorem A7m {n:Nat}:Qp n:=(X7 n).1
theorem Yh {n:Nat} ⦃Aa:(List A0)⦄ ⦃Te:Int⦄ ⦃r:(List UInt8)⦄:O4 n Aa Te=some r→CN n 47 [AV.sl 9 (List.map A9 Aa),iA Te] []=some (sA r,[]):=by
 intro h;rcases n with _|n;cases h
 rw[O4] at h
 refine Ai Tryz.func47 (by rfl) rfl rfl (Ap rfl) ?_
 intro call hc;conv=>lhs;whnf
 revert h
 refine br ?_ ?_
 exact rz
 refine br ?_ ?_
 exact rz
 refine ca hc (fun _ h=>X0 h) ?_;intro y3
 refine br ?_ ?_
 refine cr hc (fun _ h=>A7m h) ?_;intro y6
 exact rz
 exact rz
theorem Sk {n:Nat} ⦃Aa:(List A2)⦄ ⦃r:(List A2)⦄:Nw n Aa=some r→CN n 49 [AV.sl 5 (List.map A3 Aa)] []=some (AV.sl 5 (List.map A3 r),[]):=by
 intro h;rcases n with _|n;cases h
 rw[Nw] at h
 refine Ai Tryz.func49 (by rfl) rfl rfl (Ap rfl) ?_
 intro call hc;conv=>lhs;whnf
 revert h
 refine cn ?_
 refine br ?_ ?_
 intro h;refine As h ?_;clear h;intro o12 ho12 h
 refine lq (σ:=(Int×(List A2))) (τ:=(List A2)) (ν:=(List A2)) 0 (fun(s3,s4) a6=>B9 18 [(3,AV.stk 0 (a6 0) (List.length s4)),(8,iA ((((([]:List A2)).length:Nat):Int))),(9,iA s3)]) (fun(s3,s4) a6=>[Ob.stk (a6 0) 47 5 (List.map A3 s4)]) (fun x17 a16=>B9 18 [(3,AV.stk 0 (a16 0) (List.length x17))]) (fun x17 a16=>[Ob.stk (a16 0) 47 5 (List.map A3 x17)]) (fun v=>(AV.sl 5 (List.map A3 v),[])) (fun k s=>Mr n k s.1 s.2) (fun s=>rfl) o12 n (0,([]:List A2)) (fun j=>(bif Nat.beq j 0 then 0 else 0)) ho12 ?_ ?_
 intro k5 ss a6 K7 cont8 hK9 hcont10 h hr11
 obtain⟨s3,s4⟩:=ss
 replace h:Mr n (k5+1) s3 s4=some o12:=h
 rw[Mr] at h
 conv=>lhs;whnf
 revert h
 refine br ?_ ?_
 intro h
 refine As h ?_;clear h;intro x14 hx14 h
 try simp only[Em]
 conv=>lhs;whnf
 try simp only[ls]
 refine B4 (by first|exact Ga hx14|exact Pd hx14|exact Ss hx14|exact Hw hx14|(have q:=Ga hx14;simp only[List.length_set] at q;exact q)|(have q:=Hw hx14;simp only[List.length_set,Nat.zero_add] at q ⊢;exact q)) ?_
 conv=>lhs;whnf
 try simp only[Ik (f:=A3) hx14,Em,ls]
 conv=>lhs;whnf
 revert h
 intro h
 have hs15:E8 (List.map A3 s4) s3.toNat [iA x14.B3,iA x14.Bs,sA x14.Ao,sA x14.Cq,iA (0)]=List.map A3 (List.set s4 s3.toNat (⟨x14.B3,x14.Bs,x14.Ao,x14.Cq,0⟩:A2)):=by rw[D2,List.map_set];rfl
 have hs15_u:E8 (List.map A3 s4) s3.toNat (S4 (A3 x14) 4 [iA (0)])=List.map A3 (List.set s4 s3.toNat (⟨x14.B3,x14.Bs,x14.Ao,x14.Cq,0⟩:A2)):=by rw[D2,List.map_set];rfl
 try simp only[Ik (f:=A3) hx14,Em]
 conv=>lhs;whnf
 try simp only[hs15,hs15_u,Em]
 conv=>lhs;whnf
 revert h
 exact fun h=>cq (hcont10 (IntKind.i64.wrap (s3+1),(List.set s4 s3.toNat (⟨x14.B3,x14.Bs,x14.Ao,x14.Cq,0⟩:A2))) (fun j=>(bif Nat.beq j 0 then(a6 0) else 0)) h)
 intro h;cases sj h
 exact kq (hr11 (fun j=>(bif Nat.beq j 0 then(a6 0) else 0)))
 refine lrc ?_ ?_
 intro v e;subst e;cases sj h;rfl
 intro x17 a16 e;subst e
 dsimp only at h
 conv=>lhs;whnf
 revert h
 intro h;obtain rfl:=sj h
 try simp only[ls]
 exact fq (y:=some (AV.sl 5 (List.take (List.length x17) (List.map A3 x17)),[]))
 intro h;refine As h ?_;clear h;intro o28 ho28 h
 refine lq (σ:=(Int×(List A2))) (τ:=(List A2)) (ν:=(List A2)) 0 (fun(s19,s20) a22=>B9 18 [(3,AV.own 0 0 (List.length s20)),(8,iA (((Aa.length:Nat):Int))),(9,iA s19)]) (fun(s19,s20) a22=>[Ob.arr 5 (List.map A3 s20)]) (fun x33 a32=>B9 18 [(3,AV.own 0 0 (List.length x33))]) (fun x33 a32=>[Ob.arr 5 (List.map A3 x33)]) (fun v=>(AV.sl 5 (List.map A3 v),[])) (fun k s=>Mj n Aa k s.1 s.2) (fun s=>rfl) o28 n (0,Aa) (fun _=>0) ho28 ?_ ?_
 intro k21 ss a22 K23 cont24 hK25 hcont26 h hr27
 obtain⟨s19,s20⟩:=ss
 replace h:Mj n Aa (k21+1) s19 s20=some o28:=h
 rw[Mj] at h
 conv=>lhs;whnf
 revert h
 refine br ?_ ?_
 intro h
 refine As h ?_;clear h;intro x30 hx30 h
 try simp only[ls]
 refine B4 (by first|exact Ga hx30|exact Pd hx30|exact Ss hx30|exact Hw hx30|(have q:=Ga hx30;simp only[List.length_set] at q;exact q)|(have q:=Hw hx30;simp only[List.length_set,Nat.zero_add] at q ⊢;exact q)) ?_
 conv=>lhs;whnf
 try simp only[Nat.zero_add,Ik (f:=A3) hx30,Em,ls]
 conv=>lhs;whnf
 revert h
 intro h
 have hs31:E8 (List.map A3 s20) s19.toNat [iA x30.B3,iA x30.Bs,sA x30.Ao,sA x30.Cq,iA (0)]=List.map A3 (List.set s20 s19.toNat (⟨x30.B3,x30.Bs,x30.Ao,x30.Cq,0⟩:A2)):=by rw[D2,List.map_set];rfl
 have hs31_u:E8 (List.map A3 s20) s19.toNat (S4 (A3 x30) 4 [iA (0)])=List.map A3 (List.set s20 s19.toNat (⟨x30.B3,x30.Bs,x30.Ao,x30.Cq,0⟩:A2)):=by rw[D2,List.map_set];rfl
 try simp only[Nat.zero_add,Ik (f:=A3) hx30]
 conv=>lhs;whnf
 try simp only[hs31,hs31_u]
 conv=>lhs;whnf
 revert h
 exact fun h=>cq (hcont26 (IntKind.i64.wrap (s19+1),(List.set s20 s19.toNat (⟨x30.B3,x30.Bs,x30.Ao,x30.Cq,0⟩:A2))) (fun _=>0) h)
 intro h;cases sj h
 exact kq (hr27 (fun _=>0))
 refine lrc ?_ ?_
 intro v e;subst e;cases sj h;rfl
 intro x33 a32 e;subst e
 dsimp only at h
 conv=>lhs;whnf
 revert h
 intro h;obtain rfl:=sj h
 try simp only[ls]
 exact fq (y:=some (AV.sl 5 (List.take (List.length x33) (List.drop 0 (List.map A3 x33))),[]))
theorem A6v {n:Nat} ⦃At:Az⦄ ⦃r:Az⦄:Uy n At=some r→CN n 13 [AV.agg [iA At.Bo,AV.sl 3 (List.map Am At.B0),AV.sl 4 (List.map Ad At.Ak),AV.sl 3 (List.map Aj At.Ar)]] []=some (AV.agg [iA r.Bo,AV.sl 3 (List.map Am r.B0),AV.sl 4 (List.map Ad r.Ak),AV.sl 3 (List.map Aj r.Ar)],[]):=by
 intro h;rcases n with _|n;cases h
 rw[Uy] at h
 refine Ai Tryz.func13 (by rfl) rfl rfl (Ap rfl) ?_
 intro call hc;conv=>lhs;whnf
 revert h
 intro h;refine As h ?_;clear h;intro o10 ho10 h
 refine lq (σ:=(Int×(List Aw))) (τ:=(List Aw)) (ν:=Az) 0 (fun(s1,s2) a4=>B9 97 [(1,AV.ptr 0 0),(2,AV.ptr 1 0),(3,AV.ptr 2 0),(17,AV.sl 3 (List.map Am At.B0)),(18,iA (((At.B0.length:Nat):Int))),(19,iA s1)]) (fun(s1,s2) a4=>[Ob.var 27 [iA At.Bo,AV.sl 3 (List.map Am At.B0),AV.sl 4 (List.map Ad At.Ak),AV.sl 3 (List.map Aj At.Ar)],Ob.var 27 [iA (0),AV.row 3 (List.length (([]:List Aw))),AV.row 4 (List.length (([]:List Ae))),AV.row 5 (List.length (([]:List Ag)))],Ob.var 27 [iA At.Bo,AV.row 6 (List.length s2),AV.row 7 (List.length (([]:List Ae))),AV.row 8 (List.length (([]:List Ag)))],Ob.row 45 3 ([]),Ob.row 39 4 ([]),Ob.row 42 3 ([]),Ob.row 45 3 (List.map Am s2),Ob.row 39 4 ([]),Ob.row 42 3 ([])]) (fun x16 a15=>B9 97 [(1,AV.ptr 0 0),(2,AV.ptr 1 0),(3,AV.ptr 2 0)]) (fun x16 a15=>[Ob.var 27 [iA At.Bo,AV.sl 3 (List.map Am At.B0),AV.sl 4 (List.map Ad At.Ak),AV.sl 3 (List.map Aj At.Ar)],Ob.var 27 [iA (0),AV.row 3 (List.length (([]:List Aw))),AV.row 4 (List.length (([]:List Ae))),AV.row 5 (List.length (([]:List Ag)))],Ob.var 27 [iA At.Bo,AV.row 6 (List.length x16),AV.row 7 (List.length (([]:List Ae))),AV.row 8 (List.length (([]:List Ag)))],Ob.row 45 3 ([]),Ob.row 39 4 ([]),Ob.row 42 3 ([]),Ob.row 45 3 (List.map Am x16),Ob.row 39 4 ([]),Ob.row 42 3 ([])]) (fun v=>(AV.agg [iA v.Bo,AV.sl 3 (List.map Am v.B0),AV.sl 4 (List.map Ad v.Ak),AV.sl 3 (List.map Aj v.Ar)],[])) (fun k s=>Nk n At k s.1 s.2) (fun s=>rfl) o10 n (0,([]:List Aw)) (fun _=>0) ho10 ?_ ?_
 intro k3 ss a4 K5 cont6 hK7 hcont8 h hr9
 obtain⟨s1,s2⟩:=ss
 replace h:Nk n At (k3+1) s1 s2=some o10:=h
 rw[Nk] at h
 conv=>lhs;whnf
 revert h
 refine br ?_ ?_
 refine ix ?_;intro x12
 refine ar (ap Am (List.map Am s2) s2 ([[sA x12.Ao,iA x12.Bs,iA (0)]]) ([(⟨x12.Ao,x12.Bs,0⟩:Aw)]:List Aw)) ?_
 exact fun h=>cq (hcont8 (IntKind.i64.wrap (s1+1),(s2++([(⟨x12.Ao,x12.Bs,0⟩:Aw)]:List Aw))) (fun _=>0) h)
 intro h;cases sj h
 exact kq (hr9 (fun _=>0))
 refine lrc ?_ ?_
 intro v e;subst e;cases sj h;rfl
 intro x16 a15 e;subst e
 dsimp only at h
 conv=>lhs;whnf
 revert h
 intro h;refine As h ?_;clear h;intro o26 ho26 h
 refine lq (σ:=(Int×(List Ae))) (τ:=(List Ae)) (ν:=Az) 2 (fun(s17,s18) a20=>B9 97 [(1,AV.ptr 0 0),(2,AV.ptr 1 0),(3,AV.ptr 2 0),(35,AV.sl 4 (List.map Ad At.Ak)),(36,iA (((At.Ak.length:Nat):Int))),(37,iA s17)]) (fun(s17,s18) a20=>[Ob.var 27 [iA At.Bo,AV.sl 3 (List.map Am At.B0),AV.sl 4 (List.map Ad At.Ak),AV.sl 3 (List.map Aj At.Ar)],Ob.var 27 [iA (0),AV.row 3 (List.length (([]:List Aw))),AV.row 4 (List.length (([]:List Ae))),AV.row 5 (List.length (([]:List Ag)))],Ob.var 27 [iA At.Bo,AV.row 6 (List.length x16),AV.row 7 (List.length s18),AV.row 8 (List.length (([]:List Ag)))],Ob.row 45 3 ([]),Ob.row 39 4 ([]),Ob.row 42 3 ([]),Ob.row 45 3 (List.map Am x16),Ob.row 39 4 (List.map Ad s18),Ob.row 42 3 ([])]) (fun x54 a53=>B9 97 [(1,AV.ptr 0 0),(2,AV.ptr 1 0),(3,AV.ptr 2 0)]) (fun x54 a53=>[Ob.var 27 [iA At.Bo,AV.sl 3 (List.map Am At.B0),AV.sl 4 (List.map Ad At.Ak),AV.sl 3 (List.map Aj At.Ar)],Ob.var 27 [iA (0),AV.row 3 (List.length (([]:List Aw))),AV.row 4 (List.length (([]:List Ae))),AV.row 5 (List.length (([]:List Ag)))],Ob.var 27 [iA At.Bo,AV.row 6 (List.length x16),AV.row 7 (List.length x54),AV.row 8 (List.length (([]:List Ag)))],Ob.row 45 3 ([]),Ob.row 39 4 ([]),Ob.row 42 3 ([]),Ob.row 45 3 (List.map Am x16),Ob.row 39 4 (List.map Ad x54),Ob.row 42 3 ([])]) (fun v=>(AV.agg [iA v.Bo,AV.sl 3 (List.map Am v.B0),AV.sl 4 (List.map Ad v.Ak),AV.sl 3 (List.map Aj v.Ar)],[])) (fun k s=>Ny n At k s.1 s.2) (fun s=>rfl) o26 n (0,([]:List Ae)) (fun _=>0) ho26 ?_ ?_
 intro k19 ss a20 K21 cont22 hK23 hcont24 h hr25
 obtain⟨s17,s18⟩:=ss
 replace h:Ny n At (k19+1) s17 s18=some o26:=h
 rw[Ny] at h
 conv=>lhs;whnf
 revert h
 refine br ?_ ?_
 refine ix ?_;intro x28
 refine cn ?_
 intro h;refine As h ?_;clear h;intro o39 ho39 h
 refine lq (σ:=(Int×(List A0))) (τ:=(List A0)) (ν:=Az) 4 (fun(s30,s31) a33=>B9 97 [(1,AV.ptr 0 0),(2,AV.ptr 1 0),(3,AV.ptr 2 0),(8,AV.ptr 10 0),(35,AV.sl 4 (List.map Ad At.Ak)),(36,iA (((At.Ak.length:Nat):Int))),(37,iA s17),(48,AV.sl 9 (List.map A9 x28.B5)),(49,iA (((x28.B5.length:Nat):Int))),(50,iA s30)]) (fun(s30,s31) a33=>[Ob.var 27 [iA At.Bo,AV.sl 3 (List.map Am At.B0),AV.sl 4 (List.map Ad At.Ak),AV.sl 3 (List.map Aj At.Ar)],Ob.var 27 [iA (0),AV.row 3 (List.length (([]:List Aw))),AV.row 4 (List.length (([]:List Ae))),AV.row 5 (List.length (([]:List Ag)))],Ob.var 27 [iA At.Bo,AV.row 6 (List.length x16),AV.row 7 (List.length s18),AV.row 8 (List.length (([]:List Ag)))],Ob.row 45 3 ([]),Ob.row 39 4 ([]),Ob.row 42 3 ([]),Ob.row 45 3 (List.map Am x16),Ob.row 39 4 (List.map Ad s18),Ob.row 42 3 ([]),Ob.var 39 [sA x28.Ao,AV.sl 1 (List.map Dv x28.Bh),AV.sl 9 (List.map A9 x28.B5),iA x28.Ab],Ob.var 39 [sA x28.Ao,AV.sl 1 (List.map Dv x28.Bh),AV.row 11 (List.length s31),iA (0)],Ob.row 83 9 (List.map A9 s31)]) (fun x49 a48=>B9 97 [(1,AV.ptr 0 0),(2,AV.ptr 1 0),(3,AV.ptr 2 0),(8,AV.ptr 10 0),(35,AV.sl 4 (List.map Ad At.Ak)),(36,iA (((At.Ak.length:Nat):Int))),(37,iA s17)]) (fun x49 a48=>[Ob.var 27 [iA At.Bo,AV.sl 3 (List.map Am At.B0),AV.sl 4 (List.map Ad At.Ak),AV.sl 3 (List.map Aj At.Ar)],Ob.var 27 [iA (0),AV.row 3 (List.length (([]:List Aw))),AV.row 4 (List.length (([]:List Ae))),AV.row 5 (List.length (([]:List Ag)))],Ob.var 27 [iA At.Bo,AV.row 6 (List.length x16),AV.row 7 (List.length s18),AV.row 8 (List.length (([]:List Ag)))],Ob.row 45 3 ([]),Ob.row 39 4 ([]),Ob.row 42 3 ([]),Ob.row 45 3 (List.map Am x16),Ob.row 39 4 (List.map Ad s18),Ob.row 42 3 ([]),Ob.var 39 [sA x28.Ao,AV.sl 1 (List.map Dv x28.Bh),AV.sl 9 (List.map A9 x28.B5),iA x28.Ab],Ob.var 39 [sA x28.Ao,AV.sl 1 (List.map Dv x28.Bh),AV.row 11 (List.length x49),iA (0)],Ob.row 83 9 (List.map A9 x49)]) (fun v=>(AV.agg [iA v.Bo,AV.sl 3 (List.map Am v.B0),AV.sl 4 (List.map Ad v.Ak),AV.sl 3 (List.map Aj v.Ar)],[])) (fun k s=>O3 n x28 k s.1 s.2) (fun s=>rfl) o39 n (0,([]:List A0)) (fun _=>0) ho39 ?_ ?_
 intro k32 ss a33 K34 cont35 hK36 hcont37 h hr38
 obtain⟨s30,s31⟩:=ss
 replace h:O3 n x28 (k32+1) s30 s31=some o39:=h
 rw[O3] at h
 conv=>lhs;whnf
 revert h
 refine br ?_ ?_
 refine ix ?_;intro x41
 refine ca hc (fun _ h=>Sk h) ?_;intro y42
 refine ca hc (fun _ h=>Sk h) ?_;intro y44
 refine ar (ap A9 (List.map A9 s31) s31 ([[iA x41.A7,sA x41.Bd,sA x41.Be,AV.sl 5 (List.map A3 y42),AV.sl 5 (List.map A3 y44),bA x41.Br,iA x41.B5,iA x41.Ch,iA (0)]]) ([(⟨x41.A7,x41.Bd,x41.Be,y42,y44,x41.Br,x41.B5,x41.Ch,0⟩:A0)]:List A0)) ?_
 exact fun h=>cq (hcont37 (IntKind.i64.wrap (s30+1),(s31++([(⟨x41.A7,x41.Bd,x41.Be,y42,y44,x41.Br,x41.B5,x41.Ch,0⟩:A0)]:List A0))) (fun _=>0) h)
 intro h;cases sj h
 exact kq (hr38 (fun _=>0))
 refine lrc ?_ ?_
 intro v e;subst e;cases sj h;exact hr25
 intro x49 a48 e;subst e
 dsimp only at h
 conv=>lhs;whnf
 revert h
 refine ar (ap Ad (List.map Ad s18) s18 ([[sA x28.Ao,AV.sl 1 (List.map Dv x28.Bh),AV.sl 9 (List.map A9 x49),iA (0)]]) ([(⟨x28.Ao,x28.Bh,x49,0⟩:Ae)]:List Ae)) ?_
 exact fun h=>cq (hcont24 (IntKind.i64.wrap (s17+1),(s18++([(⟨x28.Ao,x28.Bh,x49,0⟩:Ae)]:List Ae))) (fun _=>0) h)
 intro h;cases sj h
 exact kq (hr25 (fun _=>0))
 refine lrc ?_ ?_
 intro v e;subst e;cases sj h;rfl
 intro x54 a53 e;subst e
 dsimp only at h
 conv=>lhs;whnf
 revert h
 intro h;refine As h ?_;clear h;intro o64 ho64 h
 refine lq (σ:=(Int×(List Ag))) (τ:=(List Ag)) (ν:=Az) 6 (fun(s55,s56) a58=>B9 97 [(2,AV.ptr 1 0),(3,AV.ptr 2 0),(78,AV.sl 3 (List.map Aj At.Ar)),(79,iA (((At.Ar.length:Nat):Int))),(80,iA s55)]) (fun(s55,s56) a58=>[Ob.var 27 [iA At.Bo,AV.sl 3 (List.map Am At.B0),AV.sl 4 (List.map Ad At.Ak),AV.sl 3 (List.map Aj At.Ar)],Ob.var 27 [iA (0),AV.row 3 (List.length (([]:List Aw))),AV.row 4 (List.length (([]:List Ae))),AV.row 5 (List.length (([]:List Ag)))],Ob.var 27 [iA At.Bo,AV.row 6 (List.length x16),AV.row 7 (List.length x54),AV.row 8 (List.length s56)],Ob.row 45 3 ([]),Ob.row 39 4 ([]),Ob.row 42 3 ([]),Ob.row 45 3 (List.map Am x16),Ob.row 39 4 (List.map Ad x54),Ob.row 42 3 (List.map Aj s56)]) (fun x72 a71=>B9 97 [(2,AV.ptr 1 0),(3,AV.ptr 2 0)]) (fun x72 a71=>[Ob.var 27 [iA At.Bo,AV.sl 3 (List.map Am At.B0),AV.sl 4 (List.map Ad At.Ak),AV.sl 3 (List.map Aj At.Ar)],Ob.var 27 [iA (0),AV.row 3 (List.length (([]:List Aw))),AV.row 4 (List.length (([]:List Ae))),AV.row 5 (List.length (([]:List Ag)))],Ob.var 27 [iA At.Bo,AV.row 6 (List.length x16),AV.row 7 (List.length x54),AV.row 8 (List.length x72)],Ob.row 45 3 ([]),Ob.row 39 4 ([]),Ob.row 42 3 ([]),Ob.row 45 3 (List.map Am x16),Ob.row 39 4 (List.map Ad x54),Ob.row 42 3 (List.map Aj x72)]) (fun v=>(AV.agg [iA v.Bo,AV.sl 3 (List.map Am v.B0),AV.sl 4 (List.map Ad v.Ak),AV.sl 3 (List.map Aj v.Ar)],[])) (fun k s=>Nn n At k s.1 s.2) (fun s=>rfl) o64 n (0,([]:List Ag)) (fun _=>0) ho64 ?_ ?_
 intro k57 ss a58 K59 cont60 hK61 hcont62 h hr63
 obtain⟨s55,s56⟩:=ss
 replace h:Nn n At (k57+1) s55 s56=some o64:=h
 rw[Nn] at h
 conv=>lhs;whnf
 revert h
 refine br ?_ ?_
 refine ix ?_;intro x66
 refine ca hc (fun _ h=>Sk h) ?_;intro y67
 refine ar (ap Aj (List.map Aj s56) s56 ([[iA x66.A7,AV.sl 5 (List.map A3 y67),iA (0)]]) ([(⟨x66.A7,y67,0⟩:Ag)]:List Ag)) ?_
 exact fun h=>cq (hcont62 (IntKind.i64.wrap (s55+1),(s56++([(⟨x66.A7,y67,0⟩:Ag)]:List Ag))) (fun _=>0) h)
 intro h;cases sj h
 exact kq (hr63 (fun _=>0))
 refine lrc ?_ ?_
 intro v e;subst e;cases sj h;rfl
 intro x72 a71 e;subst e
 dsimp only at h
 conv=>lhs;whnf
 revert h
 intro h;cases sj h
 try simp only[ls]
 exact fq (y:=some (AV.agg [iA At.Bo,AV.sl 3 (List.take (List.length x16) (List.map Am x16)),AV.sl 4 (List.take (List.length x54) (List.map Ad x54)),AV.sl 3 (List.take (List.length x72) (List.map Aj x72))],[]))
theorem F1 {n:Nat} ⦃Q7:Int⦄ ⦃Ih:Int⦄ ⦃p_l:(List A5)⦄ ⦃p_i:Int⦄ ⦃p_e:Int⦄ ⦃p_at:Int⦄ ⦃r:(Int×Int)⦄:Cf n Q7 Ih p_l p_i p_e p_at=some r→CN n 60 [AV.ptr 0 0,iA Q7,iA Ih] [Ob.var 53 [AV.sl 4 (List.map A4 p_l),iA p_i,iA p_e,iA p_at]]=some (AV.tup [],[Ob.var 53 [AV.sl 4 (List.map A4 p_l),iA p_i,iA r.1,iA r.2]]):=by
 intro h;rcases n with _|n;cases h
 rw[Cf] at h
 refine Ai Tryz.func60 (by rfl) rfl rfl (Ap rfl) ?_
 intro call hc;conv=>lhs;whnf
 revert h
 refine br ?_ ?_
 exact rz
 exact rz
theorem A8g {n:Nat} ⦃En:A5⦄ ⦃o0:Int⦄ ⦃o1:(List UInt8)⦄ ⦃r:Bool⦄:T6 n En o0 o1=some r→CN n 57 [AV.agg [iA En.A7,sA En.Ac,iA En.Bs,iA En.Ab],AV.ptr 0 0,AV.ptr 1 0] [Ob.var 3 [iA o0],Ob.var 9 [sA o1]]=some (bA r,[Ob.var 3 [iA o0],Ob.var 9 [sA o1]]):=by
 intro h;rcases n with _|n;cases h
 rw[T6] at h
 refine Ai Tryz.func57 (by rfl) rfl rfl (Ap rfl) ?_
 intro call hc;conv=>lhs;whnf
 revert h
 refine br ?_ ?_
 exact rz
 exact rz
theorem Ej {n:Nat} ⦃p_l:(List A5)⦄ ⦃p_i:Int⦄ ⦃p_e:Int⦄ ⦃p_at:Int⦄ ⦃o1:Int⦄ ⦃o2:(List UInt8)⦄ ⦃r:(A5×Bool×Int)⦄:D3 n p_l p_i p_e p_at o1 o2=some r→CN n 19 [AV.ptr 0 0,AV.func 57 [] [AV.ptr 1 0,AV.ptr 2 0]] [Ob.var 53 [AV.sl 4 (List.map A4 p_l),iA p_i,iA p_e,iA p_at],Ob.var 3 [iA o1],Ob.var 9 [sA o2]]=some (AV.tup [AV.agg [iA r.1.A7,sA r.1.Ac,iA r.1.Bs,iA r.1.Ab],bA r.2.1],[Ob.var 53 [AV.sl 4 (List.map A4 p_l),iA r.2.2,iA p_e,iA p_at],Ob.var 3 [iA o1],Ob.var 9 [sA o2]]):=by
 intro h;rcases n with _|n;cases h
 rw[D3] at h
 refine Ai Tryz.func19 (by rfl) rfl rfl (Ap rfl) ?_
 intro call hc;conv=>lhs;whnf
 revert h
 refine br ?_ ?_
 exact rz
 refine br ?_ ?_
 exact rz
 refine ix ?_;intro x3
 refine ca hc (fun _ h=>A8g h) ?_;intro y4
 refine br ?_ ?_
 refine ix ?_;intro x7
 exact rz
 exact rz
theorem Ja {n:Nat} ⦃p_l:(List A5)⦄ ⦃p_i:Int⦄ ⦃p_e:Int⦄ ⦃p_at:Int⦄ ⦃r:(Int×Int)⦄:Dk n p_l p_i p_e p_at=some r→CN n 24 [AV.ptr 0 0] [Ob.var 53 [AV.sl 4 (List.map A4 p_l),iA p_i,iA p_e,iA p_at]]=some (AV.tup [],[Ob.var 53 [AV.sl 4 (List.map A4 p_l),iA p_i,iA r.1,iA r.2]]):=by
 intro h;rcases n with _|n;cases h
 rw[Dk] at h
 refine Ai Tryz.func24 (by rfl) rfl rfl (Ap rfl) ?_
 intro call hc;conv=>lhs;whnf
 revert h
 refine br ?_ ?_
 refine ix ?_;intro x2
 refine ca hc (fun _ h=>F1 h) ?_;intro y3
 exact rz
 refine br ?_ ?_
 refine ix ?_;intro x6
 refine ix ?_;intro x7
 refine cr hc (fun _ h=>F1 h) ?_;intro y8
 exact rz
 refine ca hc (fun _ h=>F1 h) ?_;intro y10
 exact rz
theorem Rh {n:Nat} ⦃p_l:(List A5)⦄ ⦃p_i:Int⦄ ⦃p_e:Int⦄ ⦃p_at:Int⦄ ⦃o1:Int⦄ ⦃o2:(List UInt8)⦄ ⦃r:(A5×Int×Int×Int)⦄:Gz n p_l p_i p_e p_at o1 o2=some r→CN n 15 [AV.ptr 0 0,AV.func 57 [] [AV.ptr 1 0,AV.ptr 2 0]] [Ob.var 53 [AV.sl 4 (List.map A4 p_l),iA p_i,iA p_e,iA p_at],Ob.var 3 [iA o1],Ob.var 9 [sA o2]]=some (AV.agg [iA r.1.A7,sA r.1.Ac,iA r.1.Bs,iA r.1.Ab],[Ob.var 53 [AV.sl 4 (List.map A4 p_l),iA r.2.1,iA r.2.2.1,iA r.2.2.2],Ob.var 3 [iA o1],Ob.var 9 [sA o2]]):=by
 intro h;rcases n with _|n;cases h
 rw[Gz] at h
 refine Ai Tryz.func15 (by rfl) rfl rfl (Ap rfl) ?_
 intro call hc;conv=>lhs;whnf
 revert h
 refine ca hc (fun _ h=>Ej h) ?_;intro y1
 refine br ?_ ?_
 exact rz
 refine ca hc (fun _ h=>Ja h) ?_;intro y4
 exact rz
theorem Cu {n:Nat} ⦃Kp:(List UInt8)⦄ ⦃p_l:(List A5)⦄ ⦃p_i:Int⦄ ⦃p_e:Int⦄ ⦃p_at:Int⦄ ⦃r:(Int×Int×Int)⦄:By n Kp p_l p_i p_e p_at=some r→CN n 18 [AV.ptr 0 0,sA Kp] [Ob.var 53 [AV.sl 4 (List.map A4 p_l),iA p_i,iA p_e,iA p_at]]=some (AV.tup [],[Ob.var 53 [AV.sl 4 (List.map A4 p_l),iA r.1,iA r.2.1,iA r.2.2]]):=by
 intro h;rcases n with _|n;cases h
 rw[By] at h
 refine W7 Tryz.func18 (by rfl) rfl rfl (Ap rfl) ?_
 intro call hc hcA;conv=>lhs;whnf
 revert h
 intro h
 obtain⟨n1,hn5,h⟩:=Lt h
 obtain⟨call2,hc3,ho4⟩:=Hx (f:=16) (args:=[iA (3),sA Kp]) (hp:=[]) hcA hn5 Tryz.func16 (by rfl) rfl rfl (Ap rfl)
 try simp only[ls]
 simp only[ho4]
 conv=>lhs;whnf
 revert h
 refine ca hc (fun _ h=>Rh h) ?_;intro y6
 exact rz
theorem Wq {n:Nat} ⦃E4:Int⦄ ⦃Ih:Int⦄ ⦃p_l:(List A5)⦄ ⦃p_i:Int⦄ ⦃p_e:Int⦄ ⦃p_at:Int⦄ ⦃r:(Ag×Int×Int×Int)⦄:I0 n E4 Ih p_l p_i p_e p_at=some r→CN n 23 [AV.ptr 0 0,iA E4,iA Ih] [Ob.var 53 [AV.sl 4 (List.map A4 p_l),iA p_i,iA p_e,iA p_at]]=some (AV.agg [iA r.1.A7,AV.sl 5 (List.map A3 r.1.Bm),iA r.1.Ab],[Ob.var 53 [AV.sl 4 (List.map A4 p_l),iA r.2.1,iA r.2.2.1,iA r.2.2.2]]):=by
 intro h;rcases n with _|n;cases h
 rw[I0] at h
 refine Ai Tryz.func23 (by rfl) rfl rfl (Ap rfl) ?_
 intro call hc;conv=>lhs;whnf
 revert h
 refine tw hc (fun _ h=>X9 h) (fun _ h=>A6y (p:=[1,1,2,2,1]) (q:=[1,2,1,1]) h Tryz.func61 (by kernel_rfl) (by kernel_rfl) (by kernel_rfl) (by kernel_rfl) (by rfl) (A0r (by exact fun _=>rfl) _) (A0r (by exact fun _=>rfl) _)) ?_;intro y1
 refine nb ?_ ?_
 refine ca hc (fun _ h=>F1 h) ?_;intro y3
 intro h;refine As h ?_;clear h;intro o12 ho12 h
 refine lq (σ:=Unit) (τ:=Unit) (ν:=(Ag×Int×Int×Int)) 0 (fun _ a6=>B9 61 [(0,AV.ptr 0 0),(1,iA E4),(2,iA Ih),(6,AV.ptr 1 0),(7,AV.sl 5 []),(8,iA y1.2.1),(31,iA (0)),(32,iA (0))]) (fun _ a6=>[Ob.var 53 [AV.sl 4 (List.map A4 p_l),iA p_i,iA y3.1,iA y3.2],Ob.var 42 [iA (0),AV.nils,iA (0)]]) (fun _ a13=>B9 61 [(0,AV.ptr 0 0),(1,iA E4),(2,iA Ih),(6,AV.ptr 1 0),(7,AV.sl 5 []),(8,iA y1.2.1)]) (fun _ a13=>[Ob.var 53 [AV.sl 4 (List.map A4 p_l),iA p_i,iA y3.1,iA y3.2],Ob.var 42 [iA (0),AV.nils,iA (0)]]) (fun v=>(AV.agg [iA v.1.A7,AV.sl 5 (List.map A3 v.1.Bm),iA v.1.Ab],[Ob.var 53 [AV.sl 4 (List.map A4 p_l),iA v.2.1,iA v.2.2.1,iA v.2.2.2]])) (fun k s=>Hm n k) (fun s=>rfl) o12 n () (fun _=>0) ho12 ?_ ?_
 intro k5 ss a6 K7 cont8 hK9 hcont10 h hr11
 replace h:Hm n (k5+1)=some o12:=h
 rw[Hm] at h
 conv=>lhs;whnf
 revert h
 intro h;cases sj h
 exact kq (hr11 (fun _=>0))
 refine lrc ?_ ?_
 intro v e;subst e;cases sj h;rfl
 intro t a13 e;subst e
 dsimp only at h
 conv=>lhs;whnf
 revert h
 refine br ?_ ?_
 refine ca hc (fun _ h=>Cu h) ?_;intro y15
 exact rz
 refine ca hc (fun _ h=>Cu h) ?_;intro y17
 exact rz
 refine ca hc (fun _ h=>F1 h) ?_;intro y20
 intro h;refine As h ?_;clear h;intro o31 ho31 h
 refine lq (σ:=(Int×(List A2))) (τ:=(List A2)) (ν:=(Ag×Int×Int×Int)) 0 (fun(s22,s23) a25=>B9 61 [(0,AV.ptr 0 0),(1,iA E4),(2,iA Ih),(6,AV.ptr 1 0),(7,AV.own 2 0 (List.length s23)),(8,iA y1.2.1),(31,iA (((y1.1.length:Nat):Int))),(32,iA s22)]) (fun(s22,s23) a25=>[Ob.var 53 [AV.sl 4 (List.map A4 p_l),iA p_i,iA y20.1,iA y20.2],Ob.var 42 [iA (0),AV.nils,iA (0)],Ob.arr 5 (List.map A3 s23)]) (fun x38 a37=>B9 61 [(0,AV.ptr 0 0),(1,iA E4),(2,iA Ih),(6,AV.ptr 1 0),(7,AV.own 2 0 (List.length x38)),(8,iA y1.2.1)]) (fun x38 a37=>[Ob.var 53 [AV.sl 4 (List.map A4 p_l),iA p_i,iA y20.1,iA y20.2],Ob.var 42 [iA (0),AV.nils,iA (0)],Ob.arr 5 (List.map A3 x38)]) (fun v=>(AV.agg [iA v.1.A7,AV.sl 5 (List.map A3 v.1.Bm),iA v.1.Ab],[Ob.var 53 [AV.sl 4 (List.map A4 p_l),iA v.2.1,iA v.2.2.1,iA v.2.2.2]])) (fun k s=>Df n y1 k s.1 s.2) (fun s=>rfl) o31 n (0,y1.1) (fun _=>0) ho31 ?_ ?_
 intro k24 ss a25 K26 cont27 hK28 hcont29 h hr30
 obtain⟨s22,s23⟩:=ss
 replace h:Df n y1 (k24+1) s22 s23=some o31:=h
 rw[Df] at h
 conv=>lhs;whnf
 revert h
 refine br ?_ ?_
 intro h
 refine As h ?_;clear h;intro x33 hx33 h
 try simp only[ls]
 refine B4 (by first|exact Ga hx33|exact Pd hx33|exact Ss hx33|exact Hw hx33|(have q:=Ga hx33;simp only[List.length_set] at q;exact q)|(have q:=Hw hx33;simp only[List.length_set,Nat.zero_add] at q ⊢;exact q)) ?_
 conv=>lhs;whnf
 try simp only[Nat.zero_add,Ik (f:=A3) hx33,Em,ls]
 conv=>lhs;whnf
 revert h
 refine br ?_ ?_
 intro h
 refine As h ?_;clear h;intro x35 hx35 h
 try simp only[ls]
 refine B4 (by first|exact Ga hx35|exact Pd hx35|exact Ss hx35|exact Hw hx35|(have q:=Ga hx35;simp only[List.length_set] at q;exact q)|(have q:=Hw hx35;simp only[List.length_set,Nat.zero_add] at q ⊢;exact q)) ?_
 conv=>lhs;whnf
 try simp only[Nat.zero_add,Ik (f:=A3) hx35,Em,ls]
 conv=>lhs;whnf
 revert h
 intro h
 have hs36:E8 (List.map A3 s23) s22.toNat [iA (3),iA x35.Bs,sA x35.Ao,sA x35.Cq,iA x35.Ab]=List.map A3 (List.set s23 s22.toNat (⟨3,x35.Bs,x35.Ao,x35.Cq,x35.Ab⟩:A2)):=by rw[D2,List.map_set];rfl
 have hs36_u:E8 (List.map A3 s23) s22.toNat (S4 (A3 x35) 0 [iA (3)])=List.map A3 (List.set s23 s22.toNat (⟨3,x35.Bs,x35.Ao,x35.Cq,x35.Ab⟩:A2)):=by rw[D2,List.map_set];rfl
 try simp only[Nat.zero_add,Ik (f:=A3) hx35]
 conv=>lhs;whnf
 try simp only[hs36,hs36_u]
 conv=>lhs;whnf
 revert h
 exact fun h=>cq (hcont29 (IntKind.i64.wrap (s22+1),(List.set s23 s22.toNat (⟨3,x35.Bs,x35.Ao,x35.Cq,x35.Ab⟩:A2))) (fun _=>0) h)
 exact fun h=>cq (hcont29 (IntKind.i64.wrap (s22+1),s23) (fun _=>0) h)
 intro h;cases sj h
 exact kq (hr30 (fun _=>0))
 refine lrc ?_ ?_
 intro v e;subst e;cases sj h;rfl
 intro x38 a37 e;subst e
 dsimp only at h
 conv=>lhs;whnf
 revert h
 refine br ?_ ?_
 refine ca hc (fun _ h=>Cu h) ?_;intro y40
 intro h;cases sj h
 try simp only[ls]
 exact fq (y:=some (AV.agg [iA E4,AV.sl 5 (List.take (List.length x38) (List.drop 0 (List.map A3 x38))),iA Ih],[Ob.var 53 [AV.sl 4 (List.map A4 p_l),iA y40.1,iA y40.2.1,iA y40.2.2]]))
 refine ca hc (fun _ h=>Cu h) ?_;intro y42
 intro h;cases sj h
 try simp only[ls]
 exact fq (y:=some (AV.agg [iA E4,AV.sl 5 (List.take (List.length x38) (List.drop 0 (List.map A3 x38))),iA Ih],[Ob.var 53 [AV.sl 4 (List.map A4 p_l),iA y42.1,iA y42.2.1,iA y42.2.2]]))
theorem A2x {n:Nat} ⦃En:A5⦄ ⦃r:Bool⦄:Px n En=some r→CN n 17 [AV.agg [iA En.A7,sA En.Ac,iA En.Bs,iA En.Ab]] []=some (bA r,[]):=by
 intro h;rcases n with _|n;cases h
 rw[Px] at h
 refine Ai Tryz.func17 (by rfl) rfl rfl (Ap rfl) ?_
 intro call hc;conv=>lhs;whnf
 revert h
 exact rz
theorem Vr {n:Nat} ⦃p_l:(List A5)⦄ ⦃p_i:Int⦄ ⦃p_e:Int⦄ ⦃p_at:Int⦄ ⦃r:(A5×Bool×Int)⦄:Hk n p_l p_i p_e p_at=some r→CN n 19 [AV.ptr 0 0,AV.func 17 [] []] [Ob.var 53 [AV.sl 4 (List.map A4 p_l),iA p_i,iA p_e,iA p_at]]=some (AV.tup [AV.agg [iA r.1.A7,sA r.1.Ac,iA r.1.Bs,iA r.1.Ab],bA r.2.1],[Ob.var 53 [AV.sl 4 (List.map A4 p_l),iA r.2.2,iA p_e,iA p_at]]):=by
 intro h;rcases n with _|n;cases h
 rw[Hk] at h
 refine Ai Tryz.func19 (by rfl) rfl rfl (Ap rfl) ?_
 intro call hc;conv=>lhs;whnf
 revert h
 refine br ?_ ?_
 exact rz
 refine br ?_ ?_
 exact rz
 refine ix ?_;intro x3
 refine ca hc (fun _ h=>A2x h) ?_;intro y4
 refine br ?_ ?_
 refine ix ?_;intro x7
 exact rz
 exact rz
theorem Qm {n:Nat} ⦃p_l:(List A5)⦄ ⦃p_i:Int⦄ ⦃p_e:Int⦄ ⦃p_at:Int⦄ ⦃r:(A5×Int×Int×Int)⦄:G4 n p_l p_i p_e p_at=some r→CN n 15 [AV.ptr 0 0,AV.func 17 [] []] [Ob.var 53 [AV.sl 4 (List.map A4 p_l),iA p_i,iA p_e,iA p_at]]=some (AV.agg [iA r.1.A7,sA r.1.Ac,iA r.1.Bs,iA r.1.Ab],[Ob.var 53 [AV.sl 4 (List.map A4 p_l),iA r.2.1,iA r.2.2.1,iA r.2.2.2]]):=by
 intro h;rcases n with _|n;cases h
 rw[G4] at h
 refine Ai Tryz.func15 (by rfl) rfl rfl (Ap rfl) ?_
 intro call hc;conv=>lhs;whnf
 revert h
 refine ca hc (fun _ h=>Vr h) ?_;intro y1
 refine br ?_ ?_
 exact rz
 refine ca hc (fun _ h=>Ja h) ?_;intro y4
 exact rz
theorem A6a {n:Nat} ⦃En:A5⦄ ⦃r:Bool⦄:Rw n En=some r→CN n 58 [AV.agg [iA En.A7,sA En.Ac,iA En.Bs,iA En.Ab]] []=some (bA r,[]):=by
 intro h;rcases n with _|n;cases h
 rw[Rw] at h
 refine Ai Tryz.func58 (by rfl) rfl rfl (Ap rfl) ?_
 intro call hc;conv=>lhs;whnf
 revert h
 refine br ?_ ?_
 refine ca hc (fun _ h=>Gc h) ?_;intro y2
 exact rz
 exact rz
theorem W3 {n:Nat} ⦃p_l:(List A5)⦄ ⦃p_i:Int⦄ ⦃p_e:Int⦄ ⦃p_at:Int⦄ ⦃r:(A5×Bool×Int)⦄:Hj n p_l p_i p_e p_at=some r→CN n 19 [AV.ptr 0 0,AV.func 58 [] []] [Ob.var 53 [AV.sl 4 (List.map A4 p_l),iA p_i,iA p_e,iA p_at]]=some (AV.tup [AV.agg [iA r.1.A7,sA r.1.Ac,iA r.1.Bs,iA r.1.Ab],bA r.2.1],[Ob.var 53 [AV.sl 4 (List.map A4 p_l),iA r.2.2,iA p_e,iA p_at]]):=by
 intro h;rcases n with _|n;cases h
 rw[Hj] at h
 refine Ai Tryz.func19 (by rfl) rfl rfl (Ap rfl) ?_
 intro call hc;conv=>lhs;whnf
 revert h
 refine br ?_ ?_
 exact rz
 refine br ?_ ?_
 exact rz
 refine ix ?_;intro x3
 refine ca hc (fun _ h=>A6a h) ?_;intro y4
 refine br ?_ ?_
 refine ix ?_;intro x7
 exact rz
 exact rz
theorem Lr {n:Nat} ⦃p_l:(List A5)⦄ ⦃p_i:Int⦄ ⦃p_e:Int⦄ ⦃p_at:Int⦄ ⦃r:(A5×Int×Int×Int)⦄:F2 n p_l p_i p_e p_at=some r→CN n 15 [AV.ptr 0 0,AV.func 58 [] []] [Ob.var 53 [AV.sl 4 (List.map A4 p_l),iA p_i,iA p_e,iA p_at]]=some (AV.agg [iA r.1.A7,sA r.1.Ac,iA r.1.Bs,iA r.1.Ab],[Ob.var 53 [AV.sl 4 (List.map A4 p_l),iA r.2.1,iA r.2.2.1,iA r.2.2.2]]):=by
 intro h;rcases n with _|n;cases h
 rw[F2] at h
 refine Ai Tryz.func15 (by rfl) rfl rfl (Ap rfl) ?_
 intro call hc;conv=>lhs;whnf
 revert h
 refine ca hc (fun _ h=>W3 h) ?_;intro y1
 refine br ?_ ?_
 exact rz
 refine ca hc (fun _ h=>Ja h) ?_;intro y4
 exact rz
theorem Yf {n:Nat} ⦃Dc:Int⦄ ⦃p_l:(List A5)⦄ ⦃p_i:Int⦄ ⦃p_e:Int⦄ ⦃p_at:Int⦄ ⦃r:(Aw×Int×Int×Int)⦄:J8 n Dc p_l p_i p_e p_at=some r→CN n 20 [AV.ptr 0 0,iA Dc] [Ob.var 53 [AV.sl 4 (List.map A4 p_l),iA p_i,iA p_e,iA p_at]]=some (AV.agg [sA r.1.Ao,iA r.1.Bs,iA r.1.Ab],[Ob.var 53 [AV.sl 4 (List.map A4 p_l),iA r.2.1,iA r.2.2.1,iA r.2.2.2]]):=by
 intro h;rcases n with _|n;cases h
 rw[J8] at h
 refine Ai Tryz.func20 (by rfl) rfl rfl (Ap rfl) ?_
 intro call hc;conv=>lhs;whnf
 revert h
 refine ca hc (fun _ h=>Lr h) ?_;intro y1
 refine ca hc (fun _ h=>Cu h) ?_;intro y3
 refine ca hc (fun _ h=>Qm h) ?_;intro y5
 refine ca hc (fun _ h=>Cu h) ?_;intro y7
 exact rz
theorem Vz {n:Nat} ⦃Dc:Int⦄ ⦃p_l:(List A5)⦄ ⦃p_i:Int⦄ ⦃p_e:Int⦄ ⦃p_at:Int⦄ ⦃r:(Ae×Int×Int×Int)⦄:Hl n Dc p_l p_i p_e p_at=some r→CN n 21 [AV.ptr 0 0,iA Dc] [Ob.var 53 [AV.sl 4 (List.map A4 p_l),iA p_i,iA p_e,iA p_at]]=some (AV.agg [sA r.1.Ao,AV.sl 1 (List.map Dv r.1.Bh),AV.sl 9 (List.map A9 r.1.B5),iA r.1.Ab],[Ob.var 53 [AV.sl 4 (List.map A4 p_l),iA r.2.1,iA r.2.2.1,iA r.2.2.2]]):=by
 intro h;rcases n with _|n;cases h
 rw[Hl] at h
 refine W7 Tryz.func21 (by rfl) rfl rfl (Ap rfl) ?_
 intro call hc hcA;conv=>lhs;whnf
 revert h
 refine ca hc (fun _ h=>Lr h) ?_;intro y1
 refine ca hc (fun _ h=>Cu h) ?_;intro y3
 intro h
 obtain⟨n5,hn9,h⟩:=Lt h
 obtain⟨call6,hc7,ho8⟩:=Hx (f:=16) (args:=[iA (1),sA (([114,101,103]:List UInt8))]) (hp:=[]) hcA hn9 Tryz.func16 (by rfl) rfl rfl (Ap rfl)
 try simp only[ls]
 simp only[ho8]
 conv=>lhs;whnf
 revert h
 refine ca hc (fun _ h=>Ej h) ?_;intro y10
 refine br ?_ ?_
 intro h;refine As h ?_;clear h;intro o25 ho25 h
 refine lq (σ:=(Bool×Int×Int×Int×(List (List UInt8)))) (τ:=(Int×Int×Int×(List (List UInt8)))) (ν:=(Ae×Int×Int×Int)) 0 (fun(s13,s14,s15,s16,s17) a19=>B9 82 [(0,AV.ptr 0 0),(4,AV.ptr 1 0),(5,AV.ptr 2 0),(8,bA s13)]) (fun(s13,s14,s15,s16,s17) a19=>[Ob.var 53 [AV.sl 4 (List.map A4 p_l),iA s14,iA s15,iA s16],Ob.var 39 [sA (([]:List UInt8)),AV.row 6 (List.length (([]:List (List UInt8)))),AV.row 7 (List.length (([]:List A0))),iA (0)],Ob.var 39 [sA y1.1.Ac,AV.row 8 (List.length s17),AV.row 9 (List.length (([]:List A0))),iA Dc],Ob.var 3 [iA (1)],Ob.var 9 [sA (([114,101,103]:List UInt8))],Ob.var 55 [iA y10.1.A7,sA y10.1.Ac,iA y10.1.Bs,iA y10.1.Ab],Ob.row 9 1 ([]),Ob.row 83 9 ([]),Ob.row 9 1 (List.map Dv s17),Ob.row 83 9 ([])]) (fun(x39,x40,x41,x42) a38=>B9 82 [(0,AV.ptr 0 0),(4,AV.ptr 1 0),(5,AV.ptr 2 0)]) (fun(x39,x40,x41,x42) a38=>[Ob.var 53 [AV.sl 4 (List.map A4 p_l),iA x39,iA x40,iA x41],Ob.var 39 [sA (([]:List UInt8)),AV.row 6 (List.length (([]:List (List UInt8)))),AV.row 7 (List.length (([]:List A0))),iA (0)],Ob.var 39 [sA y1.1.Ac,AV.row 8 (List.length x42),AV.row 9 (List.length (([]:List A0))),iA Dc],Ob.var 3 [iA (1)],Ob.var 9 [sA (([114,101,103]:List UInt8))],Ob.var 55 [iA y10.1.A7,sA y10.1.Ac,iA y10.1.Bs,iA y10.1.Ab],Ob.row 9 1 ([]),Ob.row 83 9 ([]),Ob.row 9 1 (List.map Dv x42),Ob.row 83 9 ([])]) (fun v=>(AV.agg [sA v.1.Ao,AV.sl 1 (List.map Dv v.1.Bh),AV.sl 9 (List.map A9 v.1.B5),iA v.1.Ab],[Ob.var 53 [AV.sl 4 (List.map A4 p_l),iA v.2.1,iA v.2.2.1,iA v.2.2.2]])) (fun k s=>Dj n p_l k s.1 s.2.1 s.2.2.1 s.2.2.2.1 s.2.2.2.2) (fun s=>rfl) o25 n (true,y10.2.2,y3.2.1,y3.2.2,([]:List (List UInt8))) (fun _=>0) ho25 ?_ ?_
 intro k18 ss a19 K20 cont21 hK22 hcont23 h hr24
 obtain⟨s13,s14,s15,s16,s17⟩:=ss
 replace h:Dj n p_l (k18+1) s13 s14 s15 s16 s17=some o25:=h
 rw[Dj] at h
 conv=>lhs;whnf
 revert h
 refine br ?_ ?_
 refine ca hc (fun _ h=>Lr h) ?_;intro y27
 refine ar (ap Dv (List.map Dv s17) s17 ([[sA y27.1.Ac]]) ([y27.1.Ac]:List (List UInt8))) ?_
 intro h
 obtain⟨n31,hn35,h⟩:=Lt h
 obtain⟨call32,hc33,ho34⟩:=Hx (f:=16) (args:=[iA (3),sA (([44]:List UInt8))]) (hp:=[]) hcA hn35 Tryz.func16 (by rfl) rfl rfl (Ap rfl)
 try simp only[ls]
 simp only[ho34]
 conv=>lhs;whnf
 revert h
 refine ca hc (fun _ h=>Ej h) ?_;intro y36
 exact fun h=>cq (hcont23 (y36.2.1,y36.2.2,y27.2.2.1,y27.2.2.2,(s17++([y27.1.Ac]:List (List UInt8)))) (fun _=>0) h)
 intro h;cases sj h
 exact kq (hr24 (fun _=>0))
 refine lrc ?_ ?_
 intro v e;subst e;cases sj h;rfl
 intro t a38 e;subst e
 obtain⟨x39,x40,x41,x42⟩:=t
 dsimp only at h
 conv=>lhs;whnf
 revert h
 refine ca hc (fun _ h=>Cu h) ?_;intro y43
 refine br ?_ ?_
 intro h;cases sj h
 try simp only[ls]
 exact fq (y:=some (AV.agg [sA y1.1.Ac,AV.sl 1 (List.take (List.length x42) (List.map Dv x42)),AV.sl 9 (List.take (List.length (([]:List A0))) ([])),iA Dc],[Ob.var 53 [AV.sl 4 (List.map A4 p_l),iA y43.1,iA y43.2.1,iA y43.2.2]]))
 refine ca hc (fun _ h=>Xc h) ?_;intro y46
 refine ca hc (fun _ h=>F1 h) ?_;intro y48
 refine br ?_ ?_
 refine ca hc (fun _ h=>Cu h) ?_;intro y51
 intro h;cases sj h
 try simp only[ls]
 exact fq (y:=some (AV.agg [sA y1.1.Ac,AV.sl 1 (List.take (List.length x42) (List.map Dv x42)),AV.sl 9 (List.map A9 y46.1),iA Dc],[Ob.var 53 [AV.sl 4 (List.map A4 p_l),iA y51.1,iA y51.2.1,iA y51.2.2]]))
 refine ca hc (fun _ h=>Cu h) ?_;intro y53
 intro h;cases sj h
 try simp only[ls]
 exact fq (y:=some (AV.agg [sA y1.1.Ac,AV.sl 1 (List.take (List.length x42) (List.map Dv x42)),AV.sl 9 (List.map A9 y46.1),iA Dc],[Ob.var 53 [AV.sl 4 (List.map A4 p_l),iA y53.1,iA y53.2.1,iA y53.2.2]]))
 refine br ?_ ?_
 exact rz
 refine ca hc (fun _ h=>Xc h) ?_;intro y57
 refine ca hc (fun _ h=>F1 h) ?_;intro y59
 refine br ?_ ?_
 refine ca hc (fun _ h=>Cu h) ?_;intro y62
 exact rz
 refine ca hc (fun _ h=>Cu h) ?_;intro y64
 exact rz
theorem Tt {n:Nat} ⦃Ds:Int⦄ ⦃r:(List UInt8)⦄:Km n Ds=some r→CN n 22 [iA Ds] []=some (sA r,[]):=by
 intro h;rcases n with _|n;cases h
 rw[Km] at h
 refine Ai Tryz.func22 (by rfl) rfl rfl (Ap rfl) ?_
 intro call hc;conv=>lhs;whnf
 revert h
 refine br ?_ ?_
 exact rz
 refine br ?_ ?_
 exact rz
 refine br ?_ ?_
 exact rz
 exact rz
theorem A4x {n:Nat} ⦃E1:Int⦄ ⦃r:Bool⦄:Nt n E1=some r→CN n 54 [AV.int .i32 E1] []=some (bA r,[]):=by
 intro h;rcases n with _|n;cases h
 rw[Nt] at h
 refine Ai Tryz.func54 (by rfl) rfl rfl (Ap rfl) ?_
 intro call hc;conv=>lhs;whnf
 revert h
 refine br ?_ ?_
 exact rz
 exact rz
theorem A2w {n:Nat} ⦃E1:Int⦄ ⦃r:Bool⦄:Me n E1=some r→CN n 52 [AV.int .i32 E1] []=some (bA r,[]):=by
 intro h;rcases n with _|n;cases h
 rw[Me] at h
 refine Ai Tryz.func52 (by rfl) rfl rfl (Ap rfl) ?_
 intro call hc;conv=>lhs;whnf
 revert h
 refine br ?_ ?_
 refine br ?_ ?_
 exact rz
 refine br ?_ ?_
 refine br ?_ ?_
 exact rz
 exact rz
 exact rz
 refine br ?_ ?_
 refine br ?_ ?_
 exact rz
 exact rz
 exact rz
theorem A79 {n:Nat} ⦃B7:(List UInt8)⦄ ⦃r:Int⦄:Pq n B7=some r→CN n 56 [sA B7] []=some (iA r,[]):=by
 intro h;rcases n with _|n;cases h
 rw[Pq] at h
 refine Ai Tryz.func56 (by rfl) rfl rfl (Ap rfl) ?_
 intro call hc;conv=>lhs;whnf
 revert h
 refine br ?_ ?_
 refine cp ?_
 refine br ?_ ?_
 exact rz
 refine br ?_ ?_
 exact rz
 refine br ?_ ?_
 exact rz
 refine br ?_ ?_
 exact rz
 refine br ?_ ?_
 exact rz
 refine ixs ?_;intro x8
 refine br ?_ ?_
 exact rz
 refine br ?_ ?_
 exact rz
 refine br ?_ ?_
 exact rz
 refine br ?_ ?_
 exact rz
 refine br ?_ ?_
 exact rz
 refine br ?_ ?_
 exact rz
 refine br ?_ ?_
 exact rz
 refine br ?_ ?_
 exact rz
 refine br ?_ ?_
 exact rz
 refine br ?_ ?_
 exact rz
 refine br ?_ ?_
 exact rz
 refine br ?_ ?_
 exact rz
 refine br ?_ ?_
 exact rz
 exact rz
 refine ixs ?_;intro x22
 refine br ?_ ?_
 exact rz
 refine br ?_ ?_
 exact rz
 refine br ?_ ?_
 exact rz
 refine br ?_ ?_
 exact rz
 refine br ?_ ?_
 exact rz
 refine br ?_ ?_
 exact rz
 refine br ?_ ?_
 exact rz
 refine br ?_ ?_
 exact rz
 refine br ?_ ?_
 exact rz
 refine br ?_ ?_
 exact rz
 refine br ?_ ?_
 exact rz
 refine br ?_ ?_
 exact rz
 refine br ?_ ?_
 exact rz
 exact rz
theorem A7a {n:Nat} ⦃B7:(List UInt8)⦄ ⦃r:((List A5)×Int×Int)⦄:Pf n B7=some r→CN n 14 [sA B7] []=some (AV.tup [AV.sl 4 (List.map A4 r.1),iA r.2.1,iA r.2.2],[]):=by
 intro h;rcases n with _|n;cases h
 rw[Pf] at h
 refine Ai Tryz.func14 (by rfl) rfl rfl (Ap rfl) ?_
 intro call hc;conv=>lhs;whnf
 revert h
 refine br ?_ ?_
 exact rz
 intro h;refine As h ?_;clear h;intro o11 ho11 h
 refine lq (σ:=(Int×(List A5))) (τ:=(List A5)) (ν:=((List A5)×Int×Int)) 0 (fun(s2,s3) a5=>B9 104 [(0,sA B7),(5,AV.row 0 (List.length s3)),(6,iA s2)]) (fun(s2,s3) a5=>[Ob.row 55 4 (List.map A4 s3)]) (fun x50 a49=>B9 104 [(5,AV.row 0 (List.length x50))]) (fun x50 a49=>[Ob.row 55 4 (List.map A4 x50)]) (fun v=>(AV.tup [AV.sl 4 (List.map A4 v.1),iA v.2.1,iA v.2.2],[])) (fun k s=>D1 n B7 k s.1 s.2) (fun s=>rfl) o11 n (0,([]:List A5)) (fun _=>0) ho11 ?_ ?_
 intro k4 ss a5 K6 cont7 hK8 hcont9 h hr10
 obtain⟨s2,s3⟩:=ss
 replace h:D1 n B7 (k4+1) s2 s3=some o11:=h
 rw[D1] at h
 conv=>lhs;whnf
 revert h
 refine br ?_ ?_
 refine cp ?_
 refine ixs ?_;intro x14
 refine br ?_ ?_
 exact fun h=>cq (hcont9 (IntKind.i64.wrap (s2+1),s3) (fun _=>0) h)
 refine br ?_ ?_
 exact fun h=>cq (hcont9 (IntKind.i64.wrap (s2+1),s3) (fun _=>0) h)
 refine br ?_ ?_
 exact fun h=>cq (hcont9 (IntKind.i64.wrap (s2+1),s3) (fun _=>0) h)
 refine br ?_ ?_
 exact fun h=>cq (hcont9 (IntKind.i64.wrap (s2+1),s3) (fun _=>0) h)
 refine br ?_ ?_
 refine cr hc (fun _ h=>Zf h) ?_;intro y20
 exact fun h=>cq (hcont9 (IntKind.i64.wrap (s2+y20),s3) (fun _=>0) h)
 refine ca hc (fun _ h=>A2w h) ?_;intro y22
 refine br ?_ ?_
 refine cr hc (fun _ h=>Ze h) ?_;intro y25
 refine br ?_ ?_
 intro h;cases sj h
 refine(hK8 _ _).trans ?_
 refine Eq.trans ?_ (Eq.symm (show _=some _ from hr10))
 conv=>lhs;whnf
 exact rq
 refine cp ?_
 refine ar (ap A4 (List.map A4 s3) s3 ([[iA (1),sA ((List.drop 0 (List.take (y25.toNat) (List.drop (s2.toNat) (List.take (B7.length) B7))))),iA (0),iA s2]]) ([(⟨1,(List.drop 0 (List.take (y25.toNat) (List.drop (s2.toNat) (List.take (B7.length) B7)))),0,s2⟩:A5)]:List A5)) ?_
 exact fun h=>cq (hcont9 (IntKind.i64.wrap (s2+((((List.drop 0 (List.take (y25.toNat) (List.drop (s2.toNat) (List.take (B7.length) B7))))).length:Nat):Int)),(s3++([(⟨1,(List.drop 0 (List.take (y25.toNat) (List.drop (s2.toNat) (List.take (B7.length) B7)))),0,s2⟩:A5)]:List A5))) (fun _=>0) h)
 refine ca hc (fun _ h=>A4x h) ?_;intro y31
 refine br ?_ ?_
 refine cr hc (fun _ h=>Zt h) ?_;intro y34
 refine cp ?_
 refine cp ?_
 refine cr hc (fun _ h=>Ab4 h) ?_;intro y38
 refine br ?_ ?_
 intro h;cases sj h
 refine(hK8 _ _).trans ?_
 refine Eq.trans ?_ (Eq.symm (show _=some _ from hr10))
 conv=>lhs;whnf
 exact rq
 refine ar (ap A4 (List.map A4 s3) s3 ([[iA (2),sA ((List.drop 0 (List.take (y34.toNat) (List.drop (s2.toNat) (List.take (B7.length) B7))))),iA y38,iA s2]]) ([(⟨2,(List.drop 0 (List.take (y34.toNat) (List.drop (s2.toNat) (List.take (B7.length) B7)))),y38,s2⟩:A5)]:List A5)) ?_
 exact fun h=>cq (hcont9 (IntKind.i64.wrap (s2+((((List.drop 0 (List.take (y34.toNat) (List.drop (s2.toNat) (List.take (B7.length) B7))))).length:Nat):Int)),(s3++([(⟨2,(List.drop 0 (List.take (y34.toNat) (List.drop (s2.toNat) (List.take (B7.length) B7)))),y38,s2⟩:A5)]:List A5))) (fun _=>0) h)
 refine cr hc (fun _ h=>A79 h) ?_;intro y43
 refine br ?_ ?_
 intro h;cases sj h
 refine(hK8 _ _).trans ?_
 refine Eq.trans ?_ (Eq.symm (show _=some _ from hr10))
 conv=>lhs;whnf
 exact rq
 refine cp ?_
 refine ar (ap A4 (List.map A4 s3) s3 ([[iA (3),sA ((List.drop 0 (List.take (y43.toNat) (List.drop (s2.toNat) (List.take (B7.length) B7))))),iA (0),iA s2]]) ([(⟨3,(List.drop 0 (List.take (y43.toNat) (List.drop (s2.toNat) (List.take (B7.length) B7)))),0,s2⟩:A5)]:List A5)) ?_
 exact fun h=>cq (hcont9 (IntKind.i64.wrap (s2+((((List.drop 0 (List.take (y43.toNat) (List.drop (s2.toNat) (List.take (B7.length) B7))))).length:Nat):Int)),(s3++([(⟨3,(List.drop 0 (List.take (y43.toNat) (List.drop (s2.toNat) (List.take (B7.length) B7)))),0,s2⟩:A5)]:List A5))) (fun _=>0) h)
 intro h;cases sj h
 exact kq (hr10 (fun _=>0))
 refine lrc ?_ ?_
 intro v e;subst e;cases sj h;rfl
 intro x50 a49 e;subst e
 dsimp only at h
 conv=>lhs;whnf
 revert h
 intro h;cases sj h
 try simp only[ls]
 exact fq (y:=some (AV.tup [AV.sl 4 (List.take (List.length x50) (List.map A4 x50)),iA (0),iA (0)],[]))
theorem Mc {n:Nat} ⦃B7:(List UInt8)⦄ ⦃r:(Az×Int×Int)⦄:Gj n B7=some r→CN n 6 [sA B7] []=some (AV.tup [AV.agg [iA r.1.Bo,AV.sl 3 (List.map Am r.1.B0),AV.sl 4 (List.map Ad r.1.Ak),AV.sl 3 (List.map Aj r.1.Ar)],iA r.2.1,iA r.2.2],[]):=by
 intro h;rcases n with _|n;cases h
 rw[Gj] at h
 refine W7 Tryz.func6 (by rfl) rfl rfl (Ap rfl) ?_
 intro call hc hcA;conv=>lhs;whnf
 revert h
 refine ca hc (fun _ h=>A7a h) ?_;intro y1
 refine br ?_ ?_
 exact rz
 intro h
 obtain⟨n4,hn8,h⟩:=Lt h
 obtain⟨call5,hc6,ho7⟩:=Hx (f:=16) (args:=[iA (1),sA (([109,111,100]:List UInt8))]) (hp:=[]) hcA hn8 Tryz.func16 (by rfl) rfl rfl (Ap rfl)
 try simp only[ls]
 simp only[ho7]
 conv=>lhs;whnf
 revert h
 refine ca hc (fun _ h=>Rh h) ?_;intro y9
 refine ca hc (fun _ h=>Qm h) ?_;intro y11
 refine ca hc (fun _ h=>Cu h) ?_;intro y13
 intro h
 obtain⟨n15,hn19,h⟩:=Lt h
 obtain⟨call16,hc17,ho18⟩:=Hx (f:=16) (args:=[iA (1),sA (([108,111,99]:List UInt8))]) (hp:=[]) hcA hn19 Tryz.func16 (by rfl) rfl rfl (Ap rfl)
 try simp only[ls]
 simp only[ho18]
 conv=>lhs;whnf
 revert h
 refine ca hc (fun _ h=>Ej h) ?_;intro y20
 intro h;refine As h ?_;clear h;intro o38 ho38 h
 refine lq (σ:=(Bool×Int×Int×Int×Int×(List UInt8)×Int×Int×(List Aw))) (τ:=(Int×Int×Int×Int×(List UInt8)×Int×Int×(List Aw))) (ν:=(Az×Int×Int)) 0 (fun(s22,s23,s24,s25,s26,s27,s28,s29,s30) a32=>B9 135 [(2,AV.ptr 0 0),(5,AV.sl 4 (List.map A4 y1.1)),(8,AV.ptr 1 0),(9,AV.ptr 2 0),(10,AV.ptr 7 0),(11,bA s22)]) (fun(s22,s23,s24,s25,s26,s27,s28,s29,s30) a32=>[Ob.var 27 [iA (0),AV.row 8 (List.length (([]:List Aw))),AV.row 9 (List.length (([]:List Ae))),AV.row 10 (List.length (([]:List Ag)))],Ob.var 53 [AV.sl 4 (List.map A4 y1.1),iA s23,iA s24,iA s25],Ob.var 27 [iA y11.1.Bs,AV.row 11 (List.length s30),AV.row 12 (List.length (([]:List Ae))),AV.row 13 (List.length (([]:List Ag)))],Ob.var 3 [iA (1)],Ob.var 9 [sA (([109,111,100]:List UInt8))],Ob.var 3 [iA (1)],Ob.var 9 [sA (([108,111,99]:List UInt8))],Ob.var 55 [iA s26,sA s27,iA s28,iA s29],Ob.row 45 3 ([]),Ob.row 39 4 ([]),Ob.row 42 3 ([]),Ob.row 45 3 (List.map Am s30),Ob.row 39 4 ([]),Ob.row 42 3 ([])]) (fun(x52,x53,x54,x55,x56,x57,x58,x59) a51=>B9 135 [(2,AV.ptr 0 0),(5,AV.sl 4 (List.map A4 y1.1)),(8,AV.ptr 1 0),(9,AV.ptr 2 0)]) (fun(x52,x53,x54,x55,x56,x57,x58,x59) a51=>[Ob.var 27 [iA (0),AV.row 8 (List.length (([]:List Aw))),AV.row 9 (List.length (([]:List Ae))),AV.row 10 (List.length (([]:List Ag)))],Ob.var 53 [AV.sl 4 (List.map A4 y1.1),iA x52,iA x53,iA x54],Ob.var 27 [iA y11.1.Bs,AV.row 11 (List.length x59),AV.row 12 (List.length (([]:List Ae))),AV.row 13 (List.length (([]:List Ag)))],Ob.var 3 [iA (1)],Ob.var 9 [sA (([109,111,100]:List UInt8))],Ob.var 3 [iA (1)],Ob.var 9 [sA (([108,111,99]:List UInt8))],Ob.var 55 [iA x55,sA x56,iA x57,iA x58],Ob.row 45 3 ([]),Ob.row 39 4 ([]),Ob.row 42 3 ([]),Ob.row 45 3 (List.map Am x59),Ob.row 39 4 ([]),Ob.row 42 3 ([])]) (fun v=>(AV.tup [AV.agg [iA v.1.Bo,AV.sl 3 (List.map Am v.1.B0),AV.sl 4 (List.map Ad v.1.Ak),AV.sl 3 (List.map Aj v.1.Ar)],iA v.2.1,iA v.2.2],[])) (fun k s=>Ix n y1 k s.1 s.2.1 s.2.2.1 s.2.2.2.1 s.2.2.2.2.1 s.2.2.2.2.2.1 s.2.2.2.2.2.2.1 s.2.2.2.2.2.2.2.1 s.2.2.2.2.2.2.2.2) (fun s=>rfl) o38 n (y20.2.1,y20.2.2,y13.2.1,y13.2.2,y20.1.A7,y20.1.Ac,y20.1.Bs,y20.1.Ab,([]:List Aw)) (fun _=>0) ho38 ?_ ?_
 intro k31 ss a32 K33 cont34 hK35 hcont36 h hr37
 obtain⟨s22,s23,s24,s25,s26,s27,s28,s29,s30⟩:=ss
 replace h:Ix n y1 (k31+1) s22 s23 s24 s25 s26 s27 s28 s29 s30=some o38:=h
 rw[Ix] at h
 conv=>lhs;whnf
 revert h
 refine br ?_ ?_
 refine ca hc (fun _ h=>Yf h) ?_;intro y40
 refine ar (ap Am (List.map Am s30) s30 ([[sA y40.1.Ao,iA y40.1.Bs,iA y40.1.Ab]]) ([y40.1]:List Aw)) ?_
 intro h
 obtain⟨n44,hn48,h⟩:=Lt h
 obtain⟨call45,hc46,ho47⟩:=Hx (f:=16) (args:=[iA (1),sA (([108,111,99]:List UInt8))]) (hp:=[]) hcA hn48 Tryz.func16 (by rfl) rfl rfl (Ap rfl)
 try simp only[ls]
 simp only[ho47]
 conv=>lhs;whnf
 revert h
 refine ca hc (fun _ h=>Ej h) ?_;intro y49
 exact fun h=>cq (hcont36 (y49.2.1,y49.2.2,y40.2.2.1,y40.2.2.2,y49.1.A7,y49.1.Ac,y49.1.Bs,y49.1.Ab,(s30++([y40.1]:List Aw))) (fun _=>0) h)
 intro h;cases sj h
 exact kq (hr37 (fun _=>0))
 refine lrc ?_ ?_
 intro v e;subst e;cases sj h;rfl
 intro t a51 e;subst e
 obtain⟨x52,x53,x54,x55,x56,x57,x58,x59⟩:=t
 dsimp only at h
 conv=>lhs;whnf
 revert h
 intro h
 obtain⟨n60,hn64,h⟩:=Lt h
 obtain⟨call61,hc62,ho63⟩:=Hx (f:=16) (args:=[iA (1),sA (([116,104,114,101,97,100]:List UInt8))]) (hp:=[]) hcA hn64 Tryz.func16 (by rfl) rfl rfl (Ap rfl)
 try simp only[ls]
 simp only[ho63]
 conv=>lhs;whnf
 revert h
 refine ca hc (fun _ h=>Ej h) ?_;intro y65
 intro h;refine As h ?_;clear h;intro o83 ho83 h
 refine lq (σ:=(Bool×Int×Int×Int×(List Ae)×Int×(List UInt8)×Int×Int)) (τ:=(Int×Int×Int×Int×(List UInt8)×Int×Int×(List Ae))) (ν:=(Az×Int×Int)) 2 (fun(s67,s68,s69,s70,s71,s72,s73,s74,s75) a77=>B9 135 [(2,AV.ptr 0 0),(5,AV.sl 4 (List.map A4 y1.1)),(8,AV.ptr 1 0),(9,AV.ptr 2 0),(12,AV.ptr 16 0),(13,bA s67)]) (fun(s67,s68,s69,s70,s71,s72,s73,s74,s75) a77=>[Ob.var 27 [iA (0),AV.row 8 (List.length (([]:List Aw))),AV.row 9 (List.length (([]:List Ae))),AV.row 10 (List.length (([]:List Ag)))],Ob.var 53 [AV.sl 4 (List.map A4 y1.1),iA s68,iA s69,iA s70],Ob.var 27 [iA y11.1.Bs,AV.row 11 (List.length x59),AV.row 12 (List.length s71),AV.row 13 (List.length (([]:List Ag)))],Ob.var 3 [iA (1)],Ob.var 9 [sA (([109,111,100]:List UInt8))],Ob.var 3 [iA (1)],Ob.var 9 [sA (([108,111,99]:List UInt8))],Ob.var 55 [iA x55,sA x56,iA x57,iA x58],Ob.row 45 3 ([]),Ob.row 39 4 ([]),Ob.row 42 3 ([]),Ob.row 45 3 (List.map Am x59),Ob.row 39 4 (List.map Ad s71),Ob.row 42 3 ([]),Ob.var 3 [iA (1)],Ob.var 9 [sA (([116,104,114,101,97,100]:List UInt8))],Ob.var 55 [iA s72,sA s73,iA s74,iA s75]]) (fun(x97,x98,x99,x100,x101,x102,x103,x104) a96=>B9 135 [(2,AV.ptr 0 0),(5,AV.sl 4 (List.map A4 y1.1)),(8,AV.ptr 1 0),(9,AV.ptr 2 0)]) (fun(x97,x98,x99,x100,x101,x102,x103,x104) a96=>[Ob.var 27 [iA (0),AV.row 8 (List.length (([]:List Aw))),AV.row 9 (List.length (([]:List Ae))),AV.row 10 (List.length (([]:List Ag)))],Ob.var 53 [AV.sl 4 (List.map A4 y1.1),iA x97,iA x98,iA x99],Ob.var 27 [iA y11.1.Bs,AV.row 11 (List.length x59),AV.row 12 (List.length x104),AV.row 13 (List.length (([]:List Ag)))],Ob.var 3 [iA (1)],Ob.var 9 [sA (([109,111,100]:List UInt8))],Ob.var 3 [iA (1)],Ob.var 9 [sA (([108,111,99]:List UInt8))],Ob.var 55 [iA x55,sA x56,iA x57,iA x58],Ob.row 45 3 ([]),Ob.row 39 4 ([]),Ob.row 42 3 ([]),Ob.row 45 3 (List.map Am x59),Ob.row 39 4 (List.map Ad x104),Ob.row 42 3 ([]),Ob.var 3 [iA (1)],Ob.var 9 [sA (([116,104,114,101,97,100]:List UInt8))],Ob.var 55 [iA x100,sA x101,iA x102,iA x103]]) (fun v=>(AV.tup [AV.agg [iA v.1.Bo,AV.sl 3 (List.map Am v.1.B0),AV.sl 4 (List.map Ad v.1.Ak),AV.sl 3 (List.map Aj v.1.Ar)],iA v.2.1,iA v.2.2],[])) (fun k s=>Iy n y1 k s.1 s.2.1 s.2.2.1 s.2.2.2.1 s.2.2.2.2.1 s.2.2.2.2.2.1 s.2.2.2.2.2.2.1 s.2.2.2.2.2.2.2.1 s.2.2.2.2.2.2.2.2) (fun s=>rfl) o83 n (y65.2.1,y65.2.2,x53,x54,([]:List Ae),y65.1.A7,y65.1.Ac,y65.1.Bs,y65.1.Ab) (fun _=>0) ho83 ?_ ?_
 intro k76 ss a77 K78 cont79 hK80 hcont81 h hr82
 obtain⟨s67,s68,s69,s70,s71,s72,s73,s74,s75⟩:=ss
 replace h:Iy n y1 (k76+1) s67 s68 s69 s70 s71 s72 s73 s74 s75=some o83:=h
 rw[Iy] at h
 conv=>lhs;whnf
 revert h
 refine br ?_ ?_
 refine ca hc (fun _ h=>Vz h) ?_;intro y85
 refine ar (ap Ad (List.map Ad s71) s71 ([[sA y85.1.Ao,AV.sl 1 (List.map Dv y85.1.Bh),AV.sl 9 (List.map A9 y85.1.B5),iA y85.1.Ab]]) ([y85.1]:List Ae)) ?_
 intro h
 obtain⟨n89,hn93,h⟩:=Lt h
 obtain⟨call90,hc91,ho92⟩:=Hx (f:=16) (args:=[iA (1),sA (([116,104,114,101,97,100]:List UInt8))]) (hp:=[]) hcA hn93 Tryz.func16 (by rfl) rfl rfl (Ap rfl)
 try simp only[ls]
 simp only[ho92]
 conv=>lhs;whnf
 revert h
 refine ca hc (fun _ h=>Ej h) ?_;intro y94
 exact fun h=>cq (hcont81 (y94.2.1,y94.2.2,y85.2.2.1,y85.2.2.2,(s71++([y85.1]:List Ae)),y94.1.A7,y94.1.Ac,y94.1.Bs,y94.1.Ab) (fun _=>0) h)
 intro h;cases sj h
 exact kq (hr82 (fun _=>0))
 refine lrc ?_ ?_
 intro v e;subst e;cases sj h;rfl
 intro t a96 e;subst e
 obtain⟨x97,x98,x99,x100,x101,x102,x103,x104⟩:=t
 dsimp only at h
 conv=>lhs;whnf
 revert h
 intro h;refine As h ?_;clear h;intro o117 ho117 h
 refine lq (σ:=(Bool×Int×Int×Int×(List Ag))) (τ:=(Int×Int×Int×(List Ag))) (ν:=(Az×Int×Int)) 4 (fun(s105,s106,s107,s108,s109) a111=>B9 135 [(2,AV.ptr 0 0),(5,AV.sl 4 (List.map A4 y1.1)),(8,AV.ptr 1 0),(9,AV.ptr 2 0),(14,bA s105)]) (fun(s105,s106,s107,s108,s109) a111=>[Ob.var 27 [iA (0),AV.row 8 (List.length (([]:List Aw))),AV.row 9 (List.length (([]:List Ae))),AV.row 10 (List.length (([]:List Ag)))],Ob.var 53 [AV.sl 4 (List.map A4 y1.1),iA s106,iA s107,iA s108],Ob.var 27 [iA y11.1.Bs,AV.row 11 (List.length x59),AV.row 12 (List.length x104),AV.row 13 (List.length s109)],Ob.var 3 [iA (1)],Ob.var 9 [sA (([109,111,100]:List UInt8))],Ob.var 3 [iA (1)],Ob.var 9 [sA (([108,111,99]:List UInt8))],Ob.var 55 [iA x55,sA x56,iA x57,iA x58],Ob.row 45 3 ([]),Ob.row 39 4 ([]),Ob.row 42 3 ([]),Ob.row 45 3 (List.map Am x59),Ob.row 39 4 (List.map Ad x104),Ob.row 42 3 (List.map Aj s109),Ob.var 3 [iA (1)],Ob.var 9 [sA (([116,104,114,101,97,100]:List UInt8))],Ob.var 55 [iA x100,sA x101,iA x102,iA x103]]) (fun(x156,x157,x158,x159) a155=>B9 135 [(2,AV.ptr 0 0),(5,AV.sl 4 (List.map A4 y1.1)),(8,AV.ptr 1 0),(9,AV.ptr 2 0)]) (fun(x156,x157,x158,x159) a155=>[Ob.var 27 [iA (0),AV.row 8 (List.length (([]:List Aw))),AV.row 9 (List.length (([]:List Ae))),AV.row 10 (List.length (([]:List Ag)))],Ob.var 53 [AV.sl 4 (List.map A4 y1.1),iA x156,iA x157,iA x158],Ob.var 27 [iA y11.1.Bs,AV.row 11 (List.length x59),AV.row 12 (List.length x104),AV.row 13 (List.length x159)],Ob.var 3 [iA (1)],Ob.var 9 [sA (([109,111,100]:List UInt8))],Ob.var 3 [iA (1)],Ob.var 9 [sA (([108,111,99]:List UInt8))],Ob.var 55 [iA x55,sA x56,iA x57,iA x58],Ob.row 45 3 ([]),Ob.row 39 4 ([]),Ob.row 42 3 ([]),Ob.row 45 3 (List.map Am x59),Ob.row 39 4 (List.map Ad x104),Ob.row 42 3 (List.map Aj x159),Ob.var 3 [iA (1)],Ob.var 9 [sA (([116,104,114,101,97,100]:List UInt8))],Ob.var 55 [iA x100,sA x101,iA x102,iA x103]]) (fun v=>(AV.tup [AV.agg [iA v.1.Bo,AV.sl 3 (List.map Am v.1.B0),AV.sl 4 (List.map Ad v.1.Ak),AV.sl 3 (List.map Aj v.1.Ar)],iA v.2.1,iA v.2.2],[])) (fun k s=>Hs n y1 k s.1 s.2.1 s.2.2.1 s.2.2.2.1 s.2.2.2.2) (fun s=>rfl) o117 n (true,x97,x98,x99,([]:List Ag)) (fun _=>0) ho117 ?_ ?_
 intro k110 ss a111 K112 cont113 hK114 hcont115 h hr116
 obtain⟨s105,s106,s107,s108,s109⟩:=ss
 replace h:Hs n y1 (k110+1) s105 s106 s107 s108 s109=some o117:=h
 rw[Hs] at h
 conv=>lhs;whnf
 revert h
 refine br ?_ ?_
 intro h;refine As h ?_;clear h;intro o132 ho132 h
 refine lq (σ:=(Bool×Int×Int×Int×Int×(List Ag))) (τ:=(Bool×Int×Int×Int×(List Ag))) (ν:=(Az×Int×Int)) 6 (fun(s119,s120,s121,s122,s123,s124) a126=>B9 135 [(2,AV.ptr 0 0),(5,AV.sl 4 (List.map A4 y1.1)),(8,AV.ptr 1 0),(9,AV.ptr 2 0),(14,bA s119),(15,iA s120)]) (fun(s119,s120,s121,s122,s123,s124) a126=>[Ob.var 27 [iA (0),AV.row 8 (List.length (([]:List Aw))),AV.row 9 (List.length (([]:List Ae))),AV.row 10 (List.length (([]:List Ag)))],Ob.var 53 [AV.sl 4 (List.map A4 y1.1),iA s121,iA s122,iA s123],Ob.var 27 [iA y11.1.Bs,AV.row 11 (List.length x59),AV.row 12 (List.length x104),AV.row 13 (List.length s124)],Ob.var 3 [iA (1)],Ob.var 9 [sA (([109,111,100]:List UInt8))],Ob.var 3 [iA (1)],Ob.var 9 [sA (([108,111,99]:List UInt8))],Ob.var 55 [iA x55,sA x56,iA x57,iA x58],Ob.row 45 3 ([]),Ob.row 39 4 ([]),Ob.row 42 3 ([]),Ob.row 45 3 (List.map Am x59),Ob.row 39 4 (List.map Ad x104),Ob.row 42 3 (List.map Aj s124),Ob.var 3 [iA (1)],Ob.var 9 [sA (([116,104,114,101,97,100]:List UInt8))],Ob.var 55 [iA x100,sA x101,iA x102,iA x103]]) (fun(x149,x150,x151,x152,x153) a148=>B9 135 [(2,AV.ptr 0 0),(5,AV.sl 4 (List.map A4 y1.1)),(8,AV.ptr 1 0),(9,AV.ptr 2 0),(14,bA x149)]) (fun(x149,x150,x151,x152,x153) a148=>[Ob.var 27 [iA (0),AV.row 8 (List.length (([]:List Aw))),AV.row 9 (List.length (([]:List Ae))),AV.row 10 (List.length (([]:List Ag)))],Ob.var 53 [AV.sl 4 (List.map A4 y1.1),iA x150,iA x151,iA x152],Ob.var 27 [iA y11.1.Bs,AV.row 11 (List.length x59),AV.row 12 (List.length x104),AV.row 13 (List.length x153)],Ob.var 3 [iA (1)],Ob.var 9 [sA (([109,111,100]:List UInt8))],Ob.var 3 [iA (1)],Ob.var 9 [sA (([108,111,99]:List UInt8))],Ob.var 55 [iA x55,sA x56,iA x57,iA x58],Ob.row 45 3 ([]),Ob.row 39 4 ([]),Ob.row 42 3 ([]),Ob.row 45 3 (List.map Am x59),Ob.row 39 4 (List.map Ad x104),Ob.row 42 3 (List.map Aj x153),Ob.var 3 [iA (1)],Ob.var 9 [sA (([116,104,114,101,97,100]:List UInt8))],Ob.var 55 [iA x100,sA x101,iA x102,iA x103]]) (fun v=>(AV.tup [AV.agg [iA v.1.Bo,AV.sl 3 (List.map Am v.1.B0),AV.sl 4 (List.map Ad v.1.Ak),AV.sl 3 (List.map Aj v.1.Ar)],iA v.2.1,iA v.2.2],[])) (fun k s=>E3 n y1 k s.1 s.2.1 s.2.2.1 s.2.2.2.1 s.2.2.2.2.1 s.2.2.2.2.2) (fun s=>rfl) o132 n (false,1,s106,s107,s108,s109) (fun _=>0) ho132 ?_ ?_
 intro k125 ss a126 K127 cont128 hK129 hcont130 h hr131
 obtain⟨s119,s120,s121,s122,s123,s124⟩:=ss
 replace h:E3 n y1 (k125+1) s119 s120 s121 s122 s123 s124=some o132:=h
 rw[E3] at h
 conv=>lhs;whnf
 revert h
 refine br ?_ ?_
 refine ca hc (fun _ h=>Tt h) ?_;intro y134
 intro h
 obtain⟨n136,hn140,h⟩:=Lt h
 obtain⟨call137,hc138,ho139⟩:=Hx (f:=16) (args:=[iA (1),sA y134]) (hp:=[]) hcA hn140 Tryz.func16 (by rfl) rfl rfl (Ap rfl)
 try simp only[ls]
 simp only[ho139]
 conv=>lhs;whnf
 revert h
 refine ca hc (fun _ h=>Ej h) ?_;intro y141
 refine br ?_ ?_
 refine ca hc (fun _ h=>Wq h) ?_;intro y144
 refine ar (ap Aj (List.map Aj s124) s124 ([[iA y144.1.A7,AV.sl 5 (List.map A3 y144.1.Bm),iA y144.1.Ab]]) ([y144.1]:List Ag)) ?_
 exact fun h=>cq (hcont130 (true,IntKind.i64.wrap (s120+1),y144.2.1,y144.2.2.1,y144.2.2.2,(s124++([y144.1]:List Ag))) (fun _=>0) h)
 exact fun h=>cq (hcont130 (s119,IntKind.i64.wrap (s120+1),y141.2.2,s122,s123,s124) (fun _=>0) h)
 intro h;cases sj h
 exact kq (hr131 (fun _=>0))
 refine lrc ?_ ?_
 intro v e;subst e;cases sj h;exact hr116
 intro t a148 e;subst e
 obtain⟨x149,x150,x151,x152,x153⟩:=t
 dsimp only at h
 conv=>lhs;whnf
 revert h
 exact fun h=>cq (hcont115 (x149,x150,x151,x152,x153) (fun _=>0) h)
 intro h;cases sj h
 exact kq (hr116 (fun _=>0))
 refine lrc ?_ ?_
 intro v e;subst e;cases sj h;rfl
 intro t a155 e;subst e
 obtain⟨x156,x157,x158,x159⟩:=t
 dsimp only at h
 conv=>lhs;whnf
 revert h
 refine br ?_ ?_
 refine ca hc (fun _ h=>Ja h) ?_;intro y161
 refine br ?_ ?_
 exact rz
 intro h;cases sj h
 try simp only[ls]
 exact fq (y:=some (AV.tup [AV.agg [iA y11.1.Bs,AV.sl 3 (List.take (List.length x59) (List.map Am x59)),AV.sl 4 (List.take (List.length x104) (List.map Ad x104)),AV.sl 3 (List.take (List.length x159) (List.map Aj x159))],iA (0),iA (0)],[]))
 refine br ?_ ?_
 exact rz
 intro h;cases sj h
 try simp only[ls]
 exact fq (y:=some (AV.tup [AV.agg [iA y11.1.Bs,AV.sl 3 (List.take (List.length x59) (List.map Am x59)),AV.sl 4 (List.take (List.length x104) (List.map Ad x104)),AV.sl 3 (List.take (List.length x159) (List.map Aj x159))],iA (0),iA (0)],[]))
theorem Vj {n:Nat} ⦃Cd:Int⦄ ⦃r:Bool⦄:Mn n Cd=some r→CN n 41 [iA Cd] []=some (bA r,[]):=by
 intro h;rcases n with _|n;cases h
 rw[Mn] at h
 refine Ai Tryz.func41 (by rfl) rfl rfl (Ap rfl) ?_
 intro call hc;conv=>lhs;whnf
 revert h
 refine br ?_ ?_
 exact rz
 exact rz
theorem A12 {n:Nat} ⦃G7:Int⦄ ⦃C7:Int⦄ ⦃Bx:(List Aw)⦄ ⦃Ba:(List Ae)⦄ ⦃Bi:(List Ag)⦄ ⦃r:Bool⦄:Qh n G7 C7 Bx Ba Bi=some r→CN n 39 [iA G7,AV.ptr 0 0] [Ob.var 27 [iA C7,AV.sl 3 (List.map Am Bx),AV.sl 4 (List.map Ad Ba),AV.sl 3 (List.map Aj Bi)]]=some (bA r,[Ob.var 27 [iA C7,AV.sl 3 (List.map Am Bx),AV.sl 4 (List.map Ad Ba),AV.sl 3 (List.map Aj Bi)]]):=by
 intro h;rcases n with _|n;cases h
 rw[Qh] at h
 refine Ai Tryz.func39 (by rfl) rfl rfl (Ap rfl) ?_
 intro call hc;conv=>lhs;whnf
 revert h
 refine ix ?_;intro x1
 refine ca hc (fun _ h=>Gc h) ?_;intro y2
 refine br ?_ ?_
 refine ca hc (fun _ h=>Vj h) ?_;intro y5
 refine br ?_ ?_
 exact rz
 exact rz
 exact rz
theorem A8o {n:Nat} ⦃Cd:Int⦄ ⦃C7:Int⦄ ⦃Bx:(List Aw)⦄ ⦃Ba:(List Ae)⦄ ⦃Bi:(List Ag)⦄ ⦃r:Bool⦄:T5 n Cd C7 Bx Ba Bi=some r→CN n 38 [iA Cd,AV.func 39 [] [AV.ptr 0 0]] [Ob.var 27 [iA C7,AV.sl 3 (List.map Am Bx),AV.sl 4 (List.map Ad Ba),AV.sl 3 (List.map Aj Bi)]]=some (bA r,[Ob.var 27 [iA C7,AV.sl 3 (List.map Am Bx),AV.sl 4 (List.map Ad Ba),AV.sl 3 (List.map Aj Bi)]]):=by
 intro h;rcases n with _|n;cases h
 rw[T5] at h
 refine Ai Tryz.func38 (by rfl) rfl rfl (Ap rfl) ?_
 intro call hc;conv=>lhs;whnf
 revert h
 intro h;refine As h ?_;clear h;intro o9 ho9 h
 refine lq (σ:=Int) (τ:=Unit) (ν:=Bool) 0 (fun s1 a3=>B9 15 [(1,AV.func 39 [] [AV.ptr 0 0]),(6,iA Cd),(7,iA s1)]) (fun s1 a3=>[Ob.var 27 [iA C7,AV.sl 3 (List.map Am Bx),AV.sl 4 (List.map Ad Ba),AV.sl 3 (List.map Aj Bi)]]) (fun _ a14=>B9 15 []) (fun _ a14=>[Ob.var 27 [iA C7,AV.sl 3 (List.map Am Bx),AV.sl 4 (List.map Ad Ba),AV.sl 3 (List.map Aj Bi)]]) (fun v=>(bA v,[Ob.var 27 [iA C7,AV.sl 3 (List.map Am Bx),AV.sl 4 (List.map Ad Ba),AV.sl 3 (List.map Aj Bi)]])) (fun k s=>Lb n Cd C7 Bx Ba Bi k s) (fun s=>rfl) o9 n 0 (fun _=>0) ho9 ?_ ?_
 intro k2 s1 a3 K4 cont5 hK6 hcont7 h hr8
 replace h:Lb n Cd C7 Bx Ba Bi (k2+1) s1=some o9:=h
 rw[Lb] at h
 conv=>lhs;whnf
 revert h
 refine br ?_ ?_
 refine ca hc (fun _ h=>A12 h) ?_;intro y11
 refine br ?_ ?_
 exact fun h=>cq (hcont7 (IntKind.i64.wrap (s1+1)) (fun _=>0) h)
 intro h;cases sj h
 refine(hK6 _ _).trans ?_
 refine Eq.trans ?_ (Eq.symm (show _=some _ from hr8))
 conv=>lhs;whnf
 exact rq
 intro h;cases sj h
 exact kq (hr8 (fun _=>0))
 refine lrc ?_ ?_
 intro v e;subst e;cases sj h;rfl
 intro t a14 e;subst e
 dsimp only at h
 conv=>lhs;whnf
 revert h
 exact rz
theorem A0c {n:Nat} ⦃G7:Int⦄ ⦃Gf:(List UInt8)⦄ ⦃G9:(List (List UInt8))⦄ ⦃Gg:(List A0)⦄ ⦃Kg:Int⦄ ⦃r:Bool⦄:P7 n G7 Gf G9 Gg Kg=some r→CN n 73 [iA G7,AV.ptr 0 0] [Ob.var 39 [sA Gf,AV.sl 1 (List.map Dv G9),AV.sl 9 (List.map A9 Gg),iA Kg]]=some (bA r,[Ob.var 39 [sA Gf,AV.sl 1 (List.map Dv G9),AV.sl 9 (List.map A9 Gg),iA Kg]]):=by
 intro h;rcases n with _|n;cases h
 rw[P7] at h
 refine Ai Tryz.func73 (by rfl) rfl rfl (Ap rfl) ?_
 intro call hc;conv=>lhs;whnf
 revert h
 refine ix ?_;intro x1
 refine ca hc (fun _ h=>Gc h) ?_;intro y2
 exact rz
theorem A4y {n:Nat} ⦃Cd:Int⦄ ⦃Gf:(List UInt8)⦄ ⦃G9:(List (List UInt8))⦄ ⦃Gg:(List A0)⦄ ⦃Kg:Int⦄ ⦃r:Bool⦄:Qt n Cd Gf G9 Gg Kg=some r→CN n 38 [iA Cd,AV.func 73 [] [AV.ptr 0 0]] [Ob.var 39 [sA Gf,AV.sl 1 (List.map Dv G9),AV.sl 9 (List.map A9 Gg),iA Kg]]=some (bA r,[Ob.var 39 [sA Gf,AV.sl 1 (List.map Dv G9),AV.sl 9 (List.map A9 Gg),iA Kg]]):=by
 intro h;rcases n with _|n;cases h
 rw[Qt] at h
 refine Ai Tryz.func38 (by rfl) rfl rfl (Ap rfl) ?_
 intro call hc;conv=>lhs;whnf
 revert h
 intro h;refine As h ?_;clear h;intro o9 ho9 h
 refine lq (σ:=Int) (τ:=Unit) (ν:=Bool) 0 (fun s1 a3=>B9 15 [(1,AV.func 73 [] [AV.ptr 0 0]),(6,iA Cd),(7,iA s1)]) (fun s1 a3=>[Ob.var 39 [sA Gf,AV.sl 1 (List.map Dv G9),AV.sl 9 (List.map A9 Gg),iA Kg]]) (fun _ a14=>B9 15 []) (fun _ a14=>[Ob.var 39 [sA Gf,AV.sl 1 (List.map Dv G9),AV.sl 9 (List.map A9 Gg),iA Kg]]) (fun v=>(bA v,[Ob.var 39 [sA Gf,AV.sl 1 (List.map Dv G9),AV.sl 9 (List.map A9 Gg),iA Kg]])) (fun k s=>Iq n Cd Gf G9 Gg Kg k s) (fun s=>rfl) o9 n 0 (fun _=>0) ho9 ?_ ?_
 intro k2 s1 a3 K4 cont5 hK6 hcont7 h hr8
 replace h:Iq n Cd Gf G9 Gg Kg (k2+1) s1=some o9:=h
 rw[Iq] at h
 conv=>lhs;whnf
 revert h
 refine br ?_ ?_
 refine ca hc (fun _ h=>A0c h) ?_;intro y11
 refine br ?_ ?_
 exact fun h=>cq (hcont7 (IntKind.i64.wrap (s1+1)) (fun _=>0) h)
 intro h;cases sj h
 refine(hK6 _ _).trans ?_
 refine Eq.trans ?_ (Eq.symm (show _=some _ from hr8))
 conv=>lhs;whnf
 exact rq
 intro h;cases sj h
 exact kq (hr8 (fun _=>0))
 refine lrc ?_ ?_
 intro v e;subst e;cases sj h;rfl
 intro t a14 e;subst e
 dsimp only at h
 conv=>lhs;whnf
 revert h
 exact rz
theorem A30 {n:Nat} ⦃En:Ae⦄ ⦃r:Bool⦄:Q1 n En=some r→CN n 43 [AV.agg [sA En.Ao,AV.sl 1 (List.map Dv En.Bh),AV.sl 9 (List.map A9 En.B5),iA En.Ab]] []=some (bA r,[]):=by
 intro h;rcases n with _|n;cases h
 rw[Q1] at h
 refine Ai Tryz.func43 (by rfl) rfl rfl (Ap rfl) ?_
 intro call hc;conv=>lhs;whnf
 revert h
 refine ca hc (fun _ h=>Gc h) ?_;intro y1
 refine br ?_ ?_
 refine br ?_ ?_
 refine ca hc (fun _ h=>X0 h) ?_;intro y5
 refine br ?_ ?_
 refine cr hc (fun _ h=>A4y h) ?_;intro y8
 exact rz
 exact rz
 exact rz
 exact rz
theorem A1n {n:Nat} ⦃G7:Int⦄ ⦃C7:Int⦄ ⦃Bx:(List Aw)⦄ ⦃Ba:(List Ae)⦄ ⦃Bi:(List Ag)⦄ ⦃r:Bool⦄:Qa n G7 C7 Bx Ba Bi=some r→CN n 42 [iA G7,AV.ptr 0 0] [Ob.var 27 [iA C7,AV.sl 3 (List.map Am Bx),AV.sl 4 (List.map Ad Ba),AV.sl 3 (List.map Aj Bi)]]=some (bA r,[Ob.var 27 [iA C7,AV.sl 3 (List.map Am Bx),AV.sl 4 (List.map Ad Ba),AV.sl 3 (List.map Aj Bi)]]):=by
 intro h;rcases n with _|n;cases h
 rw[Qa] at h
 refine Ai Tryz.func42 (by rfl) rfl rfl (Ap rfl) ?_
 intro call hc;conv=>lhs;whnf
 revert h
 refine ix ?_;intro x1
 refine ca hc (fun _ h=>A30 h) ?_;intro y2
 exact rz
theorem A4n {n:Nat} ⦃Cd:Int⦄ ⦃C7:Int⦄ ⦃Bx:(List Aw)⦄ ⦃Ba:(List Ae)⦄ ⦃Bi:(List Ag)⦄ ⦃r:Bool⦄:Qu n Cd C7 Bx Ba Bi=some r→CN n 38 [iA Cd,AV.func 42 [] [AV.ptr 0 0]] [Ob.var 27 [iA C7,AV.sl 3 (List.map Am Bx),AV.sl 4 (List.map Ad Ba),AV.sl 3 (List.map Aj Bi)]]=some (bA r,[Ob.var 27 [iA C7,AV.sl 3 (List.map Am Bx),AV.sl 4 (List.map Ad Ba),AV.sl 3 (List.map Aj Bi)]]):=by
 intro h;rcases n with _|n;cases h
 rw[Qu] at h
 refine Ai Tryz.func38 (by rfl) rfl rfl (Ap rfl) ?_
 intro call hc;conv=>lhs;whnf
 revert h
 intro h;refine As h ?_;clear h;intro o9 ho9 h
 refine lq (σ:=Int) (τ:=Unit) (ν:=Bool) 0 (fun s1 a3=>B9 15 [(1,AV.func 42 [] [AV.ptr 0 0]),(6,iA Cd),(7,iA s1)]) (fun s1 a3=>[Ob.var 27 [iA C7,AV.sl 3 (List.map Am Bx),AV.sl 4 (List.map Ad Ba),AV.sl 3 (List.map Aj Bi)]]) (fun _ a14=>B9 15 []) (fun _ a14=>[Ob.var 27 [iA C7,AV.sl 3 (List.map Am Bx),AV.sl 4 (List.map Ad Ba),AV.sl 3 (List.map Aj Bi)]]) (fun v=>(bA v,[Ob.var 27 [iA C7,AV.sl 3 (List.map Am Bx),AV.sl 4 (List.map Ad Ba),AV.sl 3 (List.map Aj Bi)]])) (fun k s=>Iz n Cd C7 Bx Ba Bi k s) (fun s=>rfl) o9 n 0 (fun _=>0) ho9 ?_ ?_
 intro k2 s1 a3 K4 cont5 hK6 hcont7 h hr8
 replace h:Iz n Cd C7 Bx Ba Bi (k2+1) s1=some o9:=h
 rw[Iz] at h
 conv=>lhs;whnf
 revert h
 refine br ?_ ?_
 refine ca hc (fun _ h=>A1n h) ?_;intro y11
 refine br ?_ ?_
 exact fun h=>cq (hcont7 (IntKind.i64.wrap (s1+1)) (fun _=>0) h)
 intro h;cases sj h
 refine(hK6 _ _).trans ?_
 refine Eq.trans ?_ (Eq.symm (show _=some _ from hr8))
 conv=>lhs;whnf
 exact rq
 intro h;cases sj h
 exact kq (hr8 (fun _=>0))
 refine lrc ?_ ?_
 intro v e;subst e;cases sj h;rfl
 intro t a14 e;subst e
 dsimp only at h
 conv=>lhs;whnf
 revert h
 exact rz
theorem A4l {n:Nat} ⦃E1:Ag⦄ ⦃r:Bool⦄:R8 n E1=some r→CN n 45 [AV.agg [iA E1.A7,AV.sl 5 (List.map A3 E1.Bm),iA E1.Ab]] []=some (bA r,[]):=by
 intro h;rcases n with _|n;cases h
 rw[R8] at h
 refine Ai Tryz.func45 (by rfl) rfl rfl (Ap rfl) ?_
 intro call hc;conv=>lhs;whnf
 revert h
 refine ca hc (fun _ h=>Xd h) ?_;intro y1
 intro h;refine As h ?_;clear h;intro o11 ho11 h
 refine lq (σ:=Int) (τ:=Unit) (ν:=Bool) 0 (fun s3 a5=>B9 31 [(1,AV.ptr 0 0),(7,AV.sl 5 (List.map A3 y1)),(8,iA (((y1.length:Nat):Int))),(9,iA s3)]) (fun s3 a5=>[Ob.var 42 [iA E1.A7,AV.sl 5 (List.map A3 E1.Bm),iA E1.Ab]]) (fun _ a15=>B9 31 [(1,AV.ptr 0 0)]) (fun _ a15=>[Ob.var 42 [iA E1.A7,AV.sl 5 (List.map A3 E1.Bm),iA E1.Ab]]) (fun v=>(bA v,[])) (fun k s=>Jn n y1 k s) (fun s=>rfl) o11 n 0 (fun _=>0) ho11 ?_ ?_
 intro k4 s3 a5 K6 cont7 hK8 hcont9 h hr10
 replace h:Jn n y1 (k4+1) s3=some o11:=h
 rw[Jn] at h
 conv=>lhs;whnf
 revert h
 refine br ?_ ?_
 refine ix ?_;intro x13
 refine br ?_ ?_
 intro h;cases sj h
 refine(hK8 _ _).trans ?_
 refine Eq.trans ?_ (Eq.symm (show _=some _ from hr10))
 conv=>lhs;whnf
 exact rq
 exact fun h=>cq (hcont9 (IntKind.i64.wrap (s3+1)) (fun _=>0) h)
 intro h;cases sj h
 exact kq (hr10 (fun _=>0))
 refine lrc ?_ ?_
 intro v e;subst e;cases sj h;rfl
 intro t a15 e;subst e
 dsimp only at h
 conv=>lhs;whnf
 revert h
 refine ca hc (fun _ h=>Tt h) ?_;intro y16
 refine br ?_ ?_
 exact rz
 refine ca hc (fun _ h=>So h) ?_;intro y19
 refine br ?_ ?_
 exact rz
 exact rz
theorem A1x {n:Nat} ⦃G7:Int⦄ ⦃C7:Int⦄ ⦃Bx:(List Aw)⦄ ⦃Ba:(List Ae)⦄ ⦃Bi:(List Ag)⦄ ⦃r:Bool⦄:Qi n G7 C7 Bx Ba Bi=some r→CN n 44 [iA G7,AV.ptr 0 0] [Ob.var 27 [iA C7,AV.sl 3 (List.map Am Bx),AV.sl 4 (List.map Ad Ba),AV.sl 3 (List.map Aj Bi)]]=some (bA r,[Ob.var 27 [iA C7,AV.sl 3 (List.map Am Bx),AV.sl 4 (List.map Ad Ba),AV.sl 3 (List.map Aj Bi)]]):=by
 intro h;rcases n with _|n;cases h
 rw[Qi] at h
 refine Ai Tryz.func44 (by rfl) rfl rfl (Ap rfl) ?_
 intro call hc;conv=>lhs;whnf
 revert h
 refine ix ?_;intro x1
 refine ca hc (fun _ h=>A4l h) ?_;intro y2
 exact rz
theorem A4v {n:Nat} ⦃Cd:Int⦄ ⦃C7:Int⦄ ⦃Bx:(List Aw)⦄ ⦃Ba:(List Ae)⦄ ⦃Bi:(List Ag)⦄ ⦃r:Bool⦄:R6 n Cd C7 Bx Ba Bi=some r→CN n 38 [iA Cd,AV.func 44 [] [AV.ptr 0 0]] [Ob.var 27 [iA C7,AV.sl 3 (List.map Am Bx),AV.sl 4 (List.map Ad Ba),AV.sl 3 (List.map Aj Bi)]]=some (bA r,[Ob.var 27 [iA C7,AV.sl 3 (List.map Am Bx),AV.sl 4 (List.map Ad Ba),AV.sl 3 (List.map Aj Bi)]]):=by
 intro h;rcases n with _|n;cases h
 rw[R6] at h
 refine Ai Tryz.func38 (by rfl) rfl rfl (Ap rfl) ?_
 intro call hc;conv=>lhs;whnf
 revert h
 intro h;refine As h ?_;clear h;intro o9 ho9 h
 refine lq (σ:=Int) (τ:=Unit) (ν:=Bool) 0 (fun s1 a3=>B9 15 [(1,AV.func 44 [] [AV.ptr 0 0]),(6,iA Cd),(7,iA s1)]) (fun s1 a3=>[Ob.var 27 [iA C7,AV.sl 3 (List.map Am Bx),AV.sl 4 (List.map Ad Ba),AV.sl 3 (List.map Aj Bi)]]) (fun _ a14=>B9 15 []) (fun _ a14=>[Ob.var 27 [iA C7,AV.sl 3 (List.map Am Bx),AV.sl 4 (List.map Ad Ba),AV.sl 3 (List.map Aj Bi)]]) (fun v=>(bA v,[Ob.var 27 [iA C7,AV.sl 3 (List.map Am Bx),AV.sl 4 (List.map Ad Ba),AV.sl 3 (List.map Aj Bi)]])) (fun k s=>Iu n Cd C7 Bx Ba Bi k s) (fun s=>rfl) o9 n 0 (fun _=>0) ho9 ?_ ?_
 intro k2 s1 a3 K4 cont5 hK6 hcont7 h hr8
 replace h:Iu n Cd C7 Bx Ba Bi (k2+1) s1=some o9:=h
 rw[Iu] at h
 conv=>lhs;whnf
 revert h
 refine br ?_ ?_
 refine ca hc (fun _ h=>A1x h) ?_;intro y11
 refine br ?_ ?_
 exact fun h=>cq (hcont7 (IntKind.i64.wrap (s1+1)) (fun _=>0) h)
 intro h;cases sj h
 refine(hK6 _ _).trans ?_
 refine Eq.trans ?_ (Eq.symm (show _=some _ from hr8))
 conv=>lhs;whnf
 exact rq
 intro h;cases sj h
 exact kq (hr8 (fun _=>0))
 refine lrc ?_ ?_
 intro v e;subst e;cases sj h;rfl
 intro t a14 e;subst e
 dsimp only at h
 conv=>lhs;whnf
 revert h
 exact rz
theorem Ua {n:Nat} ⦃At:Az⦄ ⦃r:Bool⦄:Mo n At=some r→CN n 10 [AV.agg [iA At.Bo,AV.sl 3 (List.map Am At.B0),AV.sl 4 (List.map Ad At.Ak),AV.sl 3 (List.map Aj At.Ar)]] []=some (bA r,[]):=by
 intro h;rcases n with _|n;cases h
 rw[Mo] at h
 refine Ai Tryz.func10 (by rfl) rfl rfl (Ap rfl) ?_
 intro call hc;conv=>lhs;whnf
 revert h
 refine cr hc (fun _ h=>A8o h) ?_;intro y1
 refine ca hc (fun _ h=>Vj h) ?_;intro y3
 refine br ?_ ?_
 refine br ?_ ?_
 refine cr hc (fun _ h=>A4n h) ?_;intro y7
 refine br ?_ ?_
 refine cr hc (fun _ h=>A4v h) ?_;intro y10
 exact rz
 exact rz
 exact rz
 exact rz
def N6 (n:Nat):Prop:=∀ ⦃Cd:Int⦄ ⦃r:(List UInt8)⦄,Im n Cd=some r→CN n 46 [iA Cd] []=some (sA r,[])
def R5 (n:Nat):Prop:=N6 n
theorem A1b (n:Nat) (ih:R5 n):N6 (n+1):=by
 intro Cd r h
 rw[Im] at h
 refine Ai Tryz.func46 (by rfl) rfl rfl (Ap rfl) ?_
 intro call hc;conv=>lhs;whnf
 revert h
 refine br ?_ ?_
 exact rz
 refine ca hc (fun _ h=>ih h) ?_;intro y2
 intro h
 refine B6 h ?_;clear h;intro hc4 h
 refine B4 hc4 ?_
 try simp only[ls]
 conv=>lhs;whnf
 revert h
 exact rz
theorem Tv:∀ n,R5 n
 | 0=>by unfold R5 N6;intros;rename_i h;exact absurd h (by intro h;cases h)
 | n+1=>have ih:=Tv n
   A1b n ih
theorem Uf {n:Nat}:N6 n:=(Tv n)
theorem Yo {n:Nat} ⦃At:Az⦄ ⦃r:(List UInt8)⦄:Pe n At=some r→CN n 11 [AV.agg [iA At.Bo,AV.sl 3 (List.map Am At.B0),AV.sl 4 (List.map Ad At.Ak),AV.sl 3 (List.map Aj At.Ar)]] []=some (sA r,[]):=by
 intro h;rcases n with _|n;cases h
 rw[Pe] at h
 refine Ai Tryz.func11 (by rfl) rfl rfl (Ap rfl) ?_
 intro call hc;conv=>lhs;whnf
 revert h
 refine ca hc (fun _ h=>Ua h) ?_;intro y1
 refine br ?_ ?_
 refine ca hc (fun _ h=>Uf h) ?_;intro y4
 intro h
 refine B6 h ?_;clear h;intro hc6 h
 refine B4 hc6 ?_
 try simp only[ls]
 conv=>lhs;whnf
 revert h
 intro h
 refine B6 h ?_;clear h;intro hc7 h
 refine B4 hc7 ?_
 try simp only[ls]
 conv=>lhs;whnf
 revert h
 intro h;refine As h ?_;clear h;intro o17 ho17 h
 refine lq (σ:=((List UInt8)×Int)) (τ:=(List UInt8)) (ν:=(List UInt8)) 0 (fun(s8,s9) a11=>B9 99 [(1,AV.ptr 0 0),(3,sA s8),(22,AV.sl 3 (List.map Am At.B0)),(23,iA (((At.B0.length:Nat):Int))),(24,iA s9)]) (fun(s8,s9) a11=>[Ob.var 27 [iA At.Bo,AV.sl 3 (List.map Am At.B0),AV.sl 4 (List.map Ad At.Ak),AV.sl 3 (List.map Aj At.Ar)]]) (fun x28 a27=>B9 99 [(1,AV.ptr 0 0),(3,sA x28)]) (fun x28 a27=>[Ob.var 27 [iA At.Bo,AV.sl 3 (List.map Am At.B0),AV.sl 4 (List.map Ad At.Ak),AV.sl 3 (List.map Aj At.Ar)]]) (fun v=>(sA v,[])) (fun k s=>Jr n At k s.1 s.2) (fun s=>rfl) o17 n (((([109,111,100,32]:List UInt8)++y4)++([59,10]:List UInt8)),0) (fun _=>0) ho17 ?_ ?_
 intro k10 ss a11 K12 cont13 hK14 hcont15 h hr16
 obtain⟨s8,s9⟩:=ss
 replace h:Jr n At (k10+1) s8 s9=some o17:=h
 rw[Jr] at h
 conv=>lhs;whnf
 revert h
 refine br ?_ ?_
 refine ix ?_;intro x19
 intro h
 refine B6 h ?_;clear h;intro hc20 h
 refine B4 hc20 ?_
 try simp only[ls]
 conv=>lhs;whnf
 revert h
 intro h
 refine B6 h ?_;clear h;intro hc21 h
 refine B4 hc21 ?_
 try simp only[ls]
 conv=>lhs;whnf
 revert h
 refine ca hc (fun _ h=>Uf h) ?_;intro y22
 intro h
 refine B6 h ?_;clear h;intro hc24 h
 refine B4 hc24 ?_
 try simp only[ls]
 conv=>lhs;whnf
 revert h
 intro h
 refine B6 h ?_;clear h;intro hc25 h
 refine B4 hc25 ?_
 try simp only[ls]
 conv=>lhs;whnf
 revert h
 intro h
 refine B6 h ?_;clear h;intro hc26 h
 refine B4 hc26 ?_
 try simp only[ls]
 conv=>lhs;whnf
 revert h
 exact fun h=>cq (hcont15 ((s8++((((([108,111,99,32]:List UInt8)++x19.Ao)++([32,61,32]:List UInt8))++y22)++([59,10]:List UInt8))),IntKind.i64.wrap (s9+1)) (fun _=>0) h)
 intro h;cases sj h
 exact kq (hr16 (fun _=>0))
 refine lrc ?_ ?_
 intro v e;subst e;cases sj h;rfl
 intro x28 a27 e;subst e
 dsimp only at h
 conv=>lhs;whnf
 revert h
 intro h;refine As h ?_;clear h;intro o38 ho38 h
 refine lq (σ:=((List UInt8)×Int)) (τ:=(List UInt8)) (ν:=(List UInt8)) 2 (fun(s29,s30) a32=>B9 99 [(1,AV.ptr 0 0),(3,sA s29),(41,AV.sl 4 (List.map Ad At.Ak)),(42,iA (((At.Ak.length:Nat):Int))),(43,iA s30)]) (fun(s29,s30) a32=>[Ob.var 27 [iA At.Bo,AV.sl 3 (List.map Am At.B0),AV.sl 4 (List.map Ad At.Ak),AV.sl 3 (List.map Aj At.Ar)]]) (fun x73 a72=>B9 99 [(1,AV.ptr 0 0),(3,sA x73)]) (fun x73 a72=>[Ob.var 27 [iA At.Bo,AV.sl 3 (List.map Am At.B0),AV.sl 4 (List.map Ad At.Ak),AV.sl 3 (List.map Aj At.Ar)]]) (fun v=>(sA v,[])) (fun k s=>Id n At k s.1 s.2) (fun s=>rfl) o38 n (x28,0) (fun _=>0) ho38 ?_ ?_
 intro k31 ss a32 K33 cont34 hK35 hcont36 h hr37
 obtain⟨s29,s30⟩:=ss
 replace h:Id n At (k31+1) s29 s30=some o38:=h
 rw[Id] at h
 conv=>lhs;whnf
 revert h
 refine br ?_ ?_
 refine ix ?_;intro x40
 intro h
 refine B6 h ?_;clear h;intro hc41 h
 refine B4 hc41 ?_
 try simp only[ls]
 conv=>lhs;whnf
 revert h
 intro h
 refine B6 h ?_;clear h;intro hc42 h
 refine B4 hc42 ?_
 try simp only[ls]
 conv=>lhs;whnf
 revert h
 intro h
 refine B6 h ?_;clear h;intro hc43 h
 refine B4 hc43 ?_
 try simp only[ls]
 conv=>lhs;whnf
 revert h
 intro h;refine As h ?_;clear h;intro o54 ho54 h
 refine lq (σ:=((List UInt8)×(List UInt8)×Int)) (τ:=(List UInt8)) (ν:=(List UInt8)) 4 (fun(s44,s45,s46) a48=>B9 99 [(1,AV.ptr 0 0),(3,sA s44),(7,AV.ptr 1 0),(8,sA s45),(41,AV.sl 4 (List.map Ad At.Ak)),(42,iA (((At.Ak.length:Nat):Int))),(43,iA s30),(54,AV.sl 1 (List.map Dv x40.Bh)),(55,iA (((x40.Bh.length:Nat):Int))),(56,iA s46)]) (fun(s44,s45,s46) a48=>[Ob.var 27 [iA At.Bo,AV.sl 3 (List.map Am At.B0),AV.sl 4 (List.map Ad At.Ak),AV.sl 3 (List.map Aj At.Ar)],Ob.var 39 [sA x40.Ao,AV.sl 1 (List.map Dv x40.Bh),AV.sl 9 (List.map A9 x40.B5),iA x40.Ab]]) (fun x60 a59=>B9 99 [(1,AV.ptr 0 0),(3,sA x60),(7,AV.ptr 1 0),(41,AV.sl 4 (List.map Ad At.Ak)),(42,iA (((At.Ak.length:Nat):Int))),(43,iA s30)]) (fun x60 a59=>[Ob.var 27 [iA At.Bo,AV.sl 3 (List.map Am At.B0),AV.sl 4 (List.map Ad At.Ak),AV.sl 3 (List.map Aj At.Ar)],Ob.var 39 [sA x40.Ao,AV.sl 1 (List.map Dv x40.Bh),AV.sl 9 (List.map A9 x40.B5),iA x40.Ab]]) (fun v=>(sA v,[])) (fun k s=>Ie n x40 k s.1 s.2.1 s.2.2) (fun s=>rfl) o54 n ((s29++((([116,104,114,101,97,100,32]:List UInt8)++x40.Ao)++([32,123,10]:List UInt8))),([32,32,114,101,103,32]:List UInt8),0) (fun _=>0) ho54 ?_ ?_
 intro k47 ss a48 K49 cont50 hK51 hcont52 h hr53
 obtain⟨s44,s45,s46⟩:=ss
 replace h:Ie n x40 (k47+1) s44 s45 s46=some o54:=h
 rw[Ie] at h
 conv=>lhs;whnf
 revert h
 refine br ?_ ?_
 refine ix ?_;intro x56
 intro h
 refine B6 h ?_;clear h;intro hc57 h
 refine B4 hc57 ?_
 try simp only[ls]
 conv=>lhs;whnf
 revert h
 intro h
 refine B6 h ?_;clear h;intro hc58 h
 refine B4 hc58 ?_
 try simp only[ls]
 conv=>lhs;whnf
 revert h
 exact fun h=>cq (hcont52 ((s44++(s45++x56)),([44,32]:List UInt8),IntKind.i64.wrap (s46+1)) (fun _=>0) h)
 intro h;cases sj h
 exact kq (hr53 (fun _=>0))
 refine lrc ?_ ?_
 intro v e;subst e;cases sj h;exact hr37
 intro x60 a59 e;subst e
 dsimp only at h
 conv=>lhs;whnf
 revert h
 refine br ?_ ?_
 intro h
 refine B6 h ?_;clear h;intro hc62 h
 refine B4 hc62 ?_
 try simp only[ls]
 conv=>lhs;whnf
 revert h
 refine ca hc (fun _ h=>Yh h) ?_;intro y63
 intro h
 refine B6 h ?_;clear h;intro hc65 h
 refine B4 hc65 ?_
 try simp only[ls]
 conv=>lhs;whnf
 revert h
 intro h
 refine B6 h ?_;clear h;intro hc66 h
 refine B4 hc66 ?_
 try simp only[ls]
 conv=>lhs;whnf
 revert h
 exact fun h=>cq (hcont36 (((x60++([59,10]:List UInt8))++(y63++([125,10]:List UInt8))),IntKind.i64.wrap (s30+1)) (fun _=>0) h)
 refine ca hc (fun _ h=>Yh h) ?_;intro y67
 intro h
 refine B6 h ?_;clear h;intro hc69 h
 refine B4 hc69 ?_
 try simp only[ls]
 conv=>lhs;whnf
 revert h
 intro h
 refine B6 h ?_;clear h;intro hc70 h
 refine B4 hc70 ?_
 try simp only[ls]
 conv=>lhs;whnf
 revert h
 exact fun h=>cq (hcont36 ((x60++(y67++([125,10]:List UInt8))),IntKind.i64.wrap (s30+1)) (fun _=>0) h)
 intro h;cases sj h
 exact kq (hr37 (fun _=>0))
 refine lrc ?_ ?_
 intro v e;subst e;cases sj h;rfl
 intro x73 a72 e;subst e
 dsimp only at h
 conv=>lhs;whnf
 revert h
 intro h;refine As h ?_;clear h;intro o83 ho83 h
 refine lq (σ:=((List UInt8)×Int)) (τ:=(List UInt8)) (ν:=(List UInt8)) 6 (fun(s74,s75) a77=>B9 99 [(3,sA s74),(80,AV.sl 3 (List.map Aj At.Ar)),(81,iA (((At.Ar.length:Nat):Int))),(82,iA s75)]) (fun(s74,s75) a77=>[Ob.var 27 [iA At.Bo,AV.sl 3 (List.map Am At.B0),AV.sl 4 (List.map Ad At.Ak),AV.sl 3 (List.map Aj At.Ar)]]) (fun x95 a94=>B9 99 [(3,sA x95)]) (fun x95 a94=>[Ob.var 27 [iA At.Bo,AV.sl 3 (List.map Am At.B0),AV.sl 4 (List.map Ad At.Ak),AV.sl 3 (List.map Aj At.Ar)]]) (fun v=>(sA v,[])) (fun k s=>K0 n At k s.1 s.2) (fun s=>rfl) o83 n (x73,0) (fun _=>0) ho83 ?_ ?_
 intro k76 ss a77 K78 cont79 hK80 hcont81 h hr82
 obtain⟨s74,s75⟩:=ss
 replace h:K0 n At (k76+1) s74 s75=some o83:=h
 rw[K0] at h
 conv=>lhs;whnf
 revert h
 refine br ?_ ?_
 refine ix ?_;intro x85
 refine ca hc (fun _ h=>Tt h) ?_;intro y86
 intro h
 refine B6 h ?_;clear h;intro hc88 h
 refine B4 hc88 ?_
 try simp only[ls]
 conv=>lhs;whnf
 revert h
 refine ca hc (fun _ h=>Tz h) ?_;intro y89
 intro h
 refine B6 h ?_;clear h;intro hc91 h
 refine B4 hc91 ?_
 try simp only[ls]
 conv=>lhs;whnf
 revert h
 intro h
 refine B6 h ?_;clear h;intro hc92 h
 refine B4 hc92 ?_
 try simp only[ls]
 conv=>lhs;whnf
 revert h
 intro h
 refine B6 h ?_;clear h;intro hc93 h
 refine B4 hc93 ?_
 try simp only[ls]
 conv=>lhs;whnf
 revert h
 exact fun h=>cq (hcont81 ((s74++(((y86++([32]:List UInt8))++y89)++([59,10]:List UInt8))),IntKind.i64.wrap (s75+1)) (fun _=>0) h)
 intro h;cases sj h
 exact kq (hr82 (fun _=>0))
 refine lrc ?_ ?_
 intro v e;subst e;cases sj h;rfl
 intro x95 a94 e;subst e
 dsimp only at h
 conv=>lhs;whnf
 revert h
 exact rz
 exact rz
theorem W1 {n:Nat} ⦃r:(List UInt8)⦄:Pt n=some r→CN n 12 [] []=some (sA r,[]):=by
 intro h;rcases n with _|n;cases h
 rw[Pt] at h
 refine Ai Tryz.func12 (by rfl) rfl rfl (Ap rfl) ?_
 intro call hc;conv=>lhs;whnf
 revert h
 exact rz
theorem Rt {n:Nat} ⦃r:Bool⦄:Ir n=some r→CN n 5 [] []=some (bA r,[]):=by
 intro h;rcases n with _|n;cases h
 rw[Ir] at h
 refine Ai Tryz.func5 (by rfl) rfl rfl (Ap rfl) ?_
 intro call hc;conv=>lhs;whnf
 revert h
 refine ca hc (fun _ h=>W1 h) ?_;intro y1
 refine ca hc (fun _ h=>Mc h) ?_;intro y3
 refine ca hc (fun _ h=>Mc h) ?_;intro y5
 refine ca hc (fun _ h=>Mc h) ?_;intro y7
 refine cr hc (fun _ h=>Mc h) ?_;intro y9
 refine br ?_ ?_
 exact rz
 refine br ?_ ?_
 exact rz
 refine br ?_ ?_
 exact rz
 refine br ?_ ?_
 exact rz
 refine br ?_ ?_
 exact rz
 refine ix ?_;intro x16
 refine br ?_ ?_
 exact rz
 refine ix ?_;intro x18
 refine br ?_ ?_
 exact rz
 refine ca hc (fun _ h=>A6v h) ?_;intro y20
 refine ix ?_;intro x22
 refine br ?_ ?_
 refine br ?_ ?_
 refine ix ?_;intro x25
 refine br ?_ ?_
 refine ix ?_;intro x27
 refine ix ?_;intro x28
 refine br ?_ ?_
 refine br ?_ ?_
 refine br ?_ ?_
 refine br ?_ ?_
 refine br ?_ ?_
 refine br ?_ ?_
 refine br ?_ ?_
 refine ca hc (fun _ h=>Yo h) ?_;intro y36
 refine ca hc (fun _ h=>W1 h) ?_;intro y38
 refine br ?_ ?_
 refine ca hc (fun _ h=>Ua h) ?_;intro y41
 exact rz
 exact rz
 exact rz
 exact rz
 exact rz
 exact rz
 exact rz
 exact rz
 exact rz
 exact rz
 exact rz
 exact rz
theorem A28 {n:Nat} ⦃Aa:(List A2)⦄ ⦃r:Bool⦄:Sm n Aa=some r→CN n 37 [AV.sl 5 (List.map A3 Aa)] []=some (bA r,[]):=by
 intro h;rcases n with _|n;cases h
 rw[Sm] at h
 refine Ai Tryz.func37 (by rfl) rfl rfl (Ap rfl) ?_
 intro call hc;conv=>lhs;whnf
 revert h
 refine br ?_ ?_
 exact rz
 intro h;refine As h ?_;clear h;intro o10 ho10 h
 refine lq (σ:=Int) (τ:=Unit) (ν:=Bool) 0 (fun s2 a4=>B9 29 [(0,AV.sl 5 (List.map A3 Aa)),(3,iA s2)]) (fun s2 a4=>[]) (fun _ a16=>B9 29 []) (fun _ a16=>[]) (fun v=>(bA v,[])) (fun k s=>On n Aa k s) (fun s=>rfl) o10 n 0 (fun _=>0) ho10 ?_ ?_
 intro k3 s2 a4 K5 cont6 hK7 hcont8 h hr9
 replace h:On n Aa (k3+1) s2=some o10:=h
 rw[On] at h
 conv=>lhs;whnf
 revert h
 refine br ?_ ?_
 refine ix ?_;intro x12
 refine br ?_ ?_
 intro h;cases sj h
 refine(hK7 _ _).trans ?_
 refine Eq.trans ?_ (Eq.symm (show _=some _ from hr9))
 conv=>lhs;whnf
 exact rq
 refine ix ?_;intro x14
 refine br ?_ ?_
 intro h;cases sj h
 refine(hK7 _ _).trans ?_
 refine Eq.trans ?_ (Eq.symm (show _=some _ from hr9))
 conv=>lhs;whnf
 exact rq
 exact fun h=>cq (hcont8 (IntKind.i64.wrap (s2+1)) (fun _=>0) h)
 intro h;cases sj h
 exact kq (hr9 (fun _=>0))
 refine lrc ?_ ?_
 intro v e;subst e;cases sj h;rfl
 intro t a16 e;subst e
 dsimp only at h
 conv=>lhs;whnf
 revert h
 exact rz
theorem Mh {n:Nat} ⦃Bp:(List A2)⦄ ⦃Bt:(List A2)⦄ ⦃Er:Bool⦄ ⦃r:Bool⦄:Hh n Bp Bt Er=some r→CN n 35 [AV.sl 5 (List.map A3 Bp),AV.sl 5 (List.map A3 Bt),bA Er] []=some (bA r,[]):=by
 intro h;rcases n with _|n;cases h
 rw[Hh] at h
 refine Ai Tryz.func35 (by rfl) rfl rfl (Ap rfl) ?_
 intro call hc;conv=>lhs;whnf
 revert h
 refine br ?_ ?_
 exact rz
 intro h;refine As h ?_;clear h;intro o11 ho11 h
 refine lq (σ:=(Bool×Int)) (τ:=Unit) (ν:=Bool) 0 (fun(s2,s3) a5=>B9 85 [(0,AV.sl 5 (List.map A3 Bp)),(1,AV.sl 5 (List.map A3 Bt)),(2,bA s2),(7,iA s3)]) (fun(s2,s3) a5=>[]) (fun _ a29=>B9 85 []) (fun _ a29=>[]) (fun v=>(bA v,[])) (fun k s=>Fz n Bp Bt k s.1 s.2) (fun s=>rfl) o11 n (Er,0) (fun _=>0) ho11 ?_ ?_
 intro k4 ss a5 K6 cont7 hK8 hcont9 h hr10
 obtain⟨s2,s3⟩:=ss
 replace h:Fz n Bp Bt (k4+1) s2 s3=some o11:=h
 rw[Fz] at h
 conv=>lhs;whnf
 revert h
 refine br ?_ ?_
 refine ix ?_;intro x13
 refine ix ?_;intro x14
 refine br ?_ ?_
 intro h;cases sj h
 refine(hK8 _ _).trans ?_
 refine Eq.trans ?_ (Eq.symm (show _=some _ from hr10))
 conv=>lhs;whnf
 exact rq
 refine ix ?_;intro x16
 refine ix ?_;intro x17
 refine br ?_ ?_
 intro h;cases sj h
 refine(hK8 _ _).trans ?_
 refine Eq.trans ?_ (Eq.symm (show _=some _ from hr10))
 conv=>lhs;whnf
 exact rq
 refine ix ?_;intro x19
 refine ix ?_;intro x20
 refine br ?_ ?_
 refine ix ?_;intro x22
 refine ix ?_;intro x23
 refine br ?_ ?_
 refine br ?_ ?_
 refine ix ?_;intro x26
 refine ix ?_;intro x27
 refine br ?_ ?_
 intro h;cases sj h
 refine(hK8 _ _).trans ?_
 refine Eq.trans ?_ (Eq.symm (show _=some _ from hr10))
 conv=>lhs;whnf
 exact rq
 exact fun h=>cq (hcont9 (true,IntKind.i64.wrap (s3+1)) (fun _=>0) h)
 exact fun h=>cq (hcont9 (false,IntKind.i64.wrap (s3+1)) (fun _=>0) h)
 intro h;cases sj h
 refine(hK8 _ _).trans ?_
 refine Eq.trans ?_ (Eq.symm (show _=some _ from hr10))
 conv=>lhs;whnf
 exact rq
 intro h;cases sj h
 refine(hK8 _ _).trans ?_
 refine Eq.trans ?_ (Eq.symm (show _=some _ from hr10))
 conv=>lhs;whnf
 exact rq
 intro h;cases sj h
 exact kq (hr10 (fun _=>0))
 refine lrc ?_ ?_
 intro v e;subst e;cases sj h;rfl
 intro t a29 e;subst e
 dsimp only at h
 conv=>lhs;whnf
 revert h
 exact rz
theorem Ajz {n:Nat} ⦃Aa:(List A0)⦄ ⦃r:Bool⦄:X5 n Aa=some r→CN n 36 [AV.sl 9 (List.map A9 Aa)] []=some (bA r,[]):=by
 intro h;rcases n with _|n;cases h
 rw[X5] at h
 refine Ai Tryz.func36 (by rfl) rfl rfl (Ap rfl) ?_
 intro call hc;conv=>lhs;whnf
 revert h
 refine br ?_ ?_
 exact rz
 intro h;refine As h ?_;clear h;intro o10 ho10 h
 refine lq (σ:=Int) (τ:=Unit) (ν:=Bool) 0 (fun s2 a4=>B9 47 [(0,AV.sl 9 (List.map A9 Aa)),(3,iA s2)]) (fun s2 a4=>[]) (fun _ a24=>B9 47 []) (fun _ a24=>[]) (fun v=>(bA v,[])) (fun k s=>O9 n Aa k s) (fun s=>rfl) o10 n 0 (fun _=>0) ho10 ?_ ?_
 intro k3 s2 a4 K5 cont6 hK7 hcont8 h hr9
 replace h:O9 n Aa (k3+1) s2=some o10:=h
 rw[O9] at h
 conv=>lhs;whnf
 revert h
 refine br ?_ ?_
 refine ix ?_;intro x12
 refine br ?_ ?_
 intro h;cases sj h
 refine(hK7 _ _).trans ?_
 refine Eq.trans ?_ (Eq.symm (show _=some _ from hr9))
 conv=>lhs;whnf
 exact rq
 refine ix ?_;intro x14
 refine br ?_ ?_
 intro h;cases sj h
 refine(hK7 _ _).trans ?_
 refine Eq.trans ?_ (Eq.symm (show _=some _ from hr9))
 conv=>lhs;whnf
 exact rq
 refine ix ?_;intro x16
 refine ca hc (fun _ h=>A28 h) ?_;intro y17
 refine br ?_ ?_
 refine ix ?_;intro x20
 refine ca hc (fun _ h=>A28 h) ?_;intro y21
 refine br ?_ ?_
 exact fun h=>cq (hcont8 (IntKind.i64.wrap (s2+1)) (fun _=>0) h)
 intro h;cases sj h
 refine(hK7 _ _).trans ?_
 refine Eq.trans ?_ (Eq.symm (show _=some _ from hr9))
 conv=>lhs;whnf
 exact rq
 intro h;cases sj h
 refine(hK7 _ _).trans ?_
 refine Eq.trans ?_ (Eq.symm (show _=some _ from hr9))
 conv=>lhs;whnf
 exact rq
 intro h;cases sj h
 exact kq (hr9 (fun _=>0))
 refine lrc ?_ ?_
 intro v e;subst e;cases sj h;rfl
 intro t a24 e;subst e
 dsimp only at h
 conv=>lhs;whnf
 revert h
 exact rz
theorem A50 {n:Nat} ⦃Bp:(List A0)⦄ ⦃Bt:(List A0)⦄ ⦃Er:Bool⦄ ⦃r:Bool⦄:O2 n Bp Bt Er=some r→CN n 34 [AV.sl 9 (List.map A9 Bp),AV.sl 9 (List.map A9 Bt),bA Er] []=some (bA r,[]):=by
 intro h;rcases n with _|n;cases h
 rw[O2] at h
 refine Ai Tryz.func34 (by rfl) rfl rfl (Ap rfl) ?_
 intro call hc;conv=>lhs;whnf
 revert h
 refine br ?_ ?_
 exact rz
 intro h;refine As h ?_;clear h;intro o11 ho11 h
 refine lq (σ:=(Bool×Int)) (τ:=Unit) (ν:=Bool) 0 (fun(s2,s3) a5=>B9 97 [(0,AV.sl 9 (List.map A9 Bp)),(1,AV.sl 9 (List.map A9 Bt)),(2,bA s2),(7,iA s3)]) (fun(s2,s3) a5=>[]) (fun _ a35=>B9 97 []) (fun _ a35=>[]) (fun v=>(bA v,[])) (fun k s=>Fv n Bp Bt k s.1 s.2) (fun s=>rfl) o11 n (Er,0) (fun _=>0) ho11 ?_ ?_
 intro k4 ss a5 K6 cont7 hK8 hcont9 h hr10
 obtain⟨s2,s3⟩:=ss
 replace h:Fv n Bp Bt (k4+1) s2 s3=some o11:=h
 rw[Fv] at h
 conv=>lhs;whnf
 revert h
 refine br ?_ ?_
 refine ix ?_;intro x13
 refine ix ?_;intro x14
 refine br ?_ ?_
 intro h;cases sj h
 refine(hK8 _ _).trans ?_
 refine Eq.trans ?_ (Eq.symm (show _=some _ from hr10))
 conv=>lhs;whnf
 exact rq
 refine br ?_ ?_
 refine br ?_ ?_
 refine br ?_ ?_
 refine br ?_ ?_
 intro h;cases sj h
 refine(hK8 _ _).trans ?_
 refine Eq.trans ?_ (Eq.symm (show _=some _ from hr10))
 conv=>lhs;whnf
 exact rq
 refine br ?_ ?_
 intro h;cases sj h
 refine(hK8 _ _).trans ?_
 refine Eq.trans ?_ (Eq.symm (show _=some _ from hr10))
 conv=>lhs;whnf
 exact rq
 refine br ?_ ?_
 refine br ?_ ?_
 intro h;cases sj h
 refine(hK8 _ _).trans ?_
 refine Eq.trans ?_ (Eq.symm (show _=some _ from hr10))
 conv=>lhs;whnf
 exact rq
 refine ca hc (fun _ h=>Mh h) ?_;intro y23
 refine br ?_ ?_
 refine ca hc (fun _ h=>Mh h) ?_;intro y26
 refine br ?_ ?_
 exact fun h=>cq (hcont9 (true,IntKind.i64.wrap (s3+1)) (fun _=>0) h)
 intro h;cases sj h
 refine(hK8 _ _).trans ?_
 refine Eq.trans ?_ (Eq.symm (show _=some _ from hr10))
 conv=>lhs;whnf
 exact rq
 intro h;cases sj h
 refine(hK8 _ _).trans ?_
 refine Eq.trans ?_ (Eq.symm (show _=some _ from hr10))
 conv=>lhs;whnf
 exact rq
 refine ca hc (fun _ h=>Mh h) ?_;intro y29
 refine br ?_ ?_
 refine ca hc (fun _ h=>Mh h) ?_;intro y32
 refine br ?_ ?_
 exact fun h=>cq (hcont9 (false,IntKind.i64.wrap (s3+1)) (fun _=>0) h)
 intro h;cases sj h
 refine(hK8 _ _).trans ?_
 refine Eq.trans ?_ (Eq.symm (show _=some _ from hr10))
 conv=>lhs;whnf
 exact rq
 intro h;cases sj h
 refine(hK8 _ _).trans ?_
 refine Eq.trans ?_ (Eq.symm (show _=some _ from hr10))
 conv=>lhs;whnf
 exact rq
 intro h;cases sj h
 refine(hK8 _ _).trans ?_
 refine Eq.trans ?_ (Eq.symm (show _=some _ from hr10))
 conv=>lhs;whnf
 exact rq
 intro h;cases sj h
 refine(hK8 _ _).trans ?_
 refine Eq.trans ?_ (Eq.symm (show _=some _ from hr10))
 conv=>lhs;whnf
 exact rq
 intro h;cases sj h
 refine(hK8 _ _).trans ?_
 refine Eq.trans ?_ (Eq.symm (show _=some _ from hr10))
 conv=>lhs;whnf
 exact rq
 intro h;cases sj h
 exact kq (hr10 (fun _=>0))
 refine lrc ?_ ?_
 intro v e;subst e;cases sj h;rfl
 intro t a35 e;subst e
 dsimp only at h
 conv=>lhs;whnf
 revert h
 exact rz
theorem Ajh {n:Nat} ⦃At:Az⦄ ⦃r:Bool⦄:X2 n At=some r→CN n 9 [AV.agg [iA At.Bo,AV.sl 3 (List.map Am At.B0),AV.sl 4 (List.map Ad At.Ak),AV.sl 3 (List.map Aj At.Ar)]] []=some (bA r,[]):=by
 intro h;rcases n with _|n;cases h
 rw[X2] at h
 refine Ai Tryz.func9 (by rfl) rfl rfl (Ap rfl) ?_
 intro call hc;conv=>lhs;whnf
 revert h
 refine br ?_ ?_
 exact rz
 refine br ?_ ?_
 exact rz
 refine br ?_ ?_
 exact rz
 intro h;refine As h ?_;clear h;intro o12 ho12 h
 refine lq (σ:=Int) (τ:=Unit) (ν:=Bool) 0 (fun s4 a6=>B9 96 [(1,AV.ptr 0 0),(3,iA s4)]) (fun s4 a6=>[Ob.var 27 [iA At.Bo,AV.sl 3 (List.map Am At.B0),AV.sl 4 (List.map Ad At.Ak),AV.sl 3 (List.map Aj At.Ar)]]) (fun _ a16=>B9 96 [(1,AV.ptr 0 0)]) (fun _ a16=>[Ob.var 27 [iA At.Bo,AV.sl 3 (List.map Am At.B0),AV.sl 4 (List.map Ad At.Ak),AV.sl 3 (List.map Aj At.Ar)]]) (fun v=>(bA v,[])) (fun k s=>O8 n At k s) (fun s=>rfl) o12 n 0 (fun _=>0) ho12 ?_ ?_
 intro k5 s4 a6 K7 cont8 hK9 hcont10 h hr11
 replace h:O8 n At (k5+1) s4=some o12:=h
 rw[O8] at h
 conv=>lhs;whnf
 revert h
 refine br ?_ ?_
 refine ix ?_;intro x14
 refine br ?_ ?_
 intro h;cases sj h
 refine(hK9 _ _).trans ?_
 refine Eq.trans ?_ (Eq.symm (show _=some _ from hr11))
 conv=>lhs;whnf
 exact rq
 exact fun h=>cq (hcont10 (IntKind.i64.wrap (s4+1)) (fun _=>0) h)
 intro h;cases sj h
 exact kq (hr11 (fun _=>0))
 refine lrc ?_ ?_
 intro v e;subst e;cases sj h;rfl
 intro t a16 e;subst e
 dsimp only at h
 conv=>lhs;whnf
 revert h
 intro h;refine As h ?_;clear h;intro o25 ho25 h
 refine lq (σ:=Int) (τ:=Unit) (ν:=Bool) 2 (fun s17 a19=>B9 96 [(1,AV.ptr 0 0),(4,iA s17)]) (fun s17 a19=>[Ob.var 27 [iA At.Bo,AV.sl 3 (List.map Am At.B0),AV.sl 4 (List.map Ad At.Ak),AV.sl 3 (List.map Aj At.Ar)]]) (fun _ a47=>B9 96 [(1,AV.ptr 0 0)]) (fun _ a47=>[Ob.var 27 [iA At.Bo,AV.sl 3 (List.map Am At.B0),AV.sl 4 (List.map Ad At.Ak),AV.sl 3 (List.map Aj At.Ar)]]) (fun v=>(bA v,[])) (fun k s=>Om n At k s) (fun s=>rfl) o25 n 0 (fun _=>0) ho25 ?_ ?_
 intro k18 s17 a19 K20 cont21 hK22 hcont23 h hr24
 replace h:Om n At (k18+1) s17=some o25:=h
 rw[Om] at h
 conv=>lhs;whnf
 revert h
 refine br ?_ ?_
 refine ix ?_;intro x27
 refine br ?_ ?_
 intro h;cases sj h
 refine(hK22 _ _).trans ?_
 refine Eq.trans ?_ (Eq.symm (show _=some _ from hr24))
 conv=>lhs;whnf
 exact rq
 refine br ?_ ?_
 intro h;cases sj h
 refine(hK22 _ _).trans ?_
 refine Eq.trans ?_ (Eq.symm (show _=some _ from hr24))
 conv=>lhs;whnf
 exact rq
 refine ca hc (fun _ h=>Ajz h) ?_;intro y30
 refine br ?_ ?_
 intro h;refine As h ?_;clear h;intro o41 ho41 h
 refine lq (σ:=Int) (τ:=Unit) (ν:=Bool) 4 (fun s33 a35=>B9 96 [(1,AV.ptr 0 0),(4,iA s17),(5,AV.ptr 1 0),(6,iA s33)]) (fun s33 a35=>[Ob.var 27 [iA At.Bo,AV.sl 3 (List.map Am At.B0),AV.sl 4 (List.map Ad At.Ak),AV.sl 3 (List.map Aj At.Ar)],Ob.var 39 [sA x27.Ao,AV.sl 1 (List.map Dv x27.Bh),AV.sl 9 (List.map A9 x27.B5),iA x27.Ab]]) (fun _ a45=>B9 96 [(1,AV.ptr 0 0),(4,iA s17)]) (fun _ a45=>[Ob.var 27 [iA At.Bo,AV.sl 3 (List.map Am At.B0),AV.sl 4 (List.map Ad At.Ak),AV.sl 3 (List.map Aj At.Ar)],Ob.var 39 [sA x27.Ao,AV.sl 1 (List.map Dv x27.Bh),AV.sl 9 (List.map A9 x27.B5),iA x27.Ab]]) (fun v=>(bA v,[])) (fun k s=>Oa n x27 k s) (fun s=>rfl) o41 n 0 (fun _=>0) ho41 ?_ ?_
 intro k34 s33 a35 K36 cont37 hK38 hcont39 h hr40
 replace h:Oa n x27 (k34+1) s33=some o41:=h
 rw[Oa] at h
 conv=>lhs;whnf
 revert h
 refine br ?_ ?_
 refine ix ?_;intro x43
 refine br ?_ ?_
 intro h;cases sj h
 refine(hK38 _ _).trans ?_
 conv=>lhs;whnf
 refine(hK22 _ _).trans ?_
 refine Eq.trans ?_ (Eq.symm (show _=some _ from hr40))
 conv=>lhs;whnf
 exact rq
 exact fun h=>cq (hcont39 (IntKind.i64.wrap (s33+1)) (fun _=>0) h)
 intro h;cases sj h
 exact kq (hr40 (fun _=>0))
 refine lrc ?_ ?_
 intro v e;subst e;cases sj h;exact hr24
 intro t a45 e;subst e
 dsimp only at h
 conv=>lhs;whnf
 revert h
 exact fun h=>cq (hcont23 (IntKind.i64.wrap (s17+1)) (fun _=>0) h)
 intro h;cases sj h
 refine(hK22 _ _).trans ?_
 refine Eq.trans ?_ (Eq.symm (show _=some _ from hr24))
 conv=>lhs;whnf
 exact rq
 intro h;cases sj h
 exact kq (hr24 (fun _=>0))
 refine lrc ?_ ?_
 intro v e;subst e;cases sj h;rfl
 intro t a47 e;subst e
 dsimp only at h
 conv=>lhs;whnf
 revert h
 intro h;refine As h ?_;clear h;intro o56 ho56 h
 refine lq (σ:=Int) (τ:=Unit) (ν:=Bool) 6 (fun s48 a50=>B9 96 [(1,AV.ptr 0 0),(7,iA s48)]) (fun s48 a50=>[Ob.var 27 [iA At.Bo,AV.sl 3 (List.map Am At.B0),AV.sl 4 (List.map Ad At.Ak),AV.sl 3 (List.map Aj At.Ar)]]) (fun _ a62=>B9 96 []) (fun _ a62=>[Ob.var 27 [iA At.Bo,AV.sl 3 (List.map Am At.B0),AV.sl 4 (List.map Ad At.Ak),AV.sl 3 (List.map Aj At.Ar)]]) (fun v=>(bA v,[])) (fun k s=>Oe n At k s) (fun s=>rfl) o56 n 0 (fun _=>0) ho56 ?_ ?_
 intro k49 s48 a50 K51 cont52 hK53 hcont54 h hr55
 replace h:Oe n At (k49+1) s48=some o56:=h
 rw[Oe] at h
 conv=>lhs;whnf
 revert h
 refine br ?_ ?_
 refine ix ?_;intro x58
 refine ca hc (fun _ h=>A28 h) ?_;intro y59
 refine br ?_ ?_
 exact fun h=>cq (hcont54 (IntKind.i64.wrap (s48+1)) (fun _=>0) h)
 intro h;cases sj h
 refine(hK53 _ _).trans ?_
 refine Eq.trans ?_ (Eq.symm (show _=some _ from hr55))
 conv=>lhs;whnf
 exact rq
 intro h;cases sj h
 exact kq (hr55 (fun _=>0))
 refine lrc ?_ ?_
 intro v e;subst e;cases sj h;rfl
 intro t a62 e;subst e
 dsimp only at h
 conv=>lhs;whnf
 revert h
 exact rz
theorem A4r {n:Nat} ⦃Bp:Az⦄ ⦃Bt:Az⦄ ⦃Er:Bool⦄ ⦃r:Bool⦄:O0 n Bp Bt Er=some r→CN n 8 [AV.agg [iA Bp.Bo,AV.sl 3 (List.map Am Bp.B0),AV.sl 4 (List.map Ad Bp.Ak),AV.sl 3 (List.map Aj Bp.Ar)],AV.agg [iA Bt.Bo,AV.sl 3 (List.map Am Bt.B0),AV.sl 4 (List.map Ad Bt.Ak),AV.sl 3 (List.map Aj Bt.Ar)],bA Er] []=some (bA r,[]):=by
 intro h;rcases n with _|n;cases h
 rw[O0] at h
 refine Ai Tryz.func8 (by rfl) rfl rfl (Ap rfl) ?_
 intro call hc;conv=>lhs;whnf
 revert h
 refine br ?_ ?_
 exact rz
 refine br ?_ ?_
 exact rz
 refine br ?_ ?_
 exact rz
 refine br ?_ ?_
 exact rz
 intro h;refine As h ?_;clear h;intro o14 ho14 h
 refine lq (σ:=(Bool×Int)) (τ:=Bool) (ν:=Bool) 0 (fun(s5,s6) a8=>B9 221 [(2,bA s5),(3,AV.ptr 0 0),(4,AV.ptr 1 0),(7,iA s6)]) (fun(s5,s6) a8=>[Ob.var 27 [iA Bp.Bo,AV.sl 3 (List.map Am Bp.B0),AV.sl 4 (List.map Ad Bp.Ak),AV.sl 3 (List.map Aj Bp.Ar)],Ob.var 27 [iA Bt.Bo,AV.sl 3 (List.map Am Bt.B0),AV.sl 4 (List.map Ad Bt.Ak),AV.sl 3 (List.map Aj Bt.Ar)]]) (fun x27 a26=>B9 221 [(2,bA x27),(3,AV.ptr 0 0),(4,AV.ptr 1 0)]) (fun x27 a26=>[Ob.var 27 [iA Bp.Bo,AV.sl 3 (List.map Am Bp.B0),AV.sl 4 (List.map Ad Bp.Ak),AV.sl 3 (List.map Aj Bp.Ar)],Ob.var 27 [iA Bt.Bo,AV.sl 3 (List.map Am Bt.B0),AV.sl 4 (List.map Ad Bt.Ak),AV.sl 3 (List.map Aj Bt.Ar)]]) (fun v=>(bA v,[])) (fun k s=>Fw n Bp Bt k s.1 s.2) (fun s=>rfl) o14 n (Er,0) (fun _=>0) ho14 ?_ ?_
 intro k7 ss a8 K9 cont10 hK11 hcont12 h hr13
 obtain⟨s5,s6⟩:=ss
 replace h:Fw n Bp Bt (k7+1) s5 s6=some o14:=h
 rw[Fw] at h
 conv=>lhs;whnf
 revert h
 refine br ?_ ?_
 refine ix ?_;intro x16
 refine ix ?_;intro x17
 refine br ?_ ?_
 refine ix ?_;intro x19
 refine ix ?_;intro x20
 refine br ?_ ?_
 intro h;cases sj h
 refine(hK11 _ _).trans ?_
 refine Eq.trans ?_ (Eq.symm (show _=some _ from hr13))
 conv=>lhs;whnf
 exact rq
 refine br ?_ ?_
 refine ix ?_;intro x23
 refine ix ?_;intro x24
 refine br ?_ ?_
 intro h;cases sj h
 refine(hK11 _ _).trans ?_
 refine Eq.trans ?_ (Eq.symm (show _=some _ from hr13))
 conv=>lhs;whnf
 exact rq
 exact fun h=>cq (hcont12 (true,IntKind.i64.wrap (s6+1)) (fun _=>0) h)
 exact fun h=>cq (hcont12 (false,IntKind.i64.wrap (s6+1)) (fun _=>0) h)
 intro h;cases sj h
 refine(hK11 _ _).trans ?_
 refine Eq.trans ?_ (Eq.symm (show _=some _ from hr13))
 conv=>lhs;whnf
 exact rq
 intro h;cases sj h
 exact kq (hr13 (fun _=>0))
 refine lrc ?_ ?_
 intro v e;subst e;cases sj h;rfl
 intro x27 a26 e;subst e
 dsimp only at h
 conv=>lhs;whnf
 revert h
 intro h;refine As h ?_;clear h;intro o37 ho37 h
 refine lq (σ:=(Bool×Int)) (τ:=Bool) (ν:=Bool) 2 (fun(s28,s29) a31=>B9 221 [(2,bA s28),(3,AV.ptr 0 0),(4,AV.ptr 1 0),(8,iA s29)]) (fun(s28,s29) a31=>[Ob.var 27 [iA Bp.Bo,AV.sl 3 (List.map Am Bp.B0),AV.sl 4 (List.map Ad Bp.Ak),AV.sl 3 (List.map Aj Bp.Ar)],Ob.var 27 [iA Bt.Bo,AV.sl 3 (List.map Am Bt.B0),AV.sl 4 (List.map Ad Bt.Ak),AV.sl 3 (List.map Aj Bt.Ar)]]) (fun x79 a78=>B9 221 [(2,bA x79),(3,AV.ptr 0 0),(4,AV.ptr 1 0)]) (fun x79 a78=>[Ob.var 27 [iA Bp.Bo,AV.sl 3 (List.map Am Bp.B0),AV.sl 4 (List.map Ad Bp.Ak),AV.sl 3 (List.map Aj Bp.Ar)],Ob.var 27 [iA Bt.Bo,AV.sl 3 (List.map Am Bt.B0),AV.sl 4 (List.map Ad Bt.Ak),AV.sl 3 (List.map Aj Bt.Ar)]]) (fun v=>(bA v,[])) (fun k s=>Fx n Bp Bt k s.1 s.2) (fun s=>rfl) o37 n (x27,0) (fun _=>0) ho37 ?_ ?_
 intro k30 ss a31 K32 cont33 hK34 hcont35 h hr36
 obtain⟨s28,s29⟩:=ss
 replace h:Fx n Bp Bt (k30+1) s28 s29=some o37:=h
 rw[Fx] at h
 conv=>lhs;whnf
 revert h
 refine br ?_ ?_
 refine ix ?_;intro x39
 refine ix ?_;intro x40
 refine br ?_ ?_
 refine br ?_ ?_
 intro h;cases sj h
 refine(hK34 _ _).trans ?_
 refine Eq.trans ?_ (Eq.symm (show _=some _ from hr36))
 conv=>lhs;whnf
 exact rq
 refine ca hc (fun _ h=>A50 h) ?_;intro y43
 refine br ?_ ?_
 refine br ?_ ?_
 refine br ?_ ?_
 intro h;cases sj h
 refine(hK34 _ _).trans ?_
 refine Eq.trans ?_ (Eq.symm (show _=some _ from hr36))
 conv=>lhs;whnf
 exact rq
 intro h;refine As h ?_;clear h;intro o56 ho56 h
 refine lq (σ:=Int) (τ:=Unit) (ν:=Bool) 4 (fun s48 a50=>B9 221 [(2,bA true),(3,AV.ptr 0 0),(4,AV.ptr 1 0),(8,iA s29),(9,AV.ptr 2 0),(10,AV.ptr 3 0),(11,iA s48)]) (fun s48 a50=>[Ob.var 27 [iA Bp.Bo,AV.sl 3 (List.map Am Bp.B0),AV.sl 4 (List.map Ad Bp.Ak),AV.sl 3 (List.map Aj Bp.Ar)],Ob.var 27 [iA Bt.Bo,AV.sl 3 (List.map Am Bt.B0),AV.sl 4 (List.map Ad Bt.Ak),AV.sl 3 (List.map Aj Bt.Ar)],Ob.var 39 [sA x39.Ao,AV.sl 1 (List.map Dv x39.Bh),AV.sl 9 (List.map A9 x39.B5),iA x39.Ab],Ob.var 39 [sA x40.Ao,AV.sl 1 (List.map Dv x40.Bh),AV.sl 9 (List.map A9 x40.B5),iA x40.Ab]]) (fun _ a61=>B9 221 [(2,bA true),(3,AV.ptr 0 0),(4,AV.ptr 1 0),(8,iA s29)]) (fun _ a61=>[Ob.var 27 [iA Bp.Bo,AV.sl 3 (List.map Am Bp.B0),AV.sl 4 (List.map Ad Bp.Ak),AV.sl 3 (List.map Aj Bp.Ar)],Ob.var 27 [iA Bt.Bo,AV.sl 3 (List.map Am Bt.B0),AV.sl 4 (List.map Ad Bt.Ak),AV.sl 3 (List.map Aj Bt.Ar)],Ob.var 39 [sA x39.Ao,AV.sl 1 (List.map Dv x39.Bh),AV.sl 9 (List.map A9 x39.B5),iA x39.Ab],Ob.var 39 [sA x40.Ao,AV.sl 1 (List.map Dv x40.Bh),AV.sl 9 (List.map A9 x40.B5),iA x40.Ab]]) (fun v=>(bA v,[])) (fun k s=>Gm n x39 x40 k s) (fun s=>rfl) o56 n 0 (fun _=>0) ho56 ?_ ?_
 intro k49 s48 a50 K51 cont52 hK53 hcont54 h hr55
 replace h:Gm n x39 x40 (k49+1) s48=some o56:=h
 rw[Gm] at h
 conv=>lhs;whnf
 revert h
 refine br ?_ ?_
 refine ix ?_;intro x58
 refine ix ?_;intro x59
 refine br ?_ ?_
 exact fun h=>cq (hcont54 (IntKind.i64.wrap (s48+1)) (fun _=>0) h)
 intro h;cases sj h
 refine(hK53 _ _).trans ?_
 conv=>lhs;whnf
 refine(hK34 _ _).trans ?_
 refine Eq.trans ?_ (Eq.symm (show _=some _ from hr55))
 conv=>lhs;whnf
 exact rq
 intro h;cases sj h
 exact kq (hr55 (fun _=>0))
 refine lrc ?_ ?_
 intro v e;subst e;cases sj h;exact hr36
 intro t a61 e;subst e
 dsimp only at h
 conv=>lhs;whnf
 revert h
 exact fun h=>cq (hcont35 (true,IntKind.i64.wrap (s29+1)) (fun _=>0) h)
 intro h;refine As h ?_;clear h;intro o71 ho71 h
 refine lq (σ:=Int) (τ:=Unit) (ν:=Bool) 4 (fun s63 a65=>B9 221 [(2,bA false),(3,AV.ptr 0 0),(4,AV.ptr 1 0),(8,iA s29),(9,AV.ptr 2 0),(10,AV.ptr 3 0),(11,iA s63)]) (fun s63 a65=>[Ob.var 27 [iA Bp.Bo,AV.sl 3 (List.map Am Bp.B0),AV.sl 4 (List.map Ad Bp.Ak),AV.sl 3 (List.map Aj Bp.Ar)],Ob.var 27 [iA Bt.Bo,AV.sl 3 (List.map Am Bt.B0),AV.sl 4 (List.map Ad Bt.Ak),AV.sl 3 (List.map Aj Bt.Ar)],Ob.var 39 [sA x39.Ao,AV.sl 1 (List.map Dv x39.Bh),AV.sl 9 (List.map A9 x39.B5),iA x39.Ab],Ob.var 39 [sA x40.Ao,AV.sl 1 (List.map Dv x40.Bh),AV.sl 9 (List.map A9 x40.B5),iA x40.Ab]]) (fun _ a76=>B9 221 [(2,bA false),(3,AV.ptr 0 0),(4,AV.ptr 1 0),(8,iA s29)]) (fun _ a76=>[Ob.var 27 [iA Bp.Bo,AV.sl 3 (List.map Am Bp.B0),AV.sl 4 (List.map Ad Bp.Ak),AV.sl 3 (List.map Aj Bp.Ar)],Ob.var 27 [iA Bt.Bo,AV.sl 3 (List.map Am Bt.B0),AV.sl 4 (List.map Ad Bt.Ak),AV.sl 3 (List.map Aj Bt.Ar)],Ob.var 39 [sA x39.Ao,AV.sl 1 (List.map Dv x39.Bh),AV.sl 9 (List.map A9 x39.B5),iA x39.Ab],Ob.var 39 [sA x40.Ao,AV.sl 1 (List.map Dv x40.Bh),AV.sl 9 (List.map A9 x40.B5),iA x40.Ab]]) (fun v=>(bA v,[])) (fun k s=>Gn n x39 x40 k s) (fun s=>rfl) o71 n 0 (fun _=>0) ho71 ?_ ?_
 intro k64 s63 a65 K66 cont67 hK68 hcont69 h hr70
 replace h:Gn n x39 x40 (k64+1) s63=some o71:=h
 rw[Gn] at h
 conv=>lhs;whnf
 revert h
 refine br ?_ ?_
 refine ix ?_;intro x73
 refine ix ?_;intro x74
 refine br ?_ ?_
 exact fun h=>cq (hcont69 (IntKind.i64.wrap (s63+1)) (fun _=>0) h)
 intro h;cases sj h
 refine(hK68 _ _).trans ?_
 conv=>lhs;whnf
 refine(hK34 _ _).trans ?_
 refine Eq.trans ?_ (Eq.symm (show _=some _ from hr70))
 conv=>lhs;whnf
 exact rq
 intro h;cases sj h
 exact kq (hr70 (fun _=>0))
 refine lrc ?_ ?_
 intro v e;subst e;cases sj h;exact hr36
 intro t a76 e;subst e
 dsimp only at h
 conv=>lhs;whnf
 revert h
 exact fun h=>cq (hcont35 (false,IntKind.i64.wrap (s29+1)) (fun _=>0) h)
 intro h;cases sj h
 refine(hK34 _ _).trans ?_
 refine Eq.trans ?_ (Eq.symm (show _=some _ from hr36))
 conv=>lhs;whnf
 exact rq
 intro h;cases sj h
 refine(hK34 _ _).trans ?_
 refine Eq.trans ?_ (Eq.symm (show _=some _ from hr36))
 conv=>lhs;whnf
 exact rq
 intro h;cases sj h
 exact kq (hr36 (fun _=>0))
 refine lrc ?_ ?_
 intro v e;subst e;cases sj h;rfl
 intro x79 a78 e;subst e
 dsimp only at h
 conv=>lhs;whnf
 revert h
 intro h;refine As h ?_;clear h;intro o89 ho89 h
 refine lq (σ:=(Bool×Int)) (τ:=Unit) (ν:=Bool) 6 (fun(s80,s81) a83=>B9 221 [(2,bA s80),(3,AV.ptr 0 0),(4,AV.ptr 1 0),(12,iA s81)]) (fun(s80,s81) a83=>[Ob.var 27 [iA Bp.Bo,AV.sl 3 (List.map Am Bp.B0),AV.sl 4 (List.map Ad Bp.Ak),AV.sl 3 (List.map Aj Bp.Ar)],Ob.var 27 [iA Bt.Bo,AV.sl 3 (List.map Am Bt.B0),AV.sl 4 (List.map Ad Bt.Ak),AV.sl 3 (List.map Aj Bt.Ar)]]) (fun _ a103=>B9 221 []) (fun _ a103=>[Ob.var 27 [iA Bp.Bo,AV.sl 3 (List.map Am Bp.B0),AV.sl 4 (List.map Ad Bp.Ak),AV.sl 3 (List.map Aj Bp.Ar)],Ob.var 27 [iA Bt.Bo,AV.sl 3 (List.map Am Bt.B0),AV.sl 4 (List.map Ad Bt.Ak),AV.sl 3 (List.map Aj Bt.Ar)]]) (fun v=>(bA v,[])) (fun k s=>Fy n Bp Bt k s.1 s.2) (fun s=>rfl) o89 n (x79,0) (fun _=>0) ho89 ?_ ?_
 intro k82 ss a83 K84 cont85 hK86 hcont87 h hr88
 obtain⟨s80,s81⟩:=ss
 replace h:Fy n Bp Bt (k82+1) s80 s81=some o89:=h
 rw[Fy] at h
 conv=>lhs;whnf
 revert h
 refine br ?_ ?_
 refine ix ?_;intro x91
 refine ix ?_;intro x92
 refine br ?_ ?_
 intro h;cases sj h
 refine(hK86 _ _).trans ?_
 refine Eq.trans ?_ (Eq.symm (show _=some _ from hr88))
 conv=>lhs;whnf
 exact rq
 refine ix ?_;intro x94
 refine ix ?_;intro x95
 refine ca hc (fun _ h=>Mh h) ?_;intro y96
 refine br ?_ ?_
 refine br ?_ ?_
 refine ix ?_;intro x100
 refine ix ?_;intro x101
 refine br ?_ ?_
 intro h;cases sj h
 refine(hK86 _ _).trans ?_
 refine Eq.trans ?_ (Eq.symm (show _=some _ from hr88))
 conv=>lhs;whnf
 exact rq
 exact fun h=>cq (hcont87 (true,IntKind.i64.wrap (s81+1)) (fun _=>0) h)
 exact fun h=>cq (hcont87 (false,IntKind.i64.wrap (s81+1)) (fun _=>0) h)
 intro h;cases sj h
 refine(hK86 _ _).trans ?_
 refine Eq.trans ?_ (Eq.symm (show _=some _ from hr88))
 conv=>lhs;whnf
 exact rq
 intro h;cases sj h
 exact kq (hr88 (fun _=>0))
 refine lrc ?_ ?_
 intro v e;subst e;cases sj h;rfl
 intro t a103 e;subst e
 dsimp only at h
 conv=>lhs;whnf
 revert h
 exact rz
theorem Ae4 {n:Nat} ⦃At:Az⦄ ⦃r:Bool⦄:Tw n At=some r→CN n 4 [AV.agg [iA At.Bo,AV.sl 3 (List.map Am At.B0),AV.sl 4 (List.map Ad At.Ak),AV.sl 3 (List.map Aj At.Ar)]] []=some (bA r,[]):=by
 intro h;rcases n with _|n;cases h
 rw[Tw] at h
 refine Ai Tryz.func4 (by rfl) rfl rfl (Ap rfl) ?_
 intro call hc;conv=>lhs;whnf
 revert h
 refine ca hc (fun _ h=>Ajh h) ?_;intro y1
 refine br ?_ ?_
 refine ca hc (fun _ h=>Ua h) ?_;intro y4
 refine br ?_ ?_
 refine ca hc (fun _ h=>Yo h) ?_;intro y7
 refine ca hc (fun _ h=>Mc h) ?_;intro y9
 refine br ?_ ?_
 refine ca hc (fun _ h=>Rt h) ?_;intro y12
 exact rz
 refine br ?_ ?_
 refine br ?_ ?_
 refine ca hc (fun _ h=>A4r h) ?_;intro y16
 refine br ?_ ?_
 refine ca hc (fun _ h=>Yo h) ?_;intro y19
 refine br ?_ ?_
 refine ca hc (fun _ h=>Rt h) ?_;intro y22
 exact rz
 exact rz
 exact rz
 exact rz
 exact rz
 refine ca hc (fun _ h=>Rt h) ?_;intro y24
 exact rz
 refine ca hc (fun _ h=>Rt h) ?_;intro y26
 exact rz
end Go.Proofs.YtnijlelbihnamaaGreat
end
