/- Parts of the proofs: what they lean on. Conditions: none. -/
import Derived.Test.YtnijlelbihnamaaGreatProgParsesP3
section
namespace Go.Proofs.YtnijlelbihnamaaGreat
set_option linter.unusedVariables false
set_option linter.unusedSimpArgs false
set_option maxRecDepth 100000
set_option maxHeartbeats 4000000
theorem Xc {n:Nat} ⦃Aa:(List A5)⦄ ⦃Bb:Int⦄ ⦃r:((List A0)×Int×Int×Int)⦄:Ic n Aa Bb=some r→CN n 59 [AV.sl 4 (List.map A4 Aa),iA Bb] []=some (AV.tup [AV.sl 9 (List.map A9 r.1),iA r.2.1,iA r.2.2.1,iA r.2.2.2],[]):=by
 intro h;rcases n with _|n;cases h
 rw[Ic] at h
 refine Ai Tryz.func59 (by rfl) rfl rfl (Ap rfl) ?_
 intro call hc;conv=>lhs;whnf
 revert h
 refine br ?_ ?_
 exact rz
 refine br ?_ ?_
 exact rz
 refine ca hc (fun _ h=>Sh h) ?_;intro y3
 intro h;refine As h ?_;clear h;intro o14 ho14 h
 refine lq (σ:=(Int×(List ((List UInt8)×Int)))) (τ:=(List ((List UInt8)×Int))) (ν:=((List A0)×Int×Int×Int)) 0 (fun(s5,s6) a8=>B9 71 [(1,iA Bb),(8,AV.ptr 1 0),(25,AV.sl 4 (List.map Zu y3)),(26,iA (((y3.length:Nat):Int))),(27,iA s5)]) (fun(s5,s6) a8=>[Ob.mp none false (List.map A8 s6),Ob.var 107 [AV.sl 4 (List.map A4 Aa),iA Bb,AV.mapp 0,iA (0),iA (0)]]) (fun x20 a19=>B9 71 [(1,iA Bb),(8,AV.ptr 1 0)]) (fun x20 a19=>[Ob.mp none false (List.map A8 x20),Ob.var 107 [AV.sl 4 (List.map A4 Aa),iA Bb,AV.mapp 0,iA (0),iA (0)]]) (fun v=>(AV.tup [AV.sl 9 (List.map A9 v.1),iA v.2.1,iA v.2.2.1,iA v.2.2.2],[])) (fun k s=>J1 n y3 k s.1 s.2) (fun s=>rfl) o14 n (0,([]:(List ((List UInt8)×Int)))) (fun _=>0) ho14 ?_ ?_
 intro k7 ss a8 K9 cont10 hK11 hcont12 h hr13
 obtain⟨s5,s6⟩:=ss
 replace h:J1 n y3 (k7+1) s5 s6=some o14:=h
 rw[J1] at h
 conv=>lhs;whnf
 revert h
 refine br ?_ ?_
 refine ix ?_;intro x16
 refine br ?_ ?_
 exact fun h=>cq (hcont12 (IntKind.i64.wrap (s5+1),s6) (fun _=>0) h)
 intro h
 have hs18:T3 (List.map A8 s6) (sA x16.f_word) (iA s5)=List.map A8 (Re s6 x16.f_word s5):=U5 _ _ _
 try simp only[hs18]
 conv=>lhs;whnf
 revert h
 exact fun h=>cq (hcont12 (IntKind.i64.wrap (s5+1),(Re s6 x16.f_word s5)) (fun _=>0) h)
 intro h;cases sj h
 exact kq (hr13 (fun _=>0))
 refine lrc ?_ ?_
 intro v e;subst e;cases sj h;rfl
 intro x20 a19 e;subst e
 dsimp only at h
 conv=>lhs;whnf
 revert h
 refine ca hc (fun _ h=>Xo h) ?_;intro y21
 refine br ?_ ?_
 exact rz
 refine br ?_ ?_
 refine ca hc (fun _ h=>Jc h) ?_;intro y25
 exact rz
 exact rz
theorem Wx {n:Nat} ⦃Ds:Int⦄ ⦃r:Bool⦄:Nu n Ds=some r→CN n 99 [iA Ds] []=some (bA r,[]):=by
 intro h;rcases n with _|n;cases h
 rw[Nu] at h
 refine Ai Tryz.func99 (by rfl) rfl rfl (Ap rfl) ?_
 intro call hc;conv=>lhs;whnf
 revert h
 refine br ?_ ?_
 exact rz
 refine br ?_ ?_
 exact rz
 refine br ?_ ?_
 exact rz
 exact rz
def Q2 (n:Nat):Prop:=∀ ⦃Aa:(List A0)⦄ ⦃E5:Int⦄ ⦃Dn:Int⦄ ⦃r:Int⦄,Ky n Aa E5 Dn=some r→CN n 117 [AV.sl 9 (List.map A9 Aa),iA E5,iA Dn] []=some (iA r,[])
def Qz (n:Nat):Prop:=∀ ⦃G7:Int⦄ ⦃L8:Int⦄ ⦃Ms:Int⦄ ⦃o0:(List A0)⦄ ⦃o1:Int⦄ ⦃r:(Bool×Int)⦄,Ho n G7 L8 Ms o0 o1=some r→CN n 136 [iA G7,iA L8,iA Ms,AV.ptr 0 0,AV.ptr 1 0] [Ob.var 37 [AV.sl 9 (List.map A9 o0)],Ob.var 3 [iA o1]]=some (bA r.1,[Ob.var 37 [AV.sl 9 (List.map A9 o0)],Ob.var 3 [iA r.2]])
def Jg (n:Nat):Prop:=∀ ⦃Aa:(List A0)⦄ ⦃E5:Int⦄ ⦃Dn:Int⦄ ⦃o0:(List A0)⦄ ⦃o1:Int⦄ ⦃r:(Bool×Int)⦄,Hi n Aa E5 Dn o0 o1=some r→CN n 95 [AV.sl 9 (List.map A9 Aa),iA E5,iA Dn,AV.func 136 [] [AV.ptr 0 0,AV.ptr 1 0]] [Ob.var 37 [AV.sl 9 (List.map A9 o0)],Ob.var 3 [iA o1]]=some (bA r.1,[Ob.var 37 [AV.sl 9 (List.map A9 o0)],Ob.var 3 [iA r.2]])
def Q3 (n:Nat):Prop:=Q2 n∧Qz n∧Jg n
theorem A4q (n:Nat) (ih:Q3 n):Q2 (n+1):=by
 intro Aa E5 Dn r h
 rw[Ky] at h
 refine Ai Tryz.func117 (by rfl) rfl rfl (Ap rfl) ?_
 intro call hc;conv=>lhs;whnf
 revert h
 refine ca hc (fun _ h=>ih.2.2 h) ?_;intro y1
 refine br ?_ ?_
 exact rz
 exact rz
theorem A1t (n:Nat) (ih:Q3 n):Qz (n+1):=by
 intro G7 L8 Ms o0 o1 r h
 rw[Ho] at h
 refine Ai Tryz.func136 (by rfl) rfl rfl (Ap rfl) ?_
 intro call hc;conv=>lhs;whnf
 revert h
 refine ca hc (fun _ h=>ih.1 h) ?_;intro y1
 refine ca hc (fun _ h=>ih.1 h) ?_;intro y3
 refine ix ?_;intro x5
 refine ca hc (fun _ h=>Wx h) ?_;intro y6
 refine br ?_ ?_
 refine br ?_ ?_
 exact rz
 exact rz
 refine br ?_ ?_
 exact rz
 exact rz
theorem Sw (n:Nat) (ih:Q3 n):Jg (n+1):=by
 intro Aa E5 Dn o0 o1 r h
 rw[Hi] at h
 refine Ai Tryz.func95 (by rfl) rfl rfl (Ap rfl) ?_
 intro call hc;conv=>lhs;whnf
 revert h
 intro h;refine As h ?_;clear h;intro o10 ho10 h
 refine lq (σ:=(Int×Int)) (τ:=Int) (ν:=(Bool×Int)) 0 (fun(s1,s2) a4=>B9 63 [(0,AV.sl 9 (List.map A9 Aa)),(1,iA s1),(2,iA Dn),(3,AV.func 136 [] [AV.ptr 0 0,AV.ptr 1 0])]) (fun(s1,s2) a4=>[Ob.var 37 [AV.sl 9 (List.map A9 o0)],Ob.var 3 [iA s2]]) (fun x21 a20=>B9 63 []) (fun x21 a20=>[Ob.var 37 [AV.sl 9 (List.map A9 o0)],Ob.var 3 [iA x21]]) (fun v=>(bA v.1,[Ob.var 37 [AV.sl 9 (List.map A9 o0)],Ob.var 3 [iA v.2]])) (fun k s=>D9 n (Ho n) Aa Dn o0 k s.1 s.2) (fun s=>rfl) o10 n (E5,o1) (fun _=>0) ho10 ?_ ?_
 intro k3 ss a4 K5 cont6 hK7 hcont8 h hr9
 obtain⟨s1,s2⟩:=ss
 replace h:D9 n (Ho n) Aa Dn o0 (k3+1) s1 s2=some o10:=h
 rw[D9] at h
 conv=>lhs;whnf
 revert h
 refine br ?_ ?_
 refine ix ?_;intro x12
 refine br ?_ ?_
 intro h;cases sj h
 refine(hK7 _ _).trans ?_
 refine Eq.trans ?_ (Eq.symm (show _=some _ from hr9))
 conv=>lhs;whnf
 exact rq
 refine br ?_ ?_
 intro h;cases sj h
 refine(hK7 _ _).trans ?_
 refine Eq.trans ?_ (Eq.symm (show _=some _ from hr9))
 conv=>lhs;whnf
 exact rq
 refine br ?_ ?_
 intro h;cases sj h
 refine(hK7 _ _).trans ?_
 refine Eq.trans ?_ (Eq.symm (show _=some _ from hr9))
 conv=>lhs;whnf
 exact rq
 refine br ?_ ?_
 intro h;cases sj h
 refine(hK7 _ _).trans ?_
 refine Eq.trans ?_ (Eq.symm (show _=some _ from hr9))
 conv=>lhs;whnf
 exact rq
 refine ca hc (fun _ h=>ih.2.1 h) ?_;intro y17
 refine br ?_ ?_
 exact fun h=>cq (hcont8 (IntKind.i64.wrap ((IntKind.i64.wrap ((IntKind.i64.wrap (s1+1))+x12.B5))+x12.Ch),y17.2) (fun _=>0) h)
 intro h;cases sj h
 refine(hK7 _ _).trans ?_
 refine Eq.trans ?_ (Eq.symm (show _=some _ from hr9))
 conv=>lhs;whnf
 exact rq
 intro h;cases sj h
 exact kq (hr9 (fun _=>0))
 refine lrc ?_ ?_
 intro v e;subst e;cases sj h;rfl
 intro x21 a20 e;subst e
 dsimp only at h
 conv=>lhs;whnf
 revert h
 exact rz
theorem Vm:∀ n,Q3 n
 | 0=>⟨by unfold Q2;intros;rename_i h;exact absurd h (by intro h;cases h),by unfold Qz;intros;rename_i h;exact absurd h (by intro h;cases h),by unfold Jg;intros;rename_i h;exact absurd h (by intro h;cases h)⟩
 | n+1=>have ih:=Vm n
   ⟨A4q n ih,A1t n ih,Sw n ih⟩
theorem A4z {n:Nat}:Q2 n:=(Vm n).1
theorem A4k {n:Nat} ⦃Aa:(List A0)⦄ ⦃r:Int⦄:R1 n Aa=some r→CN n 91 [AV.sl 9 (List.map A9 Aa)] []=some (iA r,[]):=by
 intro h;rcases n with _|n;cases h
 rw[R1] at h
 refine Ai Tryz.func91 (by rfl) rfl rfl (Ap rfl) ?_
 intro call hc;conv=>lhs;whnf
 revert h
 refine cr hc (fun _ h=>A4z h) ?_;intro y1
 exact rz
theorem Gu {n:Nat} ⦃Kq:Bn⦄ ⦃Mv:Int⦄ ⦃r:Bool⦄:El n Kq Mv=some r→CN n 120 [AV.agg [sA Kq.f_word,sA Kq.f_form,bA Kq.f_body,bA Kq.f_more],AV.int .u8 Mv] []=some (bA r,[]):=by
 intro h;rcases n with _|n;cases h
 rw[El] at h
 refine Ai Tryz.func120 (by rfl) rfl rfl (Ap rfl) ?_
 intro call hc;conv=>lhs;whnf
 revert h
 intro h;refine As h ?_;clear h;intro o9 ho9 h
 refine lq (σ:=Int) (τ:=Unit) (ν:=Bool) 0 (fun s1 a3=>B9 19 [(1,AV.int .u8 Mv),(2,AV.ptr 0 0),(8,iA (((Kq.f_form.length:Nat):Int))),(9,iA s1)]) (fun s1 a3=>[Ob.var 111 [sA Kq.f_word,sA Kq.f_form,bA Kq.f_body,bA Kq.f_more]]) (fun _ a13=>B9 19 []) (fun _ a13=>[Ob.var 111 [sA Kq.f_word,sA Kq.f_form,bA Kq.f_body,bA Kq.f_more]]) (fun v=>(bA v,[])) (fun k s=>Gt n Kq Mv k s) (fun s=>rfl) o9 n 0 (fun _=>0) ho9 ?_ ?_
 intro k2 s1 a3 K4 cont5 hK6 hcont7 h hr8
 replace h:Gt n Kq Mv (k2+1) s1=some o9:=h
 rw[Gt] at h
 conv=>lhs;whnf
 revert h
 refine br ?_ ?_
 refine ixs ?_;intro x11
 refine br ?_ ?_
 intro h;cases sj h
 refine(hK6 _ _).trans ?_
 refine Eq.trans ?_ (Eq.symm (show _=some _ from hr8))
 conv=>lhs;whnf
 exact rq
 exact fun h=>cq (hcont7 (IntKind.i64.wrap (s1+1)) (fun _=>0) h)
 intro h;cases sj h
 exact kq (hr8 (fun _=>0))
 refine lrc ?_ ?_
 intro v e;subst e;cases sj h;rfl
 intro t a13 e;subst e
 dsimp only at h
 conv=>lhs;whnf
 revert h
 exact rz
theorem Ot {n:Nat} ⦃G8:Int⦄ ⦃Kp:(List UInt8)⦄ ⦃F9:(List UInt8)⦄ ⦃Fa:(List UInt8)⦄ ⦃Fb:Bool⦄ ⦃Fc:Bool⦄ ⦃r:Bool⦄:Iw n G8 Kp F9 Fa Fb Fc=some r→CN n 119 [AV.int .u8 G8,sA Kp,AV.ptr 0 0] [Ob.var 111 [sA F9,sA Fa,bA Fb,bA Fc]]=some (bA r,[Ob.var 111 [sA F9,sA Fa,bA Fb,bA Fc]]):=by
 intro h;rcases n with _|n;cases h
 rw[Iw] at h
 refine Ai Tryz.func119 (by rfl) rfl rfl (Ap rfl) ?_
 intro call hc;conv=>lhs;whnf
 revert h
 refine ca hc (fun y1 h=>(show CN n 120 [AV.agg [sA F9,sA Fa,bA Fb,bA Fc],AV.int .u8 G8] []=some (bA y1,[]) from Gu (r:=y1) h)) ?_;intro y1
 refine br ?_ ?_
 refine ca hc (fun _ h=>Gc h) ?_;intro y4
 refine br ?_ ?_
 exact rz
 refine ca hc (fun y7 h=>(show CN n 120 [AV.agg [sA F9,sA Fa,bA Fb,bA Fc],AV.int .u8 G8] []=some (bA y7,[]) from Gu (r:=y7) h)) ?_;intro y7
 refine br ?_ ?_
 exact rz
 exact rz
 refine ca hc (fun y10 h=>(show CN n 120 [AV.agg [sA F9,sA Fa,bA Fb,bA Fc],AV.int .u8 G8] []=some (bA y10,[]) from Gu (r:=y10) h)) ?_;intro y10
 refine br ?_ ?_
 exact rz
 exact rz
theorem Oo {n:Nat} ⦃G8:Int⦄ ⦃A3a:(List A2)⦄ ⦃F9:(List UInt8)⦄ ⦃Fa:(List UInt8)⦄ ⦃Fb:Bool⦄ ⦃Fc:Bool⦄ ⦃r:Bool⦄:J0 n G8 A3a F9 Fa Fb Fc=some r→CN n 121 [AV.int .u8 G8,AV.sl 5 (List.map A3 A3a),AV.ptr 0 0] [Ob.var 111 [sA F9,sA Fa,bA Fb,bA Fc]]=some (bA r,[Ob.var 111 [sA F9,sA Fa,bA Fb,bA Fc]]):=by
 intro h;rcases n with _|n;cases h
 rw[J0] at h
 refine Ai Tryz.func121 (by rfl) rfl rfl (Ap rfl) ?_
 intro call hc;conv=>lhs;whnf
 revert h
 refine ca hc (fun y1 h=>(show CN n 120 [AV.agg [sA F9,sA Fa,bA Fb,bA Fc],AV.int .u8 G8] []=some (bA y1,[]) from Gu (r:=y1) h)) ?_;intro y1
 refine br ?_ ?_
 refine ca hc (fun _ h=>X1 h) ?_;intro y4
 refine br ?_ ?_
 exact rz
 refine ca hc (fun y7 h=>(show CN n 120 [AV.agg [sA F9,sA Fa,bA Fb,bA Fc],AV.int .u8 G8] []=some (bA y7,[]) from Gu (r:=y7) h)) ?_;intro y7
 refine br ?_ ?_
 exact rz
 exact rz
 refine ca hc (fun y10 h=>(show CN n 120 [AV.agg [sA F9,sA Fa,bA Fb,bA Fc],AV.int .u8 G8] []=some (bA y10,[]) from Gu (r:=y10) h)) ?_;intro y10
 refine br ?_ ?_
 exact rz
 exact rz
theorem A7p {n:Nat} ⦃B1:A0⦄ ⦃r:Bool⦄:Ru n B1=some r→CN n 92 [AV.agg [iA B1.A7,sA B1.Bd,sA B1.Be,AV.sl 5 (List.map A3 B1.Bm),AV.sl 5 (List.map A3 B1.C6),bA B1.Br,iA B1.B5,iA B1.Ch,iA B1.Ab]] []=some (bA r,[]):=by
 intro h;rcases n with _|n;cases h
 rw[Ru] at h
 refine Ai Tryz.func92 (by rfl) rfl rfl (Ap rfl) ?_
 intro call hc;conv=>lhs;whnf
 revert h
 refine ca hc (fun _ h=>Wu h) ?_;intro y1
 refine br ?_ ?_
 refine br ?_ ?_
 exact rz
 refine br ?_ ?_
 refine ca hc (fun _ h=>Gu h) ?_;intro y6
 refine br ?_ ?_
 refine ca hc (fun _ h=>Ot h) ?_;intro y9
 refine br ?_ ?_
 refine ca hc (fun _ h=>Ot h) ?_;intro y12
 refine br ?_ ?_
 refine ca hc (fun _ h=>Oo h) ?_;intro y15
 refine br ?_ ?_
 refine ca hc (fun _ h=>Oo h) ?_;intro y18
 refine br ?_ ?_
 refine br ?_ ?_
 refine br ?_ ?_
 exact rz
 exact rz
 refine br ?_ ?_
 refine br ?_ ?_
 exact rz
 exact rz
 exact rz
 exact rz
 exact rz
 exact rz
 exact rz
 exact rz
 refine ca hc (fun _ h=>Ot h) ?_;intro y25
 refine br ?_ ?_
 refine ca hc (fun _ h=>Ot h) ?_;intro y28
 refine br ?_ ?_
 refine ca hc (fun _ h=>Oo h) ?_;intro y31
 refine br ?_ ?_
 refine ca hc (fun _ h=>Oo h) ?_;intro y34
 refine br ?_ ?_
 refine br ?_ ?_
 refine br ?_ ?_
 exact rz
 exact rz
 refine br ?_ ?_
 refine br ?_ ?_
 exact rz
 exact rz
 exact rz
 exact rz
 exact rz
 exact rz
 exact rz
 exact rz
theorem X0 {n:Nat} ⦃Aa:(List A0)⦄ ⦃r:Bool⦄:Nm n Aa=some r→CN n 72 [AV.sl 9 (List.map A9 Aa)] []=some (bA r,[]):=by
 intro h;rcases n with _|n;cases h
 rw[Nm] at h
 refine Ai Tryz.func72 (by rfl) rfl rfl (Ap rfl) ?_
 intro call hc;conv=>lhs;whnf
 revert h
 refine ca hc (fun _ h=>A4k h) ?_;intro y1
 refine br ?_ ?_
 exact rz
 refine br ?_ ?_
 exact rz
 refine br ?_ ?_
 exact rz
 intro h;refine As h ?_;clear h;intro o14 ho14 h
 refine lq (σ:=Int) (τ:=Unit) (ν:=Bool) 0 (fun s6 a8=>B9 29 [(19,AV.sl 9 (List.map A9 Aa)),(20,iA (((Aa.length:Nat):Int))),(21,iA s6)]) (fun s6 a8=>[]) (fun _ a20=>B9 29 []) (fun _ a20=>[]) (fun v=>(bA v,[])) (fun k s=>Iv n Aa k s) (fun s=>rfl) o14 n 0 (fun _=>0) ho14 ?_ ?_
 intro k7 s6 a8 K9 cont10 hK11 hcont12 h hr13
 replace h:Iv n Aa (k7+1) s6=some o14:=h
 rw[Iv] at h
 conv=>lhs;whnf
 revert h
 refine br ?_ ?_
 refine ix ?_;intro x16
 refine ca hc (fun _ h=>A7p h) ?_;intro y17
 refine br ?_ ?_
 exact fun h=>cq (hcont12 (IntKind.i64.wrap (s6+1)) (fun _=>0) h)
 intro h;cases sj h
 refine(hK11 _ _).trans ?_
 refine Eq.trans ?_ (Eq.symm (show _=some _ from hr13))
 conv=>lhs;whnf
 exact rq
 intro h;cases sj h
 exact kq (hr13 (fun _=>0))
 refine lrc ?_ ?_
 intro v e;subst e;cases sj h;rfl
 intro t a20 e;subst e
 dsimp only at h
 conv=>lhs;whnf
 revert h
 exact rz
theorem A6j {n:Nat} ⦃B1:A0⦄ ⦃r:(List UInt8)⦄:Rv n B1=some r→CN n 98 [AV.agg [iA B1.A7,sA B1.Bd,sA B1.Be,AV.sl 5 (List.map A3 B1.Bm),AV.sl 5 (List.map A3 B1.C6),bA B1.Br,iA B1.B5,iA B1.Ch,iA B1.Ab]] []=some (sA r,[]):=by
 intro h;rcases n with _|n;cases h
 rw[Rv] at h
 refine Ai Tryz.func98 (by rfl) rfl rfl (Ap rfl) ?_
 intro call hc;conv=>lhs;whnf
 revert h
 refine ca hc (fun _ h=>Wu h) ?_;intro y1
 intro h;refine As h ?_;clear h;intro o13 ho13 h
 refine lq (σ:=((List UInt8)×Int×Bool)) (τ:=((List UInt8)×Bool)) (ν:=(List UInt8)) 0 (fun(s3,s4,s5) a7=>B9 76 [(1,AV.ptr 0 0),(3,AV.ptr 1 0),(5,sA s3),(18,iA (((y1.1.f_form.length:Nat):Int))),(19,iA s4)]) (fun(s3,s4,s5) a7=>[Ob.var 83 [iA B1.A7,sA B1.Bd,sA B1.Be,AV.sl 5 (List.map A3 B1.Bm),AV.sl 5 (List.map A3 B1.C6),bA s5,iA B1.B5,iA B1.Ch,iA B1.Ab],Ob.var 111 [sA y1.1.f_word,sA y1.1.f_form,bA y1.1.f_body,bA y1.1.f_more]]) (fun(x41,x42) a40=>B9 76 [(5,sA x41)]) (fun(x41,x42) a40=>[Ob.var 83 [iA B1.A7,sA B1.Bd,sA B1.Be,AV.sl 5 (List.map A3 B1.Bm),AV.sl 5 (List.map A3 B1.C6),bA x42,iA B1.B5,iA B1.Ch,iA B1.Ab],Ob.var 111 [sA y1.1.f_word,sA y1.1.f_form,bA y1.1.f_body,bA y1.1.f_more]]) (fun v=>(sA v,[])) (fun k s=>E0 n B1 y1 k s.1 s.2.1 s.2.2) (fun s=>rfl) o13 n (y1.1.f_word,0,B1.Br) (fun _=>0) ho13 ?_ ?_
 intro k6 ss a7 K8 cont9 hK10 hcont11 h hr12
 obtain⟨s3,s4,s5⟩:=ss
 replace h:E0 n B1 y1 (k6+1) s3 s4 s5=some o13:=h
 rw[E0] at h
 conv=>lhs;whnf
 revert h
 refine br ?_ ?_
 refine ixs ?_;intro x15
 refine br ?_ ?_
 intro h
 refine B6 h ?_;clear h;intro hc17 h
 refine B4 hc17 ?_
 try simp only[ls]
 conv=>lhs;whnf
 revert h
 intro h
 refine B6 h ?_;clear h;intro hc18 h
 refine B4 hc18 ?_
 try simp only[ls]
 conv=>lhs;whnf
 revert h
 exact fun h=>cq (hcont11 ((s3++(([32]:List UInt8)++B1.Bd)),IntKind.i64.wrap (s4+1),s5) (fun _=>0) h)
 refine br ?_ ?_
 intro h
 refine B6 h ?_;clear h;intro hc20 h
 refine B4 hc20 ?_
 try simp only[ls]
 conv=>lhs;whnf
 revert h
 intro h
 refine B6 h ?_;clear h;intro hc21 h
 refine B4 hc21 ?_
 try simp only[ls]
 conv=>lhs;whnf
 revert h
 exact fun h=>cq (hcont11 ((s3++(([32]:List UInt8)++B1.Be)),IntKind.i64.wrap (s4+1),s5) (fun _=>0) h)
 refine br ?_ ?_
 refine ca hc (fun _ h=>Tz h) ?_;intro y23
 intro h
 refine B6 h ?_;clear h;intro hc25 h
 refine B4 hc25 ?_
 try simp only[ls]
 conv=>lhs;whnf
 revert h
 intro h
 refine B6 h ?_;clear h;intro hc26 h
 refine B4 hc26 ?_
 try simp only[ls]
 conv=>lhs;whnf
 revert h
 exact fun h=>cq (hcont11 ((s3++(([32]:List UInt8)++y23)),IntKind.i64.wrap (s4+1),s5) (fun _=>0) h)
 refine br ?_ ?_
 refine ca hc (fun _ h=>Tz h) ?_;intro y28
 intro h
 refine B6 h ?_;clear h;intro hc30 h
 refine B4 hc30 ?_
 try simp only[ls]
 conv=>lhs;whnf
 revert h
 intro h
 refine B6 h ?_;clear h;intro hc31 h
 refine B4 hc31 ?_
 try simp only[ls]
 conv=>lhs;whnf
 revert h
 exact fun h=>cq (hcont11 ((s3++(([32]:List UInt8)++y28)),IntKind.i64.wrap (s4+1),s5) (fun _=>0) h)
 refine br ?_ ?_
 refine br ?_ ?_
 intro h
 refine B6 h ?_;clear h;intro hc34 h
 refine B4 hc34 ?_
 try simp only[ls]
 conv=>lhs;whnf
 revert h
 exact fun h=>cq (hcont11 ((s3++([32,33,61]:List UInt8)),IntKind.i64.wrap (s4+1),true) (fun _=>0) h)
 intro h
 refine B6 h ?_;clear h;intro hc35 h
 refine B4 hc35 ?_
 try simp only[ls]
 conv=>lhs;whnf
 revert h
 exact fun h=>cq (hcont11 ((s3++([32,61,61]:List UInt8)),IntKind.i64.wrap (s4+1),false) (fun _=>0) h)
 refine br ?_ ?_
 intro h
 refine B6 h ?_;clear h;intro hc37 h
 refine B4 hc37 ?_
 try simp only[ls]
 conv=>lhs;whnf
 revert h
 exact fun h=>cq (hcont11 ((s3++([32,61]:List UInt8)),IntKind.i64.wrap (s4+1),s5) (fun _=>0) h)
 refine cp ?_
 intro h
 refine B6 h ?_;clear h;intro hc39 h
 refine B4 hc39 ?_
 try simp only[ls]
 conv=>lhs;whnf
 revert h
 exact fun h=>cq (hcont11 ((s3++([UInt8.ofNat (IntKind.i32.wrap ((x15.toNat:Int))).toNat])),IntKind.i64.wrap (s4+1),s5) (fun _=>0) h)
 intro h;cases sj h
 exact kq (hr12 (fun _=>0))
 refine lrc ?_ ?_
 intro v e;subst e;cases sj h;rfl
 intro t a40 e;subst e
 obtain⟨x41,x42⟩:=t
 dsimp only at h
 conv=>lhs;whnf
 revert h
 exact rz
theorem V0 {n:Nat} ⦃Mw:Int⦄ ⦃r:(List UInt8)⦄:Oq n Mw=some r→CN n 97 [iA Mw] []=some (sA r,[]):=by
 intro h;rcases n with _|n;cases h
 rw[Oq] at h
 refine Ai Tryz.func97 (by rfl) rfl rfl (Ap rfl) ?_
 intro call hc;conv=>lhs;whnf
 revert h
 intro h;refine As h ?_;clear h;intro o10 ho10 h
 refine lq (σ:=((List UInt8)×Int)) (τ:=(List UInt8)) (ν:=(List UInt8)) 0 (fun(s1,s2) a4=>B9 11 [(3,sA s1),(4,iA Mw),(5,iA s2)]) (fun(s1,s2) a4=>[]) (fun x14 a13=>B9 11 [(3,sA x14)]) (fun x14 a13=>[]) (fun v=>(sA v,[])) (fun k s=>Ld n Mw k s.1 s.2) (fun s=>rfl) o10 n (([]:List UInt8),0) (fun _=>0) ho10 ?_ ?_
 intro k3 ss a4 K5 cont6 hK7 hcont8 h hr9
 obtain⟨s1,s2⟩:=ss
 replace h:Ld n Mw (k3+1) s1 s2=some o10:=h
 rw[Ld] at h
 conv=>lhs;whnf
 revert h
 refine br ?_ ?_
 intro h
 refine B6 h ?_;clear h;intro hc12 h
 refine B4 hc12 ?_
 try simp only[ls]
 conv=>lhs;whnf
 revert h
 exact fun h=>cq (hcont8 ((s1++([32,32]:List UInt8)),IntKind.i64.wrap (s2+1)) (fun _=>0) h)
 intro h;cases sj h
 exact kq (hr9 (fun _=>0))
 refine lrc ?_ ?_
 intro v e;subst e;cases sj h;rfl
 intro x14 a13 e;subst e
 dsimp only at h
 conv=>lhs;whnf
 revert h
 exact rz
def Qp (n:Nat):Prop:=∀ ⦃Aa:(List A0)⦄ ⦃E5:Int⦄ ⦃Dn:Int⦄ ⦃W5:Int⦄ ⦃r:(List UInt8)⦄,Kl n Aa E5 Dn W5=some r→CN n 76 [AV.sl 9 (List.map A9 Aa),iA E5,iA Dn,iA W5] []=some (sA r,[])
def Rn (n:Nat):Prop:=∀ ⦃G7:Int⦄ ⦃L8:Int⦄ ⦃Ms:Int⦄ ⦃o0:(List UInt8)⦄ ⦃o1:Int⦄ ⦃o2:(List A0)⦄ ⦃r:(Bool×(List UInt8))⦄,Jm n G7 L8 Ms o0 o1 o2=some r→CN n 96 [iA G7,iA L8,iA Ms,AV.ptr 0 0,AV.ptr 1 0,AV.ptr 2 0] [Ob.var 9 [sA o0],Ob.var 3 [iA o1],Ob.var 37 [AV.sl 9 (List.map A9 o2)]]=some (bA r.1,[Ob.var 9 [sA r.2],Ob.var 3 [iA o1],Ob.var 37 [AV.sl 9 (List.map A9 o2)]])
def Jp (n:Nat):Prop:=∀ ⦃Aa:(List A0)⦄ ⦃E5:Int⦄ ⦃Dn:Int⦄ ⦃o0:(List UInt8)⦄ ⦃o1:Int⦄ ⦃o2:(List A0)⦄ ⦃r:(Bool×(List UInt8))⦄,Gw n Aa E5 Dn o0 o1 o2=some r→CN n 95 [AV.sl 9 (List.map A9 Aa),iA E5,iA Dn,AV.func 96 [] [AV.ptr 0 0,AV.ptr 1 0,AV.ptr 2 0]] [Ob.var 9 [sA o0],Ob.var 3 [iA o1],Ob.var 37 [AV.sl 9 (List.map A9 o2)]]=some (bA r.1,[Ob.var 9 [sA r.2],Ob.var 3 [iA o1],Ob.var 37 [AV.sl 9 (List.map A9 o2)]])
def R3 (n:Nat):Prop:=Qp n∧Rn n∧Jp n
theorem A64 (n:Nat) (ih:R3 n):Qp (n+1):=by
 intro Aa E5 Dn W5 r h
 rw[Kl] at h
 refine Ai Tryz.func76 (by rfl) rfl rfl (Ap rfl) ?_
 intro call hc;conv=>lhs;whnf
 revert h
 refine cr hc (fun _ h=>ih.2.2 h) ?_;intro y1
 exact rz
theorem A37 (n:Nat) (ih:R3 n):Rn (n+1):=by
 intro G7 L8 Ms o0 o1 o2 r h
 rw[Jm] at h
 refine Ai Tryz.func96 (by rfl) rfl rfl (Ap rfl) ?_
 intro call hc;conv=>lhs;whnf
 revert h
 refine ca hc (fun _ h=>V0 h) ?_;intro y1
 refine ix ?_;intro x3
 refine ca hc (fun _ h=>A6j h) ?_;intro y4
 intro h
 refine B6 h ?_;clear h;intro hc6 h
 refine B4 hc6 ?_
 try simp only[ls]
 conv=>lhs;whnf
 revert h
 intro h
 refine B6 h ?_;clear h;intro hc7 h
 refine B4 hc7 ?_
 try simp only[ls]
 conv=>lhs;whnf
 revert h
 refine ix ?_;intro x8
 refine ca hc (fun _ h=>Wx h) ?_;intro y9
 refine br ?_ ?_
 refine ca hc (fun _ h=>ih.1 h) ?_;intro y12
 intro h
 refine B6 h ?_;clear h;intro hc14 h
 refine B4 hc14 ?_
 try simp only[ls]
 conv=>lhs;whnf
 revert h
 refine ca hc (fun _ h=>V0 h) ?_;intro y15
 intro h
 refine B6 h ?_;clear h;intro hc17 h
 refine B4 hc17 ?_
 try simp only[ls]
 conv=>lhs;whnf
 revert h
 intro h
 refine B6 h ?_;clear h;intro hc18 h
 refine B4 hc18 ?_
 try simp only[ls]
 conv=>lhs;whnf
 revert h
 refine br ?_ ?_
 refine ca hc (fun _ h=>ih.1 h) ?_;intro y20
 intro h
 refine B6 h ?_;clear h;intro hc22 h
 refine B4 hc22 ?_
 try simp only[ls]
 conv=>lhs;whnf
 revert h
 refine ca hc (fun _ h=>V0 h) ?_;intro y23
 intro h
 refine B6 h ?_;clear h;intro hc25 h
 refine B4 hc25 ?_
 try simp only[ls]
 conv=>lhs;whnf
 revert h
 intro h
 refine B6 h ?_;clear h;intro hc26 h
 refine B4 hc26 ?_
 try simp only[ls]
 conv=>lhs;whnf
 revert h
 intro h
 refine B6 h ?_;clear h;intro hc27 h
 refine B4 hc27 ?_
 try simp only[ls]
 conv=>lhs;whnf
 revert h
 intro h
 refine B6 h ?_;clear h;intro hc28 h
 refine B4 hc28 ?_
 try simp only[ls]
 conv=>lhs;whnf
 revert h
 exact rz
 intro h
 refine B6 h ?_;clear h;intro hc29 h
 refine B4 hc29 ?_
 try simp only[ls]
 conv=>lhs;whnf
 revert h
 intro h
 refine B6 h ?_;clear h;intro hc30 h
 refine B4 hc30 ?_
 try simp only[ls]
 conv=>lhs;whnf
 revert h
 exact rz
 intro h
 refine B6 h ?_;clear h;intro hc31 h
 refine B4 hc31 ?_
 try simp only[ls]
 conv=>lhs;whnf
 revert h
 exact rz
theorem Tp (n:Nat) (ih:R3 n):Jp (n+1):=by
 intro Aa E5 Dn o0 o1 o2 r h
 rw[Gw] at h
 refine Ai Tryz.func95 (by rfl) rfl rfl (Ap rfl) ?_
 intro call hc;conv=>lhs;whnf
 revert h
 intro h;refine As h ?_;clear h;intro o10 ho10 h
 refine lq (σ:=(Int×(List UInt8))) (τ:=(List UInt8)) (ν:=(Bool×(List UInt8))) 0 (fun(s1,s2) a4=>B9 63 [(0,AV.sl 9 (List.map A9 Aa)),(1,iA s1),(2,iA Dn),(3,AV.func 96 [] [AV.ptr 0 0,AV.ptr 1 0,AV.ptr 2 0])]) (fun(s1,s2) a4=>[Ob.var 9 [sA s2],Ob.var 3 [iA o1],Ob.var 37 [AV.sl 9 (List.map A9 o2)]]) (fun x21 a20=>B9 63 []) (fun x21 a20=>[Ob.var 9 [sA x21],Ob.var 3 [iA o1],Ob.var 37 [AV.sl 9 (List.map A9 o2)]]) (fun v=>(bA v.1,[Ob.var 9 [sA v.2],Ob.var 3 [iA o1],Ob.var 37 [AV.sl 9 (List.map A9 o2)]])) (fun k s=>Dt n (Jm n) Aa Dn o1 o2 k s.1 s.2) (fun s=>rfl) o10 n (E5,o0) (fun _=>0) ho10 ?_ ?_
 intro k3 ss a4 K5 cont6 hK7 hcont8 h hr9
 obtain⟨s1,s2⟩:=ss
 replace h:Dt n (Jm n) Aa Dn o1 o2 (k3+1) s1 s2=some o10:=h
 rw[Dt] at h
 conv=>lhs;whnf
 revert h
 refine br ?_ ?_
 refine ix ?_;intro x12
 refine br ?_ ?_
 intro h;cases sj h
 refine(hK7 _ _).trans ?_
 refine Eq.trans ?_ (Eq.symm (show _=some _ from hr9))
 conv=>lhs;whnf
 exact rq
 refine br ?_ ?_
 intro h;cases sj h
 refine(hK7 _ _).trans ?_
 refine Eq.trans ?_ (Eq.symm (show _=some _ from hr9))
 conv=>lhs;whnf
 exact rq
 refine br ?_ ?_
 intro h;cases sj h
 refine(hK7 _ _).trans ?_
 refine Eq.trans ?_ (Eq.symm (show _=some _ from hr9))
 conv=>lhs;whnf
 exact rq
 refine br ?_ ?_
 intro h;cases sj h
 refine(hK7 _ _).trans ?_
 refine Eq.trans ?_ (Eq.symm (show _=some _ from hr9))
 conv=>lhs;whnf
 exact rq
 refine ca hc (fun _ h=>ih.2.1 h) ?_;intro y17
 refine br ?_ ?_
 exact fun h=>cq (hcont8 (IntKind.i64.wrap ((IntKind.i64.wrap ((IntKind.i64.wrap (s1+1))+x12.B5))+x12.Ch),y17.2) (fun _=>0) h)
 intro h;cases sj h
 refine(hK7 _ _).trans ?_
 refine Eq.trans ?_ (Eq.symm (show _=some _ from hr9))
 conv=>lhs;whnf
 exact rq
 intro h;cases sj h
 exact kq (hr9 (fun _=>0))
 refine lrc ?_ ?_
 intro v e;subst e;cases sj h;rfl
 intro x21 a20 e;subst e
 dsimp only at h
 conv=>lhs;whnf
 revert h
 exact rz
theorem X7:∀ n,R3 n
 | 0=>⟨by unfold Qp;intros;rename_i h;exact absurd h (by intro h;cases h),by unfold Rn;intros;rename_i h;exact absurd h (by intro h;cases h),by unfold Jp;intros;rename_i h;exact absurd h (by intro h;cases h)⟩
 | n+1=>have ih:=X7 n
   ⟨A64 n ih,A37 n ih,Tp n ih⟩
theorem A7m {n:Nat}:Qp n:=(X7 n).1
theorem Yh {n:Nat} ⦃Aa:(List A0)⦄ ⦃Te:Int⦄ ⦃r:(List UInt8)⦄:O4 n Aa Te=some r→CN n 47 [AV.sl 9 (List.map A9 Aa),iA Te] []=some (sA r,[]):=by
 intro h;rcases n with _|n;cases h
 rw[O4] at h
 refine Ai Tryz.func47 (by rfl) rfl rfl (Ap rfl) ?_
 intro call hc;conv=>lhs;whnf
 revert h
 refine br ?_ ?_
 exact rz
 refine br ?_ ?_
 exact rz
 refine ca hc (fun _ h=>X0 h) ?_;intro y3
 refine br ?_ ?_
 refine cr hc (fun _ h=>A7m h) ?_;intro y6
 exact rz
 exact rz
theorem Sk {n:Nat} ⦃Aa:(List A2)⦄ ⦃r:(List A2)⦄:Nw n Aa=some r→CN n 49 [AV.sl 5 (List.map A3 Aa)] []=some (AV.sl 5 (List.map A3 r),[]):=by
 intro h;rcases n with _|n;cases h
 rw[Nw] at h
 refine Ai Tryz.func49 (by rfl) rfl rfl (Ap rfl) ?_
 intro call hc;conv=>lhs;whnf
 revert h
 refine cn ?_
 refine br ?_ ?_
 intro h;refine As h ?_;clear h;intro o12 ho12 h
 refine lq (σ:=(Int×(List A2))) (τ:=(List A2)) (ν:=(List A2)) 0 (fun(s3,s4) a6=>B9 18 [(3,AV.stk 0 (a6 0) (List.length s4)),(8,iA ((((([]:List A2)).length:Nat):Int))),(9,iA s3)]) (fun(s3,s4) a6=>[Ob.stk (a6 0) 47 5 (List.map A3 s4)]) (fun x17 a16=>B9 18 [(3,AV.stk 0 (a16 0) (List.length x17))]) (fun x17 a16=>[Ob.stk (a16 0) 47 5 (List.map A3 x17)]) (fun v=>(AV.sl 5 (List.map A3 v),[])) (fun k s=>Mr n k s.1 s.2) (fun s=>rfl) o12 n (0,([]:List A2)) (fun j=>(bif Nat.beq j 0 then 0 else 0)) ho12 ?_ ?_
 intro k5 ss a6 K7 cont8 hK9 hcont10 h hr11
 obtain⟨s3,s4⟩:=ss
 replace h:Mr n (k5+1) s3 s4=some o12:=h
 rw[Mr] at h
 conv=>lhs;whnf
 revert h
 refine br ?_ ?_
 intro h
 refine As h ?_;clear h;intro x14 hx14 h
 try simp only[Em]
 conv=>lhs;whnf
 try simp only[ls]
 refine B4 (by first|exact Ga hx14|exact Pd hx14|exact Ss hx14|exact Hw hx14|(have q:=Ga hx14;simp only[List.length_set] at q;exact q)|(have q:=Hw hx14;simp only[List.length_set,Nat.zero_add] at q ⊢;exact q)) ?_
 conv=>lhs;whnf
 try simp only[Ik (f:=A3) hx14,Em,ls]
 conv=>lhs;whnf
 revert h
 intro h
 have hs15:E8 (List.map A3 s4) s3.toNat [iA x14.B3,iA x14.Bs,sA x14.Ao,sA x14.Cq,iA (0)]=List.map A3 (List.set s4 s3.toNat (⟨x14.B3,x14.Bs,x14.Ao,x14.Cq,0⟩:A2)):=by rw[D2,List.map_set];rfl
 have hs15_u:E8 (List.map A3 s4) s3.toNat (S4 (A3 x14) 4 [iA (0)])=List.map A3 (List.set s4 s3.toNat (⟨x14.B3,x14.Bs,x14.Ao,x14.Cq,0⟩:A2)):=by rw[D2,List.map_set];rfl
 try simp only[Ik (f:=A3) hx14,Em]
 conv=>lhs;whnf
 try simp only[hs15,hs15_u,Em]
 conv=>lhs;whnf
 revert h
 exact fun h=>cq (hcont10 (IntKind.i64.wrap (s3+1),(List.set s4 s3.toNat (⟨x14.B3,x14.Bs,x14.Ao,x14.Cq,0⟩:A2))) (fun j=>(bif Nat.beq j 0 then(a6 0) else 0)) h)
 intro h;cases sj h
 exact kq (hr11 (fun j=>(bif Nat.beq j 0 then(a6 0) else 0)))
 refine lrc ?_ ?_
 intro v e;subst e;cases sj h;rfl
 intro x17 a16 e;subst e
 dsimp only at h
 conv=>lhs;whnf
 revert h
 intro h;obtain rfl:=sj h
 try simp only[ls]
 exact fq (y:=some (AV.sl 5 (List.take (List.length x17) (List.map A3 x17)),[]))
 intro h;refine As h ?_;clear h;intro o28 ho28 h
 refine lq (σ:=(Int×(List A2))) (τ:=(List A2)) (ν:=(List A2)) 0 (fun(s19,s20) a22=>B9 18 [(3,AV.own 0 0 (List.length s20)),(8,iA (((Aa.length:Nat):Int))),(9,iA s19)]) (fun(s19,s20) a22=>[Ob.arr 5 (List.map A3 s20)]) (fun x33 a32=>B9 18 [(3,AV.own 0 0 (List.length x33))]) (fun x33 a32=>[Ob.arr 5 (List.map A3 x33)]) (fun v=>(AV.sl 5 (List.map A3 v),[])) (fun k s=>Mj n Aa k s.1 s.2) (fun s=>rfl) o28 n (0,Aa) (fun _=>0) ho28 ?_ ?_
 intro k21 ss a22 K23 cont24 hK25 hcont26 h hr27
 obtain⟨s19,s20⟩:=ss
 replace h:Mj n Aa (k21+1) s19 s20=some o28:=h
 rw[Mj] at h
 conv=>lhs;whnf
 revert h
 refine br ?_ ?_
 intro h
 refine As h ?_;clear h;intro x30 hx30 h
 try simp only[ls]
 refine B4 (by first|exact Ga hx30|exact Pd hx30|exact Ss hx30|exact Hw hx30|(have q:=Ga hx30;simp only[List.length_set] at q;exact q)|(have q:=Hw hx30;simp only[List.length_set,Nat.zero_add] at q ⊢;exact q)) ?_
 conv=>lhs;whnf
 try simp only[Nat.zero_add,Ik (f:=A3) hx30,Em,ls]
 conv=>lhs;whnf
 revert h
 intro h
 have hs31:E8 (List.map A3 s20) s19.toNat [iA x30.B3,iA x30.Bs,sA x30.Ao,sA x30.Cq,iA (0)]=List.map A3 (List.set s20 s19.toNat (⟨x30.B3,x30.Bs,x30.Ao,x30.Cq,0⟩:A2)):=by rw[D2,List.map_set];rfl
 have hs31_u:E8 (List.map A3 s20) s19.toNat (S4 (A3 x30) 4 [iA (0)])=List.map A3 (List.set s20 s19.toNat (⟨x30.B3,x30.Bs,x30.Ao,x30.Cq,0⟩:A2)):=by rw[D2,List.map_set];rfl
 try simp only[Nat.zero_add,Ik (f:=A3) hx30]
 conv=>lhs;whnf
 try simp only[hs31,hs31_u]
 conv=>lhs;whnf
 revert h
 exact fun h=>cq (hcont26 (IntKind.i64.wrap (s19+1),(List.set s20 s19.toNat (⟨x30.B3,x30.Bs,x30.Ao,x30.Cq,0⟩:A2))) (fun _=>0) h)
 intro h;cases sj h
 exact kq (hr27 (fun _=>0))
 refine lrc ?_ ?_
 intro v e;subst e;cases sj h;rfl
 intro x33 a32 e;subst e
 dsimp only at h
 conv=>lhs;whnf
 revert h
 intro h;obtain rfl:=sj h
 try simp only[ls]
 exact fq (y:=some (AV.sl 5 (List.take (List.length x33) (List.drop 0 (List.map A3 x33))),[]))
theorem A6v {n:Nat} ⦃At:Az⦄ ⦃r:Az⦄:Uy n At=some r→CN n 13 [AV.agg [iA At.Bo,AV.sl 3 (List.map Am At.B0),AV.sl 4 (List.map Ad At.Ak),AV.sl 3 (List.map Aj At.Ar)]] []=some (AV.agg [iA r.Bo,AV.sl 3 (List.map Am r.B0),AV.sl 4 (List.map Ad r.Ak),AV.sl 3 (List.map Aj r.Ar)],[]):=by
 intro h;rcases n with _|n;cases h
 rw[Uy] at h
 refine Ai Tryz.func13 (by rfl) rfl rfl (Ap rfl) ?_
 intro call hc;conv=>lhs;whnf
 revert h
 intro h;refine As h ?_;clear h;intro o10 ho10 h
 refine lq (σ:=(Int×(List Aw))) (τ:=(List Aw)) (ν:=Az) 0 (fun(s1,s2) a4=>B9 97 [(1,AV.ptr 0 0),(2,AV.ptr 1 0),(3,AV.ptr 2 0),(17,AV.sl 3 (List.map Am At.B0)),(18,iA (((At.B0.length:Nat):Int))),(19,iA s1)]) (fun(s1,s2) a4=>[Ob.var 27 [iA At.Bo,AV.sl 3 (List.map Am At.B0),AV.sl 4 (List.map Ad At.Ak),AV.sl 3 (List.map Aj At.Ar)],Ob.var 27 [iA (0),AV.row 3 (List.length (([]:List Aw))),AV.row 4 (List.length (([]:List Ae))),AV.row 5 (List.length (([]:List Ag)))],Ob.var 27 [iA At.Bo,AV.row 6 (List.length s2),AV.row 7 (List.length (([]:List Ae))),AV.row 8 (List.length (([]:List Ag)))],Ob.row 45 3 ([]),Ob.row 39 4 ([]),Ob.row 42 3 ([]),Ob.row 45 3 (List.map Am s2),Ob.row 39 4 ([]),Ob.row 42 3 ([])]) (fun x16 a15=>B9 97 [(1,AV.ptr 0 0),(2,AV.ptr 1 0),(3,AV.ptr 2 0)]) (fun x16 a15=>[Ob.var 27 [iA At.Bo,AV.sl 3 (List.map Am At.B0),AV.sl 4 (List.map Ad At.Ak),AV.sl 3 (List.map Aj At.Ar)],Ob.var 27 [iA (0),AV.row 3 (List.length (([]:List Aw))),AV.row 4 (List.length (([]:List Ae))),AV.row 5 (List.length (([]:List Ag)))],Ob.var 27 [iA At.Bo,AV.row 6 (List.length x16),AV.row 7 (List.length (([]:List Ae))),AV.row 8 (List.length (([]:List Ag)))],Ob.row 45 3 ([]),Ob.row 39 4 ([]),Ob.row 42 3 ([]),Ob.row 45 3 (List.map Am x16),Ob.row 39 4 ([]),Ob.row 42 3 ([])]) (fun v=>(AV.agg [iA v.Bo,AV.sl 3 (List.map Am v.B0),AV.sl 4 (List.map Ad v.Ak),AV.sl 3 (List.map Aj v.Ar)],[])) (fun k s=>Nk n At k s.1 s.2) (fun s=>rfl) o10 n (0,([]:List Aw)) (fun _=>0) ho10 ?_ ?_
 intro k3 ss a4 K5 cont6 hK7 hcont8 h hr9
 obtain⟨s1,s2⟩:=ss
 replace h:Nk n At (k3+1) s1 s2=some o10:=h
 rw[Nk] at h
 conv=>lhs;whnf
 revert h
 refine br ?_ ?_
 refine ix ?_;intro x12
 refine ar (ap Am (List.map Am s2) s2 ([[sA x12.Ao,iA x12.Bs,iA (0)]]) ([(⟨x12.Ao,x12.Bs,0⟩:Aw)]:List Aw)) ?_
 exact fun h=>cq (hcont8 (IntKind.i64.wrap (s1+1),(s2++([(⟨x12.Ao,x12.Bs,0⟩:Aw)]:List Aw))) (fun _=>0) h)
 intro h;cases sj h
 exact kq (hr9 (fun _=>0))
 refine lrc ?_ ?_
 intro v e;subst e;cases sj h;rfl
 intro x16 a15 e;subst e
 dsimp only at h
 conv=>lhs;whnf
 revert h
 intro h;refine As h ?_;clear h;intro o26 ho26 h
 refine lq (σ:=(Int×(List Ae))) (τ:=(List Ae)) (ν:=Az) 2 (fun(s17,s18) a20=>B9 97 [(1,AV.ptr 0 0),(2,AV.ptr 1 0),(3,AV.ptr 2 0),(35,AV.sl 4 (List.map Ad At.Ak)),(36,iA (((At.Ak.length:Nat):Int))),(37,iA s17)]) (fun(s17,s18) a20=>[Ob.var 27 [iA At.Bo,AV.sl 3 (List.map Am At.B0),AV.sl 4 (List.map Ad At.Ak),AV.sl 3 (List.map Aj At.Ar)],Ob.var 27 [iA (0),AV.row 3 (List.length (([]:List Aw))),AV.row 4 (List.length (([]:List Ae))),AV.row 5 (List.length (([]:List Ag)))],Ob.var 27 [iA At.Bo,AV.row 6 (List.length x16),AV.row 7 (List.length s18),AV.row 8 (List.length (([]:List Ag)))],Ob.row 45 3 ([]),Ob.row 39 4 ([]),Ob.row 42 3 ([]),Ob.row 45 3 (List.map Am x16),Ob.row 39 4 (List.map Ad s18),Ob.row 42 3 ([])]) (fun x54 a53=>B9 97 [(1,AV.ptr 0 0),(2,AV.ptr 1 0),(3,AV.ptr 2 0)]) (fun x54 a53=>[Ob.var 27 [iA At.Bo,AV.sl 3 (List.map Am At.B0),AV.sl 4 (List.map Ad At.Ak),AV.sl 3 (List.map Aj At.Ar)],Ob.var 27 [iA (0),AV.row 3 (List.length (([]:List Aw))),AV.row 4 (List.length (([]:List Ae))),AV.row 5 (List.length (([]:List Ag)))],Ob.var 27 [iA At.Bo,AV.row 6 (List.length x16),AV.row 7 (List.length x54),AV.row 8 (List.length (([]:List Ag)))],Ob.row 45 3 ([]),Ob.row 39 4 ([]),Ob.row 42 3 ([]),Ob.row 45 3 (List.map Am x16),Ob.row 39 4 (List.map Ad x54),Ob.row 42 3 ([])]) (fun v=>(AV.agg [iA v.Bo,AV.sl 3 (List.map Am v.B0),AV.sl 4 (List.map Ad v.Ak),AV.sl 3 (List.map Aj v.Ar)],[])) (fun k s=>Ny n At k s.1 s.2) (fun s=>rfl) o26 n (0,([]:List Ae)) (fun _=>0) ho26 ?_ ?_
 intro k19 ss a20 K21 cont22 hK23 hcont24 h hr25
 obtain⟨s17,s18⟩:=ss
 replace h:Ny n At (k19+1) s17 s18=some o26:=h
 rw[Ny] at h
 conv=>lhs;whnf
 revert h
 refine br ?_ ?_
 refine ix ?_;intro x28
 refine cn ?_
 intro h;refine As h ?_;clear h;intro o39 ho39 h
 refine lq (σ:=(Int×(List A0))) (τ:=(List A0)) (ν:=Az) 4 (fun(s30,s31) a33=>B9 97 [(1,AV.ptr 0 0),(2,AV.ptr 1 0),(3,AV.ptr 2 0),(8,AV.ptr 10 0),(35,AV.sl 4 (List.map Ad At.Ak)),(36,iA (((At.Ak.length:Nat):Int))),(37,iA s17),(48,AV.sl 9 (List.map A9 x28.B5)),(49,iA (((x28.B5.length:Nat):Int))),(50,iA s30)]) (fun(s30,s31) a33=>[Ob.var 27 [iA At.Bo,AV.sl 3 (List.map Am At.B0),AV.sl 4 (List.map Ad At.Ak),AV.sl 3 (List.map Aj At.Ar)],Ob.var 27 [iA (0),AV.row 3 (List.length (([]:List Aw))),AV.row 4 (List.length (([]:List Ae))),AV.row 5 (List.length (([]:List Ag)))],Ob.var 27 [iA At.Bo,AV.row 6 (List.length x16),AV.row 7 (List.length s18),AV.row 8 (List.length (([]:List Ag)))],Ob.row 45 3 ([]),Ob.row 39 4 ([]),Ob.row 42 3 ([]),Ob.row 45 3 (List.map Am x16),Ob.row 39 4 (List.map Ad s18),Ob.row 42 3 ([]),Ob.var 39 [sA x28.Ao,AV.sl 1 (List.map Dv x28.Bh),AV.sl 9 (List.map A9 x28.B5),iA x28.Ab],Ob.var 39 [sA x28.Ao,AV.sl 1 (List.map Dv x28.Bh),AV.row 11 (List.length s31),iA (0)],Ob.row 83 9 (List.map A9 s31)]) (fun x49 a48=>B9 97 [(1,AV.ptr 0 0),(2,AV.ptr 1 0),(3,AV.ptr 2 0),(8,AV.ptr 10 0),(35,AV.sl 4 (List.map Ad At.Ak)),(36,iA (((At.Ak.length:Nat):Int))),(37,iA s17)]) (fun x49 a48=>[Ob.var 27 [iA At.Bo,AV.sl 3 (List.map Am At.B0),AV.sl 4 (List.map Ad At.Ak),AV.sl 3 (List.map Aj At.Ar)],Ob.var 27 [iA (0),AV.row 3 (List.length (([]:List Aw))),AV.row 4 (List.length (([]:List Ae))),AV.row 5 (List.length (([]:List Ag)))],Ob.var 27 [iA At.Bo,AV.row 6 (List.length x16),AV.row 7 (List.length s18),AV.row 8 (List.length (([]:List Ag)))],Ob.row 45 3 ([]),Ob.row 39 4 ([]),Ob.row 42 3 ([]),Ob.row 45 3 (List.map Am x16),Ob.row 39 4 (List.map Ad s18),Ob.row 42 3 ([]),Ob.var 39 [sA x28.Ao,AV.sl 1 (List.map Dv x28.Bh),AV.sl 9 (List.map A9 x28.B5),iA x28.Ab],Ob.var 39 [sA x28.Ao,AV.sl 1 (List.map Dv x28.Bh),AV.row 11 (List.length x49),iA (0)],Ob.row 83 9 (List.map A9 x49)]) (fun v=>(AV.agg [iA v.Bo,AV.sl 3 (List.map Am v.B0),AV.sl 4 (List.map Ad v.Ak),AV.sl 3 (List.map Aj v.Ar)],[])) (fun k s=>O3 n x28 k s.1 s.2) (fun s=>rfl) o39 n (0,([]:List A0)) (fun _=>0) ho39 ?_ ?_
 intro k32 ss a33 K34 cont35 hK36 hcont37 h hr38
 obtain⟨s30,s31⟩:=ss
 replace h:O3 n x28 (k32+1) s30 s31=some o39:=h
 rw[O3] at h
 conv=>lhs;whnf
 revert h
 refine br ?_ ?_
 refine ix ?_;intro x41
 refine ca hc (fun _ h=>Sk h) ?_;intro y42
 refine ca hc (fun _ h=>Sk h) ?_;intro y44
 refine ar (ap A9 (List.map A9 s31) s31 ([[iA x41.A7,sA x41.Bd,sA x41.Be,AV.sl 5 (List.map A3 y42),AV.sl 5 (List.map A3 y44),bA x41.Br,iA x41.B5,iA x41.Ch,iA (0)]]) ([(⟨x41.A7,x41.Bd,x41.Be,y42,y44,x41.Br,x41.B5,x41.Ch,0⟩:A0)]:List A0)) ?_
 exact fun h=>cq (hcont37 (IntKind.i64.wrap (s30+1),(s31++([(⟨x41.A7,x41.Bd,x41.Be,y42,y44,x41.Br,x41.B5,x41.Ch,0⟩:A0)]:List A0))) (fun _=>0) h)
 intro h;cases sj h
 exact kq (hr38 (fun _=>0))
 refine lrc ?_ ?_
 intro v e;subst e;cases sj h;exact hr25
 intro x49 a48 e;subst e
 dsimp only at h
 conv=>lhs;whnf
 revert h
 refine ar (ap Ad (List.map Ad s18) s18 ([[sA x28.Ao,AV.sl 1 (List.map Dv x28.Bh),AV.sl 9 (List.map A9 x49),iA (0)]]) ([(⟨x28.Ao,x28.Bh,x49,0⟩:Ae)]:List Ae)) ?_
 exact fun h=>cq (hcont24 (IntKind.i64.wrap (s17+1),(s18++([(⟨x28.Ao,x28.Bh,x49,0⟩:Ae)]:List Ae))) (fun _=>0) h)
 intro h;cases sj h
 exact kq (hr25 (fun _=>0))
 refine lrc ?_ ?_
 intro v e;subst e;cases sj h;rfl
 intro x54 a53 e;subst e
 dsimp only at h
 conv=>lhs;whnf
 revert h
 intro h;refine As h ?_;clear h;intro o64 ho64 h
 refine lq (σ:=(Int×(List Ag))) (τ:=(List Ag)) (ν:=Az) 6 (fun(s55,s56) a58=>B9 97 [(2,AV.ptr 1 0),(3,AV.ptr 2 0),(78,AV.sl 3 (List.map Aj At.Ar)),(79,iA (((At.Ar.length:Nat):Int))),(80,iA s55)]) (fun(s55,s56) a58=>[Ob.var 27 [iA At.Bo,AV.sl 3 (List.map Am At.B0),AV.sl 4 (List.map Ad At.Ak),AV.sl 3 (List.map Aj At.Ar)],Ob.var 27 [iA (0),AV.row 3 (List.length (([]:List Aw))),AV.row 4 (List.length (([]:List Ae))),AV.row 5 (List.length (([]:List Ag)))],Ob.var 27 [iA At.Bo,AV.row 6 (List.length x16),AV.row 7 (List.length x54),AV.row 8 (List.length s56)],Ob.row 45 3 ([]),Ob.row 39 4 ([]),Ob.row 42 3 ([]),Ob.row 45 3 (List.map Am x16),Ob.row 39 4 (List.map Ad x54),Ob.row 42 3 (List.map Aj s56)]) (fun x72 a71=>B9 97 [(2,AV.ptr 1 0),(3,AV.ptr 2 0)]) (fun x72 a71=>[Ob.var 27 [iA At.Bo,AV.sl 3 (List.map Am At.B0),AV.sl 4 (List.map Ad At.Ak),AV.sl 3 (List.map Aj At.Ar)],Ob.var 27 [iA (0),AV.row 3 (List.length (([]:List Aw))),AV.row 4 (List.length (([]:List Ae))),AV.row 5 (List.length (([]:List Ag)))],Ob.var 27 [iA At.Bo,AV.row 6 (List.length x16),AV.row 7 (List.length x54),AV.row 8 (List.length x72)],Ob.row 45 3 ([]),Ob.row 39 4 ([]),Ob.row 42 3 ([]),Ob.row 45 3 (List.map Am x16),Ob.row 39 4 (List.map Ad x54),Ob.row 42 3 (List.map Aj x72)]) (fun v=>(AV.agg [iA v.Bo,AV.sl 3 (List.map Am v.B0),AV.sl 4 (List.map Ad v.Ak),AV.sl 3 (List.map Aj v.Ar)],[])) (fun k s=>Nn n At k s.1 s.2) (fun s=>rfl) o64 n (0,([]:List Ag)) (fun _=>0) ho64 ?_ ?_
 intro k57 ss a58 K59 cont60 hK61 hcont62 h hr63
 obtain⟨s55,s56⟩:=ss
 replace h:Nn n At (k57+1) s55 s56=some o64:=h
 rw[Nn] at h
 conv=>lhs;whnf
 revert h
 refine br ?_ ?_
 refine ix ?_;intro x66
 refine ca hc (fun _ h=>Sk h) ?_;intro y67
 refine ar (ap Aj (List.map Aj s56) s56 ([[iA x66.A7,AV.sl 5 (List.map A3 y67),iA (0)]]) ([(⟨x66.A7,y67,0⟩:Ag)]:List Ag)) ?_
 exact fun h=>cq (hcont62 (IntKind.i64.wrap (s55+1),(s56++([(⟨x66.A7,y67,0⟩:Ag)]:List Ag))) (fun _=>0) h)
 intro h;cases sj h
 exact kq (hr63 (fun _=>0))
 refine lrc ?_ ?_
 intro v e;subst e;cases sj h;rfl
 intro x72 a71 e;subst e
 dsimp only at h
 conv=>lhs;whnf
 revert h
 intro h;cases sj h
 try simp only[ls]
 exact fq (y:=some (AV.agg [iA At.Bo,AV.sl 3 (List.take (List.length x16) (List.map Am x16)),AV.sl 4 (List.take (List.length x54) (List.map Ad x54)),AV.sl 3 (List.take (List.length x72) (List.map Aj x72))],[]))
theorem F1 {n:Nat} ⦃Q7:Int⦄ ⦃Ih:Int⦄ ⦃p_l:(List A5)⦄ ⦃p_i:Int⦄ ⦃p_e:Int⦄ ⦃p_at:Int⦄ ⦃r:(Int×Int)⦄:Cf n Q7 Ih p_l p_i p_e p_at=some r→CN n 60 [AV.ptr 0 0,iA Q7,iA Ih] [Ob.var 53 [AV.sl 4 (List.map A4 p_l),iA p_i,iA p_e,iA p_at]]=some (AV.tup [],[Ob.var 53 [AV.sl 4 (List.map A4 p_l),iA p_i,iA r.1,iA r.2]]):=by
 intro h;rcases n with _|n;cases h
 rw[Cf] at h
 refine Ai Tryz.func60 (by rfl) rfl rfl (Ap rfl) ?_
 intro call hc;conv=>lhs;whnf
 revert h
 refine br ?_ ?_
 exact rz
 exact rz
theorem A8g {n:Nat} ⦃En:A5⦄ ⦃o0:Int⦄ ⦃o1:(List UInt8)⦄ ⦃r:Bool⦄:T6 n En o0 o1=some r→CN n 57 [AV.agg [iA En.A7,sA En.Ac,iA En.Bs,iA En.Ab],AV.ptr 0 0,AV.ptr 1 0] [Ob.var 3 [iA o0],Ob.var 9 [sA o1]]=some (bA r,[Ob.var 3 [iA o0],Ob.var 9 [sA o1]]):=by
 intro h;rcases n with _|n;cases h
 rw[T6] at h
 refine Ai Tryz.func57 (by rfl) rfl rfl (Ap rfl) ?_
 intro call hc;conv=>lhs;whnf
 revert h
 refine br ?_ ?_
 exact rz
 exact rz
theorem Ej {n:Nat} ⦃p_l:(List A5)⦄ ⦃p_i:Int⦄ ⦃p_e:Int⦄ ⦃p_at:Int⦄ ⦃o1:Int⦄ ⦃o2:(List UInt8)⦄ ⦃r:(A5×Bool×Int)⦄:D3 n p_l p_i p_e p_at o1 o2=some r→CN n 19 [AV.ptr 0 0,AV.func 57 [] [AV.ptr 1 0,AV.ptr 2 0]] [Ob.var 53 [AV.sl 4 (List.map A4 p_l),iA p_i,iA p_e,iA p_at],Ob.var 3 [iA o1],Ob.var 9 [sA o2]]=some (AV.tup [AV.agg [iA r.1.A7,sA r.1.Ac,iA r.1.Bs,iA r.1.Ab],bA r.2.1],[Ob.var 53 [AV.sl 4 (List.map A4 p_l),iA r.2.2,iA p_e,iA p_at],Ob.var 3 [iA o1],Ob.var 9 [sA o2]]):=by
 intro h;rcases n with _|n;cases h
 rw[D3] at h
 refine Ai Tryz.func19 (by rfl) rfl rfl (Ap rfl) ?_
 intro call hc;conv=>lhs;whnf
 revert h
 refine br ?_ ?_
 exact rz
 refine br ?_ ?_
 exact rz
 refine ix ?_;intro x3
 refine ca hc (fun _ h=>A8g h) ?_;intro y4
 refine br ?_ ?_
 refine ix ?_;intro x7
 exact rz
 exact rz
theorem Ja {n:Nat} ⦃p_l:(List A5)⦄ ⦃p_i:Int⦄ ⦃p_e:Int⦄ ⦃p_at:Int⦄ ⦃r:(Int×Int)⦄:Dk n p_l p_i p_e p_at=some r→CN n 24 [AV.ptr 0 0] [Ob.var 53 [AV.sl 4 (List.map A4 p_l),iA p_i,iA p_e,iA p_at]]=some (AV.tup [],[Ob.var 53 [AV.sl 4 (List.map A4 p_l),iA p_i,iA r.1,iA r.2]]):=by
 intro h;rcases n with _|n;cases h
 rw[Dk] at h
 refine Ai Tryz.func24 (by rfl) rfl rfl (Ap rfl) ?_
 intro call hc;conv=>lhs;whnf
 revert h
 refine br ?_ ?_
 refine ix ?_;intro x2
 refine ca hc (fun _ h=>F1 h) ?_;intro y3
 exact rz
 refine br ?_ ?_
 refine ix ?_;intro x6
 refine ix ?_;intro x7
 refine cr hc (fun _ h=>F1 h) ?_;intro y8
 exact rz
 refine ca hc (fun _ h=>F1 h) ?_;intro y10
 exact rz
theorem Rh {n:Nat} ⦃p_l:(List A5)⦄ ⦃p_i:Int⦄ ⦃p_e:Int⦄ ⦃p_at:Int⦄ ⦃o1:Int⦄ ⦃o2:(List UInt8)⦄ ⦃r:(A5×Int×Int×Int)⦄:Gz n p_l p_i p_e p_at o1 o2=some r→CN n 15 [AV.ptr 0 0,AV.func 57 [] [AV.ptr 1 0,AV.ptr 2 0]] [Ob.var 53 [AV.sl 4 (List.map A4 p_l),iA p_i,iA p_e,iA p_at],Ob.var 3 [iA o1],Ob.var 9 [sA o2]]=some (AV.agg [iA r.1.A7,sA r.1.Ac,iA r.1.Bs,iA r.1.Ab],[Ob.var 53 [AV.sl 4 (List.map A4 p_l),iA r.2.1,iA r.2.2.1,iA r.2.2.2],Ob.var 3 [iA o1],Ob.var 9 [sA o2]]):=by
 intro h;rcases n with _|n;cases h
 rw[Gz] at h
 refine Ai Tryz.func15 (by rfl) rfl rfl (Ap rfl) ?_
 intro call hc;conv=>lhs;whnf
 revert h
 refine ca hc (fun _ h=>Ej h) ?_;intro y1
 refine br ?_ ?_
 exact rz
 refine ca hc (fun _ h=>Ja h) ?_;intro y4
 exact rz
theorem Cu {n:Nat} ⦃Kp:(List UInt8)⦄ ⦃p_l:(List A5)⦄ ⦃p_i:Int⦄ ⦃p_e:Int⦄ ⦃p_at:Int⦄ ⦃r:(Int×Int×Int)⦄:By n Kp p_l p_i p_e p_at=some r→CN n 18 [AV.ptr 0 0,sA Kp] [Ob.var 53 [AV.sl 4 (List.map A4 p_l),iA p_i,iA p_e,iA p_at]]=some (AV.tup [],[Ob.var 53 [AV.sl 4 (List.map A4 p_l),iA r.1,iA r.2.1,iA r.2.2]]):=by
 intro h;rcases n with _|n;cases h
 rw[By] at h
 refine W7 Tryz.func18 (by rfl) rfl rfl (Ap rfl) ?_
 intro call hc hcA;conv=>lhs;whnf
 revert h
 intro h
 obtain⟨n1,hn5,h⟩:=Lt h
 obtain⟨call2,hc3,ho4⟩:=Hx (f:=16) (args:=[iA (3),sA Kp]) (hp:=[]) hcA hn5 Tryz.func16 (by rfl) rfl rfl (Ap rfl)
 try simp only[ls]
 simp only[ho4]
 conv=>lhs;whnf
 revert h
 refine ca hc (fun _ h=>Rh h) ?_;intro y6
 exact rz
theorem Wq {n:Nat} ⦃E4:Int⦄ ⦃Ih:Int⦄ ⦃p_l:(List A5)⦄ ⦃p_i:Int⦄ ⦃p_e:Int⦄ ⦃p_at:Int⦄ ⦃r:(Ag×Int×Int×Int)⦄:I0 n E4 Ih p_l p_i p_e p_at=some r→CN n 23 [AV.ptr 0 0,iA E4,iA Ih] [Ob.var 53 [AV.sl 4 (List.map A4 p_l),iA p_i,iA p_e,iA p_at]]=some (AV.agg [iA r.1.A7,AV.sl 5 (List.map A3 r.1.Bm),iA r.1.Ab],[Ob.var 53 [AV.sl 4 (List.map A4 p_l),iA r.2.1,iA r.2.2.1,iA r.2.2.2]]):=by
 intro h;rcases n with _|n;cases h
 rw[I0] at h
 refine Ai Tryz.func23 (by rfl) rfl rfl (Ap rfl) ?_
 intro call hc;conv=>lhs;whnf
 revert h
 refine tw hc (fun _ h=>X9 h) (fun _ h=>A6y (p:=[1,1,2,2,1]) (q:=[1,2,1,1]) h Tryz.func61 (by kernel_rfl) (by kernel_rfl) (by kernel_rfl) (by kernel_rfl) (by rfl) (A0r (by exact fun _=>rfl) _) (A0r (by exact fun _=>rfl) _)) ?_;intro y1
 refine nb ?_ ?_
 refine ca hc (fun _ h=>F1 h) ?_;intro y3
 intro h;refine As h ?_;clear h;intro o12 ho12 h
 refine lq (σ:=Unit) (τ:=Unit) (ν:=(Ag×Int×Int×Int)) 0 (fun _ a6=>B9 61 [(0,AV.ptr 0 0),(1,iA E4),(2,iA Ih),(6,AV.ptr 1 0),(7,AV.sl 5 []),(8,iA y1.2.1),(31,iA (0)),(32,iA (0))]) (fun _ a6=>[Ob.var 53 [AV.sl 4 (List.map A4 p_l),iA p_i,iA y3.1,iA y3.2],Ob.var 42 [iA (0),AV.nils,iA (0)]]) (fun _ a13=>B9 61 [(0,AV.ptr 0 0),(1,iA E4),(2,iA Ih),(6,AV.ptr 1 0),(7,AV.sl 5 []),(8,iA y1.2.1)]) (fun _ a13=>[Ob.var 53 [AV.sl 4 (List.map A4 p_l),iA p_i,iA y3.1,iA y3.2],Ob.var 42 [iA (0),AV.nils,iA (0)]]) (fun v=>(AV.agg [iA v.1.A7,AV.sl 5 (List.map A3 v.1.Bm),iA v.1.Ab],[Ob.var 53 [AV.sl 4 (List.map A4 p_l),iA v.2.1,iA v.2.2.1,iA v.2.2.2]])) (fun k s=>Hm n k) (fun s=>rfl) o12 n () (fun _=>0) ho12 ?_ ?_
 intro k5 ss a6 K7 cont8 hK9 hcont10 h hr11
 replace h:Hm n (k5+1)=some o12:=h
 rw[Hm] at h
 conv=>lhs;whnf
 revert h
 intro h;cases sj h
 exact kq (hr11 (fun _=>0))
 refine lrc ?_ ?_
 intro v e;subst e;cases sj h;rfl
 intro t a13 e;subst e
 dsimp only at h
 conv=>lhs;whnf
 revert h
 refine br ?_ ?_
 refine ca hc (fun _ h=>Cu h) ?_;intro y15
 exact rz
 refine ca hc (fun _ h=>Cu h) ?_;intro y17
 exact rz
 refine ca hc (fun _ h=>F1 h) ?_;intro y20
 intro h;refine As h ?_;clear h;intro o31 ho31 h
 refine lq (σ:=(Int×(List A2))) (τ:=(List A2)) (ν:=(Ag×Int×Int×Int)) 0 (fun(s22,s23) a25=>B9 61 [(0,AV.ptr 0 0),(1,iA E4),(2,iA Ih),(6,AV.ptr 1 0),(7,AV.own 2 0 (List.length s23)),(8,iA y1.2.1),(31,iA (((y1.1.length:Nat):Int))),(32,iA s22)]) (fun(s22,s23) a25=>[Ob.var 53 [AV.sl 4 (List.map A4 p_l),iA p_i,iA y20.1,iA y20.2],Ob.var 42 [iA (0),AV.nils,iA (0)],Ob.arr 5 (List.map A3 s23)]) (fun x38 a37=>B9 61 [(0,AV.ptr 0 0),(1,iA E4),(2,iA Ih),(6,AV.ptr 1 0),(7,AV.own 2 0 (List.length x38)),(8,iA y1.2.1)]) (fun x38 a37=>[Ob.var 53 [AV.sl 4 (List.map A4 p_l),iA p_i,iA y20.1,iA y20.2],Ob.var 42 [iA (0),AV.nils,iA (0)],Ob.arr 5 (List.map A3 x38)]) (fun v=>(AV.agg [iA v.1.A7,AV.sl 5 (List.map A3 v.1.Bm),iA v.1.Ab],[Ob.var 53 [AV.sl 4 (List.map A4 p_l),iA v.2.1,iA v.2.2.1,iA v.2.2.2]])) (fun k s=>Df n y1 k s.1 s.2) (fun s=>rfl) o31 n (0,y1.1) (fun _=>0) ho31 ?_ ?_
 intro k24 ss a25 K26 cont27 hK28 hcont29 h hr30
 obtain⟨s22,s23⟩:=ss
 replace h:Df n y1 (k24+1) s22 s23=some o31:=h
 rw[Df] at h
 conv=>lhs;whnf
 revert h
 refine br ?_ ?_
 intro h
 refine As h ?_;clear h;intro x33 hx33 h
 try simp only[ls]
 refine B4 (by first|exact Ga hx33|exact Pd hx33|exact Ss hx33|exact Hw hx33|(have q:=Ga hx33;simp only[List.length_set] at q;exact q)|(have q:=Hw hx33;simp only[List.length_set,Nat.zero_add] at q ⊢;exact q)) ?_
 conv=>lhs;whnf
 try simp only[Nat.zero_add,Ik (f:=A3) hx33,Em,ls]
 conv=>lhs;whnf
 revert h
 refine br ?_ ?_
 intro h
 refine As h ?_;clear h;intro x35 hx35 h
 try simp only[ls]
 refine B4 (by first|exact Ga hx35|exact Pd hx35|exact Ss hx35|exact Hw hx35|(have q:=Ga hx35;simp only[List.length_set] at q;exact q)|(have q:=Hw hx35;simp only[List.length_set,Nat.zero_add] at q ⊢;exact q)) ?_
 conv=>lhs;whnf
 try simp only[Nat.zero_add,Ik (f:=A3) hx35,Em,ls]
 conv=>lhs;whnf
 revert h
 intro h
 have hs36:E8 (List.map A3 s23) s22.toNat [iA (3),iA x35.Bs,sA x35.Ao,sA x35.Cq,iA x35.Ab]=List.map A3 (List.set s23 s22.toNat (⟨3,x35.Bs,x35.Ao,x35.Cq,x35.Ab⟩:A2)):=by rw[D2,List.map_set];rfl
 have hs36_u:E8 (List.map A3 s23) s22.toNat (S4 (A3 x35) 0 [iA (3)])=List.map A3 (List.set s23 s22.toNat (⟨3,x35.Bs,x35.Ao,x35.Cq,x35.Ab⟩:A2)):=by rw[D2,List.map_set];rfl
 try simp only[Nat.zero_add,Ik (f:=A3) hx35]
 conv=>lhs;whnf
 try simp only[hs36,hs36_u]
 conv=>lhs;whnf
 revert h
 exact fun h=>cq (hcont29 (IntKind.i64.wrap (s22+1),(List.set s23 s22.toNat (⟨3,x35.Bs,x35.Ao,x35.Cq,x35.Ab⟩:A2))) (fun _=>0) h)
 exact fun h=>cq (hcont29 (IntKind.i64.wrap (s22+1),s23) (fun _=>0) h)
 intro h;cases sj h
 exact kq (hr30 (fun _=>0))
 refine lrc ?_ ?_
 intro v e;subst e;cases sj h;rfl
 intro x38 a37 e;subst e
 dsimp only at h
 conv=>lhs;whnf
 revert h
 refine br ?_ ?_
 refine ca hc (fun _ h=>Cu h) ?_;intro y40
 intro h;cases sj h
 try simp only[ls]
 exact fq (y:=some (AV.agg [iA E4,AV.sl 5 (List.take (List.length x38) (List.drop 0 (List.map A3 x38))),iA Ih],[Ob.var 53 [AV.sl 4 (List.map A4 p_l),iA y40.1,iA y40.2.1,iA y40.2.2]]))
 refine ca hc (fun _ h=>Cu h) ?_;intro y42
 intro h;cases sj h
 try simp only[ls]
 exact fq (y:=some (AV.agg [iA E4,AV.sl 5 (List.take (List.length x38) (List.drop 0 (List.map A3 x38))),iA Ih],[Ob.var 53 [AV.sl 4 (List.map A4 p_l),iA y42.1,iA y42.2.1,iA y42.2.2]]))
theorem A2x {n:Nat} ⦃En:A5⦄ ⦃r:Bool⦄:Px n En=some r→CN n 17 [AV.agg [iA En.A7,sA En.Ac,iA En.Bs,iA En.Ab]] []=some (bA r,[]):=by
 intro h;rcases n with _|n;cases h
 rw[Px] at h
 refine Ai Tryz.func17 (by rfl) rfl rfl (Ap rfl) ?_
 intro call hc;conv=>lhs;whnf
 revert h
 exact rz
theorem Vr {n:Nat} ⦃p_l:(List A5)⦄ ⦃p_i:Int⦄ ⦃p_e:Int⦄ ⦃p_at:Int⦄ ⦃r:(A5×Bool×Int)⦄:Hk n p_l p_i p_e p_at=some r→CN n 19 [AV.ptr 0 0,AV.func 17 [] []] [Ob.var 53 [AV.sl 4 (List.map A4 p_l),iA p_i,iA p_e,iA p_at]]=some (AV.tup [AV.agg [iA r.1.A7,sA r.1.Ac,iA r.1.Bs,iA r.1.Ab],bA r.2.1],[Ob.var 53 [AV.sl 4 (List.map A4 p_l),iA r.2.2,iA p_e,iA p_at]]):=by
 intro h;rcases n with _|n;cases h
 rw[Hk] at h
 refine Ai Tryz.func19 (by rfl) rfl rfl (Ap rfl) ?_
 intro call hc;conv=>lhs;whnf
 revert h
 refine br ?_ ?_
 exact rz
 refine br ?_ ?_
 exact rz
 refine ix ?_;intro x3
 refine ca hc (fun _ h=>A2x h) ?_;intro y4
 refine br ?_ ?_
 refine ix ?_;intro x7
 exact rz
 exact rz
theorem Qm {n:Nat} ⦃p_l:(List A5)⦄ ⦃p_i:Int⦄ ⦃p_e:Int⦄ ⦃p_at:Int⦄ ⦃r:(A5×Int×Int×Int)⦄:G4 n p_l p_i p_e p_at=some r→CN n 15 [AV.ptr 0 0,AV.func 17 [] []] [Ob.var 53 [AV.sl 4 (List.map A4 p_l),iA p_i,iA p_e,iA p_at]]=some (AV.agg [iA r.1.A7,sA r.1.Ac,iA r.1.Bs,iA r.1.Ab],[Ob.var 53 [AV.sl 4 (List.map A4 p_l),iA r.2.1,iA r.2.2.1,iA r.2.2.2]]):=by
 intro h;rcases n with _|n;cases h
 rw[G4] at h
 refine Ai Tryz.func15 (by rfl) rfl rfl (Ap rfl) ?_
 intro call hc;conv=>lhs;whnf
 revert h
 refine ca hc (fun _ h=>Vr h) ?_;intro y1
 refine br ?_ ?_
 exact rz
 refine ca hc (fun _ h=>Ja h) ?_;intro y4
 exact rz
theorem A6a {n:Nat} ⦃En:A5⦄ ⦃r:Bool⦄:Rw n En=some r→CN n 58 [AV.agg [iA En.A7,sA En.Ac,iA En.Bs,iA En.Ab]] []=some (bA r,[]):=by
 intro h;rcases n with _|n;cases h
 rw[Rw] at h
 refine Ai Tryz.func58 (by rfl) rfl rfl (Ap rfl) ?_
 intro call hc;conv=>lhs;whnf
 revert h
 refine br ?_ ?_
 refine ca hc (fun _ h=>Gc h) ?_;intro y2
 exact rz
 exact rz
theorem W3 {n:Nat} ⦃p_l:(List A5)⦄ ⦃p_i:Int⦄ ⦃p_e:Int⦄ ⦃p_at:Int⦄ ⦃r:(A5×Bool×Int)⦄:Hj n p_l p_i p_e p_at=some r→CN n 19 [AV.ptr 0 0,AV.func 58 [] []] [Ob.var 53 [AV.sl 4 (List.map A4 p_l),iA p_i,iA p_e,iA p_at]]=some (AV.tup [AV.agg [iA r.1.A7,sA r.1.Ac,iA r.1.Bs,iA r.1.Ab],bA r.2.1],[Ob.var 53 [AV.sl 4 (List.map A4 p_l),iA r.2.2,iA p_e,iA p_at]]):=by
 intro h;rcases n with _|n;cases h
 rw[Hj] at h
 refine Ai Tryz.func19 (by rfl) rfl rfl (Ap rfl) ?_
 intro call hc;conv=>lhs;whnf
 revert h
 refine br ?_ ?_
 exact rz
 refine br ?_ ?_
 exact rz
 refine ix ?_;intro x3
 refine ca hc (fun _ h=>A6a h) ?_;intro y4
 refine br ?_ ?_
 refine ix ?_;intro x7
 exact rz
 exact rz
theorem Lr {n:Nat} ⦃p_l:(List A5)⦄ ⦃p_i:Int⦄ ⦃p_e:Int⦄ ⦃p_at:Int⦄ ⦃r:(A5×Int×Int×Int)⦄:F2 n p_l p_i p_e p_at=some r→CN n 15 [AV.ptr 0 0,AV.func 58 [] []] [Ob.var 53 [AV.sl 4 (List.map A4 p_l),iA p_i,iA p_e,iA p_at]]=some (AV.agg [iA r.1.A7,sA r.1.Ac,iA r.1.Bs,iA r.1.Ab],[Ob.var 53 [AV.sl 4 (List.map A4 p_l),iA r.2.1,iA r.2.2.1,iA r.2.2.2]]):=by
 intro h;rcases n with _|n;cases h
 rw[F2] at h
 refine Ai Tryz.func15 (by rfl) rfl rfl (Ap rfl) ?_
 intro call hc;conv=>lhs;whnf
 revert h
 refine ca hc (fun _ h=>W3 h) ?_;intro y1
 refine br ?_ ?_
 exact rz
 refine ca hc (fun _ h=>Ja h) ?_;intro y4
 exact rz
theorem Yf {n:Nat} ⦃Dc:Int⦄ ⦃p_l:(List A5)⦄ ⦃p_i:Int⦄ ⦃p_e:Int⦄ ⦃p_at:Int⦄ ⦃r:(Aw×Int×Int×Int)⦄:J8 n Dc p_l p_i p_e p_at=some r→CN n 20 [AV.ptr 0 0,iA Dc] [Ob.var 53 [AV.sl 4 (List.map A4 p_l),iA p_i,iA p_e,iA p_at]]=some (AV.agg [sA r.1.Ao,iA r.1.Bs,iA r.1.Ab],[Ob.var 53 [AV.sl 4 (List.map A4 p_l),iA r.2.1,iA r.2.2.1,iA r.2.2.2]]):=by
 intro h;rcases n with _|n;cases h
 rw[J8] at h
 refine Ai Tryz.func20 (by rfl) rfl rfl (Ap rfl) ?_
 intro call hc;conv=>lhs;whnf
 revert h
 refine ca hc (fun _ h=>Lr h) ?_;intro y1
 refine ca hc (fun _ h=>Cu h) ?_;intro y3
 refine ca hc (fun _ h=>Qm h) ?_;intro y5
 refine ca hc (fun _ h=>Cu h) ?_;intro y7
 exact rz
theorem Vz {n:Nat} ⦃Dc:Int⦄ ⦃p_l:(List A5)⦄ ⦃p_i:Int⦄ ⦃p_e:Int⦄ ⦃p_at:Int⦄ ⦃r:(Ae×Int×Int×Int)⦄:Hl n Dc p_l p_i p_e p_at=some r→CN n 21 [AV.ptr 0 0,iA Dc] [Ob.var 53 [AV.sl 4 (List.map A4 p_l),iA p_i,iA p_e,iA p_at]]=some (AV.agg [sA r.1.Ao,AV.sl 1 (List.map Dv r.1.Bh),AV.sl 9 (List.map A9 r.1.B5),iA r.1.Ab],[Ob.var 53 [AV.sl 4 (List.map A4 p_l),iA r.2.1,iA r.2.2.1,iA r.2.2.2]]):=by
 intro h;rcases n with _|n;cases h
 rw[Hl] at h
 refine W7 Tryz.func21 (by rfl) rfl rfl (Ap rfl) ?_
 intro call hc hcA;conv=>lhs;whnf
 revert h
 refine ca hc (fun _ h=>Lr h) ?_;intro y1
 refine ca hc (fun _ h=>Cu h) ?_;intro y3
 intro h
 obtain⟨n5,hn9,h⟩:=Lt h
 obtain⟨call6,hc7,ho8⟩:=Hx (f:=16) (args:=[iA (1),sA (([114,101,103]:List UInt8))]) (hp:=[]) hcA hn9 Tryz.func16 (by rfl) rfl rfl (Ap rfl)
 try simp only[ls]
 simp only[ho8]
 conv=>lhs;whnf
 revert h
 refine ca hc (fun _ h=>Ej h) ?_;intro y10
 refine br ?_ ?_
 intro h;refine As h ?_;clear h;intro o25 ho25 h
 refine lq (σ:=(Bool×Int×Int×Int×(List (List UInt8)))) (τ:=(Int×Int×Int×(List (List UInt8)))) (ν:=(Ae×Int×Int×Int)) 0 (fun(s13,s14,s15,s16,s17) a19=>B9 82 [(0,AV.ptr 0 0),(4,AV.ptr 1 0),(5,AV.ptr 2 0),(8,bA s13)]) (fun(s13,s14,s15,s16,s17) a19=>[Ob.var 53 [AV.sl 4 (List.map A4 p_l),iA s14,iA s15,iA s16],Ob.var 39 [sA (([]:List UInt8)),AV.row 6 (List.length (([]:List (List UInt8)))),AV.row 7 (List.length (([]:List A0))),iA (0)],Ob.var 39 [sA y1.1.Ac,AV.row 8 (List.length s17),AV.row 9 (List.length (([]:List A0))),iA Dc],Ob.var 3 [iA (1)],Ob.var 9 [sA (([114,101,103]:List UInt8))],Ob.var 55 [iA y10.1.A7,sA y10.1.Ac,iA y10.1.Bs,iA y10.1.Ab],Ob.row 9 1 ([]),Ob.row 83 9 ([]),Ob.row 9 1 (List.map Dv s17),Ob.row 83 9 ([])]) (fun(x39,x40,x41,x42) a38=>B9 82 [(0,AV.ptr 0 0),(4,AV.ptr 1 0),(5,AV.ptr 2 0)]) (fun(x39,x40,x41,x42) a38=>[Ob.var 53 [AV.sl 4 (List.map A4 p_l),iA x39,iA x40,iA x41],Ob.var 39 [sA (([]:List UInt8)),AV.row 6 (List.length (([]:List (List UInt8)))),AV.row 7 (List.length (([]:List A0))),iA (0)],Ob.var 39 [sA y1.1.Ac,AV.row 8 (List.length x42),AV.row 9 (List.length (([]:List A0))),iA Dc],Ob.var 3 [iA (1)],Ob.var 9 [sA (([114,101,103]:List UInt8))],Ob.var 55 [iA y10.1.A7,sA y10.1.Ac,iA y10.1.Bs,iA y10.1.Ab],Ob.row 9 1 ([]),Ob.row 83 9 ([]),Ob.row 9 1 (List.map Dv x42),Ob.row 83 9 ([])]) (fun v=>(AV.agg [sA v.1.Ao,AV.sl 1 (List.map Dv v.1.Bh),AV.sl 9 (List.map A9 v.1.B5),iA v.1.Ab],[Ob.var 53 [AV.sl 4 (List.map A4 p_l),iA v.2.1,iA v.2.2.1,iA v.2.2.2]])) (fun k s=>Dj n p_l k s.1 s.2.1 s.2.2.1 s.2.2.2.1 s.2.2.2.2) (fun s=>rfl) o25 n (true,y10.2.2,y3.2.1,y3.2.2,([]:List (List UInt8))) (fun _=>0) ho25 ?_ ?_
 intro k18 ss a19 K20 cont21 hK22 hcont23 h hr24
 obtain⟨s13,s14,s15,s16,s17⟩:=ss
 replace h:Dj n p_l (k18+1) s13 s14 s15 s16 s17=some o25:=h
 rw[Dj] at h
 conv=>lhs;whnf
 revert h
 refine br ?_ ?_
 refine ca hc (fun _ h=>Lr h) ?_;intro y27
 refine ar (ap Dv (List.map Dv s17) s17 ([[sA y27.1.Ac]]) ([y27.1.Ac]:List (List UInt8))) ?_
 intro h
 obtain⟨n31,hn35,h⟩:=Lt h
 obtain⟨call32,hc33,ho34⟩:=Hx (f:=16) (args:=[iA (3),sA (([44]:List UInt8))]) (hp:=[]) hcA hn35 Tryz.func16 (by rfl) rfl rfl (Ap rfl)
 try simp only[ls]
 simp only[ho34]
 conv=>lhs;whnf
 revert h
 refine ca hc (fun _ h=>Ej h) ?_;intro y36
 exact fun h=>cq (hcont23 (y36.2.1,y36.2.2,y27.2.2.1,y27.2.2.2,(s17++([y27.1.Ac]:List (List UInt8)))) (fun _=>0) h)
 intro h;cases sj h
 exact kq (hr24 (fun _=>0))
 refine lrc ?_ ?_
 intro v e;subst e;cases sj h;rfl
 intro t a38 e;subst e
 obtain⟨x39,x40,x41,x42⟩:=t
 dsimp only at h
 conv=>lhs;whnf
 revert h
 refine ca hc (fun _ h=>Cu h) ?_;intro y43
 refine br ?_ ?_
 intro h;cases sj h
 try simp only[ls]
 exact fq (y:=some (AV.agg [sA y1.1.Ac,AV.sl 1 (List.take (List.length x42) (List.map Dv x42)),AV.sl 9 (List.take (List.length (([]:List A0))) ([])),iA Dc],[Ob.var 53 [AV.sl 4 (List.map A4 p_l),iA y43.1,iA y43.2.1,iA y43.2.2]]))
 refine ca hc (fun _ h=>Xc h) ?_;intro y46
 refine ca hc (fun _ h=>F1 h) ?_;intro y48
 refine br ?_ ?_
 refine ca hc (fun _ h=>Cu h) ?_;intro y51
 intro h;cases sj h
 try simp only[ls]
 exact fq (y:=some (AV.agg [sA y1.1.Ac,AV.sl 1 (List.take (List.length x42) (List.map Dv x42)),AV.sl 9 (List.map A9 y46.1),iA Dc],[Ob.var 53 [AV.sl 4 (List.map A4 p_l),iA y51.1,iA y51.2.1,iA y51.2.2]]))
 refine ca hc (fun _ h=>Cu h) ?_;intro y53
 intro h;cases sj h
 try simp only[ls]
 exact fq (y:=some (AV.agg [sA y1.1.Ac,AV.sl 1 (List.take (List.length x42) (List.map Dv x42)),AV.sl 9 (List.map A9 y46.1),iA Dc],[Ob.var 53 [AV.sl 4 (List.map A4 p_l),iA y53.1,iA y53.2.1,iA y53.2.2]]))
 refine br ?_ ?_
 exact rz
 refine ca hc (fun _ h=>Xc h) ?_;intro y57
 refine ca hc (fun _ h=>F1 h) ?_;intro y59
 refine br ?_ ?_
 refine ca hc (fun _ h=>Cu h) ?_;intro y62
 exact rz
 refine ca hc (fun _ h=>Cu h) ?_;intro y64
 exact rz
theorem Tt {n:Nat} ⦃Ds:Int⦄ ⦃r:(List UInt8)⦄:Km n Ds=some r→CN n 22 [iA Ds] []=some (sA r,[]):=by
 intro h;rcases n with _|n;cases h
 rw[Km] at h
 refine Ai Tryz.func22 (by rfl) rfl rfl (Ap rfl) ?_
 intro call hc;conv=>lhs;whnf
 revert h
 refine br ?_ ?_
 exact rz
 refine br ?_ ?_
 exact rz
 refine br ?_ ?_
 exact rz
 exact rz
theorem A4x {n:Nat} ⦃E1:Int⦄ ⦃r:Bool⦄:Nt n E1=some r→CN n 54 [AV.int .i32 E1] []=some (bA r,[]):=by
 intro h;rcases n with _|n;cases h
 rw[Nt] at h
 refine Ai Tryz.func54 (by rfl) rfl rfl (Ap rfl) ?_
 intro call hc;conv=>lhs;whnf
 revert h
 refine br ?_ ?_
 exact rz
 exact rz
theorem A2w {n:Nat} ⦃E1:Int⦄ ⦃r:Bool⦄:Me n E1=some r→CN n 52 [AV.int .i32 E1] []=some (bA r,[]):=by
 intro h;rcases n with _|n;cases h
 rw[Me] at h
 refine Ai Tryz.func52 (by rfl) rfl rfl (Ap rfl) ?_
 intro call hc;conv=>lhs;whnf
 revert h
 refine br ?_ ?_
 refine br ?_ ?_
 exact rz
 refine br ?_ ?_
 refine br ?_ ?_
 exact rz
 exact rz
 exact rz
 refine br ?_ ?_
 refine br ?_ ?_
 exact rz
 exact rz
 exact rz
theorem A79 {n:Nat} ⦃B7:(List UInt8)⦄ ⦃r:Int⦄:Pq n B7=some r→CN n 56 [sA B7] []=some (iA r,[]):=by
 intro h;rcases n with _|n;cases h
 rw[Pq] at h
 refine Ai Tryz.func56 (by rfl) rfl rfl (Ap rfl) ?_
 intro call hc;conv=>lhs;whnf
 revert h
 refine br ?_ ?_
 refine cp ?_
 refine br ?_ ?_
 exact rz
 refine br ?_ ?_
 exact rz
 refine br ?_ ?_
 exact rz
 refine br ?_ ?_
 exact rz
 refine br ?_ ?_
 exact rz
 refine ixs ?_;intro x8
 refine br ?_ ?_
 exact rz
 refine br ?_ ?_
 exact rz
 refine br ?_ ?_
 exact rz
 refine br ?_ ?_
 exact rz
 refine br ?_ ?_
 exact rz
 refine br ?_ ?_
 exact rz
 refine br ?_ ?_
 exact rz
 refine br ?_ ?_
 exact rz
 refine br ?_ ?_
 exact rz
 refine br ?_ ?_
 exact rz
 refine br ?_ ?_
 exact rz
 refine br ?_ ?_
 exact rz
 refine br ?_ ?_
 exact rz
 exact rz
 refine ixs ?_;intro x22
 refine br ?_ ?_
 exact rz
 refine br ?_ ?_
 exact rz
 refine br ?_ ?_
 exact rz
 refine br ?_ ?_
 exact rz
 refine br ?_ ?_
 exact rz
 refine br ?_ ?_
 exact rz
 refine br ?_ ?_
 exact rz
 refine br ?_ ?_
 exact rz
 refine br ?_ ?_
 exact rz
 refine br ?_ ?_
 exact rz
 refine br ?_ ?_
 exact rz
 refine br ?_ ?_
 exact rz
 refine br ?_ ?_
 exact rz
 exact rz
theorem A7a {n:Nat} ⦃B7:(List UInt8)⦄ ⦃r:((List A5)×Int×Int)⦄:Pf n B7=some r→CN n 14 [sA B7] []=some (AV.tup [AV.sl 4 (List.map A4 r.1),iA r.2.1,iA r.2.2],[]):=by
 intro h;rcases n with _|n;cases h
 rw[Pf] at h
 refine Ai Tryz.func14 (by rfl) rfl rfl (Ap rfl) ?_
 intro call hc;conv=>lhs;whnf
 revert h
 refine br ?_ ?_
 exact rz
 intro h;refine As h ?_;clear h;intro o11 ho11 h
 refine lq (σ:=(Int×(List A5))) (τ:=(List A5)) (ν:=((List A5)×Int×Int)) 0 (fun(s2,s3) a5=>B9 104 [(0,sA B7),(5,AV.row 0 (List.length s3)),(6,iA s2)]) (fun(s2,s3) a5=>[Ob.row 55 4 (List.map A4 s3)]) (fun x50 a49=>B9 104 [(5,AV.row 0 (List.length x50))]) (fun x50 a49=>[Ob.row 55 4 (List.map A4 x50)]) (fun v=>(AV.tup [AV.sl 4 (List.map A4 v.1),iA v.2.1,iA v.2.2],[])) (fun k s=>D1 n B7 k s.1 s.2) (fun s=>rfl) o11 n (0,([]:List A5)) (fun _=>0) ho11 ?_ ?_
 intro k4 ss a5 K6 cont7 hK8 hcont9 h hr10
 obtain⟨s2,s3⟩:=ss
 replace h:D1 n B7 (k4+1) s2 s3=some o11:=h
 rw[D1] at h
 conv=>lhs;whnf
 revert h
 refine br ?_ ?_
 refine cp ?_
 refine ixs ?_;intro x14
 refine br ?_ ?_
 exact fun h=>cq (hcont9 (IntKind.i64.wrap (s2+1),s3) (fun _=>0) h)
 refine br ?_ ?_
 exact fun h=>cq (hcont9 (IntKind.i64.wrap (s2+1),s3) (fun _=>0) h)
 refine br ?_ ?_
 exact fun h=>cq (hcont9 (IntKind.i64.wrap (s2+1),s3) (fun _=>0) h)
 refine br ?_ ?_
 exact fun h=>cq (hcont9 (IntKind.i64.wrap (s2+1),s3) (fun _=>0) h)
 refine br ?_ ?_
 refine cr hc (fun _ h=>Zf h) ?_;intro y20
 exact fun h=>cq (hcont9 (IntKind.i64.wrap (s2+y20),s3) (fun _=>0) h)
 refine ca hc (fun _ h=>A2w h) ?_;intro y22
 refine br ?_ ?_
 refine cr hc (fun _ h=>Ze h) ?_;intro y25
 refine br ?_ ?_
 intro h;cases sj h
 refine(hK8 _ _).trans ?_
 refine Eq.trans ?_ (Eq.symm (show _=some _ from hr10))
 conv=>lhs;whnf
 exact rq
 refine cp ?_
 refine ar (ap A4 (List.map A4 s3) s3 ([[iA (1),sA ((List.drop 0 (List.take (y25.toNat) (List.drop (s2.toNat) (List.take (B7.length) B7))))),iA (0),iA s2]]) ([(⟨1,(List.drop 0 (List.take (y25.toNat) (List.drop (s2.toNat) (List.take (B7.length) B7)))),0,s2⟩:A5)]:List A5)) ?_
 exact fun h=>cq (hcont9 (IntKind.i64.wrap (s2+((((List.drop 0 (List.take (y25.toNat) (List.drop (s2.toNat) (List.take (B7.length) B7))))).length:Nat):Int)),(s3++([(⟨1,(List.drop 0 (List.take (y25.toNat) (List.drop (s2.toNat) (List.take (B7.length) B7)))),0,s2⟩:A5)]:List A5))) (fun _=>0) h)
 refine ca hc (fun _ h=>A4x h) ?_;intro y31
 refine br ?_ ?_
 refine cr hc (fun _ h=>Zt h) ?_;intro y34
 refine cp ?_
 refine cp ?_
 refine cr hc (fun _ h=>Ab4 h) ?_;intro y38
 refine br ?_ ?_
 intro h;cases sj h
 refine(hK8 _ _).trans ?_
 refine Eq.trans ?_ (Eq.symm (show _=some _ from hr10))
 conv=>lhs;whnf
 exact rq
 refine ar (ap A4 (List.map A4 s3) s3 ([[iA (2),sA ((List.drop 0 (List.take (y34.toNat) (List.drop (s2.toNat) (List.take (B7.length) B7))))),iA y38,iA s2]]) ([(⟨2,(List.drop 0 (List.take (y34.toNat) (List.drop (s2.toNat) (List.take (B7.length) B7)))),y38,s2⟩:A5)]:List A5)) ?_
 exact fun h=>cq (hcont9 (IntKind.i64.wrap (s2+((((List.drop 0 (List.take (y34.toNat) (List.drop (s2.toNat) (List.take (B7.length) B7))))).length:Nat):Int)),(s3++([(⟨2,(List.drop 0 (List.take (y34.toNat) (List.drop (s2.toNat) (List.take (B7.length) B7)))),y38,s2⟩:A5)]:List A5))) (fun _=>0) h)
 refine cr hc (fun _ h=>A79 h) ?_;intro y43
 refine br ?_ ?_
 intro h;cases sj h
 refine(hK8 _ _).trans ?_
 refine Eq.trans ?_ (Eq.symm (show _=some _ from hr10))
 conv=>lhs;whnf
 exact rq
 refine cp ?_
 refine ar (ap A4 (List.map A4 s3) s3 ([[iA (3),sA ((List.drop 0 (List.take (y43.toNat) (List.drop (s2.toNat) (List.take (B7.length) B7))))),iA (0),iA s2]]) ([(⟨3,(List.drop 0 (List.take (y43.toNat) (List.drop (s2.toNat) (List.take (B7.length) B7)))),0,s2⟩:A5)]:List A5)) ?_
 exact fun h=>cq (hcont9 (IntKind.i64.wrap (s2+((((List.drop 0 (List.take (y43.toNat) (List.drop (s2.toNat) (List.take (B7.length) B7))))).length:Nat):Int)),(s3++([(⟨3,(List.drop 0 (List.take (y43.toNat) (List.drop (s2.toNat) (List.take (B7.length) B7)))),0,s2⟩:A5)]:List A5))) (fun _=>0) h)
 intro h;cases sj h
 exact kq (hr10 (fun _=>0))
 refine lrc ?_ ?_
 intro v e;subst e;cases sj h;rfl
 intro x50 a49 e;subst e
 dsimp only at h
 conv=>lhs;whnf
 revert h
 intro h;cases sj h
 try simp only[ls]
 exact fq (y:=some (AV.tup [AV.sl 4 (List.take (List.length x50) (List.map A4 x50)),iA (0),iA (0)],[]))
theorem Mc {n:Nat} ⦃B7:(List UInt8)⦄ ⦃r:(Az×Int×Int)⦄:Gj n B7=some r→CN n 6 [sA B7] []=some (AV.tup [AV.agg [iA r.1.Bo,AV.sl 3 (List.map Am r.1.B0),AV.sl 4 (List.map Ad r.1.Ak),AV.sl 3 (List.map Aj r.1.Ar)],iA r.2.1,iA r.2.2],[]):=by
 intro h;rcases n with _|n;cases h
 rw[Gj] at h
 refine W7 Tryz.func6 (by rfl) rfl rfl (Ap rfl) ?_
 intro call hc hcA;conv=>lhs;whnf
 revert h
 refine ca hc (fun _ h=>A7a h) ?_;intro y1
 refine br ?_ ?_
 exact rz
 intro h
 obtain⟨n4,hn8,h⟩:=Lt h
 obtain⟨call5,hc6,ho7⟩:=Hx (f:=16) (args:=[iA (1),sA (([109,111,100]:List UInt8))]) (hp:=[]) hcA hn8 Tryz.func16 (by rfl) rfl rfl (Ap rfl)
 try simp only[ls]
 simp only[ho7]
 conv=>lhs;whnf
 revert h
 refine ca hc (fun _ h=>Rh h) ?_;intro y9
 refine ca hc (fun _ h=>Qm h) ?_;intro y11
 refine ca hc (fun _ h=>Cu h) ?_;intro y13
 intro h
 obtain⟨n15,hn19,h⟩:=Lt h
 obtain⟨call16,hc17,ho18⟩:=Hx (f:=16) (args:=[iA (1),sA (([108,111,99]:List UInt8))]) (hp:=[]) hcA hn19 Tryz.func16 (by rfl) rfl rfl (Ap rfl)
 try simp only[ls]
 simp only[ho18]
 conv=>lhs;whnf
 revert h
 refine ca hc (fun _ h=>Ej h) ?_;intro y20
 intro h;refine As h ?_;clear h;intro o38 ho38 h
 refine lq (σ:=(Bool×Int×Int×Int×Int×(List UInt8)×Int×Int×(List Aw))) (τ:=(Int×Int×Int×Int×(List UInt8)×Int×Int×(List Aw))) (ν:=(Az×Int×Int)) 0 (fun(s22,s23,s24,s25,s26,s27,s28,s29,s30) a32=>B9 135 [(2,AV.ptr 0 0),(5,AV.sl 4 (List.map A4 y1.1)),(8,AV.ptr 1 0),(9,AV.ptr 2 0),(10,AV.ptr 7 0),(11,bA s22)]) (fun(s22,s23,s24,s25,s26,s27,s28,s29,s30) a32=>[Ob.var 27 [iA (0),AV.row 8 (List.length (([]:List Aw))),AV.row 9 (List.length (([]:List Ae))),AV.row 10 (List.length (([]:List Ag)))],Ob.var 53 [AV.sl 4 (List.map A4 y1.1),iA s23,iA s24,iA s25],Ob.var 27 [iA y11.1.Bs,AV.row 11 (List.length s30),AV.row 12 (List.length (([]:List Ae))),AV.row 13 (List.length (([]:List Ag)))],Ob.var 3 [iA (1)],Ob.var 9 [sA (([109,111,100]:List UInt8))],Ob.var 3 [iA (1)],Ob.var 9 [sA (([108,111,99]:List UInt8))],Ob.var 55 [iA s26,sA s27,iA s28,iA s29],Ob.row 45 3 ([]),Ob.row 39 4 ([]),Ob.row 42 3 ([]),Ob.row 45 3 (List.map Am s30),Ob.row 39 4 ([]),Ob.row 42 3 ([])]) (fun(x52,x53,x54,x55,x56,x57,x58,x59) a51=>B9 135 [(2,AV.ptr 0 0),(5,AV.sl 4 (List.map A4 y1.1)),(8,AV.ptr 1 0),(9,AV.ptr 2 0)]) (fun(x52,x53,x54,x55,x56,x57,x58,x59) a51=>[Ob.var 27 [iA (0),AV.row 8 (List.length (([]:List Aw))),AV.row 9 (List.length (([]:List Ae))),AV.row 10 (List.length (([]:List Ag)))],Ob.var 53 [AV.sl 4 (List.map A4 y1.1),iA x52,iA x53,iA x54],Ob.var 27 [iA y11.1.Bs,AV.row 11 (List.length x59),AV.row 12 (List.length (([]:List Ae))),AV.row 13 (List.length (([]:List Ag)))],Ob.var 3 [iA (1)],Ob.var 9 [sA (([109,111,100]:List UInt8))],Ob.var 3 [iA (1)],Ob.var 9 [sA (([108,111,99]:List UInt8))],Ob.var 55 [iA x55,sA x56,iA x57,iA x58],Ob.row 45 3 ([]),Ob.row 39 4 ([]),Ob.row 42 3 ([]),Ob.row 45 3 (List.map Am x59),Ob.row 39 4 ([]),Ob.row 42 3 ([])]) (fun v=>(AV.tup [AV.agg [iA v.1.Bo,AV.sl 3 (List.map Am v.1.B0),AV.sl 4 (List.map Ad v.1.Ak),AV.sl 3 (List.map Aj v.1.Ar)],iA v.2.1,iA v.2.2],[])) (fun k s=>Ix n y1 k s.1 s.2.1 s.2.2.1 s.2.2.2.1 s.2.2.2.2.1 s.2.2.2.2.2.1 s.2.2.2.2.2.2.1 s.2.2.2.2.2.2.2.1 s.2.2.2.2.2.2.2.2) (fun s=>rfl) o38 n (y20.2.1,y20.2.2,y13.2.1,y13.2.2,y20.1.A7,y20.1.Ac,y20.1.Bs,y20.1.Ab,([]:List Aw)) (fun _=>0) ho38 ?_ ?_
 intro k31 ss a32 K33 cont34 hK35 hcont36 h hr37
 obtain⟨s22,s23,s24,s25,s26,s27,s28,s29,s30⟩:=ss
 replace h:Ix n y1 (k31+1) s22 s23 s24 s25 s26 s27 s28 s29 s30=some o38:=h
 rw[Ix] at h
 conv=>lhs;whnf
 revert h
 refine br ?_ ?_
 refine ca hc (fun _ h=>Yf h) ?_;intro y40
 refine ar (ap Am (List.map Am s30) s30 ([[sA y40.1.Ao,iA y40.1.Bs,iA y40.1.Ab]]) ([y40.1]:List Aw)) ?_
 intro h
 obtain⟨n44,hn48,h⟩:=Lt h
 obtain⟨call45,hc46,ho47⟩:=Hx (f:=16) (args:=[iA (1),sA (([108,111,99]:List UInt8))]) (hp:=[]) hcA hn48 Tryz.func16 (by rfl) rfl rfl (Ap rfl)
 try simp only[ls]
 simp only[ho47]
 conv=>lhs;whnf
 revert h
 refine ca hc (fun _ h=>Ej h) ?_;intro y49
 exact fun h=>cq (hcont36 (y49.2.1,y49.2.2,y40.2.2.1,y40.2.2.2,y49.1.A7,y49.1.Ac,y49.1.Bs,y49.1.Ab,(s30++([y40.1]:List Aw))) (fun _=>0) h)
 intro h;cases sj h
 exact kq (hr37 (fun _=>0))
 refine lrc ?_ ?_
 intro v e;subst e;cases sj h;rfl
 intro t a51 e;subst e
 obtain⟨x52,x53,x54,x55,x56,x57,x58,x59⟩:=t
 dsimp only at h
 conv=>lhs;whnf
 revert h
 intro h
 obtain⟨n60,hn64,h⟩:=Lt h
 obtain⟨call61,hc62,ho63⟩:=Hx (f:=16) (args:=[iA (1),sA (([116,104,114,101,97,100]:List UInt8))]) (hp:=[]) hcA hn64 Tryz.func16 (by rfl) rfl rfl (Ap rfl)
 try simp only[ls]
 simp only[ho63]
 conv=>lhs;whnf
 revert h
 refine ca hc (fun _ h=>Ej h) ?_;intro y65
 intro h;refine As h ?_;clear h;intro o83 ho83 h
 refine lq (σ:=(Bool×Int×Int×Int×(List Ae)×Int×(List UInt8)×Int×Int)) (τ:=(Int×Int×Int×Int×(List UInt8)×Int×Int×(List Ae))) (ν:=(Az×Int×Int)) 2 (fun(s67,s68,s69,s70,s71,s72,s73,s74,s75) a77=>B9 135 [(2,AV.ptr 0 0),(5,AV.sl 4 (List.map A4 y1.1)),(8,AV.ptr 1 0),(9,AV.ptr 2 0),(12,AV.ptr 16 0),(13,bA s67)]) (fun(s67,s68,s69,s70,s71,s72,s73,s74,s75) a77=>[Ob.var 27 [iA (0),AV.row 8 (List.length (([]:List Aw))),AV.row 9 (List.length (([]:List Ae))),AV.row 10 (List.length (([]:List Ag)))],Ob.var 53 [AV.sl 4 (List.map A4 y1.1),iA s68,iA s69,iA s70],Ob.var 27 [iA y11.1.Bs,AV.row 11 (List.length x59),AV.row 12 (List.length s71),AV.row 13 (List.length (([]:List Ag)))],Ob.var 3 [iA (1)],Ob.var 9 [sA (([109,111,100]:List UInt8))],Ob.var 3 [iA (1)],Ob.var 9 [sA (([108,111,99]:List UInt8))],Ob.var 55 [iA x55,sA x56,iA x57,iA x58],Ob.row 45 3 ([]),Ob.row 39 4 ([]),Ob.row 42 3 ([]),Ob.row 45 3 (List.map Am x59),Ob.row 39 4 (List.map Ad s71),Ob.row 42 3 ([]),Ob.var 3 [iA (1)],Ob.var 9 [sA (([116,104,114,101,97,100]:List UInt8))],Ob.var 55 [iA s72,sA s73,iA s74,iA s75]]) (fun(x97,x98,x99,x100,x101,x102,x103,x104) a96=>B9 135 [(2,AV.ptr 0 0),(5,AV.sl 4 (List.map A4 y1.1)),(8,AV.ptr 1 0),(9,AV.ptr 2 0)]) (fun(x97,x98,x99,x100,x101,x102,x103,x104) a96=>[Ob.var 27 [iA (0),AV.row 8 (List.length (([]:List Aw))),AV.row 9 (List.length (([]:List Ae))),AV.row 10 (List.length (([]:List Ag)))],Ob.var 53 [AV.sl 4 (List.map A4 y1.1),iA x97,iA x98,iA x99],Ob.var 27 [iA y11.1.Bs,AV.row 11 (List.length x59),AV.row 12 (List.length x104),AV.row 13 (List.length (([]:List Ag)))],Ob.var 3 [iA (1)],Ob.var 9 [sA (([109,111,100]:List UInt8))],Ob.var 3 [iA (1)],Ob.var 9 [sA (([108,111,99]:List UInt8))],Ob.var 55 [iA x55,sA x56,iA x57,iA x58],Ob.row 45 3 ([]),Ob.row 39 4 ([]),Ob.row 42 3 ([]),Ob.row 45 3 (List.map Am x59),Ob.row 39 4 (List.map Ad x104),Ob.row 42 3 ([]),Ob.var 3 [iA (1)],Ob.var 9 [sA (([116,104,114,101,97,100]:List UInt8))],Ob.var 55 [iA x100,sA x101,iA x102,iA x103]]) (fun v=>(AV.tup [AV.agg [iA v.1.Bo,AV.sl 3 (List.map Am v.1.B0),AV.sl 4 (List.map Ad v.1.Ak),AV.sl 3 (List.map Aj v.1.Ar)],iA v.2.1,iA v.2.2],[])) (fun k s=>Iy n y1 k s.1 s.2.1 s.2.2.1 s.2.2.2.1 s.2.2.2.2.1 s.2.2.2.2.2.1 s.2.2.2.2.2.2.1 s.2.2.2.2.2.2.2.1 s.2.2.2.2.2.2.2.2) (fun s=>rfl) o83 n (y65.2.1,y65.2.2,x53,x54,([]:List Ae),y65.1.A7,y65.1.Ac,y65.1.Bs,y65.1.Ab) (fun _=>0) ho83 ?_ ?_
 intro k76 ss a77 K78 cont79 hK80 hcont81 h hr82
 obtain⟨s67,s68,s69,s70,s71,s72,s73,s74,s75⟩:=ss
 replace h:Iy n y1 (k76+1) s67 s68 s69 s70 s71 s72 s73 s74 s75=some o83:=h
 rw[Iy] at h
 conv=>lhs;whnf
 revert h
 refine br ?_ ?_
 refine ca hc (fun _ h=>Vz h) ?_;intro y85
 refine ar (ap Ad (List.map Ad s71) s71 ([[sA y85.1.Ao,AV.sl 1 (List.map Dv y85.1.Bh),AV.sl 9 (List.map A9 y85.1.B5),iA y85.1.Ab]]) ([y85.1]:List Ae)) ?_
 intro h
 obtain⟨n89,hn93,h⟩:=Lt h
 obtain⟨call90,hc91,ho92⟩:=Hx (f:=16) (args:=[iA (1),sA (([116,104,114,101,97,100]:List UInt8))]) (hp:=[]) hcA hn93 Tryz.func16 (by rfl) rfl rfl (Ap rfl)
 try simp only[ls]
 simp only[ho92]
 conv=>lhs;whnf
 revert h
 refine ca hc (fun _ h=>Ej h) ?_;intro y94
 exact fun h=>cq (hcont81 (y94.2.1,y94.2.2,y85.2.2.1,y85.2.2.2,(s71++([y85.1]:List Ae)),y94.1.A7,y94.1.Ac,y94.1.Bs,y94.1.Ab) (fun _=>0) h)
 intro h;cases sj h
 exact kq (hr82 (fun _=>0))
 refine lrc ?_ ?_
 intro v e;subst e;cases sj h;rfl
 intro t a96 e;subst e
 obtain⟨x97,x98,x99,x100,x101,x102,x103,x104⟩:=t
 dsimp only at h
 conv=>lhs;whnf
 revert h
 intro h;refine As h ?_;clear h;intro o117 ho117 h
 refine lq (σ:=(Bool×Int×Int×Int×(List Ag))) (τ:=(Int×Int×Int×(List Ag))) (ν:=(Az×Int×Int)) 4 (fun(s105,s106,s107,s108,s109) a111=>B9 135 [(2,AV.ptr 0 0),(5,AV.sl 4 (List.map A4 y1.1)),(8,AV.ptr 1 0),(9,AV.ptr 2 0),(14,bA s105)]) (fun(s105,s106,s107,s108,s109) a111=>[Ob.var 27 [iA (0),AV.row 8 (List.length (([]:List Aw))),AV.row 9 (List.length (([]:List Ae))),AV.row 10 (List.length (([]:List Ag)))],Ob.var 53 [AV.sl 4 (List.map A4 y1.1),iA s106,iA s107,iA s108],Ob.var 27 [iA y11.1.Bs,AV.row 11 (List.length x59),AV.row 12 (List.length x104),AV.row 13 (List.length s109)],Ob.var 3 [iA (1)],Ob.var 9 [sA (([109,111,100]:List UInt8))],Ob.var 3 [iA (1)],Ob.var 9 [sA (([108,111,99]:List UInt8))],Ob.var 55 [iA x55,sA x56,iA x57,iA x58],Ob.row 45 3 ([]),Ob.row 39 4 ([]),Ob.row 42 3 ([]),Ob.row 45 3 (List.map Am x59),Ob.row 39 4 (List.map Ad x104),Ob.row 42 3 (List.map Aj s109),Ob.var 3 [iA (1)],Ob.var 9 [sA (([116,104,114,101,97,100]:List UInt8))],Ob.var 55 [iA x100,sA x101,iA x102,iA x103]]) (fun(x156,x157,x158,x159) a155=>B9 135 [(2,AV.ptr 0 0),(5,AV.sl 4 (List.map A4 y1.1)),(8,AV.ptr 1 0),(9,AV.ptr 2 0)]) (fun(x156,x157,x158,x159) a155=>[Ob.var 27 [iA (0),AV.row 8 (List.length (([]:List Aw))),AV.row 9 (List.length (([]:List Ae))),AV.row 10 (List.length (([]:List Ag)))],Ob.var 53 [AV.sl 4 (List.map A4 y1.1),iA x156,iA x157,iA x158],Ob.var 27 [iA y11.1.Bs,AV.row 11 (List.length x59),AV.row 12 (List.length x104),AV.row 13 (List.length x159)],Ob.var 3 [iA (1)],Ob.var 9 [sA (([109,111,100]:List UInt8))],Ob.var 3 [iA (1)],Ob.var 9 [sA (([108,111,99]:List UInt8))],Ob.var 55 [iA x55,sA x56,iA x57,iA x58],Ob.row 45 3 ([]),Ob.row 39 4 ([]),Ob.row 42 3 ([]),Ob.row 45 3 (List.map Am x59),Ob.row 39 4 (List.map Ad x104),Ob.row 42 3 (List.map Aj x159),Ob.var 3 [iA (1)],Ob.var 9 [sA (([116,104,114,101,97,100]:List UInt8))],Ob.var 55 [iA x100,sA x101,iA x102,iA x103]]) (fun v=>(AV.tup [AV.agg [iA v.1.Bo,AV.sl 3 (List.map Am v.1.B0),AV.sl 4 (List.map Ad v.1.Ak),AV.sl 3 (List.map Aj v.1.Ar)],iA v.2.1,iA v.2.2],[])) (fun k s=>Hs n y1 k s.1 s.2.1 s.2.2.1 s.2.2.2.1 s.2.2.2.2) (fun s=>rfl) o117 n (true,x97,x98,x99,([]:List Ag)) (fun _=>0) ho117 ?_ ?_
 intro k110 ss a111 K112 cont113 hK114 hcont115 h hr116
 obtain⟨s105,s106,s107,s108,s109⟩:=ss
 replace h:Hs n y1 (k110+1) s105 s106 s107 s108 s109=some o117:=h
 rw[Hs] at h
 conv=>lhs;whnf
 revert h
 refine br ?_ ?_
 intro h;refine As h ?_;clear h;intro o132 ho132 h
 refine lq (σ:=(Bool×Int×Int×Int×Int×(List Ag))) (τ:=(Bool×Int×Int×Int×(List Ag))) (ν:=(Az×Int×Int)) 6 (fun(s119,s120,s121,s122,s123,s124) a126=>B9 135 [(2,AV.ptr 0 0),(5,AV.sl 4 (List.map A4 y1.1)),(8,AV.ptr 1 0),(9,AV.ptr 2 0),(14,bA s119),(15,iA s120)]) (fun(s119,s120,s121,s122,s123,s124) a126=>[Ob.var 27 [iA (0),AV.row 8 (List.length (([]:List Aw))),AV.row 9 (List.length (([]:List Ae))),AV.row 10 (List.length (([]:List Ag)))],Ob.var 53 [AV.sl 4 (List.map A4 y1.1),iA s121,iA s122,iA s123],Ob.var 27 [iA y11.1.Bs,AV.row 11 (List.length x59),AV.row 12 (List.length x104),AV.row 13 (List.length s124)],Ob.var 3 [iA (1)],Ob.var 9 [sA (([109,111,100]:List UInt8))],Ob.var 3 [iA (1)],Ob.var 9 [sA (([108,111,99]:List UInt8))],Ob.var 55 [iA x55,sA x56,iA x57,iA x58],Ob.row 45 3 ([]),Ob.row 39 4 ([]),Ob.row 42 3 ([]),Ob.row 45 3 (List.map Am x59),Ob.row 39 4 (List.map Ad x104),Ob.row 42 3 (List.map Aj s124),Ob.var 3 [iA (1)],Ob.var 9 [sA (([116,104,114,101,97,100]:List UInt8))],Ob.var 55 [iA x100,sA x101,iA x102,iA x103]]) (fun(x149,x150,x151,x152,x153) a148=>B9 135 [(2,AV.ptr 0 0),(5,AV.sl 4 (List.map A4 y1.1)),(8,AV.ptr 1 0),(9,AV.ptr 2 0),(14,bA x149)]) (fun(x149,x150,x151,x152,x153) a148=>[Ob.var 27 [iA (0),AV.row 8 (List.length (([]:List Aw))),AV.row 9 (List.length (([]:List Ae))),AV.row 10 (List.length (([]:List Ag)))],Ob.var 53 [AV.sl 4 (List.map A4 y1.1),iA x150,iA x151,iA x152],Ob.var 27 [iA y11.1.Bs,AV.row 11 (List.length x59),AV.row 12 (List.length x104),AV.row 13 (List.length x153)],Ob.var 3 [iA (1)],Ob.var 9 [sA (([109,111,100]:List UInt8))],Ob.var 3 [iA (1)],Ob.var 9 [sA (([108,111,99]:List UInt8))],Ob.var 55 [iA x55,sA x56,iA x57,iA x58],Ob.row 45 3 ([]),Ob.row 39 4 ([]),Ob.row 42 3 ([]),Ob.row 45 3 (List.map Am x59),Ob.row 39 4 (List.map Ad x104),Ob.row 42 3 (List.map Aj x153),Ob.var 3 [iA (1)],Ob.var 9 [sA (([116,104,114,101,97,100]:List UInt8))],Ob.var 55 [iA x100,sA x101,iA x102,iA x103]]) (fun v=>(AV.tup [AV.agg [iA v.1.Bo,AV.sl 3 (List.map Am v.1.B0),AV.sl 4 (List.map Ad v.1.Ak),AV.sl 3 (List.map Aj v.1.Ar)],iA v.2.1,iA v.2.2],[])) (fun k s=>E3 n y1 k s.1 s.2.1 s.2.2.1 s.2.2.2.1 s.2.2.2.2.1 s.2.2.2.2.2) (fun s=>rfl) o132 n (false,1,s106,s107,s108,s109) (fun _=>0) ho132 ?_ ?_
 intro k125 ss a126 K127 cont128 hK129 hcont130 h hr131
 obtain⟨s119,s120,s121,s122,s123,s124⟩:=ss
 replace h:E3 n y1 (k125+1) s119 s120 s121 s122 s123 s124=some o132:=h
 rw[E3] at h
 conv=>lhs;whnf
 revert h
 refine br ?_ ?_
 refine ca hc (fun _ h=>Tt h) ?_;intro y134
 intro h
 obtain⟨n136,hn140,h⟩:=Lt h
 obtain⟨call137,hc138,ho139⟩:=Hx (f:=16) (args:=[iA (1),sA y134]) (hp:=[]) hcA hn140 Tryz.func16 (by rfl) rfl rfl (Ap rfl)
 try simp only[ls]
 simp only[ho139]
 conv=>lhs;whnf
 revert h
 refine ca hc (fun _ h=>Ej h) ?_;intro y141
 refine br ?_ ?_
 refine ca hc (fun _ h=>Wq h) ?_;intro y144
 refine ar (ap Aj (List.map Aj s124) s124 ([[iA y144.1.A7,AV.sl 5 (List.map A3 y144.1.Bm),iA y144.1.Ab]]) ([y144.1]:List Ag)) ?_
 exact fun h=>cq (hcont130 (true,IntKind.i64.wrap (s120+1),y144.2.1,y144.2.2.1,y144.2.2.2,(s124++([y144.1]:List Ag))) (fun _=>0) h)
 exact fun h=>cq (hcont130 (s119,IntKind.i64.wrap (s120+1),y141.2.2,s122,s123,s124) (fun _=>0) h)
 intro h;cases sj h
 exact kq (hr131 (fun _=>0))
 refine lrc ?_ ?_
 intro v e;subst e;cases sj h;exact hr116
 intro t a148 e;subst e
 obtain⟨x149,x150,x151,x152,x153⟩:=t
 dsimp only at h
 conv=>lhs;whnf
 revert h
 exact fun h=>cq (hcont115 (x149,x150,x151,x152,x153) (fun _=>0) h)
 intro h;cases sj h
 exact kq (hr116 (fun _=>0))
 refine lrc ?_ ?_
 intro v e;subst e;cases sj h;rfl
 intro t a155 e;subst e
 obtain⟨x156,x157,x158,x159⟩:=t
 dsimp only at h
 conv=>lhs;whnf
 revert h
 refine br ?_ ?_
 refine ca hc (fun _ h=>Ja h) ?_;intro y161
 refine br ?_ ?_
 exact rz
 intro h;cases sj h
 try simp only[ls]
 exact fq (y:=some (AV.tup [AV.agg [iA y11.1.Bs,AV.sl 3 (List.take (List.length x59) (List.map Am x59)),AV.sl 4 (List.take (List.length x104) (List.map Ad x104)),AV.sl 3 (List.take (List.length x159) (List.map Aj x159))],iA (0),iA (0)],[]))
 refine br ?_ ?_
 exact rz
 intro h;cases sj h
 try simp only[ls]
 exact fq (y:=some (AV.tup [AV.agg [iA y11.1.Bs,AV.sl 3 (List.take (List.length x59) (List.map Am x59)),AV.sl 4 (List.take (List.length x104) (List.map Ad x104)),AV.sl 3 (List.take (List.length x159) (List.map Aj x159))],iA (0),iA (0)],[]))
theorem Vj {n:Nat} ⦃Cd:Int⦄ ⦃r:Bool⦄:Mn n Cd=some r→CN n 41 [iA Cd] []=some (bA r,[]):=by
 intro h;rcases n with _|n;cases h
 rw[Mn] at h
 refine Ai Tryz.func41 (by rfl) rfl rfl (Ap rfl) ?_
 intro call hc;conv=>lhs;whnf
 revert h
 refine br ?_ ?_
 exact rz
 exact rz
theorem A12 {n:Nat} ⦃G7:Int⦄ ⦃C7:Int⦄ ⦃Bx:(List Aw)⦄ ⦃Ba:(List Ae)⦄ ⦃Bi:(List Ag)⦄ ⦃r:Bool⦄:Qh n G7 C7 Bx Ba Bi=some r→CN n 39 [iA G7,AV.ptr 0 0] [Ob.var 27 [iA C7,AV.sl 3 (List.map Am Bx),AV.sl 4 (List.map Ad Ba),AV.sl 3 (List.map Aj Bi)]]=some (bA r,[Ob.var 27 [iA C7,AV.sl 3 (List.map Am Bx),AV.sl 4 (List.map Ad Ba),AV.sl 3 (List.map Aj Bi)]]):=by
 intro h;rcases n with _|n;cases h
 rw[Qh] at h
 refine Ai Tryz.func39 (by rfl) rfl rfl (Ap rfl) ?_
 intro call hc;conv=>lhs;whnf
 revert h
 refine ix ?_;intro x1
 refine ca hc (fun _ h=>Gc h) ?_;intro y2
 refine br ?_ ?_
 refine ca hc (fun _ h=>Vj h) ?_;intro y5
 refine br ?_ ?_
 exact rz
 exact rz
 exact rz
theorem A8o {n:Nat} ⦃Cd:Int⦄ ⦃C7:Int⦄ ⦃Bx:(List Aw)⦄ ⦃Ba:(List Ae)⦄ ⦃Bi:(List Ag)⦄ ⦃r:Bool⦄:T5 n Cd C7 Bx Ba Bi=some r→CN n 38 [iA Cd,AV.func 39 [] [AV.ptr 0 0]] [Ob.var 27 [iA C7,AV.sl 3 (List.map Am Bx),AV.sl 4 (List.map Ad Ba),AV.sl 3 (List.map Aj Bi)]]=some (bA r,[Ob.var 27 [iA C7,AV.sl 3 (List.map Am Bx),AV.sl 4 (List.map Ad Ba),AV.sl 3 (List.map Aj Bi)]]):=by
 intro h;rcases n with _|n;cases h
 rw[T5] at h
 refine Ai Tryz.func38 (by rfl) rfl rfl (Ap rfl) ?_
 intro call hc;conv=>lhs;whnf
 revert h
 intro h;refine As h ?_;clear h;intro o9 ho9 h
 refine lq (σ:=Int) (τ:=Unit) (ν:=Bool) 0 (fun s1 a3=>B9 15 [(1,AV.func 39 [] [AV.ptr 0 0]),(6,iA Cd),(7,iA s1)]) (fun s1 a3=>[Ob.var 27 [iA C7,AV.sl 3 (List.map Am Bx),AV.sl 4 (List.map Ad Ba),AV.sl 3 (List.map Aj Bi)]]) (fun _ a14=>B9 15 []) (fun _ a14=>[Ob.var 27 [iA C7,AV.sl 3 (List.map Am Bx),AV.sl 4 (List.map Ad Ba),AV.sl 3 (List.map Aj Bi)]]) (fun v=>(bA v,[Ob.var 27 [iA C7,AV.sl 3 (List.map Am Bx),AV.sl 4 (List.map Ad Ba),AV.sl 3 (List.map Aj Bi)]])) (fun k s=>Lb n Cd C7 Bx Ba Bi k s) (fun s=>rfl) o9 n 0 (fun _=>0) ho9 ?_ ?_
 intro k2 s1 a3 K4 cont5 hK6 hcont7 h hr8
 replace h:Lb n Cd C7 Bx Ba Bi (k2+1) s1=some o9:=h
 rw[Lb] at h
 conv=>lhs;whnf
 revert h
 refine br ?_ ?_
 refine ca hc (fun _ h=>A12 h) ?_;intro y11
 refine br ?_ ?_
 exact fun h=>cq (hcont7 (IntKind.i64.wrap (s1+1)) (fun _=>0) h)
 intro h;cases sj h
 refine(hK6 _ _).trans ?_
 refine Eq.trans ?_ (Eq.symm (show _=some _ from hr8))
 conv=>lhs;whnf
 exact rq
 intro h;cases sj h
 exact kq (hr8 (fun _=>0))
 refine lrc ?_ ?_
 intro v e;subst e;cases sj h;rfl
 intro t a14 e;subst e
 dsimp only at h
 conv=>lhs;whnf
 revert h
 exact rz
theorem A0c {n:Nat} ⦃G7:Int⦄ ⦃Gf:(List UInt8)⦄ ⦃G9:(List (List UInt8))⦄ ⦃Gg:(List A0)⦄ ⦃Kg:Int⦄ ⦃r:Bool⦄:P7 n G7 Gf G9 Gg Kg=some r→CN n 73 [iA G7,AV.ptr 0 0] [Ob.var 39 [sA Gf,AV.sl 1 (List.map Dv G9),AV.sl 9 (List.map A9 Gg),iA Kg]]=some (bA r,[Ob.var 39 [sA Gf,AV.sl 1 (List.map Dv G9),AV.sl 9 (List.map A9 Gg),iA Kg]]):=by
 intro h;rcases n with _|n;cases h
 rw[P7] at h
 refine Ai Tryz.func73 (by rfl) rfl rfl (Ap rfl) ?_
 intro call hc;conv=>lhs;whnf
 revert h
 refine ix ?_;intro x1
 refine ca hc (fun _ h=>Gc h) ?_;intro y2
 exact rz
theorem A4y {n:Nat} ⦃Cd:Int⦄ ⦃Gf:(List UInt8)⦄ ⦃G9:(List (List UInt8))⦄ ⦃Gg:(List A0)⦄ ⦃Kg:Int⦄ ⦃r:Bool⦄:Qt n Cd Gf G9 Gg Kg=some r→CN n 38 [iA Cd,AV.func 73 [] [AV.ptr 0 0]] [Ob.var 39 [sA Gf,AV.sl 1 (List.map Dv G9),AV.sl 9 (List.map A9 Gg),iA Kg]]=some (bA r,[Ob.var 39 [sA Gf,AV.sl 1 (List.map Dv G9),AV.sl 9 (List.map A9 Gg),iA Kg]]):=by
 intro h;rcases n with _|n;cases h
 rw[Qt] at h
 refine Ai Tryz.func38 (by rfl) rfl rfl (Ap rfl) ?_
 intro call hc;conv=>lhs;whnf
 revert h
 intro h;refine As h ?_;clear h;intro o9 ho9 h
 refine lq (σ:=Int) (τ:=Unit) (ν:=Bool) 0 (fun s1 a3=>B9 15 [(1,AV.func 73 [] [AV.ptr 0 0]),(6,iA Cd),(7,iA s1)]) (fun s1 a3=>[Ob.var 39 [sA Gf,AV.sl 1 (List.map Dv G9),AV.sl 9 (List.map A9 Gg),iA Kg]]) (fun _ a14=>B9 15 []) (fun _ a14=>[Ob.var 39 [sA Gf,AV.sl 1 (List.map Dv G9),AV.sl 9 (List.map A9 Gg),iA Kg]]) (fun v=>(bA v,[Ob.var 39 [sA Gf,AV.sl 1 (List.map Dv G9),AV.sl 9 (List.map A9 Gg),iA Kg]])) (fun k s=>Iq n Cd Gf G9 Gg Kg k s) (fun s=>rfl) o9 n 0 (fun _=>0) ho9 ?_ ?_
 intro k2 s1 a3 K4 cont5 hK6 hcont7 h hr8
 replace h:Iq n Cd Gf G9 Gg Kg (k2+1) s1=some o9:=h
 rw[Iq] at h
 conv=>lhs;whnf
 revert h
 refine br ?_ ?_
 refine ca hc (fun _ h=>A0c h) ?_;intro y11
 refine br ?_ ?_
 exact fun h=>cq (hcont7 (IntKind.i64.wrap (s1+1)) (fun _=>0) h)
 intro h;cases sj h
 refine(hK6 _ _).trans ?_
 refine Eq.trans ?_ (Eq.symm (show _=some _ from hr8))
 conv=>lhs;whnf
 exact rq
 intro h;cases sj h
 exact kq (hr8 (fun _=>0))
 refine lrc ?_ ?_
 intro v e;subst e;cases sj h;rfl
 intro t a14 e;subst e
 dsimp only at h
 conv=>lhs;whnf
 revert h
 exact rz
theorem A30 {n:Nat} ⦃En:Ae⦄ ⦃r:Bool⦄:Q1 n En=some r→CN n 43 [AV.agg [sA En.Ao,AV.sl 1 (List.map Dv En.Bh),AV.sl 9 (List.map A9 En.B5),iA En.Ab]] []=some (bA r,[]):=by
 intro h;rcases n with _|n;cases h
 rw[Q1] at h
 refine Ai Tryz.func43 (by rfl) rfl rfl (Ap rfl) ?_
 intro call hc;conv=>lhs;whnf
 revert h
 refine ca hc (fun _ h=>Gc h) ?_;intro y1
 refine br ?_ ?_
 refine br ?_ ?_
 refine ca hc (fun _ h=>X0 h) ?_;intro y5
 refine br ?_ ?_
 refine cr hc (fun _ h=>A4y h) ?_;intro y8
 exact rz
 exact rz
 exact rz
 exact rz
theorem A1n {n:Nat} ⦃G7:Int⦄ ⦃C7:Int⦄ ⦃Bx:(List Aw)⦄ ⦃Ba:(List Ae)⦄ ⦃Bi:(List Ag)⦄ ⦃r:Bool⦄:Qa n G7 C7 Bx Ba Bi=some r→CN n 42 [iA G7,AV.ptr 0 0] [Ob.var 27 [iA C7,AV.sl 3 (List.map Am Bx),AV.sl 4 (List.map Ad Ba),AV.sl 3 (List.map Aj Bi)]]=some (bA r,[Ob.var 27 [iA C7,AV.sl 3 (List.map Am Bx),AV.sl 4 (List.map Ad Ba),AV.sl 3 (List.map Aj Bi)]]):=by
 intro h;rcases n with _|n;cases h
 rw[Qa] at h
 refine Ai Tryz.func42 (by rfl) rfl rfl (Ap rfl) ?_
 intro call hc;conv=>lhs;whnf
 revert h
 refine ix ?_;intro x1
 refine ca hc (fun _ h=>A30 h) ?_;intro y2
 exact rz
theorem A4n {n:Nat} ⦃Cd:Int⦄ ⦃C7:Int⦄ ⦃Bx:(List Aw)⦄ ⦃Ba:(List Ae)⦄ ⦃Bi:(List Ag)⦄ ⦃r:Bool⦄:Qu n Cd C7 Bx Ba Bi=some r→CN n 38 [iA Cd,AV.func 42 [] [AV.ptr 0 0]] [Ob.var 27 [iA C7,AV.sl 3 (List.map Am Bx),AV.sl 4 (List.map Ad Ba),AV.sl 3 (List.map Aj Bi)]]=some (bA r,[Ob.var 27 [iA C7,AV.sl 3 (List.map Am Bx),AV.sl 4 (List.map Ad Ba),AV.sl 3 (List.map Aj Bi)]]):=by
 intro h;rcases n with _|n;cases h
 rw[Qu] at h
 refine Ai Tryz.func38 (by rfl) rfl rfl (Ap rfl) ?_
 intro call hc;conv=>lhs;whnf
 revert h
 intro h;refine As h ?_;clear h;intro o9 ho9 h
 refine lq (σ:=Int) (τ:=Unit) (ν:=Bool) 0 (fun s1 a3=>B9 15 [(1,AV.func 42 [] [AV.ptr 0 0]),(6,iA Cd),(7,iA s1)]) (fun s1 a3=>[Ob.var 27 [iA C7,AV.sl 3 (List.map Am Bx),AV.sl 4 (List.map Ad Ba),AV.sl 3 (List.map Aj Bi)]]) (fun _ a14=>B9 15 []) (fun _ a14=>[Ob.var 27 [iA C7,AV.sl 3 (List.map Am Bx),AV.sl 4 (List.map Ad Ba),AV.sl 3 (List.map Aj Bi)]]) (fun v=>(bA v,[Ob.var 27 [iA C7,AV.sl 3 (List.map Am Bx),AV.sl 4 (List.map Ad Ba),AV.sl 3 (List.map Aj Bi)]])) (fun k s=>Iz n Cd C7 Bx Ba Bi k s) (fun s=>rfl) o9 n 0 (fun _=>0) ho9 ?_ ?_
 intro k2 s1 a3 K4 cont5 hK6 hcont7 h hr8
 replace h:Iz n Cd C7 Bx Ba Bi (k2+1) s1=some o9:=h
 rw[Iz] at h
 conv=>lhs;whnf
 revert h
 refine br ?_ ?_
 refine ca hc (fun _ h=>A1n h) ?_;intro y11
 refine br ?_ ?_
 exact fun h=>cq (hcont7 (IntKind.i64.wrap (s1+1)) (fun _=>0) h)
 intro h;cases sj h
 refine(hK6 _ _).trans ?_
 refine Eq.trans ?_ (Eq.symm (show _=some _ from hr8))
 conv=>lhs;whnf
 exact rq
 intro h;cases sj h
 exact kq (hr8 (fun _=>0))
 refine lrc ?_ ?_
 intro v e;subst e;cases sj h;rfl
 intro t a14 e;subst e
 dsimp only at h
 conv=>lhs;whnf
 revert h
 exact rz
theorem A4l {n:Nat} ⦃E1:Ag⦄ ⦃r:Bool⦄:R8 n E1=some r→CN n 45 [AV.agg [iA E1.A7,AV.sl 5 (List.map A3 E1.Bm),iA E1.Ab]] []=some (bA r,[]):=by
 intro h;rcases n with _|n;cases h
 rw[R8] at h
 refine Ai Tryz.func45 (by rfl) rfl rfl (Ap rfl) ?_
 intro call hc;conv=>lhs;whnf
 revert h
 refine ca hc (fun _ h=>Xd h) ?_;intro y1
 intro h;refine As h ?_;clear h;intro o11 ho11 h
 refine lq (σ:=Int) (τ:=Unit) (ν:=Bool) 0 (fun s3 a5=>B9 31 [(1,AV.ptr 0 0),(7,AV.sl 5 (List.map A3 y1)),(8,iA (((y1.length:Nat):Int))),(9,iA s3)]) (fun s3 a5=>[Ob.var 42 [iA E1.A7,AV.sl 5 (List.map A3 E1.Bm),iA E1.Ab]]) (fun _ a15=>B9 31 [(1,AV.ptr 0 0)]) (fun _ a15=>[Ob.var 42 [iA E1.A7,AV.sl 5 (List.map A3 E1.Bm),iA E1.Ab]]) (fun v=>(bA v,[])) (fun k s=>Jn n y1 k s) (fun s=>rfl) o11 n 0 (fun _=>0) ho11 ?_ ?_
 intro k4 s3 a5 K6 cont7 hK8 hcont9 h hr10
 replace h:Jn n y1 (k4+1) s3=some o11:=h
 rw[Jn] at h
 conv=>lhs;whnf
 revert h
 refine br ?_ ?_
 refine ix ?_;intro x13
 refine br ?_ ?_
 intro h;cases sj h
 refine(hK8 _ _).trans ?_
 refine Eq.trans ?_ (Eq.symm (show _=some _ from hr10))
 conv=>lhs;whnf
 exact rq
 exact fun h=>cq (hcont9 (IntKind.i64.wrap (s3+1)) (fun _=>0) h)
 intro h;cases sj h
 exact kq (hr10 (fun _=>0))
 refine lrc ?_ ?_
 intro v e;subst e;cases sj h;rfl
 intro t a15 e;subst e
 dsimp only at h
 conv=>lhs;whnf
 revert h
 refine ca hc (fun _ h=>Tt h) ?_;intro y16
 refine br ?_ ?_
 exact rz
 refine ca hc (fun _ h=>So h) ?_;intro y19
 refine br ?_ ?_
 exact rz
 exact rz
theorem A1x {n:Nat} ⦃G7:Int⦄ ⦃C7:Int⦄ ⦃Bx:(List Aw)⦄ ⦃Ba:(List Ae)⦄ ⦃Bi:(List Ag)⦄ ⦃r:Bool⦄:Qi n G7 C7 Bx Ba Bi=some r→CN n 44 [iA G7,AV.ptr 0 0] [Ob.var 27 [iA C7,AV.sl 3 (List.map Am Bx),AV.sl 4 (List.map Ad Ba),AV.sl 3 (List.map Aj Bi)]]=some (bA r,[Ob.var 27 [iA C7,AV.sl 3 (List.map Am Bx),AV.sl 4 (List.map Ad Ba),AV.sl 3 (List.map Aj Bi)]]):=by
 intro h;rcases n with _|n;cases h
 rw[Qi] at h
 refine Ai Tryz.func44 (by rfl) rfl rfl (Ap rfl) ?_
 intro call hc;conv=>lhs;whnf
 revert h
 refine ix ?_;intro x1
 refine ca hc (fun _ h=>A4l h) ?_;intro y2
 exact rz
theorem A4v {n:Nat} ⦃Cd:Int⦄ ⦃C7:Int⦄ ⦃Bx:(List Aw)⦄ ⦃Ba:(List Ae)⦄ ⦃Bi:(List Ag)⦄ ⦃r:Bool⦄:R6 n Cd C7 Bx Ba Bi=some r→CN n 38 [iA Cd,AV.func 44 [] [AV.ptr 0 0]] [Ob.var 27 [iA C7,AV.sl 3 (List.map Am Bx),AV.sl 4 (List.map Ad Ba),AV.sl 3 (List.map Aj Bi)]]=some (bA r,[Ob.var 27 [iA C7,AV.sl 3 (List.map Am Bx),AV.sl 4 (List.map Ad Ba),AV.sl 3 (List.map Aj Bi)]]):=by
 intro h;rcases n with _|n;cases h
 rw[R6] at h
 refine Ai Tryz.func38 (by rfl) rfl rfl (Ap rfl) ?_
 intro call hc;conv=>lhs;whnf
 revert h
 intro h;refine As h ?_;clear h;intro o9 ho9 h
 refine lq (σ:=Int) (τ:=Unit) (ν:=Bool) 0 (fun s1 a3=>B9 15 [(1,AV.func 44 [] [AV.ptr 0 0]),(6,iA Cd),(7,iA s1)]) (fun s1 a3=>[Ob.var 27 [iA C7,AV.sl 3 (List.map Am Bx),AV.sl 4 (List.map Ad Ba),AV.sl 3 (List.map Aj Bi)]]) (fun _ a14=>B9 15 []) (fun _ a14=>[Ob.var 27 [iA C7,AV.sl 3 (List.map Am Bx),AV.sl 4 (List.map Ad Ba),AV.sl 3 (List.map Aj Bi)]]) (fun v=>(bA v,[Ob.var 27 [iA C7,AV.sl 3 (List.map Am Bx),AV.sl 4 (List.map Ad Ba),AV.sl 3 (List.map Aj Bi)]])) (fun k s=>Iu n Cd C7 Bx Ba Bi k s) (fun s=>rfl) o9 n 0 (fun _=>0) ho9 ?_ ?_
 intro k2 s1 a3 K4 cont5 hK6 hcont7 h hr8
 replace h:Iu n Cd C7 Bx Ba Bi (k2+1) s1=some o9:=h
 rw[Iu] at h
 conv=>lhs;whnf
 revert h
 refine br ?_ ?_
 refine ca hc (fun _ h=>A1x h) ?_;intro y11
 refine br ?_ ?_
 exact fun h=>cq (hcont7 (IntKind.i64.wrap (s1+1)) (fun _=>0) h)
 intro h;cases sj h
 refine(hK6 _ _).trans ?_
 refine Eq.trans ?_ (Eq.symm (show _=some _ from hr8))
 conv=>lhs;whnf
 exact rq
 intro h;cases sj h
 exact kq (hr8 (fun _=>0))
 refine lrc ?_ ?_
 intro v e;subst e;cases sj h;rfl
 intro t a14 e;subst e
 dsimp only at h
 conv=>lhs;whnf
 revert h
 exact rz
theorem Ua {n:Nat} ⦃At:Az⦄ ⦃r:Bool⦄:Mo n At=some r→CN n 10 [AV.agg [iA At.Bo,AV.sl 3 (List.map Am At.B0),AV.sl 4 (List.map Ad At.Ak),AV.sl 3 (List.map Aj At.Ar)]] []=some (bA r,[]):=by
 intro h;rcases n with _|n;cases h
 rw[Mo] at h
 refine Ai Tryz.func10 (by rfl) rfl rfl (Ap rfl) ?_
 intro call hc;conv=>lhs;whnf
 revert h
 refine cr hc (fun _ h=>A8o h) ?_;intro y1
 refine ca hc (fun _ h=>Vj h) ?_;intro y3
 refine br ?_ ?_
 refine br ?_ ?_
 refine cr hc (fun _ h=>A4n h) ?_;intro y7
 refine br ?_ ?_
 refine cr hc (fun _ h=>A4v h) ?_;intro y10
 exact rz
 exact rz
 exact rz
 exact rz
def N6 (n:Nat):Prop:=∀ ⦃Cd:Int⦄ ⦃r:(List UInt8)⦄,Im n Cd=some r→CN n 46 [iA Cd] []=some (sA r,[])
def R5 (n:Nat):Prop:=N6 n
theorem A1b (n:Nat) (ih:R5 n):N6 (n+1):=by
 intro Cd r h
 rw[Im] at h
 refine Ai Tryz.func46 (by rfl) rfl rfl (Ap rfl) ?_
 intro call hc;conv=>lhs;whnf
 revert h
 refine br ?_ ?_
 exact rz
 refine ca hc (fun _ h=>ih h) ?_;intro y2
 intro h
 refine B6 h ?_;clear h;intro hc4 h
 refine B4 hc4 ?_
 try simp only[ls]
 conv=>lhs;whnf
 revert h
 exact rz
theorem Tv:∀ n,R5 n
 | 0=>by unfold R5 N6;intros;rename_i h;exact absurd h (by intro h;cases h)
 | n+1=>have ih:=Tv n
   A1b n ih
theorem Uf {n:Nat}:N6 n:=(Tv n)
theorem Yo {n:Nat} ⦃At:Az⦄ ⦃r:(List UInt8)⦄:Pe n At=some r→CN n 11 [AV.agg [iA At.Bo,AV.sl 3 (List.map Am At.B0),AV.sl 4 (List.map Ad At.Ak),AV.sl 3 (List.map Aj At.Ar)]] []=some (sA r,[]):=by
 intro h;rcases n with _|n;cases h
 rw[Pe] at h
 refine Ai Tryz.func11 (by rfl) rfl rfl (Ap rfl) ?_
 intro call hc;conv=>lhs;whnf
 revert h
 refine ca hc (fun _ h=>Ua h) ?_;intro y1
 refine br ?_ ?_
 refine ca hc (fun _ h=>Uf h) ?_;intro y4
 intro h
 refine B6 h ?_;clear h;intro hc6 h
 refine B4 hc6 ?_
 try simp only[ls]
 conv=>lhs;whnf
 revert h
 intro h
 refine B6 h ?_;clear h;intro hc7 h
 refine B4 hc7 ?_
 try simp only[ls]
 conv=>lhs;whnf
 revert h
 intro h;refine As h ?_;clear h;intro o17 ho17 h
 refine lq (σ:=((List UInt8)×Int)) (τ:=(List UInt8)) (ν:=(List UInt8)) 0 (fun(s8,s9) a11=>B9 99 [(1,AV.ptr 0 0),(3,sA s8),(22,AV.sl 3 (List.map Am At.B0)),(23,iA (((At.B0.length:Nat):Int))),(24,iA s9)]) (fun(s8,s9) a11=>[Ob.var 27 [iA At.Bo,AV.sl 3 (List.map Am At.B0),AV.sl 4 (List.map Ad At.Ak),AV.sl 3 (List.map Aj At.Ar)]]) (fun x28 a27=>B9 99 [(1,AV.ptr 0 0),(3,sA x28)]) (fun x28 a27=>[Ob.var 27 [iA At.Bo,AV.sl 3 (List.map Am At.B0),AV.sl 4 (List.map Ad At.Ak),AV.sl 3 (List.map Aj At.Ar)]]) (fun v=>(sA v,[])) (fun k s=>Jr n At k s.1 s.2) (fun s=>rfl) o17 n (((([109,111,100,32]:List UInt8)++y4)++([59,10]:List UInt8)),0) (fun _=>0) ho17 ?_ ?_
 intro k10 ss a11 K12 cont13 hK14 hcont15 h hr16
 obtain⟨s8,s9⟩:=ss
 replace h:Jr n At (k10+1) s8 s9=some o17:=h
 rw[Jr] at h
 conv=>lhs;whnf
 revert h
 refine br ?_ ?_
 refine ix ?_;intro x19
 intro h
 refine B6 h ?_;clear h;intro hc20 h
 refine B4 hc20 ?_
 try simp only[ls]
 conv=>lhs;whnf
 revert h
 intro h
 refine B6 h ?_;clear h;intro hc21 h
 refine B4 hc21 ?_
 try simp only[ls]
 conv=>lhs;whnf
 revert h
 refine ca hc (fun _ h=>Uf h) ?_;intro y22
 intro h
 refine B6 h ?_;clear h;intro hc24 h
 refine B4 hc24 ?_
 try simp only[ls]
 conv=>lhs;whnf
 revert h
 intro h
 refine B6 h ?_;clear h;intro hc25 h
 refine B4 hc25 ?_
 try simp only[ls]
 conv=>lhs;whnf
 revert h
 intro h
 refine B6 h ?_;clear h;intro hc26 h
 refine B4 hc26 ?_
 try simp only[ls]
 conv=>lhs;whnf
 revert h
 exact fun h=>cq (hcont15 ((s8++((((([108,111,99,32]:List UInt8)++x19.Ao)++([32,61,32]:List UInt8))++y22)++([59,10]:List UInt8))),IntKind.i64.wrap (s9+1)) (fun _=>0) h)
 intro h;cases sj h
 exact kq (hr16 (fun _=>0))
 refine lrc ?_ ?_
 intro v e;subst e;cases sj h;rfl
 intro x28 a27 e;subst e
 dsimp only at h
 conv=>lhs;whnf
 revert h
 intro h;refine As h ?_;clear h;intro o38 ho38 h
 refine lq (σ:=((List UInt8)×Int)) (τ:=(List UInt8)) (ν:=(List UInt8)) 2 (fun(s29,s30) a32=>B9 99 [(1,AV.ptr 0 0),(3,sA s29),(41,AV.sl 4 (List.map Ad At.Ak)),(42,iA (((At.Ak.length:Nat):Int))),(43,iA s30)]) (fun(s29,s30) a32=>[Ob.var 27 [iA At.Bo,AV.sl 3 (List.map Am At.B0),AV.sl 4 (List.map Ad At.Ak),AV.sl 3 (List.map Aj At.Ar)]]) (fun x73 a72=>B9 99 [(1,AV.ptr 0 0),(3,sA x73)]) (fun x73 a72=>[Ob.var 27 [iA At.Bo,AV.sl 3 (List.map Am At.B0),AV.sl 4 (List.map Ad At.Ak),AV.sl 3 (List.map Aj At.Ar)]]) (fun v=>(sA v,[])) (fun k s=>Id n At k s.1 s.2) (fun s=>rfl) o38 n (x28,0) (fun _=>0) ho38 ?_ ?_
 intro k31 ss a32 K33 cont34 hK35 hcont36 h hr37
 obtain⟨s29,s30⟩:=ss
 replace h:Id n At (k31+1) s29 s30=some o38:=h
 rw[Id] at h
 conv=>lhs;whnf
 revert h
 refine br ?_ ?_
 refine ix ?_;intro x40
 intro h
 refine B6 h ?_;clear h;intro hc41 h
 refine B4 hc41 ?_
 try simp only[ls]
 conv=>lhs;whnf
 revert h
 intro h
 refine B6 h ?_;clear h;intro hc42 h
 refine B4 hc42 ?_
 try simp only[ls]
 conv=>lhs;whnf
 revert h
 intro h
 refine B6 h ?_;clear h;intro hc43 h
 refine B4 hc43 ?_
 try simp only[ls]
 conv=>lhs;whnf
 revert h
 intro h;refine As h ?_;clear h;intro o54 ho54 h
 refine lq (σ:=((List UInt8)×(List UInt8)×Int)) (τ:=(List UInt8)) (ν:=(List UInt8)) 4 (fun(s44,s45,s46) a48=>B9 99 [(1,AV.ptr 0 0),(3,sA s44),(7,AV.ptr 1 0),(8,sA s45),(41,AV.sl 4 (List.map Ad At.Ak)),(42,iA (((At.Ak.length:Nat):Int))),(43,iA s30),(54,AV.sl 1 (List.map Dv x40.Bh)),(55,iA (((x40.Bh.length:Nat):Int))),(56,iA s46)]) (fun(s44,s45,s46) a48=>[Ob.var 27 [iA At.Bo,AV.sl 3 (List.map Am At.B0),AV.sl 4 (List.map Ad At.Ak),AV.sl 3 (List.map Aj At.Ar)],Ob.var 39 [sA x40.Ao,AV.sl 1 (List.map Dv x40.Bh),AV.sl 9 (List.map A9 x40.B5),iA x40.Ab]]) (fun x60 a59=>B9 99 [(1,AV.ptr 0 0),(3,sA x60),(7,AV.ptr 1 0),(41,AV.sl 4 (List.map Ad At.Ak)),(42,iA (((At.Ak.length:Nat):Int))),(43,iA s30)]) (fun x60 a59=>[Ob.var 27 [iA At.Bo,AV.sl 3 (List.map Am At.B0),AV.sl 4 (List.map Ad At.Ak),AV.sl 3 (List.map Aj At.Ar)],Ob.var 39 [sA x40.Ao,AV.sl 1 (List.map Dv x40.Bh),AV.sl 9 (List.map A9 x40.B5),iA x40.Ab]]) (fun v=>(sA v,[])) (fun k s=>Ie n x40 k s.1 s.2.1 s.2.2) (fun s=>rfl) o54 n ((s29++((([116,104,114,101,97,100,32]:List UInt8)++x40.Ao)++([32,123,10]:List UInt8))),([32,32,114,101,103,32]:List UInt8),0) (fun _=>0) ho54 ?_ ?_
 intro k47 ss a48 K49 cont50 hK51 hcont52 h hr53
 obtain⟨s44,s45,s46⟩:=ss
 replace h:Ie n x40 (k47+1) s44 s45 s46=some o54:=h
 rw[Ie] at h
 conv=>lhs;whnf
 revert h
 refine br ?_ ?_
 refine ix ?_;intro x56
 intro h
 refine B6 h ?_;clear h;intro hc57 h
 refine B4 hc57 ?_
 try simp only[ls]
 conv=>lhs;whnf
 revert h
 intro h
 refine B6 h ?_;clear h;intro hc58 h
 refine B4 hc58 ?_
 try simp only[ls]
 conv=>lhs;whnf
 revert h
 exact fun h=>cq (hcont52 ((s44++(s45++x56)),([44,32]:List UInt8),IntKind.i64.wrap (s46+1)) (fun _=>0) h)
 intro h;cases sj h
 exact kq (hr53 (fun _=>0))
 refine lrc ?_ ?_
 intro v e;subst e;cases sj h;exact hr37
 intro x60 a59 e;subst e
 dsimp only at h
 conv=>lhs;whnf
 revert h
 refine br ?_ ?_
 intro h
 refine B6 h ?_;clear h;intro hc62 h
 refine B4 hc62 ?_
 try simp only[ls]
 conv=>lhs;whnf
 revert h
 refine ca hc (fun _ h=>Yh h) ?_;intro y63
 intro h
 refine B6 h ?_;clear h;intro hc65 h
 refine B4 hc65 ?_
 try simp only[ls]
 conv=>lhs;whnf
 revert h
 intro h
 refine B6 h ?_;clear h;intro hc66 h
 refine B4 hc66 ?_
 try simp only[ls]
 conv=>lhs;whnf
 revert h
 exact fun h=>cq (hcont36 (((x60++([59,10]:List UInt8))++(y63++([125,10]:List UInt8))),IntKind.i64.wrap (s30+1)) (fun _=>0) h)
 refine ca hc (fun _ h=>Yh h) ?_;intro y67
 intro h
 refine B6 h ?_;clear h;intro hc69 h
 refine B4 hc69 ?_
 try simp only[ls]
 conv=>lhs;whnf
 revert h
 intro h
 refine B6 h ?_;clear h;intro hc70 h
 refine B4 hc70 ?_
 try simp only[ls]
 conv=>lhs;whnf
 revert h
 exact fun h=>cq (hcont36 ((x60++(y67++([125,10]:List UInt8))),IntKind.i64.wrap (s30+1)) (fun _=>0) h)
 intro h;cases sj h
 exact kq (hr37 (fun _=>0))
 refine lrc ?_ ?_
 intro v e;subst e;cases sj h;rfl
 intro x73 a72 e;subst e
 dsimp only at h
 conv=>lhs;whnf
 revert h
 intro h;refine As h ?_;clear h;intro o83 ho83 h
 refine lq (σ:=((List UInt8)×Int)) (τ:=(List UInt8)) (ν:=(List UInt8)) 6 (fun(s74,s75) a77=>B9 99 [(3,sA s74),(80,AV.sl 3 (List.map Aj At.Ar)),(81,iA (((At.Ar.length:Nat):Int))),(82,iA s75)]) (fun(s74,s75) a77=>[Ob.var 27 [iA At.Bo,AV.sl 3 (List.map Am At.B0),AV.sl 4 (List.map Ad At.Ak),AV.sl 3 (List.map Aj At.Ar)]]) (fun x95 a94=>B9 99 [(3,sA x95)]) (fun x95 a94=>[Ob.var 27 [iA At.Bo,AV.sl 3 (List.map Am At.B0),AV.sl 4 (List.map Ad At.Ak),AV.sl 3 (List.map Aj At.Ar)]]) (fun v=>(sA v,[])) (fun k s=>K0 n At k s.1 s.2) (fun s=>rfl) o83 n (x73,0) (fun _=>0) ho83 ?_ ?_
 intro k76 ss a77 K78 cont79 hK80 hcont81 h hr82
 obtain⟨s74,s75⟩:=ss
 replace h:K0 n At (k76+1) s74 s75=some o83:=h
 rw[K0] at h
 conv=>lhs;whnf
 revert h
 refine br ?_ ?_
 refine ix ?_;intro x85
 refine ca hc (fun _ h=>Tt h) ?_;intro y86
 intro h
 refine B6 h ?_;clear h;intro hc88 h
 refine B4 hc88 ?_
 try simp only[ls]
 conv=>lhs;whnf
 revert h
 refine ca hc (fun _ h=>Tz h) ?_;intro y89
 intro h
 refine B6 h ?_;clear h;intro hc91 h
 refine B4 hc91 ?_
 try simp only[ls]
 conv=>lhs;whnf
 revert h
 intro h
 refine B6 h ?_;clear h;intro hc92 h
 refine B4 hc92 ?_
 try simp only[ls]
 conv=>lhs;whnf
 revert h
 intro h
 refine B6 h ?_;clear h;intro hc93 h
 refine B4 hc93 ?_
 try simp only[ls]
 conv=>lhs;whnf
 revert h
 exact fun h=>cq (hcont81 ((s74++(((y86++([32]:List UInt8))++y89)++([59,10]:List UInt8))),IntKind.i64.wrap (s75+1)) (fun _=>0) h)
 intro h;cases sj h
 exact kq (hr82 (fun _=>0))
 refine lrc ?_ ?_
 intro v e;subst e;cases sj h;rfl
 intro x95 a94 e;subst e
 dsimp only at h
 conv=>lhs;whnf
 revert h
 exact rz
 exact rz
theorem W1 {n:Nat} ⦃r:(List UInt8)⦄:Pt n=some r→CN n 12 [] []=some (sA r,[]):=by
 intro h;rcases n with _|n;cases h
 rw[Pt] at h
 refine Ai Tryz.func12 (by rfl) rfl rfl (Ap rfl) ?_
 intro call hc;conv=>lhs;whnf
 revert h
 exact rz
theorem Rt {n:Nat} ⦃r:Bool⦄:Ir n=some r→CN n 5 [] []=some (bA r,[]):=by
 intro h;rcases n with _|n;cases h
 rw[Ir] at h
 refine Ai Tryz.func5 (by rfl) rfl rfl (Ap rfl) ?_
 intro call hc;conv=>lhs;whnf
 revert h
 refine ca hc (fun _ h=>W1 h) ?_;intro y1
 refine ca hc (fun _ h=>Mc h) ?_;intro y3
 refine ca hc (fun _ h=>Mc h) ?_;intro y5
 refine ca hc (fun _ h=>Mc h) ?_;intro y7
 refine cr hc (fun _ h=>Mc h) ?_;intro y9
 refine br ?_ ?_
 exact rz
 refine br ?_ ?_
 exact rz
 refine br ?_ ?_
 exact rz
 refine br ?_ ?_
 exact rz
 refine br ?_ ?_
 exact rz
 refine ix ?_;intro x16
 refine br ?_ ?_
 exact rz
 refine ix ?_;intro x18
 refine br ?_ ?_
 exact rz
 refine ca hc (fun _ h=>A6v h) ?_;intro y20
 refine ix ?_;intro x22
 refine br ?_ ?_
 refine br ?_ ?_
 refine ix ?_;intro x25
 refine br ?_ ?_
 refine ix ?_;intro x27
 refine ix ?_;intro x28
 refine br ?_ ?_
 refine br ?_ ?_
 refine br ?_ ?_
 refine br ?_ ?_
 refine br ?_ ?_
 refine br ?_ ?_
 refine br ?_ ?_
 refine ca hc (fun _ h=>Yo h) ?_;intro y36
 refine ca hc (fun _ h=>W1 h) ?_;intro y38
 refine br ?_ ?_
 refine ca hc (fun _ h=>Ua h) ?_;intro y41
 exact rz
 exact rz
 exact rz
 exact rz
 exact rz
 exact rz
 exact rz
 exact rz
 exact rz
 exact rz
 exact rz
 exact rz
theorem Acb {n:Nat} ⦃B7:(List UInt8)⦄ ⦃Dc:Int⦄ ⦃r:Int⦄:Xj n B7 Dc=some r→CN n 62 [sA B7,iA Dc] []=some (iA r,[]):=by
 intro h;rcases n with _|n;cases h
 rw[Xj] at h
 refine Ai Tryz.func62 (by rfl) rfl rfl (Ap rfl) ?_
 intro call hc;conv=>lhs;whnf
 revert h
 intro h;refine As h ?_;clear h;intro o9 ho9 h
 refine lq (σ:=Int) (τ:=Int) (ν:=Int) 0 (fun s1 a3=>B9 53 [(0,sA B7),(1,iA s1)]) (fun s1 a3=>[]) (fun x37 a36=>B9 53 [(1,iA x37)]) (fun x37 a36=>[]) (fun v=>(iA v,[])) (fun k s=>Jw n B7 k s) (fun s=>rfl) o9 n Dc (fun _=>0) ho9 ?_ ?_
 intro k2 s1 a3 K4 cont5 hK6 hcont7 h hr8
 replace h:Jw n B7 (k2+1) s1=some o9:=h
 rw[Jw] at h
 conv=>lhs;whnf
 revert h
 refine br ?_ ?_
 refine ixs ?_;intro x11
 refine br ?_ ?_
 exact fun h=>cq (hcont7 (IntKind.i64.wrap (s1+1)) (fun _=>0) h)
 refine ixs ?_;intro x13
 refine br ?_ ?_
 exact fun h=>cq (hcont7 (IntKind.i64.wrap (s1+1)) (fun _=>0) h)
 refine ixs ?_;intro x15
 refine br ?_ ?_
 exact fun h=>cq (hcont7 (IntKind.i64.wrap (s1+1)) (fun _=>0) h)
 refine ixs ?_;intro x17
 refine br ?_ ?_
 exact fun h=>cq (hcont7 (IntKind.i64.wrap (s1+1)) (fun _=>0) h)
 refine ixs ?_;intro x19
 refine br ?_ ?_
 intro h;refine As h ?_;clear h;intro o29 ho29 h
 refine lq (σ:=Int) (τ:=Int) (ν:=Int) 3 (fun s21 a23=>B9 53 [(0,sA B7),(1,iA s21)]) (fun s21 a23=>[]) (fun x34 a33=>B9 53 [(0,sA B7),(1,iA x34)]) (fun x34 a33=>[]) (fun v=>(iA v,[])) (fun k s=>R2 n B7 k s) (fun s=>rfl) o29 n s1 (fun _=>0) ho29 ?_ ?_
 intro k22 s21 a23 K24 cont25 hK26 hcont27 h hr28
 replace h:R2 n B7 (k22+1) s21=some o29:=h
 rw[R2] at h
 conv=>lhs;whnf
 revert h
 refine br ?_ ?_
 refine ixs ?_;intro x31
 refine br ?_ ?_
 exact fun h=>cq (hcont27 (IntKind.i64.wrap (s21+1)) (fun _=>0) h)
 intro h;cases sj h
 exact kq (hr28 (fun _=>0))
 intro h;cases sj h
 exact kq (hr28 (fun _=>0))
 refine lrc ?_ ?_
 intro v e;subst e;cases sj h;exact hr8
 intro x34 a33 e;subst e
 dsimp only at h
 conv=>lhs;whnf
 revert h
 exact fun h=>cq (hcont7 x34 (fun _=>0) h)
 intro h;cases sj h
 refine(hK6 _ _).trans ?_
 refine Eq.trans ?_ (Eq.symm (show _=some _ from hr8))
 conv=>lhs;whnf
 exact rq
 intro h;cases sj h
 exact kq (hr8 (fun _=>0))
 refine lrc ?_ ?_
 intro v e;subst e;cases sj h;rfl
 intro x37 a36 e;subst e
 dsimp only at h
 conv=>lhs;whnf
 revert h
 exact rz
theorem A2u {n:Nat} ⦃E1:Int⦄ ⦃r:Bool⦄:Sq n E1=some r→CN n 84 [AV.int .u8 E1] []=some (bA r,[]):=by
 intro h;rcases n with _|n;cases h
 rw[Sq] at h
 refine Ai Tryz.func84 (by rfl) rfl rfl (Ap rfl) ?_
 intro call hc;conv=>lhs;whnf
 revert h
 refine br ?_ ?_
 exact rz
 exact rz
theorem A20 {n:Nat} ⦃E1:Int⦄ ⦃r:Bool⦄:Rp n E1=some r→CN n 83 [AV.int .u8 E1] []=some (bA r,[]):=by
 intro h;rcases n with _|n;cases h
 rw[Rp] at h
 refine Ai Tryz.func83 (by rfl) rfl rfl (Ap rfl) ?_
 intro call hc;conv=>lhs;whnf
 revert h
 refine br ?_ ?_
 refine br ?_ ?_
 exact rz
 refine br ?_ ?_
 refine br ?_ ?_
 exact rz
 exact rz
 exact rz
 refine br ?_ ?_
 refine br ?_ ?_
 exact rz
 exact rz
 exact rz
theorem Ajv {n:Nat} ⦃r:(List (List UInt8))⦄:A01 n=some r→CN n 85 [] []=some (AV.sl 1 (List.map Dv r),[]):=by
 intro h;rcases n with _|n;cases h
 rw[A01] at h
 refine Ai Tryz.func85 (by rfl) rfl rfl (Ap rfl) ?_
 intro call hc;conv=>lhs;whnf
 revert h
 exact rz
theorem Apj {n:Nat} ⦃B7:(List UInt8)⦄ ⦃Dc:Int⦄ ⦃r:(A5×Int)⦄:Zp n B7 Dc=some r→CN n 63 [sA B7,iA Dc] []=some (AV.tup [AV.agg [iA r.1.A7,sA r.1.Ac,iA r.1.Bs,iA r.1.Ab],iA r.2],[]):=by
 intro h;rcases n with _|n;cases h
 rw[Zp] at h
 refine Ai Tryz.func63 (by rfl) rfl rfl (Ap rfl) ?_
 intro call hc;conv=>lhs;whnf
 revert h
 intro h;refine As h ?_;clear h;intro o9 ho9 h
 refine lq (σ:=Int) (τ:=Int) (ν:=(A5×Int)) 0 (fun s1 a3=>B9 119 [(0,sA B7),(1,iA Dc),(4,AV.ptr 0 0),(6,iA s1)]) (fun s1 a3=>[Ob.var 55 [iA (0),sA (([]:List UInt8)),iA (0),iA (0)]]) (fun x21 a20=>B9 119 [(0,sA B7),(1,iA Dc),(4,AV.ptr 0 0),(6,iA x21)]) (fun x21 a20=>[Ob.var 55 [iA (0),sA (([]:List UInt8)),iA (0),iA (0)]]) (fun v=>(AV.tup [AV.agg [iA v.1.A7,sA v.1.Ac,iA v.1.Bs,iA v.1.Ab],iA v.2],[])) (fun k s=>Ns n B7 Dc k s) (fun s=>rfl) o9 n Dc (fun _=>0) ho9 ?_ ?_
 intro k2 s1 a3 K4 cont5 hK6 hcont7 h hr8
 replace h:Ns n B7 Dc (k2+1) s1=some o9:=h
 rw[Ns] at h
 conv=>lhs;whnf
 revert h
 refine br ?_ ?_
 refine ixs ?_;intro x11
 refine ca hc (fun _ h=>A20 h) ?_;intro y12
 refine br ?_ ?_
 exact fun h=>cq (hcont7 (IntKind.i64.wrap (s1+1)) (fun _=>0) h)
 refine br ?_ ?_
 refine ixs ?_;intro x16
 refine ca hc (fun _ h=>A2u h) ?_;intro y17
 refine br ?_ ?_
 exact fun h=>cq (hcont7 (IntKind.i64.wrap (s1+1)) (fun _=>0) h)
 intro h;cases sj h
 exact kq (hr8 (fun _=>0))
 intro h;cases sj h
 exact kq (hr8 (fun _=>0))
 intro h;cases sj h
 exact kq (hr8 (fun _=>0))
 refine lrc ?_ ?_
 intro v e;subst e;cases sj h;rfl
 intro x21 a20 e;subst e
 dsimp only at h
 conv=>lhs;whnf
 revert h
 refine br ?_ ?_
 refine br ?_ ?_
 exact rz
 refine cp ?_
 exact rz
 intro h;refine As h ?_;clear h;intro o34 ho34 h
 refine lq (σ:=(Int×Int)) (τ:=(Int×Int)) (ν:=(A5×Int)) 2 (fun(s25,s26) a28=>B9 119 [(0,sA B7),(1,iA Dc),(4,AV.ptr 0 0),(6,iA s25),(7,iA s26)]) (fun(s25,s26) a28=>[Ob.var 55 [iA (0),sA (([]:List UInt8)),iA (0),iA (0)]]) (fun(x42,x43) a41=>B9 119 [(0,sA B7),(1,iA Dc),(4,AV.ptr 0 0),(6,iA x42),(7,iA x43)]) (fun(x42,x43) a41=>[Ob.var 55 [iA (0),sA (([]:List UInt8)),iA (0),iA (0)]]) (fun v=>(AV.tup [AV.agg [iA v.1.A7,sA v.1.Ac,iA v.1.Bs,iA v.1.Ab],iA v.2],[])) (fun k s=>Qq n B7 k s.1 s.2) (fun s=>rfl) o34 n (x21,0) (fun _=>0) ho34 ?_ ?_
 intro k27 ss a28 K29 cont30 hK31 hcont32 h hr33
 obtain⟨s25,s26⟩:=ss
 replace h:Qq n B7 (k27+1) s25 s26=some o34:=h
 rw[Qq] at h
 conv=>lhs;whnf
 revert h
 refine br ?_ ?_
 refine ixs ?_;intro x36
 refine ca hc (fun _ h=>A2u h) ?_;intro y37
 refine br ?_ ?_
 refine ixs ?_;intro x40
 exact fun h=>cq (hcont32 (IntKind.i64.wrap (s25+1),(if 10000<(IntKind.i64.wrap ((IntKind.i64.wrap (10*s26))+(IntKind.i64.wrap (IntKind.u8.wrap ((x40.toNat:Int) - 48))))) then 10000 else(IntKind.i64.wrap ((IntKind.i64.wrap (10*s26))+(IntKind.i64.wrap (IntKind.u8.wrap ((x40.toNat:Int) - 48))))))) (fun _=>0) h)
 intro h;cases sj h
 exact kq (hr33 (fun _=>0))
 intro h;cases sj h
 exact kq (hr33 (fun _=>0))
 refine lrc ?_ ?_
 intro v e;subst e;cases sj h;rfl
 intro t a41 e;subst e
 obtain⟨x42,x43⟩:=t
 dsimp only at h
 conv=>lhs;whnf
 revert h
 refine br ?_ ?_
 refine br ?_ ?_
 exact rz
 refine cp ?_
 exact rz
 refine ca hc (fun _ h=>Ajv h) ?_;intro y47
 intro h;refine As h ?_;clear h;intro o57 ho57 h
 refine lq (σ:=Int) (τ:=Unit) (ν:=(A5×Int)) 4 (fun s49 a51=>B9 119 [(0,sA B7),(1,iA Dc),(4,AV.ptr 0 0),(8,AV.sl 1 (List.map Dv y47)),(9,iA s49)]) (fun s49 a51=>[Ob.var 55 [iA (0),sA (([]:List UInt8)),iA (0),iA (0)]]) (fun _ a65=>B9 119 [(4,AV.ptr 0 0)]) (fun _ a65=>[Ob.var 55 [iA (0),sA (([]:List UInt8)),iA (0),iA (0)]]) (fun v=>(AV.tup [AV.agg [iA v.1.A7,sA v.1.Ac,iA v.1.Bs,iA v.1.Ab],iA v.2],[])) (fun k s=>Pm n B7 Dc y47 k s) (fun s=>rfl) o57 n 0 (fun _=>0) ho57 ?_ ?_
 intro k50 s49 a51 K52 cont53 hK54 hcont55 h hr56
 replace h:Pm n B7 Dc y47 (k50+1) s49=some o57:=h
 rw[Pm] at h
 conv=>lhs;whnf
 revert h
 refine br ?_ ?_
 refine ix ?_;intro x59
 refine br ?_ ?_
 refine cp ?_
 refine ix ?_;intro x62
 refine br ?_ ?_
 refine ix ?_;intro x64
 intro h;cases sj h
 refine(hK54 _ _).trans ?_
 refine Eq.trans ?_ (Eq.symm (show _=some _ from hr56))
 conv=>lhs;whnf
 exact rq
 exact fun h=>cq (hcont55 (IntKind.i64.wrap (s49+1)) (fun _=>0) h)
 exact fun h=>cq (hcont55 (IntKind.i64.wrap (s49+1)) (fun _=>0) h)
 intro h;cases sj h
 exact kq (hr56 (fun _=>0))
 refine lrc ?_ ?_
 intro v e;subst e;cases sj h;rfl
 intro t a65 e;subst e
 dsimp only at h
 conv=>lhs;whnf
 revert h
 exact rz
theorem Am6 {n:Nat} ⦃B7:(List UInt8)⦄ ⦃r:((List A5)×Int×Int)⦄:Yb n B7=some r→CN n 25 [sA B7] []=some (AV.tup [AV.sl 4 (List.map A4 r.1),iA r.2.1,iA r.2.2],[]):=by
 intro h;rcases n with _|n;cases h
 rw[Yb] at h
 refine Ai Tryz.func25 (by rfl) rfl rfl (Ap rfl) ?_
 intro call hc;conv=>lhs;whnf
 revert h
 refine br ?_ ?_
 exact rz
 refine ca hc (fun _ h=>Acb h) ?_;intro y2
 intro h;refine As h ?_;clear h;intro o13 ho13 h
 refine lq (σ:=(Int×(List A5))) (τ:=(List A5)) (ν:=((List A5)×Int×Int)) 0 (fun(s4,s5) a7=>B9 40 [(0,sA B7),(5,AV.row 0 (List.length s5)),(6,iA s4)]) (fun(s4,s5) a7=>[Ob.row 55 4 (List.map A4 s5)]) (fun x23 a22=>B9 40 [(5,AV.row 0 (List.length x23))]) (fun x23 a22=>[Ob.row 55 4 (List.map A4 x23)]) (fun v=>(AV.tup [AV.sl 4 (List.map A4 v.1),iA v.2.1,iA v.2.2],[])) (fun k s=>O5 n B7 k s.1 s.2) (fun s=>rfl) o13 n (y2,([]:List A5)) (fun _=>0) ho13 ?_ ?_
 intro k6 ss a7 K8 cont9 hK10 hcont11 h hr12
 obtain⟨s4,s5⟩:=ss
 replace h:O5 n B7 (k6+1) s4 s5=some o13:=h
 rw[O5] at h
 conv=>lhs;whnf
 revert h
 refine br ?_ ?_
 refine ca hc (fun _ h=>Apj h) ?_;intro y15
 refine br ?_ ?_
 intro h;cases sj h
 refine(hK10 _ _).trans ?_
 refine Eq.trans ?_ (Eq.symm (show _=some _ from hr12))
 conv=>lhs;whnf
 exact rq
 refine ar (ap A4 (List.map A4 s5) s5 ([[iA y15.1.A7,sA y15.1.Ac,iA y15.1.Bs,iA y15.1.Ab]]) ([y15.1]:List A5)) ?_
 refine cr hc (fun _ h=>Acb h) ?_;intro y20
 exact fun h=>cq (hcont11 (y20,(s5++([y15.1]:List A5))) (fun _=>0) h)
 intro h;cases sj h
 exact kq (hr12 (fun _=>0))
 refine lrc ?_ ?_
 intro v e;subst e;cases sj h;rfl
 intro x23 a22 e;subst e
 dsimp only at h
 conv=>lhs;whnf
 revert h
 intro h;cases sj h
 try simp only[ls]
 exact fq (y:=some (AV.tup [AV.sl 4 (List.take (List.length x23) (List.map A4 x23)),iA (0),iA (0)],[]))
theorem Ajl {n:Nat} ⦃r:(List (List UInt8))⦄:A00 n=some r→CN n 130 [] []=some (AV.sl 1 (List.map Dv r),[]):=by
 intro h;rcases n with _|n;cases h
 rw[A00] at h
 refine Ai Tryz.func130 (by rfl) rfl rfl (Ap rfl) ?_
 intro call hc;conv=>lhs;whnf
 revert h
 exact rz
theorem Afy {n:Nat} ⦃B7:(List UInt8)⦄ ⦃r:Bool⦄:Up n B7=some r→CN n 107 [sA B7] []=some (bA r,[]):=by
 intro h;rcases n with _|n;cases h
 rw[Up] at h
 refine Ai Tryz.func107 (by rfl) rfl rfl (Ap rfl) ?_
 intro call hc;conv=>lhs;whnf
 revert h
 refine ca hc (fun _ h=>Ajl h) ?_;intro y1
 intro h;refine As h ?_;clear h;intro o11 ho11 h
 refine lq (σ:=Int) (τ:=Unit) (ν:=Bool) 0 (fun s3 a5=>B9 18 [(0,sA B7),(3,AV.sl 1 (List.map Dv y1)),(4,iA s3)]) (fun s3 a5=>[]) (fun _ a15=>B9 18 []) (fun _ a15=>[]) (fun v=>(bA v,[])) (fun k s=>Lc n B7 y1 k s) (fun s=>rfl) o11 n 0 (fun _=>0) ho11 ?_ ?_
 intro k4 s3 a5 K6 cont7 hK8 hcont9 h hr10
 replace h:Lc n B7 y1 (k4+1) s3=some o11:=h
 rw[Lc] at h
 conv=>lhs;whnf
 revert h
 refine br ?_ ?_
 refine ix ?_;intro x13
 refine br ?_ ?_
 intro h;cases sj h
 refine(hK8 _ _).trans ?_
 refine Eq.trans ?_ (Eq.symm (show _=some _ from hr10))
 conv=>lhs;whnf
 exact rq
 exact fun h=>cq (hcont9 (IntKind.i64.wrap (s3+1)) (fun _=>0) h)
 intro h;cases sj h
 exact kq (hr10 (fun _=>0))
 refine lrc ?_ ?_
 intro v e;subst e;cases sj h;rfl
 intro t a15 e;subst e
 dsimp only at h
 conv=>lhs;whnf
 revert h
 exact rz
theorem Ml {n:Nat} ⦃B7:(List UInt8)⦄ ⦃r:Bool⦄:J3 n B7=some r→CN n 87 [sA B7] []=some (bA r,[]):=by
 intro h;rcases n with _|n;cases h
 rw[J3] at h
 refine Ai Tryz.func87 (by rfl) rfl rfl (Ap rfl) ?_
 intro call hc;conv=>lhs;whnf
 revert h
 refine br ?_ ?_
 exact rz
 refine br ?_ ?_
 exact rz
 refine ixs ?_;intro x3
 refine ca hc (fun _ h=>A20 h) ?_;intro y4
 refine br ?_ ?_
 refine ca hc (fun _ h=>Afy h) ?_;intro y7
 refine br ?_ ?_
 exact rz
 intro h;refine As h ?_;clear h;intro o18 ho18 h
 refine lq (σ:=Int) (τ:=Unit) (ν:=Bool) 0 (fun s10 a12=>B9 40 [(0,sA B7),(3,iA s10)]) (fun s10 a12=>[]) (fun _ a28=>B9 40 []) (fun _ a28=>[]) (fun v=>(bA v,[])) (fun k s=>O6 n B7 k s) (fun s=>rfl) o18 n 0 (fun _=>0) ho18 ?_ ?_
 intro k11 s10 a12 K13 cont14 hK15 hcont16 h hr17
 replace h:O6 n B7 (k11+1) s10=some o18:=h
 rw[O6] at h
 conv=>lhs;whnf
 revert h
 refine br ?_ ?_
 refine ixs ?_;intro x20
 refine ca hc (fun _ h=>A20 h) ?_;intro y21
 refine br ?_ ?_
 exact fun h=>cq (hcont16 (IntKind.i64.wrap (s10+1)) (fun _=>0) h)
 refine ixs ?_;intro x24
 refine ca hc (fun _ h=>A2u h) ?_;intro y25
 refine br ?_ ?_
 exact fun h=>cq (hcont16 (IntKind.i64.wrap (s10+1)) (fun _=>0) h)
 intro h;cases sj h
 refine(hK15 _ _).trans ?_
 refine Eq.trans ?_ (Eq.symm (show _=some _ from hr17))
 conv=>lhs;whnf
 exact rq
 intro h;cases sj h
 exact kq (hr17 (fun _=>0))
 refine lrc ?_ ?_
 intro v e;subst e;cases sj h;rfl
 intro t a28 e;subst e
 dsimp only at h
 conv=>lhs;whnf
 revert h
 exact rz
 exact rz
theorem Mh {n:Nat} ⦃Bp:(List A2)⦄ ⦃Bt:(List A2)⦄ ⦃Er:Bool⦄ ⦃r:Bool⦄:Hh n Bp Bt Er=some r→CN n 35 [AV.sl 5 (List.map A3 Bp),AV.sl 5 (List.map A3 Bt),bA Er] []=some (bA r,[]):=by
 intro h;rcases n with _|n;cases h
 rw[Hh] at h
 refine Ai Tryz.func35 (by rfl) rfl rfl (Ap rfl) ?_
 intro call hc;conv=>lhs;whnf
 revert h
 refine br ?_ ?_
 exact rz
 intro h;refine As h ?_;clear h;intro o11 ho11 h
 refine lq (σ:=(Bool×Int)) (τ:=Unit) (ν:=Bool) 0 (fun(s2,s3) a5=>B9 85 [(0,AV.sl 5 (List.map A3 Bp)),(1,AV.sl 5 (List.map A3 Bt)),(2,bA s2),(7,iA s3)]) (fun(s2,s3) a5=>[]) (fun _ a29=>B9 85 []) (fun _ a29=>[]) (fun v=>(bA v,[])) (fun k s=>Fz n Bp Bt k s.1 s.2) (fun s=>rfl) o11 n (Er,0) (fun _=>0) ho11 ?_ ?_
 intro k4 ss a5 K6 cont7 hK8 hcont9 h hr10
 obtain⟨s2,s3⟩:=ss
 replace h:Fz n Bp Bt (k4+1) s2 s3=some o11:=h
 rw[Fz] at h
 conv=>lhs;whnf
 revert h
 refine br ?_ ?_
 refine ix ?_;intro x13
 refine ix ?_;intro x14
 refine br ?_ ?_
 intro h;cases sj h
 refine(hK8 _ _).trans ?_
 refine Eq.trans ?_ (Eq.symm (show _=some _ from hr10))
 conv=>lhs;whnf
 exact rq
 refine ix ?_;intro x16
 refine ix ?_;intro x17
 refine br ?_ ?_
 intro h;cases sj h
 refine(hK8 _ _).trans ?_
 refine Eq.trans ?_ (Eq.symm (show _=some _ from hr10))
 conv=>lhs;whnf
 exact rq
 refine ix ?_;intro x19
 refine ix ?_;intro x20
 refine br ?_ ?_
 refine ix ?_;intro x22
 refine ix ?_;intro x23
 refine br ?_ ?_
 refine br ?_ ?_
 refine ix ?_;intro x26
 refine ix ?_;intro x27
 refine br ?_ ?_
 intro h;cases sj h
 refine(hK8 _ _).trans ?_
 refine Eq.trans ?_ (Eq.symm (show _=some _ from hr10))
 conv=>lhs;whnf
 exact rq
 exact fun h=>cq (hcont9 (true,IntKind.i64.wrap (s3+1)) (fun _=>0) h)
 exact fun h=>cq (hcont9 (false,IntKind.i64.wrap (s3+1)) (fun _=>0) h)
 intro h;cases sj h
 refine(hK8 _ _).trans ?_
 refine Eq.trans ?_ (Eq.symm (show _=some _ from hr10))
 conv=>lhs;whnf
 exact rq
 intro h;cases sj h
 refine(hK8 _ _).trans ?_
 refine Eq.trans ?_ (Eq.symm (show _=some _ from hr10))
 conv=>lhs;whnf
 exact rq
 intro h;cases sj h
 exact kq (hr10 (fun _=>0))
 refine lrc ?_ ?_
 intro v e;subst e;cases sj h;rfl
 intro t a29 e;subst e
 dsimp only at h
 conv=>lhs;whnf
 revert h
 exact rz
theorem Ab1 {n:Nat} ⦃Dm:Int⦄ ⦃r:Int⦄:Tl n Dm=some r→CN n 115 [iA Dm] []=some (iA r,[]):=by
 intro h;rcases n with _|n;cases h
 rw[Tl] at h
 refine Ai Tryz.func115 (by rfl) rfl rfl (Ap rfl) ?_
 intro call hc;conv=>lhs;whnf
 revert h
 refine br ?_ ?_
 refine br ?_ ?_
 exact rz
 refine br ?_ ?_
 exact rz
 refine br ?_ ?_
 refine br ?_ ?_
 exact rz
 exact rz
 exact rz
 refine br ?_ ?_
 exact rz
 refine br ?_ ?_
 refine br ?_ ?_
 exact rz
 exact rz
 exact rz
theorem Abu {n:Nat} ⦃Aa:(List A2)⦄ ⦃Bb:Int⦄ ⦃r:Int⦄:Xg n Aa Bb=some r→CN n 116 [AV.sl 5 (List.map A3 Aa),iA Bb] []=some (iA r,[]):=by
 intro h;rcases n with _|n;cases h
 rw[Xg] at h
 refine Ai Tryz.func116 (by rfl) rfl rfl (Ap rfl) ?_
 intro call hc;conv=>lhs;whnf
 revert h
 refine br ?_ ?_
 exact rz
 intro h;refine As h ?_;clear h;intro o11 ho11 h
 refine lq (σ:=(Int×Int)) (τ:=Unit) (ν:=Int) 0 (fun(s2,s3) a5=>B9 33 [(0,AV.sl 5 (List.map A3 Aa)),(5,iA s2),(6,iA s3)]) (fun(s2,s3) a5=>[]) (fun _ a18=>B9 33 []) (fun _ a18=>[]) (fun v=>(iA v,[])) (fun k s=>Pj n Aa k s.1 s.2) (fun s=>rfl) o11 n (1,Bb) (fun _=>0) ho11 ?_ ?_
 intro k4 ss a5 K6 cont7 hK8 hcont9 h hr10
 obtain⟨s2,s3⟩:=ss
 replace h:Pj n Aa (k4+1) s2 s3=some o11:=h
 rw[Pj] at h
 conv=>lhs;whnf
 revert h
 refine br ?_ ?_
 refine ix ?_;intro x13
 refine ca hc (fun _ h=>Ab1 h) ?_;intro y14
 refine br ?_ ?_
 intro h;cases sj h
 refine(hK8 _ _).trans ?_
 refine Eq.trans ?_ (Eq.symm (show _=some _ from hr10))
 conv=>lhs;whnf
 exact rq
 refine br ?_ ?_
 intro h;cases sj h
 refine(hK8 _ _).trans ?_
 refine Eq.trans ?_ (Eq.symm (show _=some _ from hr10))
 conv=>lhs;whnf
 exact rq
 exact fun h=>cq (hcont9 (IntKind.i64.wrap ((IntKind.i64.wrap (s2 - 1))+y14),IntKind.i64.wrap (s3+1)) (fun _=>0) h)
 intro h;cases sj h
 exact kq (hr10 (fun _=>0))
 refine lrc ?_ ?_
 intro v e;subst e;cases sj h;rfl
 intro t a18 e;subst e
 dsimp only at h
 conv=>lhs;whnf
 revert h
 exact rz
def Zz (n:Nat):Prop:=∀ ⦃Aa:(List A2)⦄ ⦃Bb:Int⦄ ⦃r:Int⦄,Ln n Aa Bb=some r→CN n 90 [AV.sl 5 (List.map A3 Aa),iA Bb] []=some (iA r,[])
def A4w (n:Nat):Prop:=Zz n
theorem Am4 (n:Nat) (ih:A4w n):Zz (n+1):=by
 intro Aa Bb r h
 rw[Ln] at h
 refine Ai Tryz.func90 (by rfl) rfl rfl (Ap rfl) ?_
 intro call hc;conv=>lhs;whnf
 revert h
 intro h;refine As h ?_;clear h;intro o11 ho11 h
 refine lq (σ:=(Int×Int×Int)) (τ:=Int) (ν:=Int) 0 (fun(s1,s2,s3) a5=>B9 30 [(0,AV.sl 5 (List.map A3 Aa)),(1,iA Bb),(5,iA s1),(6,iA s2),(7,iA s3)]) (fun(s1,s2,s3) a5=>[]) (fun x21 a20=>B9 30 [(5,iA x21)]) (fun x21 a20=>[]) (fun v=>(iA v,[])) (fun k s=>Mq n (Ln n) Aa Bb k s.1 s.2.1 s.2.2) (fun s=>rfl) o11 n (0,IntKind.i64.wrap (Bb+1),0) (fun _=>0) ho11 ?_ ?_
 intro k4 ss a5 K6 cont7 hK8 hcont9 h hr10
 obtain⟨s1,s2,s3⟩:=ss
 replace h:Mq n (Ln n) Aa Bb (k4+1) s1 s2 s3=some o11:=h
 rw[Mq] at h
 conv=>lhs;whnf
 revert h
 refine ix ?_;intro x12
 refine ca hc (fun _ h=>Ab1 h) ?_;intro y13
 refine br ?_ ?_
 refine ca hc (fun _ h=>ih h) ?_;intro y16
 refine ca hc (fun _ h=>Abu h) ?_;intro y18
 exact fun h=>cq (hcont9 ((if s1<(IntKind.i64.wrap (1+y16)) then(IntKind.i64.wrap (1+y16)) else s1),y18,IntKind.i64.wrap (s3+1)) (fun _=>0) h)
 intro h;cases sj h
 exact kq (hr10 (fun _=>0))
 refine lrc ?_ ?_
 intro v e;subst e;cases sj h;rfl
 intro x21 a20 e;subst e
 dsimp only at h
 conv=>lhs;whnf
 revert h
 exact rz
theorem A92:∀ n,A4w n
 | 0=>by unfold A4w Zz;intros;rename_i h;exact absurd h (by intro h;cases h)
 | n+1=>have ih:=A92 n
   Am4 n ih
theorem Ab2 {n:Nat}:Zz n:=(A92 n)
theorem Ahh {n:Nat} ⦃r:(List (List Int))⦄:Ov n=some r→CN n 114 [] []=some (AV.sl 1 (List.map B28 r),[]):=by
 intro h;rcases n with _|n;cases h
 rw[Ov] at h
 refine Ai Tryz.func114 (by rfl) rfl rfl (Ap rfl) ?_
 intro call hc;conv=>lhs;whnf
 revert h
 exact rz
theorem Gl {n:Nat} ⦃Aa:(List A5)⦄ ⦃Bb:Int⦄ ⦃Ae2:(List UInt8)⦄ ⦃r:Bool⦄:Fp n Aa Bb Ae2=some r→CN n 65 [AV.sl 4 (List.map A4 Aa),iA Bb,sA Ae2] []=some (bA r,[]):=by
 intro h;rcases n with _|n;cases h
 rw[Fp] at h
 refine Ai Tryz.func65 (by rfl) rfl rfl (Ap rfl) ?_
 intro call hc;conv=>lhs;whnf
 revert h
 refine br ?_ ?_
 refine ix ?_;intro x2
 refine br ?_ ?_
 refine ix ?_;intro x4
 exact rz
 exact rz
 exact rz
theorem W2 {n:Nat} ⦃Aa:(List A5)⦄ ⦃Bb:Int⦄ ⦃r:Int⦄:Py n Aa Bb=some r→CN n 86 [AV.sl 4 (List.map A4 Aa),iA Bb] []=some (iA r,[]):=by
 intro h;rcases n with _|n;cases h
 rw[Py] at h
 refine Ai Tryz.func86 (by rfl) rfl rfl (Ap rfl) ?_
 intro call hc;conv=>lhs;whnf
 revert h
 refine br ?_ ?_
 refine ix ?_;intro x2
 exact rz
 refine br ?_ ?_
 exact rz
 refine ix ?_;intro x4
 refine ix ?_;intro x5
 exact rz
theorem Gr {n:Nat} ⦃Aa:(List A5)⦄ ⦃Bb:Int⦄ ⦃r:Do⦄:Fi n Aa Bb=some r→CN n 134 [AV.sl 4 (List.map A4 Aa),iA Bb] []=some (AV.agg [AV.sl 5 (List.map A3 r.f_l),iA r.f_to,iA r.f_e,iA r.f_at],[]):=by
 intro h;rcases n with _|n;cases h
 rw[Fi] at h
 refine Ai Tryz.func134 (by rfl) rfl rfl (Ap rfl) ?_
 intro call hc;conv=>lhs;whnf
 revert h
 refine br ?_ ?_
 refine ca hc (fun _ h=>W2 h) ?_;intro y2
 exact rz
 refine ca hc (fun _ h=>W2 h) ?_;intro y4
 exact rz
theorem Amb {n:Nat} ⦃Dm:Int⦄ ⦃r:(List UInt8)⦄:A1w n Dm=some r→CN n 135 [iA Dm] []=some (sA r,[]):=by
 intro h;rcases n with _|n;cases h
 rw[A1w] at h
 refine Ai Tryz.func135 (by rfl) rfl rfl (Ap rfl) ?_
 intro call hc;conv=>lhs;whnf
 revert h
 intro h
 refine As h ?_;clear h;intro x1 hx1 h
 refine B4 (by first|exact Ga hx1|(have q:=Ga hx1;exact q)) ?_
 simp only[(show nth? ([[sA (([33]:List UInt8))],[sA (([43]:List UInt8))],[sA (([45]:List UInt8))],[sA (([42]:List UInt8))],[sA (([61,61]:List UInt8))],[sA (([33,61]:List UInt8))],[sA (([60]:List UInt8))],[sA (([60,61]:List UInt8))],[sA (([38,38]:List UInt8))],[sA (([124,124]:List UInt8))]]:List (List AV)) (IntKind.i64.wrap (Dm - 5)).toNat=some (Dv x1) from Ik (f:=Dv) hx1),ls]
 conv=>lhs;whnf
 revert h
 exact rz
theorem Ajs {n:Nat} ⦃Aa:(List A5)⦄ ⦃Bb:Int⦄ ⦃Xe:(List Int)⦄ ⦃r:Int⦄:Xb n Aa Bb Xe=some r→CN n 113 [AV.sl 4 (List.map A4 Aa),iA Bb,AV.sl 1 (List.map Dy Xe)] []=some (iA r,[]):=by
 intro h;rcases n with _|n;cases h
 rw[Xb] at h
 refine Ai Tryz.func113 (by rfl) rfl rfl (Ap rfl) ?_
 intro call hc;conv=>lhs;whnf
 revert h
 intro h;refine As h ?_;clear h;intro o9 ho9 h
 refine lq (σ:=Int) (τ:=Unit) (ν:=Int) 0 (fun s1 a3=>B9 26 [(0,AV.sl 4 (List.map A4 Aa)),(1,iA Bb),(2,AV.sl 1 (List.map Dy Xe)),(7,iA s1)]) (fun s1 a3=>[]) (fun _ a18=>B9 26 []) (fun _ a18=>[]) (fun v=>(iA v,[])) (fun k s=>Qd n Aa Bb Xe k s) (fun s=>rfl) o9 n 0 (fun _=>0) ho9 ?_ ?_
 intro k2 s1 a3 K4 cont5 hK6 hcont7 h hr8
 replace h:Qd n Aa Bb Xe (k2+1) s1=some o9:=h
 rw[Qd] at h
 conv=>lhs;whnf
 revert h
 refine br ?_ ?_
 refine ix ?_;intro x11
 refine ca hc (fun _ h=>Amb h) ?_;intro y12
 refine ca hc (fun _ h=>Gl h) ?_;intro y14
 refine br ?_ ?_
 refine ix ?_;intro x17
 intro h;cases sj h
 refine(hK6 _ _).trans ?_
 refine Eq.trans ?_ (Eq.symm (show _=some _ from hr8))
 conv=>lhs;whnf
 exact rq
 exact fun h=>cq (hcont7 (IntKind.i64.wrap (s1+1)) (fun _=>0) h)
 intro h;cases sj h
 exact kq (hr8 (fun _=>0))
 refine lrc ?_ ?_
 intro v e;subst e;cases sj h;rfl
 intro t a18 e;subst e
 dsimp only at h
 conv=>lhs;whnf
 revert h
 exact rz
def Z3 (n:Nat):Prop:=∀ ⦃Aa:(List A5)⦄ ⦃Bb:Int⦄ ⦃G0:Int⦄ ⦃A0g:Int⦄ ⦃r:Do⦄,F5 n Aa Bb G0 A0g=some r→CN n 89 [AV.sl 4 (List.map A4 Aa),iA Bb,iA G0,iA A0g] []=some (AV.agg [AV.sl 5 (List.map A3 r.f_l),iA r.f_to,iA r.f_e,iA r.f_at],[])
def A4s (n:Nat):Prop:=∀ ⦃Aa:(List A5)⦄ ⦃Bb:Int⦄ ⦃G0:Int⦄ ⦃r:Do⦄,Hz n Aa Bb G0=some r→CN n 112 [AV.sl 4 (List.map A4 Aa),iA Bb,iA G0] []=some (AV.agg [AV.sl 5 (List.map A3 r.f_l),iA r.f_to,iA r.f_e,iA r.f_at],[])
def A2h (n:Nat):Prop:=Z3 n∧A4s n
theorem Aju (n:Nat) (ih:A2h n):Z3 (n+1):=by
 intro Aa Bb G0 A0g r h
 rw[F5] at h
 refine Ai Tryz.func89 (by rfl) rfl rfl (Ap rfl) ?_
 intro call hc;conv=>lhs;whnf
 revert h
 refine br ?_ ?_
 refine ca hc (fun _ h=>ih.2 h) ?_;intro y2
 exact rz
 refine ca hc (fun _ h=>ih.1 h) ?_;intro y4
 intro h;refine As h ?_;clear h;intro o17 ho17 h
 refine lq (σ:=((List A2)×Int×Int×Int)) (τ:=((List A2)×Int×Int×Int)) (ν:=Do) 0 (fun(s6,s7,s8,s9) a11=>B9 78 [(0,AV.sl 4 (List.map A4 Aa)),(2,iA G0),(3,iA A0g),(8,AV.ptr 0 0),(9,AV.ptr 1 0)]) (fun(s6,s7,s8,s9) a11=>[Ob.var 124 [AV.nils,iA (0),iA (0),iA (0)],Ob.var 124 [AV.sl 5 (List.map A3 s6),iA s7,iA s8,iA s9]]) (fun(x35,x36,x37,x38) a34=>B9 78 [(8,AV.ptr 0 0),(9,AV.ptr 1 0)]) (fun(x35,x36,x37,x38) a34=>[Ob.var 124 [AV.nils,iA (0),iA (0),iA (0)],Ob.var 124 [AV.sl 5 (List.map A3 x35),iA x36,iA x37,iA x38]]) (fun v=>(AV.agg [AV.sl 5 (List.map A3 v.f_l),iA v.f_to,iA v.f_e,iA v.f_at],[])) (fun k s=>Lw n (F5 n) Aa G0 A0g k s.1 s.2.1 s.2.2.1 s.2.2.2) (fun s=>rfl) o17 n (y4.f_l,y4.f_to,y4.f_e,y4.f_at) (fun _=>0) ho17 ?_ ?_
 intro k10 ss a11 K12 cont13 hK14 hcont15 h hr16
 obtain⟨s6,s7,s8,s9⟩:=ss
 replace h:Lw n (F5 n) Aa G0 A0g (k10+1) s6 s7 s8 s9=some o17:=h
 rw[Lw] at h
 conv=>lhs;whnf
 revert h
 refine br ?_ ?_
 refine ca hc (fun _ h=>Ahh h) ?_;intro y19
 refine ix ?_;intro x21
 refine ca hc (fun _ h=>Ajs h) ?_;intro y22
 refine br ?_ ?_
 intro h;cases sj h
 refine(hK14 _ _).trans ?_
 refine Eq.trans ?_ (Eq.symm (show _=some _ from hr16))
 conv=>lhs;whnf
 exact rq
 refine ca hc (fun _ h=>ih.1 h) ?_;intro y25
 refine br ?_ ?_
 intro h;cases sj h
 refine(hK14 _ _).trans ?_
 refine Eq.trans ?_ (Eq.symm (show _=some _ from hr16))
 conv=>lhs;whnf
 exact rq
 refine ix ?_;intro x28
 refine ar (ap A3 ([[iA y22,iA (0),sA (([]:List UInt8)),sA (([]:List UInt8)),iA x28.Ab]]) ([(⟨y22,0,([]:List UInt8),([]:List UInt8),x28.Ab⟩:A2)]:List A2) (List.map A3 s6) s6) ?_
 refine ar (ap A3 (List.map A3 (([(⟨y22,0,([]:List UInt8),([]:List UInt8),x28.Ab⟩:A2)]:List A2)++s6)) (([(⟨y22,0,([]:List UInt8),([]:List UInt8),x28.Ab⟩:A2)]:List A2)++s6) (List.map A3 y25.f_l) y25.f_l) ?_
 refine br ?_ ?_
 intro h;cases sj h
 refine(hK14 _ _).trans ?_
 refine Eq.trans ?_ (Eq.symm (show _=some _ from hr16))
 conv=>lhs;whnf
 try simp only[ls]
 exact fq (y:=some (AV.agg [AV.sl 5 (List.take (List.length (((([(⟨y22,0,([]:List UInt8),([]:List UInt8),x28.Ab⟩:A2)]:List A2)++s6)++y25.f_l))) (List.map A3 ((([(⟨y22,0,([]:List UInt8),([]:List UInt8),x28.Ab⟩:A2)]:List A2)++s6)++y25.f_l))),iA y25.f_to,iA (0),iA (0)],[]))
 exact fun h=>cq (hcont15 (((([(⟨y22,0,([]:List UInt8),([]:List UInt8),x28.Ab⟩:A2)]:List A2)++s6)++y25.f_l),y25.f_to,0,0) (fun _=>0) h)
 intro h;cases sj h
 exact kq (hr16 (fun _=>0))
 refine lrc ?_ ?_
 intro v e;subst e;cases sj h;rfl
 intro t a34 e;subst e
 obtain⟨x35,x36,x37,x38⟩:=t
 dsimp only at h
 conv=>lhs;whnf
 revert h
 exact rz
theorem Am5 (n:Nat) (ih:A2h n):A4s (n+1):=by
 intro Aa Bb G0 r h
 rw[Hz] at h
 refine Ai Tryz.func112 (by rfl) rfl rfl (Ap rfl) ?_
 intro call hc;conv=>lhs;whnf
 revert h
 refine br ?_ ?_
 refine ca hc (fun _ h=>Gr h) ?_;intro y2
 exact rz
 refine ix ?_;intro x4
 refine ca hc (fun _ h=>Gl h) ?_;intro y5
 refine br ?_ ?_
 refine br ?_ ?_
 exact rz
 refine ca hc (fun _ h=>Gl h) ?_;intro y9
 refine br ?_ ?_
 refine ca hc (fun _ h=>ih.2 h) ?_;intro y12
 refine br ?_ ?_
 refine ar (ap A3 ([[iA (5),iA (0),sA (([]:List UInt8)),sA (([]:List UInt8)),iA x4.Ab]]) ([(⟨5,0,([]:List UInt8),([]:List UInt8),x4.Ab⟩:A2)]:List A2) (List.map A3 y12.f_l) y12.f_l) ?_
 intro h;cases sj h
 try simp only[ls]
 exact fq (y:=some (AV.agg [AV.sl 5 (List.take (List.length ((([(⟨5,0,([]:List UInt8),([]:List UInt8),x4.Ab⟩:A2)]:List A2)++y12.f_l))) (List.map A3 (([(⟨5,0,([]:List UInt8),([]:List UInt8),x4.Ab⟩:A2)]:List A2)++y12.f_l))),iA y12.f_to,iA y12.f_e,iA y12.f_at],[]))
 exact rz
 refine ca hc (fun _ h=>Gl h) ?_;intro y17
 refine br ?_ ?_
 refine ca hc (fun _ h=>ih.1 h) ?_;intro y20
 refine br ?_ ?_
 refine ca hc (fun _ h=>Gl h) ?_;intro y23
 refine br ?_ ?_
 exact rz
 refine ca hc (fun _ h=>Gr h) ?_;intro y26
 exact rz
 exact rz
 refine br ?_ ?_
 exact rz
 refine br ?_ ?_
 refine ca hc (fun _ h=>Gr h) ?_;intro y30
 exact rz
 refine ca hc (fun _ h=>Ml h) ?_;intro y32
 refine br ?_ ?_
 refine ca hc (fun _ h=>Gl h) ?_;intro y35
 refine br ?_ ?_
 refine br ?_ ?_
 refine ca hc (fun _ h=>Gr h) ?_;intro y39
 exact rz
 refine ix ?_;intro x41
 refine br ?_ ?_
 refine ca hc (fun _ h=>Gr h) ?_;intro y43
 exact rz
 refine ix ?_;intro x45
 refine ca hc (fun _ h=>Ml h) ?_;intro y46
 refine br ?_ ?_
 refine ix ?_;intro x49
 exact rz
 refine ca hc (fun _ h=>Gr h) ?_;intro y50
 exact rz
 exact rz
 refine ca hc (fun _ h=>Gr h) ?_;intro y52
 exact rz
 refine ca hc (fun _ h=>Gl h) ?_;intro y54
 refine br ?_ ?_
 refine br ?_ ?_
 exact rz
 refine ca hc (fun _ h=>Gl h) ?_;intro y58
 refine br ?_ ?_
 refine ca hc (fun _ h=>ih.2 h) ?_;intro y61
 refine br ?_ ?_
 refine ar (ap A3 ([[iA (5),iA (0),sA (([]:List UInt8)),sA (([]:List UInt8)),iA x4.Ab]]) ([(⟨5,0,([]:List UInt8),([]:List UInt8),x4.Ab⟩:A2)]:List A2) (List.map A3 y61.f_l) y61.f_l) ?_
 intro h;cases sj h
 try simp only[ls]
 exact fq (y:=some (AV.agg [AV.sl 5 (List.take (List.length ((([(⟨5,0,([]:List UInt8),([]:List UInt8),x4.Ab⟩:A2)]:List A2)++y61.f_l))) (List.map A3 (([(⟨5,0,([]:List UInt8),([]:List UInt8),x4.Ab⟩:A2)]:List A2)++y61.f_l))),iA y61.f_to,iA y61.f_e,iA y61.f_at],[]))
 exact rz
 refine ca hc (fun _ h=>Gl h) ?_;intro y66
 refine br ?_ ?_
 refine ca hc (fun _ h=>ih.1 h) ?_;intro y69
 refine br ?_ ?_
 refine ca hc (fun _ h=>Gl h) ?_;intro y72
 refine br ?_ ?_
 exact rz
 refine ca hc (fun _ h=>Gr h) ?_;intro y75
 exact rz
 exact rz
 refine br ?_ ?_
 exact rz
 refine br ?_ ?_
 refine ca hc (fun _ h=>Gr h) ?_;intro y79
 exact rz
 refine ca hc (fun _ h=>Ml h) ?_;intro y81
 refine br ?_ ?_
 refine ca hc (fun _ h=>Gl h) ?_;intro y84
 refine br ?_ ?_
 refine br ?_ ?_
 refine ca hc (fun _ h=>Gr h) ?_;intro y88
 exact rz
 refine ix ?_;intro x90
 refine br ?_ ?_
 refine ca hc (fun _ h=>Gr h) ?_;intro y92
 exact rz
 refine ix ?_;intro x94
 refine ca hc (fun _ h=>Ml h) ?_;intro y95
 refine br ?_ ?_
 refine ix ?_;intro x98
 exact rz
 refine ca hc (fun _ h=>Gr h) ?_;intro y99
 exact rz
 exact rz
 refine ca hc (fun _ h=>Gr h) ?_;intro y101
 exact rz
 refine ca hc (fun _ h=>Gl h) ?_;intro y103
 refine br ?_ ?_
 refine ca hc (fun _ h=>ih.2 h) ?_;intro y106
 refine br ?_ ?_
 refine ar (ap A3 ([[iA (5),iA (0),sA (([]:List UInt8)),sA (([]:List UInt8)),iA x4.Ab]]) ([(⟨5,0,([]:List UInt8),([]:List UInt8),x4.Ab⟩:A2)]:List A2) (List.map A3 y106.f_l) y106.f_l) ?_
 intro h;cases sj h
 try simp only[ls]
 exact fq (y:=some (AV.agg [AV.sl 5 (List.take (List.length ((([(⟨5,0,([]:List UInt8),([]:List UInt8),x4.Ab⟩:A2)]:List A2)++y106.f_l))) (List.map A3 (([(⟨5,0,([]:List UInt8),([]:List UInt8),x4.Ab⟩:A2)]:List A2)++y106.f_l))),iA y106.f_to,iA y106.f_e,iA y106.f_at],[]))
 exact rz
 refine ca hc (fun _ h=>Gl h) ?_;intro y111
 refine br ?_ ?_
 refine ca hc (fun _ h=>ih.1 h) ?_;intro y114
 refine br ?_ ?_
 refine ca hc (fun _ h=>Gl h) ?_;intro y117
 refine br ?_ ?_
 exact rz
 refine ca hc (fun _ h=>Gr h) ?_;intro y120
 exact rz
 exact rz
 refine br ?_ ?_
 exact rz
 refine br ?_ ?_
 refine ca hc (fun _ h=>Gr h) ?_;intro y124
 exact rz
 refine ca hc (fun _ h=>Ml h) ?_;intro y126
 refine br ?_ ?_
 refine ca hc (fun _ h=>Gl h) ?_;intro y129
 refine br ?_ ?_
 refine br ?_ ?_
 refine ca hc (fun _ h=>Gr h) ?_;intro y133
 exact rz
 refine ix ?_;intro x135
 refine br ?_ ?_
 refine ca hc (fun _ h=>Gr h) ?_;intro y137
 exact rz
 refine ix ?_;intro x139
 refine ca hc (fun _ h=>Ml h) ?_;intro y140
 refine br ?_ ?_
 refine ix ?_;intro x143
 exact rz
 refine ca hc (fun _ h=>Gr h) ?_;intro y144
 exact rz
 exact rz
 refine ca hc (fun _ h=>Gr h) ?_;intro y146
 exact rz
theorem A7t:∀ n,A2h n
 | 0=>⟨by unfold Z3;intros;rename_i h;exact absurd h (by intro h;cases h),by unfold A4s;intros;rename_i h;exact absurd h (by intro h;cases h)⟩
 | n+1=>have ih:=A7t n
   ⟨Aju n ih,Am5 n ih⟩
theorem Ajb {n:Nat}:Z3 n:=(A7t n).1
theorem A9m {n:Nat} ⦃Aa:(List A5)⦄ ⦃Bb:Int⦄ ⦃r:((List A2)×Int×Int×Int)⦄:Sj n Aa Bb=some r→CN n 70 [AV.sl 4 (List.map A4 Aa),iA Bb] []=some (AV.tup [AV.sl 5 (List.map A3 r.1),iA r.2.1,iA r.2.2.1,iA r.2.2.2],[]):=by
 intro h;rcases n with _|n;cases h
 rw[Sj] at h
 refine Ai Tryz.func70 (by rfl) rfl rfl (Ap rfl) ?_
 intro call hc;conv=>lhs;whnf
 revert h
 refine br ?_ ?_
 exact rz
 refine ca hc (fun _ h=>Ajb h) ?_;intro y2
 refine br ?_ ?_
 exact rz
 refine ca hc (fun _ h=>Ab2 h) ?_;intro y5
 refine br ?_ ?_
 refine ix ?_;intro x8
 exact rz
 refine br ?_ ?_
 refine ix ?_;intro x10
 exact rz
 exact rz
theorem Aiq {n:Nat} ⦃Aa:(List A2)⦄ ⦃r:(List A2)⦄:Wz n Aa=some r→CN n 147 [AV.sl 5 (List.map A3 Aa)] []=some (AV.sl 5 (List.map A3 r),[]):=by
 intro h;rcases n with _|n;cases h
 rw[Wz] at h
 refine Ai Tryz.func147 (by rfl) rfl rfl (Ap rfl) ?_
 intro call hc;conv=>lhs;whnf
 revert h
 intro h;refine As h ?_;clear h;intro o10 ho10 h
 refine lq (σ:=(Int×(List A2))) (τ:=(List A2)) (ν:=(List A2)) 0 (fun(s1,s2) a4=>B9 41 [(0,AV.sl 5 (List.map A3 Aa)),(3,AV.row 0 (List.length s2)),(4,iA s1)]) (fun(s1,s2) a4=>[Ob.row 47 5 (List.map A3 s2)]) (fun x28 a27=>B9 41 [(3,AV.row 0 (List.length x28))]) (fun x28 a27=>[Ob.row 47 5 (List.map A3 x28)]) (fun v=>(AV.sl 5 (List.map A3 v),[])) (fun k s=>Kr n Aa k s.1 s.2) (fun s=>rfl) o10 n (0,([]:List A2)) (fun _=>0) ho10 ?_ ?_
 intro k3 ss a4 K5 cont6 hK7 hcont8 h hr9
 obtain⟨s1,s2⟩:=ss
 replace h:Kr n Aa (k3+1) s1 s2=some o10:=h
 rw[Kr] at h
 conv=>lhs;whnf
 revert h
 refine br ?_ ?_
 refine ix ?_;intro x12
 refine br ?_ ?_
 refine ix ?_;intro x14
 refine ar (ap A3 (List.map A3 s2) s2 ([[iA x14.B3,iA x14.Bs,sA x14.Ao,sA x14.Cq,iA x14.Ab]]) ([x14]:List A2)) ?_
 exact fun h=>cq (hcont8 (IntKind.i64.wrap (s1+1),(s2++([x14]:List A2))) (fun _=>0) h)
 refine ix ?_;intro x17
 refine br ?_ ?_
 refine ix ?_;intro x19
 refine ar (ap A3 (List.map A3 s2) s2 ([[iA x19.B3,iA x19.Bs,sA x19.Ao,sA x19.Cq,iA x19.Ab]]) ([x19]:List A2)) ?_
 exact fun h=>cq (hcont8 (IntKind.i64.wrap (s1+1),(s2++([x19]:List A2))) (fun _=>0) h)
 refine ix ?_;intro x22
 refine br ?_ ?_
 refine ix ?_;intro x24
 refine ar (ap A3 (List.map A3 s2) s2 ([[iA x24.B3,iA x24.Bs,sA x24.Ao,sA x24.Cq,iA x24.Ab]]) ([x24]:List A2)) ?_
 exact fun h=>cq (hcont8 (IntKind.i64.wrap (s1+1),(s2++([x24]:List A2))) (fun _=>0) h)
 exact fun h=>cq (hcont8 (IntKind.i64.wrap (s1+1),s2) (fun _=>0) h)
 intro h;cases sj h
 exact kq (hr9 (fun _=>0))
 refine lrc ?_ ?_
 intro v e;subst e;cases sj h;rfl
 intro x28 a27 e;subst e
 dsimp only at h
 conv=>lhs;whnf
 revert h
 intro h;obtain rfl:=sj h
 try simp only[ls]
 exact fq (y:=some (AV.sl 5 (List.take (List.length x28) (List.map A3 x28)),[]))
theorem Am7 {n:Nat} ⦃B1:A2⦄ ⦃r:Bool⦄:Y7 n B1=some r→CN n 150 [AV.agg [iA B1.B3,iA B1.Bs,sA B1.Ao,sA B1.Cq,iA B1.Ab]] []=some (bA r,[]):=by
 intro h;rcases n with _|n;cases h
 rw[Y7] at h
 refine Ai Tryz.func150 (by rfl) rfl rfl (Ap rfl) ?_
 intro call hc;conv=>lhs;whnf
 revert h
 refine br ?_ ?_
 exact rz
 refine br ?_ ?_
 refine br ?_ ?_
 refine br ?_ ?_
 refine br ?_ ?_
 exact rz
 exact rz
 exact rz
 exact rz
 refine br ?_ ?_
 refine br ?_ ?_
 refine ca hc (fun _ h=>Ml h) ?_;intro y8
 refine br ?_ ?_
 exact rz
 exact rz
 exact rz
 refine br ?_ ?_
 refine br ?_ ?_
 refine ca hc (fun _ h=>Ml h) ?_;intro y13
 refine br ?_ ?_
 exact rz
 exact rz
 exact rz
 refine br ?_ ?_
 refine br ?_ ?_
 refine ca hc (fun _ h=>Ml h) ?_;intro y18
 refine br ?_ ?_
 refine ca hc (fun _ h=>Ml h) ?_;intro y21
 exact rz
 exact rz
 exact rz
 refine br ?_ ?_
 refine br ?_ ?_
 exact rz
 exact rz
 exact rz
theorem Ak2 {n:Nat} ⦃Aa:(List A2)⦄ ⦃r:Bool⦄:Xa n Aa=some r→CN n 148 [AV.sl 5 (List.map A3 Aa)] []=some (bA r,[]):=by
 intro h;rcases n with _|n;cases h
 rw[Xa] at h
 refine Ai Tryz.func148 (by rfl) rfl rfl (Ap rfl) ?_
 intro call hc;conv=>lhs;whnf
 revert h
 refine br ?_ ?_
 exact rz
 refine br ?_ ?_
 exact rz
 refine ca hc (fun _ h=>Abu h) ?_;intro y3
 refine br ?_ ?_
 exact rz
 intro h;refine As h ?_;clear h;intro o14 ho14 h
 refine lq (σ:=Int) (τ:=Unit) (ν:=Bool) 0 (fun s6 a8=>B9 34 [(0,AV.sl 5 (List.map A3 Aa)),(3,iA s6)]) (fun s6 a8=>[]) (fun _ a20=>B9 34 [(0,AV.sl 5 (List.map A3 Aa))]) (fun _ a20=>[]) (fun v=>(bA v,[])) (fun k s=>P3 n Aa k s) (fun s=>rfl) o14 n 0 (fun _=>0) ho14 ?_ ?_
 intro k7 s6 a8 K9 cont10 hK11 hcont12 h hr13
 replace h:P3 n Aa (k7+1) s6=some o14:=h
 rw[P3] at h
 conv=>lhs;whnf
 revert h
 refine br ?_ ?_
 refine ix ?_;intro x16
 refine ca hc (fun _ h=>Am7 h) ?_;intro y17
 refine br ?_ ?_
 exact fun h=>cq (hcont12 (IntKind.i64.wrap (s6+1)) (fun _=>0) h)
 intro h;cases sj h
 refine(hK11 _ _).trans ?_
 refine Eq.trans ?_ (Eq.symm (show _=some _ from hr13))
 conv=>lhs;whnf
 exact rq
 intro h;cases sj h
 exact kq (hr13 (fun _=>0))
 refine lrc ?_ ?_
 intro v e;subst e;cases sj h;rfl
 intro t a20 e;subst e
 dsimp only at h
 conv=>lhs;whnf
 revert h
 refine ca hc (fun _ h=>Ab2 h) ?_;intro y21
 exact rz
theorem A50 {n:Nat} ⦃Bp:(List A0)⦄ ⦃Bt:(List A0)⦄ ⦃Er:Bool⦄ ⦃r:Bool⦄:O2 n Bp Bt Er=some r→CN n 34 [AV.sl 9 (List.map A9 Bp),AV.sl 9 (List.map A9 Bt),bA Er] []=some (bA r,[]):=by
 intro h;rcases n with _|n;cases h
 rw[O2] at h
 refine Ai Tryz.func34 (by rfl) rfl rfl (Ap rfl) ?_
 intro call hc;conv=>lhs;whnf
 revert h
 refine br ?_ ?_
 exact rz
 intro h;refine As h ?_;clear h;intro o11 ho11 h
 refine lq (σ:=(Bool×Int)) (τ:=Unit) (ν:=Bool) 0 (fun(s2,s3) a5=>B9 97 [(0,AV.sl 9 (List.map A9 Bp)),(1,AV.sl 9 (List.map A9 Bt)),(2,bA s2),(7,iA s3)]) (fun(s2,s3) a5=>[]) (fun _ a35=>B9 97 []) (fun _ a35=>[]) (fun v=>(bA v,[])) (fun k s=>Fv n Bp Bt k s.1 s.2) (fun s=>rfl) o11 n (Er,0) (fun _=>0) ho11 ?_ ?_
 intro k4 ss a5 K6 cont7 hK8 hcont9 h hr10
 obtain⟨s2,s3⟩:=ss
 replace h:Fv n Bp Bt (k4+1) s2 s3=some o11:=h
 rw[Fv] at h
 conv=>lhs;whnf
 revert h
 refine br ?_ ?_
 refine ix ?_;intro x13
 refine ix ?_;intro x14
 refine br ?_ ?_
 intro h;cases sj h
 refine(hK8 _ _).trans ?_
 refine Eq.trans ?_ (Eq.symm (show _=some _ from hr10))
 conv=>lhs;whnf
 exact rq
 refine br ?_ ?_
 refine br ?_ ?_
 refine br ?_ ?_
 refine br ?_ ?_
 intro h;cases sj h
 refine(hK8 _ _).trans ?_
 refine Eq.trans ?_ (Eq.symm (show _=some _ from hr10))
 conv=>lhs;whnf
 exact rq
 refine br ?_ ?_
 intro h;cases sj h
 refine(hK8 _ _).trans ?_
 refine Eq.trans ?_ (Eq.symm (show _=some _ from hr10))
 conv=>lhs;whnf
 exact rq
 refine br ?_ ?_
 refine br ?_ ?_
 intro h;cases sj h
 refine(hK8 _ _).trans ?_
 refine Eq.trans ?_ (Eq.symm (show _=some _ from hr10))
 conv=>lhs;whnf
 exact rq
 refine ca hc (fun _ h=>Mh h) ?_;intro y23
 refine br ?_ ?_
 refine ca hc (fun _ h=>Mh h) ?_;intro y26
 refine br ?_ ?_
 exact fun h=>cq (hcont9 (true,IntKind.i64.wrap (s3+1)) (fun _=>0) h)
 intro h;cases sj h
 refine(hK8 _ _).trans ?_
 refine Eq.trans ?_ (Eq.symm (show _=some _ from hr10))
 conv=>lhs;whnf
 exact rq
 intro h;cases sj h
 refine(hK8 _ _).trans ?_
 refine Eq.trans ?_ (Eq.symm (show _=some _ from hr10))
 conv=>lhs;whnf
 exact rq
 refine ca hc (fun _ h=>Mh h) ?_;intro y29
 refine br ?_ ?_
 refine ca hc (fun _ h=>Mh h) ?_;intro y32
 refine br ?_ ?_
 exact fun h=>cq (hcont9 (false,IntKind.i64.wrap (s3+1)) (fun _=>0) h)
 intro h;cases sj h
 refine(hK8 _ _).trans ?_
 refine Eq.trans ?_ (Eq.symm (show _=some _ from hr10))
 conv=>lhs;whnf
 exact rq
 intro h;cases sj h
 refine(hK8 _ _).trans ?_
 refine Eq.trans ?_ (Eq.symm (show _=some _ from hr10))
 conv=>lhs;whnf
 exact rq
 intro h;cases sj h
 refine(hK8 _ _).trans ?_
 refine Eq.trans ?_ (Eq.symm (show _=some _ from hr10))
 conv=>lhs;whnf
 exact rq
 intro h;cases sj h
 refine(hK8 _ _).trans ?_
 refine Eq.trans ?_ (Eq.symm (show _=some _ from hr10))
 conv=>lhs;whnf
 exact rq
 intro h;cases sj h
 refine(hK8 _ _).trans ?_
 refine Eq.trans ?_ (Eq.symm (show _=some _ from hr10))
 conv=>lhs;whnf
 exact rq
 intro h;cases sj h
 exact kq (hr10 (fun _=>0))
 refine lrc ?_ ?_
 intro v e;subst e;cases sj h;rfl
 intro t a35 e;subst e
 dsimp only at h
 conv=>lhs;whnf
 revert h
 exact rz
theorem Rl {n:Nat} ⦃Aa:(List A5)⦄ ⦃Bb:Int⦄ ⦃r:(Int×Int)⦄:Mg n Aa Bb=some r→CN n 64 [AV.sl 4 (List.map A4 Aa),iA Bb] []=some (AV.tup [iA r.1,iA r.2],[]):=by
 intro h;rcases n with _|n;cases h
 rw[Mg] at h
 refine Ai Tryz.func64 (by rfl) rfl rfl (Ap rfl) ?_
 intro call hc;conv=>lhs;whnf
 revert h
 refine br ?_ ?_
 refine ca hc (fun _ h=>W2 h) ?_;intro y2
 exact rz
 refine ca hc (fun _ h=>W2 h) ?_;intro y4
 exact rz
theorem A51 {n:Nat} ⦃Aa:(List A5)⦄ ⦃Bb:Int⦄ ⦃r:Bool⦄:Tn n Aa Bb=some r→CN n 66 [AV.sl 4 (List.map A4 Aa),iA Bb] []=some (bA r,[]):=by
 intro h;rcases n with _|n;cases h
 rw[Tn] at h
 refine Ai Tryz.func66 (by rfl) rfl rfl (Ap rfl) ?_
 intro call hc;conv=>lhs;whnf
 revert h
 refine br ?_ ?_
 refine ix ?_;intro x2
 refine br ?_ ?_
 refine ix ?_;intro x4
 refine ca hc (fun _ h=>Ml h) ?_;intro y5
 exact rz
 exact rz
 exact rz
theorem Aix {n:Nat} ⦃Ds:Int⦄ ⦃r:Bool⦄:Ub n Ds=some r→CN n 110 [iA Ds] []=some (bA r,[]):=by
 intro h;rcases n with _|n;cases h
 rw[Ub] at h
 refine Ai Tryz.func110 (by rfl) rfl rfl (Ap rfl) ?_
 intro call hc;conv=>lhs;whnf
 revert h
 refine br ?_ ?_
 exact rz
 refine br ?_ ?_
 exact rz
 exact rz
theorem Alv {n:Nat} ⦃Ds:Int⦄ ⦃r:(List UInt8)⦄:Yn n Ds=some r→CN n 132 [iA Ds] []=some (sA r,[]):=by
 intro h;rcases n with _|n;cases h
 rw[Yn] at h
 refine Ai Tryz.func132 (by rfl) rfl rfl (Ap rfl) ?_
 intro call hc;conv=>lhs;whnf
 revert h
 refine br ?_ ?_
 exact rz
 refine br ?_ ?_
 exact rz
 refine br ?_ ?_
 exact rz
 refine br ?_ ?_
 exact rz
 refine br ?_ ?_
 exact rz
 refine br ?_ ?_
 exact rz
 refine br ?_ ?_
 exact rz
 refine br ?_ ?_
 exact rz
 refine br ?_ ?_
 exact rz
 refine br ?_ ?_
 exact rz
 exact rz
theorem Aja {n:Nat} ⦃Aa:(List A2)⦄ ⦃r:Bool⦄:X3 n Aa=some r→CN n 145 [AV.sl 5 (List.map A3 Aa)] []=some (bA r,[]):=by
 intro h;rcases n with _|n;cases h
 rw[X3] at h
 refine Ai Tryz.func145 (by rfl) rfl rfl (Ap rfl) ?_
 intro call hc;conv=>lhs;whnf
 revert h
 refine ca hc (fun _ h=>Aiq h) ?_;intro y1
 intro h;refine As h ?_;clear h;intro o11 ho11 h
 refine lq (σ:=Int) (τ:=Unit) (ν:=Bool) 0 (fun s3 a5=>B9 21 [(0,AV.sl 5 (List.map A3 Aa)),(3,AV.sl 5 (List.map A3 y1)),(4,iA s3)]) (fun s3 a5=>[]) (fun _ a15=>B9 21 [(0,AV.sl 5 (List.map A3 Aa))]) (fun _ a15=>[]) (fun v=>(bA v,[])) (fun k s=>Qc n y1 k s) (fun s=>rfl) o11 n 0 (fun _=>0) ho11 ?_ ?_
 intro k4 s3 a5 K6 cont7 hK8 hcont9 h hr10
 replace h:Qc n y1 (k4+1) s3=some o11:=h
 rw[Qc] at h
 conv=>lhs;whnf
 revert h
 refine br ?_ ?_
 refine ix ?_;intro x13
 refine br ?_ ?_
 intro h;cases sj h
 refine(hK8 _ _).trans ?_
 refine Eq.trans ?_ (Eq.symm (show _=some _ from hr10))
 conv=>lhs;whnf
 exact rq
 exact fun h=>cq (hcont9 (IntKind.i64.wrap (s3+1)) (fun _=>0) h)
 intro h;cases sj h
 exact kq (hr10 (fun _=>0))
 refine lrc ?_ ?_
 intro v e;subst e;cases sj h;rfl
 intro t a15 e;subst e
 dsimp only at h
 conv=>lhs;whnf
 revert h
 refine ca hc (fun _ h=>Ak2 h) ?_;intro y16
 exact rz
theorem A9p {n:Nat} ⦃Aa:(List A5)⦄ ⦃Bb:Int⦄ ⦃r:((List A2)×Int×Int×Int)⦄:Uc n Aa Bb=some r→CN n 133 [AV.sl 4 (List.map A4 Aa),iA Bb] []=some (AV.tup [AV.sl 5 (List.map A3 r.1),iA r.2.1,iA r.2.2.1,iA r.2.2.2],[]):=by
 intro h;rcases n with _|n;cases h
 rw[Uc] at h
 refine Ai Tryz.func133 (by rfl) rfl rfl (Ap rfl) ?_
 intro call hc;conv=>lhs;whnf
 revert h
 refine ca hc (fun _ h=>A9m h) ?_;intro y1
 refine br ?_ ?_
 exact rz
 refine ca hc (fun _ h=>Aja h) ?_;intro y4
 refine br ?_ ?_
 exact rz
 refine ix ?_;intro x7
 exact rz
theorem Ahk {n:Nat} ⦃Aa:(List A5)⦄ ⦃Bb:Int⦄ ⦃Fn:A0⦄ ⦃r:(A0×Int×Int×Int)⦄:Lv n Aa Bb Fn=some r→CN n 109 [AV.sl 4 (List.map A4 Aa),iA Bb,AV.agg [iA Fn.A7,sA Fn.Bd,sA Fn.Be,AV.sl 5 (List.map A3 Fn.Bm),AV.sl 5 (List.map A3 Fn.C6),bA Fn.Br,iA Fn.B5,iA Fn.Ch,iA Fn.Ab]] []=some (AV.tup [AV.agg [iA r.1.A7,sA r.1.Bd,sA r.1.Be,AV.sl 5 (List.map A3 r.1.Bm),AV.sl 5 (List.map A3 r.1.C6),bA r.1.Br,iA r.1.B5,iA r.1.Ch,iA r.1.Ab],iA r.2.1,iA r.2.2.1,iA r.2.2.2],[]):=by
 intro h;rcases n with _|n;cases h
 rw[Lv] at h
 refine Ai Tryz.func109 (by rfl) rfl rfl (Ap rfl) ?_
 intro call hc;conv=>lhs;whnf
 revert h
 refine ca hc (fun _ h=>Alv h) ?_;intro y1
 intro h;refine As h ?_;clear h;intro o17 ho17 h
 refine lq (σ:=(Int×Int×(List UInt8)×(List UInt8)×(List A2)×(List A2)×Bool)) (τ:=(Int×(List UInt8)×(List UInt8)×(List A2)×(List A2)×Bool)) (ν:=(A0×Int×Int×Int)) 0 (fun(s3,s4,s5,s6,s7,s8,s9) a11=>B9 157 [(0,AV.sl 4 (List.map A4 Aa)),(1,iA s3),(5,AV.ptr 0 0),(6,AV.ptr 1 0),(10,sA y1),(11,iA s4)]) (fun(s3,s4,s5,s6,s7,s8,s9) a11=>[Ob.var 83 [iA Fn.A7,sA s5,sA s6,AV.sl 5 (List.map A3 s7),AV.sl 5 (List.map A3 s8),bA s9,iA Fn.B5,iA Fn.Ch,iA Fn.Ab],Ob.var 83 [iA (0),sA (([]:List UInt8)),sA (([]:List UInt8)),AV.nils,AV.nils,bA false,iA (0),iA (0),iA (0)]]) (fun(x72,x73,x74,x75,x76,x77) a71=>B9 157 [(1,iA x72),(5,AV.ptr 0 0),(6,AV.ptr 1 0)]) (fun(x72,x73,x74,x75,x76,x77) a71=>[Ob.var 83 [iA Fn.A7,sA x73,sA x74,AV.sl 5 (List.map A3 x75),AV.sl 5 (List.map A3 x76),bA x77,iA Fn.B5,iA Fn.Ch,iA Fn.Ab],Ob.var 83 [iA (0),sA (([]:List UInt8)),sA (([]:List UInt8)),AV.nils,AV.nils,bA false,iA (0),iA (0),iA (0)]]) (fun v=>(AV.tup [AV.agg [iA v.1.A7,sA v.1.Bd,sA v.1.Be,AV.sl 5 (List.map A3 v.1.Bm),AV.sl 5 (List.map A3 v.1.C6),bA v.1.Br,iA v.1.B5,iA v.1.Ch,iA v.1.Ab],iA v.2.1,iA v.2.2.1,iA v.2.2.2],[])) (fun k s=>Ea n Aa Fn y1 k s.1 s.2.1 s.2.2.1 s.2.2.2.1 s.2.2.2.2.1 s.2.2.2.2.2.1 s.2.2.2.2.2.2) (fun s=>rfl) o17 n (Bb,0,Fn.Bd,Fn.Be,Fn.Bm,Fn.C6,Fn.Br) (fun _=>0) ho17 ?_ ?_
 intro k10 ss a11 K12 cont13 hK14 hcont15 h hr16
 obtain⟨s3,s4,s5,s6,s7,s8,s9⟩:=ss
 replace h:Ea n Aa Fn y1 (k10+1) s3 s4 s5 s6 s7 s8 s9=some o17:=h
 rw[Ea] at h
 conv=>lhs;whnf
 revert h
 refine br ?_ ?_
 refine ixs ?_;intro x19
 refine br ?_ ?_
 refine ca hc (fun _ h=>A51 h) ?_;intro y21
 refine br ?_ ?_
 refine ixs ?_;intro x24
 refine br ?_ ?_
 refine ix ?_;intro x26
 exact fun h=>cq (hcont15 (IntKind.i64.wrap (s3+1),IntKind.i64.wrap (s4+1),x26.Ac,s6,s7,s8,s9) (fun _=>0) h)
 refine ix ?_;intro x27
 exact fun h=>cq (hcont15 (IntKind.i64.wrap (s3+1),IntKind.i64.wrap (s4+1),s5,x27.Ac,s7,s8,s9) (fun _=>0) h)
 refine ca hc (fun _ h=>Rl h) ?_;intro y28
 intro h;cases sj h
 refine(hK14 _ _).trans ?_
 refine Eq.trans ?_ (Eq.symm (show _=some _ from hr16))
 conv=>lhs;whnf
 exact rq
 refine ixs ?_;intro x30
 refine br ?_ ?_
 refine ca hc (fun _ h=>A51 h) ?_;intro y32
 refine br ?_ ?_
 refine ixs ?_;intro x35
 refine br ?_ ?_
 refine ix ?_;intro x37
 exact fun h=>cq (hcont15 (IntKind.i64.wrap (s3+1),IntKind.i64.wrap (s4+1),x37.Ac,s6,s7,s8,s9) (fun _=>0) h)
 refine ix ?_;intro x38
 exact fun h=>cq (hcont15 (IntKind.i64.wrap (s3+1),IntKind.i64.wrap (s4+1),s5,x38.Ac,s7,s8,s9) (fun _=>0) h)
 refine ca hc (fun _ h=>Rl h) ?_;intro y39
 intro h;cases sj h
 refine(hK14 _ _).trans ?_
 refine Eq.trans ?_ (Eq.symm (show _=some _ from hr16))
 conv=>lhs;whnf
 exact rq
 refine ixs ?_;intro x41
 refine br ?_ ?_
 refine ca hc (fun _ h=>A9p h) ?_;intro y43
 refine br ?_ ?_
 intro h;cases sj h
 refine(hK14 _ _).trans ?_
 refine Eq.trans ?_ (Eq.symm (show _=some _ from hr16))
 conv=>lhs;whnf
 exact rq
 refine ixs ?_;intro x46
 refine br ?_ ?_
 exact fun h=>cq (hcont15 (y43.2.1,IntKind.i64.wrap (s4+1),s5,s6,y43.1,s8,s9) (fun _=>0) h)
 exact fun h=>cq (hcont15 (y43.2.1,IntKind.i64.wrap (s4+1),s5,s6,s7,y43.1,s9) (fun _=>0) h)
 refine ixs ?_;intro x48
 refine br ?_ ?_
 refine ca hc (fun _ h=>A9p h) ?_;intro y50
 refine br ?_ ?_
 intro h;cases sj h
 refine(hK14 _ _).trans ?_
 refine Eq.trans ?_ (Eq.symm (show _=some _ from hr16))
 conv=>lhs;whnf
 exact rq
 refine ixs ?_;intro x53
 refine br ?_ ?_
 exact fun h=>cq (hcont15 (y50.2.1,IntKind.i64.wrap (s4+1),s5,s6,y50.1,s8,s9) (fun _=>0) h)
 exact fun h=>cq (hcont15 (y50.2.1,IntKind.i64.wrap (s4+1),s5,s6,s7,y50.1,s9) (fun _=>0) h)
 refine ixs ?_;intro x55
 refine br ?_ ?_
 refine ca hc (fun _ h=>Gl h) ?_;intro y57
 refine br ?_ ?_
 exact fun h=>cq (hcont15 (IntKind.i64.wrap (s3+1),IntKind.i64.wrap (s4+1),s5,s6,s7,s8,true) (fun _=>0) h)
 refine ca hc (fun _ h=>Gl h) ?_;intro y60
 refine br ?_ ?_
 exact fun h=>cq (hcont15 (IntKind.i64.wrap (s3+1),IntKind.i64.wrap (s4+1),s5,s6,s7,s8,false) (fun _=>0) h)
 refine ca hc (fun _ h=>Rl h) ?_;intro y63
 intro h;cases sj h
 refine(hK14 _ _).trans ?_
 refine Eq.trans ?_ (Eq.symm (show _=some _ from hr16))
 conv=>lhs;whnf
 exact rq
 refine cp ?_
 refine cr hc (fun _ h=>Gl h) ?_;intro y66
 refine br ?_ ?_
 exact fun h=>cq (hcont15 (IntKind.i64.wrap (s3+1),IntKind.i64.wrap (s4+1),s5,s6,s7,s8,s9) (fun _=>0) h)
 refine ca hc (fun _ h=>Rl h) ?_;intro y69
 intro h;cases sj h
 refine(hK14 _ _).trans ?_
 refine Eq.trans ?_ (Eq.symm (show _=some _ from hr16))
 conv=>lhs;whnf
 exact rq
 intro h;cases sj h
 exact kq (hr16 (fun _=>0))
 refine lrc ?_ ?_
 intro v e;subst e;cases sj h;rfl
 intro t a71 e;subst e
 obtain⟨x72,x73,x74,x75,x76,x77⟩:=t
 dsimp only at h
 conv=>lhs;whnf
 revert h
 exact rz
theorem A9g {n:Nat} ⦃r:(List (List UInt8))⦄:X6 n=some r→CN n 131 [] []=some (AV.sl 1 (List.map Dv r),[]):=by
 intro h;rcases n with _|n;cases h
 rw[X6] at h
 refine Ai Tryz.func131 (by rfl) rfl rfl (Ap rfl) ?_
 intro call hc;conv=>lhs;whnf
 revert h
 exact rz
theorem Alz {n:Nat} ⦃Aa:(List A5)⦄ ⦃Bb:Int⦄ ⦃r:Int⦄:Vl n Aa Bb=some r→CN n 108 [AV.sl 4 (List.map A4 Aa),iA Bb] []=some (iA r,[]):=by
 intro h;rcases n with _|n;cases h
 rw[Vl] at h
 refine Ai Tryz.func108 (by rfl) rfl rfl (Ap rfl) ?_
 intro call hc;conv=>lhs;whnf
 revert h
 intro h;refine As h ?_;clear h;intro o9 ho9 h
 refine lq (σ:=Int) (τ:=Unit) (ν:=Int) 0 (fun s1 a3=>B9 37 [(0,AV.sl 4 (List.map A4 Aa)),(1,iA Bb),(5,iA s1)]) (fun s1 a3=>[]) (fun _ a21=>B9 37 []) (fun _ a21=>[]) (fun v=>(iA v,[])) (fun k s=>Lm n Aa Bb k s) (fun s=>rfl) o9 n 1 (fun _=>0) ho9 ?_ ?_
 intro k2 s1 a3 K4 cont5 hK6 hcont7 h hr8
 replace h:Lm n Aa Bb (k2+1) s1=some o9:=h
 rw[Lm] at h
 conv=>lhs;whnf
 revert h
 refine ca hc (fun _ h=>A9g h) ?_;intro y10
 refine br ?_ ?_
 refine br ?_ ?_
 refine ix ?_;intro x14
 refine br ?_ ?_
 refine ix ?_;intro x16
 refine ca hc (fun _ h=>A9g h) ?_;intro y17
 refine ix ?_;intro x19
 refine br ?_ ?_
 intro h;cases sj h
 refine(hK6 _ _).trans ?_
 refine Eq.trans ?_ (Eq.symm (show _=some _ from hr8))
 conv=>lhs;whnf
 exact rq
 exact fun h=>cq (hcont7 (IntKind.i64.wrap (s1+1)) (fun _=>0) h)
 exact fun h=>cq (hcont7 (IntKind.i64.wrap (s1+1)) (fun _=>0) h)
 intro h;cases sj h
 exact kq (hr8 (fun _=>0))
 intro h;cases sj h
 exact kq (hr8 (fun _=>0))
 refine lrc ?_ ?_
 intro v e;subst e;cases sj h;rfl
 intro t a21 e;subst e
 dsimp only at h
 conv=>lhs;whnf
 revert h
 exact rz
def A16 (n:Nat):Prop:=∀ ⦃Aa:(List A5)⦄ ⦃Bb:Int⦄ ⦃G0:Int⦄ ⦃r:((List A0)×Int×Int×Int)⦄,G2 n Aa Bb G0=some r→CN n 111 [AV.sl 4 (List.map A4 Aa),iA Bb,iA G0] []=some (AV.tup [AV.sl 9 (List.map A9 r.1),iA r.2.1,iA r.2.2.1,iA r.2.2.2],[])
def Zw (n:Nat):Prop:=∀ ⦃Aa:(List A5)⦄ ⦃Bb:Int⦄ ⦃G0:Int⦄ ⦃r:((List A0)×Int×Int×Int)⦄,Kv n Aa Bb G0=some r→CN n 88 [AV.sl 4 (List.map A4 Aa),iA Bb,iA G0] []=some (AV.tup [AV.sl 9 (List.map A9 r.1),iA r.2.1,iA r.2.2.1,iA r.2.2.2],[])
def A1f (n:Nat):Prop:=A16 n∧Zw n
theorem Ahv (n:Nat) (ih:A1f n):A16 (n+1):=by
 intro Aa Bb G0 r h
 rw[G2] at h
 refine Ai Tryz.func111 (by rfl) rfl rfl (Ap rfl) ?_
 intro call hc;conv=>lhs;whnf
 revert h
 refine ca hc (fun _ h=>Gl h) ?_;intro y1
 refine br ?_ ?_
 refine br ?_ ?_
 refine ix ?_;intro x5
 exact rz
 refine ca hc (fun _ h=>ih.2 h) ?_;intro y6
 refine br ?_ ?_
 exact rz
 refine ca hc (fun _ h=>Gl h) ?_;intro y9
 refine br ?_ ?_
 exact rz
 refine ca hc (fun _ h=>Rl h) ?_;intro y12
 exact rz
 refine ca hc (fun _ h=>Rl h) ?_;intro y14
 exact rz
theorem Alq (n:Nat) (ih:A1f n):Zw (n+1):=by
 intro Aa Bb G0 r h
 rw[Kv] at h
 refine Ai Tryz.func88 (by rfl) rfl rfl (Ap rfl) ?_
 intro call hc;conv=>lhs;whnf
 revert h
 intro h;refine As h ?_;clear h;intro o10 ho10 h
 refine lq (σ:=(Int×(List A0))) (τ:=(Int×(List A0))) (ν:=((List A0)×Int×Int×Int)) 0 (fun(s1,s2) a4=>B9 142 [(0,AV.sl 4 (List.map A4 Aa)),(1,iA s1),(2,iA G0),(10,AV.row 0 (List.length s2))]) (fun(s1,s2) a4=>[Ob.row 83 9 (List.map A9 s2)]) (fun(x121,x122) a120=>B9 142 [(1,iA x121),(10,AV.row 0 (List.length x122))]) (fun(x121,x122) a120=>[Ob.row 83 9 (List.map A9 x122)]) (fun v=>(AV.tup [AV.sl 9 (List.map A9 v.1),iA v.2.1,iA v.2.2.1,iA v.2.2.2],[])) (fun k s=>Eo n (G2 n) Aa G0 k s.1 s.2) (fun s=>rfl) o10 n (Bb,([]:List A0)) (fun _=>0) ho10 ?_ ?_
 intro k3 ss a4 K5 cont6 hK7 hcont8 h hr9
 obtain⟨s1,s2⟩:=ss
 replace h:Eo n (G2 n) Aa G0 (k3+1) s1 s2=some o10:=h
 rw[Eo] at h
 conv=>lhs;whnf
 revert h
 refine br ?_ ?_
 refine ca hc (fun _ h=>Gl h) ?_;intro y12
 refine br ?_ ?_
 intro h;cases sj h
 exact kq (hr9 (fun _=>0))
 refine ca hc (fun _ h=>Alz h) ?_;intro y15
 refine br ?_ ?_
 refine ix ?_;intro x18
 intro h;cases sj h
 refine(hK7 _ _).trans ?_
 refine Eq.trans ?_ (Eq.symm (show _=some _ from hr9))
 conv=>lhs;whnf
 exact rq
 refine ix ?_;intro x19
 refine cr hc (fun y20 h=>(show CN n 109 [AV.sl 4 (List.map A4 Aa),iA (IntKind.i64.wrap (s1+1)),AV.agg [iA y15,sA (([]:List UInt8)),sA (([]:List UInt8)),AV.sl 5 [],AV.sl 5 [],bA false,iA (0),iA (0),iA x19.Ab]] []=some (AV.tup [AV.agg [iA y20.1.A7,sA y20.1.Bd,sA y20.1.Be,AV.sl 5 (List.map A3 y20.1.Bm),AV.sl 5 (List.map A3 y20.1.C6),bA y20.1.Br,iA y20.1.B5,iA y20.1.Ch,iA y20.1.Ab],iA y20.2.1,iA y20.2.2.1,iA y20.2.2.2],[]) from Ahk (r:=y20) h)) ?_;intro y20
 refine br ?_ ?_
 intro h;cases sj h
 refine(hK7 _ _).trans ?_
 refine Eq.trans ?_ (Eq.symm (show _=some _ from hr9))
 conv=>lhs;whnf
 exact rq
 refine ca hc (fun _ h=>Aix h) ?_;intro y23
 refine br ?_ ?_
 refine ca hc (fun _ h=>ih.1 h) ?_;intro y26
 refine br ?_ ?_
 intro h;cases sj h
 refine(hK7 _ _).trans ?_
 refine Eq.trans ?_ (Eq.symm (show _=some _ from hr9))
 conv=>lhs;whnf
 exact rq
 refine br ?_ ?_
 refine br ?_ ?_
 refine ix ?_;intro x31
 refine br ?_ ?_
 refine ix ?_;intro x33
 refine br ?_ ?_
 refine ca hc (fun _ h=>ih.1 h) ?_;intro y35
 refine br ?_ ?_
 intro h;cases sj h
 refine(hK7 _ _).trans ?_
 refine Eq.trans ?_ (Eq.symm (show _=some _ from hr9))
 conv=>lhs;whnf
 exact rq
 refine ar (ap A9 (List.map A9 s2) s2 ([[iA y20.1.A7,sA y20.1.Bd,sA y20.1.Be,AV.sl 5 (List.map A3 y20.1.Bm),AV.sl 5 (List.map A3 y20.1.C6),bA y20.1.Br,iA (((y26.1.length:Nat):Int)),iA (((y35.1.length:Nat):Int)),iA y20.1.Ab]]) ([(⟨y20.1.A7,y20.1.Bd,y20.1.Be,y20.1.Bm,y20.1.C6,y20.1.Br,((y26.1.length:Nat):Int),((y35.1.length:Nat):Int),y20.1.Ab⟩:A0)]:List A0)) ?_
 refine ar (ap A9 (List.map A9 (s2++([(⟨y20.1.A7,y20.1.Bd,y20.1.Be,y20.1.Bm,y20.1.C6,y20.1.Br,((y26.1.length:Nat):Int),((y35.1.length:Nat):Int),y20.1.Ab⟩:A0)]:List A0))) (s2++([(⟨y20.1.A7,y20.1.Bd,y20.1.Be,y20.1.Bm,y20.1.C6,y20.1.Br,((y26.1.length:Nat):Int),((y35.1.length:Nat):Int),y20.1.Ab⟩:A0)]:List A0)) (List.map A9 y26.1) y26.1) ?_
 refine ar (ap A9 (List.map A9 ((s2++([(⟨y20.1.A7,y20.1.Bd,y20.1.Be,y20.1.Bm,y20.1.C6,y20.1.Br,((y26.1.length:Nat):Int),((y35.1.length:Nat):Int),y20.1.Ab⟩:A0)]:List A0))++y26.1)) ((s2++([(⟨y20.1.A7,y20.1.Bd,y20.1.Be,y20.1.Bm,y20.1.C6,y20.1.Br,((y26.1.length:Nat):Int),((y35.1.length:Nat):Int),y20.1.Ab⟩:A0)]:List A0))++y26.1) (List.map A9 y35.1) y35.1) ?_
 exact fun h=>cq (hcont8 (y35.2.1,(((s2++([(⟨y20.1.A7,y20.1.Bd,y20.1.Be,y20.1.Bm,y20.1.C6,y20.1.Br,((y26.1.length:Nat):Int),((y35.1.length:Nat):Int),y20.1.Ab⟩:A0)]:List A0))++y26.1)++y35.1)) (fun _=>0) h)
 refine ar (ap A9 (List.map A9 s2) s2 ([[iA y20.1.A7,sA y20.1.Bd,sA y20.1.Be,AV.sl 5 (List.map A3 y20.1.Bm),AV.sl 5 (List.map A3 y20.1.C6),bA y20.1.Br,iA (((y26.1.length:Nat):Int)),iA (0),iA y20.1.Ab]]) ([(⟨y20.1.A7,y20.1.Bd,y20.1.Be,y20.1.Bm,y20.1.C6,y20.1.Br,((y26.1.length:Nat):Int),0,y20.1.Ab⟩:A0)]:List A0)) ?_
 refine ar (ap A9 (List.map A9 (s2++([(⟨y20.1.A7,y20.1.Bd,y20.1.Be,y20.1.Bm,y20.1.C6,y20.1.Br,((y26.1.length:Nat):Int),0,y20.1.Ab⟩:A0)]:List A0))) (s2++([(⟨y20.1.A7,y20.1.Bd,y20.1.Be,y20.1.Bm,y20.1.C6,y20.1.Br,((y26.1.length:Nat):Int),0,y20.1.Ab⟩:A0)]:List A0)) (List.map A9 y26.1) y26.1) ?_
 intro h
 refine B6 h ?_;clear h;intro hc50 h
 first|refine B4 (Lu hc50 (by first|rfl|simp only [Au]) (by first|rfl|simp only [Au]) (by first|rfl|simp only [Au,C0]) (by kernel_rfl)) ?_|refine B4 (Jq hc50 (by first|rfl|simp only [Au]) (by first|rfl|simp only [Au,C0]) (by kernel_rfl)) ?_
 have hp48:(List.map A9 ((s2++([(⟨y20.1.A7,y20.1.Bd,y20.1.Be,y20.1.Bm,y20.1.C6,y20.1.Br,((y26.1.length:Nat):Int),0,y20.1.Ab⟩:A0)]:List A0))++y26.1):List (List AV))++([]:List (List AV))=(List.map A9 ((s2++([(⟨y20.1.A7,y20.1.Bd,y20.1.Be,y20.1.Bm,y20.1.C6,y20.1.Br,((y26.1.length:Nat):Int),0,y20.1.Ab⟩:A0)]:List A0))++y26.1):List (List AV)):=List.append_nil _
 have hl49:List.length (List.map A9 ((s2++([(⟨y20.1.A7,y20.1.Bd,y20.1.Be,y20.1.Bm,y20.1.C6,y20.1.Br,((y26.1.length:Nat):Int),0,y20.1.Ab⟩:A0)]:List A0))++y26.1):List (List AV))+List.length ([]:List (List AV))=List.length (List.map A9 ((s2++([(⟨y20.1.A7,y20.1.Bd,y20.1.Be,y20.1.Bm,y20.1.C6,y20.1.Br,((y26.1.length:Nat):Int),0,y20.1.Ab⟩:A0)]:List A0))++y26.1):List (List AV)):=rfl
 have hl49_b:List.length ((s2++([(⟨y20.1.A7,y20.1.Bd,y20.1.Be,y20.1.Bm,y20.1.C6,y20.1.Br,((y26.1.length:Nat):Int),0,y20.1.Ab⟩:A0)]:List A0))++y26.1)+List.length ([]:List (List AV))=List.length ((s2++([(⟨y20.1.A7,y20.1.Bd,y20.1.Be,y20.1.Bm,y20.1.C6,y20.1.Br,((y26.1.length:Nat):Int),0,y20.1.Ab⟩:A0)]:List A0))++y26.1):=rfl
 try simp only[ls,c0]
 try simp only[hp48,hl49,hl49_b]
 try simp only[ls]
 conv=>lhs;whnf
 revert h
 exact fun h=>cq (hcont8 (y26.2.1,((s2++([(⟨y20.1.A7,y20.1.Bd,y20.1.Be,y20.1.Bm,y20.1.C6,y20.1.Br,((y26.1.length:Nat):Int),0,y20.1.Ab⟩:A0)]:List A0))++y26.1)) (fun _=>0) h)
 refine ar (ap A9 (List.map A9 s2) s2 ([[iA y20.1.A7,sA y20.1.Bd,sA y20.1.Be,AV.sl 5 (List.map A3 y20.1.Bm),AV.sl 5 (List.map A3 y20.1.C6),bA y20.1.Br,iA (((y26.1.length:Nat):Int)),iA (0),iA y20.1.Ab]]) ([(⟨y20.1.A7,y20.1.Bd,y20.1.Be,y20.1.Bm,y20.1.C6,y20.1.Br,((y26.1.length:Nat):Int),0,y20.1.Ab⟩:A0)]:List A0)) ?_
 refine ar (ap A9 (List.map A9 (s2++([(⟨y20.1.A7,y20.1.Bd,y20.1.Be,y20.1.Bm,y20.1.C6,y20.1.Br,((y26.1.length:Nat):Int),0,y20.1.Ab⟩:A0)]:List A0))) (s2++([(⟨y20.1.A7,y20.1.Bd,y20.1.Be,y20.1.Bm,y20.1.C6,y20.1.Br,((y26.1.length:Nat):Int),0,y20.1.Ab⟩:A0)]:List A0)) (List.map A9 y26.1) y26.1) ?_
 intro h
 refine B6 h ?_;clear h;intro hc57 h
 first|refine B4 (Lu hc57 (by first|rfl|simp only [Au]) (by first|rfl|simp only [Au]) (by first|rfl|simp only [Au,C0]) (by kernel_rfl)) ?_|refine B4 (Jq hc57 (by first|rfl|simp only [Au]) (by first|rfl|simp only [Au,C0]) (by kernel_rfl)) ?_
 have hp55:(List.map A9 ((s2++([(⟨y20.1.A7,y20.1.Bd,y20.1.Be,y20.1.Bm,y20.1.C6,y20.1.Br,((y26.1.length:Nat):Int),0,y20.1.Ab⟩:A0)]:List A0))++y26.1):List (List AV))++([]:List (List AV))=(List.map A9 ((s2++([(⟨y20.1.A7,y20.1.Bd,y20.1.Be,y20.1.Bm,y20.1.C6,y20.1.Br,((y26.1.length:Nat):Int),0,y20.1.Ab⟩:A0)]:List A0))++y26.1):List (List AV)):=List.append_nil _
 have hl56:List.length (List.map A9 ((s2++([(⟨y20.1.A7,y20.1.Bd,y20.1.Be,y20.1.Bm,y20.1.C6,y20.1.Br,((y26.1.length:Nat):Int),0,y20.1.Ab⟩:A0)]:List A0))++y26.1):List (List AV))+List.length ([]:List (List AV))=List.length (List.map A9 ((s2++([(⟨y20.1.A7,y20.1.Bd,y20.1.Be,y20.1.Bm,y20.1.C6,y20.1.Br,((y26.1.length:Nat):Int),0,y20.1.Ab⟩:A0)]:List A0))++y26.1):List (List AV)):=rfl
 have hl56_b:List.length ((s2++([(⟨y20.1.A7,y20.1.Bd,y20.1.Be,y20.1.Bm,y20.1.C6,y20.1.Br,((y26.1.length:Nat):Int),0,y20.1.Ab⟩:A0)]:List A0))++y26.1)+List.length ([]:List (List AV))=List.length ((s2++([(⟨y20.1.A7,y20.1.Bd,y20.1.Be,y20.1.Bm,y20.1.C6,y20.1.Br,((y26.1.length:Nat):Int),0,y20.1.Ab⟩:A0)]:List A0))++y26.1):=rfl
 try simp only[ls,c0]
 try simp only[hp55,hl56,hl56_b]
 try simp only[ls]
 conv=>lhs;whnf
 revert h
 exact fun h=>cq (hcont8 (y26.2.1,((s2++([(⟨y20.1.A7,y20.1.Bd,y20.1.Be,y20.1.Bm,y20.1.C6,y20.1.Br,((y26.1.length:Nat):Int),0,y20.1.Ab⟩:A0)]:List A0))++y26.1)) (fun _=>0) h)
 refine ar (ap A9 (List.map A9 s2) s2 ([[iA y20.1.A7,sA y20.1.Bd,sA y20.1.Be,AV.sl 5 (List.map A3 y20.1.Bm),AV.sl 5 (List.map A3 y20.1.C6),bA y20.1.Br,iA (((y26.1.length:Nat):Int)),iA (0),iA y20.1.Ab]]) ([(⟨y20.1.A7,y20.1.Bd,y20.1.Be,y20.1.Bm,y20.1.C6,y20.1.Br,((y26.1.length:Nat):Int),0,y20.1.Ab⟩:A0)]:List A0)) ?_
 refine ar (ap A9 (List.map A9 (s2++([(⟨y20.1.A7,y20.1.Bd,y20.1.Be,y20.1.Bm,y20.1.C6,y20.1.Br,((y26.1.length:Nat):Int),0,y20.1.Ab⟩:A0)]:List A0))) (s2++([(⟨y20.1.A7,y20.1.Bd,y20.1.Be,y20.1.Bm,y20.1.C6,y20.1.Br,((y26.1.length:Nat):Int),0,y20.1.Ab⟩:A0)]:List A0)) (List.map A9 y26.1) y26.1) ?_
 intro h
 refine B6 h ?_;clear h;intro hc64 h
 first|refine B4 (Lu hc64 (by first|rfl|simp only [Au]) (by first|rfl|simp only [Au]) (by first|rfl|simp only [Au,C0]) (by kernel_rfl)) ?_|refine B4 (Jq hc64 (by first|rfl|simp only [Au]) (by first|rfl|simp only [Au,C0]) (by kernel_rfl)) ?_
 have hp62:(List.map A9 ((s2++([(⟨y20.1.A7,y20.1.Bd,y20.1.Be,y20.1.Bm,y20.1.C6,y20.1.Br,((y26.1.length:Nat):Int),0,y20.1.Ab⟩:A0)]:List A0))++y26.1):List (List AV))++([]:List (List AV))=(List.map A9 ((s2++([(⟨y20.1.A7,y20.1.Bd,y20.1.Be,y20.1.Bm,y20.1.C6,y20.1.Br,((y26.1.length:Nat):Int),0,y20.1.Ab⟩:A0)]:List A0))++y26.1):List (List AV)):=List.append_nil _
 have hl63:List.length (List.map A9 ((s2++([(⟨y20.1.A7,y20.1.Bd,y20.1.Be,y20.1.Bm,y20.1.C6,y20.1.Br,((y26.1.length:Nat):Int),0,y20.1.Ab⟩:A0)]:List A0))++y26.1):List (List AV))+List.length ([]:List (List AV))=List.length (List.map A9 ((s2++([(⟨y20.1.A7,y20.1.Bd,y20.1.Be,y20.1.Bm,y20.1.C6,y20.1.Br,((y26.1.length:Nat):Int),0,y20.1.Ab⟩:A0)]:List A0))++y26.1):List (List AV)):=rfl
 have hl63_b:List.length ((s2++([(⟨y20.1.A7,y20.1.Bd,y20.1.Be,y20.1.Bm,y20.1.C6,y20.1.Br,((y26.1.length:Nat):Int),0,y20.1.Ab⟩:A0)]:List A0))++y26.1)+List.length ([]:List (List AV))=List.length ((s2++([(⟨y20.1.A7,y20.1.Bd,y20.1.Be,y20.1.Bm,y20.1.C6,y20.1.Br,((y26.1.length:Nat):Int),0,y20.1.Ab⟩:A0)]:List A0))++y26.1):=rfl
 try simp only[ls,c0]
 try simp only[hp62,hl63,hl63_b]
 try simp only[ls]
 conv=>lhs;whnf
 revert h
 exact fun h=>cq (hcont8 (y26.2.1,((s2++([(⟨y20.1.A7,y20.1.Bd,y20.1.Be,y20.1.Bm,y20.1.C6,y20.1.Br,((y26.1.length:Nat):Int),0,y20.1.Ab⟩:A0)]:List A0))++y26.1)) (fun _=>0) h)
 refine ar (ap A9 (List.map A9 s2) s2 ([[iA y20.1.A7,sA y20.1.Bd,sA y20.1.Be,AV.sl 5 (List.map A3 y20.1.Bm),AV.sl 5 (List.map A3 y20.1.C6),bA y20.1.Br,iA (((y26.1.length:Nat):Int)),iA (0),iA y20.1.Ab]]) ([(⟨y20.1.A7,y20.1.Bd,y20.1.Be,y20.1.Bm,y20.1.C6,y20.1.Br,((y26.1.length:Nat):Int),0,y20.1.Ab⟩:A0)]:List A0)) ?_
 refine ar (ap A9 (List.map A9 (s2++([(⟨y20.1.A7,y20.1.Bd,y20.1.Be,y20.1.Bm,y20.1.C6,y20.1.Br,((y26.1.length:Nat):Int),0,y20.1.Ab⟩:A0)]:List A0))) (s2++([(⟨y20.1.A7,y20.1.Bd,y20.1.Be,y20.1.Bm,y20.1.C6,y20.1.Br,((y26.1.length:Nat):Int),0,y20.1.Ab⟩:A0)]:List A0)) (List.map A9 y26.1) y26.1) ?_
 intro h
 refine B6 h ?_;clear h;intro hc71 h
 first|refine B4 (Lu hc71 (by first|rfl|simp only [Au]) (by first|rfl|simp only [Au]) (by first|rfl|simp only [Au,C0]) (by kernel_rfl)) ?_|refine B4 (Jq hc71 (by first|rfl|simp only [Au]) (by first|rfl|simp only [Au,C0]) (by kernel_rfl)) ?_
 have hp69:(List.map A9 ((s2++([(⟨y20.1.A7,y20.1.Bd,y20.1.Be,y20.1.Bm,y20.1.C6,y20.1.Br,((y26.1.length:Nat):Int),0,y20.1.Ab⟩:A0)]:List A0))++y26.1):List (List AV))++([]:List (List AV))=(List.map A9 ((s2++([(⟨y20.1.A7,y20.1.Bd,y20.1.Be,y20.1.Bm,y20.1.C6,y20.1.Br,((y26.1.length:Nat):Int),0,y20.1.Ab⟩:A0)]:List A0))++y26.1):List (List AV)):=List.append_nil _
 have hl70:List.length (List.map A9 ((s2++([(⟨y20.1.A7,y20.1.Bd,y20.1.Be,y20.1.Bm,y20.1.C6,y20.1.Br,((y26.1.length:Nat):Int),0,y20.1.Ab⟩:A0)]:List A0))++y26.1):List (List AV))+List.length ([]:List (List AV))=List.length (List.map A9 ((s2++([(⟨y20.1.A7,y20.1.Bd,y20.1.Be,y20.1.Bm,y20.1.C6,y20.1.Br,((y26.1.length:Nat):Int),0,y20.1.Ab⟩:A0)]:List A0))++y26.1):List (List AV)):=rfl
 have hl70_b:List.length ((s2++([(⟨y20.1.A7,y20.1.Bd,y20.1.Be,y20.1.Bm,y20.1.C6,y20.1.Br,((y26.1.length:Nat):Int),0,y20.1.Ab⟩:A0)]:List A0))++y26.1)+List.length ([]:List (List AV))=List.length ((s2++([(⟨y20.1.A7,y20.1.Bd,y20.1.Be,y20.1.Bm,y20.1.C6,y20.1.Br,((y26.1.length:Nat):Int),0,y20.1.Ab⟩:A0)]:List A0))++y26.1):=rfl
 try simp only[ls,c0]
 try simp only[hp69,hl70,hl70_b]
 try simp only[ls]
 conv=>lhs;whnf
 revert h
 exact fun h=>cq (hcont8 (y26.2.1,((s2++([(⟨y20.1.A7,y20.1.Bd,y20.1.Be,y20.1.Bm,y20.1.C6,y20.1.Br,((y26.1.length:Nat):Int),0,y20.1.Ab⟩:A0)]:List A0))++y26.1)) (fun _=>0) h)
 refine br ?_ ?_
 refine br ?_ ?_
 refine ix ?_;intro x74
 refine br ?_ ?_
 refine ix ?_;intro x76
 refine br ?_ ?_
 refine ca hc (fun _ h=>ih.1 h) ?_;intro y78
 refine br ?_ ?_
 intro h;cases sj h
 refine(hK7 _ _).trans ?_
 refine Eq.trans ?_ (Eq.symm (show _=some _ from hr9))
 conv=>lhs;whnf
 exact rq
 refine ar (ap A9 (List.map A9 s2) s2 ([[iA y20.1.A7,sA y20.1.Bd,sA y20.1.Be,AV.sl 5 (List.map A3 y20.1.Bm),AV.sl 5 (List.map A3 y20.1.C6),bA y20.1.Br,iA (0),iA (((y78.1.length:Nat):Int)),iA y20.1.Ab]]) ([(⟨y20.1.A7,y20.1.Bd,y20.1.Be,y20.1.Bm,y20.1.C6,y20.1.Br,0,((y78.1.length:Nat):Int),y20.1.Ab⟩:A0)]:List A0)) ?_
 intro h
 refine B6 h ?_;clear h;intro hc85 h
 first|refine B4 (Lu hc85 (by first|rfl|simp only [Au]) (by first|rfl|simp only [Au]) (by first|rfl|simp only [Au,C0]) (by kernel_rfl)) ?_|refine B4 (Jq hc85 (by first|rfl|simp only [Au]) (by first|rfl|simp only [Au,C0]) (by kernel_rfl)) ?_
 have hp83:(List.map A9 (s2++([(⟨y20.1.A7,y20.1.Bd,y20.1.Be,y20.1.Bm,y20.1.C6,y20.1.Br,0,((y78.1.length:Nat):Int),y20.1.Ab⟩:A0)]:List A0)):List (List AV))++([]:List (List AV))=(List.map A9 (s2++([(⟨y20.1.A7,y20.1.Bd,y20.1.Be,y20.1.Bm,y20.1.C6,y20.1.Br,0,((y78.1.length:Nat):Int),y20.1.Ab⟩:A0)]:List A0)):List (List AV)):=List.append_nil _
 have hl84:List.length (List.map A9 (s2++([(⟨y20.1.A7,y20.1.Bd,y20.1.Be,y20.1.Bm,y20.1.C6,y20.1.Br,0,((y78.1.length:Nat):Int),y20.1.Ab⟩:A0)]:List A0)):List (List AV))+List.length ([]:List (List AV))=List.length (List.map A9 (s2++([(⟨y20.1.A7,y20.1.Bd,y20.1.Be,y20.1.Bm,y20.1.C6,y20.1.Br,0,((y78.1.length:Nat):Int),y20.1.Ab⟩:A0)]:List A0)):List (List AV)):=rfl
 have hl84_b:List.length (s2++([(⟨y20.1.A7,y20.1.Bd,y20.1.Be,y20.1.Bm,y20.1.C6,y20.1.Br,0,((y78.1.length:Nat):Int),y20.1.Ab⟩:A0)]:List A0))+List.length ([]:List (List AV))=List.length (s2++([(⟨y20.1.A7,y20.1.Bd,y20.1.Be,y20.1.Bm,y20.1.C6,y20.1.Br,0,((y78.1.length:Nat):Int),y20.1.Ab⟩:A0)]:List A0)):=rfl
 try simp only[ls,c0]
 try simp only[hp83,hl84,hl84_b]
 try simp only[ls]
 conv=>lhs;whnf
 revert h
 refine ar (ap A9 (List.map A9 (s2++([(⟨y20.1.A7,y20.1.Bd,y20.1.Be,y20.1.Bm,y20.1.C6,y20.1.Br,0,((y78.1.length:Nat):Int),y20.1.Ab⟩:A0)]:List A0))) (s2++([(⟨y20.1.A7,y20.1.Bd,y20.1.Be,y20.1.Bm,y20.1.C6,y20.1.Br,0,((y78.1.length:Nat):Int),y20.1.Ab⟩:A0)]:List A0)) (List.map A9 y78.1) y78.1) ?_
 exact fun h=>cq (hcont8 (y78.2.1,((s2++([(⟨y20.1.A7,y20.1.Bd,y20.1.Be,y20.1.Bm,y20.1.C6,y20.1.Br,0,((y78.1.length:Nat):Int),y20.1.Ab⟩:A0)]:List A0))++y78.1)) (fun _=>0) h)
 refine ar (ap A9 (List.map A9 s2) s2 ([[iA y20.1.A7,sA y20.1.Bd,sA y20.1.Be,AV.sl 5 (List.map A3 y20.1.Bm),AV.sl 5 (List.map A3 y20.1.C6),bA y20.1.Br,iA (0),iA (0),iA y20.1.Ab]]) ([(⟨y20.1.A7,y20.1.Bd,y20.1.Be,y20.1.Bm,y20.1.C6,y20.1.Br,0,0,y20.1.Ab⟩:A0)]:List A0)) ?_
 intro h
 refine B6 h ?_;clear h;intro hc92 h
 first|refine B4 (Lu hc92 (by first|rfl|simp only [Au]) (by first|rfl|simp only [Au]) (by first|rfl|simp only [Au,C0]) (by kernel_rfl)) ?_|refine B4 (Jq hc92 (by first|rfl|simp only [Au]) (by first|rfl|simp only [Au,C0]) (by kernel_rfl)) ?_
 have hp90:(List.map A9 (s2++([(⟨y20.1.A7,y20.1.Bd,y20.1.Be,y20.1.Bm,y20.1.C6,y20.1.Br,0,0,y20.1.Ab⟩:A0)]:List A0)):List (List AV))++([]:List (List AV))=(List.map A9 (s2++([(⟨y20.1.A7,y20.1.Bd,y20.1.Be,y20.1.Bm,y20.1.C6,y20.1.Br,0,0,y20.1.Ab⟩:A0)]:List A0)):List (List AV)):=List.append_nil _
 have hl91:List.length (List.map A9 (s2++([(⟨y20.1.A7,y20.1.Bd,y20.1.Be,y20.1.Bm,y20.1.C6,y20.1.Br,0,0,y20.1.Ab⟩:A0)]:List A0)):List (List AV))+List.length ([]:List (List AV))=List.length (List.map A9 (s2++([(⟨y20.1.A7,y20.1.Bd,y20.1.Be,y20.1.Bm,y20.1.C6,y20.1.Br,0,0,y20.1.Ab⟩:A0)]:List A0)):List (List AV)):=rfl
 have hl91_b:List.length (s2++([(⟨y20.1.A7,y20.1.Bd,y20.1.Be,y20.1.Bm,y20.1.C6,y20.1.Br,0,0,y20.1.Ab⟩:A0)]:List A0))+List.length ([]:List (List AV))=List.length (s2++([(⟨y20.1.A7,y20.1.Bd,y20.1.Be,y20.1.Bm,y20.1.C6,y20.1.Br,0,0,y20.1.Ab⟩:A0)]:List A0)):=rfl
 try simp only[ls,c0]
 try simp only[hp90,hl91,hl91_b]
 try simp only[ls]
 conv=>lhs;whnf
 revert h
 intro h
 refine B6 h ?_;clear h;intro hc95 h
 first|refine B4 (Lu hc95 (by first|rfl|simp only [Au]) (by first|rfl|simp only [Au]) (by first|rfl|simp only [Au,C0]) (by kernel_rfl)) ?_|refine B4 (Jq hc95 (by first|rfl|simp only [Au]) (by first|rfl|simp only [Au,C0]) (by kernel_rfl)) ?_
 have hp93:(List.map A9 (s2++([(⟨y20.1.A7,y20.1.Bd,y20.1.Be,y20.1.Bm,y20.1.C6,y20.1.Br,0,0,y20.1.Ab⟩:A0)]:List A0)):List (List AV))++([]:List (List AV))=(List.map A9 (s2++([(⟨y20.1.A7,y20.1.Bd,y20.1.Be,y20.1.Bm,y20.1.C6,y20.1.Br,0,0,y20.1.Ab⟩:A0)]:List A0)):List (List AV)):=List.append_nil _
 have hl94:List.length (List.map A9 (s2++([(⟨y20.1.A7,y20.1.Bd,y20.1.Be,y20.1.Bm,y20.1.C6,y20.1.Br,0,0,y20.1.Ab⟩:A0)]:List A0)):List (List AV))+List.length ([]:List (List AV))=List.length (List.map A9 (s2++([(⟨y20.1.A7,y20.1.Bd,y20.1.Be,y20.1.Bm,y20.1.C6,y20.1.Br,0,0,y20.1.Ab⟩:A0)]:List A0)):List (List AV)):=rfl
 have hl94_b:List.length (s2++([(⟨y20.1.A7,y20.1.Bd,y20.1.Be,y20.1.Bm,y20.1.C6,y20.1.Br,0,0,y20.1.Ab⟩:A0)]:List A0))+List.length ([]:List (List AV))=List.length (s2++([(⟨y20.1.A7,y20.1.Bd,y20.1.Be,y20.1.Bm,y20.1.C6,y20.1.Br,0,0,y20.1.Ab⟩:A0)]:List A0)):=rfl
 try simp only[ls,c0]
 try simp only[hp93,hl94,hl94_b]
 try simp only[ls]
 conv=>lhs;whnf
 revert h
 exact fun h=>cq (hcont8 (y20.2.1,(s2++([(⟨y20.1.A7,y20.1.Bd,y20.1.Be,y20.1.Bm,y20.1.C6,y20.1.Br,0,0,y20.1.Ab⟩:A0)]:List A0))) (fun _=>0) h)
 refine ar (ap A9 (List.map A9 s2) s2 ([[iA y20.1.A7,sA y20.1.Bd,sA y20.1.Be,AV.sl 5 (List.map A3 y20.1.Bm),AV.sl 5 (List.map A3 y20.1.C6),bA y20.1.Br,iA (0),iA (0),iA y20.1.Ab]]) ([(⟨y20.1.A7,y20.1.Bd,y20.1.Be,y20.1.Bm,y20.1.C6,y20.1.Br,0,0,y20.1.Ab⟩:A0)]:List A0)) ?_
 intro h
 refine B6 h ?_;clear h;intro hc100 h
 first|refine B4 (Lu hc100 (by first|rfl|simp only [Au]) (by first|rfl|simp only [Au]) (by first|rfl|simp only [Au,C0]) (by kernel_rfl)) ?_|refine B4 (Jq hc100 (by first|rfl|simp only [Au]) (by first|rfl|simp only [Au,C0]) (by kernel_rfl)) ?_
 have hp98:(List.map A9 (s2++([(⟨y20.1.A7,y20.1.Bd,y20.1.Be,y20.1.Bm,y20.1.C6,y20.1.Br,0,0,y20.1.Ab⟩:A0)]:List A0)):List (List AV))++([]:List (List AV))=(List.map A9 (s2++([(⟨y20.1.A7,y20.1.Bd,y20.1.Be,y20.1.Bm,y20.1.C6,y20.1.Br,0,0,y20.1.Ab⟩:A0)]:List A0)):List (List AV)):=List.append_nil _
 have hl99:List.length (List.map A9 (s2++([(⟨y20.1.A7,y20.1.Bd,y20.1.Be,y20.1.Bm,y20.1.C6,y20.1.Br,0,0,y20.1.Ab⟩:A0)]:List A0)):List (List AV))+List.length ([]:List (List AV))=List.length (List.map A9 (s2++([(⟨y20.1.A7,y20.1.Bd,y20.1.Be,y20.1.Bm,y20.1.C6,y20.1.Br,0,0,y20.1.Ab⟩:A0)]:List A0)):List (List AV)):=rfl
 have hl99_b:List.length (s2++([(⟨y20.1.A7,y20.1.Bd,y20.1.Be,y20.1.Bm,y20.1.C6,y20.1.Br,0,0,y20.1.Ab⟩:A0)]:List A0))+List.length ([]:List (List AV))=List.length (s2++([(⟨y20.1.A7,y20.1.Bd,y20.1.Be,y20.1.Bm,y20.1.C6,y20.1.Br,0,0,y20.1.Ab⟩:A0)]:List A0)):=rfl
 try simp only[ls,c0]
 try simp only[hp98,hl99,hl99_b]
 try simp only[ls]
 conv=>lhs;whnf
 revert h
 intro h
 refine B6 h ?_;clear h;intro hc103 h
 first|refine B4 (Lu hc103 (by first|rfl|simp only [Au]) (by first|rfl|simp only [Au]) (by first|rfl|simp only [Au,C0]) (by kernel_rfl)) ?_|refine B4 (Jq hc103 (by first|rfl|simp only [Au]) (by first|rfl|simp only [Au,C0]) (by kernel_rfl)) ?_
 have hp101:(List.map A9 (s2++([(⟨y20.1.A7,y20.1.Bd,y20.1.Be,y20.1.Bm,y20.1.C6,y20.1.Br,0,0,y20.1.Ab⟩:A0)]:List A0)):List (List AV))++([]:List (List AV))=(List.map A9 (s2++([(⟨y20.1.A7,y20.1.Bd,y20.1.Be,y20.1.Bm,y20.1.C6,y20.1.Br,0,0,y20.1.Ab⟩:A0)]:List A0)):List (List AV)):=List.append_nil _
 have hl102:List.length (List.map A9 (s2++([(⟨y20.1.A7,y20.1.Bd,y20.1.Be,y20.1.Bm,y20.1.C6,y20.1.Br,0,0,y20.1.Ab⟩:A0)]:List A0)):List (List AV))+List.length ([]:List (List AV))=List.length (List.map A9 (s2++([(⟨y20.1.A7,y20.1.Bd,y20.1.Be,y20.1.Bm,y20.1.C6,y20.1.Br,0,0,y20.1.Ab⟩:A0)]:List A0)):List (List AV)):=rfl
 have hl102_b:List.length (s2++([(⟨y20.1.A7,y20.1.Bd,y20.1.Be,y20.1.Bm,y20.1.C6,y20.1.Br,0,0,y20.1.Ab⟩:A0)]:List A0))+List.length ([]:List (List AV))=List.length (s2++([(⟨y20.1.A7,y20.1.Bd,y20.1.Be,y20.1.Bm,y20.1.C6,y20.1.Br,0,0,y20.1.Ab⟩:A0)]:List A0)):=rfl
 try simp only[ls,c0]
 try simp only[hp101,hl102,hl102_b]
 try simp only[ls]
 conv=>lhs;whnf
 revert h
 exact fun h=>cq (hcont8 (y20.2.1,(s2++([(⟨y20.1.A7,y20.1.Bd,y20.1.Be,y20.1.Bm,y20.1.C6,y20.1.Br,0,0,y20.1.Ab⟩:A0)]:List A0))) (fun _=>0) h)
 refine ar (ap A9 (List.map A9 s2) s2 ([[iA y20.1.A7,sA y20.1.Bd,sA y20.1.Be,AV.sl 5 (List.map A3 y20.1.Bm),AV.sl 5 (List.map A3 y20.1.C6),bA y20.1.Br,iA (0),iA (0),iA y20.1.Ab]]) ([(⟨y20.1.A7,y20.1.Bd,y20.1.Be,y20.1.Bm,y20.1.C6,y20.1.Br,0,0,y20.1.Ab⟩:A0)]:List A0)) ?_
 intro h
 refine B6 h ?_;clear h;intro hc108 h
 first|refine B4 (Lu hc108 (by first|rfl|simp only [Au]) (by first|rfl|simp only [Au]) (by first|rfl|simp only [Au,C0]) (by kernel_rfl)) ?_|refine B4 (Jq hc108 (by first|rfl|simp only [Au]) (by first|rfl|simp only [Au,C0]) (by kernel_rfl)) ?_
 have hp106:(List.map A9 (s2++([(⟨y20.1.A7,y20.1.Bd,y20.1.Be,y20.1.Bm,y20.1.C6,y20.1.Br,0,0,y20.1.Ab⟩:A0)]:List A0)):List (List AV))++([]:List (List AV))=(List.map A9 (s2++([(⟨y20.1.A7,y20.1.Bd,y20.1.Be,y20.1.Bm,y20.1.C6,y20.1.Br,0,0,y20.1.Ab⟩:A0)]:List A0)):List (List AV)):=List.append_nil _
 have hl107:List.length (List.map A9 (s2++([(⟨y20.1.A7,y20.1.Bd,y20.1.Be,y20.1.Bm,y20.1.C6,y20.1.Br,0,0,y20.1.Ab⟩:A0)]:List A0)):List (List AV))+List.length ([]:List (List AV))=List.length (List.map A9 (s2++([(⟨y20.1.A7,y20.1.Bd,y20.1.Be,y20.1.Bm,y20.1.C6,y20.1.Br,0,0,y20.1.Ab⟩:A0)]:List A0)):List (List AV)):=rfl
 have hl107_b:List.length (s2++([(⟨y20.1.A7,y20.1.Bd,y20.1.Be,y20.1.Bm,y20.1.C6,y20.1.Br,0,0,y20.1.Ab⟩:A0)]:List A0))+List.length ([]:List (List AV))=List.length (s2++([(⟨y20.1.A7,y20.1.Bd,y20.1.Be,y20.1.Bm,y20.1.C6,y20.1.Br,0,0,y20.1.Ab⟩:A0)]:List A0)):=rfl
 try simp only[ls,c0]
 try simp only[hp106,hl107,hl107_b]
 try simp only[ls]
 conv=>lhs;whnf
 revert h
 intro h
 refine B6 h ?_;clear h;intro hc111 h
 first|refine B4 (Lu hc111 (by first|rfl|simp only [Au]) (by first|rfl|simp only [Au]) (by first|rfl|simp only [Au,C0]) (by kernel_rfl)) ?_|refine B4 (Jq hc111 (by first|rfl|simp only [Au]) (by first|rfl|simp only [Au,C0]) (by kernel_rfl)) ?_
 have hp109:(List.map A9 (s2++([(⟨y20.1.A7,y20.1.Bd,y20.1.Be,y20.1.Bm,y20.1.C6,y20.1.Br,0,0,y20.1.Ab⟩:A0)]:List A0)):List (List AV))++([]:List (List AV))=(List.map A9 (s2++([(⟨y20.1.A7,y20.1.Bd,y20.1.Be,y20.1.Bm,y20.1.C6,y20.1.Br,0,0,y20.1.Ab⟩:A0)]:List A0)):List (List AV)):=List.append_nil _
 have hl110:List.length (List.map A9 (s2++([(⟨y20.1.A7,y20.1.Bd,y20.1.Be,y20.1.Bm,y20.1.C6,y20.1.Br,0,0,y20.1.Ab⟩:A0)]:List A0)):List (List AV))+List.length ([]:List (List AV))=List.length (List.map A9 (s2++([(⟨y20.1.A7,y20.1.Bd,y20.1.Be,y20.1.Bm,y20.1.C6,y20.1.Br,0,0,y20.1.Ab⟩:A0)]:List A0)):List (List AV)):=rfl
 have hl110_b:List.length (s2++([(⟨y20.1.A7,y20.1.Bd,y20.1.Be,y20.1.Bm,y20.1.C6,y20.1.Br,0,0,y20.1.Ab⟩:A0)]:List A0))+List.length ([]:List (List AV))=List.length (s2++([(⟨y20.1.A7,y20.1.Bd,y20.1.Be,y20.1.Bm,y20.1.C6,y20.1.Br,0,0,y20.1.Ab⟩:A0)]:List A0)):=rfl
 try simp only[ls,c0]
 try simp only[hp109,hl110,hl110_b]
 try simp only[ls]
 conv=>lhs;whnf
 revert h
 exact fun h=>cq (hcont8 (y20.2.1,(s2++([(⟨y20.1.A7,y20.1.Bd,y20.1.Be,y20.1.Bm,y20.1.C6,y20.1.Br,0,0,y20.1.Ab⟩:A0)]:List A0))) (fun _=>0) h)
 refine ar (ap A9 (List.map A9 s2) s2 ([[iA y20.1.A7,sA y20.1.Bd,sA y20.1.Be,AV.sl 5 (List.map A3 y20.1.Bm),AV.sl 5 (List.map A3 y20.1.C6),bA y20.1.Br,iA (0),iA (0),iA y20.1.Ab]]) ([(⟨y20.1.A7,y20.1.Bd,y20.1.Be,y20.1.Bm,y20.1.C6,y20.1.Br,0,0,y20.1.Ab⟩:A0)]:List A0)) ?_
 intro h
 refine B6 h ?_;clear h;intro hc116 h
 first|refine B4 (Lu hc116 (by first|rfl|simp only [Au]) (by first|rfl|simp only [Au]) (by first|rfl|simp only [Au,C0]) (by kernel_rfl)) ?_|refine B4 (Jq hc116 (by first|rfl|simp only [Au]) (by first|rfl|simp only [Au,C0]) (by kernel_rfl)) ?_
 have hp114:(List.map A9 (s2++([(⟨y20.1.A7,y20.1.Bd,y20.1.Be,y20.1.Bm,y20.1.C6,y20.1.Br,0,0,y20.1.Ab⟩:A0)]:List A0)):List (List AV))++([]:List (List AV))=(List.map A9 (s2++([(⟨y20.1.A7,y20.1.Bd,y20.1.Be,y20.1.Bm,y20.1.C6,y20.1.Br,0,0,y20.1.Ab⟩:A0)]:List A0)):List (List AV)):=List.append_nil _
 have hl115:List.length (List.map A9 (s2++([(⟨y20.1.A7,y20.1.Bd,y20.1.Be,y20.1.Bm,y20.1.C6,y20.1.Br,0,0,y20.1.Ab⟩:A0)]:List A0)):List (List AV))+List.length ([]:List (List AV))=List.length (List.map A9 (s2++([(⟨y20.1.A7,y20.1.Bd,y20.1.Be,y20.1.Bm,y20.1.C6,y20.1.Br,0,0,y20.1.Ab⟩:A0)]:List A0)):List (List AV)):=rfl
 have hl115_b:List.length (s2++([(⟨y20.1.A7,y20.1.Bd,y20.1.Be,y20.1.Bm,y20.1.C6,y20.1.Br,0,0,y20.1.Ab⟩:A0)]:List A0))+List.length ([]:List (List AV))=List.length (s2++([(⟨y20.1.A7,y20.1.Bd,y20.1.Be,y20.1.Bm,y20.1.C6,y20.1.Br,0,0,y20.1.Ab⟩:A0)]:List A0)):=rfl
 try simp only[ls,c0]
 try simp only[hp114,hl115,hl115_b]
 try simp only[ls]
 conv=>lhs;whnf
 revert h
 intro h
 refine B6 h ?_;clear h;intro hc119 h
 first|refine B4 (Lu hc119 (by first|rfl|simp only [Au]) (by first|rfl|simp only [Au]) (by first|rfl|simp only [Au,C0]) (by kernel_rfl)) ?_|refine B4 (Jq hc119 (by first|rfl|simp only [Au]) (by first|rfl|simp only [Au,C0]) (by kernel_rfl)) ?_
 have hp117:(List.map A9 (s2++([(⟨y20.1.A7,y20.1.Bd,y20.1.Be,y20.1.Bm,y20.1.C6,y20.1.Br,0,0,y20.1.Ab⟩:A0)]:List A0)):List (List AV))++([]:List (List AV))=(List.map A9 (s2++([(⟨y20.1.A7,y20.1.Bd,y20.1.Be,y20.1.Bm,y20.1.C6,y20.1.Br,0,0,y20.1.Ab⟩:A0)]:List A0)):List (List AV)):=List.append_nil _
 have hl118:List.length (List.map A9 (s2++([(⟨y20.1.A7,y20.1.Bd,y20.1.Be,y20.1.Bm,y20.1.C6,y20.1.Br,0,0,y20.1.Ab⟩:A0)]:List A0)):List (List AV))+List.length ([]:List (List AV))=List.length (List.map A9 (s2++([(⟨y20.1.A7,y20.1.Bd,y20.1.Be,y20.1.Bm,y20.1.C6,y20.1.Br,0,0,y20.1.Ab⟩:A0)]:List A0)):List (List AV)):=rfl
 have hl118_b:List.length (s2++([(⟨y20.1.A7,y20.1.Bd,y20.1.Be,y20.1.Bm,y20.1.C6,y20.1.Br,0,0,y20.1.Ab⟩:A0)]:List A0))+List.length ([]:List (List AV))=List.length (s2++([(⟨y20.1.A7,y20.1.Bd,y20.1.Be,y20.1.Bm,y20.1.C6,y20.1.Br,0,0,y20.1.Ab⟩:A0)]:List A0)):=rfl
 try simp only[ls,c0]
 try simp only[hp117,hl118,hl118_b]
 try simp only[ls]
 conv=>lhs;whnf
 revert h
 exact fun h=>cq (hcont8 (y20.2.1,(s2++([(⟨y20.1.A7,y20.1.Bd,y20.1.Be,y20.1.Bm,y20.1.C6,y20.1.Br,0,0,y20.1.Ab⟩:A0)]:List A0))) (fun _=>0) h)
 intro h;cases sj h
 exact kq (hr9 (fun _=>0))
 refine lrc ?_ ?_
 intro v e;subst e;cases sj h;rfl
 intro t a120 e;subst e
 obtain⟨x121,x122⟩:=t
 dsimp only at h
 conv=>lhs;whnf
 revert h
 intro h;cases sj h
 try simp only[ls]
 exact fq (y:=some (AV.tup [AV.sl 9 (List.take (List.length x122) (List.map A9 x122)),iA x121,iA (0),iA (0)],[]))
theorem A6h:∀ n,A1f n
 | 0=>⟨by unfold A16;intros;rename_i h;exact absurd h (by intro h;cases h),by unfold Zw;intros;rename_i h;exact absurd h (by intro h;cases h)⟩
 | n+1=>have ih:=A6h n
   ⟨Ahv n ih,Alq n ih⟩
theorem Als {n:Nat}:Zw n:=(A6h n).2
theorem A9f {n:Nat} ⦃Aa:(List A5)⦄ ⦃Bb:Int⦄ ⦃r:((List A0)×Int×Int×Int)⦄:Rb n Aa Bb=some r→CN n 67 [AV.sl 4 (List.map A4 Aa),iA Bb] []=some (AV.tup [AV.sl 9 (List.map A9 r.1),iA r.2.1,iA r.2.2.1,iA r.2.2.2],[]):=by
 intro h;rcases n with _|n;cases h
 rw[Rb] at h
 refine Ai Tryz.func67 (by rfl) rfl rfl (Ap rfl) ?_
 intro call hc;conv=>lhs;whnf
 revert h
 refine br ?_ ?_
 exact rz
 refine br ?_ ?_
 exact rz
 refine ca hc (fun _ h=>Als h) ?_;intro y3
 refine br ?_ ?_
 exact rz
 refine br ?_ ?_
 refine ca hc (fun _ h=>W2 h) ?_;intro y7
 exact rz
 exact rz
end Go.Proofs.YtnijlelbihnamaaGreat
end
