/- Parts of the proofs: what they lean on. Conditions: none. -/
import Derived.Test.YtnijlelbihnamaaProgRightP3
section
namespace Go.Proofs.Ytnijlelbihnamaa
set_option linter.unusedVariables false
set_option linter.unusedSimpArgs false
set_option maxRecDepth 100000
set_option maxHeartbeats 4000000
theorem A0r {n:Nat} ⦃Av:(List A5)⦄ ⦃Ew:Int⦄ ⦃r:((List A4)×Int×Int×Int)⦄:Jx n Av Ew=some r→CN n 46 [AV.sl 4 (List.map A3 Av),iA Ew] []=some (AV.tup [AV.sl 9 (List.map Ae r.1),iA r.2.1,iA r.2.2.1,iA r.2.2.2],[]):=by
 intro h;rcases n with _|n;cases h
 rw[Jx] at h
 refine Am Try.func46 (by rfl) rfl rfl (Aq rfl) ?_
 intro call hc;conv=>lhs;whnf
 revert h
 refine br ?_ ?_
 exact rz
 refine br ?_ ?_
 exact rz
 refine ca hc (fun _ h=>Uq h) ?_;intro y3
 intro h;refine B0 h ?_;clear h;intro o14 ho14 h
 refine lq (σ:=(Int×(List ((List UInt8)×Int)))) (τ:=(List ((List UInt8)×Int))) (ν:=((List A4)×Int×Int×Int)) 0 (fun(s5,s6) a8=>Bo 71 [(1,iA Ew),(8,AV.ptr 1 0),(25,AV.sl 4 (List.map A45 y3)),(26,iA (((y3.length:Nat):Int))),(27,iA s5)]) (fun(s5,s6) a8=>[Ob.mp none false (List.map A8 s6),Ob.var 94 [AV.sl 4 (List.map A3 Av),iA Ew,AV.mapp 0,iA (0),iA (0)]]) (fun x20 a19=>Bo 71 [(1,iA Ew),(8,AV.ptr 1 0)]) (fun x20 a19=>[Ob.mp none false (List.map A8 x20),Ob.var 94 [AV.sl 4 (List.map A3 Av),iA Ew,AV.mapp 0,iA (0),iA (0)]]) (fun v=>(AV.tup [AV.sl 9 (List.map Ae v.1),iA v.2.1,iA v.2.2.1,iA v.2.2.2],[])) (fun k s=>Kl n y3 k s.1 s.2) (fun s=>rfl) o14 n (0,([]:(List ((List UInt8)×Int)))) (fun _=>0) ho14 ?_ ?_
 intro k7 ss a8 K9 cont10 hK11 hcont12 h hr13
 obtain⟨s5,s6⟩:=ss
 replace h:Kl n y3 (k7+1) s5 s6=some o14:=h
 rw[Kl] at h
 conv=>lhs;whnf
 revert h
 refine br ?_ ?_
 refine ix ?_;intro x16
 refine br ?_ ?_
 exact fun h=>cq (hcont12 (IntKind.i64.wrap (s5+1),s6) (fun _=>0) h)
 intro h
 have hs18:M7 (List.map A8 s6) (sA x16.f_word) (iA s5)=List.map A8 (Qc s6 x16.f_word s5):=X6 _ _ _
 try simp only[hs18]
 conv=>lhs;whnf
 revert h
 exact fun h=>cq (hcont12 (IntKind.i64.wrap (s5+1),(Qc s6 x16.f_word s5)) (fun _=>0) h)
 intro h;cases sj h
 exact kq (hr13 (fun _=>0))
 refine lrc ?_ ?_
 intro v e;subst e;cases sj h;rfl
 intro x20 a19 e;subst e
 dsimp only at h
 conv=>lhs;whnf
 revert h
 refine ca hc (fun _ h=>A16 h) ?_;intro y21
 refine br ?_ ?_
 exact rz
 refine br ?_ ?_
 refine ca hc (fun _ h=>Ku h) ?_;intro y25
 exact rz
 exact rz
theorem A0z {n:Nat} ⦃L7:Int⦄ ⦃r:Bool⦄:Nj n L7=some r→CN n 67 [iA L7] []=some (bA r,[]):=by
 intro h;rcases n with _|n;cases h
 rw[Nj] at h
 refine Am Try.func67 (by rfl) rfl rfl (Aq rfl) ?_
 intro call hc;conv=>lhs;whnf
 revert h
 refine br ?_ ?_
 exact rz
 refine br ?_ ?_
 exact rz
 refine br ?_ ?_
 exact rz
 exact rz
def Qz (n:Nat):Prop:=∀ ⦃Av:(List A4)⦄ ⦃Ei:Int⦄ ⦃E8:Int⦄ ⦃r:Int⦄,K0 n Av Ei E8=some r→CN n 77 [AV.sl 9 (List.map Ae Av),iA Ei,iA E8] []=some (iA r,[])
def Sb (n:Nat):Prop:=∀ ⦃Hb:Int⦄ ⦃Mq:Int⦄ ⦃Od:Int⦄ ⦃o0:(List A4)⦄ ⦃o1:Int⦄ ⦃r:(Bool×Int)⦄,Ft n Hb Mq Od o0 o1=some r→CN n 90 [iA Hb,iA Mq,iA Od,AV.ptr 0 0,AV.ptr 1 0] [Ob.var 38 [AV.sl 9 (List.map Ae o0)],Ob.var 3 [iA o1]]=some (bA r.1,[Ob.var 38 [AV.sl 9 (List.map Ae o0)],Ob.var 3 [iA r.2]])
def Ks (n:Nat):Prop:=∀ ⦃Av:(List A4)⦄ ⦃Ei:Int⦄ ⦃E8:Int⦄ ⦃o0:(List A4)⦄ ⦃o1:Int⦄ ⦃r:(Bool×Int)⦄,Gh n Av Ei E8 o0 o1=some r→CN n 63 [AV.sl 9 (List.map Ae Av),iA Ei,iA E8,AV.func 90 [] [AV.ptr 0 0,AV.ptr 1 0]] [Ob.var 38 [AV.sl 9 (List.map Ae o0)],Ob.var 3 [iA o1]]=some (bA r.1,[Ob.var 38 [AV.sl 9 (List.map Ae o0)],Ob.var 3 [iA r.2]])
def R5 (n:Nat):Prop:=Qz n∧Sb n∧Ks n
theorem Aab (n:Nat) (ih:R5 n):Qz (n+1):=by
 intro Av Ei E8 r h
 rw[K0] at h
 refine Am Try.func77 (by rfl) rfl rfl (Aq rfl) ?_
 intro call hc;conv=>lhs;whnf
 revert h
 refine ca hc (fun _ h=>ih.2.2 h) ?_;intro y1
 refine br ?_ ?_
 exact rz
 exact rz
theorem A74 (n:Nat) (ih:R5 n):Sb (n+1):=by
 intro Hb Mq Od o0 o1 r h
 rw[Ft] at h
 refine Am Try.func90 (by rfl) rfl rfl (Aq rfl) ?_
 intro call hc;conv=>lhs;whnf
 revert h
 refine ca hc (fun _ h=>ih.1 h) ?_;intro y1
 refine ca hc (fun _ h=>ih.1 h) ?_;intro y3
 refine ix ?_;intro x5
 refine ca hc (fun _ h=>A0z h) ?_;intro y6
 refine br ?_ ?_
 refine br ?_ ?_
 exact rz
 exact rz
 refine br ?_ ?_
 exact rz
 exact rz
theorem Vc (n:Nat) (ih:R5 n):Ks (n+1):=by
 intro Av Ei E8 o0 o1 r h
 rw[Gh] at h
 refine Am Try.func63 (by rfl) rfl rfl (Aq rfl) ?_
 intro call hc;conv=>lhs;whnf
 revert h
 intro h;refine B0 h ?_;clear h;intro o10 ho10 h
 refine lq (σ:=(Int×Int)) (τ:=Int) (ν:=(Bool×Int)) 0 (fun(s1,s2) a4=>Bo 63 [(0,AV.sl 9 (List.map Ae Av)),(1,iA s1),(2,iA E8),(3,AV.func 90 [] [AV.ptr 0 0,AV.ptr 1 0])]) (fun(s1,s2) a4=>[Ob.var 38 [AV.sl 9 (List.map Ae o0)],Ob.var 3 [iA s2]]) (fun x21 a20=>Bo 63 []) (fun x21 a20=>[Ob.var 38 [AV.sl 9 (List.map Ae o0)],Ob.var 3 [iA x21]]) (fun v=>(bA v.1,[Ob.var 38 [AV.sl 9 (List.map Ae o0)],Ob.var 3 [iA v.2]])) (fun k s=>Cf n (Ft n) Av E8 o0 k s.1 s.2) (fun s=>rfl) o10 n (Ei,o1) (fun _=>0) ho10 ?_ ?_
 intro k3 ss a4 K5 cont6 hK7 hcont8 h hr9
 obtain⟨s1,s2⟩:=ss
 replace h:Cf n (Ft n) Av E8 o0 (k3+1) s1 s2=some o10:=h
 rw[Cf] at h
 conv=>lhs;whnf
 revert h
 refine br ?_ ?_
 refine ix ?_;intro x12
 refine br ?_ ?_
 intro h;cases sj h
 refine(hK7 _ _).trans ?_
 refine Eq.trans ?_ (Eq.symm (show _=some _ from hr9))
 conv=>lhs;whnf
 exact rq
 refine br ?_ ?_
 intro h;cases sj h
 refine(hK7 _ _).trans ?_
 refine Eq.trans ?_ (Eq.symm (show _=some _ from hr9))
 conv=>lhs;whnf
 exact rq
 refine br ?_ ?_
 intro h;cases sj h
 refine(hK7 _ _).trans ?_
 refine Eq.trans ?_ (Eq.symm (show _=some _ from hr9))
 conv=>lhs;whnf
 exact rq
 refine br ?_ ?_
 intro h;cases sj h
 refine(hK7 _ _).trans ?_
 refine Eq.trans ?_ (Eq.symm (show _=some _ from hr9))
 conv=>lhs;whnf
 exact rq
 refine ca hc (fun _ h=>ih.2.1 h) ?_;intro y17
 refine br ?_ ?_
 exact fun h=>cq (hcont8 (IntKind.i64.wrap ((IntKind.i64.wrap ((IntKind.i64.wrap (s1+1))+x12.Ax))+x12.Co),y17.2) (fun _=>0) h)
 intro h;cases sj h
 refine(hK7 _ _).trans ?_
 refine Eq.trans ?_ (Eq.symm (show _=some _ from hr9))
 conv=>lhs;whnf
 exact rq
 intro h;cases sj h
 exact kq (hr9 (fun _=>0))
 refine lrc ?_ ?_
 intro v e;subst e;cases sj h;rfl
 intro x21 a20 e;subst e
 dsimp only at h
 conv=>lhs;whnf
 revert h
 exact rz
theorem Z2:∀ n,R5 n
 | 0=>⟨by unfold Qz;intros;rename_i h;exact absurd h (by intro h;cases h),by unfold Sb;intros;rename_i h;exact absurd h (by intro h;cases h),by unfold Ks;intros;rename_i h;exact absurd h (by intro h;cases h)⟩
 | n+1=>have ih:=Z2 n
   ⟨Aab n ih,A74 n ih,Vc n ih⟩
theorem Aai {n:Nat}:Qz n:=(Z2 n).1
theorem Aah {n:Nat} ⦃Av:(List A4)⦄ ⦃r:Int⦄:Po n Av=some r→CN n 61 [AV.sl 9 (List.map Ae Av)] []=some (iA r,[]):=by
 intro h;rcases n with _|n;cases h
 rw[Po] at h
 refine Am Try.func61 (by rfl) rfl rfl (Aq rfl) ?_
 intro call hc;conv=>lhs;whnf
 revert h
 refine cr hc (fun _ h=>Aai h) ?_;intro y1
 exact rz
theorem I7 {n:Nat} ⦃Ly:Bl⦄ ⦃Ok:Int⦄ ⦃r:Bool⦄:Er n Ly Ok=some r→CN n 80 [AV.agg [sA Ly.f_word,sA Ly.f_form,bA Ly.f_body,bA Ly.f_more],AV.int .u8 Ok] []=some (bA r,[]):=by
 intro h;rcases n with _|n;cases h
 rw[Er] at h
 refine Am Try.func80 (by rfl) rfl rfl (Aq rfl) ?_
 intro call hc;conv=>lhs;whnf
 revert h
 intro h;refine B0 h ?_;clear h;intro o9 ho9 h
 refine lq (σ:=Int) (τ:=Unit) (ν:=Bool) 0 (fun s1 a3=>Bo 19 [(1,AV.int .u8 Ok),(2,AV.ptr 0 0),(8,iA (((Ly.f_form.length:Nat):Int))),(9,iA s1)]) (fun s1 a3=>[Ob.var 98 [sA Ly.f_word,sA Ly.f_form,bA Ly.f_body,bA Ly.f_more]]) (fun _ a13=>Bo 19 []) (fun _ a13=>[Ob.var 98 [sA Ly.f_word,sA Ly.f_form,bA Ly.f_body,bA Ly.f_more]]) (fun v=>(bA v,[])) (fun k s=>Fd n Ly Ok k s) (fun s=>rfl) o9 n 0 (fun _=>0) ho9 ?_ ?_
 intro k2 s1 a3 K4 cont5 hK6 hcont7 h hr8
 replace h:Fd n Ly Ok (k2+1) s1=some o9:=h
 rw[Fd] at h
 conv=>lhs;whnf
 revert h
 refine br ?_ ?_
 refine ixs ?_;intro x11
 refine br ?_ ?_
 intro h;cases sj h
 refine(hK6 _ _).trans ?_
 refine Eq.trans ?_ (Eq.symm (show _=some _ from hr8))
 conv=>lhs;whnf
 exact rq
 exact fun h=>cq (hcont7 (IntKind.i64.wrap (s1+1)) (fun _=>0) h)
 intro h;cases sj h
 exact kq (hr8 (fun _=>0))
 refine lrc ?_ ?_
 intro v e;subst e;cases sj h;rfl
 intro t a13 e;subst e
 dsimp only at h
 conv=>lhs;whnf
 revert h
 exact rz
theorem Q3 {n:Nat} ⦃Hc:Int⦄ ⦃Lw:(List UInt8)⦄ ⦃Fv:(List UInt8)⦄ ⦃Fw:(List UInt8)⦄ ⦃Fx:Bool⦄ ⦃Fy:Bool⦄ ⦃r:Bool⦄:Jg n Hc Lw Fv Fw Fx Fy=some r→CN n 79 [AV.int .u8 Hc,sA Lw,AV.ptr 0 0] [Ob.var 98 [sA Fv,sA Fw,bA Fx,bA Fy]]=some (bA r,[Ob.var 98 [sA Fv,sA Fw,bA Fx,bA Fy]]):=by
 intro h;rcases n with _|n;cases h
 rw[Jg] at h
 refine Am Try.func79 (by rfl) rfl rfl (Aq rfl) ?_
 intro call hc;conv=>lhs;whnf
 revert h
 refine ca hc (fun y1 h=>(show CN n 80 [AV.agg [sA Fv,sA Fw,bA Fx,bA Fy],AV.int .u8 Hc] []=some (bA y1,[]) from I7 (r:=y1) h)) ?_;intro y1
 refine br ?_ ?_
 refine ca hc (fun _ h=>Gj h) ?_;intro y4
 refine br ?_ ?_
 exact rz
 refine ca hc (fun y7 h=>(show CN n 80 [AV.agg [sA Fv,sA Fw,bA Fx,bA Fy],AV.int .u8 Hc] []=some (bA y7,[]) from I7 (r:=y7) h)) ?_;intro y7
 refine br ?_ ?_
 exact rz
 exact rz
 refine ca hc (fun y10 h=>(show CN n 80 [AV.agg [sA Fv,sA Fw,bA Fx,bA Fy],AV.int .u8 Hc] []=some (bA y10,[]) from I7 (r:=y10) h)) ?_;intro y10
 refine br ?_ ?_
 exact rz
 exact rz
theorem Q6 {n:Nat} ⦃Hc:Int⦄ ⦃A8s:(List A2)⦄ ⦃Fv:(List UInt8)⦄ ⦃Fw:(List UInt8)⦄ ⦃Fx:Bool⦄ ⦃Fy:Bool⦄ ⦃r:Bool⦄:Jd n Hc A8s Fv Fw Fx Fy=some r→CN n 81 [AV.int .u8 Hc,AV.sl 5 (List.map A1 A8s),AV.ptr 0 0] [Ob.var 98 [sA Fv,sA Fw,bA Fx,bA Fy]]=some (bA r,[Ob.var 98 [sA Fv,sA Fw,bA Fx,bA Fy]]):=by
 intro h;rcases n with _|n;cases h
 rw[Jd] at h
 refine Am Try.func81 (by rfl) rfl rfl (Aq rfl) ?_
 intro call hc;conv=>lhs;whnf
 revert h
 refine ca hc (fun y1 h=>(show CN n 80 [AV.agg [sA Fv,sA Fw,bA Fx,bA Fy],AV.int .u8 Hc] []=some (bA y1,[]) from I7 (r:=y1) h)) ?_;intro y1
 refine br ?_ ?_
 refine ca hc (fun _ h=>A10 h) ?_;intro y4
 refine br ?_ ?_
 exact rz
 refine ca hc (fun y7 h=>(show CN n 80 [AV.agg [sA Fv,sA Fw,bA Fx,bA Fy],AV.int .u8 Hc] []=some (bA y7,[]) from I7 (r:=y7) h)) ?_;intro y7
 refine br ?_ ?_
 exact rz
 exact rz
 refine ca hc (fun y10 h=>(show CN n 80 [AV.agg [sA Fv,sA Fw,bA Fx,bA Fy],AV.int .u8 Hc] []=some (bA y10,[]) from I7 (r:=y10) h)) ?_;intro y10
 refine br ?_ ?_
 exact rz
 exact rz
theorem Aes {n:Nat} ⦃B1:A4⦄ ⦃r:Bool⦄:Qo n B1=some r→CN n 62 [AV.agg [iA B1.A9,sA B1.Eu,sA B1.Ev,AV.sl 5 (List.map A1 B1.Ct),AV.sl 5 (List.map A1 B1.Ih),bA B1.Fp,iA B1.Ax,iA B1.Co,iA B1.Ao]] []=some (bA r,[]):=by
 intro h;rcases n with _|n;cases h
 rw[Qo] at h
 refine Am Try.func62 (by rfl) rfl rfl (Aq rfl) ?_
 intro call hc;conv=>lhs;whnf
 revert h
 refine ca hc (fun _ h=>A07 h) ?_;intro y1
 refine br ?_ ?_
 refine br ?_ ?_
 exact rz
 refine br ?_ ?_
 refine ca hc (fun _ h=>I7 h) ?_;intro y6
 refine br ?_ ?_
 refine ca hc (fun _ h=>Q3 h) ?_;intro y9
 refine br ?_ ?_
 refine ca hc (fun _ h=>Q3 h) ?_;intro y12
 refine br ?_ ?_
 refine ca hc (fun _ h=>Q6 h) ?_;intro y15
 refine br ?_ ?_
 refine ca hc (fun _ h=>Q6 h) ?_;intro y18
 refine br ?_ ?_
 refine br ?_ ?_
 refine br ?_ ?_
 exact rz
 exact rz
 refine br ?_ ?_
 refine br ?_ ?_
 exact rz
 exact rz
 exact rz
 exact rz
 exact rz
 exact rz
 exact rz
 exact rz
 refine ca hc (fun _ h=>Q3 h) ?_;intro y25
 refine br ?_ ?_
 refine ca hc (fun _ h=>Q3 h) ?_;intro y28
 refine br ?_ ?_
 refine ca hc (fun _ h=>Q6 h) ?_;intro y31
 refine br ?_ ?_
 refine ca hc (fun _ h=>Q6 h) ?_;intro y34
 refine br ?_ ?_
 refine br ?_ ?_
 refine br ?_ ?_
 exact rz
 exact rz
 refine br ?_ ?_
 refine br ?_ ?_
 exact rz
 exact rz
 exact rz
 exact rz
 exact rz
 exact rz
 exact rz
 exact rz
theorem A0y {n:Nat} ⦃Av:(List A4)⦄ ⦃r:Bool⦄:Nq n Av=some r→CN n 49 [AV.sl 9 (List.map Ae Av)] []=some (bA r,[]):=by
 intro h;rcases n with _|n;cases h
 rw[Nq] at h
 refine Am Try.func49 (by rfl) rfl rfl (Aq rfl) ?_
 intro call hc;conv=>lhs;whnf
 revert h
 refine ca hc (fun _ h=>Aah h) ?_;intro y1
 refine br ?_ ?_
 exact rz
 refine br ?_ ?_
 exact rz
 refine br ?_ ?_
 exact rz
 intro h;refine B0 h ?_;clear h;intro o14 ho14 h
 refine lq (σ:=Int) (τ:=Unit) (ν:=Bool) 0 (fun s6 a8=>Bo 29 [(19,AV.sl 9 (List.map Ae Av)),(20,iA (((Av.length:Nat):Int))),(21,iA s6)]) (fun s6 a8=>[]) (fun _ a20=>Bo 29 []) (fun _ a20=>[]) (fun v=>(bA v,[])) (fun k s=>Hu n Av k s) (fun s=>rfl) o14 n 0 (fun _=>0) ho14 ?_ ?_
 intro k7 s6 a8 K9 cont10 hK11 hcont12 h hr13
 replace h:Hu n Av (k7+1) s6=some o14:=h
 rw[Hu] at h
 conv=>lhs;whnf
 revert h
 refine br ?_ ?_
 refine ix ?_;intro x16
 refine ca hc (fun _ h=>Aes h) ?_;intro y17
 refine br ?_ ?_
 exact fun h=>cq (hcont12 (IntKind.i64.wrap (s6+1)) (fun _=>0) h)
 intro h;cases sj h
 refine(hK11 _ _).trans ?_
 refine Eq.trans ?_ (Eq.symm (show _=some _ from hr13))
 conv=>lhs;whnf
 exact rq
 intro h;cases sj h
 exact kq (hr13 (fun _=>0))
 refine lrc ?_ ?_
 intro v e;subst e;cases sj h;rfl
 intro t a20 e;subst e
 dsimp only at h
 conv=>lhs;whnf
 revert h
 exact rz
theorem Acm {n:Nat} ⦃B1:A4⦄ ⦃r:(List UInt8)⦄:Qg n B1=some r→CN n 66 [AV.agg [iA B1.A9,sA B1.Eu,sA B1.Ev,AV.sl 5 (List.map A1 B1.Ct),AV.sl 5 (List.map A1 B1.Ih),bA B1.Fp,iA B1.Ax,iA B1.Co,iA B1.Ao]] []=some (sA r,[]):=by
 intro h;rcases n with _|n;cases h
 rw[Qg] at h
 refine Am Try.func66 (by rfl) rfl rfl (Aq rfl) ?_
 intro call hc;conv=>lhs;whnf
 revert h
 refine ca hc (fun _ h=>A07 h) ?_;intro y1
 intro h;refine B0 h ?_;clear h;intro o13 ho13 h
 refine lq (σ:=((List UInt8)×Int×Bool)) (τ:=((List UInt8)×Bool)) (ν:=(List UInt8)) 0 (fun(s3,s4,s5) a7=>Bo 76 [(1,AV.ptr 0 0),(3,AV.ptr 1 0),(5,sA s3),(18,iA (((y1.1.f_form.length:Nat):Int))),(19,iA s4)]) (fun(s3,s4,s5) a7=>[Ob.var 73 [iA B1.A9,sA B1.Eu,sA B1.Ev,AV.sl 5 (List.map A1 B1.Ct),AV.sl 5 (List.map A1 B1.Ih),bA s5,iA B1.Ax,iA B1.Co,iA B1.Ao],Ob.var 98 [sA y1.1.f_word,sA y1.1.f_form,bA y1.1.f_body,bA y1.1.f_more]]) (fun(x41,x42) a40=>Bo 76 [(5,sA x41)]) (fun(x41,x42) a40=>[Ob.var 73 [iA B1.A9,sA B1.Eu,sA B1.Ev,AV.sl 5 (List.map A1 B1.Ct),AV.sl 5 (List.map A1 B1.Ih),bA x42,iA B1.Ax,iA B1.Co,iA B1.Ao],Ob.var 98 [sA y1.1.f_word,sA y1.1.f_form,bA y1.1.f_body,bA y1.1.f_more]]) (fun v=>(sA v,[])) (fun k s=>Dw n B1 y1 k s.1 s.2.1 s.2.2) (fun s=>rfl) o13 n (y1.1.f_word,0,B1.Fp) (fun _=>0) ho13 ?_ ?_
 intro k6 ss a7 K8 cont9 hK10 hcont11 h hr12
 obtain⟨s3,s4,s5⟩:=ss
 replace h:Dw n B1 y1 (k6+1) s3 s4 s5=some o13:=h
 rw[Dw] at h
 conv=>lhs;whnf
 revert h
 refine br ?_ ?_
 refine ixs ?_;intro x15
 refine br ?_ ?_
 intro h
 refine B8 h ?_;clear h;intro hc17 h
 refine B9 hc17 ?_
 try simp only[ls]
 conv=>lhs;whnf
 revert h
 intro h
 refine B8 h ?_;clear h;intro hc18 h
 refine B9 hc18 ?_
 try simp only[ls]
 conv=>lhs;whnf
 revert h
 exact fun h=>cq (hcont11 ((s3++(([32]:List UInt8)++B1.Eu)),IntKind.i64.wrap (s4+1),s5) (fun _=>0) h)
 refine br ?_ ?_
 intro h
 refine B8 h ?_;clear h;intro hc20 h
 refine B9 hc20 ?_
 try simp only[ls]
 conv=>lhs;whnf
 revert h
 intro h
 refine B8 h ?_;clear h;intro hc21 h
 refine B9 hc21 ?_
 try simp only[ls]
 conv=>lhs;whnf
 revert h
 exact fun h=>cq (hcont11 ((s3++(([32]:List UInt8)++B1.Ev)),IntKind.i64.wrap (s4+1),s5) (fun _=>0) h)
 refine br ?_ ?_
 refine ca hc (fun _ h=>X0 h) ?_;intro y23
 intro h
 refine B8 h ?_;clear h;intro hc25 h
 refine B9 hc25 ?_
 try simp only[ls]
 conv=>lhs;whnf
 revert h
 intro h
 refine B8 h ?_;clear h;intro hc26 h
 refine B9 hc26 ?_
 try simp only[ls]
 conv=>lhs;whnf
 revert h
 exact fun h=>cq (hcont11 ((s3++(([32]:List UInt8)++y23)),IntKind.i64.wrap (s4+1),s5) (fun _=>0) h)
 refine br ?_ ?_
 refine ca hc (fun _ h=>X0 h) ?_;intro y28
 intro h
 refine B8 h ?_;clear h;intro hc30 h
 refine B9 hc30 ?_
 try simp only[ls]
 conv=>lhs;whnf
 revert h
 intro h
 refine B8 h ?_;clear h;intro hc31 h
 refine B9 hc31 ?_
 try simp only[ls]
 conv=>lhs;whnf
 revert h
 exact fun h=>cq (hcont11 ((s3++(([32]:List UInt8)++y28)),IntKind.i64.wrap (s4+1),s5) (fun _=>0) h)
 refine br ?_ ?_
 refine br ?_ ?_
 intro h
 refine B8 h ?_;clear h;intro hc34 h
 refine B9 hc34 ?_
 try simp only[ls]
 conv=>lhs;whnf
 revert h
 exact fun h=>cq (hcont11 ((s3++([32,33,61]:List UInt8)),IntKind.i64.wrap (s4+1),true) (fun _=>0) h)
 intro h
 refine B8 h ?_;clear h;intro hc35 h
 refine B9 hc35 ?_
 try simp only[ls]
 conv=>lhs;whnf
 revert h
 exact fun h=>cq (hcont11 ((s3++([32,61,61]:List UInt8)),IntKind.i64.wrap (s4+1),false) (fun _=>0) h)
 refine br ?_ ?_
 intro h
 refine B8 h ?_;clear h;intro hc37 h
 refine B9 hc37 ?_
 try simp only[ls]
 conv=>lhs;whnf
 revert h
 exact fun h=>cq (hcont11 ((s3++([32,61]:List UInt8)),IntKind.i64.wrap (s4+1),s5) (fun _=>0) h)
 refine cp ?_
 intro h
 refine B8 h ?_;clear h;intro hc39 h
 refine B9 hc39 ?_
 try simp only[ls]
 conv=>lhs;whnf
 revert h
 exact fun h=>cq (hcont11 ((s3++([UInt8.ofNat (IntKind.i32.wrap ((x15.toNat:Int))).toNat])),IntKind.i64.wrap (s4+1),s5) (fun _=>0) h)
 intro h;cases sj h
 exact kq (hr12 (fun _=>0))
 refine lrc ?_ ?_
 intro v e;subst e;cases sj h;rfl
 intro t a40 e;subst e
 obtain⟨x41,x42⟩:=t
 dsimp only at h
 conv=>lhs;whnf
 revert h
 exact rz
theorem Yj {n:Nat} ⦃Ol:Int⦄ ⦃r:(List UInt8)⦄:O3 n Ol=some r→CN n 65 [iA Ol] []=some (sA r,[]):=by
 intro h;rcases n with _|n;cases h
 rw[O3] at h
 refine Am Try.func65 (by rfl) rfl rfl (Aq rfl) ?_
 intro call hc;conv=>lhs;whnf
 revert h
 intro h;refine B0 h ?_;clear h;intro o10 ho10 h
 refine lq (σ:=((List UInt8)×Int)) (τ:=(List UInt8)) (ν:=(List UInt8)) 0 (fun(s1,s2) a4=>Bo 11 [(3,sA s1),(4,iA Ol),(5,iA s2)]) (fun(s1,s2) a4=>[]) (fun x14 a13=>Bo 11 [(3,sA x14)]) (fun x14 a13=>[]) (fun v=>(sA v,[])) (fun k s=>Jp n Ol k s.1 s.2) (fun s=>rfl) o10 n (([]:List UInt8),0) (fun _=>0) ho10 ?_ ?_
 intro k3 ss a4 K5 cont6 hK7 hcont8 h hr9
 obtain⟨s1,s2⟩:=ss
 replace h:Jp n Ol (k3+1) s1 s2=some o10:=h
 rw[Jp] at h
 conv=>lhs;whnf
 revert h
 refine br ?_ ?_
 intro h
 refine B8 h ?_;clear h;intro hc12 h
 refine B9 hc12 ?_
 try simp only[ls]
 conv=>lhs;whnf
 revert h
 exact fun h=>cq (hcont8 ((s1++([32,32]:List UInt8)),IntKind.i64.wrap (s2+1)) (fun _=>0) h)
 intro h;cases sj h
 exact kq (hr9 (fun _=>0))
 refine lrc ?_ ?_
 intro v e;subst e;cases sj h;rfl
 intro x14 a13 e;subst e
 dsimp only at h
 conv=>lhs;whnf
 revert h
 exact rz
def S9 (n:Nat):Prop:=∀ ⦃Av:(List A4)⦄ ⦃Ei:Int⦄ ⦃E8:Int⦄ ⦃Zg:Int⦄ ⦃r:(List UInt8)⦄,Im n Av Ei E8 Zg=some r→CN n 50 [AV.sl 9 (List.map Ae Av),iA Ei,iA E8,iA Zg] []=some (sA r,[])
def Ti (n:Nat):Prop:=∀ ⦃Hb:Int⦄ ⦃Mq:Int⦄ ⦃Od:Int⦄ ⦃o0:(List UInt8)⦄ ⦃o1:Int⦄ ⦃o2:(List A4)⦄ ⦃r:(Bool×(List UInt8))⦄,Je n Hb Mq Od o0 o1 o2=some r→CN n 64 [iA Hb,iA Mq,iA Od,AV.ptr 0 0,AV.ptr 1 0,AV.ptr 2 0] [Ob.var 9 [sA o0],Ob.var 3 [iA o1],Ob.var 38 [AV.sl 9 (List.map Ae o2)]]=some (bA r.1,[Ob.var 9 [sA r.2],Ob.var 3 [iA o1],Ob.var 38 [AV.sl 9 (List.map Ae o2)]])
def Lc (n:Nat):Prop:=∀ ⦃Av:(List A4)⦄ ⦃Ei:Int⦄ ⦃E8:Int⦄ ⦃o0:(List UInt8)⦄ ⦃o1:Int⦄ ⦃o2:(List A4)⦄ ⦃r:(Bool×(List UInt8))⦄,Fc n Av Ei E8 o0 o1 o2=some r→CN n 63 [AV.sl 9 (List.map Ae Av),iA Ei,iA E8,AV.func 64 [] [AV.ptr 0 0,AV.ptr 1 0,AV.ptr 2 0]] [Ob.var 9 [sA o0],Ob.var 3 [iA o1],Ob.var 38 [AV.sl 9 (List.map Ae o2)]]=some (bA r.1,[Ob.var 9 [sA r.2],Ob.var 3 [iA o1],Ob.var 38 [AV.sl 9 (List.map Ae o2)]])
def Su (n:Nat):Prop:=S9 n∧Ti n∧Lc n
theorem Ae0 (n:Nat) (ih:Su n):S9 (n+1):=by
 intro Av Ei E8 Zg r h
 rw[Im] at h
 refine Am Try.func50 (by rfl) rfl rfl (Aq rfl) ?_
 intro call hc;conv=>lhs;whnf
 revert h
 refine cr hc (fun _ h=>ih.2.2 h) ?_;intro y1
 exact rz
theorem A82 (n:Nat) (ih:Su n):Ti (n+1):=by
 intro Hb Mq Od o0 o1 o2 r h
 rw[Je] at h
 refine Am Try.func64 (by rfl) rfl rfl (Aq rfl) ?_
 intro call hc;conv=>lhs;whnf
 revert h
 refine ca hc (fun _ h=>Yj h) ?_;intro y1
 refine ix ?_;intro x3
 refine ca hc (fun _ h=>Acm h) ?_;intro y4
 intro h
 refine B8 h ?_;clear h;intro hc6 h
 refine B9 hc6 ?_
 try simp only[ls]
 conv=>lhs;whnf
 revert h
 intro h
 refine B8 h ?_;clear h;intro hc7 h
 refine B9 hc7 ?_
 try simp only[ls]
 conv=>lhs;whnf
 revert h
 refine ix ?_;intro x8
 refine ca hc (fun _ h=>A0z h) ?_;intro y9
 refine br ?_ ?_
 refine ca hc (fun _ h=>ih.1 h) ?_;intro y12
 intro h
 refine B8 h ?_;clear h;intro hc14 h
 refine B9 hc14 ?_
 try simp only[ls]
 conv=>lhs;whnf
 revert h
 refine ca hc (fun _ h=>Yj h) ?_;intro y15
 intro h
 refine B8 h ?_;clear h;intro hc17 h
 refine B9 hc17 ?_
 try simp only[ls]
 conv=>lhs;whnf
 revert h
 intro h
 refine B8 h ?_;clear h;intro hc18 h
 refine B9 hc18 ?_
 try simp only[ls]
 conv=>lhs;whnf
 revert h
 refine br ?_ ?_
 refine ca hc (fun _ h=>ih.1 h) ?_;intro y20
 intro h
 refine B8 h ?_;clear h;intro hc22 h
 refine B9 hc22 ?_
 try simp only[ls]
 conv=>lhs;whnf
 revert h
 refine ca hc (fun _ h=>Yj h) ?_;intro y23
 intro h
 refine B8 h ?_;clear h;intro hc25 h
 refine B9 hc25 ?_
 try simp only[ls]
 conv=>lhs;whnf
 revert h
 intro h
 refine B8 h ?_;clear h;intro hc26 h
 refine B9 hc26 ?_
 try simp only[ls]
 conv=>lhs;whnf
 revert h
 intro h
 refine B8 h ?_;clear h;intro hc27 h
 refine B9 hc27 ?_
 try simp only[ls]
 conv=>lhs;whnf
 revert h
 intro h
 refine B8 h ?_;clear h;intro hc28 h
 refine B9 hc28 ?_
 try simp only[ls]
 conv=>lhs;whnf
 revert h
 exact rz
 intro h
 refine B8 h ?_;clear h;intro hc29 h
 refine B9 hc29 ?_
 try simp only[ls]
 conv=>lhs;whnf
 revert h
 intro h
 refine B8 h ?_;clear h;intro hc30 h
 refine B9 hc30 ?_
 try simp only[ls]
 conv=>lhs;whnf
 revert h
 exact rz
 intro h
 refine B8 h ?_;clear h;intro hc31 h
 refine B9 hc31 ?_
 try simp only[ls]
 conv=>lhs;whnf
 revert h
 exact rz
theorem Wo (n:Nat) (ih:Su n):Lc (n+1):=by
 intro Av Ei E8 o0 o1 o2 r h
 rw[Fc] at h
 refine Am Try.func63 (by rfl) rfl rfl (Aq rfl) ?_
 intro call hc;conv=>lhs;whnf
 revert h
 intro h;refine B0 h ?_;clear h;intro o10 ho10 h
 refine lq (σ:=(Int×(List UInt8))) (τ:=(List UInt8)) (ν:=(Bool×(List UInt8))) 0 (fun(s1,s2) a4=>Bo 63 [(0,AV.sl 9 (List.map Ae Av)),(1,iA s1),(2,iA E8),(3,AV.func 64 [] [AV.ptr 0 0,AV.ptr 1 0,AV.ptr 2 0])]) (fun(s1,s2) a4=>[Ob.var 9 [sA s2],Ob.var 3 [iA o1],Ob.var 38 [AV.sl 9 (List.map Ae o2)]]) (fun x21 a20=>Bo 63 []) (fun x21 a20=>[Ob.var 9 [sA x21],Ob.var 3 [iA o1],Ob.var 38 [AV.sl 9 (List.map Ae o2)]]) (fun v=>(bA v.1,[Ob.var 9 [sA v.2],Ob.var 3 [iA o1],Ob.var 38 [AV.sl 9 (List.map Ae o2)]])) (fun k s=>D8 n (Je n) Av E8 o1 o2 k s.1 s.2) (fun s=>rfl) o10 n (Ei,o0) (fun _=>0) ho10 ?_ ?_
 intro k3 ss a4 K5 cont6 hK7 hcont8 h hr9
 obtain⟨s1,s2⟩:=ss
 replace h:D8 n (Je n) Av E8 o1 o2 (k3+1) s1 s2=some o10:=h
 rw[D8] at h
 conv=>lhs;whnf
 revert h
 refine br ?_ ?_
 refine ix ?_;intro x12
 refine br ?_ ?_
 intro h;cases sj h
 refine(hK7 _ _).trans ?_
 refine Eq.trans ?_ (Eq.symm (show _=some _ from hr9))
 conv=>lhs;whnf
 exact rq
 refine br ?_ ?_
 intro h;cases sj h
 refine(hK7 _ _).trans ?_
 refine Eq.trans ?_ (Eq.symm (show _=some _ from hr9))
 conv=>lhs;whnf
 exact rq
 refine br ?_ ?_
 intro h;cases sj h
 refine(hK7 _ _).trans ?_
 refine Eq.trans ?_ (Eq.symm (show _=some _ from hr9))
 conv=>lhs;whnf
 exact rq
 refine br ?_ ?_
 intro h;cases sj h
 refine(hK7 _ _).trans ?_
 refine Eq.trans ?_ (Eq.symm (show _=some _ from hr9))
 conv=>lhs;whnf
 exact rq
 refine ca hc (fun _ h=>ih.2.1 h) ?_;intro y17
 refine br ?_ ?_
 exact fun h=>cq (hcont8 (IntKind.i64.wrap ((IntKind.i64.wrap ((IntKind.i64.wrap (s1+1))+x12.Ax))+x12.Co),y17.2) (fun _=>0) h)
 intro h;cases sj h
 refine(hK7 _ _).trans ?_
 refine Eq.trans ?_ (Eq.symm (show _=some _ from hr9))
 conv=>lhs;whnf
 exact rq
 intro h;cases sj h
 exact kq (hr9 (fun _=>0))
 refine lrc ?_ ?_
 intro v e;subst e;cases sj h;rfl
 intro x21 a20 e;subst e
 dsimp only at h
 conv=>lhs;whnf
 revert h
 exact rz
theorem A0u:∀ n,Su n
 | 0=>⟨by unfold S9;intros;rename_i h;exact absurd h (by intro h;cases h),by unfold Ti;intros;rename_i h;exact absurd h (by intro h;cases h),by unfold Lc;intros;rename_i h;exact absurd h (by intro h;cases h)⟩
 | n+1=>have ih:=A0u n
   ⟨Ae0 n ih,A82 n ih,Wo n ih⟩
theorem Aeo {n:Nat}:S9 n:=(A0u n).1
theorem A2h {n:Nat} ⦃Av:(List A4)⦄ ⦃Vy:Int⦄ ⦃r:(List UInt8)⦄:Ms n Av Vy=some r→CN n 24 [AV.sl 9 (List.map Ae Av),iA Vy] []=some (sA r,[]):=by
 intro h;rcases n with _|n;cases h
 rw[Ms] at h
 refine Am Try.func24 (by rfl) rfl rfl (Aq rfl) ?_
 intro call hc;conv=>lhs;whnf
 revert h
 refine br ?_ ?_
 exact rz
 refine br ?_ ?_
 exact rz
 refine ca hc (fun _ h=>A0y h) ?_;intro y3
 refine br ?_ ?_
 refine cr hc (fun _ h=>Aeo h) ?_;intro y6
 exact rz
 exact rz
theorem Uo {n:Nat} ⦃Av:(List A2)⦄ ⦃r:(List A2)⦄:L9 n Av=some r→CN n 34 [AV.sl 5 (List.map A1 Av)] []=some (AV.sl 5 (List.map A1 r),[]):=by
 intro h;rcases n with _|n;cases h
 rw[L9] at h
 refine Am Try.func34 (by rfl) rfl rfl (Aq rfl) ?_
 intro call hc;conv=>lhs;whnf
 revert h
 refine cn ?_
 refine br ?_ ?_
 intro h;refine B0 h ?_;clear h;intro o12 ho12 h
 refine lq (σ:=(Int×(List A2))) (τ:=(List A2)) (ν:=(List A2)) 0 (fun(s3,s4) a6=>Bo 18 [(3,AV.stk 0 (a6 0) (List.length s4)),(8,iA ((((([]:List A2)).length:Nat):Int))),(9,iA s3)]) (fun(s3,s4) a6=>[Ob.stk (a6 0) 47 5 (List.map A1 s4)]) (fun x17 a16=>Bo 18 [(3,AV.stk 0 (a16 0) (List.length x17))]) (fun x17 a16=>[Ob.stk (a16 0) 47 5 (List.map A1 x17)]) (fun v=>(AV.sl 5 (List.map A1 v),[])) (fun k s=>M0 n k s.1 s.2) (fun s=>rfl) o12 n (0,([]:List A2)) (fun j=>(bif Nat.beq j 0 then 0 else 0)) ho12 ?_ ?_
 intro k5 ss a6 K7 cont8 hK9 hcont10 h hr11
 obtain⟨s3,s4⟩:=ss
 replace h:M0 n (k5+1) s3 s4=some o12:=h
 rw[M0] at h
 conv=>lhs;whnf
 revert h
 refine br ?_ ?_
 intro h
 refine B0 h ?_;clear h;intro x14 hx14 h
 try simp only[Fk]
 conv=>lhs;whnf
 try simp only[ls]
 refine B9 (by first|exact If hx14|exact Rp hx14|exact Ws hx14|exact Kc hx14|(have q:=If hx14;simp only[List.length_set] at q;exact q)|(have q:=Kc hx14;simp only[List.length_set,Nat.zero_add] at q ⊢;exact q)) ?_
 conv=>lhs;whnf
 try simp only[M5 (f:=A1) hx14,Fk,ls]
 conv=>lhs;whnf
 revert h
 intro h
 have hs15:Cg (List.map A1 s4) s3.toNat [iA x14.As,iA x14.Bs,sA x14.Ai,sA x14.D5,iA (0)]=List.map A1 (List.set s4 s3.toNat (⟨x14.As,x14.Bs,x14.Ai,x14.D5,0⟩:A2)):=by rw[C1,List.map_set];rfl
 have hs15_u:Cg (List.map A1 s4) s3.toNat (Mw (A1 x14) 4 [iA (0)])=List.map A1 (List.set s4 s3.toNat (⟨x14.As,x14.Bs,x14.Ai,x14.D5,0⟩:A2)):=by rw[C1,List.map_set];rfl
 try simp only[M5 (f:=A1) hx14,Fk]
 conv=>lhs;whnf
 try simp only[hs15,hs15_u,Fk]
 conv=>lhs;whnf
 revert h
 exact fun h=>cq (hcont10 (IntKind.i64.wrap (s3+1),(List.set s4 s3.toNat (⟨x14.As,x14.Bs,x14.Ai,x14.D5,0⟩:A2))) (fun j=>(bif Nat.beq j 0 then(a6 0) else 0)) h)
 intro h;cases sj h
 exact kq (hr11 (fun j=>(bif Nat.beq j 0 then(a6 0) else 0)))
 refine lrc ?_ ?_
 intro v e;subst e;cases sj h;rfl
 intro x17 a16 e;subst e
 dsimp only at h
 conv=>lhs;whnf
 revert h
 intro h;obtain rfl:=sj h
 try simp only[ls]
 exact fq (y:=some (AV.sl 5 (List.take (List.length x17) (List.map A1 x17)),[]))
 intro h;refine B0 h ?_;clear h;intro o28 ho28 h
 refine lq (σ:=(Int×(List A2))) (τ:=(List A2)) (ν:=(List A2)) 0 (fun(s19,s20) a22=>Bo 18 [(3,AV.own 0 0 (List.length s20)),(8,iA (((Av.length:Nat):Int))),(9,iA s19)]) (fun(s19,s20) a22=>[Ob.arr 5 (List.map A1 s20)]) (fun x33 a32=>Bo 18 [(3,AV.own 0 0 (List.length x33))]) (fun x33 a32=>[Ob.arr 5 (List.map A1 x33)]) (fun v=>(AV.sl 5 (List.map A1 v),[])) (fun k s=>I4 n Av k s.1 s.2) (fun s=>rfl) o28 n (0,Av) (fun _=>0) ho28 ?_ ?_
 intro k21 ss a22 K23 cont24 hK25 hcont26 h hr27
 obtain⟨s19,s20⟩:=ss
 replace h:I4 n Av (k21+1) s19 s20=some o28:=h
 rw[I4] at h
 conv=>lhs;whnf
 revert h
 refine br ?_ ?_
 intro h
 refine B0 h ?_;clear h;intro x30 hx30 h
 try simp only[ls]
 refine B9 (by first|exact If hx30|exact Rp hx30|exact Ws hx30|exact Kc hx30|(have q:=If hx30;simp only[List.length_set] at q;exact q)|(have q:=Kc hx30;simp only[List.length_set,Nat.zero_add] at q ⊢;exact q)) ?_
 conv=>lhs;whnf
 try simp only[Nat.zero_add,M5 (f:=A1) hx30,Fk,ls]
 conv=>lhs;whnf
 revert h
 intro h
 have hs31:Cg (List.map A1 s20) s19.toNat [iA x30.As,iA x30.Bs,sA x30.Ai,sA x30.D5,iA (0)]=List.map A1 (List.set s20 s19.toNat (⟨x30.As,x30.Bs,x30.Ai,x30.D5,0⟩:A2)):=by rw[C1,List.map_set];rfl
 have hs31_u:Cg (List.map A1 s20) s19.toNat (Mw (A1 x30) 4 [iA (0)])=List.map A1 (List.set s20 s19.toNat (⟨x30.As,x30.Bs,x30.Ai,x30.D5,0⟩:A2)):=by rw[C1,List.map_set];rfl
 try simp only[Nat.zero_add,M5 (f:=A1) hx30]
 conv=>lhs;whnf
 try simp only[hs31,hs31_u]
 conv=>lhs;whnf
 revert h
 exact fun h=>cq (hcont26 (IntKind.i64.wrap (s19+1),(List.set s20 s19.toNat (⟨x30.As,x30.Bs,x30.Ai,x30.D5,0⟩:A2))) (fun _=>0) h)
 intro h;cases sj h
 exact kq (hr27 (fun _=>0))
 refine lrc ?_ ?_
 intro v e;subst e;cases sj h;rfl
 intro x33 a32 e;subst e
 dsimp only at h
 conv=>lhs;whnf
 revert h
 intro h;obtain rfl:=sj h
 try simp only[ls]
 exact fq (y:=some (AV.sl 5 (List.take (List.length x33) (List.drop 0 (List.map A1 x33))),[]))
theorem Sm {n:Nat} ⦃Ay:Ba⦄ ⦃r:Ba⦄:L3 n Ay=some r→CN n 9 [AV.agg [iA Ay.Bm,AV.sl 3 (List.map An Ay.Au),AV.sl 4 (List.map Ad Ay.Ac),AV.sl 3 (List.map Ak Ay.Al)]] []=some (AV.agg [iA r.Bm,AV.sl 3 (List.map An r.Au),AV.sl 4 (List.map Ad r.Ac),AV.sl 3 (List.map Ak r.Al)],[]):=by
 intro h;rcases n with _|n;cases h
 rw[L3] at h
 refine Am Try.func9 (by rfl) rfl rfl (Aq rfl) ?_
 intro call hc;conv=>lhs;whnf
 revert h
 intro h;refine B0 h ?_;clear h;intro o10 ho10 h
 refine lq (σ:=(Int×(List Be))) (τ:=(List Be)) (ν:=Ba) 0 (fun(s1,s2) a4=>Bo 97 [(1,AV.ptr 0 0),(2,AV.ptr 1 0),(3,AV.ptr 2 0),(17,AV.sl 3 (List.map An Ay.Au)),(18,iA (((Ay.Au.length:Nat):Int))),(19,iA s1)]) (fun(s1,s2) a4=>[Ob.var 27 [iA Ay.Bm,AV.sl 3 (List.map An Ay.Au),AV.sl 4 (List.map Ad Ay.Ac),AV.sl 3 (List.map Ak Ay.Al)],Ob.var 27 [iA (0),AV.row 3 (List.length (([]:List Be))),AV.row 4 (List.length (([]:List Ag))),AV.row 5 (List.length (([]:List Aj)))],Ob.var 27 [iA Ay.Bm,AV.row 6 (List.length s2),AV.row 7 (List.length (([]:List Ag))),AV.row 8 (List.length (([]:List Aj)))],Ob.row 45 3 ([]),Ob.row 40 4 ([]),Ob.row 43 3 ([]),Ob.row 45 3 (List.map An s2),Ob.row 40 4 ([]),Ob.row 43 3 ([])]) (fun x16 a15=>Bo 97 [(1,AV.ptr 0 0),(2,AV.ptr 1 0),(3,AV.ptr 2 0)]) (fun x16 a15=>[Ob.var 27 [iA Ay.Bm,AV.sl 3 (List.map An Ay.Au),AV.sl 4 (List.map Ad Ay.Ac),AV.sl 3 (List.map Ak Ay.Al)],Ob.var 27 [iA (0),AV.row 3 (List.length (([]:List Be))),AV.row 4 (List.length (([]:List Ag))),AV.row 5 (List.length (([]:List Aj)))],Ob.var 27 [iA Ay.Bm,AV.row 6 (List.length x16),AV.row 7 (List.length (([]:List Ag))),AV.row 8 (List.length (([]:List Aj)))],Ob.row 45 3 ([]),Ob.row 40 4 ([]),Ob.row 43 3 ([]),Ob.row 45 3 (List.map An x16),Ob.row 40 4 ([]),Ob.row 43 3 ([])]) (fun v=>(AV.agg [iA v.Bm,AV.sl 3 (List.map An v.Au),AV.sl 4 (List.map Ad v.Ac),AV.sl 3 (List.map Ak v.Al)],[])) (fun k s=>Iq n Ay k s.1 s.2) (fun s=>rfl) o10 n (0,([]:List Be)) (fun _=>0) ho10 ?_ ?_
 intro k3 ss a4 K5 cont6 hK7 hcont8 h hr9
 obtain⟨s1,s2⟩:=ss
 replace h:Iq n Ay (k3+1) s1 s2=some o10:=h
 rw[Iq] at h
 conv=>lhs;whnf
 revert h
 refine br ?_ ?_
 refine ix ?_;intro x12
 refine ar (ap An (List.map An s2) s2 ([[sA x12.Ai,iA x12.Bs,iA (0)]]) ([(⟨x12.Ai,x12.Bs,0⟩:Be)]:List Be)) ?_
 exact fun h=>cq (hcont8 (IntKind.i64.wrap (s1+1),(s2++([(⟨x12.Ai,x12.Bs,0⟩:Be)]:List Be))) (fun _=>0) h)
 intro h;cases sj h
 exact kq (hr9 (fun _=>0))
 refine lrc ?_ ?_
 intro v e;subst e;cases sj h;rfl
 intro x16 a15 e;subst e
 dsimp only at h
 conv=>lhs;whnf
 revert h
 intro h;refine B0 h ?_;clear h;intro o26 ho26 h
 refine lq (σ:=(Int×(List Ag))) (τ:=(List Ag)) (ν:=Ba) 2 (fun(s17,s18) a20=>Bo 97 [(1,AV.ptr 0 0),(2,AV.ptr 1 0),(3,AV.ptr 2 0),(35,AV.sl 4 (List.map Ad Ay.Ac)),(36,iA (((Ay.Ac.length:Nat):Int))),(37,iA s17)]) (fun(s17,s18) a20=>[Ob.var 27 [iA Ay.Bm,AV.sl 3 (List.map An Ay.Au),AV.sl 4 (List.map Ad Ay.Ac),AV.sl 3 (List.map Ak Ay.Al)],Ob.var 27 [iA (0),AV.row 3 (List.length (([]:List Be))),AV.row 4 (List.length (([]:List Ag))),AV.row 5 (List.length (([]:List Aj)))],Ob.var 27 [iA Ay.Bm,AV.row 6 (List.length x16),AV.row 7 (List.length s18),AV.row 8 (List.length (([]:List Aj)))],Ob.row 45 3 ([]),Ob.row 40 4 ([]),Ob.row 43 3 ([]),Ob.row 45 3 (List.map An x16),Ob.row 40 4 (List.map Ad s18),Ob.row 43 3 ([])]) (fun x54 a53=>Bo 97 [(1,AV.ptr 0 0),(2,AV.ptr 1 0),(3,AV.ptr 2 0)]) (fun x54 a53=>[Ob.var 27 [iA Ay.Bm,AV.sl 3 (List.map An Ay.Au),AV.sl 4 (List.map Ad Ay.Ac),AV.sl 3 (List.map Ak Ay.Al)],Ob.var 27 [iA (0),AV.row 3 (List.length (([]:List Be))),AV.row 4 (List.length (([]:List Ag))),AV.row 5 (List.length (([]:List Aj)))],Ob.var 27 [iA Ay.Bm,AV.row 6 (List.length x16),AV.row 7 (List.length x54),AV.row 8 (List.length (([]:List Aj)))],Ob.row 45 3 ([]),Ob.row 40 4 ([]),Ob.row 43 3 ([]),Ob.row 45 3 (List.map An x16),Ob.row 40 4 (List.map Ad x54),Ob.row 43 3 ([])]) (fun v=>(AV.agg [iA v.Bm,AV.sl 3 (List.map An v.Au),AV.sl 4 (List.map Ad v.Ac),AV.sl 3 (List.map Ak v.Al)],[])) (fun k s=>Ix n Ay k s.1 s.2) (fun s=>rfl) o26 n (0,([]:List Ag)) (fun _=>0) ho26 ?_ ?_
 intro k19 ss a20 K21 cont22 hK23 hcont24 h hr25
 obtain⟨s17,s18⟩:=ss
 replace h:Ix n Ay (k19+1) s17 s18=some o26:=h
 rw[Ix] at h
 conv=>lhs;whnf
 revert h
 refine br ?_ ?_
 refine ix ?_;intro x28
 refine cn ?_
 intro h;refine B0 h ?_;clear h;intro o39 ho39 h
 refine lq (σ:=(Int×(List A4))) (τ:=(List A4)) (ν:=Ba) 4 (fun(s30,s31) a33=>Bo 97 [(1,AV.ptr 0 0),(2,AV.ptr 1 0),(3,AV.ptr 2 0),(8,AV.ptr 10 0),(35,AV.sl 4 (List.map Ad Ay.Ac)),(36,iA (((Ay.Ac.length:Nat):Int))),(37,iA s17),(48,AV.sl 9 (List.map Ae x28.Ax)),(49,iA (((x28.Ax.length:Nat):Int))),(50,iA s30)]) (fun(s30,s31) a33=>[Ob.var 27 [iA Ay.Bm,AV.sl 3 (List.map An Ay.Au),AV.sl 4 (List.map Ad Ay.Ac),AV.sl 3 (List.map Ak Ay.Al)],Ob.var 27 [iA (0),AV.row 3 (List.length (([]:List Be))),AV.row 4 (List.length (([]:List Ag))),AV.row 5 (List.length (([]:List Aj)))],Ob.var 27 [iA Ay.Bm,AV.row 6 (List.length x16),AV.row 7 (List.length s18),AV.row 8 (List.length (([]:List Aj)))],Ob.row 45 3 ([]),Ob.row 40 4 ([]),Ob.row 43 3 ([]),Ob.row 45 3 (List.map An x16),Ob.row 40 4 (List.map Ad s18),Ob.row 43 3 ([]),Ob.var 40 [sA x28.Ai,AV.sl 1 (List.map Gm x28.B5),AV.sl 9 (List.map Ae x28.Ax),iA x28.Ao],Ob.var 40 [sA x28.Ai,AV.sl 1 (List.map Gm x28.B5),AV.row 11 (List.length s31),iA (0)],Ob.row 73 9 (List.map Ae s31)]) (fun x49 a48=>Bo 97 [(1,AV.ptr 0 0),(2,AV.ptr 1 0),(3,AV.ptr 2 0),(8,AV.ptr 10 0),(35,AV.sl 4 (List.map Ad Ay.Ac)),(36,iA (((Ay.Ac.length:Nat):Int))),(37,iA s17)]) (fun x49 a48=>[Ob.var 27 [iA Ay.Bm,AV.sl 3 (List.map An Ay.Au),AV.sl 4 (List.map Ad Ay.Ac),AV.sl 3 (List.map Ak Ay.Al)],Ob.var 27 [iA (0),AV.row 3 (List.length (([]:List Be))),AV.row 4 (List.length (([]:List Ag))),AV.row 5 (List.length (([]:List Aj)))],Ob.var 27 [iA Ay.Bm,AV.row 6 (List.length x16),AV.row 7 (List.length s18),AV.row 8 (List.length (([]:List Aj)))],Ob.row 45 3 ([]),Ob.row 40 4 ([]),Ob.row 43 3 ([]),Ob.row 45 3 (List.map An x16),Ob.row 40 4 (List.map Ad s18),Ob.row 43 3 ([]),Ob.var 40 [sA x28.Ai,AV.sl 1 (List.map Gm x28.B5),AV.sl 9 (List.map Ae x28.Ax),iA x28.Ao],Ob.var 40 [sA x28.Ai,AV.sl 1 (List.map Gm x28.B5),AV.row 11 (List.length x49),iA (0)],Ob.row 73 9 (List.map Ae x49)]) (fun v=>(AV.agg [iA v.Bm,AV.sl 3 (List.map An v.Au),AV.sl 4 (List.map Ad v.Ac),AV.sl 3 (List.map Ak v.Al)],[])) (fun k s=>J7 n x28 k s.1 s.2) (fun s=>rfl) o39 n (0,([]:List A4)) (fun _=>0) ho39 ?_ ?_
 intro k32 ss a33 K34 cont35 hK36 hcont37 h hr38
 obtain⟨s30,s31⟩:=ss
 replace h:J7 n x28 (k32+1) s30 s31=some o39:=h
 rw[J7] at h
 conv=>lhs;whnf
 revert h
 refine br ?_ ?_
 refine ix ?_;intro x41
 refine ca hc (fun _ h=>Uo h) ?_;intro y42
 refine ca hc (fun _ h=>Uo h) ?_;intro y44
 refine ar (ap Ae (List.map Ae s31) s31 ([[iA x41.A9,sA x41.Eu,sA x41.Ev,AV.sl 5 (List.map A1 y42),AV.sl 5 (List.map A1 y44),bA x41.Fp,iA x41.Ax,iA x41.Co,iA (0)]]) ([(⟨x41.A9,x41.Eu,x41.Ev,y42,y44,x41.Fp,x41.Ax,x41.Co,0⟩:A4)]:List A4)) ?_
 exact fun h=>cq (hcont37 (IntKind.i64.wrap (s30+1),(s31++([(⟨x41.A9,x41.Eu,x41.Ev,y42,y44,x41.Fp,x41.Ax,x41.Co,0⟩:A4)]:List A4))) (fun _=>0) h)
 intro h;cases sj h
 exact kq (hr38 (fun _=>0))
 refine lrc ?_ ?_
 intro v e;subst e;cases sj h;exact hr25
 intro x49 a48 e;subst e
 dsimp only at h
 conv=>lhs;whnf
 revert h
 refine ar (ap Ad (List.map Ad s18) s18 ([[sA x28.Ai,AV.sl 1 (List.map Gm x28.B5),AV.sl 9 (List.map Ae x49),iA (0)]]) ([(⟨x28.Ai,x28.B5,x49,0⟩:Ag)]:List Ag)) ?_
 exact fun h=>cq (hcont24 (IntKind.i64.wrap (s17+1),(s18++([(⟨x28.Ai,x28.B5,x49,0⟩:Ag)]:List Ag))) (fun _=>0) h)
 intro h;cases sj h
 exact kq (hr25 (fun _=>0))
 refine lrc ?_ ?_
 intro v e;subst e;cases sj h;rfl
 intro x54 a53 e;subst e
 dsimp only at h
 conv=>lhs;whnf
 revert h
 intro h;refine B0 h ?_;clear h;intro o64 ho64 h
 refine lq (σ:=(Int×(List Aj))) (τ:=(List Aj)) (ν:=Ba) 6 (fun(s55,s56) a58=>Bo 97 [(2,AV.ptr 1 0),(3,AV.ptr 2 0),(78,AV.sl 3 (List.map Ak Ay.Al)),(79,iA (((Ay.Al.length:Nat):Int))),(80,iA s55)]) (fun(s55,s56) a58=>[Ob.var 27 [iA Ay.Bm,AV.sl 3 (List.map An Ay.Au),AV.sl 4 (List.map Ad Ay.Ac),AV.sl 3 (List.map Ak Ay.Al)],Ob.var 27 [iA (0),AV.row 3 (List.length (([]:List Be))),AV.row 4 (List.length (([]:List Ag))),AV.row 5 (List.length (([]:List Aj)))],Ob.var 27 [iA Ay.Bm,AV.row 6 (List.length x16),AV.row 7 (List.length x54),AV.row 8 (List.length s56)],Ob.row 45 3 ([]),Ob.row 40 4 ([]),Ob.row 43 3 ([]),Ob.row 45 3 (List.map An x16),Ob.row 40 4 (List.map Ad x54),Ob.row 43 3 (List.map Ak s56)]) (fun x72 a71=>Bo 97 [(2,AV.ptr 1 0),(3,AV.ptr 2 0)]) (fun x72 a71=>[Ob.var 27 [iA Ay.Bm,AV.sl 3 (List.map An Ay.Au),AV.sl 4 (List.map Ad Ay.Ac),AV.sl 3 (List.map Ak Ay.Al)],Ob.var 27 [iA (0),AV.row 3 (List.length (([]:List Be))),AV.row 4 (List.length (([]:List Ag))),AV.row 5 (List.length (([]:List Aj)))],Ob.var 27 [iA Ay.Bm,AV.row 6 (List.length x16),AV.row 7 (List.length x54),AV.row 8 (List.length x72)],Ob.row 45 3 ([]),Ob.row 40 4 ([]),Ob.row 43 3 ([]),Ob.row 45 3 (List.map An x16),Ob.row 40 4 (List.map Ad x54),Ob.row 43 3 (List.map Ak x72)]) (fun v=>(AV.agg [iA v.Bm,AV.sl 3 (List.map An v.Au),AV.sl 4 (List.map Ad v.Ac),AV.sl 3 (List.map Ak v.Al)],[])) (fun k s=>Iz n Ay k s.1 s.2) (fun s=>rfl) o64 n (0,([]:List Aj)) (fun _=>0) ho64 ?_ ?_
 intro k57 ss a58 K59 cont60 hK61 hcont62 h hr63
 obtain⟨s55,s56⟩:=ss
 replace h:Iz n Ay (k57+1) s55 s56=some o64:=h
 rw[Iz] at h
 conv=>lhs;whnf
 revert h
 refine br ?_ ?_
 refine ix ?_;intro x66
 refine ca hc (fun _ h=>Uo h) ?_;intro y67
 refine ar (ap Ak (List.map Ak s56) s56 ([[iA x66.A9,AV.sl 5 (List.map A1 y67),iA (0)]]) ([(⟨x66.A9,y67,0⟩:Aj)]:List Aj)) ?_
 exact fun h=>cq (hcont62 (IntKind.i64.wrap (s55+1),(s56++([(⟨x66.A9,y67,0⟩:Aj)]:List Aj))) (fun _=>0) h)
 intro h;cases sj h
 exact kq (hr63 (fun _=>0))
 refine lrc ?_ ?_
 intro v e;subst e;cases sj h;rfl
 intro x72 a71 e;subst e
 dsimp only at h
 conv=>lhs;whnf
 revert h
 intro h;cases sj h
 try simp only[ls]
 exact fq (y:=some (AV.agg [iA Ay.Bm,AV.sl 3 (List.take (List.length x16) (List.map An x16)),AV.sl 4 (List.take (List.length x54) (List.map Ad x54)),AV.sl 3 (List.take (List.length x72) (List.map Ak x72))],[]))
theorem Fj {n:Nat} ⦃Ut:Int⦄ ⦃Lt:Int⦄ ⦃p_l:(List A5)⦄ ⦃p_i:Int⦄ ⦃p_e:Int⦄ ⦃p_at:Int⦄ ⦃r:(Int×Int)⦄:Cd n Ut Lt p_l p_i p_e p_at=some r→CN n 47 [AV.ptr 0 0,iA Ut,iA Lt] [Ob.var 53 [AV.sl 4 (List.map A3 p_l),iA p_i,iA p_e,iA p_at]]=some (AV.tup [],[Ob.var 53 [AV.sl 4 (List.map A3 p_l),iA p_i,iA r.1,iA r.2]]):=by
 intro h;rcases n with _|n;cases h
 rw[Cd] at h
 refine Am Try.func47 (by rfl) rfl rfl (Aq rfl) ?_
 intro call hc;conv=>lhs;whnf
 revert h
 refine br ?_ ?_
 exact rz
 exact rz
theorem Af8 {n:Nat} ⦃F9:A5⦄ ⦃o0:Int⦄ ⦃o1:(List UInt8)⦄ ⦃r:Bool⦄:V2 n F9 o0 o1=some r→CN n 44 [AV.agg [iA F9.A9,sA F9.Aa,iA F9.Bs,iA F9.Ao],AV.ptr 0 0,AV.ptr 1 0] [Ob.var 3 [iA o0],Ob.var 9 [sA o1]]=some (bA r,[Ob.var 3 [iA o0],Ob.var 9 [sA o1]]):=by
 intro h;rcases n with _|n;cases h
 rw[V2] at h
 refine Am Try.func44 (by rfl) rfl rfl (Aq rfl) ?_
 intro call hc;conv=>lhs;whnf
 revert h
 refine br ?_ ?_
 exact rz
 exact rz
theorem F2 {n:Nat} ⦃p_l:(List A5)⦄ ⦃p_i:Int⦄ ⦃p_e:Int⦄ ⦃p_at:Int⦄ ⦃o1:Int⦄ ⦃o2:(List UInt8)⦄ ⦃r:(A5×Bool×Int)⦄:De n p_l p_i p_e p_at o1 o2=some r→CN n 17 [AV.ptr 0 0,AV.func 44 [] [AV.ptr 1 0,AV.ptr 2 0]] [Ob.var 53 [AV.sl 4 (List.map A3 p_l),iA p_i,iA p_e,iA p_at],Ob.var 3 [iA o1],Ob.var 9 [sA o2]]=some (AV.tup [AV.agg [iA r.1.A9,sA r.1.Aa,iA r.1.Bs,iA r.1.Ao],bA r.2.1],[Ob.var 53 [AV.sl 4 (List.map A3 p_l),iA r.2.2,iA p_e,iA p_at],Ob.var 3 [iA o1],Ob.var 9 [sA o2]]):=by
 intro h;rcases n with _|n;cases h
 rw[De] at h
 refine Am Try.func17 (by rfl) rfl rfl (Aq rfl) ?_
 intro call hc;conv=>lhs;whnf
 revert h
 refine br ?_ ?_
 exact rz
 refine br ?_ ?_
 exact rz
 refine ix ?_;intro x3
 refine ca hc (fun _ h=>Af8 h) ?_;intro y4
 refine br ?_ ?_
 refine ix ?_;intro x7
 exact rz
 exact rz
theorem Kw {n:Nat} ⦃p_l:(List A5)⦄ ⦃p_i:Int⦄ ⦃p_e:Int⦄ ⦃p_at:Int⦄ ⦃r:(Int×Int)⦄:E1 n p_l p_i p_e p_at=some r→CN n 22 [AV.ptr 0 0] [Ob.var 53 [AV.sl 4 (List.map A3 p_l),iA p_i,iA p_e,iA p_at]]=some (AV.tup [],[Ob.var 53 [AV.sl 4 (List.map A3 p_l),iA p_i,iA r.1,iA r.2]]):=by
 intro h;rcases n with _|n;cases h
 rw[E1] at h
 refine Am Try.func22 (by rfl) rfl rfl (Aq rfl) ?_
 intro call hc;conv=>lhs;whnf
 revert h
 refine br ?_ ?_
 refine ix ?_;intro x2
 refine ca hc (fun _ h=>Fj h) ?_;intro y3
 exact rz
 refine br ?_ ?_
 refine ix ?_;intro x6
 refine ix ?_;intro x7
 refine cr hc (fun _ h=>Fj h) ?_;intro y8
 exact rz
 refine ca hc (fun _ h=>Fj h) ?_;intro y10
 exact rz
theorem T1 {n:Nat} ⦃p_l:(List A5)⦄ ⦃p_i:Int⦄ ⦃p_e:Int⦄ ⦃p_at:Int⦄ ⦃o1:Int⦄ ⦃o2:(List UInt8)⦄ ⦃r:(A5×Int×Int×Int)⦄:Ig n p_l p_i p_e p_at o1 o2=some r→CN n 13 [AV.ptr 0 0,AV.func 44 [] [AV.ptr 1 0,AV.ptr 2 0]] [Ob.var 53 [AV.sl 4 (List.map A3 p_l),iA p_i,iA p_e,iA p_at],Ob.var 3 [iA o1],Ob.var 9 [sA o2]]=some (AV.agg [iA r.1.A9,sA r.1.Aa,iA r.1.Bs,iA r.1.Ao],[Ob.var 53 [AV.sl 4 (List.map A3 p_l),iA r.2.1,iA r.2.2.1,iA r.2.2.2],Ob.var 3 [iA o1],Ob.var 9 [sA o2]]):=by
 intro h;rcases n with _|n;cases h
 rw[Ig] at h
 refine Am Try.func13 (by rfl) rfl rfl (Aq rfl) ?_
 intro call hc;conv=>lhs;whnf
 revert h
 refine ca hc (fun _ h=>F2 h) ?_;intro y1
 refine br ?_ ?_
 exact rz
 refine ca hc (fun _ h=>Kw h) ?_;intro y4
 exact rz
theorem Cw {n:Nat} ⦃Lw:(List UInt8)⦄ ⦃p_l:(List A5)⦄ ⦃p_i:Int⦄ ⦃p_e:Int⦄ ⦃p_at:Int⦄ ⦃r:(Int×Int×Int)⦄:By n Lw p_l p_i p_e p_at=some r→CN n 16 [AV.ptr 0 0,sA Lw] [Ob.var 53 [AV.sl 4 (List.map A3 p_l),iA p_i,iA p_e,iA p_at]]=some (AV.tup [],[Ob.var 53 [AV.sl 4 (List.map A3 p_l),iA r.1,iA r.2.1,iA r.2.2]]):=by
 intro h;rcases n with _|n;cases h
 rw[By] at h
 refine Xl Try.func16 (by rfl) rfl rfl (Aq rfl) ?_
 intro call hc hcA;conv=>lhs;whnf
 revert h
 intro h
 obtain⟨n1,hn5,h⟩:=Mz h
 obtain⟨call2,hc3,ho4⟩:=Io (f:=14) (args:=[iA (3),sA Lw]) (hp:=[]) hcA hn5 Try.func14 (by rfl) rfl rfl (Aq rfl)
 try simp only[ls]
 simp only[ho4]
 conv=>lhs;whnf
 revert h
 refine ca hc (fun _ h=>T1 h) ?_;intro y6
 exact rz
theorem A0f {n:Nat} ⦃Hn:Int⦄ ⦃Lt:Int⦄ ⦃p_l:(List A5)⦄ ⦃p_i:Int⦄ ⦃p_e:Int⦄ ⦃p_at:Int⦄ ⦃r:(Aj×Int×Int×Int)⦄:Jl n Hn Lt p_l p_i p_e p_at=some r→CN n 21 [AV.ptr 0 0,iA Hn,iA Lt] [Ob.var 53 [AV.sl 4 (List.map A3 p_l),iA p_i,iA p_e,iA p_at]]=some (AV.agg [iA r.1.A9,AV.sl 5 (List.map A1 r.1.Ct),iA r.1.Ao],[Ob.var 53 [AV.sl 4 (List.map A3 p_l),iA r.2.1,iA r.2.2.1,iA r.2.2.2]]):=by
 intro h;rcases n with _|n;cases h
 rw[Jl] at h
 refine Am Try.func21 (by rfl) rfl rfl (Aq rfl) ?_
 intro call hc;conv=>lhs;whnf
 revert h
 refine tw hc (fun _ h=>A0t h) (fun _ h=>Abc (p:=[1,1,2,2,1]) (q:=[1,2,1,1]) h Try.func48 (by kernel_rfl) (by kernel_rfl) (by kernel_rfl) (by kernel_rfl) (by rfl) (A9r (by exact fun _=>rfl) _) (A9r (by exact fun _=>rfl) _)) ?_;intro y1
 refine nb ?_ ?_
 refine ca hc (fun _ h=>Fj h) ?_;intro y3
 intro h;refine B0 h ?_;clear h;intro o12 ho12 h
 refine lq (σ:=Unit) (τ:=Unit) (ν:=(Aj×Int×Int×Int)) 0 (fun _ a6=>Bo 61 [(0,AV.ptr 0 0),(1,iA Hn),(2,iA Lt),(6,AV.ptr 1 0),(7,AV.sl 5 []),(8,iA y1.2.1),(31,iA (0)),(32,iA (0))]) (fun _ a6=>[Ob.var 53 [AV.sl 4 (List.map A3 p_l),iA p_i,iA y3.1,iA y3.2],Ob.var 43 [iA (0),AV.nils,iA (0)]]) (fun _ a13=>Bo 61 [(0,AV.ptr 0 0),(1,iA Hn),(2,iA Lt),(6,AV.ptr 1 0),(7,AV.sl 5 []),(8,iA y1.2.1)]) (fun _ a13=>[Ob.var 53 [AV.sl 4 (List.map A3 p_l),iA p_i,iA y3.1,iA y3.2],Ob.var 43 [iA (0),AV.nils,iA (0)]]) (fun v=>(AV.agg [iA v.1.A9,AV.sl 5 (List.map A1 v.1.Ct),iA v.1.Ao],[Ob.var 53 [AV.sl 4 (List.map A3 p_l),iA v.2.1,iA v.2.2.1,iA v.2.2.2]])) (fun k s=>Ir n k) (fun s=>rfl) o12 n () (fun _=>0) ho12 ?_ ?_
 intro k5 ss a6 K7 cont8 hK9 hcont10 h hr11
 replace h:Ir n (k5+1)=some o12:=h
 rw[Ir] at h
 conv=>lhs;whnf
 revert h
 intro h;cases sj h
 exact kq (hr11 (fun _=>0))
 refine lrc ?_ ?_
 intro v e;subst e;cases sj h;rfl
 intro t a13 e;subst e
 dsimp only at h
 conv=>lhs;whnf
 revert h
 refine br ?_ ?_
 refine ca hc (fun _ h=>Cw h) ?_;intro y15
 exact rz
 refine ca hc (fun _ h=>Cw h) ?_;intro y17
 exact rz
 refine ca hc (fun _ h=>Fj h) ?_;intro y20
 intro h;refine B0 h ?_;clear h;intro o31 ho31 h
 refine lq (σ:=(Int×(List A2))) (τ:=(List A2)) (ν:=(Aj×Int×Int×Int)) 0 (fun(s22,s23) a25=>Bo 61 [(0,AV.ptr 0 0),(1,iA Hn),(2,iA Lt),(6,AV.ptr 1 0),(7,AV.own 2 0 (List.length s23)),(8,iA y1.2.1),(31,iA (((y1.1.length:Nat):Int))),(32,iA s22)]) (fun(s22,s23) a25=>[Ob.var 53 [AV.sl 4 (List.map A3 p_l),iA p_i,iA y20.1,iA y20.2],Ob.var 43 [iA (0),AV.nils,iA (0)],Ob.arr 5 (List.map A1 s23)]) (fun x38 a37=>Bo 61 [(0,AV.ptr 0 0),(1,iA Hn),(2,iA Lt),(6,AV.ptr 1 0),(7,AV.own 2 0 (List.length x38)),(8,iA y1.2.1)]) (fun x38 a37=>[Ob.var 53 [AV.sl 4 (List.map A3 p_l),iA p_i,iA y20.1,iA y20.2],Ob.var 43 [iA (0),AV.nils,iA (0)],Ob.arr 5 (List.map A1 x38)]) (fun v=>(AV.agg [iA v.1.A9,AV.sl 5 (List.map A1 v.1.Ct),iA v.1.Ao],[Ob.var 53 [AV.sl 4 (List.map A3 p_l),iA v.2.1,iA v.2.2.1,iA v.2.2.2]])) (fun k s=>Dp n y1 k s.1 s.2) (fun s=>rfl) o31 n (0,y1.1) (fun _=>0) ho31 ?_ ?_
 intro k24 ss a25 K26 cont27 hK28 hcont29 h hr30
 obtain⟨s22,s23⟩:=ss
 replace h:Dp n y1 (k24+1) s22 s23=some o31:=h
 rw[Dp] at h
 conv=>lhs;whnf
 revert h
 refine br ?_ ?_
 intro h
 refine B0 h ?_;clear h;intro x33 hx33 h
 try simp only[ls]
 refine B9 (by first|exact If hx33|exact Rp hx33|exact Ws hx33|exact Kc hx33|(have q:=If hx33;simp only[List.length_set] at q;exact q)|(have q:=Kc hx33;simp only[List.length_set,Nat.zero_add] at q ⊢;exact q)) ?_
 conv=>lhs;whnf
 try simp only[Nat.zero_add,M5 (f:=A1) hx33,Fk,ls]
 conv=>lhs;whnf
 revert h
 refine br ?_ ?_
 intro h
 refine B0 h ?_;clear h;intro x35 hx35 h
 try simp only[ls]
 refine B9 (by first|exact If hx35|exact Rp hx35|exact Ws hx35|exact Kc hx35|(have q:=If hx35;simp only[List.length_set] at q;exact q)|(have q:=Kc hx35;simp only[List.length_set,Nat.zero_add] at q ⊢;exact q)) ?_
 conv=>lhs;whnf
 try simp only[Nat.zero_add,M5 (f:=A1) hx35,Fk,ls]
 conv=>lhs;whnf
 revert h
 intro h
 have hs36:Cg (List.map A1 s23) s22.toNat [iA (3),iA x35.Bs,sA x35.Ai,sA x35.D5,iA x35.Ao]=List.map A1 (List.set s23 s22.toNat (⟨3,x35.Bs,x35.Ai,x35.D5,x35.Ao⟩:A2)):=by rw[C1,List.map_set];rfl
 have hs36_u:Cg (List.map A1 s23) s22.toNat (Mw (A1 x35) 0 [iA (3)])=List.map A1 (List.set s23 s22.toNat (⟨3,x35.Bs,x35.Ai,x35.D5,x35.Ao⟩:A2)):=by rw[C1,List.map_set];rfl
 try simp only[Nat.zero_add,M5 (f:=A1) hx35]
 conv=>lhs;whnf
 try simp only[hs36,hs36_u]
 conv=>lhs;whnf
 revert h
 exact fun h=>cq (hcont29 (IntKind.i64.wrap (s22+1),(List.set s23 s22.toNat (⟨3,x35.Bs,x35.Ai,x35.D5,x35.Ao⟩:A2))) (fun _=>0) h)
 exact fun h=>cq (hcont29 (IntKind.i64.wrap (s22+1),s23) (fun _=>0) h)
 intro h;cases sj h
 exact kq (hr30 (fun _=>0))
 refine lrc ?_ ?_
 intro v e;subst e;cases sj h;rfl
 intro x38 a37 e;subst e
 dsimp only at h
 conv=>lhs;whnf
 revert h
 refine br ?_ ?_
 refine ca hc (fun _ h=>Cw h) ?_;intro y40
 intro h;cases sj h
 try simp only[ls]
 exact fq (y:=some (AV.agg [iA Hn,AV.sl 5 (List.take (List.length x38) (List.drop 0 (List.map A1 x38))),iA Lt],[Ob.var 53 [AV.sl 4 (List.map A3 p_l),iA y40.1,iA y40.2.1,iA y40.2.2]]))
 refine ca hc (fun _ h=>Cw h) ?_;intro y42
 intro h;cases sj h
 try simp only[ls]
 exact fq (y:=some (AV.agg [iA Hn,AV.sl 5 (List.take (List.length x38) (List.drop 0 (List.map A1 x38))),iA Lt],[Ob.var 53 [AV.sl 4 (List.map A3 p_l),iA y42.1,iA y42.2.1,iA y42.2.2]]))
theorem A7x {n:Nat} ⦃F9:A5⦄ ⦃r:Bool⦄:Qw n F9=some r→CN n 15 [AV.agg [iA F9.A9,sA F9.Aa,iA F9.Bs,iA F9.Ao]] []=some (bA r,[]):=by
 intro h;rcases n with _|n;cases h
 rw[Qw] at h
 refine Am Try.func15 (by rfl) rfl rfl (Aq rfl) ?_
 intro call hc;conv=>lhs;whnf
 revert h
 exact rz
theorem Z9 {n:Nat} ⦃p_l:(List A5)⦄ ⦃p_i:Int⦄ ⦃p_e:Int⦄ ⦃p_at:Int⦄ ⦃r:(A5×Bool×Int)⦄:J0 n p_l p_i p_e p_at=some r→CN n 17 [AV.ptr 0 0,AV.func 15 [] []] [Ob.var 53 [AV.sl 4 (List.map A3 p_l),iA p_i,iA p_e,iA p_at]]=some (AV.tup [AV.agg [iA r.1.A9,sA r.1.Aa,iA r.1.Bs,iA r.1.Ao],bA r.2.1],[Ob.var 53 [AV.sl 4 (List.map A3 p_l),iA r.2.2,iA p_e,iA p_at]]):=by
 intro h;rcases n with _|n;cases h
 rw[J0] at h
 refine Am Try.func17 (by rfl) rfl rfl (Aq rfl) ?_
 intro call hc;conv=>lhs;whnf
 revert h
 refine br ?_ ?_
 exact rz
 refine br ?_ ?_
 exact rz
 refine ix ?_;intro x3
 refine ca hc (fun _ h=>A7x h) ?_;intro y4
 refine br ?_ ?_
 refine ix ?_;intro x7
 exact rz
 exact rz
theorem Rx {n:Nat} ⦃p_l:(List A5)⦄ ⦃p_i:Int⦄ ⦃p_e:Int⦄ ⦃p_at:Int⦄ ⦃r:(A5×Int×Int×Int)⦄:H3 n p_l p_i p_e p_at=some r→CN n 13 [AV.ptr 0 0,AV.func 15 [] []] [Ob.var 53 [AV.sl 4 (List.map A3 p_l),iA p_i,iA p_e,iA p_at]]=some (AV.agg [iA r.1.A9,sA r.1.Aa,iA r.1.Bs,iA r.1.Ao],[Ob.var 53 [AV.sl 4 (List.map A3 p_l),iA r.2.1,iA r.2.2.1,iA r.2.2.2]]):=by
 intro h;rcases n with _|n;cases h
 rw[H3] at h
 refine Am Try.func13 (by rfl) rfl rfl (Aq rfl) ?_
 intro call hc;conv=>lhs;whnf
 revert h
 refine ca hc (fun _ h=>Z9 h) ?_;intro y1
 refine br ?_ ?_
 exact rz
 refine ca hc (fun _ h=>Kw h) ?_;intro y4
 exact rz
theorem Adj {n:Nat} ⦃F9:A5⦄ ⦃r:Bool⦄:Tt n F9=some r→CN n 45 [AV.agg [iA F9.A9,sA F9.Aa,iA F9.Bs,iA F9.Ao]] []=some (bA r,[]):=by
 intro h;rcases n with _|n;cases h
 rw[Tt] at h
 refine Am Try.func45 (by rfl) rfl rfl (Aq rfl) ?_
 intro call hc;conv=>lhs;whnf
 revert h
 refine br ?_ ?_
 refine ca hc (fun _ h=>Gj h) ?_;intro y2
 exact rz
 exact rz
theorem Ze {n:Nat} ⦃p_l:(List A5)⦄ ⦃p_i:Int⦄ ⦃p_e:Int⦄ ⦃p_at:Int⦄ ⦃r:(A5×Bool×Int)⦄:J1 n p_l p_i p_e p_at=some r→CN n 17 [AV.ptr 0 0,AV.func 45 [] []] [Ob.var 53 [AV.sl 4 (List.map A3 p_l),iA p_i,iA p_e,iA p_at]]=some (AV.tup [AV.agg [iA r.1.A9,sA r.1.Aa,iA r.1.Bs,iA r.1.Ao],bA r.2.1],[Ob.var 53 [AV.sl 4 (List.map A3 p_l),iA r.2.2,iA p_e,iA p_at]]):=by
 intro h;rcases n with _|n;cases h
 rw[J1] at h
 refine Am Try.func17 (by rfl) rfl rfl (Aq rfl) ?_
 intro call hc;conv=>lhs;whnf
 revert h
 refine br ?_ ?_
 exact rz
 refine br ?_ ?_
 exact rz
 refine ix ?_;intro x3
 refine ca hc (fun _ h=>Adj h) ?_;intro y4
 refine br ?_ ?_
 refine ix ?_;intro x7
 exact rz
 exact rz
theorem N9 {n:Nat} ⦃p_l:(List A5)⦄ ⦃p_i:Int⦄ ⦃p_e:Int⦄ ⦃p_at:Int⦄ ⦃r:(A5×Int×Int×Int)⦄:Fl n p_l p_i p_e p_at=some r→CN n 13 [AV.ptr 0 0,AV.func 45 [] []] [Ob.var 53 [AV.sl 4 (List.map A3 p_l),iA p_i,iA p_e,iA p_at]]=some (AV.agg [iA r.1.A9,sA r.1.Aa,iA r.1.Bs,iA r.1.Ao],[Ob.var 53 [AV.sl 4 (List.map A3 p_l),iA r.2.1,iA r.2.2.1,iA r.2.2.2]]):=by
 intro h;rcases n with _|n;cases h
 rw[Fl] at h
 refine Am Try.func13 (by rfl) rfl rfl (Aq rfl) ?_
 intro call hc;conv=>lhs;whnf
 revert h
 refine ca hc (fun _ h=>Ze h) ?_;intro y1
 refine br ?_ ?_
 exact rz
 refine ca hc (fun _ h=>Kw h) ?_;intro y4
 exact rz
theorem A2c {n:Nat} ⦃Kz:Int⦄ ⦃p_l:(List A5)⦄ ⦃p_i:Int⦄ ⦃p_e:Int⦄ ⦃p_at:Int⦄ ⦃r:(Be×Int×Int×Int)⦄:Kp n Kz p_l p_i p_e p_at=some r→CN n 18 [AV.ptr 0 0,iA Kz] [Ob.var 53 [AV.sl 4 (List.map A3 p_l),iA p_i,iA p_e,iA p_at]]=some (AV.agg [sA r.1.Ai,iA r.1.Bs,iA r.1.Ao],[Ob.var 53 [AV.sl 4 (List.map A3 p_l),iA r.2.1,iA r.2.2.1,iA r.2.2.2]]):=by
 intro h;rcases n with _|n;cases h
 rw[Kp] at h
 refine Am Try.func18 (by rfl) rfl rfl (Aq rfl) ?_
 intro call hc;conv=>lhs;whnf
 revert h
 refine ca hc (fun _ h=>N9 h) ?_;intro y1
 refine ca hc (fun _ h=>Cw h) ?_;intro y3
 refine ca hc (fun _ h=>Rx h) ?_;intro y5
 refine ca hc (fun _ h=>Cw h) ?_;intro y7
 exact rz
theorem Za {n:Nat} ⦃Kz:Int⦄ ⦃p_l:(List A5)⦄ ⦃p_i:Int⦄ ⦃p_e:Int⦄ ⦃p_at:Int⦄ ⦃r:(Ag×Int×Int×Int)⦄:It n Kz p_l p_i p_e p_at=some r→CN n 19 [AV.ptr 0 0,iA Kz] [Ob.var 53 [AV.sl 4 (List.map A3 p_l),iA p_i,iA p_e,iA p_at]]=some (AV.agg [sA r.1.Ai,AV.sl 1 (List.map Gm r.1.B5),AV.sl 9 (List.map Ae r.1.Ax),iA r.1.Ao],[Ob.var 53 [AV.sl 4 (List.map A3 p_l),iA r.2.1,iA r.2.2.1,iA r.2.2.2]]):=by
 intro h;rcases n with _|n;cases h
 rw[It] at h
 refine Xl Try.func19 (by rfl) rfl rfl (Aq rfl) ?_
 intro call hc hcA;conv=>lhs;whnf
 revert h
 refine ca hc (fun _ h=>N9 h) ?_;intro y1
 refine ca hc (fun _ h=>Cw h) ?_;intro y3
 intro h
 obtain⟨n5,hn9,h⟩:=Mz h
 obtain⟨call6,hc7,ho8⟩:=Io (f:=14) (args:=[iA (1),sA (([114,101,103]:List UInt8))]) (hp:=[]) hcA hn9 Try.func14 (by rfl) rfl rfl (Aq rfl)
 try simp only[ls]
 simp only[ho8]
 conv=>lhs;whnf
 revert h
 refine ca hc (fun _ h=>F2 h) ?_;intro y10
 refine br ?_ ?_
 intro h;refine B0 h ?_;clear h;intro o25 ho25 h
 refine lq (σ:=(Bool×Int×Int×Int×(List (List UInt8)))) (τ:=(Int×Int×Int×(List (List UInt8)))) (ν:=(Ag×Int×Int×Int)) 0 (fun(s13,s14,s15,s16,s17) a19=>Bo 82 [(0,AV.ptr 0 0),(4,AV.ptr 1 0),(5,AV.ptr 2 0),(8,bA s13)]) (fun(s13,s14,s15,s16,s17) a19=>[Ob.var 53 [AV.sl 4 (List.map A3 p_l),iA s14,iA s15,iA s16],Ob.var 40 [sA (([]:List UInt8)),AV.row 6 (List.length (([]:List (List UInt8)))),AV.row 7 (List.length (([]:List A4))),iA (0)],Ob.var 40 [sA y1.1.Aa,AV.row 8 (List.length s17),AV.row 9 (List.length (([]:List A4))),iA Kz],Ob.var 3 [iA (1)],Ob.var 9 [sA (([114,101,103]:List UInt8))],Ob.var 55 [iA y10.1.A9,sA y10.1.Aa,iA y10.1.Bs,iA y10.1.Ao],Ob.row 9 1 ([]),Ob.row 73 9 ([]),Ob.row 9 1 (List.map Gm s17),Ob.row 73 9 ([])]) (fun(x39,x40,x41,x42) a38=>Bo 82 [(0,AV.ptr 0 0),(4,AV.ptr 1 0),(5,AV.ptr 2 0)]) (fun(x39,x40,x41,x42) a38=>[Ob.var 53 [AV.sl 4 (List.map A3 p_l),iA x39,iA x40,iA x41],Ob.var 40 [sA (([]:List UInt8)),AV.row 6 (List.length (([]:List (List UInt8)))),AV.row 7 (List.length (([]:List A4))),iA (0)],Ob.var 40 [sA y1.1.Aa,AV.row 8 (List.length x42),AV.row 9 (List.length (([]:List A4))),iA Kz],Ob.var 3 [iA (1)],Ob.var 9 [sA (([114,101,103]:List UInt8))],Ob.var 55 [iA y10.1.A9,sA y10.1.Aa,iA y10.1.Bs,iA y10.1.Ao],Ob.row 9 1 ([]),Ob.row 73 9 ([]),Ob.row 9 1 (List.map Gm x42),Ob.row 73 9 ([])]) (fun v=>(AV.agg [sA v.1.Ai,AV.sl 1 (List.map Gm v.1.B5),AV.sl 9 (List.map Ae v.1.Ax),iA v.1.Ao],[Ob.var 53 [AV.sl 4 (List.map A3 p_l),iA v.2.1,iA v.2.2.1,iA v.2.2.2]])) (fun k s=>Dz n p_l k s.1 s.2.1 s.2.2.1 s.2.2.2.1 s.2.2.2.2) (fun s=>rfl) o25 n (true,y10.2.2,y3.2.1,y3.2.2,([]:List (List UInt8))) (fun _=>0) ho25 ?_ ?_
 intro k18 ss a19 K20 cont21 hK22 hcont23 h hr24
 obtain⟨s13,s14,s15,s16,s17⟩:=ss
 replace h:Dz n p_l (k18+1) s13 s14 s15 s16 s17=some o25:=h
 rw[Dz] at h
 conv=>lhs;whnf
 revert h
 refine br ?_ ?_
 refine ca hc (fun _ h=>N9 h) ?_;intro y27
 refine ar (ap Gm (List.map Gm s17) s17 ([[sA y27.1.Aa]]) ([y27.1.Aa]:List (List UInt8))) ?_
 intro h
 obtain⟨n31,hn35,h⟩:=Mz h
 obtain⟨call32,hc33,ho34⟩:=Io (f:=14) (args:=[iA (3),sA (([44]:List UInt8))]) (hp:=[]) hcA hn35 Try.func14 (by rfl) rfl rfl (Aq rfl)
 try simp only[ls]
 simp only[ho34]
 conv=>lhs;whnf
 revert h
 refine ca hc (fun _ h=>F2 h) ?_;intro y36
 exact fun h=>cq (hcont23 (y36.2.1,y36.2.2,y27.2.2.1,y27.2.2.2,(s17++([y27.1.Aa]:List (List UInt8)))) (fun _=>0) h)
 intro h;cases sj h
 exact kq (hr24 (fun _=>0))
 refine lrc ?_ ?_
 intro v e;subst e;cases sj h;rfl
 intro t a38 e;subst e
 obtain⟨x39,x40,x41,x42⟩:=t
 dsimp only at h
 conv=>lhs;whnf
 revert h
 refine ca hc (fun _ h=>Cw h) ?_;intro y43
 refine br ?_ ?_
 intro h;cases sj h
 try simp only[ls]
 exact fq (y:=some (AV.agg [sA y1.1.Aa,AV.sl 1 (List.take (List.length x42) (List.map Gm x42)),AV.sl 9 (List.take (List.length (([]:List A4))) ([])),iA Kz],[Ob.var 53 [AV.sl 4 (List.map A3 p_l),iA y43.1,iA y43.2.1,iA y43.2.2]]))
 refine ca hc (fun _ h=>A0r h) ?_;intro y46
 refine ca hc (fun _ h=>Fj h) ?_;intro y48
 refine br ?_ ?_
 refine ca hc (fun _ h=>Cw h) ?_;intro y51
 intro h;cases sj h
 try simp only[ls]
 exact fq (y:=some (AV.agg [sA y1.1.Aa,AV.sl 1 (List.take (List.length x42) (List.map Gm x42)),AV.sl 9 (List.map Ae y46.1),iA Kz],[Ob.var 53 [AV.sl 4 (List.map A3 p_l),iA y51.1,iA y51.2.1,iA y51.2.2]]))
 refine ca hc (fun _ h=>Cw h) ?_;intro y53
 intro h;cases sj h
 try simp only[ls]
 exact fq (y:=some (AV.agg [sA y1.1.Aa,AV.sl 1 (List.take (List.length x42) (List.map Gm x42)),AV.sl 9 (List.map Ae y46.1),iA Kz],[Ob.var 53 [AV.sl 4 (List.map A3 p_l),iA y53.1,iA y53.2.1,iA y53.2.2]]))
 refine br ?_ ?_
 exact rz
 refine ca hc (fun _ h=>A0r h) ?_;intro y57
 refine ca hc (fun _ h=>Fj h) ?_;intro y59
 refine br ?_ ?_
 refine ca hc (fun _ h=>Cw h) ?_;intro y62
 exact rz
 refine ca hc (fun _ h=>Cw h) ?_;intro y64
 exact rz
theorem W6 {n:Nat} ⦃L7:Int⦄ ⦃r:(List UInt8)⦄:Jq n L7=some r→CN n 20 [iA L7] []=some (sA r,[]):=by
 intro h;rcases n with _|n;cases h
 rw[Jq] at h
 refine Am Try.func20 (by rfl) rfl rfl (Aq rfl) ?_
 intro call hc;conv=>lhs;whnf
 revert h
 refine br ?_ ?_
 exact rz
 refine br ?_ ?_
 exact rz
 refine br ?_ ?_
 exact rz
 exact rz
theorem Aa2 {n:Nat} ⦃Gs:Int⦄ ⦃r:Bool⦄:P1 n Gs=some r→CN n 41 [AV.int .i32 Gs] []=some (bA r,[]):=by
 intro h;rcases n with _|n;cases h
 rw[P1] at h
 refine Am Try.func41 (by rfl) rfl rfl (Aq rfl) ?_
 intro call hc;conv=>lhs;whnf
 revert h
 refine br ?_ ?_
 exact rz
 exact rz
theorem A8c {n:Nat} ⦃Gs:Int⦄ ⦃r:Bool⦄:O7 n Gs=some r→CN n 39 [AV.int .i32 Gs] []=some (bA r,[]):=by
 intro h;rcases n with _|n;cases h
 rw[O7] at h
 refine Am Try.func39 (by rfl) rfl rfl (Aq rfl) ?_
 intro call hc;conv=>lhs;whnf
 revert h
 refine br ?_ ?_
 refine br ?_ ?_
 exact rz
 refine br ?_ ?_
 refine br ?_ ?_
 exact rz
 exact rz
 exact rz
 refine br ?_ ?_
 refine br ?_ ?_
 exact rz
 exact rz
 exact rz
theorem Ade {n:Nat} ⦃Bx:(List UInt8)⦄ ⦃r:Int⦄:Qn n Bx=some r→CN n 43 [sA Bx] []=some (iA r,[]):=by
 intro h;rcases n with _|n;cases h
 rw[Qn] at h
 refine Am Try.func43 (by rfl) rfl rfl (Aq rfl) ?_
 intro call hc;conv=>lhs;whnf
 revert h
 refine br ?_ ?_
 refine cp ?_
 refine br ?_ ?_
 exact rz
 refine br ?_ ?_
 exact rz
 refine br ?_ ?_
 exact rz
 refine br ?_ ?_
 exact rz
 refine br ?_ ?_
 exact rz
 refine ixs ?_;intro x8
 refine br ?_ ?_
 exact rz
 refine br ?_ ?_
 exact rz
 refine br ?_ ?_
 exact rz
 refine br ?_ ?_
 exact rz
 refine br ?_ ?_
 exact rz
 refine br ?_ ?_
 exact rz
 refine br ?_ ?_
 exact rz
 refine br ?_ ?_
 exact rz
 refine br ?_ ?_
 exact rz
 refine br ?_ ?_
 exact rz
 refine br ?_ ?_
 exact rz
 refine br ?_ ?_
 exact rz
 refine br ?_ ?_
 exact rz
 exact rz
 refine ixs ?_;intro x22
 refine br ?_ ?_
 exact rz
 refine br ?_ ?_
 exact rz
 refine br ?_ ?_
 exact rz
 refine br ?_ ?_
 exact rz
 refine br ?_ ?_
 exact rz
 refine br ?_ ?_
 exact rz
 refine br ?_ ?_
 exact rz
 refine br ?_ ?_
 exact rz
 refine br ?_ ?_
 exact rz
 refine br ?_ ?_
 exact rz
 refine br ?_ ?_
 exact rz
 refine br ?_ ?_
 exact rz
 refine br ?_ ?_
 exact rz
 exact rz
theorem Aei {n:Nat} ⦃Bx:(List UInt8)⦄ ⦃r:((List A5)×Int×Int)⦄:Qv n Bx=some r→CN n 12 [sA Bx] []=some (AV.tup [AV.sl 4 (List.map A3 r.1),iA r.2.1,iA r.2.2],[]):=by
 intro h;rcases n with _|n;cases h
 rw[Qv] at h
 refine Am Try.func12 (by rfl) rfl rfl (Aq rfl) ?_
 intro call hc;conv=>lhs;whnf
 revert h
 refine br ?_ ?_
 exact rz
 intro h;refine B0 h ?_;clear h;intro o11 ho11 h
 refine lq (σ:=(Int×(List A5))) (τ:=(List A5)) (ν:=((List A5)×Int×Int)) 0 (fun(s2,s3) a5=>Bo 104 [(0,sA Bx),(5,AV.row 0 (List.length s3)),(6,iA s2)]) (fun(s2,s3) a5=>[Ob.row 55 4 (List.map A3 s3)]) (fun x50 a49=>Bo 104 [(5,AV.row 0 (List.length x50))]) (fun x50 a49=>[Ob.row 55 4 (List.map A3 x50)]) (fun v=>(AV.tup [AV.sl 4 (List.map A3 v.1),iA v.2.1,iA v.2.2],[])) (fun k s=>D6 n Bx k s.1 s.2) (fun s=>rfl) o11 n (0,([]:List A5)) (fun _=>0) ho11 ?_ ?_
 intro k4 ss a5 K6 cont7 hK8 hcont9 h hr10
 obtain⟨s2,s3⟩:=ss
 replace h:D6 n Bx (k4+1) s2 s3=some o11:=h
 rw[D6] at h
 conv=>lhs;whnf
 revert h
 refine br ?_ ?_
 refine cp ?_
 refine ixs ?_;intro x14
 refine br ?_ ?_
 exact fun h=>cq (hcont9 (IntKind.i64.wrap (s2+1),s3) (fun _=>0) h)
 refine br ?_ ?_
 exact fun h=>cq (hcont9 (IntKind.i64.wrap (s2+1),s3) (fun _=>0) h)
 refine br ?_ ?_
 exact fun h=>cq (hcont9 (IntKind.i64.wrap (s2+1),s3) (fun _=>0) h)
 refine br ?_ ?_
 exact fun h=>cq (hcont9 (IntKind.i64.wrap (s2+1),s3) (fun _=>0) h)
 refine br ?_ ?_
 refine cr hc (fun _ h=>X7 h) ?_;intro y20
 exact fun h=>cq (hcont9 (IntKind.i64.wrap (s2+y20),s3) (fun _=>0) h)
 refine ca hc (fun _ h=>A8c h) ?_;intro y22
 refine br ?_ ?_
 refine cr hc (fun _ h=>X9 h) ?_;intro y25
 refine br ?_ ?_
 intro h;cases sj h
 refine(hK8 _ _).trans ?_
 refine Eq.trans ?_ (Eq.symm (show _=some _ from hr10))
 conv=>lhs;whnf
 exact rq
 refine cp ?_
 refine ar (ap A3 (List.map A3 s3) s3 ([[iA (1),sA ((List.drop 0 (List.take (y25.toNat) (List.drop (s2.toNat) (List.take (Bx.length) Bx))))),iA (0),iA s2]]) ([(⟨1,(List.drop 0 (List.take (y25.toNat) (List.drop (s2.toNat) (List.take (Bx.length) Bx)))),0,s2⟩:A5)]:List A5)) ?_
 exact fun h=>cq (hcont9 (IntKind.i64.wrap (s2+((((List.drop 0 (List.take (y25.toNat) (List.drop (s2.toNat) (List.take (Bx.length) Bx))))).length:Nat):Int)),(s3++([(⟨1,(List.drop 0 (List.take (y25.toNat) (List.drop (s2.toNat) (List.take (Bx.length) Bx)))),0,s2⟩:A5)]:List A5))) (fun _=>0) h)
 refine ca hc (fun _ h=>Aa2 h) ?_;intro y31
 refine br ?_ ?_
 refine cr hc (fun _ h=>Ym h) ?_;intro y34
 refine cp ?_
 refine cp ?_
 refine cr hc (fun _ h=>Aaa h) ?_;intro y38
 refine br ?_ ?_
 intro h;cases sj h
 refine(hK8 _ _).trans ?_
 refine Eq.trans ?_ (Eq.symm (show _=some _ from hr10))
 conv=>lhs;whnf
 exact rq
 refine ar (ap A3 (List.map A3 s3) s3 ([[iA (2),sA ((List.drop 0 (List.take (y34.toNat) (List.drop (s2.toNat) (List.take (Bx.length) Bx))))),iA y38,iA s2]]) ([(⟨2,(List.drop 0 (List.take (y34.toNat) (List.drop (s2.toNat) (List.take (Bx.length) Bx)))),y38,s2⟩:A5)]:List A5)) ?_
 exact fun h=>cq (hcont9 (IntKind.i64.wrap (s2+((((List.drop 0 (List.take (y34.toNat) (List.drop (s2.toNat) (List.take (Bx.length) Bx))))).length:Nat):Int)),(s3++([(⟨2,(List.drop 0 (List.take (y34.toNat) (List.drop (s2.toNat) (List.take (Bx.length) Bx)))),y38,s2⟩:A5)]:List A5))) (fun _=>0) h)
 refine cr hc (fun _ h=>Ade h) ?_;intro y43
 refine br ?_ ?_
 intro h;cases sj h
 refine(hK8 _ _).trans ?_
 refine Eq.trans ?_ (Eq.symm (show _=some _ from hr10))
 conv=>lhs;whnf
 exact rq
 refine cp ?_
 refine ar (ap A3 (List.map A3 s3) s3 ([[iA (3),sA ((List.drop 0 (List.take (y43.toNat) (List.drop (s2.toNat) (List.take (Bx.length) Bx))))),iA (0),iA s2]]) ([(⟨3,(List.drop 0 (List.take (y43.toNat) (List.drop (s2.toNat) (List.take (Bx.length) Bx)))),0,s2⟩:A5)]:List A5)) ?_
 exact fun h=>cq (hcont9 (IntKind.i64.wrap (s2+((((List.drop 0 (List.take (y43.toNat) (List.drop (s2.toNat) (List.take (Bx.length) Bx))))).length:Nat):Int)),(s3++([(⟨3,(List.drop 0 (List.take (y43.toNat) (List.drop (s2.toNat) (List.take (Bx.length) Bx)))),0,s2⟩:A5)]:List A5))) (fun _=>0) h)
 intro h;cases sj h
 exact kq (hr10 (fun _=>0))
 refine lrc ?_ ?_
 intro v e;subst e;cases sj h;rfl
 intro x50 a49 e;subst e
 dsimp only at h
 conv=>lhs;whnf
 revert h
 intro h;cases sj h
 try simp only[ls]
 exact fq (y:=some (AV.tup [AV.sl 4 (List.take (List.length x50) (List.map A3 x50)),iA (0),iA (0)],[]))
theorem Lz {n:Nat} ⦃Bx:(List UInt8)⦄ ⦃r:(Ba×Int×Int)⦄:Fn n Bx=some r→CN n 6 [sA Bx] []=some (AV.tup [AV.agg [iA r.1.Bm,AV.sl 3 (List.map An r.1.Au),AV.sl 4 (List.map Ad r.1.Ac),AV.sl 3 (List.map Ak r.1.Al)],iA r.2.1,iA r.2.2],[]):=by
 intro h;rcases n with _|n;cases h
 rw[Fn] at h
 refine Xl Try.func6 (by rfl) rfl rfl (Aq rfl) ?_
 intro call hc hcA;conv=>lhs;whnf
 revert h
 refine ca hc (fun _ h=>Aei h) ?_;intro y1
 refine br ?_ ?_
 exact rz
 intro h
 obtain⟨n4,hn8,h⟩:=Mz h
 obtain⟨call5,hc6,ho7⟩:=Io (f:=14) (args:=[iA (1),sA (([109,111,100]:List UInt8))]) (hp:=[]) hcA hn8 Try.func14 (by rfl) rfl rfl (Aq rfl)
 try simp only[ls]
 simp only[ho7]
 conv=>lhs;whnf
 revert h
 refine ca hc (fun _ h=>T1 h) ?_;intro y9
 refine ca hc (fun _ h=>Rx h) ?_;intro y11
 refine ca hc (fun _ h=>Cw h) ?_;intro y13
 intro h
 obtain⟨n15,hn19,h⟩:=Mz h
 obtain⟨call16,hc17,ho18⟩:=Io (f:=14) (args:=[iA (1),sA (([108,111,99]:List UInt8))]) (hp:=[]) hcA hn19 Try.func14 (by rfl) rfl rfl (Aq rfl)
 try simp only[ls]
 simp only[ho18]
 conv=>lhs;whnf
 revert h
 refine ca hc (fun _ h=>F2 h) ?_;intro y20
 intro h;refine B0 h ?_;clear h;intro o38 ho38 h
 refine lq (σ:=(Bool×Int×Int×Int×Int×(List UInt8)×Int×Int×(List Be))) (τ:=(Int×Int×Int×Int×(List UInt8)×Int×Int×(List Be))) (ν:=(Ba×Int×Int)) 0 (fun(s22,s23,s24,s25,s26,s27,s28,s29,s30) a32=>Bo 135 [(2,AV.ptr 0 0),(5,AV.sl 4 (List.map A3 y1.1)),(8,AV.ptr 1 0),(9,AV.ptr 2 0),(10,AV.ptr 7 0),(11,bA s22)]) (fun(s22,s23,s24,s25,s26,s27,s28,s29,s30) a32=>[Ob.var 27 [iA (0),AV.row 8 (List.length (([]:List Be))),AV.row 9 (List.length (([]:List Ag))),AV.row 10 (List.length (([]:List Aj)))],Ob.var 53 [AV.sl 4 (List.map A3 y1.1),iA s23,iA s24,iA s25],Ob.var 27 [iA y11.1.Bs,AV.row 11 (List.length s30),AV.row 12 (List.length (([]:List Ag))),AV.row 13 (List.length (([]:List Aj)))],Ob.var 3 [iA (1)],Ob.var 9 [sA (([109,111,100]:List UInt8))],Ob.var 3 [iA (1)],Ob.var 9 [sA (([108,111,99]:List UInt8))],Ob.var 55 [iA s26,sA s27,iA s28,iA s29],Ob.row 45 3 ([]),Ob.row 40 4 ([]),Ob.row 43 3 ([]),Ob.row 45 3 (List.map An s30),Ob.row 40 4 ([]),Ob.row 43 3 ([])]) (fun(x52,x53,x54,x55,x56,x57,x58,x59) a51=>Bo 135 [(2,AV.ptr 0 0),(5,AV.sl 4 (List.map A3 y1.1)),(8,AV.ptr 1 0),(9,AV.ptr 2 0)]) (fun(x52,x53,x54,x55,x56,x57,x58,x59) a51=>[Ob.var 27 [iA (0),AV.row 8 (List.length (([]:List Be))),AV.row 9 (List.length (([]:List Ag))),AV.row 10 (List.length (([]:List Aj)))],Ob.var 53 [AV.sl 4 (List.map A3 y1.1),iA x52,iA x53,iA x54],Ob.var 27 [iA y11.1.Bs,AV.row 11 (List.length x59),AV.row 12 (List.length (([]:List Ag))),AV.row 13 (List.length (([]:List Aj)))],Ob.var 3 [iA (1)],Ob.var 9 [sA (([109,111,100]:List UInt8))],Ob.var 3 [iA (1)],Ob.var 9 [sA (([108,111,99]:List UInt8))],Ob.var 55 [iA x55,sA x56,iA x57,iA x58],Ob.row 45 3 ([]),Ob.row 40 4 ([]),Ob.row 43 3 ([]),Ob.row 45 3 (List.map An x59),Ob.row 40 4 ([]),Ob.row 43 3 ([])]) (fun v=>(AV.tup [AV.agg [iA v.1.Bm,AV.sl 3 (List.map An v.1.Au),AV.sl 4 (List.map Ad v.1.Ac),AV.sl 3 (List.map Ak v.1.Al)],iA v.2.1,iA v.2.2],[])) (fun k s=>Ko n y1 k s.1 s.2.1 s.2.2.1 s.2.2.2.1 s.2.2.2.2.1 s.2.2.2.2.2.1 s.2.2.2.2.2.2.1 s.2.2.2.2.2.2.2.1 s.2.2.2.2.2.2.2.2) (fun s=>rfl) o38 n (y20.2.1,y20.2.2,y13.2.1,y13.2.2,y20.1.A9,y20.1.Aa,y20.1.Bs,y20.1.Ao,([]:List Be)) (fun _=>0) ho38 ?_ ?_
 intro k31 ss a32 K33 cont34 hK35 hcont36 h hr37
 obtain⟨s22,s23,s24,s25,s26,s27,s28,s29,s30⟩:=ss
 replace h:Ko n y1 (k31+1) s22 s23 s24 s25 s26 s27 s28 s29 s30=some o38:=h
 rw[Ko] at h
 conv=>lhs;whnf
 revert h
 refine br ?_ ?_
 refine ca hc (fun _ h=>A2c h) ?_;intro y40
 refine ar (ap An (List.map An s30) s30 ([[sA y40.1.Ai,iA y40.1.Bs,iA y40.1.Ao]]) ([y40.1]:List Be)) ?_
 intro h
 obtain⟨n44,hn48,h⟩:=Mz h
 obtain⟨call45,hc46,ho47⟩:=Io (f:=14) (args:=[iA (1),sA (([108,111,99]:List UInt8))]) (hp:=[]) hcA hn48 Try.func14 (by rfl) rfl rfl (Aq rfl)
 try simp only[ls]
 simp only[ho47]
 conv=>lhs;whnf
 revert h
 refine ca hc (fun _ h=>F2 h) ?_;intro y49
 exact fun h=>cq (hcont36 (y49.2.1,y49.2.2,y40.2.2.1,y40.2.2.2,y49.1.A9,y49.1.Aa,y49.1.Bs,y49.1.Ao,(s30++([y40.1]:List Be))) (fun _=>0) h)
 intro h;cases sj h
 exact kq (hr37 (fun _=>0))
 refine lrc ?_ ?_
 intro v e;subst e;cases sj h;rfl
 intro t a51 e;subst e
 obtain⟨x52,x53,x54,x55,x56,x57,x58,x59⟩:=t
 dsimp only at h
 conv=>lhs;whnf
 revert h
 intro h
 obtain⟨n60,hn64,h⟩:=Mz h
 obtain⟨call61,hc62,ho63⟩:=Io (f:=14) (args:=[iA (1),sA (([116,104,114,101,97,100]:List UInt8))]) (hp:=[]) hcA hn64 Try.func14 (by rfl) rfl rfl (Aq rfl)
 try simp only[ls]
 simp only[ho63]
 conv=>lhs;whnf
 revert h
 refine ca hc (fun _ h=>F2 h) ?_;intro y65
 intro h;refine B0 h ?_;clear h;intro o83 ho83 h
 refine lq (σ:=(Bool×Int×Int×Int×(List Ag)×Int×(List UInt8)×Int×Int)) (τ:=(Int×Int×Int×Int×(List UInt8)×Int×Int×(List Ag))) (ν:=(Ba×Int×Int)) 2 (fun(s67,s68,s69,s70,s71,s72,s73,s74,s75) a77=>Bo 135 [(2,AV.ptr 0 0),(5,AV.sl 4 (List.map A3 y1.1)),(8,AV.ptr 1 0),(9,AV.ptr 2 0),(12,AV.ptr 16 0),(13,bA s67)]) (fun(s67,s68,s69,s70,s71,s72,s73,s74,s75) a77=>[Ob.var 27 [iA (0),AV.row 8 (List.length (([]:List Be))),AV.row 9 (List.length (([]:List Ag))),AV.row 10 (List.length (([]:List Aj)))],Ob.var 53 [AV.sl 4 (List.map A3 y1.1),iA s68,iA s69,iA s70],Ob.var 27 [iA y11.1.Bs,AV.row 11 (List.length x59),AV.row 12 (List.length s71),AV.row 13 (List.length (([]:List Aj)))],Ob.var 3 [iA (1)],Ob.var 9 [sA (([109,111,100]:List UInt8))],Ob.var 3 [iA (1)],Ob.var 9 [sA (([108,111,99]:List UInt8))],Ob.var 55 [iA x55,sA x56,iA x57,iA x58],Ob.row 45 3 ([]),Ob.row 40 4 ([]),Ob.row 43 3 ([]),Ob.row 45 3 (List.map An x59),Ob.row 40 4 (List.map Ad s71),Ob.row 43 3 ([]),Ob.var 3 [iA (1)],Ob.var 9 [sA (([116,104,114,101,97,100]:List UInt8))],Ob.var 55 [iA s72,sA s73,iA s74,iA s75]]) (fun(x97,x98,x99,x100,x101,x102,x103,x104) a96=>Bo 135 [(2,AV.ptr 0 0),(5,AV.sl 4 (List.map A3 y1.1)),(8,AV.ptr 1 0),(9,AV.ptr 2 0)]) (fun(x97,x98,x99,x100,x101,x102,x103,x104) a96=>[Ob.var 27 [iA (0),AV.row 8 (List.length (([]:List Be))),AV.row 9 (List.length (([]:List Ag))),AV.row 10 (List.length (([]:List Aj)))],Ob.var 53 [AV.sl 4 (List.map A3 y1.1),iA x97,iA x98,iA x99],Ob.var 27 [iA y11.1.Bs,AV.row 11 (List.length x59),AV.row 12 (List.length x104),AV.row 13 (List.length (([]:List Aj)))],Ob.var 3 [iA (1)],Ob.var 9 [sA (([109,111,100]:List UInt8))],Ob.var 3 [iA (1)],Ob.var 9 [sA (([108,111,99]:List UInt8))],Ob.var 55 [iA x55,sA x56,iA x57,iA x58],Ob.row 45 3 ([]),Ob.row 40 4 ([]),Ob.row 43 3 ([]),Ob.row 45 3 (List.map An x59),Ob.row 40 4 (List.map Ad x104),Ob.row 43 3 ([]),Ob.var 3 [iA (1)],Ob.var 9 [sA (([116,104,114,101,97,100]:List UInt8))],Ob.var 55 [iA x100,sA x101,iA x102,iA x103]]) (fun v=>(AV.tup [AV.agg [iA v.1.Bm,AV.sl 3 (List.map An v.1.Au),AV.sl 4 (List.map Ad v.1.Ac),AV.sl 3 (List.map Ak v.1.Al)],iA v.2.1,iA v.2.2],[])) (fun k s=>Km n y1 k s.1 s.2.1 s.2.2.1 s.2.2.2.1 s.2.2.2.2.1 s.2.2.2.2.2.1 s.2.2.2.2.2.2.1 s.2.2.2.2.2.2.2.1 s.2.2.2.2.2.2.2.2) (fun s=>rfl) o83 n (y65.2.1,y65.2.2,x53,x54,([]:List Ag),y65.1.A9,y65.1.Aa,y65.1.Bs,y65.1.Ao) (fun _=>0) ho83 ?_ ?_
 intro k76 ss a77 K78 cont79 hK80 hcont81 h hr82
 obtain⟨s67,s68,s69,s70,s71,s72,s73,s74,s75⟩:=ss
 replace h:Km n y1 (k76+1) s67 s68 s69 s70 s71 s72 s73 s74 s75=some o83:=h
 rw[Km] at h
 conv=>lhs;whnf
 revert h
 refine br ?_ ?_
 refine ca hc (fun _ h=>Za h) ?_;intro y85
 refine ar (ap Ad (List.map Ad s71) s71 ([[sA y85.1.Ai,AV.sl 1 (List.map Gm y85.1.B5),AV.sl 9 (List.map Ae y85.1.Ax),iA y85.1.Ao]]) ([y85.1]:List Ag)) ?_
 intro h
 obtain⟨n89,hn93,h⟩:=Mz h
 obtain⟨call90,hc91,ho92⟩:=Io (f:=14) (args:=[iA (1),sA (([116,104,114,101,97,100]:List UInt8))]) (hp:=[]) hcA hn93 Try.func14 (by rfl) rfl rfl (Aq rfl)
 try simp only[ls]
 simp only[ho92]
 conv=>lhs;whnf
 revert h
 refine ca hc (fun _ h=>F2 h) ?_;intro y94
 exact fun h=>cq (hcont81 (y94.2.1,y94.2.2,y85.2.2.1,y85.2.2.2,(s71++([y85.1]:List Ag)),y94.1.A9,y94.1.Aa,y94.1.Bs,y94.1.Ao) (fun _=>0) h)
 intro h;cases sj h
 exact kq (hr82 (fun _=>0))
 refine lrc ?_ ?_
 intro v e;subst e;cases sj h;rfl
 intro t a96 e;subst e
 obtain⟨x97,x98,x99,x100,x101,x102,x103,x104⟩:=t
 dsimp only at h
 conv=>lhs;whnf
 revert h
 intro h;refine B0 h ?_;clear h;intro o117 ho117 h
 refine lq (σ:=(Bool×Int×Int×Int×(List Aj))) (τ:=(Int×Int×Int×(List Aj))) (ν:=(Ba×Int×Int)) 4 (fun(s105,s106,s107,s108,s109) a111=>Bo 135 [(2,AV.ptr 0 0),(5,AV.sl 4 (List.map A3 y1.1)),(8,AV.ptr 1 0),(9,AV.ptr 2 0),(14,bA s105)]) (fun(s105,s106,s107,s108,s109) a111=>[Ob.var 27 [iA (0),AV.row 8 (List.length (([]:List Be))),AV.row 9 (List.length (([]:List Ag))),AV.row 10 (List.length (([]:List Aj)))],Ob.var 53 [AV.sl 4 (List.map A3 y1.1),iA s106,iA s107,iA s108],Ob.var 27 [iA y11.1.Bs,AV.row 11 (List.length x59),AV.row 12 (List.length x104),AV.row 13 (List.length s109)],Ob.var 3 [iA (1)],Ob.var 9 [sA (([109,111,100]:List UInt8))],Ob.var 3 [iA (1)],Ob.var 9 [sA (([108,111,99]:List UInt8))],Ob.var 55 [iA x55,sA x56,iA x57,iA x58],Ob.row 45 3 ([]),Ob.row 40 4 ([]),Ob.row 43 3 ([]),Ob.row 45 3 (List.map An x59),Ob.row 40 4 (List.map Ad x104),Ob.row 43 3 (List.map Ak s109),Ob.var 3 [iA (1)],Ob.var 9 [sA (([116,104,114,101,97,100]:List UInt8))],Ob.var 55 [iA x100,sA x101,iA x102,iA x103]]) (fun(x156,x157,x158,x159) a155=>Bo 135 [(2,AV.ptr 0 0),(5,AV.sl 4 (List.map A3 y1.1)),(8,AV.ptr 1 0),(9,AV.ptr 2 0)]) (fun(x156,x157,x158,x159) a155=>[Ob.var 27 [iA (0),AV.row 8 (List.length (([]:List Be))),AV.row 9 (List.length (([]:List Ag))),AV.row 10 (List.length (([]:List Aj)))],Ob.var 53 [AV.sl 4 (List.map A3 y1.1),iA x156,iA x157,iA x158],Ob.var 27 [iA y11.1.Bs,AV.row 11 (List.length x59),AV.row 12 (List.length x104),AV.row 13 (List.length x159)],Ob.var 3 [iA (1)],Ob.var 9 [sA (([109,111,100]:List UInt8))],Ob.var 3 [iA (1)],Ob.var 9 [sA (([108,111,99]:List UInt8))],Ob.var 55 [iA x55,sA x56,iA x57,iA x58],Ob.row 45 3 ([]),Ob.row 40 4 ([]),Ob.row 43 3 ([]),Ob.row 45 3 (List.map An x59),Ob.row 40 4 (List.map Ad x104),Ob.row 43 3 (List.map Ak x159),Ob.var 3 [iA (1)],Ob.var 9 [sA (([116,104,114,101,97,100]:List UInt8))],Ob.var 55 [iA x100,sA x101,iA x102,iA x103]]) (fun v=>(AV.tup [AV.agg [iA v.1.Bm,AV.sl 3 (List.map An v.1.Au),AV.sl 4 (List.map Ad v.1.Ac),AV.sl 3 (List.map Ak v.1.Al)],iA v.2.1,iA v.2.2],[])) (fun k s=>Jb n y1 k s.1 s.2.1 s.2.2.1 s.2.2.2.1 s.2.2.2.2) (fun s=>rfl) o117 n (true,x97,x98,x99,([]:List Aj)) (fun _=>0) ho117 ?_ ?_
 intro k110 ss a111 K112 cont113 hK114 hcont115 h hr116
 obtain⟨s105,s106,s107,s108,s109⟩:=ss
 replace h:Jb n y1 (k110+1) s105 s106 s107 s108 s109=some o117:=h
 rw[Jb] at h
 conv=>lhs;whnf
 revert h
 refine br ?_ ?_
 intro h;refine B0 h ?_;clear h;intro o132 ho132 h
 refine lq (σ:=(Bool×Int×Int×Int×Int×(List Aj))) (τ:=(Bool×Int×Int×Int×(List Aj))) (ν:=(Ba×Int×Int)) 6 (fun(s119,s120,s121,s122,s123,s124) a126=>Bo 135 [(2,AV.ptr 0 0),(5,AV.sl 4 (List.map A3 y1.1)),(8,AV.ptr 1 0),(9,AV.ptr 2 0),(14,bA s119),(15,iA s120)]) (fun(s119,s120,s121,s122,s123,s124) a126=>[Ob.var 27 [iA (0),AV.row 8 (List.length (([]:List Be))),AV.row 9 (List.length (([]:List Ag))),AV.row 10 (List.length (([]:List Aj)))],Ob.var 53 [AV.sl 4 (List.map A3 y1.1),iA s121,iA s122,iA s123],Ob.var 27 [iA y11.1.Bs,AV.row 11 (List.length x59),AV.row 12 (List.length x104),AV.row 13 (List.length s124)],Ob.var 3 [iA (1)],Ob.var 9 [sA (([109,111,100]:List UInt8))],Ob.var 3 [iA (1)],Ob.var 9 [sA (([108,111,99]:List UInt8))],Ob.var 55 [iA x55,sA x56,iA x57,iA x58],Ob.row 45 3 ([]),Ob.row 40 4 ([]),Ob.row 43 3 ([]),Ob.row 45 3 (List.map An x59),Ob.row 40 4 (List.map Ad x104),Ob.row 43 3 (List.map Ak s124),Ob.var 3 [iA (1)],Ob.var 9 [sA (([116,104,114,101,97,100]:List UInt8))],Ob.var 55 [iA x100,sA x101,iA x102,iA x103]]) (fun(x149,x150,x151,x152,x153) a148=>Bo 135 [(2,AV.ptr 0 0),(5,AV.sl 4 (List.map A3 y1.1)),(8,AV.ptr 1 0),(9,AV.ptr 2 0),(14,bA x149)]) (fun(x149,x150,x151,x152,x153) a148=>[Ob.var 27 [iA (0),AV.row 8 (List.length (([]:List Be))),AV.row 9 (List.length (([]:List Ag))),AV.row 10 (List.length (([]:List Aj)))],Ob.var 53 [AV.sl 4 (List.map A3 y1.1),iA x150,iA x151,iA x152],Ob.var 27 [iA y11.1.Bs,AV.row 11 (List.length x59),AV.row 12 (List.length x104),AV.row 13 (List.length x153)],Ob.var 3 [iA (1)],Ob.var 9 [sA (([109,111,100]:List UInt8))],Ob.var 3 [iA (1)],Ob.var 9 [sA (([108,111,99]:List UInt8))],Ob.var 55 [iA x55,sA x56,iA x57,iA x58],Ob.row 45 3 ([]),Ob.row 40 4 ([]),Ob.row 43 3 ([]),Ob.row 45 3 (List.map An x59),Ob.row 40 4 (List.map Ad x104),Ob.row 43 3 (List.map Ak x153),Ob.var 3 [iA (1)],Ob.var 9 [sA (([116,104,114,101,97,100]:List UInt8))],Ob.var 55 [iA x100,sA x101,iA x102,iA x103]]) (fun v=>(AV.tup [AV.agg [iA v.1.Bm,AV.sl 3 (List.map An v.1.Au),AV.sl 4 (List.map Ad v.1.Ac),AV.sl 3 (List.map Ak v.1.Al)],iA v.2.1,iA v.2.2],[])) (fun k s=>Eh n y1 k s.1 s.2.1 s.2.2.1 s.2.2.2.1 s.2.2.2.2.1 s.2.2.2.2.2) (fun s=>rfl) o132 n (false,1,s106,s107,s108,s109) (fun _=>0) ho132 ?_ ?_
 intro k125 ss a126 K127 cont128 hK129 hcont130 h hr131
 obtain⟨s119,s120,s121,s122,s123,s124⟩:=ss
 replace h:Eh n y1 (k125+1) s119 s120 s121 s122 s123 s124=some o132:=h
 rw[Eh] at h
 conv=>lhs;whnf
 revert h
 refine br ?_ ?_
 refine ca hc (fun _ h=>W6 h) ?_;intro y134
 intro h
 obtain⟨n136,hn140,h⟩:=Mz h
 obtain⟨call137,hc138,ho139⟩:=Io (f:=14) (args:=[iA (1),sA y134]) (hp:=[]) hcA hn140 Try.func14 (by rfl) rfl rfl (Aq rfl)
 try simp only[ls]
 simp only[ho139]
 conv=>lhs;whnf
 revert h
 refine ca hc (fun _ h=>F2 h) ?_;intro y141
 refine br ?_ ?_
 refine ca hc (fun _ h=>A0f h) ?_;intro y144
 refine ar (ap Ak (List.map Ak s124) s124 ([[iA y144.1.A9,AV.sl 5 (List.map A1 y144.1.Ct),iA y144.1.Ao]]) ([y144.1]:List Aj)) ?_
 exact fun h=>cq (hcont130 (true,IntKind.i64.wrap (s120+1),y144.2.1,y144.2.2.1,y144.2.2.2,(s124++([y144.1]:List Aj))) (fun _=>0) h)
 exact fun h=>cq (hcont130 (s119,IntKind.i64.wrap (s120+1),y141.2.2,s122,s123,s124) (fun _=>0) h)
 intro h;cases sj h
 exact kq (hr131 (fun _=>0))
 refine lrc ?_ ?_
 intro v e;subst e;cases sj h;exact hr116
 intro t a148 e;subst e
 obtain⟨x149,x150,x151,x152,x153⟩:=t
 dsimp only at h
 conv=>lhs;whnf
 revert h
 exact fun h=>cq (hcont115 (x149,x150,x151,x152,x153) (fun _=>0) h)
 intro h;cases sj h
 exact kq (hr116 (fun _=>0))
 refine lrc ?_ ?_
 intro v e;subst e;cases sj h;rfl
 intro t a155 e;subst e
 obtain⟨x156,x157,x158,x159⟩:=t
 dsimp only at h
 conv=>lhs;whnf
 revert h
 refine br ?_ ?_
 refine ca hc (fun _ h=>Kw h) ?_;intro y161
 refine br ?_ ?_
 exact rz
 intro h;cases sj h
 try simp only[ls]
 exact fq (y:=some (AV.tup [AV.agg [iA y11.1.Bs,AV.sl 3 (List.take (List.length x59) (List.map An x59)),AV.sl 4 (List.take (List.length x104) (List.map Ad x104)),AV.sl 3 (List.take (List.length x159) (List.map Ak x159))],iA (0),iA (0)],[]))
 refine br ?_ ?_
 exact rz
 intro h;cases sj h
 try simp only[ls]
 exact fq (y:=some (AV.tup [AV.agg [iA y11.1.Bs,AV.sl 3 (List.take (List.length x59) (List.map An x59)),AV.sl 4 (List.take (List.length x104) (List.map Ad x104)),AV.sl 3 (List.take (List.length x159) (List.map Ak x159))],iA (0),iA (0)],[]))
theorem Z0 {n:Nat} ⦃Ca:Int⦄ ⦃r:Bool⦄:M4 n Ca=some r→CN n 29 [iA Ca] []=some (bA r,[]):=by
 intro h;rcases n with _|n;cases h
 rw[M4] at h
 refine Am Try.func29 (by rfl) rfl rfl (Aq rfl) ?_
 intro call hc;conv=>lhs;whnf
 revert h
 refine br ?_ ?_
 exact rz
 exact rz
theorem A65 {n:Nat} ⦃Hb:Int⦄ ⦃C7:Int⦄ ⦃Bw:(List Be)⦄ ⦃Bb:(List Ag)⦄ ⦃Bh:(List Aj)⦄ ⦃r:Bool⦄:Pu n Hb C7 Bw Bb Bh=some r→CN n 27 [iA Hb,AV.ptr 0 0] [Ob.var 27 [iA C7,AV.sl 3 (List.map An Bw),AV.sl 4 (List.map Ad Bb),AV.sl 3 (List.map Ak Bh)]]=some (bA r,[Ob.var 27 [iA C7,AV.sl 3 (List.map An Bw),AV.sl 4 (List.map Ad Bb),AV.sl 3 (List.map Ak Bh)]]):=by
 intro h;rcases n with _|n;cases h
 rw[Pu] at h
 refine Am Try.func27 (by rfl) rfl rfl (Aq rfl) ?_
 intro call hc;conv=>lhs;whnf
 revert h
 refine ix ?_;intro x1
 refine ca hc (fun _ h=>Gj h) ?_;intro y2
 refine br ?_ ?_
 refine ca hc (fun _ h=>Z0 h) ?_;intro y5
 refine br ?_ ?_
 exact rz
 exact rz
 exact rz
theorem Afe {n:Nat} ⦃Ca:Int⦄ ⦃C7:Int⦄ ⦃Bw:(List Be)⦄ ⦃Bb:(List Ag)⦄ ⦃Bh:(List Aj)⦄ ⦃r:Bool⦄:Ss n Ca C7 Bw Bb Bh=some r→CN n 26 [iA Ca,AV.func 27 [] [AV.ptr 0 0]] [Ob.var 27 [iA C7,AV.sl 3 (List.map An Bw),AV.sl 4 (List.map Ad Bb),AV.sl 3 (List.map Ak Bh)]]=some (bA r,[Ob.var 27 [iA C7,AV.sl 3 (List.map An Bw),AV.sl 4 (List.map Ad Bb),AV.sl 3 (List.map Ak Bh)]]):=by
 intro h;rcases n with _|n;cases h
 rw[Ss] at h
 refine Am Try.func26 (by rfl) rfl rfl (Aq rfl) ?_
 intro call hc;conv=>lhs;whnf
 revert h
 intro h;refine B0 h ?_;clear h;intro o9 ho9 h
 refine lq (σ:=Int) (τ:=Unit) (ν:=Bool) 0 (fun s1 a3=>Bo 15 [(1,AV.func 27 [] [AV.ptr 0 0]),(6,iA Ca),(7,iA s1)]) (fun s1 a3=>[Ob.var 27 [iA C7,AV.sl 3 (List.map An Bw),AV.sl 4 (List.map Ad Bb),AV.sl 3 (List.map Ak Bh)]]) (fun _ a14=>Bo 15 []) (fun _ a14=>[Ob.var 27 [iA C7,AV.sl 3 (List.map An Bw),AV.sl 4 (List.map Ad Bb),AV.sl 3 (List.map Ak Bh)]]) (fun v=>(bA v,[Ob.var 27 [iA C7,AV.sl 3 (List.map An Bw),AV.sl 4 (List.map Ad Bb),AV.sl 3 (List.map Ak Bh)]])) (fun k s=>Js n Ca C7 Bw Bb Bh k s) (fun s=>rfl) o9 n 0 (fun _=>0) ho9 ?_ ?_
 intro k2 s1 a3 K4 cont5 hK6 hcont7 h hr8
 replace h:Js n Ca C7 Bw Bb Bh (k2+1) s1=some o9:=h
 rw[Js] at h
 conv=>lhs;whnf
 revert h
 refine br ?_ ?_
 refine ca hc (fun _ h=>A65 h) ?_;intro y11
 refine br ?_ ?_
 exact fun h=>cq (hcont7 (IntKind.i64.wrap (s1+1)) (fun _=>0) h)
 intro h;cases sj h
 refine(hK6 _ _).trans ?_
 refine Eq.trans ?_ (Eq.symm (show _=some _ from hr8))
 conv=>lhs;whnf
 exact rq
 intro h;cases sj h
 exact kq (hr8 (fun _=>0))
 refine lrc ?_ ?_
 intro v e;subst e;cases sj h;rfl
 intro t a14 e;subst e
 dsimp only at h
 conv=>lhs;whnf
 revert h
 exact rz
theorem A4x {n:Nat} ⦃Hb:Int⦄ ⦃Ho:(List UInt8)⦄ ⦃He:(List (List UInt8))⦄ ⦃Hq:(List A4)⦄ ⦃Lu:Int⦄ ⦃r:Bool⦄:Ot n Hb Ho He Hq Lu=some r→CN n 54 [iA Hb,AV.ptr 0 0] [Ob.var 40 [sA Ho,AV.sl 1 (List.map Gm He),AV.sl 9 (List.map Ae Hq),iA Lu]]=some (bA r,[Ob.var 40 [sA Ho,AV.sl 1 (List.map Gm He),AV.sl 9 (List.map Ae Hq),iA Lu]]):=by
 intro h;rcases n with _|n;cases h
 rw[Ot] at h
 refine Am Try.func54 (by rfl) rfl rfl (Aq rfl) ?_
 intro call hc;conv=>lhs;whnf
 revert h
 refine ix ?_;intro x1
 refine ca hc (fun _ h=>Gj h) ?_;intro y2
 exact rz
theorem Aa9 {n:Nat} ⦃Ca:Int⦄ ⦃Ho:(List UInt8)⦄ ⦃He:(List (List UInt8))⦄ ⦃Hq:(List A4)⦄ ⦃Lu:Int⦄ ⦃r:Bool⦄:Pc n Ca Ho He Hq Lu=some r→CN n 26 [iA Ca,AV.func 54 [] [AV.ptr 0 0]] [Ob.var 40 [sA Ho,AV.sl 1 (List.map Gm He),AV.sl 9 (List.map Ae Hq),iA Lu]]=some (bA r,[Ob.var 40 [sA Ho,AV.sl 1 (List.map Gm He),AV.sl 9 (List.map Ae Hq),iA Lu]]):=by
 intro h;rcases n with _|n;cases h
 rw[Pc] at h
 refine Am Try.func26 (by rfl) rfl rfl (Aq rfl) ?_
 intro call hc;conv=>lhs;whnf
 revert h
 intro h;refine B0 h ?_;clear h;intro o9 ho9 h
 refine lq (σ:=Int) (τ:=Unit) (ν:=Bool) 0 (fun s1 a3=>Bo 15 [(1,AV.func 54 [] [AV.ptr 0 0]),(6,iA Ca),(7,iA s1)]) (fun s1 a3=>[Ob.var 40 [sA Ho,AV.sl 1 (List.map Gm He),AV.sl 9 (List.map Ae Hq),iA Lu]]) (fun _ a14=>Bo 15 []) (fun _ a14=>[Ob.var 40 [sA Ho,AV.sl 1 (List.map Gm He),AV.sl 9 (List.map Ae Hq),iA Lu]]) (fun v=>(bA v,[Ob.var 40 [sA Ho,AV.sl 1 (List.map Gm He),AV.sl 9 (List.map Ae Hq),iA Lu]])) (fun k s=>Hy n Ca Ho He Hq Lu k s) (fun s=>rfl) o9 n 0 (fun _=>0) ho9 ?_ ?_
 intro k2 s1 a3 K4 cont5 hK6 hcont7 h hr8
 replace h:Hy n Ca Ho He Hq Lu (k2+1) s1=some o9:=h
 rw[Hy] at h
 conv=>lhs;whnf
 revert h
 refine br ?_ ?_
 refine ca hc (fun _ h=>A4x h) ?_;intro y11
 refine br ?_ ?_
 exact fun h=>cq (hcont7 (IntKind.i64.wrap (s1+1)) (fun _=>0) h)
 intro h;cases sj h
 refine(hK6 _ _).trans ?_
 refine Eq.trans ?_ (Eq.symm (show _=some _ from hr8))
 conv=>lhs;whnf
 exact rq
 intro h;cases sj h
 exact kq (hr8 (fun _=>0))
 refine lrc ?_ ?_
 intro v e;subst e;cases sj h;rfl
 intro t a14 e;subst e
 dsimp only at h
 conv=>lhs;whnf
 revert h
 exact rz
theorem A8d {n:Nat} ⦃F9:Ag⦄ ⦃r:Bool⦄:O8 n F9=some r→CN n 31 [AV.agg [sA F9.Ai,AV.sl 1 (List.map Gm F9.B5),AV.sl 9 (List.map Ae F9.Ax),iA F9.Ao]] []=some (bA r,[]):=by
 intro h;rcases n with _|n;cases h
 rw[O8] at h
 refine Am Try.func31 (by rfl) rfl rfl (Aq rfl) ?_
 intro call hc;conv=>lhs;whnf
 revert h
 refine ca hc (fun _ h=>Gj h) ?_;intro y1
 refine br ?_ ?_
 refine br ?_ ?_
 refine ca hc (fun _ h=>A0y h) ?_;intro y5
 refine br ?_ ?_
 refine cr hc (fun _ h=>Aa9 h) ?_;intro y8
 exact rz
 exact rz
 exact rz
 exact rz
theorem A6q {n:Nat} ⦃Hb:Int⦄ ⦃C7:Int⦄ ⦃Bw:(List Be)⦄ ⦃Bb:(List Ag)⦄ ⦃Bh:(List Aj)⦄ ⦃r:Bool⦄:Qa n Hb C7 Bw Bb Bh=some r→CN n 30 [iA Hb,AV.ptr 0 0] [Ob.var 27 [iA C7,AV.sl 3 (List.map An Bw),AV.sl 4 (List.map Ad Bb),AV.sl 3 (List.map Ak Bh)]]=some (bA r,[Ob.var 27 [iA C7,AV.sl 3 (List.map An Bw),AV.sl 4 (List.map Ad Bb),AV.sl 3 (List.map Ak Bh)]]):=by
 intro h;rcases n with _|n;cases h
 rw[Qa] at h
 refine Am Try.func30 (by rfl) rfl rfl (Aq rfl) ?_
 intro call hc;conv=>lhs;whnf
 revert h
 refine ix ?_;intro x1
 refine ca hc (fun _ h=>A8d h) ?_;intro y2
 exact rz
theorem Aa5 {n:Nat} ⦃Ca:Int⦄ ⦃C7:Int⦄ ⦃Bw:(List Be)⦄ ⦃Bb:(List Ag)⦄ ⦃Bh:(List Aj)⦄ ⦃r:Bool⦄:P8 n Ca C7 Bw Bb Bh=some r→CN n 26 [iA Ca,AV.func 30 [] [AV.ptr 0 0]] [Ob.var 27 [iA C7,AV.sl 3 (List.map An Bw),AV.sl 4 (List.map Ad Bb),AV.sl 3 (List.map Ak Bh)]]=some (bA r,[Ob.var 27 [iA C7,AV.sl 3 (List.map An Bw),AV.sl 4 (List.map Ad Bb),AV.sl 3 (List.map Ak Bh)]]):=by
 intro h;rcases n with _|n;cases h
 rw[P8] at h
 refine Am Try.func26 (by rfl) rfl rfl (Aq rfl) ?_
 intro call hc;conv=>lhs;whnf
 revert h
 intro h;refine B0 h ?_;clear h;intro o9 ho9 h
 refine lq (σ:=Int) (τ:=Unit) (ν:=Bool) 0 (fun s1 a3=>Bo 15 [(1,AV.func 30 [] [AV.ptr 0 0]),(6,iA Ca),(7,iA s1)]) (fun s1 a3=>[Ob.var 27 [iA C7,AV.sl 3 (List.map An Bw),AV.sl 4 (List.map Ad Bb),AV.sl 3 (List.map Ak Bh)]]) (fun _ a14=>Bo 15 []) (fun _ a14=>[Ob.var 27 [iA C7,AV.sl 3 (List.map An Bw),AV.sl 4 (List.map Ad Bb),AV.sl 3 (List.map Ak Bh)]]) (fun v=>(bA v,[Ob.var 27 [iA C7,AV.sl 3 (List.map An Bw),AV.sl 4 (List.map Ad Bb),AV.sl 3 (List.map Ak Bh)]])) (fun k s=>Hw n Ca C7 Bw Bb Bh k s) (fun s=>rfl) o9 n 0 (fun _=>0) ho9 ?_ ?_
 intro k2 s1 a3 K4 cont5 hK6 hcont7 h hr8
 replace h:Hw n Ca C7 Bw Bb Bh (k2+1) s1=some o9:=h
 rw[Hw] at h
 conv=>lhs;whnf
 revert h
 refine br ?_ ?_
 refine ca hc (fun _ h=>A6q h) ?_;intro y11
 refine br ?_ ?_
 exact fun h=>cq (hcont7 (IntKind.i64.wrap (s1+1)) (fun _=>0) h)
 intro h;cases sj h
 refine(hK6 _ _).trans ?_
 refine Eq.trans ?_ (Eq.symm (show _=some _ from hr8))
 conv=>lhs;whnf
 exact rq
 intro h;cases sj h
 exact kq (hr8 (fun _=>0))
 refine lrc ?_ ?_
 intro v e;subst e;cases sj h;rfl
 intro t a14 e;subst e
 dsimp only at h
 conv=>lhs;whnf
 revert h
 exact rz
theorem Aa3 {n:Nat} ⦃Gs:Aj⦄ ⦃r:Bool⦄:Pb n Gs=some r→CN n 33 [AV.agg [iA Gs.A9,AV.sl 5 (List.map A1 Gs.Ct),iA Gs.Ao]] []=some (bA r,[]):=by
 intro h;rcases n with _|n;cases h
 rw[Pb] at h
 refine Am Try.func33 (by rfl) rfl rfl (Aq rfl) ?_
 intro call hc;conv=>lhs;whnf
 revert h
 refine ca hc (fun _ h=>A0w h) ?_;intro y1
 intro h;refine B0 h ?_;clear h;intro o11 ho11 h
 refine lq (σ:=Int) (τ:=Unit) (ν:=Bool) 0 (fun s3 a5=>Bo 31 [(1,AV.ptr 0 0),(7,AV.sl 5 (List.map A1 y1)),(8,iA (((y1.length:Nat):Int))),(9,iA s3)]) (fun s3 a5=>[Ob.var 43 [iA Gs.A9,AV.sl 5 (List.map A1 Gs.Ct),iA Gs.Ao]]) (fun _ a15=>Bo 31 [(1,AV.ptr 0 0)]) (fun _ a15=>[Ob.var 43 [iA Gs.A9,AV.sl 5 (List.map A1 Gs.Ct),iA Gs.Ao]]) (fun v=>(bA v,[])) (fun k s=>Ja n y1 k s) (fun s=>rfl) o11 n 0 (fun _=>0) ho11 ?_ ?_
 intro k4 s3 a5 K6 cont7 hK8 hcont9 h hr10
 replace h:Ja n y1 (k4+1) s3=some o11:=h
 rw[Ja] at h
 conv=>lhs;whnf
 revert h
 refine br ?_ ?_
 refine ix ?_;intro x13
 refine br ?_ ?_
 intro h;cases sj h
 refine(hK8 _ _).trans ?_
 refine Eq.trans ?_ (Eq.symm (show _=some _ from hr10))
 conv=>lhs;whnf
 exact rq
 exact fun h=>cq (hcont9 (IntKind.i64.wrap (s3+1)) (fun _=>0) h)
 intro h;cases sj h
 exact kq (hr10 (fun _=>0))
 refine lrc ?_ ?_
 intro v e;subst e;cases sj h;rfl
 intro t a15 e;subst e
 dsimp only at h
 conv=>lhs;whnf
 revert h
 refine ca hc (fun _ h=>W6 h) ?_;intro y16
 refine br ?_ ?_
 exact rz
 refine ca hc (fun _ h=>Us h) ?_;intro y19
 refine br ?_ ?_
 exact rz
 exact rz
theorem A6l {n:Nat} ⦃Hb:Int⦄ ⦃C7:Int⦄ ⦃Bw:(List Be)⦄ ⦃Bb:(List Ag)⦄ ⦃Bh:(List Aj)⦄ ⦃r:Bool⦄:Q2 n Hb C7 Bw Bb Bh=some r→CN n 32 [iA Hb,AV.ptr 0 0] [Ob.var 27 [iA C7,AV.sl 3 (List.map An Bw),AV.sl 4 (List.map Ad Bb),AV.sl 3 (List.map Ak Bh)]]=some (bA r,[Ob.var 27 [iA C7,AV.sl 3 (List.map An Bw),AV.sl 4 (List.map Ad Bb),AV.sl 3 (List.map Ak Bh)]]):=by
 intro h;rcases n with _|n;cases h
 rw[Q2] at h
 refine Am Try.func32 (by rfl) rfl rfl (Aq rfl) ?_
 intro call hc;conv=>lhs;whnf
 revert h
 refine ix ?_;intro x1
 refine ca hc (fun _ h=>Aa3 h) ?_;intro y2
 exact rz
theorem Aaf {n:Nat} ⦃Ca:Int⦄ ⦃C7:Int⦄ ⦃Bw:(List Be)⦄ ⦃Bb:(List Ag)⦄ ⦃Bh:(List Aj)⦄ ⦃r:Bool⦄:Pi n Ca C7 Bw Bb Bh=some r→CN n 26 [iA Ca,AV.func 32 [] [AV.ptr 0 0]] [Ob.var 27 [iA C7,AV.sl 3 (List.map An Bw),AV.sl 4 (List.map Ad Bb),AV.sl 3 (List.map Ak Bh)]]=some (bA r,[Ob.var 27 [iA C7,AV.sl 3 (List.map An Bw),AV.sl 4 (List.map Ad Bb),AV.sl 3 (List.map Ak Bh)]]):=by
 intro h;rcases n with _|n;cases h
 rw[Pi] at h
 refine Am Try.func26 (by rfl) rfl rfl (Aq rfl) ?_
 intro call hc;conv=>lhs;whnf
 revert h
 intro h;refine B0 h ?_;clear h;intro o9 ho9 h
 refine lq (σ:=Int) (τ:=Unit) (ν:=Bool) 0 (fun s1 a3=>Bo 15 [(1,AV.func 32 [] [AV.ptr 0 0]),(6,iA Ca),(7,iA s1)]) (fun s1 a3=>[Ob.var 27 [iA C7,AV.sl 3 (List.map An Bw),AV.sl 4 (List.map Ad Bb),AV.sl 3 (List.map Ak Bh)]]) (fun _ a14=>Bo 15 []) (fun _ a14=>[Ob.var 27 [iA C7,AV.sl 3 (List.map An Bw),AV.sl 4 (List.map Ad Bb),AV.sl 3 (List.map Ak Bh)]]) (fun v=>(bA v,[Ob.var 27 [iA C7,AV.sl 3 (List.map An Bw),AV.sl 4 (List.map Ad Bb),AV.sl 3 (List.map Ak Bh)]])) (fun k s=>Hx n Ca C7 Bw Bb Bh k s) (fun s=>rfl) o9 n 0 (fun _=>0) ho9 ?_ ?_
 intro k2 s1 a3 K4 cont5 hK6 hcont7 h hr8
 replace h:Hx n Ca C7 Bw Bb Bh (k2+1) s1=some o9:=h
 rw[Hx] at h
 conv=>lhs;whnf
 revert h
 refine br ?_ ?_
 refine ca hc (fun _ h=>A6l h) ?_;intro y11
 refine br ?_ ?_
 exact fun h=>cq (hcont7 (IntKind.i64.wrap (s1+1)) (fun _=>0) h)
 intro h;cases sj h
 refine(hK6 _ _).trans ?_
 refine Eq.trans ?_ (Eq.symm (show _=some _ from hr8))
 conv=>lhs;whnf
 exact rq
 intro h;cases sj h
 exact kq (hr8 (fun _=>0))
 refine lrc ?_ ?_
 intro v e;subst e;cases sj h;rfl
 intro t a14 e;subst e
 dsimp only at h
 conv=>lhs;whnf
 revert h
 exact rz
theorem R6 {n:Nat} ⦃Ay:Ba⦄ ⦃r:Bool⦄:Ka n Ay=some r→CN n 8 [AV.agg [iA Ay.Bm,AV.sl 3 (List.map An Ay.Au),AV.sl 4 (List.map Ad Ay.Ac),AV.sl 3 (List.map Ak Ay.Al)]] []=some (bA r,[]):=by
 intro h;rcases n with _|n;cases h
 rw[Ka] at h
 refine Am Try.func8 (by rfl) rfl rfl (Aq rfl) ?_
 intro call hc;conv=>lhs;whnf
 revert h
 refine cr hc (fun _ h=>Afe h) ?_;intro y1
 refine ca hc (fun _ h=>Z0 h) ?_;intro y3
 refine br ?_ ?_
 refine br ?_ ?_
 refine cr hc (fun _ h=>Aa5 h) ?_;intro y7
 refine br ?_ ?_
 refine cr hc (fun _ h=>Aaf h) ?_;intro y10
 exact rz
 exact rz
 exact rz
 exact rz
def Oy (n:Nat):Prop:=∀ ⦃Ca:Int⦄ ⦃r:(List UInt8)⦄,Ie n Ca=some r→CN n 23 [iA Ca] []=some (sA r,[])
def Sk (n:Nat):Prop:=Oy n
theorem A69 (n:Nat) (ih:Sk n):Oy (n+1):=by
 intro Ca r h
 rw[Ie] at h
 refine Am Try.func23 (by rfl) rfl rfl (Aq rfl) ?_
 intro call hc;conv=>lhs;whnf
 revert h
 refine br ?_ ?_
 exact rz
 refine ca hc (fun _ h=>ih h) ?_;intro y2
 intro h
 refine B8 h ?_;clear h;intro hc4 h
 refine B9 hc4 ?_
 try simp only[ls]
 conv=>lhs;whnf
 revert h
 exact rz
theorem Vz:∀ n,Sk n
 | 0=>by unfold Sk Oy;intros;rename_i h;exact absurd h (by intro h;cases h)
 | n+1=>have ih:=Vz n
   A69 n ih
theorem Xa {n:Nat}:Oy n:=(Vz n)
theorem A18 {n:Nat} ⦃Ay:Ba⦄ ⦃r:(List UInt8)⦄:Oj n Ay=some r→CN n 7 [AV.agg [iA Ay.Bm,AV.sl 3 (List.map An Ay.Au),AV.sl 4 (List.map Ad Ay.Ac),AV.sl 3 (List.map Ak Ay.Al)]] []=some (sA r,[]):=by
 intro h;rcases n with _|n;cases h
 rw[Oj] at h
 refine Am Try.func7 (by rfl) rfl rfl (Aq rfl) ?_
 intro call hc;conv=>lhs;whnf
 revert h
 refine ca hc (fun _ h=>R6 h) ?_;intro y1
 refine br ?_ ?_
 refine ca hc (fun _ h=>Xa h) ?_;intro y4
 intro h
 refine B8 h ?_;clear h;intro hc6 h
 refine B9 hc6 ?_
 try simp only[ls]
 conv=>lhs;whnf
 revert h
 intro h
 refine B8 h ?_;clear h;intro hc7 h
 refine B9 hc7 ?_
 try simp only[ls]
 conv=>lhs;whnf
 revert h
 intro h;refine B0 h ?_;clear h;intro o17 ho17 h
 refine lq (σ:=((List UInt8)×Int)) (τ:=(List UInt8)) (ν:=(List UInt8)) 0 (fun(s8,s9) a11=>Bo 99 [(1,AV.ptr 0 0),(3,sA s8),(22,AV.sl 3 (List.map An Ay.Au)),(23,iA (((Ay.Au.length:Nat):Int))),(24,iA s9)]) (fun(s8,s9) a11=>[Ob.var 27 [iA Ay.Bm,AV.sl 3 (List.map An Ay.Au),AV.sl 4 (List.map Ad Ay.Ac),AV.sl 3 (List.map Ak Ay.Al)]]) (fun x28 a27=>Bo 99 [(1,AV.ptr 0 0),(3,sA x28)]) (fun x28 a27=>[Ob.var 27 [iA Ay.Bm,AV.sl 3 (List.map An Ay.Au),AV.sl 4 (List.map Ad Ay.Ac),AV.sl 3 (List.map Ak Ay.Al)]]) (fun v=>(sA v,[])) (fun k s=>Iy n Ay k s.1 s.2) (fun s=>rfl) o17 n (((([109,111,100,32]:List UInt8)++y4)++([59,10]:List UInt8)),0) (fun _=>0) ho17 ?_ ?_
 intro k10 ss a11 K12 cont13 hK14 hcont15 h hr16
 obtain⟨s8,s9⟩:=ss
 replace h:Iy n Ay (k10+1) s8 s9=some o17:=h
 rw[Iy] at h
 conv=>lhs;whnf
 revert h
 refine br ?_ ?_
 refine ix ?_;intro x19
 intro h
 refine B8 h ?_;clear h;intro hc20 h
 refine B9 hc20 ?_
 try simp only[ls]
 conv=>lhs;whnf
 revert h
 intro h
 refine B8 h ?_;clear h;intro hc21 h
 refine B9 hc21 ?_
 try simp only[ls]
 conv=>lhs;whnf
 revert h
 refine ca hc (fun _ h=>Xa h) ?_;intro y22
 intro h
 refine B8 h ?_;clear h;intro hc24 h
 refine B9 hc24 ?_
 try simp only[ls]
 conv=>lhs;whnf
 revert h
 intro h
 refine B8 h ?_;clear h;intro hc25 h
 refine B9 hc25 ?_
 try simp only[ls]
 conv=>lhs;whnf
 revert h
 intro h
 refine B8 h ?_;clear h;intro hc26 h
 refine B9 hc26 ?_
 try simp only[ls]
 conv=>lhs;whnf
 revert h
 exact fun h=>cq (hcont15 ((s8++((((([108,111,99,32]:List UInt8)++x19.Ai)++([32,61,32]:List UInt8))++y22)++([59,10]:List UInt8))),IntKind.i64.wrap (s9+1)) (fun _=>0) h)
 intro h;cases sj h
 exact kq (hr16 (fun _=>0))
 refine lrc ?_ ?_
 intro v e;subst e;cases sj h;rfl
 intro x28 a27 e;subst e
 dsimp only at h
 conv=>lhs;whnf
 revert h
 intro h;refine B0 h ?_;clear h;intro o38 ho38 h
 refine lq (σ:=((List UInt8)×Int)) (τ:=(List UInt8)) (ν:=(List UInt8)) 2 (fun(s29,s30) a32=>Bo 99 [(1,AV.ptr 0 0),(3,sA s29),(41,AV.sl 4 (List.map Ad Ay.Ac)),(42,iA (((Ay.Ac.length:Nat):Int))),(43,iA s30)]) (fun(s29,s30) a32=>[Ob.var 27 [iA Ay.Bm,AV.sl 3 (List.map An Ay.Au),AV.sl 4 (List.map Ad Ay.Ac),AV.sl 3 (List.map Ak Ay.Al)]]) (fun x73 a72=>Bo 99 [(1,AV.ptr 0 0),(3,sA x73)]) (fun x73 a72=>[Ob.var 27 [iA Ay.Bm,AV.sl 3 (List.map An Ay.Au),AV.sl 4 (List.map Ad Ay.Ac),AV.sl 3 (List.map Ak Ay.Al)]]) (fun v=>(sA v,[])) (fun k s=>Hr n Ay k s.1 s.2) (fun s=>rfl) o38 n (x28,0) (fun _=>0) ho38 ?_ ?_
 intro k31 ss a32 K33 cont34 hK35 hcont36 h hr37
 obtain⟨s29,s30⟩:=ss
 replace h:Hr n Ay (k31+1) s29 s30=some o38:=h
 rw[Hr] at h
 conv=>lhs;whnf
 revert h
 refine br ?_ ?_
 refine ix ?_;intro x40
 intro h
 refine B8 h ?_;clear h;intro hc41 h
 refine B9 hc41 ?_
 try simp only[ls]
 conv=>lhs;whnf
 revert h
 intro h
 refine B8 h ?_;clear h;intro hc42 h
 refine B9 hc42 ?_
 try simp only[ls]
 conv=>lhs;whnf
 revert h
 intro h
 refine B8 h ?_;clear h;intro hc43 h
 refine B9 hc43 ?_
 try simp only[ls]
 conv=>lhs;whnf
 revert h
 intro h;refine B0 h ?_;clear h;intro o54 ho54 h
 refine lq (σ:=((List UInt8)×(List UInt8)×Int)) (τ:=(List UInt8)) (ν:=(List UInt8)) 4 (fun(s44,s45,s46) a48=>Bo 99 [(1,AV.ptr 0 0),(3,sA s44),(7,AV.ptr 1 0),(8,sA s45),(41,AV.sl 4 (List.map Ad Ay.Ac)),(42,iA (((Ay.Ac.length:Nat):Int))),(43,iA s30),(54,AV.sl 1 (List.map Gm x40.B5)),(55,iA (((x40.B5.length:Nat):Int))),(56,iA s46)]) (fun(s44,s45,s46) a48=>[Ob.var 27 [iA Ay.Bm,AV.sl 3 (List.map An Ay.Au),AV.sl 4 (List.map Ad Ay.Ac),AV.sl 3 (List.map Ak Ay.Al)],Ob.var 40 [sA x40.Ai,AV.sl 1 (List.map Gm x40.B5),AV.sl 9 (List.map Ae x40.Ax),iA x40.Ao]]) (fun x60 a59=>Bo 99 [(1,AV.ptr 0 0),(3,sA x60),(7,AV.ptr 1 0),(41,AV.sl 4 (List.map Ad Ay.Ac)),(42,iA (((Ay.Ac.length:Nat):Int))),(43,iA s30)]) (fun x60 a59=>[Ob.var 27 [iA Ay.Bm,AV.sl 3 (List.map An Ay.Au),AV.sl 4 (List.map Ad Ay.Ac),AV.sl 3 (List.map Ak Ay.Al)],Ob.var 40 [sA x40.Ai,AV.sl 1 (List.map Gm x40.B5),AV.sl 9 (List.map Ae x40.Ax),iA x40.Ao]]) (fun v=>(sA v,[])) (fun k s=>Gd n x40 k s.1 s.2.1 s.2.2) (fun s=>rfl) o54 n ((s29++((([116,104,114,101,97,100,32]:List UInt8)++x40.Ai)++([32,123,10]:List UInt8))),([32,32,114,101,103,32]:List UInt8),0) (fun _=>0) ho54 ?_ ?_
 intro k47 ss a48 K49 cont50 hK51 hcont52 h hr53
 obtain⟨s44,s45,s46⟩:=ss
 replace h:Gd n x40 (k47+1) s44 s45 s46=some o54:=h
 rw[Gd] at h
 conv=>lhs;whnf
 revert h
 refine br ?_ ?_
 refine ix ?_;intro x56
 intro h
 refine B8 h ?_;clear h;intro hc57 h
 refine B9 hc57 ?_
 try simp only[ls]
 conv=>lhs;whnf
 revert h
 intro h
 refine B8 h ?_;clear h;intro hc58 h
 refine B9 hc58 ?_
 try simp only[ls]
 conv=>lhs;whnf
 revert h
 exact fun h=>cq (hcont52 ((s44++(s45++x56)),([44,32]:List UInt8),IntKind.i64.wrap (s46+1)) (fun _=>0) h)
 intro h;cases sj h
 exact kq (hr53 (fun _=>0))
 refine lrc ?_ ?_
 intro v e;subst e;cases sj h;exact hr37
 intro x60 a59 e;subst e
 dsimp only at h
 conv=>lhs;whnf
 revert h
 refine br ?_ ?_
 intro h
 refine B8 h ?_;clear h;intro hc62 h
 refine B9 hc62 ?_
 try simp only[ls]
 conv=>lhs;whnf
 revert h
 refine ca hc (fun _ h=>A2h h) ?_;intro y63
 intro h
 refine B8 h ?_;clear h;intro hc65 h
 refine B9 hc65 ?_
 try simp only[ls]
 conv=>lhs;whnf
 revert h
 intro h
 refine B8 h ?_;clear h;intro hc66 h
 refine B9 hc66 ?_
 try simp only[ls]
 conv=>lhs;whnf
 revert h
 exact fun h=>cq (hcont36 (((x60++([59,10]:List UInt8))++(y63++([125,10]:List UInt8))),IntKind.i64.wrap (s30+1)) (fun _=>0) h)
 refine ca hc (fun _ h=>A2h h) ?_;intro y67
 intro h
 refine B8 h ?_;clear h;intro hc69 h
 refine B9 hc69 ?_
 try simp only[ls]
 conv=>lhs;whnf
 revert h
 intro h
 refine B8 h ?_;clear h;intro hc70 h
 refine B9 hc70 ?_
 try simp only[ls]
 conv=>lhs;whnf
 revert h
 exact fun h=>cq (hcont36 ((x60++(y67++([125,10]:List UInt8))),IntKind.i64.wrap (s30+1)) (fun _=>0) h)
 intro h;cases sj h
 exact kq (hr37 (fun _=>0))
 refine lrc ?_ ?_
 intro v e;subst e;cases sj h;rfl
 intro x73 a72 e;subst e
 dsimp only at h
 conv=>lhs;whnf
 revert h
 intro h;refine B0 h ?_;clear h;intro o83 ho83 h
 refine lq (σ:=((List UInt8)×Int)) (τ:=(List UInt8)) (ν:=(List UInt8)) 6 (fun(s74,s75) a77=>Bo 99 [(3,sA s74),(80,AV.sl 3 (List.map Ak Ay.Al)),(81,iA (((Ay.Al.length:Nat):Int))),(82,iA s75)]) (fun(s74,s75) a77=>[Ob.var 27 [iA Ay.Bm,AV.sl 3 (List.map An Ay.Au),AV.sl 4 (List.map Ad Ay.Ac),AV.sl 3 (List.map Ak Ay.Al)]]) (fun x95 a94=>Bo 99 [(3,sA x95)]) (fun x95 a94=>[Ob.var 27 [iA Ay.Bm,AV.sl 3 (List.map An Ay.Au),AV.sl 4 (List.map Ad Ay.Ac),AV.sl 3 (List.map Ak Ay.Al)]]) (fun v=>(sA v,[])) (fun k s=>J3 n Ay k s.1 s.2) (fun s=>rfl) o83 n (x73,0) (fun _=>0) ho83 ?_ ?_
 intro k76 ss a77 K78 cont79 hK80 hcont81 h hr82
 obtain⟨s74,s75⟩:=ss
 replace h:J3 n Ay (k76+1) s74 s75=some o83:=h
 rw[J3] at h
 conv=>lhs;whnf
 revert h
 refine br ?_ ?_
 refine ix ?_;intro x85
 refine ca hc (fun _ h=>W6 h) ?_;intro y86
 intro h
 refine B8 h ?_;clear h;intro hc88 h
 refine B9 hc88 ?_
 try simp only[ls]
 conv=>lhs;whnf
 revert h
 refine ca hc (fun _ h=>X0 h) ?_;intro y89
 intro h
 refine B8 h ?_;clear h;intro hc91 h
 refine B9 hc91 ?_
 try simp only[ls]
 conv=>lhs;whnf
 revert h
 intro h
 refine B8 h ?_;clear h;intro hc92 h
 refine B9 hc92 ?_
 try simp only[ls]
 conv=>lhs;whnf
 revert h
 intro h
 refine B8 h ?_;clear h;intro hc93 h
 refine B9 hc93 ?_
 try simp only[ls]
 conv=>lhs;whnf
 revert h
 exact fun h=>cq (hcont81 ((s74++(((y86++([32]:List UInt8))++y89)++([59,10]:List UInt8))),IntKind.i64.wrap (s75+1)) (fun _=>0) h)
 intro h;cases sj h
 exact kq (hr82 (fun _=>0))
 refine lrc ?_ ?_
 intro v e;subst e;cases sj h;rfl
 intro x95 a94 e;subst e
 dsimp only at h
 conv=>lhs;whnf
 revert h
 exact rz
 exact rz
theorem Yo {n:Nat} ⦃r:(List UInt8)⦄:R4 n=some r→CN n 11 [] []=some (sA r,[]):=by
 intro h;rcases n with _|n;cases h
 rw[R4] at h
 refine Am Try.func11 (by rfl) rfl rfl (Aq rfl) ?_
 intro call hc;conv=>lhs;whnf
 revert h
 exact rz
theorem Pt {n:Nat} ⦃r:Bool⦄:Jf n=some r→CN n 5 [] []=some (bA r,[]):=by
 intro h;rcases n with _|n;cases h
 rw[Jf] at h
 refine Am Try.func5 (by rfl) rfl rfl (Aq rfl) ?_
 intro call hc;conv=>lhs;whnf
 revert h
 refine ca hc (fun _ h=>Yo h) ?_;intro y1
 refine ca hc (fun _ h=>Lz h) ?_;intro y3
 refine ca hc (fun _ h=>Lz h) ?_;intro y5
 refine ca hc (fun _ h=>Lz h) ?_;intro y7
 refine cr hc (fun _ h=>Lz h) ?_;intro y9
 refine br ?_ ?_
 exact rz
 refine br ?_ ?_
 exact rz
 refine br ?_ ?_
 exact rz
 refine br ?_ ?_
 exact rz
 refine br ?_ ?_
 exact rz
 refine ix ?_;intro x16
 refine br ?_ ?_
 exact rz
 refine ix ?_;intro x18
 refine br ?_ ?_
 exact rz
 refine ca hc (fun _ h=>Sm h) ?_;intro y20
 refine ix ?_;intro x22
 refine br ?_ ?_
 refine br ?_ ?_
 refine ix ?_;intro x25
 refine br ?_ ?_
 refine ix ?_;intro x27
 refine ix ?_;intro x28
 refine br ?_ ?_
 refine br ?_ ?_
 refine br ?_ ?_
 refine br ?_ ?_
 refine br ?_ ?_
 refine br ?_ ?_
 refine br ?_ ?_
 refine ca hc (fun _ h=>A18 h) ?_;intro y36
 refine ca hc (fun _ h=>Yo h) ?_;intro y38
 refine br ?_ ?_
 refine ca hc (fun _ h=>R6 h) ?_;intro y41
 exact rz
 exact rz
 exact rz
 exact rz
 exact rz
 exact rz
 exact rz
 exact rz
 exact rz
 exact rz
 exact rz
 exact rz
theorem Oc {n:Nat} ⦃Bp:(List A2)⦄ ⦃Br:(List A2)⦄ ⦃Fb:Bool⦄ ⦃r:Bool⦄:Ip n Bp Br Fb=some r→CN n 36 [AV.sl 5 (List.map A1 Bp),AV.sl 5 (List.map A1 Br),bA Fb] []=some (bA r,[]):=by
 intro h;rcases n with _|n;cases h
 rw[Ip] at h
 refine Am Try.func36 (by rfl) rfl rfl (Aq rfl) ?_
 intro call hc;conv=>lhs;whnf
 revert h
 refine br ?_ ?_
 exact rz
 intro h;refine B0 h ?_;clear h;intro o11 ho11 h
 refine lq (σ:=(Bool×Int)) (τ:=Unit) (ν:=Bool) 0 (fun(s2,s3) a5=>Bo 85 [(0,AV.sl 5 (List.map A1 Bp)),(1,AV.sl 5 (List.map A1 Br)),(2,bA s2),(7,iA s3)]) (fun(s2,s3) a5=>[]) (fun _ a29=>Bo 85 []) (fun _ a29=>[]) (fun v=>(bA v,[])) (fun k s=>Gt n Bp Br k s.1 s.2) (fun s=>rfl) o11 n (Fb,0) (fun _=>0) ho11 ?_ ?_
 intro k4 ss a5 K6 cont7 hK8 hcont9 h hr10
 obtain⟨s2,s3⟩:=ss
 replace h:Gt n Bp Br (k4+1) s2 s3=some o11:=h
 rw[Gt] at h
 conv=>lhs;whnf
 revert h
 refine br ?_ ?_
 refine ix ?_;intro x13
 refine ix ?_;intro x14
 refine br ?_ ?_
 intro h;cases sj h
 refine(hK8 _ _).trans ?_
 refine Eq.trans ?_ (Eq.symm (show _=some _ from hr10))
 conv=>lhs;whnf
 exact rq
 refine ix ?_;intro x16
 refine ix ?_;intro x17
 refine br ?_ ?_
 intro h;cases sj h
 refine(hK8 _ _).trans ?_
 refine Eq.trans ?_ (Eq.symm (show _=some _ from hr10))
 conv=>lhs;whnf
 exact rq
 refine ix ?_;intro x19
 refine ix ?_;intro x20
 refine br ?_ ?_
 refine ix ?_;intro x22
 refine ix ?_;intro x23
 refine br ?_ ?_
 refine br ?_ ?_
 refine ix ?_;intro x26
 refine ix ?_;intro x27
 refine br ?_ ?_
 intro h;cases sj h
 refine(hK8 _ _).trans ?_
 refine Eq.trans ?_ (Eq.symm (show _=some _ from hr10))
 conv=>lhs;whnf
 exact rq
 exact fun h=>cq (hcont9 (true,IntKind.i64.wrap (s3+1)) (fun _=>0) h)
 exact fun h=>cq (hcont9 (false,IntKind.i64.wrap (s3+1)) (fun _=>0) h)
 intro h;cases sj h
 refine(hK8 _ _).trans ?_
 refine Eq.trans ?_ (Eq.symm (show _=some _ from hr10))
 conv=>lhs;whnf
 exact rq
 intro h;cases sj h
 refine(hK8 _ _).trans ?_
 refine Eq.trans ?_ (Eq.symm (show _=some _ from hr10))
 conv=>lhs;whnf
 exact rq
 intro h;cases sj h
 exact kq (hr10 (fun _=>0))
 refine lrc ?_ ?_
 intro v e;subst e;cases sj h;rfl
 intro t a29 e;subst e
 dsimp only at h
 conv=>lhs;whnf
 revert h
 exact rz
theorem Aak {n:Nat} ⦃Bp:(List A4)⦄ ⦃Br:(List A4)⦄ ⦃Fb:Bool⦄ ⦃r:Bool⦄:P0 n Bp Br Fb=some r→CN n 35 [AV.sl 9 (List.map Ae Bp),AV.sl 9 (List.map Ae Br),bA Fb] []=some (bA r,[]):=by
 intro h;rcases n with _|n;cases h
 rw[P0] at h
 refine Am Try.func35 (by rfl) rfl rfl (Aq rfl) ?_
 intro call hc;conv=>lhs;whnf
 revert h
 refine br ?_ ?_
 exact rz
 intro h;refine B0 h ?_;clear h;intro o11 ho11 h
 refine lq (σ:=(Bool×Int)) (τ:=Unit) (ν:=Bool) 0 (fun(s2,s3) a5=>Bo 97 [(0,AV.sl 9 (List.map Ae Bp)),(1,AV.sl 9 (List.map Ae Br)),(2,bA s2),(7,iA s3)]) (fun(s2,s3) a5=>[]) (fun _ a35=>Bo 97 []) (fun _ a35=>[]) (fun v=>(bA v,[])) (fun k s=>Gw n Bp Br k s.1 s.2) (fun s=>rfl) o11 n (Fb,0) (fun _=>0) ho11 ?_ ?_
 intro k4 ss a5 K6 cont7 hK8 hcont9 h hr10
 obtain⟨s2,s3⟩:=ss
 replace h:Gw n Bp Br (k4+1) s2 s3=some o11:=h
 rw[Gw] at h
 conv=>lhs;whnf
 revert h
 refine br ?_ ?_
 refine ix ?_;intro x13
 refine ix ?_;intro x14
 refine br ?_ ?_
 intro h;cases sj h
 refine(hK8 _ _).trans ?_
 refine Eq.trans ?_ (Eq.symm (show _=some _ from hr10))
 conv=>lhs;whnf
 exact rq
 refine br ?_ ?_
 refine br ?_ ?_
 refine br ?_ ?_
 refine br ?_ ?_
 intro h;cases sj h
 refine(hK8 _ _).trans ?_
 refine Eq.trans ?_ (Eq.symm (show _=some _ from hr10))
 conv=>lhs;whnf
 exact rq
 refine br ?_ ?_
 intro h;cases sj h
 refine(hK8 _ _).trans ?_
 refine Eq.trans ?_ (Eq.symm (show _=some _ from hr10))
 conv=>lhs;whnf
 exact rq
 refine br ?_ ?_
 refine br ?_ ?_
 intro h;cases sj h
 refine(hK8 _ _).trans ?_
 refine Eq.trans ?_ (Eq.symm (show _=some _ from hr10))
 conv=>lhs;whnf
 exact rq
 refine ca hc (fun _ h=>Oc h) ?_;intro y23
 refine br ?_ ?_
 refine ca hc (fun _ h=>Oc h) ?_;intro y26
 refine br ?_ ?_
 exact fun h=>cq (hcont9 (true,IntKind.i64.wrap (s3+1)) (fun _=>0) h)
 intro h;cases sj h
 refine(hK8 _ _).trans ?_
 refine Eq.trans ?_ (Eq.symm (show _=some _ from hr10))
 conv=>lhs;whnf
 exact rq
 intro h;cases sj h
 refine(hK8 _ _).trans ?_
 refine Eq.trans ?_ (Eq.symm (show _=some _ from hr10))
 conv=>lhs;whnf
 exact rq
 refine ca hc (fun _ h=>Oc h) ?_;intro y29
 refine br ?_ ?_
 refine ca hc (fun _ h=>Oc h) ?_;intro y32
 refine br ?_ ?_
 exact fun h=>cq (hcont9 (false,IntKind.i64.wrap (s3+1)) (fun _=>0) h)
 intro h;cases sj h
 refine(hK8 _ _).trans ?_
 refine Eq.trans ?_ (Eq.symm (show _=some _ from hr10))
 conv=>lhs;whnf
 exact rq
 intro h;cases sj h
 refine(hK8 _ _).trans ?_
 refine Eq.trans ?_ (Eq.symm (show _=some _ from hr10))
 conv=>lhs;whnf
 exact rq
 intro h;cases sj h
 refine(hK8 _ _).trans ?_
 refine Eq.trans ?_ (Eq.symm (show _=some _ from hr10))
 conv=>lhs;whnf
 exact rq
 intro h;cases sj h
 refine(hK8 _ _).trans ?_
 refine Eq.trans ?_ (Eq.symm (show _=some _ from hr10))
 conv=>lhs;whnf
 exact rq
 intro h;cases sj h
 refine(hK8 _ _).trans ?_
 refine Eq.trans ?_ (Eq.symm (show _=some _ from hr10))
 conv=>lhs;whnf
 exact rq
 intro h;cases sj h
 exact kq (hr10 (fun _=>0))
 refine lrc ?_ ?_
 intro v e;subst e;cases sj h;rfl
 intro t a35 e;subst e
 dsimp only at h
 conv=>lhs;whnf
 revert h
 exact rz
theorem Aal {n:Nat} ⦃Bp:Ba⦄ ⦃Br:Ba⦄ ⦃Fb:Bool⦄ ⦃r:Bool⦄:Pp n Bp Br Fb=some r→CN n 10 [AV.agg [iA Bp.Bm,AV.sl 3 (List.map An Bp.Au),AV.sl 4 (List.map Ad Bp.Ac),AV.sl 3 (List.map Ak Bp.Al)],AV.agg [iA Br.Bm,AV.sl 3 (List.map An Br.Au),AV.sl 4 (List.map Ad Br.Ac),AV.sl 3 (List.map Ak Br.Al)],bA Fb] []=some (bA r,[]):=by
 intro h;rcases n with _|n;cases h
 rw[Pp] at h
 refine Am Try.func10 (by rfl) rfl rfl (Aq rfl) ?_
 intro call hc;conv=>lhs;whnf
 revert h
 refine br ?_ ?_
 exact rz
 refine br ?_ ?_
 exact rz
 refine br ?_ ?_
 exact rz
 refine br ?_ ?_
 exact rz
 intro h;refine B0 h ?_;clear h;intro o14 ho14 h
 refine lq (σ:=(Bool×Int)) (τ:=Bool) (ν:=Bool) 0 (fun(s5,s6) a8=>Bo 221 [(2,bA s5),(3,AV.ptr 0 0),(4,AV.ptr 1 0),(7,iA s6)]) (fun(s5,s6) a8=>[Ob.var 27 [iA Bp.Bm,AV.sl 3 (List.map An Bp.Au),AV.sl 4 (List.map Ad Bp.Ac),AV.sl 3 (List.map Ak Bp.Al)],Ob.var 27 [iA Br.Bm,AV.sl 3 (List.map An Br.Au),AV.sl 4 (List.map Ad Br.Ac),AV.sl 3 (List.map Ak Br.Al)]]) (fun x27 a26=>Bo 221 [(2,bA x27),(3,AV.ptr 0 0),(4,AV.ptr 1 0)]) (fun x27 a26=>[Ob.var 27 [iA Bp.Bm,AV.sl 3 (List.map An Bp.Au),AV.sl 4 (List.map Ad Bp.Ac),AV.sl 3 (List.map Ak Bp.Al)],Ob.var 27 [iA Br.Bm,AV.sl 3 (List.map An Br.Au),AV.sl 4 (List.map Ad Br.Ac),AV.sl 3 (List.map Ak Br.Al)]]) (fun v=>(bA v,[])) (fun k s=>Gu n Bp Br k s.1 s.2) (fun s=>rfl) o14 n (Fb,0) (fun _=>0) ho14 ?_ ?_
 intro k7 ss a8 K9 cont10 hK11 hcont12 h hr13
 obtain⟨s5,s6⟩:=ss
 replace h:Gu n Bp Br (k7+1) s5 s6=some o14:=h
 rw[Gu] at h
 conv=>lhs;whnf
 revert h
 refine br ?_ ?_
 refine ix ?_;intro x16
 refine ix ?_;intro x17
 refine br ?_ ?_
 refine ix ?_;intro x19
 refine ix ?_;intro x20
 refine br ?_ ?_
 intro h;cases sj h
 refine(hK11 _ _).trans ?_
 refine Eq.trans ?_ (Eq.symm (show _=some _ from hr13))
 conv=>lhs;whnf
 exact rq
 refine br ?_ ?_
 refine ix ?_;intro x23
 refine ix ?_;intro x24
 refine br ?_ ?_
 intro h;cases sj h
 refine(hK11 _ _).trans ?_
 refine Eq.trans ?_ (Eq.symm (show _=some _ from hr13))
 conv=>lhs;whnf
 exact rq
 exact fun h=>cq (hcont12 (true,IntKind.i64.wrap (s6+1)) (fun _=>0) h)
 exact fun h=>cq (hcont12 (false,IntKind.i64.wrap (s6+1)) (fun _=>0) h)
 intro h;cases sj h
 refine(hK11 _ _).trans ?_
 refine Eq.trans ?_ (Eq.symm (show _=some _ from hr13))
 conv=>lhs;whnf
 exact rq
 intro h;cases sj h
 exact kq (hr13 (fun _=>0))
 refine lrc ?_ ?_
 intro v e;subst e;cases sj h;rfl
 intro x27 a26 e;subst e
 dsimp only at h
 conv=>lhs;whnf
 revert h
 intro h;refine B0 h ?_;clear h;intro o37 ho37 h
 refine lq (σ:=(Bool×Int)) (τ:=Bool) (ν:=Bool) 2 (fun(s28,s29) a31=>Bo 221 [(2,bA s28),(3,AV.ptr 0 0),(4,AV.ptr 1 0),(8,iA s29)]) (fun(s28,s29) a31=>[Ob.var 27 [iA Bp.Bm,AV.sl 3 (List.map An Bp.Au),AV.sl 4 (List.map Ad Bp.Ac),AV.sl 3 (List.map Ak Bp.Al)],Ob.var 27 [iA Br.Bm,AV.sl 3 (List.map An Br.Au),AV.sl 4 (List.map Ad Br.Ac),AV.sl 3 (List.map Ak Br.Al)]]) (fun x79 a78=>Bo 221 [(2,bA x79),(3,AV.ptr 0 0),(4,AV.ptr 1 0)]) (fun x79 a78=>[Ob.var 27 [iA Bp.Bm,AV.sl 3 (List.map An Bp.Au),AV.sl 4 (List.map Ad Bp.Ac),AV.sl 3 (List.map Ak Bp.Al)],Ob.var 27 [iA Br.Bm,AV.sl 3 (List.map An Br.Au),AV.sl 4 (List.map Ad Br.Ac),AV.sl 3 (List.map Ak Br.Al)]]) (fun v=>(bA v,[])) (fun k s=>Gy n Bp Br k s.1 s.2) (fun s=>rfl) o37 n (x27,0) (fun _=>0) ho37 ?_ ?_
 intro k30 ss a31 K32 cont33 hK34 hcont35 h hr36
 obtain⟨s28,s29⟩:=ss
 replace h:Gy n Bp Br (k30+1) s28 s29=some o37:=h
 rw[Gy] at h
 conv=>lhs;whnf
 revert h
 refine br ?_ ?_
 refine ix ?_;intro x39
 refine ix ?_;intro x40
 refine br ?_ ?_
 refine br ?_ ?_
 intro h;cases sj h
 refine(hK34 _ _).trans ?_
 refine Eq.trans ?_ (Eq.symm (show _=some _ from hr36))
 conv=>lhs;whnf
 exact rq
 refine ca hc (fun _ h=>Aak h) ?_;intro y43
 refine br ?_ ?_
 refine br ?_ ?_
 refine br ?_ ?_
 intro h;cases sj h
 refine(hK34 _ _).trans ?_
 refine Eq.trans ?_ (Eq.symm (show _=some _ from hr36))
 conv=>lhs;whnf
 exact rq
 intro h;refine B0 h ?_;clear h;intro o56 ho56 h
 refine lq (σ:=Int) (τ:=Unit) (ν:=Bool) 4 (fun s48 a50=>Bo 221 [(2,bA true),(3,AV.ptr 0 0),(4,AV.ptr 1 0),(8,iA s29),(9,AV.ptr 2 0),(10,AV.ptr 3 0),(11,iA s48)]) (fun s48 a50=>[Ob.var 27 [iA Bp.Bm,AV.sl 3 (List.map An Bp.Au),AV.sl 4 (List.map Ad Bp.Ac),AV.sl 3 (List.map Ak Bp.Al)],Ob.var 27 [iA Br.Bm,AV.sl 3 (List.map An Br.Au),AV.sl 4 (List.map Ad Br.Ac),AV.sl 3 (List.map Ak Br.Al)],Ob.var 40 [sA x39.Ai,AV.sl 1 (List.map Gm x39.B5),AV.sl 9 (List.map Ae x39.Ax),iA x39.Ao],Ob.var 40 [sA x40.Ai,AV.sl 1 (List.map Gm x40.B5),AV.sl 9 (List.map Ae x40.Ax),iA x40.Ao]]) (fun _ a61=>Bo 221 [(2,bA true),(3,AV.ptr 0 0),(4,AV.ptr 1 0),(8,iA s29)]) (fun _ a61=>[Ob.var 27 [iA Bp.Bm,AV.sl 3 (List.map An Bp.Au),AV.sl 4 (List.map Ad Bp.Ac),AV.sl 3 (List.map Ak Bp.Al)],Ob.var 27 [iA Br.Bm,AV.sl 3 (List.map An Br.Au),AV.sl 4 (List.map Ad Br.Ac),AV.sl 3 (List.map Ak Br.Al)],Ob.var 40 [sA x39.Ai,AV.sl 1 (List.map Gm x39.B5),AV.sl 9 (List.map Ae x39.Ax),iA x39.Ao],Ob.var 40 [sA x40.Ai,AV.sl 1 (List.map Gm x40.B5),AV.sl 9 (List.map Ae x40.Ax),iA x40.Ao]]) (fun v=>(bA v,[])) (fun k s=>I3 n x39 x40 k s) (fun s=>rfl) o56 n 0 (fun _=>0) ho56 ?_ ?_
 intro k49 s48 a50 K51 cont52 hK53 hcont54 h hr55
 replace h:I3 n x39 x40 (k49+1) s48=some o56:=h
 rw[I3] at h
 conv=>lhs;whnf
 revert h
 refine br ?_ ?_
 refine ix ?_;intro x58
 refine ix ?_;intro x59
 refine br ?_ ?_
 exact fun h=>cq (hcont54 (IntKind.i64.wrap (s48+1)) (fun _=>0) h)
 intro h;cases sj h
 refine(hK53 _ _).trans ?_
 conv=>lhs;whnf
 refine(hK34 _ _).trans ?_
 refine Eq.trans ?_ (Eq.symm (show _=some _ from hr55))
 conv=>lhs;whnf
 exact rq
 intro h;cases sj h
 exact kq (hr55 (fun _=>0))
 refine lrc ?_ ?_
 intro v e;subst e;cases sj h;exact hr36
 intro t a61 e;subst e
 dsimp only at h
 conv=>lhs;whnf
 revert h
 exact fun h=>cq (hcont35 (true,IntKind.i64.wrap (s29+1)) (fun _=>0) h)
 intro h;refine B0 h ?_;clear h;intro o71 ho71 h
 refine lq (σ:=Int) (τ:=Unit) (ν:=Bool) 4 (fun s63 a65=>Bo 221 [(2,bA false),(3,AV.ptr 0 0),(4,AV.ptr 1 0),(8,iA s29),(9,AV.ptr 2 0),(10,AV.ptr 3 0),(11,iA s63)]) (fun s63 a65=>[Ob.var 27 [iA Bp.Bm,AV.sl 3 (List.map An Bp.Au),AV.sl 4 (List.map Ad Bp.Ac),AV.sl 3 (List.map Ak Bp.Al)],Ob.var 27 [iA Br.Bm,AV.sl 3 (List.map An Br.Au),AV.sl 4 (List.map Ad Br.Ac),AV.sl 3 (List.map Ak Br.Al)],Ob.var 40 [sA x39.Ai,AV.sl 1 (List.map Gm x39.B5),AV.sl 9 (List.map Ae x39.Ax),iA x39.Ao],Ob.var 40 [sA x40.Ai,AV.sl 1 (List.map Gm x40.B5),AV.sl 9 (List.map Ae x40.Ax),iA x40.Ao]]) (fun _ a76=>Bo 221 [(2,bA false),(3,AV.ptr 0 0),(4,AV.ptr 1 0),(8,iA s29)]) (fun _ a76=>[Ob.var 27 [iA Bp.Bm,AV.sl 3 (List.map An Bp.Au),AV.sl 4 (List.map Ad Bp.Ac),AV.sl 3 (List.map Ak Bp.Al)],Ob.var 27 [iA Br.Bm,AV.sl 3 (List.map An Br.Au),AV.sl 4 (List.map Ad Br.Ac),AV.sl 3 (List.map Ak Br.Al)],Ob.var 40 [sA x39.Ai,AV.sl 1 (List.map Gm x39.B5),AV.sl 9 (List.map Ae x39.Ax),iA x39.Ao],Ob.var 40 [sA x40.Ai,AV.sl 1 (List.map Gm x40.B5),AV.sl 9 (List.map Ae x40.Ax),iA x40.Ao]]) (fun v=>(bA v,[])) (fun k s=>I1 n x39 x40 k s) (fun s=>rfl) o71 n 0 (fun _=>0) ho71 ?_ ?_
 intro k64 s63 a65 K66 cont67 hK68 hcont69 h hr70
 replace h:I1 n x39 x40 (k64+1) s63=some o71:=h
 rw[I1] at h
 conv=>lhs;whnf
 revert h
 refine br ?_ ?_
 refine ix ?_;intro x73
 refine ix ?_;intro x74
 refine br ?_ ?_
 exact fun h=>cq (hcont69 (IntKind.i64.wrap (s63+1)) (fun _=>0) h)
 intro h;cases sj h
 refine(hK68 _ _).trans ?_
 conv=>lhs;whnf
 refine(hK34 _ _).trans ?_
 refine Eq.trans ?_ (Eq.symm (show _=some _ from hr70))
 conv=>lhs;whnf
 exact rq
 intro h;cases sj h
 exact kq (hr70 (fun _=>0))
 refine lrc ?_ ?_
 intro v e;subst e;cases sj h;exact hr36
 intro t a76 e;subst e
 dsimp only at h
 conv=>lhs;whnf
 revert h
 exact fun h=>cq (hcont35 (false,IntKind.i64.wrap (s29+1)) (fun _=>0) h)
 intro h;cases sj h
 refine(hK34 _ _).trans ?_
 refine Eq.trans ?_ (Eq.symm (show _=some _ from hr36))
 conv=>lhs;whnf
 exact rq
 intro h;cases sj h
 refine(hK34 _ _).trans ?_
 refine Eq.trans ?_ (Eq.symm (show _=some _ from hr36))
 conv=>lhs;whnf
 exact rq
 intro h;cases sj h
 exact kq (hr36 (fun _=>0))
 refine lrc ?_ ?_
 intro v e;subst e;cases sj h;rfl
 intro x79 a78 e;subst e
 dsimp only at h
 conv=>lhs;whnf
 revert h
 intro h;refine B0 h ?_;clear h;intro o89 ho89 h
 refine lq (σ:=(Bool×Int)) (τ:=Unit) (ν:=Bool) 6 (fun(s80,s81) a83=>Bo 221 [(2,bA s80),(3,AV.ptr 0 0),(4,AV.ptr 1 0),(12,iA s81)]) (fun(s80,s81) a83=>[Ob.var 27 [iA Bp.Bm,AV.sl 3 (List.map An Bp.Au),AV.sl 4 (List.map Ad Bp.Ac),AV.sl 3 (List.map Ak Bp.Al)],Ob.var 27 [iA Br.Bm,AV.sl 3 (List.map An Br.Au),AV.sl 4 (List.map Ad Br.Ac),AV.sl 3 (List.map Ak Br.Al)]]) (fun _ a103=>Bo 221 []) (fun _ a103=>[Ob.var 27 [iA Bp.Bm,AV.sl 3 (List.map An Bp.Au),AV.sl 4 (List.map Ad Bp.Ac),AV.sl 3 (List.map Ak Bp.Al)],Ob.var 27 [iA Br.Bm,AV.sl 3 (List.map An Br.Au),AV.sl 4 (List.map Ad Br.Ac),AV.sl 3 (List.map Ak Br.Al)]]) (fun v=>(bA v,[])) (fun k s=>Gx n Bp Br k s.1 s.2) (fun s=>rfl) o89 n (x79,0) (fun _=>0) ho89 ?_ ?_
 intro k82 ss a83 K84 cont85 hK86 hcont87 h hr88
 obtain⟨s80,s81⟩:=ss
 replace h:Gx n Bp Br (k82+1) s80 s81=some o89:=h
 rw[Gx] at h
 conv=>lhs;whnf
 revert h
 refine br ?_ ?_
 refine ix ?_;intro x91
 refine ix ?_;intro x92
 refine br ?_ ?_
 intro h;cases sj h
 refine(hK86 _ _).trans ?_
 refine Eq.trans ?_ (Eq.symm (show _=some _ from hr88))
 conv=>lhs;whnf
 exact rq
 refine ix ?_;intro x94
 refine ix ?_;intro x95
 refine ca hc (fun _ h=>Oc h) ?_;intro y96
 refine br ?_ ?_
 refine br ?_ ?_
 refine ix ?_;intro x100
 refine ix ?_;intro x101
 refine br ?_ ?_
 intro h;cases sj h
 refine(hK86 _ _).trans ?_
 refine Eq.trans ?_ (Eq.symm (show _=some _ from hr88))
 conv=>lhs;whnf
 exact rq
 exact fun h=>cq (hcont87 (true,IntKind.i64.wrap (s81+1)) (fun _=>0) h)
 exact fun h=>cq (hcont87 (false,IntKind.i64.wrap (s81+1)) (fun _=>0) h)
 intro h;cases sj h
 refine(hK86 _ _).trans ?_
 refine Eq.trans ?_ (Eq.symm (show _=some _ from hr88))
 conv=>lhs;whnf
 exact rq
 intro h;cases sj h
 exact kq (hr88 (fun _=>0))
 refine lrc ?_ ?_
 intro v e;subst e;cases sj h;rfl
 intro t a103 e;subst e
 dsimp only at h
 conv=>lhs;whnf
 revert h
 exact rz
theorem A27 {n:Nat} ⦃Bx:(List UInt8)⦄ ⦃r:Bool⦄:Kr n Bx=some r→CN n 3 [sA Bx] []=some (bA r,[]):=by
 intro h;rcases n with _|n;cases h
 rw[Kr] at h
 refine Am Try.func3 (by rfl) rfl rfl (Aq rfl) ?_
 intro call hc;conv=>lhs;whnf
 revert h
 refine br ?_ ?_
 refine ca hc (fun _ h=>Pt h) ?_;intro y2
 exact rz
 refine ca hc (fun _ h=>Lz h) ?_;intro y4
 refine br ?_ ?_
 refine br ?_ ?_
 refine br ?_ ?_
 refine br ?_ ?_
 refine br ?_ ?_
 refine ca hc (fun _ h=>Pt h) ?_;intro y11
 exact rz
 exact rz
 exact rz
 exact rz
 exact rz
 refine ca hc (fun _ h=>A18 h) ?_;intro y13
 refine ca hc (fun _ h=>Lz h) ?_;intro y15
 refine ca hc (fun _ h=>R6 h) ?_;intro y17
 refine br ?_ ?_
 refine ca hc (fun _ h=>Sm h) ?_;intro y20
 refine ca hc (fun _ h=>R6 h) ?_;intro y22
 refine br ?_ ?_
 refine br ?_ ?_
 refine ca hc (fun _ h=>Pt h) ?_;intro y26
 exact rz
 refine br ?_ ?_
 refine ca hc (fun _ h=>Sm h) ?_;intro y29
 refine ca hc (fun _ h=>Sm h) ?_;intro y31
 refine ca hc (fun _ h=>Aal h) ?_;intro y33
 refine br ?_ ?_
 refine ca hc (fun _ h=>Pt h) ?_;intro y36
 exact rz
 exact rz
 exact rz
 exact rz
 exact rz
end Go.Proofs.Ytnijlelbihnamaa
end
