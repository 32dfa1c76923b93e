/- Parts of the proofs: what they lean on. Conditions: none. -/
import Derived.Test.YtceibnlnjmpkoaaGenAlikeP2
section
namespace Go.Proofs.Ytceibnlnjmpkoaa
set_option linter.unusedVariables false
set_option linter.unusedSimpArgs false
set_option maxRecDepth 100000
set_option maxHeartbeats 4000000
theorem Zo {n:Nat} ⦃A4:(List A6)⦄ ⦃B7:Int⦄ ⦃Al:Int⦄ ⦃A1:Int⦄ ⦃Ap:Int⦄ ⦃Ai:(List (List UInt8))⦄ ⦃Aj:(List (List UInt8))⦄ ⦃r:(List A0)⦄:Qf n A4 B7 Al A1 Ap Ai Aj=some r→Gk Try.prog HH XT n true 29 [AV.sl 9 (List.map Am A4),iA B7,iA Al,iA A1,iA Ap,AV.sl 1 (List.map Aw Ai),AV.sl 1 (List.map Aw Aj)] []=some (AV.row 0 (List.length r),[Ob.row 64 7 (List.map A9 r)]):=by
 intro h;rcases n with _|n;cases h
 rw[Qf] at h
 refine A51 Try.func29 (by rfl) rfl rfl (As rfl) ?_
 intro call hc hcA;conv=>lhs;whnf
 revert h
 intro h;refine Ak h ?_;clear h;intro o10 ho10 h
 refine lq (σ:=(Int×(List A0))) (τ:=(List A0)) (ν:=(List A0)) 0 (fun(s1,s2) a4=>B2 234 [(0,AV.sl 9 (List.map Am A4)),(2,iA Al),(3,iA A1),(4,iA Ap),(5,AV.sl 1 (List.map Aw Ai)),(6,AV.sl 1 (List.map Aw Aj)),(15,AV.row 0 (List.length s2)),(16,iA s1)]) (fun(s1,s2) a4=>[Ob.row 64 7 (List.map A9 s2)]) (fun x211 a210=>B2 234 [(15,AV.row 0 (List.length x211))]) (fun x211 a210=>[Ob.row 64 7 (List.map A9 x211)]) (fun v=>(AV.row 0 (List.length v),[Ob.row 64 7 (List.map A9 v)])) (fun k s=>Bc n A4 Al A1 Ap Ai Aj k s.1 s.2) (fun s=>rfl) o10 n (B7,([]:List A0)) (fun _=>0) ho10 ?_ ?_
 intro k3 ss a4 K5 cont6 hK7 hcont8 h hr9
 obtain⟨s1,s2⟩:=ss
 replace h:Bc n A4 Al A1 Ap Ai Aj (k3+1) s1 s2=some o10:=h
 rw[Bc] at h
 conv=>lhs;whnf
 revert h
 refine br ?_ ?_
 refine ix ?_;intro x12
 refine ca hc (fun _ h=>Ij h) ?_;intro y13
 refine ca hc (fun _ h=>Ij h) ?_;intro y15
 refine br ?_ ?_
 refine br ?_ ?_
 refine ca hc (fun _ h=>Cc h) ?_;intro y19
 refine ca hc (fun _ h=>Cc h) ?_;intro y21
 refine br ?_ ?_
 exact fun h=>cq (hcont8 (IntKind.i64.wrap ((IntKind.i64.wrap ((IntKind.i64.wrap (s1+1))+x12.A7))+x12.Ae),s2) (fun _=>0) h)
 refine br ?_ ?_
 refine ar (ap A9 (List.map A9 s2) s2 ([[iA (20),iA (0),iA (0),AV.sl 3 [],AV.sl 3 [],bA false,iA Ap]]) ([(⟨20,0,0,([]:List OpS),([]:List OpS),false,Ap⟩:A0)]:List A0)) ?_
 exact fun h=>cq (hcont8 (IntKind.i64.wrap ((IntKind.i64.wrap ((IntKind.i64.wrap (s1+1))+x12.A7))+x12.Ae),(s2++([(⟨20,0,0,([]:List OpS),([]:List OpS),false,Ap⟩:A0)]:List A0))) (fun _=>0) h)
 refine br ?_ ?_
 refine br ?_ ?_
 refine ar (ap A9 (List.map A9 s2) s2 ([[iA (21),iA (0),iA (0),AV.sl 3 (List.map At y13.1),AV.sl 3 [],bA false,iA (IntKind.i64.wrap ((IntKind.i64.wrap ((IntKind.i64.wrap (A1+((s2.length:Nat):Int)))+1))+y19))]]) ([(⟨21,0,0,y13.1,([]:List OpS),false,IntKind.i64.wrap ((IntKind.i64.wrap ((IntKind.i64.wrap (A1+((s2.length:Nat):Int)))+1))+y19)⟩:A0)]:List A0)) ?_
 refine cr hc (fun _ h=>Bv h) ?_;intro y31
 refine ar (ap A9 (List.map A9 (s2++([(⟨21,0,0,y13.1,([]:List OpS),false,IntKind.i64.wrap ((IntKind.i64.wrap ((IntKind.i64.wrap (A1+((s2.length:Nat):Int)))+1))+y19)⟩:A0)]:List A0))) (s2++([(⟨21,0,0,y13.1,([]:List OpS),false,IntKind.i64.wrap ((IntKind.i64.wrap ((IntKind.i64.wrap (A1+((s2.length:Nat):Int)))+1))+y19)⟩:A0)]:List A0)) (List.map A9 y31) y31) ?_
 exact fun h=>cq (hcont8 (IntKind.i64.wrap ((IntKind.i64.wrap ((IntKind.i64.wrap (s1+1))+x12.A7))+x12.Ae),((s2++([(⟨21,0,0,y13.1,([]:List OpS),false,IntKind.i64.wrap ((IntKind.i64.wrap ((IntKind.i64.wrap (A1+((s2.length:Nat):Int)))+1))+y19)⟩:A0)]:List A0))++y31)) (fun _=>0) h)
 refine ar (ap A9 (List.map A9 s2) s2 ([[iA (21),iA (0),iA (0),AV.sl 3 (List.map At y13.1),AV.sl 3 [],bA false,iA (IntKind.i64.wrap ((IntKind.i64.wrap ((IntKind.i64.wrap (A1+((s2.length:Nat):Int)))+2))+y19))]]) ([(⟨21,0,0,y13.1,([]:List OpS),false,IntKind.i64.wrap ((IntKind.i64.wrap ((IntKind.i64.wrap (A1+((s2.length:Nat):Int)))+2))+y19)⟩:A0)]:List A0)) ?_
 refine cr hc (fun _ h=>Bv h) ?_;intro y37
 refine ar (ap A9 (List.map A9 (s2++([(⟨21,0,0,y13.1,([]:List OpS),false,IntKind.i64.wrap ((IntKind.i64.wrap ((IntKind.i64.wrap (A1+((s2.length:Nat):Int)))+2))+y19)⟩:A0)]:List A0))) (s2++([(⟨21,0,0,y13.1,([]:List OpS),false,IntKind.i64.wrap ((IntKind.i64.wrap ((IntKind.i64.wrap (A1+((s2.length:Nat):Int)))+2))+y19)⟩:A0)]:List A0)) (List.map A9 y37) y37) ?_
 refine ar (ap A9 (List.map A9 ((s2++([(⟨21,0,0,y13.1,([]:List OpS),false,IntKind.i64.wrap ((IntKind.i64.wrap ((IntKind.i64.wrap (A1+((s2.length:Nat):Int)))+2))+y19)⟩:A0)]:List A0))++y37)) ((s2++([(⟨21,0,0,y13.1,([]:List OpS),false,IntKind.i64.wrap ((IntKind.i64.wrap ((IntKind.i64.wrap (A1+((s2.length:Nat):Int)))+2))+y19)⟩:A0)]:List A0))++y37) ([[iA (20),iA (0),iA (0),AV.sl 3 [],AV.sl 3 [],bA false,iA (IntKind.i64.wrap ((IntKind.i64.wrap ((IntKind.i64.wrap ((IntKind.i64.wrap (A1+((s2.length:Nat):Int)))+2))+y19))+y21))]]) ([(⟨20,0,0,([]:List OpS),([]:List OpS),false,IntKind.i64.wrap ((IntKind.i64.wrap ((IntKind.i64.wrap ((IntKind.i64.wrap (A1+((s2.length:Nat):Int)))+2))+y19))+y21)⟩:A0)]:List A0)) ?_
 refine cr hc (fun _ h=>Bv h) ?_;intro y43
 refine ar (ap A9 (List.map A9 (((s2++([(⟨21,0,0,y13.1,([]:List OpS),false,IntKind.i64.wrap ((IntKind.i64.wrap ((IntKind.i64.wrap (A1+((s2.length:Nat):Int)))+2))+y19)⟩:A0)]:List A0))++y37)++([(⟨20,0,0,([]:List OpS),([]:List OpS),false,IntKind.i64.wrap ((IntKind.i64.wrap ((IntKind.i64.wrap ((IntKind.i64.wrap (A1+((s2.length:Nat):Int)))+2))+y19))+y21)⟩:A0)]:List A0))) (((s2++([(⟨21,0,0,y13.1,([]:List OpS),false,IntKind.i64.wrap ((IntKind.i64.wrap ((IntKind.i64.wrap (A1+((s2.length:Nat):Int)))+2))+y19)⟩:A0)]:List A0))++y37)++([(⟨20,0,0,([]:List OpS),([]:List OpS),false,IntKind.i64.wrap ((IntKind.i64.wrap ((IntKind.i64.wrap ((IntKind.i64.wrap (A1+((s2.length:Nat):Int)))+2))+y19))+y21)⟩:A0)]:List A0)) (List.map A9 y43) y43) ?_
 exact fun h=>cq (hcont8 (IntKind.i64.wrap ((IntKind.i64.wrap ((IntKind.i64.wrap (s1+1))+x12.A7))+x12.Ae),((((s2++([(⟨21,0,0,y13.1,([]:List OpS),false,IntKind.i64.wrap ((IntKind.i64.wrap ((IntKind.i64.wrap (A1+((s2.length:Nat):Int)))+2))+y19)⟩:A0)]:List A0))++y37)++([(⟨20,0,0,([]:List OpS),([]:List OpS),false,IntKind.i64.wrap ((IntKind.i64.wrap ((IntKind.i64.wrap ((IntKind.i64.wrap (A1+((s2.length:Nat):Int)))+2))+y19))+y21)⟩:A0)]:List A0))++y43)) (fun _=>0) h)
 refine br ?_ ?_
 refine ar (ap A9 (List.map A9 s2) s2 ([[iA (21),iA (0),iA (0),AV.sl 3 (List.map At y13.1),AV.sl 3 [],bA false,iA (IntKind.i64.wrap ((IntKind.i64.wrap ((IntKind.i64.wrap (A1+((s2.length:Nat):Int)))+2))+y19))]]) ([(⟨21,0,0,y13.1,([]:List OpS),false,IntKind.i64.wrap ((IntKind.i64.wrap ((IntKind.i64.wrap (A1+((s2.length:Nat):Int)))+2))+y19)⟩:A0)]:List A0)) ?_
 refine cr hc (fun _ h=>Bv h) ?_;intro y50
 refine ar (ap A9 (List.map A9 (s2++([(⟨21,0,0,y13.1,([]:List OpS),false,IntKind.i64.wrap ((IntKind.i64.wrap ((IntKind.i64.wrap (A1+((s2.length:Nat):Int)))+2))+y19)⟩:A0)]:List A0))) (s2++([(⟨21,0,0,y13.1,([]:List OpS),false,IntKind.i64.wrap ((IntKind.i64.wrap ((IntKind.i64.wrap (A1+((s2.length:Nat):Int)))+2))+y19)⟩:A0)]:List A0)) (List.map A9 y50) y50) ?_
 refine ar (ap A9 (List.map A9 ((s2++([(⟨21,0,0,y13.1,([]:List OpS),false,IntKind.i64.wrap ((IntKind.i64.wrap ((IntKind.i64.wrap (A1+((s2.length:Nat):Int)))+2))+y19)⟩:A0)]:List A0))++y50)) ((s2++([(⟨21,0,0,y13.1,([]:List OpS),false,IntKind.i64.wrap ((IntKind.i64.wrap ((IntKind.i64.wrap (A1+((s2.length:Nat):Int)))+2))+y19)⟩:A0)]:List A0))++y50) ([[iA (20),iA (0),iA (0),AV.sl 3 [],AV.sl 3 [],bA false,iA (IntKind.i64.wrap (A1+((s2.length:Nat):Int)))]]) ([(⟨20,0,0,([]:List OpS),([]:List OpS),false,IntKind.i64.wrap (A1+((s2.length:Nat):Int))⟩:A0)]:List A0)) ?_
 exact fun h=>cq (hcont8 (IntKind.i64.wrap ((IntKind.i64.wrap ((IntKind.i64.wrap (s1+1))+x12.A7))+x12.Ae),(((s2++([(⟨21,0,0,y13.1,([]:List OpS),false,IntKind.i64.wrap ((IntKind.i64.wrap ((IntKind.i64.wrap (A1+((s2.length:Nat):Int)))+2))+y19)⟩:A0)]:List A0))++y50)++([(⟨20,0,0,([]:List OpS),([]:List OpS),false,IntKind.i64.wrap (A1+((s2.length:Nat):Int))⟩:A0)]:List A0))) (fun _=>0) h)
 refine br ?_ ?_
 refine cr hc (fun _ h=>Bv h) ?_;intro y57
 refine ar (ap A9 (List.map A9 s2) s2 (List.map A9 y57) y57) ?_
 refine ar (ap A9 (List.map A9 (s2++y57)) (s2++y57) ([[iA (20),iA (0),iA (0),AV.sl 3 [],AV.sl 3 [],bA false,iA (IntKind.i64.wrap (A1+((s2.length:Nat):Int)))]]) ([(⟨20,0,0,([]:List OpS),([]:List OpS),false,IntKind.i64.wrap (A1+((s2.length:Nat):Int))⟩:A0)]:List A0)) ?_
 exact fun h=>cq (hcont8 (IntKind.i64.wrap ((IntKind.i64.wrap ((IntKind.i64.wrap (s1+1))+x12.A7))+x12.Ae),((s2++y57)++([(⟨20,0,0,([]:List OpS),([]:List OpS),false,IntKind.i64.wrap (A1+((s2.length:Nat):Int))⟩:A0)]:List A0))) (fun _=>0) h)
 refine ar (ap A9 (List.map A9 s2) s2 ([[iA x12.Ax,iA (0),iA (0),AV.sl 3 (List.map At y13.1),AV.sl 3 (List.map At y15.1),bA x12.Ct,iA (0)]]) ([(⟨x12.Ax,0,0,y13.1,y15.1,x12.Ct,0⟩:A0)]:List A0)) ?_
 exact fun h=>cq (hcont8 (IntKind.i64.wrap ((IntKind.i64.wrap ((IntKind.i64.wrap (s1+1))+x12.A7))+x12.Ae),(s2++([(⟨x12.Ax,0,0,y13.1,y15.1,x12.Ct,0⟩:A0)]:List A0))) (fun _=>0) h)
 refine ca hc (fun _ h=>Br h) ?_;intro y65
 refine ca hc (fun _ h=>Cc h) ?_;intro y67
 refine ca hc (fun _ h=>Cc h) ?_;intro y69
 refine br ?_ ?_
 exact fun h=>cq (hcont8 (IntKind.i64.wrap ((IntKind.i64.wrap ((IntKind.i64.wrap (s1+1))+x12.A7))+x12.Ae),s2) (fun _=>0) h)
 refine br ?_ ?_
 refine ar (ap A9 (List.map A9 s2) s2 ([[iA (20),iA (0),iA (0),AV.sl 3 [],AV.sl 3 [],bA false,iA Ap]]) ([(⟨20,0,0,([]:List OpS),([]:List OpS),false,Ap⟩:A0)]:List A0)) ?_
 exact fun h=>cq (hcont8 (IntKind.i64.wrap ((IntKind.i64.wrap ((IntKind.i64.wrap (s1+1))+x12.A7))+x12.Ae),(s2++([(⟨20,0,0,([]:List OpS),([]:List OpS),false,Ap⟩:A0)]:List A0))) (fun _=>0) h)
 refine br ?_ ?_
 refine br ?_ ?_
 refine ar (ap A9 (List.map A9 s2) s2 ([[iA (21),iA (0),iA (0),AV.sl 3 (List.map At y13.1),AV.sl 3 [],bA false,iA (IntKind.i64.wrap ((IntKind.i64.wrap ((IntKind.i64.wrap (A1+((s2.length:Nat):Int)))+1))+y67))]]) ([(⟨21,0,0,y13.1,([]:List OpS),false,IntKind.i64.wrap ((IntKind.i64.wrap ((IntKind.i64.wrap (A1+((s2.length:Nat):Int)))+1))+y67)⟩:A0)]:List A0)) ?_
 refine cr hc (fun _ h=>Bv h) ?_;intro y79
 refine ar (ap A9 (List.map A9 (s2++([(⟨21,0,0,y13.1,([]:List OpS),false,IntKind.i64.wrap ((IntKind.i64.wrap ((IntKind.i64.wrap (A1+((s2.length:Nat):Int)))+1))+y67)⟩:A0)]:List A0))) (s2++([(⟨21,0,0,y13.1,([]:List OpS),false,IntKind.i64.wrap ((IntKind.i64.wrap ((IntKind.i64.wrap (A1+((s2.length:Nat):Int)))+1))+y67)⟩:A0)]:List A0)) (List.map A9 y79) y79) ?_
 exact fun h=>cq (hcont8 (IntKind.i64.wrap ((IntKind.i64.wrap ((IntKind.i64.wrap (s1+1))+x12.A7))+x12.Ae),((s2++([(⟨21,0,0,y13.1,([]:List OpS),false,IntKind.i64.wrap ((IntKind.i64.wrap ((IntKind.i64.wrap (A1+((s2.length:Nat):Int)))+1))+y67)⟩:A0)]:List A0))++y79)) (fun _=>0) h)
 refine ar (ap A9 (List.map A9 s2) s2 ([[iA (21),iA (0),iA (0),AV.sl 3 (List.map At y13.1),AV.sl 3 [],bA false,iA (IntKind.i64.wrap ((IntKind.i64.wrap ((IntKind.i64.wrap (A1+((s2.length:Nat):Int)))+2))+y67))]]) ([(⟨21,0,0,y13.1,([]:List OpS),false,IntKind.i64.wrap ((IntKind.i64.wrap ((IntKind.i64.wrap (A1+((s2.length:Nat):Int)))+2))+y67)⟩:A0)]:List A0)) ?_
 refine cr hc (fun _ h=>Bv h) ?_;intro y85
 refine ar (ap A9 (List.map A9 (s2++([(⟨21,0,0,y13.1,([]:List OpS),false,IntKind.i64.wrap ((IntKind.i64.wrap ((IntKind.i64.wrap (A1+((s2.length:Nat):Int)))+2))+y67)⟩:A0)]:List A0))) (s2++([(⟨21,0,0,y13.1,([]:List OpS),false,IntKind.i64.wrap ((IntKind.i64.wrap ((IntKind.i64.wrap (A1+((s2.length:Nat):Int)))+2))+y67)⟩:A0)]:List A0)) (List.map A9 y85) y85) ?_
 refine ar (ap A9 (List.map A9 ((s2++([(⟨21,0,0,y13.1,([]:List OpS),false,IntKind.i64.wrap ((IntKind.i64.wrap ((IntKind.i64.wrap (A1+((s2.length:Nat):Int)))+2))+y67)⟩:A0)]:List A0))++y85)) ((s2++([(⟨21,0,0,y13.1,([]:List OpS),false,IntKind.i64.wrap ((IntKind.i64.wrap ((IntKind.i64.wrap (A1+((s2.length:Nat):Int)))+2))+y67)⟩:A0)]:List A0))++y85) ([[iA (20),iA (0),iA (0),AV.sl 3 [],AV.sl 3 [],bA false,iA (IntKind.i64.wrap ((IntKind.i64.wrap ((IntKind.i64.wrap ((IntKind.i64.wrap (A1+((s2.length:Nat):Int)))+2))+y67))+y69))]]) ([(⟨20,0,0,([]:List OpS),([]:List OpS),false,IntKind.i64.wrap ((IntKind.i64.wrap ((IntKind.i64.wrap ((IntKind.i64.wrap (A1+((s2.length:Nat):Int)))+2))+y67))+y69)⟩:A0)]:List A0)) ?_
 refine cr hc (fun _ h=>Bv h) ?_;intro y91
 refine ar (ap A9 (List.map A9 (((s2++([(⟨21,0,0,y13.1,([]:List OpS),false,IntKind.i64.wrap ((IntKind.i64.wrap ((IntKind.i64.wrap (A1+((s2.length:Nat):Int)))+2))+y67)⟩:A0)]:List A0))++y85)++([(⟨20,0,0,([]:List OpS),([]:List OpS),false,IntKind.i64.wrap ((IntKind.i64.wrap ((IntKind.i64.wrap ((IntKind.i64.wrap (A1+((s2.length:Nat):Int)))+2))+y67))+y69)⟩:A0)]:List A0))) (((s2++([(⟨21,0,0,y13.1,([]:List OpS),false,IntKind.i64.wrap ((IntKind.i64.wrap ((IntKind.i64.wrap (A1+((s2.length:Nat):Int)))+2))+y67)⟩:A0)]:List A0))++y85)++([(⟨20,0,0,([]:List OpS),([]:List OpS),false,IntKind.i64.wrap ((IntKind.i64.wrap ((IntKind.i64.wrap ((IntKind.i64.wrap (A1+((s2.length:Nat):Int)))+2))+y67))+y69)⟩:A0)]:List A0)) (List.map A9 y91) y91) ?_
 exact fun h=>cq (hcont8 (IntKind.i64.wrap ((IntKind.i64.wrap ((IntKind.i64.wrap (s1+1))+x12.A7))+x12.Ae),((((s2++([(⟨21,0,0,y13.1,([]:List OpS),false,IntKind.i64.wrap ((IntKind.i64.wrap ((IntKind.i64.wrap (A1+((s2.length:Nat):Int)))+2))+y67)⟩:A0)]:List A0))++y85)++([(⟨20,0,0,([]:List OpS),([]:List OpS),false,IntKind.i64.wrap ((IntKind.i64.wrap ((IntKind.i64.wrap ((IntKind.i64.wrap (A1+((s2.length:Nat):Int)))+2))+y67))+y69)⟩:A0)]:List A0))++y91)) (fun _=>0) h)
 refine br ?_ ?_
 refine ar (ap A9 (List.map A9 s2) s2 ([[iA (21),iA (0),iA (0),AV.sl 3 (List.map At y13.1),AV.sl 3 [],bA false,iA (IntKind.i64.wrap ((IntKind.i64.wrap ((IntKind.i64.wrap (A1+((s2.length:Nat):Int)))+2))+y67))]]) ([(⟨21,0,0,y13.1,([]:List OpS),false,IntKind.i64.wrap ((IntKind.i64.wrap ((IntKind.i64.wrap (A1+((s2.length:Nat):Int)))+2))+y67)⟩:A0)]:List A0)) ?_
 refine cr hc (fun _ h=>Bv h) ?_;intro y98
 refine ar (ap A9 (List.map A9 (s2++([(⟨21,0,0,y13.1,([]:List OpS),false,IntKind.i64.wrap ((IntKind.i64.wrap ((IntKind.i64.wrap (A1+((s2.length:Nat):Int)))+2))+y67)⟩:A0)]:List A0))) (s2++([(⟨21,0,0,y13.1,([]:List OpS),false,IntKind.i64.wrap ((IntKind.i64.wrap ((IntKind.i64.wrap (A1+((s2.length:Nat):Int)))+2))+y67)⟩:A0)]:List A0)) (List.map A9 y98) y98) ?_
 refine ar (ap A9 (List.map A9 ((s2++([(⟨21,0,0,y13.1,([]:List OpS),false,IntKind.i64.wrap ((IntKind.i64.wrap ((IntKind.i64.wrap (A1+((s2.length:Nat):Int)))+2))+y67)⟩:A0)]:List A0))++y98)) ((s2++([(⟨21,0,0,y13.1,([]:List OpS),false,IntKind.i64.wrap ((IntKind.i64.wrap ((IntKind.i64.wrap (A1+((s2.length:Nat):Int)))+2))+y67)⟩:A0)]:List A0))++y98) ([[iA (20),iA (0),iA (0),AV.sl 3 [],AV.sl 3 [],bA false,iA (IntKind.i64.wrap (A1+((s2.length:Nat):Int)))]]) ([(⟨20,0,0,([]:List OpS),([]:List OpS),false,IntKind.i64.wrap (A1+((s2.length:Nat):Int))⟩:A0)]:List A0)) ?_
 exact fun h=>cq (hcont8 (IntKind.i64.wrap ((IntKind.i64.wrap ((IntKind.i64.wrap (s1+1))+x12.A7))+x12.Ae),(((s2++([(⟨21,0,0,y13.1,([]:List OpS),false,IntKind.i64.wrap ((IntKind.i64.wrap ((IntKind.i64.wrap (A1+((s2.length:Nat):Int)))+2))+y67)⟩:A0)]:List A0))++y98)++([(⟨20,0,0,([]:List OpS),([]:List OpS),false,IntKind.i64.wrap (A1+((s2.length:Nat):Int))⟩:A0)]:List A0))) (fun _=>0) h)
 refine br ?_ ?_
 refine cr hc (fun _ h=>Bv h) ?_;intro y105
 refine ar (ap A9 (List.map A9 s2) s2 (List.map A9 y105) y105) ?_
 refine ar (ap A9 (List.map A9 (s2++y105)) (s2++y105) ([[iA (20),iA (0),iA (0),AV.sl 3 [],AV.sl 3 [],bA false,iA (IntKind.i64.wrap (A1+((s2.length:Nat):Int)))]]) ([(⟨20,0,0,([]:List OpS),([]:List OpS),false,IntKind.i64.wrap (A1+((s2.length:Nat):Int))⟩:A0)]:List A0)) ?_
 exact fun h=>cq (hcont8 (IntKind.i64.wrap ((IntKind.i64.wrap ((IntKind.i64.wrap (s1+1))+x12.A7))+x12.Ae),((s2++y105)++([(⟨20,0,0,([]:List OpS),([]:List OpS),false,IntKind.i64.wrap (A1+((s2.length:Nat):Int))⟩:A0)]:List A0))) (fun _=>0) h)
 refine ar (ap A9 (List.map A9 s2) s2 ([[iA x12.Ax,iA (0),iA y65,AV.sl 3 (List.map At y13.1),AV.sl 3 (List.map At y15.1),bA x12.Ct,iA (0)]]) ([(⟨x12.Ax,0,y65,y13.1,y15.1,x12.Ct,0⟩:A0)]:List A0)) ?_
 exact fun h=>cq (hcont8 (IntKind.i64.wrap ((IntKind.i64.wrap ((IntKind.i64.wrap (s1+1))+x12.A7))+x12.Ae),(s2++([(⟨x12.Ax,0,y65,y13.1,y15.1,x12.Ct,0⟩:A0)]:List A0))) (fun _=>0) h)
 refine ca hc (fun _ h=>Br h) ?_;intro y113
 refine br ?_ ?_
 refine ca hc (fun _ h=>Cc h) ?_;intro y116
 refine ca hc (fun _ h=>Cc h) ?_;intro y118
 refine br ?_ ?_
 exact fun h=>cq (hcont8 (IntKind.i64.wrap ((IntKind.i64.wrap ((IntKind.i64.wrap (s1+1))+x12.A7))+x12.Ae),s2) (fun _=>0) h)
 refine br ?_ ?_
 refine ar (ap A9 (List.map A9 s2) s2 ([[iA (20),iA (0),iA (0),AV.sl 3 [],AV.sl 3 [],bA false,iA Ap]]) ([(⟨20,0,0,([]:List OpS),([]:List OpS),false,Ap⟩:A0)]:List A0)) ?_
 exact fun h=>cq (hcont8 (IntKind.i64.wrap ((IntKind.i64.wrap ((IntKind.i64.wrap (s1+1))+x12.A7))+x12.Ae),(s2++([(⟨20,0,0,([]:List OpS),([]:List OpS),false,Ap⟩:A0)]:List A0))) (fun _=>0) h)
 refine br ?_ ?_
 refine br ?_ ?_
 refine ar (ap A9 (List.map A9 s2) s2 ([[iA (21),iA (0),iA (0),AV.sl 3 (List.map At y13.1),AV.sl 3 [],bA false,iA (IntKind.i64.wrap ((IntKind.i64.wrap ((IntKind.i64.wrap (A1+((s2.length:Nat):Int)))+1))+y116))]]) ([(⟨21,0,0,y13.1,([]:List OpS),false,IntKind.i64.wrap ((IntKind.i64.wrap ((IntKind.i64.wrap (A1+((s2.length:Nat):Int)))+1))+y116)⟩:A0)]:List A0)) ?_
 refine cr hc (fun _ h=>Bv h) ?_;intro y128
 refine ar (ap A9 (List.map A9 (s2++([(⟨21,0,0,y13.1,([]:List OpS),false,IntKind.i64.wrap ((IntKind.i64.wrap ((IntKind.i64.wrap (A1+((s2.length:Nat):Int)))+1))+y116)⟩:A0)]:List A0))) (s2++([(⟨21,0,0,y13.1,([]:List OpS),false,IntKind.i64.wrap ((IntKind.i64.wrap ((IntKind.i64.wrap (A1+((s2.length:Nat):Int)))+1))+y116)⟩:A0)]:List A0)) (List.map A9 y128) y128) ?_
 exact fun h=>cq (hcont8 (IntKind.i64.wrap ((IntKind.i64.wrap ((IntKind.i64.wrap (s1+1))+x12.A7))+x12.Ae),((s2++([(⟨21,0,0,y13.1,([]:List OpS),false,IntKind.i64.wrap ((IntKind.i64.wrap ((IntKind.i64.wrap (A1+((s2.length:Nat):Int)))+1))+y116)⟩:A0)]:List A0))++y128)) (fun _=>0) h)
 refine ar (ap A9 (List.map A9 s2) s2 ([[iA (21),iA (0),iA (0),AV.sl 3 (List.map At y13.1),AV.sl 3 [],bA false,iA (IntKind.i64.wrap ((IntKind.i64.wrap ((IntKind.i64.wrap (A1+((s2.length:Nat):Int)))+2))+y116))]]) ([(⟨21,0,0,y13.1,([]:List OpS),false,IntKind.i64.wrap ((IntKind.i64.wrap ((IntKind.i64.wrap (A1+((s2.length:Nat):Int)))+2))+y116)⟩:A0)]:List A0)) ?_
 refine cr hc (fun _ h=>Bv h) ?_;intro y134
 refine ar (ap A9 (List.map A9 (s2++([(⟨21,0,0,y13.1,([]:List OpS),false,IntKind.i64.wrap ((IntKind.i64.wrap ((IntKind.i64.wrap (A1+((s2.length:Nat):Int)))+2))+y116)⟩:A0)]:List A0))) (s2++([(⟨21,0,0,y13.1,([]:List OpS),false,IntKind.i64.wrap ((IntKind.i64.wrap ((IntKind.i64.wrap (A1+((s2.length:Nat):Int)))+2))+y116)⟩:A0)]:List A0)) (List.map A9 y134) y134) ?_
 refine ar (ap A9 (List.map A9 ((s2++([(⟨21,0,0,y13.1,([]:List OpS),false,IntKind.i64.wrap ((IntKind.i64.wrap ((IntKind.i64.wrap (A1+((s2.length:Nat):Int)))+2))+y116)⟩:A0)]:List A0))++y134)) ((s2++([(⟨21,0,0,y13.1,([]:List OpS),false,IntKind.i64.wrap ((IntKind.i64.wrap ((IntKind.i64.wrap (A1+((s2.length:Nat):Int)))+2))+y116)⟩:A0)]:List A0))++y134) ([[iA (20),iA (0),iA (0),AV.sl 3 [],AV.sl 3 [],bA false,iA (IntKind.i64.wrap ((IntKind.i64.wrap ((IntKind.i64.wrap ((IntKind.i64.wrap (A1+((s2.length:Nat):Int)))+2))+y116))+y118))]]) ([(⟨20,0,0,([]:List OpS),([]:List OpS),false,IntKind.i64.wrap ((IntKind.i64.wrap ((IntKind.i64.wrap ((IntKind.i64.wrap (A1+((s2.length:Nat):Int)))+2))+y116))+y118)⟩:A0)]:List A0)) ?_
 refine cr hc (fun _ h=>Bv h) ?_;intro y140
 refine ar (ap A9 (List.map A9 (((s2++([(⟨21,0,0,y13.1,([]:List OpS),false,IntKind.i64.wrap ((IntKind.i64.wrap ((IntKind.i64.wrap (A1+((s2.length:Nat):Int)))+2))+y116)⟩:A0)]:List A0))++y134)++([(⟨20,0,0,([]:List OpS),([]:List OpS),false,IntKind.i64.wrap ((IntKind.i64.wrap ((IntKind.i64.wrap ((IntKind.i64.wrap (A1+((s2.length:Nat):Int)))+2))+y116))+y118)⟩:A0)]:List A0))) (((s2++([(⟨21,0,0,y13.1,([]:List OpS),false,IntKind.i64.wrap ((IntKind.i64.wrap ((IntKind.i64.wrap (A1+((s2.length:Nat):Int)))+2))+y116)⟩:A0)]:List A0))++y134)++([(⟨20,0,0,([]:List OpS),([]:List OpS),false,IntKind.i64.wrap ((IntKind.i64.wrap ((IntKind.i64.wrap ((IntKind.i64.wrap (A1+((s2.length:Nat):Int)))+2))+y116))+y118)⟩:A0)]:List A0)) (List.map A9 y140) y140) ?_
 exact fun h=>cq (hcont8 (IntKind.i64.wrap ((IntKind.i64.wrap ((IntKind.i64.wrap (s1+1))+x12.A7))+x12.Ae),((((s2++([(⟨21,0,0,y13.1,([]:List OpS),false,IntKind.i64.wrap ((IntKind.i64.wrap ((IntKind.i64.wrap (A1+((s2.length:Nat):Int)))+2))+y116)⟩:A0)]:List A0))++y134)++([(⟨20,0,0,([]:List OpS),([]:List OpS),false,IntKind.i64.wrap ((IntKind.i64.wrap ((IntKind.i64.wrap ((IntKind.i64.wrap (A1+((s2.length:Nat):Int)))+2))+y116))+y118)⟩:A0)]:List A0))++y140)) (fun _=>0) h)
 refine br ?_ ?_
 refine ar (ap A9 (List.map A9 s2) s2 ([[iA (21),iA (0),iA (0),AV.sl 3 (List.map At y13.1),AV.sl 3 [],bA false,iA (IntKind.i64.wrap ((IntKind.i64.wrap ((IntKind.i64.wrap (A1+((s2.length:Nat):Int)))+2))+y116))]]) ([(⟨21,0,0,y13.1,([]:List OpS),false,IntKind.i64.wrap ((IntKind.i64.wrap ((IntKind.i64.wrap (A1+((s2.length:Nat):Int)))+2))+y116)⟩:A0)]:List A0)) ?_
 refine cr hc (fun _ h=>Bv h) ?_;intro y147
 refine ar (ap A9 (List.map A9 (s2++([(⟨21,0,0,y13.1,([]:List OpS),false,IntKind.i64.wrap ((IntKind.i64.wrap ((IntKind.i64.wrap (A1+((s2.length:Nat):Int)))+2))+y116)⟩:A0)]:List A0))) (s2++([(⟨21,0,0,y13.1,([]:List OpS),false,IntKind.i64.wrap ((IntKind.i64.wrap ((IntKind.i64.wrap (A1+((s2.length:Nat):Int)))+2))+y116)⟩:A0)]:List A0)) (List.map A9 y147) y147) ?_
 refine ar (ap A9 (List.map A9 ((s2++([(⟨21,0,0,y13.1,([]:List OpS),false,IntKind.i64.wrap ((IntKind.i64.wrap ((IntKind.i64.wrap (A1+((s2.length:Nat):Int)))+2))+y116)⟩:A0)]:List A0))++y147)) ((s2++([(⟨21,0,0,y13.1,([]:List OpS),false,IntKind.i64.wrap ((IntKind.i64.wrap ((IntKind.i64.wrap (A1+((s2.length:Nat):Int)))+2))+y116)⟩:A0)]:List A0))++y147) ([[iA (20),iA (0),iA (0),AV.sl 3 [],AV.sl 3 [],bA false,iA (IntKind.i64.wrap (A1+((s2.length:Nat):Int)))]]) ([(⟨20,0,0,([]:List OpS),([]:List OpS),false,IntKind.i64.wrap (A1+((s2.length:Nat):Int))⟩:A0)]:List A0)) ?_
 exact fun h=>cq (hcont8 (IntKind.i64.wrap ((IntKind.i64.wrap ((IntKind.i64.wrap (s1+1))+x12.A7))+x12.Ae),(((s2++([(⟨21,0,0,y13.1,([]:List OpS),false,IntKind.i64.wrap ((IntKind.i64.wrap ((IntKind.i64.wrap (A1+((s2.length:Nat):Int)))+2))+y116)⟩:A0)]:List A0))++y147)++([(⟨20,0,0,([]:List OpS),([]:List OpS),false,IntKind.i64.wrap (A1+((s2.length:Nat):Int))⟩:A0)]:List A0))) (fun _=>0) h)
 refine br ?_ ?_
 refine cr hc (fun _ h=>Bv h) ?_;intro y154
 refine ar (ap A9 (List.map A9 s2) s2 (List.map A9 y154) y154) ?_
 refine ar (ap A9 (List.map A9 (s2++y154)) (s2++y154) ([[iA (20),iA (0),iA (0),AV.sl 3 [],AV.sl 3 [],bA false,iA (IntKind.i64.wrap (A1+((s2.length:Nat):Int)))]]) ([(⟨20,0,0,([]:List OpS),([]:List OpS),false,IntKind.i64.wrap (A1+((s2.length:Nat):Int))⟩:A0)]:List A0)) ?_
 exact fun h=>cq (hcont8 (IntKind.i64.wrap ((IntKind.i64.wrap ((IntKind.i64.wrap (s1+1))+x12.A7))+x12.Ae),((s2++y154)++([(⟨20,0,0,([]:List OpS),([]:List OpS),false,IntKind.i64.wrap (A1+((s2.length:Nat):Int))⟩:A0)]:List A0))) (fun _=>0) h)
 refine ar (ap A9 (List.map A9 s2) s2 ([[iA x12.Ax,iA y113,iA (0),AV.sl 3 (List.map At y13.1),AV.sl 3 (List.map At y15.1),bA x12.Ct,iA (0)]]) ([(⟨x12.Ax,y113,0,y13.1,y15.1,x12.Ct,0⟩:A0)]:List A0)) ?_
 exact fun h=>cq (hcont8 (IntKind.i64.wrap ((IntKind.i64.wrap ((IntKind.i64.wrap (s1+1))+x12.A7))+x12.Ae),(s2++([(⟨x12.Ax,y113,0,y13.1,y15.1,x12.Ct,0⟩:A0)]:List A0))) (fun _=>0) h)
 refine ca hc (fun _ h=>Br h) ?_;intro y162
 refine ca hc (fun _ h=>Cc h) ?_;intro y164
 refine ca hc (fun _ h=>Cc h) ?_;intro y166
 refine br ?_ ?_
 exact fun h=>cq (hcont8 (IntKind.i64.wrap ((IntKind.i64.wrap ((IntKind.i64.wrap (s1+1))+x12.A7))+x12.Ae),s2) (fun _=>0) h)
 refine br ?_ ?_
 refine ar (ap A9 (List.map A9 s2) s2 ([[iA (20),iA (0),iA (0),AV.sl 3 [],AV.sl 3 [],bA false,iA Ap]]) ([(⟨20,0,0,([]:List OpS),([]:List OpS),false,Ap⟩:A0)]:List A0)) ?_
 exact fun h=>cq (hcont8 (IntKind.i64.wrap ((IntKind.i64.wrap ((IntKind.i64.wrap (s1+1))+x12.A7))+x12.Ae),(s2++([(⟨20,0,0,([]:List OpS),([]:List OpS),false,Ap⟩:A0)]:List A0))) (fun _=>0) h)
 refine br ?_ ?_
 refine br ?_ ?_
 refine ar (ap A9 (List.map A9 s2) s2 ([[iA (21),iA (0),iA (0),AV.sl 3 (List.map At y13.1),AV.sl 3 [],bA false,iA (IntKind.i64.wrap ((IntKind.i64.wrap ((IntKind.i64.wrap (A1+((s2.length:Nat):Int)))+1))+y164))]]) ([(⟨21,0,0,y13.1,([]:List OpS),false,IntKind.i64.wrap ((IntKind.i64.wrap ((IntKind.i64.wrap (A1+((s2.length:Nat):Int)))+1))+y164)⟩:A0)]:List A0)) ?_
 refine cr hc (fun _ h=>Bv h) ?_;intro y176
 refine ar (ap A9 (List.map A9 (s2++([(⟨21,0,0,y13.1,([]:List OpS),false,IntKind.i64.wrap ((IntKind.i64.wrap ((IntKind.i64.wrap (A1+((s2.length:Nat):Int)))+1))+y164)⟩:A0)]:List A0))) (s2++([(⟨21,0,0,y13.1,([]:List OpS),false,IntKind.i64.wrap ((IntKind.i64.wrap ((IntKind.i64.wrap (A1+((s2.length:Nat):Int)))+1))+y164)⟩:A0)]:List A0)) (List.map A9 y176) y176) ?_
 exact fun h=>cq (hcont8 (IntKind.i64.wrap ((IntKind.i64.wrap ((IntKind.i64.wrap (s1+1))+x12.A7))+x12.Ae),((s2++([(⟨21,0,0,y13.1,([]:List OpS),false,IntKind.i64.wrap ((IntKind.i64.wrap ((IntKind.i64.wrap (A1+((s2.length:Nat):Int)))+1))+y164)⟩:A0)]:List A0))++y176)) (fun _=>0) h)
 refine ar (ap A9 (List.map A9 s2) s2 ([[iA (21),iA (0),iA (0),AV.sl 3 (List.map At y13.1),AV.sl 3 [],bA false,iA (IntKind.i64.wrap ((IntKind.i64.wrap ((IntKind.i64.wrap (A1+((s2.length:Nat):Int)))+2))+y164))]]) ([(⟨21,0,0,y13.1,([]:List OpS),false,IntKind.i64.wrap ((IntKind.i64.wrap ((IntKind.i64.wrap (A1+((s2.length:Nat):Int)))+2))+y164)⟩:A0)]:List A0)) ?_
 refine cr hc (fun _ h=>Bv h) ?_;intro y182
 refine ar (ap A9 (List.map A9 (s2++([(⟨21,0,0,y13.1,([]:List OpS),false,IntKind.i64.wrap ((IntKind.i64.wrap ((IntKind.i64.wrap (A1+((s2.length:Nat):Int)))+2))+y164)⟩:A0)]:List A0))) (s2++([(⟨21,0,0,y13.1,([]:List OpS),false,IntKind.i64.wrap ((IntKind.i64.wrap ((IntKind.i64.wrap (A1+((s2.length:Nat):Int)))+2))+y164)⟩:A0)]:List A0)) (List.map A9 y182) y182) ?_
 refine ar (ap A9 (List.map A9 ((s2++([(⟨21,0,0,y13.1,([]:List OpS),false,IntKind.i64.wrap ((IntKind.i64.wrap ((IntKind.i64.wrap (A1+((s2.length:Nat):Int)))+2))+y164)⟩:A0)]:List A0))++y182)) ((s2++([(⟨21,0,0,y13.1,([]:List OpS),false,IntKind.i64.wrap ((IntKind.i64.wrap ((IntKind.i64.wrap (A1+((s2.length:Nat):Int)))+2))+y164)⟩:A0)]:List A0))++y182) ([[iA (20),iA (0),iA (0),AV.sl 3 [],AV.sl 3 [],bA false,iA (IntKind.i64.wrap ((IntKind.i64.wrap ((IntKind.i64.wrap ((IntKind.i64.wrap (A1+((s2.length:Nat):Int)))+2))+y164))+y166))]]) ([(⟨20,0,0,([]:List OpS),([]:List OpS),false,IntKind.i64.wrap ((IntKind.i64.wrap ((IntKind.i64.wrap ((IntKind.i64.wrap (A1+((s2.length:Nat):Int)))+2))+y164))+y166)⟩:A0)]:List A0)) ?_
 refine cr hc (fun _ h=>Bv h) ?_;intro y188
 refine ar (ap A9 (List.map A9 (((s2++([(⟨21,0,0,y13.1,([]:List OpS),false,IntKind.i64.wrap ((IntKind.i64.wrap ((IntKind.i64.wrap (A1+((s2.length:Nat):Int)))+2))+y164)⟩:A0)]:List A0))++y182)++([(⟨20,0,0,([]:List OpS),([]:List OpS),false,IntKind.i64.wrap ((IntKind.i64.wrap ((IntKind.i64.wrap ((IntKind.i64.wrap (A1+((s2.length:Nat):Int)))+2))+y164))+y166)⟩:A0)]:List A0))) (((s2++([(⟨21,0,0,y13.1,([]:List OpS),false,IntKind.i64.wrap ((IntKind.i64.wrap ((IntKind.i64.wrap (A1+((s2.length:Nat):Int)))+2))+y164)⟩:A0)]:List A0))++y182)++([(⟨20,0,0,([]:List OpS),([]:List OpS),false,IntKind.i64.wrap ((IntKind.i64.wrap ((IntKind.i64.wrap ((IntKind.i64.wrap (A1+((s2.length:Nat):Int)))+2))+y164))+y166)⟩:A0)]:List A0)) (List.map A9 y188) y188) ?_
 exact fun h=>cq (hcont8 (IntKind.i64.wrap ((IntKind.i64.wrap ((IntKind.i64.wrap (s1+1))+x12.A7))+x12.Ae),((((s2++([(⟨21,0,0,y13.1,([]:List OpS),false,IntKind.i64.wrap ((IntKind.i64.wrap ((IntKind.i64.wrap (A1+((s2.length:Nat):Int)))+2))+y164)⟩:A0)]:List A0))++y182)++([(⟨20,0,0,([]:List OpS),([]:List OpS),false,IntKind.i64.wrap ((IntKind.i64.wrap ((IntKind.i64.wrap ((IntKind.i64.wrap (A1+((s2.length:Nat):Int)))+2))+y164))+y166)⟩:A0)]:List A0))++y188)) (fun _=>0) h)
 refine br ?_ ?_
 refine ar (ap A9 (List.map A9 s2) s2 ([[iA (21),iA (0),iA (0),AV.sl 3 (List.map At y13.1),AV.sl 3 [],bA false,iA (IntKind.i64.wrap ((IntKind.i64.wrap ((IntKind.i64.wrap (A1+((s2.length:Nat):Int)))+2))+y164))]]) ([(⟨21,0,0,y13.1,([]:List OpS),false,IntKind.i64.wrap ((IntKind.i64.wrap ((IntKind.i64.wrap (A1+((s2.length:Nat):Int)))+2))+y164)⟩:A0)]:List A0)) ?_
 refine cr hc (fun _ h=>Bv h) ?_;intro y195
 refine ar (ap A9 (List.map A9 (s2++([(⟨21,0,0,y13.1,([]:List OpS),false,IntKind.i64.wrap ((IntKind.i64.wrap ((IntKind.i64.wrap (A1+((s2.length:Nat):Int)))+2))+y164)⟩:A0)]:List A0))) (s2++([(⟨21,0,0,y13.1,([]:List OpS),false,IntKind.i64.wrap ((IntKind.i64.wrap ((IntKind.i64.wrap (A1+((s2.length:Nat):Int)))+2))+y164)⟩:A0)]:List A0)) (List.map A9 y195) y195) ?_
 refine ar (ap A9 (List.map A9 ((s2++([(⟨21,0,0,y13.1,([]:List OpS),false,IntKind.i64.wrap ((IntKind.i64.wrap ((IntKind.i64.wrap (A1+((s2.length:Nat):Int)))+2))+y164)⟩:A0)]:List A0))++y195)) ((s2++([(⟨21,0,0,y13.1,([]:List OpS),false,IntKind.i64.wrap ((IntKind.i64.wrap ((IntKind.i64.wrap (A1+((s2.length:Nat):Int)))+2))+y164)⟩:A0)]:List A0))++y195) ([[iA (20),iA (0),iA (0),AV.sl 3 [],AV.sl 3 [],bA false,iA (IntKind.i64.wrap (A1+((s2.length:Nat):Int)))]]) ([(⟨20,0,0,([]:List OpS),([]:List OpS),false,IntKind.i64.wrap (A1+((s2.length:Nat):Int))⟩:A0)]:List A0)) ?_
 exact fun h=>cq (hcont8 (IntKind.i64.wrap ((IntKind.i64.wrap ((IntKind.i64.wrap (s1+1))+x12.A7))+x12.Ae),(((s2++([(⟨21,0,0,y13.1,([]:List OpS),false,IntKind.i64.wrap ((IntKind.i64.wrap ((IntKind.i64.wrap (A1+((s2.length:Nat):Int)))+2))+y164)⟩:A0)]:List A0))++y195)++([(⟨20,0,0,([]:List OpS),([]:List OpS),false,IntKind.i64.wrap (A1+((s2.length:Nat):Int))⟩:A0)]:List A0))) (fun _=>0) h)
 refine br ?_ ?_
 refine cr hc (fun _ h=>Bv h) ?_;intro y202
 refine ar (ap A9 (List.map A9 s2) s2 (List.map A9 y202) y202) ?_
 refine ar (ap A9 (List.map A9 (s2++y202)) (s2++y202) ([[iA (20),iA (0),iA (0),AV.sl 3 [],AV.sl 3 [],bA false,iA (IntKind.i64.wrap (A1+((s2.length:Nat):Int)))]]) ([(⟨20,0,0,([]:List OpS),([]:List OpS),false,IntKind.i64.wrap (A1+((s2.length:Nat):Int))⟩:A0)]:List A0)) ?_
 exact fun h=>cq (hcont8 (IntKind.i64.wrap ((IntKind.i64.wrap ((IntKind.i64.wrap (s1+1))+x12.A7))+x12.Ae),((s2++y202)++([(⟨20,0,0,([]:List OpS),([]:List OpS),false,IntKind.i64.wrap (A1+((s2.length:Nat):Int))⟩:A0)]:List A0))) (fun _=>0) h)
 refine ar (ap A9 (List.map A9 s2) s2 ([[iA x12.Ax,iA y113,iA y162,AV.sl 3 (List.map At y13.1),AV.sl 3 (List.map At y15.1),bA x12.Ct,iA (0)]]) ([(⟨x12.Ax,y113,y162,y13.1,y15.1,x12.Ct,0⟩:A0)]:List A0)) ?_
 exact fun h=>cq (hcont8 (IntKind.i64.wrap ((IntKind.i64.wrap ((IntKind.i64.wrap (s1+1))+x12.A7))+x12.Ae),(s2++([(⟨x12.Ax,y113,y162,y13.1,y15.1,x12.Ct,0⟩:A0)]:List A0))) (fun _=>0) h)
 intro h;cases sj h
 exact kq (hr9 (fun _=>0))
 refine lrc ?_ ?_
 intro v e;subst e;cases sj h;rfl
 intro x211 a210 e;subst e
 dsimp only at h
 conv=>lhs;whnf
 revert h
 intro h;obtain rfl:=sj h
 rfl
theorem V2 {n:Nat} ⦃A4:(List A6)⦄ ⦃C8:(List (List UInt8))⦄ ⦃R7:(List (List UInt8))⦄ ⦃r:(List A0)⦄:Lz n A4 C8 R7=some r→CN n 14 [AV.sl 9 (List.map Am A4),AV.sl 1 (List.map Aw C8),AV.sl 1 (List.map Aw R7)] []=some (AV.sl 7 (List.map A9 r),[]):=by
 intro h;rcases n with _|n;cases h
 rw[Lz] at h
 refine A4a Try.func14 (by rfl) rfl rfl (As rfl) ?_
 intro call hc hcA;conv=>lhs;whnf
 revert h
 intro h
 refine Ak h ?_;clear h;intro y1 hy1 h
 have hk2:Xa Try.prog (F6 HH 14 (some 13)) call 29 [AV.sl 9 (List.map Am A4),iA (0),iA (((A4.length:Nat):Int)),iA (0),iA (0),AV.sl 1 (List.map Aw C8),AV.sl 1 (List.map Aw R7)]=some (AV.row 0 (List.length y1),[Ob.row 64 7 (List.map A9 y1)]):=(hcA _ _ _).trans (Zo hy1)
 try simp only[ls]
 simp only[hk2]
 conv=>lhs;whnf
 revert h
 refine ar (ap A9 (List.map A9 y1) y1 ([[iA (22),iA (0),iA (0),AV.sl 3 [],AV.sl 3 [],bA false,iA (0)]]) ([(⟨22,0,0,([]:List OpS),([]:List OpS),false,0⟩:A0)]:List A0)) ?_
 intro h;cases sj h
 try simp only[ls]
 exact fq (y:=some (AV.sl 7 (List.take (List.length ((y1++([(⟨22,0,0,([]:List OpS),([]:List OpS),false,0⟩:A0)]:List A0)))) (List.map A9 (y1++([(⟨22,0,0,([]:List OpS),([]:List OpS),false,0⟩:A0)]:List A0)))),[]))
theorem S9 {n:Nat} ⦃A5:Aq⦄ ⦃r:(Kf×Int×Int)⦄:H3 n A5=some r→CN n 5 [AV.agg [iA A5.B8,AV.sl 3 (List.map Ad A5.B4),AV.sl 4 (List.map Ab A5.An),AV.sl 3 (List.map Ac A5.Au)]] []=some (AV.tup [AV.agg [iA (r.1.mod),AV.sl 1 (List.map Cf (r.1.init)),AV.sl 1 (List.map Cf (r.1.regs)),AV.sl 1 (List.map I0 (r.1.code))],iA r.2.1,iA r.2.2],[]):=by
 intro h;rcases n with _|n;cases h
 rw[H3] at h
 refine Ah Try.func5 (by rfl) rfl rfl (As rfl) ?_
 intro call hc;conv=>lhs;whnf
 revert h
 refine ca hc (fun _ h=>X4 h) ?_;intro y1
 refine br ?_ ?_
 exact rz
 intro h;refine Ak h ?_;clear h;intro o13 ho13 h
 refine lq (σ:=(Int×(List Int))) (τ:=(List Int)) (ν:=(Kf×Int×Int)) 0 (fun(s4,s5) a7=>B2 75 [(1,AV.ptr 0 0),(2,AV.ptr 1 0),(7,AV.ptr 2 0),(8,iA s4)]) (fun(s4,s5) a7=>[Ob.var 26 [iA A5.B8,AV.sl 3 (List.map Ad A5.B4),AV.sl 4 (List.map Ab A5.An),AV.sl 3 (List.map Ac A5.Au)],Ob.var 33 [iA (0),AV.row 3 (List.length (([]:List Int))),AV.row 4 (List.length (([]:List Int))),AV.row 5 (List.length (([]:List (List A0))))],Ob.var 33 [iA A5.B8,AV.row 6 (List.length s5),AV.row 7 (List.length (([]:List Int))),AV.row 8 (List.length (([]:List (List A0))))],Ob.row 3 1 ([]),Ob.row 3 1 ([]),Ob.row 37 1 ([]),Ob.row 3 1 (List.map Cf s5),Ob.row 3 1 ([]),Ob.row 37 1 ([])]) (fun x19 a18=>B2 75 [(1,AV.ptr 0 0),(2,AV.ptr 1 0),(7,AV.ptr 2 0)]) (fun x19 a18=>[Ob.var 26 [iA A5.B8,AV.sl 3 (List.map Ad A5.B4),AV.sl 4 (List.map Ab A5.An),AV.sl 3 (List.map Ac A5.Au)],Ob.var 33 [iA (0),AV.row 3 (List.length (([]:List Int))),AV.row 4 (List.length (([]:List Int))),AV.row 5 (List.length (([]:List (List A0))))],Ob.var 33 [iA A5.B8,AV.row 6 (List.length x19),AV.row 7 (List.length (([]:List Int))),AV.row 8 (List.length (([]:List (List A0))))],Ob.row 3 1 ([]),Ob.row 3 1 ([]),Ob.row 37 1 ([]),Ob.row 3 1 (List.map Cf x19),Ob.row 3 1 ([]),Ob.row 37 1 ([])]) (fun v=>(AV.tup [AV.agg [iA (v.1.mod),AV.sl 1 (List.map Cf (v.1.init)),AV.sl 1 (List.map Cf (v.1.regs)),AV.sl 1 (List.map I0 (v.1.code))],iA v.2.1,iA v.2.2],[])) (fun k s=>Hi n A5 k s.1 s.2) (fun s=>rfl) o13 n (0,([]:List Int)) (fun _=>0) ho13 ?_ ?_
 intro k6 ss a7 K8 cont9 hK10 hcont11 h hr12
 obtain⟨s4,s5⟩:=ss
 replace h:Hi n A5 (k6+1) s4 s5=some o13:=h
 rw[Hi] at h
 conv=>lhs;whnf
 revert h
 refine br ?_ ?_
 refine ix ?_;intro x15
 refine ar (ap Cf (List.map Cf s5) s5 ([[iA x15.De]]) ([x15.De]:List Int)) ?_
 exact fun h=>cq (hcont11 (IntKind.i64.wrap (s4+1),(s5++([x15.De]:List Int))) (fun _=>0) h)
 intro h;cases sj h
 exact kq (hr12 (fun _=>0))
 refine lrc ?_ ?_
 intro v e;subst e;cases sj h;rfl
 intro x19 a18 e;subst e
 dsimp only at h
 conv=>lhs;whnf
 revert h
 intro h;refine Ak h ?_;clear h;intro o30 ho30 h
 refine lq (σ:=(Int×(List Int)×(List (List A0)))) (τ:=((List Int)×(List (List A0)))) (ν:=(Kf×Int×Int)) 2 (fun(s20,s21,s22) a24=>B2 75 [(1,AV.ptr 0 0),(2,AV.ptr 1 0),(7,AV.ptr 2 0),(9,iA s20)]) (fun(s20,s21,s22) a24=>[Ob.var 26 [iA A5.B8,AV.sl 3 (List.map Ad A5.B4),AV.sl 4 (List.map Ab A5.An),AV.sl 3 (List.map Ac A5.Au)],Ob.var 33 [iA (0),AV.row 3 (List.length (([]:List Int))),AV.row 4 (List.length (([]:List Int))),AV.row 5 (List.length (([]:List (List A0))))],Ob.var 33 [iA A5.B8,AV.row 6 (List.length x19),AV.row 7 (List.length s21),AV.row 8 (List.length s22)],Ob.row 3 1 ([]),Ob.row 3 1 ([]),Ob.row 37 1 ([]),Ob.row 3 1 (List.map Cf x19),Ob.row 3 1 (List.map Cf s21),Ob.row 37 1 (List.map I0 s22)]) (fun(x42,x43) a41=>B2 75 [(2,AV.ptr 1 0),(7,AV.ptr 2 0)]) (fun(x42,x43) a41=>[Ob.var 26 [iA A5.B8,AV.sl 3 (List.map Ad A5.B4),AV.sl 4 (List.map Ab A5.An),AV.sl 3 (List.map Ac A5.Au)],Ob.var 33 [iA (0),AV.row 3 (List.length (([]:List Int))),AV.row 4 (List.length (([]:List Int))),AV.row 5 (List.length (([]:List (List A0))))],Ob.var 33 [iA A5.B8,AV.row 6 (List.length x19),AV.row 7 (List.length x42),AV.row 8 (List.length x43)],Ob.row 3 1 ([]),Ob.row 3 1 ([]),Ob.row 37 1 ([]),Ob.row 3 1 (List.map Cf x19),Ob.row 3 1 (List.map Cf x42),Ob.row 37 1 (List.map I0 x43)]) (fun v=>(AV.tup [AV.agg [iA (v.1.mod),AV.sl 1 (List.map Cf (v.1.init)),AV.sl 1 (List.map Cf (v.1.regs)),AV.sl 1 (List.map I0 (v.1.code))],iA v.2.1,iA v.2.2],[])) (fun k s=>Hr n A5 k s.1 s.2.1 s.2.2) (fun s=>rfl) o30 n (0,([]:List Int),([]:List (List A0))) (fun _=>0) ho30 ?_ ?_
 intro k23 ss a24 K25 cont26 hK27 hcont28 h hr29
 obtain⟨s20,s21,s22⟩:=ss
 replace h:Hr n A5 (k23+1) s20 s21 s22=some o30:=h
 rw[Hr] at h
 conv=>lhs;whnf
 revert h
 refine br ?_ ?_
 refine ix ?_;intro x32
 refine ar (ap Cf (List.map Cf s21) s21 ([[iA (((x32.Bu.length:Nat):Int))]]) ([((x32.Bu.length:Nat):Int)]:List Int)) ?_
 refine ca hc (fun _ h=>El h) ?_;intro y35
 refine ca hc (fun _ h=>V2 h) ?_;intro y37
 refine ar (ap I0 (List.map I0 s22) s22 ([[AV.sl 7 (List.map A9 y37)]]) ([y37]:List (List A0))) ?_
 exact fun h=>cq (hcont28 (IntKind.i64.wrap (s20+1),(s21++([((x32.Bu.length:Nat):Int)]:List Int)),(s22++([y37]:List (List A0)))) (fun _=>0) h)
 intro h;cases sj h
 exact kq (hr29 (fun _=>0))
 refine lrc ?_ ?_
 intro v e;subst e;cases sj h;rfl
 intro t a41 e;subst e
 obtain⟨x42,x43⟩:=t
 dsimp only at h
 conv=>lhs;whnf
 revert h
 intro h;cases sj h
 try simp only[ls]
 exact fq (y:=some (AV.tup [AV.agg [iA A5.B8,AV.sl 1 (List.take (List.length x19) (List.map Cf x19)),AV.sl 1 (List.take (List.length x42) (List.map Cf x42)),AV.sl 1 (List.take (List.length x43) (List.map I0 x43))],iA (0),iA (0)],[]))
theorem Yb {n:Nat} ⦃F2:(List A0)⦄ ⦃Fn:(List A0)⦄ ⦃r:Bool⦄:P5 n F2 Fn=some r→CN n 6 [AV.sl 7 (List.map A9 F2),AV.sl 7 (List.map A9 Fn)] []=some (bA r,[]):=by
 intro h;rcases n with _|n;cases h
 rw[P5] at h
 refine Ah Try.func6 (by rfl) rfl rfl (As rfl) ?_
 intro call hc;conv=>lhs;whnf
 revert h
 refine br ?_ ?_
 exact rz
 intro h;refine Ak h ?_;clear h;intro o10 ho10 h
 refine lq (σ:=Int) (τ:=Unit) (ν:=Bool) 0 (fun s2 a4=>B2 76 [(0,AV.sl 7 (List.map A9 F2)),(1,AV.sl 7 (List.map A9 Fn)),(5,iA s2)]) (fun s2 a4=>[]) (fun _ a25=>B2 76 []) (fun _ a25=>[]) (fun v=>(bA v,[])) (fun k s=>Hx n F2 Fn k s) (fun s=>rfl) o10 n 0 (fun _=>0) ho10 ?_ ?_
 intro k3 s2 a4 K5 cont6 hK7 hcont8 h hr9
 replace h:Hx n F2 Fn (k3+1) s2=some o10:=h
 rw[Hx] at h
 conv=>lhs;whnf
 revert h
 refine br ?_ ?_
 refine ix ?_;intro x12
 refine ix ?_;intro x13
 refine br ?_ ?_
 intro h;cases sj h
 refine(hK7 _ _).trans ?_
 refine Eq.trans ?_ (Eq.symm (show _=some _ from hr9))
 conv=>lhs;whnf
 exact rq
 refine br ?_ ?_
 intro h;cases sj h
 refine(hK7 _ _).trans ?_
 refine Eq.trans ?_ (Eq.symm (show _=some _ from hr9))
 conv=>lhs;whnf
 exact rq
 refine br ?_ ?_
 intro h;cases sj h
 refine(hK7 _ _).trans ?_
 refine Eq.trans ?_ (Eq.symm (show _=some _ from hr9))
 conv=>lhs;whnf
 exact rq
 refine br ?_ ?_
 refine br ?_ ?_
 intro h;cases sj h
 refine(hK7 _ _).trans ?_
 refine Eq.trans ?_ (Eq.symm (show _=some _ from hr9))
 conv=>lhs;whnf
 exact rq
 refine ca hc (fun _ h=>Sa h) ?_;intro y19
 refine br ?_ ?_
 refine ca hc (fun _ h=>Sa h) ?_;intro y22
 refine br ?_ ?_
 exact fun h=>cq (hcont8 (IntKind.i64.wrap (s2+1)) (fun _=>0) h)
 intro h;cases sj h
 refine(hK7 _ _).trans ?_
 refine Eq.trans ?_ (Eq.symm (show _=some _ from hr9))
 conv=>lhs;whnf
 exact rq
 intro h;cases sj h
 refine(hK7 _ _).trans ?_
 refine Eq.trans ?_ (Eq.symm (show _=some _ from hr9))
 conv=>lhs;whnf
 exact rq
 intro h;cases sj h
 refine(hK7 _ _).trans ?_
 refine Eq.trans ?_ (Eq.symm (show _=some _ from hr9))
 conv=>lhs;whnf
 exact rq
 intro h;cases sj h
 exact kq (hr9 (fun _=>0))
 refine lrc ?_ ?_
 intro v e;subst e;cases sj h;rfl
 intro t a25 e;subst e
 dsimp only at h
 conv=>lhs;whnf
 revert h
 exact rz
theorem Tv {n:Nat} ⦃Bt:Int⦄ ⦃Fo:Int⦄ ⦃r:Bool⦄:Hf n Bt Fo=some r→CN n 3 [AV.int .u8 Bt,AV.int .u8 Fo] []=some (bA r,[]):=by
 intro h;rcases n with _|n;cases h
 rw[Hf] at h
 refine Ah Try.func3 (by rfl) rfl rfl (As rfl) ?_
 intro call hc;conv=>lhs;whnf
 revert h
 refine ca hc (fun _ h=>Jj h) ?_;intro y1
 refine ca hc (fun _ h=>Jj h) ?_;intro y3
 refine ca hc (fun _ h=>S9 h) ?_;intro y5
 refine ca hc (fun _ h=>S9 h) ?_;intro y7
 refine br ?_ ?_
 exact rz
 refine br ?_ ?_
 exact rz
 refine br ?_ ?_
 exact rz
 refine br ?_ ?_
 exact rz
 intro h;refine Ak h ?_;clear h;intro o21 ho21 h
 refine lq (σ:=Int) (τ:=Unit) (ν:=Bool) 0 (fun s13 a15=>B2 92 [(11,AV.ptr 2 0),(14,AV.ptr 3 0),(17,iA s13)]) (fun s13 a15=>[Ob.var 26 [iA y1.1.B8,AV.sl 3 (List.map Ad y1.1.B4),AV.sl 4 (List.map Ab y1.1.An),AV.sl 3 (List.map Ac y1.1.Au)],Ob.var 26 [iA y3.1.B8,AV.sl 3 (List.map Ad y3.1.B4),AV.sl 4 (List.map Ab y3.1.An),AV.sl 3 (List.map Ac y3.1.Au)],Ob.var 33 [iA (y5.1.mod),AV.sl 1 (List.map Cf (y5.1.init)),AV.sl 1 (List.map Cf (y5.1.regs)),AV.sl 1 (List.map I0 (y5.1.code))],Ob.var 33 [iA (y7.1.mod),AV.sl 1 (List.map Cf (y7.1.init)),AV.sl 1 (List.map Cf (y7.1.regs)),AV.sl 1 (List.map I0 (y7.1.code))]]) (fun _ a31=>B2 92 []) (fun _ a31=>[Ob.var 26 [iA y1.1.B8,AV.sl 3 (List.map Ad y1.1.B4),AV.sl 4 (List.map Ab y1.1.An),AV.sl 3 (List.map Ac y1.1.Au)],Ob.var 26 [iA y3.1.B8,AV.sl 3 (List.map Ad y3.1.B4),AV.sl 4 (List.map Ab y3.1.An),AV.sl 3 (List.map Ac y3.1.Au)],Ob.var 33 [iA (y5.1.mod),AV.sl 1 (List.map Cf (y5.1.init)),AV.sl 1 (List.map Cf (y5.1.regs)),AV.sl 1 (List.map I0 (y5.1.code))],Ob.var 33 [iA (y7.1.mod),AV.sl 1 (List.map Cf (y7.1.init)),AV.sl 1 (List.map Cf (y7.1.regs)),AV.sl 1 (List.map I0 (y7.1.code))]]) (fun v=>(bA v,[])) (fun k s=>Ej n y5 y7 k s) (fun s=>rfl) o21 n 0 (fun _=>0) ho21 ?_ ?_
 intro k14 s13 a15 K16 cont17 hK18 hcont19 h hr20
 replace h:Ej n y5 y7 (k14+1) s13=some o21:=h
 rw[Ej] at h
 conv=>lhs;whnf
 revert h
 refine br ?_ ?_
 refine ix ?_;intro x23
 refine ix ?_;intro x24
 refine ca hc (fun _ h=>Yb h) ?_;intro y25
 refine br ?_ ?_
 refine ix ?_;intro x28
 refine ix ?_;intro x29
 refine br ?_ ?_
 intro h;cases sj h
 refine(hK18 _ _).trans ?_
 refine Eq.trans ?_ (Eq.symm (show _=some _ from hr20))
 conv=>lhs;whnf
 exact rq
 exact fun h=>cq (hcont19 (IntKind.i64.wrap (s13+1)) (fun _=>0) h)
 intro h;cases sj h
 refine(hK18 _ _).trans ?_
 refine Eq.trans ?_ (Eq.symm (show _=some _ from hr20))
 conv=>lhs;whnf
 exact rq
 intro h;cases sj h
 exact kq (hr20 (fun _=>0))
 refine lrc ?_ ?_
 intro v e;subst e;cases sj h;rfl
 intro t a31 e;subst e
 dsimp only at h
 conv=>lhs;whnf
 revert h
 refine ca hc (fun _ h=>X0 h) ?_;intro y32
 exact rz
end Go.Proofs.Ytceibnlnjmpkoaa
end
