/- Parts of the proofs: what they lean on. Conditions: none. -/
import Derived.Test.YtfabdppicogkmaaGreatGenSafeP5
section
namespace Go.Proofs.YtfabdppicogkmaaGreat
set_option linter.unusedVariables false
set_option linter.unusedSimpArgs false
set_option maxRecDepth 100000
theorem Xy {x:Int} (hx:0≤x∧x≤255) (c:Int) (hc:c=2∨c=3):∃ y,IntKind.i64.wrap (1+Int.tmod (IntKind.i64.wrap x) c)=y∧1≤y∧y≤c:=by
 rw[G3 (n:=x) (by omega),Int.tmod_eq_emod_of_nonneg hx.1]
 rcases hc with rfl | rfl
 ·exact⟨_,G3 (by omega),by omega,by omega⟩
 ·exact⟨_,G3 (by omega),by omega,by omega⟩
theorem Aiz (n:Nat) (y:Gb×Int×Int) (h:∀ r ∈ y.1.Fz,r.Q8=true) (hl:y.1.Fz.length≤1000) (hn:2000 < n):E7 n y n 0=some (.out ()):=by
 have h0:∀ (j k i:Nat),i+j=y.1.Fz.length→j < k→E7 n y k (i:Int)=some (.out ()):=by
  intro j
  induction j with
  | zero =>
   intro k i hi hk
   obtain⟨k,rfl⟩:∃ j,k=j+1:=⟨k - 1,by omega⟩
   rw[E7,Ap (by omega)]
  | succ j ih =>
   intro k i hi hk
   obtain⟨k,rfl⟩:∃ j,k=j+1:=⟨k - 1,by omega⟩
   have hlt:i < y.1.Fz.length:=by omega
   rw[E7,Ad (by omega),Bu hlt,A4,h _ (List.getElem_mem hlt),As,Be i (by omega)]
   exact ih k (i+1) (by omega) (by omega)
 exact h0 y.1.Fz.length n 0 (by omega) (by omega)
theorem Dk {kind n:Int} {how:Int×Int×Int} {k m model room mode:Int} (e1:IntKind.i64.wrap (1+Int.tmod (IntKind.i64.wrap kind) 3)=k) (e2:IntKind.i64.wrap (1+Int.tmod (IntKind.i64.wrap n) 2)=m) (e3:IntKind.i64.wrap (1+Int.tmod (IntKind.i64.wrap how.1) 3)=model) (e4:IntKind.i64.wrap (1+Int.tmod (IntKind.i64.wrap how.2.1) 2)=room) (e5:IntKind.i64.wrap (1+Int.tmod (IntKind.i64.wrap how.2.2) 2)=mode)
 {p:Cf} {u:Ak} [InU u] {R:List Nat} {T:List (Nat×Nat)} (hg:I8 150002 k m (IntKind.i64.wrap (m+1))=some (p,0)) (hp:∀ n,Mc (n+1) p=some (u,0,0)) (hu:C7 u=true) (hlu:G6 u=true) (hc:p.Cw.length≤1000) (hm:1≤model∧model≤3) (hr:1≤room∧room≤2) (h:D7 p u model room R T=true) (hmo:1≤mode∧mode≤2) :
 J7 150003 kind n how=some true:=by
 obtain⟨v,v1,v2,v3,v4⟩:=Abb hp hu hlu hm (by omega) h (mode:=mode) (by omega)
 have hr0:=Aiz 150002 (v,0,0) v3 (by show v.Fz.length≤1000;omega) (by omega)
 rw[J7,e1,e2,e3,e4,e5,hg,A4,show((0:Int) != 0)=false from rfl,B3,v1,A4]
 simp only
 rw[show((0:Int)==18)=false from rfl,B3,show((0:Int) != 0)=false from rfl,B3,v2,show((1:Int) != 1)=false from rfl,B3,hr0,A4]
 simp only
 rw[v4,beq_self_eq_true,As]
 rfl
instance:InU O4:=⟨by decide +kernel⟩
theorem A41:C7 O4=true:=by decide +kernel
theorem A4m:G6 O4=true:=by decide +kernel
theorem A5l:((Wq.find? fun e=>decide (e.1=Mm)).map fun e=>(e.2,(0:Int),(0:Int)))=some (O4,0,0):=by decide +kernel
theorem A4b:I8 150002 1 1 (IntKind.i64.wrap (1+1))=some (Mm,0):=by decide +kernel
instance:InU Q1:=⟨by decide +kernel⟩
theorem A56:C7 Q1=true:=by decide +kernel
theorem A44:G6 Q1=true:=by decide +kernel
theorem A4j:((Wq.find? fun e=>decide (e.1=O2)).map fun e=>(e.2,(0:Int),(0:Int)))=some (Q1,0,0):=by decide +kernel
theorem A4u:I8 150002 1 2 (IntKind.i64.wrap (2+1))=some (O2,0):=by decide +kernel
instance:InU O5:=⟨by decide +kernel⟩
theorem A4t:C7 O5=true:=by decide +kernel
theorem A57:G6 O5=true:=by decide +kernel
theorem A4a:((Wq.find? fun e=>decide (e.1=Mj)).map fun e=>(e.2,(0:Int),(0:Int)))=some (O5,0,0):=by decide +kernel
theorem A47:I8 150002 2 1 (IntKind.i64.wrap (1+1))=some (Mj,0):=by decide +kernel
instance:InU Ps:=⟨by decide +kernel⟩
theorem A4w:C7 Ps=true:=by decide +kernel
theorem A4e:G6 Ps=true:=by decide +kernel
theorem A40:((Wq.find? fun e=>decide (e.1=Oc)).map fun e=>(e.2,(0:Int),(0:Int)))=some (Ps,0,0):=by decide +kernel
theorem A54:I8 150002 2 2 (IntKind.i64.wrap (2+1))=some (Oc,0):=by decide +kernel
instance:InU Nw:=⟨by decide +kernel⟩
theorem A4p:C7 Nw=true:=by decide +kernel
theorem A5f:G6 Nw=true:=by decide +kernel
theorem A3s:((Wq.find? fun e=>decide (e.1=Nt)).map fun e=>(e.2,(0:Int),(0:Int)))=some (Nw,0,0):=by decide +kernel
theorem A5c:I8 150002 3 1 (IntKind.i64.wrap (1+1))=some (Nt,0):=by decide +kernel
instance:InU O8:=⟨by decide +kernel⟩
theorem A51:C7 O8=true:=by decide +kernel
theorem A3m:G6 O8=true:=by decide +kernel
theorem A4c:((Wq.find? fun e=>decide (e.1=Ny)).map fun e=>(e.2,(0:Int),(0:Int)))=some (O8,0,0):=by decide +kernel
theorem A4h:I8 150002 3 2 (IntKind.i64.wrap (2+1))=some (Ny,0):=by decide +kernel
theorem Arw {y:Int} (h:1≤y∧y≤3):y=1∨y=2∨y=3:=by omega
theorem Arh {y:Int} (h:1≤y∧y≤2):y=1∨y=2:=by omega
theorem Ah1 (kind n:Int) (how:Int×Int×Int) (hk:0≤kind∧kind≤255) (hn:0≤n∧n≤255) (h1:0≤how.1∧how.1≤255) (h2:0≤how.2.1∧how.2.1≤255) (h3:0≤how.2.2∧how.2.2≤255):J7 150003 kind n how=some true:=by
 obtain⟨k,e1,k1⟩:=Xy hk 3 (.inr rfl)
 obtain⟨m,e2,k2⟩:=Xy hn 2 (.inl rfl)
 obtain⟨md,e3,k3⟩:=Xy h1 3 (.inr rfl)
 obtain⟨ro,e4,k4⟩:=Xy h2 2 (.inl rfl)
 obtain⟨mo,e5,k5⟩:=Xy h3 2 (.inl rfl)
 rcases Arw k1 with rfl | rfl | rfl<;>rcases Arh k2 with rfl | rfl<;>rcases Arw k3 with rfl | rfl | rfl<;>rcases Arh k4 with rfl | rfl
 ·exact Dk e1 e2 e3 e4 e5 A4b (fun _=>A5l) A41 A4m (by decide) (by omega) (by omega) Ao6 k5
 ·exact Dk e1 e2 e3 e4 e5 A4b (fun _=>A5l) A41 A4m (by decide) (by omega) (by omega) Am2 k5
 ·exact Dk e1 e2 e3 e4 e5 A4b (fun _=>A5l) A41 A4m (by decide) (by omega) (by omega) Aoi k5
 ·exact Dk e1 e2 e3 e4 e5 A4b (fun _=>A5l) A41 A4m (by decide) (by omega) (by omega) Anl k5
 ·exact Dk e1 e2 e3 e4 e5 A4b (fun _=>A5l) A41 A4m (by decide) (by omega) (by omega) Am5 k5
 ·exact Dk e1 e2 e3 e4 e5 A4b (fun _=>A5l) A41 A4m (by decide) (by omega) (by omega) Anf k5
 ·exact Dk e1 e2 e3 e4 e5 A4u (fun _=>A4j) A56 A44 (by decide) (by omega) (by omega) Ana k5
 ·exact Dk e1 e2 e3 e4 e5 A4u (fun _=>A4j) A56 A44 (by decide) (by omega) (by omega) Ani k5
 ·exact Dk e1 e2 e3 e4 e5 A4u (fun _=>A4j) A56 A44 (by decide) (by omega) (by omega) Ang k5
 ·exact Dk e1 e2 e3 e4 e5 A4u (fun _=>A4j) A56 A44 (by decide) (by omega) (by omega) An7 k5
 ·exact Dk e1 e2 e3 e4 e5 A4u (fun _=>A4j) A56 A44 (by decide) (by omega) (by omega) Akx k5
 ·exact Dk e1 e2 e3 e4 e5 A4u (fun _=>A4j) A56 A44 (by decide) (by omega) (by omega) Amf k5
 ·exact Dk e1 e2 e3 e4 e5 A47 (fun _=>A4a) A4t A57 (by decide) (by omega) (by omega) Amp k5
 ·exact Dk e1 e2 e3 e4 e5 A47 (fun _=>A4a) A4t A57 (by decide) (by omega) (by omega) Amo k5
 ·exact Dk e1 e2 e3 e4 e5 A47 (fun _=>A4a) A4t A57 (by decide) (by omega) (by omega) Anj k5
 ·exact Dk e1 e2 e3 e4 e5 A47 (fun _=>A4a) A4t A57 (by decide) (by omega) (by omega) Anw k5
 ·exact Dk e1 e2 e3 e4 e5 A47 (fun _=>A4a) A4t A57 (by decide) (by omega) (by omega) Anu k5
 ·exact Dk e1 e2 e3 e4 e5 A47 (fun _=>A4a) A4t A57 (by decide) (by omega) (by omega) Aol k5
 ·exact Dk e1 e2 e3 e4 e5 A54 (fun _=>A40) A4w A4e (by decide) (by omega) (by omega) Al4 k5
 ·exact Dk e1 e2 e3 e4 e5 A54 (fun _=>A40) A4w A4e (by decide) (by omega) (by omega) Ald k5
 ·exact Dk e1 e2 e3 e4 e5 A54 (fun _=>A40) A4w A4e (by decide) (by omega) (by omega) Ao3 k5
 ·exact Dk e1 e2 e3 e4 e5 A54 (fun _=>A40) A4w A4e (by decide) (by omega) (by omega) Alf k5
 ·exact Dk e1 e2 e3 e4 e5 A54 (fun _=>A40) A4w A4e (by decide) (by omega) (by omega) Aoj k5
 ·exact Dk e1 e2 e3 e4 e5 A54 (fun _=>A40) A4w A4e (by decide) (by omega) (by omega) Akp k5
 ·exact Dk e1 e2 e3 e4 e5 A5c (fun _=>A3s) A4p A5f (by decide) (by omega) (by omega) Am7 k5
 ·exact Dk e1 e2 e3 e4 e5 A5c (fun _=>A3s) A4p A5f (by decide) (by omega) (by omega) Anm k5
 ·exact Dk e1 e2 e3 e4 e5 A5c (fun _=>A3s) A4p A5f (by decide) (by omega) (by omega) Amr k5
 ·exact Dk e1 e2 e3 e4 e5 A5c (fun _=>A3s) A4p A5f (by decide) (by omega) (by omega) Alo k5
 ·exact Dk e1 e2 e3 e4 e5 A5c (fun _=>A3s) A4p A5f (by decide) (by omega) (by omega) An5 k5
 ·exact Dk e1 e2 e3 e4 e5 A5c (fun _=>A3s) A4p A5f (by decide) (by omega) (by omega) Ao2 k5
 ·exact Dk e1 e2 e3 e4 e5 A4h (fun _=>A4c) A51 A3m (by decide) (by omega) (by omega) Aod k5
 ·exact Dk e1 e2 e3 e4 e5 A4h (fun _=>A4c) A51 A3m (by decide) (by omega) (by omega) Aon k5
 ·exact Dk e1 e2 e3 e4 e5 A4h (fun _=>A4c) A51 A3m (by decide) (by omega) (by omega) Aoh k5
 ·exact Dk e1 e2 e3 e4 e5 A4h (fun _=>A4c) A51 A3m (by decide) (by omega) (by omega) Aom k5
 ·exact Dk e1 e2 e3 e4 e5 A4h (fun _=>A4c) A51 A3m (by decide) (by omega) (by omega) Al7 k5
 ·exact Dk e1 e2 e3 e4 e5 A4h (fun _=>A4c) A51 A3m (by decide) (by omega) (by omega) Al2 k5
set_option maxHeartbeats 4000000
theorem Rc {n:Nat} ⦃Ck:(List Int)⦄ ⦃Cr:(List Int)⦄ ⦃r:Bool⦄:Io n Ck Cr=some r→CN n 58 [AV.sl 1 (List.map A0 Ck),AV.sl 1 (List.map A0 Cr)] []=some (bA r,[]):=by
 intro h;rcases n with _|n;cases h
 rw[Io] at h
 refine Au Tryz.func58 (by rfl) rfl rfl (B4 rfl) ?_
 intro call hc;conv=>lhs;whnf
 revert h
 refine br ?_ ?_
 exact rz
 intro h;refine Ae h ?_;clear h;intro o10 ho10 h
 refine lq (σ:=Int) (τ:=Unit) (ν:=Bool) 0 (fun s2 a4=>Ax 26 [(0,AV.sl 1 (List.map A0 Ck)),(1,AV.sl 1 (List.map A0 Cr)),(5,iA s2)]) (fun s2 a4=>[]) (fun _ a15=>Ax 26 []) (fun _ a15=>[]) (fun v=>(bA v,[])) (fun k s=>H9 n Ck Cr k s) (fun s=>rfl) o10 n 0 (fun _=>0) ho10 ?_ ?_
 intro k3 s2 a4 K5 cont6 hK7 hcont8 h hr9
 replace h:H9 n Ck Cr (k3+1) s2=some o10:=h
 rw[H9] at h
 conv=>lhs;whnf
 revert h
 refine br ?_ ?_
 refine ix ?_;intro x12
 refine ix ?_;intro x13
 refine br ?_ ?_
 intro h;cases sj h
 refine(hK7 _ _).trans ?_
 refine Eq.trans ?_ (Eq.symm (show _=some _ from hr9))
 conv=>lhs;whnf
 exact rq
 exact fun h=>cq (hcont8 (IntKind.i64.wrap (s2+1)) (fun _=>0) h)
 intro h;cases sj h
 exact kq (hr9 (fun _=>0))
 refine lrc ?_ ?_
 intro v e;subst e;cases sj h;rfl
 intro t a15 e;subst e
 dsimp only at h
 conv=>lhs;whnf
 revert h
 exact rz
theorem A4x {n:Nat} ⦃Aa:Ak⦄ ⦃r:(Ac×Int)⦄:H7 n Aa=some r→CN n 27 [AV.agg [iA (Aa.mod),AV.sl 1 (List.map A0 (Aa.init)),AV.sl 1 (List.map A0 (Aa.regs)),AV.sl 1 (List.map Ah (Aa.code))]] []=some (AV.tup [AV.agg [AV.sl 1 (List.map A0 (r.1.pc)),AV.sl 1 (List.map Ag (r.1.regs)),AV.sl 1 (List.map A0 (r.1.mem)),AV.sl 1 (List.map An (r.1.buf))],iA r.2],[]):=by
 intro h;rcases n with _|n;cases h
 rw[H7] at h
 refine Au Tryz.func27 (by rfl) rfl rfl (B4 rfl) ?_
 intro call hc;conv=>lhs;whnf
 revert h
 refine ca hc (fun _ h=>V7 h) ?_;intro y1
 refine br ?_ ?_
 intro h;refine Ae h ?_;clear h;intro o15 ho15 h
 refine lq (σ:=(Int×(List Int)×(List (List Int))×(List (List A2)))) (τ:=((List Int)×(List (List Int))×(List (List A2)))) (ν:=(Ac×Int)) 0 (fun(s4,s5,s6,s7) a9=>Ax 46 [(1,AV.ptr 0 0),(2,AV.ptr 1 0),(4,AV.ptr 2 0),(5,iA s4)]) (fun(s4,s5,s6,s7) a9=>[Ob.var 61 [iA (Aa.mod),AV.sl 1 (List.map A0 (Aa.init)),AV.sl 1 (List.map A0 (Aa.regs)),AV.sl 1 (List.map Ah (Aa.code))],Ob.var 90 [AV.row 3 (List.length (([]:List Int))),AV.row 4 (List.length (([]:List (List Int)))),AV.row 5 (List.length (([]:List Int))),AV.row 6 (List.length (([]:List (List A2))))],Ob.var 90 [AV.row 7 (List.length s5),AV.row 8 (List.length s6),AV.row 9 (List.length (([]:List Int))),AV.row 10 (List.length s7)],Ob.row 3 1 ([]),Ob.row 31 1 ([]),Ob.row 3 1 ([]),Ob.row 152 1 ([]),Ob.row 3 1 (List.map A0 s5),Ob.row 31 1 (List.map Ag s6),Ob.row 3 1 ([]),Ob.row 152 1 (List.map An s7)]) (fun(x27,x28,x29) a26=>Ax 46 [(1,AV.ptr 0 0),(2,AV.ptr 1 0),(4,AV.ptr 2 0)]) (fun(x27,x28,x29) a26=>[Ob.var 61 [iA (Aa.mod),AV.sl 1 (List.map A0 (Aa.init)),AV.sl 1 (List.map A0 (Aa.regs)),AV.sl 1 (List.map Ah (Aa.code))],Ob.var 90 [AV.row 3 (List.length (([]:List Int))),AV.row 4 (List.length (([]:List (List Int)))),AV.row 5 (List.length (([]:List Int))),AV.row 6 (List.length (([]:List (List A2))))],Ob.var 90 [AV.row 7 (List.length x27),AV.row 8 (List.length x28),AV.row 9 (List.length (([]:List Int))),AV.row 10 (List.length x29)],Ob.row 3 1 ([]),Ob.row 31 1 ([]),Ob.row 3 1 ([]),Ob.row 152 1 ([]),Ob.row 3 1 (List.map A0 x27),Ob.row 31 1 (List.map Ag x28),Ob.row 3 1 ([]),Ob.row 152 1 (List.map An x29)]) (fun v=>(AV.tup [AV.agg [AV.sl 1 (List.map A0 (v.1.pc)),AV.sl 1 (List.map Ag (v.1.regs)),AV.sl 1 (List.map A0 (v.1.mem)),AV.sl 1 (List.map An (v.1.buf))],iA v.2],[])) (fun k s=>Dc n Aa k s.1 s.2.1 s.2.2.1 s.2.2.2) (fun s=>rfl) o15 n (0,([]:List Int),([]:List (List Int)),([]:List (List A2))) (fun _=>0) ho15 ?_ ?_
 intro k8 ss a9 K10 cont11 hK12 hcont13 h hr14
 obtain⟨s4,s5,s6,s7⟩:=ss
 replace h:Dc n Aa (k8+1) s4 s5 s6 s7=some o15:=h
 rw[Dc] at h
 conv=>lhs;whnf
 revert h
 refine br ?_ ?_
 refine ar (ap A0 (List.map A0 s5) s5 ([[iA (0)]]) ([0]:List Int)) ?_
 refine ix ?_;intro x19
 intro h
 refine Ds h ?_;clear h;intro hc21 h
 try simp only[ls]
 refine B0 (by first|exact Pk (B:=8) hc21 rfl (by kernel_rfl)|exact O1 (B:=8) hc21 (by kernel_rfl)) ?_
 have hr20:List.replicate x19.toNat [iA (0)]=List.map A0 (List.replicate x19.toNat 0:List Int):=by rw[List.map_replicate];rfl
 simp only[hr20,ls]
 conv=>lhs;whnf
 revert h
 refine ar (ap Ag (List.map Ag s6) s6 ([[AV.sl 1 (List.map A0 ((List.replicate x19.toNat 0:List Int)))]]) ([(List.replicate x19.toNat 0:List Int)]:List (List Int))) ?_
 refine ar (ap An (List.map An s7) s7 ([[AV.sl 2 []]]) ([([]:List A2)]:List (List A2))) ?_
 exact fun h=>cq (hcont13 (IntKind.i64.wrap (s4+1),(s5++([0]:List Int)),(s6++([(List.replicate x19.toNat 0:List Int)]:List (List Int))),(s7++([([]:List A2)]:List (List A2)))) (fun _=>0) h)
 intro h;cases sj h
 exact kq (hr14 (fun _=>0))
 refine lrc ?_ ?_
 intro v e;subst e;cases sj h;rfl
 intro t a26 e;subst e
 obtain⟨x27,x28,x29⟩:=t
 dsimp only at h
 conv=>lhs;whnf
 revert h
 refine ar (ap A0 ([]) ([]:List Int) (List.map A0 (Aa.init)) Aa.init) ?_
 intro h;cases sj h
 try simp only[ls]
 exact fq (y:=some (AV.tup [AV.agg [AV.sl 1 (List.take (List.length x27) (List.map A0 x27)),AV.sl 1 (List.take (List.length x28) (List.map Ag x28)),AV.sl 1 (List.take (List.length ((([]:List Int)++Aa.init))) (List.map A0 (([]:List Int)++Aa.init))),AV.sl 1 (List.take (List.length x29) (List.map An x29))],iA (0)],[]))
 exact rz
theorem A6z {n:Nat} ⦃Bm:Ac⦄ ⦃r:Ac⦄:Sx n Bm=some r→CN n 49 [AV.agg [AV.sl 1 (List.map A0 (Bm.pc)),AV.sl 1 (List.map Ag (Bm.regs)),AV.sl 1 (List.map A0 (Bm.mem)),AV.sl 1 (List.map An (Bm.buf))]] []=some (AV.agg [AV.sl 1 (List.map A0 (r.pc)),AV.sl 1 (List.map Ag (r.regs)),AV.sl 1 (List.map A0 (r.mem)),AV.sl 1 (List.map An (r.buf))],[]):=by
 intro h;rcases n with _|n;cases h
 rw[Sx] at h
 refine Au Tryz.func49 (by rfl) rfl rfl (B4 rfl) ?_
 intro call hc;conv=>lhs;whnf
 revert h
 refine cn ?_
 refine cn ?_
 intro h;refine Ae h ?_;clear h;intro o12 ho12 h
 refine lq (σ:=(Int×(List (List Int)))) (τ:=(List (List Int))) (ν:=Ac) 0 (fun(s3,s4) a6=>Ax 62 [(1,AV.ptr 0 0),(2,AV.ptr 1 0),(3,AV.ptr 2 0),(4,iA s3)]) (fun(s3,s4) a6=>[Ob.var 90 [AV.sl 1 (List.map A0 (Bm.pc)),AV.sl 1 (List.map Ag (Bm.regs)),AV.sl 1 (List.map A0 (Bm.mem)),AV.sl 1 (List.map An (Bm.buf))],Ob.var 90 [AV.row 3 (List.length (([]:List Int))),AV.row 4 (List.length (([]:List (List Int)))),AV.row 5 (List.length (([]:List Int))),AV.row 6 (List.length (([]:List (List A2))))],Ob.var 90 [AV.sl 1 (List.map A0 (Bm.pc)),AV.row 7 (List.length s4),AV.sl 1 (List.map A0 (Bm.mem)),AV.row 8 (List.length (([]:List (List A2))))],Ob.row 3 1 ([]),Ob.row 31 1 ([]),Ob.row 3 1 ([]),Ob.row 152 1 ([]),Ob.row 31 1 (List.map Ag s4),Ob.row 152 1 ([])]) (fun x19 a18=>Ax 62 [(1,AV.ptr 0 0),(2,AV.ptr 1 0),(3,AV.ptr 2 0)]) (fun x19 a18=>[Ob.var 90 [AV.sl 1 (List.map A0 (Bm.pc)),AV.sl 1 (List.map Ag (Bm.regs)),AV.sl 1 (List.map A0 (Bm.mem)),AV.sl 1 (List.map An (Bm.buf))],Ob.var 90 [AV.row 3 (List.length (([]:List Int))),AV.row 4 (List.length (([]:List (List Int)))),AV.row 5 (List.length (([]:List Int))),AV.row 6 (List.length (([]:List (List A2))))],Ob.var 90 [AV.sl 1 (List.map A0 (Bm.pc)),AV.row 7 (List.length x19),AV.sl 1 (List.map A0 (Bm.mem)),AV.row 8 (List.length (([]:List (List A2))))],Ob.row 3 1 ([]),Ob.row 31 1 ([]),Ob.row 3 1 ([]),Ob.row 152 1 ([]),Ob.row 31 1 (List.map Ag x19),Ob.row 152 1 ([])]) (fun v=>(AV.agg [AV.sl 1 (List.map A0 (v.pc)),AV.sl 1 (List.map Ag (v.regs)),AV.sl 1 (List.map A0 (v.mem)),AV.sl 1 (List.map An (v.buf))],[])) (fun k s=>Lb n Bm k s.1 s.2) (fun s=>rfl) o12 n (0,([]:List (List Int))) (fun _=>0) ho12 ?_ ?_
 intro k5 ss a6 K7 cont8 hK9 hcont10 h hr11
 obtain⟨s3,s4⟩:=ss
 replace h:Lb n Bm (k5+1) s3 s4=some o12:=h
 rw[Lb] at h
 conv=>lhs;whnf
 revert h
 refine br ?_ ?_
 refine ix ?_;intro x14
 refine cn ?_
 refine ar (ap Ag (List.map Ag s4) s4 ([[AV.sl 1 (List.map A0 x14)]]) ([x14]:List (List Int))) ?_
 exact fun h=>cq (hcont10 (IntKind.i64.wrap (s3+1),(s4++([x14]:List (List Int)))) (fun _=>0) h)
 intro h;cases sj h
 exact kq (hr11 (fun _=>0))
 refine lrc ?_ ?_
 intro v e;subst e;cases sj h;rfl
 intro x19 a18 e;subst e
 dsimp only at h
 conv=>lhs;whnf
 revert h
 intro h;refine Ae h ?_;clear h;intro o29 ho29 h
 refine lq (σ:=(Int×(List (List A2)))) (τ:=(List (List A2))) (ν:=Ac) 2 (fun(s20,s21) a23=>Ax 62 [(1,AV.ptr 0 0),(2,AV.ptr 1 0),(3,AV.ptr 2 0),(6,iA s20)]) (fun(s20,s21) a23=>[Ob.var 90 [AV.sl 1 (List.map A0 (Bm.pc)),AV.sl 1 (List.map Ag (Bm.regs)),AV.sl 1 (List.map A0 (Bm.mem)),AV.sl 1 (List.map An (Bm.buf))],Ob.var 90 [AV.row 3 (List.length (([]:List Int))),AV.row 4 (List.length (([]:List (List Int)))),AV.row 5 (List.length (([]:List Int))),AV.row 6 (List.length (([]:List (List A2))))],Ob.var 90 [AV.sl 1 (List.map A0 (Bm.pc)),AV.row 7 (List.length x19),AV.sl 1 (List.map A0 (Bm.mem)),AV.row 8 (List.length s21)],Ob.row 3 1 ([]),Ob.row 31 1 ([]),Ob.row 3 1 ([]),Ob.row 152 1 ([]),Ob.row 31 1 (List.map Ag x19),Ob.row 152 1 (List.map An s21)]) (fun x36 a35=>Ax 62 [(2,AV.ptr 1 0),(3,AV.ptr 2 0)]) (fun x36 a35=>[Ob.var 90 [AV.sl 1 (List.map A0 (Bm.pc)),AV.sl 1 (List.map Ag (Bm.regs)),AV.sl 1 (List.map A0 (Bm.mem)),AV.sl 1 (List.map An (Bm.buf))],Ob.var 90 [AV.row 3 (List.length (([]:List Int))),AV.row 4 (List.length (([]:List (List Int)))),AV.row 5 (List.length (([]:List Int))),AV.row 6 (List.length (([]:List (List A2))))],Ob.var 90 [AV.sl 1 (List.map A0 (Bm.pc)),AV.row 7 (List.length x19),AV.sl 1 (List.map A0 (Bm.mem)),AV.row 8 (List.length x36)],Ob.row 3 1 ([]),Ob.row 31 1 ([]),Ob.row 3 1 ([]),Ob.row 152 1 ([]),Ob.row 31 1 (List.map Ag x19),Ob.row 152 1 (List.map An x36)]) (fun v=>(AV.agg [AV.sl 1 (List.map A0 (v.pc)),AV.sl 1 (List.map Ag (v.regs)),AV.sl 1 (List.map A0 (v.mem)),AV.sl 1 (List.map An (v.buf))],[])) (fun k s=>Lc n Bm k s.1 s.2) (fun s=>rfl) o29 n (0,([]:List (List A2))) (fun _=>0) ho29 ?_ ?_
 intro k22 ss a23 K24 cont25 hK26 hcont27 h hr28
 obtain⟨s20,s21⟩:=ss
 replace h:Lc n Bm (k22+1) s20 s21=some o29:=h
 rw[Lc] at h
 conv=>lhs;whnf
 revert h
 refine br ?_ ?_
 refine ix ?_;intro x31
 refine cn ?_
 refine ar (ap An (List.map An s21) s21 ([[AV.sl 2 (List.map At x31)]]) ([x31]:List (List A2))) ?_
 exact fun h=>cq (hcont27 (IntKind.i64.wrap (s20+1),(s21++([x31]:List (List A2)))) (fun _=>0) h)
 intro h;cases sj h
 exact kq (hr28 (fun _=>0))
 refine lrc ?_ ?_
 intro v e;subst e;cases sj h;rfl
 intro x36 a35 e;subst e
 dsimp only at h
 conv=>lhs;whnf
 revert h
 intro h;cases sj h
 try simp only[ls]
 exact fq (y:=some (AV.agg [AV.sl 1 (List.map A0 (Bm.pc)),AV.sl 1 (List.take (List.length x19) (List.map Ag x19)),AV.sl 1 (List.map A0 (Bm.mem)),AV.sl 1 (List.take (List.length x36) (List.map An x36))],[]))
theorem A6x {n:Nat} ⦃Ck:Ac⦄ ⦃Cr:Ac⦄ ⦃r:Bool⦄:Mf n Ck Cr=some r→CN n 52 [AV.agg [AV.sl 1 (List.map A0 (Ck.pc)),AV.sl 1 (List.map Ag (Ck.regs)),AV.sl 1 (List.map A0 (Ck.mem)),AV.sl 1 (List.map An (Ck.buf))],AV.agg [AV.sl 1 (List.map A0 (Cr.pc)),AV.sl 1 (List.map Ag (Cr.regs)),AV.sl 1 (List.map A0 (Cr.mem)),AV.sl 1 (List.map An (Cr.buf))]] []=some (bA r,[]):=by
 intro h;rcases n with _|n;cases h
 rw[Mf] at h
 refine Au Tryz.func52 (by rfl) rfl rfl (B4 rfl) ?_
 intro call hc;conv=>lhs;whnf
 revert h
 refine ca hc (fun _ h=>Rc h) ?_;intro y1
 refine br ?_ ?_
 refine ca hc (fun _ h=>Rc h) ?_;intro y4
 refine br ?_ ?_
 refine br ?_ ?_
 exact rz
 refine br ?_ ?_
 exact rz
 intro h;refine Ae h ?_;clear h;intro o17 ho17 h
 refine lq (σ:=Int) (τ:=Unit) (ν:=Bool) 0 (fun s9 a11=>Ax 77 [(2,AV.ptr 0 0),(3,AV.ptr 1 0),(5,iA s9)]) (fun s9 a11=>[Ob.var 90 [AV.sl 1 (List.map A0 (Ck.pc)),AV.sl 1 (List.map Ag (Ck.regs)),AV.sl 1 (List.map A0 (Ck.mem)),AV.sl 1 (List.map An (Ck.buf))],Ob.var 90 [AV.sl 1 (List.map A0 (Cr.pc)),AV.sl 1 (List.map Ag (Cr.regs)),AV.sl 1 (List.map A0 (Cr.mem)),AV.sl 1 (List.map An (Cr.buf))]]) (fun _ a24=>Ax 77 [(2,AV.ptr 0 0),(3,AV.ptr 1 0)]) (fun _ a24=>[Ob.var 90 [AV.sl 1 (List.map A0 (Ck.pc)),AV.sl 1 (List.map Ag (Ck.regs)),AV.sl 1 (List.map A0 (Ck.mem)),AV.sl 1 (List.map An (Ck.buf))],Ob.var 90 [AV.sl 1 (List.map A0 (Cr.pc)),AV.sl 1 (List.map Ag (Cr.regs)),AV.sl 1 (List.map A0 (Cr.mem)),AV.sl 1 (List.map An (Cr.buf))]]) (fun v=>(bA v,[])) (fun k s=>Gg n Ck Cr k s) (fun s=>rfl) o17 n 0 (fun _=>0) ho17 ?_ ?_
 intro k10 s9 a11 K12 cont13 hK14 hcont15 h hr16
 replace h:Gg n Ck Cr (k10+1) s9=some o17:=h
 rw[Gg] at h
 conv=>lhs;whnf
 revert h
 refine br ?_ ?_
 refine ix ?_;intro x19
 refine ix ?_;intro x20
 refine ca hc (fun _ h=>Rc h) ?_;intro y21
 refine br ?_ ?_
 exact fun h=>cq (hcont15 (IntKind.i64.wrap (s9+1)) (fun _=>0) h)
 intro h;cases sj h
 refine(hK14 _ _).trans ?_
 refine Eq.trans ?_ (Eq.symm (show _=some _ from hr16))
 conv=>lhs;whnf
 exact rq
 intro h;cases sj h
 exact kq (hr16 (fun _=>0))
 refine lrc ?_ ?_
 intro v e;subst e;cases sj h;rfl
 intro t a24 e;subst e
 dsimp only at h
 conv=>lhs;whnf
 revert h
 intro h;refine Ae h ?_;clear h;intro o33 ho33 h
 refine lq (σ:=Int) (τ:=Unit) (ν:=Bool) 2 (fun s25 a27=>Ax 77 [(2,AV.ptr 0 0),(3,AV.ptr 1 0),(6,iA s25)]) (fun s25 a27=>[Ob.var 90 [AV.sl 1 (List.map A0 (Ck.pc)),AV.sl 1 (List.map Ag (Ck.regs)),AV.sl 1 (List.map A0 (Ck.mem)),AV.sl 1 (List.map An (Ck.buf))],Ob.var 90 [AV.sl 1 (List.map A0 (Cr.pc)),AV.sl 1 (List.map Ag (Cr.regs)),AV.sl 1 (List.map A0 (Cr.mem)),AV.sl 1 (List.map An (Cr.buf))]]) (fun _ a40=>Ax 77 []) (fun _ a40=>[Ob.var 90 [AV.sl 1 (List.map A0 (Ck.pc)),AV.sl 1 (List.map Ag (Ck.regs)),AV.sl 1 (List.map A0 (Ck.mem)),AV.sl 1 (List.map An (Ck.buf))],Ob.var 90 [AV.sl 1 (List.map A0 (Cr.pc)),AV.sl 1 (List.map Ag (Cr.regs)),AV.sl 1 (List.map A0 (Cr.mem)),AV.sl 1 (List.map An (Cr.buf))]]) (fun v=>(bA v,[])) (fun k s=>Ge n Ck Cr k s) (fun s=>rfl) o33 n 0 (fun _=>0) ho33 ?_ ?_
 intro k26 s25 a27 K28 cont29 hK30 hcont31 h hr32
 replace h:Ge n Ck Cr (k26+1) s25=some o33:=h
 rw[Ge] at h
 conv=>lhs;whnf
 revert h
 refine br ?_ ?_
 refine ix ?_;intro x35
 refine ix ?_;intro x36
 refine ca hc (fun _ h=>A71 h) ?_;intro y37
 refine br ?_ ?_
 exact fun h=>cq (hcont31 (IntKind.i64.wrap (s25+1)) (fun _=>0) h)
 intro h;cases sj h
 refine(hK30 _ _).trans ?_
 refine Eq.trans ?_ (Eq.symm (show _=some _ from hr32))
 conv=>lhs;whnf
 exact rq
 intro h;cases sj h
 exact kq (hr32 (fun _=>0))
 refine lrc ?_ ?_
 intro v e;subst e;cases sj h;rfl
 intro t a40 e;subst e
 dsimp only at h
 conv=>lhs;whnf
 revert h
 exact rz
 exact rz
 exact rz
theorem A3v {n:Nat} ⦃Aa:Ak⦄ ⦃B7:Ac⦄ ⦃H3:Int⦄ ⦃r:Bool⦄:Rj n Aa B7 H3=some r→CN n 130 [AV.agg [iA (Aa.mod),AV.sl 1 (List.map A0 (Aa.init)),AV.sl 1 (List.map A0 (Aa.regs)),AV.sl 1 (List.map Ah (Aa.code))],AV.agg [AV.sl 1 (List.map A0 (B7.pc)),AV.sl 1 (List.map Ag (B7.regs)),AV.sl 1 (List.map A0 (B7.mem)),AV.sl 1 (List.map An (B7.buf))],iA H3] []=some (bA r,[]):=by
 intro h;rcases n with _|n;cases h
 rw[Rj] at h
 refine Au Tryz.func130 (by rfl) rfl rfl (B4 rfl) ?_
 intro call hc;conv=>lhs;whnf
 revert h
 refine br ?_ ?_
 exact rz
 refine br ?_ ?_
 exact rz
 refine br ?_ ?_
 exact rz
 refine ix ?_;intro x4
 refine br ?_ ?_
 exact rz
 refine ix ?_;intro x6
 refine ix ?_;intro x7
 refine br ?_ ?_
 exact rz
 refine ix ?_;intro x9
 refine ix ?_;intro x10
 refine ix ?_;intro x11
 exact rz
theorem A3o {n:Nat} ⦃Bm:Ac⦄ ⦃r:Bool⦄:Rh n Bm=some r→CN n 131 [AV.agg [AV.sl 1 (List.map A0 (Bm.pc)),AV.sl 1 (List.map Ag (Bm.regs)),AV.sl 1 (List.map A0 (Bm.mem)),AV.sl 1 (List.map An (Bm.buf))]] []=some (bA r,[]):=by
 intro h;rcases n with _|n;cases h
 rw[Rh] at h
 refine Au Tryz.func131 (by rfl) rfl rfl (B4 rfl) ?_
 intro call hc;conv=>lhs;whnf
 revert h
 intro h;refine Ae h ?_;clear h;intro o9 ho9 h
 refine lq (σ:=Int) (τ:=Unit) (ν:=Bool) 0 (fun s1 a3=>Ax 18 [(1,AV.ptr 0 0),(3,iA s1)]) (fun s1 a3=>[Ob.var 90 [AV.sl 1 (List.map A0 (Bm.pc)),AV.sl 1 (List.map Ag (Bm.regs)),AV.sl 1 (List.map A0 (Bm.mem)),AV.sl 1 (List.map An (Bm.buf))]]) (fun _ a13=>Ax 18 []) (fun _ a13=>[Ob.var 90 [AV.sl 1 (List.map A0 (Bm.pc)),AV.sl 1 (List.map Ag (Bm.regs)),AV.sl 1 (List.map A0 (Bm.mem)),AV.sl 1 (List.map An (Bm.buf))]]) (fun v=>(bA v,[])) (fun k s=>K0 n Bm k s) (fun s=>rfl) o9 n 0 (fun _=>0) ho9 ?_ ?_
 intro k2 s1 a3 K4 cont5 hK6 hcont7 h hr8
 replace h:K0 n Bm (k2+1) s1=some o9:=h
 rw[K0] at h
 conv=>lhs;whnf
 revert h
 refine br ?_ ?_
 refine ix ?_;intro x11
 refine br ?_ ?_
 intro h;cases sj h
 refine(hK6 _ _).trans ?_
 refine Eq.trans ?_ (Eq.symm (show _=some _ from hr8))
 conv=>lhs;whnf
 exact rq
 exact fun h=>cq (hcont7 (IntKind.i64.wrap (s1+1)) (fun _=>0) h)
 intro h;cases sj h
 exact kq (hr8 (fun _=>0))
 refine lrc ?_ ?_
 intro v e;subst e;cases sj h;rfl
 intro t a13 e;subst e
 dsimp only at h
 conv=>lhs;whnf
 revert h
 exact rz
theorem Vb {n:Nat} ⦃Aa:Ak⦄ ⦃B7:Ac⦄ ⦃r:Bool⦄:No n Aa B7=some r→CN n 87 [AV.agg [iA (Aa.mod),AV.sl 1 (List.map A0 (Aa.init)),AV.sl 1 (List.map A0 (Aa.regs)),AV.sl 1 (List.map Ah (Aa.code))],AV.agg [AV.sl 1 (List.map A0 (B7.pc)),AV.sl 1 (List.map Ag (B7.regs)),AV.sl 1 (List.map A0 (B7.mem)),AV.sl 1 (List.map An (B7.buf))]] []=some (bA r,[]):=by
 intro h;rcases n with _|n;cases h
 rw[No] at h
 refine Au Tryz.func87 (by rfl) rfl rfl (B4 rfl) ?_
 intro call hc;conv=>lhs;whnf
 revert h
 intro h;refine Ae h ?_;clear h;intro o9 ho9 h
 refine lq (σ:=Int) (τ:=Unit) (ν:=Bool) 0 (fun s1 a3=>Ax 20 [(2,AV.ptr 0 0),(3,AV.ptr 1 0),(5,iA s1)]) (fun s1 a3=>[Ob.var 61 [iA (Aa.mod),AV.sl 1 (List.map A0 (Aa.init)),AV.sl 1 (List.map A0 (Aa.regs)),AV.sl 1 (List.map Ah (Aa.code))],Ob.var 90 [AV.sl 1 (List.map A0 (B7.pc)),AV.sl 1 (List.map Ag (B7.regs)),AV.sl 1 (List.map A0 (B7.mem)),AV.sl 1 (List.map An (B7.buf))]]) (fun _ a14=>Ax 20 [(3,AV.ptr 1 0)]) (fun _ a14=>[Ob.var 61 [iA (Aa.mod),AV.sl 1 (List.map A0 (Aa.init)),AV.sl 1 (List.map A0 (Aa.regs)),AV.sl 1 (List.map Ah (Aa.code))],Ob.var 90 [AV.sl 1 (List.map A0 (B7.pc)),AV.sl 1 (List.map Ag (B7.regs)),AV.sl 1 (List.map A0 (B7.mem)),AV.sl 1 (List.map An (B7.buf))]]) (fun v=>(bA v,[])) (fun k s=>Kn n Aa B7 k s) (fun s=>rfl) o9 n 0 (fun _=>0) ho9 ?_ ?_
 intro k2 s1 a3 K4 cont5 hK6 hcont7 h hr8
 replace h:Kn n Aa B7 (k2+1) s1=some o9:=h
 rw[Kn] at h
 conv=>lhs;whnf
 revert h
 refine br ?_ ?_
 refine ca hc (fun _ h=>A3v h) ?_;intro y11
 refine br ?_ ?_
 exact fun h=>cq (hcont7 (IntKind.i64.wrap (s1+1)) (fun _=>0) h)
 intro h;cases sj h
 refine(hK6 _ _).trans ?_
 refine Eq.trans ?_ (Eq.symm (show _=some _ from hr8))
 conv=>lhs;whnf
 exact rq
 intro h;cases sj h
 exact kq (hr8 (fun _=>0))
 refine lrc ?_ ?_
 intro v e;subst e;cases sj h;rfl
 intro t a14 e;subst e
 dsimp only at h
 conv=>lhs;whnf
 revert h
 refine ca hc (fun _ h=>A3o h) ?_;intro y15
 exact rz
theorem Lv {n:Nat} ⦃Aa:Ak⦄ ⦃Az:Int⦄ ⦃r:Int⦄:Fo n Aa Az=some r→CN n 35 [AV.agg [iA (Aa.mod),AV.sl 1 (List.map A0 (Aa.init)),AV.sl 1 (List.map A0 (Aa.regs)),AV.sl 1 (List.map Ah (Aa.code))],iA Az] []=some (iA r,[]):=by
 intro h;rcases n with _|n;cases h
 rw[Fo] at h
 refine Au Tryz.func35 (by rfl) rfl rfl (B4 rfl) ?_
 intro call hc;conv=>lhs;whnf
 revert h
 refine ca hc (fun _ h=>V7 h) ?_;intro y1
 refine br ?_ ?_
 refine br ?_ ?_
 exact rz
 refine br ?_ ?_
 exact rz
 refine br ?_ ?_
 exact rz
 exact rz
 exact rz
theorem O7 {n:Nat} ⦃Aa:Ak⦄ ⦃B7:Ac⦄ ⦃B1:Int⦄ ⦃Bd:Int⦄ ⦃Kq:Int⦄ ⦃r:Bool⦄:Gx n Aa B7 B1 Bd Kq=some r→CN n 48 [AV.agg [iA (Aa.mod),AV.sl 1 (List.map A0 (Aa.init)),AV.sl 1 (List.map A0 (Aa.regs)),AV.sl 1 (List.map Ah (Aa.code))],AV.agg [AV.sl 1 (List.map A0 (B7.pc)),AV.sl 1 (List.map Ag (B7.regs)),AV.sl 1 (List.map A0 (B7.mem)),AV.sl 1 (List.map An (B7.buf))],iA B1,iA Bd,iA Kq] []=some (bA r,[]):=by
 intro h;rcases n with _|n;cases h
 rw[Gx] at h
 refine Au Tryz.func48 (by rfl) rfl rfl (B4 rfl) ?_
 intro call hc;conv=>lhs;whnf
 revert h
 refine br ?_ ?_
 exact rz
 refine ca hc (fun _ h=>Lv h) ?_;intro y2
 refine br ?_ ?_
 exact rz
 refine br ?_ ?_
 refine ca hc (fun _ h=>A1d h) ?_;intro y6
 exact rz
 refine br ?_ ?_
 refine cr hc (fun _ h=>T7 h) ?_;intro y9
 exact rz
 refine bf ?_
 refine bf ?_
 refine cr hc (fun _ h=>T7 h) ?_;intro y13
 exact rz
theorem A9x {n:Nat} ⦃Aa:Ak⦄ ⦃B7:Ac⦄ ⦃B1:Int⦄ ⦃Bd:Int⦄ ⦃Kq:Int⦄ ⦃r:(Ac×Bool)⦄:Ni n Aa B7 B1 Bd Kq=some r→CN n 29 [AV.agg [iA (Aa.mod),AV.sl 1 (List.map A0 (Aa.init)),AV.sl 1 (List.map A0 (Aa.regs)),AV.sl 1 (List.map Ah (Aa.code))],AV.agg [AV.sl 1 (List.map A0 (B7.pc)),AV.sl 1 (List.map Ag (B7.regs)),AV.sl 1 (List.map A0 (B7.mem)),AV.sl 1 (List.map An (B7.buf))],iA B1,iA Bd,iA Kq] []=some (AV.tup [AV.agg [AV.sl 1 (List.map A0 (r.1.pc)),AV.sl 1 (List.map Ag (r.1.regs)),AV.sl 1 (List.map A0 (r.1.mem)),AV.sl 1 (List.map An (r.1.buf))],bA r.2],[]):=by
 intro h;rcases n with _|n;cases h
 rw[Ni] at h
 refine Au Tryz.func29 (by rfl) rfl rfl (B4 rfl) ?_
 intro call hc;conv=>lhs;whnf
 revert h
 refine ca hc (fun _ h=>O7 h) ?_;intro y1
 refine br ?_ ?_
 refine br ?_ ?_
 refine ca hc (fun _ h=>A8q h) ?_;intro y5
 exact rz
 refine br ?_ ?_
 refine cr hc (fun _ h=>Vk h) ?_;intro y8
 exact rz
 refine bf ?_
 refine bf ?_
 refine cr hc (fun _ h=>Vk h) ?_;intro y12
 exact rz
 refine ca hc (fun _ h=>A6z h) ?_;intro y14
 exact rz
theorem Vl {n:Nat} ⦃Aa:Ak⦄ ⦃B7:Ac⦄ ⦃B1:Int⦄ ⦃Bd:Int⦄ ⦃r:(List Int)⦄:J3 n Aa B7 B1 Bd=some r→CN n 28 [AV.agg [iA (Aa.mod),AV.sl 1 (List.map A0 (Aa.init)),AV.sl 1 (List.map A0 (Aa.regs)),AV.sl 1 (List.map Ah (Aa.code))],AV.agg [AV.sl 1 (List.map A0 (B7.pc)),AV.sl 1 (List.map Ag (B7.regs)),AV.sl 1 (List.map A0 (B7.mem)),AV.sl 1 (List.map An (B7.buf))],iA B1,iA Bd] []=some (AV.sl 1 (List.map A0 r),[]):=by
 intro h;rcases n with _|n;cases h
 rw[J3] at h
 refine Au Tryz.func28 (by rfl) rfl rfl (B4 rfl) ?_
 intro call hc;conv=>lhs;whnf
 revert h
 intro h;refine Ae h ?_;clear h;intro o10 ho10 h
 refine lq (σ:=(Int×(List Int))) (τ:=(List Int)) (ν:=(List Int)) 0 (fun(s1,s2) a4=>Ax 29 [(2,iA B1),(3,iA Bd),(4,AV.ptr 0 0),(5,AV.ptr 1 0),(9,AV.row 2 (List.length s2)),(10,iA s1)]) (fun(s1,s2) a4=>[Ob.var 61 [iA (Aa.mod),AV.sl 1 (List.map A0 (Aa.init)),AV.sl 1 (List.map A0 (Aa.regs)),AV.sl 1 (List.map Ah (Aa.code))],Ob.var 90 [AV.sl 1 (List.map A0 (B7.pc)),AV.sl 1 (List.map Ag (B7.regs)),AV.sl 1 (List.map A0 (B7.mem)),AV.sl 1 (List.map An (B7.buf))],Ob.row 3 1 (List.map A0 s2)]) (fun x20 a19=>Ax 29 [(9,AV.row 2 (List.length x20))]) (fun x20 a19=>[Ob.var 61 [iA (Aa.mod),AV.sl 1 (List.map A0 (Aa.init)),AV.sl 1 (List.map A0 (Aa.regs)),AV.sl 1 (List.map Ah (Aa.code))],Ob.var 90 [AV.sl 1 (List.map A0 (B7.pc)),AV.sl 1 (List.map Ag (B7.regs)),AV.sl 1 (List.map A0 (B7.mem)),AV.sl 1 (List.map An (B7.buf))],Ob.row 3 1 (List.map A0 x20)]) (fun v=>(AV.sl 1 (List.map A0 v),[])) (fun k s=>Fl n Aa B7 B1 Bd k s.1 s.2) (fun s=>rfl) o10 n (0,([]:List Int)) (fun _=>0) ho10 ?_ ?_
 intro k3 ss a4 K5 cont6 hK7 hcont8 h hr9
 obtain⟨s1,s2⟩:=ss
 replace h:Fl n Aa B7 B1 Bd (k3+1) s1 s2=some o10:=h
 rw[Fl] at h
 conv=>lhs;whnf
 revert h
 refine ca hc (fun _ h=>Lv h) ?_;intro y11
 refine br ?_ ?_
 refine ca hc (fun _ h=>O7 h) ?_;intro y14
 refine br ?_ ?_
 refine ar (ap A0 (List.map A0 s2) s2 ([[iA s1]]) ([s1]:List Int)) ?_
 exact fun h=>cq (hcont8 (IntKind.i64.wrap (s1+1),(s2++([s1]:List Int))) (fun _=>0) h)
 exact fun h=>cq (hcont8 (IntKind.i64.wrap (s1+1),s2) (fun _=>0) h)
 intro h;cases sj h
 exact kq (hr9 (fun _=>0))
 refine lrc ?_ ?_
 intro v e;subst e;cases sj h;rfl
 intro x20 a19 e;subst e
 dsimp only at h
 conv=>lhs;whnf
 revert h
 intro h;obtain rfl:=sj h
 try simp only[ls]
 exact fq (y:=some (AV.sl 1 (List.take (List.length x20) (List.map A0 x20)),[]))
theorem A74 {n:Nat} ⦃Aa:Ak⦄ ⦃B7:Ac⦄ ⦃B1:Int⦄ ⦃Bd:Int⦄ ⦃r:Bool⦄:Sr n Aa B7 B1 Bd=some r→CN n 53 [AV.agg [iA (Aa.mod),AV.sl 1 (List.map A0 (Aa.init)),AV.sl 1 (List.map A0 (Aa.regs)),AV.sl 1 (List.map Ah (Aa.code))],AV.agg [AV.sl 1 (List.map A0 (B7.pc)),AV.sl 1 (List.map Ag (B7.regs)),AV.sl 1 (List.map A0 (B7.mem)),AV.sl 1 (List.map An (B7.buf))],iA B1,iA Bd] []=some (bA r,[]):=by
 intro h;rcases n with _|n;cases h
 rw[Sr] at h
 refine Au Tryz.func53 (by rfl) rfl rfl (B4 rfl) ?_
 intro call hc;conv=>lhs;whnf
 revert h
 refine ca hc (fun _ h=>Vl h) ?_;intro y1
 refine br ?_ ?_
 refine ca hc (fun _ h=>Vb h) ?_;intro y4
 exact rz
 exact rz
theorem Pv {n:Nat} ⦃G7:Int⦄ ⦃E3:(List A9)⦄ ⦃r:(Aq×Int)⦄:I3 n G7 E3=some r→CN n 31 [iA G7,AV.sl 3 (List.map Bo E3)] []=some (AV.tup [AV.agg [AV.sl 1 (List.map A0 r.1.Am),AV.sl 1 (List.map A0 r.1.Aj),AV.sl 1 (List.map A0 r.1.Aw)],iA r.2],[]):=by
 intro h;rcases n with _|n;cases h
 rw[I3] at h
 refine Au Tryz.func31 (by rfl) rfl rfl (B4 rfl) ?_
 intro call hc;conv=>lhs;whnf
 revert h
 refine br ?_ ?_
 exact rz
 refine br ?_ ?_
 exact rz
 intro h;refine Ae h ?_;clear h;intro o11 ho11 h
 refine lq (σ:=Int) (τ:=Unit) (ν:=(Aq×Int)) 0 (fun s3 a5=>Ax 117 [(0,iA G7),(1,AV.sl 3 (List.map Bo E3)),(4,AV.ptr 0 0),(6,iA s3)]) (fun s3 a5=>[Ob.var 66 [AV.row 1 (List.length (([]:List Int))),AV.row 2 (List.length (([]:List Int))),AV.row 3 (List.length (([]:List Int)))],Ob.row 3 1 ([]),Ob.row 3 1 ([]),Ob.row 3 1 ([])]) (fun _ a23=>Ax 117 [(0,iA G7),(1,AV.sl 3 (List.map Bo E3)),(4,AV.ptr 0 0)]) (fun _ a23=>[Ob.var 66 [AV.row 1 (List.length (([]:List Int))),AV.row 2 (List.length (([]:List Int))),AV.row 3 (List.length (([]:List Int)))],Ob.row 3 1 ([]),Ob.row 3 1 ([]),Ob.row 3 1 ([])]) (fun v=>(AV.tup [AV.agg [AV.sl 1 (List.map A0 v.1.Am),AV.sl 1 (List.map A0 v.1.Aj),AV.sl 1 (List.map A0 v.1.Aw)],iA v.2],[])) (fun k s=>Fj n G7 E3 k s) (fun s=>rfl) o11 n 0 (fun _=>0) ho11 ?_ ?_
 intro k4 s3 a5 K6 cont7 hK8 hcont9 h hr10
 replace h:Fj n G7 E3 (k4+1) s3=some o11:=h
 rw[Fj] at h
 conv=>lhs;whnf
 revert h
 refine br ?_ ?_
 refine ix ?_;intro x13
 refine br ?_ ?_
 intro h;cases sj h
 refine(hK8 _ _).trans ?_
 refine Eq.trans ?_ (Eq.symm (show _=some _ from hr10))
 conv=>lhs;whnf
 exact rq
 refine ix ?_;intro x15
 refine br ?_ ?_
 intro h;cases sj h
 refine(hK8 _ _).trans ?_
 refine Eq.trans ?_ (Eq.symm (show _=some _ from hr10))
 conv=>lhs;whnf
 exact rq
 refine ix ?_;intro x17
 refine br ?_ ?_
 intro h;cases sj h
 refine(hK8 _ _).trans ?_
 refine Eq.trans ?_ (Eq.symm (show _=some _ from hr10))
 conv=>lhs;whnf
 exact rq
 refine ix ?_;intro x19
 refine br ?_ ?_
 intro h;cases sj h
 refine(hK8 _ _).trans ?_
 refine Eq.trans ?_ (Eq.symm (show _=some _ from hr10))
 conv=>lhs;whnf
 exact rq
 refine ix ?_;intro x21
 refine br ?_ ?_
 intro h;cases sj h
 refine(hK8 _ _).trans ?_
 refine Eq.trans ?_ (Eq.symm (show _=some _ from hr10))
 conv=>lhs;whnf
 exact rq
 exact fun h=>cq (hcont9 (IntKind.i64.wrap (s3+1)) (fun _=>0) h)
 intro h;cases sj h
 exact kq (hr10 (fun _=>0))
 refine lrc ?_ ?_
 intro v e;subst e;cases sj h;rfl
 intro t a23 e;subst e
 dsimp only at h
 conv=>lhs;whnf
 revert h
 intro h;refine Ae h ?_;clear h;intro o35 ho35 h
 refine lq (σ:=(Int×(List Int)×(List Int)×(List Int))) (τ:=((List Int)×(List Int)×(List Int))) (ν:=(Aq×Int)) 2 (fun(s24,s25,s26,s27) a29=>Ax 117 [(0,iA G7),(1,AV.sl 3 (List.map Bo E3)),(4,AV.ptr 0 0),(7,AV.ptr 4 0),(8,iA s24)]) (fun(s24,s25,s26,s27) a29=>[Ob.var 66 [AV.row 1 (List.length (([]:List Int))),AV.row 2 (List.length (([]:List Int))),AV.row 3 (List.length (([]:List Int)))],Ob.row 3 1 ([]),Ob.row 3 1 ([]),Ob.row 3 1 ([]),Ob.var 66 [AV.row 5 (List.length s25),AV.row 6 (List.length s26),AV.row 7 (List.length s27)],Ob.row 3 1 (List.map A0 s25),Ob.row 3 1 (List.map A0 s26),Ob.row 3 1 (List.map A0 s27)]) (fun(x64,x65,x66) a63=>Ax 117 [(4,AV.ptr 0 0),(7,AV.ptr 4 0)]) (fun(x64,x65,x66) a63=>[Ob.var 66 [AV.row 1 (List.length (([]:List Int))),AV.row 2 (List.length (([]:List Int))),AV.row 3 (List.length (([]:List Int)))],Ob.row 3 1 ([]),Ob.row 3 1 ([]),Ob.row 3 1 ([]),Ob.var 66 [AV.row 5 (List.length x64),AV.row 6 (List.length x65),AV.row 7 (List.length x66)],Ob.row 3 1 (List.map A0 x64),Ob.row 3 1 (List.map A0 x65),Ob.row 3 1 (List.map A0 x66)]) (fun v=>(AV.tup [AV.agg [AV.sl 1 (List.map A0 v.1.Am),AV.sl 1 (List.map A0 v.1.Aj),AV.sl 1 (List.map A0 v.1.Aw)],iA v.2],[])) (fun k s=>Fm n G7 E3 k s.1 s.2.1 s.2.2.1 s.2.2.2) (fun s=>rfl) o35 n (0,([0]:List Int),([]:List Int),([]:List Int)) (fun _=>0) ho35 ?_ ?_
 intro k28 ss a29 K30 cont31 hK32 hcont33 h hr34
 obtain⟨s24,s25,s26,s27⟩:=ss
 replace h:Fm n G7 E3 (k28+1) s24 s25 s26 s27=some o35:=h
 rw[Fm] at h
 conv=>lhs;whnf
 revert h
 refine br ?_ ?_
 intro h;refine Ae h ?_;clear h;intro o47 ho47 h
 refine lq (σ:=(Int×(List Int)×(List Int))) (τ:=((List Int)×(List Int))) (ν:=(Aq×Int)) 4 (fun(s37,s38,s39) a41=>Ax 117 [(0,iA G7),(1,AV.sl 3 (List.map Bo E3)),(4,AV.ptr 0 0),(7,AV.ptr 4 0),(8,iA s24),(9,iA s37)]) (fun(s37,s38,s39) a41=>[Ob.var 66 [AV.row 1 (List.length (([]:List Int))),AV.row 2 (List.length (([]:List Int))),AV.row 3 (List.length (([]:List Int)))],Ob.row 3 1 ([]),Ob.row 3 1 ([]),Ob.row 3 1 ([]),Ob.var 66 [AV.row 5 (List.length s25),AV.row 6 (List.length s38),AV.row 7 (List.length s39)],Ob.row 3 1 (List.map A0 s25),Ob.row 3 1 (List.map A0 s38),Ob.row 3 1 (List.map A0 s39)]) (fun(x58,x59) a57=>Ax 117 [(0,iA G7),(1,AV.sl 3 (List.map Bo E3)),(4,AV.ptr 0 0),(7,AV.ptr 4 0),(8,iA s24)]) (fun(x58,x59) a57=>[Ob.var 66 [AV.row 1 (List.length (([]:List Int))),AV.row 2 (List.length (([]:List Int))),AV.row 3 (List.length (([]:List Int)))],Ob.row 3 1 ([]),Ob.row 3 1 ([]),Ob.row 3 1 ([]),Ob.var 66 [AV.row 5 (List.length s25),AV.row 6 (List.length x58),AV.row 7 (List.length x59)],Ob.row 3 1 (List.map A0 s25),Ob.row 3 1 (List.map A0 x58),Ob.row 3 1 (List.map A0 x59)]) (fun v=>(AV.tup [AV.agg [AV.sl 1 (List.map A0 v.1.Am),AV.sl 1 (List.map A0 v.1.Aj),AV.sl 1 (List.map A0 v.1.Aw)],iA v.2],[])) (fun k s=>Eg n E3 s24 k s.1 s.2.1 s.2.2) (fun s=>rfl) o47 n (0,s26,s27) (fun _=>0) ho47 ?_ ?_
 intro k40 ss a41 K42 cont43 hK44 hcont45 h hr46
 obtain⟨s37,s38,s39⟩:=ss
 replace h:Eg n E3 s24 (k40+1) s37 s38 s39=some o47:=h
 rw[Eg] at h
 conv=>lhs;whnf
 revert h
 refine br ?_ ?_
 refine ix ?_;intro x49
 refine br ?_ ?_
 refine ix ?_;intro x51
 refine ar (ap A0 (List.map A0 s38) s38 ([[iA x51.Aj]]) ([x51.Aj]:List Int)) ?_
 refine ix ?_;intro x54
 refine ar (ap A0 (List.map A0 s39) s39 ([[iA x54.Aw]]) ([x54.Aw]:List Int)) ?_
 exact fun h=>cq (hcont45 (IntKind.i64.wrap (s37+1),(s38++([x51.Aj]:List Int)),(s39++([x54.Aw]:List Int))) (fun _=>0) h)
 exact fun h=>cq (hcont45 (IntKind.i64.wrap (s37+1),s38,s39) (fun _=>0) h)
 intro h;cases sj h
 exact kq (hr46 (fun _=>0))
 refine lrc ?_ ?_
 intro v e;subst e;cases sj h;exact hr34
 intro t a57 e;subst e
 obtain⟨x58,x59⟩:=t
 dsimp only at h
 conv=>lhs;whnf
 revert h
 refine ar (ap A0 (List.map A0 s25) s25 ([[iA (((x59.length:Nat):Int))]]) ([((x59.length:Nat):Int)]:List Int)) ?_
 exact fun h=>cq (hcont33 (IntKind.i64.wrap (s24+1),(s25++([((x59.length:Nat):Int)]:List Int)),x58,x59) (fun _=>0) h)
 intro h;cases sj h
 exact kq (hr34 (fun _=>0))
 refine lrc ?_ ?_
 intro v e;subst e;cases sj h;rfl
 intro t a63 e;subst e
 obtain⟨x64,x65,x66⟩:=t
 dsimp only at h
 conv=>lhs;whnf
 revert h
 intro h;cases sj h
 try simp only[ls]
 exact fq (y:=some (AV.tup [AV.agg [AV.sl 1 (List.take (List.length x64) (List.map A0 x64)),AV.sl 1 (List.take (List.length x65) (List.map A0 x65)),AV.sl 1 (List.take (List.length x66) (List.map A0 x66))],iA (0)],[]))
theorem Ii {n:Nat} ⦃A7:Aq⦄ ⦃r:Bool⦄:Ff n A7=some r→CN n 132 [AV.agg [AV.sl 1 (List.map A0 A7.Am),AV.sl 1 (List.map A0 A7.Aj),AV.sl 1 (List.map A0 A7.Aw)]] []=some (bA r,[]):=by
 intro h;rcases n with _|n;cases h
 rw[Ff] at h
 refine Au Tryz.func132 (by rfl) rfl rfl (B4 rfl) ?_
 intro call hc;conv=>lhs;whnf
 revert h
 refine br ?_ ?_
 exact rz
 refine ix ?_;intro x2
 refine br ?_ ?_
 exact rz
 refine ix ?_;intro x4
 refine br ?_ ?_
 exact rz
 refine br ?_ ?_
 exact rz
 intro h;refine Ae h ?_;clear h;intro o15 ho15 h
 refine lq (σ:=Int) (τ:=Unit) (ν:=Bool) 0 (fun s7 a9=>Ax 86 [(1,AV.ptr 0 0),(3,iA (IntKind.i64.wrap (((A7.Am.length:Nat):Int) - 1))),(4,iA s7)]) (fun s7 a9=>[Ob.var 66 [AV.sl 1 (List.map A0 A7.Am),AV.sl 1 (List.map A0 A7.Aj),AV.sl 1 (List.map A0 A7.Aw)]]) (fun _ a20=>Ax 86 [(1,AV.ptr 0 0),(3,iA (IntKind.i64.wrap (((A7.Am.length:Nat):Int) - 1)))]) (fun _ a20=>[Ob.var 66 [AV.sl 1 (List.map A0 A7.Am),AV.sl 1 (List.map A0 A7.Aj),AV.sl 1 (List.map A0 A7.Aw)]]) (fun v=>(bA v,[])) (fun k s=>Fi n A7 k s) (fun s=>rfl) o15 n 0 (fun _=>0) ho15 ?_ ?_
 intro k8 s7 a9 K10 cont11 hK12 hcont13 h hr14
 replace h:Fi n A7 (k8+1) s7=some o15:=h
 rw[Fi] at h
 conv=>lhs;whnf
 revert h
 refine br ?_ ?_
 refine ix ?_;intro x17
 refine ix ?_;intro x18
 refine br ?_ ?_
 intro h;cases sj h
 refine(hK12 _ _).trans ?_
 refine Eq.trans ?_ (Eq.symm (show _=some _ from hr14))
 conv=>lhs;whnf
 exact rq
 exact fun h=>cq (hcont13 (IntKind.i64.wrap (s7+1)) (fun _=>0) h)
 intro h;cases sj h
 exact kq (hr14 (fun _=>0))
 refine lrc ?_ ?_
 intro v e;subst e;cases sj h;rfl
 intro t a20 e;subst e
 dsimp only at h
 conv=>lhs;whnf
 revert h
 intro h;refine Ae h ?_;clear h;intro o29 ho29 h
 refine lq (σ:=Int) (τ:=Unit) (ν:=Bool) 2 (fun s21 a23=>Ax 86 [(1,AV.ptr 0 0),(3,iA (IntKind.i64.wrap (((A7.Am.length:Nat):Int) - 1))),(5,iA s21)]) (fun s21 a23=>[Ob.var 66 [AV.sl 1 (List.map A0 A7.Am),AV.sl 1 (List.map A0 A7.Aj),AV.sl 1 (List.map A0 A7.Aw)]]) (fun _ a37=>Ax 86 []) (fun _ a37=>[Ob.var 66 [AV.sl 1 (List.map A0 A7.Am),AV.sl 1 (List.map A0 A7.Aj),AV.sl 1 (List.map A0 A7.Aw)]]) (fun v=>(bA v,[])) (fun k s=>Fq n A7 k s) (fun s=>rfl) o29 n 0 (fun _=>0) ho29 ?_ ?_
 intro k22 s21 a23 K24 cont25 hK26 hcont27 h hr28
 replace h:Fq n A7 (k22+1) s21=some o29:=h
 rw[Fq] at h
 conv=>lhs;whnf
 revert h
 refine br ?_ ?_
 refine ix ?_;intro x31
 refine br ?_ ?_
 intro h;cases sj h
 refine(hK26 _ _).trans ?_
 refine Eq.trans ?_ (Eq.symm (show _=some _ from hr28))
 conv=>lhs;whnf
 exact rq
 refine ix ?_;intro x33
 refine br ?_ ?_
 intro h;cases sj h
 refine(hK26 _ _).trans ?_
 refine Eq.trans ?_ (Eq.symm (show _=some _ from hr28))
 conv=>lhs;whnf
 exact rq
 refine ix ?_;intro x35
 refine br ?_ ?_
 intro h;cases sj h
 refine(hK26 _ _).trans ?_
 refine Eq.trans ?_ (Eq.symm (show _=some _ from hr28))
 conv=>lhs;whnf
 exact rq
 exact fun h=>cq (hcont27 (IntKind.i64.wrap (s21+1)) (fun _=>0) h)
 intro h;cases sj h
 exact kq (hr28 (fun _=>0))
 refine lrc ?_ ?_
 intro v e;subst e;cases sj h;rfl
 intro t a37 e;subst e
 dsimp only at h
 conv=>lhs;whnf
 revert h
 exact rz
theorem Km {n:Nat} ⦃A7:Aq⦄ ⦃r:(List A9)⦄:Gn n A7=some r→CN n 134 [AV.agg [AV.sl 1 (List.map A0 A7.Am),AV.sl 1 (List.map A0 A7.Aj),AV.sl 1 (List.map A0 A7.Aw)]] []=some (AV.sl 3 (List.map Bo r),[]):=by
 intro h;rcases n with _|n;cases h
 rw[Gn] at h
 refine Au Tryz.func134 (by rfl) rfl rfl (B4 rfl) ?_
 intro call hc;conv=>lhs;whnf
 revert h
 refine ca hc (fun _ h=>Ii h) ?_;intro y1
 refine br ?_ ?_
 intro h;refine Ae h ?_;clear h;intro o13 ho13 h
 refine lq (σ:=(Int×(List A9))) (τ:=(List A9)) (ν:=(List A9)) 0 (fun(s4,s5) a7=>Ax 48 [(1,AV.ptr 0 0),(3,AV.row 1 (List.length s5)),(4,iA s4)]) (fun(s4,s5) a7=>[Ob.var 66 [AV.sl 1 (List.map A0 A7.Am),AV.sl 1 (List.map A0 A7.Aj),AV.sl 1 (List.map A0 A7.Aw)],Ob.row 99 3 (List.map Bo s5)]) (fun x36 a35=>Ax 48 [(3,AV.row 1 (List.length x36))]) (fun x36 a35=>[Ob.var 66 [AV.sl 1 (List.map A0 A7.Am),AV.sl 1 (List.map A0 A7.Aj),AV.sl 1 (List.map A0 A7.Aw)],Ob.row 99 3 (List.map Bo x36)]) (fun v=>(AV.sl 3 (List.map Bo v),[])) (fun k s=>Gu n A7 k s.1 s.2) (fun s=>rfl) o13 n (0,([]:List A9)) (fun _=>0) ho13 ?_ ?_
 intro k6 ss a7 K8 cont9 hK10 hcont11 h hr12
 obtain⟨s4,s5⟩:=ss
 replace h:Gu n A7 (k6+1) s4 s5=some o13:=h
 rw[Gu] at h
 conv=>lhs;whnf
 revert h
 refine br ?_ ?_
 refine ix ?_;intro x15
 intro h;refine Ae h ?_;clear h;intro o25 ho25 h
 refine lq (σ:=(Int×(List A9))) (τ:=(List A9)) (ν:=(List A9)) 2 (fun(s16,s17) a19=>Ax 48 [(1,AV.ptr 0 0),(3,AV.row 1 (List.length s17)),(4,iA s4),(5,iA s16)]) (fun(s16,s17) a19=>[Ob.var 66 [AV.sl 1 (List.map A0 A7.Am),AV.sl 1 (List.map A0 A7.Aj),AV.sl 1 (List.map A0 A7.Aw)],Ob.row 99 3 (List.map Bo s17)]) (fun x33 a32=>Ax 48 [(1,AV.ptr 0 0),(3,AV.row 1 (List.length x33)),(4,iA s4)]) (fun x33 a32=>[Ob.var 66 [AV.sl 1 (List.map A0 A7.Am),AV.sl 1 (List.map A0 A7.Aj),AV.sl 1 (List.map A0 A7.Aw)],Ob.row 99 3 (List.map Bo x33)]) (fun v=>(AV.sl 3 (List.map Bo v),[])) (fun k s=>Hn n A7 s4 k s.1 s.2) (fun s=>rfl) o25 n (x15,s5) (fun _=>0) ho25 ?_ ?_
 intro k18 ss a19 K20 cont21 hK22 hcont23 h hr24
 obtain⟨s16,s17⟩:=ss
 replace h:Hn n A7 s4 (k18+1) s16 s17=some o25:=h
 rw[Hn] at h
 conv=>lhs;whnf
 revert h
 refine ix ?_;intro x26
 refine br ?_ ?_
 refine ix ?_;intro x28
 refine ix ?_;intro x29
 refine ar (ap Bo (List.map Bo s17) s17 ([[iA s4,iA x28,iA x29]]) ([(⟨s4,x28,x29⟩:A9)]:List A9)) ?_
 exact fun h=>cq (hcont23 (IntKind.i64.wrap (s16+1),(s17++([(⟨s4,x28,x29⟩:A9)]:List A9))) (fun _=>0) h)
 intro h;cases sj h
 exact kq (hr24 (fun _=>0))
 refine lrc ?_ ?_
 intro v e;subst e;cases sj h;exact hr12
 intro x33 a32 e;subst e
 dsimp only at h
 conv=>lhs;whnf
 revert h
 exact fun h=>cq (hcont11 (IntKind.i64.wrap (s4+1),x33) (fun _=>0) h)
 intro h;cases sj h
 exact kq (hr12 (fun _=>0))
 refine lrc ?_ ?_
 intro v e;subst e;cases sj h;rfl
 intro x36 a35 e;subst e
 dsimp only at h
 conv=>lhs;whnf
 revert h
 intro h;obtain rfl:=sj h
 try simp only[ls]
 exact fq (y:=some (AV.sl 3 (List.take (List.length x36) (List.map Bo x36)),[]))
 exact rz
theorem Ki {n:Nat} ⦃A7:Aq⦄ ⦃r:Int⦄:Gf n A7=some r→CN n 133 [AV.agg [AV.sl 1 (List.map A0 A7.Am),AV.sl 1 (List.map A0 A7.Aj),AV.sl 1 (List.map A0 A7.Aw)]] []=some (iA r,[]):=by
 intro h;rcases n with _|n;cases h
 rw[Gf] at h
 refine Au Tryz.func133 (by rfl) rfl rfl (B4 rfl) ?_
 intro call hc;conv=>lhs;whnf
 revert h
 refine ca hc (fun _ h=>Ii h) ?_;intro y1
 refine br ?_ ?_
 exact rz
 exact rz
theorem Qe {n:Nat} ⦃A3j:(List Bool)⦄ ⦃Aao:Int⦄ ⦃r:Bool⦄:Jl n A3j Aao=some r→CN n 183 [AV.sl 1 (List.map Av A3j),iA Aao] []=some (bA r,[]):=by
 intro h;rcases n with _|n;cases h
 rw[Jl] at h
 refine Au Tryz.func183 (by rfl) rfl rfl (B4 rfl) ?_
 intro call hc;conv=>lhs;whnf
 revert h
 refine br ?_ ?_
 refine ix ?_;intro x2
 exact rz
 exact rz
theorem A7d {n:Nat} ⦃A7:Aq⦄ ⦃C9:(List Bool)⦄ ⦃r:Aq⦄:Mi n A7 C9=some r→CN n 175 [AV.agg [AV.sl 1 (List.map A0 A7.Am),AV.sl 1 (List.map A0 A7.Aj),AV.sl 1 (List.map A0 A7.Aw)],AV.own 0 0 (List.length C9)] [Ob.arr 1 (List.map Av C9)]=some (AV.agg [AV.sl 1 (List.map A0 r.Am),AV.sl 1 (List.map A0 r.Aj),AV.sl 1 (List.map A0 r.Aw)],[Ob.arr 1 (List.map Av C9)]):=by
 intro h;rcases n with _|n;cases h
 rw[Mi] at h
 refine Au Tryz.func175 (by rfl) rfl rfl (B4 rfl) ?_
 intro call hc;conv=>lhs;whnf
 revert h
 refine ca hc (fun _ h=>Ii h) ?_;intro y1
 refine br ?_ ?_
 refine ca hc (fun _ h=>Km h) ?_;intro y4
 intro h;refine Ae h ?_;clear h;intro o15 ho15 h
 refine lq (σ:=(Int×(List A9))) (τ:=(List A9)) (ν:=Aq) 0 (fun(s6,s7) a9=>Ax 53 [(1,AV.own 0 0 (List.length C9)),(2,AV.ptr 1 0),(4,AV.ptr 2 0),(5,AV.sl 3 (List.map Bo y4)),(6,AV.row 3 (List.length s7)),(7,iA s6)]) (fun(s6,s7) a9=>[Ob.arr 1 (List.map Av C9),Ob.var 66 [AV.sl 1 (List.map A0 A7.Am),AV.sl 1 (List.map A0 A7.Aj),AV.sl 1 (List.map A0 A7.Aw)],Ob.var 66 [AV.nils,AV.nils,AV.nils],Ob.row 99 3 (List.map Bo s7)]) (fun x29 a28=>Ax 53 [(2,AV.ptr 1 0),(4,AV.ptr 2 0),(6,AV.row 3 (List.length x29))]) (fun x29 a28=>[Ob.arr 1 (List.map Av C9),Ob.var 66 [AV.sl 1 (List.map A0 A7.Am),AV.sl 1 (List.map A0 A7.Aj),AV.sl 1 (List.map A0 A7.Aw)],Ob.var 66 [AV.nils,AV.nils,AV.nils],Ob.row 99 3 (List.map Bo x29)]) (fun v=>(AV.agg [AV.sl 1 (List.map A0 v.Am),AV.sl 1 (List.map A0 v.Aj),AV.sl 1 (List.map A0 v.Aw)],[Ob.arr 1 (List.map Av C9)])) (fun k s=>Ed n C9 y4 k s.1 s.2) (fun s=>rfl) o15 n (0,([]:List A9)) (fun _=>0) ho15 ?_ ?_
 intro k8 ss a9 K10 cont11 hK12 hcont13 h hr14
 obtain⟨s6,s7⟩:=ss
 replace h:Ed n C9 y4 (k8+1) s6 s7=some o15:=h
 rw[Ed] at h
 conv=>lhs;whnf
 revert h
 refine br ?_ ?_
 refine ix ?_;intro x17
 refine cr hc (fun _ h=>Qe h) ?_;intro y18
 refine br ?_ ?_
 refine ix ?_;intro x21
 refine cr hc (fun _ h=>Qe h) ?_;intro y22
 refine br ?_ ?_
 refine ix ?_;intro x25
 refine ar (ap Bo (List.map Bo s7) s7 ([[iA x25.C2,iA x25.Aj,iA x25.Aw]]) ([x25]:List A9)) ?_
 exact fun h=>cq (hcont13 (IntKind.i64.wrap (s6+1),(s7++([x25]:List A9))) (fun _=>0) h)
 exact fun h=>cq (hcont13 (IntKind.i64.wrap (s6+1),s7) (fun _=>0) h)
 exact fun h=>cq (hcont13 (IntKind.i64.wrap (s6+1),s7) (fun _=>0) h)
 intro h;cases sj h
 exact kq (hr14 (fun _=>0))
 refine lrc ?_ ?_
 intro v e;subst e;cases sj h;rfl
 intro x29 a28 e;subst e
 dsimp only at h
 conv=>lhs;whnf
 revert h
 refine ca hc (fun _ h=>Ki h) ?_;intro y30
 refine cr hc (fun _ h=>Pv h) ?_;intro y32
 intro h;cases sj h
 try simp only[ls]
 exact fq (y:=some (AV.agg [AV.sl 1 (List.map A0 y32.1.Am),AV.sl 1 (List.map A0 y32.1.Aj),AV.sl 1 (List.map A0 y32.1.Aw)],[Ob.arr 1 (List.map Av C9)]))
 intro h;cases sj h
 try simp only[ls]
 exact fq (y:=some (AV.agg [AV.sl 1 [],AV.sl 1 [],AV.sl 1 []],[Ob.arr 1 (List.map Av C9)]))
theorem A52 {n:Nat} ⦃A7:Aq⦄ ⦃Hg:(List Int)⦄ ⦃r:(List Bool)⦄:Lh n A7 Hg=some r→CN n 172 [AV.agg [AV.sl 1 (List.map A0 A7.Am),AV.sl 1 (List.map A0 A7.Aj),AV.sl 1 (List.map A0 A7.Aw)],AV.sl 1 (List.map A0 Hg)] []=some (AV.sl 1 (List.map Av r),[]):=by
 intro h;rcases n with _|n;cases h
 rw[Lh] at h
 refine Au Tryz.func172 (by rfl) rfl rfl (B4 rfl) ?_
 intro call hc;conv=>lhs;whnf
 revert h
 refine ca hc (fun _ h=>Ki h) ?_;intro y1
 refine ca hc (fun _ h=>Ii h) ?_;intro y3
 refine br ?_ ?_
 intro h
 refine Ds h ?_;clear h;intro hc7 h
 try simp only[ls]
 refine B0 (by first|exact Pk (B:=1) hc7 rfl (by kernel_rfl)|exact O1 (B:=1) hc7 (by kernel_rfl)) ?_
 have hr6:List.replicate y1.toNat [bA false]=List.map Av (List.replicate y1.toNat false:List Bool):=by rw[List.map_replicate];rfl
 simp only[hr6,ls]
 conv=>lhs;whnf
 revert h
 intro h;refine Ae h ?_;clear h;intro o17 ho17 h
 refine lq (σ:=(Int×(List Bool))) (τ:=(List Bool)) (ν:=(List Bool)) 0 (fun(s8,s9) a11=>Ax 79 [(1,AV.sl 1 (List.map A0 Hg)),(2,AV.ptr 0 0),(5,iA y1),(6,AV.own 1 0 (List.length s9)),(7,iA s8)]) (fun(s8,s9) a11=>[Ob.var 66 [AV.sl 1 (List.map A0 A7.Am),AV.sl 1 (List.map A0 A7.Aj),AV.sl 1 (List.map A0 A7.Aw)],Ob.arr 1 (List.map Av s9)]) (fun x27 a26=>Ax 79 [(2,AV.ptr 0 0),(6,AV.own 1 0 (List.length x27))]) (fun x27 a26=>[Ob.var 66 [AV.sl 1 (List.map A0 A7.Am),AV.sl 1 (List.map A0 A7.Aj),AV.sl 1 (List.map A0 A7.Aw)],Ob.arr 1 (List.map Av x27)]) (fun v=>(AV.sl 1 (List.map Av v),[])) (fun k s=>Ej n Hg y1 k s.1 s.2) (fun s=>rfl) o17 n (0,(List.replicate y1.toNat false:List Bool)) (fun _=>0) ho17 ?_ ?_
 intro k10 ss a11 K12 cont13 hK14 hcont15 h hr16
 obtain⟨s8,s9⟩:=ss
 replace h:Ej n Hg y1 (k10+1) s8 s9=some o17:=h
 rw[Ej] at h
 conv=>lhs;whnf
 revert h
 refine br ?_ ?_
 refine ix ?_;intro x19
 refine br ?_ ?_
 refine ix ?_;intro x21
 refine br ?_ ?_
 refine ix ?_;intro x23
 intro h
 refine Ae h ?_;clear h;intro x24 hx24 h
 try simp only[ls]
 refine B0 (by first|exact C4 hx24|exact Dh hx24|exact Eb hx24|exact Bz hx24|(have q:=C4 hx24;simp only[List.length_set] at q;exact q)|(have q:=Bz hx24;simp only[List.length_set,Nat.zero_add] at q ⊢;exact q)) ?_
 conv=>lhs;whnf
 try simp only[Nat.zero_add,Ci (f:=Av) hx24,Bi,ls]
 conv=>lhs;whnf
 revert h
 intro h
 have hs25:Bq (List.map Av s9) x23.toNat [bA true]=List.map Av (List.set s9 x23.toNat true):=by rw[B8,List.map_set];rfl
 have hs25_u:Bq (List.map Av s9) x23.toNat (Bn (Av x24) 0 [bA true])=List.map Av (List.set s9 x23.toNat true):=by rw[B8,List.map_set];rfl
 try simp only[Nat.zero_add,Ci (f:=Av) hx24]
 conv=>lhs;whnf
 try simp only[hs25,hs25_u]
 conv=>lhs;whnf
 revert h
 exact fun h=>cq (hcont15 (IntKind.i64.wrap (s8+1),(List.set s9 x23.toNat true)) (fun _=>0) h)
 exact fun h=>cq (hcont15 (IntKind.i64.wrap (s8+1),s9) (fun _=>0) h)
 exact fun h=>cq (hcont15 (IntKind.i64.wrap (s8+1),s9) (fun _=>0) h)
 intro h;cases sj h
 exact kq (hr16 (fun _=>0))
 refine lrc ?_ ?_
 intro v e;subst e;cases sj h;rfl
 intro x27 a26 e;subst e
 dsimp only at h
 conv=>lhs;whnf
 revert h
 refine ca hc (fun _ h=>Km h) ?_;intro y28
 intro h;refine Ae h ?_;clear h;intro o39 ho39 h
 refine lq (σ:=(Bool×(List Bool))) (τ:=(List Bool)) (ν:=(List Bool)) 2 (fun(s30,s31) a33=>Ax 79 [(6,AV.own 1 0 (List.length s31)),(8,AV.sl 3 (List.map Bo y28)),(9,bA s30)]) (fun(s30,s31) a33=>[Ob.var 66 [AV.sl 1 (List.map A0 A7.Am),AV.sl 1 (List.map A0 A7.Aj),AV.sl 1 (List.map A0 A7.Aw)],Ob.arr 1 (List.map Av s31)]) (fun x67 a66=>Ax 79 [(6,AV.own 1 0 (List.length x67))]) (fun x67 a66=>[Ob.var 66 [AV.sl 1 (List.map A0 A7.Am),AV.sl 1 (List.map A0 A7.Aj),AV.sl 1 (List.map A0 A7.Aw)],Ob.arr 1 (List.map Av x67)]) (fun v=>(AV.sl 1 (List.map Av v),[])) (fun k s=>Gi n y28 k s.1 s.2) (fun s=>rfl) o39 n (true,x27) (fun _=>0) ho39 ?_ ?_
 intro k32 ss a33 K34 cont35 hK36 hcont37 h hr38
 obtain⟨s30,s31⟩:=ss
 replace h:Gi n y28 (k32+1) s30 s31=some o39:=h
 rw[Gi] at h
 conv=>lhs;whnf
 revert h
 refine br ?_ ?_
 intro h;refine Ae h ?_;clear h;intro o51 ho51 h
 refine lq (σ:=(Bool×Int×(List Bool))) (τ:=(Bool×(List Bool))) (ν:=(List Bool)) 4 (fun(s41,s42,s43) a45=>Ax 79 [(6,AV.own 1 0 (List.length s43)),(8,AV.sl 3 (List.map Bo y28)),(9,bA s41),(10,iA s42)]) (fun(s41,s42,s43) a45=>[Ob.var 66 [AV.sl 1 (List.map A0 A7.Am),AV.sl 1 (List.map A0 A7.Aj),AV.sl 1 (List.map A0 A7.Aw)],Ob.arr 1 (List.map Av s43)]) (fun(x63,x64) a62=>Ax 79 [(6,AV.own 1 0 (List.length x64)),(8,AV.sl 3 (List.map Bo y28)),(9,bA x63)]) (fun(x63,x64) a62=>[Ob.var 66 [AV.sl 1 (List.map A0 A7.Am),AV.sl 1 (List.map A0 A7.Aj),AV.sl 1 (List.map A0 A7.Aw)],Ob.arr 1 (List.map Av x64)]) (fun v=>(AV.sl 1 (List.map Av v),[])) (fun k s=>Dx n y28 k s.1 s.2.1 s.2.2) (fun s=>rfl) o51 n (false,0,s31) (fun _=>0) ho51 ?_ ?_
 intro k44 ss a45 K46 cont47 hK48 hcont49 h hr50
 obtain⟨s41,s42,s43⟩:=ss
 replace h:Dx n y28 (k44+1) s41 s42 s43=some o51:=h
 rw[Dx] at h
 conv=>lhs;whnf
 revert h
 refine br ?_ ?_
 refine ix ?_;intro x53
 intro h
 refine Ae h ?_;clear h;intro x54 hx54 h
 try simp only[ls]
 refine B0 (by first|exact C4 hx54|exact Dh hx54|exact Eb hx54|exact Bz hx54|(have q:=C4 hx54;simp only[List.length_set] at q;exact q)|(have q:=Bz hx54;simp only[List.length_set,Nat.zero_add] at q ⊢;exact q)) ?_
 conv=>lhs;whnf
 try simp only[Nat.zero_add,Ci (f:=Av) hx54,Bi,ls]
 conv=>lhs;whnf
 revert h
 refine br ?_ ?_
 refine ix ?_;intro x56
 intro h
 refine Ae h ?_;clear h;intro x57 hx57 h
 try simp only[ls]
 refine B0 (by first|exact C4 hx57|exact Dh hx57|exact Eb hx57|exact Bz hx57|(have q:=C4 hx57;simp only[List.length_set] at q;exact q)|(have q:=Bz hx57;simp only[List.length_set,Nat.zero_add] at q ⊢;exact q)) ?_
 conv=>lhs;whnf
 try simp only[Nat.zero_add,Ci (f:=Av) hx57,Bi,ls]
 conv=>lhs;whnf
 revert h
 refine br ?_ ?_
 exact fun h=>cq (hcont49 (s41,IntKind.i64.wrap (s42+1),s43) (fun _=>0) h)
 refine ix ?_;intro x59
 intro h
 refine Ae h ?_;clear h;intro x60 hx60 h
 try simp only[ls]
 refine B0 (by first|exact C4 hx60|exact Dh hx60|exact Eb hx60|exact Bz hx60|(have q:=C4 hx60;simp only[List.length_set] at q;exact q)|(have q:=Bz hx60;simp only[List.length_set,Nat.zero_add] at q ⊢;exact q)) ?_
 conv=>lhs;whnf
 try simp only[Nat.zero_add,Ci (f:=Av) hx60,Bi,ls]
 conv=>lhs;whnf
 revert h
 intro h
 have hs61:Bq (List.map Av s43) x59.Aw.toNat [bA true]=List.map Av (List.set s43 x59.Aw.toNat true):=by rw[B8,List.map_set];rfl
 have hs61_u:Bq (List.map Av s43) x59.Aw.toNat (Bn (Av x60) 0 [bA true])=List.map Av (List.set s43 x59.Aw.toNat true):=by rw[B8,List.map_set];rfl
 try simp only[Nat.zero_add,Ci (f:=Av) hx60]
 conv=>lhs;whnf
 try simp only[hs61,hs61_u]
 conv=>lhs;whnf
 revert h
 exact fun h=>cq (hcont49 (true,IntKind.i64.wrap (s42+1),(List.set s43 x59.Aw.toNat true)) (fun _=>0) h)
 exact fun h=>cq (hcont49 (s41,IntKind.i64.wrap (s42+1),s43) (fun _=>0) h)
 intro h;cases sj h
 exact kq (hr50 (fun _=>0))
 refine lrc ?_ ?_
 intro v e;subst e;cases sj h;exact hr38
 intro t a62 e;subst e
 obtain⟨x63,x64⟩:=t
 dsimp only at h
 conv=>lhs;whnf
 revert h
 exact fun h=>cq (hcont37 (x63,x64) (fun _=>0) h)
 intro h;cases sj h
 exact kq (hr38 (fun _=>0))
 refine lrc ?_ ?_
 intro v e;subst e;cases sj h;rfl
 intro x67 a66 e;subst e
 dsimp only at h
 conv=>lhs;whnf
 revert h
 intro h;obtain rfl:=sj h
 try simp only[ls]
 exact fq (y:=some (AV.sl 1 (List.take (List.length x67) (List.drop 0 (List.map Av x67))),[]))
 exact rz
theorem A1v {n:Nat} ⦃A7:Aq⦄ ⦃D3:(List Bool)⦄ ⦃r:Aq⦄:Kk n A7 D3=some r→CN n 175 [AV.agg [AV.sl 1 (List.map A0 A7.Am),AV.sl 1 (List.map A0 A7.Aj),AV.sl 1 (List.map A0 A7.Aw)],AV.sl 1 (List.map Av D3)] []=some (AV.agg [AV.sl 1 (List.map A0 r.Am),AV.sl 1 (List.map A0 r.Aj),AV.sl 1 (List.map A0 r.Aw)],[]):=by
 intro h;rcases n with _|n;cases h
 rw[Kk] at h
 refine Au Tryz.func175 (by rfl) rfl rfl (B4 rfl) ?_
 intro call hc;conv=>lhs;whnf
 revert h
 refine ca hc (fun _ h=>Ii h) ?_;intro y1
 refine br ?_ ?_
 refine ca hc (fun _ h=>Km h) ?_;intro y4
 intro h;refine Ae h ?_;clear h;intro o15 ho15 h
 refine lq (σ:=(Int×(List A9))) (τ:=(List A9)) (ν:=Aq) 0 (fun(s6,s7) a9=>Ax 53 [(1,AV.sl 1 (List.map Av D3)),(2,AV.ptr 0 0),(4,AV.ptr 1 0),(5,AV.sl 3 (List.map Bo y4)),(6,AV.row 2 (List.length s7)),(7,iA s6)]) (fun(s6,s7) a9=>[Ob.var 66 [AV.sl 1 (List.map A0 A7.Am),AV.sl 1 (List.map A0 A7.Aj),AV.sl 1 (List.map A0 A7.Aw)],Ob.var 66 [AV.nils,AV.nils,AV.nils],Ob.row 99 3 (List.map Bo s7)]) (fun x29 a28=>Ax 53 [(2,AV.ptr 0 0),(4,AV.ptr 1 0),(6,AV.row 2 (List.length x29))]) (fun x29 a28=>[Ob.var 66 [AV.sl 1 (List.map A0 A7.Am),AV.sl 1 (List.map A0 A7.Aj),AV.sl 1 (List.map A0 A7.Aw)],Ob.var 66 [AV.nils,AV.nils,AV.nils],Ob.row 99 3 (List.map Bo x29)]) (fun v=>(AV.agg [AV.sl 1 (List.map A0 v.Am),AV.sl 1 (List.map A0 v.Aj),AV.sl 1 (List.map A0 v.Aw)],[])) (fun k s=>Do n D3 y4 k s.1 s.2) (fun s=>rfl) o15 n (0,([]:List A9)) (fun _=>0) ho15 ?_ ?_
 intro k8 ss a9 K10 cont11 hK12 hcont13 h hr14
 obtain⟨s6,s7⟩:=ss
 replace h:Do n D3 y4 (k8+1) s6 s7=some o15:=h
 rw[Do] at h
 conv=>lhs;whnf
 revert h
 refine br ?_ ?_
 refine ix ?_;intro x17
 refine ca hc (fun _ h=>Qe h) ?_;intro y18
 refine br ?_ ?_
 refine ix ?_;intro x21
 refine ca hc (fun _ h=>Qe h) ?_;intro y22
 refine br ?_ ?_
 refine ix ?_;intro x25
 refine ar (ap Bo (List.map Bo s7) s7 ([[iA x25.C2,iA x25.Aj,iA x25.Aw]]) ([x25]:List A9)) ?_
 exact fun h=>cq (hcont13 (IntKind.i64.wrap (s6+1),(s7++([x25]:List A9))) (fun _=>0) h)
 exact fun h=>cq (hcont13 (IntKind.i64.wrap (s6+1),s7) (fun _=>0) h)
 exact fun h=>cq (hcont13 (IntKind.i64.wrap (s6+1),s7) (fun _=>0) h)
 intro h;cases sj h
 exact kq (hr14 (fun _=>0))
 refine lrc ?_ ?_
 intro v e;subst e;cases sj h;rfl
 intro x29 a28 e;subst e
 dsimp only at h
 conv=>lhs;whnf
 revert h
 refine ca hc (fun _ h=>Ki h) ?_;intro y30
 refine cr hc (fun _ h=>Pv h) ?_;intro y32
 exact rz
 exact rz
theorem A75 {n:Nat} ⦃Ee:Bf⦄ ⦃B7:Ac⦄ ⦃r:Int⦄:M0 n Ee B7=some r→CN n 30 [AV.agg [AV.sl 4 (List.map Cj Ee.C5),AV.sl 1 (List.map A0 Ee.Cs.Am),AV.sl 1 (List.map A0 Ee.Cs.Aj),AV.sl 1 (List.map A0 Ee.Cs.Aw),AV.sl 1 (List.map A0 Ee.D8),AV.sl 1 (List.map A0 Ee.I9)],AV.agg [AV.sl 1 (List.map A0 (B7.pc)),AV.sl 1 (List.map Ag (B7.regs)),AV.sl 1 (List.map A0 (B7.mem)),AV.sl 1 (List.map An (B7.buf))]] []=some (iA r,[]):=by
 intro h;rcases n with _|n;cases h
 rw[M0] at h
 refine Au Tryz.func30 (by rfl) rfl rfl (B4 rfl) ?_
 intro call hc;conv=>lhs;whnf
 revert h
 intro h;refine Ae h ?_;clear h;intro o9 ho9 h
 refine lq (σ:=Int) (τ:=Unit) (ν:=Int) 0 (fun s1 a3=>Ax 21 [(2,AV.ptr 0 0),(3,AV.ptr 1 0),(5,iA s1)]) (fun s1 a3=>[Ob.var 68 [AV.sl 4 (List.map Cj Ee.C5),AV.sl 1 (List.map A0 Ee.Cs.Am),AV.sl 1 (List.map A0 Ee.Cs.Aj),AV.sl 1 (List.map A0 Ee.Cs.Aw),AV.sl 1 (List.map A0 Ee.D8),AV.sl 1 (List.map A0 Ee.I9)],Ob.var 90 [AV.sl 1 (List.map A0 (B7.pc)),AV.sl 1 (List.map Ag (B7.regs)),AV.sl 1 (List.map A0 (B7.mem)),AV.sl 1 (List.map An (B7.buf))]]) (fun _ a15=>Ax 21 []) (fun _ a15=>[Ob.var 68 [AV.sl 4 (List.map Cj Ee.C5),AV.sl 1 (List.map A0 Ee.Cs.Am),AV.sl 1 (List.map A0 Ee.Cs.Aj),AV.sl 1 (List.map A0 Ee.Cs.Aw),AV.sl 1 (List.map A0 Ee.D8),AV.sl 1 (List.map A0 Ee.I9)],Ob.var 90 [AV.sl 1 (List.map A0 (B7.pc)),AV.sl 1 (List.map Ag (B7.regs)),AV.sl 1 (List.map A0 (B7.mem)),AV.sl 1 (List.map An (B7.buf))]]) (fun v=>(iA v,[])) (fun k s=>H8 n Ee B7 k s) (fun s=>rfl) o9 n 0 (fun _=>0) ho9 ?_ ?_
 intro k2 s1 a3 K4 cont5 hK6 hcont7 h hr8
 replace h:H8 n Ee B7 (k2+1) s1=some o9:=h
 rw[H8] at h
 conv=>lhs;whnf
 revert h
 refine br ?_ ?_
 refine ix ?_;intro x11
 refine ca hc (fun _ h=>A6x h) ?_;intro y12
 refine br ?_ ?_
 intro h;cases sj h
 refine(hK6 _ _).trans ?_
 refine Eq.trans ?_ (Eq.symm (show _=some _ from hr8))
 conv=>lhs;whnf
 exact rq
 exact fun h=>cq (hcont7 (IntKind.i64.wrap (s1+1)) (fun _=>0) h)
 intro h;cases sj h
 exact kq (hr8 (fun _=>0))
 refine lrc ?_ ?_
 intro v e;subst e;cases sj h;rfl
 intro t a15 e;subst e
 dsimp only at h
 conv=>lhs;whnf
 revert h
 exact rz
theorem Aae {n:Nat} ⦃Aa:Ak⦄ ⦃Az:Int⦄ ⦃Co:Int⦄ ⦃Di:Int⦄ ⦃r:(Bf×Int)⦄:Lm n Aa Az Co Di=some r→CN n 13 [AV.agg [iA (Aa.mod),AV.sl 1 (List.map A0 (Aa.init)),AV.sl 1 (List.map A0 (Aa.regs)),AV.sl 1 (List.map Ah (Aa.code))],iA Az,iA Co,iA Di] []=some (AV.tup [AV.agg [AV.sl 4 (List.map Cj r.1.C5),AV.sl 1 (List.map A0 r.1.Cs.Am),AV.sl 1 (List.map A0 r.1.Cs.Aj),AV.sl 1 (List.map A0 r.1.Cs.Aw),AV.sl 1 (List.map A0 r.1.D8),AV.sl 1 (List.map A0 r.1.I9)],iA r.2],[]):=by
 intro h;rcases n with _|n;cases h
 rw[Lm] at h
 refine Au Tryz.func13 (by rfl) rfl rfl (B4 rfl) ?_
 intro call hc;conv=>lhs;whnf
 revert h
 refine ca hc (fun _ h=>A4x h) ?_;intro y1
 refine br ?_ ?_
 exact rz
 refine br ?_ ?_
 exact rz
 refine br ?_ ?_
 exact rz
 refine br ?_ ?_
 exact rz
 refine br ?_ ?_
 exact rz
 refine br ?_ ?_
 exact rz
 refine br ?_ ?_
 exact rz
 intro h;refine Ae h ?_;clear h;intro o22 ho22 h
 refine lq (σ:=(Int×(List Ac)×(List Int)×(List Int)×(List A9))) (τ:=((List Ac)×(List Int)×(List Int)×(List A9))) (ν:=(Bf×Int)) 0 (fun(s10,s11,s12,s13,s14) a16=>Ax 164 [(1,iA Az),(2,iA Co),(3,iA Di),(4,AV.ptr 0 0),(8,AV.ptr 1 0),(12,AV.ptr 3 0),(13,AV.row 7 (List.length s14)),(14,iA s10)]) (fun(s10,s11,s12,s13,s14) a16=>[Ob.var 61 [iA (Aa.mod),AV.sl 1 (List.map A0 (Aa.init)),AV.sl 1 (List.map A0 (Aa.regs)),AV.sl 1 (List.map Ah (Aa.code))],Ob.var 68 [AV.nils,AV.nils,AV.nils,AV.nils,AV.nils,AV.nils],Ob.var 90 [AV.sl 1 (List.map A0 (y1.1.pc)),AV.sl 1 (List.map Ag (y1.1.regs)),AV.sl 1 (List.map A0 (y1.1.mem)),AV.sl 1 (List.map An (y1.1.buf))],Ob.var 68 [AV.row 4 (List.length s11),AV.nils,AV.nils,AV.nils,AV.row 5 (List.length s12),AV.row 6 (List.length s13)],Ob.row 90 4 (List.map Cj s11),Ob.row 3 1 (List.map A0 s12),Ob.row 3 1 (List.map A0 s13),Ob.row 99 3 (List.map Bo s14)]) (fun(x69,x70,x71,x72) a68=>Ax 164 [(8,AV.ptr 1 0),(12,AV.ptr 3 0),(13,AV.row 7 (List.length x72))]) (fun(x69,x70,x71,x72) a68=>[Ob.var 61 [iA (Aa.mod),AV.sl 1 (List.map A0 (Aa.init)),AV.sl 1 (List.map A0 (Aa.regs)),AV.sl 1 (List.map Ah (Aa.code))],Ob.var 68 [AV.nils,AV.nils,AV.nils,AV.nils,AV.nils,AV.nils],Ob.var 90 [AV.sl 1 (List.map A0 (y1.1.pc)),AV.sl 1 (List.map Ag (y1.1.regs)),AV.sl 1 (List.map A0 (y1.1.mem)),AV.sl 1 (List.map An (y1.1.buf))],Ob.var 68 [AV.row 4 (List.length x69),AV.nils,AV.nils,AV.nils,AV.row 5 (List.length x70),AV.row 6 (List.length x71)],Ob.row 90 4 (List.map Cj x69),Ob.row 3 1 (List.map A0 x70),Ob.row 3 1 (List.map A0 x71),Ob.row 99 3 (List.map Bo x72)]) (fun v=>(AV.tup [AV.agg [AV.sl 4 (List.map Cj v.1.C5),AV.sl 1 (List.map A0 v.1.Cs.Am),AV.sl 1 (List.map A0 v.1.Cs.Aj),AV.sl 1 (List.map A0 v.1.Cs.Aw),AV.sl 1 (List.map A0 v.1.D8),AV.sl 1 (List.map A0 v.1.I9)],iA v.2],[])) (fun k s=>Gv n Aa Az Co Di k s.1 s.2.1 s.2.2.1 s.2.2.2.1 s.2.2.2.2) (fun s=>rfl) o22 n (0,([y1.1]:List Ac),([(-1)]:List Int),([(-1)]:List Int),([]:List A9)) (fun _=>0) ho22 ?_ ?_
 intro k15 ss a16 K17 cont18 hK19 hcont20 h hr21
 obtain⟨s10,s11,s12,s13,s14⟩:=ss
 replace h:Gv n Aa Az Co Di (k15+1) s10 s11 s12 s13 s14=some o22:=h
 rw[Gv] at h
 conv=>lhs;whnf
 revert h
 refine br ?_ ?_
 refine ix ?_;intro x24
 refine ca hc (fun _ h=>Vl h) ?_;intro y25
 intro h;refine Ae h ?_;clear h;intro o39 ho39 h
 refine lq (σ:=(Int×(List Ac)×(List Int)×(List Int)×(List A9))) (τ:=((List Ac)×(List Int)×(List Int)×(List A9))) (ν:=(Bf×Int)) 2 (fun(s27,s28,s29,s30,s31) a33=>Ax 164 [(1,iA Az),(2,iA Co),(3,iA Di),(4,AV.ptr 0 0),(8,AV.ptr 1 0),(12,AV.ptr 3 0),(13,AV.row 7 (List.length s31)),(14,iA s10),(15,AV.sl 1 (List.map A0 y25)),(16,iA s27)]) (fun(s27,s28,s29,s30,s31) a33=>[Ob.var 61 [iA (Aa.mod),AV.sl 1 (List.map A0 (Aa.init)),AV.sl 1 (List.map A0 (Aa.regs)),AV.sl 1 (List.map Ah (Aa.code))],Ob.var 68 [AV.nils,AV.nils,AV.nils,AV.nils,AV.nils,AV.nils],Ob.var 90 [AV.sl 1 (List.map A0 (y1.1.pc)),AV.sl 1 (List.map Ag (y1.1.regs)),AV.sl 1 (List.map A0 (y1.1.mem)),AV.sl 1 (List.map An (y1.1.buf))],Ob.var 68 [AV.row 4 (List.length s28),AV.nils,AV.nils,AV.nils,AV.row 5 (List.length s29),AV.row 6 (List.length s30)],Ob.row 90 4 (List.map Cj s28),Ob.row 3 1 (List.map A0 s29),Ob.row 3 1 (List.map A0 s30),Ob.row 99 3 (List.map Bo s31)]) (fun(x63,x64,x65,x66) a62=>Ax 164 [(1,iA Az),(2,iA Co),(3,iA Di),(4,AV.ptr 0 0),(8,AV.ptr 1 0),(12,AV.ptr 3 0),(13,AV.row 7 (List.length x66)),(14,iA s10)]) (fun(x63,x64,x65,x66) a62=>[Ob.var 61 [iA (Aa.mod),AV.sl 1 (List.map A0 (Aa.init)),AV.sl 1 (List.map A0 (Aa.regs)),AV.sl 1 (List.map Ah (Aa.code))],Ob.var 68 [AV.nils,AV.nils,AV.nils,AV.nils,AV.nils,AV.nils],Ob.var 90 [AV.sl 1 (List.map A0 (y1.1.pc)),AV.sl 1 (List.map Ag (y1.1.regs)),AV.sl 1 (List.map A0 (y1.1.mem)),AV.sl 1 (List.map An (y1.1.buf))],Ob.var 68 [AV.row 4 (List.length x63),AV.nils,AV.nils,AV.nils,AV.row 5 (List.length x64),AV.row 6 (List.length x65)],Ob.row 90 4 (List.map Cj x63),Ob.row 3 1 (List.map A0 x64),Ob.row 3 1 (List.map A0 x65),Ob.row 99 3 (List.map Bo x66)]) (fun v=>(AV.tup [AV.agg [AV.sl 4 (List.map Cj v.1.C5),AV.sl 1 (List.map A0 v.1.Cs.Am),AV.sl 1 (List.map A0 v.1.Cs.Aj),AV.sl 1 (List.map A0 v.1.Cs.Aw),AV.sl 1 (List.map A0 v.1.D8),AV.sl 1 (List.map A0 v.1.I9)],iA v.2],[])) (fun k s=>G5 n Aa Az Co Di s10 y25 k s.1 s.2.1 s.2.2.1 s.2.2.2.1 s.2.2.2.2) (fun s=>rfl) o39 n (0,s11,s12,s13,s14) (fun _=>0) ho39 ?_ ?_
 intro k32 ss a33 K34 cont35 hK36 hcont37 h hr38
 obtain⟨s27,s28,s29,s30,s31⟩:=ss
 replace h:G5 n Aa Az Co Di s10 y25 (k32+1) s27 s28 s29 s30 s31=some o39:=h
 rw[G5] at h
 conv=>lhs;whnf
 revert h
 refine br ?_ ?_
 refine ix ?_;intro x41
 refine ix ?_;intro x42
 refine ca hc (fun _ h=>A9x h) ?_;intro y43
 refine cr hc (fun y45 h=>(show CN n 30 [AV.agg [AV.sl 4 (List.map Cj s28),AV.sl 1 [],AV.sl 1 [],AV.sl 1 [],AV.sl 1 (List.map A0 s29),AV.sl 1 (List.map A0 s30)],AV.agg [AV.sl 1 (List.map A0 (y43.1.pc)),AV.sl 1 (List.map Ag (y43.1.regs)),AV.sl 1 (List.map A0 (y43.1.mem)),AV.sl 1 (List.map An (y43.1.buf))]] []=some (iA y45,[]) from A75 (r:=y45) h)) ?_;intro y45
 refine br ?_ ?_
 refine br ?_ ?_
 intro h;cases sj h
 refine(hK36 _ _).trans ?_
 conv=>lhs;whnf
 refine(hK19 _ _).trans ?_
 refine Eq.trans ?_ (Eq.symm (show _=some _ from hr38))
 conv=>lhs;whnf
 exact rq
 refine ar (ap Cj (List.map Cj s28) s28 ([[AV.sl 1 (List.map A0 (y43.1.pc)),AV.sl 1 (List.map Ag (y43.1.regs)),AV.sl 1 (List.map A0 (y43.1.mem)),AV.sl 1 (List.map An (y43.1.buf))]]) ([y43.1]:List Ac)) ?_
 refine ar (ap A0 (List.map A0 s29) s29 ([[iA s10]]) ([s10]:List Int)) ?_
 refine ix ?_;intro x53
 refine ar (ap A0 (List.map A0 s30) s30 ([[iA x53]]) ([x53]:List Int)) ?_
 refine ix ?_;intro x56
 refine ar (ap Bo (List.map Bo s31) s31 ([[iA s10,iA x56,iA (((s28.length:Nat):Int))]]) ([(⟨s10,x56,((s28.length:Nat):Int)⟩:A9)]:List A9)) ?_
 exact fun h=>cq (hcont37 (IntKind.i64.wrap (s27+1),(s28++([y43.1]:List Ac)),(s29++([s10]:List Int)),(s30++([x53]:List Int)),(s31++([(⟨s10,x56,((s28.length:Nat):Int)⟩:A9)]:List A9))) (fun _=>0) h)
 refine ix ?_;intro x59
 refine ar (ap Bo (List.map Bo s31) s31 ([[iA s10,iA x59,iA y45]]) ([(⟨s10,x59,y45⟩:A9)]:List A9)) ?_
 exact fun h=>cq (hcont37 (IntKind.i64.wrap (s27+1),s28,s29,s30,(s31++([(⟨s10,x59,y45⟩:A9)]:List A9))) (fun _=>0) h)
 intro h;cases sj h
 exact kq (hr38 (fun _=>0))
 refine lrc ?_ ?_
 intro v e;subst e;cases sj h;exact hr21
 intro t a62 e;subst e
 obtain⟨x63,x64,x65,x66⟩:=t
 dsimp only at h
 conv=>lhs;whnf
 revert h
 exact fun h=>cq (hcont20 (IntKind.i64.wrap (s10+1),x63,x64,x65,x66) (fun _=>0) h)
 intro h;cases sj h
 exact kq (hr21 (fun _=>0))
 refine lrc ?_ ?_
 intro v e;subst e;cases sj h;rfl
 intro t a68 e;subst e
 obtain⟨x69,x70,x71,x72⟩:=t
 dsimp only at h
 conv=>lhs;whnf
 revert h
 refine cr hc (fun _ h=>Pv h) ?_;intro y73
 intro h;cases sj h
 try simp only[ls]
 exact fq (y:=some (AV.tup [AV.agg [AV.sl 4 (List.take (List.length x69) (List.map Cj x69)),AV.sl 1 (List.map A0 y73.1.Am),AV.sl 1 (List.map A0 y73.1.Aj),AV.sl 1 (List.map A0 y73.1.Aw),AV.sl 1 (List.take (List.length x70) (List.map A0 x70)),AV.sl 1 (List.take (List.length x71) (List.map A0 x71))],iA (0)],[]))
theorem A4k {n:Nat} ⦃Aa:Ak⦄ ⦃Ba:Bf⦄ ⦃B1:Int⦄ ⦃Bd:Int⦄ ⦃r:(List Int)⦄:La n Aa Ba B1 Bd=some r→CN n 32 [AV.agg [iA (Aa.mod),AV.sl 1 (List.map A0 (Aa.init)),AV.sl 1 (List.map A0 (Aa.regs)),AV.sl 1 (List.map Ah (Aa.code))],AV.agg [AV.sl 4 (List.map Cj Ba.C5),AV.sl 1 (List.map A0 Ba.Cs.Am),AV.sl 1 (List.map A0 Ba.Cs.Aj),AV.sl 1 (List.map A0 Ba.Cs.Aw),AV.sl 1 (List.map A0 Ba.D8),AV.sl 1 (List.map A0 Ba.I9)],iA B1,iA Bd] []=some (AV.sl 1 (List.map A0 r),[]):=by
 intro h;rcases n with _|n;cases h
 rw[La] at h
 refine Au Tryz.func32 (by rfl) rfl rfl (B4 rfl) ?_
 intro call hc;conv=>lhs;whnf
 revert h
 intro h;refine Ae h ?_;clear h;intro o10 ho10 h
 refine lq (σ:=(Int×(List Int))) (τ:=(List Int)) (ν:=(List Int)) 0 (fun(s1,s2) a4=>Ax 32 [(2,iA B1),(3,iA Bd),(4,AV.ptr 0 0),(5,AV.ptr 1 0),(9,AV.row 2 (List.length s2)),(10,iA s1)]) (fun(s1,s2) a4=>[Ob.var 61 [iA (Aa.mod),AV.sl 1 (List.map A0 (Aa.init)),AV.sl 1 (List.map A0 (Aa.regs)),AV.sl 1 (List.map Ah (Aa.code))],Ob.var 68 [AV.sl 4 (List.map Cj Ba.C5),AV.sl 1 (List.map A0 Ba.Cs.Am),AV.sl 1 (List.map A0 Ba.Cs.Aj),AV.sl 1 (List.map A0 Ba.Cs.Aw),AV.sl 1 (List.map A0 Ba.D8),AV.sl 1 (List.map A0 Ba.I9)],Ob.row 3 1 (List.map A0 s2)]) (fun x19 a18=>Ax 32 [(9,AV.row 2 (List.length x19))]) (fun x19 a18=>[Ob.var 61 [iA (Aa.mod),AV.sl 1 (List.map A0 (Aa.init)),AV.sl 1 (List.map A0 (Aa.regs)),AV.sl 1 (List.map Ah (Aa.code))],Ob.var 68 [AV.sl 4 (List.map Cj Ba.C5),AV.sl 1 (List.map A0 Ba.Cs.Am),AV.sl 1 (List.map A0 Ba.Cs.Aj),AV.sl 1 (List.map A0 Ba.Cs.Aw),AV.sl 1 (List.map A0 Ba.D8),AV.sl 1 (List.map A0 Ba.I9)],Ob.row 3 1 (List.map A0 x19)]) (fun v=>(AV.sl 1 (List.map A0 v),[])) (fun k s=>If n Aa Ba B1 Bd k s.1 s.2) (fun s=>rfl) o10 n (0,([]:List Int)) (fun _=>0) ho10 ?_ ?_
 intro k3 ss a4 K5 cont6 hK7 hcont8 h hr9
 obtain⟨s1,s2⟩:=ss
 replace h:If n Aa Ba B1 Bd (k3+1) s1 s2=some o10:=h
 rw[If] at h
 conv=>lhs;whnf
 revert h
 refine br ?_ ?_
 refine ix ?_;intro x12
 refine ca hc (fun _ h=>A74 h) ?_;intro y13
 refine br ?_ ?_
 refine ar (ap A0 (List.map A0 s2) s2 ([[iA s1]]) ([s1]:List Int)) ?_
 exact fun h=>cq (hcont8 (IntKind.i64.wrap (s1+1),(s2++([s1]:List Int))) (fun _=>0) h)
 exact fun h=>cq (hcont8 (IntKind.i64.wrap (s1+1),s2) (fun _=>0) h)
 intro h;cases sj h
 exact kq (hr9 (fun _=>0))
 refine lrc ?_ ?_
 intro v e;subst e;cases sj h;rfl
 intro x19 a18 e;subst e
 dsimp only at h
 conv=>lhs;whnf
 revert h
 intro h;obtain rfl:=sj h
 try simp only[ls]
 exact fq (y:=some (AV.sl 1 (List.take (List.length x19) (List.map A0 x19)),[]))
theorem A0n {n:Nat} ⦃Aa:Ak⦄ ⦃Ba:Bf⦄ ⦃B1:Int⦄ ⦃Bd:Int⦄ ⦃r:(List (List Bool))⦄:Ja n Aa Ba B1 Bd=some r→CN n 34 [AV.agg [iA (Aa.mod),AV.sl 1 (List.map A0 (Aa.init)),AV.sl 1 (List.map A0 (Aa.regs)),AV.sl 1 (List.map Ah (Aa.code))],AV.agg [AV.sl 4 (List.map Cj Ba.C5),AV.sl 1 (List.map A0 Ba.Cs.Am),AV.sl 1 (List.map A0 Ba.Cs.Aj),AV.sl 1 (List.map A0 Ba.Cs.Aw),AV.sl 1 (List.map A0 Ba.D8),AV.sl 1 (List.map A0 Ba.I9)],iA B1,iA Bd] []=some (AV.sl 1 (List.map B6 r),[]):=by
 intro h;rcases n with _|n;cases h
 rw[Ja] at h
 refine Au Tryz.func34 (by rfl) rfl rfl (B4 rfl) ?_
 intro call hc;conv=>lhs;whnf
 revert h
 intro h;refine Ae h ?_;clear h;intro o10 ho10 h
 refine lq (σ:=(Int×(List (List Bool)))) (τ:=(List (List Bool))) (ν:=(List (List Bool))) 0 (fun(s1,s2) a4=>Ax 45 [(2,iA B1),(3,iA Bd),(4,AV.ptr 0 0),(5,AV.ptr 1 0),(9,AV.row 2 (List.length s2)),(10,iA s1)]) (fun(s1,s2) a4=>[Ob.var 61 [iA (Aa.mod),AV.sl 1 (List.map A0 (Aa.init)),AV.sl 1 (List.map A0 (Aa.regs)),AV.sl 1 (List.map Ah (Aa.code))],Ob.var 68 [AV.sl 4 (List.map Cj Ba.C5),AV.sl 1 (List.map A0 Ba.Cs.Am),AV.sl 1 (List.map A0 Ba.Cs.Aj),AV.sl 1 (List.map A0 Ba.Cs.Aw),AV.sl 1 (List.map A0 Ba.D8),AV.sl 1 (List.map A0 Ba.I9)],Ob.row 126 1 (List.map B6 s2)]) (fun x36 a35=>Ax 45 [(9,AV.row 2 (List.length x36))]) (fun x36 a35=>[Ob.var 61 [iA (Aa.mod),AV.sl 1 (List.map A0 (Aa.init)),AV.sl 1 (List.map A0 (Aa.regs)),AV.sl 1 (List.map Ah (Aa.code))],Ob.var 68 [AV.sl 4 (List.map Cj Ba.C5),AV.sl 1 (List.map A0 Ba.Cs.Am),AV.sl 1 (List.map A0 Ba.Cs.Aj),AV.sl 1 (List.map A0 Ba.Cs.Aw),AV.sl 1 (List.map A0 Ba.D8),AV.sl 1 (List.map A0 Ba.I9)],Ob.row 126 1 (List.map B6 x36)]) (fun v=>(AV.sl 1 (List.map B6 v),[])) (fun k s=>Il n Aa Ba B1 Bd k s.1 s.2) (fun s=>rfl) o10 n (0,([]:List (List Bool))) (fun _=>0) ho10 ?_ ?_
 intro k3 ss a4 K5 cont6 hK7 hcont8 h hr9
 obtain⟨s1,s2⟩:=ss
 replace h:Il n Aa Ba B1 Bd (k3+1) s1 s2=some o10:=h
 rw[Il] at h
 conv=>lhs;whnf
 revert h
 refine br ?_ ?_
 intro h;refine Ae h ?_;clear h;intro o21 ho21 h
 refine lq (σ:=(Int×(List Bool))) (τ:=(List Bool)) (ν:=(List (List Bool))) 2 (fun(s12,s13) a15=>Ax 45 [(2,iA B1),(3,iA Bd),(4,AV.ptr 0 0),(5,AV.ptr 1 0),(9,AV.row 2 (List.length s2)),(10,iA s1),(11,AV.row 3 (List.length s13)),(12,iA s12)]) (fun(s12,s13) a15=>[Ob.var 61 [iA (Aa.mod),AV.sl 1 (List.map A0 (Aa.init)),AV.sl 1 (List.map A0 (Aa.regs)),AV.sl 1 (List.map Ah (Aa.code))],Ob.var 68 [AV.sl 4 (List.map Cj Ba.C5),AV.sl 1 (List.map A0 Ba.Cs.Am),AV.sl 1 (List.map A0 Ba.Cs.Aj),AV.sl 1 (List.map A0 Ba.Cs.Aw),AV.sl 1 (List.map A0 Ba.D8),AV.sl 1 (List.map A0 Ba.I9)],Ob.row 126 1 (List.map B6 s2),Ob.row 4 1 (List.map Av s13)]) (fun x31 a30=>Ax 45 [(2,iA B1),(3,iA Bd),(4,AV.ptr 0 0),(5,AV.ptr 1 0),(9,AV.row 2 (List.length s2)),(10,iA s1),(11,AV.row 3 (List.length x31))]) (fun x31 a30=>[Ob.var 61 [iA (Aa.mod),AV.sl 1 (List.map A0 (Aa.init)),AV.sl 1 (List.map A0 (Aa.regs)),AV.sl 1 (List.map Ah (Aa.code))],Ob.var 68 [AV.sl 4 (List.map Cj Ba.C5),AV.sl 1 (List.map A0 Ba.Cs.Am),AV.sl 1 (List.map A0 Ba.Cs.Aj),AV.sl 1 (List.map A0 Ba.Cs.Aw),AV.sl 1 (List.map A0 Ba.D8),AV.sl 1 (List.map A0 Ba.I9)],Ob.row 126 1 (List.map B6 s2),Ob.row 4 1 (List.map Av x31)]) (fun v=>(AV.sl 1 (List.map B6 v),[])) (fun k s=>Im n Aa Ba B1 Bd s1 k s.1 s.2) (fun s=>rfl) o21 n (0,([]:List Bool)) (fun _=>0) ho21 ?_ ?_
 intro k14 ss a15 K16 cont17 hK18 hcont19 h hr20
 obtain⟨s12,s13⟩:=ss
 replace h:Im n Aa Ba B1 Bd s1 (k14+1) s12 s13=some o21:=h
 rw[Im] at h
 conv=>lhs;whnf
 revert h
 refine ca hc (fun _ h=>Lv h) ?_;intro y22
 refine br ?_ ?_
 refine ix ?_;intro x25
 refine ca hc (fun _ h=>O7 h) ?_;intro y26
 refine ar (ap Av (List.map Av s13) s13 ([[bA y26]]) ([y26]:List Bool)) ?_
 exact fun h=>cq (hcont19 (IntKind.i64.wrap (s12+1),(s13++([y26]:List Bool))) (fun _=>0) h)
 intro h;cases sj h
 exact kq (hr20 (fun _=>0))
 refine lrc ?_ ?_
 intro v e;subst e;cases sj h;exact hr9
 intro x31 a30 e;subst e
 dsimp only at h
 conv=>lhs;whnf
 revert h
 refine ar (ap B6 (List.map B6 s2) s2 ([[AV.sl 1 (List.map Av x31)]]) ([x31]:List (List Bool))) ?_
 exact fun h=>cq (hcont8 (IntKind.i64.wrap (s1+1),(s2++([x31]:List (List Bool)))) (fun _=>0) h)
 intro h;cases sj h
 exact kq (hr9 (fun _=>0))
 refine lrc ?_ ?_
 intro v e;subst e;cases sj h;rfl
 intro x36 a35 e;subst e
 dsimp only at h
 conv=>lhs;whnf
 revert h
 intro h;obtain rfl:=sj h
 try simp only[ls]
 exact fq (y:=some (AV.sl 1 (List.take (List.length x36) (List.map B6 x36)),[]))
theorem Xv {n:Nat} ⦃Bh:(List Int)⦄ ⦃Hh:Int⦄ ⦃r:Bool⦄:Lq n Bh Hh=some r→CN n 174 [AV.sl 1 (List.map A0 Bh),iA Hh] []=some (bA r,[]):=by
 intro h;rcases n with _|n;cases h
 rw[Lq] at h
 refine Au Tryz.func174 (by rfl) rfl rfl (B4 rfl) ?_
 intro call hc;conv=>lhs;whnf
 revert h
 intro h;refine Ae h ?_;clear h;intro o9 ho9 h
 refine lq (σ:=Int) (τ:=Unit) (ν:=Bool) 0 (fun s1 a3=>Ax 18 [(0,AV.sl 1 (List.map A0 Bh)),(1,iA Hh),(5,iA s1)]) (fun s1 a3=>[]) (fun _ a13=>Ax 18 []) (fun _ a13=>[]) (fun v=>(bA v,[])) (fun k s=>H0 n Bh Hh k s) (fun s=>rfl) o9 n 0 (fun _=>0) ho9 ?_ ?_
 intro k2 s1 a3 K4 cont5 hK6 hcont7 h hr8
 replace h:H0 n Bh Hh (k2+1) s1=some o9:=h
 rw[H0] at h
 conv=>lhs;whnf
 revert h
 refine br ?_ ?_
 refine ix ?_;intro x11
 refine br ?_ ?_
 intro h;cases sj h
 refine(hK6 _ _).trans ?_
 refine Eq.trans ?_ (Eq.symm (show _=some _ from hr8))
 conv=>lhs;whnf
 exact rq
 exact fun h=>cq (hcont7 (IntKind.i64.wrap (s1+1)) (fun _=>0) h)
 intro h;cases sj h
 exact kq (hr8 (fun _=>0))
 refine lrc ?_ ?_
 intro v e;subst e;cases sj h;rfl
 intro t a13 e;subst e
 dsimp only at h
 conv=>lhs;whnf
 revert h
 exact rz
theorem Oz {n:Nat} ⦃A7:Aq⦄ ⦃Ch:(List Int)⦄ ⦃r:Bool⦄:Hc n A7 Ch=some r→CN n 139 [AV.agg [AV.sl 1 (List.map A0 A7.Am),AV.sl 1 (List.map A0 A7.Aj),AV.sl 1 (List.map A0 A7.Aw)],AV.sl 1 (List.map A0 Ch)] []=some (bA r,[]):=by
 intro h;rcases n with _|n;cases h
 rw[Hc] at h
 refine Au Tryz.func139 (by rfl) rfl rfl (B4 rfl) ?_
 intro call hc;conv=>lhs;whnf
 revert h
 refine ca hc (fun _ h=>Km h) ?_;intro y1
 intro h;refine Ae h ?_;clear h;intro o11 ho11 h
 refine lq (σ:=Int) (τ:=Unit) (ν:=Bool) 0 (fun s3 a5=>Ax 31 [(1,AV.sl 1 (List.map A0 Ch)),(5,AV.sl 3 (List.map Bo y1)),(6,iA s3)]) (fun s3 a5=>[Ob.var 66 [AV.sl 1 (List.map A0 A7.Am),AV.sl 1 (List.map A0 A7.Aj),AV.sl 1 (List.map A0 A7.Aw)]]) (fun _ a21=>Ax 31 []) (fun _ a21=>[Ob.var 66 [AV.sl 1 (List.map A0 A7.Am),AV.sl 1 (List.map A0 A7.Aj),AV.sl 1 (List.map A0 A7.Aw)]]) (fun v=>(bA v,[])) (fun k s=>E1 n Ch y1 k s) (fun s=>rfl) o11 n 0 (fun _=>0) ho11 ?_ ?_
 intro k4 s3 a5 K6 cont7 hK8 hcont9 h hr10
 replace h:E1 n Ch y1 (k4+1) s3=some o11:=h
 rw[E1] at h
 conv=>lhs;whnf
 revert h
 refine br ?_ ?_
 refine ix ?_;intro x13
 refine ca hc (fun _ h=>Xv h) ?_;intro y14
 refine br ?_ ?_
 refine ix ?_;intro x17
 refine ca hc (fun _ h=>Xv h) ?_;intro y18
 refine br ?_ ?_
 intro h;cases sj h
 refine(hK8 _ _).trans ?_
 refine Eq.trans ?_ (Eq.symm (show _=some _ from hr10))
 conv=>lhs;whnf
 exact rq
 exact fun h=>cq (hcont9 (IntKind.i64.wrap (s3+1)) (fun _=>0) h)
 exact fun h=>cq (hcont9 (IntKind.i64.wrap (s3+1)) (fun _=>0) h)
 intro h;cases sj h
 exact kq (hr10 (fun _=>0))
 refine lrc ?_ ?_
 intro v e;subst e;cases sj h;rfl
 intro t a21 e;subst e
 dsimp only at h
 conv=>lhs;whnf
 revert h
 exact rz
theorem Pu {n:Nat} ⦃A7:Aq⦄ ⦃r:(List Int)⦄:Hy n A7=some r→CN n 135 [AV.agg [AV.sl 1 (List.map A0 A7.Am),AV.sl 1 (List.map A0 A7.Aj),AV.sl 1 (List.map A0 A7.Aw)]] []=some (AV.sl 1 (List.map A0 r),[]):=by
 intro h;rcases n with _|n;cases h
 rw[Hy] at h
 refine Au Tryz.func135 (by rfl) rfl rfl (B4 rfl) ?_
 intro call hc;conv=>lhs;whnf
 revert h
 refine ca hc (fun _ h=>Ki h) ?_;intro y1
 intro h;refine Ae h ?_;clear h;intro o12 ho12 h
 refine lq (σ:=(Int×(List (List Bool)))) (τ:=(List (List Bool))) (ν:=(List Int)) 0 (fun(s3,s4) a6=>Ax 69 [(1,AV.ptr 0 0),(3,iA y1),(4,AV.row 1 (List.length s4)),(5,iA s3)]) (fun(s3,s4) a6=>[Ob.var 66 [AV.sl 1 (List.map A0 A7.Am),AV.sl 1 (List.map A0 A7.Aj),AV.sl 1 (List.map A0 A7.Aw)],Ob.row 126 1 (List.map B6 s4)]) (fun x19 a18=>Ax 69 [(3,iA y1),(4,AV.row 1 (List.length x19))]) (fun x19 a18=>[Ob.var 66 [AV.sl 1 (List.map A0 A7.Am),AV.sl 1 (List.map A0 A7.Aj),AV.sl 1 (List.map A0 A7.Aw)],Ob.row 126 1 (List.map B6 x19)]) (fun v=>(AV.sl 1 (List.map A0 v),[])) (fun k s=>Fp n A7 y1 k s.1 s.2) (fun s=>rfl) o12 n (0,([]:List (List Bool))) (fun _=>0) ho12 ?_ ?_
 intro k5 ss a6 K7 cont8 hK9 hcont10 h hr11
 obtain⟨s3,s4⟩:=ss
 replace h:Fp n A7 y1 (k5+1) s3 s4=some o12:=h
 rw[Fp] at h
 conv=>lhs;whnf
 revert h
 refine br ?_ ?_
 refine cr hc (fun y14 h=>(show CN n 172 [AV.agg [AV.sl 1 (List.map A0 A7.Am),AV.sl 1 (List.map A0 A7.Aj),AV.sl 1 (List.map A0 A7.Aw)],AV.sl 1 [[iA s3]]] []=some (AV.sl 1 (List.map Av y14),[]) from A52 (r:=y14) h)) ?_;intro y14
 refine ar (ap B6 (List.map B6 s4) s4 ([[AV.sl 1 (List.map Av y14)]]) ([y14]:List (List Bool))) ?_
 exact fun h=>cq (hcont10 (IntKind.i64.wrap (s3+1),(s4++([y14]:List (List Bool)))) (fun _=>0) h)
 intro h;cases sj h
 exact kq (hr11 (fun _=>0))
 refine lrc ?_ ?_
 intro v e;subst e;cases sj h;rfl
 intro x19 a18 e;subst e
 dsimp only at h
 conv=>lhs;whnf
 revert h
 intro h;refine Ae h ?_;clear h;intro o30 ho30 h
 refine lq (σ:=(Int×Int×(List Int))) (τ:=(List Int)) (ν:=(List Int)) 2 (fun(s20,s21,s22) a24=>Ax 69 [(3,iA y1),(4,AV.row 1 (List.length x19)),(6,AV.row 2 (List.length s22)),(7,iA s20),(8,iA s21)]) (fun(s20,s21,s22) a24=>[Ob.var 66 [AV.sl 1 (List.map A0 A7.Am),AV.sl 1 (List.map A0 A7.Aj),AV.sl 1 (List.map A0 A7.Aw)],Ob.row 126 1 (List.map B6 x19),Ob.row 3 1 (List.map A0 s22)]) (fun x60 a59=>Ax 69 [(6,AV.row 2 (List.length x60))]) (fun x60 a59=>[Ob.var 66 [AV.sl 1 (List.map A0 A7.Am),AV.sl 1 (List.map A0 A7.Aj),AV.sl 1 (List.map A0 A7.Aw)],Ob.row 126 1 (List.map B6 x19),Ob.row 3 1 (List.map A0 x60)]) (fun v=>(AV.sl 1 (List.map A0 v),[])) (fun k s=>Ef n y1 x19 k s.1 s.2.1 s.2.2) (fun s=>rfl) o30 n (0,0,([]:List Int)) (fun _=>0) ho30 ?_ ?_
 intro k23 ss a24 K25 cont26 hK27 hcont28 h hr29
 obtain⟨s20,s21,s22⟩:=ss
 replace h:Ef n y1 x19 (k23+1) s20 s21 s22=some o30:=h
 rw[Ef] at h
 conv=>lhs;whnf
 revert h
 refine br ?_ ?_
 intro h;refine Ae h ?_;clear h;intro o41 ho41 h
 refine lq (σ:=(Int×Int)) (τ:=Int) (ν:=(List Int)) 4 (fun(s32,s33) a35=>Ax 69 [(3,iA y1),(4,AV.row 1 (List.length x19)),(6,AV.row 2 (List.length s22)),(7,iA s20),(8,iA s21),(9,iA s32),(10,iA s33)]) (fun(s32,s33) a35=>[Ob.var 66 [AV.sl 1 (List.map A0 A7.Am),AV.sl 1 (List.map A0 A7.Aj),AV.sl 1 (List.map A0 A7.Aw)],Ob.row 126 1 (List.map B6 x19),Ob.row 3 1 (List.map A0 s22)]) (fun x52 a51=>Ax 69 [(3,iA y1),(4,AV.row 1 (List.length x19)),(6,AV.row 2 (List.length s22)),(7,iA s20),(8,iA s21),(9,iA x52)]) (fun x52 a51=>[Ob.var 66 [AV.sl 1 (List.map A0 A7.Am),AV.sl 1 (List.map A0 A7.Aj),AV.sl 1 (List.map A0 A7.Aw)],Ob.row 126 1 (List.map B6 x19),Ob.row 3 1 (List.map A0 s22)]) (fun v=>(AV.sl 1 (List.map A0 v),[])) (fun k s=>Dm n x19 s21 s22 k s.1 s.2) (fun s=>rfl) o41 n ((-1),0) (fun _=>0) ho41 ?_ ?_
 intro k34 ss a35 K36 cont37 hK38 hcont39 h hr40
 obtain⟨s32,s33⟩:=ss
 replace h:Dm n x19 s21 s22 (k34+1) s32 s33=some o41:=h
 rw[Dm] at h
 conv=>lhs;whnf
 revert h
 refine br ?_ ?_
 refine br ?_ ?_
 refine ix ?_;intro x44
 refine ix ?_;intro x45
 refine br ?_ ?_
 refine ix ?_;intro x47
 refine ix ?_;intro x48
 refine br ?_ ?_
 refine ix ?_;intro x50
 exact fun h=>cq (hcont39 (x50,IntKind.i64.wrap (s33+1)) (fun _=>0) h)
 exact fun h=>cq (hcont39 (s32,IntKind.i64.wrap (s33+1)) (fun _=>0) h)
 exact fun h=>cq (hcont39 (s32,IntKind.i64.wrap (s33+1)) (fun _=>0) h)
 exact fun h=>cq (hcont39 (s32,IntKind.i64.wrap (s33+1)) (fun _=>0) h)
 intro h;cases sj h
 exact kq (hr40 (fun _=>0))
 refine lrc ?_ ?_
 intro v e;subst e;cases sj h;exact hr29
 intro x52 a51 e;subst e
 dsimp only at h
 conv=>lhs;whnf
 revert h
 refine br ?_ ?_
 refine ar (ap A0 (List.map A0 s22) s22 ([[iA s20]]) ([s20]:List Int)) ?_
 exact fun h=>cq (hcont28 (IntKind.i64.wrap (s20+1),IntKind.i64.wrap (s21+1),(s22++([s20]:List Int))) (fun _=>0) h)
 refine ar (ap A0 (List.map A0 s22) s22 ([[iA x52]]) ([x52]:List Int)) ?_
 exact fun h=>cq (hcont28 (s20,IntKind.i64.wrap (s21+1),(s22++([x52]:List Int))) (fun _=>0) h)
 intro h;cases sj h
 exact kq (hr29 (fun _=>0))
 refine lrc ?_ ?_
 intro v e;subst e;cases sj h;rfl
 intro x60 a59 e;subst e
 dsimp only at h
 conv=>lhs;whnf
 revert h
 intro h;obtain rfl:=sj h
 try simp only[ls]
 exact fq (y:=some (AV.sl 1 (List.take (List.length x60) (List.map A0 x60)),[]))
theorem U3 {n:Nat} ⦃Bt:(List Int)⦄ ⦃C9:(List Bool)⦄ ⦃r:(List (List Int))⦄:Ih n Bt C9=some r→CN n 136 [AV.sl 1 (List.map A0 Bt),AV.own 0 0 (List.length C9)] [Ob.arr 1 (List.map Av C9)]=some (AV.sl 1 (List.map Ag r),[Ob.arr 1 (List.map Av C9)]):=by
 intro h;rcases n with _|n;cases h
 rw[Ih] at h
 refine Au Tryz.func136 (by rfl) rfl rfl (B4 rfl) ?_
 intro call hc;conv=>lhs;whnf
 revert h
 intro h;refine Ae h ?_;clear h;intro o10 ho10 h
 refine lq (σ:=(Int×(List (List Int)))) (τ:=(List (List Int))) (ν:=(List (List Int))) 0 (fun(s1,s2) a4=>Ax 51 [(0,AV.sl 1 (List.map A0 Bt)),(1,AV.own 0 0 (List.length C9)),(5,AV.row 1 (List.length s2)),(6,iA s1)]) (fun(s1,s2) a4=>[Ob.arr 1 (List.map Av C9),Ob.row 31 1 (List.map Ag s2)]) (fun x37 a36=>Ax 51 [(5,AV.row 1 (List.length x37))]) (fun x37 a36=>[Ob.arr 1 (List.map Av C9),Ob.row 31 1 (List.map Ag x37)]) (fun v=>(AV.sl 1 (List.map Ag v),[Ob.arr 1 (List.map Av C9)])) (fun k s=>Dz n Bt C9 k s.1 s.2) (fun s=>rfl) o10 n (0,([]:List (List Int))) (fun _=>0) ho10 ?_ ?_
 intro k3 ss a4 K5 cont6 hK7 hcont8 h hr9
 obtain⟨s1,s2⟩:=ss
 replace h:Dz n Bt C9 (k3+1) s1 s2=some o10:=h
 rw[Dz] at h
 conv=>lhs;whnf
 revert h
 refine br ?_ ?_
 intro h;refine Ae h ?_;clear h;intro o21 ho21 h
 refine lq (σ:=(Int×(List Int))) (τ:=(List Int)) (ν:=(List (List Int))) 2 (fun(s12,s13) a15=>Ax 51 [(0,AV.sl 1 (List.map A0 Bt)),(1,AV.own 0 0 (List.length C9)),(5,AV.row 1 (List.length s2)),(6,iA s1),(7,AV.row 2 (List.length s13)),(8,iA s12)]) (fun(s12,s13) a15=>[Ob.arr 1 (List.map Av C9),Ob.row 31 1 (List.map Ag s2),Ob.row 3 1 (List.map A0 s13)]) (fun x31 a30=>Ax 51 [(0,AV.sl 1 (List.map A0 Bt)),(1,AV.own 0 0 (List.length C9)),(5,AV.row 1 (List.length s2)),(6,iA s1),(7,AV.row 2 (List.length x31))]) (fun x31 a30=>[Ob.arr 1 (List.map Av C9),Ob.row 31 1 (List.map Ag s2),Ob.row 3 1 (List.map A0 x31)]) (fun v=>(AV.sl 1 (List.map Ag v),[Ob.arr 1 (List.map Av C9)])) (fun k s=>Dd n Bt C9 s1 k s.1 s.2) (fun s=>rfl) o21 n (0,([]:List Int)) (fun _=>0) ho21 ?_ ?_
 intro k14 ss a15 K16 cont17 hK18 hcont19 h hr20
 obtain⟨s12,s13⟩:=ss
 replace h:Dd n Bt C9 s1 (k14+1) s12 s13=some o21:=h
 rw[Dd] at h
 conv=>lhs;whnf
 revert h
 refine br ?_ ?_
 refine ix ?_;intro x23
 refine br ?_ ?_
 refine br ?_ ?_
 intro h
 refine Ae h ?_;clear h;intro x26 hx26 h
 try simp only[ls]
 refine B0 (by first|exact C4 hx26|exact Dh hx26|exact Eb hx26|exact Bz hx26|(have q:=C4 hx26;simp only[List.length_set] at q;exact q)|(have q:=Bz hx26;simp only[List.length_set,Nat.zero_add] at q ⊢;exact q)) ?_
 conv=>lhs;whnf
 try simp only[Nat.zero_add,Ci (f:=Av) hx26,Bi,ls]
 conv=>lhs;whnf
 revert h
 refine br ?_ ?_
 refine ar (ap A0 (List.map A0 s13) s13 ([[iA s12]]) ([s12]:List Int)) ?_
 exact fun h=>cq (hcont19 (IntKind.i64.wrap (s12+1),(s13++([s12]:List Int))) (fun _=>0) h)
 exact fun h=>cq (hcont19 (IntKind.i64.wrap (s12+1),s13) (fun _=>0) h)
 exact fun h=>cq (hcont19 (IntKind.i64.wrap (s12+1),s13) (fun _=>0) h)
 exact fun h=>cq (hcont19 (IntKind.i64.wrap (s12+1),s13) (fun _=>0) h)
 intro h;cases sj h
 exact kq (hr20 (fun _=>0))
 refine lrc ?_ ?_
 intro v e;subst e;cases sj h;exact hr9
 intro x31 a30 e;subst e
 dsimp only at h
 conv=>lhs;whnf
 revert h
 refine br ?_ ?_
 refine ar (ap Ag (List.map Ag s2) s2 ([[AV.sl 1 (List.map A0 x31)]]) ([x31]:List (List Int))) ?_
 exact fun h=>cq (hcont8 (IntKind.i64.wrap (s1+1),(s2++([x31]:List (List Int)))) (fun _=>0) h)
 exact fun h=>cq (hcont8 (IntKind.i64.wrap (s1+1),s2) (fun _=>0) h)
 intro h;cases sj h
 exact kq (hr9 (fun _=>0))
 refine lrc ?_ ?_
 intro v e;subst e;cases sj h;rfl
 intro x37 a36 e;subst e
 dsimp only at h
 conv=>lhs;whnf
 revert h
 intro h;obtain rfl:=sj h
 try simp only[ls]
 exact fq (y:=some (AV.sl 1 (List.take (List.length x37) (List.map Ag x37)),[Ob.arr 1 (List.map Av C9)]))
theorem Pa {n:Nat} ⦃A7:Aq⦄ ⦃C9:(List Bool)⦄ ⦃r:(List (List Int))⦄:He n A7 C9=some r→CN n 140 [AV.agg [AV.sl 1 (List.map A0 A7.Am),AV.sl 1 (List.map A0 A7.Aj),AV.sl 1 (List.map A0 A7.Aw)],AV.own 0 0 (List.length C9)] [Ob.arr 1 (List.map Av C9)]=some (AV.sl 1 (List.map Ag r),[Ob.arr 1 (List.map Av C9)]):=by
 intro h;rcases n with _|n;cases h
 rw[He] at h
 refine Au Tryz.func140 (by rfl) rfl rfl (B4 rfl) ?_
 intro call hc;conv=>lhs;whnf
 revert h
 refine cr hc (fun _ h=>A7d h) ?_;intro y1
 refine ca hc (fun _ h=>Pu h) ?_;intro y3
 refine cr hc (fun _ h=>U3 h) ?_;intro y5
 intro h;obtain rfl:=sj h
 try simp only[ls]
 exact fq (y:=some (AV.sl 1 (List.map Ag y5),[Ob.arr 1 (List.map Av C9)]))
theorem Zr {n:Nat} ⦃Bt:(List Int)⦄ ⦃D3:(List Bool)⦄ ⦃r:(List (List Int))⦄:Is n Bt D3=some r→CN n 136 [AV.sl 1 (List.map A0 Bt),AV.sl 1 (List.map Av D3)] []=some (AV.sl 1 (List.map Ag r),[]):=by
 intro h;rcases n with _|n;cases h
 rw[Is] at h
 refine Au Tryz.func136 (by rfl) rfl rfl (B4 rfl) ?_
 intro call hc;conv=>lhs;whnf
 revert h
 intro h;refine Ae h ?_;clear h;intro o10 ho10 h
 refine lq (σ:=(Int×(List (List Int)))) (τ:=(List (List Int))) (ν:=(List (List Int))) 0 (fun(s1,s2) a4=>Ax 51 [(0,AV.sl 1 (List.map A0 Bt)),(1,AV.sl 1 (List.map Av D3)),(5,AV.row 0 (List.length s2)),(6,iA s1)]) (fun(s1,s2) a4=>[Ob.row 31 1 (List.map Ag s2)]) (fun x37 a36=>Ax 51 [(5,AV.row 0 (List.length x37))]) (fun x37 a36=>[Ob.row 31 1 (List.map Ag x37)]) (fun v=>(AV.sl 1 (List.map Ag v),[])) (fun k s=>Dj n Bt D3 k s.1 s.2) (fun s=>rfl) o10 n (0,([]:List (List Int))) (fun _=>0) ho10 ?_ ?_
 intro k3 ss a4 K5 cont6 hK7 hcont8 h hr9
 obtain⟨s1,s2⟩:=ss
 replace h:Dj n Bt D3 (k3+1) s1 s2=some o10:=h
 rw[Dj] at h
 conv=>lhs;whnf
 revert h
 refine br ?_ ?_
 intro h;refine Ae h ?_;clear h;intro o21 ho21 h
 refine lq (σ:=(Int×(List Int))) (τ:=(List Int)) (ν:=(List (List Int))) 2 (fun(s12,s13) a15=>Ax 51 [(0,AV.sl 1 (List.map A0 Bt)),(1,AV.sl 1 (List.map Av D3)),(5,AV.row 0 (List.length s2)),(6,iA s1),(7,AV.row 1 (List.length s13)),(8,iA s12)]) (fun(s12,s13) a15=>[Ob.row 31 1 (List.map Ag s2),Ob.row 3 1 (List.map A0 s13)]) (fun x31 a30=>Ax 51 [(0,AV.sl 1 (List.map A0 Bt)),(1,AV.sl 1 (List.map Av D3)),(5,AV.row 0 (List.length s2)),(6,iA s1),(7,AV.row 1 (List.length x31))]) (fun x31 a30=>[Ob.row 31 1 (List.map Ag s2),Ob.row 3 1 (List.map A0 x31)]) (fun v=>(AV.sl 1 (List.map Ag v),[])) (fun k s=>Cy n Bt D3 s1 k s.1 s.2) (fun s=>rfl) o21 n (0,([]:List Int)) (fun _=>0) ho21 ?_ ?_
 intro k14 ss a15 K16 cont17 hK18 hcont19 h hr20
 obtain⟨s12,s13⟩:=ss
 replace h:Cy n Bt D3 s1 (k14+1) s12 s13=some o21:=h
 rw[Cy] at h
 conv=>lhs;whnf
 revert h
 refine br ?_ ?_
 refine ix ?_;intro x23
 refine br ?_ ?_
 refine br ?_ ?_
 refine ix ?_;intro x26
 refine br ?_ ?_
 refine ar (ap A0 (List.map A0 s13) s13 ([[iA s12]]) ([s12]:List Int)) ?_
 exact fun h=>cq (hcont19 (IntKind.i64.wrap (s12+1),(s13++([s12]:List Int))) (fun _=>0) h)
 exact fun h=>cq (hcont19 (IntKind.i64.wrap (s12+1),s13) (fun _=>0) h)
 exact fun h=>cq (hcont19 (IntKind.i64.wrap (s12+1),s13) (fun _=>0) h)
 exact fun h=>cq (hcont19 (IntKind.i64.wrap (s12+1),s13) (fun _=>0) h)
 intro h;cases sj h
 exact kq (hr20 (fun _=>0))
 refine lrc ?_ ?_
 intro v e;subst e;cases sj h;exact hr9
 intro x31 a30 e;subst e
 dsimp only at h
 conv=>lhs;whnf
 revert h
 refine br ?_ ?_
 refine ar (ap Ag (List.map Ag s2) s2 ([[AV.sl 1 (List.map A0 x31)]]) ([x31]:List (List Int))) ?_
 exact fun h=>cq (hcont8 (IntKind.i64.wrap (s1+1),(s2++([x31]:List (List Int)))) (fun _=>0) h)
 exact fun h=>cq (hcont8 (IntKind.i64.wrap (s1+1),s2) (fun _=>0) h)
 intro h;cases sj h
 exact kq (hr9 (fun _=>0))
 refine lrc ?_ ?_
 intro v e;subst e;cases sj h;rfl
 intro x37 a36 e;subst e
 dsimp only at h
 conv=>lhs;whnf
 revert h
 intro h;obtain rfl:=sj h
 try simp only[ls]
 exact fq (y:=some (AV.sl 1 (List.take (List.length x37) (List.map Ag x37)),[]))
theorem Zv {n:Nat} ⦃A7:Aq⦄ ⦃D3:(List Bool)⦄ ⦃r:(List (List Int))⦄:Ik n A7 D3=some r→CN n 140 [AV.agg [AV.sl 1 (List.map A0 A7.Am),AV.sl 1 (List.map A0 A7.Aj),AV.sl 1 (List.map A0 A7.Aw)],AV.sl 1 (List.map Av D3)] []=some (AV.sl 1 (List.map Ag r),[]):=by
 intro h;rcases n with _|n;cases h
 rw[Ik] at h
 refine Au Tryz.func140 (by rfl) rfl rfl (B4 rfl) ?_
 intro call hc;conv=>lhs;whnf
 revert h
 refine ca hc (fun _ h=>A1v h) ?_;intro y1
 refine ca hc (fun _ h=>Pu h) ?_;intro y3
 refine ca hc (fun _ h=>Zr h) ?_;intro y5
 exact rz
theorem A27 {n:Nat} ⦃A7:Aq⦄ ⦃r:(List (List Int))⦄:Kj n A7=some r→CN n 89 [AV.agg [AV.sl 1 (List.map A0 A7.Am),AV.sl 1 (List.map A0 A7.Aj),AV.sl 1 (List.map A0 A7.Aw)]] []=some (AV.sl 1 (List.map Ag r),[]):=by
 intro h;rcases n with _|n;cases h
 rw[Kj] at h
 refine Au Tryz.func89 (by rfl) rfl rfl (B4 rfl) ?_
 intro call hc;conv=>lhs;whnf
 revert h
 refine ca hc (fun _ h=>Pu h) ?_;intro y1
 intro h
 refine Ds h ?_;clear h;intro hc4 h
 try simp only[ls]
 refine B0 (by first|exact Pk (B:=1) hc4 rfl (by kernel_rfl)|exact O1 (B:=1) hc4 (by kernel_rfl)) ?_
 have hr3:List.replicate (((y1.length:Nat):Int)).toNat [bA false]=List.map Av (List.replicate (((y1.length:Nat):Int)).toNat false:List Bool):=by rw[List.map_replicate];rfl
 simp only[hr3,ls]
 conv=>lhs;whnf
 revert h
 intro h;refine Ae h ?_;clear h;intro o14 ho14 h
 refine lq (σ:=(Int×(List Bool))) (τ:=(List Bool)) (ν:=(List (List Int))) 0 (fun(s5,s6) a8=>Ax 23 [(3,AV.sl 1 (List.map A0 y1)),(4,AV.own 1 0 (List.length s6)),(5,iA s5)]) (fun(s5,s6) a8=>[Ob.var 66 [AV.sl 1 (List.map A0 A7.Am),AV.sl 1 (List.map A0 A7.Aj),AV.sl 1 (List.map A0 A7.Aw)],Ob.arr 1 (List.map Av s6)]) (fun x19 a18=>Ax 23 [(3,AV.sl 1 (List.map A0 y1)),(4,AV.own 1 0 (List.length x19))]) (fun x19 a18=>[Ob.var 66 [AV.sl 1 (List.map A0 A7.Am),AV.sl 1 (List.map A0 A7.Aj),AV.sl 1 (List.map A0 A7.Aw)],Ob.arr 1 (List.map Av x19)]) (fun v=>(AV.sl 1 (List.map Ag v),[])) (fun k s=>Eo n y1 k s.1 s.2) (fun s=>rfl) o14 n (0,(List.replicate (((y1.length:Nat):Int)).toNat false:List Bool)) (fun _=>0) ho14 ?_ ?_
 intro k7 ss a8 K9 cont10 hK11 hcont12 h hr13
 obtain⟨s5,s6⟩:=ss
 replace h:Eo n y1 (k7+1) s5 s6=some o14:=h
 rw[Eo] at h
 conv=>lhs;whnf
 revert h
 refine br ?_ ?_
 intro h
 refine Ae h ?_;clear h;intro x16 hx16 h
 try simp only[ls]
 refine B0 (by first|exact C4 hx16|exact Dh hx16|exact Eb hx16|exact Bz hx16|(have q:=C4 hx16;simp only[List.length_set] at q;exact q)|(have q:=Bz hx16;simp only[List.length_set,Nat.zero_add] at q ⊢;exact q)) ?_
 conv=>lhs;whnf
 try simp only[Nat.zero_add,Ci (f:=Av) hx16,Bi,ls]
 conv=>lhs;whnf
 revert h
 intro h
 have hs17:Bq (List.map Av s6) s5.toNat [bA true]=List.map Av (List.set s6 s5.toNat true):=by rw[B8,List.map_set];rfl
 have hs17_u:Bq (List.map Av s6) s5.toNat (Bn (Av x16) 0 [bA true])=List.map Av (List.set s6 s5.toNat true):=by rw[B8,List.map_set];rfl
 try simp only[Nat.zero_add,Ci (f:=Av) hx16]
 conv=>lhs;whnf
 try simp only[hs17,hs17_u]
 conv=>lhs;whnf
 revert h
 exact fun h=>cq (hcont12 (IntKind.i64.wrap (s5+1),(List.set s6 s5.toNat true)) (fun _=>0) h)
 intro h;cases sj h
 exact kq (hr13 (fun _=>0))
 refine lrc ?_ ?_
 intro v e;subst e;cases sj h;rfl
 intro x19 a18 e;subst e
 dsimp only at h
 conv=>lhs;whnf
 revert h
 refine cr hc (fun _ h=>U3 h) ?_;intro y20
 exact rz
theorem Q0 {n:Nat} ⦃A7:Aq⦄ ⦃Ao:(List (List Bool))⦄ ⦃Ab:Int⦄ ⦃r:Bool⦄:I2 n A7 Ao Ab=some r→CN n 88 [AV.agg [AV.sl 1 (List.map A0 A7.Am),AV.sl 1 (List.map A0 A7.Aj),AV.sl 1 (List.map A0 A7.Aw)],AV.sl 1 (List.map B6 Ao),iA Ab] []=some (bA r,[]):=by
 intro h;rcases n with _|n;cases h
 rw[I2] at h
 refine Au Tryz.func88 (by rfl) rfl rfl (B4 rfl) ?_
 intro call hc;conv=>lhs;whnf
 revert h
 refine ca hc (fun _ h=>Ii h) ?_;intro y1
 refine br ?_ ?_
 refine br ?_ ?_
 exact rz
 refine br ?_ ?_
 exact rz
 refine ca hc (fun _ h=>Ki h) ?_;intro y6
 refine br ?_ ?_
 exact rz
 intro h;refine Ae h ?_;clear h;intro o17 ho17 h
 refine lq (σ:=Int) (τ:=Unit) (ν:=Bool) 0 (fun s9 a11=>Ax 74 [(1,AV.sl 1 (List.map B6 Ao)),(2,iA Ab),(3,AV.ptr 0 0),(7,iA s9)]) (fun s9 a11=>[Ob.var 66 [AV.sl 1 (List.map A0 A7.Am),AV.sl 1 (List.map A0 A7.Aj),AV.sl 1 (List.map A0 A7.Aw)]]) (fun _ a21=>Ax 74 [(1,AV.sl 1 (List.map B6 Ao)),(2,iA Ab),(3,AV.ptr 0 0)]) (fun _ a21=>[Ob.var 66 [AV.sl 1 (List.map A0 A7.Am),AV.sl 1 (List.map A0 A7.Aj),AV.sl 1 (List.map A0 A7.Aw)]]) (fun v=>(bA v,[])) (fun k s=>Fk n Ao Ab k s) (fun s=>rfl) o17 n 0 (fun _=>0) ho17 ?_ ?_
 intro k10 s9 a11 K12 cont13 hK14 hcont15 h hr16
 replace h:Fk n Ao Ab (k10+1) s9=some o17:=h
 rw[Fk] at h
 conv=>lhs;whnf
 revert h
 refine br ?_ ?_
 refine ix ?_;intro x19
 refine br ?_ ?_
 intro h;cases sj h
 refine(hK14 _ _).trans ?_
 refine Eq.trans ?_ (Eq.symm (show _=some _ from hr16))
 conv=>lhs;whnf
 exact rq
 exact fun h=>cq (hcont15 (IntKind.i64.wrap (s9+1)) (fun _=>0) h)
 intro h;cases sj h
 exact kq (hr16 (fun _=>0))
 refine lrc ?_ ?_
 intro v e;subst e;cases sj h;rfl
 intro t a21 e;subst e
 dsimp only at h
 conv=>lhs;whnf
 revert h
 refine ca hc (fun _ h=>Km h) ?_;intro y22
 intro h;refine Ae h ?_;clear h;intro o32 ho32 h
 refine lq (σ:=Int) (τ:=Unit) (ν:=Bool) 2 (fun s24 a26=>Ax 74 [(1,AV.sl 1 (List.map B6 Ao)),(2,iA Ab),(8,AV.sl 3 (List.map Bo y22)),(9,iA s24)]) (fun s24 a26=>[Ob.var 66 [AV.sl 1 (List.map A0 A7.Am),AV.sl 1 (List.map A0 A7.Aj),AV.sl 1 (List.map A0 A7.Aw)]]) (fun _ a41=>Ax 74 []) (fun _ a41=>[Ob.var 66 [AV.sl 1 (List.map A0 A7.Am),AV.sl 1 (List.map A0 A7.Aj),AV.sl 1 (List.map A0 A7.Aw)]]) (fun v=>(bA v,[])) (fun k s=>Fg n Ao Ab y22 k s) (fun s=>rfl) o32 n 0 (fun _=>0) ho32 ?_ ?_
 intro k25 s24 a26 K27 cont28 hK29 hcont30 h hr31
 replace h:Fg n Ao Ab y22 (k25+1) s24=some o32:=h
 rw[Fg] at h
 conv=>lhs;whnf
 revert h
 refine br ?_ ?_
 refine ix ?_;intro x34
 refine br ?_ ?_
 intro h;cases sj h
 refine(hK29 _ _).trans ?_
 refine Eq.trans ?_ (Eq.symm (show _=some _ from hr31))
 conv=>lhs;whnf
 exact rq
 refine ix ?_;intro x36
 refine ix ?_;intro x37
 refine ix ?_;intro x38
 refine ix ?_;intro x39
 refine br ?_ ?_
 exact fun h=>cq (hcont30 (IntKind.i64.wrap (s24+1)) (fun _=>0) h)
 intro h;cases sj h
 refine(hK29 _ _).trans ?_
 refine Eq.trans ?_ (Eq.symm (show _=some _ from hr31))
 conv=>lhs;whnf
 exact rq
 intro h;cases sj h
 exact kq (hr31 (fun _=>0))
 refine lrc ?_ ?_
 intro v e;subst e;cases sj h;rfl
 intro t a41 e;subst e
 dsimp only at h
 conv=>lhs;whnf
 revert h
 exact rz
 exact rz
theorem Y0 {n:Nat} ⦃Bh:(List Int)⦄ ⦃Hh:Int⦄ ⦃r:Bool⦄:Ll n Bh Hh=some r→CN n 173 [AV.sl 1 (List.map A0 Bh),iA Hh] []=some (bA r,[]):=by
 intro h;rcases n with _|n;cases h
 rw[Ll] at h
 refine Au Tryz.func173 (by rfl) rfl rfl (B4 rfl) ?_
 intro call hc;conv=>lhs;whnf
 revert h
 intro h;refine Ae h ?_;clear h;intro o9 ho9 h
 refine lq (σ:=Int) (τ:=Unit) (ν:=Bool) 0 (fun s1 a3=>Ax 18 [(0,AV.sl 1 (List.map A0 Bh)),(1,iA Hh),(5,iA s1)]) (fun s1 a3=>[]) (fun _ a13=>Ax 18 []) (fun _ a13=>[]) (fun v=>(bA v,[])) (fun k s=>Gs n Bh Hh k s) (fun s=>rfl) o9 n 0 (fun _=>0) ho9 ?_ ?_
 intro k2 s1 a3 K4 cont5 hK6 hcont7 h hr8
 replace h:Gs n Bh Hh (k2+1) s1=some o9:=h
 rw[Gs] at h
 conv=>lhs;whnf
 revert h
 refine br ?_ ?_
 refine ix ?_;intro x11
 refine br ?_ ?_
 intro h;cases sj h
 refine(hK6 _ _).trans ?_
 refine Eq.trans ?_ (Eq.symm (show _=some _ from hr8))
 conv=>lhs;whnf
 exact rq
 exact fun h=>cq (hcont7 (IntKind.i64.wrap (s1+1)) (fun _=>0) h)
 intro h;cases sj h
 exact kq (hr8 (fun _=>0))
 refine lrc ?_ ?_
 intro v e;subst e;cases sj h;rfl
 intro t a13 e;subst e
 dsimp only at h
 conv=>lhs;whnf
 revert h
 exact rz
theorem X4 {n:Nat} ⦃A7:Aq⦄ ⦃Ch:(List Int)⦄ ⦃Ia:Int⦄ ⦃r:Bool⦄:Kh n A7 Ch Ia=some r→CN n 138 [AV.agg [AV.sl 1 (List.map A0 A7.Am),AV.sl 1 (List.map A0 A7.Aj),AV.sl 1 (List.map A0 A7.Aw)],AV.sl 1 (List.map A0 Ch),iA Ia] []=some (bA r,[]):=by
 intro h;rcases n with _|n;cases h
 rw[Kh] at h
 refine Au Tryz.func138 (by rfl) rfl rfl (B4 rfl) ?_
 intro call hc;conv=>lhs;whnf
 revert h
 refine ca hc (fun _ h=>Km h) ?_;intro y1
 intro h;refine Ae h ?_;clear h;intro o11 ho11 h
 refine lq (σ:=Int) (τ:=Unit) (ν:=Bool) 0 (fun s3 a5=>Ax 42 [(1,AV.sl 1 (List.map A0 Ch)),(2,iA Ia),(7,AV.sl 3 (List.map Bo y1)),(8,iA s3)]) (fun s3 a5=>[Ob.var 66 [AV.sl 1 (List.map A0 A7.Am),AV.sl 1 (List.map A0 A7.Aj),AV.sl 1 (List.map A0 A7.Aw)]]) (fun _ a23=>Ax 42 []) (fun _ a23=>[Ob.var 66 [AV.sl 1 (List.map A0 A7.Am),AV.sl 1 (List.map A0 A7.Aj),AV.sl 1 (List.map A0 A7.Aw)]]) (fun v=>(bA v,[])) (fun k s=>Ea n Ch Ia y1 k s) (fun s=>rfl) o11 n 0 (fun _=>0) ho11 ?_ ?_
 intro k4 s3 a5 K6 cont7 hK8 hcont9 h hr10
 replace h:Ea n Ch Ia y1 (k4+1) s3=some o11:=h
 rw[Ea] at h
 conv=>lhs;whnf
 revert h
 refine br ?_ ?_
 refine ix ?_;intro x13
 refine br ?_ ?_
 refine ix ?_;intro x15
 refine ca hc (fun _ h=>Y0 h) ?_;intro y16
 refine br ?_ ?_
 refine ix ?_;intro x19
 refine ca hc (fun _ h=>Y0 h) ?_;intro y20
 refine br ?_ ?_
 intro h;cases sj h
 refine(hK8 _ _).trans ?_
 refine Eq.trans ?_ (Eq.symm (show _=some _ from hr10))
 conv=>lhs;whnf
 exact rq
 exact fun h=>cq (hcont9 (IntKind.i64.wrap (s3+1)) (fun _=>0) h)
 exact fun h=>cq (hcont9 (IntKind.i64.wrap (s3+1)) (fun _=>0) h)
 exact fun h=>cq (hcont9 (IntKind.i64.wrap (s3+1)) (fun _=>0) h)
 intro h;cases sj h
 exact kq (hr10 (fun _=>0))
 refine lrc ?_ ?_
 intro v e;subst e;cases sj h;rfl
 intro t a23 e;subst e
 dsimp only at h
 conv=>lhs;whnf
 revert h
 exact rz
theorem A48 {n:Nat} ⦃Ph:(List (List Bool))⦄ ⦃Ch:(List Int)⦄ ⦃Ia:Int⦄ ⦃r:Int⦄:Lg n Ph Ch Ia=some r→CN n 137 [AV.sl 1 (List.map B6 Ph),AV.sl 1 (List.map A0 Ch),iA Ia] []=some (iA r,[]):=by
 intro h;rcases n with _|n;cases h
 rw[Lg] at h
 refine Au Tryz.func137 (by rfl) rfl rfl (B4 rfl) ?_
 intro call hc;conv=>lhs;whnf
 revert h
 intro h;refine Ae h ?_;clear h;intro o10 ho10 h
 refine lq (σ:=(Int×Int)) (τ:=Int) (ν:=Int) 0 (fun(s1,s2) a4=>Ax 28 [(0,AV.sl 1 (List.map B6 Ph)),(1,AV.sl 1 (List.map A0 Ch)),(2,iA Ia),(7,iA s1),(8,iA s2)]) (fun(s1,s2) a4=>[]) (fun x17 a16=>Ax 28 [(7,iA x17)]) (fun x17 a16=>[]) (fun v=>(iA v,[])) (fun k s=>Ei n Ph Ch Ia k s.1 s.2) (fun s=>rfl) o10 n (0,0) (fun _=>0) ho10 ?_ ?_
 intro k3 ss a4 K5 cont6 hK7 hcont8 h hr9
 obtain⟨s1,s2⟩:=ss
 replace h:Ei n Ph Ch Ia (k3+1) s1 s2=some o10:=h
 rw[Ei] at h
 conv=>lhs;whnf
 revert h
 refine br ?_ ?_
 refine ix ?_;intro x12
 refine ix ?_;intro x13
 refine ix ?_;intro x14
 refine br ?_ ?_
 exact fun h=>cq (hcont8 (IntKind.i64.wrap (s1+1),IntKind.i64.wrap (s2+1)) (fun _=>0) h)
 exact fun h=>cq (hcont8 (s1,IntKind.i64.wrap (s2+1)) (fun _=>0) h)
 intro h;cases sj h
 exact kq (hr9 (fun _=>0))
 refine lrc ?_ ?_
 intro v e;subst e;cases sj h;rfl
 intro x17 a16 e;subst e
 dsimp only at h
 conv=>lhs;whnf
 revert h
 exact rz
theorem Ld {n:Nat} ⦃A7:Aq⦄ ⦃Ao:(List (List Bool))⦄ ⦃Ab:Int⦄ ⦃Bl:Int⦄ ⦃Bj:(List Int)⦄ ⦃r:Bool⦄:Gp n A7 Ao Ab Bl Bj=some r→CN n 90 [AV.agg [AV.sl 1 (List.map A0 A7.Am),AV.sl 1 (List.map A0 A7.Aj),AV.sl 1 (List.map A0 A7.Aw)],AV.sl 1 (List.map B6 Ao),iA Ab,iA Bl,AV.sl 1 (List.map A0 Bj)] []=some (bA r,[]):=by
 intro h;rcases n with _|n;cases h
 rw[Gp] at h
 refine Au Tryz.func90 (by rfl) rfl rfl (B4 rfl) ?_
 intro call hc;conv=>lhs;whnf
 revert h
 intro h;refine Ae h ?_;clear h;intro o9 ho9 h
 refine lq (σ:=Int) (τ:=Unit) (ν:=Bool) 0 (fun s1 a3=>Ax 48 [(1,AV.sl 1 (List.map B6 Ao)),(2,iA Ab),(3,iA Bl),(4,AV.sl 1 (List.map A0 Bj)),(5,AV.ptr 0 0),(11,iA s1)]) (fun s1 a3=>[Ob.var 66 [AV.sl 1 (List.map A0 A7.Am),AV.sl 1 (List.map A0 A7.Aj),AV.sl 1 (List.map A0 A7.Aw)]]) (fun _ a22=>Ax 48 [(4,AV.sl 1 (List.map A0 Bj)),(5,AV.ptr 0 0)]) (fun _ a22=>[Ob.var 66 [AV.sl 1 (List.map A0 A7.Am),AV.sl 1 (List.map A0 A7.Aj),AV.sl 1 (List.map A0 A7.Aw)]]) (fun v=>(bA v,[])) (fun k s=>Ct n A7 Ao Ab Bl Bj k s) (fun s=>rfl) o9 n 0 (fun _=>0) ho9 ?_ ?_
 intro k2 s1 a3 K4 cont5 hK6 hcont7 h hr8
 replace h:Ct n A7 Ao Ab Bl Bj (k2+1) s1=some o9:=h
 rw[Ct] at h
 conv=>lhs;whnf
 revert h
 refine br ?_ ?_
 refine ca hc (fun _ h=>A48 h) ?_;intro y11
 refine ca hc (fun _ h=>X4 h) ?_;intro y13
 refine br ?_ ?_
 exact fun h=>cq (hcont7 (IntKind.i64.wrap (s1+1)) (fun _=>0) h)
 refine br ?_ ?_
 refine br ?_ ?_
 intro h;cases sj h
 refine(hK6 _ _).trans ?_
 refine Eq.trans ?_ (Eq.symm (show _=some _ from hr8))
 conv=>lhs;whnf
 exact rq
 refine br ?_ ?_
 refine br ?_ ?_
 intro h;cases sj h
 refine(hK6 _ _).trans ?_
 refine Eq.trans ?_ (Eq.symm (show _=some _ from hr8))
 conv=>lhs;whnf
 exact rq
 exact fun h=>cq (hcont7 (IntKind.i64.wrap (s1+1)) (fun _=>0) h)
 exact fun h=>cq (hcont7 (IntKind.i64.wrap (s1+1)) (fun _=>0) h)
 refine br ?_ ?_
 refine br ?_ ?_
 intro h;cases sj h
 refine(hK6 _ _).trans ?_
 refine Eq.trans ?_ (Eq.symm (show _=some _ from hr8))
 conv=>lhs;whnf
 exact rq
 exact fun h=>cq (hcont7 (IntKind.i64.wrap (s1+1)) (fun _=>0) h)
 exact fun h=>cq (hcont7 (IntKind.i64.wrap (s1+1)) (fun _=>0) h)
 intro h;cases sj h
 exact kq (hr8 (fun _=>0))
 refine lrc ?_ ?_
 intro v e;subst e;cases sj h;rfl
 intro t a22 e;subst e
 dsimp only at h
 conv=>lhs;whnf
 revert h
 refine ca hc (fun _ h=>Oz h) ?_;intro y23
 exact rz
theorem Wy {n:Nat} ⦃A7:Aq⦄ ⦃Ao:(List (List Bool))⦄ ⦃Ab:Int⦄ ⦃Cx:(List Int)⦄ ⦃r:(List Bool)⦄:Ka n A7 Ao Ab Cx=some r→CN n 141 [AV.agg [AV.sl 1 (List.map A0 A7.Am),AV.sl 1 (List.map A0 A7.Aj),AV.sl 1 (List.map A0 A7.Aw)],AV.sl 1 (List.map B6 Ao),iA Ab,AV.sl 1 (List.map A0 Cx)] []=some (AV.sl 1 (List.map Av r),[]):=by
 intro h;rcases n with _|n;cases h
 rw[Ka] at h
 refine Au Tryz.func141 (by rfl) rfl rfl (B4 rfl) ?_
 intro call hc;conv=>lhs;whnf
 revert h
 intro h
 refine Ds h ?_;clear h;intro hc2 h
 try simp only[ls]
 refine B0 (by first|exact Pk (B:=1) hc2 rfl (by kernel_rfl)|exact O1 (B:=1) hc2 (by kernel_rfl)) ?_
 have hr1:List.replicate (((Ao.length:Nat):Int)).toNat [bA false]=List.map Av (List.replicate (((Ao.length:Nat):Int)).toNat false:List Bool):=by rw[List.map_replicate];rfl
 simp only[hr1,ls]
 conv=>lhs;whnf
 revert h
 intro h;refine Ae h ?_;clear h;intro o12 ho12 h
 refine lq (σ:=(Int×(List Bool))) (τ:=(List Bool)) (ν:=(List Bool)) 0 (fun(s3,s4) a6=>Ax 60 [(1,AV.sl 1 (List.map B6 Ao)),(2,iA Ab),(3,AV.sl 1 (List.map A0 Cx)),(4,AV.ptr 0 0),(9,AV.own 1 0 (List.length s4)),(10,iA s3)]) (fun(s3,s4) a6=>[Ob.var 66 [AV.sl 1 (List.map A0 A7.Am),AV.sl 1 (List.map A0 A7.Aj),AV.sl 1 (List.map A0 A7.Aw)],Ob.arr 1 (List.map Av s4)]) (fun x18 a17=>Ax 60 [(1,AV.sl 1 (List.map B6 Ao)),(2,iA Ab),(3,AV.sl 1 (List.map A0 Cx)),(4,AV.ptr 0 0),(9,AV.own 1 0 (List.length x18))]) (fun x18 a17=>[Ob.var 66 [AV.sl 1 (List.map A0 A7.Am),AV.sl 1 (List.map A0 A7.Aj),AV.sl 1 (List.map A0 A7.Aw)],Ob.arr 1 (List.map Av x18)]) (fun v=>(AV.sl 1 (List.map Av v),[])) (fun k s=>Gd n Cx k s.1 s.2) (fun s=>rfl) o12 n (0,(List.replicate (((Ao.length:Nat):Int)).toNat false:List Bool)) (fun _=>0) ho12 ?_ ?_
 intro k5 ss a6 K7 cont8 hK9 hcont10 h hr11
 obtain⟨s3,s4⟩:=ss
 replace h:Gd n Cx (k5+1) s3 s4=some o12:=h
 rw[Gd] at h
 conv=>lhs;whnf
 revert h
 refine br ?_ ?_
 refine ix ?_;intro x14
 intro h
 refine Ae h ?_;clear h;intro x15 hx15 h
 try simp only[ls]
 refine B0 (by first|exact C4 hx15|exact Dh hx15|exact Eb hx15|exact Bz hx15|(have q:=C4 hx15;simp only[List.length_set] at q;exact q)|(have q:=Bz hx15;simp only[List.length_set,Nat.zero_add] at q ⊢;exact q)) ?_
 conv=>lhs;whnf
 try simp only[Nat.zero_add,Ci (f:=Av) hx15,Bi,ls]
 conv=>lhs;whnf
 revert h
 intro h
 have hs16:Bq (List.map Av s4) x14.toNat [bA true]=List.map Av (List.set s4 x14.toNat true):=by rw[B8,List.map_set];rfl
 have hs16_u:Bq (List.map Av s4) x14.toNat (Bn (Av x15) 0 [bA true])=List.map Av (List.set s4 x14.toNat true):=by rw[B8,List.map_set];rfl
 try simp only[Nat.zero_add,Ci (f:=Av) hx15]
 conv=>lhs;whnf
 try simp only[hs16,hs16_u]
 conv=>lhs;whnf
 revert h
 exact fun h=>cq (hcont10 (IntKind.i64.wrap (s3+1),(List.set s4 x14.toNat true)) (fun _=>0) h)
 intro h;cases sj h
 exact kq (hr11 (fun _=>0))
 refine lrc ?_ ?_
 intro v e;subst e;cases sj h;rfl
 intro x18 a17 e;subst e
 dsimp only at h
 conv=>lhs;whnf
 revert h
 intro h;refine Ae h ?_;clear h;intro o28 ho28 h
 refine lq (σ:=(Int×(List Bool))) (τ:=(List Bool)) (ν:=(List Bool)) 2 (fun(s19,s20) a22=>Ax 60 [(1,AV.sl 1 (List.map B6 Ao)),(2,iA Ab),(3,AV.sl 1 (List.map A0 Cx)),(4,AV.ptr 0 0),(9,AV.own 1 0 (List.length s20)),(11,iA s19)]) (fun(s19,s20) a22=>[Ob.var 66 [AV.sl 1 (List.map A0 A7.Am),AV.sl 1 (List.map A0 A7.Aj),AV.sl 1 (List.map A0 A7.Aw)],Ob.arr 1 (List.map Av s20)]) (fun x55 a54=>Ax 60 [(9,AV.own 1 0 (List.length x55))]) (fun x55 a54=>[Ob.var 66 [AV.sl 1 (List.map A0 A7.Am),AV.sl 1 (List.map A0 A7.Aj),AV.sl 1 (List.map A0 A7.Aw)],Ob.arr 1 (List.map Av x55)]) (fun v=>(AV.sl 1 (List.map Av v),[])) (fun k s=>Fe n A7 Ao Ab Cx k s.1 s.2) (fun s=>rfl) o28 n (0,x18) (fun _=>0) ho28 ?_ ?_
 intro k21 ss a22 K23 cont24 hK25 hcont26 h hr27
 obtain⟨s19,s20⟩:=ss
 replace h:Fe n A7 Ao Ab Cx (k21+1) s19 s20=some o28:=h
 rw[Fe] at h
 conv=>lhs;whnf
 revert h
 refine br ?_ ?_
 refine ca hc (fun _ h=>X4 h) ?_;intro y30
 refine br ?_ ?_
 exact fun h=>cq (hcont26 (IntKind.i64.wrap (s19+1),s20) (fun _=>0) h)
 intro h;refine Ae h ?_;clear h;intro o42 ho42 h
 refine lq (σ:=(Int×(List Bool))) (τ:=(List Bool)) (ν:=(List Bool)) 4 (fun(s33,s34) a36=>Ax 60 [(1,AV.sl 1 (List.map B6 Ao)),(2,iA Ab),(3,AV.sl 1 (List.map A0 Cx)),(4,AV.ptr 0 0),(9,AV.own 1 0 (List.length s34)),(11,iA s19),(12,iA s33)]) (fun(s33,s34) a36=>[Ob.var 66 [AV.sl 1 (List.map A0 A7.Am),AV.sl 1 (List.map A0 A7.Aj),AV.sl 1 (List.map A0 A7.Aw)],Ob.arr 1 (List.map Av s34)]) (fun x52 a51=>Ax 60 [(1,AV.sl 1 (List.map B6 Ao)),(2,iA Ab),(3,AV.sl 1 (List.map A0 Cx)),(4,AV.ptr 0 0),(9,AV.own 1 0 (List.length x52)),(11,iA s19)]) (fun x52 a51=>[Ob.var 66 [AV.sl 1 (List.map A0 A7.Am),AV.sl 1 (List.map A0 A7.Aj),AV.sl 1 (List.map A0 A7.Aw)],Ob.arr 1 (List.map Av x52)]) (fun v=>(AV.sl 1 (List.map Av v),[])) (fun k s=>Fc n Ao Cx s19 k s.1 s.2) (fun s=>rfl) o42 n (0,s20) (fun _=>0) ho42 ?_ ?_
 intro k35 ss a36 K37 cont38 hK39 hcont40 h hr41
 obtain⟨s33,s34⟩:=ss
 replace h:Fc n Ao Cx s19 (k35+1) s33 s34=some o42:=h
 rw[Fc] at h
 conv=>lhs;whnf
 revert h
 refine br ?_ ?_
 refine ix ?_;intro x44
 refine ix ?_;intro x45
 refine ix ?_;intro x46
 refine br ?_ ?_
 refine ix ?_;intro x48
 intro h
 refine Ae h ?_;clear h;intro x49 hx49 h
 try simp only[ls]
 refine B0 (by first|exact C4 hx49|exact Dh hx49|exact Eb hx49|exact Bz hx49|(have q:=C4 hx49;simp only[List.length_set] at q;exact q)|(have q:=Bz hx49;simp only[List.length_set,Nat.zero_add] at q ⊢;exact q)) ?_
 conv=>lhs;whnf
 try simp only[Nat.zero_add,Ci (f:=Av) hx49,Bi,ls]
 conv=>lhs;whnf
 revert h
 intro h
 have hs50:Bq (List.map Av s34) x48.toNat [bA false]=List.map Av (List.set s34 x48.toNat false):=by rw[B8,List.map_set];rfl
 have hs50_u:Bq (List.map Av s34) x48.toNat (Bn (Av x49) 0 [bA false])=List.map Av (List.set s34 x48.toNat false):=by rw[B8,List.map_set];rfl
 try simp only[Nat.zero_add,Ci (f:=Av) hx49]
 conv=>lhs;whnf
 try simp only[hs50,hs50_u]
 conv=>lhs;whnf
 revert h
 exact fun h=>cq (hcont40 (IntKind.i64.wrap (s33+1),(List.set s34 x48.toNat false)) (fun _=>0) h)
 exact fun h=>cq (hcont40 (IntKind.i64.wrap (s33+1),s34) (fun _=>0) h)
 intro h;cases sj h
 exact kq (hr41 (fun _=>0))
 refine lrc ?_ ?_
 intro v e;subst e;cases sj h;exact hr27
 intro x52 a51 e;subst e
 dsimp only at h
 conv=>lhs;whnf
 revert h
 exact fun h=>cq (hcont26 (IntKind.i64.wrap (s19+1),x52) (fun _=>0) h)
 intro h;cases sj h
 exact kq (hr27 (fun _=>0))
 refine lrc ?_ ?_
 intro v e;subst e;cases sj h;rfl
 intro x55 a54 e;subst e
 dsimp only at h
 conv=>lhs;whnf
 revert h
 intro h;obtain rfl:=sj h
 try simp only[ls]
 exact fq (y:=some (AV.sl 1 (List.take (List.length x55) (List.drop 0 (List.map Av x55))),[]))
def Jy (n:Nat):Prop:=∀ ⦃A7:Aq⦄ ⦃Ao:(List (List Bool))⦄ ⦃Ab:Int⦄ ⦃A3k:(List Bool)⦄ ⦃r:(List Int)⦄,F2 n A7 Ao Ab A3k=some r→CN n 91 [AV.agg [AV.sl 1 (List.map A0 A7.Am),AV.sl 1 (List.map A0 A7.Aj),AV.sl 1 (List.map A0 A7.Aw)],AV.sl 1 (List.map B6 Ao),iA Ab,AV.sl 1 (List.map Av A3k)] []=some (AV.sl 1 (List.map A0 r),[])
def N7 (n:Nat):Prop:=Jy n
theorem Zq (n:Nat) (ih:N7 n):Jy (n+1):=by
 intro A7 Ao Ab A3k r h
 rw[F2] at h
 refine Au Tryz.func91 (by rfl) rfl rfl (B4 rfl) ?_
 intro call hc;conv=>lhs;whnf
 revert h
 refine ca hc (fun _ h=>Zv h) ?_;intro y1
 intro h;refine Ae h ?_;clear h;intro o11 ho11 h
 refine lq (σ:=Int) (τ:=Unit) (ν:=(List Int)) 0 (fun s3 a5=>Ax 56 [(1,AV.sl 1 (List.map B6 Ao)),(2,iA Ab),(4,AV.ptr 0 0),(9,AV.sl 1 (List.map Ag y1)),(10,iA s3)]) (fun s3 a5=>[Ob.var 66 [AV.sl 1 (List.map A0 A7.Am),AV.sl 1 (List.map A0 A7.Aj),AV.sl 1 (List.map A0 A7.Aw)]]) (fun _ a28=>Ax 56 []) (fun _ a28=>[Ob.var 66 [AV.sl 1 (List.map A0 A7.Am),AV.sl 1 (List.map A0 A7.Aj),AV.sl 1 (List.map A0 A7.Aw)]]) (fun v=>(AV.sl 1 (List.map A0 v),[])) (fun k s=>Fs n (F2 n) A7 Ao Ab y1 k s) (fun s=>rfl) o11 n 0 (fun _=>0) ho11 ?_ ?_
 intro k4 s3 a5 K6 cont7 hK8 hcont9 h hr10
 replace h:Fs n (F2 n) A7 Ao Ab y1 (k4+1) s3=some o11:=h
 rw[Fs] at h
 conv=>lhs;whnf
 revert h
 refine br ?_ ?_
 refine ix ?_;intro x13
 refine ca hc (fun _ h=>Oz h) ?_;intro y14
 refine br ?_ ?_
 refine ix ?_;intro x17
 refine ca hc (fun _ h=>Ld h) ?_;intro y18
 refine br ?_ ?_
 refine ix ?_;intro x21
 intro h;cases sj h
 refine(hK8 _ _).trans ?_
 refine Eq.trans ?_ (Eq.symm (show _=some _ from hr10))
 conv=>lhs;whnf
 exact rq
 refine ix ?_;intro x22
 refine ca hc (fun _ h=>Wy h) ?_;intro y23
 refine ca hc (fun _ h=>ih h) ?_;intro y25
 refine br ?_ ?_
 intro h;cases sj h
 refine(hK8 _ _).trans ?_
 refine Eq.trans ?_ (Eq.symm (show _=some _ from hr10))
 conv=>lhs;whnf
 exact rq
 exact fun h=>cq (hcont9 (IntKind.i64.wrap (s3+1)) (fun _=>0) h)
 exact fun h=>cq (hcont9 (IntKind.i64.wrap (s3+1)) (fun _=>0) h)
 intro h;cases sj h
 exact kq (hr10 (fun _=>0))
 refine lrc ?_ ?_
 intro v e;subst e;cases sj h;rfl
 intro t a28 e;subst e
 dsimp only at h
 conv=>lhs;whnf
 revert h
 exact rz
theorem Qz:∀ n,N7 n
 | 0=>by unfold N7 Jy;intros;rename_i h;exact absurd h (by intro h;cases h)
 | n+1=>have ih:=Qz n
   Zq n ih
theorem Zu {n:Nat}:Jy n:=(Qz n)
theorem A2f {n:Nat} ⦃A7:Aq⦄ ⦃Ao:(List (List Bool))⦄ ⦃Ab:Int⦄ ⦃C9:(List Bool)⦄ ⦃r:(List Int)⦄:K3 n A7 Ao Ab C9=some r→CN n 91 [AV.agg [AV.sl 1 (List.map A0 A7.Am),AV.sl 1 (List.map A0 A7.Aj),AV.sl 1 (List.map A0 A7.Aw)],AV.sl 1 (List.map B6 Ao),iA Ab,AV.own 0 0 (List.length C9)] [Ob.arr 1 (List.map Av C9)]=some (AV.sl 1 (List.map A0 r),[Ob.arr 1 (List.map Av C9)]):=by
 intro h;rcases n with _|n;cases h
 rw[K3] at h
 refine Au Tryz.func91 (by rfl) rfl rfl (B4 rfl) ?_
 intro call hc;conv=>lhs;whnf
 revert h
 refine cr hc (fun _ h=>Pa h) ?_;intro y1
 intro h;refine Ae h ?_;clear h;intro o11 ho11 h
 refine lq (σ:=Int) (τ:=Unit) (ν:=(List Int)) 0 (fun s3 a5=>Ax 56 [(1,AV.sl 1 (List.map B6 Ao)),(2,iA Ab),(4,AV.ptr 1 0),(9,AV.sl 1 (List.map Ag y1)),(10,iA s3)]) (fun s3 a5=>[Ob.arr 1 (List.map Av C9),Ob.var 66 [AV.sl 1 (List.map A0 A7.Am),AV.sl 1 (List.map A0 A7.Aj),AV.sl 1 (List.map A0 A7.Aw)]]) (fun _ a28=>Ax 56 []) (fun _ a28=>[Ob.arr 1 (List.map Av C9),Ob.var 66 [AV.sl 1 (List.map A0 A7.Am),AV.sl 1 (List.map A0 A7.Aj),AV.sl 1 (List.map A0 A7.Aw)]]) (fun v=>(AV.sl 1 (List.map A0 v),[Ob.arr 1 (List.map Av C9)])) (fun k s=>E2 n A7 Ao Ab y1 k s) (fun s=>rfl) o11 n 0 (fun _=>0) ho11 ?_ ?_
 intro k4 s3 a5 K6 cont7 hK8 hcont9 h hr10
 replace h:E2 n A7 Ao Ab y1 (k4+1) s3=some o11:=h
 rw[E2] at h
 conv=>lhs;whnf
 revert h
 refine br ?_ ?_
 refine ix ?_;intro x13
 refine ca hc (fun _ h=>Oz h) ?_;intro y14
 refine br ?_ ?_
 refine ix ?_;intro x17
 refine ca hc (fun _ h=>Ld h) ?_;intro y18
 refine br ?_ ?_
 refine ix ?_;intro x21
 intro h;cases sj h
 refine(hK8 _ _).trans ?_
 refine Eq.trans ?_ (Eq.symm (show _=some _ from hr10))
 conv=>lhs;whnf
 try simp only[ls]
 exact fq (y:=some (AV.sl 1 (List.map A0 x21),[Ob.arr 1 (List.map Av C9)]))
 refine ix ?_;intro x22
 refine ca hc (fun _ h=>Wy h) ?_;intro y23
 refine ca hc (fun _ h=>Zu h) ?_;intro y25
 refine br ?_ ?_
 intro h;cases sj h
 refine(hK8 _ _).trans ?_
 refine Eq.trans ?_ (Eq.symm (show _=some _ from hr10))
 conv=>lhs;whnf
 try simp only[ls]
 exact fq (y:=some (AV.sl 1 (List.map A0 y25),[Ob.arr 1 (List.map Av C9)]))
 exact fun h=>cq (hcont9 (IntKind.i64.wrap (s3+1)) (fun _=>0) h)
 exact fun h=>cq (hcont9 (IntKind.i64.wrap (s3+1)) (fun _=>0) h)
 intro h;cases sj h
 exact kq (hr10 (fun _=>0))
 refine lrc ?_ ?_
 intro v e;subst e;cases sj h;rfl
 intro t a28 e;subst e
 dsimp only at h
 conv=>lhs;whnf
 revert h
 intro h;cases sj h
 try simp only[ls]
 exact fq (y:=some (AV.sl 1 [],[Ob.arr 1 (List.map Av C9)]))
theorem A3a {n:Nat} ⦃A7:Aq⦄ ⦃Ao:(List (List Bool))⦄ ⦃Ab:Int⦄ ⦃r:(List Int)⦄:Kl n A7 Ao Ab=some r→CN n 55 [AV.agg [AV.sl 1 (List.map A0 A7.Am),AV.sl 1 (List.map A0 A7.Aj),AV.sl 1 (List.map A0 A7.Aw)],AV.sl 1 (List.map B6 Ao),iA Ab] []=some (AV.sl 1 (List.map A0 r),[]):=by
 intro h;rcases n with _|n;cases h
 rw[Kl] at h
 refine Au Tryz.func55 (by rfl) rfl rfl (B4 rfl) ?_
 intro call hc;conv=>lhs;whnf
 revert h
 refine ca hc (fun _ h=>Q0 h) ?_;intro y1
 refine br ?_ ?_
 intro h
 refine Ds h ?_;clear h;intro hc5 h
 try simp only[ls]
 refine B0 (by first|exact Pk (B:=1) hc5 rfl (by kernel_rfl)|exact O1 (B:=1) hc5 (by kernel_rfl)) ?_
 have hr4:List.replicate (((Ao.length:Nat):Int)).toNat [bA false]=List.map Av (List.replicate (((Ao.length:Nat):Int)).toNat false:List Bool):=by rw[List.map_replicate];rfl
 simp only[hr4,ls]
 conv=>lhs;whnf
 revert h
 intro h;refine Ae h ?_;clear h;intro o15 ho15 h
 refine lq (σ:=(Int×(List Bool))) (τ:=(List Bool)) (ν:=(List Int)) 0 (fun(s6,s7) a9=>Ax 31 [(1,AV.sl 1 (List.map B6 Ao)),(2,iA Ab),(3,AV.ptr 0 0),(7,AV.own 1 0 (List.length s7)),(8,iA s6)]) (fun(s6,s7) a9=>[Ob.var 66 [AV.sl 1 (List.map A0 A7.Am),AV.sl 1 (List.map A0 A7.Aj),AV.sl 1 (List.map A0 A7.Aw)],Ob.arr 1 (List.map Av s7)]) (fun x20 a19=>Ax 31 [(1,AV.sl 1 (List.map B6 Ao)),(2,iA Ab),(3,AV.ptr 0 0),(7,AV.own 1 0 (List.length x20))]) (fun x20 a19=>[Ob.var 66 [AV.sl 1 (List.map A0 A7.Am),AV.sl 1 (List.map A0 A7.Aj),AV.sl 1 (List.map A0 A7.Aw)],Ob.arr 1 (List.map Av x20)]) (fun v=>(AV.sl 1 (List.map A0 v),[])) (fun k s=>Er n Ao k s.1 s.2) (fun s=>rfl) o15 n (0,(List.replicate (((Ao.length:Nat):Int)).toNat false:List Bool)) (fun _=>0) ho15 ?_ ?_
 intro k8 ss a9 K10 cont11 hK12 hcont13 h hr14
 obtain⟨s6,s7⟩:=ss
 replace h:Er n Ao (k8+1) s6 s7=some o15:=h
 rw[Er] at h
 conv=>lhs;whnf
 revert h
 refine br ?_ ?_
 intro h
 refine Ae h ?_;clear h;intro x17 hx17 h
 try simp only[ls]
 refine B0 (by first|exact C4 hx17|exact Dh hx17|exact Eb hx17|exact Bz hx17|(have q:=C4 hx17;simp only[List.length_set] at q;exact q)|(have q:=Bz hx17;simp only[List.length_set,Nat.zero_add] at q ⊢;exact q)) ?_
 conv=>lhs;whnf
 try simp only[Nat.zero_add,Ci (f:=Av) hx17,Bi,ls]
 conv=>lhs;whnf
 revert h
 intro h
 have hs18:Bq (List.map Av s7) s6.toNat [bA true]=List.map Av (List.set s7 s6.toNat true):=by rw[B8,List.map_set];rfl
 have hs18_u:Bq (List.map Av s7) s6.toNat (Bn (Av x17) 0 [bA true])=List.map Av (List.set s7 s6.toNat true):=by rw[B8,List.map_set];rfl
 try simp only[Nat.zero_add,Ci (f:=Av) hx17]
 conv=>lhs;whnf
 try simp only[hs18,hs18_u]
 conv=>lhs;whnf
 revert h
 exact fun h=>cq (hcont13 (IntKind.i64.wrap (s6+1),(List.set s7 s6.toNat true)) (fun _=>0) h)
 intro h;cases sj h
 exact kq (hr14 (fun _=>0))
 refine lrc ?_ ?_
 intro v e;subst e;cases sj h;rfl
 intro x20 a19 e;subst e
 dsimp only at h
 conv=>lhs;whnf
 revert h
 refine cr hc (fun _ h=>A2f h) ?_;intro y21
 exact rz
 exact rz
theorem A72 {n:Nat} ⦃A7:Aq⦄ ⦃Ao:(List (List Bool))⦄ ⦃Ab:Int⦄ ⦃r:(List Int)⦄:Me n A7 Ao Ab=some r→CN n 54 [AV.agg [AV.sl 1 (List.map A0 A7.Am),AV.sl 1 (List.map A0 A7.Aj),AV.sl 1 (List.map A0 A7.Aw)],AV.sl 1 (List.map B6 Ao),iA Ab] []=some (AV.sl 1 (List.map A0 r),[]):=by
 intro h;rcases n with _|n;cases h
 rw[Me] at h
 refine Au Tryz.func54 (by rfl) rfl rfl (B4 rfl) ?_
 intro call hc;conv=>lhs;whnf
 revert h
 refine ca hc (fun _ h=>Q0 h) ?_;intro y1
 refine br ?_ ?_
 refine ca hc (fun _ h=>A27 h) ?_;intro y4
 intro h;refine Ae h ?_;clear h;intro o14 ho14 h
 refine lq (σ:=Int) (τ:=Unit) (ν:=(List Int)) 0 (fun s6 a8=>Ax 34 [(1,AV.sl 1 (List.map B6 Ao)),(2,iA Ab),(3,AV.ptr 0 0),(7,AV.sl 1 (List.map Ag y4)),(8,iA s6)]) (fun s6 a8=>[Ob.var 66 [AV.sl 1 (List.map A0 A7.Am),AV.sl 1 (List.map A0 A7.Aj),AV.sl 1 (List.map A0 A7.Aw)]]) (fun _ a21=>Ax 34 []) (fun _ a21=>[Ob.var 66 [AV.sl 1 (List.map A0 A7.Am),AV.sl 1 (List.map A0 A7.Aj),AV.sl 1 (List.map A0 A7.Aw)]]) (fun v=>(AV.sl 1 (List.map A0 v),[])) (fun k s=>Gc n A7 Ao Ab y4 k s) (fun s=>rfl) o14 n 0 (fun _=>0) ho14 ?_ ?_
 intro k7 s6 a8 K9 cont10 hK11 hcont12 h hr13
 replace h:Gc n A7 Ao Ab y4 (k7+1) s6=some o14:=h
 rw[Gc] at h
 conv=>lhs;whnf
 revert h
 refine br ?_ ?_
 refine ix ?_;intro x16
 refine ca hc (fun _ h=>Ld h) ?_;intro y17
 refine br ?_ ?_
 refine ix ?_;intro x20
 intro h;cases sj h
 refine(hK11 _ _).trans ?_
 refine Eq.trans ?_ (Eq.symm (show _=some _ from hr13))
 conv=>lhs;whnf
 exact rq
 exact fun h=>cq (hcont12 (IntKind.i64.wrap (s6+1)) (fun _=>0) h)
 intro h;cases sj h
 exact kq (hr13 (fun _=>0))
 refine lrc ?_ ?_
 intro v e;subst e;cases sj h;rfl
 intro t a21 e;subst e
 dsimp only at h
 conv=>lhs;whnf
 revert h
 exact rz
 exact rz
theorem A7f {n:Nat} ⦃A7:Aq⦄ ⦃Ao:(List (List Bool))⦄ ⦃Ab:Int⦄ ⦃Bl:Int⦄ ⦃r:(List Int)⦄:Ip n A7 Ao Ab Bl=some r→CN n 36 [AV.agg [AV.sl 1 (List.map A0 A7.Am),AV.sl 1 (List.map A0 A7.Aj),AV.sl 1 (List.map A0 A7.Aw)],AV.sl 1 (List.map B6 Ao),iA Ab,iA Bl] []=some (AV.sl 1 (List.map A0 r),[]):=by
 intro h;rcases n with _|n;cases h
 rw[Ip] at h
 refine Au Tryz.func36 (by rfl) rfl rfl (B4 rfl) ?_
 intro call hc;conv=>lhs;whnf
 revert h
 refine br ?_ ?_
 refine ca hc (fun _ h=>A72 h) ?_;intro y2
 exact rz
 refine br ?_ ?_
 refine ca hc (fun _ h=>A3a h) ?_;intro y5
 exact rz
 exact rz
theorem A78 {n:Nat} ⦃A7:Aq⦄ ⦃Ao:(List (List Bool))⦄ ⦃Ab:Int⦄ ⦃Bl:Int⦄ ⦃Bj:(List Int)⦄ ⦃r:Bool⦄:M3 n A7 Ao Ab Bl Bj=some r→CN n 92 [AV.agg [AV.sl 1 (List.map A0 A7.Am),AV.sl 1 (List.map A0 A7.Aj),AV.sl 1 (List.map A0 A7.Aw)],AV.sl 1 (List.map B6 Ao),iA Ab,iA Bl,AV.sl 1 (List.map A0 Bj)] []=some (bA r,[]):=by
 intro h;rcases n with _|n;cases h
 rw[M3] at h
 refine Au Tryz.func92 (by rfl) rfl rfl (B4 rfl) ?_
 intro call hc;conv=>lhs;whnf
 revert h
 refine ca hc (fun _ h=>Q0 h) ?_;intro y1
 refine br ?_ ?_
 refine br ?_ ?_
 refine br ?_ ?_
 exact rz
 intro h
 refine Ds h ?_;clear h;intro hc7 h
 try simp only[ls]
 refine B0 (by first|exact Pk (B:=1) hc7 rfl (by kernel_rfl)|exact O1 (B:=1) hc7 (by kernel_rfl)) ?_
 have hr6:List.replicate (((Ao.length:Nat):Int)).toNat [bA false]=List.map Av (List.replicate (((Ao.length:Nat):Int)).toNat false:List Bool):=by rw[List.map_replicate];rfl
 simp only[hr6,ls]
 conv=>lhs;whnf
 revert h
 intro h;refine Ae h ?_;clear h;intro o17 ho17 h
 refine lq (σ:=(Int×(List Bool))) (τ:=(List Bool)) (ν:=Bool) 0 (fun(s8,s9) a11=>Ax 77 [(1,AV.sl 1 (List.map B6 Ao)),(2,iA Ab),(3,iA Bl),(4,AV.sl 1 (List.map A0 Bj)),(5,AV.ptr 0 0),(11,AV.own 1 0 (List.length s9)),(12,iA s8)]) (fun(s8,s9) a11=>[Ob.var 66 [AV.sl 1 (List.map A0 A7.Am),AV.sl 1 (List.map A0 A7.Aj),AV.sl 1 (List.map A0 A7.Aw)],Ob.arr 1 (List.map Av s9)]) (fun x30 a29=>Ax 77 [(1,AV.sl 1 (List.map B6 Ao)),(2,iA Ab),(3,iA Bl),(4,AV.sl 1 (List.map A0 Bj)),(5,AV.ptr 0 0),(11,AV.own 1 0 (List.length x30))]) (fun x30 a29=>[Ob.var 66 [AV.sl 1 (List.map A0 A7.Am),AV.sl 1 (List.map A0 A7.Aj),AV.sl 1 (List.map A0 A7.Aw)],Ob.arr 1 (List.map Av x30)]) (fun v=>(bA v,[])) (fun k s=>J4 n Ao Bj k s.1 s.2) (fun s=>rfl) o17 n (0,(List.replicate (((Ao.length:Nat):Int)).toNat false:List Bool)) (fun _=>0) ho17 ?_ ?_
 intro k10 ss a11 K12 cont13 hK14 hcont15 h hr16
 obtain⟨s8,s9⟩:=ss
 replace h:J4 n Ao Bj (k10+1) s8 s9=some o17:=h
 rw[J4] at h
 conv=>lhs;whnf
 revert h
 refine br ?_ ?_
 refine ix ?_;intro x19
 refine br ?_ ?_
 intro h;cases sj h
 refine(hK14 _ _).trans ?_
 refine Eq.trans ?_ (Eq.symm (show _=some _ from hr16))
 conv=>lhs;whnf
 exact rq
 refine ix ?_;intro x21
 refine br ?_ ?_
 intro h;cases sj h
 refine(hK14 _ _).trans ?_
 refine Eq.trans ?_ (Eq.symm (show _=some _ from hr16))
 conv=>lhs;whnf
 exact rq
 refine ix ?_;intro x23
 intro h
 refine Ae h ?_;clear h;intro x24 hx24 h
 try simp only[ls]
 refine B0 (by first|exact C4 hx24|exact Dh hx24|exact Eb hx24|exact Bz hx24|(have q:=C4 hx24;simp only[List.length_set] at q;exact q)|(have q:=Bz hx24;simp only[List.length_set,Nat.zero_add] at q ⊢;exact q)) ?_
 conv=>lhs;whnf
 try simp only[Nat.zero_add,Ci (f:=Av) hx24,Bi,ls]
 conv=>lhs;whnf
 revert h
 refine br ?_ ?_
 intro h;cases sj h
 refine(hK14 _ _).trans ?_
 refine Eq.trans ?_ (Eq.symm (show _=some _ from hr16))
 conv=>lhs;whnf
 exact rq
 refine ix ?_;intro x26
 intro h
 refine Ae h ?_;clear h;intro x27 hx27 h
 try simp only[ls]
 refine B0 (by first|exact C4 hx27|exact Dh hx27|exact Eb hx27|exact Bz hx27|(have q:=C4 hx27;simp only[List.length_set] at q;exact q)|(have q:=Bz hx27;simp only[List.length_set,Nat.zero_add] at q ⊢;exact q)) ?_
 conv=>lhs;whnf
 try simp only[Nat.zero_add,Ci (f:=Av) hx27,Bi,ls]
 conv=>lhs;whnf
 revert h
 intro h
 have hs28:Bq (List.map Av s9) x26.toNat [bA true]=List.map Av (List.set s9 x26.toNat true):=by rw[B8,List.map_set];rfl
 have hs28_u:Bq (List.map Av s9) x26.toNat (Bn (Av x27) 0 [bA true])=List.map Av (List.set s9 x26.toNat true):=by rw[B8,List.map_set];rfl
 try simp only[Nat.zero_add,Ci (f:=Av) hx27]
 conv=>lhs;whnf
 try simp only[hs28,hs28_u]
 conv=>lhs;whnf
 revert h
 exact fun h=>cq (hcont15 (IntKind.i64.wrap (s8+1),(List.set s9 x26.toNat true)) (fun _=>0) h)
 intro h;cases sj h
 exact kq (hr16 (fun _=>0))
 refine lrc ?_ ?_
 intro v e;subst e;cases sj h;rfl
 intro x30 a29 e;subst e
 dsimp only at h
 conv=>lhs;whnf
 revert h
 refine cr hc (fun _ h=>Pa h) ?_;intro y31
 refine br ?_ ?_
 refine ca hc (fun _ h=>Ld h) ?_;intro y34
 exact rz
 exact rz
 intro h
 refine Ds h ?_;clear h;intro hc38 h
 try simp only[ls]
 refine B0 (by first|exact Pk (B:=1) hc38 rfl (by kernel_rfl)|exact O1 (B:=1) hc38 (by kernel_rfl)) ?_
 have hr37:List.replicate (((Ao.length:Nat):Int)).toNat [bA false]=List.map Av (List.replicate (((Ao.length:Nat):Int)).toNat false:List Bool):=by rw[List.map_replicate];rfl
 simp only[hr37,ls]
 conv=>lhs;whnf
 revert h
 intro h;refine Ae h ?_;clear h;intro o48 ho48 h
 refine lq (σ:=(Int×(List Bool))) (τ:=(List Bool)) (ν:=Bool) 0 (fun(s39,s40) a42=>Ax 77 [(1,AV.sl 1 (List.map B6 Ao)),(2,iA Ab),(3,iA Bl),(4,AV.sl 1 (List.map A0 Bj)),(5,AV.ptr 0 0),(11,AV.own 1 0 (List.length s40)),(12,iA s39)]) (fun(s39,s40) a42=>[Ob.var 66 [AV.sl 1 (List.map A0 A7.Am),AV.sl 1 (List.map A0 A7.Aj),AV.sl 1 (List.map A0 A7.Aw)],Ob.arr 1 (List.map Av s40)]) (fun x61 a60=>Ax 77 [(1,AV.sl 1 (List.map B6 Ao)),(2,iA Ab),(3,iA Bl),(4,AV.sl 1 (List.map A0 Bj)),(5,AV.ptr 0 0),(11,AV.own 1 0 (List.length x61))]) (fun x61 a60=>[Ob.var 66 [AV.sl 1 (List.map A0 A7.Am),AV.sl 1 (List.map A0 A7.Aj),AV.sl 1 (List.map A0 A7.Aw)],Ob.arr 1 (List.map Av x61)]) (fun v=>(bA v,[])) (fun k s=>J2 n Ao Bj k s.1 s.2) (fun s=>rfl) o48 n (0,(List.replicate (((Ao.length:Nat):Int)).toNat false:List Bool)) (fun _=>0) ho48 ?_ ?_
 intro k41 ss a42 K43 cont44 hK45 hcont46 h hr47
 obtain⟨s39,s40⟩:=ss
 replace h:J2 n Ao Bj (k41+1) s39 s40=some o48:=h
 rw[J2] at h
 conv=>lhs;whnf
 revert h
 refine br ?_ ?_
 refine ix ?_;intro x50
 refine br ?_ ?_
 intro h;cases sj h
 refine(hK45 _ _).trans ?_
 refine Eq.trans ?_ (Eq.symm (show _=some _ from hr47))
 conv=>lhs;whnf
 exact rq
 refine ix ?_;intro x52
 refine br ?_ ?_
 intro h;cases sj h
 refine(hK45 _ _).trans ?_
 refine Eq.trans ?_ (Eq.symm (show _=some _ from hr47))
 conv=>lhs;whnf
 exact rq
 refine ix ?_;intro x54
 intro h
 refine Ae h ?_;clear h;intro x55 hx55 h
 try simp only[ls]
 refine B0 (by first|exact C4 hx55|exact Dh hx55|exact Eb hx55|exact Bz hx55|(have q:=C4 hx55;simp only[List.length_set] at q;exact q)|(have q:=Bz hx55;simp only[List.length_set,Nat.zero_add] at q ⊢;exact q)) ?_
 conv=>lhs;whnf
 try simp only[Nat.zero_add,Ci (f:=Av) hx55,Bi,ls]
 conv=>lhs;whnf
 revert h
 refine br ?_ ?_
 intro h;cases sj h
 refine(hK45 _ _).trans ?_
 refine Eq.trans ?_ (Eq.symm (show _=some _ from hr47))
 conv=>lhs;whnf
 exact rq
 refine ix ?_;intro x57
 intro h
 refine Ae h ?_;clear h;intro x58 hx58 h
 try simp only[ls]
 refine B0 (by first|exact C4 hx58|exact Dh hx58|exact Eb hx58|exact Bz hx58|(have q:=C4 hx58;simp only[List.length_set] at q;exact q)|(have q:=Bz hx58;simp only[List.length_set,Nat.zero_add] at q ⊢;exact q)) ?_
 conv=>lhs;whnf
 try simp only[Nat.zero_add,Ci (f:=Av) hx58,Bi,ls]
 conv=>lhs;whnf
 revert h
 intro h
 have hs59:Bq (List.map Av s40) x57.toNat [bA true]=List.map Av (List.set s40 x57.toNat true):=by rw[B8,List.map_set];rfl
 have hs59_u:Bq (List.map Av s40) x57.toNat (Bn (Av x58) 0 [bA true])=List.map Av (List.set s40 x57.toNat true):=by rw[B8,List.map_set];rfl
 try simp only[Nat.zero_add,Ci (f:=Av) hx58]
 conv=>lhs;whnf
 try simp only[hs59,hs59_u]
 conv=>lhs;whnf
 revert h
 exact fun h=>cq (hcont46 (IntKind.i64.wrap (s39+1),(List.set s40 x57.toNat true)) (fun _=>0) h)
 intro h;cases sj h
 exact kq (hr47 (fun _=>0))
 refine lrc ?_ ?_
 intro v e;subst e;cases sj h;rfl
 intro x61 a60 e;subst e
 dsimp only at h
 conv=>lhs;whnf
 revert h
 refine cr hc (fun _ h=>Pa h) ?_;intro y62
 refine br ?_ ?_
 refine ca hc (fun _ h=>Ld h) ?_;intro y65
 exact rz
 exact rz
 exact rz
theorem A43 {n:Nat} ⦃A7:Aq⦄ ⦃Ao:(List (List Bool))⦄ ⦃Ab:Int⦄ ⦃Bl:Int⦄ ⦃Bj:(List Int)⦄ ⦃r:((List Int)×Bool)⦄:Ns n A7 Ao Ab Bl Bj=some r→CN n 56 [AV.agg [AV.sl 1 (List.map A0 A7.Am),AV.sl 1 (List.map A0 A7.Aj),AV.sl 1 (List.map A0 A7.Aw)],AV.sl 1 (List.map B6 Ao),iA Ab,iA Bl,AV.sl 1 (List.map A0 Bj)] []=some (AV.tup [AV.sl 1 (List.map A0 r.1),bA r.2],[]):=by
 intro h;rcases n with _|n;cases h
 rw[Ns] at h
 refine Au Tryz.func56 (by rfl) rfl rfl (B4 rfl) ?_
 intro call hc;conv=>lhs;whnf
 revert h
 refine ca hc (fun _ h=>A78 h) ?_;intro y1
 refine br ?_ ?_
 refine cr hc (fun _ h=>A1i h) ?_;intro y4
 refine ca hc (fun _ h=>Py h) ?_;intro y6
 intro h;refine Ae h ?_;clear h;intro o18 ho18 h
 refine lq (σ:=(Int×Int×(List Int))) (τ:=(Int×(List Int))) (ν:=((List Int)×Bool)) 0 (fun(s8,s9,s10) a12=>Ax 83 [(1,AV.sl 1 (List.map B6 Ao)),(2,iA Ab),(3,iA Bl),(4,AV.sl 1 (List.map A0 Bj)),(5,AV.ptr 0 0),(12,AV.sl 1 (List.map Av y4)),(13,iA s8),(14,AV.row 1 (List.length s10)),(15,iA s9)]) (fun(s8,s9,s10) a12=>[Ob.var 66 [AV.sl 1 (List.map A0 A7.Am),AV.sl 1 (List.map A0 A7.Aj),AV.sl 1 (List.map A0 A7.Aw)],Ob.row 3 1 (List.map A0 s10)]) (fun(x31,x32) a30=>Ax 83 [(4,AV.sl 1 (List.map A0 Bj)),(5,AV.ptr 0 0),(12,AV.sl 1 (List.map Av y4)),(13,iA x31),(14,AV.row 1 (List.length x32))]) (fun(x31,x32) a30=>[Ob.var 66 [AV.sl 1 (List.map A0 A7.Am),AV.sl 1 (List.map A0 A7.Aj),AV.sl 1 (List.map A0 A7.Aw)],Ob.row 3 1 (List.map A0 x32)]) (fun v=>(AV.tup [AV.sl 1 (List.map A0 v.1),bA v.2],[])) (fun k s=>Hb n A7 Ao Ab Bl y4 k s.1 s.2.1 s.2.2) (fun s=>rfl) o18 n (y6,0,([]:List Int)) (fun _=>0) ho18 ?_ ?_
 intro k11 ss a12 K13 cont14 hK15 hcont16 h hr17
 obtain⟨s8,s9,s10⟩:=ss
 replace h:Hb n A7 Ao Ab Bl y4 (k11+1) s8 s9 s10=some o18:=h
 rw[Hb] at h
 conv=>lhs;whnf
 revert h
 refine br ?_ ?_
 refine ca hc (fun _ h=>A7c h) ?_;intro y20
 refine br ?_ ?_
 exact fun h=>cq (hcont16 (s8,IntKind.i64.wrap (s9+1),s10) (fun _=>0) h)
 refine ca hc (fun _ h=>U7 h) ?_;intro y23
 refine ar (ap A0 (List.map A0 s10) s10 (List.map A0 y23.1) y23.1) ?_
 refine br ?_ ?_
 refine ar (ap A0 (List.map A0 (s10++y23.1)) (s10++y23.1) ([[iA s9]]) ([s9]:List Int)) ?_
 exact fun h=>cq (hcont16 (y20.2,IntKind.i64.wrap (s9+1),((s10++y23.1)++([s9]:List Int))) (fun _=>0) h)
 exact fun h=>cq (hcont16 (y20.1,IntKind.i64.wrap (s9+1),(s10++y23.1)) (fun _=>0) h)
 intro h;cases sj h
 exact kq (hr17 (fun _=>0))
 refine lrc ?_ ?_
 intro v e;subst e;cases sj h;rfl
 intro t a30 e;subst e
 obtain⟨x31,x32⟩:=t
 dsimp only at h
 conv=>lhs;whnf
 revert h
 refine ca hc (fun _ h=>Py h) ?_;intro y33
 refine ca hc (fun _ h=>U7 h) ?_;intro y35
 refine ar (ap A0 (List.map A0 x32) x32 (List.map A0 y35.1) y35.1) ?_
 intro h;cases sj h
 try simp only[ls]
 exact fq (y:=some (AV.tup [AV.sl 1 (List.take (List.length ((x32++y35.1))) (List.map A0 (x32++y35.1))),bA true],[]))
 exact rz
theorem A6u {n:Nat} ⦃Ee:Bf⦄ ⦃Ao:(List (List Bool))⦄ ⦃Ab:Int⦄ ⦃Bl:Int⦄ ⦃Bj:(List Int)⦄ ⦃r:((List Int)×(List Int)×Bool)⦄:Kc n Ee Ao Ab Bl Bj=some r→CN n 37 [AV.agg [AV.sl 4 (List.map Cj Ee.C5),AV.sl 1 (List.map A0 Ee.Cs.Am),AV.sl 1 (List.map A0 Ee.Cs.Aj),AV.sl 1 (List.map A0 Ee.Cs.Aw),AV.sl 1 (List.map A0 Ee.D8),AV.sl 1 (List.map A0 Ee.I9)],AV.sl 1 (List.map B6 Ao),iA Ab,iA Bl,AV.sl 1 (List.map A0 Bj)] []=some (AV.tup [AV.sl 1 (List.map A0 r.1),AV.sl 1 (List.map A0 r.2.1),bA r.2.2],[]):=by
 intro h;rcases n with _|n;cases h
 rw[Kc] at h
 refine Au Tryz.func37 (by rfl) rfl rfl (B4 rfl) ?_
 intro call hc;conv=>lhs;whnf
 revert h
 refine ca hc (fun _ h=>A43 h) ?_;intro y1
 refine br ?_ ?_
 refine ca hc (fun _ h=>Py h) ?_;intro y4
 refine ca hc (fun _ h=>Ur h) ?_;intro y6
 exact rz
 exact rz
theorem A4f {n:Nat} ⦃Aa:Ak⦄ ⦃E3:(List OpS)⦄ ⦃Ut:Ac⦄ ⦃r:Bool⦄:R8 n Aa E3 Ut=some r→CN n 100 [AV.agg [iA (Aa.mod),AV.sl 1 (List.map A0 (Aa.init)),AV.sl 1 (List.map A0 (Aa.regs)),AV.sl 1 (List.map Ah (Aa.code))],AV.sl 3 (List.map C0 E3),AV.agg [AV.sl 1 (List.map A0 (Ut.pc)),AV.sl 1 (List.map Ag (Ut.regs)),AV.sl 1 (List.map A0 (Ut.mem)),AV.sl 1 (List.map An (Ut.buf))]] []=some (bA r,[]):=by
 intro h;rcases n with _|n;cases h
 rw[R8] at h
 refine Au Tryz.func100 (by rfl) rfl rfl (B4 rfl) ?_
 intro call hc;conv=>lhs;whnf
 revert h
 refine cr hc (fun y1 h=>(show CN n 128 [AV.sl 3 (List.map C0 E3),iA (Aa.mod),AV.sl 1 [],AV.sl 1 (List.map Ag (Ut.regs)),AV.sl 1 (List.map A0 (Ut.mem))] []=some (AV.tup [iA y1.1,bA y1.2],[]) from V9 (r:=y1) h)) ?_;intro y1
 refine br ?_ ?_
 exact rz
 exact rz
theorem A4s {n:Nat} ⦃Aa:Ak⦄ ⦃Ba:Bf⦄ ⦃Ti:(List OpS)⦄ ⦃Tj:Bool⦄ ⦃Pi:Bool⦄ ⦃r:Int⦄:Rg n Aa Ba Ti Tj Pi=some r→CN n 64 [AV.agg [iA (Aa.mod),AV.sl 1 (List.map A0 (Aa.init)),AV.sl 1 (List.map A0 (Aa.regs)),AV.sl 1 (List.map Ah (Aa.code))],AV.agg [AV.sl 4 (List.map Cj Ba.C5),AV.sl 1 (List.map A0 Ba.Cs.Am),AV.sl 1 (List.map A0 Ba.Cs.Aj),AV.sl 1 (List.map A0 Ba.Cs.Aw),AV.sl 1 (List.map A0 Ba.D8),AV.sl 1 (List.map A0 Ba.I9)],AV.sl 3 (List.map C0 Ti),bA Tj,bA Pi] []=some (iA r,[]):=by
 intro h;rcases n with _|n;cases h
 rw[Rg] at h
 refine Au Tryz.func64 (by rfl) rfl rfl (B4 rfl) ?_
 intro call hc;conv=>lhs;whnf
 revert h
 intro h;refine Ae h ?_;clear h;intro o10 ho10 h
 refine lq (σ:=(Bool×Int)) (τ:=Unit) (ν:=Int) 0 (fun(s1,s2) a4=>Ax 43 [(2,AV.sl 3 (List.map C0 Ti)),(3,bA s1),(4,bA Pi),(5,AV.ptr 0 0),(6,AV.ptr 1 0),(11,iA s2)]) (fun(s1,s2) a4=>[Ob.var 61 [iA (Aa.mod),AV.sl 1 (List.map A0 (Aa.init)),AV.sl 1 (List.map A0 (Aa.regs)),AV.sl 1 (List.map Ah (Aa.code))],Ob.var 68 [AV.sl 4 (List.map Cj Ba.C5),AV.sl 1 (List.map A0 Ba.Cs.Am),AV.sl 1 (List.map A0 Ba.Cs.Aj),AV.sl 1 (List.map A0 Ba.Cs.Aw),AV.sl 1 (List.map A0 Ba.D8),AV.sl 1 (List.map A0 Ba.I9)]]) (fun _ a21=>Ax 43 []) (fun _ a21=>[Ob.var 61 [iA (Aa.mod),AV.sl 1 (List.map A0 (Aa.init)),AV.sl 1 (List.map A0 (Aa.regs)),AV.sl 1 (List.map Ah (Aa.code))],Ob.var 68 [AV.sl 4 (List.map Cj Ba.C5),AV.sl 1 (List.map A0 Ba.Cs.Am),AV.sl 1 (List.map A0 Ba.Cs.Aj),AV.sl 1 (List.map A0 Ba.Cs.Aw),AV.sl 1 (List.map A0 Ba.D8),AV.sl 1 (List.map A0 Ba.I9)]]) (fun v=>(iA v,[])) (fun k s=>Ig n Aa Ba Ti Pi k s.1 s.2) (fun s=>rfl) o10 n (Tj,0) (fun _=>0) ho10 ?_ ?_
 intro k3 ss a4 K5 cont6 hK7 hcont8 h hr9
 obtain⟨s1,s2⟩:=ss
 replace h:Ig n Aa Ba Ti Pi (k3+1) s1 s2=some o10:=h
 rw[Ig] at h
 conv=>lhs;whnf
 revert h
 refine br ?_ ?_
 refine ix ?_;intro x12
 refine ca hc (fun _ h=>A4f h) ?_;intro y13
 refine br ?_ ?_
 refine br ?_ ?_
 refine ix ?_;intro x17
 refine ca hc (fun _ h=>Vb h) ?_;intro y18
 refine br ?_ ?_
 intro h;cases sj h
 refine(hK7 _ _).trans ?_
 refine Eq.trans ?_ (Eq.symm (show _=some _ from hr9))
 conv=>lhs;whnf
 exact rq
 exact fun h=>cq (hcont8 (true,IntKind.i64.wrap (s2+1)) (fun _=>0) h)
 intro h;cases sj h
 refine(hK7 _ _).trans ?_
 refine Eq.trans ?_ (Eq.symm (show _=some _ from hr9))
 conv=>lhs;whnf
 exact rq
 exact fun h=>cq (hcont8 (s1,IntKind.i64.wrap (s2+1)) (fun _=>0) h)
 intro h;cases sj h
 exact kq (hr9 (fun _=>0))
 refine lrc ?_ ?_
 intro v e;subst e;cases sj h;rfl
 intro t a21 e;subst e
 dsimp only at h
 conv=>lhs;whnf
 revert h
 exact rz
theorem A9t {n:Nat} ⦃Aa:Ak⦄ ⦃Ba:Bf⦄ ⦃N6:Int⦄ ⦃Pj:(List OpS)⦄ ⦃r:C1⦄:Uf n Aa Ba N6 Pj=some r→CN n 40 [AV.agg [iA (Aa.mod),AV.sl 1 (List.map A0 (Aa.init)),AV.sl 1 (List.map A0 (Aa.regs)),AV.sl 1 (List.map Ah (Aa.code))],AV.agg [AV.sl 4 (List.map Cj Ba.C5),AV.sl 1 (List.map A0 Ba.Cs.Am),AV.sl 1 (List.map A0 Ba.Cs.Aj),AV.sl 1 (List.map A0 Ba.Cs.Aw),AV.sl 1 (List.map A0 Ba.D8),AV.sl 1 (List.map A0 Ba.I9)],iA N6,AV.sl 3 (List.map C0 Pj)] []=some (AV.agg [bA r.Q8,bA r.Agk,AV.sl 1 (List.map A0 r.Aap)],[]):=by
 intro h;rcases n with _|n;cases h
 rw[Uf] at h
 refine Au Tryz.func40 (by rfl) rfl rfl (B4 rfl) ?_
 intro call hc;conv=>lhs;whnf
 revert h
 refine br ?_ ?_
 exact rz
 refine br ?_ ?_
 exact rz
 refine ca hc (fun _ h=>A4s h) ?_;intro y3
 refine br ?_ ?_
 refine ca hc (fun _ h=>Ur h) ?_;intro y6
 exact rz
 exact rz
theorem A7u {n:Nat} ⦃Ft:Cf⦄ ⦃Jr:Ak⦄ ⦃Hq:Bf⦄ ⦃r:((List C1)×Int)⦄:Ng n Ft Jr Hq=some r→CN n 15 [AV.agg [iA Ft.Qo,AV.sl 3 (List.map Ic Ft.Mn),AV.sl 4 (List.map F6 Ft.E4),AV.sl 3 (List.map Gm Ft.Cw)],AV.agg [iA (Jr.mod),AV.sl 1 (List.map A0 (Jr.init)),AV.sl 1 (List.map A0 (Jr.regs)),AV.sl 1 (List.map Ah (Jr.code))],AV.agg [AV.sl 4 (List.map Cj Hq.C5),AV.sl 1 (List.map A0 Hq.Cs.Am),AV.sl 1 (List.map A0 Hq.Cs.Aj),AV.sl 1 (List.map A0 Hq.Cs.Aw),AV.sl 1 (List.map A0 Hq.D8),AV.sl 1 (List.map A0 Hq.I9)]] []=some (AV.tup [AV.sl 3 (List.map G2 r.1),iA r.2],[]):=by
 intro h;rcases n with _|n;cases h
 rw[Ng] at h
 refine Au Tryz.func15 (by rfl) rfl rfl (B4 rfl) ?_
 intro call hc;conv=>lhs;whnf
 revert h
 refine ca hc (fun _ h=>Ww h) ?_;intro y1
 refine br ?_ ?_
 exact rz
 refine ca hc (fun _ h=>A5s h) ?_;intro y4
 refine br ?_ ?_
 intro h;refine Ae h ?_;clear h;intro o16 ho16 h
 refine lq (σ:=(Int×(List C1))) (τ:=(List C1)) (ν:=((List C1)×Int)) 0 (fun(s7,s8) a10=>Ax 61 [(3,AV.ptr 0 0),(4,AV.ptr 1 0),(5,AV.ptr 2 0),(11,AV.row 4 (List.length s8)),(12,iA s7)]) (fun(s7,s8) a10=>[Ob.var 27 [iA Ft.Qo,AV.sl 3 (List.map Ic Ft.Mn),AV.sl 4 (List.map F6 Ft.E4),AV.sl 3 (List.map Gm Ft.Cw)],Ob.var 61 [iA (Jr.mod),AV.sl 1 (List.map A0 (Jr.init)),AV.sl 1 (List.map A0 (Jr.regs)),AV.sl 1 (List.map Ah (Jr.code))],Ob.var 68 [AV.sl 4 (List.map Cj Hq.C5),AV.sl 1 (List.map A0 Hq.Cs.Am),AV.sl 1 (List.map A0 Hq.Cs.Aj),AV.sl 1 (List.map A0 Hq.Cs.Aw),AV.sl 1 (List.map A0 Hq.D8),AV.sl 1 (List.map A0 Hq.I9)],Ob.var 61 [iA (y1.1.mod),AV.sl 1 (List.map A0 (y1.1.init)),AV.sl 1 (List.map A0 (y1.1.regs)),AV.sl 1 (List.map Ah (y1.1.code))],Ob.row 39 3 (List.map G2 s8)]) (fun x27 a26=>Ax 61 [(11,AV.row 4 (List.length x27))]) (fun x27 a26=>[Ob.var 27 [iA Ft.Qo,AV.sl 3 (List.map Ic Ft.Mn),AV.sl 4 (List.map F6 Ft.E4),AV.sl 3 (List.map Gm Ft.Cw)],Ob.var 61 [iA (Jr.mod),AV.sl 1 (List.map A0 (Jr.init)),AV.sl 1 (List.map A0 (Jr.regs)),AV.sl 1 (List.map Ah (Jr.code))],Ob.var 68 [AV.sl 4 (List.map Cj Hq.C5),AV.sl 1 (List.map A0 Hq.Cs.Am),AV.sl 1 (List.map A0 Hq.Cs.Aj),AV.sl 1 (List.map A0 Hq.Cs.Aw),AV.sl 1 (List.map A0 Hq.D8),AV.sl 1 (List.map A0 Hq.I9)],Ob.var 61 [iA (y1.1.mod),AV.sl 1 (List.map A0 (y1.1.init)),AV.sl 1 (List.map A0 (y1.1.regs)),AV.sl 1 (List.map Ah (y1.1.code))],Ob.row 39 3 (List.map G2 x27)]) (fun v=>(AV.tup [AV.sl 3 (List.map G2 v.1),iA v.2],[])) (fun k s=>M7 n Ft Jr Hq k s.1 s.2) (fun s=>rfl) o16 n (0,([]:List C1)) (fun _=>0) ho16 ?_ ?_
 intro k9 ss a10 K11 cont12 hK13 hcont14 h hr15
 obtain⟨s7,s8⟩:=ss
 replace h:M7 n Ft Jr Hq (k9+1) s7 s8=some o16:=h
 rw[M7] at h
 conv=>lhs;whnf
 revert h
 refine br ?_ ?_
 refine ix ?_;intro x18
 refine ca hc (fun _ h=>A49 h) ?_;intro y19
 refine ix ?_;intro x21
 refine ca hc (fun _ h=>A9t h) ?_;intro y22
 refine ar (ap G2 (List.map G2 s8) s8 ([[bA y22.Q8,bA y22.Agk,AV.sl 1 (List.map A0 y22.Aap)]]) ([y22]:List C1)) ?_
 exact fun h=>cq (hcont14 (IntKind.i64.wrap (s7+1),(s8++([y22]:List C1))) (fun _=>0) h)
 intro h;cases sj h
 exact kq (hr15 (fun _=>0))
 refine lrc ?_ ?_
 intro v e;subst e;cases sj h;rfl
 intro x27 a26 e;subst e
 dsimp only at h
 conv=>lhs;whnf
 revert h
 intro h;cases sj h
 try simp only[ls]
 exact fq (y:=some (AV.tup [AV.sl 3 (List.take (List.length x27) (List.map G2 x27)),iA (0)],[]))
 exact rz
theorem A14 {n:Nat} ⦃Aa:Ak⦄ ⦃Ba:Bf⦄ ⦃B1:Int⦄ ⦃Bd:Int⦄ ⦃Q9:Int⦄ ⦃r:(Int×(List Int)×(List Int))⦄:J8 n Aa Ba B1 Bd Q9=some r→CN n 14 [AV.agg [iA (Aa.mod),AV.sl 1 (List.map A0 (Aa.init)),AV.sl 1 (List.map A0 (Aa.regs)),AV.sl 1 (List.map Ah (Aa.code))],AV.agg [AV.sl 4 (List.map Cj Ba.C5),AV.sl 1 (List.map A0 Ba.Cs.Am),AV.sl 1 (List.map A0 Ba.Cs.Aj),AV.sl 1 (List.map A0 Ba.Cs.Aw),AV.sl 1 (List.map A0 Ba.D8),AV.sl 1 (List.map A0 Ba.I9)],iA B1,iA Bd,iA Q9] []=some (AV.tup [iA r.1,AV.sl 1 (List.map A0 r.2.1),AV.sl 1 (List.map A0 r.2.2)],[]):=by
 intro h;rcases n with _|n;cases h
 rw[J8] at h
 refine Au Tryz.func14 (by rfl) rfl rfl (B4 rfl) ?_
 intro call hc;conv=>lhs;whnf
 revert h
 refine br ?_ ?_
 exact rz
 refine br ?_ ?_
 exact rz
 refine ca hc (fun _ h=>A4k h) ?_;intro y3
 refine br ?_ ?_
 refine ix ?_;intro x6
 refine ca hc (fun _ h=>Ur h) ?_;intro y7
 exact rz
 refine ca hc (fun _ h=>A0n h) ?_;intro y9
 refine ca hc (fun _ h=>Lv h) ?_;intro y11
 refine ca hc (fun _ h=>A7f h) ?_;intro y13
 refine ca hc (fun _ h=>A6u h) ?_;intro y15
 refine br ?_ ?_
 exact rz
 exact rz
theorem A2s {n:Nat} ⦃Ft:Cf⦄ ⦃Az:Int⦄ ⦃Co:Int⦄ ⦃Bl:Int⦄ ⦃Ua:Int⦄ ⦃r:(Gb×Int×Int)⦄:Jz n Ft Az Co Bl Ua=some r→CN n 5 [AV.agg [iA Ft.Qo,AV.sl 3 (List.map Ic Ft.Mn),AV.sl 4 (List.map F6 Ft.E4),AV.sl 3 (List.map Gm Ft.Cw)],iA Az,iA Co,iA Bl,iA Ua] []=some (AV.tup [AV.agg [iA r.1.R6,AV.sl 1 (List.map A0 r.1.A1f),AV.sl 1 (List.map A0 r.1.A5v),AV.sl 3 (List.map G2 r.1.Fz),iA r.1.A1g,iA r.1.A5w],iA r.2.1,iA r.2.2],[]):=by
 intro h;rcases n with _|n;cases h
 rw[Jz] at h
 refine Au Tryz.func5 (by rfl) rfl rfl (B4 rfl) ?_
 intro call hc;conv=>lhs;whnf
 revert h
 refine ca hc (fun _ h=>Ww h) ?_;intro y1
 refine br ?_ ?_
 exact rz
 refine br ?_ ?_
 exact rz
 refine br ?_ ?_
 exact rz
 refine ca hc (fun _ h=>Aae h) ?_;intro y6
 refine br ?_ ?_
 exact rz
 refine ca hc (fun _ h=>A14 h) ?_;intro y9
 refine ca hc (fun _ h=>A7u h) ?_;intro y11
 exact rz
theorem A0p {n:Nat} ⦃Zp:Int⦄ ⦃Hh:Int⦄ ⦃Jm:(Int×Int×Int)⦄ ⦃r:Bool⦄:J7 n Zp Hh Jm=some r→CN n 3 [AV.int .u8 Zp,AV.int .u8 Hh,AV.agg [AV.int .u8 Jm.1,AV.int .u8 Jm.2.1,AV.int .u8 Jm.2.2]] []=some (bA r,[]):=by
 intro h;rcases n with _|n;cases h
 rw[J7] at h
 refine Au Tryz.func3 (by rfl) rfl rfl (B4 rfl) ?_
 intro call hc;conv=>lhs;whnf
 revert h
 refine ca hc (fun _ h=>Ab8 h) ?_;intro y1
 refine br ?_ ?_
 exact rz
 refine ca hc (fun _ h=>A2s h) ?_;intro y4
 refine br ?_ ?_
 refine ca hc (fun _ h=>V6 h) ?_;intro y7
 exact rz
 refine br ?_ ?_
 exact rz
 refine br ?_ ?_
 exact rz
 intro h;refine Ae h ?_;clear h;intro o19 ho19 h
 refine lq (σ:=Int) (τ:=Unit) (ν:=Bool) 0 (fun s11 a13=>Ax 88 [(9,AV.ptr 1 0),(11,AV.ptr 2 0),(14,iA s11)]) (fun s11 a13=>[Ob.var 22 [AV.int .u8 Jm.1,AV.int .u8 Jm.2.1,AV.int .u8 Jm.2.2],Ob.var 27 [iA y1.1.Qo,AV.sl 3 (List.map Ic y1.1.Mn),AV.sl 4 (List.map F6 y1.1.E4),AV.sl 3 (List.map Gm y1.1.Cw)],Ob.var 34 [iA y4.1.R6,AV.sl 1 (List.map A0 y4.1.A1f),AV.sl 1 (List.map A0 y4.1.A5v),AV.sl 3 (List.map G2 y4.1.Fz),iA y4.1.A1g,iA y4.1.A5w]]) (fun _ a23=>Ax 88 [(9,AV.ptr 1 0),(11,AV.ptr 2 0)]) (fun _ a23=>[Ob.var 22 [AV.int .u8 Jm.1,AV.int .u8 Jm.2.1,AV.int .u8 Jm.2.2],Ob.var 27 [iA y1.1.Qo,AV.sl 3 (List.map Ic y1.1.Mn),AV.sl 4 (List.map F6 y1.1.E4),AV.sl 3 (List.map Gm y1.1.Cw)],Ob.var 34 [iA y4.1.R6,AV.sl 1 (List.map A0 y4.1.A1f),AV.sl 1 (List.map A0 y4.1.A5v),AV.sl 3 (List.map G2 y4.1.Fz),iA y4.1.A1g,iA y4.1.A5w]]) (fun v=>(bA v,[])) (fun k s=>E7 n y4 k s) (fun s=>rfl) o19 n 0 (fun _=>0) ho19 ?_ ?_
 intro k12 s11 a13 K14 cont15 hK16 hcont17 h hr18
 replace h:E7 n y4 (k12+1) s11=some o19:=h
 rw[E7] at h
 conv=>lhs;whnf
 revert h
 refine br ?_ ?_
 refine ix ?_;intro x21
 refine br ?_ ?_
 exact fun h=>cq (hcont17 (IntKind.i64.wrap (s11+1)) (fun _=>0) h)
 intro h;cases sj h
 refine(hK16 _ _).trans ?_
 refine Eq.trans ?_ (Eq.symm (show _=some _ from hr18))
 conv=>lhs;whnf
 exact rq
 intro h;cases sj h
 exact kq (hr18 (fun _=>0))
 refine lrc ?_ ?_
 intro v e;subst e;cases sj h;rfl
 intro t a23 e;subst e
 dsimp only at h
 conv=>lhs;whnf
 revert h
 refine br ?_ ?_
 refine ca hc (fun _ h=>V6 h) ?_;intro y25
 exact rz
 exact rz
end Go.Proofs.YtfabdppicogkmaaGreat
end
