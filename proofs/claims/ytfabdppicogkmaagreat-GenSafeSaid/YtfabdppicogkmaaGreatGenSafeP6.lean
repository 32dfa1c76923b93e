/- Parts of the proofs: what they lean on. Conditions: none. -/
import Derived.Test.YtfabdppicogkmaaGreatGenSafeP5
section
namespace Go.Proofs.YtfabdppicogkmaaGreat
set_option linter.unusedSectionVars false
set_option linter.unusedVariables false
set_option linter.unusedSimpArgs false
set_option maxRecDepth 100000
theorem Yd {x:Int} (hx:0≤x∧x≤255) (c:Int) (hc:c=2∨c=3):∃ y,IntKind.i64.wrap (1+Int.tmod (IntKind.i64.wrap x) c)=y∧1≤y∧y≤c:=by
 rw[G6 (n:=x) (by omega),Int.tmod_eq_emod_of_nonneg hx.1]
 rcases hc with rfl | rfl
 ·exact⟨_,G6 (by omega),by omega,by omega⟩
 ·exact⟨_,G6 (by omega),by omega,by omega⟩
theorem Aiv (n:Nat) (y:Gc×Int×Int) (h:∀ r ∈ y.1.Fz,r.Q6=true) (hl:y.1.Fz.length≤1000) (hn:2000 < n):E5 n y n 0=some (.out ()):=by
 have h0:∀ (j k i:Nat),i+j=y.1.Fz.length→j < k→E5 n y k (i:Int)=some (.out ()):=by
  intro j
  induction j with
  | zero =>
   intro k i hi hk
   obtain⟨k,rfl⟩:∃ j,k=j+1:=⟨k - 1,by omega⟩
   rw[E5,Ao (by omega)]
  | succ j ih =>
   intro k i hi hk
   obtain⟨k,rfl⟩:∃ j,k=j+1:=⟨k - 1,by omega⟩
   have hlt:i < y.1.Fz.length:=by omega
   rw[E5,Ad (by omega),Bu hlt,A4,h _ (List.getElem_mem hlt),As,Be i (by omega)]
   exact ih k (i+1) (by omega) (by omega)
 exact h0 y.1.Fz.length n 0 (by omega) (by omega)
theorem Dk {kind n:Int} {how:Int×Int×Int} {k m model room mode:Int} (e1:IntKind.i64.wrap (1+Int.tmod (IntKind.i64.wrap kind) 3)=k) (e2:IntKind.i64.wrap (1+Int.tmod (IntKind.i64.wrap n) 2)=m) (e3:IntKind.i64.wrap (1+Int.tmod (IntKind.i64.wrap how.1) 3)=model) (e4:IntKind.i64.wrap (1+Int.tmod (IntKind.i64.wrap how.2.1) 2)=room) (e5:IntKind.i64.wrap (1+Int.tmod (IntKind.i64.wrap how.2.2) 2)=mode)
 {p:Cf} {u:Ak} [InU u] {R:List Nat} {T:List (Nat×Nat)} (hg:I7 150002 k m (IntKind.i64.wrap (m+1))=some (p,0)) (hp:∀ n,M7 (n+1) p=some (u,0,0)) (hu:C7 u=true) (hlu:G4 u=true) (hc:p.Cw.length≤1000) (hm:1≤model∧model≤3) (hr:1≤room∧room≤2) (h:D7 p u model room R T=true) (hmo:1≤mode∧mode≤2) :
 Jh 150003 kind n how=some true:=by
 obtain⟨v,v1,v2,v3,v4⟩:=Abi hp hu hlu hm (by omega) h (mode:=mode) (by omega)
 have hr0:=Aiv 150002 (v,0,0) v3 (by show v.Fz.length≤1000;omega) (by omega)
 rw[Jh,e1,e2,e3,e4,e5,hg,A4,show((0:Int) != 0)=false from rfl,B3,v1,A4]
 simp only
 rw[show((0:Int)==18)=false from rfl,B3,show((0:Int) != 0)=false from rfl,B3,v2,show((1:Int) != 1)=false from rfl,B3,hr0,A4]
 simp only
 rw[v4,beq_self_eq_true,As]
 rfl
instance:InU O4:=⟨by decide +kernel⟩
theorem A5l:C7 O4=true:=by decide +kernel
theorem A3o:G4 O4=true:=by decide +kernel
theorem A5g:((Wq.find? fun e=>decide (e.1=Mb)).map fun e=>(e.2,(0:Int),(0:Int)))=some (O4,0,0):=by decide +kernel
theorem A4h:I7 150002 1 1 (IntKind.i64.wrap (1+1))=some (Mb,0):=by decide +kernel
instance:InU Q0:=⟨by decide +kernel⟩
theorem A5j:C7 Q0=true:=by decide +kernel
theorem A3v:G4 Q0=true:=by decide +kernel
theorem A3t:((Wq.find? fun e=>decide (e.1=O7)).map fun e=>(e.2,(0:Int),(0:Int)))=some (Q0,0,0):=by decide +kernel
theorem A5k:I7 150002 1 2 (IntKind.i64.wrap (2+1))=some (O7,0):=by decide +kernel
instance:InU O9:=⟨by decide +kernel⟩
theorem A4q:C7 O9=true:=by decide +kernel
theorem A59:G4 O9=true:=by decide +kernel
theorem A3k:((Wq.find? fun e=>decide (e.1=M6)).map fun e=>(e.2,(0:Int),(0:Int)))=some (O9,0,0):=by decide +kernel
theorem A4u:I7 150002 2 1 (IntKind.i64.wrap (1+1))=some (M6,0):=by decide +kernel
instance:InU Ps:=⟨by decide +kernel⟩
theorem A4m:C7 Ps=true:=by decide +kernel
theorem A3n:G4 Ps=true:=by decide +kernel
theorem A3p:((Wq.find? fun e=>decide (e.1=Oa)).map fun e=>(e.2,(0:Int),(0:Int)))=some (Ps,0,0):=by decide +kernel
theorem A4i:I7 150002 2 2 (IntKind.i64.wrap (2+1))=some (Oa,0):=by decide +kernel
instance:InU Nw:=⟨by decide +kernel⟩
theorem A48:C7 Nw=true:=by decide +kernel
theorem A4x:G4 Nw=true:=by decide +kernel
theorem A4k:((Wq.find? fun e=>decide (e.1=O3)).map fun e=>(e.2,(0:Int),(0:Int)))=some (Nw,0,0):=by decide +kernel
theorem A4o:I7 150002 3 1 (IntKind.i64.wrap (1+1))=some (O3,0):=by decide +kernel
instance:InU Nu:=⟨by decide +kernel⟩
theorem A43:C7 Nu=true:=by decide +kernel
theorem A3j:G4 Nu=true:=by decide +kernel
theorem A50:((Wq.find? fun e=>decide (e.1=O1)).map fun e=>(e.2,(0:Int),(0:Int)))=some (Nu,0,0):=by decide +kernel
theorem A4t:I7 150002 3 2 (IntKind.i64.wrap (2+1))=some (O1,0):=by decide +kernel
theorem Arb {y:Int} (h:1≤y∧y≤3):y=1∨y=2∨y=3:=by omega
theorem Ar0 {y:Int} (h:1≤y∧y≤2):y=1∨y=2:=by omega
theorem Aj5 (kind n:Int) (how:Int×Int×Int) (hk:0≤kind∧kind≤255) (hn:0≤n∧n≤255) (h1:0≤how.1∧how.1≤255) (h2:0≤how.2.1∧how.2.1≤255) (h3:0≤how.2.2∧how.2.2≤255):Jh 150003 kind n how=some true:=by
 obtain⟨k,e1,k1⟩:=Yd hk 3 (.inr rfl)
 obtain⟨m,e2,k2⟩:=Yd hn 2 (.inl rfl)
 obtain⟨md,e3,k3⟩:=Yd h1 3 (.inr rfl)
 obtain⟨ro,e4,k4⟩:=Yd h2 2 (.inl rfl)
 obtain⟨mo,e5,k5⟩:=Yd h3 2 (.inl rfl)
 rcases Arb k1 with rfl | rfl | rfl<;>rcases Ar0 k2 with rfl | rfl<;>rcases Arb k3 with rfl | rfl | rfl<;>rcases Ar0 k4 with rfl | rfl
 ·exact Dk e1 e2 e3 e4 e5 A4h (fun _=>A5g) A5l A3o (by decide) (by omega) (by omega) Ao0 k5
 ·exact Dk e1 e2 e3 e4 e5 A4h (fun _=>A5g) A5l A3o (by decide) (by omega) (by omega) Ako k5
 ·exact Dk e1 e2 e3 e4 e5 A4h (fun _=>A5g) A5l A3o (by decide) (by omega) (by omega) An4 k5
 ·exact Dk e1 e2 e3 e4 e5 A4h (fun _=>A5g) A5l A3o (by decide) (by omega) (by omega) Al7 k5
 ·exact Dk e1 e2 e3 e4 e5 A4h (fun _=>A5g) A5l A3o (by decide) (by omega) (by omega) Akn k5
 ·exact Dk e1 e2 e3 e4 e5 A4h (fun _=>A5g) A5l A3o (by decide) (by omega) (by omega) Al3 k5
 ·exact Dk e1 e2 e3 e4 e5 A5k (fun _=>A3t) A5j A3v (by decide) (by omega) (by omega) Alk k5
 ·exact Dk e1 e2 e3 e4 e5 A5k (fun _=>A3t) A5j A3v (by decide) (by omega) (by omega) Akl k5
 ·exact Dk e1 e2 e3 e4 e5 A5k (fun _=>A3t) A5j A3v (by decide) (by omega) (by omega) Anm k5
 ·exact Dk e1 e2 e3 e4 e5 A5k (fun _=>A3t) A5j A3v (by decide) (by omega) (by omega) An2 k5
 ·exact Dk e1 e2 e3 e4 e5 A5k (fun _=>A3t) A5j A3v (by decide) (by omega) (by omega) Amh k5
 ·exact Dk e1 e2 e3 e4 e5 A5k (fun _=>A3t) A5j A3v (by decide) (by omega) (by omega) Ame k5
 ·exact Dk e1 e2 e3 e4 e5 A4u (fun _=>A3k) A4q A59 (by decide) (by omega) (by omega) Amj k5
 ·exact Dk e1 e2 e3 e4 e5 A4u (fun _=>A3k) A4q A59 (by decide) (by omega) (by omega) Anw k5
 ·exact Dk e1 e2 e3 e4 e5 A4u (fun _=>A3k) A4q A59 (by decide) (by omega) (by omega) Ane k5
 ·exact Dk e1 e2 e3 e4 e5 A4u (fun _=>A3k) A4q A59 (by decide) (by omega) (by omega) Amm k5
 ·exact Dk e1 e2 e3 e4 e5 A4u (fun _=>A3k) A4q A59 (by decide) (by omega) (by omega) Akz k5
 ·exact Dk e1 e2 e3 e4 e5 A4u (fun _=>A3k) A4q A59 (by decide) (by omega) (by omega) Am3 k5
 ·exact Dk e1 e2 e3 e4 e5 A4i (fun _=>A3p) A4m A3n (by decide) (by omega) (by omega) Am0 k5
 ·exact Dk e1 e2 e3 e4 e5 A4i (fun _=>A3p) A4m A3n (by decide) (by omega) (by omega) Amr k5
 ·exact Dk e1 e2 e3 e4 e5 A4i (fun _=>A3p) A4m A3n (by decide) (by omega) (by omega) Ano k5
 ·exact Dk e1 e2 e3 e4 e5 A4i (fun _=>A3p) A4m A3n (by decide) (by omega) (by omega) Alm k5
 ·exact Dk e1 e2 e3 e4 e5 A4i (fun _=>A3p) A4m A3n (by decide) (by omega) (by omega) Amv k5
 ·exact Dk e1 e2 e3 e4 e5 A4i (fun _=>A3p) A4m A3n (by decide) (by omega) (by omega) Alf k5
 ·exact Dk e1 e2 e3 e4 e5 A4o (fun _=>A4k) A48 A4x (by decide) (by omega) (by omega) Anl k5
 ·exact Dk e1 e2 e3 e4 e5 A4o (fun _=>A4k) A48 A4x (by decide) (by omega) (by omega) Amu k5
 ·exact Dk e1 e2 e3 e4 e5 A4o (fun _=>A4k) A48 A4x (by decide) (by omega) (by omega) An0 k5
 ·exact Dk e1 e2 e3 e4 e5 A4o (fun _=>A4k) A48 A4x (by decide) (by omega) (by omega) Am6 k5
 ·exact Dk e1 e2 e3 e4 e5 A4o (fun _=>A4k) A48 A4x (by decide) (by omega) (by omega) Anh k5
 ·exact Dk e1 e2 e3 e4 e5 A4o (fun _=>A4k) A48 A4x (by decide) (by omega) (by omega) Anb k5
 ·exact Dk e1 e2 e3 e4 e5 A4t (fun _=>A50) A43 A3j (by decide) (by omega) (by omega) Aln k5
 ·exact Dk e1 e2 e3 e4 e5 A4t (fun _=>A50) A43 A3j (by decide) (by omega) (by omega) Am8 k5
 ·exact Dk e1 e2 e3 e4 e5 A4t (fun _=>A50) A43 A3j (by decide) (by omega) (by omega) Al0 k5
 ·exact Dk e1 e2 e3 e4 e5 A4t (fun _=>A50) A43 A3j (by decide) (by omega) (by omega) An5 k5
 ·exact Dk e1 e2 e3 e4 e5 A4t (fun _=>A50) A43 A3j (by decide) (by omega) (by omega) Alt k5
 ·exact Dk e1 e2 e3 e4 e5 A4t (fun _=>A50) A43 A3j (by decide) (by omega) (by omega) An9 k5
set_option maxHeartbeats 4000000
theorem Rc {n:Nat} ⦃Ck:(List Int)⦄ ⦃Cr:(List Int)⦄ ⦃r:Bool⦄:Ii n Ck Cr=some r→CN n 58 [AV.sl 1 (List.map A0 Ck),AV.sl 1 (List.map A0 Cr)] []=some (bA r,[]):=by
 intro h;rcases n with _|n;cases h
 rw[Ii] at h
 refine Au Tryz.func58 (by rfl) rfl rfl (B4 rfl) ?_
 intro call hc;conv=>lhs;whnf
 revert h
 refine br ?_ ?_
 exact rz
 intro h;refine Ae h ?_;clear h;intro o10 ho10 h
 refine lq (σ:=Int) (τ:=Unit) (ν:=Bool) 0 (fun s2 a4=>Ax 26 [(0,AV.sl 1 (List.map A0 Ck)),(1,AV.sl 1 (List.map A0 Cr)),(5,iA s2)]) (fun s2 a4=>[]) (fun _ a15=>Ax 26 []) (fun _ a15=>[]) (fun v=>(bA v,[])) (fun k s=>H7 n Ck Cr k s) (fun s=>rfl) o10 n 0 (fun _=>0) ho10 ?_ ?_
 intro k3 s2 a4 K5 cont6 hK7 hcont8 h hr9
 replace h:H7 n Ck Cr (k3+1) s2=some o10:=h
 rw[H7] at h
 conv=>lhs;whnf
 revert h
 refine br ?_ ?_
 refine ix ?_;intro x12
 refine ix ?_;intro x13
 refine br ?_ ?_
 intro h;cases sj h
 refine(hK7 _ _).trans ?_
 refine Eq.trans ?_ (Eq.symm (show _=some _ from hr9))
 conv=>lhs;whnf
 exact rq
 exact fun h=>cq (hcont8 (IntKind.i64.wrap (s2+1)) (fun _=>0) h)
 intro h;cases sj h
 exact kq (hr9 (fun _=>0))
 refine lrc ?_ ?_
 intro v e;subst e;cases sj h;rfl
 intro t a15 e;subst e
 dsimp only at h
 conv=>lhs;whnf
 revert h
 exact rz
theorem A58 {n:Nat} ⦃Aa:Ak⦄ ⦃r:(Ac×Int)⦄:H3 n Aa=some r→CN n 27 [AV.agg [iA (Aa.mod),AV.sl 1 (List.map A0 (Aa.init)),AV.sl 1 (List.map A0 (Aa.regs)),AV.sl 1 (List.map Ah (Aa.code))]] []=some (AV.tup [AV.agg [AV.sl 1 (List.map A0 (r.1.pc)),AV.sl 1 (List.map Ag (r.1.regs)),AV.sl 1 (List.map A0 (r.1.mem)),AV.sl 1 (List.map Am (r.1.buf))],iA r.2],[]):=by
 intro h;rcases n with _|n;cases h
 rw[H3] at h
 refine Au Tryz.func27 (by rfl) rfl rfl (B4 rfl) ?_
 intro call hc;conv=>lhs;whnf
 revert h
 refine ca hc (fun _ h=>Uw h) ?_;intro y1
 refine br ?_ ?_
 intro h;refine Ae h ?_;clear h;intro o15 ho15 h
 refine lq (σ:=(Int×(List Int)×(List (List Int))×(List (List A2)))) (τ:=((List Int)×(List (List Int))×(List (List A2)))) (ν:=(Ac×Int)) 0 (fun(s4,s5,s6,s7) a9=>Ax 46 [(1,AV.ptr 0 0),(2,AV.ptr 1 0),(4,AV.ptr 2 0),(5,iA s4)]) (fun(s4,s5,s6,s7) a9=>[Ob.var 61 [iA (Aa.mod),AV.sl 1 (List.map A0 (Aa.init)),AV.sl 1 (List.map A0 (Aa.regs)),AV.sl 1 (List.map Ah (Aa.code))],Ob.var 90 [AV.row 3 (List.length (([]:List Int))),AV.row 4 (List.length (([]:List (List Int)))),AV.row 5 (List.length (([]:List Int))),AV.row 6 (List.length (([]:List (List A2))))],Ob.var 90 [AV.row 7 (List.length s5),AV.row 8 (List.length s6),AV.row 9 (List.length (([]:List Int))),AV.row 10 (List.length s7)],Ob.row 3 1 ([]),Ob.row 31 1 ([]),Ob.row 3 1 ([]),Ob.row 152 1 ([]),Ob.row 3 1 (List.map A0 s5),Ob.row 31 1 (List.map Ag s6),Ob.row 3 1 ([]),Ob.row 152 1 (List.map Am s7)]) (fun(x27,x28,x29) a26=>Ax 46 [(1,AV.ptr 0 0),(2,AV.ptr 1 0),(4,AV.ptr 2 0)]) (fun(x27,x28,x29) a26=>[Ob.var 61 [iA (Aa.mod),AV.sl 1 (List.map A0 (Aa.init)),AV.sl 1 (List.map A0 (Aa.regs)),AV.sl 1 (List.map Ah (Aa.code))],Ob.var 90 [AV.row 3 (List.length (([]:List Int))),AV.row 4 (List.length (([]:List (List Int)))),AV.row 5 (List.length (([]:List Int))),AV.row 6 (List.length (([]:List (List A2))))],Ob.var 90 [AV.row 7 (List.length x27),AV.row 8 (List.length x28),AV.row 9 (List.length (([]:List Int))),AV.row 10 (List.length x29)],Ob.row 3 1 ([]),Ob.row 31 1 ([]),Ob.row 3 1 ([]),Ob.row 152 1 ([]),Ob.row 3 1 (List.map A0 x27),Ob.row 31 1 (List.map Ag x28),Ob.row 3 1 ([]),Ob.row 152 1 (List.map Am x29)]) (fun v=>(AV.tup [AV.agg [AV.sl 1 (List.map A0 (v.1.pc)),AV.sl 1 (List.map Ag (v.1.regs)),AV.sl 1 (List.map A0 (v.1.mem)),AV.sl 1 (List.map Am (v.1.buf))],iA v.2],[])) (fun k s=>Dc n Aa k s.1 s.2.1 s.2.2.1 s.2.2.2) (fun s=>rfl) o15 n (0,([]:List Int),([]:List (List Int)),([]:List (List A2))) (fun _=>0) ho15 ?_ ?_
 intro k8 ss a9 K10 cont11 hK12 hcont13 h hr14
 obtain⟨s4,s5,s6,s7⟩:=ss
 replace h:Dc n Aa (k8+1) s4 s5 s6 s7=some o15:=h
 rw[Dc] at h
 conv=>lhs;whnf
 revert h
 refine br ?_ ?_
 refine ar (ap A0 (List.map A0 s5) s5 ([[iA (0)]]) ([0]:List Int)) ?_
 refine ix ?_;intro x19
 intro h
 refine Ds h ?_;clear h;intro hc21 h
 try simp only[ls]
 refine B0 (by first|exact Pq (B:=8) hc21 rfl (by kernel_rfl)|exact O5 (B:=8) hc21 (by kernel_rfl)) ?_
 have hr20:List.replicate x19.toNat [iA (0)]=List.map A0 (List.replicate x19.toNat 0:List Int):=by rw[List.map_replicate];rfl
 simp only[hr20,ls]
 conv=>lhs;whnf
 revert h
 refine ar (ap Ag (List.map Ag s6) s6 ([[AV.sl 1 (List.map A0 ((List.replicate x19.toNat 0:List Int)))]]) ([(List.replicate x19.toNat 0:List Int)]:List (List Int))) ?_
 refine ar (ap Am (List.map Am s7) s7 ([[AV.sl 2 []]]) ([([]:List A2)]:List (List A2))) ?_
 exact fun h=>cq (hcont13 (IntKind.i64.wrap (s4+1),(s5++([0]:List Int)),(s6++([(List.replicate x19.toNat 0:List Int)]:List (List Int))),(s7++([([]:List A2)]:List (List A2)))) (fun _=>0) h)
 intro h;cases sj h
 exact kq (hr14 (fun _=>0))
 refine lrc ?_ ?_
 intro v e;subst e;cases sj h;rfl
 intro t a26 e;subst e
 obtain⟨x27,x28,x29⟩:=t
 dsimp only at h
 conv=>lhs;whnf
 revert h
 refine ar (ap A0 ([]) ([]:List Int) (List.map A0 (Aa.init)) Aa.init) ?_
 intro h;cases sj h
 try simp only[ls]
 exact fq (y:=some (AV.tup [AV.agg [AV.sl 1 (List.take (List.length x27) (List.map A0 x27)),AV.sl 1 (List.take (List.length x28) (List.map Ag x28)),AV.sl 1 (List.take (List.length ((([]:List Int)++Aa.init))) (List.map A0 (([]:List Int)++Aa.init))),AV.sl 1 (List.take (List.length x29) (List.map Am x29))],iA (0)],[]))
 exact rz
theorem A7a {n:Nat} ⦃Bm:Ac⦄ ⦃r:Ac⦄:Te n Bm=some r→CN n 49 [AV.agg [AV.sl 1 (List.map A0 (Bm.pc)),AV.sl 1 (List.map Ag (Bm.regs)),AV.sl 1 (List.map A0 (Bm.mem)),AV.sl 1 (List.map Am (Bm.buf))]] []=some (AV.agg [AV.sl 1 (List.map A0 (r.pc)),AV.sl 1 (List.map Ag (r.regs)),AV.sl 1 (List.map A0 (r.mem)),AV.sl 1 (List.map Am (r.buf))],[]):=by
 intro h;rcases n with _|n;cases h
 rw[Te] at h
 refine Au Tryz.func49 (by rfl) rfl rfl (B4 rfl) ?_
 intro call hc;conv=>lhs;whnf
 revert h
 refine cn ?_
 refine cn ?_
 intro h;refine Ae h ?_;clear h;intro o12 ho12 h
 refine lq (σ:=(Int×(List (List Int)))) (τ:=(List (List Int))) (ν:=Ac) 0 (fun(s3,s4) a6=>Ax 62 [(1,AV.ptr 0 0),(2,AV.ptr 1 0),(3,AV.ptr 2 0),(4,iA s3)]) (fun(s3,s4) a6=>[Ob.var 90 [AV.sl 1 (List.map A0 (Bm.pc)),AV.sl 1 (List.map Ag (Bm.regs)),AV.sl 1 (List.map A0 (Bm.mem)),AV.sl 1 (List.map Am (Bm.buf))],Ob.var 90 [AV.row 3 (List.length (([]:List Int))),AV.row 4 (List.length (([]:List (List Int)))),AV.row 5 (List.length (([]:List Int))),AV.row 6 (List.length (([]:List (List A2))))],Ob.var 90 [AV.sl 1 (List.map A0 (Bm.pc)),AV.row 7 (List.length s4),AV.sl 1 (List.map A0 (Bm.mem)),AV.row 8 (List.length (([]:List (List A2))))],Ob.row 3 1 ([]),Ob.row 31 1 ([]),Ob.row 3 1 ([]),Ob.row 152 1 ([]),Ob.row 31 1 (List.map Ag s4),Ob.row 152 1 ([])]) (fun x19 a18=>Ax 62 [(1,AV.ptr 0 0),(2,AV.ptr 1 0),(3,AV.ptr 2 0)]) (fun x19 a18=>[Ob.var 90 [AV.sl 1 (List.map A0 (Bm.pc)),AV.sl 1 (List.map Ag (Bm.regs)),AV.sl 1 (List.map A0 (Bm.mem)),AV.sl 1 (List.map Am (Bm.buf))],Ob.var 90 [AV.row 3 (List.length (([]:List Int))),AV.row 4 (List.length (([]:List (List Int)))),AV.row 5 (List.length (([]:List Int))),AV.row 6 (List.length (([]:List (List A2))))],Ob.var 90 [AV.sl 1 (List.map A0 (Bm.pc)),AV.row 7 (List.length x19),AV.sl 1 (List.map A0 (Bm.mem)),AV.row 8 (List.length (([]:List (List A2))))],Ob.row 3 1 ([]),Ob.row 31 1 ([]),Ob.row 3 1 ([]),Ob.row 152 1 ([]),Ob.row 31 1 (List.map Ag x19),Ob.row 152 1 ([])]) (fun v=>(AV.agg [AV.sl 1 (List.map A0 (v.pc)),AV.sl 1 (List.map Ag (v.regs)),AV.sl 1 (List.map A0 (v.mem)),AV.sl 1 (List.map Am (v.buf))],[])) (fun k s=>Lf n Bm k s.1 s.2) (fun s=>rfl) o12 n (0,([]:List (List Int))) (fun _=>0) ho12 ?_ ?_
 intro k5 ss a6 K7 cont8 hK9 hcont10 h hr11
 obtain⟨s3,s4⟩:=ss
 replace h:Lf n Bm (k5+1) s3 s4=some o12:=h
 rw[Lf] at h
 conv=>lhs;whnf
 revert h
 refine br ?_ ?_
 refine ix ?_;intro x14
 refine cn ?_
 refine ar (ap Ag (List.map Ag s4) s4 ([[AV.sl 1 (List.map A0 x14)]]) ([x14]:List (List Int))) ?_
 exact fun h=>cq (hcont10 (IntKind.i64.wrap (s3+1),(s4++([x14]:List (List Int)))) (fun _=>0) h)
 intro h;cases sj h
 exact kq (hr11 (fun _=>0))
 refine lrc ?_ ?_
 intro v e;subst e;cases sj h;rfl
 intro x19 a18 e;subst e
 dsimp only at h
 conv=>lhs;whnf
 revert h
 intro h;refine Ae h ?_;clear h;intro o29 ho29 h
 refine lq (σ:=(Int×(List (List A2)))) (τ:=(List (List A2))) (ν:=Ac) 2 (fun(s20,s21) a23=>Ax 62 [(1,AV.ptr 0 0),(2,AV.ptr 1 0),(3,AV.ptr 2 0),(6,iA s20)]) (fun(s20,s21) a23=>[Ob.var 90 [AV.sl 1 (List.map A0 (Bm.pc)),AV.sl 1 (List.map Ag (Bm.regs)),AV.sl 1 (List.map A0 (Bm.mem)),AV.sl 1 (List.map Am (Bm.buf))],Ob.var 90 [AV.row 3 (List.length (([]:List Int))),AV.row 4 (List.length (([]:List (List Int)))),AV.row 5 (List.length (([]:List Int))),AV.row 6 (List.length (([]:List (List A2))))],Ob.var 90 [AV.sl 1 (List.map A0 (Bm.pc)),AV.row 7 (List.length x19),AV.sl 1 (List.map A0 (Bm.mem)),AV.row 8 (List.length s21)],Ob.row 3 1 ([]),Ob.row 31 1 ([]),Ob.row 3 1 ([]),Ob.row 152 1 ([]),Ob.row 31 1 (List.map Ag x19),Ob.row 152 1 (List.map Am s21)]) (fun x36 a35=>Ax 62 [(2,AV.ptr 1 0),(3,AV.ptr 2 0)]) (fun x36 a35=>[Ob.var 90 [AV.sl 1 (List.map A0 (Bm.pc)),AV.sl 1 (List.map Ag (Bm.regs)),AV.sl 1 (List.map A0 (Bm.mem)),AV.sl 1 (List.map Am (Bm.buf))],Ob.var 90 [AV.row 3 (List.length (([]:List Int))),AV.row 4 (List.length (([]:List (List Int)))),AV.row 5 (List.length (([]:List Int))),AV.row 6 (List.length (([]:List (List A2))))],Ob.var 90 [AV.sl 1 (List.map A0 (Bm.pc)),AV.row 7 (List.length x19),AV.sl 1 (List.map A0 (Bm.mem)),AV.row 8 (List.length x36)],Ob.row 3 1 ([]),Ob.row 31 1 ([]),Ob.row 3 1 ([]),Ob.row 152 1 ([]),Ob.row 31 1 (List.map Ag x19),Ob.row 152 1 (List.map Am x36)]) (fun v=>(AV.agg [AV.sl 1 (List.map A0 (v.pc)),AV.sl 1 (List.map Ag (v.regs)),AV.sl 1 (List.map A0 (v.mem)),AV.sl 1 (List.map Am (v.buf))],[])) (fun k s=>Lh n Bm k s.1 s.2) (fun s=>rfl) o29 n (0,([]:List (List A2))) (fun _=>0) ho29 ?_ ?_
 intro k22 ss a23 K24 cont25 hK26 hcont27 h hr28
 obtain⟨s20,s21⟩:=ss
 replace h:Lh n Bm (k22+1) s20 s21=some o29:=h
 rw[Lh] at h
 conv=>lhs;whnf
 revert h
 refine br ?_ ?_
 refine ix ?_;intro x31
 refine cn ?_
 refine ar (ap Am (List.map Am s21) s21 ([[AV.sl 2 (List.map At x31)]]) ([x31]:List (List A2))) ?_
 exact fun h=>cq (hcont27 (IntKind.i64.wrap (s20+1),(s21++([x31]:List (List A2)))) (fun _=>0) h)
 intro h;cases sj h
 exact kq (hr28 (fun _=>0))
 refine lrc ?_ ?_
 intro v e;subst e;cases sj h;rfl
 intro x36 a35 e;subst e
 dsimp only at h
 conv=>lhs;whnf
 revert h
 intro h;cases sj h
 try simp only[ls]
 exact fq (y:=some (AV.agg [AV.sl 1 (List.map A0 (Bm.pc)),AV.sl 1 (List.take (List.length x19) (List.map Ag x19)),AV.sl 1 (List.map A0 (Bm.mem)),AV.sl 1 (List.take (List.length x36) (List.map Am x36))],[]))
theorem A7b {n:Nat} ⦃Ck:Ac⦄ ⦃Cr:Ac⦄ ⦃r:Bool⦄:Ma n Ck Cr=some r→CN n 52 [AV.agg [AV.sl 1 (List.map A0 (Ck.pc)),AV.sl 1 (List.map Ag (Ck.regs)),AV.sl 1 (List.map A0 (Ck.mem)),AV.sl 1 (List.map Am (Ck.buf))],AV.agg [AV.sl 1 (List.map A0 (Cr.pc)),AV.sl 1 (List.map Ag (Cr.regs)),AV.sl 1 (List.map A0 (Cr.mem)),AV.sl 1 (List.map Am (Cr.buf))]] []=some (bA r,[]):=by
 intro h;rcases n with _|n;cases h
 rw[Ma] at h
 refine Au Tryz.func52 (by rfl) rfl rfl (B4 rfl) ?_
 intro call hc;conv=>lhs;whnf
 revert h
 refine ca hc (fun _ h=>Rc h) ?_;intro y1
 refine br ?_ ?_
 refine ca hc (fun _ h=>Rc h) ?_;intro y4
 refine br ?_ ?_
 refine br ?_ ?_
 exact rz
 refine br ?_ ?_
 exact rz
 intro h;refine Ae h ?_;clear h;intro o17 ho17 h
 refine lq (σ:=Int) (τ:=Unit) (ν:=Bool) 0 (fun s9 a11=>Ax 77 [(2,AV.ptr 0 0),(3,AV.ptr 1 0),(5,iA s9)]) (fun s9 a11=>[Ob.var 90 [AV.sl 1 (List.map A0 (Ck.pc)),AV.sl 1 (List.map Ag (Ck.regs)),AV.sl 1 (List.map A0 (Ck.mem)),AV.sl 1 (List.map Am (Ck.buf))],Ob.var 90 [AV.sl 1 (List.map A0 (Cr.pc)),AV.sl 1 (List.map Ag (Cr.regs)),AV.sl 1 (List.map A0 (Cr.mem)),AV.sl 1 (List.map Am (Cr.buf))]]) (fun _ a24=>Ax 77 [(2,AV.ptr 0 0),(3,AV.ptr 1 0)]) (fun _ a24=>[Ob.var 90 [AV.sl 1 (List.map A0 (Ck.pc)),AV.sl 1 (List.map Ag (Ck.regs)),AV.sl 1 (List.map A0 (Ck.mem)),AV.sl 1 (List.map Am (Ck.buf))],Ob.var 90 [AV.sl 1 (List.map A0 (Cr.pc)),AV.sl 1 (List.map Ag (Cr.regs)),AV.sl 1 (List.map A0 (Cr.mem)),AV.sl 1 (List.map Am (Cr.buf))]]) (fun v=>(bA v,[])) (fun k s=>Ge n Ck Cr k s) (fun s=>rfl) o17 n 0 (fun _=>0) ho17 ?_ ?_
 intro k10 s9 a11 K12 cont13 hK14 hcont15 h hr16
 replace h:Ge n Ck Cr (k10+1) s9=some o17:=h
 rw[Ge] at h
 conv=>lhs;whnf
 revert h
 refine br ?_ ?_
 refine ix ?_;intro x19
 refine ix ?_;intro x20
 refine ca hc (fun _ h=>Rc h) ?_;intro y21
 refine br ?_ ?_
 exact fun h=>cq (hcont15 (IntKind.i64.wrap (s9+1)) (fun _=>0) h)
 intro h;cases sj h
 refine(hK14 _ _).trans ?_
 refine Eq.trans ?_ (Eq.symm (show _=some _ from hr16))
 conv=>lhs;whnf
 exact rq
 intro h;cases sj h
 exact kq (hr16 (fun _=>0))
 refine lrc ?_ ?_
 intro v e;subst e;cases sj h;rfl
 intro t a24 e;subst e
 dsimp only at h
 conv=>lhs;whnf
 revert h
 intro h;refine Ae h ?_;clear h;intro o33 ho33 h
 refine lq (σ:=Int) (τ:=Unit) (ν:=Bool) 2 (fun s25 a27=>Ax 77 [(2,AV.ptr 0 0),(3,AV.ptr 1 0),(6,iA s25)]) (fun s25 a27=>[Ob.var 90 [AV.sl 1 (List.map A0 (Ck.pc)),AV.sl 1 (List.map Ag (Ck.regs)),AV.sl 1 (List.map A0 (Ck.mem)),AV.sl 1 (List.map Am (Ck.buf))],Ob.var 90 [AV.sl 1 (List.map A0 (Cr.pc)),AV.sl 1 (List.map Ag (Cr.regs)),AV.sl 1 (List.map A0 (Cr.mem)),AV.sl 1 (List.map Am (Cr.buf))]]) (fun _ a40=>Ax 77 []) (fun _ a40=>[Ob.var 90 [AV.sl 1 (List.map A0 (Ck.pc)),AV.sl 1 (List.map Ag (Ck.regs)),AV.sl 1 (List.map A0 (Ck.mem)),AV.sl 1 (List.map Am (Ck.buf))],Ob.var 90 [AV.sl 1 (List.map A0 (Cr.pc)),AV.sl 1 (List.map Ag (Cr.regs)),AV.sl 1 (List.map A0 (Cr.mem)),AV.sl 1 (List.map Am (Cr.buf))]]) (fun v=>(bA v,[])) (fun k s=>G8 n Ck Cr k s) (fun s=>rfl) o33 n 0 (fun _=>0) ho33 ?_ ?_
 intro k26 s25 a27 K28 cont29 hK30 hcont31 h hr32
 replace h:G8 n Ck Cr (k26+1) s25=some o33:=h
 rw[G8] at h
 conv=>lhs;whnf
 revert h
 refine br ?_ ?_
 refine ix ?_;intro x35
 refine ix ?_;intro x36
 refine ca hc (fun _ h=>A77 h) ?_;intro y37
 refine br ?_ ?_
 exact fun h=>cq (hcont31 (IntKind.i64.wrap (s25+1)) (fun _=>0) h)
 intro h;cases sj h
 refine(hK30 _ _).trans ?_
 refine Eq.trans ?_ (Eq.symm (show _=some _ from hr32))
 conv=>lhs;whnf
 exact rq
 intro h;cases sj h
 exact kq (hr32 (fun _=>0))
 refine lrc ?_ ?_
 intro v e;subst e;cases sj h;rfl
 intro t a40 e;subst e
 dsimp only at h
 conv=>lhs;whnf
 revert h
 exact rz
 exact rz
 exact rz
theorem A3y {n:Nat} ⦃Aa:Ak⦄ ⦃B7:Ac⦄ ⦃H1:Int⦄ ⦃r:Bool⦄:R6 n Aa B7 H1=some r→CN n 130 [AV.agg [iA (Aa.mod),AV.sl 1 (List.map A0 (Aa.init)),AV.sl 1 (List.map A0 (Aa.regs)),AV.sl 1 (List.map Ah (Aa.code))],AV.agg [AV.sl 1 (List.map A0 (B7.pc)),AV.sl 1 (List.map Ag (B7.regs)),AV.sl 1 (List.map A0 (B7.mem)),AV.sl 1 (List.map Am (B7.buf))],iA H1] []=some (bA r,[]):=by
 intro h;rcases n with _|n;cases h
 rw[R6] at h
 refine Au Tryz.func130 (by rfl) rfl rfl (B4 rfl) ?_
 intro call hc;conv=>lhs;whnf
 revert h
 refine br ?_ ?_
 exact rz
 refine br ?_ ?_
 exact rz
 refine br ?_ ?_
 exact rz
 refine ix ?_;intro x4
 refine br ?_ ?_
 exact rz
 refine ix ?_;intro x6
 refine ix ?_;intro x7
 refine br ?_ ?_
 exact rz
 refine ix ?_;intro x9
 refine ix ?_;intro x10
 refine ix ?_;intro x11
 exact rz
theorem A55 {n:Nat} ⦃Bm:Ac⦄ ⦃r:Bool⦄:Ra n Bm=some r→CN n 131 [AV.agg [AV.sl 1 (List.map A0 (Bm.pc)),AV.sl 1 (List.map Ag (Bm.regs)),AV.sl 1 (List.map A0 (Bm.mem)),AV.sl 1 (List.map Am (Bm.buf))]] []=some (bA r,[]):=by
 intro h;rcases n with _|n;cases h
 rw[Ra] at h
 refine Au Tryz.func131 (by rfl) rfl rfl (B4 rfl) ?_
 intro call hc;conv=>lhs;whnf
 revert h
 intro h;refine Ae h ?_;clear h;intro o9 ho9 h
 refine lq (σ:=Int) (τ:=Unit) (ν:=Bool) 0 (fun s1 a3=>Ax 18 [(1,AV.ptr 0 0),(3,iA s1)]) (fun s1 a3=>[Ob.var 90 [AV.sl 1 (List.map A0 (Bm.pc)),AV.sl 1 (List.map Ag (Bm.regs)),AV.sl 1 (List.map A0 (Bm.mem)),AV.sl 1 (List.map Am (Bm.buf))]]) (fun _ a13=>Ax 18 []) (fun _ a13=>[Ob.var 90 [AV.sl 1 (List.map A0 (Bm.pc)),AV.sl 1 (List.map Ag (Bm.regs)),AV.sl 1 (List.map A0 (Bm.mem)),AV.sl 1 (List.map Am (Bm.buf))]]) (fun v=>(bA v,[])) (fun k s=>Kd n Bm k s) (fun s=>rfl) o9 n 0 (fun _=>0) ho9 ?_ ?_
 intro k2 s1 a3 K4 cont5 hK6 hcont7 h hr8
 replace h:Kd n Bm (k2+1) s1=some o9:=h
 rw[Kd] at h
 conv=>lhs;whnf
 revert h
 refine br ?_ ?_
 refine ix ?_;intro x11
 refine br ?_ ?_
 intro h;cases sj h
 refine(hK6 _ _).trans ?_
 refine Eq.trans ?_ (Eq.symm (show _=some _ from hr8))
 conv=>lhs;whnf
 exact rq
 exact fun h=>cq (hcont7 (IntKind.i64.wrap (s1+1)) (fun _=>0) h)
 intro h;cases sj h
 exact kq (hr8 (fun _=>0))
 refine lrc ?_ ?_
 intro v e;subst e;cases sj h;rfl
 intro t a13 e;subst e
 dsimp only at h
 conv=>lhs;whnf
 revert h
 exact rz
theorem Vh {n:Nat} ⦃Aa:Ak⦄ ⦃B7:Ac⦄ ⦃r:Bool⦄:Nr n Aa B7=some r→CN n 87 [AV.agg [iA (Aa.mod),AV.sl 1 (List.map A0 (Aa.init)),AV.sl 1 (List.map A0 (Aa.regs)),AV.sl 1 (List.map Ah (Aa.code))],AV.agg [AV.sl 1 (List.map A0 (B7.pc)),AV.sl 1 (List.map Ag (B7.regs)),AV.sl 1 (List.map A0 (B7.mem)),AV.sl 1 (List.map Am (B7.buf))]] []=some (bA r,[]):=by
 intro h;rcases n with _|n;cases h
 rw[Nr] at h
 refine Au Tryz.func87 (by rfl) rfl rfl (B4 rfl) ?_
 intro call hc;conv=>lhs;whnf
 revert h
 intro h;refine Ae h ?_;clear h;intro o9 ho9 h
 refine lq (σ:=Int) (τ:=Unit) (ν:=Bool) 0 (fun s1 a3=>Ax 20 [(2,AV.ptr 0 0),(3,AV.ptr 1 0),(5,iA s1)]) (fun s1 a3=>[Ob.var 61 [iA (Aa.mod),AV.sl 1 (List.map A0 (Aa.init)),AV.sl 1 (List.map A0 (Aa.regs)),AV.sl 1 (List.map Ah (Aa.code))],Ob.var 90 [AV.sl 1 (List.map A0 (B7.pc)),AV.sl 1 (List.map Ag (B7.regs)),AV.sl 1 (List.map A0 (B7.mem)),AV.sl 1 (List.map Am (B7.buf))]]) (fun _ a14=>Ax 20 [(3,AV.ptr 1 0)]) (fun _ a14=>[Ob.var 61 [iA (Aa.mod),AV.sl 1 (List.map A0 (Aa.init)),AV.sl 1 (List.map A0 (Aa.regs)),AV.sl 1 (List.map Ah (Aa.code))],Ob.var 90 [AV.sl 1 (List.map A0 (B7.pc)),AV.sl 1 (List.map Ag (B7.regs)),AV.sl 1 (List.map A0 (B7.mem)),AV.sl 1 (List.map Am (B7.buf))]]) (fun v=>(bA v,[])) (fun k s=>Kc n Aa B7 k s) (fun s=>rfl) o9 n 0 (fun _=>0) ho9 ?_ ?_
 intro k2 s1 a3 K4 cont5 hK6 hcont7 h hr8
 replace h:Kc n Aa B7 (k2+1) s1=some o9:=h
 rw[Kc] at h
 conv=>lhs;whnf
 revert h
 refine br ?_ ?_
 refine ca hc (fun _ h=>A3y h) ?_;intro y11
 refine br ?_ ?_
 exact fun h=>cq (hcont7 (IntKind.i64.wrap (s1+1)) (fun _=>0) h)
 intro h;cases sj h
 refine(hK6 _ _).trans ?_
 refine Eq.trans ?_ (Eq.symm (show _=some _ from hr8))
 conv=>lhs;whnf
 exact rq
 intro h;cases sj h
 exact kq (hr8 (fun _=>0))
 refine lrc ?_ ?_
 intro v e;subst e;cases sj h;rfl
 intro t a14 e;subst e
 dsimp only at h
 conv=>lhs;whnf
 revert h
 refine ca hc (fun _ h=>A55 h) ?_;intro y15
 exact rz
theorem Lr {n:Nat} ⦃Aa:Ak⦄ ⦃Az:Int⦄ ⦃r:Int⦄:Fg n Aa Az=some r→CN n 35 [AV.agg [iA (Aa.mod),AV.sl 1 (List.map A0 (Aa.init)),AV.sl 1 (List.map A0 (Aa.regs)),AV.sl 1 (List.map Ah (Aa.code))],iA Az] []=some (iA r,[]):=by
 intro h;rcases n with _|n;cases h
 rw[Fg] at h
 refine Au Tryz.func35 (by rfl) rfl rfl (B4 rfl) ?_
 intro call hc;conv=>lhs;whnf
 revert h
 refine ca hc (fun _ h=>Uw h) ?_;intro y1
 refine br ?_ ?_
 refine br ?_ ?_
 exact rz
 refine br ?_ ?_
 exact rz
 refine br ?_ ?_
 exact rz
 exact rz
 exact rz
theorem O2 {n:Nat} ⦃Aa:Ak⦄ ⦃B7:Ac⦄ ⦃B1:Int⦄ ⦃Bd:Int⦄ ⦃Ko:Int⦄ ⦃r:Bool⦄:H0 n Aa B7 B1 Bd Ko=some r→CN n 48 [AV.agg [iA (Aa.mod),AV.sl 1 (List.map A0 (Aa.init)),AV.sl 1 (List.map A0 (Aa.regs)),AV.sl 1 (List.map Ah (Aa.code))],AV.agg [AV.sl 1 (List.map A0 (B7.pc)),AV.sl 1 (List.map Ag (B7.regs)),AV.sl 1 (List.map A0 (B7.mem)),AV.sl 1 (List.map Am (B7.buf))],iA B1,iA Bd,iA Ko] []=some (bA r,[]):=by
 intro h;rcases n with _|n;cases h
 rw[H0] at h
 refine Au Tryz.func48 (by rfl) rfl rfl (B4 rfl) ?_
 intro call hc;conv=>lhs;whnf
 revert h
 refine br ?_ ?_
 exact rz
 refine ca hc (fun _ h=>Lr h) ?_;intro y2
 refine br ?_ ?_
 exact rz
 refine br ?_ ?_
 refine ca hc (fun _ h=>A0g h) ?_;intro y6
 exact rz
 refine br ?_ ?_
 refine cr hc (fun _ h=>So h) ?_;intro y9
 exact rz
 refine bf ?_
 refine bf ?_
 refine cr hc (fun _ h=>So h) ?_;intro y13
 exact rz
theorem A83 {n:Nat} ⦃Aa:Ak⦄ ⦃B7:Ac⦄ ⦃B1:Int⦄ ⦃Bd:Int⦄ ⦃Ko:Int⦄ ⦃r:(Ac×Bool)⦄:Nj n Aa B7 B1 Bd Ko=some r→CN n 29 [AV.agg [iA (Aa.mod),AV.sl 1 (List.map A0 (Aa.init)),AV.sl 1 (List.map A0 (Aa.regs)),AV.sl 1 (List.map Ah (Aa.code))],AV.agg [AV.sl 1 (List.map A0 (B7.pc)),AV.sl 1 (List.map Ag (B7.regs)),AV.sl 1 (List.map A0 (B7.mem)),AV.sl 1 (List.map Am (B7.buf))],iA B1,iA Bd,iA Ko] []=some (AV.tup [AV.agg [AV.sl 1 (List.map A0 (r.1.pc)),AV.sl 1 (List.map Ag (r.1.regs)),AV.sl 1 (List.map A0 (r.1.mem)),AV.sl 1 (List.map Am (r.1.buf))],bA r.2],[]):=by
 intro h;rcases n with _|n;cases h
 rw[Nj] at h
 refine Au Tryz.func29 (by rfl) rfl rfl (B4 rfl) ?_
 intro call hc;conv=>lhs;whnf
 revert h
 refine ca hc (fun _ h=>O2 h) ?_;intro y1
 refine br ?_ ?_
 refine br ?_ ?_
 refine ca hc (fun _ h=>Aaj h) ?_;intro y5
 exact rz
 refine br ?_ ?_
 refine cr hc (fun _ h=>Ve h) ?_;intro y8
 exact rz
 refine bf ?_
 refine bf ?_
 refine cr hc (fun _ h=>Ve h) ?_;intro y12
 exact rz
 refine ca hc (fun _ h=>A7a h) ?_;intro y14
 exact rz
theorem Va {n:Nat} ⦃Aa:Ak⦄ ⦃B7:Ac⦄ ⦃B1:Int⦄ ⦃Bd:Int⦄ ⦃r:(List Int)⦄:J5 n Aa B7 B1 Bd=some r→CN n 28 [AV.agg [iA (Aa.mod),AV.sl 1 (List.map A0 (Aa.init)),AV.sl 1 (List.map A0 (Aa.regs)),AV.sl 1 (List.map Ah (Aa.code))],AV.agg [AV.sl 1 (List.map A0 (B7.pc)),AV.sl 1 (List.map Ag (B7.regs)),AV.sl 1 (List.map A0 (B7.mem)),AV.sl 1 (List.map Am (B7.buf))],iA B1,iA Bd] []=some (AV.sl 1 (List.map A0 r),[]):=by
 intro h;rcases n with _|n;cases h
 rw[J5] at h
 refine Au Tryz.func28 (by rfl) rfl rfl (B4 rfl) ?_
 intro call hc;conv=>lhs;whnf
 revert h
 intro h;refine Ae h ?_;clear h;intro o10 ho10 h
 refine lq (σ:=(Int×(List Int))) (τ:=(List Int)) (ν:=(List Int)) 0 (fun(s1,s2) a4=>Ax 29 [(2,iA B1),(3,iA Bd),(4,AV.ptr 0 0),(5,AV.ptr 1 0),(9,AV.row 2 (List.length s2)),(10,iA s1)]) (fun(s1,s2) a4=>[Ob.var 61 [iA (Aa.mod),AV.sl 1 (List.map A0 (Aa.init)),AV.sl 1 (List.map A0 (Aa.regs)),AV.sl 1 (List.map Ah (Aa.code))],Ob.var 90 [AV.sl 1 (List.map A0 (B7.pc)),AV.sl 1 (List.map Ag (B7.regs)),AV.sl 1 (List.map A0 (B7.mem)),AV.sl 1 (List.map Am (B7.buf))],Ob.row 3 1 (List.map A0 s2)]) (fun x20 a19=>Ax 29 [(9,AV.row 2 (List.length x20))]) (fun x20 a19=>[Ob.var 61 [iA (Aa.mod),AV.sl 1 (List.map A0 (Aa.init)),AV.sl 1 (List.map A0 (Aa.regs)),AV.sl 1 (List.map Ah (Aa.code))],Ob.var 90 [AV.sl 1 (List.map A0 (B7.pc)),AV.sl 1 (List.map Ag (B7.regs)),AV.sl 1 (List.map A0 (B7.mem)),AV.sl 1 (List.map Am (B7.buf))],Ob.row 3 1 (List.map A0 x20)]) (fun v=>(AV.sl 1 (List.map A0 v),[])) (fun k s=>Fi n Aa B7 B1 Bd k s.1 s.2) (fun s=>rfl) o10 n (0,([]:List Int)) (fun _=>0) ho10 ?_ ?_
 intro k3 ss a4 K5 cont6 hK7 hcont8 h hr9
 obtain⟨s1,s2⟩:=ss
 replace h:Fi n Aa B7 B1 Bd (k3+1) s1 s2=some o10:=h
 rw[Fi] at h
 conv=>lhs;whnf
 revert h
 refine ca hc (fun _ h=>Lr h) ?_;intro y11
 refine br ?_ ?_
 refine ca hc (fun _ h=>O2 h) ?_;intro y14
 refine br ?_ ?_
 refine ar (ap A0 (List.map A0 s2) s2 ([[iA s1]]) ([s1]:List Int)) ?_
 exact fun h=>cq (hcont8 (IntKind.i64.wrap (s1+1),(s2++([s1]:List Int))) (fun _=>0) h)
 exact fun h=>cq (hcont8 (IntKind.i64.wrap (s1+1),s2) (fun _=>0) h)
 intro h;cases sj h
 exact kq (hr9 (fun _=>0))
 refine lrc ?_ ?_
 intro v e;subst e;cases sj h;rfl
 intro x20 a19 e;subst e
 dsimp only at h
 conv=>lhs;whnf
 revert h
 intro h;obtain rfl:=sj h
 try simp only[ls]
 exact fq (y:=some (AV.sl 1 (List.take (List.length x20) (List.map A0 x20)),[]))
theorem A7c {n:Nat} ⦃Aa:Ak⦄ ⦃B7:Ac⦄ ⦃B1:Int⦄ ⦃Bd:Int⦄ ⦃r:Bool⦄:Sy n Aa B7 B1 Bd=some r→CN n 53 [AV.agg [iA (Aa.mod),AV.sl 1 (List.map A0 (Aa.init)),AV.sl 1 (List.map A0 (Aa.regs)),AV.sl 1 (List.map Ah (Aa.code))],AV.agg [AV.sl 1 (List.map A0 (B7.pc)),AV.sl 1 (List.map Ag (B7.regs)),AV.sl 1 (List.map A0 (B7.mem)),AV.sl 1 (List.map Am (B7.buf))],iA B1,iA Bd] []=some (bA r,[]):=by
 intro h;rcases n with _|n;cases h
 rw[Sy] at h
 refine Au Tryz.func53 (by rfl) rfl rfl (B4 rfl) ?_
 intro call hc;conv=>lhs;whnf
 revert h
 refine ca hc (fun _ h=>Va h) ?_;intro y1
 refine br ?_ ?_
 refine ca hc (fun _ h=>Vh h) ?_;intro y4
 exact rz
 exact rz
theorem Pz {n:Nat} ⦃G7:Int⦄ ⦃E3:(List A9)⦄ ⦃r:(Aq×Int)⦄:Hy n G7 E3=some r→CN n 31 [iA G7,AV.sl 3 (List.map Bo E3)] []=some (AV.tup [AV.agg [AV.sl 1 (List.map A0 r.1.Al),AV.sl 1 (List.map A0 r.1.Aj),AV.sl 1 (List.map A0 r.1.Aw)],iA r.2],[]):=by
 intro h;rcases n with _|n;cases h
 rw[Hy] at h
 refine Au Tryz.func31 (by rfl) rfl rfl (B4 rfl) ?_
 intro call hc;conv=>lhs;whnf
 revert h
 refine br ?_ ?_
 exact rz
 refine br ?_ ?_
 exact rz
 intro h;refine Ae h ?_;clear h;intro o11 ho11 h
 refine lq (σ:=Int) (τ:=Unit) (ν:=(Aq×Int)) 0 (fun s3 a5=>Ax 117 [(0,iA G7),(1,AV.sl 3 (List.map Bo E3)),(4,AV.ptr 0 0),(6,iA s3)]) (fun s3 a5=>[Ob.var 66 [AV.row 1 (List.length (([]:List Int))),AV.row 2 (List.length (([]:List Int))),AV.row 3 (List.length (([]:List Int)))],Ob.row 3 1 ([]),Ob.row 3 1 ([]),Ob.row 3 1 ([])]) (fun _ a23=>Ax 117 [(0,iA G7),(1,AV.sl 3 (List.map Bo E3)),(4,AV.ptr 0 0)]) (fun _ a23=>[Ob.var 66 [AV.row 1 (List.length (([]:List Int))),AV.row 2 (List.length (([]:List Int))),AV.row 3 (List.length (([]:List Int)))],Ob.row 3 1 ([]),Ob.row 3 1 ([]),Ob.row 3 1 ([])]) (fun v=>(AV.tup [AV.agg [AV.sl 1 (List.map A0 v.1.Al),AV.sl 1 (List.map A0 v.1.Aj),AV.sl 1 (List.map A0 v.1.Aw)],iA v.2],[])) (fun k s=>Fn n G7 E3 k s) (fun s=>rfl) o11 n 0 (fun _=>0) ho11 ?_ ?_
 intro k4 s3 a5 K6 cont7 hK8 hcont9 h hr10
 replace h:Fn n G7 E3 (k4+1) s3=some o11:=h
 rw[Fn] at h
 conv=>lhs;whnf
 revert h
 refine br ?_ ?_
 refine ix ?_;intro x13
 refine br ?_ ?_
 intro h;cases sj h
 refine(hK8 _ _).trans ?_
 refine Eq.trans ?_ (Eq.symm (show _=some _ from hr10))
 conv=>lhs;whnf
 exact rq
 refine ix ?_;intro x15
 refine br ?_ ?_
 intro h;cases sj h
 refine(hK8 _ _).trans ?_
 refine Eq.trans ?_ (Eq.symm (show _=some _ from hr10))
 conv=>lhs;whnf
 exact rq
 refine ix ?_;intro x17
 refine br ?_ ?_
 intro h;cases sj h
 refine(hK8 _ _).trans ?_
 refine Eq.trans ?_ (Eq.symm (show _=some _ from hr10))
 conv=>lhs;whnf
 exact rq
 refine ix ?_;intro x19
 refine br ?_ ?_
 intro h;cases sj h
 refine(hK8 _ _).trans ?_
 refine Eq.trans ?_ (Eq.symm (show _=some _ from hr10))
 conv=>lhs;whnf
 exact rq
 refine ix ?_;intro x21
 refine br ?_ ?_
 intro h;cases sj h
 refine(hK8 _ _).trans ?_
 refine Eq.trans ?_ (Eq.symm (show _=some _ from hr10))
 conv=>lhs;whnf
 exact rq
 exact fun h=>cq (hcont9 (IntKind.i64.wrap (s3+1)) (fun _=>0) h)
 intro h;cases sj h
 exact kq (hr10 (fun _=>0))
 refine lrc ?_ ?_
 intro v e;subst e;cases sj h;rfl
 intro t a23 e;subst e
 dsimp only at h
 conv=>lhs;whnf
 revert h
 intro h;refine Ae h ?_;clear h;intro o35 ho35 h
 refine lq (σ:=(Int×(List Int)×(List Int)×(List Int))) (τ:=((List Int)×(List Int)×(List Int))) (ν:=(Aq×Int)) 2 (fun(s24,s25,s26,s27) a29=>Ax 117 [(0,iA G7),(1,AV.sl 3 (List.map Bo E3)),(4,AV.ptr 0 0),(7,AV.ptr 4 0),(8,iA s24)]) (fun(s24,s25,s26,s27) a29=>[Ob.var 66 [AV.row 1 (List.length (([]:List Int))),AV.row 2 (List.length (([]:List Int))),AV.row 3 (List.length (([]:List Int)))],Ob.row 3 1 ([]),Ob.row 3 1 ([]),Ob.row 3 1 ([]),Ob.var 66 [AV.row 5 (List.length s25),AV.row 6 (List.length s26),AV.row 7 (List.length s27)],Ob.row 3 1 (List.map A0 s25),Ob.row 3 1 (List.map A0 s26),Ob.row 3 1 (List.map A0 s27)]) (fun(x64,x65,x66) a63=>Ax 117 [(4,AV.ptr 0 0),(7,AV.ptr 4 0)]) (fun(x64,x65,x66) a63=>[Ob.var 66 [AV.row 1 (List.length (([]:List Int))),AV.row 2 (List.length (([]:List Int))),AV.row 3 (List.length (([]:List Int)))],Ob.row 3 1 ([]),Ob.row 3 1 ([]),Ob.row 3 1 ([]),Ob.var 66 [AV.row 5 (List.length x64),AV.row 6 (List.length x65),AV.row 7 (List.length x66)],Ob.row 3 1 (List.map A0 x64),Ob.row 3 1 (List.map A0 x65),Ob.row 3 1 (List.map A0 x66)]) (fun v=>(AV.tup [AV.agg [AV.sl 1 (List.map A0 v.1.Al),AV.sl 1 (List.map A0 v.1.Aj),AV.sl 1 (List.map A0 v.1.Aw)],iA v.2],[])) (fun k s=>Fp n G7 E3 k s.1 s.2.1 s.2.2.1 s.2.2.2) (fun s=>rfl) o35 n (0,([0]:List Int),([]:List Int),([]:List Int)) (fun _=>0) ho35 ?_ ?_
 intro k28 ss a29 K30 cont31 hK32 hcont33 h hr34
 obtain⟨s24,s25,s26,s27⟩:=ss
 replace h:Fp n G7 E3 (k28+1) s24 s25 s26 s27=some o35:=h
 rw[Fp] at h
 conv=>lhs;whnf
 revert h
 refine br ?_ ?_
 intro h;refine Ae h ?_;clear h;intro o47 ho47 h
 refine lq (σ:=(Int×(List Int)×(List Int))) (τ:=((List Int)×(List Int))) (ν:=(Aq×Int)) 4 (fun(s37,s38,s39) a41=>Ax 117 [(0,iA G7),(1,AV.sl 3 (List.map Bo E3)),(4,AV.ptr 0 0),(7,AV.ptr 4 0),(8,iA s24),(9,iA s37)]) (fun(s37,s38,s39) a41=>[Ob.var 66 [AV.row 1 (List.length (([]:List Int))),AV.row 2 (List.length (([]:List Int))),AV.row 3 (List.length (([]:List Int)))],Ob.row 3 1 ([]),Ob.row 3 1 ([]),Ob.row 3 1 ([]),Ob.var 66 [AV.row 5 (List.length s25),AV.row 6 (List.length s38),AV.row 7 (List.length s39)],Ob.row 3 1 (List.map A0 s25),Ob.row 3 1 (List.map A0 s38),Ob.row 3 1 (List.map A0 s39)]) (fun(x58,x59) a57=>Ax 117 [(0,iA G7),(1,AV.sl 3 (List.map Bo E3)),(4,AV.ptr 0 0),(7,AV.ptr 4 0),(8,iA s24)]) (fun(x58,x59) a57=>[Ob.var 66 [AV.row 1 (List.length (([]:List Int))),AV.row 2 (List.length (([]:List Int))),AV.row 3 (List.length (([]:List Int)))],Ob.row 3 1 ([]),Ob.row 3 1 ([]),Ob.row 3 1 ([]),Ob.var 66 [AV.row 5 (List.length s25),AV.row 6 (List.length x58),AV.row 7 (List.length x59)],Ob.row 3 1 (List.map A0 s25),Ob.row 3 1 (List.map A0 x58),Ob.row 3 1 (List.map A0 x59)]) (fun v=>(AV.tup [AV.agg [AV.sl 1 (List.map A0 v.1.Al),AV.sl 1 (List.map A0 v.1.Aj),AV.sl 1 (List.map A0 v.1.Aw)],iA v.2],[])) (fun k s=>Eh n E3 s24 k s.1 s.2.1 s.2.2) (fun s=>rfl) o47 n (0,s26,s27) (fun _=>0) ho47 ?_ ?_
 intro k40 ss a41 K42 cont43 hK44 hcont45 h hr46
 obtain⟨s37,s38,s39⟩:=ss
 replace h:Eh n E3 s24 (k40+1) s37 s38 s39=some o47:=h
 rw[Eh] at h
 conv=>lhs;whnf
 revert h
 refine br ?_ ?_
 refine ix ?_;intro x49
 refine br ?_ ?_
 refine ix ?_;intro x51
 refine ar (ap A0 (List.map A0 s38) s38 ([[iA x51.Aj]]) ([x51.Aj]:List Int)) ?_
 refine ix ?_;intro x54
 refine ar (ap A0 (List.map A0 s39) s39 ([[iA x54.Aw]]) ([x54.Aw]:List Int)) ?_
 exact fun h=>cq (hcont45 (IntKind.i64.wrap (s37+1),(s38++([x51.Aj]:List Int)),(s39++([x54.Aw]:List Int))) (fun _=>0) h)
 exact fun h=>cq (hcont45 (IntKind.i64.wrap (s37+1),s38,s39) (fun _=>0) h)
 intro h;cases sj h
 exact kq (hr46 (fun _=>0))
 refine lrc ?_ ?_
 intro v e;subst e;cases sj h;exact hr34
 intro t a57 e;subst e
 obtain⟨x58,x59⟩:=t
 dsimp only at h
 conv=>lhs;whnf
 revert h
 refine ar (ap A0 (List.map A0 s25) s25 ([[iA (((x59.length:Nat):Int))]]) ([((x59.length:Nat):Int)]:List Int)) ?_
 exact fun h=>cq (hcont33 (IntKind.i64.wrap (s24+1),(s25++([((x59.length:Nat):Int)]:List Int)),x58,x59) (fun _=>0) h)
 intro h;cases sj h
 exact kq (hr34 (fun _=>0))
 refine lrc ?_ ?_
 intro v e;subst e;cases sj h;rfl
 intro t a63 e;subst e
 obtain⟨x64,x65,x66⟩:=t
 dsimp only at h
 conv=>lhs;whnf
 revert h
 intro h;cases sj h
 try simp only[ls]
 exact fq (y:=some (AV.tup [AV.agg [AV.sl 1 (List.take (List.length x64) (List.map A0 x64)),AV.sl 1 (List.take (List.length x65) (List.map A0 x65)),AV.sl 1 (List.take (List.length x66) (List.map A0 x66))],iA (0)],[]))
theorem If {n:Nat} ⦃A7:Aq⦄ ⦃r:Bool⦄:Fc n A7=some r→CN n 132 [AV.agg [AV.sl 1 (List.map A0 A7.Al),AV.sl 1 (List.map A0 A7.Aj),AV.sl 1 (List.map A0 A7.Aw)]] []=some (bA r,[]):=by
 intro h;rcases n with _|n;cases h
 rw[Fc] at h
 refine Au Tryz.func132 (by rfl) rfl rfl (B4 rfl) ?_
 intro call hc;conv=>lhs;whnf
 revert h
 refine br ?_ ?_
 exact rz
 refine ix ?_;intro x2
 refine br ?_ ?_
 exact rz
 refine ix ?_;intro x4
 refine br ?_ ?_
 exact rz
 refine br ?_ ?_
 exact rz
 intro h;refine Ae h ?_;clear h;intro o15 ho15 h
 refine lq (σ:=Int) (τ:=Unit) (ν:=Bool) 0 (fun s7 a9=>Ax 86 [(1,AV.ptr 0 0),(3,iA (IntKind.i64.wrap (((A7.Al.length:Nat):Int) - 1))),(4,iA s7)]) (fun s7 a9=>[Ob.var 66 [AV.sl 1 (List.map A0 A7.Al),AV.sl 1 (List.map A0 A7.Aj),AV.sl 1 (List.map A0 A7.Aw)]]) (fun _ a20=>Ax 86 [(1,AV.ptr 0 0),(3,iA (IntKind.i64.wrap (((A7.Al.length:Nat):Int) - 1)))]) (fun _ a20=>[Ob.var 66 [AV.sl 1 (List.map A0 A7.Al),AV.sl 1 (List.map A0 A7.Aj),AV.sl 1 (List.map A0 A7.Aw)]]) (fun v=>(bA v,[])) (fun k s=>Ff n A7 k s) (fun s=>rfl) o15 n 0 (fun _=>0) ho15 ?_ ?_
 intro k8 s7 a9 K10 cont11 hK12 hcont13 h hr14
 replace h:Ff n A7 (k8+1) s7=some o15:=h
 rw[Ff] at h
 conv=>lhs;whnf
 revert h
 refine br ?_ ?_
 refine ix ?_;intro x17
 refine ix ?_;intro x18
 refine br ?_ ?_
 intro h;cases sj h
 refine(hK12 _ _).trans ?_
 refine Eq.trans ?_ (Eq.symm (show _=some _ from hr14))
 conv=>lhs;whnf
 exact rq
 exact fun h=>cq (hcont13 (IntKind.i64.wrap (s7+1)) (fun _=>0) h)
 intro h;cases sj h
 exact kq (hr14 (fun _=>0))
 refine lrc ?_ ?_
 intro v e;subst e;cases sj h;rfl
 intro t a20 e;subst e
 dsimp only at h
 conv=>lhs;whnf
 revert h
 intro h;refine Ae h ?_;clear h;intro o29 ho29 h
 refine lq (σ:=Int) (τ:=Unit) (ν:=Bool) 2 (fun s21 a23=>Ax 86 [(1,AV.ptr 0 0),(3,iA (IntKind.i64.wrap (((A7.Al.length:Nat):Int) - 1))),(5,iA s21)]) (fun s21 a23=>[Ob.var 66 [AV.sl 1 (List.map A0 A7.Al),AV.sl 1 (List.map A0 A7.Aj),AV.sl 1 (List.map A0 A7.Aw)]]) (fun _ a37=>Ax 86 []) (fun _ a37=>[Ob.var 66 [AV.sl 1 (List.map A0 A7.Al),AV.sl 1 (List.map A0 A7.Aj),AV.sl 1 (List.map A0 A7.Aw)]]) (fun v=>(bA v,[])) (fun k s=>Fh n A7 k s) (fun s=>rfl) o29 n 0 (fun _=>0) ho29 ?_ ?_
 intro k22 s21 a23 K24 cont25 hK26 hcont27 h hr28
 replace h:Fh n A7 (k22+1) s21=some o29:=h
 rw[Fh] at h
 conv=>lhs;whnf
 revert h
 refine br ?_ ?_
 refine ix ?_;intro x31
 refine br ?_ ?_
 intro h;cases sj h
 refine(hK26 _ _).trans ?_
 refine Eq.trans ?_ (Eq.symm (show _=some _ from hr28))
 conv=>lhs;whnf
 exact rq
 refine ix ?_;intro x33
 refine br ?_ ?_
 intro h;cases sj h
 refine(hK26 _ _).trans ?_
 refine Eq.trans ?_ (Eq.symm (show _=some _ from hr28))
 conv=>lhs;whnf
 exact rq
 refine ix ?_;intro x35
 refine br ?_ ?_
 intro h;cases sj h
 refine(hK26 _ _).trans ?_
 refine Eq.trans ?_ (Eq.symm (show _=some _ from hr28))
 conv=>lhs;whnf
 exact rq
 exact fun h=>cq (hcont27 (IntKind.i64.wrap (s21+1)) (fun _=>0) h)
 intro h;cases sj h
 exact kq (hr28 (fun _=>0))
 refine lrc ?_ ?_
 intro v e;subst e;cases sj h;rfl
 intro t a37 e;subst e
 dsimp only at h
 conv=>lhs;whnf
 revert h
 exact rz
theorem Kb {n:Nat} ⦃A7:Aq⦄ ⦃r:(List A9)⦄:Gn n A7=some r→CN n 134 [AV.agg [AV.sl 1 (List.map A0 A7.Al),AV.sl 1 (List.map A0 A7.Aj),AV.sl 1 (List.map A0 A7.Aw)]] []=some (AV.sl 3 (List.map Bo r),[]):=by
 intro h;rcases n with _|n;cases h
 rw[Gn] at h
 refine Au Tryz.func134 (by rfl) rfl rfl (B4 rfl) ?_
 intro call hc;conv=>lhs;whnf
 revert h
 refine ca hc (fun _ h=>If h) ?_;intro y1
 refine br ?_ ?_
 intro h;refine Ae h ?_;clear h;intro o13 ho13 h
 refine lq (σ:=(Int×(List A9))) (τ:=(List A9)) (ν:=(List A9)) 0 (fun(s4,s5) a7=>Ax 48 [(1,AV.ptr 0 0),(3,AV.row 1 (List.length s5)),(4,iA s4)]) (fun(s4,s5) a7=>[Ob.var 66 [AV.sl 1 (List.map A0 A7.Al),AV.sl 1 (List.map A0 A7.Aj),AV.sl 1 (List.map A0 A7.Aw)],Ob.row 99 3 (List.map Bo s5)]) (fun x36 a35=>Ax 48 [(3,AV.row 1 (List.length x36))]) (fun x36 a35=>[Ob.var 66 [AV.sl 1 (List.map A0 A7.Al),AV.sl 1 (List.map A0 A7.Aj),AV.sl 1 (List.map A0 A7.Aw)],Ob.row 99 3 (List.map Bo x36)]) (fun v=>(AV.sl 3 (List.map Bo v),[])) (fun k s=>Gq n A7 k s.1 s.2) (fun s=>rfl) o13 n (0,([]:List A9)) (fun _=>0) ho13 ?_ ?_
 intro k6 ss a7 K8 cont9 hK10 hcont11 h hr12
 obtain⟨s4,s5⟩:=ss
 replace h:Gq n A7 (k6+1) s4 s5=some o13:=h
 rw[Gq] at h
 conv=>lhs;whnf
 revert h
 refine br ?_ ?_
 refine ix ?_;intro x15
 intro h;refine Ae h ?_;clear h;intro o25 ho25 h
 refine lq (σ:=(Int×(List A9))) (τ:=(List A9)) (ν:=(List A9)) 2 (fun(s16,s17) a19=>Ax 48 [(1,AV.ptr 0 0),(3,AV.row 1 (List.length s17)),(4,iA s4),(5,iA s16)]) (fun(s16,s17) a19=>[Ob.var 66 [AV.sl 1 (List.map A0 A7.Al),AV.sl 1 (List.map A0 A7.Aj),AV.sl 1 (List.map A0 A7.Aw)],Ob.row 99 3 (List.map Bo s17)]) (fun x33 a32=>Ax 48 [(1,AV.ptr 0 0),(3,AV.row 1 (List.length x33)),(4,iA s4)]) (fun x33 a32=>[Ob.var 66 [AV.sl 1 (List.map A0 A7.Al),AV.sl 1 (List.map A0 A7.Aj),AV.sl 1 (List.map A0 A7.Aw)],Ob.row 99 3 (List.map Bo x33)]) (fun v=>(AV.sl 3 (List.map Bo v),[])) (fun k s=>Hn n A7 s4 k s.1 s.2) (fun s=>rfl) o25 n (x15,s5) (fun _=>0) ho25 ?_ ?_
 intro k18 ss a19 K20 cont21 hK22 hcont23 h hr24
 obtain⟨s16,s17⟩:=ss
 replace h:Hn n A7 s4 (k18+1) s16 s17=some o25:=h
 rw[Hn] at h
 conv=>lhs;whnf
 revert h
 refine ix ?_;intro x26
 refine br ?_ ?_
 refine ix ?_;intro x28
 refine ix ?_;intro x29
 refine ar (ap Bo (List.map Bo s17) s17 ([[iA s4,iA x28,iA x29]]) ([(⟨s4,x28,x29⟩:A9)]:List A9)) ?_
 exact fun h=>cq (hcont23 (IntKind.i64.wrap (s16+1),(s17++([(⟨s4,x28,x29⟩:A9)]:List A9))) (fun _=>0) h)
 intro h;cases sj h
 exact kq (hr24 (fun _=>0))
 refine lrc ?_ ?_
 intro v e;subst e;cases sj h;exact hr12
 intro x33 a32 e;subst e
 dsimp only at h
 conv=>lhs;whnf
 revert h
 exact fun h=>cq (hcont11 (IntKind.i64.wrap (s4+1),x33) (fun _=>0) h)
 intro h;cases sj h
 exact kq (hr12 (fun _=>0))
 refine lrc ?_ ?_
 intro v e;subst e;cases sj h;rfl
 intro x36 a35 e;subst e
 dsimp only at h
 conv=>lhs;whnf
 revert h
 intro h;obtain rfl:=sj h
 try simp only[ls]
 exact fq (y:=some (AV.sl 3 (List.take (List.length x36) (List.map Bo x36)),[]))
 exact rz
theorem Kh {n:Nat} ⦃A7:Aq⦄ ⦃r:Int⦄:Gd n A7=some r→CN n 133 [AV.agg [AV.sl 1 (List.map A0 A7.Al),AV.sl 1 (List.map A0 A7.Aj),AV.sl 1 (List.map A0 A7.Aw)]] []=some (iA r,[]):=by
 intro h;rcases n with _|n;cases h
 rw[Gd] at h
 refine Au Tryz.func133 (by rfl) rfl rfl (B4 rfl) ?_
 intro call hc;conv=>lhs;whnf
 revert h
 refine ca hc (fun _ h=>If h) ?_;intro y1
 refine br ?_ ?_
 exact rz
 exact rz
theorem Qk {n:Nat} ⦃A3g:(List Bool)⦄ ⦃Aak:Int⦄ ⦃r:Bool⦄:Jb n A3g Aak=some r→CN n 183 [AV.sl 1 (List.map Av A3g),iA Aak] []=some (bA r,[]):=by
 intro h;rcases n with _|n;cases h
 rw[Jb] at h
 refine Au Tryz.func183 (by rfl) rfl rfl (B4 rfl) ?_
 intro call hc;conv=>lhs;whnf
 revert h
 refine br ?_ ?_
 refine ix ?_;intro x2
 exact rz
 exact rz
theorem A6p {n:Nat} ⦃A7:Aq⦄ ⦃C9:(List Bool)⦄ ⦃r:Aq⦄:Mc n A7 C9=some r→CN n 175 [AV.agg [AV.sl 1 (List.map A0 A7.Al),AV.sl 1 (List.map A0 A7.Aj),AV.sl 1 (List.map A0 A7.Aw)],AV.own 0 0 (List.length C9)] [Ob.arr 1 (List.map Av C9)]=some (AV.agg [AV.sl 1 (List.map A0 r.Al),AV.sl 1 (List.map A0 r.Aj),AV.sl 1 (List.map A0 r.Aw)],[Ob.arr 1 (List.map Av C9)]):=by
 intro h;rcases n with _|n;cases h
 rw[Mc] at h
 refine Au Tryz.func175 (by rfl) rfl rfl (B4 rfl) ?_
 intro call hc;conv=>lhs;whnf
 revert h
 refine ca hc (fun _ h=>If h) ?_;intro y1
 refine br ?_ ?_
 refine ca hc (fun _ h=>Kb h) ?_;intro y4
 intro h;refine Ae h ?_;clear h;intro o15 ho15 h
 refine lq (σ:=(Int×(List A9))) (τ:=(List A9)) (ν:=Aq) 0 (fun(s6,s7) a9=>Ax 53 [(1,AV.own 0 0 (List.length C9)),(2,AV.ptr 1 0),(4,AV.ptr 2 0),(5,AV.sl 3 (List.map Bo y4)),(6,AV.row 3 (List.length s7)),(7,iA s6)]) (fun(s6,s7) a9=>[Ob.arr 1 (List.map Av C9),Ob.var 66 [AV.sl 1 (List.map A0 A7.Al),AV.sl 1 (List.map A0 A7.Aj),AV.sl 1 (List.map A0 A7.Aw)],Ob.var 66 [AV.nils,AV.nils,AV.nils],Ob.row 99 3 (List.map Bo s7)]) (fun x29 a28=>Ax 53 [(2,AV.ptr 1 0),(4,AV.ptr 2 0),(6,AV.row 3 (List.length x29))]) (fun x29 a28=>[Ob.arr 1 (List.map Av C9),Ob.var 66 [AV.sl 1 (List.map A0 A7.Al),AV.sl 1 (List.map A0 A7.Aj),AV.sl 1 (List.map A0 A7.Aw)],Ob.var 66 [AV.nils,AV.nils,AV.nils],Ob.row 99 3 (List.map Bo x29)]) (fun v=>(AV.agg [AV.sl 1 (List.map A0 v.Al),AV.sl 1 (List.map A0 v.Aj),AV.sl 1 (List.map A0 v.Aw)],[Ob.arr 1 (List.map Av C9)])) (fun k s=>Ea n C9 y4 k s.1 s.2) (fun s=>rfl) o15 n (0,([]:List A9)) (fun _=>0) ho15 ?_ ?_
 intro k8 ss a9 K10 cont11 hK12 hcont13 h hr14
 obtain⟨s6,s7⟩:=ss
 replace h:Ea n C9 y4 (k8+1) s6 s7=some o15:=h
 rw[Ea] at h
 conv=>lhs;whnf
 revert h
 refine br ?_ ?_
 refine ix ?_;intro x17
 refine cr hc (fun _ h=>Qk h) ?_;intro y18
 refine br ?_ ?_
 refine ix ?_;intro x21
 refine cr hc (fun _ h=>Qk h) ?_;intro y22
 refine br ?_ ?_
 refine ix ?_;intro x25
 refine ar (ap Bo (List.map Bo s7) s7 ([[iA x25.C2,iA x25.Aj,iA x25.Aw]]) ([x25]:List A9)) ?_
 exact fun h=>cq (hcont13 (IntKind.i64.wrap (s6+1),(s7++([x25]:List A9))) (fun _=>0) h)
 exact fun h=>cq (hcont13 (IntKind.i64.wrap (s6+1),s7) (fun _=>0) h)
 exact fun h=>cq (hcont13 (IntKind.i64.wrap (s6+1),s7) (fun _=>0) h)
 intro h;cases sj h
 exact kq (hr14 (fun _=>0))
 refine lrc ?_ ?_
 intro v e;subst e;cases sj h;rfl
 intro x29 a28 e;subst e
 dsimp only at h
 conv=>lhs;whnf
 revert h
 refine ca hc (fun _ h=>Kh h) ?_;intro y30
 refine cr hc (fun _ h=>Pz h) ?_;intro y32
 intro h;cases sj h
 try simp only[ls]
 exact fq (y:=some (AV.agg [AV.sl 1 (List.map A0 y32.1.Al),AV.sl 1 (List.map A0 y32.1.Aj),AV.sl 1 (List.map A0 y32.1.Aw)],[Ob.arr 1 (List.map Av C9)]))
 intro h;cases sj h
 try simp only[ls]
 exact fq (y:=some (AV.agg [AV.sl 1 [],AV.sl 1 [],AV.sl 1 []],[Ob.arr 1 (List.map Av C9)]))
theorem A3s {n:Nat} ⦃A7:Aq⦄ ⦃Hg:(List Int)⦄ ⦃r:(List Bool)⦄:Ld n A7 Hg=some r→CN n 172 [AV.agg [AV.sl 1 (List.map A0 A7.Al),AV.sl 1 (List.map A0 A7.Aj),AV.sl 1 (List.map A0 A7.Aw)],AV.sl 1 (List.map A0 Hg)] []=some (AV.sl 1 (List.map Av r),[]):=by
 intro h;rcases n with _|n;cases h
 rw[Ld] at h
 refine Au Tryz.func172 (by rfl) rfl rfl (B4 rfl) ?_
 intro call hc;conv=>lhs;whnf
 revert h
 refine ca hc (fun _ h=>Kh h) ?_;intro y1
 refine ca hc (fun _ h=>If h) ?_;intro y3
 refine br ?_ ?_
 intro h
 refine Ds h ?_;clear h;intro hc7 h
 try simp only[ls]
 refine B0 (by first|exact Pq (B:=1) hc7 rfl (by kernel_rfl)|exact O5 (B:=1) hc7 (by kernel_rfl)) ?_
 have hr6:List.replicate y1.toNat [bA false]=List.map Av (List.replicate y1.toNat false:List Bool):=by rw[List.map_replicate];rfl
 simp only[hr6,ls]
 conv=>lhs;whnf
 revert h
 intro h;refine Ae h ?_;clear h;intro o17 ho17 h
 refine lq (σ:=(Int×(List Bool))) (τ:=(List Bool)) (ν:=(List Bool)) 0 (fun(s8,s9) a11=>Ax 79 [(1,AV.sl 1 (List.map A0 Hg)),(2,AV.ptr 0 0),(5,iA y1),(6,AV.own 1 0 (List.length s9)),(7,iA s8)]) (fun(s8,s9) a11=>[Ob.var 66 [AV.sl 1 (List.map A0 A7.Al),AV.sl 1 (List.map A0 A7.Aj),AV.sl 1 (List.map A0 A7.Aw)],Ob.arr 1 (List.map Av s9)]) (fun x27 a26=>Ax 79 [(2,AV.ptr 0 0),(6,AV.own 1 0 (List.length x27))]) (fun x27 a26=>[Ob.var 66 [AV.sl 1 (List.map A0 A7.Al),AV.sl 1 (List.map A0 A7.Aj),AV.sl 1 (List.map A0 A7.Aw)],Ob.arr 1 (List.map Av x27)]) (fun v=>(AV.sl 1 (List.map Av v),[])) (fun k s=>Eg n Hg y1 k s.1 s.2) (fun s=>rfl) o17 n (0,(List.replicate y1.toNat false:List Bool)) (fun _=>0) ho17 ?_ ?_
 intro k10 ss a11 K12 cont13 hK14 hcont15 h hr16
 obtain⟨s8,s9⟩:=ss
 replace h:Eg n Hg y1 (k10+1) s8 s9=some o17:=h
 rw[Eg] at h
 conv=>lhs;whnf
 revert h
 refine br ?_ ?_
 refine ix ?_;intro x19
 refine br ?_ ?_
 refine ix ?_;intro x21
 refine br ?_ ?_
 refine ix ?_;intro x23
 intro h
 refine Ae h ?_;clear h;intro x24 hx24 h
 try simp only[ls]
 refine B0 (by first|exact C4 hx24|exact Dh hx24|exact Ed hx24|exact Bz hx24|(have q:=C4 hx24;simp only[List.length_set] at q;exact q)|(have q:=Bz hx24;simp only[List.length_set,Nat.zero_add] at q ⊢;exact q)) ?_
 conv=>lhs;whnf
 try simp only[Nat.zero_add,Ci (f:=Av) hx24,Bh,ls]
 conv=>lhs;whnf
 revert h
 intro h
 have hs25:Bq (List.map Av s9) x23.toNat [bA true]=List.map Av (List.set s9 x23.toNat true):=by rw[B8,List.map_set];rfl
 have hs25_u:Bq (List.map Av s9) x23.toNat (Bn (Av x24) 0 [bA true])=List.map Av (List.set s9 x23.toNat true):=by rw[B8,List.map_set];rfl
 try simp only[Nat.zero_add,Ci (f:=Av) hx24]
 conv=>lhs;whnf
 try simp only[hs25,hs25_u]
 conv=>lhs;whnf
 revert h
 exact fun h=>cq (hcont15 (IntKind.i64.wrap (s8+1),(List.set s9 x23.toNat true)) (fun _=>0) h)
 exact fun h=>cq (hcont15 (IntKind.i64.wrap (s8+1),s9) (fun _=>0) h)
 exact fun h=>cq (hcont15 (IntKind.i64.wrap (s8+1),s9) (fun _=>0) h)
 intro h;cases sj h
 exact kq (hr16 (fun _=>0))
 refine lrc ?_ ?_
 intro v e;subst e;cases sj h;rfl
 intro x27 a26 e;subst e
 dsimp only at h
 conv=>lhs;whnf
 revert h
 refine ca hc (fun _ h=>Kb h) ?_;intro y28
 intro h;refine Ae h ?_;clear h;intro o39 ho39 h
 refine lq (σ:=(Bool×(List Bool))) (τ:=(List Bool)) (ν:=(List Bool)) 2 (fun(s30,s31) a33=>Ax 79 [(6,AV.own 1 0 (List.length s31)),(8,AV.sl 3 (List.map Bo y28)),(9,bA s30)]) (fun(s30,s31) a33=>[Ob.var 66 [AV.sl 1 (List.map A0 A7.Al),AV.sl 1 (List.map A0 A7.Aj),AV.sl 1 (List.map A0 A7.Aw)],Ob.arr 1 (List.map Av s31)]) (fun x67 a66=>Ax 79 [(6,AV.own 1 0 (List.length x67))]) (fun x67 a66=>[Ob.var 66 [AV.sl 1 (List.map A0 A7.Al),AV.sl 1 (List.map A0 A7.Aj),AV.sl 1 (List.map A0 A7.Aw)],Ob.arr 1 (List.map Av x67)]) (fun v=>(AV.sl 1 (List.map Av v),[])) (fun k s=>Gi n y28 k s.1 s.2) (fun s=>rfl) o39 n (true,x27) (fun _=>0) ho39 ?_ ?_
 intro k32 ss a33 K34 cont35 hK36 hcont37 h hr38
 obtain⟨s30,s31⟩:=ss
 replace h:Gi n y28 (k32+1) s30 s31=some o39:=h
 rw[Gi] at h
 conv=>lhs;whnf
 revert h
 refine br ?_ ?_
 intro h;refine Ae h ?_;clear h;intro o51 ho51 h
 refine lq (σ:=(Bool×Int×(List Bool))) (τ:=(Bool×(List Bool))) (ν:=(List Bool)) 4 (fun(s41,s42,s43) a45=>Ax 79 [(6,AV.own 1 0 (List.length s43)),(8,AV.sl 3 (List.map Bo y28)),(9,bA s41),(10,iA s42)]) (fun(s41,s42,s43) a45=>[Ob.var 66 [AV.sl 1 (List.map A0 A7.Al),AV.sl 1 (List.map A0 A7.Aj),AV.sl 1 (List.map A0 A7.Aw)],Ob.arr 1 (List.map Av s43)]) (fun(x63,x64) a62=>Ax 79 [(6,AV.own 1 0 (List.length x64)),(8,AV.sl 3 (List.map Bo y28)),(9,bA x63)]) (fun(x63,x64) a62=>[Ob.var 66 [AV.sl 1 (List.map A0 A7.Al),AV.sl 1 (List.map A0 A7.Aj),AV.sl 1 (List.map A0 A7.Aw)],Ob.arr 1 (List.map Av x64)]) (fun v=>(AV.sl 1 (List.map Av v),[])) (fun k s=>Dx n y28 k s.1 s.2.1 s.2.2) (fun s=>rfl) o51 n (false,0,s31) (fun _=>0) ho51 ?_ ?_
 intro k44 ss a45 K46 cont47 hK48 hcont49 h hr50
 obtain⟨s41,s42,s43⟩:=ss
 replace h:Dx n y28 (k44+1) s41 s42 s43=some o51:=h
 rw[Dx] at h
 conv=>lhs;whnf
 revert h
 refine br ?_ ?_
 refine ix ?_;intro x53
 intro h
 refine Ae h ?_;clear h;intro x54 hx54 h
 try simp only[ls]
 refine B0 (by first|exact C4 hx54|exact Dh hx54|exact Ed hx54|exact Bz hx54|(have q:=C4 hx54;simp only[List.length_set] at q;exact q)|(have q:=Bz hx54;simp only[List.length_set,Nat.zero_add] at q ⊢;exact q)) ?_
 conv=>lhs;whnf
 try simp only[Nat.zero_add,Ci (f:=Av) hx54,Bh,ls]
 conv=>lhs;whnf
 revert h
 refine br ?_ ?_
 refine ix ?_;intro x56
 intro h
 refine Ae h ?_;clear h;intro x57 hx57 h
 try simp only[ls]
 refine B0 (by first|exact C4 hx57|exact Dh hx57|exact Ed hx57|exact Bz hx57|(have q:=C4 hx57;simp only[List.length_set] at q;exact q)|(have q:=Bz hx57;simp only[List.length_set,Nat.zero_add] at q ⊢;exact q)) ?_
 conv=>lhs;whnf
 try simp only[Nat.zero_add,Ci (f:=Av) hx57,Bh,ls]
 conv=>lhs;whnf
 revert h
 refine br ?_ ?_
 exact fun h=>cq (hcont49 (s41,IntKind.i64.wrap (s42+1),s43) (fun _=>0) h)
 refine ix ?_;intro x59
 intro h
 refine Ae h ?_;clear h;intro x60 hx60 h
 try simp only[ls]
 refine B0 (by first|exact C4 hx60|exact Dh hx60|exact Ed hx60|exact Bz hx60|(have q:=C4 hx60;simp only[List.length_set] at q;exact q)|(have q:=Bz hx60;simp only[List.length_set,Nat.zero_add] at q ⊢;exact q)) ?_
 conv=>lhs;whnf
 try simp only[Nat.zero_add,Ci (f:=Av) hx60,Bh,ls]
 conv=>lhs;whnf
 revert h
 intro h
 have hs61:Bq (List.map Av s43) x59.Aw.toNat [bA true]=List.map Av (List.set s43 x59.Aw.toNat true):=by rw[B8,List.map_set];rfl
 have hs61_u:Bq (List.map Av s43) x59.Aw.toNat (Bn (Av x60) 0 [bA true])=List.map Av (List.set s43 x59.Aw.toNat true):=by rw[B8,List.map_set];rfl
 try simp only[Nat.zero_add,Ci (f:=Av) hx60]
 conv=>lhs;whnf
 try simp only[hs61,hs61_u]
 conv=>lhs;whnf
 revert h
 exact fun h=>cq (hcont49 (true,IntKind.i64.wrap (s42+1),(List.set s43 x59.Aw.toNat true)) (fun _=>0) h)
 exact fun h=>cq (hcont49 (s41,IntKind.i64.wrap (s42+1),s43) (fun _=>0) h)
 intro h;cases sj h
 exact kq (hr50 (fun _=>0))
 refine lrc ?_ ?_
 intro v e;subst e;cases sj h;exact hr38
 intro t a62 e;subst e
 obtain⟨x63,x64⟩:=t
 dsimp only at h
 conv=>lhs;whnf
 revert h
 exact fun h=>cq (hcont37 (x63,x64) (fun _=>0) h)
 intro h;cases sj h
 exact kq (hr38 (fun _=>0))
 refine lrc ?_ ?_
 intro v e;subst e;cases sj h;rfl
 intro x67 a66 e;subst e
 dsimp only at h
 conv=>lhs;whnf
 revert h
 intro h;obtain rfl:=sj h
 try simp only[ls]
 exact fq (y:=some (AV.sl 1 (List.take (List.length x67) (List.drop 0 (List.map Av x67))),[]))
 exact rz
theorem A2w {n:Nat} ⦃A7:Aq⦄ ⦃D3:(List Bool)⦄ ⦃r:Aq⦄:Jz n A7 D3=some r→CN n 175 [AV.agg [AV.sl 1 (List.map A0 A7.Al),AV.sl 1 (List.map A0 A7.Aj),AV.sl 1 (List.map A0 A7.Aw)],AV.sl 1 (List.map Av D3)] []=some (AV.agg [AV.sl 1 (List.map A0 r.Al),AV.sl 1 (List.map A0 r.Aj),AV.sl 1 (List.map A0 r.Aw)],[]):=by
 intro h;rcases n with _|n;cases h
 rw[Jz] at h
 refine Au Tryz.func175 (by rfl) rfl rfl (B4 rfl) ?_
 intro call hc;conv=>lhs;whnf
 revert h
 refine ca hc (fun _ h=>If h) ?_;intro y1
 refine br ?_ ?_
 refine ca hc (fun _ h=>Kb h) ?_;intro y4
 intro h;refine Ae h ?_;clear h;intro o15 ho15 h
 refine lq (σ:=(Int×(List A9))) (τ:=(List A9)) (ν:=Aq) 0 (fun(s6,s7) a9=>Ax 53 [(1,AV.sl 1 (List.map Av D3)),(2,AV.ptr 0 0),(4,AV.ptr 1 0),(5,AV.sl 3 (List.map Bo y4)),(6,AV.row 2 (List.length s7)),(7,iA s6)]) (fun(s6,s7) a9=>[Ob.var 66 [AV.sl 1 (List.map A0 A7.Al),AV.sl 1 (List.map A0 A7.Aj),AV.sl 1 (List.map A0 A7.Aw)],Ob.var 66 [AV.nils,AV.nils,AV.nils],Ob.row 99 3 (List.map Bo s7)]) (fun x29 a28=>Ax 53 [(2,AV.ptr 0 0),(4,AV.ptr 1 0),(6,AV.row 2 (List.length x29))]) (fun x29 a28=>[Ob.var 66 [AV.sl 1 (List.map A0 A7.Al),AV.sl 1 (List.map A0 A7.Aj),AV.sl 1 (List.map A0 A7.Aw)],Ob.var 66 [AV.nils,AV.nils,AV.nils],Ob.row 99 3 (List.map Bo x29)]) (fun v=>(AV.agg [AV.sl 1 (List.map A0 v.Al),AV.sl 1 (List.map A0 v.Aj),AV.sl 1 (List.map A0 v.Aw)],[])) (fun k s=>Do n D3 y4 k s.1 s.2) (fun s=>rfl) o15 n (0,([]:List A9)) (fun _=>0) ho15 ?_ ?_
 intro k8 ss a9 K10 cont11 hK12 hcont13 h hr14
 obtain⟨s6,s7⟩:=ss
 replace h:Do n D3 y4 (k8+1) s6 s7=some o15:=h
 rw[Do] at h
 conv=>lhs;whnf
 revert h
 refine br ?_ ?_
 refine ix ?_;intro x17
 refine ca hc (fun _ h=>Qk h) ?_;intro y18
 refine br ?_ ?_
 refine ix ?_;intro x21
 refine ca hc (fun _ h=>Qk h) ?_;intro y22
 refine br ?_ ?_
 refine ix ?_;intro x25
 refine ar (ap Bo (List.map Bo s7) s7 ([[iA x25.C2,iA x25.Aj,iA x25.Aw]]) ([x25]:List A9)) ?_
 exact fun h=>cq (hcont13 (IntKind.i64.wrap (s6+1),(s7++([x25]:List A9))) (fun _=>0) h)
 exact fun h=>cq (hcont13 (IntKind.i64.wrap (s6+1),s7) (fun _=>0) h)
 exact fun h=>cq (hcont13 (IntKind.i64.wrap (s6+1),s7) (fun _=>0) h)
 intro h;cases sj h
 exact kq (hr14 (fun _=>0))
 refine lrc ?_ ?_
 intro v e;subst e;cases sj h;rfl
 intro x29 a28 e;subst e
 dsimp only at h
 conv=>lhs;whnf
 revert h
 refine ca hc (fun _ h=>Kh h) ?_;intro y30
 refine cr hc (fun _ h=>Pz h) ?_;intro y32
 exact rz
 exact rz
theorem A71 {n:Nat} ⦃Ee:Bf⦄ ⦃B7:Ac⦄ ⦃r:Int⦄:Mh n Ee B7=some r→CN n 30 [AV.agg [AV.sl 4 (List.map Cj Ee.C5),AV.sl 1 (List.map A0 Ee.Cs.Al),AV.sl 1 (List.map A0 Ee.Cs.Aj),AV.sl 1 (List.map A0 Ee.Cs.Aw),AV.sl 1 (List.map A0 Ee.D8),AV.sl 1 (List.map A0 Ee.I8)],AV.agg [AV.sl 1 (List.map A0 (B7.pc)),AV.sl 1 (List.map Ag (B7.regs)),AV.sl 1 (List.map A0 (B7.mem)),AV.sl 1 (List.map Am (B7.buf))]] []=some (iA r,[]):=by
 intro h;rcases n with _|n;cases h
 rw[Mh] at h
 refine Au Tryz.func30 (by rfl) rfl rfl (B4 rfl) ?_
 intro call hc;conv=>lhs;whnf
 revert h
 intro h;refine Ae h ?_;clear h;intro o9 ho9 h
 refine lq (σ:=Int) (τ:=Unit) (ν:=Int) 0 (fun s1 a3=>Ax 21 [(2,AV.ptr 0 0),(3,AV.ptr 1 0),(5,iA s1)]) (fun s1 a3=>[Ob.var 68 [AV.sl 4 (List.map Cj Ee.C5),AV.sl 1 (List.map A0 Ee.Cs.Al),AV.sl 1 (List.map A0 Ee.Cs.Aj),AV.sl 1 (List.map A0 Ee.Cs.Aw),AV.sl 1 (List.map A0 Ee.D8),AV.sl 1 (List.map A0 Ee.I8)],Ob.var 90 [AV.sl 1 (List.map A0 (B7.pc)),AV.sl 1 (List.map Ag (B7.regs)),AV.sl 1 (List.map A0 (B7.mem)),AV.sl 1 (List.map Am (B7.buf))]]) (fun _ a15=>Ax 21 []) (fun _ a15=>[Ob.var 68 [AV.sl 4 (List.map Cj Ee.C5),AV.sl 1 (List.map A0 Ee.Cs.Al),AV.sl 1 (List.map A0 Ee.Cs.Aj),AV.sl 1 (List.map A0 Ee.Cs.Aw),AV.sl 1 (List.map A0 Ee.D8),AV.sl 1 (List.map A0 Ee.I8)],Ob.var 90 [AV.sl 1 (List.map A0 (B7.pc)),AV.sl 1 (List.map Ag (B7.regs)),AV.sl 1 (List.map A0 (B7.mem)),AV.sl 1 (List.map Am (B7.buf))]]) (fun v=>(iA v,[])) (fun k s=>H5 n Ee B7 k s) (fun s=>rfl) o9 n 0 (fun _=>0) ho9 ?_ ?_
 intro k2 s1 a3 K4 cont5 hK6 hcont7 h hr8
 replace h:H5 n Ee B7 (k2+1) s1=some o9:=h
 rw[H5] at h
 conv=>lhs;whnf
 revert h
 refine br ?_ ?_
 refine ix ?_;intro x11
 refine ca hc (fun _ h=>A7b h) ?_;intro y12
 refine br ?_ ?_
 intro h;cases sj h
 refine(hK6 _ _).trans ?_
 refine Eq.trans ?_ (Eq.symm (show _=some _ from hr8))
 conv=>lhs;whnf
 exact rq
 exact fun h=>cq (hcont7 (IntKind.i64.wrap (s1+1)) (fun _=>0) h)
 intro h;cases sj h
 exact kq (hr8 (fun _=>0))
 refine lrc ?_ ?_
 intro v e;subst e;cases sj h;rfl
 intro t a15 e;subst e
 dsimp only at h
 conv=>lhs;whnf
 revert h
 exact rz
theorem Aa0 {n:Nat} ⦃Aa:Ak⦄ ⦃Az:Int⦄ ⦃Co:Int⦄ ⦃Di:Int⦄ ⦃r:(Bf×Int)⦄:Ln n Aa Az Co Di=some r→CN n 13 [AV.agg [iA (Aa.mod),AV.sl 1 (List.map A0 (Aa.init)),AV.sl 1 (List.map A0 (Aa.regs)),AV.sl 1 (List.map Ah (Aa.code))],iA Az,iA Co,iA Di] []=some (AV.tup [AV.agg [AV.sl 4 (List.map Cj r.1.C5),AV.sl 1 (List.map A0 r.1.Cs.Al),AV.sl 1 (List.map A0 r.1.Cs.Aj),AV.sl 1 (List.map A0 r.1.Cs.Aw),AV.sl 1 (List.map A0 r.1.D8),AV.sl 1 (List.map A0 r.1.I8)],iA r.2],[]):=by
 intro h;rcases n with _|n;cases h
 rw[Ln] at h
 refine Au Tryz.func13 (by rfl) rfl rfl (B4 rfl) ?_
 intro call hc;conv=>lhs;whnf
 revert h
 refine ca hc (fun _ h=>A58 h) ?_;intro y1
 refine br ?_ ?_
 exact rz
 refine br ?_ ?_
 exact rz
 refine br ?_ ?_
 exact rz
 refine br ?_ ?_
 exact rz
 refine br ?_ ?_
 exact rz
 refine br ?_ ?_
 exact rz
 refine br ?_ ?_
 exact rz
 intro h;refine Ae h ?_;clear h;intro o22 ho22 h
 refine lq (σ:=(Int×(List Ac)×(List Int)×(List Int)×(List A9))) (τ:=((List Ac)×(List Int)×(List Int)×(List A9))) (ν:=(Bf×Int)) 0 (fun(s10,s11,s12,s13,s14) a16=>Ax 164 [(1,iA Az),(2,iA Co),(3,iA Di),(4,AV.ptr 0 0),(8,AV.ptr 1 0),(12,AV.ptr 3 0),(13,AV.row 7 (List.length s14)),(14,iA s10)]) (fun(s10,s11,s12,s13,s14) a16=>[Ob.var 61 [iA (Aa.mod),AV.sl 1 (List.map A0 (Aa.init)),AV.sl 1 (List.map A0 (Aa.regs)),AV.sl 1 (List.map Ah (Aa.code))],Ob.var 68 [AV.nils,AV.nils,AV.nils,AV.nils,AV.nils,AV.nils],Ob.var 90 [AV.sl 1 (List.map A0 (y1.1.pc)),AV.sl 1 (List.map Ag (y1.1.regs)),AV.sl 1 (List.map A0 (y1.1.mem)),AV.sl 1 (List.map Am (y1.1.buf))],Ob.var 68 [AV.row 4 (List.length s11),AV.nils,AV.nils,AV.nils,AV.row 5 (List.length s12),AV.row 6 (List.length s13)],Ob.row 90 4 (List.map Cj s11),Ob.row 3 1 (List.map A0 s12),Ob.row 3 1 (List.map A0 s13),Ob.row 99 3 (List.map Bo s14)]) (fun(x69,x70,x71,x72) a68=>Ax 164 [(8,AV.ptr 1 0),(12,AV.ptr 3 0),(13,AV.row 7 (List.length x72))]) (fun(x69,x70,x71,x72) a68=>[Ob.var 61 [iA (Aa.mod),AV.sl 1 (List.map A0 (Aa.init)),AV.sl 1 (List.map A0 (Aa.regs)),AV.sl 1 (List.map Ah (Aa.code))],Ob.var 68 [AV.nils,AV.nils,AV.nils,AV.nils,AV.nils,AV.nils],Ob.var 90 [AV.sl 1 (List.map A0 (y1.1.pc)),AV.sl 1 (List.map Ag (y1.1.regs)),AV.sl 1 (List.map A0 (y1.1.mem)),AV.sl 1 (List.map Am (y1.1.buf))],Ob.var 68 [AV.row 4 (List.length x69),AV.nils,AV.nils,AV.nils,AV.row 5 (List.length x70),AV.row 6 (List.length x71)],Ob.row 90 4 (List.map Cj x69),Ob.row 3 1 (List.map A0 x70),Ob.row 3 1 (List.map A0 x71),Ob.row 99 3 (List.map Bo x72)]) (fun v=>(AV.tup [AV.agg [AV.sl 4 (List.map Cj v.1.C5),AV.sl 1 (List.map A0 v.1.Cs.Al),AV.sl 1 (List.map A0 v.1.Cs.Aj),AV.sl 1 (List.map A0 v.1.Cs.Aw),AV.sl 1 (List.map A0 v.1.D8),AV.sl 1 (List.map A0 v.1.I8)],iA v.2],[])) (fun k s=>Gp n Aa Az Co Di k s.1 s.2.1 s.2.2.1 s.2.2.2.1 s.2.2.2.2) (fun s=>rfl) o22 n (0,([y1.1]:List Ac),([(-1)]:List Int),([(-1)]:List Int),([]:List A9)) (fun _=>0) ho22 ?_ ?_
 intro k15 ss a16 K17 cont18 hK19 hcont20 h hr21
 obtain⟨s10,s11,s12,s13,s14⟩:=ss
 replace h:Gp n Aa Az Co Di (k15+1) s10 s11 s12 s13 s14=some o22:=h
 rw[Gp] at h
 conv=>lhs;whnf
 revert h
 refine br ?_ ?_
 refine ix ?_;intro x24
 refine ca hc (fun _ h=>Va h) ?_;intro y25
 intro h;refine Ae h ?_;clear h;intro o39 ho39 h
 refine lq (σ:=(Int×(List Ac)×(List Int)×(List Int)×(List A9))) (τ:=((List Ac)×(List Int)×(List Int)×(List A9))) (ν:=(Bf×Int)) 2 (fun(s27,s28,s29,s30,s31) a33=>Ax 164 [(1,iA Az),(2,iA Co),(3,iA Di),(4,AV.ptr 0 0),(8,AV.ptr 1 0),(12,AV.ptr 3 0),(13,AV.row 7 (List.length s31)),(14,iA s10),(15,AV.sl 1 (List.map A0 y25)),(16,iA s27)]) (fun(s27,s28,s29,s30,s31) a33=>[Ob.var 61 [iA (Aa.mod),AV.sl 1 (List.map A0 (Aa.init)),AV.sl 1 (List.map A0 (Aa.regs)),AV.sl 1 (List.map Ah (Aa.code))],Ob.var 68 [AV.nils,AV.nils,AV.nils,AV.nils,AV.nils,AV.nils],Ob.var 90 [AV.sl 1 (List.map A0 (y1.1.pc)),AV.sl 1 (List.map Ag (y1.1.regs)),AV.sl 1 (List.map A0 (y1.1.mem)),AV.sl 1 (List.map Am (y1.1.buf))],Ob.var 68 [AV.row 4 (List.length s28),AV.nils,AV.nils,AV.nils,AV.row 5 (List.length s29),AV.row 6 (List.length s30)],Ob.row 90 4 (List.map Cj s28),Ob.row 3 1 (List.map A0 s29),Ob.row 3 1 (List.map A0 s30),Ob.row 99 3 (List.map Bo s31)]) (fun(x63,x64,x65,x66) a62=>Ax 164 [(1,iA Az),(2,iA Co),(3,iA Di),(4,AV.ptr 0 0),(8,AV.ptr 1 0),(12,AV.ptr 3 0),(13,AV.row 7 (List.length x66)),(14,iA s10)]) (fun(x63,x64,x65,x66) a62=>[Ob.var 61 [iA (Aa.mod),AV.sl 1 (List.map A0 (Aa.init)),AV.sl 1 (List.map A0 (Aa.regs)),AV.sl 1 (List.map Ah (Aa.code))],Ob.var 68 [AV.nils,AV.nils,AV.nils,AV.nils,AV.nils,AV.nils],Ob.var 90 [AV.sl 1 (List.map A0 (y1.1.pc)),AV.sl 1 (List.map Ag (y1.1.regs)),AV.sl 1 (List.map A0 (y1.1.mem)),AV.sl 1 (List.map Am (y1.1.buf))],Ob.var 68 [AV.row 4 (List.length x63),AV.nils,AV.nils,AV.nils,AV.row 5 (List.length x64),AV.row 6 (List.length x65)],Ob.row 90 4 (List.map Cj x63),Ob.row 3 1 (List.map A0 x64),Ob.row 3 1 (List.map A0 x65),Ob.row 99 3 (List.map Bo x66)]) (fun v=>(AV.tup [AV.agg [AV.sl 4 (List.map Cj v.1.C5),AV.sl 1 (List.map A0 v.1.Cs.Al),AV.sl 1 (List.map A0 v.1.Cs.Aj),AV.sl 1 (List.map A0 v.1.Cs.Aw),AV.sl 1 (List.map A0 v.1.D8),AV.sl 1 (List.map A0 v.1.I8)],iA v.2],[])) (fun k s=>G2 n Aa Az Co Di s10 y25 k s.1 s.2.1 s.2.2.1 s.2.2.2.1 s.2.2.2.2) (fun s=>rfl) o39 n (0,s11,s12,s13,s14) (fun _=>0) ho39 ?_ ?_
 intro k32 ss a33 K34 cont35 hK36 hcont37 h hr38
 obtain⟨s27,s28,s29,s30,s31⟩:=ss
 replace h:G2 n Aa Az Co Di s10 y25 (k32+1) s27 s28 s29 s30 s31=some o39:=h
 rw[G2] at h
 conv=>lhs;whnf
 revert h
 refine br ?_ ?_
 refine ix ?_;intro x41
 refine ix ?_;intro x42
 refine ca hc (fun _ h=>A83 h) ?_;intro y43
 refine cr hc (fun y45 h=>(show CN n 30 [AV.agg [AV.sl 4 (List.map Cj s28),AV.sl 1 [],AV.sl 1 [],AV.sl 1 [],AV.sl 1 (List.map A0 s29),AV.sl 1 (List.map A0 s30)],AV.agg [AV.sl 1 (List.map A0 (y43.1.pc)),AV.sl 1 (List.map Ag (y43.1.regs)),AV.sl 1 (List.map A0 (y43.1.mem)),AV.sl 1 (List.map Am (y43.1.buf))]] []=some (iA y45,[]) from A71 (r:=y45) h)) ?_;intro y45
 refine br ?_ ?_
 refine br ?_ ?_
 intro h;cases sj h
 refine(hK36 _ _).trans ?_
 conv=>lhs;whnf
 refine(hK19 _ _).trans ?_
 refine Eq.trans ?_ (Eq.symm (show _=some _ from hr38))
 conv=>lhs;whnf
 exact rq
 refine ar (ap Cj (List.map Cj s28) s28 ([[AV.sl 1 (List.map A0 (y43.1.pc)),AV.sl 1 (List.map Ag (y43.1.regs)),AV.sl 1 (List.map A0 (y43.1.mem)),AV.sl 1 (List.map Am (y43.1.buf))]]) ([y43.1]:List Ac)) ?_
 refine ar (ap A0 (List.map A0 s29) s29 ([[iA s10]]) ([s10]:List Int)) ?_
 refine ix ?_;intro x53
 refine ar (ap A0 (List.map A0 s30) s30 ([[iA x53]]) ([x53]:List Int)) ?_
 refine ix ?_;intro x56
 refine ar (ap Bo (List.map Bo s31) s31 ([[iA s10,iA x56,iA (((s28.length:Nat):Int))]]) ([(⟨s10,x56,((s28.length:Nat):Int)⟩:A9)]:List A9)) ?_
 exact fun h=>cq (hcont37 (IntKind.i64.wrap (s27+1),(s28++([y43.1]:List Ac)),(s29++([s10]:List Int)),(s30++([x53]:List Int)),(s31++([(⟨s10,x56,((s28.length:Nat):Int)⟩:A9)]:List A9))) (fun _=>0) h)
 refine ix ?_;intro x59
 refine ar (ap Bo (List.map Bo s31) s31 ([[iA s10,iA x59,iA y45]]) ([(⟨s10,x59,y45⟩:A9)]:List A9)) ?_
 exact fun h=>cq (hcont37 (IntKind.i64.wrap (s27+1),s28,s29,s30,(s31++([(⟨s10,x59,y45⟩:A9)]:List A9))) (fun _=>0) h)
 intro h;cases sj h
 exact kq (hr38 (fun _=>0))
 refine lrc ?_ ?_
 intro v e;subst e;cases sj h;exact hr21
 intro t a62 e;subst e
 obtain⟨x63,x64,x65,x66⟩:=t
 dsimp only at h
 conv=>lhs;whnf
 revert h
 exact fun h=>cq (hcont20 (IntKind.i64.wrap (s10+1),x63,x64,x65,x66) (fun _=>0) h)
 intro h;cases sj h
 exact kq (hr21 (fun _=>0))
 refine lrc ?_ ?_
 intro v e;subst e;cases sj h;rfl
 intro t a68 e;subst e
 obtain⟨x69,x70,x71,x72⟩:=t
 dsimp only at h
 conv=>lhs;whnf
 revert h
 refine cr hc (fun _ h=>Pz h) ?_;intro y73
 intro h;cases sj h
 try simp only[ls]
 exact fq (y:=some (AV.tup [AV.agg [AV.sl 4 (List.take (List.length x69) (List.map Cj x69)),AV.sl 1 (List.map A0 y73.1.Al),AV.sl 1 (List.map A0 y73.1.Aj),AV.sl 1 (List.map A0 y73.1.Aw),AV.sl 1 (List.take (List.length x70) (List.map A0 x70)),AV.sl 1 (List.take (List.length x71) (List.map A0 x71))],iA (0)],[]))
theorem A3z {n:Nat} ⦃Aa:Ak⦄ ⦃Ba:Bf⦄ ⦃B1:Int⦄ ⦃Bd:Int⦄ ⦃r:(List Int)⦄:Lc n Aa Ba B1 Bd=some r→CN n 32 [AV.agg [iA (Aa.mod),AV.sl 1 (List.map A0 (Aa.init)),AV.sl 1 (List.map A0 (Aa.regs)),AV.sl 1 (List.map Ah (Aa.code))],AV.agg [AV.sl 4 (List.map Cj Ba.C5),AV.sl 1 (List.map A0 Ba.Cs.Al),AV.sl 1 (List.map A0 Ba.Cs.Aj),AV.sl 1 (List.map A0 Ba.Cs.Aw),AV.sl 1 (List.map A0 Ba.D8),AV.sl 1 (List.map A0 Ba.I8)],iA B1,iA Bd] []=some (AV.sl 1 (List.map A0 r),[]):=by
 intro h;rcases n with _|n;cases h
 rw[Lc] at h
 refine Au Tryz.func32 (by rfl) rfl rfl (B4 rfl) ?_
 intro call hc;conv=>lhs;whnf
 revert h
 intro h;refine Ae h ?_;clear h;intro o10 ho10 h
 refine lq (σ:=(Int×(List Int))) (τ:=(List Int)) (ν:=(List Int)) 0 (fun(s1,s2) a4=>Ax 32 [(2,iA B1),(3,iA Bd),(4,AV.ptr 0 0),(5,AV.ptr 1 0),(9,AV.row 2 (List.length s2)),(10,iA s1)]) (fun(s1,s2) a4=>[Ob.var 61 [iA (Aa.mod),AV.sl 1 (List.map A0 (Aa.init)),AV.sl 1 (List.map A0 (Aa.regs)),AV.sl 1 (List.map Ah (Aa.code))],Ob.var 68 [AV.sl 4 (List.map Cj Ba.C5),AV.sl 1 (List.map A0 Ba.Cs.Al),AV.sl 1 (List.map A0 Ba.Cs.Aj),AV.sl 1 (List.map A0 Ba.Cs.Aw),AV.sl 1 (List.map A0 Ba.D8),AV.sl 1 (List.map A0 Ba.I8)],Ob.row 3 1 (List.map A0 s2)]) (fun x19 a18=>Ax 32 [(9,AV.row 2 (List.length x19))]) (fun x19 a18=>[Ob.var 61 [iA (Aa.mod),AV.sl 1 (List.map A0 (Aa.init)),AV.sl 1 (List.map A0 (Aa.regs)),AV.sl 1 (List.map Ah (Aa.code))],Ob.var 68 [AV.sl 4 (List.map Cj Ba.C5),AV.sl 1 (List.map A0 Ba.Cs.Al),AV.sl 1 (List.map A0 Ba.Cs.Aj),AV.sl 1 (List.map A0 Ba.Cs.Aw),AV.sl 1 (List.map A0 Ba.D8),AV.sl 1 (List.map A0 Ba.I8)],Ob.row 3 1 (List.map A0 x19)]) (fun v=>(AV.sl 1 (List.map A0 v),[])) (fun k s=>Ig n Aa Ba B1 Bd k s.1 s.2) (fun s=>rfl) o10 n (0,([]:List Int)) (fun _=>0) ho10 ?_ ?_
 intro k3 ss a4 K5 cont6 hK7 hcont8 h hr9
 obtain⟨s1,s2⟩:=ss
 replace h:Ig n Aa Ba B1 Bd (k3+1) s1 s2=some o10:=h
 rw[Ig] at h
 conv=>lhs;whnf
 revert h
 refine br ?_ ?_
 refine ix ?_;intro x12
 refine ca hc (fun _ h=>A7c h) ?_;intro y13
 refine br ?_ ?_
 refine ar (ap A0 (List.map A0 s2) s2 ([[iA s1]]) ([s1]:List Int)) ?_
 exact fun h=>cq (hcont8 (IntKind.i64.wrap (s1+1),(s2++([s1]:List Int))) (fun _=>0) h)
 exact fun h=>cq (hcont8 (IntKind.i64.wrap (s1+1),s2) (fun _=>0) h)
 intro h;cases sj h
 exact kq (hr9 (fun _=>0))
 refine lrc ?_ ?_
 intro v e;subst e;cases sj h;rfl
 intro x19 a18 e;subst e
 dsimp only at h
 conv=>lhs;whnf
 revert h
 intro h;obtain rfl:=sj h
 try simp only[ls]
 exact fq (y:=some (AV.sl 1 (List.take (List.length x19) (List.map A0 x19)),[]))
theorem A0t {n:Nat} ⦃Aa:Ak⦄ ⦃Ba:Bf⦄ ⦃B1:Int⦄ ⦃Bd:Int⦄ ⦃r:(List (List Bool))⦄:Jd n Aa Ba B1 Bd=some r→CN n 34 [AV.agg [iA (Aa.mod),AV.sl 1 (List.map A0 (Aa.init)),AV.sl 1 (List.map A0 (Aa.regs)),AV.sl 1 (List.map Ah (Aa.code))],AV.agg [AV.sl 4 (List.map Cj Ba.C5),AV.sl 1 (List.map A0 Ba.Cs.Al),AV.sl 1 (List.map A0 Ba.Cs.Aj),AV.sl 1 (List.map A0 Ba.Cs.Aw),AV.sl 1 (List.map A0 Ba.D8),AV.sl 1 (List.map A0 Ba.I8)],iA B1,iA Bd] []=some (AV.sl 1 (List.map B6 r),[]):=by
 intro h;rcases n with _|n;cases h
 rw[Jd] at h
 refine Au Tryz.func34 (by rfl) rfl rfl (B4 rfl) ?_
 intro call hc;conv=>lhs;whnf
 revert h
 intro h;refine Ae h ?_;clear h;intro o10 ho10 h
 refine lq (σ:=(Int×(List (List Bool)))) (τ:=(List (List Bool))) (ν:=(List (List Bool))) 0 (fun(s1,s2) a4=>Ax 45 [(2,iA B1),(3,iA Bd),(4,AV.ptr 0 0),(5,AV.ptr 1 0),(9,AV.row 2 (List.length s2)),(10,iA s1)]) (fun(s1,s2) a4=>[Ob.var 61 [iA (Aa.mod),AV.sl 1 (List.map A0 (Aa.init)),AV.sl 1 (List.map A0 (Aa.regs)),AV.sl 1 (List.map Ah (Aa.code))],Ob.var 68 [AV.sl 4 (List.map Cj Ba.C5),AV.sl 1 (List.map A0 Ba.Cs.Al),AV.sl 1 (List.map A0 Ba.Cs.Aj),AV.sl 1 (List.map A0 Ba.Cs.Aw),AV.sl 1 (List.map A0 Ba.D8),AV.sl 1 (List.map A0 Ba.I8)],Ob.row 126 1 (List.map B6 s2)]) (fun x36 a35=>Ax 45 [(9,AV.row 2 (List.length x36))]) (fun x36 a35=>[Ob.var 61 [iA (Aa.mod),AV.sl 1 (List.map A0 (Aa.init)),AV.sl 1 (List.map A0 (Aa.regs)),AV.sl 1 (List.map Ah (Aa.code))],Ob.var 68 [AV.sl 4 (List.map Cj Ba.C5),AV.sl 1 (List.map A0 Ba.Cs.Al),AV.sl 1 (List.map A0 Ba.Cs.Aj),AV.sl 1 (List.map A0 Ba.Cs.Aw),AV.sl 1 (List.map A0 Ba.D8),AV.sl 1 (List.map A0 Ba.I8)],Ob.row 126 1 (List.map B6 x36)]) (fun v=>(AV.sl 1 (List.map B6 v),[])) (fun k s=>Ir n Aa Ba B1 Bd k s.1 s.2) (fun s=>rfl) o10 n (0,([]:List (List Bool))) (fun _=>0) ho10 ?_ ?_
 intro k3 ss a4 K5 cont6 hK7 hcont8 h hr9
 obtain⟨s1,s2⟩:=ss
 replace h:Ir n Aa Ba B1 Bd (k3+1) s1 s2=some o10:=h
 rw[Ir] at h
 conv=>lhs;whnf
 revert h
 refine br ?_ ?_
 intro h;refine Ae h ?_;clear h;intro o21 ho21 h
 refine lq (σ:=(Int×(List Bool))) (τ:=(List Bool)) (ν:=(List (List Bool))) 2 (fun(s12,s13) a15=>Ax 45 [(2,iA B1),(3,iA Bd),(4,AV.ptr 0 0),(5,AV.ptr 1 0),(9,AV.row 2 (List.length s2)),(10,iA s1),(11,AV.row 3 (List.length s13)),(12,iA s12)]) (fun(s12,s13) a15=>[Ob.var 61 [iA (Aa.mod),AV.sl 1 (List.map A0 (Aa.init)),AV.sl 1 (List.map A0 (Aa.regs)),AV.sl 1 (List.map Ah (Aa.code))],Ob.var 68 [AV.sl 4 (List.map Cj Ba.C5),AV.sl 1 (List.map A0 Ba.Cs.Al),AV.sl 1 (List.map A0 Ba.Cs.Aj),AV.sl 1 (List.map A0 Ba.Cs.Aw),AV.sl 1 (List.map A0 Ba.D8),AV.sl 1 (List.map A0 Ba.I8)],Ob.row 126 1 (List.map B6 s2),Ob.row 4 1 (List.map Av s13)]) (fun x31 a30=>Ax 45 [(2,iA B1),(3,iA Bd),(4,AV.ptr 0 0),(5,AV.ptr 1 0),(9,AV.row 2 (List.length s2)),(10,iA s1),(11,AV.row 3 (List.length x31))]) (fun x31 a30=>[Ob.var 61 [iA (Aa.mod),AV.sl 1 (List.map A0 (Aa.init)),AV.sl 1 (List.map A0 (Aa.regs)),AV.sl 1 (List.map Ah (Aa.code))],Ob.var 68 [AV.sl 4 (List.map Cj Ba.C5),AV.sl 1 (List.map A0 Ba.Cs.Al),AV.sl 1 (List.map A0 Ba.Cs.Aj),AV.sl 1 (List.map A0 Ba.Cs.Aw),AV.sl 1 (List.map A0 Ba.D8),AV.sl 1 (List.map A0 Ba.I8)],Ob.row 126 1 (List.map B6 s2),Ob.row 4 1 (List.map Av x31)]) (fun v=>(AV.sl 1 (List.map B6 v),[])) (fun k s=>It n Aa Ba B1 Bd s1 k s.1 s.2) (fun s=>rfl) o21 n (0,([]:List Bool)) (fun _=>0) ho21 ?_ ?_
 intro k14 ss a15 K16 cont17 hK18 hcont19 h hr20
 obtain⟨s12,s13⟩:=ss
 replace h:It n Aa Ba B1 Bd s1 (k14+1) s12 s13=some o21:=h
 rw[It] at h
 conv=>lhs;whnf
 revert h
 refine ca hc (fun _ h=>Lr h) ?_;intro y22
 refine br ?_ ?_
 refine ix ?_;intro x25
 refine ca hc (fun _ h=>O2 h) ?_;intro y26
 refine ar (ap Av (List.map Av s13) s13 ([[bA y26]]) ([y26]:List Bool)) ?_
 exact fun h=>cq (hcont19 (IntKind.i64.wrap (s12+1),(s13++([y26]:List Bool))) (fun _=>0) h)
 intro h;cases sj h
 exact kq (hr20 (fun _=>0))
 refine lrc ?_ ?_
 intro v e;subst e;cases sj h;exact hr9
 intro x31 a30 e;subst e
 dsimp only at h
 conv=>lhs;whnf
 revert h
 refine ar (ap B6 (List.map B6 s2) s2 ([[AV.sl 1 (List.map Av x31)]]) ([x31]:List (List Bool))) ?_
 exact fun h=>cq (hcont8 (IntKind.i64.wrap (s1+1),(s2++([x31]:List (List Bool)))) (fun _=>0) h)
 intro h;cases sj h
 exact kq (hr9 (fun _=>0))
 refine lrc ?_ ?_
 intro v e;subst e;cases sj h;rfl
 intro x36 a35 e;subst e
 dsimp only at h
 conv=>lhs;whnf
 revert h
 intro h;obtain rfl:=sj h
 try simp only[ls]
 exact fq (y:=some (AV.sl 1 (List.take (List.length x36) (List.map B6 x36)),[]))
theorem Yp {n:Nat} ⦃Bg:(List Int)⦄ ⦃Hh:Int⦄ ⦃r:Bool⦄:Lm n Bg Hh=some r→CN n 174 [AV.sl 1 (List.map A0 Bg),iA Hh] []=some (bA r,[]):=by
 intro h;rcases n with _|n;cases h
 rw[Lm] at h
 refine Au Tryz.func174 (by rfl) rfl rfl (B4 rfl) ?_
 intro call hc;conv=>lhs;whnf
 revert h
 intro h;refine Ae h ?_;clear h;intro o9 ho9 h
 refine lq (σ:=Int) (τ:=Unit) (ν:=Bool) 0 (fun s1 a3=>Ax 18 [(0,AV.sl 1 (List.map A0 Bg)),(1,iA Hh),(5,iA s1)]) (fun s1 a3=>[]) (fun _ a13=>Ax 18 []) (fun _ a13=>[]) (fun v=>(bA v,[])) (fun k s=>Gw n Bg Hh k s) (fun s=>rfl) o9 n 0 (fun _=>0) ho9 ?_ ?_
 intro k2 s1 a3 K4 cont5 hK6 hcont7 h hr8
 replace h:Gw n Bg Hh (k2+1) s1=some o9:=h
 rw[Gw] at h
 conv=>lhs;whnf
 revert h
 refine br ?_ ?_
 refine ix ?_;intro x11
 refine br ?_ ?_
 intro h;cases sj h
 refine(hK6 _ _).trans ?_
 refine Eq.trans ?_ (Eq.symm (show _=some _ from hr8))
 conv=>lhs;whnf
 exact rq
 exact fun h=>cq (hcont7 (IntKind.i64.wrap (s1+1)) (fun _=>0) h)
 intro h;cases sj h
 exact kq (hr8 (fun _=>0))
 refine lrc ?_ ?_
 intro v e;subst e;cases sj h;rfl
 intro t a13 e;subst e
 dsimp only at h
 conv=>lhs;whnf
 revert h
 exact rz
theorem P5 {n:Nat} ⦃A7:Aq⦄ ⦃Ch:(List Int)⦄ ⦃r:Bool⦄:Hd n A7 Ch=some r→CN n 139 [AV.agg [AV.sl 1 (List.map A0 A7.Al),AV.sl 1 (List.map A0 A7.Aj),AV.sl 1 (List.map A0 A7.Aw)],AV.sl 1 (List.map A0 Ch)] []=some (bA r,[]):=by
 intro h;rcases n with _|n;cases h
 rw[Hd] at h
 refine Au Tryz.func139 (by rfl) rfl rfl (B4 rfl) ?_
 intro call hc;conv=>lhs;whnf
 revert h
 refine ca hc (fun _ h=>Kb h) ?_;intro y1
 intro h;refine Ae h ?_;clear h;intro o11 ho11 h
 refine lq (σ:=Int) (τ:=Unit) (ν:=Bool) 0 (fun s3 a5=>Ax 31 [(1,AV.sl 1 (List.map A0 Ch)),(5,AV.sl 3 (List.map Bo y1)),(6,iA s3)]) (fun s3 a5=>[Ob.var 66 [AV.sl 1 (List.map A0 A7.Al),AV.sl 1 (List.map A0 A7.Aj),AV.sl 1 (List.map A0 A7.Aw)]]) (fun _ a21=>Ax 31 []) (fun _ a21=>[Ob.var 66 [AV.sl 1 (List.map A0 A7.Al),AV.sl 1 (List.map A0 A7.Aj),AV.sl 1 (List.map A0 A7.Aw)]]) (fun v=>(bA v,[])) (fun k s=>Dz n Ch y1 k s) (fun s=>rfl) o11 n 0 (fun _=>0) ho11 ?_ ?_
 intro k4 s3 a5 K6 cont7 hK8 hcont9 h hr10
 replace h:Dz n Ch y1 (k4+1) s3=some o11:=h
 rw[Dz] at h
 conv=>lhs;whnf
 revert h
 refine br ?_ ?_
 refine ix ?_;intro x13
 refine ca hc (fun _ h=>Yp h) ?_;intro y14
 refine br ?_ ?_
 refine ix ?_;intro x17
 refine ca hc (fun _ h=>Yp h) ?_;intro y18
 refine br ?_ ?_
 intro h;cases sj h
 refine(hK8 _ _).trans ?_
 refine Eq.trans ?_ (Eq.symm (show _=some _ from hr10))
 conv=>lhs;whnf
 exact rq
 exact fun h=>cq (hcont9 (IntKind.i64.wrap (s3+1)) (fun _=>0) h)
 exact fun h=>cq (hcont9 (IntKind.i64.wrap (s3+1)) (fun _=>0) h)
 intro h;cases sj h
 exact kq (hr10 (fun _=>0))
 refine lrc ?_ ?_
 intro v e;subst e;cases sj h;rfl
 intro t a21 e;subst e
 dsimp only at h
 conv=>lhs;whnf
 revert h
 exact rz
theorem Pp {n:Nat} ⦃A7:Aq⦄ ⦃r:(List Int)⦄:I0 n A7=some r→CN n 135 [AV.agg [AV.sl 1 (List.map A0 A7.Al),AV.sl 1 (List.map A0 A7.Aj),AV.sl 1 (List.map A0 A7.Aw)]] []=some (AV.sl 1 (List.map A0 r),[]):=by
 intro h;rcases n with _|n;cases h
 rw[I0] at h
 refine Au Tryz.func135 (by rfl) rfl rfl (B4 rfl) ?_
 intro call hc;conv=>lhs;whnf
 revert h
 refine ca hc (fun _ h=>Kh h) ?_;intro y1
 intro h;refine Ae h ?_;clear h;intro o12 ho12 h
 refine lq (σ:=(Int×(List (List Bool)))) (τ:=(List (List Bool))) (ν:=(List Int)) 0 (fun(s3,s4) a6=>Ax 69 [(1,AV.ptr 0 0),(3,iA y1),(4,AV.row 1 (List.length s4)),(5,iA s3)]) (fun(s3,s4) a6=>[Ob.var 66 [AV.sl 1 (List.map A0 A7.Al),AV.sl 1 (List.map A0 A7.Aj),AV.sl 1 (List.map A0 A7.Aw)],Ob.row 126 1 (List.map B6 s4)]) (fun x19 a18=>Ax 69 [(3,iA y1),(4,AV.row 1 (List.length x19))]) (fun x19 a18=>[Ob.var 66 [AV.sl 1 (List.map A0 A7.Al),AV.sl 1 (List.map A0 A7.Aj),AV.sl 1 (List.map A0 A7.Aw)],Ob.row 126 1 (List.map B6 x19)]) (fun v=>(AV.sl 1 (List.map A0 v),[])) (fun k s=>Fl n A7 y1 k s.1 s.2) (fun s=>rfl) o12 n (0,([]:List (List Bool))) (fun _=>0) ho12 ?_ ?_
 intro k5 ss a6 K7 cont8 hK9 hcont10 h hr11
 obtain⟨s3,s4⟩:=ss
 replace h:Fl n A7 y1 (k5+1) s3 s4=some o12:=h
 rw[Fl] at h
 conv=>lhs;whnf
 revert h
 refine br ?_ ?_
 refine cr hc (fun y14 h=>(show CN n 172 [AV.agg [AV.sl 1 (List.map A0 A7.Al),AV.sl 1 (List.map A0 A7.Aj),AV.sl 1 (List.map A0 A7.Aw)],AV.sl 1 [[iA s3]]] []=some (AV.sl 1 (List.map Av y14),[]) from A3s (r:=y14) h)) ?_;intro y14
 refine ar (ap B6 (List.map B6 s4) s4 ([[AV.sl 1 (List.map Av y14)]]) ([y14]:List (List Bool))) ?_
 exact fun h=>cq (hcont10 (IntKind.i64.wrap (s3+1),(s4++([y14]:List (List Bool)))) (fun _=>0) h)
 intro h;cases sj h
 exact kq (hr11 (fun _=>0))
 refine lrc ?_ ?_
 intro v e;subst e;cases sj h;rfl
 intro x19 a18 e;subst e
 dsimp only at h
 conv=>lhs;whnf
 revert h
 intro h;refine Ae h ?_;clear h;intro o30 ho30 h
 refine lq (σ:=(Int×Int×(List Int))) (τ:=(List Int)) (ν:=(List Int)) 2 (fun(s20,s21,s22) a24=>Ax 69 [(3,iA y1),(4,AV.row 1 (List.length x19)),(6,AV.row 2 (List.length s22)),(7,iA s20),(8,iA s21)]) (fun(s20,s21,s22) a24=>[Ob.var 66 [AV.sl 1 (List.map A0 A7.Al),AV.sl 1 (List.map A0 A7.Aj),AV.sl 1 (List.map A0 A7.Aw)],Ob.row 126 1 (List.map B6 x19),Ob.row 3 1 (List.map A0 s22)]) (fun x60 a59=>Ax 69 [(6,AV.row 2 (List.length x60))]) (fun x60 a59=>[Ob.var 66 [AV.sl 1 (List.map A0 A7.Al),AV.sl 1 (List.map A0 A7.Aj),AV.sl 1 (List.map A0 A7.Aw)],Ob.row 126 1 (List.map B6 x19),Ob.row 3 1 (List.map A0 x60)]) (fun v=>(AV.sl 1 (List.map A0 v),[])) (fun k s=>Ef n y1 x19 k s.1 s.2.1 s.2.2) (fun s=>rfl) o30 n (0,0,([]:List Int)) (fun _=>0) ho30 ?_ ?_
 intro k23 ss a24 K25 cont26 hK27 hcont28 h hr29
 obtain⟨s20,s21,s22⟩:=ss
 replace h:Ef n y1 x19 (k23+1) s20 s21 s22=some o30:=h
 rw[Ef] at h
 conv=>lhs;whnf
 revert h
 refine br ?_ ?_
 intro h;refine Ae h ?_;clear h;intro o41 ho41 h
 refine lq (σ:=(Int×Int)) (τ:=Int) (ν:=(List Int)) 4 (fun(s32,s33) a35=>Ax 69 [(3,iA y1),(4,AV.row 1 (List.length x19)),(6,AV.row 2 (List.length s22)),(7,iA s20),(8,iA s21),(9,iA s32),(10,iA s33)]) (fun(s32,s33) a35=>[Ob.var 66 [AV.sl 1 (List.map A0 A7.Al),AV.sl 1 (List.map A0 A7.Aj),AV.sl 1 (List.map A0 A7.Aw)],Ob.row 126 1 (List.map B6 x19),Ob.row 3 1 (List.map A0 s22)]) (fun x52 a51=>Ax 69 [(3,iA y1),(4,AV.row 1 (List.length x19)),(6,AV.row 2 (List.length s22)),(7,iA s20),(8,iA s21),(9,iA x52)]) (fun x52 a51=>[Ob.var 66 [AV.sl 1 (List.map A0 A7.Al),AV.sl 1 (List.map A0 A7.Aj),AV.sl 1 (List.map A0 A7.Aw)],Ob.row 126 1 (List.map B6 x19),Ob.row 3 1 (List.map A0 s22)]) (fun v=>(AV.sl 1 (List.map A0 v),[])) (fun k s=>Dl n x19 s21 s22 k s.1 s.2) (fun s=>rfl) o41 n ((-1),0) (fun _=>0) ho41 ?_ ?_
 intro k34 ss a35 K36 cont37 hK38 hcont39 h hr40
 obtain⟨s32,s33⟩:=ss
 replace h:Dl n x19 s21 s22 (k34+1) s32 s33=some o41:=h
 rw[Dl] at h
 conv=>lhs;whnf
 revert h
 refine br ?_ ?_
 refine br ?_ ?_
 refine ix ?_;intro x44
 refine ix ?_;intro x45
 refine br ?_ ?_
 refine ix ?_;intro x47
 refine ix ?_;intro x48
 refine br ?_ ?_
 refine ix ?_;intro x50
 exact fun h=>cq (hcont39 (x50,IntKind.i64.wrap (s33+1)) (fun _=>0) h)
 exact fun h=>cq (hcont39 (s32,IntKind.i64.wrap (s33+1)) (fun _=>0) h)
 exact fun h=>cq (hcont39 (s32,IntKind.i64.wrap (s33+1)) (fun _=>0) h)
 exact fun h=>cq (hcont39 (s32,IntKind.i64.wrap (s33+1)) (fun _=>0) h)
 intro h;cases sj h
 exact kq (hr40 (fun _=>0))
 refine lrc ?_ ?_
 intro v e;subst e;cases sj h;exact hr29
 intro x52 a51 e;subst e
 dsimp only at h
 conv=>lhs;whnf
 revert h
 refine br ?_ ?_
 refine ar (ap A0 (List.map A0 s22) s22 ([[iA s20]]) ([s20]:List Int)) ?_
 exact fun h=>cq (hcont28 (IntKind.i64.wrap (s20+1),IntKind.i64.wrap (s21+1),(s22++([s20]:List Int))) (fun _=>0) h)
 refine ar (ap A0 (List.map A0 s22) s22 ([[iA x52]]) ([x52]:List Int)) ?_
 exact fun h=>cq (hcont28 (s20,IntKind.i64.wrap (s21+1),(s22++([x52]:List Int))) (fun _=>0) h)
 intro h;cases sj h
 exact kq (hr29 (fun _=>0))
 refine lrc ?_ ?_
 intro v e;subst e;cases sj h;rfl
 intro x60 a59 e;subst e
 dsimp only at h
 conv=>lhs;whnf
 revert h
 intro h;obtain rfl:=sj h
 try simp only[ls]
 exact fq (y:=some (AV.sl 1 (List.take (List.length x60) (List.map A0 x60)),[]))
theorem U6 {n:Nat} ⦃Bt:(List Int)⦄ ⦃C9:(List Bool)⦄ ⦃r:(List (List Int))⦄:Ih n Bt C9=some r→CN n 136 [AV.sl 1 (List.map A0 Bt),AV.own 0 0 (List.length C9)] [Ob.arr 1 (List.map Av C9)]=some (AV.sl 1 (List.map Ag r),[Ob.arr 1 (List.map Av C9)]):=by
 intro h;rcases n with _|n;cases h
 rw[Ih] at h
 refine Au Tryz.func136 (by rfl) rfl rfl (B4 rfl) ?_
 intro call hc;conv=>lhs;whnf
 revert h
 intro h;refine Ae h ?_;clear h;intro o10 ho10 h
 refine lq (σ:=(Int×(List (List Int)))) (τ:=(List (List Int))) (ν:=(List (List Int))) 0 (fun(s1,s2) a4=>Ax 51 [(0,AV.sl 1 (List.map A0 Bt)),(1,AV.own 0 0 (List.length C9)),(5,AV.row 1 (List.length s2)),(6,iA s1)]) (fun(s1,s2) a4=>[Ob.arr 1 (List.map Av C9),Ob.row 31 1 (List.map Ag s2)]) (fun x37 a36=>Ax 51 [(5,AV.row 1 (List.length x37))]) (fun x37 a36=>[Ob.arr 1 (List.map Av C9),Ob.row 31 1 (List.map Ag x37)]) (fun v=>(AV.sl 1 (List.map Ag v),[Ob.arr 1 (List.map Av C9)])) (fun k s=>E0 n Bt C9 k s.1 s.2) (fun s=>rfl) o10 n (0,([]:List (List Int))) (fun _=>0) ho10 ?_ ?_
 intro k3 ss a4 K5 cont6 hK7 hcont8 h hr9
 obtain⟨s1,s2⟩:=ss
 replace h:E0 n Bt C9 (k3+1) s1 s2=some o10:=h
 rw[E0] at h
 conv=>lhs;whnf
 revert h
 refine br ?_ ?_
 intro h;refine Ae h ?_;clear h;intro o21 ho21 h
 refine lq (σ:=(Int×(List Int))) (τ:=(List Int)) (ν:=(List (List Int))) 2 (fun(s12,s13) a15=>Ax 51 [(0,AV.sl 1 (List.map A0 Bt)),(1,AV.own 0 0 (List.length C9)),(5,AV.row 1 (List.length s2)),(6,iA s1),(7,AV.row 2 (List.length s13)),(8,iA s12)]) (fun(s12,s13) a15=>[Ob.arr 1 (List.map Av C9),Ob.row 31 1 (List.map Ag s2),Ob.row 3 1 (List.map A0 s13)]) (fun x31 a30=>Ax 51 [(0,AV.sl 1 (List.map A0 Bt)),(1,AV.own 0 0 (List.length C9)),(5,AV.row 1 (List.length s2)),(6,iA s1),(7,AV.row 2 (List.length x31))]) (fun x31 a30=>[Ob.arr 1 (List.map Av C9),Ob.row 31 1 (List.map Ag s2),Ob.row 3 1 (List.map A0 x31)]) (fun v=>(AV.sl 1 (List.map Ag v),[Ob.arr 1 (List.map Av C9)])) (fun k s=>De n Bt C9 s1 k s.1 s.2) (fun s=>rfl) o21 n (0,([]:List Int)) (fun _=>0) ho21 ?_ ?_
 intro k14 ss a15 K16 cont17 hK18 hcont19 h hr20
 obtain⟨s12,s13⟩:=ss
 replace h:De n Bt C9 s1 (k14+1) s12 s13=some o21:=h
 rw[De] at h
 conv=>lhs;whnf
 revert h
 refine br ?_ ?_
 refine ix ?_;intro x23
 refine br ?_ ?_
 refine br ?_ ?_
 intro h
 refine Ae h ?_;clear h;intro x26 hx26 h
 try simp only[ls]
 refine B0 (by first|exact C4 hx26|exact Dh hx26|exact Ed hx26|exact Bz hx26|(have q:=C4 hx26;simp only[List.length_set] at q;exact q)|(have q:=Bz hx26;simp only[List.length_set,Nat.zero_add] at q ⊢;exact q)) ?_
 conv=>lhs;whnf
 try simp only[Nat.zero_add,Ci (f:=Av) hx26,Bh,ls]
 conv=>lhs;whnf
 revert h
 refine br ?_ ?_
 refine ar (ap A0 (List.map A0 s13) s13 ([[iA s12]]) ([s12]:List Int)) ?_
 exact fun h=>cq (hcont19 (IntKind.i64.wrap (s12+1),(s13++([s12]:List Int))) (fun _=>0) h)
 exact fun h=>cq (hcont19 (IntKind.i64.wrap (s12+1),s13) (fun _=>0) h)
 exact fun h=>cq (hcont19 (IntKind.i64.wrap (s12+1),s13) (fun _=>0) h)
 exact fun h=>cq (hcont19 (IntKind.i64.wrap (s12+1),s13) (fun _=>0) h)
 intro h;cases sj h
 exact kq (hr20 (fun _=>0))
 refine lrc ?_ ?_
 intro v e;subst e;cases sj h;exact hr9
 intro x31 a30 e;subst e
 dsimp only at h
 conv=>lhs;whnf
 revert h
 refine br ?_ ?_
 refine ar (ap Ag (List.map Ag s2) s2 ([[AV.sl 1 (List.map A0 x31)]]) ([x31]:List (List Int))) ?_
 exact fun h=>cq (hcont8 (IntKind.i64.wrap (s1+1),(s2++([x31]:List (List Int)))) (fun _=>0) h)
 exact fun h=>cq (hcont8 (IntKind.i64.wrap (s1+1),s2) (fun _=>0) h)
 intro h;cases sj h
 exact kq (hr9 (fun _=>0))
 refine lrc ?_ ?_
 intro v e;subst e;cases sj h;rfl
 intro x37 a36 e;subst e
 dsimp only at h
 conv=>lhs;whnf
 revert h
 intro h;obtain rfl:=sj h
 try simp only[ls]
 exact fq (y:=some (AV.sl 1 (List.take (List.length x37) (List.map Ag x37)),[Ob.arr 1 (List.map Av C9)]))
theorem P2 {n:Nat} ⦃A7:Aq⦄ ⦃C9:(List Bool)⦄ ⦃r:(List (List Int))⦄:Hf n A7 C9=some r→CN n 140 [AV.agg [AV.sl 1 (List.map A0 A7.Al),AV.sl 1 (List.map A0 A7.Aj),AV.sl 1 (List.map A0 A7.Aw)],AV.own 0 0 (List.length C9)] [Ob.arr 1 (List.map Av C9)]=some (AV.sl 1 (List.map Ag r),[Ob.arr 1 (List.map Av C9)]):=by
 intro h;rcases n with _|n;cases h
 rw[Hf] at h
 refine Au Tryz.func140 (by rfl) rfl rfl (B4 rfl) ?_
 intro call hc;conv=>lhs;whnf
 revert h
 refine cr hc (fun _ h=>A6p h) ?_;intro y1
 refine ca hc (fun _ h=>Pp h) ?_;intro y3
 refine cr hc (fun _ h=>U6 h) ?_;intro y5
 intro h;obtain rfl:=sj h
 try simp only[ls]
 exact fq (y:=some (AV.sl 1 (List.map Ag y5),[Ob.arr 1 (List.map Av C9)]))
theorem Zn {n:Nat} ⦃Bt:(List Int)⦄ ⦃D3:(List Bool)⦄ ⦃r:(List (List Int))⦄:Ip n Bt D3=some r→CN n 136 [AV.sl 1 (List.map A0 Bt),AV.sl 1 (List.map Av D3)] []=some (AV.sl 1 (List.map Ag r),[]):=by
 intro h;rcases n with _|n;cases h
 rw[Ip] at h
 refine Au Tryz.func136 (by rfl) rfl rfl (B4 rfl) ?_
 intro call hc;conv=>lhs;whnf
 revert h
 intro h;refine Ae h ?_;clear h;intro o10 ho10 h
 refine lq (σ:=(Int×(List (List Int)))) (τ:=(List (List Int))) (ν:=(List (List Int))) 0 (fun(s1,s2) a4=>Ax 51 [(0,AV.sl 1 (List.map A0 Bt)),(1,AV.sl 1 (List.map Av D3)),(5,AV.row 0 (List.length s2)),(6,iA s1)]) (fun(s1,s2) a4=>[Ob.row 31 1 (List.map Ag s2)]) (fun x37 a36=>Ax 51 [(5,AV.row 0 (List.length x37))]) (fun x37 a36=>[Ob.row 31 1 (List.map Ag x37)]) (fun v=>(AV.sl 1 (List.map Ag v),[])) (fun k s=>Dj n Bt D3 k s.1 s.2) (fun s=>rfl) o10 n (0,([]:List (List Int))) (fun _=>0) ho10 ?_ ?_
 intro k3 ss a4 K5 cont6 hK7 hcont8 h hr9
 obtain⟨s1,s2⟩:=ss
 replace h:Dj n Bt D3 (k3+1) s1 s2=some o10:=h
 rw[Dj] at h
 conv=>lhs;whnf
 revert h
 refine br ?_ ?_
 intro h;refine Ae h ?_;clear h;intro o21 ho21 h
 refine lq (σ:=(Int×(List Int))) (τ:=(List Int)) (ν:=(List (List Int))) 2 (fun(s12,s13) a15=>Ax 51 [(0,AV.sl 1 (List.map A0 Bt)),(1,AV.sl 1 (List.map Av D3)),(5,AV.row 0 (List.length s2)),(6,iA s1),(7,AV.row 1 (List.length s13)),(8,iA s12)]) (fun(s12,s13) a15=>[Ob.row 31 1 (List.map Ag s2),Ob.row 3 1 (List.map A0 s13)]) (fun x31 a30=>Ax 51 [(0,AV.sl 1 (List.map A0 Bt)),(1,AV.sl 1 (List.map Av D3)),(5,AV.row 0 (List.length s2)),(6,iA s1),(7,AV.row 1 (List.length x31))]) (fun x31 a30=>[Ob.row 31 1 (List.map Ag s2),Ob.row 3 1 (List.map A0 x31)]) (fun v=>(AV.sl 1 (List.map Ag v),[])) (fun k s=>Cy n Bt D3 s1 k s.1 s.2) (fun s=>rfl) o21 n (0,([]:List Int)) (fun _=>0) ho21 ?_ ?_
 intro k14 ss a15 K16 cont17 hK18 hcont19 h hr20
 obtain⟨s12,s13⟩:=ss
 replace h:Cy n Bt D3 s1 (k14+1) s12 s13=some o21:=h
 rw[Cy] at h
 conv=>lhs;whnf
 revert h
 refine br ?_ ?_
 refine ix ?_;intro x23
 refine br ?_ ?_
 refine br ?_ ?_
 refine ix ?_;intro x26
 refine br ?_ ?_
 refine ar (ap A0 (List.map A0 s13) s13 ([[iA s12]]) ([s12]:List Int)) ?_
 exact fun h=>cq (hcont19 (IntKind.i64.wrap (s12+1),(s13++([s12]:List Int))) (fun _=>0) h)
 exact fun h=>cq (hcont19 (IntKind.i64.wrap (s12+1),s13) (fun _=>0) h)
 exact fun h=>cq (hcont19 (IntKind.i64.wrap (s12+1),s13) (fun _=>0) h)
 exact fun h=>cq (hcont19 (IntKind.i64.wrap (s12+1),s13) (fun _=>0) h)
 intro h;cases sj h
 exact kq (hr20 (fun _=>0))
 refine lrc ?_ ?_
 intro v e;subst e;cases sj h;exact hr9
 intro x31 a30 e;subst e
 dsimp only at h
 conv=>lhs;whnf
 revert h
 refine br ?_ ?_
 refine ar (ap Ag (List.map Ag s2) s2 ([[AV.sl 1 (List.map A0 x31)]]) ([x31]:List (List Int))) ?_
 exact fun h=>cq (hcont8 (IntKind.i64.wrap (s1+1),(s2++([x31]:List (List Int)))) (fun _=>0) h)
 exact fun h=>cq (hcont8 (IntKind.i64.wrap (s1+1),s2) (fun _=>0) h)
 intro h;cases sj h
 exact kq (hr9 (fun _=>0))
 refine lrc ?_ ?_
 intro v e;subst e;cases sj h;rfl
 intro x37 a36 e;subst e
 dsimp only at h
 conv=>lhs;whnf
 revert h
 intro h;obtain rfl:=sj h
 try simp only[ls]
 exact fq (y:=some (AV.sl 1 (List.take (List.length x37) (List.map Ag x37)),[]))
theorem Zo {n:Nat} ⦃A7:Aq⦄ ⦃D3:(List Bool)⦄ ⦃r:(List (List Int))⦄:Il n A7 D3=some r→CN n 140 [AV.agg [AV.sl 1 (List.map A0 A7.Al),AV.sl 1 (List.map A0 A7.Aj),AV.sl 1 (List.map A0 A7.Aw)],AV.sl 1 (List.map Av D3)] []=some (AV.sl 1 (List.map Ag r),[]):=by
 intro h;rcases n with _|n;cases h
 rw[Il] at h
 refine Au Tryz.func140 (by rfl) rfl rfl (B4 rfl) ?_
 intro call hc;conv=>lhs;whnf
 revert h
 refine ca hc (fun _ h=>A2w h) ?_;intro y1
 refine ca hc (fun _ h=>Pp h) ?_;intro y3
 refine ca hc (fun _ h=>Zn h) ?_;intro y5
 exact rz
theorem A1g {n:Nat} ⦃A7:Aq⦄ ⦃r:(List (List Int))⦄:Jx n A7=some r→CN n 89 [AV.agg [AV.sl 1 (List.map A0 A7.Al),AV.sl 1 (List.map A0 A7.Aj),AV.sl 1 (List.map A0 A7.Aw)]] []=some (AV.sl 1 (List.map Ag r),[]):=by
 intro h;rcases n with _|n;cases h
 rw[Jx] at h
 refine Au Tryz.func89 (by rfl) rfl rfl (B4 rfl) ?_
 intro call hc;conv=>lhs;whnf
 revert h
 refine ca hc (fun _ h=>Pp h) ?_;intro y1
 intro h
 refine Ds h ?_;clear h;intro hc4 h
 try simp only[ls]
 refine B0 (by first|exact Pq (B:=1) hc4 rfl (by kernel_rfl)|exact O5 (B:=1) hc4 (by kernel_rfl)) ?_
 have hr3:List.replicate (((y1.length:Nat):Int)).toNat [bA false]=List.map Av (List.replicate (((y1.length:Nat):Int)).toNat false:List Bool):=by rw[List.map_replicate];rfl
 simp only[hr3,ls]
 conv=>lhs;whnf
 revert h
 intro h;refine Ae h ?_;clear h;intro o14 ho14 h
 refine lq (σ:=(Int×(List Bool))) (τ:=(List Bool)) (ν:=(List (List Int))) 0 (fun(s5,s6) a8=>Ax 23 [(3,AV.sl 1 (List.map A0 y1)),(4,AV.own 1 0 (List.length s6)),(5,iA s5)]) (fun(s5,s6) a8=>[Ob.var 66 [AV.sl 1 (List.map A0 A7.Al),AV.sl 1 (List.map A0 A7.Aj),AV.sl 1 (List.map A0 A7.Aw)],Ob.arr 1 (List.map Av s6)]) (fun x19 a18=>Ax 23 [(3,AV.sl 1 (List.map A0 y1)),(4,AV.own 1 0 (List.length x19))]) (fun x19 a18=>[Ob.var 66 [AV.sl 1 (List.map A0 A7.Al),AV.sl 1 (List.map A0 A7.Aj),AV.sl 1 (List.map A0 A7.Aw)],Ob.arr 1 (List.map Av x19)]) (fun v=>(AV.sl 1 (List.map Ag v),[])) (fun k s=>En n y1 k s.1 s.2) (fun s=>rfl) o14 n (0,(List.replicate (((y1.length:Nat):Int)).toNat false:List Bool)) (fun _=>0) ho14 ?_ ?_
 intro k7 ss a8 K9 cont10 hK11 hcont12 h hr13
 obtain⟨s5,s6⟩:=ss
 replace h:En n y1 (k7+1) s5 s6=some o14:=h
 rw[En] at h
 conv=>lhs;whnf
 revert h
 refine br ?_ ?_
 intro h
 refine Ae h ?_;clear h;intro x16 hx16 h
 try simp only[ls]
 refine B0 (by first|exact C4 hx16|exact Dh hx16|exact Ed hx16|exact Bz hx16|(have q:=C4 hx16;simp only[List.length_set] at q;exact q)|(have q:=Bz hx16;simp only[List.length_set,Nat.zero_add] at q ⊢;exact q)) ?_
 conv=>lhs;whnf
 try simp only[Nat.zero_add,Ci (f:=Av) hx16,Bh,ls]
 conv=>lhs;whnf
 revert h
 intro h
 have hs17:Bq (List.map Av s6) s5.toNat [bA true]=List.map Av (List.set s6 s5.toNat true):=by rw[B8,List.map_set];rfl
 have hs17_u:Bq (List.map Av s6) s5.toNat (Bn (Av x16) 0 [bA true])=List.map Av (List.set s6 s5.toNat true):=by rw[B8,List.map_set];rfl
 try simp only[Nat.zero_add,Ci (f:=Av) hx16]
 conv=>lhs;whnf
 try simp only[hs17,hs17_u]
 conv=>lhs;whnf
 revert h
 exact fun h=>cq (hcont12 (IntKind.i64.wrap (s5+1),(List.set s6 s5.toNat true)) (fun _=>0) h)
 intro h;cases sj h
 exact kq (hr13 (fun _=>0))
 refine lrc ?_ ?_
 intro v e;subst e;cases sj h;rfl
 intro x19 a18 e;subst e
 dsimp only at h
 conv=>lhs;whnf
 revert h
 refine cr hc (fun _ h=>U6 h) ?_;intro y20
 exact rz
theorem Px {n:Nat} ⦃A7:Aq⦄ ⦃An:(List (List Bool))⦄ ⦃Ab:Int⦄ ⦃r:Bool⦄:Hz n A7 An Ab=some r→CN n 88 [AV.agg [AV.sl 1 (List.map A0 A7.Al),AV.sl 1 (List.map A0 A7.Aj),AV.sl 1 (List.map A0 A7.Aw)],AV.sl 1 (List.map B6 An),iA Ab] []=some (bA r,[]):=by
 intro h;rcases n with _|n;cases h
 rw[Hz] at h
 refine Au Tryz.func88 (by rfl) rfl rfl (B4 rfl) ?_
 intro call hc;conv=>lhs;whnf
 revert h
 refine ca hc (fun _ h=>If h) ?_;intro y1
 refine br ?_ ?_
 refine br ?_ ?_
 exact rz
 refine br ?_ ?_
 exact rz
 refine ca hc (fun _ h=>Kh h) ?_;intro y6
 refine br ?_ ?_
 exact rz
 intro h;refine Ae h ?_;clear h;intro o17 ho17 h
 refine lq (σ:=Int) (τ:=Unit) (ν:=Bool) 0 (fun s9 a11=>Ax 74 [(1,AV.sl 1 (List.map B6 An)),(2,iA Ab),(3,AV.ptr 0 0),(7,iA s9)]) (fun s9 a11=>[Ob.var 66 [AV.sl 1 (List.map A0 A7.Al),AV.sl 1 (List.map A0 A7.Aj),AV.sl 1 (List.map A0 A7.Aw)]]) (fun _ a21=>Ax 74 [(1,AV.sl 1 (List.map B6 An)),(2,iA Ab),(3,AV.ptr 0 0)]) (fun _ a21=>[Ob.var 66 [AV.sl 1 (List.map A0 A7.Al),AV.sl 1 (List.map A0 A7.Aj),AV.sl 1 (List.map A0 A7.Aw)]]) (fun v=>(bA v,[])) (fun k s=>Fk n An Ab k s) (fun s=>rfl) o17 n 0 (fun _=>0) ho17 ?_ ?_
 intro k10 s9 a11 K12 cont13 hK14 hcont15 h hr16
 replace h:Fk n An Ab (k10+1) s9=some o17:=h
 rw[Fk] at h
 conv=>lhs;whnf
 revert h
 refine br ?_ ?_
 refine ix ?_;intro x19
 refine br ?_ ?_
 intro h;cases sj h
 refine(hK14 _ _).trans ?_
 refine Eq.trans ?_ (Eq.symm (show _=some _ from hr16))
 conv=>lhs;whnf
 exact rq
 exact fun h=>cq (hcont15 (IntKind.i64.wrap (s9+1)) (fun _=>0) h)
 intro h;cases sj h
 exact kq (hr16 (fun _=>0))
 refine lrc ?_ ?_
 intro v e;subst e;cases sj h;rfl
 intro t a21 e;subst e
 dsimp only at h
 conv=>lhs;whnf
 revert h
 refine ca hc (fun _ h=>Kb h) ?_;intro y22
 intro h;refine Ae h ?_;clear h;intro o32 ho32 h
 refine lq (σ:=Int) (τ:=Unit) (ν:=Bool) 2 (fun s24 a26=>Ax 74 [(1,AV.sl 1 (List.map B6 An)),(2,iA Ab),(8,AV.sl 3 (List.map Bo y22)),(9,iA s24)]) (fun s24 a26=>[Ob.var 66 [AV.sl 1 (List.map A0 A7.Al),AV.sl 1 (List.map A0 A7.Aj),AV.sl 1 (List.map A0 A7.Aw)]]) (fun _ a41=>Ax 74 []) (fun _ a41=>[Ob.var 66 [AV.sl 1 (List.map A0 A7.Al),AV.sl 1 (List.map A0 A7.Aj),AV.sl 1 (List.map A0 A7.Aw)]]) (fun v=>(bA v,[])) (fun k s=>Fj n An Ab y22 k s) (fun s=>rfl) o32 n 0 (fun _=>0) ho32 ?_ ?_
 intro k25 s24 a26 K27 cont28 hK29 hcont30 h hr31
 replace h:Fj n An Ab y22 (k25+1) s24=some o32:=h
 rw[Fj] at h
 conv=>lhs;whnf
 revert h
 refine br ?_ ?_
 refine ix ?_;intro x34
 refine br ?_ ?_
 intro h;cases sj h
 refine(hK29 _ _).trans ?_
 refine Eq.trans ?_ (Eq.symm (show _=some _ from hr31))
 conv=>lhs;whnf
 exact rq
 refine ix ?_;intro x36
 refine ix ?_;intro x37
 refine ix ?_;intro x38
 refine ix ?_;intro x39
 refine br ?_ ?_
 exact fun h=>cq (hcont30 (IntKind.i64.wrap (s24+1)) (fun _=>0) h)
 intro h;cases sj h
 refine(hK29 _ _).trans ?_
 refine Eq.trans ?_ (Eq.symm (show _=some _ from hr31))
 conv=>lhs;whnf
 exact rq
 intro h;cases sj h
 exact kq (hr31 (fun _=>0))
 refine lrc ?_ ?_
 intro v e;subst e;cases sj h;rfl
 intro t a41 e;subst e
 dsimp only at h
 conv=>lhs;whnf
 revert h
 exact rz
 exact rz
theorem Ys {n:Nat} ⦃Bg:(List Int)⦄ ⦃Hh:Int⦄ ⦃r:Bool⦄:Lo n Bg Hh=some r→CN n 173 [AV.sl 1 (List.map A0 Bg),iA Hh] []=some (bA r,[]):=by
 intro h;rcases n with _|n;cases h
 rw[Lo] at h
 refine Au Tryz.func173 (by rfl) rfl rfl (B4 rfl) ?_
 intro call hc;conv=>lhs;whnf
 revert h
 intro h;refine Ae h ?_;clear h;intro o9 ho9 h
 refine lq (σ:=Int) (τ:=Unit) (ν:=Bool) 0 (fun s1 a3=>Ax 18 [(0,AV.sl 1 (List.map A0 Bg)),(1,iA Hh),(5,iA s1)]) (fun s1 a3=>[]) (fun _ a13=>Ax 18 []) (fun _ a13=>[]) (fun v=>(bA v,[])) (fun k s=>Gu n Bg Hh k s) (fun s=>rfl) o9 n 0 (fun _=>0) ho9 ?_ ?_
 intro k2 s1 a3 K4 cont5 hK6 hcont7 h hr8
 replace h:Gu n Bg Hh (k2+1) s1=some o9:=h
 rw[Gu] at h
 conv=>lhs;whnf
 revert h
 refine br ?_ ?_
 refine ix ?_;intro x11
 refine br ?_ ?_
 intro h;cases sj h
 refine(hK6 _ _).trans ?_
 refine Eq.trans ?_ (Eq.symm (show _=some _ from hr8))
 conv=>lhs;whnf
 exact rq
 exact fun h=>cq (hcont7 (IntKind.i64.wrap (s1+1)) (fun _=>0) h)
 intro h;cases sj h
 exact kq (hr8 (fun _=>0))
 refine lrc ?_ ?_
 intro v e;subst e;cases sj h;rfl
 intro t a13 e;subst e
 dsimp only at h
 conv=>lhs;whnf
 revert h
 exact rz
theorem X3 {n:Nat} ⦃A7:Aq⦄ ⦃Ch:(List Int)⦄ ⦃I9:Int⦄ ⦃r:Bool⦄:K2 n A7 Ch I9=some r→CN n 138 [AV.agg [AV.sl 1 (List.map A0 A7.Al),AV.sl 1 (List.map A0 A7.Aj),AV.sl 1 (List.map A0 A7.Aw)],AV.sl 1 (List.map A0 Ch),iA I9] []=some (bA r,[]):=by
 intro h;rcases n with _|n;cases h
 rw[K2] at h
 refine Au Tryz.func138 (by rfl) rfl rfl (B4 rfl) ?_
 intro call hc;conv=>lhs;whnf
 revert h
 refine ca hc (fun _ h=>Kb h) ?_;intro y1
 intro h;refine Ae h ?_;clear h;intro o11 ho11 h
 refine lq (σ:=Int) (τ:=Unit) (ν:=Bool) 0 (fun s3 a5=>Ax 42 [(1,AV.sl 1 (List.map A0 Ch)),(2,iA I9),(7,AV.sl 3 (List.map Bo y1)),(8,iA s3)]) (fun s3 a5=>[Ob.var 66 [AV.sl 1 (List.map A0 A7.Al),AV.sl 1 (List.map A0 A7.Aj),AV.sl 1 (List.map A0 A7.Aw)]]) (fun _ a23=>Ax 42 []) (fun _ a23=>[Ob.var 66 [AV.sl 1 (List.map A0 A7.Al),AV.sl 1 (List.map A0 A7.Aj),AV.sl 1 (List.map A0 A7.Aw)]]) (fun v=>(bA v,[])) (fun k s=>Ec n Ch I9 y1 k s) (fun s=>rfl) o11 n 0 (fun _=>0) ho11 ?_ ?_
 intro k4 s3 a5 K6 cont7 hK8 hcont9 h hr10
 replace h:Ec n Ch I9 y1 (k4+1) s3=some o11:=h
 rw[Ec] at h
 conv=>lhs;whnf
 revert h
 refine br ?_ ?_
 refine ix ?_;intro x13
 refine br ?_ ?_
 refine ix ?_;intro x15
 refine ca hc (fun _ h=>Ys h) ?_;intro y16
 refine br ?_ ?_
 refine ix ?_;intro x19
 refine ca hc (fun _ h=>Ys h) ?_;intro y20
 refine br ?_ ?_
 intro h;cases sj h
 refine(hK8 _ _).trans ?_
 refine Eq.trans ?_ (Eq.symm (show _=some _ from hr10))
 conv=>lhs;whnf
 exact rq
 exact fun h=>cq (hcont9 (IntKind.i64.wrap (s3+1)) (fun _=>0) h)
 exact fun h=>cq (hcont9 (IntKind.i64.wrap (s3+1)) (fun _=>0) h)
 exact fun h=>cq (hcont9 (IntKind.i64.wrap (s3+1)) (fun _=>0) h)
 intro h;cases sj h
 exact kq (hr10 (fun _=>0))
 refine lrc ?_ ?_
 intro v e;subst e;cases sj h;rfl
 intro t a23 e;subst e
 dsimp only at h
 conv=>lhs;whnf
 revert h
 exact rz
theorem A4g {n:Nat} ⦃Pf:(List (List Bool))⦄ ⦃Ch:(List Int)⦄ ⦃I9:Int⦄ ⦃r:Int⦄:Lb n Pf Ch I9=some r→CN n 137 [AV.sl 1 (List.map B6 Pf),AV.sl 1 (List.map A0 Ch),iA I9] []=some (iA r,[]):=by
 intro h;rcases n with _|n;cases h
 rw[Lb] at h
 refine Au Tryz.func137 (by rfl) rfl rfl (B4 rfl) ?_
 intro call hc;conv=>lhs;whnf
 revert h
 intro h;refine Ae h ?_;clear h;intro o10 ho10 h
 refine lq (σ:=(Int×Int)) (τ:=Int) (ν:=Int) 0 (fun(s1,s2) a4=>Ax 28 [(0,AV.sl 1 (List.map B6 Pf)),(1,AV.sl 1 (List.map A0 Ch)),(2,iA I9),(7,iA s1),(8,iA s2)]) (fun(s1,s2) a4=>[]) (fun x17 a16=>Ax 28 [(7,iA x17)]) (fun x17 a16=>[]) (fun v=>(iA v,[])) (fun k s=>Ej n Pf Ch I9 k s.1 s.2) (fun s=>rfl) o10 n (0,0) (fun _=>0) ho10 ?_ ?_
 intro k3 ss a4 K5 cont6 hK7 hcont8 h hr9
 obtain⟨s1,s2⟩:=ss
 replace h:Ej n Pf Ch I9 (k3+1) s1 s2=some o10:=h
 rw[Ej] at h
 conv=>lhs;whnf
 revert h
 refine br ?_ ?_
 refine ix ?_;intro x12
 refine ix ?_;intro x13
 refine ix ?_;intro x14
 refine br ?_ ?_
 exact fun h=>cq (hcont8 (IntKind.i64.wrap (s1+1),IntKind.i64.wrap (s2+1)) (fun _=>0) h)
 exact fun h=>cq (hcont8 (s1,IntKind.i64.wrap (s2+1)) (fun _=>0) h)
 intro h;cases sj h
 exact kq (hr9 (fun _=>0))
 refine lrc ?_ ?_
 intro v e;subst e;cases sj h;rfl
 intro x17 a16 e;subst e
 dsimp only at h
 conv=>lhs;whnf
 revert h
 exact rz
theorem Le {n:Nat} ⦃A7:Aq⦄ ⦃An:(List (List Bool))⦄ ⦃Ab:Int⦄ ⦃Bl:Int⦄ ⦃Bi:(List Int)⦄ ⦃r:Bool⦄:Gr n A7 An Ab Bl Bi=some r→CN n 90 [AV.agg [AV.sl 1 (List.map A0 A7.Al),AV.sl 1 (List.map A0 A7.Aj),AV.sl 1 (List.map A0 A7.Aw)],AV.sl 1 (List.map B6 An),iA Ab,iA Bl,AV.sl 1 (List.map A0 Bi)] []=some (bA r,[]):=by
 intro h;rcases n with _|n;cases h
 rw[Gr] at h
 refine Au Tryz.func90 (by rfl) rfl rfl (B4 rfl) ?_
 intro call hc;conv=>lhs;whnf
 revert h
 intro h;refine Ae h ?_;clear h;intro o9 ho9 h
 refine lq (σ:=Int) (τ:=Unit) (ν:=Bool) 0 (fun s1 a3=>Ax 48 [(1,AV.sl 1 (List.map B6 An)),(2,iA Ab),(3,iA Bl),(4,AV.sl 1 (List.map A0 Bi)),(5,AV.ptr 0 0),(11,iA s1)]) (fun s1 a3=>[Ob.var 66 [AV.sl 1 (List.map A0 A7.Al),AV.sl 1 (List.map A0 A7.Aj),AV.sl 1 (List.map A0 A7.Aw)]]) (fun _ a22=>Ax 48 [(4,AV.sl 1 (List.map A0 Bi)),(5,AV.ptr 0 0)]) (fun _ a22=>[Ob.var 66 [AV.sl 1 (List.map A0 A7.Al),AV.sl 1 (List.map A0 A7.Aj),AV.sl 1 (List.map A0 A7.Aw)]]) (fun v=>(bA v,[])) (fun k s=>Ct n A7 An Ab Bl Bi k s) (fun s=>rfl) o9 n 0 (fun _=>0) ho9 ?_ ?_
 intro k2 s1 a3 K4 cont5 hK6 hcont7 h hr8
 replace h:Ct n A7 An Ab Bl Bi (k2+1) s1=some o9:=h
 rw[Ct] at h
 conv=>lhs;whnf
 revert h
 refine br ?_ ?_
 refine ca hc (fun _ h=>A4g h) ?_;intro y11
 refine ca hc (fun _ h=>X3 h) ?_;intro y13
 refine br ?_ ?_
 exact fun h=>cq (hcont7 (IntKind.i64.wrap (s1+1)) (fun _=>0) h)
 refine br ?_ ?_
 refine br ?_ ?_
 intro h;cases sj h
 refine(hK6 _ _).trans ?_
 refine Eq.trans ?_ (Eq.symm (show _=some _ from hr8))
 conv=>lhs;whnf
 exact rq
 refine br ?_ ?_
 refine br ?_ ?_
 intro h;cases sj h
 refine(hK6 _ _).trans ?_
 refine Eq.trans ?_ (Eq.symm (show _=some _ from hr8))
 conv=>lhs;whnf
 exact rq
 exact fun h=>cq (hcont7 (IntKind.i64.wrap (s1+1)) (fun _=>0) h)
 exact fun h=>cq (hcont7 (IntKind.i64.wrap (s1+1)) (fun _=>0) h)
 refine br ?_ ?_
 refine br ?_ ?_
 intro h;cases sj h
 refine(hK6 _ _).trans ?_
 refine Eq.trans ?_ (Eq.symm (show _=some _ from hr8))
 conv=>lhs;whnf
 exact rq
 exact fun h=>cq (hcont7 (IntKind.i64.wrap (s1+1)) (fun _=>0) h)
 exact fun h=>cq (hcont7 (IntKind.i64.wrap (s1+1)) (fun _=>0) h)
 intro h;cases sj h
 exact kq (hr8 (fun _=>0))
 refine lrc ?_ ?_
 intro v e;subst e;cases sj h;rfl
 intro t a22 e;subst e
 dsimp only at h
 conv=>lhs;whnf
 revert h
 refine ca hc (fun _ h=>P5 h) ?_;intro y23
 exact rz
theorem X4 {n:Nat} ⦃A7:Aq⦄ ⦃An:(List (List Bool))⦄ ⦃Ab:Int⦄ ⦃Cx:(List Int)⦄ ⦃r:(List Bool)⦄:Ki n A7 An Ab Cx=some r→CN n 141 [AV.agg [AV.sl 1 (List.map A0 A7.Al),AV.sl 1 (List.map A0 A7.Aj),AV.sl 1 (List.map A0 A7.Aw)],AV.sl 1 (List.map B6 An),iA Ab,AV.sl 1 (List.map A0 Cx)] []=some (AV.sl 1 (List.map Av r),[]):=by
 intro h;rcases n with _|n;cases h
 rw[Ki] at h
 refine Au Tryz.func141 (by rfl) rfl rfl (B4 rfl) ?_
 intro call hc;conv=>lhs;whnf
 revert h
 intro h
 refine Ds h ?_;clear h;intro hc2 h
 try simp only[ls]
 refine B0 (by first|exact Pq (B:=1) hc2 rfl (by kernel_rfl)|exact O5 (B:=1) hc2 (by kernel_rfl)) ?_
 have hr1:List.replicate (((An.length:Nat):Int)).toNat [bA false]=List.map Av (List.replicate (((An.length:Nat):Int)).toNat false:List Bool):=by rw[List.map_replicate];rfl
 simp only[hr1,ls]
 conv=>lhs;whnf
 revert h
 intro h;refine Ae h ?_;clear h;intro o12 ho12 h
 refine lq (σ:=(Int×(List Bool))) (τ:=(List Bool)) (ν:=(List Bool)) 0 (fun(s3,s4) a6=>Ax 60 [(1,AV.sl 1 (List.map B6 An)),(2,iA Ab),(3,AV.sl 1 (List.map A0 Cx)),(4,AV.ptr 0 0),(9,AV.own 1 0 (List.length s4)),(10,iA s3)]) (fun(s3,s4) a6=>[Ob.var 66 [AV.sl 1 (List.map A0 A7.Al),AV.sl 1 (List.map A0 A7.Aj),AV.sl 1 (List.map A0 A7.Aw)],Ob.arr 1 (List.map Av s4)]) (fun x18 a17=>Ax 60 [(1,AV.sl 1 (List.map B6 An)),(2,iA Ab),(3,AV.sl 1 (List.map A0 Cx)),(4,AV.ptr 0 0),(9,AV.own 1 0 (List.length x18))]) (fun x18 a17=>[Ob.var 66 [AV.sl 1 (List.map A0 A7.Al),AV.sl 1 (List.map A0 A7.Aj),AV.sl 1 (List.map A0 A7.Aw)],Ob.arr 1 (List.map Av x18)]) (fun v=>(AV.sl 1 (List.map Av v),[])) (fun k s=>Gb n Cx k s.1 s.2) (fun s=>rfl) o12 n (0,(List.replicate (((An.length:Nat):Int)).toNat false:List Bool)) (fun _=>0) ho12 ?_ ?_
 intro k5 ss a6 K7 cont8 hK9 hcont10 h hr11
 obtain⟨s3,s4⟩:=ss
 replace h:Gb n Cx (k5+1) s3 s4=some o12:=h
 rw[Gb] at h
 conv=>lhs;whnf
 revert h
 refine br ?_ ?_
 refine ix ?_;intro x14
 intro h
 refine Ae h ?_;clear h;intro x15 hx15 h
 try simp only[ls]
 refine B0 (by first|exact C4 hx15|exact Dh hx15|exact Ed hx15|exact Bz hx15|(have q:=C4 hx15;simp only[List.length_set] at q;exact q)|(have q:=Bz hx15;simp only[List.length_set,Nat.zero_add] at q ⊢;exact q)) ?_
 conv=>lhs;whnf
 try simp only[Nat.zero_add,Ci (f:=Av) hx15,Bh,ls]
 conv=>lhs;whnf
 revert h
 intro h
 have hs16:Bq (List.map Av s4) x14.toNat [bA true]=List.map Av (List.set s4 x14.toNat true):=by rw[B8,List.map_set];rfl
 have hs16_u:Bq (List.map Av s4) x14.toNat (Bn (Av x15) 0 [bA true])=List.map Av (List.set s4 x14.toNat true):=by rw[B8,List.map_set];rfl
 try simp only[Nat.zero_add,Ci (f:=Av) hx15]
 conv=>lhs;whnf
 try simp only[hs16,hs16_u]
 conv=>lhs;whnf
 revert h
 exact fun h=>cq (hcont10 (IntKind.i64.wrap (s3+1),(List.set s4 x14.toNat true)) (fun _=>0) h)
 intro h;cases sj h
 exact kq (hr11 (fun _=>0))
 refine lrc ?_ ?_
 intro v e;subst e;cases sj h;rfl
 intro x18 a17 e;subst e
 dsimp only at h
 conv=>lhs;whnf
 revert h
 intro h;refine Ae h ?_;clear h;intro o28 ho28 h
 refine lq (σ:=(Int×(List Bool))) (τ:=(List Bool)) (ν:=(List Bool)) 2 (fun(s19,s20) a22=>Ax 60 [(1,AV.sl 1 (List.map B6 An)),(2,iA Ab),(3,AV.sl 1 (List.map A0 Cx)),(4,AV.ptr 0 0),(9,AV.own 1 0 (List.length s20)),(11,iA s19)]) (fun(s19,s20) a22=>[Ob.var 66 [AV.sl 1 (List.map A0 A7.Al),AV.sl 1 (List.map A0 A7.Aj),AV.sl 1 (List.map A0 A7.Aw)],Ob.arr 1 (List.map Av s20)]) (fun x55 a54=>Ax 60 [(9,AV.own 1 0 (List.length x55))]) (fun x55 a54=>[Ob.var 66 [AV.sl 1 (List.map A0 A7.Al),AV.sl 1 (List.map A0 A7.Aj),AV.sl 1 (List.map A0 A7.Aw)],Ob.arr 1 (List.map Av x55)]) (fun v=>(AV.sl 1 (List.map Av v),[])) (fun k s=>Fe n A7 An Ab Cx k s.1 s.2) (fun s=>rfl) o28 n (0,x18) (fun _=>0) ho28 ?_ ?_
 intro k21 ss a22 K23 cont24 hK25 hcont26 h hr27
 obtain⟨s19,s20⟩:=ss
 replace h:Fe n A7 An Ab Cx (k21+1) s19 s20=some o28:=h
 rw[Fe] at h
 conv=>lhs;whnf
 revert h
 refine br ?_ ?_
 refine ca hc (fun _ h=>X3 h) ?_;intro y30
 refine br ?_ ?_
 exact fun h=>cq (hcont26 (IntKind.i64.wrap (s19+1),s20) (fun _=>0) h)
 intro h;refine Ae h ?_;clear h;intro o42 ho42 h
 refine lq (σ:=(Int×(List Bool))) (τ:=(List Bool)) (ν:=(List Bool)) 4 (fun(s33,s34) a36=>Ax 60 [(1,AV.sl 1 (List.map B6 An)),(2,iA Ab),(3,AV.sl 1 (List.map A0 Cx)),(4,AV.ptr 0 0),(9,AV.own 1 0 (List.length s34)),(11,iA s19),(12,iA s33)]) (fun(s33,s34) a36=>[Ob.var 66 [AV.sl 1 (List.map A0 A7.Al),AV.sl 1 (List.map A0 A7.Aj),AV.sl 1 (List.map A0 A7.Aw)],Ob.arr 1 (List.map Av s34)]) (fun x52 a51=>Ax 60 [(1,AV.sl 1 (List.map B6 An)),(2,iA Ab),(3,AV.sl 1 (List.map A0 Cx)),(4,AV.ptr 0 0),(9,AV.own 1 0 (List.length x52)),(11,iA s19)]) (fun x52 a51=>[Ob.var 66 [AV.sl 1 (List.map A0 A7.Al),AV.sl 1 (List.map A0 A7.Aj),AV.sl 1 (List.map A0 A7.Aw)],Ob.arr 1 (List.map Av x52)]) (fun v=>(AV.sl 1 (List.map Av v),[])) (fun k s=>Fb n An Cx s19 k s.1 s.2) (fun s=>rfl) o42 n (0,s20) (fun _=>0) ho42 ?_ ?_
 intro k35 ss a36 K37 cont38 hK39 hcont40 h hr41
 obtain⟨s33,s34⟩:=ss
 replace h:Fb n An Cx s19 (k35+1) s33 s34=some o42:=h
 rw[Fb] at h
 conv=>lhs;whnf
 revert h
 refine br ?_ ?_
 refine ix ?_;intro x44
 refine ix ?_;intro x45
 refine ix ?_;intro x46
 refine br ?_ ?_
 refine ix ?_;intro x48
 intro h
 refine Ae h ?_;clear h;intro x49 hx49 h
 try simp only[ls]
 refine B0 (by first|exact C4 hx49|exact Dh hx49|exact Ed hx49|exact Bz hx49|(have q:=C4 hx49;simp only[List.length_set] at q;exact q)|(have q:=Bz hx49;simp only[List.length_set,Nat.zero_add] at q ⊢;exact q)) ?_
 conv=>lhs;whnf
 try simp only[Nat.zero_add,Ci (f:=Av) hx49,Bh,ls]
 conv=>lhs;whnf
 revert h
 intro h
 have hs50:Bq (List.map Av s34) x48.toNat [bA false]=List.map Av (List.set s34 x48.toNat false):=by rw[B8,List.map_set];rfl
 have hs50_u:Bq (List.map Av s34) x48.toNat (Bn (Av x49) 0 [bA false])=List.map Av (List.set s34 x48.toNat false):=by rw[B8,List.map_set];rfl
 try simp only[Nat.zero_add,Ci (f:=Av) hx49]
 conv=>lhs;whnf
 try simp only[hs50,hs50_u]
 conv=>lhs;whnf
 revert h
 exact fun h=>cq (hcont40 (IntKind.i64.wrap (s33+1),(List.set s34 x48.toNat false)) (fun _=>0) h)
 exact fun h=>cq (hcont40 (IntKind.i64.wrap (s33+1),s34) (fun _=>0) h)
 intro h;cases sj h
 exact kq (hr41 (fun _=>0))
 refine lrc ?_ ?_
 intro v e;subst e;cases sj h;exact hr27
 intro x52 a51 e;subst e
 dsimp only at h
 conv=>lhs;whnf
 revert h
 exact fun h=>cq (hcont26 (IntKind.i64.wrap (s19+1),x52) (fun _=>0) h)
 intro h;cases sj h
 exact kq (hr27 (fun _=>0))
 refine lrc ?_ ?_
 intro v e;subst e;cases sj h;rfl
 intro x55 a54 e;subst e
 dsimp only at h
 conv=>lhs;whnf
 revert h
 intro h;obtain rfl:=sj h
 try simp only[ls]
 exact fq (y:=some (AV.sl 1 (List.take (List.length x55) (List.drop 0 (List.map Av x55))),[]))
def Jt (n:Nat):Prop:=∀ ⦃A7:Aq⦄ ⦃An:(List (List Bool))⦄ ⦃Ab:Int⦄ ⦃A3h:(List Bool)⦄ ⦃r:(List Int)⦄,F2 n A7 An Ab A3h=some r→CN n 91 [AV.agg [AV.sl 1 (List.map A0 A7.Al),AV.sl 1 (List.map A0 A7.Aj),AV.sl 1 (List.map A0 A7.Aw)],AV.sl 1 (List.map B6 An),iA Ab,AV.sl 1 (List.map Av A3h)] []=some (AV.sl 1 (List.map A0 r),[])
def N7 (n:Nat):Prop:=Jt n
theorem Zq (n:Nat) (ih:N7 n):Jt (n+1):=by
 intro A7 An Ab A3h r h
 rw[F2] at h
 refine Au Tryz.func91 (by rfl) rfl rfl (B4 rfl) ?_
 intro call hc;conv=>lhs;whnf
 revert h
 refine ca hc (fun _ h=>Zo h) ?_;intro y1
 intro h;refine Ae h ?_;clear h;intro o11 ho11 h
 refine lq (σ:=Int) (τ:=Unit) (ν:=(List Int)) 0 (fun s3 a5=>Ax 56 [(1,AV.sl 1 (List.map B6 An)),(2,iA Ab),(4,AV.ptr 0 0),(9,AV.sl 1 (List.map Ag y1)),(10,iA s3)]) (fun s3 a5=>[Ob.var 66 [AV.sl 1 (List.map A0 A7.Al),AV.sl 1 (List.map A0 A7.Aj),AV.sl 1 (List.map A0 A7.Aw)]]) (fun _ a28=>Ax 56 []) (fun _ a28=>[Ob.var 66 [AV.sl 1 (List.map A0 A7.Al),AV.sl 1 (List.map A0 A7.Aj),AV.sl 1 (List.map A0 A7.Aw)]]) (fun v=>(AV.sl 1 (List.map A0 v),[])) (fun k s=>Fs n (F2 n) A7 An Ab y1 k s) (fun s=>rfl) o11 n 0 (fun _=>0) ho11 ?_ ?_
 intro k4 s3 a5 K6 cont7 hK8 hcont9 h hr10
 replace h:Fs n (F2 n) A7 An Ab y1 (k4+1) s3=some o11:=h
 rw[Fs] at h
 conv=>lhs;whnf
 revert h
 refine br ?_ ?_
 refine ix ?_;intro x13
 refine ca hc (fun _ h=>P5 h) ?_;intro y14
 refine br ?_ ?_
 refine ix ?_;intro x17
 refine ca hc (fun _ h=>Le h) ?_;intro y18
 refine br ?_ ?_
 refine ix ?_;intro x21
 intro h;cases sj h
 refine(hK8 _ _).trans ?_
 refine Eq.trans ?_ (Eq.symm (show _=some _ from hr10))
 conv=>lhs;whnf
 exact rq
 refine ix ?_;intro x22
 refine ca hc (fun _ h=>X4 h) ?_;intro y23
 refine ca hc (fun _ h=>ih h) ?_;intro y25
 refine br ?_ ?_
 intro h;cases sj h
 refine(hK8 _ _).trans ?_
 refine Eq.trans ?_ (Eq.symm (show _=some _ from hr10))
 conv=>lhs;whnf
 exact rq
 exact fun h=>cq (hcont9 (IntKind.i64.wrap (s3+1)) (fun _=>0) h)
 exact fun h=>cq (hcont9 (IntKind.i64.wrap (s3+1)) (fun _=>0) h)
 intro h;cases sj h
 exact kq (hr10 (fun _=>0))
 refine lrc ?_ ?_
 intro v e;subst e;cases sj h;rfl
 intro t a28 e;subst e
 dsimp only at h
 conv=>lhs;whnf
 revert h
 exact rz
theorem R1:∀ n,N7 n
 | 0=>by unfold N7 Jt;intros;rename_i h;exact absurd h (by intro h;cases h)
 | n+1=>have ih:=R1 n
   Zq n ih
theorem Zp {n:Nat}:Jt n:=(R1 n)
theorem A23 {n:Nat} ⦃A7:Aq⦄ ⦃An:(List (List Bool))⦄ ⦃Ab:Int⦄ ⦃C9:(List Bool)⦄ ⦃r:(List Int)⦄:Kg n A7 An Ab C9=some r→CN n 91 [AV.agg [AV.sl 1 (List.map A0 A7.Al),AV.sl 1 (List.map A0 A7.Aj),AV.sl 1 (List.map A0 A7.Aw)],AV.sl 1 (List.map B6 An),iA Ab,AV.own 0 0 (List.length C9)] [Ob.arr 1 (List.map Av C9)]=some (AV.sl 1 (List.map A0 r),[Ob.arr 1 (List.map Av C9)]):=by
 intro h;rcases n with _|n;cases h
 rw[Kg] at h
 refine Au Tryz.func91 (by rfl) rfl rfl (B4 rfl) ?_
 intro call hc;conv=>lhs;whnf
 revert h
 refine cr hc (fun _ h=>P2 h) ?_;intro y1
 intro h;refine Ae h ?_;clear h;intro o11 ho11 h
 refine lq (σ:=Int) (τ:=Unit) (ν:=(List Int)) 0 (fun s3 a5=>Ax 56 [(1,AV.sl 1 (List.map B6 An)),(2,iA Ab),(4,AV.ptr 1 0),(9,AV.sl 1 (List.map Ag y1)),(10,iA s3)]) (fun s3 a5=>[Ob.arr 1 (List.map Av C9),Ob.var 66 [AV.sl 1 (List.map A0 A7.Al),AV.sl 1 (List.map A0 A7.Aj),AV.sl 1 (List.map A0 A7.Aw)]]) (fun _ a28=>Ax 56 []) (fun _ a28=>[Ob.arr 1 (List.map Av C9),Ob.var 66 [AV.sl 1 (List.map A0 A7.Al),AV.sl 1 (List.map A0 A7.Aj),AV.sl 1 (List.map A0 A7.Aw)]]) (fun v=>(AV.sl 1 (List.map A0 v),[Ob.arr 1 (List.map Av C9)])) (fun k s=>E2 n A7 An Ab y1 k s) (fun s=>rfl) o11 n 0 (fun _=>0) ho11 ?_ ?_
 intro k4 s3 a5 K6 cont7 hK8 hcont9 h hr10
 replace h:E2 n A7 An Ab y1 (k4+1) s3=some o11:=h
 rw[E2] at h
 conv=>lhs;whnf
 revert h
 refine br ?_ ?_
 refine ix ?_;intro x13
 refine ca hc (fun _ h=>P5 h) ?_;intro y14
 refine br ?_ ?_
 refine ix ?_;intro x17
 refine ca hc (fun _ h=>Le h) ?_;intro y18
 refine br ?_ ?_
 refine ix ?_;intro x21
 intro h;cases sj h
 refine(hK8 _ _).trans ?_
 refine Eq.trans ?_ (Eq.symm (show _=some _ from hr10))
 conv=>lhs;whnf
 try simp only[ls]
 exact fq (y:=some (AV.sl 1 (List.map A0 x21),[Ob.arr 1 (List.map Av C9)]))
 refine ix ?_;intro x22
 refine ca hc (fun _ h=>X4 h) ?_;intro y23
 refine ca hc (fun _ h=>Zp h) ?_;intro y25
 refine br ?_ ?_
 intro h;cases sj h
 refine(hK8 _ _).trans ?_
 refine Eq.trans ?_ (Eq.symm (show _=some _ from hr10))
 conv=>lhs;whnf
 try simp only[ls]
 exact fq (y:=some (AV.sl 1 (List.map A0 y25),[Ob.arr 1 (List.map Av C9)]))
 exact fun h=>cq (hcont9 (IntKind.i64.wrap (s3+1)) (fun _=>0) h)
 exact fun h=>cq (hcont9 (IntKind.i64.wrap (s3+1)) (fun _=>0) h)
 intro h;cases sj h
 exact kq (hr10 (fun _=>0))
 refine lrc ?_ ?_
 intro v e;subst e;cases sj h;rfl
 intro t a28 e;subst e
 dsimp only at h
 conv=>lhs;whnf
 revert h
 intro h;cases sj h
 try simp only[ls]
 exact fq (y:=some (AV.sl 1 [],[Ob.arr 1 (List.map Av C9)]))
theorem A22 {n:Nat} ⦃A7:Aq⦄ ⦃An:(List (List Bool))⦄ ⦃Ab:Int⦄ ⦃r:(List Int)⦄:Kk n A7 An Ab=some r→CN n 55 [AV.agg [AV.sl 1 (List.map A0 A7.Al),AV.sl 1 (List.map A0 A7.Aj),AV.sl 1 (List.map A0 A7.Aw)],AV.sl 1 (List.map B6 An),iA Ab] []=some (AV.sl 1 (List.map A0 r),[]):=by
 intro h;rcases n with _|n;cases h
 rw[Kk] at h
 refine Au Tryz.func55 (by rfl) rfl rfl (B4 rfl) ?_
 intro call hc;conv=>lhs;whnf
 revert h
 refine ca hc (fun _ h=>Px h) ?_;intro y1
 refine br ?_ ?_
 intro h
 refine Ds h ?_;clear h;intro hc5 h
 try simp only[ls]
 refine B0 (by first|exact Pq (B:=1) hc5 rfl (by kernel_rfl)|exact O5 (B:=1) hc5 (by kernel_rfl)) ?_
 have hr4:List.replicate (((An.length:Nat):Int)).toNat [bA false]=List.map Av (List.replicate (((An.length:Nat):Int)).toNat false:List Bool):=by rw[List.map_replicate];rfl
 simp only[hr4,ls]
 conv=>lhs;whnf
 revert h
 intro h;refine Ae h ?_;clear h;intro o15 ho15 h
 refine lq (σ:=(Int×(List Bool))) (τ:=(List Bool)) (ν:=(List Int)) 0 (fun(s6,s7) a9=>Ax 31 [(1,AV.sl 1 (List.map B6 An)),(2,iA Ab),(3,AV.ptr 0 0),(7,AV.own 1 0 (List.length s7)),(8,iA s6)]) (fun(s6,s7) a9=>[Ob.var 66 [AV.sl 1 (List.map A0 A7.Al),AV.sl 1 (List.map A0 A7.Aj),AV.sl 1 (List.map A0 A7.Aw)],Ob.arr 1 (List.map Av s7)]) (fun x20 a19=>Ax 31 [(1,AV.sl 1 (List.map B6 An)),(2,iA Ab),(3,AV.ptr 0 0),(7,AV.own 1 0 (List.length x20))]) (fun x20 a19=>[Ob.var 66 [AV.sl 1 (List.map A0 A7.Al),AV.sl 1 (List.map A0 A7.Aj),AV.sl 1 (List.map A0 A7.Aw)],Ob.arr 1 (List.map Av x20)]) (fun v=>(AV.sl 1 (List.map A0 v),[])) (fun k s=>Ep n An k s.1 s.2) (fun s=>rfl) o15 n (0,(List.replicate (((An.length:Nat):Int)).toNat false:List Bool)) (fun _=>0) ho15 ?_ ?_
 intro k8 ss a9 K10 cont11 hK12 hcont13 h hr14
 obtain⟨s6,s7⟩:=ss
 replace h:Ep n An (k8+1) s6 s7=some o15:=h
 rw[Ep] at h
 conv=>lhs;whnf
 revert h
 refine br ?_ ?_
 intro h
 refine Ae h ?_;clear h;intro x17 hx17 h
 try simp only[ls]
 refine B0 (by first|exact C4 hx17|exact Dh hx17|exact Ed hx17|exact Bz hx17|(have q:=C4 hx17;simp only[List.length_set] at q;exact q)|(have q:=Bz hx17;simp only[List.length_set,Nat.zero_add] at q ⊢;exact q)) ?_
 conv=>lhs;whnf
 try simp only[Nat.zero_add,Ci (f:=Av) hx17,Bh,ls]
 conv=>lhs;whnf
 revert h
 intro h
 have hs18:Bq (List.map Av s7) s6.toNat [bA true]=List.map Av (List.set s7 s6.toNat true):=by rw[B8,List.map_set];rfl
 have hs18_u:Bq (List.map Av s7) s6.toNat (Bn (Av x17) 0 [bA true])=List.map Av (List.set s7 s6.toNat true):=by rw[B8,List.map_set];rfl
 try simp only[Nat.zero_add,Ci (f:=Av) hx17]
 conv=>lhs;whnf
 try simp only[hs18,hs18_u]
 conv=>lhs;whnf
 revert h
 exact fun h=>cq (hcont13 (IntKind.i64.wrap (s6+1),(List.set s7 s6.toNat true)) (fun _=>0) h)
 intro h;cases sj h
 exact kq (hr14 (fun _=>0))
 refine lrc ?_ ?_
 intro v e;subst e;cases sj h;rfl
 intro x20 a19 e;subst e
 dsimp only at h
 conv=>lhs;whnf
 revert h
 refine cr hc (fun _ h=>A23 h) ?_;intro y21
 exact rz
 exact rz
theorem A73 {n:Nat} ⦃A7:Aq⦄ ⦃An:(List (List Bool))⦄ ⦃Ab:Int⦄ ⦃r:(List Int)⦄:Ml n A7 An Ab=some r→CN n 54 [AV.agg [AV.sl 1 (List.map A0 A7.Al),AV.sl 1 (List.map A0 A7.Aj),AV.sl 1 (List.map A0 A7.Aw)],AV.sl 1 (List.map B6 An),iA Ab] []=some (AV.sl 1 (List.map A0 r),[]):=by
 intro h;rcases n with _|n;cases h
 rw[Ml] at h
 refine Au Tryz.func54 (by rfl) rfl rfl (B4 rfl) ?_
 intro call hc;conv=>lhs;whnf
 revert h
 refine ca hc (fun _ h=>Px h) ?_;intro y1
 refine br ?_ ?_
 refine ca hc (fun _ h=>A1g h) ?_;intro y4
 intro h;refine Ae h ?_;clear h;intro o14 ho14 h
 refine lq (σ:=Int) (τ:=Unit) (ν:=(List Int)) 0 (fun s6 a8=>Ax 34 [(1,AV.sl 1 (List.map B6 An)),(2,iA Ab),(3,AV.ptr 0 0),(7,AV.sl 1 (List.map Ag y4)),(8,iA s6)]) (fun s6 a8=>[Ob.var 66 [AV.sl 1 (List.map A0 A7.Al),AV.sl 1 (List.map A0 A7.Aj),AV.sl 1 (List.map A0 A7.Aw)]]) (fun _ a21=>Ax 34 []) (fun _ a21=>[Ob.var 66 [AV.sl 1 (List.map A0 A7.Al),AV.sl 1 (List.map A0 A7.Aj),AV.sl 1 (List.map A0 A7.Aw)]]) (fun v=>(AV.sl 1 (List.map A0 v),[])) (fun k s=>Gf n A7 An Ab y4 k s) (fun s=>rfl) o14 n 0 (fun _=>0) ho14 ?_ ?_
 intro k7 s6 a8 K9 cont10 hK11 hcont12 h hr13
 replace h:Gf n A7 An Ab y4 (k7+1) s6=some o14:=h
 rw[Gf] at h
 conv=>lhs;whnf
 revert h
 refine br ?_ ?_
 refine ix ?_;intro x16
 refine ca hc (fun _ h=>Le h) ?_;intro y17
 refine br ?_ ?_
 refine ix ?_;intro x20
 intro h;cases sj h
 refine(hK11 _ _).trans ?_
 refine Eq.trans ?_ (Eq.symm (show _=some _ from hr13))
 conv=>lhs;whnf
 exact rq
 exact fun h=>cq (hcont12 (IntKind.i64.wrap (s6+1)) (fun _=>0) h)
 intro h;cases sj h
 exact kq (hr13 (fun _=>0))
 refine lrc ?_ ?_
 intro v e;subst e;cases sj h;rfl
 intro t a21 e;subst e
 dsimp only at h
 conv=>lhs;whnf
 revert h
 exact rz
 exact rz
theorem A6w {n:Nat} ⦃A7:Aq⦄ ⦃An:(List (List Bool))⦄ ⦃Ab:Int⦄ ⦃Bl:Int⦄ ⦃r:(List Int)⦄:Iq n A7 An Ab Bl=some r→CN n 36 [AV.agg [AV.sl 1 (List.map A0 A7.Al),AV.sl 1 (List.map A0 A7.Aj),AV.sl 1 (List.map A0 A7.Aw)],AV.sl 1 (List.map B6 An),iA Ab,iA Bl] []=some (AV.sl 1 (List.map A0 r),[]):=by
 intro h;rcases n with _|n;cases h
 rw[Iq] at h
 refine Au Tryz.func36 (by rfl) rfl rfl (B4 rfl) ?_
 intro call hc;conv=>lhs;whnf
 revert h
 refine br ?_ ?_
 refine ca hc (fun _ h=>A73 h) ?_;intro y2
 exact rz
 refine br ?_ ?_
 refine ca hc (fun _ h=>A22 h) ?_;intro y5
 exact rz
 exact rz
theorem A6t {n:Nat} ⦃A7:Aq⦄ ⦃An:(List (List Bool))⦄ ⦃Ab:Int⦄ ⦃Bl:Int⦄ ⦃Bi:(List Int)⦄ ⦃r:Bool⦄:M9 n A7 An Ab Bl Bi=some r→CN n 92 [AV.agg [AV.sl 1 (List.map A0 A7.Al),AV.sl 1 (List.map A0 A7.Aj),AV.sl 1 (List.map A0 A7.Aw)],AV.sl 1 (List.map B6 An),iA Ab,iA Bl,AV.sl 1 (List.map A0 Bi)] []=some (bA r,[]):=by
 intro h;rcases n with _|n;cases h
 rw[M9] at h
 refine Au Tryz.func92 (by rfl) rfl rfl (B4 rfl) ?_
 intro call hc;conv=>lhs;whnf
 revert h
 refine ca hc (fun _ h=>Px h) ?_;intro y1
 refine br ?_ ?_
 refine br ?_ ?_
 refine br ?_ ?_
 exact rz
 intro h
 refine Ds h ?_;clear h;intro hc7 h
 try simp only[ls]
 refine B0 (by first|exact Pq (B:=1) hc7 rfl (by kernel_rfl)|exact O5 (B:=1) hc7 (by kernel_rfl)) ?_
 have hr6:List.replicate (((An.length:Nat):Int)).toNat [bA false]=List.map Av (List.replicate (((An.length:Nat):Int)).toNat false:List Bool):=by rw[List.map_replicate];rfl
 simp only[hr6,ls]
 conv=>lhs;whnf
 revert h
 intro h;refine Ae h ?_;clear h;intro o17 ho17 h
 refine lq (σ:=(Int×(List Bool))) (τ:=(List Bool)) (ν:=Bool) 0 (fun(s8,s9) a11=>Ax 77 [(1,AV.sl 1 (List.map B6 An)),(2,iA Ab),(3,iA Bl),(4,AV.sl 1 (List.map A0 Bi)),(5,AV.ptr 0 0),(11,AV.own 1 0 (List.length s9)),(12,iA s8)]) (fun(s8,s9) a11=>[Ob.var 66 [AV.sl 1 (List.map A0 A7.Al),AV.sl 1 (List.map A0 A7.Aj),AV.sl 1 (List.map A0 A7.Aw)],Ob.arr 1 (List.map Av s9)]) (fun x30 a29=>Ax 77 [(1,AV.sl 1 (List.map B6 An)),(2,iA Ab),(3,iA Bl),(4,AV.sl 1 (List.map A0 Bi)),(5,AV.ptr 0 0),(11,AV.own 1 0 (List.length x30))]) (fun x30 a29=>[Ob.var 66 [AV.sl 1 (List.map A0 A7.Al),AV.sl 1 (List.map A0 A7.Aj),AV.sl 1 (List.map A0 A7.Aw)],Ob.arr 1 (List.map Av x30)]) (fun v=>(bA v,[])) (fun k s=>J3 n An Bi k s.1 s.2) (fun s=>rfl) o17 n (0,(List.replicate (((An.length:Nat):Int)).toNat false:List Bool)) (fun _=>0) ho17 ?_ ?_
 intro k10 ss a11 K12 cont13 hK14 hcont15 h hr16
 obtain⟨s8,s9⟩:=ss
 replace h:J3 n An Bi (k10+1) s8 s9=some o17:=h
 rw[J3] at h
 conv=>lhs;whnf
 revert h
 refine br ?_ ?_
 refine ix ?_;intro x19
 refine br ?_ ?_
 intro h;cases sj h
 refine(hK14 _ _).trans ?_
 refine Eq.trans ?_ (Eq.symm (show _=some _ from hr16))
 conv=>lhs;whnf
 exact rq
 refine ix ?_;intro x21
 refine br ?_ ?_
 intro h;cases sj h
 refine(hK14 _ _).trans ?_
 refine Eq.trans ?_ (Eq.symm (show _=some _ from hr16))
 conv=>lhs;whnf
 exact rq
 refine ix ?_;intro x23
 intro h
 refine Ae h ?_;clear h;intro x24 hx24 h
 try simp only[ls]
 refine B0 (by first|exact C4 hx24|exact Dh hx24|exact Ed hx24|exact Bz hx24|(have q:=C4 hx24;simp only[List.length_set] at q;exact q)|(have q:=Bz hx24;simp only[List.length_set,Nat.zero_add] at q ⊢;exact q)) ?_
 conv=>lhs;whnf
 try simp only[Nat.zero_add,Ci (f:=Av) hx24,Bh,ls]
 conv=>lhs;whnf
 revert h
 refine br ?_ ?_
 intro h;cases sj h
 refine(hK14 _ _).trans ?_
 refine Eq.trans ?_ (Eq.symm (show _=some _ from hr16))
 conv=>lhs;whnf
 exact rq
 refine ix ?_;intro x26
 intro h
 refine Ae h ?_;clear h;intro x27 hx27 h
 try simp only[ls]
 refine B0 (by first|exact C4 hx27|exact Dh hx27|exact Ed hx27|exact Bz hx27|(have q:=C4 hx27;simp only[List.length_set] at q;exact q)|(have q:=Bz hx27;simp only[List.length_set,Nat.zero_add] at q ⊢;exact q)) ?_
 conv=>lhs;whnf
 try simp only[Nat.zero_add,Ci (f:=Av) hx27,Bh,ls]
 conv=>lhs;whnf
 revert h
 intro h
 have hs28:Bq (List.map Av s9) x26.toNat [bA true]=List.map Av (List.set s9 x26.toNat true):=by rw[B8,List.map_set];rfl
 have hs28_u:Bq (List.map Av s9) x26.toNat (Bn (Av x27) 0 [bA true])=List.map Av (List.set s9 x26.toNat true):=by rw[B8,List.map_set];rfl
 try simp only[Nat.zero_add,Ci (f:=Av) hx27]
 conv=>lhs;whnf
 try simp only[hs28,hs28_u]
 conv=>lhs;whnf
 revert h
 exact fun h=>cq (hcont15 (IntKind.i64.wrap (s8+1),(List.set s9 x26.toNat true)) (fun _=>0) h)
 intro h;cases sj h
 exact kq (hr16 (fun _=>0))
 refine lrc ?_ ?_
 intro v e;subst e;cases sj h;rfl
 intro x30 a29 e;subst e
 dsimp only at h
 conv=>lhs;whnf
 revert h
 refine cr hc (fun _ h=>P2 h) ?_;intro y31
 refine br ?_ ?_
 refine ca hc (fun _ h=>Le h) ?_;intro y34
 exact rz
 exact rz
 intro h
 refine Ds h ?_;clear h;intro hc38 h
 try simp only[ls]
 refine B0 (by first|exact Pq (B:=1) hc38 rfl (by kernel_rfl)|exact O5 (B:=1) hc38 (by kernel_rfl)) ?_
 have hr37:List.replicate (((An.length:Nat):Int)).toNat [bA false]=List.map Av (List.replicate (((An.length:Nat):Int)).toNat false:List Bool):=by rw[List.map_replicate];rfl
 simp only[hr37,ls]
 conv=>lhs;whnf
 revert h
 intro h;refine Ae h ?_;clear h;intro o48 ho48 h
 refine lq (σ:=(Int×(List Bool))) (τ:=(List Bool)) (ν:=Bool) 0 (fun(s39,s40) a42=>Ax 77 [(1,AV.sl 1 (List.map B6 An)),(2,iA Ab),(3,iA Bl),(4,AV.sl 1 (List.map A0 Bi)),(5,AV.ptr 0 0),(11,AV.own 1 0 (List.length s40)),(12,iA s39)]) (fun(s39,s40) a42=>[Ob.var 66 [AV.sl 1 (List.map A0 A7.Al),AV.sl 1 (List.map A0 A7.Aj),AV.sl 1 (List.map A0 A7.Aw)],Ob.arr 1 (List.map Av s40)]) (fun x61 a60=>Ax 77 [(1,AV.sl 1 (List.map B6 An)),(2,iA Ab),(3,iA Bl),(4,AV.sl 1 (List.map A0 Bi)),(5,AV.ptr 0 0),(11,AV.own 1 0 (List.length x61))]) (fun x61 a60=>[Ob.var 66 [AV.sl 1 (List.map A0 A7.Al),AV.sl 1 (List.map A0 A7.Aj),AV.sl 1 (List.map A0 A7.Aw)],Ob.arr 1 (List.map Av x61)]) (fun v=>(bA v,[])) (fun k s=>J4 n An Bi k s.1 s.2) (fun s=>rfl) o48 n (0,(List.replicate (((An.length:Nat):Int)).toNat false:List Bool)) (fun _=>0) ho48 ?_ ?_
 intro k41 ss a42 K43 cont44 hK45 hcont46 h hr47
 obtain⟨s39,s40⟩:=ss
 replace h:J4 n An Bi (k41+1) s39 s40=some o48:=h
 rw[J4] at h
 conv=>lhs;whnf
 revert h
 refine br ?_ ?_
 refine ix ?_;intro x50
 refine br ?_ ?_
 intro h;cases sj h
 refine(hK45 _ _).trans ?_
 refine Eq.trans ?_ (Eq.symm (show _=some _ from hr47))
 conv=>lhs;whnf
 exact rq
 refine ix ?_;intro x52
 refine br ?_ ?_
 intro h;cases sj h
 refine(hK45 _ _).trans ?_
 refine Eq.trans ?_ (Eq.symm (show _=some _ from hr47))
 conv=>lhs;whnf
 exact rq
 refine ix ?_;intro x54
 intro h
 refine Ae h ?_;clear h;intro x55 hx55 h
 try simp only[ls]
 refine B0 (by first|exact C4 hx55|exact Dh hx55|exact Ed hx55|exact Bz hx55|(have q:=C4 hx55;simp only[List.length_set] at q;exact q)|(have q:=Bz hx55;simp only[List.length_set,Nat.zero_add] at q ⊢;exact q)) ?_
 conv=>lhs;whnf
 try simp only[Nat.zero_add,Ci (f:=Av) hx55,Bh,ls]
 conv=>lhs;whnf
 revert h
 refine br ?_ ?_
 intro h;cases sj h
 refine(hK45 _ _).trans ?_
 refine Eq.trans ?_ (Eq.symm (show _=some _ from hr47))
 conv=>lhs;whnf
 exact rq
 refine ix ?_;intro x57
 intro h
 refine Ae h ?_;clear h;intro x58 hx58 h
 try simp only[ls]
 refine B0 (by first|exact C4 hx58|exact Dh hx58|exact Ed hx58|exact Bz hx58|(have q:=C4 hx58;simp only[List.length_set] at q;exact q)|(have q:=Bz hx58;simp only[List.length_set,Nat.zero_add] at q ⊢;exact q)) ?_
 conv=>lhs;whnf
 try simp only[Nat.zero_add,Ci (f:=Av) hx58,Bh,ls]
 conv=>lhs;whnf
 revert h
 intro h
 have hs59:Bq (List.map Av s40) x57.toNat [bA true]=List.map Av (List.set s40 x57.toNat true):=by rw[B8,List.map_set];rfl
 have hs59_u:Bq (List.map Av s40) x57.toNat (Bn (Av x58) 0 [bA true])=List.map Av (List.set s40 x57.toNat true):=by rw[B8,List.map_set];rfl
 try simp only[Nat.zero_add,Ci (f:=Av) hx58]
 conv=>lhs;whnf
 try simp only[hs59,hs59_u]
 conv=>lhs;whnf
 revert h
 exact fun h=>cq (hcont46 (IntKind.i64.wrap (s39+1),(List.set s40 x57.toNat true)) (fun _=>0) h)
 intro h;cases sj h
 exact kq (hr47 (fun _=>0))
 refine lrc ?_ ?_
 intro v e;subst e;cases sj h;rfl
 intro x61 a60 e;subst e
 dsimp only at h
 conv=>lhs;whnf
 revert h
 refine cr hc (fun _ h=>P2 h) ?_;intro y62
 refine br ?_ ?_
 refine ca hc (fun _ h=>Le h) ?_;intro y65
 exact rz
 exact rz
 exact rz
theorem A4s {n:Nat} ⦃A7:Aq⦄ ⦃An:(List (List Bool))⦄ ⦃Ab:Int⦄ ⦃Bl:Int⦄ ⦃Bi:(List Int)⦄ ⦃r:((List Int)×Bool)⦄:No n A7 An Ab Bl Bi=some r→CN n 56 [AV.agg [AV.sl 1 (List.map A0 A7.Al),AV.sl 1 (List.map A0 A7.Aj),AV.sl 1 (List.map A0 A7.Aw)],AV.sl 1 (List.map B6 An),iA Ab,iA Bl,AV.sl 1 (List.map A0 Bi)] []=some (AV.tup [AV.sl 1 (List.map A0 r.1),bA r.2],[]):=by
 intro h;rcases n with _|n;cases h
 rw[No] at h
 refine Au Tryz.func56 (by rfl) rfl rfl (B4 rfl) ?_
 intro call hc;conv=>lhs;whnf
 revert h
 refine ca hc (fun _ h=>A6t h) ?_;intro y1
 refine br ?_ ?_
 refine cr hc (fun _ h=>A1j h) ?_;intro y4
 refine ca hc (fun _ h=>Pk h) ?_;intro y6
 intro h;refine Ae h ?_;clear h;intro o18 ho18 h
 refine lq (σ:=(Int×Int×(List Int))) (τ:=(Int×(List Int))) (ν:=((List Int)×Bool)) 0 (fun(s8,s9,s10) a12=>Ax 83 [(1,AV.sl 1 (List.map B6 An)),(2,iA Ab),(3,iA Bl),(4,AV.sl 1 (List.map A0 Bi)),(5,AV.ptr 0 0),(12,AV.sl 1 (List.map Av y4)),(13,iA s8),(14,AV.row 1 (List.length s10)),(15,iA s9)]) (fun(s8,s9,s10) a12=>[Ob.var 66 [AV.sl 1 (List.map A0 A7.Al),AV.sl 1 (List.map A0 A7.Aj),AV.sl 1 (List.map A0 A7.Aw)],Ob.row 3 1 (List.map A0 s10)]) (fun(x31,x32) a30=>Ax 83 [(4,AV.sl 1 (List.map A0 Bi)),(5,AV.ptr 0 0),(12,AV.sl 1 (List.map Av y4)),(13,iA x31),(14,AV.row 1 (List.length x32))]) (fun(x31,x32) a30=>[Ob.var 66 [AV.sl 1 (List.map A0 A7.Al),AV.sl 1 (List.map A0 A7.Aj),AV.sl 1 (List.map A0 A7.Aw)],Ob.row 3 1 (List.map A0 x32)]) (fun v=>(AV.tup [AV.sl 1 (List.map A0 v.1),bA v.2],[])) (fun k s=>He n A7 An Ab Bl y4 k s.1 s.2.1 s.2.2) (fun s=>rfl) o18 n (y6,0,([]:List Int)) (fun _=>0) ho18 ?_ ?_
 intro k11 ss a12 K13 cont14 hK15 hcont16 h hr17
 obtain⟨s8,s9,s10⟩:=ss
 replace h:He n A7 An Ab Bl y4 (k11+1) s8 s9 s10=some o18:=h
 rw[He] at h
 conv=>lhs;whnf
 revert h
 refine br ?_ ?_
 refine ca hc (fun _ h=>A6x h) ?_;intro y20
 refine br ?_ ?_
 exact fun h=>cq (hcont16 (s8,IntKind.i64.wrap (s9+1),s10) (fun _=>0) h)
 refine ca hc (fun _ h=>U4 h) ?_;intro y23
 refine ar (ap A0 (List.map A0 s10) s10 (List.map A0 y23.1) y23.1) ?_
 refine br ?_ ?_
 refine ar (ap A0 (List.map A0 (s10++y23.1)) (s10++y23.1) ([[iA s9]]) ([s9]:List Int)) ?_
 exact fun h=>cq (hcont16 (y20.2,IntKind.i64.wrap (s9+1),((s10++y23.1)++([s9]:List Int))) (fun _=>0) h)
 exact fun h=>cq (hcont16 (y20.1,IntKind.i64.wrap (s9+1),(s10++y23.1)) (fun _=>0) h)
 intro h;cases sj h
 exact kq (hr17 (fun _=>0))
 refine lrc ?_ ?_
 intro v e;subst e;cases sj h;rfl
 intro t a30 e;subst e
 obtain⟨x31,x32⟩:=t
 dsimp only at h
 conv=>lhs;whnf
 revert h
 refine ca hc (fun _ h=>Pk h) ?_;intro y33
 refine ca hc (fun _ h=>U4 h) ?_;intro y35
 refine ar (ap A0 (List.map A0 x32) x32 (List.map A0 y35.1) y35.1) ?_
 intro h;cases sj h
 try simp only[ls]
 exact fq (y:=some (AV.tup [AV.sl 1 (List.take (List.length ((x32++y35.1))) (List.map A0 (x32++y35.1))),bA true],[]))
 exact rz
theorem A74 {n:Nat} ⦃Ee:Bf⦄ ⦃An:(List (List Bool))⦄ ⦃Ab:Int⦄ ⦃Bl:Int⦄ ⦃Bi:(List Int)⦄ ⦃r:((List Int)×(List Int)×Bool)⦄:Kf n Ee An Ab Bl Bi=some r→CN n 37 [AV.agg [AV.sl 4 (List.map Cj Ee.C5),AV.sl 1 (List.map A0 Ee.Cs.Al),AV.sl 1 (List.map A0 Ee.Cs.Aj),AV.sl 1 (List.map A0 Ee.Cs.Aw),AV.sl 1 (List.map A0 Ee.D8),AV.sl 1 (List.map A0 Ee.I8)],AV.sl 1 (List.map B6 An),iA Ab,iA Bl,AV.sl 1 (List.map A0 Bi)] []=some (AV.tup [AV.sl 1 (List.map A0 r.1),AV.sl 1 (List.map A0 r.2.1),bA r.2.2],[]):=by
 intro h;rcases n with _|n;cases h
 rw[Kf] at h
 refine Au Tryz.func37 (by rfl) rfl rfl (B4 rfl) ?_
 intro call hc;conv=>lhs;whnf
 revert h
 refine ca hc (fun _ h=>A4s h) ?_;intro y1
 refine br ?_ ?_
 refine ca hc (fun _ h=>Pk h) ?_;intro y4
 refine ca hc (fun _ h=>Ui h) ?_;intro y6
 exact rz
 exact rz
theorem A4r {n:Nat} ⦃Aa:Ak⦄ ⦃E3:(List OpS)⦄ ⦃Ur:Ac⦄ ⦃r:Bool⦄:Rg n Aa E3 Ur=some r→CN n 100 [AV.agg [iA (Aa.mod),AV.sl 1 (List.map A0 (Aa.init)),AV.sl 1 (List.map A0 (Aa.regs)),AV.sl 1 (List.map Ah (Aa.code))],AV.sl 3 (List.map C0 E3),AV.agg [AV.sl 1 (List.map A0 (Ur.pc)),AV.sl 1 (List.map Ag (Ur.regs)),AV.sl 1 (List.map A0 (Ur.mem)),AV.sl 1 (List.map Am (Ur.buf))]] []=some (bA r,[]):=by
 intro h;rcases n with _|n;cases h
 rw[Rg] at h
 refine Au Tryz.func100 (by rfl) rfl rfl (B4 rfl) ?_
 intro call hc;conv=>lhs;whnf
 revert h
 refine cr hc (fun y1 h=>(show CN n 128 [AV.sl 3 (List.map C0 E3),iA (Aa.mod),AV.sl 1 [],AV.sl 1 (List.map Ag (Ur.regs)),AV.sl 1 (List.map A0 (Ur.mem))] []=some (AV.tup [iA y1.1,bA y1.2],[]) from Uy (r:=y1) h)) ?_;intro y1
 refine br ?_ ?_
 exact rz
 exact rz
theorem A5r {n:Nat} ⦃Aa:Ak⦄ ⦃Ba:Bf⦄ ⦃Tg:(List OpS)⦄ ⦃Th:Bool⦄ ⦃Pg:Bool⦄ ⦃r:Int⦄:Rb n Aa Ba Tg Th Pg=some r→CN n 64 [AV.agg [iA (Aa.mod),AV.sl 1 (List.map A0 (Aa.init)),AV.sl 1 (List.map A0 (Aa.regs)),AV.sl 1 (List.map Ah (Aa.code))],AV.agg [AV.sl 4 (List.map Cj Ba.C5),AV.sl 1 (List.map A0 Ba.Cs.Al),AV.sl 1 (List.map A0 Ba.Cs.Aj),AV.sl 1 (List.map A0 Ba.Cs.Aw),AV.sl 1 (List.map A0 Ba.D8),AV.sl 1 (List.map A0 Ba.I8)],AV.sl 3 (List.map C0 Tg),bA Th,bA Pg] []=some (iA r,[]):=by
 intro h;rcases n with _|n;cases h
 rw[Rb] at h
 refine Au Tryz.func64 (by rfl) rfl rfl (B4 rfl) ?_
 intro call hc;conv=>lhs;whnf
 revert h
 intro h;refine Ae h ?_;clear h;intro o10 ho10 h
 refine lq (σ:=(Bool×Int)) (τ:=Unit) (ν:=Int) 0 (fun(s1,s2) a4=>Ax 43 [(2,AV.sl 3 (List.map C0 Tg)),(3,bA s1),(4,bA Pg),(5,AV.ptr 0 0),(6,AV.ptr 1 0),(11,iA s2)]) (fun(s1,s2) a4=>[Ob.var 61 [iA (Aa.mod),AV.sl 1 (List.map A0 (Aa.init)),AV.sl 1 (List.map A0 (Aa.regs)),AV.sl 1 (List.map Ah (Aa.code))],Ob.var 68 [AV.sl 4 (List.map Cj Ba.C5),AV.sl 1 (List.map A0 Ba.Cs.Al),AV.sl 1 (List.map A0 Ba.Cs.Aj),AV.sl 1 (List.map A0 Ba.Cs.Aw),AV.sl 1 (List.map A0 Ba.D8),AV.sl 1 (List.map A0 Ba.I8)]]) (fun _ a21=>Ax 43 []) (fun _ a21=>[Ob.var 61 [iA (Aa.mod),AV.sl 1 (List.map A0 (Aa.init)),AV.sl 1 (List.map A0 (Aa.regs)),AV.sl 1 (List.map Ah (Aa.code))],Ob.var 68 [AV.sl 4 (List.map Cj Ba.C5),AV.sl 1 (List.map A0 Ba.Cs.Al),AV.sl 1 (List.map A0 Ba.Cs.Aj),AV.sl 1 (List.map A0 Ba.Cs.Aw),AV.sl 1 (List.map A0 Ba.D8),AV.sl 1 (List.map A0 Ba.I8)]]) (fun v=>(iA v,[])) (fun k s=>Id n Aa Ba Tg Pg k s.1 s.2) (fun s=>rfl) o10 n (Th,0) (fun _=>0) ho10 ?_ ?_
 intro k3 ss a4 K5 cont6 hK7 hcont8 h hr9
 obtain⟨s1,s2⟩:=ss
 replace h:Id n Aa Ba Tg Pg (k3+1) s1 s2=some o10:=h
 rw[Id] at h
 conv=>lhs;whnf
 revert h
 refine br ?_ ?_
 refine ix ?_;intro x12
 refine ca hc (fun _ h=>A4r h) ?_;intro y13
 refine br ?_ ?_
 refine br ?_ ?_
 refine ix ?_;intro x17
 refine ca hc (fun _ h=>Vh h) ?_;intro y18
 refine br ?_ ?_
 intro h;cases sj h
 refine(hK7 _ _).trans ?_
 refine Eq.trans ?_ (Eq.symm (show _=some _ from hr9))
 conv=>lhs;whnf
 exact rq
 exact fun h=>cq (hcont8 (true,IntKind.i64.wrap (s2+1)) (fun _=>0) h)
 intro h;cases sj h
 refine(hK7 _ _).trans ?_
 refine Eq.trans ?_ (Eq.symm (show _=some _ from hr9))
 conv=>lhs;whnf
 exact rq
 exact fun h=>cq (hcont8 (s1,IntKind.i64.wrap (s2+1)) (fun _=>0) h)
 intro h;cases sj h
 exact kq (hr9 (fun _=>0))
 refine lrc ?_ ?_
 intro v e;subst e;cases sj h;rfl
 intro t a21 e;subst e
 dsimp only at h
 conv=>lhs;whnf
 revert h
 exact rz
theorem A9i {n:Nat} ⦃Aa:Ak⦄ ⦃Ba:Bf⦄ ⦃N5:Int⦄ ⦃Ph:(List OpS)⦄ ⦃r:C1⦄:Ua n Aa Ba N5 Ph=some r→CN n 40 [AV.agg [iA (Aa.mod),AV.sl 1 (List.map A0 (Aa.init)),AV.sl 1 (List.map A0 (Aa.regs)),AV.sl 1 (List.map Ah (Aa.code))],AV.agg [AV.sl 4 (List.map Cj Ba.C5),AV.sl 1 (List.map A0 Ba.Cs.Al),AV.sl 1 (List.map A0 Ba.Cs.Aj),AV.sl 1 (List.map A0 Ba.Cs.Aw),AV.sl 1 (List.map A0 Ba.D8),AV.sl 1 (List.map A0 Ba.I8)],iA N5,AV.sl 3 (List.map C0 Ph)] []=some (AV.agg [bA r.Q6,bA r.Agh,AV.sl 1 (List.map A0 r.Aal)],[]):=by
 intro h;rcases n with _|n;cases h
 rw[Ua] at h
 refine Au Tryz.func40 (by rfl) rfl rfl (B4 rfl) ?_
 intro call hc;conv=>lhs;whnf
 revert h
 refine br ?_ ?_
 exact rz
 refine br ?_ ?_
 exact rz
 refine ca hc (fun _ h=>A5r h) ?_;intro y3
 refine br ?_ ?_
 refine ca hc (fun _ h=>Ui h) ?_;intro y6
 exact rz
 exact rz
theorem A8q {n:Nat} ⦃Ft:Cf⦄ ⦃Jp:Ak⦄ ⦃Hq:Bf⦄ ⦃r:((List C1)×Int)⦄:Nc n Ft Jp Hq=some r→CN n 15 [AV.agg [iA Ft.Ql,AV.sl 3 (List.map Ia Ft.Mm),AV.sl 4 (List.map F8 Ft.E4),AV.sl 3 (List.map Gm Ft.Cw)],AV.agg [iA (Jp.mod),AV.sl 1 (List.map A0 (Jp.init)),AV.sl 1 (List.map A0 (Jp.regs)),AV.sl 1 (List.map Ah (Jp.code))],AV.agg [AV.sl 4 (List.map Cj Hq.C5),AV.sl 1 (List.map A0 Hq.Cs.Al),AV.sl 1 (List.map A0 Hq.Cs.Aj),AV.sl 1 (List.map A0 Hq.Cs.Aw),AV.sl 1 (List.map A0 Hq.D8),AV.sl 1 (List.map A0 Hq.I8)]] []=some (AV.tup [AV.sl 3 (List.map G5 r.1),iA r.2],[]):=by
 intro h;rcases n with _|n;cases h
 rw[Nc] at h
 refine Au Tryz.func15 (by rfl) rfl rfl (B4 rfl) ?_
 intro call hc;conv=>lhs;whnf
 revert h
 refine ca hc (fun _ h=>Ww h) ?_;intro y1
 refine br ?_ ?_
 exact rz
 refine ca hc (fun _ h=>A5b h) ?_;intro y4
 refine br ?_ ?_
 intro h;refine Ae h ?_;clear h;intro o16 ho16 h
 refine lq (σ:=(Int×(List C1))) (τ:=(List C1)) (ν:=((List C1)×Int)) 0 (fun(s7,s8) a10=>Ax 61 [(3,AV.ptr 0 0),(4,AV.ptr 1 0),(5,AV.ptr 2 0),(11,AV.row 4 (List.length s8)),(12,iA s7)]) (fun(s7,s8) a10=>[Ob.var 27 [iA Ft.Ql,AV.sl 3 (List.map Ia Ft.Mm),AV.sl 4 (List.map F8 Ft.E4),AV.sl 3 (List.map Gm Ft.Cw)],Ob.var 61 [iA (Jp.mod),AV.sl 1 (List.map A0 (Jp.init)),AV.sl 1 (List.map A0 (Jp.regs)),AV.sl 1 (List.map Ah (Jp.code))],Ob.var 68 [AV.sl 4 (List.map Cj Hq.C5),AV.sl 1 (List.map A0 Hq.Cs.Al),AV.sl 1 (List.map A0 Hq.Cs.Aj),AV.sl 1 (List.map A0 Hq.Cs.Aw),AV.sl 1 (List.map A0 Hq.D8),AV.sl 1 (List.map A0 Hq.I8)],Ob.var 61 [iA (y1.1.mod),AV.sl 1 (List.map A0 (y1.1.init)),AV.sl 1 (List.map A0 (y1.1.regs)),AV.sl 1 (List.map Ah (y1.1.code))],Ob.row 39 3 (List.map G5 s8)]) (fun x27 a26=>Ax 61 [(11,AV.row 4 (List.length x27))]) (fun x27 a26=>[Ob.var 27 [iA Ft.Ql,AV.sl 3 (List.map Ia Ft.Mm),AV.sl 4 (List.map F8 Ft.E4),AV.sl 3 (List.map Gm Ft.Cw)],Ob.var 61 [iA (Jp.mod),AV.sl 1 (List.map A0 (Jp.init)),AV.sl 1 (List.map A0 (Jp.regs)),AV.sl 1 (List.map Ah (Jp.code))],Ob.var 68 [AV.sl 4 (List.map Cj Hq.C5),AV.sl 1 (List.map A0 Hq.Cs.Al),AV.sl 1 (List.map A0 Hq.Cs.Aj),AV.sl 1 (List.map A0 Hq.Cs.Aw),AV.sl 1 (List.map A0 Hq.D8),AV.sl 1 (List.map A0 Hq.I8)],Ob.var 61 [iA (y1.1.mod),AV.sl 1 (List.map A0 (y1.1.init)),AV.sl 1 (List.map A0 (y1.1.regs)),AV.sl 1 (List.map Ah (y1.1.code))],Ob.row 39 3 (List.map G5 x27)]) (fun v=>(AV.tup [AV.sl 3 (List.map G5 v.1),iA v.2],[])) (fun k s=>Mj n Ft Jp Hq k s.1 s.2) (fun s=>rfl) o16 n (0,([]:List C1)) (fun _=>0) ho16 ?_ ?_
 intro k9 ss a10 K11 cont12 hK13 hcont14 h hr15
 obtain⟨s7,s8⟩:=ss
 replace h:Mj n Ft Jp Hq (k9+1) s7 s8=some o16:=h
 rw[Mj] at h
 conv=>lhs;whnf
 revert h
 refine br ?_ ?_
 refine ix ?_;intro x18
 refine ca hc (fun _ h=>A3x h) ?_;intro y19
 refine ix ?_;intro x21
 refine ca hc (fun _ h=>A9i h) ?_;intro y22
 refine ar (ap G5 (List.map G5 s8) s8 ([[bA y22.Q6,bA y22.Agh,AV.sl 1 (List.map A0 y22.Aal)]]) ([y22]:List C1)) ?_
 exact fun h=>cq (hcont14 (IntKind.i64.wrap (s7+1),(s8++([y22]:List C1))) (fun _=>0) h)
 intro h;cases sj h
 exact kq (hr15 (fun _=>0))
 refine lrc ?_ ?_
 intro v e;subst e;cases sj h;rfl
 intro x27 a26 e;subst e
 dsimp only at h
 conv=>lhs;whnf
 revert h
 intro h;cases sj h
 try simp only[ls]
 exact fq (y:=some (AV.tup [AV.sl 3 (List.take (List.length x27) (List.map G5 x27)),iA (0)],[]))
 exact rz
theorem A14 {n:Nat} ⦃Aa:Ak⦄ ⦃Ba:Bf⦄ ⦃B1:Int⦄ ⦃Bd:Int⦄ ⦃Q7:Int⦄ ⦃r:(Int×(List Int)×(List Int))⦄:Jg n Aa Ba B1 Bd Q7=some r→CN n 14 [AV.agg [iA (Aa.mod),AV.sl 1 (List.map A0 (Aa.init)),AV.sl 1 (List.map A0 (Aa.regs)),AV.sl 1 (List.map Ah (Aa.code))],AV.agg [AV.sl 4 (List.map Cj Ba.C5),AV.sl 1 (List.map A0 Ba.Cs.Al),AV.sl 1 (List.map A0 Ba.Cs.Aj),AV.sl 1 (List.map A0 Ba.Cs.Aw),AV.sl 1 (List.map A0 Ba.D8),AV.sl 1 (List.map A0 Ba.I8)],iA B1,iA Bd,iA Q7] []=some (AV.tup [iA r.1,AV.sl 1 (List.map A0 r.2.1),AV.sl 1 (List.map A0 r.2.2)],[]):=by
 intro h;rcases n with _|n;cases h
 rw[Jg] at h
 refine Au Tryz.func14 (by rfl) rfl rfl (B4 rfl) ?_
 intro call hc;conv=>lhs;whnf
 revert h
 refine br ?_ ?_
 exact rz
 refine br ?_ ?_
 exact rz
 refine ca hc (fun _ h=>A3z h) ?_;intro y3
 refine br ?_ ?_
 refine ix ?_;intro x6
 refine ca hc (fun _ h=>Ui h) ?_;intro y7
 exact rz
 refine ca hc (fun _ h=>A0t h) ?_;intro y9
 refine ca hc (fun _ h=>Lr h) ?_;intro y11
 refine ca hc (fun _ h=>A6w h) ?_;intro y13
 refine ca hc (fun _ h=>A74 h) ?_;intro y15
 refine br ?_ ?_
 exact rz
 exact rz
theorem A39 {n:Nat} ⦃Ft:Cf⦄ ⦃Az:Int⦄ ⦃Co:Int⦄ ⦃Bl:Int⦄ ⦃U8:Int⦄ ⦃r:(Gc×Int×Int)⦄:Km n Ft Az Co Bl U8=some r→CN n 5 [AV.agg [iA Ft.Ql,AV.sl 3 (List.map Ia Ft.Mm),AV.sl 4 (List.map F8 Ft.E4),AV.sl 3 (List.map Gm Ft.Cw)],iA Az,iA Co,iA Bl,iA U8] []=some (AV.tup [AV.agg [iA r.1.R3,AV.sl 1 (List.map A0 r.1.A1c),AV.sl 1 (List.map A0 r.1.A5s),AV.sl 3 (List.map G5 r.1.Fz),iA r.1.A1d,iA r.1.A5t],iA r.2.1,iA r.2.2],[]):=by
 intro h;rcases n with _|n;cases h
 rw[Km] at h
 refine Au Tryz.func5 (by rfl) rfl rfl (B4 rfl) ?_
 intro call hc;conv=>lhs;whnf
 revert h
 refine ca hc (fun _ h=>Ww h) ?_;intro y1
 refine br ?_ ?_
 exact rz
 refine br ?_ ?_
 exact rz
 refine br ?_ ?_
 exact rz
 refine ca hc (fun _ h=>Aa0 h) ?_;intro y6
 refine br ?_ ?_
 exact rz
 refine ca hc (fun _ h=>A14 h) ?_;intro y9
 refine ca hc (fun _ h=>A8q h) ?_;intro y11
 exact rz
theorem A17 {n:Nat} ⦃Zm:Int⦄ ⦃Hh:Int⦄ ⦃Jl:(Int×Int×Int)⦄ ⦃r:Bool⦄:Jh n Zm Hh Jl=some r→CN n 3 [AV.int .u8 Zm,AV.int .u8 Hh,AV.agg [AV.int .u8 Jl.1,AV.int .u8 Jl.2.1,AV.int .u8 Jl.2.2]] []=some (bA r,[]):=by
 intro h;rcases n with _|n;cases h
 rw[Jh] at h
 refine Au Tryz.func3 (by rfl) rfl rfl (B4 rfl) ?_
 intro call hc;conv=>lhs;whnf
 revert h
 refine ca hc (fun _ h=>Ab1 h) ?_;intro y1
 refine br ?_ ?_
 exact rz
 refine ca hc (fun _ h=>A39 h) ?_;intro y4
 refine br ?_ ?_
 refine ca hc (fun _ h=>Ux h) ?_;intro y7
 exact rz
 refine br ?_ ?_
 exact rz
 refine br ?_ ?_
 exact rz
 intro h;refine Ae h ?_;clear h;intro o19 ho19 h
 refine lq (σ:=Int) (τ:=Unit) (ν:=Bool) 0 (fun s11 a13=>Ax 88 [(9,AV.ptr 1 0),(11,AV.ptr 2 0),(14,iA s11)]) (fun s11 a13=>[Ob.var 22 [AV.int .u8 Jl.1,AV.int .u8 Jl.2.1,AV.int .u8 Jl.2.2],Ob.var 27 [iA y1.1.Ql,AV.sl 3 (List.map Ia y1.1.Mm),AV.sl 4 (List.map F8 y1.1.E4),AV.sl 3 (List.map Gm y1.1.Cw)],Ob.var 34 [iA y4.1.R3,AV.sl 1 (List.map A0 y4.1.A1c),AV.sl 1 (List.map A0 y4.1.A5s),AV.sl 3 (List.map G5 y4.1.Fz),iA y4.1.A1d,iA y4.1.A5t]]) (fun _ a23=>Ax 88 [(9,AV.ptr 1 0),(11,AV.ptr 2 0)]) (fun _ a23=>[Ob.var 22 [AV.int .u8 Jl.1,AV.int .u8 Jl.2.1,AV.int .u8 Jl.2.2],Ob.var 27 [iA y1.1.Ql,AV.sl 3 (List.map Ia y1.1.Mm),AV.sl 4 (List.map F8 y1.1.E4),AV.sl 3 (List.map Gm y1.1.Cw)],Ob.var 34 [iA y4.1.R3,AV.sl 1 (List.map A0 y4.1.A1c),AV.sl 1 (List.map A0 y4.1.A5s),AV.sl 3 (List.map G5 y4.1.Fz),iA y4.1.A1d,iA y4.1.A5t]]) (fun v=>(bA v,[])) (fun k s=>E5 n y4 k s) (fun s=>rfl) o19 n 0 (fun _=>0) ho19 ?_ ?_
 intro k12 s11 a13 K14 cont15 hK16 hcont17 h hr18
 replace h:E5 n y4 (k12+1) s11=some o19:=h
 rw[E5] at h
 conv=>lhs;whnf
 revert h
 refine br ?_ ?_
 refine ix ?_;intro x21
 refine br ?_ ?_
 exact fun h=>cq (hcont17 (IntKind.i64.wrap (s11+1)) (fun _=>0) h)
 intro h;cases sj h
 refine(hK16 _ _).trans ?_
 refine Eq.trans ?_ (Eq.symm (show _=some _ from hr18))
 conv=>lhs;whnf
 exact rq
 intro h;cases sj h
 exact kq (hr18 (fun _=>0))
 refine lrc ?_ ?_
 intro v e;subst e;cases sj h;rfl
 intro t a23 e;subst e
 dsimp only at h
 conv=>lhs;whnf
 revert h
 refine br ?_ ?_
 refine ca hc (fun _ h=>Ux h) ?_;intro y25
 exact rz
 exact rz
end Go.Proofs.YtfabdppicogkmaaGreat
end
