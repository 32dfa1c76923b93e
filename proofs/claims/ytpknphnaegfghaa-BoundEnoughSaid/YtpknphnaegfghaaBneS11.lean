/- Parts of the proofs: what they lean on. Conditions: none. -/
import Derived.Test.YtpknphnaegfghaaBneS10
section
namespace Go.Proofs.Ytpknphnaegfghaa
open Go.RowKit
set_option linter.unusedVariables false
set_option maxRecDepth 100000
noncomputable def Na {α:Type} (enc:α→List AV) (f:α→AV) (args:List AV):Option AV:=by
 classical
 exact if h:∃ x,args=enc x then some (f h.choose) else none
theorem A1j {α:Type} {enc:α→List AV} {f:α→AV} (hi:∀ x y,enc x=enc y→x=y) (x:α):Na enc f (enc x)=some (f x):=by
 have h:∃ y,enc x=enc y:=⟨x,rfl⟩
 unfold Na
 rw[dif_pos h]
 exact congrArg (fun z=>some (f z)) (hi _ _ h.choose_spec).symm
theorem A9z {P:Program} {g:FuncId} {α:Type} {enc:α→List AV} {f:α→AV} (hc:∀ x vs w,Reps (SAll w) w [] [] (enc x) vs→Calls P g vs.toArray w fun e w'=>∃ u Sn,e=.returned u∧Below w.heap.size w w'∧Rep Sn w' [] [] (f x) u∧∀ b o,Sn b o→w.heap.size≤b∧∃ v,stay w' b o=some v∧v.2.2=(0,0)):J6 P g (Na enc f):=by
 intro args v h S w vs hS hr
 unfold Na at h
 split at h
 ·rename_i hx
  cases h
  have:=hx.choose_spec
  generalize hx.choose=x at *
  subst this
  refine(hc x vs w (Reps.mono (fun b o h=>⟨hS b o h,rfl⟩) hr (.refl _ _))).mono ?_
  rintro e w' ⟨u,Sn,rfl,hb,hu,hn⟩
  obtain⟨k1,k2⟩:=M7 hS hb
  refine⟨u,fun b o=>S b o∨Sn b o,rfl,Rep.mono (fun b o h=>⟨.inr h,rfl⟩) hu (.refl _ _),fun b o h=>?_,fun b o h=>⟨.inl h,(k1 b o h).2⟩,fun b o h=>?_,hb⟩
  ·rcases h with h | h
   ·exact k2 b o h
   ·obtain⟨_,v,h1,h2⟩:=hn b o h
    exact⟨v,h1,fun _=>h2⟩
  ·rcases h with h | h
   ·exact .inl h
   ·exact .inr (hn b o h).1
 ·cases h
theorem Ab7 {P:Program} {g:FuncId} {α:Type} {enc:α→List AV} {f:α→AV} (hc:∀ x vs w,Reps (SAll w) w [] [] (enc x) vs→Calls P g vs.toArray w fun e w'=>∃ u,e=.returned u∧Below w.heap.size w w'∧∀ S,Rep S w' [] [] (f x) u):J6 P g (Na enc f) :=
 A9z fun x vs w h=>(hc x vs w h).mono fun e w' ⟨u,h1,h2,h3⟩=>⟨u,fun _ _=>False,h1,h2,h3 _,fun _ _ h=>h.elim⟩
theorem Acu (x y:A8) (h:aC x=aC y):x=y:=by
 cases x;cases y
 simp only[aC,Df,AV.agg.injEq,List.cons.injEq,and_true] at h
 obtain⟨h1,h2,h3,h4⟩:=h
 have e2:∀ a b:List Int,Ad a=Ad b→a=b:=fun a b h=>Sc (by simpa only [Ad,List.cons.injEq,and_true] using h)
 have e3:∀ a b:A2,Ak a=Ak b→a=b:=fun a b h=>by
  cases a;cases b
  simp only[Ak,List.cons.injEq,AV.int.injEq,true_and,and_true] at h
  simp[h.1,h.2]
 have e4:∀ a b:List A2,Ae a=Ae b→a=b:=fun a b h=>by
  simp only[Ae,List.cons.injEq,and_true] at h
  exact Ls e3 (AV.sl.inj h).2
 simp[Sc h1,Ls e2 (AV.sl.inj h2).2,Sc h3,Ls e4 (AV.sl.inj h4).2]
abbrev A6l:={p:Ac×A8×Int×Int×Nat // Ax p.1=true∧Dk p.1=true∧(1≤p.2.2.1∧p.2.2.1≤3)∧(1≤p.2.2.2.1∧p.2.2.2.1≤4)∧Cj p.1 p.2.1 p.2.2.1 p.2.2.2.1∧p.2.2.2.2 < p.1.regs.length}
def S7 (p:A6l):List AV:=[aU p.1.1,aC p.1.2.1,.int .i64 p.1.2.2.1,.int .i64 p.1.2.2.2.1,.int .i64 (p.1.2.2.2.2:Int)]
theorem A9r (x y:A6l) (h:S7 x=S7 y):x=y:=by
 obtain⟨⟨a,b,c,d,e⟩,hx⟩:=x
 obtain⟨⟨a',b',c',d',e'⟩,hy⟩:=y
 simp only[S7,List.cons.injEq] at h
 obtain⟨h1,h2,h3,h4,h5,_⟩:=h
 have e1:=Zh _ _ h1
 have e2:=Acu _ _ h2
 injection h3 with _ h3;injection h4 with _ h4;injection h5 with _ h5
 have h5:=Int.ofNat.inj h5
 subst e1;subst e2;subst h3;subst h4;subst h5
 rfl
abbrev Xn:={p:A8×Int×Nat×Int // ∃ u room,Ax u=true∧(1≤p.2.1∧p.2.1≤3)∧(1≤room∧room≤4)∧Cj u p.1 p.2.1 room∧p.2.2.1 < u.regs.length}
def Nh (p:Xn):List AV:=[aC p.1.1,.int .i64 p.1.2.1,.int .i64 (p.1.2.2.1:Int),.int .i64 p.1.2.2.2]
theorem A6h (x y:Xn) (h:Nh x=Nh y):x=y:=by
 obtain⟨⟨a,b,c,d⟩,hx⟩:=x
 obtain⟨⟨a',b',c',d'⟩,hy⟩:=y
 simp only[Nh,List.cons.injEq] at h
 obtain⟨h1,h2,h3,h4,_⟩:=h
 have e1:=Acu _ _ h1
 injection h2 with _ h2;injection h3 with _ h3;injection h4 with _ h4
 have h3:=Int.ofNat.inj h3
 subst e1;subst h2;subst h3;subst h4
 rfl
def N8 (p:Ac×Int×Int):List AV:=[aU p.1,.int .i64 p.2.1,.int .i64 p.2.2]
theorem A62 (x y:Ac×Int×Int) (h:N8 x=N8 y):x=y:=by
 obtain⟨a,b,c⟩:=x
 obtain⟨a',b',c'⟩:=y
 simp only[N8,List.cons.injEq] at h
 obtain⟨h1,h2,h3,_⟩:=h
 rw[Zh _ _ h1]
 injection h2 with _ h2;injection h3 with _ h3
 rw[h2,h3]
noncomputable def Aiz (p:A6l):AV:=.tup [aC (T7 p.1.1 p.1.2.1 p.1.2.2.1 p.1.2.2.2.1 p.1.2.2.2.2).1,.bool (T7 p.1.1 p.1.2.1 p.1.2.2.1 p.1.2.2.2.1 p.1.2.2.2.2).2]
noncomputable def Aci (p:Xn):AV:=.tup [aC (H6 p.1.1 p.1.2.1 p.1.2.2.1 p.1.2.2.2).1,.bool (H6 p.1.1 p.1.2.1 p.1.2.2.1 p.1.2.2.2).2]
noncomputable def A3n:Abh:=[
 (22,Wj aU Ax),
 (4,Wj aU Dk),
 (1000000,fun _=>none)]
noncomputable def XB0:Ext:=Wa A3n
noncomputable def Aep:Abh :=
 (26,Na S7 Aiz) ::
 (27,Na Nh Aci) ::
 (6,Na N8 fun p=>.tup [.int .i64 (Dw p.1 p.2.1 p.2.2).1,.int .i64 (Dw p.1 p.2.1 p.2.2).2]) ::
 (5,Ah2) :: A3n
noncomputable def XT:Ext:=Wa Aep
theorem Lt {P:Program} {H:B9} {X:Ext} {n:Nat} {f:FuncId} {g:List AV→Option AV} {args:List AV} {v:AV} (hx:X f=some g) (h:g args=some v):G7 P H X (n+1) f args []=some (v,[]):=by
 simp only[G7,Nu,hx,h]
theorem A7s {P:Program} {g:FuncId}:J6 P g (fun _=>none):=by intro args v h;cases h
theorem Xi:∀ p ∈ A3n,J6 Try.prog p.1 p.2:=by
 unfold A3n
 refine List.forall_mem_cons.2 ⟨Z7 Ux (fun x v w h=>(A7g x v w h).mono fun _ _ h=>h),?_⟩
 refine List.forall_mem_cons.2 ⟨Z7 Ux (fun x v w h=>(A8c x v w h).mono fun _ _ h=>h),?_⟩
 exact List.forall_mem_cons.2 ⟨A7s,fun _ h=>by cases h⟩
theorem A2t:Nc Try.prog XB0:=Rr Xi
def Hk:Nat→Ac→Option Bool
 | 0,_=>none
 | _+1,u=>some (Ax u)
def On:Nat→Ac→Option Bool
 | 0,_=>none
 | _+1,u=>some (Dk u)
def Hi:Nat→Option Bool
 | 0=>none
 | _+1=>some true
def Oo:Nat→Ac→Int→Int→Option (Int×Int)
 | 0,_,_,_=>none
 | _+1,u,m,r=>some (Dw u m r)
open Classical in
noncomputable def Nw:Nat→Ac→A8→Int→Int→Int→Option (A8×Bool)
 | 0,_,_,_,_,_=>none
 | _+1,u,c,m,r,t=>if Ax u=true∧Dk u=true∧(1≤m∧m≤3)∧(1≤r∧r≤4)∧Cj u c m r∧0≤t∧t.toNat < u.regs.length then some (T7 u c m r t.toNat) else none
open Classical in
noncomputable def Hm:Nat→A8→Int→Int→Int→Option (A8×Bool)
 | 0,_,_,_,_=>none
 | _+1,c,m,t,l=>if 0≤t∧∃ u room,Ax u=true∧(1≤m∧m≤3)∧(1≤room∧room≤4)∧Cj u c m room∧t.toNat < u.regs.length then some (H6 c m t.toNat l) else none
theorem Sf {n:Nat} ⦃u:Ac⦄ ⦃r:Bool⦄:Hk n u=some r→G7 Try.prog HH XT n 22 [AV.agg [AV.int .i64 (u.mod),AV.sl 1 (List.map A0 (u.init)),AV.sl 1 (List.map A0 (u.regs)),AV.sl 1 (List.map Aa (u.code))]] []=some (AV.bool (r),[]):=by
 cases n with
 | zero=>intro hm;cases hm
 | succ n=>intro hm;obtain rfl:=Option.some.inj hm;exact Lt rfl (A4y (enc:=aU) Zh u)
theorem A0h {n:Nat} ⦃u:Ac⦄ ⦃r:Bool⦄:On n u=some r→G7 Try.prog HH XT n 4 [AV.agg [AV.int .i64 (u.mod),AV.sl 1 (List.map A0 (u.init)),AV.sl 1 (List.map A0 (u.regs)),AV.sl 1 (List.map Aa (u.code))]] []=some (AV.bool (r),[]):=by
 cases n with
 | zero=>intro hm;cases hm
 | succ n=>intro hm;obtain rfl:=Option.some.inj hm;exact Lt rfl (A4y (enc:=aU) Zh u)
theorem Ie {n:Nat} ⦃r:Bool⦄:Hi n=some r→G7 Try.prog HH XT n 5 [] []=some (AV.bool (r),[]):=by
 cases n with
 | zero=>intro hm;cases hm
 | succ n=>intro hm;obtain rfl:=Option.some.inj hm;exact Lt rfl rfl
theorem A1p {n:Nat} ⦃u:Ac⦄ ⦃m:Int⦄ ⦃l:Int⦄ ⦃r:Int×Int⦄:Oo n u m l=some r→G7 Try.prog HH XT n 6 [AV.agg [AV.int .i64 (u.mod),AV.sl 1 (List.map A0 (u.init)),AV.sl 1 (List.map A0 (u.regs)),AV.sl 1 (List.map Aa (u.code))],AV.int .i64 (m),AV.int .i64 (l)] []=some (AV.tup [AV.int .i64 (r.1),AV.int .i64 (r.2)],[]):=by
 cases n with
 | zero=>intro hm;cases hm
 | succ n=>intro hm;obtain rfl:=Option.some.inj hm;exact Lt rfl (A1j (enc:=N8) A62 (u,m,l))
theorem A4h {n:Nat} ⦃u:Ac⦄ ⦃c:A8⦄ ⦃m:Int⦄ ⦃l:Int⦄ ⦃t:Int⦄ ⦃r:A8×Bool⦄:Nw n u c m l t=some r→G7 Try.prog HH XT n 26 [AV.agg [AV.int .i64 (u.mod),AV.sl 1 (List.map A0 (u.init)),AV.sl 1 (List.map A0 (u.regs)),AV.sl 1 (List.map Aa (u.code))],AV.agg [AV.sl 1 (List.map A0 (c.pc)),AV.sl 1 (List.map Ad (c.regs)),AV.sl 1 (List.map A0 (c.mem)),AV.sl 1 (List.map Ae (c.buf))],AV.int .i64 (m),AV.int .i64 (l),AV.int .i64 (t)] []=some (AV.tup [AV.agg [AV.sl 1 (List.map A0 (r.1.pc)),AV.sl 1 (List.map Ad (r.1.regs)),AV.sl 1 (List.map A0 (r.1.mem)),AV.sl 1 (List.map Ae (r.1.buf))],AV.bool (r.2)],[]):=by
 cases n with
 | zero=>intro hm;cases hm
 | succ n =>
  intro hm
  rw[Nw] at hm
  split at hm
  ·rename_i h
   obtain⟨h1,h2,h3,h4,h5,h6,h7⟩:=h
   obtain⟨k,rfl⟩:∃ k:Nat,t=k:=⟨t.toNat,by omega⟩
   obtain rfl:=Option.some.inj hm
   exact Lt rfl (A1j (enc:=S7) A9r ⟨(u,c,m,l,k),h1,h2,h3,h4,h5,h7⟩)
  ·cases hm
theorem Sb {n:Nat} ⦃c:A8⦄ ⦃m:Int⦄ ⦃t:Int⦄ ⦃l:Int⦄ ⦃r:A8×Bool⦄:Hm n c m t l=some r→G7 Try.prog HH XT n 27 [AV.agg [AV.sl 1 (List.map A0 (c.pc)),AV.sl 1 (List.map Ad (c.regs)),AV.sl 1 (List.map A0 (c.mem)),AV.sl 1 (List.map Ae (c.buf))],AV.int .i64 (m),AV.int .i64 (t),AV.int .i64 (l)] []=some (AV.tup [AV.agg [AV.sl 1 (List.map A0 (r.1.pc)),AV.sl 1 (List.map Ad (r.1.regs)),AV.sl 1 (List.map A0 (r.1.mem)),AV.sl 1 (List.map Ae (r.1.buf))],AV.bool (r.2)],[]):=by
 cases n with
 | zero=>intro hm;cases hm
 | succ n =>
  intro hm
  rw[Hm] at hm
  split at hm
  ·rename_i h
   obtain⟨h0,h⟩:=h
   obtain⟨k,rfl⟩:∃ k:Nat,t=k:=⟨t.toNat,by omega⟩
   obtain rfl:=Option.some.inj hm
   exact Lt rfl (A1j (enc:=Nh) A6h ⟨(c,m,k,l),h⟩)
  ·cases hm
set_option linter.unusedSimpArgs false
theorem Sim.add_var {P:Program} {base:Nat} {S:Nat→Nat→Prop} {w:World} {hp:Hp} {φ:List Pl} (hs:Sim P base S w hp φ) {b:Nat} {vs ex:List Value} {E:TypeId} (t:TypeId) {cs:List AV} (hb:base≤b) (hh:w.heap[b]?=some (.cells (vs++ex).toArray E (0,0))) (hr:Reps S w hp φ cs vs) (h1:De vs) (hS:∀ o,¬ S b o) (hn:∀ i,A7 φ i≠some b):Sim P base S w (hp++[.var t cs]) (φ++[.blk b]):=by
 have hE:HpExt hp φ (hp++[.var t cs]) (φ++[.blk b]):=HpExt.append hs.len _ _
 have hat:∀ i b',A7 (φ++[.blk b]) i=some b'→(i < φ.length∧A7 φ i=some b')∨(i=φ.length∧b'=b):=by
  intro i b' h
  unfold A7 at h ⊢
  rcases Nat.lt_or_ge i φ.length with hi | hi
  ·rw[List.getElem?_append_left hi] at h;exact .inl ⟨hi,h⟩
  ·rw[List.getElem?_append_right hi] at h
   cases hk:i - φ.length with
   | zero=>rw[hk] at h;simp at h;exact .inr ⟨by omega,h.symm⟩
   | succ k=>rw[hk] at h;simp at h
 refine⟨by simp[hs.len],hs.low,hs.cell,fun id o ho=>?_,fun i j b' hi hj=>?_⟩
 ·rcases Nat.lt_or_ge id hp.length with hi | hi
  ·rw[List.getElem?_append_left hi] at ho
   exact(hs.obj id o ho).keep (.refl _ _) hE (List.getElem?_append_left (by rw[hs.len];exact hi)) fun b hb=>⟨rfl,fun _=>.rfl⟩
  ·rw[List.getElem?_append_right hi] at ho
   cases hk:id - hp.length with
   | succ k=>rw[hk] at ho;simp at ho
   | zero =>
    rw[hk] at ho
    simp at ho
    subst ho
    have:id=φ.length:=by rw[hs.len];omega
    subst this
    exact⟨b,vs,E,by simp,hb,⟨ex,hh⟩,Reps.mono (.refl _ _) hr hE,h1,hS⟩
 ·rcases hat i b' hi with ⟨i1,i2⟩ | ⟨i1,i2⟩<;>rcases hat j b' hj with ⟨j1,j2⟩ | ⟨j1,j2⟩
  ·exact hs.apart i j b' i2 j2
  ·subst j2;exact absurd i2 (hn i)
  ·subst i2;exact absurd j2 (hn j)
  ·omega
theorem Sim.more {P:Program} {base:Nat} {S S':Nat→Nat→Prop} {w:World} (hs:Sim P base S w [] []) (hS:∀ b o,S b o→S' b o) (hc:∀ b o,S' b o→S b o∨∃ v,stay w b o=some v∧v.2.2=(0,0)):Sim P base S' w [] [] :=
 ⟨rfl,hs.low,fun b o h=>(hc b o h).elim (fun h=>hs.cell b o h) fun⟨v,h1,h2⟩=>⟨v,h1,fun _=>h2⟩,fun id o ho=>by simp at ho,fun i j b hi=>by simp[A7] at hi⟩
theorem Qs {P:Program} {base:Nat} {S S':Nat→Nat→Prop} {w:World} {hp:Hp} {φ:List Pl} (hs:Sim P base S w hp φ) {id n cap:Nat} {v:Value} (h:Rep S w hp φ (.vsl id 0 n cap) v) {t:TypeId} {cs:List AV} (ho:hp[id]?=some (.var t cs)) {els:List (List AV)} (hl:els.length=n) (hn:n≤cs.length) (hcap:n≤cap∧cap≤maxLen) (hcl:∀ (k:Nat) (a:AV) (x:Value),k < n→cs[k]?=some a→Rep S w hp φ a x→∃ a',els[k]?=some [a']∧Rep S' w [] [] a' x) (hin:∀ b,φ[id]?=some (.blk b)→∀ o,o < n→S' b o):Rep S' w [] [] (.sl 1 els) v:=by
 obtain⟨b,hb,rfl⟩:=h.vsl_inv
 obtain⟨b',vs,E,g1,g2,⟨ex,g3⟩,g4,g5,g6⟩:=hs.obj id _ ho
 rw[hb] at g1;cases g1
 have hlv:=g4.length
 subst hl
 have e:els.length=(List.range els.length).length:=by simp
 have hget:∀ k,k < els.length→∃ x,vs[k]?=some x∧w.cell? ⟨b,k,none⟩=some x:=fun k hk=>by
  have hk':k < vs.length:=by omega
  refine⟨vs[k],A5 hk',?_⟩
  have h2:(vs++ex)[k]?=some vs[k]:=by rw[List.getElem?_append_left hk'];exact A5 hk'
  simp only[World.cell?,g3]
  simpa using h2
 have hR:Repss S' w els ((vs.take els.length).map fun x=>[x]):=by
  refine Xy (by rw[A4,List.length_take];omega) fun k el us e1 e2=>?_
  have hk:k < els.length:=(List.getElem?_eq_some_iff.1 e1).1
  obtain⟨x,hx,_⟩:=hget k hk
  rw[List.getElem?_map,List.getElem?_take,if_pos hk,hx] at e2
  cases e2
  have hk2:k < cs.length:=by omega
  obtain⟨a0,ha0,hr0⟩:=g4.get hx
  obtain⟨a',ha,hra⟩:=hcl k a0 x hk ha0 hr0
  rw[ha] at e1
  cases e1
  exact⟨.cons _ _ _ _ _ _ hra (.nil _ _),fun u hu=>by simp at hu;subst hu;exact g5 u (List.mem_of_getElem? hx)⟩
 refine .sl _ _ 1 els _ _ cap hR ⟨fun us hu=>?_,fun j us t u h1 h2=>?_⟩ ⟨hcap.1,hcap.2,fun h=>by cases h⟩
 ·obtain⟨x,_,rfl⟩:=List.mem_map.1 hu
  rfl
 ·rw[List.getElem?_map,List.getElem?_take] at h1
  split at h1
  ·rename_i hj
   obtain⟨x,hx,hc⟩:=hget j hj
   rw[hx] at h1
   cases h1
   cases t with
   | succ t=>simp at h2
   | zero =>
    cases h2
    exact⟨b,0,rfl,by simpa using hin b hb j hj,by simpa using hc⟩
  ·cases h1
theorem Yt {P:Program} {g:FuncId} {α:Type} {enc:α→List AV} {f:α→AV} (hc:∀ (x:α) (S:Nat→Nat→Prop) (vs:List Value) (w:World),(∀ b o,S b o→∃ u,stay w b o=some u)→Reps S w [] [] (enc x) vs→Calls P g vs.toArray w fun e w'=>∃ u S',e=.returned u∧Rep S' w' [] [] (f x) u∧(∀ b o,S' b o→∃ u,stay w' b o=some u∧(w.heap.size≤b→u.2.2=(0,0)))∧SExt S w S' w'∧(∀ b o,S' b o→S b o∨w.heap.size≤b)∧Below w.heap.size w w'):J6 P g (Na enc f):=by
 intro args v h S w vs hS hr
 unfold Na at h
 split at h
 ·rename_i hx
  cases h
  have:=hx.choose_spec
  generalize hx.choose=x at *
  subst this
  exact hc x S vs w hS hr
 ·cases h
end Go.Proofs.Ytpknphnaegfghaa
end
