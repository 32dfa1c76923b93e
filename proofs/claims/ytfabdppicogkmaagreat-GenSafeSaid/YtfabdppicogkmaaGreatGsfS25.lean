/- Parts of the proofs: what they lean on. Conditions: none. -/
import Derived.Test.YtfabdppicogkmaaGreatGsfS24
section
namespace Go.Proofs.YtfabdppicogkmaaGreat
open Go.RowKit
set_option linter.unusedVariables false
set_option linter.unusedSimpArgs false
set_option maxHeartbeats 4000000 in
theorem Ark {S:Nat→Nat→Prop} {w w2:World} {B bD:Nat} {c:Ac} {vsC:List Value} {n gb cb:Nat} {vp vr vm:Value} {xr xb:List Value}
 (hS:∀ b o,S b o→∃ u,stay w b o=some u) (hb:Below w.heap.size w w2) (hB:w.heap.size+2≤B)
 (fC:w2.heap[w.heap.size]?=some (.cells vsC.toArray 90 (0,0)))
 (fR:w2.heap[w.heap.size+1]?=some (.cells #[.slice none 0 0,.slice none 0 0,.slice none 0 0,.slice none 0 0] 90 (0,0)))
 (fD:w2.heap[bD]?=some (.cells #[vp,vr,vm,.slice (some ⟨gb,0,none⟩) n cb] 90 (0,0)))
 (hC:Reps S w [] [] (Cj c) vsC) (oC:E5 vsC)
 (hO:A5h B w2 c vp vr vm (.slice (some ⟨gb,0,none⟩) n cb) xr xb) (hD:B≤bD) (wf:WfC c) (lb:c.buf.length=n) :
 ∃ (L:List Nat) (o3:Ob) (MV:AV) (φ:List Pl),Sim Tryz.prog w.heap.size (SX S w2 w.heap.size L) w2 (Q7 c C6 (c.buf.map aEs) o3 [aIs c.pc,Z7 c.regs,MV,.vsl 2 0 n cb]) φ
   ∧(φ[0]?=some (.blk w.heap.size)∧φ[1]?=some (.blk (w.heap.size+1))∧φ[4]?=some (.blk bD))
   ∧((c.mem=[]∧o3=Br∧MV=.sl 1 [])∨∃ cm,c.mem.length≤cm∧cm≤maxLen∧o3=.var 1000001 (iL c.mem)∧MV=.vsl 3 0 c.mem.length cm)
   ∧(n≤cb∧cb≤maxLen):=by
 obtain⟨xq,hb1,hb2,hb3,hb4⟩:=Rn hO.buf.own
 have lb':(c.buf.map (List.flatMap N9)).length=n:=by rw[A5,lb]
 have lxb:xb.length=n:=hO.buf.len.trans lb'
 have hDc:∀ g cs E,w2.heap[g]?=some (.cells cs E (0,0))→E≠90→g≠bD:=fun g cs E h hE e=>hE (by rw[e] at h;exact Je h fD)
 obtain⟨L,hL⟩:∃ L,[w.heap.size,w.heap.size+1,gb,bD]++vm.ownBlock.toList=L:=⟨_,rfl⟩
 have memL:∀ b,b ∈ L↔(b=w.heap.size∨b=w.heap.size+1∨b=gb∨b=bD)∨vm.ownBlock=some b:=by
  intro b
  rw[← hL]
  simp[or_assoc]
 have tgb:∀ {cs E},w2.heap[gb]?=some (.cells cs E (0,0))→E=152:=fun h=>(Je hb1 h).symm
 have tvm:∀ {g cs E},vm.ownBlock=some g→w2.heap[g]?=some (.cells cs E (0,0))→E=3:=fun hg h=>by
  obtain⟨_,cs',h'⟩:=Kt hO.mem hg
  exact(Je h' h).symm
 have ndb:gb≠bD:=hDc gb _ _ hb1 (by decide)
 have hNot:∀ b,w.heap.size≤b→b ∈ L→∀ o,¬ SX S w2 w.heap.size L b o:=fun b h1 h2 o=>Ais hS h1 h2 o
 have rowsR:∀ (i:Nat) (x:List Int) (v:Value),c.regs[i]?=some x→xr[i]?=some v→Rep (SX S w2 w.heap.size L) w2 [] [] (aIs x) v:=by
  intro i x v h1 h2
  obtain⟨m,hm⟩:=hO.regs.row i v _ h2 (by rw[List.getElem?_map,h1];rfl)
  refine Xu (wf.regs x (List.mem_of_getElem? h1)) hm fun g cs o hg hBg hh ho=>Zl (by omega) (fun hm'=>?_) hh ho
  rcases(memL g).1 hm' with (e | e | e | e) | e
  ·omega
  ·omega
  ·exact absurd (tgb (e ▸ hh)) (by decide)
  ·exact hDc g _ _ hh (by decide) e
  ·exact(hO.pr i v g h2 hg).2 e
 have rowsB:∀ (i:Nat) (x:List A2) (v:Value),c.buf[i]?=some x→xb[i]?=some v→Rep (SX S w2 w.heap.size L) w2 [] [] (aEs x) v:=by
  intro i x v h1 h2
  obtain⟨m,hm⟩:=hO.buf.row i v _ h2 (by rw[List.getElem?_map,h1];rfl)
  refine A6r (wf.buf x (List.mem_of_getElem? h1)) hm fun g cs o hg hBg hh ho=>Zl (by omega) (fun hm'=>?_) hh ho
  rcases(memL g).1 hm' with (e | e | e | e) | e
  ·omega
  ·omega
  ·exact hO.buf.apart i v g h2 hg (by rw[e];rfl)
  ·exact hDc g _ _ hh (by decide) e
  ·exact absurd (tvm e hh) (by decide)
 have repP:Rep (SX S w2 w.heap.size L) w2 [] [] (aIs c.pc) vp:=by
  refine Xu wf.pc hO.pc fun g cs o hg hBg hh ho=>Zl (by omega) (fun hm'=>?_) hh ho
  rcases(memL g).1 hm' with (e | e | e | e) | e
  ·omega
  ·omega
  ·exact absurd (tgb (e ▸ hh)) (by decide)
  ·exact hDc g _ _ hh (by decide) e
  ·exact hO.pm g hg e
 have repR:Rep (SX S w2 w.heap.size L) w2 [] [] (Z7 c.regs) vr:=by
  have hl:=hO.regs.len
  rw[A5] at hl
  have ho:=hO.regs.own
  rw[A5] at ho
  refine Vq (vss:=xr.map fun u=>[u]) (e:=31) (B:=B) ?_ (A68 c.regs xr hl fun i x u h1 h2=>?_) (by intro vs hv;simp at hv;obtain⟨y,_,rfl⟩:=hv;rfl) fun g cs o hg hBg hh ho=>Zl (by omega) (fun hm'=>?_) hh ho
  ·rw[A5,hl]
   have e1:∀ l:List Value,(l.map fun u=>[u]).flatten=l:=fun l=>by induction l<;>simp_all
   rw[e1]
   exact ho
  ·obtain⟨m,hm⟩:=hO.regs.row i u _ h2 (by rw[List.getElem?_map,h1];rfl)
   exact⟨rowsR i x u h1 h2,Mk hm⟩
  ·rcases(memL g).1 hm' with (e | e | e | e) | e
   ·omega
   ·omega
   ·exact absurd (tgb (e ▸ hh)) (by decide)
   ·exact hDc g _ _ hh (by decide) e
   ·exact absurd (tvm e hh) (by decide)
 have c0:Ctx (SX S w2 w.heap.size L) w2 w.heap.size [] [] []:=⟨Akn hS hb L,fun i b h=>by simp[Af] at h⟩
 have c2:=c0.add 90 (b:=w.heap.size) (vs:=vsC) (ex:=[]) (by omega) (by rw[List.append_nil];exact fC) (Reps.lift (Reps.mono (Xe hS hb L) hC (.refl _ _))) oC (hNot _ (by omega) ((memL _).2 (.inl (.inl rfl)))) (by simp)
 have c3:=c2.add 90 (b:=w.heap.size+1) (vs:=[.slice none 0 0,.slice none 0 0,.slice none 0 0,.slice none 0 0]) (ex:=[]) (cs:=C6) (by omega) (by rw[List.append_nil];exact fR) (.cons _ _ _ _ _ _ (.nils _ _) (.cons _ _ _ _ _ _ (.nils _ _) (.cons _ _ _ _ _ _ (.nils _ _) (.cons _ _ _ _ _ _ (.nils _ _) (.nil _ _))))) (by intro v hv;simp at hv;subst hv;rfl) (hNot _ (by omega) ((memL _).2 (.inl (.inr (.inl rfl))))) (by simp)
 have c5:=c3.add 1000001 (b:=gb) (vs:=xb) (ex:=xq) (cs:=c.buf.map aEs) (by omega) hb1 (Xj c.buf xb (by omega) fun i x v h1 h2=>(rowsB i x v h1 h2).lift) (fun v hv=>by
  obtain⟨i,hi,rfl⟩:=List.getElem_of_mem hv
  obtain⟨m,hm⟩:=hO.buf.row i xb[i] _ (A6 hi) (A6 (by omega))
  exact Mk hm) (hNot _ (by omega) ((memL _).2 (.inl (.inr (.inr (.inl rfl)))))) (by simp;omega)
 obtain⟨o3,MV,p5,l6,c6,hl6,hMV,hM5⟩:∃ (o3:Ob) (MV:AV) (p5:Pl) (l6:List Nat),Ctx (SX S w2 w.heap.size L) w2 w.heap.size ([.var 90 (Cj c),.var 90 C6,.var 1000001 (c.buf.map aEs)]++[o3]) ([.blk w.heap.size,.blk (w.heap.size+1),.blk gb]++[p5]) l6∧(∀ b ∈ l6,b < B∨b=gb∨vm.ownBlock=some b)∧(∀ hp φ,φ[3]?=some p5→Rep (SX S w2 w.heap.size L) w2 hp φ MV vm)∧((c.mem=[]∧o3=Br∧MV=.sl 1 [])∨∃ cm,c.mem.length≤cm∧cm≤maxLen∧o3=.var 1000001 (iL c.mem)∧MV=.vsl 3 0 c.mem.length cm):=by
  by_cases hm0:c.mem=[]
  ·refine⟨_,.sl 1 [],_,_,c5.dum,fun b hb'=>?_,fun hp φ _=>?_,.inl ⟨hm0,rfl,rfl⟩⟩
   ·simp at hb';omega
   ·have:=hO.mem
    rw[hm0] at this
    exact(Yv this (by decide)).lift
  ·rcases Kw hO.mem with ⟨_,h0⟩ | ⟨g,cap,ex,rfl,hg,hh,hc,hm,hsz⟩
   ·exact absurd (List.eq_nil_of_length_eq_zero h0) hm0
   ·have n2:g≠gb:=fun e=>absurd (tgb (e ▸ hh)) (by decide)
    refine⟨_,.vsl 3 0 c.mem.length cap,_,_,c5.add 1000001 (b:=g) (vs:=c.mem.map (Value.int .i64)) (ex:=ex) (cs:=iL c.mem) (by omega) hh (Pc _ wf.mem) (Mh _) (hNot _ (by omega) ((memL _).2 (.inr rfl))) (by simp;omega),fun b hb'=>?_,fun hp φ h=>.vsl _ _ _ _ _ _ _ h,.inr ⟨cap,hc,hm,rfl,rfl⟩⟩
    simp at hb'
    rcases hb' with e | e | e | e
    ·omega
    ·omega
    ·exact .inr (.inl e)
    ·exact .inr (.inr (by rw[e];rfl))
 have c9:=c6.add 90 (b:=bD) (vs:=[vp,vr,vm,.slice (some ⟨gb,0,none⟩) n cb]) (ex:=[]) (cs:=[aIs c.pc,Z7 c.regs,MV,.vsl 2 0 n cb]) (by omega) (by rw[List.append_nil];exact fD)
  (.cons _ _ _ _ _ _ repP.lift (.cons _ _ _ _ _ _ repR.lift (.cons _ _ _ _ _ _ (hMV _ _ rfl) (.cons _ _ _ _ _ _ (.vsl _ _ _ _ _ _ _ rfl) (.nil _ _)))))
  (by
   intro v hv
   simp at hv
   rcases hv with rfl | rfl | rfl | rfl
   ·exact Mk hO.pc
   ·exact Mk hO.regs.own
   ·exact Mk hO.mem
   ·rfl)
  (hNot _ (by omega) ((memL _).2 (.inl (.inr (.inr (.inr rfl))))))
  (fun h=>by
   rcases hl6 bD h with e | e | e
   ·omega
   ·exact ndb e.symm
   ·obtain⟨_,cs',h'⟩:=Kt hO.mem e
    exact hDc _ _ _ h' (by decide) rfl)
 exact⟨L,o3,MV,_,c9.sim,⟨rfl,rfl,rfl⟩,hM5,⟨by omega,hb4⟩⟩
structure Art (c:Ac) (o3:Ob) (MV:AV) (n cb:Nat):Prop where
 hn:c.buf.length=n
 mem:(c.mem=[]∧o3=Br∧MV=.sl 1 [])∨∃ cm,c.mem.length≤cm∧cm≤maxLen∧o3=.var 1000001 (iL c.mem)∧MV=.vsl 3 0 c.mem.length cm
 hcb:n≤cb∧cb≤maxLen
abbrev fD (c:Ac) (MV:AV) (n cb:Nat):List AV:=[aIs c.pc,Z7 c.regs,MV,.vsl 2 0 n cb]
set_option maxRecDepth 100000 in
set_option maxHeartbeats 8000000 in
theorem Akv (S:Nat→Nat→Prop) (w:World) (c:Ac) (m:Int) (t:Nat) (l:Int) (a4 a5 a6 a7:Option Addr) (n4 n5 n6 n7 c4 c5 c6 c7:Nat) (R:Ending→World→Prop)
 (hS:∀ b o,S b o→∃ u,stay w b o=some u)
 (hC:Reps S w [] [] (Cj c) [.slice a4 n4 c4,.slice a5 n5 c5,.slice a6 n6 c6,.slice a7 n7 c7])
 (hv:ConfV w (.agg #[.slice a4 n4 c4,.slice a5 n5 c5,.slice a6 n6 c6,.slice a7 n7 c7]) c) (hl:A1o c) (om:okI m) (ol:okI l) (ot:okI (t:Int)) (ht:t < c.buf.length)
 (hR:∀ (w2:World) (L:List Nat) (o3:Ob) (MV:AV) (φ:List Pl) (n cb:Nat),Below w.heap.size w w2→Art c o3 MV n cb →
  Sim Tryz.prog w.heap.size (SX S w2 w.heap.size L) w2 (Q7 c C6 (c.buf.map aEs) o3 (fD c MV n cb)) φ →
  ∃ v hp',Rw (cN XB0 1500) c m t l (Q7 c C6 (c.buf.map aEs) o3 (fD c MV n cb))=some (v,hp') ∧
    ∀ u' S' w' φ',Rep S' w' hp' φ' v u'→Sim Tryz.prog w.heap.size S' w' hp' φ'→Trans w.heap.size (SX S w2 w.heap.size L) w2 (Q7 c C6 (c.buf.map aEs) o3 (fD c MV n cb)) φ S' w' hp' φ'→R (.returned u') w') :
 Calls Tryz.prog 51 #[.agg #[.slice a4 n4 c4,.slice a5 n5 c5,.slice a6 n6 c6,.slice a7 n7 c7],.int .i64 m,.int .i64 (t:Int),.int .i64 l] w R:=by
 obtain⟨W0,hW0⟩:∃ W,W=(w.alloc (.cells #[.slice a4 n4 c4,.slice a5 n5 c5,.slice a6 n6 c6,.slice a7 n7 c7] 90)).alloc (.cells #[.slice none 0 0,.slice none 0 0,.slice none 0 0,.slice none 0 0] 90):=⟨_,rfl⟩
 have hb0:Below w.heap.size w W0:=hW0 ▸ ((Below.refl _ _).alloc (Nat.le_refl _) _).alloc (by simp) _
 have hsz:W0.heap.size=w.heap.size+2:=by rw[hW0];simp
 have fc:Fresh W0 w.heap.size (.cells #[.slice a4 n4 c4,.slice a5 n5 c5,.slice a6 n6 c6,.slice a7 n7 c7] 90):=by
  rw[hW0];exact(Fresh.new w _).later ((Below.refl _ _).alloc (Nat.le_refl _) _)
 have fr:Fresh W0 (w.heap.size+1) (.cells #[.slice none 0 0,.slice none 0 0,.slice none 0 0,.slice none 0 0] 90):=by
  have:=Fresh.new (w.alloc (.cells #[.slice a4 n4 c4,.slice a5 n5 c5,.slice a6 n6 c6,.slice a7 n7 c7] 90)) (.cells #[.slice none 0 0,.slice none 0 0,.slice none 0 0,.slice none 0 0] 90)
  rw[World.size_alloc] at this
  rw[hW0];exact this
 have FC:=Lib.hid fc;have FR:=Lib.hid fr;have HB:=Lib.hid hb0;have HSZ:=Lib.hid hsz
 have HV:=Lib.hid hv;have HL:=Lib.hid hl;have HC:=Lib.hid hC;have HS:=Lib.hid hS;have HR:=Lib.hid hR
 have OM:=Lib.hid om;have OL:=Lib.hid ol;have OT:=Lib.hid ot;have HT:=Lib.hid ht
 clear hv hl hC hS hR om ol ot ht
 go_enter Tryz.func51,Tryz.ntmps51
 go_upto_region 1 with (fail)
 rw[← hW0]
 have y0:=(fc.open (k:=0) rfl).1;have y1:=(fc.open (k:=1) rfl).1;have y2:=(fc.open (k:=2) rfl).1;have y3:=(fc.open (k:=3) rfl).1
 clear hW0 hb0 hsz fc fr
 go_wp2_with fail
 refine(A1x _ _ c (HV.out.mono HB.out) HL.out).mono ?_
 rintro e w1 ⟨hb1,vp,vr,vm,vb,xr,xb,rfl,hO⟩
 clear y0 y1 y2 y3
 obtain⟨p1,k1,rfl⟩:=Jf hO.pc
 obtain⟨p2,k2,rfl⟩:=Jf hO.regs.own
 obtain⟨p3,k3,rfl⟩:=Jf hO.mem
 obtain⟨p4,k4,rfl⟩:=Jf hO.buf.own
 simp only[A5] at hO ⊢
 have HO:=Lib.hid hO;have HB1:=Lib.hid hb1
 clear hO hb1
 go_upto_region 2 with (fail)
 have hn0:=HT.out
 have g4:=HO.out.buf.own
 rw[A5] at g4
 obtain⟨gb,rfl⟩:∃ g,p4=some ⟨g,0,none⟩:=by
  rcases g4.2 with ⟨h1,h2⟩ | ⟨g,cap,cur,e1,_⟩
  ·omega
  ·exact⟨g,(Value.slice.inj e1).1⟩
 clear g4
 obtain⟨W2,hW2⟩:∃ W,w1.alloc (.cells #[.slice p1 c.pc.length k1,.slice p2 c.regs.length k2,.slice p3 c.mem.length k3,.slice (some ⟨gb,0,none⟩) c.buf.length k4] 90)=W:=⟨_,rfl⟩
 have hA:Below w1.heap.size w1 W2:=hW2 ▸ (Below.refl _ _).alloc (Nat.le_refl _) _
 have hfD:Fresh W2 w1.heap.size (.cells #[.slice p1 c.pc.length k1,.slice p2 c.regs.length k2,.slice p3 c.mem.length k3,.slice (some ⟨gb,0,none⟩) c.buf.length k4] 90):=hW2 ▸ Fresh.new w1 _
 have hbW:Below w.heap.size w W2:=(HB.out.trans (HB1.out.mono HB.out.size)).trans (hA.mono (Nat.le_trans HB.out.size HB1.out.size))
 have hO2:A5h W0.heap.size W2 c (.slice p1 c.pc.length k1) (.slice p2 c.regs.length k2) (.slice p3 c.mem.length k3) (.slice (some ⟨gb,0,none⟩) c.buf.length k4) xr xb:=⟨⟨Dn HO.out.pc hA,HO.out.regs.below hA,Dn HO.out.mem hA,HO.out.buf.below hA⟩,HO.out.pm,HO.out.pr⟩
 obtain⟨L,o3,MV,φ,hsim,⟨φ0,φ1,φ4⟩,hM5,hcb⟩:=Ark (bD:=w1.heap.size) HS.out hbW (by have:=HSZ.out;omega) ((FC.out.later HB1.out).later hA) ((FR.out.later HB1.out).later hA) hfD HC.out (by intro v hv;simp at hv;rcases hv with rfl | rfl | rfl | rfl<;>rfl) hO2 HB1.out.size HV.out.wf rfl
 obtain⟨v,hp',hrun,hend⟩:=HR.out W2 L o3 MV φ _ _ hbW ⟨rfl,hM5,hcb⟩ hsim
 rw[hW2]
 refine A6f (call:=cN XB0 1500) (f:=51) (fuel:=1000) (tm:=((((((List.replicate (Tryz.f51).ntmps AV.junk).set 4 (.ptr 0 0)).set 8 (.ptr 1 0)).set 10 (.ptr 4 0)).set 1 (.int .i64 m)).set 2 (.int .i64 (t:Int))).set 3 (.int .i64 l)) (v:=v) (hp':=hp') Af3 A7t (Wp A6i 1500) (by kernel_rfl) (by kernel_rfl) (by kernel_rfl) hsim ?_ rfl hrun hend (by assumption) (by assumption)
 refine Gl ?_ (.int _ _ _ _ OL.out) rfl
 refine Gl ?_ (.int _ _ _ _ OT.out) rfl
 refine Gl ?_ (.int _ _ _ _ OM.out) rfl
 refine Gl ?_ (.ptr _ _ 4 0 _ φ4) rfl
 refine Gl ?_ (.ptr _ _ 1 0 _ φ1) rfl
 refine Gl ?_ (.ptr _ _ 0 0 _ φ0) rfl
 exact A2g rfl
structure Adq (c c':Ac) (hp:Hp) (MV:AV) (n cb:Nat):Prop where
 pc:c'.pc=c.pc
 regs:c'.regs=c.regs
 buf:hp[2]?=some (.var 1000001 (c'.buf.map aEs))
 mem:(MV=.sl 1 []∧c'.mem=[])∨∃ cm,c'.mem.length≤cm∧cm≤maxLen∧MV=.vsl 3 0 c'.mem.length cm∧hp[3]?=some (.var 1000001 (iL c'.mem))
 lb:c'.buf.length=n
 hcb:n≤cb∧cb≤maxLen
theorem An9 {P:Program} {base:Nat} {S S':Nat→Nat→Prop} {w:World} {hp:Hp} {φ:List Pl} (hs:Sim P base S w hp φ) (hS:∀ b o,Sc w φ b o→S' b o) (hS2:∀ b o,S b o→S' b o) {c c':Ac} {n cb:Nat} {MV:AV} {b:Bool} {u':Value} (hE:Adq c c' hp MV n cb) (h:Rep S w hp φ (.tup [.agg (fD c MV n cb),.bool b]) u'):Rep S' w [] [] (.tup [aC c',.bool b]) u':=by
 obtain⟨e0,e1,e2,e3,e9,e12⟩:=hE
 obtain⟨vs,hr,rfl⟩:=h.tup_inv
 cases hr with | cons _ _ _ va _ _ ha hr =>
 cases hr with | cons _ _ _ vb _ _ hb hr =>
 cases hr
 obtain⟨ds,hd,od,rfl⟩:=ha.agg_inv
 cases hd with | cons _ _ _ d0 _ _ h0 hd =>
 cases hd with | cons _ _ _ d1 _ _ h1 hd =>
 cases hd with | cons _ _ _ d2 _ _ h2 hd =>
 cases hd with | cons _ _ _ d3 _ _ h3 hd =>
 cases hd
 have hb':=hb.bool_inv
 subst hb'
 refine .tup _ _ _ _ (.cons _ _ _ _ _ _ (.agg _ _ _ [d0,d1,d2,d3] (.cons _ _ _ _ _ _ ?_ (.cons _ _ _ _ _ _ ?_ (.cons _ _ _ _ _ _ ?_ (.cons _ _ _ _ _ _ ?_ (.nil _ _))))) od) (.cons _ _ _ _ _ _ (.bool _ _ _) (.nil _ _)))
 ·rw[e0];exact Qu h0 hS2
 ·rw[e1];exact Qu h1 hS2
 ·rcases e3 with ⟨rfl,k1⟩ | ⟨cm,k1,k2,rfl,k3⟩
  ·rw[k1]
   exact Qu h2 hS2
  ·exact S9 hs hS h2 k3 ⟨k1,k2⟩
 ·refine Ts hs h3 e2 (els:=c'.buf.map An) (by simp[e9]) (by simp[e9]) e12 (fun k a x hk ha hr=>?_) fun b hb o ho'=>hS b o (Vs hs e2 hb (by simp[e9];exact ho'))
  rw[List.getElem?_map] at ha
  cases hk2:c'.buf[k]? with
  | none=>rw[hk2] at ha;cases ha
  | some y =>
   rw[hk2] at ha
   cases ha
   exact⟨aEs y,by rw[List.getElem?_map,hk2];rfl,Qu hr hS2⟩
theorem Apc {u:Ak} {c:Ac} {m r l:Int} {t n cb:Nat} {o3:Ob} {MV:AV} (hu:C7 u=true) (hm:1≤m∧m≤3) (hr:1≤r∧r≤4) (h:D2 u c m r) (ht:t < u.regs.length) (hO:Art c o3 MV n cb) :
 ∃ hp',Rw (cN XB0 1500) c m t l (Q7 c C6 (c.buf.map aEs) o3 (fD c MV n cb))=some (.tup [.agg (fD c MV n cb),.bool (Gy c m t l).2],hp')∧Adq c (Gy c m t l).1 hp' MV n cb:=by
 have hz:=Te hu hm hr h
 have hh:=Cc hu
 have t1:t < c.pc.length:=by have:=h.lpc;omega
 have t2:t < c.regs.length:=by have:=h.lregs;omega
 have t3:t < c.buf.length:=by have:=h.lbuf;omega
 have t4:t < u.code.length:=by omega
 have H:=h.thr t _ _ _ _ _ (A6 t1) (A6 t2) (A6 t3) (A6 t4) (A6 ht)
 obtain⟨b,hb⟩:∃ b,c.buf[t]=b:=⟨_,rfl⟩
 have ebuf:c.buf[t]?=some b:=by rw[A6 t3,hb]
 have hbl:=hz.buf _ (List.mem_of_getElem? ebuf)
 have G1:=(Wr _ _).trans (Zt (Yi 1500 c m t l t3 hz.buf (by omega)))
 have off:(Gy c m t l).2=false→(Gy c m t l).1=c→∃ hp',Rw (cN XB0 1500) c m t l (Q7 c C6 (c.buf.map aEs) o3 (fD c MV n cb))=some (.tup [.agg (fD c MV n cb),.bool (Gy c m t l).2],hp')∧Adq c (Gy c m t l).1 hp' MV n cb:=by
  intro q1 q2
  rw[q1] at G1 ⊢
  rw[q2]
  rcases hO.mem with ⟨k1,rfl,rfl⟩ | ⟨cm,k1,k2,rfl,rfl⟩
  ·exact⟨_,Alc c m t l n cb 0 0 _ [] _ _ [] _ G1,rfl,rfl,rfl,.inl ⟨rfl,k1⟩,hO.hn,hO.hcb⟩
  ·exact⟨_,Amq c m t l n cb _ cm _ _ _ _ [] _ G1,rfl,rfl,rfl,.inr ⟨cm,k1,k2,rfl,rfl⟩,hO.hn,hO.hcb⟩
 have PO:=(Wr _ _).trans (X5 (Ajp 1500 b m l (by omega) (by omega)))
 have hf:Gy c m t l=match Yz b m l with
  | some i=>match b[i]? with
    | some x=>(Tf c t i b x,true)
    | none=>(c,false)
  | none=>(c,false):=by rw[Gy,List.getD_eq_getElem?_getD,ebuf];rfl
 cases hi:Yz b m l with
 | none =>
  rw[hi] at hf
  exact off (by rw[hf]) (by rw[hf])
 | some i =>
 cases hx:b[i]? with
 | none =>
  rw[hi] at hf
  simp only[hx] at hf
  exact off (by rw[hf]) (by rw[hf])
 | some x =>
 rw[hi] at hf PO
 simp only[hx] at hf PO
 rw[hf] at G1 ⊢
 have hH:=H.buf
 rw[hb] at hH
 have hloc:=(hH.1 x (List.mem_of_getElem? hx))
 have hl0:0≤x.loc:=hloc.1
 have hl1:x.loc < c.mem.length:=by rw[h.lmem];exact hloc.2.1
 have gb:nth? (c.buf.map An) ((t:Int)).toNat=some [.sl 2 (b.map At)]:=by rw[Int.toNat_natCast,nth?_eq,List.getElem?_map,ebuf];rfl
 have hn:=hO.hn
 rcases hO.mem with ⟨k1,rfl,rfl⟩ | ⟨cm,k1,k2,rfl,rfl⟩
 ·rw[k1] at hl1;simp at hl1;omega
 ·have ht':t < n:=by omega
  have hE:∀ o3' BF',BF'=(c.buf.set t (b.eraseIdx i)).map aEs→o3'=.var 1000001 (iL (c.mem.set x.loc.toNat x.n))→Adq c (Tf c t i b x) (Q7 c (fD c (.vsl 3 0 c.mem.length cm) n cb) BF' o3' (fD c (.vsl 3 0 c.mem.length cm) n cb)++[.var 157 [.int .i64 x.loc,.int .i64 x.n]]) (.vsl 3 0 c.mem.length cm) n cb:=fun o3' BF' q1 q2 =>
   ⟨rfl,rfl,by rw[q1];rfl,.inr ⟨cm,by simp[Tf];exact k1,k2,by simp[Tf],by rw[q2];rfl⟩,by simp[Tf];exact hn,hO.hcb⟩
  exact⟨_,Asc c m t l n cb _ cm (c.buf.map aEs) (iL c.mem) (c.pc.map A0) (c.regs.map Ag) [] _ G1 b (b.eraseIdx i) x ht' gb t3 (by rw[A5];exact hn) PO (by simp) hl0 hl1,hE _ _ (M8 aEs c.buf (by simp) (b.eraseIdx i) t3) (by rw[Jd _ _ hl0 hl1])⟩
set_option maxHeartbeats 4000000 in
theorem A83:Nn Tryz.prog 51 (Xt Pr Aic):=by
 refine A33 fun x S vs w hS hr=>?_
 obtain⟨⟨c,m,t,l⟩,u,r,hu,hm,hrm,hcr,ht⟩:=x
 simp only at hu hm hrm hcr ht
 replace hr:Reps S w [] [] [aC c,.int .i64 m,.int .i64 (t:Int),.int .i64 l] vs:=hr
 cases hr with | cons _ _ _ vc _ _ rc hr =>
 cases hr with | cons _ _ _ vm _ _ rm hr =>
 cases hr with | cons _ _ _ vt _ _ rt hr =>
 cases hr with | cons _ _ _ vl _ _ rl hr =>
 cases hr
 obtain⟨rfl,om⟩:=rm.int_inv
 obtain⟨rfl,ot⟩:=rt.int_inv
 obtain⟨rfl,ol⟩:=rl.int_inv
 have hv:=A69 rc
 obtain⟨cs,hC,oC,rfl⟩:=rc.agg_inv
 cases hC with | cons _ _ _ v0 _ _ r0 hC =>
 cases hC with | cons _ _ _ v1 _ _ r1 hC =>
 cases hC with | cons _ _ _ v2 _ _ r2 hC =>
 cases hC with | cons _ _ _ v3 _ _ r3 hC =>
 cases hC
 obtain⟨_,a4,c4,_,_,_,rfl⟩:=r0.sl_inv
 obtain⟨_,a5,c5,_,_,_,rfl⟩:=r1.sl_inv
 obtain⟨_,a6,c6,_,_,_,rfl⟩:=r2.sl_inv
 obtain⟨_,a7,c7,_,_,_,rfl⟩:=r3.sl_inv
 refine Akv S w c m t l a4 a5 a6 a7 _ _ _ _ c4 c5 c6 c7 _ hS (.cons _ _ _ _ _ _ r0 (.cons _ _ _ _ _ _ r1 (.cons _ _ _ _ _ _ r2 (.cons _ _ _ _ _ _ r3 (.nil _ _))))) hv (A8g hu hm hrm hcr) om ol ot (by have:=hcr.lbuf;omega) fun w2 L o3 MV φ n cb hb hO hsim=>?_
 obtain⟨hp',hrun,hE⟩:=Apc (l:=l) hu hm hrm hcr ht hO
 refine⟨_,hp',hrun,fun u' S' w' φ' h1 h2 h3=>?_⟩
 obtain⟨g1,g2,g3,g4⟩:=Ach hS hb (Xe hS hb L) (fun b o h=>h.elim .inl fun h=>.inr h.1) h2 h3 (C:=Sc w' φ') (A5y h2)
 exact⟨u',fun b o=>S' b o∨Sc w' φ' b o,rfl,An9 h2 (fun b o h=>.inr h) (fun b o h=>.inl h) hE h1,g1,g2,g3,g4⟩
set_option maxRecDepth 100000
theorem Adf:∀ p ∈ An1,Nn Tryz.prog p.1 p.2:=by
 unfold An1 As2
 refine List.forall_mem_cons.2 ⟨Afo,?_⟩
 refine List.forall_mem_cons.2 ⟨A83,?_⟩
 refine List.forall_mem_cons.2 ⟨Et Hk Aqb,?_⟩
 refine List.forall_mem_cons.2 ⟨Et Hk Anx,?_⟩
 refine List.forall_mem_cons.2 ⟨Et A93 Ao4,?_⟩
 refine List.forall_mem_cons.2 ⟨Et Am6 Arv,?_⟩
 refine List.forall_mem_cons.2 ⟨Et Hk Alk,?_⟩
 refine List.forall_mem_cons.2 ⟨Et Hk Ao8,?_⟩
 exact fun _ h=>by cases h
theorem Ano:I1 Tryz.prog XT:=Jo Adf
end Go.Proofs.YtfabdppicogkmaaGreat
end
