/- Parts of the proofs: what they lean on. Conditions: none. -/
import Derived.StillTail
import Derived.OneCell
import Derived.OrdersHeld
import Derived.Deep.AppendLies
import Derived.Test.YteindmlljlboeaaGreatPshS13
section
section
namespace Go.Proofs.YteindmlljlboeaaGreat
open Go.RowKit
set_option linter.unusedVariables false
set_option linter.unusedSimpArgs false
structure Later (w:World) where
 world:World
 below:Below w.heap.size w world
def Later.self (w:World):Later w:=⟨w,Below.refl _ _⟩
instance (w:World):Nonempty (Later w):=⟨Later.self w⟩
theorem Later.cell {w:World} {p:Addr} {v:Value} (h:w.cell? p=some v):∀ s:Later w,s.world.cell? p=some v:=fun s=>cell_later s.below h
theorem Calls.later {P:Program} {f:FuncId} {args:Array Value} {w:World} {s:Later w} {v:Value} {Post:Ending→World→Prop} (h:Calls P f args s.world Post) (hp:∀ e w',Post e w'→e=.returned v∧Below s.world.heap.size s.world w') :
 Calls P f args s.world fun e w''=>e=.returned v∧∃ t:Later w,w''=t.world :=
 h.mono fun e w'' hpost=>⟨(hp e w'' hpost).1,⟨w'',s.below.trans ((hp e w'' hpost).2.mono s.below.size)⟩,rfl⟩
def VarAt (w:World) (b k:Nat) (v:Value):Prop:=w.cell? ⟨b,k,none⟩=some v∧w.frozen? ⟨b,k,none⟩=false
theorem VarAt.lt {w:World} {b k:Nat} {v:Value} (h:VarAt w b k v):b < w.heap.size:=World.block_lt_of_cell? _ _ h.1
theorem VarAt.later {w w':World} {b k:Nat} {v:Value} (h:VarAt w b k v) (hb:Below w.heap.size w w'):VarAt w' b k v :=
 ⟨cell_later hb h.1,(hb.frozen (p:=⟨b,k,none⟩) h.lt).trans h.2⟩
theorem VarAt.new (w:World) (cs:Array Value) (E:TypeId) (k:Nat) (u:Value) (h:cs[k]?=some u):VarAt (w.alloc (.cells cs E)) w.heap.size k u:=by
 refine⟨by simp[h],?_⟩
 simp
theorem VarAt.set {w:World} {b k:Nat} {v:Value} (h:VarAt w b k v) (u:Value):VarAt (w.setCell ⟨b,k,none⟩ u) b k u :=
 ⟨World.cell?_setCell_same _ _ _ h.1,(World.frozen?_setCell _ _ _ _).trans h.2⟩
theorem VarAt.other {w:World} {b k:Nat} {v:Value} (h:VarAt w b k v) {p:Addr} (hp:p.block≠b∨p.off≠k) (u:Value):VarAt (w.setCell p u) b k v:=by
 refine⟨?_,(World.frozen?_setCell _ _ _ _).trans h.2⟩
 rw[World.cell?_setCell_other]
 ·exact h.1
 ·rintro rfl
  simp at hp
theorem VarAt.drew {w:World} {b k:Nat} {v:Value} (h:VarAt w b k v) (n:Nat):VarAt (w.drewN n) b k v:=h.later (below_drewN (Below.refl _ _) n)
section
variable {P:Program} {ops:Array Oper} {md:Region.Mode} {C:World→Prop}
end
section
variable {P:Program} {ops:Array Oper} {md:Region.Mode} {w0:World} {m:Nat}
def Fresh (w:World) (B:Nat) (o:Obj):Prop:=w.heap[B]?=some o
theorem Fresh.later {w w':World} {B:Nat} {o:Obj} (h:Fresh w B o) (hb:Below w.heap.size w w'):Fresh w' B o :=
 (hb.block B (Array.getElem?_eq_some_iff.1 h).1).trans h
def LYields (P:Program) (ops:Array Oper) (w0:World) (o:Oper) (v:Value) (a:Act):Prop :=
 (Region.wanted o (yielded ops a.tmps)=true∧∀ s:Later w0,o.quietAt P a (fun w''=>Below s.world.heap.size s.world w'') s.world v) ∨
 (Region.wanted o (yielded ops a.tmps)=false∧v=undef)
theorem LYields.of_same {o:Oper} {v:Value} {a a':Act} (hy:LYields P ops w0 o v a) (he:execOp a'.eval o=execOp a.eval o)
 (hw:Region.wanted o (yielded ops a'.tmps)=Region.wanted o (yielded ops a.tmps)):LYields P ops w0 o v a':=by
 unfold LYields at *
 rw[hw]
 rcases hy with ⟨h1,h2⟩ | h
 ·exact .inl ⟨h1,fun s=>by unfold Oper.quietAt at *;rw[he];exact h2 s⟩
 ·exact .inr h
structure Makes (P:Program) (ops:Array Oper) (m:Nat) (o:Obj):Prop where
 guard:∀ oa,ops[m]?=some oa→∀ a:Act,Region.wanted oa (yielded ops a.tmps)=true
 run:∀ oa,ops[m]?=some oa→∀ (a:Act) (w:World),(execOp a.eval oa).run P w=.ok (.value (.pointer (some ⟨w.heap.size,0,none⟩))) (w.alloc o)
end
theorem Makes.of {P:Program} {l:List Oper} {m:Nat} {o:Obj} {oa:Oper} (hoa:l[m]?=some oa) (hg:oa.guard=none) (hr:∀ (a:Act) (w:World),(execOp a.eval oa).run P w=.ok (.value (.pointer (some ⟨w.heap.size,0,none⟩))) (w.alloc o)):Makes P l.toArray m o:=by
 constructor
 ·intro o' h a
  obtain rfl:oa=o':=by simpa [hoa] using h
  simp[Region.wanted,hg]
 ·intro o' h a w
  obtain rfl:oa=o':=by simpa [hoa] using h
  exact hr a w
theorem Fresh.var {w:World} {B:Nat} {v:Value} {E:TypeId} (h:Fresh w B (.cells #[v] E (0,0))):VarAt w B 0 v:=⟨cell_of_one h,free_of_one h⟩
section
variable {P:Program} {ops:Array Oper} {md:Region.Mode} {w0:World}
def NewAt (P:Program) (ops:Array Oper) (w0:World) (o:Oper) (F:Nat→Value) (ob:Obj) (a:Act):Prop :=
 Region.wanted o (yielded ops a.tmps)=true∧∀ w',Below w0.heap.size w0 w'→(execOp a.eval o).run P w'=.ok (.value (F w'.heap.size)) (w'.alloc ob)
theorem NewAt.of_same {o:Oper} {F:Nat→Value} {ob:Obj} {a a':Act} (hy:NewAt P ops w0 o F ob a) (he:execOp a'.eval o=execOp a.eval o)
 (hw:Region.wanted o (yielded ops a'.tmps)=Region.wanted o (yielded ops a.tmps)):NewAt P ops w0 o F ob a':=by
 unfold NewAt at *
 rw[hw,he];exact hy
end
section
variable {P:Program} {ops:Array Oper} {md:Region.Mode} {w0:World}
abbrev A7o:=Nat→Option (Sem Next→Value→World→Prop)
def Steady (Φ:World→Prop):Prop:=∀ w w':World,Below w.heap.size w w'→Φ w→Φ w'
def A89 (Ψ:A7o):Prop:=∀ i ψ,Ψ i=some ψ→∀ x v,Steady (ψ x v)
theorem Steady.and {Φ Χ:World→Prop} (h:Steady Φ) (k:Steady Χ):Steady fun w=>Φ w∧Χ w:=fun w w' hb hw=>⟨h w w' hb hw.1,k w w' hb hw.2⟩
def A0t:Value→Option Nat
 | .slice (some ad) _ _=>some ad.block
 | .pointer (some ad)=>some ad.block
 | _=>none
abbrev Fx:=(World→Prop)×(Nat→Prop)
def Fx.upd (b:Fx) (φ:Value→World→Prop) (v:Value):Fx:=(fun w=>b.1 w∧φ v w,fun k=>b.2 k∨A0t v=some k)
def Fx.free (b:Fx) (v:Value):Prop:=∀ k,A0t v=some k→¬ b.2 k
def Fx.fin (b:Fx):Prop:=∃ N,∀ k,b.2 k→k < N
theorem Fx.fin_upd {b:Fx} (h:b.fin) (φ:Value→World→Prop) (v:Value):(b.upd φ v).fin:=by
 obtain⟨N,h⟩:=h
 cases hv:A0t v with
 | none=>exact⟨N,fun k hk=>hk.elim (h k) fun e=>by rw[hv] at e;cases e⟩
 | some x=>exact⟨N+x+1,fun k hk=>hk.elim (fun hk=>by have:=h k hk;omega) fun e=>by rw[hv] at e;have:=Option.some.inj e;omega⟩
theorem A44 (w0:World):∀ N:Nat,∃ s:Later w0,N≤s.world.heap.size
 | 0=>⟨Later.self w0,Nat.zero_le _⟩
 | N+1=>by
  obtain⟨s,hs⟩:=A44 w0 N
  exact⟨⟨s.world.alloc (.cells #[] 0),s.below.alloc s.below.size _⟩,by rw[World.size_alloc];omega⟩
theorem Fx.comm (b:Fx) (φ χ:Value→World→Prop) (v u:Value):(b.upd φ v).upd χ u=(b.upd χ u).upd φ v:=by
 unfold Fx.upd
 congr 1
 ·funext w;exact propext and_right_comm
 ·funext k;exact propext or_right_comm
theorem Fx.free_comm {b:Fx} {φ χ:Value→World→Prop} {v u:Value} (h1:b.free u) (h2:(b.upd χ u).free v):b.free v∧(b.upd φ v).free u :=
 ⟨fun k hk hb=>h2 k hk (.inl hb),fun k hk hb=>hb.elim (h1 k hk) fun hv=>h2 k hv (.inr hk)⟩
def RunsTo (P:Program) (w:World) (Φ:Value→World→Prop):Result Next→Prop
 | .ok (.value u) w'=>Below w.heap.size w w'∧Φ u w'∧∀ k,A0t u=some k→w.heap.size≤k∧k < w'.heap.size
 | .ok (.enter f args) w'=>w'=w∧Calls P f args w fun e w''=>∃ v,e=.returned v∧Below w.heap.size w w''∧Φ v w''∧∀ k,A0t v=some k→w.heap.size≤k∧k < w''.heap.size
 | _=>False
def SpecAt (P:Program) (ops:Array Oper) (w0:World) (o:Oper) (ψ:Sem Next→Value→World→Prop) (a:Act):Prop :=
 Region.wanted o (yielded ops a.tmps)=true∧∀ s:Later w0,RunsTo P s.world (ψ (execOp a.eval o)) ((execOp a.eval o).run P s.world)
theorem SpecAt.of_same {o:Oper} {ψ:Sem Next→Value→World→Prop} {a a':Act} (hy:SpecAt P ops w0 o ψ a) (he:execOp a'.eval o=execOp a.eval o)
 (hw:Region.wanted o (yielded ops a'.tmps)=Region.wanted o (yielded ops a.tmps)):SpecAt P ops w0 o ψ a':=by
 unfold SpecAt at *
 rw[hw,he];exact hy
def gOp (P:Program) (ops:Array Oper) (w0:World) (Ψ:A7o) (i:Nat) (b:Fx) (K:Fx→Act→Prop) (a:Act):Prop :=
 match ops[i]? with
 | none=>K b a
 | some o=>match Ψ i with
   | none=>∃ v,LYields P ops w0 o v a∧K b (a.put o.dst v)
   | some ψ=>SpecAt P ops w0 o ψ a∧∀ v,(∃ w,ψ (execOp a.eval o) v w)→b.free v→K (b.upd (ψ (execOp a.eval o)) v) (a.put o.dst v)
variable {Ψ:A7o}
theorem Ae7 {i:Nat} {b:Fx} {a:Act} {K K':Fx→Act→Prop} (hfin:b.fin) (h:∀ b a,b.fin→K b a→K' b a) (hh:gOp P ops w0 Ψ i b K a):gOp P ops w0 Ψ i b K' a:=by
 unfold gOp at *
 split
 ·rename_i ho;simp only[ho] at hh;exact h _ _ hfin hh
 ·rename_i o ho
  simp only[ho] at hh
  split
  ·rename_i hs
   simp only[hs] at hh
   obtain⟨v,hy,hk⟩:=hh
   exact⟨v,hy,h _ _ hfin hk⟩
  ·rename_i ψ hs
   simp only[hs] at hh
   exact⟨hh.1,fun v hv hf=>h _ _ (hfin.elim fun N hN=>Fx.fin_upd ⟨N,hN⟩ _ _) (hh.2 v hv hf)⟩
theorem Amu {j:Nat} {oi oj:Oper} {v:Value} (hj:ops[j]?=some oj) (hap:oi.apart ops oj=true)
 (hsi:∀ cs b,oi.op≠.select cs b) (hsj:∀ cs b,oj.op≠.select cs b) {b:Fx} {K:Fx→Act→Prop} {a:Act}
 (hy:LYields P ops w0 oi v a) (h:gOp P ops w0 Ψ j b K (a.put oi.dst v)) :
 gOp P ops w0 Ψ j b (fun b' a'=>LYields P ops w0 oi v a'∧K b' (a'.put oi.dst v)) a:=by
 obtain⟨h1,h2,h3⟩:=Oper.apart_spec hap
 have keep:∀ (a:Act),LYields P ops w0 oi v a→∀ u,LYields P ops w0 oi v (a.put oj.dst u):=fun a hy u =>
  hy.of_same (execOp_put oi hsi a oj.dst u h3) (wanted_put oi a oj.dst u h3)
 have he:execOp (a.put oi.dst v).eval oj=execOp a.eval oj:=execOp_put oj hsj a oi.dst v h1
 unfold gOp at *
 simp only[hj] at *
 split
 ·rename_i hs
  simp only[hs] at h
  obtain⟨u,hu,hn⟩:=h
  exact⟨u,hu.of_same he.symm (wanted_put oj a oi.dst v h1).symm,keep a hy u,by rw[← Act.put_comm a v u h2];exact hn⟩
 ·rename_i ψ hs
  simp only[hs] at h
  refine⟨h.1.of_same he.symm (wanted_put oj a oi.dst v h1).symm,fun u hu hf=>⟨keep a hy u,?_⟩⟩
  rw[← Act.put_comm a v u h2,← he];exact h.2 u (by rw[he];exact hu) hf
theorem SpecAt.inh {o:Oper} {ψ:Sem Next→Value→World→Prop} {a:Act} (h:SpecAt P ops w0 o ψ a) {b:Fx} (hb:b.fin):∃ v,(∃ w,ψ (execOp a.eval o) v w)∧b.free v:=by
 obtain⟨N,hN⟩:=hb
 obtain⟨s,hs⟩:=A44 w0 N
 have h3:=h.2 s
 generalize (execOp a.eval o).run P s.world=r at h3
 cases r with
 | ok n w' =>
  cases n<;>simp only[RunsTo] at h3
  case value u=>exact⟨_,⟨_,h3.2.1⟩,fun k hk hbk=>by have:=hN k hbk;have:=(h3.2.2 k hk).1;omega⟩
  case enter f args =>
   obtain⟨e,w2,fr,⟨v,_,_,hv,hk'⟩,_⟩:=h3.2 []
   exact⟨v,⟨w2,hv⟩,fun k hk hbk=>by have:=hN k hbk;have:=(hk' k hk).1;omega⟩
 | halt x w'=>simp only[RunsTo] at h3
theorem Alx {j:Nat} {oi oj:Oper} {ψi ψj:Sem Next→Value→World→Prop} (hj:ops[j]?=some oj) (hψj:Ψ j=some ψj) (hap:oi.apart ops oj=true)
 (hsi:∀ cs b,oi.op≠.select cs b) (hsj:∀ cs b,oj.op≠.select cs b) {b:Fx} {K:Fx→Act→Prop} {a:Act}
 (hfin:b.fin) (hy:SpecAt P ops w0 oi ψi a) (h:∀ v,(∃ w,ψi (execOp a.eval oi) v w)→b.free v→gOp P ops w0 Ψ j (b.upd (ψi (execOp a.eval oi)) v) K (a.put oi.dst v)) :
 gOp P ops w0 Ψ j b (fun b' a'=>SpecAt P ops w0 oi ψi a'∧∀ v,(∃ w,ψi (execOp a'.eval oi) v w)→b'.free v→K (b'.upd (ψi (execOp a'.eval oi)) v) (a'.put oi.dst v)) a:=by
 obtain⟨h1,h2,h3⟩:=Oper.apart_spec hap
 have he:∀ v,execOp (a.put oi.dst v).eval oj=execOp a.eval oj:=fun v=>execOp_put oj hsj a oi.dst v h1
 have hi:∀ u,execOp (a.put oj.dst u).eval oi=execOp a.eval oi:=fun u=>execOp_put oi hsi a oj.dst u h3
 unfold gOp at *
 simp only[hj,hψj] at *
 obtain⟨v0,hv0,hf0⟩:=hy.inh hfin
 refine⟨(h v0 hv0 hf0).1.of_same (he v0).symm (wanted_put oj a oi.dst v0 h1).symm,fun u hu hfu=>⟨hy.of_same (hi u) (wanted_put oi a oj.dst u h3),fun v hv hfv=>?_⟩⟩
 rw[hi] at hv
 obtain⟨g1,g2⟩:=Fx.free_comm (φ:=ψi (execOp a.eval oi)) hfu hfv
 have:=(h v hv g1).2 u (by rw[he];exact hu) g2
 rw[he,Act.put_comm a v u h2,Fx.comm] at this
 rw[hi]
 exact this
def A5e (P:Program) (md:Region.Mode) (ops:Array Oper) (w0:World) (Ψ:A7o) (n:Nat) (L:Array Bool→Fx→Act→Prop):Nat→Array Bool→Fx→Act→Prop
 | 0,listed,b,a=>L listed b a
 | f+1,listed,b,a =>
  Region.ready md ops listed≠[]∧∀ i ∈ Region.ready md ops listed,i < n∧gOp P ops w0 Ψ i b (fun b' a'=>A5e P md ops w0 Ψ n L f (listed.setIfInBounds i true) b' a') a
theorem Aeu (hΨ:A89 Ψ) {i:Nat} {b:Fx} {a:Act} {K:Fx→Act→Prop} {K':Act→World→Prop} {Q':Exit→Act→World→Prop} {w:World} (hw:Below w0.heap.size w0 w) (hb:b.1 w) (hs:Steady b.1) (hk0:∀ k,b.2 k→k < w.heap.size)
 (h:∀ (b':Fx) a' w',Below w0.heap.size w0 w'→b'.1 w'→Steady b'.1→(∀ k,b'.2 k→k < w'.heap.size)→K b' a'→K' a' w') (hh:gOp P ops w0 Ψ i b K a):wpOp P ops Q' i K' a w:=by
 unfold gOp at hh
 unfold wpOp
 split
 ·rename_i ho;simp only[ho] at hh;exact h _ _ _ hw hb hs hk0 hh
 ·rename_i oi ho
  simp only[ho] at hh
  split at hh
  ·obtain⟨v,hy,hk⟩:=hh
   rcases hy with ⟨hwt,hq⟩ | ⟨hwt,rfl⟩
   ·rw[if_pos hwt]
    left
    have h3:=hq ⟨w,hw⟩
    unfold Oper.quietAt at h3
    unfold Oper.wp
    dsimp only at h3
    generalize (execOp a.eval oi).run P w=r at *
    cases r with
    | ok n w' =>
     cases n<;>simp only[Oper.quietUpon] at h3<;>simp only[Oper.upon]
     case value u =>
      obtain⟨e1,e2⟩:=h3
      rw[e1,e2]
      exact h _ _ _ hw hb hs hk0 hk
     case skip =>
      obtain⟨e1,e2⟩:=h3
      rw[e1,← e2]
      exact h _ _ _ hw hb hs hk0 hk
     case enter f args =>
      obtain⟨e1,hc⟩:=h3
      rw[e1]
      exact hc.mono fun e w'' ⟨he,hw''⟩=>by
       subst he
       exact h _ _ _ (hw.trans (hw''.mono hw.size)) (hs _ _ hw'' hb) hs (fun k hk=>Nat.lt_of_lt_of_le (hk0 k hk) hw''.size) hk
    | halt x w'=>simp only[Oper.quietUpon] at h3
   ·rw[if_neg (by rw[hwt];exact Bool.false_ne_true)]
    exact h _ _ _ hw hb hs hk0 hk
  ·rename_i ψ hψ
   obtain⟨⟨hwt,hrun⟩,hk⟩:=hh
   rw[if_pos hwt]
   left
   have h3:=hrun ⟨w,hw⟩
   have hst:∀ v,Steady (b.upd (ψ (execOp a.eval oi)) v).1:=fun v=>hs.and (hΨ i ψ hψ _ v)
   unfold Oper.wp
   dsimp only at h3
   have h4:∀ v w',Below w.heap.size w w'→ψ (execOp a.eval oi) v w'→(∀ k,A0t v=some k→w.heap.size≤k∧k < w'.heap.size)→K' (a.put oi.dst v) w':=fun v w' hbw hv hkk =>
    h _ _ _ (hw.trans (hbw.mono hw.size)) (show(b.upd (ψ (execOp a.eval oi)) v).1 w' from⟨hs _ _ hbw hb,hv⟩) (hst v) (fun k hk=>hk.elim (fun hk=>Nat.lt_of_lt_of_le (hk0 k hk) hbw.size) fun hk=>(hkk k hk).2) (hk v ⟨_,hv⟩ fun k hk hb2=>by have:=hk0 k hb2;have:=(hkk k hk).1;omega)
   generalize (execOp a.eval oi).run P w=r at h3 ⊢
   cases r with
   | ok n w' =>
    cases n<;>simp only[RunsTo] at h3<;>simp only[Oper.upon]
    case value u=>exact h4 _ _ h3.1 h3.2.1 h3.2.2
    case enter f args =>
     obtain⟨e1,hc⟩:=h3
     rw[e1]
     exact hc.mono fun e w'' ⟨v,he,hbw,hv,hkk⟩=>by
      subst he
      exact h4 _ _ hbw hv hkk
   | halt x w'=>simp only[RunsTo] at h3
theorem Zj (hΨ:A89 Ψ) {n g:Nat} {L:Array Bool→Fx→Act→Prop} {Q':Exit→Act→World→Prop}
 (hL:∀ listed b a w,Below w0.heap.size w0 w→b.1 w→L listed b a→wpAny P md ops Q' g listed a w) :
 ∀ (f:Nat) (listed:Array Bool) (b:Fx) (a:Act) (w:World),Below w0.heap.size w0 w→b.1 w→Steady b.1→(∀ k,b.2 k→k < w.heap.size)→A5e P md ops w0 Ψ n L f listed b a→wpAny P md ops Q' (f+g) listed a w
 | 0,listed,b,a,w,hw,hb,hs,hk,h=>by rw[Nat.zero_add];exact hL _ _ _ _ hw hb h
 | f+1,listed,b,a,w,hw,hb,hs,hk,h=>by
  rw[show f+1+g=(f+g)+1 by omega]
  exact⟨fun h0=>absurd h0 h.1,fun i hi=>Aeu hΨ hw hb hs hk (fun b' a' w' hw' hb' hs' hk' h'=>Zj hΨ hL f _ b' a' w' hw' hb' hs' hk' h') (h.2 i hi).2⟩
theorem LYields.gOp {i:Nat} {oi:Oper} {v:Value} {b:Fx} {a:Act} (hi:ops[i]?=some oi) (hq:Ψ i=none) (hy:LYields P ops w0 oi v a) {K:Fx→Act→Prop} (h:K b (a.put oi.dst v)):gOp P ops w0 Ψ i b K a:=by
 unfold Proofs.YteindmlljlboeaaGreat.gOp
 simp only[hi,hq]
 exact⟨v,hy,h⟩
theorem Ahf {n i:Nat} {oi:Oper} {v:Value} {L:Array Bool→Fx→Act→Prop} (hi:ops[i]?=some oi) (hq:Ψ i=none) (hsel:∀ (j:Nat) (o:Oper) cs b,ops[j]?=some o→o.op≠.select cs b)
 (hs:Region.sinkB md ops n=true) (hc:Region.chainB md ops n=true) (hn:n < ops.size) (hin:i < n)
 (hdone:∀ listed b a,L listed b a→∀ j ∈ Region.ready md ops listed,n≤j) :
 ∀ (f:Nat) (listed:Array Bool) (b:Fx) (a:Act),b.fin→HeadInv md ops n listed →
   (∀ j oj,ops[j]?=some oj→j≠i→listed.getD j true=false→(∀ e ∈ oj.after,Region.binds md e=true→e.on≠i)→oi.apart ops oj=true) →
   i ∈ Region.ready md ops listed→LYields P ops w0 oi v a →
   A5e P md ops w0 Ψ n L f (listed.setIfInBounds i true) b (a.put oi.dst v)→A5e P md ops w0 Ψ n L (f+1) listed b a:=by
 intro f
 induction f with
 | zero =>
  intro listed b a hfin inv _ hr hy H
  have hun:=(mem_ready.1 hr).1
  refine⟨fun h=>(by rw[h] at hr;cases hr),fun j hj=>?_⟩
  have hjn:j < n:=by
   rcases Nat.lt_or_ge j n with h | h
   ·exact h
   ·exact absurd hj (tail_waits hs hc hn inv _ i rfl hin hun j h)
  refine⟨hjn,?_⟩
  by_cases hji:j=i
  ·subst hji;exact hy.gOp hi hq H
  ·have:=hdone _ _ _ H j (ready_mono hj hji)
   omega
 | succ f ih =>
  intro listed b a hfin inv hfree hr hy H
  have hun:=(mem_ready.1 hr).1
  refine⟨fun h=>(by rw[h] at hr;cases hr),fun j hj=>?_⟩
  have hjn:j < n:=by
   rcases Nat.lt_or_ge j n with h | h
   ·exact h
   ·exact absurd hj (tail_waits hs hc hn inv _ i rfl hin hun j h)
  refine⟨hjn,?_⟩
  by_cases hji:j=i
  ·subst hji;exact hy.gOp hi hq H
  ·have h1:=(H.2 j (ready_mono hj hji)).2
   obtain⟨hjun,oj,hoj,hall⟩:=mem_ready.1 hj
   have hnot:∀ e ∈ oj.after,Region.binds md e=true→e.on≠i:=fun e he hb heq=>by
    have h1:=hall e he hb
    rw[heq,getD_both hun] at h1
    cases h1
   have h2:=Amu hoj (hfree j oj hoj hji hjun hnot) (fun cs b=>hsel i oi cs b hi) (fun cs b=>hsel j oj cs b hoj) hy h1
   have hfree':∀ k ok,ops[k]?=some ok→k≠i→(listed.setIfInBounds j true).getD k true=false →
    (∀ e ∈ ok.after,Region.binds md e=true→e.on≠i)→oi.apart ops ok=true:=fun k ok hk hki hun hno=>by
    refine hfree k ok hk hki ?_ hno
    by_cases hjk:j=k
    ·subst hjk;exact hjun
    ·rw[getD_set_ne true hjk] at hun;exact hun
   refine Ae7 hfin (fun b' a' hfin' h3=>ih (listed.setIfInBounds j true) b' a' hfin' (inv.set hj hjn) hfree' (ready_mono hr (Ne.symm hji)) h3.1 ?_) h2
   rw[Array.setIfInBounds_comm _ _ hji]
   exact h3.2
theorem Af5 {n i:Nat} {oi:Oper} {ψ:Sem Next→Value→World→Prop} {L:Array Bool→Fx→Act→Prop} (hi:ops[i]?=some oi) (hq:Ψ i=some ψ) (hsel:∀ (j:Nat) (o:Oper) cs b,ops[j]?=some o→o.op≠.select cs b)
 (hs:Region.sinkB md ops n=true) (hc:Region.chainB md ops n=true) (hn:n < ops.size) (hin:i < n)
 (hdone:∀ listed b a,L listed b a→∀ j ∈ Region.ready md ops listed,n≤j) :
 ∀ (f:Nat) (listed:Array Bool) (b:Fx) (a:Act),b.fin→HeadInv md ops n listed →
   (∀ j oj,ops[j]?=some oj→j≠i→listed.getD j true=false→(∀ e ∈ oj.after,Region.binds md e=true→e.on≠i)→oi.apart ops oj=true∧(Ψ j).isSome=true) →
   i ∈ Region.ready md ops listed→SpecAt P ops w0 oi ψ a →
   (∀ v,(∃ w,ψ (execOp a.eval oi) v w)→b.free v→A5e P md ops w0 Ψ n L f (listed.setIfInBounds i true) (b.upd (ψ (execOp a.eval oi)) v) (a.put oi.dst v))→A5e P md ops w0 Ψ n L (f+1) listed b a:=by
 have one:∀ {b:Fx} {a:Act} {K:Fx→Act→Prop},SpecAt P ops w0 oi ψ a→(∀ v,(∃ w,ψ (execOp a.eval oi) v w)→b.free v→K (b.upd (ψ (execOp a.eval oi)) v) (a.put oi.dst v))→gOp P ops w0 Ψ i b K a:=by
  intro b a K h1 h2
  unfold gOp
  simp only[hi,hq]
  exact⟨h1,h2⟩
 intro f
 induction f with
 | zero =>
  intro listed b a hfin inv _ hr hy H
  have hun:=(mem_ready.1 hr).1
  refine⟨fun h=>(by rw[h] at hr;cases hr),fun j hj=>?_⟩
  have hjn:j < n:=by
   rcases Nat.lt_or_ge j n with h | h
   ·exact h
   ·exact absurd hj (tail_waits hs hc hn inv _ i rfl hin hun j h)
  refine⟨hjn,?_⟩
  by_cases hji:j=i
  ·subst hji;exact one hy H
  ·obtain⟨v0,hv0,hf0⟩:=hy.inh hfin
   have:=hdone _ _ _ (H v0 hv0 hf0) j (ready_mono hj hji)
   omega
 | succ f ih =>
  intro listed b a hfin inv hfree hr hy H
  have hun:=(mem_ready.1 hr).1
  refine⟨fun h=>(by rw[h] at hr;cases hr),fun j hj=>?_⟩
  have hjn:j < n:=by
   rcases Nat.lt_or_ge j n with h | h
   ·exact h
   ·exact absurd hj (tail_waits hs hc hn inv _ i rfl hin hun j h)
  refine⟨hjn,?_⟩
  by_cases hji:j=i
  ·subst hji;exact one hy H
  ·have h1:=fun v hv hf=>((H v hv hf).2 j (ready_mono hj hji)).2
   obtain⟨hjun,oj,hoj,hall⟩:=mem_ready.1 hj
   have hnot:∀ e ∈ oj.after,Region.binds md e=true→e.on≠i:=fun e he hb heq=>by
    have h1:=hall e he hb
    rw[heq,getD_both hun] at h1
    cases h1
   obtain⟨hap,hsp⟩:=hfree j oj hoj hji hjun hnot
   obtain⟨ψj,hψj⟩:=Option.isSome_iff_exists.1 hsp
   have h2:=Alx hoj hψj hap (fun cs b=>hsel i oi cs b hi) (fun cs b=>hsel j oj cs b hoj) hfin hy h1
   have hfree':∀ k ok,ops[k]?=some ok→k≠i→(listed.setIfInBounds j true).getD k true=false →
    (∀ e ∈ ok.after,Region.binds md e=true→e.on≠i)→oi.apart ops ok=true∧(Ψ k).isSome=true:=fun k ok hk hki hun hno=>by
    refine hfree k ok hk hki ?_ hno
    by_cases hjk:j=k
    ·subst hjk;exact hjun
    ·rw[getD_set_ne true hjk] at hun;exact hun
   refine Ae7 hfin (fun b' a' hfin' h3=>ih (listed.setIfInBounds j true) b' a' hfin' (inv.set hj hjn) hfree' (ready_mono hr (Ne.symm hji)) h3.1 fun v hv hf=>?_) h2
   rw[Array.setIfInBounds_comm _ _ hji]
   exact h3.2 v hv hf
def Mn (P:Program) (ops:Array Oper) (w0:World) (Ψ:A7o) (Q:Fx→Act→Prop):List Nat→Fx→Act→Prop
 | [],b,a=>Q b a
 | k :: l,b,a=>match ops[k]? with
   | none=>False
   | some o=>match Ψ k with
     | none=>∃ v,LYields P ops w0 o v a∧Mn P ops w0 Ψ Q l b (a.put o.dst v)
     | some ψ=>SpecAt P ops w0 o ψ a∧∀ v,(∃ w,ψ (execOp a.eval o) v w)→b.free v→Mn P ops w0 Ψ Q l (b.upd (ψ (execOp a.eval o)) v) (a.put o.dst v)
def Ab4 (md:Region.Mode) (ops:Array Oper) (sp:List Nat) (listed:Array Bool) (i:Nat):Bool :=
 (List.range ops.size).all fun j=>j==i || listed.getD j true || match ops[j]? with
  | some oj=>oj.after.any (fun e=>Region.binds md e&&e.on==i) || sp.contains j
  | none=>true
theorem Ahr {sp:List Nat} {i:Nat} {listed:Array Bool} (h:Ab4 md ops sp listed i=true) (j:Nat) (oj:Oper)
 (hj:ops[j]?=some oj) (hne:j≠i) (hun:listed.getD j true=false) (hno:∀ e ∈ oj.after,Region.binds md e=true→e.on≠i):j ∈ sp:=by
 simp only[Ab4,List.all_eq_true,List.mem_range] at h
 have h1:=h j (Array.getElem?_eq_some_iff.1 hj).1
 simp only[hj,Bool.or_eq_true,beq_iff_eq,hne,false_or,hun,Bool.false_eq_true] at h1
 rcases h1 with h1 | h1
 ·obtain⟨e,he,hb⟩:=Array.any_eq_true'.1 h1
  simp only[Ap,beq_iff_eq] at hb
  exact absurd hb.2 (hno e he hb.1)
 ·simpa using h1
def Ahw (md:Region.Mode) (ops:Array Oper) (sp:List Nat) (g n:Nat):List Nat→Array Bool→Bool
 | [],listed=>Region.seqB md ops g n listed
 | k :: l,listed=>(Region.ready md ops listed).contains k&&decide (k < n)&&Region.free md ops listed k&&(!sp.contains k || Ab4 md ops sp listed k)&&Ahw md ops sp g n l (listed.setIfInBounds k true)
theorem A55 {n g:Nat} {sp:List Nat} (hsp:∀ j,j ∈ sp↔(Ψ j).isSome=true) {Lq:Fx→Act→Prop} (hsel:Region.noSelect ops=true) (hs:Region.sinkB md ops n=true) (hc:Region.chainB md ops n=true) (hn:n < ops.size) :
 ∀ (l:List Nat) (listed:Array Bool) (b:Fx) (a:Act),b.fin→HeadInv md ops n listed→Ahw md ops sp g n l listed=true→Mn P ops w0 Ψ Lq l b a →
 A5e P md ops w0 Ψ n (fun listed' b a'=>Region.seqB md ops g n listed'=true∧Lq b a') l.length listed b a
 | [],listed,b,a,hfin,inv,hB,h=>⟨hB,h⟩
 | k :: l,listed,b,a,hfin,inv,hB,h=>by
  simp only[Ahw,Ap,Bb] at hB
  obtain⟨⟨⟨⟨hrd,hkn⟩,hf⟩,hsb⟩,hB'⟩:=hB
  have hr':k ∈ Region.ready md ops listed:=by simpa using hrd
  unfold Mn at h
  cases h0:ops[k]? with
  | none=>rw[h0] at h;exact h.elim
  | some o =>
   rw[h0] at h
   simp only at h
   cases hq:Ψ k with
   | none =>
    rw[hq] at h
    obtain⟨v,hy,hK⟩:=h
    exact Ahf h0 hq (Region.noSelect_spec hsel) hs hc hn hkn (fun listed' _ a' hL=>seqB_ready hL.1) l.length listed b a hfin inv (Region.free_spec h0 hf) hr' hy
     (A55 hsp hsel hs hc hn l _ _ _ hfin (inv.set hr' hkn) hB' hK)
   | some ψ =>
    rw[hq] at h
    have hk:k ∈ sp:=(hsp k).2 (by rw[hq];rfl)
    have hsb':Ab4 md ops sp listed k=true:=by
     rw[Bool.or_eq_true] at hsb
     rcases hsb with h | h
     ·have:sp.contains k=true:=by simpa using hk
      rw[this] at h;cases h
     ·exact h
    exact Af5 h0 hq (Region.noSelect_spec hsel) hs hc hn hkn (fun listed' _ a' hL=>seqB_ready hL.1) l.length listed b a hfin inv
     (fun j oj h1 h2 h3 h4=>⟨Region.free_spec h0 hf j oj h1 h2 h3 h4,(hsp j).1 (Ahr hsb' j oj h1 h2 h3 h4)⟩) hr' h.1
     fun v hv hf=>A55 hsp hsel hs hc hn l _ _ _ (Fx.fin_upd hfin _ _) (inv.set hr' hkn) hB' (h.2 v hv hf)
theorem A60 {id:Nat} {Q:Exit→Act→World→Prop} {a:Act} {w:World} {l:List Oper} (n:Nat) (ord sp:List Nat) (Ψ:A7o) (hΨ:A89 Ψ) (hsp:∀ j,j ∈ sp↔(Ψ j).isSome=true) (hm:P.follows .mixedOrders=true)
 (hB:(Region.noSelect l.toArray&&decide (n < l.toArray.size)&&decide (ord.length=n)&&Region.sinkB .any l.toArray n&&Region.chainB .any l.toArray n&&Ahw .any l.toArray sp (l.toArray.size - n) n ord (Array.replicate l.toArray.size false))=true)
 (h:Mn P l.toArray w Ψ (fun b a'=>∀ w',Below w.heap.size w w'→b.1 w'→wpList P l.toArray Q (l.drop n) a' w') ord (fun _=>True,fun _=>False) a):(Code.region id l.toArray true).wp P Q a w:=by
 simp only[Ap,Bb] at hB
 obtain⟨⟨⟨⟨⟨hsel,hn⟩,hol⟩,hs⟩,hc⟩,hlex⟩:=hB
 have hdl:(l.drop n).length=l.toArray.size - n:=by simp
 have inv0:HeadInv .any l.toArray n (Array.replicate l.toArray.size false) :=
  ⟨by simp,fun j oj _ hl=>(by rw[getD_replicate_false] at hl;cases hl),fun t _ ht=>getD_in (by simpa using ht) (getD_replicate_false _ _)⟩
 have H:=A55 (P:=P) (w0:=w) (md:=.any) (g:=l.toArray.size - n) hsp hsel hs hc hn ord _ (fun _=>True,fun _=>False) a ⟨0,fun k (hk:False)=>hk.elim⟩ inv0 hlex h
 refine wp_region_any hm ?_
 have:=Zj (md:=.any) (Q':=Q) (g:=l.toArray.size - n) hΨ (fun listed b a' w' hw' hb hL=>by
  obtain⟨hseq,hq⟩:=hL
  have:=wpAny_of_seq (md:=.any) (Q':=Q) (l.drop n) n listed a' w' (fun j=>by simp[List.getElem?_drop]) (by rw[hdl];exact hseq) (hq w' hw' hb)
  rwa [hdl] at this) _ _ _ _ w.drew (Below.refl _ _).drew trivial (fun _ _ _ _=>trivial) (fun k (hk:False)=>hk.elim) H
 rw[hol,show n+(l.toArray.size - n)=l.toArray.size by omega] at this
 exact this
theorem Afb {Q:Fx→Act→Prop} {b:Fx} {a:Act} (h:Q b a):Mn P ops w0 Ψ Q [] b a:=h
theorem A9g {Q:Fx→Act→Prop} {k:Nat} {l:List Nat} {b:Fx} {a:Act} {o:Oper} (ho:ops[k]?=some o) (hq:Ψ k=none)
 (h:∀ K:Act→Prop,(∀ a,Mn P ops w0 Ψ Q l b a→K a)→if Region.wanted o (yielded ops a.tmps) then ∃ v,(∀ s:Later w0,Oper.quietUpon P (fun w''=>Below s.world.heap.size s.world w'') s.world v ((execOp a.eval o).run P s.world))∧K (a.put o.dst v) else K (a.put o.dst undef)) :
 Mn P ops w0 Ψ Q (k :: l) b a:=by
 have:=h _ (fun _ h=>h)
 unfold Mn
 simp only[ho,hq]
 split at this
 ·rename_i hw
  obtain⟨v,h1,h2⟩:=this
  exact⟨v,.inl ⟨hw,h1⟩,h2⟩
 ·rename_i hw
  exact⟨undef,.inr ⟨by simpa using hw,rfl⟩,this⟩
theorem A91 {Q:Fx→Act→Prop} {k:Nat} {l:List Nat} {b:Fx} {a:Act} {o:Oper} {ψ:Sem Next→Value→World→Prop} (ho:ops[k]?=some o) (hq:Ψ k=some ψ) (hw:Region.wanted o (yielded ops a.tmps)=true)
 (hr:∀ s:Later w0,RunsTo P s.world (ψ (execOp a.eval o)) ((execOp a.eval o).run P s.world)) (h:∀ v w,ψ (execOp a.eval o) v w→b.free v→Mn P ops w0 Ψ Q l (b.upd (ψ (execOp a.eval o)) v) (a.put o.dst v)):Mn P ops w0 Ψ Q (k :: l) b a:=by
 unfold Mn
 simp only[ho,hq]
 exact⟨⟨hw,hr⟩,fun v ⟨w,hv⟩=>h v w hv⟩
end
section
variable {P:Program} {ops:Array Oper} {md:Region.Mode} {S:World→Prop}
abbrev Qn:Exit→Act→World→Prop:=fun _ _ _=>False
theorem Aom {o:Oper} {a:Act} {w:World} {K:Act→World→Prop} {Q:Exit→Act→World→Prop} (h:o.wp P a w K Qn):o.wp P a w K Q:=by
 unfold Oper.wp at *
 generalize (execOp a.eval o).run P w=r at *
 cases r with
 | ok n w' =>
  cases n<;>simp only[Oper.upon] at h ⊢
  case value u=>exact h
  case skip=>exact h
  case defer d=>exact h
  case enter f args =>
   refine Calls.mono h fun e w'' he=>?_
   cases e with
   | returned u=>exact he
   | panicked c=>exact he.elim
   | outgrown=>obtain⟨_,_,h⟩:=he;exact h.elim
  case row row args=>exact h
 | halt x w' =>
  cases x<;>simp only[Oper.upon] at h ⊢
  all_goals exact h.elim
theorem Ape {i:Nat} {a:Act} {w:World} {K:Act→World→Prop} {Q:Exit→Act→World→Prop} (h:wpOp P ops Qn i K a w):wpOp P ops Q i K a w:=by
 unfold wpOp at *
 split
 ·rename_i ho;simp only[ho] at h;exact h
 ·rename_i o ho
  simp only[ho] at h
  split
  ·rename_i hw
   simp only[hw,if_true] at h
   rcases h with h | ⟨_,_,_,h⟩
   ·exact .inl (Aom h)
   ·exact h.elim
  ·rename_i hw
   simp only[hw] at h
   exact h
def Abm (P:Program) (md:Region.Mode) (ops:Array Oper) (S:World→Prop) (n:Nat) (L:Array Bool→Act→World→Prop):Nat→Array Bool→Act→World→Prop
 | 0,listed,a,w=>L listed a w
 | f+1,listed,a,w =>
  Region.ready md ops listed≠[]∧∀ i ∈ Region.ready md ops listed,i < n∧wpOp P ops Qn i (fun a' w'=>S w'∧Abm P md ops S n L f (listed.setIfInBounds i true) a' w') a w
theorem Zs {n g:Nat} {L:Array Bool→Act→World→Prop} {Q:Exit→Act→World→Prop} (hL:∀ listed a w,L listed a w→wpAny P md ops Q g listed a w) :
 ∀ (f:Nat) (listed:Array Bool) (a:Act) (w:World),Abm P md ops S n L f listed a w→wpAny P md ops Q (f+g) listed a w
 | 0,listed,a,w,h=>by rw[Nat.zero_add];exact hL _ _ _ h
 | f+1,listed,a,w,h=>by
  rw[show f+1+g=(f+g)+1 by omega]
  exact⟨fun h0=>absurd h0 h.1,fun i hi=>wpOp_mono (fun a' w' h'=>Zs hL f _ a' w' h'.2) (Ape (h.2 i hi).2)⟩
theorem Ahz {n i:Nat} {oi:Oper} {v:Value} {L:Array Bool→Act→World→Prop} (hi:ops[i]?=some oi) (hsel:∀ (j:Nat) (o:Oper) cs b,ops[j]?=some o→o.op≠.select cs b)
 (hs:Region.sinkB md ops n=true) (hc:Region.chainB md ops n=true) (hn:n < ops.size) (hin:i < n)
 (hdone:∀ listed a w,L listed a w→∀ j ∈ Region.ready md ops listed,n≤j) :
 ∀ (f:Nat) (listed:Array Bool) (a:Act) (w:World),HeadInv md ops n listed →
   (∀ j oj,ops[j]?=some oj→j≠i→listed.getD j true=false→(∀ e ∈ oj.after,Region.binds md e=true→e.on≠i)→oi.apart ops oj=true) →
   i ∈ Region.ready md ops listed→YieldsIf P ops S oi v a→S w →
   Abm P md ops S n L f (listed.setIfInBounds i true) (a.put oi.dst v) w→Abm P md ops S n L (f+1) listed a w:=by
 intro f
 induction f with
 | zero =>
  intro listed a w inv _ hr hy hS H
  have hun:=(mem_ready.1 hr).1
  refine⟨fun h=>(by rw[h] at hr;cases hr),fun j hj=>?_⟩
  have hjn:j < n:=by
   rcases Nat.lt_or_ge j n with h | h
   ·exact h
   ·exact absurd hj (tail_waits hs hc hn inv _ i rfl hin hun j h)
  refine⟨hjn,?_⟩
  by_cases hji:j=i
  ·subst hji;exact hy.wpOp hi hS ⟨hS,H⟩
  ·have:=hdone _ _ _ H j (ready_mono hj hji)
   omega
 | succ f ih =>
  intro listed a w inv hfree hr hy hS H
  have hun:=(mem_ready.1 hr).1
  refine⟨fun h=>(by rw[h] at hr;cases hr),fun j hj=>?_⟩
  have hjn:j < n:=by
   rcases Nat.lt_or_ge j n with h | h
   ·exact h
   ·exact absurd hj (tail_waits hs hc hn inv _ i rfl hin hun j h)
  refine⟨hjn,?_⟩
  by_cases hji:j=i
  ·subst hji;exact hy.wpOp hi hS ⟨hS,H⟩
  ·have h1:=(H.2 j (ready_mono hj hji)).2
   obtain⟨hjun,oj,hoj,hall⟩:=mem_ready.1 hj
   have hnot:∀ e ∈ oj.after,Region.binds md e=true→e.on≠i:=fun e he hb heq=>by
    have h1:=hall e he hb
    rw[heq,getD_both hun] at h1
    cases h1
   have h2:=wpOp_putIf hoj (hfree j oj hoj hji hjun hnot) (fun cs b=>hsel i oi cs b hi) (fun cs b=>hsel j oj cs b hoj) (fun _ _ _ h=>h) hy h1
   have hfree':∀ k ok,ops[k]?=some ok→k≠i→(listed.setIfInBounds j true).getD k true=false →
    (∀ e ∈ ok.after,Region.binds md e=true→e.on≠i)→oi.apart ops ok=true:=fun k ok hk hki hun hno=>by
    refine hfree k ok hk hki ?_ hno
    by_cases hjk:j=k
    ·subst hjk;exact hjun
    ·rw[getD_set_ne true hjk] at hun;exact hun
   refine wpOp_mono (fun a' w' h3=>⟨h3.2.1,ih (listed.setIfInBounds j true) a' w' (inv.set hj hjn) hfree' (ready_mono hr (Ne.symm hji)) h3.1 h3.2.1 ?_⟩) h2
   rw[Array.setIfInBounds_comm _ _ hji]
   exact h3.2.2
def Kx (P:Program) (ops:Array Oper) (S:World→Prop) (Q:Act→World→Prop):List (Nat×Bool)→Act→World→Prop
 | [],a,w=>Q a w
 | (k,true) :: l,a,w=>match ops[k]? with
   | none=>False
   | some o=>∃ v,YieldsIf P ops S o v a∧Kx P ops S Q l (a.put o.dst v) w
 | (k,false) :: l,a,w=>match ops[k]? with
   | none=>False
   | some o=>Region.wanted o (yielded ops a.tmps)=true∧o.wp P a w (fun a' w'=>S w'∧Kx P ops S Q l a' w') Qn
def A80 (md:Region.Mode) (ops:Array Oper) (g n:Nat):List (Nat×Bool)→Array Bool→Bool
 | [],listed=>Region.seqB md ops g n listed
 | (k,true) :: l,listed=>(Region.ready md ops listed).contains k&&decide (k < n)&&Region.free md ops listed k&&A80 md ops g n l (listed.setIfInBounds k true)
 | (k,false) :: l,listed=>(Region.ready md ops listed==[k])&&decide (k < n)&&A80 md ops g n l (listed.setIfInBounds k true)
theorem A4p {n g:Nat} {Lq:Act→World→Prop} (hsel:Region.noSelect ops=true) (hs:Region.sinkB md ops n=true) (hc:Region.chainB md ops n=true) (hn:n < ops.size) :
 ∀ (l:List (Nat×Bool)) (listed:Array Bool) (a:Act) (w:World),S w→HeadInv md ops n listed→A80 md ops g n l listed=true→Kx P ops S Lq l a w →
 Abm P md ops S n (fun listed' a' w'=>Region.seqB md ops g n listed'=true∧Lq a' w') l.length listed a w
 | [],listed,a,w,hS,inv,hB,h=>⟨hB,h⟩
 | (k,true) :: l,listed,a,w,hS,inv,hB,h=>by
  simp only[A80,Ap,Bb] at hB
  obtain⟨⟨⟨hrd,hkn⟩,hf⟩,hB'⟩:=hB
  have hr':k ∈ Region.ready md ops listed:=by simpa using hrd
  unfold Kx at h
  cases h0:ops[k]? with
  | none=>rw[h0] at h;exact h.elim
  | some o =>
   rw[h0] at h
   obtain⟨v,hy,hK⟩:=h
   exact Ahz h0 (Region.noSelect_spec hsel) hs hc hn hkn (fun listed' a' w' hL=>seqB_ready hL.1) l.length listed a w inv (Region.free_spec h0 hf) hr' hy hS
    (A4p hsel hs hc hn l _ _ _ hS (inv.set hr' hkn) hB' hK)
 | (k,false) :: l,listed,a,w,hS,inv,hB,h=>by
  simp only[A80,Ap,Bb,beq_iff_eq] at hB
  obtain⟨⟨hrd,hkn⟩,hB'⟩:=hB
  have hr':k ∈ Region.ready md ops listed:=by rw[hrd];simp
  unfold Kx at h
  cases h0:ops[k]? with
  | none=>rw[h0] at h;exact h.elim
  | some o =>
   rw[h0] at h
   obtain⟨hwt,hK⟩:=h
   refine⟨by rw[hrd];simp,fun j hj=>?_⟩
   rw[hrd] at hj
   obtain rfl:j=k:=by simpa using hj
   refine⟨hkn,?_⟩
   unfold wpOp
   simp only[h0,hwt,if_true]
   exact .inl (Oper.wp_mono (fun a' w' h'=>⟨h'.1,A4p hsel hs hc hn l _ _ _ h'.1 (inv.set hr' hkn) hB' h'.2⟩) hK)
theorem Py {id:Nat} {Q:Exit→Act→World→Prop} {a:Act} {w:World} {l:List Oper} (n:Nat) (ord:List (Nat×Bool)) (S:World→Prop) (hm:P.follows .mixedOrders=true)
 (hB:(Region.noSelect l.toArray&&decide (n < l.toArray.size)&&decide (ord.length=n)&&Region.sinkB .any l.toArray n&&Region.chainB .any l.toArray n&&A80 .any l.toArray (l.toArray.size - n) n ord (Array.replicate l.toArray.size false))=true)
 (hS:S w.drew) (h:∀ wd:World,wd.heap=w.heap→Below w.heap.size w wd→Kx P l.toArray S (fun a' w'=>wpList P l.toArray Q (l.drop n) a' w') ord a wd):(Code.region id l.toArray true).wp P Q a w:=by
 simp only[Ap,Bb] at hB
 obtain⟨⟨⟨⟨⟨hsel,hn⟩,hol⟩,hs⟩,hc⟩,hlex⟩:=hB
 have hdl:(l.drop n).length=l.toArray.size - n:=by simp
 have inv0:HeadInv .any l.toArray n (Array.replicate l.toArray.size false) :=
  ⟨by simp,fun j oj _ hl=>(by rw[getD_replicate_false] at hl;cases hl),fun t _ ht=>getD_in (by simpa using ht) (getD_replicate_false _ _)⟩
 have H:=A4p (P:=P) (md:=.any) (g:=l.toArray.size - n) hsel hs hc hn ord _ a w.drew hS inv0 hlex (h w.drew rfl (Below.refl _ _).drew)
 refine wp_region_any hm ?_
 have:=Zs (md:=.any) (Q:=Q) (g:=l.toArray.size - n) (fun listed a' w' hL=>by
  obtain⟨hseq,hq⟩:=hL
  have:=wpAny_of_seq (md:=.any) (Q':=Q) (l.drop n) n listed a' w' (fun j=>by simp[List.getElem?_drop]) (by rw[hdl];exact hseq) hq
  rwa [hdl] at this) _ _ _ _ H
 rw[hol,show n+(l.toArray.size - n)=l.toArray.size by omega] at this
 exact this
theorem Cn {Q:Act→World→Prop} {k:Nat} {l:List (Nat×Bool)} {a:Act} {w:World} {o:Oper} (ho:ops[k]?=some o) (hw:Region.wanted o (yielded ops a.tmps)=true) (v:Value)
 (h1:∀ w',S w'→(execOp a.eval o).run P w'=.ok (.value v) w') (h:∀ K:Act→Prop,(∀ a,Kx P ops S Q l a w→K a)→K (a.put o.dst v)):Kx P ops S Q ((k,true) :: l) a w:=by
 have:=h _ (fun _ h=>h)
 unfold Kx
 simp only[ho]
 exact⟨v,.inl ⟨hw,h1⟩,this⟩
theorem J3 {Q:Act→World→Prop} {k:Nat} {l:List (Nat×Bool)} {a:Act} {w:World} {o:Oper} (ho:ops[k]?=some o) (hw:Region.wanted o (yielded ops a.tmps)=true)
 (h:∀ K:Act→World→Prop,(∀ a w,S w→Kx P ops S Q l a w→K a w)→o.wp P a w K Qn):Kx P ops S Q ((k,false) :: l) a w:=by
 unfold Kx
 simp only[ho]
 exact⟨hw,h _ fun a w h1 h2=>⟨h1,h2⟩⟩
end
theorem Wr {P:Program} {t:TypeId} {z:Value} {s b:Nat} (h:(P.info? t).map (fun i=>(i.zero,i.size,i.bytes))=some (some z,s,b)):∃ i,P.info? t=some i∧i.zero=some z∧i.size=s∧i.bytes=b:=by
 cases hi:P.info? t with
 | none=>rw[hi] at h;cases h
 | some i=>rw[hi] at h;simp at h;exact⟨i,rfl,h⟩
def Blk (W:World) (g:Nat) (u:Value):Prop:=∃ ex E,W.heap[g]?=some (.cells (u :: ex).toArray E (0,0))
theorem Blk.later {w w':World} {g:Nat} {u:Value} (h:Blk w g u) (hb:Below w.heap.size w w'):Blk w' g u:=by
 obtain⟨ex,E,h⟩:=h
 exact⟨ex,E,Fresh.later (o:=.cells (u :: ex).toArray E (0,0)) h hb⟩
theorem Blk.other {w:World} {g:Nat} {u:Value} (h:Blk w g u) {p:Addr} (hp:p.block≠g) (v:Value):Blk (w.setCell p v) g u:=by
 obtain⟨ex,E,h⟩:=h
 exact⟨ex,E,(Below.heap_setCell w p v g (Ne.symm hp)).trans h⟩
theorem Blk.var {w:World} {g:Nat} {u:Value} (h:Blk w g u):VarAt w g 0 u:=by
 obtain⟨ex,E,h⟩:=h
 exact⟨by simp[World.cell?,h],by simp[World.frozen?,h]⟩
theorem Blk.lt {w:World} {g:Nat} {u:Value} (h:Blk w g u):g < w.heap.size:=h.var.lt
structure J (w:World) (c1 c2 b1 o1 b2 o2 C:Nat) (W:World) (vp vr vm vb:Value):Prop where
 l1:b1 < w.heap.size
 l2:b2 < w.heap.size
 y1:W.cell? ⟨b1,o1,none⟩=some (.int .i64 1)
 y2:W.cell? ⟨b2,o2,none⟩=some (.int .i64 1)
 z1:W.cell? ⟨w.heap.size,1,none⟩=some (.slice (some ⟨b1,o1,none⟩) 1 c1)
 z2:W.cell? ⟨w.heap.size,2,none⟩=some (.slice (some ⟨b2,o2,none⟩) 1 c2)
 r0:VarAt W (w.heap.size+1) 0 (.slice none 0 0)
 r1:VarAt W (w.heap.size+1) 1 (.slice none 0 0)
 r2:VarAt W (w.heap.size+1) 2 (.slice none 0 0)
 r3:VarAt W (w.heap.size+1) 3 (.slice none 0 0)
 q0:VarAt W C 0 vp
 q1:VarAt W C 1 vr
 q2:VarAt W C 2 vm
 q3:VarAt W C 3 vb
 hb:Below w.heap.size w W
 lt:w.heap.size+1 < C
 sz:C < W.heap.size
section
variable {w:World} {c1 c2 b1 o1 b2 o2 C:Nat} {W W':World} {vp vr vm vb:Value}
theorem J.later (h:J w c1 c2 b1 o1 b2 o2 C W vp vr vm vb) (hb:Below W.heap.size W W'):J w c1 c2 b1 o1 b2 o2 C W' vp vr vm vb :=
 ⟨h.l1,h.l2,cell_later hb h.y1,cell_later hb h.y2,cell_later hb h.z1,cell_later hb h.z2,h.r0.later hb,h.r1.later hb,h.r2.later hb,h.r3.later hb,h.q0.later hb,h.q1.later hb,h.q2.later hb,h.q3.later hb,h.hb.trans (hb.mono h.hb.size),h.lt,Nat.lt_of_lt_of_le h.sz hb.size⟩
theorem Wf {W:World} {b o:Nat} {v:Value} (h:W.cell? ⟨b,o,none⟩=some v) {p:Addr} (hp:p.block≠b∨p.off≠o) (u:Value):(W.setCell p u).cell? ⟨b,o,none⟩=some v:=by
 rw[World.cell?_setCell_other]
 ·exact h
 ·rintro rfl
  simp at hp
theorem J.set (h:J w c1 c2 b1 o1 b2 o2 C W vp vr vm vb) {k:Nat} (u:Value) {vp' vr' vm' vb':Value} (q0:VarAt (W.setCell ⟨C,k,none⟩ u) C 0 vp') (q1:VarAt (W.setCell ⟨C,k,none⟩ u) C 1 vr') (q2:VarAt (W.setCell ⟨C,k,none⟩ u) C 2 vm') (q3:VarAt (W.setCell ⟨C,k,none⟩ u) C 3 vb') :
 J w c1 c2 b1 o1 b2 o2 C (W.setCell ⟨C,k,none⟩ u) vp' vr' vm' vb':=by
 have l1:=h.l1;have l2:=h.l2;have lt:=h.lt
 have hC:w.heap.size+1≠C:=by omega
 exact⟨h.l1,h.l2,Wf h.y1 (.inl (show C≠b1 by omega)) u,Wf h.y2 (.inl (show C≠b2 by omega)) u,Wf h.z1 (.inl (show C≠_ by omega)) u,Wf h.z2 (.inl (show C≠_ by omega)) u,
  h.r0.other (.inl (Ne.symm hC)) u,h.r1.other (.inl (Ne.symm hC)) u,h.r2.other (.inl (Ne.symm hC)) u,h.r3.other (.inl (Ne.symm hC)) u,q0,q1,q2,q3,h.hb.setCell (show w.heap.size≤C by omega) u,h.lt,by rw[World.size_setCell];exact h.sz⟩
end
theorem Ld {w:World} {base:Nat} {e:TypeId} {size:Nat} {v:Value} {n:Nat} {xs:List Value} (h:w.ownsRow base e size v n xs) {b:Nat} (hb:v.ownBlock=some b):base≤b∧b < w.heap.size:=by
 rcases h.2 with ⟨rfl,_⟩ | ⟨g,cap,cur,rfl,hbg,hgg,_⟩
 ·cases hb
 ·obtain rfl:g=b:=by simpa [Value.ownBlock] using hb
  exact⟨hbg,(Array.getElem?_eq_some_iff.1 hgg).1⟩
theorem A23 {w w':World} {base base':Nat} {e:TypeId} {size:Nat} {v:Value} {n:Nat} {xs:List Value} (h:w.ownsRow base e size v n xs) (hb:∀ b,v.ownBlock=some b→base'≤b∧w'.heap[b]?=w.heap[b]?):w'.ownsRow base' e size v n xs:=by
 refine⟨h.1,?_⟩
 rcases h.2 with hn | ⟨g,cap,cur,rfl,hbg,hgg,rest⟩
 ·exact .inl hn
 ·obtain⟨h1,h2⟩:=hb g rfl
  exact .inr ⟨g,cap,cur,rfl,h1,h2.trans hgg,rest⟩
theorem Ajm {v:Value} {k:Nat} (h:A0t v=some k) {w:World} {B:Nat} {e:TypeId} {size n:Nat} {xs:List Value} (ho:w.ownsRow B e size v n xs):B≤k∧k < w.heap.size:=by
 refine Ld ho ?_
 rcases ho.2 with ⟨rfl,_⟩ | ⟨g,cap,cur,rfl,_⟩
 ·cases h
 ·exact h
theorem A86 {P:Program} (W:World):Sim P W.heap.size (SAll W) W [] []:=⟨rfl,Nat.le_refl _,fun _ _ ⟨u,hu⟩=>⟨u,hu,fun hb=>absurd (O2 hu) (by omega)⟩,fun id o ho=>by simp at ho,fun i j b hi=>by simp[Aw] at hi⟩
theorem A8a {α:Type} {r:Rd α} {cells:α→List Value} (hlen:∀ x,(cells x).length=r.size) {w:World} {B:Nat} {e:TypeId} {v:Value} {l:List α} (ho:w.ownsRow B e r.size v l.length (l.flatMap cells)) (hr:∀ x ∈ l,r.rel w (cells x) x):Sl r w v l:=by
 rcases Tv ho with ⟨rfl,h0⟩ | ⟨g,cap,ex,rfl,hg,hh,hc,hm,_⟩
 ·exact⟨none,0,by rw[h0],⟨by omega,by decide,fun _=>rfl⟩,fun k hk=>by omega⟩
 ·refine⟨some ⟨g,0,none⟩,cap,rfl,⟨hc,hm,fun h=>by cases h⟩,fun k hk=>⟨g,0,cells l[k],rfl,hlen _,fun j u hj=>?_,hr _ (List.getElem_mem hk)⟩⟩
  have hjl:j < r.size:=by rw[← hlen l[k]];exact(List.getElem?_eq_some_iff.1 hj).1
  have h1:=Ag0 cells r.size hlen l k hk j hjl
  rw[hj] at h1
  have h2:(l.flatMap cells++ex)[k*r.size+j]?=some u:=by rw[List.getElem?_append_left (List.getElem?_eq_some_iff.1 h1).1];exact h1
  simp only[World.cell?,hh]
  rw[Nat.zero_add]
  simpa using h2
def Ta (E:TypeId) (w w':World):Prop:=∀ (b:Nat) cs E' f,w.heap[b]?=some (.cells cs E' f)→E'≠E→w'.heap[b]?=w.heap[b]?
theorem G3 {w:World} {D k:Nat} {cs:Array Value} {E:TypeId} {f:Nat×Nat} (h:w.heap[D]?=some (.cells cs E f)) (v:Value):Ta E w (w.setCell ⟨D,k,none⟩ v):=by
 intro b cs' E' f' hb hne
 refine Below.heap_setCell w ⟨D,k,none⟩ v b ?_
 rintro rfl
 rw[h] at hb
 cases hb
 exact hne rfl
theorem Yz {w w':World} {B:Nat} {E:TypeId} {size n:Nat} {v:Value} {xs:List Value} (h:w.ownsRow B E size v n xs) (hg:w.grownBy w' v.ownBlock):Ta E w w':=by
 intro b cs' E' f' hb hne
 refine hg.block b (Array.getElem?_eq_some_iff.1 hb).1 ?_
 intro e
 rcases h.2 with ⟨rfl,_⟩ | ⟨g,cap,cur,rfl,_,hgg,_⟩
 ·cases e
 ·obtain rfl:b=g:=by simpa [Value.ownBlock] using e
  rw[hb] at hgg
  cases hgg
  exact hne rfl
theorem Cm {w w':World} {B:Nat} {e E:TypeId} {size n:Nat} {v:Value} {xs:List Value} (h:w.ownsRow B e size v n xs) (hk:Ta E w w') (he:e≠E):w'.ownsRow B e size v n xs:=by
 refine⟨h.1,?_⟩
 rcases h.2 with hn | ⟨g,cap,cur,rfl,hbg,hgg,rest⟩
 ·exact .inl hn
 ·exact .inr ⟨g,cap,cur,rfl,hbg,(hk g _ _ _ hgg he).trans hgg,rest⟩
theorem Fresh.keeps {w w':World} {b:Nat} {cs:Array Value} {E E':TypeId} (h:Fresh w b (.cells cs E')) (hk:Ta E w w') (he:E'≠E):Fresh w' b (.cells cs E'):=(hk b _ _ _ h he).trans h
theorem Fresh.put {w:World} {b k:Nat} {cs:Array Value} {E:TypeId} (h:Fresh w b (.cells cs E)) (v:Value):Fresh (w.setCell ⟨b,k,none⟩ v) b (.cells (cs.setIfInBounds k v) E):=by
 unfold Fresh at h ⊢
 simp[World.setCell,Array.getElem?_modify,h]
theorem Fresh.open {w:World} {b k:Nat} {cs:Array Value} {E:TypeId} {v:Value} (h:Fresh w b (.cells cs E)) (hv:cs[k]?=some v):w.cell? ⟨b,k,none⟩=some v∧w.frozen? ⟨b,k,none⟩=false:=by
 unfold Fresh at h
 exact⟨by simp[World.cell?,h,hv],by simp[World.frozen?,h]⟩
theorem Akt {w:World} {B:Nat} {e:TypeId} {size n:Nat} {v:Value} {xs:List Value} (h:w.ownsRow B e size v n xs) {g:Nat} (hg:v.ownBlock=some g) {k:Nat} (hk:k < n*size) (x:Value):(w.setCell ⟨g,k,none⟩ x).ownsRow B e size v n (xs.set k x):=by
 refine⟨by rw[List.length_set];exact h.1,.inr ?_⟩
 rcases h.2 with ⟨rfl,_⟩ | ⟨g',cap,cs,rfl,h1,h2,h3,h4,h5,h6⟩
 ·cases hg
 ·obtain rfl:g'=g:=by simpa [Value.ownBlock] using hg
  refine⟨g',cap,cs.setIfInBounds k x,rfl,h1,by simp[World.setCell,Array.getElem?_modify,h2],h3,h4,by simp[h5],?_⟩
  rw[← h6]
  simp only[Array.toList_setIfInBounds]
  rw[List.take_set]
theorem Fresh.new (w:World) (o:Obj):Fresh (w.alloc o) w.heap.size o:=heap_alloc_new w o
theorem Fresh.blk {w:World} {b:Nat} {u:Value} {ex:List Value} {E:TypeId} (h:Fresh w b (.cells (u :: ex).toArray E)):Blk w b u:=⟨ex,E,h⟩
theorem Fresh.setCell {w:World} {b:Nat} {o:Obj} (h:Fresh w b o) {p:Addr} (hp:p.block≠b) (v:Value):Fresh (w.setCell p v) b o:=(Below.heap_setCell w p v b (Ne.symm hp)).trans h
section
variable {S:Nat→Nat→Prop} {W:World}
end
theorem Blk.put {w:World} {g:Nat} {u:Value} (h:Blk w g u) (v:Value):Blk (w.setCell ⟨g,0,none⟩ v) g v:=by
 obtain⟨ex,E,h⟩:=h
 refine⟨ex,E,?_⟩
 simp[World.setCell,Array.getElem?_modify,h]
theorem Aqx {P:Program} {H:Bu} {call:Ct} {f:FuncId} {fuel base:Nat} (hm:P.follows .mixedOrders=true) (hH:R1 P H) (hc:He P H call) {c:Code} (hd:Hw H f c=true)
 {S:Nat→Nat→Prop} {W:World} {hp:Hp} {φ:List Pl} {tm:Tm} {A:Act} (hs:Sim P base S W hp φ) (ht:Reps S W hp φ tm A.tmps.toList) {tm1:Tm} {hp1:Hp}
 (h:Ss P H call f fuel hp.length c tm hp (fun e tm hp'=>match e with
  | .normal=>Fg force (fun tm=>C5 (fun hp=>some (tm,hp)) hp') tm
  | _=>none)=some (tm1,hp1))
 {K:Act→World→Prop} {Q:Exit→Act→World→Prop} (hK:∀ S' w' φ' a',Sim P base S' w' hp1 φ'→Reps S' w' hp1 φ' tm1 a'.tmps.toList→Trans base S W hp φ S' w' hp1 φ'→a'.defers=A.defers→K a' w'):c.wp P (Exit.then K Q) A W:=by
 refine A7d hm hH hc hs c hd (.refl _ _ _ _ _) hs ht h ?_
 intro e tm' hp' S' φ' a' w' g1 g2 g3 g4 g5
 cases e with
 | exit id=>cases g1
 | ret=>cases g1
 | normal =>
  simp only[Dn Sm,B6] at g1
  cases g1
  exact hK _ _ _ _ g3 g2 g4 g5
end Go.Proofs.YteindmlljlboeaaGreat
end
end
section
namespace Go.Proofs.YteindmlljlboeaaGreat
open Go.RowKit
set_option linter.unusedVariables false
set_option linter.unusedSimpArgs false
def hN (x:A0):A0:=⟨x.B1,x.Bk,x.Ae,x.C2,0⟩
def hS (x:A2):A2:=⟨x.Ah,x.Bj,x.Bg,x.Bh.map hN,x.Cg.map hN,x.Cx,x.Aq,x.Be,0⟩
def hV (v:Az):Az:=⟨v.Ae,v.Bk,0⟩
def hT (t:Ag):Ag:=⟨t.Ae,t.Ay,t.Aq.map hS,0⟩
def hC (c:Ai):Ai:=⟨c.Ah,c.Bh.map hN,0⟩
def hP (p:Ar):Ar:=⟨p.B2,p.Ao.map hV,p.A7.map hT,p.Ac.map hC⟩
def Mc (x:A0):List Value:=[.int .i64 x.B1,.int .i64 x.Bk,.string (bs x.Ae),.string (bs x.C2),.int .i64 x.B0]
theorem Za (x:A0):(Mc x).length=5:=rfl
theorem Al1 {w:World} {cs:List Value} {x:A0} (h:Dp.rel w cs x):cs=Mc x:=by
 obtain⟨⟨a,b,c,d,e⟩,⟨⟨h1,_⟩,⟨h2,_⟩,⟨h3,_⟩,⟨h4,_⟩,⟨h5,_⟩⟩,rfl⟩:=h
 match cs,h1,h2,h3,h4,h5 with
 | [],h1,_,_,_,_=>cases h1
 | x0 :: cs,h1,h2,h3,h4,h5 =>
  match cs,h2,h3,h4,h5 with
  | [],h2,_,_,_=>cases h2
  | x1 :: cs,h2,h3,h4,h5 =>
   match cs,h3,h4,h5 with
   | [],h3,_,_=>cases h3
   | x2 :: cs,h3,h4,h5 =>
    match cs,h4,h5 with
    | [],h4,_=>cases h4
    | x3 :: cs,h4,h5 =>
     obtain rfl:x0=_:=(List.cons.inj h1).1
     obtain rfl:x1=_:=(List.cons.inj h2).1
     obtain rfl:x2=_:=(List.cons.inj h3).1
     obtain rfl:x3=_:=(List.cons.inj h4).1
     obtain rfl:cs=_:=h5
     rfl
theorem Mu:Ll Dp:=Qg _ (Ck (D5 _) (Ck (D5 _) (Ck Qm (Ck Qm (D5 _)))))
theorem Aju {w:World} {v:Value} {l:List A0} (h:Sl Dp w v l):Arr w 5 v l.length (l.flatMap Mc) :=
 Arr.of_slice (r:=Dp) (by decide) Za (fun _ _ _=>Al1) h
theorem Aib (l:List A0):Gw (l.flatMap Mc):=by
 intro v hv
 obtain⟨x,_,hx⟩:=List.mem_flatMap.1 hv
 simp only[Mc,List.mem_cons,List.not_mem_nil,or_false] at hx
 rcases hx with rfl | rfl | rfl | rfl | rfl<;>rfl
theorem Ai1 {w:World} {v:Value} {l:List A0} (h:Sl Dp w v l):∃ a c,v=.slice a l.length c:=by
 obtain⟨a,cap,h0,_⟩:=h
 exact⟨a,cap,by simpa using h0⟩
theorem Dw {w:World} {B:Nat} {e:TypeId} {size n:Nat} {v:Value} {xs:List Value} (h:w.ownsRow B e size v n xs):∃ a c,v=.slice a n c:=by
 rcases h.2 with ⟨rfl,rfl⟩ | ⟨g,cap,cur,rfl,_⟩<;>exact⟨_,_,rfl⟩
theorem Ail {w:World} {B:Nat} {e:TypeId} {size n c:Nat} {a:Option Addr} {xs:List Value} (h:w.ownsRow B e size (.slice a n c) n xs) {k:Nat} (hk:k < n*size):∃ g,a=some ⟨g,0,none⟩∧B≤g∧n≤c∧∃ old,w.cell? ⟨g,k,none⟩=some old∧w.frozen? ⟨g,k,none⟩=false:=by
 rcases h.2 with ⟨h0,h1⟩ | ⟨g,cap,cur,hv,hg,hgg,h1,h2,h3,h4⟩
 ·subst h1;omega
 ·obtain⟨rfl,_,rfl⟩:=Value.slice.inj hv
  have hi2:k < cur.size:=by rw[h3];exact Nat.lt_of_lt_of_le hk (Nat.mul_le_mul_right _ h1)
  exact⟨g,rfl,hg,h1,cur[k],by simp[World.cell?,hgg,hi2],by simp[World.frozen?,hgg]⟩
def NodesAt (B:Nat) (w:World) (v:Value) (l:List A0):Prop:=w.ownsRow B 42 5 v l.length (l.flatMap Mc)
theorem Amx (l:List A0) (k:Nat) (hk:k < l.length):(((l.take k).map hN++l.drop k).flatMap Mc).set (k*5+4) (.int .i64 0)=((l.take (k+1)).map hN++l.drop (k+1)).flatMap Mc:=by
 rw[List.take_add_one,B7 hk,Option.toList_some,List.map_append,List.drop_eq_getElem_cons hk]
 have hlen:(((l.take k).map hN).flatMap Mc).length=k*5:=by rw[Z1 Mc 5 Za,B3,List.length_take];omega
 rw[List.flatMap_append,List.flatMap_append,List.flatMap_append,List.flatMap_cons,List.set_append_right _ _ (by omega),hlen,show k*5+4 - k*5=4 by omega,List.append_assoc]
 congr 1
set_option maxRecDepth 100000 in
set_option maxHeartbeats 2000000 in
theorem A3j (w:World) (v:Value) (l:List A0) (hv:Sl Dp w v l) (hl:l.length≤4000):Calls Tryz.prog 17 #[v] w fun e w'=>∃ u,e=.returned u∧Below w.heap.size w w'∧NodesAt w.heap.size w' u (l.map hN):=by
 have HA:=Lib.hid (Aju hv)
 obtain⟨a,cap,rfl⟩:=Ai1 hv
 clear hv
 obtain⟨i0,hi,hi0,hi1,hi2⟩:∃ i,Tryz.prog.info? 42=some i∧i.zero=some (.agg #[.int .i64 0,.int .i64 0,.string ByteArray.empty,.string ByteArray.empty,.int .i64 0])∧i.size=5∧i.bytes=56:=Wr (by kernel_rfl)
 obtain⟨n,hn⟩:∃ n,l.length=n:=⟨_,rfl⟩
 rw[hn] at HA hl ⊢
 have N1:=Lib.hid hn
 clear hn
 go_enter Tryz.func17,Tryz.ntmps17
 go_wp2_with (at_builtin;refine A40 rfl _ _ 36 rfl w.heap.size 42 i0 _ 5 56 Tryz.underlying36 hi hi0 hi1 hi2 rfl (by decide) _ 0 [] rfl (World.ownsRow_nil _ _ _ _) _ _ _ rfl HA.out (Aib _) ?a1 ?a2 ?a3 ?_)
 case a1=>unfold maxLen;omega
 case a2=>omega
 case a3=>exact Nat.le_refl _
 intro v' w' hown hg
 have HB:=Lib.hid (show Below w.heap.size w w' from Below.grown (Below.refl _ _) hg (Nat.le_refl _) (by simp[Value.ownBlock]))
 try rw[Nat.zero_add,List.nil_append] at hown
 obtain⟨p1,p3,rfl⟩:=Dw hown
 have HN:=Lib.hid hown
 clear hown hg
 go_wp2_with fail
 go_loopw [9] (fun i wr=>∃ k:Nat,i=.int .i64 k∧k≤n∧Below w.heap.size w wr∧wr.ownsRow w.heap.size 42 5 (.slice p1 n p3) n (((l.take k).map hN++l.drop k).flatMap Mc)) (fun i _=>n - (intOf i).toNat)
 case atStart=>exact⟨0,rfl,by omega,HB.out,by simpa using HN.out⟩
 case round =>
  obtain⟨k,rfl,hk,hb,ho⟩:=hrel
  have HBr:=Lib.hid hb;have HO:=Lib.hid ho
  clear hb ho
  by_cases hlt:k < n
  ·obtain⟨g,rfl,hg,hc,old,l1,l2⟩:=Ail HO.out (k:=k*5+4) (by omega)
   have HG:=Lib.hid hg
   clear hg
   go_wp2_with fail
   go_round
   case rel =>
    refine⟨k+1,by go_num,by omega,HBr.out.setCell (p:=⟨g,k*5+4,none⟩) HG.out _,?_⟩
    have:=Akt HO.out (g:=g) rfl (k:=k*5+4) (by omega) (.int .i64 0)
    rw[Amx l k (by have:=N1.out;omega)] at this
    exact this
   case measure=>simp[intOf];omega
  ·have hkn:n=k:=by omega
   subst hkn
   go_wp2_with fail
   go_ret
   refine⟨_,rfl,HBr.out,?_⟩
   have:=HO.out
   rw[List.take_of_length_le (by rw[N1.out];exact Nat.le_refl _),List.drop_of_length_le (by rw[N1.out];exact Nat.le_refl _),List.append_nil] at this
   unfold NodesAt
   rw[B3,N1.out]
   exact this
theorem Fd {cs:List Value} {v:Value} (h:cs.take 1=[v]):∃ t,cs=v :: t:=by
 cases cs with
 | nil=>cases h
 | cons x t=>exact⟨t,by rw[(List.cons.inj h).1]⟩
def Ahv (x:Az):List Value:=[.string (bs x.Ae),.int .i64 x.Bk,.int .i64 x.B0]
theorem Ala (x:Az):(Ahv x).length=3:=rfl
theorem An3 {w:World} {cs:List Value} {x:Az} (h:J6.rel w cs x):cs=Ahv x:=by
 obtain⟨⟨a,b,c⟩,⟨⟨h1,_⟩,⟨h2,_⟩,⟨h3,_⟩⟩,rfl⟩:=h
 obtain⟨t1,rfl⟩:=Fd h1
 obtain⟨t2,rfl⟩:=Fd (cs:=t1) h2
 obtain rfl:t2=_:=h3
 rfl
theorem Aki {w:World} {cs:List Value} {x:A2} (h:Kd.rel w cs x):∃ ae ce af cf,cs=[.int .i64 x.Ah,.string (bs x.Bj),.string (bs x.Bg),.slice ae x.Bh.length ce,.slice af x.Cg.length cf,.bool x.Cx,.int .i64 x.Aq,.int .i64 x.Be,.int .i64 x.B0]∧Sl Dp w (.slice ae x.Bh.length ce) x.Bh∧Sl Dp w (.slice af x.Cg.length cf) x.Cg:=by
 obtain⟨⟨a,b,c,d,e,f,g,i,j⟩,⟨⟨h1,_⟩,⟨h2,_⟩,⟨h3,_⟩,⟨a4,c4,h4,r4⟩,⟨a5,c5,h5,r5⟩,h6,⟨h7,_⟩,⟨h8,_⟩,⟨h9,_⟩⟩,rfl⟩:=h
 obtain⟨t1,rfl⟩:=Fd h1
 obtain⟨t2,rfl⟩:=Fd (cs:=t1) h2
 obtain⟨t3,rfl⟩:=Fd (cs:=t2) h3
 obtain⟨t4,rfl⟩:=Fd (cs:=t3) h4
 obtain⟨t5,rfl⟩:=Fd (cs:=t4) h5
 obtain⟨t6,rfl⟩:=Fd (cs:=t5) h6
 obtain⟨t7,rfl⟩:=Fd (cs:=t6) h7
 obtain⟨t8,rfl⟩:=Fd (cs:=t7) h8
 obtain rfl:t8=_:=h9
 exact⟨_,_,_,_,rfl,⟨_,_,rfl,r4⟩,⟨_,_,rfl,r5⟩⟩
theorem Ah1 {w:World} {cs:List Value} {x:Ag} (h:Es.rel w cs x):∃ ar cr ab cb,cs=[.string (bs x.Ae),.slice ar x.Ay.length cr,.slice ab x.Aq.length cb,.int .i64 x.B0]∧Sl Fq w (.slice ar x.Ay.length cr) x.Ay∧Sl Kd w (.slice ab x.Aq.length cb) x.Aq:=by
 obtain⟨⟨a,b,c,d⟩,⟨⟨h1,_⟩,⟨a4,c4,h4,r4⟩,⟨a5,c5,h5,r5⟩,⟨h9,_⟩⟩,rfl⟩:=h
 obtain⟨t1,rfl⟩:=Fd h1
 obtain⟨t2,rfl⟩:=Fd (cs:=t1) h4
 obtain⟨t3,rfl⟩:=Fd (cs:=t2) h5
 obtain rfl:t3=_:=h9
 exact⟨_,_,_,_,rfl,⟨_,_,rfl,r4⟩,⟨_,_,rfl,r5⟩⟩
theorem Akd {w:World} {cs:List Value} {x:Ai} (h:Fv.rel w cs x):∃ ae ce,cs=[.int .i64 x.Ah,.slice ae x.Bh.length ce,.int .i64 x.B0]∧Sl Dp w (.slice ae x.Bh.length ce) x.Bh:=by
 obtain⟨⟨a,b,c⟩,⟨⟨h1,_⟩,⟨a4,c4,h4,r4⟩,⟨h9,_⟩⟩,rfl⟩:=h
 obtain⟨t1,rfl⟩:=Fd h1
 obtain⟨t2,rfl⟩:=Fd (cs:=t1) h4
 obtain rfl:t2=_:=h9
 exact⟨_,_,rfl,⟨_,_,rfl,r4⟩⟩
theorem Alr:Ll J6:=Qg _ (Ck Qm (Ck (D5 _) (D5 _)))
theorem Akb:Ll Kd:=Qg _ (Ck (D5 _) (Ck Qm (Ck Qm (Ck (Kc Mu) (Ck (Kc Mu) (Ck A9x (Ck (D5 _) (Ck (D5 _) (D5 _)))))))))
theorem Aeo:Ll Es:=Qg _ (Ck Qm (Ck (Kc Qm) (Ck (Kc Akb) (D5 _))))
theorem Ah7:Ll Fv:=Qg _ (Ck (D5 _) (Ck (Kc Mu) (D5 _)))
theorem Ab9 {α:Type} {r:Rd α} {w:World} {a:Option Addr} {n c:Nat} {l:List α} (h:Sl r w (.slice a n c) l) {k:Nat} (hk:k < l.length):∃ b off cs',a=some ⟨b,off,none⟩∧cs'.length=r.size∧(∀ j u,cs'[j]?=some u→w.cell? ⟨b,off+k*r.size+j,none⟩=some u)∧r.rel w cs' l[k]:=by
 obtain⟨a',cap,h0,_,h3⟩:=h
 obtain⟨rfl,rfl,rfl⟩:=Value.slice.inj (List.cons.inj h0).1
 exact h3 k hk
theorem A6f {α:Type} {r:Rd α} {w:World} {a:Option Addr} {n c:Nat} {l:List α} (h:Sl r w (.slice a n c) l):n=l.length∧l.length≤c:=by
 obtain⟨a',cap,h0,h1,h3⟩:=h
 obtain⟨rfl,rfl,rfl⟩:=Value.slice.inj (List.cons.inj h0).1
 exact⟨rfl,h1.1⟩
theorem Am8 {P:Program} {w:World} {o:Oper} {a:Act} (x:Operand) (t:TypeId) (ho:o.op=.call { callee:=.builtin .append,args:=#[.const (.slice none 0 0),x],argTypes:=#[t,t] })
 (e:TypeId) (i:TypeInfo) (z:Value) (size bytes:Nat) (ht:P.underlying t=some (.slice e)) (hi:P.info? e=some i) (hz:i.zero=some z) (hsize:i.size=size) (hby:i.bytes=bytes) (hzs:z.cells.size=size) (hsz:0 < size)
 (v2:Value) (m:Nat) (news:List Value) (hx:a.eval x=v2) (harr:Arr w size v2 m news) (h1:∀ u ∈ news,u.oneCell'=true) (h63:m≤maxLen) (hbytes:m*bytes≤140737488355328) :
 RunsTo P w (fun u w'=>w'.ownsRow w.heap.size e size u m news) ((execOp a.eval o).run P w):=by
 have hs:a.eval (.const (.slice none 0 0))=.slice none 0 0:=rfl
 have hown:w.ownsRow w.heap.size e size (.slice none 0 0) 0 []:=World.ownsRow_nil _ _ _ _
 obtain⟨hl,ad,cap,rfl,⟨h2,_,h3⟩,hc⟩:=harr
 cases ad with
 | none =>
  obtain rfl:=h3 rfl
  obtain rfl:m=0:=by omega
  obtain rfl:news=[]:=List.eq_nil_of_length_eq_zero (by rw[hl];simp)
  have hrun:=run_append_owned_none (P:=P) (w:=w) w.heap.size t o.type e i size ht hi (.slice none 0 0) 0 [] hown
  have:(execOp a.eval o).run P w=.ok (.value (.slice none 0 0)) w:=by simp[execOp,ho,resolve,invoke,builtin,hs,hx,hrun,Result.andThen]
  rw[this]
  exact⟨Below.refl _ _,hown,fun k hk=>by cases hk⟩
 | some ad =>
  obtain⟨v',w',hr,g1,g2,_⟩:=run_append_own (P:=P) w w.heap.size t o.type e i z size bytes ht hi hz hsize hby hzs hsz (.slice none 0 0) 0 [] hown ad m cap news hl (fun j u hj=>by
   obtain⟨b,off,e,hcell⟩:=hc j u hj
   cases e
   have hadd:(⟨b,off,none⟩:Addr).add j=⟨b,off+j,none⟩:=by unfold Addr.add;split<;>simp_all
   rw[hadd]
   exact hcell) h1 (by omega) (by rw[Nat.zero_add];exact hbytes) (Nat.le_refl _)
  rw[Nat.zero_add,List.nil_append] at g1
  have:(execOp a.eval o).run P w=.ok (.value v') w':=by
   unfold execOp
   simp only[ho,resolve,invoke,builtin,Sem.run_bind,Sem.run_pure,Result.andThen_ok,List.map_toArray,List.map_cons,List.map_nil,hs,hx,hr]
  rw[this]
  exact⟨Below.grown (Below.refl _ _) g2 (Nat.le_refl _) (by simp[Value.ownBlock]),g1,fun k hk=>Ajm hk g1⟩
theorem RunsTo.mono {P:Program} {w:World} {Φ Ψ:Value→World→Prop} {r:Result Next} (h:RunsTo P w Φ r) (hp:∀ v w',Φ v w'→Ψ v w'):RunsTo P w Ψ r:=by
 unfold RunsTo at *
 split at h
 ·exact⟨h.1,hp _ _ h.2.1,h.2.2⟩
 ·exact⟨h.1,h.2.mono fun e w'' ⟨v,a,b,c,d⟩=>⟨v,a,b,hp _ _ c,d⟩⟩
 ·exact h
def A53 (s:List UInt8):List Value:=[.string (bs s)]
theorem Adu (s:List UInt8):(A53 s).length=1:=rfl
theorem Amz {w:World} {cs:List Value} {x:List UInt8} (h:Fq.rel w cs x):cs=A53 x:=h.1
theorem Alo {w:World} {v:Value} {l:List (List UInt8)} (h:Sl Fq w v l):Arr w 1 v l.length (l.flatMap A53) :=
 Arr.of_slice (r:=Fq) (by decide) Adu (fun _ _ _=>Amz) h
theorem Aij (l:List (List UInt8)):Gw (l.flatMap A53):=by
 intro v hv
 obtain⟨x,_,hx⟩:=List.mem_flatMap.1 hv
 simp only[A53,List.mem_cons,List.not_mem_nil,or_false] at hx
 rcases hx with rfl;rfl
def Rn (B:Nat) (w:World) (v:Value) (l:List (List UInt8)):Prop:=w.ownsRow B 9 1 v l.length (l.flatMap A53)
def StmtAt (B:Nat) (w:World) (cs:List Value) (x:A2):Prop:=∃ ve vf,cs=[.int .i64 x.Ah,.string (bs x.Bj),.string (bs x.Bg),ve,vf,.bool x.Cx,.int .i64 x.Aq,.int .i64 x.Be,.int .i64 x.B0]∧NodesAt B w ve x.Bh∧NodesAt B w vf x.Cg
def RowOf {α:Type} (P:Nat→World→List Value→α→Prop) (e:TypeId) (size:Nat) (B:Nat) (w:World) (v:Value) (l:List α):Prop:=∃ css:List (List Value),css.length=l.length∧w.ownsRow B e size v l.length css.flatten∧∀ (i:Nat) c x,css[i]?=some c→l[i]?=some x→c.length=size∧P B w c x
def BodyAt (B:Nat) (w:World) (v:Value) (l:List A2):Prop:=RowOf StmtAt 38 9 B w v l
def ThrAt (B:Nat) (w:World) (cs:List Value) (t:Ag):Prop:=∃ vr vb,cs=[.string (bs t.Ae),vr,vb,.int .i64 t.B0]∧Rn B w vr t.Ay∧BodyAt B w vb t.Aq
def ClAt (B:Nat) (w:World) (cs:List Value) (c:Ai):Prop:=∃ ve,cs=[.int .i64 c.Ah,ve,.int .i64 c.B0]∧NodesAt B w ve c.Bh
def Li (B:Nat) (w:World) (v:Value) (l:List Az):Prop:=w.ownsRow B 44 3 v l.length (l.flatMap Ahv)
def ThrsAt (B:Nat) (w:World) (v:Value) (l:List Ag):Prop:=RowOf ThrAt 35 4 B w v l
def ClsAt (B:Nat) (w:World) (v:Value) (l:List Ai):Prop:=RowOf ClAt 40 3 B w v l
theorem NodesAt.below {B:Nat} {w w':World} {v:Value} {l:List A0} (h:NodesAt B w v l) (hb:Below w.heap.size w w'):NodesAt B w' v l:=D0 h hb
theorem NodesAt.keeps {B:Nat} {w w':World} {v:Value} {l:List A0} {E:TypeId} (h:NodesAt B w v l) (hk:Ta E w w') (he:42≠E):NodesAt B w' v l:=Cm h hk he
theorem NodesAt.base {B B':Nat} {w:World} {v:Value} {l:List A0} (h:NodesAt B w v l) (hb:B'≤B):NodesAt B' w v l:=A23 h fun b hb'=>⟨Nat.le_trans hb (Ld h hb').1,rfl⟩
theorem RowOf.map {α:Type} {P:Nat→World→List Value→α→Prop} {e:TypeId} {size B B':Nat} {w w':World} {v:Value} {l:List α} (h:RowOf P e size B w v l) (ho:∀ xs,w.ownsRow B e size v l.length xs→w'.ownsRow B' e size v l.length xs) (hp:∀ c x,P B w c x→P B' w' c x):RowOf P e size B' w' v l :=
 let ⟨css,h1,h2,h3⟩:=h
 ⟨css,h1,ho _ h2,fun i c x a b=>⟨(h3 i c x a b).1,hp _ _ (h3 i c x a b).2⟩⟩
theorem RowOf.nil {α:Type} {P:Nat→World→List Value→α→Prop} {e:TypeId} {size B:Nat} {w:World}:RowOf P e size B w (.slice none 0 0) ([]:List α):=⟨[],rfl,World.ownsRow_nil _ _ _ _,fun i c x h=>by simp at h⟩
theorem RowOf.push {α:Type} {P:Nat→World→List Value→α→Prop} {e:TypeId} {size B:Nat} {w w2:World} {v':Value} {l:List α} {css:List (List Value)} (h1:css.length=l.length) (h3:∀ (i:Nat) c x,css[i]?=some c→l[i]?=some x→c.length=size∧P B w c x) (hP:∀ c x,P B w c x→P B w2 c x) {c:List Value} {x:α} (ho:w2.ownsRow B e size v' (l.length+1) (css.flatten++c)) (hc:c.length=size) (hx:P B w2 c x):RowOf P e size B w2 v' (l++[x]):=by
 refine⟨css++[c],by simp[h1],by simpa using ho,fun i d y hd hy=>?_⟩
 rcases Nat.lt_or_ge i css.length with hi | hi
 ·rw[List.getElem?_append_left hi] at hd
  rw[List.getElem?_append_left (by omega)] at hy
  exact⟨(h3 i d y hd hy).1,hP _ _ (h3 i d y hd hy).2⟩
 ·rw[List.getElem?_append_right hi] at hd
  rw[List.getElem?_append_right (by omega)] at hy
  have hi0:i - css.length=0:=by have:=(List.getElem?_eq_some_iff.1 hd).1;simp at this;omega
  rw[hi0] at hd
  rw[show i - l.length=0 by omega] at hy
  obtain rfl:c=d:=by simpa using hd
  obtain rfl:x=y:=by simpa using hy
  exact⟨hc,hx⟩
theorem StmtAt.below {B:Nat} {w w':World} {c:List Value} {x:A2} (h:StmtAt B w c x) (hb:Below w.heap.size w w'):StmtAt B w' c x:=let ⟨ve,vf,e,h1,h2⟩:=h;⟨ve,vf,e,h1.below hb,h2.below hb⟩
theorem StmtAt.keeps {B:Nat} {w w':World} {c:List Value} {x:A2} {E:TypeId} (h:StmtAt B w c x) (hk:Ta E w w') (he:42≠E):StmtAt B w' c x:=let ⟨ve,vf,e,h1,h2⟩:=h;⟨ve,vf,e,h1.keeps hk he,h2.keeps hk he⟩
theorem StmtAt.base {B B':Nat} {w:World} {c:List Value} {x:A2} (h:StmtAt B w c x) (hb:B'≤B):StmtAt B' w c x:=let ⟨ve,vf,e,h1,h2⟩:=h;⟨ve,vf,e,h1.base hb,h2.base hb⟩
theorem Qw {w:World} {B B':Nat} {e:TypeId} {size n:Nat} {v:Value} {xs:List Value} (h:w.ownsRow B e size v n xs) (hb:B'≤B):w.ownsRow B' e size v n xs:=A23 h fun b hb'=>⟨Nat.le_trans hb (Ld h hb').1,rfl⟩
theorem BodyAt.below {B:Nat} {w w':World} {v:Value} {l:List A2} (h:BodyAt B w v l) (hb:Below w.heap.size w w'):BodyAt B w' v l:=RowOf.map h (fun _ h=>D0 h hb) fun _ _ h=>h.below hb
theorem BodyAt.base {B B':Nat} {w:World} {v:Value} {l:List A2} (h:BodyAt B w v l) (hb:B'≤B):BodyAt B' w v l:=RowOf.map h (fun _ h=>Qw h hb) fun _ _ h=>h.base hb
theorem BodyAt.keeps {B:Nat} {w w':World} {v:Value} {l:List A2} {E:TypeId} (h:BodyAt B w v l) (hk:Ta E w w') (h1:38≠E) (h2:42≠E):BodyAt B w' v l:=RowOf.map h (fun _ h=>Cm h hk h1) fun _ _ h=>h.keeps hk h2
theorem ThrAt.below {B:Nat} {w w':World} {c:List Value} {x:Ag} (h:ThrAt B w c x) (hb:Below w.heap.size w w'):ThrAt B w' c x:=let ⟨ve,vf,e,h1,h2⟩:=h;⟨ve,vf,e,D0 h1 hb,h2.below hb⟩
theorem ThrAt.keeps {B:Nat} {w w':World} {c:List Value} {x:Ag} {E:TypeId} (h:ThrAt B w c x) (hk:Ta E w w') (h1:38≠E) (h2:42≠E) (h3:9≠E):ThrAt B w' c x:=let ⟨ve,vf,e,g1,g2⟩:=h;⟨ve,vf,e,Cm g1 hk h3,g2.keeps hk h1 h2⟩
theorem ClAt.below {B:Nat} {w w':World} {c:List Value} {x:Ai} (h:ClAt B w c x) (hb:Below w.heap.size w w'):ClAt B w' c x:=let ⟨ve,e,h1⟩:=h;⟨ve,e,h1.below hb⟩
theorem ClAt.keeps {B:Nat} {w w':World} {c:List Value} {x:Ai} {E:TypeId} (h:ClAt B w c x) (hk:Ta E w w') (he:42≠E):ClAt B w' c x:=let ⟨ve,e,h1⟩:=h;⟨ve,e,h1.keeps hk he⟩
theorem ThrsAt.below {B:Nat} {w w':World} {v:Value} {l:List Ag} (h:ThrsAt B w v l) (hb:Below w.heap.size w w'):ThrsAt B w' v l:=RowOf.map h (fun _ h=>D0 h hb) fun _ _ h=>h.below hb
theorem ThrsAt.keeps {B:Nat} {w w':World} {v:Value} {l:List Ag} {E:TypeId} (h:ThrsAt B w v l) (hk:Ta E w w') (h0:35≠E) (h1:38≠E) (h2:42≠E) (h3:9≠E):ThrsAt B w' v l:=RowOf.map h (fun _ h=>Cm h hk h0) fun _ _ h=>h.keeps hk h1 h2 h3
theorem ClsAt.below {B:Nat} {w w':World} {v:Value} {l:List Ai} (h:ClsAt B w v l) (hb:Below w.heap.size w w'):ClsAt B w' v l:=RowOf.map h (fun _ h=>D0 h hb) fun _ _ h=>h.below hb
theorem ClsAt.keeps {B:Nat} {w w':World} {v:Value} {l:List Ai} {E:TypeId} (h:ClsAt B w v l) (hk:Ta E w w') (h0:40≠E) (h1:42≠E):ClsAt B w' v l:=RowOf.map h (fun _ h=>Cm h hk h0) fun _ _ h=>h.keeps hk h1
theorem ThrAt.base {B B':Nat} {w:World} {c:List Value} {x:Ag} (h:ThrAt B w c x) (hb:B'≤B):ThrAt B' w c x:=let ⟨ve,vf,e,h1,h2⟩:=h;⟨ve,vf,e,Qw h1 hb,h2.base hb⟩
theorem ClAt.base {B B':Nat} {w:World} {c:List Value} {x:Ai} (h:ClAt B w c x) (hb:B'≤B):ClAt B' w c x:=let ⟨ve,e,h1⟩:=h;⟨ve,e,h1.base hb⟩
theorem ThrsAt.base {B B':Nat} {w:World} {v:Value} {l:List Ag} (h:ThrsAt B w v l) (hb:B'≤B):ThrsAt B' w v l:=RowOf.map h (fun _ h=>Qw h hb) fun _ _ h=>h.base hb
theorem ClsAt.base {B B':Nat} {w:World} {v:Value} {l:List Ai} (h:ClsAt B w v l) (hb:B'≤B):ClsAt B' w v l:=RowOf.map h (fun _ h=>Qw h hb) fun _ _ h=>h.base hb
structure Ak8 (p:Ar):Prop where
 locs:p.Ao.length≤4000
 threads:p.A7.length≤4000
 claims:p.Ac.length≤4000
 thr:∀ t ∈ p.A7,t.Ay.length≤4000∧t.Aq.length≤4000∧∀ x ∈ t.Aq,x.Bh.length≤4000∧x.Cg.length≤4000
 cl:∀ c ∈ p.Ac,c.Bh.length≤4000
set_option maxRecDepth 100000 in
set_option maxHeartbeats 8000000 in
theorem Al7 (w:World) (a1 a2 a3:Option Addr) (c1 c2 c3:Nat) (p:Ar) (s1:Sl J6 w (.slice a1 p.Ao.length c1) p.Ao) (s2:Sl Es w (.slice a2 p.A7.length c2) p.A7) (s3:Sl Fv w (.slice a3 p.Ac.length c3) p.Ac) (hl:Ak8 p) :
 Calls Tryz.prog 6 #[.agg #[.int .i64 p.B2,.slice a1 p.Ao.length c1,.slice a2 p.A7.length c2,.slice a3 p.Ac.length c3]] w fun e w'=>∃ vl vt vc,e=.returned (.agg #[.int .i64 p.B2,vl,vt,vc])∧Below w.heap.size w w'∧Li w.heap.size w' vl (p.Ao.map hV)∧ThrsAt w.heap.size w' vt (p.A7.map hT)∧ClsAt w.heap.size w' vc (p.Ac.map hC):=by
 have S1:=Lib.hid s1;have S2:=Lib.hid s2;have S3:=Lib.hid s3
 have HL:=Lib.hid hl
 have l1:=hl.locs;have l2:=hl.threads;have l3:=hl.claims
 clear s1 s2 s3 hl
 obtain⟨n1,hn1⟩:∃ n,p.Ao.length=n:=⟨_,rfl⟩
 obtain⟨n2,hn2⟩:∃ n,p.A7.length=n:=⟨_,rfl⟩
 obtain⟨n3,hn3⟩:∃ n,p.Ac.length=n:=⟨_,rfl⟩
 rw[hn1] at S1 l1;rw[hn2] at S2 l2;rw[hn3] at S3 l3
 rw[hn1,hn2,hn3]
 have N1:=Lib.hid hn1;have N2:=Lib.hid hn2;have N3:=Lib.hid hn3
 clear hn1 hn2 hn3
 obtain⟨m,hm⟩:∃ m,p.B2=m:=⟨_,rfl⟩
 rw[hm]
 clear hm
 obtain⟨i0,hi,hi0,hi1,hi2⟩:∃ i,Tryz.prog.info? 44=some i∧i.zero=some (.agg #[.string ByteArray.empty,.int .i64 0,.int .i64 0])∧i.size=3∧i.bytes=32:=Wr (by kernel_rfl)
 obtain⟨s0,si,si0,si1,si2⟩:∃ i,Tryz.prog.info? 38=some i∧i.zero=some (.agg #[.int .i64 0,.string ByteArray.empty,.string ByteArray.empty,.slice none 0 0,.slice none 0 0,.bool false,.int .i64 0,.int .i64 0,.int .i64 0])∧i.size=9∧i.bytes=120:=Wr (by kernel_rfl)
 obtain⟨t0,ti,ti0,ti1,ti2⟩:∃ i,Tryz.prog.info? 35=some i∧i.zero=some (.agg #[.string ByteArray.empty,.slice none 0 0,.slice none 0 0,.int .i64 0])∧i.size=4∧i.bytes=72:=Wr (by kernel_rfl)
 obtain⟨k0,ki,ki0,ki1,ki2⟩:∃ i,Tryz.prog.info? 40=some i∧i.zero=some (.agg #[.int .i64 0,.slice none 0 0,.int .i64 0])∧i.size=3∧i.bytes=40:=Wr (by kernel_rfl)
 obtain⟨j0,ji,ji0,ji1,ji2⟩:∃ i,Tryz.prog.info? 9=some i∧i.zero=some (.string ByteArray.empty)∧i.size=1∧i.bytes=16:=Wr (by kernel_rfl)
 obtain⟨W,hW⟩:∃ W,W=((w.alloc (.cells #[.int .i64 m,.slice a1 n1 c1,.slice a2 n2 c2,.slice a3 n3 c3] 26)).alloc (.cells #[.int .i64 0,.slice none 0 0,.slice none 0 0,.slice none 0 0] 26)).alloc (.cells #[.int .i64 m,.slice none 0 0,.slice none 0 0,.slice none 0 0] 26):=⟨_,rfl⟩
 go_enter Tryz.func6,Tryz.ntmps6
 go_upto_region 2 with (fail)
 rw[← hW]
 have hb0:Below w.heap.size w W:=hW ▸ (((Below.refl _ _).alloc (Nat.le_refl _) _).alloc (by simp) _).alloc (by simp;omega) _
 have hsz:W.heap.size=w.heap.size+1+1+1:=by rw[hW];simp
 have fp:Fresh W w.heap.size (.cells #[.int .i64 m,.slice a1 n1 c1,.slice a2 n2 c2,.slice a3 n3 c3] 26):=by
  rw[hW];exact((show Fresh (w.alloc _) w.heap.size _ from heap_alloc_new w _).later ((Below.refl _ _).alloc (Nat.le_refl _) _)).later ((Below.refl _ _).alloc (Nat.le_refl _) _)
 have fr:Fresh W (w.heap.size+1) (.cells #[.int .i64 0,.slice none 0 0,.slice none 0 0,.slice none 0 0] 26):=by
  rw[hW]
  have:=heap_alloc_new (w.alloc (.cells #[.int .i64 m,.slice a1 n1 c1,.slice a2 n2 c2,.slice a3 n3 c3] 26)) (.cells #[.int .i64 0,.slice none 0 0,.slice none 0 0,.slice none 0 0] 26)
  rw[World.size_alloc] at this
  exact(show Fresh _ (w.heap.size+1) _ from this).later ((Below.refl _ _).alloc (Nat.le_refl _) _)
 have fd:Fresh W (w.heap.size+1+1) (.cells #[.int .i64 m,.slice none 0 0,.slice none 0 0,.slice none 0 0] 26):=by
  rw[hW]
  have:=heap_alloc_new ((w.alloc (.cells #[.int .i64 m,.slice a1 n1 c1,.slice a2 n2 c2,.slice a3 n3 c3] 26)).alloc (.cells #[.int .i64 0,.slice none 0 0,.slice none 0 0,.slice none 0 0] 26)) (.cells #[.int .i64 m,.slice none 0 0,.slice none 0 0,.slice none 0 0] 26)
  rw[World.size_alloc,World.size_alloc] at this
  exact this
 obtain⟨D,hD⟩:∃ D,w.heap.size+1+1=D:=⟨_,rfl⟩
 rw[hD] at fd ⊢
 have HB:=Lib.hid hb0
 have HSZ:=Lib.hid (show W.heap.size=D+1 by omega)
 have HD:=Lib.hid hD
 have FP:=Lib.hid fp;have FR:=Lib.hid fr;have FD:=Lib.hid fd
 clear hb0 hW hsz fp fr fd hD
 have z1:=(FP.out.open (k:=1) rfl).1
 go_wp2_with fail
 clear z1
 go_loopw [19] (fun i wr=>∃ (k:Nat) (vl:Value),i=.int .i64 k∧k≤n1∧Below D W wr∧Fresh wr D (.cells #[.int .i64 m,vl,.slice none 0 0,.slice none 0 0] 26)∧Li (D+1) wr vl ((p.Ao.take k).map hV)) (fun i _=>n1 - (intOf i).toNat)
 case atStart=>exact⟨0,.slice none 0 0,rfl,by omega,Below.refl _ _,FD.out,World.ownsRow_nil _ _ _ _⟩
 case round =>
  obtain⟨k,vl,rfl,hk,hb,hfd,hR⟩:=hrel
  have HBr:=Lib.hid hb;have HFD:=Lib.hid hfd;have HR:=Lib.hid hR
  have hz:=hb.size
  have hz':=HSZ.out
  clear hb hfd hR
  by_cases hlt:k < n1
  ·have hkl:k < p.Ao.length:=by have:=N1.out;omega
   obtain⟨b,o,cs',rfl,x0,x1,x2⟩:=Ab9 S1.out hkl
   obtain rfl:=An3 x2
   have HBw:=Lib.hid (HB.out.trans (HBr.out.mono (by have:=HD.out;omega)))
   obtain⟨x,hx⟩:∃ x,p.Ao[k]=x:=⟨_,rfl⟩
   rw[hx] at x1
   have y0:wr.cell? ⟨b,o+k*3,none⟩=some (.string (bs x.Ae)):=cell_later HBw.out (x1 0 _ rfl)
   have y1:wr.cell? ⟨b,o+k*3+1,none⟩=some (.int .i64 x.Bk):=cell_later HBw.out (x1 1 _ rfl)
   have y2:wr.cell? ⟨b,o+k*3+2,none⟩=some (.int .i64 x.B0):=cell_later HBw.out (x1 2 _ rfl)
   have hcc:=(A6f S1.out).2
   rw[N1.out] at hcc
   have HX:=Lib.hid hx
   clear x0 x1 x2 hx
   go_upto_region 5 with (fail)
   obtain⟨w1,hw1⟩:∃ w1,w1=wr.alloc (.cells #[.string (bs x.Ae),.int .i64 x.Bk,.int .i64 x.B0] 44):=⟨_,rfl⟩
   rw[← hw1]
   have hb1:Below wr.heap.size wr w1:=hw1 ▸ (Below.refl _ _).alloc (Nat.le_refl _) _
   have hs1:w1.heap.size=wr.heap.size+1:=by rw[hw1];exact World.size_alloc _ _
   have fx:Fresh w1 wr.heap.size (.cells #[.string (bs x.Ae),.int .i64 x.Bk,.int .i64 x.B0] 44):=hw1 ▸ Fresh.new _ _
   clear hw1 y0 y1 y2
   have y0:=(fx.open (k:=0) rfl).1
   have y1:=(fx.open (k:=1) rfl).1
   have fd1:=HFD.out.later hb1
   have yd:=(fd1.open (k:=1) rfl).1
   have hlk:((p.Ao.take k).map hV).length=k:=by rw[B3,List.length_take];omega
   have hR1:=D0 HR.out hb1
   obtain⟨xs,hxs⟩:∃ xs,xs=((p.Ao.take k).map hV).flatMap Ahv:=⟨_,rfl⟩
   rw[hlk,← hxs] at hR1
   have HXS:=Lib.hid hxs
   clear hxs
   obtain⟨q1,q2,rfl⟩:=Dw hR1
   have HLK:=Lib.hid hlk
   have HO:=Lib.hid (D0 hR1 ((Below.refl _ _).alloc (Nat.le_refl _) (.cells #[.string (bs x.Ae),.int .i64 x.Bk,.int .i64 0] 44)))
   have hs2:(w1.alloc (.cells #[.string (bs x.Ae),.int .i64 x.Bk,.int .i64 0] 44)).heap.size=w1.heap.size+1:=World.size_alloc _ _
   have FD1:=Lib.hid fd1;have HB1:=Lib.hid hb1;have HR1:=Lib.hid hR1
   have HS1:=Lib.hid hs1;have HS2:=Lib.hid hs2
   clear hb1 fx fd1 hlk hR1 hs1 hs2
   go_wp2_with (at_builtin;refine wpList_append_lies _ rfl _ _ 22 rfl (D+1) 44 i0 _ 3 32 Tryz.underlying22 hi hi0 hi1 hi2 rfl (by decide) _ k _ rfl HO.out _ 1 1 [.string (bs x.Ae),.int .i64 x.Bk,.int .i64 0] rfl rfl (World.news_of_block (heap_alloc_new w1 _)) (by intro u hu;simp at hu;rcases hu with rfl | rfl | rfl<;>rfl) (by decide) ?a1 ?a2 ?a3 _ rfl ?_)
   case a1=>unfold maxLen;omega
   case a2=>omega
   case a3=>have:=HS2.out;have:=HS1.out;omega
   intro g cp w2 hw2 hgr hlc hlt2
   have hs1:=HS1.out;have hs2:=HS2.out
   have hb12:Below wr.heap.size wr (w1.alloc (.cells #[.string (bs x.Ae),.int .i64 x.Bk,.int .i64 0] 44)):=HB1.out.trans ((Below.refl _ _).alloc (by omega) _)
   have hnb:∀ q,(Value.slice q1 k q2).ownBlock=some q→D+1≤q:=fun q hq=>(Ld HO.out hq).1
   have fd2:Fresh w2 D (.cells #[.int .i64 m,.slice q1 k q2,.slice none 0 0,.slice none 0 0] 26):=(hgr.block D (by omega) fun e=>by have:=hnb D e.symm;omega).trans ((HFD.out.later hb12))
   have hbD:Below D W w2:=(HBr.out.trans (hb12.mono (by omega))).grown hgr (by omega) fun q hq=>by have:=hnb q hq;omega
   obtain⟨y3,y3'⟩:=fd2.open (k:=1) rfl
   have HW2:=Lib.hid hw2;have FD2:=Lib.hid fd2;have HBD:=Lib.hid hbD
   clear hw2 hgr hlc hlt2 hb12 hnb fd2 hbD hs1 hs2 yd y0 y1
   go_wp2_with fail
   go_round
   case rel =>
    refine⟨k+1,_,by go_num,by omega,HBD.out.setCell (p:=⟨D,1,none⟩) (Nat.le_refl _) _,FD2.out.put (k:=1) _,?_⟩
    rw[List.take_add_one,B7 hkl,Option.toList_some,List.map_append,HX.out]
    unfold Li
    rw[List.length_append,HLK.out,List.flatMap_append,← HXS.out]
    exact Cm HW2.out (G3 FD2.out _) (by decide)
   case measure=>simp[intOf];omega
  ·have hkn:n1=k:=by omega
   subst hkn
   have hR1:=HR.out
   rw[List.take_of_length_le (by rw[N1.out];exact Nat.le_refl _)] at hR1
   obtain⟨q1,q2,rfl⟩:=Dw hR1
   rw[B3,N1.out] at *
   obtain⟨wA,hwA⟩:∃ wA,wA=wr:=⟨_,rfl⟩
   rw[← hwA] at HBr HFD hR1 hz ⊢
   have HVL:=Lib.hid hR1
   have fpA:Fresh wA w.heap.size (.cells #[.int .i64 m,.slice a1 n1 c1,.slice a2 n2 c2,.slice a3 n3 c3] 26):=(HBr.out.block w.heap.size (by have:=HD.out;omega)).trans FP.out
   have HZA:=Lib.hid (show D+1≤wA.heap.size by have:=HSZ.out;omega)
   have HBA:=HBr;have HFA:=HFD
   clear hR1 HR hwA hlt hk HBr HFD hz hz'
   have z1:=(fpA.open (k:=2) rfl).1
   clear fpA
   go_wp2_with fail
   clear z1
   go_loopw [37] (fun i wr=>∃ (k:Nat) (vt:Value),i=.int .i64 k∧k≤n2∧Below D W wr∧D+1≤wr.heap.size∧Fresh wr D (.cells #[.int .i64 m,.slice q1 n1 q2,vt,.slice none 0 0] 26)∧Li (D+1) wr (.slice q1 n1 q2) (p.Ao.map hV)∧ThrsAt (D+1) wr vt ((p.A7.take k).map hT)) (fun i _=>n2 - (intOf i).toNat)
   case atStart=>exact⟨0,.slice none 0 0,rfl,by omega,HBA.out,HZA.out,HFA.out,HVL.out,RowOf.nil⟩
   case round =>
    obtain⟨k,vt,rfl,hk,hb,hz,hfd,hvl,hR⟩:=hrel
    obtain⟨wB,rfl⟩:∃ wB,wB=wr:=⟨_,rfl⟩
    have HBr:=Lib.hid hb;have HFD:=Lib.hid hfd;have HR:=Lib.hid hR;have HV:=Lib.hid hvl;have HZ:=Lib.hid hz
    clear hb hfd hR hvl hz
    by_cases hlt:k < n2
    ·have hkl:k < p.A7.length:=by have:=N2.out;omega
     obtain⟨b,o,cs',rfl,x0,x1,x2⟩:=Ab9 S2.out hkl
     obtain⟨t,ht⟩:∃ t,p.A7[k]=t:=⟨_,rfl⟩
     have hlt4:=(HL.out.thr _ (List.getElem_mem hkl))
     rw[ht] at x2 hlt4
     obtain⟨ar,cr,ab,cb,rfl,sr,sb⟩:=Ah1 x2
     have HBw:=Lib.hid (HB.out.trans (HBr.out.mono (by have:=HD.out;omega)))
     have y0:wB.cell? ⟨b,o+k*4,none⟩=some (.string (bs t.Ae)):=cell_later HBw.out (x1 0 _ rfl)
     have y1:wB.cell? ⟨b,o+k*4+1,none⟩=some (.slice ar t.Ay.length cr):=cell_later HBw.out (x1 1 _ rfl)
     have y2:wB.cell? ⟨b,o+k*4+2,none⟩=some (.slice ab t.Aq.length cb):=cell_later HBw.out (x1 2 _ rfl)
     have y3:wB.cell? ⟨b,o+k*4+3,none⟩=some (.int .i64 t.B0):=cell_later HBw.out (x1 3 _ rfl)
     have hcc:=(A6f S2.out).2
     rw[N2.out] at hcc
     have HT:=Lib.hid ht;have SR:=Lib.hid sr;have SB:=Lib.hid sb;have HL4:=Lib.hid hlt4
     clear x0 x1 x2 ht sr sb hlt4
     obtain⟨nr,hnr⟩:∃ n,t.Ay.length=n:=⟨_,rfl⟩
     obtain⟨nb,hnb⟩:∃ n,t.Aq.length=n:=⟨_,rfl⟩
     rw[hnr] at y1 SR HL4;rw[hnb] at y2 SB HL4
     have NR:=Lib.hid hnr;have NB:=Lib.hid hnb
     clear hnr hnb
     go_upto_region 10 with (fail)
     obtain⟨M,hM⟩:∃ M,wB.heap.size=M:=⟨_,rfl⟩
     obtain⟨w1,hw1⟩:∃ w1,w1=wB.alloc (.cells #[.string (bs t.Ae),.slice ar nr cr,.slice ab nb cb,.int .i64 t.B0] 35):=⟨_,rfl⟩
     rw[← hw1]
     have hb1:Below M wB w1:=hM ▸ hw1 ▸ (Below.refl _ _).alloc (Nat.le_refl _) _
     have fx:Fresh w1 M (.cells #[.string (bs t.Ae),.slice ar nr cr,.slice ab nb cb,.int .i64 t.B0] 35):=hM ▸ hw1 ▸ Fresh.new _ _
     have hs1:w1.heap.size=M+1:=by rw[hw1,← hM];exact World.size_alloc _ _
     rw[hM]
     clear hw1 y0 y1 y2 y3
     have SR1:=Lib.hid (Alo (SR.out.mono Qm (HBw.out.trans (hb1.mono (by have:=HBw.out.size;omega)))))
     rw[NR.out] at SR1
     have f0:=Later.cell (fx.open (k:=0) rfl).1
     have f1:=Later.cell (fx.open (k:=1) rfl).1
     have FX:=Lib.hid fx;have HB1:=Lib.hid hb1;have HS1:=Lib.hid hs1;have HM:=Lib.hid hM
     have l4:=HL4.out.1
     clear fx hb1 hs1 hM
     refine A60 7 [0,1,2,3,4,5,6] [4,6] (fun k=>match k with
      | 4=>some fun _ v w'=>w'.ownsRow w1.heap.size 9 1 v nr (t.Ay.flatMap A53)
      | 6=>some fun _ v w'=>∃ g,v=.pointer (some ⟨g,0,none⟩)∧w1.heap.size≤g∧Fresh w' g (.cells #[.string ByteArray.empty,.slice none 0 0,.slice none 0 0,.int .i64 0] 35)
      | _=>none) ?_ ?_ (by kernel_rfl) (by kernel_rfl) ?_
     ·intro k ψ hk x v w' w'' hb h
      match k,hk with
      | 4,hk=>cases hk;exact D0 h hb
      | 6,hk=>cases hk;obtain⟨g,e,hg,h⟩:=h;exact⟨g,e,hg,h.later hb⟩
      | 0,hk=>cases hk
      | 1,hk=>cases hk
      | 2,hk=>cases hk
      | 3,hk=>cases hk
      | 5,hk=>cases hk
      | k+7,hk=>cases hk
     ·intro k
      match k with
      | 0=>simp
      | 1=>simp
      | 2=>simp
      | 3=>simp
      | 4=>simp
      | 5=>simp
      | 6=>simp
      | k+7=>simp
     iterate 4 (
      refine A9g rfl rfl (fun K hK=>?_)
      go_simp
      refine hK _ ?_
      clear hK K)
     refine A91 rfl rfl rfl (fun s=>?_) ?_
     ·refine(Am8 (.tmp 44) 32 rfl 9 j0 _ 1 16 Tryz.underlying32 ji ji0 ji1 ji2 rfl (by decide) (.slice ar nr cr) nr _ rfl (SR1.out.mono s.below) (Aij _) (by unfold maxLen;omega) (by omega)).mono fun u w' h=>?_
      exact A23 h fun b hb=>⟨Nat.le_trans s.below.size (Ld h hb).1,rfl⟩
     rintro v1 w' hv1 n1'
     obtain⟨va,vc,rfl⟩:=Dw hv1
     clear hv1
     refine A9g rfl rfl (fun K hK=>?_)
     go_simp
     refine hK _ ?_
     clear hK K
     refine A91 rfl rfl rfl (fun s=>?_) ?_
     ·go_simp
      exact⟨(Below.refl _ _).alloc (Nat.le_refl _) _,⟨_,rfl,s.below.size,Fresh.new _ _⟩,fun k hk=>by obtain rfl:s.world.heap.size=k:=Option.some.inj hk;rw[World.size_alloc];omega⟩
     rintro v2 w' ⟨U,rfl,_,_⟩ n2'
     refine Afb ?_
     intro w2 hb2 hf
     obtain⟨⟨⟨_,hr1⟩,g,hg1,hg2,hg3⟩,_⟩:((True∧_)∧_)∧True:=⟨hf,trivial⟩
     obtain rfl:U=g:=by injection hg1 with hg1;injection hg1 with hg1;injection hg1
     clear hf hg1 n1' n2' f0 f1
     obtain⟨y0,y0'⟩:=hg3.open (k:=0) rfl;obtain⟨y1,y1'⟩:=hg3.open (k:=1) rfl;obtain⟨y2,y2'⟩:=hg3.open (k:=2) rfl;obtain⟨y3,y3'⟩:=hg3.open (k:=3) rfl
     have HU:=Lib.hid hg3;have HR1:=Lib.hid hr1;have HB2:=Lib.hid hb2;have HUM:=Lib.hid hg2
     clear hg3 hr1 hb2 hg2
     simp only[List.drop_succ_cons,List.drop_zero]
     go_upto_region 11 with (fail)
     obtain⟨w3,hw3⟩:∃ w3,((((w2.setCell ⟨U,0,none⟩ (.string (bs t.Ae))).setCell ⟨U,1,none⟩ (.slice va nr vc)).setCell ⟨U,2,none⟩ (.slice none 0 0)).setCell ⟨U,3,none⟩ (.int .i64 0))=w3:=⟨_,rfl⟩
     have hs1:=HS1.out;have hum:=HUM.out
     have hle:M≤U:=by omega
     have u1:=HU.out.put (k:=0) (.string (bs t.Ae));have u2:=u1.put (k:=1) (.slice va nr vc);have u3:=u2.put (k:=2) (.slice none 0 0);have u4:=u3.put (k:=3) (.int .i64 0)
     have k1:=G3 (k:=0) HU.out (.string (bs t.Ae));have k2:=G3 (k:=1) u1 (.slice va nr vc);have k3:=G3 (k:=2) u2 (.slice none 0 0);have k4:=G3 (k:=3) u3 (.int .i64 0)
     have hr3:=Cm (Cm (Cm (Cm HR1.out k1 (by decide)) k2 (by decide)) k3 (by decide)) k4 (by decide)
     have hneU:M≠U:=by omega
     have ft3:=(Below.heap_setCell _ ⟨U,3,none⟩ (.int .i64 0) M hneU).trans ((Below.heap_setCell _ ⟨U,2,none⟩ (.slice none 0 0) M hneU).trans ((Below.heap_setCell _ ⟨U,1,none⟩ (.slice va nr vc) M hneU).trans ((Below.heap_setCell _ ⟨U,0,none⟩ (.string (bs t.Ae)) M hneU).trans (FX.out.later HB2.out))))
     have hb3:=((((HB1.out.trans (HB2.out.mono (by omega))).setCell (p:=⟨U,0,none⟩) hle (.string (bs t.Ae))).setCell (p:=⟨U,1,none⟩) hle (.slice va nr vc)).setCell (p:=⟨U,2,none⟩) hle (.slice none 0 0)).setCell (p:=⟨U,3,none⟩) hle (.int .i64 0)
     rw[hw3] at u4 hr3 ft3 hb3 ⊢
     have u4:Fresh w3 U (.cells #[.string (bs t.Ae),.slice va nr vc,.slice none 0 0,.int .i64 0] 35):=u4
     have ft3:Fresh w3 M (.cells #[.string (bs t.Ae),.slice ar nr cr,.slice ab nb cb,.int .i64 t.B0] 35):=ft3
     clear hw3 u1 u2 u3 k1 k2 k3 k4 y0 y0' y1 y1' y2 y2' y3 y3'
     have z2:=(ft3.open (k:=2) rfl).1
     have hr3:Rn (D+1) w3 (.slice va nr vc) t.Ay:=by
      unfold Rn;rw[NR.out];exact Qw hr3 (by have:=HZ.out;have:=HM.out;omega)
     have HU3:=Lib.hid u4;have HRG:=Lib.hid hr3;have HB3:=Lib.hid hb3
     have HZ3:=Lib.hid hb3.size
     have hnb:=HL4.out.2.1
     clear u4 hr3 ft3 hb3 hneU hle HU HR1 HB2 HB1 FX HUM SR1
     go_wp2_with fail
     clear z2
     go_loopw [50] (fun i wr=>∃ (j:Nat) (vb:Value),i=.int .i64 j∧j≤nb∧Below M wB wr∧Fresh wr U (.cells #[.string (bs t.Ae),.slice va nr vc,vb,.int .i64 0] 35)∧Rn (D+1) wr (.slice va nr vc) t.Ay∧BodyAt M wr vb ((t.Aq.take j).map hS)) (fun i _=>nb - (intOf i).toNat)
     case atStart=>exact⟨0,.slice none 0 0,rfl,by omega,HB3.out,HU3.out,HRG.out,RowOf.nil⟩
     case round =>
      obtain⟨j,vb,rfl,hj,hb,hfu,hrg,hR⟩:=hrel
      have HBq:=Lib.hid hb;have HFU:=Lib.hid hfu;have HRG:=Lib.hid hrg;have HBD:=Lib.hid hR
      clear hb hfu hrg hR
      by_cases hjl:j < nb
      ·have hjb:j < t.Aq.length:=by have:=NB.out;omega
       obtain⟨b',o',cs',rfl,x0,x1,x2⟩:=Ab9 SB.out hjb
       obtain⟨x,hx⟩:∃ x,t.Aq[j]=x:=⟨_,rfl⟩
       have hlx:=(HL4.out.2.2 _ (List.getElem_mem hjb))
       rw[hx] at x2 hlx
       obtain⟨ae,ce,af,cf,rfl,se,sf⟩:=Aki x2
       have HBw2:=Lib.hid (HBw.out.trans (HBq.out.mono (by have:=HM.out;have:=HBw.out.size;omega)))
       have y0:wr.cell? ⟨b',o'+j*9,none⟩=some (.int .i64 x.Ah):=cell_later HBw2.out (x1 0 _ rfl)
       have y1:wr.cell? ⟨b',o'+j*9+1,none⟩=some (.string (bs x.Bj)):=cell_later HBw2.out (x1 1 _ rfl)
       have y2:wr.cell? ⟨b',o'+j*9+2,none⟩=some (.string (bs x.Bg)):=cell_later HBw2.out (x1 2 _ rfl)
       have y3:wr.cell? ⟨b',o'+j*9+3,none⟩=some (.slice ae x.Bh.length ce):=cell_later HBw2.out (x1 3 _ rfl)
       have y4:wr.cell? ⟨b',o'+j*9+4,none⟩=some (.slice af x.Cg.length cf):=cell_later HBw2.out (x1 4 _ rfl)
       have y5:wr.cell? ⟨b',o'+j*9+5,none⟩=some (.bool x.Cx):=cell_later HBw2.out (x1 5 _ rfl)
       have y6:wr.cell? ⟨b',o'+j*9+6,none⟩=some (.int .i64 x.Aq):=cell_later HBw2.out (x1 6 _ rfl)
       have y7:wr.cell? ⟨b',o'+j*9+7,none⟩=some (.int .i64 x.Be):=cell_later HBw2.out (x1 7 _ rfl)
       have y8:wr.cell? ⟨b',o'+j*9+8,none⟩=some (.int .i64 x.B0):=cell_later HBw2.out (x1 8 _ rfl)
       have hcb:=(A6f SB.out).2
       rw[NB.out] at hcb
       have HX:=Lib.hid hx;have SE:=Lib.hid se;have SF:=Lib.hid sf;have HLX:=Lib.hid hlx
       clear x0 x1 x2 hx se sf hlx
       go_upto_region 14 with (fail)
       obtain⟨X,hX⟩:∃ X,wr.heap.size=X:=⟨_,rfl⟩
       obtain⟨w4,hw4⟩:∃ w4,w4=wr.alloc (.cells #[.int .i64 x.Ah,.string (bs x.Bj),.string (bs x.Bg),.slice ae x.Bh.length ce,.slice af x.Cg.length cf,.bool x.Cx,.int .i64 x.Aq,.int .i64 x.Be,.int .i64 x.B0] 38):=⟨_,rfl⟩
       rw[← hw4]
       have hb4:Below X wr w4:=hX ▸ hw4 ▸ (Below.refl _ _).alloc (Nat.le_refl _) _
       have fx:Fresh w4 X (.cells #[.int .i64 x.Ah,.string (bs x.Bj),.string (bs x.Bg),.slice ae x.Bh.length ce,.slice af x.Cg.length cf,.bool x.Cx,.int .i64 x.Aq,.int .i64 x.Be,.int .i64 x.B0] 38):=hX ▸ hw4 ▸ Fresh.new _ _
       have hs4:w4.heap.size=X+1:=by rw[hw4,← hX];exact World.size_alloc _ _
       rw[hX]
       clear hw4 y0 y1 y2 y3 y4 y5 y6 y7 y8
       have hbw4:=HBw2.out.trans (hb4.mono (by have:=HBw2.out.size;omega))
       have SE4:=Lib.hid (SE.out.mono Mu hbw4);have SF4:=Lib.hid (SF.out.mono Mu hbw4)
       have f3:w4.drew.cell? ⟨X,3,none⟩=some (.slice ae x.Bh.length ce):=(fx.open (k:=3) rfl).1
       have f4:w4.drew.cell? ⟨X,4,none⟩=some (.slice af x.Cg.length cf):=(fx.open (k:=4) rfl).1
       have FX:=Lib.hid fx;have HB4:=Lib.hid hb4;have HS4:=Lib.hid hs4;have HX4:=Lib.hid hX
       have le:=HLX.out.1;have lf:=HLX.out.2
       clear fx hb4 hs4 hX hbw4
       refine Py 7 [(0,true),(1,true),(3,true),(4,true),(6,true),(2,false),(5,false)] (fun w'=>w'.cell? ⟨X,3,none⟩=some (.slice ae x.Bh.length ce)∧w'.cell? ⟨X,4,none⟩=some (.slice af x.Cg.length cf)) A6m (by decide +kernel) ⟨f3,f4⟩ ?_
       intro wd hwd hbd
       refine Cn rfl rfl (.pointer (some ⟨X,3,none⟩)) (fun w' hS=>?_) (fun K hK=>?_)
       ·obtain⟨hS1,hS2⟩:=hS
        go_simp
       go_simp
       refine hK _ ?_
       clear hK K
       refine Cn rfl rfl (.slice ae x.Bh.length ce) (fun w' hS=>?_) (fun K hK=>?_)
       ·obtain⟨hS1,hS2⟩:=hS
        go_simp
       go_simp
       refine hK _ ?_
       clear hK K
       refine Cn rfl rfl (.pointer (some ⟨X,4,none⟩)) (fun w' hS=>?_) (fun K hK=>?_)
       ·obtain⟨hS1,hS2⟩:=hS
        go_simp
       go_simp
       refine hK _ ?_
       clear hK K
       refine Cn rfl rfl (.slice af x.Cg.length cf) (fun w' hS=>?_) (fun K hK=>?_)
       ·obtain⟨hS1,hS2⟩:=hS
        go_simp
       go_simp
       refine hK _ ?_
       clear hK K
       refine Cn rfl rfl (.pointer (some ⟨X,8,none⟩)) (fun w' hS=>?_) (fun K hK=>?_)
       ·obtain⟨hS1,hS2⟩:=hS
        go_simp
       go_simp
       refine hK _ ?_
       clear hK K
       have fxd:=FX.out.later hbd
       have HBD1:=Lib.hid hbd;have HSD:=Lib.hid (show wd.heap.size=X+1 by rw[hwd];exact HS4.out)
       clear hwd hbd f3 f4
       refine J3 rfl rfl (fun K hK=>?_)
       go_simp
       refine(A3j wd (.slice ae x.Bh.length ce) x.Bh (SE4.out.mono Mu HBD1.out) le).mono ?_
       rintro e w2 ⟨ve,rfl,hb2,hE⟩
       have fx2:=fxd.later hb2
       refine hK _ _ ⟨(fx2.open (k:=3) rfl).1,(fx2.open (k:=4) rfl).1⟩ ?_
       clear hK K fxd
       obtain⟨ea,ec,rfl⟩:=Dw hE
       have HE0:=Lib.hid hE;have HB20:=Lib.hid (HBD1.out.trans (hb2.mono (by have:=HSD.out;have:=HS4.out;omega)));have HZ2:=Lib.hid hb2.size
       clear hE hb2
       refine J3 rfl rfl (fun K hK=>?_)
       go_simp
       refine(A3j w2 (.slice af x.Cg.length cf) x.Cg (SF4.out.mono Mu HB20.out) lf).mono ?_
       rintro e w5 ⟨vf,rfl,hb3,hF⟩
       have fx5:=fx2.later hb3
       refine hK _ _ ⟨(fx5.open (k:=3) rfl).1,(fx5.open (k:=4) rfl).1⟩ ?_
       clear hK K fx2
       obtain⟨fa,fc,rfl⟩:=Dw hF
       have hle5:w4.heap.size≤wd.heap.size:=by have:=HSD.out;have:=HS4.out;omega
       have hE:=(HE0.out.below hb3).base hle5
       have hF:=hF.base (B':=w4.heap.size) (by have:=HZ2.out;omega)
       have hb5:=HB20.out.trans (hb3.mono (by have:=HB20.out.size;omega))
       clear HE0 HB20 HZ2 HSD HBD1 hb3
       unfold Kx
       obtain⟨y3,y3'⟩:=fx5.open (k:=3) rfl;obtain⟨y4,y4'⟩:=fx5.open (k:=4) rfl;obtain⟨y8,y8'⟩:=fx5.open (k:=8) rfl
       have HE:=Lib.hid hE;have HF:=Lib.hid hF;have FX5:=Lib.hid fx5;have HB5:=Lib.hid hb5
       clear hE hF fx5 hb5
       simp only[List.drop_succ_cons,List.drop_zero]
       go_upto_region 15 with (fail)
       obtain⟨w6,hw6⟩:∃ w6,((w5.setCell ⟨X,8,none⟩ (.int .i64 0)).setCell ⟨X,3,none⟩ (.slice ea x.Bh.length ec)).setCell ⟨X,4,none⟩ (.slice fa x.Cg.length fc)=w6:=⟨_,rfl⟩
       have hMX:M≤X:=by have:=HBq.out.size;have:=HM.out;have:=HX4.out;omega
       have u1:=FX5.out.put (k:=8) (.int .i64 0);have u2:=u1.put (k:=3) (.slice ea x.Bh.length ec);have u3:=u2.put (k:=4) (.slice fa x.Cg.length fc)
       have k1:=G3 (k:=8) FX5.out (.int .i64 0);have k2:=G3 (k:=3) u1 (.slice ea x.Bh.length ec);have k3:=G3 (k:=4) u2 (.slice fa x.Cg.length fc)
       have hE6:=((HE.out.keeps k1 (by decide)).keeps k2 (by decide)).keeps k3 (by decide)
       have hF6:=((HF.out.keeps k1 (by decide)).keeps k2 (by decide)).keeps k3 (by decide)
       have hb6:=(((HB4.out.trans (HB5.out.mono (by have:=HS4.out;omega))).setCell (p:=⟨X,8,none⟩) (Nat.le_refl _) (.int .i64 0)).setCell (p:=⟨X,3,none⟩) (Nat.le_refl _) (.slice ea x.Bh.length ec)).setCell (p:=⟨X,4,none⟩) (Nat.le_refl _) (.slice fa x.Cg.length fc)
       rw[B3] at hE6 hF6
       rw[hw6] at u3 hE6 hF6 hb6 ⊢
       have u3:Fresh w6 X (.cells #[.int .i64 x.Ah,.string (bs x.Bj),.string (bs x.Bg),.slice ea x.Bh.length ec,.slice fa x.Cg.length fc,.bool x.Cx,.int .i64 x.Aq,.int .i64 x.Be,.int .i64 0] 38):=u3
       clear hw6 u1 u2 k1 k2 k3 y3 y3' y4 y4' y8 y8' HE HF FX5 HB5 HB4 FX SE4 SF4 le lf
       have hUX:U < X:=by have:=(Array.getElem?_eq_some_iff.1 HFU.out).1;have:=HX4.out;omega
       have fu6:Fresh w6 U (.cells #[.string (bs t.Ae),.slice va nr vc,vb,.int .i64 0] 35):=(hb6.block U hUX).trans HFU.out
       have hbX:Below wr.heap.size wr w6:=HX4.out.symm ▸ hb6
       have hrg6:Rn (D+1) w6 (.slice va nr vc) t.Ay:=D0 HRG.out hbX
       obtain⟨css,e1,e2,e3⟩:=HBD.out.below hbX
       have hlj:((t.Aq.take j).map hS).length=j:=by rw[B3,List.length_take];omega
       rw[hlj] at e1 e2
       obtain⟨ba,bc,rfl⟩:=Dw e2
       obtain⟨xs,hxs⟩:∃ xs,xs=css.flatten:=⟨_,rfl⟩
       rw[← hxs] at e2
       obtain⟨NEWS,hNEWS⟩:∃ l:List Value,l=[.int .i64 x.Ah,.string (bs x.Bj),.string (bs x.Bg),.slice ea x.Bh.length ec,.slice fa x.Cg.length fc,.bool x.Cx,.int .i64 x.Aq,.int .i64 x.Be,.int .i64 0]:=⟨_,rfl⟩
       have HO:=Lib.hid (D0 e2 ((Below.refl _ _).alloc (Nat.le_refl _) (.cells #[.int .i64 x.Ah,.string (bs x.Bj),.string (bs x.Bg),.slice ea x.Bh.length ec,.slice fa x.Cg.length fc,.bool x.Cx,.int .i64 x.Aq,.int .i64 x.Be,.int .i64 0] 38)))
       have y0:=(u3.open (k:=0) rfl).1;have y1:=(u3.open (k:=1) rfl).1;have y2:=(u3.open (k:=2) rfl).1;have y3:=(u3.open (k:=3) rfl).1;have y4:=(u3.open (k:=4) rfl).1;have y5:=(u3.open (k:=5) rfl).1;have y6:=(u3.open (k:=6) rfl).1;have y7:=(u3.open (k:=7) rfl).1;have y8:=(u3.open (k:=8) rfl).1
       have yu:=(fu6.open (k:=2) rfl).1
       have HE:=Lib.hid hE6;have HF:=Lib.hid hF6;have HB6:=Lib.hid hb6;have FU6:=Lib.hid fu6;have HRG6:=Lib.hid hrg6;have E1:=Lib.hid e1;have E3:=Lib.hid e3;have HLJ:=Lib.hid hlj;have HXS:=Lib.hid hxs;have HUX:=Lib.hid hUX;have HMX:=Lib.hid hMX;have HZ6:=Lib.hid hbX.size
       have HS6:=Lib.hid (World.size_alloc w6 (.cells #[.int .i64 x.Ah,.string (bs x.Bj),.string (bs x.Bg),.slice ea x.Bh.length ec,.slice fa x.Cg.length fc,.bool x.Cx,.int .i64 x.Aq,.int .i64 x.Be,.int .i64 0] 38))
       clear hE6 hF6 hb6 fu6 hrg6 e1 e2 e3 hlj hxs hUX hMX hbX u3 HBD hNEWS HRG HFU
       go_wp2_with (at_builtin;refine wpList_append_lies _ rfl _ _ 33 rfl M 38 s0 _ 9 120 Tryz.underlying33 si si0 si1 si2 rfl (by decide) _ j xs rfl HO.out _ 1 1 [.int .i64 x.Ah,.string (bs x.Bj),.string (bs x.Bg),.slice ea x.Bh.length ec,.slice fa x.Cg.length fc,.bool x.Cx,.int .i64 x.Aq,.int .i64 x.Be,.int .i64 0] rfl rfl (World.news_of_block (heap_alloc_new w6 _)) (by intro u hu;simp at hu;rcases hu with rfl | rfl | rfl | rfl | rfl | rfl | rfl | rfl | rfl<;>rfl) (by decide) ?a1 ?a2 ?a3 _ rfl ?_)
       case a1=>unfold maxLen;omega
       case a2=>omega
       case a3=>have:=HS6.out;have:=HZ6.out;have:=HX4.out;have:=HMX.out;omega
       intro g cp w7 hw7 hgr hlc hlt7
       have hs6:=HS6.out;have hz6:=HZ6.out;have hx4:=HX4.out;have hmx:=HMX.out;have hux:=HUX.out
       have ha6:=(Below.refl w6.heap.size w6).alloc (Nat.le_refl _) (.cells #[.int .i64 x.Ah,.string (bs x.Bj),.string (bs x.Bg),.slice ea x.Bh.length ec,.slice fa x.Cg.length fc,.bool x.Cx,.int .i64 x.Aq,.int .i64 x.Be,.int .i64 0] 38)
       have hnb:∀ q,(Value.slice ba j bc).ownBlock=some q→M≤q:=fun q hq=>(Ld HO.out hq).1
       have hkg:=Yz HO.out hgr
       have hbM:Below M wB w7:=(HBq.out.trans (((HB6.out.mono hmx).trans (ha6.mono (by omega))))).grown hgr (by omega) fun q hq=>hnb q hq
       have fu7:Fresh w7 U (.cells #[.string (bs t.Ae),.slice va nr vc,.slice ba j bc,.int .i64 0] 35):=(FU6.out.later ha6).keeps hkg (by decide)
       have hrg7:Rn (D+1) w7 (.slice va nr vc) t.Ay:=Cm (D0 HRG6.out ha6) hkg (by decide)
       have hE7:=(HE.out.below ha6).keeps hkg (by decide)
       have hF7:=(HF.out.below ha6).keeps hkg (by decide)
       have hP7:∀ c y,StmtAt M w6 c y→StmtAt M w7 c y:=fun c y h=>(h.below ha6).keeps hkg (by decide)
       obtain⟨y9,y9'⟩:=fu7.open (k:=2) rfl
       have hbase:M≤w4.heap.size:=by have:=HS4.out;omega
       have HW7:=Lib.hid hw7;have HBM:=Lib.hid hbM;have FU7:=Lib.hid fu7;have HRG7:=Lib.hid hrg7;have HE7:=Lib.hid (hE7.base hbase);have HF7:=Lib.hid (hF7.base hbase);have HP7:=Lib.hid hP7
       have HUM:=Lib.hid (show M≤U by have:=hum;omega)
       clear hw7 hbM fu7 hrg7 hE7 hF7 hP7 hbase hkg hnb ha6 hgr hlc hlt7 HE HF HB6 FU6 HRG6 HO y0 y1 y2 y3 y4 y5 y6 y7 y8 yu
       go_wp2_with fail
       go_round
       case rel =>
        have ks:=G3 (k:=2) FU7.out (.slice (some ⟨g,0,none⟩) (j+1) cp)
        refine⟨j+1,_,by go_num,by omega,HBM.out.setCell (p:=⟨U,2,none⟩) HUM.out _,FU7.out.put (k:=2) _,Cm HRG7.out ks (by decide),?_⟩
        rw[List.take_add_one,B7 hjb,Option.toList_some,List.map_append,HX.out]
        have hpush:=RowOf.push (P:=StmtAt) (e:=38) (size:=9) (B:=M) (w:=w6) (w2:=w7.setCell ⟨U,2,none⟩ (.slice (some ⟨g,0,none⟩) (j+1) cp)) (v':=.slice (some ⟨g,0,none⟩) (j+1) cp) (l:=(t.Aq.take j).map hS) (css:=css) (by rw[HLJ.out];exact E1.out) E3.out (fun c y h=>(HP7.out c y h).keeps ks (by decide)) (c:=[.int .i64 x.Ah,.string (bs x.Bj),.string (bs x.Bg),.slice ea x.Bh.length ec,.slice fa x.Cg.length fc,.bool x.Cx,.int .i64 x.Aq,.int .i64 x.Be,.int .i64 0]) (x:=hS x) (by rw[HLJ.out,← HXS.out];exact Cm HW7.out ks (by decide)) rfl ⟨_,_,rfl,HE7.out.keeps ks (by decide),HF7.out.keeps ks (by decide)⟩
        exact hpush
       case measure=>simp[intOf];omega
      ·have hjn:nb=j:=by omega
       subst hjn
       have hbM:Below wB.heap.size wB wr:=HM.out.symm ▸ HBq.out
       have hbd:=HBD.out
       rw[List.take_of_length_le (by rw[NB.out];exact Nat.le_refl _)] at hbd
       have hbd:=hbd.base (B':=D+1) (by have:=HZ.out;have:=HM.out;omega)
       obtain⟨vba,vbc,rfl⟩:∃ a c,vb=.slice a nb c:=by
        obtain⟨_,_,h,_⟩:=hbd
        rw[B3,NB.out] at h
        exact Dw h
       obtain⟨css,e1,e2,e3⟩:=HR.out.below hbM
       have hlj:((p.A7.take k).map hT).length=k:=by rw[B3,List.length_take];omega
       rw[hlj] at e1 e2
       obtain⟨ta,tc,rfl⟩:=Dw e2
       obtain⟨xs,hxs⟩:∃ xs,xs=css.flatten:=⟨_,rfl⟩
       rw[← hxs] at e2
       have fd6:=HFD.out.later hbM
       have hv6:Li (D+1) wr (.slice q1 n1 q2) (p.Ao.map hV):=D0 HV.out hbM
       have HO:=Lib.hid (D0 e2 ((Below.refl _ _).alloc (Nat.le_refl _) (.cells #[.string (bs t.Ae),.slice va nr vc,.slice vba nb vbc,.int .i64 0] 35)))
       have y0:=(HFU.out.open (k:=0) rfl).1;have y1:=(HFU.out.open (k:=1) rfl).1;have y2:=(HFU.out.open (k:=2) rfl).1;have y3:=(HFU.out.open (k:=3) rfl).1
       have yd:=(fd6.open (k:=2) rfl).1
       have HBD6:=Lib.hid hbd;have FD6:=Lib.hid fd6;have HV6:=Lib.hid hv6;have E1:=Lib.hid e1;have E3:=Lib.hid e3;have HLJ:=Lib.hid hlj;have HXS:=Lib.hid hxs;have HZ6:=Lib.hid hbM.size;have HBM:=Lib.hid hbM
       have HS6:=Lib.hid (World.size_alloc wr (.cells #[.string (bs t.Ae),.slice va nr vc,.slice vba nb vbc,.int .i64 0] 35))
       clear hbM hbd fd6 hv6 e1 e2 e3 hlj hxs
       go_wp2_with (at_builtin;refine wpList_append_lies _ rfl _ _ 23 rfl (D+1) 35 t0 _ 4 72 Tryz.underlying23 ti ti0 ti1 ti2 rfl (by decide) _ k xs rfl HO.out _ 1 1 [.string (bs t.Ae),.slice va nr vc,.slice vba nb vbc,.int .i64 0] rfl rfl (World.news_of_block (heap_alloc_new wr _)) (by intro u hu;simp at hu;rcases hu with rfl | rfl | rfl | rfl<;>rfl) (by decide) ?a1 ?a2 ?a3 _ rfl ?_)
       case a1=>unfold maxLen;omega
       case a2=>omega
       case a3=>have:=HS6.out;have:=HZ6.out;have:=HZ.out;omega
       intro g cp w7 hw7 hgr hlc hlt7
       have hs6:=HS6.out;have hz6:=HZ6.out;have hz:=HZ.out
       have ha6:=(Below.refl wr.heap.size wr).alloc (Nat.le_refl _) (.cells #[.string (bs t.Ae),.slice va nr vc,.slice vba nb vbc,.int .i64 0] 35)
       have hnb:∀ q,(Value.slice ta k tc).ownBlock=some q→D+1≤q:=fun q hq=>(Ld HO.out hq).1
       have hkg:=Yz HO.out hgr
       have hbD:Below D W w7:=(HBr.out.trans ((HBM.out.trans (ha6.mono (by omega))).mono (by omega))).grown hgr (by omega) fun q hq=>by have:=hnb q hq;omega
       have fd7:=(FD6.out.later ha6).keeps hkg (by decide)
       have hv7:Li (D+1) w7 (.slice q1 n1 q2) (p.Ao.map hV):=Cm (D0 HV6.out ha6) hkg (by decide)
       have hrg7:Rn (D+1) w7 (.slice va nr vc) t.Ay:=Cm (D0 HRG.out ha6) hkg (by decide)
       have hbd7:=(HBD6.out.below ha6).keeps hkg (by decide) (by decide)
       have hP7:∀ c y,ThrAt (D+1) wr c y→ThrAt (D+1) w7 c y:=fun c y h=>(h.below ha6).keeps hkg (by decide) (by decide) (by decide)
       obtain⟨y9,y9'⟩:=fd7.open (k:=2) rfl
       have HW7:=Lib.hid hw7;have HBD7:=Lib.hid hbD;have FD7:=Lib.hid fd7;have HV7:=Lib.hid hv7;have HRG7:=Lib.hid hrg7;have HB7:=Lib.hid hbd7;have HP7:=Lib.hid hP7;have HZ7:=Lib.hid (show D+1≤w7.heap.size by have:=hgr.size;omega)
       clear hw7 hgr hlc hlt7 hbD fd7 hv7 hrg7 hbd7 hP7 hkg hnb ha6 y0 y1 y2 y3 yd
       go_wp2_with fail
       go_round
       case rel =>
        have ks:=G3 (k:=2) FD7.out (.slice (some ⟨g,0,none⟩) (k+1) cp)
        refine⟨k+1,_,by go_num,by omega,HBD7.out.setCell (p:=⟨D,2,none⟩) (Nat.le_refl _) _,by rw[World.size_setCell];exact HZ7.out,FD7.out.put (k:=2) _,Cm HV7.out ks (by decide),?_⟩
        rw[List.take_add_one,B7 hkl,Option.toList_some,List.map_append,HT.out]
        have hpush:=RowOf.push (P:=ThrAt) (e:=35) (size:=4) (B:=D+1) (w:=wr) (w2:=w7.setCell ⟨D,2,none⟩ (.slice (some ⟨g,0,none⟩) (k+1) cp)) (v':=.slice (some ⟨g,0,none⟩) (k+1) cp) (l:=(p.A7.take k).map hT) (css:=css) (by rw[HLJ.out];exact E1.out) E3.out (fun c y h=>(HP7.out c y h).keeps ks (by decide) (by decide) (by decide)) (c:=[.string (bs t.Ae),.slice va nr vc,.slice vba nb vbc,.int .i64 0]) (x:=hT t) (by rw[HLJ.out,← HXS.out];exact Cm HW7.out ks (by decide)) rfl ⟨_,_,rfl,Cm HRG7.out ks (by decide),HB7.out.keeps ks (by decide) (by decide)⟩
        exact hpush
       case measure=>simp[intOf];omega
    ·have hkn:n2=k:=by omega
     subst hkn
     have hR2:=HR.out
     rw[List.take_of_length_le (by rw[N2.out];exact Nat.le_refl _)] at hR2
     obtain⟨ta,tc,rfl⟩:∃ a c,vt=.slice a n2 c:=by
      obtain⟨_,_,h,_⟩:=hR2
      rw[B3,N2.out] at h
      exact Dw h
     have fpA:Fresh wB w.heap.size (.cells #[.int .i64 m,.slice a1 n1 c1,.slice a2 n2 c2,.slice a3 n3 c3] 26):=(HBr.out.block w.heap.size (by have:=HD.out;omega)).trans FP.out
     have HRT:=Lib.hid hR2;have HBC:=HBr;have HZC:=HZ;have HFC:=HFD;have HVC:=HV
     have z1:=(fpA.open (k:=3) rfl).1
     clear hR2 HR HBr HZ HFD HV fpA hlt hk
     go_wp2_with fail
     clear z1
     go_loopw [80] (fun i wr=>∃ (k:Nat) (vc:Value),i=.int .i64 k∧k≤n3∧Below D W wr∧D+1≤wr.heap.size∧Fresh wr D (.cells #[.int .i64 m,.slice q1 n1 q2,.slice ta n2 tc,vc] 26)∧Li (D+1) wr (.slice q1 n1 q2) (p.Ao.map hV)∧ThrsAt (D+1) wr (.slice ta n2 tc) (p.A7.map hT)∧ClsAt (D+1) wr vc ((p.Ac.take k).map hC)) (fun i _=>n3 - (intOf i).toNat)
     case atStart=>exact⟨0,.slice none 0 0,rfl,by omega,HBC.out,HZC.out,HFC.out,HVC.out,HRT.out,RowOf.nil⟩
     case round =>
      obtain⟨k,vc,rfl,hk,hb,hz,hfd,hvl,hth,hR⟩:=hrel
      have HBr:=Lib.hid hb;have HFD:=Lib.hid hfd;have HR:=Lib.hid hR;have HV:=Lib.hid hvl;have HZ:=Lib.hid hz;have HTH:=Lib.hid hth
      clear hb hfd hR hvl hz hth
      by_cases hlt:k < n3
      ·have hkl:k < p.Ac.length:=by have:=N3.out;omega
       obtain⟨b,o,cs',rfl,x0,x1,x2⟩:=Ab9 S3.out hkl
       obtain⟨t,ht⟩:∃ t,p.Ac[k]=t:=⟨_,rfl⟩
       have le:=(HL.out.cl _ (List.getElem_mem hkl))
       rw[ht] at x2 le
       obtain⟨ae,ce,rfl,se⟩:=Akd x2
       have HBw:=Lib.hid (HB.out.trans (HBr.out.mono (by have:=HD.out;omega)))
       have y0:wr.cell? ⟨b,o+k*3,none⟩=some (.int .i64 t.Ah):=cell_later HBw.out (x1 0 _ rfl)
       have y1:wr.cell? ⟨b,o+k*3+1,none⟩=some (.slice ae t.Bh.length ce):=cell_later HBw.out (x1 1 _ rfl)
       have y2:wr.cell? ⟨b,o+k*3+2,none⟩=some (.int .i64 t.B0):=cell_later HBw.out (x1 2 _ rfl)
       have hcc:=(A6f S3.out).2
       rw[N3.out] at hcc
       have HT:=Lib.hid ht;have SE:=Lib.hid se
       have hlk:((p.Ac.take k).map hC).length=k:=by rw[B3,List.length_take];omega
       obtain⟨css,e1,e2,e3⟩:=HR.out
       rw[hlk] at e1 e2
       obtain⟨va,vcc,rfl⟩:=Dw e2
       obtain⟨xs,hxs⟩:∃ xs,xs=css.flatten:=⟨_,rfl⟩
       rw[← hxs] at e2
       have E1:=Lib.hid e1;have E2:=Lib.hid e2;have E3:=Lib.hid e3;have HLK:=Lib.hid hlk;have HXS:=Lib.hid hxs
       clear x0 x1 x2 ht se e1 e2 e3 hlk hxs HR
       go_upto_region 22 with (fail)
       obtain⟨M,hM⟩:∃ M,wr.heap.size=M:=⟨_,rfl⟩
       obtain⟨w1,hw1⟩:∃ w1,w1=wr.alloc (.cells #[.int .i64 t.Ah,.slice ae t.Bh.length ce,.int .i64 t.B0] 40):=⟨_,rfl⟩
       rw[← hw1]
       have hb1:Below M wr w1:=hM ▸ hw1 ▸ (Below.refl _ _).alloc (Nat.le_refl _) _
       have fx:Fresh w1 M (.cells #[.int .i64 t.Ah,.slice ae t.Bh.length ce,.int .i64 t.B0] 40):=hM ▸ hw1 ▸ Fresh.new _ _
       have hs1:w1.heap.size=M+1:=by rw[hw1,← hM];exact World.size_alloc _ _
       have fd1:Fresh w1 D (.cells #[.int .i64 m,.slice q1 n1 q2,.slice ta n2 tc,.slice va k vcc] 26):=HFD.out.later (hM.symm ▸ hb1)
       rw[hM]
       clear hw1 y0 y1 y2
       have f3:w1.drew.cell? ⟨D,3,none⟩=some (.slice va k vcc):=(fd1.open (k:=3) rfl).1
       have f0:w1.drew.cell? ⟨M,0,none⟩=some (.int .i64 t.Ah):=(fx.open (k:=0) rfl).1
       have f1:w1.drew.cell? ⟨M,1,none⟩=some (.slice ae t.Bh.length ce):=(fx.open (k:=1) rfl).1
       have SE1:=Lib.hid (SE.out.mono Mu (HBw.out.trans (hb1.mono (by have:=HBw.out.size;omega))))
       have FX:=Lib.hid fx;have FD1:=Lib.hid fd1;have HB1:=Lib.hid hb1;have HS1:=Lib.hid hs1;have HM:=Lib.hid hM
       clear fx fd1 hb1 hs1 hM
       refine Py 9 [(0,true),(1,true),(2,true),(3,true),(4,true),(5,true),(6,false),(7,true),(8,false)] (fun w'=>w'.cell? ⟨D,3,none⟩=some (.slice va k vcc)∧w'.cell? ⟨M,0,none⟩=some (.int .i64 t.Ah)∧w'.cell? ⟨M,1,none⟩=some (.slice ae t.Bh.length ce)) A6m (by decide +kernel) ⟨f3,f0,f1⟩ ?_
       intro wd hwd hbd
       refine Cn rfl rfl (.pointer (some ⟨D,3,none⟩)) (fun w' hS=>?_) (fun K hK=>?_)
       ·obtain⟨hS1,hS2,hS3⟩:=hS
        go_simp
       go_simp
       refine hK _ ?_
       clear hK K
       refine Cn rfl rfl (.slice va k vcc) (fun w' hS=>?_) (fun K hK=>?_)
       ·obtain⟨hS1,hS2,hS3⟩:=hS
        go_simp
       go_simp
       refine hK _ ?_
       clear hK K
       refine Cn rfl rfl (.pointer (some ⟨M,0,none⟩)) (fun w' hS=>?_) (fun K hK=>?_)
       ·obtain⟨hS1,hS2,hS3⟩:=hS
        go_simp
       go_simp
       refine hK _ ?_
       clear hK K
       refine Cn rfl rfl (.int .i64 t.Ah) (fun w' hS=>?_) (fun K hK=>?_)
       ·obtain⟨hS1,hS2,hS3⟩:=hS
        go_simp
       go_simp
       refine hK _ ?_
       clear hK K
       refine Cn rfl rfl (.pointer (some ⟨M,1,none⟩)) (fun w' hS=>?_) (fun K hK=>?_)
       ·obtain⟨hS1,hS2,hS3⟩:=hS
        go_simp
       go_simp
       refine hK _ ?_
       clear hK K
       refine Cn rfl rfl (.slice ae t.Bh.length ce) (fun w' hS=>?_) (fun K hK=>?_)
       ·obtain⟨hS1,hS2,hS3⟩:=hS
        go_simp
       go_simp
       refine hK _ ?_
       clear hK K
       have fxd:=FX.out.later hbd
       have fdd:=FD1.out.later hbd
       have HBD1:=Lib.hid hbd;have HSD:=Lib.hid (show wd.heap.size=M+1 by rw[hwd];exact HS1.out)
       clear hwd hbd f3 f0 f1
       refine J3 rfl rfl (fun K hK=>?_)
       go_simp
       refine(A3j wd (.slice ae t.Bh.length ce) t.Bh (SE1.out.mono Mu HBD1.out) le).mono ?_
       rintro e w2 ⟨ve,rfl,hb2,hE⟩
       have fx2:=fxd.later hb2;have fd2:=fdd.later hb2
       refine hK _ _ ⟨(fd2.open (k:=3) rfl).1,(fx2.open (k:=0) rfl).1,(fx2.open (k:=1) rfl).1⟩ ?_
       clear hK K fxd fdd
       obtain⟨ea,ec,rfl⟩:=Dw hE
       refine Cn rfl rfl (.agg #[.int .i64 t.Ah,.slice ea t.Bh.length ec,.int .i64 0]) (fun w' hS=>?_) (fun K hK=>?_)
       ·go_simp
       go_simp
       refine hK _ ?_
       clear hK K
       refine J3 rfl rfl (fun K hK=>?_)
       go_simp
       refine hK _ _ ⟨cell_later ((Below.refl _ _).alloc (Nat.le_refl _) _) (fd2.open (k:=3) rfl).1,cell_later ((Below.refl _ _).alloc (Nat.le_refl _) _) (fx2.open (k:=0) rfl).1,cell_later ((Below.refl _ _).alloc (Nat.le_refl _) _) (fx2.open (k:=1) rfl).1⟩ ?_
       clear hK K fx2
       unfold Kx
       have hb12:Below M wr w2:=HB1.out.trans ((HBD1.out.mono (by have:=HS1.out;omega)).trans (hb2.mono (by have:=HSD.out;omega)))
       have hE:NodesAt (D+1) w2 _ _:=hE.base (by have:=HSD.out;have:=HM.out;have:=HZ.out;omega)
       have hbX:Below wr.heap.size wr w2:=HM.out.symm ▸ hb12
       have e2:=D0 E2.out hbX
       have HO:=Lib.hid (D0 e2 ((Below.refl _ _).alloc (Nat.le_refl _) (.cells #[.int .i64 t.Ah,.slice ea t.Bh.length ec,.int .i64 0] 40)))
       have HV2:=Lib.hid (show Li (D+1) w2 (.slice q1 n1 q2) (p.Ao.map hV) from D0 HV.out hbX)
       have HT2:=Lib.hid (HTH.out.below hbX)
       have hP2:∀ c y,ClAt (D+1) wr c y→ClAt (D+1) w2 c y:=fun c y h=>h.below hbX
       rw[B3] at hE
       have HE:=Lib.hid hE;have FD2:=Lib.hid fd2;have HB12:=Lib.hid hb12;have HP2:=Lib.hid hP2;have HZ2:=Lib.hid hbX.size
       have HS6:=Lib.hid (World.size_alloc w2 (.cells #[.int .i64 t.Ah,.slice ea t.Bh.length ec,.int .i64 0] 40))
       clear hE fd2 hb12 hP2 hbX e2 hb2 HBD1 HSD SE1 FX FD1 HB1
       simp only[List.drop_succ_cons,List.drop_zero]
       go_wp2_with (at_builtin;refine wpList_append_lies _ rfl _ _ 24 rfl (D+1) 40 k0 _ 3 40 Tryz.underlying24 ki ki0 ki1 ki2 rfl (by decide) _ k xs rfl HO.out _ 1 1 [.int .i64 t.Ah,.slice ea t.Bh.length ec,.int .i64 0] rfl rfl (World.news_of_block (heap_alloc_new w2 _)) (by intro u hu;simp at hu;rcases hu with rfl | rfl | rfl<;>rfl) (by decide) ?a1 ?a2 ?a3 _ rfl ?_)
       case a1=>unfold maxLen;omega
       case a2=>omega
       case a3=>have:=HS6.out;have:=HZ2.out;have:=HZ.out;omega
       intro g cp w7 hw7 hgr hlc hlt7
       have hs6:=HS6.out;have hz2:=HZ2.out;have hz:=HZ.out;have hm0:=HM.out
       have ha6:=(Below.refl w2.heap.size w2).alloc (Nat.le_refl _) (.cells #[.int .i64 t.Ah,.slice ea t.Bh.length ec,.int .i64 0] 40)
       have hnb:∀ q,(Value.slice va k vcc).ownBlock=some q→D+1≤q:=fun q hq=>(Ld HO.out hq).1
       have hkg:=Yz HO.out hgr
       have hbD:Below D W w7:=(HBr.out.trans ((HB12.out.trans (ha6.mono (by omega))).mono (by omega))).grown hgr (by omega) fun q hq=>by have:=hnb q hq;omega
       have fd7:=(FD2.out.later ha6).keeps hkg (by decide)
       have hv7:Li (D+1) w7 (.slice q1 n1 q2) (p.Ao.map hV):=Cm (D0 HV2.out ha6) hkg (by decide)
       have ht7:=(HT2.out.below ha6).keeps hkg (by decide) (by decide) (by decide) (by decide)
       have hE7:=(HE.out.below ha6).keeps hkg (by decide)
       have hP7:∀ c y,ClAt (D+1) wr c y→ClAt (D+1) w7 c y:=fun c y h=>((HP2.out c y h).below ha6).keeps hkg (by decide)
       obtain⟨y9,y9'⟩:=fd7.open (k:=3) rfl
       have HW7:=Lib.hid hw7;have HBD7:=Lib.hid hbD;have FD7:=Lib.hid fd7;have HV7:=Lib.hid hv7;have HT7:=Lib.hid ht7;have HE7:=Lib.hid hE7;have HP7:=Lib.hid hP7;have HZ7:=Lib.hid (show D+1≤w7.heap.size by have:=hgr.size;omega)
       clear hw7 hgr hlc hlt7 hbD fd7 hv7 ht7 hE7 hP7 hkg hnb ha6
       go_wp2_with fail
       go_round
       case rel =>
        have ks:=G3 (k:=3) FD7.out (.slice (some ⟨g,0,none⟩) (k+1) cp)
        refine⟨k+1,_,by go_num,by omega,HBD7.out.setCell (p:=⟨D,3,none⟩) (Nat.le_refl _) _,by rw[World.size_setCell];exact HZ7.out,FD7.out.put (k:=3) _,Cm HV7.out ks (by decide),HT7.out.keeps ks (by decide) (by decide) (by decide) (by decide),?_⟩
        rw[List.take_add_one,B7 hkl,Option.toList_some,List.map_append,HT.out]
        have hpush:=RowOf.push (P:=ClAt) (e:=40) (size:=3) (B:=D+1) (w:=wr) (w2:=w7.setCell ⟨D,3,none⟩ (.slice (some ⟨g,0,none⟩) (k+1) cp)) (v':=.slice (some ⟨g,0,none⟩) (k+1) cp) (l:=(p.Ac.take k).map hC) (css:=css) (by rw[HLK.out];exact E1.out) E3.out (fun c y h=>(HP7.out c y h).keeps ks (by decide)) (c:=[.int .i64 t.Ah,.slice ea t.Bh.length ec,.int .i64 0]) (x:=hC t) (by rw[HLK.out,← HXS.out];exact Cm HW7.out ks (by decide)) rfl ⟨_,rfl,HE7.out.keeps ks (by decide)⟩
        exact hpush
       case measure=>simp[intOf];omega
      ·have hkn:n3=k:=by omega
       subst hkn
       have hR3:=HR.out
       rw[List.take_of_length_le (by rw[N3.out];exact Nat.le_refl _)] at hR3
       obtain⟨va,vcc,rfl⟩:∃ a c,vc=.slice a n3 c:=by
        obtain⟨_,_,h,_⟩:=hR3
        rw[B3,N3.out] at h
        exact Dw h
       have fr5:Fresh wr (w.heap.size+1) (.cells #[.int .i64 0,.slice none 0 0,.slice none 0 0,.slice none 0 0] 26):=(HBr.out.block (w.heap.size+1) (by have:=HD.out;omega)).trans FR.out
       obtain⟨x0,x0'⟩:=fr5.open (k:=0) rfl;obtain⟨x1,x1'⟩:=fr5.open (k:=1) rfl;obtain⟨x2,x2'⟩:=fr5.open (k:=2) rfl;obtain⟨x3,x3'⟩:=fr5.open (k:=3) rfl
       have y0:=(HFD.out.open (k:=0) rfl).1;have y1:=(HFD.out.open (k:=1) rfl).1;have y2:=(HFD.out.open (k:=2) rfl).1;have y3:=(HFD.out.open (k:=3) rfl).1
       have HR3:=Lib.hid hR3;have FR5:=Lib.hid fr5
       clear hR3 fr5 HR
       go_wp2_with fail
       have u1:=FR5.out.put (k:=0) (.int .i64 m);have u2:=u1.put (k:=1) (.slice q1 n1 q2);have u3:=u2.put (k:=2) (.slice ta n2 tc);have u4:=u3.put (k:=3) (.slice va n3 vcc)
       have k1:=G3 (k:=0) FR5.out (.int .i64 m);have k2:=G3 (k:=1) u1 (.slice q1 n1 q2);have k3:=G3 (k:=2) u2 (.slice ta n2 tc);have k4:=G3 (k:=3) u3 (.slice va n3 vcc)
       have hle:w.heap.size≤w.heap.size+1:=Nat.le_succ _
       have hb9:=((((HB.out.trans (HBr.out.mono (by have:=HD.out;omega))).setCell (p:=⟨w.heap.size+1,0,none⟩) hle (.int .i64 m)).setCell (p:=⟨w.heap.size+1,1,none⟩) hle (.slice q1 n1 q2)).setCell (p:=⟨w.heap.size+1,2,none⟩) hle (.slice ta n2 tc)).setCell (p:=⟨w.heap.size+1,3,none⟩) hle (.slice va n3 vcc)
       have hD0:w.heap.size≤D+1:=by have:=HD.out;omega
       have r1:Li w.heap.size _ (.slice q1 n1 q2) (p.Ao.map hV):=Qw (Cm (Cm (Cm (Cm HV.out k1 (by decide)) k2 (by decide)) k3 (by decide)) k4 (by decide)) hD0
       have r2:=((((HTH.out.keeps k1 (by decide) (by decide) (by decide) (by decide)).keeps k2 (by decide) (by decide) (by decide) (by decide)).keeps k3 (by decide) (by decide) (by decide) (by decide)).keeps k4 (by decide) (by decide) (by decide) (by decide)).base hD0
       have r3:=((((HR3.out.keeps k1 (by decide) (by decide)).keeps k2 (by decide) (by decide)).keeps k3 (by decide) (by decide)).keeps k4 (by decide) (by decide)).base hD0
       (try simp only[Exit.inBlock,Exit.then])
       refine bodyPost_ret (results_cell_row rfl _ _ (w.heap.size+1) 26 #[.int .i64 m,.slice q1 n1 q2,.slice ta n2 tc,.slice va n3 vcc] (0,0) _ rfl u4 Tryz.underlying26 rfl (by kernel_rfl)) rfl ?_
       exact⟨_,_,_,rfl,hb9,r1,r2,r3⟩
set_option maxRecDepth 100000
set_option maxHeartbeats 4000000
theorem Zr {n:Nat} ⦃r:(List UInt8)⦄:Sb n=some r→CN n 16 [] []=some (sA r,[]):=by
 intro h;rcases n with _|n;cases h
 rw[Sb] at h
 refine An Tryz.func16 (by rfl) rfl rfl (As rfl) ?_
 intro call hc;conv=>lhs;whnf
 revert h
 exact rz
theorem A7t {n:Nat} ⦃r:Bool⦄:Pb n=some r→CN n 5 [] []=some (bA r,[]):=by
 intro h;rcases n with _|n;cases h
 rw[Pb] at h
 refine An Tryz.func5 (by rfl) rfl rfl (As rfl) ?_
 intro call hc;conv=>lhs;whnf
 revert h
 refine ca hc (fun _ h=>Zr h) ?_;intro y1
 refine ca hc (fun _ h=>S8 h) ?_;intro y3
 refine ca hc (fun _ h=>S8 h) ?_;intro y5
 refine ca hc (fun _ h=>S8 h) ?_;intro y7
 refine cr hc (fun _ h=>S8 h) ?_;intro y9
 refine br ?_ ?_
 exact rz
 refine br ?_ ?_
 exact rz
 refine br ?_ ?_
 exact rz
 refine br ?_ ?_
 exact rz
 refine br ?_ ?_
 exact rz
 refine ix ?_;intro x16
 refine br ?_ ?_
 exact rz
 refine ix ?_;intro x18
 refine br ?_ ?_
 exact rz
 refine ca hc (fun _ h=>A2s h) ?_;intro y20
 refine ix ?_;intro x22
 refine br ?_ ?_
 refine br ?_ ?_
 refine ix ?_;intro x25
 refine br ?_ ?_
 refine ix ?_;intro x27
 refine ix ?_;intro x28
 refine br ?_ ?_
 refine br ?_ ?_
 refine br ?_ ?_
 refine br ?_ ?_
 refine br ?_ ?_
 refine br ?_ ?_
 refine br ?_ ?_
 refine ca hc (fun _ h=>A27 h) ?_;intro y36
 refine ca hc (fun _ h=>Zr h) ?_;intro y38
 refine br ?_ ?_
 refine ca hc (fun _ h=>Vv h) ?_;intro y41
 exact rz
 exact rz
 exact rz
 exact rz
 exact rz
 exact rz
 exact rz
 exact rz
 exact rz
 exact rz
 exact rz
 exact rz
def PRep (w:World) (v:Value) (p:Ar):Prop:=Rep (SAll w) w [] [] (.agg (A1g p)) v
theorem Adq {w:World} {cs:List Value} {p:Ar} (h:Pi.rel w cs p):PRep w (.agg cs.toArray) p:=Ao9 Af9 (cs:=cs.toArray) (by simpa [Value.cells] using h)
theorem Vh {g:FuncId} {args:List AV} {b:Bool} {n:Nat} (h:I2 Tryz.prog HH XT n g args []=some (.bool b,[])) {w:World} {vs:List Value} (hr:Reps (SAll w) w [] [] args vs):Calls Tryz.prog g vs.toArray w fun e w'=>e=.returned (.bool b)∧Below w.heap.size w w':=by
 refine(A5g A5h n false g args [] _ _ h w.heap.size (SAll w) w [] vs (A86 w) hr).mono ?_
 rintro e w' ⟨u,S',φ',rfl,hu,_,ht⟩
 exact⟨by rw[hu.bool_inv],ht.below⟩
theorem Abx {g:FuncId} {args:List AV} {s:List UInt8} {n:Nat} (h:I2 Tryz.prog HH XT n g args []=some (.str s,[])) {w:World} {vs:List Value} (hr:Reps (SAll w) w [] [] args vs):Calls Tryz.prog g vs.toArray w fun e w'=>e=.returned (.string (bs s))∧Below w.heap.size w w':=by
 refine(A5g A5h n false g args [] _ _ h w.heap.size (SAll w) w [] vs (A86 w) hr).mono ?_
 rintro e w' ⟨u,S',φ',rfl,hu,_,ht⟩
 refine⟨?_,ht.below⟩
 cases hu
 rfl
theorem A9o {g:FuncId} {args:List AV} {q:Ar} {n:Nat} (h:I2 Tryz.prog HH XT n g args []=some (.agg (A1g q),[])) {w:World} {vs:List Value} (hr:Reps (SAll w) w [] [] args vs):Calls Tryz.prog g vs.toArray w fun e w'=>∃ u,e=.returned u∧Below w.heap.size w w'∧PRep w' u q:=by
 refine(A5g A5h n false g args [] _ _ h w.heap.size (SAll w) w [] vs (A86 w) hr).mono ?_
 rintro e w' ⟨u,S',φ',rfl,hu,hs,ht⟩
 have hφ:φ'=[]:=List.eq_nil_of_length_eq_zero hs.len
 subst hφ
 exact⟨u,rfl,ht.below,Rep.mono (fun b o h=>⟨let ⟨v,hv,_⟩:=hs.cell b o h;⟨v,hv⟩,rfl⟩) hu (.refl _ _)⟩
theorem PRep.later {w w':World} {v:Value} {p:Ar} (h:PRep w v p) (hb:Below w.heap.size w w'):PRep w' v p :=
 Rep.mono (fun b o h=>⟨let ⟨x,hx⟩:=h;⟨x,(Rg hb h).trans hx⟩,Rg hb h⟩) h (.refl _ _)
def WN (x:A0):Prop:=(Lit.int .i64 x.B1).wf=true∧(Lit.int .i64 x.Bk).wf=true∧x.Ae.length≤maxLen∧x.C2.length≤maxLen
def WS (x:A2):Prop:=(Lit.int .i64 x.Ah).wf=true∧x.Bj.length≤maxLen∧x.Bg.length≤maxLen∧(∀ y ∈ x.Bh,WN y)∧(∀ y ∈ x.Cg,WN y)∧(Lit.int .i64 x.Aq).wf=true∧(Lit.int .i64 x.Be).wf=true
def WT (t:Ag):Prop:=t.Ae.length≤maxLen∧(∀ r ∈ t.Ay,r.length≤maxLen)∧∀ x ∈ t.Aq,WS x
def WC (c:Ai):Prop:=(Lit.int .i64 c.Ah).wf=true∧∀ y ∈ c.Bh,WN y
def WV (v:Az):Prop:=v.Ae.length≤maxLen∧(Lit.int .i64 v.Bk).wf=true
structure WP (p:Ar):Prop where
 mod:(Lit.int .i64 p.B2).wf=true
 locs:∀ v ∈ p.Ao,WV v
 threads:∀ t ∈ p.A7,WT t
 claims:∀ c ∈ p.Ac,WC c
theorem Vb {α:Type} {r:Rd α} {w:World} {v:Value} {l:List α} {Q:α→Prop} (h:Sl r w v l) (hq:∀ cs x,r.rel w cs x→Q x):∀ x ∈ l,Q x:=by
 obtain⟨a,cap,_,_,h3⟩:=h
 intro x hx
 obtain⟨k,hk,rfl⟩:=List.getElem_of_mem hx
 obtain⟨_,_,cs',_,_,_,h4⟩:=h3 k hk
 exact hq _ _ h4
theorem A3m {α:Type} {r:Rd α} {w:World} {cs:List Value} {l:List α} (h:(Kw r).rel w cs l):∃ v,cs=[v]∧Sl r w v l:=by
 obtain⟨a,cap,rfl,h2⟩:=h
 exact⟨_,rfl,a,cap,rfl,h2⟩
theorem Aca {w:World} {cs:List Value} {x:A0} (h:Dp.rel w cs x):WN x:=by
 obtain⟨⟨a,b,c,d,e⟩,⟨⟨_,h1⟩,⟨_,h2⟩,⟨_,h3⟩,⟨_,h4⟩,_⟩,rfl⟩:=h
 exact⟨h1,h2,h3,h4⟩
theorem Aoh {w:World} {cs:List Value} {x:A2} (h:Kd.rel w cs x):WS x:=by
 obtain⟨⟨a,b,c,d,e,f,g,i,j⟩,⟨⟨_,h1⟩,⟨_,h2⟩,⟨_,h3⟩,h4,h5,_,⟨_,h7⟩,⟨_,h8⟩,_⟩,rfl⟩:=h
 obtain⟨_,_,h4⟩:=A3m h4
 obtain⟨_,_,h5⟩:=A3m h5
 exact⟨h1,h2,h3,Vb h4 fun _ _=>Aca,Vb h5 fun _ _=>Aca,h7,h8⟩
theorem Aoy {w:World} {cs:List Value} {x:Ag} (h:Es.rel w cs x):WT x:=by
 obtain⟨⟨a,b,c,d⟩,⟨⟨_,h1⟩,h2,h3,_⟩,rfl⟩:=h
 obtain⟨_,_,h2⟩:=A3m h2
 obtain⟨_,_,h3⟩:=A3m h3
 exact⟨h1,Vb h2 fun _ _ h=>h.2,Vb h3 fun _ _=>Aoh⟩
theorem Aph {w:World} {cs:List Value} {x:Ai} (h:Fv.rel w cs x):WC x:=by
 obtain⟨⟨a,b,c⟩,⟨⟨_,h1⟩,h2,_⟩,rfl⟩:=h
 obtain⟨_,_,h2⟩:=A3m h2
 exact⟨h1,Vb h2 fun _ _=>Aca⟩
theorem Apf {w:World} {cs:List Value} {x:Az} (h:J6.rel w cs x):WV x:=by
 obtain⟨⟨a,b,c⟩,⟨⟨_,h1⟩,⟨_,h2⟩,_⟩,rfl⟩:=h
 exact⟨h1,h2⟩
theorem Am1 {w:World} {cs:List Value} {p:Ar} (h:Pi.rel w cs p):WP p∧∃ a1 c1 a2 c2 a3 c3,cs=[.int .i64 p.B2,.slice a1 p.Ao.length c1,.slice a2 p.A7.length c2,.slice a3 p.Ac.length c3]∧Sl J6 w (.slice a1 p.Ao.length c1) p.Ao∧Sl Es w (.slice a2 p.A7.length c2) p.A7∧Sl Fv w (.slice a3 p.Ac.length c3) p.Ac:=by
 obtain⟨⟨a,b,c,d⟩,⟨⟨h1,g1⟩,⟨a4,c4,h4,r4⟩,⟨a5,c5,h5,r5⟩,⟨a6,c6,h6,r6⟩⟩,rfl⟩:=h
 obtain⟨t1,rfl⟩:=Fd h1
 obtain⟨t2,rfl⟩:=Fd (cs:=t1) h4
 obtain⟨t3,rfl⟩:=Fd (cs:=t2) h5
 obtain rfl:t3=_:=h6
 have s4:Sl J6 w (.slice a4 b.length c4) b:=⟨_,_,rfl,r4⟩
 have s5:Sl Es w (.slice a5 c.length c5) c:=⟨_,_,rfl,r5⟩
 have s6:Sl Fv w (.slice a6 d.length c6) d:=⟨_,_,rfl,r6⟩
 exact⟨⟨g1,Vb s4 fun _ _=>Apf,Vb s5 fun _ _=>Aoy,Vb s6 fun _ _=>Aph⟩,_,_,_,_,_,_,rfl,s4,s5,s6⟩
theorem wf0:(Lit.int .i64 0).wf=true:=by decide
theorem Ans {w:World} {x:A0} (h:WN x):Dp.rel w (Mc (hN x)) (hN x):=⟨(x.B1,x.Bk,x.Ae,x.C2,0),⟨⟨rfl,h.1⟩,⟨rfl,h.2.1⟩,⟨rfl,h.2.2.1⟩,⟨rfl,h.2.2.2⟩,⟨rfl,wf0⟩⟩,rfl⟩
theorem A56 {B:Nat} {w:World} {v:Value} {l:List A0} (h:NodesAt B w v (l.map hN)) (hw:∀ x ∈ l,WN x):Sl Dp w v (l.map hN) :=
 A8a (r:=Dp) Za h fun x hx=>by obtain⟨y,hy,rfl⟩:=List.mem_map.1 hx;exact Ans (hw y hy)
theorem Ao7 {B:Nat} {w:World} {v:Value} {l:List (List UInt8)} (h:Rn B w v l) (hw:∀ x ∈ l,x.length≤maxLen):Sl Fq w v l :=
 A8a (r:=Fq) Adu h fun x hx=>⟨rfl,hw x hx⟩
theorem Ang {B:Nat} {w:World} {v:Value} {l:List Az} (h:Li B w v (l.map hV)) (hw:∀ x ∈ l,WV x):Sl J6 w v (l.map hV) :=
 A8a (r:=J6) Ala h fun x hx=>by obtain⟨y,hy,rfl⟩:=List.mem_map.1 hx;exact⟨(y.Ae,y.Bk,0),⟨⟨rfl,(hw y hy).1⟩,⟨rfl,(hw y hy).2⟩,⟨rfl,wf0⟩⟩,rfl⟩
theorem Aea {α:Type} {r:Rd α} {P:Nat→World→List Value→α→Prop} {e:TypeId} {size B:Nat} {w:World} {v:Value} {l:List α} (h:RowOf P e size B w v l) (hs:r.size=size) (hp:∀ c x,x ∈ l→P B w c x→r.rel w c x):Sl r w v l:=by
 subst hs
 obtain⟨css,h1,h2,h3⟩:=h
 have hlen:∀ c ∈ css,c.length=r.size:=fun c hc=>by
  obtain⟨i,hi,rfl⟩:=List.getElem_of_mem hc
  exact(h3 i _ _ (B7 hi) (B7 (by omega))).1
 have hat:∀ (css:List (List Value)),(∀ c ∈ css,c.length=r.size)→∀ (i:Nat) (hi:i < css.length) (j:Nat),j < r.size→css.flatten[i*r.size+j]?=css[i][j]?:=by
  intro css
  induction css with
  | nil=>intro _ i hi;simp at hi
  | cons c t ih =>
   intro hl i hi j hj
   have hc:=hl c (by simp)
   rw[List.flatten_cons]
   cases i with
   | zero=>rw[Nat.zero_mul,Nat.zero_add,List.getElem?_append_left (by omega)];rfl
   | succ i =>
    rw[List.getElem?_append_right (by rw[hc,Nat.succ_mul];omega),hc,show(i+1)*r.size+j - r.size=i*r.size+j by rw[Nat.succ_mul];omega]
    exact ih (fun c hc=>hl c (by simp[hc])) i (by simpa using hi) j hj
 rcases Tv h2 with ⟨rfl,h0⟩ | ⟨g,cap,ex,rfl,hg,hh,hc,hm,_⟩
 ·exact⟨none,0,by rw[h0],⟨by omega,by decide,fun _=>rfl⟩,fun k hk=>by omega⟩
 ·refine⟨some ⟨g,0,none⟩,cap,rfl,⟨hc,hm,fun h=>by cases h⟩,fun k hk=>⟨g,0,css[k]'(by omega),rfl,hlen _ (List.getElem_mem _),fun j u hj=>?_,hp _ _ (List.getElem_mem hk) (h3 k _ _ (B7 (by omega)) (B7 hk)).2⟩⟩
  have hjl:j < r.size:=by rw[← hlen _ (List.getElem_mem (show k < css.length by omega))];exact(List.getElem?_eq_some_iff.1 hj).1
  have h5:=(hat css hlen k (by omega) j hjl).trans hj
  have h6:=(List.getElem?_eq_some_iff.1 h5).1
  simp only[World.cell?,hh,Nat.zero_add]
  have h7:(css.flatten++ex)[k*r.size+j]?=some u:=by rw[List.getElem?_append_left h6];exact h5
  simpa using h7
theorem Ao1 {B:Nat} {w:World} {c:List Value} {x:A2} (h:StmtAt B w c (hS x)) (hw:WS x):Kd.rel w c (hS x):=by
 obtain⟨ve,vf,rfl,h1,h2⟩:=h
 obtain⟨w1,w2,w3,w4,w5,w6,w7⟩:=hw
 exact⟨(x.Ah,x.Bj,x.Bg,x.Bh.map hN,x.Cg.map hN,x.Cx,x.Aq,x.Be,0),⟨⟨rfl,w1⟩,⟨rfl,w2⟩,⟨rfl,w3⟩,A56 h1 w4,A56 h2 w5,rfl,⟨rfl,w6⟩,⟨rfl,w7⟩,⟨rfl,wf0⟩⟩,rfl⟩
theorem Ajo {B:Nat} {w:World} {c:List Value} {x:Ag} (h:ThrAt B w c (hT x)) (hw:WT x):Es.rel w c (hT x):=by
 obtain⟨ve,vf,rfl,h1,h2⟩:=h
 obtain⟨w1,w2,w3⟩:=hw
 refine⟨(x.Ae,x.Ay,x.Aq.map hS,0),⟨⟨rfl,w1⟩,Ao7 h1 w2,Aea (r:=Kd) h2 rfl ?_,⟨rfl,wf0⟩⟩,rfl⟩
 intro c y hy hc
 obtain⟨z,hz,rfl⟩:=List.mem_map.1 hy
 exact Ao1 hc (w3 z hz)
theorem Alb {B:Nat} {w:World} {c:List Value} {x:Ai} (h:ClAt B w c (hC x)) (hw:WC x):Fv.rel w c (hC x):=by
 obtain⟨ve,rfl,h1⟩:=h
 exact⟨(x.Ah,x.Bh.map hN,0),⟨⟨rfl,hw.1⟩,A56 h1 hw.2,⟨rfl,wf0⟩⟩,rfl⟩
theorem Alg {B:Nat} {w:World} {vl vt vc:Value} {p:Ar} (hw:WP p) (h1:Li B w vl (p.Ao.map hV)) (h2:ThrsAt B w vt (p.A7.map hT)) (h3:ClsAt B w vc (p.Ac.map hC)):PRep w (.agg #[.int .i64 p.B2,vl,vt,vc]) (hP p):=by
 refine Adq (cs:=[.int .i64 p.B2,vl,vt,vc]) ⟨(p.B2,p.Ao.map hV,p.A7.map hT,p.Ac.map hC),⟨⟨rfl,hw.mod⟩,Ang h1 hw.locs,Aea (r:=Es) h2 rfl ?_,Aea (r:=Fv) h3 rfl ?_⟩,rfl⟩
 ·intro c y hy hc
  obtain⟨z,hz,rfl⟩:=List.mem_map.1 hy
  exact Ajo hc (hw.threads z hz)
 ·intro c y hy hc
  obtain⟨z,hz,rfl⟩:=List.mem_map.1 hy
  exact Alb hc (hw.claims z hz)
def W7 (E:TypeId):Prop:=E=9∨E=42∨E=38
def A35 (lo hi:Nat) (w:World) (b:Nat):Prop:=lo≤b∧b < hi∧∃ cs E,w.heap[b]?=some (.cells cs E (0,0))∧W7 E
structure Spoilt (lo hi:Nat) (w5 w:World):Prop where
 below:Below lo w5 w
 heap:∀ b,¬ A35 lo hi w5 b→w.heap[b]?=w5.heap[b]?
 shape:∀ (b:Nat) cs E,w5.heap[b]?=some (.cells cs E (0,0))→∃ cs',cs'.size=cs.size∧w.heap[b]?=some (.cells cs' E (0,0))
theorem Spoilt.refl (lo hi:Nat) (w:World):Spoilt lo hi w w:=⟨Below.refl _ _,fun _ _=>rfl,fun b cs E h=>⟨cs,rfl,h⟩⟩
theorem Spoilt.set {lo hi:Nat} {w5 w:World} (h:Spoilt lo hi w5 w) {p:Addr} (hl:A35 lo hi w5 p.block) (v:Value):Spoilt lo hi w5 (w.setCell p v):=by
 refine⟨h.below.setCell hl.1 v,fun b hb=>?_,fun b cs E hb=>?_⟩
 ·have hne:b≠p.block:=by rintro rfl;exact hb hl
  exact(Below.heap_setCell w p v b hne).trans (h.heap b hb)
 ·obtain⟨cs',e1,e2⟩:=h.shape b cs E hb
  by_cases hbp:b=p.block
  ·subst hbp
   refine⟨if p.spot.isSome then cs' else cs'.setIfInBounds p.off v,by split<;>simp[e1],?_⟩
   simp[World.setCell,Array.getElem?_modify,e2]
  ·exact⟨cs',e1,(Below.heap_setCell w p v b hbp).trans e2⟩
theorem Spoilt.cell {lo hi:Nat} {w5 w:World} (h:Spoilt lo hi w5 w) {b o:Nat} {v:Value} (hb:¬ A35 lo hi w5 b) (hv:w5.cell? ⟨b,o,none⟩=some v):w.cell? ⟨b,o,none⟩=some v :=
 (World.cell?_of_block (a:=⟨b,o,none⟩) (h.heap b hb)).trans hv
theorem A0e {lo hi:Nat} {w:World} {b:Nat} {cs:Array Value} {E:TypeId} (h:w.heap[b]?=some (.cells cs E (0,0))) (h1:¬ W7 E):¬ A35 lo hi w b:=by
 rintro ⟨_,_,cs',E',h',hE⟩
 rw[h] at h'
 obtain⟨_,rfl⟩:cs=cs'∧E=E':=by simpa using h'
 exact h1 hE
theorem Spoilt.live {lo hi:Nat} {w5 w:World} (h:Spoilt lo hi w5 w) {e:TypeId} {size n m cap:Nat} {a:Option Addr} {xs:List Value} (ho:w5.ownsRow lo e size (.slice a m cap) n xs) {i:Nat} (hi':i < n*size) (hh:w5.heap.size≤hi) (he:W7 e) :
 m=n∧∃ g,a=some ⟨g,0,none⟩∧n≤cap∧A35 lo hi w5 g∧∃ old,w.cell? ⟨g,i,none⟩=some old∧w.frozen? ⟨g,i,none⟩=false:=by
 rcases ho.2 with ⟨_,h0⟩ | ⟨g,cap',cur,hv,hg,hgg,h1,h2,h3,h4⟩
 ·subst h0;omega
 ·obtain⟨rfl,rfl,rfl⟩:=Value.slice.inj hv
  have hlt:g < hi:=by have:=(Array.getElem?_eq_some_iff.1 hgg).1;omega
  refine⟨rfl,g,rfl,h1,⟨hg,hlt,cur,e,hgg,he⟩,?_⟩
  obtain⟨cs',e1,e2⟩:=h.shape g cur e hgg
  have hi2:i < cs'.size:=by rw[e1,h3];exact Nat.lt_of_lt_of_le hi' (Nat.mul_le_mul_right _ h1)
  exact⟨cs'[i],by simp[World.cell?,e2,hi2],by simp[World.frozen?,e2]⟩
theorem Abi {size:Nat}:∀ (css:List (List Value)),(∀ c ∈ css,c.length=size)→∀ (i:Nat) (hi:i < css.length) (j:Nat),j < size→css.flatten[i*size+j]?=css[i][j]?
 | [],_,i,hi,_,_=>by simp at hi
 | c :: t,hl,i,hi,j,hj=>by
  have hc:=hl c (by simp)
  rw[List.flatten_cons]
  cases i with
  | zero=>rw[Nat.zero_mul,Nat.zero_add,List.getElem?_append_left (by omega)];rfl
  | succ i =>
   rw[List.getElem?_append_right (by rw[hc,Nat.succ_mul];omega),hc,show(i+1)*size+j - size=i*size+j by rw[Nat.succ_mul];omega]
   exact Abi t (fun c hc=>hl c (by simp[hc])) i (by simpa using hi) j hj
theorem Ait {α:Type} {P:Nat→World→List Value→α→Prop} {e:TypeId} {size B n cap:Nat} {w:World} {a:Option Addr} {l:List α} (h:RowOf P e size B w (.slice a n cap) l) {k:Nat} (hk:k < l.length) :
 n=l.length∧∃ g cs,a=some ⟨g,0,none⟩∧n≤cap∧w.heap[g]?=some (.cells cs e (0,0))∧∃ c,P B w c l[k]∧∀ j u,c[j]?=some u→w.cell? ⟨g,k*size+j,none⟩=some u:=by
 obtain⟨css,h1,h2,h3⟩:=h
 have hlen:∀ c ∈ css,c.length=size:=fun c hc=>by
  obtain⟨i,hi,rfl⟩:=List.getElem_of_mem hc
  exact(h3 i _ _ (B7 hi) (B7 (by omega))).1
 rcases Tv h2 with ⟨_,h0⟩ | ⟨g,cap',ex,hv,hg,hh,hc,hm,_⟩
 ·omega
 ·obtain⟨rfl,rfl,rfl⟩:=Value.slice.inj hv
  refine⟨rfl,g,_,rfl,hc,hh,css[k]'(by omega),(h3 k _ _ (B7 (by omega)) (B7 hk)).2,fun j u hj=>?_⟩
  have hjl:j < size:=by rw[← hlen _ (List.getElem_mem (show k < css.length by omega))];exact(List.getElem?_eq_some_iff.1 hj).1
  have h5:=(Abi css hlen k (by omega) j hjl).trans hj
  have h6:=(List.getElem?_eq_some_iff.1 h5).1
  simp only[World.cell?,hh]
  have h7:(css.flatten++ex)[k*size+j]?=some u:=by rw[List.getElem?_append_left h6];exact h5
  simpa using h7
theorem Aos {B n cap:Nat} {w:World} {a:Option Addr} {l:List Ag} (h:ThrsAt B w (.slice a n cap) l) {k:Nat} (hk:k < l.length) :
 n=l.length∧∃ g cs,a=some ⟨g,0,none⟩∧n≤cap∧w.heap[g]?=some (.cells cs 35 (0,0))∧∃ ar cr ab cb,w.cell? ⟨g,k*4+1,none⟩=some (.slice ar l[k].Ay.length cr)∧w.cell? ⟨g,k*4+2,none⟩=some (.slice ab l[k].Aq.length cb)∧Rn B w (.slice ar l[k].Ay.length cr) l[k].Ay∧BodyAt B w (.slice ab l[k].Aq.length cb) l[k].Aq:=by
 obtain⟨e,g,cs,e1,e2,e3,c,⟨vr,vb,rfl,h1,h2⟩,h3⟩:=Ait h hk
 obtain⟨ar,cr,rfl⟩:=Dw h1
 obtain⟨ab,cb,rfl⟩:∃ a c,vb=.slice a l[k].Aq.length c:=by obtain⟨_,_,h,_⟩:=h2;exact Dw h
 exact⟨e,g,cs,e1,e2,e3,ar,cr,ab,cb,h3 1 _ rfl,h3 2 _ rfl,h1,h2⟩
theorem Aqb {B n cap:Nat} {w:World} {a:Option Addr} {l:List Ai} (h:ClsAt B w (.slice a n cap) l) {k:Nat} (hk:k < l.length) :
 n=l.length∧∃ g cs,a=some ⟨g,0,none⟩∧n≤cap∧w.heap[g]?=some (.cells cs 40 (0,0))∧∃ ae ce,w.cell? ⟨g,k*3+1,none⟩=some (.slice ae l[k].Bh.length ce)∧NodesAt B w (.slice ae l[k].Bh.length ce) l[k].Bh:=by
 obtain⟨e,g,cs,e1,e2,e3,c,⟨ve,rfl,h1⟩,h3⟩:=Ait h hk
 obtain⟨ae,ce,rfl⟩:=Dw h1
 exact⟨e,g,cs,e1,e2,e3,ae,ce,h3 1 _ rfl,h1⟩
theorem Afg:¬ W7 35:=by unfold W7;decide
theorem Aig:¬ W7 40:=by unfold W7;decide
theorem A9n:¬ W7 26:=by unfold W7;decide
structure Aof (n:Nat) (p:Ar) (r:Bool) (t:List UInt8):Prop where
 small:Ak8 p
 right:J8 n p=some r
 rright:Jg n p=some r
 bare:Lc n p=some (hP p)
 rbare:Lk n p=some (hP p)
 same:Lw n (hP p) (hP p) true=some true
 shown:Kb n p=some t
 rshown:Ko n p=some t
def A72 (b:Bool) (w:World) (e:Ending) (w':World):Prop:=e=.returned (.bool b)∧Below w.heap.size w w'
theorem Ao4 {n:Nat} {p:Ar} {b:Bool} (h:Mf n p=some b) {w:World} {v:Value} (hp:PRep w v p):Calls Tryz.prog 4 #[v] w (A72 b w):=Vh (A84 h) (.cons _ _ _ _ _ _ hp (.nil _ _))
theorem Ant {n:Nat} {p:Ar} {b:Bool} (h:J8 n p=some b) {w:World} {v:Value} (hp:PRep w v p):Calls Tryz.prog 7 #[v] w (A72 b w):=Vh (Vv h) (.cons _ _ _ _ _ _ hp (.nil _ _))
theorem Akf {n:Nat} {p:Ar} {b:Bool} (h:Jg n p=some b) {w:World} {v:Value} (hp:PRep w v p):Calls Tryz.prog 8 #[v] w (A72 b w):=Vh (Ze h) (.cons _ _ _ _ _ _ hp (.nil _ _))
theorem Aje {n:Nat} {p q:Ar} {b:Bool} (h:Lw n p q true=some b) {w:World} {u v:Value} (hp:PRep w u p) (hq:PRep w v q):Calls Tryz.prog 9 #[u,v,.bool true] w (A72 b w):=Vh (Aan h) (.cons _ _ _ _ _ _ hp (.cons _ _ _ _ _ _ hq (.cons _ _ _ _ _ _ (.bool _ _ _) (.nil _ _))))
theorem Aft {n:Nat} {b:Bool} (h:Pb n=some b) {w:World}:Calls Tryz.prog 5 #[] w (A72 b w):=Vh (A7t h) (.nil _ _)
theorem Aoi {n:Nat} {p q:Ar} (h:Lc n p=some q) {w:World} {v:Value} (hp:PRep w v p):Calls Tryz.prog 6 #[v] w fun e w'=>∃ u,e=.returned u∧Below w.heap.size w w'∧PRep w' u q:=A9o (A2s h) (.cons _ _ _ _ _ _ hp (.nil _ _))
theorem Agb {n:Nat} {p q:Ar} (h:Lk n p=some q) {w:World} {v:Value} (hp:PRep w v p):Calls Tryz.prog 10 #[v] w fun e w'=>∃ u,e=.returned u∧Below w.heap.size w w'∧PRep w' u q:=A9o (Aah h) (.cons _ _ _ _ _ _ hp (.nil _ _))
theorem Aok {n:Nat} {p:Ar} {t:List UInt8} (h:Kb n p=some t) {w:World} {v:Value} (hp:PRep w v p):Calls Tryz.prog 11 #[v] w fun e w'=>e=.returned (.string (bs t))∧Below w.heap.size w w':=Abx (A27 h) (.cons _ _ _ _ _ _ hp (.nil _ _))
theorem Anu {n:Nat} {p:Ar} {t:List UInt8} (h:Ko n p=some t) {w:World} {v:Value} (hp:PRep w v p):Calls Tryz.prog 12 #[v] w fun e w'=>e=.returned (.string (bs t))∧Below w.heap.size w w':=Abx (Aax h) (.cons _ _ _ _ _ _ hp (.nil _ _))
structure St8 (P B:Nat) (pc bc:List Value) (w:World):Prop where
 p:Fresh w P (.cells pc.toArray 26)
 b:Fresh w B (.cells bc.toArray 26)
theorem St8.later {P B:Nat} {pc bc:List Value} {w w':World} (h:St8 P B pc bc w) (hb:Below w.heap.size w w'):St8 P B pc bc w':=⟨h.p.later hb,h.b.later hb⟩
theorem St8.cells {P B:Nat} {p0 p1 p2 p3 b0 b1 b2 b3:Value} {w:World} (h:St8 P B [p0,p1,p2,p3] [b0,b1,b2,b3] w):w.cell? ⟨P,0,none⟩=some p0∧w.cell? ⟨P,1,none⟩=some p1∧w.cell? ⟨P,2,none⟩=some p2∧w.cell? ⟨P,3,none⟩=some p3∧w.cell? ⟨B,0,none⟩=some b0∧w.cell? ⟨B,1,none⟩=some b1∧w.cell? ⟨B,2,none⟩=some b2∧w.cell? ⟨B,3,none⟩=some b3 :=
 ⟨(h.p.open (k:=0) rfl).1,(h.p.open (k:=1) rfl).1,(h.p.open (k:=2) rfl).1,(h.p.open (k:=3) rfl).1,(h.b.open (k:=0) rfl).1,(h.b.open (k:=1) rfl).1,(h.b.open (k:=2) rfl).1,(h.b.open (k:=3) rfl).1⟩
set_option maxRecDepth 100000 in
set_option maxHeartbeats 8000000 in
theorem A8o (W:World) (cs:List Value) (p:Ar) (hrel:Pi.rel W cs p) (n:Nat) (b:Bool) (hl:Mf n p=some b) (hf:b=true→∃ r t,Aof n p r t) (hk:Pb n=some true):Calls Tryz.prog 3 #[.agg cs.toArray] W (Agz W):=by
 have hrep:=Adq hrel
 obtain⟨hwp,a1,c1,a2,c2,a3,c3,rfl,s1,s2,s3⟩:=Am1 hrel
 clear hrel
 have S1:=Lib.hid s1;have S2:=Lib.hid s2;have S3:=Lib.hid s3;have HRP:=Lib.hid hrep;have HWP:=Lib.hid hwp
 have HLI:=Lib.hid hl;have HF:=Lib.hid hf;have HK:=Lib.hid hk
 clear s1 s2 s3 hrep hwp hl hf hk
 obtain⟨n1,hn1⟩:∃ n,p.Ao.length=n:=⟨_,rfl⟩
 obtain⟨n2,hn2⟩:∃ n,p.A7.length=n:=⟨_,rfl⟩
 obtain⟨n3,hn3⟩:∃ n,p.Ac.length=n:=⟨_,rfl⟩
 obtain⟨m,hm⟩:∃ m,p.B2=m:=⟨_,rfl⟩
 rw[hn1,hn2,hn3,hm] at HRP
 rw[hn1] at S1;rw[hn2] at S2;rw[hn3] at S3
 rw[hn1,hn2,hn3,hm]
 have N1:=Lib.hid hn1;have N2:=Lib.hid hn2;have N3:=Lib.hid hn3;have NM:=Lib.hid hm
 clear hn1 hn2 hn3 hm
 obtain⟨W0,hW0⟩:∃ w,w=W.alloc (.cells #[.int .i64 m,.slice a1 n1 c1,.slice a2 n2 c2,.slice a3 n3 c3] 26):=⟨_,rfl⟩
 have hb0:Below W.heap.size W W0:=hW0 ▸ (Below.refl _ _).alloc (Nat.le_refl _) _
 have hsz:W0.heap.size=W.heap.size+1:=by rw[hW0];exact World.size_alloc _ _
 have fp:Fresh W0 W.heap.size (.cells #[.int .i64 m,.slice a1 n1 c1,.slice a2 n2 c2,.slice a3 n3 c3] 26):=by rw[hW0];exact Fresh.new W _
 have HSZ:=Lib.hid hsz;have FP:=Lib.hid fp;have H0:=Lib.hid hb0
 go_enter Tryz.func3,Tryz.ntmps3
 go_upto_region 1 with (fail)
 rw[show W.alloc (.cells { toList:=[.int .i64 m,.slice a1 n1 c1,.slice a2 n2 c2,.slice a3 n3 c3] } 26 (0,0))=W0 from hW0.symm]
 obtain⟨z0,z1,z2,z3⟩:W0.cell? ⟨W.heap.size,0,none⟩=some (.int .i64 m)∧W0.cell? ⟨W.heap.size,1,none⟩=some (.slice a1 n1 c1)∧W0.cell? ⟨W.heap.size,2,none⟩=some (.slice a2 n2 c2)∧W0.cell? ⟨W.heap.size,3,none⟩=some (.slice a3 n3 c3):=⟨(fp.open (k:=0) rfl).1,(fp.open (k:=1) rfl).1,(fp.open (k:=2) rfl).1,(fp.open (k:=3) rfl).1⟩
 clear hW0 fp hb0 hsz
 go_wp2_with fail
 refine(Ao4 HLI.out (HRP.out.later H0.out)).mono ?_
 rintro e w1 ⟨rfl,hb1⟩
 have hb1':=H0.out.trans (hb1.mono H0.out.size)
 have fp1:=FP.out.later hb1
 have HB1:=Lib.hid hb1';have FP1:=Lib.hid fp1
 have HZ1:=Lib.hid (show W.heap.size+1≤w1.heap.size by have:=HSZ.out;have:=hb1.size;omega)
 clear z0 z1 z2 z3 hb1 hb1' fp1 FP H0 HSZ
 clear W0
 cases b with
 | false =>
  go_wp2_with fail
  refine(Aft HK.out).mono ?_
  rintro e w2 ⟨rfl,hb2⟩
  have HB2:=Lib.hid (HB1.out.trans (hb2.mono HB1.out.size))
  clear hb2
  go_wp2_with fail
  go_ret
  exact⟨rfl,HB2.out⟩
 | true =>
 obtain⟨r,t,hF⟩:=HF.out rfl
 have HFF:=Lib.hid hF
 clear HF hF HLI
 obtain⟨z0,z1,z2,z3⟩:w1.cell? ⟨W.heap.size,0,none⟩=some (.int .i64 m)∧w1.cell? ⟨W.heap.size,1,none⟩=some (.slice a1 n1 c1)∧w1.cell? ⟨W.heap.size,2,none⟩=some (.slice a2 n2 c2)∧w1.cell? ⟨W.heap.size,3,none⟩=some (.slice a3 n3 c3):=⟨(FP1.out.open (k:=0) rfl).1,(FP1.out.open (k:=1) rfl).1,(FP1.out.open (k:=2) rfl).1,(FP1.out.open (k:=3) rfl).1⟩
 go_wp2_with fail
 have hbare:=Al7 w1 a1 a2 a3 c1 c2 c3 p (by rw[N1.out];exact S1.out.mono Alr HB1.out) (by rw[N2.out];exact S2.out.mono Aeo HB1.out) (by rw[N3.out];exact S3.out.mono Ah7 HB1.out) HFF.out.small
 rw[N1.out,N2.out,N3.out,NM.out] at hbare
 refine hbare.mono ?_
 clear hbare
 rintro e w2 ⟨vl,vt,vc,rfl,hb2,hv,ht,hc⟩
 obtain⟨l1,e1,rfl⟩:=Dw (show w2.ownsRow w1.heap.size 44 3 vl n1 _ by have:=hv;unfold Li at this;rw[B3,N1.out] at this;exact this)
 obtain⟨l2,e2,rfl⟩:∃ a c,vt=.slice a n2 c:=by obtain⟨_,_,h,_⟩:=ht;rw[B3,N2.out] at h;exact Dw h
 obtain⟨l3,e3,rfl⟩:∃ a c,vc=.slice a n3 c:=by obtain⟨_,_,h,_⟩:=hc;rw[B3,N3.out] at h;exact Dw h
 obtain⟨w3,hw3⟩:∃ w,w=w2.alloc (.cells #[.int .i64 m,.slice l1 n1 e1,.slice l2 n2 e2,.slice l3 n3 e3] 26):=⟨_,rfl⟩
 have hb3:Below w2.heap.size w2 w3:=hw3 ▸ (Below.refl _ _).alloc (Nat.le_refl _) _
 have fb3:Fresh w3 w2.heap.size (.cells #[.int .i64 m,.slice l1 n1 e1,.slice l2 n2 e2,.slice l3 n3 e3] 26):=hw3 ▸ Fresh.new _ _
 have fp3:=(FP1.out.later hb2).later hb3
 have hz1:=HZ1.out
 have hbW:=HB1.out.trans ((hb2.mono (by omega)).trans (hb3.mono (by have:=hb2.size;omega)))
 have hle:W.heap.size≤w1.heap.size:=by omega
 have hv3:Li W.heap.size w3 _ (p.Ao.map hV):=Qw (D0 hv hb3) hle
 have ht3:=(ht.below hb3).base hle
 have hc3:=(hc.below hb3).base hle
 have hz2:=hb2.size
 obtain⟨B,hB⟩:∃ B,w2.heap.size=B:=⟨_,rfl⟩
 rw[hB] at fb3
 have hBs:W.heap.size < B:=by omega
 go_upto_region 4 with (fail)
 rw[show w2.alloc (.cells { toList:=[.int .i64 m,.slice l1 n1 e1,.slice l2 n2 e2,.slice l3 n3 e3] } 26 (0,0))=w3 from hw3.symm]
 have hrb:=Alg HWP.out hv3 ht3 hc3
 rw[NM.out] at hrb
 have HV:=Lib.hid hv3;have HT:=Lib.hid ht3;have HC:=Lib.hid hc3;have HRB:=Lib.hid hrb;have FP:=Lib.hid fp3;have FB:=Lib.hid fb3;have HBW:=Lib.hid hbW;have HBS:=Lib.hid hBs
 have hSS:St8 W.heap.size B [.int .i64 m,.slice a1 n1 c1,.slice a2 n2 c2,.slice a3 n3 c3] [.int .i64 m,.slice l1 n1 e1,.slice l2 n2 e2,.slice l3 n3 e3] w3:=⟨fp3,fb3⟩
 clear hw3 hb3 fb3 fp3 hbW hle hv3 ht3 hc3 hz2 hz1 hv ht hc hb2 hB hrb HB1 HZ1 FP1 z0 z1 z2 z3 hBs
 refine Py 18 [(0,true),(2,true),(1,false),(3,false),(4,true),(5,true),(6,true),(7,true),(8,false),(9,false),(10,true),(11,true),(12,true),(14,true),(13,false),(15,false),(16,true),(17,true)] (St8 W.heap.size B [.int .i64 m,.slice a1 n1 c1,.slice a2 n2 c2,.slice a3 n3 c3] [.int .i64 m,.slice l1 n1 e1,.slice l2 n2 e2,.slice l3 n3 e3]) A6m (by decide +kernel) ⟨hSS.p,hSS.b⟩ ?_
 intro w4 hwd hbd
 have hss4:=hSS.later hbd
 have SS4:=Lib.hid hss4;have HBQ4:=Lib.hid hbd
 have HPR:=Lib.hid (HRP.out.later HBW.out)
 have HSZ3:=Lib.hid (show w4.heap.size=w3.heap.size by rw[hwd])
 clear hwd hbd hSS hss4
 refine Cn rfl rfl (.agg #[.int .i64 m,.slice a1 n1 c1,.slice a2 n2 c2,.slice a3 n3 c3]) (fun w' hS=>?_) (fun K hK=>?_)
 ·obtain⟨x0,x1,x2,x3,x4,x5,x6,x7⟩:=hS.cells
  go_simp
 go_simp
 refine hK _ ?_
 clear hK K
 refine Cn rfl rfl (.agg #[.int .i64 m,.slice a1 n1 c1,.slice a2 n2 c2,.slice a3 n3 c3]) (fun w' hS=>?_) (fun K hK=>?_)
 ·obtain⟨x0,x1,x2,x3,x4,x5,x6,x7⟩:=hS.cells
  go_simp
 go_simp
 refine hK _ ?_
 clear hK K
 refine J3 rfl rfl (fun K hK=>?_)
 go_simp
 refine(Ant HFF.out.right (HPR.out.later HBQ4.out)).mono ?_
 rintro e w5 ⟨rfl,hb⟩
 have hss5:=SS4.out.later hb
 refine hK _ _ hss5 ?_
 clear hK K
 have SS5:=Lib.hid hss5;have HBQ5:=Lib.hid (HBQ4.out.trans (hb.mono HBQ4.out.size))
 clear hb hss5
 refine J3 rfl rfl (fun K hK=>?_)
 go_simp
 refine(Akf HFF.out.rright (HPR.out.later HBQ5.out)).mono ?_
 rintro e w6 ⟨rfl,hb⟩
 have hss6:=SS5.out.later hb
 refine hK _ _ hss6 ?_
 clear hK K
 have SS6:=Lib.hid hss6;have HBQ6:=Lib.hid (HBQ5.out.trans (hb.mono HBQ5.out.size))
 clear hb hss6
 refine Cn rfl rfl (.bool true) (fun w' hS=>?_) (fun K hK=>?_)
 ·go_simp
 go_simp
 refine hK _ ?_
 clear hK K
 refine Cn rfl rfl (.bool true) (fun w' hS=>?_) (fun K hK=>?_)
 ·go_simp
 go_simp
 refine hK _ ?_
 clear hK K
 refine Cn rfl rfl (.agg #[.int .i64 m,.slice l1 n1 e1,.slice l2 n2 e2,.slice l3 n3 e3]) (fun w' hS=>?_) (fun K hK=>?_)
 ·obtain⟨x0,x1,x2,x3,x4,x5,x6,x7⟩:=hS.cells
  go_simp
 go_simp
 refine hK _ ?_
 clear hK K
 refine Cn rfl rfl (.agg #[.int .i64 m,.slice a1 n1 c1,.slice a2 n2 c2,.slice a3 n3 c3]) (fun w' hS=>?_) (fun K hK=>?_)
 ·obtain⟨x0,x1,x2,x3,x4,x5,x6,x7⟩:=hS.cells
  go_simp
 go_simp
 refine hK _ ?_
 clear hK K
 refine J3 rfl rfl (fun K hK=>?_)
 go_simp
 refine(Agb HFF.out.rbare (HPR.out.later HBQ6.out)).mono ?_
 rintro e w7 ⟨u,rfl,hb,hu⟩
 have hss7:=SS6.out.later hb
 refine hK _ _ hss7 ?_
 clear hK K
 have SS7:=Lib.hid hss7;have HBQ7:=Lib.hid (HBQ6.out.trans (hb.mono HBQ6.out.size))
 clear hb hss7
 refine J3 rfl rfl (fun K hK=>?_)
 go_simp
 refine(Aje HFF.out.same (HRB.out.later HBQ7.out) hu).mono ?_
 rintro e w8 ⟨rfl,hb⟩
 have hss8:=SS7.out.later hb
 refine hK _ _ hss8 ?_
 clear hK K
 have SS8:=Lib.hid hss8;have HBQ8:=Lib.hid (HBQ7.out.trans (hb.mono HBQ7.out.size))
 clear hb hss8
 refine Cn rfl rfl (.bool true) (fun w' hS=>?_) (fun K hK=>?_)
 ·go_simp
 go_simp
 refine hK _ ?_
 clear hK K
 refine Cn rfl rfl (.bool true) (fun w' hS=>?_) (fun K hK=>?_)
 ·go_simp
 go_simp
 refine hK _ ?_
 clear hK K
 refine Cn rfl rfl (.agg #[.int .i64 m,.slice a1 n1 c1,.slice a2 n2 c2,.slice a3 n3 c3]) (fun w' hS=>?_) (fun K hK=>?_)
 ·obtain⟨x0,x1,x2,x3,x4,x5,x6,x7⟩:=hS.cells
  go_simp
 go_simp
 refine hK _ ?_
 clear hK K
 refine Cn rfl rfl (.agg #[.int .i64 m,.slice a1 n1 c1,.slice a2 n2 c2,.slice a3 n3 c3]) (fun w' hS=>?_) (fun K hK=>?_)
 ·obtain⟨x0,x1,x2,x3,x4,x5,x6,x7⟩:=hS.cells
  go_simp
 go_simp
 refine hK _ ?_
 clear hK K
 refine J3 rfl rfl (fun K hK=>?_)
 go_simp
 refine(Aok HFF.out.shown (HPR.out.later HBQ8.out)).mono ?_
 rintro e w9 ⟨rfl,hb⟩
 have hss9:=SS8.out.later hb
 refine hK _ _ hss9 ?_
 clear hK K
 have SS9:=Lib.hid hss9;have HBQ9:=Lib.hid (HBQ8.out.trans (hb.mono HBQ8.out.size))
 clear hb hss9
 refine J3 rfl rfl (fun K hK=>?_)
 go_simp
 refine(Anu HFF.out.rshown (HPR.out.later HBQ9.out)).mono ?_
 rintro e w10 ⟨rfl,hb⟩
 have hss10:=SS9.out.later hb
 refine hK _ _ hss10 ?_
 clear hK K
 have SS10:=Lib.hid hss10;have HBQ10:=Lib.hid (HBQ9.out.trans (hb.mono HBQ9.out.size))
 clear hb hss10
 refine Cn rfl rfl (.bool true) (fun w' hS=>?_) (fun K hK=>?_)
 ·go_simp
 go_simp
 refine hK _ ?_
 clear hK K
 refine Cn rfl rfl (.bool true) (fun w' hS=>?_) (fun K hK=>?_)
 ·go_simp
 go_simp
 refine hK _ ?_
 clear hK K
 unfold Kx
 simp only[List.drop_succ_cons,List.drop_zero]
 have hV10:Li W.heap.size w10 _ (p.Ao.map hV):=D0 HV.out HBQ10.out
 have HT10:=Lib.hid (HT.out.below HBQ10.out);have HC10:=Lib.hid (HC.out.below HBQ10.out)
 have HB10:=Lib.hid (HBW.out.trans (HBQ10.out.mono HBW.out.size))
 have NB:=Lib.hid (A0e (lo:=W.heap.size) (hi:=w10.heap.size) SS10.out.b A9n)
 clear hV10 HT HC HBQ4 HBQ5 HBQ6 HBQ7 HBQ8 HBQ9 SS4 SS5 SS6 SS7 SS8 SS9 HPR HRB HV FP FB HSZ3 hu
 clear HBQ10
 have hn2:n2≤4000:=by have:=HFF.out.small.threads;rw[N2.out] at this;exact this
 have hn3:n3≤4000:=by have:=HFF.out.small.claims;rw[N3.out] at this;exact this
 go_wp2_with fail
 go_loopw [5] (fun i wr=>∃ k:Nat,i=.int .i64 k∧k≤n2∧Spoilt W.heap.size w10.heap.size w10 wr) (fun i _=>n2 - (intOf i).toNat)
 case atStart=>exact⟨0,rfl,by omega,Spoilt.refl _ _ _⟩
 case round =>
  obtain⟨k,rfl,hk,hS⟩:=hrel
  have HS1:=Lib.hid hS
  have y2:=hS.cell NB.out SS10.out.cells.2.2.2.2.2.2.1
  clear hS
  by_cases hlt:k < n2
  ·have hkl:k < (p.A7.map hT).length:=by rw[B3];have:=N2.out;omega
   obtain⟨-,g,gcs,rfl,hge,hgh,ar,cr,ab,cb,q1,q2,hrg,hbd⟩:=Aos HT10.out hkl
   have hsm:((p.A7.map hT)[k]).Ay.length≤4000∧((p.A7.map hT)[k]).Aq.length≤4000:=by
    rw[List.getElem_map]
    have:=HFF.out.small.thr _ (List.getElem_mem (show k < p.A7.length by have:=N2.out;omega))
    exact⟨this.1,Nat.le_trans (Nat.le_of_eq (List.length_map hS)) this.2.1⟩
   obtain⟨T,hT'⟩:∃ T,(p.A7.map hT)[k]=T:=⟨_,rfl⟩
   rw[hT'] at q1 q2 hrg hbd hsm
   clear hT'
   obtain⟨nr,hnr⟩:∃ n,T.Ay.length=n:=⟨_,rfl⟩
   obtain⟨nb,hnb⟩:∃ n,T.Aq.length=n:=⟨_,rfl⟩
   rw[hnr] at q1 hrg hsm;rw[hnb] at q2 hbd hsm
   have NT:=Lib.hid (A0e (lo:=W.heap.size) (hi:=w10.heap.size) hgh Afg)
   have HRG:=Lib.hid hrg;have HBD:=Lib.hid hbd;have Q1:=Lib.hid q1;have Q2:=Lib.hid q2;have NR:=Lib.hid hnr;have NBD:=Lib.hid hnb
   obtain⟨hs1,hs2⟩:=hsm
   clear hrg hbd q1 q2 hgh hnr hnb
   go_wp2_with fail
   go_loopw [6] (fun i wr=>∃ j:Nat,i=.int .i64 j∧j≤nb∧Spoilt W.heap.size w10.heap.size w10 wr) (fun i _=>nb - (intOf i).toNat)
   case atStart=>exact⟨0,rfl,by omega,HS1.out⟩
   case round =>
    obtain⟨j,rfl,hj,hS⟩:=hrel
    have HS2:=Lib.hid hS
    clear y2
    have y2:=hS.cell NB.out SS10.out.cells.2.2.2.2.2.2.1
    have y3:=hS.cell NT.out Q2.out
    clear hS
    by_cases hjl:j < nb
    ·obtain⟨css,e1,e2,e3⟩:=HBD.out
     rw[NBD.out] at e2
     obtain⟨-,g',rfl,hge',hleaf,old,l1',l2'⟩:=HS2.out.live e2 (i:=j*9) (by omega) (Nat.le_refl _) (.inr (.inr rfl))
     have HLF:=Lib.hid hleaf
     clear hleaf e1 e2 e3
     go_wp2_with fail
     go_round
     case rel=>exact⟨j+1,by go_num,by omega,HS2.out.set HLF.out _⟩
     case measure=>simp[intOf];omega
    ·go_wp2_with fail
     clear y2 y3 hjl
     go_loopw [7] (fun i wr=>∃ j:Nat,i=.int .i64 j∧j≤nr∧Spoilt W.heap.size w10.heap.size w10 wr) (fun i _=>nr - (intOf i).toNat)
     case atStart=>exact⟨0,rfl,by omega,HS2.out⟩
     case round =>
      obtain⟨j,rfl,hj,hS⟩:=hrel
      have HS3:=Lib.hid hS
      have y2:=hS.cell NB.out SS10.out.cells.2.2.2.2.2.2.1
      have y3:=hS.cell NT.out Q1.out
      clear hS
      by_cases hjl:j < nr
      ·have hrg:=HRG.out
       unfold Rn at hrg
       rw[NR.out] at hrg
       obtain⟨-,g',rfl,hge',hleaf,old,l1',l2'⟩:=HS3.out.live hrg (i:=j*1) (by omega) (Nat.le_refl _) (.inl rfl)
       rw[Nat.mul_one] at l1' l2'
       have HLF:=Lib.hid hleaf
       clear hleaf hrg
       go_wp2_with fail
       go_round
       case rel=>exact⟨j+1,by go_num,by omega,HS3.out.set HLF.out _⟩
       case measure=>simp[intOf];omega
      ·go_wp2_with fail
       go_round
       case rel=>exact⟨k+1,by go_num,by omega,HS3.out⟩
       case measure=>simp[intOf];omega
  ·go_wp2_with fail
   clear y2 hlt
   go_loopw [8] (fun i wr=>∃ k:Nat,i=.int .i64 k∧k≤n3∧Spoilt W.heap.size w10.heap.size w10 wr) (fun i _=>n3 - (intOf i).toNat)
   case atStart=>exact⟨0,rfl,by omega,HS1.out⟩
   case round =>
    obtain⟨k,rfl,hk,hS⟩:=hrel
    have HS4:=Lib.hid hS
    have y2:=hS.cell NB.out SS10.out.cells.2.2.2.2.2.2.2
    clear hS
    by_cases hlt:k < n3
    ·have hkl:k < (p.Ac.map hC).length:=by rw[B3];have:=N3.out;omega
     obtain⟨-,g,gcs,rfl,hge,hgh,ae,ce,q1,hnd⟩:=Aqb HC10.out hkl
     have hsm:((p.Ac.map hC)[k]).Bh.length≤4000:=by
      rw[List.getElem_map]
      have:=HFF.out.small.cl _ (List.getElem_mem (show k < p.Ac.length by have:=N3.out;omega))
      exact Nat.le_trans (Nat.le_of_eq (List.length_map hN)) this
     obtain⟨T,hT'⟩:∃ T,(p.Ac.map hC)[k]=T:=⟨_,rfl⟩
     rw[hT'] at q1 hnd hsm
     clear hT'
     obtain⟨ne,hne⟩:∃ n,T.Bh.length=n:=⟨_,rfl⟩
     rw[hne] at q1 hnd hsm
     have NT:=Lib.hid (A0e (lo:=W.heap.size) (hi:=w10.heap.size) hgh Aig)
     have HND:=Lib.hid hnd;have Q1:=Lib.hid q1;have NE:=Lib.hid hne
     clear hnd q1 hgh hne
     go_wp2_with fail
     go_loopw [9] (fun i wr=>∃ j:Nat,i=.int .i64 j∧j≤ne∧Spoilt W.heap.size w10.heap.size w10 wr) (fun i _=>ne - (intOf i).toNat)
     case atStart=>exact⟨0,rfl,by omega,HS4.out⟩
     case round =>
      obtain⟨j,rfl,hj,hS⟩:=hrel
      have HS5:=Lib.hid hS
      clear y2
      have y2:=hS.cell NB.out SS10.out.cells.2.2.2.2.2.2.2
      have y3:=hS.cell NT.out Q1.out
      clear hS
      by_cases hjl:j < ne
      ·have hnd:=HND.out
       unfold NodesAt at hnd
       rw[NE.out] at hnd
       obtain⟨-,g',rfl,hge',hleaf,old,l1',l2'⟩:=HS5.out.live hnd (i:=j*5) (by omega) (Nat.le_refl _) (.inr (.inl rfl))
       have HLF:=Lib.hid hleaf
       clear hleaf hnd
       go_wp2_with fail
       go_round
       case rel=>exact⟨j+1,by go_num,by omega,HS5.out.set HLF.out _⟩
       case measure=>simp[intOf];omega
      ·go_wp2_with fail
       go_round
       case rel=>exact⟨k+1,by go_num,by omega,HS5.out⟩
       case measure=>simp[intOf];omega
    ·go_upto_region 23 with (fail)
     clear y2 hlt
     have fp11:Fresh wr W.heap.size (.cells #[.int .i64 m,.slice a1 n1 c1,.slice a2 n2 c2,.slice a3 n3 c3] 26):=(HS4.out.heap _ (A0e SS10.out.p A9n)).trans SS10.out.p
     have hb11:=HB10.out.trans HS4.out.below
     have HB11:=Lib.hid hb11
     clear hb11 HS4 SS10 HT10 HC10 HB10 NB hn2 hn3
     refine Py 11 [(0,true),(1,true),(2,true),(4,true),(3,false),(5,false),(6,false),(7,true),(8,true),(9,false),(10,true)] (fun w'=>Fresh w' W.heap.size (.cells #[.int .i64 m,.slice a1 n1 c1,.slice a2 n2 c2,.slice a3 n3 c3] 26)) A6m (by decide +kernel) fp11 ?_
     intro w12 hwd hbd
     have fp12:=fp11.later hbd
     have FP12:=Lib.hid fp12
     have HQ12:=Lib.hid (HB11.out.trans (hbd.mono HB11.out.size))
     clear hwd hbd fp11 fp12
     refine Cn rfl rfl (.bool true) (fun w' hS=>?_) (fun K hK=>?_)
     ·go_simp
     go_simp
     refine hK _ ?_
     clear hK K
     refine Cn rfl rfl (.bool true) (fun w' hS=>?_) (fun K hK=>?_)
     ·go_simp
     go_simp
     refine hK _ ?_
     clear hK K
     refine Cn rfl rfl (.agg #[.int .i64 m,.slice a1 n1 c1,.slice a2 n2 c2,.slice a3 n3 c3]) (fun w' hS=>?_) (fun K hK=>?_)
     ·have x0:=(hS.open (k:=0) rfl).1;have x1:=(hS.open (k:=1) rfl).1;have x2:=(hS.open (k:=2) rfl).1;have x3:=(hS.open (k:=3) rfl).1
      go_simp
     go_simp
     refine hK _ ?_
     clear hK K
     refine Cn rfl rfl (.agg #[.int .i64 m,.slice a1 n1 c1,.slice a2 n2 c2,.slice a3 n3 c3]) (fun w' hS=>?_) (fun K hK=>?_)
     ·have x0:=(hS.open (k:=0) rfl).1;have x1:=(hS.open (k:=1) rfl).1;have x2:=(hS.open (k:=2) rfl).1;have x3:=(hS.open (k:=3) rfl).1
      go_simp
     go_simp
     refine hK _ ?_
     clear hK K
     refine J3 rfl rfl (fun K hK=>?_)
     go_simp
     refine(Aoi HFF.out.bare (HRP.out.later HQ12.out)).mono ?_
     rintro e w13 ⟨u1,rfl,hb,hu1⟩
     have fp13:=FP12.out.later hb
     refine hK _ _ fp13 ?_
     clear hK K
     have FP13:=Lib.hid fp13;have HQ13:=Lib.hid (HQ12.out.trans (hb.mono HQ12.out.size));have HH13:=Lib.hid hb
     clear hb fp13
     refine J3 rfl rfl (fun K hK=>?_)
     go_simp
     refine(Agb HFF.out.rbare (HRP.out.later HQ13.out)).mono ?_
     rintro e w14 ⟨u2,rfl,hb,hu2⟩
     have fp14:=FP13.out.later hb
     refine hK _ _ fp14 ?_
     clear hK K
     have FP14:=Lib.hid fp14;have HQ14:=Lib.hid (HQ13.out.trans (hb.mono HQ13.out.size));have HH14:=Lib.hid hb
     clear hb fp14
     refine J3 rfl rfl (fun K hK=>?_)
     go_simp
     refine(Aje HFF.out.same (hu1.later HH14.out) hu2).mono ?_
     rintro e w15 ⟨rfl,hb⟩
     have fp15:=FP14.out.later hb
     refine hK _ _ fp15 ?_
     clear hK K
     have FP15:=Lib.hid fp15;have HQ15:=Lib.hid (HQ14.out.trans (hb.mono HQ14.out.size));have HH15:=Lib.hid hb
     clear hb fp15
     refine Cn rfl rfl (.bool true) (fun w' hS=>?_) (fun K hK=>?_)
     ·go_simp
     go_simp
     refine hK _ ?_
     clear hK K
     refine Cn rfl rfl (.bool true) (fun w' hS=>?_) (fun K hK=>?_)
     ·go_simp
     go_simp
     refine hK _ ?_
     clear hK K
     refine J3 rfl rfl (fun K hK=>?_)
     go_simp
     refine(Aft HK.out).mono ?_
     rintro e w16 ⟨rfl,hb⟩
     have fp16:=FP15.out.later hb
     refine hK _ _ fp16 ?_
     clear hK K
     have FP16:=Lib.hid fp16;have HQ16:=Lib.hid (HQ15.out.trans (hb.mono HQ15.out.size));have HH16:=Lib.hid hb
     clear hb fp16
     refine Cn rfl rfl (.bool true) (fun w' hS=>?_) (fun K hK=>?_)
     ·go_simp
     go_simp
     refine hK _ ?_
     clear hK K
     unfold Kx
     simp only[List.drop_succ_cons,List.drop_zero]
     clear hu1 hu2 FP13 FP14 FP15 FP16 FP12 HH13 HH14 HH15 HH16 HQ12 HQ13 HQ14 HQ15
     go_wp2_with fail
     go_ret
     exact⟨rfl,HQ16.out⟩
end Go.Proofs.YteindmlljlboeaaGreat
end
