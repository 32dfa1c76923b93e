/- Parts of the proofs: what they lean on. Conditions: none. -/
import Derived.OneCell
import Derived.Test.YtpknphnaegfghaaBneS12
section
namespace Go.Proofs.Ytpknphnaegfghaa
open Go.RowKit
set_option linter.unusedVariables false
set_option linter.unusedSimpArgs false
section
variable {P:Program} {ops:Array Oper} {md:Region.Mode} {w0:World} {m:Nat}
def Fresh (w:World) (B:Nat) (o:Obj):Prop:=w.heap[B]?=some o
theorem Fresh.later {w w':World} {B:Nat} {o:Obj} (h:Fresh w B o) (hb:Below w.heap.size w w'):Fresh w' B o :=
 (hb.block B (Array.getElem?_eq_some_iff.1 h).1).trans h
def LYields (P:Program) (ops:Array Oper) (w0:World) (o:Oper) (v:Value) (a:Act):Prop :=
 (Region.wanted o (yielded ops a.tmps)=true∧∀ s:Later w0,o.quietAt P a (fun w''=>Below s.world.heap.size s.world w'') s.world v) ∨
 (Region.wanted o (yielded ops a.tmps)=false∧v=undef)
theorem LYields.of_same {o:Oper} {v:Value} {a a':Act} (hy:LYields P ops w0 o v a) (he:execOp a'.eval o=execOp a.eval o)
 (hw:Region.wanted o (yielded ops a'.tmps)=Region.wanted o (yielded ops a.tmps)):LYields P ops w0 o v a':=by
 unfold LYields at *
 rw[hw]
 rcases hy with ⟨h1,h2⟩ | h
 ·exact .inl ⟨h1,fun s=>by unfold Oper.quietAt at *;rw[he];exact h2 s⟩
 ·exact .inr h
def kOp (P:Program) (ops:Array Oper) (w0:World) (m:Nat) (i:Nat) (b:Option Nat) (K:Option Nat→Act→Prop) (a:Act):Prop :=
 match ops[i]? with
 | none=>K b a
 | some o=>if i=m then ∀ B,w0.heap.size≤B→K (some B) (a.put o.dst (.pointer (some ⟨B,0,none⟩))) else ∃ v,LYields P ops w0 o v a∧K b (a.put o.dst v)
theorem Age {i:Nat} {b:Option Nat} {a:Act} {K K':Option Nat→Act→Prop} (h:∀ b a,K b a→K' b a) (hh:kOp P ops w0 m i b K a):kOp P ops w0 m i b K' a:=by
 unfold kOp at *
 split
 ·rename_i ho;simp only[ho] at hh;exact h _ _ hh
 ·rename_i o ho
  simp only[ho] at hh
  split
  ·rename_i hw;simp only[hw,if_true] at hh;exact fun B hB=>h _ _ (hh B hB)
  ·rename_i hw;simp only[hw] at hh;obtain⟨v,hy,hk⟩:=hh;exact⟨v,hy,h _ _ hk⟩
theorem Ahj {j:Nat} {oi oj:Oper} {v:Value} (hj:ops[j]?=some oj) (hap:oi.apart ops oj=true)
 (hsi:∀ cs b,oi.op≠.select cs b) (hsj:∀ cs b,oj.op≠.select cs b) {b:Option Nat} {K:Option Nat→Act→Prop} {a:Act}
 (hy:LYields P ops w0 oi v a) (h:kOp P ops w0 m j b K (a.put oi.dst v)) :
 kOp P ops w0 m j b (fun b' a'=>LYields P ops w0 oi v a'∧K b' (a'.put oi.dst v)) a:=by
 obtain⟨h1,h2,h3⟩:=Oper.apart_spec hap
 have keep:∀ (a:Act),LYields P ops w0 oi v a→∀ u,LYields P ops w0 oi v (a.put oj.dst u):=fun a hy u =>
  hy.of_same (execOp_put oi hsi a oj.dst u h3) (wanted_put oi a oj.dst u h3)
 unfold kOp at *
 simp only[hj] at *
 split
 ·rename_i hw
  simp only[hw,if_true] at h
  exact fun B hB=>⟨keep a hy _,by rw[← Act.put_comm a v _ h2];exact h B hB⟩
 ·rename_i hw
  simp only[hw] at h
  obtain⟨u,hu,hn⟩:=h
  exact⟨u,hu.of_same (execOp_put oj hsj a oi.dst v h1).symm (wanted_put oj a oi.dst v h1).symm,keep a hy u,by rw[← Act.put_comm a v u h2];exact hn⟩
def A48 (P:Program) (md:Region.Mode) (ops:Array Oper) (w0:World) (m n:Nat) (L:Array Bool→Option Nat→Act→Prop):Nat→Array Bool→Option Nat→Act→Prop
 | 0,listed,b,a=>L listed b a
 | f+1,listed,b,a =>
  Region.ready md ops listed≠[]∧∀ i ∈ Region.ready md ops listed,i < n∧kOp P ops w0 m i b (fun b' a'=>A48 P md ops w0 m n L f (listed.setIfInBounds i true) b' a') a
structure Makes (P:Program) (ops:Array Oper) (m:Nat) (o:Obj):Prop where
 guard:∀ oa,ops[m]?=some oa→∀ a:Act,Region.wanted oa (yielded ops a.tmps)=true
 run:∀ oa,ops[m]?=some oa→∀ (a:Act) (w:World),(execOp a.eval oa).run P w=.ok (.value (.pointer (some ⟨w.heap.size,0,none⟩))) (w.alloc o)
theorem A7l {i:Nat} {b:Option Nat} {o:Obj} {a:Act} {K:Option Nat→Act→Prop} {K':Act→World→Prop} {Q':Exit→Act→World→Prop} {w:World} (hmk:Makes P ops m o) (hw:Below w0.heap.size w0 w) (hb:∀ B,b=some B→Fresh w B o)
 (h:∀ b' a' w',Below w0.heap.size w0 w'→(∀ B,b'=some B→Fresh w' B o)→K b' a'→K' a' w') (hh:kOp P ops w0 m i b K a):wpOp P ops Q' i K' a w:=by
 unfold kOp at hh
 unfold wpOp
 split
 ·rename_i ho;simp only[ho] at hh;exact h _ _ _ hw hb hh
 ·rename_i oi ho
  simp only[ho] at hh
  by_cases him:i=m
  ·subst him
   simp only[if_true] at hh
   rw[if_pos (hmk.guard oi ho a)]
   left
   unfold Oper.wp
   rw[hmk.run oi ho a w]
   simp only[Oper.upon]
   have hz:=hw.size
   exact h _ _ _ (hw.alloc hz _) (fun B hB=>by cases hB;exact heap_alloc_new w o) (hh w.heap.size hz)
  ·simp only[him,if_false] at hh
   obtain⟨v,hy,hk⟩:=hh
   rcases hy with ⟨hwt,hq⟩ | ⟨hwt,rfl⟩
   ·rw[if_pos hwt]
    left
    have h3:=hq ⟨w,hw⟩
    unfold Oper.quietAt at h3
    unfold Oper.wp
    dsimp only at h3
    generalize (execOp a.eval oi).run P w=r at *
    cases r with
    | ok n w' =>
     cases n<;>simp only[Oper.quietUpon] at h3<;>simp only[Oper.upon]
     case value u =>
      obtain⟨e1,e2⟩:=h3
      rw[e1,e2]
      exact h _ _ _ hw hb hk
     case skip =>
      obtain⟨e1,e2⟩:=h3
      rw[e1,← e2]
      exact h _ _ _ hw hb hk
     case enter f args =>
      obtain⟨e1,hc⟩:=h3
      rw[e1]
      exact hc.mono fun e w'' ⟨he,hw''⟩=>by
       subst he
       exact h _ _ _ (hw.trans (hw''.mono hw.size)) (fun B hB=>(hb B hB).later hw'') hk
    | halt x w'=>simp only[Oper.quietUpon] at h3
   ·rw[if_neg (by rw[hwt];exact Bool.false_ne_true)]
    exact h _ _ _ hw hb hk
theorem Sa {n g:Nat} {o:Obj} {L:Array Bool→Option Nat→Act→Prop} {Q':Exit→Act→World→Prop} (hmk:Makes P ops m o)
 (hL:∀ listed b a w,Below w0.heap.size w0 w→(∀ B,b=some B→Fresh w B o)→L listed b a→wpAny P md ops Q' g listed a w) :
 ∀ (f:Nat) (listed:Array Bool) (b:Option Nat) (a:Act) (w:World),Below w0.heap.size w0 w→(∀ B,b=some B→Fresh w B o)→A48 P md ops w0 m n L f listed b a→wpAny P md ops Q' (f+g) listed a w
 | 0,listed,b,a,w,hw,hb,h=>by rw[Nat.zero_add];exact hL _ _ _ _ hw hb h
 | f+1,listed,b,a,w,hw,hb,h=>by
  rw[show f+1+g=(f+g)+1 by omega]
  exact⟨fun h0=>absurd h0 h.1,fun i hi=>A7l hmk hw hb (fun b' a' w' hw' hb' h'=>Sa hmk hL f _ b' a' w' hw' hb' h') (h.2 i hi).2⟩
theorem LYields.kOp {i:Nat} {oi:Oper} {v:Value} {b:Option Nat} {a:Act} (hi:ops[i]?=some oi) (him:i≠m) (hy:LYields P ops w0 oi v a) {K:Option Nat→Act→Prop} (h:K b (a.put oi.dst v)):kOp P ops w0 m i b K a:=by
 unfold Proofs.Ytpknphnaegfghaa.kOp
 simp only[hi,him,if_false]
 exact⟨v,hy,h⟩
theorem A9e {n i:Nat} {oi:Oper} {v:Value} {L:Array Bool→Option Nat→Act→Prop} (hi:ops[i]?=some oi) (him:i≠m) (hsel:∀ (j:Nat) (o:Oper) cs b,ops[j]?=some o→o.op≠.select cs b)
 (hs:Region.sinkB md ops n=true) (hc:Region.chainB md ops n=true) (hn:n < ops.size) (hin:i < n)
 (hdone:∀ listed b a,L listed b a→∀ j ∈ Region.ready md ops listed,n≤j) :
 ∀ (f:Nat) (listed:Array Bool) (b:Option Nat) (a:Act),HeadInv md ops n listed →
   (∀ j oj,ops[j]?=some oj→j≠i→listed.getD j true=false→(∀ e ∈ oj.after,Region.binds md e=true→e.on≠i)→oi.apart ops oj=true) →
   i ∈ Region.ready md ops listed→LYields P ops w0 oi v a →
   A48 P md ops w0 m n L f (listed.setIfInBounds i true) b (a.put oi.dst v)→A48 P md ops w0 m n L (f+1) listed b a:=by
 intro f
 induction f with
 | zero =>
  intro listed b a inv _ hr hy H
  have hun:=(mem_ready.1 hr).1
  refine⟨fun h=>(by rw[h] at hr;cases hr),fun j hj=>?_⟩
  have hjn:j < n:=by
   rcases Nat.lt_or_ge j n with h | h
   ·exact h
   ·exact absurd hj (tail_waits hs hc hn inv _ i rfl hin hun j h)
  refine⟨hjn,?_⟩
  by_cases hji:j=i
  ·subst hji;exact hy.kOp hi him H
  ·have:=hdone _ _ _ H j (ready_mono hj hji)
   omega
 | succ f ih =>
  intro listed b a inv hfree hr hy H
  have hun:=(mem_ready.1 hr).1
  refine⟨fun h=>(by rw[h] at hr;cases hr),fun j hj=>?_⟩
  have hjn:j < n:=by
   rcases Nat.lt_or_ge j n with h | h
   ·exact h
   ·exact absurd hj (tail_waits hs hc hn inv _ i rfl hin hun j h)
  refine⟨hjn,?_⟩
  by_cases hji:j=i
  ·subst hji;exact hy.kOp hi him H
  ·have h1:=(H.2 j (ready_mono hj hji)).2
   obtain⟨hjun,oj,hoj,hall⟩:=mem_ready.1 hj
   have hnot:∀ e ∈ oj.after,Region.binds md e=true→e.on≠i:=fun e he hb heq=>by
    have h1:=hall e he hb
    rw[heq,getD_both hun] at h1
    cases h1
   have h2:=Ahj hoj (hfree j oj hoj hji hjun hnot) (fun cs b=>hsel i oi cs b hi) (fun cs b=>hsel j oj cs b hoj) hy h1
   have hfree':∀ k ok,ops[k]?=some ok→k≠i→(listed.setIfInBounds j true).getD k true=false →
    (∀ e ∈ ok.after,Region.binds md e=true→e.on≠i)→oi.apart ops ok=true:=fun k ok hk hki hun hno=>by
    refine hfree k ok hk hki ?_ hno
    by_cases hjk:j=k
    ·subst hjk;exact hjun
    ·rw[getD_set_ne true hjk] at hun;exact hun
   refine Age (fun b' a' h3=>ih (listed.setIfInBounds j true) b' a' (inv.set hj hjn) hfree' (ready_mono hr (Ne.symm hji)) h3.1 ?_) h2
   rw[Array.setIfInBounds_comm _ _ hji]
   exact h3.2
def Pq (P:Program) (ops:Array Oper) (w0:World) (Q:Act→Prop):List Oper→Act→Prop
 | [],a=>Q a
 | o :: rest,a=>∃ v,LYields P ops w0 o v a∧Pq P ops w0 Q rest (a.put o.dst v)
theorem A4r {n g:Nat} {Lq:Nat→Act→Prop} (hsel:Region.noSelect ops=true) (hs:Region.sinkB md ops n=true) (hc:Region.chainB md ops n=true) (hn:n < ops.size) (hmn:m+1=n) {oa:Oper} (hoa:ops[m]?=some oa) :
 ∀ (l:List Oper) (k:Nat) (listed:Array Bool) (a:Act),(∀ j,j < l.length→l[j]?=ops[k+j]?)→k+l.length=m→HeadInv md ops n listed →
 Region.lexHead md ops g (l.length+1) k listed=true→Pq P ops w0 (fun a'=>∀ B,w0.heap.size≤B→Lq B (a'.put oa.dst (.pointer (some ⟨B,0,none⟩)))) l a →
 A48 P md ops w0 m n (fun listed' b a'=>Region.seqB md ops g n listed'=true∧∃ B,b=some B∧Lq B a') (l.length+1) listed none a
 | [],k,listed,a,_,hk,inv,hB,h=>by
  have:k=m:=by simpa using hk
  subst this
  simp only[List.length_nil,Nat.zero_add,Region.lexHead,A6] at hB
  obtain⟨⟨hr,hf⟩,hB'⟩:=hB
  have hr':k ∈ Region.ready md ops listed:=by simpa using hr
  have hun:=(mem_ready.1 hr').1
  refine⟨fun h=>(by rw[h] at hr';cases hr'),fun j hj=>?_⟩
  have hjn:j < n:=by
   rcases Nat.lt_or_ge j n with h | h
   ·exact h
   ·exact absurd hj (tail_waits hs hc hn inv _ k rfl (by omega) hun j h)
  refine⟨hjn,?_⟩
  by_cases hjk:j=k
  ·subst hjk
   unfold kOp
   simp only[hoa,if_true]
   rw[hmn] at hB'
   exact fun B hBz=>⟨hB',B,rfl,h B hBz⟩
  ·have:=seqB_ready hB' j (ready_mono hj hjk)
   omega
 | o :: l,k,listed,a,hl,hk,inv,hB,h=>by
  have h0:ops[k]?=some o:=by simpa using(hl 0 (by simp)).symm
  have hkm:k < m:=by simp only[List.length_cons] at hk;omega
  rw[List.length_cons,Region.lexHead] at hB
  simp only[A6] at hB
  obtain⟨⟨hr,hf⟩,hB'⟩:=hB
  have hr':k ∈ Region.ready md ops listed:=by simpa using hr
  obtain⟨v,hy,hK⟩:=h
  exact A9e h0 (by omega) (Region.noSelect_spec hsel) hs hc hn (by omega) (fun listed' _ a' hL=>seqB_ready hL.1) (l.length+1) listed none a inv (Region.free_spec h0 hf) hr' hy
   (A4r hsel hs hc hn hmn hoa l (k+1) _ _ (fun j hj=>by have:=hl (j+1) (by simp;omega);simpa [Nat.add_assoc,Nat.add_comm 1 j] using this) (by simp only[List.length_cons] at hk;omega) (inv.set hr' (by omega)) hB' hK)
theorem Rb {id:Nat} {Q:Exit→Act→World→Prop} {a:Act} {w:World} {l:List Oper} (m:Nat) {oa:Oper} (o:Obj) (hoa:l[m]?=some oa) (hm:P.follows .mixedOrders=true) (hB:Region.lexTailB .any l.toArray (m+1)=true)
 (hmk:Makes P l.toArray m o)
 (h:Pq P l.toArray w (fun a'=>∀ B,w.heap.size≤B→∀ w',Below w.heap.size w w'→Fresh w' B o→wpList P l.toArray Q (l.drop (m+1)) (a'.put oa.dst (.pointer (some ⟨B,0,none⟩))) w') (l.take m) a):(Code.region id l.toArray true).wp P Q a w:=by
 simp only[Region.lexTailB,A6,A9] at hB
 obtain⟨⟨⟨⟨hsel,hn⟩,hs⟩,hc⟩,hlex⟩:=hB
 have hn':m+1 < l.length:=by simpa using hn
 have htl:(l.take m).length=m:=by simp;omega
 have hdl:(l.drop (m+1)).length=l.toArray.size - (m+1):=by simp
 have inv0:HeadInv .any l.toArray (m+1) (Array.replicate l.toArray.size false) :=
  ⟨by simp,fun j oj _ hl=>(by rw[getD_replicate_false] at hl;cases hl),fun t _ ht=>getD_in (by simpa using ht) (getD_replicate_false _ _)⟩
 have H:=A4r (P:=P) (w0:=w) (md:=.any) (m:=m) (n:=m+1) (g:=l.toArray.size - (m+1)) (Lq:=fun B a'=>∀ w',Below w.heap.size w w'→Fresh w' B o→wpList P l.toArray Q (l.drop (m+1)) a' w') hsel hs hc hn rfl (oa:=oa) (by simpa using hoa) (l.take m) 0 _ a (fun j hj=>by
  have hj':j < m:=by rw[htl] at hj;exact hj
  simp[hj']) (by simpa using htl) inv0 (by rw[htl];exact hlex) h
 refine wp_region_any hm ?_
 have:=Sa (md:=.any) (Q':=Q) (g:=l.toArray.size - (m+1)) (o:=o) hmk (fun listed b a' w' hw' hb hL=>by
  obtain⟨hseq,B,rfl,hq⟩:=hL
  have:=wpAny_of_seq (md:=.any) (Q':=Q) (l.drop (m+1)) (m+1) listed a' w' (fun j=>by simp[List.getElem?_drop]) (by rw[hdl];exact hseq) (hq w' hw' (hb B rfl))
  rwa [hdl] at this) _ _ none _ w.drew (Below.refl _ _).drew (fun B hB=>by cases hB) H
 rw[htl,show m+1+(l.toArray.size - (m+1))=l.toArray.size by omega] at this
 exact this
end
theorem X8 {P:Program} {ops:Array Oper} {w0:World} {Q:Act→Prop} {a:Act} (h:Q a):Pq P ops w0 Q [] a:=h
theorem Vh {P:Program} {ops:Array Oper} {w0:World} {Q:Act→Prop} {a:Act} {o:Oper} {rest:List Oper}
 (h:∀ K:Act→Prop,(∀ a,Pq P ops w0 Q rest a→K a)→if Region.wanted o (yielded ops a.tmps) then ∃ v,(∀ s:Later w0,Oper.quietUpon P (fun w''=>Below s.world.heap.size s.world w'') s.world v ((execOp a.eval o).run P s.world))∧K (a.put o.dst v) else K (a.put o.dst undef)) :
 Pq P ops w0 Q (o :: rest) a:=by
 have:=h _ (fun _ h=>h)
 split at this
 ·rename_i hw
  obtain⟨v,h1,h2⟩:=this
  exact⟨v,.inl ⟨hw,h1⟩,h2⟩
 ·rename_i hw
  exact⟨undef,.inr ⟨by simpa using hw,rfl⟩,this⟩
theorem Makes.of {P:Program} {l:List Oper} {m:Nat} {o:Obj} {oa:Oper} (hoa:l[m]?=some oa) (hg:oa.guard=none) (hr:∀ (a:Act) (w:World),(execOp a.eval oa).run P w=.ok (.value (.pointer (some ⟨w.heap.size,0,none⟩))) (w.alloc o)):Makes P l.toArray m o:=by
 constructor
 ·intro o' h a
  obtain rfl:oa=o':=by simpa [hoa] using h
  simp[Region.wanted,hg]
 ·intro o' h a w
  obtain rfl:oa=o':=by simpa [hoa] using h
  exact hr a w
theorem Fresh.var {w:World} {B:Nat} {v:Value} {E:TypeId} (h:Fresh w B (.cells #[v] E (0,0))):VarAt w B 0 v:=⟨cell_of_one h,free_of_one h⟩
end Go.Proofs.Ytpknphnaegfghaa
end
