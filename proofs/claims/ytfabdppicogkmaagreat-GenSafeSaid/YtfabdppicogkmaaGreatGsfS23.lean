/- Parts of the proofs: what they lean on. Conditions: none. -/
import Derived.Deep.AppendLies
import Derived.Test.YtfabdppicogkmaaGreatGsfS22
section
section
namespace Go.Proofs.YtfabdppicogkmaaGreat
open Go.RowKit
set_option linter.unusedVariables false
set_option linter.unusedSimpArgs false
theorem Z4 {P:Program} {t:TypeId} {z:Value} {s b:Nat} (h:(P.info? t).map (fun i=>(i.zero,i.size,i.bytes))=some (some z,s,b)):∃ i,P.info? t=some i∧i.zero=some z∧i.size=s∧i.bytes=b:=by
 cases hi:P.info? t with
 | none=>rw[hi] at h;cases h
 | some i=>rw[hi] at h;simp at h;exact⟨i,rfl,h⟩
def Blk (W:World) (g:Nat) (u:Value):Prop:=∃ ex E,W.heap[g]?=some (.cells (u :: ex).toArray E (0,0))
theorem Blk.later {w w':World} {g:Nat} {u:Value} (h:Blk w g u) (hb:Below w.heap.size w w'):Blk w' g u:=by
 obtain⟨ex,E,h⟩:=h
 exact⟨ex,E,Fresh.later (o:=.cells (u :: ex).toArray E (0,0)) h hb⟩
theorem Blk.other {w:World} {g:Nat} {u:Value} (h:Blk w g u) {p:Addr} (hp:p.block≠g) (v:Value):Blk (w.setCell p v) g u:=by
 obtain⟨ex,E,h⟩:=h
 exact⟨ex,E,(Below.heap_setCell w p v g (Ne.symm hp)).trans h⟩
theorem Blk.var {w:World} {g:Nat} {u:Value} (h:Blk w g u):VarAt w g 0 u:=by
 obtain⟨ex,E,h⟩:=h
 exact⟨by simp[World.cell?,h],by simp[World.frozen?,h]⟩
theorem Blk.lt {w:World} {g:Nat} {u:Value} (h:Blk w g u):g < w.heap.size:=h.var.lt
structure J (w:World) (c1 c2 b1 o1 b2 o2 C:Nat) (W:World) (vp vr vm vb:Value):Prop where
 l1:b1 < w.heap.size
 l2:b2 < w.heap.size
 y1:W.cell? ⟨b1,o1,none⟩=some (.int .i64 1)
 y2:W.cell? ⟨b2,o2,none⟩=some (.int .i64 1)
 z1:W.cell? ⟨w.heap.size,1,none⟩=some (.slice (some ⟨b1,o1,none⟩) 1 c1)
 z2:W.cell? ⟨w.heap.size,2,none⟩=some (.slice (some ⟨b2,o2,none⟩) 1 c2)
 r0:VarAt W (w.heap.size+1) 0 (.slice none 0 0)
 r1:VarAt W (w.heap.size+1) 1 (.slice none 0 0)
 r2:VarAt W (w.heap.size+1) 2 (.slice none 0 0)
 r3:VarAt W (w.heap.size+1) 3 (.slice none 0 0)
 q0:VarAt W C 0 vp
 q1:VarAt W C 1 vr
 q2:VarAt W C 2 vm
 q3:VarAt W C 3 vb
 hb:Below w.heap.size w W
 lt:w.heap.size+1 < C
 sz:C < W.heap.size
section
variable {w:World} {c1 c2 b1 o1 b2 o2 C:Nat} {W W':World} {vp vr vm vb:Value}
theorem J.later (h:J w c1 c2 b1 o1 b2 o2 C W vp vr vm vb) (hb:Below W.heap.size W W'):J w c1 c2 b1 o1 b2 o2 C W' vp vr vm vb :=
 ⟨h.l1,h.l2,cell_later hb h.y1,cell_later hb h.y2,cell_later hb h.z1,cell_later hb h.z2,h.r0.later hb,h.r1.later hb,h.r2.later hb,h.r3.later hb,h.q0.later hb,h.q1.later hb,h.q2.later hb,h.q3.later hb,h.hb.trans (hb.mono h.hb.size),h.lt,Nat.lt_of_lt_of_le h.sz hb.size⟩
theorem Rv {W:World} {b o:Nat} {v:Value} (h:W.cell? ⟨b,o,none⟩=some v) {p:Addr} (hp:p.block≠b∨p.off≠o) (u:Value):(W.setCell p u).cell? ⟨b,o,none⟩=some v:=by
 rw[World.cell?_setCell_other]
 ·exact h
 ·rintro rfl
  simp at hp
theorem J.set (h:J w c1 c2 b1 o1 b2 o2 C W vp vr vm vb) {k:Nat} (u:Value) {vp' vr' vm' vb':Value} (q0:VarAt (W.setCell ⟨C,k,none⟩ u) C 0 vp') (q1:VarAt (W.setCell ⟨C,k,none⟩ u) C 1 vr') (q2:VarAt (W.setCell ⟨C,k,none⟩ u) C 2 vm') (q3:VarAt (W.setCell ⟨C,k,none⟩ u) C 3 vb') :
 J w c1 c2 b1 o1 b2 o2 C (W.setCell ⟨C,k,none⟩ u) vp' vr' vm' vb':=by
 have l1:=h.l1;have l2:=h.l2;have lt:=h.lt
 have hC:w.heap.size+1≠C:=by omega
 exact⟨h.l1,h.l2,Rv h.y1 (.inl (show C≠b1 by omega)) u,Rv h.y2 (.inl (show C≠b2 by omega)) u,Rv h.z1 (.inl (show C≠_ by omega)) u,Rv h.z2 (.inl (show C≠_ by omega)) u,
  h.r0.other (.inl (Ne.symm hC)) u,h.r1.other (.inl (Ne.symm hC)) u,h.r2.other (.inl (Ne.symm hC)) u,h.r3.other (.inl (Ne.symm hC)) u,q0,q1,q2,q3,h.hb.setCell (show w.heap.size≤C by omega) u,h.lt,by rw[World.size_setCell];exact h.sz⟩
end
def Asx (B:Nat) (w:World) (b o:Nat):Prop:=B≤b∧∃ v,stay w b o=some v∧v.2.2=(0,0)
theorem Aqv {S:Nat→Nat→Prop} {w w':World} (h:∀ b o,S b o→w'.heap[b]?=w.heap[b]?):SExt S w S w':=fun b o hs=>⟨hs,Id (h b o hs) o⟩
theorem Mh (l:List Int):E5 (l.map (Value.int .i64)):=by
 intro v hv
 obtain⟨x,_,rfl⟩:=List.mem_map.1 hv
 rfl
structure NumsAt (B:Nat) (w:World) (l:List Int) (v:Value):Prop where
 is:∃ S:Nat→Nat→Prop,Rep S w [] [] (aIs l) v∧∀ b o,S b o→Asx B w b o∧∃ x,w.cell? ⟨b,o,none⟩=some (.int .i64 x)
theorem NumsAt.later {B:Nat} {w w':World} {l:List Int} {v:Value} (h:NumsAt B w l v) (hb:Below w.heap.size w w'):NumsAt B w' l v:=by
 obtain⟨S,h1,h2⟩:=h.is
 have hx:∀ b o,S b o→w'.heap[b]?=w.heap[b]?:=fun b o hs=>by
  obtain⟨⟨_,u,hu,_⟩,_⟩:=h2 b o hs
  exact hb.block b (Hr hu)
 refine⟨S,Rep.mono (Aqv hx) h1 (.refl _ _),fun b o hs=>?_⟩
 obtain⟨⟨h3,u,hu,hf⟩,x,hc⟩:=h2 b o hs
 exact⟨⟨h3,u,(Id (hx b o hs) o).trans hu,hf⟩,x,cell_later hb hc⟩
theorem C3 {w:World} {base:Nat} {e:TypeId} {size:Nat} {v:Value} {n:Nat} {xs:List Value} (h:w.ownsRow base e size v n xs) {b:Nat} (hb:v.ownBlock=some b):base≤b∧b < w.heap.size:=by
 rcases h.2 with ⟨rfl,_⟩ | ⟨g,cap,cur,rfl,hbg,hgg,_⟩
 ·cases hb
 ·obtain rfl:g=b:=by simpa [Value.ownBlock] using hb
  exact⟨hbg,(Array.getElem?_eq_some_iff.1 hgg).1⟩
theorem Ib {w w':World} {base base':Nat} {e:TypeId} {size:Nat} {v:Value} {n:Nat} {xs:List Value} (h:w.ownsRow base e size v n xs) (hb:∀ b,v.ownBlock=some b→base'≤b∧w'.heap[b]?=w.heap[b]?):w'.ownsRow base' e size v n xs:=by
 refine⟨h.1,?_⟩
 rcases h.2 with hn | ⟨g,cap,cur,rfl,hbg,hgg,rest⟩
 ·exact .inl hn
 ·obtain⟨h1,h2⟩:=hb g rfl
  exact .inr ⟨g,cap,cur,rfl,h1,h2.trans hgg,rest⟩
structure RowsAt (B:Nat) (w:World) (eT e:TypeId) (size:Nat) (v:Value) (vals:List Value) (rows:List (List Value)):Prop where
 len:vals.length=rows.length
 own:w.ownsRow B eT 1 v rows.length vals
 row:∀ (i:Nat) (x:Value) (r:List Value),vals[i]?=some x→rows[i]?=some r→∃ m,w.ownsRow B e size x m r
 apart:∀ (i:Nat) (x:Value) (b:Nat),vals[i]?=some x→x.ownBlock=some b→v.ownBlock≠some b
 dist:∀ (i j:Nat) (x y:Value) (b:Nat),vals[i]?=some x→vals[j]?=some y→x.ownBlock=some b→y.ownBlock=some b→i=j
theorem RowsAt.nil (B:Nat) (w:World) (eT e:TypeId) (size:Nat):RowsAt B w eT e size (.slice none 0 0) [] [] :=
 ⟨rfl,World.ownsRow_nil _ _ _ _,fun i x r h=>by simp at h,fun i x b h=>by simp at h,fun i j x y b h=>by simp at h⟩
theorem RowsAt.lt {B:Nat} {w:World} {eT e:TypeId} {size:Nat} {v:Value} {vals:List Value} {rows:List (List Value)} (h:RowsAt B w eT e size v vals rows) {i:Nat} {x:Value} {b:Nat} (hx:vals[i]?=some x) (hb:x.ownBlock=some b):B≤b∧b < w.heap.size:=by
 have hi:i < rows.length:=by rw[← h.len];exact(List.getElem?_eq_some_iff.1 hx).1
 obtain⟨m,hm⟩:=h.row i x _ hx (A6 hi)
 exact C3 hm hb
theorem RowsAt.below {B:Nat} {w w':World} {eT e:TypeId} {size:Nat} {v:Value} {vals:List Value} {rows:List (List Value)} (h:RowsAt B w eT e size v vals rows) (hb:Below w.heap.size w w'):RowsAt B w' eT e size v vals rows :=
 ⟨h.len,Dn h.own hb,fun i x r h1 h2=>let ⟨m,hm⟩:=h.row i x r h1 h2;⟨m,Dn hm hb⟩,h.apart,h.dist⟩
theorem RowsAt.push {B:Nat} {w w1 w2:World} {eT e:TypeId} {size:Nat} {v v' x:Value} {vals:List Value} {rows:List (List Value)} {m g:Nat} {r:List Value} (h:RowsAt B w eT e size v vals rows) (hB:B≤w.heap.size) (hb:Below w.heap.size w w1) (hx:w1.ownsRow w.heap.size e size x m r)
 (h2:w2.ownsRow B eT 1 v' (rows.length+1) (vals++[x])) (hg:w1.grownBy w2 v.ownBlock) (hloc:v.ownBlock=some g∨g=w1.heap.size) (hv':v'.ownBlock=some g):RowsAt B w2 eT e size v' (vals++[x]) (rows++[r]):=by
 have hsz:=hb.size
 have old:∀ (i:Nat) (y:Value) (b:Nat),vals[i]?=some y→y.ownBlock=some b→w2.heap[b]?=w.heap[b]?:=by
  intro i y b hy hyb
  have hlt:=(h.lt hy hyb).2
  exact(hg.block b (by omega) (fun e=>h.apart i y b hy hyb e.symm)).trans (hb.block b hlt)
 refine⟨by simp[h.len],by rw[List.length_append];exact h2,fun i y r' hy hr'=>?_,fun i y b hy hyb=>?_,fun i j y z b hy hz hyb hzb=>?_⟩
 ·rcases Nat.lt_or_ge i vals.length with hi | hi
  ·rw[List.getElem?_append_left hi] at hy
   rw[List.getElem?_append_left (by rw[← h.len];exact hi)] at hr'
   obtain⟨m',hm'⟩:=h.row i y r' hy hr'
   exact⟨m',Ib hm' fun b hb'=>⟨(h.lt hy hb').1,old i y b hy hb'⟩⟩
  ·rw[List.getElem?_append_right hi] at hy
   rw[List.getElem?_append_right (by rw[← h.len];exact hi),← h.len] at hr'
   obtain hi0:i - vals.length=0:=by
    have:=(List.getElem?_eq_some_iff.1 hy).1
    simp at this;omega
   rw[hi0] at hy hr'
   simp at hy hr'
   subst hy hr'
   refine⟨m,Ib hx fun b hb'=>?_⟩
   obtain⟨h3,h4⟩:=C3 hx hb'
   refine⟨by omega,hg.block b h4 fun e=>?_⟩
   have:=(C3 h.own e.symm).2
   omega
 ·rw[hv']
  intro e
  obtain rfl:g=b:=by simpa using e
  rcases Nat.lt_or_ge i vals.length with hi | hi
  ·rw[List.getElem?_append_left hi] at hy
   rcases hloc with hl | hl
   ·exact h.apart i y g hy hyb hl
   ·have:=(h.lt hy hyb).2;omega
  ·rw[List.getElem?_append_right hi] at hy
   obtain hi0:i - vals.length=0:=by
    have:=(List.getElem?_eq_some_iff.1 hy).1
    simp at this;omega
   rw[hi0] at hy
   simp at hy
   subst hy
   obtain⟨h3,h4⟩:=C3 hx hyb
   rcases hloc with hl | hl
   ·have:=(C3 h.own hl).2;omega
   ·omega
 ·have key:∀ (i:Nat) (y:Value),(vals++[x])[i]?=some y→y.ownBlock=some b→(i < vals.length∧vals[i]?=some y∧b < w.heap.size)∨(i=vals.length∧w.heap.size≤b):=by
   intro i y hy hyb
   rcases Nat.lt_or_ge i vals.length with hi | hi
   ·rw[List.getElem?_append_left hi] at hy
    exact .inl ⟨hi,hy,(h.lt hy hyb).2⟩
   ·rw[List.getElem?_append_right hi] at hy
    obtain hi0:i - vals.length=0:=by
     have:=(List.getElem?_eq_some_iff.1 hy).1
     simp at this;omega
    rw[hi0] at hy
    simp at hy
    subst hy
    exact .inr ⟨by omega,(C3 hx hyb).1⟩
  rcases key i y hy hyb with ⟨i1,i2,i3⟩ | ⟨i1,i2⟩<;>rcases key j z hz hzb with ⟨j1,j2,j3⟩ | ⟨j1,j2⟩
  ·exact h.dist i j y z b i2 j2 hyb hzb
  ·omega
  ·omega
  ·omega
structure A1o (c:Ac):Prop where
 pc:c.pc.length≤8
 mem:c.mem.length≤20
 regsN:c.regs.length≤8
 bufN:c.buf.length≤8
 regs:∀ i (h:i < c.regs.length),c.regs[i].length≤20
 buf:∀ i (h:i < c.buf.length),c.buf[i].length≤300
def N9 (x:A2):List Value:=[.int .i64 x.loc,.int .i64 x.n]
theorem W9 (x:A2):(N9 x).length=2:=rfl
theorem Abg {w:World} {v:Value} {l:List A2} (h:Sl Qt w v l):Arr w 2 v l.length (l.flatMap N9):=by
 obtain⟨a,cap,h0,hp,h3⟩:=h
 obtain rfl:v=.slice a l.length cap:=by simpa using h0
 refine⟨Uh N9 2 W9 l,a,cap,rfl,hp,fun j u hj=>?_⟩
 have hjl:j < l.length*2:=by rw[← Uh N9 2 W9 l];exact(List.getElem?_eq_some_iff.1 hj).1
 have hk:j / 2 < l.length:=by omega
 have e:j=j / 2*2+j % 2:=by omega
 obtain⟨b,off,cs',e1,e2,e3,e4⟩:=h3 (j / 2) hk
 obtain⟨rfl,_,_⟩:=A1m e4
 refine⟨b,off,e1,?_⟩
 rw[e,Apv N9 2 W9 l (j / 2) hk (j % 2) (by omega)] at hj
 have:=e3 (j % 2) u hj
 rw[show Qt.size=2 from rfl] at this
 rw[e,show off+(j / 2*2+j % 2)=off+j / 2*2+j % 2 by omega]
 exact this
theorem A8c (l:List A2):E5 (l.flatMap N9):=by
 intro v hv
 obtain⟨x,_,hx⟩:=List.mem_flatMap.1 hv
 simp only[N9,List.mem_cons,List.not_mem_nil,or_false] at hx
 rcases hx with rfl | rfl<;>rfl
theorem RowsAt.base {B B':Nat} {w:World} {eT e:TypeId} {size:Nat} {v:Value} {vals:List Value} {rows:List (List Value)} (h:RowsAt B w eT e size v vals rows) (hB:B'≤B):RowsAt B' w eT e size v vals rows :=
 ⟨h.len,Ib h.own fun b hb=>⟨Nat.le_trans hB (C3 h.own hb).1,rfl⟩,fun i x r h1 h2=>let ⟨m,hm⟩:=h.row i x r h1 h2;⟨m,Ib hm fun b hb=>⟨Nat.le_trans hB (C3 hm hb).1,rfl⟩⟩,h.apart,h.dist⟩
theorem RowsAt.heap {B B':Nat} {w w':World} {eT e:TypeId} {size:Nat} {v:Value} {vals:List Value} {rows:List (List Value)} (h:RowsAt B w eT e size v vals rows) (hB:B'≤B) (hw:∀ b,B≤b→w'.heap[b]?=w.heap[b]?):RowsAt B' w' eT e size v vals rows :=
 ⟨h.len,Ib h.own fun b hb=>⟨Nat.le_trans hB (C3 h.own hb).1,hw b (C3 h.own hb).1⟩,fun i x r h1 h2=>let ⟨m,hm⟩:=h.row i x r h1 h2;⟨m,Ib hm fun b hb=>⟨Nat.le_trans hB (C3 hm hb).1,hw b (C3 hm hb).1⟩⟩,h.apart,h.dist⟩
structure As6 (B:Nat) (w:World) (c:Ac) (vp vr vm vb:Value) (xr xb:List Value):Prop where
 pc:w.ownsRow B 3 1 vp c.pc.length (c.pc.map (Value.int .i64))
 regs:RowsAt B w 31 3 1 vr xr (c.regs.map (List.map (Value.int .i64)))
 mem:w.ownsRow B 3 1 vm c.mem.length (c.mem.map (Value.int .i64))
 buf:RowsAt B w 152 157 2 vb xb (c.buf.map (List.flatMap N9))
theorem A69 {S:Nat→Nat→Prop} {w:World} {v:Value} {c:Ac} (h:Rep S w [] [] (aC c) v):ConfV w v c:=by
 obtain⟨vs,hr,_,rfl⟩:=h.agg_inv
 exact Aqn (cs:=vs.toArray) (Arj.2 _ _ _ _ hr)
def A9q (lo hi:Nat) (w:World) (b:Nat):Prop:=lo≤b∧b < hi∧∃ cs E,w.heap[b]?=some (.cells cs E (0,0))∧(E=3∨E=157)
structure Sp (lo hi:Nat) (w5 w:World):Prop where
 below:Below lo w5 w
 heap:∀ b,¬ A9q lo hi w5 b→w.heap[b]?=w5.heap[b]?
 shape:∀ (b:Nat) cs E,w5.heap[b]?=some (.cells cs E (0,0))→∃ cs',cs'.size=cs.size∧w.heap[b]?=some (.cells cs' E (0,0))
theorem Sp.refl (lo hi:Nat) (w:World):Sp lo hi w w:=⟨Below.refl _ _,fun _ _=>rfl,fun b cs E h=>⟨cs,rfl,h⟩⟩
theorem Sp.set {lo hi:Nat} {w5 w:World} (h:Sp lo hi w5 w) {p:Addr} (hl:A9q lo hi w5 p.block) (v:Value):Sp lo hi w5 (w.setCell p v):=by
 refine⟨h.below.setCell hl.1 v,fun b hb=>?_,fun b cs E hb=>?_⟩
 ·have hne:b≠p.block:=by rintro rfl;exact hb hl
  exact(Below.heap_setCell w p v b hne).trans (h.heap b hb)
 ·obtain⟨cs',e1,e2⟩:=h.shape b cs E hb
  by_cases hbp:b=p.block
  ·subst hbp
   refine⟨if p.spot.isSome then cs' else cs'.setIfInBounds p.off v,by split<;>simp[e1],?_⟩
   simp[World.setCell,Array.getElem?_modify,e2]
  ·exact⟨cs',e1,(Below.heap_setCell w p v b hbp).trans e2⟩
theorem Sp.cell {lo hi:Nat} {w5 w:World} (h:Sp lo hi w5 w) {b o:Nat} {v:Value} (hb:¬ A9q lo hi w5 b) (hv:w5.cell? ⟨b,o,none⟩=some v):w.cell? ⟨b,o,none⟩=some v :=
 (World.cell?_of_block (a:=⟨b,o,none⟩) (h.heap b hb)).trans hv
theorem A0r {w:World} {B:Nat} {e:TypeId} {size n:Nat} {v:Value} {xs:List Value} (h:w.ownsRow B e size v n xs) (hs:0 < size) {k:Nat} (hx:xs.length=k*size):n=k:=by
 have:=h.1
 rw[hx] at this
 exact(Nat.eq_of_mul_eq_mul_right hs this).symm
theorem A99:∀ l:List Int,l.flatMap (fun x=>[Value.int .i64 x])=l.map (Value.int .i64)
 | []=>rfl
 | x :: l=>by simp[A99 l]
def U6 (E:TypeId) (w w':World):Prop:=∀ (b:Nat) cs E' f,w.heap[b]?=some (.cells cs E' f)→E'≠E→w'.heap[b]?=w.heap[b]?
theorem Qx {w:World} {D k:Nat} {cs:Array Value} {E:TypeId} {f:Nat×Nat} (h:w.heap[D]?=some (.cells cs E f)) (v:Value):U6 E w (w.setCell ⟨D,k,none⟩ v):=by
 intro b cs' E' f' hb hne
 refine Below.heap_setCell w ⟨D,k,none⟩ v b ?_
 rintro rfl
 rw[h] at hb
 cases hb
 exact hne rfl
theorem J9 {w w':World} {B:Nat} {e E:TypeId} {size n:Nat} {v:Value} {xs:List Value} (h:w.ownsRow B e size v n xs) (hk:U6 E w w') (he:e≠E):w'.ownsRow B e size v n xs:=by
 refine⟨h.1,?_⟩
 rcases h.2 with hn | ⟨g,cap,cur,rfl,hbg,hgg,rest⟩
 ·exact .inl hn
 ·exact .inr ⟨g,cap,cur,rfl,hbg,(hk g _ _ _ hgg he).trans hgg,rest⟩
theorem RowsAt.keeps {B:Nat} {w w':World} {eT e E:TypeId} {size:Nat} {v:Value} {vals:List Value} {rows:List (List Value)} (h:RowsAt B w eT e size v vals rows) (hk:U6 E w w') (h1:eT≠E) (h2:e≠E):RowsAt B w' eT e size v vals rows :=
 ⟨h.len,J9 h.own hk h1,fun i x r a b=>let ⟨m,hm⟩:=h.row i x r a b;⟨m,J9 hm hk h2⟩,h.apart,h.dist⟩
theorem Fresh.keeps {w w':World} {b:Nat} {cs:Array Value} {E E':TypeId} (h:Fresh w b (.cells cs E')) (hk:U6 E w w') (he:E'≠E):Fresh w' b (.cells cs E'):=(hk b _ _ _ h he).trans h
theorem Fresh.put {w:World} {b k:Nat} {cs:Array Value} {E:TypeId} (h:Fresh w b (.cells cs E)) (v:Value):Fresh (w.setCell ⟨b,k,none⟩ v) b (.cells (cs.setIfInBounds k v) E):=by
 unfold Fresh at h ⊢
 simp[World.setCell,Array.getElem?_modify,h]
theorem Fresh.open {w:World} {b k:Nat} {cs:Array Value} {E:TypeId} {v:Value} (h:Fresh w b (.cells cs E)) (hv:cs[k]?=some v):w.cell? ⟨b,k,none⟩=some v∧w.frozen? ⟨b,k,none⟩=false:=by
 unfold Fresh at h
 exact⟨by simp[World.cell?,h,hv],by simp[World.frozen?,h]⟩
theorem A0y {w:World} {v:Value} {l:List Int} (hv:Sl rI w v l):Arr w 1 v l.length (l.map (Value.int .i64)):=by
 obtain⟨a',cap',h1,h2⟩:=Qw hv
 obtain⟨a,cap,h0,hp,_⟩:=hv
 obtain rfl:v=.slice a l.length cap:=by simpa using h0
 refine⟨by simp,a,cap,rfl,hp,fun j u hj=>?_⟩
 rw[List.getElem?_map] at hj
 cases hjl:l[j]? with
 | none=>rw[hjl] at hj;cases hj
 | some x =>
  rw[hjl] at hj
  obtain rfl:=Option.some.inj hj
  obtain⟨hj',rfl⟩:=List.getElem?_eq_some_iff.1 hjl
  obtain⟨b,off,h3,h4,_⟩:=h2 j hj'
  obtain⟨rfl,_,rfl⟩:=Value.slice.inj h1
  exact⟨b,off,h3,h4⟩
theorem Ky {w:World} {B:Nat} {e:TypeId} {size n:Nat} {v:Value} {xs:List Value} (h:w.ownsRow B e size v n xs):∃ a m c,v=.slice a m c:=by
 rcases h.2 with ⟨rfl,_⟩ | ⟨g,cap,cur,rfl,_⟩<;>exact⟨_,_,_,rfl⟩
theorem RowsAt.same {B B':Nat} {w w':World} {eT e:TypeId} {size:Nat} {v:Value} {vals:List Value} {rows:List (List Value)} (h:RowsAt B w eT e size v vals rows) (hB:B'≤B) (hw:∀ b,B≤b→b < w.heap.size→w'.heap[b]?=w.heap[b]?):RowsAt B' w' eT e size v vals rows :=
 ⟨h.len,Ib h.own fun b hb=>⟨Nat.le_trans hB (C3 h.own hb).1,hw b (C3 h.own hb).1 (C3 h.own hb).2⟩,fun i x r h1 h2=>let ⟨m,hm⟩:=h.row i x r h1 h2;⟨m,Ib hm fun b hb=>⟨Nat.le_trans hB (C3 hm hb).1,hw b (C3 hm hb).1 (C3 hm hb).2⟩⟩,h.apart,h.dist⟩
theorem Wl {B B':Nat} {w w':World} {e:TypeId} {size n:Nat} {v:Value} {xs:List Value} (h:w.ownsRow B e size v n xs) (hB:B'≤B) (hw:∀ b,B≤b→b < w.heap.size→w'.heap[b]?=w.heap[b]?):w'.ownsRow B' e size v n xs :=
 Ib h fun b hb=>⟨Nat.le_trans hB (C3 h hb).1,hw b (C3 h hb).1 (C3 h hb).2⟩
theorem A6g {M:Nat} {wr w1 w2:World} {o:Obj} {row:Option Nat} (hM:M≤wr.heap.size) (hg:wr.grownBy w1 none) (hgr:(w1.alloc o).grownBy w2 row) (hr:∀ k,row=some k→M≤k):M≤w2.heap.size∧(∀ b,b < M→w2.heap[b]?=wr.heap[b]?)∧(∀ (w:World) (B:Nat),B≤M→Below B w wr→Below B w w2):=by
 have h1:=hg.size
 have h2:=hgr.size
 rw[World.size_alloc] at h2
 refine⟨by omega,fun b hb=>?_,fun w B hB h=>?_⟩
 ·refine(hgr.block b (by rw[World.size_alloc];omega) fun e=>?_).trans ((Below.heap_alloc w1 o b (by omega)).trans (hg.block b (by omega) (by simp)))
  have:=hr b e.symm;omega
 ·exact((h.grown hg (by omega) (by simp)).alloc (by omega) o).grown hgr (by rw[World.size_alloc];omega) fun k hk=>Nat.le_trans hB (hr k hk)
structure A5h (B:Nat) (w:World) (c:Ac) (vp vr vm vb:Value) (xr xb:List Value):Prop extends As6 B w c vp vr vm vb xr xb where
 pm:∀ b,vp.ownBlock=some b→vm.ownBlock≠some b
 pr:∀ (i:Nat) x b,xr[i]?=some x→x.ownBlock=some b→vp.ownBlock≠some b∧vm.ownBlock≠some b
set_option maxRecDepth 100000 in
set_option maxHeartbeats 4000000 in
theorem A1x (w:World) (v:Value) (c:Ac) (hv:ConfV w v c) (hl:A1o c):Calls Tryz.prog 49 #[v] w fun e w'=>Below w.heap.size w w'∧∃ vp vr vm vb xr xb,e=.returned (.agg #[vp,vr,vm,vb])∧A5h w.heap.size w' c vp vr vm vb xr xb:=by
 obtain⟨vp,vr,vm,vb,rfl,s1,s2,s3,s4⟩:=hv
 have S1:=Lib.hid s1;have S2:=Lib.hid s2;have S3:=Lib.hid s3;have S4:=Lib.hid s4
 obtain⟨l1,l2,l3,l4,l5,l6⟩:=hl
 have L5:=Lib.hid l5;have L6:=Lib.hid l6
 clear l5 l6
 obtain⟨a1,c1,rfl,_⟩:=Qw s1
 obtain⟨a2,c2,rfl,h2⟩:=Ql s2
 obtain⟨a3,c3,rfl,_⟩:=Qw s3
 obtain⟨a4,c4,rfl,h4⟩:=Ql s4
 have H2:=Lib.hid h2;have H4:=Lib.hid h4
 clear s1 s2 s3 s4 h2 h4
 obtain⟨np,hnp⟩:∃ n,c.pc.length=n:=⟨_,rfl⟩
 obtain⟨nr,hnr⟩:∃ n,c.regs.length=n:=⟨_,rfl⟩
 obtain⟨nm,hnm⟩:∃ n,c.mem.length=n:=⟨_,rfl⟩
 obtain⟨nb,hnb⟩:∃ n,c.buf.length=n:=⟨_,rfl⟩
 rw[hnp] at S1 l1;rw[hnr] at S2;rw[hnm] at S3 l2;rw[hnb] at S4
 rw[hnp,hnr,hnm,hnb]
 have N1:=Lib.hid hnp;have N2:=Lib.hid hnr;have N3:=Lib.hid hnm;have N4:=Lib.hid hnb
 have hr8:nr≤8:=by omega
 have hb8:nb≤8:=by omega
 clear hnp hnr hnm hnb
 obtain⟨i0,hi,hi0,hi1,hi2⟩:∃ i,Tryz.prog.info? 3=some i∧i.zero=some (.int .i64 0)∧i.size=1∧i.bytes=8:=Z4 (by kernel_rfl)
 obtain⟨j0,ji,ji0,ji1,ji2⟩:∃ i,Tryz.prog.info? 31=some i∧i.zero=some (.slice none 0 0)∧i.size=1∧i.bytes=24:=Z4 (by kernel_rfl)
 obtain⟨e0,ei,ei0,ei1,ei2⟩:∃ i,Tryz.prog.info? 157=some i∧i.zero=some (.agg #[.int .i64 0,.int .i64 0])∧i.size=2∧i.bytes=16:=Z4 (by kernel_rfl)
 obtain⟨k0,ki,ki0,ki1,ki2⟩:∃ i,Tryz.prog.info? 152=some i∧i.zero=some (.slice none 0 0)∧i.size=1∧i.bytes=24:=Z4 (by kernel_rfl)
 obtain⟨W,hW⟩:∃ W,W=((w.alloc (.cells #[.slice a1 np c1,.slice a2 nr c2,.slice a3 nm c3,.slice a4 nb c4] 90)).alloc (.cells #[.slice none 0 0,.slice none 0 0,.slice none 0 0,.slice none 0 0] 90)).alloc (.cells #[.slice none 0 0,.slice none 0 0,.slice none 0 0,.slice none 0 0] 90):=⟨_,rfl⟩
 go_enter Tryz.func49,Tryz.ntmps49
 go_upto_region 2 with (fail)
 rw[← hW]
 have hb0:Below w.heap.size w W:=hW ▸ (((Below.refl _ _).alloc (Nat.le_refl _) _).alloc (by simp) _).alloc (by simp;omega) _
 have hsz:W.heap.size=w.heap.size+1+1+1:=by rw[hW];simp
 have fc:Fresh W w.heap.size (.cells #[.slice a1 np c1,.slice a2 nr c2,.slice a3 nm c3,.slice a4 nb c4] 90):=by
  rw[hW];exact((show Fresh (w.alloc _) w.heap.size _ from heap_alloc_new w _).later ((Below.refl _ _).alloc (Nat.le_refl _) _)).later ((Below.refl _ _).alloc (Nat.le_refl _) _)
 have fr:Fresh W (w.heap.size+1) (.cells #[.slice none 0 0,.slice none 0 0,.slice none 0 0,.slice none 0 0] 90):=by
  rw[hW]
  have:=heap_alloc_new (w.alloc (.cells #[.slice a1 np c1,.slice a2 nr c2,.slice a3 nm c3,.slice a4 nb c4] 90)) (.cells #[.slice none 0 0,.slice none 0 0,.slice none 0 0,.slice none 0 0] 90)
  rw[World.size_alloc] at this
  exact(show Fresh _ (w.heap.size+1) _ from this).later ((Below.refl _ _).alloc (Nat.le_refl _) _)
 have fd:Fresh W (w.heap.size+1+1) (.cells #[.slice none 0 0,.slice none 0 0,.slice none 0 0,.slice none 0 0] 90):=by
  rw[hW]
  have:=heap_alloc_new ((w.alloc (.cells #[.slice a1 np c1,.slice a2 nr c2,.slice a3 nm c3,.slice a4 nb c4] 90)).alloc (.cells #[.slice none 0 0,.slice none 0 0,.slice none 0 0,.slice none 0 0] 90)) (.cells #[.slice none 0 0,.slice none 0 0,.slice none 0 0,.slice none 0 0] 90)
  rw[World.size_alloc,World.size_alloc] at this
  exact this
 obtain⟨D,hD⟩:∃ D,w.heap.size+1+1=D:=⟨_,rfl⟩
 rw[hD] at fd ⊢
 have HB:=Lib.hid hb0
 have HSZ:=Lib.hid (show W.heap.size=D+1 by omega)
 have HD:=Lib.hid hD
 have FC:=Lib.hid fc;have FR:=Lib.hid fr
 clear hb0 hW hsz fc fr hD
 have A1:=Lib.hid (A0y (S1.out.mono (F3 _) HB.out));rw[N1.out] at A1
 have z1:=(FC.out.open (k:=0) rfl).1
 obtain⟨y0,y0'⟩:=fd.open (k:=0) rfl
 have FD:=Lib.hid fd
 clear fd
 go_wp2_with (at_builtin;refine Jt rfl _ _ 31 rfl W.heap.size 3 i0 _ 1 8 Tryz.underlying31 hi hi0 hi1 hi2 rfl (by decide) _ 0 [] rfl (World.ownsRow_nil _ _ _ _) _ _ _ rfl A1.out (Mh _) ?a1 ?a2 ?a3 ?_)
 case a1=>unfold maxLen;omega
 case a2=>omega
 case a3=>exact Nat.le_refl _
 intro v1 w1 hown hg
 try rw[Nat.zero_add,List.nil_append] at hown
 clear y0 y0' z1
 have hb1:Below W.heap.size W w1:=Below.grown (Below.refl _ _) hg (Nat.le_refl _) (by simp[Value.ownBlock])
 have fd1:=FD.out.later hb1
 have fc1:=FC.out.later hb1
 have fr1:=FR.out.later hb1
 obtain⟨y0,y0'⟩:=fd1.open (k:=0) rfl
 obtain⟨p1,p2,p3,rfl⟩:=Ky hown
 have HO1:=Lib.hid hown;have HB1:=Lib.hid (HB.out.trans (hb1.mono HB.out.size));have FD1:=Lib.hid fd1;have FC1:=Lib.hid fc1;have FR1:=Lib.hid fr1
 have HZ1:=Lib.hid hb1.size
 clear hown hg hb1 fd1 fc1 fr1
 go_upto_region 3 with (fail)
 have hk1:U6 90 w1 (w1.setCell ⟨D,0,none⟩ (.slice p1 p2 p3)):=Qx FD1.out _
 have ho2:=J9 HO1.out hk1 (by decide)
 have fd2:=FD1.out.put (k:=0) (.slice p1 p2 p3)
 have hne1:w.heap.size≠D:=by have:=HD.out;omega
 have hne2:w.heap.size+1≠D:=by have:=HD.out;omega
 have fc2:Fresh (w1.setCell ⟨D,0,none⟩ (.slice p1 p2 p3)) w.heap.size (.cells #[.slice a1 np c1,.slice a2 nr c2,.slice a3 nm c3,.slice a4 nb c4] 90):=(Below.heap_setCell w1 ⟨D,0,none⟩ _ _ hne1).trans FC1.out
 have fr2:Fresh (w1.setCell ⟨D,0,none⟩ (.slice p1 p2 p3)) (w.heap.size+1) (.cells #[.slice none 0 0,.slice none 0 0,.slice none 0 0,.slice none 0 0] 90):=(Below.heap_setCell w1 ⟨D,0,none⟩ _ _ hne2).trans FR1.out
 have hb2:=HB1.out.setCell (p:=⟨D,0,none⟩) (by show w.heap.size≤D;have:=HD.out;omega) (.slice p1 p2 p3)
 have hz2:(w1.setCell ⟨D,0,none⟩ (.slice p1 p2 p3)).heap.size=w1.heap.size:=World.size_setCell _ _ _
 clear HO1 hk1 y0 y0' FD1 FC1 FR1 HB1
 obtain⟨w2,hw2⟩:∃ w2,w1.setCell ⟨D,0,none⟩ (.slice p1 p2 p3)=w2:=⟨_,rfl⟩
 rw[hw2] at ho2 fd2 fc2 fr2 hb2 hz2 ⊢
 have fd2:Fresh w2 D (.cells #[.slice p1 p2 p3,.slice none 0 0,.slice none 0 0,.slice none 0 0] 90):=fd2
 clear hw2
 have A3:=Lib.hid (A0y (S3.out.mono (F3 _) hb2));rw[N3.out] at A3
 have z3:=(fc2.open (k:=2) rfl).1
 obtain⟨y0,y0'⟩:=fd2.open (k:=2) rfl
 have HO1:=Lib.hid ho2;have FD2:=Lib.hid fd2;have FC2:=Lib.hid fc2;have FR2:=Lib.hid fr2;have HB2:=Lib.hid hb2
 have HZ2:=Lib.hid (show D < w2.heap.size by have:=HZ1.out;have:=HSZ.out;omega)
 clear ho2 fd2 fc2 fr2 hb2 hz2
 go_wp2_with (at_builtin;refine Jt rfl _ _ 31 rfl w2.heap.size 3 i0 _ 1 8 Tryz.underlying31 hi hi0 hi1 hi2 rfl (by decide) _ 0 [] rfl (World.ownsRow_nil _ _ _ _) _ _ _ rfl A3.out (Mh _) ?a1 ?a2 ?a3 ?_)
 case a1=>unfold maxLen;omega
 case a2=>omega
 case a3=>exact Nat.le_refl _
 intro v3 w3 hown hg
 try rw[Nat.zero_add,List.nil_append] at hown
 clear y0 y0' z3
 have hb3:Below w2.heap.size w2 w3:=Below.grown (Below.refl _ _) hg (Nat.le_refl _) (by simp[Value.ownBlock])
 have fd3:=FD2.out.later hb3
 obtain⟨y0,y0'⟩:=fd3.open (k:=2) rfl
 obtain⟨m1,m2,m3,rfl⟩:=Ky hown
 have HO3:=Lib.hid hown;have HB3:=Lib.hid hb3;have FD3:=Lib.hid fd3
 clear hown hg hb3 fd3
 go_upto_region 4 with (fail)
 have hk3:U6 90 w3 (w3.setCell ⟨D,2,none⟩ (.slice m1 m2 m3)):=Qx FD3.out _
 have ho3:=J9 HO3.out hk3 (by decide)
 have ho1:=J9 (Dn HO1.out HB3.out) hk3 (by decide)
 have fd4:=FD3.out.put (k:=2) (.slice m1 m2 m3)
 have hz3:=HB3.out.size
 have hpm:∀ b,(Value.slice p1 p2 p3).ownBlock=some b→(Value.slice m1 m2 m3).ownBlock≠some b:=fun b h1 h2=>by
  have:=(C3 HO1.out h1).2
  have:=(C3 HO3.out h2).1
  omega
 have hb4:=(HB2.out.trans (HB3.out.mono HB2.out.size)).setCell (p:=⟨D,2,none⟩) (by show w.heap.size≤D;have:=HD.out;omega) (.slice m1 m2 m3)
 have fc4:Fresh (w3.setCell ⟨D,2,none⟩ (.slice m1 m2 m3)) w.heap.size (.cells #[.slice a1 np c1,.slice a2 nr c2,.slice a3 nm c3,.slice a4 nb c4] 90):=(Below.heap_setCell w3 ⟨D,2,none⟩ _ _ hne1).trans (FC2.out.later HB3.out)
 have fr4:Fresh (w3.setCell ⟨D,2,none⟩ (.slice m1 m2 m3)) (w.heap.size+1) (.cells #[.slice none 0 0,.slice none 0 0,.slice none 0 0,.slice none 0 0] 90):=(Below.heap_setCell w3 ⟨D,2,none⟩ _ _ hne2).trans (FR2.out.later HB3.out)
 have hz4:(w3.setCell ⟨D,2,none⟩ (.slice m1 m2 m3)).heap.size=w3.heap.size:=World.size_setCell _ _ _
 clear HO1 HO3 hk3 y0 y0' FD3 FD2 FC2 FR2
 obtain⟨w4,hw4⟩:∃ w4,w3.setCell ⟨D,2,none⟩ (.slice m1 m2 m3)=w4:=⟨_,rfl⟩
 rw[hw4] at ho1 ho3 fd4 fc4 fr4 hb4 hz4 ⊢
 have fd4:Fresh w4 D (.cells #[.slice p1 p2 p3,.slice none 0 0,.slice m1 m2 m3,.slice none 0 0] 90):=fd4
 clear hw4
 have hDM:D < w4.heap.size:=by have:=HZ2.out;omega
 obtain⟨M,hM⟩:∃ M,w4.heap.size=M:=⟨_,rfl⟩
 have HO1:=Lib.hid ho1;have HO3:=Lib.hid (Wl ho3 (B':=W.heap.size) (by have:=HZ2.out;have:=HSZ.out;omega) fun _ _ _=>rfl);have FD4:=Lib.hid fd4;have FC4:=Lib.hid fc4;have FR4:=Lib.hid fr4;have HB4:=Lib.hid hb4;have HM:=Lib.hid hM;have HPM:=Lib.hid hpm
 have HDM:=Lib.hid (show D < M by omega)
 clear ho1 ho3 fd4 fc4 fr4 hb4 hz4 hz3 hM hDM hpm HB3 HB2
 have HMMM:=Lib.hid (Nat.le_refl M)
 go_wp2_with fail
 go_loopw [4] (fun i wr=>∃ (k:Nat) (v2:Value) (xr:List Value),i=.int .i64 k∧k≤nr∧Below w.heap.size w wr∧M≤wr.heap.size∧(∀ b,b < M→b≠D→wr.heap[b]?=w4.heap[b]?)∧Fresh wr D (.cells #[.slice p1 p2 p3,v2,.slice m1 m2 m3,.slice none 0 0] 90)∧RowsAt M wr 31 3 1 v2 xr ((c.regs.take k).map (List.map (Value.int .i64)))) (fun i _=>nr - (intOf i).toNat)
 case atStart=>exact⟨0,.slice none 0 0,[],rfl,by omega,HB4.out,by have:=HM.out;omega,fun _ _ _=>rfl,FD4.out,RowsAt.nil _ _ _ _ _⟩
 case round =>
  obtain⟨k,v2,xr,rfl,hk,hb,hz,hkp,hfd,hR⟩:=hrel
  have hcell:=(hkp w.heap.size (by have:=HD.out;have:=HDM.out;have:=HMMM.out;omega) (by have:=HD.out;omega)).trans FC4.out
  have hcell:Fresh wr w.heap.size (.cells #[.slice a1 np c1,.slice a2 nr c2,.slice a3 nm c3,.slice a4 nb c4] 90):=hcell
  have zc:=(hcell.open (k:=1) rfl).1
  have HBr:=Lib.hid hb;have HKP:=Lib.hid hkp;have HFD:=Lib.hid hfd;have HR:=Lib.hid hR;have HZr:=Lib.hid hz
  clear hb hkp hfd hR hcell
  by_cases hlt:k < nr
  ·have hkl:k < c.regs.length:=by have:=N2.out;omega
   obtain⟨b,o,vr,rfl,x1,sr⟩:=H2.out k hkl
   have y1:=cell_later HBr.out x1
   have SRR:=Lib.hid (A0y (sr.mono (F3 _) HBr.out))
   have HL:=Lib.hid (L5.out _ hkl)
   obtain⟨vra,vrc,rfl,_⟩:=Qw sr
   clear x1 sr
   have hrl:c.regs[k].length≤300:=Nat.le_trans HL.out (by decide)
   go_wp2_with (at_builtin;refine Jt rfl _ _ 31 rfl wr.heap.size 3 i0 _ 1 8 Tryz.underlying31 hi hi0 hi1 hi2 rfl (by decide) _ 0 [] rfl (World.ownsRow_nil _ _ _ _) _ _ _ rfl SRR.out (Mh _) ?a1 ?a2 ?a3 ?_)
   case a1=>unfold maxLen;omega
   case a2=>omega
   case a3=>exact Nat.le_refl _
   intro r w5 hown hg
   try rw[Nat.zero_add,List.nil_append] at hown
   have hb5:Below wr.heap.size wr w5:=Below.grown (Below.refl _ _) hg (Nat.le_refl _) (by simp[Value.ownBlock])
   obtain⟨xa,xn,xc,rfl⟩:=Ky hown
   have fd5:=HFD.out.later hb5
   have yd:=fd5.open (k:=1) rfl
   obtain⟨yd,yd'⟩:=yd
   have hlk:((c.regs.take k).map (List.map (Value.int .i64))).length=k:=by rw[A5,List.length_take];omega
   have howO:=Dn (Dn HR.out.own hb5) ((Below.refl _ _).alloc (Nat.le_refl _) (.cells #[.slice xa xn xc] 31))
   rw[hlk] at howO
   have hsz5:(w5.alloc (.cells #[.slice xa xn xc] 31)).heap.size=w5.heap.size+1:=World.size_alloc _ _
   have HO:=Lib.hid howO;have HOX:=Lib.hid hown;have HB5:=Lib.hid hb5;have HLK:=Lib.hid hlk;have HG:=Lib.hid hg;have FD5:=Lib.hid fd5;have HSZ5:=Lib.hid hsz5
   have hz5:=hb5.size
   clear howO hown hb5 hlk hg fd5 hsz5 y1 zc
   go_wp2_with (at_builtin;refine wpList_append_lies _ rfl _ _ 87 rfl M 31 j0 _ 1 24 Tryz.underlying87 ji ji0 ji1 ji2 rfl (by decide) _ k xr rfl HO.out _ 1 1 [.slice xa xn xc] rfl rfl (World.news_of_block (heap_alloc_new w5 _)) (by intro u hu;simp at hu;subst hu;rfl) (by decide) ?a1 ?a2 ?a3 _ rfl ?_)
   case a1=>unfold maxLen;omega
   case a2=>omega
   case a3=>rw[HSZ5.out];omega
   intro g cp w6 hw6 hgr hlc hlt6
   have hp:=RowsAt.push (x:=.slice xa xn xc) HR.out HZr.out (HB5.out.trans ((Below.refl _ _).alloc hz5 (.cells #[.slice xa xn xc] 31))) (Dn HOX.out ((Below.refl _ _).alloc (Nat.le_refl _) _)) (by rw[HLK.out];exact hw6) hgr (by rw[HSZ5.out];exact hlc) rfl
   obtain⟨s1,s2,s3⟩:=A6g HZr.out HG.out hgr fun q hq=>(C3 HR.out.own hq).1
   have fd6:=Fresh.open (k:=1) (show Fresh w6 D (.cells #[.slice p1 p2 p3,v2,.slice m1 m2 m3,.slice none 0 0] 90) from(s2 D HDM.out).trans HFD.out) rfl
   have HFD6:=Lib.hid (show Fresh w6 D (.cells #[.slice p1 p2 p3,v2,.slice m1 m2 m3,.slice none 0 0] 90) from(s2 D HDM.out).trans HFD.out)
   obtain⟨y6,y6'⟩:=fd6
   have HP:=Lib.hid hp;have HS2:=Lib.hid s2;have HS3:=Lib.hid (s3 w w.heap.size (by have:=HD.out;have:=HDM.out;omega) HBr.out)
   clear hp s2 s3 hgr hlc hlt6 hw6 yd yd'
   go_wp2_with fail
   go_round
   case rel =>
    refine⟨k+1,.slice (some ⟨g,0,none⟩) (k+1) cp,xr++[.slice xa xn xc],by go_num,by omega,HS3.out.setCell (p:=⟨D,1,none⟩) (by show w.heap.size≤D;have:=HD.out;omega) _,by rw[World.size_setCell];exact s1,fun b h1 h2=>?_,HFD6.out.put (k:=1) _,?_⟩
    ·exact(Below.heap_setCell w6 ⟨D,1,none⟩ _ b h2).trans ((HS2.out b h1).trans (HKP.out b h1 h2))
    ·have:=HP.out.keeps (Qx HFD6.out (.slice (some ⟨g,0,none⟩) (k+1) cp) (k:=1)) (by decide) (by decide)
     rw[List.take_add_one,A6 hkl,Option.toList_some,List.map_append]
     exact this
   case measure=>simp[intOf];omega
  ·have hkn:nr=k:=by omega
   subst hkn
   go_wp2_with fail
   clear zc hlt
   obtain⟨wA,hwA⟩:∃ wA,wA=wr:=⟨_,rfl⟩
   obtain⟨xR,hxR⟩:∃ xR,xR=xr:=⟨_,rfl⟩
   obtain⟨ra,rn,rcp,hrf⟩:=Ky HR.out.own
   subst hrf
   rw[← hwA] at HBr HKP HFD HR HZr ⊢
   rw[← hxR] at HR
   have hR5:=HR.out
   rw[List.take_of_length_le (by rw[N2.out];exact Nat.le_refl _)] at hR5
   obtain⟨M5,hM5⟩:∃ M5,wA.heap.size=M5:=⟨_,rfl⟩
   have HM5:=Lib.hid hM5
   have HRA:=Lib.hid hR5;have HBA:=Lib.hid HBr.out;have HFDA:=Lib.hid HFD.out;have HKPA:=Lib.hid HKP.out
   have HMM5:=Lib.hid (show M≤M5 by have:=HZr.out;omega)
   have HMMM5:=HMM5
   have FC5:=Lib.hid (show Fresh wA w.heap.size (.cells #[.slice a1 np c1,.slice a2 nr c2,.slice a3 nm c3,.slice a4 nb c4] 90) from(HKP.out w.heap.size (by have:=HD.out;have:=HDM.out;omega) (by have:=HD.out;omega)).trans FC4.out)
   clear hM5 hR5 hwA hxR HBr HFD HKP HR HZr
   go_loopw [6] (fun i wr=>∃ (k:Nat) (v2:Value) (xr:List Value),i=.int .i64 k∧k≤nb∧Below w.heap.size w wr∧M5≤wr.heap.size∧(∀ b,b < M5→b≠D→wr.heap[b]?=wA.heap[b]?)∧Fresh wr D (.cells #[.slice p1 p2 p3,.slice ra rn rcp,.slice m1 m2 m3,v2] 90)∧RowsAt M5 wr 152 157 2 v2 xr ((c.buf.take k).map (List.flatMap N9))) (fun i _=>nb - (intOf i).toNat)
   case atStart=>exact⟨0,.slice none 0 0,[],rfl,by omega,HBA.out,by have:=HM5.out;omega,fun _ _ _=>rfl,HFDA.out,RowsAt.nil _ _ _ _ _⟩
   case round =>
    obtain⟨k,v2,xr,rfl,hk,hb,hz,hkp,hfd,hR⟩:=hrel
    have hcell:=(hkp w.heap.size (by have:=HD.out;have:=HDM.out;have:=HMMM5.out;omega) (by have:=HD.out;omega)).trans FC5.out
    have hcell:Fresh wr w.heap.size (.cells #[.slice a1 np c1,.slice a2 nr c2,.slice a3 nm c3,.slice a4 nb c4] 90):=hcell
    have zc:=(hcell.open (k:=3) rfl).1
    have HBr:=Lib.hid hb;have HKP:=Lib.hid hkp;have HFD:=Lib.hid hfd;have HR:=Lib.hid hR;have HZr:=Lib.hid hz
    clear hb hkp hfd hR hcell
    by_cases hlt:k < nb
    ·have hkl:k < c.buf.length:=by have:=N4.out;omega
     obtain⟨b,o,vr,rfl,x1,sr⟩:=H4.out k hkl
     have y1:=cell_later HBr.out x1
     have SRR:=Lib.hid (Abg (sr.mono (A2x) HBr.out))
     have HL:=Lib.hid (L6.out _ hkl)
     obtain⟨vra,vrc,rfl,_⟩:=Yp sr
     clear x1 sr
     have hrl:c.buf[k].length≤300:=Nat.le_trans HL.out (by decide)
     go_wp2_with (at_builtin;refine Jt rfl _ _ 152 rfl wr.heap.size 157 e0 _ 2 16 Tryz.underlying152 ei ei0 ei1 ei2 rfl (by decide) _ 0 [] rfl (World.ownsRow_nil _ _ _ _) _ _ _ rfl SRR.out (A8c _) ?a1 ?a2 ?a3 ?_)
     case a1=>unfold maxLen;omega
     case a2=>omega
     case a3=>exact Nat.le_refl _
     intro r w5 hown hg
     try rw[Nat.zero_add,List.nil_append] at hown
     have hb5:Below wr.heap.size wr w5:=Below.grown (Below.refl _ _) hg (Nat.le_refl _) (by simp[Value.ownBlock])
     obtain⟨xa,xn,xc,rfl⟩:=Ky hown
     have fd5:=HFD.out.later hb5
     have yd:=fd5.open (k:=3) rfl
     obtain⟨yd,yd'⟩:=yd
     have hlk:((c.buf.take k).map (List.flatMap N9)).length=k:=by rw[A5,List.length_take];omega
     have howO:=Dn (Dn HR.out.own hb5) ((Below.refl _ _).alloc (Nat.le_refl _) (.cells #[.slice xa xn xc] 152))
     rw[hlk] at howO
     have hsz5:(w5.alloc (.cells #[.slice xa xn xc] 152)).heap.size=w5.heap.size+1:=World.size_alloc _ _
     have HO:=Lib.hid howO;have HOX:=Lib.hid hown;have HB5:=Lib.hid hb5;have HLK:=Lib.hid hlk;have HG:=Lib.hid hg;have FD5:=Lib.hid fd5;have HSZ5:=Lib.hid hsz5
     have hz5:=hb5.size
     clear howO hown hb5 hlk hg fd5 hsz5 y1 zc
     go_wp2_with (at_builtin;refine wpList_append_lies _ rfl _ _ 88 rfl M5 152 k0 _ 1 24 Tryz.underlying88 ki ki0 ki1 ki2 rfl (by decide) _ k xr rfl HO.out _ 1 1 [.slice xa xn xc] rfl rfl (World.news_of_block (heap_alloc_new w5 _)) (by intro u hu;simp at hu;subst hu;rfl) (by decide) ?a1 ?a2 ?a3 _ rfl ?_)
     case a1=>unfold maxLen;omega
     case a2=>omega
     case a3=>rw[HSZ5.out];omega
     intro g cp w6 hw6 hgr hlc hlt6
     have hp:=RowsAt.push (x:=.slice xa xn xc) HR.out HZr.out (HB5.out.trans ((Below.refl _ _).alloc hz5 (.cells #[.slice xa xn xc] 152))) (Dn HOX.out ((Below.refl _ _).alloc (Nat.le_refl _) _)) (by rw[HLK.out];exact hw6) hgr (by rw[HSZ5.out];exact hlc) rfl
     obtain⟨s1,s2,s3⟩:=A6g HZr.out HG.out hgr fun q hq=>(C3 HR.out.own hq).1
     have fd6:=Fresh.open (k:=3) (show Fresh w6 D (.cells #[.slice p1 p2 p3,.slice ra rn rcp,.slice m1 m2 m3,v2] 90) from(s2 D (by have:=HDM.out;have:=HMMM5.out;omega)).trans HFD.out) rfl
     have HFD6:=Lib.hid (show Fresh w6 D (.cells #[.slice p1 p2 p3,.slice ra rn rcp,.slice m1 m2 m3,v2] 90) from(s2 D (by have:=HDM.out;have:=HMMM5.out;omega)).trans HFD.out)
     obtain⟨y6,y6'⟩:=fd6
     have HP:=Lib.hid hp;have HS2:=Lib.hid s2;have HS3:=Lib.hid (s3 w w.heap.size (by have:=HD.out;have:=HDM.out;have:=HMMM5.out;omega) HBr.out)
     clear hp s2 s3 hgr hlc hlt6 hw6 yd yd'
     go_wp2_with fail
     go_round
     case rel =>
      refine⟨k+1,.slice (some ⟨g,0,none⟩) (k+1) cp,xr++[.slice xa xn xc],by go_num,by omega,HS3.out.setCell (p:=⟨D,3,none⟩) (by show w.heap.size≤D;have:=HD.out;omega) _,by rw[World.size_setCell];exact s1,fun b h1 h2=>?_,HFD6.out.put (k:=3) _,?_⟩
      ·exact(Below.heap_setCell w6 ⟨D,3,none⟩ _ b h2).trans ((HS2.out b h1).trans (HKP.out b h1 h2))
      ·have:=HP.out.keeps (Qx HFD6.out (.slice (some ⟨g,0,none⟩) (k+1) cp) (k:=3)) (by decide) (by decide)
       rw[List.take_add_one,A6 hkl,Option.toList_some,List.map_append]
       exact this
     case measure=>simp[intOf];omega
    ·have hkn:nb=k:=by omega
     subst hkn
     obtain⟨ba,bn,bc,hbf⟩:=Ky HR.out.own
     subst hbf
     have hR6:=HR.out
     rw[List.take_of_length_le (by rw[N4.out];exact Nat.le_refl _)] at hR6
     have HRB:=Lib.hid hR6
     have fr6:Fresh wr (w.heap.size+1) (.cells #[.slice none 0 0,.slice none 0 0,.slice none 0 0,.slice none 0 0] 90):=(HKP.out (w.heap.size+1) (by have:=HD.out;have:=HDM.out;have:=HMMM5.out;omega) (by have:=HD.out;omega)).trans ((HKPA.out (w.heap.size+1) (by have:=HD.out;have:=HDM.out;omega) (by have:=HD.out;omega)).trans FR4.out)
     have FR6:=Lib.hid fr6
     have g0:=(HFD.out.open (k:=0) rfl).1;have g1:=(HFD.out.open (k:=1) rfl).1;have g2:=(HFD.out.open (k:=2) rfl).1;have g3:=(HFD.out.open (k:=3) rfl).1
     obtain⟨h0,h0'⟩:=fr6.open (k:=0) rfl;obtain⟨h1,h1'⟩:=fr6.open (k:=1) rfl;obtain⟨h2,h2'⟩:=fr6.open (k:=2) rfl;obtain⟨h3,h3'⟩:=fr6.open (k:=3) rfl
     clear hR6 fr6 HR
     go_wp2_with fail
     clear zc hlt
     obtain⟨w9,hw9⟩:∃ w9,(((wr.setCell ⟨w.heap.size+1,0,none⟩ (.slice p1 p2 p3)).setCell ⟨w.heap.size+1,1,none⟩ (.slice ra rn rcp)).setCell ⟨w.heap.size+1,2,none⟩ (.slice m1 m2 m3)).setCell ⟨w.heap.size+1,3,none⟩ (.slice ba bn bc)=w9:=⟨_,rfl⟩
     have hG:w9.heap[w.heap.size+1]?=some (.cells #[.slice p1 p2 p3,.slice ra rn rcp,.slice m1 m2 m3,.slice ba bn bc] 90 (0,0)):=by
      have h:=FR6.out
      unfold Fresh at h
      rw[← hw9]
      simp[World.setCell,Array.getElem?_modify,h]
     have hS9:∀ b,b≠w.heap.size+1→w9.heap[b]?=wr.heap[b]?:=fun b hb=>by
      rw[← hw9]
      exact(Below.heap_setCell _ ⟨w.heap.size+1,3,none⟩ _ b hb).trans ((Below.heap_setCell _ ⟨w.heap.size+1,2,none⟩ _ b hb).trans ((Below.heap_setCell _ ⟨w.heap.size+1,1,none⟩ _ b hb).trans (Below.heap_setCell _ ⟨w.heap.size+1,0,none⟩ _ b hb)))
     have hB9:Below w.heap.size w w9:=by
      rw[← hw9]
      exact(((HBr.out.setCell (p:=⟨w.heap.size+1,0,none⟩) (by show _≤w.heap.size+1;omega) _).setCell (p:=⟨w.heap.size+1,1,none⟩) (by show _≤w.heap.size+1;omega) _).setCell (p:=⟨w.heap.size+1,2,none⟩) (by show _≤w.heap.size+1;omega) _).setCell (p:=⟨w.heap.size+1,3,none⟩) (by show _≤w.heap.size+1;omega) _
     rw[hw9]
     have hl1:=HD.out;have hl2:=HDM.out;have hl3:=HMMM5.out;have hl4:=HSZ.out
     have hold:∀ b,W.heap.size≤b→b < w4.heap.size→w9.heap[b]?=w4.heap[b]?:=fun b q1 q2=>by
      have:=HM.out
      exact(hS9 b (by omega)).trans ((HKP.out b (by omega) (by omega)).trans (HKPA.out b (by omega) (by omega)))
     have q1:=Wl HO1.out (show w.heap.size≤_ by omega) hold
     have q3:=Wl HO3.out (show w.heap.size≤_ by omega) hold
     have q2:=HRA.out.same (show w.heap.size≤_ by omega) fun b h1 h2=>by
      have:=HM5.out
      exact(hS9 b (by omega)).trans (HKP.out b (by omega) (by omega))
     have q4:=HRB.out.same (show w.heap.size≤_ by omega) fun b h1 h2=>hS9 b (by omega)
     have hpr:∀ (i:Nat) x b,xR[i]?=some x→x.ownBlock=some b→(Value.slice p1 p2 p3).ownBlock≠some b∧(Value.slice m1 m2 m3).ownBlock≠some b:=fun i x b h1 h2=>by
      have h3:=(HRA.out.lt h1 h2).1
      have:=HM.out
      exact⟨fun e=>by have:=(C3 HO1.out e).2;omega,fun e=>by have:=(C3 HO3.out e).2;omega⟩
     refine bodyPost_ret (results_cell_row rfl _ _ (w.heap.size+1) 90 #[.slice p1 p2 p3,.slice ra rn rcp,.slice m1 m2 m3,.slice ba bn bc] (0,0) _ rfl hG Tryz.underlying90 rfl (by kernel_rfl)) rfl ?_
     exact⟨hB9,_,_,_,_,xR,xr,rfl,⟨⟨by rw[N1.out];exact q1,q2,by rw[N3.out];exact q3,q4⟩,HPM.out,hpr⟩⟩
theorem Akh {w:World} {B:Nat} {e:TypeId} {size n:Nat} {v:Value} {xs:List Value} (h:w.ownsRow B e size v n xs) (h0:0 < n):∃ g cap cs,v=.slice (some ⟨g,0,none⟩) n cap∧B≤g∧w.heap[g]?=some (.cells cs e (0,0))∧n≤cap∧cap≤maxLen∧cs.size=cap*size∧cs.toList.take (n*size)=xs:=by
 rcases h.2 with ⟨_,rfl⟩ | h
 ·omega
 ·exact h
theorem Anz {w:World} {B:Nat} {e:TypeId} {size n:Nat} {v:Value} {xs:List Value} (h:w.ownsRow B e size v n xs) {g:Nat} (hg:v.ownBlock=some g) {k:Nat} (hk:k < n*size) (x:Value):(w.setCell ⟨g,k,none⟩ x).ownsRow B e size v n (xs.set k x):=by
 refine⟨by rw[List.length_set];exact h.1,.inr ?_⟩
 rcases h.2 with ⟨rfl,_⟩ | ⟨g',cap,cs,rfl,h1,h2,h3,h4,h5,h6⟩
 ·cases hg
 ·obtain rfl:g'=g:=by simpa [Value.ownBlock] using hg
  refine⟨g',cap,cs.setIfInBounds k x,rfl,h1,by simp[World.setCell,Array.getElem?_modify,h2],h3,h4,by simp[h5],?_⟩
  rw[← h6]
  simp only[Array.toList_setIfInBounds]
  rw[List.take_set]
theorem RowsAt.put {B:Nat} {w w2:World} {eT e:TypeId} {size:Nat} {v:Value} {vals:List Value} {rows:List (List Value)} (h:RowsAt B w eT e size v vals rows) (hne:e≠eT) {k:Nat} {x y:Value} {r:List Value} {m:Nat} (hx:vals[k]?=some x) (hk:U6 e w w2)
 (hoth:∀ b,b < w.heap.size→x.ownBlock≠some b→w2.heap[b]?=w.heap[b]?) (hy:w2.ownsRow B e size y m r) (hnew:∀ b,y.ownBlock=some b→x.ownBlock=some b∨w.heap.size≤b) {g:Nat} (hg:v.ownBlock=some g) :
 RowsAt B (w2.setCell ⟨g,k,none⟩ y) eT e size v (vals.set k y) (rows.set k r):=by
 have hkv:k < vals.length:=(List.getElem?_eq_some_iff.1 hx).1
 have hkr:k < rows.length:=by rw[← h.len];exact hkv
 obtain⟨mx,hmx⟩:=h.row k x _ hx (A6 hkr)
 have ho2:=J9 h.own hk (Ne.symm hne)
 obtain⟨g',cap,cs,hv,_,hgg,_⟩:=Akh ho2 (by omega:0 < rows.length)
 obtain rfl:g'=g:=by rw[hv] at hg;simpa [Value.ownBlock] using hg
 have hks:U6 eT w2 (w2.setCell ⟨g',k,none⟩ y):=Qx hgg y
 have hgy:y.ownBlock≠some g':=fun e1=>by
  rcases hnew g' e1 with h1 | h1
  ·exact h.apart k x g' hx h1 hg
  ·have:=(C3 h.own hg).2;omega
 have key:∀ (i:Nat) (z:Value),(vals.set k y)[i]?=some z→(i=k∧z=y)∨(i≠k∧vals[i]?=some z):=fun i z hz=>by
  rw[List.getElem?_set] at hz
  split at hz
  ·rename_i hki
   subst hki
   (try rw[if_pos hkv] at hz)
   exact .inl ⟨rfl,(Option.some.inj hz).symm⟩
  ·rename_i hki
   exact .inr ⟨fun h=>hki h.symm,hz⟩
 refine⟨by rw[List.length_set,List.length_set];exact h.len,?_,fun i z r' hz hr'=>?_,fun i z b hz hb=>?_,fun i j z z' b hz hz' hb hb'=>?_⟩
 ·have:=Anz ho2 hg (k:=k) (by omega) y
  rwa [List.length_set]
 ·rcases key i z hz with ⟨rfl,rfl⟩ | ⟨hik,hz⟩
  ·obtain rfl:r=r':=by rw[List.getElem?_set_self hkr] at hr';exact Option.some.inj hr'
   exact⟨m,J9 hy hks hne⟩
  ·rw[List.getElem?_set_ne (Ne.symm hik)] at hr'
   obtain⟨m',hm'⟩:=h.row i z r' hz hr'
   refine⟨m',J9 (Ib hm' fun b hb=>⟨(C3 hm' hb).1,hoth b (C3 hm' hb).2 fun e1=>hik (h.dist i k z x b hz hx hb e1)⟩) hks hne⟩
 ·rcases key i z hz with ⟨rfl,rfl⟩ | ⟨hik,hz⟩
  ·intro e1
   rw[hg] at e1
   cases e1
   exact hgy hb
  ·exact h.apart i z b hz hb
 ·rcases key i z hz with ⟨rfl,rfl⟩ | ⟨hik,hz2⟩<;>rcases key j z' hz' with ⟨rfl,rfl⟩ | ⟨hjk,hz2'⟩
  ·rfl
  ·rcases hnew b hb with h1 | h1
   ·exact absurd (h.dist j _ z' x b hz2' hx hb' h1) hjk
   ·have:=(h.lt hz2' hb').2;omega
  ·rcases hnew b hb' with h1 | h1
   ·exact absurd (h.dist i _ z x b hz2 hx hb h1) hik
   ·have:=(h.lt hz2 hb).2;omega
  ·exact h.dist i j z z' b hz2 hz2' hb hb'
theorem Yo {α:Type} {S:Nat→Nat→Prop} {w:World} {f:α→List AV} {g:α→List Value}:∀ (l:List α),(∀ x ∈ l,Reps S w [] [] (f x) (g x)∧E5 (g x))→Repss S w (l.map f) (l.map g)
 | [],_=>.nil
 | x :: l,h=>.cons _ _ _ _ (h x List.mem_cons_self).1 (h x List.mem_cons_self).2 (Yo l fun y hy=>h y (List.mem_cons_of_mem _ hy))
theorem A68 {α:Type} {S:Nat→Nat→Prop} {w:World} {f:α→AV}:∀ (l:List α) (vals:List Value),vals.length=l.length→(∀ (i:Nat) x v,l[i]?=some x→vals[i]?=some v→Rep S w [] [] (f x) v∧v.oneCell'=true)→Repss S w (l.map fun x=>[f x]) (vals.map fun v=>[v])
 | [],[],_,_=>.nil
 | x :: l,v :: vals,hl,h=>.cons _ _ _ _ (.cons _ _ _ _ _ _ (h 0 x v rfl rfl).1 (.nil _ _)) (fun u hu=>by rw[List.mem_singleton] at hu;rw[hu];exact(h 0 x v rfl rfl).2) (A68 l vals (by simpa using hl) fun i x v h1 h2=>h (i+1) x v (by simpa using h1) (by simpa using h2))
 | [],_ :: _,hl,_=>by simp at hl
 | _ :: _,[],hl,_=>by simp at hl
abbrev okI (x:Int):Prop:=(Lit.int .i64 x).wf=true
structure WfC (c:Ac):Prop where
 pc:∀ x ∈ c.pc,okI x
 regs:∀ r ∈ c.regs,∀ x ∈ r,okI x
 mem:∀ x ∈ c.mem,okI x
 buf:∀ b ∈ c.buf,∀ x ∈ b,okI x.loc∧okI x.n
theorem A3w {w:World} {v:Value} {l:List Int} (h:Sl rI w v l):∀ x ∈ l,okI x:=by
 intro x hx
 obtain⟨i,hi,rfl⟩:=List.getElem_of_mem hx
 obtain⟨a,cap,_,h1⟩:=Qw h
 obtain⟨_,_,_,_,b1,b2⟩:=h1 i hi
 unfold okI
 rw[Lit.wf,A8]
 exact⟨decide_eq_true b1,decide_eq_true b2⟩
theorem Aqg {w:World} {v:Value} {l:List A2} (h:Sl Qt w v l):∀ x ∈ l,okI x.loc∧okI x.n:=by
 intro x hx
 obtain⟨i,hi,rfl⟩:=List.getElem_of_mem hx
 obtain⟨a,cap,_,h1⟩:=Yp h
 obtain⟨_,_,_,_,_,b1,b2⟩:=h1 i hi
 unfold okI
 rw[Lit.wf,A8,Lit.wf,A8]
 exact⟨⟨decide_eq_true b1.1,decide_eq_true b1.2⟩,decide_eq_true b2.1,decide_eq_true b2.2⟩
theorem ConfV.wf {w:World} {v:Value} {c:Ac} (h:ConfV w v c):WfC c:=by
 obtain⟨_,_,_,_,_,s1,s2,s3,s4⟩:=h
 refine⟨A3w s1,fun r hr=>?_,A3w s3,fun b hb=>?_⟩
 ·obtain⟨i,hi,rfl⟩:=List.getElem_of_mem hr
  obtain⟨a,cap,_,h1⟩:=Ql s2
  obtain⟨_,_,u,_,_,hu⟩:=h1 i hi
  exact A3w hu
 ·obtain⟨i,hi,rfl⟩:=List.getElem_of_mem hb
  obtain⟨a,cap,_,h1⟩:=Ql s4
  obtain⟨_,_,u,_,_,hu⟩:=h1 i hi
  exact Aqg hu
theorem Mk {w:World} {B:Nat} {e:TypeId} {size n:Nat} {v:Value} {xs:List Value} (h:w.ownsRow B e size v n xs):v.oneCell'=true:=by
 obtain⟨a,m,c,rfl⟩:=Ky h
 rfl
theorem Kt {w:World} {B:Nat} {e:TypeId} {size n:Nat} {v:Value} {xs:List Value} (h:w.ownsRow B e size v n xs) {g:Nat} (hg:v.ownBlock=some g):B≤g∧∃ cs,w.heap[g]?=some (.cells cs e (0,0)):=by
 rcases h.2 with ⟨rfl,_⟩ | ⟨g',cap,cs,rfl,h1,h2,_⟩
 ·cases hg
 ·obtain rfl:g'=g:=by simpa [Value.ownBlock] using hg
  exact⟨h1,cs,h2⟩
theorem Fresh.new (w:World) (o:Obj):Fresh (w.alloc o) w.heap.size o:=heap_alloc_new w o
theorem Fresh.setCell {w:World} {b:Nat} {o:Obj} (h:Fresh w b o) {p:Addr} (hp:p.block≠b) (v:Value):Fresh (w.setCell p v) b o:=(Below.heap_setCell w p v b (Ne.symm hp)).trans h
section
variable {S:Nat→Nat→Prop} {W:World}
end
theorem Blk.put {w:World} {g:Nat} {u:Value} (h:Blk w g u) (v:Value):Blk (w.setCell ⟨g,0,none⟩ v) g v:=by
 obtain⟨ex,E,h⟩:=h
 refine⟨ex,E,?_⟩
 simp[World.setCell,Array.getElem?_modify,h]
theorem Blk.stays {w:World} {g:Nat} {u:Value} (h:Blk w g u) {o:Nat} (ho:o < 1):∃ v,stay w g o=some v∧v.2.2=(0,0):=by
 obtain⟨ex,E,h⟩:=h
 obtain rfl:o=0:=by omega
 exact⟨(u,none,(0,0)),Lr h (by simp[World.cell?,h]),rfl⟩
theorem Fresh.stays {w:World} {g:Nat} {cs:Array Value} {E:TypeId} (h:Fresh w g (.cells cs E)) {o:Nat} (ho:o < cs.size):∃ v,stay w g o=some v∧v.2.2=(0,0) :=
 ⟨(cs[o],none,(0,0)),Lr h (by unfold Fresh at h;simp[World.cell?,h,ho]),rfl⟩
abbrev z0:Value:=.slice none 0 0
abbrev At2 (r:Int):List Value:=List.replicate r.toNat (.int .i64 0)
structure StI (w w1:World) (C:Nat) (u:Ak) (wr:World) (vp vr vb:Value) (xr:List Value) (np nr nb:Nat):Prop where
 fc:Fresh wr C (.cells #[vp,vr,z0,vb] 90)
 bel:Below w.heap.size w wr
 low:∀ b,b < C→wr.heap[b]?=w1.heap[b]?
 wC:w.heap.size≤C
 pc:wr.ownsRow (C+1) 3 1 vp np (List.replicate np (.int .i64 0))
 regs:RowsAt (C+1) wr 31 3 1 vr xr ((u.regs.take nr).map At2)
 buf:wr.ownsRow (C+1) 152 1 vb nb (List.replicate nb z0)
 cross:∀ (i:Nat) x b,xr[i]?=some x→x.ownBlock=some b→vp.ownBlock≠some b
theorem StI.sz {w w1:World} {C:Nat} {u:Ak} {wr:World} {vp vr vb:Value} {xr:List Value} {np nr nb:Nat} (h:StI w w1 C u wr vp vr vb xr np nr nb):C < wr.heap.size:=by
 have:=h.fc
 unfold Fresh at this
 exact(Array.getElem?_eq_some_iff.1 this).1
theorem StI.later {w w1:World} {C:Nat} {u:Ak} {wr wA:World} {vp vr vb:Value} {xr:List Value} {np nr nb:Nat} (h:StI w w1 C u wr vp vr vb xr np nr nb) (hA:Below wr.heap.size wr wA):StI w w1 C u wA vp vr vb xr np nr nb :=
 ⟨h.fc.later hA,h.bel.trans (hA.mono h.bel.size),fun b hb=>(hA.block b (by have:=h.sz;omega)).trans (h.low b hb),h.wC,Dn h.pc hA,h.regs.below hA,Dn h.buf hA,h.cross⟩
section
variable {w w1:World} {C:Nat} {u:Ak} {wA wB:World} {vp vr vb:Value} {xr:List Value} {np nr nb:Nat}
end
structure StD (w w1:World) (B D:Nat) (wr:World) (c:Ac) (vp vr vm vb:Value) (xr xb:List Value):Prop where
 fd:Fresh wr D (.cells #[vp,vr,vm,vb] 90)
 bel:Below w.heap.size w wr
 low:∀ b,b < B→wr.heap[b]?=w1.heap[b]?
 wB:w.heap.size≤B
 own:A5h B wr c vp vr vm vb xr xb
section
variable {w w1:World} {B D:Nat} {wr:World} {c:Ac} {vp vr vm vb:Value} {xr xb:List Value}
theorem StD.later {wA:World} (h:StD w w1 B D wr c vp vr vm vb xr xb) (hB:B≤wr.heap.size) (hA:Below wr.heap.size wr wA):StD w w1 B D wA c vp vr vm vb xr xb :=
 ⟨h.fd.later hA,h.bel.trans (hA.mono h.bel.size),fun b hb=>(hA.block b (by omega)).trans (h.low b hb),h.wB,⟨⟨Dn h.own.pc hA,h.own.regs.below hA,Dn h.own.mem hA,h.own.buf.below hA⟩,h.own.pm,h.own.pr⟩⟩
end
end Go.Proofs.YtfabdppicogkmaaGreat
end
end
section
namespace Go.Proofs.YtfabdppicogkmaaGreat
open Go.RowKit
set_option linter.unusedVariables false
set_option linter.unusedSimpArgs false
def SX (S:Nat→Nat→Prop) (w2:World) (base:Nat) (L:List Nat):Nat→Nat→Prop:=fun b o=>S b o∨(base≤b∧b ∉ L∧∃ v,stay w2 b o=some v∧v.2.2=(0,0))
theorem Akn {P:Program} {S:Nat→Nat→Prop} {w w2:World} (hS:∀ b o,S b o→∃ u,stay w b o=some u) (hb:Below w.heap.size w w2) (L:List Nat):Sim P w.heap.size (SX S w2 w.heap.size L) w2 [] []:=by
 obtain⟨k1,k2⟩:=Vr hS hb
 refine⟨rfl,hb.size,fun b o h=>?_,fun id o ho=>by simp at ho,fun i j b hi=>by simp[Af] at hi⟩
 rcases h with h | ⟨_,_,v,h1,h2⟩
 ·exact k2 b o h
 ·exact⟨v,h1,fun _=>h2⟩
theorem Xe {S:Nat→Nat→Prop} {w w2:World} (hS:∀ b o,S b o→∃ u,stay w b o=some u) (hb:Below w.heap.size w w2) (L:List Nat):SExt S w (SX S w2 w.heap.size L) w2:=fun b o h=>⟨.inl h,((Vr hS hb).1 b o h).2⟩
theorem Ais {S:Nat→Nat→Prop} {w w2:World} (hS:∀ b o,S b o→∃ u,stay w b o=some u) {L:List Nat} {b:Nat} (hb:w.heap.size≤b) (hL:b ∈ L) (o:Nat):¬ SX S w2 w.heap.size L b o:=by
 rintro (h | ⟨_,h,_⟩)
 ·obtain⟨v,hv⟩:=hS b o h
  have:=Hr hv
  omega
 ·exact h hL
theorem Zl {S:Nat→Nat→Prop} {w2:World} {base:Nat} {L:List Nat} {b:Nat} {cs:Array Value} {E:TypeId} (hb:base≤b) (hL:b ∉ L) (hh:w2.heap[b]?=some (.cells cs E (0,0))) {o:Nat} (ho:o < cs.size):SX S w2 base L b o :=
 .inr ⟨hb,hL,(cs[o],none,(0,0)),Lr hh (by simp[World.cell?,hh,ho]),rfl⟩
theorem Vq {S:Nat→Nat→Prop} {w:World} {B:Nat} {e:TypeId} {size:Nat} {v:Value} {els:List (List AV)} {vss:List (List Value)} (h:w.ownsRow B e size v vss.length vss.flatten) (hr:Repss S w els vss) (hl:∀ vs ∈ vss,vs.length=size)
 (hS:∀ g cs o,v.ownBlock=some g→B≤g→w.heap[g]?=some (.cells cs e (0,0))→o < cs.size→S g o):Rep S w [] [] (.sl size els) v:=by
 have hlen:=hr.length
 rcases Kw h with ⟨rfl,h0⟩ | ⟨g,cap,ex,rfl,hg,hh,hc,hm,hsz⟩
 ·have:vss=[]:=List.eq_nil_of_length_eq_zero h0
  subst this
  have:els=[]:=List.eq_nil_of_length_eq_zero (by simpa using hlen)
  subst this
  exact Rep.sl [] [] size [] [] none 0 .nil ⟨by simp,fun j vs t x h2 h3=>by simp at h2⟩ ⟨Nat.le_refl _,by decide,fun _=>rfl⟩
 ·have:=Rep.sl (S:=S) (w:=w) [] [] size els vss (some ⟨g,0,none⟩) cap hr ⟨hl,fun j vs t u h2 h3=>?_⟩ ⟨by rw[hlen];exact hc,hm,fun h=>by cases h⟩
  ·rw[hlen] at this;exact this
  ·have ht:t < size:=by
    have:=(List.getElem?_eq_some_iff.1 h3).1
    rw[hl vs (List.mem_of_getElem? h2)] at this
    exact this
   have e1:=Ep hl h2 ht
   rw[h3] at e1
   have hlt:=(List.getElem?_eq_some_iff.1 e1).1
   refine⟨g,0,rfl,hS g _ _ rfl hg hh (by simp;simp at hlt;omega),?_⟩
   rw[show 0+j*size+t=j*size+t by omega]
   simp only[World.cell?,hh]
   have:(vss.flatten++ex)[j*size+t]?=some u:=by rw[List.getElem?_append_left hlt];exact e1
   simpa using this
theorem Pc {S:Nat→Nat→Prop} {w:World} {hp:Hp} {φ:List Pl}:∀ (l:List Int),(∀ y ∈ l,okI y)→Reps S w hp φ (l.map (AV.int .i64)) (l.map (Value.int .i64))
 | [],_=>.nil _ _
 | x :: l,h=>.cons _ _ _ _ _ _ (.int _ _ _ _ (h x List.mem_cons_self)) (Pc l fun y hy=>h y (List.mem_cons_of_mem _ hy))
theorem Xu {S:Nat→Nat→Prop} {w:World} {B n:Nat} {l:List Int} {x:Value} (hl:∀ y ∈ l,okI y) (ho:w.ownsRow B 3 1 x n (l.map (Value.int .i64))) (hS:∀ g cs o,x.ownBlock=some g→B≤g→w.heap[g]?=some (.cells cs 3 (0,0))→o < cs.size→S g o):Rep S w [] [] (aIs l) x:=by
 obtain rfl:=A0r ho (by decide) (k:=l.length) (by simp)
 refine Vq (vss:=l.map fun y=>[Value.int .i64 y]) (e:=3) (B:=B) ?_ (Yo (f:=A0) l fun y hy=>⟨.cons _ _ _ _ _ _ (.int _ _ _ _ (hl y hy)) (.nil _ _),by intro u hu;simp at hu;subst hu;rfl⟩) (by intro vs hv;simp at hv;obtain⟨y,_,rfl⟩:=hv;rfl) hS
 rw[A5,← List.flatMap_def,A99]
 exact ho
theorem A6r {S:Nat→Nat→Prop} {w:World} {B n:Nat} {l:List A2} {x:Value} (hl:∀ y ∈ l,okI y.loc∧okI y.n) (ho:w.ownsRow B 157 2 x n (l.flatMap N9)) (hS:∀ g cs o,x.ownBlock=some g→B≤g→w.heap[g]?=some (.cells cs 157 (0,0))→o < cs.size→S g o):Rep S w [] [] (aEs l) x:=by
 obtain rfl:=A0r ho (by decide) (k:=l.length) (Uh N9 2 W9 l)
 refine Vq (vss:=l.map N9) (e:=157) (B:=B) ?_ (Yo (f:=At) l fun y hy=>⟨.cons _ _ _ _ _ _ (.int _ _ _ _ (hl y hy).1) (.cons _ _ _ _ _ _ (.int _ _ _ _ (hl y hy).2) (.nil _ _)),by intro u hu;simp[N9] at hu;rcases hu with rfl | rfl<;>rfl⟩) (by intro vs hv;simp at hv;obtain⟨y,_,rfl⟩:=hv;rfl) hS
 rw[A5,← List.flatMap_def]
 exact ho
theorem Xj {α:Type} {S:Nat→Nat→Prop} {w:World} {hp:Hp} {φ:List Pl} {f:α→AV}:∀ (l:List α) (vals:List Value),vals.length=l.length→(∀ (i:Nat) x v,l[i]?=some x→vals[i]?=some v→Rep S w hp φ (f x) v)→Reps S w hp φ (l.map f) vals
 | [],[],_,_=>.nil _ _
 | x :: l,v :: vals,hl,h=>.cons _ _ _ _ _ _ (h 0 x v rfl rfl) (Xj l vals (by simpa using hl) fun i x v h1 h2=>h (i+1) x v (by simpa using h1) (by simpa using h2))
 | [],_ :: _,hl,_=>by simp at hl
 | _ :: _,[],hl,_=>by simp at hl
theorem Rn {w:World} {B n m cap g:Nat} {e:TypeId} {xs:List Value} (h:w.ownsRow B e 1 (.slice (some ⟨g,0,none⟩) m cap) n xs):∃ ex,w.heap[g]?=some (.cells (xs++ex).toArray e (0,0))∧B≤g∧n≤cap∧cap≤maxLen:=by
 rcases Kw h with ⟨h1,_⟩ | ⟨g',cap',ex,e1,hg,hh,hc,hm,_⟩
 ·cases h1
 ·obtain⟨e2,_,rfl⟩:=Value.slice.inj e1
  cases e2
  exact⟨ex,hh,hg,hc,hm⟩
set_option maxRecDepth 100000
noncomputable def As2:Xd:=(4,Gw U5) :: (6,Gw Yw) :: (47,Gw I5) :: (12,Gw Uq) :: (38,Gw I6) :: (39,Gw Jc) :: []
noncomputable def An1:Xd :=
 (50,Xt Vi Ar9) ::
 (51,Xt Pr Aic) :: As2
noncomputable def XT:Ext:=Qg An1
open Classical in
noncomputable def Qn:Nat→Ak→Ac→Int→Int→Int→Option (Ac×Bool)
 | 0,_,_,_,_,_=>none
 | _+1,u,c,m,r,t=>if C7 u=true∧G6 u=true∧(1≤m∧m≤3)∧(1≤r∧r≤4)∧D2 u c m r∧0≤t∧t.toNat < u.regs.length then some (Um u c m r t.toNat) else none
open Classical in
noncomputable def J1:Nat→Ac→Int→Int→Int→Option (Ac×Bool)
 | 0,_,_,_,_=>none
 | _+1,c,m,t,l=>if 0≤t∧∃ u room,C7 u=true∧(1≤m∧m≤3)∧(1≤room∧room≤4)∧D2 u c m room∧t.toNat < u.regs.length then some (Gy c m t.toNat l) else none
def I8:Nat→Int→Int→Int→Option (Cf×Int)
 | 0,_,_,_=>none
 | _+1,a,b,c=>(Alj.find? fun e=>decide (e.1=(a,b,c))).map fun e=>(e.2,0)
def Rb:Nat→Option Bool
 | 0=>none
 | _+1=>some true
def Hw:Nat→Ak→Option Bool
 | 0,_=>none
 | _+1,u=>if u ∈ uns then some true else none
def Mc:Nat→Cf→Option (Ak×Int×Int)
 | 0,_=>none
 | _+1,p=>(Wq.find? fun e=>decide (e.1=p)).map fun e=>(e.2,0,0)
def R9:Nat→Ak→Ak→Option Bool
 | 0,_,_=>none
 | _+1,u,v=>if u ∈ uns∧v=u then some true else none
def Wz:Nat→List Kz→Cf→Option (List OpS×Bool)
 | 0,_,_=>none
 | _+1,l,p=>(A2v.find? fun e=>decide (e.1=(l,p))).map fun e=>(e.2,true)
theorem A3u {α β γ:Type} [DecidableEq α] {l:List (α×β)} {x:α} {g:α×β→γ} {r:γ} (h:(l.find? fun e=>decide (e.1=x)).map g=some r):∃ e ∈ l,e.1=x∧r=g e:=by
 cases hf:l.find? fun e=>decide (e.1=x) with
 | none=>rw[hf] at h;cases h
 | some e =>
  rw[hf] at h
  exact⟨e,List.mem_of_find?_eq_some hf,by simpa using List.find?_some hf,(Option.some.inj h).symm⟩
theorem Ab8 {n:Nat} ⦃a:Int⦄ ⦃b:Int⦄ ⦃c:Int⦄ ⦃r:Cf×Int⦄:I8 n a b c=some r→Al Tryz.prog HH XT n 4 [AV.int .i64 a,AV.int .i64 b,AV.int .i64 c] []=some (AV.tup [AV.agg [AV.int .i64 r.1.Qo,AV.sl 3 (List.map Ic r.1.Mn),AV.sl 4 (List.map F6 r.1.E4),AV.sl 3 (List.map Gm r.1.Cw)],AV.int .i64 r.2],[]):=by
 cases n with
 | zero=>intro hm;cases hm
 | succ n =>
  intro hm
  obtain⟨e,he,h1,rfl⟩:=A3u hm
  obtain⟨⟨a',b',c'⟩,p⟩:=e
  cases h1
  have key:∀ e ∈ Alj,Gw U5 [.int .i64 e.1.1,.int .i64 e.1.2.1,.int .i64 e.1.2.2]=some (.tup [aPg e.2,.int .i64 0]):=by
   refine List.forall_mem_cons.2 ⟨?_,List.forall_mem_cons.2 ⟨?_,List.forall_mem_cons.2 ⟨?_,List.forall_mem_cons.2 ⟨?_,List.forall_mem_cons.2 ⟨?_,List.forall_mem_cons.2 ⟨?_,fun _ h=>by cases h⟩⟩⟩⟩⟩⟩<;>kernel_rfl
  exact Ks rfl (key _ he)
theorem V6 {n:Nat} ⦃r:Bool⦄:Rb n=some r→Al Tryz.prog HH XT n 6 [] []=some (AV.bool r,[]):=by
 cases n with
 | zero=>intro hm;cases hm
 | succ n=>intro hm;obtain rfl:=Option.some.inj hm;exact Ks rfl rfl
theorem Aka {p:Ak→Prop} (h1:p O4) (h2:p Q1) (h3:p O5) (h4:p Ps) (h5:p Nw) (h6:p O8):∀ u ∈ uns,p u :=
 List.forall_mem_cons.2 ⟨h1,List.forall_mem_cons.2 ⟨h2,List.forall_mem_cons.2 ⟨h3,List.forall_mem_cons.2 ⟨h4,List.forall_mem_cons.2 ⟨h5,List.forall_mem_cons.2 ⟨h6,fun _ h=>by cases h⟩⟩⟩⟩⟩⟩
theorem V7 {n:Nat} ⦃u:Ak⦄ ⦃r:Bool⦄:Hw n u=some r→Al Tryz.prog HH XT n 47 [AV.agg [AV.int .i64 (u.mod),AV.sl 1 (List.map A0 (u.init)),AV.sl 1 (List.map A0 (u.regs)),AV.sl 1 (List.map Ah (u.code))]] []=some (AV.bool r,[]):=by
 cases n with
 | zero=>intro hm;cases hm
 | succ n =>
  intro hm
  rw[Hw] at hm
  split at hm
  ·rename_i h
   obtain rfl:=Option.some.inj hm
   have key:∀ u ∈ uns,Gw I5 [aU u]=some (.bool true):=by refine Aka ?_ ?_ ?_ ?_ ?_ ?_<;>kernel_rfl
   exact Ks rfl (key u h)
  ·cases hm
theorem A5s {n:Nat} ⦃u:Ak⦄ ⦃v:Ak⦄ ⦃r:Bool⦄:R9 n u v=some r→Al Tryz.prog HH XT n 38 [AV.agg [AV.int .i64 (u.mod),AV.sl 1 (List.map A0 (u.init)),AV.sl 1 (List.map A0 (u.regs)),AV.sl 1 (List.map Ah (u.code))],AV.agg [AV.int .i64 (v.mod),AV.sl 1 (List.map A0 (v.init)),AV.sl 1 (List.map A0 (v.regs)),AV.sl 1 (List.map Ah (v.code))]] []=some (AV.bool r,[]):=by
 cases n with
 | zero=>intro hm;cases hm
 | succ n =>
  intro hm
  rw[R9] at hm
  split at hm
  ·rename_i h
   obtain⟨h,rfl⟩:=h
   obtain rfl:=Option.some.inj hm
   have key:∀ u ∈ uns,Gw I6 [aU u,aU u]=some (.bool true):=by refine Aka ?_ ?_ ?_ ?_ ?_ ?_<;>kernel_rfl
   exact Ks rfl (key _ h)
  ·cases hm
theorem Ww {n:Nat} ⦃p:Cf⦄ ⦃r:Ak×Int×Int⦄:Mc n p=some r→Al Tryz.prog HH XT n 12 [AV.agg [AV.int .i64 p.Qo,AV.sl 3 (List.map Ic p.Mn),AV.sl 4 (List.map F6 p.E4),AV.sl 3 (List.map Gm p.Cw)]] []=some (AV.tup [AV.agg [AV.int .i64 (r.1.mod),AV.sl 1 (List.map A0 (r.1.init)),AV.sl 1 (List.map A0 (r.1.regs)),AV.sl 1 (List.map Ah (r.1.code))],AV.int .i64 r.2.1,AV.int .i64 r.2.2],[]):=by
 cases n with
 | zero=>intro hm;cases hm
 | succ n =>
  intro hm
  obtain⟨e,he,rfl,rfl⟩:=A3u hm
  have key:∀ e ∈ Wq,Gw Uq [aPg e.1]=some (.tup [aU e.2,.int .i64 0,.int .i64 0]):=by
   refine List.forall_mem_cons.2 ⟨?_,List.forall_mem_cons.2 ⟨?_,List.forall_mem_cons.2 ⟨?_,List.forall_mem_cons.2 ⟨?_,List.forall_mem_cons.2 ⟨?_,List.forall_mem_cons.2 ⟨?_,fun _ h=>by cases h⟩⟩⟩⟩⟩⟩<;>kernel_rfl
  exact Ks rfl (key _ he)
theorem A49 {n:Nat} ⦃l:List Kz⦄ ⦃p:Cf⦄ ⦃r:List OpS×Bool⦄:Wz n l p=some r→Al Tryz.prog HH XT n 39 [AV.sl 5 (List.map L8 l),AV.agg [AV.int .i64 p.Qo,AV.sl 3 (List.map Ic p.Mn),AV.sl 4 (List.map F6 p.E4),AV.sl 3 (List.map Gm p.Cw)]] []=some (AV.tup [AV.sl 3 (List.map C0 r.1),AV.bool r.2],[]):=by
 cases n with
 | zero=>intro hm;cases hm
 | succ n =>
  intro hm
  obtain⟨e,he,h1,rfl⟩:=A3u hm
  obtain⟨⟨l',p'⟩,o⟩:=e
  cases h1
  have key:∀ e ∈ A2v,Gw Jc [.sl 5 (List.map L8 e.1.1),aPg e.1.2]=some (.tup [.sl 3 (List.map C0 e.2),.bool true]):=by
   refine List.forall_mem_cons.2 ⟨?_,List.forall_mem_cons.2 ⟨?_,List.forall_mem_cons.2 ⟨?_,List.forall_mem_cons.2 ⟨?_,List.forall_mem_cons.2 ⟨?_,List.forall_mem_cons.2 ⟨?_,List.forall_mem_cons.2 ⟨?_,List.forall_mem_cons.2 ⟨?_,List.forall_mem_cons.2 ⟨?_,List.forall_mem_cons.2 ⟨?_,fun _ h=>by cases h⟩⟩⟩⟩⟩⟩⟩⟩⟩⟩<;>kernel_rfl
  exact Ks rfl (key _ he)
def Q2:Nat→Aq→Int→Int→List Bool→Option (List Int×Bool):=fun _ _ _ _ _=>none
theorem U7 {n:Nat} ⦃v0:Aq⦄ ⦃v1:Int⦄ ⦃v2:Int⦄ ⦃v3:List Bool⦄ ⦃r:(List Int×Bool)⦄:Q2 n v0 v1 v2 v3=some r→Al Tryz.prog HH XT n 95 [AV.agg [AV.sl 1 (List.map A0 v0.Am),AV.sl 1 (List.map A0 v0.Aj),AV.sl 1 (List.map A0 v0.Aw)],AV.int .i64 v1,AV.int .i64 v2,AV.sl 1 (List.map Av v3)] []=some (AV.tup [AV.sl 1 (List.map A0 r.1),AV.bool r.2],[]):=fun h=>by cases h
def Yr:Nat→Aq→List (List Bool)→Int→List Bool→Int→Option (Int×Int):=fun _ _ _ _ _ _=>none
theorem A7c {n:Nat} ⦃v0:Aq⦄ ⦃v1:List (List Bool)⦄ ⦃v2:Int⦄ ⦃v3:List Bool⦄ ⦃v4:Int⦄ ⦃r:(Int×Int)⦄:Yr n v0 v1 v2 v3 v4=some r→Al Tryz.prog HH XT n 94 [AV.agg [AV.sl 1 (List.map A0 v0.Am),AV.sl 1 (List.map A0 v0.Aj),AV.sl 1 (List.map A0 v0.Aw)],AV.sl 1 (List.map B6 v1),AV.int .i64 v2,AV.sl 1 (List.map Av v3),AV.int .i64 v4] []=some (AV.tup [AV.int .i64 r.1,AV.int .i64 r.2],[]):=fun h=>by cases h
def Uy:Nat→List Int→Int→Option (List Bool):=fun _ _ _=>none
theorem A1i {n:Nat} ⦃v0:List Int⦄ ⦃v1:Int⦄ ⦃r:(List Bool)⦄:Uy n v0 v1=some r→Al Tryz.prog HH XT n 93 [AV.sl 1 (List.map A0 v0),AV.int .i64 v1] []=some (AV.sl 1 (List.map Av r),[]):=fun h=>by cases h
def Nr:Nat→List Int→Option Int:=fun _ _=>none
theorem Py {n:Nat} ⦃v0:List Int⦄ ⦃r:Int⦄:Nr n v0=some r→Al Tryz.prog HH XT n 57 [AV.sl 1 (List.map A0 v0)] []=some (AV.int .i64 r,[]):=fun h=>by cases h
def Rz:Nat→Bf→Int→Option (List Int):=fun _ _ _=>none
theorem Ur {n:Nat} ⦃v0:Bf⦄ ⦃v1:Int⦄ ⦃r:List Int⦄:Rz n v0 v1=some r→Al Tryz.prog HH XT n 33 [AV.agg [AV.sl 4 (List.map Cj v0.C5),AV.sl 1 (List.map A0 v0.Cs.Am),AV.sl 1 (List.map A0 v0.Cs.Aj),AV.sl 1 (List.map A0 v0.Cs.Aw),AV.sl 1 (List.map A0 v0.D8),AV.sl 1 (List.map A0 v0.I9)],AV.int .i64 v1] []=some (AV.sl 1 (List.map A0 r),[]):=fun h=>by cases h
theorem A8q {n:Nat} ⦃u:Ak⦄ ⦃c:Ac⦄ ⦃m:Int⦄ ⦃l:Int⦄ ⦃t:Int⦄ ⦃r:Ac×Bool⦄:Qn n u c m l t=some r→Al Tryz.prog HH XT n 50 [AV.agg [AV.int .i64 (u.mod),AV.sl 1 (List.map A0 (u.init)),AV.sl 1 (List.map A0 (u.regs)),AV.sl 1 (List.map Ah (u.code))],AV.agg [AV.sl 1 (List.map A0 (c.pc)),AV.sl 1 (List.map Ag (c.regs)),AV.sl 1 (List.map A0 (c.mem)),AV.sl 1 (List.map An (c.buf))],AV.int .i64 (m),AV.int .i64 (l),AV.int .i64 (t)] []=some (AV.tup [AV.agg [AV.sl 1 (List.map A0 (r.1.pc)),AV.sl 1 (List.map Ag (r.1.regs)),AV.sl 1 (List.map A0 (r.1.mem)),AV.sl 1 (List.map An (r.1.buf))],AV.bool (r.2)],[]):=by
 cases n with
 | zero=>intro hm;cases hm
 | succ n =>
  intro hm
  rw[Qn] at hm
  split at hm
  ·rename_i h
   obtain⟨h1,h2,h3,h4,h5,h6,h7⟩:=h
   obtain⟨k,rfl⟩:∃ k:Nat,t=k:=⟨t.toNat,by omega⟩
   obtain rfl:=Option.some.inj hm
   exact Ks rfl (Acl (enc:=Vi) Ad2 ⟨(u,c,m,l,k),h1,h2,h3,h4,h5,h7⟩)
  ·cases hm
theorem Vk {n:Nat} ⦃c:Ac⦄ ⦃m:Int⦄ ⦃t:Int⦄ ⦃l:Int⦄ ⦃r:Ac×Bool⦄:J1 n c m t l=some r→Al Tryz.prog HH XT n 51 [AV.agg [AV.sl 1 (List.map A0 (c.pc)),AV.sl 1 (List.map Ag (c.regs)),AV.sl 1 (List.map A0 (c.mem)),AV.sl 1 (List.map An (c.buf))],AV.int .i64 (m),AV.int .i64 (t),AV.int .i64 (l)] []=some (AV.tup [AV.agg [AV.sl 1 (List.map A0 (r.1.pc)),AV.sl 1 (List.map Ag (r.1.regs)),AV.sl 1 (List.map A0 (r.1.mem)),AV.sl 1 (List.map An (r.1.buf))],AV.bool (r.2)],[]):=by
 cases n with
 | zero=>intro hm;cases hm
 | succ n =>
  intro hm
  rw[J1] at hm
  split at hm
  ·rename_i h
   obtain⟨h0,h⟩:=h
   obtain⟨k,rfl⟩:∃ k:Nat,t=k:=⟨t.toNat,by omega⟩
   obtain rfl:=Option.some.inj hm
   exact Ks rfl (Acl (enc:=Pr) A8w ⟨(c,m,k,l),h⟩)
  ·cases hm
set_option maxHeartbeats 4000000
noncomputable abbrev CN:=Al Tryz.prog HH XT
noncomputable section
def G9:Nat→Int→Int→Option Bool
 | 0,_,_=>none
 | n+1,G7,Qa=>(bif decide (0≤G7) then(some (decide (G7<Qa))) else(some false))
def Ec (n:Nat)  (Bh:(List Int)) (Bk:Int):Nat→Int→Option (LR Unit Bool)
 | 0,_=>none
 | k2+1,s1=>(bif decide (s1<((Bh.length:Nat):Int)) then((idx Bh s1).bind fun x11=>((G9 n x11 Bk).bind fun y12=>(bif y12 then(Ec n Bh Bk k2 (IntKind.i64.wrap (s1+1))) else(some (.ret false))))) else(some (.out ())))
def Hm:Nat→(List Int)→Int→Option Bool
 | 0,_,_=>none
 | n+1,Bh,Bk=>((Ec n Bh Bk n 0).bind fun o9=>match o9 with|.out _=>(some true)|.ret v=>some v)
def Cn (n:Nat)  (Bh:(List OpS)):Nat→Int→Int→Int→Option (LR (Int×Int) (Int×Int))
 | 0,_,_,_=>none
 | k4+1,s1,s2,s3=>(bif decide (s3<((Bh.length:Nat):Int)) then((idx Bh s3).bind fun x13=>(bif decide (1≤x13.op) then(bif decide (x13.op≤4) then(Cn n Bh k4 (IntKind.i64.wrap (s1+1)) (if s2<(IntKind.i64.wrap (s1+1)) then(IntKind.i64.wrap (s1+1)) else s2) (IntKind.i64.wrap (s3+1))) else(bif (x13.op==5) then(bif decide (1≤s1) then(Cn n Bh k4 s1 (if s2<s1 then s1 else s2) (IntKind.i64.wrap (s3+1))) else(bif decide (6≤x13.op) then(bif decide (x13.op≤14) then(bif decide (2≤s1) then(Cn n Bh k4 (IntKind.i64.wrap (s1 - 1)) (if s2<(IntKind.i64.wrap (s1 - 1)) then(IntKind.i64.wrap (s1 - 1)) else s2) (IntKind.i64.wrap (s3+1))) else(some (.ret ((-1),(-1))))) else(some (.ret ((-1),(-1))))) else(some (.ret ((-1),(-1)))))) else(bif decide (6≤x13.op) then(bif decide (x13.op≤14) then(bif decide (2≤s1) then(Cn n Bh k4 (IntKind.i64.wrap (s1 - 1)) (if s2<(IntKind.i64.wrap (s1 - 1)) then(IntKind.i64.wrap (s1 - 1)) else s2) (IntKind.i64.wrap (s3+1))) else(some (.ret ((-1),(-1))))) else(some (.ret ((-1),(-1))))) else(some (.ret ((-1),(-1))))))) else(bif (x13.op==5) then(bif decide (1≤s1) then(Cn n Bh k4 s1 (if s2<s1 then s1 else s2) (IntKind.i64.wrap (s3+1))) else(bif decide (6≤x13.op) then(bif decide (x13.op≤14) then(bif decide (2≤s1) then(Cn n Bh k4 (IntKind.i64.wrap (s1 - 1)) (if s2<(IntKind.i64.wrap (s1 - 1)) then(IntKind.i64.wrap (s1 - 1)) else s2) (IntKind.i64.wrap (s3+1))) else(some (.ret ((-1),(-1))))) else(some (.ret ((-1),(-1))))) else(some (.ret ((-1),(-1)))))) else(bif decide (6≤x13.op) then(bif decide (x13.op≤14) then(bif decide (2≤s1) then(Cn n Bh k4 (IntKind.i64.wrap (s1 - 1)) (if s2<(IntKind.i64.wrap (s1 - 1)) then(IntKind.i64.wrap (s1 - 1)) else s2) (IntKind.i64.wrap (s3+1))) else(some (.ret ((-1),(-1))))) else(some (.ret ((-1),(-1))))) else(some (.ret ((-1),(-1)))))))) else(some (.out (s1,s2))))
def Iq:Nat→(List OpS)→Option (Int×Int)
 | 0,_=>none
 | n+1,Bh=>((Cn n Bh n 0 0 0).bind fun o11=>match o11 with|.out (x33,x34)=>(some (x33,x34))|.ret v=>some v)
def Cp (n:Nat)  (Bh:(List OpS)) (Ek:(List Int)) (Cb:Int) (F0:Int):Nat→Int→Option (LR Unit Bool)
 | 0,_=>none
 | k2+1,s1=>(bif decide (s1<((Bh.length:Nat):Int)) then((idx Bh s1).bind fun x11=>(bif (x11.op==1) then((G9 n x11.n 10000).bind fun y13=>(bif y13 then(Cp n Bh Ek Cb F0 k2 (IntKind.i64.wrap (s1+1))) else(some (.ret false)))) else(bif (x11.op==2) then((G9 n x11.n Cb).bind fun y17=>(bif y17 then(Cp n Bh Ek Cb F0 k2 (IntKind.i64.wrap (s1+1))) else(some (.ret false)))) else(bif (x11.op==3) then((G9 n x11.n F0).bind fun y21=>(bif y21 then(Cp n Bh Ek Cb F0 k2 (IntKind.i64.wrap (s1+1))) else(some (.ret false)))) else(bif (x11.op==4) then((G9 n x11.t ((Ek.length:Nat):Int)).bind fun y25=>(bif y25 then((idx Ek x11.t).bind fun x28=>((G9 n x11.n x28).bind fun y29=>(bif y29 then(Cp n Bh Ek Cb F0 k2 (IntKind.i64.wrap (s1+1))) else(some (.ret false))))) else(some (.ret false)))) else(Cp n Bh Ek Cb F0 k2 (IntKind.i64.wrap (s1+1)))))))) else(some (.out ())))
def Hx:Nat→(List OpS)→(List Int)→Int→Int→Option Bool
 | 0,_,_,_,_=>none
 | n+1,Bh,Ek,Cb,F0=>((Cp n Bh Ek Cb F0 n 0).bind fun o9=>match o9 with|.out _=>((Iq n Bh).bind fun y33=>(some (y33.1==1)))|.ret v=>some v)
def De:Nat→Bool→Option Int
 | 0,_=>none
 | n+1,Wt=>(bif Wt then(some 1) else(some 0))
def Jp:Nat→Int→Int→Int→Int→Option Int
 | 0,_,_,_,_=>none
 | n+1,Ly,Od,Oe,Kr=>(bif (Ly==6) then(bif decide (Kr=0) then none else(some (Int.tmod (IntKind.i64.wrap (Od+Oe)) Kr))) else(bif (Ly==7) then(bif decide (Kr=0) then none else(some (Int.tmod (IntKind.i64.wrap ((IntKind.i64.wrap (Od - Oe))+Kr)) Kr))) else(bif (Ly==8) then(bif decide (Kr=0) then none else(some (Int.tmod (IntKind.i64.wrap (Od*Oe)) Kr))) else(bif (Ly==9) then((De n (Od==Oe)).bind fun y8=>(some y8)) else(bif (Ly==10) then((De n (Od != Oe)).bind fun y11=>(some y11)) else(bif (Ly==11) then((De n (decide (Od<Oe))).bind fun y14=>(some y14)) else(bif (Ly==12) then((De n (decide (Od≤Oe))).bind fun y17=>(some y17)) else(bif (Ly==13) then(bif (Od != 0) then((De n (Oe != 0)).bind fun y21=>(some y21)) else((De n false).bind fun y23=>(some y23))) else(bif (Od != 0) then((De n true).bind fun y26=>(some y26)) else((De n (Oe != 0)).bind fun y28=>(some y28)))))))))))
def Db (n:Nat)  (Bk:Int) (D1:(List (List Int))):Nat→Int→(List Int)→Option (LR (List Int) (Int×Bool))
 | 0,_,_=>none
 | k11+1,s9,s10=>(bif decide (s9<((D1.length:Nat):Int)) then((idx D1 s9).bind fun x20=>((Hm n x20 Bk).bind fun y21=>(bif y21 then((idx D1 s9).bind fun x24=>(bif decide ((s10.length+1)*9≤140737488355328) then(Db n Bk D1 k11 (IntKind.i64.wrap (s9+1)) (s10++([((x24.length:Nat):Int)]:List Int))) else none)) else(some (.ret (0,false)))))) else(some (.out s10)))
def Ce (n:Nat)  (Bh:(List OpS)) (Bk:Int) (Cb:(List Int)) (D1:(List (List Int))) (Dy:(List Int)):Nat→Int→(List Int)→Option (LR (List Int) (Int×Bool))
 | 0,_,_=>none
 | k34+1,s32,s33=>(bif decide (s32<((Bh.length:Nat):Int)) then((idx Bh s32).bind fun x43=>(bif (x43.op==1) then(bif decide (Bk=0) then none else(bif decide ((s33.length+1)*9≤140737488355328) then(Ce n Bh Bk Cb D1 Dy k34 (IntKind.i64.wrap (s32+1)) (s33++([(Int.tmod x43.n Bk)]:List Int))) else none)) else(bif (x43.op==2) then((idx Cb x43.n).bind fun x50=>(bif decide ((s33.length+1)*9≤140737488355328) then(Ce n Bh Bk Cb D1 Dy k34 (IntKind.i64.wrap (s32+1)) (s33++([x50]:List Int))) else none)) else(bif (x43.op==3) then((idx Dy x43.n).bind fun x55=>(bif decide ((s33.length+1)*9≤140737488355328) then(Ce n Bh Bk Cb D1 Dy k34 (IntKind.i64.wrap (s32+1)) (s33++([x55]:List Int))) else none)) else(bif (x43.op==4) then((idx D1 x43.t).bind fun x60=>((idx x60 x43.n).bind fun x61=>(bif decide ((s33.length+1)*9≤140737488355328) then(Ce n Bh Bk Cb D1 Dy k34 (IntKind.i64.wrap (s32+1)) (s33++([x61]:List Int))) else none))) else(bif (x43.op==5) then((idx s33 (IntKind.i64.wrap (((s33.length:Nat):Int) - 1))).bind fun x66=>((De n (x66==0)).bind fun y67=>((idx s33 (IntKind.i64.wrap (((s33.length:Nat):Int) - 1))).bind fun x69=>(Ce n Bh Bk Cb D1 Dy k34 (IntKind.i64.wrap (s32+1)) (List.set s33 (IntKind.i64.wrap (((s33.length:Nat):Int) - 1)).toNat y67))))) else((idx s33 (IntKind.i64.wrap (((s33.length:Nat):Int) - 2))).bind fun x71=>((idx s33 (IntKind.i64.wrap (((s33.length:Nat):Int) - 1))).bind fun x72=>((Jp n x43.op x71 x72 Bk).bind fun y73=>((idx s33 (IntKind.i64.wrap (((s33.length:Nat):Int) - 2))).bind fun x75=>(bif (decide (0≤(IntKind.i64.wrap (((s33.length:Nat):Int) - 1)))&&decide ((IntKind.i64.wrap (((s33.length:Nat):Int) - 1))≤((((List.set s33 (IntKind.i64.wrap (((s33.length:Nat):Int) - 2)).toNat y73)).length:Nat):Int))) then(Ce n Bh Bk Cb D1 Dy k34 (IntKind.i64.wrap (s32+1)) (List.take ((IntKind.i64.wrap (((s33.length:Nat):Int) - 1)).toNat) (List.set s33 (IntKind.i64.wrap (((s33.length:Nat):Int) - 2)).toNat y73))) else none))))))))))) else(some (.out s33)))
def H6:Nat→(List OpS)→Int→(List Int)→(List (List Int))→(List Int)→Option (Int×Bool)
 | 0,_,_,_,_,_=>none
 | n+1,Bh,Bk,Cb,D1,Dy=>(bif decide (Bk<2) then(some (0,false)) else(bif decide (16<Bk) then(some (0,false)) else((Hm n Cb Bk).bind fun y3=>(bif y3 then((Hm n Dy Bk).bind fun y6=>(bif y6 then((Db n Bk D1 n 0 ([]:List Int)).bind fun o18=>match o18 with|.out x28=>((Hx n Bh x28 ((Cb.length:Nat):Int) ((Dy.length:Nat):Int)).bind fun y29=>(bif y29 then((Ce n Bh Bk Cb D1 Dy n 0 ([]:List Int)).bind fun o41=>match o41 with|.out x80=>((idx x80 0).bind fun x81=>(some (x81,true)))|.ret v=>some v) else(some (0,false))))|.ret v=>some v) else(some (0,false)))) else(some (0,false))))))
def H9 (n:Nat)  (Ck:(List Int)) (Cr:(List Int)):Nat→Int→Option (LR Unit Bool)
 | 0,_=>none
 | k3+1,s2=>(bif decide (s2<((Ck.length:Nat):Int)) then((idx Ck s2).bind fun x12=>((idx Cr s2).bind fun x13=>(bif (x12 != x13) then(some (.ret false)) else(H9 n Ck Cr k3 (IntKind.i64.wrap (s2+1)))))) else(some (.out ())))
def Io:Nat→(List Int)→(List Int)→Option Bool
 | 0,_,_=>none
 | n+1,Ck,Cr=>(bif (((Ck.length:Nat):Int) != ((Cr.length:Nat):Int)) then(some false) else((H9 n Ck Cr n 0).bind fun o10=>match o10 with|.out _=>(some true)|.ret v=>some v))
def Dl (n:Nat)  (Ar:(List A2)) (D4:Int):Nat→Int→Int→Option (LR Int Int)
 | 0,_,_=>none
 | k3+1,s1,s2=>(bif decide (s2<((Ar.length:Nat):Int)) then((idx Ar s2).bind fun x12=>(bif (x12.loc==D4) then(Dl n Ar D4 k3 (IntKind.i64.wrap (s1+1)) (IntKind.i64.wrap (s2+1))) else(Dl n Ar D4 k3 s1 (IntKind.i64.wrap (s2+1))))) else(some (.out s1)))
def Hv:Nat→(List A2)→Int→Option Int
 | 0,_,_=>none
 | n+1,Ar,D4=>((Dl n Ar D4 n 0 0).bind fun o10=>match o10 with|.out x15=>(some x15)|.ret v=>some v)
def In:Nat→(List A2)→Int→Int→Int→Option Bool
 | 0,_,_,_,_=>none
 | n+1,Ar,Az,Co,Iu=>(bif (Az==2) then(some (decide (((Ar.length:Nat):Int)<Co))) else(bif (Az==3) then((Hv n Ar Iu).bind fun y3=>(some (decide (y3<Co)))) else(some false)))
def E8 (n:Nat)  (Ar:(List A2)) (D4:Int):Nat→Int→Option (LR Unit (Int×Bool))
 | 0,_=>none
 | k2+1,s1=>(bif decide (0≤s1) then((idx Ar s1).bind fun x11=>(bif (x11.loc==D4) then((idx Ar s1).bind fun x13=>(some (.ret (x13.n,true)))) else(E8 n Ar D4 k2 (IntKind.i64.wrap (s1 - 1))))) else(some (.out ())))
def Ir:Nat→(List A2)→Int→Option (Int×Bool)
 | 0,_,_=>none
 | n+1,Ar,D4=>((E8 n Ar D4 n (IntKind.i64.wrap (((Ar.length:Nat):Int) - 1))).bind fun o9=>match o9 with|.out _=>(some (0,false))|.ret v=>some v)
def Cz (n:Nat)  (Ar:(List A2)) (Az:Int) (Dg:Int):Nat→Int→Int→Option (LR Int ((List A2)×A2×Bool))
 | 0,_,_=>none
 | k3+1,s1,s2=>(bif decide (0≤s2) then((idx Ar s2).bind fun x12=>(bif (x12.loc==Dg) then(Cz n Ar Az Dg k3 s2 (IntKind.i64.wrap (s2 - 1))) else(bif (Az==2) then(bif decide (Dg<0) then(Cz n Ar Az Dg k3 s2 (IntKind.i64.wrap (s2 - 1))) else(Cz n Ar Az Dg k3 s1 (IntKind.i64.wrap (s2 - 1)))) else(Cz n Ar Az Dg k3 s1 (IntKind.i64.wrap (s2 - 1)))))) else(some (.out s1)))
def F7 (n:Nat)  (Ar:(List A2)):Nat→Int→(List A2)→Option (LR (List A2) ((List A2)×A2×Bool))
 | 0,_,_=>none
 | k22+1,s20,s21=>(bif decide (s20<((Ar.length:Nat):Int)) then(bif (s20 != (-1)) then((idx Ar s20).bind fun x32=>(bif decide ((s21.length+1)*17≤140737488355328) then(F7 n Ar k22 (IntKind.i64.wrap (s20+1)) (s21++([x32]:List A2))) else none)) else(F7 n Ar k22 (IntKind.i64.wrap (s20+1)) s21)) else(some (.out s21)))
def Gr (n:Nat)  (Ar:(List A2)):Nat→Int→(List A2)→Option (LR (List A2) ((List A2)×A2×Bool))
 | 0,_,_=>none
 | k42+1,s40,s41=>(bif decide (s40<((Ar.length:Nat):Int)) then(bif (s40 != (-1)) then((idx Ar s40).bind fun x52=>(bif decide ((s41.length+1)*17≤140737488355328) then(Gr n Ar k42 (IntKind.i64.wrap (s40+1)) (s41++([x52]:List A2))) else none)) else(Gr n Ar k42 (IntKind.i64.wrap (s40+1)) s41)) else(some (.out s41)))
def Gq (n:Nat)  (Ar:(List A2)) (x17:Int):Nat→Int→(List A2)→Option (LR (List A2) ((List A2)×A2×Bool))
 | 0,_,_=>none
 | k60+1,s58,s59=>(bif decide (s58<((Ar.length:Nat):Int)) then(bif (s58 != x17) then((idx Ar s58).bind fun x70=>(bif decide ((s59.length+1)*17≤140737488355328) then(Gq n Ar x17 k60 (IntKind.i64.wrap (s58+1)) (s59++([x70]:List A2))) else none)) else(Gq n Ar x17 k60 (IntKind.i64.wrap (s58+1)) s59)) else(some (.out s59)))
def Dw (n:Nat)  (Ar:(List A2)) (x17:Int):Nat→Int→(List A2)→Option (LR (List A2) ((List A2)×A2×Bool))
 | 0,_,_=>none
 | k80+1,s78,s79=>(bif decide (s78<((Ar.length:Nat):Int)) then(bif (s78 != x17) then((idx Ar s78).bind fun x90=>(bif decide ((s79.length+1)*17≤140737488355328) then(Dw n Ar x17 k80 (IntKind.i64.wrap (s78+1)) (s79++([x90]:List A2))) else none)) else(Dw n Ar x17 k80 (IntKind.i64.wrap (s78+1)) s79)) else(some (.out s79)))
def F9 (n:Nat)  (Ar:(List A2)):Nat→Int→(List A2)→Option (LR (List A2) ((List A2)×A2×Bool))
 | 0,_,_=>none
 | k102+1,s100,s101=>(bif decide (s100<((Ar.length:Nat):Int)) then(bif (s100 != (-1)) then((idx Ar s100).bind fun x112=>(bif decide ((s101.length+1)*17≤140737488355328) then(F9 n Ar k102 (IntKind.i64.wrap (s100+1)) (s101++([x112]:List A2))) else none)) else(F9 n Ar k102 (IntKind.i64.wrap (s100+1)) s101)) else(some (.out s101)))
def Du (n:Nat)  (Ar:(List A2)) (x17:Int):Nat→Int→(List A2)→Option (LR (List A2) ((List A2)×A2×Bool))
 | 0,_,_=>none
 | k120+1,s118,s119=>(bif decide (s118<((Ar.length:Nat):Int)) then(bif (s118 != x17) then((idx Ar s118).bind fun x130=>(bif decide ((s119.length+1)*17≤140737488355328) then(Du n Ar x17 k120 (IntKind.i64.wrap (s118+1)) (s119++([x130]:List A2))) else none)) else(Du n Ar x17 k120 (IntKind.i64.wrap (s118+1)) s119)) else(some (.out s119)))
def F8 (n:Nat)  (Ar:(List A2)) (x17:Int):Nat→Int→(List A2)→Option (LR (List A2) ((List A2)×A2×Bool))
 | 0,_,_=>none
 | k140+1,s138,s139=>(bif decide (s138<((Ar.length:Nat):Int)) then(bif (s138 != x17) then((idx Ar s138).bind fun x150=>(bif decide ((s139.length+1)*17≤140737488355328) then(F8 n Ar x17 k140 (IntKind.i64.wrap (s138+1)) (s139++([x150]:List A2))) else none)) else(F8 n Ar x17 k140 (IntKind.i64.wrap (s138+1)) s139)) else(some (.out s139)))
def Jq:Nat→(List A2)→Int→Int→Option ((List A2)×A2×Bool)
 | 0,_,_,_=>none
 | n+1,Ar,Az,Dg=>((Cz n Ar Az Dg n (-1) (IntKind.i64.wrap (((Ar.length:Nat):Int) - 1))).bind fun o10=>match o10 with|.out x17=>(bif (Az==2) then(bif decide (0<x17) then((F7 n Ar n 0 ([]:List A2)).bind fun o29=>match o29 with|.out x36=>(some (x36,(⟨0,0⟩:A2),false))|.ret v=>some v) else(bif (Az != 2) then(bif (Az != 3) then((Gr n Ar n 0 ([]:List A2)).bind fun o49=>match o49 with|.out x56=>(some (x56,(⟨0,0⟩:A2),false))|.ret v=>some v) else((Gq n Ar x17 n 0 ([]:List A2)).bind fun o67=>match o67 with|.out x74=>(bif decide (x17<0) then(some (x74,(⟨0,0⟩:A2),false)) else((idx Ar x17).bind fun x76=>(some (x74,x76,true))))|.ret v=>some v)) else((Dw n Ar x17 n 0 ([]:List A2)).bind fun o87=>match o87 with|.out x94=>(bif decide (x17<0) then(some (x94,(⟨0,0⟩:A2),false)) else((idx Ar x17).bind fun x96=>(some (x94,x96,true))))|.ret v=>some v))) else(bif (Az != 2) then(bif (Az != 3) then((F9 n Ar n 0 ([]:List A2)).bind fun o109=>match o109 with|.out x116=>(some (x116,(⟨0,0⟩:A2),false))|.ret v=>some v) else((Du n Ar x17 n 0 ([]:List A2)).bind fun o127=>match o127 with|.out x134=>(bif decide (x17<0) then(some (x134,(⟨0,0⟩:A2),false)) else((idx Ar x17).bind fun x136=>(some (x134,x136,true))))|.ret v=>some v)) else((F8 n Ar x17 n 0 ([]:List A2)).bind fun o147=>match o147 with|.out x154=>(bif decide (x17<0) then(some (x154,(⟨0,0⟩:A2),false)) else((idx Ar x17).bind fun x156=>(some (x154,x156,true))))|.ret v=>some v)))|.ret v=>some v)
def H5 (n:Nat)  (Ck:(List A2)) (Cr:(List A2)):Nat→Int→Option (LR Unit Bool)
 | 0,_=>none
 | k3+1,s2=>(bif decide (s2<((Ck.length:Nat):Int)) then((idx Ck s2).bind fun x12=>((idx Cr s2).bind fun x13=>(bif ((x12.loc==x13.loc)&&((x12.n==x13.n)&&true)) then(H5 n Ck Cr k3 (IntKind.i64.wrap (s2+1))) else(some (.ret false))))) else(some (.out ())))
def Ml:Nat→(List A2)→(List A2)→Option Bool
 | 0,_,_=>none
 | n+1,Ck,Cr=>(bif (((Ck.length:Nat):Int) != ((Cr.length:Nat):Int)) then(some false) else((H5 n Ck Cr n 0).bind fun o10=>match o10 with|.out _=>(some true)|.ret v=>some v))
def Fb (n:Nat)  (Ar:(List A2)) (Ev:A2):Nat→Bool→Int→(List A2)→Option (LR (Bool×(List A2)) (List A2))
 | 0,_,_,_=>none
 | k10+1,s7,s8,s9=>(bif decide (s8<((Ar.length:Nat):Int)) then(bif s7 then((idx Ar s8).bind fun x20=>(bif decide ((s9.length+1)*17≤140737488355328) then(Fb n Ar Ev k10 true (IntKind.i64.wrap (s8+1)) (s9++([x20]:List A2))) else none)) else((idx Ar s8).bind fun x23=>(bif decide (Ev.loc<x23.loc) then(bif decide ((s9.length+1)*17≤140737488355328) then((idx Ar s8).bind fun x27=>(bif decide ((((s9++([Ev]:List A2))).length+1)*17≤140737488355328) then(Fb n Ar Ev k10 true (IntKind.i64.wrap (s8+1)) ((s9++([Ev]:List A2))++([x27]:List A2))) else none)) else none) else((idx Ar s8).bind fun x30=>(bif decide ((s9.length+1)*17≤140737488355328) then(Fb n Ar Ev k10 false (IntKind.i64.wrap (s8+1)) (s9++([x30]:List A2))) else none))))) else(some (.out (s7,s9))))
def P1:Nat→(List A2)→Int→A2→Option (List A2)
 | 0,_,_,_=>none
 | n+1,Ar,Az,Ev=>(bif (Az != 3) then(bif decide (((([]:List A2)).length+Ar.length)*17≤140737488355328) then(bif (Az==2) then(bif decide ((((([]:List A2)++Ar)).length+1)*17≤140737488355328) then(some ((([]:List A2)++Ar)++([Ev]:List A2))) else none) else(some (([]:List A2)++Ar))) else none) else((Fb n Ar Ev n false 0 ([]:List A2)).bind fun o17=>match o17 with|.out (x34,x35)=>(bif x34 then(some x35) else(bif decide ((x35.length+1)*17≤140737488355328) then(some (x35++([Ev]:List A2))) else none))|.ret v=>some v))
def Dc (n:Nat)  (Aa:Ak):Nat→Int→(List Int)→(List (List Int))→(List (List A2))→Option (LR ((List Int)×(List (List Int))×(List (List A2))) (Ac×Int))
 | 0,_,_,_,_=>none
 | k8+1,s4,s5,s6,s7=>(bif decide (s4<(((Aa.regs).length:Nat):Int)) then(bif decide ((s5.length+1)*9≤140737488355328) then((idx Aa.regs s4).bind fun x19=>(bif (decide (0≤x19)&&decide ((8:Int)*x19≤140737488355328)) then(bif decide ((s6.length+1)*25≤140737488355328) then(bif decide ((s7.length+1)*25≤140737488355328) then(Dc n Aa k8 (IntKind.i64.wrap (s4+1)) (s5++([0]:List Int)) (s6++([(List.replicate x19.toNat 0:List Int)]:List (List Int))) (s7++([([]:List A2)]:List (List A2)))) else none) else none) else none)) else none) else(some (.out (s5,s6,s7))))
def H7:Nat→Ak→Option (Ac×Int)
 | 0,_=>none
 | n+1,Aa=>((Hw n Aa).bind fun y1=>(bif y1 then((Dc n Aa n 0 ([]:List Int) ([]:List (List Int)) ([]:List (List A2))).bind fun o15=>match o15 with|.out (x27,x28,x29)=>(bif decide (((([]:List Int)).length+(Aa.init).length)*9≤140737488355328) then(some ((⟨x27,x28,(([]:List Int)++Aa.init),x29⟩:Ac),0)) else none)|.ret v=>some v) else(some ((⟨([]:List Int),([]:List (List Int)),([]:List Int),([]:List (List A2))⟩:Ac),8))))
def Lb (n:Nat)  (Bm:Ac):Nat→Int→(List (List Int))→Option (LR (List (List Int)) Ac)
 | 0,_,_=>none
 | k5+1,s3,s4=>(bif decide (s3<(((Bm.regs).length:Nat):Int)) then((idx Bm.regs s3).bind fun x14=>(bif decide (x14.length*9≤140737488355328) then(bif decide ((s4.length+1)*25≤140737488355328) then(Lb n Bm k5 (IntKind.i64.wrap (s3+1)) (s4++([x14]:List (List Int)))) else none) else none)) else(some (.out s4)))
def Lc (n:Nat)  (Bm:Ac):Nat→Int→(List (List A2))→Option (LR (List (List A2)) Ac)
 | 0,_,_=>none
 | k22+1,s20,s21=>(bif decide (s20<(((Bm.buf).length:Nat):Int)) then((idx Bm.buf s20).bind fun x31=>(bif decide (x31.length*17≤140737488355328) then(bif decide ((s21.length+1)*25≤140737488355328) then(Lc n Bm k22 (IntKind.i64.wrap (s20+1)) (s21++([x31]:List (List A2)))) else none) else none)) else(some (.out s21)))
def Sx:Nat→Ac→Option Ac
 | 0,_=>none
 | n+1,Bm=>(bif decide ((Bm.pc).length*9≤140737488355328) then(bif decide ((Bm.mem).length*9≤140737488355328) then((Lb n Bm n 0 ([]:List (List Int))).bind fun o12=>match o12 with|.out x19=>((Lc n Bm n 0 ([]:List (List A2))).bind fun o29=>match o29 with|.out x36=>(some (⟨Bm.pc,x19,Bm.mem,x36⟩:Ac))|.ret v=>some v)|.ret v=>some v) else none) else none)
def Gg (n:Nat)  (Ck:Ac) (Cr:Ac):Nat→Int→Option (LR Unit Bool)
 | 0,_=>none
 | k10+1,s9=>(bif decide (s9<(((Ck.regs).length:Nat):Int)) then((idx Ck.regs s9).bind fun x19=>((idx Cr.regs s9).bind fun x20=>((Io n x19 x20).bind fun y21=>(bif y21 then(Gg n Ck Cr k10 (IntKind.i64.wrap (s9+1))) else(some (.ret false)))))) else(some (.out ())))
def Ge (n:Nat)  (Ck:Ac) (Cr:Ac):Nat→Int→Option (LR Unit Bool)
 | 0,_=>none
 | k26+1,s25=>(bif decide (s25<(((Ck.buf).length:Nat):Int)) then((idx Ck.buf s25).bind fun x35=>((idx Cr.buf s25).bind fun x36=>((Ml n x35 x36).bind fun y37=>(bif y37 then(Ge n Ck Cr k26 (IntKind.i64.wrap (s25+1))) else(some (.ret false)))))) else(some (.out ())))
def Mf:Nat→Ac→Ac→Option Bool
 | 0,_,_=>none
 | n+1,Ck,Cr=>((Io n Ck.pc Cr.pc).bind fun y1=>(bif y1 then((Io n Ck.mem Cr.mem).bind fun y4=>(bif y4 then(bif ((((Ck.regs).length:Nat):Int) != (((Cr.regs).length:Nat):Int)) then(some false) else(bif ((((Ck.buf).length:Nat):Int) != (((Cr.buf).length:Nat):Int)) then(some false) else((Gg n Ck Cr n 0).bind fun o17=>match o17 with|.out _=>((Ge n Ck Cr n 0).bind fun o33=>match o33 with|.out _=>(some true)|.ret v=>some v)|.ret v=>some v))) else(some false))) else(some false)))
def Rj:Nat→Ak→Ac→Int→Option Bool
 | 0,_,_,_=>none
 | n+1,Aa,B7,H3=>(bif decide (H3<0) then(some false) else(bif decide ((((Aa.code).length:Nat):Int)≤H3) then(some false) else(bif decide ((((B7.pc).length:Nat):Int)≤H3) then(some false) else((idx B7.pc H3).bind fun x4=>(bif decide (x4<0) then(some false) else((idx B7.pc H3).bind fun x6=>((idx Aa.code H3).bind fun x7=>(bif decide (((x7.length:Nat):Int)≤x6) then(some false) else((idx Aa.code H3).bind fun x9=>((idx B7.pc H3).bind fun x10=>((idx x9 x10).bind fun x11=>(some (x11.op==22)))))))))))))
def K0 (n:Nat)  (Bm:Ac):Nat→Int→Option (LR Unit Bool)
 | 0,_=>none
 | k2+1,s1=>(bif decide (s1<(((Bm.buf).length:Nat):Int)) then((idx Bm.buf s1).bind fun x11=>(bif decide (0<((x11.length:Nat):Int)) then(some (.ret false)) else(K0 n Bm k2 (IntKind.i64.wrap (s1+1))))) else(some (.out ())))
def Rh:Nat→Ac→Option Bool
 | 0,_=>none
 | n+1,Bm=>((K0 n Bm n 0).bind fun o9=>match o9 with|.out _=>(some true)|.ret v=>some v)
def Kn (n:Nat)  (Aa:Ak) (B7:Ac):Nat→Int→Option (LR Unit Bool)
 | 0,_=>none
 | k2+1,s1=>(bif decide (s1<(((Aa.code).length:Nat):Int)) then((Rj n Aa B7 s1).bind fun y11=>(bif y11 then(Kn n Aa B7 k2 (IntKind.i64.wrap (s1+1))) else(some (.ret false)))) else(some (.out ())))
def No:Nat→Ak→Ac→Option Bool
 | 0,_,_=>none
 | n+1,Aa,B7=>((Kn n Aa B7 n 0).bind fun o9=>match o9 with|.out _=>((Rh n B7).bind fun y15=>(some y15))|.ret v=>some v)
def I0:Nat→Ac→Int→Int→Option Int
 | 0,_,_,_=>none
 | n+1,Bm,Wu,Dg=>(bif decide (Wu<0) then(some 0) else(bif decide ((((Bm.buf).length:Nat):Int)≤Wu) then(some 0) else(bif decide (Dg<0) then(some 0) else(bif decide ((((Bm.mem).length:Nat):Int)≤Dg) then(some 0) else((idx Bm.buf Wu).bind fun x5=>((Ir n x5 Dg).bind fun y6=>(bif y6.2 then(some y6.1) else((idx Bm.mem Dg).bind fun x9=>(some x9)))))))))
def Hu:Nat→Ak→Ac→Int→(List OpS)→Option Int
 | 0,_,_,_,_=>none
 | n+1,Aa,B7,H3,Pj=>((idx B7.regs H3).bind fun x1=>((H6 n Pj Aa.mod x1 ([]:List (List Int)) ([]:List Int)).bind fun y2=>(some y2.1)))
def Gt:Nat→Ak→Ac→Int→Int→Int→Option Bool
 | 0,_,_,_,_,_=>none
 | n+1,Aa,B7,B1,Bd,Mo=>(bif decide (Mo<0) then(some false) else(bif decide ((((B7.pc).length:Nat):Int)≤Mo) then(some false) else((idx Aa.code Mo).bind fun x3=>((idx B7.pc Mo).bind fun x4=>((idx x3 x4).bind fun x5=>(bif (x5.op==22) then(some false) else(bif (x5.op==4) then(bif (B1==1) then(some true) else((idx B7.buf Mo).bind fun x9=>((In n x9 B1 Bd x5.loc).bind fun y10=>(some y10)))) else(bif (x5.op==8) then((idx B7.buf Mo).bind fun x13=>(some (((x13.length:Nat):Int)==0))) else(bif (x5.op==5) then((idx B7.buf Mo).bind fun x15=>(some (((x15.length:Nat):Int)==0))) else(bif (x5.op==6) then((idx B7.buf Mo).bind fun x17=>(some (((x17.length:Nat):Int)==0))) else(bif (x5.op==7) then((idx B7.buf Mo).bind fun x19=>(some (((x19.length:Nat):Int)==0))) else(bif (x5.op==9) then((I0 n B7 Mo x5.loc).bind fun y21=>((Hu n Aa B7 Mo x5.e).bind fun y23=>(some (!((y21==y23)==x5.ne))))) else(some true)))))))))))))
def Fv:Nat→Ac→Int→Int→Int→Option Bool
 | 0,_,_,_,_=>none
 | n+1,Bm,Az,H3,Iu=>(bif decide (H3<0) then(some false) else(bif decide ((((Bm.buf).length:Nat):Int)≤H3) then(some false) else((idx Bm.buf H3).bind fun x3=>((Jq n x3 Az Iu).bind fun y4=>(some y4.2.2)))))
def Fo:Nat→Ak→Int→Option Int
 | 0,_,_=>none
 | n+1,Aa,Az=>((Hw n Aa).bind fun y1=>(bif y1 then(bif (Az==1) then(some (((Aa.regs).length:Nat):Int)) else(bif (Az==2) then(some (IntKind.i64.wrap (2*(((Aa.regs).length:Nat):Int)))) else(bif (Az==3) then(some (IntKind.i64.wrap ((((Aa.regs).length:Nat):Int)+(IntKind.i64.wrap ((((Aa.regs).length:Nat):Int)*(((Aa.init).length:Nat):Int)))))) else(some 0)))) else(some 0)))
def Gx:Nat→Ak→Ac→Int→Int→Int→Option Bool
 | 0,_,_,_,_,_=>none
 | n+1,Aa,B7,B1,Bd,Kq=>(bif decide (Kq<0) then(some false) else((Fo n Aa B1).bind fun y2=>(bif decide (y2≤Kq) then(some false) else(bif decide (Kq<(((Aa.regs).length:Nat):Int)) then((Gt n Aa B7 B1 Bd Kq).bind fun y6=>(some y6)) else(bif (B1==2) then((Fv n B7 B1 (IntKind.i64.wrap (Kq - (((Aa.regs).length:Nat):Int))) (-1)).bind fun y9=>(some y9)) else(bif decide ((((Aa.init).length:Nat):Int)=0) then none else(bif decide ((((Aa.init).length:Nat):Int)=0) then none else((Fv n B7 B1 (IntKind.i64.wrap (Int.tdiv (IntKind.i64.wrap (Kq - (((Aa.regs).length:Nat):Int))) (((Aa.init).length:Nat):Int))) (Int.tmod (IntKind.i64.wrap (Kq - (((Aa.regs).length:Nat):Int))) (((Aa.init).length:Nat):Int))).bind fun y13=>(some y13)))))))))
def Ni:Nat→Ak→Ac→Int→Int→Int→Option (Ac×Bool)
 | 0,_,_,_,_,_=>none
 | n+1,Aa,B7,B1,Bd,Kq=>((Gx n Aa B7 B1 Bd Kq).bind fun y1=>(bif y1 then(bif decide (Kq<(((Aa.regs).length:Nat):Int)) then((Qn n Aa B7 B1 Bd Kq).bind fun y5=>(some (y5.1,y5.2))) else(bif (B1==2) then((J1 n B7 B1 (IntKind.i64.wrap (Kq - (((Aa.regs).length:Nat):Int))) (-1)).bind fun y8=>(some (y8.1,y8.2))) else(bif decide ((((Aa.init).length:Nat):Int)=0) then none else(bif decide ((((Aa.init).length:Nat):Int)=0) then none else((J1 n B7 B1 (IntKind.i64.wrap (Int.tdiv (IntKind.i64.wrap (Kq - (((Aa.regs).length:Nat):Int))) (((Aa.init).length:Nat):Int))) (Int.tmod (IntKind.i64.wrap (Kq - (((Aa.regs).length:Nat):Int))) (((Aa.init).length:Nat):Int))).bind fun y12=>(some (y12.1,y12.2))))))) else((Sx n B7).bind fun y14=>(some (y14,false)))))
def Fl (n:Nat)  (Aa:Ak) (B7:Ac) (B1:Int) (Bd:Int):Nat→Int→(List Int)→Option (LR (List Int) (List Int))
 | 0,_,_=>none
 | k3+1,s1,s2=>((Fo n Aa B1).bind fun y11=>(bif decide (s1<y11) then((Gx n Aa B7 B1 Bd s1).bind fun y14=>(bif y14 then(bif decide ((s2.length+1)*9≤140737488355328) then(Fl n Aa B7 B1 Bd k3 (IntKind.i64.wrap (s1+1)) (s2++([s1]:List Int))) else none) else(Fl n Aa B7 B1 Bd k3 (IntKind.i64.wrap (s1+1)) s2))) else(some (.out s2))))
def J3:Nat→Ak→Ac→Int→Int→Option (List Int)
 | 0,_,_,_,_=>none
 | n+1,Aa,B7,B1,Bd=>((Fl n Aa B7 B1 Bd n 0 ([]:List Int)).bind fun o10=>match o10 with|.out x20=>(some x20)|.ret v=>some v)
def Sr:Nat→Ak→Ac→Int→Int→Option Bool
 | 0,_,_,_,_=>none
 | n+1,Aa,B7,B1,Bd=>((J3 n Aa B7 B1 Bd).bind fun y1=>(bif (((y1.length:Nat):Int)==0) then((No n Aa B7).bind fun y4=>(some (!y4))) else(some false)))
def Fj (n:Nat)  (G7:Int) (E3:(List A9)):Nat→Int→Option (LR Unit (Aq×Int))
 | 0,_=>none
 | k4+1,s3=>(bif decide (s3<((E3.length:Nat):Int)) then((idx E3 s3).bind fun x13=>(bif decide (x13.C2<0) then(some (.ret ((⟨([]:List Int),([]:List Int),([]:List Int)⟩:Aq),1))) else((idx E3 s3).bind fun x15=>(bif decide (G7≤x15.C2) then(some (.ret ((⟨([]:List Int),([]:List Int),([]:List Int)⟩:Aq),1))) else((idx E3 s3).bind fun x17=>(bif decide (x17.Aw<0) then(some (.ret ((⟨([]:List Int),([]:List Int),([]:List Int)⟩:Aq),1))) else((idx E3 s3).bind fun x19=>(bif decide (G7≤x19.Aw) then(some (.ret ((⟨([]:List Int),([]:List Int),([]:List Int)⟩:Aq),1))) else((idx E3 s3).bind fun x21=>(bif decide (x21.Aj<0) then(some (.ret ((⟨([]:List Int),([]:List Int),([]:List Int)⟩:Aq),1))) else(Fj n G7 E3 k4 (IntKind.i64.wrap (s3+1))))))))))))) else(some (.out ())))
def Eg (n:Nat)  (E3:(List A9)) (s24:Int):Nat→Int→(List Int)→(List Int)→Option (LR ((List Int)×(List Int)) (Aq×Int))
 | 0,_,_,_=>none
 | k40+1,s37,s38,s39=>(bif decide (s37<((E3.length:Nat):Int)) then((idx E3 s37).bind fun x49=>(bif (x49.C2==s24) then((idx E3 s37).bind fun x51=>(bif decide ((s38.length+1)*9≤140737488355328) then((idx E3 s37).bind fun x54=>(bif decide ((s39.length+1)*9≤140737488355328) then(Eg n E3 s24 k40 (IntKind.i64.wrap (s37+1)) (s38++([x51.Aj]:List Int)) (s39++([x54.Aw]:List Int))) else none)) else none)) else(Eg n E3 s24 k40 (IntKind.i64.wrap (s37+1)) s38 s39))) else(some (.out (s38,s39))))
def Fm (n:Nat)  (G7:Int) (E3:(List A9)):Nat→Int→(List Int)→(List Int)→(List Int)→Option (LR ((List Int)×(List Int)×(List Int)) (Aq×Int))
 | 0,_,_,_,_=>none
 | k28+1,s24,s25,s26,s27=>(bif decide (s24<G7) then((Eg n E3 s24 n 0 s26 s27).bind fun o47=>match o47 with|.out (x58,x59)=>(bif decide ((s25.length+1)*9≤140737488355328) then(Fm n G7 E3 k28 (IntKind.i64.wrap (s24+1)) (s25++([((x59.length:Nat):Int)]:List Int)) x58 x59) else none)|.ret v=>some (.ret v)) else(some (.out (s25,s26,s27))))
def I3:Nat→Int→(List A9)→Option (Aq×Int)
 | 0,_,_=>none
 | n+1,G7,E3=>(bif decide (G7<0) then(some ((⟨([]:List Int),([]:List Int),([]:List Int)⟩:Aq),1)) else(bif decide (100000<G7) then(some ((⟨([]:List Int),([]:List Int),([]:List Int)⟩:Aq),1)) else((Fj n G7 E3 n 0).bind fun o11=>match o11 with|.out _=>((Fm n G7 E3 n 0 ([0]:List Int) ([]:List Int) ([]:List Int)).bind fun o35=>match o35 with|.out (x64,x65,x66)=>(some ((⟨x64,x65,x66⟩:Aq),0))|.ret v=>some v)|.ret v=>some v)))
def Fi (n:Nat)  (A7:Aq):Nat→Int→Option (LR Unit Bool)
 | 0,_=>none
 | k8+1,s7=>(bif decide (s7<(IntKind.i64.wrap (((A7.Am.length:Nat):Int) - 1))) then((idx A7.Am (IntKind.i64.wrap (s7+1))).bind fun x17=>((idx A7.Am s7).bind fun x18=>(bif decide (x17<x18) then(some (.ret false)) else(Fi n A7 k8 (IntKind.i64.wrap (s7+1)))))) else(some (.out ())))
def Fq (n:Nat)  (A7:Aq):Nat→Int→Option (LR Unit Bool)
 | 0,_=>none
 | k22+1,s21=>(bif decide (s21<((A7.Aw.length:Nat):Int)) then((idx A7.Aw s21).bind fun x31=>(bif decide (x31<0) then(some (.ret false)) else((idx A7.Aw s21).bind fun x33=>(bif decide ((IntKind.i64.wrap (((A7.Am.length:Nat):Int) - 1))≤x33) then(some (.ret false)) else((idx A7.Aj s21).bind fun x35=>(bif decide (x35<0) then(some (.ret false)) else(Fq n A7 k22 (IntKind.i64.wrap (s21+1))))))))) else(some (.out ())))
def Ff:Nat→Aq→Option Bool
 | 0,_=>none
 | n+1,A7=>(bif decide ((IntKind.i64.wrap (((A7.Am.length:Nat):Int) - 1))<0) then(some false) else((idx A7.Am 0).bind fun x2=>(bif (x2 != 0) then(some false) else((idx A7.Am (IntKind.i64.wrap (((A7.Am.length:Nat):Int) - 1))).bind fun x4=>(bif (x4 != ((A7.Aw.length:Nat):Int)) then(some false) else(bif (((A7.Aj.length:Nat):Int) != ((A7.Aw.length:Nat):Int)) then(some false) else((Fi n A7 n 0).bind fun o15=>match o15 with|.out _=>((Fq n A7 n 0).bind fun o29=>match o29 with|.out _=>(some true)|.ret v=>some v)|.ret v=>some v)))))))
def Hn (n:Nat)  (A7:Aq) (s4:Int):Nat→Int→(List A9)→Option (LR (List A9) (List A9))
 | 0,_,_=>none
 | k18+1,s16,s17=>((idx A7.Am (IntKind.i64.wrap (s4+1))).bind fun x26=>(bif decide (s16<x26) then((idx A7.Aj s16).bind fun x28=>((idx A7.Aw s16).bind fun x29=>(bif decide ((s17.length+1)*25≤140737488355328) then(Hn n A7 s4 k18 (IntKind.i64.wrap (s16+1)) (s17++([(⟨s4,x28,x29⟩:A9)]:List A9))) else none))) else(some (.out s17))))
def Gu (n:Nat)  (A7:Aq):Nat→Int→(List A9)→Option (LR (List A9) (List A9))
 | 0,_,_=>none
 | k6+1,s4,s5=>(bif decide ((IntKind.i64.wrap (s4+1))<((A7.Am.length:Nat):Int)) then((idx A7.Am s4).bind fun x15=>((Hn n A7 s4 n x15 s5).bind fun o25=>match o25 with|.out x33=>(Gu n A7 k6 (IntKind.i64.wrap (s4+1)) x33)|.ret v=>some (.ret v))) else(some (.out s5)))
def Gn:Nat→Aq→Option (List A9)
 | 0,_=>none
 | n+1,A7=>((Ff n A7).bind fun y1=>(bif y1 then((Gu n A7 n 0 ([]:List A9)).bind fun o13=>match o13 with|.out x36=>(some x36)|.ret v=>some v) else(some ([]:List A9))))
def Gf:Nat→Aq→Option Int
 | 0,_=>none
 | n+1,A7=>((Ff n A7).bind fun y1=>(bif y1 then(some (IntKind.i64.wrap (((A7.Am.length:Nat):Int) - 1))) else(some 0)))
def Jl:Nat→(List Bool)→Int→Option Bool
 | 0,_,_=>none
 | n+1,A3j,Aao=>(bif decide (Aao<((A3j.length:Nat):Int)) then((idx A3j Aao).bind fun x2=>(some x2)) else(some false))
def Ed (n:Nat)  (C9:(List Bool)) (y4:(List A9)):Nat→Int→(List A9)→Option (LR (List A9) Aq)
 | 0,_,_=>none
 | k8+1,s6,s7=>(bif decide (s6<((y4.length:Nat):Int)) then((idx y4 s6).bind fun x17=>((Jl n C9 x17.C2).bind fun y18=>(bif y18 then((idx y4 s6).bind fun x21=>((Jl n C9 x21.Aw).bind fun y22=>(bif y22 then((idx y4 s6).bind fun x25=>(bif decide ((s7.length+1)*25≤140737488355328) then(Ed n C9 y4 k8 (IntKind.i64.wrap (s6+1)) (s7++([x25]:List A9))) else none)) else(Ed n C9 y4 k8 (IntKind.i64.wrap (s6+1)) s7)))) else(Ed n C9 y4 k8 (IntKind.i64.wrap (s6+1)) s7)))) else(some (.out s7)))
def Mi:Nat→Aq→(List Bool)→Option Aq
 | 0,_,_=>none
 | n+1,A7,C9=>((Ff n A7).bind fun y1=>(bif y1 then((Gn n A7).bind fun y4=>((Ed n C9 y4 n 0 ([]:List A9)).bind fun o15=>match o15 with|.out x29=>((Gf n A7).bind fun y30=>((I3 n y30 x29).bind fun y32=>(some y32.1)))|.ret v=>some v)) else(some (⟨([]:List Int),([]:List Int),([]:List Int)⟩:Aq))))
def Ej (n:Nat)  (Hg:(List Int)) (y1:Int):Nat→Int→(List Bool)→Option (LR (List Bool) (List Bool))
 | 0,_,_=>none
 | k10+1,s8,s9=>(bif decide (s8<((Hg.length:Nat):Int)) then((idx Hg s8).bind fun x19=>(bif decide (0≤x19) then((idx Hg s8).bind fun x21=>(bif decide (x21<y1) then((idx Hg s8).bind fun x23=>((idx s9 x23).bind fun x24=>(Ej n Hg y1 k10 (IntKind.i64.wrap (s8+1)) (List.set s9 x23.toNat true)))) else(Ej n Hg y1 k10 (IntKind.i64.wrap (s8+1)) s9))) else(Ej n Hg y1 k10 (IntKind.i64.wrap (s8+1)) s9))) else(some (.out s9)))
def Dx (n:Nat)  (y28:(List A9)):Nat→Bool→Int→(List Bool)→Option (LR (Bool×(List Bool)) (List Bool))
 | 0,_,_,_=>none
 | k44+1,s41,s42,s43=>(bif decide (s42<((y28.length:Nat):Int)) then((idx y28 s42).bind fun x53=>((idx s43 x53.C2).bind fun x54=>(bif x54 then((idx y28 s42).bind fun x56=>((idx s43 x56.Aw).bind fun x57=>(bif x57 then(Dx n y28 k44 s41 (IntKind.i64.wrap (s42+1)) s43) else((idx y28 s42).bind fun x59=>((idx s43 x59.Aw).bind fun x60=>(Dx n y28 k44 true (IntKind.i64.wrap (s42+1)) (List.set s43 x59.Aw.toNat true))))))) else(Dx n y28 k44 s41 (IntKind.i64.wrap (s42+1)) s43)))) else(some (.out (s41,s43))))
def Gi (n:Nat)  (y28:(List A9)):Nat→Bool→(List Bool)→Option (LR (List Bool) (List Bool))
 | 0,_,_=>none
 | k32+1,s30,s31=>(bif s30 then((Dx n y28 n false 0 s31).bind fun o51=>match o51 with|.out (x63,x64)=>(Gi n y28 k32 x63 x64)|.ret v=>some (.ret v)) else(some (.out s31)))
def Lh:Nat→Aq→(List Int)→Option (List Bool)
 | 0,_,_=>none
 | n+1,A7,Hg=>((Gf n A7).bind fun y1=>((Ff n A7).bind fun y3=>(bif y3 then(bif (decide (0≤y1)&&decide ((1:Int)*y1≤140737488355328)) then((Ej n Hg y1 n 0 (List.replicate y1.toNat false:List Bool)).bind fun o17=>match o17 with|.out x27=>((Gn n A7).bind fun y28=>((Gi n y28 n true x27).bind fun o39=>match o39 with|.out x67=>(some x67)|.ret v=>some v))|.ret v=>some v) else none) else(some ([]:List Bool)))))
def Do (n:Nat)  (D3:(List Bool)) (y4:(List A9)):Nat→Int→(List A9)→Option (LR (List A9) Aq)
 | 0,_,_=>none
 | k8+1,s6,s7=>(bif decide (s6<((y4.length:Nat):Int)) then((idx y4 s6).bind fun x17=>((Jl n D3 x17.C2).bind fun y18=>(bif y18 then((idx y4 s6).bind fun x21=>((Jl n D3 x21.Aw).bind fun y22=>(bif y22 then((idx y4 s6).bind fun x25=>(bif decide ((s7.length+1)*25≤140737488355328) then(Do n D3 y4 k8 (IntKind.i64.wrap (s6+1)) (s7++([x25]:List A9))) else none)) else(Do n D3 y4 k8 (IntKind.i64.wrap (s6+1)) s7)))) else(Do n D3 y4 k8 (IntKind.i64.wrap (s6+1)) s7)))) else(some (.out s7)))
def Kk:Nat→Aq→(List Bool)→Option Aq
 | 0,_,_=>none
 | n+1,A7,D3=>((Ff n A7).bind fun y1=>(bif y1 then((Gn n A7).bind fun y4=>((Do n D3 y4 n 0 ([]:List A9)).bind fun o15=>match o15 with|.out x29=>((Gf n A7).bind fun y30=>((I3 n y30 x29).bind fun y32=>(some y32.1)))|.ret v=>some v)) else(some (⟨([]:List Int),([]:List Int),([]:List Int)⟩:Aq))))
def H8 (n:Nat)  (Ee:Bf) (B7:Ac):Nat→Int→Option (LR Unit Int)
 | 0,_=>none
 | k2+1,s1=>(bif decide (s1<((Ee.C5.length:Nat):Int)) then((idx Ee.C5 s1).bind fun x11=>((Mf n x11 B7).bind fun y12=>(bif y12 then(some (.ret s1)) else(H8 n Ee B7 k2 (IntKind.i64.wrap (s1+1)))))) else(some (.out ())))
def M0:Nat→Bf→Ac→Option Int
 | 0,_,_=>none
 | n+1,Ee,B7=>((H8 n Ee B7 n 0).bind fun o9=>match o9 with|.out _=>(some (-1))|.ret v=>some v)
def G5 (n:Nat)  (Aa:Ak) (Az:Int) (Co:Int) (Di:Int) (s10:Int) (y25:(List Int)):Nat→Int→(List Ac)→(List Int)→(List Int)→(List A9)→Option (LR ((List Ac)×(List Int)×(List Int)×(List A9)) (Bf×Int))
 | 0,_,_,_,_,_=>none
 | k32+1,s27,s28,s29,s30,s31=>(bif decide (s27<((y25.length:Nat):Int)) then((idx s28 s10).bind fun x41=>((idx y25 s27).bind fun x42=>((Ni n Aa x41 Az Co x42).bind fun y43=>((M0 n (⟨s28,(⟨([]:List Int),([]:List Int),([]:List Int)⟩:Aq),s29,s30⟩:Bf) y43.1).bind fun y45=>(bif decide (y45<0) then(bif decide (Di≤((s28.length:Nat):Int)) then(some (.ret ((⟨([]:List Ac),(⟨([]:List Int),([]:List Int),([]:List Int)⟩:Aq),([]:List Int),([]:List Int)⟩:Bf),18))) else(bif decide ((s28.length+1)*97≤140737488355328) then(bif decide ((s29.length+1)*9≤140737488355328) then((idx y25 s27).bind fun x53=>(bif decide ((s30.length+1)*9≤140737488355328) then((idx y25 s27).bind fun x56=>(bif decide ((s31.length+1)*25≤140737488355328) then(G5 n Aa Az Co Di s10 y25 k32 (IntKind.i64.wrap (s27+1)) (s28++([y43.1]:List Ac)) (s29++([s10]:List Int)) (s30++([x53]:List Int)) (s31++([(⟨s10,x56,((s28.length:Nat):Int)⟩:A9)]:List A9))) else none)) else none)) else none) else none)) else((idx y25 s27).bind fun x59=>(bif decide ((s31.length+1)*25≤140737488355328) then(G5 n Aa Az Co Di s10 y25 k32 (IntKind.i64.wrap (s27+1)) s28 s29 s30 (s31++([(⟨s10,x59,y45⟩:A9)]:List A9))) else none))))))) else(some (.out (s28,s29,s30,s31))))
def Gv (n:Nat)  (Aa:Ak) (Az:Int) (Co:Int) (Di:Int):Nat→Int→(List Ac)→(List Int)→(List Int)→(List A9)→Option (LR ((List Ac)×(List Int)×(List Int)×(List A9)) (Bf×Int))
 | 0,_,_,_,_,_=>none
 | k15+1,s10,s11,s12,s13,s14=>(bif decide (s10<((s11.length:Nat):Int)) then((idx s11 s10).bind fun x24=>((J3 n Aa x24 Az Co).bind fun y25=>((G5 n Aa Az Co Di s10 y25 n 0 s11 s12 s13 s14).bind fun o39=>match o39 with|.out (x63,x64,x65,x66)=>(Gv n Aa Az Co Di k15 (IntKind.i64.wrap (s10+1)) x63 x64 x65 x66)|.ret v=>some (.ret v)))) else(some (.out (s11,s12,s13,s14))))
def Lm:Nat→Ak→Int→Int→Int→Option (Bf×Int)
 | 0,_,_,_,_=>none
 | n+1,Aa,Az,Co,Di=>((H7 n Aa).bind fun y1=>(bif (y1.2 != 0) then(some ((⟨([]:List Ac),(⟨([]:List Int),([]:List Int),([]:List Int)⟩:Aq),([]:List Int),([]:List Int)⟩:Bf),8)) else(bif decide (Az<1) then(some ((⟨([]:List Ac),(⟨([]:List Int),([]:List Int),([]:List Int)⟩:Aq),([]:List Int),([]:List Int)⟩:Bf),1)) else(bif decide (3<Az) then(some ((⟨([]:List Ac),(⟨([]:List Int),([]:List Int),([]:List Int)⟩:Aq),([]:List Int),([]:List Int)⟩:Bf),1)) else(bif decide (Co<1) then(some ((⟨([]:List Ac),(⟨([]:List Int),([]:List Int),([]:List Int)⟩:Aq),([]:List Int),([]:List Int)⟩:Bf),1)) else(bif decide (4<Co) then(some ((⟨([]:List Ac),(⟨([]:List Int),([]:List Int),([]:List Int)⟩:Aq),([]:List Int),([]:List Int)⟩:Bf),1)) else(bif decide (Di<1) then(some ((⟨([]:List Ac),(⟨([]:List Int),([]:List Int),([]:List Int)⟩:Aq),([]:List Int),([]:List Int)⟩:Bf),1)) else(bif decide (100000<Di) then(some ((⟨([]:List Ac),(⟨([]:List Int),([]:List Int),([]:List Int)⟩:Aq),([]:List Int),([]:List Int)⟩:Bf),1)) else((Gv n Aa Az Co Di n 0 ([y1.1]:List Ac) ([(-1)]:List Int) ([(-1)]:List Int) ([]:List A9)).bind fun o22=>match o22 with|.out (x69,x70,x71,x72)=>((I3 n ((x69.length:Nat):Int) x72).bind fun y73=>(some ((⟨x69,y73.1,x70,x71⟩:Bf),0)))|.ret v=>some v)))))))))
def If (n:Nat)  (Aa:Ak) (Ba:Bf) (B1:Int) (Bd:Int):Nat→Int→(List Int)→Option (LR (List Int) (List Int))
 | 0,_,_=>none
 | k3+1,s1,s2=>(bif decide (s1<((Ba.C5.length:Nat):Int)) then((idx Ba.C5 s1).bind fun x12=>((Sr n Aa x12 B1 Bd).bind fun y13=>(bif y13 then(bif decide ((s2.length+1)*9≤140737488355328) then(If n Aa Ba B1 Bd k3 (IntKind.i64.wrap (s1+1)) (s2++([s1]:List Int))) else none) else(If n Aa Ba B1 Bd k3 (IntKind.i64.wrap (s1+1)) s2)))) else(some (.out s2)))
def La:Nat→Ak→Bf→Int→Int→Option (List Int)
 | 0,_,_,_,_=>none
 | n+1,Aa,Ba,B1,Bd=>((If n Aa Ba B1 Bd n 0 ([]:List Int)).bind fun o10=>match o10 with|.out x19=>(some x19)|.ret v=>some v)
def Im (n:Nat)  (Aa:Ak) (Ba:Bf) (B1:Int) (Bd:Int) (s1:Int):Nat→Int→(List Bool)→Option (LR (List Bool) (List (List Bool)))
 | 0,_,_=>none
 | k14+1,s12,s13=>((Fo n Aa B1).bind fun y22=>(bif decide (s12<y22) then((idx Ba.C5 s1).bind fun x25=>((Gx n Aa x25 B1 Bd s12).bind fun y26=>(bif decide ((s13.length+1)*2≤140737488355328) then(Im n Aa Ba B1 Bd s1 k14 (IntKind.i64.wrap (s12+1)) (s13++([y26]:List Bool))) else none))) else(some (.out s13))))
def Il (n:Nat)  (Aa:Ak) (Ba:Bf) (B1:Int) (Bd:Int):Nat→Int→(List (List Bool))→Option (LR (List (List Bool)) (List (List Bool)))
 | 0,_,_=>none
 | k3+1,s1,s2=>(bif decide (s1<((Ba.C5.length:Nat):Int)) then((Im n Aa Ba B1 Bd s1 n 0 ([]:List Bool)).bind fun o21=>match o21 with|.out x31=>(bif decide ((s2.length+1)*25≤140737488355328) then(Il n Aa Ba B1 Bd k3 (IntKind.i64.wrap (s1+1)) (s2++([x31]:List (List Bool)))) else none)|.ret v=>some (.ret v)) else(some (.out s2)))
def Ja:Nat→Ak→Bf→Int→Int→Option (List (List Bool))
 | 0,_,_,_,_=>none
 | n+1,Aa,Ba,B1,Bd=>((Il n Aa Ba B1 Bd n 0 ([]:List (List Bool))).bind fun o10=>match o10 with|.out x36=>(some x36)|.ret v=>some v)
def H0 (n:Nat)  (Bh:(List Int)) (Hh:Int):Nat→Int→Option (LR Unit Bool)
 | 0,_=>none
 | k2+1,s1=>(bif decide (s1<((Bh.length:Nat):Int)) then((idx Bh s1).bind fun x11=>(bif (x11==Hh) then(some (.ret true)) else(H0 n Bh Hh k2 (IntKind.i64.wrap (s1+1))))) else(some (.out ())))
def Lq:Nat→(List Int)→Int→Option Bool
 | 0,_,_=>none
 | n+1,Bh,Hh=>((H0 n Bh Hh n 0).bind fun o9=>match o9 with|.out _=>(some false)|.ret v=>some v)
def E1 (n:Nat)  (Ch:(List Int)) (y1:(List A9)):Nat→Int→Option (LR Unit Bool)
 | 0,_=>none
 | k4+1,s3=>(bif decide (s3<((y1.length:Nat):Int)) then((idx y1 s3).bind fun x13=>((Lq n Ch x13.C2).bind fun y14=>(bif y14 then((idx y1 s3).bind fun x17=>((Lq n Ch x17.Aw).bind fun y18=>(bif y18 then(some (.ret true)) else(E1 n Ch y1 k4 (IntKind.i64.wrap (s3+1)))))) else(E1 n Ch y1 k4 (IntKind.i64.wrap (s3+1)))))) else(some (.out ())))
def Hc:Nat→Aq→(List Int)→Option Bool
 | 0,_,_=>none
 | n+1,A7,Ch=>((Gn n A7).bind fun y1=>((E1 n Ch y1 n 0).bind fun o11=>match o11 with|.out _=>(some false)|.ret v=>some v))
def Fp (n:Nat)  (A7:Aq) (y1:Int):Nat→Int→(List (List Bool))→Option (LR (List (List Bool)) (List Int))
 | 0,_,_=>none
 | k5+1,s3,s4=>(bif decide (s3<y1) then((Lh n A7 ([s3]:List Int)).bind fun y14=>(bif decide ((s4.length+1)*25≤140737488355328) then(Fp n A7 y1 k5 (IntKind.i64.wrap (s3+1)) (s4++([y14]:List (List Bool)))) else none)) else(some (.out s4)))
def Dm (n:Nat)  (x19:(List (List Bool))) (s21:Int) (s22:(List Int)):Nat→Int→Int→Option (LR Int (List Int))
 | 0,_,_=>none
 | k34+1,s32,s33=>(bif decide (s33<s21) then(bif decide (s32<0) then((idx x19 s21).bind fun x44=>((idx x44 s33).bind fun x45=>(bif x45 then((idx x19 s33).bind fun x47=>((idx x47 s21).bind fun x48=>(bif x48 then((idx s22 s33).bind fun x50=>(Dm n x19 s21 s22 k34 x50 (IntKind.i64.wrap (s33+1)))) else(Dm n x19 s21 s22 k34 s32 (IntKind.i64.wrap (s33+1)))))) else(Dm n x19 s21 s22 k34 s32 (IntKind.i64.wrap (s33+1)))))) else(Dm n x19 s21 s22 k34 s32 (IntKind.i64.wrap (s33+1)))) else(some (.out s32)))
def Ef (n:Nat)  (y1:Int) (x19:(List (List Bool))):Nat→Int→Int→(List Int)→Option (LR (List Int) (List Int))
 | 0,_,_,_=>none
 | k23+1,s20,s21,s22=>(bif decide (s21<y1) then((Dm n x19 s21 s22 n (-1) 0).bind fun o41=>match o41 with|.out x52=>(bif decide (x52<0) then(bif decide ((s22.length+1)*9≤140737488355328) then(Ef n y1 x19 k23 (IntKind.i64.wrap (s20+1)) (IntKind.i64.wrap (s21+1)) (s22++([s20]:List Int))) else none) else(bif decide ((s22.length+1)*9≤140737488355328) then(Ef n y1 x19 k23 s20 (IntKind.i64.wrap (s21+1)) (s22++([x52]:List Int))) else none))|.ret v=>some (.ret v)) else(some (.out s22)))
def Hy:Nat→Aq→Option (List Int)
 | 0,_=>none
 | n+1,A7=>((Gf n A7).bind fun y1=>((Fp n A7 y1 n 0 ([]:List (List Bool))).bind fun o12=>match o12 with|.out x19=>((Ef n y1 x19 n 0 0 ([]:List Int)).bind fun o30=>match o30 with|.out x60=>(some x60)|.ret v=>some v)|.ret v=>some v))
def Dd (n:Nat)  (Bt:(List Int)) (C9:(List Bool)) (s1:Int):Nat→Int→(List Int)→Option (LR (List Int) (List (List Int)))
 | 0,_,_=>none
 | k14+1,s12,s13=>(bif decide (s12<((Bt.length:Nat):Int)) then((idx Bt s12).bind fun x23=>(bif (x23==s1) then(bif decide (s12<((C9.length:Nat):Int)) then((idx C9 s12).bind fun x26=>(bif x26 then(bif decide ((s13.length+1)*9≤140737488355328) then(Dd n Bt C9 s1 k14 (IntKind.i64.wrap (s12+1)) (s13++([s12]:List Int))) else none) else(Dd n Bt C9 s1 k14 (IntKind.i64.wrap (s12+1)) s13))) else(Dd n Bt C9 s1 k14 (IntKind.i64.wrap (s12+1)) s13)) else(Dd n Bt C9 s1 k14 (IntKind.i64.wrap (s12+1)) s13))) else(some (.out s13)))
def Dz (n:Nat)  (Bt:(List Int)) (C9:(List Bool)):Nat→Int→(List (List Int))→Option (LR (List (List Int)) (List (List Int)))
 | 0,_,_=>none
 | k3+1,s1,s2=>(bif decide (s1<((Bt.length:Nat):Int)) then((Dd n Bt C9 s1 n 0 ([]:List Int)).bind fun o21=>match o21 with|.out x31=>(bif decide (0<((x31.length:Nat):Int)) then(bif decide ((s2.length+1)*25≤140737488355328) then(Dz n Bt C9 k3 (IntKind.i64.wrap (s1+1)) (s2++([x31]:List (List Int)))) else none) else(Dz n Bt C9 k3 (IntKind.i64.wrap (s1+1)) s2))|.ret v=>some (.ret v)) else(some (.out s2)))
def Ih:Nat→(List Int)→(List Bool)→Option (List (List Int))
 | 0,_,_=>none
 | n+1,Bt,C9=>((Dz n Bt C9 n 0 ([]:List (List Int))).bind fun o10=>match o10 with|.out x37=>(some x37)|.ret v=>some v)
def He:Nat→Aq→(List Bool)→Option (List (List Int))
 | 0,_,_=>none
 | n+1,A7,C9=>((Mi n A7 C9).bind fun y1=>((Hy n y1).bind fun y3=>((Ih n y3 C9).bind fun y5=>(some y5))))
def Cy (n:Nat)  (Bt:(List Int)) (D3:(List Bool)) (s1:Int):Nat→Int→(List Int)→Option (LR (List Int) (List (List Int)))
 | 0,_,_=>none
 | k14+1,s12,s13=>(bif decide (s12<((Bt.length:Nat):Int)) then((idx Bt s12).bind fun x23=>(bif (x23==s1) then(bif decide (s12<((D3.length:Nat):Int)) then((idx D3 s12).bind fun x26=>(bif x26 then(bif decide ((s13.length+1)*9≤140737488355328) then(Cy n Bt D3 s1 k14 (IntKind.i64.wrap (s12+1)) (s13++([s12]:List Int))) else none) else(Cy n Bt D3 s1 k14 (IntKind.i64.wrap (s12+1)) s13))) else(Cy n Bt D3 s1 k14 (IntKind.i64.wrap (s12+1)) s13)) else(Cy n Bt D3 s1 k14 (IntKind.i64.wrap (s12+1)) s13))) else(some (.out s13)))
def Dj (n:Nat)  (Bt:(List Int)) (D3:(List Bool)):Nat→Int→(List (List Int))→Option (LR (List (List Int)) (List (List Int)))
 | 0,_,_=>none
 | k3+1,s1,s2=>(bif decide (s1<((Bt.length:Nat):Int)) then((Cy n Bt D3 s1 n 0 ([]:List Int)).bind fun o21=>match o21 with|.out x31=>(bif decide (0<((x31.length:Nat):Int)) then(bif decide ((s2.length+1)*25≤140737488355328) then(Dj n Bt D3 k3 (IntKind.i64.wrap (s1+1)) (s2++([x31]:List (List Int)))) else none) else(Dj n Bt D3 k3 (IntKind.i64.wrap (s1+1)) s2))|.ret v=>some (.ret v)) else(some (.out s2)))
def Is:Nat→(List Int)→(List Bool)→Option (List (List Int))
 | 0,_,_=>none
 | n+1,Bt,D3=>((Dj n Bt D3 n 0 ([]:List (List Int))).bind fun o10=>match o10 with|.out x37=>(some x37)|.ret v=>some v)
def Ik:Nat→Aq→(List Bool)→Option (List (List Int))
 | 0,_,_=>none
 | n+1,A7,D3=>((Kk n A7 D3).bind fun y1=>((Hy n y1).bind fun y3=>((Is n y3 D3).bind fun y5=>(some y5))))
def Eo (n:Nat)  (y1:(List Int)):Nat→Int→(List Bool)→Option (LR (List Bool) (List (List Int)))
 | 0,_,_=>none
 | k7+1,s5,s6=>(bif decide (s5<((y1.length:Nat):Int)) then((idx s6 s5).bind fun x16=>(Eo n y1 k7 (IntKind.i64.wrap (s5+1)) (List.set s6 s5.toNat true))) else(some (.out s6)))
def Kj:Nat→Aq→Option (List (List Int))
 | 0,_=>none
 | n+1,A7=>((Hy n A7).bind fun y1=>(bif (decide (0≤((y1.length:Nat):Int))&&decide ((1:Int)*(((y1.length:Nat):Int))≤140737488355328)) then((Eo n y1 n 0 (List.replicate (((y1.length:Nat):Int)).toNat false:List Bool)).bind fun o14=>match o14 with|.out x19=>((Ih n y1 x19).bind fun y20=>(some y20))|.ret v=>some v) else none))
def Fk (n:Nat)  (Ao:(List (List Bool))) (Ab:Int):Nat→Int→Option (LR Unit Bool)
 | 0,_=>none
 | k10+1,s9=>(bif decide (s9<((Ao.length:Nat):Int)) then((idx Ao s9).bind fun x19=>(bif (((x19.length:Nat):Int) != Ab) then(some (.ret false)) else(Fk n Ao Ab k10 (IntKind.i64.wrap (s9+1))))) else(some (.out ())))
def Fg (n:Nat)  (Ao:(List (List Bool))) (Ab:Int) (y22:(List A9)):Nat→Int→Option (LR Unit Bool)
 | 0,_=>none
 | k25+1,s24=>(bif decide (s24<((y22.length:Nat):Int)) then((idx y22 s24).bind fun x34=>(bif decide (Ab≤x34.Aj) then(some (.ret false)) else((idx y22 s24).bind fun x36=>((idx Ao x36.C2).bind fun x37=>((idx y22 s24).bind fun x38=>((idx x37 x38.Aj).bind fun x39=>(bif x39 then(Fg n Ao Ab y22 k25 (IntKind.i64.wrap (s24+1))) else(some (.ret false))))))))) else(some (.out ())))
def I2:Nat→Aq→(List (List Bool))→Int→Option Bool
 | 0,_,_,_=>none
 | n+1,A7,Ao,Ab=>((Ff n A7).bind fun y1=>(bif y1 then(bif decide (Ab<0) then(some false) else(bif decide (100<Ab) then(some false) else((Gf n A7).bind fun y6=>(bif (((Ao.length:Nat):Int) != y6) then(some false) else((Fk n Ao Ab n 0).bind fun o17=>match o17 with|.out _=>((Gn n A7).bind fun y22=>((Fg n Ao Ab y22 n 0).bind fun o32=>match o32 with|.out _=>(some true)|.ret v=>some v))|.ret v=>some v))))) else(some false)))
def Gs (n:Nat)  (Bh:(List Int)) (Hh:Int):Nat→Int→Option (LR Unit Bool)
 | 0,_=>none
 | k2+1,s1=>(bif decide (s1<((Bh.length:Nat):Int)) then((idx Bh s1).bind fun x11=>(bif (x11==Hh) then(some (.ret true)) else(Gs n Bh Hh k2 (IntKind.i64.wrap (s1+1))))) else(some (.out ())))
def Ll:Nat→(List Int)→Int→Option Bool
 | 0,_,_=>none
 | n+1,Bh,Hh=>((Gs n Bh Hh n 0).bind fun o9=>match o9 with|.out _=>(some false)|.ret v=>some v)
def Ea (n:Nat)  (Ch:(List Int)) (Ia:Int) (y1:(List A9)):Nat→Int→Option (LR Unit Bool)
 | 0,_=>none
 | k4+1,s3=>(bif decide (s3<((y1.length:Nat):Int)) then((idx y1 s3).bind fun x13=>(bif (x13.Aj==Ia) then((idx y1 s3).bind fun x15=>((Ll n Ch x15.C2).bind fun y16=>(bif y16 then((idx y1 s3).bind fun x19=>((Ll n Ch x19.Aw).bind fun y20=>(bif y20 then(some (.ret true)) else(Ea n Ch Ia y1 k4 (IntKind.i64.wrap (s3+1)))))) else(Ea n Ch Ia y1 k4 (IntKind.i64.wrap (s3+1)))))) else(Ea n Ch Ia y1 k4 (IntKind.i64.wrap (s3+1))))) else(some (.out ())))
def Kh:Nat→Aq→(List Int)→Int→Option Bool
 | 0,_,_,_=>none
 | n+1,A7,Ch,Ia=>((Gn n A7).bind fun y1=>((Ea n Ch Ia y1 n 0).bind fun o11=>match o11 with|.out _=>(some false)|.ret v=>some v))
def Ei (n:Nat)  (Ph:(List (List Bool))) (Ch:(List Int)) (Ia:Int):Nat→Int→Int→Option (LR Int Int)
 | 0,_,_=>none
 | k3+1,s1,s2=>(bif decide (s2<((Ch.length:Nat):Int)) then((idx Ch s2).bind fun x12=>((idx Ph x12).bind fun x13=>((idx x13 Ia).bind fun x14=>(bif x14 then(Ei n Ph Ch Ia k3 (IntKind.i64.wrap (s1+1)) (IntKind.i64.wrap (s2+1))) else(Ei n Ph Ch Ia k3 s1 (IntKind.i64.wrap (s2+1))))))) else(some (.out s1)))
def Lg:Nat→(List (List Bool))→(List Int)→Int→Option Int
 | 0,_,_,_=>none
 | n+1,Ph,Ch,Ia=>((Ei n Ph Ch Ia n 0 0).bind fun o10=>match o10 with|.out x17=>(some x17)|.ret v=>some v)
def Ct (n:Nat)  (A7:Aq) (Ao:(List (List Bool))) (Ab:Int) (Bl:Int) (Bj:(List Int)):Nat→Int→Option (LR Unit Bool)
 | 0,_=>none
 | k2+1,s1=>(bif decide (s1<Ab) then((Lg n Ao Bj s1).bind fun y11=>((Kh n A7 Bj s1).bind fun y13=>(bif y13 then(Ct n A7 Ao Ab Bl Bj k2 (IntKind.i64.wrap (s1+1))) else(bif (Bl==1) then(bif (y11==((Bj.length:Nat):Int)) then(some (.ret false)) else(bif (Bl==2) then(bif decide (0<y11) then(some (.ret false)) else(Ct n A7 Ao Ab Bl Bj k2 (IntKind.i64.wrap (s1+1)))) else(Ct n A7 Ao Ab Bl Bj k2 (IntKind.i64.wrap (s1+1))))) else(bif (Bl==2) then(bif decide (0<y11) then(some (.ret false)) else(Ct n A7 Ao Ab Bl Bj k2 (IntKind.i64.wrap (s1+1)))) else(Ct n A7 Ao Ab Bl Bj k2 (IntKind.i64.wrap (s1+1)))))))) else(some (.out ())))
def Gp:Nat→Aq→(List (List Bool))→Int→Int→(List Int)→Option Bool
 | 0,_,_,_,_,_=>none
 | n+1,A7,Ao,Ab,Bl,Bj=>((Ct n A7 Ao Ab Bl Bj n 0).bind fun o9=>match o9 with|.out _=>((Hc n A7 Bj).bind fun y23=>(some y23))|.ret v=>some v)
def Gd (n:Nat)  (Cx:(List Int)):Nat→Int→(List Bool)→Option (LR (List Bool) (List Bool))
 | 0,_,_=>none
 | k5+1,s3,s4=>(bif decide (s3<((Cx.length:Nat):Int)) then((idx Cx s3).bind fun x14=>((idx s4 x14).bind fun x15=>(Gd n Cx k5 (IntKind.i64.wrap (s3+1)) (List.set s4 x14.toNat true)))) else(some (.out s4)))
def Fc (n:Nat)  (Ao:(List (List Bool))) (Cx:(List Int)) (s19:Int):Nat→Int→(List Bool)→Option (LR (List Bool) (List Bool))
 | 0,_,_=>none
 | k35+1,s33,s34=>(bif decide (s33<((Cx.length:Nat):Int)) then((idx Cx s33).bind fun x44=>((idx Ao x44).bind fun x45=>((idx x45 s19).bind fun x46=>(bif x46 then((idx Cx s33).bind fun x48=>((idx s34 x48).bind fun x49=>(Fc n Ao Cx s19 k35 (IntKind.i64.wrap (s33+1)) (List.set s34 x48.toNat false)))) else(Fc n Ao Cx s19 k35 (IntKind.i64.wrap (s33+1)) s34))))) else(some (.out s34)))
def Fe (n:Nat)  (A7:Aq) (Ao:(List (List Bool))) (Ab:Int) (Cx:(List Int)):Nat→Int→(List Bool)→Option (LR (List Bool) (List Bool))
 | 0,_,_=>none
 | k21+1,s19,s20=>(bif decide (s19<Ab) then((Kh n A7 Cx s19).bind fun y30=>(bif y30 then(Fe n A7 Ao Ab Cx k21 (IntKind.i64.wrap (s19+1)) s20) else((Fc n Ao Cx s19 n 0 s20).bind fun o42=>match o42 with|.out x52=>(Fe n A7 Ao Ab Cx k21 (IntKind.i64.wrap (s19+1)) x52)|.ret v=>some (.ret v)))) else(some (.out s20)))
def Ka:Nat→Aq→(List (List Bool))→Int→(List Int)→Option (List Bool)
 | 0,_,_,_,_=>none
 | n+1,A7,Ao,Ab,Cx=>(bif (decide (0≤((Ao.length:Nat):Int))&&decide ((1:Int)*(((Ao.length:Nat):Int))≤140737488355328)) then((Gd n Cx n 0 (List.replicate (((Ao.length:Nat):Int)).toNat false:List Bool)).bind fun o12=>match o12 with|.out x18=>((Fe n A7 Ao Ab Cx n 0 x18).bind fun o28=>match o28 with|.out x55=>(some x55)|.ret v=>some v)|.ret v=>some v) else none)
def Fs (n:Nat) (rec_ref18_strong_1:Aq→(List (List Bool))→Int→(List Bool)→Option (List Int)) (A7:Aq) (Ao:(List (List Bool))) (Ab:Int) (y1:(List (List Int))):Nat→Int→Option (LR Unit (List Int))
 | 0,_=>none
 | k4+1,s3=>(bif decide (s3<((y1.length:Nat):Int)) then((idx y1 s3).bind fun x13=>((Hc n A7 x13).bind fun y14=>(bif y14 then((idx y1 s3).bind fun x17=>((Gp n A7 Ao Ab 2 x17).bind fun y18=>(bif y18 then((idx y1 s3).bind fun x21=>(some (.ret x21))) else((idx y1 s3).bind fun x22=>((Ka n A7 Ao Ab x22).bind fun y23=>((rec_ref18_strong_1 A7 Ao Ab y23).bind fun y25=>(bif decide (0<((y25.length:Nat):Int)) then(some (.ret y25)) else(Fs n rec_ref18_strong_1 A7 Ao Ab y1 k4 (IntKind.i64.wrap (s3+1)))))))))) else(Fs n rec_ref18_strong_1 A7 Ao Ab y1 k4 (IntKind.i64.wrap (s3+1)))))) else(some (.out ())))
def F2:Nat→Aq→(List (List Bool))→Int→(List Bool)→Option (List Int)
 | 0,_,_,_,_=>none
 | n+1,A7,Ao,Ab,A3k=>((Ik n A7 A3k).bind fun y1=>((Fs n (F2 n) A7 Ao Ab y1 n 0).bind fun o11=>match o11 with|.out _=>(some ([]:List Int))|.ret v=>some v))
def E2 (n:Nat)  (A7:Aq) (Ao:(List (List Bool))) (Ab:Int) (y1:(List (List Int))):Nat→Int→Option (LR Unit (List Int))
 | 0,_=>none
 | k4+1,s3=>(bif decide (s3<((y1.length:Nat):Int)) then((idx y1 s3).bind fun x13=>((Hc n A7 x13).bind fun y14=>(bif y14 then((idx y1 s3).bind fun x17=>((Gp n A7 Ao Ab 2 x17).bind fun y18=>(bif y18 then((idx y1 s3).bind fun x21=>(some (.ret x21))) else((idx y1 s3).bind fun x22=>((Ka n A7 Ao Ab x22).bind fun y23=>((F2 n A7 Ao Ab y23).bind fun y25=>(bif decide (0<((y25.length:Nat):Int)) then(some (.ret y25)) else(E2 n A7 Ao Ab y1 k4 (IntKind.i64.wrap (s3+1)))))))))) else(E2 n A7 Ao Ab y1 k4 (IntKind.i64.wrap (s3+1)))))) else(some (.out ())))
def K3:Nat→Aq→(List (List Bool))→Int→(List Bool)→Option (List Int)
 | 0,_,_,_,_=>none
 | n+1,A7,Ao,Ab,C9=>((He n A7 C9).bind fun y1=>((E2 n A7 Ao Ab y1 n 0).bind fun o11=>match o11 with|.out _=>(some ([]:List Int))|.ret v=>some v))
def Er (n:Nat)  (Ao:(List (List Bool))):Nat→Int→(List Bool)→Option (LR (List Bool) (List Int))
 | 0,_,_=>none
 | k8+1,s6,s7=>(bif decide (s6<((Ao.length:Nat):Int)) then((idx s7 s6).bind fun x17=>(Er n Ao k8 (IntKind.i64.wrap (s6+1)) (List.set s7 s6.toNat true))) else(some (.out s7)))
def Kl:Nat→Aq→(List (List Bool))→Int→Option (List Int)
 | 0,_,_,_=>none
 | n+1,A7,Ao,Ab=>((I2 n A7 Ao Ab).bind fun y1=>(bif y1 then(bif (decide (0≤((Ao.length:Nat):Int))&&decide ((1:Int)*(((Ao.length:Nat):Int))≤140737488355328)) then((Er n Ao n 0 (List.replicate (((Ao.length:Nat):Int)).toNat false:List Bool)).bind fun o15=>match o15 with|.out x20=>((K3 n A7 Ao Ab x20).bind fun y21=>(some y21))|.ret v=>some v) else none) else(some ([]:List Int))))
def Gc (n:Nat)  (A7:Aq) (Ao:(List (List Bool))) (Ab:Int) (y4:(List (List Int))):Nat→Int→Option (LR Unit (List Int))
 | 0,_=>none
 | k7+1,s6=>(bif decide (s6<((y4.length:Nat):Int)) then((idx y4 s6).bind fun x16=>((Gp n A7 Ao Ab 1 x16).bind fun y17=>(bif y17 then((idx y4 s6).bind fun x20=>(some (.ret x20))) else(Gc n A7 Ao Ab y4 k7 (IntKind.i64.wrap (s6+1)))))) else(some (.out ())))
def Me:Nat→Aq→(List (List Bool))→Int→Option (List Int)
 | 0,_,_,_=>none
 | n+1,A7,Ao,Ab=>((I2 n A7 Ao Ab).bind fun y1=>(bif y1 then((Kj n A7).bind fun y4=>((Gc n A7 Ao Ab y4 n 0).bind fun o14=>match o14 with|.out _=>(some ([]:List Int))|.ret v=>some v)) else(some ([]:List Int))))
def Ip:Nat→Aq→(List (List Bool))→Int→Int→Option (List Int)
 | 0,_,_,_,_=>none
 | n+1,A7,Ao,Ab,Bl=>(bif (Bl==1) then((Me n A7 Ao Ab).bind fun y2=>(some y2)) else(bif (Bl==2) then((Kl n A7 Ao Ab).bind fun y5=>(some y5)) else(some ([]:List Int))))
def J4 (n:Nat)  (Ao:(List (List Bool))) (Bj:(List Int)):Nat→Int→(List Bool)→Option (LR (List Bool) Bool)
 | 0,_,_=>none
 | k10+1,s8,s9=>(bif decide (s8<((Bj.length:Nat):Int)) then((idx Bj s8).bind fun x19=>(bif decide (x19<0) then(some (.ret false)) else((idx Bj s8).bind fun x21=>(bif decide (((Ao.length:Nat):Int)≤x21) then(some (.ret false)) else((idx Bj s8).bind fun x23=>((idx s9 x23).bind fun x24=>(bif x24 then(some (.ret false)) else((idx Bj s8).bind fun x26=>((idx s9 x26).bind fun x27=>(J4 n Ao Bj k10 (IntKind.i64.wrap (s8+1)) (List.set s9 x26.toNat true))))))))))) else(some (.out s9)))
def J2 (n:Nat)  (Ao:(List (List Bool))) (Bj:(List Int)):Nat→Int→(List Bool)→Option (LR (List Bool) Bool)
 | 0,_,_=>none
 | k41+1,s39,s40=>(bif decide (s39<((Bj.length:Nat):Int)) then((idx Bj s39).bind fun x50=>(bif decide (x50<0) then(some (.ret false)) else((idx Bj s39).bind fun x52=>(bif decide (((Ao.length:Nat):Int)≤x52) then(some (.ret false)) else((idx Bj s39).bind fun x54=>((idx s40 x54).bind fun x55=>(bif x55 then(some (.ret false)) else((idx Bj s39).bind fun x57=>((idx s40 x57).bind fun x58=>(J2 n Ao Bj k41 (IntKind.i64.wrap (s39+1)) (List.set s40 x57.toNat true))))))))))) else(some (.out s40)))
def M3:Nat→Aq→(List (List Bool))→Int→Int→(List Int)→Option Bool
 | 0,_,_,_,_,_=>none
 | n+1,A7,Ao,Ab,Bl,Bj=>((I2 n A7 Ao Ab).bind fun y1=>(bif y1 then(bif (Bl != 1) then(bif (Bl != 2) then(some false) else(bif (decide (0≤((Ao.length:Nat):Int))&&decide ((1:Int)*(((Ao.length:Nat):Int))≤140737488355328)) then((J4 n Ao Bj n 0 (List.replicate (((Ao.length:Nat):Int)).toNat false:List Bool)).bind fun o17=>match o17 with|.out x30=>((He n A7 x30).bind fun y31=>(bif (((y31.length:Nat):Int)==1) then((Gp n A7 Ao Ab Bl Bj).bind fun y34=>(some y34)) else(some false)))|.ret v=>some v) else none)) else(bif (decide (0≤((Ao.length:Nat):Int))&&decide ((1:Int)*(((Ao.length:Nat):Int))≤140737488355328)) then((J2 n Ao Bj n 0 (List.replicate (((Ao.length:Nat):Int)).toNat false:List Bool)).bind fun o48=>match o48 with|.out x61=>((He n A7 x61).bind fun y62=>(bif (((y62.length:Nat):Int)==1) then((Gp n A7 Ao Ab Bl Bj).bind fun y65=>(some y65)) else(some false)))|.ret v=>some v) else none)) else(some false)))
def Hb (n:Nat)  (A7:Aq) (Ao:(List (List Bool))) (Ab:Int) (Bl:Int) (y4:(List Bool)):Nat→Int→Int→(List Int)→Option (LR (Int×(List Int)) ((List Int)×Bool))
 | 0,_,_,_=>none
 | k11+1,s8,s9,s10=>(bif decide (s9<Ab) then((Yr n A7 Ao Bl y4 s9).bind fun y20=>(bif decide (y20.1<0) then(Hb n A7 Ao Ab Bl y4 k11 s8 (IntKind.i64.wrap (s9+1)) s10) else((Q2 n A7 s8 y20.1 y4).bind fun y23=>(bif decide ((s10.length+y23.1.length)*9≤140737488355328) then(bif decide (0≤y20.2) then(bif decide ((((s10++y23.1)).length+1)*9≤140737488355328) then(Hb n A7 Ao Ab Bl y4 k11 y20.2 (IntKind.i64.wrap (s9+1)) ((s10++y23.1)++([s9]:List Int))) else none) else(Hb n A7 Ao Ab Bl y4 k11 y20.1 (IntKind.i64.wrap (s9+1)) (s10++y23.1))) else none)))) else(some (.out (s8,s10))))
def Ns:Nat→Aq→(List (List Bool))→Int→Int→(List Int)→Option ((List Int)×Bool)
 | 0,_,_,_,_,_=>none
 | n+1,A7,Ao,Ab,Bl,Bj=>((M3 n A7 Ao Ab Bl Bj).bind fun y1=>(bif y1 then((Uy n Bj ((Ao.length:Nat):Int)).bind fun y4=>((Nr n Bj).bind fun y6=>((Hb n A7 Ao Ab Bl y4 n y6 0 ([]:List Int)).bind fun o18=>match o18 with|.out (x31,x32)=>((Nr n Bj).bind fun y33=>((Q2 n A7 x31 y33 y4).bind fun y35=>(bif decide ((x32.length+y35.1.length)*9≤140737488355328) then(some ((x32++y35.1),true)) else none)))|.ret v=>some v))) else(some (([]:List Int),false))))
def Kc:Nat→Bf→(List (List Bool))→Int→Int→(List Int)→Option ((List Int)×(List Int)×Bool)
 | 0,_,_,_,_,_=>none
 | n+1,Ee,Ao,Ab,Bl,Bj=>((Ns n Ee.Cs Ao Ab Bl Bj).bind fun y1=>(bif y1.2 then((Nr n Bj).bind fun y4=>((Rz n Ee y4).bind fun y6=>(some (y6,y1.1,true)))) else(some (([]:List Int),([]:List Int),false))))
def R8:Nat→Ak→(List OpS)→Ac→Option Bool
 | 0,_,_,_=>none
 | n+1,Aa,E3,Ut=>((H6 n E3 Aa.mod ([]:List Int) Ut.regs Ut.mem).bind fun y1=>(bif y1.2 then(some (y1.1 != 0)) else(some false)))
def Ig (n:Nat)  (Aa:Ak) (Ba:Bf) (Ti:(List OpS)) (Pi:Bool):Nat→Bool→Int→Option (LR Unit Int)
 | 0,_,_=>none
 | k3+1,s1,s2=>(bif decide (s2<((Ba.C5.length:Nat):Int)) then((idx Ba.C5 s2).bind fun x12=>((R8 n Aa Ti x12).bind fun y13=>(bif (y13==Pi) then(bif s1 then((idx Ba.C5 s2).bind fun x17=>((No n Aa x17).bind fun y18=>(bif y18 then(some (.ret s2)) else(Ig n Aa Ba Ti Pi k3 true (IntKind.i64.wrap (s2+1)))))) else(some (.ret s2))) else(Ig n Aa Ba Ti Pi k3 s1 (IntKind.i64.wrap (s2+1)))))) else(some (.out ())))
def Rg:Nat→Ak→Bf→(List OpS)→Bool→Bool→Option Int
 | 0,_,_,_,_,_=>none
 | n+1,Aa,Ba,Ti,Tj,Pi=>((Ig n Aa Ba Ti Pi n Tj 0).bind fun o10=>match o10 with|.out _=>(some (-1))|.ret v=>some v)
def Uf:Nat→Ak→Bf→Int→(List OpS)→Option C1
 | 0,_,_,_,_=>none
 | n+1,Aa,Ba,N6,Pj=>(bif decide (N6<1) then(some (⟨false,false,([]:List Int)⟩:C1)) else(bif decide (3<N6) then(some (⟨false,false,([]:List Int)⟩:C1)) else((Rg n Aa Ba Pj (N6 != 3) (N6==2)).bind fun y3=>(bif decide (0≤y3) then((Rz n Ba y3).bind fun y6=>(some (⟨(true==(N6==2)),true,y6⟩:C1))) else(some (⟨(false==(N6==2)),false,([]:List Int)⟩:C1))))))
def M7 (n:Nat)  (Ft:Cf) (Jr:Ak) (Hq:Bf):Nat→Int→(List C1)→Option (LR (List C1) ((List C1)×Int))
 | 0,_,_=>none
 | k9+1,s7,s8=>(bif decide (s7<((Ft.Cw.length:Nat):Int)) then((idx Ft.Cw s7).bind fun x18=>((Wz n x18.Ub Ft).bind fun y19=>((idx Ft.Cw s7).bind fun x21=>((Uf n Jr Hq x21.A3l y19.1).bind fun y22=>(bif decide ((s8.length+1)*33≤140737488355328) then(M7 n Ft Jr Hq k9 (IntKind.i64.wrap (s7+1)) (s8++([y22]:List C1))) else none))))) else(some (.out s8)))
def Ng:Nat→Cf→Ak→Bf→Option ((List C1)×Int)
 | 0,_,_,_=>none
 | n+1,Ft,Jr,Hq=>((Mc n Ft).bind fun y1=>(bif (y1.2.1 != 0) then(some (([]:List C1),8)) else((R9 n Jr y1.1).bind fun y4=>(bif y4 then((M7 n Ft Jr Hq n 0 ([]:List C1)).bind fun o16=>match o16 with|.out x27=>(some (x27,0))|.ret v=>some v) else(some (([]:List C1),8))))))
def J8:Nat→Ak→Bf→Int→Int→Int→Option (Int×(List Int)×(List Int))
 | 0,_,_,_,_,_=>none
 | n+1,Aa,Ba,B1,Bd,Q9=>(bif decide (Q9<1) then(some (0,([]:List Int),([]:List Int))) else(bif decide (2<Q9) then(some (0,([]:List Int),([]:List Int))) else((La n Aa Ba B1 Bd).bind fun y3=>(bif decide (0<((y3.length:Nat):Int)) then((idx y3 0).bind fun x6=>((Rz n Ba x6).bind fun y7=>(some (2,y7,([]:List Int))))) else((Ja n Aa Ba B1 Bd).bind fun y9=>((Fo n Aa B1).bind fun y11=>((Ip n Ba.Cs y9 y11 Q9).bind fun y13=>((Kc n Ba y9 y11 Q9 y13).bind fun y15=>(bif y15.2.2 then(some (3,y15.1,y15.2.1)) else(some (1,([]:List Int),([]:List Int))))))))))))
def Jz:Nat→Cf→Int→Int→Int→Int→Option (Gb×Int×Int)
 | 0,_,_,_,_,_=>none
 | n+1,Ft,Az,Co,Bl,Ua=>((Mc n Ft).bind fun y1=>(bif (y1.2.1 != 0) then(some ((⟨0,([]:List Int),([]:List Int),([]:List C1),0,0⟩:Gb),y1.2.1,y1.2.2)) else(bif decide (Bl<1) then(some ((⟨0,([]:List Int),([]:List Int),([]:List C1),0,0⟩:Gb),1,0)) else(bif decide (2<Bl) then(some ((⟨0,([]:List Int),([]:List Int),([]:List C1),0,0⟩:Gb),1,0)) else((Lm n y1.1 Az Co Ua).bind fun y6=>(bif (y6.2 != 0) then(some ((⟨0,([]:List Int),([]:List Int),([]:List C1),0,0⟩:Gb),y6.2,0)) else((J8 n y1.1 y6.1 Az Co Bl).bind fun y9=>((Ng n Ft y1.1 y6.1).bind fun y11=>(some ((⟨y9.1,y9.2.1,y9.2.2,y11.1,((y6.1.C5.length:Nat):Int),((y6.1.Cs.Aw.length:Nat):Int)⟩:Gb),0,0))))))))))
def E7 (n:Nat)  (y4:(Gb×Int×Int)):Nat→Int→Option (LR Unit Bool)
 | 0,_=>none
 | k12+1,s11=>(bif decide (s11<((y4.1.Fz.length:Nat):Int)) then((idx y4.1.Fz s11).bind fun x21=>(bif x21.Q8 then(E7 n y4 k12 (IntKind.i64.wrap (s11+1))) else(some (.ret false)))) else(some (.out ())))
def J7:Nat→Int→Int→(Int×Int×Int)→Option Bool
 | 0,_,_,_=>none
 | n+1,Zp,Hh,Jm=>((I8 n (IntKind.i64.wrap (1+(Int.tmod (IntKind.i64.wrap Zp) 3))) (IntKind.i64.wrap (1+(Int.tmod (IntKind.i64.wrap Hh) 2))) (IntKind.i64.wrap ((IntKind.i64.wrap (1+(Int.tmod (IntKind.i64.wrap Hh) 2)))+1))).bind fun y1=>(bif (y1.2 != 0) then(some false) else((Jz n y1.1 (IntKind.i64.wrap (1+(Int.tmod (IntKind.i64.wrap Jm.1) 3))) (IntKind.i64.wrap (1+(Int.tmod (IntKind.i64.wrap Jm.2.1) 2))) (IntKind.i64.wrap (1+(Int.tmod (IntKind.i64.wrap Jm.2.2) 2))) 700).bind fun y4=>(bif (y4.2.1==18) then((Rb n ).bind fun y7=>(some y7)) else(bif (y4.2.1 != 0) then(some false) else(bif (y4.1.R6 != 1) then(some false) else((E7 n y4 n 0).bind fun o19=>match o19 with|.out _=>(bif (((y4.1.Fz.length:Nat):Int)==((y1.1.Cw.length:Nat):Int)) then((Rb n ).bind fun y25=>(some y25)) else(some false))|.ret v=>some v)))))))
end
set_option linter.unusedVariables false
set_option linter.unusedSimpArgs false
set_option maxRecDepth 100000
set_option maxHeartbeats 4000000
theorem Ln {n:Nat} ⦃G7:Int⦄ ⦃Qa:Int⦄ ⦃r:Bool⦄:G9 n G7 Qa=some r→CN n 122 [iA G7,iA Qa] []=some (bA r,[]):=by
 intro h;rcases n with _|n;cases h
 rw[G9] at h
 refine Au Tryz.func122 (by rfl) rfl rfl (B4 rfl) ?_
 intro call hc;conv=>lhs;whnf
 revert h
 refine br ?_ ?_
 exact rz
 exact rz
theorem Tb {n:Nat} ⦃Bh:(List Int)⦄ ⦃Bk:Int⦄ ⦃r:Bool⦄:Hm n Bh Bk=some r→CN n 77 [AV.sl 1 (List.map A0 Bh),iA Bk] []=some (bA r,[]):=by
 intro h;rcases n with _|n;cases h
 rw[Hm] at h
 refine Au Tryz.func77 (by rfl) rfl rfl (B4 rfl) ?_
 intro call hc;conv=>lhs;whnf
 revert h
 intro h;refine Ae h ?_;clear h;intro o9 ho9 h
 refine lq (σ:=Int) (τ:=Unit) (ν:=Bool) 0 (fun s1 a3=>Ax 19 [(0,AV.sl 1 (List.map A0 Bh)),(1,iA Bk),(5,iA s1)]) (fun s1 a3=>[]) (fun _ a15=>Ax 19 []) (fun _ a15=>[]) (fun v=>(bA v,[])) (fun k s=>Ec n Bh Bk k s) (fun s=>rfl) o9 n 0 (fun _=>0) ho9 ?_ ?_
 intro k2 s1 a3 K4 cont5 hK6 hcont7 h hr8
 replace h:Ec n Bh Bk (k2+1) s1=some o9:=h
 rw[Ec] at h
 conv=>lhs;whnf
 revert h
 refine br ?_ ?_
 refine ix ?_;intro x11
 refine ca hc (fun _ h=>Ln h) ?_;intro y12
 refine br ?_ ?_
 exact fun h=>cq (hcont7 (IntKind.i64.wrap (s1+1)) (fun _=>0) h)
 intro h;cases sj h
 refine(hK6 _ _).trans ?_
 refine Eq.trans ?_ (Eq.symm (show _=some _ from hr8))
 conv=>lhs;whnf
 exact rq
 intro h;cases sj h
 exact kq (hr8 (fun _=>0))
 refine lrc ?_ ?_
 intro v e;subst e;cases sj h;rfl
 intro t a15 e;subst e
 dsimp only at h
 conv=>lhs;whnf
 revert h
 exact rz
theorem A76 {n:Nat} ⦃Bh:(List OpS)⦄ ⦃r:(Int×Int)⦄:Iq n Bh=some r→CN n 168 [AV.sl 3 (List.map C0 Bh)] []=some (AV.tup [iA r.1,iA r.2],[]):=by
 intro h;rcases n with _|n;cases h
 rw[Iq] at h
 refine Au Tryz.func168 (by rfl) rfl rfl (B4 rfl) ?_
 intro call hc;conv=>lhs;whnf
 revert h
 intro h;refine Ae h ?_;clear h;intro o11 ho11 h
 refine lq (σ:=(Int×Int×Int)) (τ:=(Int×Int)) (ν:=(Int×Int)) 0 (fun(s1,s2,s3) a5=>Ax 53 [(0,AV.sl 3 (List.map C0 Bh)),(4,iA s1),(5,iA s2),(6,iA s3)]) (fun(s1,s2,s3) a5=>[]) (fun(x33,x34) a32=>Ax 53 [(4,iA x33),(5,iA x34)]) (fun(x33,x34) a32=>[]) (fun v=>(AV.tup [iA v.1,iA v.2],[])) (fun k s=>Cn n Bh k s.1 s.2.1 s.2.2) (fun s=>rfl) o11 n (0,0,0) (fun _=>0) ho11 ?_ ?_
 intro k4 ss a5 K6 cont7 hK8 hcont9 h hr10
 obtain⟨s1,s2,s3⟩:=ss
 replace h:Cn n Bh (k4+1) s1 s2 s3=some o11:=h
 rw[Cn] at h
 conv=>lhs;whnf
 revert h
 refine br ?_ ?_
 refine ix ?_;intro x13
 refine br ?_ ?_
 refine br ?_ ?_
 exact fun h=>cq (hcont9 (IntKind.i64.wrap (s1+1),(if s2<(IntKind.i64.wrap (s1+1)) then(IntKind.i64.wrap (s1+1)) else s2),IntKind.i64.wrap (s3+1)) (fun _=>0) h)
 refine br ?_ ?_
 refine br ?_ ?_
 exact fun h=>cq (hcont9 (s1,(if s2<s1 then s1 else s2),IntKind.i64.wrap (s3+1)) (fun _=>0) h)
 refine br ?_ ?_
 refine br ?_ ?_
 refine br ?_ ?_
 exact fun h=>cq (hcont9 (IntKind.i64.wrap (s1 - 1),(if s2<(IntKind.i64.wrap (s1 - 1)) then(IntKind.i64.wrap (s1 - 1)) else s2),IntKind.i64.wrap (s3+1)) (fun _=>0) h)
 intro h;cases sj h
 refine(hK8 _ _).trans ?_
 refine Eq.trans ?_ (Eq.symm (show _=some _ from hr10))
 conv=>lhs;whnf
 exact rq
 intro h;cases sj h
 refine(hK8 _ _).trans ?_
 refine Eq.trans ?_ (Eq.symm (show _=some _ from hr10))
 conv=>lhs;whnf
 exact rq
 intro h;cases sj h
 refine(hK8 _ _).trans ?_
 refine Eq.trans ?_ (Eq.symm (show _=some _ from hr10))
 conv=>lhs;whnf
 exact rq
 refine br ?_ ?_
 refine br ?_ ?_
 refine br ?_ ?_
 exact fun h=>cq (hcont9 (IntKind.i64.wrap (s1 - 1),(if s2<(IntKind.i64.wrap (s1 - 1)) then(IntKind.i64.wrap (s1 - 1)) else s2),IntKind.i64.wrap (s3+1)) (fun _=>0) h)
 intro h;cases sj h
 refine(hK8 _ _).trans ?_
 refine Eq.trans ?_ (Eq.symm (show _=some _ from hr10))
 conv=>lhs;whnf
 exact rq
 intro h;cases sj h
 refine(hK8 _ _).trans ?_
 refine Eq.trans ?_ (Eq.symm (show _=some _ from hr10))
 conv=>lhs;whnf
 exact rq
 intro h;cases sj h
 refine(hK8 _ _).trans ?_
 refine Eq.trans ?_ (Eq.symm (show _=some _ from hr10))
 conv=>lhs;whnf
 exact rq
 refine br ?_ ?_
 refine br ?_ ?_
 exact fun h=>cq (hcont9 (s1,(if s2<s1 then s1 else s2),IntKind.i64.wrap (s3+1)) (fun _=>0) h)
 refine br ?_ ?_
 refine br ?_ ?_
 refine br ?_ ?_
 exact fun h=>cq (hcont9 (IntKind.i64.wrap (s1 - 1),(if s2<(IntKind.i64.wrap (s1 - 1)) then(IntKind.i64.wrap (s1 - 1)) else s2),IntKind.i64.wrap (s3+1)) (fun _=>0) h)
 intro h;cases sj h
 refine(hK8 _ _).trans ?_
 refine Eq.trans ?_ (Eq.symm (show _=some _ from hr10))
 conv=>lhs;whnf
 exact rq
 intro h;cases sj h
 refine(hK8 _ _).trans ?_
 refine Eq.trans ?_ (Eq.symm (show _=some _ from hr10))
 conv=>lhs;whnf
 exact rq
 intro h;cases sj h
 refine(hK8 _ _).trans ?_
 refine Eq.trans ?_ (Eq.symm (show _=some _ from hr10))
 conv=>lhs;whnf
 exact rq
 refine br ?_ ?_
 refine br ?_ ?_
 refine br ?_ ?_
 exact fun h=>cq (hcont9 (IntKind.i64.wrap (s1 - 1),(if s2<(IntKind.i64.wrap (s1 - 1)) then(IntKind.i64.wrap (s1 - 1)) else s2),IntKind.i64.wrap (s3+1)) (fun _=>0) h)
 intro h;cases sj h
 refine(hK8 _ _).trans ?_
 refine Eq.trans ?_ (Eq.symm (show _=some _ from hr10))
 conv=>lhs;whnf
 exact rq
 intro h;cases sj h
 refine(hK8 _ _).trans ?_
 refine Eq.trans ?_ (Eq.symm (show _=some _ from hr10))
 conv=>lhs;whnf
 exact rq
 intro h;cases sj h
 refine(hK8 _ _).trans ?_
 refine Eq.trans ?_ (Eq.symm (show _=some _ from hr10))
 conv=>lhs;whnf
 exact rq
 intro h;cases sj h
 exact kq (hr10 (fun _=>0))
 refine lrc ?_ ?_
 intro v e;subst e;cases sj h;rfl
 intro t a32 e;subst e
 obtain⟨x33,x34⟩:=t
 dsimp only at h
 conv=>lhs;whnf
 revert h
 exact rz
theorem A5u {n:Nat} ⦃Bh:(List OpS)⦄ ⦃Ek:(List Int)⦄ ⦃Cb:Int⦄ ⦃F0:Int⦄ ⦃r:Bool⦄:Hx n Bh Ek Cb F0=some r→CN n 126 [AV.sl 3 (List.map C0 Bh),AV.sl 1 (List.map A0 Ek),iA Cb,iA F0] []=some (bA r,[]):=by
 intro h;rcases n with _|n;cases h
 rw[Hx] at h
 refine Au Tryz.func126 (by rfl) rfl rfl (B4 rfl) ?_
 intro call hc;conv=>lhs;whnf
 revert h
 intro h;refine Ae h ?_;clear h;intro o9 ho9 h
 refine lq (σ:=Int) (τ:=Unit) (ν:=Bool) 0 (fun s1 a3=>Ax 71 [(0,AV.sl 3 (List.map C0 Bh)),(1,AV.sl 1 (List.map A0 Ek)),(2,iA Cb),(3,iA F0),(9,iA s1)]) (fun s1 a3=>[]) (fun _ a32=>Ax 71 [(0,AV.sl 3 (List.map C0 Bh))]) (fun _ a32=>[]) (fun v=>(bA v,[])) (fun k s=>Cp n Bh Ek Cb F0 k s) (fun s=>rfl) o9 n 0 (fun _=>0) ho9 ?_ ?_
 intro k2 s1 a3 K4 cont5 hK6 hcont7 h hr8
 replace h:Cp n Bh Ek Cb F0 (k2+1) s1=some o9:=h
 rw[Cp] at h
 conv=>lhs;whnf
 revert h
 refine br ?_ ?_
 refine ix ?_;intro x11
 refine br ?_ ?_
 refine ca hc (fun _ h=>Ln h) ?_;intro y13
 refine br ?_ ?_
 exact fun h=>cq (hcont7 (IntKind.i64.wrap (s1+1)) (fun _=>0) h)
 intro h;cases sj h
 refine(hK6 _ _).trans ?_
 refine Eq.trans ?_ (Eq.symm (show _=some _ from hr8))
 conv=>lhs;whnf
 exact rq
 refine br ?_ ?_
 refine ca hc (fun _ h=>Ln h) ?_;intro y17
 refine br ?_ ?_
 exact fun h=>cq (hcont7 (IntKind.i64.wrap (s1+1)) (fun _=>0) h)
 intro h;cases sj h
 refine(hK6 _ _).trans ?_
 refine Eq.trans ?_ (Eq.symm (show _=some _ from hr8))
 conv=>lhs;whnf
 exact rq
 refine br ?_ ?_
 refine ca hc (fun _ h=>Ln h) ?_;intro y21
 refine br ?_ ?_
 exact fun h=>cq (hcont7 (IntKind.i64.wrap (s1+1)) (fun _=>0) h)
 intro h;cases sj h
 refine(hK6 _ _).trans ?_
 refine Eq.trans ?_ (Eq.symm (show _=some _ from hr8))
 conv=>lhs;whnf
 exact rq
 refine br ?_ ?_
 refine cr hc (fun _ h=>Ln h) ?_;intro y25
 refine br ?_ ?_
 refine ix ?_;intro x28
 refine ca hc (fun _ h=>Ln h) ?_;intro y29
 refine br ?_ ?_
 exact fun h=>cq (hcont7 (IntKind.i64.wrap (s1+1)) (fun _=>0) h)
 intro h;cases sj h
 refine(hK6 _ _).trans ?_
 refine Eq.trans ?_ (Eq.symm (show _=some _ from hr8))
 conv=>lhs;whnf
 exact rq
 intro h;cases sj h
 refine(hK6 _ _).trans ?_
 refine Eq.trans ?_ (Eq.symm (show _=some _ from hr8))
 conv=>lhs;whnf
 exact rq
 exact fun h=>cq (hcont7 (IntKind.i64.wrap (s1+1)) (fun _=>0) h)
 intro h;cases sj h
 exact kq (hr8 (fun _=>0))
 refine lrc ?_ ?_
 intro v e;subst e;cases sj h;rfl
 intro t a32 e;subst e
 dsimp only at h
 conv=>lhs;whnf
 revert h
 refine ca hc (fun _ h=>A76 h) ?_;intro y33
 exact rz
theorem Fn {n:Nat} ⦃Wt:Bool⦄ ⦃r:Int⦄:De n Wt=some r→CN n 170 [bA Wt] []=some (iA r,[]):=by
 intro h;rcases n with _|n;cases h
 rw[De] at h
 refine Au Tryz.func170 (by rfl) rfl rfl (B4 rfl) ?_
 intro call hc;conv=>lhs;whnf
 revert h
 refine br ?_ ?_
 exact rz
 exact rz
theorem Aa6 {n:Nat} ⦃Ly:Int⦄ ⦃Od:Int⦄ ⦃Oe:Int⦄ ⦃Kr:Int⦄ ⦃r:Int⦄:Jp n Ly Od Oe Kr=some r→CN n 171 [iA Ly,iA Od,iA Oe,iA Kr] []=some (iA r,[]):=by
 intro h;rcases n with _|n;cases h
 rw[Jp] at h
 refine Au Tryz.func171 (by rfl) rfl rfl (B4 rfl) ?_
 intro call hc;conv=>lhs;whnf
 revert h
 refine br ?_ ?_
 refine bf ?_
 exact rz
 refine br ?_ ?_
 refine bf ?_
 exact rz
 refine br ?_ ?_
 refine bf ?_
 exact rz
 refine br ?_ ?_
 refine ca hc (fun _ h=>Fn h) ?_;intro y8
 exact rz
 refine br ?_ ?_
 refine ca hc (fun _ h=>Fn h) ?_;intro y11
 exact rz
 refine br ?_ ?_
 refine ca hc (fun _ h=>Fn h) ?_;intro y14
 exact rz
 refine br ?_ ?_
 refine ca hc (fun _ h=>Fn h) ?_;intro y17
 exact rz
 refine br ?_ ?_
 refine br ?_ ?_
 refine ca hc (fun _ h=>Fn h) ?_;intro y21
 exact rz
 refine ca hc (fun _ h=>Fn h) ?_;intro y23
 exact rz
 refine br ?_ ?_
 refine ca hc (fun _ h=>Fn h) ?_;intro y26
 exact rz
 refine ca hc (fun _ h=>Fn h) ?_;intro y28
 exact rz
theorem V9 {n:Nat} ⦃Bh:(List OpS)⦄ ⦃Bk:Int⦄ ⦃Cb:(List Int)⦄ ⦃D1:(List (List Int))⦄ ⦃Dy:(List Int)⦄ ⦃r:(Int×Bool)⦄:H6 n Bh Bk Cb D1 Dy=some r→CN n 128 [AV.sl 3 (List.map C0 Bh),iA Bk,AV.sl 1 (List.map A0 Cb),AV.sl 1 (List.map Ag D1),AV.sl 1 (List.map A0 Dy)] []=some (AV.tup [iA r.1,bA r.2],[]):=by
 intro h;rcases n with _|n;cases h
 rw[H6] at h
 refine Au Tryz.func128 (by rfl) rfl rfl (B4 rfl) ?_
 intro call hc;conv=>lhs;whnf
 revert h
 refine br ?_ ?_
 exact rz
 refine br ?_ ?_
 exact rz
 refine ca hc (fun _ h=>Tb h) ?_;intro y3
 refine br ?_ ?_
 refine ca hc (fun _ h=>Tb h) ?_;intro y6
 refine br ?_ ?_
 intro h;refine Ae h ?_;clear h;intro o18 ho18 h
 refine lq (σ:=(Int×(List Int))) (τ:=(List Int)) (ν:=(Int×Bool)) 0 (fun(s9,s10) a12=>Ax 162 [(0,AV.sl 3 (List.map C0 Bh)),(1,iA Bk),(2,AV.sl 1 (List.map A0 Cb)),(3,AV.sl 1 (List.map Ag D1)),(4,AV.sl 1 (List.map A0 Dy)),(12,AV.row 0 (List.length s10)),(13,iA s9)]) (fun(s9,s10) a12=>[Ob.row 3 1 (List.map A0 s10)]) (fun x28 a27=>Ax 162 [(0,AV.sl 3 (List.map C0 Bh)),(1,iA Bk),(2,AV.sl 1 (List.map A0 Cb)),(3,AV.sl 1 (List.map Ag D1)),(4,AV.sl 1 (List.map A0 Dy)),(12,AV.row 0 (List.length x28))]) (fun x28 a27=>[Ob.row 3 1 (List.map A0 x28)]) (fun v=>(AV.tup [iA v.1,bA v.2],[])) (fun k s=>Db n Bk D1 k s.1 s.2) (fun s=>rfl) o18 n (0,([]:List Int)) (fun _=>0) ho18 ?_ ?_
 intro k11 ss a12 K13 cont14 hK15 hcont16 h hr17
 obtain⟨s9,s10⟩:=ss
 replace h:Db n Bk D1 (k11+1) s9 s10=some o18:=h
 rw[Db] at h
 conv=>lhs;whnf
 revert h
 refine br ?_ ?_
 refine ix ?_;intro x20
 refine ca hc (fun _ h=>Tb h) ?_;intro y21
 refine br ?_ ?_
 refine ix ?_;intro x24
 refine ar (ap A0 (List.map A0 s10) s10 ([[iA (((x24.length:Nat):Int))]]) ([((x24.length:Nat):Int)]:List Int)) ?_
 exact fun h=>cq (hcont16 (IntKind.i64.wrap (s9+1),(s10++([((x24.length:Nat):Int)]:List Int))) (fun _=>0) h)
 intro h;cases sj h
 refine(hK15 _ _).trans ?_
 refine Eq.trans ?_ (Eq.symm (show _=some _ from hr17))
 conv=>lhs;whnf
 exact rq
 intro h;cases sj h
 exact kq (hr17 (fun _=>0))
 refine lrc ?_ ?_
 intro v e;subst e;cases sj h;rfl
 intro x28 a27 e;subst e
 dsimp only at h
 conv=>lhs;whnf
 revert h
 refine cr hc (fun _ h=>A5u h) ?_;intro y29
 refine br ?_ ?_
 intro h;refine Ae h ?_;clear h;intro o41 ho41 h
 refine lq (σ:=(Int×(List Int))) (τ:=(List Int)) (ν:=(Int×Bool)) 2 (fun(s32,s33) a35=>Ax 162 [(0,AV.sl 3 (List.map C0 Bh)),(1,iA Bk),(2,AV.sl 1 (List.map A0 Cb)),(3,AV.sl 1 (List.map Ag D1)),(4,AV.sl 1 (List.map A0 Dy)),(14,AV.stk 1 (a35 1) (List.length s33)),(15,iA s32)]) (fun(s32,s33) a35=>[Ob.row 3 1 (List.map A0 x28),Ob.stk (a35 1) 3 1 (List.map A0 s33)]) (fun x80 a79=>Ax 162 [(14,AV.stk 1 (a79 1) (List.length x80))]) (fun x80 a79=>[Ob.row 3 1 (List.map A0 x28),Ob.stk (a79 1) 3 1 (List.map A0 x80)]) (fun v=>(AV.tup [iA v.1,bA v.2],[])) (fun k s=>Ce n Bh Bk Cb D1 Dy k s.1 s.2) (fun s=>rfl) o41 n (0,([]:List Int)) (fun j=>(bif Nat.beq j 1 then 0 else 0)) ho41 ?_ ?_
 intro k34 ss a35 K36 cont37 hK38 hcont39 h hr40
 obtain⟨s32,s33⟩:=ss
 replace h:Ce n Bh Bk Cb D1 Dy (k34+1) s32 s33=some o41:=h
 rw[Ce] at h
 conv=>lhs;whnf
 revert h
 refine br ?_ ?_
 refine ix ?_;intro x43
 refine br ?_ ?_
 refine bf ?_
 intro h
 refine Ds h ?_;clear h;intro hc48 h
 try simp only[Bi]
 conv=>lhs;whnf
 first|refine B0 (Mp hc48 (by first|rfl|simp only [A5]) (by first|rfl|simp only [A5]) (by first|rfl|simp only [A5,Bw]) (by kernel_rfl)) ?_|refine B0 (Kx hc48 (by first|rfl|simp only [A5]) (by first|rfl|simp only [A5,Bw]) (by kernel_rfl)) ?_
 try simp only[lt]
 have hp46:(List.map A0 s33:List (List AV))++[[iA ((Int.tmod x43.n Bk))]]=List.map A0 (s33++([(Int.tmod x43.n Bk)]:List Int)):=by first|rfl|(rw[List.map_append];rfl)|(rw[List.map_append];done)|(simp only[List.map_append,List.map_cons,List.map_nil,List.nil_append,A0]<;>rfl)
 have hl47:List.length (List.map A0 s33:List (List AV))+List.length ([[iA ((Int.tmod x43.n Bk))]]:List (List AV))=List.length (s33++([(Int.tmod x43.n Bk)]:List Int)):=by simp only[A5,List.length_append]<;>rfl
 have hl47_b:List.length s33+List.length ([[iA ((Int.tmod x43.n Bk))]]:List (List AV))=List.length (s33++([(Int.tmod x43.n Bk)]:List Int)):=by simp only[A5,List.length_append]<;>rfl
 have hl47_c:List.length s33+List.length ([(Int.tmod x43.n Bk)]:List Int)=List.length (s33++([(Int.tmod x43.n Bk)]:List Int)):=by simp only[A5,List.length_append]<;>rfl
 first|simp only [hp46,hl47]|(simp only[A5,Bw];simp only[hp46,hl47_b,hl47_c])
 try simp only[ls]
 conv=>lhs;whnf
 revert h
 exact fun h=>cq (hcont39 (IntKind.i64.wrap (s32+1),(s33++([(Int.tmod x43.n Bk)]:List Int))) (fun j=>(bif Nat.beq j 1 then((a35 1)+1) else 0)) h)
 refine br ?_ ?_
 refine ix ?_;intro x50
 intro h
 refine Ds h ?_;clear h;intro hc53 h
 try simp only[Bi]
 conv=>lhs;whnf
 first|refine B0 (Mp hc53 (by first|rfl|simp only [A5]) (by first|rfl|simp only [A5]) (by first|rfl|simp only [A5,Bw]) (by kernel_rfl)) ?_|refine B0 (Kx hc53 (by first|rfl|simp only [A5]) (by first|rfl|simp only [A5,Bw]) (by kernel_rfl)) ?_
 try simp only[lt]
 have hp51:(List.map A0 s33:List (List AV))++[[iA x50]]=List.map A0 (s33++([x50]:List Int)):=by first|rfl|(rw[List.map_append];rfl)|(rw[List.map_append];done)|(simp only[List.map_append,List.map_cons,List.map_nil,List.nil_append,A0]<;>rfl)
 have hl52:List.length (List.map A0 s33:List (List AV))+List.length ([[iA x50]]:List (List AV))=List.length (s33++([x50]:List Int)):=by simp only[A5,List.length_append]<;>rfl
 have hl52_b:List.length s33+List.length ([[iA x50]]:List (List AV))=List.length (s33++([x50]:List Int)):=by simp only[A5,List.length_append]<;>rfl
 have hl52_c:List.length s33+List.length ([x50]:List Int)=List.length (s33++([x50]:List Int)):=by simp only[A5,List.length_append]<;>rfl
 first|simp only [hp51,hl52]|(simp only[A5,Bw];simp only[hp51,hl52_b,hl52_c])
 try simp only[ls]
 conv=>lhs;whnf
 revert h
 exact fun h=>cq (hcont39 (IntKind.i64.wrap (s32+1),(s33++([x50]:List Int))) (fun j=>(bif Nat.beq j 1 then((a35 1)+1) else 0)) h)
 refine br ?_ ?_
 refine ix ?_;intro x55
 intro h
 refine Ds h ?_;clear h;intro hc58 h
 try simp only[Bi]
 conv=>lhs;whnf
 first|refine B0 (Mp hc58 (by first|rfl|simp only [A5]) (by first|rfl|simp only [A5]) (by first|rfl|simp only [A5,Bw]) (by kernel_rfl)) ?_|refine B0 (Kx hc58 (by first|rfl|simp only [A5]) (by first|rfl|simp only [A5,Bw]) (by kernel_rfl)) ?_
 try simp only[lt]
 have hp56:(List.map A0 s33:List (List AV))++[[iA x55]]=List.map A0 (s33++([x55]:List Int)):=by first|rfl|(rw[List.map_append];rfl)|(rw[List.map_append];done)|(simp only[List.map_append,List.map_cons,List.map_nil,List.nil_append,A0]<;>rfl)
 have hl57:List.length (List.map A0 s33:List (List AV))+List.length ([[iA x55]]:List (List AV))=List.length (s33++([x55]:List Int)):=by simp only[A5,List.length_append]<;>rfl
 have hl57_b:List.length s33+List.length ([[iA x55]]:List (List AV))=List.length (s33++([x55]:List Int)):=by simp only[A5,List.length_append]<;>rfl
 have hl57_c:List.length s33+List.length ([x55]:List Int)=List.length (s33++([x55]:List Int)):=by simp only[A5,List.length_append]<;>rfl
 first|simp only [hp56,hl57]|(simp only[A5,Bw];simp only[hp56,hl57_b,hl57_c])
 try simp only[ls]
 conv=>lhs;whnf
 revert h
 exact fun h=>cq (hcont39 (IntKind.i64.wrap (s32+1),(s33++([x55]:List Int))) (fun j=>(bif Nat.beq j 1 then((a35 1)+1) else 0)) h)
 refine br ?_ ?_
 refine ix ?_;intro x60
 refine ix ?_;intro x61
 intro h
 refine Ds h ?_;clear h;intro hc64 h
 try simp only[Bi]
 conv=>lhs;whnf
 first|refine B0 (Mp hc64 (by first|rfl|simp only [A5]) (by first|rfl|simp only [A5]) (by first|rfl|simp only [A5,Bw]) (by kernel_rfl)) ?_|refine B0 (Kx hc64 (by first|rfl|simp only [A5]) (by first|rfl|simp only [A5,Bw]) (by kernel_rfl)) ?_
 try simp only[lt]
 have hp62:(List.map A0 s33:List (List AV))++[[iA x61]]=List.map A0 (s33++([x61]:List Int)):=by first|rfl|(rw[List.map_append];rfl)|(rw[List.map_append];done)|(simp only[List.map_append,List.map_cons,List.map_nil,List.nil_append,A0]<;>rfl)
 have hl63:List.length (List.map A0 s33:List (List AV))+List.length ([[iA x61]]:List (List AV))=List.length (s33++([x61]:List Int)):=by simp only[A5,List.length_append]<;>rfl
 have hl63_b:List.length s33+List.length ([[iA x61]]:List (List AV))=List.length (s33++([x61]:List Int)):=by simp only[A5,List.length_append]<;>rfl
 have hl63_c:List.length s33+List.length ([x61]:List Int)=List.length (s33++([x61]:List Int)):=by simp only[A5,List.length_append]<;>rfl
 first|simp only [hp62,hl63]|(simp only[A5,Bw];simp only[hp62,hl63_b,hl63_c])
 try simp only[ls]
 conv=>lhs;whnf
 revert h
 exact fun h=>cq (hcont39 (IntKind.i64.wrap (s32+1),(s33++([x61]:List Int))) (fun j=>(bif Nat.beq j 1 then((a35 1)+1) else 0)) h)
 refine br ?_ ?_
 intro h
 refine Ae h ?_;clear h;intro x66 hx66 h
 try simp only[Bi]
 conv=>lhs;whnf
 try simp only[ls]
 refine B0 (by first|exact C4 hx66|exact Dh hx66|exact Eb hx66|exact Bz hx66|(have q:=C4 hx66;simp only[List.length_set] at q;exact q)|(have q:=Bz hx66;simp only[List.length_set,Nat.zero_add] at q ⊢;exact q)) ?_
 conv=>lhs;whnf
 try simp only[Ci (f:=A0) hx66,Bi,ls]
 conv=>lhs;whnf
 revert h
 refine ca hc (fun _ h=>Fn h) ?_;intro y67
 intro h
 refine Ae h ?_;clear h;intro x69 hx69 h
 try simp only[Bi]
 conv=>lhs;whnf
 try simp only[ls]
 refine B0 (by first|exact C4 hx69|exact Dh hx69|exact Eb hx69|exact Bz hx69|(have q:=C4 hx69;simp only[List.length_set] at q;exact q)|(have q:=Bz hx69;simp only[List.length_set,Nat.zero_add] at q ⊢;exact q)) ?_
 conv=>lhs;whnf
 try simp only[Ci (f:=A0) hx69,Bi,ls]
 conv=>lhs;whnf
 revert h
 intro h
 have hs70:Bq (List.map A0 s33) (IntKind.i64.wrap (((s33.length:Nat):Int) - 1)).toNat [iA y67]=List.map A0 (List.set s33 (IntKind.i64.wrap (((s33.length:Nat):Int) - 1)).toNat y67):=by rw[B8,List.map_set];rfl
 have hs70_u:Bq (List.map A0 s33) (IntKind.i64.wrap (((s33.length:Nat):Int) - 1)).toNat (Bn (A0 x69) 0 [iA y67])=List.map A0 (List.set s33 (IntKind.i64.wrap (((s33.length:Nat):Int) - 1)).toNat y67):=by rw[B8,List.map_set];rfl
 try simp only[Ci (f:=A0) hx69,Bi]
 conv=>lhs;whnf
 try simp only[hs70,hs70_u,Bi]
 conv=>lhs;whnf
 revert h
 exact fun h=>cq (hcont39 (IntKind.i64.wrap (s32+1),(List.set s33 (IntKind.i64.wrap (((s33.length:Nat):Int) - 1)).toNat y67)) (fun j=>(bif Nat.beq j 1 then(a35 1) else 0)) h)
 intro h
 refine Ae h ?_;clear h;intro x71 hx71 h
 try simp only[Bi]
 conv=>lhs;whnf
 try simp only[ls]
 refine B0 (by first|exact C4 hx71|exact Dh hx71|exact Eb hx71|exact Bz hx71|(have q:=C4 hx71;simp only[List.length_set] at q;exact q)|(have q:=Bz hx71;simp only[List.length_set,Nat.zero_add] at q ⊢;exact q)) ?_
 conv=>lhs;whnf
 try simp only[Ci (f:=A0) hx71,Bi,ls]
 conv=>lhs;whnf
 revert h
 intro h
 refine Ae h ?_;clear h;intro x72 hx72 h
 try simp only[Bi]
 conv=>lhs;whnf
 try simp only[ls]
 refine B0 (by first|exact C4 hx72|exact Dh hx72|exact Eb hx72|exact Bz hx72|(have q:=C4 hx72;simp only[List.length_set] at q;exact q)|(have q:=Bz hx72;simp only[List.length_set,Nat.zero_add] at q ⊢;exact q)) ?_
 conv=>lhs;whnf
 try simp only[Ci (f:=A0) hx72,Bi,ls]
 conv=>lhs;whnf
 revert h
 refine ca hc (fun _ h=>Aa6 h) ?_;intro y73
 intro h
 refine Ae h ?_;clear h;intro x75 hx75 h
 try simp only[Bi]
 conv=>lhs;whnf
 try simp only[ls]
 refine B0 (by first|exact C4 hx75|exact Dh hx75|exact Eb hx75|exact Bz hx75|(have q:=C4 hx75;simp only[List.length_set] at q;exact q)|(have q:=Bz hx75;simp only[List.length_set,Nat.zero_add] at q ⊢;exact q)) ?_
 conv=>lhs;whnf
 try simp only[Ci (f:=A0) hx75,Bi,ls]
 conv=>lhs;whnf
 revert h
 intro h
 have hs76:Bq (List.map A0 s33) (IntKind.i64.wrap (((s33.length:Nat):Int) - 2)).toNat [iA y73]=List.map A0 (List.set s33 (IntKind.i64.wrap (((s33.length:Nat):Int) - 2)).toNat y73):=by rw[B8,List.map_set];rfl
 have hs76_u:Bq (List.map A0 s33) (IntKind.i64.wrap (((s33.length:Nat):Int) - 2)).toNat (Bn (A0 x75) 0 [iA y73])=List.map A0 (List.set s33 (IntKind.i64.wrap (((s33.length:Nat):Int) - 2)).toNat y73):=by rw[B8,List.map_set];rfl
 try simp only[Ci (f:=A0) hx75,Bi]
 conv=>lhs;whnf
 try simp only[hs76,hs76_u,Bi]
 conv=>lhs;whnf
 revert h
 intro h
 refine Ds h ?_;clear h;intro hc78 h
 try simp only[Bi]
 conv=>lhs;whnf
 try simp only[ls]
 first|refine B0 hc78 ?_|(refine B0 (by have q:=hc78;simp only[List.length_set] at q;exact q) ?_)
 have hs77:List.take ((IntKind.i64.wrap (((s33.length:Nat):Int) - 1)).toNat) (List.map A0 (List.set s33 (IntKind.i64.wrap (((s33.length:Nat):Int) - 2)).toNat y73))=List.map A0 (List.take ((IntKind.i64.wrap (((s33.length:Nat):Int) - 1)).toNat) (List.set s33 (IntKind.i64.wrap (((s33.length:Nat):Int) - 2)).toNat y73)):=by rw[List.map_take]
 have hs77_l:List.length (List.take ((IntKind.i64.wrap (((s33.length:Nat):Int) - 1)).toNat) (List.set s33 (IntKind.i64.wrap (((s33.length:Nat):Int) - 2)).toNat y73))=(IntKind.i64.wrap (((s33.length:Nat):Int) - 1)).toNat:=by simp only[List.length_take];exact Nat.min_eq_left (Aki hc78)
 conv=>lhs;whnf
 try simp only[Bi,hs77]
 conv=>lhs;whnf
 try simp only[hs77]
 have hs77_s:∀ q,AV.stk 1 q ((IntKind.i64.wrap (((s33.length:Nat):Int) - 1)).toNat)=AV.stk 1 q (List.length (List.take ((IntKind.i64.wrap (((s33.length:Nat):Int) - 1)).toNat) (List.set s33 (IntKind.i64.wrap (((s33.length:Nat):Int) - 2)).toNat y73))):=fun q=>by rw[hs77_l]
 try simp only[hs77_s]
 conv=>lhs;whnf
 revert h
 exact fun h=>cq (hcont39 (IntKind.i64.wrap (s32+1),(List.take ((IntKind.i64.wrap (((s33.length:Nat):Int) - 1)).toNat) (List.set s33 (IntKind.i64.wrap (((s33.length:Nat):Int) - 2)).toNat y73))) (fun j=>(bif Nat.beq j 1 then((a35 1)+1) else 0)) h)
 intro h;cases sj h
 exact kq (hr40 (fun j=>(bif Nat.beq j 1 then(a35 1) else 0)))
 refine lrc ?_ ?_
 intro v e;subst e;cases sj h;rfl
 intro x80 a79 e;subst e
 dsimp only at h
 conv=>lhs;whnf
 revert h
 intro h
 refine Ae h ?_;clear h;intro x81 hx81 h
 try simp only[Bi]
 conv=>lhs;whnf
 try simp only[ls]
 refine B0 (by first|exact C4 hx81|exact Dh hx81|exact Eb hx81|exact Bz hx81|(have q:=C4 hx81;simp only[List.length_set] at q;exact q)|(have q:=Bz hx81;simp only[List.length_set,Nat.zero_add] at q ⊢;exact q)) ?_
 conv=>lhs;whnf
 try simp only[Ci (f:=A0) hx81,Bi,ls]
 conv=>lhs;whnf
 revert h
 exact rz
 exact rz
 exact rz
 exact rz
theorem A4o {n:Nat} ⦃Ar:(List A2)⦄ ⦃D4:Int⦄ ⦃r:Int⦄:Hv n Ar D4=some r→CN n 169 [AV.sl 2 (List.map At Ar),iA D4] []=some (iA r,[]):=by
 intro h;rcases n with _|n;cases h
 rw[Hv] at h
 refine Au Tryz.func169 (by rfl) rfl rfl (B4 rfl) ?_
 intro call hc;conv=>lhs;whnf
 revert h
 intro h;refine Ae h ?_;clear h;intro o10 ho10 h
 refine lq (σ:=(Int×Int)) (τ:=Int) (ν:=Int) 0 (fun(s1,s2) a4=>Ax 23 [(0,AV.sl 2 (List.map At Ar)),(1,iA D4),(5,iA s1),(6,iA s2)]) (fun(s1,s2) a4=>[]) (fun x15 a14=>Ax 23 [(5,iA x15)]) (fun x15 a14=>[]) (fun v=>(iA v,[])) (fun k s=>Dl n Ar D4 k s.1 s.2) (fun s=>rfl) o10 n (0,0) (fun _=>0) ho10 ?_ ?_
 intro k3 ss a4 K5 cont6 hK7 hcont8 h hr9
 obtain⟨s1,s2⟩:=ss
 replace h:Dl n Ar D4 (k3+1) s1 s2=some o10:=h
 rw[Dl] at h
 conv=>lhs;whnf
 revert h
 refine br ?_ ?_
 refine ix ?_;intro x12
 refine br ?_ ?_
 exact fun h=>cq (hcont8 (IntKind.i64.wrap (s1+1),IntKind.i64.wrap (s2+1)) (fun _=>0) h)
 exact fun h=>cq (hcont8 (s1,IntKind.i64.wrap (s2+1)) (fun _=>0) h)
 intro h;cases sj h
 exact kq (hr9 (fun _=>0))
 refine lrc ?_ ?_
 intro v e;subst e;cases sj h;rfl
 intro x15 a14 e;subst e
 dsimp only at h
 conv=>lhs;whnf
 revert h
 exact rz
theorem A70 {n:Nat} ⦃Ar:(List A2)⦄ ⦃Az:Int⦄ ⦃Co:Int⦄ ⦃Iu:Int⦄ ⦃r:Bool⦄:In n Ar Az Co Iu=some r→CN n 127 [AV.sl 2 (List.map At Ar),iA Az,iA Co,iA Iu] []=some (bA r,[]):=by
 intro h;rcases n with _|n;cases h
 rw[In] at h
 refine Au Tryz.func127 (by rfl) rfl rfl (B4 rfl) ?_
 intro call hc;conv=>lhs;whnf
 revert h
 refine br ?_ ?_
 exact rz
 refine br ?_ ?_
 refine ca hc (fun _ h=>A4o h) ?_;intro y3
 exact rz
 exact rz
theorem A6y {n:Nat} ⦃Ar:(List A2)⦄ ⦃D4:Int⦄ ⦃r:(Int×Bool)⦄:Ir n Ar D4=some r→CN n 129 [AV.sl 2 (List.map At Ar),iA D4] []=some (AV.tup [iA r.1,bA r.2],[]):=by
 intro h;rcases n with _|n;cases h
 rw[Ir] at h
 refine Au Tryz.func129 (by rfl) rfl rfl (B4 rfl) ?_
 intro call hc;conv=>lhs;whnf
 revert h
 intro h;refine Ae h ?_;clear h;intro o9 ho9 h
 refine lq (σ:=Int) (τ:=Unit) (ν:=(Int×Bool)) 0 (fun s1 a3=>Ax 26 [(0,AV.sl 2 (List.map At Ar)),(1,iA D4),(6,iA s1)]) (fun s1 a3=>[]) (fun _ a14=>Ax 26 []) (fun _ a14=>[]) (fun v=>(AV.tup [iA v.1,bA v.2],[])) (fun k s=>E8 n Ar D4 k s) (fun s=>rfl) o9 n (IntKind.i64.wrap (((Ar.length:Nat):Int) - 1)) (fun _=>0) ho9 ?_ ?_
 intro k2 s1 a3 K4 cont5 hK6 hcont7 h hr8
 replace h:E8 n Ar D4 (k2+1) s1=some o9:=h
 rw[E8] at h
 conv=>lhs;whnf
 revert h
 refine br ?_ ?_
 refine ix ?_;intro x11
 refine br ?_ ?_
 refine ix ?_;intro x13
 intro h;cases sj h
 refine(hK6 _ _).trans ?_
 refine Eq.trans ?_ (Eq.symm (show _=some _ from hr8))
 conv=>lhs;whnf
 exact rq
 exact fun h=>cq (hcont7 (IntKind.i64.wrap (s1 - 1)) (fun _=>0) h)
 intro h;cases sj h
 exact kq (hr8 (fun _=>0))
 refine lrc ?_ ?_
 intro v e;subst e;cases sj h;rfl
 intro t a14 e;subst e
 dsimp only at h
 conv=>lhs;whnf
 revert h
 exact rz
theorem A9j {n:Nat} ⦃Ar:(List A2)⦄ ⦃Az:Int⦄ ⦃Dg:Int⦄ ⦃r:((List A2)×A2×Bool)⦄:Jq n Ar Az Dg=some r→CN n 85 [AV.sl 2 (List.map At Ar),iA Az,iA Dg] []=some (AV.tup [AV.sl 2 (List.map At r.1),AV.agg [iA (r.2.1.loc),iA (r.2.1.n)],bA r.2.2],[]):=by
 intro h;rcases n with _|n;cases h
 rw[Jq] at h
 refine Au Tryz.func85 (by rfl) rfl rfl (B4 rfl) ?_
 intro call hc;conv=>lhs;whnf
 revert h
 intro h;refine Ae h ?_;clear h;intro o10 ho10 h
 refine lq (σ:=(Int×Int)) (τ:=Int) (ν:=((List A2)×A2×Bool)) 0 (fun(s1,s2) a4=>Ax 75 [(0,AV.sl 2 (List.map At Ar)),(1,iA Az),(2,iA Dg),(7,AV.ptr 0 0),(9,iA s1),(10,iA s2)]) (fun(s1,s2) a4=>[Ob.var 157 [iA (0),iA (0)]]) (fun x17 a16=>Ax 75 [(0,AV.sl 2 (List.map At Ar)),(1,iA Az),(7,AV.ptr 0 0),(9,iA x17)]) (fun x17 a16=>[Ob.var 157 [iA (0),iA (0)]]) (fun v=>(AV.tup [AV.sl 2 (List.map At v.1),AV.agg [iA (v.2.1.loc),iA (v.2.1.n)],bA v.2.2],[])) (fun k s=>Cz n Ar Az Dg k s.1 s.2) (fun s=>rfl) o10 n ((-1),IntKind.i64.wrap (((Ar.length:Nat):Int) - 1)) (fun _=>0) ho10 ?_ ?_
 intro k3 ss a4 K5 cont6 hK7 hcont8 h hr9
 obtain⟨s1,s2⟩:=ss
 replace h:Cz n Ar Az Dg (k3+1) s1 s2=some o10:=h
 rw[Cz] at h
 conv=>lhs;whnf
 revert h
 refine br ?_ ?_
 refine ix ?_;intro x12
 refine br ?_ ?_
 exact fun h=>cq (hcont8 (s2,IntKind.i64.wrap (s2 - 1)) (fun _=>0) h)
 refine br ?_ ?_
 refine br ?_ ?_
 exact fun h=>cq (hcont8 (s2,IntKind.i64.wrap (s2 - 1)) (fun _=>0) h)
 exact fun h=>cq (hcont8 (s1,IntKind.i64.wrap (s2 - 1)) (fun _=>0) h)
 exact fun h=>cq (hcont8 (s1,IntKind.i64.wrap (s2 - 1)) (fun _=>0) h)
 intro h;cases sj h
 exact kq (hr9 (fun _=>0))
 refine lrc ?_ ?_
 intro v e;subst e;cases sj h;rfl
 intro x17 a16 e;subst e
 dsimp only at h
 conv=>lhs;whnf
 revert h
 refine br ?_ ?_
 refine br ?_ ?_
 intro h;refine Ae h ?_;clear h;intro o29 ho29 h
 refine lq (σ:=(Int×(List A2))) (τ:=(List A2)) (ν:=((List A2)×A2×Bool)) 2 (fun(s20,s21) a23=>Ax 75 [(0,AV.sl 2 (List.map At Ar)),(7,AV.ptr 0 0),(9,iA ((-1))),(11,AV.row 1 (List.length s21)),(12,iA s20)]) (fun(s20,s21) a23=>[Ob.var 157 [iA (0),iA (0)],Ob.row 157 2 (List.map At s21)]) (fun x36 a35=>Ax 75 [(0,AV.sl 2 (List.map At Ar)),(7,AV.ptr 0 0),(9,iA ((-1))),(11,AV.row 1 (List.length x36))]) (fun x36 a35=>[Ob.var 157 [iA (0),iA (0)],Ob.row 157 2 (List.map At x36)]) (fun v=>(AV.tup [AV.sl 2 (List.map At v.1),AV.agg [iA (v.2.1.loc),iA (v.2.1.n)],bA v.2.2],[])) (fun k s=>F7 n Ar k s.1 s.2) (fun s=>rfl) o29 n (0,([]:List A2)) (fun _=>0) ho29 ?_ ?_
 intro k22 ss a23 K24 cont25 hK26 hcont27 h hr28
 obtain⟨s20,s21⟩:=ss
 replace h:F7 n Ar (k22+1) s20 s21=some o29:=h
 rw[F7] at h
 conv=>lhs;whnf
 revert h
 refine br ?_ ?_
 refine br ?_ ?_
 refine ix ?_;intro x32
 refine ar (ap At (List.map At s21) s21 ([[iA (x32.loc),iA (x32.n)]]) ([x32]:List A2)) ?_
 exact fun h=>cq (hcont27 (IntKind.i64.wrap (s20+1),(s21++([x32]:List A2))) (fun _=>0) h)
 exact fun h=>cq (hcont27 (IntKind.i64.wrap (s20+1),s21) (fun _=>0) h)
 intro h;cases sj h
 exact kq (hr28 (fun _=>0))
 refine lrc ?_ ?_
 intro v e;subst e;cases sj h;rfl
 intro x36 a35 e;subst e
 dsimp only at h
 conv=>lhs;whnf
 revert h
 intro h;cases sj h
 try simp only[ls]
 exact fq (y:=some (AV.tup [AV.sl 2 (List.take (List.length x36) (List.map At x36)),AV.agg [iA (0),iA (0)],bA false],[]))
 refine br ?_ ?_
 refine br ?_ ?_
 intro h;refine Ae h ?_;clear h;intro o49 ho49 h
 refine lq (σ:=(Int×(List A2))) (τ:=(List A2)) (ν:=((List A2)×A2×Bool)) 2 (fun(s40,s41) a43=>Ax 75 [(0,AV.sl 2 (List.map At Ar)),(7,AV.ptr 0 0),(9,iA ((-1))),(11,AV.row 1 (List.length s41)),(12,iA s40)]) (fun(s40,s41) a43=>[Ob.var 157 [iA (0),iA (0)],Ob.row 157 2 (List.map At s41)]) (fun x56 a55=>Ax 75 [(0,AV.sl 2 (List.map At Ar)),(7,AV.ptr 0 0),(9,iA ((-1))),(11,AV.row 1 (List.length x56))]) (fun x56 a55=>[Ob.var 157 [iA (0),iA (0)],Ob.row 157 2 (List.map At x56)]) (fun v=>(AV.tup [AV.sl 2 (List.map At v.1),AV.agg [iA (v.2.1.loc),iA (v.2.1.n)],bA v.2.2],[])) (fun k s=>Gr n Ar k s.1 s.2) (fun s=>rfl) o49 n (0,([]:List A2)) (fun _=>0) ho49 ?_ ?_
 intro k42 ss a43 K44 cont45 hK46 hcont47 h hr48
 obtain⟨s40,s41⟩:=ss
 replace h:Gr n Ar (k42+1) s40 s41=some o49:=h
 rw[Gr] at h
 conv=>lhs;whnf
 revert h
 refine br ?_ ?_
 refine br ?_ ?_
 refine ix ?_;intro x52
 refine ar (ap At (List.map At s41) s41 ([[iA (x52.loc),iA (x52.n)]]) ([x52]:List A2)) ?_
 exact fun h=>cq (hcont47 (IntKind.i64.wrap (s40+1),(s41++([x52]:List A2))) (fun _=>0) h)
 exact fun h=>cq (hcont47 (IntKind.i64.wrap (s40+1),s41) (fun _=>0) h)
 intro h;cases sj h
 exact kq (hr48 (fun _=>0))
 refine lrc ?_ ?_
 intro v e;subst e;cases sj h;rfl
 intro x56 a55 e;subst e
 dsimp only at h
 conv=>lhs;whnf
 revert h
 intro h;cases sj h
 try simp only[ls]
 exact fq (y:=some (AV.tup [AV.sl 2 (List.take (List.length x56) (List.map At x56)),AV.agg [iA (0),iA (0)],bA false],[]))
 intro h;refine Ae h ?_;clear h;intro o67 ho67 h
 refine lq (σ:=(Int×(List A2))) (τ:=(List A2)) (ν:=((List A2)×A2×Bool)) 2 (fun(s58,s59) a61=>Ax 75 [(0,AV.sl 2 (List.map At Ar)),(7,AV.ptr 0 0),(9,iA x17),(11,AV.row 1 (List.length s59)),(12,iA s58)]) (fun(s58,s59) a61=>[Ob.var 157 [iA (0),iA (0)],Ob.row 157 2 (List.map At s59)]) (fun x74 a73=>Ax 75 [(0,AV.sl 2 (List.map At Ar)),(7,AV.ptr 0 0),(9,iA x17),(11,AV.row 1 (List.length x74))]) (fun x74 a73=>[Ob.var 157 [iA (0),iA (0)],Ob.row 157 2 (List.map At x74)]) (fun v=>(AV.tup [AV.sl 2 (List.map At v.1),AV.agg [iA (v.2.1.loc),iA (v.2.1.n)],bA v.2.2],[])) (fun k s=>Gq n Ar x17 k s.1 s.2) (fun s=>rfl) o67 n (0,([]:List A2)) (fun _=>0) ho67 ?_ ?_
 intro k60 ss a61 K62 cont63 hK64 hcont65 h hr66
 obtain⟨s58,s59⟩:=ss
 replace h:Gq n Ar x17 (k60+1) s58 s59=some o67:=h
 rw[Gq] at h
 conv=>lhs;whnf
 revert h
 refine br ?_ ?_
 refine br ?_ ?_
 refine ix ?_;intro x70
 refine ar (ap At (List.map At s59) s59 ([[iA (x70.loc),iA (x70.n)]]) ([x70]:List A2)) ?_
 exact fun h=>cq (hcont65 (IntKind.i64.wrap (s58+1),(s59++([x70]:List A2))) (fun _=>0) h)
 exact fun h=>cq (hcont65 (IntKind.i64.wrap (s58+1),s59) (fun _=>0) h)
 intro h;cases sj h
 exact kq (hr66 (fun _=>0))
 refine lrc ?_ ?_
 intro v e;subst e;cases sj h;rfl
 intro x74 a73 e;subst e
 dsimp only at h
 conv=>lhs;whnf
 revert h
 refine br ?_ ?_
 intro h;cases sj h
 try simp only[ls]
 exact fq (y:=some (AV.tup [AV.sl 2 (List.take (List.length x74) (List.map At x74)),AV.agg [iA (0),iA (0)],bA false],[]))
 refine ix ?_;intro x76
 intro h;cases sj h
 try simp only[ls]
 exact fq (y:=some (AV.tup [AV.sl 2 (List.take (List.length x74) (List.map At x74)),AV.agg [iA (x76.loc),iA (x76.n)],bA true],[]))
 intro h;refine Ae h ?_;clear h;intro o87 ho87 h
 refine lq (σ:=(Int×(List A2))) (τ:=(List A2)) (ν:=((List A2)×A2×Bool)) 2 (fun(s78,s79) a81=>Ax 75 [(0,AV.sl 2 (List.map At Ar)),(7,AV.ptr 0 0),(9,iA x17),(11,AV.row 1 (List.length s79)),(12,iA s78)]) (fun(s78,s79) a81=>[Ob.var 157 [iA (0),iA (0)],Ob.row 157 2 (List.map At s79)]) (fun x94 a93=>Ax 75 [(0,AV.sl 2 (List.map At Ar)),(7,AV.ptr 0 0),(9,iA x17),(11,AV.row 1 (List.length x94))]) (fun x94 a93=>[Ob.var 157 [iA (0),iA (0)],Ob.row 157 2 (List.map At x94)]) (fun v=>(AV.tup [AV.sl 2 (List.map At v.1),AV.agg [iA (v.2.1.loc),iA (v.2.1.n)],bA v.2.2],[])) (fun k s=>Dw n Ar x17 k s.1 s.2) (fun s=>rfl) o87 n (0,([]:List A2)) (fun _=>0) ho87 ?_ ?_
 intro k80 ss a81 K82 cont83 hK84 hcont85 h hr86
 obtain⟨s78,s79⟩:=ss
 replace h:Dw n Ar x17 (k80+1) s78 s79=some o87:=h
 rw[Dw] at h
 conv=>lhs;whnf
 revert h
 refine br ?_ ?_
 refine br ?_ ?_
 refine ix ?_;intro x90
 refine ar (ap At (List.map At s79) s79 ([[iA (x90.loc),iA (x90.n)]]) ([x90]:List A2)) ?_
 exact fun h=>cq (hcont85 (IntKind.i64.wrap (s78+1),(s79++([x90]:List A2))) (fun _=>0) h)
 exact fun h=>cq (hcont85 (IntKind.i64.wrap (s78+1),s79) (fun _=>0) h)
 intro h;cases sj h
 exact kq (hr86 (fun _=>0))
 refine lrc ?_ ?_
 intro v e;subst e;cases sj h;rfl
 intro x94 a93 e;subst e
 dsimp only at h
 conv=>lhs;whnf
 revert h
 refine br ?_ ?_
 intro h;cases sj h
 try simp only[ls]
 exact fq (y:=some (AV.tup [AV.sl 2 (List.take (List.length x94) (List.map At x94)),AV.agg [iA (0),iA (0)],bA false],[]))
 refine ix ?_;intro x96
 intro h;cases sj h
 try simp only[ls]
 exact fq (y:=some (AV.tup [AV.sl 2 (List.take (List.length x94) (List.map At x94)),AV.agg [iA (x96.loc),iA (x96.n)],bA true],[]))
 refine br ?_ ?_
 refine br ?_ ?_
 intro h;refine Ae h ?_;clear h;intro o109 ho109 h
 refine lq (σ:=(Int×(List A2))) (τ:=(List A2)) (ν:=((List A2)×A2×Bool)) 2 (fun(s100,s101) a103=>Ax 75 [(0,AV.sl 2 (List.map At Ar)),(7,AV.ptr 0 0),(9,iA ((-1))),(11,AV.row 1 (List.length s101)),(12,iA s100)]) (fun(s100,s101) a103=>[Ob.var 157 [iA (0),iA (0)],Ob.row 157 2 (List.map At s101)]) (fun x116 a115=>Ax 75 [(0,AV.sl 2 (List.map At Ar)),(7,AV.ptr 0 0),(9,iA ((-1))),(11,AV.row 1 (List.length x116))]) (fun x116 a115=>[Ob.var 157 [iA (0),iA (0)],Ob.row 157 2 (List.map At x116)]) (fun v=>(AV.tup [AV.sl 2 (List.map At v.1),AV.agg [iA (v.2.1.loc),iA (v.2.1.n)],bA v.2.2],[])) (fun k s=>F9 n Ar k s.1 s.2) (fun s=>rfl) o109 n (0,([]:List A2)) (fun _=>0) ho109 ?_ ?_
 intro k102 ss a103 K104 cont105 hK106 hcont107 h hr108
 obtain⟨s100,s101⟩:=ss
 replace h:F9 n Ar (k102+1) s100 s101=some o109:=h
 rw[F9] at h
 conv=>lhs;whnf
 revert h
 refine br ?_ ?_
 refine br ?_ ?_
 refine ix ?_;intro x112
 refine ar (ap At (List.map At s101) s101 ([[iA (x112.loc),iA (x112.n)]]) ([x112]:List A2)) ?_
 exact fun h=>cq (hcont107 (IntKind.i64.wrap (s100+1),(s101++([x112]:List A2))) (fun _=>0) h)
 exact fun h=>cq (hcont107 (IntKind.i64.wrap (s100+1),s101) (fun _=>0) h)
 intro h;cases sj h
 exact kq (hr108 (fun _=>0))
 refine lrc ?_ ?_
 intro v e;subst e;cases sj h;rfl
 intro x116 a115 e;subst e
 dsimp only at h
 conv=>lhs;whnf
 revert h
 intro h;cases sj h
 try simp only[ls]
 exact fq (y:=some (AV.tup [AV.sl 2 (List.take (List.length x116) (List.map At x116)),AV.agg [iA (0),iA (0)],bA false],[]))
 intro h;refine Ae h ?_;clear h;intro o127 ho127 h
 refine lq (σ:=(Int×(List A2))) (τ:=(List A2)) (ν:=((List A2)×A2×Bool)) 2 (fun(s118,s119) a121=>Ax 75 [(0,AV.sl 2 (List.map At Ar)),(7,AV.ptr 0 0),(9,iA x17),(11,AV.row 1 (List.length s119)),(12,iA s118)]) (fun(s118,s119) a121=>[Ob.var 157 [iA (0),iA (0)],Ob.row 157 2 (List.map At s119)]) (fun x134 a133=>Ax 75 [(0,AV.sl 2 (List.map At Ar)),(7,AV.ptr 0 0),(9,iA x17),(11,AV.row 1 (List.length x134))]) (fun x134 a133=>[Ob.var 157 [iA (0),iA (0)],Ob.row 157 2 (List.map At x134)]) (fun v=>(AV.tup [AV.sl 2 (List.map At v.1),AV.agg [iA (v.2.1.loc),iA (v.2.1.n)],bA v.2.2],[])) (fun k s=>Du n Ar x17 k s.1 s.2) (fun s=>rfl) o127 n (0,([]:List A2)) (fun _=>0) ho127 ?_ ?_
 intro k120 ss a121 K122 cont123 hK124 hcont125 h hr126
 obtain⟨s118,s119⟩:=ss
 replace h:Du n Ar x17 (k120+1) s118 s119=some o127:=h
 rw[Du] at h
 conv=>lhs;whnf
 revert h
 refine br ?_ ?_
 refine br ?_ ?_
 refine ix ?_;intro x130
 refine ar (ap At (List.map At s119) s119 ([[iA (x130.loc),iA (x130.n)]]) ([x130]:List A2)) ?_
 exact fun h=>cq (hcont125 (IntKind.i64.wrap (s118+1),(s119++([x130]:List A2))) (fun _=>0) h)
 exact fun h=>cq (hcont125 (IntKind.i64.wrap (s118+1),s119) (fun _=>0) h)
 intro h;cases sj h
 exact kq (hr126 (fun _=>0))
 refine lrc ?_ ?_
 intro v e;subst e;cases sj h;rfl
 intro x134 a133 e;subst e
 dsimp only at h
 conv=>lhs;whnf
 revert h
 refine br ?_ ?_
 intro h;cases sj h
 try simp only[ls]
 exact fq (y:=some (AV.tup [AV.sl 2 (List.take (List.length x134) (List.map At x134)),AV.agg [iA (0),iA (0)],bA false],[]))
 refine ix ?_;intro x136
 intro h;cases sj h
 try simp only[ls]
 exact fq (y:=some (AV.tup [AV.sl 2 (List.take (List.length x134) (List.map At x134)),AV.agg [iA (x136.loc),iA (x136.n)],bA true],[]))
 intro h;refine Ae h ?_;clear h;intro o147 ho147 h
 refine lq (σ:=(Int×(List A2))) (τ:=(List A2)) (ν:=((List A2)×A2×Bool)) 2 (fun(s138,s139) a141=>Ax 75 [(0,AV.sl 2 (List.map At Ar)),(7,AV.ptr 0 0),(9,iA x17),(11,AV.row 1 (List.length s139)),(12,iA s138)]) (fun(s138,s139) a141=>[Ob.var 157 [iA (0),iA (0)],Ob.row 157 2 (List.map At s139)]) (fun x154 a153=>Ax 75 [(0,AV.sl 2 (List.map At Ar)),(7,AV.ptr 0 0),(9,iA x17),(11,AV.row 1 (List.length x154))]) (fun x154 a153=>[Ob.var 157 [iA (0),iA (0)],Ob.row 157 2 (List.map At x154)]) (fun v=>(AV.tup [AV.sl 2 (List.map At v.1),AV.agg [iA (v.2.1.loc),iA (v.2.1.n)],bA v.2.2],[])) (fun k s=>F8 n Ar x17 k s.1 s.2) (fun s=>rfl) o147 n (0,([]:List A2)) (fun _=>0) ho147 ?_ ?_
 intro k140 ss a141 K142 cont143 hK144 hcont145 h hr146
 obtain⟨s138,s139⟩:=ss
 replace h:F8 n Ar x17 (k140+1) s138 s139=some o147:=h
 rw[F8] at h
 conv=>lhs;whnf
 revert h
 refine br ?_ ?_
 refine br ?_ ?_
 refine ix ?_;intro x150
 refine ar (ap At (List.map At s139) s139 ([[iA (x150.loc),iA (x150.n)]]) ([x150]:List A2)) ?_
 exact fun h=>cq (hcont145 (IntKind.i64.wrap (s138+1),(s139++([x150]:List A2))) (fun _=>0) h)
 exact fun h=>cq (hcont145 (IntKind.i64.wrap (s138+1),s139) (fun _=>0) h)
 intro h;cases sj h
 exact kq (hr146 (fun _=>0))
 refine lrc ?_ ?_
 intro v e;subst e;cases sj h;rfl
 intro x154 a153 e;subst e
 dsimp only at h
 conv=>lhs;whnf
 revert h
 refine br ?_ ?_
 intro h;cases sj h
 try simp only[ls]
 exact fq (y:=some (AV.tup [AV.sl 2 (List.take (List.length x154) (List.map At x154)),AV.agg [iA (0),iA (0)],bA false],[]))
 refine ix ?_;intro x156
 intro h;cases sj h
 try simp only[ls]
 exact fq (y:=some (AV.tup [AV.sl 2 (List.take (List.length x154) (List.map At x154)),AV.agg [iA (x156.loc),iA (x156.n)],bA true],[]))
theorem A71 {n:Nat} ⦃Ck:(List A2)⦄ ⦃Cr:(List A2)⦄ ⦃r:Bool⦄:Ml n Ck Cr=some r→CN n 86 [AV.sl 2 (List.map At Ck),AV.sl 2 (List.map At Cr)] []=some (bA r,[]):=by
 intro h;rcases n with _|n;cases h
 rw[Ml] at h
 refine Au Tryz.func86 (by rfl) rfl rfl (B4 rfl) ?_
 intro call hc;conv=>lhs;whnf
 revert h
 refine br ?_ ?_
 exact rz
 intro h;refine Ae h ?_;clear h;intro o10 ho10 h
 refine lq (σ:=Int) (τ:=Unit) (ν:=Bool) 0 (fun s2 a4=>Ax 26 [(0,AV.sl 2 (List.map At Ck)),(1,AV.sl 2 (List.map At Cr)),(5,iA s2)]) (fun s2 a4=>[]) (fun _ a16=>Ax 26 []) (fun _ a16=>[]) (fun v=>(bA v,[])) (fun k s=>H5 n Ck Cr k s) (fun s=>rfl) o10 n 0 (fun _=>0) ho10 ?_ ?_
 intro k3 s2 a4 K5 cont6 hK7 hcont8 h hr9
 replace h:H5 n Ck Cr (k3+1) s2=some o10:=h
 rw[H5] at h
 conv=>lhs;whnf
 revert h
 refine br ?_ ?_
 refine ix ?_;intro x12
 refine ix ?_;intro x13
 intro h
 have hf15:A7g Tryz.prog 157=some (fieldsOf Tryz.prog 157):=by kernel_rfl
 simp only[hf15,A5,Bw]
 conv=>lhs;whnf
 revert h
 refine br ?_ ?_
 exact fun h=>cq (hcont8 (IntKind.i64.wrap (s2+1)) (fun _=>0) h)
 intro h;cases sj h
 refine(hK7 _ _).trans ?_
 refine Eq.trans ?_ (Eq.symm (show _=some _ from hr9))
 conv=>lhs;whnf
 exact rq
 intro h;cases sj h
 exact kq (hr9 (fun _=>0))
 refine lrc ?_ ?_
 intro v e;subst e;cases sj h;rfl
 intro t a16 e;subst e
 dsimp only at h
 conv=>lhs;whnf
 revert h
 exact rz
theorem A5t {n:Nat} ⦃Bm:Ac⦄ ⦃Wu:Int⦄ ⦃Dg:Int⦄ ⦃r:Int⦄:I0 n Bm Wu Dg=some r→CN n 83 [AV.agg [AV.sl 1 (List.map A0 (Bm.pc)),AV.sl 1 (List.map Ag (Bm.regs)),AV.sl 1 (List.map A0 (Bm.mem)),AV.sl 1 (List.map An (Bm.buf))],iA Wu,iA Dg] []=some (iA r,[]):=by
 intro h;rcases n with _|n;cases h
 rw[I0] at h
 refine Au Tryz.func83 (by rfl) rfl rfl (B4 rfl) ?_
 intro call hc;conv=>lhs;whnf
 revert h
 refine br ?_ ?_
 exact rz
 refine br ?_ ?_
 exact rz
 refine br ?_ ?_
 exact rz
 refine br ?_ ?_
 exact rz
 refine ix ?_;intro x5
 refine ca hc (fun _ h=>A6y h) ?_;intro y6
 refine br ?_ ?_
 exact rz
 refine ix ?_;intro x9
 exact rz
theorem A5m {n:Nat} ⦃Aa:Ak⦄ ⦃B7:Ac⦄ ⦃H3:Int⦄ ⦃Pj:(List OpS)⦄ ⦃r:Int⦄:Hu n Aa B7 H3 Pj=some r→CN n 82 [AV.agg [iA (Aa.mod),AV.sl 1 (List.map A0 (Aa.init)),AV.sl 1 (List.map A0 (Aa.regs)),AV.sl 1 (List.map Ah (Aa.code))],AV.agg [AV.sl 1 (List.map A0 (B7.pc)),AV.sl 1 (List.map Ag (B7.regs)),AV.sl 1 (List.map A0 (B7.mem)),AV.sl 1 (List.map An (B7.buf))],iA H3,AV.sl 3 (List.map C0 Pj)] []=some (iA r,[]):=by
 intro h;rcases n with _|n;cases h
 rw[Hu] at h
 refine Au Tryz.func82 (by rfl) rfl rfl (B4 rfl) ?_
 intro call hc;conv=>lhs;whnf
 revert h
 refine ix ?_;intro x1
 refine cr hc (fun y2 h=>(show CN n 128 [AV.sl 3 (List.map C0 Pj),iA (Aa.mod),AV.sl 1 (List.map A0 x1),AV.sl 1 [],AV.sl 1 []] []=some (AV.tup [iA y2.1,bA y2.2],[]) from V9 (r:=y2) h)) ?_;intro y2
 exact rz
theorem A1d {n:Nat} ⦃Aa:Ak⦄ ⦃B7:Ac⦄ ⦃B1:Int⦄ ⦃Bd:Int⦄ ⦃Mo:Int⦄ ⦃r:Bool⦄:Gt n Aa B7 B1 Bd Mo=some r→CN n 80 [AV.agg [iA (Aa.mod),AV.sl 1 (List.map A0 (Aa.init)),AV.sl 1 (List.map A0 (Aa.regs)),AV.sl 1 (List.map Ah (Aa.code))],AV.agg [AV.sl 1 (List.map A0 (B7.pc)),AV.sl 1 (List.map Ag (B7.regs)),AV.sl 1 (List.map A0 (B7.mem)),AV.sl 1 (List.map An (B7.buf))],iA B1,iA Bd,iA Mo] []=some (bA r,[]):=by
 intro h;rcases n with _|n;cases h
 rw[Gt] at h
 refine Au Tryz.func80 (by rfl) rfl rfl (B4 rfl) ?_
 intro call hc;conv=>lhs;whnf
 revert h
 refine br ?_ ?_
 exact rz
 refine br ?_ ?_
 exact rz
 refine ix ?_;intro x3
 refine ix ?_;intro x4
 refine ix ?_;intro x5
 refine br ?_ ?_
 exact rz
 refine br ?_ ?_
 refine br ?_ ?_
 exact rz
 refine ix ?_;intro x9
 refine ca hc (fun _ h=>A70 h) ?_;intro y10
 exact rz
 refine br ?_ ?_
 refine ix ?_;intro x13
 exact rz
 refine br ?_ ?_
 refine ix ?_;intro x15
 exact rz
 refine br ?_ ?_
 refine ix ?_;intro x17
 exact rz
 refine br ?_ ?_
 refine ix ?_;intro x19
 exact rz
 refine br ?_ ?_
 refine ca hc (fun _ h=>A5t h) ?_;intro y21
 refine ca hc (fun _ h=>A5m h) ?_;intro y23
 exact rz
 exact rz
theorem T7 {n:Nat} ⦃Bm:Ac⦄ ⦃Az:Int⦄ ⦃H3:Int⦄ ⦃Iu:Int⦄ ⦃r:Bool⦄:Fv n Bm Az H3 Iu=some r→CN n 81 [AV.agg [AV.sl 1 (List.map A0 (Bm.pc)),AV.sl 1 (List.map Ag (Bm.regs)),AV.sl 1 (List.map A0 (Bm.mem)),AV.sl 1 (List.map An (Bm.buf))],iA Az,iA H3,iA Iu] []=some (bA r,[]):=by
 intro h;rcases n with _|n;cases h
 rw[Fv] at h
 refine Au Tryz.func81 (by rfl) rfl rfl (B4 rfl) ?_
 intro call hc;conv=>lhs;whnf
 revert h
 refine br ?_ ?_
 exact rz
 refine br ?_ ?_
 exact rz
 refine ix ?_;intro x3
 refine ca hc (fun _ h=>A9j h) ?_;intro y4
 exact rz
noncomputable abbrev CN0:=Al Tryz.prog HH XB0
theorem Kg {n:Nat} ⦃G7:Int⦄ ⦃Qa:Int⦄ ⦃r:Bool⦄:G9 n G7 Qa=some r→CN0 n 122 [iA G7,iA Qa] []=some (bA r,[]):=by
 intro h;rcases n with _|n;cases h
 rw[G9] at h
 refine Au Tryz.func122 (by rfl) rfl rfl (B4 rfl) ?_
 intro call hc;conv=>lhs;whnf
 revert h
 refine br ?_ ?_
 exact rz
 exact rz
theorem Ra {n:Nat} ⦃Bh:(List Int)⦄ ⦃Bk:Int⦄ ⦃r:Bool⦄:Hm n Bh Bk=some r→CN0 n 77 [AV.sl 1 (List.map A0 Bh),iA Bk] []=some (bA r,[]):=by
 intro h;rcases n with _|n;cases h
 rw[Hm] at h
 refine Au Tryz.func77 (by rfl) rfl rfl (B4 rfl) ?_
 intro call hc;conv=>lhs;whnf
 revert h
 intro h;refine Ae h ?_;clear h;intro o9 ho9 h
 refine lq (σ:=Int) (τ:=Unit) (ν:=Bool) 0 (fun s1 a3=>Ax 19 [(0,AV.sl 1 (List.map A0 Bh)),(1,iA Bk),(5,iA s1)]) (fun s1 a3=>[]) (fun _ a15=>Ax 19 []) (fun _ a15=>[]) (fun v=>(bA v,[])) (fun k s=>Ec n Bh Bk k s) (fun s=>rfl) o9 n 0 (fun _=>0) ho9 ?_ ?_
 intro k2 s1 a3 K4 cont5 hK6 hcont7 h hr8
 replace h:Ec n Bh Bk (k2+1) s1=some o9:=h
 rw[Ec] at h
 conv=>lhs;whnf
 revert h
 refine br ?_ ?_
 refine ix ?_;intro x11
 refine ca hc (fun _ h=>Kg h) ?_;intro y12
 refine br ?_ ?_
 exact fun h=>cq (hcont7 (IntKind.i64.wrap (s1+1)) (fun _=>0) h)
 intro h;cases sj h
 refine(hK6 _ _).trans ?_
 refine Eq.trans ?_ (Eq.symm (show _=some _ from hr8))
 conv=>lhs;whnf
 exact rq
 intro h;cases sj h
 exact kq (hr8 (fun _=>0))
 refine lrc ?_ ?_
 intro v e;subst e;cases sj h;rfl
 intro t a15 e;subst e
 dsimp only at h
 conv=>lhs;whnf
 revert h
 exact rz
theorem A3q {n:Nat} ⦃Bh:(List OpS)⦄ ⦃r:(Int×Int)⦄:Iq n Bh=some r→CN0 n 168 [AV.sl 3 (List.map C0 Bh)] []=some (AV.tup [iA r.1,iA r.2],[]):=by
 intro h;rcases n with _|n;cases h
 rw[Iq] at h
 refine Au Tryz.func168 (by rfl) rfl rfl (B4 rfl) ?_
 intro call hc;conv=>lhs;whnf
 revert h
 intro h;refine Ae h ?_;clear h;intro o11 ho11 h
 refine lq (σ:=(Int×Int×Int)) (τ:=(Int×Int)) (ν:=(Int×Int)) 0 (fun(s1,s2,s3) a5=>Ax 53 [(0,AV.sl 3 (List.map C0 Bh)),(4,iA s1),(5,iA s2),(6,iA s3)]) (fun(s1,s2,s3) a5=>[]) (fun(x33,x34) a32=>Ax 53 [(4,iA x33),(5,iA x34)]) (fun(x33,x34) a32=>[]) (fun v=>(AV.tup [iA v.1,iA v.2],[])) (fun k s=>Cn n Bh k s.1 s.2.1 s.2.2) (fun s=>rfl) o11 n (0,0,0) (fun _=>0) ho11 ?_ ?_
 intro k4 ss a5 K6 cont7 hK8 hcont9 h hr10
 obtain⟨s1,s2,s3⟩:=ss
 replace h:Cn n Bh (k4+1) s1 s2 s3=some o11:=h
 rw[Cn] at h
 conv=>lhs;whnf
 revert h
 refine br ?_ ?_
 refine ix ?_;intro x13
 refine br ?_ ?_
 refine br ?_ ?_
 exact fun h=>cq (hcont9 (IntKind.i64.wrap (s1+1),(if s2<(IntKind.i64.wrap (s1+1)) then(IntKind.i64.wrap (s1+1)) else s2),IntKind.i64.wrap (s3+1)) (fun _=>0) h)
 refine br ?_ ?_
 refine br ?_ ?_
 exact fun h=>cq (hcont9 (s1,(if s2<s1 then s1 else s2),IntKind.i64.wrap (s3+1)) (fun _=>0) h)
 refine br ?_ ?_
 refine br ?_ ?_
 refine br ?_ ?_
 exact fun h=>cq (hcont9 (IntKind.i64.wrap (s1 - 1),(if s2<(IntKind.i64.wrap (s1 - 1)) then(IntKind.i64.wrap (s1 - 1)) else s2),IntKind.i64.wrap (s3+1)) (fun _=>0) h)
 intro h;cases sj h
 refine(hK8 _ _).trans ?_
 refine Eq.trans ?_ (Eq.symm (show _=some _ from hr10))
 conv=>lhs;whnf
 exact rq
 intro h;cases sj h
 refine(hK8 _ _).trans ?_
 refine Eq.trans ?_ (Eq.symm (show _=some _ from hr10))
 conv=>lhs;whnf
 exact rq
 intro h;cases sj h
 refine(hK8 _ _).trans ?_
 refine Eq.trans ?_ (Eq.symm (show _=some _ from hr10))
 conv=>lhs;whnf
 exact rq
 refine br ?_ ?_
 refine br ?_ ?_
 refine br ?_ ?_
 exact fun h=>cq (hcont9 (IntKind.i64.wrap (s1 - 1),(if s2<(IntKind.i64.wrap (s1 - 1)) then(IntKind.i64.wrap (s1 - 1)) else s2),IntKind.i64.wrap (s3+1)) (fun _=>0) h)
 intro h;cases sj h
 refine(hK8 _ _).trans ?_
 refine Eq.trans ?_ (Eq.symm (show _=some _ from hr10))
 conv=>lhs;whnf
 exact rq
 intro h;cases sj h
 refine(hK8 _ _).trans ?_
 refine Eq.trans ?_ (Eq.symm (show _=some _ from hr10))
 conv=>lhs;whnf
 exact rq
 intro h;cases sj h
 refine(hK8 _ _).trans ?_
 refine Eq.trans ?_ (Eq.symm (show _=some _ from hr10))
 conv=>lhs;whnf
 exact rq
 refine br ?_ ?_
 refine br ?_ ?_
 exact fun h=>cq (hcont9 (s1,(if s2<s1 then s1 else s2),IntKind.i64.wrap (s3+1)) (fun _=>0) h)
 refine br ?_ ?_
 refine br ?_ ?_
 refine br ?_ ?_
 exact fun h=>cq (hcont9 (IntKind.i64.wrap (s1 - 1),(if s2<(IntKind.i64.wrap (s1 - 1)) then(IntKind.i64.wrap (s1 - 1)) else s2),IntKind.i64.wrap (s3+1)) (fun _=>0) h)
 intro h;cases sj h
 refine(hK8 _ _).trans ?_
 refine Eq.trans ?_ (Eq.symm (show _=some _ from hr10))
 conv=>lhs;whnf
 exact rq
 intro h;cases sj h
 refine(hK8 _ _).trans ?_
 refine Eq.trans ?_ (Eq.symm (show _=some _ from hr10))
 conv=>lhs;whnf
 exact rq
 intro h;cases sj h
 refine(hK8 _ _).trans ?_
 refine Eq.trans ?_ (Eq.symm (show _=some _ from hr10))
 conv=>lhs;whnf
 exact rq
 refine br ?_ ?_
 refine br ?_ ?_
 refine br ?_ ?_
 exact fun h=>cq (hcont9 (IntKind.i64.wrap (s1 - 1),(if s2<(IntKind.i64.wrap (s1 - 1)) then(IntKind.i64.wrap (s1 - 1)) else s2),IntKind.i64.wrap (s3+1)) (fun _=>0) h)
 intro h;cases sj h
 refine(hK8 _ _).trans ?_
 refine Eq.trans ?_ (Eq.symm (show _=some _ from hr10))
 conv=>lhs;whnf
 exact rq
 intro h;cases sj h
 refine(hK8 _ _).trans ?_
 refine Eq.trans ?_ (Eq.symm (show _=some _ from hr10))
 conv=>lhs;whnf
 exact rq
 intro h;cases sj h
 refine(hK8 _ _).trans ?_
 refine Eq.trans ?_ (Eq.symm (show _=some _ from hr10))
 conv=>lhs;whnf
 exact rq
 intro h;cases sj h
 exact kq (hr10 (fun _=>0))
 refine lrc ?_ ?_
 intro v e;subst e;cases sj h;rfl
 intro t a32 e;subst e
 obtain⟨x33,x34⟩:=t
 dsimp only at h
 conv=>lhs;whnf
 revert h
 exact rz
theorem A1q {n:Nat} ⦃Bh:(List OpS)⦄ ⦃Ek:(List Int)⦄ ⦃Cb:Int⦄ ⦃F0:Int⦄ ⦃r:Bool⦄:Hx n Bh Ek Cb F0=some r→CN0 n 126 [AV.sl 3 (List.map C0 Bh),AV.sl 1 (List.map A0 Ek),iA Cb,iA F0] []=some (bA r,[]):=by
 intro h;rcases n with _|n;cases h
 rw[Hx] at h
 refine Au Tryz.func126 (by rfl) rfl rfl (B4 rfl) ?_
 intro call hc;conv=>lhs;whnf
 revert h
 intro h;refine Ae h ?_;clear h;intro o9 ho9 h
 refine lq (σ:=Int) (τ:=Unit) (ν:=Bool) 0 (fun s1 a3=>Ax 71 [(0,AV.sl 3 (List.map C0 Bh)),(1,AV.sl 1 (List.map A0 Ek)),(2,iA Cb),(3,iA F0),(9,iA s1)]) (fun s1 a3=>[]) (fun _ a32=>Ax 71 [(0,AV.sl 3 (List.map C0 Bh))]) (fun _ a32=>[]) (fun v=>(bA v,[])) (fun k s=>Cp n Bh Ek Cb F0 k s) (fun s=>rfl) o9 n 0 (fun _=>0) ho9 ?_ ?_
 intro k2 s1 a3 K4 cont5 hK6 hcont7 h hr8
 replace h:Cp n Bh Ek Cb F0 (k2+1) s1=some o9:=h
 rw[Cp] at h
 conv=>lhs;whnf
 revert h
 refine br ?_ ?_
 refine ix ?_;intro x11
 refine br ?_ ?_
 refine ca hc (fun _ h=>Kg h) ?_;intro y13
 refine br ?_ ?_
 exact fun h=>cq (hcont7 (IntKind.i64.wrap (s1+1)) (fun _=>0) h)
 intro h;cases sj h
 refine(hK6 _ _).trans ?_
 refine Eq.trans ?_ (Eq.symm (show _=some _ from hr8))
 conv=>lhs;whnf
 exact rq
 refine br ?_ ?_
 refine ca hc (fun _ h=>Kg h) ?_;intro y17
 refine br ?_ ?_
 exact fun h=>cq (hcont7 (IntKind.i64.wrap (s1+1)) (fun _=>0) h)
 intro h;cases sj h
 refine(hK6 _ _).trans ?_
 refine Eq.trans ?_ (Eq.symm (show _=some _ from hr8))
 conv=>lhs;whnf
 exact rq
 refine br ?_ ?_
 refine ca hc (fun _ h=>Kg h) ?_;intro y21
 refine br ?_ ?_
 exact fun h=>cq (hcont7 (IntKind.i64.wrap (s1+1)) (fun _=>0) h)
 intro h;cases sj h
 refine(hK6 _ _).trans ?_
 refine Eq.trans ?_ (Eq.symm (show _=some _ from hr8))
 conv=>lhs;whnf
 exact rq
 refine br ?_ ?_
 refine cr hc (fun _ h=>Kg h) ?_;intro y25
 refine br ?_ ?_
 refine ix ?_;intro x28
 refine ca hc (fun _ h=>Kg h) ?_;intro y29
 refine br ?_ ?_
 exact fun h=>cq (hcont7 (IntKind.i64.wrap (s1+1)) (fun _=>0) h)
 intro h;cases sj h
 refine(hK6 _ _).trans ?_
 refine Eq.trans ?_ (Eq.symm (show _=some _ from hr8))
 conv=>lhs;whnf
 exact rq
 intro h;cases sj h
 refine(hK6 _ _).trans ?_
 refine Eq.trans ?_ (Eq.symm (show _=some _ from hr8))
 conv=>lhs;whnf
 exact rq
 exact fun h=>cq (hcont7 (IntKind.i64.wrap (s1+1)) (fun _=>0) h)
 intro h;cases sj h
 exact kq (hr8 (fun _=>0))
 refine lrc ?_ ?_
 intro v e;subst e;cases sj h;rfl
 intro t a32 e;subst e
 dsimp only at h
 conv=>lhs;whnf
 revert h
 refine ca hc (fun _ h=>A3q h) ?_;intro y33
 exact rz
theorem Es {n:Nat} ⦃Wt:Bool⦄ ⦃r:Int⦄:De n Wt=some r→CN0 n 170 [bA Wt] []=some (iA r,[]):=by
 intro h;rcases n with _|n;cases h
 rw[De] at h
 refine Au Tryz.func170 (by rfl) rfl rfl (B4 rfl) ?_
 intro call hc;conv=>lhs;whnf
 revert h
 refine br ?_ ?_
 exact rz
 exact rz
theorem A6v {n:Nat} ⦃Ly:Int⦄ ⦃Od:Int⦄ ⦃Oe:Int⦄ ⦃Kr:Int⦄ ⦃r:Int⦄:Jp n Ly Od Oe Kr=some r→CN0 n 171 [iA Ly,iA Od,iA Oe,iA Kr] []=some (iA r,[]):=by
 intro h;rcases n with _|n;cases h
 rw[Jp] at h
 refine Au Tryz.func171 (by rfl) rfl rfl (B4 rfl) ?_
 intro call hc;conv=>lhs;whnf
 revert h
 refine br ?_ ?_
 refine bf ?_
 exact rz
 refine br ?_ ?_
 refine bf ?_
 exact rz
 refine br ?_ ?_
 refine bf ?_
 exact rz
 refine br ?_ ?_
 refine ca hc (fun _ h=>Es h) ?_;intro y8
 exact rz
 refine br ?_ ?_
 refine ca hc (fun _ h=>Es h) ?_;intro y11
 exact rz
 refine br ?_ ?_
 refine ca hc (fun _ h=>Es h) ?_;intro y14
 exact rz
 refine br ?_ ?_
 refine ca hc (fun _ h=>Es h) ?_;intro y17
 exact rz
 refine br ?_ ?_
 refine br ?_ ?_
 refine ca hc (fun _ h=>Es h) ?_;intro y21
 exact rz
 refine ca hc (fun _ h=>Es h) ?_;intro y23
 exact rz
 refine br ?_ ?_
 refine ca hc (fun _ h=>Es h) ?_;intro y26
 exact rz
 refine ca hc (fun _ h=>Es h) ?_;intro y28
 exact rz
theorem A3e {n:Nat} ⦃Bh:(List OpS)⦄ ⦃Bk:Int⦄ ⦃Cb:(List Int)⦄ ⦃D1:(List (List Int))⦄ ⦃Dy:(List Int)⦄ ⦃r:(Int×Bool)⦄:H6 n Bh Bk Cb D1 Dy=some r→CN0 n 128 [AV.sl 3 (List.map C0 Bh),iA Bk,AV.sl 1 (List.map A0 Cb),AV.sl 1 (List.map Ag D1),AV.sl 1 (List.map A0 Dy)] []=some (AV.tup [iA r.1,bA r.2],[]):=by
 intro h;rcases n with _|n;cases h
 rw[H6] at h
 refine Au Tryz.func128 (by rfl) rfl rfl (B4 rfl) ?_
 intro call hc;conv=>lhs;whnf
 revert h
 refine br ?_ ?_
 exact rz
 refine br ?_ ?_
 exact rz
 refine ca hc (fun _ h=>Ra h) ?_;intro y3
 refine br ?_ ?_
 refine ca hc (fun _ h=>Ra h) ?_;intro y6
 refine br ?_ ?_
 intro h;refine Ae h ?_;clear h;intro o18 ho18 h
 refine lq (σ:=(Int×(List Int))) (τ:=(List Int)) (ν:=(Int×Bool)) 0 (fun(s9,s10) a12=>Ax 162 [(0,AV.sl 3 (List.map C0 Bh)),(1,iA Bk),(2,AV.sl 1 (List.map A0 Cb)),(3,AV.sl 1 (List.map Ag D1)),(4,AV.sl 1 (List.map A0 Dy)),(12,AV.row 0 (List.length s10)),(13,iA s9)]) (fun(s9,s10) a12=>[Ob.row 3 1 (List.map A0 s10)]) (fun x28 a27=>Ax 162 [(0,AV.sl 3 (List.map C0 Bh)),(1,iA Bk),(2,AV.sl 1 (List.map A0 Cb)),(3,AV.sl 1 (List.map Ag D1)),(4,AV.sl 1 (List.map A0 Dy)),(12,AV.row 0 (List.length x28))]) (fun x28 a27=>[Ob.row 3 1 (List.map A0 x28)]) (fun v=>(AV.tup [iA v.1,bA v.2],[])) (fun k s=>Db n Bk D1 k s.1 s.2) (fun s=>rfl) o18 n (0,([]:List Int)) (fun _=>0) ho18 ?_ ?_
 intro k11 ss a12 K13 cont14 hK15 hcont16 h hr17
 obtain⟨s9,s10⟩:=ss
 replace h:Db n Bk D1 (k11+1) s9 s10=some o18:=h
 rw[Db] at h
 conv=>lhs;whnf
 revert h
 refine br ?_ ?_
 refine ix ?_;intro x20
 refine ca hc (fun _ h=>Ra h) ?_;intro y21
 refine br ?_ ?_
 refine ix ?_;intro x24
 refine ar (ap A0 (List.map A0 s10) s10 ([[iA (((x24.length:Nat):Int))]]) ([((x24.length:Nat):Int)]:List Int)) ?_
 exact fun h=>cq (hcont16 (IntKind.i64.wrap (s9+1),(s10++([((x24.length:Nat):Int)]:List Int))) (fun _=>0) h)
 intro h;cases sj h
 refine(hK15 _ _).trans ?_
 refine Eq.trans ?_ (Eq.symm (show _=some _ from hr17))
 conv=>lhs;whnf
 exact rq
 intro h;cases sj h
 exact kq (hr17 (fun _=>0))
 refine lrc ?_ ?_
 intro v e;subst e;cases sj h;rfl
 intro x28 a27 e;subst e
 dsimp only at h
 conv=>lhs;whnf
 revert h
 refine cr hc (fun _ h=>A1q h) ?_;intro y29
 refine br ?_ ?_
 intro h;refine Ae h ?_;clear h;intro o41 ho41 h
 refine lq (σ:=(Int×(List Int))) (τ:=(List Int)) (ν:=(Int×Bool)) 2 (fun(s32,s33) a35=>Ax 162 [(0,AV.sl 3 (List.map C0 Bh)),(1,iA Bk),(2,AV.sl 1 (List.map A0 Cb)),(3,AV.sl 1 (List.map Ag D1)),(4,AV.sl 1 (List.map A0 Dy)),(14,AV.stk 1 (a35 1) (List.length s33)),(15,iA s32)]) (fun(s32,s33) a35=>[Ob.row 3 1 (List.map A0 x28),Ob.stk (a35 1) 3 1 (List.map A0 s33)]) (fun x80 a79=>Ax 162 [(14,AV.stk 1 (a79 1) (List.length x80))]) (fun x80 a79=>[Ob.row 3 1 (List.map A0 x28),Ob.stk (a79 1) 3 1 (List.map A0 x80)]) (fun v=>(AV.tup [iA v.1,bA v.2],[])) (fun k s=>Ce n Bh Bk Cb D1 Dy k s.1 s.2) (fun s=>rfl) o41 n (0,([]:List Int)) (fun j=>(bif Nat.beq j 1 then 0 else 0)) ho41 ?_ ?_
 intro k34 ss a35 K36 cont37 hK38 hcont39 h hr40
 obtain⟨s32,s33⟩:=ss
 replace h:Ce n Bh Bk Cb D1 Dy (k34+1) s32 s33=some o41:=h
 rw[Ce] at h
 conv=>lhs;whnf
 revert h
 refine br ?_ ?_
 refine ix ?_;intro x43
 refine br ?_ ?_
 refine bf ?_
 intro h
 refine Ds h ?_;clear h;intro hc48 h
 try simp only[Bi]
 conv=>lhs;whnf
 first|refine B0 (Mp hc48 (by first|rfl|simp only [A5]) (by first|rfl|simp only [A5]) (by first|rfl|simp only [A5,Bw]) (by kernel_rfl)) ?_|refine B0 (Kx hc48 (by first|rfl|simp only [A5]) (by first|rfl|simp only [A5,Bw]) (by kernel_rfl)) ?_
 try simp only[lt]
 have hp46:(List.map A0 s33:List (List AV))++[[iA ((Int.tmod x43.n Bk))]]=List.map A0 (s33++([(Int.tmod x43.n Bk)]:List Int)):=by first|rfl|(rw[List.map_append];rfl)|(rw[List.map_append];done)|(simp only[List.map_append,List.map_cons,List.map_nil,List.nil_append,A0]<;>rfl)
 have hl47:List.length (List.map A0 s33:List (List AV))+List.length ([[iA ((Int.tmod x43.n Bk))]]:List (List AV))=List.length (s33++([(Int.tmod x43.n Bk)]:List Int)):=by simp only[A5,List.length_append]<;>rfl
 have hl47_b:List.length s33+List.length ([[iA ((Int.tmod x43.n Bk))]]:List (List AV))=List.length (s33++([(Int.tmod x43.n Bk)]:List Int)):=by simp only[A5,List.length_append]<;>rfl
 have hl47_c:List.length s33+List.length ([(Int.tmod x43.n Bk)]:List Int)=List.length (s33++([(Int.tmod x43.n Bk)]:List Int)):=by simp only[A5,List.length_append]<;>rfl
 first|simp only [hp46,hl47]|(simp only[A5,Bw];simp only[hp46,hl47_b,hl47_c])
 try simp only[ls]
 conv=>lhs;whnf
 revert h
 exact fun h=>cq (hcont39 (IntKind.i64.wrap (s32+1),(s33++([(Int.tmod x43.n Bk)]:List Int))) (fun j=>(bif Nat.beq j 1 then((a35 1)+1) else 0)) h)
 refine br ?_ ?_
 refine ix ?_;intro x50
 intro h
 refine Ds h ?_;clear h;intro hc53 h
 try simp only[Bi]
 conv=>lhs;whnf
 first|refine B0 (Mp hc53 (by first|rfl|simp only [A5]) (by first|rfl|simp only [A5]) (by first|rfl|simp only [A5,Bw]) (by kernel_rfl)) ?_|refine B0 (Kx hc53 (by first|rfl|simp only [A5]) (by first|rfl|simp only [A5,Bw]) (by kernel_rfl)) ?_
 try simp only[lt]
 have hp51:(List.map A0 s33:List (List AV))++[[iA x50]]=List.map A0 (s33++([x50]:List Int)):=by first|rfl|(rw[List.map_append];rfl)|(rw[List.map_append];done)|(simp only[List.map_append,List.map_cons,List.map_nil,List.nil_append,A0]<;>rfl)
 have hl52:List.length (List.map A0 s33:List (List AV))+List.length ([[iA x50]]:List (List AV))=List.length (s33++([x50]:List Int)):=by simp only[A5,List.length_append]<;>rfl
 have hl52_b:List.length s33+List.length ([[iA x50]]:List (List AV))=List.length (s33++([x50]:List Int)):=by simp only[A5,List.length_append]<;>rfl
 have hl52_c:List.length s33+List.length ([x50]:List Int)=List.length (s33++([x50]:List Int)):=by simp only[A5,List.length_append]<;>rfl
 first|simp only [hp51,hl52]|(simp only[A5,Bw];simp only[hp51,hl52_b,hl52_c])
 try simp only[ls]
 conv=>lhs;whnf
 revert h
 exact fun h=>cq (hcont39 (IntKind.i64.wrap (s32+1),(s33++([x50]:List Int))) (fun j=>(bif Nat.beq j 1 then((a35 1)+1) else 0)) h)
 refine br ?_ ?_
 refine ix ?_;intro x55
 intro h
 refine Ds h ?_;clear h;intro hc58 h
 try simp only[Bi]
 conv=>lhs;whnf
 first|refine B0 (Mp hc58 (by first|rfl|simp only [A5]) (by first|rfl|simp only [A5]) (by first|rfl|simp only [A5,Bw]) (by kernel_rfl)) ?_|refine B0 (Kx hc58 (by first|rfl|simp only [A5]) (by first|rfl|simp only [A5,Bw]) (by kernel_rfl)) ?_
 try simp only[lt]
 have hp56:(List.map A0 s33:List (List AV))++[[iA x55]]=List.map A0 (s33++([x55]:List Int)):=by first|rfl|(rw[List.map_append];rfl)|(rw[List.map_append];done)|(simp only[List.map_append,List.map_cons,List.map_nil,List.nil_append,A0]<;>rfl)
 have hl57:List.length (List.map A0 s33:List (List AV))+List.length ([[iA x55]]:List (List AV))=List.length (s33++([x55]:List Int)):=by simp only[A5,List.length_append]<;>rfl
 have hl57_b:List.length s33+List.length ([[iA x55]]:List (List AV))=List.length (s33++([x55]:List Int)):=by simp only[A5,List.length_append]<;>rfl
 have hl57_c:List.length s33+List.length ([x55]:List Int)=List.length (s33++([x55]:List Int)):=by simp only[A5,List.length_append]<;>rfl
 first|simp only [hp56,hl57]|(simp only[A5,Bw];simp only[hp56,hl57_b,hl57_c])
 try simp only[ls]
 conv=>lhs;whnf
 revert h
 exact fun h=>cq (hcont39 (IntKind.i64.wrap (s32+1),(s33++([x55]:List Int))) (fun j=>(bif Nat.beq j 1 then((a35 1)+1) else 0)) h)
 refine br ?_ ?_
 refine ix ?_;intro x60
 refine ix ?_;intro x61
 intro h
 refine Ds h ?_;clear h;intro hc64 h
 try simp only[Bi]
 conv=>lhs;whnf
 first|refine B0 (Mp hc64 (by first|rfl|simp only [A5]) (by first|rfl|simp only [A5]) (by first|rfl|simp only [A5,Bw]) (by kernel_rfl)) ?_|refine B0 (Kx hc64 (by first|rfl|simp only [A5]) (by first|rfl|simp only [A5,Bw]) (by kernel_rfl)) ?_
 try simp only[lt]
 have hp62:(List.map A0 s33:List (List AV))++[[iA x61]]=List.map A0 (s33++([x61]:List Int)):=by first|rfl|(rw[List.map_append];rfl)|(rw[List.map_append];done)|(simp only[List.map_append,List.map_cons,List.map_nil,List.nil_append,A0]<;>rfl)
 have hl63:List.length (List.map A0 s33:List (List AV))+List.length ([[iA x61]]:List (List AV))=List.length (s33++([x61]:List Int)):=by simp only[A5,List.length_append]<;>rfl
 have hl63_b:List.length s33+List.length ([[iA x61]]:List (List AV))=List.length (s33++([x61]:List Int)):=by simp only[A5,List.length_append]<;>rfl
 have hl63_c:List.length s33+List.length ([x61]:List Int)=List.length (s33++([x61]:List Int)):=by simp only[A5,List.length_append]<;>rfl
 first|simp only [hp62,hl63]|(simp only[A5,Bw];simp only[hp62,hl63_b,hl63_c])
 try simp only[ls]
 conv=>lhs;whnf
 revert h
 exact fun h=>cq (hcont39 (IntKind.i64.wrap (s32+1),(s33++([x61]:List Int))) (fun j=>(bif Nat.beq j 1 then((a35 1)+1) else 0)) h)
 refine br ?_ ?_
 intro h
 refine Ae h ?_;clear h;intro x66 hx66 h
 try simp only[Bi]
 conv=>lhs;whnf
 try simp only[ls]
 refine B0 (by first|exact C4 hx66|exact Dh hx66|exact Eb hx66|exact Bz hx66|(have q:=C4 hx66;simp only[List.length_set] at q;exact q)|(have q:=Bz hx66;simp only[List.length_set,Nat.zero_add] at q ⊢;exact q)) ?_
 conv=>lhs;whnf
 try simp only[Ci (f:=A0) hx66,Bi,ls]
 conv=>lhs;whnf
 revert h
 refine ca hc (fun _ h=>Es h) ?_;intro y67
 intro h
 refine Ae h ?_;clear h;intro x69 hx69 h
 try simp only[Bi]
 conv=>lhs;whnf
 try simp only[ls]
 refine B0 (by first|exact C4 hx69|exact Dh hx69|exact Eb hx69|exact Bz hx69|(have q:=C4 hx69;simp only[List.length_set] at q;exact q)|(have q:=Bz hx69;simp only[List.length_set,Nat.zero_add] at q ⊢;exact q)) ?_
 conv=>lhs;whnf
 try simp only[Ci (f:=A0) hx69,Bi,ls]
 conv=>lhs;whnf
 revert h
 intro h
 have hs70:Bq (List.map A0 s33) (IntKind.i64.wrap (((s33.length:Nat):Int) - 1)).toNat [iA y67]=List.map A0 (List.set s33 (IntKind.i64.wrap (((s33.length:Nat):Int) - 1)).toNat y67):=by rw[B8,List.map_set];rfl
 have hs70_u:Bq (List.map A0 s33) (IntKind.i64.wrap (((s33.length:Nat):Int) - 1)).toNat (Bn (A0 x69) 0 [iA y67])=List.map A0 (List.set s33 (IntKind.i64.wrap (((s33.length:Nat):Int) - 1)).toNat y67):=by rw[B8,List.map_set];rfl
 try simp only[Ci (f:=A0) hx69,Bi]
 conv=>lhs;whnf
 try simp only[hs70,hs70_u,Bi]
 conv=>lhs;whnf
 revert h
 exact fun h=>cq (hcont39 (IntKind.i64.wrap (s32+1),(List.set s33 (IntKind.i64.wrap (((s33.length:Nat):Int) - 1)).toNat y67)) (fun j=>(bif Nat.beq j 1 then(a35 1) else 0)) h)
 intro h
 refine Ae h ?_;clear h;intro x71 hx71 h
 try simp only[Bi]
 conv=>lhs;whnf
 try simp only[ls]
 refine B0 (by first|exact C4 hx71|exact Dh hx71|exact Eb hx71|exact Bz hx71|(have q:=C4 hx71;simp only[List.length_set] at q;exact q)|(have q:=Bz hx71;simp only[List.length_set,Nat.zero_add] at q ⊢;exact q)) ?_
 conv=>lhs;whnf
 try simp only[Ci (f:=A0) hx71,Bi,ls]
 conv=>lhs;whnf
 revert h
 intro h
 refine Ae h ?_;clear h;intro x72 hx72 h
 try simp only[Bi]
 conv=>lhs;whnf
 try simp only[ls]
 refine B0 (by first|exact C4 hx72|exact Dh hx72|exact Eb hx72|exact Bz hx72|(have q:=C4 hx72;simp only[List.length_set] at q;exact q)|(have q:=Bz hx72;simp only[List.length_set,Nat.zero_add] at q ⊢;exact q)) ?_
 conv=>lhs;whnf
 try simp only[Ci (f:=A0) hx72,Bi,ls]
 conv=>lhs;whnf
 revert h
 refine ca hc (fun _ h=>A6v h) ?_;intro y73
 intro h
 refine Ae h ?_;clear h;intro x75 hx75 h
 try simp only[Bi]
 conv=>lhs;whnf
 try simp only[ls]
 refine B0 (by first|exact C4 hx75|exact Dh hx75|exact Eb hx75|exact Bz hx75|(have q:=C4 hx75;simp only[List.length_set] at q;exact q)|(have q:=Bz hx75;simp only[List.length_set,Nat.zero_add] at q ⊢;exact q)) ?_
 conv=>lhs;whnf
 try simp only[Ci (f:=A0) hx75,Bi,ls]
 conv=>lhs;whnf
 revert h
 intro h
 have hs76:Bq (List.map A0 s33) (IntKind.i64.wrap (((s33.length:Nat):Int) - 2)).toNat [iA y73]=List.map A0 (List.set s33 (IntKind.i64.wrap (((s33.length:Nat):Int) - 2)).toNat y73):=by rw[B8,List.map_set];rfl
 have hs76_u:Bq (List.map A0 s33) (IntKind.i64.wrap (((s33.length:Nat):Int) - 2)).toNat (Bn (A0 x75) 0 [iA y73])=List.map A0 (List.set s33 (IntKind.i64.wrap (((s33.length:Nat):Int) - 2)).toNat y73):=by rw[B8,List.map_set];rfl
 try simp only[Ci (f:=A0) hx75,Bi]
 conv=>lhs;whnf
 try simp only[hs76,hs76_u,Bi]
 conv=>lhs;whnf
 revert h
 intro h
 refine Ds h ?_;clear h;intro hc78 h
 try simp only[Bi]
 conv=>lhs;whnf
 try simp only[ls]
 first|refine B0 hc78 ?_|(refine B0 (by have q:=hc78;simp only[List.length_set] at q;exact q) ?_)
 have hs77:List.take ((IntKind.i64.wrap (((s33.length:Nat):Int) - 1)).toNat) (List.map A0 (List.set s33 (IntKind.i64.wrap (((s33.length:Nat):Int) - 2)).toNat y73))=List.map A0 (List.take ((IntKind.i64.wrap (((s33.length:Nat):Int) - 1)).toNat) (List.set s33 (IntKind.i64.wrap (((s33.length:Nat):Int) - 2)).toNat y73)):=by rw[List.map_take]
 have hs77_l:List.length (List.take ((IntKind.i64.wrap (((s33.length:Nat):Int) - 1)).toNat) (List.set s33 (IntKind.i64.wrap (((s33.length:Nat):Int) - 2)).toNat y73))=(IntKind.i64.wrap (((s33.length:Nat):Int) - 1)).toNat:=by simp only[List.length_take];exact Nat.min_eq_left (Aki hc78)
 conv=>lhs;whnf
 try simp only[Bi,hs77]
 conv=>lhs;whnf
 try simp only[hs77]
 have hs77_s:∀ q,AV.stk 1 q ((IntKind.i64.wrap (((s33.length:Nat):Int) - 1)).toNat)=AV.stk 1 q (List.length (List.take ((IntKind.i64.wrap (((s33.length:Nat):Int) - 1)).toNat) (List.set s33 (IntKind.i64.wrap (((s33.length:Nat):Int) - 2)).toNat y73))):=fun q=>by rw[hs77_l]
 try simp only[hs77_s]
 conv=>lhs;whnf
 revert h
 exact fun h=>cq (hcont39 (IntKind.i64.wrap (s32+1),(List.take ((IntKind.i64.wrap (((s33.length:Nat):Int) - 1)).toNat) (List.set s33 (IntKind.i64.wrap (((s33.length:Nat):Int) - 2)).toNat y73))) (fun j=>(bif Nat.beq j 1 then((a35 1)+1) else 0)) h)
 intro h;cases sj h
 exact kq (hr40 (fun j=>(bif Nat.beq j 1 then(a35 1) else 0)))
 refine lrc ?_ ?_
 intro v e;subst e;cases sj h;rfl
 intro x80 a79 e;subst e
 dsimp only at h
 conv=>lhs;whnf
 revert h
 intro h
 refine Ae h ?_;clear h;intro x81 hx81 h
 try simp only[Bi]
 conv=>lhs;whnf
 try simp only[ls]
 refine B0 (by first|exact C4 hx81|exact Dh hx81|exact Eb hx81|exact Bz hx81|(have q:=C4 hx81;simp only[List.length_set] at q;exact q)|(have q:=Bz hx81;simp only[List.length_set,Nat.zero_add] at q ⊢;exact q)) ?_
 conv=>lhs;whnf
 try simp only[Ci (f:=A0) hx81,Bi,ls]
 conv=>lhs;whnf
 revert h
 exact rz
 exact rz
 exact rz
 exact rz
theorem A3b {n:Nat} ⦃Ar:(List A2)⦄ ⦃D4:Int⦄ ⦃r:Int⦄:Hv n Ar D4=some r→CN0 n 169 [AV.sl 2 (List.map At Ar),iA D4] []=some (iA r,[]):=by
 intro h;rcases n with _|n;cases h
 rw[Hv] at h
 refine Au Tryz.func169 (by rfl) rfl rfl (B4 rfl) ?_
 intro call hc;conv=>lhs;whnf
 revert h
 intro h;refine Ae h ?_;clear h;intro o10 ho10 h
 refine lq (σ:=(Int×Int)) (τ:=Int) (ν:=Int) 0 (fun(s1,s2) a4=>Ax 23 [(0,AV.sl 2 (List.map At Ar)),(1,iA D4),(5,iA s1),(6,iA s2)]) (fun(s1,s2) a4=>[]) (fun x15 a14=>Ax 23 [(5,iA x15)]) (fun x15 a14=>[]) (fun v=>(iA v,[])) (fun k s=>Dl n Ar D4 k s.1 s.2) (fun s=>rfl) o10 n (0,0) (fun _=>0) ho10 ?_ ?_
 intro k3 ss a4 K5 cont6 hK7 hcont8 h hr9
 obtain⟨s1,s2⟩:=ss
 replace h:Dl n Ar D4 (k3+1) s1 s2=some o10:=h
 rw[Dl] at h
 conv=>lhs;whnf
 revert h
 refine br ?_ ?_
 refine ix ?_;intro x12
 refine br ?_ ?_
 exact fun h=>cq (hcont8 (IntKind.i64.wrap (s1+1),IntKind.i64.wrap (s2+1)) (fun _=>0) h)
 exact fun h=>cq (hcont8 (s1,IntKind.i64.wrap (s2+1)) (fun _=>0) h)
 intro h;cases sj h
 exact kq (hr9 (fun _=>0))
 refine lrc ?_ ?_
 intro v e;subst e;cases sj h;rfl
 intro x15 a14 e;subst e
 dsimp only at h
 conv=>lhs;whnf
 revert h
 exact rz
theorem A55 {n:Nat} ⦃Ar:(List A2)⦄ ⦃Az:Int⦄ ⦃Co:Int⦄ ⦃Iu:Int⦄ ⦃r:Bool⦄:In n Ar Az Co Iu=some r→CN0 n 127 [AV.sl 2 (List.map At Ar),iA Az,iA Co,iA Iu] []=some (bA r,[]):=by
 intro h;rcases n with _|n;cases h
 rw[In] at h
 refine Au Tryz.func127 (by rfl) rfl rfl (B4 rfl) ?_
 intro call hc;conv=>lhs;whnf
 revert h
 refine br ?_ ?_
 exact rz
 refine br ?_ ?_
 refine ca hc (fun _ h=>A3b h) ?_;intro y3
 exact rz
 exact rz
theorem A4v {n:Nat} ⦃Ar:(List A2)⦄ ⦃D4:Int⦄ ⦃r:(Int×Bool)⦄:Ir n Ar D4=some r→CN0 n 129 [AV.sl 2 (List.map At Ar),iA D4] []=some (AV.tup [iA r.1,bA r.2],[]):=by
 intro h;rcases n with _|n;cases h
 rw[Ir] at h
 refine Au Tryz.func129 (by rfl) rfl rfl (B4 rfl) ?_
 intro call hc;conv=>lhs;whnf
 revert h
 intro h;refine Ae h ?_;clear h;intro o9 ho9 h
 refine lq (σ:=Int) (τ:=Unit) (ν:=(Int×Bool)) 0 (fun s1 a3=>Ax 26 [(0,AV.sl 2 (List.map At Ar)),(1,iA D4),(6,iA s1)]) (fun s1 a3=>[]) (fun _ a14=>Ax 26 []) (fun _ a14=>[]) (fun v=>(AV.tup [iA v.1,bA v.2],[])) (fun k s=>E8 n Ar D4 k s) (fun s=>rfl) o9 n (IntKind.i64.wrap (((Ar.length:Nat):Int) - 1)) (fun _=>0) ho9 ?_ ?_
 intro k2 s1 a3 K4 cont5 hK6 hcont7 h hr8
 replace h:E8 n Ar D4 (k2+1) s1=some o9:=h
 rw[E8] at h
 conv=>lhs;whnf
 revert h
 refine br ?_ ?_
 refine ix ?_;intro x11
 refine br ?_ ?_
 refine ix ?_;intro x13
 intro h;cases sj h
 refine(hK6 _ _).trans ?_
 refine Eq.trans ?_ (Eq.symm (show _=some _ from hr8))
 conv=>lhs;whnf
 exact rq
 exact fun h=>cq (hcont7 (IntKind.i64.wrap (s1 - 1)) (fun _=>0) h)
 intro h;cases sj h
 exact kq (hr8 (fun _=>0))
 refine lrc ?_ ?_
 intro v e;subst e;cases sj h;rfl
 intro t a14 e;subst e
 dsimp only at h
 conv=>lhs;whnf
 revert h
 exact rz
theorem X5 {n:Nat} ⦃Ar:(List A2)⦄ ⦃Az:Int⦄ ⦃Dg:Int⦄ ⦃r:((List A2)×A2×Bool)⦄:Jq n Ar Az Dg=some r→CN0 n 85 [AV.sl 2 (List.map At Ar),iA Az,iA Dg] []=some (AV.tup [AV.sl 2 (List.map At r.1),AV.agg [iA (r.2.1.loc),iA (r.2.1.n)],bA r.2.2],[]):=by
 intro h;rcases n with _|n;cases h
 rw[Jq] at h
 refine Au Tryz.func85 (by rfl) rfl rfl (B4 rfl) ?_
 intro call hc;conv=>lhs;whnf
 revert h
 intro h;refine Ae h ?_;clear h;intro o10 ho10 h
 refine lq (σ:=(Int×Int)) (τ:=Int) (ν:=((List A2)×A2×Bool)) 0 (fun(s1,s2) a4=>Ax 75 [(0,AV.sl 2 (List.map At Ar)),(1,iA Az),(2,iA Dg),(7,AV.ptr 0 0),(9,iA s1),(10,iA s2)]) (fun(s1,s2) a4=>[Ob.var 157 [iA (0),iA (0)]]) (fun x17 a16=>Ax 75 [(0,AV.sl 2 (List.map At Ar)),(1,iA Az),(7,AV.ptr 0 0),(9,iA x17)]) (fun x17 a16=>[Ob.var 157 [iA (0),iA (0)]]) (fun v=>(AV.tup [AV.sl 2 (List.map At v.1),AV.agg [iA (v.2.1.loc),iA (v.2.1.n)],bA v.2.2],[])) (fun k s=>Cz n Ar Az Dg k s.1 s.2) (fun s=>rfl) o10 n ((-1),IntKind.i64.wrap (((Ar.length:Nat):Int) - 1)) (fun _=>0) ho10 ?_ ?_
 intro k3 ss a4 K5 cont6 hK7 hcont8 h hr9
 obtain⟨s1,s2⟩:=ss
 replace h:Cz n Ar Az Dg (k3+1) s1 s2=some o10:=h
 rw[Cz] at h
 conv=>lhs;whnf
 revert h
 refine br ?_ ?_
 refine ix ?_;intro x12
 refine br ?_ ?_
 exact fun h=>cq (hcont8 (s2,IntKind.i64.wrap (s2 - 1)) (fun _=>0) h)
 refine br ?_ ?_
 refine br ?_ ?_
 exact fun h=>cq (hcont8 (s2,IntKind.i64.wrap (s2 - 1)) (fun _=>0) h)
 exact fun h=>cq (hcont8 (s1,IntKind.i64.wrap (s2 - 1)) (fun _=>0) h)
 exact fun h=>cq (hcont8 (s1,IntKind.i64.wrap (s2 - 1)) (fun _=>0) h)
 intro h;cases sj h
 exact kq (hr9 (fun _=>0))
 refine lrc ?_ ?_
 intro v e;subst e;cases sj h;rfl
 intro x17 a16 e;subst e
 dsimp only at h
 conv=>lhs;whnf
 revert h
 refine br ?_ ?_
 refine br ?_ ?_
 intro h;refine Ae h ?_;clear h;intro o29 ho29 h
 refine lq (σ:=(Int×(List A2))) (τ:=(List A2)) (ν:=((List A2)×A2×Bool)) 2 (fun(s20,s21) a23=>Ax 75 [(0,AV.sl 2 (List.map At Ar)),(7,AV.ptr 0 0),(9,iA ((-1))),(11,AV.row 1 (List.length s21)),(12,iA s20)]) (fun(s20,s21) a23=>[Ob.var 157 [iA (0),iA (0)],Ob.row 157 2 (List.map At s21)]) (fun x36 a35=>Ax 75 [(0,AV.sl 2 (List.map At Ar)),(7,AV.ptr 0 0),(9,iA ((-1))),(11,AV.row 1 (List.length x36))]) (fun x36 a35=>[Ob.var 157 [iA (0),iA (0)],Ob.row 157 2 (List.map At x36)]) (fun v=>(AV.tup [AV.sl 2 (List.map At v.1),AV.agg [iA (v.2.1.loc),iA (v.2.1.n)],bA v.2.2],[])) (fun k s=>F7 n Ar k s.1 s.2) (fun s=>rfl) o29 n (0,([]:List A2)) (fun _=>0) ho29 ?_ ?_
 intro k22 ss a23 K24 cont25 hK26 hcont27 h hr28
 obtain⟨s20,s21⟩:=ss
 replace h:F7 n Ar (k22+1) s20 s21=some o29:=h
 rw[F7] at h
 conv=>lhs;whnf
 revert h
 refine br ?_ ?_
 refine br ?_ ?_
 refine ix ?_;intro x32
 refine ar (ap At (List.map At s21) s21 ([[iA (x32.loc),iA (x32.n)]]) ([x32]:List A2)) ?_
 exact fun h=>cq (hcont27 (IntKind.i64.wrap (s20+1),(s21++([x32]:List A2))) (fun _=>0) h)
 exact fun h=>cq (hcont27 (IntKind.i64.wrap (s20+1),s21) (fun _=>0) h)
 intro h;cases sj h
 exact kq (hr28 (fun _=>0))
 refine lrc ?_ ?_
 intro v e;subst e;cases sj h;rfl
 intro x36 a35 e;subst e
 dsimp only at h
 conv=>lhs;whnf
 revert h
 intro h;cases sj h
 try simp only[ls]
 exact fq (y:=some (AV.tup [AV.sl 2 (List.take (List.length x36) (List.map At x36)),AV.agg [iA (0),iA (0)],bA false],[]))
 refine br ?_ ?_
 refine br ?_ ?_
 intro h;refine Ae h ?_;clear h;intro o49 ho49 h
 refine lq (σ:=(Int×(List A2))) (τ:=(List A2)) (ν:=((List A2)×A2×Bool)) 2 (fun(s40,s41) a43=>Ax 75 [(0,AV.sl 2 (List.map At Ar)),(7,AV.ptr 0 0),(9,iA ((-1))),(11,AV.row 1 (List.length s41)),(12,iA s40)]) (fun(s40,s41) a43=>[Ob.var 157 [iA (0),iA (0)],Ob.row 157 2 (List.map At s41)]) (fun x56 a55=>Ax 75 [(0,AV.sl 2 (List.map At Ar)),(7,AV.ptr 0 0),(9,iA ((-1))),(11,AV.row 1 (List.length x56))]) (fun x56 a55=>[Ob.var 157 [iA (0),iA (0)],Ob.row 157 2 (List.map At x56)]) (fun v=>(AV.tup [AV.sl 2 (List.map At v.1),AV.agg [iA (v.2.1.loc),iA (v.2.1.n)],bA v.2.2],[])) (fun k s=>Gr n Ar k s.1 s.2) (fun s=>rfl) o49 n (0,([]:List A2)) (fun _=>0) ho49 ?_ ?_
 intro k42 ss a43 K44 cont45 hK46 hcont47 h hr48
 obtain⟨s40,s41⟩:=ss
 replace h:Gr n Ar (k42+1) s40 s41=some o49:=h
 rw[Gr] at h
 conv=>lhs;whnf
 revert h
 refine br ?_ ?_
 refine br ?_ ?_
 refine ix ?_;intro x52
 refine ar (ap At (List.map At s41) s41 ([[iA (x52.loc),iA (x52.n)]]) ([x52]:List A2)) ?_
 exact fun h=>cq (hcont47 (IntKind.i64.wrap (s40+1),(s41++([x52]:List A2))) (fun _=>0) h)
 exact fun h=>cq (hcont47 (IntKind.i64.wrap (s40+1),s41) (fun _=>0) h)
 intro h;cases sj h
 exact kq (hr48 (fun _=>0))
 refine lrc ?_ ?_
 intro v e;subst e;cases sj h;rfl
 intro x56 a55 e;subst e
 dsimp only at h
 conv=>lhs;whnf
 revert h
 intro h;cases sj h
 try simp only[ls]
 exact fq (y:=some (AV.tup [AV.sl 2 (List.take (List.length x56) (List.map At x56)),AV.agg [iA (0),iA (0)],bA false],[]))
 intro h;refine Ae h ?_;clear h;intro o67 ho67 h
 refine lq (σ:=(Int×(List A2))) (τ:=(List A2)) (ν:=((List A2)×A2×Bool)) 2 (fun(s58,s59) a61=>Ax 75 [(0,AV.sl 2 (List.map At Ar)),(7,AV.ptr 0 0),(9,iA x17),(11,AV.row 1 (List.length s59)),(12,iA s58)]) (fun(s58,s59) a61=>[Ob.var 157 [iA (0),iA (0)],Ob.row 157 2 (List.map At s59)]) (fun x74 a73=>Ax 75 [(0,AV.sl 2 (List.map At Ar)),(7,AV.ptr 0 0),(9,iA x17),(11,AV.row 1 (List.length x74))]) (fun x74 a73=>[Ob.var 157 [iA (0),iA (0)],Ob.row 157 2 (List.map At x74)]) (fun v=>(AV.tup [AV.sl 2 (List.map At v.1),AV.agg [iA (v.2.1.loc),iA (v.2.1.n)],bA v.2.2],[])) (fun k s=>Gq n Ar x17 k s.1 s.2) (fun s=>rfl) o67 n (0,([]:List A2)) (fun _=>0) ho67 ?_ ?_
 intro k60 ss a61 K62 cont63 hK64 hcont65 h hr66
 obtain⟨s58,s59⟩:=ss
 replace h:Gq n Ar x17 (k60+1) s58 s59=some o67:=h
 rw[Gq] at h
 conv=>lhs;whnf
 revert h
 refine br ?_ ?_
 refine br ?_ ?_
 refine ix ?_;intro x70
 refine ar (ap At (List.map At s59) s59 ([[iA (x70.loc),iA (x70.n)]]) ([x70]:List A2)) ?_
 exact fun h=>cq (hcont65 (IntKind.i64.wrap (s58+1),(s59++([x70]:List A2))) (fun _=>0) h)
 exact fun h=>cq (hcont65 (IntKind.i64.wrap (s58+1),s59) (fun _=>0) h)
 intro h;cases sj h
 exact kq (hr66 (fun _=>0))
 refine lrc ?_ ?_
 intro v e;subst e;cases sj h;rfl
 intro x74 a73 e;subst e
 dsimp only at h
 conv=>lhs;whnf
 revert h
 refine br ?_ ?_
 intro h;cases sj h
 try simp only[ls]
 exact fq (y:=some (AV.tup [AV.sl 2 (List.take (List.length x74) (List.map At x74)),AV.agg [iA (0),iA (0)],bA false],[]))
 refine ix ?_;intro x76
 intro h;cases sj h
 try simp only[ls]
 exact fq (y:=some (AV.tup [AV.sl 2 (List.take (List.length x74) (List.map At x74)),AV.agg [iA (x76.loc),iA (x76.n)],bA true],[]))
 intro h;refine Ae h ?_;clear h;intro o87 ho87 h
 refine lq (σ:=(Int×(List A2))) (τ:=(List A2)) (ν:=((List A2)×A2×Bool)) 2 (fun(s78,s79) a81=>Ax 75 [(0,AV.sl 2 (List.map At Ar)),(7,AV.ptr 0 0),(9,iA x17),(11,AV.row 1 (List.length s79)),(12,iA s78)]) (fun(s78,s79) a81=>[Ob.var 157 [iA (0),iA (0)],Ob.row 157 2 (List.map At s79)]) (fun x94 a93=>Ax 75 [(0,AV.sl 2 (List.map At Ar)),(7,AV.ptr 0 0),(9,iA x17),(11,AV.row 1 (List.length x94))]) (fun x94 a93=>[Ob.var 157 [iA (0),iA (0)],Ob.row 157 2 (List.map At x94)]) (fun v=>(AV.tup [AV.sl 2 (List.map At v.1),AV.agg [iA (v.2.1.loc),iA (v.2.1.n)],bA v.2.2],[])) (fun k s=>Dw n Ar x17 k s.1 s.2) (fun s=>rfl) o87 n (0,([]:List A2)) (fun _=>0) ho87 ?_ ?_
 intro k80 ss a81 K82 cont83 hK84 hcont85 h hr86
 obtain⟨s78,s79⟩:=ss
 replace h:Dw n Ar x17 (k80+1) s78 s79=some o87:=h
 rw[Dw] at h
 conv=>lhs;whnf
 revert h
 refine br ?_ ?_
 refine br ?_ ?_
 refine ix ?_;intro x90
 refine ar (ap At (List.map At s79) s79 ([[iA (x90.loc),iA (x90.n)]]) ([x90]:List A2)) ?_
 exact fun h=>cq (hcont85 (IntKind.i64.wrap (s78+1),(s79++([x90]:List A2))) (fun _=>0) h)
 exact fun h=>cq (hcont85 (IntKind.i64.wrap (s78+1),s79) (fun _=>0) h)
 intro h;cases sj h
 exact kq (hr86 (fun _=>0))
 refine lrc ?_ ?_
 intro v e;subst e;cases sj h;rfl
 intro x94 a93 e;subst e
 dsimp only at h
 conv=>lhs;whnf
 revert h
 refine br ?_ ?_
 intro h;cases sj h
 try simp only[ls]
 exact fq (y:=some (AV.tup [AV.sl 2 (List.take (List.length x94) (List.map At x94)),AV.agg [iA (0),iA (0)],bA false],[]))
 refine ix ?_;intro x96
 intro h;cases sj h
 try simp only[ls]
 exact fq (y:=some (AV.tup [AV.sl 2 (List.take (List.length x94) (List.map At x94)),AV.agg [iA (x96.loc),iA (x96.n)],bA true],[]))
 refine br ?_ ?_
 refine br ?_ ?_
 intro h;refine Ae h ?_;clear h;intro o109 ho109 h
 refine lq (σ:=(Int×(List A2))) (τ:=(List A2)) (ν:=((List A2)×A2×Bool)) 2 (fun(s100,s101) a103=>Ax 75 [(0,AV.sl 2 (List.map At Ar)),(7,AV.ptr 0 0),(9,iA ((-1))),(11,AV.row 1 (List.length s101)),(12,iA s100)]) (fun(s100,s101) a103=>[Ob.var 157 [iA (0),iA (0)],Ob.row 157 2 (List.map At s101)]) (fun x116 a115=>Ax 75 [(0,AV.sl 2 (List.map At Ar)),(7,AV.ptr 0 0),(9,iA ((-1))),(11,AV.row 1 (List.length x116))]) (fun x116 a115=>[Ob.var 157 [iA (0),iA (0)],Ob.row 157 2 (List.map At x116)]) (fun v=>(AV.tup [AV.sl 2 (List.map At v.1),AV.agg [iA (v.2.1.loc),iA (v.2.1.n)],bA v.2.2],[])) (fun k s=>F9 n Ar k s.1 s.2) (fun s=>rfl) o109 n (0,([]:List A2)) (fun _=>0) ho109 ?_ ?_
 intro k102 ss a103 K104 cont105 hK106 hcont107 h hr108
 obtain⟨s100,s101⟩:=ss
 replace h:F9 n Ar (k102+1) s100 s101=some o109:=h
 rw[F9] at h
 conv=>lhs;whnf
 revert h
 refine br ?_ ?_
 refine br ?_ ?_
 refine ix ?_;intro x112
 refine ar (ap At (List.map At s101) s101 ([[iA (x112.loc),iA (x112.n)]]) ([x112]:List A2)) ?_
 exact fun h=>cq (hcont107 (IntKind.i64.wrap (s100+1),(s101++([x112]:List A2))) (fun _=>0) h)
 exact fun h=>cq (hcont107 (IntKind.i64.wrap (s100+1),s101) (fun _=>0) h)
 intro h;cases sj h
 exact kq (hr108 (fun _=>0))
 refine lrc ?_ ?_
 intro v e;subst e;cases sj h;rfl
 intro x116 a115 e;subst e
 dsimp only at h
 conv=>lhs;whnf
 revert h
 intro h;cases sj h
 try simp only[ls]
 exact fq (y:=some (AV.tup [AV.sl 2 (List.take (List.length x116) (List.map At x116)),AV.agg [iA (0),iA (0)],bA false],[]))
 intro h;refine Ae h ?_;clear h;intro o127 ho127 h
 refine lq (σ:=(Int×(List A2))) (τ:=(List A2)) (ν:=((List A2)×A2×Bool)) 2 (fun(s118,s119) a121=>Ax 75 [(0,AV.sl 2 (List.map At Ar)),(7,AV.ptr 0 0),(9,iA x17),(11,AV.row 1 (List.length s119)),(12,iA s118)]) (fun(s118,s119) a121=>[Ob.var 157 [iA (0),iA (0)],Ob.row 157 2 (List.map At s119)]) (fun x134 a133=>Ax 75 [(0,AV.sl 2 (List.map At Ar)),(7,AV.ptr 0 0),(9,iA x17),(11,AV.row 1 (List.length x134))]) (fun x134 a133=>[Ob.var 157 [iA (0),iA (0)],Ob.row 157 2 (List.map At x134)]) (fun v=>(AV.tup [AV.sl 2 (List.map At v.1),AV.agg [iA (v.2.1.loc),iA (v.2.1.n)],bA v.2.2],[])) (fun k s=>Du n Ar x17 k s.1 s.2) (fun s=>rfl) o127 n (0,([]:List A2)) (fun _=>0) ho127 ?_ ?_
 intro k120 ss a121 K122 cont123 hK124 hcont125 h hr126
 obtain⟨s118,s119⟩:=ss
 replace h:Du n Ar x17 (k120+1) s118 s119=some o127:=h
 rw[Du] at h
 conv=>lhs;whnf
 revert h
 refine br ?_ ?_
 refine br ?_ ?_
 refine ix ?_;intro x130
 refine ar (ap At (List.map At s119) s119 ([[iA (x130.loc),iA (x130.n)]]) ([x130]:List A2)) ?_
 exact fun h=>cq (hcont125 (IntKind.i64.wrap (s118+1),(s119++([x130]:List A2))) (fun _=>0) h)
 exact fun h=>cq (hcont125 (IntKind.i64.wrap (s118+1),s119) (fun _=>0) h)
 intro h;cases sj h
 exact kq (hr126 (fun _=>0))
 refine lrc ?_ ?_
 intro v e;subst e;cases sj h;rfl
 intro x134 a133 e;subst e
 dsimp only at h
 conv=>lhs;whnf
 revert h
 refine br ?_ ?_
 intro h;cases sj h
 try simp only[ls]
 exact fq (y:=some (AV.tup [AV.sl 2 (List.take (List.length x134) (List.map At x134)),AV.agg [iA (0),iA (0)],bA false],[]))
 refine ix ?_;intro x136
 intro h;cases sj h
 try simp only[ls]
 exact fq (y:=some (AV.tup [AV.sl 2 (List.take (List.length x134) (List.map At x134)),AV.agg [iA (x136.loc),iA (x136.n)],bA true],[]))
 intro h;refine Ae h ?_;clear h;intro o147 ho147 h
 refine lq (σ:=(Int×(List A2))) (τ:=(List A2)) (ν:=((List A2)×A2×Bool)) 2 (fun(s138,s139) a141=>Ax 75 [(0,AV.sl 2 (List.map At Ar)),(7,AV.ptr 0 0),(9,iA x17),(11,AV.row 1 (List.length s139)),(12,iA s138)]) (fun(s138,s139) a141=>[Ob.var 157 [iA (0),iA (0)],Ob.row 157 2 (List.map At s139)]) (fun x154 a153=>Ax 75 [(0,AV.sl 2 (List.map At Ar)),(7,AV.ptr 0 0),(9,iA x17),(11,AV.row 1 (List.length x154))]) (fun x154 a153=>[Ob.var 157 [iA (0),iA (0)],Ob.row 157 2 (List.map At x154)]) (fun v=>(AV.tup [AV.sl 2 (List.map At v.1),AV.agg [iA (v.2.1.loc),iA (v.2.1.n)],bA v.2.2],[])) (fun k s=>F8 n Ar x17 k s.1 s.2) (fun s=>rfl) o147 n (0,([]:List A2)) (fun _=>0) ho147 ?_ ?_
 intro k140 ss a141 K142 cont143 hK144 hcont145 h hr146
 obtain⟨s138,s139⟩:=ss
 replace h:F8 n Ar x17 (k140+1) s138 s139=some o147:=h
 rw[F8] at h
 conv=>lhs;whnf
 revert h
 refine br ?_ ?_
 refine br ?_ ?_
 refine ix ?_;intro x150
 refine ar (ap At (List.map At s139) s139 ([[iA (x150.loc),iA (x150.n)]]) ([x150]:List A2)) ?_
 exact fun h=>cq (hcont145 (IntKind.i64.wrap (s138+1),(s139++([x150]:List A2))) (fun _=>0) h)
 exact fun h=>cq (hcont145 (IntKind.i64.wrap (s138+1),s139) (fun _=>0) h)
 intro h;cases sj h
 exact kq (hr146 (fun _=>0))
 refine lrc ?_ ?_
 intro v e;subst e;cases sj h;rfl
 intro x154 a153 e;subst e
 dsimp only at h
 conv=>lhs;whnf
 revert h
 refine br ?_ ?_
 intro h;cases sj h
 try simp only[ls]
 exact fq (y:=some (AV.tup [AV.sl 2 (List.take (List.length x154) (List.map At x154)),AV.agg [iA (0),iA (0)],bA false],[]))
 refine ix ?_;intro x156
 intro h;cases sj h
 try simp only[ls]
 exact fq (y:=some (AV.tup [AV.sl 2 (List.take (List.length x154) (List.map At x154)),AV.agg [iA (x156.loc),iA (x156.n)],bA true],[]))
theorem A5g {n:Nat} ⦃Ar:(List A2)⦄ ⦃Az:Int⦄ ⦃Ev:A2⦄ ⦃r:(List A2)⦄:P1 n Ar Az Ev=some r→CN0 n 84 [AV.sl 2 (List.map At Ar),iA Az,AV.agg [iA (Ev.loc),iA (Ev.n)]] []=some (AV.sl 2 (List.map At r),[]):=by
 intro h;rcases n with _|n;cases h
 rw[P1] at h
 refine Au Tryz.func84 (by rfl) rfl rfl (B4 rfl) ?_
 intro call hc;conv=>lhs;whnf
 revert h
 refine br ?_ ?_
 refine ar (ap At ([]) ([]:List A2) (List.map At Ar) Ar) ?_
 refine br ?_ ?_
 refine ar (ap At (List.map At (([]:List A2)++Ar)) (([]:List A2)++Ar) ([[iA (Ev.loc),iA (Ev.n)]]) ([Ev]:List A2)) ?_
 intro h;cases sj h
 try simp only[ls]
 exact fq (y:=some (AV.sl 2 (List.take (List.length (((([]:List A2)++Ar)++([Ev]:List A2)))) (List.map At ((([]:List A2)++Ar)++([Ev]:List A2)))),[]))
 intro h;cases sj h
 try simp only[ls]
 exact fq (y:=some (AV.sl 2 (List.take (List.length ((([]:List A2)++Ar))) (List.map At (([]:List A2)++Ar))),[]))
 intro h;refine Ae h ?_;clear h;intro o17 ho17 h
 refine lq (σ:=(Bool×Int×(List A2))) (τ:=(Bool×(List A2))) (ν:=(List A2)) 0 (fun(s7,s8,s9) a11=>Ax 58 [(0,AV.sl 2 (List.map At Ar)),(5,AV.ptr 0 0),(7,AV.row 1 (List.length s9)),(8,bA s7),(9,iA s8)]) (fun(s7,s8,s9) a11=>[Ob.var 157 [iA (Ev.loc),iA (Ev.n)],Ob.row 157 2 (List.map At s9)]) (fun(x34,x35) a33=>Ax 58 [(5,AV.ptr 0 0),(7,AV.row 1 (List.length x35)),(8,bA x34)]) (fun(x34,x35) a33=>[Ob.var 157 [iA (Ev.loc),iA (Ev.n)],Ob.row 157 2 (List.map At x35)]) (fun v=>(AV.sl 2 (List.map At v),[])) (fun k s=>Fb n Ar Ev k s.1 s.2.1 s.2.2) (fun s=>rfl) o17 n (false,0,([]:List A2)) (fun _=>0) ho17 ?_ ?_
 intro k10 ss a11 K12 cont13 hK14 hcont15 h hr16
 obtain⟨s7,s8,s9⟩:=ss
 replace h:Fb n Ar Ev (k10+1) s7 s8 s9=some o17:=h
 rw[Fb] at h
 conv=>lhs;whnf
 revert h
 refine br ?_ ?_
 refine br ?_ ?_
 refine ix ?_;intro x20
 refine ar (ap At (List.map At s9) s9 ([[iA (x20.loc),iA (x20.n)]]) ([x20]:List A2)) ?_
 exact fun h=>cq (hcont15 (true,IntKind.i64.wrap (s8+1),(s9++([x20]:List A2))) (fun _=>0) h)
 refine ix ?_;intro x23
 refine br ?_ ?_
 refine ar (ap At (List.map At s9) s9 ([[iA (Ev.loc),iA (Ev.n)]]) ([Ev]:List A2)) ?_
 refine ix ?_;intro x27
 refine ar (ap At (List.map At (s9++([Ev]:List A2))) (s9++([Ev]:List A2)) ([[iA (x27.loc),iA (x27.n)]]) ([x27]:List A2)) ?_
 exact fun h=>cq (hcont15 (true,IntKind.i64.wrap (s8+1),((s9++([Ev]:List A2))++([x27]:List A2))) (fun _=>0) h)
 refine ix ?_;intro x30
 refine ar (ap At (List.map At s9) s9 ([[iA (x30.loc),iA (x30.n)]]) ([x30]:List A2)) ?_
 exact fun h=>cq (hcont15 (false,IntKind.i64.wrap (s8+1),(s9++([x30]:List A2))) (fun _=>0) h)
 intro h;cases sj h
 exact kq (hr16 (fun _=>0))
 refine lrc ?_ ?_
 intro v e;subst e;cases sj h;rfl
 intro t a33 e;subst e
 obtain⟨x34,x35⟩:=t
 dsimp only at h
 conv=>lhs;whnf
 revert h
 refine br ?_ ?_
 intro h;obtain rfl:=sj h
 try simp only[ls]
 exact fq (y:=some (AV.sl 2 (List.take (List.length x35) (List.map At x35)),[]))
 refine ar (ap At (List.map At x35) x35 ([[iA (Ev.loc),iA (Ev.n)]]) ([Ev]:List A2)) ?_
 intro h;cases sj h
 try simp only[ls]
 exact fq (y:=some (AV.sl 2 (List.take (List.length ((x35++([Ev]:List A2)))) (List.map At (x35++([Ev]:List A2)))),[]))
theorem U9 {n:Nat} ⦃Bm:Ac⦄ ⦃Wu:Int⦄ ⦃Dg:Int⦄ ⦃r:Int⦄:I0 n Bm Wu Dg=some r→CN0 n 83 [AV.agg [AV.sl 1 (List.map A0 (Bm.pc)),AV.sl 1 (List.map Ag (Bm.regs)),AV.sl 1 (List.map A0 (Bm.mem)),AV.sl 1 (List.map An (Bm.buf))],iA Wu,iA Dg] []=some (iA r,[]):=by
 intro h;rcases n with _|n;cases h
 rw[I0] at h
 refine Au Tryz.func83 (by rfl) rfl rfl (B4 rfl) ?_
 intro call hc;conv=>lhs;whnf
 revert h
 refine br ?_ ?_
 exact rz
 refine br ?_ ?_
 exact rz
 refine br ?_ ?_
 exact rz
 refine br ?_ ?_
 exact rz
 refine ix ?_;intro x5
 refine ca hc (fun _ h=>A4v h) ?_;intro y6
 refine br ?_ ?_
 exact rz
 refine ix ?_;intro x9
 exact rz
theorem Pb {n:Nat} ⦃Aa:Ak⦄ ⦃B7:Ac⦄ ⦃H3:Int⦄ ⦃Pj:(List OpS)⦄ ⦃r:Int⦄:Hu n Aa B7 H3 Pj=some r→CN0 n 82 [AV.agg [iA (Aa.mod),AV.sl 1 (List.map A0 (Aa.init)),AV.sl 1 (List.map A0 (Aa.regs)),AV.sl 1 (List.map Ah (Aa.code))],AV.agg [AV.sl 1 (List.map A0 (B7.pc)),AV.sl 1 (List.map Ag (B7.regs)),AV.sl 1 (List.map A0 (B7.mem)),AV.sl 1 (List.map An (B7.buf))],iA H3,AV.sl 3 (List.map C0 Pj)] []=some (iA r,[]):=by
 intro h;rcases n with _|n;cases h
 rw[Hu] at h
 refine Au Tryz.func82 (by rfl) rfl rfl (B4 rfl) ?_
 intro call hc;conv=>lhs;whnf
 revert h
 refine ix ?_;intro x1
 refine cr hc (fun y2 h=>(show CN0 n 128 [AV.sl 3 (List.map C0 Pj),iA (Aa.mod),AV.sl 1 (List.map A0 x1),AV.sl 1 [],AV.sl 1 []] []=some (AV.tup [iA y2.1,bA y2.2],[]) from A3e (r:=y2) h)) ?_;intro y2
 exact rz
theorem Zs {n:Nat} ⦃Aa:Ak⦄ ⦃B7:Ac⦄ ⦃B1:Int⦄ ⦃Bd:Int⦄ ⦃Mo:Int⦄ ⦃r:Bool⦄:Gt n Aa B7 B1 Bd Mo=some r→CN0 n 80 [AV.agg [iA (Aa.mod),AV.sl 1 (List.map A0 (Aa.init)),AV.sl 1 (List.map A0 (Aa.regs)),AV.sl 1 (List.map Ah (Aa.code))],AV.agg [AV.sl 1 (List.map A0 (B7.pc)),AV.sl 1 (List.map Ag (B7.regs)),AV.sl 1 (List.map A0 (B7.mem)),AV.sl 1 (List.map An (B7.buf))],iA B1,iA Bd,iA Mo] []=some (bA r,[]):=by
 intro h;rcases n with _|n;cases h
 rw[Gt] at h
 refine Au Tryz.func80 (by rfl) rfl rfl (B4 rfl) ?_
 intro call hc;conv=>lhs;whnf
 revert h
 refine br ?_ ?_
 exact rz
 refine br ?_ ?_
 exact rz
 refine ix ?_;intro x3
 refine ix ?_;intro x4
 refine ix ?_;intro x5
 refine br ?_ ?_
 exact rz
 refine br ?_ ?_
 refine br ?_ ?_
 exact rz
 refine ix ?_;intro x9
 refine ca hc (fun _ h=>A55 h) ?_;intro y10
 exact rz
 refine br ?_ ?_
 refine ix ?_;intro x13
 exact rz
 refine br ?_ ?_
 refine ix ?_;intro x15
 exact rz
 refine br ?_ ?_
 refine ix ?_;intro x17
 exact rz
 refine br ?_ ?_
 refine ix ?_;intro x19
 exact rz
 refine br ?_ ?_
 refine ca hc (fun _ h=>U9 h) ?_;intro y21
 refine ca hc (fun _ h=>Pb h) ?_;intro y23
 exact rz
 exact rz
theorem Zt {n:Nat} ⦃Bm:Ac⦄ ⦃Az:Int⦄ ⦃H3:Int⦄ ⦃Iu:Int⦄ ⦃r:Bool⦄:Fv n Bm Az H3 Iu=some r→CN0 n 81 [AV.agg [AV.sl 1 (List.map A0 (Bm.pc)),AV.sl 1 (List.map Ag (Bm.regs)),AV.sl 1 (List.map A0 (Bm.mem)),AV.sl 1 (List.map An (Bm.buf))],iA Az,iA H3,iA Iu] []=some (bA r,[]):=by
 intro h;rcases n with _|n;cases h
 rw[Fv] at h
 refine Au Tryz.func81 (by rfl) rfl rfl (B4 rfl) ?_
 intro call hc;conv=>lhs;whnf
 revert h
 refine br ?_ ?_
 exact rz
 refine br ?_ ?_
 exact rz
 refine ix ?_;intro x3
 refine ca hc (fun _ h=>X5 h) ?_;intro y4
 exact rz
end Go.Proofs.YtfabdppicogkmaaGreat
end
