/- Parts of the proofs: what they lean on. Conditions: none. -/
import Derived.Deep.AppendLies
import Derived.Test.YtpknphnaegfghaaBneS13
section
section
namespace Go.Proofs.Ytpknphnaegfghaa
open Go.RowKit
set_option linter.unusedVariables false
set_option linter.unusedSimpArgs false
theorem Wl {P:Program} {t:TypeId} {z:Value} {s b:Nat} (h:(P.info? t).map (fun i=>(i.zero,i.size,i.bytes))=some (some z,s,b)):∃ i,P.info? t=some i∧i.zero=some z∧i.size=s∧i.bytes=b:=by
 cases hi:P.info? t with
 | none=>rw[hi] at h;cases h
 | some i=>rw[hi] at h;simp at h;exact⟨i,rfl,h⟩
def Blk (W:World) (g:Nat) (u:Value):Prop:=∃ ex E,W.heap[g]?=some (.cells (u :: ex).toArray E (0,0))
theorem Blk.later {w w':World} {g:Nat} {u:Value} (h:Blk w g u) (hb:Below w.heap.size w w'):Blk w' g u:=by
 obtain⟨ex,E,h⟩:=h
 exact⟨ex,E,Fresh.later (o:=.cells (u :: ex).toArray E (0,0)) h hb⟩
theorem Blk.other {w:World} {g:Nat} {u:Value} (h:Blk w g u) {p:Addr} (hp:p.block≠g) (v:Value):Blk (w.setCell p v) g u:=by
 obtain⟨ex,E,h⟩:=h
 exact⟨ex,E,(Below.heap_setCell w p v g (Ne.symm hp)).trans h⟩
theorem Blk.var {w:World} {g:Nat} {u:Value} (h:Blk w g u):VarAt w g 0 u:=by
 obtain⟨ex,E,h⟩:=h
 exact⟨by simp[World.cell?,h],by simp[World.frozen?,h]⟩
theorem Blk.lt {w:World} {g:Nat} {u:Value} (h:Blk w g u):g < w.heap.size:=h.var.lt
structure J (w:World) (c1 c2 b1 o1 b2 o2 C:Nat) (W:World) (vp vr vm vb:Value):Prop where
 l1:b1 < w.heap.size
 l2:b2 < w.heap.size
 y1:W.cell? ⟨b1,o1,none⟩=some (.int .i64 1)
 y2:W.cell? ⟨b2,o2,none⟩=some (.int .i64 1)
 z1:W.cell? ⟨w.heap.size,1,none⟩=some (.slice (some ⟨b1,o1,none⟩) 1 c1)
 z2:W.cell? ⟨w.heap.size,2,none⟩=some (.slice (some ⟨b2,o2,none⟩) 1 c2)
 r0:VarAt W (w.heap.size+1) 0 (.slice none 0 0)
 r1:VarAt W (w.heap.size+1) 1 (.slice none 0 0)
 r2:VarAt W (w.heap.size+1) 2 (.slice none 0 0)
 r3:VarAt W (w.heap.size+1) 3 (.slice none 0 0)
 q0:VarAt W C 0 vp
 q1:VarAt W C 1 vr
 q2:VarAt W C 2 vm
 q3:VarAt W C 3 vb
 hb:Below w.heap.size w W
 lt:w.heap.size+1 < C
 sz:C < W.heap.size
section
variable {w:World} {c1 c2 b1 o1 b2 o2 C:Nat} {W W':World} {vp vr vm vb:Value}
theorem J.later (h:J w c1 c2 b1 o1 b2 o2 C W vp vr vm vb) (hb:Below W.heap.size W W'):J w c1 c2 b1 o1 b2 o2 C W' vp vr vm vb :=
 ⟨h.l1,h.l2,cell_later hb h.y1,cell_later hb h.y2,cell_later hb h.z1,cell_later hb h.z2,h.r0.later hb,h.r1.later hb,h.r2.later hb,h.r3.later hb,h.q0.later hb,h.q1.later hb,h.q2.later hb,h.q3.later hb,h.hb.trans (hb.mono h.hb.size),h.lt,Nat.lt_of_lt_of_le h.sz hb.size⟩
theorem Ou {W:World} {b o:Nat} {v:Value} (h:W.cell? ⟨b,o,none⟩=some v) {p:Addr} (hp:p.block≠b∨p.off≠o) (u:Value):(W.setCell p u).cell? ⟨b,o,none⟩=some v:=by
 rw[World.cell?_setCell_other]
 ·exact h
 ·rintro rfl
  simp at hp
theorem J.set (h:J w c1 c2 b1 o1 b2 o2 C W vp vr vm vb) {k:Nat} (u:Value) {vp' vr' vm' vb':Value} (q0:VarAt (W.setCell ⟨C,k,none⟩ u) C 0 vp') (q1:VarAt (W.setCell ⟨C,k,none⟩ u) C 1 vr') (q2:VarAt (W.setCell ⟨C,k,none⟩ u) C 2 vm') (q3:VarAt (W.setCell ⟨C,k,none⟩ u) C 3 vb') :
 J w c1 c2 b1 o1 b2 o2 C (W.setCell ⟨C,k,none⟩ u) vp' vr' vm' vb':=by
 have l1:=h.l1;have l2:=h.l2;have lt:=h.lt
 have hC:w.heap.size+1≠C:=by omega
 exact⟨h.l1,h.l2,Ou h.y1 (.inl (show C≠b1 by omega)) u,Ou h.y2 (.inl (show C≠b2 by omega)) u,Ou h.z1 (.inl (show C≠_ by omega)) u,Ou h.z2 (.inl (show C≠_ by omega)) u,
  h.r0.other (.inl (Ne.symm hC)) u,h.r1.other (.inl (Ne.symm hC)) u,h.r2.other (.inl (Ne.symm hC)) u,h.r3.other (.inl (Ne.symm hC)) u,q0,q1,q2,q3,h.hb.setCell (show w.heap.size≤C by omega) u,h.lt,by rw[World.size_setCell];exact h.sz⟩
end
def Akh (B:Nat) (w:World) (b o:Nat):Prop:=B≤b∧∃ v,stay w b o=some v∧v.2.2=(0,0)
theorem Ai7 {S:Nat→Nat→Prop} {w w':World} (h:∀ b o,S b o→w'.heap[b]?=w.heap[b]?):SExt S w S w':=fun b o hs=>⟨hs,Gs (h b o hs) o⟩
theorem K0 (l:List Int):De (l.map (Value.int .i64)):=by
 intro v hv
 obtain⟨x,_,rfl⟩:=List.mem_map.1 hv
 rfl
structure NumsAt (B:Nat) (w:World) (l:List Int) (v:Value):Prop where
 is:∃ S:Nat→Nat→Prop,Rep S w [] [] (aIs l) v∧∀ b o,S b o→Akh B w b o∧∃ x,w.cell? ⟨b,o,none⟩=some (.int .i64 x)
theorem NumsAt.later {B:Nat} {w w':World} {l:List Int} {v:Value} (h:NumsAt B w l v) (hb:Below w.heap.size w w'):NumsAt B w' l v:=by
 obtain⟨S,h1,h2⟩:=h.is
 have hx:∀ b o,S b o→w'.heap[b]?=w.heap[b]?:=fun b o hs=>by
  obtain⟨⟨_,u,hu,_⟩,_⟩:=h2 b o hs
  exact hb.block b (Gv hu)
 refine⟨S,Rep.mono (Ai7 hx) h1 (.refl _ _),fun b o hs=>?_⟩
 obtain⟨⟨h3,u,hu,hf⟩,x,hc⟩:=h2 b o hs
 exact⟨⟨h3,u,(Gs (hx b o hs) o).trans hu,hf⟩,x,cell_later hb hc⟩
theorem Be {w:World} {base:Nat} {e:TypeId} {size:Nat} {v:Value} {n:Nat} {xs:List Value} (h:w.ownsRow base e size v n xs) {b:Nat} (hb:v.ownBlock=some b):base≤b∧b < w.heap.size:=by
 rcases h.2 with ⟨rfl,_⟩ | ⟨g,cap,cur,rfl,hbg,hgg,_⟩
 ·cases hb
 ·obtain rfl:g=b:=by simpa [Value.ownBlock] using hb
  exact⟨hbg,(Array.getElem?_eq_some_iff.1 hgg).1⟩
theorem Gr {w w':World} {base base':Nat} {e:TypeId} {size:Nat} {v:Value} {n:Nat} {xs:List Value} (h:w.ownsRow base e size v n xs) (hb:∀ b,v.ownBlock=some b→base'≤b∧w'.heap[b]?=w.heap[b]?):w'.ownsRow base' e size v n xs:=by
 refine⟨h.1,?_⟩
 rcases h.2 with hn | ⟨g,cap,cur,rfl,hbg,hgg,rest⟩
 ·exact .inl hn
 ·obtain⟨h1,h2⟩:=hb g rfl
  exact .inr ⟨g,cap,cur,rfl,h1,h2.trans hgg,rest⟩
structure RowsAt (B:Nat) (w:World) (eT e:TypeId) (size:Nat) (v:Value) (vals:List Value) (rows:List (List Value)):Prop where
 len:vals.length=rows.length
 own:w.ownsRow B eT 1 v rows.length vals
 row:∀ (i:Nat) (x:Value) (r:List Value),vals[i]?=some x→rows[i]?=some r→∃ m,w.ownsRow B e size x m r
 apart:∀ (i:Nat) (x:Value) (b:Nat),vals[i]?=some x→x.ownBlock=some b→v.ownBlock≠some b
 dist:∀ (i j:Nat) (x y:Value) (b:Nat),vals[i]?=some x→vals[j]?=some y→x.ownBlock=some b→y.ownBlock=some b→i=j
theorem RowsAt.nil (B:Nat) (w:World) (eT e:TypeId) (size:Nat):RowsAt B w eT e size (.slice none 0 0) [] [] :=
 ⟨rfl,World.ownsRow_nil _ _ _ _,fun i x r h=>by simp at h,fun i x b h=>by simp at h,fun i j x y b h=>by simp at h⟩
theorem RowsAt.lt {B:Nat} {w:World} {eT e:TypeId} {size:Nat} {v:Value} {vals:List Value} {rows:List (List Value)} (h:RowsAt B w eT e size v vals rows) {i:Nat} {x:Value} {b:Nat} (hx:vals[i]?=some x) (hb:x.ownBlock=some b):B≤b∧b < w.heap.size:=by
 have hi:i < rows.length:=by rw[← h.len];exact(List.getElem?_eq_some_iff.1 hx).1
 obtain⟨m,hm⟩:=h.row i x _ hx (A5 hi)
 exact Be hm hb
theorem RowsAt.below {B:Nat} {w w':World} {eT e:TypeId} {size:Nat} {v:Value} {vals:List Value} {rows:List (List Value)} (h:RowsAt B w eT e size v vals rows) (hb:Below w.heap.size w w'):RowsAt B w' eT e size v vals rows :=
 ⟨h.len,Cx h.own hb,fun i x r h1 h2=>let ⟨m,hm⟩:=h.row i x r h1 h2;⟨m,Cx hm hb⟩,h.apart,h.dist⟩
theorem RowsAt.push {B:Nat} {w w1 w2:World} {eT e:TypeId} {size:Nat} {v v' x:Value} {vals:List Value} {rows:List (List Value)} {m g:Nat} {r:List Value} (h:RowsAt B w eT e size v vals rows) (hB:B≤w.heap.size) (hb:Below w.heap.size w w1) (hx:w1.ownsRow w.heap.size e size x m r)
 (h2:w2.ownsRow B eT 1 v' (rows.length+1) (vals++[x])) (hg:w1.grownBy w2 v.ownBlock) (hloc:v.ownBlock=some g∨g=w1.heap.size) (hv':v'.ownBlock=some g):RowsAt B w2 eT e size v' (vals++[x]) (rows++[r]):=by
 have hsz:=hb.size
 have old:∀ (i:Nat) (y:Value) (b:Nat),vals[i]?=some y→y.ownBlock=some b→w2.heap[b]?=w.heap[b]?:=by
  intro i y b hy hyb
  have hlt:=(h.lt hy hyb).2
  exact(hg.block b (by omega) (fun e=>h.apart i y b hy hyb e.symm)).trans (hb.block b hlt)
 refine⟨by simp[h.len],by rw[List.length_append];exact h2,fun i y r' hy hr'=>?_,fun i y b hy hyb=>?_,fun i j y z b hy hz hyb hzb=>?_⟩
 ·rcases Nat.lt_or_ge i vals.length with hi | hi
  ·rw[List.getElem?_append_left hi] at hy
   rw[List.getElem?_append_left (by rw[← h.len];exact hi)] at hr'
   obtain⟨m',hm'⟩:=h.row i y r' hy hr'
   exact⟨m',Gr hm' fun b hb'=>⟨(h.lt hy hb').1,old i y b hy hb'⟩⟩
  ·rw[List.getElem?_append_right hi] at hy
   rw[List.getElem?_append_right (by rw[← h.len];exact hi),← h.len] at hr'
   obtain hi0:i - vals.length=0:=by
    have:=(List.getElem?_eq_some_iff.1 hy).1
    simp at this;omega
   rw[hi0] at hy hr'
   simp at hy hr'
   subst hy hr'
   refine⟨m,Gr hx fun b hb'=>?_⟩
   obtain⟨h3,h4⟩:=Be hx hb'
   refine⟨by omega,hg.block b h4 fun e=>?_⟩
   have:=(Be h.own e.symm).2
   omega
 ·rw[hv']
  intro e
  obtain rfl:g=b:=by simpa using e
  rcases Nat.lt_or_ge i vals.length with hi | hi
  ·rw[List.getElem?_append_left hi] at hy
   rcases hloc with hl | hl
   ·exact h.apart i y g hy hyb hl
   ·have:=(h.lt hy hyb).2;omega
  ·rw[List.getElem?_append_right hi] at hy
   obtain hi0:i - vals.length=0:=by
    have:=(List.getElem?_eq_some_iff.1 hy).1
    simp at this;omega
   rw[hi0] at hy
   simp at hy
   subst hy
   obtain⟨h3,h4⟩:=Be hx hyb
   rcases hloc with hl | hl
   ·have:=(Be h.own hl).2;omega
   ·omega
 ·have key:∀ (i:Nat) (y:Value),(vals++[x])[i]?=some y→y.ownBlock=some b→(i < vals.length∧vals[i]?=some y∧b < w.heap.size)∨(i=vals.length∧w.heap.size≤b):=by
   intro i y hy hyb
   rcases Nat.lt_or_ge i vals.length with hi | hi
   ·rw[List.getElem?_append_left hi] at hy
    exact .inl ⟨hi,hy,(h.lt hy hyb).2⟩
   ·rw[List.getElem?_append_right hi] at hy
    obtain hi0:i - vals.length=0:=by
     have:=(List.getElem?_eq_some_iff.1 hy).1
     simp at this;omega
    rw[hi0] at hy
    simp at hy
    subst hy
    exact .inr ⟨by omega,(Be hx hyb).1⟩
  rcases key i y hy hyb with ⟨i1,i2,i3⟩ | ⟨i1,i2⟩<;>rcases key j z hz hzb with ⟨j1,j2,j3⟩ | ⟨j1,j2⟩
  ·exact h.dist i j y z b i2 j2 hyb hzb
  ·omega
  ·omega
  ·omega
structure Zq (c:A8):Prop where
 pc:c.pc.length≤8
 mem:c.mem.length≤20
 regsN:c.regs.length≤8
 bufN:c.buf.length≤8
 regs:∀ i (h:i < c.regs.length),c.regs[i].length≤20
 buf:∀ i (h:i < c.buf.length),c.buf[i].length≤300
def Kp (x:A2):List Value:=[.int .i64 x.loc,.int .i64 x.n]
theorem Tk (x:A2):(Kp x).length=2:=rfl
theorem A7y {w:World} {v:Value} {l:List A2} (h:Sl O6 w v l):Arr w 2 v l.length (l.flatMap Kp):=by
 obtain⟨a,cap,h0,hp,h3⟩:=h
 obtain rfl:v=.slice a l.length cap:=by simpa using h0
 refine⟨Rn Kp 2 Tk l,a,cap,rfl,hp,fun j u hj=>?_⟩
 have hjl:j < l.length*2:=by rw[← Rn Kp 2 Tk l];exact(List.getElem?_eq_some_iff.1 hj).1
 have hk:j / 2 < l.length:=by omega
 have e:j=j / 2*2+j % 2:=by omega
 obtain⟨b,off,cs',e1,e2,e3,e4⟩:=h3 (j / 2) hk
 obtain⟨rfl,_,_⟩:=Yl e4
 refine⟨b,off,e1,?_⟩
 rw[e,Ahl Kp 2 Tk l (j / 2) hk (j % 2) (by omega)] at hj
 have:=e3 (j % 2) u hj
 rw[show O6.size=2 from rfl] at this
 rw[e,show off+(j / 2*2+j % 2)=off+j / 2*2+j % 2 by omega]
 exact this
theorem A51 (l:List A2):De (l.flatMap Kp):=by
 intro v hv
 obtain⟨x,_,hx⟩:=List.mem_flatMap.1 hv
 simp only[Kp,List.mem_cons,List.not_mem_nil,or_false] at hx
 rcases hx with rfl | rfl<;>rfl
theorem RowsAt.base {B B':Nat} {w:World} {eT e:TypeId} {size:Nat} {v:Value} {vals:List Value} {rows:List (List Value)} (h:RowsAt B w eT e size v vals rows) (hB:B'≤B):RowsAt B' w eT e size v vals rows :=
 ⟨h.len,Gr h.own fun b hb=>⟨Nat.le_trans hB (Be h.own hb).1,rfl⟩,fun i x r h1 h2=>let ⟨m,hm⟩:=h.row i x r h1 h2;⟨m,Gr hm fun b hb=>⟨Nat.le_trans hB (Be hm hb).1,rfl⟩⟩,h.apart,h.dist⟩
theorem RowsAt.heap {B B':Nat} {w w':World} {eT e:TypeId} {size:Nat} {v:Value} {vals:List Value} {rows:List (List Value)} (h:RowsAt B w eT e size v vals rows) (hB:B'≤B) (hw:∀ b,B≤b→w'.heap[b]?=w.heap[b]?):RowsAt B' w' eT e size v vals rows :=
 ⟨h.len,Gr h.own fun b hb=>⟨Nat.le_trans hB (Be h.own hb).1,hw b (Be h.own hb).1⟩,fun i x r h1 h2=>let ⟨m,hm⟩:=h.row i x r h1 h2;⟨m,Gr hm fun b hb=>⟨Nat.le_trans hB (Be hm hb).1,hw b (Be hm hb).1⟩⟩,h.apart,h.dist⟩
structure Ajh (B:Nat) (w:World) (c:A8) (vp vr vm vb:Value) (xr xb:List Value):Prop where
 pc:w.ownsRow B 3 1 vp c.pc.length (c.pc.map (Value.int .i64))
 regs:RowsAt B w 22 3 1 vr xr (c.regs.map (List.map (Value.int .i64)))
 mem:w.ownsRow B 3 1 vm c.mem.length (c.mem.map (Value.int .i64))
 buf:RowsAt B w 79 84 2 vb xb (c.buf.map (List.flatMap Kp))
theorem A2o {S:Nat→Nat→Prop} {w:World} {v:Value} {c:A8} (h:Rep S w [] [] (aC c) v):ConfV w v c:=by
 obtain⟨vs,hr,_,rfl⟩:=h.agg_inv
 exact Aif (cs:=vs.toArray) (Aje.2 _ _ _ _ hr)
def A46 (lo hi:Nat) (w:World) (b:Nat):Prop:=lo≤b∧b < hi∧∃ cs E,w.heap[b]?=some (.cells cs E (0,0))∧(E=3∨E=84)
structure Sp (lo hi:Nat) (w5 w:World):Prop where
 below:Below lo w5 w
 heap:∀ b,¬ A46 lo hi w5 b→w.heap[b]?=w5.heap[b]?
 shape:∀ (b:Nat) cs E,w5.heap[b]?=some (.cells cs E (0,0))→∃ cs',cs'.size=cs.size∧w.heap[b]?=some (.cells cs' E (0,0))
theorem Sp.refl (lo hi:Nat) (w:World):Sp lo hi w w:=⟨Below.refl _ _,fun _ _=>rfl,fun b cs E h=>⟨cs,rfl,h⟩⟩
theorem Sp.set {lo hi:Nat} {w5 w:World} (h:Sp lo hi w5 w) {p:Addr} (hl:A46 lo hi w5 p.block) (v:Value):Sp lo hi w5 (w.setCell p v):=by
 refine⟨h.below.setCell hl.1 v,fun b hb=>?_,fun b cs E hb=>?_⟩
 ·have hne:b≠p.block:=by rintro rfl;exact hb hl
  exact(Below.heap_setCell w p v b hne).trans (h.heap b hb)
 ·obtain⟨cs',e1,e2⟩:=h.shape b cs E hb
  by_cases hbp:b=p.block
  ·subst hbp
   refine⟨if p.spot.isSome then cs' else cs'.setIfInBounds p.off v,by split<;>simp[e1],?_⟩
   simp[World.setCell,Array.getElem?_modify,e2]
  ·exact⟨cs',e1,(Below.heap_setCell w p v b hbp).trans e2⟩
theorem Sp.cell {lo hi:Nat} {w5 w:World} (h:Sp lo hi w5 w) {b o:Nat} {v:Value} (hb:¬ A46 lo hi w5 b) (hv:w5.cell? ⟨b,o,none⟩=some v):w.cell? ⟨b,o,none⟩=some v :=
 (World.cell?_of_block (a:=⟨b,o,none⟩) (h.heap b hb)).trans hv
theorem Ya {w:World} {B:Nat} {e:TypeId} {size n:Nat} {v:Value} {xs:List Value} (h:w.ownsRow B e size v n xs) (hs:0 < size) {k:Nat} (hx:xs.length=k*size):n=k:=by
 have:=h.1
 rw[hx] at this
 exact(Nat.eq_of_mul_eq_mul_right hs this).symm
theorem A4p:∀ l:List Int,l.flatMap (fun x=>[Value.int .i64 x])=l.map (Value.int .i64)
 | []=>rfl
 | x :: l=>by simp[A4p l]
def Rg (E:TypeId) (w w':World):Prop:=∀ (b:Nat) cs E' f,w.heap[b]?=some (.cells cs E' f)→E'≠E→w'.heap[b]?=w.heap[b]?
theorem Oi {w:World} {D k:Nat} {cs:Array Value} {E:TypeId} {f:Nat×Nat} (h:w.heap[D]?=some (.cells cs E f)) (v:Value):Rg E w (w.setCell ⟨D,k,none⟩ v):=by
 intro b cs' E' f' hb hne
 refine Below.heap_setCell w ⟨D,k,none⟩ v b ?_
 rintro rfl
 rw[h] at hb
 cases hb
 exact hne rfl
theorem Hy {w w':World} {B:Nat} {e E:TypeId} {size n:Nat} {v:Value} {xs:List Value} (h:w.ownsRow B e size v n xs) (hk:Rg E w w') (he:e≠E):w'.ownsRow B e size v n xs:=by
 refine⟨h.1,?_⟩
 rcases h.2 with hn | ⟨g,cap,cur,rfl,hbg,hgg,rest⟩
 ·exact .inl hn
 ·exact .inr ⟨g,cap,cur,rfl,hbg,(hk g _ _ _ hgg he).trans hgg,rest⟩
theorem RowsAt.keeps {B:Nat} {w w':World} {eT e E:TypeId} {size:Nat} {v:Value} {vals:List Value} {rows:List (List Value)} (h:RowsAt B w eT e size v vals rows) (hk:Rg E w w') (h1:eT≠E) (h2:e≠E):RowsAt B w' eT e size v vals rows :=
 ⟨h.len,Hy h.own hk h1,fun i x r a b=>let ⟨m,hm⟩:=h.row i x r a b;⟨m,Hy hm hk h2⟩,h.apart,h.dist⟩
theorem Fresh.keeps {w w':World} {b:Nat} {cs:Array Value} {E E':TypeId} (h:Fresh w b (.cells cs E')) (hk:Rg E w w') (he:E'≠E):Fresh w' b (.cells cs E'):=(hk b _ _ _ h he).trans h
theorem Fresh.put {w:World} {b k:Nat} {cs:Array Value} {E:TypeId} (h:Fresh w b (.cells cs E)) (v:Value):Fresh (w.setCell ⟨b,k,none⟩ v) b (.cells (cs.setIfInBounds k v) E):=by
 unfold Fresh at h ⊢
 simp[World.setCell,Array.getElem?_modify,h]
theorem Fresh.open {w:World} {b k:Nat} {cs:Array Value} {E:TypeId} {v:Value} (h:Fresh w b (.cells cs E)) (hv:cs[k]?=some v):w.cell? ⟨b,k,none⟩=some v∧w.frozen? ⟨b,k,none⟩=false:=by
 unfold Fresh at h
 exact⟨by simp[World.cell?,h,hv],by simp[World.frozen?,h]⟩
theorem Xm {w:World} {v:Value} {l:List Int} (hv:Sl rI w v l):Arr w 1 v l.length (l.map (Value.int .i64)):=by
 obtain⟨a',cap',h1,h2⟩:=C6 hv
 obtain⟨a,cap,h0,hp,_⟩:=hv
 obtain rfl:v=.slice a l.length cap:=by simpa using h0
 refine⟨by simp,a,cap,rfl,hp,fun j u hj=>?_⟩
 rw[List.getElem?_map] at hj
 cases hjl:l[j]? with
 | none=>rw[hjl] at hj;cases hj
 | some x =>
  rw[hjl] at hj
  obtain rfl:=Option.some.inj hj
  obtain⟨hj',rfl⟩:=List.getElem?_eq_some_iff.1 hjl
  obtain⟨b,off,h3,h4,_⟩:=h2 j hj'
  obtain⟨rfl,_,rfl⟩:=Value.slice.inj h1
  exact⟨b,off,h3,h4⟩
theorem Ir {w:World} {B:Nat} {e:TypeId} {size n:Nat} {v:Value} {xs:List Value} (h:w.ownsRow B e size v n xs):∃ a m c,v=.slice a m c:=by
 rcases h.2 with ⟨rfl,_⟩ | ⟨g,cap,cur,rfl,_⟩<;>exact⟨_,_,_,rfl⟩
theorem RowsAt.same {B B':Nat} {w w':World} {eT e:TypeId} {size:Nat} {v:Value} {vals:List Value} {rows:List (List Value)} (h:RowsAt B w eT e size v vals rows) (hB:B'≤B) (hw:∀ b,B≤b→b < w.heap.size→w'.heap[b]?=w.heap[b]?):RowsAt B' w' eT e size v vals rows :=
 ⟨h.len,Gr h.own fun b hb=>⟨Nat.le_trans hB (Be h.own hb).1,hw b (Be h.own hb).1 (Be h.own hb).2⟩,fun i x r h1 h2=>let ⟨m,hm⟩:=h.row i x r h1 h2;⟨m,Gr hm fun b hb=>⟨Nat.le_trans hB (Be hm hb).1,hw b (Be hm hb).1 (Be hm hb).2⟩⟩,h.apart,h.dist⟩
theorem Te {B B':Nat} {w w':World} {e:TypeId} {size n:Nat} {v:Value} {xs:List Value} (h:w.ownsRow B e size v n xs) (hB:B'≤B) (hw:∀ b,B≤b→b < w.heap.size→w'.heap[b]?=w.heap[b]?):w'.ownsRow B' e size v n xs :=
 Gr h fun b hb=>⟨Nat.le_trans hB (Be h hb).1,hw b (Be h hb).1 (Be h hb).2⟩
theorem A2e {M:Nat} {wr w1 w2:World} {o:Obj} {row:Option Nat} (hM:M≤wr.heap.size) (hg:wr.grownBy w1 none) (hgr:(w1.alloc o).grownBy w2 row) (hr:∀ k,row=some k→M≤k):M≤w2.heap.size∧(∀ b,b < M→w2.heap[b]?=wr.heap[b]?)∧(∀ (w:World) (B:Nat),B≤M→Below B w wr→Below B w w2):=by
 have h1:=hg.size
 have h2:=hgr.size
 rw[World.size_alloc] at h2
 refine⟨by omega,fun b hb=>?_,fun w B hB h=>?_⟩
 ·refine(hgr.block b (by rw[World.size_alloc];omega) fun e=>?_).trans ((Below.heap_alloc w1 o b (by omega)).trans (hg.block b (by omega) (by simp)))
  have:=hr b e.symm;omega
 ·exact((h.grown hg (by omega) (by simp)).alloc (by omega) o).grown hgr (by rw[World.size_alloc];omega) fun k hk=>Nat.le_trans hB (hr k hk)
structure A0x (B:Nat) (w:World) (c:A8) (vp vr vm vb:Value) (xr xb:List Value):Prop extends Ajh B w c vp vr vm vb xr xb where
 pm:∀ b,vp.ownBlock=some b→vm.ownBlock≠some b
 pr:∀ (i:Nat) x b,xr[i]?=some x→x.ownBlock=some b→vp.ownBlock≠some b∧vm.ownBlock≠some b
set_option maxRecDepth 100000 in
set_option maxHeartbeats 4000000 in
theorem Zr (w:World) (v:Value) (c:A8) (hv:ConfV w v c) (hl:Zq c):Calls Try.prog 25 #[v] w fun e w'=>Below w.heap.size w w'∧∃ vp vr vm vb xr xb,e=.returned (.agg #[vp,vr,vm,vb])∧A0x w.heap.size w' c vp vr vm vb xr xb:=by
 obtain⟨vp,vr,vm,vb,rfl,s1,s2,s3,s4⟩:=hv
 have S1:=Lib.hid s1;have S2:=Lib.hid s2;have S3:=Lib.hid s3;have S4:=Lib.hid s4
 obtain⟨l1,l2,l3,l4,l5,l6⟩:=hl
 have L5:=Lib.hid l5;have L6:=Lib.hid l6
 clear l5 l6
 obtain⟨a1,c1,rfl,_⟩:=C6 s1
 obtain⟨a2,c2,rfl,h2⟩:=Eh s2
 obtain⟨a3,c3,rfl,_⟩:=C6 s3
 obtain⟨a4,c4,rfl,h4⟩:=Eh s4
 have H2:=Lib.hid h2;have H4:=Lib.hid h4
 clear s1 s2 s3 s4 h2 h4
 obtain⟨np,hnp⟩:∃ n,c.pc.length=n:=⟨_,rfl⟩
 obtain⟨nr,hnr⟩:∃ n,c.regs.length=n:=⟨_,rfl⟩
 obtain⟨nm,hnm⟩:∃ n,c.mem.length=n:=⟨_,rfl⟩
 obtain⟨nb,hnb⟩:∃ n,c.buf.length=n:=⟨_,rfl⟩
 rw[hnp] at S1 l1;rw[hnr] at S2;rw[hnm] at S3 l2;rw[hnb] at S4
 rw[hnp,hnr,hnm,hnb]
 have N1:=Lib.hid hnp;have N2:=Lib.hid hnr;have N3:=Lib.hid hnm;have N4:=Lib.hid hnb
 have hr8:nr≤8:=by omega
 have hb8:nb≤8:=by omega
 clear hnp hnr hnm hnb
 obtain⟨i0,hi,hi0,hi1,hi2⟩:∃ i,Try.prog.info? 3=some i∧i.zero=some (.int .i64 0)∧i.size=1∧i.bytes=8:=Wl (by kernel_rfl)
 obtain⟨j0,ji,ji0,ji1,ji2⟩:∃ i,Try.prog.info? 22=some i∧i.zero=some (.slice none 0 0)∧i.size=1∧i.bytes=24:=Wl (by kernel_rfl)
 obtain⟨e0,ei,ei0,ei1,ei2⟩:∃ i,Try.prog.info? 84=some i∧i.zero=some (.agg #[.int .i64 0,.int .i64 0])∧i.size=2∧i.bytes=16:=Wl (by kernel_rfl)
 obtain⟨k0,ki,ki0,ki1,ki2⟩:∃ i,Try.prog.info? 79=some i∧i.zero=some (.slice none 0 0)∧i.size=1∧i.bytes=24:=Wl (by kernel_rfl)
 obtain⟨W,hW⟩:∃ W,W=((w.alloc (.cells #[.slice a1 np c1,.slice a2 nr c2,.slice a3 nm c3,.slice a4 nb c4] 56)).alloc (.cells #[.slice none 0 0,.slice none 0 0,.slice none 0 0,.slice none 0 0] 56)).alloc (.cells #[.slice none 0 0,.slice none 0 0,.slice none 0 0,.slice none 0 0] 56):=⟨_,rfl⟩
 go_enter Try.func25,Try.ntmps25
 go_upto_region 2 with (fail)
 rw[← hW]
 have hb0:Below w.heap.size w W:=hW ▸ (((Below.refl _ _).alloc (Nat.le_refl _) _).alloc (by simp) _).alloc (by simp;omega) _
 have hsz:W.heap.size=w.heap.size+1+1+1:=by rw[hW];simp
 have fc:Fresh W w.heap.size (.cells #[.slice a1 np c1,.slice a2 nr c2,.slice a3 nm c3,.slice a4 nb c4] 56):=by
  rw[hW];exact((show Fresh (w.alloc _) w.heap.size _ from heap_alloc_new w _).later ((Below.refl _ _).alloc (Nat.le_refl _) _)).later ((Below.refl _ _).alloc (Nat.le_refl _) _)
 have fr:Fresh W (w.heap.size+1) (.cells #[.slice none 0 0,.slice none 0 0,.slice none 0 0,.slice none 0 0] 56):=by
  rw[hW]
  have:=heap_alloc_new (w.alloc (.cells #[.slice a1 np c1,.slice a2 nr c2,.slice a3 nm c3,.slice a4 nb c4] 56)) (.cells #[.slice none 0 0,.slice none 0 0,.slice none 0 0,.slice none 0 0] 56)
  rw[World.size_alloc] at this
  exact(show Fresh _ (w.heap.size+1) _ from this).later ((Below.refl _ _).alloc (Nat.le_refl _) _)
 have fd:Fresh W (w.heap.size+1+1) (.cells #[.slice none 0 0,.slice none 0 0,.slice none 0 0,.slice none 0 0] 56):=by
  rw[hW]
  have:=heap_alloc_new ((w.alloc (.cells #[.slice a1 np c1,.slice a2 nr c2,.slice a3 nm c3,.slice a4 nb c4] 56)).alloc (.cells #[.slice none 0 0,.slice none 0 0,.slice none 0 0,.slice none 0 0] 56)) (.cells #[.slice none 0 0,.slice none 0 0,.slice none 0 0,.slice none 0 0] 56)
  rw[World.size_alloc,World.size_alloc] at this
  exact this
 obtain⟨D,hD⟩:∃ D,w.heap.size+1+1=D:=⟨_,rfl⟩
 rw[hD] at fd ⊢
 have HB:=Lib.hid hb0
 have HSZ:=Lib.hid (show W.heap.size=D+1 by omega)
 have HD:=Lib.hid hD
 have FC:=Lib.hid fc;have FR:=Lib.hid fr
 clear hb0 hW hsz fc fr hD
 have A1:=Lib.hid (Xm (S1.out.mono (Dg _) HB.out));rw[N1.out] at A1
 have z1:=(FC.out.open (k:=0) rfl).1
 obtain⟨y0,y0'⟩:=fd.open (k:=0) rfl
 have FD:=Lib.hid fd
 clear fd
 go_wp2_with (at_builtin;refine I5 rfl _ _ 22 rfl W.heap.size 3 i0 _ 1 8 Try.underlying22 hi hi0 hi1 hi2 rfl (by decide) _ 0 [] rfl (World.ownsRow_nil _ _ _ _) _ _ _ rfl A1.out (K0 _) ?a1 ?a2 ?a3 ?_)
 case a1=>unfold maxLen;omega
 case a2=>omega
 case a3=>exact Nat.le_refl _
 intro v1 w1 hown hg
 try rw[Nat.zero_add,List.nil_append] at hown
 clear y0 y0' z1
 have hb1:Below W.heap.size W w1:=Below.grown (Below.refl _ _) hg (Nat.le_refl _) (by simp[Value.ownBlock])
 have fd1:=FD.out.later hb1
 have fc1:=FC.out.later hb1
 have fr1:=FR.out.later hb1
 obtain⟨y0,y0'⟩:=fd1.open (k:=0) rfl
 obtain⟨p1,p2,p3,rfl⟩:=Ir hown
 have HO1:=Lib.hid hown;have HB1:=Lib.hid (HB.out.trans (hb1.mono HB.out.size));have FD1:=Lib.hid fd1;have FC1:=Lib.hid fc1;have FR1:=Lib.hid fr1
 have HZ1:=Lib.hid hb1.size
 clear hown hg hb1 fd1 fc1 fr1
 go_upto_region 3 with (fail)
 have hk1:Rg 56 w1 (w1.setCell ⟨D,0,none⟩ (.slice p1 p2 p3)):=Oi FD1.out _
 have ho2:=Hy HO1.out hk1 (by decide)
 have fd2:=FD1.out.put (k:=0) (.slice p1 p2 p3)
 have hne1:w.heap.size≠D:=by have:=HD.out;omega
 have hne2:w.heap.size+1≠D:=by have:=HD.out;omega
 have fc2:Fresh (w1.setCell ⟨D,0,none⟩ (.slice p1 p2 p3)) w.heap.size (.cells #[.slice a1 np c1,.slice a2 nr c2,.slice a3 nm c3,.slice a4 nb c4] 56):=(Below.heap_setCell w1 ⟨D,0,none⟩ _ _ hne1).trans FC1.out
 have fr2:Fresh (w1.setCell ⟨D,0,none⟩ (.slice p1 p2 p3)) (w.heap.size+1) (.cells #[.slice none 0 0,.slice none 0 0,.slice none 0 0,.slice none 0 0] 56):=(Below.heap_setCell w1 ⟨D,0,none⟩ _ _ hne2).trans FR1.out
 have hb2:=HB1.out.setCell (p:=⟨D,0,none⟩) (by show w.heap.size≤D;have:=HD.out;omega) (.slice p1 p2 p3)
 have hz2:(w1.setCell ⟨D,0,none⟩ (.slice p1 p2 p3)).heap.size=w1.heap.size:=World.size_setCell _ _ _
 clear HO1 hk1 y0 y0' FD1 FC1 FR1 HB1
 obtain⟨w2,hw2⟩:∃ w2,w1.setCell ⟨D,0,none⟩ (.slice p1 p2 p3)=w2:=⟨_,rfl⟩
 rw[hw2] at ho2 fd2 fc2 fr2 hb2 hz2 ⊢
 have fd2:Fresh w2 D (.cells #[.slice p1 p2 p3,.slice none 0 0,.slice none 0 0,.slice none 0 0] 56):=fd2
 clear hw2
 have A3:=Lib.hid (Xm (S3.out.mono (Dg _) hb2));rw[N3.out] at A3
 have z3:=(fc2.open (k:=2) rfl).1
 obtain⟨y0,y0'⟩:=fd2.open (k:=2) rfl
 have HO1:=Lib.hid ho2;have FD2:=Lib.hid fd2;have FC2:=Lib.hid fc2;have FR2:=Lib.hid fr2;have HB2:=Lib.hid hb2
 have HZ2:=Lib.hid (show D < w2.heap.size by have:=HZ1.out;have:=HSZ.out;omega)
 clear ho2 fd2 fc2 fr2 hb2 hz2
 go_wp2_with (at_builtin;refine I5 rfl _ _ 22 rfl w2.heap.size 3 i0 _ 1 8 Try.underlying22 hi hi0 hi1 hi2 rfl (by decide) _ 0 [] rfl (World.ownsRow_nil _ _ _ _) _ _ _ rfl A3.out (K0 _) ?a1 ?a2 ?a3 ?_)
 case a1=>unfold maxLen;omega
 case a2=>omega
 case a3=>exact Nat.le_refl _
 intro v3 w3 hown hg
 try rw[Nat.zero_add,List.nil_append] at hown
 clear y0 y0' z3
 have hb3:Below w2.heap.size w2 w3:=Below.grown (Below.refl _ _) hg (Nat.le_refl _) (by simp[Value.ownBlock])
 have fd3:=FD2.out.later hb3
 obtain⟨y0,y0'⟩:=fd3.open (k:=2) rfl
 obtain⟨m1,m2,m3,rfl⟩:=Ir hown
 have HO3:=Lib.hid hown;have HB3:=Lib.hid hb3;have FD3:=Lib.hid fd3
 clear hown hg hb3 fd3
 go_upto_region 4 with (fail)
 have hk3:Rg 56 w3 (w3.setCell ⟨D,2,none⟩ (.slice m1 m2 m3)):=Oi FD3.out _
 have ho3:=Hy HO3.out hk3 (by decide)
 have ho1:=Hy (Cx HO1.out HB3.out) hk3 (by decide)
 have fd4:=FD3.out.put (k:=2) (.slice m1 m2 m3)
 have hz3:=HB3.out.size
 have hpm:∀ b,(Value.slice p1 p2 p3).ownBlock=some b→(Value.slice m1 m2 m3).ownBlock≠some b:=fun b h1 h2=>by
  have:=(Be HO1.out h1).2
  have:=(Be HO3.out h2).1
  omega
 have hb4:=(HB2.out.trans (HB3.out.mono HB2.out.size)).setCell (p:=⟨D,2,none⟩) (by show w.heap.size≤D;have:=HD.out;omega) (.slice m1 m2 m3)
 have fc4:Fresh (w3.setCell ⟨D,2,none⟩ (.slice m1 m2 m3)) w.heap.size (.cells #[.slice a1 np c1,.slice a2 nr c2,.slice a3 nm c3,.slice a4 nb c4] 56):=(Below.heap_setCell w3 ⟨D,2,none⟩ _ _ hne1).trans (FC2.out.later HB3.out)
 have fr4:Fresh (w3.setCell ⟨D,2,none⟩ (.slice m1 m2 m3)) (w.heap.size+1) (.cells #[.slice none 0 0,.slice none 0 0,.slice none 0 0,.slice none 0 0] 56):=(Below.heap_setCell w3 ⟨D,2,none⟩ _ _ hne2).trans (FR2.out.later HB3.out)
 have hz4:(w3.setCell ⟨D,2,none⟩ (.slice m1 m2 m3)).heap.size=w3.heap.size:=World.size_setCell _ _ _
 clear HO1 HO3 hk3 y0 y0' FD3 FD2 FC2 FR2
 obtain⟨w4,hw4⟩:∃ w4,w3.setCell ⟨D,2,none⟩ (.slice m1 m2 m3)=w4:=⟨_,rfl⟩
 rw[hw4] at ho1 ho3 fd4 fc4 fr4 hb4 hz4 ⊢
 have fd4:Fresh w4 D (.cells #[.slice p1 p2 p3,.slice none 0 0,.slice m1 m2 m3,.slice none 0 0] 56):=fd4
 clear hw4
 have hDM:D < w4.heap.size:=by have:=HZ2.out;omega
 obtain⟨M,hM⟩:∃ M,w4.heap.size=M:=⟨_,rfl⟩
 have HO1:=Lib.hid ho1;have HO3:=Lib.hid (Te ho3 (B':=W.heap.size) (by have:=HZ2.out;have:=HSZ.out;omega) fun _ _ _=>rfl);have FD4:=Lib.hid fd4;have FC4:=Lib.hid fc4;have FR4:=Lib.hid fr4;have HB4:=Lib.hid hb4;have HM:=Lib.hid hM;have HPM:=Lib.hid hpm
 have HDM:=Lib.hid (show D < M by omega)
 clear ho1 ho3 fd4 fc4 fr4 hb4 hz4 hz3 hM hDM hpm HB3 HB2
 have HMMM:=Lib.hid (Nat.le_refl M)
 go_wp2_with fail
 go_loopw [4] (fun i wr=>∃ (k:Nat) (v2:Value) (xr:List Value),i=.int .i64 k∧k≤nr∧Below w.heap.size w wr∧M≤wr.heap.size∧(∀ b,b < M→b≠D→wr.heap[b]?=w4.heap[b]?)∧Fresh wr D (.cells #[.slice p1 p2 p3,v2,.slice m1 m2 m3,.slice none 0 0] 56)∧RowsAt M wr 22 3 1 v2 xr ((c.regs.take k).map (List.map (Value.int .i64)))) (fun i _=>nr - (intOf i).toNat)
 case atStart=>exact⟨0,.slice none 0 0,[],rfl,by omega,HB4.out,by have:=HM.out;omega,fun _ _ _=>rfl,FD4.out,RowsAt.nil _ _ _ _ _⟩
 case round =>
  obtain⟨k,v2,xr,rfl,hk,hb,hz,hkp,hfd,hR⟩:=hrel
  have hcell:=(hkp w.heap.size (by have:=HD.out;have:=HDM.out;have:=HMMM.out;omega) (by have:=HD.out;omega)).trans FC4.out
  have hcell:Fresh wr w.heap.size (.cells #[.slice a1 np c1,.slice a2 nr c2,.slice a3 nm c3,.slice a4 nb c4] 56):=hcell
  have zc:=(hcell.open (k:=1) rfl).1
  have HBr:=Lib.hid hb;have HKP:=Lib.hid hkp;have HFD:=Lib.hid hfd;have HR:=Lib.hid hR;have HZr:=Lib.hid hz
  clear hb hkp hfd hR hcell
  by_cases hlt:k < nr
  ·have hkl:k < c.regs.length:=by have:=N2.out;omega
   obtain⟨b,o,vr,rfl,x1,sr⟩:=H2.out k hkl
   have y1:=cell_later HBr.out x1
   have SRR:=Lib.hid (Xm (sr.mono (Dg _) HBr.out))
   have HL:=Lib.hid (L5.out _ hkl)
   obtain⟨vra,vrc,rfl,_⟩:=C6 sr
   clear x1 sr
   have hrl:c.regs[k].length≤300:=Nat.le_trans HL.out (by decide)
   go_wp2_with (at_builtin;refine I5 rfl _ _ 22 rfl wr.heap.size 3 i0 _ 1 8 Try.underlying22 hi hi0 hi1 hi2 rfl (by decide) _ 0 [] rfl (World.ownsRow_nil _ _ _ _) _ _ _ rfl SRR.out (K0 _) ?a1 ?a2 ?a3 ?_)
   case a1=>unfold maxLen;omega
   case a2=>omega
   case a3=>exact Nat.le_refl _
   intro r w5 hown hg
   try rw[Nat.zero_add,List.nil_append] at hown
   have hb5:Below wr.heap.size wr w5:=Below.grown (Below.refl _ _) hg (Nat.le_refl _) (by simp[Value.ownBlock])
   obtain⟨xa,xn,xc,rfl⟩:=Ir hown
   have fd5:=HFD.out.later hb5
   have yd:=fd5.open (k:=1) rfl
   obtain⟨yd,yd'⟩:=yd
   have hlk:((c.regs.take k).map (List.map (Value.int .i64))).length=k:=by rw[A4,List.length_take];omega
   have howO:=Cx (Cx HR.out.own hb5) ((Below.refl _ _).alloc (Nat.le_refl _) (.cells #[.slice xa xn xc] 22))
   rw[hlk] at howO
   have hsz5:(w5.alloc (.cells #[.slice xa xn xc] 22)).heap.size=w5.heap.size+1:=World.size_alloc _ _
   have HO:=Lib.hid howO;have HOX:=Lib.hid hown;have HB5:=Lib.hid hb5;have HLK:=Lib.hid hlk;have HG:=Lib.hid hg;have FD5:=Lib.hid fd5;have HSZ5:=Lib.hid hsz5
   have hz5:=hb5.size
   clear howO hown hb5 hlk hg fd5 hsz5 y1 zc
   go_wp2_with (at_builtin;refine wpList_append_lies _ rfl _ _ 53 rfl M 22 j0 _ 1 24 Try.underlying53 ji ji0 ji1 ji2 rfl (by decide) _ k xr rfl HO.out _ 1 1 [.slice xa xn xc] rfl rfl (World.news_of_block (heap_alloc_new w5 _)) (by intro u hu;simp at hu;subst hu;rfl) (by decide) ?a1 ?a2 ?a3 _ rfl ?_)
   case a1=>unfold maxLen;omega
   case a2=>omega
   case a3=>rw[HSZ5.out];omega
   intro g cp w6 hw6 hgr hlc hlt6
   have hp:=RowsAt.push (x:=.slice xa xn xc) HR.out HZr.out (HB5.out.trans ((Below.refl _ _).alloc hz5 (.cells #[.slice xa xn xc] 22))) (Cx HOX.out ((Below.refl _ _).alloc (Nat.le_refl _) _)) (by rw[HLK.out];exact hw6) hgr (by rw[HSZ5.out];exact hlc) rfl
   obtain⟨s1,s2,s3⟩:=A2e HZr.out HG.out hgr fun q hq=>(Be HR.out.own hq).1
   have fd6:=Fresh.open (k:=1) (show Fresh w6 D (.cells #[.slice p1 p2 p3,v2,.slice m1 m2 m3,.slice none 0 0] 56) from(s2 D HDM.out).trans HFD.out) rfl
   have HFD6:=Lib.hid (show Fresh w6 D (.cells #[.slice p1 p2 p3,v2,.slice m1 m2 m3,.slice none 0 0] 56) from(s2 D HDM.out).trans HFD.out)
   obtain⟨y6,y6'⟩:=fd6
   have HP:=Lib.hid hp;have HS2:=Lib.hid s2;have HS3:=Lib.hid (s3 w w.heap.size (by have:=HD.out;have:=HDM.out;omega) HBr.out)
   clear hp s2 s3 hgr hlc hlt6 hw6 yd yd'
   go_wp2_with fail
   go_round
   case rel =>
    refine⟨k+1,.slice (some ⟨g,0,none⟩) (k+1) cp,xr++[.slice xa xn xc],by go_num,by omega,HS3.out.setCell (p:=⟨D,1,none⟩) (by show w.heap.size≤D;have:=HD.out;omega) _,by rw[World.size_setCell];exact s1,fun b h1 h2=>?_,HFD6.out.put (k:=1) _,?_⟩
    ·exact(Below.heap_setCell w6 ⟨D,1,none⟩ _ b h2).trans ((HS2.out b h1).trans (HKP.out b h1 h2))
    ·have:=HP.out.keeps (Oi HFD6.out (.slice (some ⟨g,0,none⟩) (k+1) cp) (k:=1)) (by decide) (by decide)
     rw[List.take_add_one,A5 hkl,Option.toList_some,List.map_append]
     exact this
   case measure=>simp[intOf];omega
  ·have hkn:nr=k:=by omega
   subst hkn
   go_wp2_with fail
   clear zc hlt
   obtain⟨wA,hwA⟩:∃ wA,wA=wr:=⟨_,rfl⟩
   obtain⟨xR,hxR⟩:∃ xR,xR=xr:=⟨_,rfl⟩
   obtain⟨ra,rn,rcp,hrf⟩:=Ir HR.out.own
   subst hrf
   rw[← hwA] at HBr HKP HFD HR HZr ⊢
   rw[← hxR] at HR
   have hR5:=HR.out
   rw[List.take_of_length_le (by rw[N2.out];exact Nat.le_refl _)] at hR5
   obtain⟨M5,hM5⟩:∃ M5,wA.heap.size=M5:=⟨_,rfl⟩
   have HM5:=Lib.hid hM5
   have HRA:=Lib.hid hR5;have HBA:=Lib.hid HBr.out;have HFDA:=Lib.hid HFD.out;have HKPA:=Lib.hid HKP.out
   have HMM5:=Lib.hid (show M≤M5 by have:=HZr.out;omega)
   have HMMM5:=HMM5
   have FC5:=Lib.hid (show Fresh wA w.heap.size (.cells #[.slice a1 np c1,.slice a2 nr c2,.slice a3 nm c3,.slice a4 nb c4] 56) from(HKP.out w.heap.size (by have:=HD.out;have:=HDM.out;omega) (by have:=HD.out;omega)).trans FC4.out)
   clear hM5 hR5 hwA hxR HBr HFD HKP HR HZr
   go_loopw [6] (fun i wr=>∃ (k:Nat) (v2:Value) (xr:List Value),i=.int .i64 k∧k≤nb∧Below w.heap.size w wr∧M5≤wr.heap.size∧(∀ b,b < M5→b≠D→wr.heap[b]?=wA.heap[b]?)∧Fresh wr D (.cells #[.slice p1 p2 p3,.slice ra rn rcp,.slice m1 m2 m3,v2] 56)∧RowsAt M5 wr 79 84 2 v2 xr ((c.buf.take k).map (List.flatMap Kp))) (fun i _=>nb - (intOf i).toNat)
   case atStart=>exact⟨0,.slice none 0 0,[],rfl,by omega,HBA.out,by have:=HM5.out;omega,fun _ _ _=>rfl,HFDA.out,RowsAt.nil _ _ _ _ _⟩
   case round =>
    obtain⟨k,v2,xr,rfl,hk,hb,hz,hkp,hfd,hR⟩:=hrel
    have hcell:=(hkp w.heap.size (by have:=HD.out;have:=HDM.out;have:=HMMM5.out;omega) (by have:=HD.out;omega)).trans FC5.out
    have hcell:Fresh wr w.heap.size (.cells #[.slice a1 np c1,.slice a2 nr c2,.slice a3 nm c3,.slice a4 nb c4] 56):=hcell
    have zc:=(hcell.open (k:=3) rfl).1
    have HBr:=Lib.hid hb;have HKP:=Lib.hid hkp;have HFD:=Lib.hid hfd;have HR:=Lib.hid hR;have HZr:=Lib.hid hz
    clear hb hkp hfd hR hcell
    by_cases hlt:k < nb
    ·have hkl:k < c.buf.length:=by have:=N4.out;omega
     obtain⟨b,o,vr,rfl,x1,sr⟩:=H4.out k hkl
     have y1:=cell_later HBr.out x1
     have SRR:=Lib.hid (A7y (sr.mono (A02) HBr.out))
     have HL:=Lib.hid (L6.out _ hkl)
     obtain⟨vra,vrc,rfl,_⟩:=Uy sr
     clear x1 sr
     have hrl:c.buf[k].length≤300:=Nat.le_trans HL.out (by decide)
     go_wp2_with (at_builtin;refine I5 rfl _ _ 79 rfl wr.heap.size 84 e0 _ 2 16 Try.underlying79 ei ei0 ei1 ei2 rfl (by decide) _ 0 [] rfl (World.ownsRow_nil _ _ _ _) _ _ _ rfl SRR.out (A51 _) ?a1 ?a2 ?a3 ?_)
     case a1=>unfold maxLen;omega
     case a2=>omega
     case a3=>exact Nat.le_refl _
     intro r w5 hown hg
     try rw[Nat.zero_add,List.nil_append] at hown
     have hb5:Below wr.heap.size wr w5:=Below.grown (Below.refl _ _) hg (Nat.le_refl _) (by simp[Value.ownBlock])
     obtain⟨xa,xn,xc,rfl⟩:=Ir hown
     have fd5:=HFD.out.later hb5
     have yd:=fd5.open (k:=3) rfl
     obtain⟨yd,yd'⟩:=yd
     have hlk:((c.buf.take k).map (List.flatMap Kp)).length=k:=by rw[A4,List.length_take];omega
     have howO:=Cx (Cx HR.out.own hb5) ((Below.refl _ _).alloc (Nat.le_refl _) (.cells #[.slice xa xn xc] 79))
     rw[hlk] at howO
     have hsz5:(w5.alloc (.cells #[.slice xa xn xc] 79)).heap.size=w5.heap.size+1:=World.size_alloc _ _
     have HO:=Lib.hid howO;have HOX:=Lib.hid hown;have HB5:=Lib.hid hb5;have HLK:=Lib.hid hlk;have HG:=Lib.hid hg;have FD5:=Lib.hid fd5;have HSZ5:=Lib.hid hsz5
     have hz5:=hb5.size
     clear howO hown hb5 hlk hg fd5 hsz5 y1 zc
     go_wp2_with (at_builtin;refine wpList_append_lies _ rfl _ _ 54 rfl M5 79 k0 _ 1 24 Try.underlying54 ki ki0 ki1 ki2 rfl (by decide) _ k xr rfl HO.out _ 1 1 [.slice xa xn xc] rfl rfl (World.news_of_block (heap_alloc_new w5 _)) (by intro u hu;simp at hu;subst hu;rfl) (by decide) ?a1 ?a2 ?a3 _ rfl ?_)
     case a1=>unfold maxLen;omega
     case a2=>omega
     case a3=>rw[HSZ5.out];omega
     intro g cp w6 hw6 hgr hlc hlt6
     have hp:=RowsAt.push (x:=.slice xa xn xc) HR.out HZr.out (HB5.out.trans ((Below.refl _ _).alloc hz5 (.cells #[.slice xa xn xc] 79))) (Cx HOX.out ((Below.refl _ _).alloc (Nat.le_refl _) _)) (by rw[HLK.out];exact hw6) hgr (by rw[HSZ5.out];exact hlc) rfl
     obtain⟨s1,s2,s3⟩:=A2e HZr.out HG.out hgr fun q hq=>(Be HR.out.own hq).1
     have fd6:=Fresh.open (k:=3) (show Fresh w6 D (.cells #[.slice p1 p2 p3,.slice ra rn rcp,.slice m1 m2 m3,v2] 56) from(s2 D (by have:=HDM.out;have:=HMMM5.out;omega)).trans HFD.out) rfl
     have HFD6:=Lib.hid (show Fresh w6 D (.cells #[.slice p1 p2 p3,.slice ra rn rcp,.slice m1 m2 m3,v2] 56) from(s2 D (by have:=HDM.out;have:=HMMM5.out;omega)).trans HFD.out)
     obtain⟨y6,y6'⟩:=fd6
     have HP:=Lib.hid hp;have HS2:=Lib.hid s2;have HS3:=Lib.hid (s3 w w.heap.size (by have:=HD.out;have:=HDM.out;have:=HMMM5.out;omega) HBr.out)
     clear hp s2 s3 hgr hlc hlt6 hw6 yd yd'
     go_wp2_with fail
     go_round
     case rel =>
      refine⟨k+1,.slice (some ⟨g,0,none⟩) (k+1) cp,xr++[.slice xa xn xc],by go_num,by omega,HS3.out.setCell (p:=⟨D,3,none⟩) (by show w.heap.size≤D;have:=HD.out;omega) _,by rw[World.size_setCell];exact s1,fun b h1 h2=>?_,HFD6.out.put (k:=3) _,?_⟩
      ·exact(Below.heap_setCell w6 ⟨D,3,none⟩ _ b h2).trans ((HS2.out b h1).trans (HKP.out b h1 h2))
      ·have:=HP.out.keeps (Oi HFD6.out (.slice (some ⟨g,0,none⟩) (k+1) cp) (k:=3)) (by decide) (by decide)
       rw[List.take_add_one,A5 hkl,Option.toList_some,List.map_append]
       exact this
     case measure=>simp[intOf];omega
    ·have hkn:nb=k:=by omega
     subst hkn
     obtain⟨ba,bn,bc,hbf⟩:=Ir HR.out.own
     subst hbf
     have hR6:=HR.out
     rw[List.take_of_length_le (by rw[N4.out];exact Nat.le_refl _)] at hR6
     have HRB:=Lib.hid hR6
     have fr6:Fresh wr (w.heap.size+1) (.cells #[.slice none 0 0,.slice none 0 0,.slice none 0 0,.slice none 0 0] 56):=(HKP.out (w.heap.size+1) (by have:=HD.out;have:=HDM.out;have:=HMMM5.out;omega) (by have:=HD.out;omega)).trans ((HKPA.out (w.heap.size+1) (by have:=HD.out;have:=HDM.out;omega) (by have:=HD.out;omega)).trans FR4.out)
     have FR6:=Lib.hid fr6
     have g0:=(HFD.out.open (k:=0) rfl).1;have g1:=(HFD.out.open (k:=1) rfl).1;have g2:=(HFD.out.open (k:=2) rfl).1;have g3:=(HFD.out.open (k:=3) rfl).1
     obtain⟨h0,h0'⟩:=fr6.open (k:=0) rfl;obtain⟨h1,h1'⟩:=fr6.open (k:=1) rfl;obtain⟨h2,h2'⟩:=fr6.open (k:=2) rfl;obtain⟨h3,h3'⟩:=fr6.open (k:=3) rfl
     clear hR6 fr6 HR
     go_wp2_with fail
     clear zc hlt
     obtain⟨w9,hw9⟩:∃ w9,(((wr.setCell ⟨w.heap.size+1,0,none⟩ (.slice p1 p2 p3)).setCell ⟨w.heap.size+1,1,none⟩ (.slice ra rn rcp)).setCell ⟨w.heap.size+1,2,none⟩ (.slice m1 m2 m3)).setCell ⟨w.heap.size+1,3,none⟩ (.slice ba bn bc)=w9:=⟨_,rfl⟩
     have hG:w9.heap[w.heap.size+1]?=some (.cells #[.slice p1 p2 p3,.slice ra rn rcp,.slice m1 m2 m3,.slice ba bn bc] 56 (0,0)):=by
      have h:=FR6.out
      unfold Fresh at h
      rw[← hw9]
      simp[World.setCell,Array.getElem?_modify,h]
     have hS9:∀ b,b≠w.heap.size+1→w9.heap[b]?=wr.heap[b]?:=fun b hb=>by
      rw[← hw9]
      exact(Below.heap_setCell _ ⟨w.heap.size+1,3,none⟩ _ b hb).trans ((Below.heap_setCell _ ⟨w.heap.size+1,2,none⟩ _ b hb).trans ((Below.heap_setCell _ ⟨w.heap.size+1,1,none⟩ _ b hb).trans (Below.heap_setCell _ ⟨w.heap.size+1,0,none⟩ _ b hb)))
     have hB9:Below w.heap.size w w9:=by
      rw[← hw9]
      exact(((HBr.out.setCell (p:=⟨w.heap.size+1,0,none⟩) (by show _≤w.heap.size+1;omega) _).setCell (p:=⟨w.heap.size+1,1,none⟩) (by show _≤w.heap.size+1;omega) _).setCell (p:=⟨w.heap.size+1,2,none⟩) (by show _≤w.heap.size+1;omega) _).setCell (p:=⟨w.heap.size+1,3,none⟩) (by show _≤w.heap.size+1;omega) _
     rw[hw9]
     have hl1:=HD.out;have hl2:=HDM.out;have hl3:=HMMM5.out;have hl4:=HSZ.out
     have hold:∀ b,W.heap.size≤b→b < w4.heap.size→w9.heap[b]?=w4.heap[b]?:=fun b q1 q2=>by
      have:=HM.out
      exact(hS9 b (by omega)).trans ((HKP.out b (by omega) (by omega)).trans (HKPA.out b (by omega) (by omega)))
     have q1:=Te HO1.out (show w.heap.size≤_ by omega) hold
     have q3:=Te HO3.out (show w.heap.size≤_ by omega) hold
     have q2:=HRA.out.same (show w.heap.size≤_ by omega) fun b h1 h2=>by
      have:=HM5.out
      exact(hS9 b (by omega)).trans (HKP.out b (by omega) (by omega))
     have q4:=HRB.out.same (show w.heap.size≤_ by omega) fun b h1 h2=>hS9 b (by omega)
     have hpr:∀ (i:Nat) x b,xR[i]?=some x→x.ownBlock=some b→(Value.slice p1 p2 p3).ownBlock≠some b∧(Value.slice m1 m2 m3).ownBlock≠some b:=fun i x b h1 h2=>by
      have h3:=(HRA.out.lt h1 h2).1
      have:=HM.out
      exact⟨fun e=>by have:=(Be HO1.out e).2;omega,fun e=>by have:=(Be HO3.out e).2;omega⟩
     refine bodyPost_ret (results_cell_row rfl _ _ (w.heap.size+1) 56 #[.slice p1 p2 p3,.slice ra rn rcp,.slice m1 m2 m3,.slice ba bn bc] (0,0) _ rfl hG Try.underlying56 rfl (by kernel_rfl)) rfl ?_
     exact⟨hB9,_,_,_,_,xR,xr,rfl,⟨⟨by rw[N1.out];exact q1,q2,by rw[N3.out];exact q3,q4⟩,HPM.out,hpr⟩⟩
theorem Ad4 {w:World} {B:Nat} {e:TypeId} {size n:Nat} {v:Value} {xs:List Value} (h:w.ownsRow B e size v n xs) (h0:0 < n):∃ g cap cs,v=.slice (some ⟨g,0,none⟩) n cap∧B≤g∧w.heap[g]?=some (.cells cs e (0,0))∧n≤cap∧cap≤maxLen∧cs.size=cap*size∧cs.toList.take (n*size)=xs:=by
 rcases h.2 with ⟨_,rfl⟩ | h
 ·omega
 ·exact h
theorem Aeu {w:World} {B:Nat} {e:TypeId} {size n:Nat} {v:Value} {xs:List Value} (h:w.ownsRow B e size v n xs) {g:Nat} (hg:v.ownBlock=some g) {k:Nat} (hk:k < n*size) (x:Value):(w.setCell ⟨g,k,none⟩ x).ownsRow B e size v n (xs.set k x):=by
 refine⟨by rw[List.length_set];exact h.1,.inr ?_⟩
 rcases h.2 with ⟨rfl,_⟩ | ⟨g',cap,cs,rfl,h1,h2,h3,h4,h5,h6⟩
 ·cases hg
 ·obtain rfl:g'=g:=by simpa [Value.ownBlock] using hg
  refine⟨g',cap,cs.setIfInBounds k x,rfl,h1,by simp[World.setCell,Array.getElem?_modify,h2],h3,h4,by simp[h5],?_⟩
  rw[← h6]
  simp only[Array.toList_setIfInBounds]
  rw[List.take_set]
theorem RowsAt.put {B:Nat} {w w2:World} {eT e:TypeId} {size:Nat} {v:Value} {vals:List Value} {rows:List (List Value)} (h:RowsAt B w eT e size v vals rows) (hne:e≠eT) {k:Nat} {x y:Value} {r:List Value} {m:Nat} (hx:vals[k]?=some x) (hk:Rg e w w2)
 (hoth:∀ b,b < w.heap.size→x.ownBlock≠some b→w2.heap[b]?=w.heap[b]?) (hy:w2.ownsRow B e size y m r) (hnew:∀ b,y.ownBlock=some b→x.ownBlock=some b∨w.heap.size≤b) {g:Nat} (hg:v.ownBlock=some g) :
 RowsAt B (w2.setCell ⟨g,k,none⟩ y) eT e size v (vals.set k y) (rows.set k r):=by
 have hkv:k < vals.length:=(List.getElem?_eq_some_iff.1 hx).1
 have hkr:k < rows.length:=by rw[← h.len];exact hkv
 obtain⟨mx,hmx⟩:=h.row k x _ hx (A5 hkr)
 have ho2:=Hy h.own hk (Ne.symm hne)
 obtain⟨g',cap,cs,hv,_,hgg,_⟩:=Ad4 ho2 (by omega:0 < rows.length)
 obtain rfl:g'=g:=by rw[hv] at hg;simpa [Value.ownBlock] using hg
 have hks:Rg eT w2 (w2.setCell ⟨g',k,none⟩ y):=Oi hgg y
 have hgy:y.ownBlock≠some g':=fun e1=>by
  rcases hnew g' e1 with h1 | h1
  ·exact h.apart k x g' hx h1 hg
  ·have:=(Be h.own hg).2;omega
 have key:∀ (i:Nat) (z:Value),(vals.set k y)[i]?=some z→(i=k∧z=y)∨(i≠k∧vals[i]?=some z):=fun i z hz=>by
  rw[List.getElem?_set] at hz
  split at hz
  ·rename_i hki
   subst hki
   (try rw[if_pos hkv] at hz)
   exact .inl ⟨rfl,(Option.some.inj hz).symm⟩
  ·rename_i hki
   exact .inr ⟨fun h=>hki h.symm,hz⟩
 refine⟨by rw[List.length_set,List.length_set];exact h.len,?_,fun i z r' hz hr'=>?_,fun i z b hz hb=>?_,fun i j z z' b hz hz' hb hb'=>?_⟩
 ·have:=Aeu ho2 hg (k:=k) (by omega) y
  rwa [List.length_set]
 ·rcases key i z hz with ⟨rfl,rfl⟩ | ⟨hik,hz⟩
  ·obtain rfl:r=r':=by rw[List.getElem?_set_self hkr] at hr';exact Option.some.inj hr'
   exact⟨m,Hy hy hks hne⟩
  ·rw[List.getElem?_set_ne (Ne.symm hik)] at hr'
   obtain⟨m',hm'⟩:=h.row i z r' hz hr'
   refine⟨m',Hy (Gr hm' fun b hb=>⟨(Be hm' hb).1,hoth b (Be hm' hb).2 fun e1=>hik (h.dist i k z x b hz hx hb e1)⟩) hks hne⟩
 ·rcases key i z hz with ⟨rfl,rfl⟩ | ⟨hik,hz⟩
  ·intro e1
   rw[hg] at e1
   cases e1
   exact hgy hb
  ·exact h.apart i z b hz hb
 ·rcases key i z hz with ⟨rfl,rfl⟩ | ⟨hik,hz2⟩<;>rcases key j z' hz' with ⟨rfl,rfl⟩ | ⟨hjk,hz2'⟩
  ·rfl
  ·rcases hnew b hb with h1 | h1
   ·exact absurd (h.dist j _ z' x b hz2' hx hb' h1) hjk
   ·have:=(h.lt hz2' hb').2;omega
  ·rcases hnew b hb' with h1 | h1
   ·exact absurd (h.dist i _ z x b hz2 hx hb h1) hik
   ·have:=(h.lt hz2 hb).2;omega
  ·exact h.dist i j z z' b hz2 hz2' hb hb'
theorem Vr {α:Type} {S:Nat→Nat→Prop} {w:World} {f:α→List AV} {g:α→List Value}:∀ (l:List α),(∀ x ∈ l,Reps S w [] [] (f x) (g x)∧De (g x))→Repss S w (l.map f) (l.map g)
 | [],_=>.nil
 | x :: l,h=>.cons _ _ _ _ (h x List.mem_cons_self).1 (h x List.mem_cons_self).2 (Vr l fun y hy=>h y (List.mem_cons_of_mem _ hy))
theorem A2r {α:Type} {S:Nat→Nat→Prop} {w:World} {f:α→AV}:∀ (l:List α) (vals:List Value),vals.length=l.length→(∀ (i:Nat) x v,l[i]?=some x→vals[i]?=some v→Rep S w [] [] (f x) v∧v.oneCell'=true)→Repss S w (l.map fun x=>[f x]) (vals.map fun v=>[v])
 | [],[],_,_=>.nil
 | x :: l,v :: vals,hl,h=>.cons _ _ _ _ (.cons _ _ _ _ _ _ (h 0 x v rfl rfl).1 (.nil _ _)) (fun u hu=>by rw[List.mem_singleton] at hu;rw[hu];exact(h 0 x v rfl rfl).2) (A2r l vals (by simpa using hl) fun i x v h1 h2=>h (i+1) x v (by simpa using h1) (by simpa using h2))
 | [],_ :: _,hl,_=>by simp at hl
 | _ :: _,[],hl,_=>by simp at hl
abbrev okI (x:Int):Prop:=(Lit.int .i64 x).wf=true
structure WfC (c:A8):Prop where
 pc:∀ x ∈ c.pc,okI x
 regs:∀ r ∈ c.regs,∀ x ∈ r,okI x
 mem:∀ x ∈ c.mem,okI x
 buf:∀ b ∈ c.buf,∀ x ∈ b,okI x.loc∧okI x.n
theorem A16 {w:World} {v:Value} {l:List Int} (h:Sl rI w v l):∀ x ∈ l,okI x:=by
 intro x hx
 obtain⟨i,hi,rfl⟩:=List.getElem_of_mem hx
 obtain⟨a,cap,_,h1⟩:=C6 h
 obtain⟨_,_,_,_,b1,b2⟩:=h1 i hi
 unfold okI
 rw[Lit.wf,A6]
 exact⟨decide_eq_true b1,decide_eq_true b2⟩
theorem Ai8 {w:World} {v:Value} {l:List A2} (h:Sl O6 w v l):∀ x ∈ l,okI x.loc∧okI x.n:=by
 intro x hx
 obtain⟨i,hi,rfl⟩:=List.getElem_of_mem hx
 obtain⟨a,cap,_,h1⟩:=Uy h
 obtain⟨_,_,_,_,_,b1,b2⟩:=h1 i hi
 unfold okI
 rw[Lit.wf,A6,Lit.wf,A6]
 exact⟨⟨decide_eq_true b1.1,decide_eq_true b1.2⟩,decide_eq_true b2.1,decide_eq_true b2.2⟩
theorem ConfV.wf {w:World} {v:Value} {c:A8} (h:ConfV w v c):WfC c:=by
 obtain⟨_,_,_,_,_,s1,s2,s3,s4⟩:=h
 refine⟨A16 s1,fun r hr=>?_,A16 s3,fun b hb=>?_⟩
 ·obtain⟨i,hi,rfl⟩:=List.getElem_of_mem hr
  obtain⟨a,cap,_,h1⟩:=Eh s2
  obtain⟨_,_,u,_,_,hu⟩:=h1 i hi
  exact A16 hu
 ·obtain⟨i,hi,rfl⟩:=List.getElem_of_mem hb
  obtain⟨a,cap,_,h1⟩:=Eh s4
  obtain⟨_,_,u,_,_,hu⟩:=h1 i hi
  exact Ai8 hu
theorem Jo {w:World} {B:Nat} {e:TypeId} {size n:Nat} {v:Value} {xs:List Value} (h:w.ownsRow B e size v n xs):v.oneCell'=true:=by
 obtain⟨a,m,c,rfl⟩:=Ir h
 rfl
theorem Ip {w:World} {B:Nat} {e:TypeId} {size n:Nat} {v:Value} {xs:List Value} (h:w.ownsRow B e size v n xs) {g:Nat} (hg:v.ownBlock=some g):B≤g∧∃ cs,w.heap[g]?=some (.cells cs e (0,0)):=by
 rcases h.2 with ⟨rfl,_⟩ | ⟨g',cap,cs,rfl,h1,h2,_⟩
 ·cases hg
 ·obtain rfl:g'=g:=by simpa [Value.ownBlock] using hg
  exact⟨h1,cs,h2⟩
theorem Fresh.new (w:World) (o:Obj):Fresh (w.alloc o) w.heap.size o:=heap_alloc_new w o
theorem Fresh.setCell {w:World} {b:Nat} {o:Obj} (h:Fresh w b o) {p:Addr} (hp:p.block≠b) (v:Value):Fresh (w.setCell p v) b o:=(Below.heap_setCell w p v b (Ne.symm hp)).trans h
section
variable {S:Nat→Nat→Prop} {W:World}
end
theorem Blk.put {w:World} {g:Nat} {u:Value} (h:Blk w g u) (v:Value):Blk (w.setCell ⟨g,0,none⟩ v) g v:=by
 obtain⟨ex,E,h⟩:=h
 refine⟨ex,E,?_⟩
 simp[World.setCell,Array.getElem?_modify,h]
theorem Blk.stays {w:World} {g:Nat} {u:Value} (h:Blk w g u) {o:Nat} (ho:o < 1):∃ v,stay w g o=some v∧v.2.2=(0,0):=by
 obtain⟨ex,E,h⟩:=h
 obtain rfl:o=0:=by omega
 exact⟨(u,none,(0,0)),Jc h (by simp[World.cell?,h]),rfl⟩
theorem Fresh.stays {w:World} {g:Nat} {cs:Array Value} {E:TypeId} (h:Fresh w g (.cells cs E)) {o:Nat} (ho:o < cs.size):∃ v,stay w g o=some v∧v.2.2=(0,0) :=
 ⟨(cs[o],none,(0,0)),Jc h (by unfold Fresh at h;simp[World.cell?,h,ho]),rfl⟩
abbrev z0:Value:=.slice none 0 0
abbrev Akb (r:Int):List Value:=List.replicate r.toNat (.int .i64 0)
structure StI (w w1:World) (C:Nat) (u:Ac) (wr:World) (vp vr vb:Value) (xr:List Value) (np nr nb:Nat):Prop where
 fc:Fresh wr C (.cells #[vp,vr,z0,vb] 56)
 bel:Below w.heap.size w wr
 low:∀ b,b < C→wr.heap[b]?=w1.heap[b]?
 wC:w.heap.size≤C
 pc:wr.ownsRow (C+1) 3 1 vp np (List.replicate np (.int .i64 0))
 regs:RowsAt (C+1) wr 22 3 1 vr xr ((u.regs.take nr).map Akb)
 buf:wr.ownsRow (C+1) 79 1 vb nb (List.replicate nb z0)
 cross:∀ (i:Nat) x b,xr[i]?=some x→x.ownBlock=some b→vp.ownBlock≠some b
theorem StI.sz {w w1:World} {C:Nat} {u:Ac} {wr:World} {vp vr vb:Value} {xr:List Value} {np nr nb:Nat} (h:StI w w1 C u wr vp vr vb xr np nr nb):C < wr.heap.size:=by
 have:=h.fc
 unfold Fresh at this
 exact(Array.getElem?_eq_some_iff.1 this).1
theorem StI.later {w w1:World} {C:Nat} {u:Ac} {wr wA:World} {vp vr vb:Value} {xr:List Value} {np nr nb:Nat} (h:StI w w1 C u wr vp vr vb xr np nr nb) (hA:Below wr.heap.size wr wA):StI w w1 C u wA vp vr vb xr np nr nb :=
 ⟨h.fc.later hA,h.bel.trans (hA.mono h.bel.size),fun b hb=>(hA.block b (by have:=h.sz;omega)).trans (h.low b hb),h.wC,Cx h.pc hA,h.regs.below hA,Cx h.buf hA,h.cross⟩
section
variable {w w1:World} {C:Nat} {u:Ac} {wA wB:World} {vp vr vb:Value} {xr:List Value} {np nr nb:Nat}
end
structure StD (w w1:World) (B D:Nat) (wr:World) (c:A8) (vp vr vm vb:Value) (xr xb:List Value):Prop where
 fd:Fresh wr D (.cells #[vp,vr,vm,vb] 56)
 bel:Below w.heap.size w wr
 low:∀ b,b < B→wr.heap[b]?=w1.heap[b]?
 wB:w.heap.size≤B
 own:A0x B wr c vp vr vm vb xr xb
section
variable {w w1:World} {B D:Nat} {wr:World} {c:A8} {vp vr vm vb:Value} {xr xb:List Value}
theorem StD.later {wA:World} (h:StD w w1 B D wr c vp vr vm vb xr xb) (hB:B≤wr.heap.size) (hA:Below wr.heap.size wr wA):StD w w1 B D wA c vp vr vm vb xr xb :=
 ⟨h.fd.later hA,h.bel.trans (hA.mono h.bel.size),fun b hb=>(hA.block b (by omega)).trans (h.low b hb),h.wB,⟨⟨Cx h.own.pc hA,h.own.regs.below hA,Cx h.own.mem hA,h.own.buf.below hA⟩,h.own.pm,h.own.pr⟩⟩
end
end Go.Proofs.Ytpknphnaegfghaa
end
end
section
namespace Go.Proofs.Ytpknphnaegfghaa
open Go.RowKit
set_option linter.unusedVariables false
set_option linter.unusedSimpArgs false
def SX (S:Nat→Nat→Prop) (w2:World) (base:Nat) (L:List Nat):Nat→Nat→Prop:=fun b o=>S b o∨(base≤b∧b ∉ L∧∃ v,stay w2 b o=some v∧v.2.2=(0,0))
theorem Adu {P:Program} {S:Nat→Nat→Prop} {w w2:World} (hS:∀ b o,S b o→∃ u,stay w b o=some u) (hb:Below w.heap.size w w2) (L:List Nat):Sim P w.heap.size (SX S w2 w.heap.size L) w2 [] []:=by
 obtain⟨k1,k2⟩:=M7 hS hb
 refine⟨rfl,hb.size,fun b o h=>?_,fun id o ho=>by simp at ho,fun i j b hi=>by simp[A7] at hi⟩
 rcases h with h | ⟨_,_,v,h1,h2⟩
 ·exact k2 b o h
 ·exact⟨v,h1,fun _=>h2⟩
theorem Vi {S:Nat→Nat→Prop} {w w2:World} (hS:∀ b o,S b o→∃ u,stay w b o=some u) (hb:Below w.heap.size w w2) (L:List Nat):SExt S w (SX S w2 w.heap.size L) w2:=fun b o h=>⟨.inl h,((M7 hS hb).1 b o h).2⟩
theorem Adm {S:Nat→Nat→Prop} {w w2:World} (hS:∀ b o,S b o→∃ u,stay w b o=some u) {L:List Nat} {b:Nat} (hb:w.heap.size≤b) (hL:b ∈ L) (o:Nat):¬ SX S w2 w.heap.size L b o:=by
 rintro (h | ⟨_,h,_⟩)
 ·obtain⟨v,hv⟩:=hS b o h
  have:=Gv hv
  omega
 ·exact h hL
theorem Wc {S:Nat→Nat→Prop} {w2:World} {base:Nat} {L:List Nat} {b:Nat} {cs:Array Value} {E:TypeId} (hb:base≤b) (hL:b ∉ L) (hh:w2.heap[b]?=some (.cells cs E (0,0))) {o:Nat} (ho:o < cs.size):SX S w2 base L b o :=
 .inr ⟨hb,hL,(cs[o],none,(0,0)),Jc hh (by simp[World.cell?,hh,ho]),rfl⟩
theorem T9 {S:Nat→Nat→Prop} {w:World} {B:Nat} {e:TypeId} {size:Nat} {v:Value} {els:List (List AV)} {vss:List (List Value)} (h:w.ownsRow B e size v vss.length vss.flatten) (hr:Repss S w els vss) (hl:∀ vs ∈ vss,vs.length=size)
 (hS:∀ g cs o,v.ownBlock=some g→B≤g→w.heap[g]?=some (.cells cs e (0,0))→o < cs.size→S g o):Rep S w [] [] (.sl size els) v:=by
 have hlen:=hr.length
 rcases Iu h with ⟨rfl,h0⟩ | ⟨g,cap,ex,rfl,hg,hh,hc,hm,hsz⟩
 ·have:vss=[]:=List.eq_nil_of_length_eq_zero h0
  subst this
  have:els=[]:=List.eq_nil_of_length_eq_zero (by simpa using hlen)
  subst this
  exact Rep.sl [] [] size [] [] none 0 .nil ⟨by simp,fun j vs t x h2 h3=>by simp at h2⟩ ⟨Nat.le_refl _,by decide,fun _=>rfl⟩
 ·have:=Rep.sl (S:=S) (w:=w) [] [] size els vss (some ⟨g,0,none⟩) cap hr ⟨hl,fun j vs t u h2 h3=>?_⟩ ⟨by rw[hlen];exact hc,hm,fun h=>by cases h⟩
  ·rw[hlen] at this;exact this
  ·have ht:t < size:=by
    have:=(List.getElem?_eq_some_iff.1 h3).1
    rw[hl vs (List.mem_of_getElem? h2)] at this
    exact this
   have e1:=Dx hl h2 ht
   rw[h3] at e1
   have hlt:=(List.getElem?_eq_some_iff.1 e1).1
   refine⟨g,0,rfl,hS g _ _ rfl hg hh (by simp;simp at hlt;omega),?_⟩
   rw[show 0+j*size+t=j*size+t by omega]
   simp only[World.cell?,hh]
   have:(vss.flatten++ex)[j*size+t]?=some u:=by rw[List.getElem?_append_left hlt];exact e1
   simpa using this
theorem Mb {S:Nat→Nat→Prop} {w:World} {hp:Hp} {φ:List Pl}:∀ (l:List Int),(∀ y ∈ l,okI y)→Reps S w hp φ (l.map (AV.int .i64)) (l.map (Value.int .i64))
 | [],_=>.nil _ _
 | x :: l,h=>.cons _ _ _ _ _ _ (.int _ _ _ _ (h x List.mem_cons_self)) (Mb l fun y hy=>h y (List.mem_cons_of_mem _ hy))
theorem V5 {S:Nat→Nat→Prop} {w:World} {B n:Nat} {l:List Int} {x:Value} (hl:∀ y ∈ l,okI y) (ho:w.ownsRow B 3 1 x n (l.map (Value.int .i64))) (hS:∀ g cs o,x.ownBlock=some g→B≤g→w.heap[g]?=some (.cells cs 3 (0,0))→o < cs.size→S g o):Rep S w [] [] (aIs l) x:=by
 obtain rfl:=Ya ho (by decide) (k:=l.length) (by simp)
 refine T9 (vss:=l.map fun y=>[Value.int .i64 y]) (e:=3) (B:=B) ?_ (Vr (f:=A0) l fun y hy=>⟨.cons _ _ _ _ _ _ (.int _ _ _ _ (hl y hy)) (.nil _ _),by intro u hu;simp at hu;subst hu;rfl⟩) (by intro vs hv;simp at hv;obtain⟨y,_,rfl⟩:=hv;rfl) hS
 rw[A4,← List.flatMap_def,A4p]
 exact ho
theorem A23 {S:Nat→Nat→Prop} {w:World} {B n:Nat} {l:List A2} {x:Value} (hl:∀ y ∈ l,okI y.loc∧okI y.n) (ho:w.ownsRow B 84 2 x n (l.flatMap Kp)) (hS:∀ g cs o,x.ownBlock=some g→B≤g→w.heap[g]?=some (.cells cs 84 (0,0))→o < cs.size→S g o):Rep S w [] [] (aEs l) x:=by
 obtain rfl:=Ya ho (by decide) (k:=l.length) (Rn Kp 2 Tk l)
 refine T9 (vss:=l.map Kp) (e:=84) (B:=B) ?_ (Vr (f:=Ak) l fun y hy=>⟨.cons _ _ _ _ _ _ (.int _ _ _ _ (hl y hy).1) (.cons _ _ _ _ _ _ (.int _ _ _ _ (hl y hy).2) (.nil _ _)),by intro u hu;simp[Kp] at hu;rcases hu with rfl | rfl<;>rfl⟩) (by intro vs hv;simp at hv;obtain⟨y,_,rfl⟩:=hv;rfl) hS
 rw[A4,← List.flatMap_def]
 exact ho
theorem V0 {α:Type} {S:Nat→Nat→Prop} {w:World} {hp:Hp} {φ:List Pl} {f:α→AV}:∀ (l:List α) (vals:List Value),vals.length=l.length→(∀ (i:Nat) x v,l[i]?=some x→vals[i]?=some v→Rep S w hp φ (f x) v)→Reps S w hp φ (l.map f) vals
 | [],[],_,_=>.nil _ _
 | x :: l,v :: vals,hl,h=>.cons _ _ _ _ _ _ (h 0 x v rfl rfl) (V0 l vals (by simpa using hl) fun i x v h1 h2=>h (i+1) x v (by simpa using h1) (by simpa using h2))
 | [],_ :: _,hl,_=>by simp at hl
 | _ :: _,[],hl,_=>by simp at hl
theorem Or {w:World} {B n m cap g:Nat} {e:TypeId} {xs:List Value} (h:w.ownsRow B e 1 (.slice (some ⟨g,0,none⟩) m cap) n xs):∃ ex,w.heap[g]?=some (.cells (xs++ex).toArray e (0,0))∧B≤g∧n≤cap∧cap≤maxLen:=by
 rcases Iu h with ⟨h1,_⟩ | ⟨g',cap',ex,e1,hg,hh,hc,hm,_⟩
 ·cases h1
 ·obtain⟨e2,_,rfl⟩:=Value.slice.inj e1
  cases e2
  exact⟨ex,hh,hg,hc,hm⟩
structure Jp where
 Sv:Ac
 Sw:Int
 W1:Int
 Lo:Int
 deriving DecidableEq
def A4v (x:Jp):List AV:=[AV.int .i64 (x.Sv.mod),AV.sl 1 (List.map A0 (x.Sv.init)),AV.sl 1 (List.map A0 (x.Sv.regs)),AV.sl 1 (List.map Aa (x.Sv.code)),AV.int .i64 (x.Sw),AV.int .i64 (x.W1),AV.int .i64 (x.Lo)]
structure C3 where
 Im:(List Int)
 E8:(List Int)
 Hh:(List Int)
 deriving DecidableEq,Inhabited
structure Bz where
 Da:(List A8)
 Mx:C3
 Nq:(List Int)
 A1t:(List Int)
 deriving DecidableEq,Inhabited
structure Bf where
 Qp:Int
 E8:Int
 Hh:Int
 deriving DecidableEq,Inhabited
def Dt (x:Bf):List AV:=[AV.int .i64 (x.Qp),AV.int .i64 (x.E8),AV.int .i64 (x.Hh)]
theorem ls:(∀ {α β:Type} {f:α→β} {l:List α},(l.map f).length=l.length)∧(∀ {α β:Type} (f:α→β) (l:List α),List.take l.length (List.map f l)=List.map f l)∧Program.cellsOf Try.prog 79=1∧Program.cellsOf Try.prog 41=1∧Program.cellsOf Try.prog 22=1∧Program.cellsOf Try.prog 56=4∧Program.cellsOf Try.prog 65=3∧Program.cellsOf Try.prog 84=2∧Program.cellsOf Try.prog 44=7∧Program.cellsOf Try.prog 106=3∧Program.cellsOf Try.prog 3=1 :=
 ⟨List.length_map ..,Bc,by kernel_rfl,by kernel_rfl,by kernel_rfl,by kernel_rfl,by kernel_rfl,by kernel_rfl,by kernel_rfl,by kernel_rfl,by kernel_rfl⟩
theorem lt:(∀ {α β:Type} (f:α→β) (l:List α),List.take l.length (List.map f l)=List.map f l)∧Program.cellsOf Try.prog 79=1∧Program.cellsOf Try.prog 41=1∧Program.cellsOf Try.prog 22=1∧Program.cellsOf Try.prog 56=4∧Program.cellsOf Try.prog 65=3∧Program.cellsOf Try.prog 84=2∧Program.cellsOf Try.prog 44=7∧Program.cellsOf Try.prog 106=3∧Program.cellsOf Try.prog 3=1 :=
 ls.2
theorem cq {ρ:Type} {cont:Tm→Hp→Option ρ} {tm tm':Tm} {hp hp':Hp} {r:Option ρ} (h:cont tm' hp'=r) (h1:tm=tm':=by first | rfl | (simp only[ls]<;>rfl) | (simp only[ls,List.map_append,List.map_cons,List.map_nil,List.append_nil,List.length_set,Ga]<;>rfl)) (h2:hp=hp':=by first | rfl | (simp only[ls]<;>rfl) | (simp only[ls,List.map_append,List.map_cons,List.map_nil,List.append_nil,List.length_set,Ga]<;>rfl)):cont tm hp=r:=Aha h h1 h2
theorem kq {ρ:Type} {K:Ex→Tm→Hp→Option ρ} {e:Ex} {tm tm':Tm} {hp hp':Hp} {r:Option ρ} (h:K e tm' hp'=r) (h1:tm=tm':=by first | rfl | (simp only[ls]<;>rfl) | (simp only[ls,List.map_append,List.map_cons,List.map_nil,List.append_nil,List.length_set,Ga]<;>rfl)) (h2:hp=hp':=by first | rfl | (simp only[ls]<;>rfl) | (simp only[ls,List.map_append,List.map_cons,List.map_nil,List.append_nil,List.length_set,Ga]<;>rfl)):K e tm hp=r:=Aii h h1 h2
theorem fq {ρ:Type} {x y z:Option ρ} (h:x=y:=by first | rfl | (simp only[Ga,List.length_set]<;>rfl) | (simp only[ls]<;>rfl) | ((conv=>lhs;arg 1;arg 1;whnf);simp only[B8];rfl) | (simp only[List.length_append,A4,List.map_append,List.map_cons,List.map_nil]<;>rfl)) (h2:y=z:=by first | rfl | (simp only[List.map_take,List.map_drop];done) | (simp only[List.map_take,List.map_drop]<;>rfl) | (simp only[ls,List.drop_zero,List.length_set,Ga]<;>rfl)):x=z:=h.trans h2
theorem c0:((0:Nat):Int)=0:=rfl
theorem rq {ρ:Type} {x z:Option ρ} (h:x=z:=by first | rfl | (simp only[ls]<;>rfl)):x=z:=h
abbrev iA (x:Int):AV:=.int .i64 x
abbrev bA (x:Bool):AV:=.bool x
theorem sj {α:Type} {a r:α} (h:some a=some r):a=r:=Option.some.inj h
theorem lq {ρ σ τ ν:Type} {body:Tm→Hp→(Ex→Tm→Hp→Option ρ)→Option ρ} {keep:Nat→List Nat} {h0:Nat} {K:Ex→Tm→Hp→Option ρ} {r:Option ρ} (id:Nat) (tmOf:σ→(Nat→Nat)→Tm) (hpOf:σ→(Nat→Nat)→Hp) (tmX:τ→(Nat→Nat)→Tm) (hpX:τ→(Nat→Nat)→Hp) (encR:ν→ρ) (L:Nat→σ→Option (LR τ ν)) (hL:∀ s,L 0 s=none) (o:LR τ ν) (n:Nat) (s:σ) (a:Nat→Nat) {tm:Tm} {hp:Hp} (h:L n s=some o)
 (hround:∀ (k:Nat) (s:σ) (a:Nat→Nat) (K':Ex→Tm→Hp→Option ρ) (cont:Tm→Hp→Option ρ),(∀ tm hp,K' .ret tm hp=K .ret tm hp)→(∀ s' a',L k s'=some o→cont (tmOf s' a') (hpOf s' a')=r)→L (k+1) s=some o→A53 K' id tmX hpX encR r o →
  Ee force (fun tm=>Bl (fun hp=>body tm hp (fun e tm hp=>Ee force (fun tm=>Bl (fun hp=>match e with
   | .normal=>cont tm hp
   | .exit id=>K' (.exit id) tm hp
   | .ret=>K' .ret tm hp) (F4 h0 hp)) (Q1 (keep (A0a e)) h0 hp 0 tm))) (hpOf s a)) (tmOf s a)=r)
 (hx:A53 K id tmX hpX encR r o)
 (h1:tm=tmOf s a:=by first | rfl | (simp only[ls]<;>rfl) | (simp only[ls,List.map_append,List.map_cons,List.map_nil,List.append_nil,List.length_set,Ga]<;>rfl)) (h2:hp=hpOf s a:=by first | rfl | (simp only[ls]<;>rfl) | (simp only[ls,List.map_append,List.map_cons,List.map_nil,List.append_nil,List.length_set,Ga]<;>rfl)):rounds body keep h0 n tm hp K=r :=
 Aa1 id tmOf hpOf tmX hpX encR L hL o hround n s a tm hp h hx h1 h2
theorem lrc {ρ τ ν:Type} {K:Ex→Tm→Hp→Option ρ} {id:Nat} {tmX:τ→(Nat→Nat)→Tm} {hpX:τ→(Nat→Nat)→Hp} {encR:ν→ρ} {r:Option ρ} {o:LR τ ν} (h1:∀ v,o=.ret v→r=some (encR v)) (h2:∀ t a,o=.out t→K (.exit id) (tmX t a) (hpX t a)=r):A53 K id tmX hpX encR r o:=by
 cases o with
 | out t=>exact fun a=>h2 t a rfl
 | ret v=>exact h1 v rfl
theorem nn {α:Type} {r:α} {P:Prop}:(none:Option α)=some r→P:=fun h=>by cases h
theorem A3p {α:Type} {c:Bool} {a:Option α} {r:α} {G:Prop} (h1:c=true→a=some r→G):(bif c then a else none)=some r→G:=fun h=>Fx h h1
theorem br {α ρ:Type} {c:Bool} {a b:Option α} {r:α} {L L1 L2 R:ρ} (k1:a=some r→L1=R) (k2:b=some r→L2=R) (w1:c=true→L=L1:=by(intro hc;simp only[hc,ls];(conv=>lhs;whnf);try exact rfl)) (w2:c=false→L=L2:=by(intro hc;simp only[hc,ls];(conv=>lhs;whnf);try exact rfl)):(bif c then a else b)=some r→L=R:=by
 cases c
 ·exact fun h=>(w2 rfl).trans (k2 h)
 ·exact fun h=>(w1 rfl).trans (k1 h)
theorem bt {α ρ:Type} {c:Bool} {a:Option α} {r:α} {L L1 R:ρ} (k1:a=some r→L1=R) (w1:c=true→L=L1:=by(intro hc;simp only[hc,ls];(conv=>lhs;whnf);try exact rfl)):(bif c then a else none)=some r→L=R:=by
 cases c
 ·exact fun h=>nn h
 ·exact fun h=>(w1 rfl).trans (k1 h)
theorem bf {α ρ:Type} {c:Bool} {b:Option α} {r:α} {L L2 R:ρ} (k2:b=some r→L2=R) (w2:c=false→L=L2:=by(intro hc;simp only[hc,ls];(conv=>lhs;whnf);try exact rfl)):(bif c then none else b)=some r→L=R:=by
 cases c
 ·exact fun h=>(w2 rfl).trans (k2 h)
 ·exact fun h=>nn h
theorem cp {α ρ:Type} {c:Bool} {a:Option α} {r:α} {L L1 R:ρ} (k1:a=some r→L1=R) (w1:c=true→∀ q,L1=q→L=q:=by(intro hc q hq;refine At hc ?_;(try simp only[ls]);(conv=>lhs;whnf);exact hq)):(bif c then a else none)=some r→L=R:=A3p fun hc h=>w1 hc _ (k1 h)
theorem cn {α ρ:Type} {c:Bool} {a:Option α} {r:α} {L L1 R:ρ} (k1:a=some r→L1=R) (w1:c=true→∀ q,L1=q→L=q:=by(intro hc q hq;refine At (Ahk hc (by simp only[A4,Bc]) (by kernel_rfl)) ?_;(try simp only[ls]);(conv=>lhs;whnf);exact hq)):(bif c then a else none)=some r→L=R:=A3p fun hc h=>w1 hc _ (k1 h)
theorem sl {α:Type} (f:α→List AV) (l:List α) (i j:Nat):List.drop i (List.take j (List.map f l))=List.map f (List.drop i (List.take j l)):=by rw[List.map_drop,List.map_take]
theorem cs {α ρ:Type} {c:Bool} {a:Option α} {r:α} {E:Prop} {L L1 R:ρ} (e:E) (k1:a=some r→L1=R) (w1:c=true→E→∀ q,L1=q→L=q:=by(intro hc he q hq;(try simp only[ls]);refine At hc ?_;simp only[he,ls];(conv=>lhs;whnf);exact hq)):(bif c then a else none)=some r→L=R:=A3p fun hc h=>w1 hc e _ (k1 h)
theorem ix {α β ρ:Type} {l:List α} {i:Int} {g:α→Option β} {r:β} {L:ρ} {L1:α→ρ} {R:ρ} (k:∀ x,g x=some r→L1 x=R) (w:∀ x,idx l i=some x→∀ q,L1 x=q→L=q:=by(intro x hx q hq;refine At (by first | exact Cz hx | exact Gt hx | (have z:=Cz hx;simp only[ls] at z ⊢;exact z)) ?_;simp only[Fm hx,ls];(conv=>lhs;whnf);exact hq)):(idx l i).bind g=some r→L=R:=fun h=>Ap h fun x hx h2=>w x hx _ (k x h2)
theorem ca {α β ρ:Type} {P:Program} {H:B9} {X:Ext} {call:B1} {n:Nat} {m:Option α} {g:α→Option β} {r:β} {f:FuncId} {a:List AV} {p:Hp} {v:α→Option (AV×Hp)} {L:ρ} {L1:α→ρ} {R:ρ} (hc:∀ g l h,call false g l h=G7 P H X n g l h) (hk:∀ y,m=some y→G7 P H X n f a p=v y) (k:∀ y,g y=some r→L1 y=R) (w:∀ y,call false f a p=v y→L=L1 y:=by(intro y hk;(first | simp only[hk] | rewrite[hk] | (simp only[ls];simp only[hk]));(conv=>lhs;whnf);try exact rfl)):m.bind g=some r→L=R:=fun h=>Ap h fun y hy h2=>(w y ((hc _ _ _).trans (hk y hy))).trans (k y h2)
theorem nb {γ α ρ:Type} {l:List γ} {a b:Option α} {r:α} {L L1 L2 R:ρ} (k1:a=some r→L1=R) (k2:b=some r→L2=R) (w1:l=[]→L=L1:=by(intro hc;simp only[hc,ls,List.map_nil];(conv=>lhs;whnf);try exact rfl)) (w2:decide (l.length=0)=false→L=L2:=by(intro hc;simp only[hc,ls];(conv=>lhs;whnf);try exact rfl)):(bif decide (l.length=0) then a else b)=some r→L=R:=by
 by_cases h:l.length=0
 ·rw[decide_eq_true h];exact fun e=>(w1 (List.eq_nil_of_length_eq_zero h)).trans (k1 e)
 ·rw[decide_eq_false h];exact fun e=>(w2 (decide_eq_false h)).trans (k2 e)
theorem cr {α β ρ:Type} {P:Program} {H:B9} {X:Ext} {call:B1} {n:Nat} {m:Option α} {g:α→Option β} {r:β} {f:FuncId} {a:List AV} {p:Hp} {v:α→Option (AV×Hp)} {L:ρ} {L1:α→ρ} {R:ρ} (hc:∀ g l h,call false g l h=G7 P H X n g l h) (hk:∀ y,m=some y→G7 P H X n f a p=v y) (k:∀ y,g y=some r→L1 y=R) (w:∀ y,call false f a p=v y→L=L1 y:=by(intro y hk;(try simp only[List.length_nil,List.map_nil] at hk);(try simp only[List.length_nil,List.map_nil]);(first | ((try simp only[ls]);simp only[hk]) | ((try simp only[List.drop_zero] at hk);(try simp only[List.drop_zero,ls]);simp only[hk]) | simp only[hk] | rewrite[hk]);(try simp only[ls]);(conv=>lhs;whnf);try exact rfl)):m.bind g=some r→L=R:=ca hc hk k w
theorem ap {α:Type} (f:α→List AV) (a:List (List AV)) (l:List α) (y:List (List AV)) (m:List α) (ha:a=List.map f l:=by rfl) (hy:y=List.map f m:=by rfl):a++y=List.map f (l++m)∧a.length+y.length=(l++m).length∧l.length+y.length=(l++m).length∧l.length+m.length=(l++m).length∧a.length+m.length=(l++m).length:=by
 subst ha;subst hy;simp
theorem ar {α ρ:Type} {c:Bool} {a:Option α} {r:α} {E:Prop} {L L1 R:ρ} (e:E) (k1:a=some r→L1=R) (w1:c=true→E→∀ q,L1=q→L=q:=by(intro hc he q hq;(first | refine At (Kb hc (by first | rfl | simp only[A4]) (by first | rfl | simp only[A4]) (by first | rfl | simp only[A4,Bc]) (by kernel_rfl)) ?_ | refine At (It hc (by first | rfl | simp only[A4]) (by first | rfl | simp only[A4,Bc]) (by kernel_rfl)) ?_ | skip);(try simp only[lt]);(try simp only[he]);(try simp only[ls,c0]);(try simp only[he]);(try simp only[ls]);(conv=>lhs;whnf);exact hq)):(bif c then a else none)=some r→L=R:=A3p fun hc h=>w1 hc e _ (k1 h)
theorem rz {α ρ:Type} {a r:α} {L R:ρ} (k:a=r→L=R:=by(intro e;cases e;first | rfl | (simp only[ls]<;>rfl))):some a=some r→L=R:=fun h=>k (sj h)
set_option maxRecDepth 100000
set_option maxHeartbeats 4000000
noncomputable abbrev CN:=G7 Try.prog HH XT
noncomputable section
def F8:Nat→Int→Int→Option Bool
 | 0,_,_=>none
 | n+1,F6,Nr=>(bif decide (0≤F6) then(some (decide (F6<Nr))) else(some false))
def Dl (n:Nat)  (B7:(List Int)) (Aw:Int):Nat→Int→Option (LR Unit Bool)
 | 0,_=>none
 | k2+1,s1=>(bif decide (s1<((B7.length:Nat):Int)) then((idx B7 s1).bind fun x11=>((F8 n x11 Aw).bind fun y12=>(bif y12 then(Dl n B7 Aw k2 (IntKind.i64.wrap (s1+1))) else(some (.ret false))))) else(some (.out ())))
def G5:Nat→(List Int)→Int→Option Bool
 | 0,_,_=>none
 | n+1,B7,Aw=>((Dl n B7 Aw n 0).bind fun o9=>match o9 with|.out _=>(some true)|.ret v=>some v)
def Bx (n:Nat)  (B7:(List OpS)):Nat→Int→Int→Int→Option (LR (Int×Int) (Int×Int))
 | 0,_,_,_=>none
 | k4+1,s1,s2,s3=>(bif decide (s3<((B7.length:Nat):Int)) then((idx B7 s3).bind fun x13=>(bif decide (1≤x13.op) then(bif decide (x13.op≤4) then(Bx n B7 k4 (IntKind.i64.wrap (s1+1)) (if s2<(IntKind.i64.wrap (s1+1)) then(IntKind.i64.wrap (s1+1)) else s2) (IntKind.i64.wrap (s3+1))) else(bif (x13.op==5) then(bif decide (1≤s1) then(Bx n B7 k4 s1 (if s2<s1 then s1 else s2) (IntKind.i64.wrap (s3+1))) else(bif decide (6≤x13.op) then(bif decide (x13.op≤14) then(bif decide (2≤s1) then(Bx n B7 k4 (IntKind.i64.wrap (s1 - 1)) (if s2<(IntKind.i64.wrap (s1 - 1)) then(IntKind.i64.wrap (s1 - 1)) else s2) (IntKind.i64.wrap (s3+1))) else(some (.ret ((-1),(-1))))) else(some (.ret ((-1),(-1))))) else(some (.ret ((-1),(-1)))))) else(bif decide (6≤x13.op) then(bif decide (x13.op≤14) then(bif decide (2≤s1) then(Bx n B7 k4 (IntKind.i64.wrap (s1 - 1)) (if s2<(IntKind.i64.wrap (s1 - 1)) then(IntKind.i64.wrap (s1 - 1)) else s2) (IntKind.i64.wrap (s3+1))) else(some (.ret ((-1),(-1))))) else(some (.ret ((-1),(-1))))) else(some (.ret ((-1),(-1))))))) else(bif (x13.op==5) then(bif decide (1≤s1) then(Bx n B7 k4 s1 (if s2<s1 then s1 else s2) (IntKind.i64.wrap (s3+1))) else(bif decide (6≤x13.op) then(bif decide (x13.op≤14) then(bif decide (2≤s1) then(Bx n B7 k4 (IntKind.i64.wrap (s1 - 1)) (if s2<(IntKind.i64.wrap (s1 - 1)) then(IntKind.i64.wrap (s1 - 1)) else s2) (IntKind.i64.wrap (s3+1))) else(some (.ret ((-1),(-1))))) else(some (.ret ((-1),(-1))))) else(some (.ret ((-1),(-1)))))) else(bif decide (6≤x13.op) then(bif decide (x13.op≤14) then(bif decide (2≤s1) then(Bx n B7 k4 (IntKind.i64.wrap (s1 - 1)) (if s2<(IntKind.i64.wrap (s1 - 1)) then(IntKind.i64.wrap (s1 - 1)) else s2) (IntKind.i64.wrap (s3+1))) else(some (.ret ((-1),(-1))))) else(some (.ret ((-1),(-1))))) else(some (.ret ((-1),(-1)))))))) else(some (.out (s1,s2))))
def Gx:Nat→(List OpS)→Option (Int×Int)
 | 0,_=>none
 | n+1,B7=>((Bx n B7 n 0 0 0).bind fun o11=>match o11 with|.out (x33,x34)=>(some (x33,x34))|.ret v=>some v)
def C0 (n:Nat)  (B7:(List OpS)) (Dn:(List Int)) (Bp:Int) (E9:Int):Nat→Int→Option (LR Unit Bool)
 | 0,_=>none
 | k2+1,s1=>(bif decide (s1<((B7.length:Nat):Int)) then((idx B7 s1).bind fun x11=>(bif (x11.op==1) then((F8 n x11.n 10000).bind fun y13=>(bif y13 then(C0 n B7 Dn Bp E9 k2 (IntKind.i64.wrap (s1+1))) else(some (.ret false)))) else(bif (x11.op==2) then((F8 n x11.n Bp).bind fun y17=>(bif y17 then(C0 n B7 Dn Bp E9 k2 (IntKind.i64.wrap (s1+1))) else(some (.ret false)))) else(bif (x11.op==3) then((F8 n x11.n E9).bind fun y21=>(bif y21 then(C0 n B7 Dn Bp E9 k2 (IntKind.i64.wrap (s1+1))) else(some (.ret false)))) else(bif (x11.op==4) then((F8 n x11.t ((Dn.length:Nat):Int)).bind fun y25=>(bif y25 then((idx Dn x11.t).bind fun x28=>((F8 n x11.n x28).bind fun y29=>(bif y29 then(C0 n B7 Dn Bp E9 k2 (IntKind.i64.wrap (s1+1))) else(some (.ret false))))) else(some (.ret false)))) else(C0 n B7 Dn Bp E9 k2 (IntKind.i64.wrap (s1+1)))))))) else(some (.out ())))
def Gg:Nat→(List OpS)→(List Int)→Int→Int→Option Bool
 | 0,_,_,_,_=>none
 | n+1,B7,Dn,Bp,E9=>((C0 n B7 Dn Bp E9 n 0).bind fun o9=>match o9 with|.out _=>((Gx n B7).bind fun y33=>(some (y33.1==1)))|.ret v=>some v)
def Cr:Nat→Bool→Option Int
 | 0,_=>none
 | n+1,U1=>(bif U1 then(some 1) else(some 0))
def I3:Nat→Int→Int→Int→Int→Option Int
 | 0,_,_,_,_=>none
 | n+1,Jj,Lp,Lr,In=>(bif (Jj==6) then(bif decide (In=0) then none else(some (Int.tmod (IntKind.i64.wrap (Lp+Lr)) In))) else(bif (Jj==7) then(bif decide (In=0) then none else(some (Int.tmod (IntKind.i64.wrap ((IntKind.i64.wrap (Lp - Lr))+In)) In))) else(bif (Jj==8) then(bif decide (In=0) then none else(some (Int.tmod (IntKind.i64.wrap (Lp*Lr)) In))) else(bif (Jj==9) then((Cr n (Lp==Lr)).bind fun y8=>(some y8)) else(bif (Jj==10) then((Cr n (Lp != Lr)).bind fun y11=>(some y11)) else(bif (Jj==11) then((Cr n (decide (Lp<Lr))).bind fun y14=>(some y14)) else(bif (Jj==12) then((Cr n (decide (Lp≤Lr))).bind fun y17=>(some y17)) else(bif (Jj==13) then(bif (Lp != 0) then((Cr n (Lr != 0)).bind fun y21=>(some y21)) else((Cr n false).bind fun y23=>(some y23))) else(bif (Lp != 0) then((Cr n true).bind fun y26=>(some y26)) else((Cr n (Lr != 0)).bind fun y28=>(some y28)))))))))))
def Cq (n:Nat)  (Aw:Int) (Ce:(List (List Int))):Nat→Int→(List Int)→Option (LR (List Int) (Int×Bool))
 | 0,_,_=>none
 | k11+1,s9,s10=>(bif decide (s9<((Ce.length:Nat):Int)) then((idx Ce s9).bind fun x20=>((G5 n x20 Aw).bind fun y21=>(bif y21 then((idx Ce s9).bind fun x24=>(bif decide ((s10.length+1)*9≤140737488355328) then(Cq n Aw Ce k11 (IntKind.i64.wrap (s9+1)) (s10++([((x24.length:Nat):Int)]:List Int))) else none)) else(some (.ret (0,false)))))) else(some (.out s10)))
def Bt (n:Nat)  (B7:(List OpS)) (Aw:Int) (Bp:(List Int)) (Ce:(List (List Int))) (Db:(List Int)):Nat→Int→(List Int)→Option (LR (List Int) (Int×Bool))
 | 0,_,_=>none
 | k34+1,s32,s33=>(bif decide (s32<((B7.length:Nat):Int)) then((idx B7 s32).bind fun x43=>(bif (x43.op==1) then(bif decide (Aw=0) then none else(bif decide ((s33.length+1)*9≤140737488355328) then(Bt n B7 Aw Bp Ce Db k34 (IntKind.i64.wrap (s32+1)) (s33++([(Int.tmod x43.n Aw)]:List Int))) else none)) else(bif (x43.op==2) then((idx Bp x43.n).bind fun x50=>(bif decide ((s33.length+1)*9≤140737488355328) then(Bt n B7 Aw Bp Ce Db k34 (IntKind.i64.wrap (s32+1)) (s33++([x50]:List Int))) else none)) else(bif (x43.op==3) then((idx Db x43.n).bind fun x55=>(bif decide ((s33.length+1)*9≤140737488355328) then(Bt n B7 Aw Bp Ce Db k34 (IntKind.i64.wrap (s32+1)) (s33++([x55]:List Int))) else none)) else(bif (x43.op==4) then((idx Ce x43.t).bind fun x60=>((idx x60 x43.n).bind fun x61=>(bif decide ((s33.length+1)*9≤140737488355328) then(Bt n B7 Aw Bp Ce Db k34 (IntKind.i64.wrap (s32+1)) (s33++([x61]:List Int))) else none))) else(bif (x43.op==5) then((idx s33 (IntKind.i64.wrap (((s33.length:Nat):Int) - 1))).bind fun x66=>((Cr n (x66==0)).bind fun y67=>((idx s33 (IntKind.i64.wrap (((s33.length:Nat):Int) - 1))).bind fun x69=>(Bt n B7 Aw Bp Ce Db k34 (IntKind.i64.wrap (s32+1)) (List.set s33 (IntKind.i64.wrap (((s33.length:Nat):Int) - 1)).toNat y67))))) else((idx s33 (IntKind.i64.wrap (((s33.length:Nat):Int) - 2))).bind fun x71=>((idx s33 (IntKind.i64.wrap (((s33.length:Nat):Int) - 1))).bind fun x72=>((I3 n x43.op x71 x72 Aw).bind fun y73=>((idx s33 (IntKind.i64.wrap (((s33.length:Nat):Int) - 2))).bind fun x75=>(bif (decide (0≤(IntKind.i64.wrap (((s33.length:Nat):Int) - 1)))&&decide ((IntKind.i64.wrap (((s33.length:Nat):Int) - 1))≤((((List.set s33 (IntKind.i64.wrap (((s33.length:Nat):Int) - 2)).toNat y73)).length:Nat):Int))) then(Bt n B7 Aw Bp Ce Db k34 (IntKind.i64.wrap (s32+1)) (List.take ((IntKind.i64.wrap (((s33.length:Nat):Int) - 1)).toNat) (List.set s33 (IntKind.i64.wrap (((s33.length:Nat):Int) - 2)).toNat y73))) else none))))))))))) else(some (.out s33)))
def Gl:Nat→(List OpS)→Int→(List Int)→(List (List Int))→(List Int)→Option (Int×Bool)
 | 0,_,_,_,_,_=>none
 | n+1,B7,Aw,Bp,Ce,Db=>(bif decide (Aw<2) then(some (0,false)) else(bif decide (16<Aw) then(some (0,false)) else((G5 n Bp Aw).bind fun y3=>(bif y3 then((G5 n Db Aw).bind fun y6=>(bif y6 then((Cq n Aw Ce n 0 ([]:List Int)).bind fun o18=>match o18 with|.out x28=>((Gg n B7 x28 ((Bp.length:Nat):Int) ((Db.length:Nat):Int)).bind fun y29=>(bif y29 then((Bt n B7 Aw Bp Ce Db n 0 ([]:List Int)).bind fun o41=>match o41 with|.out x80=>((idx x80 0).bind fun x81=>(some (x81,true)))|.ret v=>some v) else(some (0,false))))|.ret v=>some v) else(some (0,false)))) else(some (0,false))))))
def Fu (n:Nat)  (Bu:(List Int)) (C1:(List Int)):Nat→Int→Option (LR Unit Bool)
 | 0,_=>none
 | k3+1,s2=>(bif decide (s2<((Bu.length:Nat):Int)) then((idx Bu s2).bind fun x12=>((idx C1 s2).bind fun x13=>(bif (x12 != x13) then(some (.ret false)) else(Fu n Bu C1 k3 (IntKind.i64.wrap (s2+1)))))) else(some (.out ())))
def H0:Nat→(List Int)→(List Int)→Option Bool
 | 0,_,_=>none
 | n+1,Bu,C1=>(bif (((Bu.length:Nat):Int) != ((C1.length:Nat):Int)) then(some false) else((Fu n Bu C1 n 0).bind fun o10=>match o10 with|.out _=>(some true)|.ret v=>some v))
def Cw (n:Nat)  (Ah:(List A2)) (Cg:Int):Nat→Int→Int→Option (LR Int Int)
 | 0,_,_=>none
 | k3+1,s1,s2=>(bif decide (s2<((Ah.length:Nat):Int)) then((idx Ah s2).bind fun x12=>(bif (x12.loc==Cg) then(Cw n Ah Cg k3 (IntKind.i64.wrap (s1+1)) (IntKind.i64.wrap (s2+1))) else(Cw n Ah Cg k3 s1 (IntKind.i64.wrap (s2+1))))) else(some (.out s1)))
def Gh:Nat→(List A2)→Int→Option Int
 | 0,_,_=>none
 | n+1,Ah,Cg=>((Cw n Ah Cg n 0 0).bind fun o10=>match o10 with|.out x15=>(some x15)|.ret v=>some v)
def H7:Nat→(List A2)→Int→Int→Int→Option Bool
 | 0,_,_,_,_=>none
 | n+1,Ah,An,Ca,H9=>(bif (An==2) then(some (decide (((Ah.length:Nat):Int)<Ca))) else(bif (An==3) then((Gh n Ah H9).bind fun y3=>(some (decide (y3<Ca)))) else(some false)))
def Di (n:Nat)  (Ah:(List A2)) (Cg:Int):Nat→Int→Option (LR Unit (Int×Bool))
 | 0,_=>none
 | k2+1,s1=>(bif decide (0≤s1) then((idx Ah s1).bind fun x11=>(bif (x11.loc==Cg) then((idx Ah s1).bind fun x13=>(some (.ret (x13.n,true)))) else(Di n Ah Cg k2 (IntKind.i64.wrap (s1 - 1))))) else(some (.out ())))
def Gy:Nat→(List A2)→Int→Option (Int×Bool)
 | 0,_,_=>none
 | n+1,Ah,Cg=>((Di n Ah Cg n (IntKind.i64.wrap (((Ah.length:Nat):Int) - 1))).bind fun o9=>match o9 with|.out _=>(some (0,false))|.ret v=>some v)
def Cd (n:Nat)  (Ah:(List A2)) (An:Int) (Ct:Int):Nat→Int→Int→Option (LR Int ((List A2)×A2×Bool))
 | 0,_,_=>none
 | k3+1,s1,s2=>(bif decide (0≤s2) then((idx Ah s2).bind fun x12=>(bif (x12.loc==Ct) then(Cd n Ah An Ct k3 s2 (IntKind.i64.wrap (s2 - 1))) else(bif (An==2) then(bif decide (Ct<0) then(Cd n Ah An Ct k3 s2 (IntKind.i64.wrap (s2 - 1))) else(Cd n Ah An Ct k3 s1 (IntKind.i64.wrap (s2 - 1)))) else(Cd n Ah An Ct k3 s1 (IntKind.i64.wrap (s2 - 1)))))) else(some (.out s1)))
def Ed (n:Nat)  (Ah:(List A2)):Nat→Int→(List A2)→Option (LR (List A2) ((List A2)×A2×Bool))
 | 0,_,_=>none
 | k22+1,s20,s21=>(bif decide (s20<((Ah.length:Nat):Int)) then(bif (s20 != (-1)) then((idx Ah s20).bind fun x32=>(bif decide ((s21.length+1)*17≤140737488355328) then(Ed n Ah k22 (IntKind.i64.wrap (s20+1)) (s21++([x32]:List A2))) else none)) else(Ed n Ah k22 (IntKind.i64.wrap (s20+1)) s21)) else(some (.out s21)))
def Fs (n:Nat)  (Ah:(List A2)):Nat→Int→(List A2)→Option (LR (List A2) ((List A2)×A2×Bool))
 | 0,_,_=>none
 | k42+1,s40,s41=>(bif decide (s40<((Ah.length:Nat):Int)) then(bif (s40 != (-1)) then((idx Ah s40).bind fun x52=>(bif decide ((s41.length+1)*17≤140737488355328) then(Fs n Ah k42 (IntKind.i64.wrap (s40+1)) (s41++([x52]:List A2))) else none)) else(Fs n Ah k42 (IntKind.i64.wrap (s40+1)) s41)) else(some (.out s41)))
def Fq (n:Nat)  (Ah:(List A2)) (x17:Int):Nat→Int→(List A2)→Option (LR (List A2) ((List A2)×A2×Bool))
 | 0,_,_=>none
 | k60+1,s58,s59=>(bif decide (s58<((Ah.length:Nat):Int)) then(bif (s58 != x17) then((idx Ah s58).bind fun x70=>(bif decide ((s59.length+1)*17≤140737488355328) then(Fq n Ah x17 k60 (IntKind.i64.wrap (s58+1)) (s59++([x70]:List A2))) else none)) else(Fq n Ah x17 k60 (IntKind.i64.wrap (s58+1)) s59)) else(some (.out s59)))
def D9 (n:Nat)  (Ah:(List A2)) (x17:Int):Nat→Int→(List A2)→Option (LR (List A2) ((List A2)×A2×Bool))
 | 0,_,_=>none
 | k80+1,s78,s79=>(bif decide (s78<((Ah.length:Nat):Int)) then(bif (s78 != x17) then((idx Ah s78).bind fun x90=>(bif decide ((s79.length+1)*17≤140737488355328) then(D9 n Ah x17 k80 (IntKind.i64.wrap (s78+1)) (s79++([x90]:List A2))) else none)) else(D9 n Ah x17 k80 (IntKind.i64.wrap (s78+1)) s79)) else(some (.out s79)))
def Ec (n:Nat)  (Ah:(List A2)):Nat→Int→(List A2)→Option (LR (List A2) ((List A2)×A2×Bool))
 | 0,_,_=>none
 | k102+1,s100,s101=>(bif decide (s100<((Ah.length:Nat):Int)) then(bif (s100 != (-1)) then((idx Ah s100).bind fun x112=>(bif decide ((s101.length+1)*17≤140737488355328) then(Ec n Ah k102 (IntKind.i64.wrap (s100+1)) (s101++([x112]:List A2))) else none)) else(Ec n Ah k102 (IntKind.i64.wrap (s100+1)) s101)) else(some (.out s101)))
def D6 (n:Nat)  (Ah:(List A2)) (x17:Int):Nat→Int→(List A2)→Option (LR (List A2) ((List A2)×A2×Bool))
 | 0,_,_=>none
 | k120+1,s118,s119=>(bif decide (s118<((Ah.length:Nat):Int)) then(bif (s118 != x17) then((idx Ah s118).bind fun x130=>(bif decide ((s119.length+1)*17≤140737488355328) then(D6 n Ah x17 k120 (IntKind.i64.wrap (s118+1)) (s119++([x130]:List A2))) else none)) else(D6 n Ah x17 k120 (IntKind.i64.wrap (s118+1)) s119)) else(some (.out s119)))
def Ef (n:Nat)  (Ah:(List A2)) (x17:Int):Nat→Int→(List A2)→Option (LR (List A2) ((List A2)×A2×Bool))
 | 0,_,_=>none
 | k140+1,s138,s139=>(bif decide (s138<((Ah.length:Nat):Int)) then(bif (s138 != x17) then((idx Ah s138).bind fun x150=>(bif decide ((s139.length+1)*17≤140737488355328) then(Ef n Ah x17 k140 (IntKind.i64.wrap (s138+1)) (s139++([x150]:List A2))) else none)) else(Ef n Ah x17 k140 (IntKind.i64.wrap (s138+1)) s139)) else(some (.out s139)))
def I2:Nat→(List A2)→Int→Int→Option ((List A2)×A2×Bool)
 | 0,_,_,_=>none
 | n+1,Ah,An,Ct=>((Cd n Ah An Ct n (-1) (IntKind.i64.wrap (((Ah.length:Nat):Int) - 1))).bind fun o10=>match o10 with|.out x17=>(bif (An==2) then(bif decide (0<x17) then((Ed n Ah n 0 ([]:List A2)).bind fun o29=>match o29 with|.out x36=>(some (x36,(⟨0,0⟩:A2),false))|.ret v=>some v) else(bif (An != 2) then(bif (An != 3) then((Fs n Ah n 0 ([]:List A2)).bind fun o49=>match o49 with|.out x56=>(some (x56,(⟨0,0⟩:A2),false))|.ret v=>some v) else((Fq n Ah x17 n 0 ([]:List A2)).bind fun o67=>match o67 with|.out x74=>(bif decide (x17<0) then(some (x74,(⟨0,0⟩:A2),false)) else((idx Ah x17).bind fun x76=>(some (x74,x76,true))))|.ret v=>some v)) else((D9 n Ah x17 n 0 ([]:List A2)).bind fun o87=>match o87 with|.out x94=>(bif decide (x17<0) then(some (x94,(⟨0,0⟩:A2),false)) else((idx Ah x17).bind fun x96=>(some (x94,x96,true))))|.ret v=>some v))) else(bif (An != 2) then(bif (An != 3) then((Ec n Ah n 0 ([]:List A2)).bind fun o109=>match o109 with|.out x116=>(some (x116,(⟨0,0⟩:A2),false))|.ret v=>some v) else((D6 n Ah x17 n 0 ([]:List A2)).bind fun o127=>match o127 with|.out x134=>(bif decide (x17<0) then(some (x134,(⟨0,0⟩:A2),false)) else((idx Ah x17).bind fun x136=>(some (x134,x136,true))))|.ret v=>some v)) else((Ef n Ah x17 n 0 ([]:List A2)).bind fun o147=>match o147 with|.out x154=>(bif decide (x17<0) then(some (x154,(⟨0,0⟩:A2),false)) else((idx Ah x17).bind fun x156=>(some (x154,x156,true))))|.ret v=>some v)))|.ret v=>some v)
def Fw (n:Nat)  (Bu:(List A2)) (C1:(List A2)):Nat→Int→Option (LR Unit Bool)
 | 0,_=>none
 | k3+1,s2=>(bif decide (s2<((Bu.length:Nat):Int)) then((idx Bu s2).bind fun x12=>((idx C1 s2).bind fun x13=>(bif ((x12.loc==x13.loc)&&((x12.n==x13.n)&&true)) then(Fw n Bu C1 k3 (IntKind.i64.wrap (s2+1))) else(some (.ret false))))) else(some (.out ())))
def Ju:Nat→(List A2)→(List A2)→Option Bool
 | 0,_,_=>none
 | n+1,Bu,C1=>(bif (((Bu.length:Nat):Int) != ((C1.length:Nat):Int)) then(some false) else((Fw n Bu C1 n 0).bind fun o10=>match o10 with|.out _=>(some true)|.ret v=>some v))
def Eg (n:Nat)  (Ah:(List A2)) (Dz:A2):Nat→Bool→Int→(List A2)→Option (LR (Bool×(List A2)) (List A2))
 | 0,_,_,_=>none
 | k10+1,s7,s8,s9=>(bif decide (s8<((Ah.length:Nat):Int)) then(bif s7 then((idx Ah s8).bind fun x20=>(bif decide ((s9.length+1)*17≤140737488355328) then(Eg n Ah Dz k10 true (IntKind.i64.wrap (s8+1)) (s9++([x20]:List A2))) else none)) else((idx Ah s8).bind fun x23=>(bif decide (Dz.loc<x23.loc) then(bif decide ((s9.length+1)*17≤140737488355328) then((idx Ah s8).bind fun x27=>(bif decide ((((s9++([Dz]:List A2))).length+1)*17≤140737488355328) then(Eg n Ah Dz k10 true (IntKind.i64.wrap (s8+1)) ((s9++([Dz]:List A2))++([x27]:List A2))) else none)) else none) else((idx Ah s8).bind fun x30=>(bif decide ((s9.length+1)*17≤140737488355328) then(Eg n Ah Dz k10 false (IntKind.i64.wrap (s8+1)) (s9++([x30]:List A2))) else none))))) else(some (.out (s7,s9))))
def Mi:Nat→(List A2)→Int→A2→Option (List A2)
 | 0,_,_,_=>none
 | n+1,Ah,An,Dz=>(bif (An != 3) then(bif decide (((([]:List A2)).length+Ah.length)*17≤140737488355328) then(bif (An==2) then(bif decide ((((([]:List A2)++Ah)).length+1)*17≤140737488355328) then(some ((([]:List A2)++Ah)++([Dz]:List A2))) else none) else(some (([]:List A2)++Ah))) else none) else((Eg n Ah Dz n false 0 ([]:List A2)).bind fun o17=>match o17 with|.out (x34,x35)=>(bif x34 then(some x35) else(bif decide ((x35.length+1)*17≤140737488355328) then(some (x35++([Dz]:List A2))) else none))|.ret v=>some v))
def Ej (n:Nat)  (Al:Ac):Nat→Int→(List Int)→(List (List Int))→(List (List A2))→Option (LR ((List Int)×(List (List Int))×(List (List A2))) (A8×Int))
 | 0,_,_,_,_=>none
 | k8+1,s4,s5,s6,s7=>(bif decide (s4<(((Al.regs).length:Nat):Int)) then(bif decide ((s5.length+1)*9≤140737488355328) then((idx Al.regs s4).bind fun x19=>(bif (decide (0≤x19)&&decide ((8:Int)*x19≤140737488355328)) then(bif decide ((s6.length+1)*25≤140737488355328) then(bif decide ((s7.length+1)*25≤140737488355328) then(Ej n Al k8 (IntKind.i64.wrap (s4+1)) (s5++([0]:List Int)) (s6++([(List.replicate x19.toNat 0:List Int)]:List (List Int))) (s7++([([]:List A2)]:List (List A2)))) else none) else none) else none)) else none) else(some (.out (s5,s6,s7))))
def Gn:Nat→Ac→Option (A8×Int)
 | 0,_=>none
 | n+1,Al=>((Hk n Al).bind fun y1=>(bif y1 then((Ej n Al n 0 ([]:List Int) ([]:List (List Int)) ([]:List (List A2))).bind fun o15=>match o15 with|.out (x27,x28,x29)=>(bif decide (((([]:List Int)).length+(Al.init).length)*9≤140737488355328) then(some ((⟨x27,x28,(([]:List Int)++Al.init),x29⟩:A8),0)) else none)|.ret v=>some v) else(some ((⟨([]:List Int),([]:List (List Int)),([]:List Int),([]:List (List A2))⟩:A8),8))))
def Fd (n:Nat)  (Az:A8):Nat→Int→(List (List Int))→Option (LR (List (List Int)) A8)
 | 0,_,_=>none
 | k5+1,s3,s4=>(bif decide (s3<(((Az.regs).length:Nat):Int)) then((idx Az.regs s3).bind fun x14=>(bif decide (x14.length*9≤140737488355328) then(bif decide ((s4.length+1)*25≤140737488355328) then(Fd n Az k5 (IntKind.i64.wrap (s3+1)) (s4++([x14]:List (List Int)))) else none) else none)) else(some (.out s4)))
def Fg (n:Nat)  (Az:A8):Nat→Int→(List (List A2))→Option (LR (List (List A2)) A8)
 | 0,_,_=>none
 | k22+1,s20,s21=>(bif decide (s20<(((Az.buf).length:Nat):Int)) then((idx Az.buf s20).bind fun x31=>(bif decide (x31.length*17≤140737488355328) then(bif decide ((s21.length+1)*25≤140737488355328) then(Fg n Az k22 (IntKind.i64.wrap (s20+1)) (s21++([x31]:List (List A2)))) else none) else none)) else(some (.out s21)))
def Jw:Nat→A8→Option A8
 | 0,_=>none
 | n+1,Az=>(bif decide ((Az.pc).length*9≤140737488355328) then(bif decide ((Az.mem).length*9≤140737488355328) then((Fd n Az n 0 ([]:List (List Int))).bind fun o12=>match o12 with|.out x19=>((Fg n Az n 0 ([]:List (List A2))).bind fun o29=>match o29 with|.out x36=>(some (⟨Az.pc,x19,Az.mem,x36⟩:A8))|.ret v=>some v)|.ret v=>some v) else none) else none)
def Ff (n:Nat)  (Bu:A8) (C1:A8):Nat→Int→Option (LR Unit Bool)
 | 0,_=>none
 | k10+1,s9=>(bif decide (s9<(((Bu.regs).length:Nat):Int)) then((idx Bu.regs s9).bind fun x19=>((idx C1.regs s9).bind fun x20=>((H0 n x19 x20).bind fun y21=>(bif y21 then(Ff n Bu C1 k10 (IntKind.i64.wrap (s9+1))) else(some (.ret false)))))) else(some (.out ())))
def Fb (n:Nat)  (Bu:A8) (C1:A8):Nat→Int→Option (LR Unit Bool)
 | 0,_=>none
 | k26+1,s25=>(bif decide (s25<(((Bu.buf).length:Nat):Int)) then((idx Bu.buf s25).bind fun x35=>((idx C1.buf s25).bind fun x36=>((Ju n x35 x36).bind fun y37=>(bif y37 then(Fb n Bu C1 k26 (IntKind.i64.wrap (s25+1))) else(some (.ret false)))))) else(some (.out ())))
def Jv:Nat→A8→A8→Option Bool
 | 0,_,_=>none
 | n+1,Bu,C1=>((H0 n Bu.pc C1.pc).bind fun y1=>(bif y1 then((H0 n Bu.mem C1.mem).bind fun y4=>(bif y4 then(bif ((((Bu.regs).length:Nat):Int) != (((C1.regs).length:Nat):Int)) then(some false) else(bif ((((Bu.buf).length:Nat):Int) != (((C1.buf).length:Nat):Int)) then(some false) else((Ff n Bu C1 n 0).bind fun o17=>match o17 with|.out _=>((Fb n Bu C1 n 0).bind fun o33=>match o33 with|.out _=>(some true)|.ret v=>some v)|.ret v=>some v))) else(some false))) else(some false)))
def Gm:Nat→A8→Int→Int→Option Int
 | 0,_,_,_=>none
 | n+1,Az,U2,Ct=>(bif decide (U2<0) then(some 0) else(bif decide ((((Az.buf).length:Nat):Int)≤U2) then(some 0) else(bif decide (Ct<0) then(some 0) else(bif decide ((((Az.mem).length:Nat):Int)≤Ct) then(some 0) else((idx Az.buf U2).bind fun x5=>((Gy n x5 Ct).bind fun y6=>(bif y6.2 then(some y6.1) else((idx Az.mem Ct).bind fun x9=>(some x9)))))))))
def Gi:Nat→Ac→A8→Int→(List OpS)→Option Int
 | 0,_,_,_,_=>none
 | n+1,Al,B3,K9,U3=>((idx B3.regs K9).bind fun x1=>((Gl n U3 Al.mod x1 ([]:List (List Int)) ([]:List Int)).bind fun y2=>(some y2.1)))
def Fr:Nat→Ac→A8→Int→Int→Int→Option Bool
 | 0,_,_,_,_,_=>none
 | n+1,Al,B3,Bk,Cb,Ka=>(bif decide (Ka<0) then(some false) else(bif decide ((((B3.pc).length:Nat):Int)≤Ka) then(some false) else((idx Al.code Ka).bind fun x3=>((idx B3.pc Ka).bind fun x4=>((idx x3 x4).bind fun x5=>(bif (x5.op==22) then(some false) else(bif (x5.op==4) then(bif (Bk==1) then(some true) else((idx B3.buf Ka).bind fun x9=>((H7 n x9 Bk Cb x5.loc).bind fun y10=>(some y10)))) else(bif (x5.op==8) then((idx B3.buf Ka).bind fun x13=>(some (((x13.length:Nat):Int)==0))) else(bif (x5.op==5) then((idx B3.buf Ka).bind fun x15=>(some (((x15.length:Nat):Int)==0))) else(bif (x5.op==6) then((idx B3.buf Ka).bind fun x17=>(some (((x17.length:Nat):Int)==0))) else(bif (x5.op==7) then((idx B3.buf Ka).bind fun x19=>(some (((x19.length:Nat):Int)==0))) else(bif (x5.op==9) then((Gm n B3 Ka x5.loc).bind fun y21=>((Gi n Al B3 Ka x5.e).bind fun y23=>(some (!((y21==y23)==x5.ne))))) else(some true)))))))))))))
def Es:Nat→A8→Int→Int→Int→Option Bool
 | 0,_,_,_,_=>none
 | n+1,Az,An,K9,H9=>(bif decide (K9<0) then(some false) else(bif decide ((((Az.buf).length:Nat):Int)≤K9) then(some false) else((idx Az.buf K9).bind fun x3=>((I2 n x3 An H9).bind fun y4=>(some y4.2.2)))))
def Gw:Nat→Ac→Int→Option Int
 | 0,_,_=>none
 | n+1,Al,An=>((Hk n Al).bind fun y1=>(bif y1 then(bif (An==1) then(some (((Al.regs).length:Nat):Int)) else(bif (An==2) then(some (IntKind.i64.wrap (2*(((Al.regs).length:Nat):Int)))) else(bif (An==3) then(some (IntKind.i64.wrap ((((Al.regs).length:Nat):Int)+(IntKind.i64.wrap ((((Al.regs).length:Nat):Int)*(((Al.init).length:Nat):Int)))))) else(some 0)))) else(some 0)))
def Gd:Nat→Ac→A8→Int→Int→Int→Option Bool
 | 0,_,_,_,_,_=>none
 | n+1,Al,B3,Bk,Cb,Io=>(bif decide (Io<0) then(some false) else((Gw n Al Bk).bind fun y2=>(bif decide (y2≤Io) then(some false) else(bif decide (Io<(((Al.regs).length:Nat):Int)) then((Fr n Al B3 Bk Cb Io).bind fun y6=>(some y6)) else(bif (Bk==2) then((Es n B3 Bk (IntKind.i64.wrap (Io - (((Al.regs).length:Nat):Int))) (-1)).bind fun y9=>(some y9)) else(bif decide ((((Al.init).length:Nat):Int)=0) then none else(bif decide ((((Al.init).length:Nat):Int)=0) then none else((Es n B3 Bk (IntKind.i64.wrap (Int.tdiv (IntKind.i64.wrap (Io - (((Al.regs).length:Nat):Int))) (((Al.init).length:Nat):Int))) (Int.tmod (IntKind.i64.wrap (Io - (((Al.regs).length:Nat):Int))) (((Al.init).length:Nat):Int))).bind fun y13=>(some y13)))))))))
def Ku:Nat→Ac→A8→Int→Int→Int→Option (A8×Bool)
 | 0,_,_,_,_,_=>none
 | n+1,Al,B3,Bk,Cb,Io=>((Gd n Al B3 Bk Cb Io).bind fun y1=>(bif y1 then(bif decide (Io<(((Al.regs).length:Nat):Int)) then((Nw n Al B3 Bk Cb Io).bind fun y5=>(some (y5.1,y5.2))) else(bif (Bk==2) then((Hm n B3 Bk (IntKind.i64.wrap (Io - (((Al.regs).length:Nat):Int))) (-1)).bind fun y8=>(some (y8.1,y8.2))) else(bif decide ((((Al.init).length:Nat):Int)=0) then none else(bif decide ((((Al.init).length:Nat):Int)=0) then none else((Hm n B3 Bk (IntKind.i64.wrap (Int.tdiv (IntKind.i64.wrap (Io - (((Al.regs).length:Nat):Int))) (((Al.init).length:Nat):Int))) (Int.tmod (IntKind.i64.wrap (Io - (((Al.regs).length:Nat):Int))) (((Al.init).length:Nat):Int))).bind fun y12=>(some (y12.1,y12.2))))))) else((Jw n B3).bind fun y14=>(some (y14,false)))))
def El (n:Nat)  (Al:Ac) (B3:A8) (Bk:Int) (Cb:Int):Nat→Int→(List Int)→Option (LR (List Int) (List Int))
 | 0,_,_=>none
 | k3+1,s1,s2=>((Gw n Al Bk).bind fun y11=>(bif decide (s1<y11) then((Gd n Al B3 Bk Cb s1).bind fun y14=>(bif y14 then(bif decide ((s2.length+1)*9≤140737488355328) then(El n Al B3 Bk Cb k3 (IntKind.i64.wrap (s1+1)) (s2++([s1]:List Int))) else none) else(El n Al B3 Bk Cb k3 (IntKind.i64.wrap (s1+1)) s2))) else(some (.out s2))))
def J5:Nat→Ac→A8→Int→Int→Option (List Int)
 | 0,_,_,_,_=>none
 | n+1,Al,B3,Bk,Cb=>((El n Al B3 Bk Cb n 0 ([]:List Int)).bind fun o10=>match o10 with|.out x20=>(some x20)|.ret v=>some v)
def D5 (n:Nat)  (F6:Int) (Eo:(List Bf)):Nat→Int→Option (LR Unit (C3×Int))
 | 0,_=>none
 | k4+1,s3=>(bif decide (s3<((Eo.length:Nat):Int)) then((idx Eo s3).bind fun x13=>(bif decide (x13.Qp<0) then(some (.ret ((⟨([]:List Int),([]:List Int),([]:List Int)⟩:C3),1))) else((idx Eo s3).bind fun x15=>(bif decide (F6≤x15.Qp) then(some (.ret ((⟨([]:List Int),([]:List Int),([]:List Int)⟩:C3),1))) else((idx Eo s3).bind fun x17=>(bif decide (x17.Hh<0) then(some (.ret ((⟨([]:List Int),([]:List Int),([]:List Int)⟩:C3),1))) else((idx Eo s3).bind fun x19=>(bif decide (F6≤x19.Hh) then(some (.ret ((⟨([]:List Int),([]:List Int),([]:List Int)⟩:C3),1))) else((idx Eo s3).bind fun x21=>(bif decide (x21.E8<0) then(some (.ret ((⟨([]:List Int),([]:List Int),([]:List Int)⟩:C3),1))) else(D5 n F6 Eo k4 (IntKind.i64.wrap (s3+1))))))))))))) else(some (.out ())))
def Dm (n:Nat)  (Eo:(List Bf)) (s24:Int):Nat→Int→(List Int)→(List Int)→Option (LR ((List Int)×(List Int)) (C3×Int))
 | 0,_,_,_=>none
 | k40+1,s37,s38,s39=>(bif decide (s37<((Eo.length:Nat):Int)) then((idx Eo s37).bind fun x49=>(bif (x49.Qp==s24) then((idx Eo s37).bind fun x51=>(bif decide ((s38.length+1)*9≤140737488355328) then((idx Eo s37).bind fun x54=>(bif decide ((s39.length+1)*9≤140737488355328) then(Dm n Eo s24 k40 (IntKind.i64.wrap (s37+1)) (s38++([x51.E8]:List Int)) (s39++([x54.Hh]:List Int))) else none)) else none)) else(Dm n Eo s24 k40 (IntKind.i64.wrap (s37+1)) s38 s39))) else(some (.out (s38,s39))))
def Em (n:Nat)  (F6:Int) (Eo:(List Bf)):Nat→Int→(List Int)→(List Int)→(List Int)→Option (LR ((List Int)×(List Int)×(List Int)) (C3×Int))
 | 0,_,_,_,_=>none
 | k28+1,s24,s25,s26,s27=>(bif decide (s24<F6) then((Dm n Eo s24 n 0 s26 s27).bind fun o47=>match o47 with|.out (x58,x59)=>(bif decide ((s25.length+1)*9≤140737488355328) then(Em n F6 Eo k28 (IntKind.i64.wrap (s24+1)) (s25++([((x59.length:Nat):Int)]:List Int)) x58 x59) else none)|.ret v=>some (.ret v)) else(some (.out (s25,s26,s27))))
def J4:Nat→Int→(List Bf)→Option (C3×Int)
 | 0,_,_=>none
 | n+1,F6,Eo=>(bif decide (F6<0) then(some ((⟨([]:List Int),([]:List Int),([]:List Int)⟩:C3),1)) else(bif decide (100000<F6) then(some ((⟨([]:List Int),([]:List Int),([]:List Int)⟩:C3),1)) else((D5 n F6 Eo n 0).bind fun o11=>match o11 with|.out _=>((Em n F6 Eo n 0 ([0]:List Int) ([]:List Int) ([]:List Int)).bind fun o35=>match o35 with|.out (x64,x65,x66)=>(some ((⟨x64,x65,x66⟩:C3),0))|.ret v=>some v)|.ret v=>some v)))
def Fa (n:Nat)  (G2:Bz) (B3:A8):Nat→Int→Option (LR Unit Int)
 | 0,_=>none
 | k2+1,s1=>(bif decide (s1<((G2.Da.length:Nat):Int)) then((idx G2.Da s1).bind fun x11=>((Jv n x11 B3).bind fun y12=>(bif y12 then(some (.ret s1)) else(Fa n G2 B3 k2 (IntKind.i64.wrap (s1+1)))))) else(some (.out ())))
def H8:Nat→Bz→A8→Option Int
 | 0,_,_=>none
 | n+1,G2,B3=>((Fa n G2 B3 n 0).bind fun o9=>match o9 with|.out _=>(some (-1))|.ret v=>some v)
def F5 (n:Nat)  (Al:Ac) (An:Int) (Ca:Int) (Cu:Int) (s10:Int) (y25:(List Int)):Nat→Int→(List A8)→(List Int)→(List Int)→(List Bf)→Option (LR ((List A8)×(List Int)×(List Int)×(List Bf)) (Bz×Int))
 | 0,_,_,_,_,_=>none
 | k32+1,s27,s28,s29,s30,s31=>(bif decide (s27<((y25.length:Nat):Int)) then((idx s28 s10).bind fun x41=>((idx y25 s27).bind fun x42=>((Ku n Al x41 An Ca x42).bind fun y43=>((H8 n (⟨s28,(⟨([]:List Int),([]:List Int),([]:List Int)⟩:C3),s29,s30⟩:Bz) y43.1).bind fun y45=>(bif decide (y45<0) then(bif decide (Cu≤((s28.length:Nat):Int)) then(some (.ret ((⟨([]:List A8),(⟨([]:List Int),([]:List Int),([]:List Int)⟩:C3),([]:List Int),([]:List Int)⟩:Bz),18))) else(bif decide ((s28.length+1)*97≤140737488355328) then(bif decide ((s29.length+1)*9≤140737488355328) then((idx y25 s27).bind fun x53=>(bif decide ((s30.length+1)*9≤140737488355328) then((idx y25 s27).bind fun x56=>(bif decide ((s31.length+1)*25≤140737488355328) then(F5 n Al An Ca Cu s10 y25 k32 (IntKind.i64.wrap (s27+1)) (s28++([y43.1]:List A8)) (s29++([s10]:List Int)) (s30++([x53]:List Int)) (s31++([(⟨s10,x56,((s28.length:Nat):Int)⟩:Bf)]:List Bf))) else none)) else none)) else none) else none)) else((idx y25 s27).bind fun x59=>(bif decide ((s31.length+1)*25≤140737488355328) then(F5 n Al An Ca Cu s10 y25 k32 (IntKind.i64.wrap (s27+1)) s28 s29 s30 (s31++([(⟨s10,x59,y45⟩:Bf)]:List Bf))) else none))))))) else(some (.out (s28,s29,s30,s31))))
def F3 (n:Nat)  (Al:Ac) (An:Int) (Ca:Int) (Cu:Int):Nat→Int→(List A8)→(List Int)→(List Int)→(List Bf)→Option (LR ((List A8)×(List Int)×(List Int)×(List Bf)) (Bz×Int))
 | 0,_,_,_,_,_=>none
 | k15+1,s10,s11,s12,s13,s14=>(bif decide (s10<((s11.length:Nat):Int)) then((idx s11 s10).bind fun x24=>((J5 n Al x24 An Ca).bind fun y25=>((F5 n Al An Ca Cu s10 y25 n 0 s11 s12 s13 s14).bind fun o39=>match o39 with|.out (x63,x64,x65,x66)=>(F3 n Al An Ca Cu k15 (IntKind.i64.wrap (s10+1)) x63 x64 x65 x66)|.ret v=>some (.ret v)))) else(some (.out (s11,s12,s13,s14))))
def Kw:Nat→Ac→Int→Int→Int→Option (Bz×Int)
 | 0,_,_,_,_=>none
 | n+1,Al,An,Ca,Cu=>((Gn n Al).bind fun y1=>(bif (y1.2 != 0) then(some ((⟨([]:List A8),(⟨([]:List Int),([]:List Int),([]:List Int)⟩:C3),([]:List Int),([]:List Int)⟩:Bz),8)) else(bif decide (An<1) then(some ((⟨([]:List A8),(⟨([]:List Int),([]:List Int),([]:List Int)⟩:C3),([]:List Int),([]:List Int)⟩:Bz),1)) else(bif decide (3<An) then(some ((⟨([]:List A8),(⟨([]:List Int),([]:List Int),([]:List Int)⟩:C3),([]:List Int),([]:List Int)⟩:Bz),1)) else(bif decide (Ca<1) then(some ((⟨([]:List A8),(⟨([]:List Int),([]:List Int),([]:List Int)⟩:C3),([]:List Int),([]:List Int)⟩:Bz),1)) else(bif decide (4<Ca) then(some ((⟨([]:List A8),(⟨([]:List Int),([]:List Int),([]:List Int)⟩:C3),([]:List Int),([]:List Int)⟩:Bz),1)) else(bif decide (Cu<1) then(some ((⟨([]:List A8),(⟨([]:List Int),([]:List Int),([]:List Int)⟩:C3),([]:List Int),([]:List Int)⟩:Bz),1)) else(bif decide (100000<Cu) then(some ((⟨([]:List A8),(⟨([]:List Int),([]:List Int),([]:List Int)⟩:C3),([]:List Int),([]:List Int)⟩:Bz),1)) else((F3 n Al An Ca Cu n 0 ([y1.1]:List A8) ([(-1)]:List Int) ([(-1)]:List Int) ([]:List Bf)).bind fun o22=>match o22 with|.out (x69,x70,x71,x72)=>((J4 n ((x69.length:Nat):Int) x72).bind fun y73=>(some ((⟨x69,y73.1,x70,x71⟩:Bz),0)))|.ret v=>some v)))))))))
def Hc:Nat→Jp→Option Bool
 | 0,_=>none
 | n+1,Az=>((On n Az.Sv).bind fun y1=>(bif y1 then(bif decide (150<Az.Lo) then((Hi n ).bind fun y5=>(some y5)) else((Oo n Az.Sv Az.Sw Az.W1).bind fun y7=>((Kw n Az.Sv Az.Sw Az.W1 Az.Lo).bind fun y9=>(bif (y9.2==0) then(bif (y7.2==0) then(bif decide (((y9.1.Da.length:Nat):Int)≤y7.1) then((Hi n ).bind fun y14=>(some y14)) else(some false)) else(some false)) else(bif (y9.2 != 18) then((Hi n ).bind fun y17=>(some y17)) else(bif decide (Az.Lo<y7.1) then((Hi n ).bind fun y20=>(some y20)) else(some false))))))) else((Hi n ).bind fun y22=>(some y22))))
end
set_option linter.unusedVariables false
set_option linter.unusedSimpArgs false
set_option maxRecDepth 100000
set_option maxHeartbeats 4000000
theorem Jb {n:Nat} ⦃F6:Int⦄ ⦃Nr:Int⦄ ⦃r:Bool⦄:F8 n F6 Nr=some r→CN n 47 [iA F6,iA Nr] []=some (bA r,[]):=by
 intro h;rcases n with _|n;cases h
 rw[F8] at h
 refine B0 Try.func47 (by rfl) rfl rfl (Bi rfl) ?_
 intro call hc;conv=>lhs;whnf
 revert h
 refine br ?_ ?_
 exact rz
 exact rz
theorem Qj {n:Nat} ⦃B7:(List Int)⦄ ⦃Aw:Int⦄ ⦃r:Bool⦄:G5 n B7 Aw=some r→CN n 32 [AV.sl 1 (List.map A0 B7),iA Aw] []=some (bA r,[]):=by
 intro h;rcases n with _|n;cases h
 rw[G5] at h
 refine B0 Try.func32 (by rfl) rfl rfl (Bi rfl) ?_
 intro call hc;conv=>lhs;whnf
 revert h
 intro h;refine Ap h ?_;clear h;intro o9 ho9 h
 refine lq (σ:=Int) (τ:=Unit) (ν:=Bool) 0 (fun s1 a3=>Ba 19 [(0,AV.sl 1 (List.map A0 B7)),(1,iA Aw),(5,iA s1)]) (fun s1 a3=>[]) (fun _ a15=>Ba 19 []) (fun _ a15=>[]) (fun v=>(bA v,[])) (fun k s=>Dl n B7 Aw k s) (fun s=>rfl) o9 n 0 (fun _=>0) ho9 ?_ ?_
 intro k2 s1 a3 K4 cont5 hK6 hcont7 h hr8
 replace h:Dl n B7 Aw (k2+1) s1=some o9:=h
 rw[Dl] at h
 conv=>lhs;whnf
 revert h
 refine br ?_ ?_
 refine ix ?_;intro x11
 refine ca hc (fun _ h=>Jb h) ?_;intro y12
 refine br ?_ ?_
 exact fun h=>cq (hcont7 (IntKind.i64.wrap (s1+1)) (fun _=>0) h)
 intro h;cases sj h
 refine(hK6 _ _).trans ?_
 refine Eq.trans ?_ (Eq.symm (show _=some _ from hr8))
 conv=>lhs;whnf
 exact rq
 intro h;cases sj h
 exact kq (hr8 (fun _=>0))
 refine lrc ?_ ?_
 intro v e;subst e;cases sj h;rfl
 intro t a15 e;subst e
 dsimp only at h
 conv=>lhs;whnf
 revert h
 exact rz
theorem A3j {n:Nat} ⦃B7:(List OpS)⦄ ⦃r:(Int×Int)⦄:Gx n B7=some r→CN n 56 [AV.sl 3 (List.map Bh B7)] []=some (AV.tup [iA r.1,iA r.2],[]):=by
 intro h;rcases n with _|n;cases h
 rw[Gx] at h
 refine B0 Try.func56 (by rfl) rfl rfl (Bi rfl) ?_
 intro call hc;conv=>lhs;whnf
 revert h
 intro h;refine Ap h ?_;clear h;intro o11 ho11 h
 refine lq (σ:=(Int×Int×Int)) (τ:=(Int×Int)) (ν:=(Int×Int)) 0 (fun(s1,s2,s3) a5=>Ba 53 [(0,AV.sl 3 (List.map Bh B7)),(4,iA s1),(5,iA s2),(6,iA s3)]) (fun(s1,s2,s3) a5=>[]) (fun(x33,x34) a32=>Ba 53 [(4,iA x33),(5,iA x34)]) (fun(x33,x34) a32=>[]) (fun v=>(AV.tup [iA v.1,iA v.2],[])) (fun k s=>Bx n B7 k s.1 s.2.1 s.2.2) (fun s=>rfl) o11 n (0,0,0) (fun _=>0) ho11 ?_ ?_
 intro k4 ss a5 K6 cont7 hK8 hcont9 h hr10
 obtain⟨s1,s2,s3⟩:=ss
 replace h:Bx n B7 (k4+1) s1 s2 s3=some o11:=h
 rw[Bx] at h
 conv=>lhs;whnf
 revert h
 refine br ?_ ?_
 refine ix ?_;intro x13
 refine br ?_ ?_
 refine br ?_ ?_
 exact fun h=>cq (hcont9 (IntKind.i64.wrap (s1+1),(if s2<(IntKind.i64.wrap (s1+1)) then(IntKind.i64.wrap (s1+1)) else s2),IntKind.i64.wrap (s3+1)) (fun _=>0) h)
 refine br ?_ ?_
 refine br ?_ ?_
 exact fun h=>cq (hcont9 (s1,(if s2<s1 then s1 else s2),IntKind.i64.wrap (s3+1)) (fun _=>0) h)
 refine br ?_ ?_
 refine br ?_ ?_
 refine br ?_ ?_
 exact fun h=>cq (hcont9 (IntKind.i64.wrap (s1 - 1),(if s2<(IntKind.i64.wrap (s1 - 1)) then(IntKind.i64.wrap (s1 - 1)) else s2),IntKind.i64.wrap (s3+1)) (fun _=>0) h)
 intro h;cases sj h
 refine(hK8 _ _).trans ?_
 refine Eq.trans ?_ (Eq.symm (show _=some _ from hr10))
 conv=>lhs;whnf
 exact rq
 intro h;cases sj h
 refine(hK8 _ _).trans ?_
 refine Eq.trans ?_ (Eq.symm (show _=some _ from hr10))
 conv=>lhs;whnf
 exact rq
 intro h;cases sj h
 refine(hK8 _ _).trans ?_
 refine Eq.trans ?_ (Eq.symm (show _=some _ from hr10))
 conv=>lhs;whnf
 exact rq
 refine br ?_ ?_
 refine br ?_ ?_
 refine br ?_ ?_
 exact fun h=>cq (hcont9 (IntKind.i64.wrap (s1 - 1),(if s2<(IntKind.i64.wrap (s1 - 1)) then(IntKind.i64.wrap (s1 - 1)) else s2),IntKind.i64.wrap (s3+1)) (fun _=>0) h)
 intro h;cases sj h
 refine(hK8 _ _).trans ?_
 refine Eq.trans ?_ (Eq.symm (show _=some _ from hr10))
 conv=>lhs;whnf
 exact rq
 intro h;cases sj h
 refine(hK8 _ _).trans ?_
 refine Eq.trans ?_ (Eq.symm (show _=some _ from hr10))
 conv=>lhs;whnf
 exact rq
 intro h;cases sj h
 refine(hK8 _ _).trans ?_
 refine Eq.trans ?_ (Eq.symm (show _=some _ from hr10))
 conv=>lhs;whnf
 exact rq
 refine br ?_ ?_
 refine br ?_ ?_
 exact fun h=>cq (hcont9 (s1,(if s2<s1 then s1 else s2),IntKind.i64.wrap (s3+1)) (fun _=>0) h)
 refine br ?_ ?_
 refine br ?_ ?_
 refine br ?_ ?_
 exact fun h=>cq (hcont9 (IntKind.i64.wrap (s1 - 1),(if s2<(IntKind.i64.wrap (s1 - 1)) then(IntKind.i64.wrap (s1 - 1)) else s2),IntKind.i64.wrap (s3+1)) (fun _=>0) h)
 intro h;cases sj h
 refine(hK8 _ _).trans ?_
 refine Eq.trans ?_ (Eq.symm (show _=some _ from hr10))
 conv=>lhs;whnf
 exact rq
 intro h;cases sj h
 refine(hK8 _ _).trans ?_
 refine Eq.trans ?_ (Eq.symm (show _=some _ from hr10))
 conv=>lhs;whnf
 exact rq
 intro h;cases sj h
 refine(hK8 _ _).trans ?_
 refine Eq.trans ?_ (Eq.symm (show _=some _ from hr10))
 conv=>lhs;whnf
 exact rq
 refine br ?_ ?_
 refine br ?_ ?_
 refine br ?_ ?_
 exact fun h=>cq (hcont9 (IntKind.i64.wrap (s1 - 1),(if s2<(IntKind.i64.wrap (s1 - 1)) then(IntKind.i64.wrap (s1 - 1)) else s2),IntKind.i64.wrap (s3+1)) (fun _=>0) h)
 intro h;cases sj h
 refine(hK8 _ _).trans ?_
 refine Eq.trans ?_ (Eq.symm (show _=some _ from hr10))
 conv=>lhs;whnf
 exact rq
 intro h;cases sj h
 refine(hK8 _ _).trans ?_
 refine Eq.trans ?_ (Eq.symm (show _=some _ from hr10))
 conv=>lhs;whnf
 exact rq
 intro h;cases sj h
 refine(hK8 _ _).trans ?_
 refine Eq.trans ?_ (Eq.symm (show _=some _ from hr10))
 conv=>lhs;whnf
 exact rq
 intro h;cases sj h
 exact kq (hr10 (fun _=>0))
 refine lrc ?_ ?_
 intro v e;subst e;cases sj h;rfl
 intro t a32 e;subst e
 obtain⟨x33,x34⟩:=t
 dsimp only at h
 conv=>lhs;whnf
 revert h
 exact rz
theorem A1q {n:Nat} ⦃B7:(List OpS)⦄ ⦃Dn:(List Int)⦄ ⦃Bp:Int⦄ ⦃E9:Int⦄ ⦃r:Bool⦄:Gg n B7 Dn Bp E9=some r→CN n 51 [AV.sl 3 (List.map Bh B7),AV.sl 1 (List.map A0 Dn),iA Bp,iA E9] []=some (bA r,[]):=by
 intro h;rcases n with _|n;cases h
 rw[Gg] at h
 refine B0 Try.func51 (by rfl) rfl rfl (Bi rfl) ?_
 intro call hc;conv=>lhs;whnf
 revert h
 intro h;refine Ap h ?_;clear h;intro o9 ho9 h
 refine lq (σ:=Int) (τ:=Unit) (ν:=Bool) 0 (fun s1 a3=>Ba 71 [(0,AV.sl 3 (List.map Bh B7)),(1,AV.sl 1 (List.map A0 Dn)),(2,iA Bp),(3,iA E9),(9,iA s1)]) (fun s1 a3=>[]) (fun _ a32=>Ba 71 [(0,AV.sl 3 (List.map Bh B7))]) (fun _ a32=>[]) (fun v=>(bA v,[])) (fun k s=>C0 n B7 Dn Bp E9 k s) (fun s=>rfl) o9 n 0 (fun _=>0) ho9 ?_ ?_
 intro k2 s1 a3 K4 cont5 hK6 hcont7 h hr8
 replace h:C0 n B7 Dn Bp E9 (k2+1) s1=some o9:=h
 rw[C0] at h
 conv=>lhs;whnf
 revert h
 refine br ?_ ?_
 refine ix ?_;intro x11
 refine br ?_ ?_
 refine ca hc (fun _ h=>Jb h) ?_;intro y13
 refine br ?_ ?_
 exact fun h=>cq (hcont7 (IntKind.i64.wrap (s1+1)) (fun _=>0) h)
 intro h;cases sj h
 refine(hK6 _ _).trans ?_
 refine Eq.trans ?_ (Eq.symm (show _=some _ from hr8))
 conv=>lhs;whnf
 exact rq
 refine br ?_ ?_
 refine ca hc (fun _ h=>Jb h) ?_;intro y17
 refine br ?_ ?_
 exact fun h=>cq (hcont7 (IntKind.i64.wrap (s1+1)) (fun _=>0) h)
 intro h;cases sj h
 refine(hK6 _ _).trans ?_
 refine Eq.trans ?_ (Eq.symm (show _=some _ from hr8))
 conv=>lhs;whnf
 exact rq
 refine br ?_ ?_
 refine ca hc (fun _ h=>Jb h) ?_;intro y21
 refine br ?_ ?_
 exact fun h=>cq (hcont7 (IntKind.i64.wrap (s1+1)) (fun _=>0) h)
 intro h;cases sj h
 refine(hK6 _ _).trans ?_
 refine Eq.trans ?_ (Eq.symm (show _=some _ from hr8))
 conv=>lhs;whnf
 exact rq
 refine br ?_ ?_
 refine cr hc (fun _ h=>Jb h) ?_;intro y25
 refine br ?_ ?_
 refine ix ?_;intro x28
 refine ca hc (fun _ h=>Jb h) ?_;intro y29
 refine br ?_ ?_
 exact fun h=>cq (hcont7 (IntKind.i64.wrap (s1+1)) (fun _=>0) h)
 intro h;cases sj h
 refine(hK6 _ _).trans ?_
 refine Eq.trans ?_ (Eq.symm (show _=some _ from hr8))
 conv=>lhs;whnf
 exact rq
 intro h;cases sj h
 refine(hK6 _ _).trans ?_
 refine Eq.trans ?_ (Eq.symm (show _=some _ from hr8))
 conv=>lhs;whnf
 exact rq
 exact fun h=>cq (hcont7 (IntKind.i64.wrap (s1+1)) (fun _=>0) h)
 intro h;cases sj h
 exact kq (hr8 (fun _=>0))
 refine lrc ?_ ?_
 intro v e;subst e;cases sj h;rfl
 intro t a32 e;subst e
 dsimp only at h
 conv=>lhs;whnf
 revert h
 refine ca hc (fun _ h=>A3j h) ?_;intro y33
 exact rz
theorem Ek {n:Nat} ⦃U1:Bool⦄ ⦃r:Int⦄:Cr n U1=some r→CN n 58 [bA U1] []=some (iA r,[]):=by
 intro h;rcases n with _|n;cases h
 rw[Cr] at h
 refine B0 Try.func58 (by rfl) rfl rfl (Bi rfl) ?_
 intro call hc;conv=>lhs;whnf
 revert h
 refine br ?_ ?_
 exact rz
 exact rz
theorem A6p {n:Nat} ⦃Jj:Int⦄ ⦃Lp:Int⦄ ⦃Lr:Int⦄ ⦃In:Int⦄ ⦃r:Int⦄:I3 n Jj Lp Lr In=some r→CN n 59 [iA Jj,iA Lp,iA Lr,iA In] []=some (iA r,[]):=by
 intro h;rcases n with _|n;cases h
 rw[I3] at h
 refine B0 Try.func59 (by rfl) rfl rfl (Bi rfl) ?_
 intro call hc;conv=>lhs;whnf
 revert h
 refine br ?_ ?_
 refine bf ?_
 exact rz
 refine br ?_ ?_
 refine bf ?_
 exact rz
 refine br ?_ ?_
 refine bf ?_
 exact rz
 refine br ?_ ?_
 refine ca hc (fun _ h=>Ek h) ?_;intro y8
 exact rz
 refine br ?_ ?_
 refine ca hc (fun _ h=>Ek h) ?_;intro y11
 exact rz
 refine br ?_ ?_
 refine ca hc (fun _ h=>Ek h) ?_;intro y14
 exact rz
 refine br ?_ ?_
 refine ca hc (fun _ h=>Ek h) ?_;intro y17
 exact rz
 refine br ?_ ?_
 refine br ?_ ?_
 refine ca hc (fun _ h=>Ek h) ?_;intro y21
 exact rz
 refine ca hc (fun _ h=>Ek h) ?_;intro y23
 exact rz
 refine br ?_ ?_
 refine ca hc (fun _ h=>Ek h) ?_;intro y26
 exact rz
 refine ca hc (fun _ h=>Ek h) ?_;intro y28
 exact rz
theorem A0v {n:Nat} ⦃B7:(List OpS)⦄ ⦃Aw:Int⦄ ⦃Bp:(List Int)⦄ ⦃Ce:(List (List Int))⦄ ⦃Db:(List Int)⦄ ⦃r:(Int×Bool)⦄:Gl n B7 Aw Bp Ce Db=some r→CN n 53 [AV.sl 3 (List.map Bh B7),iA Aw,AV.sl 1 (List.map A0 Bp),AV.sl 1 (List.map Ad Ce),AV.sl 1 (List.map A0 Db)] []=some (AV.tup [iA r.1,bA r.2],[]):=by
 intro h;rcases n with _|n;cases h
 rw[Gl] at h
 refine B0 Try.func53 (by rfl) rfl rfl (Bi rfl) ?_
 intro call hc;conv=>lhs;whnf
 revert h
 refine br ?_ ?_
 exact rz
 refine br ?_ ?_
 exact rz
 refine ca hc (fun _ h=>Qj h) ?_;intro y3
 refine br ?_ ?_
 refine ca hc (fun _ h=>Qj h) ?_;intro y6
 refine br ?_ ?_
 intro h;refine Ap h ?_;clear h;intro o18 ho18 h
 refine lq (σ:=(Int×(List Int))) (τ:=(List Int)) (ν:=(Int×Bool)) 0 (fun(s9,s10) a12=>Ba 162 [(0,AV.sl 3 (List.map Bh B7)),(1,iA Aw),(2,AV.sl 1 (List.map A0 Bp)),(3,AV.sl 1 (List.map Ad Ce)),(4,AV.sl 1 (List.map A0 Db)),(12,AV.row 0 (List.length s10)),(13,iA s9)]) (fun(s9,s10) a12=>[Ob.row 3 1 (List.map A0 s10)]) (fun x28 a27=>Ba 162 [(0,AV.sl 3 (List.map Bh B7)),(1,iA Aw),(2,AV.sl 1 (List.map A0 Bp)),(3,AV.sl 1 (List.map Ad Ce)),(4,AV.sl 1 (List.map A0 Db)),(12,AV.row 0 (List.length x28))]) (fun x28 a27=>[Ob.row 3 1 (List.map A0 x28)]) (fun v=>(AV.tup [iA v.1,bA v.2],[])) (fun k s=>Cq n Aw Ce k s.1 s.2) (fun s=>rfl) o18 n (0,([]:List Int)) (fun _=>0) ho18 ?_ ?_
 intro k11 ss a12 K13 cont14 hK15 hcont16 h hr17
 obtain⟨s9,s10⟩:=ss
 replace h:Cq n Aw Ce (k11+1) s9 s10=some o18:=h
 rw[Cq] at h
 conv=>lhs;whnf
 revert h
 refine br ?_ ?_
 refine ix ?_;intro x20
 refine ca hc (fun _ h=>Qj h) ?_;intro y21
 refine br ?_ ?_
 refine ix ?_;intro x24
 refine ar (ap A0 (List.map A0 s10) s10 ([[iA (((x24.length:Nat):Int))]]) ([((x24.length:Nat):Int)]:List Int)) ?_
 exact fun h=>cq (hcont16 (IntKind.i64.wrap (s9+1),(s10++([((x24.length:Nat):Int)]:List Int))) (fun _=>0) h)
 intro h;cases sj h
 refine(hK15 _ _).trans ?_
 refine Eq.trans ?_ (Eq.symm (show _=some _ from hr17))
 conv=>lhs;whnf
 exact rq
 intro h;cases sj h
 exact kq (hr17 (fun _=>0))
 refine lrc ?_ ?_
 intro v e;subst e;cases sj h;rfl
 intro x28 a27 e;subst e
 dsimp only at h
 conv=>lhs;whnf
 revert h
 refine cr hc (fun _ h=>A1q h) ?_;intro y29
 refine br ?_ ?_
 intro h;refine Ap h ?_;clear h;intro o41 ho41 h
 refine lq (σ:=(Int×(List Int))) (τ:=(List Int)) (ν:=(Int×Bool)) 2 (fun(s32,s33) a35=>Ba 162 [(0,AV.sl 3 (List.map Bh B7)),(1,iA Aw),(2,AV.sl 1 (List.map A0 Bp)),(3,AV.sl 1 (List.map Ad Ce)),(4,AV.sl 1 (List.map A0 Db)),(14,AV.stk 1 (a35 1) (List.length s33)),(15,iA s32)]) (fun(s32,s33) a35=>[Ob.row 3 1 (List.map A0 x28),Ob.stk (a35 1) 3 1 (List.map A0 s33)]) (fun x80 a79=>Ba 162 [(14,AV.stk 1 (a79 1) (List.length x80))]) (fun x80 a79=>[Ob.row 3 1 (List.map A0 x28),Ob.stk (a79 1) 3 1 (List.map A0 x80)]) (fun v=>(AV.tup [iA v.1,bA v.2],[])) (fun k s=>Bt n B7 Aw Bp Ce Db k s.1 s.2) (fun s=>rfl) o41 n (0,([]:List Int)) (fun j=>(bif Nat.beq j 1 then 0 else 0)) ho41 ?_ ?_
 intro k34 ss a35 K36 cont37 hK38 hcont39 h hr40
 obtain⟨s32,s33⟩:=ss
 replace h:Bt n B7 Aw Bp Ce Db (k34+1) s32 s33=some o41:=h
 rw[Bt] at h
 conv=>lhs;whnf
 revert h
 refine br ?_ ?_
 refine ix ?_;intro x43
 refine br ?_ ?_
 refine bf ?_
 intro h
 refine Fx h ?_;clear h;intro hc48 h
 try simp only[B8]
 conv=>lhs;whnf
 first|refine At (Kb hc48 (by first|rfl|simp only [A4]) (by first|rfl|simp only [A4]) (by first|rfl|simp only [A4,Bc]) (by kernel_rfl)) ?_|refine At (It hc48 (by first|rfl|simp only [A4]) (by first|rfl|simp only [A4,Bc]) (by kernel_rfl)) ?_
 try simp only[lt]
 have hp46:(List.map A0 s33:List (List AV))++[[iA ((Int.tmod x43.n Aw))]]=List.map A0 (s33++([(Int.tmod x43.n Aw)]:List Int)):=by first|rfl|(rw[List.map_append];rfl)|(rw[List.map_append];done)|(simp only[List.map_append,List.map_cons,List.map_nil,List.nil_append,A0]<;>rfl)
 have hl47:List.length (List.map A0 s33:List (List AV))+List.length ([[iA ((Int.tmod x43.n Aw))]]:List (List AV))=List.length (s33++([(Int.tmod x43.n Aw)]:List Int)):=by simp only[A4,List.length_append]<;>rfl
 have hl47_b:List.length s33+List.length ([[iA ((Int.tmod x43.n Aw))]]:List (List AV))=List.length (s33++([(Int.tmod x43.n Aw)]:List Int)):=by simp only[A4,List.length_append]<;>rfl
 have hl47_c:List.length s33+List.length ([(Int.tmod x43.n Aw)]:List Int)=List.length (s33++([(Int.tmod x43.n Aw)]:List Int)):=by simp only[A4,List.length_append]<;>rfl
 first|simp only [hp46,hl47]|(simp only[A4,Bc];simp only[hp46,hl47_b,hl47_c])
 try simp only[ls]
 conv=>lhs;whnf
 revert h
 exact fun h=>cq (hcont39 (IntKind.i64.wrap (s32+1),(s33++([(Int.tmod x43.n Aw)]:List Int))) (fun j=>(bif Nat.beq j 1 then((a35 1)+1) else 0)) h)
 refine br ?_ ?_
 refine ix ?_;intro x50
 intro h
 refine Fx h ?_;clear h;intro hc53 h
 try simp only[B8]
 conv=>lhs;whnf
 first|refine At (Kb hc53 (by first|rfl|simp only [A4]) (by first|rfl|simp only [A4]) (by first|rfl|simp only [A4,Bc]) (by kernel_rfl)) ?_|refine At (It hc53 (by first|rfl|simp only [A4]) (by first|rfl|simp only [A4,Bc]) (by kernel_rfl)) ?_
 try simp only[lt]
 have hp51:(List.map A0 s33:List (List AV))++[[iA x50]]=List.map A0 (s33++([x50]:List Int)):=by first|rfl|(rw[List.map_append];rfl)|(rw[List.map_append];done)|(simp only[List.map_append,List.map_cons,List.map_nil,List.nil_append,A0]<;>rfl)
 have hl52:List.length (List.map A0 s33:List (List AV))+List.length ([[iA x50]]:List (List AV))=List.length (s33++([x50]:List Int)):=by simp only[A4,List.length_append]<;>rfl
 have hl52_b:List.length s33+List.length ([[iA x50]]:List (List AV))=List.length (s33++([x50]:List Int)):=by simp only[A4,List.length_append]<;>rfl
 have hl52_c:List.length s33+List.length ([x50]:List Int)=List.length (s33++([x50]:List Int)):=by simp only[A4,List.length_append]<;>rfl
 first|simp only [hp51,hl52]|(simp only[A4,Bc];simp only[hp51,hl52_b,hl52_c])
 try simp only[ls]
 conv=>lhs;whnf
 revert h
 exact fun h=>cq (hcont39 (IntKind.i64.wrap (s32+1),(s33++([x50]:List Int))) (fun j=>(bif Nat.beq j 1 then((a35 1)+1) else 0)) h)
 refine br ?_ ?_
 refine ix ?_;intro x55
 intro h
 refine Fx h ?_;clear h;intro hc58 h
 try simp only[B8]
 conv=>lhs;whnf
 first|refine At (Kb hc58 (by first|rfl|simp only [A4]) (by first|rfl|simp only [A4]) (by first|rfl|simp only [A4,Bc]) (by kernel_rfl)) ?_|refine At (It hc58 (by first|rfl|simp only [A4]) (by first|rfl|simp only [A4,Bc]) (by kernel_rfl)) ?_
 try simp only[lt]
 have hp56:(List.map A0 s33:List (List AV))++[[iA x55]]=List.map A0 (s33++([x55]:List Int)):=by first|rfl|(rw[List.map_append];rfl)|(rw[List.map_append];done)|(simp only[List.map_append,List.map_cons,List.map_nil,List.nil_append,A0]<;>rfl)
 have hl57:List.length (List.map A0 s33:List (List AV))+List.length ([[iA x55]]:List (List AV))=List.length (s33++([x55]:List Int)):=by simp only[A4,List.length_append]<;>rfl
 have hl57_b:List.length s33+List.length ([[iA x55]]:List (List AV))=List.length (s33++([x55]:List Int)):=by simp only[A4,List.length_append]<;>rfl
 have hl57_c:List.length s33+List.length ([x55]:List Int)=List.length (s33++([x55]:List Int)):=by simp only[A4,List.length_append]<;>rfl
 first|simp only [hp56,hl57]|(simp only[A4,Bc];simp only[hp56,hl57_b,hl57_c])
 try simp only[ls]
 conv=>lhs;whnf
 revert h
 exact fun h=>cq (hcont39 (IntKind.i64.wrap (s32+1),(s33++([x55]:List Int))) (fun j=>(bif Nat.beq j 1 then((a35 1)+1) else 0)) h)
 refine br ?_ ?_
 refine ix ?_;intro x60
 refine ix ?_;intro x61
 intro h
 refine Fx h ?_;clear h;intro hc64 h
 try simp only[B8]
 conv=>lhs;whnf
 first|refine At (Kb hc64 (by first|rfl|simp only [A4]) (by first|rfl|simp only [A4]) (by first|rfl|simp only [A4,Bc]) (by kernel_rfl)) ?_|refine At (It hc64 (by first|rfl|simp only [A4]) (by first|rfl|simp only [A4,Bc]) (by kernel_rfl)) ?_
 try simp only[lt]
 have hp62:(List.map A0 s33:List (List AV))++[[iA x61]]=List.map A0 (s33++([x61]:List Int)):=by first|rfl|(rw[List.map_append];rfl)|(rw[List.map_append];done)|(simp only[List.map_append,List.map_cons,List.map_nil,List.nil_append,A0]<;>rfl)
 have hl63:List.length (List.map A0 s33:List (List AV))+List.length ([[iA x61]]:List (List AV))=List.length (s33++([x61]:List Int)):=by simp only[A4,List.length_append]<;>rfl
 have hl63_b:List.length s33+List.length ([[iA x61]]:List (List AV))=List.length (s33++([x61]:List Int)):=by simp only[A4,List.length_append]<;>rfl
 have hl63_c:List.length s33+List.length ([x61]:List Int)=List.length (s33++([x61]:List Int)):=by simp only[A4,List.length_append]<;>rfl
 first|simp only [hp62,hl63]|(simp only[A4,Bc];simp only[hp62,hl63_b,hl63_c])
 try simp only[ls]
 conv=>lhs;whnf
 revert h
 exact fun h=>cq (hcont39 (IntKind.i64.wrap (s32+1),(s33++([x61]:List Int))) (fun j=>(bif Nat.beq j 1 then((a35 1)+1) else 0)) h)
 refine br ?_ ?_
 intro h
 refine Ap h ?_;clear h;intro x66 hx66 h
 try simp only[B8]
 conv=>lhs;whnf
 try simp only[ls]
 refine At (by first|exact Cz hx66|exact Gt hx66|exact J7 hx66|exact D0 hx66|(have q:=Cz hx66;simp only[List.length_set] at q;exact q)|(have q:=D0 hx66;simp only[List.length_set,Nat.zero_add] at q ⊢;exact q)) ?_
 conv=>lhs;whnf
 try simp only[Fm (f:=A0) hx66,B8,ls]
 conv=>lhs;whnf
 revert h
 refine ca hc (fun _ h=>Ek h) ?_;intro y67
 intro h
 refine Ap h ?_;clear h;intro x69 hx69 h
 try simp only[B8]
 conv=>lhs;whnf
 try simp only[ls]
 refine At (by first|exact Cz hx69|exact Gt hx69|exact J7 hx69|exact D0 hx69|(have q:=Cz hx69;simp only[List.length_set] at q;exact q)|(have q:=D0 hx69;simp only[List.length_set,Nat.zero_add] at q ⊢;exact q)) ?_
 conv=>lhs;whnf
 try simp only[Fm (f:=A0) hx69,B8,ls]
 conv=>lhs;whnf
 revert h
 intro h
 have hs70:Bm (List.map A0 s33) (IntKind.i64.wrap (((s33.length:Nat):Int) - 1)).toNat [iA y67]=List.map A0 (List.set s33 (IntKind.i64.wrap (((s33.length:Nat):Int) - 1)).toNat y67):=by rw[B2,List.map_set];rfl
 have hs70_u:Bm (List.map A0 s33) (IntKind.i64.wrap (((s33.length:Nat):Int) - 1)).toNat (B6 (A0 x69) 0 [iA y67])=List.map A0 (List.set s33 (IntKind.i64.wrap (((s33.length:Nat):Int) - 1)).toNat y67):=by rw[B2,List.map_set];rfl
 try simp only[Fm (f:=A0) hx69,B8]
 conv=>lhs;whnf
 try simp only[hs70,hs70_u,B8]
 conv=>lhs;whnf
 revert h
 exact fun h=>cq (hcont39 (IntKind.i64.wrap (s32+1),(List.set s33 (IntKind.i64.wrap (((s33.length:Nat):Int) - 1)).toNat y67)) (fun j=>(bif Nat.beq j 1 then(a35 1) else 0)) h)
 intro h
 refine Ap h ?_;clear h;intro x71 hx71 h
 try simp only[B8]
 conv=>lhs;whnf
 try simp only[ls]
 refine At (by first|exact Cz hx71|exact Gt hx71|exact J7 hx71|exact D0 hx71|(have q:=Cz hx71;simp only[List.length_set] at q;exact q)|(have q:=D0 hx71;simp only[List.length_set,Nat.zero_add] at q ⊢;exact q)) ?_
 conv=>lhs;whnf
 try simp only[Fm (f:=A0) hx71,B8,ls]
 conv=>lhs;whnf
 revert h
 intro h
 refine Ap h ?_;clear h;intro x72 hx72 h
 try simp only[B8]
 conv=>lhs;whnf
 try simp only[ls]
 refine At (by first|exact Cz hx72|exact Gt hx72|exact J7 hx72|exact D0 hx72|(have q:=Cz hx72;simp only[List.length_set] at q;exact q)|(have q:=D0 hx72;simp only[List.length_set,Nat.zero_add] at q ⊢;exact q)) ?_
 conv=>lhs;whnf
 try simp only[Fm (f:=A0) hx72,B8,ls]
 conv=>lhs;whnf
 revert h
 refine ca hc (fun _ h=>A6p h) ?_;intro y73
 intro h
 refine Ap h ?_;clear h;intro x75 hx75 h
 try simp only[B8]
 conv=>lhs;whnf
 try simp only[ls]
 refine At (by first|exact Cz hx75|exact Gt hx75|exact J7 hx75|exact D0 hx75|(have q:=Cz hx75;simp only[List.length_set] at q;exact q)|(have q:=D0 hx75;simp only[List.length_set,Nat.zero_add] at q ⊢;exact q)) ?_
 conv=>lhs;whnf
 try simp only[Fm (f:=A0) hx75,B8,ls]
 conv=>lhs;whnf
 revert h
 intro h
 have hs76:Bm (List.map A0 s33) (IntKind.i64.wrap (((s33.length:Nat):Int) - 2)).toNat [iA y73]=List.map A0 (List.set s33 (IntKind.i64.wrap (((s33.length:Nat):Int) - 2)).toNat y73):=by rw[B2,List.map_set];rfl
 have hs76_u:Bm (List.map A0 s33) (IntKind.i64.wrap (((s33.length:Nat):Int) - 2)).toNat (B6 (A0 x75) 0 [iA y73])=List.map A0 (List.set s33 (IntKind.i64.wrap (((s33.length:Nat):Int) - 2)).toNat y73):=by rw[B2,List.map_set];rfl
 try simp only[Fm (f:=A0) hx75,B8]
 conv=>lhs;whnf
 try simp only[hs76,hs76_u,B8]
 conv=>lhs;whnf
 revert h
 intro h
 refine Fx h ?_;clear h;intro hc78 h
 try simp only[B8]
 conv=>lhs;whnf
 try simp only[ls]
 first|refine At hc78 ?_|(refine At (by have q:=hc78;simp only[List.length_set] at q;exact q) ?_)
 have hs77:List.take ((IntKind.i64.wrap (((s33.length:Nat):Int) - 1)).toNat) (List.map A0 (List.set s33 (IntKind.i64.wrap (((s33.length:Nat):Int) - 2)).toNat y73))=List.map A0 (List.take ((IntKind.i64.wrap (((s33.length:Nat):Int) - 1)).toNat) (List.set s33 (IntKind.i64.wrap (((s33.length:Nat):Int) - 2)).toNat y73)):=by rw[List.map_take]
 have hs77_l:List.length (List.take ((IntKind.i64.wrap (((s33.length:Nat):Int) - 1)).toNat) (List.set s33 (IntKind.i64.wrap (((s33.length:Nat):Int) - 2)).toNat y73))=(IntKind.i64.wrap (((s33.length:Nat):Int) - 1)).toNat:=by simp only[List.length_take];exact Nat.min_eq_left (Ada hc78)
 conv=>lhs;whnf
 try simp only[B8,hs77]
 conv=>lhs;whnf
 try simp only[hs77]
 have hs77_s:∀ q,AV.stk 1 q ((IntKind.i64.wrap (((s33.length:Nat):Int) - 1)).toNat)=AV.stk 1 q (List.length (List.take ((IntKind.i64.wrap (((s33.length:Nat):Int) - 1)).toNat) (List.set s33 (IntKind.i64.wrap (((s33.length:Nat):Int) - 2)).toNat y73))):=fun q=>by rw[hs77_l]
 try simp only[hs77_s]
 conv=>lhs;whnf
 revert h
 exact fun h=>cq (hcont39 (IntKind.i64.wrap (s32+1),(List.take ((IntKind.i64.wrap (((s33.length:Nat):Int) - 1)).toNat) (List.set s33 (IntKind.i64.wrap (((s33.length:Nat):Int) - 2)).toNat y73))) (fun j=>(bif Nat.beq j 1 then((a35 1)+1) else 0)) h)
 intro h;cases sj h
 exact kq (hr40 (fun j=>(bif Nat.beq j 1 then(a35 1) else 0)))
 refine lrc ?_ ?_
 intro v e;subst e;cases sj h;rfl
 intro x80 a79 e;subst e
 dsimp only at h
 conv=>lhs;whnf
 revert h
 intro h
 refine Ap h ?_;clear h;intro x81 hx81 h
 try simp only[B8]
 conv=>lhs;whnf
 try simp only[ls]
 refine At (by first|exact Cz hx81|exact Gt hx81|exact J7 hx81|exact D0 hx81|(have q:=Cz hx81;simp only[List.length_set] at q;exact q)|(have q:=D0 hx81;simp only[List.length_set,Nat.zero_add] at q ⊢;exact q)) ?_
 conv=>lhs;whnf
 try simp only[Fm (f:=A0) hx81,B8,ls]
 conv=>lhs;whnf
 revert h
 exact rz
 exact rz
 exact rz
 exact rz
theorem A1c {n:Nat} ⦃Ah:(List A2)⦄ ⦃Cg:Int⦄ ⦃r:Int⦄:Gh n Ah Cg=some r→CN n 57 [AV.sl 2 (List.map Ak Ah),iA Cg] []=some (iA r,[]):=by
 intro h;rcases n with _|n;cases h
 rw[Gh] at h
 refine B0 Try.func57 (by rfl) rfl rfl (Bi rfl) ?_
 intro call hc;conv=>lhs;whnf
 revert h
 intro h;refine Ap h ?_;clear h;intro o10 ho10 h
 refine lq (σ:=(Int×Int)) (τ:=Int) (ν:=Int) 0 (fun(s1,s2) a4=>Ba 23 [(0,AV.sl 2 (List.map Ak Ah)),(1,iA Cg),(5,iA s1),(6,iA s2)]) (fun(s1,s2) a4=>[]) (fun x15 a14=>Ba 23 [(5,iA x15)]) (fun x15 a14=>[]) (fun v=>(iA v,[])) (fun k s=>Cw n Ah Cg k s.1 s.2) (fun s=>rfl) o10 n (0,0) (fun _=>0) ho10 ?_ ?_
 intro k3 ss a4 K5 cont6 hK7 hcont8 h hr9
 obtain⟨s1,s2⟩:=ss
 replace h:Cw n Ah Cg (k3+1) s1 s2=some o10:=h
 rw[Cw] at h
 conv=>lhs;whnf
 revert h
 refine br ?_ ?_
 refine ix ?_;intro x12
 refine br ?_ ?_
 exact fun h=>cq (hcont8 (IntKind.i64.wrap (s1+1),IntKind.i64.wrap (s2+1)) (fun _=>0) h)
 exact fun h=>cq (hcont8 (s1,IntKind.i64.wrap (s2+1)) (fun _=>0) h)
 intro h;cases sj h
 exact kq (hr9 (fun _=>0))
 refine lrc ?_ ?_
 intro v e;subst e;cases sj h;rfl
 intro x15 a14 e;subst e
 dsimp only at h
 conv=>lhs;whnf
 revert h
 exact rz
theorem A3g {n:Nat} ⦃Ah:(List A2)⦄ ⦃An:Int⦄ ⦃Ca:Int⦄ ⦃H9:Int⦄ ⦃r:Bool⦄:H7 n Ah An Ca H9=some r→CN n 52 [AV.sl 2 (List.map Ak Ah),iA An,iA Ca,iA H9] []=some (bA r,[]):=by
 intro h;rcases n with _|n;cases h
 rw[H7] at h
 refine B0 Try.func52 (by rfl) rfl rfl (Bi rfl) ?_
 intro call hc;conv=>lhs;whnf
 revert h
 refine br ?_ ?_
 exact rz
 refine br ?_ ?_
 refine ca hc (fun _ h=>A1c h) ?_;intro y3
 exact rz
 exact rz
theorem A37 {n:Nat} ⦃Ah:(List A2)⦄ ⦃Cg:Int⦄ ⦃r:(Int×Bool)⦄:Gy n Ah Cg=some r→CN n 54 [AV.sl 2 (List.map Ak Ah),iA Cg] []=some (AV.tup [iA r.1,bA r.2],[]):=by
 intro h;rcases n with _|n;cases h
 rw[Gy] at h
 refine B0 Try.func54 (by rfl) rfl rfl (Bi rfl) ?_
 intro call hc;conv=>lhs;whnf
 revert h
 intro h;refine Ap h ?_;clear h;intro o9 ho9 h
 refine lq (σ:=Int) (τ:=Unit) (ν:=(Int×Bool)) 0 (fun s1 a3=>Ba 26 [(0,AV.sl 2 (List.map Ak Ah)),(1,iA Cg),(6,iA s1)]) (fun s1 a3=>[]) (fun _ a14=>Ba 26 []) (fun _ a14=>[]) (fun v=>(AV.tup [iA v.1,bA v.2],[])) (fun k s=>Di n Ah Cg k s) (fun s=>rfl) o9 n (IntKind.i64.wrap (((Ah.length:Nat):Int) - 1)) (fun _=>0) ho9 ?_ ?_
 intro k2 s1 a3 K4 cont5 hK6 hcont7 h hr8
 replace h:Di n Ah Cg (k2+1) s1=some o9:=h
 rw[Di] at h
 conv=>lhs;whnf
 revert h
 refine br ?_ ?_
 refine ix ?_;intro x11
 refine br ?_ ?_
 refine ix ?_;intro x13
 intro h;cases sj h
 refine(hK6 _ _).trans ?_
 refine Eq.trans ?_ (Eq.symm (show _=some _ from hr8))
 conv=>lhs;whnf
 exact rq
 exact fun h=>cq (hcont7 (IntKind.i64.wrap (s1 - 1)) (fun _=>0) h)
 intro h;cases sj h
 exact kq (hr8 (fun _=>0))
 refine lrc ?_ ?_
 intro v e;subst e;cases sj h;rfl
 intro t a14 e;subst e
 dsimp only at h
 conv=>lhs;whnf
 revert h
 exact rz
theorem A61 {n:Nat} ⦃Ah:(List A2)⦄ ⦃An:Int⦄ ⦃Ct:Int⦄ ⦃r:((List A2)×A2×Bool)⦄:I2 n Ah An Ct=some r→CN n 40 [AV.sl 2 (List.map Ak Ah),iA An,iA Ct] []=some (AV.tup [AV.sl 2 (List.map Ak r.1),AV.agg [iA (r.2.1.loc),iA (r.2.1.n)],bA r.2.2],[]):=by
 intro h;rcases n with _|n;cases h
 rw[I2] at h
 refine B0 Try.func40 (by rfl) rfl rfl (Bi rfl) ?_
 intro call hc;conv=>lhs;whnf
 revert h
 intro h;refine Ap h ?_;clear h;intro o10 ho10 h
 refine lq (σ:=(Int×Int)) (τ:=Int) (ν:=((List A2)×A2×Bool)) 0 (fun(s1,s2) a4=>Ba 75 [(0,AV.sl 2 (List.map Ak Ah)),(1,iA An),(2,iA Ct),(7,AV.ptr 0 0),(9,iA s1),(10,iA s2)]) (fun(s1,s2) a4=>[Ob.var 84 [iA (0),iA (0)]]) (fun x17 a16=>Ba 75 [(0,AV.sl 2 (List.map Ak Ah)),(1,iA An),(7,AV.ptr 0 0),(9,iA x17)]) (fun x17 a16=>[Ob.var 84 [iA (0),iA (0)]]) (fun v=>(AV.tup [AV.sl 2 (List.map Ak v.1),AV.agg [iA (v.2.1.loc),iA (v.2.1.n)],bA v.2.2],[])) (fun k s=>Cd n Ah An Ct k s.1 s.2) (fun s=>rfl) o10 n ((-1),IntKind.i64.wrap (((Ah.length:Nat):Int) - 1)) (fun _=>0) ho10 ?_ ?_
 intro k3 ss a4 K5 cont6 hK7 hcont8 h hr9
 obtain⟨s1,s2⟩:=ss
 replace h:Cd n Ah An Ct (k3+1) s1 s2=some o10:=h
 rw[Cd] at h
 conv=>lhs;whnf
 revert h
 refine br ?_ ?_
 refine ix ?_;intro x12
 refine br ?_ ?_
 exact fun h=>cq (hcont8 (s2,IntKind.i64.wrap (s2 - 1)) (fun _=>0) h)
 refine br ?_ ?_
 refine br ?_ ?_
 exact fun h=>cq (hcont8 (s2,IntKind.i64.wrap (s2 - 1)) (fun _=>0) h)
 exact fun h=>cq (hcont8 (s1,IntKind.i64.wrap (s2 - 1)) (fun _=>0) h)
 exact fun h=>cq (hcont8 (s1,IntKind.i64.wrap (s2 - 1)) (fun _=>0) h)
 intro h;cases sj h
 exact kq (hr9 (fun _=>0))
 refine lrc ?_ ?_
 intro v e;subst e;cases sj h;rfl
 intro x17 a16 e;subst e
 dsimp only at h
 conv=>lhs;whnf
 revert h
 refine br ?_ ?_
 refine br ?_ ?_
 intro h;refine Ap h ?_;clear h;intro o29 ho29 h
 refine lq (σ:=(Int×(List A2))) (τ:=(List A2)) (ν:=((List A2)×A2×Bool)) 2 (fun(s20,s21) a23=>Ba 75 [(0,AV.sl 2 (List.map Ak Ah)),(7,AV.ptr 0 0),(9,iA ((-1))),(11,AV.row 1 (List.length s21)),(12,iA s20)]) (fun(s20,s21) a23=>[Ob.var 84 [iA (0),iA (0)],Ob.row 84 2 (List.map Ak s21)]) (fun x36 a35=>Ba 75 [(0,AV.sl 2 (List.map Ak Ah)),(7,AV.ptr 0 0),(9,iA ((-1))),(11,AV.row 1 (List.length x36))]) (fun x36 a35=>[Ob.var 84 [iA (0),iA (0)],Ob.row 84 2 (List.map Ak x36)]) (fun v=>(AV.tup [AV.sl 2 (List.map Ak v.1),AV.agg [iA (v.2.1.loc),iA (v.2.1.n)],bA v.2.2],[])) (fun k s=>Ed n Ah k s.1 s.2) (fun s=>rfl) o29 n (0,([]:List A2)) (fun _=>0) ho29 ?_ ?_
 intro k22 ss a23 K24 cont25 hK26 hcont27 h hr28
 obtain⟨s20,s21⟩:=ss
 replace h:Ed n Ah (k22+1) s20 s21=some o29:=h
 rw[Ed] at h
 conv=>lhs;whnf
 revert h
 refine br ?_ ?_
 refine br ?_ ?_
 refine ix ?_;intro x32
 refine ar (ap Ak (List.map Ak s21) s21 ([[iA (x32.loc),iA (x32.n)]]) ([x32]:List A2)) ?_
 exact fun h=>cq (hcont27 (IntKind.i64.wrap (s20+1),(s21++([x32]:List A2))) (fun _=>0) h)
 exact fun h=>cq (hcont27 (IntKind.i64.wrap (s20+1),s21) (fun _=>0) h)
 intro h;cases sj h
 exact kq (hr28 (fun _=>0))
 refine lrc ?_ ?_
 intro v e;subst e;cases sj h;rfl
 intro x36 a35 e;subst e
 dsimp only at h
 conv=>lhs;whnf
 revert h
 intro h;cases sj h
 try simp only[ls]
 exact fq (y:=some (AV.tup [AV.sl 2 (List.take (List.length x36) (List.map Ak x36)),AV.agg [iA (0),iA (0)],bA false],[]))
 refine br ?_ ?_
 refine br ?_ ?_
 intro h;refine Ap h ?_;clear h;intro o49 ho49 h
 refine lq (σ:=(Int×(List A2))) (τ:=(List A2)) (ν:=((List A2)×A2×Bool)) 2 (fun(s40,s41) a43=>Ba 75 [(0,AV.sl 2 (List.map Ak Ah)),(7,AV.ptr 0 0),(9,iA ((-1))),(11,AV.row 1 (List.length s41)),(12,iA s40)]) (fun(s40,s41) a43=>[Ob.var 84 [iA (0),iA (0)],Ob.row 84 2 (List.map Ak s41)]) (fun x56 a55=>Ba 75 [(0,AV.sl 2 (List.map Ak Ah)),(7,AV.ptr 0 0),(9,iA ((-1))),(11,AV.row 1 (List.length x56))]) (fun x56 a55=>[Ob.var 84 [iA (0),iA (0)],Ob.row 84 2 (List.map Ak x56)]) (fun v=>(AV.tup [AV.sl 2 (List.map Ak v.1),AV.agg [iA (v.2.1.loc),iA (v.2.1.n)],bA v.2.2],[])) (fun k s=>Fs n Ah k s.1 s.2) (fun s=>rfl) o49 n (0,([]:List A2)) (fun _=>0) ho49 ?_ ?_
 intro k42 ss a43 K44 cont45 hK46 hcont47 h hr48
 obtain⟨s40,s41⟩:=ss
 replace h:Fs n Ah (k42+1) s40 s41=some o49:=h
 rw[Fs] at h
 conv=>lhs;whnf
 revert h
 refine br ?_ ?_
 refine br ?_ ?_
 refine ix ?_;intro x52
 refine ar (ap Ak (List.map Ak s41) s41 ([[iA (x52.loc),iA (x52.n)]]) ([x52]:List A2)) ?_
 exact fun h=>cq (hcont47 (IntKind.i64.wrap (s40+1),(s41++([x52]:List A2))) (fun _=>0) h)
 exact fun h=>cq (hcont47 (IntKind.i64.wrap (s40+1),s41) (fun _=>0) h)
 intro h;cases sj h
 exact kq (hr48 (fun _=>0))
 refine lrc ?_ ?_
 intro v e;subst e;cases sj h;rfl
 intro x56 a55 e;subst e
 dsimp only at h
 conv=>lhs;whnf
 revert h
 intro h;cases sj h
 try simp only[ls]
 exact fq (y:=some (AV.tup [AV.sl 2 (List.take (List.length x56) (List.map Ak x56)),AV.agg [iA (0),iA (0)],bA false],[]))
 intro h;refine Ap h ?_;clear h;intro o67 ho67 h
 refine lq (σ:=(Int×(List A2))) (τ:=(List A2)) (ν:=((List A2)×A2×Bool)) 2 (fun(s58,s59) a61=>Ba 75 [(0,AV.sl 2 (List.map Ak Ah)),(7,AV.ptr 0 0),(9,iA x17),(11,AV.row 1 (List.length s59)),(12,iA s58)]) (fun(s58,s59) a61=>[Ob.var 84 [iA (0),iA (0)],Ob.row 84 2 (List.map Ak s59)]) (fun x74 a73=>Ba 75 [(0,AV.sl 2 (List.map Ak Ah)),(7,AV.ptr 0 0),(9,iA x17),(11,AV.row 1 (List.length x74))]) (fun x74 a73=>[Ob.var 84 [iA (0),iA (0)],Ob.row 84 2 (List.map Ak x74)]) (fun v=>(AV.tup [AV.sl 2 (List.map Ak v.1),AV.agg [iA (v.2.1.loc),iA (v.2.1.n)],bA v.2.2],[])) (fun k s=>Fq n Ah x17 k s.1 s.2) (fun s=>rfl) o67 n (0,([]:List A2)) (fun _=>0) ho67 ?_ ?_
 intro k60 ss a61 K62 cont63 hK64 hcont65 h hr66
 obtain⟨s58,s59⟩:=ss
 replace h:Fq n Ah x17 (k60+1) s58 s59=some o67:=h
 rw[Fq] at h
 conv=>lhs;whnf
 revert h
 refine br ?_ ?_
 refine br ?_ ?_
 refine ix ?_;intro x70
 refine ar (ap Ak (List.map Ak s59) s59 ([[iA (x70.loc),iA (x70.n)]]) ([x70]:List A2)) ?_
 exact fun h=>cq (hcont65 (IntKind.i64.wrap (s58+1),(s59++([x70]:List A2))) (fun _=>0) h)
 exact fun h=>cq (hcont65 (IntKind.i64.wrap (s58+1),s59) (fun _=>0) h)
 intro h;cases sj h
 exact kq (hr66 (fun _=>0))
 refine lrc ?_ ?_
 intro v e;subst e;cases sj h;rfl
 intro x74 a73 e;subst e
 dsimp only at h
 conv=>lhs;whnf
 revert h
 refine br ?_ ?_
 intro h;cases sj h
 try simp only[ls]
 exact fq (y:=some (AV.tup [AV.sl 2 (List.take (List.length x74) (List.map Ak x74)),AV.agg [iA (0),iA (0)],bA false],[]))
 refine ix ?_;intro x76
 intro h;cases sj h
 try simp only[ls]
 exact fq (y:=some (AV.tup [AV.sl 2 (List.take (List.length x74) (List.map Ak x74)),AV.agg [iA (x76.loc),iA (x76.n)],bA true],[]))
 intro h;refine Ap h ?_;clear h;intro o87 ho87 h
 refine lq (σ:=(Int×(List A2))) (τ:=(List A2)) (ν:=((List A2)×A2×Bool)) 2 (fun(s78,s79) a81=>Ba 75 [(0,AV.sl 2 (List.map Ak Ah)),(7,AV.ptr 0 0),(9,iA x17),(11,AV.row 1 (List.length s79)),(12,iA s78)]) (fun(s78,s79) a81=>[Ob.var 84 [iA (0),iA (0)],Ob.row 84 2 (List.map Ak s79)]) (fun x94 a93=>Ba 75 [(0,AV.sl 2 (List.map Ak Ah)),(7,AV.ptr 0 0),(9,iA x17),(11,AV.row 1 (List.length x94))]) (fun x94 a93=>[Ob.var 84 [iA (0),iA (0)],Ob.row 84 2 (List.map Ak x94)]) (fun v=>(AV.tup [AV.sl 2 (List.map Ak v.1),AV.agg [iA (v.2.1.loc),iA (v.2.1.n)],bA v.2.2],[])) (fun k s=>D9 n Ah x17 k s.1 s.2) (fun s=>rfl) o87 n (0,([]:List A2)) (fun _=>0) ho87 ?_ ?_
 intro k80 ss a81 K82 cont83 hK84 hcont85 h hr86
 obtain⟨s78,s79⟩:=ss
 replace h:D9 n Ah x17 (k80+1) s78 s79=some o87:=h
 rw[D9] at h
 conv=>lhs;whnf
 revert h
 refine br ?_ ?_
 refine br ?_ ?_
 refine ix ?_;intro x90
 refine ar (ap Ak (List.map Ak s79) s79 ([[iA (x90.loc),iA (x90.n)]]) ([x90]:List A2)) ?_
 exact fun h=>cq (hcont85 (IntKind.i64.wrap (s78+1),(s79++([x90]:List A2))) (fun _=>0) h)
 exact fun h=>cq (hcont85 (IntKind.i64.wrap (s78+1),s79) (fun _=>0) h)
 intro h;cases sj h
 exact kq (hr86 (fun _=>0))
 refine lrc ?_ ?_
 intro v e;subst e;cases sj h;rfl
 intro x94 a93 e;subst e
 dsimp only at h
 conv=>lhs;whnf
 revert h
 refine br ?_ ?_
 intro h;cases sj h
 try simp only[ls]
 exact fq (y:=some (AV.tup [AV.sl 2 (List.take (List.length x94) (List.map Ak x94)),AV.agg [iA (0),iA (0)],bA false],[]))
 refine ix ?_;intro x96
 intro h;cases sj h
 try simp only[ls]
 exact fq (y:=some (AV.tup [AV.sl 2 (List.take (List.length x94) (List.map Ak x94)),AV.agg [iA (x96.loc),iA (x96.n)],bA true],[]))
 refine br ?_ ?_
 refine br ?_ ?_
 intro h;refine Ap h ?_;clear h;intro o109 ho109 h
 refine lq (σ:=(Int×(List A2))) (τ:=(List A2)) (ν:=((List A2)×A2×Bool)) 2 (fun(s100,s101) a103=>Ba 75 [(0,AV.sl 2 (List.map Ak Ah)),(7,AV.ptr 0 0),(9,iA ((-1))),(11,AV.row 1 (List.length s101)),(12,iA s100)]) (fun(s100,s101) a103=>[Ob.var 84 [iA (0),iA (0)],Ob.row 84 2 (List.map Ak s101)]) (fun x116 a115=>Ba 75 [(0,AV.sl 2 (List.map Ak Ah)),(7,AV.ptr 0 0),(9,iA ((-1))),(11,AV.row 1 (List.length x116))]) (fun x116 a115=>[Ob.var 84 [iA (0),iA (0)],Ob.row 84 2 (List.map Ak x116)]) (fun v=>(AV.tup [AV.sl 2 (List.map Ak v.1),AV.agg [iA (v.2.1.loc),iA (v.2.1.n)],bA v.2.2],[])) (fun k s=>Ec n Ah k s.1 s.2) (fun s=>rfl) o109 n (0,([]:List A2)) (fun _=>0) ho109 ?_ ?_
 intro k102 ss a103 K104 cont105 hK106 hcont107 h hr108
 obtain⟨s100,s101⟩:=ss
 replace h:Ec n Ah (k102+1) s100 s101=some o109:=h
 rw[Ec] at h
 conv=>lhs;whnf
 revert h
 refine br ?_ ?_
 refine br ?_ ?_
 refine ix ?_;intro x112
 refine ar (ap Ak (List.map Ak s101) s101 ([[iA (x112.loc),iA (x112.n)]]) ([x112]:List A2)) ?_
 exact fun h=>cq (hcont107 (IntKind.i64.wrap (s100+1),(s101++([x112]:List A2))) (fun _=>0) h)
 exact fun h=>cq (hcont107 (IntKind.i64.wrap (s100+1),s101) (fun _=>0) h)
 intro h;cases sj h
 exact kq (hr108 (fun _=>0))
 refine lrc ?_ ?_
 intro v e;subst e;cases sj h;rfl
 intro x116 a115 e;subst e
 dsimp only at h
 conv=>lhs;whnf
 revert h
 intro h;cases sj h
 try simp only[ls]
 exact fq (y:=some (AV.tup [AV.sl 2 (List.take (List.length x116) (List.map Ak x116)),AV.agg [iA (0),iA (0)],bA false],[]))
 intro h;refine Ap h ?_;clear h;intro o127 ho127 h
 refine lq (σ:=(Int×(List A2))) (τ:=(List A2)) (ν:=((List A2)×A2×Bool)) 2 (fun(s118,s119) a121=>Ba 75 [(0,AV.sl 2 (List.map Ak Ah)),(7,AV.ptr 0 0),(9,iA x17),(11,AV.row 1 (List.length s119)),(12,iA s118)]) (fun(s118,s119) a121=>[Ob.var 84 [iA (0),iA (0)],Ob.row 84 2 (List.map Ak s119)]) (fun x134 a133=>Ba 75 [(0,AV.sl 2 (List.map Ak Ah)),(7,AV.ptr 0 0),(9,iA x17),(11,AV.row 1 (List.length x134))]) (fun x134 a133=>[Ob.var 84 [iA (0),iA (0)],Ob.row 84 2 (List.map Ak x134)]) (fun v=>(AV.tup [AV.sl 2 (List.map Ak v.1),AV.agg [iA (v.2.1.loc),iA (v.2.1.n)],bA v.2.2],[])) (fun k s=>D6 n Ah x17 k s.1 s.2) (fun s=>rfl) o127 n (0,([]:List A2)) (fun _=>0) ho127 ?_ ?_
 intro k120 ss a121 K122 cont123 hK124 hcont125 h hr126
 obtain⟨s118,s119⟩:=ss
 replace h:D6 n Ah x17 (k120+1) s118 s119=some o127:=h
 rw[D6] at h
 conv=>lhs;whnf
 revert h
 refine br ?_ ?_
 refine br ?_ ?_
 refine ix ?_;intro x130
 refine ar (ap Ak (List.map Ak s119) s119 ([[iA (x130.loc),iA (x130.n)]]) ([x130]:List A2)) ?_
 exact fun h=>cq (hcont125 (IntKind.i64.wrap (s118+1),(s119++([x130]:List A2))) (fun _=>0) h)
 exact fun h=>cq (hcont125 (IntKind.i64.wrap (s118+1),s119) (fun _=>0) h)
 intro h;cases sj h
 exact kq (hr126 (fun _=>0))
 refine lrc ?_ ?_
 intro v e;subst e;cases sj h;rfl
 intro x134 a133 e;subst e
 dsimp only at h
 conv=>lhs;whnf
 revert h
 refine br ?_ ?_
 intro h;cases sj h
 try simp only[ls]
 exact fq (y:=some (AV.tup [AV.sl 2 (List.take (List.length x134) (List.map Ak x134)),AV.agg [iA (0),iA (0)],bA false],[]))
 refine ix ?_;intro x136
 intro h;cases sj h
 try simp only[ls]
 exact fq (y:=some (AV.tup [AV.sl 2 (List.take (List.length x134) (List.map Ak x134)),AV.agg [iA (x136.loc),iA (x136.n)],bA true],[]))
 intro h;refine Ap h ?_;clear h;intro o147 ho147 h
 refine lq (σ:=(Int×(List A2))) (τ:=(List A2)) (ν:=((List A2)×A2×Bool)) 2 (fun(s138,s139) a141=>Ba 75 [(0,AV.sl 2 (List.map Ak Ah)),(7,AV.ptr 0 0),(9,iA x17),(11,AV.row 1 (List.length s139)),(12,iA s138)]) (fun(s138,s139) a141=>[Ob.var 84 [iA (0),iA (0)],Ob.row 84 2 (List.map Ak s139)]) (fun x154 a153=>Ba 75 [(0,AV.sl 2 (List.map Ak Ah)),(7,AV.ptr 0 0),(9,iA x17),(11,AV.row 1 (List.length x154))]) (fun x154 a153=>[Ob.var 84 [iA (0),iA (0)],Ob.row 84 2 (List.map Ak x154)]) (fun v=>(AV.tup [AV.sl 2 (List.map Ak v.1),AV.agg [iA (v.2.1.loc),iA (v.2.1.n)],bA v.2.2],[])) (fun k s=>Ef n Ah x17 k s.1 s.2) (fun s=>rfl) o147 n (0,([]:List A2)) (fun _=>0) ho147 ?_ ?_
 intro k140 ss a141 K142 cont143 hK144 hcont145 h hr146
 obtain⟨s138,s139⟩:=ss
 replace h:Ef n Ah x17 (k140+1) s138 s139=some o147:=h
 rw[Ef] at h
 conv=>lhs;whnf
 revert h
 refine br ?_ ?_
 refine br ?_ ?_
 refine ix ?_;intro x150
 refine ar (ap Ak (List.map Ak s139) s139 ([[iA (x150.loc),iA (x150.n)]]) ([x150]:List A2)) ?_
 exact fun h=>cq (hcont145 (IntKind.i64.wrap (s138+1),(s139++([x150]:List A2))) (fun _=>0) h)
 exact fun h=>cq (hcont145 (IntKind.i64.wrap (s138+1),s139) (fun _=>0) h)
 intro h;cases sj h
 exact kq (hr146 (fun _=>0))
 refine lrc ?_ ?_
 intro v e;subst e;cases sj h;rfl
 intro x154 a153 e;subst e
 dsimp only at h
 conv=>lhs;whnf
 revert h
 refine br ?_ ?_
 intro h;cases sj h
 try simp only[ls]
 exact fq (y:=some (AV.tup [AV.sl 2 (List.take (List.length x154) (List.map Ak x154)),AV.agg [iA (0),iA (0)],bA false],[]))
 refine ix ?_;intro x156
 intro h;cases sj h
 try simp only[ls]
 exact fq (y:=some (AV.tup [AV.sl 2 (List.take (List.length x154) (List.map Ak x154)),AV.agg [iA (x156.loc),iA (x156.n)],bA true],[]))
theorem A3k {n:Nat} ⦃Bu:(List A2)⦄ ⦃C1:(List A2)⦄ ⦃r:Bool⦄:Ju n Bu C1=some r→CN n 42 [AV.sl 2 (List.map Ak Bu),AV.sl 2 (List.map Ak C1)] []=some (bA r,[]):=by
 intro h;rcases n with _|n;cases h
 rw[Ju] at h
 refine B0 Try.func42 (by rfl) rfl rfl (Bi rfl) ?_
 intro call hc;conv=>lhs;whnf
 revert h
 refine br ?_ ?_
 exact rz
 intro h;refine Ap h ?_;clear h;intro o10 ho10 h
 refine lq (σ:=Int) (τ:=Unit) (ν:=Bool) 0 (fun s2 a4=>Ba 26 [(0,AV.sl 2 (List.map Ak Bu)),(1,AV.sl 2 (List.map Ak C1)),(5,iA s2)]) (fun s2 a4=>[]) (fun _ a16=>Ba 26 []) (fun _ a16=>[]) (fun v=>(bA v,[])) (fun k s=>Fw n Bu C1 k s) (fun s=>rfl) o10 n 0 (fun _=>0) ho10 ?_ ?_
 intro k3 s2 a4 K5 cont6 hK7 hcont8 h hr9
 replace h:Fw n Bu C1 (k3+1) s2=some o10:=h
 rw[Fw] at h
 conv=>lhs;whnf
 revert h
 refine br ?_ ?_
 refine ix ?_;intro x12
 refine ix ?_;intro x13
 intro h
 have hf15:A3z Try.prog 84=some (fieldsOf Try.prog 84):=by kernel_rfl
 simp only[hf15,A4,Bc]
 conv=>lhs;whnf
 revert h
 refine br ?_ ?_
 exact fun h=>cq (hcont8 (IntKind.i64.wrap (s2+1)) (fun _=>0) h)
 intro h;cases sj h
 refine(hK7 _ _).trans ?_
 refine Eq.trans ?_ (Eq.symm (show _=some _ from hr9))
 conv=>lhs;whnf
 exact rq
 intro h;cases sj h
 exact kq (hr9 (fun _=>0))
 refine lrc ?_ ?_
 intro v e;subst e;cases sj h;rfl
 intro t a16 e;subst e
 dsimp only at h
 conv=>lhs;whnf
 revert h
 exact rz
theorem A0r {n:Nat} ⦃Az:A8⦄ ⦃U2:Int⦄ ⦃Ct:Int⦄ ⦃r:Int⦄:Gm n Az U2 Ct=some r→CN n 38 [AV.agg [AV.sl 1 (List.map A0 (Az.pc)),AV.sl 1 (List.map Ad (Az.regs)),AV.sl 1 (List.map A0 (Az.mem)),AV.sl 1 (List.map Ae (Az.buf))],iA U2,iA Ct] []=some (iA r,[]):=by
 intro h;rcases n with _|n;cases h
 rw[Gm] at h
 refine B0 Try.func38 (by rfl) rfl rfl (Bi rfl) ?_
 intro call hc;conv=>lhs;whnf
 revert h
 refine br ?_ ?_
 exact rz
 refine br ?_ ?_
 exact rz
 refine br ?_ ?_
 exact rz
 refine br ?_ ?_
 exact rz
 refine ix ?_;intro x5
 refine ca hc (fun _ h=>A37 h) ?_;intro y6
 refine br ?_ ?_
 exact rz
 refine ix ?_;intro x9
 exact rz
theorem A1r {n:Nat} ⦃Al:Ac⦄ ⦃B3:A8⦄ ⦃K9:Int⦄ ⦃U3:(List OpS)⦄ ⦃r:Int⦄:Gi n Al B3 K9 U3=some r→CN n 37 [AV.agg [iA (Al.mod),AV.sl 1 (List.map A0 (Al.init)),AV.sl 1 (List.map A0 (Al.regs)),AV.sl 1 (List.map Aa (Al.code))],AV.agg [AV.sl 1 (List.map A0 (B3.pc)),AV.sl 1 (List.map Ad (B3.regs)),AV.sl 1 (List.map A0 (B3.mem)),AV.sl 1 (List.map Ae (B3.buf))],iA K9,AV.sl 3 (List.map Bh U3)] []=some (iA r,[]):=by
 intro h;rcases n with _|n;cases h
 rw[Gi] at h
 refine B0 Try.func37 (by rfl) rfl rfl (Bi rfl) ?_
 intro call hc;conv=>lhs;whnf
 revert h
 refine ix ?_;intro x1
 refine cr hc (fun y2 h=>(show CN n 53 [AV.sl 3 (List.map Bh U3),iA (Al.mod),AV.sl 1 (List.map A0 x1),AV.sl 1 [],AV.sl 1 []] []=some (AV.tup [iA y2.1,bA y2.2],[]) from A0v (r:=y2) h)) ?_;intro y2
 exact rz
theorem Y0 {n:Nat} ⦃Al:Ac⦄ ⦃B3:A8⦄ ⦃Bk:Int⦄ ⦃Cb:Int⦄ ⦃Ka:Int⦄ ⦃r:Bool⦄:Fr n Al B3 Bk Cb Ka=some r→CN n 35 [AV.agg [iA (Al.mod),AV.sl 1 (List.map A0 (Al.init)),AV.sl 1 (List.map A0 (Al.regs)),AV.sl 1 (List.map Aa (Al.code))],AV.agg [AV.sl 1 (List.map A0 (B3.pc)),AV.sl 1 (List.map Ad (B3.regs)),AV.sl 1 (List.map A0 (B3.mem)),AV.sl 1 (List.map Ae (B3.buf))],iA Bk,iA Cb,iA Ka] []=some (bA r,[]):=by
 intro h;rcases n with _|n;cases h
 rw[Fr] at h
 refine B0 Try.func35 (by rfl) rfl rfl (Bi rfl) ?_
 intro call hc;conv=>lhs;whnf
 revert h
 refine br ?_ ?_
 exact rz
 refine br ?_ ?_
 exact rz
 refine ix ?_;intro x3
 refine ix ?_;intro x4
 refine ix ?_;intro x5
 refine br ?_ ?_
 exact rz
 refine br ?_ ?_
 refine br ?_ ?_
 exact rz
 refine ix ?_;intro x9
 refine ca hc (fun _ h=>A3g h) ?_;intro y10
 exact rz
 refine br ?_ ?_
 refine ix ?_;intro x13
 exact rz
 refine br ?_ ?_
 refine ix ?_;intro x15
 exact rz
 refine br ?_ ?_
 refine ix ?_;intro x17
 exact rz
 refine br ?_ ?_
 refine ix ?_;intro x19
 exact rz
 refine br ?_ ?_
 refine ca hc (fun _ h=>A0r h) ?_;intro y21
 refine ca hc (fun _ h=>A1r h) ?_;intro y23
 exact rz
 exact rz
theorem Qm {n:Nat} ⦃Az:A8⦄ ⦃An:Int⦄ ⦃K9:Int⦄ ⦃H9:Int⦄ ⦃r:Bool⦄:Es n Az An K9 H9=some r→CN n 36 [AV.agg [AV.sl 1 (List.map A0 (Az.pc)),AV.sl 1 (List.map Ad (Az.regs)),AV.sl 1 (List.map A0 (Az.mem)),AV.sl 1 (List.map Ae (Az.buf))],iA An,iA K9,iA H9] []=some (bA r,[]):=by
 intro h;rcases n with _|n;cases h
 rw[Es] at h
 refine B0 Try.func36 (by rfl) rfl rfl (Bi rfl) ?_
 intro call hc;conv=>lhs;whnf
 revert h
 refine br ?_ ?_
 exact rz
 refine br ?_ ?_
 exact rz
 refine ix ?_;intro x3
 refine ca hc (fun _ h=>A61 h) ?_;intro y4
 exact rz
noncomputable abbrev CN0:=G7 Try.prog HH XB0
theorem Id {n:Nat} ⦃F6:Int⦄ ⦃Nr:Int⦄ ⦃r:Bool⦄:F8 n F6 Nr=some r→CN0 n 47 [iA F6,iA Nr] []=some (bA r,[]):=by
 intro h;rcases n with _|n;cases h
 rw[F8] at h
 refine B0 Try.func47 (by rfl) rfl rfl (Bi rfl) ?_
 intro call hc;conv=>lhs;whnf
 revert h
 refine br ?_ ?_
 exact rz
 exact rz
theorem Om {n:Nat} ⦃B7:(List Int)⦄ ⦃Aw:Int⦄ ⦃r:Bool⦄:G5 n B7 Aw=some r→CN0 n 32 [AV.sl 1 (List.map A0 B7),iA Aw] []=some (bA r,[]):=by
 intro h;rcases n with _|n;cases h
 rw[G5] at h
 refine B0 Try.func32 (by rfl) rfl rfl (Bi rfl) ?_
 intro call hc;conv=>lhs;whnf
 revert h
 intro h;refine Ap h ?_;clear h;intro o9 ho9 h
 refine lq (σ:=Int) (τ:=Unit) (ν:=Bool) 0 (fun s1 a3=>Ba 19 [(0,AV.sl 1 (List.map A0 B7)),(1,iA Aw),(5,iA s1)]) (fun s1 a3=>[]) (fun _ a15=>Ba 19 []) (fun _ a15=>[]) (fun v=>(bA v,[])) (fun k s=>Dl n B7 Aw k s) (fun s=>rfl) o9 n 0 (fun _=>0) ho9 ?_ ?_
 intro k2 s1 a3 K4 cont5 hK6 hcont7 h hr8
 replace h:Dl n B7 Aw (k2+1) s1=some o9:=h
 rw[Dl] at h
 conv=>lhs;whnf
 revert h
 refine br ?_ ?_
 refine ix ?_;intro x11
 refine ca hc (fun _ h=>Id h) ?_;intro y12
 refine br ?_ ?_
 exact fun h=>cq (hcont7 (IntKind.i64.wrap (s1+1)) (fun _=>0) h)
 intro h;cases sj h
 refine(hK6 _ _).trans ?_
 refine Eq.trans ?_ (Eq.symm (show _=some _ from hr8))
 conv=>lhs;whnf
 exact rq
 intro h;cases sj h
 exact kq (hr8 (fun _=>0))
 refine lrc ?_ ?_
 intro v e;subst e;cases sj h;rfl
 intro t a15 e;subst e
 dsimp only at h
 conv=>lhs;whnf
 revert h
 exact rz
theorem A0g {n:Nat} ⦃B7:(List OpS)⦄ ⦃r:(Int×Int)⦄:Gx n B7=some r→CN0 n 56 [AV.sl 3 (List.map Bh B7)] []=some (AV.tup [iA r.1,iA r.2],[]):=by
 intro h;rcases n with _|n;cases h
 rw[Gx] at h
 refine B0 Try.func56 (by rfl) rfl rfl (Bi rfl) ?_
 intro call hc;conv=>lhs;whnf
 revert h
 intro h;refine Ap h ?_;clear h;intro o11 ho11 h
 refine lq (σ:=(Int×Int×Int)) (τ:=(Int×Int)) (ν:=(Int×Int)) 0 (fun(s1,s2,s3) a5=>Ba 53 [(0,AV.sl 3 (List.map Bh B7)),(4,iA s1),(5,iA s2),(6,iA s3)]) (fun(s1,s2,s3) a5=>[]) (fun(x33,x34) a32=>Ba 53 [(4,iA x33),(5,iA x34)]) (fun(x33,x34) a32=>[]) (fun v=>(AV.tup [iA v.1,iA v.2],[])) (fun k s=>Bx n B7 k s.1 s.2.1 s.2.2) (fun s=>rfl) o11 n (0,0,0) (fun _=>0) ho11 ?_ ?_
 intro k4 ss a5 K6 cont7 hK8 hcont9 h hr10
 obtain⟨s1,s2,s3⟩:=ss
 replace h:Bx n B7 (k4+1) s1 s2 s3=some o11:=h
 rw[Bx] at h
 conv=>lhs;whnf
 revert h
 refine br ?_ ?_
 refine ix ?_;intro x13
 refine br ?_ ?_
 refine br ?_ ?_
 exact fun h=>cq (hcont9 (IntKind.i64.wrap (s1+1),(if s2<(IntKind.i64.wrap (s1+1)) then(IntKind.i64.wrap (s1+1)) else s2),IntKind.i64.wrap (s3+1)) (fun _=>0) h)
 refine br ?_ ?_
 refine br ?_ ?_
 exact fun h=>cq (hcont9 (s1,(if s2<s1 then s1 else s2),IntKind.i64.wrap (s3+1)) (fun _=>0) h)
 refine br ?_ ?_
 refine br ?_ ?_
 refine br ?_ ?_
 exact fun h=>cq (hcont9 (IntKind.i64.wrap (s1 - 1),(if s2<(IntKind.i64.wrap (s1 - 1)) then(IntKind.i64.wrap (s1 - 1)) else s2),IntKind.i64.wrap (s3+1)) (fun _=>0) h)
 intro h;cases sj h
 refine(hK8 _ _).trans ?_
 refine Eq.trans ?_ (Eq.symm (show _=some _ from hr10))
 conv=>lhs;whnf
 exact rq
 intro h;cases sj h
 refine(hK8 _ _).trans ?_
 refine Eq.trans ?_ (Eq.symm (show _=some _ from hr10))
 conv=>lhs;whnf
 exact rq
 intro h;cases sj h
 refine(hK8 _ _).trans ?_
 refine Eq.trans ?_ (Eq.symm (show _=some _ from hr10))
 conv=>lhs;whnf
 exact rq
 refine br ?_ ?_
 refine br ?_ ?_
 refine br ?_ ?_
 exact fun h=>cq (hcont9 (IntKind.i64.wrap (s1 - 1),(if s2<(IntKind.i64.wrap (s1 - 1)) then(IntKind.i64.wrap (s1 - 1)) else s2),IntKind.i64.wrap (s3+1)) (fun _=>0) h)
 intro h;cases sj h
 refine(hK8 _ _).trans ?_
 refine Eq.trans ?_ (Eq.symm (show _=some _ from hr10))
 conv=>lhs;whnf
 exact rq
 intro h;cases sj h
 refine(hK8 _ _).trans ?_
 refine Eq.trans ?_ (Eq.symm (show _=some _ from hr10))
 conv=>lhs;whnf
 exact rq
 intro h;cases sj h
 refine(hK8 _ _).trans ?_
 refine Eq.trans ?_ (Eq.symm (show _=some _ from hr10))
 conv=>lhs;whnf
 exact rq
 refine br ?_ ?_
 refine br ?_ ?_
 exact fun h=>cq (hcont9 (s1,(if s2<s1 then s1 else s2),IntKind.i64.wrap (s3+1)) (fun _=>0) h)
 refine br ?_ ?_
 refine br ?_ ?_
 refine br ?_ ?_
 exact fun h=>cq (hcont9 (IntKind.i64.wrap (s1 - 1),(if s2<(IntKind.i64.wrap (s1 - 1)) then(IntKind.i64.wrap (s1 - 1)) else s2),IntKind.i64.wrap (s3+1)) (fun _=>0) h)
 intro h;cases sj h
 refine(hK8 _ _).trans ?_
 refine Eq.trans ?_ (Eq.symm (show _=some _ from hr10))
 conv=>lhs;whnf
 exact rq
 intro h;cases sj h
 refine(hK8 _ _).trans ?_
 refine Eq.trans ?_ (Eq.symm (show _=some _ from hr10))
 conv=>lhs;whnf
 exact rq
 intro h;cases sj h
 refine(hK8 _ _).trans ?_
 refine Eq.trans ?_ (Eq.symm (show _=some _ from hr10))
 conv=>lhs;whnf
 exact rq
 refine br ?_ ?_
 refine br ?_ ?_
 refine br ?_ ?_
 exact fun h=>cq (hcont9 (IntKind.i64.wrap (s1 - 1),(if s2<(IntKind.i64.wrap (s1 - 1)) then(IntKind.i64.wrap (s1 - 1)) else s2),IntKind.i64.wrap (s3+1)) (fun _=>0) h)
 intro h;cases sj h
 refine(hK8 _ _).trans ?_
 refine Eq.trans ?_ (Eq.symm (show _=some _ from hr10))
 conv=>lhs;whnf
 exact rq
 intro h;cases sj h
 refine(hK8 _ _).trans ?_
 refine Eq.trans ?_ (Eq.symm (show _=some _ from hr10))
 conv=>lhs;whnf
 exact rq
 intro h;cases sj h
 refine(hK8 _ _).trans ?_
 refine Eq.trans ?_ (Eq.symm (show _=some _ from hr10))
 conv=>lhs;whnf
 exact rq
 intro h;cases sj h
 exact kq (hr10 (fun _=>0))
 refine lrc ?_ ?_
 intro v e;subst e;cases sj h;rfl
 intro t a32 e;subst e
 obtain⟨x33,x34⟩:=t
 dsimp only at h
 conv=>lhs;whnf
 revert h
 exact rz
theorem Zz {n:Nat} ⦃B7:(List OpS)⦄ ⦃Dn:(List Int)⦄ ⦃Bp:Int⦄ ⦃E9:Int⦄ ⦃r:Bool⦄:Gg n B7 Dn Bp E9=some r→CN0 n 51 [AV.sl 3 (List.map Bh B7),AV.sl 1 (List.map A0 Dn),iA Bp,iA E9] []=some (bA r,[]):=by
 intro h;rcases n with _|n;cases h
 rw[Gg] at h
 refine B0 Try.func51 (by rfl) rfl rfl (Bi rfl) ?_
 intro call hc;conv=>lhs;whnf
 revert h
 intro h;refine Ap h ?_;clear h;intro o9 ho9 h
 refine lq (σ:=Int) (τ:=Unit) (ν:=Bool) 0 (fun s1 a3=>Ba 71 [(0,AV.sl 3 (List.map Bh B7)),(1,AV.sl 1 (List.map A0 Dn)),(2,iA Bp),(3,iA E9),(9,iA s1)]) (fun s1 a3=>[]) (fun _ a32=>Ba 71 [(0,AV.sl 3 (List.map Bh B7))]) (fun _ a32=>[]) (fun v=>(bA v,[])) (fun k s=>C0 n B7 Dn Bp E9 k s) (fun s=>rfl) o9 n 0 (fun _=>0) ho9 ?_ ?_
 intro k2 s1 a3 K4 cont5 hK6 hcont7 h hr8
 replace h:C0 n B7 Dn Bp E9 (k2+1) s1=some o9:=h
 rw[C0] at h
 conv=>lhs;whnf
 revert h
 refine br ?_ ?_
 refine ix ?_;intro x11
 refine br ?_ ?_
 refine ca hc (fun _ h=>Id h) ?_;intro y13
 refine br ?_ ?_
 exact fun h=>cq (hcont7 (IntKind.i64.wrap (s1+1)) (fun _=>0) h)
 intro h;cases sj h
 refine(hK6 _ _).trans ?_
 refine Eq.trans ?_ (Eq.symm (show _=some _ from hr8))
 conv=>lhs;whnf
 exact rq
 refine br ?_ ?_
 refine ca hc (fun _ h=>Id h) ?_;intro y17
 refine br ?_ ?_
 exact fun h=>cq (hcont7 (IntKind.i64.wrap (s1+1)) (fun _=>0) h)
 intro h;cases sj h
 refine(hK6 _ _).trans ?_
 refine Eq.trans ?_ (Eq.symm (show _=some _ from hr8))
 conv=>lhs;whnf
 exact rq
 refine br ?_ ?_
 refine ca hc (fun _ h=>Id h) ?_;intro y21
 refine br ?_ ?_
 exact fun h=>cq (hcont7 (IntKind.i64.wrap (s1+1)) (fun _=>0) h)
 intro h;cases sj h
 refine(hK6 _ _).trans ?_
 refine Eq.trans ?_ (Eq.symm (show _=some _ from hr8))
 conv=>lhs;whnf
 exact rq
 refine br ?_ ?_
 refine cr hc (fun _ h=>Id h) ?_;intro y25
 refine br ?_ ?_
 refine ix ?_;intro x28
 refine ca hc (fun _ h=>Id h) ?_;intro y29
 refine br ?_ ?_
 exact fun h=>cq (hcont7 (IntKind.i64.wrap (s1+1)) (fun _=>0) h)
 intro h;cases sj h
 refine(hK6 _ _).trans ?_
 refine Eq.trans ?_ (Eq.symm (show _=some _ from hr8))
 conv=>lhs;whnf
 exact rq
 intro h;cases sj h
 refine(hK6 _ _).trans ?_
 refine Eq.trans ?_ (Eq.symm (show _=some _ from hr8))
 conv=>lhs;whnf
 exact rq
 exact fun h=>cq (hcont7 (IntKind.i64.wrap (s1+1)) (fun _=>0) h)
 intro h;cases sj h
 exact kq (hr8 (fun _=>0))
 refine lrc ?_ ?_
 intro v e;subst e;cases sj h;rfl
 intro t a32 e;subst e
 dsimp only at h
 conv=>lhs;whnf
 revert h
 refine ca hc (fun _ h=>A0g h) ?_;intro y33
 exact rz
theorem Ds {n:Nat} ⦃U1:Bool⦄ ⦃r:Int⦄:Cr n U1=some r→CN0 n 58 [bA U1] []=some (iA r,[]):=by
 intro h;rcases n with _|n;cases h
 rw[Cr] at h
 refine B0 Try.func58 (by rfl) rfl rfl (Bi rfl) ?_
 intro call hc;conv=>lhs;whnf
 revert h
 refine br ?_ ?_
 exact rz
 exact rz
theorem A3f {n:Nat} ⦃Jj:Int⦄ ⦃Lp:Int⦄ ⦃Lr:Int⦄ ⦃In:Int⦄ ⦃r:Int⦄:I3 n Jj Lp Lr In=some r→CN0 n 59 [iA Jj,iA Lp,iA Lr,iA In] []=some (iA r,[]):=by
 intro h;rcases n with _|n;cases h
 rw[I3] at h
 refine B0 Try.func59 (by rfl) rfl rfl (Bi rfl) ?_
 intro call hc;conv=>lhs;whnf
 revert h
 refine br ?_ ?_
 refine bf ?_
 exact rz
 refine br ?_ ?_
 refine bf ?_
 exact rz
 refine br ?_ ?_
 refine bf ?_
 exact rz
 refine br ?_ ?_
 refine ca hc (fun _ h=>Ds h) ?_;intro y8
 exact rz
 refine br ?_ ?_
 refine ca hc (fun _ h=>Ds h) ?_;intro y11
 exact rz
 refine br ?_ ?_
 refine ca hc (fun _ h=>Ds h) ?_;intro y14
 exact rz
 refine br ?_ ?_
 refine ca hc (fun _ h=>Ds h) ?_;intro y17
 exact rz
 refine br ?_ ?_
 refine br ?_ ?_
 refine ca hc (fun _ h=>Ds h) ?_;intro y21
 exact rz
 refine ca hc (fun _ h=>Ds h) ?_;intro y23
 exact rz
 refine br ?_ ?_
 refine ca hc (fun _ h=>Ds h) ?_;intro y26
 exact rz
 refine ca hc (fun _ h=>Ds h) ?_;intro y28
 exact rz
theorem Zk {n:Nat} ⦃B7:(List OpS)⦄ ⦃Aw:Int⦄ ⦃Bp:(List Int)⦄ ⦃Ce:(List (List Int))⦄ ⦃Db:(List Int)⦄ ⦃r:(Int×Bool)⦄:Gl n B7 Aw Bp Ce Db=some r→CN0 n 53 [AV.sl 3 (List.map Bh B7),iA Aw,AV.sl 1 (List.map A0 Bp),AV.sl 1 (List.map Ad Ce),AV.sl 1 (List.map A0 Db)] []=some (AV.tup [iA r.1,bA r.2],[]):=by
 intro h;rcases n with _|n;cases h
 rw[Gl] at h
 refine B0 Try.func53 (by rfl) rfl rfl (Bi rfl) ?_
 intro call hc;conv=>lhs;whnf
 revert h
 refine br ?_ ?_
 exact rz
 refine br ?_ ?_
 exact rz
 refine ca hc (fun _ h=>Om h) ?_;intro y3
 refine br ?_ ?_
 refine ca hc (fun _ h=>Om h) ?_;intro y6
 refine br ?_ ?_
 intro h;refine Ap h ?_;clear h;intro o18 ho18 h
 refine lq (σ:=(Int×(List Int))) (τ:=(List Int)) (ν:=(Int×Bool)) 0 (fun(s9,s10) a12=>Ba 162 [(0,AV.sl 3 (List.map Bh B7)),(1,iA Aw),(2,AV.sl 1 (List.map A0 Bp)),(3,AV.sl 1 (List.map Ad Ce)),(4,AV.sl 1 (List.map A0 Db)),(12,AV.row 0 (List.length s10)),(13,iA s9)]) (fun(s9,s10) a12=>[Ob.row 3 1 (List.map A0 s10)]) (fun x28 a27=>Ba 162 [(0,AV.sl 3 (List.map Bh B7)),(1,iA Aw),(2,AV.sl 1 (List.map A0 Bp)),(3,AV.sl 1 (List.map Ad Ce)),(4,AV.sl 1 (List.map A0 Db)),(12,AV.row 0 (List.length x28))]) (fun x28 a27=>[Ob.row 3 1 (List.map A0 x28)]) (fun v=>(AV.tup [iA v.1,bA v.2],[])) (fun k s=>Cq n Aw Ce k s.1 s.2) (fun s=>rfl) o18 n (0,([]:List Int)) (fun _=>0) ho18 ?_ ?_
 intro k11 ss a12 K13 cont14 hK15 hcont16 h hr17
 obtain⟨s9,s10⟩:=ss
 replace h:Cq n Aw Ce (k11+1) s9 s10=some o18:=h
 rw[Cq] at h
 conv=>lhs;whnf
 revert h
 refine br ?_ ?_
 refine ix ?_;intro x20
 refine ca hc (fun _ h=>Om h) ?_;intro y21
 refine br ?_ ?_
 refine ix ?_;intro x24
 refine ar (ap A0 (List.map A0 s10) s10 ([[iA (((x24.length:Nat):Int))]]) ([((x24.length:Nat):Int)]:List Int)) ?_
 exact fun h=>cq (hcont16 (IntKind.i64.wrap (s9+1),(s10++([((x24.length:Nat):Int)]:List Int))) (fun _=>0) h)
 intro h;cases sj h
 refine(hK15 _ _).trans ?_
 refine Eq.trans ?_ (Eq.symm (show _=some _ from hr17))
 conv=>lhs;whnf
 exact rq
 intro h;cases sj h
 exact kq (hr17 (fun _=>0))
 refine lrc ?_ ?_
 intro v e;subst e;cases sj h;rfl
 intro x28 a27 e;subst e
 dsimp only at h
 conv=>lhs;whnf
 revert h
 refine cr hc (fun _ h=>Zz h) ?_;intro y29
 refine br ?_ ?_
 intro h;refine Ap h ?_;clear h;intro o41 ho41 h
 refine lq (σ:=(Int×(List Int))) (τ:=(List Int)) (ν:=(Int×Bool)) 2 (fun(s32,s33) a35=>Ba 162 [(0,AV.sl 3 (List.map Bh B7)),(1,iA Aw),(2,AV.sl 1 (List.map A0 Bp)),(3,AV.sl 1 (List.map Ad Ce)),(4,AV.sl 1 (List.map A0 Db)),(14,AV.stk 1 (a35 1) (List.length s33)),(15,iA s32)]) (fun(s32,s33) a35=>[Ob.row 3 1 (List.map A0 x28),Ob.stk (a35 1) 3 1 (List.map A0 s33)]) (fun x80 a79=>Ba 162 [(14,AV.stk 1 (a79 1) (List.length x80))]) (fun x80 a79=>[Ob.row 3 1 (List.map A0 x28),Ob.stk (a79 1) 3 1 (List.map A0 x80)]) (fun v=>(AV.tup [iA v.1,bA v.2],[])) (fun k s=>Bt n B7 Aw Bp Ce Db k s.1 s.2) (fun s=>rfl) o41 n (0,([]:List Int)) (fun j=>(bif Nat.beq j 1 then 0 else 0)) ho41 ?_ ?_
 intro k34 ss a35 K36 cont37 hK38 hcont39 h hr40
 obtain⟨s32,s33⟩:=ss
 replace h:Bt n B7 Aw Bp Ce Db (k34+1) s32 s33=some o41:=h
 rw[Bt] at h
 conv=>lhs;whnf
 revert h
 refine br ?_ ?_
 refine ix ?_;intro x43
 refine br ?_ ?_
 refine bf ?_
 intro h
 refine Fx h ?_;clear h;intro hc48 h
 try simp only[B8]
 conv=>lhs;whnf
 first|refine At (Kb hc48 (by first|rfl|simp only [A4]) (by first|rfl|simp only [A4]) (by first|rfl|simp only [A4,Bc]) (by kernel_rfl)) ?_|refine At (It hc48 (by first|rfl|simp only [A4]) (by first|rfl|simp only [A4,Bc]) (by kernel_rfl)) ?_
 try simp only[lt]
 have hp46:(List.map A0 s33:List (List AV))++[[iA ((Int.tmod x43.n Aw))]]=List.map A0 (s33++([(Int.tmod x43.n Aw)]:List Int)):=by first|rfl|(rw[List.map_append];rfl)|(rw[List.map_append];done)|(simp only[List.map_append,List.map_cons,List.map_nil,List.nil_append,A0]<;>rfl)
 have hl47:List.length (List.map A0 s33:List (List AV))+List.length ([[iA ((Int.tmod x43.n Aw))]]:List (List AV))=List.length (s33++([(Int.tmod x43.n Aw)]:List Int)):=by simp only[A4,List.length_append]<;>rfl
 have hl47_b:List.length s33+List.length ([[iA ((Int.tmod x43.n Aw))]]:List (List AV))=List.length (s33++([(Int.tmod x43.n Aw)]:List Int)):=by simp only[A4,List.length_append]<;>rfl
 have hl47_c:List.length s33+List.length ([(Int.tmod x43.n Aw)]:List Int)=List.length (s33++([(Int.tmod x43.n Aw)]:List Int)):=by simp only[A4,List.length_append]<;>rfl
 first|simp only [hp46,hl47]|(simp only[A4,Bc];simp only[hp46,hl47_b,hl47_c])
 try simp only[ls]
 conv=>lhs;whnf
 revert h
 exact fun h=>cq (hcont39 (IntKind.i64.wrap (s32+1),(s33++([(Int.tmod x43.n Aw)]:List Int))) (fun j=>(bif Nat.beq j 1 then((a35 1)+1) else 0)) h)
 refine br ?_ ?_
 refine ix ?_;intro x50
 intro h
 refine Fx h ?_;clear h;intro hc53 h
 try simp only[B8]
 conv=>lhs;whnf
 first|refine At (Kb hc53 (by first|rfl|simp only [A4]) (by first|rfl|simp only [A4]) (by first|rfl|simp only [A4,Bc]) (by kernel_rfl)) ?_|refine At (It hc53 (by first|rfl|simp only [A4]) (by first|rfl|simp only [A4,Bc]) (by kernel_rfl)) ?_
 try simp only[lt]
 have hp51:(List.map A0 s33:List (List AV))++[[iA x50]]=List.map A0 (s33++([x50]:List Int)):=by first|rfl|(rw[List.map_append];rfl)|(rw[List.map_append];done)|(simp only[List.map_append,List.map_cons,List.map_nil,List.nil_append,A0]<;>rfl)
 have hl52:List.length (List.map A0 s33:List (List AV))+List.length ([[iA x50]]:List (List AV))=List.length (s33++([x50]:List Int)):=by simp only[A4,List.length_append]<;>rfl
 have hl52_b:List.length s33+List.length ([[iA x50]]:List (List AV))=List.length (s33++([x50]:List Int)):=by simp only[A4,List.length_append]<;>rfl
 have hl52_c:List.length s33+List.length ([x50]:List Int)=List.length (s33++([x50]:List Int)):=by simp only[A4,List.length_append]<;>rfl
 first|simp only [hp51,hl52]|(simp only[A4,Bc];simp only[hp51,hl52_b,hl52_c])
 try simp only[ls]
 conv=>lhs;whnf
 revert h
 exact fun h=>cq (hcont39 (IntKind.i64.wrap (s32+1),(s33++([x50]:List Int))) (fun j=>(bif Nat.beq j 1 then((a35 1)+1) else 0)) h)
 refine br ?_ ?_
 refine ix ?_;intro x55
 intro h
 refine Fx h ?_;clear h;intro hc58 h
 try simp only[B8]
 conv=>lhs;whnf
 first|refine At (Kb hc58 (by first|rfl|simp only [A4]) (by first|rfl|simp only [A4]) (by first|rfl|simp only [A4,Bc]) (by kernel_rfl)) ?_|refine At (It hc58 (by first|rfl|simp only [A4]) (by first|rfl|simp only [A4,Bc]) (by kernel_rfl)) ?_
 try simp only[lt]
 have hp56:(List.map A0 s33:List (List AV))++[[iA x55]]=List.map A0 (s33++([x55]:List Int)):=by first|rfl|(rw[List.map_append];rfl)|(rw[List.map_append];done)|(simp only[List.map_append,List.map_cons,List.map_nil,List.nil_append,A0]<;>rfl)
 have hl57:List.length (List.map A0 s33:List (List AV))+List.length ([[iA x55]]:List (List AV))=List.length (s33++([x55]:List Int)):=by simp only[A4,List.length_append]<;>rfl
 have hl57_b:List.length s33+List.length ([[iA x55]]:List (List AV))=List.length (s33++([x55]:List Int)):=by simp only[A4,List.length_append]<;>rfl
 have hl57_c:List.length s33+List.length ([x55]:List Int)=List.length (s33++([x55]:List Int)):=by simp only[A4,List.length_append]<;>rfl
 first|simp only [hp56,hl57]|(simp only[A4,Bc];simp only[hp56,hl57_b,hl57_c])
 try simp only[ls]
 conv=>lhs;whnf
 revert h
 exact fun h=>cq (hcont39 (IntKind.i64.wrap (s32+1),(s33++([x55]:List Int))) (fun j=>(bif Nat.beq j 1 then((a35 1)+1) else 0)) h)
 refine br ?_ ?_
 refine ix ?_;intro x60
 refine ix ?_;intro x61
 intro h
 refine Fx h ?_;clear h;intro hc64 h
 try simp only[B8]
 conv=>lhs;whnf
 first|refine At (Kb hc64 (by first|rfl|simp only [A4]) (by first|rfl|simp only [A4]) (by first|rfl|simp only [A4,Bc]) (by kernel_rfl)) ?_|refine At (It hc64 (by first|rfl|simp only [A4]) (by first|rfl|simp only [A4,Bc]) (by kernel_rfl)) ?_
 try simp only[lt]
 have hp62:(List.map A0 s33:List (List AV))++[[iA x61]]=List.map A0 (s33++([x61]:List Int)):=by first|rfl|(rw[List.map_append];rfl)|(rw[List.map_append];done)|(simp only[List.map_append,List.map_cons,List.map_nil,List.nil_append,A0]<;>rfl)
 have hl63:List.length (List.map A0 s33:List (List AV))+List.length ([[iA x61]]:List (List AV))=List.length (s33++([x61]:List Int)):=by simp only[A4,List.length_append]<;>rfl
 have hl63_b:List.length s33+List.length ([[iA x61]]:List (List AV))=List.length (s33++([x61]:List Int)):=by simp only[A4,List.length_append]<;>rfl
 have hl63_c:List.length s33+List.length ([x61]:List Int)=List.length (s33++([x61]:List Int)):=by simp only[A4,List.length_append]<;>rfl
 first|simp only [hp62,hl63]|(simp only[A4,Bc];simp only[hp62,hl63_b,hl63_c])
 try simp only[ls]
 conv=>lhs;whnf
 revert h
 exact fun h=>cq (hcont39 (IntKind.i64.wrap (s32+1),(s33++([x61]:List Int))) (fun j=>(bif Nat.beq j 1 then((a35 1)+1) else 0)) h)
 refine br ?_ ?_
 intro h
 refine Ap h ?_;clear h;intro x66 hx66 h
 try simp only[B8]
 conv=>lhs;whnf
 try simp only[ls]
 refine At (by first|exact Cz hx66|exact Gt hx66|exact J7 hx66|exact D0 hx66|(have q:=Cz hx66;simp only[List.length_set] at q;exact q)|(have q:=D0 hx66;simp only[List.length_set,Nat.zero_add] at q ⊢;exact q)) ?_
 conv=>lhs;whnf
 try simp only[Fm (f:=A0) hx66,B8,ls]
 conv=>lhs;whnf
 revert h
 refine ca hc (fun _ h=>Ds h) ?_;intro y67
 intro h
 refine Ap h ?_;clear h;intro x69 hx69 h
 try simp only[B8]
 conv=>lhs;whnf
 try simp only[ls]
 refine At (by first|exact Cz hx69|exact Gt hx69|exact J7 hx69|exact D0 hx69|(have q:=Cz hx69;simp only[List.length_set] at q;exact q)|(have q:=D0 hx69;simp only[List.length_set,Nat.zero_add] at q ⊢;exact q)) ?_
 conv=>lhs;whnf
 try simp only[Fm (f:=A0) hx69,B8,ls]
 conv=>lhs;whnf
 revert h
 intro h
 have hs70:Bm (List.map A0 s33) (IntKind.i64.wrap (((s33.length:Nat):Int) - 1)).toNat [iA y67]=List.map A0 (List.set s33 (IntKind.i64.wrap (((s33.length:Nat):Int) - 1)).toNat y67):=by rw[B2,List.map_set];rfl
 have hs70_u:Bm (List.map A0 s33) (IntKind.i64.wrap (((s33.length:Nat):Int) - 1)).toNat (B6 (A0 x69) 0 [iA y67])=List.map A0 (List.set s33 (IntKind.i64.wrap (((s33.length:Nat):Int) - 1)).toNat y67):=by rw[B2,List.map_set];rfl
 try simp only[Fm (f:=A0) hx69,B8]
 conv=>lhs;whnf
 try simp only[hs70,hs70_u,B8]
 conv=>lhs;whnf
 revert h
 exact fun h=>cq (hcont39 (IntKind.i64.wrap (s32+1),(List.set s33 (IntKind.i64.wrap (((s33.length:Nat):Int) - 1)).toNat y67)) (fun j=>(bif Nat.beq j 1 then(a35 1) else 0)) h)
 intro h
 refine Ap h ?_;clear h;intro x71 hx71 h
 try simp only[B8]
 conv=>lhs;whnf
 try simp only[ls]
 refine At (by first|exact Cz hx71|exact Gt hx71|exact J7 hx71|exact D0 hx71|(have q:=Cz hx71;simp only[List.length_set] at q;exact q)|(have q:=D0 hx71;simp only[List.length_set,Nat.zero_add] at q ⊢;exact q)) ?_
 conv=>lhs;whnf
 try simp only[Fm (f:=A0) hx71,B8,ls]
 conv=>lhs;whnf
 revert h
 intro h
 refine Ap h ?_;clear h;intro x72 hx72 h
 try simp only[B8]
 conv=>lhs;whnf
 try simp only[ls]
 refine At (by first|exact Cz hx72|exact Gt hx72|exact J7 hx72|exact D0 hx72|(have q:=Cz hx72;simp only[List.length_set] at q;exact q)|(have q:=D0 hx72;simp only[List.length_set,Nat.zero_add] at q ⊢;exact q)) ?_
 conv=>lhs;whnf
 try simp only[Fm (f:=A0) hx72,B8,ls]
 conv=>lhs;whnf
 revert h
 refine ca hc (fun _ h=>A3f h) ?_;intro y73
 intro h
 refine Ap h ?_;clear h;intro x75 hx75 h
 try simp only[B8]
 conv=>lhs;whnf
 try simp only[ls]
 refine At (by first|exact Cz hx75|exact Gt hx75|exact J7 hx75|exact D0 hx75|(have q:=Cz hx75;simp only[List.length_set] at q;exact q)|(have q:=D0 hx75;simp only[List.length_set,Nat.zero_add] at q ⊢;exact q)) ?_
 conv=>lhs;whnf
 try simp only[Fm (f:=A0) hx75,B8,ls]
 conv=>lhs;whnf
 revert h
 intro h
 have hs76:Bm (List.map A0 s33) (IntKind.i64.wrap (((s33.length:Nat):Int) - 2)).toNat [iA y73]=List.map A0 (List.set s33 (IntKind.i64.wrap (((s33.length:Nat):Int) - 2)).toNat y73):=by rw[B2,List.map_set];rfl
 have hs76_u:Bm (List.map A0 s33) (IntKind.i64.wrap (((s33.length:Nat):Int) - 2)).toNat (B6 (A0 x75) 0 [iA y73])=List.map A0 (List.set s33 (IntKind.i64.wrap (((s33.length:Nat):Int) - 2)).toNat y73):=by rw[B2,List.map_set];rfl
 try simp only[Fm (f:=A0) hx75,B8]
 conv=>lhs;whnf
 try simp only[hs76,hs76_u,B8]
 conv=>lhs;whnf
 revert h
 intro h
 refine Fx h ?_;clear h;intro hc78 h
 try simp only[B8]
 conv=>lhs;whnf
 try simp only[ls]
 first|refine At hc78 ?_|(refine At (by have q:=hc78;simp only[List.length_set] at q;exact q) ?_)
 have hs77:List.take ((IntKind.i64.wrap (((s33.length:Nat):Int) - 1)).toNat) (List.map A0 (List.set s33 (IntKind.i64.wrap (((s33.length:Nat):Int) - 2)).toNat y73))=List.map A0 (List.take ((IntKind.i64.wrap (((s33.length:Nat):Int) - 1)).toNat) (List.set s33 (IntKind.i64.wrap (((s33.length:Nat):Int) - 2)).toNat y73)):=by rw[List.map_take]
 have hs77_l:List.length (List.take ((IntKind.i64.wrap (((s33.length:Nat):Int) - 1)).toNat) (List.set s33 (IntKind.i64.wrap (((s33.length:Nat):Int) - 2)).toNat y73))=(IntKind.i64.wrap (((s33.length:Nat):Int) - 1)).toNat:=by simp only[List.length_take];exact Nat.min_eq_left (Ada hc78)
 conv=>lhs;whnf
 try simp only[B8,hs77]
 conv=>lhs;whnf
 try simp only[hs77]
 have hs77_s:∀ q,AV.stk 1 q ((IntKind.i64.wrap (((s33.length:Nat):Int) - 1)).toNat)=AV.stk 1 q (List.length (List.take ((IntKind.i64.wrap (((s33.length:Nat):Int) - 1)).toNat) (List.set s33 (IntKind.i64.wrap (((s33.length:Nat):Int) - 2)).toNat y73))):=fun q=>by rw[hs77_l]
 try simp only[hs77_s]
 conv=>lhs;whnf
 revert h
 exact fun h=>cq (hcont39 (IntKind.i64.wrap (s32+1),(List.take ((IntKind.i64.wrap (((s33.length:Nat):Int) - 1)).toNat) (List.set s33 (IntKind.i64.wrap (((s33.length:Nat):Int) - 2)).toNat y73))) (fun j=>(bif Nat.beq j 1 then((a35 1)+1) else 0)) h)
 intro h;cases sj h
 exact kq (hr40 (fun j=>(bif Nat.beq j 1 then(a35 1) else 0)))
 refine lrc ?_ ?_
 intro v e;subst e;cases sj h;rfl
 intro x80 a79 e;subst e
 dsimp only at h
 conv=>lhs;whnf
 revert h
 intro h
 refine Ap h ?_;clear h;intro x81 hx81 h
 try simp only[B8]
 conv=>lhs;whnf
 try simp only[ls]
 refine At (by first|exact Cz hx81|exact Gt hx81|exact J7 hx81|exact D0 hx81|(have q:=Cz hx81;simp only[List.length_set] at q;exact q)|(have q:=D0 hx81;simp only[List.length_set,Nat.zero_add] at q ⊢;exact q)) ?_
 conv=>lhs;whnf
 try simp only[Fm (f:=A0) hx81,B8,ls]
 conv=>lhs;whnf
 revert h
 exact rz
 exact rz
 exact rz
 exact rz
theorem Zs {n:Nat} ⦃Ah:(List A2)⦄ ⦃Cg:Int⦄ ⦃r:Int⦄:Gh n Ah Cg=some r→CN0 n 57 [AV.sl 2 (List.map Ak Ah),iA Cg] []=some (iA r,[]):=by
 intro h;rcases n with _|n;cases h
 rw[Gh] at h
 refine B0 Try.func57 (by rfl) rfl rfl (Bi rfl) ?_
 intro call hc;conv=>lhs;whnf
 revert h
 intro h;refine Ap h ?_;clear h;intro o10 ho10 h
 refine lq (σ:=(Int×Int)) (τ:=Int) (ν:=Int) 0 (fun(s1,s2) a4=>Ba 23 [(0,AV.sl 2 (List.map Ak Ah)),(1,iA Cg),(5,iA s1),(6,iA s2)]) (fun(s1,s2) a4=>[]) (fun x15 a14=>Ba 23 [(5,iA x15)]) (fun x15 a14=>[]) (fun v=>(iA v,[])) (fun k s=>Cw n Ah Cg k s.1 s.2) (fun s=>rfl) o10 n (0,0) (fun _=>0) ho10 ?_ ?_
 intro k3 ss a4 K5 cont6 hK7 hcont8 h hr9
 obtain⟨s1,s2⟩:=ss
 replace h:Cw n Ah Cg (k3+1) s1 s2=some o10:=h
 rw[Cw] at h
 conv=>lhs;whnf
 revert h
 refine br ?_ ?_
 refine ix ?_;intro x12
 refine br ?_ ?_
 exact fun h=>cq (hcont8 (IntKind.i64.wrap (s1+1),IntKind.i64.wrap (s2+1)) (fun _=>0) h)
 exact fun h=>cq (hcont8 (s1,IntKind.i64.wrap (s2+1)) (fun _=>0) h)
 intro h;cases sj h
 exact kq (hr9 (fun _=>0))
 refine lrc ?_ ?_
 intro v e;subst e;cases sj h;rfl
 intro x15 a14 e;subst e
 dsimp only at h
 conv=>lhs;whnf
 revert h
 exact rz
theorem A10 {n:Nat} ⦃Ah:(List A2)⦄ ⦃An:Int⦄ ⦃Ca:Int⦄ ⦃H9:Int⦄ ⦃r:Bool⦄:H7 n Ah An Ca H9=some r→CN0 n 52 [AV.sl 2 (List.map Ak Ah),iA An,iA Ca,iA H9] []=some (bA r,[]):=by
 intro h;rcases n with _|n;cases h
 rw[H7] at h
 refine B0 Try.func52 (by rfl) rfl rfl (Bi rfl) ?_
 intro call hc;conv=>lhs;whnf
 revert h
 refine br ?_ ?_
 exact rz
 refine br ?_ ?_
 refine ca hc (fun _ h=>Zs h) ?_;intro y3
 exact rz
 exact rz
theorem A19 {n:Nat} ⦃Ah:(List A2)⦄ ⦃Cg:Int⦄ ⦃r:(Int×Bool)⦄:Gy n Ah Cg=some r→CN0 n 54 [AV.sl 2 (List.map Ak Ah),iA Cg] []=some (AV.tup [iA r.1,bA r.2],[]):=by
 intro h;rcases n with _|n;cases h
 rw[Gy] at h
 refine B0 Try.func54 (by rfl) rfl rfl (Bi rfl) ?_
 intro call hc;conv=>lhs;whnf
 revert h
 intro h;refine Ap h ?_;clear h;intro o9 ho9 h
 refine lq (σ:=Int) (τ:=Unit) (ν:=(Int×Bool)) 0 (fun s1 a3=>Ba 26 [(0,AV.sl 2 (List.map Ak Ah)),(1,iA Cg),(6,iA s1)]) (fun s1 a3=>[]) (fun _ a14=>Ba 26 []) (fun _ a14=>[]) (fun v=>(AV.tup [iA v.1,bA v.2],[])) (fun k s=>Di n Ah Cg k s) (fun s=>rfl) o9 n (IntKind.i64.wrap (((Ah.length:Nat):Int) - 1)) (fun _=>0) ho9 ?_ ?_
 intro k2 s1 a3 K4 cont5 hK6 hcont7 h hr8
 replace h:Di n Ah Cg (k2+1) s1=some o9:=h
 rw[Di] at h
 conv=>lhs;whnf
 revert h
 refine br ?_ ?_
 refine ix ?_;intro x11
 refine br ?_ ?_
 refine ix ?_;intro x13
 intro h;cases sj h
 refine(hK6 _ _).trans ?_
 refine Eq.trans ?_ (Eq.symm (show _=some _ from hr8))
 conv=>lhs;whnf
 exact rq
 exact fun h=>cq (hcont7 (IntKind.i64.wrap (s1 - 1)) (fun _=>0) h)
 intro h;cases sj h
 exact kq (hr8 (fun _=>0))
 refine lrc ?_ ?_
 intro v e;subst e;cases sj h;rfl
 intro t a14 e;subst e
 dsimp only at h
 conv=>lhs;whnf
 revert h
 exact rz
theorem U8 {n:Nat} ⦃Ah:(List A2)⦄ ⦃An:Int⦄ ⦃Ct:Int⦄ ⦃r:((List A2)×A2×Bool)⦄:I2 n Ah An Ct=some r→CN0 n 40 [AV.sl 2 (List.map Ak Ah),iA An,iA Ct] []=some (AV.tup [AV.sl 2 (List.map Ak r.1),AV.agg [iA (r.2.1.loc),iA (r.2.1.n)],bA r.2.2],[]):=by
 intro h;rcases n with _|n;cases h
 rw[I2] at h
 refine B0 Try.func40 (by rfl) rfl rfl (Bi rfl) ?_
 intro call hc;conv=>lhs;whnf
 revert h
 intro h;refine Ap h ?_;clear h;intro o10 ho10 h
 refine lq (σ:=(Int×Int)) (τ:=Int) (ν:=((List A2)×A2×Bool)) 0 (fun(s1,s2) a4=>Ba 75 [(0,AV.sl 2 (List.map Ak Ah)),(1,iA An),(2,iA Ct),(7,AV.ptr 0 0),(9,iA s1),(10,iA s2)]) (fun(s1,s2) a4=>[Ob.var 84 [iA (0),iA (0)]]) (fun x17 a16=>Ba 75 [(0,AV.sl 2 (List.map Ak Ah)),(1,iA An),(7,AV.ptr 0 0),(9,iA x17)]) (fun x17 a16=>[Ob.var 84 [iA (0),iA (0)]]) (fun v=>(AV.tup [AV.sl 2 (List.map Ak v.1),AV.agg [iA (v.2.1.loc),iA (v.2.1.n)],bA v.2.2],[])) (fun k s=>Cd n Ah An Ct k s.1 s.2) (fun s=>rfl) o10 n ((-1),IntKind.i64.wrap (((Ah.length:Nat):Int) - 1)) (fun _=>0) ho10 ?_ ?_
 intro k3 ss a4 K5 cont6 hK7 hcont8 h hr9
 obtain⟨s1,s2⟩:=ss
 replace h:Cd n Ah An Ct (k3+1) s1 s2=some o10:=h
 rw[Cd] at h
 conv=>lhs;whnf
 revert h
 refine br ?_ ?_
 refine ix ?_;intro x12
 refine br ?_ ?_
 exact fun h=>cq (hcont8 (s2,IntKind.i64.wrap (s2 - 1)) (fun _=>0) h)
 refine br ?_ ?_
 refine br ?_ ?_
 exact fun h=>cq (hcont8 (s2,IntKind.i64.wrap (s2 - 1)) (fun _=>0) h)
 exact fun h=>cq (hcont8 (s1,IntKind.i64.wrap (s2 - 1)) (fun _=>0) h)
 exact fun h=>cq (hcont8 (s1,IntKind.i64.wrap (s2 - 1)) (fun _=>0) h)
 intro h;cases sj h
 exact kq (hr9 (fun _=>0))
 refine lrc ?_ ?_
 intro v e;subst e;cases sj h;rfl
 intro x17 a16 e;subst e
 dsimp only at h
 conv=>lhs;whnf
 revert h
 refine br ?_ ?_
 refine br ?_ ?_
 intro h;refine Ap h ?_;clear h;intro o29 ho29 h
 refine lq (σ:=(Int×(List A2))) (τ:=(List A2)) (ν:=((List A2)×A2×Bool)) 2 (fun(s20,s21) a23=>Ba 75 [(0,AV.sl 2 (List.map Ak Ah)),(7,AV.ptr 0 0),(9,iA ((-1))),(11,AV.row 1 (List.length s21)),(12,iA s20)]) (fun(s20,s21) a23=>[Ob.var 84 [iA (0),iA (0)],Ob.row 84 2 (List.map Ak s21)]) (fun x36 a35=>Ba 75 [(0,AV.sl 2 (List.map Ak Ah)),(7,AV.ptr 0 0),(9,iA ((-1))),(11,AV.row 1 (List.length x36))]) (fun x36 a35=>[Ob.var 84 [iA (0),iA (0)],Ob.row 84 2 (List.map Ak x36)]) (fun v=>(AV.tup [AV.sl 2 (List.map Ak v.1),AV.agg [iA (v.2.1.loc),iA (v.2.1.n)],bA v.2.2],[])) (fun k s=>Ed n Ah k s.1 s.2) (fun s=>rfl) o29 n (0,([]:List A2)) (fun _=>0) ho29 ?_ ?_
 intro k22 ss a23 K24 cont25 hK26 hcont27 h hr28
 obtain⟨s20,s21⟩:=ss
 replace h:Ed n Ah (k22+1) s20 s21=some o29:=h
 rw[Ed] at h
 conv=>lhs;whnf
 revert h
 refine br ?_ ?_
 refine br ?_ ?_
 refine ix ?_;intro x32
 refine ar (ap Ak (List.map Ak s21) s21 ([[iA (x32.loc),iA (x32.n)]]) ([x32]:List A2)) ?_
 exact fun h=>cq (hcont27 (IntKind.i64.wrap (s20+1),(s21++([x32]:List A2))) (fun _=>0) h)
 exact fun h=>cq (hcont27 (IntKind.i64.wrap (s20+1),s21) (fun _=>0) h)
 intro h;cases sj h
 exact kq (hr28 (fun _=>0))
 refine lrc ?_ ?_
 intro v e;subst e;cases sj h;rfl
 intro x36 a35 e;subst e
 dsimp only at h
 conv=>lhs;whnf
 revert h
 intro h;cases sj h
 try simp only[ls]
 exact fq (y:=some (AV.tup [AV.sl 2 (List.take (List.length x36) (List.map Ak x36)),AV.agg [iA (0),iA (0)],bA false],[]))
 refine br ?_ ?_
 refine br ?_ ?_
 intro h;refine Ap h ?_;clear h;intro o49 ho49 h
 refine lq (σ:=(Int×(List A2))) (τ:=(List A2)) (ν:=((List A2)×A2×Bool)) 2 (fun(s40,s41) a43=>Ba 75 [(0,AV.sl 2 (List.map Ak Ah)),(7,AV.ptr 0 0),(9,iA ((-1))),(11,AV.row 1 (List.length s41)),(12,iA s40)]) (fun(s40,s41) a43=>[Ob.var 84 [iA (0),iA (0)],Ob.row 84 2 (List.map Ak s41)]) (fun x56 a55=>Ba 75 [(0,AV.sl 2 (List.map Ak Ah)),(7,AV.ptr 0 0),(9,iA ((-1))),(11,AV.row 1 (List.length x56))]) (fun x56 a55=>[Ob.var 84 [iA (0),iA (0)],Ob.row 84 2 (List.map Ak x56)]) (fun v=>(AV.tup [AV.sl 2 (List.map Ak v.1),AV.agg [iA (v.2.1.loc),iA (v.2.1.n)],bA v.2.2],[])) (fun k s=>Fs n Ah k s.1 s.2) (fun s=>rfl) o49 n (0,([]:List A2)) (fun _=>0) ho49 ?_ ?_
 intro k42 ss a43 K44 cont45 hK46 hcont47 h hr48
 obtain⟨s40,s41⟩:=ss
 replace h:Fs n Ah (k42+1) s40 s41=some o49:=h
 rw[Fs] at h
 conv=>lhs;whnf
 revert h
 refine br ?_ ?_
 refine br ?_ ?_
 refine ix ?_;intro x52
 refine ar (ap Ak (List.map Ak s41) s41 ([[iA (x52.loc),iA (x52.n)]]) ([x52]:List A2)) ?_
 exact fun h=>cq (hcont47 (IntKind.i64.wrap (s40+1),(s41++([x52]:List A2))) (fun _=>0) h)
 exact fun h=>cq (hcont47 (IntKind.i64.wrap (s40+1),s41) (fun _=>0) h)
 intro h;cases sj h
 exact kq (hr48 (fun _=>0))
 refine lrc ?_ ?_
 intro v e;subst e;cases sj h;rfl
 intro x56 a55 e;subst e
 dsimp only at h
 conv=>lhs;whnf
 revert h
 intro h;cases sj h
 try simp only[ls]
 exact fq (y:=some (AV.tup [AV.sl 2 (List.take (List.length x56) (List.map Ak x56)),AV.agg [iA (0),iA (0)],bA false],[]))
 intro h;refine Ap h ?_;clear h;intro o67 ho67 h
 refine lq (σ:=(Int×(List A2))) (τ:=(List A2)) (ν:=((List A2)×A2×Bool)) 2 (fun(s58,s59) a61=>Ba 75 [(0,AV.sl 2 (List.map Ak Ah)),(7,AV.ptr 0 0),(9,iA x17),(11,AV.row 1 (List.length s59)),(12,iA s58)]) (fun(s58,s59) a61=>[Ob.var 84 [iA (0),iA (0)],Ob.row 84 2 (List.map Ak s59)]) (fun x74 a73=>Ba 75 [(0,AV.sl 2 (List.map Ak Ah)),(7,AV.ptr 0 0),(9,iA x17),(11,AV.row 1 (List.length x74))]) (fun x74 a73=>[Ob.var 84 [iA (0),iA (0)],Ob.row 84 2 (List.map Ak x74)]) (fun v=>(AV.tup [AV.sl 2 (List.map Ak v.1),AV.agg [iA (v.2.1.loc),iA (v.2.1.n)],bA v.2.2],[])) (fun k s=>Fq n Ah x17 k s.1 s.2) (fun s=>rfl) o67 n (0,([]:List A2)) (fun _=>0) ho67 ?_ ?_
 intro k60 ss a61 K62 cont63 hK64 hcont65 h hr66
 obtain⟨s58,s59⟩:=ss
 replace h:Fq n Ah x17 (k60+1) s58 s59=some o67:=h
 rw[Fq] at h
 conv=>lhs;whnf
 revert h
 refine br ?_ ?_
 refine br ?_ ?_
 refine ix ?_;intro x70
 refine ar (ap Ak (List.map Ak s59) s59 ([[iA (x70.loc),iA (x70.n)]]) ([x70]:List A2)) ?_
 exact fun h=>cq (hcont65 (IntKind.i64.wrap (s58+1),(s59++([x70]:List A2))) (fun _=>0) h)
 exact fun h=>cq (hcont65 (IntKind.i64.wrap (s58+1),s59) (fun _=>0) h)
 intro h;cases sj h
 exact kq (hr66 (fun _=>0))
 refine lrc ?_ ?_
 intro v e;subst e;cases sj h;rfl
 intro x74 a73 e;subst e
 dsimp only at h
 conv=>lhs;whnf
 revert h
 refine br ?_ ?_
 intro h;cases sj h
 try simp only[ls]
 exact fq (y:=some (AV.tup [AV.sl 2 (List.take (List.length x74) (List.map Ak x74)),AV.agg [iA (0),iA (0)],bA false],[]))
 refine ix ?_;intro x76
 intro h;cases sj h
 try simp only[ls]
 exact fq (y:=some (AV.tup [AV.sl 2 (List.take (List.length x74) (List.map Ak x74)),AV.agg [iA (x76.loc),iA (x76.n)],bA true],[]))
 intro h;refine Ap h ?_;clear h;intro o87 ho87 h
 refine lq (σ:=(Int×(List A2))) (τ:=(List A2)) (ν:=((List A2)×A2×Bool)) 2 (fun(s78,s79) a81=>Ba 75 [(0,AV.sl 2 (List.map Ak Ah)),(7,AV.ptr 0 0),(9,iA x17),(11,AV.row 1 (List.length s79)),(12,iA s78)]) (fun(s78,s79) a81=>[Ob.var 84 [iA (0),iA (0)],Ob.row 84 2 (List.map Ak s79)]) (fun x94 a93=>Ba 75 [(0,AV.sl 2 (List.map Ak Ah)),(7,AV.ptr 0 0),(9,iA x17),(11,AV.row 1 (List.length x94))]) (fun x94 a93=>[Ob.var 84 [iA (0),iA (0)],Ob.row 84 2 (List.map Ak x94)]) (fun v=>(AV.tup [AV.sl 2 (List.map Ak v.1),AV.agg [iA (v.2.1.loc),iA (v.2.1.n)],bA v.2.2],[])) (fun k s=>D9 n Ah x17 k s.1 s.2) (fun s=>rfl) o87 n (0,([]:List A2)) (fun _=>0) ho87 ?_ ?_
 intro k80 ss a81 K82 cont83 hK84 hcont85 h hr86
 obtain⟨s78,s79⟩:=ss
 replace h:D9 n Ah x17 (k80+1) s78 s79=some o87:=h
 rw[D9] at h
 conv=>lhs;whnf
 revert h
 refine br ?_ ?_
 refine br ?_ ?_
 refine ix ?_;intro x90
 refine ar (ap Ak (List.map Ak s79) s79 ([[iA (x90.loc),iA (x90.n)]]) ([x90]:List A2)) ?_
 exact fun h=>cq (hcont85 (IntKind.i64.wrap (s78+1),(s79++([x90]:List A2))) (fun _=>0) h)
 exact fun h=>cq (hcont85 (IntKind.i64.wrap (s78+1),s79) (fun _=>0) h)
 intro h;cases sj h
 exact kq (hr86 (fun _=>0))
 refine lrc ?_ ?_
 intro v e;subst e;cases sj h;rfl
 intro x94 a93 e;subst e
 dsimp only at h
 conv=>lhs;whnf
 revert h
 refine br ?_ ?_
 intro h;cases sj h
 try simp only[ls]
 exact fq (y:=some (AV.tup [AV.sl 2 (List.take (List.length x94) (List.map Ak x94)),AV.agg [iA (0),iA (0)],bA false],[]))
 refine ix ?_;intro x96
 intro h;cases sj h
 try simp only[ls]
 exact fq (y:=some (AV.tup [AV.sl 2 (List.take (List.length x94) (List.map Ak x94)),AV.agg [iA (x96.loc),iA (x96.n)],bA true],[]))
 refine br ?_ ?_
 refine br ?_ ?_
 intro h;refine Ap h ?_;clear h;intro o109 ho109 h
 refine lq (σ:=(Int×(List A2))) (τ:=(List A2)) (ν:=((List A2)×A2×Bool)) 2 (fun(s100,s101) a103=>Ba 75 [(0,AV.sl 2 (List.map Ak Ah)),(7,AV.ptr 0 0),(9,iA ((-1))),(11,AV.row 1 (List.length s101)),(12,iA s100)]) (fun(s100,s101) a103=>[Ob.var 84 [iA (0),iA (0)],Ob.row 84 2 (List.map Ak s101)]) (fun x116 a115=>Ba 75 [(0,AV.sl 2 (List.map Ak Ah)),(7,AV.ptr 0 0),(9,iA ((-1))),(11,AV.row 1 (List.length x116))]) (fun x116 a115=>[Ob.var 84 [iA (0),iA (0)],Ob.row 84 2 (List.map Ak x116)]) (fun v=>(AV.tup [AV.sl 2 (List.map Ak v.1),AV.agg [iA (v.2.1.loc),iA (v.2.1.n)],bA v.2.2],[])) (fun k s=>Ec n Ah k s.1 s.2) (fun s=>rfl) o109 n (0,([]:List A2)) (fun _=>0) ho109 ?_ ?_
 intro k102 ss a103 K104 cont105 hK106 hcont107 h hr108
 obtain⟨s100,s101⟩:=ss
 replace h:Ec n Ah (k102+1) s100 s101=some o109:=h
 rw[Ec] at h
 conv=>lhs;whnf
 revert h
 refine br ?_ ?_
 refine br ?_ ?_
 refine ix ?_;intro x112
 refine ar (ap Ak (List.map Ak s101) s101 ([[iA (x112.loc),iA (x112.n)]]) ([x112]:List A2)) ?_
 exact fun h=>cq (hcont107 (IntKind.i64.wrap (s100+1),(s101++([x112]:List A2))) (fun _=>0) h)
 exact fun h=>cq (hcont107 (IntKind.i64.wrap (s100+1),s101) (fun _=>0) h)
 intro h;cases sj h
 exact kq (hr108 (fun _=>0))
 refine lrc ?_ ?_
 intro v e;subst e;cases sj h;rfl
 intro x116 a115 e;subst e
 dsimp only at h
 conv=>lhs;whnf
 revert h
 intro h;cases sj h
 try simp only[ls]
 exact fq (y:=some (AV.tup [AV.sl 2 (List.take (List.length x116) (List.map Ak x116)),AV.agg [iA (0),iA (0)],bA false],[]))
 intro h;refine Ap h ?_;clear h;intro o127 ho127 h
 refine lq (σ:=(Int×(List A2))) (τ:=(List A2)) (ν:=((List A2)×A2×Bool)) 2 (fun(s118,s119) a121=>Ba 75 [(0,AV.sl 2 (List.map Ak Ah)),(7,AV.ptr 0 0),(9,iA x17),(11,AV.row 1 (List.length s119)),(12,iA s118)]) (fun(s118,s119) a121=>[Ob.var 84 [iA (0),iA (0)],Ob.row 84 2 (List.map Ak s119)]) (fun x134 a133=>Ba 75 [(0,AV.sl 2 (List.map Ak Ah)),(7,AV.ptr 0 0),(9,iA x17),(11,AV.row 1 (List.length x134))]) (fun x134 a133=>[Ob.var 84 [iA (0),iA (0)],Ob.row 84 2 (List.map Ak x134)]) (fun v=>(AV.tup [AV.sl 2 (List.map Ak v.1),AV.agg [iA (v.2.1.loc),iA (v.2.1.n)],bA v.2.2],[])) (fun k s=>D6 n Ah x17 k s.1 s.2) (fun s=>rfl) o127 n (0,([]:List A2)) (fun _=>0) ho127 ?_ ?_
 intro k120 ss a121 K122 cont123 hK124 hcont125 h hr126
 obtain⟨s118,s119⟩:=ss
 replace h:D6 n Ah x17 (k120+1) s118 s119=some o127:=h
 rw[D6] at h
 conv=>lhs;whnf
 revert h
 refine br ?_ ?_
 refine br ?_ ?_
 refine ix ?_;intro x130
 refine ar (ap Ak (List.map Ak s119) s119 ([[iA (x130.loc),iA (x130.n)]]) ([x130]:List A2)) ?_
 exact fun h=>cq (hcont125 (IntKind.i64.wrap (s118+1),(s119++([x130]:List A2))) (fun _=>0) h)
 exact fun h=>cq (hcont125 (IntKind.i64.wrap (s118+1),s119) (fun _=>0) h)
 intro h;cases sj h
 exact kq (hr126 (fun _=>0))
 refine lrc ?_ ?_
 intro v e;subst e;cases sj h;rfl
 intro x134 a133 e;subst e
 dsimp only at h
 conv=>lhs;whnf
 revert h
 refine br ?_ ?_
 intro h;cases sj h
 try simp only[ls]
 exact fq (y:=some (AV.tup [AV.sl 2 (List.take (List.length x134) (List.map Ak x134)),AV.agg [iA (0),iA (0)],bA false],[]))
 refine ix ?_;intro x136
 intro h;cases sj h
 try simp only[ls]
 exact fq (y:=some (AV.tup [AV.sl 2 (List.take (List.length x134) (List.map Ak x134)),AV.agg [iA (x136.loc),iA (x136.n)],bA true],[]))
 intro h;refine Ap h ?_;clear h;intro o147 ho147 h
 refine lq (σ:=(Int×(List A2))) (τ:=(List A2)) (ν:=((List A2)×A2×Bool)) 2 (fun(s138,s139) a141=>Ba 75 [(0,AV.sl 2 (List.map Ak Ah)),(7,AV.ptr 0 0),(9,iA x17),(11,AV.row 1 (List.length s139)),(12,iA s138)]) (fun(s138,s139) a141=>[Ob.var 84 [iA (0),iA (0)],Ob.row 84 2 (List.map Ak s139)]) (fun x154 a153=>Ba 75 [(0,AV.sl 2 (List.map Ak Ah)),(7,AV.ptr 0 0),(9,iA x17),(11,AV.row 1 (List.length x154))]) (fun x154 a153=>[Ob.var 84 [iA (0),iA (0)],Ob.row 84 2 (List.map Ak x154)]) (fun v=>(AV.tup [AV.sl 2 (List.map Ak v.1),AV.agg [iA (v.2.1.loc),iA (v.2.1.n)],bA v.2.2],[])) (fun k s=>Ef n Ah x17 k s.1 s.2) (fun s=>rfl) o147 n (0,([]:List A2)) (fun _=>0) ho147 ?_ ?_
 intro k140 ss a141 K142 cont143 hK144 hcont145 h hr146
 obtain⟨s138,s139⟩:=ss
 replace h:Ef n Ah x17 (k140+1) s138 s139=some o147:=h
 rw[Ef] at h
 conv=>lhs;whnf
 revert h
 refine br ?_ ?_
 refine br ?_ ?_
 refine ix ?_;intro x150
 refine ar (ap Ak (List.map Ak s139) s139 ([[iA (x150.loc),iA (x150.n)]]) ([x150]:List A2)) ?_
 exact fun h=>cq (hcont145 (IntKind.i64.wrap (s138+1),(s139++([x150]:List A2))) (fun _=>0) h)
 exact fun h=>cq (hcont145 (IntKind.i64.wrap (s138+1),s139) (fun _=>0) h)
 intro h;cases sj h
 exact kq (hr146 (fun _=>0))
 refine lrc ?_ ?_
 intro v e;subst e;cases sj h;rfl
 intro x154 a153 e;subst e
 dsimp only at h
 conv=>lhs;whnf
 revert h
 refine br ?_ ?_
 intro h;cases sj h
 try simp only[ls]
 exact fq (y:=some (AV.tup [AV.sl 2 (List.take (List.length x154) (List.map Ak x154)),AV.agg [iA (0),iA (0)],bA false],[]))
 refine ix ?_;intro x156
 intro h;cases sj h
 try simp only[ls]
 exact fq (y:=some (AV.tup [AV.sl 2 (List.take (List.length x154) (List.map Ak x154)),AV.agg [iA (x156.loc),iA (x156.n)],bA true],[]))
theorem A0p {n:Nat} ⦃Ah:(List A2)⦄ ⦃An:Int⦄ ⦃Dz:A2⦄ ⦃r:(List A2)⦄:Mi n Ah An Dz=some r→CN0 n 39 [AV.sl 2 (List.map Ak Ah),iA An,AV.agg [iA (Dz.loc),iA (Dz.n)]] []=some (AV.sl 2 (List.map Ak r),[]):=by
 intro h;rcases n with _|n;cases h
 rw[Mi] at h
 refine B0 Try.func39 (by rfl) rfl rfl (Bi rfl) ?_
 intro call hc;conv=>lhs;whnf
 revert h
 refine br ?_ ?_
 refine ar (ap Ak ([]) ([]:List A2) (List.map Ak Ah) Ah) ?_
 refine br ?_ ?_
 refine ar (ap Ak (List.map Ak (([]:List A2)++Ah)) (([]:List A2)++Ah) ([[iA (Dz.loc),iA (Dz.n)]]) ([Dz]:List A2)) ?_
 intro h;cases sj h
 try simp only[ls]
 exact fq (y:=some (AV.sl 2 (List.take (List.length (((([]:List A2)++Ah)++([Dz]:List A2)))) (List.map Ak ((([]:List A2)++Ah)++([Dz]:List A2)))),[]))
 intro h;cases sj h
 try simp only[ls]
 exact fq (y:=some (AV.sl 2 (List.take (List.length ((([]:List A2)++Ah))) (List.map Ak (([]:List A2)++Ah))),[]))
 intro h;refine Ap h ?_;clear h;intro o17 ho17 h
 refine lq (σ:=(Bool×Int×(List A2))) (τ:=(Bool×(List A2))) (ν:=(List A2)) 0 (fun(s7,s8,s9) a11=>Ba 58 [(0,AV.sl 2 (List.map Ak Ah)),(5,AV.ptr 0 0),(7,AV.row 1 (List.length s9)),(8,bA s7),(9,iA s8)]) (fun(s7,s8,s9) a11=>[Ob.var 84 [iA (Dz.loc),iA (Dz.n)],Ob.row 84 2 (List.map Ak s9)]) (fun(x34,x35) a33=>Ba 58 [(5,AV.ptr 0 0),(7,AV.row 1 (List.length x35)),(8,bA x34)]) (fun(x34,x35) a33=>[Ob.var 84 [iA (Dz.loc),iA (Dz.n)],Ob.row 84 2 (List.map Ak x35)]) (fun v=>(AV.sl 2 (List.map Ak v),[])) (fun k s=>Eg n Ah Dz k s.1 s.2.1 s.2.2) (fun s=>rfl) o17 n (false,0,([]:List A2)) (fun _=>0) ho17 ?_ ?_
 intro k10 ss a11 K12 cont13 hK14 hcont15 h hr16
 obtain⟨s7,s8,s9⟩:=ss
 replace h:Eg n Ah Dz (k10+1) s7 s8 s9=some o17:=h
 rw[Eg] at h
 conv=>lhs;whnf
 revert h
 refine br ?_ ?_
 refine br ?_ ?_
 refine ix ?_;intro x20
 refine ar (ap Ak (List.map Ak s9) s9 ([[iA (x20.loc),iA (x20.n)]]) ([x20]:List A2)) ?_
 exact fun h=>cq (hcont15 (true,IntKind.i64.wrap (s8+1),(s9++([x20]:List A2))) (fun _=>0) h)
 refine ix ?_;intro x23
 refine br ?_ ?_
 refine ar (ap Ak (List.map Ak s9) s9 ([[iA (Dz.loc),iA (Dz.n)]]) ([Dz]:List A2)) ?_
 refine ix ?_;intro x27
 refine ar (ap Ak (List.map Ak (s9++([Dz]:List A2))) (s9++([Dz]:List A2)) ([[iA (x27.loc),iA (x27.n)]]) ([x27]:List A2)) ?_
 exact fun h=>cq (hcont15 (true,IntKind.i64.wrap (s8+1),((s9++([Dz]:List A2))++([x27]:List A2))) (fun _=>0) h)
 refine ix ?_;intro x30
 refine ar (ap Ak (List.map Ak s9) s9 ([[iA (x30.loc),iA (x30.n)]]) ([x30]:List A2)) ?_
 exact fun h=>cq (hcont15 (false,IntKind.i64.wrap (s8+1),(s9++([x30]:List A2))) (fun _=>0) h)
 intro h;cases sj h
 exact kq (hr16 (fun _=>0))
 refine lrc ?_ ?_
 intro v e;subst e;cases sj h;rfl
 intro t a33 e;subst e
 obtain⟨x34,x35⟩:=t
 dsimp only at h
 conv=>lhs;whnf
 revert h
 refine br ?_ ?_
 intro h;obtain rfl:=sj h
 try simp only[ls]
 exact fq (y:=some (AV.sl 2 (List.take (List.length x35) (List.map Ak x35)),[]))
 refine ar (ap Ak (List.map Ak x35) x35 ([[iA (Dz.loc),iA (Dz.n)]]) ([Dz]:List A2)) ?_
 intro h;cases sj h
 try simp only[ls]
 exact fq (y:=some (AV.sl 2 (List.take (List.length ((x35++([Dz]:List A2)))) (List.map Ak (x35++([Dz]:List A2)))),[]))
theorem R5 {n:Nat} ⦃Az:A8⦄ ⦃U2:Int⦄ ⦃Ct:Int⦄ ⦃r:Int⦄:Gm n Az U2 Ct=some r→CN0 n 38 [AV.agg [AV.sl 1 (List.map A0 (Az.pc)),AV.sl 1 (List.map Ad (Az.regs)),AV.sl 1 (List.map A0 (Az.mem)),AV.sl 1 (List.map Ae (Az.buf))],iA U2,iA Ct] []=some (iA r,[]):=by
 intro h;rcases n with _|n;cases h
 rw[Gm] at h
 refine B0 Try.func38 (by rfl) rfl rfl (Bi rfl) ?_
 intro call hc;conv=>lhs;whnf
 revert h
 refine br ?_ ?_
 exact rz
 refine br ?_ ?_
 exact rz
 refine br ?_ ?_
 exact rz
 refine br ?_ ?_
 exact rz
 refine ix ?_;intro x5
 refine ca hc (fun _ h=>A19 h) ?_;intro y6
 refine br ?_ ?_
 exact rz
 refine ix ?_;intro x9
 exact rz
theorem Mt {n:Nat} ⦃Al:Ac⦄ ⦃B3:A8⦄ ⦃K9:Int⦄ ⦃U3:(List OpS)⦄ ⦃r:Int⦄:Gi n Al B3 K9 U3=some r→CN0 n 37 [AV.agg [iA (Al.mod),AV.sl 1 (List.map A0 (Al.init)),AV.sl 1 (List.map A0 (Al.regs)),AV.sl 1 (List.map Aa (Al.code))],AV.agg [AV.sl 1 (List.map A0 (B3.pc)),AV.sl 1 (List.map Ad (B3.regs)),AV.sl 1 (List.map A0 (B3.mem)),AV.sl 1 (List.map Ae (B3.buf))],iA K9,AV.sl 3 (List.map Bh U3)] []=some (iA r,[]):=by
 intro h;rcases n with _|n;cases h
 rw[Gi] at h
 refine B0 Try.func37 (by rfl) rfl rfl (Bi rfl) ?_
 intro call hc;conv=>lhs;whnf
 revert h
 refine ix ?_;intro x1
 refine cr hc (fun y2 h=>(show CN0 n 53 [AV.sl 3 (List.map Bh U3),iA (Al.mod),AV.sl 1 (List.map A0 x1),AV.sl 1 [],AV.sl 1 []] []=some (AV.tup [iA y2.1,bA y2.2],[]) from Zk (r:=y2) h)) ?_;intro y2
 exact rz
theorem Wr {n:Nat} ⦃Al:Ac⦄ ⦃B3:A8⦄ ⦃Bk:Int⦄ ⦃Cb:Int⦄ ⦃Ka:Int⦄ ⦃r:Bool⦄:Fr n Al B3 Bk Cb Ka=some r→CN0 n 35 [AV.agg [iA (Al.mod),AV.sl 1 (List.map A0 (Al.init)),AV.sl 1 (List.map A0 (Al.regs)),AV.sl 1 (List.map Aa (Al.code))],AV.agg [AV.sl 1 (List.map A0 (B3.pc)),AV.sl 1 (List.map Ad (B3.regs)),AV.sl 1 (List.map A0 (B3.mem)),AV.sl 1 (List.map Ae (B3.buf))],iA Bk,iA Cb,iA Ka] []=some (bA r,[]):=by
 intro h;rcases n with _|n;cases h
 rw[Fr] at h
 refine B0 Try.func35 (by rfl) rfl rfl (Bi rfl) ?_
 intro call hc;conv=>lhs;whnf
 revert h
 refine br ?_ ?_
 exact rz
 refine br ?_ ?_
 exact rz
 refine ix ?_;intro x3
 refine ix ?_;intro x4
 refine ix ?_;intro x5
 refine br ?_ ?_
 exact rz
 refine br ?_ ?_
 refine br ?_ ?_
 exact rz
 refine ix ?_;intro x9
 refine ca hc (fun _ h=>A10 h) ?_;intro y10
 exact rz
 refine br ?_ ?_
 refine ix ?_;intro x13
 exact rz
 refine br ?_ ?_
 refine ix ?_;intro x15
 exact rz
 refine br ?_ ?_
 refine ix ?_;intro x17
 exact rz
 refine br ?_ ?_
 refine ix ?_;intro x19
 exact rz
 refine br ?_ ?_
 refine ca hc (fun _ h=>R5 h) ?_;intro y21
 refine ca hc (fun _ h=>Mt h) ?_;intro y23
 exact rz
 exact rz
theorem Wq {n:Nat} ⦃Az:A8⦄ ⦃An:Int⦄ ⦃K9:Int⦄ ⦃H9:Int⦄ ⦃r:Bool⦄:Es n Az An K9 H9=some r→CN0 n 36 [AV.agg [AV.sl 1 (List.map A0 (Az.pc)),AV.sl 1 (List.map Ad (Az.regs)),AV.sl 1 (List.map A0 (Az.mem)),AV.sl 1 (List.map Ae (Az.buf))],iA An,iA K9,iA H9] []=some (bA r,[]):=by
 intro h;rcases n with _|n;cases h
 rw[Es] at h
 refine B0 Try.func36 (by rfl) rfl rfl (Bi rfl) ?_
 intro call hc;conv=>lhs;whnf
 revert h
 refine br ?_ ?_
 exact rz
 refine br ?_ ?_
 exact rz
 refine ix ?_;intro x3
 refine ca hc (fun _ h=>U8 h) ?_;intro y4
 exact rz
def Afj (r:LR (Int×Int) (Int×Int)):Int×Int:=match r with
 | .out x=>x
 | .ret x=>x
theorem A5l {mod:Int} {l:List Int} (hl:∀ v ∈ l,inR mod v) {n:Int} (hn:0≤n∧n < (l.length:Int)):idx l n=some (l.getD n.toNat 0)∧inR mod (l.getD n.toNat 0):=by
 have h:n.toNat < l.length:=by omega
 rw[S8 hn.1,List.getD_eq_getElem?_getD,A5 h]
 exact⟨rfl,hl _ (List.getElem_mem h)⟩
theorem A93 {R:List Int} {j:Nat} (h:j < R.length):R.reverse[R.length - 1 - j]?=some (R.getD j 0):=by
 rw[List.getElem?_reverse (by omega),List.getD_eq_getElem?_getD]
 have:R.length - 1 - (R.length - 1 - j)=j:=by omega
 rw[this,A5 h];rfl
theorem take_set {α:Type} (v:α):∀ (l:List α) (n:Nat),n < l.length→List.take (n+1) (l.set n v)=l.take n++[v]
 | [],n,h=>by simp at h
 | a :: l,0,h=>by simp
 | a :: l,n+1,h=>by
  rw[List.set_cons_succ,List.take_succ_cons,List.take_succ_cons,take_set v l n (by simpa using h)];rfl
theorem A8i {R:List Int} {t:Nat} (v:Int) (h:1≤t∧t≤R.length):List.take (R.length - t+1) (R.reverse.set (R.length - t) v)=(v :: R.drop t).reverse:=by
 rw[take_set v _ _ (by rw[List.length_reverse];omega),List.take_reverse,List.reverse_cons,show R.length - (R.length - t)=t by omega]
theorem Ai4 (n:Nat) (l:List OpS) (hl:l.length < 1000000) {k:Nat} (hk:l.length < k):(Bx n l k 0 0 0).map Afj=some (I8 l (0,0)):=by
 refine Kd l (fun k i s=>(Bx n l k s.1 s.2 (i:Int)).map Afj) (fun l s=>some (I8 l s)) (fun i s=>0≤s.1∧s.1≤i∧0≤s.2∧s.2≤i) (s:=(0,0)) hk (by simp) ?_ ?_
 ·intro k s hs
  rw[Bx,Ao (by omega)];rfl
 ·rintro k i ⟨a,b⟩ x hi hx ⟨h1,h2,h3,h4⟩ ih
  dsimp only at h1 h2 h3 h4 ⊢
  have hlt:(i:Int) < (l.length:Int):=by omega
  rw[Bx,Ai hlt,Lh hx,Cm i (by omega),wrap64 (n:=a+1) (by omega),wrap64 (n:=a - 1) (by omega)]
  simp only[Af,I8]
  have go:∀ d:Int,(d=0∨d=1∨d= -1)→0≤a+d→(Bx n l k (a+d) (if b < a+d then a+d else b) ((i+1:Nat):Int)).map Afj=some (I8 (l.drop (i+1)) (a+d,if b < a+d then a+d else b)):=by
   intro d hd h0
   have hm:0≤(if b < a+d then a+d else b)∧(if b < a+d then a+d else b)≤((i+1:Nat):Int):=by split<;>omega
   exact ih (_,_) ⟨h0,by dsimp only;omega,hm.1,hm.2⟩
  by_cases c1:1≤x.op∧x.op≤4
  ·have ht:Ea x.op=0:=by unfold Ea;rw[if_pos c1]
   rw[Ai c1.1,Ai c1.2,ht,if_neg (show ¬ a < 0 by omega)]
   exact go 1 (by omega) (by omega)
  by_cases c5:x.op=5
  ·rw[c5]
   have ht:Ea 5=1:=rfl
   simp only[ht,show ¬ (5:Int)≤4 by omega,show(1:Int)≤5 by omega,show ¬ (6:Int)≤5 by omega,decide_true,decide_false,As,Ay,beq_self_eq_true]
   by_cases c:1≤a
   ·rw[Ai c,if_neg (show ¬ a < 1 by omega)]
    have:=go 0 (by omega) (by omega)
    rw[Int.add_zero] at this
    simpa using this
   ·rw[Ao c,if_pos (show a < 1 by omega)];rfl
  by_cases c6:6≤x.op∧x.op≤14
  ·have ht:Ea x.op=2:=by unfold Ea;rw[if_neg c1,if_neg c5,if_pos c6]
   simp only[Ai (show 1≤x.op by omega),Ao (show ¬ x.op≤4 by omega),C8.2 c5,Ay,Ai c6.1,Ai c6.2,ht]
   by_cases c:2≤a
   ·rw[Ai c,if_neg (show ¬ a < 2 by omega)]
    exact go (-1) (by omega) (by omega)
   ·rw[Ao c,if_pos (show a < 2 by omega)];rfl
  ·have ht:Ea x.op=1000000:=by unfold Ea;rw[if_neg c1,if_neg c5,if_neg c6]
   rw[ht,if_pos (show a < 1000000 by omega),C8.2 c5]
   simp only[Ay]
   by_cases g:x.op < 1
   ·simp only[Ao (show ¬ 1≤x.op by omega),Ao (show ¬ 6≤x.op by omega)];rfl
   ·simp only[Ai (show 1≤x.op by omega),Ao (show ¬ x.op≤4 by omega),Ai (show 6≤x.op by omega),Ao (show ¬ x.op≤14 by omega)];rfl
theorem Ahx (n:Nat) (l:List OpS) (hl:l.length < 1000000) (hn:l.length+2 < n):Gx n l=some (I8 l (0,0)):=by
 obtain⟨n,rfl⟩:∃ j,n=j+1:=⟨n - 1,by omega⟩
 have:=Ai4 n l hl (k:=n) (by omega)
 obtain⟨r,h1,h2⟩:=Option.map_eq_some_iff.1 this
 rw[Gx,h1]
 cases r with
 | out x=>obtain⟨a,b⟩:=x;exact congrArg some h2
 | ret x=>exact congrArg some h2
theorem Agx (n:Nat) (a b:Int):F8 (n+1) a b=some (decide (0≤a∧a < b)):=by
 rw[F8]
 by_cases h:0≤a<;>simp[h]
theorem Aea (n:Nat) (l:List OpS) (regs:List Int) (own locs:Int) (hl:l.length < 1000000) (hn:l.length+4 < n):Gg n l regs own locs=some (Rw l regs own locs):=by
 obtain⟨n,rfl⟩:∃ j,n=j+2:=⟨n - 2,by omega⟩
 have hL:C0 (n+1) l regs own locs (n+1) 0=bif l.all (Pi regs own locs) then some (.out ()) else some (.ret false):=by
  refine A5c l (fun k i=>C0 (n+1) l regs own locs k (i:Int)) _ (fun k=>?_) (fun k i x hi hx=>?_) (by omega)
  ·rw[C0,Ao (by omega)]
  ·rw[C0,Ai (by omega),Lh hx,Cm i (by omega)]
   simp only[Af,Agx]
   generalize C0 (n+1) l regs own locs k ((i+1:Nat):Int)=r
   unfold Pi
   by_cases c1:x.op=1
   ·rw[if_pos c1,c1];rfl
   by_cases c2:x.op=2
   ·rw[if_neg c1,if_pos c2,c2];rfl
   by_cases c3:x.op=3
   ·rw[if_neg c1,if_neg c2,if_pos c3,c3];rfl
   rw[if_neg c1,if_neg c2,if_neg c3,C8.2 c1,C8.2 c2,C8.2 c3]
   by_cases c4:x.op=4
   ·rw[if_pos c4,c4]
    by_cases g0:0≤x.t
    ·rw[if_pos g0]
     by_cases g1:x.t < (regs.length:Int)
     ·rw[S8 g0,A5 (by omega),decide_eq_true (show 0≤x.t∧x.t < (regs.length:Int) from⟨g0,g1⟩)]
      rfl
     ·rw[List.getElem?_eq_none (by omega),decide_eq_false (show ¬ (0≤x.t∧x.t < (regs.length:Int)) by omega)];rfl
    ·rw[if_neg g0,decide_eq_false (show ¬ (0≤x.t∧x.t < (regs.length:Int)) by omega)];rfl
   ·rw[if_neg c4,C8.2 c4];rfl
 rw[Gg,hL,Rw]
 cases l.all (Pi regs own locs) with
 | false=>rfl
 | true =>
  simp only[As,Af,Ahx (n+1) l hl (by omega),Bool.true_and]
  rfl
theorem A65 (n:Nat) (mod:Int) (l:List Int) (hl:l.length < 1000000) (hn:l.length+2 < n):G5 n l mod=some (Gq mod l):=by
 obtain⟨n,rfl⟩:∃ j,n=j+2:=⟨n - 2,by omega⟩
 have hL:Dl (n+1) l mod (n+1) 0=bif Gq mod l then some (.out ()) else some (.ret false):=by
  refine A5c l (fun k i=>Dl (n+1) l mod k (i:Int)) _ (fun k=>?_) (fun k i x hi hx=>?_) (by omega)
  ·rw[Dl,Ao (by omega)]
  ·rw[Dl,Ai (by omega),Lh hx,Af,Agx,Cm i (by omega)];rfl
 rw[G5,hL]
 cases Gq mod l<;>rfl
theorem Aim (n:Nat) (mod:Int) (all:List (List Int)) (hl:all.length < 1000000) (h2:∀ r ∈ all,r.length < 1000000) (h3:∀ r ∈ all,r.length+2 < n) {k:Nat} (hk:all.length < k) :
 Cq n mod all k 0 []=bif all.all (Gq mod) then some (.out (J2 all)) else some (.ret (0,false)):=by
 have:=Kd all (fun k i s=>Cq n mod all k (i:Int) s) (fun l s=>bif l.all (Gq mod) then some (.out (s++J2 l)) else some (.ret (0,false))) (fun i s=>s.length=i) (s:=[]) hk rfl (fun k s _=>?_) ?_
 ·exact this
 ·show Cq n mod all (k+1) _ s=_
  rw[Cq,Ao (by omega)];simp[J2]
 ·intro k i s x hi hx hs ih
  have hm:=List.mem_of_getElem? hx
  rw[Cq,Ai (by omega),Lh hx,Af,A65 n mod x (h2 x hm) (h3 x hm),Af,Af,Ai (by omega),Cm i (by omega),ih _ (by simp[hs]),List.all_cons]
  cases Gq mod x with
  | false=>rfl
  | true=>simp[J2]
theorem Lj (n:Nat) (c:Bool):Cr (n+1) c=some (b2i c):=by cases c<;>rfl
theorem Ajd (n:Nat) {op a b mod:Int} (h:2≤mod∧mod≤16) (ha:inR mod a) (hb:inR mod b) (ho:6≤op∧op≤14):I3 (n+2) op a b mod=some (Xt op a b mod):=by
 have hm:=Adn h ha hb
 obtain⟨a0,a1⟩:=ha;obtain⟨b0,b1⟩:=hb
 have w1:IntKind.i64.wrap (a+b)=a+b:=wrap64 (by omega)
 have w2:IntKind.i64.wrap (a*b)=a*b:=wrap64 (by omega)
 have w3:IntKind.i64.wrap (a - b)=a - b:=wrap64 (by omega)
 have w4:IntKind.i64.wrap (a - b+mod)=a+mod - b:=by rw[wrap64 (by omega)];omega
 have w5:¬ mod=0:=by omega
 rcases A4e op with h | h | h | h | h | h | h | h | h | h | h | h | h | h | h | h
 all_goals try omega
 all_goals subst h;rw[I3]
 ·simp only[Ao w5,w1];rfl
 ·simp only[Ao w5,w3,w4];rfl
 ·simp only[Ao w5,w2];rfl
 ·simp only[Lj];rfl
 ·simp only[Lj];rfl
 ·simp only[Lj];rfl
 ·simp only[Lj];rfl
 ·simp only[Lj]
  show(bif a != 0 then _ else _)=some (b2i (a*b != 0))
  by_cases ca:a=0
  ·subst ca;simp
  ·have e:(a*b != 0)=(b != 0):=by
    by_cases cb:b=0
    ·subst cb;simp
    ·have:¬ a*b=0:=fun h=>(Int.mul_eq_zero.1 h).elim ca cb
     rw[bne_iff_ne.2 this,bne_iff_ne.2 cb]
   have:(a != 0)=true:=by simpa using ca
   rw[this,e];rfl
 ·simp only[Lj]
  show(bif a != 0 then _ else _)=some (b2i (a+b != 0))
  by_cases ca:a=0
  ·subst ca;simp
  ·have:(a != 0)=true:=by simpa using ca
   have e:(a+b != 0)=true:=by simp;omega
   rw[this,e];rfl
theorem Ajb (n:Nat) (l:List OpS) {mod:Int} {own:List Int} {all:List (List Int)} {mem:List Int} (G:Afc mod own all mem) (hl:l.length < 1000000) (hok:∀ x ∈ l,Pi (J2 all) own.length mem.length x=true) (hr:(I8 l (0,0)).1≠ -1) {k:Nat} (hk:l.length < k) :
 Bt (n+2) l mod own all mem k 0 []=some (.out (Lc mod own all mem l []).reverse):=by
 refine Kd l (fun k i R=>Bt (n+2) l mod own all mem k (i:Int) R.reverse) (fun l R=>some (.out (Lc mod own all mem l R).reverse))
  (fun i R=>R.length≤i∧(∀ v ∈ R,inR mod v)∧∃ m,(I8 (l.drop i) ((R.length:Int),m)).1≠ -1) (s:=[]) hk ⟨Nat.le_refl _,by simp,0,hr⟩ ?_ ?_
 ·intro k s hs
  rw[Bt,Ao (by omega)];rfl
 ·rintro k i R x hi hx ⟨r1,r2,m,r3⟩ ih
  have hlt:(i:Int) < (l.length:Int):=by omega
  have hd:l.drop i=x :: l.drop (i+1):=by rw[List.drop_eq_getElem_cons hi];rw[A5 hi] at hx;rw[Option.some.inj hx]
  have hmem:x ∈ l:=List.mem_of_getElem? hx
  have ho:=hok x hmem
  have hmod:=G.h
  rw[hd,I8] at r3
  have ht:¬ ((R.length:Int) < Ea x.op):=by
   intro c;rw[if_pos c] at r3;exact r3 rfl
  rw[if_neg ht] at r3
  rw[Bt,Ai hlt,Lh hx,Cm i (by omega)]
  have c0:¬ mod=0:=by omega
  simp only[Af,Lc,List.length_reverse,Ao c0,Ai (show(R.length+1)*9≤140737488355328 by omega)]
  have push:∀ v,inR mod v→Ea x.op=0→Bt (n+2) l mod own all mem k ((i+1:Nat):Int) (R.reverse++[v])=some (.out (Lc mod own all mem (l.drop (i+1)) (v :: R)).reverse):=by
   intro v hv h0
   have:=ih (v :: R) ⟨by simp;omega,by simpa using⟨hv,r2⟩,_,by
    rw[List.length_cons]
    rw[h0] at r3
    have e:((R.length+1:Nat):Int)=(R.length:Int)+(1 - 0):=by omega
    rw[e];exact r3⟩
   rw[← this,List.reverse_cons]
  unfold Pi at ho
  by_cases c1:x.op=1
  ·rw[if_pos c1,A9] at ho
   simp only[c1,if_true,beq_self_eq_true,As]
   exact push _ (A0w hmod.1 ho.1) (by rw[c1];rfl)
  by_cases c2:x.op=2
  ·rw[if_neg c1,if_pos c2,A9] at ho
   simp only[c1,c2,if_true,if_false,beq_self_eq_true,As,Ay,C8.2 c1,show((2:Int)==1)=false from rfl,show ¬ (2:Int)=1 by omega]
   obtain⟨e1,e2⟩:=A5l G.own ho
   rw[e1]
   exact push _ e2 (by rw[c2];rfl)
  by_cases c3:x.op=3
  ·rw[if_neg c1,if_neg c2,if_pos c3,A9] at ho
   simp only[c3,if_true,if_false,beq_self_eq_true,As,Ay,show((3:Int)==1)=false from rfl,show((3:Int)==2)=false from rfl,show ¬ (3:Int)=1 by omega,show ¬ (3:Int)=2 by omega]
   obtain⟨e1,e2⟩:=A5l G.mem ho
   rw[e1]
   exact push _ e2 (by rw[c3];rfl)
  rw[if_neg c1,if_neg c2,if_neg c3] at ho
  rw[C8.2 c1,C8.2 c2,C8.2 c3,if_neg c1,if_neg c2,if_neg c3]
  by_cases c4:x.op=4
  ·rw[if_pos c4] at ho
   rw[c4,if_pos rfl]
   split at ho
   ·rename_i g0
    split at ho
    ·rename_i r hr
     rw[J2,List.getElem?_map] at hr
     obtain⟨u,hu,rfl⟩:=Option.map_eq_some_iff.1 hr
     rw[A9] at ho
     have hu':idx all x.t=some u:=by rw[S8 g0,hu]
     obtain⟨e1,e2⟩:=A5l (G.all u (List.mem_of_getElem? hu)) ho
     have e3:all.getD x.t.toNat []=u:=by rw[List.getD_eq_getElem?_getD,hu];rfl
     simp only[Ay,beq_self_eq_true,As,hu',Af,e1,e3]
     exact push _ e2 (by rw[c4];rfl)
    ·cases ho
   ·cases ho
  rw[if_neg c4,C8.2 c4]
  have h5:5≤x.op∧x.op≤14:=by unfold Ea at ht;repeat' split at ht
                             all_goals omega
  have tk:Ea x.op=if x.op=5 then 1 else 2:=by unfold Ea;rw[if_neg (by omega)];split
                                              ·rfl
                                              ·rw[if_pos (by omega)]
  obtain⟨t,ht1,ht2,ht3⟩:∃ t:Nat,Ea x.op=t∧1≤t∧t≤R.length:=⟨(Ea x.op).toNat,by rw[tk];split<;>rfl,by rw[tk];split<;>decide,by rw[tk] at ht ⊢;split at ht<;>split<;>omega⟩
  have gin:∀ j,j < R.length→inR mod (R.getD j 0):=fun j hj=>by
   rw[List.getD_eq_getElem?_getD,A5 hj];exact r2 _ (List.getElem_mem hj)
  have p2:idx R.reverse ((R.length:Int) - 1)=some (R.getD 0 0):=by
   rw[show(R.length:Int) - 1=((R.length - 1 - 0:Nat):Int) by omega,Wm,A93 (by omega)]
  have fin:∀ v,inR mod v→Bt (n+2) l mod own all mem k ((i+1:Nat):Int) (v :: R.drop t).reverse=some (.out (Lc mod own all mem (l.drop (i+1)) (v :: R.drop t)).reverse):=by
   intro v hv
   refine ih (v :: R.drop t) ⟨by simp;omega,fun w hw=>by
    rcases List.mem_cons.1 hw with rfl | hw
    ·exact hv
    ·exact r2 w (List.mem_of_mem_drop hw),_,by
    rw[List.length_cons,List.length_drop]
    have e:((R.length - t+1:Nat):Int)=(R.length:Int)+(1 - Ea x.op):=by omega
    rw[e];exact r3⟩
  rw[tk] at ht1
  rw[wrap64 (n:=(R.length:Int) - 1) (by omega),wrap64 (n:=(R.length:Int) - 2) (by omega),p2]
  by_cases c5:x.op=5
  ·rw[if_pos c5] at ht1 ⊢
   obtain rfl:t=1:=by omega
   rw[c5]
   simp only[Ay,As,beq_self_eq_true,Af,Lj]
   have e:=A8i (R:=R) (Xt 5 0 (R.getD 0 0) mod) ⟨ht2,ht3⟩
   rw[List.take_of_length_le (by rw[List.length_set,List.length_reverse];omega)] at e
   rw[show((R.length:Int) - 1).toNat=R.length - 1 by omega]
   have e2:b2i (R.getD 0 0==0)=Xt 5 0 (R.getD 0 0) mod:=rfl
   rw[e2,e]
   exact fin _ (Wp hmod ⟨by omega,by omega⟩ (gin 0 (by omega)))
  ·rw[if_neg c5] at ht1 ⊢
   obtain rfl:t=2:=by omega
   have p1:idx R.reverse ((R.length:Int) - 2)=some (R.getD 1 0):=by
    rw[show(R.length:Int) - 2=((R.length - 1 - 1:Nat):Int) by omega,Wm,A93 (by omega)]
   rw[p1,C8.2 c5]
   simp only[Ay,Af,Ajd n hmod (gin 1 (by omega)) (gin 0 (by omega)) (show 6≤x.op∧x.op≤14 by omega),List.length_set,List.length_reverse]
   have cc:(decide (0≤(R.length:Int) - 1)&&decide ((R.length:Int) - 1≤(R.length:Int)))=true:=by
    rw[decide_eq_true (by omega),decide_eq_true (by omega)];rfl
   rw[cc,As,show((R.length:Int) - 1).toNat=R.length - 2+1 by omega,show((R.length:Int) - 2).toNat=R.length - 2 by omega,A8i _ ⟨ht2,ht3⟩]
   exact fin _ (Wp hmod (gin 1 (by omega)) (gin 0 (by omega)))
theorem Agc (n:Nat) (l:List OpS) (mod:Int) (own:List Int) (all:List (List Int)) (mem:List Int) (hl:l.length < 10000) (ho:own.length < 10000) (ha:all.length < 10000) (hm:mem.length < 10000) (hr:∀ r ∈ all,r.length < 10000)
 (hn:l.length+10 < n) (n1:own.length+10 < n) (n2:all.length+10 < n) (n3:mem.length+10 < n) (n4:∀ r ∈ all,r.length+10 < n) (n5:10 < n):Gl n l mod own all mem=some (Ab1 l mod own all mem):=by
 obtain⟨n,rfl⟩:∃ j,n=j+3:=⟨n - 3,by omega⟩
 rw[Gl]
 unfold Ab1
 by_cases c1:mod < 2
 ·have:Lb l mod own all mem=false:=by rw[Lb,decide_eq_false (by omega)];rfl
  rw[Ai c1,this];rfl
 by_cases c2:16 < mod
 ·have:Lb l mod own all mem=false:=by rw[Lb,decide_eq_false (by omega)];rfl
  rw[Ao c1,Ai c2,this];rfl
 have b3:=Aim (n+2) mod all (by omega) (fun r h=>by have:=hr r h;omega) (fun r h=>by have:=n4 r h;omega) (k:=n+2) (by omega)
 have b4:=Aea (n+2) l (J2 all) own.length mem.length (by omega) (by omega)
 rw[Ao c1,Ao c2,A65 _ _ own (by omega) (by omega),A65 _ _ mem (by omega) (by omega),b3]
 have e:Lb l mod own all mem=(Gq mod own&&(Gq mod mem&&(all.all (Gq mod)&&Rw l (J2 all) own.length mem.length))):=by
  rw[Lb,decide_eq_true (by omega),Bool.true_and]
 simp only[Af]
 cases g1:Gq mod own with
 | false=>rw[e,g1];rfl
 | true =>
 cases g0:Gq mod mem with
 | false=>rw[e,g1,g0];rfl
 | true =>
 cases g2:all.all (Gq mod) with
 | false=>rw[e,g1,g0,g2];rfl
 | true =>
 simp only[As,Af,b4]
 cases g3:Rw l (J2 all) own.length mem.length with
 | false=>rw[e,g1,g0,g2,g3];rfl
 | true =>
  have ok:Lb l mod own all mem=true:=by rw[e,g1,g0,g2,g3];rfl
  obtain⟨G,h1,h2⟩:=A8v ok
  obtain⟨v,hv,_⟩:=A8m ok (by omega)
  have hL:=Ajb n l G (by omega) h1 (by rw[h2];decide) (k:=n+2) (by omega)
  rw[ok,hL,hv]
  rfl
theorem Ot (k:Nat) (h:k < 4611686018427387904):IntKind.i64.wrap ((k:Int) - 1)=(k:Int) - 1:=wrap64 (by omega)
theorem Aes (n:Nat) (b:List A2) (loc:Int) (hb:b.length < 1000000):∀ (j k i c:Nat),i+j=b.length→j < k→c≤i→Cw n b loc k (c:Int) (i:Int)=some (.out ((c+A11 (b.drop i) loc:Nat):Int)):=by
 intro j
 induction j with
 | zero =>
  intro k i c hi hk hc
  obtain⟨k,rfl⟩:∃ j,k=j+1:=⟨k - 1,by omega⟩
  rw[Cw,Ao (by omega),List.drop_of_length_le (by omega)]
  rfl
 | succ j ih =>
  intro k i c hi hk hc
  obtain⟨k,rfl⟩:∃ j,k=j+1:=⟨k - 1,by omega⟩
  have hlt:i < b.length:=by omega
  rw[Cw,Ai (by omega),Cp hlt,Af,Cm i (by omega),Cm c (by omega),List.drop_eq_getElem_cons hlt]
  cases h:(b[i].loc==loc) with
  | true =>
   rw[As,ih k (i+1) (c+1) (by omega) (by omega) (by omega)]
   simp only[A11,List.filter_cons,h,if_true,List.length_cons]
   congr 3;omega
  | false =>
   rw[Ay,ih k (i+1) c (by omega) (by omega) (by omega)]
   simp only[A11,List.filter_cons,h,Bool.false_eq_true,if_false]
theorem Ag5 (n:Nat) (b:List A2) (loc:Int) (hb:b.length < 1000000) (hn:b.length+2 < n):Gh n b loc=some (A11 b loc:Int):=by
 obtain⟨n,rfl⟩:∃ j,n=j+1:=⟨n - 1,by omega⟩
 have:=Aes n b loc hb b.length n 0 0 (by omega) (by omega) (by omega)
 rw[Gh,show(0:Int)=((0:Nat):Int) from rfl,this,Af]
 simp
theorem Aib (n:Nat) (b:List A2) (model room loc:Int) (hb:b.length < 1000000) (hn:b.length+4 < n):H7 n b model room loc=some (A08 b model room loc):=by
 obtain⟨n,rfl⟩:∃ j,n=j+1:=⟨n - 1,by omega⟩
 rw[H7,A08]
 by_cases c2:model=2
 ·rw[if_pos c2,c2];rfl
 rw[if_neg c2,C8.2 c2,Ay]
 by_cases c3:model=3
 ·rw[if_pos c3,beq_iff_eq.2 c3,As,Ag5 n b loc hb (by omega)];rfl
 ·rw[if_neg c3,C8.2 c3];rfl
theorem A8z (n:Nat) (b:List A2) (loc:Int) (hb:b.length < 1000000):∀ (j k:Nat),j≤b.length→j < k→Di n b loc k ((j:Int) - 1)=some (match Ns (b.take j) loc with | some x=>.ret (x,true) | none=>.out ())
 | 0,k,_,hk=>by
  obtain⟨k,rfl⟩:∃ j,k=j+1:=⟨k - 1,by omega⟩
  rw[Di,Ao (by omega),List.take_zero];rfl
 | j+1,k,hj,hk=>by
  obtain⟨k,rfl⟩:∃ j,k=j+1:=⟨k - 1,by omega⟩
  have hlt:j < b.length:=by omega
  rw[show((j+1:Nat):Int) - 1=(j:Int) by omega,Di,Ai (by omega)]
  simp only[Cp hlt,Af,Ot j (by omega)]
  have e:Ns (b.take (j+1)) loc=if(b[j].loc==loc)=true then some b[j].n else Ns (b.take j) loc:=by
   unfold Ns
   rw[List.take_add_one,A5 hlt,Option.toList_some,List.reverse_append,List.reverse_singleton,List.singleton_append,List.find?_cons]
   cases b[j].loc==loc<;>rfl
  rw[e,A8z n b loc hb j k (by omega) (by omega)]
  cases b[j].loc==loc<;>rfl
theorem Aih (n:Nat) (b:List A2) (loc:Int) (hb:b.length < 1000000) (hn:b.length+2 < n):Gy n b loc=some (match Ns b loc with | some x=>(x,true) | none=>(0,false)):=by
 obtain⟨n,rfl⟩:∃ j,n=j+1:=⟨n - 1,by omega⟩
 rw[Gy,Ot _ (by omega),A8z n b loc hb b.length n (Nat.le_refl _) (by omega),List.take_length,Af]
 cases Ns b loc<;>rfl
def Nn (model loc:Int) (x:A2):Bool:=x.loc==loc || (decide (model=2)&&decide (loc < 0))
def T6 (o:Option Nat):Int:=match o with | some i=>(i:Int) | none=> -1
theorem A8j (n:Nat) (b:List A2) (model loc:Int) (hb:b.length < 1000000):∀ (j k:Nat),j≤b.length→j < k→Cd n b model loc k (T6 (((b.drop j).findIdx? (Nn model loc)).map (·+j))) ((j:Int) - 1)=some (.out (T6 (b.findIdx? (Nn model loc))))
 | 0,k,_,hk=>by
  obtain⟨k,rfl⟩:∃ j,k=j+1:=⟨k - 1,by omega⟩
  rw[Cd,Ao (by omega),List.drop_zero]
  cases b.findIdx? (Nn model loc)<;>rfl
 | j+1,k,hj,hk=>by
  obtain⟨k,rfl⟩:∃ j,k=j+1:=⟨k - 1,by omega⟩
  have hlt:j < b.length:=by omega
  rw[show((j+1:Nat):Int) - 1=(j:Int) by omega,Cd,Ai (by omega)]
  simp only[Cp hlt,Af,Ot j (by omega)]
  have ih:=A8j n b model loc hb j k (by omega) (by omega)
  rw[List.drop_eq_getElem_cons hlt,List.findIdx?_cons] at ih
  cases hp:Nn model loc b[j] with
  | true =>
   rw[hp,if_pos rfl] at ih
   have ih':Cd n b model loc k (j:Int) ((j:Int) - 1)=some (.out (T6 (b.findIdx? (Nn model loc)))):=by
    rw[← ih]
    simp[T6]
   cases h1:(b[j].loc==loc) with
   | true=>rw[As];exact ih'
   | false =>
    rw[Ay]
    unfold Nn at hp
    rw[h1,Bool.false_or,A6,A9,A9] at hp
    rw[beq_iff_eq.2 hp.1,As,Ai hp.2]
    exact ih'
  | false =>
   rw[hp] at ih
   simp only[Bool.false_eq_true,if_false,Option.map_map] at ih
   have ih':Cd n b model loc k (T6 (((b.drop (j+1)).findIdx? (Nn model loc)).map (·+(j+1)))) ((j:Int) - 1)=some (.out (T6 (b.findIdx? (Nn model loc)))):=by
    rw[← ih]
    congr 2
    cases (b.drop (j+1)).findIdx? (Nn model loc) with
    | none=>rfl
    | some z=>simp only[Option.map_some,Function.comp];rw[Nat.add_assoc,Nat.add_comm 1 j]
   unfold Nn at hp
   rw[Bool.or_eq_false_iff,Bool.and_eq_false_iff,decide_eq_false_iff_not,decide_eq_false_iff_not] at hp
   rw[hp.1,Ay]
   rcases hp.2 with q | q
   ·rw[C8.2 q,Ay];exact ih'
   ·rw[Ao q]
    cases (model==2)<;>exact ih'
def Pc (at':Int) (i:Nat) (l:List A2):List A2:=if(i:Int)≤at' then l.eraseIdx (at'.toNat - i) else l
theorem Adg (b:List A2) (at':Int) (L:Nat→Nat→List A2→Option (LR (List A2) (List A2×A2×Bool)))
 (h0:∀ k s,L (k+1) b.length s=some (.out s)) (h1:∀ k i s (hi:i < b.length),s.length≤i→L (k+1) i s=if(i:Int)≠at' then L k (i+1) (s++[b[i]]) else L k (i+1) s):∀ (j k i:Nat) (s:List A2),i+j=b.length→j < k→s.length≤i→L k i s=some (.out (s++Pc at' i (b.drop i))):=by
 intro j
 induction j with
 | zero =>
  intro k i s hi hk hs
  obtain⟨k,rfl⟩:∃ j,k=j+1:=⟨k - 1,by omega⟩
  obtain rfl:i=b.length:=by omega
  rw[h0,List.drop_length,Pc]
  split<;>simp
 | succ j ih =>
  intro k i s hi hk hs
  obtain⟨k,rfl⟩:∃ j,k=j+1:=⟨k - 1,by omega⟩
  have hlt:i < b.length:=by omega
  rw[h1 k i s hlt hs,List.drop_eq_getElem_cons hlt]
  by_cases c:(i:Int)=at'
  ·rw[if_neg (by simpa using c),ih k (i+1) s (by omega) (by omega) (by omega)]
   simp only[Pc]
   rw[if_neg (by omega),if_pos (by omega),show at'.toNat - i=0 by omega]
   rfl
  ·rw[if_pos c,ih k (i+1) _ (by omega) (by omega) (by simp;omega)]
   simp only[Pc]
   by_cases c2:(i:Int)≤at'
   ·rw[if_pos (by omega),if_pos c2,show at'.toNat - i=(at'.toNat - (i+1))+1 by omega,List.eraseIdx_cons_succ];simp
   ·rw[if_neg (by omega),if_neg c2];simp
theorem A6e (b:List A2):Pc (-1) 0 b=b:=by rw[Pc,if_neg (by omega)]
theorem Ahe (b:List A2) (i:Nat):Pc (i:Int) 0 b=b.eraseIdx i:=by rw[Pc,if_pos (by omega)];simp
theorem Ads (n:Nat) (b:List A2) (model loc:Int) (hb:b.length < 1000000) (hn:b.length+3 < n):I2 n b model loc=some (match Uz b model loc with
 | some i=>(match b[i]? with | some x=>(b.eraseIdx i,x,true) | none=>(b,⟨0,0⟩,false))
 | none=>(b,⟨0,0⟩,false)):=by
 obtain⟨n,rfl⟩:∃ j,n=j+1:=⟨n - 1,by omega⟩
 have h0:=A8j n b model loc hb b.length n (Nat.le_refl _) (by omega)
 rw[List.drop_length] at h0
 have h0':Cd n b model loc n (-1) ((b.length:Int) - 1)=some (.out (T6 (b.findIdx? (Nn model loc)))):=h0
 have hpI:Uz b model loc=match b.findIdx? (Nn model loc) with
  | some i=>if model=2∧0 < i∨(model≠2∧model≠3) then none else some i
  | none=>none:=rfl
 have st:∀ (i:Nat) (s:List A2) (h:i < b.length),s.length≤i→decide ((s.length+1)*17≤140737488355328)=true∧idx b (i:Int)=some b[i]:=fun i s h1 h2=>⟨decide_eq_true (by omega),Cp h1⟩
 have g:∀ (at':Int) (L:Nat→Int→List A2→Option (LR (List A2) (List A2×A2×Bool))),(∀ k i s,L (k+1) i s=(bif decide (i < ((b.length:Nat):Int)) then(bif (i != at') then((idx b i).bind fun x32=>(bif decide ((s.length+1)*17≤140737488355328) then(L k (IntKind.i64.wrap (i+1)) (s++([x32]:List A2))) else none)) else(L k (IntKind.i64.wrap (i+1)) s)) else(some (.out s))))→L n 0 []=some (.out (Pc at' 0 b)):=by
  intro at' L hL
  have:=Adg b at' (fun k i s=>L k (i:Int) s) (fun k s=>by rw[hL,Ao (by omega)]) (fun k i s hi hs=>by
   obtain⟨s1,s2⟩:=st i s hi hs
   rw[hL,Ai (by omega),Cm i (by omega)]
   by_cases c:(i:Int)=at'
   ·rw[if_neg (by simpa using c),c,show(at' != at')=false by simp,Ay]
   ·rw[if_pos c,bne_iff_ne.2 c,As,s2,Af,s1,As]) b.length n 0 [] (by omega) (by omega) (by simp)
  exact this
 have g1:=g (-1) (Ed n b) (fun k i s=>by rw[Ed])
 have g5:=g (-1) (Ec n b) (fun k i s=>by rw[Ec])
 rw[A6e] at g1 g5
 rw[I2,Ot _ (by omega),h0',Af]
 simp only
 cases hf:b.findIdx? (Nn model loc) with
 | none =>
  have hp:Uz b model loc=none:=by rw[hpI,hf]
  rw[show T6 none= -1 from rfl,hp]
  have g4:=g (-1) (D9 n b (-1)) (fun k i s=>by rw[D9])
  have g6:=g (-1) (D6 n b (-1)) (fun k i s=>by rw[D6])
  have g7:=g (-1) (Ef n b (-1)) (fun k i s=>by rw[Ef])
  rw[A6e] at g4 g6 g7
  by_cases c2:model=2
  ·rw[beq_iff_eq.2 c2,As,Ao (by omega),show(model != 2)=false by simp[c2],Ay,g4];rfl
  ·rw[C8.2 c2,Ay,bne_iff_ne.2 c2,As]
   by_cases c3:model=3
   ·rw[show(model != 3)=false by simp[c3],Ay,g6];rfl
   ·rw[bne_iff_ne.2 c3,As,g5];rfl
 | some z =>
  have hz:z < b.length:=(List.findIdx?_eq_some_iff_getElem.1 hf).1
  have hp:Uz b model loc=if model=2∧0 < z∨(model≠2∧model≠3) then none else some z:=by rw[hpI,hf]
  rw[show T6 (some z)=(z:Int) from rfl,hp]
  have g4:=g (z:Int) (D9 n b (z:Int)) (fun k i s=>by rw[D9])
  have g6:=g (z:Int) (D6 n b (z:Int)) (fun k i s=>by rw[D6])
  rw[Ahe] at g4 g6
  by_cases c2:model=2
  ·rw[beq_iff_eq.2 c2,As]
   by_cases c0:0 < z
   ·rw[Ai (by omega),g1,if_pos (.inl ⟨c2,c0⟩)];rfl
   ·rw[Ao (by omega),show(model != 2)=false by simp[c2],Ay,g4,Af,if_neg (by omega)]
    simp only
    rw[Ao (by omega),Cp hz,A5 hz]
    rfl
  ·rw[C8.2 c2,Ay,bne_iff_ne.2 c2,As]
   by_cases c3:model=3
   ·rw[show(model != 3)=false by simp[c3],Ay,g6,Af,if_neg (by omega)]
    simp only
    rw[Ao (by omega),Cp hz,A5 hz]
    rfl
   ·rw[bne_iff_ne.2 c3,As,g5,if_pos (.inr ⟨c2,c3⟩)];rfl
theorem Ai3 (n:Nat) (b:List A2) (e:A2) (hb:b.length < 1000000):∀ (j k i:Nat) (put:Bool) (s:List A2),i+j=b.length→j < k→s.length≤i+(bif put then 1 else 0)→∃ p s',Eg n b e k put (i:Int) s=some (.out (p,s'))∧(bif p then s' else s'++[e])=s++(bif put then b.drop i else Lg e (b.drop i))∧s'.length≤b.length+1:=by
 intro j
 induction j with
 | zero =>
  intro k i put s hi hk hs
  obtain⟨k,rfl⟩:∃ j,k=j+1:=⟨k - 1,by omega⟩
  rw[Eg,Ao (by omega),List.drop_of_length_le (by omega)]
  refine⟨put,s,rfl,?_,by cases put<;>simp at hs<;>omega⟩
  cases put<;>simp[Lg]
 | succ j ih =>
  intro k i put s hi hk hs
  obtain⟨k,rfl⟩:∃ j,k=j+1:=⟨k - 1,by omega⟩
  have hlt:i < b.length:=by omega
  have hs1:s.length≤i+1:=by cases put<;>simp at hs<;>omega
  have hm:decide ((s.length+1)*17≤140737488355328)=true:=decide_eq_true (by omega)
  rw[Eg,Ai (by omega)]
  simp only[Cp hlt,Af,Cm i (by omega),hm,As]
  rw[List.drop_eq_getElem_cons hlt]
  cases put with
  | true =>
   obtain⟨p,s',e1,e2,e3⟩:=ih k (i+1) true (s++[b[i]]) (by omega) (by omega) (by simp at hs ⊢;omega)
   exact⟨p,s',e1,by rw[e2];simp,e3⟩
  | false =>
   simp only[Ay] at hs ⊢
   by_cases c:e.loc < b[i].loc
   ·have hm2:decide (((s++[e]).length+1)*17≤140737488355328)=true:=decide_eq_true (by simp;omega)
    obtain⟨p,s',e1,e2,e3⟩:=ih k (i+1) true ((s++[e])++[b[i]]) (by omega) (by omega) (by simp;omega)
    rw[Ai c,hm2,As]
    exact⟨p,s',e1,by rw[e2,Lg,if_pos c];simp,e3⟩
   ·obtain⟨p,s',e1,e2,e3⟩:=ih k (i+1) false (s++[b[i]]) (by omega) (by omega) (by simp;omega)
    rw[Ao c]
    exact⟨p,s',e1,by rw[e2,Lg,if_neg c];simp,e3⟩
theorem Ahh (n:Nat) (b:List A2) (model:Int) (e:A2) (hb:b.length < 1000000) (hn:b.length+3 < n):Mi n b model e=some (Wg b model e):=by
 obtain⟨n,rfl⟩:∃ j,n=j+1:=⟨n - 1,by omega⟩
 rw[Mi,Wg]
 by_cases c3:model=3
 ·obtain⟨p,s',e1,e2,e3⟩:=Ai3 n b e hb b.length n 0 false [] (by omega) (by omega) (by simp)
  rw[show(model != 3)=false by simp[c3],Ay,if_pos c3,show(0:Int)=((0:Nat):Int) from rfl,e1,Af]
  simp only[List.nil_append,Ay,List.drop_zero] at e2
  simp only
  cases p with
  | true=>rw[As] at e2 ⊢;rw[e2]
  | false=>rw[Ay] at e2 ⊢;rw[Ai (by omega),e2]
 ·rw[bne_iff_ne.2 c3,As,if_neg c3,Ai (by simp;omega)]
  by_cases c2:model=2
  ·rw[beq_iff_eq.2 c2,As,Ai (by simp;omega),if_pos c2];rfl
  ·rw[C8.2 c2,Ay,if_neg c2];rfl
structure T4 (u:Ac) (c:A8):Prop where
 lpc:c.pc.length=u.regs.length
 lregs:c.regs.length=u.regs.length
 lbuf:c.buf.length=u.regs.length
 lmem:c.mem.length≤6
 regs:∀ r ∈ c.regs,r.length≤6
 buf:∀ b ∈ c.buf,b.length≤1000
theorem A8p (n:Nat) (c:A8) (t loc:Int) (hb:∀ b ∈ c.buf,b.length≤1000) (hn:1100 < n):Gm n c t loc=some (J3 c t loc):=by
 obtain⟨n,rfl⟩:∃ j,n=j+1:=⟨n - 1,by omega⟩
 rw[Gm,J3]
 by_cases c1:t < 0
 ·rw[Ai c1,if_pos (.inl c1)]
 by_cases c2:(c.buf.length:Int)≤t
 ·rw[Ao c1,Ai c2,if_pos (.inr (.inl c2))]
 by_cases c3:loc < 0
 ·rw[Ao c1,Ao c2,Ai c3,if_pos (.inr (.inr (.inl c3)))]
 by_cases c4:(c.mem.length:Int)≤loc
 ·rw[Ao c1,Ao c2,Ao c3,Ai c4,if_pos (.inr (.inr (.inr c4)))]
 have t1:t.toNat < c.buf.length:=by omega
 have t2:loc.toNat < c.mem.length:=by omega
 have e1:idx c.buf t=some c.buf[t.toNat]:=by rw[S8 (by omega),A5 t1]
 have e2:idx c.mem loc=some c.mem[loc.toNat]:=by rw[S8 (by omega),A5 t2]
 have e3:c.buf.getD t.toNat []=c.buf[t.toNat]:=by rw[List.getD_eq_getElem?_getD,A5 t1];rfl
 have e4:c.mem.getD loc.toNat 0=c.mem[loc.toNat]:=by rw[List.getD_eq_getElem?_getD,A5 t2];rfl
 have hl:=hb _ (List.getElem_mem t1)
 rw[Ao c1,Ao c2,Ao c3,Ao c4,if_neg (by omega),e1,Af,Aih n _ loc (by omega) (by omega),Af,e2,e3,e4]
 cases Ns c.buf[t.toNat] loc<;>rfl
theorem Ul (n:Nat) (u:Ac) (c:A8) (t:Nat) (l:List OpS) (ht:t < c.regs.length) (hr:∀ r ∈ c.regs,r.length≤6) (hl:l.length≤300) (hn:1100 < n):Gi n u c (t:Int) l=some (Dy u c t l):=by
 obtain⟨n,rfl⟩:∃ j,n=j+1:=⟨n - 1,by omega⟩
 have e1:c.regs.getD t []=c.regs[t]:=by rw[List.getD_eq_getElem?_getD,A5 ht];rfl
 have h6:=hr _ (List.getElem_mem ht)
 rw[Gi,Cp ht,Af,Agc n l u.mod c.regs[t] [] [] (by omega) (by omega) (by simp) (by simp) (by simp) (by omega) (by omega) (by simp;omega) (by simp;omega) (by simp) (by omega),Af,Dy,e1]
theorem X7 (n:Nat) (u:Ac) (c:A8) (model room:Int) (t:Nat) (hu:Ax u=true) (hlu:Dk u=true) (h:Cj u c model room) (hz:T4 u c) (ht:t < u.regs.length) (hn:1200 < n):Fr n u c model room (t:Int)=some (enC u c model room t):=by
 obtain⟨n,rfl⟩:∃ j,n=j+1:=⟨n - 1,by omega⟩
 have hh:=Bn hu
 have t1:t < c.pc.length:=by have:=h.lpc;omega
 have t2:t < c.regs.length:=by have:=h.lregs;omega
 have t3:t < c.buf.length:=by have:=h.lbuf;omega
 have t4:t < u.code.length:=by omega
 have H:=h.thr t _ _ _ _ _ (A5 t1) (A5 t2) (A5 t3) (A5 t4) (A5 ht)
 have p0:=H.pc0
 have p1:=H.pc1
 have pl:(c.pc[t]).toNat < (u.code[t]).length:=by omega
 have e3:c.buf.getD t []=c.buf[t]:=by rw[List.getD_eq_getElem?_getD,A5 t3];rfl
 have hbl:=hz.buf _ (List.getElem_mem t3)
 have hx:Nl u c t=some u.code[t][(c.pc[t]).toNat]:=by
  rw[Nl,A5 t4,A5 t1]
  simp only
  rw[if_pos p0,A5 pl]
 have hxl:(u.code[t][(c.pc[t]).toNat]).e.length≤300:=by
  simp only[Dk,Dp,A6,List.all_eq_true,A9] at hlu
  exact((hlu.2 _ (List.getElem_mem t4)).2 _ (List.getElem_mem pl)).1
 rw[Fr,Ao (by omega),Ao (by omega),Cp t4,Af,Cp t1,Af,S8 p0,A5 pl,Af,enC,hx]
 generalize u.code[t][(c.pc[t]).toNat]=x at *
 simp only[enX,e3,Cp t3,Af]
 by_cases c22:x.op=22
 ·rw[if_pos c22,beq_iff_eq.2 c22];rfl
 rw[if_neg c22,C8.2 c22,Ay]
 by_cases c4:x.op=4
 ·rw[if_pos c4,beq_iff_eq.2 c4,As]
  by_cases m1:model=1
  ·rw[beq_iff_eq.2 m1,decide_eq_true m1];rfl
  ·rw[C8.2 m1,decide_eq_false m1,Ay,Aib n _ _ _ _ (by omega) (by omega)];rfl
 rw[if_neg c4,C8.2 c4,Ay]
 have hem:(((c.buf[t].length:Nat):Int)==0)=c.buf[t].isEmpty:=by
  cases c.buf[t] with
  | nil=>rfl
  | cons a l=>rw[C8.2 (by simp;omega)];rfl
 by_cases c58:5≤x.op∧x.op≤8
 ·rw[if_pos c58,hem]
  obtain q | q | q | q:x.op=5∨x.op=6∨x.op=7∨x.op=8:=by omega
  all_goals rw[q];rfl
 rw[if_neg c58,C8.2 (show ¬ x.op=8 by omega),C8.2 (show ¬ x.op=5 by omega),C8.2 (show ¬ x.op=6 by omega),C8.2 (show ¬ x.op=7 by omega)]
 simp only[Ay]
 by_cases c9:x.op=9
 ·rw[if_pos c9,beq_iff_eq.2 c9,As,A8p n c _ _ hz.buf (by omega),Af,Ul n u c t _ t2 hz.regs hxl (by omega),Af]
  rfl
 ·rw[if_neg c9,C8.2 c9];rfl
theorem V6 (n:Nat) (c:A8) (model:Int) (t:Nat) (loc:Int) (ht:t < c.buf.length) (hb:∀ b ∈ c.buf,b.length≤1000) (hn:1100 < n):Es n c model (t:Int) loc=some (H6 c model t loc).2:=by
 obtain⟨n,rfl⟩:∃ j,n=j+1:=⟨n - 1,by omega⟩
 have e3:c.buf.getD t []=c.buf[t]:=by rw[List.getD_eq_getElem?_getD,A5 ht];rfl
 have hl:=hb _ (List.getElem_mem ht)
 rw[Es,Ao (by omega),Ao (by omega),Cp ht,Af,Ads n _ model loc (by omega) (by omega),Af,H6,e3]
 cases Uz c.buf[t] model loc with
 | none=>rfl
 | some i =>
  simp only
  cases c.buf[t][i]?<;>rfl
theorem Uh {α:Type} (p:α→Bool):∀ l:List α,l.length=(l.filter p).length+(l.filter fun x=>!p x).length
 | []=>rfl
 | a :: l=>by
  have:=Uh p l
  rw[List.filter_cons,List.filter_cons]
  cases p a<;>simp<;>omega
theorem Q5 {u:Ac} {c:A8} {model room:Int} (hu:Ax u=true) (hm:1≤model∧model≤3) (hr:1≤room∧room≤4) (h:Cj u c model room):T4 u c:=by
 have hh:=Bn hu
 have get:∀ t (h3:t < c.buf.length),∃ p r code nr,c.pc[t]?=some p∧c.regs[t]?=some r∧u.code[t]?=some code∧u.regs[t]?=some nr:=fun t h3=>by
  have:=h.lbuf;have:=h.lpc;have:=h.lregs
  exact⟨_,_,_,_,A5 (by omega),A5 (by omega),A5 (show t < u.code.length by omega),A5 (by omega)⟩
 refine⟨h.lpc,h.lregs,h.lbuf,by rw[h.lmem];omega,fun r hr2=>?_,fun b hb=>?_⟩
 ·obtain⟨t,ht,rfl⟩:=List.getElem_of_mem hr2
  have l1:=h.lregs;have l2:=h.lbuf;have l3:=h.lpc
  have H:=h.thr t _ _ _ _ _ (A5 (show t < c.pc.length by omega)) (A5 ht) (A5 (show t < c.buf.length by omega)) (A5 (show t < u.code.length by omega)) (A5 (show t < u.regs.length by omega))
  have:=Mm hu (t:=t) (by omega) (by omega)
  have:=H.len
  omega
 ·obtain⟨t,ht,rfl⟩:=List.getElem_of_mem hb
  have l1:=h.lregs;have l2:=h.lbuf;have l3:=h.lpc
  have H:=h.thr t _ _ _ _ _ (A5 (show t < c.pc.length by omega)) (A5 (show t < c.regs.length by omega)) (A5 ht) (A5 (show t < u.code.length by omega)) (A5 (show t < u.regs.length by omega))
  obtain⟨b1,b2,b3,b4⟩:=H.buf
  rcases(show model=1∨model=2∨model=3 by omega) with q | q | q
  ·rw[b2 q];simp
  ·have:=b3 q;omega
  ·have k:=(b4 q).2
   have:∀ (m:Nat) (l:List A2),(∀ x ∈ l,0≤x.loc∧x.loc < (m:Int))→(∀ loc:Int,(((l.filter fun x=>x.loc==loc).length:Nat):Int)≤4)→l.length≤4*m:=by
    intro m
    induction m with
    | zero=>intro l hl _;cases l with
            | nil=>simp
            | cons a l=>have:=hl a (by simp);omega
    | succ m ih =>
     intro l hl hk
     have h1:=ih (l.filter fun x=>!(x.loc==(m:Int))) (fun x hx=>by
      obtain⟨x1,x2⟩:=List.mem_filter.1 hx
      have:=hl x x1
      have:x.loc≠(m:Int):=by simpa using x2
      omega) (fun loc=>by
      have:=hk loc
      have h2:(((l.filter fun x=>!(x.loc==(m:Int))).filter fun x=>x.loc==loc).length)≤(l.filter fun x=>x.loc==loc).length:=(List.filter_sublist.filter _).length_le
      omega)
     have h2:=hk (m:Int)
     have h3:l.length=(l.filter fun x=>x.loc==(m:Int)).length+(l.filter fun x=>!(x.loc==(m:Int))).length:=by
      exact Uh (fun x:A2=>x.loc==(m:Int)) l
     omega
   have:=this u.init.length _ (fun x hx=>⟨(b1 x hx).1,(b1 x hx).2.1⟩) (fun loc=>by have:=k loc;omega)
   omega
end Go.Proofs.Ytpknphnaegfghaa
end
