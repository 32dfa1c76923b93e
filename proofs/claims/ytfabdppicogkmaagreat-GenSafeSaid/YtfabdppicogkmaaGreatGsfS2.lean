/- Parts of the proofs: what they lean on. Conditions: none. -/
import Derived.WalkKit
import Derived.WalkSpells
import Derived.WalkLawsBesides
import Derived.Lib.Hide
import Derived.Deep.QuietTactic
import Derived.BigQuiet
import Derived.WalkSmall
import Derived.Laws.AppendOwnNone
import Derived.Deep.RegionWith
import Derived.Deep.RegionLaw
import Derived.Deep.CutRange
import Derived.Deep.DeepCutAuto
import Derived.Deep.LoopGhost
import Derived.Test.YtfabdppicogkmaaGreatGsfS1
section
namespace Go.Proofs.YtfabdppicogkmaaGreat
open Go.RowKit
set_option linter.unusedVariables false
set_option linter.unusedSimpArgs false
abbrev bs (l:List UInt8):ByteArray:=⟨l.toArray⟩
def Arr (w:World) (size:Nat) (v:Value) (n:Nat) (xs:List Value):Prop :=
 xs.length=n*size∧∃ a cap,v=.slice a n cap∧(n≤cap∧cap≤maxLen∧(a=none→cap=0))∧∀ j u,xs[j]?=some u→∃ b off,a=some ⟨b,off,none⟩∧w.cell? ⟨b,off+j,none⟩=some u
theorem Arr.mono {w w':World} {size n:Nat} {v:Value} {xs:List Value} (h:Arr w size v n xs) (hb:Below w.heap.size w w'):Arr w' size v n xs:=by
 obtain⟨h1,a,cap,hv,hp,hc⟩:=h
 exact⟨h1,a,cap,hv,hp,fun j u hj=>let ⟨b,off,e,h⟩:=hc j u hj;⟨b,off,e,cell_later hb h⟩⟩
theorem Arr.nil (w:World) (size:Nat):Arr w size (.slice none 0 0) 0 []:=⟨by simp,none,0,rfl,by simp,fun j u h=>by simp at h⟩
theorem Uh {α:Type} (cells:α→List Value) (k:Nat) (hk:∀ x,(cells x).length=k) (l:List α):(l.flatMap cells).length=l.length*k:=by
 induction l with
 | nil=>simp
 | cons a t ih=>simp only[List.flatMap_cons,List.length_append,List.length_cons,ih,hk,Nat.succ_mul];omega
theorem Apv {α:Type} (cells:α→List Value) (k:Nat) (hk:∀ x,(cells x).length=k) (l:List α) (i:Nat) (hi:i < l.length) (j:Nat) (hj:j < k):(l.flatMap cells)[i*k+j]?=(cells l[i])[j]?:=by
 induction l generalizing i with
 | nil=>simp at hi
 | cons a t ih =>
  simp only[List.flatMap_cons]
  cases i with
  | zero=>rw[Nat.zero_mul,Nat.zero_add,List.getElem?_append_left (by rw[hk];exact hj)];rfl
  | succ i =>
   rw[List.getElem?_append_right (by rw[hk,Nat.succ_mul];omega),hk,show(i+1)*k+j - k=i*k+j by rw[Nat.succ_mul];omega]
   simpa using ih i (by simpa using hi)
theorem Jt {P:Program} {w:World} {ops:Array Oper} {rest:List Oper} {o:Oper} {a:Act} {Q:Exit→Act→World→Prop} (hgd:o.guard=none) (s x:Operand) (t:TypeId)
 (ho:o.op=.call { callee:=.builtin .append,args:=#[s,x],argTypes:=#[t,t] })
 (base:Nat) (e:TypeId) (i:TypeInfo) (z:Value) (size bytes:Nat) (ht:P.underlying t=some (.slice e)) (hi:P.info? e=some i) (hz:i.zero=some z)
 (hsize:i.size=size) (hby:i.bytes=bytes) (hzs:z.cells.size=size) (hsz:0 < size)
 (v:Value) (n:Nat) (xs:List Value) (hs:a.eval s=v) (hown:w.ownsRow base e size v n xs)
 (v2:Value) (m:Nat) (news:List Value) (hx:a.eval x=v2) (harr:Arr w size v2 m news) (h1:∀ u ∈ news,u.oneCell'=true)
 (h63:n+m≤maxLen) (hbytes:(n+m)*bytes≤140737488355328) (hbase:base≤w.heap.size)
 (h:∀ v' w',w'.ownsRow base e size v' (n+m) (xs++news)→w.grownBy w' v.ownBlock→wpList P ops Q rest (a.put o.dst v') w'):wpList P ops Q (o :: rest) a w:=by
 obtain⟨hl,ad,cap,rfl,⟨h2,_,h3⟩,hc⟩:=harr
 cases ad with
 | none =>
  have:=h3 rfl
  subst this
  have hm:m=0:=by omega
  subst hm
  have hn:news=[]:=List.eq_nil_of_length_eq_zero (by rw[hl];simp)
  subst hn
  refine wpList_append_own_none hgd s x t ho base e i size ht hi v n xs hs hown hx ?_
  have:=h v w (by simpa using hown) ⟨rfl,rfl,rfl,Nat.le_refl _,fun _ _ _=>rfl⟩
  exact this
 | some ad =>
  refine wpList_append_own w hgd s x t ho base e i z size bytes ht hi hz hsize hby hzs hsz v n xs hs hown ad m cap news hx hl ?_ h1 h63 hbytes hbase fun v' w' g1 g2 _=>h v' w' g1 g2
  intro j u hj
  obtain⟨b,off,e,hcell⟩:=hc j u hj
  cases e
  have hadd:(⟨b,off,none⟩:Addr).add j=⟨b,off+j,none⟩:=by unfold Addr.add;split<;>simp_all
  rw[hadd]
  exact hcell
theorem Dn {w w':World} {base:Nat} {e:TypeId} {size:Nat} {v:Value} {n:Nat} {xs:List Value} (h:w.ownsRow base e size v n xs) (hb:Below w.heap.size w w'):w'.ownsRow base e size v n xs:=by
 refine⟨h.1,?_⟩
 rcases h.2 with hn | ⟨g,cap,cur,rfl,hbg,hgg,rest⟩
 ·exact .inl hn
 ·exact .inr ⟨g,cap,cur,rfl,hbg,by rw[hb.block g (Array.getElem?_eq_some_iff.1 hgg).1];exact hgg,rest⟩
def Still (w w':World):Prop:=∃ n,w'=w.drewN n
theorem Still.refl (w:World):Still w w:=⟨0,rfl⟩
theorem Still.below {w w':World} (h:Still w w') (B:Nat):Below B w w':=by obtain⟨n,rfl⟩:=h;exact below_drewN (Below.refl _ _) n
inductive Pl where
 | blk (b:Nat)
 | sv (v:Value)
 | ofs (b o:Nat)
def Pl.isBlk:Pl→Bool
 | .sv _=>false
 | _=>true
abbrev E5 (vs:List Value):Prop:=∀ v ∈ vs,v.oneCell'=true
def Laid (S:Nat→Nat→Prop) (w:World) (a:Option Addr) (size:Nat) (vss:List (List Value)):Prop :=
 (∀ vs ∈ vss,vs.length=size)∧∀ j vs t u,vss[j]?=some vs→vs[t]?=some u→∃ b o,a=some ⟨b,o,none⟩∧S b (o+j*size+t)∧w.cell? ⟨b,o+j*size+t,none⟩=some u
def Cap (a:Option Addr) (n cap:Nat):Prop:=n≤cap∧cap≤maxLen∧(a=none→cap=0)
def Ud:Value→Nat→Value
 | .slice a _ cap,n=>.slice a n cap
 | v,_=>v
def StkAt (hp:Hp) (φ:List Pl) (id ver n:Nat) (v:Value):Prop:=(∃ a cap,v=.slice a n cap∧Cap a n cap)∧∃ ver' e size els,nth? hp id=some (.stk ver' e size els)∧ver≤ver'∧(ver=ver'→n≤els.length∧∃ v0,φ[id]?=some (Pl.sv v0)∧v=Ud v0 n)
def PtsAt (hp:Hp) (φ:List Pl) (id ver i off:Nat) (v:Value):Prop:=(∃ b o,v=.pointer (some ⟨b,o,none⟩))∧∃ ver' e size els,nth? hp id=some (.stk ver' e size els)∧ver≤ver'∧(ver=ver'→∃ g len cap,φ[id]?=some (Pl.sv (.slice (some ⟨g,0,none⟩) len cap))∧v=.pointer (some ⟨g,i*size+off,none⟩))
abbrev A7k:=Value×Option (Array MapEntry×Nat)×(Nat×Nat)
def stay (w:World) (b o:Nat):Option A7k:=match w.heap[b]? with
 | some (.cells c _ f)=>(c[o]?).map fun v=>(v,none,f)
 | some (.map es k)=>some (.bool false,some (es,k),(0,0))
 | _=>none
theorem A64 (w:World) (b o:Nat):w.cell? ⟨b,o,none⟩=(stay w b o).bind fun p=>match p.2.1 with
 | none=>some p.1
 | some _=>none:=by
 unfold World.cell? stay
 dsimp only
 cases w.heap[b]? with
 | none=>rfl
 | some ob=>cases ob<;>try rfl
            rename_i c _ _
            dsimp only [Option.isSome]
            cases h:c[o]?<;>simp[h]
theorem A1b {w:World} {b o:Nat} {es:Array MapEntry} {k:Nat} (h:w.heap[b]?=some (.map es k)):stay w b o=some (.bool false,some (es,k),(0,0)):=by unfold stay;rw[h]
theorem Akz {w:World} {b o:Nat} {v:Value} {es:Array MapEntry} {k:Nat} {f:Nat×Nat} (h:stay w b o=some (v,some (es,k),f)):w.heap[b]?=some (.map es k):=by
 unfold stay at h
 split at h
 ·rename_i c _ _ _
  cases hc:c[o]?<;>simp[hc] at h
 ·rename_i es' k' hw
  simp only[Option.some.injEq,Prod.mk.injEq] at h
  obtain⟨_,⟨rfl,rfl⟩,_⟩:=h
  exact hw
 ·cases h
theorem Lr {w:World} {b o:Nat} {v:Value} {c:Array Value} {E:TypeId} {f:Nat×Nat} (hb:w.heap[b]?=some (.cells c E f)) (h:w.cell? ⟨b,o,none⟩=some v):stay w b o=some (v,none,f):=by
 unfold World.cell? at h
 simp only[hb,Option.isSome] at h
 unfold stay
 simp only[hb]
 have h:c[o]?=some v:=h
 rw[h];rfl
theorem A2l {w:World} {b o:Nat} {v:Value} (h:w.cell? ⟨b,o,none⟩=some v):∃ c E f,w.heap[b]?=some (.cells c E f):=by
 unfold World.cell? at h
 dsimp only at h
 cases hb:w.heap[b]? with
 | none=>rw[hb] at h;cases h
 | some ob =>
  rw[hb] at h
  cases ob with
  | cells c E f=>exact⟨c,E,f,rfl⟩
  | _=>simp at h
theorem Yh {w:World} {b o:Nat} {v:Value} (h:w.cell? ⟨b,o,none⟩=some v):∃ f,stay w b o=some (v,none,f):=by
 obtain⟨c,E,f,hb⟩:=A2l h
 exact⟨f,Lr hb h⟩
theorem Id {w w':World} {b:Nat} (h:w'.heap[b]?=w.heap[b]?) (o:Nat):stay w' b o=stay w b o:=by unfold stay;rw[h]
theorem Hr {w:World} {b o:Nat} {p:A7k} (h:stay w b o=some p):b < w.heap.size:=by
 unfold stay at h
 cases hb:w.heap[b]? with
 | none=>rw[hb] at h;cases h
 | some ob=>exact(Array.getElem?_eq_some_iff.1 hb).1
theorem Adv {w w':World} {b o:Nat} {c c':Array Value} {E E':TypeId} {f:Nat×Nat} (h:w.heap[b]?=some (.cells c E f)) (h':w'.heap[b]?=some (.cells c' E' f)) (hc:w'.cell? ⟨b,o,none⟩=w.cell? ⟨b,o,none⟩):stay w' b o=stay w b o:=by
 unfold World.cell? at hc
 simp only[h,h',Option.isSome] at hc
 unfold stay
 simp only[h,h']
 have hc:c'[o]?=c[o]?:=hc
 rw[hc]
def Ix (x:MapEntry):List Value:=[x.key,x.val]
def V5 (es:Array MapEntry) (vss:List (List Value)):Prop:=vss=es.toList.map Ix∧∀ (i:Nat) x,es[i]?=some x→x.born=i
def Rr (kd:Option IntKind) (el:List AV):Prop:=match kd with
 | some k=>∃ n v,el=[.int k n,v]
 | none=>∃ s v,el=[.str s,v]
def KeysAV (kd:Option IntKind) (els:List (List AV)):Prop:=∀ el ∈ els,Rr kd el
theorem KeysAV.mapped {kd:Option IntKind} {els:List (List AV)} (h:KeysAV kd els) {g:AV→AV} (h1:∀ k n,g (.int k n)=.int k n) (h2:∀ s,g (.str s)=.str s):KeysAV kd (els.map (List.map g)):=by
 intro el he
 obtain⟨el0,h0,rfl⟩:=List.mem_map.1 he
 have:=h el0 h0
 unfold Rr at this ⊢
 cases kd with
 | some k=>obtain⟨n,v,rfl⟩:=this;exact⟨n,g v,by simp[h1]⟩
 | none=>obtain⟨s,v,rfl⟩:=this;exact⟨s,g v,by simp[h2]⟩
mutual
inductive Rep (S:Nat→Nat→Prop) (w:World):Hp→List Pl→AV→Value→Prop
 | junk (hp φ v):Rep S w hp φ .junk v
 | bool (hp φ b):Rep S w hp φ (.bool b) (.bool b)
 | int (hp φ k n) (h:(Lit.int k n).wf=true):Rep S w hp φ (.int k n) (.int k n)
 | str (hp φ s) (h:s.length≤maxLen):Rep S w hp φ (.str s) (.string (bs s))
 | nilp (hp φ):Rep S w hp φ .nilp (.pointer none)
 | ptr (hp φ id off b) (h:φ[id]?=some (.blk b)):Rep S w hp φ (.ptr id off) (.pointer (some ⟨b,off,none⟩))
 | pte (hp φ id i off b size els o) (h:φ[id]?=some (.ofs b o)) (ho:nth? hp id=some (.arr size els)):Rep S w hp φ (.pte id i off) (.pointer (some ⟨b,o+(i*size+off),none⟩))
 | vsl (hp φ id off n cap b) (h:φ[id]?=some (.blk b)):Rep S w hp φ (.vsl id off n cap) (.slice (some ⟨b,off,none⟩) n cap)
 | vel (hp φ id off b) (h:φ[id]?=some (.blk b)):Rep S w hp φ (.vel id off) (.pointer (some ⟨b,off,none⟩))
 | rptr (hp φ el off vs b o) (hr:Reps S w [] [] el vs) (h1:E5 vs) (hl:∀ j u,vs[j]?=some u→S b (o+j)∧w.cell? ⟨b,o+j,none⟩=some u):Rep S w hp φ (.rptr el off) (.pointer (some ⟨b,o+off,none⟩))
 | nils (hp φ):Rep S w hp φ .nils (.slice none 0 0)
 | sl (hp φ size els vss a cap) (hr:Repss S w els vss) (hl:Laid S w a size vss) (hc:Cap a els.length cap):Rep S w hp φ (.sl size els) (.slice a els.length cap)
 | row (hp φ id n v e size els) (ho:nth? hp id=some (.row e size els)) (hn:n≤els.length) (hs:Rep S w [] [] (.sl size (els.take n)) v) (hcur:n=els.length→φ[id]?=some (.sv v)):Rep S w hp φ (.row id n) v
 | own (hp φ id off n b size els cap o) (h:φ[id]?=some (.ofs b o)) (ho:nth? hp id=some (.arr size els)) (hn:off+n≤els.length) (ad:Option Addr) (had:0 < n→ad=some ⟨b,o+off*size,none⟩) (hc:Cap ad n cap):Rep S w hp φ (.own id off n) (.slice ad n cap)
 | stk (hp φ id ver n v) (h:StkAt hp φ id ver n v):Rep S w hp φ (.stk id ver n) v
 | pts (hp φ id ver i off v) (h:PtsAt hp φ id ver i off v):Rep S w hp φ (.pts id ver i off) v
 | agg (hp φ cs vs) (hr:Reps S w hp φ cs vs) (h1:E5 vs):Rep S w hp φ (.agg cs) (.agg vs.toArray)
 | tup (hp φ cs vs) (hr:Reps S w hp φ cs vs):Rep S w hp φ (.tup cs) (.tuple vs.toArray)
 | func (hp φ f x y a b) (hx:Reps S w hp φ x a) (hy:Reps S w hp φ y b):Rep S w hp φ (.func f x y) (.func (.func f) a.toArray b.toArray)
 | nilf (hp φ):Rep S w hp φ .nilf .nilFunc
 | mapp (hp φ id b) (h:φ[id]?=some (.blk b)):Rep S w hp φ (.mapp id) (.map (some b))
 | mcln (hp φ kd):Rep S w hp φ (.mcl kd []) (.map none)
 | mcl (hp φ kd els vss b es) (hr:Repss S w els vss) (he:V5 es vss) (hk:KeysAV kd els) (hS:S b 0) (hw:w.heap[b]?=some (.map es es.size)):Rep S w hp φ (.mcl kd els) (.map (some b))
 | mfn (hp φ kd els vss b es) (hr:Ropen S w hp φ els vss) (he:V5 es vss) (hk:KeysAV kd els) (hS:S b 0) (hw:w.heap[b]?=some (.map es es.size)):Rep S w hp φ (.mfn kd els) (.map (some b))
 | ifc (hp φ t a v) (h:Rep S w [] [] a v):Rep S w hp φ (.ifc t a) (.iface t v)
 | nili (hp φ):Rep S w hp φ .nili .nilIface
inductive Reps (S:Nat→Nat→Prop) (w:World):Hp→List Pl→List AV→List Value→Prop
 | nil (hp φ):Reps S w hp φ [] []
 | cons (hp φ a v l vs) (h:Rep S w hp φ a v) (t:Reps S w hp φ l vs):Reps S w hp φ (a :: l) (v :: vs)
inductive Repss (S:Nat→Nat→Prop) (w:World):List (List AV)→List (List Value)→Prop
 | nil:Repss S w [] []
 | cons (el vs l vss) (h:Reps S w [] [] el vs) (h1:E5 vs) (t:Repss S w l vss):Repss S w (el :: l) (vs :: vss)
inductive Ropen (S:Nat→Nat→Prop) (w:World):Hp→List Pl→List (List AV)→List (List Value)→Prop
 | nil (hp φ):Ropen S w hp φ [] []
 | cons (hp φ el vs l vss) (h:Reps S w hp φ el vs) (h1:E5 vs) (t:Ropen S w hp φ l vss):Ropen S w hp φ (el :: l) (vs :: vss)
end
def SExt (S:Nat→Nat→Prop) (w:World) (S':Nat→Nat→Prop) (w':World):Prop:=∀ b o,S b o→S' b o∧stay w' b o=stay w b o
theorem SExt.cell {S S':Nat→Nat→Prop} {w w':World} (h:SExt S w S' w') {b o:Nat} (hs:S b o):w'.cell? ⟨b,o,none⟩=w.cell? ⟨b,o,none⟩:=by rw[A64,A64,(h b o hs).2]
theorem SExt.map {S S':Nat→Nat→Prop} {w w':World} (h:SExt S w S' w') {b o:Nat} (hs:S b o) {es:Array MapEntry} {k:Nat} (hw:w.heap[b]?=some (.map es k)):w'.heap[b]?=some (.map es k):=Akz ((h b o hs).2.trans (A1b hw))
theorem SExt.refl (S:Nat→Nat→Prop) (w:World):SExt S w S w:=fun _ _ h=>⟨h,rfl⟩
theorem SExt.trans {S1 S2 S3:Nat→Nat→Prop} {w1 w2 w3:World} (h:SExt S1 w1 S2 w2) (k:SExt S2 w2 S3 w3):SExt S1 w1 S3 w3:=fun b o hb=>⟨(k b o (h b o hb).1).1,(k b o (h b o hb).1).2.trans (h b o hb).2⟩
structure HpExt (hp:Hp) (φ:List Pl) (hp':Hp) (φ':List Pl):Prop where
 blk:∀ (id:Nat) (p:Pl),p.isBlk=true→φ[id]?=some p→φ'[id]?=some p
 arr:∀ (id size:Nat) (els:List (List AV)),nth? hp id=some (.arr size els)→∃ els',nth? hp' id=some (.arr size els')∧els'.length=els.length
 row:∀ (id:Nat) (e:TypeId) (size:Nat) (els:List (List AV)),nth? hp id=some (.row e size els)→∃ more,nth? hp' id=some (.row e size (els++more))∧(more=[]→∀ v,φ[id]?=some (Pl.sv v)→φ'[id]?=some (Pl.sv v))
 stk:∀ (id ver:Nat) (e:TypeId) (size:Nat) (els:List (List AV)),nth? hp id=some (.stk ver e size els)→∃ ver' els',nth? hp' id=some (.stk ver' e size els')∧ver≤ver'∧(ver=ver'→els'.length=els.length∧φ'[id]?=φ[id]?)
theorem HpExt.refl (hp:Hp) (φ:List Pl):HpExt hp φ hp φ:=⟨fun _ _ _ h=>h,fun _ _ _ h=>⟨_,h,rfl⟩,fun _ _ _ els h=>⟨[],by simpa using h,fun _ _ h=>h⟩,fun _ ver _ _ els h=>⟨ver,els,h,Nat.le_refl _,fun _=>⟨rfl,rfl⟩⟩⟩
theorem HpExt.trans {hp1 hp2 hp3:Hp} {φ1 φ2 φ3:List Pl} (h:HpExt hp1 φ1 hp2 φ2) (k:HpExt hp2 φ2 hp3 φ3):HpExt hp1 φ1 hp3 φ3:=by
 refine⟨fun id p hp hb=>k.blk id p hp (h.blk id p hp hb),fun id size els he=>?_,fun id e size els he=>?_,fun id ver e size els he=>?_⟩
 ·obtain⟨els',h1,h2⟩:=h.arr id size els he
  obtain⟨els'',h3,h4⟩:=k.arr id size els' h1
  exact⟨els'',h3,h4.trans h2⟩
 ·obtain⟨m1,h1,h2⟩:=h.row id e size els he
  obtain⟨m2,h3,h4⟩:=k.row id e size _ h1
  refine⟨m1++m2,by rw[← List.append_assoc];exact h3,fun hm v hv=>?_⟩
  obtain⟨rfl,rfl⟩:=List.append_eq_nil_iff.1 hm
  exact h4 rfl v (h2 rfl v hv)
 ·obtain⟨v1,e1,a1,a2,a3⟩:=h.stk id ver e size els he
  obtain⟨v2,e2,b1,b2,b3⟩:=k.stk id v1 e size e1 a1
  refine⟨v2,e2,b1,Nat.le_trans a2 b2,fun hv=>?_⟩
  obtain⟨x1,x2⟩:=a3 (by omega)
  obtain⟨y1,y2⟩:=b3 (by omega)
  exact⟨y1.trans x1,y2.trans x2⟩
theorem StkAt.mono {hp hp':Hp} {φ φ':List Pl} {id ver n:Nat} {v:Value} (hE:HpExt hp φ hp' φ') (h:StkAt hp φ id ver n v):StkAt hp' φ' id ver n v:=by
 obtain⟨h0,ver',e,size,els,h1,h2,h3⟩:=h
 obtain⟨v2,e2,b1,b2,b3⟩:=hE.stk id ver' e size els h1
 refine⟨h0,v2,e,size,e2,b1,Nat.le_trans h2 b2,fun hv=>?_⟩
 obtain⟨y1,y2⟩:=b3 (by omega)
 obtain⟨c1,v0,c2,c3⟩:=h3 (by omega)
 exact⟨by rw[y1];exact c1,v0,y2.trans c2,c3⟩
theorem PtsAt.mono {hp hp':Hp} {φ φ':List Pl} {id ver i off:Nat} {v:Value} (hE:HpExt hp φ hp' φ') (h:PtsAt hp φ id ver i off v):PtsAt hp' φ' id ver i off v:=by
 obtain⟨h0,ver',e,size,els,h1,h2,h3⟩:=h
 obtain⟨v2,e2,b1,b2,b3⟩:=hE.stk id ver' e size els h1
 refine⟨h0,v2,e,size,e2,b1,Nat.le_trans h2 b2,fun hv=>?_⟩
 obtain⟨y1,y2⟩:=b3 (by omega)
 obtain⟨g,len,cap,c2,c3⟩:=h3 (by omega)
 exact⟨g,len,cap,y2.trans c2,c3⟩
theorem HpExt.nil:HpExt [] [] [] []:=HpExt.refl _ _
theorem Laid.mono {S S':Nat→Nat→Prop} {w w':World} (hS:SExt S w S' w') {a:Option Addr} {size:Nat} {vss:List (List Value)} (h:Laid S w a size vss):Laid S' w' a size vss :=
 ⟨h.1,fun j vs t u h1 h2=>let ⟨b,o,e,hs,hc⟩:=h.2 j vs t u h1 h2;⟨b,o,e,(hS _ _ hs).1,(hS.cell hs).trans hc⟩⟩
mutual
theorem Rep.mono {S S':Nat→Nat→Prop} {w w':World} (hS:SExt S w S' w') {hp:Hp} {φ:List Pl} {a:AV} {v:Value} {hp':Hp} {φ':List Pl} (h:Rep S w hp φ a v) (hE:HpExt hp φ hp' φ'):Rep S' w' hp' φ' a v:=match h with
 | .junk _ _ v=>.junk _ _ v
 | .bool _ _ b=>.bool _ _ b
 | .int _ _ k n h=>.int _ _ k n h
 | .str _ _ s h=>.str _ _ s h
 | .nilp _ _=>.nilp _ _
 | .ptr _ _ id off b h=>.ptr _ _ id off b (hE.blk id _ rfl h)
 | .pte _ _ id i off b size els o h ho=>let ⟨els',h1,_⟩:=hE.arr id size els ho;.pte _ _ id i off b size els' o (hE.blk id _ rfl h) h1
 | .vsl _ _ id off n c b h=>.vsl _ _ id off n c b (hE.blk id _ rfl h)
 | .vel _ _ id off b h=>.vel _ _ id off b (hE.blk id _ rfl h)
 | .rptr _ _ el off vs b o hr h1 hl=>.rptr _ _ el off vs b o (Reps.mono hS hr HpExt.nil) h1 fun j u hj=>let ⟨x,y⟩:=hl j u hj;⟨(hS _ _ x).1,(hS.cell x).trans y⟩
 | .nils _ _=>.nils _ _
 | .sl _ _ size els vss a cap hr hl hc=>.sl _ _ size els vss a cap (Repss.mono hS hr) (hl.mono hS) hc
 | .row _ _ id n v e size els ho hn hs hcur=>by
  obtain⟨more,h1,h2⟩:=hE.row id e size els ho
  refine .row _ _ id n v e size (els++more) h1 (by rw[List.length_append];omega) ?_ ?_
  ·rw[List.take_append_of_le_length hn];exact Rep.mono hS hs HpExt.nil
  ·intro hn'
   rw[List.length_append] at hn'
   have hm:more=[]:=List.eq_nil_of_length_eq_zero (by omega)
   exact h2 hm v (hcur (by omega))
 | .own _ _ id off n b size els cap o h ho hn ad had hc=>let ⟨els',h1,h2⟩:=hE.arr id size els ho;.own _ _ id off n b size els' cap o (hE.blk id _ rfl h) h1 (by omega) ad had hc
 | .stk _ _ id ver n v h=>.stk _ _ id ver n v (h.mono hE)
 | .pts _ _ id ver i off v h=>.pts _ _ id ver i off v (h.mono hE)
 | .agg _ _ cs vs hr h1=>.agg _ _ cs vs (Reps.mono hS hr hE) h1
 | .tup _ _ cs vs hr=>.tup _ _ cs vs (Reps.mono hS hr hE)
 | .func _ _ f x y a b hx hy=>.func _ _ f x y a b (Reps.mono hS hx hE) (Reps.mono hS hy hE)
 | .nilf _ _=>.nilf _ _
 | .mapp _ _ id b h=>.mapp _ _ id b (hE.blk id _ rfl h)
 | .mcln _ _ kd=>.mcln _ _ kd
 | .mcl _ _ kd els vss b es hr he hk hs hw=>.mcl _ _ kd els vss b es (Repss.mono hS hr) he hk (hS _ _ hs).1 (hS.map hs hw)
 | .mfn _ _ kd els vss b es hr he hk hs hw=>.mfn _ _ kd els vss b es (Ropen.mono hS hr hE) he hk (hS _ _ hs).1 (hS.map hs hw)
 | .ifc _ _ t a v h=>.ifc _ _ t a v (Rep.mono hS h HpExt.nil)
 | .nili _ _=>.nili _ _
theorem Reps.mono {S S':Nat→Nat→Prop} {w w':World} (hS:SExt S w S' w') {hp:Hp} {φ:List Pl} {l:List AV} {vs:List Value} {hp':Hp} {φ':List Pl} (h:Reps S w hp φ l vs) (hE:HpExt hp φ hp' φ'):Reps S' w' hp' φ' l vs:=match h with
 | .nil _ _=>.nil _ _
 | .cons _ _ a v l vs h t=>.cons _ _ a v l vs (Rep.mono hS h hE) (Reps.mono hS t hE)
theorem Repss.mono {S S':Nat→Nat→Prop} {w w':World} (hS:SExt S w S' w') {l:List (List AV)} {vss:List (List Value)} (h:Repss S w l vss):Repss S' w' l vss:=match h with
 | .nil=>.nil
 | .cons el vs l vss h h1 t=>.cons el vs l vss (Reps.mono hS h HpExt.nil) h1 (Repss.mono hS t)
theorem Ropen.mono {S S':Nat→Nat→Prop} {w w':World} (hS:SExt S w S' w') {hp:Hp} {φ:List Pl} {l:List (List AV)} {vss:List (List Value)} {hp':Hp} {φ':List Pl} (h:Ropen S w hp φ l vss) (hE:HpExt hp φ hp' φ'):Ropen S' w' hp' φ' l vss:=match h with
 | .nil _ _=>.nil _ _
 | .cons _ _ el vs l vss h h1 t=>.cons _ _ el vs l vss (Reps.mono hS h hE) h1 (Ropen.mono hS t hE)
end
theorem nth?_eq {α:Type} (l:List α) (i:Nat):nth? l i=l[i]?:=by
 induction l generalizing i with
 | nil=>rfl
 | cons a t ih=>cases i with
   | zero=>rfl
   | succ i=>simpa [nth?] using ih i
theorem Yx {α:Type} (d:α) (l:List α) (i:Nat):nth d l i=l[i]?.getD d:=by
 induction l generalizing i with
 | nil=>rfl
 | cons a t ih=>cases i with
   | zero=>rfl
   | succ i=>simpa [nth] using ih i
theorem B8 {α:Type} (l:List α) (i:Nat) (x:α):Bq l i x=l.set i x:=by
 induction l generalizing i with
 | nil=>rfl
 | cons a t ih=>cases i with
   | zero=>rfl
   | succ i=>simpa [Bq] using ih i
theorem Reps.length {S:Nat→Nat→Prop} {w:World} {hp:Hp} {φ:List Pl} {l:List AV} {vs:List Value} (h:Reps S w hp φ l vs):l.length=vs.length:=by
 induction l generalizing vs with
 | nil=>cases h;rfl
 | cons a t ih=>cases h with | cons _ _ _ v _ vs h t=>simp[ih t]
theorem Reps.get {S:Nat→Nat→Prop} {w:World} {hp:Hp} {φ:List Pl} {l:List AV} {vs:List Value} (h:Reps S w hp φ l vs) {i:Nat} {v:Value} (hi:vs[i]?=some v):∃ a,l[i]?=some a∧Rep S w hp φ a v:=by
 induction l generalizing vs i with
 | nil=>cases h;simp at hi
 | cons a t ih=>cases h with
   | cons _ _ _ u _ vs h t=>cases i with
     | zero=>simp at hi;subst hi;exact⟨a,rfl,h⟩
     | succ i=>simpa using ih t (by simpa using hi)
theorem Reps.get' {S:Nat→Nat→Prop} {w:World} {hp:Hp} {φ:List Pl} {l:List AV} {vs:List Value} (h:Reps S w hp φ l vs) {i:Nat} {a:AV} (hi:l[i]?=some a):∃ v,vs[i]?=some v∧Rep S w hp φ a v:=by
 have hlt:=(List.getElem?_eq_some_iff.1 hi).1
 obtain⟨v,hv⟩:∃ v,vs[i]?=some v:=⟨_,A6 (by rw[← h.length];exact hlt)⟩
 obtain⟨a',h1,h2⟩:=h.get hv
 rw[hi] at h1;cases h1
 exact⟨v,hv,h2⟩
theorem Reps.of {S:Nat→Nat→Prop} {w:World} {hp:Hp} {φ:List Pl} {l:List AV} {vs:List Value} (hl:l.length=vs.length) (h:∀ (i:Nat) a v,l[i]?=some a→vs[i]?=some v→Rep S w hp φ a v):Reps S w hp φ l vs:=by
 induction l generalizing vs with
 | nil=>cases vs with
   | nil=>exact .nil _ _
   | cons _ _=>simp at hl
 | cons a t ih=>cases vs with
   | nil=>simp at hl
   | cons v vs=>exact .cons _ _ a v t vs (h 0 a v rfl rfl) (ih (by simpa using hl) fun i a v h1 h2=>h (i+1) a v (by simpa using h1) (by simpa using h2))
theorem Reps.append {S:Nat→Nat→Prop} {w:World} {hp:Hp} {φ:List Pl} {l l':List AV} {vs vs':List Value} (h:Reps S w hp φ l vs) (h':Reps S w hp φ l' vs'):Reps S w hp φ (l++l') (vs++vs'):=by
 induction l generalizing vs with
 | nil=>cases h;exact h'
 | cons a t ih=>cases h with | cons _ _ _ v _ vs h t=>exact .cons _ _ _ _ _ _ h (ih t)
theorem Reps.take {S:Nat→Nat→Prop} {w:World} {hp:Hp} {φ:List Pl} {l:List AV} {vs:List Value} (h:Reps S w hp φ l vs) (n:Nat):Reps S w hp φ (l.take n) (vs.take n):=by
 induction l generalizing vs n with
 | nil=>cases h;simp;exact .nil _ _
 | cons a t ih=>cases h with
   | cons _ _ _ v _ vs h t=>cases n with
     | zero=>exact .nil _ _
     | succ n=>exact .cons _ _ _ _ _ _ h (ih t n)
theorem Reps.drop {S:Nat→Nat→Prop} {w:World} {hp:Hp} {φ:List Pl} {l:List AV} {vs:List Value} (h:Reps S w hp φ l vs) (n:Nat):Reps S w hp φ (l.drop n) (vs.drop n):=by
 induction l generalizing vs n with
 | nil=>cases h;simp;exact .nil _ _
 | cons a t ih=>cases h with
   | cons _ _ _ v _ vs h t=>cases n with
     | zero=>exact .cons _ _ _ _ _ _ h t
     | succ n=>exact ih t n
theorem Reps.set {S:Nat→Nat→Prop} {w:World} {hp:Hp} {φ:List Pl} {l:List AV} {vs:List Value} (h:Reps S w hp φ l vs) (i:Nat) {a:AV} {v:Value} (hv:Rep S w hp φ a v):Reps S w hp φ (l.set i a) (vs.set i v):=by
 induction l generalizing vs i with
 | nil=>cases h;exact .nil _ _
 | cons b t ih=>cases h with
   | cons _ _ _ u _ vs h t=>cases i with
     | zero=>exact .cons _ _ _ _ _ _ hv t
     | succ i=>exact .cons _ _ _ _ _ _ h (ih t i)
theorem Repss.length {S:Nat→Nat→Prop} {w:World} {l:List (List AV)} {vss:List (List Value)} (h:Repss S w l vss):l.length=vss.length:=by
 induction l generalizing vss with
 | nil=>cases h;rfl
 | cons a t ih=>cases h with | cons _ _ _ _ h h1 t=>simp[ih t]
theorem Repss.get {S:Nat→Nat→Prop} {w:World} {l:List (List AV)} {vss:List (List Value)} (h:Repss S w l vss) {i:Nat} {el:List AV} (hi:l[i]?=some el):∃ vs,vss[i]?=some vs∧Reps S w [] [] el vs∧E5 vs:=by
 induction l generalizing vss i with
 | nil=>simp at hi
 | cons a t ih=>cases h with
   | cons _ vs _ _ h h1 t=>cases i with
     | zero=>simp at hi;subst hi;exact⟨vs,rfl,h,h1⟩
     | succ i=>simpa using ih t (by simpa using hi)
theorem Repss.append {S:Nat→Nat→Prop} {w:World} {l l':List (List AV)} {vss vss':List (List Value)} (h:Repss S w l vss) (h':Repss S w l' vss'):Repss S w (l++l') (vss++vss'):=by
 induction l generalizing vss with
 | nil=>cases h;exact h'
 | cons a t ih=>cases h with | cons _ _ _ _ h h1 t=>exact .cons _ _ _ _ h h1 (ih t)
theorem Repss.take {S:Nat→Nat→Prop} {w:World} {l:List (List AV)} {vss:List (List Value)} (h:Repss S w l vss) (n:Nat):Repss S w (l.take n) (vss.take n):=by
 induction l generalizing vss n with
 | nil=>cases h;simp;exact .nil
 | cons a t ih=>cases h with
   | cons _ _ _ _ h h1 t=>cases n with
     | zero=>exact .nil
     | succ n=>exact .cons _ _ _ _ h h1 (ih t n)
theorem Repss.drop {S:Nat→Nat→Prop} {w:World} {l:List (List AV)} {vss:List (List Value)} (h:Repss S w l vss) (n:Nat):Repss S w (l.drop n) (vss.drop n):=by
 induction l generalizing vss n with
 | nil=>cases h;simp;exact .nil
 | cons a t ih=>cases h with
   | cons _ _ _ _ h h1 t=>cases n with
     | zero=>exact .cons _ _ _ _ h h1 t
     | succ n=>exact ih t n
theorem Repss.set {S:Nat→Nat→Prop} {w:World} {l:List (List AV)} {vss:List (List Value)} (h:Repss S w l vss) (i:Nat) {el:List AV} {vs:List Value} (hv:Reps S w [] [] el vs) (h1:E5 vs):Repss S w (l.set i el) (vss.set i vs):=by
 induction l generalizing vss i with
 | nil=>cases h;exact .nil
 | cons b t ih=>cases h with
   | cons _ _ _ _ h h1' t=>cases i with
     | zero=>exact .cons _ _ _ _ hv h1 t
     | succ i=>exact .cons _ _ _ _ h h1' (ih t i)
theorem Repss.replicate {S:Nat→Nat→Prop} {w:World} {el:List AV} {vs:List Value} (hv:Reps S w [] [] el vs) (h1:E5 vs) (n:Nat):Repss S w (List.replicate n el) (List.replicate n vs):=by
 induction n with
 | zero=>exact .nil
 | succ n ih=>exact .cons _ _ _ _ hv h1 ih
section inv
variable {S:Nat→Nat→Prop} {w:World} {hp:Hp} {φ:List Pl} {v:Value}
theorem Rep.bool_inv {b:Bool} (h:Rep S w hp φ (.bool b) v):v=.bool b:=by cases h;rfl
theorem Rep.int_inv {k:IntKind} {n:Int} (h:Rep S w hp φ (.int k n) v):v=.int k n∧(Lit.int k n).wf=true:=by cases h;exact⟨rfl,by assumption⟩
theorem Rep.str_inv {s:List UInt8} (h:Rep S w hp φ (.str s) v):v=.string (bs s)∧s.length≤maxLen:=by cases h;exact⟨rfl,by assumption⟩
theorem Rep.ptr_inv {id off:Nat} (h:Rep S w hp φ (.ptr id off) v):∃ b,φ[id]?=some (.blk b)∧v=.pointer (some ⟨b,off,none⟩):=by cases h;exact⟨_,by assumption,rfl⟩
theorem Rep.vsl_inv {id off n cap:Nat} (h:Rep S w hp φ (.vsl id off n cap) v):∃ b,φ[id]?=some (.blk b)∧v=.slice (some ⟨b,off,none⟩) n cap:=by cases h;exact⟨_,by assumption,rfl⟩
theorem Rep.vel_inv {id off:Nat} (h:Rep S w hp φ (.vel id off) v):∃ b,φ[id]?=some (.blk b)∧v=.pointer (some ⟨b,off,none⟩):=by cases h;exact⟨_,by assumption,rfl⟩
theorem Rep.pte_inv {id i off:Nat} (h:Rep S w hp φ (.pte id i off) v):∃ b size els o,φ[id]?=some (.ofs b o)∧nth? hp id=some (.arr size els)∧v=.pointer (some ⟨b,o+(i*size+off),none⟩):=by
 cases h;exact⟨_,_,_,_,by assumption,by assumption,rfl⟩
theorem Rep.rptr_inv {el:List AV} {off:Nat} (h:Rep S w hp φ (.rptr el off) v):∃ vs b o,Reps S w [] [] el vs∧E5 vs∧(∀ j u,vs[j]?=some u→S b (o+j)∧w.cell? ⟨b,o+j,none⟩=some u)∧v=.pointer (some ⟨b,o+off,none⟩):=by
 cases h;exact⟨_,_,_,by assumption,by assumption,by assumption,rfl⟩
theorem Rep.nils_inv (h:Rep S w hp φ .nils v):v=.slice none 0 0:=by cases h;rfl
theorem Rep.sl_inv {size:Nat} {els:List (List AV)} (h:Rep S w hp φ (.sl size els) v):∃ vss a cap,Repss S w els vss∧Laid S w a size vss∧Cap a els.length cap∧v=.slice a els.length cap:=by
 cases h;exact⟨_,_,_,by assumption,by assumption,by assumption,rfl⟩
theorem Rep.row_inv {id n:Nat} (h:Rep S w hp φ (.row id n) v):∃ e size els,nth? hp id=some (.row e size els)∧n≤els.length∧Rep S w [] [] (.sl size (els.take n)) v∧(n=els.length→φ[id]?=some (.sv v)):=by
 cases h;exact⟨_,_,_,by assumption,by assumption,by assumption,by assumption⟩
theorem Rep.own_inv {id off n:Nat} (h:Rep S w hp φ (.own id off n) v):∃ b size els cap ad o,φ[id]?=some (.ofs b o)∧nth? hp id=some (.arr size els)∧off+n≤els.length∧(0 < n→ad=some ⟨b,o+off*size,none⟩)∧Cap ad n cap∧v=.slice ad n cap:=by
 cases h;exact⟨_,_,_,_,_,_,by assumption,by assumption,by assumption,by assumption,by assumption,rfl⟩
theorem Rep.stk_inv {id ver n:Nat} (h:Rep S w hp φ (.stk id ver n) v):StkAt hp φ id ver n v:=by cases h;assumption
theorem Rep.pts_inv {id ver i off:Nat} (h:Rep S w hp φ (.pts id ver i off) v):PtsAt hp φ id ver i off v:=by cases h;assumption
theorem Rep.mcl_any {kd:Option IntKind} {els:List (List AV)} (h:Rep S w hp φ (.mcl kd els) v) {hp':Hp} {φ':List Pl}:Rep S w hp' φ' (.mcl kd els) v:=by
 cases h with
 | mcln=>exact .mcln _ _ _
 | mcl _ _ _ _ vss b es hr he hk hS hw=>exact .mcl _ _ _ _ vss b es hr he hk hS hw
theorem Rep.ifc_any {t:TypeId} {a:AV} (h:Rep S w hp φ (.ifc t a) v) {hp':Hp} {φ':List Pl}:Rep S w hp' φ' (.ifc t a) v:=by
 cases h with | ifc _ _ _ _ v h=>exact .ifc _ _ _ _ v h
theorem Rep.ifc_inv {t:TypeId} {a:AV} (h:Rep S w hp φ (.ifc t a) v):∃ u,Rep S w [] [] a u∧v=.iface t u:=by
 cases h with | ifc _ _ _ _ v h=>exact⟨v,h,rfl⟩
theorem Rep.nili_inv (h:Rep S w hp φ .nili v):v=.nilIface:=by cases h;rfl
theorem Rep.mapp_inv {id:Nat} (h:Rep S w hp φ (.mapp id) v):∃ b,φ[id]?=some (.blk b)∧v=.map (some b):=by cases h;exact⟨_,by assumption,rfl⟩
theorem Rep.mfn_inv {kd:Option IntKind} {els:List (List AV)} (h:Rep S w hp φ (.mfn kd els) v):∃ vss b es,Ropen S w hp φ els vss∧V5 es vss∧KeysAV kd els∧S b 0∧w.heap[b]?=some (.map es es.size)∧v=.map (some b):=by
 cases h;exact⟨_,_,_,by assumption,by assumption,by assumption,by assumption,by assumption,rfl⟩
theorem Ropen.mapped {S':Nat→Nat→Prop} {w':World} {hp':Hp} {φ':List Pl} {g:AV→AV} (hg:∀ a v,Rep S w hp φ a v→Rep S' w' hp' φ' (g a) v) {els:List (List AV)} {vss:List (List Value)} (h:Ropen S w hp φ els vss):Ropen S' w' hp' φ' (els.map (List.map g)) vss:=by
 have hl:∀ {l:List AV} {vs:List Value},Reps S w hp φ l vs→Reps S' w' hp' φ' (l.map g) vs:=by
  intro l
  induction l with
  | nil=>intro vs h;cases h;exact .nil _ _
  | cons a l ih=>intro vs h;cases h with | cons _ _ _ v _ vs h t=>exact .cons _ _ _ _ _ _ (hg a v h) (ih t)
 induction els generalizing vss with
 | nil=>cases h;exact .nil _ _
 | cons el l ih=>cases h with | cons _ _ _ vs _ vss h h1 t=>exact .cons _ _ _ _ _ _ (hl h) h1 (ih t)
theorem Repss.open {l:List (List AV)} {vss:List (List Value)} (h:Repss S w l vss):Ropen S w hp φ l vss:=by
 induction l generalizing vss with
 | nil=>cases h;exact .nil _ _
 | cons a t ih=>cases h with | cons _ vs _ _ h h1 t=>exact .cons _ _ _ _ _ _ (Reps.mono (SExt.refl S w) h ⟨fun _ _ _ h=>by simp at h,fun _ _ _ h=>by simp[nth?] at h,fun _ _ _ _ h=>by simp[nth?] at h,fun _ _ _ _ _ h=>by simp[nth?] at h⟩) h1 (ih t)
theorem Ropen.length {l:List (List AV)} {vss:List (List Value)} (h:Ropen S w hp φ l vss):l.length=vss.length:=by
 induction l generalizing vss with
 | nil=>cases h;rfl
 | cons a t ih=>cases h with | cons _ _ _ _ _ _ h h1 t=>simp[ih t]
theorem Ropen.get {l:List (List AV)} {vss:List (List Value)} (h:Ropen S w hp φ l vss) {i:Nat} {vs:List Value} (hi:vss[i]?=some vs):∃ el,l[i]?=some el∧Reps S w hp φ el vs∧E5 vs:=by
 induction l generalizing vss i with
 | nil=>cases h;simp at hi
 | cons a t ih=>cases h with
   | cons _ _ _ vs' _ _ h h1 t=>cases i with
     | zero=>simp at hi;subst hi;exact⟨a,rfl,h,h1⟩
     | succ i=>simpa using ih t (by simpa using hi)
theorem Rep.agg_inv {cs:List AV} (h:Rep S w hp φ (.agg cs) v):∃ vs,Reps S w hp φ cs vs∧E5 vs∧v=.agg vs.toArray:=by cases h;exact⟨_,by assumption,by assumption,rfl⟩
theorem Rep.tup_inv {cs:List AV} (h:Rep S w hp φ (.tup cs) v):∃ vs,Reps S w hp φ cs vs∧v=.tuple vs.toArray:=by cases h;exact⟨_,by assumption,rfl⟩
theorem Rep.func_inv {f:FuncId} {x y:List AV} (h:Rep S w hp φ (.func f x y) v):∃ a b,Reps S w hp φ x a∧Reps S w hp φ y b∧v=.func (.func f) a.toArray b.toArray:=by cases h;exact⟨_,_,by assumption,by assumption,rfl⟩
theorem Reps.lift {l:List AV} {vs:List Value} (h:Reps S w [] [] l vs):Reps S w hp φ l vs:=Reps.mono (SExt.refl S w) h ⟨fun _ _ _ h=>by simp at h,fun _ _ _ h=>by simp[nth?] at h,fun _ _ _ _ h=>by simp[nth?] at h,fun _ _ _ _ _ h=>by simp[nth?] at h⟩
theorem Rep.lift {a:AV} (h:Rep S w [] [] a v):Rep S w hp φ a v:=Rep.mono (SExt.refl S w) h ⟨fun _ _ _ h=>by simp at h,fun _ _ _ h=>by simp[nth?] at h,fun _ _ _ _ h=>by simp[nth?] at h,fun _ _ _ _ _ h=>by simp[nth?] at h⟩
end inv
theorem Rep.oneCell {S:Nat→Nat→Prop} {w:World} {hp:Hp} {φ:List Pl} {a:AV} {v:Value} (h:Rep S w hp φ a v) (h1:a.one=true):v.oneCell'=true:=by
 cases h<;>first | rfl | (simp[AV.one] at h1;done) | skip
 ·rename_i hs _
  cases hs
  rfl
 ·rename_i h
  obtain⟨⟨a,cap,rfl,_⟩,_⟩:=h
  rfl
 ·rename_i h
  obtain⟨⟨a,b,rfl⟩,_⟩:=h
  rfl
theorem Reps.ones {S:Nat→Nat→Prop} {w:World} {hp:Hp} {φ:List Pl} {l:List AV} {vs:List Value} (h:Reps S w hp φ l vs) (h1:l.all AV.one=true):E5 vs:=by
 induction l generalizing vs with
 | nil=>cases h;intro v hv;simp at hv
 | cons a t ih=>cases h with
   | cons _ _ _ v _ vs h t =>
    simp only[List.all_cons,A8] at h1
    intro u hu
    rcases List.mem_cons.1 hu with rfl | hu
    ·exact h.oneCell h1.1
    ·exact ih t h1.2 u hu
theorem HpExt.append {hp:Hp} {φ:List Pl} (hl:φ.length=hp.length) (x:Hp) (p:List Pl):HpExt hp φ (hp++x) (φ++p):=by
 have lt:∀ {α:Type} {l:List α} {i:Nat} {a:α},l[i]?=some a→i < l.length:=fun h=>(List.getElem?_eq_some_iff.1 h).1
 refine⟨fun id b _ h=>?_,fun id size els h=>⟨els,?_,rfl⟩,fun id e size els h=>⟨[],?_,fun _ v hv=>?_⟩,fun id ver e size els h=>⟨ver,els,?_,Nat.le_refl _,fun _=>⟨rfl,?_⟩⟩⟩
 ·rw[List.getElem?_append_left (lt h)];exact h
 ·rw[nth?_eq] at h ⊢;rw[List.getElem?_append_left (lt h)];exact h
 ·rw[nth?_eq] at h ⊢;rw[List.getElem?_append_left (lt h),List.append_nil];exact h
 ·rw[List.getElem?_append_left (lt hv)];exact hv
 ·rw[nth?_eq] at h ⊢;rw[List.getElem?_append_left (lt h)];exact h
 ·rw[nth?_eq] at h;rw[List.getElem?_append_left (by rw[hl];exact lt h)]
def Af (φ:List Pl) (id:Nat):Option Nat:=match φ[id]? with
 | some (.blk b)=>some b
 | some (.ofs b _)=>some b
 | some (.sv v)=>v.ownBlock
 | none=>none
def ObOk (P:Program) (base:Nat) (S:Nat→Nat→Prop) (w:World) (hp:Hp) (φ:List Pl) (id:Nat):Ob→Prop
 | .var t cs=>∃ b vs E,φ[id]?=some (.blk b)∧base≤b∧(∃ ex,w.heap[b]?=some (.cells (vs++ex).toArray E (0,0)))∧Reps S w hp φ cs vs∧E5 vs∧∀ o,¬ S b o
 | .arr size els=>∃ b vss ex E pre,φ[id]?=some (.ofs b pre.length)∧base≤b∧w.heap[b]?=some (.cells (pre++(vss.flatten++ex)).toArray E (0,0))∧Repss S w els vss∧(∀ vs ∈ vss,vs.length=size)∧∀ o,¬ S b o
 | .row e size els=>∃ v vss,φ[id]?=some (.sv v)∧w.ownsRow base e size v els.length vss.flatten∧Repss S w els vss∧(∀ vs ∈ vss,vs.length=size)∧0 < size∧P.cellsOf e=size∧∀ g,v.ownBlock=some g→∀ o,S g o↔o < els.length*size
 | .stk ver e size els=>∃ v vss,φ[id]?=some (.sv v)∧w.ownsRow base e size v els.length vss.flatten∧Repss S w els vss∧(∀ vs ∈ vss,vs.length=size)∧0 < size∧P.cellsOf e=size∧∀ g,v.ownBlock=some g→∀ o,¬ S g o
 | .mp kd frz els=>∃ b vss es,φ[id]?=some (.blk b)∧base≤b∧w.heap[b]?=some (.map es es.size)∧Repss S w els vss∧(V5 es vss∧KeysAV kd els)∧∀ o,S b o↔frz=true∧o=0
 | .mpo kd els=>∃ b vss es,φ[id]?=some (.blk b)∧base≤b∧w.heap[b]?=some (.map es es.size)∧Ropen S w hp φ els vss∧(V5 es vss∧KeysAV kd els)∧∀ o,¬ S b o
structure Sim (P:Program) (base:Nat) (S:Nat→Nat→Prop) (w:World) (hp:Hp) (φ:List Pl):Prop where
 len:φ.length=hp.length
 low:base≤w.heap.size
 cell:∀ (b o:Nat),S b o→∃ v,stay w b o=some v∧(base≤b→v.2.2=(0,0))
 obj:∀ (id:Nat) o,hp[id]?=some o→ObOk P base S w hp φ id o
 apart:∀ i j b,Af φ i=some b→Af φ j=some b→i=j
def N8 (w:World) (φ:List Pl) (b:Nat):Prop:=(∃ i,Af φ i=some b)∨w.heap.size≤b
structure Trans (base:Nat) (S:Nat→Nat→Prop) (w:World) (hp:Hp) (φ:List Pl) (S':Nat→Nat→Prop) (w':World) (hp':Hp) (φ':List Pl):Prop where
 s:SExt S w S' w'
 hp:HpExt hp φ hp' φ'
 below:Below base w w'
 new:∀ b o,S' b o→S b o∨base≤b
 mine:∀ b o,S' b o→S b o∨N8 w φ b
 fr:∀ i b,Af φ' i=some b→N8 w φ b
 keep:∀ b,¬ N8 w φ b→w'.heap[b]?=w.heap[b]?
theorem Trans.refl (base:Nat) (S:Nat→Nat→Prop) (w:World) (hp:Hp) (φ:List Pl):Trans base S w hp φ S w hp φ:=⟨.refl _ _,.refl _ _,.refl _ _,fun _ _ h=>.inl h,fun _ _ h=>.inl h,fun i b h=>.inl ⟨i,h⟩,fun _ _=>rfl⟩
theorem Trans.own {base:Nat} {S1 S2:Nat→Nat→Prop} {w1 w2:World} {hp1 hp2:Hp} {φ1 φ2:List Pl} (h:Trans base S1 w1 hp1 φ1 S2 w2 hp2 φ2) {b:Nat} (hb:N8 w2 φ2 b):N8 w1 φ1 b :=
 hb.elim (fun⟨i,hi⟩=>h.fr i b hi) fun hb=>.inr (Nat.le_trans h.below.size hb)
theorem Trans.trans {base:Nat} {S1 S2 S3:Nat→Nat→Prop} {w1 w2 w3:World} {hp1 hp2 hp3:Hp} {φ1 φ2 φ3:List Pl} (h:Trans base S1 w1 hp1 φ1 S2 w2 hp2 φ2) (k:Trans base S2 w2 hp2 φ2 S3 w3 hp3 φ3):Trans base S1 w1 hp1 φ1 S3 w3 hp3 φ3 :=
 ⟨h.s.trans k.s,h.hp.trans k.hp,h.below.trans k.below,fun b o hb=>(k.new b o hb).elim (h.new b o) .inr,fun b o hb=>(k.mine b o hb).elim (h.mine b o) fun hm=>.inr (h.own hm),fun i b hi=>h.own (k.fr i b hi),fun b hb=>(k.keep b fun hm=>hb (h.own hm)).trans (h.keep b hb)⟩
theorem Ey {w:World} {b o:Nat} {v:A7k} (h:stay w b o=some v):b < w.heap.size:=Hr h
open Go.RowKit
set_option linter.unusedVariables false
set_option linter.unusedSimpArgs false
section force
variable {ρ:Type}
theorem Acu (K:Nat→Option ρ) (n:Nat):O9 K n=K n:=by
 have key:∀ (k:Nat) (X:Option ρ),X=K n→(match Nat.beq n k with | true=>K k | false=>X)=K n:=by
  intro k X h
  cases hb:Nat.beq n k with
  | true=>rw[Nat.eq_of_beq_eq_true hb]
  | false=>exact h
 unfold O9
 repeat (refine key _ _ ?_)
 rfl
theorem R4 (K:AV→Option ρ) (a:AV):Nj K a=K a:=by cases a<;>simp only[Nj,Acu]
theorem Dp {g:(AV→Option ρ)→AV→Option ρ} (hg:∀ K a,g K a=K a) (K:List AV→Option ρ) (l:List AV):F4 g K l=K l:=by
 induction l generalizing K with
 | nil=>rfl
 | cons a t ih=>simp only[F4,hg,ih]
theorem Ai0 (K:List Oper→Option ρ) (l:List Oper):A37 K l=K l:=by
 induction l generalizing K with
 | nil=>rfl
 | cons a t ih=>simp only[A37,ih]
theorem Aay {P:Program} {H:Bv} {call:Bp} {f:FuncId} {ops:List Oper} {o:Oper} {l:List Oper} {tm:Tm} {hp:Hp} {K:Tm→Hp→Option ρ}:Ou P H call f ops (o :: l) tm hp K=T4 P H call f ops o (Ou P H call f ops l) tm hp K:=rfl
theorem Ab3 {P:Program} {H:Bv} {call:Bp} {f:FuncId} {fuel hb id:Nat} {ops:Array Oper} {d:Bool} {tm:Tm} {hp:Hp} {K:Ex→Tm→Hp→Option ρ}:O0 P H call f fuel hb (.region id ops d) tm hp K=(match H.join f id with
 | []=>A96 P H call f id ops d tm hp fun tm' hp'=>swR hb tm (K .normal) tm' hp' (H.cy f id)
 | k :: keep=>A7i (fun K'=>A96 P H call f id ops d tm hp fun tm hp=>F4 force (fun tm=>K' tm hp) (A2z (k :: keep) 0 tm)) fun tm hp=>K .normal tm hp):=rfl
theorem Ac9 {P:Program} {H:Bv} {call:Bp} {f:FuncId} {id:Nat} {ops:Array Oper} {d:Bool} {tm:Tm} {hp:Hp} {K:Tm→Hp→Option ρ}:A96 P H call f id ops d tm hp K=match d&&H.dyn f id with
 | false=>Ou P H call f ops.toList (Xm ops.toList (H.order f id)) tm hp K
 | true=>A16 P H call f ops.toList (A0t ops.toList (H.order f id)) [] tm hp K:=Ai0 _ _
theorem Amd (run:(Tm→Hp→Option ρ)→Option ρ) (K:Tm→Hp→Option ρ):A7i run K=run K:=by unfold A7i;rfl
theorem A36 {S:Nat→Nat→Prop} {w:World} {hp:Hp} {φ:List Pl} {keep:List Nat}:∀ {tm:Tm} {vs:List Value} (i:Nat),Reps S w hp φ tm vs→Reps S w hp φ (A2z keep i tm) vs
 | [],_,_,h=>by cases h;exact .nil _ _
 | a :: l,_,i,h=>by
  cases h with
  | cons _ _ _ v _ vs h t =>
   refine .cons _ _ _ _ _ _ ?_ (A36 (i+1) t)
   cases Kd keep i
   ·exact .junk _ _ _
   ·exact h
theorem M9 (K:List Nat→Option ρ) (l:List Nat):Sk K l=K l:=by
 induction l generalizing K with
 | nil=>rfl
 | cons a t ih=>simp only[Sk,Acu,ih]
theorem U4 (i:Int) (K:Nat→Option ρ):∀ n:Nat,R1 i K n=bif decide (0≤i)&&decide (i < (n:Int)) then K i.toNat else none:=by
 intro n
 induction n with
 | zero =>
  have:(decide (0≤i)&&decide (i < ((0:Nat):Int)))=false:=by simp
  rw[this];rfl
 | succ n ih =>
  simp only[R1,ih]
  by_cases h:i=(n:Int)
  ·subst h
   have:(decide ((0:Int)≤(n:Int))&&decide ((n:Int) < ((n+1:Nat):Int)))=true:=by simp;omega
   rw[this];simp
  ·rw[decide_eq_false h]
   have:(decide (0≤i)&&decide (i < (n:Int)))=(decide (0≤i)&&decide (i < ((n+1:Nat):Int))):=by
    rw[Bool.eq_iff_iff];simp;omega
   rw[this];rfl
theorem Aid {P:Program} {H:Bv} {call:Bp} {f:FuncId} {fuel hb:Nat} {x:Operand} {a b:Code} {tm:Tm} {hp:Hp} {K:Ex→Tm→Hp→Option ρ}:O0 P H call f fuel hb (.cond x a b) tm hp K=match ev tm x with
 | .bool t=>bif t then O0 P H call f fuel hb a tm hp K else O0 P H call f fuel hb b tm hp K
 | _=>none:=rfl
theorem Ahe {P:Program} {H:Bv} {call:Bp} {f:FuncId} {fuel hb:Nat} {b:Code} {tm:Tm} {hp:Hp} {K:Ex→Tm→Hp→Option ρ}:O0 P H call f fuel hb (.loop b) tm hp K=C8 (fun hp1=>F4 force (fun tm=>C8 (fun hp2=>rounds (O0 P H call f fuel hb b) (H.keep f (O3 b)) hp1.length fuel tm hp2 K) (G4 hp1.length hp1)) (Sy (H.keep f (O3 b) 0) hp1.length hp1 0 tm)) (Qb P (H.upz f) (H.ups f) hp):=rfl
theorem Fw (K:AV→Option ρ) (a:AV):Nb K a=K a:=by
 cases a<;>simp only[Nb,Dp R4,R4]
theorem A2b (K:List (List AV)→Option ρ) (l:List (List AV)):Vd K l=K l:=by
 induction l generalizing K with
 | nil=>rfl
 | cons a t ih=>simp only[Vd,Dp Fw,ih]
theorem Aqw (K K':Option ρ) (a b:AV):Akt K K' a b=bif K2 a b then K else K':=by
 unfold Akt K2
 split
 ·rename_i k n k' m
  cases decide (k=k')<;>rfl
 ·rfl
 ·rfl
theorem Sz (z:AV) (K:AV→Bool→Option ρ) (k:AV):∀ els,S6 z K els k=K (Gj z els k) (Ga els k)
 | []=>rfl
 | [k',v] :: l=>by
  simp only[S6,Gj,Ga,Aqw,Sz z K k l]
  cases K2 k k'<;>rfl
 | [] :: l=>by simp only[S6,Gj,Ga,Sz z K k l]
 | [_] :: l=>by simp only[S6,Gj,Ga,Sz z K k l]
 | (_ :: _ :: _ :: _) :: l=>by simp only[S6,Gj,Ga,Sz z K k l]
theorem Se (P:Program) (hp:Hp) (t:TypeId) (m k:AV) (ok:Bool) (K:AV→Option ρ):Ok P hp t m k ok K=Uu P hp t m k ok K:=by
 simp only[Ok,Uu,R4,Sz]
 repeat' split
 all_goals first | rfl | simp_all
theorem A5r (P:Program) (hp:Hp) (t:TypeId) (m k x:AV) (K:AV→Hp→Option ρ):A5q P hp t m k x K=Ad6 P hp t m k x K:=R4 _ _
theorem A59 (P:Program) (hp:Hp) (t:TypeId) (m k:AV) (K:AV→Hp→Option ρ):Aa7 P hp t m k K=Aeg P hp t m k K:=R4 _ _
theorem Q4 (K:AV→Option ρ) (a:AV):force K a=K a:=by
 cases a<;>simp only[force,Dp Fw,Fw,A2b]
theorem Agb (K:Ob→Option ρ) (o:Ob):A3n K o=K o:=by
 cases o<;>simp only[A3n,Dp Fw,A2b]
 split<;>rfl
theorem B2 (K:Hp→Option ρ) (l:Hp):C8 K l=K l:=by
 induction l generalizing K with
 | nil=>rfl
 | cons a t ih=>simp only[C8,Agb,ih]
theorem Apu {α:Type} (K:List α→Option ρ) (v:α) (l:List α) (n:Nat):Aea K v l n=K (Bq l n v):=by
 induction l generalizing K n with
 | nil=>rfl
 | cons a t ih=>cases n with
   | zero=>rfl
   | succ n=>simp only[Aea,ih,Bq]
theorem Si (tm:Tm) (d:Option Tmp) (v:AV) (K:Tm→Option ρ):It tm d v K=K (put tm d v):=by
 cases d<;>simp only[It,put,Q4,Apu]
end force
theorem Sj (k:IntKind) (n:Int):(Lit.int k (k.wrap n)).wf=true:=by
 cases k<;>simp only[Lit.wf,IntKind.wrap,IntKind.min,IntKind.max,IntKind.bits,IntKind.signed,Bool.true_and,Bool.false_and,if_true,A8,Ai] <;>
  first
  | (simp;omega)
  | (split<;>simp at* <;>omega)
theorem Aq0 {k:IntKind} {a b:Int} (h:(Lit.int k a).wf=true) (hb:b≠0):(Lit.int k (a.tmod b)).wf=true:=by
 have h1: -a.natAbs≤a.tmod b∧a.tmod b≤a.natAbs:=by
  have:=Int.natAbs_tmod a b
  have h2:a.natAbs % b.natAbs≤a.natAbs:=Nat.mod_le _ _
  omega
 have h3:0≤a→0≤a.tmod b:=fun h=>Int.tmod_nonneg b h
 have h4:a≤0→a.tmod b≤0:=fun h=>by
  have:=Int.neg_tmod (a:=a) (b:=b)
  have h5:=Int.tmod_nonneg b (a:= -a) (by omega)
  omega
 cases k<;>simp only[Lit.wf,IntKind.min,IntKind.max,IntKind.bits,IntKind.signed,A8,Ai,if_true,Bool.false_eq_true,if_false] at h ⊢<;>omega
theorem A8i {n:Nat} (h:n≤maxLen):(Lit.int .i64 (n:Int)).wf=true:=by
 unfold maxLen at h
 simp[Lit.wf,IntKind.min,IntKind.max,IntKind.bits,IntKind.signed];omega
theorem Apm (b:UInt8):(Lit.int .u8 (b.toNat:Int)).wf=true:=by
 have:=b.toNat_lt
 simp[Lit.wf,IntKind.min,IntKind.max,IntKind.bits,IntKind.signed];omega
section
variable {S:Nat→Nat→Prop} {w:World} {hp:Hp} {φ:List Pl}
theorem A92 (v:Value):Rep S w hp φ (A97 v) v:=by
 unfold A97
 split
 ·exact .bool _ _ _
 ·split
  ·rename_i h;exact .int _ _ _ _ h
  ·exact .junk _ _ _
 ·rename_i s
  split
  ·rename_i h
   have:=Rep.str (S:=S) (w:=w) hp φ s.data.toList (by have:=of_decide_eq_true h;unfold maxLen;omega)
   simpa [bs] using this
  ·exact .junk _ _ _
 ·exact .nilp _ _
 ·exact .nils _ _
 ·exact .nilf _ _
 ·exact .mcln _ _ _
 ·exact .nili _ _
 ·exact .junk _ _ _
theorem Oj (v:Value):Rep S w hp φ (lit v) v:=by
 unfold lit
 split
 ·rename_i cs
  split
  ·rename_i h
   have:=Rep.agg (S:=S) (w:=w) hp φ (cs.toList.map A97) cs.toList (Reps.of (by simp) fun i a v h1 h2=>by
    rw[List.getElem?_map] at h1
    rw[h2] at h1
    cases h1
    exact A92 v) (by rw[List.all_eq_true] at h;exact h)
   simpa using this
  ·exact .junk _ _ _
 ·exact A92 _
theorem A8d {tm:Tm} {a:Act} (h:Reps S w hp φ tm a.tmps.toList) (x:Operand):Rep S w hp φ (ev tm x) (a.eval x):=by
 cases x with
 | tmp t =>
  simp only[ev,Act.eval,Yx]
  cases hv:a.tmps[t]? with
  | none =>
   have:tm[t]?=none:=by
    rw[List.getElem?_eq_none_iff,h.length]
    simpa using hv
   rw[this];exact .junk _ _ _
  | some v =>
   obtain⟨x,h1,h2⟩:=h.get (i:=t) (v:=v) (by simpa using hv)
   have:a.tmps.getD t undef=v:=by simp[Array.getD_eq_getD_getElem?,hv]
   rw[h1,this];exact h2
 | const v=>exact Oj v
 | func f=>exact .func _ _ f [] [] [] [] (.nil _ _) (.nil _ _)
 | global g=>exact .junk _ _ _
def Gives (P:Program) (S:Nat→Nat→Prop) (w:World) (hp:Hp) (φ:List Pl) (e:Operand→Value) (o:Oper) (v:AV):Prop:=∃ u,(execOp e o).run P w=.ok (.value u) w∧Rep S w hp φ v u
variable {P:Program} {e:Operand→Value} {o:Oper} {tm:Tm} {ρ:Type} {r:ρ} {K:AV→Option ρ}
theorem S5 (ht:∀ x,Rep S w hp φ (ev tm x) (e x)) {x:Operand} (ho:o.op=.move x∨o.op=.assign x):Gives P S w hp φ e o (ev tm x):=by
 refine⟨e x,?_,ht x⟩
 rcases ho with ho | ho<;>simp[execOp,ho,go_sem]
theorem Adp (ht:∀ x,Rep S w hp φ (ev tm x) (e x)) {c x y:Operand} (ho:o.op=.pick c x y) {t:Bool} (hc:ev tm c=.bool t):Gives P S w hp φ e o (bif t then ev tm x else ev tm y):=by
 have h1:=ht c
 rw[hc] at h1
 cases he:e c<;>rw[he] at h1<;>cases h1
 cases t
 ·exact⟨e y,by simp[execOp,ho,go_sem,he,asBool],ht y⟩
 ·exact⟨e x,by simp[execOp,ho,go_sem,he,asBool],ht x⟩
theorem Aik (ht:∀ x,Rep S w hp φ (ev tm x) (e x)) {x:Operand} {t:TypeId} (ho:o.op=.unOp .not t x) {b:Bool} (hc:ev tm x=.bool b):Gives P S w hp φ e o (.bool (!b)):=by
 have h1:=ht x
 rw[hc] at h1
 cases he:e x<;>rw[he] at h1<;>cases h1
 exact⟨.bool (!b),by simp[execOp,ho,go_sem,he,Op.unary],.bool _ _ _⟩
theorem Akf (ht:∀ x,Rep S w hp φ (ev tm x) (e x)) {x:Operand} {t:TypeId} (ho:o.op=.unOp .neg t x) {k:IntKind} {n:Int} (hc:ev tm x=.int k n):Gives P S w hp φ e o (.int k (k.wrap (0 - n))):=by
 have h1:=ht x
 rw[hc] at h1
 cases he:e x<;>rw[he] at h1<;>cases h1
 exact⟨.int k (k.wrap (0 - n)),by simp[execOp,ho,go_sem,he,Op.unary,Op.intArith],.int _ _ _ _ (Sj _ _)⟩
theorem A6w (ht:∀ x,Rep S w hp φ (ev tm x) (e x)) {x:Operand} {k:Nat} (ho:o.op=.extract x k) {cs:List AV} (hc:ev tm x=.tup cs) {v:AV} (hk:nth? cs k=some v):Gives P S w hp φ e o v:=by
 have h1:=ht x
 rw[hc] at h1
 cases he:e x<;>rw[he] at h1<;>cases h1
 rename_i vs hr
 rw[nth?_eq] at hk
 obtain⟨u,h2,h3⟩:=hr.get' hk
 exact⟨u,by simp[execOp,ho,go_sem,he,Instr.extract,h2],h3⟩
theorem Aa0 (op:BinOp) {t t':TypeId} {x y:Operand} (ho:o.op=.binOp op t x y t') {k:IntKind} {m n:Int} (hx:e x=.int k m) (hy:e y=.int k n) (hm:(Lit.int k m).wf=true)
 (h:Vc op k m n K=some r):∃ v,K v=some r∧Gives P S w hp φ e o v:=by
 cases op<;>simp only[Vc] at h<;>first | (cases h;done) | skip
 case add=>exact⟨_,h,_,by simp[execOp,ho,go_sem,hx,hy,eqGuard,binOp,Op.intArith],.int _ _ _ _ (Sj _ _)⟩
 case sub=>exact⟨_,h,_,by simp[execOp,ho,go_sem,hx,hy,eqGuard,binOp,Op.intArith],.int _ _ _ _ (Sj _ _)⟩
 case mul=>exact⟨_,h,_,by simp[execOp,ho,go_sem,hx,hy,eqGuard,binOp,Op.intArith],.int _ _ _ _ (Sj _ _)⟩
 case quo =>
  by_cases hn:n=0
  ·simp[hn] at h
  ·rw[decide_eq_false hn] at h
   exact⟨_,h,_,by simp[execOp,ho,go_sem,hx,hy,eqGuard,binOp,Op.intDiv,hn],.int _ _ _ _ (Sj _ _)⟩
 case rem =>
  by_cases hn:n=0
  ·simp[hn] at h
  ·rw[decide_eq_false hn] at h
   exact⟨_,h,_,by simp[execOp,ho,go_sem,hx,hy,eqGuard,binOp,Op.intDiv,hn],.int _ _ _ _ (Aq0 hm hn)⟩
 case eql=>exact⟨_,h,_,by simp[execOp,ho,go_sem,hx,hy,eqGuard,binOp,Op.intCmp],.bool _ _ _⟩
 case neq=>exact⟨_,h,_,by simp[execOp,ho,go_sem,hx,hy,eqGuard,binOp,Op.intCmp],.bool _ _ _⟩
 case lss=>exact⟨_,h,_,by simp[execOp,ho,go_sem,hx,hy,eqGuard,binOp,Op.intCmp],.bool _ _ _⟩
 case leq=>exact⟨_,h,_,by simp[execOp,ho,go_sem,hx,hy,eqGuard,binOp,Op.intCmp],.bool _ _ _⟩
 case gtr=>exact⟨_,h,_,by simp[execOp,ho,go_sem,hx,hy,eqGuard,binOp,Op.intCmp],.bool _ _ _⟩
 case geq=>exact⟨_,h,_,by simp[execOp,ho,go_sem,hx,hy,eqGuard,binOp,Op.intCmp],.bool _ _ _⟩
theorem Ep {α:Type} {vss:List (List α)} {size:Nat} (h:∀ vs ∈ vss,vs.length=size) {i j:Nat} {vs:List α} (hi:vss[i]?=some vs) (hj:j < size):vss.flatten[i*size+j]?=vs[j]?:=by
 induction vss generalizing i with
 | nil=>simp at hi
 | cons a t ih =>
  have ha:=h a (by simp)
  cases i with
  | zero =>
   simp at hi;subst hi
   rw[List.flatten_cons,Nat.zero_mul,Nat.zero_add,List.getElem?_append_left (by omega)]
  | succ i =>
   rw[List.flatten_cons,List.getElem?_append_right (by rw[ha,Nat.succ_mul];omega),ha,show(i+1)*size+j - size=i*size+j by rw[Nat.succ_mul];omega]
   exact ih (fun vs hv=>h vs (by simp[hv])) (by simpa using hi)
theorem Da {α:Type} {vss:List (List α)} {size:Nat} (h:∀ vs ∈ vss,vs.length=size):vss.flatten.length=vss.length*size:=by
 induction vss with
 | nil=>simp
 | cons a t ih=>rw[List.flatten_cons,List.length_append,ih (fun vs hv=>h vs (by simp[hv])),h a (by simp),List.length_cons,Nat.succ_mul];omega
theorem Em (b o j:Nat):(⟨b,o,none⟩:Addr).add j=⟨b,o+j,none⟩:=by unfold Addr.add;split<;>simp_all
theorem O6 {l:List AV} {off n:Nat} {K:List AV→Option ρ} (h:sub l off n K=some r):off+n≤l.length∧K ((l.drop off).take n)=some r:=by
 unfold sub at h
 by_cases hn:off+n≤l.length
 ·rw[decide_eq_true hn] at h;exact⟨hn,h⟩
 ·rw[decide_eq_false hn] at h;cases h
theorem Tw {t:TypeId} {b:Bool} (h:Ht P t=some b):(isAgg t).run P w=.ok b w:=by
 unfold Ht at h
 cases hu:P.underlying t with
 | none=>rw[hu] at h;cases h
 | some d=>rw[hu] at h;cases d<;>simp at h<;>subst h<;>simp[isAgg,run_underlying hu]
theorem Up {t:TypeId} {b:Bool} (h:Ht P t=some b):∃ i,P.info? t=some i∧P.cellsOf t=i.size:=by
 unfold Ht Program.underlying at h
 cases hi:P.info? t with
 | none=>rw[hi] at h;simp at h
 | some i=>exact⟨i,rfl,by simp[Program.cellsOf,hi]⟩
theorem Ov {t:TypeId} {ad:Addr} {cs:List AV} {vs:List Value} (hr:Reps S w hp φ cs vs) (h1:E5 vs) (hc:∀ j v,vs[j]?=some v→w.cell? (ad.add j)=some v) (hl:cs.length=P.cellsOf t)
 (h:Iz (Ht P t) cs K=some r):∃ v u,K v=some r∧(loadVar t ad).run P w=.ok u w∧Rep S w hp φ v u:=by
 cases hb:Ht P t with
 | none=>rw[hb] at h;simp[Iz] at h
 | some b =>
  rw[hb] at h
  obtain⟨i,hi,hsz⟩:=Up hb
  have hra:=Tw (w:=w) hb
  cases b with
  | true =>
   refine⟨.agg cs,.agg vs.toArray,h,?_,.agg _ _ _ _ hr h1⟩
   have hlen:vs.length=i.size:=by rw[← hr.length,hl,hsz]
   have hl2:=run_loadCells_list (P:=P) w ad vs hc
   rw[hlen] at hl2
   simp[loadVar,hra,sizeOf,typeInfo,hi,hl2]
  | false =>
   cases hr with
   | nil=>simp[Iz] at h
   | cons _ _ a v l vs ha ht =>
    cases l with
    | cons _ _=>simp[Iz] at h
    | nil =>
     refine⟨a,v,h,?_,ha⟩
     have:=hc 0 v rfl
     rw[Addr.add,if_pos rfl] at this
     simp[loadVar,hra,go_sem,this]
theorem A8v {base:Nat} (hs:Sim P base S w hp φ) {t:TypeId} {av:AV} {ex:Value} (hx:Rep S w hp φ av ex) (h:load P hp t K av=some r):∃ ad v u,ex=.pointer (some ad)∧K v=some r∧(loadVar t ad).run P w=.ok u w∧Rep S w hp φ v u:=by
 have fin:∀ ad,ex=.pointer (some ad)→(∃ v u,K v=some r∧(loadVar t ad).run P w=.ok u w∧Rep S w hp φ v u)→∃ ad v u,ex=.pointer (some ad)∧K v=some r∧(loadVar t ad).run P w=.ok u w∧Rep S w hp φ v u:=by
  rintro ad he ⟨v,u,h1,h2,h3⟩
  exact⟨ad,v,u,he,h1,h2,h3⟩
 cases hav:av<;>rw[hav] at h hx<;>simp only[load] at h<;>first | (cases h;done) | skip
 case ptr id off =>
  obtain⟨b,hb,hex⟩:=hx.ptr_inv
  rw[nth?_eq] at h
  cases ho':hp[id]? with
  | none=>rw[ho'] at h;cases h
  | some ob =>
   rw[ho'] at h
   cases ob<;>simp only at h<;>first | (cases h;done) | skip
   rename_i E cs
   obtain⟨hle,h⟩:=O6 h
   obtain⟨b',vs,E',h1,h2,⟨ex,h3⟩,h4,h5,h6⟩:=hs.obj id _ ho'
   rw[hb] at h1;cases h1
   refine fin _ hex (Ov (h4.drop off |>.take _) (fun v hv=>h5 v (List.mem_of_mem_drop (List.mem_of_mem_take hv))) ?_ ?_ h)
   ·intro j v hj
    rw[Em]
    have:vs[off+j]?=some v:=by
     rw[List.getElem?_take] at hj
     split at hj
     ·rwa [List.getElem?_drop] at hj
     ·cases hj
    have hl:off+j < vs.length:=(List.getElem?_eq_some_iff.1 this).1
    have this:(vs++ex)[off+j]?=some v:=by rw[List.getElem?_append_left hl];exact this
    simp only[World.cell?,h3]
    simpa using this
   ·rw[List.length_take,List.length_drop];omega
 case vel id off =>
  obtain⟨b,hb,hex⟩:=hx.vel_inv
  rw[nth?_eq] at h
  cases ho':hp[id]? with
  | none=>rw[ho'] at h;cases h
  | some ob =>
   rw[ho'] at h
   cases ob<;>simp only at h<;>first | (cases h;done) | skip
   rename_i E cs
   obtain⟨hle,h⟩:=O6 h
   obtain⟨b',vs,E',h1,h2,⟨ex,h3⟩,h4,h5,h6⟩:=hs.obj id _ ho'
   rw[hb] at h1;cases h1
   refine fin _ hex (Ov (h4.drop off |>.take _) (fun v hv=>h5 v (List.mem_of_mem_drop (List.mem_of_mem_take hv))) ?_ ?_ h)
   ·intro j v hj
    rw[Em]
    have:vs[off+j]?=some v:=by
     rw[List.getElem?_take] at hj
     split at hj
     ·rwa [List.getElem?_drop] at hj
     ·cases hj
    have hl:off+j < vs.length:=(List.getElem?_eq_some_iff.1 this).1
    have this:(vs++ex)[off+j]?=some v:=by rw[List.getElem?_append_left hl];exact this
    simp only[World.cell?,h3]
    simpa using this
   ·rw[List.length_take,List.length_drop];omega
 case pte id i off =>
  obtain⟨b,size,els,o0,hb,hob,hex⟩:=hx.pte_inv
  rw[nth?_eq] at h hob
  rw[hob] at h
  simp only at h
  cases hel:nth? els i with
  | none=>rw[hel] at h;cases h
  | some el =>
   rw[hel] at h
   simp only at h
   rw[nth?_eq] at hel
   obtain⟨hle,h⟩:=O6 h
   obtain⟨b',vss,ex,E',pre,h1,h2,h3,h4,h5,h6⟩:=hs.obj id _ hob
   rw[hb] at h1;cases h1
   obtain⟨vs,hv1,hv2,hv3⟩:=h4.get hel
   have hsz:vs.length=size:=h5 vs (List.mem_of_getElem? hv1)
   have hv2':=Reps.mono (hp':=hp) (φ':=φ) (SExt.refl S w) hv2 ⟨fun _ _ _ h=>by simp at h,fun _ _ _ h=>by simp[nth?] at h,fun _ _ _ _ h=>by simp[nth?] at h,fun _ _ _ _ _ h=>by simp[nth?] at h⟩
   refine fin _ hex (Ov (hv2'.drop off |>.take _) (fun v hv=>hv3 v (List.mem_of_mem_drop (List.mem_of_mem_take hv))) ?_ ?_ h)
   ·intro j v hj
    rw[Em]
    have hj':vs[off+j]?=some v:=by
     rw[List.getElem?_take] at hj
     split at hj
     ·rwa [List.getElem?_drop] at hj
     ·cases hj
    have hlt:=(List.getElem?_eq_some_iff.1 hj').1
    have h0:vss.flatten[i*size+(off+j)]?=some v:=by rw[Ep h5 hv1 (by omega),hj']
    have:(vss.flatten++ex)[i*size+(off+j)]?=some v:=by rw[List.getElem?_append_left (List.getElem?_eq_some_iff.1 h0).1];exact h0
    have this2:(pre++(vss.flatten++ex))[pre.length+(i*size+(off+j))]?=some v:=by
     rw[List.getElem?_append_right (by omega),show pre.length+(i*size+(off+j)) - pre.length=i*size+(off+j) by omega];exact this
    rw[show pre.length+(i*size+off)+j=pre.length+(i*size+(off+j)) by omega]
    simp only[World.cell?,h3]
    simpa using this2
   ·rw[List.length_take,List.length_drop];omega
 case pts id ver i off =>
  obtain⟨_,ver',e',size,els,hob,_,hcur⟩:=hx.pts_inv
  rw[hob] at h
  simp only at h
  split at h
  ·rename_i hv
   have hv:=of_decide_eq_true hv
   obtain⟨g,len,cap,hφ,hex⟩:=hcur hv.symm
   rw[nth?_eq] at hob
   cases hel:nth? els i with
   | none=>rw[hel] at h;cases h
   | some el =>
    rw[hel] at h
    simp only at h
    rw[nth?_eq] at hel
    obtain⟨hle,h⟩:=O6 h
    obtain⟨v0,vss,h1,h2,h3,h4,h5,h6,h7⟩:=hs.obj id _ hob
    rw[hφ] at h1;cases h1
    obtain⟨vs,hv1,hv2,hv3⟩:=h3.get hel
    have hsz:vs.length=size:=h4 vs (List.mem_of_getElem? hv1)
    have hv2':=Reps.mono (hp':=hp) (φ':=φ) (SExt.refl S w) hv2 ⟨fun _ _ _ h=>by simp at h,fun _ _ _ h=>by simp[nth?] at h,fun _ _ _ _ h=>by simp[nth?] at h,fun _ _ _ _ _ h=>by simp[nth?] at h⟩
    refine fin _ hex (Ov (hv2'.drop off |>.take _) (fun v hv=>hv3 v (List.mem_of_mem_drop (List.mem_of_mem_take hv))) ?_ ?_ h)
    ·intro j v hj
     rw[Em]
     have hj':vs[off+j]?=some v:=by
      rw[List.getElem?_take] at hj
      split at hj
      ·rwa [List.getElem?_drop] at hj
      ·cases hj
     have hlt:=(List.getElem?_eq_some_iff.1 hj').1
     have h0:vss.flatten[i*size+(off+j)]?=some v:=by rw[Ep h4 hv1 (by omega),hj']
     have:=h2.cells (g:=g) rfl _ _ h0
     rw[Em,Nat.zero_add] at this
     rw[show i*size+off+j=i*size+(off+j) by omega]
     exact this
    ·rw[List.length_take,List.length_drop];omega
  ·cases h
 case rptr el off =>
  obtain⟨vs,b,ob,hr,h1,hl,hex⟩:=hx.rptr_inv
  obtain⟨hle,h⟩:=O6 h
  have hr':=Reps.mono (hp':=hp) (φ':=φ) (SExt.refl S w) hr ⟨fun _ _ _ h=>by simp at h,fun _ _ _ h=>by simp[nth?] at h,fun _ _ _ _ h=>by simp[nth?] at h,fun _ _ _ _ _ h=>by simp[nth?] at h⟩
  refine fin _ hex (Ov (hr'.drop off |>.take _) (fun v hv=>h1 v (List.mem_of_mem_drop (List.mem_of_mem_take hv))) ?_ ?_ h)
  ·intro j v hj
   rw[Em]
   have hj':vs[off+j]?=some v:=by
    rw[List.getElem?_take] at hj
    split at hj
    ·rwa [List.getElem?_drop] at hj
    ·cases hj
   have:=(hl _ _ hj').2
   rwa [← Nat.add_assoc] at this
  ·rw[List.length_take,List.length_drop];omega
theorem Afx {base:Nat} (hs:Sim P base S w hp φ) (ht:∀ x,Rep S w hp φ (ev tm x) (e x)) {t:TypeId} {x:Operand} (ho:o.op=.load t x) (h:load P hp t K (ev tm x)=some r):∃ v,K v=some r∧Gives P S w hp φ e o v:=by
 obtain⟨ad,v,u,he,h1,h2,h3⟩:=A8v hs (ht x) h
 exact⟨v,h1,u,by simp only[execOp,ho,Instr.loadAt,Instr.sureAddr,he,Sem.run_bind,Sem.run_pure,Result.andThen_ok,h2],h3⟩
theorem L0 {t:TypeId} (h:0 < P.cellsOf t):(sizeOf t).run P w=.ok (P.cellsOf t) w:=by
 unfold Program.cellsOf at h ⊢
 cases hi:P.info? t with
 | none=>rw[hi] at h;simp at h
 | some i=>simp[sizeOf,typeInfo,hi]
theorem J6 {t et:TypeId} (h:Fr P t=some et):P.underlying t=some (.slice et):=by
 unfold Fr at h
 cases hu:P.underlying t with
 | none=>rw[hu] at h;cases h
 | some d=>rw[hu] at h;cases d<;>simp at h;subst h;rfl
theorem A0j {t:TypeId} {f off:Nat} {ft:TypeId} (h:Oi P t f=some (off,ft)):∃ fs fd,P.underlying t=some (.struct fs)∧fs[f]?=some fd∧fd.offset=off∧fd.type=ft:=by
 unfold Oi at h
 cases hu:P.underlying t with
 | none=>rw[hu] at h;cases h
 | some d =>
  rw[hu] at h
  cases d<;>simp at h
  rename_i fs
  obtain⟨fd,h1,h2,h3⟩:=h
  exact⟨fs,fd,rfl,h1,h2,h3⟩
theorem Pq {base:Nat} (hs:Sim P base S w hp φ) {id ver n:Nat} {v:Value} (h:StkAt hp φ id ver n v) {e:TypeId} {size:Nat} {els:List (List AV)} (hob:nth? hp id=some (.stk ver e size els)):n≤els.length∧∃ v0 vss,φ[id]?=some (.sv v0)∧v=Ud v0 n∧w.ownsRow base e size v0 els.length vss.flatten∧Repss S w els vss∧(∀ vs ∈ vss,vs.length=size)∧0 < size∧P.cellsOf e=size∧(∀ g,v0.ownBlock=some g→∀ o,¬ S g o)∧(0 < els.length→∃ g cap,v0=.slice (some ⟨g,0,none⟩) els.length cap∧v=.slice (some ⟨g,0,none⟩) n cap):=by
 obtain⟨_,ver',e',size',els',h1,h2,h3⟩:=h
 rw[hob] at h1;cases h1
 obtain⟨h4,v0,h5,h6⟩:=h3 rfl
 rw[nth?_eq] at hob
 obtain⟨v0',vss,g1,g2,g3,g4,g5,g6,g7⟩:=hs.obj id _ hob
 rw[h5] at g1;cases g1
 refine⟨h4,v0,vss,h5,h6,g2,g3,g4,g5,g6,g7,fun hpos=>?_⟩
 rcases g2.2 with ⟨_,h0⟩ | ⟨g,cap,cur,hv,_⟩
 ·omega
 ·exact⟨g,cap,hv,by rw[h6,hv];rfl⟩
theorem A26 (ht:∀ x,Rep S w hp φ (ev tm x) (e x)) {t:TypeId} {x:Operand} {f:Nat} (ho:o.op=.fieldAddr t x f) {p:Nat×TypeId} (hf:Oi P t f=some p) (hp0:0 < P.cellsOf p.2) (h:Qy K (ev tm x) p.1=some r):∃ v,K v=some r∧Gives P S w hp φ e o v:=by
 have hx:=ht x
 obtain⟨off,ft⟩:=p
 obtain⟨fs,fd,hu,hfd,h1,h2⟩:=A0j hf
 subst h1;subst h2
 have hz:=L0 (w:=w) hp0
 generalize ev tm x=av at *
 have fin:∀ b o',e x=.pointer (some ⟨b,o',none⟩)→(execOp e o).run P w=.ok (.value (.pointer (some ⟨b,o'+fd.offset,none⟩))) w:=by
  intro b o' he
  have hne:P.cellsOf fd.type≠0:=by simp only at hp0;omega
  simp only[execOp,ho,Instr.fieldAt,Instr.sureAddr,he,fieldPlace,Sem.run_bind,Sem.run_pure,Result.andThen_ok,run_underlying hu,hfd,hz,if_neg hne,Em]
 generalize hex:e x=ex at hx
 cases hx<;>simp only[Qy] at h<;>first | (cases h;done) | skip
 case ptr id off b hb=>exact⟨_,h,_,fin _ _ hex,.ptr _ _ id _ b hb⟩
 case pte id i off b size els o0 hb hob=>exact⟨_,h,_,fin _ _ hex,by rw[Nat.add_assoc,Nat.add_assoc];exact .pte _ _ id i _ b size els o0 (by assumption) (by assumption)⟩
 case rptr el off vs b ob hr h1 hl=>exact⟨_,h,_,fin _ _ hex,by rw[Nat.add_assoc];exact .rptr _ _ el _ vs b ob hr h1 hl⟩
 case pts id ver i off hp0 =>
  obtain⟨⟨b,o',hb⟩,ver',e',size,els,h1,h2,h3⟩:=hp0
  exact⟨_,h,_,fin _ _ (hex.trans hb),.pts _ _ _ _ _ _ _ ⟨⟨_,_,rfl⟩,ver',e',size,els,h1,h2,fun hv=>by
   obtain⟨g,len,cap,c1,c2⟩:=h3 hv
   rw[hb] at c2
   cases c2
   exact⟨_,len,cap,c1,by rw[Nat.add_assoc]⟩⟩⟩
theorem Arx {t:TypeId} {n:Nat} {et:TypeId} (h:A7h P t=some (n,et)):P.underlying t=some (.array n et):=by
 unfold A7h at h
 cases hu:P.underlying t with
 | none=>rw[hu] at h;cases h
 | some d=>rw[hu] at h;cases d<;>simp at h;obtain⟨rfl,rfl⟩:=h;rfl
theorem A3p (ht:∀ x,Rep S w hp φ (ev tm x) (e x)) {t:TypeId} {x y:Operand} (ho:o.op=.indexAddr t x y) {k:IntKind} {i:Int} (hy:ev tm y=.int k i) {n:Nat} {et:TypeId} (ha:A7h P t=some (n,et)) (hz:0 < P.cellsOf et) (h0:0≤i) (hlt:i < n) (h:Qy K (ev tm x) (i.toNat*P.cellsOf et)=some r):∃ v,K v=some r∧Gives P S w hp φ e o v:=by
 have hx:=ht x
 have hi:=ht y
 rw[hy] at hi
 have hu:=Arx ha
 have hey:e y=.int k i:=by generalize hex:e y=ex at hi;cases hi;rfl
 have hsz:=L0 (w:=w) hz
 generalize ev tm x=av at *
 have fin:∀ b o',e x=.pointer (some ⟨b,o',none⟩)→(execOp e o).run P w=.ok (.value (.pointer (some ⟨b,o'+i.toNat*P.cellsOf et,none⟩))) w:=by
  intro b o' he
  simp only[execOp,ho,Instr.indexAt,Instr.sureAddr,he,hey,asIntOf,Sem.run_bind,Sem.run_pure,Result.andThen_ok,run_underlying hu,h0,hlt,and_self,if_true,hsz,Em]
 generalize hex:e x=ex at hx
 cases hx<;>simp only[Qy] at h<;>first | (cases h;done) | skip
 case ptr id off b hb=>exact⟨_,h,_,fin _ _ hex,.ptr _ _ id _ b hb⟩
 case pte id j off b size els o0 hb hob=>exact⟨_,h,_,fin _ _ hex,by rw[Nat.add_assoc,Nat.add_assoc];exact .pte _ _ id j _ b size els o0 (by assumption) (by assumption)⟩
 case rptr el off vs b ob hr h1 hl=>exact⟨_,h,_,fin _ _ hex,by rw[Nat.add_assoc];exact .rptr _ _ el _ vs b ob hr h1 hl⟩
 case pts id ver j off hp0 =>
  obtain⟨⟨b,o',hb⟩,ver',e',size,els,h1,h2,h3⟩:=hp0
  exact⟨_,h,_,fin _ _ (hex.trans hb),.pts _ _ _ _ _ _ _ ⟨⟨_,_,rfl⟩,ver',e',size,els,h1,h2,fun hv=>by
   obtain⟨g,len,cap,c1,c2⟩:=h3 hv
   rw[hb] at c2
   cases c2
   exact⟨_,len,cap,c1,by rw[Nat.add_assoc]⟩⟩⟩
theorem X3 {x:Operand} {t:TypeId} (ho:o.op=.call { callee:=.builtin .len,args:=#[x],argTypes:=#[t] }) (n:Nat) (hn:n≤maxLen) (hr:(Builtin.len_ #[t] o.type #[e x]).run P w=.ok (.int .i64 (n:Int)) w):Gives P S w hp φ e o (.int .i64 n):=by
 refine⟨_,?_,.int _ _ _ _ (A8i hn)⟩
 simp only[execOp,ho,resolve,invoke,builtin,Sem.run_bind,Sem.run_pure,Result.andThen_ok,List.map_toArray,List.map_cons,List.map_nil,hr]
theorem A6t (ht:∀ x,Rep S w hp φ (ev tm x) (e x)) {x:Operand} {t:TypeId} (ho:o.op=.call { callee:=.builtin .len,args:=#[x],argTypes:=#[t] }) (hu:P.underlying t=some .string) {s:List UInt8} (h:ev tm x=.str s):Gives P S w hp φ e o (.int .i64 s.length):=by
 have hx:=ht x
 rw[h] at hx
 generalize hex:e x=ex at hx
 cases hx with
 | str _ _ _ hs=>exact X3 ho _ hs (by rw[hex];simp only[Builtin.len_,run_underlying hu,goInt,Sem.run_bind,Sem.run_pure,Result.andThen_ok,List.getElem?_toArray,List.getElem?_cons_zero];rfl)
theorem A2j (ht:∀ x,Rep S w hp φ (ev tm x) (e x)) {x:Operand} {t et:TypeId} (ho:o.op=.call { callee:=.builtin .len,args:=#[x],argTypes:=#[t] }) (hu:P.underlying t=some (.slice et)) (h:A3y (fun n=>K (.int .i64 n)) (ev tm x)=some r):∃ v,K v=some r∧Gives P S w hp φ e o v:=by
 have hx:=ht x
 generalize ev tm x=av at *
 generalize hex:e x=ex at hx
 have fin:∀ (a:Option Addr) (n cap:Nat),ex=.slice a n cap→n≤maxLen→K (.int .i64 n)=some r→∃ v,K v=some r∧Gives P S w hp φ e o v:=fun a n cap he hn hK=>by
  subst he
  exact⟨_,hK,X3 ho n hn (by rw[hex];simp[Builtin.len_,run_underlying hu,goInt])⟩
 cases av<;>simp only[A3y] at h<;>first | (cases h;done) | skip
 case nils=>exact fin _ 0 _ hx.nils_inv (by unfold maxLen;omega) h
 case sl size els =>
  obtain⟨vss,a,cap,hr,hl,hc,rfl⟩:=hx.sl_inv
  exact fin _ _ _ rfl (by have:=hc.1;have:=hc.2.1;omega) h
 case row id n =>
  obtain⟨et',size,els,ho',hn,hs,hcur⟩:=hx.row_inv
  obtain⟨vss,a,cap,hr,hl,hc,rfl⟩:=hs.sl_inv
  have hlen:(els.take n).length=n:=by rw[List.length_take];omega
  exact fin a _ cap rfl (by have:=hc.1;have:=hc.2.1;omega) (by rw[hlen];exact h)
 case own id off n =>
  obtain⟨b,size,els,cap,ad,o0,hb,hob,hn,had,hc,rfl⟩:=hx.own_inv
  exact fin _ _ _ rfl (by have:=hc.1;have:=hc.2.1;omega) h
 case stk id ver n =>
  obtain⟨⟨a,cap,rfl,hc⟩,_⟩:=hx.stk_inv
  exact fin _ _ _ rfl (by have:=hc.1;have:=hc.2.1;omega) h
theorem Uc {size n:Nat} {els:List (List AV)} {i:Int} {sz:Nat} (h:Nm size n els i sz K=some r):∃ el,(size=sz∧0 < sz)∧0≤i∧i < n∧els[i.toNat]?=some el∧K (.rptr el 0)=some r:=by
 unfold Nm at h
 split at h
 ·rename_i hsz
  simp only[A8,Ai] at hsz
  by_cases hb:(0≤i∧i < n)
  ·rw[decide_eq_true hb.1,decide_eq_true hb.2] at h
   rw[nth?_eq] at h
   simp only[Bool.and_self,As] at h
   cases he:els[i.toNat]? with
   | none=>rw[he] at h;cases h
   | some el=>rw[he] at h;exact⟨el,hsz,hb.1,hb.2,rfl,h⟩
  ·have:(decide (0≤i)&&decide (i < n))=false:=by
    rw[Bool.eq_false_iff];intro hh
    simp only[A8,Ai] at hh
    exact hb hh
   rw[this] at h;cases h
 ·cases h
theorem A2u {base:Nat} (hs:Sim P base S w hp φ) (ht:∀ x,Rep S w hp φ (ev tm x) (e x)) {t:TypeId} {x y:Operand} (ho:o.op=.indexAddr t x y) {k:IntKind} {i:Int} (hy:ev tm y=.int k i) (h:Lf P hp t (ev tm x) i K=some r):∃ v,K v=some r∧Gives P S w hp φ e o v:=by
 have hx:=ht x
 have hi:=ht y
 rw[hy] at hi
 unfold Lf at h
 cases het:Fr P t with
 | none =>
  rw[het] at h
  simp only at h
  split at h
  ·rename_i p hp1
   obtain⟨n,et⟩:=p
   split at h
   ·rename_i hz
    rw[U4] at h
    by_cases hb:(decide (0≤i)&&decide (i < (n:Int)))=true
    ·rw[hb] at h
     simp only[A8,Ai] at hb hz
     exact A3p ht ho hy hp1 hz hb.1 hb.2 h
    ·rw[Bool.not_eq_true] at hb;rw[hb] at h;cases h
   ·cases h
  ·cases h
 | some et =>
 rw[het] at h
 simp only at h
 have hu:=J6 het
 have hey:e y=.int k i:=by generalize hex:e y=ex at hi;cases hi;rfl
 have fin:∀ (b ob len cap:Nat) (v:AV),e x=.slice (some ⟨b,ob,none⟩) len cap→0≤i→i < len→0 < P.cellsOf et→K v=some r→Rep S w hp φ v (.pointer (some ⟨b,ob+i.toNat*P.cellsOf et,none⟩))→∃ v,K v=some r∧Gives P S w hp φ e o v:=by
  intro b ob len cap v he h0 hlt hz hK hv
  refine⟨v,hK,_,?_,hv⟩
  have hsz:=L0 (w:=w) hz
  simp only[execOp,ho,Instr.indexAt,he,hey,asIntOf,Sem.run_bind,Sem.run_pure,Result.andThen_ok,run_underlying hu,h0,hlt,and_self,if_true,hsz,Em]
 have fin2:∀ (a:Option Addr) (cap:Nat) (els:List (List AV)) (vss:List (List Value)) (el:List AV),e x=.slice a els.length cap→Repss S w els vss→Laid S w a (P.cellsOf et) vss→0≤i→i < els.length→els[i.toNat]?=some el→K (.rptr el 0)=some r→0 < P.cellsOf et→∃ v,K v=some r∧Gives P S w hp φ e o v:=by
  intro a cap els vss el he hr hl h0 hlt hel hK hz
  obtain⟨vs,hv1,hv2,hv3⟩:=hr.get hel
  ·have hlen:=hl.1 vs (List.mem_of_getElem? hv1)
   obtain⟨u,hu0⟩:∃ u,vs[0]?=some u:=⟨_,A6 (by omega)⟩
   obtain⟨b,ob,ha,_,_⟩:=hl.2 _ _ _ _ hv1 hu0
   subst ha
   refine fin b ob _ _ _ he h0 hlt hz hK (.rptr _ _ el 0 vs b _ hv2 hv3 fun j u hj=>?_)
   obtain⟨b',o',e1,e2,e3⟩:=hl.2 _ _ _ _ hv1 hj
   cases e1
   exact⟨e2,e3⟩
 generalize ev tm x=av at *
 cases av<;>simp only at h<;>first | (cases h;done) | skip
 case sl size els =>
  obtain⟨vss,a,cap,hr,hl,hc,hex⟩:=hx.sl_inv
  obtain⟨el,⟨h1,hz⟩,h2,h3,h4,h5⟩:=Uc h
  subst h1
  exact fin2 _ _ _ _ _ hex hr hl h2 h3 h4 h5 hz
 case row id n =>
  obtain⟨et',size,els,ho',hn,hs',hcur⟩:=hx.row_inv
  obtain⟨vss,a,cap,hr,hl,hc,hex⟩:=hs'.sl_inv
  rw[ho'] at h
  obtain⟨el,⟨h1,hz⟩,h2,h3,h4,h5⟩:=Uc h
  subst h1
  have hlen:(els.take n).length=n:=by rw[List.length_take];omega
  refine fin2 _ _ _ _ el hex hr hl h2 (by omega) ?_ h5 hz
  rw[List.getElem?_take,if_pos (by omega)];exact h4
 case own id off n =>
  obtain⟨b,size,els,cap,ad,o0,hb,hob,hn,had,hc,hex⟩:=hx.own_inv
  rw[hob] at h
  simp only at h
  split at h
  ·rename_i hsz
   simp only[A8,Ai] at hsz
   obtain⟨hsz,hz⟩:=hsz
   subst hsz
   by_cases hbd:((decide (0≤i)&&decide (i < n))&&decide (off+n≤els.length))=true
   ·rw[hbd] at h
    simp only[A8,Ai] at hbd
    have had':=had (by omega)
    subst had'
    refine fin b _ _ _ _ hex hbd.1.1 hbd.1.2 hz h ?_
    have:=Rep.pte (S:=S) (w:=w) hp φ id (off+i.toNat) 0 b _ els o0 hb hob
    rw[Nat.add_mul,Nat.add_zero,← Nat.add_assoc] at this
    exact this
   ·rw[Bool.not_eq_true] at hbd
    rw[hbd] at h;cases h
  ·cases h
 case vsl id off n cap =>
  obtain⟨b,hb,hex⟩:=hx.vsl_inv
  split at h
  ·rename_i hz
   rw[Ai] at hz
   by_cases hbd:(decide (0≤i)&&decide (i < n))=true
   ·rw[hbd] at h
    simp only[A8,Ai] at hbd
    exact fin b _ _ _ _ hex hbd.1 hbd.2 (by omega) h (by rw[hz,Nat.mul_one];exact .vel _ _ id _ b hb)
   ·rw[Bool.not_eq_true] at hbd
    rw[hbd] at h;cases h
  ·cases h
 case stk id ver n =>
  have hst:=hx.stk_inv
  obtain⟨_,ver',e',size,els,hob,hle,_⟩:=hx.stk_inv
  rw[hob] at h
  simp only at h
  split at h
  ·rename_i hq
   simp only[A8,Ai] at hq
   obtain⟨⟨hv,hsz⟩,hz⟩:=hq
   subst hv;subst hsz
   obtain⟨hn,v0,vss,c1,c2,c3,c4,c5,c6,c7,c8,c9⟩:=Pq hs hst hob
   by_cases hbd:(decide (0≤i)&&decide (i < n))=true
   ·rw[hbd] at h
    simp only[A8,Ai] at hbd
    obtain⟨g,cap,k1,k2⟩:=c9 (by omega)
    refine fin g 0 n cap _ k2 hbd.1 hbd.2 hz h (.pts _ _ _ _ _ _ _ ⟨⟨_,_,rfl⟩,_,e',_,els,hob,Nat.le_refl _,fun _=>⟨g,els.length,cap,by rw[c1,k1],by simp⟩⟩)
   ·rw[Bool.not_eq_true] at hbd
    rw[hbd] at h;cases h
  ·cases h
end
section
variable {S:Nat→Nat→Prop} {w:World} {hp:Hp} {φ:List Pl} {P:Program} {e:Operand→Value} {o:Oper} {tm:Tm} {ρ:Type} {r:ρ} {K:AV→Option ρ}
theorem Tt (s:List UInt8):(bs s).toList=s:=by rw[ByteArray.toList_eq]
theorem A7a {n:Nat} {f:Field} {fs:List Field} (h:Q5 n (f :: fs)=true):f.name≠ "_"∧f.offset=n∧Q5 (n+1) fs=true:=by
 simp only[Q5,A8,Ai] at h
 exact⟨h.1.1,h.1.2,h.2⟩
theorem Acd {d:Nat} {X Y:List Value}:∀ (fs:List Field) (n:Nat) (xs ys:List AV) (us vs:List Value) (C:Bool→Option ρ),X=X.take n++us→Y=Y.take n++vs→n≤X.length→n≤Y.length→Q5 n fs=true→Reps S w hp φ xs us→Reps S w hp φ ys vs→eqs P C fs xs ys=some r →
 ∃ c,C c=some r∧(Op.eqFields (d+1) X.toArray Y.toArray fs).run P w=.ok c w:=by
 intro fs
 induction fs with
 | nil =>
  intro n xs ys us vs C _ _ _ _ _ hx hy h
  cases xs<;>cases ys<;>simp only[eqs] at h<;>first | (cases h;done) | skip
  exact⟨true,h,by simp[Op.eqFields]⟩
 | cons f fs ih =>
  intro n xs ys us vs C hX hY hn1 hn2 hf hx hy h
  obtain⟨h1,h2,h4⟩:=A7a hf
  cases xs with
  | nil=>simp[eqs] at h
  | cons x xs =>
  cases ys with
  | nil=>simp[eqs] at h
  | cons y ys =>
  cases hx with
  | cons _ _ _ u _ us hx hxs =>
  cases hy with
  | cons _ _ _ v _ vs hy hys =>
  have gx:X[n]?=some u:=by
   conv=>lhs;rw[hX]
   rw[List.getElem?_append_right (by rw[List.length_take];omega),List.length_take,Nat.min_eq_left hn1,Nat.sub_self];rfl
  have gy:Y[n]?=some v:=by
   conv=>lhs;rw[hY]
   rw[List.getElem?_append_right (by rw[List.length_take];omega),List.length_take,Nat.min_eq_left hn2,Nat.sub_self];rfl
  have nx:X=X.take (n+1)++us:=by
   conv=>lhs;rw[hX]
   rw[List.take_add_one,gx];simp
  have ny:Y=Y.take (n+1)++vs:=by
   conv=>lhs;rw[hY]
   rw[List.take_add_one,gy];simp
  have lx:n+1≤X.length:=(List.getElem?_eq_some_iff.1 gx).1
  have ly:n+1≤Y.length:=(List.getElem?_eq_some_iff.1 gy).1
  have step:∀ (b:Bool),Ht P f.type=some false→(Op.equalIn (d+1) f.type u v).run P w=.ok b w→eqs P (fun c=>C (b&&c)) fs xs ys=some r→∃ c,C c=some r∧(Op.eqFields (d+1) X.toArray Y.toArray (f :: fs)).run P w=.ok c w:=by
   intro b hagg hb he
   have hag:=Tw (w:=w) hagg
   have px:(part f.type X.toArray f.offset).run P w=.ok u w:=by
    rw[h2];simp[part,hag,gx]
   have py:(part f.type Y.toArray f.offset).run P w=.ok v w:=by
    rw[h2];simp[part,hag,gy]
   cases b with
   | true =>
    simp only[Bool.true_and] at he
    obtain⟨c,hc1,hc2⟩:=ih (n+1) xs ys us vs C nx ny lx ly h4 hxs hys he
    exact⟨c,hc1,by simp[Op.eqFields,h1,px,py,hb,hc2]⟩
   | false =>
    simp only[Bool.false_and] at he
    obtain⟨c,hc1,hc2⟩:=ih (n+1) xs ys us vs (fun _=>C false) nx ny lx ly h4 hxs hys he
    exact⟨false,hc1,by simp[Op.eqFields,h1,px,py,hb]⟩
  simp only[eqs] at h
  cases hu:P.underlying f.type with
  | none=>rw[hu] at h;cases h
  | some dd =>
  rw[hu] at h
  have hagg:(dd=.bool∨(∃ k,dd=.int k)∨dd=.string)→Ht P f.type=some false:=by
   rintro (rfl | ⟨k,rfl⟩ | rfl)<;>simp[Ht,hu]
  cases dd<;>simp only at h<;>first | (cases h;done) | skip
  case bool =>
   cases x<;>cases y<;>simp only at h<;>first | (cases h;done) | skip
   rename_i a b
   have e1:=hx.bool_inv;have e2:=hy.bool_inv;subst e1;subst e2
   exact step _ (hagg (.inl rfl)) (run_equalIn_bool' w d _ a b hu) h
  case int k2 =>
   cases x<;>cases y<;>simp only at h<;>first | (cases h;done) | skip
   rename_i k a k' b
   have e1:=hx.int_inv.1;have e2:=hy.int_inv.1;subst e1;subst e2
   split at h
   ·rename_i hk
    have hk:=of_decide_eq_true hk
    subst hk
    exact step _ (hagg (.inr (.inl ⟨_,rfl⟩))) (run_equalIn_int w d _ k k2 a b hu) h
   ·cases h
  case string =>
   cases x<;>cases y<;>simp only at h<;>first | (cases h;done) | skip
   rename_i a b
   have e1:=hx.str_inv.1;have e2:=hy.str_inv.1;subst e1;subst e2
   exact step _ (hagg (.inr (.inr rfl))) (by rw[run_equalIn_string w d _ (bs a) (bs b) hu,Tt,Tt]) h
theorem Abp (ht:∀ x,Rep S w hp φ (ev tm x) (e x)) {op:BinOp} {t t':TypeId} {x y:Operand} (ho:o.op=.binOp op t x y t') (h:Zb P t op K (ev tm x) (ev tm y)=some r):∃ v,K v=some r∧Gives P S w hp φ e o v:=by
 have hx:=ht x
 have hy:=ht y
 generalize ev tm x=av at *
 generalize ev tm y=bv at *
 generalize hex:e x=ex at hx
 generalize hey:e y=ey at hy
 cases av<;>cases bv<;>simp only[Zb] at h<;>first | (cases h;done) | skip
 case bool.bool a b =>
  have e1:=hx.bool_inv;have e2:=hy.bool_inv;subst e1;subst e2
  split at h
  ·rename_i hu
   have hq:(Op.equal t (.bool a) (.bool b)).run P w=.ok (a==b) w:=run_equalIn_bool' w 9999 t a b hu
   cases op<;>simp only at h<;>first | (cases h;done) | skip
   case eql=>exact⟨_,h,_,by simp only[execOp,ho,hex,hey,eqGuard,binOp,Sem.run_bind,Sem.run_pure,Result.andThen_ok,hq,Bool.not_true,Bool.false_eq_true,if_false],.bool _ _ _⟩
   case neq=>exact⟨_,h,_,by simp only[execOp,ho,hex,hey,eqGuard,binOp,Sem.run_bind,Sem.run_pure,Result.andThen_ok,hq,Bool.not_true,Bool.false_eq_true,if_false],.bool _ _ _⟩
  ·cases h
 case int.int k m k' n =>
  have e1:=hx.int_inv;have e2:=hy.int_inv.1;obtain⟨e1,hm⟩:=e1;subst e1;subst e2
  split at h
  ·rename_i hk
   have hk:=of_decide_eq_true hk
   subst hk
   exact Aa0 op ho hex hey hm h
  ·cases h
 case str.str s s' =>
  obtain⟨e1,hs⟩:=hx.str_inv;obtain⟨e2,hs'⟩:=hy.str_inv;subst e1;subst e2
  cases op<;>simp only at h<;>first | (cases h;done) | skip
  case add =>
   by_cases hl:s.length+s'.length≤140737488355328
   ·rw[decide_eq_true hl] at h
    refine⟨_,h,.string (bs (s++s')),?_,.str _ _ _ (by rw[List.length_append];unfold maxLen;omega)⟩
    have h1:(bs s).size=s.length:=rfl
    have h2:(bs s').size=s'.length:=rfl
    have h3:bs s++bs s'=bs (s++s'):=by
     apply ByteArray.ext;simp
    have h4:¬ (((bs s).size+(bs s').size:Nat):Int) > IntKind.i64.max:=by rw[h1,h2];simp[IntKind.max,IntKind.bits,IntKind.signed];omega
    simp only[execOp,ho,hex,hey,eqGuard,binOp,Op.stringOp,Sem.run_bind,Sem.run_pure,Result.andThen_ok,if_neg h4,h3]
    rfl
   ·rw[decide_eq_false hl] at h;cases h
  case eql=>exact⟨_,h,_,by simp[execOp,ho,hex,hey,eqGuard,binOp,go_sem,Op.stringOp,Tt],.bool _ _ _⟩
  case neq=>exact⟨_,h,_,by simp[execOp,ho,hex,hey,eqGuard,binOp,go_sem,Op.stringOp,Tt],.bool _ _ _⟩
 case agg.agg xs ys =>
  obtain⟨us,hxs,h1,e1⟩:=hx.agg_inv;obtain⟨vs,hys,h2,e2⟩:=hy.agg_inv;subst e1;subst e2
  cases hfl:A7g P t with
  | none=>rw[hfl] at h;cases h
  | some fs =>
   rw[hfl] at h
   unfold A7g at hfl
   cases hu:P.underlying t with
   | none=>rw[hu] at hfl;cases hfl
   | some dd =>
   rw[hu] at hfl
   cases dd<;>simp only at hfl<;>first | (cases hfl;done) | skip
   rename_i fs'
   split at hfl
   ·rename_i hfl'
    cases hfl
    simp only[A8,Bool.not_eq_true'] at hfl'
    obtain⟨⟨f1,f2⟩,f3⟩:=hfl'
    have hfo:P.fieldsOf t=fs':=by simp[Program.fieldsOf,hu]
    have hq:=run_equalIn_struct w 9999 t us.toArray vs.toArray (by rw[hfo];exact hu) f2
    have hg:=fun op=>run_eqGuard_agg w op t x y us.toArray vs.toArray f3
    rw[hfo] at hq
    cases op<;>simp only at h<;>first | (cases h;done) | skip
    case eql =>
     obtain⟨c,hc,hrun⟩:=Acd (d:=9998) fs'.toList 0 xs ys us vs _ (X:=us) (Y:=vs) (by simp) (by simp) (by simp) (by simp) f1 hxs hys h
     exact⟨_,hc,_,by simp only[execOp,ho,hex,hey,Sem.run_bind,hg,Result.andThen_ok,run_eql_struct,hq,hrun,Sem.run_pure],.bool _ _ _⟩
    case neq =>
     obtain⟨c,hc,hrun⟩:=Acd (d:=9998) fs'.toList 0 xs ys us vs _ (X:=us) (Y:=vs) (by simp) (by simp) (by simp) (by simp) f1 hxs hys h
     exact⟨_,hc,_,by simp only[execOp,ho,hex,hey,Sem.run_bind,hg,Result.andThen_ok,run_neq_struct,hq,hrun,Sem.run_pure],.bool _ _ _⟩
   ·cases hfl
end
section
variable {S:Nat→Nat→Prop} {w:World} {hp:Hp} {φ:List Pl} {P:Program} {e:Operand→Value} {o:Oper} {tm:Tm} {ρ:Type} {r:ρ} {K:AV→Option ρ}
theorem A7e (ht:∀ x,Rep S w hp φ (ev tm x) (e x)) {s t:TypeId} {x:Operand} (ho:o.op=.convert s t x) {k k':IntKind} {n:Int} (hu:P.underlying t=some (.int k)) (hs:(P.underlying s).isSome=true) (hx:ev tm x=.int k' n):Gives P S w hp φ e o (.int k (k.wrap n)):=by
 have h:=ht x
 rw[hx] at h
 obtain⟨he,_⟩:=h.int_inv
 obtain⟨d,hd⟩:=Option.isSome_iff_exists.1 hs
 refine⟨_,?_,.int _ _ _ _ (Sj _ _)⟩
 simp only[execOp,ho,he,convert,Sem.run_bind,Sem.run_pure,Result.andThen_ok,run_underlying hu,run_underlying hd,Conv.intToInt]
theorem A53 (ht:∀ x,Rep S w hp φ (ev tm x) (e x)) {x:Operand} (ho:o.op=.nilCheck x) (h:(match ev tm x with | .ptr id off=>K (.ptr id off) | .pte id i off=>K (.pte id i off) | .pts id v i off=>K (.pts id v i off) | .rptr el off=>K (.rptr el off) | .func f a b=>K (.func f a b) | _=>none)=some r):∃ v,K v=some r∧Gives P S w hp φ e o v:=by
 have hx:=ht x
 generalize ev tm x=av at *
 cases av<;>simp only at h<;>first | (cases h;done) | skip
 case ptr id off =>
  obtain⟨b,hb,he⟩:=hx.ptr_inv
  exact⟨_,h,e x,by simp only[execOp,ho,he,Sem.run_pure],hx⟩
 case pte id i off =>
  obtain⟨b,size,els,o0,hb,hob,he⟩:=hx.pte_inv
  exact⟨_,h,e x,by simp only[execOp,ho,he,Sem.run_pure],hx⟩
 case pts id v i off =>
  obtain⟨⟨b,o',he⟩,_⟩:=hx.pts_inv
  exact⟨_,h,e x,by simp only[execOp,ho,he,Sem.run_pure],hx⟩
 case rptr el off =>
  obtain⟨vs,b,ob,_,_,_,he⟩:=hx.rptr_inv
  exact⟨_,h,e x,by simp only[execOp,ho,he,Sem.run_pure],hx⟩
 case func f a b =>
  obtain⟨a',b',_,_,he⟩:=hx.func_inv
  exact⟨_,h,e x,by simp only[execOp,ho,he,Sem.run_pure],hx⟩
theorem Abk (ht:∀ x,Rep S w hp φ (ev tm x) (e x)) {t:TypeId} {x:Operand} {f:Nat} (ho:o.op=.field t x f) {p:Nat×TypeId} (hf:Oi P t f=some p) {cs:List AV} (hx:ev tm x=.agg cs) (h:sub cs p.1 (P.cellsOf p.2) (fun cs=>Iz (Ht P p.2) cs K)=some r):∃ v,K v=some r∧Gives P S w hp φ e o v:=by
 obtain⟨off,ft⟩:=p
 obtain⟨fs,fd,hu,hfd,h1,h2⟩:=A0j hf
 subst h1;subst h2
 have hxx:=ht x
 rw[hx] at hxx
 obtain⟨vs,hr,ho1,he⟩:=hxx.agg_inv
 obtain⟨hle,h⟩:=O6 h
 simp only at h hle
 have hlen:=hr.length
 cases hb:Ht P fd.type with
 | none=>rw[hb] at h;simp[Iz] at h
 | some b =>
  rw[hb] at h
  obtain⟨i,hi,hsz⟩:=Up hb
  have hra:=Tw (w:=w) hb
  cases b with
  | true =>
   refine⟨_,h,.agg ((vs.drop fd.offset).take (P.cellsOf fd.type)).toArray,?_,.agg _ _ _ _ ((hr.drop _).take _) fun v hv=>ho1 v (List.mem_of_mem_drop (List.mem_of_mem_take hv))⟩
   have hext:vs.toArray.extract fd.offset (fd.offset+i.size)=((vs.drop fd.offset).take (P.cellsOf fd.type)).toArray:=by
    rw[hsz];simp[List.extract_toArray,List.extract_eq_take_drop]
   simp only[execOp,ho,he,Instr.field,Sem.run_bind,Sem.run_pure,Result.andThen_ok,run_underlying hu,hfd,asAgg,part,hra,if_true,sizeOf,typeInfo,run_program,hi,hext]
  | false =>
   generalize hc:(cs.drop fd.offset).take (P.cellsOf fd.type)=c at h
   match c,h with
   | [a],h =>
    have h0:cs[fd.offset]?=some a:=by
     have:((cs.drop fd.offset).take (P.cellsOf fd.type))[0]?=some a:=by rw[hc];rfl
     rw[List.getElem?_take] at this
     split at this
     ·rwa [List.getElem?_drop] at this
     ·cases this
    obtain⟨u,hu0,hru⟩:=hr.get' h0
    refine⟨a,h,u,?_,hru⟩
    have hg:vs.toArray[fd.offset]?=some u:=by simpa using hu0
    simp only[execOp,ho,he,Instr.field,Sem.run_bind,Sem.run_pure,Result.andThen_ok,run_underlying hu,hfd,asAgg,part,hra,Bool.false_eq_true,if_false,hg]
theorem Abv (ht:∀ x,Rep S w hp φ (ev tm x) (e x)) {t:TypeId} {x y:Operand} (ho:o.op=.index t x y) {k:IntKind} {i:Int} (hy:ev tm y=.int k i) (hu:P.underlying t=some .string) {s:List UInt8} (hx:ev tm x=.str s) {b:UInt8} (h0:0≤i) (hb:nth? s i.toNat=some b):Gives P S w hp φ e o (.int .u8 b.toNat):=by
 have hxx:=ht x;have hyy:=ht y
 rw[hx] at hxx;rw[hy] at hyy
 obtain⟨he,_⟩:=hxx.str_inv
 obtain⟨he2,_⟩:=hyy.int_inv
 rw[nth?_eq] at hb
 have hg:(bs s)[i.toNat]?=some b:=by
  obtain⟨hlt,hv⟩:=List.getElem?_eq_some_iff.1 hb
  have h1:i.toNat < (bs s).size:=hlt
  rw[getElem?_pos (bs s) i.toNat h1]
  exact congrArg some hv
 refine⟨_,?_,.int _ _ _ _ (Apm b)⟩
 simp only[execOp,ho,he,he2,Instr.index,asIntOf,Sem.run_bind,Sem.run_pure,Result.andThen_ok,run_underlying hu,h0,if_true,hg]
theorem A5j (ht:∀ x,Rep S w hp φ (ev tm x) (e x)) {t:TypeId} {x y:Operand} (ho:o.op=.index t x y) {k:IntKind} {i:Int} (hy:ev tm y=.int k i) {n:Nat} {et:TypeId} (hu:P.underlying t=some (.array n et)) {cs:List AV} (hx:ev tm x=.agg cs) (h:R1 i (fun j=>sub cs (j*P.cellsOf et) (P.cellsOf et) fun cs=>Iz (Ht P et) cs K) n=some r):∃ v,K v=some r∧Gives P S w hp φ e o v:=by
 have hxx:=ht x;have hyy:=ht y
 rw[hx] at hxx;rw[hy] at hyy
 obtain⟨he2,_⟩:=hyy.int_inv
 obtain⟨vs,hr,ho1,he⟩:=hxx.agg_inv
 rw[U4] at h
 by_cases hq:(decide (0≤i)&&decide (i < (n:Int)))=false
 ·rw[hq] at h;cases h
 rw[Bool.not_eq_false] at hq
 rw[hq] at h
 simp only[A8,Ai] at hq
 simp only[As] at h
 obtain⟨hle,h⟩:=O6 h
 have hlen:=hr.length
 cases hb:Ht P et with
 | none=>rw[hb] at h;simp[Iz] at h
 | some b =>
  rw[hb] at h
  obtain⟨j,hi,hsz⟩:=Up hb
  have hra:=Tw (w:=w) hb
  cases b with
  | true =>
   refine⟨_,h,.agg ((vs.drop (i.toNat*P.cellsOf et)).take (P.cellsOf et)).toArray,?_,.agg _ _ _ _ ((hr.drop _).take _) fun v hv=>ho1 v (List.mem_of_mem_drop (List.mem_of_mem_take hv))⟩
   have hext:vs.toArray.extract (i.toNat*j.size) (i.toNat*j.size+j.size)=((vs.drop (i.toNat*P.cellsOf et)).take (P.cellsOf et)).toArray:=by
    rw[hsz];simp[List.extract_toArray,List.extract_eq_take_drop]
   simp only[execOp,ho,he,he2,asIntOf,Instr.index,Sem.run_bind,Sem.run_pure,Result.andThen_ok,run_underlying hu,hq.1,hq.2,and_self,part,hra,if_true,sizeOf,typeInfo,run_program,hi,hext]
  | false =>
   generalize hc:(cs.drop (i.toNat*P.cellsOf et)).take (P.cellsOf et)=c at h
   match c,h with
   | [a],h =>
    have h0:cs[i.toNat*P.cellsOf et]?=some a:=by
     have:((cs.drop (i.toNat*P.cellsOf et)).take (P.cellsOf et))[0]?=some a:=by rw[hc];rfl
     rw[List.getElem?_take] at this
     split at this
     ·rwa [List.getElem?_drop] at this
     ·cases this
    obtain⟨u,hu0,hru⟩:=hr.get' h0
    refine⟨a,h,u,?_,hru⟩
    rw[hsz] at hu0
    have hg:vs.toArray[i.toNat*j.size]?=some u:=by simpa using hu0
    simp only[execOp,ho,he,he2,asIntOf,Instr.index,Sem.run_bind,Sem.run_pure,Result.andThen_ok,run_underlying hu,hq.1,hq.2,and_self,part,hra,Bool.false_eq_true,if_false,if_true,sizeOf,typeInfo,run_program,hi,hg]
theorem Nk {n:Nat} {lo hi:Option Operand} {C:Nat→Nat→Option ρ} (ht:∀ x,Rep S w hp φ (ev tm x) (e x)) (h:Kp n (lo.map (ev tm)) (hi.map (ev tm)) C=some r) :
 ∃ l m:Nat,l≤m∧m≤n∧C l m=some r∧∀ (b:Bool) (cap:Nat),n≤cap→(Instr.sliceBounds b n cap (lo.map e) (hi.map e) none).run P w=.ok (l,m,cap) w:=by
 have num:∀ x k i,ev tm x=.int k i→e x=.int k i:=fun x k i hx=>by have:=ht x;rw[hx] at this;exact this.int_inv.1
 cases hi with
 | none =>
  cases lo with
  | none=>exact⟨0,n,Nat.zero_le _,Nat.le_refl _,h,fun b cap hc=>by simp[Instr.sliceBounds]⟩
  | some x =>
   simp only[Kp,Option.map_some,Option.map_none] at h
   cases hx:ev tm x<;>rw[hx] at h<;>simp only at h<;>first | (cases h;done) | skip
   rename_i k i
   have he:=num x k i hx
   by_cases hb:(decide (0≤i)&&decide (i≤n))=true
   ·rw[hb] at h
    simp only[A8,Ai] at hb
    refine⟨i.toNat,n,by omega,Nat.le_refl _,h,fun b cap hc=>?_⟩
    simp[Instr.sliceBounds,Instr.sliceBound,asIntOf,he,hb.1,hb.2]
   ·rw[Bool.not_eq_true] at hb;rw[hb] at h;cases h
 | some y =>
  cases lo with
  | none =>
   simp only[Kp,Option.map_some,Option.map_none] at h
   cases hy:ev tm y<;>rw[hy] at h<;>simp only at h<;>first | (cases h;done) | skip
   rename_i k i
   have he:=num y k i hy
   by_cases hb:(decide (0≤i)&&decide (i≤n))=true
   ·rw[hb] at h
    simp only[A8,Ai] at hb
    refine⟨0,i.toNat,by omega,by omega,h,fun b cap hc=>?_⟩
    have:i≤cap:=by omega
    simp[Instr.sliceBounds,Instr.sliceBound,asIntOf,he,hb.1,this]
   ·rw[Bool.not_eq_true] at hb;rw[hb] at h;cases h
  | some x =>
   simp only[Kp,Option.map_some] at h
   cases hy:ev tm y<;>rw[hy] at h<;>simp only at h<;>first | (cases h;done) | skip
   rename_i k i
   cases hx:ev tm x<;>rw[hx] at h<;>simp only at h<;>first | (cases h;done) | skip
   rename_i k2 j
   have he:=num y k i hy
   have he2:=num x k2 j hx
   by_cases hb:(((decide (0≤i)&&decide (i≤n))&&decide (0≤j))&&decide (j≤i))=true
   ·rw[hb] at h
    simp only[A8,Ai] at hb
    obtain⟨⟨⟨h1,h2⟩,h3⟩,h4⟩:=hb
    refine⟨j.toNat,i.toNat,by omega,by omega,h,fun b cap hc=>?_⟩
    have h5:i≤cap:=by omega
    have h6:j≤max i 0:=by omega
    simp[Instr.sliceBounds,Instr.sliceBound,asIntOf,he,he2,h1,h5,h3,h6]
   ·rw[Bool.not_eq_true] at hb;rw[hb] at h;cases h
theorem Aa1 (ht:∀ x,Rep S w hp φ (ev tm x) (e x)) {t:TypeId} {x:Operand} {lo hi:Option Operand} (ho:o.op=.slice t x lo hi none) (hu:P.underlying t=some .string) {s:List UInt8} (hx:ev tm x=.str s) (h:Kp s.length (lo.map (ev tm)) (hi.map (ev tm)) (fun l h=>K (.str ((s.take h).drop l)))=some r):∃ v,K v=some r∧Gives P S w hp φ e o v:=by
 have hxx:=ht x
 rw[hx] at hxx
 obtain⟨he,hs⟩:=hxx.str_inv
 obtain⟨l,m,h1,h2,h3,h4⟩:=Nk (P:=P) ht h
 have h5:=h4 false s.length (Nat.le_refl _)
 have hsz:(bs s).size=s.length:=rfl
 refine⟨_,h3,.string (bs ((s.take m).drop l)),?_,.str _ _ _ (by rw[List.length_drop,List.length_take];omega)⟩
 have hext:(bs s).extract l m=bs ((s.take m).drop l):=by
  apply ByteArray.ext
  rw[ByteArray.data_extract]
  simp[bs,List.extract_toArray,List.extract_eq_take_drop,List.drop_take]
 simp only[execOp,ho,he,Instr.sliceAt,Instr.slice,Sem.run_bind,Sem.run_pure,Result.andThen_ok,run_underlying hu,Option.map_none,Option.isSome_none,Bool.false_eq_true,if_false,hsz,h5,hext]
theorem Aee {base:Nat} (hs:Sim P base S w hp φ) (ht:∀ x,Rep S w hp φ (ev tm x) (e x)) {t et:TypeId} {x:Operand} {lo hi:Option Operand} (ho:o.op=.slice t x lo hi none) (hu:P.underlying t=some (.slice et)) (hz:0 < P.cellsOf et) (h:Rf hp (ev tm x) (P.cellsOf et) (lo.map (ev tm)) (hi.map (ev tm)) K=some r):∃ v,K v=some r∧Gives P S w hp φ e o v:=by
 have hx:=ht x
 have hsz:=L0 (w:=w) hz
 have fin:∀ (a:Option Addr) (n cap l m:Nat) (v:AV),e x=.slice a n cap→(Instr.sliceBounds true n cap (lo.map e) (hi.map e) none).run P w=.ok (l,m,cap) w→K v=some r→Rep S w hp φ v (.slice (if cap=l then a else a.map (·.add (l*P.cellsOf et))) (m - l) (cap - l))→∃ v,K v=some r∧Gives P S w hp φ e o v:=by
  intro a n cap l m v he hb hK hv
  refine⟨v,hK,_,?_,hv⟩
  simp only[execOp,ho,he,Instr.sliceAt,Instr.slice,Sem.run_bind,Sem.run_pure,Result.andThen_ok,run_underlying hu,Option.map_none,hb,hsz]
 have fin2:∀ (els:List (List AV)) (vss:List (List Value)) (a:Option Addr) (cap l m:Nat),Repss S w els vss→Laid S w a (P.cellsOf et) vss→Cap a els.length cap→l≤m→m≤els.length→Rep S w hp φ (.sl (P.cellsOf et) ((els.take m).drop l)) (.slice (if cap=l then a else a.map (·.add (l*P.cellsOf et))) (m - l) (cap - l)):=by
  intro els vss a cap l m hr hl hc h1 h2
  have hlen:=hr.length
  have hn:((els.take m).drop l).length=m - l:=by rw[List.length_drop,List.length_take];omega
  have:=Rep.sl (S:=S) (w:=w) hp φ (P.cellsOf et) ((els.take m).drop l) ((vss.take m).drop l) (if cap=l then a else a.map (·.add (l*P.cellsOf et))) (cap - l) ((hr.take m).drop l) ?_ ?_
  ·rw[hn] at this;exact this
  ·refine⟨fun vs hv=>hl.1 vs (List.mem_of_mem_take (List.mem_of_mem_drop hv)),fun j vs t u hj ht'=>?_⟩
   rw[List.getElem?_drop,List.getElem?_take] at hj
   split at hj
   ·rename_i hlt
    obtain⟨b,o',e1,e2,e3⟩:=hl.2 _ _ _ _ hj ht'
    have hjl:=(List.getElem?_eq_some_iff.1 hj).1
    have hne:cap≠l:=by have:=hc.1;omega
    refine⟨b,o'+l*P.cellsOf et,?_,?_,?_⟩
    ·rw[if_neg hne,e1];simp[Em]
    ·rw[show o'+l*P.cellsOf et+j*P.cellsOf et+t=o'+(l+j)*P.cellsOf et+t by rw[Nat.add_mul];omega];exact e2
    ·rw[show o'+l*P.cellsOf et+j*P.cellsOf et+t=o'+(l+j)*P.cellsOf et+t by rw[Nat.add_mul];omega];exact e3
   ·cases hj
  ·obtain⟨c1,c2,c3⟩:=hc
   refine⟨by rw[hn];omega,by omega,fun ha=>?_⟩
   split at ha
   ·omega
   ·cases a with
    | none=>have:=c3 rfl;omega
    | some a=>simp at ha
 generalize ev tm x=av at *
 unfold Rf at h
 cases av<;>simp only at h<;>first | (cases h;done) | skip
 case sl size els =>
  obtain⟨vss,a,cap,hr,hl,hc,he⟩:=hx.sl_inv
  split at h
  ·rename_i hq
   have hq:=of_decide_eq_true hq
   subst hq
   obtain⟨l,m,h1,h2,h3,h4⟩:=Nk (P:=P) ht h
   exact fin _ _ _ l m _ he (h4 true cap hc.1) h3 (fin2 els vss a cap l m hr hl hc h1 h2)
  ·cases h
 case row id n =>
  obtain⟨et',size,els,ho',hn,hs',hcur⟩:=hx.row_inv
  obtain⟨vss,a,cap,hr,hl,hc,he⟩:=hs'.sl_inv
  rw[ho'] at h
  simp only at h
  split at h
  ·rename_i hq
   have hq:=of_decide_eq_true hq
   subst hq
   have hlen:(els.take n).length=n:=by rw[List.length_take];omega
   obtain⟨l,m,h1,h2,h3,h4⟩:=Nk (P:=P) ht h
   rw[hlen] at he hc
   exact fin _ _ _ l m _ he (h4 true cap hc.1) h3 (fin2 (els.take n) vss a cap l m hr hl (by rw[hlen];exact hc) h1 (by rw[hlen];exact h2))
  ·cases h
 case own id off n =>
  obtain⟨b,size,els,cap,ad,o0,hb,hob,hn,had,hc,he⟩:=hx.own_inv
  rw[hob] at h
  simp only at h
  split at h
  ·rename_i hq
   have hq:=of_decide_eq_true hq
   subst hq
   obtain⟨l,m,h1,h2,h3,h4⟩:=Nk (P:=P) ht h
   refine fin _ _ _ l m _ he (h4 true cap hc.1) h3 (.own _ _ id (off+l) (m - l) b _ els _ o0 hb hob (by omega) _ ?_ ?_)
   ·intro hlt
    have hne:cap≠l:=by have:=hc.1;omega
    rw[if_neg hne,had (by omega)]
    simp[Em,Nat.add_mul,Nat.add_assoc]
   ·obtain⟨c1,c2,c3⟩:=hc
    refine⟨by omega,by omega,fun ha=>?_⟩
    split at ha
    ·omega
    ·cases ad with
     | none=>have:=c3 rfl;omega
     | some a=>simp at ha
  ·cases h
 case stk id ver n =>
  have hst:=hx.stk_inv
  obtain⟨⟨a,cap,hex,hc⟩,ver',e',size,els,hob,hle,_⟩:=hx.stk_inv
  rw[hob] at h
  simp only at h
  split at h
  ·rename_i hq
   simp only[A8,Ai] at hq
   obtain⟨hv,hq⟩:=hq
   subst hv;subst hq
   cases lo with
   | some y=>simp only[Option.map_some] at h;cases h
   | none =>
    simp only[Option.map_none] at h
    obtain⟨l,m,h1,h2,h3,h4⟩:=Nk (P:=P) (lo:=none) ht h
    cases l with
    | succ l=>cases h3
    | zero =>
     simp only at h3
     obtain⟨hn,v0,vss,c1,c2,c3,c4,c5,c6,c7,c8,c9⟩:=Pq hs hst hob
     have key:a=none∨∃ g,a=some ⟨g,0,none⟩:=by
      rcases c3.2 with ⟨hv,h0⟩ | ⟨g,cap',cur,hv,_⟩
      ·rw[hv,hex] at c2;simp only[Ud,Value.slice.injEq] at c2;exact .inl c2.1
      ·rw[hv,hex] at c2;simp only[Ud,Value.slice.injEq] at c2;exact .inr ⟨g,c2.1⟩
     have hae:(if cap=0 then a else a.map (·.add (0*P.cellsOf et)))=a:=by
      split
      ·rfl
      ·rcases key with rfl | ⟨g,rfl⟩
       ·rfl
       ·simp[Em]
     refine fin a n cap 0 m _ hex (h4 true cap hc.1) h3 ?_
     rw[hae,Nat.sub_zero,Nat.sub_zero]
     refine .stk _ _ _ _ _ _ ⟨⟨a,cap,rfl,⟨by have:=hc.1;omega,hc.2.1,hc.2.2⟩⟩,_,e',_,els,hob,Nat.le_refl _,fun _=>⟨by omega,v0,c1,?_⟩⟩
     rcases c3.2 with ⟨hv,h0⟩ | ⟨g,cap',cur,hv,_⟩
     ·rw[hv,hex] at c2;rw[hv];simp only[Ud,Value.slice.injEq] at c2 ⊢;exact⟨c2.1,trivial,c2.2.2⟩
     ·rw[hv,hex] at c2;rw[hv];simp only[Ud,Value.slice.injEq] at c2 ⊢;exact⟨c2.1,trivial,c2.2.2⟩
  ·cases h
end
theorem A6k (off:Nat):∀ (l:List Value) (j0:Nat) (cells:Array Value),off+j0+l.length≤cells.size →
 (l.zipIdx j0).foldl (fun(cs:Array Value) x=>cs.setIfInBounds (off+x.2) x.1) cells=(cells.toList.take (off+j0)++l++cells.toList.drop (off+j0+l.length)).toArray
 | [],j0,cells,_=>by simp
 | v :: l,j0,cells,h=>by
  simp only[List.length_cons] at h
  rw[List.zipIdx_cons,List.foldl_cons,A6k off l (j0+1) _ (by simp;omega)]
  congr 1
  simp only[Array.toList_setIfInBounds]
  have h1:off+j0 < cells.toList.length:=by simp;omega
  rw[show off+(j0+1)=off+j0+1 by omega,List.take_add_one,List.getElem?_set_self h1,List.take_set_of_le (Nat.le_refl _),List.drop_set_of_lt (by omega)]
  simp only[Option.toList_some,List.append_assoc,List.cons_append,List.nil_append,List.length_cons]
  rw[show off+j0+1+l.length=off+j0+(l.length+1) by omega]
theorem Wo (off:Nat) (v cells:Array Value) (h:off+v.size≤cells.size) :
 v.zipIdx.foldl (fun(cs:Array Value) (x:Value×Nat)=>cs.setIfInBounds (off+x.2) x.1) cells=(cells.toList.take off++v.toList++cells.toList.drop (off+v.size)).toArray:=by
 rw[← Array.foldl_toList,Array.toList_zipIdx]
 have:=A6k off v.toList 0 cells (by simpa using h)
 simpa using this
section
variable {S:Nat→Nat→Prop} {w:World} {hp:Hp} {φ:List Pl} {P:Program} {e:Operand→Value} {o:Oper} {tm:Tm} {ρ:Type} {r:ρ} {K:AV→Option ρ}
theorem Rep.cells_rep {a:AV} {v:Value} (h:Rep S w hp φ a v) (h1:a.cells.all AV.one=true):Reps S w hp φ a.cells v.cells.toList:=by
 by_cases ha:∃ cs,a=.agg cs
 ·obtain⟨cs,rfl⟩:=ha
  obtain⟨vs,hr,_,rfl⟩:=h.agg_inv
  simpa [AV.cells,Value.cells] using hr
 ·have e1:a.cells=[a]:=by cases a<;>first | rfl | exact absurd ⟨_,rfl⟩ ha
  rw[e1] at h1 ⊢
  have h2:a.one=true:=by simpa using h1
  have h3:=h.oneCell h2
  have e2:v.cells.toList=[v]:=by cases v<;>first | rfl | (simp[Value.oneCell'] at h3)
  rw[e2]
  exact .cons _ _ _ _ _ _ h (.nil _ _)
theorem Rep.cells_ones {a:AV} {v:Value} (h:Rep S w hp φ a v) (h1:a.cells.all AV.one=true):E5 v.cells.toList:=(h.cells_rep h1).ones h1
theorem A0b (ht:∀ x,Rep S w hp φ (ev tm x) (e x)) {t:TypeId} {fs:Array Field} (hu:P.underlying t=some (.struct fs)) {places:Array (Nat×Nat)} (hpl:∀ (i:Nat) (fd:Field),fs[i]?=some fd→places[i]?=some (fd.offset,P.cellsOf fd.type)) :
 ∀ (ps:List (Nat×Operand)) (cs cs':List AV) (vs:List Value),Reps S w hp φ cs vs→E5 vs→Rs P t tm cs ps=some cs' →
   ∃ vs',Instr.fill (places[·]?) vs.toArray (ps.map fun x=>(x.1,e x.2))=some vs'.toArray∧Reps S w hp φ cs' vs'∧E5 vs'
 | [],cs,cs',vs,hr,h1,h=>by
  simp only[Rs,Option.some.injEq] at h
  subst h
  exact⟨vs,rfl,hr,h1⟩
 | (i,x) :: rest,cs,cs',vs,hr,h1,h=>by
  simp only[Rs] at h
  cases hf:Oi P t i with
  | none=>rw[hf] at h;cases h
  | some p =>
   obtain⟨off,ft⟩:=p
   rw[hf] at h
   simp only at h
   split at h
   ·rename_i hc
    simp only[A8,Ai] at hc
    obtain⟨⟨hc1,hc2⟩,hc3⟩:=hc
    obtain⟨fs',fd,hu',hfd,e1,e2⟩:=A0j hf
    rw[hu] at hu';cases hu'
    subst e1;subst e2
    have hx:=ht x
    have hcr:=hx.cells_rep hc1
    have hlen:=hcr.length
    have hlen2:=hr.length
    have hsz:(e x).cells.size=P.cellsOf fd.type:=by rw[← hc3,hlen];simp
    have hlen':(ev tm x).cells.length=(e x).cells.size:=by rw[hlen];simp
    obtain⟨vs',g1,g2,g3⟩:=A0b ht hu hpl rest _ cs' (vs.take fd.offset++((e x).cells.toList++vs.drop (fd.offset+(e x).cells.size))) ((hr.take _).append (hcr.append (by rw[← hlen'];exact hr.drop _)))
     (by
      intro v hv
      rcases List.mem_append.1 hv with hv | hv
      ·exact h1 v (List.mem_of_mem_take hv)
      ·rcases List.mem_append.1 hv with hv | hv
       ·exact hx.cells_ones hc1 v hv
       ·exact h1 v (List.mem_of_mem_drop hv)) h
    refine⟨vs',?_,g2,g3⟩
    have hb:(decide ((e x).cells.size≠P.cellsOf fd.type) || decide (fd.offset+(e x).cells.size > vs.toArray.size))=false:=by
     simp only[List.size_toArray,Bool.or_eq_false_iff,decide_eq_false_iff_not];omega
    simp only[List.map_cons,Instr.fill,hpl i fd hfd,hb,Bool.false_eq_true,if_false]
    rw[Wo _ _ _ (by simp only[List.size_toArray];omega)]
    rw[← g1]
    simp[List.append_assoc]
   ·cases h
theorem Aia {fs:List Field} (h:fs.all (fun f=>(P.info? f.type).isSome)=true):∃ places,fs.mapM (fun f=>(P.info? f.type).map fun i=>(f.offset,i.size))=some places∧∀ (i:Nat) (fd:Field),fs[i]?=some fd→places[i]?=some (fd.offset,P.cellsOf fd.type):=by
 induction fs with
 | nil=>exact⟨[],by simp,fun i fd h=>by simp at h⟩
 | cons f fs ih =>
  simp only[List.all_cons,A8] at h
  obtain⟨pl,h1,h2⟩:=ih h.2
  obtain⟨i,hi⟩:=Option.isSome_iff_exists.1 h.1
  refine⟨(f.offset,i.size) :: pl,by simp[List.mapM_cons,hi,h1],fun k fd hk=>?_⟩
  cases k with
  | zero=>simp at hk;subst hk;simp[Program.cellsOf,hi]
  | succ k=>simpa using h2 k fd (by simpa using hk)
theorem Ms {t:TypeId} {z:AV} (h:zero P t=some z):∃ i v,P.info? t=some i∧i.zero=some v∧z=lit v:=by
 unfold zero at h
 cases hi:P.info? t with
 | none=>rw[hi] at h;cases h
 | some i =>
  rw[hi] at h
  simp only at h
  cases hz:i.zero with
  | none=>rw[hz] at h;cases h
  | some v=>rw[hz] at h;cases h;exact⟨i,v,rfl,hz,rfl⟩
theorem Ab7 (ht:∀ x,Rep S w hp φ (ev tm x) (e x)) {t:TypeId} {ps:Array (Nat×Operand)} (ho:o.op=.build t ps) {fs:Array Field} (hu:P.underlying t=some (.struct fs)) (hall:fs.toList.all (fun f=>(P.info? f.type).isSome)=true)
 {z cs:List AV} (hz:zero P t=some (.agg z)) (h:Rs P t tm z ps.toList=some cs):Gives P S w hp φ e o (.agg cs):=by
 obtain⟨places,hp1,hp2⟩:=Aia hall
 obtain⟨i,v,hi,hzv,hlit⟩:=Ms hz
 have hrep:Rep S w hp φ (.agg z) v:=by rw[hlit];exact Oj v
 obtain⟨vs,hr,h1,rfl⟩:=hrep.agg_inv
 obtain⟨vs',g1,g2,g3⟩:=A0b ht hu (places:=places.toArray) (by simpa using hp2) ps.toList z cs vs hr h1 h
 have hb:P.built t (ps.map fun x=>(x.1,e x.2)).toList=some vs'.toArray:=by
  simp only[Program.built,hi,hu,hzv,hp1,Array.toList_map,Value.cells]
  exact g1
 refine⟨_,?_,.agg _ _ _ _ g2 g3⟩
 have:=run_build (P:=P) w t (ps.map fun x=>(x.1,e x.2)) vs'.toArray hb
 simp only[execOp,ho,Sem.run_bind,Sem.run_pure,Result.andThen_ok,this]
theorem Xq (ht:∀ x,Rep S w hp φ (ev tm x) (e x)) {sz:Nat}:∀ (ps:List (Nat×Operand)) (cs cs':List AV) (vs:List Value),Reps S w hp φ cs vs→E5 vs→Qr sz tm cs ps=some cs'→∃ vs',Instr.fill (fun i=>some (i*sz,sz)) vs.toArray (ps.map fun x=>(x.1,e x.2))=some vs'.toArray∧Reps S w hp φ cs' vs'∧E5 vs'
 | [],cs,cs',vs,hr,h1,h=>by cases h;exact⟨vs,rfl,hr,h1⟩
 | (i,x) :: rest,cs,cs',vs,hr,h1,h=>by
  simp only[Qr] at h
  split at h
  ·rename_i hc
   simp only[A8,Ai] at hc
   obtain⟨⟨hc1,hc2⟩,hc3⟩:=hc
   have hx:=ht x
   have hcr:=hx.cells_rep hc1
   have hlen:=hcr.length
   have hlen2:=hr.length
   have hsz:(e x).cells.size=sz:=by rw[← hc3,hlen];simp
   have hlen':(ev tm x).cells.length=(e x).cells.size:=by rw[hlen];simp
   obtain⟨vs',g1,g2,g3⟩:=Xq ht rest _ cs' (vs.take (i*sz)++((e x).cells.toList++vs.drop (i*sz+(e x).cells.size))) ((hr.take _).append (hcr.append (by rw[← hlen'];exact hr.drop _)))
    (by
     intro v hv
     rcases List.mem_append.1 hv with hv | hv
     ·exact h1 v (List.mem_of_mem_take hv)
     ·rcases List.mem_append.1 hv with hv | hv
      ·exact hx.cells_ones hc1 v hv
      ·exact h1 v (List.mem_of_mem_drop hv)) h
   refine⟨vs',?_,g2,g3⟩
   have hb:(decide ((e x).cells.size≠sz) || decide (i*sz+(e x).cells.size > vs.toArray.size))=false:=by
    simp only[List.size_toArray,Bool.or_eq_false_iff,decide_eq_false_iff_not];omega
   simp only[List.map_cons,Instr.fill,hb,Bool.false_eq_true,if_false]
   rw[Wo _ _ _ (by simp only[List.size_toArray];omega)]
   rw[← g1]
   simp[List.append_assoc]
  ·cases h
theorem A7x (ht:∀ x,Rep S w hp φ (ev tm x) (e x)) {t et:TypeId} {n:Nat} {ps:Array (Nat×Operand)} (ho:o.op=.build t ps) (hu:P.underlying t=some (.array n et)) (hall:(P.info? et).isSome=true)
 {z cs:List AV} (hz:zero P t=some (.agg z)) (h:Qr (P.cellsOf et) tm z ps.toList=some cs):Gives P S w hp φ e o (.agg cs):=by
 obtain⟨ie,hie⟩:=Option.isSome_iff_exists.1 hall
 obtain⟨i,v,hi,hzv,hlit⟩:=Ms hz
 have hrep:Rep S w hp φ (.agg z) v:=by rw[hlit];exact Oj v
 obtain⟨vs,hr,h1,rfl⟩:=hrep.agg_inv
 have hsz:P.cellsOf et=ie.size:=by simp[Program.cellsOf,hie]
 obtain⟨vs',g1,g2,g3⟩:=Xq ht ps.toList z cs vs hr h1 h
 have hb:P.built t (ps.map fun x=>(x.1,e x.2)).toList=some vs'.toArray:=by
  simp only[Program.built,hi,hu,hzv,hie,Array.toList_map,Value.cells,← hsz]
  exact g1
 refine⟨_,?_,.agg _ _ _ _ g2 g3⟩
 have:=run_build (P:=P) w t (ps.map fun x=>(x.1,e x.2)) vs'.toArray hb
 simp only[execOp,ho,Sem.run_bind,Sem.run_pure,Result.andThen_ok,this]
theorem A4q (ht:∀ x,Rep S w hp φ (ev tm x) (e x)) {f:FuncId} {a b:Array Operand} (ho:o.op=.makeFunc (.func f) a b):Gives P S w hp φ e o (.func f (a.toList.map (ev tm)) (b.toList.map (ev tm))):=by
 have hl:∀ l:List Operand,Reps S w hp φ (l.map (ev tm)) (l.map e):=by
  intro l
  induction l with
  | nil=>exact .nil _ _
  | cons x l ih=>exact .cons _ _ _ _ _ _ (ht x) ih
 refine⟨_,?_,.func _ _ f _ _ _ _ (hl a.toList) (hl b.toList)⟩
 have e1:(a.toList.map e).toArray=a.map e:=by apply Array.ext';rw[Array.toList_map]
 have e2:(b.toList.map e).toArray=b.map e:=by apply Array.ext';rw[Array.toList_map]
 simp only[execOp,ho,Instr.makeFunc,Sem.run_bind,Sem.run_pure,Result.andThen_ok,e1,e2]
theorem Aj7 (ht:∀ x,Rep S w hp φ (ev tm x) (e x)) {x y:Operand} {ts:Array TypeId} (ho:o.op=.call { callee:=.builtin .min,args:=#[x,y],argTypes:=ts }) {k k':IntKind} {a b:Int} (hx:ev tm x=.int k a) (hy:ev tm y=.int k' b) (hk:k=k'):Gives P S w hp φ e o (.int k (if b < a then b else a)):=by
 subst hk
 have h1:=ht x;have h2:=ht y
 rw[hx] at h1;rw[hy] at h2
 obtain⟨e1,w1⟩:=h1.int_inv;obtain⟨e2,w2⟩:=h2.int_inv
 refine⟨.int k (if b < a then b else a),?_,.int _ _ _ _ (by split<;>assumption)⟩
 simp[execOp,ho,resolve,invoke,builtin,Builtin.min_,Builtin.min2,e1,e2]
theorem Agr (ht:∀ x,Rep S w hp φ (ev tm x) (e x)) {x y:Operand} {ts:Array TypeId} (ho:o.op=.call { callee:=.builtin .max,args:=#[x,y],argTypes:=ts }) {k k':IntKind} {a b:Int} (hx:ev tm x=.int k a) (hy:ev tm y=.int k' b) (hk:k=k'):Gives P S w hp φ e o (.int k (if a < b then b else a)):=by
 subst hk
 have h1:=ht x;have h2:=ht y
 rw[hx] at h1;rw[hy] at h2
 obtain⟨e1,w1⟩:=h1.int_inv;obtain⟨e2,w2⟩:=h2.int_inv
 refine⟨.int k (if a < b then b else a),?_,.int _ _ _ _ (by split<;>assumption)⟩
 simp[execOp,ho,resolve,invoke,builtin,Builtin.max_,Builtin.max2,e1,e2]
theorem Afu (ht:∀ x,Rep S w hp φ (ev tm x) (e x)) {x y z:Operand} {ts:Array TypeId} (ho:o.op=.call { callee:=.builtin .min,args:=#[x,y,z],argTypes:=ts }) {k k' k2:IntKind} {a b c:Int} (hx:ev tm x=.int k a) (hy:ev tm y=.int k' b) (hz:ev tm z=.int k2 c) (hk:k=k') (hk2:k=k2):Gives P S w hp φ e o (.int k (Aa5 a b c)):=by
 subst hk hk2
 have h1:=ht x;have h2:=ht y;have h3:=ht z
 rw[hx] at h1;rw[hy] at h2;rw[hz] at h3
 obtain⟨e1,w1⟩:=h1.int_inv;obtain⟨e2,w2⟩:=h2.int_inv;obtain⟨e3,w3⟩:=h3.int_inv
 refine⟨.int k (Aa5 a b c),?_,.int _ _ _ _ (by unfold Aa5;by_cases hab:b < a<;>simp only[hab,if_true,if_false]<;>split<;>assumption)⟩
 simp[execOp,ho,resolve,invoke,builtin,Builtin.min_,Builtin.min2,e1,e2,e3,Aa5,List.foldlM,Sem.run_bind,Sem.run_pure,Result.andThen_ok]
theorem Afn (ht:∀ x,Rep S w hp φ (ev tm x) (e x)) {x y z:Operand} {ts:Array TypeId} (ho:o.op=.call { callee:=.builtin .max,args:=#[x,y,z],argTypes:=ts }) {k k' k2:IntKind} {a b c:Int} (hx:ev tm x=.int k a) (hy:ev tm y=.int k' b) (hz:ev tm z=.int k2 c) (hk:k=k') (hk2:k=k2):Gives P S w hp φ e o (.int k (Aal a b c)):=by
 subst hk hk2
 have h1:=ht x;have h2:=ht y;have h3:=ht z
 rw[hx] at h1;rw[hy] at h2;rw[hz] at h3
 obtain⟨e1,w1⟩:=h1.int_inv;obtain⟨e2,w2⟩:=h2.int_inv;obtain⟨e3,w3⟩:=h3.int_inv
 refine⟨.int k (Aal a b c),?_,.int _ _ _ _ (by unfold Aal;by_cases hab:a < b<;>simp only[hab,if_true,if_false]<;>split<;>assumption)⟩
 simp[execOp,ho,resolve,invoke,builtin,Builtin.max_,Builtin.max2,e1,e2,e3,Aal,List.foldlM,Sem.run_bind,Sem.run_pure,Result.andThen_ok]
end
theorem A67 {w w':World} {base:Nat} {e:TypeId} {size:Nat} {v:Value} {n:Nat} {xs:List Value} (h:w.ownsRow base e size v n xs) (hb:∀ b,v.ownBlock=some b→w'.heap[b]?=w.heap[b]?):w'.ownsRow base e size v n xs:=by
 refine⟨h.1,?_⟩
 rcases h.2 with hn | ⟨g,cap,cur,rfl,hbg,hgg,rest⟩
 ·exact .inl hn
 ·exact .inr ⟨g,cap,cur,rfl,hbg,by rw[hb g rfl];exact hgg,rest⟩
section
variable {P:Program} {base:Nat} {S S':Nat→Nat→Prop} {w w':World} {hp hp':Hp} {φ φ':List Pl}
theorem ObOk.keep {id:Nat} {o:Ob} (h:ObOk P base S w hp φ id o) (hS:SExt S w S' w') (hE:HpExt hp φ hp' φ') (hφ:φ'[id]?=φ[id]?) (hb:∀ b,Af φ id=some b→w'.heap[b]?=w.heap[b]?∧∀ o,S' b o↔S b o):ObOk P base S' w' hp' φ' id o:=by
 cases o with
 | var t cs =>
  obtain⟨b,vs,E,h1,h2,h3,h4,h5,h6⟩:=h
  have hat:Af φ id=some b:=by simp[Af,h1]
  exact⟨b,vs,E,hφ.trans h1,h2,h3.imp fun ex h3=>(hb b hat).1.trans h3,Reps.mono hS h4 hE,h5,fun o ho=>h6 o (((hb b hat).2 o).1 ho)⟩
 | arr size els =>
  obtain⟨b,vss,ex,E,pre,h1,h2,h3,h4,h5,h6⟩:=h
  have hat:Af φ id=some b:=by simp[Af,h1]
  exact⟨b,vss,ex,E,pre,hφ.trans h1,h2,(hb b hat).1.trans h3,Repss.mono hS h4,h5,fun o ho=>h6 o (((hb b hat).2 o).1 ho)⟩
 | row e size els =>
  obtain⟨v,vss,h1,h2,h3,h4,h5,h6,h7⟩:=h
  have hat:∀ b,v.ownBlock=some b→Af φ id=some b:=fun b hb=>by simp[Af,h1,hb]
  exact⟨v,vss,hφ.trans h1,A67 h2 fun b hv=>(hb b (hat b hv)).1,Repss.mono hS h3,h4,h5,h6,fun g hg o=>((hb g (hat g hg)).2 o).trans (h7 g hg o)⟩
 | stk ver e size els =>
  obtain⟨v,vss,h1,h2,h3,h4,h5,h6,h7⟩:=h
  have hat:∀ b,v.ownBlock=some b→Af φ id=some b:=fun b hb=>by simp[Af,h1,hb]
  exact⟨v,vss,hφ.trans h1,A67 h2 fun b hv=>(hb b (hat b hv)).1,Repss.mono hS h3,h4,h5,h6,fun g hg o ho=>h7 g hg o (((hb g (hat g hg)).2 o).1 ho)⟩
 | mp kd frz els =>
  obtain⟨b,vss,es,h1,h2,h3,h4,h5,h6⟩:=h
  have hat:Af φ id=some b:=by simp[Af,h1]
  exact⟨b,vss,es,hφ.trans h1,h2,(hb b hat).1.trans h3,Repss.mono hS h4,h5,fun o=>((hb b hat).2 o).trans (h6 o)⟩
 | mpo kd els =>
  obtain⟨b,vss,es,h1,h2,h3,h4,h5,h6⟩:=h
  have hat:Af φ id=some b:=by simp[Af,h1]
  exact⟨b,vss,es,hφ.trans h1,h2,(hb b hat).1.trans h3,Ropen.mono hS h4 hE,h5,fun o ho=>h6 o (((hb b hat).2 o).1 ho)⟩
theorem A8j {w:World} {base base':Nat} {e:TypeId} {size:Nat} {v:Value} {n:Nat} {xs:List Value} (h:w.ownsRow base e size v n xs) (hb:base'≤base):w.ownsRow base' e size v n xs:=by
 refine⟨h.1,?_⟩
 rcases h.2 with hn | ⟨g,cap,cur,rfl,hbg,rest⟩
 ·exact .inl hn
 ·exact .inr ⟨g,cap,cur,rfl,Nat.le_trans hb hbg,rest⟩
theorem nth?_lt {α:Type} {l:List α} {i:Nat} {a:α} (h:l[i]?=some a):i < l.length:=(List.getElem?_eq_some_iff.1 h).1
theorem Sim.block_lt (hs:Sim P base S w hp φ) {id b:Nat} (h:Af φ id=some b):base≤b∧b < w.heap.size:=by
 have hid:id < φ.length:=by
  unfold Af at h
  rcases Nat.lt_or_ge id φ.length with h' | h'
  ·exact h'
  ·rw[List.getElem?_eq_none h'] at h;cases h
 obtain⟨o,ho⟩:∃ o,hp[id]?=some o:=⟨_,A6 (by rw[← hs.len];exact hid)⟩
 have hob:=hs.obj id o ho
 cases o with
 | var t cs =>
  obtain⟨b',vs,E,h1,h2,⟨ex,h3⟩,_⟩:=hob
  simp[Af,h1] at h;subst h
  exact⟨h2,(Array.getElem?_eq_some_iff.1 h3).1⟩
 | arr size els =>
  obtain⟨b',vs,ex,E,pre,h1,h2,h3,_⟩:=hob
  simp[Af,h1] at h;subst h
  exact⟨h2,(Array.getElem?_eq_some_iff.1 h3).1⟩
 | row e size els =>
  obtain⟨v,vss,h1,h2,_⟩:=hob
  simp[Af,h1] at h
  exact h2.lt b h
 | stk ver e size els =>
  obtain⟨v,vss,h1,h2,_⟩:=hob
  simp[Af,h1] at h
  exact h2.lt b h
 | mp kd frz els =>
  obtain⟨b',vss,es,h1,h2,h3,_⟩:=hob
  simp[Af,h1] at h;subst h
  exact⟨h2,(Array.getElem?_eq_some_iff.1 h3).1⟩
 | mpo kd els =>
  obtain⟨b',vss,es,h1,h2,h3,_⟩:=hob
  simp[Af,h1] at h;subst h
  exact⟨h2,(Array.getElem?_eq_some_iff.1 h3).1⟩
theorem Sim.keep (hs:Sim P base S w hp φ) (hS:SExt S w S' w') (hsz:w.heap.size≤w'.heap.size) (hc:∀ b o,S' b o→∃ v,stay w' b o=some v∧(base≤b→v.2.2=(0,0))) (hb:∀ id b,Af φ id=some b→w'.heap[b]?=w.heap[b]?∧∀ o,S' b o↔S b o):Sim P base S' w' hp φ :=
 ⟨hs.len,Nat.le_trans hs.low hsz,hc,fun id o ho=>(hs.obj id o ho).keep hS (.refl _ _) rfl (hb id),hs.apart⟩
def Vh (S:Nat→Nat→Prop) (g n:Nat):Nat→Nat→Prop:=fun b o=>S b o∨(b=g∧o < n)
theorem Dv (w:World) (ob:Obj) {b o:Nat} (h:b < w.heap.size):stay (w.alloc ob) b o=stay w b o:=Id (Below.heap_alloc w ob b h) o
theorem Sim.drew (hs:Sim P base S w hp φ):Sim P base S w.drew hp φ:=hs.keep (w':=w.drew) (fun b o h=>⟨h,rfl⟩) (Nat.le_refl _) hs.cell fun _ _ _=>⟨rfl,fun _=>.rfl⟩
theorem Hz {b:Nat} (h:¬ N8 w φ b):b < w.heap.size∧∀ i,Af φ i≠some b:=⟨Nat.lt_of_not_le fun h1=>h (.inr h1),fun i h1=>h (.inl ⟨i,h1⟩)⟩
theorem Pf (ob:Obj):∀ b,¬ N8 w φ b→(w.alloc ob).heap[b]?=w.heap[b]?:=fun b h=>Below.heap_alloc w ob b (Hz h).1
theorem Ie:∀ i b,Af φ i=some b→N8 w φ b:=fun i b h=>.inl ⟨i,h⟩
theorem Sim.alloc_stay (hs:Sim P base S w hp φ) (vs:Array Value) (E:TypeId) (n:Nat) (hn:n≤vs.size) :
 Sim P base (Vh S w.heap.size n) (w.alloc (.cells vs E)) hp φ∧Trans base S w hp φ (Vh S w.heap.size n) (w.alloc (.cells vs E)) hp φ∧∀ j u,vs[j]?=some u→(w.alloc (.cells vs E)).cell? ⟨w.heap.size,j,none⟩=some u:=by
 have hcell:∀ j,(w.alloc (.cells vs E)).cell? ⟨w.heap.size,j,none⟩=vs[j]?:=fun j=>World.cell?_alloc_at vs E w.heap.size j rfl
 have hS:SExt S w (Vh S w.heap.size n) (w.alloc (.cells vs E)):=fun b o h=>⟨.inl h,let ⟨v,hv,_⟩:=hs.cell b o h;Dv w _ (Ey hv)⟩
 refine⟨hs.keep hS (by simp) ?_ ?_,⟨hS,.refl _ _,(Below.refl _ _).alloc hs.low _,?_,?_,Ie,Pf _⟩,fun j u h=>(hcell j).trans h⟩
 ·rintro b o (h | ⟨rfl,h⟩)
  ·obtain⟨v,hv,hf⟩:=hs.cell b o h
   exact⟨v,(Dv w _ (Ey hv)).trans hv,hf⟩
  ·exact⟨_,Lr (heap_alloc_new w _) ((hcell o).trans (Array.getElem?_eq_getElem (by omega))),fun _=>rfl⟩
 ·intro id b hb
  have hlt:=(hs.block_lt hb).2
  exact⟨Below.heap_alloc w _ b hlt,fun o=>⟨fun h=>h.elim (fun h=>h) (fun h=>by omega),.inl⟩⟩
 ·rintro b o (h | ⟨rfl,_⟩)
  ·exact .inl h
  ·exact .inr hs.low
 ·rintro b o (h | ⟨rfl,_⟩)
  ·exact .inl h
  ·exact .inr (.inr (Nat.le_refl _))
theorem Sim.alloc_obj (hs:Sim P base S w hp φ) (vs:List Value) (E t:TypeId) (cs:List AV) (hr:Reps S w hp φ cs vs) (h1:E5 vs) :
 Sim P base S (w.alloc (.cells vs.toArray E)) (hp++[.var t cs]) (φ++[.blk w.heap.size])∧Trans base S w hp φ S (w.alloc (.cells vs.toArray E)) (hp++[.var t cs]) (φ++[.blk w.heap.size]):=by
 have hS:SExt S w S (w.alloc (.cells vs.toArray E)):=fun b o h=>⟨h,let ⟨v,hv,_⟩:=hs.cell b o h;Dv w _ (Ey hv)⟩
 have hE:HpExt hp φ (hp++[.var t cs]) (φ++[.blk w.heap.size]):=HpExt.append hs.len _ _
 have hat:∀ i b,Af (φ++[.blk w.heap.size]) i=some b→(i < φ.length∧Af φ i=some b)∨(i=φ.length∧b=w.heap.size):=by
  intro i b h
  unfold Af at h ⊢
  rcases Nat.lt_or_ge i φ.length with hi | hi
  ·rw[List.getElem?_append_left hi] at h;exact .inl ⟨hi,h⟩
  ·rw[List.getElem?_append_right hi] at h
   cases hk:i - φ.length with
   | zero=>rw[hk] at h;simp at h;exact .inr ⟨by omega,h.symm⟩
   | succ k=>rw[hk] at h;simp at h
 refine⟨⟨by simp[hs.len],Nat.le_trans hs.low (by simp),fun b o h=>?_,fun id o ho=>?_,fun i j b hi hj=>?_⟩,⟨hS,hE,(Below.refl _ _).alloc hs.low _,fun b o h=>.inl h,fun b o h=>.inl h,fun i b h=>(hat i b h).elim (fun h=>.inl ⟨i,h.2⟩) (fun h=>.inr (by rw[h.2];exact Nat.le_refl _)),Pf _⟩⟩
 ·obtain⟨v,hv,hf⟩:=hs.cell b o h
  exact⟨v,(Dv w _ (Ey hv)).trans hv,hf⟩
 ·rcases Nat.lt_or_ge id hp.length with hi | hi
  ·rw[List.getElem?_append_left hi] at ho
   refine(hs.obj id o ho).keep hS hE (List.getElem?_append_left (by rw[hs.len];exact hi)) fun b hb=>⟨Below.heap_alloc w _ b (hs.block_lt hb).2,fun _=>.rfl⟩
  ·rw[List.getElem?_append_right hi] at ho
   cases hk:id - hp.length with
   | succ k=>rw[hk] at ho;simp at ho
   | zero =>
    rw[hk] at ho
    simp at ho
    subst ho
    have:id=φ.length:=by rw[hs.len];omega
    subst this
    exact⟨w.heap.size,vs,E,by simp,hs.low,⟨[],by rw[List.append_nil];exact heap_alloc_new w _⟩,Reps.mono hS hr hE,h1,fun o ho=>by
     obtain⟨v,hv,_⟩:=hs.cell _ _ ho
     have:=Ey hv
     omega⟩
 ·rcases hat i b hi with ⟨i1,i2⟩ | ⟨i1,i2⟩<;>rcases hat j b hj with ⟨j1,j2⟩ | ⟨j1,j2⟩
  ·exact hs.apart i j b i2 j2
  ·have:=(hs.block_lt i2).2;omega
  ·have:=(hs.block_lt j2).2;omega
  ·omega
theorem Sim.nil_row (hs:Sim P base S w hp φ) (e:TypeId) (hz:0 < P.cellsOf e) :
 Sim P base S w (hp++[.row e (P.cellsOf e) []]) (φ++[.sv (.slice none 0 0)])∧Trans base S w hp φ S w (hp++[.row e (P.cellsOf e) []]) (φ++[.sv (.slice none 0 0)]):=by
 have hE:HpExt hp φ (hp++[.row e (P.cellsOf e) []]) (φ++[.sv (.slice none 0 0)]):=HpExt.append hs.len _ _
 have hat:∀ i b,Af (φ++[.sv (.slice none 0 0)]) i=some b→Af φ i=some b:=by
  intro i b h
  unfold Af at h ⊢
  rcases Nat.lt_or_ge i φ.length with hi | hi
  ·rw[List.getElem?_append_left hi] at h;exact h
  ·rw[List.getElem?_append_right hi] at h
   cases hk:i - φ.length with
   | zero=>rw[hk] at h;simp[Value.ownBlock] at h
   | succ k=>rw[hk] at h;simp at h
 refine⟨⟨by simp[hs.len],hs.low,hs.cell,fun id o ho=>?_,fun i j b hi hj=>hs.apart i j b (hat i b hi) (hat j b hj)⟩,⟨.refl _ _,hE,.refl _ _,fun b o h=>.inl h,fun b o h=>.inl h,fun i b h=>.inl ⟨i,hat i b h⟩,fun _ _=>rfl⟩⟩
 rcases Nat.lt_or_ge id hp.length with hi | hi
 ·rw[List.getElem?_append_left hi] at ho
  exact(hs.obj id o ho).keep (.refl _ _) hE (List.getElem?_append_left (by rw[hs.len];exact hi)) fun b hb=>⟨rfl,fun _=>.rfl⟩
 ·rw[List.getElem?_append_right hi] at ho
  cases hk:id - hp.length with
  | succ k=>rw[hk] at ho;simp at ho
  | zero =>
   rw[hk] at ho
   simp at ho
   subst ho
   have:id=φ.length:=by rw[hs.len];omega
   subst this
   exact⟨.slice none 0 0,[],by simp,World.ownsRow_nil w base e _,.nil,by simp,hz,rfl,fun g hg=>by simp[Value.ownBlock] at hg⟩
theorem Sim.nil_stk (hs:Sim P base S w hp φ) (e:TypeId) (hz:0 < P.cellsOf e) :
 Sim P base S w (hp++[.stk 0 e (P.cellsOf e) []]) (φ++[.sv (.slice none 0 0)])∧Trans base S w hp φ S w (hp++[.stk 0 e (P.cellsOf e) []]) (φ++[.sv (.slice none 0 0)]):=by
 have hE:HpExt hp φ (hp++[.stk 0 e (P.cellsOf e) []]) (φ++[.sv (.slice none 0 0)]):=HpExt.append hs.len _ _
 have hat:∀ i b,Af (φ++[.sv (.slice none 0 0)]) i=some b→Af φ i=some b:=by
  intro i b h
  unfold Af at h ⊢
  rcases Nat.lt_or_ge i φ.length with hi | hi
  ·rw[List.getElem?_append_left hi] at h;exact h
  ·rw[List.getElem?_append_right hi] at h
   cases hk:i - φ.length with
   | zero=>rw[hk] at h;simp[Value.ownBlock] at h
   | succ k=>rw[hk] at h;simp at h
 refine⟨⟨by simp[hs.len],hs.low,hs.cell,fun id o ho=>?_,fun i j b hi hj=>hs.apart i j b (hat i b hi) (hat j b hj)⟩,⟨.refl _ _,hE,.refl _ _,fun b o h=>.inl h,fun b o h=>.inl h,fun i b h=>.inl ⟨i,hat i b h⟩,fun _ _=>rfl⟩⟩
 rcases Nat.lt_or_ge id hp.length with hi | hi
 ·rw[List.getElem?_append_left hi] at ho
  exact(hs.obj id o ho).keep (.refl _ _) hE (List.getElem?_append_left (by rw[hs.len];exact hi)) fun b hb=>⟨rfl,fun _=>.rfl⟩
 ·rw[List.getElem?_append_right hi] at ho
  cases hk:id - hp.length with
  | succ k=>rw[hk] at ho;simp at ho
  | zero =>
   rw[hk] at ho
   simp at ho
   subst ho
   have:id=φ.length:=by rw[hs.len];omega
   subst this
   exact⟨.slice none 0 0,[],by simp,World.ownsRow_nil w base e _,.nil,by simp,hz,rfl,fun g hg=>by simp[Value.ownBlock] at hg⟩
theorem Sim.alloc_row (hs:Sim P base S w hp φ) {e:TypeId} {size:Nat} {els:List (List AV)} {vss:List (List Value)} (hr:Repss S w els vss) (hl:∀ vs ∈ vss,vs.length=size) (hsz:P.cellsOf e=size) (hz:0 < size) (hn:els.length≤maxLen) :
 ∃ S',Sim P base S' (w.alloc (.cells vss.flatten.toArray e)) (hp++[.row e size els]) (φ++[.sv (.slice (some ⟨w.heap.size,0,none⟩) els.length els.length)])∧Trans base S w hp φ S' (w.alloc (.cells vss.flatten.toArray e)) (hp++[.row e size els]) (φ++[.sv (.slice (some ⟨w.heap.size,0,none⟩) els.length els.length)]) ∧
   Rep S' (w.alloc (.cells vss.flatten.toArray e)) (hp++[.row e size els]) (φ++[.sv (.slice (some ⟨w.heap.size,0,none⟩) els.length els.length)]) (.row hp.length els.length) (.slice (some ⟨w.heap.size,0,none⟩) els.length els.length):=by
 obtain⟨hs',htr,hc⟩:=hs.alloc_stay vss.flatten.toArray e vss.flatten.length (by simp)
 have hlv:=hr.length
 have hfl:=Da hl
 have hE:HpExt hp φ (hp++[.row e size els]) (φ++[.sv (.slice (some ⟨w.heap.size,0,none⟩) els.length els.length)]):=HpExt.append hs.len _ _
 have hat:∀ i b,Af (φ++[.sv (.slice (some ⟨w.heap.size,0,none⟩) els.length els.length)]) i=some b→(i < φ.length∧Af φ i=some b)∨(i=φ.length∧b=w.heap.size):=by
  intro i b h
  unfold Af at h ⊢
  rcases Nat.lt_or_ge i φ.length with hi | hi
  ·rw[List.getElem?_append_left hi] at h;exact .inl ⟨hi,h⟩
  ·rw[List.getElem?_append_right hi] at h
   cases hk:i - φ.length with
   | zero=>rw[hk] at h;simp[Value.ownBlock] at h;exact .inr ⟨by omega,h.symm⟩
   | succ k=>rw[hk] at h;simp at h
 have hrr:=Repss.mono htr.s hr
 have hlaid:Laid (Vh S w.heap.size vss.flatten.length) (w.alloc (.cells vss.flatten.toArray e)) (some ⟨w.heap.size,0,none⟩) size vss:=by
  refine⟨hl,fun j vs t u hj hu=>?_⟩
  have htl:t < size:=by rw[← hl vs (List.mem_of_getElem? hj)];exact nth?_lt hu
  have hf:=Ep hl hj htl
  rw[hu] at hf
  refine⟨w.heap.size,0,rfl,.inr ⟨rfl,?_⟩,?_⟩
  ·rw[Nat.zero_add];exact nth?_lt hf
  ·rw[Nat.zero_add];exact hc _ _ (by simpa using hf)
 refine⟨Vh S w.heap.size vss.flatten.length,⟨by simp[hs.len],hs'.low,hs'.cell,fun id o ho=>?_,fun i j b hi hj=>?_⟩,⟨htr.s,hE,htr.below,htr.new,htr.mine,fun i b h=>(hat i b h).elim (fun h=>.inl ⟨i,h.2⟩) (fun h=>.inr (by rw[h.2];exact Nat.le_refl _)),htr.keep⟩,?_⟩
 ·rcases Nat.lt_or_ge id hp.length with hi | hi
  ·rw[List.getElem?_append_left hi] at ho
   exact(hs'.obj id o ho).keep (.refl _ _) hE (List.getElem?_append_left (by rw[hs.len];exact hi)) fun b hb=>⟨rfl,fun _=>.rfl⟩
  ·rw[List.getElem?_append_right hi] at ho
   cases hk:id - hp.length with
   | succ k=>rw[hk] at ho;simp at ho
   | zero =>
    rw[hk] at ho
    simp at ho
    subst ho
    have:id=φ.length:=by rw[hs.len];omega
    subst this
    refine⟨_,vss,by simp,⟨by rw[hfl,hlv],.inr ⟨w.heap.size,els.length,vss.flatten.toArray,rfl,hs.low,heap_alloc_new w _,Nat.le_refl _,hn,by simp[hfl,hlv],?_⟩⟩,hrr,hl,hz,hsz,fun g hg o=>?_⟩
    ·rw[List.take_of_length_le (by simp[hfl,hlv])]
    ·simp[Value.ownBlock] at hg
     subst hg
     constructor
     ·rintro (h | ⟨_,h⟩)
      ·obtain⟨v,hv,_⟩:=hs.cell _ _ h
       have:=Ey hv
       omega
      ·rw[hlv,← hfl];exact h
     ·intro h;exact .inr ⟨rfl,by rw[hfl,← hlv];exact h⟩
 ·rcases hat i b hi with ⟨i1,i2⟩ | ⟨i1,i2⟩<;>rcases hat j b hj with ⟨j1,j2⟩ | ⟨j1,j2⟩
  ·exact hs.apart i j b i2 j2
  ·have:=(hs.block_lt i2).2;omega
  ·have:=(hs.block_lt j2).2;omega
  ·omega
 ·refine .row _ _ hp.length els.length _ e size els (by rw[nth?_eq];simp) (Nat.le_refl _) ?_ fun _=>by rw[← hs.len];simp
  rw[List.take_length]
  exact .sl _ _ size els vss _ _ hrr hlaid ⟨Nat.le_refl _,hn,fun h=>by cases h⟩
theorem Sim.alloc_stk (hs:Sim P base S w hp φ) {e:TypeId} {size:Nat} {els:List (List AV)} {vss:List (List Value)} (hr:Repss S w els vss) (hl:∀ vs ∈ vss,vs.length=size) (hsz:P.cellsOf e=size) (hz:0 < size) (hn:els.length≤maxLen) :
 Sim P base S (w.alloc (.cells vss.flatten.toArray e)) (hp++[.stk 0 e size els]) (φ++[.sv (.slice (some ⟨w.heap.size,0,none⟩) els.length els.length)])∧Trans base S w hp φ S (w.alloc (.cells vss.flatten.toArray e)) (hp++[.stk 0 e size els]) (φ++[.sv (.slice (some ⟨w.heap.size,0,none⟩) els.length els.length)]):=by
 have hS:SExt S w S (w.alloc (.cells vss.flatten.toArray e)):=fun b o h=>⟨h,let ⟨v,hv,_⟩:=hs.cell b o h;Dv w _ (Ey hv)⟩
 have hlv:=hr.length
 have hfl:=Da hl
 have hE:HpExt hp φ (hp++[.stk 0 e size els]) (φ++[.sv (.slice (some ⟨w.heap.size,0,none⟩) els.length els.length)]):=HpExt.append hs.len _ _
 have hat:∀ i b,Af (φ++[.sv (.slice (some ⟨w.heap.size,0,none⟩) els.length els.length)]) i=some b→(i < φ.length∧Af φ i=some b)∨(i=φ.length∧b=w.heap.size):=by
  intro i b h
  unfold Af at h ⊢
  rcases Nat.lt_or_ge i φ.length with hi | hi
  ·rw[List.getElem?_append_left hi] at h;exact .inl ⟨hi,h⟩
  ·rw[List.getElem?_append_right hi] at h
   cases hk:i - φ.length with
   | zero=>rw[hk] at h;simp[Value.ownBlock] at h;exact .inr ⟨by omega,h.symm⟩
   | succ k=>rw[hk] at h;simp at h
 refine⟨⟨by simp[hs.len],Nat.le_trans hs.low (by simp),fun b o h=>?_,fun id o ho=>?_,fun i j b hi hj=>?_⟩,⟨hS,hE,(Below.refl _ _).alloc hs.low _,fun b o h=>.inl h,fun b o h=>.inl h,fun i b h=>(hat i b h).elim (fun h=>.inl ⟨i,h.2⟩) (fun h=>.inr (by rw[h.2];exact Nat.le_refl _)),Pf _⟩⟩
 ·obtain⟨v,hv,hf⟩:=hs.cell b o h
  exact⟨v,(Dv w _ (Ey hv)).trans hv,hf⟩
 ·rcases Nat.lt_or_ge id hp.length with hi | hi
  ·rw[List.getElem?_append_left hi] at ho
   refine(hs.obj id o ho).keep hS hE (List.getElem?_append_left (by rw[hs.len];exact hi)) fun b hb=>⟨Below.heap_alloc w _ b (hs.block_lt hb).2,fun _=>.rfl⟩
  ·rw[List.getElem?_append_right hi] at ho
   cases hk:id - hp.length with
   | succ k=>rw[hk] at ho;simp at ho
   | zero =>
    rw[hk] at ho
    simp at ho
    subst ho
    have:id=φ.length:=by rw[hs.len];omega
    subst this
    refine⟨_,vss,by simp,⟨by rw[hfl,hlv],.inr ⟨w.heap.size,els.length,vss.flatten.toArray,rfl,hs.low,heap_alloc_new w _,Nat.le_refl _,hn,by simp[hfl,hlv],?_⟩⟩,Repss.mono hS hr,hl,hz,hsz,fun g hg o h=>?_⟩
    ·rw[List.take_of_length_le (by simp[hfl,hlv])]
    ·simp[Value.ownBlock] at hg
     subst hg
     obtain⟨v,hv,_⟩:=hs.cell _ _ h
     have:=Ey hv
     omega
 ·rcases hat i b hi with ⟨i1,i2⟩ | ⟨i1,i2⟩<;>rcases hat j b hj with ⟨j1,j2⟩ | ⟨j1,j2⟩
  ·exact hs.apart i j b i2 j2
  ·have:=(hs.block_lt i2).2;omega
  ·have:=(hs.block_lt j2).2;omega
  ·omega
theorem Sim.alloc_arr (hs:Sim P base S w hp φ) {E:TypeId} {size:Nat} {els:List (List AV)} {vss:List (List Value)} (hr:Repss S w els vss) (hl:∀ vs ∈ vss,vs.length=size) (ex:List Value) :
 Sim P base S (w.alloc (.cells (vss.flatten++ex).toArray E)) (hp++[.arr size els]) (φ++[.ofs w.heap.size 0])∧Trans base S w hp φ S (w.alloc (.cells (vss.flatten++ex).toArray E)) (hp++[.arr size els]) (φ++[.ofs w.heap.size 0]):=by
 have hS:SExt S w S (w.alloc (.cells (vss.flatten++ex).toArray E)):=fun b o h=>⟨h,let ⟨v,hv,_⟩:=hs.cell b o h;Dv w _ (Ey hv)⟩
 have hE:HpExt hp φ (hp++[.arr size els]) (φ++[.ofs w.heap.size 0]):=HpExt.append hs.len _ _
 have hat:∀ i b,Af (φ++[.ofs w.heap.size 0]) i=some b→(i < φ.length∧Af φ i=some b)∨(i=φ.length∧b=w.heap.size):=by
  intro i b h
  unfold Af at h ⊢
  rcases Nat.lt_or_ge i φ.length with hi | hi
  ·rw[List.getElem?_append_left hi] at h;exact .inl ⟨hi,h⟩
  ·rw[List.getElem?_append_right hi] at h
   cases hk:i - φ.length with
   | zero=>rw[hk] at h;simp at h;exact .inr ⟨by omega,h.symm⟩
   | succ k=>rw[hk] at h;simp at h
 refine⟨⟨by simp[hs.len],Nat.le_trans hs.low (by simp),fun b o h=>?_,fun id o ho=>?_,fun i j b hi hj=>?_⟩,⟨hS,hE,(Below.refl _ _).alloc hs.low _,fun b o h=>.inl h,fun b o h=>.inl h,fun i b h=>(hat i b h).elim (fun h=>.inl ⟨i,h.2⟩) (fun h=>.inr (by rw[h.2];exact Nat.le_refl _)),Pf _⟩⟩
 ·obtain⟨v,hv,hf⟩:=hs.cell b o h
  exact⟨v,(Dv w _ (Ey hv)).trans hv,hf⟩
 ·rcases Nat.lt_or_ge id hp.length with hi | hi
  ·rw[List.getElem?_append_left hi] at ho
   refine(hs.obj id o ho).keep hS hE (List.getElem?_append_left (by rw[hs.len];exact hi)) fun b hb=>⟨Below.heap_alloc w _ b (hs.block_lt hb).2,fun _=>.rfl⟩
  ·rw[List.getElem?_append_right hi] at ho
   cases hk:id - hp.length with
   | succ k=>rw[hk] at ho;simp at ho
   | zero =>
    rw[hk] at ho
    simp at ho
    subst ho
    have:id=φ.length:=by rw[hs.len];omega
    subst this
    exact⟨w.heap.size,vss,ex,E,[],by simp,hs.low,heap_alloc_new w _,Repss.mono hS hr,hl,fun o ho=>by
     obtain⟨v,hv,_⟩:=hs.cell _ _ ho
     have:=Ey hv
     omega⟩
 ·rcases hat i b hi with ⟨i1,i2⟩ | ⟨i1,i2⟩<;>rcases hat j b hj with ⟨j1,j2⟩ | ⟨j1,j2⟩
  ·exact hs.apart i j b i2 j2
  ·have:=(hs.block_lt i2).2;omega
  ·have:=(hs.block_lt j2).2;omega
  ·omega
def Acts (P:Program) (base:Nat) (S:Nat→Nat→Prop) (w:World) (hp:Hp) (φ:List Pl) (e:Operand→Value) (o:Oper) (v:AV) (hp':Hp):Prop :=
 ∃ u S' φ' w',((execOp e o).run P w=.ok (.value u) w'∨((execOp e o).run P w=.ok .skip w'∧u=undef))∧Rep S' w' hp' φ' v u∧Sim P base S' w' hp' φ'∧Trans base S w hp φ S' w' hp' φ'
end
section
variable {S:Nat→Nat→Prop} {w:World} {hp:Hp} {φ:List Pl} {P:Program} {base:Nat} {e:Operand→Value} {o:Oper} {tm:Tm} {ρ:Type} {r:ρ} {K:AV→Option ρ}
theorem Gives.acts {v:AV} (h:Gives P S w hp φ e o v) (hs:Sim P base S w hp φ):Acts P base S w hp φ e o v hp:=by
 obtain⟨u,h1,h2⟩:=h
 exact⟨u,S,φ,w,.inl h1,h2,hs,.refl _ _ _ _ _⟩
theorem A34 (t:TypeId) (v:Value):(newVar t v).run P w=.ok ⟨w.heap.size,0,none⟩ (w.alloc (.cells v.cells t)):=by simp only[newVar,newRow,newObj,Sem.run_bind,Sem.run_pure,Result.andThen_ok,Sem.run];rfl
theorem Ae9 (hs:Sim P base S w hp φ) {t:TypeId} (ho:o.op=.alloc t) {z:AV} (hz:zero P t=some z) (h1:z.cells.all AV.one=true):Acts P base S w hp φ e o (.ptr hp.length 0) (hp++[.var t z.cells]):=by
 obtain⟨i,v,hi,hzv,rfl⟩:=Ms hz
 have hrep:Rep S w hp φ (lit v) v:=Oj v
 obtain⟨hs',htr⟩:=hs.alloc_obj v.cells.toList t t (lit v).cells (hrep.cells_rep h1) (hrep.cells_ones h1)
 refine⟨.pointer (some ⟨w.heap.size,0,none⟩),S,_,_,.inl ?_,.ptr _ _ hp.length 0 w.heap.size (by rw[← hs.len];simp),hs',htr⟩
 have h2:(zeroValue t).run P w=.ok v w:=by simp[zeroValue,typeInfo,hi,hzv]
 simp only[execOp,ho,Instr.alloc,Sem.run_bind,Sem.run_pure,Result.andThen_ok,h2,A34]
theorem Ale (hs:Sim P base S w hp φ) (ht:∀ x,Rep S w hp φ (ev tm x) (e x)) {t:TypeId} {x:Operand} (ho:o.op=.box t x) (h1:(ev tm x).cells.all AV.one=true):Acts P base S w hp φ e o (.ptr hp.length 0) (hp++[.var t (ev tm x).cells]):=by
 have hx:=ht x
 obtain⟨hs',htr⟩:=hs.alloc_obj (e x).cells.toList t t (ev tm x).cells (hx.cells_rep h1) (hx.cells_ones h1)
 refine⟨.pointer (some ⟨w.heap.size,0,none⟩),S,_,_,.inl ?_,.ptr _ _ hp.length 0 w.heap.size (by rw[← hs.len];simp),hs',htr⟩
 simp only[execOp,ho,Instr.box,Sem.run_bind,Sem.run_pure,Result.andThen_ok,A34]
theorem Am0 (hs:Sim P base S w hp φ) (ht:∀ x,Rep S w hp φ (ev tm x) (e x)) {x:Operand} (ho:o.op=.assign x) (hx:ev tm x=.nils) {et:TypeId} (hz:0 < P.cellsOf et):Acts P base S w hp φ e o (.row hp.length 0) (hp++[.row et (P.cellsOf et) []]):=by
 have h:=ht x
 rw[hx] at h
 obtain⟨hs',htr⟩:=hs.nil_row et hz
 refine⟨.slice none 0 0,S,_,w,.inl (by simp[execOp,ho,h.nils_inv]),.row _ _ hp.length 0 _ et (P.cellsOf et) [] (by rw[nth?_eq];simp) (Nat.le_refl _) ?_ ?_,hs',htr⟩
 ·exact .sl _ _ _ [] [] none 0 .nil ⟨by simp,fun j vs t u hj=>by simp at hj⟩ ⟨Nat.le_refl _,by unfold maxLen;omega,fun _=>rfl⟩
 ·intro _;rw[← hs.len];simp
theorem Amk (hs:Sim P base S w hp φ) {size:Nat} {els:List (List AV)} {vss:List (List Value)} (E:TypeId) (hr:Repss S w els vss) (hl:∀ vs ∈ vss,vs.length=size) (rest:List Value) (hn:els.length≤maxLen)
 (hrun:(execOp e o).run P w=.ok (.value (.slice (some ⟨w.heap.size,0,none⟩) els.length els.length)) (w.alloc (.cells vss.flatten.toArray E))):Acts P base S w hp φ e o (.sl size els) hp:=by
 obtain⟨hs',htr,hc⟩:=hs.alloc_stay vss.flatten.toArray E vss.flatten.length (by simp)
 refine⟨_,_,φ,_,.inl hrun,.sl _ _ size els vss (some ⟨w.heap.size,0,none⟩) els.length (Repss.mono htr.s hr) ⟨hl,fun j vs t u hj hu=>?_⟩ ⟨Nat.le_refl _,hn,fun h=>by cases h⟩,hs',htr⟩
 have htl:t < size:=by rw[← hl vs (List.mem_of_getElem? hj)];exact nth?_lt hu
 have hf:=Ep hl hj htl
 rw[hu] at hf
 refine⟨w.heap.size,0,rfl,.inr ⟨rfl,?_⟩,?_⟩
 ·rw[Nat.zero_add];exact nth?_lt hf
 ·rw[Nat.zero_add];exact hc _ _ (by simpa using hf)
theorem N5 {a a':AV} {v:Value} (h:Rep S w hp φ a v) (hc:D9 hp a=some a'):Rep S w [] [] a' v:=by
 cases a<;>simp only[D9] at hc<;>first | (cases hc;done) | skip
 case bool b=>cases hc;have:=h.bool_inv;subst this;exact .bool _ _ _
 case int k n=>cases hc;obtain⟨rfl,h1⟩:=h.int_inv;exact .int _ _ _ _ h1
 case str s=>cases hc;obtain⟨rfl,h1⟩:=h.str_inv;exact .str _ _ _ h1
 case nilp=>cases hc;cases h;exact .nilp _ _
 case rptr el off=>cases hc;obtain⟨vs,b,ob,h1,h2,h3,rfl⟩:=h.rptr_inv;exact .rptr _ _ _ _ _ _ _ h1 h2 h3
 case nils=>cases hc;have:=h.nils_inv;subst this;exact .nils _ _
 case sl size els=>cases hc;obtain⟨vss,a,cap,h1,h2,h3,rfl⟩:=h.sl_inv;exact .sl _ _ _ _ _ _ _ h1 h2 h3
 case row id n =>
  obtain⟨et,size,els,h1,h2,h3,h4⟩:=h.row_inv
  rw[h1] at hc;cases hc
  exact h3
 case func f x y =>
  cases x<;>cases y<;>simp only[D9] at hc<;>first | (cases hc;done) | skip
  cases hc
  obtain⟨a,b,h1,h2,rfl⟩:=h.func_inv
  cases h1;cases h2
  exact .func _ _ _ _ _ _ _ (.nil _ _) (.nil _ _)
 case nilf=>cases hc;cases h;exact .nilf _ _
 case mcl kd els=>cases hc;exact h.mcl_any
 case ifc t a=>cases hc;exact h.ifc_any
 case nili=>cases hc;cases h;exact .nili _ _
theorem Mv {l l':List AV} {vs:List Value} (h:Reps S w hp φ l vs) (hc:D0 hp l=some l'):Reps S w [] [] l' vs:=by
 induction l generalizing l' vs with
 | nil=>simp only[D0,Option.some.injEq] at hc;subst hc;cases h;exact .nil _ _
 | cons a l ih =>
  cases h with
  | cons _ _ _ v _ vs h t =>
  simp only[D0] at hc
  cases h1:D9 hp a with
  | none=>rw[h1] at hc;cases hc
  | some a' =>
   cases h2:D0 hp l with
   | none=>rw[h1,h2] at hc;cases hc
   | some l2=>rw[h1,h2] at hc;cases hc;exact .cons _ _ _ _ _ _ (N5 h h1) (ih t h2)
theorem A6c {a a':AV} {v:Value} (h:Rep S w hp φ a v) (hc:Js hp a=some a'):Rep S w [] [] a' v:=by
 by_cases ha:∃ cs,a=.agg cs
 ·obtain⟨cs,rfl⟩:=ha
  obtain⟨vs,h1,h2,rfl⟩:=h.agg_inv
  simp only[Js] at hc
  cases h3:D0 hp cs with
  | none=>rw[h3] at hc;cases hc
  | some cs'=>rw[h3] at hc;cases hc;exact .agg _ _ _ _ (Mv h1 h3) h2
 ·have:Js hp a=D9 hp a:=by cases a<;>first | rfl | exact absurd ⟨_,rfl⟩ ha
  rw[this] at hc
  exact N5 h hc
theorem X6 {l l':List AV} {vs:List Value} (h:Reps S w hp φ l vs) (hc:El hp l=some l'):Reps S w [] [] l' vs:=by
 induction l generalizing l' vs with
 | nil=>simp only[El,Option.some.injEq] at hc;subst hc;cases h;exact .nil _ _
 | cons a l ih =>
  cases h with
  | cons _ _ _ v _ vs h t =>
  simp only[El] at hc
  cases h1:Js hp a with
  | none=>rw[h1] at hc;cases hc
  | some a' =>
   cases h2:El hp l with
   | none=>rw[h1,h2] at hc;cases hc
   | some l2=>rw[h1,h2] at hc;cases hc;exact .cons _ _ _ _ _ _ (A6c h h1) (ih t h2)
theorem Sm {hp hpn:Hp} (id:Nat):nth? (hp++hpn.map (J5 hp.length)) (hp.length+id)=(nth? hpn id).map (J5 hp.length):=by
 rw[nth?_eq,nth?_eq,List.getElem?_append_right (by omega),show hp.length+id - hp.length=id by omega,List.getElem?_map]
theorem L9 {φ φn:List Pl} {n:Nat} (h:φ.length=n) (id:Nat):(φ++φn)[n+id]?=φn[id]?:=by
 rw[List.getElem?_append_right (by omega),show n+id - φ.length=id by omega]
theorem P6 {hpn:Hp} {φn:List Pl} {g:AV→AV} (hg:∀ a v,Rep S w hpn φn a v→Rep S w (hp++hpn.map (J5 hp.length)) (φ++φn) (g a) v) {l:List AV} {vs:List Value} (h:Reps S w hpn φn l vs):Reps S w (hp++hpn.map (J5 hp.length)) (φ++φn) (l.map g) vs:=by
 induction l generalizing vs with
 | nil=>cases h;exact .nil _ _
 | cons a l ih=>cases h with | cons _ _ _ v _ vs h t=>exact .cons _ _ _ _ _ _ (hg a v h) (ih t)
section shift
variable {hpn:Hp} {φn:List Pl} (hl:φ.length=hp.length)
include hl
theorem Ro {a:AV} {v:Value} (h:Rep S w hpn φn a v):Rep S w (hp++hpn.map (J5 hp.length)) (φ++φn) (Tc hp.length a) v:=by
 cases a<;>simp only[Tc]<;>first | exact .junk _ _ _ | skip
 case bool=>cases h;exact .bool _ _ _
 case int=>cases h;exact .int _ _ _ _ (by assumption)
 case str=>cases h;exact .str _ _ _ (by assumption)
 case nilp=>cases h;exact .nilp _ _
 case ptr id off =>
  obtain⟨b,hb,rfl⟩:=h.ptr_inv
  exact .ptr _ _ _ off b ((L9 hl id).trans hb)
 case vsl id off n c =>
  obtain⟨b,hb,rfl⟩:=h.vsl_inv
  exact .vsl _ _ _ off n c b ((L9 hl id).trans hb)
 case vel id off =>
  obtain⟨b,hb,rfl⟩:=h.vel_inv
  exact .vel _ _ _ off b ((L9 hl id).trans hb)
 case pte id i off =>
  obtain⟨b,size,els,o0,hb,hob,rfl⟩:=h.pte_inv
  exact .pte _ _ _ i off b size els o0 ((L9 hl id).trans hb) (by rw[Sm,hob];rfl)
 case rptr el off=>obtain⟨vs,b,ob,h1,h2,h3,rfl⟩:=h.rptr_inv;exact .rptr _ _ _ _ _ _ _ h1 h2 h3
 case nils=>have:=h.nils_inv;subst this;exact .nils _ _
 case sl size els=>obtain⟨vss,a,cap,h1,h2,h3,rfl⟩:=h.sl_inv;exact .sl _ _ _ _ _ _ _ h1 h2 h3
 case row id n =>
  obtain⟨et,size,els,h1,h2,h3,h4⟩:=h.row_inv
  exact .row _ _ _ n v et size els (by rw[Sm,h1];rfl) h2 h3 fun hn=>(L9 hl id).trans (h4 hn)
 case own id off n =>
  obtain⟨b,size,els,cap,ad,o0,hb,hob,hle,had,hc,rfl⟩:=h.own_inv
  exact .own _ _ _ off n b size els cap o0 ((L9 hl id).trans hb) (by rw[Sm,hob];rfl) hle ad had hc
 case stk id ver n =>
  obtain⟨h0,ver',e,size,els,h1,h2,h3⟩:=h.stk_inv
  exact .stk _ _ _ _ _ _ ⟨h0,ver',e,size,els,by rw[Sm,h1];rfl,h2,fun hv=>by
   obtain⟨c1,v0,c2,c3⟩:=h3 hv
   exact⟨c1,v0,(L9 hl id).trans c2,c3⟩⟩
 case pts id ver i off =>
  obtain⟨h0,ver',e,size,els,h1,h2,h3⟩:=h.pts_inv
  exact .pts _ _ _ _ _ _ _ ⟨h0,ver',e,size,els,by rw[Sm,h1];rfl,h2,fun hv=>by
   obtain⟨g,len,cap,c2,c3⟩:=h3 hv
   exact⟨g,len,cap,(L9 hl id).trans c2,c3⟩⟩
 case func f x y =>
  cases x<;>cases y<;>simp only[Tc]<;>first | exact .junk _ _ _ | skip
  obtain⟨a,b,h1,h2,rfl⟩:=h.func_inv
  cases h1;cases h2
  exact .func _ _ _ _ _ _ _ (.nil _ _) (.nil _ _)
 case nilf=>cases h;exact .nilf _ _
 case mapp id =>
  obtain⟨b,hb,rfl⟩:=h.mapp_inv
  exact .mapp _ _ _ b ((L9 hl id).trans hb)
 case mcl kd els=>exact h.mcl_any
 case ifc t a=>exact h.ifc_any
 case nili=>cases h;exact .nili _ _
theorem P3 {a:AV} {v:Value} (h:Rep S w hpn φn a v):Rep S w (hp++hpn.map (J5 hp.length)) (φ++φn) (Sv hp.length a) v:=by
 cases a<;>simp only[Sv]<;>first | exact Ro hl h | skip
 case agg cs =>
  obtain⟨vs,h1,h2,rfl⟩:=h.agg_inv
  exact .agg _ _ _ _ (P6 (fun a v h=>Ro hl h) h1) h2
 case func f x y =>
  obtain⟨a,b,h1,h2,rfl⟩:=h.func_inv
  exact .func _ _ _ _ _ _ _ (P6 (fun a v h=>Ro hl h) h1) (P6 (fun a v h=>Ro hl h) h2)
theorem Ael {a:AV} {v:Value} (h:Rep S w hpn φn a v):Rep S w (hp++hpn.map (J5 hp.length)) (φ++φn) (A2p hp.length a) v:=by
 cases a<;>simp only[A2p]<;>first | exact P3 hl h | skip
 case tup cs =>
  obtain⟨vs,h1,rfl⟩:=h.tup_inv
  exact .tup _ _ _ _ (P6 (fun a v h=>P3 hl h) h1)
 case mfn kd els =>
  obtain⟨vss,b,es,h1,h2,hk,h3,h4,rfl⟩:=h.mfn_inv
  exact .mfn _ _ _ _ _ b es (h1.mapped fun a v h=>P3 hl h) h2 (hk.mapped (fun _ _=>rfl) fun _=>rfl) h3 h4
end shift
theorem Sim.cell0 (hs:Sim P base S w hp φ):∀ b o,S b o→∃ v,stay w b o=some v∧(w.heap.size≤b→v.2.2=(0,0)):=fun b o h =>
 let ⟨v,hv,_⟩:=hs.cell b o h;⟨v,hv,fun hb=>absurd (Hr hv) (by omega)⟩
theorem Sim.cell_of {S':Nat→Nat→Prop} {w':World} {hpn:Hp} {φn:List Pl} (hs:Sim P base S w hp φ) (h2:Sim P w.heap.size S' w' hpn φn) (h3:Trans w.heap.size S w [] [] S' w' hpn φn):∀ b o,S' b o→∃ v,stay w' b o=some v∧(base≤b→v.2.2=(0,0)):=by
 intro b o h
 obtain⟨v,hv,hf⟩:=h2.cell b o h
 refine⟨v,hv,fun hb=>?_⟩
 rcases h3.new b o h with h' | h'
 ·obtain⟨u,hu,hf'⟩:=hs.cell b o h'
  have:=(h3.s b o h').2
  rw[hv,hu] at this
  cases this
  exact hf' hb
 ·exact hf h'
theorem Sim.adopt {S':Nat→Nat→Prop} {w':World} {hpn:Hp} {φn:List Pl} {v:AV} {u:Value} (hs:Sim P base S w hp φ) (h1:Rep S' w' hpn φn v u) (h2:Sim P w.heap.size S' w' hpn φn) (h3:Trans w.heap.size S w [] [] S' w' hpn φn) :
 Rep S' w' (hp++hpn.map (J5 hp.length)) (φ++φn) (A2p hp.length v) u∧Sim P base S' w' (hp++hpn.map (J5 hp.length)) (φ++φn)∧Trans base S w hp φ S' w' (hp++hpn.map (J5 hp.length)) (φ++φn):=by
 have hE:HpExt hp φ (hp++hpn.map (J5 hp.length)) (φ++φn):=HpExt.append hs.len _ _
 have hold:∀ id b,Af φ id=some b→w'.heap[b]?=w.heap[b]?∧∀ o,S' b o↔S b o:=fun id b hb=>by
  have hlt:=(hs.block_lt hb).2
  exact⟨h3.below.block b hlt,fun o=>⟨fun h=>(h3.new b o h).elim (fun h=>h) fun h=>by omega,fun h=>(h3.s b o h).1⟩⟩
 have hat:∀ i b,Af (φ++φn) i=some b→(i < φ.length∧Af φ i=some b)∨(φ.length≤i∧Af φn (i - φ.length)=some b):=by
  intro i b h
  unfold Af at h ⊢
  rcases Nat.lt_or_ge i φ.length with hi | hi
  ·rw[List.getElem?_append_left hi] at h;exact .inl ⟨hi,h⟩
  ·rw[List.getElem?_append_right hi] at h;exact .inr ⟨hi,h⟩
 refine⟨Ael hs.len h1,⟨by simp[hs.len,h2.len],Nat.le_trans hs.low h3.below.size,hs.cell_of h2 h3,fun id o ho=>?_,fun i j b hi hj=>?_⟩,⟨h3.s,hE,h3.below.mono hs.low,fun b o h=>(h3.new b o h).elim .inl fun h=>.inr (Nat.le_trans hs.low h),fun b o h=>(h3.new b o h).elim .inl fun h=>.inr (.inr h),fun i b h=>(hat i b h).elim (fun h=>.inl ⟨i,h.2⟩) (fun h=>.inr (h2.block_lt h.2).1),fun b h=>h3.below.block b (Hz h).1⟩⟩
 ·rcases Nat.lt_or_ge id hp.length with hi | hi
  ·rw[List.getElem?_append_left hi] at ho
   exact(hs.obj id o ho).keep h3.s hE (List.getElem?_append_left (by rw[hs.len];exact hi)) (hold id)
  ·rw[List.getElem?_append_right hi,List.getElem?_map] at ho
   cases hob:hpn[id - hp.length]? with
   | none=>rw[hob] at ho;cases ho
   | some ob =>
    rw[hob] at ho
    simp only[Option.map_some,Option.some.injEq] at ho
    subst ho
    have hok:=h2.obj _ _ hob
    have hφ:(φ++φn)[id]?=φn[id - hp.length]?:=by rw[List.getElem?_append_right (by rw[hs.len];exact hi),hs.len]
    cases ob with
    | var t cs =>
     obtain⟨b,vs,E,g1,g2,g3,g4,g5,g6⟩:=hok
     exact⟨b,vs,E,hφ.trans g1,Nat.le_trans hs.low g2,g3,P6 (fun a v h=>P3 hs.len h) g4,g5,g6⟩
    | arr size els =>
     obtain⟨b,vss,ex,E,pre,g1,g2,g3,g4,g5,g6⟩:=hok
     exact⟨b,vss,ex,E,pre,hφ.trans g1,Nat.le_trans hs.low g2,g3,g4,g5,g6⟩
    | row e size els =>
     obtain⟨v,vss,g1,g2,g3,g4,g5,g6,g7⟩:=hok
     exact⟨v,vss,hφ.trans g1,A8j g2 hs.low,g3,g4,g5,g6,g7⟩
    | stk ver e size els =>
     obtain⟨v,vss,g1,g2,g3,g4,g5,g6,g7⟩:=hok
     exact⟨v,vss,hφ.trans g1,A8j g2 hs.low,g3,g4,g5,g6,g7⟩
    | mp kd frz els =>
     obtain⟨b,vss,es,g1,g2,g3,g4,g5,g6⟩:=hok
     exact⟨b,vss,es,hφ.trans g1,Nat.le_trans hs.low g2,g3,g4,g5,g6⟩
    | mpo kd els =>
     obtain⟨b,vss,es,g1,g2,g3,g4,g5,g6⟩:=hok
     exact⟨b,vss,es,hφ.trans g1,Nat.le_trans hs.low g2,g3,g4.mapped (fun a v h=>P3 hs.len h),⟨g5.1,g5.2.mapped (fun _ _=>rfl) fun _=>rfl⟩,g6⟩
 ·rcases hat i b hi with ⟨i1,i2⟩ | ⟨i1,i2⟩<;>rcases hat j b hj with ⟨j1,j2⟩ | ⟨j1,j2⟩
  ·exact hs.apart i j b i2 j2
  ·have:=(hs.block_lt i2).2
   have:=(h2.block_lt j2).1;omega
  ·have:=(hs.block_lt j2).2
   have:=(h2.block_lt i2).1;omega
  ·have:=h2.apart _ _ b i2 j2;omega
def Lk (S:Nat→Nat→Prop) (w:World) (hp:Hp) (φ:List Pl):Nat→Nat→Prop:=fun b o=>S b o∨(∃ id size els,nth? hp id=some (.arr size els)∧(∃ o0,φ[id]?=some (.ofs b o0))∧∃ u,w.cell? ⟨b,o,none⟩=some u)∨∃ id ver e size els,nth? hp id=some (.stk ver e size els)∧∃ v0,φ[id]?=some (.sv v0)∧v0.ownBlock=some b∧∃ u,w.cell? ⟨b,o,none⟩=some u
theorem Un:SExt S w (Lk S w hp φ) w:=fun b o h=>⟨.inl h,rfl⟩
theorem A05 (hs:Sim P base S w hp φ) {a a':AV} {v:Value} (h:Rep S w hp φ a v) (hc:G0 hp a=some a'):Rep (Lk S w hp φ) w [] [] a' v:=by
 by_cases ha:∃ id off n,a=.own id off n
 ·obtain⟨id,off,n,rfl⟩:=ha
  obtain⟨b,size,els,cap,ad,o0,hb,hob,hle,had,hcp,rfl⟩:=h.own_inv
  simp only[G0,hob,Option.some.injEq] at hc
  subst hc
  obtain⟨b',vss,ex,E',pre,g1,g2,g3,g4,g5,g6⟩:=hs.obj id _ (by rw[← nth?_eq];exact hob)
  rw[hb] at g1;cases g1
  have hlen:((els.drop off).take n).length=n:=by rw[List.length_take,List.length_drop];omega
  have:=Rep.sl (S:=Lk S w hp φ) (w:=w) [] [] size ((els.drop off).take n) ((vss.drop off).take n) ad cap (Repss.mono Un ((g4.drop off).take n)) ⟨fun vs hv=>g5 vs (List.mem_of_mem_drop (List.mem_of_mem_take hv)),fun j vs t u hj hu=>?_⟩ (by rw[hlen];exact hcp)
  ·rw[hlen] at this;exact this
  ·rw[List.getElem?_take] at hj
   split at hj
   ·rename_i hlt
    rw[List.getElem?_drop] at hj
    have htl:t < size:=by rw[← g5 vs (List.mem_of_getElem? hj)];exact nth?_lt hu
    have hf:=Ep g5 hj htl
    rw[hu] at hf
    have hcell:w.cell? ⟨b,pre.length+((off+j)*size+t),none⟩=some u:=by
     have hx:=List.getElem?_append_left (l₂:=ex) (nth?_lt hf)
     rw[hf] at hx
     have hy:(pre++(vss.flatten++ex))[pre.length+((off+j)*size+t)]?=some u:=by
      rw[List.getElem?_append_right (by omega),Nat.add_sub_cancel_left];exact hx
     simp only[World.cell?,g3];simpa using hy
    have e1:pre.length+off*size+j*size+t=pre.length+((off+j)*size+t):=by rw[Nat.add_mul];omega
    exact⟨b,pre.length+off*size,had (by omega),.inr (.inl ⟨id,size,els,hob,⟨_,hb⟩,u,by rw[e1];exact hcell⟩),by rw[e1];exact hcell⟩
   ·cases hj
 ·by_cases hk:∃ id ver n,a=.stk id ver n
  ·obtain⟨id,ver,n,rfl⟩:=hk
   have hst:=h.stk_inv
   obtain⟨⟨ad,cap,hv0,hcp⟩,ver',e,size,els,hob,_⟩:=h.stk_inv
   simp only[G0,hob] at hc
   split at hc
   ·rename_i hv
    have hv:=of_decide_eq_true hv
    subst hv
    simp only[Option.some.injEq] at hc
    subst hc
    obtain⟨hn,v0,vss,c1,c2,c3,c4,c5,c6,c7,c8,c9⟩:=Pq hs hst hob
    have hlen:(els.take n).length=n:=by rw[List.length_take];omega
    have:=Rep.sl (S:=Lk S w hp φ) (w:=w) [] [] size (els.take n) (vss.take n) ad cap (Repss.mono Un (c4.take n)) ⟨fun vs hv=>c5 vs (List.mem_of_mem_take hv),fun j vs t u hj hu=>?_⟩ (by rw[hlen];exact hcp)
    ·rw[hlen] at this;rw[hv0];exact this
    ·rw[List.getElem?_take] at hj
     split at hj
     ·rename_i hlt
      obtain⟨g,cap',k1,k2⟩:=c9 (by omega)
      rw[hv0] at k2
      simp only[Value.slice.injEq] at k2
      obtain⟨rfl,_,rfl⟩:=k2
      have htl:t < size:=by rw[← c5 vs (List.mem_of_getElem? hj)];exact nth?_lt hu
      have hf:=Ep c5 hj htl
      rw[hu] at hf
      have hcell:=c3.cells (g:=g) (by rw[k1];rfl) _ _ hf
      rw[Em,Nat.zero_add] at hcell
      exact⟨g,0,rfl,.inr (.inr ⟨id,_,e,size,els,hob,v0,c1,by rw[k1];rfl,u,by rw[Nat.zero_add];exact hcell⟩),by rw[Nat.zero_add];exact hcell⟩
     ·cases hj
   ·cases hc
  ·have:G0 hp a=D9 hp a:=by cases a<;>first | rfl | exact absurd ⟨_,_,_,rfl⟩ ha | exact absurd ⟨_,_,_,rfl⟩ hk
   rw[this] at hc
   exact Rep.mono Un (N5 h hc) HpExt.nil
theorem Abi (hs:Sim P base S w hp φ) {l l':List AV} {vs:List Value} (h:Reps S w hp φ l vs) (hc:Hf hp l=some l'):Reps (Lk S w hp φ) w [] [] l' vs:=by
 induction l generalizing l' vs with
 | nil=>simp only[Hf,Option.some.injEq] at hc;subst hc;cases h;exact .nil _ _
 | cons a l ih =>
  cases h with
  | cons _ _ _ v _ vs h t =>
  simp only[Hf] at hc
  cases h1:G0 hp a with
  | none=>rw[h1] at hc;cases hc
  | some a' =>
   cases h2:Hf hp l with
   | none=>rw[h1,h2] at hc;cases hc
   | some l2=>rw[h1,h2] at hc;cases hc;exact .cons _ _ _ _ _ _ (A05 hs h h1) (ih t h2)
theorem Ag3 (hs:Sim P base S w hp φ) {a a':AV} {v:Value} (h:Rep S w hp φ a v) (hc:Kb hp a=some a'):Rep (Lk S w hp φ) w [] [] a' v:=by
 by_cases ha:∃ cs,a=.agg cs
 ·obtain⟨cs,rfl⟩:=ha
  obtain⟨vs,h1,h2,rfl⟩:=h.agg_inv
  simp only[Kb] at hc
  cases h3:Hf hp cs with
  | none=>rw[h3] at hc;cases hc
  | some cs'=>rw[h3] at hc;cases hc;exact .agg _ _ _ _ (Abi hs h1 h3) h2
 ·have:Kb hp a=G0 hp a:=by cases a<;>first | rfl | exact absurd ⟨_,rfl⟩ ha
  rw[this] at hc
  exact A05 hs h hc
theorem A42 (hs:Sim P base S w hp φ) {l l':List AV} {vs:List Value} (h:Reps S w hp φ l vs) (hc:E6 hp l=some l'):Reps (Lk S w hp φ) w [] [] l' vs:=by
 induction l generalizing l' vs with
 | nil=>simp only[E6,Option.some.injEq] at hc;subst hc;cases h;exact .nil _ _
 | cons a l ih =>
  cases h with
  | cons _ _ _ v _ vs h t =>
  simp only[E6] at hc
  cases h1:Kb hp a with
  | none=>rw[h1] at hc;cases hc
  | some a' =>
   cases h2:E6 hp l with
   | none=>rw[h1,h2] at hc;cases hc
   | some l2=>rw[h1,h2] at hc;cases hc;exact .cons _ _ _ _ _ _ (Ag3 hs h h1) (ih t h2)
theorem A9l (hs:Sim P base S w hp φ):∀ b o,Lk S w hp φ b o→∃ u,stay w b o=some u∧(w.heap.size≤b→u.2.2=(0,0)):=by
 have fin:∀ {b o:Nat} {u:A7k},stay w b o=some u→∃ u,stay w b o=some u∧(w.heap.size≤b→u.2.2=(0,0)):=fun h=>⟨_,h,fun hb=>absurd (Hr h) (by omega)⟩
 rintro b o (h | ⟨_,_,_,_,_,u,h⟩ | ⟨_,_,_,_,_,_,_,_,_,u,h⟩)
 ·obtain⟨v,hv,_⟩:=hs.cell b o h;exact fin hv
 ·obtain⟨f,hf⟩:=Yh h;exact fin hf
 ·obtain⟨f,hf⟩:=Yh h;exact fin hf
theorem Y1 {S':Nat→Nat→Prop} {w':World} {hp':Hp} {φ':List Pl} {a:AV} {v:Value} (hf:Tp a=true) (h:Rep S w hp φ a v):Rep S' w' hp' φ' a v:=by
 cases a<;>first | (cases hf;done) | skip
 case bool=>cases h;exact .bool _ _ _
 case int=>cases h;exact .int _ _ _ _ (by assumption)
 case str=>cases h;exact .str _ _ _ (by assumption)
theorem Anp {S':Nat→Nat→Prop} {w':World} {hp':Hp} {φ':List Pl} {a:AV} {v:Value} (hf:A5p a=true) (h:Rep S w hp φ a v):Rep S' w' hp' φ' a v:=by
 by_cases ha:∃ cs,a=.tup cs
 ·obtain⟨cs,rfl⟩:=ha
  obtain⟨vs,h1,rfl⟩:=h.tup_inv
  simp only[A5p] at hf
  refine .tup _ _ _ _ ?_
  clear h
  induction cs generalizing vs with
  | nil=>cases h1;exact .nil _ _
  | cons a l ih =>
   simp only[List.all_cons,A8] at hf
   cases h1 with | cons _ _ _ v _ vs h t=>exact .cons _ _ _ _ _ _ (Y1 hf.1 h) (ih hf.2 vs t)
 ·have:A5p a=Tp a:=by cases a<;>first | rfl | exact absurd ⟨_,rfl⟩ ha
  rw[this] at hf
  exact Y1 hf h
theorem Y4 {t:TypeId} {a:AV} {v:Value} (h:Rep S w hp φ a v):Rep S w hp φ (Tv P t a) v:=by
 cases a<;>simp only[Tv]<;>first | exact h | skip
 cases Fr P t with
 | none=>exact h
 | some e =>
  have:=h.nils_inv
  subst this
  exact .sl _ _ _ [] [] none 0 .nil ⟨by simp,fun j vs t u hj=>by simp at hj⟩ ⟨Nat.le_refl _,by unfold maxLen;omega,fun _=>rfl⟩
theorem Of {ts:List TypeId} {l:List AV} {vs:List Value} (h:Reps S w hp φ l vs):Reps S w hp φ (Jx P ts l) vs:=by
 induction ts generalizing l vs with
 | nil=>cases l<;>exact h
 | cons t ts ih=>cases l with
   | nil=>exact h
   | cons a l=>cases h with | cons _ _ _ v _ vs h t'=>exact .cons _ _ _ _ _ _ (Y4 h) (ih t')
theorem Ail (ht:∀ x,Rep S w hp φ (ev tm x) (e x)) {size:Nat} {tys:List TypeId} {zc:List AV} {zs:List Value} (hzr:Reps S w [] [] zc zs) (hzo:E5 zs) (hzl:zs.length=size):∀ (m:Nat) (ps:List (Nat×Operand)) (k:Nat) (els:List (List AV)) (cells:List Value),Dt P tys hp size tm zc m k ps=some els→cells.length=(k+m)*size→cells.drop (k*size)=(List.replicate m zs).flatten →
 ∃ vss,Repss S w els vss∧(∀ vs ∈ vss,vs.length=size)∧vss.length=m∧Instr.fill (fun i=>some (i*size,size)) cells.toArray (ps.map fun x=>(x.1,e x.2))=some (cells.take (k*size)++vss.flatten).toArray:=by
 intro m
 induction m with
 | zero =>
  intro ps k els cells h hl hd
  cases ps with
  | nil =>
   simp only[Dt,Option.some.injEq] at h
   subst h
   refine⟨[],.nil,by simp,rfl,?_⟩
   rw[Nat.add_zero] at hl
   simp[Instr.fill,List.take_of_length_le (Nat.le_of_eq hl)]
  | cons p ps=>simp[Dt] at h
 | succ m ih =>
  intro ps k els cells h hl hd
  have hmul:(k+(m+1))*size=k*size+size+m*size:=by rw[Nat.add_mul,Nat.add_mul];omega
  have e1:(k+1)*size=k*size+size:=by rw[Nat.add_mul];omega
  have hl2:cells.length=(k+1+m)*size:=by rw[hl];congr 1;omega
  have hd2:cells.drop ((k+1)*size)=(List.replicate m zs).flatten:=by
   rw[e1,← List.drop_drop,hd,List.replicate_succ,List.flatten_cons,List.drop_append_of_le_length (Nat.le_of_eq hzl.symm),List.drop_of_length_le (Nat.le_of_eq hzl),List.nil_append]
  have htk:cells.take ((k+1)*size)=cells.take (k*size)++zs:=by
   rw[e1,List.take_add,hd,List.replicate_succ,List.flatten_cons,List.take_append_of_le_length (Nat.le_of_eq hzl.symm),List.take_of_length_le (Nat.le_of_eq hzl)]
  have zero:∀ ps',Dt P tys hp size tm zc m (k+1) ps'=Dt P tys hp size tm zc m (k+1) ps'→∀ l,Dt P tys hp size tm zc m (k+1) ps'=some l→els=zc :: l→∃ vss,Repss S w els vss∧(∀ vs ∈ vss,vs.length=size)∧vss.length=m+1∧Instr.fill (fun i=>some (i*size,size)) cells.toArray (ps'.map fun x=>(x.1,e x.2))=some (cells.take (k*size)++vss.flatten).toArray:=by
   intro ps' _ l hrest he
   subst he
   obtain⟨vss,g1,g2,g3,g4⟩:=ih ps' (k+1) l cells hrest hl2 hd2
   refine⟨zs :: vss,.cons _ _ _ _ (Reps.lift hzr) hzo g1,by simpa [hzl] using g2,by simp[g3],?_⟩
   rw[g4,htk,List.flatten_cons,List.append_assoc]
  cases ps with
  | nil =>
   simp only[Dt] at h
   cases hrest:Dt P tys hp size tm zc m (k+1) [] with
   | none=>rw[hrest] at h;cases h
   | some l =>
    rw[hrest] at h
    exact zero [] rfl l hrest (Option.some.inj h).symm
  | cons p rest =>
   obtain⟨i,x⟩:=p
   simp only[Dt] at h
   split at h
   ·rename_i hik
    have hik:i=k:=of_decide_eq_true hik
    subst hik
    split at h
    ·rename_i hc
     simp only[A8,Ai] at hc
     obtain⟨hsz,hone⟩:=hc
     cases hcl:D0 hp (Jx P tys (ev tm x).cells) with
     | none=>rw[hcl] at h;cases h
     | some c =>
      rw[hcl] at h
      simp only at h
      cases hrest:Dt P tys hp size tm zc m (i+1) rest with
      | none=>rw[hrest] at h;cases h
      | some l =>
       rw[hrest] at h
       cases h
       have hx:=ht x
       have hcr:=hx.cells_rep hone
       have hlen:=hcr.length
       have hs2:(e x).cells.size=size:=by rw[← hsz,hlen];simp
       have hfold:=Wo (i*size) (e x).cells cells.toArray (by rw[hs2];simp;omega)
       have hb:(decide ((e x).cells.size≠size) || decide (i*size+(e x).cells.size > cells.toArray.size))=false:=by
        simp only[List.size_toArray,Bool.or_eq_false_iff,decide_eq_false_iff_not];omega
       have hl1:(cells.take (i*size)).length=i*size:=by rw[List.length_take];omega
       have hl3:(e x).cells.toList.length=size:=by simpa using hs2
       obtain⟨vss,g1,g2,g3,g4⟩:=ih rest (i+1) l (cells.take (i*size)++(e x).cells.toList++cells.drop (i*size+size)) hrest (by
        rw[List.length_append,List.length_append,hl1,hl3,List.length_drop,← hl2];omega) (by
        rw[e1,List.drop_append_of_le_length (by rw[List.length_append,hl1,hl3];omega),List.drop_of_length_le (by rw[List.length_append,hl1,hl3];omega),List.nil_append,← e1,hd2])
       refine⟨(e x).cells.toList :: vss,.cons _ _ _ _ (Mv (Of hcr) hcl) (hx.cells_ones hone) g1,by simpa [hs2] using g2,by simp[g3],?_⟩
       simp only[List.map_cons,Instr.fill,hb,Bool.false_eq_true,if_false,hfold]
       rw[hs2]
       refine g4.trans ?_
       congr 2
       rw[e1,List.take_append_of_le_length (by rw[List.length_append,hl1,hl3];omega),List.take_of_length_le (l:=cells.take (i*size)++(e x).cells.toList) (by rw[List.length_append,hl1,hl3];omega)]
       simp only[List.flatten_cons,List.append_assoc]
    ·cases h
   ·cases hrest:Dt P tys hp size tm zc m (k+1) ((i,x) :: rest) with
    | none=>rw[hrest] at h;cases h
    | some l =>
     rw[hrest] at h
     exact zero ((i,x) :: rest) rfl l hrest (Option.some.inj h).symm
end
section
variable {S:Nat→Nat→Prop} {w:World} {hp:Hp} {φ:List Pl} {P:Program} {base:Nat} {e:Operand→Value} {o:Oper} {tm:Tm} {ρ:Type} {r:ρ} {K:AV→Option ρ}
def FreshS (P:Program) (S:Nat→Nat→Prop) (w:World) (e:Operand→Value) (o:Oper) (et:TypeId) (size:Nat) (els:List (List AV)):Prop:=∃ vss,Repss S w els vss∧(∀ vs ∈ vss,vs.length=size)∧els.length≤maxLen ∧
 (execOp e o).run P w=.ok (.value (.slice (some ⟨w.heap.size,0,none⟩) els.length els.length)) (w.alloc (.cells vss.flatten.toArray et))
theorem Ace (z:Array Value) (k:Nat):madeCells z (k*z.size)=(List.replicate k z.toList).flatten.toArray:=by
 have hall:∀ vs ∈ List.replicate k z.toList,vs.length=z.size:=fun vs hv=>by rw[List.eq_of_mem_replicate hv];simp
 apply Array.ext
 ·rw[size_madeCells];simp
 ·intro j j1 j2
  rw[size_madeCells] at j1
  have hz:0 < z.size:=Nat.pos_of_ne_zero fun h0=>by rw[h0,Nat.mul_zero] at j1;omega
  have hm:j % z.size < z.size:=Nat.mod_lt _ hz
  have hd:j / z.size < k:=Nat.div_lt_of_lt_mul (by rw[Nat.mul_comm];exact j1)
  have h1:=Ep hall (i:=j / z.size) (j:=j % z.size) (vs:=z.toList) (by rw[List.getElem?_replicate,if_pos hd]) hm
  rw[Nat.div_add_mod' j z.size] at h1
  have h2:(List.replicate k z.toList).flatten.toArray[j]?=z[j % z.size]?:=by simpa using h1
  rw[Array.getElem?_eq_getElem j2,Array.getElem?_eq_getElem hm] at h2
  rw[Option.some.inj h2]
  simp[madeCells,hm]
theorem T3 (hs:Sim P base S w hp φ) (ht:∀ x,Rep S w hp φ (ev tm x) (e x)) {t et:TypeId} {n:Nat} {ps:Array (Nat×Operand)} (ho:o.op=.buildSlice t n ps) (hu:P.underlying t=some (.slice et)) (hz:0 < P.cellsOf et) (hsz:n*P.cellsOf et≤16777216) {z:AV} (hzero:zero P et=some z) (hzl:z.cells.length=P.cellsOf et) (hz1:z.cells.all AV.one=true)
 {els:List (List AV)} {tys:List TypeId} {zc:List AV} (hzc:D0 [] (Jx P tys z.cells)=some zc) (h:Dt P tys hp (P.cellsOf et) tm zc n 0 ps.toList=some els):FreshS P S w e o et (P.cellsOf et) els:=by
 obtain⟨i,v,hi,hzv,hlit⟩:=Ms hzero
 have hsize:(sizeOf et).run P w=.ok (P.cellsOf et) w:=L0 hz
 by_cases h0:¬ 0 < n
 ·have hn:n=0:=by omega
  subst hn
  have hnil:ps.toList=[]∧els=[]:=by
   cases hps:ps.toList with
   | nil=>rw[hps] at h;exact⟨rfl,by simpa [Dt] using h.symm⟩
   | cons p l=>rw[hps] at h;simp[Dt] at h
  have hps:ps=#[]:=by rw[← Array.toList_inj,hnil.1]
  obtain⟨_,he⟩:=hnil
  subst hps;subst he
  refine⟨[],.nil,by simp,by simp,?_⟩
  simp[execOp,ho,Instr.buildSlice,Sem.run_bind,Sem.run_pure,Result.andThen_ok,run_underlying hu,hsize,newRow,run_newObj_alloc,Instr.fill]
  congr 2
  apply Array.ext<;>simp
 have h0:0 < n:=Decidable.not_not.1 h0
 have hrep:Rep S w [] [] z v:=by rw[hlit];exact Oj v
 have hcr:=hrep.cells_rep hz1
 have hco:=hrep.cells_ones hz1
 have hvl:v.cells.size=P.cellsOf et:=by
  have:=hcr.length
  rw[hzl] at this;simpa using this.symm
 have hzr:(zeroValue et).run P w=.ok v w:=by simp[zeroValue,typeInfo,hi,hzv]
 have hcells:(Array.range (n*P.cellsOf et)).map (fun k=>v.cells[k % v.cells.size]!)=(List.replicate n v.cells.toList).flatten.toArray:=by
  have:=Ace v.cells n
  rw[hvl] at this
  exact this
 obtain⟨vss,g1,g2,g3,g4⟩:=Ail ht (Mv (Of (Reps.mono (SExt.refl _ _) hcr HpExt.nil)) hzc) hco (by simpa using hvl) n ps.toList 0 els (List.replicate n v.cells.toList).flatten h (by
  rw[Nat.zero_add,List.length_flatten];simp[hvl]) (by rw[Nat.zero_mul,List.drop_zero])
 have hels:els.length=n:=by rw[g1.length,g3]
 rw[Nat.zero_mul,List.take_zero,List.nil_append] at g4
 refine⟨vss,g1,g2,by rw[hels];unfold maxLen;have:n≤n*P.cellsOf et:=Nat.le_mul_of_pos_right _ hz;omega,?_⟩
 rw[hels]
 have n1:¬ (n*P.cellsOf et > 2 ^ 24):=by omega
 have n2:¬ (n*P.cellsOf et=0):=by
  have:0 < n*P.cellsOf et:=Nat.mul_pos h0 hz
  omega
 have hmap:(ps.map fun x=>(x.1,e x.2)).toList=ps.toList.map fun x=>(x.1,e x.2):=by simp
 simp only[execOp,ho,Instr.buildSlice,Sem.run_bind,Sem.run_pure,Result.andThen_ok,run_underlying hu,hsize,if_neg n1,if_neg n2,hzr,hcells,hmap,g4,newRow,run_newObj_alloc]
theorem U2 (hs:Sim P base S w hp φ) (ht:∀ x,Rep S w hp φ (ev tm x) (e x)) {t et:TypeId} {n c:Operand} (ho:o.op=.makeSlice t n c) (hu:P.underlying t=some (.slice et)) {l:Int} (hn:ev tm n=.int .i64 l) (hc:ev tm c=.int .i64 l) (h0:0≤l) (hb:P.bytesOf et*l≤140737488355328)
 {z:AV} (hzero:zero P et=some z) (hzl:z.cells.length=P.cellsOf et) (hz1:z.cells.all AV.one=true) {tys:List TypeId} {zc:List AV} (hzc:D0 [] (Jx P tys z.cells)=some zc):FreshS P S w e o et (P.cellsOf et) (List.replicate l.toNat zc):=by
 obtain⟨i,v,hi,hzv,hlit⟩:=Ms hzero
 have hrep:Rep S w [] [] z v:=by rw[hlit];exact Oj v
 have hcr:=hrep.cells_rep hz1
 have hco:=hrep.cells_ones hz1
 have hvl:v.cells.toList.length=P.cellsOf et:=by rw[← hcr.length,hzl]
 have h1:=ht n;rw[hn] at h1
 have h2:=ht c;rw[hc] at h2
 obtain⟨e1,w1⟩:=h1.int_inv
 obtain⟨e2,_⟩:=h2.int_inv
 have w1':l≤9223372036854775807:=by
  simp[Lit.wf,IntKind.min,IntKind.max,IntKind.bits,IntKind.signed] at w1;omega
 have hbytes:P.bytesOf et=i.bytes:=by simp[Program.bytesOf,hi]
 have hsz:P.cellsOf et=i.size:=by simp[Program.cellsOf,hi]
 have hrun:=run_make (P:=P) w t et i v hu hi hzv .i64 .i64 l l h0 (Int.le_refl _) (by rw[hbytes] at hb;omega) w1'
 have hvs:i.size=v.cells.size:=by rw[← hsz,← hvl];simp
 rw[hvs,Ace] at hrun
 exact⟨_,Repss.replicate (Mv (Of (Reps.mono (SExt.refl _ _) hcr HpExt.nil)) hzc) hco l.toNat,fun vs hv=>by rw[List.eq_of_mem_replicate hv];exact hvl,by rw[List.length_replicate];unfold maxLen;omega,by
  rw[List.length_replicate]
  simp only[execOp,ho,e1,e2,Sem.run_bind,Sem.run_pure,Result.andThen_ok,hrun]⟩
theorem FreshS.stay {et:TypeId} {size:Nat} {els:List (List AV)} (h:FreshS P S w e o et size els) (hs:Sim P base S w hp φ):Acts P base S w hp φ e o (.sl size els) hp:=by
 obtain⟨vss,h1,h2,h3,h4⟩:=h
 exact Amk hs et h1 h2 [] h3 h4
theorem FreshS.row {et:TypeId} {size:Nat} {els:List (List AV)} (h:FreshS P S w e o et size els) (hs:Sim P base S w hp φ) (hsz:P.cellsOf et=size) (hz:0 < size):Acts P base S w hp φ e o (.row hp.length els.length) (hp++[.row et size els]):=by
 obtain⟨vss,h1,h2,h3,h4⟩:=h
 obtain⟨S',g1,g2,g3⟩:=hs.alloc_row (e:=et) h1 h2 hsz hz h3
 exact⟨_,S',_,_,.inl h4,g3,g1,g2⟩
theorem FreshS.stk {et:TypeId} {size:Nat} {els:List (List AV)} (h:FreshS P S w e o et size els) (hs:Sim P base S w hp φ) (hsz:P.cellsOf et=size) (hz:0 < size):Acts P base S w hp φ e o (.stk hp.length 0 els.length) (hp++[.stk 0 et size els]):=by
 obtain⟨vss,h1,h2,h3,h4⟩:=h
 obtain⟨g1,g2⟩:=hs.alloc_stk (e:=et) h1 h2 hsz hz h3
 exact⟨_,S,_,_,.inl h4,.stk _ _ _ _ _ _ ⟨⟨some ⟨w.heap.size,0,none⟩,els.length,rfl,⟨Nat.le_refl _,h3,fun h=>by cases h⟩⟩,0,et,size,els,by rw[nth?_eq];simp,Nat.le_refl _,fun _=>⟨Nat.le_refl _,.slice (some ⟨w.heap.size,0,none⟩) els.length els.length,by rw[← hs.len];simp,rfl⟩⟩,g1,g2⟩
theorem FreshS.arr {et:TypeId} {size:Nat} {els:List (List AV)} (h:FreshS P S w e o et size els) (hs:Sim P base S w hp φ):Acts P base S w hp φ e o (.own hp.length 0 els.length) (hp++[.arr size els]):=by
 obtain⟨vss,h1,h2,h3,h4⟩:=h
 obtain⟨g1,g2⟩:=hs.alloc_arr (E:=et) h1 h2 []
 rw[List.append_nil] at g1 g2
 exact⟨_,S,_,_,.inl h4,.own _ _ hp.length 0 els.length w.heap.size size els els.length 0 (by rw[← hs.len];simp) (by rw[nth?_eq];simp) (by omega) (some ⟨w.heap.size,0,none⟩) (fun _=>by simp) ⟨Nat.le_refl _,h3,fun h=>by cases h⟩,g1,g2⟩
theorem A8x {g:Nat} {cs:Array Value} (hg:base≤g):Below base w (w.setRow g cs) :=
 ⟨rfl,rfl,rfl,by simp,fun k hk=>setRow_other w g k cs (by omega)⟩
theorem I4 (w:World) (g:Nat) (cs:Array Value) (b o:Nat) (h:b≠g):stay (w.setRow g cs) b o=stay w b o:=Id (setRow_other w g b cs h) o
theorem Sim.write (hs:Sim P base S w hp φ) {id b:Nat} {o':Ob} (hat:Af φ id=some b) (hns:∀ o,¬ S b o) (cs:Array Value) (hE:HpExt hp φ (hp.set id o') φ) (hid:id < hp.length) (hob:ObOk P base S (w.setRow b cs) (hp.set id o') φ id o') :
 Sim P base S (w.setRow b cs) (hp.set id o') φ∧Trans base S w hp φ S (w.setRow b cs) (hp.set id o') φ:=by
 have hS:SExt S w S (w.setRow b cs):=fun b' o h=>⟨h,I4 w b cs b' o (fun e=>by
  have e:b'=b:=e
  subst e;exact hns o h)⟩
 refine⟨⟨by simpa using hs.len,by simpa using hs.low,fun b' o h=>?_,fun j oj hj=>?_,hs.apart⟩,⟨hS,hE,A8x (hs.block_lt hat).1,fun _ _ h=>.inl h,fun _ _ h=>.inl h,Ie,fun k hk=>setRow_other w b k cs fun e=>(Hz hk).2 id (by rw[e];exact hat)⟩⟩
 ·obtain⟨v,hv,hf⟩:=hs.cell b' o h
  exact⟨v,(hS b' o h).2.trans hv,hf⟩
 ·by_cases hji:j=id
  ·subst hji
   rw[List.getElem?_set_self hid] at hj
   cases hj
   exact hob
  ·rw[List.getElem?_set_ne (Ne.symm hji)] at hj
   exact(hs.obj j oj hj).keep hS hE rfl fun b' hb'=>⟨setRow_other w b b' cs fun e=>hji (hs.apart j id b (e ▸ hb') hat),fun _=>.rfl⟩
theorem Ui {t:TypeId} {g off:Nat} {E:TypeId} {cur:Array Value} {v:Value} (hg:w.heap[g]?=some (.cells cur E (0,0))) (hsz:v.cells.size=P.cellsOf t) (hpos:0 < P.cellsOf t) (hl:off+P.cellsOf t≤cur.size) (h1:E5 v.cells.toList) :
 (Instr.storeAt t (.pointer (some ⟨g,off,none⟩)) v).run P w=.ok () (w.setRow g (cur.toList.take off++v.cells.toList++cur.toList.drop (off+P.cellsOf t)).toArray):=by
 have hsize:=L0 (P:=P) (w:=w) hpos
 have hst:=run_storeCells_at P g off E v.cells.toList 0 cur w hg (by simp only[Nat.add_zero,Array.length_toList];omega) h1
 simp only[Nat.add_zero,Array.length_toList,hsz] at hst
 have hne:¬ (v.cells.size≠P.cellsOf t):=by omega
 simp only[Instr.storeAt,Instr.sureAddr,storeVar,Sem.run_bind,Sem.run_pure,Result.andThen_ok,hsize,if_neg hne,hst]
theorem Agu (hp:Hp) (φ:List Pl) {id:Nat} {E:TypeId} {cs cs':List AV} (hob:hp[id]?=some (.var E cs)):HpExt hp φ (hp.set id (.var E cs')) φ:=by
 have hid:=nth?_lt hob
 refine⟨fun _ _ _ h=>h,fun j size els h=>⟨els,?_,rfl⟩,fun j e size els h=>⟨[],?_,fun _ v hv=>hv⟩,fun j ver e size els h=>⟨ver,els,?_,Nat.le_refl _,fun _=>⟨rfl,rfl⟩⟩⟩
 ·rw[nth?_eq] at h ⊢
  rw[List.getElem?_set_ne (fun e=>by subst e;rw[hob] at h;cases h)];exact h
 ·rw[nth?_eq] at h ⊢
  rw[List.getElem?_set_ne (fun e=>by subst e;rw[hob] at h;cases h),List.append_nil];exact h
 ·rw[nth?_eq] at h ⊢
  rw[List.getElem?_set_ne (fun e=>by subst e;rw[hob] at h;cases h)];exact h
theorem V8 (hs:Sim P base S w hp φ) (ht:∀ x,Rep S w hp φ (ev tm x) (e x)) {t:TypeId} {a x:Operand} (ho:o.op=.store t a x) (hl:(ev tm x).cells.length=P.cellsOf t) (hpos:0 < P.cellsOf t) (h1:(ev tm x).cells.all AV.one=true)
 {id off:Nat} (ha:ev tm a=.ptr id off∨ev tm a=.vel id off) {E:TypeId} {cs:List AV} (hob:nth? hp id=some (.var E cs)) (hoff:off+P.cellsOf t≤cs.length):Acts P base S w hp φ e o .junk (Bq hp id (.var E (Bn cs off (ev tm x).cells))):=by
 rw[nth?_eq] at hob
 rw[B8]
 have hx:=ht x;have haa:=ht a
 obtain⟨b,hb,he⟩:∃ b,φ[id]?=some (.blk b)∧e a=.pointer (some ⟨b,off,none⟩):=by
  rcases ha with ha | ha<;>rw[ha] at haa
  ·exact haa.ptr_inv
  ·exact haa.vel_inv
 obtain⟨b',vs,E',g1,g2,⟨ex,g3⟩,g4,g5,g6⟩:=hs.obj id _ hob
 rw[hb] at g1;cases g1
 have hcr:=hx.cells_rep h1
 have hco:=hx.cells_ones h1
 have hlen:(e x).cells.toList.length=P.cellsOf t:=by rw[← hcr.length];exact hl
 have hlv:=g4.length
 have hrun:=Ui (P:=P) (t:=t) (off:=off) (v:=e x) g3 (by simpa using hlen) hpos (by simp only[List.size_toArray,List.length_append];omega) hco
 rw[show(vs++ex).toArray.toList.take off++(e x).cells.toList++(vs++ex).toArray.toList.drop (off+P.cellsOf t)=(vs.take off++(e x).cells.toList++vs.drop (off+P.cellsOf t))++ex from by
  rw[List.take_append_of_le_length (by omega),List.drop_append_of_le_length (by omega)]
  simp only[List.append_assoc]] at hrun
 have hE:=Agu hp φ (cs':=Bn cs off (ev tm x).cells) hob
 have hat:Af φ id=some b:=by simp[Af,hb]
 have hS:∀ w':World,(∀ b' o,S b' o→stay w' b' o=stay w b' o)→SExt S w S w':=fun w' h b' o hb'=>⟨hb',h b' o hb'⟩
 have hS':SExt S w S (w.setRow b ((vs.take off++(e x).cells.toList++vs.drop (off+P.cellsOf t))++ex).toArray):=hS _ fun b' o hb'=>I4 w b _ b' o fun e1=>by
  have e1:b'=b:=e1
  subst e1;exact g6 o hb'
 obtain⟨s1,s2⟩:=hs.write hat g6 ((vs.take off++(e x).cells.toList++vs.drop (off+P.cellsOf t))++ex).toArray hE (nth?_lt hob) ⟨b,vs.take off++(e x).cells.toList++vs.drop (off+P.cellsOf t),E',hb,g2,⟨ex,setRow_heap w b _ _ E' (0,0) g3⟩,by
  have h0:Reps S w hp φ (Bn cs off (ev tm x).cells) (vs.take off++(e x).cells.toList++vs.drop (off+P.cellsOf t)):=by
   rw[Bn,hl,List.append_assoc]
   exact Reps.append (g4.take off) (Reps.append hcr (g4.drop (off+P.cellsOf t)))
  exact Reps.mono hS' h0 hE,by
  intro v hv
  rcases List.mem_append.1 hv with hv | hv
  ·rcases List.mem_append.1 hv with hv | hv
   ·exact g5 v (List.mem_of_mem_take hv)
   ·exact hco v hv
  ·exact g5 v (List.mem_of_mem_drop hv),g6⟩
 refine⟨undef,S,φ,_,.inr ⟨?_,rfl⟩,.junk _ _ _,s1,s2⟩
 simp only[execOp,ho,he,Sem.run_bind,Sem.run_pure,Result.andThen_ok,hrun]
theorem Zz {α:Type} {vss:List (List α)} {size:Nat} (h:∀ vs ∈ vss,vs.length=size) {i off:Nat} {vs:List α} (hi:vss[i]?=some vs) (xs:List α) (hx:off+xs.length≤size) :
 vss.flatten.take (i*size+off)++xs++vss.flatten.drop (i*size+off+xs.length)=(vss.set i (vs.take off++(xs++vs.drop (off+xs.length)))).flatten:=by
 induction vss generalizing i with
 | nil=>simp at hi
 | cons a t ih =>
  have ha:=h a (by simp)
  cases i with
  | zero =>
   simp at hi;subst hi
   simp only[Nat.zero_mul,Nat.zero_add,List.flatten_cons,List.set_cons_zero]
   rw[List.take_append_of_le_length (by omega),List.drop_append_of_le_length (by omega)]
   simp[List.append_assoc]
  | succ i =>
   have:=ih (fun vs hv=>h vs (by simp[hv])) (i:=i) (by simpa using hi)
   rw[List.flatten_cons,List.set_cons_succ,List.flatten_cons,← this]
   rw[show(i+1)*size+off=a.length+(i*size+off) by rw[ha,Nat.succ_mul];omega,List.take_append,List.take_of_length_le (by omega),show a.length+(i*size+off) - a.length=i*size+off by omega]
   rw[show a.length+(i*size+off)+xs.length=a.length+(i*size+off+xs.length) by omega,List.drop_append,List.drop_of_length_le (by omega),show a.length+(i*size+off+xs.length) - a.length=i*size+off+xs.length by omega]
   simp[List.append_assoc]
theorem Tx {α:Type} {vss:List (List α)} {size:Nat} (h:∀ vs ∈ vss,vs.length=size) (i:Nat) {vs:List α} (hv:vs.length=size):∀ us ∈ vss.set i vs,us.length=size:=by
 intro us hu
 rcases List.mem_or_eq_of_mem_set hu with hu | rfl
 ·exact h us hu
 ·exact hv
theorem A63 (hp:Hp) (φ:List Pl) {id size:Nat} {els els':List (List AV)} (hob:hp[id]?=some (.arr size els)) (hl:els'.length=els.length):HpExt hp φ (hp.set id (.arr size els')) φ:=by
 have hid:=nth?_lt hob
 refine⟨fun _ _ _ h=>h,fun j sz es h=>?_,fun j e sz es h=>⟨[],?_,fun _ v hv=>hv⟩,fun j ver e sz es h=>⟨ver,es,?_,Nat.le_refl _,fun _=>⟨rfl,rfl⟩⟩⟩
 ·rw[nth?_eq] at h
  simp only[nth?_eq]
  by_cases hj:j=id
  ·subst hj
   rw[hob] at h;cases h
   exact⟨els',List.getElem?_set_self hid,hl⟩
  ·exact⟨es,by rw[List.getElem?_set_ne (Ne.symm hj)];exact h,rfl⟩
 ·rw[nth?_eq] at h ⊢
  rw[List.getElem?_set_ne (fun e=>by subst e;rw[hob] at h;cases h),List.append_nil];exact h
 ·rw[nth?_eq] at h ⊢
  rw[List.getElem?_set_ne (fun e=>by subst e;rw[hob] at h;cases h)];exact h
theorem Xb (hp:Hp) {φ φ':List Pl} {id ver:Nat} {e:TypeId} {size:Nat} {els els':List (List AV)} {ver':Nat} (hob:hp[id]?=some (.stk ver e size els)) (hle:ver≤ver') (hv:ver=ver'→els'.length=els.length∧φ'[id]?=φ[id]?) (hφ:∀ j,j≠id→φ'[j]?=φ[j]?) (hb:∀ p:Pl,p.isBlk=true→φ[id]?≠some p):HpExt hp φ (hp.set id (.stk ver' e size els')) φ':=by
 have hid:=nth?_lt hob
 refine⟨fun j p hp' h=>?_,fun j sz es h=>⟨es,?_,rfl⟩,fun j e sz es h=>⟨[],?_,fun _ v hv=>?_⟩,fun j vr e2 sz es h=>?_⟩
 ·rw[hφ j (fun e=>by subst e;exact hb p hp' h)];exact h
 ·rw[nth?_eq] at h ⊢
  rw[List.getElem?_set_ne (fun e=>by subst e;rw[hob] at h;cases h)];exact h
 ·rw[nth?_eq] at h ⊢
  rw[List.getElem?_set_ne (fun e=>by subst e;rw[hob] at h;cases h),List.append_nil];exact h
 ·rw[nth?_eq] at h
  rw[hφ j (fun e=>by subst e;rw[hob] at h;cases h)];exact hv
 ·rw[nth?_eq] at h
  simp only[nth?_eq]
  by_cases hj:j=id
  ·subst hj
   rw[hob] at h;cases h
   exact⟨ver',els',List.getElem?_set_self hid,hle,hv⟩
  ·exact⟨vr,es,by rw[List.getElem?_set_ne (Ne.symm hj)];exact h,Nat.le_refl _,fun _=>⟨rfl,hφ j hj⟩⟩
theorem Kw {e:TypeId} {size:Nat} {v:Value} {n:Nat} {xs:List Value} (h:w.ownsRow base e size v n xs):(v=.slice none 0 0∧n=0)∨∃ g cap ex,v=.slice (some ⟨g,0,none⟩) n cap∧base≤g∧w.heap[g]?=some (.cells (xs++ex).toArray e (0,0))∧n≤cap∧cap≤maxLen∧(xs++ex).length=cap*size:=by
 rcases h.2 with h0 | ⟨g,cap,cur,h1,h2,h3,h4,h5,h6,h7⟩
 ·exact .inl h0
 ·have e1:xs++cur.toList.drop (n*size)=cur.toList:=by rw[← h7];exact List.take_append_drop _ _
  refine .inr ⟨g,cap,cur.toList.drop (n*size),h1,h2,?_,h4,h5,?_⟩
  ·rw[e1];simpa using h3
  ·rw[e1];simpa using h6
theorem A6a {e:TypeId} {size:Nat} {n g cap:Nat} {xs ex:List Value} (hl:xs.length=n*size) (hb:base≤g) (hg:w.heap[g]?=some (.cells (xs++ex).toArray e (0,0))) (hn:n≤cap) (hc:cap≤maxLen) (hx:(xs++ex).length=cap*size):w.ownsRow base e size (.slice (some ⟨g,0,none⟩) n cap) n xs :=
 ⟨hl,.inr ⟨g,cap,_,rfl,hb,hg,hn,hc,by simpa using hx,by simp[← hl]⟩⟩
theorem Alh {e:TypeId} {size:Nat} {v:Value} {n k:Nat} {xs:List Value} (h:w.ownsRow base e size v n xs) (hk:k≤n):w.ownsRow base e size (Ud v k) k (xs.take (k*size)):=by
 have hlen:=h.1
 have hks:k*size≤n*size:=Nat.mul_le_mul_right _ hk
 rcases Kw h with ⟨rfl,rfl⟩ | ⟨g,cap,ex,rfl,h2,h3,h4,h5,h6⟩
 ·have:k=0:=by omega
  subst this
  exact⟨by simp,.inl ⟨rfl,rfl⟩⟩
 ·refine A6a (ex:=xs.drop (k*size)++ex) (by rw[List.length_take];omega) h2 ?_ (by omega) h5 ?_
  ·rw[← List.append_assoc,List.take_append_drop];exact h3
  ·rw[← List.append_assoc,List.take_append_drop];exact h6
theorem Pd {α:Type} {vss:List (List α)} {size:Nat} (h:∀ vs ∈ vss,vs.length=size) (k:Nat):(vss.take k).flatten=vss.flatten.take (k*size):=by
 induction vss generalizing k with
 | nil=>simp
 | cons a t ih =>
  cases k with
  | zero=>simp
  | succ k =>
   have ha:=h a (by simp)
   rw[List.take_succ_cons,List.flatten_cons,List.flatten_cons,ih (fun vs hv=>h vs (by simp[hv])) k,List.take_append,ha]
   rw[show(k+1)*size - size=k*size by rw[Nat.succ_mul];omega,List.take_of_length_le (show a.length≤(k+1)*size by rw[ha,Nat.succ_mul];omega)]
theorem A58 (hs:Sim P base S w hp φ) (ht:∀ x,Rep S w hp φ (ev tm x) (e x)) {t:TypeId} {a x:Operand} (ho:o.op=.store t a x) (hl:(ev tm x).cells.length=P.cellsOf t) (hpos:0 < P.cellsOf t) (h1:(ev tm x).cells.all AV.one=true)
 {id i off:Nat} (ha:ev tm a=.pte id i off) {size:Nat} {els:List (List AV)} (hob:nth? hp id=some (.arr size els)) {el:List AV} (hel:nth? els i=some el) {c:List AV} (hc:D0 hp (ev tm x).cells=some c) (hoff:off+P.cellsOf t≤el.length) :
 Acts P base S w hp φ e o .junk (Bq hp id (.arr size (Bq els i (Bn el off c)))):=by
 rw[nth?_eq] at hob hel
 rw[B8,B8]
 have hx:=ht x;have haa:=ht a
 rw[ha] at haa
 obtain⟨b,size',els',o0,hb,hob',he⟩:=haa.pte_inv
 rw[nth?_eq,hob] at hob';cases hob'
 obtain⟨b',vss,ex,E',pre,g1,g2,g3,g4,g5,g6⟩:=hs.obj id _ hob
 rw[hb] at g1;cases g1
 obtain⟨vs,hv1,hv2,hv3⟩:=g4.get hel
 have hvs:=g5 vs (List.mem_of_getElem? hv1)
 have hcr:=hx.cells_rep h1
 have hco:=hx.cells_ones h1
 have hcl:=Mv hcr hc
 have hlen:(e x).cells.toList.length=P.cellsOf t:=by rw[← hcr.length];exact hl
 have hlc:c.length=P.cellsOf t:=by rw[hcl.length];exact hlen
 have hlv:=hv2.length
 have hle:i*size+size≤vss.flatten.length:=by
  rw[Da g5]
  have:=nth?_lt hv1
  calc i*size+size=(i+1)*size:=by rw[Nat.succ_mul]
   _≤vss.length*size:=Nat.mul_le_mul_right _ this
 have hrun:=Ui (P:=P) (t:=t) (off:=pre.length+(i*size+off)) (v:=e x) g3 (by simpa using hlen) hpos (by simp only[List.size_toArray,List.length_append];omega) hco
 have hfl:=Zz g5 hv1 (e x).cells.toList (off:=off) (by omega)
 rw[hlen] at hfl
 have hfl2:(vss.flatten++ex).take (i*size+off)++(e x).cells.toList++(vss.flatten++ex).drop (i*size+off+P.cellsOf t)=(vss.set i (vs.take off++((e x).cells.toList++vs.drop (off+P.cellsOf t)))).flatten++ex:=by
  rw[← hfl,List.take_append_of_le_length (by omega),List.drop_append_of_le_length (by omega),List.append_assoc,List.append_assoc,List.append_assoc]
 have hfl3:(pre++(vss.flatten++ex)).take (pre.length+(i*size+off))++(e x).cells.toList++(pre++(vss.flatten++ex)).drop (pre.length+(i*size+off)+P.cellsOf t)=pre++((vss.set i (vs.take off++((e x).cells.toList++vs.drop (off+P.cellsOf t)))).flatten++ex):=by
  rw[← hfl2,List.take_append,List.drop_append,List.take_of_length_le (by omega),List.drop_of_length_le (show pre.length≤pre.length+(i*size+off)+P.cellsOf t by omega),Nat.add_sub_cancel_left,show pre.length+(i*size+off)+P.cellsOf t - pre.length=i*size+off+P.cellsOf t by omega]
  simp only[List.nil_append,List.append_assoc]
 simp only[hfl3] at hrun
 have hE:=A63 hp φ (els':=els.set i (Bn el off c)) hob (by simp)
 have hat:Af φ id=some b:=by simp[Af,hb]
 generalize hnew:(vss.set i (vs.take off++((e x).cells.toList++vs.drop (off+P.cellsOf t))))=vss' at *
 have hS':SExt S w S (w.setRow b (pre++(vss'.flatten++ex)).toArray):=fun b' o hb'=>⟨hb',I4 w b _ b' o fun e1=>by
  have e1:b'=b:=e1
  subst e1;exact g6 o hb'⟩
 obtain⟨s1,s2⟩:=hs.write hat g6 (pre++(vss'.flatten++ex)).toArray hE (nth?_lt hob) ⟨b,vss',ex,E',pre,hb,g2,setRow_heap w b _ _ E' (0,0) g3,by
  have h0:Repss S w (els.set i (Bn el off c)) vss':=by
   rw[← hnew]
   refine g4.set i ?_ ?_
   ·rw[Bn,hlc]
    exact Reps.append (hv2.take off) (Reps.append hcl (hv2.drop (off+P.cellsOf t)))
   ·intro v hv
    rcases List.mem_append.1 hv with hv | hv
    ·exact hv3 v (List.mem_of_mem_take hv)
    ·rcases List.mem_append.1 hv with hv | hv
     ·exact hco v hv
     ·exact hv3 v (List.mem_of_mem_drop hv)
  exact Repss.mono hS' h0,by
  rw[← hnew]
  refine Tx g5 i ?_
  simp only[List.length_append,List.length_take,List.length_drop,hlen];omega,g6⟩
 refine⟨undef,S,φ,_,.inr ⟨?_,rfl⟩,.junk _ _ _,s1,s2⟩
 simp only[execOp,ho,he,Sem.run_bind,Sem.run_pure,Result.andThen_ok,hrun]
theorem A4y (hs:Sim P base S w hp φ) (ht:∀ x,Rep S w hp φ (ev tm x) (e x)) {t:TypeId} {a x:Operand} (ho:o.op=.store t a x) (hl:(ev tm x).cells.length=P.cellsOf t) (hpos:0 < P.cellsOf t) (h1:(ev tm x).cells.all AV.one=true)
 {id i off:Nat} {ver:Nat} (ha:ev tm a=.pts id ver i off) {et:TypeId} {size:Nat} {els:List (List AV)} (hob:nth? hp id=some (.stk ver et size els)) {el:List AV} (hel:nth? els i=some el) {c:List AV} (hc:D0 hp (ev tm x).cells=some c) (hoff:off+P.cellsOf t≤el.length) :
 Acts P base S w hp φ e o .junk (Bq hp id (.stk ver et size (Bq els i (Bn el off c)))):=by
 rw[nth?_eq] at hob hel
 rw[B8,B8]
 have hx:=ht x;have haa:=ht a
 rw[ha] at haa
 obtain⟨_,ver',e',size',els',hob',_,hcur⟩:=haa.pts_inv
 rw[nth?_eq,hob] at hob';cases hob'
 obtain⟨b,len,cap0,hb,he⟩:=hcur rfl
 obtain⟨v0,vss,g1,gown,g4,g5,gz,gsz,g6'⟩:=hs.obj id _ hob
 rw[hb] at g1;cases g1
 have g6:∀ o,¬ S b o:=g6' b rfl
 rcases Kw gown with ⟨h0,_⟩ | ⟨b2,cap,ex,h0,g2,g3,hcap1,hcap2,hcap3⟩
 ·cases h0
 cases h0
 obtain⟨vs,hv1,hv2,hv3⟩:=g4.get hel
 have hvs:=g5 vs (List.mem_of_getElem? hv1)
 have hcr:=hx.cells_rep h1
 have hco:=hx.cells_ones h1
 have hcl:=Mv hcr hc
 have hlen:(e x).cells.toList.length=P.cellsOf t:=by rw[← hcr.length];exact hl
 have hlc:c.length=P.cellsOf t:=by rw[hcl.length];exact hlen
 have hlv:=hv2.length
 have hle:i*size+size≤vss.flatten.length:=by
  rw[Da g5]
  have:=nth?_lt hv1
  calc i*size+size=(i+1)*size:=by rw[Nat.succ_mul]
   _≤vss.length*size:=Nat.mul_le_mul_right _ this
 have hrun:=Ui (P:=P) (t:=t) (off:=i*size+off) (v:=e x) g3 (by simpa using hlen) hpos (by simp only[List.size_toArray,List.length_append];omega) hco
 have hfl:=Zz g5 hv1 (e x).cells.toList (off:=off) (by omega)
 rw[hlen] at hfl
 have hfl2:(vss.flatten++ex).take (i*size+off)++(e x).cells.toList++(vss.flatten++ex).drop (i*size+off+P.cellsOf t)=(vss.set i (vs.take off++((e x).cells.toList++vs.drop (off+P.cellsOf t)))).flatten++ex:=by
  rw[← hfl,List.take_append_of_le_length (by omega),List.drop_append_of_le_length (by omega),List.append_assoc,List.append_assoc,List.append_assoc]
 simp only[hfl2] at hrun
 have hE:=Xb hp (φ:=φ) (φ':=φ) (els':=els.set i (Bn el off c)) hob (Nat.le_refl ver) (fun _=>⟨by simp,rfl⟩) (fun _ _=>rfl) (fun p hp' h=>by rw[hb] at h;cases h;cases hp')
 have hat:Af φ id=some b:=by simp[Af,hb,Value.ownBlock]
 generalize hnew:(vss.set i (vs.take off++((e x).cells.toList++vs.drop (off+P.cellsOf t))))=vss' at *
 have hS':SExt S w S (w.setRow b (vss'.flatten++ex).toArray):=fun b' o hb'=>⟨hb',I4 w b _ b' o fun e1=>by
  have e1:b'=b:=e1
  subst e1;exact g6 o hb'⟩
 have hlen':∀ vs ∈ vss',vs.length=size:=by
  rw[← hnew]
  refine Tx g5 i ?_
  simp only[List.length_append,List.length_take,List.length_drop,hlen];omega
 have hvl:vss'.length=vss.length:=by rw[← hnew];simp
 have hfll:vss'.flatten.length=vss.flatten.length:=by rw[Da hlen',Da g5,hvl]
 have h0:Repss S w (els.set i (Bn el off c)) vss':=by
  rw[← hnew]
  refine g4.set i ?_ ?_
  ·rw[Bn,hlc]
   exact Reps.append (hv2.take off) (Reps.append hcl (hv2.drop (off+P.cellsOf t)))
  ·intro v hv
   rcases List.mem_append.1 hv with hv | hv
   ·exact hv3 v (List.mem_of_mem_take hv)
   ·rcases List.mem_append.1 hv with hv | hv
    ·exact hco v hv
    ·exact hv3 v (List.mem_of_mem_drop hv)
 obtain⟨s1,s2⟩:=hs.write hat g6 (vss'.flatten++ex).toArray hE (nth?_lt hob) ⟨.slice (some ⟨b,0,none⟩) (els.set i (Bn el off c)).length cap0,vss',by rw[hb,List.length_set],A6a (n:=(els.set i (Bn el off c)).length) (size:=size) (by rw[hfll,List.length_set];exact gown.1) g2 (setRow_heap w b _ _ et (0,0) g3) (by rw[List.length_set];exact hcap1) hcap2 (by rw[List.length_append,hfll,← List.length_append];exact hcap3),Repss.mono hS' h0,hlen',gz,gsz,g6'⟩
 refine⟨undef,S,φ,_,.inr ⟨?_,rfl⟩,.junk _ _ _,s1,s2⟩
 simp only[execOp,ho,he,Sem.run_bind,Sem.run_pure,Result.andThen_ok,hrun]
end
theorem Qj {α:Type} {vss:List (List α)} {size:Nat} (h:∀ vs ∈ vss,vs.length=size) {j:Nat} {u:α} (hj:vss.flatten[j]?=some u):∃ vs,vss[j / size]?=some vs∧vs[j % size]?=some u:=by
 have hlt:=nth?_lt hj
 rw[Da h] at hlt
 have hz:0 < size:=Nat.pos_of_ne_zero fun h0=>by rw[h0,Nat.mul_zero] at hlt;omega
 have hd:j / size < vss.length:=Nat.div_lt_of_lt_mul (by rw[Nat.mul_comm];exact hlt)
 refine⟨vss[j / size],A6 hd,?_⟩
 have:=Ep h (i:=j / size) (j:=j % size) (A6 hd) (Nat.mod_lt _ hz)
 rw[Nat.div_add_mod' j size,hj] at this
 exact this.symm
section
variable {S:Nat→Nat→Prop} {w:World} {hp:Hp} {φ:List Pl} {P:Program} {base:Nat} {e:Operand→Value} {o:Oper} {tm:Tm}
theorem Akd {a:Option Addr} {size:Nat} {vss:List (List Value)} (h:Laid S w a size vss) {j:Nat} {u:Value} (hj:vss.flatten[j]?=some u):∃ b ob,a=some ⟨b,ob,none⟩∧S b (ob+j)∧w.cell? ⟨b,ob+j,none⟩=some u:=by
 obtain⟨vs,h1,h2⟩:=Qj h.1 hj
 obtain⟨b,ob,e1,e2,e3⟩:=h.2 _ _ _ _ h1 h2
 have:ob+j / size*size+j % size=ob+j:=by rw[Nat.add_assoc,Nat.div_add_mod']
 rw[this] at e2 e3
 exact⟨b,ob,e1,e2,e3⟩
theorem Ss (hs:Sim P base S w hp φ) {av:AV} {v:Value} {size:Nat} {news:List (List AV)} (h:Rep S w hp φ av v) (hn:E0 hp size av=some news) :
 ∃ (ad:Option Addr) (c:Nat) (vss:List (List Value)),v=.slice ad news.length c∧Repss S w news vss∧(∀ vs ∈ vss,vs.length=size)∧(∀ j u,vss.flatten[j]?=some u→∃ a,ad=some a∧w.cell? (a.add j)=some u)∧(ad=none→news=[]∧c=0):=by
 have fin:∀ (a:Option Addr) (cap:Nat) (els:List (List AV)) (vss:List (List Value)),Repss S w els vss→Laid S w a size vss→Cap a els.length cap→v=.slice a els.length cap →
  ∃ (ad:Option Addr) (c:Nat) (vss:List (List Value)),v=.slice ad els.length c∧Repss S w els vss∧(∀ vs ∈ vss,vs.length=size)∧(∀ j u,vss.flatten[j]?=some u→∃ a,ad=some a∧w.cell? (a.add j)=some u)∧(ad=none→els=[]∧c=0):=by
  intro a cap els vss hr hl hc he
  refine⟨a,cap,vss,he,hr,hl.1,fun j u hj=>?_,fun ha=>?_⟩
  ·obtain⟨b,ob,e1,e2,e3⟩:=Akd hl hj
   exact⟨_,e1,by rw[Em];exact e3⟩
  ·have:=hc.2.2 ha
   have:=hc.1
   exact⟨List.eq_nil_of_length_eq_zero (by omega),by omega⟩
 cases av<;>simp only[E0] at hn<;>first | (cases hn;done) | skip
 case nils=>cases hn;exact⟨none,0,[],h.nils_inv,.nil,by simp,fun j u hj=>by simp at hj,fun _=>⟨rfl,rfl⟩⟩
 case sl s els =>
  split at hn
  ·rename_i hq
   have hq:=of_decide_eq_true hq
   subst hq;cases hn
   obtain⟨vss,a,cap,hr,hl,hc,he⟩:=h.sl_inv
   exact fin a cap _ vss hr hl hc he
  ·cases hn
 case row id n =>
  obtain⟨et,s,els,h1,h2,h3,h4⟩:=h.row_inv
  rw[h1] at hn
  simp only at hn
  split at hn
  ·rename_i hq
   have hq:=of_decide_eq_true hq
   subst hq;cases hn
   obtain⟨vss,a,cap,hr,hl,hc,he⟩:=h3.sl_inv
   exact fin a cap _ vss hr hl hc he
  ·cases hn
 case own id off n =>
  obtain⟨b,s,els,cap,ad,o0,hb,hob,hle,had,hc,he⟩:=h.own_inv
  rw[hob] at hn
  simp only at hn
  split at hn
  ·rename_i hq
   have hq:=of_decide_eq_true hq
   subst hq;cases hn
   rw[nth?_eq] at hob
   obtain⟨b',vss,ex,E',pre,g1,g2,g3,g4,g5,g6⟩:=hs.obj id _ hob
   rw[hb] at g1;cases g1
   have hlen:((els.drop off).take n).length=n:=by rw[List.length_take,List.length_drop];omega
   refine⟨ad,cap,(vss.drop off).take n,by rw[hlen];exact he,(g4.drop off).take n,fun vs hv=>g5 vs (List.mem_of_mem_drop (List.mem_of_mem_take hv)),fun j u hj=>?_,fun ha=>?_⟩
   ·obtain⟨vs,e1,e2⟩:=Qj (size:=s) (fun vs hv=>g5 vs (List.mem_of_mem_drop (List.mem_of_mem_take hv))) hj
    rw[List.getElem?_take] at e1
    split at e1
    ·rename_i hlt
     rw[List.getElem?_drop] at e1
     have hvl:=g5 vs (List.mem_of_getElem? e1)
     have hz:0 < s:=by rw[← hvl];exact Nat.lt_of_le_of_lt (Nat.zero_le _) (nth?_lt e2)
     refine⟨_,had (Nat.lt_of_le_of_lt (Nat.zero_le _) hlt),?_⟩
     rw[Em]
     have:=Ep g5 e1 (j:=j % s) (Nat.mod_lt _ hz)
     rw[e2,Nat.add_mul,Nat.add_assoc,Nat.div_add_mod'] at this
     have hx:=List.getElem?_append_left (l₂:=ex) (List.getElem?_eq_some_iff.1 this).1
     rw[this] at hx
     have hy:(pre++(vss.flatten++ex))[pre.length+(off*s+j)]?=some u:=by
      rw[List.getElem?_append_right (by omega),Nat.add_sub_cancel_left];exact hx
     rw[show pre.length+off*s+j=pre.length+(off*s+j) by omega]
     simp only[World.cell?,g3]
     simpa using hy
    ·cases e1
   ·have:=hc.2.2 ha
    have:=hc.1
    exact⟨List.eq_nil_of_length_eq_zero (by omega),by omega⟩
  ·cases hn
 case stk id ver n =>
  have hst:=h.stk_inv
  obtain⟨⟨ad,cap,he,hc⟩,ver',e',s,els,hob,_⟩:=h.stk_inv
  rw[hob] at hn
  simp only at hn
  split at hn
  ·rename_i hq
   simp only[A8,Ai] at hq
   obtain⟨hv,hsz⟩:=hq
   subst hv;subst hsz;cases hn
   obtain⟨hle,v0,vss,c1,c2,c3,c4,c5,c6,c7,c8,c9⟩:=Pq hs hst hob
   have hlen:(els.take n).length=n:=by rw[List.length_take];omega
   refine⟨ad,cap,vss.take n,by rw[hlen];exact he,c4.take n,fun vs hv=>c5 vs (List.mem_of_mem_take hv),fun j u hj=>?_,fun ha=>?_⟩
   ·rw[Pd c5,List.getElem?_take] at hj
    split at hj
    ·rename_i hlt
     have hn0:0 < n:=by
      rcases Nat.eq_zero_or_pos n with h0 | h0
      ·rw[h0] at hlt;simp at hlt
      ·exact h0
     obtain⟨g,cap',k1,k2⟩:=c9 (by omega)
     rw[he] at k2
     simp only[Value.slice.injEq] at k2
     exact⟨_,k2.1,c3.cells (g:=g) (by rw[k1];rfl) _ _ hj⟩
    ·cases hj
   ·have:=hc.2.2 ha
    have:=hc.1
    exact⟨List.eq_nil_of_length_eq_zero (by omega),by omega⟩
  ·cases hn
theorem P9 {t et:TypeId} (hu:P.underlying t=some (.slice et)) {size:Nat} (hsz:P.cellsOf et=size) (hz:0 < size) {z:AV} (hzero:zero P et=some z) (hzl:z.cells.length=size) (hz1:z.cells.all AV.one=true)
 {v:Value} {n:Nat} {xs:List Value} (hown:w.ownsRow base et size v n xs) (hbase:base≤w.heap.size) {ad:Option Addr} {m c:Nat} {news:List Value} (hl:news.length=m*size) (hnews:∀ j u,news[j]?=some u→∃ a,ad=some a∧w.cell? (a.add j)=some u) (hnone:ad=none→m=0∧c=0) (h1:E5 news)
 (hb:(n+m)*(P.bytesOf et+1)≤140737488355328) (ty:TypeId) :
 ∃ v' w',(Builtin.append_ #[t,t] ty #[v,.slice ad m c]).run P w=.ok v' w'∧w'.ownsRow base et size v' (n+m) (xs++news)∧w.grownBy w' v.ownBlock∧(∀ g,v.ownBlock=some g→∀ ob,ob < n*size→stay w' g ob=stay w g ob) ∧
   (v'.ownBlock=v.ownBlock∨∃ g,v'.ownBlock=some g∧w.heap.size≤g)∧(m=0→v'=v):=by
 obtain⟨i,zv,hi,hzv,hlit⟩:=Ms hzero
 have hisz:i.size=size:=by rw[← hsz];simp[Program.cellsOf,hi]
 have hby:P.bytesOf et=i.bytes:=by simp[Program.bytesOf,hi]
 rw[hby,Nat.mul_add,Nat.mul_one] at hb
 have hrep:Rep (fun _ _=>False) w [] [] z zv:=by rw[hlit];exact Oj zv
 have hzvl:zv.cells.size=size:=by
  have:=(hrep.cells_rep hz1).length
  rw[hzl] at this;simpa using this.symm
 cases ad with
 | none =>
  obtain⟨rfl,rfl⟩:=hnone rfl
  have hnil:news=[]:=List.eq_nil_of_length_eq_zero (by rw[hl];simp)
  subst hnil
  have hrun:=run_append_owned_none (P:=P) (w:=w) base t ty et i size hu hi v n xs hown
  exact⟨v,w,hrun,by simpa using hown,⟨rfl,rfl,rfl,Nat.le_refl _,fun _ _ _=>rfl⟩,fun _ _ _ _=>rfl,.inl rfl,fun _=>rfl⟩
 | some ad =>
  have hnews':∀ j u,news[j]?=some u→w.cell? (ad.add j)=some u:=fun j u hj=>by
   obtain⟨a,e1,e2⟩:=hnews j u hj
   cases e1;exact e2
  obtain⟨v',w',hr,h2,h3,h4⟩:=run_append_own (P:=P) w base t ty et i zv size i.bytes hu hi hzv hisz rfl hzvl hz v n xs hown ad m c news hl hnews' h1 (by unfold maxLen;omega) (by omega) hbase
  refine⟨v',w',hr,h2,h3,?_⟩
  rcases hown.2 with ⟨rfl,rfl⟩ | ⟨g,cap,cur,rfl,hbg,hgg,hn,hcap,hcur,htake⟩
  ·refine⟨fun g hg=>by simp[Value.ownBlock] at hg,?_,fun hm=>?_⟩
   ·by_cases hm:m=0
    ·have:=h4.2 ⟨rfl,hm⟩
     subst this;exact .inl rfl
    ·have:=run_append_nil (P:=P) w t ty et i zv hu hi hzv ad m c news (by rw[hisz];exact hl) hnews' (by omega) (by rw[Nat.zero_add] at hb;omega) (by rw[Nat.zero_add] at hb;omega)
     rw[hr] at this
     injection this with e1 e2
     subst e1
     exact .inr ⟨_,rfl,Nat.le_refl _⟩
   ·exact h4.2 ⟨rfl,hm⟩
  ·by_cases hroom:n+m≤cap
   ·have hfit:n*i.size+news.length≤cur.size:=by
     rw[hisz,hl,hcur,← Nat.add_mul];exact Nat.mul_le_mul_right _ hroom
    have:=run_append_room (P:=P) w t ty et i hu hi g n cap cur hgg ad m c news (by rw[hisz];exact hl) hnews' h1 hroom hfit
    rw[hr] at this
    injection this with e1 e2
    subst e1;subst e2
    refine⟨fun g' hg' ob hob=>?_,.inl rfl,fun hm=>by subst hm;rfl⟩
    have hg':g=g':=by simpa [Value.ownBlock] using hg'
    subst hg'
    refine Adv hgg (setRow_heap w g cur _ et (0,0) hgg) ?_
    rw[cell_setRow_same w g ob cur _ et (0,0) hgg]
    have h0:w.cell? ⟨g,ob,none⟩=cur[ob]?:=by simp[World.cell?,hgg]
    rw[h0]
    simp only[List.getElem?_toArray,List.append_assoc]
    rw[hisz] at hfit ⊢
    rw[List.getElem?_append_left (by rw[List.length_take,Array.length_toList];omega),List.getElem?_take,if_pos hob]
    simp
   ·have hlo:xs.length=n*i.size:=by rw[hisz];exact hown.1
    have:=run_append_grow (P:=P) w t ty et i zv hu hi hzv ⟨g,0,none⟩ n cap xs hlo (hown.cells rfl) ad m c news (by rw[hisz];exact hl) hnews' (by omega) (by omega) (growslice_fits (by omega) (by omega))
    rw[hr] at this
    injection this with e1 e2
    subst e1;subst e2
    refine⟨fun g' hg' ob hob=>?_,.inr ⟨_,rfl,Nat.le_refl _⟩,fun hm=>by omega⟩
    have hg':g=g':=by simpa [Value.ownBlock] using hg'
    subst hg'
    have hlt:=(Array.getElem?_eq_some_iff.1 hgg).1
    exact Dv w.drew _ hlt
theorem A2a {e:TypeId} {size:Nat} {v:Value} {n:Nat} {xs:List Value} (h:w.ownsRow base e size v n xs) {b:Nat} (hb:v.ownBlock=some b):∃ c E,w.heap[b]?=some (.cells c E (0,0)):=by
 rcases h.2 with ⟨rfl,_⟩ | ⟨g,cap,cur,rfl,_,hgg,_⟩
 ·simp[Value.ownBlock] at hb
 ·have:g=b:=by simpa [Value.ownBlock] using hb
  subst this;exact⟨_,_,hgg⟩
theorem Aji (hp:Hp) (φ:List Pl) {id:Nat} {et size:Nat} {els news:List (List AV)} {v v':Value} (hob:hp[id]?=some (.row et size els)) (hv:φ[id]?=some (.sv v)) (hm:news=[]→v'=v):HpExt hp φ (hp.set id (.row et size (els++news))) (φ.set id (.sv v')):=by
 have hid:=nth?_lt hob
 have hidφ:=nth?_lt hv
 refine⟨fun j p hp' h=>?_,fun j sz es h=>⟨es,?_,rfl⟩,fun j e sz es h=>?_,fun j vr e sz es h=>⟨vr,es,?_,Nat.le_refl _,fun _=>⟨rfl,?_⟩⟩⟩
 ·rw[List.getElem?_set_ne (fun e=>by subst e;rw[hv] at h;cases h;cases hp')];exact h
 ·rw[nth?_eq] at h ⊢
  rw[List.getElem?_set_ne (fun e=>by subst e;rw[hob] at h;cases h)];exact h
 ·rw[nth?_eq] at h
  simp only[nth?_eq]
  by_cases hj:j=id
  ·subst hj
   rw[hob] at h;cases h
   refine⟨news,List.getElem?_set_self hid,fun hn u hu=>?_⟩
   rw[hv] at hu;cases hu
   rw[List.getElem?_set_self hidφ,hm hn]
  ·refine⟨[],by rw[List.getElem?_set_ne (Ne.symm hj),List.append_nil];exact h,fun _ u hu=>?_⟩
   rw[List.getElem?_set_ne (Ne.symm hj)];exact hu
 ·rw[nth?_eq] at h ⊢
  rw[List.getElem?_set_ne (fun e=>by subst e;rw[hob] at h;cases h)];exact h
 ·rw[nth?_eq] at h
  rw[List.getElem?_set_ne (fun e=>by subst e;rw[hob] at h;cases h)]
theorem Zx (hs:Sim P base S w hp φ) {t et:TypeId} {s x:Operand} (ho:o.op=.call { callee:=.builtin .append,args:=#[s,x],argTypes:=#[t,t] }) (hu:P.underlying t=some (.slice et)) (hz:0 < P.cellsOf et) {z:AV} (hzero:zero P et=some z) (hzl:z.cells.length=P.cellsOf et) (hz1:z.cells.all AV.one=true)
 {news:List (List AV)} {xv:AV} (hxr:Rep S w hp φ xv (e x)) (hx:E0 hp (P.cellsOf et) xv=some news) {id:Nat} (hcur:φ[id]?=some (.sv (e s))) {els:List (List AV)} (hob:hp[id]?=some (.row et (P.cellsOf et) els)) (hb:(els.length+news.length)*(P.bytesOf et+1)≤140737488355328) :
 Acts P base S w hp φ e o (.row id (els.length+news.length)) (hp.set id (.row et (P.cellsOf et) (els++news))):=by
 obtain⟨ad,c,nvss,hxe,hnr,hnl,hnc,hnn⟩:=Ss hs hxr hx
 obtain⟨v,vss,g1,g2,g3,g4,g5,g6,g7⟩:=hs.obj id _ hob
 rw[hcur] at g1;cases g1
 have hlv:=g3.length
 have hln:=hnr.length
 have hno:E5 nvss.flatten:=by
  intro u hu
  obtain⟨vs,hvs,hu⟩:=List.mem_flatten.1 hu
  obtain⟨k,hk,rfl⟩:=List.getElem_of_mem hvs
  obtain⟨el,hel⟩:∃ el,news[k]?=some el:=⟨_,A6 (by omega)⟩
  obtain⟨vs',e1,e2,e3⟩:=hnr.get hel
  rw[A6 hk] at e1;cases e1
  exact e3 u hu
 obtain⟨v',w',hrun,hown',hgrow,hold,hblk,hm0⟩:=P9 (ty:=o.type) hu rfl hz hzero hzl hz1 g2 hs.low (ad:=ad) (m:=news.length) (c:=c) (news:=nvss.flatten) (by rw[Da hnl,hln]) hnc (fun ha=>by obtain⟨e1,e2⟩:=hnn ha;subst e1;exact⟨rfl,e2⟩) hno hb
 have hat:∀ g,(e s).ownBlock=some g→Af φ id=some g:=fun g hg=>by simp[Af,hcur,hg]
 have hvlt:=hown'.lt
 have hnewblk:∀ g,v'.ownBlock=some g→(e s).ownBlock=some g∨w.heap.size≤g:=by
  intro g hg
  rcases hblk with h | ⟨g',h1,h2⟩
  ·rw[h] at hg;exact .inl hg
  ·rw[hg] at h1;cases h1;exact .inr h2
 let S':Nat→Nat→Prop:=fun b ob=>S b ob∨(v'.ownBlock=some b∧ob < (els.length+news.length)*P.cellsOf et)
 have hcells:∀ b ob,v'.ownBlock=some b→ob < (els.length+news.length)*P.cellsOf et→∃ u,w'.cell? ⟨b,ob,none⟩=some u∧(vss.flatten++nvss.flatten)[ob]?=some u:=by
  intro b ob hb' hlt
  have hl:ob < (vss.flatten++nvss.flatten).length:=by rw[hown'.1];exact hlt
  refine⟨_,?_,A6 hl⟩
  have:=hown'.cells hb' ob _ (A6 hl)
  rw[Em,Nat.zero_add] at this
  exact this
 have hS:SExt S w S' w':=by
  intro b ob hb'
  refine⟨.inl hb',?_⟩
  by_cases hbe:(e s).ownBlock=some b
  ·have hlt:=((g7 b hbe) ob).1 hb'
   have hc:=g2.cells hbe ob _ (A6 (by rw[g2.1];exact hlt))
   rw[Em,Nat.zero_add] at hc
   exact hold b hbe ob hlt
  ·obtain⟨u,hu',_⟩:=hs.cell b ob hb'
   exact Id (hgrow.block b (Ey hu') fun h=>hbe h.symm) ob
 have hE:=Aji hp φ (news:=news) (v':=v') hob hcur (fun hn=>hm0 (by rw[hn];rfl))
 have hidφ:id < φ.length:=nth?_lt hcur
 have hbt:∀ j b,Af (φ.set id (.sv v')) j=some b→(j=id∧v'.ownBlock=some b)∨(j≠id∧Af φ j=some b):=by
  intro j b hj
  unfold Af at hj ⊢
  by_cases hji:j=id
  ·subst hji
   rw[List.getElem?_set_self hidφ] at hj
   exact .inl ⟨rfl,hj⟩
  ·rw[List.getElem?_set_ne (Ne.symm hji)] at hj
   exact .inr ⟨hji,hj⟩
 have hclash:∀ j b,j≠id→Af φ j=some b→v'.ownBlock≠some b:=by
  intro j b hji hj hv'
  rcases hnewblk b hv' with h | h
  ·exact hji (hs.apart j id b hj (hat b h))
  ·have:=(hs.block_lt hj).2;omega
 have hlen:(els++news).length=els.length+news.length:=List.length_append
 have hsim:Sim P base S' w' (hp.set id (.row et (P.cellsOf et) (els++news))) (φ.set id (.sv v')):=by
  refine⟨by simpa using hs.len,Nat.le_trans hs.low hgrow.size,fun b ob hb'=>?_,fun j oj hj=>?_,fun i j b hi hj=>?_⟩
  ·rcases hb' with hb' | ⟨hb',hlt⟩
   ·obtain⟨u,hu',hf⟩:=hs.cell b ob hb'
    exact⟨u,(hS b ob hb').2.trans hu',hf⟩
   ·obtain⟨u,hu',_⟩:=hcells b ob hb' hlt
    obtain⟨cc,EE,hbb⟩:=A2a hown' hb'
    exact⟨_,Lr hbb hu',fun _=>rfl⟩
  ·by_cases hji:j=id
   ·subst hji
    rw[List.getElem?_set_self (nth?_lt hob)] at hj
    cases hj
    refine⟨v',vss++nvss,List.getElem?_set_self hidφ,by rw[hlen,List.flatten_append];exact hown',(Repss.mono hS g3).append (Repss.mono hS hnr),fun vs hv=>(List.mem_append.1 hv).elim (g4 vs) (hnl vs),hz,rfl,fun g hg ob=>?_⟩
    rw[hlen]
    constructor
    ·rintro (h | ⟨_,h⟩)
     ·rcases hnewblk g hg with h' | h'
      ·have:=((g7 g h') ob).1 h
       rw[Nat.add_mul];omega
      ·obtain⟨u,hu',_⟩:=hs.cell g ob h
       have:=Ey hu';omega
     ·exact h
    ·exact fun h=>.inr ⟨hg,h⟩
   ·rw[List.getElem?_set_ne (Ne.symm hji)] at hj
    refine(hs.obj j oj hj).keep hS hE (List.getElem?_set_ne (Ne.symm hji)) fun b hb'=>⟨hgrow.block b (hs.block_lt hb').2 fun h=>hji (hs.apart j id b hb' (hat b h.symm)),fun ob=>⟨fun h=>h.elim (fun h=>h) fun h=>absurd h.1 (hclash j b hji hb'),.inl⟩⟩
  ·rcases hbt i b hi with ⟨i1,i2⟩ | ⟨i1,i2⟩<;>rcases hbt j b hj with ⟨j1,j2⟩ | ⟨j1,j2⟩
   ·rw[i1,j1]
   ·exact absurd i2 (hclash j b j1 j2)
   ·exact absurd j2 (hclash i b i1 i2)
   ·exact hs.apart i j b i2 j2
 have htr:Trans base S w hp φ S' w' (hp.set id (.row et (P.cellsOf et) (els++news))) (φ.set id (.sv v')):=by
  have hnm:∀ b,v'.ownBlock=some b→N8 w φ b:=fun b hb'=>(hnewblk b hb').elim (fun h=>.inl ⟨id,hat b h⟩) .inr
  refine⟨hS,hE,(Below.refl _ _).grown hgrow hs.low fun k hk=>(g2.lt k hk).1,fun b ob h=>?_,fun b ob h=>h.elim .inl fun h=>.inr (hnm b h.1),fun i b h=>(hbt i b h).elim (fun h=>hnm b h.2) fun h=>.inl ⟨i,h.2⟩,fun b hb'=>hgrow.block b (Hz hb').1 fun h=>(Hz hb').2 id (hat b h.symm)⟩
  rcases h with h | ⟨h,_⟩
  ·exact .inl h
  ·exact .inr (hvlt b h).1
 refine⟨v',S',φ.set id (.sv v'),w',.inl ?_,?_,hsim,htr⟩
 ·simp only[execOp,ho,resolve,invoke,builtin,Sem.run_bind,Sem.run_pure,Result.andThen_ok,List.map_toArray,List.map_cons,List.map_nil,hxe,hrun]
 ·refine .row _ _ id _ v' et (P.cellsOf et) (els++news) (by rw[nth?_eq];exact List.getElem?_set_self (nth?_lt hob)) (by rw[hlen];exact Nat.le_refl _) ?_ (fun _=>List.getElem?_set_self hidφ)
  rw[List.take_of_length_le (by rw[hlen];exact Nat.le_refl _)]
  have hrr:Repss S' w' (els++news) (vss++nvss):=(Repss.mono hS g3).append (Repss.mono hS hnr)
  have hll:∀ vs ∈ vss++nvss,vs.length=P.cellsOf et:=fun vs hv=>(List.mem_append.1 hv).elim (g4 vs) (hnl vs)
  rcases hown'.2 with ⟨hv',h0⟩ | ⟨g,cap,cur,hv',_,_,hc1,hc2,_⟩
  ·have:=Rep.sl (S:=S') (w:=w') [] [] (P.cellsOf et) (els++news) (vss++nvss) none 0 hrr ⟨hll,fun j vs t u hj hu=>by
    have:=nth?_lt hj
    rw[← hrr.length,hlen] at this;omega⟩ ⟨by omega,by unfold maxLen;omega,fun _=>rfl⟩
   rw[hlen,h0] at this
   rw[hv'];exact this
  ·have:=Rep.sl (S:=S') (w:=w') [] [] (P.cellsOf et) (els++news) (vss++nvss) (some ⟨g,0,none⟩) cap hrr ⟨hll,fun j vs t u hj hu=>by
    have htl:t < P.cellsOf et:=by rw[← hll vs (List.mem_of_getElem? hj)];exact nth?_lt hu
    have hf:=Ep hll hj htl
    rw[hu,List.flatten_append] at hf
    have hlt:j*P.cellsOf et+t < (els.length+news.length)*P.cellsOf et:=by
     have:=nth?_lt hf
     rw[hown'.1] at this;exact this
    have hob':v'.ownBlock=some g:=by rw[hv'];rfl
    obtain⟨u',e1,e2⟩:=hcells g _ hob' hlt
    rw[hf] at e2;cases e2
    exact⟨g,0,rfl,.inr ⟨hob',by rw[Nat.zero_add];exact hlt⟩,by rw[Nat.zero_add];exact e1⟩⟩ ⟨by rw[hlen];exact hc1,hc2,fun h=>by cases h⟩
   rw[hlen] at this
   rw[hv'];exact this
theorem A8s {hp2:Hp} {size:Nat} {av:AV} {news:List (List AV)} (h:E0 hp size av=some news):E0 (hp++hp2) size av=some news:=by
 have hn:∀ id o,nth? hp id=some o→nth? (hp++hp2) id=some o:=fun id o h=>by
  rw[nth?_eq] at h ⊢;rw[List.getElem?_append_left (nth?_lt h)];exact h
 cases av<;>simp only[E0] at h ⊢<;>first | exact h | skip
 case row id n =>
  cases ho:nth? hp id with
  | none=>rw[ho] at h;cases h
  | some o=>rw[ho] at h;rw[hn id o ho];exact h
 case own id off n =>
  cases ho:nth? hp id with
  | none=>rw[ho] at h;cases h
  | some o=>rw[ho] at h;rw[hn id o ho];exact h
 case stk id ver n =>
  cases ho:nth? hp id with
  | none=>rw[ho] at h;cases h
  | some o=>rw[ho] at h;rw[hn id o ho];exact h
theorem Abl (hs:Sim P base S w hp φ) (ht:∀ x,Rep S w hp φ (ev tm x) (e x)) {t et:TypeId} {s x:Operand} (ho:o.op=.call { callee:=.builtin .append,args:=#[s,x],argTypes:=#[t,t] }) (hu:P.underlying t=some (.slice et)) (hz:0 < P.cellsOf et) {z:AV} (hzero:zero P et=some z) (hzl:z.cells.length=P.cellsOf et) (hz1:z.cells.all AV.one=true)
 {news:List (List AV)} (hx:E0 hp (P.cellsOf et) (ev tm x)=some news) {id n:Nat} (hsv:ev tm s=.row id n) {els:List (List AV)} (hob:nth? hp id=some (.row et (P.cellsOf et) els)) (hn:n=els.length) (hb:(els.length+news.length)*(P.bytesOf et+1)≤140737488355328) :
 Acts P base S w hp φ e o (.row id (els.length+news.length)) (Bq hp id (.row et (P.cellsOf et) (els++news))):=by
 have hse:=ht s
 rw[hsv] at hse
 obtain⟨et',size',els',r1,r2,r3,r4⟩:=hse.row_inv
 rw[hob] at r1;cases r1
 rw[nth?_eq] at hob
 rw[B8]
 exact Zx hs ho hu hz hzero hzl hz1 (ht x) hx (r4 hn) hob hb
theorem A28 (hs:Sim P base S w hp φ) (ht:∀ x,Rep S w hp φ (ev tm x) (e x)) {t et:TypeId} {s x:Operand} (ho:o.op=.call { callee:=.builtin .append,args:=#[s,x],argTypes:=#[t,t] }) (hu:P.underlying t=some (.slice et)) (hz:0 < P.cellsOf et) {z:AV} (hzero:zero P et=some z) (hzl:z.cells.length=P.cellsOf et) (hz1:z.cells.all AV.one=true)
 {news:List (List AV)} (hx:E0 hp (P.cellsOf et) (ev tm x)=some news) (hsv:ev tm s=.nils) (hb:news.length*(P.bytesOf et+1)≤140737488355328) :
 Acts P base S w hp φ e o (.row hp.length news.length) (hp++[.row et (P.cellsOf et) news]):=by
 have hse:=ht s
 rw[hsv] at hse
 obtain⟨hs',htr⟩:=hs.nil_row et hz
 have:=Zx (o:=o) (id:=hp.length) (els:=[]) hs' ho hu hz hzero hzl hz1 (Rep.mono htr.s (ht x) htr.hp) (A8s hx) (by rw[← hs.len,hse.nils_inv];simp) (by simp) (by simpa using hb)
 obtain⟨u,S',φ',w',h1,h2,h3,h4⟩:=this
 have e1:(hp++[Ob.row et (P.cellsOf et) []]).set hp.length (.row et (P.cellsOf et) ([]++news))=hp++[.row et (P.cellsOf et) news]:=by simp
 rw[e1] at h2 h3 h4
 refine⟨u,S',φ',w',h1,?_,h3,htr.trans h4⟩
 simpa using h2
theorem X8 (hs:Sim P base S w hp φ) (ht:∀ x,Rep S w hp φ (ev tm x) (e x)) {t et:TypeId} {s x:Operand} (ho:o.op=.call { callee:=.builtin .append,args:=#[s,x],argTypes:=#[t,t] }) (hu:P.underlying t=some (.slice et)) (hz:0 < P.cellsOf et) {z:AV} (hzero:zero P et=some z) (hzl:z.cells.length=P.cellsOf et) (hz1:z.cells.all AV.one=true)
 {news:List (List AV)} (hx:E0 hp (P.cellsOf et) (ev tm x)=some news) (hsv:ev tm s=.nils) (hb:news.length*(P.bytesOf et+1)≤140737488355328) (hne:news.length≠0) :
 Acts P base S w hp φ e o (.own hp.length 0 news.length) (hp++[.arr (P.cellsOf et) news]):=by
 obtain⟨ad,c,nvss,hxe,hnr,hnl,hnc,hnn⟩:=Ss hs (ht x) hx
 have hln:=hnr.length
 have hno:E5 nvss.flatten:=by
  intro u hu
  obtain⟨vs,hvs,hu⟩:=List.mem_flatten.1 hu
  obtain⟨k,hk,rfl⟩:=List.getElem_of_mem hvs
  obtain⟨el,hel⟩:∃ el,news[k]?=some el:=⟨_,A6 (by omega)⟩
  obtain⟨vs',e1,e2,e3⟩:=hnr.get hel
  rw[A6 hk] at e1;cases e1
  exact e3 u hu
 have hse:=ht s
 rw[hsv] at hse
 have hse:=hse.nils_inv
 cases ad with
 | none=>exact absurd (by rw[(hnn rfl).1];rfl) hne
 | some ad =>
  obtain⟨i,zv,hi,hzv,hlit⟩:=Ms hzero
  have hisz:i.size=P.cellsOf et:=by simp[Program.cellsOf,hi]
  have hby:P.bytesOf et=i.bytes:=by simp[Program.bytesOf,hi]
  have hb':=hb
  rw[hby,Nat.mul_add,Nat.mul_one] at hb'
  obtain⟨v',w',hr,hown',_⟩:=P9 (ty:=o.type) hu rfl hz hzero hzl hz1 (World.ownsRow_nil w base et (P.cellsOf et)) hs.low (ad:=some ad) (m:=news.length) (c:=c) (news:=nvss.flatten) (by rw[Da hnl,hln]) hnc (fun ha=>by cases ha) hno (by rw[Nat.zero_add];exact hb)
  have hrun:=run_append_nil (P:=P) w t o.type et i zv hu hi hzv ad news.length c nvss.flatten (by rw[Da hnl,hln,hisz]) (fun j u hj=>by
   obtain⟨a,e1,e2⟩:=hnc j u hj
   cases e1;exact e2) (by omega) (by omega) (by omega)
  rw[hrun] at hr
  injection hr with e1 e2
  subst e1
  rcases hown'.2 with ⟨h,_⟩ | ⟨g,cap,cur,hv',hbg,hgg,hn,hcap,_⟩
  ·cases h
  ·simp only[Value.slice.injEq] at hv'
   obtain⟨_,_,rfl⟩:=hv'
   have hs1:=hs.drew
   have hnr1:Repss S w.drew news nvss:=Repss.mono (show SExt S w S w.drew from fun b o h=>⟨h,rfl⟩) hnr
   obtain⟨g1,g2⟩:=hs1.alloc_arr (E:=et) hnr1 hnl (Builtin.zeroCells zv.cells (grownCap w news.length 0 et - news.length)).toList
   have earr:(nvss.flatten++(Builtin.zeroCells zv.cells (grownCap w news.length 0 et - news.length)).toList).toArray=nvss.flatten.toArray++Builtin.zeroCells zv.cells (grownCap w news.length 0 et - news.length):=by
    apply Array.ext';simp
   rw[earr] at g1 g2
   have hdr:Trans base S w hp φ S w.drew hp φ:=⟨fun b o h=>⟨h,rfl⟩,.refl _ _,(Below.refl _ _).drew,fun _ _ h=>.inl h,fun _ _ h=>.inl h,Ie,fun _ _=>rfl⟩
   rw[Nat.zero_add] at hn
   refine⟨_,S,_,_,.inl ?_,.own _ _ hp.length 0 news.length w.heap.size (P.cellsOf et) news (grownCap w news.length 0 et) 0 (by rw[← hs.len];simp) (by rw[nth?_eq];simp) (by omega) (some ⟨w.heap.size,0,none⟩) (fun _=>by simp) ⟨hn,hcap,fun h=>by cases h⟩,g1,hdr.trans g2⟩
   simp only[execOp,ho,resolve,invoke,builtin,Sem.run_bind,Sem.run_pure,Result.andThen_ok,List.map_toArray,List.map_cons,List.map_nil,hxe,hse,hrun]
theorem Ox (hs:Sim P base S w hp φ) (ht:∀ x,Rep S w hp φ (ev tm x) (e x)) {t et:TypeId} {s x:Operand} (ho:o.op=.call { callee:=.builtin .append,args:=#[s,x],argTypes:=#[t,t] }) (hu:P.underlying t=some (.slice et)) (hz:0 < P.cellsOf et) {z:AV} (hzero:zero P et=some z) (hzl:z.cells.length=P.cellsOf et) (hz1:z.cells.all AV.one=true)
 {news:List (List AV)} (hx:E0 hp (P.cellsOf et) (ev tm x)=some news) (hsv:ev tm s=.nils) (he:news.length=0) :
 Acts P base S w hp φ e o .nils hp:=by
 obtain⟨ad,c,nvss,hxe,hnr,hnl,hnc,hnn⟩:=Ss hs (ht x) hx
 have hln:=hnr.length
 have hnv:nvss=[]:=List.eq_nil_of_length_eq_zero (by omega)
 subst hnv
 have hse:=ht s
 rw[hsv] at hse
 have hse:=hse.nils_inv
 obtain⟨v',w',hr,hown',hgrow,hold,hblk,hm0⟩:=P9 (ty:=o.type) hu rfl hz hzero hzl hz1 (World.ownsRow_nil w base et (P.cellsOf et)) hs.low (ad:=ad) (m:=news.length) (c:=c) (news:=[]) (by rw[he];simp) (fun j u hj=>by simp at hj) (fun ha=>⟨he,by obtain⟨_,e2⟩:=hnn ha;exact e2⟩) (by intro v hv;simp at hv) (by rw[he];omega)
 obtain rfl:=hm0 he
 have hblock:∀ b,b < w.heap.size→w'.heap[b]?=w.heap[b]?:=fun b hb=>hgrow.block b hb (by simp[Value.ownBlock])
 have hS1:SExt S w S w':=fun b ob hb=>⟨hb,by
  obtain⟨u,hu',_⟩:=hs.cell b ob hb
  exact Id (hblock b (Ey hu')) ob⟩
 have hkeep:Sim P base S w' hp φ:=hs.keep hS1 hgrow.size (fun b o hb=>by
  obtain⟨u,hu,hf⟩:=hs.cell b o hb
  exact⟨u,(hS1 b o hb).2.trans hu,hf⟩) fun id b hb=>⟨hblock b (hs.block_lt hb).2,fun o=>.rfl⟩
 refine⟨_,S,φ,w',.inl ?_,.nils _ _,hkeep,⟨hS1,.refl _ _,(Below.refl _ _).grown hgrow hs.low fun k hk=>by simp[Value.ownBlock] at hk,fun _ _ h=>.inl h,fun _ _ h=>.inl h,Ie,fun b hb'=>hblock b (Hz hb').1⟩⟩
 simp only[execOp,ho,resolve,invoke,builtin,Sem.run_bind,Sem.run_pure,Result.andThen_ok,List.map_toArray,List.map_cons,List.map_nil,hxe,hse,hr]
theorem Vo (hs:Sim P base S w hp φ) (ht:∀ x,Rep S w hp φ (ev tm x) (e x)) {t et:TypeId} {s x:Operand} (ho:o.op=.call { callee:=.builtin .append,args:=#[s,x],argTypes:=#[t,t] }) (hu:P.underlying t=some (.slice et)) (hz:0 < P.cellsOf et) {z:AV} (hzero:zero P et=some z) (hzl:z.cells.length=P.cellsOf et) (hz1:z.cells.all AV.one=true)
 {news:List (List AV)} (hx:E0 hp (P.cellsOf et) (ev tm x)=some news) (hsv:ev tm s=.nils) (hb:news.length*(P.bytesOf et+1)≤140737488355328) (hne:news.length≠0) :
 Acts P base S w hp φ e o (.sl (P.cellsOf et) news) hp:=by
 obtain⟨ad,c,nvss,hxe,hnr,hnl,hnc,hnn⟩:=Ss hs (ht x) hx
 have hln:=hnr.length
 have hno:E5 nvss.flatten:=by
  intro u hu
  obtain⟨vs,hvs,hu⟩:=List.mem_flatten.1 hu
  obtain⟨k,hk,rfl⟩:=List.getElem_of_mem hvs
  obtain⟨el,hel⟩:∃ el,news[k]?=some el:=⟨_,A6 (by omega)⟩
  obtain⟨vs',e1,e2,e3⟩:=hnr.get hel
  rw[A6 hk] at e1;cases e1
  exact e3 u hu
 have hse:=ht s
 rw[hsv] at hse
 have hse:=hse.nils_inv
 cases ad with
 | none=>exact absurd (by rw[(hnn rfl).1];rfl) hne
 | some ad =>
  obtain⟨i,zv,hi,hzv,hlit⟩:=Ms hzero
  have hisz:i.size=P.cellsOf et:=by simp[Program.cellsOf,hi]
  have hby:P.bytesOf et=i.bytes:=by simp[Program.bytesOf,hi]
  have hb':=hb
  rw[hby,Nat.mul_add,Nat.mul_one] at hb'
  obtain⟨v',w',hr,hown',_⟩:=P9 (ty:=o.type) hu rfl hz hzero hzl hz1 (World.ownsRow_nil w base et (P.cellsOf et)) hs.low (ad:=some ad) (m:=news.length) (c:=c) (news:=nvss.flatten) (by rw[Da hnl,hln]) hnc (fun ha=>by cases ha) hno (by rw[Nat.zero_add];exact hb)
  have hrun:=run_append_nil (P:=P) w t o.type et i zv hu hi hzv ad news.length c nvss.flatten (by rw[Da hnl,hln,hisz]) (fun j u hj=>by
   obtain⟨a,e1,e2⟩:=hnc j u hj
   cases e1;exact e2) (by omega) (by omega) (by omega)
  rw[hrun] at hr
  injection hr with e1 e2
  subst e1
  rcases hown'.2 with ⟨h,_⟩ | ⟨g,cap,cur,hv',hbg,hgg,hn,hcap,_⟩
  ·cases h
  ·simp only[Value.slice.injEq] at hv'
   obtain⟨_,_,rfl⟩:=hv'
   have hs1:=hs.drew
   have hnr1:Repss S w.drew news nvss:=Repss.mono (show SExt S w S w.drew from fun b o h=>⟨h,rfl⟩) hnr
   obtain⟨g1,g2,g3⟩:=hs1.alloc_stay (nvss.flatten.toArray++Builtin.zeroCells zv.cells (grownCap w news.length 0 et - news.length)) et nvss.flatten.length (by simp)
   have hdr:Trans base S w hp φ S w.drew hp φ:=⟨fun b o h=>⟨h,rfl⟩,.refl _ _,(Below.refl _ _).drew,fun _ _ h=>.inl h,fun _ _ h=>.inl h,Ie,fun _ _=>rfl⟩
   rw[Nat.zero_add] at hn
   refine⟨_,_,_,_,.inl ?_,.sl _ _ (P.cellsOf et) news nvss (some ⟨w.drew.heap.size,0,none⟩) (grownCap w news.length 0 et) (Repss.mono g2.s hnr1) ⟨hnl,fun j vs t u hj hu=>?_⟩ ⟨hn,hcap,fun h=>by cases h⟩,g1,hdr.trans g2⟩
   rotate_left
   ·have htl:t < P.cellsOf et:=by rw[← hnl vs (List.mem_of_getElem? hj)];exact nth?_lt hu
    have hf:=Ep hnl hj htl
    rw[hu] at hf
    have hlt:=nth?_lt hf
    refine⟨w.drew.heap.size,0,rfl,.inr ⟨rfl,by rw[Nat.zero_add];exact hlt⟩,?_⟩
    rw[Nat.zero_add]
    refine g3 _ _ ?_
    rw[Array.getElem?_append_left (by simpa using hlt)]
    simpa using hf
   simp only[execOp,ho,resolve,invoke,builtin,Sem.run_bind,Sem.run_pure,Result.andThen_ok,List.map_toArray,List.map_cons,List.map_nil,hxe,hse,hrun]
   rfl
theorem X7 (hs:Sim P base S w hp φ) (ht:∀ x,Rep S w hp φ (ev tm x) (e x)) {t et:TypeId} {s x:Operand} (ho:o.op=.call { callee:=.builtin .append,args:=#[s,x],argTypes:=#[t,t] }) (hu:P.underlying t=some (.slice et)) (hz:0 < P.cellsOf et) {z:AV} (hzero:zero P et=some z) (hzl:z.cells.length=P.cellsOf et) (hz1:z.cells.all AV.one=true)
 {news:List (List AV)} (hx:E0 hp (P.cellsOf et) (ev tm x)=some news) (hsv:ev tm s=.nils) (hb:news.length*(P.bytesOf et+1)≤140737488355328) :
 Acts P base S w hp φ e o (.sl (P.cellsOf et) news) hp:=by
 by_cases he:news.length=0
 ·obtain⟨u,S',φ',w',h1,h2,h3,h4⟩:=Ox hs ht ho hu hz hzero hzl hz1 hx hsv he
  have hn:news=[]:=List.eq_nil_of_length_eq_zero he
  subst hn
  have:=h2.nils_inv
  subst this
  exact⟨_,S',φ',w',h1,.sl _ _ _ [] [] none 0 .nil ⟨by simp,fun j vs t u hj=>by simp at hj⟩ ⟨Nat.le_refl _,by unfold maxLen;omega,fun _=>rfl⟩,h3,h4⟩
 ·exact Vo hs ht ho hu hz hzero hzl hz1 hx hsv hb he
theorem A9w (hs:Sim P base S w hp φ) (ht:∀ x,Rep S w hp φ (ev tm x) (e x)) {x:Operand} (ho:o.op=.assign x) (hx:ev tm x=.nils) {et:TypeId} (hz:0 < P.cellsOf et):Acts P base S w hp φ e o (.stk hp.length 0 0) (hp++[.stk 0 et (P.cellsOf et) []]):=by
 have h:=ht x
 rw[hx] at h
 obtain⟨hs',htr⟩:=hs.nil_stk et hz
 refine⟨.slice none 0 0,S,_,w,.inl ?_,.stk _ _ _ _ _ _ ⟨⟨none,0,rfl,⟨Nat.le_refl _,by unfold maxLen;omega,fun _=>rfl⟩⟩,0,et,P.cellsOf et,[],by rw[nth?_eq];simp,Nat.le_refl _,fun _=>⟨Nat.le_refl _,.slice none 0 0,by rw[← hs.len];simp,rfl⟩⟩,hs',htr⟩
 simp only[execOp,ho,h.nils_inv,Sem.run_pure]
theorem Xf {v:Value} {n:Nat} {base':Nat} {e:TypeId} {size:Nat} {xs:List Value} (h:w.ownsRow base' e size v n xs):Ud v n=v:=by
 rcases h.2 with ⟨rfl,rfl⟩ | ⟨g,cap,cur,rfl,_⟩<;>rfl
theorem A9d {v:Value} {n:Nat} {base':Nat} {e:TypeId} {size:Nat} {xs:List Value} (h:w.ownsRow base' e size v n xs):∃ a cap,v=.slice a n cap∧Cap a n cap:=by
 rcases h.2 with ⟨rfl,rfl⟩ | ⟨g,cap,cur,rfl,_,_,h1,h2,_⟩
 ·exact⟨none,0,rfl,Nat.le_refl _,by unfold maxLen;omega,fun _=>rfl⟩
 ·exact⟨_,cap,rfl,h1,h2,fun h=>by cases h⟩
theorem A2k (hs:Sim P base S w hp φ) (ht:∀ x,Rep S w hp φ (ev tm x) (e x)) {t et:TypeId} {s x:Operand} (ho:o.op=.call { callee:=.builtin .append,args:=#[s,x],argTypes:=#[t,t] }) (hu:P.underlying t=some (.slice et)) (hz:0 < P.cellsOf et) {z:AV} (hzero:zero P et=some z) (hzl:z.cells.length=P.cellsOf et) (hz1:z.cells.all AV.one=true)
 {news:List (List AV)} (hx:E0 hp (P.cellsOf et) (ev tm x)=some news) {id ver n:Nat} (hsv:ev tm s=.stk id ver n) {els:List (List AV)} (hob:nth? hp id=some (.stk ver et (P.cellsOf et) els)) (hn:n=els.length) (hb:(els.length+news.length)*(P.bytesOf et+1)≤140737488355328) :
 Acts P base S w hp φ e o (.stk id (ver+1) (els.length+news.length)) (Bq hp id (.stk (ver+1) et (P.cellsOf et) (els++news))):=by
 have hse:=ht s
 rw[hsv] at hse
 have hst:=hse.stk_inv
 obtain⟨_,v0,vss,c1,c2,g2,g3,g4,c6,c7,g7,c9⟩:=Pq hs hst hob
 subst hn
 rw[Xf g2] at c2
 rw[nth?_eq] at hob
 rw[B8]
 obtain⟨ad,c,nvss,hxe,hnr,hnl,hnc,hnn⟩:=Ss hs (ht x) hx
 have hlv:=g3.length
 have hln:=hnr.length
 have hno:E5 nvss.flatten:=by
  intro u hu
  obtain⟨vs,hvs,hu⟩:=List.mem_flatten.1 hu
  obtain⟨k,hk,rfl⟩:=List.getElem_of_mem hvs
  obtain⟨el,hel⟩:∃ el,news[k]?=some el:=⟨_,A6 (by omega)⟩
  obtain⟨vs',e1,e2,e3⟩:=hnr.get hel
  rw[A6 hk] at e1;cases e1
  exact e3 u hu
 obtain⟨v',w',hrun,hown',hgrow,hold,hblk,hm0⟩:=P9 (ty:=o.type) hu rfl hz hzero hzl hz1 g2 hs.low (ad:=ad) (m:=news.length) (c:=c) (news:=nvss.flatten) (by rw[Da hnl,hln]) hnc (fun ha=>by obtain⟨e1,e2⟩:=hnn ha;subst e1;exact⟨rfl,e2⟩) hno hb
 have hat:∀ g,v0.ownBlock=some g→Af φ id=some g:=fun g hg=>by simp[Af,c1,hg]
 have hvlt:=hown'.lt
 have hnewblk:∀ g,v'.ownBlock=some g→v0.ownBlock=some g∨w.heap.size≤g:=by
  intro g hg
  rcases hblk with h | ⟨g',h1,h2⟩
  ·rw[h] at hg;exact .inl hg
  ·rw[hg] at h1;cases h1;exact .inr h2
 have hS:SExt S w S w':=by
  intro b ob hb'
  refine⟨hb',?_⟩
  obtain⟨u,hu',_⟩:=hs.cell b ob hb'
  exact Id (hgrow.block b (Ey hu') fun h=>g7 b h.symm ob hb') ob
 have hidφ:id < φ.length:=nth?_lt c1
 have hE:=Xb hp (φ:=φ) (φ':=φ.set id (.sv v')) (ver':=ver+1) (els':=els++news) hob (by omega) (fun h=>by omega) (fun j hj=>List.getElem?_set_ne (Ne.symm hj)) (fun p hp' h=>by rw[c1] at h;cases h;cases hp')
 have hbt:∀ j b,Af (φ.set id (.sv v')) j=some b→(j=id∧v'.ownBlock=some b)∨(j≠id∧Af φ j=some b):=by
  intro j b hj
  unfold Af at hj ⊢
  by_cases hji:j=id
  ·subst hji
   rw[List.getElem?_set_self hidφ] at hj
   exact .inl ⟨rfl,hj⟩
  ·rw[List.getElem?_set_ne (Ne.symm hji)] at hj
   exact .inr ⟨hji,hj⟩
 have hclash:∀ j b,j≠id→Af φ j=some b→v'.ownBlock≠some b:=by
  intro j b hji hj hv'
  rcases hnewblk b hv' with h | h
  ·exact hji (hs.apart j id b hj (hat b h))
  ·have:=(hs.block_lt hj).2;omega
 have hlen:(els++news).length=els.length+news.length:=List.length_append
 have hsim:Sim P base S w' (hp.set id (.stk (ver+1) et (P.cellsOf et) (els++news))) (φ.set id (.sv v')):=by
  refine⟨by simpa using hs.len,Nat.le_trans hs.low hgrow.size,fun b ob hb'=>?_,fun j oj hj=>?_,fun i j b hi hj=>?_⟩
  ·obtain⟨u,hu',hf⟩:=hs.cell b ob hb'
   exact⟨u,(hS b ob hb').2.trans hu',hf⟩
  ·by_cases hji:j=id
   ·subst hji
    rw[List.getElem?_set_self (nth?_lt hob)] at hj
    cases hj
    refine⟨v',vss++nvss,List.getElem?_set_self hidφ,by rw[hlen,List.flatten_append];exact hown',(Repss.mono hS g3).append (Repss.mono hS hnr),fun vs hv=>(List.mem_append.1 hv).elim (g4 vs) (hnl vs),hz,rfl,fun g hg ob hgo=>?_⟩
    rcases hnewblk g hg with h' | h'
    ·exact g7 g h' ob hgo
    ·obtain⟨u,hu',_⟩:=hs.cell g ob hgo
     have:=Ey hu';omega
   ·rw[List.getElem?_set_ne (Ne.symm hji)] at hj
    exact(hs.obj j oj hj).keep hS hE (List.getElem?_set_ne (Ne.symm hji)) fun b hb'=>⟨hgrow.block b (hs.block_lt hb').2 fun h=>hji (hs.apart j id b hb' (hat b h.symm)),fun ob=>.rfl⟩
  ·rcases hbt i b hi with ⟨i1,i2⟩ | ⟨i1,i2⟩<;>rcases hbt j b hj with ⟨j1,j2⟩ | ⟨j1,j2⟩
   ·rw[i1,j1]
   ·exact absurd i2 (hclash j b j1 j2)
   ·exact absurd j2 (hclash i b i1 i2)
   ·exact hs.apart i j b i2 j2
 have htr:Trans base S w hp φ S w' (hp.set id (.stk (ver+1) et (P.cellsOf et) (els++news))) (φ.set id (.sv v')) :=
  have hnm:∀ b,v'.ownBlock=some b→N8 w φ b:=fun b hb'=>(hnewblk b hb').elim (fun h=>.inl ⟨id,hat b h⟩) .inr
  ⟨hS,hE,(Below.refl _ _).grown hgrow hs.low fun k hk=>(g2.lt k hk).1,fun b ob h=>.inl h,fun b ob h=>.inl h,fun i b h=>(hbt i b h).elim (fun h=>hnm b h.2) fun h=>.inl ⟨i,h.2⟩,fun b hb'=>hgrow.block b (Hz hb').1 fun h=>(Hz hb').2 id (hat b h.symm)⟩
 refine⟨v',S,φ.set id (.sv v'),w',.inl ?_,.stk _ _ _ _ _ _ ⟨A9d hown',ver+1,et,_,els++news,by rw[nth?_eq];exact List.getElem?_set_self (nth?_lt hob),Nat.le_refl _,fun _=>⟨by rw[hlen];exact Nat.le_refl _,v',List.getElem?_set_self hidφ,(Xf hown').symm⟩⟩,hsim,htr⟩
 simp only[execOp,ho,resolve,invoke,builtin,Sem.run_bind,Sem.run_pure,Result.andThen_ok,List.map_toArray,List.map_cons,List.map_nil,hxe,c2,hrun]
theorem Aof {id ver n:Nat} (hg:Acts P base S w hp φ e o (.stk id ver n) hp) {et:TypeId} {size:Nat} {els:List (List AV)} (hob:nth? hp id=some (.stk ver et size els)):Acts P base S w hp φ e o (.stk id (ver+1) n) (Bq hp id (.stk (ver+1) et size (els.take n))):=by
 obtain⟨u,S,φ,w,hrun,hr,hs,ht0⟩:=hg
 have hst:=hr.stk_inv
 obtain⟨hle,v0,vss,c1,c2,g2,g3,g4,c6,c7,g7,c9⟩:=Pq hs hst hob
 rw[nth?_eq] at hob
 rw[B8]
 have hidφ:id < φ.length:=nth?_lt c1
 have hcut:=Alh g2 hle
 rw[← Pd g4,← c2] at hcut
 have hown:∀ g,u.ownBlock=some g→v0.ownBlock=some g:=by
  intro g hg
  rcases g2.2 with ⟨rfl,_⟩ | ⟨g',cap,cur,rfl,_⟩
  ·rw[c2] at hg;simp[Ud,Value.ownBlock] at hg
  ·rw[c2] at hg;simpa [Ud,Value.ownBlock] using hg
 have hE:=Xb hp (φ:=φ) (φ':=φ.set id (.sv u)) (ver':=ver+1) (els':=els.take n) hob (by omega) (fun h=>by omega) (fun j hj=>List.getElem?_set_ne (Ne.symm hj)) (fun p hp' h=>by rw[c1] at h;cases h;cases hp')
 have hbt:∀ j b,Af (φ.set id (.sv u)) j=some b→Af φ j=some b:=by
  intro j b hj
  unfold Af at hj ⊢
  by_cases hji:j=id
  ·subst hji
   rw[List.getElem?_set_self hidφ] at hj
   rw[c1];exact hown b hj
  ·rw[List.getElem?_set_ne (Ne.symm hji)] at hj
   exact hj
 have hl:(els.take n).length=n:=by rw[List.length_take];omega
 have hsim:Sim P base S w (hp.set id (.stk (ver+1) et size (els.take n))) (φ.set id (.sv u)):=by
  refine⟨by simpa using hs.len,hs.low,hs.cell,fun j oj hj=>?_,fun i j b hi hj=>hs.apart i j b (hbt i b hi) (hbt j b hj)⟩
  by_cases hji:j=id
  ·subst hji
   rw[List.getElem?_set_self (nth?_lt hob)] at hj
   cases hj
   exact⟨u,vss.take n,List.getElem?_set_self hidφ,by rw[hl];exact hcut,g3.take n,fun vs hv=>g4 vs (List.mem_of_mem_take hv),c6,c7,fun g hg=>g7 g (hown g hg)⟩
  ·rw[List.getElem?_set_ne (Ne.symm hji)] at hj
   exact(hs.obj j oj hj).keep (.refl _ _) hE (List.getElem?_set_ne (Ne.symm hji)) fun b hb'=>⟨rfl,fun ob=>.rfl⟩
 exact⟨u,S,φ.set id (.sv u),w,hrun,.stk _ _ _ _ _ _ ⟨A9d hcut,ver+1,et,size,els.take n,by rw[nth?_eq];exact List.getElem?_set_self (nth?_lt hob),Nat.le_refl _,fun _=>⟨by rw[hl];exact Nat.le_refl _,u,List.getElem?_set_self hidφ,(Xf hcut).symm⟩⟩,hsim,ht0.trans ⟨.refl _ _,hE,.refl _ _,fun b o h=>.inl h,fun b o h=>.inl h,fun i b h=>.inl ⟨i,hbt i b h⟩,fun _ _=>rfl⟩⟩
end
end Go.Proofs.YtfabdppicogkmaaGreat
end
