/- Parts of the proofs: what they lean on. Conditions: none. -/
import Derived.Orders
import Derived.Test.YtfabdppicogkmaaGreatGsfS4
section
namespace Go.Proofs.YtfabdppicogkmaaGreat
open Go.RowKit
set_option linter.unusedVariables false
set_option linter.unusedSimpArgs false
def Qh (ops:List Oper) (o:Oper):List Tmp :=
 (o.op.operands.toList.filterMap fun | .tmp t=>some t | _=>none)++(match o.guard with
  | some (g,_)=>((nth? ops g).bind (·.dst)).toList
  | none=>[])
def Jj (ops:List Oper) (x y:Oper):Bool:=match x.dst with
 | some d=>!(Qh ops y).contains d&&y.dst != some d
 | none=>true
def Jg (H:Bv) (f:FuncId) (ops:List Oper) (j i:Oper):Bool:=A7r (cls H f j) (cls H f i)&&Jj ops j i&&Jj ops i j
def Vj (H:Bv) (f:FuncId) (ops:List Oper) (i:Nat) (o:Oper):Nat→List Oper→Bool
 | _,[]=>true
 | j,p :: l=>(Ez o j || decide (i≤j) || Jg H f ops p o)&&Vj H f ops i o (j+1) l
def Wm (H:Bv) (f:FuncId) (ops:List Oper):Nat→List Oper→Bool
 | _,[]=>true
 | i,o :: l=>(o.after.all fun e=>!Region.binds .any e || decide (e.on < i))&&Vj H f ops i o 0 ops&&Wm H f ops (i+1) l
def A8t (H:Bv) (f:FuncId) (ops:Array Oper):Bool:=Wm H f ops.toList 0 ops.toList
def A7m (H:Bv) (f:FuncId) (ops:List Oper):List (Nat×Oper)→Bool
 | []=>true
 | p :: l=>l.all (fun q=>!(Nat.beq p.1 q.1)&&!Ez p.2 q.1&&(Jg H f ops p.2 q.2 || anc ops 9 q.2 p.1))&&A7m H f ops l
def Z6 (H:Bv) (f:FuncId) (ops:Array Oper) (ord:List Nat):Bool :=
 decide ((G8 ops.toList ord).length=ops.size)&&(List.range ops.size).all (fun i=>ord.contains i)&&A7m H f ops.toList (G8 ops.toList ord)&&(G8 ops.toList ord).all (fun p=>!Ez p.2 p.1&&p.2.after.all fun e=>!Region.binds .any e || decide (e.on < ops.size))
theorem Y3 (ops:List Oper):∀ ord,(G8 ops ord).map (·.2)=Zc ops ord
 | []=>rfl
 | i :: l=>by
  simp only[G8,Zc]
  cases nth? ops i with
  | none=>exact Y3 ops l
  | some o=>simp only[List.map_cons,Y3 ops l]
theorem Qs (ops:List Oper) {i:Nat} {o:Oper}:∀ ord,(i,o) ∈ G8 ops ord→ops[i]?=some o
 | [],h=>by cases h
 | k :: l,h=>by
  simp only[G8] at h
  cases hk:nth? ops k with
  | none=>rw[hk] at h;exact Qs ops l h
  | some q =>
   rw[hk] at h
   rcases List.mem_cons.1 h with e | h
   ·cases e;rw[← nth?_eq];exact hk
   ·exact Qs ops l h
theorem Ys (ops:List Oper) {i:Nat} {o:Oper} (ho:ops[i]?=some o):∀ ord,i ∈ ord→(i,o) ∈ G8 ops ord
 | [],h=>by cases h
 | k :: l,h=>by
  simp only[G8]
  rcases List.mem_cons.1 h with e | h
  ·subst e
   rw[nth?_eq,ho]
   exact List.mem_cons_self
  ·cases nth? ops k with
   | none=>exact Ys ops ho l h
   | some q=>exact List.mem_cons_of_mem _ (Ys ops ho l h)
theorem A1w {H:Bv} {f:FuncId} {ops:List Oper}:∀ {l:List (Nat×Oper)},A7m H f ops l=true→l.Pairwise fun p q=>p.1≠q.1∧Ez p.2 q.1=false∧(Jg H f ops p.2 q.2=true∨anc ops 9 q.2 p.1=true)
 | [],_=>List.Pairwise.nil
 | p :: l,h=>by
  simp only[A7m,A8,List.all_eq_true] at h
  refine List.Pairwise.cons (fun q hq=>?_) (A1w h.2)
  have:=h.1 q hq
  simp only[A8,Bool.not_eq_true',Bool.or_eq_true] at this
  obtain⟨⟨a,b⟩,c⟩:=this
  exact⟨fun e=>(by rw[e,Nat.beq_refl] at a;cases a),b,c⟩
section
variable {P:Program} {H:Bv} {call:Bp} {f:FuncId} {tm tm':Tm} {hp hp':Hp} {ops:List Oper}
theorem A32 {α:Type} (d:α) (l:List α) {i j:Nat} (v:α) (h:i≠j):nth d (l.set i v) j=nth d l j:=by
 rw[Yx,Yx,List.getElem?_set_ne h]
theorem A0l {d d':Option Tmp} {v v':AV} (h:∀ t,d=some t→d'≠some t):put (put tm d v) d' v'=put (put tm d' v') d v:=by
 cases d with
 | none=>rfl
 | some t=>cases d' with
   | none=>rfl
   | some t' =>
    simp only[put,B8]
    exact List.set_comm _ _ (fun e=>h t rfl (by rw[e]))
theorem Pz {x y:Oper} (h:Jj ops x y=true):∀ t,x.dst=some t→t ∉ Qh ops y∧y.dst≠some t:=by
 intro t ht
 simp only[Jj,ht,A8,Bool.not_eq_true',bne_iff_ne,ne_eq] at h
 refine⟨fun hm=>?_,h.2⟩
 have:=h.1
 simp at this
 exact this hm
theorem Nc (o:Oper) (h:∀ t ∈ Qh ops o,nth .junk tm t=nth .junk tm' t) {tm1:Tm} {hp1:Hp} (hs:Cm P H call f ops o tm hp=some (tm1,hp1)):∃ v,tm1=put tm o.dst v∧Cm P H call f ops o tm' hp=some (put tm' o.dst v,hp1):=by
 have hop:∀ x ∈ o.op.operands,ev tm x=ev tm' x:=by
  intro x hx
  cases x with
  | tmp t=>exact h t (List.mem_append_left _ (List.mem_filterMap.2 ⟨.tmp t,by simpa using hx,rfl⟩))
  | _=>rfl
 have hd:B5 P H call f o tm' hp=B5 P H call f o tm hp:=(Aer o hop).symm
 have yes:(B5 P H call f o tm hp).map (fun p=>(put tm o.dst p.1,p.2))=some (tm1,hp1)→∃ v,tm1=put tm o.dst v∧(B5 P H call f o tm' hp).map (fun p=>(put tm' o.dst p.1,p.2))=some (put tm' o.dst v,hp1):=by
  intro hs
  rw[hd]
  cases hq:B5 P H call f o tm hp with
  | none=>rw[hq] at hs;cases hs
  | some p=>rw[hq] at hs;cases hs;exact⟨p.1,rfl,rfl⟩
 unfold Cm at hs ⊢
 cases hg:o.guard with
 | none=>rw[hg] at hs;exact yes hs
 | some q =>
  obtain⟨j,want⟩:=q
  rw[hg] at hs
  simp only at hs ⊢
  cases hj:(nth? ops j).bind (·.dst) with
  | none=>rw[hj] at hs;cases hs
  | some t =>
   rw[hj] at hs
   simp only at hs ⊢
   have ht:nth .junk tm t=nth .junk tm' t:=h t (List.mem_append_right _ (by simp[hg,hj]))
   rw[← ht]
   cases hb:nth .junk tm t<;>rw[hb] at hs<;>first | (cases hs;done) | skip
   case tup l =>
    cases l with
    | cons _ _=>cases hs
    | nil=>cases hs;exact⟨_,rfl,rfl⟩
   simp only at hs ⊢
   rename_i b
   by_cases hw:b=want
   ·rw[if_pos hw] at hs ⊢;exact yes hs
   ·rw[if_neg hw] at hs ⊢;cases hs;exact⟨_,rfl,rfl⟩
theorem Ol (o:Oper) {tm1:Tm} {hp1:Hp} (hs:Cm P H call f ops o tm hp=some (tm1,hp1)):∃ v,tm1=put tm o.dst v:=by
 obtain⟨v,h,_⟩:=Nc (tm':=tm) o (fun _ _=>rfl) hs
 exact⟨v,h⟩
theorem Aa8 (o:Oper) {Q:Hp→Hp→Prop} (hq:∀ v hp1,B5 P H call f o tm hp=some (v,hp1)→Q hp hp1) (hr:Q hp hp) {tm1:Tm} {hp1:Hp} (hs:Cm P H call f ops o tm hp=some (tm1,hp1)):Q hp hp1:=by
 have yes:(B5 P H call f o tm hp).map (fun p=>(put tm o.dst p.1,p.2))=some (tm1,hp1)→Q hp hp1:=by
  intro hs
  cases hd:B5 P H call f o tm hp with
  | none=>rw[hd] at hs;cases hs
  | some p=>rw[hd] at hs;cases hs;exact hq _ _ hd
 unfold Cm at hs
 repeat' split at hs
 all_goals first | (cases hs;done) | exact yes hs | (cases hs;exact hr)
theorem N0 (o:Oper) {R:Hp→Hp→Prop} (hq:∀ v hp1,B5 P H call f o tm hp=some (v,hp1)→hp1=hp∧∀ hp2,R hp hp2→B5 P H call f o tm hp2=some (v,hp2)) {tm1:Tm} {hp1:Hp} (hs:Cm P H call f ops o tm hp=some (tm1,hp1)):hp1=hp∧∀ hp2,R hp hp2→Cm P H call f ops o tm hp2=some (tm1,hp2):=by
 have yes:(B5 P H call f o tm hp).map (fun p=>(put tm o.dst p.1,p.2))=some (tm1,hp1)→hp1=hp∧∀ hp2,R hp hp2→(B5 P H call f o tm hp2).map (fun p=>(put tm o.dst p.1,p.2))=some (tm1,hp2):=by
  intro hs
  cases hd:B5 P H call f o tm hp with
  | none=>rw[hd] at hs;cases hs
  | some p =>
   rw[hd] at hs;cases hs
   obtain⟨h1,h2⟩:=hq _ _ hd
   exact⟨h1,fun hp2 hr=>by rw[h2 hp2 hr];rfl⟩
 unfold Cm at hs ⊢
 split at hs
 ·exact yes hs
 ·split at hs
  ·cases hs
  ·split at hs
   ·split at hs
    ·rename_i hw;simp only[hw,if_true];exact yes hs
    ·rename_i hw;cases hs;exact⟨rfl,fun _ _=>by simp only[hw,if_false]⟩
   ·cases hs;exact⟨rfl,fun _ _=>rfl⟩
   ·cases hs
theorem As3 {j i:Oper} (hok:Jg H f ops j i=true) {tm1 tm2:Tm} {hp1 hp2:Hp} (h1:Cm P H call f ops j tm hp=some (tm1,hp1)) (h2:Cm P H call f ops i tm1 hp1=some (tm2,hp2)) :
 ∃ tmi hpi,Cm P H call f ops i tm hp=some (tmi,hpi)∧Cm P H call f ops j tmi hpi=some (tm2,hp2):=by
 simp only[Jg,A8] at hok
 obtain⟨⟨hc,ha⟩,hb⟩:=hok
 have aj:=Pz ha
 have ai:=Pz hb
 obtain⟨vj,rfl⟩:=Ol j h1
 obtain⟨vi,rfl⟩:=Ol i h2
 have look:∀ (o o':Oper) (tm:Tm) (v:AV),(∀ t,o.dst=some t→t ∉ Qh ops o'∧o'.dst≠some t)→∀ t ∈ Qh ops o',nth .junk (put tm o.dst v) t=nth .junk tm t:=by
  intro o o' tm v h t ht
  cases hd:o.dst with
  | none=>rfl
  | some d =>
   have:d≠t:=fun e=>(h d hd).1 (e ▸ ht)
   simp only[put,B8]
   exact A32 _ _ _ this
 have comm:put (put tm j.dst vj) i.dst vi=put (put tm i.dst vi) j.dst vj:=A0l fun t ht=>(aj t ht).2
 have hi:∃ v,put (put tm j.dst vj) i.dst vi=put (put tm j.dst vj) i.dst v∧Cm P H call f ops i tm hp1=some (put tm i.dst v,hp2):=Nc i (look j i tm vj aj) h2
 obtain⟨v,e1,hi⟩:=hi
 have fin:∀ hpi,Cm P H call f ops i tm hp=some (put tm i.dst v,hpi)→Cm P H call f ops j tm hpi=some (put tm j.dst vj,hp2)→∃ tmi hpi,Cm P H call f ops i tm hp=some (tmi,hpi)∧Cm P H call f ops j tmi hpi=some (put (put tm j.dst vj) i.dst vi,hp2):=by
  intro hpi g1 g2
  obtain⟨v',e2,g3⟩:=Nc (tm':=put tm i.dst v) j (fun t ht=>(look i j tm v ai t ht).symm) g2
  refine⟨_,_,g1,?_⟩
  rw[g3,e1,e2]
  congr 2
  exact A0l fun t ht=>(ai t ht).2
 have early:∀ R:Hp→Hp→Prop,(∀ v hp1,B5 P H call f j tm hp=some (v,hp1)→hp1=hp∧∀ hp2,R hp hp2→B5 P H call f j tm hp2=some (v,hp2))→(hp1=hp→R hp hp2)→∃ tmi hpi,Cm P H call f ops i tm hp=some (tmi,hpi)∧Cm P H call f ops j tmi hpi=some (put (put tm j.dst vj) i.dst vi,hp2):=by
  intro R hR hr
  obtain⟨e,g⟩:=N0 j hR h1
  subst e
  exact fin hp2 hi (g hp2 (hr rfl))
 have late:cls H f i=.P→∃ tmi hpi,Cm P H call f ops i tm hp=some (tmi,hpi)∧Cm P H call f ops j tmi hpi=some (put (put tm j.dst vj) i.dst vi,hp2):=by
  intro hci
  have:=N0 (R:=fun _ _=>True) i (fun v hpx h=>let ⟨a,b⟩:=A2i hci h;⟨a,fun hp2 _=>b hp2⟩) hi
  obtain⟨e,g⟩:=this
  subst e
  exact fin hp (g hp trivial) h1
 have same:∀ {R:Hp→Hp→Prop},(∀ v hpx,B5 P H call f i tm hp1=some (v,hpx)→hpx=hp1∧∀ hp2,R hp1 hp2→B5 P H call f i tm hp2=some (v,hp2))→hp2=hp1:=fun hR=>(N0 i hR hi).1
 have grown:(∀ v hpx,B5 P H call f i tm hp1=some (v,hpx)→More hp1 hpx)→More hp1 hp2:=fun h=>Aa8 i h (fun _ _ h=>h) hi
 have grown':(∀ v hpx,B5 P H call f i tm hp1=some (v,hpx)→Ju hp1 hpx)→Ju hp1 hp2:=fun h=>Aa8 i h (fun id o h=>⟨o,h,.inl rfl⟩) hi
 have sameP:cls H f i=.P→hp2=hp1:=fun hci=>same (R:=fun _ _=>True) fun v hpx h=>let ⟨a,b⟩:=A2i hci h;⟨a,fun hp2 _=>b hp2⟩
 have sameR:cls H f i=.R→hp2=hp1:=fun hci=>same fun v hpx h=>St hci h
 have sameC:cls H f i=.C→hp2=hp1:=fun hci=>same fun v hpx h=>Vg hci h
 cases hcj:cls H f j<;>cases hci:cls H f i<;>rw[hcj,hci] at hc<;>first | (cases hc;done) | exact late hci | skip
 case P.R | P.C | P.A | P.G | P.W | P.S=>exact early (fun _ _=>True) (fun v hpx h=>let ⟨a,b⟩:=A2i hcj h;⟨a,fun hp2 _=>b hp2⟩) (fun _=>trivial)
 case R.R=>exact early Ju (fun v hpx h=>St hcj h) (fun e=>by rw[← e,sameR hci];exact fun id o h=>⟨o,h,.inl rfl⟩)
 case R.C=>exact early Ju (fun v hpx h=>St hcj h) (fun e=>by rw[← e,sameC hci];exact fun id o h=>⟨o,h,.inl rfl⟩)
 case R.A=>exact early Ju (fun v hpx h=>St hcj h) (fun e=>by rw[← e];exact(grown fun v hpx h=>Aju hci h).grown)
 case R.G=>exact early Ju (fun v hpx h=>St hcj h) (fun e=>by rw[← e];exact grown' fun v hpx h=>Are hci h)
 case C.R=>exact early More (fun v hpx h=>Vg hcj h) (fun e=>by rw[← e,sameR hci];exact fun id o h=>h)
 case C.C=>exact early More (fun v hpx h=>Vg hcj h) (fun e=>by rw[← e,sameC hci];exact fun id o h=>h)
 case C.A=>exact early More (fun v hpx h=>Vg hcj h) (fun e=>by rw[← e];exact grown fun v hpx h=>Aju hci h)
theorem X9 (i:Oper) (post:List Oper):∀ (pre:List Oper) (tm:Tm) (hp:Hp),(∀ j ∈ pre,Jg H f ops j i=true)→∀ {r:Tm×Hp},Ri P H call f ops (pre++i :: post) tm hp=some r →
 ∃ tm1 hp1,Cm P H call f ops i tm hp=some (tm1,hp1)∧Ri P H call f ops (pre++post) tm1 hp1=some r
 | [],tm,hp,_,r,h=>by
  rw[List.nil_append,Ri] at h
  cases hi:Cm P H call f ops i tm hp with
  | none=>rw[hi] at h;cases h
  | some p=>rw[hi] at h;exact⟨p.1,p.2,rfl,h⟩
 | j :: pre,tm,hp,hok,r,h=>by
  rw[List.cons_append,Ri] at h
  cases hj:Cm P H call f ops j tm hp with
  | none=>rw[hj] at h;cases h
  | some p =>
   rw[hj] at h
   obtain⟨tm1,hp1,h1,h2⟩:=X9 i post pre p.1 p.2 (fun k hk=>hok k (List.mem_cons_of_mem _ hk)) h
   obtain⟨tmi,hpi,g1,g2⟩:=As3 (hok j List.mem_cons_self) (tm1:=p.1) (hp1:=p.2) hj h1
   refine⟨tmi,hpi,g1,?_⟩
   rw[List.cons_append,Ri,g2]
   exact h2
end
def Ew (listed:Array Bool):Nat→List Oper→List Oper
 | _,[]=>[]
 | k,o :: l=>if listed.getD k true=true then Ew listed (k+1) l else o :: Ew listed (k+1) l
theorem A81 (listed:Array Bool) (i:Nat):∀ (l:List Oper) (k:Nat),i < k→Ew (listed.setIfInBounds i true) k l=Ew listed k l
 | [],_,_=>rfl
 | o :: l,k,h=>by
  have:(listed.setIfInBounds i true).getD k true=listed.getD k true:=getD_set_ne true (by omega)
  simp only[Ew,this,A81 listed i l (k+1) (by omega)]
theorem Xl (listed:Array Bool) {i:Nat} {o:Oper} (hun:listed.getD i true=false):∀ (l:List Oper) (k:Nat),k≤i→l[i - k]?=some o →
 ∃ pre post,Ew listed k l=pre++o :: post∧Ew (listed.setIfInBounds i true) k l=pre++post∧∀ p ∈ pre,∃ j,k≤j∧j < i∧l[j - k]?=some p∧listed.getD j true=false
 | [],k,hk,h=>by simp at h
 | q :: l,k,hk,h=>by
  rcases Nat.lt_or_ge k i with hlt | hge
  ·have h':l[i - (k+1)]?=some o:=by
    rw[show i - k=(i - (k+1))+1 by omega] at h
    simpa using h
   obtain⟨pre,post,e1,e2,e3⟩:=Xl listed hun l (k+1) (by omega) h'
   have hkk:(listed.setIfInBounds i true).getD k true=listed.getD k true:=getD_set_ne true (by omega)
   have e3':∀ p ∈ pre,∃ j,k≤j∧j < i∧(q :: l)[j - k]?=some p∧listed.getD j true=false:=fun p hp=>by
    obtain⟨j,j1,j2,j3,j4⟩:=e3 p hp
    refine⟨j,by omega,j2,?_,j4⟩
    rw[show j - k=(j - (k+1))+1 by omega]
    simpa using j3
   by_cases hl:listed.getD k true=true
   ·refine⟨pre,post,?_,?_,e3'⟩
    ·simp only[Ew,hl,if_true,e1]
    ·simp only[Ew,hkk,hl,if_true,e2]
   ·have hl':listed.getD k true=false:=by simpa using hl
    refine⟨q :: pre,post,?_,?_,fun p hp=>?_⟩
    ·simp only[Ew,hl',Bool.false_eq_true,if_false,e1,List.cons_append]
    ·simp only[Ew,hkk,hl',Bool.false_eq_true,if_false,e2,List.cons_append]
    ·rcases List.mem_cons.1 hp with rfl | hp
     ·exact⟨k,Nat.le_refl _,hlt,by simp,by simpa using hl⟩
     ·exact e3' p hp
  ·have:k=i:=by omega
   subst this
   simp at h;subst h
   refine⟨[],Ew listed (k+1) l,?_,?_,fun p hp=>by simp at hp⟩
   ·simp only[Ew,hun,Bool.false_eq_true,if_false,List.nil_append]
   ·have hs:(listed.setIfInBounds k true).getD k true=true:=by
     rcases Nat.lt_or_ge k listed.size with h | h
     ·simp[h]
     ·simp[Array.getElem?_eq_none h] at hun
    simp only[Ew,hs,if_true,List.nil_append]
    exact A81 listed k l (k+1) (by omega)
theorem A62 (listed:Array Bool):∀ (l:List Oper) (k:Nat),Ew listed k l≠[]→∃ i o,k≤i∧l[i - k]?=some o∧listed.getD i true=false∧∀ j,k≤j→j < i→listed.getD j true=true
 | [],k,h=>absurd rfl h
 | q :: l,k,h=>by
  by_cases hl:listed.getD k true=true
  ·simp only[Ew,hl,if_true] at h
   obtain⟨i,o,h1,h2,h3,h4⟩:=A62 listed l (k+1) h
   refine⟨i,o,by omega,?_,h3,fun j hj1 hj2=>?_⟩
   ·rw[show i - k=(i - (k+1))+1 by omega];simpa using h2
   ·rcases Nat.eq_or_lt_of_le hj1 with e | e
    ·subst e;exact hl
    ·exact h4 j (by omega) hj2
  ·exact⟨k,q,Nat.le_refl _,by simp,by simpa using hl,fun j h1 h2=>by omega⟩
theorem Acn (n:Nat):∀ (l:List Oper) (k:Nat),k+l.length=n→Ew (Array.replicate n false) k l=l
 | [],_,_=>rfl
 | o :: l,k,h=>by
  simp only[List.length_cons] at h
  have:(Array.replicate n false).getD k true=false:=by simp[show k < n by omega]
  simp only[Ew,this,Bool.false_eq_true,if_false,Acn n l (k+1) (by omega)]
theorem A30 {H:Bv} {f:FuncId} {ops:List Oper} {i:Nat} {o:Oper}:∀ (l:List Oper) (k:Nat),Vj H f ops i o k l=true→∀ j p,k≤j→l[j - k]?=some p→Ez o j=true∨i≤j∨Jg H f ops p o=true
 | [],k,_,j,p,_,h=>by simp at h
 | q :: l,k,hp,j,p,hk,h=>by
  simp only[Vj,A8,Bool.or_eq_true,Ai] at hp
  rcases Nat.eq_or_lt_of_le hk with e | e
  ·subst e
   simp at h;subst h
   rcases hp.1 with (h | h) | h
   ·exact .inl h
   ·exact .inr (.inl h)
   ·exact .inr (.inr h)
  ·refine A30 l (k+1) hp.2 j p (by omega) ?_
   rw[show j - k=(j - (k+1))+1 by omega] at h
   simpa using h
theorem Yg {H:Bv} {f:FuncId} {ops:List Oper}:∀ (l:List Oper) (k:Nat),Wm H f ops k l=true→∀ i o,k≤i→l[i - k]?=some o→(∀ e ∈ o.after,Region.binds .any e=true→e.on < i)∧Vj H f ops i o 0 ops=true
 | [],k,_,i,o,_,h=>by simp at h
 | q :: l,k,hp,i,o,hk,h=>by
  simp only[Wm,A8] at hp
  rcases Nat.eq_or_lt_of_le hk with e | e
  ·subst e
   simp at h;subst h
   refine⟨fun e he hb=>?_,hp.1.2⟩
   have:=hp.1.1
   rw[Array.all_eq_true_iff_forall_mem] at this
   have:=this e he
   simpa [hb] using this
  ·refine Yg l (k+1) hp.2 i o (by omega) ?_
   rw[show i - k=(i - (k+1))+1 by omega] at h
   simpa using h
section
variable {P:Program} {H:Bv} {call:Bp} {f:FuncId} {base:Nat} {ops:Array Oper}
theorem Ahj (hH:My P H) (hc:Fy P H call) (hd:A8t H f ops=true) {Q:Exit→Act→World→Prop} {fin:Tm×Hp}:∀ (fuel:Nat) (listed:Array Bool) (S:Nat→Nat→Prop) (w:World) (tm:Tm) (hp:Hp) (φ:List Pl) (a:Act),(Ew listed 0 ops.toList).length=fuel→listed.size=ops.size→Sim P base S w hp φ→Reps S w hp φ tm a.tmps.toList →
 Ri P H call f ops.toList (Ew listed 0 ops.toList) tm hp=some fin →
 (∀ S' φ' a' w',Reps S' w' fin.2 φ' fin.1 a'.tmps.toList→Sim P base S' w' fin.2 φ'→Trans base S w hp φ S' w' fin.2 φ'→a'.defers=a.defers→Q .normal a' w')→wpAny P .any ops Q fuel listed a w:=by
 intro fuel
 induction fuel with
 | zero =>
  intro listed S w tm hp φ a hf hl hs ht h hn
  have hrem:=List.eq_nil_of_length_eq_zero hf
  rw[hrem] at h
  cases h
  refine⟨?_,hn S φ a w ht hs (.refl _ _ _ _ _) rfl⟩
  cases hr:Region.ready .any ops listed with
  | nil=>rfl
  | cons i t =>
   have hi:i ∈ Region.ready .any ops listed:=by rw[hr];exact List.mem_cons_self
   obtain⟨hun,o,ho,_⟩:=mem_ready.1 hi
   obtain⟨pre,post,e1,_⟩:=Xl listed hun ops.toList 0 (Nat.zero_le _) (by simpa using ho)
   rw[hrem] at e1
   simp at e1
 | succ fuel ih =>
  intro listed S w tm hp φ a hf hl hs ht h hn
  refine⟨fun hr=>?_,fun i hi=>?_⟩
  ·exfalso
   obtain⟨i,o,h1,h2,h3,h4⟩:=A62 listed ops.toList 0 (fun e=>by rw[e] at hf;simp at hf)
   have hspec:=(Yg ops.toList 0 hd i o h1 h2).1
   have:i ∈ Region.ready .any ops listed:=mem_ready.2 ⟨h3,o,by simpa using h2,fun e he hb=>by
    have hlt:=hspec e he hb
    have hh:=h4 e.on (Nat.zero_le _) hlt
    have hsz:e.on < listed.size:=by
     have:i < ops.size:=by have:=nth?_lt h2;simp at this;omega
     omega
    simpa [hsz] using hh⟩
   rw[hr] at this
   cases this
  ·obtain⟨hun,o,ho,hall⟩:=mem_ready.1 hi
   have ho':ops.toList[i - 0]?=some o:=by simpa using ho
   obtain⟨pre,post,e1,e2,e3⟩:=Xl listed hun ops.toList 0 (Nat.zero_le _) ho'
   have hpairs:=(Yg ops.toList 0 hd i o (Nat.zero_le _) ho').2
   have hswap:∀ j ∈ pre,Jg H f ops.toList j o=true:=by
    intro p hp'
    obtain⟨j,_,j2,j3,j4⟩:=e3 p hp'
    rcases A30 ops.toList 0 hpairs j p (Nat.zero_le _) j3 with hb | hb | hb
    ·exfalso
     unfold Ez at hb
     rw[Array.any_eq_true] at hb
     obtain⟨k,hk,hb⟩:=hb
     simp only[A8,beq_iff_eq] at hb
     have:=hall o.after[k] (Array.getElem_mem hk) hb.2
     rw[hb.1] at this
     rcases Nat.lt_or_ge j listed.size with hj | hj
     ·simp[hj] at this j4;rw[j4] at this;cases this
     ·simp[Array.getElem?_eq_none hj] at this
    ·omega
    ·exact hb
   rw[e1] at h hf
   obtain⟨tm1,hp1,g1,g2⟩:=X9 o post pre tm hp hswap h
   have hos:=Ry (ops:=ops) (C:=fun tm hp=>some (tm,hp)) (r:=(tm1,hp1)) hH hc (o:=o) (a:=a) hs ht (by
    refine(Sq (P:=P) (H:=H) (call:=call) (f:=f) ops.toList o fun tm hp=>some (tm,hp)).trans ?_
    rw[g1];rfl) (next:=wpAny P .any ops Q fuel (listed.setIfInBounds i true)) (Q:=Q) (fun tm' hp' S' φ' a' w' k1 k2 k3 k4 k5=>by
     cases k1
     refine ih (listed.setIfInBounds i true) S' w' tm1 hp1 φ' a' (by rw[e2];simp at hf ⊢;omega) (by simpa using hl) k3 k2 (by rw[e2];exact g2) fun S'' φ'' a'' w'' l1 l2 l3 l4=>hn S'' φ'' a'' w'' l1 l2 (k4.trans l3) (l4.trans k5))
   unfold wpOp
   simp only[ho]
   split
   ·rename_i hw;rw[if_pos hw] at hos;exact .inl hos
   ·rename_i hw;rw[if_neg hw] at hos;exact hos
theorem A20 {ops:Array Oper} {listed:Array Bool} (hl:listed.size=ops.size) (hdown:∀ (i:Nat) (o:Oper),ops[i]?=some o→listed.getD i true=true→∀ e ∈ o.after,Region.binds .any e=true→listed.getD e.on false=true):∀ (n:Nat) (o:Oper) (j:Nat),(∀ e ∈ o.after,Region.binds .any e=true→listed.getD e.on false=true)→anc ops.toList n o j=true→listed.getD j false=true:=by
 have base:∀ (o:Oper) (j:Nat),(∀ e ∈ o.after,Region.binds .any e=true→listed.getD e.on false=true)→Ez o j=true→listed.getD j false=true:=by
  intro o j ho hb
  unfold Ez at hb
  rw[Array.any_eq_true] at hb
  obtain⟨k,hk,hb⟩:=hb
  simp only[A8,beq_iff_eq] at hb
  have h3:=ho o.after[k] (Array.getElem_mem hk) hb.2
  rw[hb.1] at h3;exact h3
 intro n
 induction n with
 | zero=>exact base
 | succ n ih =>
  intro o j ho h
  simp only[anc,Bool.or_eq_true,List.any_eq_true,A8] at h
  rcases h with h | ⟨e,he,hb,h⟩
  ·exact base o j ho h
  ·cases hq:nth? ops.toList e.on with
   | none=>rw[hq] at h;cases h
   | some q =>
    rw[hq] at h
    rw[nth?_eq] at hq
    have hq:ops[e.on]?=some q:=by simpa using hq
    have he':=ho e (by simpa using he) hb
    have hlt:=(Array.getElem?_eq_some_iff.1 hq).1
    exact ih q j (hdown e.on q hq (by simpa [hl,hlt] using he')) h
theorem Adn (hH:My P H) (hc:Fy P H call) {ord:List Nat} (hd:Z6 H f ops ord=true) {Q:Exit→Act→World→Prop} {fin:Tm×Hp}:∀ (fuel:Nat) (listed:Array Bool) (S:Nat→Nat→Prop) (w:World) (tm:Tm) (hp:Hp) (φ:List Pl) (a:Act),((G8 ops.toList ord).filter fun p=>!(listed.getD p.1 true)).length=fuel→listed.size=ops.size→(∀ (i:Nat) (o:Oper),ops[i]?=some o→listed.getD i true=true→∀ e ∈ o.after,Region.binds .any e=true→listed.getD e.on false=true)→Sim P base S w hp φ→Reps S w hp φ tm a.tmps.toList →
 Ri P H call f ops.toList (((G8 ops.toList ord).filter fun p=>!(listed.getD p.1 true)).map (·.2)) tm hp=some fin →
 (∀ S' φ' a' w',Reps S' w' fin.2 φ' fin.1 a'.tmps.toList→Sim P base S' w' fin.2 φ'→Trans base S w hp φ S' w' fin.2 φ'→a'.defers=a.defers→Q .normal a' w')→wpAny P .any ops Q fuel listed a w:=by
 simp only[Z6,A8,List.all_eq_true,List.mem_range] at hd
 obtain⟨⟨⟨_,hd1⟩,hd2⟩,hd3⟩:=hd
 have hpw:=A1w hd2
 have hin:∀ (listed:Array Bool) (i:Nat) (o:Oper),ops[i]?=some o→listed.getD i true=false→(i,o) ∈ (G8 ops.toList ord).filter fun p=>!(listed.getD p.1 true):=by
  intro listed i o ho hun
  refine List.mem_filter.2 ⟨Ys ops.toList (by simpa using ho) ord ?_,by simp only[hun,Bool.not_false]⟩
  have:=hd1 i (Array.getElem?_eq_some_iff.1 ho).1
  simpa using this
 intro fuel
 induction fuel with
 | zero =>
  intro listed S w tm hp φ a hf hl hdown hs ht h hn
  have hrem:=List.eq_nil_of_length_eq_zero hf
  rw[hrem] at h
  cases h
  refine⟨?_,hn S φ a w ht hs (.refl _ _ _ _ _) rfl⟩
  cases hr:Region.ready .any ops listed with
  | nil=>rfl
  | cons i t =>
   have hi:i ∈ Region.ready .any ops listed:=by rw[hr];exact List.mem_cons_self
   obtain⟨hun,o,ho,_⟩:=mem_ready.1 hi
   have:=hin listed i o ho hun
   rw[hrem] at this
   cases this
 | succ fuel ih =>
  intro listed S w tm hp φ a hf hl hdown hs ht h hn
  have hrpw:=hpw.filter fun p=>!(listed.getD p.1 true)
  have hmem:∀ p ∈ (G8 ops.toList ord).filter (fun p=>!(listed.getD p.1 true)),ops[p.1]?=some p.2∧listed.getD p.1 true=false:=by
   intro p hp'
   obtain⟨h1,h2⟩:=List.mem_filter.1 hp'
   exact⟨by have:=Qs ops.toList ord (i:=p.1) (o:=p.2) h1;simpa using this,by simpa using h2⟩
  refine⟨fun hr=>?_,fun i hi=>?_⟩
  ·exfalso
   cases hrem:(G8 ops.toList ord).filter (fun p=>!(listed.getD p.1 true)) with
   | nil=>rw[hrem] at hf;simp at hf
   | cons p rest =>
    obtain⟨i,o⟩:=p
    have hio:=hmem (i,o) (by rw[hrem];exact List.mem_cons_self)
    rw[hrem] at hrpw
    have hL:(i,o) ∈ G8 ops.toList ord:=(List.mem_filter.1 (show(i,o) ∈ (G8 ops.toList ord).filter (fun p=>!(listed.getD p.1 true)) by rw[hrem];exact List.mem_cons_self)).1
    have hself:=hd3 (i,o) hL
    simp only[A8,Bool.not_eq_true'] at hself
    have:i ∈ Region.ready .any ops listed:=mem_ready.2 ⟨hio.2,o,hio.1,fun e he hb=>by
     have hsz:e.on < ops.size:=by
      have:=hself.2
      rw[Array.all_eq_true_iff_forall_mem] at this
      have:=this e he
      simpa [hb] using this
     have hbo:Ez o e.on=true:=by
      unfold Ez
      rw[Array.any_eq_true]
      obtain⟨k,hk,hke⟩:=Array.getElem_of_mem he
      exact⟨k,hk,by rw[hke];simp[hb]⟩
     by_cases hun:listed.getD e.on true=true
     ·simpa [hl,hsz] using hun
     ·have hun:listed.getD e.on true=false:=by simpa using hun
      have hin':=hin listed e.on ops[e.on] (Array.getElem?_eq_getElem hsz) hun
      rw[hrem] at hin'
      rcases List.mem_cons.1 hin' with e1 | e1
      ·cases e1
       rw[hself.1] at hbo;cases hbo
      ·have:=(List.pairwise_cons.1 hrpw).1 _ e1
       rw[this.2.1] at hbo;cases hbo⟩
    rw[hr] at this
    cases this
  ·obtain⟨hun,o,ho,hall⟩:=mem_ready.1 hi
   obtain⟨pre,post,e1⟩:=List.append_of_mem (hin listed i o ho hun)
   rw[e1] at hrpw
   have hpp:=List.pairwise_append.1 hrpw
   have hswap:∀ j ∈ pre.map (·.2),Jg H f ops.toList j o=true:=by
    intro p hp'
    obtain⟨q,hq,rfl⟩:=List.mem_map.1 hp'
    have hx:=hpp.2.2 q hq (i,o) List.mem_cons_self
    rcases hx.2.2 with hb | hb
    ·exact hb
    ·exfalso
     have h3:=A20 hl hdown 9 o q.1 (fun e he hb=>by have:=hall e he hb;simpa using this) hb
     have h4:=(hmem q (by rw[e1];exact List.mem_append_left _ hq)).2
     rcases Nat.lt_or_ge q.1 listed.size with hj | hj
     ·simp[hj] at h3 h4;rw[h4] at h3;cases h3
     ·simp[Array.getElem?_eq_none hj] at h3
   have e2:(G8 ops.toList ord).filter (fun p=>!((listed.setIfInBounds i true).getD p.1 true))=pre++post:=by
    have:(G8 ops.toList ord).filter (fun p=>!((listed.setIfInBounds i true).getD p.1 true))=((G8 ops.toList ord).filter fun p=>!(listed.getD p.1 true)).filter fun p=>!(Nat.beq p.1 i):=by
     rw[List.filter_filter]
     refine List.filter_congr fun p hp'=>?_
     by_cases hpi:p.1=i
     ·have hs:(listed.setIfInBounds i true).getD p.1 true=true:=by
       rw[hpi]
       rcases Nat.lt_or_ge i listed.size with h | h
       ·simp[h]
       ·simp[Array.getElem?_eq_none h] at hun
      rw[hs,hpi,Nat.beq_refl];rfl
     ·rw[getD_set_ne true (Ne.symm hpi)]
      have:Nat.beq p.1 i=false:=by
       rw[Bool.eq_false_iff];exact fun h=>hpi (Nat.eq_of_beq_eq_true h)
      rw[this];simp
    rw[this,e1,List.filter_append,List.filter_cons]
    have hi0:(!(Nat.beq i i))=false:=by rw[Nat.beq_refl];rfl
    simp only[hi0,Bool.false_eq_true,if_false]
    rw[List.filter_eq_self.2,List.filter_eq_self.2]
    ·intro q hq
     have:=((List.pairwise_cons.1 hpp.2.1).1 q hq).1
     have:Nat.beq q.1 i=false:=by
      rw[Bool.eq_false_iff];exact fun h=>this (Nat.eq_of_beq_eq_true h).symm
     rw[this];rfl
    ·intro q hq
     have:=(hpp.2.2 q hq (i,o) List.mem_cons_self).1
     have:Nat.beq q.1 i=false:=by
      rw[Bool.eq_false_iff];exact fun h=>this (Nat.eq_of_beq_eq_true h)
     rw[this];rfl
   rw[e1] at h hf
   rw[List.map_append,List.map_cons] at h
   have hdown':∀ (k:Nat) (q:Oper),ops[k]?=some q→(listed.setIfInBounds i true).getD k true=true→∀ e ∈ q.after,Region.binds .any e=true→(listed.setIfInBounds i true).getD e.on false=true:=by
    intro k q hq hk e he hb
    by_cases hki:k=i
    ·subst hki
     rw[ho] at hq;cases hq
     exact getD_set_true (by have:=hall e he hb;simpa using this)
    ·rw[getD_set_ne true (Ne.symm hki)] at hk
     exact getD_set_true (hdown k q hq hk e he hb)
   obtain⟨tm1,hp1,g1,g2⟩:=X9 o (post.map (·.2)) (pre.map (·.2)) tm hp hswap h
   have hos:=Ry (ops:=ops) (C:=fun tm hp=>some (tm,hp)) (r:=(tm1,hp1)) hH hc (o:=o) (a:=a) hs ht (by
    refine(Sq (P:=P) (H:=H) (call:=call) (f:=f) ops.toList o fun tm hp=>some (tm,hp)).trans ?_
    rw[g1];rfl) (next:=wpAny P .any ops Q fuel (listed.setIfInBounds i true)) (Q:=Q) (fun tm' hp' S' φ' a' w' k1 k2 k3 k4 k5=>by
     cases k1
     refine ih (listed.setIfInBounds i true) S' w' tm1 hp1 φ' a' (by rw[e2];simp at hf ⊢;omega) (by simpa using hl) hdown' k3 k2 (by rw[e2,List.map_append];exact g2) fun S'' φ'' a'' w'' l1 l2 l3 l4=>hn S'' φ'' a'' w'' l1 l2 (k4.trans l3) (l4.trans k5))
   unfold wpOp
   simp only[ho]
   split
   ·rename_i hw;rw[if_pos hw] at hos;exact .inl hos
   ·rename_i hw;rw[if_neg hw] at hos;exact hos
end
def A4g (H:Bv) (f:FuncId) (p q:Oper):Bool:=match D6 H f p with
 | some a=>match D6 H f q with
   | some b=>!(a==b)
   | none=>false
 | none=>isS H f p&&Pm q
def Q3 (H:Bv) (f:FuncId) (p q:Oper):Bool:=A4g H f p q || (isS H f p&&Pm q)
def A7p (H:Bv) (f:FuncId) (ops:List Oper):List (Nat×Oper)→Bool
 | []=>true
 | p :: l=>l.all (fun q=>!(Nat.beq p.1 q.1)&&!Ez p.2 q.1&&(Jg H f ops p.2 q.2 || anc ops 9 q.2 p.1 || (Q3 H f p.2 q.2&&Jj ops p.2 q.2&&Jj ops q.2 p.2)))&&A7p H f ops l
def A39 (H:Bv) (f:FuncId) (ops:Array Oper) (l:List (Nat×Oper)):Bool :=
 decide (l.length=ops.size)&&(List.range ops.size).all (fun i=>l.any fun p=>Nat.beq p.1 i)&&A7p H f ops.toList l&&l.all (fun p=>!Ez p.2 p.1&&p.2.after.all fun e=>!Region.binds .any e || decide (e.on < ops.size))
def Vp (H:Bv) (f:FuncId) (id:Nat) (ops:Array Oper) (draw:Bool):Bool:=match draw&&H.dyn f id with
 | true=>A39 H f ops (A0t ops.toList (H.order f id))
 | false=>match H.order f id with
   | []=>!draw || A8t H f ops
   | i :: l=>draw&&Z6 H f ops (i :: l)
theorem A89:∀ (l:List Oper) (k i:Nat) (o:Oper),(i,o) ∈ Af1 k l→k≤i∧l[i - k]?=some o
 | [],k,i,o,h=>by cases h
 | q :: l,k,i,o,h=>by
  simp only[Af1] at h
  rcases List.mem_cons.1 h with e | h
  ·cases e;simp
  ·obtain⟨h1,h2⟩:=A89 l (k+1) i o h
   refine⟨by omega,?_⟩
   rw[show i - k=(i - (k+1))+1 by omega,List.getElem?_cons_succ];exact h2
theorem A91 {ops:List Oper} {ord:List Nat} {i:Nat} {o:Oper} (h:(i,o) ∈ A0t ops ord):ops[i]?=some o:=by
 cases ord with
 | nil=>simpa using(A89 ops 0 i o h).2
 | cons k l=>exact Qs ops (k :: l) h
theorem Vw {H:Bv} {f:FuncId} {ops:List Oper}:∀ {l:List (Nat×Oper)},A7p H f ops l=true→l.Pairwise fun p q=>p.1≠q.1∧Ez p.2 q.1=false∧(Jg H f ops p.2 q.2=true∨anc ops 9 q.2 p.1=true∨(Q3 H f p.2 q.2=true∧Jj ops p.2 q.2=true∧Jj ops q.2 p.2=true))
 | [],_=>List.Pairwise.nil
 | p :: l,h=>by
  simp only[A7p,A8,List.all_eq_true] at h
  refine List.Pairwise.cons (fun q hq=>?_) (Vw h.2)
  have:=h.1 q hq
  simp only[A8,Bool.not_eq_true',Bool.or_eq_true] at this
  obtain⟨⟨a,b⟩,c⟩:=this
  exact⟨fun e=>(by rw[e,Nat.beq_refl] at a;cases a),b,by rcases c with (c | c) | ⟨⟨c,d⟩,e⟩;exact .inl c;exact .inr (.inl c);exact .inr (.inr ⟨c,d,e⟩)⟩
section
variable {P:Program} {H:Bv} {call:Bp} {f:FuncId} {tm tm':Tm} {hp hp':Hp} {ops:List Oper}
def Fh (ops:List Oper) (o:Oper) (tm:Tm):Option Bool:=match o.guard with
 | none=>some true
 | some (j,want)=>match (nth? ops j).bind (·.dst) with
   | none=>none
   | some t=>match nth .junk tm t with
     | .bool b=>some (b==want)
     | .tup []=>some false
     | _=>none
theorem Kv (o:Oper) (tm:Tm) (hp:Hp):Cm P H call f ops o tm hp=match Fh ops o tm with
 | some true=>(B5 P H call f o tm hp).map fun p=>(put tm o.dst p.1,p.2)
 | some false=>some (put tm o.dst (.tup []),hp)
 | none=>none:=by
 unfold Cm Fh
 cases o.guard with
 | none=>rfl
 | some q =>
  obtain⟨j,want⟩:=q
  simp only
  cases (nth? ops j).bind (·.dst) with
  | none=>rfl
  | some t =>
   simp only
   cases nth .junk tm t with
   | bool b=>cases b<;>cases want<;>rfl
   | tup l=>cases l<;>rfl
   | _=>rfl
theorem Qf (o:Oper) (h:∀ t ∈ Qh ops o,nth .junk tm t=nth .junk tm' t):Fh ops o tm=Fh ops o tm':=by
 unfold Fh
 cases hg:o.guard with
 | none=>rfl
 | some q =>
  obtain⟨j,want⟩:=q
  simp only
  cases hj:(nth? ops j).bind (·.dst) with
  | none=>rfl
  | some t =>
   simp only
   rw[h t (List.mem_append_right _ (by simp[hg,hj]))]
theorem M1 {o o':Oper} {tm:Tm} {v:AV} (h:∀ t,o.dst=some t→t ∉ Qh ops o'∧o'.dst≠some t):∀ t ∈ Qh ops o',nth .junk (put tm o.dst v) t=nth .junk tm t:=by
 intro t ht
 cases hd:o.dst with
 | none=>rfl
 | some d =>
  have:d≠t:=fun e=>(h d hd).1 (e ▸ ht)
  simp only[put,B8]
  exact A32 _ _ _ this
theorem Rx (o:Oper) (h:∀ t ∈ Qh ops o,nth .junk tm t=nth .junk tm' t):Cu P H f o tm hp=Cu P H f o tm' hp:=by
 have hop:∀ x ∈ o.op.operands,ev tm x=ev tm' x:=by
  intro x hx
  cases x with
  | tmp t=>exact h t (List.mem_append_left _ (List.mem_filterMap.2 ⟨.tmp t,by simpa using hx,rfl⟩))
  | _=>rfl
 have hm:o.op.operands.toList.map (ev tm)=o.op.operands.toList.map (ev tm'):=List.map_congr_left fun x hx=>hop x (by simpa using hx)
 unfold Cu
 cases cls H f o<;>simp only[hm]
 cases ho:o.op<;>simp only
 case store t a x =>
  rw[ho] at hop
  rw[hop a (by simp[Op.operands]),hop x (by simp[Op.operands])]
 case call c =>
  obtain⟨cal,args,ats⟩:=c
  cases cal with
  | invoke _ _=>rfl
  | builtin b=>simp only[← ho,hm]
  | value fo =>
   simp only
   rw[ho] at hop
   have h1:args.toList.map (ev tm)=args.toList.map (ev tm'):=List.map_congr_left fun x hx=>hop x (by simp only[Op.operands,Call.operands];exact Array.mem_append.2 (.inr (by simpa using hx)))
   rw[hop fo (by simp[Op.operands,Call.operands]),h1]
theorem Zg (o:Oper) (hc:D6 H f o=some false) (hp hp':Hp):Cu P H f o tm hp=Cu P H f o tm hp':=by
 unfold D6 at hc
 unfold Cu
 cases hq:cls H f o<;>rw[hq] at hc<;>first | (cases hc;done) | rfl
theorem A09 {o:Oper} (h:D6 H f o=some true):cls H f o=.S:=by
 unfold D6 at h
 cases hq:cls H f o<;>rw[hq] at h<;>first | rfl | (cases h;done)
theorem Xa {o:Oper} (h:D6 H f o=some false):cls H f o=.R∨cls H f o=.C:=by
 unfold D6 at h
 cases hq:cls H f o<;>rw[hq] at h<;>first | exact .inl rfl | exact .inr rfl | (cases h;done)
theorem A2d {o:Oper} (h:isS H f o=true):cls H f o=.S:=by
 unfold isS at h
 cases hq:cls H f o<;>rw[hq] at h<;>first | rfl | (cases h;done)
theorem Yb {α:Type}:∀ (l:List Nat) (m xs ys:List α),(∀ id ∈ l,id < xs.length)→D5 l m (xs++ys)=D5 l m xs++ys
 | [],m,xs,ys,h=>by cases m<;>rfl
 | id :: l,[],xs,ys,h=>rfl
 | id :: l,x :: m,xs,ys,h=>by
  rw[D5,D5,List.set_append_left _ _ (h id List.mem_cons_self),Yb l m _ ys fun a ha=>by simpa using h a (List.mem_cons_of_mem _ ha)]
theorem Ac8 {o:Oper} (hc:cls H f o=.R∨cls H f o=.C) {v:AV} {hp1:Hp} (h:B5 P H call f o tm hp=some (v,hp1)):hp1=hp:=by
 rcases hc with hc | hc
 ·exact(St hc h).1
 ·exact(Vg hc h).1
theorem A7s (o:Oper) (hc:cls H f o=.R∨cls H f o=.C):Cu P H f o tm hp=Cd Na (o.op.operands.toList.map (ev tm)):=by
 unfold Cu
 rcases hc with hc | hc<;>rw[hc]
theorem Asi {p q:Oper} {F G:List Nat} (hd:Q3 H f p q=true) (ha:Jj ops p q=true) (hb:Jj ops q p=true) {tm1 tm2:Tm} {hp1 hp2:Hp} (h1:Cm P H call f ops p tm hp=some (tm1,hp1)) (h2:Cm P H call f ops q tm1 hp1=some (tm2,hp2))
 (hF:Fh ops p tm=some true→D6 H f p≠none→Cu P H f p tm hp=F) (hG:Fh ops q tm1=some true→D6 H f q≠none→Cu P H f q tm1 hp1=G) (hdis:D6 H f p≠none→D6 H f q≠none→∀ id ∈ F,id ∉ G) :
 ∃ tmi hpi,Cm P H call f ops q tm hp=some (tmi,hpi)∧Cm P H call f ops p tmi hpi=some (tm2,hp2)∧(Fh ops q tm=some true→D6 H f q≠none→Cu P H f q tm hp=G)∧(Fh ops p tmi=some true→D6 H f p≠none→Cu P H f p tmi hpi=F):=by
 have ap:=Pz ha
 have aq:=Pz hb
 obtain⟨vp,rfl⟩:=Ol p h1
 obtain⟨vq,rfl⟩:=Ol q h2
 obtain⟨v,e1,hq⟩:=Nc (tm':=tm) q (M1 ap) h2
 have mq:Fh ops q (put tm p.dst vp)=Fh ops q tm:=Qf q (M1 ap)
 have fq:Cu P H f q (put tm p.dst vp) hp1=Cu P H f q tm hp1:=Rx q (M1 ap)
 rw[mq,fq] at hG
 have fin:∀ hpi,Cm P H call f ops q tm hp=some (put tm q.dst v,hpi)→Cm P H call f ops p tm hpi=some (put tm p.dst vp,hp2)→(Fh ops q tm=some true→D6 H f q≠none→Cu P H f q tm hp=G)→(Fh ops p tm=some true→D6 H f p≠none→Cu P H f p tm hpi=F) →
  ∃ tmi hpi,Cm P H call f ops q tm hp=some (tmi,hpi)∧Cm P H call f ops p tmi hpi=some (put (put tm p.dst vp) q.dst vq,hp2)∧(Fh ops q tm=some true→D6 H f q≠none→Cu P H f q tm hp=G)∧(Fh ops p tmi=some true→D6 H f p≠none→Cu P H f p tmi hpi=F):=by
  intro hpi g1 g2 g3 g4
  have lk:∀ t ∈ Qh ops p,nth .junk tm t=nth .junk (put tm q.dst v) t:=fun t ht=>(M1 aq t ht).symm
  obtain⟨v',e2,g5⟩:=Nc (tm':=put tm q.dst v) p lk g2
  refine⟨_,_,g1,?_,g3,fun hm hl=>?_⟩
  ·rw[g5,e1,e2]
   congr 2
   exact A0l fun t ht=>(aq t ht).2
  ·rw[← Rx p lk]
   exact g4 (by rw[Qf p lk];exact hm) hl
 rw[Kv] at h1 hq
 obtain⟨xp,mp⟩:∃ x,Fh ops p tm=x:=⟨_,rfl⟩
 obtain⟨xq,mq'⟩:∃ x,Fh ops q tm=x:=⟨_,rfl⟩
 cases xp with
 | none=>rw[mp] at h1;cases h1
 | some bp =>
  cases xq with
  | none=>rw[mq'] at hq;cases hq
  | some bq =>
   rw[mp] at h1 hF
   rw[mq'] at hq hG
   cases bp with
   | false =>
    simp only[Option.some.injEq,Prod.mk.injEq] at h1
    obtain⟨hv,rfl⟩:=h1
    refine fin hp2 (by rw[Kv,mq'];exact hq) (by rw[Kv,mp,← hv]) (fun hm hl=>hG (mq'.symm.trans hm) hl) (fun hm=>by rw[mp] at hm;cases hm)
   | true =>
    cases bq with
    | false =>
     simp only[Option.some.injEq,Prod.mk.injEq] at hq
     obtain⟨hv,rfl⟩:=hq
     exact fin hp (by rw[Kv,mq',← hv]) (by rw[Kv,mp];exact h1) (fun hm=>by rw[mq'] at hm;cases hm) (fun hm hl=>hF rfl hl)
    | true =>
     simp only at h1 hq
     cases d1:B5 P H call f p tm hp with
     | none=>rw[d1] at h1;cases h1
     | some x1 =>
     obtain⟨u1,k1⟩:=x1
     rw[d1] at h1
     simp only[Option.map_some,Option.some.injEq,Prod.mk.injEq] at h1
     obtain⟨w1,rfl⟩:=h1
     cases d2:B5 P H call f q tm k1 with
     | none=>rw[d2] at hq;cases hq
     | some x2 =>
     obtain⟨u2,k2⟩:=x2
     rw[d2] at hq
     simp only[Option.map_some,Option.some.injEq,Prod.mk.injEq] at hq
     obtain⟨w2,rfl⟩:=hq
     have fin2:∀ hpi,B5 P H call f q tm hp=some (u2,hpi)→B5 P H call f p tm hpi=some (u1,k2)→(D6 H f q≠none→Cu P H f q tm hp=G)→(D6 H f p≠none→Cu P H f p tm hpi=F) →
      ∃ tmi hpi,Cm P H call f ops q tm hp=some (tmi,hpi)∧Cm P H call f ops p tmi hpi=some (put (put tm p.dst vp) q.dst vq,k2)∧(Fh ops q tm=some true→D6 H f q≠none→Cu P H f q tm hp=G)∧(Fh ops p tmi=some true→D6 H f p≠none→Cu P H f p tmi hpi=F):=fun hpi g1 g2 g3 g4 =>
      fin hpi (by rw[Kv,mq'];simp only;rw[g1];simp only[Option.map_some,w2]) (by rw[Kv,mp];simp only;rw[g2];simp only[Option.map_some,w1]) (fun _=>g3) (fun _=>g4)
     have caseN:cls H f p=.S→Pm q=true→∃ tmi hpi,Cm P H call f ops q tm hp=some (tmi,hpi)∧Cm P H call f ops p tmi hpi=some (put (put tm p.dst vp) q.dst vq,k2)∧(Fh ops q tm=some true→D6 H f q≠none→Cu P H f q tm hp=G)∧(Fh ops p tmi=some true→D6 H f p≠none→Cu P H f p tmi hpi=F):=by
      intro hcp hnq
      obtain⟨ids,m,s1,s2,s3,s4,rfl,s6⟩:=A9r hcp d1
      obtain⟨x,rfl,n2⟩:=Arp hnq d2
      have hlq:D6 H f q=none:=by
       unfold Pm at hnq
       unfold D6 cls
       cases ho:q.op<;>rw[ho] at hnq<;>first | (cases hnq;done) | rfl
      have hF':=hF rfl (by unfold D6;rw[hcp];simp)
      have hag:∀ id ∈ Cu P H f p tm hp,nth? (hp++[x]) id=nth? hp id:=fun id hid=>by
       rw[nth?_eq,nth?_eq,List.getElem?_append_left (s3 id hid)]
      obtain⟨t1,t2⟩:=s6 (hp++[x]) hag
      refine fin2 (hp++[x]) (n2 hp (by rw[R2])) ?_ (fun h=>absurd hlq h) (fun _=>t1.trans hF')
      rw[t2,Yb _ _ _ _ fun id hid=>s3 id (s2 id hid)]
     unfold Q3 at hd
     simp only[Bool.or_eq_true,A8] at hd
     rcases hd with hd | ⟨hs,hn⟩
     ·unfold A4g at hd
      obtain⟨yp,lp⟩:∃ x,D6 H f p=x:=⟨_,rfl⟩
      obtain⟨yq,lq⟩:∃ x,D6 H f q=x:=⟨_,rfl⟩
      cases yp with
      | none =>
       rw[lp] at hd
       simp only[A8] at hd
       exact caseN (A2d hd.1) hd.2
      | some a =>
       rw[lp] at hd hF hdis
       cases yq with
       | none=>rw[lq] at hd;cases hd
       | some b =>
        rw[lq] at hd hG hdis
        have hF':=hF rfl (by simp)
        have hG':=hG rfl (by simp)
        have hdis':=hdis (by simp) (by simp)
        cases a with
        | true =>
         cases b with
         | true=>cases hd
         | false =>
          have hcq:=Xa lq
          obtain⟨ids,m,s1,s2,s3,s4,rfl,s6⟩:=A9r (A09 lp) d1
          obtain rfl:=Ac8 hcq d2
          have hag:∀ id ∈ Cd Na (q.op.operands.toList.map (ev tm)),nth? hp id=nth? (D5 ids m hp) id:=fun id hid=>by
           rw[← A7s (P:=P) (hp:=D5 ids m hp) q hcq,hG'] at hid
           rw[nth?_eq,nth?_eq,Md _ _ _ _ fun h=>hdis' id (by rw[← hF'];exact s2 id h) hid]
          refine fin2 hp (Aci hcq d2 hag) d1 (fun _=>?_) (fun _=>hF')
          rw[Zg q lq hp (D5 ids m hp)];exact hG'
        | false =>
         cases b with
         | false=>cases hd
         | true =>
          have hcp:=Xa lp
          obtain rfl:=Ac8 hcp d1
          obtain⟨ids,m,s1,s2,s3,s4,rfl,s6⟩:=A9r (A09 lq) d2
          have hag:∀ id ∈ Cd Na (p.op.operands.toList.map (ev tm)),nth? (D5 ids m k1) id=nth? k1 id:=fun id hid=>by
           rw[← A7s (P:=P) (hp:=k1) p hcp,hF'] at hid
           rw[nth?_eq,nth?_eq,Md _ _ _ _ fun h=>hdis' id hid (by rw[← hG'];exact s2 id h)]
          refine fin2 _ d2 (Aci hcp d1 hag) (fun _=>hG') (fun _=>?_)
          rw[Zg p lp _ k1];exact hF'
     ·exact caseN (A2d hs) hn
def Aag (P:Program) (H:Bv) (call:Bp) (f:FuncId) (ops:List Oper) (ft:Nat→List Nat):List (Nat×Oper)→Tm→Hp→Tm×Hp→Prop
 | [],tm,hp,r=>r=(tm,hp)
 | p :: l,tm,hp,r=>(Fh ops p.2 tm=some true→D6 H f p.2≠none→Cu P H f p.2 tm hp=ft p.1)∧∃ tm1 hp1,Cm P H call f ops p.2 tm hp=some (tm1,hp1)∧Aag P H call f ops ft l tm1 hp1 r
def Akw (H:Bv) (f:FuncId) (ops:List Oper) (ft:Nat→List Nat) (p q:Nat×Oper):Prop :=
 Jg H f ops p.2 q.2=true∨(Q3 H f p.2 q.2=true∧Jj ops p.2 q.2=true∧Jj ops q.2 p.2=true∧(D6 H f p.2≠none→D6 H f q.2≠none→∀ id ∈ ft p.1,id ∉ ft q.1))
theorem Ad3 {p q:Oper} (h:Jg H f ops p q=true):A7r (cls H f p) (cls H f q)=true∧Jj ops p q=true∧Jj ops q p=true:=by
 simp only[Jg,A8] at h
 exact⟨h.1.1,h.1.2,h.2⟩
theorem A2w {o:Oper} (hc:cls H f o=.P∨cls H f o=.R∨cls H f o=.C) {tm1:Tm} {hp1:Hp} (h:Cm P H call f ops o tm hp=some (tm1,hp1)):hp1=hp:=by
 rcases hc with hc | hc | hc
 ·exact(N0 (R:=fun _ _=>False) o (fun v hpx h=>⟨(A2i hc h).1,fun _ h=>h.elim⟩) h).1
 ·exact(N0 (R:=fun _ _=>False) o (fun v hpx h=>⟨(St hc h).1,fun _ h=>h.elim⟩) h).1
 ·exact(N0 (R:=fun _ _=>False) o (fun v hpx h=>⟨(Vg hc h).1,fun _ h=>h.elim⟩) h).1
theorem Aa3 {o:Oper} (h:D6 H f o≠none):(cls H f o=.R∨cls H f o=.C)∨cls H f o=.S:=by
 unfold D6 at h
 cases hq:cls H f o<;>rw[hq] at h<;>simp at h ⊢
theorem Asr {ft:Nat→List Nat} {p q:Nat×Oper} (hx:Akw H f ops ft p q) {tm1 tm2:Tm} {hp1 hp2:Hp} (h1:Cm P H call f ops p.2 tm hp=some (tm1,hp1)) (h2:Cm P H call f ops q.2 tm1 hp1=some (tm2,hp2))
 (hF:Fh ops p.2 tm=some true→D6 H f p.2≠none→Cu P H f p.2 tm hp=ft p.1) (hG:Fh ops q.2 tm1=some true→D6 H f q.2≠none→Cu P H f q.2 tm1 hp1=ft q.1) :
 ∃ tmi hpi,Cm P H call f ops q.2 tm hp=some (tmi,hpi)∧Cm P H call f ops p.2 tmi hpi=some (tm2,hp2)∧(Fh ops q.2 tm=some true→D6 H f q.2≠none→Cu P H f q.2 tm hp=ft q.1)∧(Fh ops p.2 tmi=some true→D6 H f p.2≠none→Cu P H f p.2 tmi hpi=ft p.1):=by
 rcases hx with hx | ⟨x1,x2,x3,x4⟩
 ·obtain⟨tmi,hpi,g1,g2⟩:=As3 hx h1 h2
  obtain⟨c1,c2,c3⟩:=Ad3 hx
  have ap:=Pz c2
  have aq:=Pz c3
  obtain⟨vp,rfl⟩:=Ol p.2 h1
  obtain⟨vi,rfl⟩:=Ol q.2 g1
  refine⟨_,_,g1,g2,fun hm hl=>?_,fun hm hl=>?_⟩
  ·rw[Qf q.2 (M1 ap)] at hG
   have:=hG hm hl
   rw[Rx q.2 (M1 ap)] at this
   rcases Aa3 hl with hc | hc
   ·rw[Zg q.2 (by unfold D6;rcases hc with hc | hc<;>rw[hc]) hp hp1];exact this
   ·rw[hc] at c1
    have:hp1=hp:=A2w (by cases hcp:cls H f p.2<;>rw[hcp] at c1<;>simp[A7r] at c1 ⊢) h1
    subst this;assumption
  ·rw[Qf p.2 (M1 aq)] at hm
   have:=hF hm hl
   rw[Rx p.2 (M1 aq)]
   rcases Aa3 hl with hc | hc
   ·rw[Zg p.2 (by unfold D6;rcases hc with hc | hc<;>rw[hc]) hpi hp];exact this
   ·rw[hc] at c1
    have:hpi=hp:=A2w (by cases hcq:cls H f q.2<;>rw[hcq] at c1<;>simp[A7r] at c1 ⊢) g1
    subst this;assumption
 ·exact Asi x1 x2 x3 h1 h2 hF hG x4
theorem A66 {ft:Nat→List Nat} (i:Nat×Oper) (post:List (Nat×Oper)):∀ (pre:List (Nat×Oper)) (tm:Tm) (hp:Hp),(∀ j ∈ pre,Akw H f ops ft j i)→∀ {r:Tm×Hp},Aag P H call f ops ft (pre++i :: post) tm hp r →
 ∃ tm1 hp1,Cm P H call f ops i.2 tm hp=some (tm1,hp1)∧(Fh ops i.2 tm=some true→D6 H f i.2≠none→Cu P H f i.2 tm hp=ft i.1)∧Aag P H call f ops ft (pre++post) tm1 hp1 r
 | [],tm,hp,_,r,h=>by
  obtain⟨h1,tm1,hp1,h2,h3⟩:=h
  exact⟨tm1,hp1,h2,h1,h3⟩
 | j :: pre,tm,hp,hok,r,h=>by
  obtain⟨h1,tm1,hp1,h2,h3⟩:=h
  obtain⟨tm2,hp2,g1,g2,g3⟩:=A66 i post pre tm1 hp1 (fun k hk=>hok k (List.mem_cons_of_mem _ hk)) h3
  obtain⟨tmi,hpi,k1,k2,k3,k4⟩:=Asr (hok j List.mem_cons_self) h2 g1 h1 g2
  exact⟨tmi,hpi,k1,k3,k4,tm2,hp2,k2,g3⟩
end
theorem Ag1 {l m:List Nat} (h:A25 l m=true):∀ id ∈ l,id ∉ m:=by
 induction l with
 | nil=>intro id h;cases h
 | cons a l ih =>
  simp only[A25] at h
  cases hh:Kd m a with
  | true=>rw[hh] at h;cases h
  | false =>
   rw[hh] at h
   intro id hid
   rcases List.mem_cons.1 hid with rfl | hid
   ·intro hm;rw[(A9h m id).2 hm] at hh;cases hh
   ·exact ih h id hid
section
variable {ρ:Type} {P:Program} {H:Bv} {call:Bp} {f:FuncId} {ops:List Oper}
theorem Akm {p:Nat×Oper} {l:List (Nat×Oper)} {log:Log} {tm:Tm} {hp:Hp} {K:Tm→Hp→Option ρ}:A16 P H call f ops (p :: l) log tm hp K=match D6 H f p.2 with
 | none=>T4 P H call f ops p.2 (A16 P H call f ops l log) tm hp K
 | some s=>Sk (fun ft=>match Ta ops p.2 s ft log with
   | true=>T4 P H call f ops p.2 (A16 P H call f ops l ((p.1,s,ft) :: log)) tm hp K
   | false=>none) (Cu P H f p.2 tm hp):=rfl
theorem A08 {o:Oper} {rest:Tm→Hp→(Tm→Hp→Option ρ)→Option ρ} {tm:Tm} {hp:Hp} {K:Tm→Hp→Option ρ} {r:ρ} (h:T4 P H call f ops o rest tm hp K=some r):∃ tm1 hp1,Cm P H call f ops o tm hp=some (tm1,hp1)∧rest tm1 hp1 K=some r:=by
 have:=(Sq (P:=P) (H:=H) (call:=call) (f:=f) (tm:=tm) (hp:=hp) ops o (fun tm hp=>rest tm hp K)).symm.trans h
 cases hs:Cm P H call f ops o tm hp with
 | none=>rw[hs] at this;cases this
 | some x=>rw[hs] at this;exact⟨x.1,x.2,rfl,this⟩
theorem Ac2 {α:Type} (p:α→Bool) (l:List α):Aam p l=l.any p:=by
 induction l with
 | nil=>rfl
 | cons a l ih=>simp only[Aam,List.any_cons,ih];cases p a<;>rfl
theorem A5z (o:Oper) (j:Nat):A1u o j=Ez o j:=by
 unfold A1u Ez
 rw[Ac2,← Array.any_toList]
 congr 1
 funext e
 by_cases h:e.on=j
 ·subst h;rw[Nat.beq_refl];simp
 ·have:Nat.beq e.on j=false:=by rw[Bool.eq_false_iff];exact fun h'=>h (Nat.eq_of_beq_eq_true h')
  rw[this];simp[h]
theorem Aac (ops:List Oper):∀ (n:Nat) (o:Oper) (j:Nat),Afj ops n o j=anc ops n o j
 | 0,o,j=>A5z o j
 | n+1,o,j=>by
  simp only[Afj,anc,A5z,Ac2]
  cases Ez o j with
  | true=>rfl
  | false =>
   simp only[Bool.false_or]
   congr 1
   funext e
   cases Region.binds .any e with
   | false=>rfl
   | true =>
    simp only[Bool.true_and]
    cases nth? ops e.on with
    | none=>rfl
    | some q=>exact Aac ops n q j
theorem A2o {o:Oper} {s:Bool} {ft:List Nat}:∀ {log:Log},Ta ops o s ft log=true→∀ e ∈ log,e.2.1=s∨anc ops 9 o e.1=true∨∀ id ∈ ft,id ∉ e.2.2
 | [],_,e,he=>by cases he
 | x :: log,h,e,he=>by
  simp only[Ta] at h
  split at h
  ·rename_i hc
   rcases List.mem_cons.1 he with rfl | he
   ·exact .inl (by simpa using hc)
   ·exact A2o h e he
  ·split at h
   ·rename_i hc
    rcases List.mem_cons.1 he with rfl | he
    ·exact .inr (.inr (Ag1 hc))
    ·exact A2o h e he
   ·split at h
    ·rename_i hc
     rw[Aac] at hc
     rcases List.mem_cons.1 he with rfl | he
     ·exact .inr (.inl hc)
     ·exact A2o h e he
    ·cases h
theorem A1e (hL:∀ l:List (Nat×Oper),True):∀ (l:List (Nat×Oper)) (log:Log) (tm:Tm) (hp:Hp) (K:Tm→Hp→Option ρ) (r:ρ),l.Pairwise (fun p q=>p.1≠q.1)→(∀ e ∈ log,∀ p ∈ l,e.1≠p.1)→A16 P H call f ops l log tm hp K=some r →
 ∃ (ft:Nat→List Nat) (tm1:Tm) (hp1:Hp),Aag P H call f ops ft l tm hp (tm1,hp1)∧K tm1 hp1=some r∧(∀ e ∈ log,ft e.1=(match log.find? (fun x=>x.1==e.1) with | some x=>x.2.2 | none=>[])) ∧
   (∀ e ∈ log,∀ q ∈ l,∀ b,D6 H f q.2=some b→e.2.1=b∨anc ops 9 q.2 e.1=true∨∀ id ∈ ft q.1,id ∉ e.2.2) ∧
   l.Pairwise fun p q=>∀ a b,D6 H f p.2=some a→D6 H f q.2=some b→a=b∨anc ops 9 q.2 p.1=true∨∀ id ∈ ft q.1,id ∉ ft p.1
 | [],log,tm,hp,K,r,_,_,h=>by
  refine⟨fun k=>(match log.find? (fun x=>x.1==k) with | some x=>x.2.2 | none=>[]),tm,hp,rfl,h,fun _ _=>rfl,fun _ _ q hq=>by(cases hq),List.Pairwise.nil⟩
 | p :: l,log,tm,hp,K,r,hpw,hlog,h=>by
  rw[List.pairwise_cons] at hpw
  rw[Akm] at h
  cases hs:D6 H f p.2 with
  | none =>
   rw[hs] at h
   obtain⟨tm1,hp1,h1,h2⟩:=A08 h
   obtain⟨ft,tm2,hp2,g1,g2,g3,g4,g5⟩:=A1e hL l log tm1 hp1 K r hpw.2 (fun e he q hq=>hlog e he q (List.mem_cons_of_mem _ hq)) h2
   refine⟨ft,tm2,hp2,⟨fun _ hn=>absurd hs hn,tm1,hp1,h1,g1⟩,g2,g3,fun e he q hq b hb=>?_,List.pairwise_cons.2 ⟨fun q hq a b ha=>by(rw[hs] at ha;cases ha),g5⟩⟩
   rcases List.mem_cons.1 hq with rfl | hq
   ·rw[hs] at hb;cases hb
   ·exact g4 e he q hq b hb
  | some s =>
   rw[hs] at h
   simp only[M9] at h
   split at h
   ·rename_i hchk
    obtain⟨tm1,hp1,h1,h2⟩:=A08 h
    obtain⟨ft,tm2,hp2,g1,g2,g3,g4,g5⟩:=A1e hL l ((p.1,s,Cu P H f p.2 tm hp) :: log) tm1 hp1 K r hpw.2 (fun e he q hq=>by
     rcases List.mem_cons.1 he with rfl | he
     ·exact hpw.1 q hq
     ·exact hlog e he q (List.mem_cons_of_mem _ hq)) h2
    have hft:ft p.1=Cu P H f p.2 tm hp:=by
     have:=g3 _ List.mem_cons_self
     simpa using this
    refine⟨ft,tm2,hp2,⟨fun _ _=>hft.symm,tm1,hp1,h1,g1⟩,g2,fun e he=>?_,fun e he q hq b hb=>?_,List.pairwise_cons.2 ⟨fun q hq a b ha hb=>?_,g5⟩⟩
    ·have:=g3 e (List.mem_cons_of_mem _ he)
     have hne:p.1≠e.1:=fun h=>hlog e he p List.mem_cons_self h.symm
     rw[this,List.find?_cons_of_neg (by simpa using hne)]
    ·rcases List.mem_cons.1 hq with rfl | hq
     ·rw[hs] at hb;cases hb
      rcases A2o hchk e he with h | h | h
      ·exact .inl h
      ·exact .inr (.inl h)
      ·exact .inr (.inr (by rw[hft];exact h))
     ·exact g4 e (List.mem_cons_of_mem _ he) q hq b hb
    ·rw[hs] at ha;cases ha
     have:=g4 _ List.mem_cons_self q hq b hb
     rw[hft];exact this
   ·cases h
end
section
variable {P:Program} {H:Bv} {call:Bp} {f:FuncId} {base:Nat} {ops:Array Oper}
theorem Aga (hH:My P H) (hc:Fy P H call) {L:List (Nat×Oper)} {ft:Nat→List Nat} (hmemL:∀ i o,(i,o) ∈ L→ops.toList[i]?=some o) (hd:A39 H f ops L=true) (hfeet:L.Pairwise fun p q=>∀ a b,D6 H f p.2=some a→D6 H f q.2=some b→a=b∨anc ops.toList 9 q.2 p.1=true∨∀ id ∈ ft q.1,id ∉ ft p.1) {Q:Exit→Act→World→Prop} {fin:Tm×Hp}:∀ (fuel:Nat) (listed:Array Bool) (S:Nat→Nat→Prop) (w:World) (tm:Tm) (hp:Hp) (φ:List Pl) (a:Act),(L.filter fun p=>!(listed.getD p.1 true)).length=fuel→listed.size=ops.size→(∀ (i:Nat) (o:Oper),ops[i]?=some o→listed.getD i true=true→∀ e ∈ o.after,Region.binds .any e=true→listed.getD e.on false=true)→Sim P base S w hp φ→Reps S w hp φ tm a.tmps.toList →
 Aag P H call f ops.toList ft (L.filter fun p=>!(listed.getD p.1 true)) tm hp fin →
 (∀ S' φ' a' w',Reps S' w' fin.2 φ' fin.1 a'.tmps.toList→Sim P base S' w' fin.2 φ'→Trans base S w hp φ S' w' fin.2 φ'→a'.defers=a.defers→Q .normal a' w')→wpAny P .any ops Q fuel listed a w:=by
 simp only[A39,A8,List.all_eq_true,List.mem_range] at hd
 obtain⟨⟨⟨_,hd1⟩,hd2⟩,hd3⟩:=hd
 have hpw:=(Vw hd2).and hfeet
 have hin:∀ (listed:Array Bool) (i:Nat) (o:Oper),ops[i]?=some o→listed.getD i true=false→(i,o) ∈ L.filter fun p=>!(listed.getD p.1 true):=by
  intro listed i o ho hun
  refine List.mem_filter.2 ⟨?_,by simp only[hun,Bool.not_false]⟩
  have:=hd1 i (Array.getElem?_eq_some_iff.1 ho).1
  rw[List.any_eq_true] at this
  obtain⟨⟨k,q⟩,h1,h2⟩:=this
  have h2:=Nat.eq_of_beq_eq_true h2
  simp only at h2
  subst h2
  have h3:=hmemL k q h1
  have h4:ops.toList[k]?=some o:=by simpa using ho
  rw[h4] at h3
  cases h3
  exact h1
 intro fuel
 induction fuel with
 | zero =>
  intro listed S w tm hp φ a hf hl hdown hs ht h hn
  have hrem:=List.eq_nil_of_length_eq_zero hf
  rw[hrem] at h
  cases h
  refine⟨?_,hn S φ a w ht hs (.refl _ _ _ _ _) rfl⟩
  cases hr:Region.ready .any ops listed with
  | nil=>rfl
  | cons i t =>
   have hi:i ∈ Region.ready .any ops listed:=by rw[hr];exact List.mem_cons_self
   obtain⟨hun,o,ho,_⟩:=mem_ready.1 hi
   have:=hin listed i o ho hun
   rw[hrem] at this
   cases this
 | succ fuel ih =>
  intro listed S w tm hp φ a hf hl hdown hs ht h hn
  have hrpw:=hpw.filter fun p=>!(listed.getD p.1 true)
  have hmem:∀ p ∈ L.filter (fun p=>!(listed.getD p.1 true)),ops[p.1]?=some p.2∧listed.getD p.1 true=false:=by
   intro p hp'
   obtain⟨h1,h2⟩:=List.mem_filter.1 hp'
   exact⟨by have:=hmemL p.1 p.2 h1;simpa using this,by simpa using h2⟩
  refine⟨fun hr=>?_,fun i hi=>?_⟩
  ·exfalso
   cases hrem:L.filter (fun p=>!(listed.getD p.1 true)) with
   | nil=>rw[hrem] at hf;simp at hf
   | cons p rest =>
    obtain⟨i,o⟩:=p
    have hio:=hmem (i,o) (by rw[hrem];exact List.mem_cons_self)
    rw[hrem] at hrpw
    have hL:(i,o) ∈ L:=(List.mem_filter.1 (show(i,o) ∈ L.filter (fun p=>!(listed.getD p.1 true)) by rw[hrem];exact List.mem_cons_self)).1
    have hself:=hd3 (i,o) hL
    simp only[A8,Bool.not_eq_true'] at hself
    have:i ∈ Region.ready .any ops listed:=mem_ready.2 ⟨hio.2,o,hio.1,fun e he hb=>by
     have hsz:e.on < ops.size:=by
      have:=hself.2
      rw[Array.all_eq_true_iff_forall_mem] at this
      have:=this e he
      simpa [hb] using this
     have hbo:Ez o e.on=true:=by
      unfold Ez
      rw[Array.any_eq_true]
      obtain⟨k,hk,hke⟩:=Array.getElem_of_mem he
      exact⟨k,hk,by rw[hke];simp[hb]⟩
     by_cases hun:listed.getD e.on true=true
     ·simpa [hl,hsz] using hun
     ·have hun:listed.getD e.on true=false:=by simpa using hun
      have hin':=hin listed e.on ops[e.on] (Array.getElem?_eq_getElem hsz) hun
      rw[hrem] at hin'
      rcases List.mem_cons.1 hin' with e1 | e1
      ·cases e1
       rw[hself.1] at hbo;cases hbo
      ·have:=(List.pairwise_cons.1 hrpw).1 _ e1
       rw[this.1.2.1] at hbo;cases hbo⟩
    rw[hr] at this
    cases this
  ·obtain⟨hun,o,ho,hall⟩:=mem_ready.1 hi
   obtain⟨pre,post,e1⟩:=List.append_of_mem (hin listed i o ho hun)
   rw[e1] at hrpw
   have hpp:=List.pairwise_append.1 hrpw
   have hanc:∀ q ∈ pre,anc ops.toList 9 o q.1=true→False:=by
    intro q hq hb
    have h3:=A20 hl hdown 9 o q.1 (fun e he hb=>by have:=hall e he hb;simpa using this) hb
    have h4:=(hmem q (by rw[e1];exact List.mem_append_left _ hq)).2
    rcases Nat.lt_or_ge q.1 listed.size with hj | hj
    ·simp[hj] at h3 h4;rw[h4] at h3;cases h3
    ·simp[Array.getElem?_eq_none hj] at h3
   have hswap:∀ j ∈ pre,Akw H f ops.toList ft j (i,o):=by
    intro q hq
    have hx:=hpp.2.2 q hq (i,o) List.mem_cons_self
    rcases hx.1.2.2 with hb | hb | ⟨b1,b2,b3⟩
    ·exact .inl hb
    ·exact absurd hb (fun hb=>hanc q hq hb)
    ·refine .inr ⟨b1,b2,b3,fun n1 n2 id hid hid2=>?_⟩
     obtain⟨a,ha⟩:=Option.ne_none_iff_exists'.1 n1
     obtain⟨b,hb⟩:=Option.ne_none_iff_exists'.1 n2
     rcases hx.2 a b ha hb with h | h | h
     ·subst h
      unfold Q3 A4g at b1
      rw[ha,hb] at b1
      simp only[beq_self_eq_true,Bool.not_true,Bool.false_or,A8] at b1
      have hnq:=b1.2
      unfold Pm at hnq
      unfold D6 cls at hb
      simp only at hb hnq
      cases ho:o.op<;>rw[ho] at hnq hb<;>first | (cases hnq;done) | (cases hb;done)
     ·exact hanc q hq h
     ·exact h id hid2 hid
   have e2:L.filter (fun p=>!((listed.setIfInBounds i true).getD p.1 true))=pre++post:=by
    have:L.filter (fun p=>!((listed.setIfInBounds i true).getD p.1 true))=(L.filter fun p=>!(listed.getD p.1 true)).filter fun p=>!(Nat.beq p.1 i):=by
     rw[List.filter_filter]
     refine List.filter_congr fun p hp'=>?_
     by_cases hpi:p.1=i
     ·have hs:(listed.setIfInBounds i true).getD p.1 true=true:=by
       rw[hpi]
       rcases Nat.lt_or_ge i listed.size with h | h
       ·simp[h]
       ·simp[Array.getElem?_eq_none h] at hun
      rw[hs,hpi,Nat.beq_refl];rfl
     ·rw[getD_set_ne true (Ne.symm hpi)]
      have:Nat.beq p.1 i=false:=by
       rw[Bool.eq_false_iff];exact fun h=>hpi (Nat.eq_of_beq_eq_true h)
      rw[this];simp
    rw[this,e1,List.filter_append,List.filter_cons]
    have hi0:(!(Nat.beq i i))=false:=by rw[Nat.beq_refl];rfl
    simp only[hi0,Bool.false_eq_true,if_false]
    rw[List.filter_eq_self.2,List.filter_eq_self.2]
    ·intro q hq
     have:=((List.pairwise_cons.1 hpp.2.1).1 q hq).1.1
     have:Nat.beq q.1 i=false:=by
      rw[Bool.eq_false_iff];exact fun h=>this (Nat.eq_of_beq_eq_true h).symm
     rw[this];rfl
    ·intro q hq
     have:=(hpp.2.2 q hq (i,o) List.mem_cons_self).1.1
     have:Nat.beq q.1 i=false:=by
      rw[Bool.eq_false_iff];exact fun h=>this (Nat.eq_of_beq_eq_true h)
     rw[this];rfl
   rw[e1] at h hf
   have hdown':∀ (k:Nat) (q:Oper),ops[k]?=some q→(listed.setIfInBounds i true).getD k true=true→∀ e ∈ q.after,Region.binds .any e=true→(listed.setIfInBounds i true).getD e.on false=true:=by
    intro k q hq hk e he hb
    by_cases hki:k=i
    ·subst hki
     rw[ho] at hq;cases hq
     exact getD_set_true (by have:=hall e he hb;simpa using this)
    ·rw[getD_set_ne true (Ne.symm hki)] at hk
     exact getD_set_true (hdown k q hq hk e he hb)
   obtain⟨tm1,hp1,g1,_,g2⟩:=A66 (i,o) post pre tm hp hswap h
   have hos:=Ry (ops:=ops) (C:=fun tm hp=>some (tm,hp)) (r:=(tm1,hp1)) hH hc (o:=o) (a:=a) hs ht (by
    refine(Sq (P:=P) (H:=H) (call:=call) (f:=f) ops.toList o fun tm hp=>some (tm,hp)).trans ?_
    rw[g1];rfl) (next:=wpAny P .any ops Q fuel (listed.setIfInBounds i true)) (Q:=Q) (fun tm' hp' S' φ' a' w' k1 k2 k3 k4 k5=>by
     cases k1
     refine ih (listed.setIfInBounds i true) S' w' tm1 hp1 φ' a' (by rw[e2];simp at hf ⊢;omega) (by simpa using hl) hdown' k3 k2 (by rw[e2];exact g2) fun S'' φ'' a'' w'' l1 l2 l3 l4=>hn S'' φ'' a'' w'' l1 l2 (k4.trans l3) (l4.trans k5))
   unfold wpOp
   simp only[ho]
   split
   ·rename_i hw;rw[if_pos hw] at hos;exact .inl hos
   ·rename_i hw;rw[if_neg hw] at hos;exact hos
theorem Y8 {ρ:Type} {r:ρ} (hm:P.follows .mixedOrders=true) (hH:My P H) (hc:Fy P H call) {id:Nat} {draw:Bool} (hd:Vp H f id ops draw=true) {Q:Exit→Act→World→Prop} {S:Nat→Nat→Prop} {w:World} {tm:Tm} {hp:Hp} {φ:List Pl} {a:Act} {K:Tm→Hp→Option ρ} (hs:Sim P base S w hp φ) (ht:Reps S w hp φ tm a.tmps.toList)
 (h:(match draw&&H.dyn f id with
  | false=>Ou P H call f ops.toList (Xm ops.toList (H.order f id)) tm hp K
  | true=>A16 P H call f ops.toList (A0t ops.toList (H.order f id)) [] tm hp K)=some r) (hn:∀ tm' hp' S' φ' a' w',K tm' hp'=some r→Reps S' w' hp' φ' tm' a'.tmps.toList→Sim P base S' w' hp' φ'→Trans base S w hp φ S' w' hp' φ'→a'.defers=a.defers→Q .normal a' w'):(Code.region id ops draw).wp P Q a w:=by
 cases hS:draw&&H.dyn f id with
 | true =>
  rw[hS] at h
  simp only[Vp,hS] at hd
  simp only[A8] at hS
  obtain⟨rfl,_⟩:=hS
  have hd0:=hd
  simp only[A39,A8,Ai] at hd0
  have hpw:=Vw hd0.1.2
  obtain⟨ft,tm1,hp1,g1,g2,_,_,g5⟩:=A1e (fun _=>trivial) _ [] tm hp K r (hpw.imp fun h=>h.1) (fun e he=>by cases he) h
  refine wp_region_any hm ?_
  have hs':Sim P base S { w with drawn:=w.drawn+1 } hp φ:=hs.drew
  have htr:Trans base S w hp φ S { w with drawn:=w.drawn+1 } hp φ:=⟨fun b o h=>⟨h,rfl⟩,.refl _ _,(Below.refl _ _).drew,fun _ _ h=>.inl h,fun _ _ h=>.inl h,Ie,fun _ _=>rfl⟩
  have hall:(A0t ops.toList (H.order f id)).filter (fun p=>!((Array.replicate ops.size false).getD p.1 true))=A0t ops.toList (H.order f id):=List.filter_eq_self.2 fun p hp'=>by
   have:=A91 (i:=p.1) (o:=p.2) hp'
   have hlt:=nth?_lt this
   simp at hlt
   simp[hlt]
  refine Aga hH hc (fun i o h=>A91 h) hd g5 ops.size _ S _ tm hp φ a (by rw[hall];exact hd0.1.1.1) (by simp) (fun i o hi hli=>by
   have hlt:=(Array.getElem?_eq_some_iff.1 hi).1
   simp[hlt] at hli) hs' (Reps.mono htr.s ht htr.hp) (by rw[hall];exact g1) fun S' φ' a' w' h1 h2 h3 h4=>hn tm1 hp1 S' φ' a' w' g2 h1 h2 (htr.trans h3) h4
 | false =>
 rw[hS] at h
 simp only[Vp,hS] at hd
 simp only at h
 cases hord:H.order f id with
 | cons k ord =>
  rw[hord] at h
  simp only[hord,A8] at hd
  obtain⟨rfl,hd⟩:=hd
  rw[Xc] at h
  simp only[Xm] at h
  cases hq:Ri P H call f ops.toList (Zc ops.toList (k :: ord)) tm hp with
  | none=>rw[hq] at h;cases h
  | some fin =>
   rw[hq] at h
   refine wp_region_any hm ?_
   have hs':Sim P base S { w with drawn:=w.drawn+1 } hp φ:=hs.drew
   have htr:Trans base S w hp φ S { w with drawn:=w.drawn+1 } hp φ:=⟨fun b o h=>⟨h,rfl⟩,.refl _ _,(Below.refl _ _).drew,fun _ _ h=>.inl h,fun _ _ h=>.inl h,Ie,fun _ _=>rfl⟩
   have hall:(G8 ops.toList (k :: ord)).filter (fun p=>!((Array.replicate ops.size false).getD p.1 true))=G8 ops.toList (k :: ord):=List.filter_eq_self.2 fun p hp'=>by
    have:=Qs ops.toList (k :: ord) (i:=p.1) (o:=p.2) hp'
    have hlt:=nth?_lt this
    simp at hlt
    simp[hlt]
   have hlen:(G8 ops.toList (k :: ord)).length=ops.size:=by
    simp only[Z6,A8,Ai] at hd
    exact hd.1.1.1
   refine Adn hH hc hd ops.size _ S _ tm hp φ a (by rw[hall,hlen]) (by simp) (fun i o hi hli=>by
    have hlt:=(Array.getElem?_eq_some_iff.1 hi).1
    simp[hlt] at hli) hs' (Reps.mono htr.s ht htr.hp) (by rw[hall,Y3];exact hq) fun S' φ' a' w' h1 h2 h3 h4=>hn fin.1 fin.2 S' φ' a' w' h h1 h2 (htr.trans h3) h4
 | nil =>
 rw[hord] at h
 simp only[hord] at hd
 simp only[Xm] at h
 have hd:draw=true→A8t H f ops=true:=fun e=>by subst e;simpa using hd
 cases draw with
 | false=>exact wp_region_list (Ya hH hc ops.toList S w hp φ tm a K hs ht h hn)
 | true =>
  rw[Xc] at h
  cases hq:Ri P H call f ops.toList ops.toList tm hp with
  | none=>rw[hq] at h;cases h
  | some fin =>
   rw[hq] at h
   refine wp_region_any hm ?_
   have hs':Sim P base S { w with drawn:=w.drawn+1 } hp φ:=hs.drew
   have hrem:=Acn ops.size ops.toList 0 (by simp)
   have htr:Trans base S w hp φ S { w with drawn:=w.drawn+1 } hp φ:=⟨fun b o h=>⟨h,rfl⟩,.refl _ _,(Below.refl _ _).drew,fun _ _ h=>.inl h,fun _ _ h=>.inl h,Ie,fun _ _=>rfl⟩
   refine Ahj hH hc (hd rfl) ops.size _ S _ tm hp φ a (by rw[hrem];simp) (by simp) hs' (Reps.mono htr.s ht htr.hp) (by rw[hrem];exact hq) fun S' φ' a' w' h1 h2 h3 h4=>hn fin.1 fin.2 S' φ' a' w' h h1 h2 (htr.trans h3) h4
end
end Go.Proofs.YtfabdppicogkmaaGreat
end
