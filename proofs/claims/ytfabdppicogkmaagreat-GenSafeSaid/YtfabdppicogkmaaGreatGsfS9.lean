/- Parts of the proofs: what they lean on. Conditions: none. -/
import Derived.OpenShut
import Derived.Test.YtfabdppicogkmaaGreatGsfS8
section
namespace Go.Proofs.YtfabdppicogkmaaGreat
open Go.RowKit
set_option linter.unusedVariables false
set_option linter.unusedSimpArgs false
structure OpS where
 op:Int
 n:Int
 t:Int
 deriving DecidableEq
structure Ay where
 op:Int
 reg:Int
 loc:Int
 e:List OpS
 f:List OpS
 ne:Bool
 goal:Int
 deriving DecidableEq
structure Ak where
 mod:Int
 init:List Int
 regs:List Int
 code:List (List Ay)
 deriving DecidableEq
structure A2 where
 loc:Int
 n:Int
 deriving DecidableEq
structure Ac where
 pc:List Int
 regs:List (List Int)
 mem:List Int
 buf:List (List A2)
 deriving DecidableEq
abbrev rI:Rd Int:=A98 .i64
def Wc:Rd (List Int):=Li rI
def rOp:Rd OpS:=A4r (fun x=>⟨x.1,x.2.1,x.2.2⟩) (Lt rI (Lt rI rI))
def An4:Rd (List OpS):=Li rOp
def Aif:Rd Ay:=A4r (fun x=>⟨x.1,x.2.1,x.2.2.1,x.2.2.2.1,x.2.2.2.2.1,x.2.2.2.2.2.1,x.2.2.2.2.2.2⟩) (Lt rI (Lt rI (Lt rI (Lt An4 (Lt An4 (Lt Ap3 rI))))))
def Ack:Rd (List Ay):=Li Aif
def Qt:Rd A2:=A4r (fun x=>⟨x.1,x.2⟩) (Lt rI rI)
def W7:Rd (List A2):=Li Qt
def Ad7:Rd (List (List Int)):=Li Wc
def Afh:Rd (List (List A2)):=Li W7
def Aoz:Rd Ac:=A4r (fun x=>⟨x.1,x.2.1,x.2.2.1,x.2.2.2⟩) (Lt Wc (Lt Ad7 (Lt Wc Afh)))
theorem Ahm:Lz Wc:=P2 (F3 _)
theorem Aqj:Lz rOp:=A0m _ (Jh (F3 _) (Jh (F3 _) (F3 _)))
theorem A8u:Lz An4:=P2 Aqj
theorem Adz:Lz Aif:=A0m _ (Jh (F3 _) (Jh (F3 _) (Jh (F3 _) (Jh A8u (Jh A8u (Jh Agt (F3 _)))))))
theorem Abm:Lz Ack:=P2 Adz
theorem A2x:Lz Qt:=A0m _ (Jh (F3 _) (F3 _))
theorem A7w:Lz W7:=P2 A2x
abbrev Sl {α:Type} (r:Rd α) (w:World) (v:Value) (l:List α):Prop:=(Li r).rel w [v] l
theorem Sl.mono {α:Type} {r:Rd α} (hm:Lz r) {w w':World} {v:Value} {l:List α} (h:Sl r w v l) (hb:Below w.heap.size w w'):Sl r w' v l:=P2 hm _ _ _ _ h hb
theorem Sl.len {α:Type} {r:Rd α} {w:World} {v:Value} {l:List α} (h:Sl r w v l):l.length≤9223372036854775807:=by
 obtain⟨a,cap,_,⟨h1,h2,_⟩,_⟩:=h
 unfold maxLen at h2;omega
theorem A8h {n:Int} (h:(Lit.int .i64 n).wf=true): -9223372036854775808≤n∧n≤9223372036854775807:=_root_.Go.bounds_i64 h
theorem Qw {w:World} {v:Value} {l:List Int} (h:Sl rI w v l) :
 ∃ a cap,v=.slice a l.length cap∧∀ k (hk:k < l.length),∃ b off,a=some ⟨b,off,none⟩∧w.cell? ⟨b,off+k,none⟩=some (.int .i64 l[k])∧ -9223372036854775808≤l[k]∧l[k]≤9223372036854775807:=by
 obtain⟨a,cap,h1,_,h3⟩:=h
 simp only[List.cons.injEq,and_true] at h1
 subst h1
 refine⟨a,cap,rfl,fun k hk=>?_⟩
 obtain⟨b,off,cs',e1,_,e3,e4,e5⟩:=h3 k hk
 subst e4
 have h0:=e3 0 _ rfl
 exact⟨b,off,e1,by simpa [A98] using h0,A8h e5⟩
theorem Ql {α:Type} {r:Rd α} {w:World} {v:Value} {l:List (List α)} (h:Sl (Li r) w v l) :
 ∃ a cap,v=.slice a l.length cap∧∀ k (hk:k < l.length),∃ b off u,a=some ⟨b,off,none⟩∧w.cell? ⟨b,off+k,none⟩=some u∧Sl r w u l[k]:=by
 obtain⟨a,cap,h1,_,h3⟩:=h
 simp only[List.cons.injEq,and_true] at h1
 subst h1
 refine⟨a,cap,rfl,fun k hk=>?_⟩
 obtain⟨b,off,cs',e1,_,e3,e4⟩:=h3 k hk
 obtain⟨a2,c2,e5,r5⟩:=e4
 subst e5
 have h0:=e3 0 _ rfl
 exact⟨b,off,_,e1,by simpa [Li] using h0,a2,c2,rfl,r5⟩
theorem A1m {w:World} {cs:List Value} {x:A2} (h:Qt.rel w cs x):cs=[.int .i64 x.loc,.int .i64 x.n]∧(-9223372036854775808≤x.loc∧x.loc≤9223372036854775807)∧(-9223372036854775808≤x.n∧x.n≤9223372036854775807):=by
 obtain⟨y,⟨⟨h1,b1⟩,h2,b2⟩,rfl⟩:=h
 simp only[A98] at h1 h2
 refine⟨?_,A8h b1,A8h b2⟩
 have e:cs=cs.take 1++cs.drop 1:=by simp only[List.take_append_drop]
 rw[e,h1,h2]
 rfl
theorem Yp {w:World} {v:Value} {l:List A2} (h:Sl Qt w v l) :
 ∃ a cap,v=.slice a l.length cap∧∀ k (hk:k < l.length),∃ b off,a=some ⟨b,off,none⟩∧w.cell? ⟨b,off+k*2,none⟩=some (.int .i64 l[k].loc)∧w.cell? ⟨b,off+k*2+1,none⟩=some (.int .i64 l[k].n) ∧
   (-9223372036854775808≤l[k].loc∧l[k].loc≤9223372036854775807)∧(-9223372036854775808≤l[k].n∧l[k].n≤9223372036854775807):=by
 obtain⟨a,cap,h1,_,h3⟩:=h
 simp only[List.cons.injEq,and_true] at h1
 subst h1
 refine⟨a,cap,rfl,fun k hk=>?_⟩
 obtain⟨b,off,cs',e1,_,e3,e4⟩:=h3 k hk
 obtain⟨rfl,b1,b2⟩:=A1m e4
 exact⟨b,off,e1,e3 0 _ rfl,e3 1 _ rfl,b1,b2⟩
def UnitV (w:World) (v:Value) (u:Ak):Prop:=∃ vi vr vc,v=.agg #[.int .i64 u.mod,vi,vr,vc]∧Sl rI w vi u.init∧Sl rI w vr u.regs∧Sl Ack w vc u.code∧ -9223372036854775808≤u.mod∧u.mod≤9223372036854775807
theorem UnitV.mono {w w':World} {v:Value} {u:Ak} (h:UnitV w v u) (hb:Below w.heap.size w w'):UnitV w' v u:=by
 obtain⟨vi,vr,vc,h0,h1,h2,h3,h4⟩:=h
 exact⟨vi,vr,vc,h0,h1.mono (F3 _) hb,h2.mono (F3 _) hb,h3.mono Abm hb,h4⟩
theorem At6 {cs:List Value} {a b c d:List Value} (h1:cs.take 1=a) (h2:(cs.drop 1).take 1=b) (h3:((cs.drop 1).drop 1).take 1=c) (h4:((cs.drop 1).drop 1).drop 1=d):cs=a++(b++(c++d)):=by
 rw[← h1,← h2,← h3,← h4]
 simp only[List.take_append_drop]
def ConfV (w:World) (v:Value) (c:Ac):Prop:=∃ vp vr vm vb,v=.agg #[vp,vr,vm,vb]∧Sl rI w vp c.pc∧Sl Wc w vr c.regs∧Sl rI w vm c.mem∧Sl W7 w vb c.buf
theorem ConfV.mono {w w':World} {v:Value} {c:Ac} (h:ConfV w v c) (hb:Below w.heap.size w w'):ConfV w' v c:=by
 obtain⟨vp,vr,vm,vb,h0,h1,h2,h3,h4⟩:=h
 exact⟨vp,vr,vm,vb,h0,h1.mono (F3 _) hb,h2.mono Ahm hb,h3.mono (F3 _) hb,h4.mono A7w hb⟩
theorem Aqn {w:World} {cs:Array Value} {c:Ac} (h:Aoz.rel w cs.toList c):ConfV w (.agg cs) c:=by
 obtain⟨cs⟩:=cs
 obtain⟨y,⟨h1,h2,h3,h4⟩,rfl⟩:=h
 obtain⟨a1,c1,e1,r1⟩:=h1
 obtain⟨a2,c2,e2,r2⟩:=h2
 obtain⟨a3,c3,e3,r3⟩:=h3
 obtain⟨a4,c4,e4,r4⟩:=h4
 simp only[Wc,Ad7,Afh,Li] at e1 e2 e3 e4
 have e:=At6 e1 e2 e3 e4
 subst e
 exact⟨_,_,_,_,rfl,⟨a1,c1,rfl,r1⟩,⟨a2,c2,rfl,r2⟩,⟨a3,c3,rfl,r3⟩,⟨a4,c4,rfl,r4⟩⟩
def SAll (w:World) (b o:Nat):Prop:=∃ u,stay w b o=some u
theorem A8z {S:Nat→Nat→Prop} {w:World}:∀ {els:List (List AV)} {vss:List (List Value)},els.length=vss.length→(∀ (k:Nat) (el:List AV) (vs:List Value),els[k]?=some el→vss[k]?=some vs→Reps S w [] [] el vs∧E5 vs)→Repss S w els vss
 | [],[],_,_=>.nil
 | el :: els,vs :: vss,hl,h=>.cons _ _ _ _ (h 0 el vs rfl rfl).1 (h 0 el vs rfl rfl).2 (A8z (by simpa using hl) fun k a b h1 h2=>h (k+1) a b (by simpa using h1) (by simpa using h2))
theorem Aiy {X:Ext} (hX:I1 Tryz.prog X) {n:Nat} {g:FuncId} {args:List AV} {W:World} {vs:List Value} (h:Al Tryz.prog HH X n g args []=some (.bool true,[])) (hr:Reps (SAll W) W [] [] args vs):Calls Tryz.prog g vs.toArray W fun e w'=>e=.returned (.bool true)∧Below W.heap.size W w':=by
 refine(Wp hX n false g args [] _ _ h W.heap.size (SAll W) W [] vs ⟨rfl,Nat.le_refl _,fun _ _ ⟨u,hu⟩=>⟨u,hu,fun hb=>absurd (Hr hu) (by omega)⟩,fun id o ho=>by simp at ho,fun i j b hi=>by simp[Af] at hi⟩ hr).mono ?_
 rintro e w' ⟨u,S',φ',rfl,hu,_,ht⟩
 exact⟨by rw[hu.bool_inv],ht.below⟩
theorem Rk {w w':World} (hb:Below w.heap.size w w') {b o:Nat} (h:∃ u,stay w b o=some u):stay w' b o=stay w b o:=by
 obtain⟨u,hu⟩:=h
 exact Id (hb.block b (Hr hu)) o
theorem SAll.ext {w w':World} (hb:Below w.heap.size w w'):SExt (SAll w) w (SAll w') w':=fun b o h=>⟨by
 have:=Rk hb h
 obtain⟨u,hu⟩:=h
 exact⟨u,this.trans hu⟩,Rk hb h⟩
theorem Vr {S:Nat→Nat→Prop} {w w':World} (hc:∀ b o,S b o→∃ u,stay w b o=some u) (hb:Below w.heap.size w w'):SExt S w S w'∧∀ b o,S b o→∃ u,stay w' b o=some u∧(w.heap.size≤b→u.2.2=(0,0)) :=
 ⟨fun b o h=>⟨h,Rk hb (hc b o h)⟩,fun b o h=>by
  obtain⟨u,hu⟩:=hc b o h
  exact⟨u,(Rk hb ⟨u,hu⟩).trans hu,fun hb=>absurd (Hr hu) (by omega)⟩⟩
def Dec {α:Type} (r:Rd α) (enc:α→List AV):Prop:=(∀ x,(enc x).length=r.size)∧∀ (S:Nat→Nat→Prop) (w:World) (cs:List Value) (x:α),Reps S w [] [] (enc x) cs→r.rel w cs x
theorem Api (k:IntKind):Dec (A98 k) (fun n=>[.int k n]):=⟨fun _=>rfl,fun S w cs x h=>by
 cases h with | cons _ _ _ _ _ _ h t=>cases h with | int _ _ _ _ h=>cases t with | nil=>exact⟨rfl,h⟩⟩
theorem W5 {α β:Type} {r:Rd α} {s:Rd β} {f:α→List AV} {g:β→List AV} (hf:Dec r f) (hg:Dec s g):Dec (Lt r s) (fun x=>f x.1++g x.2):=by
 refine⟨fun x=>by rw[List.length_append,hf.1,hg.1];rfl,fun S w cs x h=>⟨?_,?_⟩⟩
 ·have:=h.take r.size
  rw[List.take_append_of_le_length (by rw[hf.1];exact Nat.le_refl _),← hf.1 x.1,List.take_length] at this
  rw[hf.1 x.1] at this
  exact hf.2 _ _ _ _ this
 ·have:=h.drop r.size
  rw[← hf.1 x.1,List.drop_left,hf.1 x.1] at this
  exact hg.2 _ _ _ _ this
theorem Abz {α β:Type} {r:Rd α} {f:α→β} {g:α→List AV} {g':β→List AV} (he:∀ y,∃ x,f x=y∧g' y=g x) (h:Dec r g):Dec (A4r f r) g':=by
 refine⟨fun y=>?_,fun S w cs y hy=>?_⟩
 ·obtain⟨x,rfl,h2⟩:=he y;rw[h2];exact h.1 x
 ·obtain⟨x,rfl,h2⟩:=he y
  rw[h2] at hy
  exact⟨x,h.2 _ _ _ _ hy,rfl⟩
theorem Ty {α:Type} {r:Rd α} {f:α→List AV} (hf:Dec r f) (hpos:0 < r.size):Dec (Li r) (fun l=>[.sl r.size (l.map f)]):=by
 refine⟨fun _=>rfl,fun S w cs l h=>?_⟩
 cases h with | cons _ _ _ _ _ _ h t=>cases t with | nil =>
 obtain⟨vss,a,cap,hr,hl,hc,rfl⟩:=h.sl_inv
 rw[A5] at hc ⊢
 refine⟨a,cap,rfl,hc,fun k hk=>?_⟩
 obtain⟨vs,h1,h2,h3⟩:=hr.get (i:=k) (el:=f l[k]) (by rw[List.getElem?_map,A6 hk];rfl)
 have hlen:=hl.1 vs (List.mem_of_getElem? h1)
 obtain⟨u,hu⟩:∃ u,vs[0]?=some u:=⟨_,A6 (by omega)⟩
 obtain⟨b,o,ha,_⟩:=hl.2 k vs 0 u h1 hu
 subst ha
 refine⟨b,o,vs,rfl,hlen,fun j u hj=>?_,hf.2 _ _ _ _ h2⟩
 obtain⟨b',o',he,_,hx⟩:=hl.2 k vs j u h1 hj
 cases he
 exact hx
abbrev Xd:=List (FuncId×(List AV→Option AV))
def Qg:Xd→Ext
 | [],_=>none
 | (g,k) :: l,f=>match Nat.beq g f with
   | true=>some k
   | false=>Qg l f
def Nn (P:Program) (g:FuncId) (k:List AV→Option AV):Prop:=∀ (args:List AV) (v:AV),k args=some v→∀ (S:Nat→Nat→Prop) (w:World) (vs:List Value),(∀ b o,S b o→∃ u,stay w b o=some u)→Reps S w [] [] args vs →
 Calls P g vs.toArray w fun e w'=>∃ u S',e=.returned u∧Rep S' w' [] [] v u∧(∀ b o,S' b o→∃ u,stay w' b o=some u∧(w.heap.size≤b→u.2.2=(0,0)))∧SExt S w S' w'∧(∀ b o,S' b o→S b o∨w.heap.size≤b)∧Below w.heap.size w w'
theorem Jo {P:Program}:∀ {l:Xd},(∀ p ∈ l,Nn P p.1 p.2)→I1 P (Qg l)
 | [],_=>fun g k h=>by simp[Qg] at h
 | (g,k) :: l,hl=>fun f k' h=>by
  simp only[Qg] at h
  split at h
  ·rename_i he
   have he:=Nat.eq_of_beq_eq_true he
   cases h
   have:=hl (g,k) (by simp)
   rw[← he];exact this
  ·exact Jo (fun p hp=>hl p (by simp[hp])) f k' h
def Ads (b:Bool) (w:World) (e:Ending) (w':World):Prop:=e=.returned (.bool b)∧Below w.heap.size w w'
theorem Apz {ρ:Type} {cont:Tm→Hp→Option ρ} {tm tm':Tm} {hp hp':Hp} {r:Option ρ} (h:cont tm' hp'=r) (h1:tm=tm') (h2:hp=hp'):cont tm hp=r:=by rw[h1,h2];exact h
def A0 (n:Int):List AV:=[.int .i64 n]
abbrev aIs (l:List Int):AV:=.sl 1 (l.map A0)
def Ag (l:List Int):List AV:=[aIs l]
abbrev Z7 (l:List (List Int)):AV:=.sl 1 (l.map Ag)
def At (x:A2):List AV:=[.int .i64 x.loc,.int .i64 x.n]
abbrev aEs (b:List A2):AV:=.sl 2 (b.map At)
def An (b:List A2):List AV:=[aEs b]
abbrev Ap1 (l:List (List A2)):AV:=.sl 1 (l.map An)
def C0 (x:OpS):List AV:=[.int .i64 x.op,.int .i64 x.n,.int .i64 x.t]
abbrev Afw (l:List OpS):AV:=.sl 3 (l.map C0)
def Bx (x:Ay):List AV:=[.int .i64 x.op,.int .i64 x.reg,.int .i64 x.loc,Afw x.e,Afw x.f,.bool x.ne,.int .i64 x.goal]
abbrev Amh (l:List Ay):AV:=.sl 7 (l.map Bx)
def Ah (l:List Ay):List AV:=[Amh l]
abbrev Asb (l:List (List Ay)):AV:=.sl 1 (l.map Ah)
def T2 (u:Ak):List AV:=[.int .i64 u.mod,aIs u.init,aIs u.regs,Asb u.code]
abbrev aU (u:Ak):AV:=.agg (T2 u)
def Cj (c:Ac):List AV:=[aIs c.pc,Z7 c.regs,aIs c.mem,Ap1 c.buf]
abbrev aC (c:Ac):AV:=.agg (Cj c)
theorem Aed:Dec rI A0:=Api _
theorem Aaa:Dec Wc (fun l=>[aIs l]):=Ty Aed (by decide)
theorem Aru:Dec Ad7 (fun l=>[Z7 l]):=Ty Aaa (by decide)
theorem Aq3:Dec Qt At:=Abz (fun y=>⟨(y.loc,y.n),rfl,rfl⟩) (W5 Aed Aed)
theorem Ajj:Dec W7 (fun l=>[aEs l]):=Ty Aq3 (by decide)
theorem Arq:Dec Afh (fun l=>[Ap1 l]):=Ty Ajj (by decide)
theorem Arj:Dec Aoz Cj:=Abz (fun y=>⟨(y.pc,y.regs,y.mem,y.buf),rfl,rfl⟩) (W5 Aaa (W5 Aru (W5 Aaa Arq)))
theorem Oh {α β:Type} {f:α→β} (hf:∀ x y,f x=f y→x=y):∀ {l l':List α},l.map f=l'.map f→l=l'
 | [],[],_=>rfl
 | [],_ :: _,h=>by simp at h
 | _ :: _,[],h=>by simp at h
 | a :: l,b :: l',h=>by
  simp only[List.map_cons,List.cons.injEq] at h
  rw[hf _ _ h.1,Oh hf h.2]
theorem Aog {x y:Int} (h:A0 x=A0 y):x=y:=by simpa [A0] using h
theorem V0 {l l':List Int} (h:aIs l=aIs l'):l=l':=Oh (fun _ _=>Aog) (AV.sl.inj h).2
theorem Ai1 {x y:OpS} (h:C0 x=C0 y):x=y:=by
 cases x;cases y;simp[C0] at h;simp[h]
theorem A8a {l l':List OpS} (h:Afw l=Afw l'):l=l':=Oh (fun _ _=>Ai1) (AV.sl.inj h).2
theorem Ajb {x y:Ay} (h:Bx x=Bx y):x=y:=by
 cases x;cases y
 simp only[Bx,List.cons.injEq,AV.int.injEq,AV.bool.injEq,true_and,and_true] at h
 obtain⟨h1,h2,h3,h4,h5,h6,h7⟩:=h
 simp[h1,h2,h3,h6,h7,A8a h4,A8a h5]
theorem Aks {l l':List Ay} (h:Amh l=Amh l'):l=l':=Oh (fun _ _=>Ajb) (AV.sl.inj h).2
theorem Aef {l l':List Ay} (h:Ah l=Ah l'):l=l':=Aks (by simpa only [Ah,List.cons.injEq,and_true] using h)
theorem Arl (x y:Ak) (h:aU x=aU y):x=y:=by
 cases x;cases y
 simp only[aU,T2,AV.agg.injEq,List.cons.injEq,AV.int.injEq,true_and,and_true] at h
 obtain⟨h1,h2,h3,h4⟩:=h
 simp[h1,V0 h2,V0 h3,Oh (fun _ _=>Aef) (AV.sl.inj h4).2]
inductive LR (τ ν:Type) where
 | out (t:τ)
 | ret (v:ν)
 deriving DecidableEq
def A8o {ρ τ ν:Type} (K:Ex→Tm→Hp→Option ρ) (id:Nat) (tmX:τ→(Nat→Nat)→Tm) (hpX:τ→(Nat→Nat)→Hp) (encR:ν→ρ) (r:Option ρ):LR τ ν→Prop
 | .out t=>∀ a,K (.exit id) (tmX t a) (hpX t a)=r
 | .ret v=>r=some (encR v)
theorem Afc {ρ σ τ ν:Type} {body:Tm→Hp→(Ex→Tm→Hp→Option ρ)→Option ρ} {keep:Nat→List Nat} {h0:Nat} {K:Ex→Tm→Hp→Option ρ} {r:Option ρ} (id:Nat) (tmOf:σ→(Nat→Nat)→Tm) (hpOf:σ→(Nat→Nat)→Hp) (tmX:τ→(Nat→Nat)→Tm) (hpX:τ→(Nat→Nat)→Hp) (encR:ν→ρ) (L:Nat→σ→Option (LR τ ν)) (hL:∀ s,L 0 s=none) (o:LR τ ν)
 (hround:∀ (k:Nat) (s:σ) (a:Nat→Nat) (K':Ex→Tm→Hp→Option ρ) (cont:Tm→Hp→Option ρ),(∀ tm hp,K' .ret tm hp=K .ret tm hp)→(∀ s' a',L k s'=some o→cont (tmOf s' a') (hpOf s' a')=r)→L (k+1) s=some o→A8o K' id tmX hpX encR r o →
  F4 force (fun tm=>C8 (fun hp=>body tm hp (fun e tm hp=>F4 force (fun tm=>C8 (fun hp=>match e with
   | .normal=>cont tm hp
   | .exit id=>K' (.exit id) tm hp
   | .ret=>K' .ret tm hp) (G4 h0 hp)) (Sy (keep (A1s e)) h0 hp 0 tm))) (hpOf s a)) (tmOf s a)=r) :
 ∀ (n:Nat) (s:σ) (a:Nat→Nat) (tm:Tm) (hp:Hp),L n s=some o→A8o K id tmX hpX encR r o→tm=tmOf s a→hp=hpOf s a→rounds body keep h0 n tm hp K=r:=by
 intro n
 induction n with
 | zero=>intro s a tm hp h;rw[hL] at h;cases h
 | succ n ih =>
  intro s a tm hp h hr h1 h2
  subst h1;subst h2
  unfold rounds
  have:=hround n s a K (fun tm hp=>rounds body keep h0 n tm hp K) (fun _ _=>rfl) (fun s' a' h'=>ih s' a' _ _ h' hr rfl rfl) h hr
  rw[Dp Q4,B2] at this
  exact this
def Av (b:Bool):List AV:=[.bool b]
def Amu (s:List UInt8):List AV:=[.str s]
def fieldsOf (P:Program) (t:TypeId):List Field:=match P.underlying t with
 | some (.struct fs)=>fs.toList
 | _=>[]
theorem A8m {α:Type} {c:Bool} {a:Option α} {r:α} (h:(bif c then a else none)=some r):c=true∧a=some r:=by
 cases c
 ·cases h
 ·exact⟨rfl,h⟩
theorem Ah8 {α β:Type} {o:Option α} {f:α→Option β} {r:β} (h:o.bind f=some r):∃ x,o=some x∧f x=some r:=by
 cases o with
 | none=>cases h
 | some x=>exact⟨x,rfl,h⟩
theorem Ds {α:Type} {c:Bool} {a:Option α} {r:α} {G:Prop} (h:(bif c then a else none)=some r) (h1:c=true→a=some r→G):G:=h1 (A8m h).1 (A8m h).2
theorem Ae {α β:Type} {o:Option α} {f:α→Option β} {r:β} {G:Prop} (h:o.bind f=some r) (k:∀ x,o=some x→f x=some r→G):G:=by
 obtain⟨x,h1,h2⟩:=Ah8 h
 exact k x h1 h2
def idx {α:Type} (l:List α) (i:Int):Option α:=bif decide (0≤i) then l[i.toNat]? else none
theorem Air {α:Type} {l:List α} {i:Int} {x:α} (h:idx l i=some x):0≤i∧i < l.length∧l[i.toNat]?=some x:=by
 unfold idx at h
 by_cases h0:0≤i
 ·rw[decide_eq_true h0] at h
  have:=(List.getElem?_eq_some_iff.1 h).1
  exact⟨h0,by omega,h⟩
 ·rw[decide_eq_false h0] at h;cases h
theorem C4 {α:Type} {l:List α} {i:Int} {x:α} (h:idx l i=some x):(decide (0≤i)&&decide (i < (l.length:Int)))=true:=by
 obtain⟨h1,h2,_⟩:=Air h
 rw[decide_eq_true h1,decide_eq_true h2];rfl
theorem Dh {α β:Type} {l:List α} {f:α→β} {i:Int} {x:α} (h:idx l i=some x):(decide (0≤i)&&decide (i < ((l.map f).length:Int)))=true:=by
 rw[A5];exact C4 h
theorem Ci {α:Type} {f:α→List AV} {l:List α} {i:Int} {x:α} (h:idx l i=some x):nth? (l.map f) i.toNat=some (f x):=by
 rw[nth?_eq,List.getElem?_map,(Air h).2.2];rfl
theorem Oo {α:Type} (l:List α) (k:Nat):idx l (k:Int)=l[k]?:=by simp[idx]
theorem Mp {n a a' k k' b B:Nat} (h:decide ((a+k)*B≤140737488355328)=true) (hn:n=a) (ha:a'=a) (hk:k'=k) (hb:b+1=B):(decide (n=a')&&decide ((a'+k')*(b+1)≤140737488355328))=true:=by
 subst hn;subst ha;subst hk;rw[hb,h];simp
theorem Kx {a a' k k' b B:Nat} (h:decide ((a+k)*B≤140737488355328)=true) (ha:a'=a) (hk:k'=k) (hb:b+1=B):(decide True&&decide ((a'+k')*(b+1)≤140737488355328))=true:=by
 subst ha;subst hk;rw[hb,h];simp
theorem Ape {k k' b B:Nat} (h:decide (k*B≤140737488355328)=true) (hk:k'=k) (hb:b+1=B):decide (k'*(b+1)≤140737488355328)=true:=by
 subst hk;rw[hb,h]
theorem Pk {l l':Int} {b B:Nat} (h:(decide (0≤l)&&decide ((B:Int)*l≤140737488355328))=true) (hl:l=l') (hb:b=B):(decide (0≤l)&&decide (l=l')&&decide ((b:Int)*l≤140737488355328))=true:=by
 subst hl;subst hb;simpa using h
theorem O1 {l:Int} {b B:Nat} (h:(decide (0≤l)&&decide ((B:Int)*l≤140737488355328))=true) (hb:b=B):(decide (0≤l)&&decide True&&decide ((b:Int)*l≤140737488355328))=true:=by
 subst hb;simpa using h
theorem Bw {α β:Type} (f:α→β) (l:List α):List.take l.length (List.map f l)=List.map f l:=List.take_of_length_le (by rw[A5];exact Nat.le_refl _)
theorem Aq9 {ρ:Type} {K:Ex→Tm→Hp→Option ρ} {e:Ex} {tm tm':Tm} {hp hp':Hp} {r:Option ρ} (h:K e tm' hp'=r) (h1:tm=tm') (h2:hp=hp'):K e tm hp=r:=by rw[h1,h2];exact h
theorem Eb {α β:Type} {l:List α} {f:α→β} {i:Int} {x:α} (h:idx l i=some x):(decide (0≤i)&&decide (i < ((l.length:Nat):Int))&&decide (0+l.length≤(l.map f).length))=true:=by
 rw[C4 h];simp
theorem Bz {α:Type} {l:List α} {i:Int} {x:α} (h:idx l i=some x):(decide (0≤i)&&decide (i < ((l.length:Nat):Int))&&decide (0+l.length≤l.length))=true:=by
 rw[C4 h];simp
theorem Aki {i:Int} {n:Nat} (h:(decide (0≤i)&&decide (i≤(n:Int)))=true):i.toNat≤n:=by
 simp only[A8,Ai] at h
 omega
def Aou {α:Type} (l:List α) (off n:Nat) (src:List α):List α:=if off+n≤l.length then List.take off l++(List.take n src++List.drop (off+Nat.min src.length n) l) else l
theorem Ho {α:Type} {l:List α} {off n:Nat} {src:List α}:(Aou l off n src).length=l.length:=by
 unfold Aou
 split
 ·have:Nat.min src.length n=min src.length n:=rfl
  simp only[List.length_append,List.length_take,List.length_drop,this];omega
 ·rfl
theorem Bi (n:Nat):decide (n=n)=true:=by simp
structure Yu where
 Vn:(List UInt8)
 f_N:Int
 Wv:Int
 deriving DecidableEq,Inhabited
def Ic (x:Yu):List AV:=[AV.str (x.Vn),AV.int .i64 (x.f_N),AV.int .i64 (x.Wv)]
structure Kz where
 At9:Int
 f_N:Int
 Vn:(List UInt8)
 Ata:(List UInt8)
 Wv:Int
 deriving DecidableEq,Inhabited
def L8 (x:Kz):List AV:=[AV.int .i64 (x.At9),AV.int .i64 (x.f_N),AV.str (x.Vn),AV.str (x.Ata),AV.int .i64 (x.Wv)]
structure W6 where
 A3l:Int
 Asn:(List UInt8)
 Aso:(List UInt8)
 Ub:(List Kz)
 f_F:(List Kz)
 Atb:Bool
 R7:Int
 As8:Int
 Wv:Int
 deriving DecidableEq,Inhabited
def Or (x:W6):List AV:=[AV.int .i64 (x.A3l),AV.str (x.Asn),AV.str (x.Aso),AV.sl 5 (List.map L8 (x.Ub)),AV.sl 5 (List.map L8 (x.f_F)),AV.bool (x.Atb),AV.int .i64 (x.R7),AV.int .i64 (x.As8),AV.int .i64 (x.Wv)]
structure Yj where
 Vn:(List UInt8)
 Ako:(List (List UInt8))
 R7:(List W6)
 Wv:Int
 deriving DecidableEq,Inhabited
def F6 (x:Yj):List AV:=[AV.str (x.Vn),AV.sl 1 (List.map Amu (x.Ako)),AV.sl 9 (List.map Or (x.R7)),AV.int .i64 (x.Wv)]
structure Fa where
 A3l:Int
 Ub:(List Kz)
 Wv:Int
 deriving DecidableEq,Inhabited
def Gm (x:Fa):List AV:=[AV.int .i64 (x.A3l),AV.sl 5 (List.map L8 (x.Ub)),AV.int .i64 (x.Wv)]
structure Cf where
 Qo:Int
 Mn:(List Yu)
 E4:(List Yj)
 Cw:(List Fa)
 deriving DecidableEq,Inhabited
def Ad8 (x:Cf):List AV:=[AV.int .i64 (x.Qo),AV.sl 3 (List.map Ic (x.Mn)),AV.sl 4 (List.map F6 (x.E4)),AV.sl 3 (List.map Gm (x.Cw))]
structure C1 where
 Q8:Bool
 Agk:Bool
 Aap:(List Int)
 deriving DecidableEq,Inhabited
def G2 (x:C1):List AV:=[AV.bool (x.Q8),AV.bool (x.Agk),AV.sl 1 (List.map A0 (x.Aap))]
structure Gb where
 R6:Int
 A1f:(List Int)
 A5v:(List Int)
 Fz:(List C1)
 A1g:Int
 A5w:Int
 deriving DecidableEq,Inhabited
structure Aq where
 Am:(List Int)
 Aj:(List Int)
 Aw:(List Int)
 deriving DecidableEq,Inhabited
structure Bf where
 C5:(List Ac)
 Cs:Aq
 D8:(List Int)
 I9:(List Int)
 deriving DecidableEq,Inhabited
structure A9 where
 C2:Int
 Aj:Int
 Aw:Int
 deriving DecidableEq,Inhabited
def Bo (x:A9):List AV:=[AV.int .i64 (x.C2),AV.int .i64 (x.Aj),AV.int .i64 (x.Aw)]
def B6 (l:(List Bool)):List AV:=[AV.sl 1 (List.map Av l)]
theorem ls:(∀ {α β:Type} {f:α→β} {l:List α},(l.map f).length=l.length)∧(∀ {α β:Type} (f:α→β) (l:List α),List.take l.length (List.map f l)=List.map f l)∧Program.cellsOf Tryz.prog 152=1∧Program.cellsOf Tryz.prog 84=1∧Program.cellsOf Tryz.prog 126=1∧Program.cellsOf Tryz.prog 31=1∧Program.cellsOf Tryz.prog 57=3∧Program.cellsOf Tryz.prog 90=4∧Program.cellsOf Tryz.prog 99=3∧Program.cellsOf Tryz.prog 157=2∧Program.cellsOf Tryz.prog 119=7∧Program.cellsOf Tryz.prog 81=5∧Program.cellsOf Tryz.prog 135=3∧Program.cellsOf Tryz.prog 39=3∧Program.cellsOf Tryz.prog 78=9∧Program.cellsOf Tryz.prog 52=4∧Program.cellsOf Tryz.prog 48=3∧Program.cellsOf Tryz.prog 4=1∧Program.cellsOf Tryz.prog 3=1∧Program.cellsOf Tryz.prog 9=1 :=
 ⟨List.length_map ..,Bw,by kernel_rfl,by kernel_rfl,by kernel_rfl,by kernel_rfl,by kernel_rfl,by kernel_rfl,by kernel_rfl,by kernel_rfl,by kernel_rfl,by kernel_rfl,by kernel_rfl,by kernel_rfl,by kernel_rfl,by kernel_rfl,by kernel_rfl,by kernel_rfl,by kernel_rfl,by kernel_rfl⟩
theorem lt:(∀ {α β:Type} (f:α→β) (l:List α),List.take l.length (List.map f l)=List.map f l)∧Program.cellsOf Tryz.prog 152=1∧Program.cellsOf Tryz.prog 84=1∧Program.cellsOf Tryz.prog 126=1∧Program.cellsOf Tryz.prog 31=1∧Program.cellsOf Tryz.prog 57=3∧Program.cellsOf Tryz.prog 90=4∧Program.cellsOf Tryz.prog 99=3∧Program.cellsOf Tryz.prog 157=2∧Program.cellsOf Tryz.prog 119=7∧Program.cellsOf Tryz.prog 81=5∧Program.cellsOf Tryz.prog 135=3∧Program.cellsOf Tryz.prog 39=3∧Program.cellsOf Tryz.prog 78=9∧Program.cellsOf Tryz.prog 52=4∧Program.cellsOf Tryz.prog 48=3∧Program.cellsOf Tryz.prog 4=1∧Program.cellsOf Tryz.prog 3=1∧Program.cellsOf Tryz.prog 9=1 :=
 ls.2
theorem cq {ρ:Type} {cont:Tm→Hp→Option ρ} {tm tm':Tm} {hp hp':Hp} {r:Option ρ} (h:cont tm' hp'=r) (h1:tm=tm':=by first | rfl | (simp only[ls]<;>rfl) | (simp only[ls,List.map_append,List.map_cons,List.map_nil,List.append_nil,List.length_set,Ho]<;>rfl)) (h2:hp=hp':=by first | rfl | (simp only[ls]<;>rfl) | (simp only[ls,List.map_append,List.map_cons,List.map_nil,List.append_nil,List.length_set,Ho]<;>rfl)):cont tm hp=r:=Apz h h1 h2
theorem kq {ρ:Type} {K:Ex→Tm→Hp→Option ρ} {e:Ex} {tm tm':Tm} {hp hp':Hp} {r:Option ρ} (h:K e tm' hp'=r) (h1:tm=tm':=by first | rfl | (simp only[ls]<;>rfl) | (simp only[ls,List.map_append,List.map_cons,List.map_nil,List.append_nil,List.length_set,Ho]<;>rfl)) (h2:hp=hp':=by first | rfl | (simp only[ls]<;>rfl) | (simp only[ls,List.map_append,List.map_cons,List.map_nil,List.append_nil,List.length_set,Ho]<;>rfl)):K e tm hp=r:=Aq9 h h1 h2
theorem fq {ρ:Type} {x y z:Option ρ} (h:x=y:=by first | rfl | (simp only[Ho,List.length_set]<;>rfl) | (simp only[ls]<;>rfl) | ((conv=>lhs;arg 1;arg 1;whnf);simp only[Bi];rfl) | (simp only[List.length_append,A5,List.map_append,List.map_cons,List.map_nil]<;>rfl)) (h2:y=z:=by first | rfl | (simp only[List.map_take,List.map_drop];done) | (simp only[List.map_take,List.map_drop]<;>rfl) | (simp only[ls,List.drop_zero,List.length_set,Ho]<;>rfl)):x=z:=h.trans h2
theorem c0:((0:Nat):Int)=0:=rfl
theorem rq {ρ:Type} {x z:Option ρ} (h:x=z:=by first | rfl | (simp only[ls]<;>rfl)):x=z:=h
abbrev iA (x:Int):AV:=.int .i64 x
abbrev bA (x:Bool):AV:=.bool x
theorem sj {α:Type} {a r:α} (h:some a=some r):a=r:=Option.some.inj h
theorem lq {ρ σ τ ν:Type} {body:Tm→Hp→(Ex→Tm→Hp→Option ρ)→Option ρ} {keep:Nat→List Nat} {h0:Nat} {K:Ex→Tm→Hp→Option ρ} {r:Option ρ} (id:Nat) (tmOf:σ→(Nat→Nat)→Tm) (hpOf:σ→(Nat→Nat)→Hp) (tmX:τ→(Nat→Nat)→Tm) (hpX:τ→(Nat→Nat)→Hp) (encR:ν→ρ) (L:Nat→σ→Option (LR τ ν)) (hL:∀ s,L 0 s=none) (o:LR τ ν) (n:Nat) (s:σ) (a:Nat→Nat) {tm:Tm} {hp:Hp} (h:L n s=some o)
 (hround:∀ (k:Nat) (s:σ) (a:Nat→Nat) (K':Ex→Tm→Hp→Option ρ) (cont:Tm→Hp→Option ρ),(∀ tm hp,K' .ret tm hp=K .ret tm hp)→(∀ s' a',L k s'=some o→cont (tmOf s' a') (hpOf s' a')=r)→L (k+1) s=some o→A8o K' id tmX hpX encR r o →
  F4 force (fun tm=>C8 (fun hp=>body tm hp (fun e tm hp=>F4 force (fun tm=>C8 (fun hp=>match e with
   | .normal=>cont tm hp
   | .exit id=>K' (.exit id) tm hp
   | .ret=>K' .ret tm hp) (G4 h0 hp)) (Sy (keep (A1s e)) h0 hp 0 tm))) (hpOf s a)) (tmOf s a)=r)
 (hx:A8o K id tmX hpX encR r o)
 (h1:tm=tmOf s a:=by first | rfl | (simp only[ls]<;>rfl) | (simp only[ls,List.map_append,List.map_cons,List.map_nil,List.append_nil,List.length_set,Ho]<;>rfl)) (h2:hp=hpOf s a:=by first | rfl | (simp only[ls]<;>rfl) | (simp only[ls,List.map_append,List.map_cons,List.map_nil,List.append_nil,List.length_set,Ho]<;>rfl)):rounds body keep h0 n tm hp K=r :=
 Afc id tmOf hpOf tmX hpX encR L hL o hround n s a tm hp h hx h1 h2
theorem lrc {ρ τ ν:Type} {K:Ex→Tm→Hp→Option ρ} {id:Nat} {tmX:τ→(Nat→Nat)→Tm} {hpX:τ→(Nat→Nat)→Hp} {encR:ν→ρ} {r:Option ρ} {o:LR τ ν} (h1:∀ v,o=.ret v→r=some (encR v)) (h2:∀ t a,o=.out t→K (.exit id) (tmX t a) (hpX t a)=r):A8o K id tmX hpX encR r o:=by
 cases o with
 | out t=>exact fun a=>h2 t a rfl
 | ret v=>exact h1 v rfl
theorem nn {α:Type} {r:α} {P:Prop}:(none:Option α)=some r→P:=fun h=>by cases h
theorem A7n {α:Type} {c:Bool} {a:Option α} {r:α} {G:Prop} (h1:c=true→a=some r→G):(bif c then a else none)=some r→G:=fun h=>Ds h h1
theorem br {α ρ:Type} {c:Bool} {a b:Option α} {r:α} {L L1 L2 R:ρ} (k1:a=some r→L1=R) (k2:b=some r→L2=R) (w1:c=true→L=L1:=by(intro hc;simp only[hc,ls];(conv=>lhs;whnf);try exact rfl)) (w2:c=false→L=L2:=by(intro hc;simp only[hc,ls];(conv=>lhs;whnf);try exact rfl)):(bif c then a else b)=some r→L=R:=by
 cases c
 ·exact fun h=>(w2 rfl).trans (k2 h)
 ·exact fun h=>(w1 rfl).trans (k1 h)
theorem bt {α ρ:Type} {c:Bool} {a:Option α} {r:α} {L L1 R:ρ} (k1:a=some r→L1=R) (w1:c=true→L=L1:=by(intro hc;simp only[hc,ls];(conv=>lhs;whnf);try exact rfl)):(bif c then a else none)=some r→L=R:=by
 cases c
 ·exact fun h=>nn h
 ·exact fun h=>(w1 rfl).trans (k1 h)
theorem bf {α ρ:Type} {c:Bool} {b:Option α} {r:α} {L L2 R:ρ} (k2:b=some r→L2=R) (w2:c=false→L=L2:=by(intro hc;simp only[hc,ls];(conv=>lhs;whnf);try exact rfl)):(bif c then none else b)=some r→L=R:=by
 cases c
 ·exact fun h=>(w2 rfl).trans (k2 h)
 ·exact fun h=>nn h
theorem cp {α ρ:Type} {c:Bool} {a:Option α} {r:α} {L L1 R:ρ} (k1:a=some r→L1=R) (w1:c=true→∀ q,L1=q→L=q:=by(intro hc q hq;refine B0 hc ?_;(try simp only[ls]);(conv=>lhs;whnf);exact hq)):(bif c then a else none)=some r→L=R:=A7n fun hc h=>w1 hc _ (k1 h)
theorem cn {α ρ:Type} {c:Bool} {a:Option α} {r:α} {L L1 R:ρ} (k1:a=some r→L1=R) (w1:c=true→∀ q,L1=q→L=q:=by(intro hc q hq;refine B0 (Ape hc (by simp only[A5,Bw]) (by kernel_rfl)) ?_;(try simp only[ls]);(conv=>lhs;whnf);exact hq)):(bif c then a else none)=some r→L=R:=A7n fun hc h=>w1 hc _ (k1 h)
theorem sl {α:Type} (f:α→List AV) (l:List α) (i j:Nat):List.drop i (List.take j (List.map f l))=List.map f (List.drop i (List.take j l)):=by rw[List.map_drop,List.map_take]
theorem cs {α ρ:Type} {c:Bool} {a:Option α} {r:α} {E:Prop} {L L1 R:ρ} (e:E) (k1:a=some r→L1=R) (w1:c=true→E→∀ q,L1=q→L=q:=by(intro hc he q hq;(try simp only[ls]);refine B0 hc ?_;simp only[he,ls];(conv=>lhs;whnf);exact hq)):(bif c then a else none)=some r→L=R:=A7n fun hc h=>w1 hc e _ (k1 h)
theorem ix {α β ρ:Type} {l:List α} {i:Int} {g:α→Option β} {r:β} {L:ρ} {L1:α→ρ} {R:ρ} (k:∀ x,g x=some r→L1 x=R) (w:∀ x,idx l i=some x→∀ q,L1 x=q→L=q:=by(intro x hx q hq;refine B0 (by first | exact C4 hx | exact Dh hx | (have z:=C4 hx;simp only[ls] at z ⊢;exact z)) ?_;simp only[Ci hx,ls];(conv=>lhs;whnf);exact hq)):(idx l i).bind g=some r→L=R:=fun h=>Ae h fun x hx h2=>w x hx _ (k x h2)
theorem ca {α β ρ:Type} {P:Program} {H:Bv} {X:Ext} {call:Bp} {n:Nat} {m:Option α} {g:α→Option β} {r:β} {f:FuncId} {a:List AV} {p:Hp} {v:α→Option (AV×Hp)} {L:ρ} {L1:α→ρ} {R:ρ} (hc:∀ g l h,call false g l h=Al P H X n g l h) (hk:∀ y,m=some y→Al P H X n f a p=v y) (k:∀ y,g y=some r→L1 y=R) (w:∀ y,call false f a p=v y→L=L1 y:=by(intro y hk;(first | simp only[hk] | rewrite[hk] | (simp only[ls];simp only[hk]));(conv=>lhs;whnf);try exact rfl)):m.bind g=some r→L=R:=fun h=>Ae h fun y hy h2=>(w y ((hc _ _ _).trans (hk y hy))).trans (k y h2)
theorem nb {γ α ρ:Type} {l:List γ} {a b:Option α} {r:α} {L L1 L2 R:ρ} (k1:a=some r→L1=R) (k2:b=some r→L2=R) (w1:l=[]→L=L1:=by(intro hc;simp only[hc,ls,List.map_nil];(conv=>lhs;whnf);try exact rfl)) (w2:decide (l.length=0)=false→L=L2:=by(intro hc;simp only[hc,ls];(conv=>lhs;whnf);try exact rfl)):(bif decide (l.length=0) then a else b)=some r→L=R:=by
 by_cases h:l.length=0
 ·rw[decide_eq_true h];exact fun e=>(w1 (List.eq_nil_of_length_eq_zero h)).trans (k1 e)
 ·rw[decide_eq_false h];exact fun e=>(w2 (decide_eq_false h)).trans (k2 e)
theorem cr {α β ρ:Type} {P:Program} {H:Bv} {X:Ext} {call:Bp} {n:Nat} {m:Option α} {g:α→Option β} {r:β} {f:FuncId} {a:List AV} {p:Hp} {v:α→Option (AV×Hp)} {L:ρ} {L1:α→ρ} {R:ρ} (hc:∀ g l h,call false g l h=Al P H X n g l h) (hk:∀ y,m=some y→Al P H X n f a p=v y) (k:∀ y,g y=some r→L1 y=R) (w:∀ y,call false f a p=v y→L=L1 y:=by(intro y hk;(try simp only[List.length_nil,List.map_nil] at hk);(try simp only[List.length_nil,List.map_nil]);(first | ((try simp only[ls]);simp only[hk]) | ((try simp only[List.drop_zero] at hk);(try simp only[List.drop_zero,ls]);simp only[hk]) | simp only[hk] | rewrite[hk]);(try simp only[ls]);(conv=>lhs;whnf);try exact rfl)):m.bind g=some r→L=R:=ca hc hk k w
theorem ap {α:Type} (f:α→List AV) (a:List (List AV)) (l:List α) (y:List (List AV)) (m:List α) (ha:a=List.map f l:=by rfl) (hy:y=List.map f m:=by rfl):a++y=List.map f (l++m)∧a.length+y.length=(l++m).length∧l.length+y.length=(l++m).length∧l.length+m.length=(l++m).length∧a.length+m.length=(l++m).length:=by
 subst ha;subst hy;simp
theorem ar {α ρ:Type} {c:Bool} {a:Option α} {r:α} {E:Prop} {L L1 R:ρ} (e:E) (k1:a=some r→L1=R) (w1:c=true→E→∀ q,L1=q→L=q:=by(intro hc he q hq;(first | refine B0 (Mp hc (by first | rfl | simp only[A5]) (by first | rfl | simp only[A5]) (by first | rfl | simp only[A5,Bw]) (by kernel_rfl)) ?_ | refine B0 (Kx hc (by first | rfl | simp only[A5]) (by first | rfl | simp only[A5,Bw]) (by kernel_rfl)) ?_ | skip);(try simp only[lt]);(try simp only[he]);(try simp only[ls,c0]);(try simp only[he]);(try simp only[ls]);(conv=>lhs;whnf);exact hq)):(bif c then a else none)=some r→L=R:=A7n fun hc h=>w1 hc e _ (k1 h)
theorem rz {α ρ:Type} {a r:α} {L R:ρ} (k:a=r→L=R:=by(intro e;cases e;first | rfl | (simp only[ls]<;>rfl))):some a=some r→L=R:=fun h=>k (sj h)
end Go.Proofs.YtfabdppicogkmaaGreat
end
