/- Parts of the proofs: what they lean on. Conditions: none. -/
import Derived.OpenShut
import Derived.Test.YtpknphnaegfghaaProg
import Derived.Test.YtpknphnaegfghaaBneS8
section
namespace Go.Proofs.Ytpknphnaegfghaa
open Go.RowKit
set_option linter.unusedVariables false
set_option linter.unusedSimpArgs false
structure OpS where
 op:Int
 n:Int
 t:Int
 deriving DecidableEq
structure Aj where
 op:Int
 reg:Int
 loc:Int
 e:List OpS
 f:List OpS
 ne:Bool
 goal:Int
 deriving DecidableEq
structure Ac where
 mod:Int
 init:List Int
 regs:List Int
 code:List (List Aj)
 deriving DecidableEq
structure A2 where
 loc:Int
 n:Int
 deriving DecidableEq
structure A8 where
 pc:List Int
 regs:List (List Int)
 mem:List Int
 buf:List (List A2)
 deriving DecidableEq
abbrev rI:Rd Int:=Q4 .i64
def O3:Rd (List Int):=F0 rI
def rOp:Rd OpS:=Ng (fun x=>⟨x.1,x.2.1,x.2.2⟩) (D3 rI (D3 rI rI))
def A5s:Rd (List OpS):=F0 rOp
def L3:Rd Aj:=Ng (fun x=>⟨x.1,x.2.1,x.2.2.1,x.2.2.2.1,x.2.2.2.2.1,x.2.2.2.2.2.1,x.2.2.2.2.2.2⟩) (D3 rI (D3 rI (D3 rI (D3 A5s (D3 A5s (D3 Th rI))))))
def Sk:Rd (List Aj):=F0 L3
def Ah1:Rd (List (List Aj)):=F0 Sk
def Agy:Rd Ac:=Ng (fun x=>⟨x.1,x.2.1,x.2.2.1,x.2.2.2⟩) (D3 rI (D3 O3 (D3 O3 Ah1)))
def O6:Rd A2:=Ng (fun x=>⟨x.1,x.2⟩) (D3 rI rI)
def Tg:Rd (List A2):=F0 O6
def Aao:Rd (List (List Int)):=F0 O3
def Aah:Rd (List (List A2)):=F0 Tg
def Agt:Rd A8:=Ng (fun x=>⟨x.1,x.2.1,x.2.2.1,x.2.2.2⟩) (D3 O3 (D3 Aao (D3 O3 Aah)))
theorem Abs:Jk O3:=Mr (Dg _)
theorem Cf:Jk rOp:=Xz _ (Hn (Dg _) (Hn (Dg _) (Dg _)))
theorem A63:Jk A5s:=Mr Cf
theorem P0:Jk L3:=Xz _ (Hn (Dg _) (Hn (Dg _) (Hn (Dg _) (Hn A63 (Hn A63 (Hn Ac4 (Dg _)))))))
theorem A70:Jk Sk:=Mr P0
theorem A02:Jk O6:=Xz _ (Hn (Dg _) (Dg _))
theorem A4z:Jk Tg:=Mr A02
abbrev Sl {α:Type} (r:Rd α) (w:World) (v:Value) (l:List α):Prop:=(F0 r).rel w [v] l
theorem Sl.mono {α:Type} {r:Rd α} (hm:Jk r) {w w':World} {v:Value} {l:List α} (h:Sl r w v l) (hb:Below w.heap.size w w'):Sl r w' v l:=Mr hm _ _ _ _ h hb
theorem Sl.len {α:Type} {r:Rd α} {w:World} {v:Value} {l:List α} (h:Sl r w v l):l.length≤9223372036854775807:=by
 obtain⟨a,cap,_,⟨h1,h2,_⟩,_⟩:=h
 unfold maxLen at h2;omega
theorem J1 {n:Int} (h:(Lit.int .i64 n).wf=true): -9223372036854775808≤n∧n≤9223372036854775807:=_root_.Go.bounds_i64 h
theorem C6 {w:World} {v:Value} {l:List Int} (h:Sl rI w v l) :
 ∃ a cap,v=.slice a l.length cap∧∀ k (hk:k < l.length),∃ b off,a=some ⟨b,off,none⟩∧w.cell? ⟨b,off+k,none⟩=some (.int .i64 l[k])∧ -9223372036854775808≤l[k]∧l[k]≤9223372036854775807:=by
 obtain⟨a,cap,h1,_,h3⟩:=h
 simp only[List.cons.injEq,and_true] at h1
 subst h1
 refine⟨a,cap,rfl,fun k hk=>?_⟩
 obtain⟨b,off,cs',e1,_,e3,e4,e5⟩:=h3 k hk
 subst e4
 have h0:=e3 0 _ rfl
 exact⟨b,off,e1,by simpa [Q4] using h0,J1 e5⟩
theorem Aiu {w:World} {cs:List Value} {x:OpS} (h:rOp.rel w cs x):cs=[.int .i64 x.op,.int .i64 x.n,.int .i64 x.t]∧((-9223372036854775808≤x.op∧x.op≤9223372036854775807)∧(-9223372036854775808≤x.n∧x.n≤9223372036854775807)∧(-9223372036854775808≤x.t∧x.t≤9223372036854775807)):=by
 obtain⟨y,⟨⟨h1,b1⟩,⟨h2,b2⟩,h3,b3⟩,rfl⟩:=h
 simp only[Q4] at h1 h2 h3
 refine⟨?_,J1 b1,J1 b2,J1 b3⟩
 have e:cs=cs.take 1++((cs.drop 1).take 1++(cs.drop 1).drop 1):=by simp only[List.take_append_drop]
 rw[e,h1,h2,h3]
 rfl
theorem Bq {w:World} {v:Value} {l:List OpS} (h:Sl rOp w v l) :
 ∃ a cap,v=.slice a l.length cap∧∀ k (hk:k < l.length),∃ b off,a=some ⟨b,off,none⟩∧w.cell? ⟨b,off+k*3,none⟩=some (.int .i64 l[k].op)∧w.cell? ⟨b,off+k*3+1,none⟩=some (.int .i64 l[k].n)∧w.cell? ⟨b,off+k*3+2,none⟩=some (.int .i64 l[k].t) ∧
   (-9223372036854775808≤l[k].op∧l[k].op≤9223372036854775807)∧(-9223372036854775808≤l[k].n∧l[k].n≤9223372036854775807)∧(-9223372036854775808≤l[k].t∧l[k].t≤9223372036854775807):=by
 obtain⟨a,cap,h1,_,h3⟩:=h
 simp only[List.cons.injEq,and_true] at h1
 subst h1
 refine⟨a,cap,rfl,fun k hk=>?_⟩
 obtain⟨b,off,cs',e1,_,e3,e4⟩:=h3 k hk
 obtain⟨rfl,b1,b2,b3⟩:=Aiu e4
 exact⟨b,off,e1,e3 0 _ rfl,e3 1 _ rfl,e3 2 _ rfl,b1,b2,b3⟩
theorem Aae {w:World} {cs:List Value} {x:Aj} (h:L3.rel w cs x):∃ ve vf,cs=[.int .i64 x.op,.int .i64 x.reg,.int .i64 x.loc,ve,vf,.bool x.ne,.int .i64 x.goal]∧Sl rOp w ve x.e∧Sl rOp w vf x.f ∧
 ((-9223372036854775808≤x.op∧x.op≤9223372036854775807)∧(-9223372036854775808≤x.reg∧x.reg≤9223372036854775807)∧(-9223372036854775808≤x.loc∧x.loc≤9223372036854775807)∧(-9223372036854775808≤x.goal∧x.goal≤9223372036854775807)):=by
 obtain⟨y,⟨⟨h1,b1⟩,⟨h2,b2⟩,⟨h3,b3⟩,h4,h5,h6,h7,b7⟩,rfl⟩:=h
 obtain⟨a4,c4,e4,r4⟩:=h4
 obtain⟨a5,c5,e5,r5⟩:=h5
 simp only[Q4,Th,A5s,F0] at h1 h2 h3 e4 e5 h6 h7
 refine⟨_,_,?_,⟨a4,c4,rfl,r4⟩,⟨a5,c5,rfl,r5⟩,J1 b1,J1 b2,J1 b3,J1 b7⟩
 have e:cs=cs.take 1++((cs.drop 1).take 1++(((cs.drop 1).drop 1).take 1++((((cs.drop 1).drop 1).drop 1).take 1++(((((cs.drop 1).drop 1).drop 1).drop 1).take 1++((((((cs.drop 1).drop 1).drop 1).drop 1).drop 1).take 1++(((((cs.drop 1).drop 1).drop 1).drop 1).drop 1).drop 1))))):=by
  simp only[List.take_append_drop]
 rw[e,h1,h2,h3,e4,e5,h6,h7]
 rfl
theorem Nz {w:World} {v:Value} {l:List Aj} (h:Sl L3 w v l) :
 ∃ a cap,v=.slice a l.length cap∧∀ k (hk:k < l.length),∃ b off ve vf,a=some ⟨b,off,none⟩∧w.cell? ⟨b,off+k*7,none⟩=some (.int .i64 l[k].op)∧w.cell? ⟨b,off+k*7+1,none⟩=some (.int .i64 l[k].reg)∧w.cell? ⟨b,off+k*7+2,none⟩=some (.int .i64 l[k].loc) ∧
   w.cell? ⟨b,off+k*7+3,none⟩=some ve∧w.cell? ⟨b,off+k*7+4,none⟩=some vf∧w.cell? ⟨b,off+k*7+5,none⟩=some (.bool l[k].ne)∧w.cell? ⟨b,off+k*7+6,none⟩=some (.int .i64 l[k].goal)∧Sl rOp w ve l[k].e∧Sl rOp w vf l[k].f ∧
   (-9223372036854775808≤l[k].op∧l[k].op≤9223372036854775807)∧(-9223372036854775808≤l[k].reg∧l[k].reg≤9223372036854775807)∧(-9223372036854775808≤l[k].loc∧l[k].loc≤9223372036854775807)∧(-9223372036854775808≤l[k].goal∧l[k].goal≤9223372036854775807):=by
 obtain⟨a,cap,h1,_,h3⟩:=h
 simp only[List.cons.injEq,and_true] at h1
 subst h1
 refine⟨a,cap,rfl,fun k hk=>?_⟩
 obtain⟨b,off,cs',e1,_,e3,e4⟩:=h3 k hk
 obtain⟨ve,vf,rfl,s1,s2,b1,b2,b3,b4⟩:=Aae e4
 exact⟨b,off,ve,vf,e1,e3 0 _ rfl,e3 1 _ rfl,e3 2 _ rfl,e3 3 _ rfl,e3 4 _ rfl,e3 5 _ rfl,e3 6 _ rfl,s1,s2,b1,b2,b3,b4⟩
theorem Eh {α:Type} {r:Rd α} {w:World} {v:Value} {l:List (List α)} (h:Sl (F0 r) w v l) :
 ∃ a cap,v=.slice a l.length cap∧∀ k (hk:k < l.length),∃ b off u,a=some ⟨b,off,none⟩∧w.cell? ⟨b,off+k,none⟩=some u∧Sl r w u l[k]:=by
 obtain⟨a,cap,h1,_,h3⟩:=h
 simp only[List.cons.injEq,and_true] at h1
 subst h1
 refine⟨a,cap,rfl,fun k hk=>?_⟩
 obtain⟨b,off,cs',e1,_,e3,e4⟩:=h3 k hk
 obtain⟨a2,c2,e5,r5⟩:=e4
 subst e5
 have h0:=e3 0 _ rfl
 exact⟨b,off,_,e1,by simpa [F0] using h0,a2,c2,rfl,r5⟩
theorem Yl {w:World} {cs:List Value} {x:A2} (h:O6.rel w cs x):cs=[.int .i64 x.loc,.int .i64 x.n]∧(-9223372036854775808≤x.loc∧x.loc≤9223372036854775807)∧(-9223372036854775808≤x.n∧x.n≤9223372036854775807):=by
 obtain⟨y,⟨⟨h1,b1⟩,h2,b2⟩,rfl⟩:=h
 simp only[Q4] at h1 h2
 refine⟨?_,J1 b1,J1 b2⟩
 have e:cs=cs.take 1++cs.drop 1:=by simp only[List.take_append_drop]
 rw[e,h1,h2]
 rfl
theorem Uy {w:World} {v:Value} {l:List A2} (h:Sl O6 w v l) :
 ∃ a cap,v=.slice a l.length cap∧∀ k (hk:k < l.length),∃ b off,a=some ⟨b,off,none⟩∧w.cell? ⟨b,off+k*2,none⟩=some (.int .i64 l[k].loc)∧w.cell? ⟨b,off+k*2+1,none⟩=some (.int .i64 l[k].n) ∧
   (-9223372036854775808≤l[k].loc∧l[k].loc≤9223372036854775807)∧(-9223372036854775808≤l[k].n∧l[k].n≤9223372036854775807):=by
 obtain⟨a,cap,h1,_,h3⟩:=h
 simp only[List.cons.injEq,and_true] at h1
 subst h1
 refine⟨a,cap,rfl,fun k hk=>?_⟩
 obtain⟨b,off,cs',e1,_,e3,e4⟩:=h3 k hk
 obtain⟨rfl,b1,b2⟩:=Yl e4
 exact⟨b,off,e1,e3 0 _ rfl,e3 1 _ rfl,b1,b2⟩
def UnitV (w:World) (v:Value) (u:Ac):Prop:=∃ vi vr vc,v=.agg #[.int .i64 u.mod,vi,vr,vc]∧Sl rI w vi u.init∧Sl rI w vr u.regs∧Sl Sk w vc u.code∧ -9223372036854775808≤u.mod∧u.mod≤9223372036854775807
theorem UnitV.mono {w w':World} {v:Value} {u:Ac} (h:UnitV w v u) (hb:Below w.heap.size w w'):UnitV w' v u:=by
 obtain⟨vi,vr,vc,h0,h1,h2,h3,h4⟩:=h
 exact⟨vi,vr,vc,h0,h1.mono (Dg _) hb,h2.mono (Dg _) hb,h3.mono A70 hb,h4⟩
theorem Aj5 {cs:List Value} {a b c d:List Value} (h1:cs.take 1=a) (h2:(cs.drop 1).take 1=b) (h3:((cs.drop 1).drop 1).take 1=c) (h4:((cs.drop 1).drop 1).drop 1=d):cs=a++(b++(c++d)):=by
 rw[← h1,← h2,← h3,← h4]
 simp only[List.take_append_drop]
theorem Aiq {w:World} {cs:Array Value} {u:Ac} (h:Agy.rel w cs.toList u):UnitV w (.agg cs) u:=by
 obtain⟨cs⟩:=cs
 obtain⟨y,⟨⟨h1,b1⟩,h2,h3,h4⟩,rfl⟩:=h
 obtain⟨a2,c2,e2,r2⟩:=h2
 obtain⟨a3,c3,e3,r3⟩:=h3
 obtain⟨a4,c4,e4,r4⟩:=h4
 simp only[Q4,O3,F0] at h1 e2 e3 e4
 have e:=Aj5 h1 e2 e3 e4
 subst e
 exact⟨_,_,_,rfl,⟨a2,c2,rfl,r2⟩,⟨a3,c3,rfl,r3⟩,⟨a4,c4,rfl,r4⟩,J1 b1⟩
def ConfV (w:World) (v:Value) (c:A8):Prop:=∃ vp vr vm vb,v=.agg #[vp,vr,vm,vb]∧Sl rI w vp c.pc∧Sl O3 w vr c.regs∧Sl rI w vm c.mem∧Sl Tg w vb c.buf
theorem ConfV.mono {w w':World} {v:Value} {c:A8} (h:ConfV w v c) (hb:Below w.heap.size w w'):ConfV w' v c:=by
 obtain⟨vp,vr,vm,vb,h0,h1,h2,h3,h4⟩:=h
 exact⟨vp,vr,vm,vb,h0,h1.mono (Dg _) hb,h2.mono Abs hb,h3.mono (Dg _) hb,h4.mono A4z hb⟩
theorem Aif {w:World} {cs:Array Value} {c:A8} (h:Agt.rel w cs.toList c):ConfV w (.agg cs) c:=by
 obtain⟨cs⟩:=cs
 obtain⟨y,⟨h1,h2,h3,h4⟩,rfl⟩:=h
 obtain⟨a1,c1,e1,r1⟩:=h1
 obtain⟨a2,c2,e2,r2⟩:=h2
 obtain⟨a3,c3,e3,r3⟩:=h3
 obtain⟨a4,c4,e4,r4⟩:=h4
 simp only[O3,Aao,Aah,F0] at e1 e2 e3 e4
 have e:=Aj5 e1 e2 e3 e4
 subst e
 exact⟨_,_,_,_,rfl,⟨a1,c1,rfl,r1⟩,⟨a2,c2,rfl,r2⟩,⟨a3,c3,rfl,r3⟩,⟨a4,c4,rfl,r4⟩⟩
def SAll (w:World) (b o:Nat):Prop:=∃ u,stay w b o=some u
def Enc {α:Type} (r:Rd α) (enc:α→List AV):Prop:=∀ (w:World) (cs:List Value) (x:α),r.rel w cs x→Reps (SAll w) w [] [] (enc x) cs∧De cs
theorem Aio (k:IntKind):Enc (Q4 k) (fun n=>[.int k n]):=by
 rintro w cs x ⟨rfl,h⟩
 exact⟨.cons _ _ _ _ _ _ (.int _ _ _ _ h) (.nil _ _),by intro v hv;simp at hv;subst hv;rfl⟩
theorem Afr:Enc Th (fun b=>[.bool b]):=by
 rintro w cs x rfl
 exact⟨.cons _ _ _ _ _ _ (.bool _ _ _) (.nil _ _),by intro v hv;simp at hv;subst hv;rfl⟩
theorem Fo {α β:Type} {r:Rd α} {s:Rd β} {f:α→List AV} {g:β→List AV} (hf:Enc r f) (hg:Enc s g):Enc (D3 r s) (fun x=>f x.1++g x.2):=by
 rintro w cs x ⟨h1,h2⟩
 obtain⟨a1,a2⟩:=hf _ _ _ h1
 obtain⟨b1,b2⟩:=hg _ _ _ h2
 have:=a1.append b1
 rw[List.take_append_drop] at this
 refine⟨this,fun v hv=>?_⟩
 rw[← List.take_append_drop r.size cs,List.mem_append] at hv
 exact hv.elim (a2 v) (b2 v)
theorem We {α β:Type} {r:Rd α} {f:α→β} {g:α→List AV} {g':β→List AV} (he:∀ x,g' (f x)=g x) (h:Enc r g):Enc (Ng f r) g':=by
 rintro w cs x ⟨y,h1,rfl⟩
 rw[he];exact h _ _ _ h1
theorem Xy {S:Nat→Nat→Prop} {w:World}:∀ {els:List (List AV)} {vss:List (List Value)},els.length=vss.length→(∀ (k:Nat) (el:List AV) (vs:List Value),els[k]?=some el→vss[k]?=some vs→Reps S w [] [] el vs∧De vs)→Repss S w els vss
 | [],[],_,_=>.nil
 | el :: els,vs :: vss,hl,h=>.cons _ _ _ _ (h 0 el vs rfl rfl).1 (h 0 el vs rfl rfl).2 (Xy (by simpa using hl) fun k a b h1 h2=>h (k+1) a b (by simpa using h1) (by simpa using h2))
theorem Re {α:Type} {r:Rd α} {f:α→List AV} (hf:Enc r f):Enc (F0 r) (fun l=>[.sl r.size (l.map f)]):=by
 rintro w cs l ⟨a,cap,rfl,hc,hi⟩
 obtain⟨vss,hlen,hv⟩:=A92 (n:=l.length) (p:=fun k cs'=>∃ hk:k < l.length,∃ b off,a=some ⟨b,off,none⟩∧cs'.length=r.size∧(∀ j u,cs'[j]?=some u→w.cell? ⟨b,off+k*r.size+j,none⟩=some u)∧r.rel w cs' l[k]) (fun k hk=>by
  obtain⟨b,off,cs',h⟩:=hi k hk
  exact⟨cs',hk,b,off,h⟩)
 have hrep:Repss (SAll w) w (l.map f) vss:=by
  refine Xy (by rw[A4,hlen]) fun k el vs h1 h2=>?_
  obtain⟨hk2,rfl⟩:=List.getElem?_eq_some_iff.1 h2
  obtain⟨hk,b,off,_,_,_,h6⟩:=hv k hk2
  rw[List.getElem?_map,A5 hk] at h1
  simp at h1;subst h1
  exact hf _ _ _ h6
 refine⟨.cons _ _ _ _ _ _ ?_ (.nil _ _),by intro v hv;simp at hv;subst hv;rfl⟩
 have:=Rep.sl (S:=SAll w) (w:=w) [] [] r.size (l.map f) vss a cap hrep ⟨fun vs hm=>?_,fun j vs t u h1 h2=>?_⟩ (by rw[A4];exact hc)
 ·rw[A4] at this;exact this
 ·obtain⟨k,hk,rfl⟩:=List.getElem_of_mem hm
  obtain⟨_,_,_,_,h,_⟩:=hv k hk
  exact h
 ·obtain⟨hk2,rfl⟩:=List.getElem?_eq_some_iff.1 h1
  obtain⟨hk,b,off,h4,h5,h6,_⟩:=hv j hk2
  exact⟨b,off,h4,⟨_,(Q9 (h6 t u h2)).choose_spec⟩,h6 t u h2⟩
theorem Ad5 {X:Ext} (hX:Nc Try.prog X) {n:Nat} {g:FuncId} {args:List AV} {W:World} {vs:List Value} (h:G7 Try.prog HH X n g args []=some (.bool true,[])) (hr:Reps (SAll W) W [] [] args vs):Calls Try.prog g vs.toArray W fun e w'=>e=.returned (.bool true)∧Below W.heap.size W w':=by
 refine(Xj hX n false g args [] _ _ h W.heap.size (SAll W) W [] vs ⟨rfl,Nat.le_refl _,fun _ _ ⟨u,hu⟩=>⟨u,hu,fun hb=>absurd (Gv hu) (by omega)⟩,fun id o ho=>by simp at ho,fun i j b hi=>by simp[A7] at hi⟩ hr).mono ?_
 rintro e w' ⟨u,S',φ',rfl,hu,_,ht⟩
 exact⟨by rw[hu.bool_inv],ht.below⟩
theorem Pf {w w':World} (hb:Below w.heap.size w w') {b o:Nat} (h:∃ u,stay w b o=some u):stay w' b o=stay w b o:=by
 obtain⟨u,hu⟩:=h
 exact Gs (hb.block b (Gv hu)) o
theorem SAll.ext {w w':World} (hb:Below w.heap.size w w'):SExt (SAll w) w (SAll w') w':=fun b o h=>⟨by
 have:=Pf hb h
 obtain⟨u,hu⟩:=h
 exact⟨u,this.trans hu⟩,Pf hb h⟩
theorem M7 {S:Nat→Nat→Prop} {w w':World} (hc:∀ b o,S b o→∃ u,stay w b o=some u) (hb:Below w.heap.size w w'):SExt S w S w'∧∀ b o,S b o→∃ u,stay w' b o=some u∧(w.heap.size≤b→u.2.2=(0,0)) :=
 ⟨fun b o h=>⟨h,Pf hb (hc b o h)⟩,fun b o h=>by
  obtain⟨u,hu⟩:=hc b o h
  exact⟨u,(Pf hb ⟨u,hu⟩).trans hu,fun hb=>absurd (Gv hu) (by omega)⟩⟩
def Dec {α:Type} (r:Rd α) (enc:α→List AV):Prop:=(∀ x,(enc x).length=r.size)∧∀ (S:Nat→Nat→Prop) (w:World) (cs:List Value) (x:α),Reps S w [] [] (enc x) cs→r.rel w cs x
theorem Ahr (k:IntKind):Dec (Q4 k) (fun n=>[.int k n]):=⟨fun _=>rfl,fun S w cs x h=>by
 cases h with | cons _ _ _ _ _ _ h t=>cases h with | int _ _ _ _ h=>cases t with | nil=>exact⟨rfl,h⟩⟩
theorem Afq:Dec Th (fun b=>[.bool b]):=⟨fun _=>rfl,fun S w cs x h=>by
 cases h with | cons _ _ _ _ _ _ h t=>cases h with | bool _ _ _=>cases t with | nil=>exact rfl⟩
theorem Fi {α β:Type} {r:Rd α} {s:Rd β} {f:α→List AV} {g:β→List AV} (hf:Dec r f) (hg:Dec s g):Dec (D3 r s) (fun x=>f x.1++g x.2):=by
 refine⟨fun x=>by rw[List.length_append,hf.1,hg.1];rfl,fun S w cs x h=>⟨?_,?_⟩⟩
 ·have:=h.take r.size
  rw[List.take_append_of_le_length (by rw[hf.1];exact Nat.le_refl _),← hf.1 x.1,List.take_length] at this
  rw[hf.1 x.1] at this
  exact hf.2 _ _ _ _ this
 ·have:=h.drop r.size
  rw[← hf.1 x.1,List.drop_left,hf.1 x.1] at this
  exact hg.2 _ _ _ _ this
theorem Sr {α β:Type} {r:Rd α} {f:α→β} {g:α→List AV} {g':β→List AV} (he:∀ y,∃ x,f x=y∧g' y=g x) (h:Dec r g):Dec (Ng f r) g':=by
 refine⟨fun y=>?_,fun S w cs y hy=>?_⟩
 ·obtain⟨x,rfl,h2⟩:=he y;rw[h2];exact h.1 x
 ·obtain⟨x,rfl,h2⟩:=he y
  rw[h2] at hy
  exact⟨x,h.2 _ _ _ _ hy,rfl⟩
theorem Jr {α:Type} {r:Rd α} {f:α→List AV} (hf:Dec r f) (hpos:0 < r.size):Dec (F0 r) (fun l=>[.sl r.size (l.map f)]):=by
 refine⟨fun _=>rfl,fun S w cs l h=>?_⟩
 cases h with | cons _ _ _ _ _ _ h t=>cases t with | nil =>
 obtain⟨vss,a,cap,hr,hl,hc,rfl⟩:=h.sl_inv
 rw[A4] at hc ⊢
 refine⟨a,cap,rfl,hc,fun k hk=>?_⟩
 obtain⟨vs,h1,h2,h3⟩:=hr.get (i:=k) (el:=f l[k]) (by rw[List.getElem?_map,A5 hk];rfl)
 have hlen:=hl.1 vs (List.mem_of_getElem? h1)
 obtain⟨u,hu⟩:∃ u,vs[0]?=some u:=⟨_,A5 (by omega)⟩
 obtain⟨b,o,ha,_⟩:=hl.2 k vs 0 u h1 hu
 subst ha
 refine⟨b,o,vs,rfl,hlen,fun j u hj=>?_,hf.2 _ _ _ _ h2⟩
 obtain⟨b',o',he,_,hx⟩:=hl.2 k vs j u h1 hj
 cases he
 exact hx
abbrev Abh:=List (FuncId×(List AV→Option AV))
def Wa:Abh→Ext
 | [],_=>none
 | (g,k) :: l,f=>match Nat.beq g f with
   | true=>some k
   | false=>Wa l f
def J6 (P:Program) (g:FuncId) (k:List AV→Option AV):Prop:=∀ (args:List AV) (v:AV),k args=some v→∀ (S:Nat→Nat→Prop) (w:World) (vs:List Value),(∀ b o,S b o→∃ u,stay w b o=some u)→Reps S w [] [] args vs →
 Calls P g vs.toArray w fun e w'=>∃ u S',e=.returned u∧Rep S' w' [] [] v u∧(∀ b o,S' b o→∃ u,stay w' b o=some u∧(w.heap.size≤b→u.2.2=(0,0)))∧SExt S w S' w'∧(∀ b o,S' b o→S b o∨w.heap.size≤b)∧Below w.heap.size w w'
theorem Rr {P:Program}:∀ {l:Abh},(∀ p ∈ l,J6 P p.1 p.2)→Nc P (Wa l)
 | [],_=>fun g k h=>by simp[Wa] at h
 | (g,k) :: l,hl=>fun f k' h=>by
  simp only[Wa] at h
  split at h
  ·rename_i he
   have he:=Nat.eq_of_beq_eq_true he
   cases h
   have:=hl (g,k) (by simp)
   rw[← he];exact this
  ·exact Rr (fun p hp=>hl p (by simp[hp])) f k' h
noncomputable def Wj {α:Type} (enc:α→AV) (f:α→Bool) (args:List AV):Option AV:=by
 classical
 exact if h:∃ x,args=[enc x] then some (.bool (f h.choose)) else none
theorem A4y {α:Type} {enc:α→AV} {f:α→Bool} (hi:∀ x y,enc x=enc y→x=y) (x:α):Wj enc f [enc x]=some (.bool (f x)):=by
 have h:∃ y,[enc x]=[enc y]:=⟨x,rfl⟩
 unfold Wj
 rw[dif_pos h]
 exact congrArg (fun z=>some (AV.bool (f z))) (hi _ _ (List.cons.inj h.choose_spec).1).symm
def A0b (b:Bool) (w:World) (e:Ending) (w':World):Prop:=e=.returned (.bool b)∧Below w.heap.size w w'
theorem Z7 {P:Program} {g:FuncId} {α:Type} {enc:α→AV} {f:α→Bool} {V:World→Value→α→Prop} (hd:∀ S w v x,Rep S w [] [] (enc x) v→V w v x) (hc:∀ x v w,V w v x→Calls P g #[v] w (A0b (f x) w)):J6 P g (Wj enc f):=by
 intro args v h S w vs hS hr
 unfold Wj at h
 split at h
 ·rename_i hx
  cases h
  have:=hx.choose_spec
  generalize hx.choose=x at *
  subst this
  cases hr with | cons _ _ _ u _ _ h1 t=>cases t with | nil =>
  refine(hc x u w (hd _ _ _ _ h1)).mono ?_
  rintro e w' ⟨rfl,hb⟩
  obtain⟨k1,k2⟩:=M7 hS hb
  exact⟨_,S,rfl,.bool _ _ _,k2,k1,fun _ _ h=>.inl h,hb⟩
 ·cases h
def Ah2 (args:List AV):Option AV:=match args with
 | []=>some (.bool true)
 | _=>none
theorem Aaq {P:Program} {g:FuncId} (hc:∀ w,Calls P g #[] w (A0b true w)):J6 P g Ah2:=by
 intro args v h S w vs hS hr
 match args,h with
 | [],h =>
  cases h
  cases hr with | nil =>
  refine(hc w).mono ?_
  rintro e w' ⟨rfl,hb⟩
  obtain⟨k1,k2⟩:=M7 hS hb
  exact⟨_,S,rfl,.bool _ _ _,k2,k1,fun _ _ h=>.inl h,hb⟩
theorem Aha {ρ:Type} {cont:Tm→Hp→Option ρ} {tm tm':Tm} {hp hp':Hp} {r:Option ρ} (h:cont tm' hp'=r) (h1:tm=tm') (h2:hp=hp'):cont tm hp=r:=by rw[h1,h2];exact h
def A0 (n:Int):List AV:=[.int .i64 n]
abbrev aIs (l:List Int):AV:=.sl 1 (l.map A0)
def Ad (l:List Int):List AV:=[aIs l]
abbrev Wn (l:List (List Int)):AV:=.sl 1 (l.map Ad)
def Ak (x:A2):List AV:=[.int .i64 x.loc,.int .i64 x.n]
abbrev aEs (b:List A2):AV:=.sl 2 (b.map Ak)
def Ae (b:List A2):List AV:=[aEs b]
abbrev Agu (l:List (List A2)):AV:=.sl 1 (l.map Ae)
def Bh (x:OpS):List AV:=[.int .i64 x.op,.int .i64 x.n,.int .i64 x.t]
abbrev A6u (l:List OpS):AV:=.sl 3 (l.map Bh)
def Bd (x:Aj):List AV:=[.int .i64 x.op,.int .i64 x.reg,.int .i64 x.loc,A6u x.e,A6u x.f,.bool x.ne,.int .i64 x.goal]
abbrev Abb (l:List Aj):AV:=.sl 7 (l.map Bd)
def Aa (l:List Aj):List AV:=[Abb l]
abbrev Ah0 (l:List (List Aj)):AV:=.sl 1 (l.map Aa)
def M9 (u:Ac):List AV:=[.int .i64 u.mod,aIs u.init,aIs u.regs,Ah0 u.code]
abbrev aU (u:Ac):AV:=.agg (M9 u)
def Df (c:A8):List AV:=[aIs c.pc,Wn c.regs,aIs c.mem,Agu c.buf]
abbrev aC (c:A8):AV:=.agg (Df c)
theorem Mk:Dec rI A0:=Ahr _
theorem Uf:Dec O3 (fun l=>[aIs l]):=Jr Mk (by decide)
theorem Aiy:Dec Aao (fun l=>[Wn l]):=Jr Uf (by decide)
theorem Aho:Dec O6 Ak:=Sr (fun y=>⟨(y.loc,y.n),rfl,rfl⟩) (Fi Mk Mk)
theorem Ae8:Dec Tg (fun l=>[aEs l]):=Jr Aho (by decide)
theorem Aj6:Dec Aah (fun l=>[Agu l]):=Jr Ae8 (by decide)
theorem Ak4:Dec rOp Bh:=Sr (fun y=>⟨(y.op,y.n,y.t),rfl,rfl⟩) (Fi Mk (Fi Mk Mk))
theorem Agw:Dec A5s (fun l=>[A6u l]):=Jr Ak4 (by decide)
theorem Aie:Dec L3 Bd:=Sr (fun y=>⟨(y.op,y.reg,y.loc,y.e,y.f,y.ne,y.goal),rfl,rfl⟩) (Fi Mk (Fi Mk (Fi Mk (Fi Agw (Fi Agw (Fi Afq Mk))))))
theorem Afg:Dec Sk (fun l=>[Abb l]):=Jr Aie (by decide)
theorem Aji:Dec Ah1 (fun l=>[Ah0 l]):=Jr Afg (by decide)
theorem Aj3:Dec Agy M9:=Sr (fun y=>⟨(y.mod,y.init,y.regs,y.code),rfl,rfl⟩) (Fi Mk (Fi Uf (Fi Uf Aji)))
theorem Aje:Dec Agt Df:=Sr (fun y=>⟨(y.pc,y.regs,y.mem,y.buf),rfl,rfl⟩) (Fi Uf (Fi Aiy (Fi Uf Aj6)))
theorem Ls {α β:Type} {f:α→β} (hf:∀ x y,f x=f y→x=y):∀ {l l':List α},l.map f=l'.map f→l=l'
 | [],[],_=>rfl
 | [],_ :: _,h=>by simp at h
 | _ :: _,[],h=>by simp at h
 | a :: l,b :: l',h=>by
  simp only[List.map_cons,List.cons.injEq] at h
  rw[hf _ _ h.1,Ls hf h.2]
theorem Ag6 {x y:Int} (h:A0 x=A0 y):x=y:=by simpa [A0] using h
theorem Sc {l l':List Int} (h:aIs l=aIs l'):l=l':=Ls (fun _ _=>Ag6) (AV.sl.inj h).2
theorem Adb {x y:OpS} (h:Bh x=Bh y):x=y:=by
 cases x;cases y;simp[Bh] at h;simp[h]
theorem A5p {l l':List OpS} (h:A6u l=A6u l'):l=l':=Ls (fun _ _=>Adb) (AV.sl.inj h).2
theorem Adv {x y:Aj} (h:Bd x=Bd y):x=y:=by
 cases x;cases y
 simp only[Bd,List.cons.injEq,AV.int.injEq,AV.bool.injEq,true_and,and_true] at h
 obtain⟨h1,h2,h3,h4,h5,h6,h7⟩:=h
 simp[h1,h2,h3,h6,h7,A5p h4,A5p h5]
theorem Aem {l l':List Aj} (h:Abb l=Abb l'):l=l':=Ls (fun _ _=>Adv) (AV.sl.inj h).2
theorem A9o {l l':List Aj} (h:Aa l=Aa l'):l=l':=Aem (by simpa only [Aa,List.cons.injEq,and_true] using h)
theorem Zh (x y:Ac) (h:aU x=aU y):x=y:=by
 cases x;cases y
 simp only[aU,M9,AV.agg.injEq,List.cons.injEq,AV.int.injEq,true_and,and_true] at h
 obtain⟨h1,h2,h3,h4⟩:=h
 simp[h1,Sc h2,Sc h3,Ls (fun _ _=>A9o) (AV.sl.inj h4).2]
theorem Ux (S:Nat→Nat→Prop) (w:World) (v:Value) (u:Ac) (h:Rep S w [] [] (aU u) v):UnitV w v u:=by
 obtain⟨vs,hr,_,rfl⟩:=h.agg_inv
 exact Aiq (cs:=vs.toArray) (Aj3.2 _ _ _ _ hr)
inductive LR (τ ν:Type) where
 | out (t:τ)
 | ret (v:ν)
 deriving DecidableEq
def A53 {ρ τ ν:Type} (K:Ex→Tm→Hp→Option ρ) (id:Nat) (tmX:τ→(Nat→Nat)→Tm) (hpX:τ→(Nat→Nat)→Hp) (encR:ν→ρ) (r:Option ρ):LR τ ν→Prop
 | .out t=>∀ a,K (.exit id) (tmX t a) (hpX t a)=r
 | .ret v=>r=some (encR v)
theorem Aa1 {ρ σ τ ν:Type} {body:Tm→Hp→(Ex→Tm→Hp→Option ρ)→Option ρ} {keep:Nat→List Nat} {h0:Nat} {K:Ex→Tm→Hp→Option ρ} {r:Option ρ} (id:Nat) (tmOf:σ→(Nat→Nat)→Tm) (hpOf:σ→(Nat→Nat)→Hp) (tmX:τ→(Nat→Nat)→Tm) (hpX:τ→(Nat→Nat)→Hp) (encR:ν→ρ) (L:Nat→σ→Option (LR τ ν)) (hL:∀ s,L 0 s=none) (o:LR τ ν)
 (hround:∀ (k:Nat) (s:σ) (a:Nat→Nat) (K':Ex→Tm→Hp→Option ρ) (cont:Tm→Hp→Option ρ),(∀ tm hp,K' .ret tm hp=K .ret tm hp)→(∀ s' a',L k s'=some o→cont (tmOf s' a') (hpOf s' a')=r)→L (k+1) s=some o→A53 K' id tmX hpX encR r o →
  Ee force (fun tm=>Bl (fun hp=>body tm hp (fun e tm hp=>Ee force (fun tm=>Bl (fun hp=>match e with
   | .normal=>cont tm hp
   | .exit id=>K' (.exit id) tm hp
   | .ret=>K' .ret tm hp) (F4 h0 hp)) (Q1 (keep (A0a e)) h0 hp 0 tm))) (hpOf s a)) (tmOf s a)=r) :
 ∀ (n:Nat) (s:σ) (a:Nat→Nat) (tm:Tm) (hp:Hp),L n s=some o→A53 K id tmX hpX encR r o→tm=tmOf s a→hp=hpOf s a→rounds body keep h0 n tm hp K=r:=by
 intro n
 induction n with
 | zero=>intro s a tm hp h;rw[hL] at h;cases h
 | succ n ih =>
  intro s a tm hp h hr h1 h2
  subst h1;subst h2
  unfold rounds
  have:=hround n s a K (fun tm hp=>rounds body keep h0 n tm hp K) (fun _ _=>rfl) (fun s' a' h'=>ih s' a' _ _ h' hr rfl rfl) h hr
  rw[Cy My,Am] at this
  exact this
def Ajx (b:Bool):List AV:=[.bool b]
def fieldsOf (P:Program) (t:TypeId):List Field:=match P.underlying t with
 | some (.struct fs)=>fs.toList
 | _=>[]
theorem A5t {α:Type} {c:Bool} {a:Option α} {r:α} (h:(bif c then a else none)=some r):c=true∧a=some r:=by
 cases c
 ·cases h
 ·exact⟨rfl,h⟩
theorem Abp {α β:Type} {o:Option α} {f:α→Option β} {r:β} (h:o.bind f=some r):∃ x,o=some x∧f x=some r:=by
 cases o with
 | none=>cases h
 | some x=>exact⟨x,rfl,h⟩
theorem Fx {α:Type} {c:Bool} {a:Option α} {r:α} {G:Prop} (h:(bif c then a else none)=some r) (h1:c=true→a=some r→G):G:=h1 (A5t h).1 (A5t h).2
theorem Ap {α β:Type} {o:Option α} {f:α→Option β} {r:β} {G:Prop} (h:o.bind f=some r) (k:∀ x,o=some x→f x=some r→G):G:=by
 obtain⟨x,h1,h2⟩:=Abp h
 exact k x h1 h2
def idx {α:Type} (l:List α) (i:Int):Option α:=bif decide (0≤i) then l[i.toNat]? else none
theorem Ace {α:Type} {l:List α} {i:Int} {x:α} (h:idx l i=some x):0≤i∧i < l.length∧l[i.toNat]?=some x:=by
 unfold idx at h
 by_cases h0:0≤i
 ·rw[decide_eq_true h0] at h
  have:=(List.getElem?_eq_some_iff.1 h).1
  exact⟨h0,by omega,h⟩
 ·rw[decide_eq_false h0] at h;cases h
theorem Cz {α:Type} {l:List α} {i:Int} {x:α} (h:idx l i=some x):(decide (0≤i)&&decide (i < (l.length:Int)))=true:=by
 obtain⟨h1,h2,_⟩:=Ace h
 rw[decide_eq_true h1,decide_eq_true h2];rfl
theorem Gt {α β:Type} {l:List α} {f:α→β} {i:Int} {x:α} (h:idx l i=some x):(decide (0≤i)&&decide (i < ((l.map f).length:Int)))=true:=by
 rw[A4];exact Cz h
theorem Fm {α:Type} {f:α→List AV} {l:List α} {i:Int} {x:α} (h:idx l i=some x):nth? (l.map f) i.toNat=some (f x):=by
 rw[nth?_eq,List.getElem?_map,(Ace h).2.2];rfl
theorem Wm {α:Type} (l:List α) (k:Nat):idx l (k:Int)=l[k]?:=by simp[idx]
theorem Kb {n a a' k k' b B:Nat} (h:decide ((a+k)*B≤140737488355328)=true) (hn:n=a) (ha:a'=a) (hk:k'=k) (hb:b+1=B):(decide (n=a')&&decide ((a'+k')*(b+1)≤140737488355328))=true:=by
 subst hn;subst ha;subst hk;rw[hb,h];simp
theorem It {a a' k k' b B:Nat} (h:decide ((a+k)*B≤140737488355328)=true) (ha:a'=a) (hk:k'=k) (hb:b+1=B):(decide True&&decide ((a'+k')*(b+1)≤140737488355328))=true:=by
 subst ha;subst hk;rw[hb,h];simp
theorem Ahk {k k' b B:Nat} (h:decide (k*B≤140737488355328)=true) (hk:k'=k) (hb:b+1=B):decide (k'*(b+1)≤140737488355328)=true:=by
 subst hk;rw[hb,h]
theorem Aij {l l':Int} {b B:Nat} (h:(decide (0≤l)&&decide ((B:Int)*l≤140737488355328))=true) (hl:l=l') (hb:b=B):(decide (0≤l)&&decide (l=l')&&decide ((b:Int)*l≤140737488355328))=true:=by
 subst hl;subst hb;simpa using h
theorem Aeq {l:Int} {b B:Nat} (h:(decide (0≤l)&&decide ((B:Int)*l≤140737488355328))=true) (hb:b=B):(decide (0≤l)&&decide True&&decide ((b:Int)*l≤140737488355328))=true:=by
 subst hb;simpa using h
theorem Bc {α β:Type} (f:α→β) (l:List α):List.take l.length (List.map f l)=List.map f l:=List.take_of_length_le (by rw[A4];exact Nat.le_refl _)
theorem Aii {ρ:Type} {K:Ex→Tm→Hp→Option ρ} {e:Ex} {tm tm':Tm} {hp hp':Hp} {r:Option ρ} (h:K e tm' hp'=r) (h1:tm=tm') (h2:hp=hp'):K e tm hp=r:=by rw[h1,h2];exact h
theorem J7 {α β:Type} {l:List α} {f:α→β} {i:Int} {x:α} (h:idx l i=some x):(decide (0≤i)&&decide (i < ((l.length:Nat):Int))&&decide (0+l.length≤(l.map f).length))=true:=by
 rw[Cz h];simp
theorem D0 {α:Type} {l:List α} {i:Int} {x:α} (h:idx l i=some x):(decide (0≤i)&&decide (i < ((l.length:Nat):Int))&&decide (0+l.length≤l.length))=true:=by
 rw[Cz h];simp
theorem Ada {i:Int} {n:Nat} (h:(decide (0≤i)&&decide (i≤(n:Int)))=true):i.toNat≤n:=by
 simp only[A6,A9] at h
 omega
def Agr {α:Type} (l:List α) (off n:Nat) (src:List α):List α:=if off+n≤l.length then List.take off l++(List.take n src++List.drop (off+Nat.min src.length n) l) else l
theorem Ga {α:Type} {l:List α} {off n:Nat} {src:List α}:(Agr l off n src).length=l.length:=by
 unfold Agr
 split
 ·have:Nat.min src.length n=min src.length n:=rfl
  simp only[List.length_append,List.length_take,List.length_drop,this];omega
 ·rfl
theorem B8 (n:Nat):decide (n=n)=true:=by simp
def inB (n most:Int):Bool:=decide (0≤n∧n < most)
def Jx:List OpS→Int→Int→Int×Int
 | [],n,m=>(n,m)
 | x :: t,n,m =>
  if 1≤x.op∧x.op≤4 then Jx t (n+1) (max m (n+1))
  else if x.op=5∧1≤n then Jx t n (max m n)
  else if 6≤x.op∧x.op≤14∧2≤n then Jx t (n - 1) (max m (n - 1))
  else(-1,-1)
def L9 (l:List OpS):Int×Int:=Jx l 0 0
def Ei (regs:List Int) (own locs:Int) (x:OpS):Bool :=
 if x.op=1 then inB x.n 10000
 else if x.op=2 then inB x.n own
 else if x.op=3 then inB x.n locs
 else if x.op=4 then(match regs[x.t.toNat]? with | some m=>decide (0≤x.t)&&inB x.n m | none=>false)
 else true
def Hw (l:List OpS) (regs:List Int) (own locs:Int):Bool:=l.all (Ei regs own locs)&&decide ((L9 l).1=1)
theorem Aat {l:List OpS} {regs:List Int} {own locs:Int} {k:Nat} (hk:k < l.length) (h:Ei regs own locs l[k]=false):Hw l regs own locs=false:=by
 have:l.all (Ei regs own locs)=false:=by
  rw[Bool.eq_false_iff]
  intro e
  rw[List.all_eq_true] at e
  have:=e _ (List.getElem_mem hk)
  rw[h] at this
  simp at this
 simp[Hw,this]
theorem X2 {l:List OpS} {regs:List Int} {own locs:Int} (h:∀ k (hk:k < l.length),Ei regs own locs l[k]=true):Hw l regs own locs=decide ((L9 l).1=1):=by
 have:l.all (Ei regs own locs)=true:=by
  rw[List.all_eq_true]
  intro x hx
  obtain⟨k,hk,rfl⟩:=List.getElem_of_mem hx
  exact h k hk
 simp[Hw,this]
structure W7 where
 reg:Bool
 loc:Bool
 e:Bool
 f:Bool
 ne:Bool
 goal:Bool
def C9 (op:Int):Option W7 :=
 if op=2 then some ⟨true,false,true,false,false,false⟩
 else if op=3 then some ⟨true,true,false,false,false,false⟩
 else if op=4 then some ⟨false,true,true,false,false,false⟩
 else if op=5 then some ⟨true,true,true,true,false,false⟩
 else if op=6 then some ⟨true,true,true,false,false,false⟩
 else if op=7 then some ⟨true,true,true,false,false,false⟩
 else if op=8 then some ⟨false,false,false,false,false,false⟩
 else if op=9 then some ⟨false,true,true,false,true,false⟩
 else if op=20 then some ⟨false,false,false,false,false,true⟩
 else if op=21 then some ⟨false,false,true,false,false,true⟩
 else none
def Ag (has:Bool) (n most:Int):Bool:=if has then inB n most else decide (n=0)
def Br (has:Bool) (l:List OpS) (regs:Int):Bool:=if has then Hw l [] regs 0 else l.isEmpty
def Bj (regs locs many:Int) (x:Aj):Bool:=match C9 x.op with
 | none=>false
 | some n=>(!x.ne || n.ne)&&Ag n.reg x.reg regs&&Ag n.loc x.loc locs&&Ag n.goal x.goal many&&Br n.e x.e regs&&Br n.f x.f regs
def Kz (x:Aj):Bool:=decide (x.op=22)&&decide (x.reg=0)&&decide (x.loc=0)&&decide (x.goal=0)&&!x.ne&&x.e.isEmpty&&x.f.isEmpty
def G8 (l:List Aj) (regs locs:Int):Bool :=
 decide (1≤l.length∧l.length≤1000)&&(match l[l.length - 1]? with | some x=>Kz x | none=>false)&&(List.range (l.length - 1)).all fun i=>match l[i]? with | some x=>Bj regs locs l.length x | none=>true
theorem A1u {l:List Aj} {regs locs:Int} {k:Nat} (hk:k+1 < l.length) (h:Bj regs locs l.length (l[k]'(by omega))=false):G8 l regs locs=false:=by
 have:((List.range (l.length - 1)).all fun i=>match l[i]? with | some x=>Bj regs locs l.length x | none=>true)=false:=by
  rw[Bool.eq_false_iff]
  intro e
  rw[List.all_eq_true] at e
  have:=e k (by simp;omega)
  rw[A5 (by omega)] at this
  simp only[h] at this
  simp at this
 simp[G8,this]
theorem Zp {l:List Aj} {regs locs:Int} (hk:l.length - 1 < l.length) (h:Kz l[l.length - 1]=false):G8 l regs locs=false:=by
 simp[G8,A5 hk,h]
theorem P5 {l:List Aj} {regs locs:Int} (h:¬ (1≤l.length∧l.length≤1000)):G8 l regs locs=false:=by
 have:decide (1≤l.length∧l.length≤1000)=false:=decide_eq_false h
 simp only[G8,this,Bool.false_and]
theorem Zv {l:List Aj} {regs locs:Int} (h1:1≤l.length∧l.length≤1000) (hk:l.length - 1 < l.length) (h2:Kz l[l.length - 1]=true) (h3:∀ k (hk:k+1 < l.length),Bj regs locs l.length (l[k]'(by omega))=true):G8 l regs locs=true:=by
 have:((List.range (l.length - 1)).all fun i=>match l[i]? with | some x=>Bj regs locs l.length x | none=>true)=true:=by
  rw[List.all_eq_true]
  intro k hk
  have hk:k+1 < l.length:=by simp at hk;omega
  rw[A5 (by omega)]
  exact h3 k hk
 have h4:decide (1≤l.length∧l.length≤1000)=true:=decide_eq_true h1
 simp only[G8,this,h4,A5 hk,h2,Bool.and_self]
def Ji (l:List Int) (mod:Int):Bool:=l.all fun n=>inB n mod
theorem Ui {l:List Int} {mod:Int} {k:Nat} (hk:k < l.length) (h:inB l[k] mod=false):Ji l mod=false:=by
 rw[Bool.eq_false_iff]
 intro e
 simp only[Ji,List.all_eq_true] at e
 have:=e _ (List.getElem_mem hk)
 rw[h] at this
 simp at this
theorem Yq {l:List Int} {mod:Int} (h:∀ k (hk:k < l.length),inB l[k] mod=true):Ji l mod=true:=by
 simp only[Ji,List.all_eq_true]
 intro x hx
 obtain⟨k,hk,rfl⟩:=List.getElem_of_mem hx
 exact h k hk
def Er (u:Ac) (t:Nat):Bool:=match u.regs[t]?,u.code[t]? with
 | some n,some r=>decide (0≤n∧n≤6)&&G8 r n u.init.length
 | _,_=>false
def Ho (u:Ac):Bool:=decide (2≤u.mod∧u.mod≤16∧u.init.length≤6∧1≤u.regs.length∧u.regs.length≤4∧u.code.length=u.regs.length)
def Ax (u:Ac):Bool:=Ho u&&Ji u.init u.mod&&(List.range u.regs.length).all (Er u)
theorem Xb {u:Ac} (h:Ho u=false):Ax u=false:=by simp[Ax,h]
theorem Ru {u:Ac} (h:Ji u.init u.mod=false):Ax u=false:=by simp[Ax,h]
theorem Zl {u:Ac} {t:Nat} (ht:t < u.regs.length) (h:Er u t=false):Ax u=false:=by
 have:(List.range u.regs.length).all (Er u)=false:=by
  rw[Bool.eq_false_iff]
  intro e
  rw[List.all_eq_true] at e
  have:=e t (by simpa using ht)
  rw[h] at this
  simp at this
 simp[Ax,this]
theorem Xe {u:Ac} (h1:Ho u=true) (h2:Ji u.init u.mod=true) (h3:∀ t,t < u.regs.length→Er u t=true):Ax u=true:=by
 have:(List.range u.regs.length).all (Er u)=true:=by
  rw[List.all_eq_true]
  intro t ht
  exact h3 t (by simpa using ht)
 simp[Ax,this,h1,h2]
theorem Kr {u:Ac} {t:Nat} (h1:t < u.regs.length) (h2:t < u.code.length):Er u t=(decide (0≤u.regs[t]∧u.regs[t]≤6)&&G8 u.code[t] u.regs[t] u.init.length):=by
 simp only[Er,A5 h1,A5 h2]
def Dp (r:List Aj):Bool:=decide (r.length≤200)&&r.all fun x=>decide (x.e.length≤300∧x.f.length≤300)
def Dk (u:Ac):Bool:=decide (u.init.length≤20∧u.regs.length≤20∧u.code.length≤8)&&u.code.all Dp
theorem I9 {a b:Int} (h:a≠b):(a==b)=false:=by simpa using h
theorem Mo {a b:Int} (h:a=b):(a==b)=true:=by simpa using h
theorem I0 {n m:Int} (h:n < 0∨m≤n):inB n m=false:=by simp only[inB,decide_eq_false_iff_not];omega
theorem Sm {n m:Int} (h:0≤n∧n < m):inB n m=true:=by simp only[inB,A9];exact h
set_option maxHeartbeats 400000 in
theorem Iz (a b:Int) (w:World):Calls Try.prog 47 #[.int .i64 a,.int .i64 b] w fun e w'=>e=.returned (.bool (inB a b))∧w=w':=by
 go_enter Try.func47,Try.ntmps47
 go_wp2
 all_goals
  go_ret
  refine⟨congrArg (fun b=>Ending.returned (.bool b)) ?_,rfl⟩
  rw[Bool.eq_iff_iff]
  simp[inB]
  try omega
def Ag7 (l:List OpS) (w:World) (e:Ending) (w':World):Prop:=e=.returned (.tuple #[.int .i64 (L9 l).1,.int .i64 (L9 l).2])∧w=w'
theorem A2n {l:List OpS} {k:Nat} (hk:k < l.length) (n m:Int):Jx (l.drop k) n m =
 if 1≤l[k].op∧l[k].op≤4 then Jx (l.drop (k+1)) (n+1) (max m (n+1))
 else if l[k].op=5∧1≤n then Jx (l.drop (k+1)) n (max m n)
 else if 6≤l[k].op∧l[k].op≤14∧2≤n then Jx (l.drop (k+1)) (n - 1) (max m (n - 1))
 else(-1,-1):=by
 rw[List.drop_eq_getElem_cons hk,Jx]
set_option maxRecDepth 100000 in
set_option maxHeartbeats 4000000 in
theorem Aax (l:List OpS) (v:Value) (w:World) (hv:Sl rOp w v l):Calls Try.prog 56 #[v] w (Ag7 l w):=by
 have hl:=hv.len
 obtain⟨a,c,rfl,hc⟩:=Bq hv
 have HC:=Lib.hid hc;clear hc hv
 go_enter Try.func56,Try.ntmps56
 go_wp2
 go_loop [4,5,6] (fun n m i=>∃ (k:Nat) (nn mm:Int),i=.int .i64 k∧n=.int .i64 nn∧m=.int .i64 mm∧k≤l.length∧0≤nn∧nn≤k∧0≤mm∧mm≤k∧Jx (l.drop k) nn mm=L9 l) (fun _ _ i=>l.length - (intOf i).toNat)
 case atStart=>exact⟨0,0,0,rfl,rfl,rfl,by omega,by omega,by omega,by omega,by omega,rfl⟩
 case round =>
  obtain⟨k,nn,mm,rfl,rfl,rfl,hk,hn1,hn2,hm1,hm2,hrel⟩:=hrel
  have HR:=Lib.hid hrel;clear hrel
  by_cases hlt:k < l.length
  ·obtain⟨b,o,rfl,x1,_,_,_⟩:=HC.out k hlt
   have HD:=Lib.hid (A2n hlt nn mm)
   obtain⟨op,hop⟩:∃ op,l[k].op=op:=⟨_,rfl⟩
   rw[hop] at x1 HD
   clear hop
   by_cases c1:1≤op∧op≤4
   ·obtain⟨c1a,c1b⟩:=c1
    go_wp2
    all_goals
     go_round
     case rel=>exact⟨k+1,nn+1,max mm (nn+1),by go_num,by go_num,by go_num,by omega,by omega,by omega,by omega,by omega,by rw[← HR.out,HD.out,if_pos ⟨c1a,c1b⟩]⟩
     case measure=>simp[intOf];omega
   ·by_cases c2:op=5∧1≤nn
    ·obtain⟨c2a,c2b⟩:=c2
     subst c2a
     go_wp2
     all_goals
      go_round
      case rel=>exact⟨k+1,nn,max mm nn,by go_num,by go_num,by go_num,by omega,by omega,by omega,by omega,by omega,by rw[← HR.out,HD.out,if_neg c1,if_pos ⟨rfl,c2b⟩]⟩
      case measure=>simp[intOf];omega
    ·by_cases c3:6≤op∧op≤14∧2≤nn
     ·obtain⟨c3a,c3b,c3c⟩:=c3
      have d5:(op==5)=false:=I9 (by omega)
      go_wp2
      all_goals
       go_round
       case rel=>exact⟨k+1,nn - 1,max mm (nn - 1),by go_num,by go_num,by go_num,by omega,by omega,by omega,by omega,by omega,by rw[← HR.out,HD.out,if_neg c1,if_neg c2,if_pos ⟨c3a,c3b,c3c⟩]⟩
       case measure=>simp[intOf];omega
     ·have HF:=Lib.hid (show L9 l=(-1,-1) by rw[← HR.out,HD.out,if_neg c1,if_neg c2,if_neg c3])
      have hd5:op=5∨op≠5:=by omega
      rcases hd5 with h5 | h5
      ·subst h5
       have hnn:nn < 1:=by omega
       clear c1 c2 c3
       go_wp2
       go_ret2
       exact⟨by rw[HF.out];rfl,rfl⟩
      ·have d5:(op==5)=false:=I9 h5
       by_cases h1:op < 1
       ·clear c1 c2 c3 h5
        go_wp2
        go_ret2
        exact⟨by rw[HF.out];rfl,rfl⟩
       ·by_cases h14:14 < op
        ·clear c1 c2 c3 h5
         go_wp2
         go_ret2
         exact⟨by rw[HF.out];rfl,rfl⟩
        ·have h6:6≤op:=by omega
         have h2:nn < 2:=by omega
         clear c1 c2 c3 h5
         go_wp2
         go_ret2
         exact⟨by rw[HF.out];rfl,rfl⟩
  ·have hd:l.drop k=[]:=List.drop_eq_nil_of_le (by omega)
   have HF:=Lib.hid (show L9 l=(nn,mm) by rw[← HR.out,hd];rfl)
   go_wp2
   go_ret2
   exact⟨by rw[HF.out];rfl,rfl⟩
set_option maxHeartbeats 1000000 in
theorem A29 (l:List Int) (mod:Int) (v:Value) (w:World) (hv:Sl rI w v l) :
 Calls Try.prog 32 #[v,.int .i64 mod] w fun e w'=>e=.returned (.bool (Ji l mod))∧w=w':=by
 have hl:=hv.len
 obtain⟨a,c,rfl,hc⟩:=C6 hv
 have HC:=Lib.hid hc;clear hc hv
 go_enter Try.func32,Try.ntmps32
 go_wp2
 go_loop [5] (fun i=>∃ k:Nat,i=.int .i64 k∧k≤l.length∧∀ j (h:j < l.length),j < k→inB l[j] mod=true) (fun i=>l.length - (intOf i).toNat)
 case atStart=>exact⟨0,rfl,by omega,fun j _ h=>absurd h (by omega)⟩
 case round =>
  obtain⟨k,rfl,hk,hall⟩:=hrel
  have Hall:=Lib.hid hall;clear hall
  by_cases hlt:k < l.length
  ·obtain⟨b,o,rfl,x1,_⟩:=HC.out k hlt
   by_cases h1:inB l[k] mod=true
   ·go_wp2_with (first | (go_at_call 47;refine(Iz _ _ _).mono ?_;rintro e w' ⟨rfl,rfl⟩))
    go_round
    case rel=>exact⟨k+1,by go_num,by omega,fun j h2 h3=>by
     rcases Nat.lt_or_ge j k with h | h
     ·exact Hall.out j h2 h
     ·obtain rfl:j=k:=by omega
      exact h1⟩
    case measure=>simp[intOf];omega
   ·have h1':inB l[k] mod=false:=by simpa using h1
    clear h1
    go_wp2_with (first | (go_at_call 47;refine(Iz _ _ _).mono ?_;rintro e w' ⟨rfl,rfl⟩))
    go_ret
    exact⟨by rw[Ui hlt h1'];rfl,rfl⟩
  ·go_wp2
   go_ret
   exact⟨by rw[Yq fun j hj=>Hall.out j hj (by omega)];rfl,rfl⟩
theorem Sl.nil {α:Type} (r:Rd α) (w:World):Sl r w (.slice none 0 0) []:=⟨none,0,rfl,by simp,fun k hk=>absurd hk (by simp)⟩
def Me (l:List OpS) (regs:List Int) (own locs:Int) (w:World) (e:Ending) (w':World):Prop:=e=.returned (.bool (Hw l regs own locs))∧Below w.heap.size w w'
theorem A20 {l:List OpS} {regs:List Int} {own locs:Int} {w w':World} {k:Nat} (hk:k < l.length) (h:Ei regs own locs l[k]=false) (hb:Below w.heap.size w w'):Me l regs own locs w (.returned (.bool false)) w':=⟨by rw[Aat hk h],hb⟩
theorem A4x (a b:Int) (w:World) (n:Nat):Calls Try.prog 47 #[.int .i64 a,.int .i64 b] (w.drewN n) fun e w''=>e=.returned (.bool (inB a b))∧∃ m,w''=w.drewN m :=
 (Iz a b _).mono fun _ _ ⟨he,hw⟩=>⟨he,n,hw.symm⟩
theorem Agz {regs:List Int} {own locs:Int} {x:OpS} (hop:x.op=4) {tn:Nat} (ht:x.t=tn) (hlt:tn < regs.length):Ei regs own locs x=inB x.n regs[tn]:=by
 simp only[Ei,hop,ht]
 simp[A5 hlt]
theorem A4q {regs:List Int} {own locs:Int} {x:OpS} (hop:x.op=4) (h:inB x.t regs.length=false):Ei regs own locs x=false:=by
 simp only[Ei,hop]
 simp only[inB,decide_eq_false_iff_not] at h
 rcases hx:regs[x.t.toNat]? with _ | m
 ·simp
 ·have:=(List.getElem?_eq_some_iff.1 hx).1
  have:¬ 0≤x.t:=by omega
  simp[this]
set_option maxRecDepth 100000 in
set_option maxHeartbeats 8000000 in
theorem G9 (l:List OpS) (regs:List Int) (own locs:Int) (v vr:Value) (w:World) (hv:Sl rOp w v l) (hr:Sl rI w vr regs) :
 Calls Try.prog 51 #[v,vr,.int .i64 own,.int .i64 locs] w (Me l regs own locs w):=by
 have hl:=hv.len
 have hl2:=hr.len
 have HV:=Lib.hid hv
 obtain⟨a,c,rfl,hc⟩:=Bq hv
 obtain⟨a2,c2,rfl,hc2⟩:=C6 hr
 have HC:=Lib.hid hc;have HC2:=Lib.hid hc2;clear hc hc2 hv hr
 go_enter Try.func51,Try.ntmps51
 go_wp2
 go_loopw [9] (fun i wr=>∃ k:Nat,i=.int .i64 k∧k≤l.length∧(∀ j (h:j < l.length),j < k→Ei regs own locs l[j]=true)∧Below w.heap.size w wr) (fun i _=>l.length - (intOf i).toNat)
 case atStart=>exact⟨0,rfl,by omega,fun j _ h=>absurd h (by omega),Below.refl _ _⟩
 case round =>
  obtain⟨k,rfl,hk,hall,hb⟩:=hrel
  have Hall:=Lib.hid hall;have HB:=Lib.hid hb
  have hz:=hb.size
  clear hall hb
  by_cases hlt:k < l.length
  ·obtain⟨b,o,rfl,x1,x2,x3,_⟩:=HC.out k hlt
   have y1:=cell_later HB.out x1;have y2:=cell_later HB.out x2;have y3:=cell_later HB.out x3
   clear x1 x2 x3
   obtain⟨x,hx⟩:∃ x,l[k]=x:=⟨_,rfl⟩
   have Hrel:Hid (Ei regs own locs x=true→∀ j (h:j < l.length),j < k+1→Ei regs own locs l[j]=true):=fun hox j h2 h3=>by
    rcases Nat.lt_or_ge j k with h | h
    ·exact Hall.out j h2 h
    ·obtain rfl:j=k:=by omega
     rw[hx];exact hox
   have Hbad:Hid (∀ w',Ei regs own locs x=false→Below w.heap.size w w'→Me l regs own locs w (.returned (.bool false)) w'):=fun w' hox hbb=>A20 hlt (by rw[hx];exact hox) hbb
   rw[hx] at y1 y2 y3
   clear hx
   by_cases c1:x.op=1
   ·have d1:(x.op==1)=true:=Mo c1
    have HE:=Lib.hid (show Ei regs own locs x=inB x.n 10000 by simp only[Ei,c1,if_true])
    cases h:inB x.n 10000
    ·clear c1
     go_wp2_with (first | (go_at_call 47;refine(Iz _ _ _).mono ?_;rintro e w' ⟨rfl,rfl⟩))
     go_ret
     exact Hbad.out _ (by rw[HE.out,h]) (HB.out.alloc hz _)
    ·clear c1
     go_wp2_with (first | (go_at_call 47;refine(Iz _ _ _).mono ?_;rintro e w' ⟨rfl,rfl⟩))
     go_roundw
     case rel=>exact⟨k+1,by go_num,by omega,Hrel.out (by rw[HE.out,h]),HB.out.alloc hz _⟩
     case measure=>simp[intOf];omega
   ·have d1:(x.op==1)=false:=I9 c1
    by_cases c2:x.op=2
    ·have d2:(x.op==2)=true:=Mo c2
     have HE:=Lib.hid (show Ei regs own locs x=inB x.n own by simp[Ei,c2])
     cases h:inB x.n own
     ·clear c1 c2
      go_wp2_with (first | (go_at_call 47;refine(Iz _ _ _).mono ?_;rintro e w' ⟨rfl,rfl⟩))
      go_ret
      exact Hbad.out _ (by rw[HE.out,h]) (HB.out.alloc hz _)
     ·clear c1 c2
      go_wp2_with (first | (go_at_call 47;refine(Iz _ _ _).mono ?_;rintro e w' ⟨rfl,rfl⟩))
      go_roundw
      case rel=>exact⟨k+1,by go_num,by omega,Hrel.out (by rw[HE.out,h]),HB.out.alloc hz _⟩
      case measure=>simp[intOf];omega
    ·have d2:(x.op==2)=false:=I9 c2
     by_cases c3:x.op=3
     ·have d3:(x.op==3)=true:=Mo c3
      have HE:=Lib.hid (show Ei regs own locs x=inB x.n locs by simp[Ei,c3])
      cases h:inB x.n locs
      ·clear c1 c2 c3
       go_wp2_with (first | (go_at_call 47;refine(Iz _ _ _).mono ?_;rintro e w' ⟨rfl,rfl⟩))
       go_ret
       exact Hbad.out _ (by rw[HE.out,h]) (HB.out.alloc hz _)
      ·clear c1 c2 c3
       go_wp2_with (first | (go_at_call 47;refine(Iz _ _ _).mono ?_;rintro e w' ⟨rfl,rfl⟩))
       go_roundw
       case rel=>exact⟨k+1,by go_num,by omega,Hrel.out (by rw[HE.out,h]),HB.out.alloc hz _⟩
       case measure=>simp[intOf];omega
     ·have d3:(x.op==3)=false:=I9 c3
      by_cases c4:x.op=4
      ·have d4:(x.op==4)=true:=Mo c4
       cases ht:inB x.t regs.length
       ·have HE:=Lib.hid (A4q (own:=own) (locs:=locs) c4 ht)
        clear c1 c2 c3 c4
        go_wp2
        go_quiet ((go_at_call 47;exact A4x _ _ _ _))
        go_wp2
        go_ret
        exact Hbad.out _ HE.out (below_drewN (HB.out.alloc hz _) _)
       ·have ht2:=ht
        simp only[inB,A9] at ht2
        obtain⟨t1,t2⟩:=ht2
        obtain⟨tn,htn⟩:=Int.eq_ofNat_of_zero_le t1
        rw[htn] at t2 y3 ht
        have t3:tn < regs.length:=by omega
        obtain⟨b2,o2,rfl,z1,_⟩:=HC2.out tn t3
        have z2:=cell_later HB.out z1
        have HE:=Lib.hid (Agz (own:=own) (locs:=locs) c4 htn t3)
        clear z1 t1 htn
        obtain⟨m,hm⟩:∃ m,regs[tn]=m:=⟨_,rfl⟩
        rw[hm] at z2 HE
        clear hm
        have hb2:b2 < wr.heap.size:=World.block_lt_of_cell? _ _ z2
        have hb3:b2≠wr.heap.size:=by omega
        cases h:inB x.n m
        ·clear c1 c2 c3 c4
         go_wp2
         go_quiet ((go_at_call 47;exact A4x _ _ _ _))
         go_wp2
         go_ret
         exact Hbad.out _ (by rw[HE.out,h]) (below_drewN (HB.out.alloc hz _) _)
        ·clear c1 c2 c3 c4
         go_wp2
         go_quiet ((go_at_call 47;exact A4x _ _ _ _))
         go_wp2
         go_roundw
         case rel=>exact⟨k+1,by go_num,by omega,Hrel.out (by rw[HE.out,h]),below_drewN (HB.out.alloc hz _) _⟩
         case measure=>simp[intOf];omega
      ·have d4:(x.op==4)=false:=I9 c4
       have HE:=Lib.hid (show Ei regs own locs x=true by simp[Ei,c1,c2,c3,c4])
       clear c1 c2 c3 c4
       go_wp2
       go_roundw
       case rel=>exact⟨k+1,by go_num,by omega,Hrel.out HE.out,HB.out.alloc hz _⟩
       case measure=>simp[intOf];omega
  ·have HG:=Lib.hid (X2 (regs:=regs) (own:=own) (locs:=locs) (l:=l) (fun j hj=>Hall.out j hj (by omega)))
   go_wp2_with fail
   refine(Aax l _ _ (HV.out.mono Cf HB.out)).mono ?_
   rintro e w' ⟨rfl,rfl⟩
   go_wp2
   go_ret
   exact⟨by rw[HG.out];rfl,HB.out⟩
end Go.Proofs.Ytpknphnaegfghaa
end
