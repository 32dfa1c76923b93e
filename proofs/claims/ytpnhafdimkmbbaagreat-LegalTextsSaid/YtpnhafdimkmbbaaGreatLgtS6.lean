/- Parts of the proofs: what they lean on. Conditions: none. -/
import Derived.LoopN
import Derived.Test.YtpnhafdimkmbbaaGreatLgtS5
section
namespace Go.Proofs.YtpnhafdimkmbbaaGreat
open Go.RowKit
set_option linter.unusedVariables false
set_option linter.unusedSimpArgs false
def Aek:Ex→Exit
 | .normal=>.normal
 | .exit id=>.exit id
 | .ret=>.ret
def J2 (H:C5) (f:FuncId):Code→Bool
 | .region id ops draw=>Xk H f id ops draw
 | .seq a b=>J2 H f a&&J2 H f b
 | .cond _ a b=>J2 H f a&&J2 H f b
 | .block _ b=>J2 H f b
 | .loop b=>J2 H f b
 | _=>true
section
variable {P:Program} {H:C5} {call:Dw} {f:FuncId} {base fuel:Nat} {ρ:Type}
def Anr (P:Program) (base:Nat) (Q:Exit→Act→World→Prop) (K:Ex→Tm→Hp→Option ρ) (r:ρ) (S:Nat→Nat→Prop) (w:World) (hp:Hp) (φ:List Pl) (a:Act):Prop :=
 ∀ e tm' hp' S' φ' a' w',K e tm' hp'=some r→Reps S' w' hp' φ' tm' a'.tmps.toList→Sim P base S' w' hp' φ'→Trans base S w hp φ S' w' hp' φ'→a'.defers=a.defers→Q (Aek e) a' w'
theorem Acc (hm:P.follows .mixedOrders=true) (hH:Qg P H) (hc:I5 P H call):∀ (c:Code),J2 H f c=true→∀ {r:ρ} {K:Ex→Tm→Hp→Option ρ} {Q:Exit→Act→World→Prop} {S:Nat→Nat→Prop} {w:World} {tm:Tm} {hp:Hp} {φ:List Pl} {a:Act},Sim P base S w hp φ→Reps S w hp φ tm a.tmps.toList→Ti P H call f fuel c tm hp K=some r→Anr P base Q K r S w hp φ a→c.wp P Q a w:=by
 intro c
 induction c with
 | skip=>intro _ r K Q S w tm hp φ a hs ht h hn;exact wp_skip (hn .normal _ _ _ _ _ _ h ht hs (.refl _ _ _ _ _) rfl)
 | region id ops draw =>
  intro hd r K Q S w tm hp φ a hs ht h hn
  rw[Aaz] at h
  split at h
  ·rw[Abn] at h
   exact Yj hm hH hc (by simpa [J2] using hd) hs ht h fun tm' hp' S' φ' a' w' g1 g2 g3 g4 g5=>hn .normal _ _ _ _ _ _ g1 g2 g3 g4 g5
  ·rw[A8r,Abn] at h
   refine Yj hm hH hc (by simpa [J2] using hd) hs ht h fun tm' hp' S' φ' a' w' g1 g2 g3 g4 g5=>?_
   rw[Ep V9] at g1
   exact hn .normal _ _ _ _ _ _ g1 (A3d 0 g2) g3 g4 g5
 | seq x y ihx ihy =>
  intro hd r K Q S w tm hp φ a hs ht h hn
  simp only[J2,Bool.and_eq_true] at hd
  refine wp_seq (ihx hd.1 hs ht h fun e tm' hp' S' φ' a' w' g1 g2 g3 g4 g5=>?_)
  cases e with
  | normal=>exact ihy hd.2 g3 g2 g1 fun e tm'' hp'' S'' φ'' a'' w'' k1 k2 k3 k4 k5=>hn e _ _ _ _ _ _ k1 k2 k3 (g4.trans k4) (k5.trans g5)
  | exit id=>exact hn (.exit id) _ _ _ _ _ _ g1 g2 g3 g4 g5
  | ret=>exact hn .ret _ _ _ _ _ _ g1 g2 g3 g4 g5
 | cond x y z ihy ihz =>
  intro hd r K Q S w tm hp φ a hs ht h hn
  simp only[J2,Bool.and_eq_true] at hd
  rw[Ag9] at h
  have hx:=A7h ht x
  cases hb:ev tm x<;>rw[hb] at h<;>simp only at h<;>first | (cases h;done) | skip
  rename_i t
  rw[hb] at hx
  have hbe:=hx.bool_inv
  cases t with
  | true=>exact wp_cond_true hbe (ihy hd.1 hs ht h hn)
  | false=>exact wp_cond_false hbe (ihz hd.2 hs ht h hn)
 | block id y ih =>
  intro hd r K Q S w tm hp φ a hs ht h hn
  simp only[J2] at hd
  refine wp_block (ih hd hs ht h fun e tm' hp' S' φ' a' w' g1 g2 g3 g4 g5=>?_)
  cases e with
  | normal=>exact hn .normal _ _ _ _ _ _ g1 g2 g3 g4 g5
  | ret=>exact hn .ret _ _ _ _ _ _ g1 g2 g3 g4 g5
  | exit k =>
   simp only at g1
   simp only[Aek,Exit.inBlock]
   by_cases hk:k=id
   ·rw[decide_eq_true hk] at g1
    rw[if_pos hk]
    exact hn .normal _ _ _ _ _ _ g1 g2 g3 g4 g5
   ·rw[decide_eq_false hk] at g1
    rw[if_neg hk]
    exact hn (.exit k) _ _ _ _ _ _ g1 g2 g3 g4 g5
 | loop y ih =>
  intro hd r K Q S w tm hp φ a hs ht h hn
  simp only[J2] at hd
  rw[Aem] at h
  simp only[Bj,Ep V9] at h
  obtain⟨φ1,hs1,tr1⟩:=Yl (H.ups f) hs
  generalize hhp1:Ro P (H.ups f) hp=hp1 at *
  have hle:hp.length≤hp1.length∧φ.length=hp.length:=by
   refine⟨?_,hs.len⟩
   rw[← hhp1]
   cases H.ups f with
   | false=>exact Nat.le_refl _
   | true=>simp[Ro,(A0j (P:=P) hp hp.length).1]
  have ht1:=Reps.mono tr1.s ht tr1.hp
  have ht2:=A2e (h0:=hp1.length) (keep:=H.keep f (Qq y) 0) hs1 ht1 0
  have hs2:=hs1.wane (h0:=hp1.length)
  have tr2:=tr1.wane (h0:=hp1.length) hs1 hle.1 hle.2
  have key:∀ (n:Nat) (S1:Nat→Nat→Prop) (w1:World) (tm1:Tm) (hp2:Hp) (φ2:List Pl) (a1:Act),Sim P base S1 w1 hp2 φ2→Reps S1 w1 hp2 φ2 tm1 a1.tmps.toList→Trans base S w hp φ S1 w1 hp2 φ2→a1.defers=a.defers→rounds (Ti P H call f fuel y) (H.keep f (Qq y)) hp1.length n tm1 hp2 K=some r→Code.rounds P y Q n a1 w1:=by
   intro n
   induction n with
   | zero=>intro S1 w1 tm1 hp2 φ2 a1 _ _ _ _ h;simp[rounds] at h
   | succ n ihn =>
    intro S1 w1 tm1 hp2 φ2 a1 k1 k2 k3 k4 h
    rw[rounds_succ]
    rw[rounds] at h
    refine ih hd k1 k2 h fun e tm' hp' S' φ' a' w' g1 g2 g3 g4 g5=>?_
    simp only[Bj,Ep V9] at g1
    have tr:=k3.trans g4
    have t1:=A2e (h0:=hp1.length) (keep:=H.keep f (Qq y) (A1z e)) g3 g2 0
    have t2:=g3.wane (h0:=hp1.length)
    have t3:=tr.wane (h0:=hp1.length) g3 hle.1 hle.2
    cases e with
    | normal=>exact ihn _ _ _ _ _ a' t2 t1 t3 (g5.trans k4) g1
    | exit id=>exact hn (.exit id) _ _ _ _ _ _ g1 t1 t2 t3 (g5.trans k4)
    | ret=>exact hn .ret _ _ _ _ _ _ g1 t1 t2 t3 (g5.trans k4)
  exact wp_loop_rounds fuel (key fuel _ _ _ _ _ a hs2 ht2 tr2 rfl h)
 | exit id=>intro _ r K Q S w tm hp φ a hs ht h hn;exact wp_exit (hn (.exit id) _ _ _ _ _ _ h ht hs (.refl _ _ _ _ _) rfl)
 | ret=>intro _ r K Q S w tm hp φ a hs ht h hn;exact wp_ret (hn .ret _ _ _ _ _ _ h ht hs (.refl _ _ _ _ _) rfl)
 | _=>intros;rename_i h _;cases h
def Zm (tmps:Array Value):ResultVar→Sem Value
 | .tmp t=>pure (tmps.getD t undef)
 | .cell a t=>do loadVar t (← asAddr (tmps.getD a undef))
theorem Adw {S:Nat→Nat→Prop} {w:World} {tm:Tm} {hp:Hp} {φ:List Pl} {tmps:Array Value} {r:ρ} (hs:Sim P base S w hp φ) (ht:Reps S w hp φ tm tmps.toList):∀ (rs:List ResultVar) (C:List AV→Option ρ),A3o P tm hp C rs=some r →
 ∃ vs us,C vs=some r∧(rs.mapM (Zm tmps)).run P w=.ok us w∧Reps S w hp φ vs us:=by
 have at':∀ t,Rep S w hp φ (nth .junk tm t) (tmps.getD t undef):=fun t=>A7h (a:=⟨tmps,[]⟩) ht (.tmp t)
 intro rs
 induction rs with
 | nil=>intro C h;exact⟨[],[],h,by simp,.nil _ _⟩
 | cons q rs ih =>
  intro C h
  cases q with
  | tmp t =>
   simp only[A3o] at h
   obtain⟨vs,us,h1,h2,h3⟩:=ih _ h
   refine⟨_,tmps.getD t undef :: us,h1,?_,.cons _ _ _ _ _ _ (at' t) h3⟩
   rw[List.mapM_cons]
   simp only[Zm,Sem.run_bind,Sem.run_pure,Result.andThen_ok,h2]
  | cell t ty =>
   simp only[A3o] at h
   obtain⟨ad,v,u,he,h1,h2,h3⟩:=Aa4 hs (at' t) h
   obtain⟨vs,us,g1,g2,g3⟩:=ih _ h1
   refine⟨_,u :: us,g1,?_,.cons _ _ _ _ _ _ h3 g3⟩
   rw[List.mapM_cons]
   simp only[Zm,he,asAddr,Sem.run_bind,Sem.run_pure,Result.andThen_ok,h2,g2]
def Ajh:List Value→Value
 | [u]=>u
 | us=>.tuple us.toArray
theorem Aat {fn:Func} {tmps:Array Value} {w:World} {us:List Value} (h:(fn.results.toList.mapM (Zm tmps)).run P w=.ok us w):(results fn tmps).run P w=.ok (Ajh us) w:=by
 have e:results fn tmps=(do let vs ← fn.results.mapM (Zm tmps);pure (if h:vs.size=1 then vs[0] else .tuple vs)):=by
  unfold results
  congr 2
 rw[e,Array.mapM_eq_mapM_toList]
 simp only[Sem.run_bind,Sem.run_map,h,Result.andThen_ok,Sem.run_pure]
 congr 1
 match us with
 | []=>rfl
 | [u]=>rfl
 | u :: u2 :: us=>simp[Ajh]
theorem Sim.normed {S0:Nat→Nat→Prop} {w0:World} {hp0:Hp} {φ0:List Pl} {S:Nat→Nat→Prop} {w:World} {hp:Hp} {φ:List Pl} {v:AV} {u:Value} (hs:Sim P base S w hp φ) (ht:Trans base S0 w0 hp0 φ0 S w hp φ) (hv:Rep S w hp φ v u):Sim P base S w (hp.map (Q2 P)) φ∧Trans base S0 w0 hp0 φ0 S w (hp.map (Q2 P)) φ∧Rep S w (hp.map (Q2 P)) φ v u:=by
 have hat:∀ id,(hp.map (Q2 P))[id]?=(hp[id]?).map (Q2 P):=fun id=>List.getElem?_map ..
 have hE:HpExt hp φ (hp.map (Q2 P)) φ:=by
  refine⟨fun _ _ _ h=>h,fun id size els h=>⟨els,?_,rfl⟩,fun id e size els h=>⟨[],?_,fun _ v hv=>hv⟩,fun id ver e size els h=>⟨ver,els,?_,Nat.le_refl _,fun _=>⟨rfl,rfl⟩⟩⟩
  ·rw[nth?_eq] at h ⊢;rw[hat,h];rfl
  ·rw[nth?_eq] at h ⊢;rw[hat,h,List.append_nil];rfl
  ·rw[nth?_eq] at h ⊢;rw[hat,h];rfl
 refine⟨⟨by rw[List.length_map];exact hs.len,hs.low,hs.cell,fun id o ho=>?_,hs.apart⟩,ht.trans ⟨.refl _ _,hE,.refl _ _,fun _ _ h=>.inl h,fun _ _ h=>.inl h,Ki,fun _ _=>rfl⟩,Rep.mono (.refl _ _) hv hE⟩
 rw[hat] at ho
 cases hq:hp[id]? with
 | none=>rw[hq] at ho;cases ho
 | some o' =>
  rw[hq] at ho
  rw[← Option.some.inj ho]
  have:=(hs.obj id o' hq).keep (S':=S) (w':=w) (.refl _ _) hE rfl fun b hb=>⟨rfl,fun _=>.rfl⟩
  cases o' with
  | var t cs =>
   obtain⟨b,vs,E,g1,g2,g3,g4,g5,g6⟩:=this
   exact⟨b,vs,E,g1,g2,g3,R1 g4,g5,g6⟩
  | _=>exact this
theorem Aig (hm:P.follows .mixedOrders=true) (hH:Qg P H) (hc:I5 P H call) (hd:∀ g fn c,H.plain.contains g=true→P.funcs[g]?=some fn→fn.body=some c→J2 H g c=true) {g:FuncId} {args:List AV} {hp:Hp} {v:AV} {hp':Hp} {stay:Bool} (h:A04 P H call fuel stay g args hp=some (v,hp'))
 {S:Nat→Nat→Prop} {w:World} {φ:List Pl} {vs:List Value} (hs:Sim P base S w hp φ) (hr:Reps S w hp φ args vs):Calls P g vs.toArray w fun e w'=>∃ u S' φ',e=.returned u∧Rep S' w' hp' φ' v u∧Sim P base S' w' hp' φ'∧Trans base S w hp φ S' w' hp' φ':=by
 unfold A04 at h
 cases hf:P.funcs[g]? with
 | none=>rw[hf] at h;cases h
 | some fn =>
  rw[hf] at h
  simp only at h
  cases hb:fn.body with
  | none=>rw[hb] at h;cases h
  | some c =>
   rw[hb] at h
   simp only at h
   split at h
   ·rename_i hq
    simp only[Bool.and_eq_true,decide_eq_true_eq] at hq
    refine calls_of_wp hf hb ?_
    have hlen:=hr.length
    have hund:∀ n,Reps S w hp φ (List.replicate n .junk) (List.replicate n undef):=by
     intro n
     induction n with
     | zero=>exact .nil _ _
     | succ n ih=>exact .cons _ _ _ _ _ _ (.junk _ _ _) ih
    refine Acc hm hH hc c (hd g fn c hq.1 hf hb) (a:=⟨vs.toArray++Array.replicate (fn.ntmps - vs.toArray.size) undef,[]⟩) hs ?_ h ?_
    ·simp only[Array.toList_append,Array.toList_replicate,List.size_toArray,← hlen]
     exact hr.append (hund _)
    ·intro e tm' hp1 S' φ' a' w' g1 g2 g3 g4 g5
     have fin:A8x P fn tm' hp1 (fun v=>A73 P stay hp.length v hp1)=some (v,hp')→a'.defers=[]∧∃ u,(results fn a'.tmps).run P w'=.ok u w'∧∃ u' S' φ',Ending.returned u=.returned u'∧Rep S' w' hp' φ' v u'∧Sim P base S' w' hp' φ'∧Trans base S w hp φ S' w' hp' φ':=by
      intro hres
      refine⟨g5,?_⟩
      obtain⟨as,us,r1,r2,r3⟩:=Adw g3 g2 fn.results.toList _ hres
      have fin2:∀ (x:AV) (u:Value),Rep S' w' hp1 φ' x u→(results fn a'.tmps).run P w'=.ok u w'→(A73 P stay hp.length x hp1)=some (v,hp')→∃ u,(results fn a'.tmps).run P w'=.ok u w'∧∃ u' S' φ',Ending.returned u=.returned u'∧Rep S' w' hp' φ' v u'∧Sim P base S' w' hp' φ'∧Trans base S w hp φ S' w' hp' φ':=by
       intro x u hx hrun he
       unfold A73 at he
       split at he
       ·cases he
        exact⟨u,hrun,u,_,_,rfl,hx,g3,g4⟩
       ·cases he
        obtain⟨n1,n2,n3⟩:=(g3.wane (h0:=hp.length)).normed (g4.wane g3 (Nat.le_refl _) hs.len) (A7w g3 hx)
        exact⟨u,hrun,u,_,_,rfl,n3,n1,n2⟩
      have hrun:=Aat r2
      clear r2
      match as,us,r1,r3,hrun with
      | [],[],r1,r3,hrun=>exact fin2 _ _ (.tup _ _ _ _ (Kp r3)) hrun r1
      | [x],[u],r1,r3,hrun=>cases r3 with | cons _ _ _ _ _ _ hx _=>exact fin2 _ _ (Aa7 hx) hrun r1
      | x :: y :: l,u :: u2 :: us,r1,r3,hrun=>exact fin2 _ _ (.tup _ _ _ _ (Kp r3)) hrun r1
     cases e with
     | exit id=>cases g1
     | normal=>exact fin g1
     | ret=>exact fin g1
   ·cases h
end
def V7 (P:Program) (X:Ext):Prop:=∀ (g:FuncId) (k:List AV→Option AV),X g=some k→∀ (args:List AV) (v:AV),k args=some v→∀ (S:Nat→Nat→Prop) (w:World) (vs:List Value),(∀ b o,S b o→∃ u,stay w b o=some u)→Reps S w [] [] args vs →
 Calls P g vs.toArray w fun e w'=>∃ u S',e=.returned u∧Rep S' w' [] [] v u∧(∀ b o,S' b o→∃ u,stay w' b o=some u∧(w.heap.size≤b→u.2.2=(0,0)))∧SExt S w S' w'∧(∀ b o,S' b o→S b o∨w.heap.size≤b)∧Below w.heap.size w w'
theorem A0s {P:Program} {H:C5} {X:Ext} (hm:P.follows .mixedOrders=true) (hH:Qg P H) (hX:V7 P X) (hd:∀ g fn c,H.plain.contains g=true→P.funcs[g]?=some fn→fn.body=some c→J2 H g c=true):∀ n,I5 P H (Ss P H X n)
 | 0=>fun st g args hp v hp' h=>by simp[Ss] at h
 | n+1=>by
  have ih:=A0s hm hH hX hd n
  intro st g args hp v hp' h base S w φ vs hs hr
  simp only[Ss] at h
  cases hx:X g with
  | none =>
   rw[hx] at h
   exact Aig hm hH ih hd h hs hr
  | some k =>
   rw[hx] at h
   cases hp with
   | cons _ _=>cases h
   | nil =>
    simp only at h
    cases hk:k args with
    | none=>rw[hk] at h;cases h
    | some u =>
     rw[hk] at h;cases h
     have hφ:φ=[]:=List.eq_nil_of_length_eq_zero hs.len
     subst hφ
     refine(hX g k hx args v hk S w vs (fun b o h=>let ⟨u,hu,_⟩:=hs.cell b o h;⟨u,hu⟩) hr).mono ?_
     rintro e w' ⟨u,S',rfl,h1,h2,h3,h4,h5⟩
     exact⟨u,S',[],rfl,h1,⟨rfl,Nat.le_trans hs.low h5.size,fun b o h=>(by
      obtain⟨v,hv,hf⟩:=h2 b o h
      refine⟨v,hv,fun hb=>?_⟩
      rcases h4 b o h with h' | h'
      ·obtain⟨u,hu,hf'⟩:=hs.cell b o h'
       have:=(h3 b o h').2
       rw[hv,hu] at this
       cases this
       exact hf' hb
      ·exact hf h'),fun id o ho=>by simp at ho,fun i j b hi=>by simp[Az] at hi⟩,⟨h3,.refl _ _,h5.mono hs.low,fun b o h=>(h4 b o h).elim .inl fun h=>.inr (Nat.le_trans hs.low h),fun b o h=>(h4 b o h).elim .inl fun h=>.inr (.inr h),fun i b h=>by simp[Az] at h,fun b h=>h5.block b (Jw h).1⟩⟩
end Go.Proofs.YtpnhafdimkmbbaaGreat
end
