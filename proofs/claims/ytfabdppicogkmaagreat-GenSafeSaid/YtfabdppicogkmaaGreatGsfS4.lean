/- Parts of the proofs: what they lean on. Conditions: none. -/
import Derived.MapKept
import Derived.WideMake
import Derived.Test.YtfabdppicogkmaaGreatGsfS3
section
namespace Go.Proofs.YtfabdppicogkmaaGreat
open Go.RowKit
set_option linter.unusedVariables false
set_option linter.unusedSimpArgs false
def Tq (d:TypeDesc):Option IntKind→Prop
 | some k=>d=.int k
 | none=>d=.string
theorem Aq6 {P:Program} {kt:TypeId} {kd:Option IntKind} (h:Ae8 P kt=some kd):∃ d,P.underlying kt=some d∧Tq d kd:=by
 unfold Ae8 at h
 split at h
 ·rename_i k hu;cases h;exact⟨_,hu,rfl⟩
 ·rename_i hu;cases h;exact⟨_,hu,rfl⟩
 ·cases h
theorem Vy {P:Program} {kt:TypeId} {kd:Option IntKind} {k:AV} (h:W8 P kt kd k=true):(∃ d,P.underlying kt=some d∧Tq d kd)∧Mu k=some kd:=by
 unfold W8 at h
 simp only[A8,Ai] at h
 exact⟨Aq6 h.1,h.2⟩
section
variable {S:Nat→Nat→Prop} {w:World} {hp:Hp} {φ:List Pl}
theorem R5 {k:AV} {kd:Option IntKind} (h:Mu k=some kd):(∃ q n,k=.int q n∧kd=some q)∨∃ s,k=.str s∧kd=none:=by
 cases k<;>simp[Mu] at h
 ·rename_i q n;exact .inl ⟨q,n,rfl,h.symm⟩
 ·rename_i s;exact .inr ⟨s,rfl,h.symm⟩
theorem Ve {k:AV} {kd:Option IntKind} {d:TypeDesc} {kv:Value} (hd:Tq d kd) (h:Mu k=some kd) (hr:Rep S w hp φ k kv):MapKept.IsKey d kv:=by
 rcases R5 h with ⟨q,n,rfl,rfl⟩ | ⟨s,rfl,rfl⟩
 ·obtain⟨rfl,_⟩:=hr.int_inv
  rw[show d=.int q from hd];rfl
 ·obtain⟨rfl,_⟩:=hr.str_inv
  rw[show d=.string from hd];trivial
theorem Apo {s u:List UInt8} (h:bs s=bs u):s=u:=by
 have:=congrArg (fun x:ByteArray=>x.data.toList) h
 simpa [bs] using this
theorem A7v {k ka:AV} {kd:Option IntKind} {d:TypeDesc} {kv xv:Value} {va:AV} (hd:Tq d kd) (h:Mu k=some kd) (hr:Rep S w hp φ k kv) (he:Rr kd [ka,va]) (hx:Rep S w hp φ ka xv):Instr.sameNow d kv xv=some (K2 k ka)∧(K2 k ka=true→xv=kv∧ka=k):=by
 have hk1:=Ve hd h hr
 rcases R5 h with ⟨q,n,rfl,rfl⟩ | ⟨s,rfl,rfl⟩
 ·obtain⟨rfl,_⟩:=hr.int_inv
  obtain⟨m,v,e⟩:=he
  injection e with e1 e2
  subst e1
  obtain⟨r,h1,h2⟩:=MapKept.sameNow_of_keys hk1 (Ve (k:=.int q m) hd rfl hx)
  obtain⟨rfl,_⟩:=hx.int_inv
  have e:r=K2 (.int q n) (.int q m):=by
   rw[Bool.eq_iff_iff,h2];simp[K2]
  rw[h1,e]
  exact⟨rfl,fun hb=>by simp[K2] at hb;subst hb;exact⟨rfl,rfl⟩⟩
 ·obtain⟨rfl,_⟩:=hr.str_inv
  obtain⟨u,v,e⟩:=he
  injection e with e1 e2
  subst e1
  obtain⟨r,h1,h2⟩:=MapKept.sameNow_of_keys hk1 (Ve (k:=.str u) hd rfl hx)
  obtain⟨rfl,_⟩:=hx.str_inv
  have e:r=K2 (.str s) (.str u):=by
   rw[Bool.eq_iff_iff,h2]
   simp only[K2,beq_iff_eq,Value.string.injEq]
   exact⟨fun h=>Apo h,fun h=>by rw[h]⟩
  rw[h1,e]
  exact⟨rfl,fun hb=>by simp[K2] at hb;subst hb;exact⟨rfl,rfl⟩⟩
theorem U1 {el:List AV} {l:List (List AV)} {L:List MapEntry} (h:Ropen S w hp φ (el :: l) (L.map Ix)):∃ x L',L=x :: L'∧Reps S w hp φ el [x.key,x.val]∧E5 [x.key,x.val]∧Ropen S w hp φ l (L'.map Ix):=by
 cases L with
 | nil=>cases h
 | cons x L'=>cases h with | cons _ _ _ _ _ _ h h1 t=>exact⟨x,L',rfl,h,h1,t⟩
theorem A0x {a b:AV} {x y:Value} (h:Reps S w hp φ [a,b] [x,y]):Rep S w hp φ a x∧Rep S w hp φ b y:=by
 cases h with | cons _ _ _ _ _ _ h t=>cases t with | cons _ _ _ _ _ _ h2 _=>exact⟨h,h2⟩
theorem Z8 {kd:Option IntKind} {el:List AV} (h:Rr kd el):∃ ka va,el=[ka,va]:=by
 unfold Rr at h
 cases kd with
 | some k=>obtain⟨n,v,rfl⟩:=h;exact⟨_,_,rfl⟩
 | none=>obtain⟨s,v,rfl⟩:=h;exact⟨_,_,rfl⟩
theorem Yl {d:TypeDesc} {kd:Option IntKind} (hd:Tq d kd) {k:AV} {kv:Value} (hk:Mu k=some kd) (hr:Rep S w hp φ k kv) (z:AV):∀ (els:List (List AV)) (L:List MapEntry) (i0:Nat),KeysAV kd els→Ropen S w hp φ els (L.map Ix) →
 (Ga els k=true∧∃ x,L[Fu els k]?=some x∧x.key=kv∧Instr.findNow d kv L i0=some (some (i0+Fu els k,x.val))∧Rep S w hp φ (Gj z els k) x.val∧x.val.oneCell'=true) ∨
 (Ga els k=false∧Instr.findNow d kv L i0=some none∧Gj z els k=z∧Fu els k=els.length):=by
 intro els
 induction els with
 | nil =>
  intro L i0 _ ho
  cases L with
  | nil=>exact .inr ⟨rfl,rfl,rfl,rfl⟩
  | cons x L=>cases ho
 | cons el l ih =>
  intro L i0 hks ho
  obtain⟨x,L',rfl,h1,h2,h3⟩:=U1 ho
  have he:=hks el (List.mem_cons_self ..)
  obtain⟨ka,va,rfl⟩:=Z8 he
  obtain⟨r1,r2⟩:=A0x h1
  obtain⟨s1,s2⟩:=A7v hd hk hr he r1
  cases hb:K2 k ka with
  | true =>
   rw[hb] at s1
   obtain⟨e1,e2⟩:=s2 hb
   refine .inl ⟨by simp[Ga,hb],x,by simp[Fu,hb],e1,by simp[Instr.findNow,s1,Fu,hb],by simp only[Gj,hb,As];exact r2,h2 x.val (by simp)⟩
  | false =>
   rw[hb] at s1
   rcases ih L' (i0+1) (fun e h=>hks e (List.mem_cons_of_mem _ h)) h3 with ⟨g1,y,g2,g3,g4,g5,g6⟩ | ⟨g1,g2,g3,g4⟩
   ·refine .inl ⟨by simp[Ga,hb,g1],y,by simp[Fu,hb,g2],g3,?_,by simp only[Gj,hb,B3];exact g5,g6⟩
    simp only[Instr.findNow,s1,Fu,hb,B3]
    rw[g4,Nat.add_assoc,Nat.add_comm 1]
   ·refine .inr ⟨by simp[Ga,hb,g1],by simp only[Instr.findNow,s1];exact g2,by simp[Gj,hb,g3],by simp[Fu,hb,g4]⟩
theorem Repss.toOpen {l:List (List AV)} {vss:List (List Value)} (h:Repss S w l vss):Ropen S w [] [] l vss:=h.open
theorem Ropen.closed {l:List (List AV)} {vss:List (List Value)} (h:Ropen S w [] [] l vss):Repss S w l vss:=by
 induction l generalizing vss with
 | nil=>cases h;exact .nil
 | cons a t ih=>cases h with | cons _ _ _ vs _ _ h h1 t=>exact .cons _ _ _ _ h h1 (ih t)
theorem Acs {k:AV} {kd:Option IntKind} {kv:Value} (hk:Mu k=some kd) (hr:Rep S w hp φ k kv):kv.oneCell'=true:=by
 rcases R5 hk with ⟨q,n,rfl,rfl⟩ | ⟨s,rfl,rfl⟩
 ·exact hr.oneCell rfl
 ·exact hr.oneCell rfl
theorem Ac4 {k v:AV} {kd:Option IntKind} (hk:Mu k=some kd):Rr kd [k,v]:=by
 rcases R5 hk with ⟨q,n,rfl,rfl⟩ | ⟨s,rfl,rfl⟩
 ·exact⟨n,v,rfl⟩
 ·exact⟨s,v,rfl⟩
theorem Acc {k v v':AV} {kd:Option IntKind} (h:Rr kd [k,v]):Rr kd [k,v']:=by
 unfold Rr at h ⊢
 cases kd with
 | some q=>obtain⟨n,u,e⟩:=h;injection e with e1 e2;exact⟨n,v',by rw[e1]⟩
 | none=>obtain⟨n,u,e⟩:=h;injection e with e1 e2;exact⟨n,v',by rw[e1]⟩
theorem Ao1 {d:TypeDesc} {kd:Option IntKind} (hd:Tq d kd) {k v:AV} {kv nv:Value} (hk:Mu k=some kd) (hr:Rep S w hp φ k kv) (hv:Rep S w hp φ v nv) (hv1:nv.oneCell'=true):∀ (els:List (List AV)) (L:List MapEntry),KeysAV kd els→Ropen S w hp φ els (L.map Ix) →
 KeysAV kd (Mx els k v)∧(Ga els k=true→Ropen S w hp φ (Mx els k v) ((L.modify (Fu els k) fun e=>{ e with key:=kv,val:=nv }).map Ix))∧(Ga els k=false→∀ b,Ropen S w hp φ (Mx els k v) ((L++([⟨kv,nv,b⟩]:List MapEntry)).map Ix)):=by
 have h1:=Acs hk hr
 have ones:E5 [kv,nv]:=fun u hu=>by
  rcases List.mem_cons.1 hu with rfl | hu
  ·exact h1
  ·obtain rfl:=List.mem_singleton.1 hu;exact hv1
 intro els
 induction els with
 | nil =>
  intro L _ ho
  cases L with
  | nil =>
   refine⟨fun el he=>?_,fun h=>by simp[Ga] at h,fun _ b=>.cons _ _ _ _ _ _ (.cons _ _ _ _ _ _ hr (.cons _ _ _ _ _ _ hv (.nil _ _))) ones (.nil _ _)⟩
   obtain rfl:=List.mem_singleton.1 he
   exact Ac4 hk
  | cons x L=>cases ho
 | cons el l ih =>
  intro L hks ho
  obtain⟨x,L',rfl,g1,g2,g3⟩:=U1 ho
  have he:=hks el (List.mem_cons_self ..)
  obtain⟨ka,va,rfl⟩:=Z8 he
  obtain⟨r1,r2⟩:=A0x g1
  obtain⟨s1,s2⟩:=A7v hd hk hr he r1
  obtain⟨i1,i2,i3⟩:=ih L' (fun e h=>hks e (List.mem_cons_of_mem _ h)) g3
  cases hb:K2 k ka with
  | true =>
   obtain⟨e1,e2⟩:=s2 hb
   simp only[Mx,Ga,Fu,hb,As]
   refine⟨fun e h=>?_,fun _=>?_,fun h=>by simp at h⟩
   ·rcases List.mem_cons.1 h with rfl | h
    ·exact Acc he
    ·exact hks e (List.mem_cons_of_mem _ h)
   ·simp only[List.modify_zero_cons,List.map_cons]
    exact .cons _ _ _ _ _ _ (.cons _ _ _ _ _ _ (e1 ▸ r1) (.cons _ _ _ _ _ _ hv (.nil _ _))) ones g3
  | false =>
   simp only[Mx,Ga,Fu,hb,B3]
   refine⟨fun e h=>?_,fun h=>?_,fun h b=>?_⟩
   ·rcases List.mem_cons.1 h with rfl | h
    ·exact he
    ·exact i1 e h
   ·simp only[List.modify_succ_cons,List.map_cons]
    exact .cons _ _ _ _ _ _ g1 g2 (i2 h)
   ·simp only[List.cons_append,List.map_cons]
    exact .cons _ _ _ _ _ _ g1 g2 (i3 h b)
theorem Alz {d:TypeDesc} {kd:Option IntKind} (hd:Tq d kd) {k z:AV} {kv zv:Value} (hk:Mu k=some kd) (hr:Rep S w hp φ k kv) (hz:Rep S w hp φ z zv) (hz1:zv.oneCell'=true):∀ (els:List (List AV)) (L:List MapEntry),KeysAV kd els→Ropen S w hp φ els (L.map Ix) →
 KeysAV kd (Mt z els k)∧(Ga els k=true→Mt z els k=els)∧(Ga els k=false→∀ b,Ropen S w hp φ (Mt z els k) ((L++([⟨kv,zv,b⟩]:List MapEntry)).map Ix)):=by
 have h1:=Acs hk hr
 have ones:E5 [kv,zv]:=fun u hu=>by
  rcases List.mem_cons.1 hu with rfl | hu
  ·exact h1
  ·obtain rfl:=List.mem_singleton.1 hu;exact hz1
 intro els
 induction els with
 | nil =>
  intro L _ ho
  cases L with
  | nil =>
   refine⟨fun el he=>?_,fun h=>by simp[Ga] at h,fun _ b=>.cons _ _ _ _ _ _ (.cons _ _ _ _ _ _ hr (.cons _ _ _ _ _ _ hz (.nil _ _))) ones (.nil _ _)⟩
   obtain rfl:=List.mem_singleton.1 he
   exact Ac4 hk
  | cons x L=>cases ho
 | cons el l ih =>
  intro L hks ho
  obtain⟨x,L',rfl,g1,g2,g3⟩:=U1 ho
  have he:=hks el (List.mem_cons_self ..)
  obtain⟨ka,va,rfl⟩:=Z8 he
  obtain⟨i1,i2,i3⟩:=ih L' (fun e h=>hks e (List.mem_cons_of_mem _ h)) g3
  cases hb:K2 k ka with
  | true =>
   simp only[Mt,Ga,hb,As]
   exact⟨hks,by simp,fun h=>by simp at h⟩
  | false =>
   simp only[Mt,Ga,hb,B3]
   refine⟨fun e h=>?_,fun h=>by rw[i2 h],fun h b=>?_⟩
   ·rcases List.mem_cons.1 h with rfl | h
    ·exact he
    ·exact i1 e h
   ·simp only[List.cons_append,List.map_cons]
    exact .cons _ _ _ _ _ _ g1 g2 (i3 h b)
theorem Anc {kd:Option IntKind} {v:AV} {nv:Value} (hv:Rep S w hp φ v nv) (hv1:nv.oneCell'=true):∀ (els:List (List AV)) (L:List MapEntry) (n:Nat),KeysAV kd els→Ropen S w hp φ els (L.map Ix) →
 KeysAV kd (Ru els n v)∧Ropen S w hp φ (Ru els n v) ((L.modify n fun e=>{ e with val:=nv }).map Ix):=by
 intro els
 induction els with
 | nil =>
  intro L n hks ho
  cases L with
  | nil=>cases n<;>exact⟨hks,.nil _ _⟩
  | cons x L=>cases ho
 | cons el l ih =>
  intro L n hks ho
  obtain⟨x,L',rfl,g1,g2,g3⟩:=U1 ho
  have he:=hks el (List.mem_cons_self ..)
  obtain⟨ka,va,rfl⟩:=Z8 he
  obtain⟨r1,r2⟩:=A0x g1
  cases n with
  | zero =>
   refine⟨fun e h=>?_,?_⟩
   ·rcases List.mem_cons.1 h with rfl | h
    ·exact Acc he
    ·exact hks e (List.mem_cons_of_mem _ h)
   ·simp only[Ru,List.modify_zero_cons,List.map_cons]
    refine .cons _ _ _ _ _ _ (.cons _ _ _ _ _ _ r1 (.cons _ _ _ _ _ _ hv (.nil _ _))) (fun u hu=>?_) g3
    rcases List.mem_cons.1 hu with rfl | hu
    ·exact g2 _ (by simp)
    ·obtain rfl:=List.mem_singleton.1 hu;exact hv1
  | succ n =>
   obtain⟨i1,i2⟩:=ih L' n (fun e h=>hks e (List.mem_cons_of_mem _ h)) g3
   refine⟨fun e h=>?_,?_⟩
   ·rcases List.mem_cons.1 h with rfl | h
    ·exact he
    ·exact i1 e h
   ·simp only[Ru,List.modify_succ_cons,List.map_cons]
    exact .cons _ _ _ _ _ _ g1 g2 i2
end
section
variable {S:Nat→Nat→Prop} {w:World} {hp:Hp} {φ:List Pl} {P:Program} {base:Nat} {e:Operand→Value} {o:Oper} {tm:Tm} {ρ:Type} {r:ρ} {K:AV→Option ρ}
theorem Vz {t:TypeId} {kt et:TypeId} (h:Sa P t=some (kt,et)):P.underlying t=some (.map kt et):=by
 unfold Sa at h
 split at h
 ·rename_i k e hu;cases h;exact hu
 ·cases h
theorem Wk {t:TypeId} {z:AV} (h:zero P t=some z):∃ v,(zeroValue t).run P w=.ok v w∧Rep S w hp φ z v∧(z.one=true→v.oneCell'=true):=by
 obtain⟨i,v,hi,hzv,rfl⟩:=Ms h
 have hr:Rep S w hp φ (lit v) v:=Oj v
 exact⟨v,by simp[zeroValue,typeInfo,hi,hzv],hr,fun h1=>hr.oneCell h1⟩
theorem Ar1 (hs:Sim P base S w hp φ) {m:AV} {mv:Value} (hm:Rep S w hp φ m mv) {kd:Option IntKind} {els:List (List AV)} (h:Ke hp m=some (kd,els)) :
 (mv=.map none∧els=[])∨∃ b es,mv=.map (some b)∧w.heap[b]?=some (.map es es.size)∧KeysAV kd els∧Ropen S w hp φ els (es.toList.map Ix):=by
 cases m<;>simp only[Ke] at h<;>first | (cases h;done) | skip
 case mapp id =>
  obtain⟨b,hb,rfl⟩:=hm.mapp_inv
  cases hob:nth? hp id with
  | none=>rw[hob] at h;cases h
  | some ob =>
   rw[hob] at h
   rw[nth?_eq] at hob
   have hok:=hs.obj id ob hob
   cases ob<;>simp only at h<;>first | (cases h;done) | skip
   case mp kd' frz els' =>
    cases h
    obtain⟨b',vss,es,g1,g2,g3,g4,⟨⟨rfl,g5⟩,g6⟩,g7⟩:=hok
    rw[hb] at g1;cases g1
    exact .inr ⟨b,es,rfl,g3,g6,g4.open⟩
   case mpo kd' els' =>
    cases h
    obtain⟨b',vss,es,g1,g2,g3,g4,⟨⟨rfl,g5⟩,g6⟩,g7⟩:=hok
    rw[hb] at g1;cases g1
    exact .inr ⟨b,es,rfl,g3,g6,g4⟩
 case mcl kd' els' =>
  cases h
  cases hm with
  | mcln=>exact .inl ⟨rfl,rfl⟩
  | mcl _ _ _ _ vss b es hr he hk hS hw=>obtain⟨rfl,_⟩:=he;exact .inr ⟨b,es,rfl,hw,hk,hr.open⟩
 case mfn kd' els' =>
  cases h
  obtain⟨vss,b,es,h1,⟨rfl,_⟩,hk,h3,h4,rfl⟩:=hm.mfn_inv
  exact .inr ⟨b,es,rfl,h4,hk,h1⟩
theorem Aah (hs:Sim P base S w hp φ) (ht:∀ x,Rep S w hp φ (ev tm x) (e x)) {t:TypeId} {m x:Operand} {ok:Bool} (ho:o.op=.lookup t m x ok) (h:Ok P hp t (ev tm m) (ev tm x) ok K=some r):∃ v,K v=some r∧Gives P S w hp φ e o v:=by
 rw[Se] at h;unfold Uu at h
 split at h
 ·rename_i kt et hmo
  split at h
  ·rename_i z hz
   split at h
   ·rename_i hz1
    split at h
    ·rename_i kd els hen
     split at h
     ·rename_i hko
      obtain⟨⟨d,hd,hkd⟩,hkk⟩:=Vy hko
      obtain⟨zv,hzr,hzrep,hzo⟩:=Wk (S:=S) (w:=w) (hp:=hp) (φ:=φ) hz
      have hx:=ht x
      have hkey:=Ve hkd hkk hx
      have hmu:=Vz hmo
      have main:∃ v b,Rep S w hp φ (Gj z els (ev tm x)) v∧b=Ga els (ev tm x)∧(execOp e o).run P w=.ok (.value (if ok then .tuple #[v,.bool b] else v)) w:=by
       rcases Ar1 hs (ht m) hen with ⟨hm,rfl⟩ | ⟨b,es,hm,hw,hks,hop⟩
       ·refine⟨zv,false,hzrep,rfl,?_⟩
        have hf:Instr.findNow d (e x) [] 0=some none:=rfl
        simp[execOp,ho,hm,Instr.lookup,run_underlying hmu,MapKept.run_checkKey hd hkey,MapKept.run_findKey hd hf,Result.andThen,hzr]
       ·rcases Yl hkd hkk hx z els es.toList 0 hks hop with ⟨g1,y,g2,g3,g4,g5,g6⟩ | ⟨g1,g2,g3,g4⟩
        ·refine⟨y.val,true,g5,g1.symm,?_⟩
         simp[execOp,ho,hm,Instr.lookup,run_underlying hmu,MapKept.run_getObj_map hw,MapKept.run_checkKey hd hkey,MapKept.run_findKey hd g4,Result.andThen]
        ·refine⟨zv,false,by rw[g3];exact hzrep,g1.symm,?_⟩
         simp[execOp,ho,hm,Instr.lookup,run_underlying hmu,MapKept.run_getObj_map hw,MapKept.run_checkKey hd hkey,MapKept.run_findKey hd g2,Result.andThen,hzr]
      obtain⟨v,b,m1,rfl,m3⟩:=main
      cases ok with
      | true=>exact⟨_,h,.tuple #[v,.bool _],m3,.tup _ _ _ [v,.bool _] (.cons _ _ _ _ _ _ m1 (.cons _ _ _ _ _ _ (.bool _ _ _) (.nil _ _)))⟩
      | false=>exact⟨_,h,v,m3,m1⟩
     ·cases h
    ·cases h
   ·cases h
  ·cases h
 ·cases h
theorem A95 {t:TypeId} (h:Uw P t=some false):∃ d,P.underlying t=some d∧∀ ms,d≠.interface ms:=by
 unfold Uw at h
 split at h
 ·cases h
 ·rename_i d hd hu;exact⟨d,hu,hd⟩
 ·cases h
theorem Ab6 (ht:∀ x,Rep S w hp φ (ev tm x) (e x)) {t:TypeId} {x:Operand} (ho:o.op=.makeInterface t x) (hi:Uw P t=some false) {a:AV} (hc:Js hp (ev tm x)=some a):Gives P S w hp φ e o (.ifc t a):=by
 obtain⟨d,hd,hn⟩:=A95 hi
 refine⟨.iface t (e x),?_,.ifc _ _ _ _ _ (A6c (ht x) hc)⟩
 cases d<;>first | exact absurd rfl (hn _) | simp[execOp,ho,Instr.makeInterface,run_underlying hd,Result.andThen]
theorem A8y (ht:∀ x,Rep S w hp φ (ev tm x) (e x)) {t a:TypeId} {x:Operand} {ok:Bool} (ho:o.op=.typeAssert x t a ok) (h:Sh P a ok (ev tm x) K=some r):∃ v,K v=some r∧Gives P S w hp φ e o v:=by
 unfold Sh at h
 split at h
 ·rename_i hi
  obtain⟨d,hd,hn⟩:=A95 hi
  have hx:=ht x
  split at h
  ·rename_i t' v hxv
   rw[hxv] at hx
   obtain⟨u,hu,hex⟩:=hx.ifc_inv
   split at h
   ·rename_i he
    have he:t'=a:=of_decide_eq_true he
    subst he
    split at h
    ·rename_i hok
     refine⟨_,h,.tuple #[u,.bool true],?_,.tup _ _ _ [u,.bool true] (.cons _ _ _ _ _ _ hu.lift (.cons _ _ _ _ _ _ (.bool _ _ _) (.nil _ _)))⟩
     cases d<;>first | exact absurd rfl (hn _) | simp[execOp,ho,hex,Instr.typeAssert,run_underlying hd,Result.andThen]
    ·refine⟨_,h,u,?_,hu.lift⟩
     cases d<;>first | exact absurd rfl (hn _) | simp[execOp,ho,hex,Instr.typeAssert,run_underlying hd,Result.andThen]
   ·rename_i he
    have he:t'≠a:=of_decide_eq_false he
    split at h
    ·split at h
     ·rename_i z hz
      obtain⟨zv,hzr,hzrep,hzo⟩:=Wk (S:=S) (w:=w) (hp:=hp) (φ:=φ) hz
      refine⟨_,h,.tuple #[zv,.bool false],?_,.tup _ _ _ [zv,.bool false] (.cons _ _ _ _ _ _ hzrep (.cons _ _ _ _ _ _ (.bool _ _ _) (.nil _ _)))⟩
      cases d<;>first | exact absurd rfl (hn _) | simp[execOp,ho,hex,Instr.typeAssert,run_underlying hd,Result.andThen,he,hzr]
     ·cases h
    ·cases h
  ·rename_i hxv
   rw[hxv] at hx
   have hex:=hx.nili_inv
   split at h
   ·split at h
    ·rename_i z hz
     obtain⟨zv,hzr,hzrep,hzo⟩:=Wk (S:=S) (w:=w) (hp:=hp) (φ:=φ) hz
     refine⟨_,h,.tuple #[zv,.bool false],?_,.tup _ _ _ [zv,.bool false] (.cons _ _ _ _ _ _ hzrep (.cons _ _ _ _ _ _ (.bool _ _ _) (.nil _ _)))⟩
     cases d<;>first | exact absurd rfl (hn _) | simp[execOp,ho,hex,Instr.typeAssert,run_underlying hd,Result.andThen,hzr]
    ·cases h
   ·cases h
  ·cases h
 ·cases h
def Hj (w:World) (b:Nat) (ob:Obj):World:={ w with heap:=w.heap.setIfInBounds b ob }
theorem Qd (w:World) (b:Nat) (ob:Obj) {k:Nat} (h:k≠b):(Hj w b ob).heap[k]?=w.heap[k]?:=by
 unfold Hj;simp[Array.getElem?_setIfInBounds,Ne.symm h]
theorem Ws {w:World} {b:Nat} (ob:Obj) (h:b < w.heap.size):(Hj w b ob).heap[b]?=some ob:=by
 unfold Hj;simp[h]
theorem Abh {b:Nat} {ob:Obj} (hb:base≤b):Below base w (Hj w b ob) :=
 ⟨rfl,rfl,rfl,by simp[Hj],fun k hk=>Qd w b ob (by omega)⟩
def Ar6:Ob→Bool
 | .arr _ _=>false
 | .row _ _ _=>false
 | .stk _ _ _ _=>false
 | _=>true
theorem Nf (hp:Hp) (φ:List Pl) {id:Nat} {o o':Ob} (hob:hp[id]?=some o) (ho:Ar6 o=true):HpExt hp φ (hp.set id o') φ:=by
 have hid:=nth?_lt hob
 refine⟨fun _ _ _ h=>h,fun j size els h=>⟨els,?_,rfl⟩,fun j e size els h=>⟨[],?_,fun _ v hv=>hv⟩,fun j ver e size els h=>⟨ver,els,?_,Nat.le_refl _,fun _=>⟨rfl,rfl⟩⟩⟩
 ·rw[nth?_eq] at h ⊢
  rw[List.getElem?_set_ne (fun e=>by subst e;rw[hob] at h;cases h;cases ho)];exact h
 ·rw[nth?_eq] at h ⊢
  rw[List.getElem?_set_ne (fun e=>by subst e;rw[hob] at h;cases h;cases ho),List.append_nil];exact h
 ·rw[nth?_eq] at h ⊢
  rw[List.getElem?_set_ne (fun e=>by subst e;rw[hob] at h;cases h;cases ho)];exact h
theorem Sim.writeM (hs:Sim P base S w hp φ) {id b:Nat} {o':Ob} (hat:Af φ id=some b) (hns:∀ o,¬ S b o) (ob:Obj) (hE:HpExt hp φ (hp.set id o') φ) (hid:id < hp.length) (hob:SExt S w S (Hj w b ob)→ObOk P base S (Hj w b ob) (hp.set id o') φ id o') :
 Sim P base S (Hj w b ob) (hp.set id o') φ∧Trans base S w hp φ S (Hj w b ob) (hp.set id o') φ:=by
 have hS:SExt S w S (Hj w b ob):=fun b' o h=>⟨h,Id (Qd w b ob (fun e=>by subst e;exact hns o h)) o⟩
 refine⟨⟨by simpa using hs.len,by simpa [Hj] using hs.low,fun b' o h=>?_,fun j oj hj=>?_,hs.apart⟩,⟨hS,hE,Abh (hs.block_lt hat).1,fun _ _ h=>.inl h,fun _ _ h=>.inl h,Ie,fun k hk=>Qd w b ob fun e=>(Hz hk).2 id (by rw[e];exact hat)⟩⟩
 ·obtain⟨v,hv,hf⟩:=hs.cell b' o h
  exact⟨v,(hS b' o h).2.trans hv,hf⟩
 ·by_cases hji:j=id
  ·subst hji
   rw[List.getElem?_set_self hid] at hj
   cases hj
   exact hob hS
  ·rw[List.getElem?_set_ne (Ne.symm hji)] at hj
   exact(hs.obj j oj hj).keep hS hE rfl fun b' hb'=>⟨Qd w b ob fun e=>hji (hs.apart j id b (e ▸ hb') hat),fun _=>.rfl⟩
theorem Sim.alloc_map (hs:Sim P base S w hp φ) (kd:Option IntKind) (fn:Bool) :
 Sim P base S (w.alloc (.map #[] 0)) (hp++[if fn then .mpo kd [] else .mp kd false []]) (φ++[.blk w.heap.size])∧Trans base S w hp φ S (w.alloc (.map #[] 0)) (hp++[if fn then .mpo kd [] else .mp kd false []]) (φ++[.blk w.heap.size]):=by
 have hS:SExt S w S (w.alloc (.map #[] 0)):=fun b o h=>⟨h,let ⟨v,hv,_⟩:=hs.cell b o h;Dv w _ (Ey hv)⟩
 have hE:HpExt hp φ (hp++[if fn then .mpo kd [] else .mp kd false []]) (φ++[.blk w.heap.size]):=HpExt.append hs.len _ _
 have hno:∀ o,¬ S w.heap.size o:=fun o ho=>by
  obtain⟨v,hv,_⟩:=hs.cell _ _ ho
  have:=Ey hv
  omega
 have hat:∀ i b,Af (φ++[.blk w.heap.size]) i=some b→(i < φ.length∧Af φ i=some b)∨(i=φ.length∧b=w.heap.size):=by
  intro i b h
  unfold Af at h ⊢
  rcases Nat.lt_or_ge i φ.length with hi | hi
  ·rw[List.getElem?_append_left hi] at h;exact .inl ⟨hi,h⟩
  ·rw[List.getElem?_append_right hi] at h
   cases hk:i - φ.length with
   | zero=>rw[hk] at h;simp at h;exact .inr ⟨by omega,h.symm⟩
   | succ k=>rw[hk] at h;simp at h
 refine⟨⟨by simp[hs.len],Nat.le_trans hs.low (by simp),fun b o h=>?_,fun id o ho=>?_,fun i j b hi hj=>?_⟩,⟨hS,hE,(Below.refl _ _).alloc hs.low _,fun b o h=>.inl h,fun b o h=>.inl h,fun i b h=>(hat i b h).elim (fun h=>.inl ⟨i,h.2⟩) (fun h=>.inr (by rw[h.2];exact Nat.le_refl _)),Pf _⟩⟩
 ·obtain⟨v,hv,hf⟩:=hs.cell b o h
  exact⟨v,(Dv w _ (Ey hv)).trans hv,hf⟩
 ·rcases Nat.lt_or_ge id hp.length with hi | hi
  ·rw[List.getElem?_append_left hi] at ho
   refine(hs.obj id o ho).keep hS hE (List.getElem?_append_left (by rw[hs.len];exact hi)) fun b hb=>⟨Below.heap_alloc w _ b (hs.block_lt hb).2,fun _=>.rfl⟩
  ·rw[List.getElem?_append_right hi] at ho
   cases hk:id - hp.length with
   | succ k=>rw[hk] at ho;simp at ho
   | zero =>
    rw[hk] at ho
    simp at ho
    subst ho
    have:id=φ.length:=by rw[hs.len];omega
    subst this
    have hents:V5 (#[]:Array MapEntry) []:=⟨rfl,fun i x h=>by simp at h⟩
    cases fn with
    | true=>exact⟨w.heap.size,[],#[],by simp,hs.low,heap_alloc_new w _,.nil _ _,⟨hents,fun el h=>by simp at h⟩,hno⟩
    | false=>exact⟨w.heap.size,[],#[],by simp,hs.low,heap_alloc_new w _,.nil,⟨hents,fun el h=>by simp at h⟩,fun o=>⟨fun h=>absurd h (hno o),fun h=>by simp at h⟩⟩
 ·rcases hat i b hi with ⟨i1,i2⟩ | ⟨i1,i2⟩<;>rcases hat j b hj with ⟨j1,j2⟩ | ⟨j1,j2⟩
  ·exact hs.apart i j b i2 j2
  ·have:=(hs.block_lt i2).2;omega
  ·have:=(hs.block_lt j2).2;omega
  ·omega
theorem A2n {k:AV} {kd:Option IntKind} {kv:Value} (h:Mu k=some kd) (hr:Rep S w hp φ k kv) {S':Nat→Nat→Prop} {w':World} {hp':Hp} {φ':List Pl}:Rep S' w' hp' φ' k kv:=by
 rcases R5 h with ⟨q,n,rfl,rfl⟩ | ⟨s,rfl,rfl⟩
 ·obtain⟨rfl,h⟩:=hr.int_inv;exact .int _ _ _ _ h
 ·obtain⟨rfl,h⟩:=hr.str_inv;exact .str _ _ _ h
theorem A0i {es:Array MapEntry} {f:MapEntry→MapEntry} (hf:∀ x,(f x).born=x.born) (i:Nat) (h:∀ (j:Nat) x,es[j]?=some x→x.born=j):∀ (j:Nat) x,(es.modify i f)[j]?=some x→x.born=j:=by
 intro j x hx
 rw[Array.getElem?_modify] at hx
 split at hx
 ·cases hj:es[j]? with
  | none=>rw[hj] at hx;cases hx
  | some y=>rw[hj] at hx;simp only[Option.map_some,Option.some.injEq] at hx;subst hx;rw[hf];exact h j y hj
 ·exact h j x hx
theorem A6m {es:Array MapEntry} (h:∀ (j:Nat) x,es[j]?=some x→x.born=j) (kv nv:Value):∀ (j:Nat) x,(es.push ⟨kv,nv,es.size⟩)[j]?=some x→x.born=j:=by
 intro j x hx
 rw[Array.getElem?_push] at hx
 split at hx
 ·rename_i hj;cases hx;exact hj.symm
 ·exact h j x hx
section runs
variable {t kt et:TypeId} {b:Nat} {es:Array MapEntry} {kd:Option IntKind} {els:List (List AV)} {k v z:AV} {kv nv:Value} {d:TypeDesc}
variable (hmo:Sa P t=some (kt,et)) (hd:P.underlying kt=some d) (hkd:Tq d kd) (hkk:Mu k=some kd) (hw:w.heap[b]?=some (.map es es.size)) (hb:∀ (j:Nat) x,es[j]?=some x→x.born=j) (hks:KeysAV kd els) (hop:Ropen S w hp φ els (es.toList.map Ix)) (hk:Rep S w hp φ k kv)
include hmo hd hkd hkk hw hb hks hop hk
theorem Acf (hv:Rep S w hp φ v nv) (hv1:nv.oneCell'=true):∃ es',(Instr.mapUpdate t (.map (some b)) kv nv).run P w=.ok () (Hj w b (.map es' es'.size))∧(∀ (j:Nat) x,es'[j]?=some x→x.born=j)∧Ropen S w hp φ (Mx els k v) (es'.toList.map Ix)∧KeysAV kd (Mx els k v):=by
 have hkey:=Ve hkd hkk hk
 have hmu:=Vz hmo
 obtain⟨s1,s2,s3⟩:=Ao1 hkd hkk hk hv hv1 els es.toList hks hop
 rcases Yl hkd hkk hk .junk els es.toList 0 hks hop with ⟨g1,y,g2,g3,g4,_,_⟩ | ⟨g1,g2,_,_⟩
 ·have hj:es[Fu els k]?=some y:=by simpa using g2
  refine⟨es.modify (Fu els k) fun x=>{ x with key:=kv,val:=nv },?_,A0i (f:=fun x=>{ x with key:=kv,val:=nv }) (fun _=>rfl) _ hb,by rw[Array.toList_modify];exact s2 g1,s1⟩
  simp[Instr.mapUpdate,run_underlying hmu,MapKept.run_getObj_map hw,MapKept.run_checkKey hd hkey,MapKept.run_findKey hd g4,hj,g3,MapKept.run_keyThatStays hkey,MapKept.run_setObj_map _ hw,Result.andThen,Hj]
 ·refine⟨es.push ⟨kv,nv,es.size⟩,?_,A6m hb _ _,by rw[Array.toList_push];exact s3 g1 _,s1⟩
  simp[Instr.mapUpdate,run_underlying hmu,MapKept.run_getObj_map hw,MapKept.run_checkKey hd hkey,MapKept.run_findKey hd g2,MapKept.run_setObj_map _ hw,Result.andThen,Hj]
theorem Ama {zv:Value} (z1:(zeroValue et).run P w=.ok zv w) (z2:Rep S w hp φ z zv) (z3:zv.oneCell'=true):∃ es' u,(Instr.mapEntry t (.map (some b)) kv).run P w=.ok (.tuple #[u,.int .i64 (Fu els k:Nat)]) (Hj w b (.map es' es'.size))∧Rep S w hp φ (Gj z els k) u∧(∀ (j:Nat) x,es'[j]?=some x→x.born=j)∧Ropen S w hp φ (Mt z els k) (es'.toList.map Ix)∧KeysAV kd (Mt z els k):=by
 have hkey:=Ve hkd hkk hk
 have hmu:=Vz hmo
 obtain⟨s1,s2,s3⟩:=Alz hkd hkk hk z2 z3 els es.toList hks hop
 have hlen:=hop.length
 rcases Yl hkd hkk hk z els es.toList 0 hks hop with ⟨g1,y,g2,g3,g4,g5,g6⟩ | ⟨g1,g2,g3,g4⟩
 ·have hj:es[Fu els k]?=some y:=by simpa using g2
  have hmod:(es.modify (Fu els k) fun x=>{ x with key:=kv })=es:=by
   apply Array.ext_getElem?
   intro i
   rw[Array.getElem?_modify]
   split
   ·rename_i h;subst h;rw[hj];simp only[Option.map_some];rw[← g3]
   ·rfl
  refine⟨es,y.val,?_,g5,hb,by rw[s2 g1];exact hop,s1⟩
  simp[Instr.mapEntry,run_underlying hmu,MapKept.run_getObj_map hw,MapKept.run_checkKey hd hkey,MapKept.run_findKey hd g4,hj,g3,MapKept.run_keyThatStays hkey,MapKept.run_setObj_map _ hw,Result.andThen,Hj,hmod,hb _ _ hj,goInt]
 ·refine⟨es.push ⟨kv,zv,es.size⟩,zv,?_,by rw[g3];exact z2,A6m hb _ _,by rw[Array.toList_push];exact s3 g1 _,s1⟩
  have hl:Fu els k=es.size:=by rw[g4,hlen];simp
  simp[Instr.mapEntry,run_underlying hmu,MapKept.run_getObj_map hw,MapKept.run_checkKey hd hkey,MapKept.run_findKey hd g2,MapKept.run_setObj_map _ hw,Result.andThen,Hj,z1,hl,goInt]
end runs
theorem Amw (els:List (List AV)) (k:AV):Fu els k≤els.length:=by
 induction els with
 | nil=>exact Nat.le_refl _
 | cons el l ih =>
  rcases el with _ | ⟨a,_ | ⟨b',_ | ⟨c,t⟩⟩⟩<;>simp only[Fu,List.length_cons]<;>first | omega | (cases K2 k a<;>simp<;>omega)
theorem Apk {t:TypeId} {b:Nat} {es:Array MapEntry} {kd:Option IntKind} {els:List (List AV)} {v:AV} {nv:Value} {n:Nat} (hw:w.heap[b]?=some (.map es es.size)) (hb:∀ (j:Nat) x,es[j]?=some x→x.born=j) (hks:KeysAV kd els) (hop:Ropen S w hp φ els (es.toList.map Ix)) (hn:n < els.length) (hv:Rep S w hp φ v nv) (hv1:nv.oneCell'=true) :
 ∃ es',(Instr.entryStore t (.map (some b)) (.int .i64 n) nv).run P w=.ok () (Hj w b (.map es' es'.size))∧(∀ (j:Nat) x,es'[j]?=some x→x.born=j)∧Ropen S w hp φ (Ru els n v) (es'.toList.map Ix)∧KeysAV kd (Ru els n v):=by
 obtain⟨s1,s2⟩:=Anc hv hv1 els es.toList n hks hop
 have hlen:=hop.length
 have hn':n < es.size:=by
  have:els.length=es.size:=by simpa using hlen
  omega
 have hfind:es.findIdx? (fun x=>(x.born:Int)==(n:Int))=some n:=by
  rw[Array.findIdx?_eq_some_iff_getElem]
  refine⟨hn',?_,fun j hj=>?_⟩
  ·have:=hb n _ (Array.getElem?_eq_getElem hn');simp[this]
  ·have:=hb j _ (Array.getElem?_eq_getElem (by omega));simp[this];omega
 refine⟨es.modify n fun x=>{ x with val:=nv },?_,A0i (f:=fun x=>{ x with val:=nv }) (fun _=>rfl) _ hb,by rw[Array.toList_modify];exact s2,s1⟩
 simp[Instr.entryStore,MapKept.run_getObj_map hw,asInt,asIntOf,hfind,MapKept.run_setObj_map _ hw,Result.andThen,Hj]
theorem Sim.freeze (hs:Sim P base S w hp φ) {id b:Nat} (hb:φ[id]?=some (.blk b)) {kd:Option IntKind} {frz:Bool} {els:List (List AV)} (hob:hp[id]?=some (.mp kd frz els)) :
 ∃ S',Sim P base S' w (hp.set id (.mp kd true els)) φ∧Trans base S w hp φ S' w (hp.set id (.mp kd true els)) φ∧Rep S' w [] [] (.mcl kd els) (.map (some b)):=by
 have hat:Af φ id=some b:=by simp[Af,hb]
 obtain⟨b',vss,es,g1,g2,g3,g4,g5,g6⟩:=hs.obj id _ hob
 rw[hb] at g1;cases g1
 have hE:=Nf hp φ (o':=.mp kd true els) hob rfl
 let S':Nat→Nat→Prop:=fun b' o=>S b' o∨(b'=b∧o=0)
 have hS:SExt S w S' w:=fun b o h=>⟨.inl h,rfl⟩
 refine⟨S',⟨by simpa using hs.len,hs.low,fun b' o h=>?_,fun j oj hj=>?_,hs.apart⟩,⟨hS,hE,Below.refl _ _,fun b' o h=>?_,fun b' o h=>?_,Ie,fun _ _=>rfl⟩,?_⟩
 ·rcases h with h | ⟨rfl,rfl⟩
  ·exact hs.cell b' o h
  ·exact⟨_,A1b g3,fun _=>rfl⟩
 ·by_cases hji:j=id
  ·subst hji
   rw[List.getElem?_set_self (nth?_lt hob)] at hj
   cases hj
   refine⟨b,vss,es,hb,g2,g3,Repss.mono hS g4,g5,fun o=>⟨fun h=>?_,fun h=>.inr ⟨rfl,h.2⟩⟩⟩
   rcases h with h | ⟨_,h⟩
   ·exact⟨rfl,((g6 o).1 h).2⟩
   ·exact⟨rfl,h⟩
  ·rw[List.getElem?_set_ne (Ne.symm hji)] at hj
   refine(hs.obj j oj hj).keep hS hE rfl fun b' hb'=>⟨rfl,fun o=>⟨fun h=>h.elim (fun h=>h) fun h=>absurd (hs.apart j id b (h.1 ▸ hb') hat) hji,.inl⟩⟩
 ·rcases h with h | ⟨rfl,rfl⟩
  ·exact .inl h
  ·exact .inr g2
 ·rcases h with h | ⟨rfl,rfl⟩
  ·exact .inl h
  ·exact .inr (.inl ⟨id,hat⟩)
 ·exact .mcl _ _ _ _ vss b es (Repss.mono hS g4) g5.1 g5.2 (.inr ⟨rfl,rfl⟩) g3
theorem Vx {a v:AV} (h:D9 hp a=some v):v.one=true:=by
 cases a<;>simp only[D9] at h<;>first | (cases h;done) | (cases h;rfl) | skip
 case row id n=>split at h<;>first | (cases h;rfl) | cases h
 case func f x y=>cases x<;>cases y<;>simp only[D9] at h<;>first | (cases h;done) | (cases h;rfl)
theorem A86 (hs:Sim P base S w hp φ) {x v:AV} {xv:Value} {hp':Hp} (hx:Rep S w hp φ x xv) (h:Aa4 hp x=some (v,hp')):∃ S',Sim P base S' w hp' φ∧Trans base S w hp φ S' w hp' φ∧Rep S' w [] [] v xv∧xv.oneCell'=true:=by
 have other:(match D9 hp x with | some v=>some (v,hp) | none=>none)=some (v,hp')→∃ S',Sim P base S' w hp' φ∧Trans base S w hp φ S' w hp' φ∧Rep S' w [] [] v xv∧xv.oneCell'=true:=by
  intro h
  cases hc:D9 hp x with
  | none=>rw[hc] at h;cases h
  | some u =>
   rw[hc] at h;cases h
   have hr:=N5 hx hc
   exact⟨S,hs,.refl _ _ _ _ _,hr,hr.oneCell (Vx hc)⟩
 cases x<;>simp only[Aa4] at h<;>first | exact other h | skip
 case mapp id =>
  obtain⟨b,hb,rfl⟩:=hx.mapp_inv
  cases hob:nth? hp id with
  | none=>rw[hob] at h;cases h
  | some ob =>
   rw[hob] at h
   rw[nth?_eq] at hob
   cases ob<;>simp only at h<;>first | (cases h;done) | skip
   case mp kd frz els =>
    cases h
    rw[B8]
    obtain⟨S',h1,h2,h3⟩:=hs.freeze hb hob
    exact⟨S',h1,h2,h3,rfl⟩
theorem A6o (hs:Sim P base S w hp φ) (ht:∀ x,Rep S w hp φ (ev tm x) (e x)) {t:TypeId} {m k x:Operand} (ho:o.op=.mapUpdate t m k x∨o.op=.insert t m k x) {K:AV→Hp→Option ρ} (h:A5q P hp t (ev tm m) (ev tm k) (ev tm x) K=some r):∃ v hp',K v hp'=some r∧Acts P base S w hp φ e o v hp':=by
 have hm:=ht m
 rw[A5r] at h;unfold Ad6 at h
 split at h
 ·rename_i kt et hmo
  split at h
  ·rename_i id hmm
   rw[hmm] at hm
   obtain⟨b,hb,hme⟩:=hm.mapp_inv
   have hat:Af φ id=some b:=by simp[Af,hb]
   split at h
   ·rename_i kd els0 hob0
    split at h
    ·rename_i hko
     obtain⟨⟨d,hd,hkd⟩,hkk⟩:=Vy hko
     split at h
     ·rename_i v hp' hmv
      split at h
      ·rename_i kd' els hob
       split at h
       ·rename_i hkk'
        have hkk':kd'=kd:=of_decide_eq_true hkk'
        subst hkk'
        obtain⟨S',s1,s2,s3,s4⟩:=A86 hs (ht x) hmv
        rw[nth?_eq] at hob
        obtain⟨b',vss,es,g1,g2,g3,g4,⟨⟨rfl,g5⟩,g6⟩,g7⟩:=s1.obj id _ hob
        rw[hb] at g1;cases g1
        obtain⟨es',u1,u2,u3,u4⟩:=Acf (S:=S') (hp:=[]) (φ:=[]) hmo hd hkd hkk g3 g5 g6 g4.toOpen (A2n hkk (ht k)) s3 s4
        rw[B8,B2] at h
        have hno:∀ o,¬ S' b o:=fun o ho=>by have:=((g7 o).1 ho).1;cases this
        have hE:=Nf hp' φ (o':=.mp kd' false (Mx els (ev tm k) v)) hob rfl
        obtain⟨w1,w2⟩:=s1.writeM hat hno (.map es' es'.size) hE (nth?_lt hob) fun hS=>⟨b,_,es',hb,g2,Ws _ (Array.getElem?_eq_some_iff.1 g3).1,Repss.mono hS u3.closed,⟨⟨rfl,u2⟩,u4⟩,fun o=>⟨fun h=>absurd h (hno o),fun h=>by cases h.1⟩⟩
        refine⟨_,_,h,undef,S',φ,_,.inr ⟨?_,rfl⟩,.junk _ _ _,w1,s2.trans w2⟩
        rcases ho with ho | ho<;>simp only[execOp,ho,hme,Sem.run_bind,Sem.run_pure,Result.andThen_ok,u1]
       ·cases h
      ·cases h
     ·cases h
    ·cases h
   ·rename_i kd els hob
    split at h
    ·rename_i hko
     simp only[A8] at hko
     obtain⟨⟨d,hd,hkd⟩,hkk⟩:=Vy hko.1
     rw[nth?_eq] at hob
     obtain⟨b',vss,es,g1,g2,g3,g4,⟨⟨rfl,g5⟩,g6⟩,g7⟩:=hs.obj id _ hob
     rw[hb] at g1;cases g1
     obtain⟨es',u1,u2,u3,u4⟩:=Acf hmo hd hkd hkk g3 g5 g6 g4 (ht k) (ht x) ((ht x).oneCell hko.2)
     rw[B8,B2] at h
     have hE:=Nf hp φ (o':=.mpo kd (Mx els (ev tm k) (ev tm x))) hob rfl
     obtain⟨w1,w2⟩:=hs.writeM hat g7 (.map es' es'.size) hE (nth?_lt hob) fun hS=>⟨b,_,es',hb,g2,Ws _ (Array.getElem?_eq_some_iff.1 g3).1,Ropen.mono hS u3 hE,⟨⟨rfl,u2⟩,u4⟩,g7⟩
     refine⟨_,_,h,undef,S,φ,_,.inr ⟨?_,rfl⟩,.junk _ _ _,w1,w2⟩
     rcases ho with ho | ho<;>simp only[execOp,ho,hme,Sem.run_bind,Sem.run_pure,Result.andThen_ok,u1]
    ·cases h
   ·cases h
  ·cases h
 ·cases h
theorem Aiv (hs:Sim P base S w hp φ) (ht:∀ x,Rep S w hp φ (ev tm x) (e x)) {t:TypeId} {m k:Operand} (ho:o.op=.mapEntry t m k) {K:AV→Hp→Option ρ} (h:Aa7 P hp t (ev tm m) (ev tm k) K=some r):∃ v hp',K v hp'=some r∧Acts P base S w hp φ e o v hp':=by
 have hm:=ht m
 rw[A59] at h;unfold Aeg at h
 split at h
 ·rename_i kt et hmo
  split at h
  ·rename_i z0 hz0
   split at h
   ·rename_i z hzc
    split at h
    ·rename_i id hmm
     rw[hmm] at hm
     obtain⟨b,hb,hme⟩:=hm.mapp_inv
     have hat:Af φ id=some b:=by simp[Af,hb]
     split at h
     ·rename_i kd els hob
      split at h
      ·rename_i hko
       obtain⟨⟨d,hd,hkd⟩,hkk⟩:=Vy hko
       obtain⟨hlen,h⟩:decide (els.length≤140737488355328)=true∧_:=by
        cases hq:decide (els.length≤140737488355328) with
        | true=>rw[hq] at h;exact⟨rfl,h⟩
        | false=>rw[hq] at h;cases h
       have hlen:=of_decide_eq_true hlen
       rw[nth?_eq] at hob
       obtain⟨b',vss,es,g1,g2,g3,g4,⟨⟨rfl,g5⟩,g6⟩,g7⟩:=hs.obj id _ hob
       rw[hb] at g1;cases g1
       obtain⟨zv,q1,q2,_⟩:=Wk (P:=P) (S:=S) (w:=w) (hp:=[]) (φ:=[]) hz0
       have hzz:D9 [] z0=some z:=hzc
       have hzrep:Rep S w [] [] z zv:=N5 q2 hzz
       have hz1:zv.oneCell'=true:=hzrep.oneCell (Vx hzz)
       obtain⟨es',u,u1,u2,u3,u4,u5⟩:∃ es' u,(Instr.mapEntry t (.map (some b)) (e k)).run P w=.ok (.tuple #[u,.int .i64 (Fu els (ev tm k):Nat)]) (Hj w b (.map es' es'.size))∧Rep S w [] [] (Gj z els (ev tm k)) u∧(∀ (j:Nat) x,es'[j]?=some x→x.born=j)∧Ropen S w [] [] (Mt z els (ev tm k)) (es'.toList.map Ix)∧KeysAV kd (Mt z els (ev tm k)) :=
        Ama hmo hd hkd hkk g3 g5 g6 g4.toOpen (A2n hkk (ht k)) q1 hzrep hz1
       rw[B8,B2] at h
       have hno:∀ o,¬ S b o:=fun o ho=>by have:=((g7 o).1 ho).1;cases this
       have hE:=Nf hp φ (o':=.mp kd false (Mt z els (ev tm k))) hob rfl
       obtain⟨w1,w2⟩:=hs.writeM hat hno (.map es' es'.size) hE (nth?_lt hob) fun hS=>⟨b,_,es',hb,g2,Ws _ (Array.getElem?_eq_some_iff.1 g3).1,Repss.mono hS u4.closed,⟨⟨rfl,u3⟩,u5⟩,fun o=>⟨fun h=>absurd h (hno o),fun h=>by cases h.1⟩⟩
       have hidx:Fu els (ev tm k)≤els.length:=Amw _ _
       refine⟨_,_,h,.tuple #[u,.int .i64 (Fu els (ev tm k):Nat)],S,φ,_,.inl ?_,.tup _ _ _ [u,.int .i64 (Fu els (ev tm k):Nat)] (.cons _ _ _ _ _ _ (Rep.mono w2.s u2.lift (HpExt.refl _ _)) (.cons _ _ _ _ _ _ (.int _ _ _ _ (A8i (by unfold maxLen;omega))) (.nil _ _))),w1,w2⟩
       simp only[execOp,ho,hme,Sem.run_bind,Sem.run_pure,Result.andThen_ok,u1]
      ·cases h
     ·cases h
    ·cases h
   ·cases h
  ·cases h
 ·cases h
theorem Aai (hs:Sim P base S w hp φ) (ht:∀ x,Rep S w hp φ (ev tm x) (e x)) {t:TypeId} {m s x:Operand} (ho:o.op=.entryStore t m s x) {K:AV→Hp→Option ρ} (h:Ux hp (ev tm m) (ev tm s) (ev tm x) K=some r):∃ v hp',K v hp'=some r∧Acts P base S w hp φ e o v hp':=by
 have hm:=ht m
 have hss:=ht s
 unfold Ux at h
 split at h
 ·rename_i id hmm
  rw[hmm] at hm
  obtain⟨b,hb,hme⟩:=hm.mapp_inv
  have hat:Af φ id=some b:=by simp[Af,hb]
  split at h
  ·rename_i kd els hob
   split at h
   ·rename_i n hsn
    rw[hsn] at hss
    obtain⟨hse,_⟩:=hss.int_inv
    split at h
    ·rename_i v hc
     obtain⟨hlt,h⟩:(decide (0≤n)&&decide (n < (els.length:Int)))=true∧_:=by
      cases hq:(decide (0≤n)&&decide (n < (els.length:Int))) with
      | true=>rw[hq] at h;exact⟨rfl,h⟩
      | false=>rw[hq] at h;cases h
     simp only[A8,Ai] at hlt
     rw[nth?_eq] at hob
     obtain⟨b',vss,es,g1,g2,g3,g4,⟨⟨rfl,g5⟩,g6⟩,g7⟩:=hs.obj id _ hob
     rw[hb] at g1;cases g1
     have hr:=N5 (ht x) hc
     obtain⟨es',u1,u2,u3,u4⟩:=Apk (P:=P) (t:=t) (n:=n.toNat) g3 g5 g6 g4.toOpen (by omega) hr (hr.oneCell (Vx hc))
     rw[show((n.toNat:Nat):Int)=n by omega] at u1
     rw[B8,B2] at h
     have hno:∀ o,¬ S b o:=fun o ho=>by have:=((g7 o).1 ho).1;cases this
     have hE:=Nf hp φ (o':=.mp kd false (Ru els n.toNat v)) hob rfl
     obtain⟨w1,w2⟩:=hs.writeM hat hno (.map es' es'.size) hE (nth?_lt hob) fun hS=>⟨b,_,es',hb,g2,Ws _ (Array.getElem?_eq_some_iff.1 g3).1,Repss.mono hS u3.closed,⟨⟨rfl,u2⟩,u4⟩,fun o=>⟨fun h=>absurd h (hno o),fun h=>by cases h.1⟩⟩
     refine⟨_,_,h,undef,S,φ,_,.inr ⟨?_,rfl⟩,.junk _ _ _,w1,w2⟩
     simp only[execOp,ho,hme,hse,Sem.run_bind,Sem.run_pure,Result.andThen_ok,u1]
    ·cases h
   ·cases h
  ·cases h
 ·cases h
theorem Y2 (hs:Sim P base S w hp φ) (ht:∀ x,Rep S w hp φ (ev tm x) (e x)) {t kt et:TypeId} {rr:Option Operand} (ho:o.op=.makeMap t rr) (hmo:Sa P t=some (kt,et)) (hres:A7o tm rr=true) (kd:Option IntKind) (fn:Bool):Acts P base S w hp φ e o (.mapp hp.length) (hp++[if fn then .mpo kd [] else .mp kd false []]):=by
 obtain⟨h1,h2⟩:=hs.alloc_map kd fn
 refine⟨.map (some w.heap.size),S,_,_,.inl ?_,.mapp _ _ hp.length w.heap.size (by rw[← hs.len];simp),h1,h2⟩
 have hmu:=Vz hmo
 cases rr with
 | none=>simp only[execOp,ho,Option.map_none,Sem.run_bind,Sem.run_pure,Result.andThen_ok,run_makeMap_plain]
 | some x =>
  unfold A7o at hres
  split at hres<;>first | (rename_i h;cases h;done) | skip
  rename_i y hy
  cases hy
  split at hres
  ·rename_i q n hq
   have hx:=ht x
   rw[hq] at hx
   obtain⟨hxe,_⟩:=hx.int_inv
   simp[execOp,ho,Instr.makeMap,hxe,run_underlying hmu,asInt,asIntOf,Result.andThen,newObj,Sem.run]
  ·cases hres
end
def Fy (P:Program) (H:Bv) (call:Bp):Prop:=∀ (st:Bool) (g:FuncId) (args:List AV) (hp:Hp) (v:AV) (hp':Hp),call st g args hp=some (v,hp')→∀ (base:Nat) (S:Nat→Nat→Prop) (w:World) (φ:List Pl) (vs:List Value),Sim P base S w hp φ→Reps S w hp φ args vs →
 Calls P g vs.toArray w fun e w'=>∃ u S' φ',e=.returned u∧Rep S' w' hp' φ' v u∧Sim P base S' w' hp' φ'∧Trans base S w hp φ S' w' hp' φ'
theorem A6j {q:Nat×Nat}:∀ {l:List (Nat×Nat)},A7j q l=true→q ∉ l
 | [],_=>by simp
 | r :: l,h=>by
  simp only[A7j] at h
  split at h
  ·cases h
  ·rename_i hb
   intro hm
   rcases List.mem_cons.1 hm with rfl | hm
   ·simp at hb
   ·exact A6j h hm
theorem A3c:∀ (l:List Nat) (a z r x y:Nat),(a :: l)[r]?=some x→(l++[z])[r]?=some y→(x,y) ∈ Ym a l z
 | [],a,z,r,x,y,h1,h2=>by
  cases r with
  | zero=>simp at h1 h2;subst h1;subst h2;simp[Ym]
  | succ r=>simp at h1
 | b :: l,a,z,r,x,y,h1,h2=>by
  cases r with
  | zero=>simp at h1 h2;subst h1;subst h2;simp[Ym]
  | succ r =>
   simp only[List.getElem?_cons_succ,List.cons_append] at h1 h2
   exact List.mem_cons_of_mem _ (A3c l b z r x y h1 h2)
theorem Ant {q:List Nat} {r x y:Nat} (h1:q[r]?=some x) (h2:q[(r+1) % q.length]?=some y):(x,y) ∈ Ard q:=by
 cases q with
 | nil=>simp at h1
 | cons a l =>
  have hr:=nth?_lt h1
  refine A3c l a a r x y h1 ?_
  simp only[List.length_cons] at h2 hr
  by_cases hl:r=l.length
  ·subst hl
   rw[Nat.mod_self] at h2
   rw[List.getElem?_append_right (Nat.le_refl _),Nat.sub_self]
   simpa using h2
  ·rw[Nat.mod_eq_of_lt (by omega)] at h2
   rw[List.getElem?_append_left (by omega)]
   simpa using h2
theorem Y9 {l:List (Nat×Nat)}:∀ {m:List Nat} {a:Nat},Tz l a m=true→∃ t x y,(a :: m)[t]?=some x∧(a :: m)[t+1]?=some y∧(x,y) ∉ l
 | [],a,h=>by cases h
 | b :: m,a,h=>by
  simp only[Tz] at h
  split at h
  ·rename_i hb;exact⟨0,a,b,rfl,rfl,A6j hb⟩
  ·obtain⟨t,x,y,h1,h2,h3⟩:=Y9 h
   exact⟨t+1,x,y,h1,h2,h3⟩
theorem Ai3 {p q:List Nat} (h:Aip p q=true):∃ t x y,p[t]?=some x∧p[t+1]?=some y∧∀ r,q[r]?=some x→q[(r+1) % q.length]?=some y→False:=by
 cases p with
 | nil=>cases h
 | cons a l =>
  obtain⟨t,x,y,h1,h2,h3⟩:=Y9 (m:=l) (a:=a) h
  exact⟨t,x,y,h1,h2,fun r h4 h5=>h3 (Ant h4 h5)⟩
theorem A8b:∀ {l m:List Nat},eqL l m=true→l=m
 | [],[],_=>rfl
 | a :: l,b :: m,h=>by
  simp only[eqL] at h
  split at h
  ·rename_i hb;rw[Nat.eq_of_beq_eq_true hb,A8b h]
  ·cases h
 | [],_ :: _,h=>by cases h
 | _ :: _,[],h=>by cases h
def kdV:Value→Nat
 | .int _ _=>1
 | .string _=>2
 | .bool _=>3
 | _=>0
theorem Arn {S:Nat→Nat→Prop} {w:World} {hp:Hp} {φ:List Pl} {a:AV} {v:Value} (h:Rep S w hp φ a v) (hk:kd1 a≠0):kdV v=kd1 a∧Tp a=true:=by
 cases a<;>simp only[kd1,ne_eq,not_true_eq_false] at hk
 case bool=>cases h;exact⟨rfl,rfl⟩
 case int=>cases h;exact⟨rfl,rfl⟩
 case str=>cases h;exact⟨rfl,rfl⟩
theorem W4 {S:Nat→Nat→Prop} {w:World} {els:List (List AV)} {vss:List (List Value)} (hr:Repss S w els vss) {pat:List Nat} (hk:Td pat els=true) {j t k:Nat} {vs:List Value} {u:Value} (hj:vss[j]?=some vs) (hu:vs[t]?=some u) (hp:pat[t]?=some k) (h0:k≠0):kdV u=k:=by
 have hlt:j < els.length:=by have:=nth?_lt hj;have:=hr.length;omega
 have hel:=A6 hlt
 obtain⟨vs',g1,g2,_⟩:=hr.get hel
 rw[hj] at g1;cases g1
 have hm:els[j].map kd1=pat:=A8b (List.all_eq_true.1 hk _ (List.getElem_mem hlt))
 have htl:t < els[j].length:=by have:=nth?_lt hp;rw[← hm,A5] at this;exact this
 have ha:=A6 htl
 obtain⟨u',q1,q2⟩:=g2.get' ha
 rw[hu] at q1;cases q1
 have:kd1 els[j][t]=k:=by
  rw[← hm,List.getElem?_map,ha] at hp
  simpa using hp
 rw[← this] at h0 ⊢
 exact(Arn q2 h0).1
theorem A2c:∀ {p:List Nat},noZ p=true→∀ k ∈ p,k≠0
 | [],_,k,hk=>by simp at hk
 | a :: l,h,k,hk=>by
  simp only[noZ] at h
  split at h
  ·cases h
  ·rename_i hb
   rcases List.mem_cons.1 hk with rfl | hk
   ·intro e;subst e;simp at hb
   ·exact A2c h k hk
theorem Tl {S S':Nat→Nat→Prop} {w w':World} {hp hp':Hp} {φ φ':List Pl}:∀ {l:List AV} {vs:List Value},l.all Tp=true→Reps S w hp φ l vs→Reps S' w' hp' φ' l vs
 | [],_,_,h=>by cases h;exact .nil _ _
 | a :: l,_,hf,h=>by
  simp only[List.all_cons,A8] at hf
  cases h with | cons _ _ _ v _ vs h t=>exact .cons _ _ _ _ _ _ (Y1 hf.1 h) (Tl hf.2 t)
theorem Yq {S S':Nat→Nat→Prop} {w w':World} {pat:List Nat} (hz:noZ pat=true):∀ {els:List (List AV)} {vss:List (List Value)},Td pat els=true→Repss S w els vss→Repss S' w' els vss
 | [],_,_,h=>by cases h;exact .nil
 | el :: l,_,hk,h=>by
  simp only[Td,List.all_cons,A8] at hk
  cases h with
  | cons _ vs _ vss h h1 t =>
  refine .cons _ _ _ _ (Tl ?_ h) h1 (Yq hz hk.2 t)
  have hm:el.map kd1=pat:=A8b hk.1
  refine List.all_eq_true.2 fun a ha=>?_
  have:kd1 a ∈ pat:=by rw[← hm];exact List.mem_map_of_mem ha
  have:=A2c hz _ this
  cases a<;>first | rfl | (exact absurd rfl this)
theorem Af7 {P:Program} {H:Bv} {call:Bp} (hc:Fy P H call) {g:FuncId} {as:List AV} {v:AV} {hpn:Hp} (h:Ad1 P g as (call false g as [])=some (v,hpn)) {S:Nat→Nat→Prop} {w:World} {vs:List Value} (hs:∀ b o,S b o→∃ u,stay w b o=some u) (hr:Reps S w [] [] as vs) :
 Calls P g vs.toArray w fun e w'=>∃ u S' φ',e=.returned u∧Rep S' w' hpn φ' v u∧Sim P w.heap.size S' w' hpn φ'∧Trans w.heap.size S w [] [] S' w' hpn φ':=by
 have cell0:∀ {S:Nat→Nat→Prop},(∀ b o,S b o→∃ u,stay w b o=some u)→Sim P w.heap.size S w [] []:=fun hs=>⟨rfl,Nat.le_refl _,fun b o h=>let ⟨u,hu⟩:=hs b o h;⟨u,hu,fun hb=>absurd (Hr hu) (by omega)⟩,fun id o ho=>by simp at ho,fun i j b hi=>by simp[Af] at hi⟩
 unfold Ad1 at h
 split at h
 rotate_left
 ·cases h
 rename_i fn hfn
 generalize Qi P (nth 0 fn.resultTypes.toList 0)=p at h
 generalize Qi P (nth 0 fn.params.toList 0)=q at h
 split at h
 rotate_left
 ·cases h
 rename_i size els rest hcall
 split at h
 rotate_left
 ·cases h
 rename_i sz els' more
 split at h
 rotate_left
 ·cases h
 rename_i hcond
 simp only[A8,Ai] at hcond
 obtain⟨⟨hap,hz1,hz2⟩,hsz,hsz',hrest,hmore⟩:=hcond
 by_cases hkk:(Td p els&&Td q els')=true
 rotate_left
 ·rw[Bool.not_eq_true] at hkk
  rw[hkk] at h;cases h
 rw[hkk,As] at h
 rw[A8] at hkk
 obtain⟨hk1,hk2⟩:=hkk
 by_cases h0:els.length=0
 ·rw[decide_eq_true h0,As] at h
  cases h
  exact hc false g _ [] _ [] hcall w.heap.size S w [] vs (cell0 hs) hr
 rw[decide_eq_false h0,B3] at h
 cases h
 cases hr with
 | cons _ _ _ v1 _ vs1 h1 t1 =>
 obtain⟨vss',a',cap',hr',hl',hc',rfl⟩:=h1.sl_inv
 let S0:Nat→Nat→Prop:=fun b o=>∃ b1 o1,a'=some ⟨b1,o1,none⟩∧b=b1∧o1≤o∧o < o1+vss'.length*sz
 have hS0:∀ {b o1 x:Nat},a'=some ⟨b,o1,none⟩→o1≤x→x < o1+vss'.length*sz→∃ vs u,vss'[(x - o1) / sz]?=some vs∧vs[(x - o1) % sz]?=some u∧S b x∧w.cell? ⟨b,x,none⟩=some u:=by
  intro b o1 x ha h1 h2
  have hlt:x - o1 < vss'.flatten.length:=by rw[Da hl'.1];omega
  obtain⟨vs,e1,e2⟩:=Qj hl'.1 (A6 hlt)
  obtain⟨b',o',e3,e4,e5⟩:=hl'.2 _ _ _ _ e1 e2
  rw[ha] at e3;cases e3
  have e6:o1+(x - o1) / sz*sz+(x - o1) % sz=x:=by rw[Nat.add_assoc,Nat.div_add_mod'];omega
  rw[e6] at e4 e5
  exact⟨vs,_,e1,e2,e4,e5⟩
 have hcell0:∀ b o,S0 b o→∃ u,stay w b o=some u:=by
  rintro b o ⟨b1,o1,ha,rfl,h2,h3⟩
  obtain⟨_,_,_,_,e4,_⟩:=hS0 ha h2 h3
  exact hs _ _ e4
 have hrep0:Reps S0 w [] [] (.sl sz els' :: more) (.slice a' els'.length cap' :: vs1):=by
  refine .cons _ _ _ _ _ _ (.sl _ _ sz els' vss' a' cap' (Yq hz2 hk2 hr') ⟨hl'.1,fun j vs t u hj hu=>?_⟩ hc') (Tl hmore t1)
  obtain⟨b,o,e1,_,e3⟩:=hl'.2 j vs t u hj hu
  refine⟨b,o,e1,⟨b,o,e1,rfl,by omega,?_⟩,e3⟩
  have htl:t < sz:=by rw[← hl'.1 vs (List.mem_of_getElem? hj)];exact nth?_lt hu
  have hjl:=nth?_lt hj
  have:j*sz+sz≤vss'.length*sz:=by rw[← Nat.succ_mul];exact Nat.mul_le_mul_right _ hjl
  omega
 refine(hc false g _ [] _ [] hcall w.heap.size S0 w [] _ (cell0 hcell0) hrep0).mono ?_
 rintro e w' ⟨u,S',φ',rfl,hu,hsim,htr⟩
 obtain⟨us,hus,rfl⟩:=hu.tup_inv
 cases hus with
 | cons _ _ _ u1 _ us1 g1 gt =>
 obtain⟨vss,a,cap,hR,hL,hC,rfl⟩:=g1.sl_inv
 have hlen:=hR.length
 obtain⟨t,x,y,hx,hy,hno⟩:=Ai3 hap
 have hpos:0 < vss.length:=by omega
 have hv0:=A6 hpos
 have hl0:vss[0].length=size:=hL.1 _ (List.getElem_mem hpos)
 have ht1:t+1 < size:=by have:=nth?_lt hy;omega
 have hcell:∀ {j:Nat} {vs:List Value} {k:Nat} {u:Value},vss[j]?=some vs→vs[k]?=some u→∃ b o,a=some ⟨b,o,none⟩∧S' b (o+j*size+k)∧w'.cell? ⟨b,o+j*size+k,none⟩=some u:=fun hj hk=>hL.2 _ _ _ _ hj hk
 have hc1:=A6 (show t < vss[0].length by omega)
 have hc2:=A6 (show t+1 < vss[0].length by omega)
 have hc0:=A6 (show 0 < vss[0].length by omega)
 obtain⟨b,o,ha,s1,w1⟩:=hcell hv0 hc1
 obtain⟨b2,o2,ha2,s2,w2⟩:=hcell hv0 hc2
 rw[ha] at ha2;cases ha2
 obtain⟨b3,o3,ha3,s3,w3⟩:=hcell hv0 hc0
 rw[ha] at ha3;cases ha3
 simp only[Nat.zero_mul,Nat.add_zero] at s1 w1 s2 w2 s3 w3
 have hxz:x≠0∧y≠0:=by
  have f:=A2c hz1
  exact⟨f x (List.mem_of_getElem? hx),f y (List.mem_of_getElem? hy)⟩
 have hd1:=W4 hR hk1 hv0 hc1 hx hxz.1
 have hd2:=W4 hR hk1 hv0 hc2 hy hxz.2
 have hfresh:w.heap.size≤b:=by
  rcases htr.new _ _ s1 with h1 | h1
  rotate_left
  ·exact h1
  rcases htr.new _ _ s2 with h2 | h2
  rotate_left
  ·exact h2
  exfalso
  have e1:=(htr.s.cell h1).symm.trans w1
  have e2:=(htr.s.cell h2).symm.trans w2
  obtain⟨b1,o1,hb1,rfl,q1,q2⟩:=h1
  obtain⟨b1',o1',hb1',hbb,q3,q4⟩:=h2
  rw[hb1] at hb1';cases hb1'
  obtain⟨vsA,uA,m1,m2,_,m4⟩:=hS0 hb1 q1 q2
  obtain⟨vsB,uB,n1,n2,_,n4⟩:=hS0 hb1 q3 q4
  rw[e1] at m4;cases m4
  rw[e2] at n4;cases n4
  have hszp:0 < sz:=by
   rw[← hl'.1 vsA (List.mem_of_getElem? m1)];exact Nat.lt_of_le_of_lt (Nat.zero_le _) (nth?_lt m2)
  have hqA:=A6 (show(o+t - o1) % sz < q.length by rw[← hsz'];exact Nat.mod_lt _ hszp)
  have hqB:=A6 (show(o+(t+1) - o1) % sz < q.length by rw[← hsz'];exact Nat.mod_lt _ hszp)
  have f:=A2c hz2
  have k1:=W4 hr' hk2 m1 m2 hqA (f _ (List.getElem_mem _))
  have k2:=W4 hr' hk2 n1 n2 hqB (f _ (List.getElem_mem _))
  rw[hd1] at k1
  rw[hd2] at k2
  refine hno ((o+t - o1) % sz) (by rw[hqA,k1]) ?_
  have:((o+t - o1) % sz+1) % q.length=(o+(t+1) - o1) % sz:=by
   rw[← hsz',Nat.mod_add_mod];congr 1;omega
  rw[this,hqB,k2]
 have hbel:SExt S w S w':=fun b' o' hb'=>⟨hb',by
  obtain⟨u,hu⟩:=hs b' o' hb'
  exact Id (htr.below.block b' (Hr hu)) o'⟩
 obtain⟨c,E,f,hblk⟩:=A2l w3
 have hf:f=(0,0):=by
  obtain⟨v,hv,hvf⟩:=hsim.cell _ _ s3
  rw[Lr hblk w3] at hv
  cases hv
  exact hvf hfresh
 subst hf
 have hget:∀ {x:Nat} {u:Value},w'.cell? ⟨b,x,none⟩=some u→c.toList[x]?=some u:=by
  intro x u hx
  unfold World.cell? at hx
  simp only[hblk,Option.isSome] at hx
  simpa using hx
 have hcl:∀ k,k < vss.flatten.length→c.toList[o+k]?=vss.flatten[k]?:=by
  intro k hk
  have hk':=A6 hk
  obtain⟨vs,e1,e2⟩:=Qj hL.1 hk'
  obtain⟨b',o',e3,_,e5⟩:=hcell e1 e2
  rw[ha] at e3;cases e3
  have e6:o+k / size*size+k % size=o+k:=by rw[Nat.add_assoc,Nat.div_add_mod']
  rw[e6] at e5
  rw[hget e5,hk']
 have hol:o < c.toList.length:=nth?_lt (hget w3)
 have hpre:(c.toList.take o).length=o:=by rw[List.length_take];omega
 have hmid:(c.toList.drop o).take vss.flatten.length=vss.flatten:=by
  refine List.ext_getElem? fun k=>?_
  rw[List.getElem?_take]
  split
  ·rename_i hk
   rw[List.getElem?_drop,hcl k hk]
  ·rename_i hk
   rw[List.getElem?_eq_none (by omega)]
 have hsplit:c=(c.toList.take o++(vss.flatten++(c.toList.drop o).drop vss.flatten.length)).toArray:=by
  apply Array.ext'
  show c.toList=c.toList.take o++(vss.flatten++(c.toList.drop o).drop vss.flatten.length)
  have e:vss.flatten++(c.toList.drop o).drop vss.flatten.length=c.toList.drop o:=by
   have:=List.take_append_drop vss.flatten.length (c.toList.drop o)
   rw[hmid] at this;exact this
  rw[e,List.take_append_drop]
 have hblk':w'.heap[b]?=some (.cells (c.toList.take o++(vss.flatten++(c.toList.drop o).drop vss.flatten.length)).toArray E (0,0)):=by
  rw[hblk];exact congrArg (fun z=>some (Obj.cells z E (0,0))) hsplit
 have hat:∀ i b',Af [Pl.ofs b o] i=some b'→i=0∧b'=b:=by
  intro i b' h
  cases i with
  | zero=>exact⟨rfl,(Option.some.inj h).symm⟩
  | succ i=>simp[Af] at h
 refine⟨_,S,[.ofs b o],rfl,.tup _ _ _ _ (.cons _ _ _ _ _ _ (.own _ _ 0 0 els.length b size els cap o rfl rfl (by omega) a (fun _=>by rw[ha];simp) hC) (Tl hrest gt)),⟨rfl,htr.below.size,fun b' o' h=>?_,fun id ob hob=>?_,fun i j b' hi hj=>?_⟩,⟨hbel,⟨fun _ _ _ h=>by simp at h,fun _ _ _ h=>by simp[nth?] at h,fun _ _ _ _ h=>by simp[nth?] at h,fun _ _ _ _ _ h=>by simp[nth?] at h⟩,htr.below,fun _ _ h=>.inl h,fun _ _ h=>.inl h,fun i b' h=>?_,fun b' h=>htr.below.block b' (Nat.lt_of_not_le fun h1=>h (.inr h1))⟩⟩
 ·obtain⟨u,hu⟩:=hs b' o' h
  exact⟨u,(hbel b' o' h).2.trans hu,fun hb=>absurd (Hr hu) (by omega)⟩
 ·cases id with
  | succ id=>simp at hob
  | zero =>
   simp only[List.getElem?_cons_zero,Option.some.injEq] at hob
   subst hob
   refine⟨b,vss,_,E,c.toList.take o,by rw[hpre];rfl,hfresh,hblk',Yq hz1 hk1 hR,hL.1,fun o' ho'=>?_⟩
   obtain⟨u,hu⟩:=hs b o' ho'
   have:=Hr hu
   omega
 ·rw[(hat i b' hi).1,(hat j b' hj).1]
 ·rw[(hat i b' h).2];exact .inr hfresh
theorem A73 {P:Program} {H:Bv} {call:Bp} (hc:Fy P H call) {b:Bool} {g:FuncId} {as:List AV} {v:AV} {hpn:Hp} (h:Acr P b call g as=some (v,hpn)) {S:Nat→Nat→Prop} {w:World} {vs:List Value} (hs:∀ b o,S b o→∃ u,stay w b o=some u) (hr:Reps S w [] [] as vs) :
 Calls P g vs.toArray w fun e w'=>∃ u S' φ',e=.returned u∧Rep S' w' hpn φ' v u∧Sim P w.heap.size S' w' hpn φ'∧Trans w.heap.size S w [] [] S' w' hpn φ':=by
 cases b with
 | true=>exact Af7 hc h hs hr
 | false=>exact hc true g as [] v hpn h w.heap.size S w [] vs ⟨rfl,Nat.le_refl _,fun b o h=>let ⟨u,hu⟩:=hs b o h;⟨u,hu,fun hb=>absurd (Hr hu) (by omega)⟩,fun id o ho=>by simp at ho,fun i j b hi=>by simp[Af] at hi⟩ hr
def Ahq (P:Program) (g:FuncId):Prop:=∃ fn,P.funcs[g]?=some fn∧(fn.name== "runtime.NumGoroutine")=false∧fn.body.isNone=false
def My (P:Program) (H:Bv):Prop:=∀ g,H.good.contains g=true→Ahq P g
section
variable {S:Nat→Nat→Prop} {w:World} {hp:Hp} {φ:List Pl} {P:Program} {base:Nat} {e:Operand→Value} {o:Oper} {tm:Tm} {ρ:Type} {r:ρ} {K:AV→Option ρ}
theorem A12 {t:TypeId} {a:AV} {v:Value} (h:Rep S w hp φ a v):Rep S w hp φ (A4n P t a) v:=by
 cases a<;>simp only[A4n]<;>first | exact h | skip
 case nils=>exact Y4 h
 case agg cs =>
  obtain⟨vs,h1,h2,rfl⟩:=h.agg_inv
  exact .agg _ _ _ _ (Of h1) h2
theorem H1 {ts:List TypeId} {l:List AV} {vs:List Value} (h:Reps S w hp φ l vs):Reps S w hp φ (Df P ts l) vs:=by
 induction ts generalizing l vs with
 | nil=>cases l<;>exact h
 | cons t ts ih=>cases l with
   | nil=>exact h
   | cons a l=>cases h with | cons _ _ _ v _ vs h t'=>exact .cons _ _ _ _ _ _ (A12 h) (ih t')
theorem Apj (ht:∀ x,Rep S w hp φ (ev tm x) (e x)) (l:List Operand):Reps S w hp φ (l.map (ev tm)) (l.map e):=by
 induction l with
 | nil=>exact .nil _ _
 | cons x l ih=>exact .cons _ _ _ _ _ _ (ht x) ih
theorem A31 (hs:Sim P base S w hp φ) (ht:∀ x,Rep S w hp φ (ev tm x) (e x)) {op:Op} (ho:o.op=op) (h:Bs P tm hp op K=some r):∃ v,K v=some r∧Acts P base S w hp φ e o v hp:=by
 have fin:(∃ v,K v=some r∧Gives P S w hp φ e o v)→∃ v,K v=some r∧Acts P base S w hp φ e o v hp:=fun⟨v,h1,h2⟩=>⟨v,h1,h2.acts hs⟩
 unfold Bs at h
 split at h
 case h_1 x=>exact fin ⟨_,h,S5 ht (.inl ho)⟩
 case h_2 x=>exact fin ⟨_,h,S5 ht (.inr ho)⟩
 case h_3 c x y =>
  split at h
  ·rename_i t hc
   refine fin ⟨_,?_,Adp ht ho hc⟩
   cases t<;>exact h
  ·cases h
 case h_4 op t x y t'=>exact fin (Abp ht ho h)
 case h_5 t x =>
  split at h
  ·rename_i b hc;exact fin ⟨_,h,Aik ht ho hc⟩
  ·cases h
 case h_6 t x =>
  split at h
  ·rename_i k n hc;exact fin ⟨_,h,Akf ht ho hc⟩
  ·cases h
 case h_7 s t x =>
  split at h
  ·rename_i k hu
   split at h
   ·rename_i hs'
    split at h
    ·rename_i k' n hx;exact fin ⟨_,h,A7e ht ho hu hs' hx⟩
    ·cases h
   ·cases h
  ·rename_i hu
   split at h
   ·rename_i k hsu
    split at h
    ·rename_i k' n hx
     by_cases hq:(decide (0≤n)&&decide (n < 128))=true
     ·rw[hq] at h
      simp only[A8,Ai] at hq
      exact fin ⟨_,h,Aen ht ho hu hsu hx hq.1 hq.2⟩
     ·rw[Bool.not_eq_true] at hq;rw[hq] at h;cases h
    ·cases h
   ·rename_i et hsu
    split at h
    ·rename_i he
     split at h
     ·rename_i els hx
      by_cases hq:(els.all A1l&&decide (els.length≤140737488355328))=true
      ·rw[hq] at h
       simp only[A8,Ai] at hq
       exact fin ⟨_,h,Abw hs ht ho hu hsu he hx hq.1 hq.2⟩
      ·rw[Bool.not_eq_true] at hq;rw[hq] at h;cases h
     ·cases h
    ·cases h
   ·cases h
  ·cases h
 case h_8 x=>exact fin (A53 ht ho h)
 case h_9 t ps =>
  split at h
  ·rename_i fs hu
   split at h
   ·rename_i hall
    split at h
    ·rename_i z hz
     split at h
     ·rename_i cs hcs;exact fin ⟨_,h,Ab7 ht ho hu hall hz hcs⟩
     ·cases h
    ·cases h
   ·cases h
  ·rename_i et hu
   split at h
   ·rename_i hall
    split at h
    ·rename_i z hz
     split at h
     ·rename_i cs hcs;exact fin ⟨_,h,A7x ht ho hu hall hz hcs⟩
     ·cases h
    ·cases h
   ·cases h
  ·cases h
 case h_10 t n ps =>
  split at h
  ·rename_i et he
   split at h
   ·rename_i hc
    simp only[Ai] at hc
    have hsz:=hc
    split at h
    ·rename_i z hz
     split at h
     ·rename_i hc
      simp only[A8,Ai] at hc
      obtain⟨⟨h1,h2⟩,h3⟩:=hc
      split at h
      ·rename_i zc hzc
       split at h
       ·rename_i els hels;exact⟨_,h,(T3 hs ht ho (J6 he) h3 hsz hz h1 h2 hzc hels).stay hs⟩
       ·cases h
      ·cases h
     ·cases h
    ·cases h
   ·cases h
  ·cases h
 case h_11 t n c =>
  split at h
  ·rename_i et he
   split at h
   ·rename_i l hn
    split at h
    ·rename_i l' hc
     split at h
     ·rename_i z hz
      split at h
      ·rename_i hb
       simp only[A8,Ai] at hb
       cases hzc:D0 [] (Jx P (Gk P 6 et) z.cells) with
       | none=>rw[hzc] at h;cases h
       | some zc =>
       rw[hzc] at h
       simp only at h
       by_cases hq:((decide (0≤l)&&decide (l=l'))&&decide (P.bytesOf et*l≤140737488355328))=true
       ·rw[hq] at h
        simp only[A8,Ai] at hq
        obtain⟨⟨q1,rfl⟩,q3⟩:=hq
        exact⟨_,h,(U2 hs ht ho (J6 he) hn hc q1 q3 hz hb.1 hb.2 hzc).stay hs⟩
       ·rw[Bool.not_eq_true] at hq;rw[hq] at h;cases h
      ·cases h
     ·cases h
    ·cases h
   ·cases h
  ·cases h
 case h_12 t x=>exact fin (Afx hs ht ho h)
 case h_13 t x f =>
  split at h
  ·rename_i p hp'
   split at h
   ·rename_i hz;exact fin (A26 ht ho hp' (of_decide_eq_true hz) h)
   ·cases h
  ·cases h
 case h_14 t x f =>
  split at h
  ·rename_i p hp'
   split at h
   ·rename_i cs hx;exact fin (Abk ht ho hp' hx h)
   ·cases h
  ·cases h
 case h_15 t x y =>
  split at h
  ·rename_i k i hi;exact fin (A2u hs ht ho hi h)
  ·cases h
 case h_16 t x y =>
  split at h
  ·rename_i k i hi
   split at h
   ·rename_i hu
    split at h
    ·rename_i s hx
     by_cases hq:(decide (0≤i)&&decide (i < s.length))=true
     ·rw[hq] at h
      simp only[A8,Ai] at hq
      simp only[As] at h
      split at h
      ·rename_i b hb;exact fin ⟨_,h,Abv ht ho hi hu hx hq.1 hb⟩
      ·cases h
     ·rw[Bool.not_eq_true] at hq;rw[hq] at h;cases h
    ·cases h
   ·rename_i n et hu
    split at h
    ·rename_i cs hx;exact fin (A5j ht ho hi hu hx h)
    ·cases h
   ·cases h
  ·cases h
 case h_17 t x lo hi =>
  split at h
  ·rename_i hu
   split at h
   ·rename_i s hx;exact fin (Aa1 ht ho hu hx h)
   ·cases h
  ·rename_i et hu
   split at h
   ·rename_i hz;exact fin (Aee hs ht ho hu (of_decide_eq_true hz) h)
   ·cases h
  ·cases h
 case h_18 x k =>
  split at h
  ·rename_i cs hx
   split at h
   ·rename_i v hv;exact fin ⟨_,h,A6w ht ho hx hv⟩
   ·cases h
  ·cases h
 case h_19 f a b=>exact fin ⟨_,h,A4q ht ho⟩
 case h_20 c =>
  obtain⟨cal,args,ats⟩:=c
  simp only at h
  split at h
  ·split at h
   ·rename_i x
    split at h
    ·rename_i t
     split at h
     ·rename_i hu
      split at h
      ·rename_i s hx;exact fin ⟨_,h,A6t ht ho hu hx⟩
      ·cases h
     ·rename_i et hu;exact fin (A2j ht ho hu h)
     ·cases h
    ·cases h
   ·cases h
  ·split at h
   ·rename_i x y
    split at h
    ·rename_i k a hx
     split at h
     ·rename_i k' b hy
      split at h
      ·rename_i hk;exact fin ⟨_,h,Aj7 ht ho hx hy (of_decide_eq_true hk)⟩
      ·cases h
     ·cases h
    ·cases h
   ·rename_i x y z
    split at h
    ·rename_i k a hx
     split at h
     ·rename_i k' b hy
      split at h
      ·rename_i k2 c hz
       split at h
       ·rename_i hk
        rw[A8] at hk
        exact fin ⟨_,h,Afu ht ho hx hy hz (of_decide_eq_true hk.1) (of_decide_eq_true hk.2)⟩
       ·cases h
      ·cases h
     ·cases h
    ·cases h
   ·cases h
  ·split at h
   ·rename_i x y
    split at h
    ·rename_i k a hx
     split at h
     ·rename_i k' b hy
      split at h
      ·rename_i hk;exact fin ⟨_,h,Agr ht ho hx hy (of_decide_eq_true hk)⟩
      ·cases h
     ·cases h
    ·cases h
   ·rename_i x y z
    split at h
    ·rename_i k a hx
     split at h
     ·rename_i k' b hy
      split at h
      ·rename_i k2 c hz
       split at h
       ·rename_i hk
        rw[A8] at hk
        exact fin ⟨_,h,Afn ht ho hx hy hz (of_decide_eq_true hk.1) (of_decide_eq_true hk.2)⟩
       ·cases h
      ·cases h
     ·cases h
    ·cases h
   ·cases h
  ·cases h
 case h_21 t m x ok=>exact fin (Aah hs ht ho h)
 case h_22 t x =>
  split at h
  ·rename_i hi
   split at h
   ·rename_i a hc;exact fin ⟨_,h,Ab6 ht ho hi hc⟩
   ·cases h
  ·cases h
 case h_23 x t a ok=>exact fin (A8y ht ho h)
 case h_24=>cases h
theorem A21 (hs:Sim P base S w hp φ) (ht:∀ x,Rep S w hp φ (ev tm x) (e x)) {op:Op} (ho:o.op=op) {t:TypeId} (hop:(∃ n ps,op=.buildSlice t n ps)∨(∃ n c,op=.makeSlice t n c)) (h:Bs P tm hp op K=some r) :
 ∃ et els,Fr P t=some et∧K (.sl (P.cellsOf et) els)=some r∧FreshS P S w e o et (P.cellsOf et) els:=by
 rcases hop with ⟨n,ps,rfl⟩ | ⟨n,c,rfl⟩
 ·simp only[Bs] at h
  split at h
  ·rename_i et he
   split at h
   ·rename_i hc
    simp only[Ai] at hc
    have hsz:=hc
    split at h
    ·rename_i z hz
     split at h
     ·rename_i hc
      simp only[A8,Ai] at hc
      obtain⟨⟨h1,h2⟩,h3⟩:=hc
      split at h
      ·rename_i zc hzc
       split at h
       ·rename_i els hels;exact⟨et,els,he,h,T3 hs ht ho (J6 he) h3 hsz hz h1 h2 hzc hels⟩
       ·cases h
      ·cases h
     ·cases h
    ·cases h
   ·cases h
  ·cases h
 ·simp only[Bs] at h
  split at h
  ·rename_i et he
   split at h
   ·rename_i l hn
    split at h
    ·rename_i l' hc
     split at h
     ·rename_i z hz
      split at h
      ·rename_i hb
       simp only[A8,Ai] at hb
       cases hzc:D0 [] (Jx P (Gk P 6 et) z.cells) with
       | none=>rw[hzc] at h;cases h
       | some zc =>
       rw[hzc] at h
       simp only at h
       by_cases hq:((decide (0≤l)&&decide (l=l'))&&decide (P.bytesOf et*l≤140737488355328))=true
       ·rw[hq] at h
        simp only[A8,Ai] at hq
        obtain⟨⟨q1,rfl⟩,q3⟩:=hq
        exact⟨et,_,he,h,U2 hs ht ho (J6 he) hn hc q1 q3 hz hb.1 hb.2 hzc⟩
       ·rw[Bool.not_eq_true] at hq;rw[hq] at h;cases h
      ·cases h
     ·cases h
    ·cases h
   ·cases h
  ·cases h
theorem A6e (hs:Sim P base S w hp φ) {t et:TypeId} {els:List (List AV)} (he:Fr P t=some et) (hf:FreshS P S w e o et (P.cellsOf et) els) {b1 b2:Bool} {K:AV→Hp→Option ρ} (h:Nx P t b1 b2 hp K (.sl (P.cellsOf et) els)=some r):∃ v hp',K v hp'=some r∧Acts P base S w hp φ e o v hp':=by
 unfold Nx at h
 cases b1 with
 | true =>
  rw[he] at h
  simp only at h
  split at h
  ·rename_i hq
   simp only[A8,Ai] at hq
   cases b2 with
   | true=>simp only[B2] at h;exact⟨_,_,h,hf.stk hs rfl hq.2⟩
   | false=>simp only[B2] at h;exact⟨_,_,h,hf.row hs rfl hq.2⟩
  ·cases h
 | false =>
  cases b2 with
  | true=>simp only[B2] at h;exact⟨_,_,h,hf.arr hs⟩
  | false=>exact⟨_,_,h,hf.stay hs⟩
theorem Acts.wp {a:Act} {v:AV} {hp':Hp} {next:Act→World→Prop} {Q:Exit→Act→World→Prop} (h:Acts P base S w hp φ a.eval o v hp') (hn:∀ u S' φ' w',Rep S' w' hp' φ' v u→Sim P base S' w' hp' φ'→Trans base S w hp φ S' w' hp' φ'→next (a.put o.dst u) w'):o.wp P a w next Q:=by
 obtain⟨u,S',φ',w',h1,h2,h3,h4⟩:=h
 unfold Oper.wp
 rcases h1 with h1 | ⟨h1,rfl⟩
 ·rw[h1];exact hn u S' φ' w' h2 h3 h4
 ·rw[h1];exact hn undef S' φ' w' h2 h3 h4
theorem Aa9 {g:FuncId} {args:Array Value} (hg:Ahq P g):(callFunc g args).run P w=.ok (.enter g args) w:=by
 obtain⟨fn,h1,h2,h3⟩:=hg
 simp only[callFunc,Sem.run_bind,run_program,Result.andThen_ok,h1,h2,h3,Bool.false_eq_true,if_false,Sem.run_pure]
theorem Abc {H:Bv} {call:Bp} (hH:My P H) (hc:Fy P H call) {f:FuncId} {a:Act} {K:AV→Hp→Option ρ} (hs:Sim P base S w hp φ) (ht:∀ x,Rep S w hp φ (ev tm x) (a.eval x)) (h:By P H call f o tm hp K=some r)
 {next:Act→World→Prop} {Q:Exit→Act→World→Prop} (hn:∀ v hp' u S' φ' w',K v hp'=some r→Rep S' w' hp' φ' v u→Sim P base S' w' hp' φ'→Trans base S w hp φ S' w' hp' φ'→next (a.put o.dst u) w'):o.wp P a w next Q:=by
 have fin:(∃ v hp',K v hp'=some r∧Acts P base S w hp φ a.eval o v hp')→o.wp P a w next Q:=fun⟨v,hp',h1,h2⟩=>h2.wp fun u S' φ' w' h3 h4 h5=>hn v hp' u S' φ' w' h1 h3 h4 h5
 have pur:∀ {op:Op},o.op=op→Bs P tm hp op (fun v=>K v hp)=some r→o.wp P a w next Q:=fun ho h=>by
  obtain⟨v,h1,h2⟩:=A31 hs ht ho h
  exact fin ⟨v,hp,h1,h2⟩
 unfold By at h
 split at h
 case h_1 x ho =>
  split at h
  ·rename_i hx
   split at h
   ·split at h
    ·rename_i et he
     split at h
     ·rename_i hz
      rw[B2] at h
      exact fin ⟨_,_,h,Am0 hs ht ho hx (of_decide_eq_true hz)⟩
     ·cases h
    ·cases h
   ·split at h
    ·split at h
     ·rename_i et he
      split at h
      ·rename_i hz
       rw[B2] at h
       exact fin ⟨_,_,h,A9w hs ht ho hx (of_decide_eq_true hz)⟩
      ·cases h
     ·cases h
    ·refine fin ⟨_,_,h,Gives.acts ?_ hs⟩
     obtain⟨u,g1,g2⟩:=S5 (P:=P) ht (.inr ho)
     rw[hx] at g2
     refine⟨u,g1,?_⟩
     unfold Aet
     split
     ·exact Y4 g2
     ·exact g2
  ·exact fin ⟨_,_,h,(S5 ht (.inr ho)).acts hs⟩
 case h_2 t n ps ho =>
  obtain⟨et,els,he,hk,hf⟩:=A21 hs ht ho (.inl ⟨_,_,rfl⟩) h
  exact fin (A6e hs he hf hk)
 case h_3 t n c ho =>
  obtain⟨et,els,he,hk,hf⟩:=A21 hs ht ho (.inr ⟨_,_,rfl⟩) h
  exact fin (A6e hs he hf hk)
 case h_4 t ho =>
  split at h
  ·rename_i z hz
   split at h
   ·rename_i hb
    simp only[A8,Ai] at hb
    rw[B2] at h
    exact fin ⟨_,_,h,Ae9 hs ho hz hb.2⟩
   ·cases h
  ·cases h
 case h_5 t x ho =>
  split at h
  ·rename_i hb
   rw[B2] at h
   exact fin ⟨_,_,h,Ale hs ht ho hb⟩
  ·cases h
 case h_6 t y x ho =>
  split at h
  ·rename_i hb
   simp only[A8,Ai] at hb
   obtain⟨⟨b1,b2⟩,b3⟩:=hb
   split at h
   ·rename_i id off ha
    split at h
    ·rename_i E cs hob
     by_cases hq:off+P.cellsOf t≤cs.length
     ·rw[decide_eq_true hq] at h
      simp only[As] at h
      rw[B2] at h
      exact fin ⟨_,_,h,V8 hs ht ho b1 b2 b3 (.inl ha) hob hq⟩
     ·rw[decide_eq_false hq] at h;cases h
    ·cases h
   ·rename_i id off ha
    split at h
    ·rename_i E cs hob
     by_cases hq:off+P.cellsOf t≤cs.length
     ·rw[decide_eq_true hq] at h
      simp only[As] at h
      rw[B2] at h
      exact fin ⟨_,_,h,V8 hs ht ho b1 b2 b3 (.inr ha) hob hq⟩
     ·rw[decide_eq_false hq] at h;cases h
    ·cases h
   ·rename_i id i off ha
    split at h
    ·rename_i size els hob
     split at h
     ·rename_i el hel
      split at h
      ·rename_i c hcl
       by_cases hq:off+P.cellsOf t≤el.length
       ·rw[decide_eq_true hq] at h
        simp only[As] at h
        rw[B2] at h
        exact fin ⟨_,_,h,A58 hs ht ho b1 b2 b3 ha hob hel hcl hq⟩
       ·rw[decide_eq_false hq] at h;cases h
      ·cases h
     ·cases h
    ·cases h
   ·rename_i id ver i off ha
    split at h
    ·rename_i v et size els hob
     split at h
     ·rename_i hv
      have hv:=of_decide_eq_true hv
      subst hv
      split at h
      ·rename_i el hel
       split at h
       ·rename_i c hcl
        by_cases hq:off+P.cellsOf t≤el.length
        ·rw[decide_eq_true hq] at h
         simp only[As] at h
         rw[B2] at h
         exact fin ⟨_,_,h,A4y hs ht ho b1 b2 b3 ha hob hel hcl hq⟩
        ·rw[decide_eq_false hq] at h;cases h
       ·cases h
      ·cases h
     ·cases h
    ·cases h
   ·cases h
  ·cases h
 case h_7 c ho =>
  obtain⟨cal,args,ats⟩:=c
  simp only at h
  split at h
  ·rename_i fo
   split at h
   ·rename_i g x y hg
    split at h
    ·rename_i hgood
     have hgf:=hH g hgood
     have hfo:=ht fo
     rw[hg] at hfo
     obtain⟨fa,fb,hx,hy,he⟩:=hfo.func_inv
     have hargs:=Apj ht args.toList
     have hrun:(execOp a.eval o).run P w=.ok (.enter g (fa++args.toList.map a.eval++fb).toArray) w:=by
      have e1:(fa.toArray++args.map a.eval)++fb.toArray=(fa++args.toList.map a.eval++fb).toArray:=by
       apply Array.ext';simp
      simp only[execOp,ho,resolve,he,Deferred.ofValue,invoke,Sem.run_bind,Sem.run_pure,Result.andThen_ok,Aa9 hgf,e1]
     split at h
     ·split at h
      ·rw[B2] at h
       obtain⟨φ1,hs1,ht1⟩:=Xi (P:=P) (fun _=>false) (Tr H f fo g) hs
       have hcl:=Gz (fun a v h=>A61 h) (Reps.mono ht1.s (Reps.append (Reps.append hx (H1 (P:=P) (ts:=ats.toList) hargs)) hy) ht1.hp)
       unfold Tg at h
       split at h
       rotate_left
       ·cases h
       rw[Dp Fw] at h
       split at h
       rotate_left
       ·cases h
       rename_i ids hids
       rw[M9] at h
       obtain⟨rnd,rin,_⟩:=A0u _ _ _ _ _ hids List.nodup_nil (fun id h=>by cases h)
       unfold A13 at h
       rw[Dp Fw,B2] at h
       split at h
       ·rename_i v hpn hcall
        split at h
        ·rename_i hlen
         rw[B2] at h
         have:=hc _ _ _ _ v hpn hcall base S w _ _ (hs1.sub rnd rin) (Gz (fun a v h=>Mb (A5n hs1 rin) h) hcl)
         unfold Oper.wp
         rw[hrun]
         refine this.mono ?_
         rintro e w' ⟨u,S',φ',rfl,h1,h2,h3⟩
         obtain⟨φ2,k1,k2,k3⟩:=hs1.backA rnd rin h2 h3 (of_decide_eq_true hlen)
         exact hn _ _ u S' φ2 w' h (A0w k3 h1) k1 (ht1.trans k2)
        ·cases h
       ·cases h
      ·rw[B2] at h
       obtain⟨φ1,hs1,ht1⟩:=Xi (P:=P) (fun _=>false) (Tr H f fo g) hs
       have hcl:=Gz (fun a v h=>Ajv (nr:=H.raw g) h) (Reps.mono ht1.s (Reps.append (Reps.append hx (H1 (P:=P) (ts:=ats.toList) hargs)) hy) ht1.hp)
       unfold Mq at h
       split at h
       rotate_left
       ·cases h
       rw[Dp Fw] at h
       split at h
       rotate_left
       ·cases h
       rename_i ids hids
       rw[M9] at h
       obtain⟨rnd,rin,_⟩:=A0u _ _ _ _ _ hids List.nodup_nil (fun id h=>by cases h)
       unfold Vf at h
       rw[Dp Fw,B2] at h
       split at h
       ·rename_i v hpn hcall
        split at h
        ·rename_i hlen
         rw[B2] at h
         have:=hc _ _ _ _ v hpn hcall base S w _ _ (hs1.sub rnd rin) (Gz (fun a v h=>Mb (A5n hs1 rin) h) hcl)
         unfold Oper.wp
         rw[hrun]
         refine this.mono ?_
         rintro e w' ⟨u,S',φ',rfl,h1,h2,h3⟩
         obtain⟨φ2,k1,k2,k3⟩:=hs1.back rnd rin h2 h3 (of_decide_eq_true hlen)
         exact hn _ _ u S' φ2 w' h (A0w k3 h1) k1 (ht1.trans k2)
        ·cases h
       ·cases h
     ·split at h
      ·split at h
       ·rename_i as has
        split at h
        ·rename_i v hpn hcall
         rw[B2] at h
         have hcl:=X6 (Reps.append (Reps.append hx (H1 hargs)) hy) has
         have:=A73 hc hcall (fun b o h=>let ⟨u,hu,_⟩:=hs.cell b o h;⟨u,hu⟩) hcl
         unfold Oper.wp
         rw[hrun]
         refine this.mono ?_
         rintro e w' ⟨u,S',φ',rfl,h1,h2,h3⟩
         obtain⟨k1,k2,k3⟩:=hs.adopt h1 h2 h3
         exact hn _ _ u S' (φ++φ') w' h k1 k2 k3
        ·cases h
       ·cases h
      split at h
      ·split at h
       ·rename_i as has
        split at h
        ·rename_i v hcall
         have hcl:=X6 (Reps.append (Reps.append hx (H1 hargs)) hy) has
         have hs0:Sim P w.heap.size S w [] []:=⟨rfl,Nat.le_refl _,hs.cell0,fun id o ho=>by simp at ho,fun i j b hi=>by simp[Af] at hi⟩
         have:=hc false g as [] v [] hcall w.heap.size S w [] _ hs0 hcl
         unfold Oper.wp
         rw[hrun]
         refine this.mono ?_
         rintro e w' ⟨u,S',φ',rfl,h1,h2,h3⟩
         have hφ:φ'=[]:=List.eq_nil_of_length_eq_zero h2.len
         subst hφ
         have hkeep:Sim P base S' w' hp φ:=hs.keep h3.s h3.below.size (hs.cell_of h2 h3) fun id b hb=>by
          have hlt:=(hs.block_lt hb).2
          exact⟨h3.below.block b hlt,fun o=>⟨fun h=>(h3.new b o h).elim (fun h=>h) fun h=>by omega,fun h=>(h3.s b o h).1⟩⟩
         exact hn v hp u S' φ w' h h1.lift hkeep ⟨h3.s,.refl _ _,h3.below.mono hs.low,fun b o h=>(h3.new b o h).elim .inl fun h=>.inr (Nat.le_trans hs.low h),fun b o h=>(h3.new b o h).elim .inl fun h=>.inr (.inr h),Ie,fun b hb=>h3.below.block b (Hz hb).1⟩
        ·cases h
       ·cases h
      ·split at h
       ·rename_i as has
        split at h
        ·rename_i v hcall
         split at h
         ·rename_i hfl
          have hcl:=A42 hs (Reps.append (Reps.append hx (H1 hargs)) hy) has
          have hs0:Sim P w.heap.size (Lk S w hp φ) w [] []:=⟨rfl,Nat.le_refl _,A9l hs,fun id o ho=>by simp at ho,fun i j b hi=>by simp[Af] at hi⟩
          have:=hc false g as [] v [] hcall w.heap.size (Lk S w hp φ) w [] _ hs0 hcl
          unfold Oper.wp
          rw[hrun]
          refine this.mono ?_
          rintro e w' ⟨u,S',φ',rfl,h1,h2,h3⟩
          have hS1:SExt S w S w':=fun b o hb=>⟨hb,(h3.s b o (.inl hb)).2⟩
          have hkeep:Sim P base S w' hp φ:=hs.keep hS1 h3.below.size (fun b o hb=>by
           obtain⟨u,hu,hf⟩:=hs.cell b o hb
           exact⟨u,(hS1 b o hb).2.trans hu,hf⟩) fun id b hb=>⟨h3.below.block b (hs.block_lt hb).2,fun o=>.rfl⟩
          exact hn v hp u S φ w' h (Anp hfl h1) hkeep ⟨hS1,.refl _ _,h3.below.mono hs.low,fun b o h=>.inl h,fun b o h=>.inl h,Ie,fun b hb=>h3.below.block b (Hz hb).1⟩
         ·cases h
        ·cases h
       ·cases h
    ·cases h
   ·cases h
  ·split at h
   ·rename_i d x
    split at h
    ·rename_i t t'
     split at h
     ·rename_i et he
      split at h
      ·rename_i id off n hd
       split at h
       ·rename_i size els hob
        split at h
        ·rename_i hq
         simp only[A8,Ai] at hq
         split at h
         ·rename_i news hnews
          by_cases hq2:off+n≤els.length
          ·rw[decide_eq_true hq2] at h
           simp only[As] at h
           rw[B2] at h
           exact fin ⟨_,_,h,Ak3 hs ht ho (J6 he) hd hob hq.1 hq.2 hnews hq2⟩
          ·rw[decide_eq_false hq2] at h;cases h
         ·cases h
        ·cases h
       ·cases h
      ·cases h
     ·cases h
    ·cases h
   ·cases h
  ·split at h
   ·rename_i s x
    split at h
    ·rename_i t t'
     split at h
     ·rename_i htt
      have htt:=of_decide_eq_true htt
      subst htt
      split at h
      ·rename_i et he
       split at h
       ·rename_i z hz
        split at h
        ·rename_i hb
         simp only[A8,Ai] at hb
         obtain⟨⟨b1,b2⟩,b3⟩:=hb
         split at h
         ·rename_i news hnews
          split at h
          ·rename_i hsv
           by_cases hq:news.length*(P.bytesOf et+1)≤140737488355328
           ·rw[decide_eq_true hq] at h
            simp only[As] at h
            split at h
            ·split at h
             ·exact fin ⟨_,_,h,X7 hs ht ho (J6 he) b3 hz b1 b2 hnews hsv hq⟩
             rw[B2] at h
             exact fin ⟨_,_,h,A28 hs ht ho (J6 he) b3 hz b1 b2 hnews hsv hq⟩
            ·by_cases hq2:news.length=0
             ·rw[decide_eq_true hq2] at h
              simp only[As] at h
              exact fin ⟨_,_,h,Ox hs ht ho (J6 he) b3 hz b1 b2 hnews hsv hq2⟩
             ·rw[decide_eq_false hq2] at h
              simp only[B3] at h
              rw[B2] at h
              exact fin ⟨_,_,h,X8 hs ht ho (J6 he) b3 hz b1 b2 hnews hsv hq hq2⟩
           ·rw[decide_eq_false hq] at h;cases h
          ·rename_i id n hsv
           split at h
           ·rename_i e' size els hob
            split at h
            ·rename_i hq1
             simp only[A8,Ai] at hq1
             obtain⟨rfl,rfl⟩:=hq1
             by_cases hq:(decide (n=els.length)&&decide ((els.length+news.length)*(P.bytesOf e'+1)≤140737488355328))=true
             ·rw[hq] at h
              simp only[A8,Ai] at hq
              simp only[As] at h
              rw[B2] at h
              exact fin ⟨_,_,h,Abl hs ht ho (J6 he) b3 hz b1 b2 hnews hsv hob hq.1 hq.2⟩
             ·rw[Bool.not_eq_true] at hq;rw[hq] at h;cases h
            ·cases h
           ·cases h
          ·rename_i id ver n hsv
           split at h
           ·rename_i v e' size els hob
            split at h
            ·rename_i hq1
             simp only[A8,Ai] at hq1
             obtain⟨_,⟨rfl,rfl⟩,rfl⟩:=hq1
             by_cases hq:(decide (n=els.length)&&decide ((els.length+news.length)*(P.bytesOf e'+1)≤140737488355328))=true
             ·rw[hq] at h
              simp only[A8,Ai] at hq
              simp only[As] at h
              rw[B2] at h
              exact fin ⟨_,_,h,A2k hs ht ho (J6 he) b3 hz b1 b2 hnews hsv hob hq.1 hq.2⟩
             ·rw[Bool.not_eq_true] at hq;rw[hq] at h;cases h
            ·cases h
           ·cases h
          ·cases h
         ·cases h
        ·cases h
       ·cases h
      ·cases h
     ·cases h
    ·cases h
   ·cases h
  ·rw[ho] at h;exact pur ho h
 case h_8 t x lo hi mx ho =>
  obtain⟨v,h1,h2⟩:=A31 hs ht ho h
  unfold A5e at h1
  split at h1
  ·exact fin ⟨v,hp,h1,h2⟩
  ·split at h1
   ·rename_i id ver n
    split at h1
    ·rename_i vr et size els hob
     split at h1
     ·rename_i hv
      have hv:=of_decide_eq_true hv
      subst hv
      rw[B2] at h1
      exact fin ⟨_,_,h1,Aof h2 hob⟩
     ·cases h1
    ·cases h1
   ·cases h1
 case h_9 t rr ho =>
  split at h
  ·rename_i kt et hmo
   split at h
   ·rename_i hres
    split at h
    ·rename_i kd hkd
     split at h
     ·rw[B2] at h
      exact fin ⟨_,_,h,Y2 hs ht ho hmo hres kd true⟩
     ·rw[B2] at h
      exact fin ⟨_,_,h,Y2 hs ht ho hmo hres kd false⟩
    ·cases h
   ·cases h
  ·cases h
 case h_10 t m k x ho=>exact fin (A6o hs ht (.inl ho) h)
 case h_11 t m k x ho=>exact fin (A6o hs ht (.inr ho) h)
 case h_12 t m k ho=>exact fin (Aiv hs ht ho h)
 case h_13 t m s x ho=>exact fin (Aai hs ht ho h)
 case h_14=>exact pur rfl h
end
section
variable {S:Nat→Nat→Prop} {w:World} {hp:Hp} {φ:List Pl} {P:Program} {base:Nat} {H:Bv} {call:Bp} {f:FuncId} {ops:Array Oper} {tm:Tm} {ρ:Type} {r:ρ}
theorem Aan {a:Act} (h:Reps S w hp φ tm a.tmps.toList) (d:Option Tmp) {v:AV} {u:Value} (hv:Rep S w hp φ v u):Reps S w hp φ (put tm d v) (a.put d u).tmps.toList:=by
 cases d with
 | none=>exact h
 | some d =>
  simp only[put,Act.put,B8,Array.toList_setIfInBounds]
  exact h.set d hv
theorem A1k (a:Act) (d:Option Tmp) (u:Value):(a.put d u).defers=a.defers:=by cases d<;>rfl
theorem Ada {a:Act} (h:Reps S w hp φ tm a.tmps.toList) {j t:Nat} (hj:(nth? ops.toList j).bind (·.dst)=some t) {b:Bool} (hb:nth .junk tm t=.bool b):yielded ops a.tmps j=some b:=by
 rw[nth?_eq] at hj
 have h1:(ops[j]?).bind (·.dst)=some t:=by simpa using hj
 rw[Yx] at hb
 cases ht:tm[t]? with
 | none=>rw[ht] at hb;cases hb
 | some av =>
  rw[ht] at hb
  simp only[Option.getD_some] at hb
  subst hb
  obtain⟨v,hv,hr⟩:=h.get' ht
  have:=hr.bool_inv
  subst this
  have h2:a.tmps[t]?=some (.bool b):=by simpa using hv
  simp[yielded,h1,h2]
theorem A7b {a:Act} (h:Reps S w hp φ tm a.tmps.toList) {j t:Nat} (hj:(nth? ops.toList j).bind (·.dst)=some t) (hb:nth .junk tm t=.tup []):yielded ops a.tmps j=none:=by
 rw[nth?_eq] at hj
 have h1:(ops[j]?).bind (·.dst)=some t:=by simpa using hj
 rw[Yx] at hb
 cases ht:tm[t]? with
 | none=>rw[ht] at hb;cases hb
 | some av =>
  rw[ht] at hb
  simp only[Option.getD_some] at hb
  subst hb
  obtain⟨v,hv,hr⟩:=h.get' ht
  obtain⟨vs,h3,rfl⟩:=hr.tup_inv
  cases h3
  have h2:a.tmps[t]?=some (.tuple #[]):=by simpa using hv
  simp[yielded,h1,h2]
theorem Ry (hH:My P H) (hc:Fy P H call) {o:Oper} {a:Act} (hs:Sim P base S w hp φ) (ht:Reps S w hp φ tm a.tmps.toList) {C:Tm→Hp→Option ρ}
 (h:(match o.guard with
  | none=>By P H call f o tm hp fun v hp=>It tm o.dst v fun tm=>C tm hp
  | some (j,want)=>match (nth? ops.toList j).bind (·.dst) with
    | none=>none
    | some t=>match nth .junk tm t with
      | .bool b=>match want with
        | true=>bif b then By P H call f o tm hp (fun v hp=>It tm o.dst v fun tm=>C tm hp) else(It tm o.dst (.tup []) fun tm=>C tm hp)
        | false=>bif b then(It tm o.dst (.tup []) fun tm=>C tm hp) else By P H call f o tm hp (fun v hp=>It tm o.dst v fun tm=>C tm hp)
      | .tup []=>It tm o.dst (.tup []) fun tm=>C tm hp
      | _=>none)=some r)
 {next:Act→World→Prop} {Q:Exit→Act→World→Prop}
 (hn:∀ tm' hp' S' φ' a' w',C tm' hp'=some r→Reps S' w' hp' φ' tm' a'.tmps.toList→Sim P base S' w' hp' φ'→Trans base S w hp φ S' w' hp' φ'→a'.defers=a.defers→next a' w') :
 if Region.wanted o (yielded ops a.tmps) then o.wp P a w next Q else next (a.put o.dst undef) w:=by
 have hev:=fun x=>A8d ht x
 have yes:By P H call f o tm hp (fun v hp=>It tm o.dst v fun tm=>C tm hp)=some r→o.wp P a w next Q:=fun h=>by
  refine Abc hH hc hs hev h fun v hp' u S' φ' w' h1 h2 h3 h4=>?_
  rw[Si] at h1
  exact hn _ hp' S' φ' _ w' h1 (Aan (Reps.mono h4.s ht h4.hp) o.dst h2) h3 h4 (A1k _ _ _)
 have no:(It tm o.dst (.tup []) fun tm=>C tm hp)=some r→next (a.put o.dst undef) w:=fun h=>by
  rw[Si] at h
  exact hn _ hp S φ _ w h (Aan ht o.dst (.tup _ _ [] [] (.nil _ _))) hs (.refl _ _ _ _ _) (A1k _ _ _)
 cases hg:o.guard with
 | none =>
  rw[hg] at h
  rw[if_pos (by simp[Region.wanted,hg])]
  exact yes h
 | some p =>
  obtain⟨j,want⟩:=p
  rw[hg] at h
  simp only at h
  cases hj:(nth? ops.toList j).bind (·.dst) with
  | none=>rw[hj] at h;cases h
  | some t =>
   rw[hj] at h
   simp only at h
   cases hb:nth .junk tm t<;>rw[hb] at h<;>first | (cases h;done) | skip
   case tup l =>
    cases l with
    | cons _ _=>cases h
    | nil =>
     have hy:=A7b (ops:=ops) ht hj hb
     have hw:Region.wanted o (yielded ops a.tmps)=false:=by simp[Region.wanted,hg,hy]
     rw[hw,if_neg (by decide)]
     exact no h
   simp only at h
   rename_i b
   have hy:=Ada (ops:=ops) ht hj hb
   have hw:Region.wanted o (yielded ops a.tmps)=(b==want):=by simp[Region.wanted,hg,hy]
   rw[hw]
   cases want<;>cases b<;>simp only[As,B3] at h
   ·rw[if_pos (by decide)];exact yes h
   ·rw[if_neg (by decide)];exact no h
   ·rw[if_neg (by decide)];exact no h
   ·rw[if_pos (by decide)];exact yes h
theorem Ya (hH:My P H) (hc:Fy P H call) {Q:Exit→Act→World→Prop}:∀ (l:List Oper) (S:Nat→Nat→Prop) (w:World) (hp:Hp) (φ:List Pl) (tm:Tm) (a:Act) (K:Tm→Hp→Option ρ),Sim P base S w hp φ→Reps S w hp φ tm a.tmps.toList→Ou P H call f ops.toList l tm hp K=some r →
 (∀ tm' hp' S' φ' a' w',K tm' hp'=some r→Reps S' w' hp' φ' tm' a'.tmps.toList→Sim P base S' w' hp' φ'→Trans base S w hp φ S' w' hp' φ'→a'.defers=a.defers→Q .normal a' w')→wpList P ops Q l a w
 | [],S,w,hp,φ,tm,a,K,hs,ht,h,hn=>hn _ _ _ _ _ _ h ht hs (.refl _ _ _ _ _) rfl
 | o :: l,S,w,hp,φ,tm,a,K,hs,ht,h,hn=>by
  have:=Ry (ops:=ops) (C:=fun tm hp=>Ou P H call f ops.toList l tm hp K) hH hc hs ht (by
   exact h) (next:=wpList P ops Q l) (Q:=Q) fun tm' hp' S' φ' a' w' h1 h2 h3 h4 h5=>Ya hH hc l S' w' hp' φ' tm' a' K h3 h2 h1 fun tm'' hp'' S'' φ'' a'' w'' g1 g2 g3 g4 g5=>hn _ _ _ _ _ _ g1 g2 g3 (h4.trans g4) (g5.trans h5)
  unfold wpList
  split
  ·rename_i hw;rw[if_pos hw] at this;exact .inl this
  ·rename_i hw;rw[if_neg hw] at this;exact this
end
def Ar7:Ob→Bool
 | .mp _ _ _=>true
 | .mpo _ _=>true
 | _=>false
def Pg (S:Nat→Nat→Prop) (w:World) (hp:Hp) (φ:List Pl) (h0:Nat):Nat→Nat→Prop:=fun b o=>S b o∨(∃ id size els,h0≤id∧hp[id]?=some (.arr size els)∧(∃ o0,φ[id]?=some (.ofs b o0))∧∃ v,w.cell? ⟨b,o,none⟩=some v)∨(∃ id ver e size els,h0≤id∧hp[id]?=some (.stk ver e size els)∧(∃ v0,φ[id]?=some (.sv v0)∧v0.ownBlock=some b∧∃ v,w.cell? ⟨b,o,none⟩=some v))∨∃ id ob,h0≤id∧hp[id]?=some ob∧Ar7 ob=true∧φ[id]?=some (.blk b)∧o=0∧∃ es k,w.heap[b]?=some (.map es k)
section
variable {S:Nat→Nat→Prop} {w:World} {hp:Hp} {φ:List Pl} {P:Program} {base h0:Nat}
theorem Fx:SExt S w (Pg S w hp φ h0) w:=fun b o h=>⟨.inl h,rfl⟩
theorem Ji {id:Nat} (hid:id < h0):(G4 h0 hp)[id]?=(hp[id]?).map (Ahv h0 hp):=by
 simp[G4,List.getElem?_take,hid]
theorem Hd {id:Nat} (hid:id < h0):(φ.take h0)[id]?=φ[id]?:=by simp[List.getElem?_take,hid]
theorem R3 (hs:Sim P base S w hp φ) {a:AV} {v:Value} (h:Rep S w hp φ a v):Rep (Pg S w hp φ h0) w (G4 h0 hp) (φ.take h0) (Wh h0 hp a) v:=by
 cases a<;>simp only[Wh]<;>first | exact .junk _ _ _ | skip
 case bool b=>have:=h.bool_inv;subst this;exact .bool _ _ _
 case int k n=>obtain⟨rfl,h1⟩:=h.int_inv;exact .int _ _ _ _ h1
 case str s=>obtain⟨rfl,h1⟩:=h.str_inv;exact .str _ _ _ h1
 case nilp=>cases h;exact .nilp _ _
 case ptr id off =>
  obtain⟨b,hb,rfl⟩:=h.ptr_inv
  by_cases hid:id < h0
  ·rw[decide_eq_true hid];exact .ptr _ _ id off b ((Hd hid).trans hb)
  ·rw[decide_eq_false hid];exact .junk _ _ _
 case vsl id off n c =>
  obtain⟨b,hb,rfl⟩:=h.vsl_inv
  by_cases hid:id < h0
  ·rw[decide_eq_true hid];exact .vsl _ _ id off n c b ((Hd hid).trans hb)
  ·rw[decide_eq_false hid];exact .junk _ _ _
 case vel id off =>
  obtain⟨b,hb,rfl⟩:=h.vel_inv
  by_cases hid:id < h0
  ·rw[decide_eq_true hid];exact .vel _ _ id off b ((Hd hid).trans hb)
  ·rw[decide_eq_false hid];exact .junk _ _ _
 case pte id i off =>
  obtain⟨b,size,els,o0,hb,hob,rfl⟩:=h.pte_inv
  by_cases hid:id < h0
  ·rw[decide_eq_true hid]
   exact .pte _ _ id i off b size els o0 ((Hd hid).trans hb) (by rw[nth?_eq] at hob ⊢;rw[Ji hid,hob];rfl)
  ·rw[decide_eq_false hid];exact .junk _ _ _
 case rptr el off=>obtain⟨vs,b,ob,h1,h2,h3,rfl⟩:=h.rptr_inv;exact .rptr _ _ _ _ _ _ _ (Reps.mono Fx h1 HpExt.nil) h2 fun j u hj=>⟨.inl (h3 j u hj).1,(h3 j u hj).2⟩
 case nils=>have:=h.nils_inv;subst this;exact .nils _ _
 case sl size els=>obtain⟨vss,a,cap,h1,h2,h3,rfl⟩:=h.sl_inv;exact .sl _ _ _ _ _ _ _ (Repss.mono Fx h1) (h2.mono Fx) h3
 case row id n =>
  obtain⟨et,size,els,h1,h2,h3,h4⟩:=h.row_inv
  have h5:Rep (Pg S w hp φ h0) w [] [] (.sl size (els.take n)) v:=Rep.mono Fx h3 HpExt.nil
  by_cases hid:id < h0
  ·rw[decide_eq_true hid]
   exact .row _ _ id n v et size els (by rw[nth?_eq] at h1 ⊢;rw[Ji hid,h1];rfl) h2 h5 fun hn=>(Hd hid).trans (h4 hn)
  ·rw[decide_eq_false hid,h1];exact h5.lift
 case own id off n =>
  obtain⟨b,size,els,cap,ad,o0,hb,hob,hle,had,hc,rfl⟩:=h.own_inv
  by_cases hid:id < h0
  ·rw[decide_eq_true hid]
   exact .own _ _ id off n b size els cap o0 ((Hd hid).trans hb) (by rw[nth?_eq] at hob ⊢;rw[Ji hid,hob];rfl) hle ad had hc
  ·rw[decide_eq_false hid,hob]
   rw[nth?_eq] at hob
   obtain⟨b',vss,ex,E',pre,g1,g2,g3,g4,g5,g6⟩:=hs.obj id _ hob
   rw[hb] at g1;cases g1
   have hlen:((els.drop off).take n).length=n:=by rw[List.length_take,List.length_drop];omega
   have:=Rep.sl (S:=Pg S w hp φ h0) (w:=w) (G4 h0 hp) (φ.take h0) size ((els.drop off).take n) ((vss.drop off).take n) ad cap (Repss.mono Fx ((g4.drop off).take n)) ⟨fun vs hv=>g5 vs (List.mem_of_mem_drop (List.mem_of_mem_take hv)),fun j vs t u hj hu=>?_⟩ (by rw[hlen];exact hc)
   ·rw[hlen] at this;exact this
   ·rw[List.getElem?_take] at hj
    split at hj
    ·rename_i hlt
     rw[List.getElem?_drop] at hj
     have htl:t < size:=by rw[← g5 vs (List.mem_of_getElem? hj)];exact nth?_lt hu
     have hf:=Ep g5 hj htl
     rw[hu] at hf
     have hcell:w.cell? ⟨b,pre.length+((off+j)*size+t),none⟩=some u:=by
      have hx:=List.getElem?_append_left (l₂:=ex) (nth?_lt hf)
      rw[hf] at hx
      have hy:(pre++(vss.flatten++ex))[pre.length+((off+j)*size+t)]?=some u:=by
       rw[List.getElem?_append_right (by omega),Nat.add_sub_cancel_left];exact hx
      simp only[World.cell?,g3];simpa using hy
     have e1:pre.length+off*size+j*size+t=pre.length+((off+j)*size+t):=by rw[Nat.add_mul];omega
     exact⟨b,pre.length+off*size,had (by omega),.inr (.inl ⟨id,size,els,by omega,hob,⟨_,hb⟩,u,by rw[e1];exact hcell⟩),by rw[e1];exact hcell⟩
    ·cases hj
 case stk id ver n =>
  have hst:=h.stk_inv
  obtain⟨⟨ad,cap,hv0,hcp⟩,ver',e,size,els,hob,hle,hcur⟩:=h.stk_inv
  by_cases hid:id < h0
  ·rw[decide_eq_true hid]
   refine .stk _ _ _ _ _ _ ⟨⟨ad,cap,hv0,hcp⟩,ver',e,size,els,by rw[nth?_eq] at hob ⊢;rw[Ji hid,hob];rfl,hle,fun hv=>?_⟩
   obtain⟨c1,v0,c2,c3⟩:=hcur hv
   exact⟨c1,v0,(Hd hid).trans c2,c3⟩
  ·rw[decide_eq_false hid,hob]
   simp only[B3]
   split
   ·rename_i hv
    have hv:=of_decide_eq_true hv
    subst hv
    obtain⟨hn,v0,vss,c1,c2,c3,c4,c5,c6,c7,c8,c9⟩:=Pq hs hst hob
    have hlen:(els.take n).length=n:=by rw[List.length_take];omega
    have:=Rep.sl (S:=Pg S w hp φ h0) (w:=w) (G4 h0 hp) (φ.take h0) size (els.take n) (vss.take n) ad cap (Repss.mono Fx (c4.take n)) ⟨fun vs hv=>c5 vs (List.mem_of_mem_take hv),fun j vs t u hj hu=>?_⟩ (by rw[hlen];exact hcp)
    ·rw[hlen] at this;rw[hv0];exact this
    ·rw[List.getElem?_take] at hj
     split at hj
     ·rename_i hlt
      obtain⟨g,cap',k1,k2⟩:=c9 (by omega)
      rw[hv0] at k2
      simp only[Value.slice.injEq] at k2
      obtain⟨rfl,_,rfl⟩:=k2
      have htl:t < size:=by rw[← c5 vs (List.mem_of_getElem? hj)];exact nth?_lt hu
      have hf:=Ep c5 hj htl
      rw[hu] at hf
      have hcell:=c3.cells (g:=g) (by rw[k1];rfl) _ _ hf
      rw[Em,Nat.zero_add] at hcell
      rw[nth?_eq] at hob
      exact⟨g,0,rfl,.inr (.inr (.inl ⟨id,_,e,size,els,by omega,hob,v0,c1,by rw[k1];rfl,u,by rw[Nat.zero_add];exact hcell⟩)),by rw[Nat.zero_add];exact hcell⟩
     ·cases hj
   ·exact .junk _ _ _
 case pts id ver i off =>
  obtain⟨h1,ver',e,size,els,hob,hle,hcur⟩:=h.pts_inv
  by_cases hid:id < h0
  ·rw[decide_eq_true hid]
   refine .pts _ _ _ _ _ _ _ ⟨h1,ver',e,size,els,by rw[nth?_eq] at hob ⊢;rw[Ji hid,hob];rfl,hle,fun hv=>?_⟩
   obtain⟨g,len,cap,c2,c3⟩:=hcur hv
   exact⟨g,len,cap,(Hd hid).trans c2,c3⟩
  ·rw[decide_eq_false hid];exact .junk _ _ _
 case func f x y =>
  cases x<;>cases y<;>simp only<;>first | exact .junk _ _ _ | skip
  obtain⟨a,b,h1,h2,rfl⟩:=h.func_inv
  cases h1;cases h2
  exact .func _ _ _ _ _ _ _ (.nil _ _) (.nil _ _)
 case nilf=>cases h;exact .nilf _ _
 case mapp id =>
  obtain⟨b,hb,rfl⟩:=h.mapp_inv
  by_cases hid:id < h0
  ·rw[decide_eq_true hid];exact .mapp _ _ id b ((Hd hid).trans hb)
  ·rw[decide_eq_false hid,B3]
   cases hob:nth? hp id with
   | none=>exact .junk _ _ _
   | some ob =>
    rw[nth?_eq] at hob
    cases ob<;>first | exact .junk _ _ _ | skip
    case mp kd frz els =>
     obtain⟨b',vss,es,g1,g2,g3,g4,⟨g5,g6⟩,g7⟩:=hs.obj id _ hob
     rw[hb] at g1;cases g1
     exact .mcl _ _ _ _ vss b es (Repss.mono Fx g4) g5 g6 (.inr (.inr (.inr ⟨id,_,by omega,hob,rfl,hb,rfl,_,_,g3⟩))) g3
 case mcl kd els=>exact Rep.mono Fx h.mcl_any (HpExt.refl _ _)
 case ifc t a=>exact Rep.mono Fx h.ifc_any (HpExt.refl _ _)
 case nili=>cases h;exact .nili _ _
theorem T6 {S':Nat→Nat→Prop} {w':World} {hp':Hp} {φ':List Pl} {g:AV→AV} (hg:∀ a v,Rep S w hp φ a v→Rep S' w' hp' φ' (g a) v) {l:List AV} {vs:List Value} (h:Reps S w hp φ l vs):Reps S' w' hp' φ' (l.map g) vs:=by
 induction l generalizing vs with
 | nil=>cases h;exact .nil _ _
 | cons a l ih=>cases h with | cons _ _ _ v _ vs h t=>exact .cons _ _ _ _ _ _ (hg a v h) (ih t)
theorem On (hs:Sim P base S w hp φ) {a:AV} {v:Value} (h:Rep S w hp φ a v):Rep (Pg S w hp φ h0) w (G4 h0 hp) (φ.take h0) (Tu h0 hp a) v:=by
 cases a<;>simp only[Tu]<;>first | exact R3 hs h | skip
 case agg cs =>
  obtain⟨vs,h1,h2,rfl⟩:=h.agg_inv
  exact .agg _ _ _ _ (T6 (fun a v h=>R3 hs h) h1) h2
 case func f x y =>
  obtain⟨a,b,h1,h2,rfl⟩:=h.func_inv
  exact .func _ _ _ _ _ _ _ (T6 (fun a v h=>R3 hs h) h1) (T6 (fun a v h=>R3 hs h) h2)
theorem A9f (hs:Sim P base S w hp φ) {a:AV} {v:Value} (h:Rep S w hp φ a v):Rep (Pg S w hp φ h0) w (G4 h0 hp) (φ.take h0) (wane h0 hp a) v:=by
 cases a<;>simp only[wane]<;>first | exact On hs h | skip
 case tup cs =>
  obtain⟨vs,h1,rfl⟩:=h.tup_inv
  exact .tup _ _ _ _ (T6 (fun a v h=>On hs h) h1)
 case mfn kd els =>
  obtain⟨vss,b,es,h1,h2,hk,h3,h4,rfl⟩:=h.mfn_inv
  exact .mfn _ _ _ _ _ b es (h1.mapped fun a v h=>On hs h) h2 (hk.mapped (fun _ _=>rfl) fun _=>rfl) (.inl h3) h4
 case mapp id =>
  have h1:=R3 (h0:=h0) hs h
  simp only[Wh] at h1
  obtain⟨b,hb,rfl⟩:=h.mapp_inv
  by_cases hid:id < h0
  ·rw[decide_eq_true hid] at h1 ⊢;exact h1
  ·rw[decide_eq_false hid,B3] at h1 ⊢
   cases hob:nth? hp id with
   | none=>exact .junk _ _ _
   | some ob =>
    rw[hob] at h1
    rw[nth?_eq] at hob
    cases ob<;>first | exact .junk _ _ _ | exact h1 | skip
    case mpo kd els =>
     obtain⟨b',vss,es,g1,g2,g3,g4,⟨g5,g6⟩,g7⟩:=hs.obj id _ hob
     rw[hb] at g1;cases g1
     exact .mfn _ _ _ _ vss b es (g4.mapped fun a v h=>On hs h) g5 (g6.mapped (fun _ _=>rfl) fun _=>rfl) (.inr (.inr (.inr ⟨id,_,by omega,hob,rfl,hb,rfl,_,_,g3⟩))) g3
theorem A3h (hs:Sim P base S w hp φ) {keep:List Nat} {tm:Tm} {vs:List Value} (h:Reps S w hp φ tm vs):∀ i,Reps (Pg S w hp φ h0) w (G4 h0 hp) (φ.take h0) (Sy keep h0 hp i tm) vs:=by
 induction tm generalizing vs with
 | nil=>intro i;cases h;exact .nil _ _
 | cons a l ih=>cases h with
   | cons _ _ _ v _ vs h t =>
    intro i
    refine .cons _ _ _ _ _ _ ?_ (ih t (i+1))
    cases keep.contains i
    ·exact .junk _ _ _
    ·exact A9f hs h
theorem Sim.wane (hs:Sim P base S w hp φ):Sim P base (Pg S w hp φ h0) w (G4 h0 hp) (φ.take h0):=by
 have hat:∀ i b,Af (φ.take h0) i=some b→i < h0∧Af φ i=some b:=by
  intro i b h
  unfold Af at h ⊢
  by_cases hi:i < h0
  ·rw[Hd hi] at h;exact⟨hi,h⟩
  ·rw[List.getElem?_take,if_neg hi] at h;cases h
 have hno:∀ i b,i < h0→Af φ i=some b→∀ o,Pg S w hp φ h0 b o↔S b o:=by
  intro i b hi hb o
  refine⟨fun h=>?_,.inl⟩
  rcases h with h | ⟨id,size,els,h1,h2,⟨_,h3⟩,_⟩ | ⟨id,ver,e,size,els,h1,h2,v0,h3,h4,_⟩ | ⟨id,ob,h1,h2,_,h3,_⟩
  ·exact h
  ·have:=hs.apart i id b hb (by simp[Af,h3])
   omega
  ·have:=hs.apart i id b hb (by simp[Af,h3,h4])
   omega
  ·have:=hs.apart i id b hb (by simp[Af,h3])
   omega
 refine⟨by simp[G4,hs.len],hs.low,fun b o h=>?_,fun id o ho=>?_,fun i j b hi hj=>hs.apart i j b (hat i b hi).2 (hat j b hj).2⟩
 ·rcases h with h | ⟨id,_,_,_,hob,⟨_,hpl⟩,_,h⟩ | ⟨id,_,_,_,_,_,hob,_,hpl,hbl,_,h⟩ | ⟨_,_,_,_,_,_,_,_,_,h⟩
  ·exact hs.cell b o h
  ·obtain⟨b',vss,ex,E',pre,g1,g2,g3,_⟩:=hs.obj id _ hob
   rw[hpl] at g1;cases g1
   exact⟨_,Lr g3 h,fun _=>rfl⟩
  ·obtain⟨v1,vss,g1,g2,_⟩:=hs.obj id _ hob
   rw[hpl] at g1;cases g1
   obtain⟨cc,EE,g3⟩:=A2a g2 hbl
   exact⟨_,Lr g3 h,fun _=>rfl⟩
  ·exact⟨_,A1b h,fun _=>rfl⟩
 ·have hid:id < h0:=by
   have:=nth?_lt ho
   simp[G4] at this;omega
  rw[Ji hid] at ho
  cases hob:hp[id]? with
  | none=>rw[hob] at ho;simp at ho
  | some ob =>
   rw[hob] at ho
   simp only[Option.map_some,Option.some.injEq] at ho
   subst ho
   have hok:=hs.obj id ob hob
   have hφ:(φ.take h0)[id]?=φ[id]?:=Hd hid
   cases ob with
   | var t cs =>
    obtain⟨b,vs,E,h1,h2,h3,h4,h5,h6⟩:=hok
    have hat':Af φ id=some b:=by simp[Af,h1]
    exact⟨b,vs,E,hφ.trans h1,h2,h3,T6 (fun a v h=>On hs h) h4,h5,fun o ho=>h6 o ((hno id b hid hat' o).1 ho)⟩
   | arr size els =>
    obtain⟨b,vss,ex,E,pre,h1,h2,h3,h4,h5,h6⟩:=hok
    have hat':Af φ id=some b:=by simp[Af,h1]
    exact⟨b,vss,ex,E,pre,hφ.trans h1,h2,h3,Repss.mono Fx h4,h5,fun o ho=>h6 o ((hno id b hid hat' o).1 ho)⟩
   | row e size els =>
    obtain⟨v,vss,h1,h2,h3,h4,h5,h6,h7⟩:=hok
    have hat':∀ g,v.ownBlock=some g→Af φ id=some g:=fun g hg=>by simp[Af,h1,hg]
    exact⟨v,vss,hφ.trans h1,h2,Repss.mono Fx h3,h4,h5,h6,fun g hg o=>(hno id g hid (hat' g hg) o).trans (h7 g hg o)⟩
   | stk ver e size els =>
    obtain⟨v,vss,h1,h2,h3,h4,h5,h6,h7⟩:=hok
    have hat':∀ g,v.ownBlock=some g→Af φ id=some g:=fun g hg=>by simp[Af,h1,hg]
    exact⟨v,vss,hφ.trans h1,h2,Repss.mono Fx h3,h4,h5,h6,fun g hg o ho=>h7 g hg o ((hno id g hid (hat' g hg) o).1 ho)⟩
   | mp kd frz els =>
    obtain⟨b,vss,es,h1,h2,h3,h4,h5,h6⟩:=hok
    have hat':Af φ id=some b:=by simp[Af,h1]
    exact⟨b,vss,es,hφ.trans h1,h2,h3,Repss.mono Fx h4,h5,fun o=>(hno id b hid hat' o).trans (h6 o)⟩
   | mpo kd els =>
    obtain⟨b,vss,es,h1,h2,h3,h4,h5,h6⟩:=hok
    have hat':Af φ id=some b:=by simp[Af,h1]
    exact⟨b,vss,es,hφ.trans h1,h2,h3,h4.mapped (fun a v h=>On hs h),⟨h5.1,h5.2.mapped (fun _ _=>rfl) fun _=>rfl⟩,fun o ho=>h6 o ((hno id b hid hat' o).1 ho)⟩
theorem Trans.wane {S0:Nat→Nat→Prop} {w0:World} {hp0:Hp} {φ0:List Pl} (hs:Sim P base S w hp φ) (h:Trans base S0 w0 hp0 φ0 S w hp φ) (h1:hp0.length≤h0) (h2:φ0.length=hp0.length):Trans base S0 w0 hp0 φ0 (Pg S w hp φ h0) w (G4 h0 hp) (φ.take h0):=by
 refine⟨h.s.trans Fx,⟨fun id p hp' hb=>?_,fun id size els he=>?_,fun id e size els he=>?_,fun id ver e size els he=>?_⟩,h.below,fun b o hb=>?_,fun b o hb=>?_,fun i b hb=>h.fr i b (?_),h.keep⟩
 ·have:=nth?_lt hb
  exact(Hd (by omega)).trans (h.hp.blk id p hp' hb)
 ·obtain⟨els',e1,e2⟩:=h.hp.arr id size els he
  rw[nth?_eq] at he e1
  have:=nth?_lt he
  exact⟨els',by rw[nth?_eq,Ji (by omega),e1];rfl,e2⟩
 ·obtain⟨more,e1,e2⟩:=h.hp.row id e size els he
  rw[nth?_eq] at he e1
  have:=nth?_lt he
  exact⟨more,by rw[nth?_eq,Ji (by omega),e1];rfl,fun hm v hv=>(Hd (by omega)).trans (e2 hm v hv)⟩
 ·obtain⟨v2,els',e1,e2,e3⟩:=h.hp.stk id ver e size els he
  rw[nth?_eq] at he e1
  have:=nth?_lt he
  exact⟨v2,els',by rw[nth?_eq,Ji (by omega),e1];rfl,e2,fun hv=>⟨(e3 hv).1,(Hd (by omega)).trans (e3 hv).2⟩⟩
 ·rcases hb with hb | ⟨id,size,els,_,hob,⟨_,hφ⟩,_⟩ | ⟨id,_,_,_,_,_,hob,v0,hφ,hv0,_⟩ | ⟨id,ob,_,hob,hmo,hφ,_⟩
  ·exact h.new b o hb
  ·exact .inr (hs.block_lt (id:=id) (by simp[Af,hφ])).1
  ·exact .inr (hs.block_lt (id:=id) (by simp[Af,hφ,hv0])).1
  ·exact .inr (hs.block_lt (id:=id) (by simp[Af,hφ])).1
 ·rcases hb with hb | ⟨id,size,els,_,hob,⟨_,hφ⟩,_⟩ | ⟨id,_,_,_,_,_,hob,v0,hφ,hv0,_⟩ | ⟨id,ob,_,hob,hmo,hφ,_⟩
  ·exact h.mine b o hb
  ·exact .inr (h.fr id b (by simp[Af,hφ]))
  ·exact .inr (h.fr id b (by simp[Af,hφ,hv0]))
  ·exact .inr (h.fr id b (by simp[Af,hφ]))
 ·unfold Af at hb ⊢
  by_cases hi:i < h0
  ·rw[Hd hi] at hb;exact hb
  ·rw[List.getElem?_take,if_neg hi] at hb;cases hb
end
section
variable {ρ:Type} {P:Program} {H:Bv} {call:Bp} {f:FuncId} {tm:Tm} {hp:Hp}
theorem Gh {α:Type} (c:Bool) (a b:Option α) (K:α→Option ρ):(bif c then a else b).bind K=bif c then a.bind K else b.bind K:=by cases c<;>rfl
theorem M6 (b:Option Bool) (cs:List AV) (K:AV→Option ρ):Iz b cs K=(Iz b cs some).bind K:=by
 unfold Iz;split
 ·rfl
 ·split<;>rfl
 ·rfl
theorem Px (l:List AV) (off n:Nat) (C:List AV→Option AV) (K:AV→Option ρ) (C':List AV→Option ρ) (h:∀ l,C' l=(C l).bind K):sub l off n C'=(sub l off n C).bind K:=by
 unfold sub;rw[Gh,h];rfl
theorem Akq (t:TypeId) (a:AV) (K:AV→Option ρ):load P hp t K a=(load P hp t some a).bind K:=by
 cases a<;>simp only[load]<;>first | rfl | skip
 ·split
  ·exact Px _ _ _ _ _ _ fun l=>M6 _ _ _
  ·rfl
 ·split
  ·split
   ·exact Px _ _ _ _ _ _ fun l=>M6 _ _ _
   ·rfl
  ·rfl
 ·exact Px _ _ _ _ _ _ fun l=>M6 _ _ _
 ·split
  ·exact Px _ _ _ _ _ _ fun l=>M6 _ _ _
  ·rfl
 ·repeat' split
  all_goals first | rfl | exact Px _ _ _ _ _ _ fun l=>M6 _ _ _
theorem A38 (i:Int) (C:Nat→Option AV) (C':Nat→Option ρ) (K:AV→Option ρ) (h:∀ n,C' n=(C n).bind K) (n:Nat):R1 i C' n=(R1 i C n).bind K:=by
 rw[U4,U4,Gh,h];rfl
theorem Acy (op:BinOp) (k:IntKind) (a b:Int) (K:AV→Option ρ):Vc op k a b K=(Vc op k a b some).bind K:=by
 cases op<;>simp only[Vc,Gh]<;>rfl
theorem Apx (C:Bool→Option AV) (C':Bool→Option ρ) (K:AV→Option ρ) (h:∀ c,C' c=(C c).bind K) (fs:List Field):∀ (xs ys:List AV),eqs P C' fs xs ys=(eqs P C fs xs ys).bind K:=by
 induction fs generalizing C C' with
 | nil=>intro xs ys;cases xs<;>cases ys<;>simp only[eqs]<;>first | exact h _ | rfl
 | cons g fs ih =>
  intro xs ys
  cases xs<;>cases ys<;>simp only[eqs]<;>first | rfl | skip
  repeat' split
  all_goals first | rfl | exact ih _ _ (fun c=>h _) _ _
theorem Akk (t:TypeId) (op:BinOp) (a b:AV) (K:AV→Option ρ):Zb P t op K a b=(Zb P t op some a b).bind K:=by
 cases a<;>cases b<;>simp only[Zb]<;>first | rfl | skip
 all_goals (repeat' split)
 all_goals first | rfl | exact Acy _ _ _ _ _ | (rw[Gh];rfl) | (refine Apx _ _ _ (fun c=>?_) _ _ _;rfl)
theorem Al0 (C:Nat→Option AV) (C':Nat→Option ρ) (K:AV→Option ρ) (h:∀ n,C' n=(C n).bind K) (a:AV):A3y C' a=(A3y C a).bind K:=by
 cases a<;>simp only[A3y]<;>first | exact h _ | rfl
theorem A3g (a:AV) (n:Nat) (K:AV→Option ρ):Qy K a n=(Qy some a n).bind K:=by cases a<;>rfl
theorem A2r (size n:Nat) (els:List (List AV)) (i:Int) (sz:Nat) (K:AV→Option ρ):Nm size n els i sz K=(Nm size n els i sz some).bind K:=by
 unfold Nm;split
 ·rw[Gh];congr 1;split<;>rfl
 ·rfl
theorem Aex (t:TypeId) (x:AV) (i:Int) (K:AV→Option ρ):Lf P hp t x i K=(Lf P hp t x i some).bind K:=by
 unfold Lf;split
 ·split
  ·split
   ·exact A38 _ _ _ _ (fun n=>A3g _ _ _) _
   ·rfl
  ·rfl
 ·cases x<;>simp only<;>first | rfl | exact A2r _ _ _ _ _ _ | skip
  ·split
   ·exact A2r _ _ _ _ _ _
   ·rfl
  ·split
   ·split
    ·rw[Gh];rfl
    ·rfl
   ·rfl
  ·split
   ·rw[Gh];rfl
   ·rfl
  ·split
   ·split
    ·rw[Gh];rfl
    ·rfl
   ·rfl
theorem A23 (n:Nat) (lo hi:Option AV) (C:Nat→Nat→Option AV) (C':Nat→Nat→Option ρ) (K:AV→Option ρ) (h:∀ l m,C' l m=(C l m).bind K):Kp n lo hi C'=(Kp n lo hi C).bind K:=by
 unfold Kp
 repeat' split
 all_goals first | rfl | exact h _ _ | (rw[Gh,h];rfl)
theorem Am3 (x:AV) (sz:Nat) (lo hi:Option AV) (K:AV→Option ρ):Rf hp x sz lo hi K=(Rf hp x sz lo hi some).bind K:=by
 unfold Rf
 repeat' split
 all_goals first | rfl | exact A23 _ _ _ _ _ _ fun l _=>by first | rfl | (cases l<;>rfl)
theorem Abo (t:TypeId) (m k:AV) (ok:Bool) (K:AV→Option ρ):Ok P hp t m k ok K=(Ok P hp t m k ok some).bind K:=by
 rw[Se,Se];unfold Uu
 repeat' split
 all_goals rfl
theorem Ab5 (a:TypeId) (ok:Bool) (x:AV) (K:AV→Option ρ):Sh P a ok x K=(Sh P a ok x some).bind K:=by
 unfold Sh
 repeat' split
 all_goals rfl
theorem Jn (op:Op) (K:AV→Option ρ):Bs P tm hp op K=(Bs P tm hp op some).bind K:=by
 unfold Bs
 split
 case h_4=>exact Akk _ _ _ _ _
 case h_12=>exact Akq _ _ _
 all_goals (repeat' split)
 all_goals first
  | rfl
  | (rw[Gh];first | rfl | (congr 1;split<;>rfl))
  | exact A3g _ _ _
  | exact Px _ _ _ _ _ _ (fun l=>M6 _ _ _)
  | exact Aex _ _ _ _
  | exact A38 _ _ _ _ (fun n=>Px _ _ _ _ _ _ (fun l=>M6 _ _ _)) _
  | exact A23 _ _ _ _ _ _ (fun _ _=>rfl)
  | exact Am3 _ _ _ _ _
  | exact Abo _ _ _ _ _
  | exact Ab5 _ _ _ _
  | (refine Al0 _ _ _ (fun _=>?_) _;rfl)
def B5 (P:Program) (H:Bv) (call:Bp) (f:FuncId) (o:Oper) (tm:Tm) (hp:Hp):Option (AV×Hp):=By P H call f o tm hp fun v hp=>some (v,hp)
theorem Aln (t:TypeId) (b1 b2:Bool) (v:AV) (K:AV→Hp→Option ρ):Nx P t b1 b2 hp K v=(Nx P t b1 b2 hp (fun v hp=>some (v,hp)) v).bind fun p=>K p.1 p.2:=by
 unfold Nx
 simp only[B2]
 repeat' split
 all_goals rfl
theorem Ans (b:Bool) (v:AV) (K:AV→Hp→Option ρ):A5e b hp K v=(A5e b hp (fun v hp=>some (v,hp)) v).bind fun p=>K p.1 p.2:=by
 unfold A5e
 simp only[B2]
 repeat' split
 all_goals rfl
theorem Abf (g:FuncId) (nr:Bool) (raw:List AV) (hp:Hp) (K:AV→Hp→Option ρ):Mq P call g nr raw hp K=(Mq P call g nr raw hp (fun v hp=>some (v,hp))).bind fun p=>K p.1 p.2:=by
 unfold Mq Vf
 simp only[B2,Dp Fw,M9]
 repeat' split
 all_goals rfl
theorem A9m (g:FuncId) (raw:List AV) (hp:Hp) (K:AV→Hp→Option ρ):Tg P call g raw hp K=(Tg P call g raw hp (fun v hp=>some (v,hp))).bind fun p=>K p.1 p.2:=by
 unfold Tg A13
 simp only[B2,Dp Fw,M9]
 repeat' split
 all_goals rfl
theorem Aok (t:TypeId) (m k x:AV) (K:AV→Hp→Option ρ):A5q P hp t m k x K=(A5q P hp t m k x (fun v hp=>some (v,hp))).bind fun p=>K p.1 p.2:=by
 rw[A5r,A5r];unfold Ad6
 simp only[B2]
 repeat' split
 all_goals rfl
theorem Al1 (t:TypeId) (m k:AV) (K:AV→Hp→Option ρ):Aa7 P hp t m k K=(Aa7 P hp t m k (fun v hp=>some (v,hp))).bind fun p=>K p.1 p.2:=by
 rw[A59,A59];unfold Aeg
 simp only[B2]
 repeat' split
 all_goals first | rfl | (rw[Gh];rfl)
theorem Adh (m s x:AV) (K:AV→Hp→Option ρ):Ux hp m s x K=(Ux hp m s x (fun v hp=>some (v,hp))).bind fun p=>K p.1 p.2:=by
 unfold Ux
 simp only[B2]
 repeat' split
 all_goals first | rfl | (rw[Gh];rfl)
theorem Anh (o:Oper) (K:AV→Hp→Option ρ):By P H call f o tm hp K=(B5 P H call f o tm hp).bind fun p=>K p.1 p.2:=by
 have pu:∀ op:Op,Bs P tm hp op (fun v=>K v hp)=(Bs P tm hp op fun v=>some (v,hp)).bind fun p=>K p.1 p.2:=fun op=>by
  rw[Jn,Jn (K:=fun v=>some (v,hp))]
  cases Bs P tm hp op some<;>rfl
 have po:∀ (op:Op) (t:TypeId) (b1 b2:Bool),Bs P tm hp op (fun v=>Nx P t b1 b2 hp K v)=(Bs P tm hp op fun v=>Nx P t b1 b2 hp (fun v hp=>some (v,hp)) v).bind fun p=>K p.1 p.2:=fun op t b1 b2=>by
  rw[Jn,Jn (K:=fun v=>Nx P t b1 b2 hp (fun v hp=>some (v,hp)) v)]
  cases Bs P tm hp op some with
  | none=>rfl
  | some v=>exact Aln _ _ _ _ _
 unfold B5 By
 simp only[B2]
 split
 case h_2=>exact po _ _ _ _
 case h_3=>exact po _ _ _ _
 case h_8 t x lo hi mx _ =>
  rw[Jn,Jn (K:=fun v=>A5e (Iw H f o.dst) hp (fun v hp=>some (v,hp)) v)]
  cases Bs P tm hp (.slice t x lo hi mx) some with
  | none=>rfl
  | some v=>exact Ans _ _ _
 all_goals (repeat' split)
 all_goals first
  | rfl
  | exact pu _
  | exact Abf _ _ _ _ _
  | exact A9m _ _ _ _
  | exact Aok _ _ _ _ _
  | exact Al1 _ _ _ _
  | exact Adh _ _ _ _
  | (rw[Gh];rfl)
  | (rw[Gh,Gh];rfl)
def Cm (P:Program) (H:Bv) (call:Bp) (f:FuncId) (ops:List Oper) (o:Oper) (tm:Tm) (hp:Hp):Option (Tm×Hp):=match o.guard with
 | none=>(B5 P H call f o tm hp).map fun p=>(put tm o.dst p.1,p.2)
 | some (j,want)=>match (nth? ops j).bind (·.dst) with
   | none=>none
   | some t=>match nth .junk tm t with
     | .bool b=>if b=want then(B5 P H call f o tm hp).map fun p=>(put tm o.dst p.1,p.2) else some (put tm o.dst (.tup []),hp)
     | .tup []=>some (put tm o.dst (.tup []),hp)
     | _=>none
def Ri (P:Program) (H:Bv) (call:Bp) (f:FuncId) (ops:List Oper):List Oper→Tm→Hp→Option (Tm×Hp)
 | [],tm,hp=>some (tm,hp)
 | o :: l,tm,hp=>(Cm P H call f ops o tm hp).bind fun p=>Ri P H call f ops l p.1 p.2
theorem Sq (ops:List Oper) (o:Oper) (C:Tm→Hp→Option ρ):(match o.guard with
 | none=>By P H call f o tm hp fun v hp=>It tm o.dst v fun tm=>C tm hp
 | some (j,want)=>match (nth? ops j).bind (·.dst) with
   | none=>none
   | some t=>match nth .junk tm t with
     | .bool b=>match want with
       | true=>bif b then By P H call f o tm hp (fun v hp=>It tm o.dst v fun tm=>C tm hp) else(It tm o.dst (.tup []) fun tm=>C tm hp)
       | false=>bif b then(It tm o.dst (.tup []) fun tm=>C tm hp) else By P H call f o tm hp (fun v hp=>It tm o.dst v fun tm=>C tm hp)
     | .tup []=>It tm o.dst (.tup []) fun tm=>C tm hp
     | _=>none)=(Cm P H call f ops o tm hp).bind fun p=>C p.1 p.2:=by
 have yes:(By P H call f o tm hp fun v hp=>It tm o.dst v fun tm=>C tm hp)=((B5 P H call f o tm hp).map fun p=>(put tm o.dst p.1,p.2)).bind fun p=>C p.1 p.2:=by
  rw[Anh]
  simp only[Si]
  cases B5 P H call f o tm hp<;>rfl
 unfold Cm
 cases o.guard with
 | none=>exact yes
 | some p =>
  obtain⟨j,want⟩:=p
  simp only
  split
  ·rfl
  ·split
   ·rename_i b _
    simp only[Si] at yes
    cases want<;>cases b<;>simp only[As,B3,Si]
    ·rw[if_pos trivial];exact yes
    ·rfl
    ·rfl
    ·rw[if_pos trivial];exact yes
   ·simp only[Si];rfl
   ·rfl
theorem Xc (ops:List Oper):∀ (l:List Oper) (tm:Tm) (hp:Hp) (K:Tm→Hp→Option ρ),Ou P H call f ops l tm hp K=(Ri P H call f ops l tm hp).bind fun p=>K p.1 p.2
 | [],tm,hp,K=>rfl
 | o :: l,tm,hp,K=>by
  rw[Aay]
  have:=Sq (P:=P) (H:=H) (call:=call) (f:=f) (tm:=tm) (hp:=hp) ops o (fun tm hp=>Ou P H call f ops l tm hp K)
  refine this.trans ?_
  rw[Ri]
  cases Cm P H call f ops o tm hp with
  | none=>rfl
  | some p=>exact Xc ops l p.1 p.2 K
end
def A7r:Cls→Cls→Bool
 | .P,_ | _,.P=>true
 | .R,.R | .R,.C | .C,.R | .C,.C | .R,.A | .C,.A | .R,.G=>true
 | _,_=>false
def Ju (hp hp':Hp):Prop:=∀ id o,nth? hp id=some o→∃ o',nth? hp' id=some o'∧(o'=o∨∃ e size els more,o=.row e size els∧o'=.row e size (els++more))
def More (hp hp':Hp):Prop:=∀ id o,nth? hp id=some o→nth? hp' id=some o
theorem More.append (hp x:Hp):More hp (hp++x):=fun id o h=>by
 rw[nth?_eq] at h ⊢;rw[List.getElem?_append_left (nth?_lt h)];exact h
theorem More.grown {hp hp':Hp} (h:More hp hp'):Ju hp hp':=fun id o ho=>⟨o,h id o ho,.inl rfl⟩
section
variable {P:Program} {H:Bv} {call:Bp} {f:FuncId} {tm tm':Tm} {hp hp':Hp}
theorem L3 {α:Type} {c:Bool} {a:Option α} {r:α} (h:(bif c then a else none)=some r):c=true∧a=some r:=by cases c<;>simp at h ⊢;exact h
theorem Af2 {t:TypeId} {a v:AV} (hg:Ju hp hp') (h:load P hp t some a=some v):load P hp' t some a=some v:=by
 cases a<;>simp only[load] at h ⊢<;>first | exact h | skip
 case ptr id off =>
  cases ho:nth? hp id with
  | none=>rw[ho] at h;cases h
  | some o =>
   obtain⟨o',h1,h2⟩:=hg id o ho
   rw[ho] at h
   rcases h2 with rfl | ⟨e,size,els,more,rfl,rfl⟩
   ·rw[h1];exact h
   ·cases h
 case vel id off =>
  cases ho:nth? hp id with
  | none=>rw[ho] at h;cases h
  | some o =>
   obtain⟨o',h1,h2⟩:=hg id o ho
   rw[ho] at h
   rcases h2 with rfl | ⟨e,size,els,more,rfl,rfl⟩
   ·rw[h1];exact h
   ·cases h
 case pte id i off =>
  cases ho:nth? hp id with
  | none=>rw[ho] at h;cases h
  | some o =>
   obtain⟨o',h1,h2⟩:=hg id o ho
   rw[ho] at h
   rcases h2 with rfl | ⟨e,size,els,more,rfl,rfl⟩
   ·rw[h1];exact h
   ·cases h
 case pts id ver i off =>
  cases ho:nth? hp id with
  | none=>rw[ho] at h;cases h
  | some o =>
   obtain⟨o',h1,h2⟩:=hg id o ho
   rw[ho] at h
   rcases h2 with rfl | ⟨e,size,els,more,rfl,rfl⟩
   ·rw[h1];exact h
   ·cases h
theorem A7z {size n:Nat} {els more:List (List AV)} {i:Int} {sz:Nat} {v:AV} (h:Nm size n els i sz some=some v):Nm size n (els++more) i sz some=some v:=by
 obtain⟨el,⟨h1,h2⟩,h3,h4,h5,h6⟩:=Uc h
 subst h1
 cases h6
 have hlt:=nth?_lt h5
 simp only[Nm,h2,h3,h4,decide_true,Bool.and_self,As,nth?_eq,List.getElem?_append_left hlt,h5]
theorem A9z {t:TypeId} {x v:AV} {i:Int} (hg:Ju hp hp') (h:Lf P hp t x i some=some v):Lf P hp' t x i some=some v:=by
 unfold Lf at h ⊢
 cases he:Fr P t with
 | none=>rw[he] at h;exact h
 | some e =>
  rw[he] at h
  cases x<;>simp only at h ⊢<;>first | exact h | skip
  case row id n =>
   cases ho:nth? hp id with
   | none=>rw[ho] at h;cases h
   | some o =>
    obtain⟨o',h1,h2⟩:=hg id o ho
    rw[ho] at h
    rcases h2 with rfl | ⟨e',size,els,more,rfl,rfl⟩
    ·rw[h1];exact h
    ·rw[h1];exact A7z h
  case own id off n =>
   cases ho:nth? hp id with
   | none=>rw[ho] at h;cases h
   | some o =>
    obtain⟨o',h1,h2⟩:=hg id o ho
    rw[ho] at h
    rcases h2 with rfl | ⟨e',size,els,more,rfl,rfl⟩
    ·rw[h1];exact h
    ·cases h
  case stk id ver n =>
   cases ho:nth? hp id with
   | none=>rw[ho] at h;cases h
   | some o =>
    obtain⟨o',h1,h2⟩:=hg id o ho
    rw[ho] at h
    rcases h2 with rfl | ⟨e',size,els,more,rfl,rfl⟩
    ·rw[h1];exact h
    ·cases h
theorem A1p {size:Nat} {a:AV} {els:List (List AV)} (hg:More hp hp') (h:E0 hp size a=some els):E0 hp' size a=some els:=by
 have key:∀ id,(∃ o,nth? hp id=some o)→nth? hp' id=nth? hp id:=fun id ⟨o,ho⟩=>by rw[ho];exact hg id o ho
 cases a<;>simp only[E0] at h ⊢<;>first | exact h | skip
 case row id n=>rw[key id (by cases ho:nth? hp id with | none=>rw[ho] at h;cases h | some o=>exact⟨o,rfl⟩)];exact h
 case own id off n=>rw[key id (by cases ho:nth? hp id with | none=>rw[ho] at h;cases h | some o=>exact⟨o,rfl⟩)];exact h
 case stk id ver n=>rw[key id (by cases ho:nth? hp id with | none=>rw[ho] at h;cases h | some o=>exact⟨o,rfl⟩)];exact h
theorem Ul {a v:AV} (hg:More hp hp') (h:D9 hp a=some v):D9 hp' a=some v:=by
 cases a<;>simp only[D9] at h ⊢<;>first | exact h | skip
 case row id n =>
  cases ho:nth? hp id with
  | none=>rw[ho] at h;cases h
  | some o=>rw[ho] at h;rw[hg id o ho];exact h
 case func f a b=>cases a<;>cases b<;>simp only[D9] at h ⊢<;>first | exact h | (cases h;done)
theorem Us (hg:More hp hp'):∀ {l l':List AV},D0 hp l=some l'→D0 hp' l=some l'
 | [],l',h=>h
 | a :: l,l',h=>by
  simp only[D0] at h ⊢
  cases h1:D9 hp a with
  | none=>rw[h1] at h;cases h
  | some a' =>
   cases h2:D0 hp l with
   | none=>rw[h1,h2] at h;cases h
   | some l2=>rw[h1,h2] at h;rw[Ul hg h1,Us hg h2];exact h
theorem A3d {a v:AV} (hg:More hp hp') (h:Js hp a=some v):Js hp' a=some v:=by
 by_cases ha:∃ cs,a=.agg cs
 ·obtain⟨cs,rfl⟩:=ha
  simp only[Js] at h ⊢
  cases h3:D0 hp cs with
  | none=>rw[h3] at h;cases h
  | some cs'=>rw[h3] at h;rw[Us hg h3];exact h
 ·have e1:∀ hp:Hp,Js hp a=D9 hp a:=fun hp=>by cases a<;>first | rfl | exact absurd ⟨_,rfl⟩ ha
  rw[e1] at h ⊢
  exact Ul hg h
theorem V4 (hg:More hp hp'):∀ {l l':List AV},El hp l=some l'→El hp' l=some l'
 | [],l',h=>h
 | a :: l,l',h=>by
  simp only[El] at h ⊢
  cases h1:Js hp a with
  | none=>rw[h1] at h;cases h
  | some a' =>
   cases h2:El hp l with
   | none=>rw[h1,h2] at h;cases h
   | some l2=>rw[h1,h2] at h;rw[A3d hg h1,V4 hg h2];exact h
theorem Xn {a v:AV} (hg:More hp hp') (h:G0 hp a=some v):G0 hp' a=some v:=by
 by_cases ha:Afa a=true
 ·cases a<;>first | (cases ha;done) | skip
  case own id off n =>
   simp only[G0] at h ⊢
   cases ho:nth? hp id with
   | none=>rw[ho] at h;cases h
   | some o=>rw[ho] at h;rw[hg id o ho];exact h
  case stk id ver n =>
   simp only[G0] at h ⊢
   cases ho:nth? hp id with
   | none=>rw[ho] at h;cases h
   | some o=>rw[ho] at h;rw[hg id o ho];exact h
 ·have e1:∀ hp:Hp,G0 hp a=D9 hp a:=fun hp=>by cases a<;>first | rfl | exact absurd rfl ha
  rw[e1] at h ⊢
  exact Ul hg h
theorem Xo (hg:More hp hp'):∀ {l l':List AV},Hf hp l=some l'→Hf hp' l=some l'
 | [],l',h=>h
 | a :: l,l',h=>by
  simp only[Hf] at h ⊢
  cases h1:G0 hp a with
  | none=>rw[h1] at h;cases h
  | some a' =>
   cases h2:Hf hp l with
   | none=>rw[h1,h2] at h;cases h
   | some l2=>rw[h1,h2] at h;rw[Xn hg h1,Xo hg h2];exact h
theorem Abt {a v:AV} (hg:More hp hp') (h:Kb hp a=some v):Kb hp' a=some v:=by
 by_cases ha:∃ cs,a=.agg cs
 ·obtain⟨cs,rfl⟩:=ha
  simp only[Kb] at h ⊢
  cases h3:Hf hp cs with
  | none=>rw[h3] at h;cases h
  | some cs'=>rw[h3] at h;rw[Xo hg h3];exact h
 ·have e1:∀ hp:Hp,Kb hp a=G0 hp a:=fun hp=>by cases a<;>first | rfl | exact absurd ⟨_,rfl⟩ ha
  rw[e1] at h ⊢
  exact Xn hg h
theorem Tn (hg:More hp hp'):∀ {l l':List AV},E6 hp l=some l'→E6 hp' l=some l'
 | [],l',h=>h
 | a :: l,l',h=>by
  simp only[E6] at h ⊢
  cases h1:Kb hp a with
  | none=>rw[h1] at h;cases h
  | some a' =>
   cases h2:E6 hp l with
   | none=>rw[h1,h2] at h;cases h
   | some l2=>rw[h1,h2] at h;rw[Abt hg h1,Tn hg h2];exact h
theorem Aeb (hg:More hp hp') {size:Nat} {tys:List TypeId} {zc:List AV}:∀ {m:Nat} {ps:List (Nat×Operand)} {k:Nat} {els:List (List AV)},Dt P tys hp size tm zc m k ps=some els→Dt P tys hp' size tm zc m k ps=some els:=by
 intro m
 induction m with
 | zero=>intro ps k els h;cases ps<;>exact h
 | succ m ih =>
  intro ps k els h
  cases ps with
  | nil =>
   simp only[Dt] at h ⊢
   cases h2:Dt P tys hp size tm zc m (k+1) [] with
   | none=>rw[h2] at h;cases h
   | some l=>rw[h2] at h;rw[ih h2];exact h
  | cons p rest =>
   obtain⟨i,x⟩:=p
   simp only[Dt] at h ⊢
   split at h
   ·rename_i hc
    try rw[hc]
    try simp only
    split at h
    ·rename_i hc2
     try rw[hc2]
     try simp only
     cases h1:D0 hp (Jx P tys (ev tm x).cells) with
     | none=>rw[h1] at h;cases h
     | some c =>
      cases h2:Dt P tys hp size tm zc m (k+1) rest with
      | none=>rw[h1,h2] at h;cases h
      | some l=>rw[h1,h2] at h;rw[Us hg h1,ih h2];exact h
    ·cases h
   ·rename_i hc
    try rw[hc]
    try simp only
    cases h2:Dt P tys hp size tm zc m (k+1) ((i,x) :: rest) with
    | none=>rw[h2] at h;cases h
    | some l=>rw[h2] at h;rw[ih h2];exact h
theorem Ak1 {x v:AV} {sz:Nat} {lo hi:Option AV} (hg:More hp hp') (h:Rf hp x sz lo hi some=some v):Rf hp' x sz lo hi some=some v:=by
 cases x<;>simp only[Rf] at h ⊢<;>first | exact h | skip
 case row id n =>
  cases ho:nth? hp id with
  | none=>rw[ho] at h;cases h
  | some o=>rw[ho] at h;rw[hg id o ho];exact h
 case own id off n =>
  cases ho:nth? hp id with
  | none=>rw[ho] at h;cases h
  | some o=>rw[ho] at h;rw[hg id o ho];exact h
 case stk id ver n =>
  cases ho:nth? hp id with
  | none=>rw[ho] at h;cases h
  | some o=>rw[ho] at h;rw[hg id o ho];exact h
theorem Wn {g g':FuncId}:Vu H f (.func g') g=H.inl f g:=by simp[Vu,A29]
theorem Rl {o:Oper} {op:Op} (ho:o.op=op) (hst:∀ hp,B5 P H call f o tm hp=Bs P tm hp op fun v=>some (v,hp)) {v:AV} {hp1:Hp} (h:B5 P H call f o tm hp=some (v,hp1)) :
 hp1=hp∧Bs P tm hp op some=some v∧∀ hp2,Bs P tm hp2 op some=some v→B5 P H call f o tm hp2=some (v,hp2):=by
 rw[hst,Jn] at h
 cases hv:Bs P tm hp op some with
 | none=>rw[hv] at h;cases h
 | some u =>
  rw[hv] at h
  cases h
  exact⟨rfl,rfl,fun hp2 h2=>by rw[hst,Jn,h2];rfl⟩
theorem A2i {o:Oper} (hc:cls H f o=.P) {v:AV} {hp1:Hp} (h:B5 P H call f o tm hp=some (v,hp1)):hp1=hp∧∀ hp2,B5 P H call f o tm hp2=some (v,hp2):=by
 have fin:∀ op:Op,o.op=op→(∀ hp,B5 P H call f o tm hp=Bs P tm hp op fun v=>some (v,hp))→(∀ hp2,Bs P tm hp op some=Bs P tm hp2 op some)→hp1=hp∧∀ hp2,B5 P H call f o tm hp2=some (v,hp2):=fun op ho hst hrfl=>by
  obtain⟨h1,h2,h3⟩:=Rl ho hst h
  exact⟨h1,fun hp2=>h3 hp2 (by rw[← hrfl hp2];exact h2)⟩
 unfold cls at hc
 cases ho:o.op<;>rw[ho] at hc<;>simp only at hc<;>first | (cases hc;done) | ((repeat' split at hc)<;>(cases hc;done)) | skip
 case assign x =>
  have hob:Hl H f o.dst=false∧Iw H f o.dst=false:=by
   cases hob:Hl H f o.dst with
   | true=>rw[hob] at hc;cases hc
   | false=>cases hst:Iw H f o.dst with
     | true=>rw[hob,hst] at hc;cases hc
     | false=>exact⟨rfl,rfl⟩
  have hst:∀ hp,B5 P H call f o tm hp=some ((match ev tm x with
   | .nils=>Aet P (Lx H f o.dst) o.type
   | _=>ev tm x),hp):=fun hp=>by
   simp only[B5,By,ho,hob.1,hob.2]
   split
   ·rename_i hx;rw[hx]
   ·rename_i hx;split
    ·rename_i hy;exact absurd hy hx
    ·rfl
  rw[hst] at h;cases h
  exact⟨rfl,fun hp2=>hst hp2⟩
 case call c =>
  obtain⟨cal,args,ats⟩:=c
  cases cal with
  | value x=>cases x<;>simp only at hc<;>first | (cases hc;done) | ((repeat' split at hc)<;>(cases hc;done)) | skip
             repeat' split at hc
             all_goals cases hc
  | invoke _ _=>cases hc
  | builtin b =>
   cases b<;>simp only at hc<;>first | (cases hc;done) | ((repeat' split at hc)<;>(cases hc;done)) | skip
   all_goals exact fin _ ho (fun hp=>by simp only[B5,By,ho]) (fun _=>rfl)
 case makeSlice t n c =>
  have hob:Hl H f o.dst=false∧Iy H f o.dst=false:=by
   cases h1:Hl H f o.dst<;>cases h2:Iy H f o.dst<;>rw[h1,h2] at hc<;>first | (cases hc;done) | exact⟨rfl,rfl⟩
  exact fin _ ho (fun hp=>by simp only[B5,By,ho,hob.1,hob.2,Nx]) (fun _=>rfl)
 case unOp u t x=>cases u<;>exact fin _ ho (fun hp=>by simp only[B5,By,ho]) (fun _=>rfl)
 case makeFunc fn x y=>cases fn<;>exact fin _ ho (fun hp=>by simp only[B5,By,ho]) (fun _=>rfl)
 all_goals exact fin _ ho (fun hp=>by simp only[B5,By,ho]) (fun _=>rfl)
theorem A9n {m:AV} {x:Option IntKind×List (List AV)} (hg:Ju hp hp') (h:Ke hp m=some x):Ke hp' m=some x:=by
 cases m<;>simp only[Ke] at h ⊢<;>first | exact h | skip
 case mapp id =>
  cases ho:nth? hp id with
  | none=>rw[ho] at h;cases h
  | some o =>
   obtain⟨o',h1,h2⟩:=hg id o ho
   rw[ho] at h
   rw[h1]
   rcases h2 with rfl | ⟨e,size,els,more,rfl,rfl⟩
   ·exact h
   ·cases h
theorem A2e {hp2:Hp} {t:TypeId} {m k v:AV} {ok:Bool} (he:∀ x,Ke hp m=some x→Ke hp2 m=some x) (h:Ok P hp t m k ok some=some v):Ok P hp2 t m k ok some=some v:=by
 rw[Se] at h ⊢
 unfold Uu at h ⊢
 cases hx:Ke hp m with
 | none =>
  rw[hx] at h
  (repeat' split at h)<;>first | (cases h;done) | (exfalso;simp_all;done)
 | some x=>rw[he x hx];rw[hx] at h;exact h
theorem St {o:Oper} (hc:cls H f o=.R) {v:AV} {hp1:Hp} (h:B5 P H call f o tm hp=some (v,hp1)):hp1=hp∧∀ hp2,Ju hp hp2→B5 P H call f o tm hp2=some (v,hp2):=by
 have fin:∀ op:Op,o.op=op→(∀ hp,B5 P H call f o tm hp=Bs P tm hp op fun v=>some (v,hp))→(∀ hp2,Ju hp hp2→Bs P tm hp op some=some v→Bs P tm hp2 op some=some v)→hp1=hp∧∀ hp2,Ju hp hp2→B5 P H call f o tm hp2=some (v,hp2):=fun op ho hst hrfl=>by
  obtain⟨h1,h2,h3⟩:=Rl ho hst h
  exact⟨h1,fun hp2 hg=>h3 hp2 (hrfl hp2 hg h2)⟩
 unfold cls at hc
 cases ho:o.op<;>rw[ho] at hc<;>simp only at hc<;>first | (cases hc;done) | ((repeat' split at hc)<;>(cases hc;done)) | skip
 case load t a=>exact fin _ ho (fun hp=>by simp only[B5,By,ho]) (fun hp2 hg h=>by simp only[Bs] at h ⊢;exact Af2 hg h)
 case indexAddr t x y =>
  refine fin _ ho (fun hp=>by simp only[B5,By,ho]) (fun hp2 hg h=>?_)
  simp only[Bs] at h ⊢
  cases hy:ev tm y<;>rw[hy] at h<;>simp only at h ⊢<;>first | (cases h;done) | exact A9z hg h
 case lookup t m x ok=>exact fin _ ho (fun hp=>by simp only[B5,By,ho]) (fun hp2 hg h=>by simp only[Bs] at h ⊢;exact A2e (fun x hx=>A9n hg hx) h)
theorem A03 {o:Oper} {l:List Operand} {ats:Array TypeId} (ho:o.op=.call ⟨.builtin .append,⟨.const (.slice none 0 0) :: l⟩,ats⟩) (hst:Iw H f o.dst=false) (hob:Hl H f o.dst=false) (har:Iy H f o.dst=false) {v:AV} {hp1:Hp} (h:B5 P H call f o tm hp=some (v,hp1)) :
 hp1=hp∧∃ x sz news,x ∈ o.op.operands∧E0 hp sz (ev tm x)=some news∧∀ hp2,E0 hp2 sz (ev tm x)=some news→B5 P H call f o tm hp2=some (v,hp2):=by
 have hev:ev tm (.const (.slice none 0 0))=.nils:=rfl
 obtain⟨ats⟩:=ats
 rcases l with _ | ⟨x,_ | ⟨y,l⟩⟩
 ·simp only[B5,By,ho] at h;cases h
 ·rcases ats with _ | ⟨t,_ | ⟨t',_ | ⟨t2,ats⟩⟩⟩
  ·simp only[B5,By,ho] at h;cases h
  ·simp only[B5,By,ho] at h;cases h
  ·cases htt:decide (t=t') with
   | false=>simp only[B5,By,ho,htt] at h;cases h
   | true =>
   cases he:Fr P t with
   | none=>simp only[B5,By,ho,htt,he] at h;cases h
   | some e =>
   cases hz:zero P e with
   | none=>simp only[B5,By,ho,htt,he,hz] at h;cases h
   | some z =>
   cases hq:(decide (z.cells.length=P.cellsOf e)&&z.cells.all AV.one&&decide (0 < P.cellsOf e)) with
   | false=>simp only[B5,By,ho,htt,he,hz,hq] at h;cases h
   | true =>
   cases hx:E0 hp (P.cellsOf e) (ev tm x) with
   | none=>simp only[B5,By,ho,htt,he,hz,hq,hx] at h;cases h
   | some news =>
   cases hb:decide (news.length*(P.bytesOf e+1)≤140737488355328) with
   | false=>simp only[B5,By,ho,htt,he,hz,hq,hx,hev,hb,B3] at h;cases h
   | true =>
   simp only[B5,By,ho,htt,he,hz,hq,hx,hev,hb,As,hob,har] at h
   cases h
   refine⟨rfl,x,P.cellsOf e,news,by rw[ho];simp[Op.operands,Call.operands],hx,fun hp2 h2=>?_⟩
   simp only[B5,By,ho,htt,he,hz,hq,h2,hev,hb,As,hob,har]
  ·simp only[B5,By,ho] at h;cases h
 ·simp only[B5,By,ho] at h;cases h
theorem A6b {o:Oper} {args:Array Operand} (hc:(match Iw H f o.dst with
 | true=>Cls.W
 | false=>match Hl H f o.dst || Iy H f o.dst || !Y5 args.toList with
   | true=>.G
   | false=>.C)=.C):Iw H f o.dst=false∧Hl H f o.dst=false∧Iy H f o.dst=false∧∃ l,args=⟨.const (.slice none 0 0) :: l⟩:=by
 cases h1:Iw H f o.dst<;>rw[h1] at hc<;>simp only at hc
 ·cases h2:Hl H f o.dst<;>cases h3:Iy H f o.dst<;>rw[h2,h3] at hc<;>simp only[Bool.or_true,Bool.true_or,Bool.or_false,Bool.false_or,reduceCtorEq] at hc
  cases h4:Y5 args.toList with
  | false=>rw[h4] at hc;simp at hc
  | true =>
   refine⟨rfl,rfl,rfl,?_⟩
   obtain⟨l⟩:=args
   unfold Y5 at h4
   split at h4
   ·rename_i l' hl
    simp only at hl
    exact⟨l',by rw[hl]⟩
   ·cases h4
 ·cases hc
theorem Vg {o:Oper} (hc:cls H f o=.C) {v:AV} {hp1:Hp} (h:B5 P H call f o tm hp=some (v,hp1)):hp1=hp∧∀ hp2,More hp hp2→B5 P H call f o tm hp2=some (v,hp2):=by
 have fin:∀ op:Op,o.op=op→(∀ hp,B5 P H call f o tm hp=Bs P tm hp op fun v=>some (v,hp))→(∀ hp2,More hp hp2→Bs P tm hp op some=some v→Bs P tm hp2 op some=some v)→hp1=hp∧∀ hp2,More hp hp2→B5 P H call f o tm hp2=some (v,hp2):=fun op ho hst hrfl=>by
  obtain⟨h1,h2,h3⟩:=Rl ho hst h
  exact⟨h1,fun hp2 hg=>h3 hp2 (hrfl hp2 hg h2)⟩
 unfold cls at hc
 cases ho:o.op<;>rw[ho] at hc<;>simp only at hc<;>first | (cases hc;done) | ((repeat' split at hc)<;>(cases hc;done)) | skip
 case makeInterface t x =>
  refine fin _ ho (fun hp=>by simp only[B5,By,ho]) (fun hp2 hg h=>?_)
  simp only[Bs] at h ⊢
  cases hc1:Js hp (ev tm x) with
  | none =>
   rw[hc1] at h
   (repeat' split at h)<;>first | (cases h;done) | (exfalso;simp_all;done)
  | some a=>rw[A3d hg hc1];rw[hc1] at h;exact h
 case buildSlice t n ps =>
  have hob:Hl H f o.dst=false∧Iy H f o.dst=false:=by
   cases h1:Hl H f o.dst<;>cases h2:Iy H f o.dst<;>rw[h1,h2] at hc<;>first | (cases hc;done) | exact⟨rfl,rfl⟩
  refine fin _ ho (fun hp=>by simp only[B5,By,ho,hob.1,hob.2,Nx]) (fun hp2 hg h=>?_)
  simp only[Bs] at h ⊢
  repeat' split at h
  all_goals first | (cases h;done) | skip
  rename_i h1 _ h2 _ h3 _ h4 _ h5 _ h6
  simp_all [Aeb hg h6]
 case slice t x lo hi mx =>
  have hst:Iw H f o.dst=false:=by
   cases hs:Iw H f o.dst with
   | false=>rfl
   | true=>rw[hs] at hc;cases hc
  refine fin _ ho (fun hp=>by simp only[B5,By,ho,hst];rfl) (fun hp2 hg h=>?_)
  cases mx with
  | some _=>simp only[Bs] at h;cases h
  | none =>
   simp only[Bs] at h ⊢
   cases hu:P.underlying t with
   | none=>rw[hu] at h;cases h
   | some d =>
    rw[hu] at h
    cases d<;>simp only at h ⊢<;>first | exact h | skip
    rename_i et
    cases hz:decide (0 < P.cellsOf et) with
    | false=>rw[hz] at h;cases h
    | true=>rw[hz] at h;exact Ak1 hg h
 case convert s t x =>
  refine fin _ ho (fun hp=>by simp only[B5,By,ho]) (fun hp2 hg h=>?_)
  simp only[Bs] at h ⊢
  split at h
  ·exact h
  ·split at h
   ·exact h
   ·split at h
    ·cases hx:E0 hp 1 (ev tm x) with
     | none=>rw[hx] at h;cases h
     | some els=>rw[hx] at h;rw[A1p hg hx];exact h
    ·exact h
   ·exact h
  ·exact h
 case call c =>
  obtain⟨cal,args,ats⟩:=c
  cases cal with
  | value x =>
   cases x<;>simp only at hc<;>first | (cases hc;done) | ((repeat' split at hc)<;>(cases hc;done)) | skip
   rename_i g
   cases hi:H.inl f g with
   | true=>rw[hi] at hc;simp only at hc;split at hc<;>cases hc
   | false =>
    cases had:Lx H f o.dst with
    | true=>rw[hi] at hc;simp only[had] at hc;cases hc
    | false =>
    simp only[B5,By,ho,ev,Wn,hi,had] at h ⊢
    cases hg:H.good.contains g with
    | false=>rw[hg] at h;cases h
    | true =>
     rw[hg] at h
     simp only at h ⊢
     cases hown:A2m ([]++Df P ats.toList (args.toList.map (ev tm))++[]) with
     | false =>
      rw[hown] at h
      simp only at h ⊢
      cases ha:El hp ([]++Df P ats.toList (args.toList.map (ev tm))++[]) with
      | none=>rw[ha] at h;cases h
      | some as =>
       rw[ha] at h
       simp only at h
       have key:∀ r,call false g as []=r→hp1=hp∧∀ hp2,More hp hp2→(match El hp2 ([]++Df P ats.toList (args.toList.map (ev tm))++[]) with
        | some as=>match call false g as [] with
          | some (v,[])=>some (v,hp2)
          | _=>none
        | none=>none)=some (v,hp2):=by
        intro r hr
        rw[hr] at h
        match r,h with
        | some (u,[]),h =>
         cases h
         exact⟨rfl,fun hp2 hm=>by rw[V4 hm ha];simp only[hr]⟩
       exact key _ rfl
     | true =>
      rw[hown] at h
      simp only at h ⊢
      cases ha:E6 hp ([]++Df P ats.toList (args.toList.map (ev tm))++[]) with
      | none=>rw[ha] at h;cases h
      | some as =>
       rw[ha] at h
       simp only at h
       have key:∀ r,call false g as []=r→hp1=hp∧∀ hp2,More hp hp2→(match E6 hp2 ([]++Df P ats.toList (args.toList.map (ev tm))++[]) with
        | some as=>match call false g as [] with
          | some (v,[])=>match A5p v with
            | true=>some (v,hp2)
            | false=>none
          | _=>none
        | none=>none)=some (v,hp2):=by
        intro r hr
        rw[hr] at h
        match r,h with
        | some (u,[]),h =>
         cases hfl:A5p u with
         | false=>simp only[hfl] at h;cases h
         | true =>
          simp only[hfl] at h
          cases h
          exact⟨rfl,fun hp2 hm=>by rw[Tn hm ha];simp only[hr,hfl]⟩
       exact key _ rfl
  | invoke _ _=>cases hc
  | builtin b =>
   cases b<;>simp only at hc<;>first | (cases hc;done) | skip
   obtain⟨hst,hob,har,l,rfl⟩:=A6b hc
   obtain⟨h1,x,sz,news,h2,h3,h4⟩:=A03 ho hst hob har h
   exact⟨h1,fun hp2 hg=>h4 hp2 (A1p hg h3)⟩
theorem A60 {t:TypeId} {b1 b2:Bool} {u v:AV} {hp1:Hp} (h:Nx P t b1 b2 hp (fun v hp=>some (v,hp)) u=some (v,hp1)):More hp hp1:=by
 unfold Nx at h
 simp only[B2] at h
 repeat' split at h
 all_goals first | (cases h;done) | (cases h;exact More.append _ _) | (cases h;exact fun _ _ h=>h)
theorem Aju {o:Oper} (hc:cls H f o=.A) {v:AV} {hp1:Hp} (h:B5 P H call f o tm hp=some (v,hp1)):More hp hp1:=by
 unfold cls at hc
 cases ho:o.op<;>rw[ho] at hc<;>simp only at hc<;>first | (cases hc;done) | skip
 case assign x =>
  simp only[B5,By,ho,B2] at h
  repeat' split at h
  all_goals first | (cases h;done) | (cases h;exact More.append _ _) | (cases h;exact fun _ _ h=>h)
 case slice t x lo hi mx=>split at hc<;>cases hc
 case alloc t =>
  simp only[B5,By,ho,B2] at h
  repeat' split at h
  all_goals first | (cases h;done) | (cases h;exact More.append _ _)
 case makeMap t rr =>
  simp only[B5,By,ho,B2] at h
  repeat' split at h
  all_goals first | (cases h;done) | (cases h;exact More.append _ _)
 case buildSlice t n ps =>
  simp only[B5,By,ho] at h
  rw[Jn] at h
  cases hv:Bs P tm hp (.buildSlice t n ps) some with
  | none=>rw[hv] at h;cases h
  | some u=>rw[hv] at h;exact A60 h
 case makeSlice t n c =>
  simp only[B5,By,ho] at h
  rw[Jn] at h
  cases hv:Bs P tm hp (.makeSlice t n c) some with
  | none=>rw[hv] at h;cases h
  | some u=>rw[hv] at h;exact A60 h
 case box t x =>
  simp only[B5,By,ho,B2] at h
  repeat' split at h
  all_goals first | (cases h;done) | (cases h;exact More.append _ _)
 case call c =>
  obtain⟨cal,args,ats⟩:=c
  cases cal with
  | value x =>
   cases x<;>simp only at hc<;>first | (cases hc;done) | ((repeat' split at hc)<;>(cases hc;done)) | skip
   rename_i g
   cases hi:H.inl f g with
   | true=>rw[hi] at hc;simp only at hc;split at hc<;>cases hc
   | false =>
    cases had:Lx H f o.dst with
    | false=>rw[hi] at hc;simp only[had] at hc;cases hc
    | true =>
     simp only[B5,By,ho,ev,Wn,hi,had,B2] at h
     repeat' split at h
     all_goals first | (cases h;done) | (cases h;exact More.append _ _)
  | invoke _ _=>cases hc
  | builtin b=>cases b<;>simp only at hc<;>(repeat' split at hc)<;>cases hc
theorem Ahu {id e' size e sz:Nat} {els news:List (List AV)} {c:Bool} {k v:AV} {hp1:Hp} (hob:nth? hp id=some (.row e' size els)) (hq:(decide (e'=e)&&decide (size=sz))=true) (h:(bif c then some (k,Bq hp id (.row e sz (els++news))) else none)=some (v,hp1)):Ju hp hp1:=by
 obtain⟨_,h⟩:=L3 h
 cases h
 simp only[A8,Ai] at hq
 obtain⟨rfl,rfl⟩:=hq
 intro id' o' ho'
 rw[nth?_eq] at ho' hob
 by_cases hid:id'=id
 ·subst hid
  rw[hob] at ho';cases ho'
  exact⟨_,by rw[nth?_eq,B8,List.getElem?_set_self (nth?_lt hob)],.inr ⟨_,_,_,_,rfl,rfl⟩⟩
 ·exact⟨o',by rw[nth?_eq,B8,List.getElem?_set_ne (Ne.symm hid)];exact ho',.inl rfl⟩
theorem Alx {c:Bool} {k k' v:AV} {o:Ob} {hp1:Hp} (h:(bif c then some (k,hp) else some (k',hp++[o]))=some (v,hp1)):Ju hp hp1:=by
 cases c with
 | true=>cases h;exact More.grown fun _ _ h=>h
 | false=>cases h;exact(More.append _ _).grown
theorem Are {o:Oper} (hc:cls H f o=.G) {v:AV} {hp1:Hp} (h:B5 P H call f o tm hp=some (v,hp1)):Ju hp hp1:=by
 unfold cls at hc
 cases ho:o.op<;>rw[ho] at hc<;>simp only at hc<;>first | (cases hc;done) | skip
 case assign x=>(repeat' split at hc)<;>cases hc
 case buildSlice t n ps=>split at hc<;>cases hc
 case makeSlice t n c=>split at hc<;>cases hc
 case slice t x lo hi mx=>split at hc<;>cases hc
 case call c =>
  obtain⟨cal,args,ats⟩:=c
  cases cal with
  | value x=>cases x<;>simp only at hc<;>first | (cases hc;done) | ((repeat' split at hc)<;>(cases hc;done)) | skip
             repeat' split at hc
             all_goals cases hc
  | invoke _ _=>cases hc
  | builtin b =>
   cases b<;>simp only at hc<;>first | (cases hc;done) | ((repeat' split at hc)<;>(cases hc;done)) | skip
   simp only[B5,By,ho,B2] at h
   repeat' split at h
   all_goals first
    | (cases h;done)
    | (obtain⟨_,h⟩:=L3 h;cases h;exact More.grown fun _ _ h=>h)
    | (obtain⟨_,h⟩:=L3 h;cases h;exact(More.append _ _).grown)
    | (obtain⟨_,h⟩:=L3 h;exact Alx h)
    | exact Ahu (by assumption) (by assumption) h
    | skip
   all_goals
    rename_i hq
    simp only[A8] at hq
    rw[hq.1] at hc;cases hc
theorem nth?_map_agree {hp2:Hp} {raw:List AV} (h:∀ id ∈ Cd E9 raw,nth? hp2 id=nth? hp id):raw.map (Wd hp2)=raw.map (Wd hp):=by
 have h1:∀ a,(∀ id ∈ Cv a,nth? hp2 id=nth? hp id)→P7 hp2 a=P7 hp a:=by
  intro a ha
  cases a<;>simp only[P7]
  rw[ha _ (by simp[Cv])]
 have hL:∀ l:List AV,(∀ id ∈ Cd Cv l,nth? hp2 id=nth? hp id)→l.map (P7 hp2)=l.map (P7 hp):=by
  intro l
  induction l with
  | nil=>intro _;rfl
  | cons a l ih =>
   intro hl
   rw[List.map_cons,List.map_cons,h1 a fun id hid=>hl id (by simp only[Cd];exact List.mem_append_left _ hid),ih fun id hid=>hl id (by simp only[Cd];exact List.mem_append_right _ hid)]
 induction raw with
 | nil=>rfl
 | cons a l ih =>
  have ha:∀ id ∈ E9 a,nth? hp2 id=nth? hp id:=fun id hid=>h id (by simp only[Cd];exact List.mem_append_left _ hid)
  rw[List.map_cons,List.map_cons,ih fun id hid=>h id (by simp only[Cd];exact List.mem_append_right _ hid)]
  congr 1
  cases a<;>simp only[Wd]<;>first | exact h1 _ ha | skip
  ·rw[hL _ ha]
  ·simp only[E9] at ha
   rw[hL _ fun id hid=>ha id (List.mem_append_left _ hid),hL _ fun id hid=>ha id (List.mem_append_right _ hid)]
theorem nth?_mapF_agree {nr:Bool} {hp2:Hp} {raw:List AV} (h:∀ id ∈ Cd E9 raw,nth? hp2 id=nth? hp id):raw.map (U8 nr hp2)=raw.map (U8 nr hp):=by
 cases nr with
 | true=>rfl
 | false=>exact nth?_map_agree h
theorem A0c {hp2:Hp} (q:Nat→Option Nat):∀ (ids:List Nat),(∀ id ∈ ids,nth? hp2 id=nth? hp id)→Lu P q hp2 ids=Lu P q hp ids
 | [],_=>rfl
 | a :: l,h=>by
  simp only[Lu,h a List.mem_cons_self,A0c q l fun id hid=>h id (List.mem_cons_of_mem _ hid)]
theorem A88 {g:FuncId} {nr:Bool} {raw:List AV} {v:AV} {hp1:Hp} (h:Mq P call g nr raw hp (fun v hp=>some (v,hp))=some (v,hp1)) :
 ∃ ids m,P8 hp 64 (Cd E9 (raw.map (U8 nr hp))) []=some ids∧ids.Nodup∧(∀ id ∈ ids,id < hp.length)∧(∀ id ∈ Cd E9 raw,id < hp.length)∧ids.length=m.length∧hp1=D5 ids m hp ∧
   ∀ hp2:Hp,(∀ id ∈ Cd E9 raw++ids,nth? hp2 id=nth? hp id)→P8 hp2 64 (Cd E9 (raw.map (U8 nr hp2))) []=some ids∧Mq P call g nr raw hp2 (fun v hp=>some (v,hp))=some (v,D5 ids m hp2):=by
 unfold Mq at h
 split at h
 ·rename_i hB
  rw[Dp Fw] at h
  split at h
  ·rename_i ids hids
   obtain⟨r1,r2,_,r4⟩:=A0u _ _ _ _ _ hids List.nodup_nil (fun id h=>by cases h)
   rw[M9] at h
   unfold Vf at h
   rw[Dp Fw,B2] at h
   split at h
   ·rename_i u hpn hcall
    split at h
    ·rename_i hl
     rw[B2] at h
     cases h
     refine⟨ids,hpn.map (Jb P (nth? ids)),hids,r1,r2,A8r hB,by simp[of_decide_eq_true hl],Tk P ids ids hpn hp,fun hp2 h2=>?_⟩
     have e1:=nth?_mapF_agree (nr:=nr) (hp:=hp) (hp2:=hp2) (raw:=raw) fun id hid=>h2 id (List.mem_append_left _ hid)
     have e2:=r4 hp2 fun id hid=>h2 id (List.mem_append_right _ hid)
     rw[e1]
     refine⟨e2,?_⟩
     have hB2:idB hp2.length (Cd E9 raw)=true:=by
      have:∀ l:List Nat,(∀ id ∈ l,id < hp2.length)→idB hp2.length l=true:=by
       intro l
       induction l with
       | nil=>intro _;rfl
       | cons a l ih =>
        intro hl
        have ha:Nat.blt a hp2.length=true:=Nat.ble_eq_true_of_le (hl a List.mem_cons_self)
        simp only[idB,ha]
        exact ih fun id hid=>hl id (List.mem_cons_of_mem _ hid)
      refine this _ fun id hid=>?_
      have e3:=h2 id (List.mem_append_left _ hid)
      have e4:=A8r hB id hid
      rw[nth?_eq,nth?_eq,A6 e4] at e3
      exact nth?_lt e3
     unfold Mq
     rw[hB2]
     simp only
     rw[Dp Fw,e1,e2]
     simp only
     rw[M9]
     unfold Vf
     rw[Dp Fw,B2,A0c (hp:=hp) (hp2:=hp2) (Iv ids 0) ids fun id hid=>h2 id (List.mem_append_right _ hid),hcall]
     simp only[hl]
     rw[B2,Tk]
    ·cases h
   ·cases h
  ·cases h
 ·cases h
theorem Q6 {a:AV} {id:Nat} (h:id ∈ Cv a):id ∈ Na a:=by cases a<;>simp[Cv] at h<;>simp[Na,E9,Cv,h]
theorem Aaj {a:AV} {id:Nat} (h:id ∈ E9 a):id ∈ Na a:=by cases a<;>first | exact h | (simp[E9,Cv] at h)
theorem An0 {g:AV→List Nat} {l:List AV} {a:AV} {id:Nat} (ha:a ∈ l) (h:id ∈ g a):id ∈ Cd g l:=by
 induction l with
 | nil=>cases ha
 | cons b l ih =>
  simp only[Cd]
  rcases List.mem_cons.1 ha with rfl | ha
  ·exact List.mem_append_left _ h
  ·exact List.mem_append_right _ (ih ha)
theorem Ug {hp2:Hp} {size:Nat} {a:AV} (hg:∀ id ∈ Cv a,nth? hp2 id=nth? hp id):E0 hp2 size a=E0 hp size a:=by
 cases a<;>simp only[E0]<;>rw[hg _ (by simp[Cv])]
theorem Ajn {size:Nat} {a:AV} {els:List (List AV)} (h:E0 hp size a=some els):Na a=Cv a∧∀ id ∈ Cv a,id < hp.length:=by
 have key:∀ id,(∃ o,nth? hp id=some o)→id < hp.length:=fun id ⟨o,ho⟩=>by rw[nth?_eq] at ho;exact nth?_lt ho
 cases a<;>simp only[E0] at h<;>first | (cases h;done) | (refine⟨rfl,?_⟩;intro i hi;simp[Cv] at hi;done) | skip
 case row id n =>
  refine⟨rfl,fun i hi=>?_⟩
  simp[Cv] at hi;subst hi
  exact key _ (by cases ho:nth? hp i with | none=>rw[ho] at h;cases h | some o=>exact⟨o,rfl⟩)
 case own id off n =>
  refine⟨rfl,fun i hi=>?_⟩
  simp[Cv] at hi;subst hi
  exact key _ (by cases ho:nth? hp i with | none=>rw[ho] at h;cases h | some o=>exact⟨o,rfl⟩)
 case stk id ver n =>
  refine⟨rfl,fun i hi=>?_⟩
  simp[Cv] at hi;subst hi
  exact key _ (by cases ho:nth? hp i with | none=>rw[ho] at h;cases h | some o=>exact⟨o,rfl⟩)
theorem Sn {hp2:Hp} {a:AV} (hg:∀ id ∈ Cv a,nth? hp2 id=nth? hp id):D9 hp2 a=D9 hp a:=by
 cases a<;>first | rfl | skip
 ·simp only[D9];rw[hg _ (by simp[Cv])]
 ·rename_i f a b
  cases a<;>cases b<;>rfl
theorem A9y {hp2:Hp} {m:AV} (hg:∀ id ∈ Cv m,nth? hp2 id=nth? hp id):Ke hp2 m=Ke hp m:=by
 cases m<;>first | rfl | skip
 simp only[Ke];rw[hg _ (by simp[Cv])]
theorem A0a {hp2:Hp} {f:FuncId} {a b:List AV}:D9 hp2 (.func f a b)=D9 hp (.func f a b):=by cases a<;>cases b<;>rfl
theorem Ot {hp2:Hp} {l:List AV} (hg:∀ id ∈ Cd Cv l,nth? hp2 id=nth? hp id):D0 hp2 l=D0 hp l:=by
 induction l with
 | nil=>rfl
 | cons a l ih=>simp only[D0];rw[Sn fun id hid=>hg id (by simp only[Cd];exact List.mem_append_left _ hid),ih fun id hid=>hg id (by simp only[Cd];exact List.mem_append_right _ hid)]
theorem Wa:∀ {l c:List AV},D0 hp l=some c→∀ id ∈ Cd Cv l,id < hp.length
 | [],c,_,id,h=>by cases h
 | a :: l,c,hc,id,h=>by
  simp only[D0] at hc
  cases h1:D9 hp a with
  | none=>rw[h1] at hc;cases hc
  | some a' =>
   cases h2:D0 hp l with
   | none=>rw[h1,h2] at hc;cases hc
   | some l' =>
    simp only[Cd] at h
    rcases List.mem_append.1 h with h | h
    ·cases a<;>simp only[D9] at h1<;>first | (cases h1;done) | (simp[Cv] at h;done) | skip
     rename_i rid n
     simp[Cv] at h
     subst h
     cases ho:nth? hp id with
     | none=>rw[ho] at h1;cases h1
     | some o=>rw[nth?_eq] at ho;exact nth?_lt ho
    ·exact Wa h2 id h
theorem A9r {o:Oper} (hc:cls H f o=.S) {v:AV} {hp1:Hp} (h:B5 P H call f o tm hp=some (v,hp1)) :
 ∃ ids m,ids.Nodup∧(∀ id ∈ ids,id ∈ Cu P H f o tm hp)∧(∀ id ∈ Cu P H f o tm hp,id < hp.length)∧ids.length=m.length∧hp1=D5 ids m hp ∧
   ∀ hp2:Hp,(∀ id ∈ Cu P H f o tm hp,nth? hp2 id=nth? hp id)→Cu P H f o tm hp2=Cu P H f o tm hp∧B5 P H call f o tm hp2=some (v,D5 ids m hp2):=by
 have hc0:=hc
 unfold cls at hc
 cases ho:o.op<;>rw[ho] at hc<;>simp only at hc<;>first | (cases hc;done) | ((repeat' split at hc)<;>(cases hc;done)) | skip
 case store t a x =>
  have hft:∀ hp2:Hp,Cu P H f o tm hp2=match ev tm a with
   | .ptr id _=>[id]
   | .vel id _=>[id]
   | _=>Cv (ev tm a)++Cd Cv (ev tm x).cells:=fun hp2=>by simp only[Cu,hc0,ho];rfl
  simp only[B5,By,ho,B2] at h
  cases hq:(decide ((ev tm x).cells.length=P.cellsOf t)&&decide (0 < P.cellsOf t)&&(ev tm x).cells.all AV.one) with
  | false=>rw[hq] at h;cases h
  | true =>
  rw[hq] at h
  simp only at h
  cases ha:ev tm a<;>rw[ha] at h<;>simp only at h<;>first | (cases h;done) | skip
  case ptr id off =>
   cases hob:nth? hp id with
   | none=>rw[hob] at h;cases h
   | some ob =>
   rw[hob] at h
   cases ob<;>simp only at h<;>first | (cases h;done) | skip
   rename_i E cs
   obtain⟨hle,h⟩:=L3 h
   cases h
   have hlt:id < hp.length:=by rw[nth?_eq] at hob;exact nth?_lt hob
   have hfl:∀ hp2:Hp,Cu P H f o tm hp2=[id]:=fun hp2=>by rw[hft hp2,ha]
   rw[hfl]
   refine⟨[id],[_],by simp,fun i hi=>hi,fun i hi=>by simp at hi;subst hi;exact hlt,rfl,by rw[B8];rfl,fun hp2 h2=>⟨hfl hp2,?_⟩⟩
   have e1:nth? hp2 id=some (.var E cs):=(h2 id List.mem_cons_self).trans hob
   simp only[B5,By,ho,hq,ha,e1,hle,As,B2,B8,D5]
  case vel id off =>
   cases hob:nth? hp id with
   | none=>rw[hob] at h;cases h
   | some ob =>
   rw[hob] at h
   cases ob<;>simp only at h<;>first | (cases h;done) | skip
   rename_i E cs
   obtain⟨hle,h⟩:=L3 h
   cases h
   have hlt:id < hp.length:=by rw[nth?_eq] at hob;exact nth?_lt hob
   have hfl:∀ hp2:Hp,Cu P H f o tm hp2=[id]:=fun hp2=>by rw[hft hp2,ha]
   rw[hfl]
   refine⟨[id],[_],by simp,fun i hi=>hi,fun i hi=>by simp at hi;subst hi;exact hlt,rfl,by rw[B8];rfl,fun hp2 h2=>⟨hfl hp2,?_⟩⟩
   have e1:nth? hp2 id=some (.var E cs):=(h2 id List.mem_cons_self).trans hob
   simp only[B5,By,ho,hq,ha,e1,hle,As,B2,B8,D5]
  case pte id i off =>
   cases hob:nth? hp id with
   | none=>rw[hob] at h;cases h
   | some ob =>
   rw[hob] at h
   cases ob<;>simp only at h<;>first | (cases h;done) | skip
   rename_i size els
   cases hel:nth? els i with
   | none=>rw[hel] at h;cases h
   | some el =>
   rw[hel] at h
   cases hcl:D0 hp (ev tm x).cells with
   | none=>rw[hcl] at h;cases h
   | some c =>
   rw[hcl] at h
   simp only at h
   obtain⟨hle,h⟩:=L3 h
   cases h
   have hlt:id < hp.length:=by rw[nth?_eq] at hob;exact nth?_lt hob
   have hfl:∀ hp2:Hp,Cu P H f o tm hp2=id :: Cd Cv (ev tm x).cells:=fun hp2=>by rw[hft hp2,ha];rfl
   rw[hfl]
   refine⟨[id],[_],by simp,fun i hi=>by simp at hi;simp[hi],fun i hi=>by
    rcases List.mem_cons.1 hi with rfl | hi
    ·exact hlt
    ·exact Wa hcl i hi,rfl,by rw[B8];rfl,fun hp2 h2=>⟨hfl hp2,?_⟩⟩
   have e1:nth? hp2 id=some (.arr size els):=(h2 id List.mem_cons_self).trans hob
   have e2:D0 hp2 (ev tm x).cells=some c:=(Ot fun i hi=>h2 i (List.mem_cons_of_mem _ hi)).trans hcl
   simp only[B5,By,ho,hq,ha,e1,hel,e2,hle,As,B2,B8,D5]
  case pts id ver i off =>
   cases hob:nth? hp id with
   | none=>rw[hob] at h;cases h
   | some ob =>
   rw[hob] at h
   cases ob<;>simp only at h<;>first | (cases h;done) | skip
   rename_i v e size els
   cases hv:decide (v=ver) with
   | false=>rw[hv] at h;cases h
   | true =>
   rw[hv] at h
   simp only at h
   cases hel:nth? els i with
   | none=>rw[hel] at h;cases h
   | some el =>
   rw[hel] at h
   cases hcl:D0 hp (ev tm x).cells with
   | none=>rw[hcl] at h;cases h
   | some c =>
   rw[hcl] at h
   simp only at h
   obtain⟨hle,h⟩:=L3 h
   cases h
   have hlt:id < hp.length:=by rw[nth?_eq] at hob;exact nth?_lt hob
   have hfl:∀ hp2:Hp,Cu P H f o tm hp2=id :: Cd Cv (ev tm x).cells:=fun hp2=>by rw[hft hp2,ha];rfl
   rw[hfl]
   refine⟨[id],[_],by simp,fun i hi=>by simp at hi;simp[hi],fun i hi=>by
    rcases List.mem_cons.1 hi with rfl | hi
    ·exact hlt
    ·exact Wa hcl i hi,rfl,by rw[B8];rfl,fun hp2 h2=>⟨hfl hp2,?_⟩⟩
   have e1:nth? hp2 id=some (.stk v e size els):=(h2 id List.mem_cons_self).trans hob
   have e2:D0 hp2 (ev tm x).cells=some c:=(Ot fun i hi=>h2 i (List.mem_cons_of_mem _ hi)).trans hcl
   simp only[B5,By,ho,hq,ha,e1,hv,hel,e2,hle,As,B2,B8,D5]
 case call c =>
  obtain⟨cal,args,ats⟩:=c
  cases cal with
  | invoke _ _=>cases hc
  | builtin b =>
   cases b<;>simp only at hc<;>first | (cases hc;done) | ((repeat' split at hc)<;>(cases hc;done)) | skip
   have hft:∀ hp2:Hp,Cu P H f o tm hp2=Cd Na ((Op.call ⟨.builtin .copy,args,ats⟩).operands.toList.map (ev tm)):=fun hp2=>by simp only[Cu,hc0,ho]
   simp only[B5,By,ho,B2] at h
   split at h
   rotate_left
   ·cases h
   rename_i d x
   split at h
   rotate_left
   ·cases h
   rename_i t t'
   cases he:Fr P t with
   | none=>rw[he] at h;cases h
   | some e =>
   rw[he] at h
   simp only at h
   cases hd:ev tm d<;>rw[hd] at h<;>simp only at h<;>first | (cases h;done) | skip
   rename_i id off n
   cases hob:nth? hp id with
   | none=>rw[hob] at h;cases h
   | some ob =>
   rw[hob] at h
   cases ob<;>simp only at h<;>first | (cases h;done) | skip
   rename_i size els
   cases hq:(decide (size=P.cellsOf e)&&decide (0 < size)) with
   | false=>rw[hq] at h;cases h
   | true =>
   rw[hq] at h
   simp only at h
   cases hx:E0 hp size (ev tm x) with
   | none=>rw[hx] at h;cases h
   | some news =>
   rw[hx] at h
   simp only at h
   obtain⟨hle,h⟩:=L3 h
   cases h
   have hlt:id < hp.length:=by rw[nth?_eq] at hob;exact nth?_lt hob
   obtain⟨x1,x2⟩:=Ajn hx
   have hfl:∀ hp2:Hp,Cu P H f o tm hp2=id :: Cv (ev tm x):=fun hp2=>by
    rw[hft hp2]
    simp[Op.operands,Call.operands,Cd,hd,x1]
    simp[Na,E9,Cv]
   rw[hfl]
   refine⟨[id],[.arr size (els.take off++(news.take n++els.drop (off+Nat.min news.length n)))],by simp,fun i hi=>by simp at hi;simp[hi],fun i hi=>by
    rcases List.mem_cons.1 hi with rfl | hi
    ·exact hlt
    ·exact x2 i hi,rfl,by rw[B8];rfl,fun hp2 h2=>⟨hfl hp2,?_⟩⟩
   have e1:nth? hp2 id=some (.arr size els):=(h2 id List.mem_cons_self).trans hob
   have e2:E0 hp2 size (ev tm x)=some news:=(Ug fun i hi=>h2 i (List.mem_cons_of_mem _ hi)).trans hx
   simp only[B5,By,ho,he,hd,e1,hq,e2,hle,As,B2,B8,D5]
  | value fo =>
   have hway:∀ g,Vu H f fo g=true→Tr H f fo g=false→True:=fun _ _ _=>trivial
   have key:(∀ g x y,ev tm fo=.func g x y→Vu H f fo g=true∧Tr H f fo g=false∧Lx H f o.dst=false)→∃ ids m,ids.Nodup∧(∀ id ∈ ids,id ∈ Cu P H f o tm hp)∧(∀ id ∈ Cu P H f o tm hp,id < hp.length)∧ids.length=m.length∧hp1=D5 ids m hp ∧
    ∀ hp2:Hp,(∀ id ∈ Cu P H f o tm hp,nth? hp2 id=nth? hp id)→Cu P H f o tm hp2=Cu P H f o tm hp∧B5 P H call f o tm hp2=some (v,D5 ids m hp2):=by
    intro hw
    cases hev:ev tm fo<;>(simp only[B5,By,ho,hev] at h)<;>first | (cases h;done) | skip
    rename_i g x y
    obtain⟨w1,w2,w3⟩:=hw g x y hev
    cases hgood:H.good.contains g with
    | false=>simp only[hgood] at h;cases h
    | true =>
     simp only[hgood,w1,w2,w3,Qb,B2] at h
     obtain⟨ids,m,s1,s2,s3,s4,s5,s6,s7⟩:=A88 h
     have hft:∀ hp2:Hp,P8 hp2 64 (Cd E9 ((x++Df P ats.toList (args.toList.map (ev tm))++y).map (U8 (H.raw g) hp2))) []=some ids→Cu P H f o tm hp2=Cd E9 (x++Df P ats.toList (args.toList.map (ev tm))++y)++ids:=fun hp2 h2=>by
      simp only[Cu,hc0,ho,hev,h2]
     have hft0:=hft hp s1
     rw[hft0]
     refine⟨ids,m,s2,fun id hid=>List.mem_append_right _ hid,fun id hid=>(List.mem_append.1 hid).elim (s4 id) (s3 id),s5,s6,fun hp2 h2=>?_⟩
     obtain⟨t1,t2⟩:=s7 hp2 h2
     refine⟨hft hp2 t1,?_⟩
     simp only[B5,By,ho,hev,hgood,w1,w2,w3,Qb,B2]
     exact t2
   cases fo with
   | const _=>cases hc
   | global _=>cases hc
   | tmp s =>
    refine key fun g x y _=>?_
    cases hi:H.ind f with
    | false=>simp only[hi,Bool.false_and] at hc;cases hc
    | true =>
     cases had:Lx H f o.dst with
     | true=>simp only[hi,had,Bool.not_true,Bool.and_false] at hc;cases hc
     | false=>exact⟨by simp[Vu,A29,hi],by simp[Tr,A29],rfl⟩
   | func g0 =>
    refine key fun g x y hev=>?_
    simp only[ev,AV.func.injEq] at hev
    obtain⟨rfl,_,_⟩:=hev
    simp only at hc
    cases hi:H.inl f g0 with
    | false=>rw[hi] at hc;simp only at hc;(repeat' split at hc)<;>cases hc
    | true =>
     rw[hi] at hc
     simp only at hc
     cases hu:H.upc f g0 with
     | true=>rw[hu,Bool.true_or] at hc;cases hc
     | false =>
      cases had:Lx H f o.dst with
      | true=>rw[hu,had,Bool.false_or] at hc;cases hc
      | false=>exact⟨by simp[Vu,hi],by simp[Tr,hu],rfl⟩
section agree
variable {hp2:Hp}
theorem Ag4 {t:TypeId} {a v:AV} (hg:∀ id ∈ Cv a,nth? hp2 id=nth? hp id) (h:load P hp t some a=some v):load P hp2 t some a=some v:=by
 cases a<;>simp only[load] at h ⊢<;>first | exact h | (rw[hg _ (by simp[Cv])];exact h)
theorem A85 {t:TypeId} {x v:AV} {i:Int} (hg:∀ id ∈ Cv x,nth? hp2 id=nth? hp id) (h:Lf P hp t x i some=some v):Lf P hp2 t x i some=some v:=by
 unfold Lf at h ⊢
 cases he:Fr P t with
 | none=>rw[he] at h;exact h
 | some e =>
  rw[he] at h
  cases x<;>simp only at h ⊢<;>first | exact h | (rw[hg _ (by simp[Cv])];exact h)
theorem A07 {a:AV} (hg:∀ id ∈ E9 a,nth? hp2 id=nth? hp id):Js hp2 a=Js hp a:=by
 cases a<;>simp only[Js]<;>first | exact Sn hg | rfl | exact A0a | skip
 ·rw[Ot hg]
theorem A1h {l:List AV} (hg:∀ id ∈ Cd E9 l,nth? hp2 id=nth? hp id):El hp2 l=El hp l:=by
 induction l with
 | nil=>rfl
 | cons a l ih=>simp only[El];rw[A07 fun id hid=>hg id (by simp only[Cd];exact List.mem_append_left _ hid),ih fun id hid=>hg id (by simp only[Cd];exact List.mem_append_right _ hid)]
theorem Wx {a:AV} (hg:∀ id ∈ Cv a,nth? hp2 id=nth? hp id):G0 hp2 a=G0 hp a:=by
 cases a<;>simp only[G0]<;>first | exact Sn hg | rfl | rw[hg _ (by simp[Cv])]
theorem A79 {l:List AV} (hg:∀ id ∈ Cd Cv l,nth? hp2 id=nth? hp id):Hf hp2 l=Hf hp l:=by
 induction l with
 | nil=>rfl
 | cons a l ih=>simp only[Hf];rw[Wx fun id hid=>hg id (by simp only[Cd];exact List.mem_append_left _ hid),ih fun id hid=>hg id (by simp only[Cd];exact List.mem_append_right _ hid)]
theorem Aaf {a:AV} (hg:∀ id ∈ E9 a,nth? hp2 id=nth? hp id):Kb hp2 a=Kb hp a:=by
 cases a<;>simp only[Kb]<;>first | exact Wx hg | rfl | exact A0a | skip
 ·rw[A79 hg]
theorem A15 {l:List AV} (hg:∀ id ∈ Cd E9 l,nth? hp2 id=nth? hp id):E6 hp2 l=E6 hp l:=by
 induction l with
 | nil=>rfl
 | cons a l ih=>simp only[E6];rw[Aaf fun id hid=>hg id (by simp only[Cd];exact List.mem_append_left _ hid),ih fun id hid=>hg id (by simp only[Cd];exact List.mem_append_right _ hid)]
theorem Ahb (t:TypeId) (a:AV):∀ id ∈ Cv (Tv P t a),id ∈ Cv a:=by
 intro id h
 cases a<;>simp only[Tv] at h<;>first | exact h | skip
 ·split at h<;>simp[Cv] at h
theorem Yd:∀ (ts:List TypeId) (l:List AV),∀ id ∈ Cd Cv (Jx P ts l),id ∈ Cd Cv l
 | [],l=>fun id h=>by cases l<;>exact h
 | t :: ts,[]=>fun id h=>h
 | t :: ts,a :: l=>fun id h=>by
  simp only[Jx,Cd] at h ⊢
  rcases List.mem_append.1 h with h | h
  ·exact List.mem_append_left _ (Ahb t a id h)
  ·exact List.mem_append_right _ (Yd ts l id h)
theorem Ao0 (t:TypeId) (a:AV):∀ id ∈ E9 (A4n P t a),id ∈ E9 a:=by
 intro id h
 cases a<;>simp only[A4n] at h<;>first | exact h | skip
 ·simp only[Tv] at h
  split at h<;>simp[E9,Cv] at h
 ·exact Yd _ _ id h
theorem Xk:∀ (ts:List TypeId) (l:List AV),∀ id ∈ Cd E9 (Df P ts l),id ∈ Cd E9 l
 | [],l=>fun id h=>by cases l<;>exact h
 | t :: ts,[]=>fun id h=>h
 | t :: ts,a :: l=>fun id h=>by
  simp only[Df,Cd] at h ⊢
  rcases List.mem_append.1 h with h | h
  ·exact List.mem_append_left _ (Ao0 t a id h)
  ·exact List.mem_append_right _ (Xk ts l id h)
theorem Aat {size:Nat} {tys:List TypeId} {zc:List AV}:∀ {m:Nat} {ps:List (Nat×Operand)} {k:Nat},(∀ x ∈ ps.map (·.2),∀ id ∈ Cd Cv (ev tm x).cells,nth? hp2 id=nth? hp id)→Dt P tys hp2 size tm zc m k ps=Dt P tys hp size tm zc m k ps:=by
 intro m
 induction m with
 | zero=>intro ps k h;cases ps<;>rfl
 | succ m ih =>
  intro ps k h
  cases ps with
  | nil=>simp only[Dt];rw[ih (by simp)]
  | cons p rest =>
   obtain⟨i,x⟩:=p
   simp only[Dt]
   rw[Ot fun id hid=>h x (by simp) id (Yd _ _ id hid),ih (ps:=rest) fun y hy=>h y (by simp only[List.map_cons,List.mem_cons];exact .inr hy),ih (ps:=(i,x) :: rest) h]
theorem Afz {x v:AV} {sz:Nat} {lo hi:Option AV} (hg:∀ id ∈ Cv x,nth? hp2 id=nth? hp id) (h:Rf hp x sz lo hi some=some v):Rf hp2 x sz lo hi some=some v:=by
 cases x<;>simp only[Rf] at h ⊢<;>first | exact h | (rw[hg _ (by simp[Cv])];exact h)
theorem Agm {a:AV} {id:Nat} (h:id ∈ Cd Cv a.cells):id ∈ Na a:=by
 cases a<;>first | exact h | (simp[AV.cells,Cd,Cv] at h;simp[Na,E9,Cv,h];done) | skip
 all_goals simp[AV.cells,Cd,Cv] at h
theorem Aci {o:Oper} (hc:cls H f o=.R∨cls H f o=.C) {v:AV} {hp1:Hp} (h:B5 P H call f o tm hp=some (v,hp1)) (hg:∀ id ∈ Cd Na (o.op.operands.toList.map (ev tm)),nth? hp2 id=nth? hp id):B5 P H call f o tm hp2=some (v,hp2):=by
 have hop:∀ x ∈ o.op.operands,∀ id ∈ Na (ev tm x),nth? hp2 id=nth? hp id:=fun x hx id hid=>hg id (An0 (List.mem_map.2 ⟨x,by simpa using hx,rfl⟩) hid)
 have fin:∀ op:Op,o.op=op→(∀ hp,B5 P H call f o tm hp=Bs P tm hp op fun v=>some (v,hp))→(Bs P tm hp op some=some v→Bs P tm hp2 op some=some v)→B5 P H call f o tm hp2=some (v,hp2):=fun op ho hst hrfl=>by
  obtain⟨h1,h2,h3⟩:=Rl ho hst h
  exact h3 hp2 (hrfl h2)
 unfold cls at hc
 cases ho:o.op<;>rw[ho] at hc hop<;>simp only[reduceCtorEq,or_self] at hc<;>first | (cases hc;done) | skip
 case assign x=>(repeat' split at hc)<;>simp at hc
 case load t a=>exact fin _ ho (fun hp=>by simp only[B5,By,ho]) (fun h=>by simp only[Bs] at h ⊢;exact Ag4 (fun id hid=>hop a (by simp[Op.operands]) id (Q6 hid)) h)
 case indexAddr t x y =>
  refine fin _ ho (fun hp=>by simp only[B5,By,ho]) (fun h=>?_)
  simp only[Bs] at h ⊢
  cases hy:ev tm y<;>rw[hy] at h<;>simp only at h ⊢<;>first | (cases h;done) | exact A85 (fun id hid=>hop x (by simp[Op.operands]) id (Q6 hid)) h
 case makeSlice t n c=>split at hc<;>simp at hc
 case makeInterface t x =>
  refine fin _ ho (fun hp=>by simp only[B5,By,ho]) (fun h=>?_)
  simp only[Bs] at h ⊢
  rw[A07 (fun id hid=>hop x (by simp[Op.operands]) id (Aaj hid))]
  exact h
 case lookup t m x ok=>exact fin _ ho (fun hp=>by simp only[B5,By,ho]) (fun h=>by simp only[Bs] at h ⊢;exact A2e (fun y hy=>by rw[A9y fun id hid=>hop m (by simp[Op.operands]) id (Q6 hid)];exact hy) h)
 case buildSlice t n ps =>
  have hob:Hl H f o.dst=false∧Iy H f o.dst=false:=by
   cases h1:Hl H f o.dst<;>cases h2:Iy H f o.dst<;>rw[h1,h2] at hc<;>first | (simp at hc;done) | exact⟨rfl,rfl⟩
  refine fin _ ho (fun hp=>by simp only[B5,By,ho,hob.1,hob.2,Nx]) (fun h=>?_)
  have he:=fun(tys:List TypeId) (size k:Nat) (zc:List AV) (m:Nat)=>Aat (P:=P) (hp:=hp) (hp2:=hp2) (tm:=tm) (tys:=tys) (zc:=zc) (m:=m) (size:=size) (k:=k) (ps:=ps.toList) fun x hx id hid=>hop x (by simpa [Op.operands] using hx) id (Agm hid)
  simp only[Bs] at h ⊢
  simp only[he]
  exact h
 case slice t x lo hi mx =>
  have hst:Iw H f o.dst=false:=by
   cases hs:Iw H f o.dst with
   | false=>rfl
   | true=>rw[hs] at hc;simp at hc
  refine fin _ ho (fun hp=>by simp only[B5,By,ho,hst];rfl) (fun h=>?_)
  cases mx with
  | some _=>simp only[Bs] at h;cases h
  | none =>
   simp only[Bs] at h ⊢
   cases hu:P.underlying t with
   | none=>rw[hu] at h;cases h
   | some d =>
    rw[hu] at h
    cases d<;>simp only at h ⊢<;>first | exact h | skip
    rename_i et
    cases hz:decide (0 < P.cellsOf et) with
    | false=>rw[hz] at h;cases h
    | true=>rw[hz] at h;exact Afz (fun id hid=>hop x (by simp[Op.operands]) id (Q6 hid)) h
 case convert s t x =>
  refine fin _ ho (fun hp=>by simp only[B5,By,ho]) (fun h=>?_)
  simp only[Bs] at h ⊢
  rw[Ug fun id hid=>hop x (by simp[Op.operands]) id (Q6 hid)]
  exact h
 case call c =>
  obtain⟨cal,args,ats⟩:=c
  cases cal with
  | invoke _ _=>simp at hc
  | builtin b =>
   by_cases hb:b=.append
   ·subst hb
    simp only at hc
    obtain⟨hst,hob,har,l,rfl⟩:=A6b (H:=H) (f:=f) (o:=o) (args:=args) (by
     rcases hc with hc | hc
     ·exfalso
      cases h1:Iw H f o.dst<;>rw[h1] at hc<;>simp only at hc
      ·cases h2:Hl H f o.dst || Iy H f o.dst || !Y5 args.toList<;>rw[h2] at hc<;>simp at hc
      ·cases hc
     ·exact hc)
    obtain⟨h1,x,sz,news,h2,h3,h4⟩:=A03 ho hst hob har h
    exact h4 hp2 ((Ug fun id hid=>hop x (by rw[ho] at h2;exact h2) id (Q6 hid)).trans h3)
   ·cases b<;>first | (exact absurd rfl hb) | (simp at hc;done) | (simp only[reduceCtorEq,or_self] at hc)
  | value x =>
   have hids:∀ id ∈ Cd E9 (Df P ats.toList (args.toList.map (ev tm))),nth? hp2 id=nth? hp id:=fun id hid=>by
    have h1:=Xk _ _ id hid
    have:∀ l:List Operand,(∀ x ∈ l,x ∈ args.toList)→id ∈ Cd E9 (l.map (ev tm))→nth? hp2 id=nth? hp id:=by
     intro l
     induction l with
     | nil=>intro _ h;cases h
     | cons y l ih =>
      intro hl h
      simp only[List.map_cons,Cd] at h
      rcases List.mem_append.1 h with h | h
      ·exact hop y (by simp only[Op.operands,Call.operands];exact Array.mem_append.2 (.inr (by simpa using hl y List.mem_cons_self))) id (Aaj h)
      ·exact ih (fun z hz=>hl z (List.mem_cons_of_mem _ hz)) h
    exact this args.toList (fun _ h=>h) h1
   cases x with
   | const _=>simp at hc
   | global _=>simp at hc
   | tmp _=>cases hi:H.ind f<;>cases had:Lx H f o.dst<;>simp[hi,had] at hc
   | func g =>
   simp only at hc
   cases hi:H.inl f g with
   | true=>rw[hi] at hc;simp only at hc;split at hc<;>simp at hc
   | false =>
    cases had:Lx H f o.dst with
    | true=>rw[hi] at hc;simp[had] at hc
    | false =>
    simp only[B5,By,ho,ev,Wn,hi,had] at h ⊢
    cases hgd:H.good.contains g with
    | false=>rw[hgd] at h;cases h
    | true =>
     rw[hgd] at h
     simp only at h ⊢
     have e0:([]++Df P ats.toList (args.toList.map (ev tm))++[])=Df P ats.toList (args.toList.map (ev tm)):=by simp
     rw[e0] at h ⊢
     rw[A1h hids,A15 hids]
     repeat' split at h
     all_goals first | (cases h;done) | skip
     all_goals (cases h;simp_all)
def Pm (o:Oper):Bool:=match o.op with
 | .alloc _ | .box _ _=>true
 | _=>false
theorem Arp {o:Oper} (hn:Pm o=true) {v:AV} {hp1:Hp} (h:B5 P H call f o tm hp=some (v,hp1)):∃ x,hp1=hp++[x]∧∀ hp2:Hp,hp2.length=hp.length→B5 P H call f o tm hp2=some (v,hp2++[x]):=by
 unfold Pm at hn
 cases ho:o.op<;>rw[ho] at hn<;>simp only at hn<;>first | (cases hn;done) | skip
 case alloc t =>
  simp only[B5,By,ho,B2] at h ⊢
  repeat' split at h
  all_goals first | (cases h;done) | skip
  cases h
  exact⟨_,rfl,fun hp2 h2=>by simp_all⟩
 case box t x =>
  simp only[B5,By,ho,B2] at h ⊢
  repeat' split at h
  all_goals first | (cases h;done) | skip
  cases h
  exact⟨_,rfl,fun hp2 h2=>by simp_all⟩
end agree
theorem A0d {t:TypeId}:∀ (ps:List (Nat×Operand)) (cs:List AV),(∀ x ∈ ps.map (·.2),ev tm x=ev tm' x)→Rs P t tm cs ps=Rs P t tm' cs ps
 | [],cs,h=>rfl
 | (i,x) :: rest,cs,h=>by
  have h1:=h x (by simp)
  have h2:=fun cs=>A0d (t:=t) rest cs fun y hy=>h y (by simp only[List.map_cons,List.mem_cons];exact .inr hy)
  simp only[Rs,h1,h2]
theorem Yc {sz:Nat}:∀ (ps:List (Nat×Operand)) (cs:List AV),(∀ x ∈ ps.map (·.2),ev tm x=ev tm' x)→Qr sz tm cs ps=Qr sz tm' cs ps
 | [],cs,h=>rfl
 | (i,x) :: rest,cs,h=>by
  have h1:=h x (by simp)
  have h2:=fun cs=>Yc (sz:=sz) rest cs fun y hy=>h y (by simp only[List.map_cons,List.mem_cons];exact .inr hy)
  simp only[Qr,h1,h2]
theorem Ab1 {size:Nat} {tys:List TypeId} {zc:List AV}:∀ (m:Nat) (ps:List (Nat×Operand)) (k:Nat),(∀ x ∈ ps.map (·.2),ev tm x=ev tm' x)→Dt P tys hp size tm zc m k ps=Dt P tys hp size tm' zc m k ps:=by
 intro m
 induction m with
 | zero=>intro ps k h;cases ps<;>rfl
 | succ m ih =>
  intro ps k h
  cases ps with
  | nil=>simp only[Dt];rw[ih _ _ (by simp)]
  | cons p rest =>
   obtain⟨i,x⟩:=p
   have h1:=h x (by simp)
   simp only[Dt,h1]
   rw[ih rest _ fun y hy=>h y (by simp only[List.map_cons,List.mem_cons];exact .inr hy),ih ((i,x) :: rest) _ h]
theorem Aep {op:Op} {ρ:Type} (K:AV→Option ρ) (h:∀ x ∈ op.operands,ev tm x=ev tm' x):Bs P tm hp op K=Bs P tm' hp op K:=by
 cases op<;>simp only[Op.operands] at h
 case build t ps =>
  have:=fun cs=>A0d (P:=P) (t:=t) ps.toList cs (fun x hx=>h x (by simpa using hx))
  have hA:=fun(sz:Nat) cs=>Yc (sz:=sz) ps.toList cs (fun x hx=>h x (by simpa using hx))
  simp only[Bs,this,hA]
 case buildSlice t n ps =>
  have:=fun(tys:List TypeId) (size k:Nat) (zc:List AV) (m:Nat)=>Ab1 (P:=P) (tys:=tys) (hp:=hp) (zc:=zc) (size:=size) m ps.toList k (fun x hx=>h x (by simpa using hx))
  simp only[Bs,this]
 case makeFunc fn a b =>
  have h1:a.toList.map (ev tm)=a.toList.map (ev tm'):=List.map_congr_left fun x hx=>h x (by simp;exact .inl (by simpa using hx))
  have h2:b.toList.map (ev tm)=b.toList.map (ev tm'):=List.map_congr_left fun x hx=>h x (by simp;exact .inr (by simpa using hx))
  cases fn<;>simp only[Bs,h1,h2]
 case slice t x lo hi mx =>
  have hx:=h x (by simp)
  have h1:lo.map (ev tm)=lo.map (ev tm'):=by cases lo with | none=>rfl | some y=>simp[h y (by simp)]
  have h2:hi.map (ev tm)=hi.map (ev tm'):=by cases hi with | none=>rfl | some y=>simp[h y (by simp)]
  cases mx<;>simp only[Bs,hx,h1,h2]
 case unOp u t x=>cases u<;>simp only[Bs,h x (by simp)]
 case call c =>
  obtain⟨cal,args,ats⟩:=c
  have ha:∀ x ∈ args,ev tm x=ev tm' x:=fun x hx=>h x (by simp only[Call.operands];exact Array.mem_append.2 (.inr hx))
  cases cal<;>simp only[Bs]
  rename_i b
  cases b<;>simp only
  all_goals (obtain⟨l⟩:=args)
  all_goals
   rcases l with _ | ⟨x,_ | ⟨y,_ | ⟨z,_ | ⟨z2,l⟩⟩⟩⟩
  all_goals simp only
  all_goals first
   | rfl
   | (rw[ha x (by simp),ha y (by simp),ha z (by simp)];done)
   | (rw[ha x (by simp),ha y (by simp)];done)
   | (rw[ha x (by simp)];done)
 all_goals simp_all [Bs]
theorem Aer (o:Oper) (h:∀ x ∈ o.op.operands,ev tm x=ev tm' x):B5 P H call f o tm hp=B5 P H call f o tm' hp:=by
 unfold B5
 have hp0:=fun K:AV→Option (AV×Hp)=>Aep (P:=P) (hp:=hp) K h
 cases ho:o.op<;>rw[ho] at h hp0<;>simp only[Op.operands] at h<;>simp only[By,ho]
 case assign x=>rw[h x (by simp)]
 case box t x=>rw[h x (by simp)]
 case store t a x=>rw[h a (by simp),h x (by simp)]
 case makeMap t rr=>cases rr with
  | none=>rfl
  | some y=>simp only[A7o,h y (by simp)]
 case mapUpdate t m k x=>rw[h m (by simp),h k (by simp),h x (by simp)]
 case insert t m k x=>rw[h m (by simp),h k (by simp),h x (by simp)]
 case mapEntry t m k=>rw[h m (by simp),h k (by simp)]
 case entryStore t m s x=>rw[h m (by simp),h s (by simp),h x (by simp)]
 case call c =>
  obtain⟨cal,args,ats⟩:=c
  have ha:∀ x ∈ args,ev tm x=ev tm' x:=fun x hx=>h x (by simp only[Call.operands];exact Array.mem_append.2 (.inr hx))
  have hm:args.toList.map (ev tm)=args.toList.map (ev tm'):=List.map_congr_left fun x hx=>ha x (by simpa using hx)
  cases cal<;>simp only
  ·rename_i fo
   rw[h fo (by simp[Call.operands]),hm]
  ·exact hp0 _
  ·rename_i b
   cases b<;>simp only
   case append =>
    obtain⟨l⟩:=args
    rcases l with _ | ⟨x,_ | ⟨y,_ | ⟨z,l⟩⟩⟩<;>simp only
    rw[ha x (by simp),ha y (by simp)]
   case copy =>
    obtain⟨l⟩:=args
    rcases l with _ | ⟨x,_ | ⟨y,_ | ⟨z,l⟩⟩⟩<;>simp only
    rw[ha x (by simp),ha y (by simp)]
   all_goals exact hp0 _
 all_goals first
  | rfl
  | exact hp0 _
end
end Go.Proofs.YtfabdppicogkmaaGreat
end
