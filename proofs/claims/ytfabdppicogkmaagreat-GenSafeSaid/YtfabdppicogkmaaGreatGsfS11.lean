/- Parts of the proofs: what they lean on. Conditions: none. -/
import Derived.Test.YtfabdppicogkmaaGreatRows
import Derived.WalkKit
import Derived.WalkSpells
import Derived.WalkLawsBesides
import Derived.Test.YtfabdppicogkmaaGreatGsfS10
section
namespace Go.Proofs.YtfabdppicogkmaaGreat
open Go.RowKit
theorem Mr (c:Int) (w:World) :
 Calls Tryz.prog 145 #[.int .i32 c] w fun e w'=>e=.returned (.bool (Ko c))∧w=w':=by
 go_enter Tryz.func145,Tryz.ntmps145
 go_wp2
 all_goals
  go_ret
  refine⟨congrArg (fun b=>Ending.returned (.bool b)) ?_,rfl⟩
  rw[Bool.eq_iff_iff]
  simp[Ko]
  omega
theorem Y7 (c:Int) (w:World) :
 Calls Tryz.prog 146 #[.int .i32 c] w fun e w'=>e=.returned (.bool (Mg c))∧w=w':=by
 go_enter Tryz.func146,Tryz.ntmps146
 go_wp2
 all_goals
  go_ret
  refine⟨congrArg (fun b=>Ending.returned (.bool b)) ?_,rfl⟩
  rw[Bool.eq_iff_iff]
  simp[Mg]
  omega
theorem Eh {s:ByteArray} {l:List UInt8} (h:s.data.toList≠l):(s.toList==l)=false:=by
 rw[ByteArray.toList_eq];simpa using h
theorem A80 {s:ByteArray} {l:List UInt8} (h:s.data.toList=l):s=⟨l.toArray⟩:=by
 subst h;rfl
theorem A06 (s:ByteArray) (w:World) :
 Calls Tryz.prog 147 #[.string s] w fun e w'=>e=.returned (.bool (kwB s.data.toList))∧w=w':=by
 by_cases h:s.data.toList ∈ kws
 ·have hk:kwB s.data.toList=true:=by simpa [kwB] using h
  rw[hk]
  simp only[kws,List.mem_cons,List.not_mem_nil,or_false] at h
  rcases h with h | h | h | h | h | h | h | h | h | h | h | h | h | h | h | h | h | h | h | h | h
  all_goals
   obtain rfl:=A80 h
   clear h hk
   go_enter Tryz.func147,Tryz.ntmps147
   go_wp2
   go_ret
   exact⟨rfl,rfl⟩
 ·have hk:kwB s.data.toList=false:=by simpa [kwB] using h
  rw[hk]
  have n0:(s.toList==[109,111,100])=false:=Eh (fun e=>h (by rw[e];decide))
  have n1:(s.toList==[108,111,99])=false:=Eh (fun e=>h (by rw[e];decide))
  have n2:(s.toList==[116,104,114,101,97,100])=false:=Eh (fun e=>h (by rw[e];decide))
  have n3:(s.toList==[114,101,103])=false:=Eh (fun e=>h (by rw[e];decide))
  have n4:(s.toList==[115,107,105,112])=false:=Eh (fun e=>h (by rw[e];decide))
  have n5:(s.toList==[115,101,116])=false:=Eh (fun e=>h (by rw[e];decide))
  have n6:(s.toList==[108,111,97,100])=false:=Eh (fun e=>h (by rw[e];decide))
  have n7:(s.toList==[115,116,111,114,101])=false:=Eh (fun e=>h (by rw[e];decide))
  have n8:(s.toList==[99,97,115])=false:=Eh (fun e=>h (by rw[e];decide))
  have n9:(s.toList==[102,97,100,100])=false:=Eh (fun e=>h (by rw[e];decide))
  have n10:(s.toList==[120,99,104,103])=false:=Eh (fun e=>h (by rw[e];decide))
  have n11:(s.toList==[102,101,110,99,101])=false:=Eh (fun e=>h (by rw[e];decide))
  have n12:(s.toList==[97,119,97,105,116])=false:=Eh (fun e=>h (by rw[e];decide))
  have n13:(s.toList==[105,102])=false:=Eh (fun e=>h (by rw[e];decide))
  have n14:(s.toList==[101,108,115,101])=false:=Eh (fun e=>h (by rw[e];decide))
  have n15:(s.toList==[119,104,105,108,101])=false:=Eh (fun e=>h (by rw[e];decide))
  have n16:(s.toList==[108,111,111,112])=false:=Eh (fun e=>h (by rw[e];decide))
  have n17:(s.toList==[98,114,101,97,107])=false:=Eh (fun e=>h (by rw[e];decide))
  have n18:(s.toList==[102,111,114,97,108,108])=false:=Eh (fun e=>h (by rw[e];decide))
  have n19:(s.toList==[101,120,105,115,116,115])=false:=Eh (fun e=>h (by rw[e];decide))
  have n20:(s.toList==[97,108,119,97,121,115])=false:=Eh (fun e=>h (by rw[e];decide))
  clear h hk
  go_enter Tryz.func147,Tryz.ntmps147
  go_wp2
  go_ret
  exact⟨rfl,rfl⟩
def A8l (s:ByteArray) (w:World) (e:Ending) (w':World):Prop:=e=.returned (.bool (Z2 s.data.toList))∧Below w.heap.size w w'
theorem Ze (s:ByteArray) (w w':World) (k:Nat) (hk:k < s.size) (h1:Ko s[k].toNat=false) (h2:k=0∨Mg s[k].toNat=false) (hb:Below w.heap.size w w'):A8l s w (.returned (.bool false)) w':=by
 refine⟨?_,hb⟩
 rw[Ajf (l:=s.data.toList) (k:=k) (by rw[Rq];exact hk)]
 rw[A5x s k hk,h1]
 rcases h2 with rfl | h2
 ·simp
 ·simp[h2]
theorem Amz (s:ByteArray) (w:World) (hs:s.size≤9223372036854775807) :
 Calls Tryz.prog 103 #[.string s] w (A8l s w):=by
 go_enter Tryz.func103,Tryz.ntmps103
 go_wp2
 go_loopw [] (fun w'=>∃ pos:Nat,w'=w.iter s pos∧pos≤s.size∧∀ k,k < pos→Qp s.data.toList k=true) (fun w'=>s.size - w'.iterPos w.heap.size)
 case atStart=>exact⟨0,rfl,by omega,fun k h=>absurd h (by omega)⟩
 case round =>
  obtain⟨pos,rfl,hpos,hall⟩:=hrel
  have Hall:=Lib.hid hall;clear hall
  have hB:Below w.heap.size w (w.iter s (pos+1)):=((Below.refl _ _).alloc (Nat.le_refl _) _)
  have hB2:Below w.heap.size w (w.iter s (pos+(Utf8.decode s pos).2)):=((Below.refl _ _).alloc (Nat.le_refl _) _)
  have HB:=Lib.hid hB;have HB2:=Lib.hid hB2
  clear hB hB2
  by_cases hlt:pos < s.size
  ·have hat:=A5x s pos hlt
   have HA:=Lib.hid hat;clear hat
   by_cases ha:(s[pos]'hlt).toNat < 128
   ·have hnx:∀ ty,(Instr.next (.pointer (some ⟨w.heap.size,0,none⟩)) true ty).run Tryz.prog (w.iter s pos)=_:=fun ty=>run_next_ascii w s pos ty hlt ha
    clear ha
    by_cases h1:Ko (s[pos]'hlt).toNat=true
    ·go_wp2_with (first
      | (go_at_call 145;refine(Mr _ _).mono ?_;rintro e w' ⟨rfl,rfl⟩))
     go_roundw
     case rel =>
      refine⟨pos+1,rfl,by omega,fun k hk=>?_⟩
      rcases Nat.lt_or_ge k pos with h | h
      ·exact Hall.out k h
      ·obtain rfl:k=pos:=by omega
       rw[HA.out,h1];rfl
     case measure=>simp;omega
    ·have h1':Ko (s[pos]'hlt).toNat=false:=by simpa using h1
     clear h1
     by_cases h0:pos=0
     ·subst h0
      go_wp2_with (first
       | (go_at_call 145;refine(Mr _ _).mono ?_;rintro e w' ⟨rfl,rfl⟩))
      go_ret
      exact Ze s _ _ 0 hlt h1' (.inl rfl) HB.out
     ·have h0':((pos:Int)==0)=false:=by rw[beq_eq_false_iff_ne];omega
      by_cases h2:Mg (s[pos]'hlt).toNat=true
      ·go_wp2_with (first
        | (go_at_call 145;refine(Mr _ _).mono ?_;rintro e w' ⟨rfl,rfl⟩)
        | (go_at_call 146;refine(Y7 _ _).mono ?_;rintro e w' ⟨rfl,rfl⟩))
       go_roundw
       case rel =>
        refine⟨pos+1,rfl,by omega,fun k hk=>?_⟩
        rcases Nat.lt_or_ge k pos with h | h
        ·exact Hall.out k h
        ·obtain rfl:k=pos:=by omega
         rw[HA.out,h2];simp;omega
       case measure=>simp;omega
      ·have h2':Mg (s[pos]'hlt).toNat=false:=by simpa using h2
       clear h2
       go_wp2_with (first
        | (go_at_call 145;refine(Mr _ _).mono ?_;rintro e w' ⟨rfl,rfl⟩)
        | (go_at_call 146;refine(Y7 _ _).mono ?_;rintro e w' ⟨rfl,rfl⟩))
       go_ret
       exact Ze s _ _ pos hlt h1' (.inr h2') HB.out
   ·have hnx:∀ ty,(Instr.next (.pointer (some ⟨w.heap.size,0,none⟩)) true ty).run Tryz.prog (w.iter s pos)=_:=fun ty=>run_next_any w s pos ty hlt
    have hd:=(decode_high s pos hlt (by omega)).1
    have h1':Ko (Utf8.decode s pos).1=false:=Yn (by omega)
    have h2':Mg (Utf8.decode s pos).1=false:=A0g (by omega)
    have h3:Ko (s[pos]'hlt).toNat=false:=Yn (by omega)
    have h4:Mg (s[pos]'hlt).toNat=false:=A0g (by omega)
    by_cases h0:pos=0
    ·subst h0
     go_wp2_with (first
      | (go_at_call 145;refine(Mr _ _).mono ?_;rintro e w' ⟨rfl,rfl⟩))
     go_ret
     exact Ze s _ _ 0 hlt h3 (.inl rfl) (by have:=HB2.out;rw[Nat.zero_add] at this;exact this)
    ·have h0':((pos:Int)==0)=false:=by rw[beq_eq_false_iff_ne];omega
     go_wp2_with (first
      | (go_at_call 145;refine(Mr _ _).mono ?_;rintro e w' ⟨rfl,rfl⟩)
      | (go_at_call 146;refine(Y7 _ _).mono ?_;rintro e w' ⟨rfl,rfl⟩))
     go_ret
     exact Ze s _ _ pos hlt h3 (.inr h4) HB2.out
  ·have hnx:∀ ty,(Instr.next (.pointer (some ⟨w.heap.size,0,none⟩)) true ty).run Tryz.prog (w.iter s pos)=_:=fun ty=>run_next_end w s pos ty hlt
   have hn:=Acz (l:=s.data.toList) (fun k hk=>Hall.out k (by rw[Rq] at hk;omega))
   rw[Rq] at hn
   have hB:Below w.heap.size w (w.iter s pos):=((Below.refl _ _).alloc (Nat.le_refl _) _)
   have HN:=Lib.hid hn;clear hn
   by_cases he:s.data.toList=[]
   ·obtain rfl:=A80 he
    go_wp2
    go_ret
    exact⟨by rw[HN.out];rfl,hB⟩
   ·have he1:s.toList.isEmpty=false:=by rw[ByteArray.toList_eq];simpa using he
    have he2:s.data.toList.isEmpty=false:=by simpa using he
    clear he
    by_cases h16:s.size≤16
    ·go_wp2_with (first
      | (go_at_call 147;refine(A06 _ _).mono ?_;rintro e w' ⟨rfl,rfl⟩))
     go_ret
     exact⟨by rw[HN.out];simp[he2,h16],hB⟩
    ·go_wp2
     go_ret
     exact⟨by rw[HN.out];simp[he2,h16],hB⟩
set_option linter.unusedVariables false
set_option linter.unusedSimpArgs false
set_option maxRecDepth 100000
def Aly (f:List UInt8→Bool) (args:List AV):Option AV:=match args with
 | [.str s]=>some (.bool (f s))
 | _=>none
theorem A6d {P:Program} {g:FuncId} {f:List UInt8→Bool} (hc:∀ (s:ByteArray) (w:World),s.size≤9223372036854775807→Calls P g #[.string s] w (Ads (f s.data.toList) w)):Nn P g (Aly f):=by
 intro args v h S w vs hS hr
 match args,h with
 | [.str s],h =>
  cases h
  cases hr with | cons _ _ _ u _ _ h1 t=>cases t with | nil =>
  obtain⟨rfl,hl⟩:=h1.str_inv
  refine(hc (bs s) w (by unfold maxLen at hl;show s.toArray.size≤_;rw[List.size_toArray];omega)).mono ?_
  rintro e w' ⟨rfl,hb⟩
  obtain⟨k1,k2⟩:=Vr hS hb
  exact⟨_,S,rfl,.bool _ _ _,k2,k1,fun _ _ h=>.inl h,hb⟩
theorem Adj {P:Program} {g:FuncId}:Nn P g (fun _=>none):=by intro args v h;cases h
def Aa2:Xd:=[
 (103,Aly Z2),
 (147,Aly kwB),
 (1000000,fun _=>none)]
def XK:Ext:=Qg Aa2
theorem A1c:∀ p ∈ Aa2,Nn Tryz.prog p.1 p.2:=by
 unfold Aa2
 refine List.forall_mem_cons.2 ⟨A6d (fun s w h=>(Amz s w h).mono fun _ _ h=>h),?_⟩
 refine List.forall_mem_cons.2 ⟨A6d (fun s w h=>(A06 s w).mono fun _ w' h=>⟨h.1,h.2 ▸ Go.RowKit.Below.refl _ _⟩),?_⟩
 exact List.forall_mem_cons.2 ⟨Adj,fun _ h=>by cases h⟩
theorem Hk:I1 Tryz.prog XK:=Jo A1c
mutual
def qaA:AV→AV→Bool
 | .bool a,.bool b=>a==b
 | .int k a,.int l b=>decide (k=l)&&decide (a=b)
 | .str a,.str b=>decide (a=b)
 | .nils,.nils=>true
 | .sl s e,.sl t f=>decide (s=t)&&Ae3 e f
 | .agg a,.agg b=>qaL a b
 | .tup a,.tup b=>qaL a b
 | _,_=>false
def qaL:List AV→List AV→Bool
 | [],[]=>true
 | a :: l,b :: m=>qaA a b&&qaL l m
 | _,_=>false
def Ae3:List (List AV)→List (List AV)→Bool
 | [],[]=>true
 | a :: l,b :: m=>qaL a b&&Ae3 l m
 | _,_=>false
end
mutual
theorem Akb:∀ (a b:AV),qaA a b=true→a=b:=by
 intro a b h
 unfold qaA at h
 split at h
 ·rw[beq_iff_eq.1 h]
 ·simp only[A8,Ai] at h;rw[h.1,h.2]
 ·rw[of_decide_eq_true h]
 ·rfl
 ·simp only[A8,Ai] at h;rw[h.1,Ac6 _ _ h.2]
 ·rw[Xx _ _ h]
 ·rw[Xx _ _ h]
 ·cases h
theorem Xx:∀ (a b:List AV),qaL a b=true→a=b:=by
 intro a b h
 cases a<;>cases b<;>simp only[qaL,Bool.false_eq_true,A8] at h
 ·rfl
 ·rw[Akb _ _ h.1,Xx _ _ h.2]
theorem Ac6:∀ (a b:List (List AV)),Ae3 a b=true→a=b:=by
 intro a b h
 cases a<;>cases b<;>simp only[Ae3,Bool.false_eq_true,A8] at h
 ·rfl
 ·rw[Xx _ _ h.1,Ac6 _ _ h.2]
end
def qaR (o:Option (AV×Hp)) (v:AV):Bool:=match o with
 | some (a,[])=>qaA a v
 | _=>false
theorem As0 {o:Option (AV×Hp)} {v:AV} (h:qaR o v=true):o=some (v,[]):=by
 unfold qaR at h
 split at h
 ·rw[Akb _ _ h]
 ·cases h
abbrev Tbl:=List (List AV×AV)
def Gw:Tbl→List AV→Option AV
 | [],_=>none
 | p :: t,a=>match qaL a p.1 with
   | true=>some p.2
   | false=>Gw t a
theorem A6n:∀ {t:Tbl} {a:List AV} {v:AV},Gw t a=some v→(a,v) ∈ t
 | p :: t,a,v,h=>by
  rw[Gw] at h
  split at h
  ·rename_i e
   cases h
   rw[Xx _ _ e];exact List.mem_cons_self
  ·exact List.mem_cons_of_mem _ (A6n h)
theorem Bg {α:Type} {t:List α} {q:α→Bool} {a:Nat} (k:Nat) (h1:((t.drop a).take k).all q=true) (h2:(t.drop (a+k)).all q=true):(t.drop a).all q=true:=by
 rw[← List.take_append_drop k (t.drop a),List.all_append,h1,List.drop_drop,h2];rfl
theorem Aem {X:Ext} (hX:I1 Tryz.prog X) {n:Nat} {g:FuncId} {args:List AV} {v:AV} (h:Al Tryz.prog HH X n g args []=some (v,[])) {S:Nat→Nat→Prop} {w:World} {vs:List Value} (hS:∀ b o,S b o→∃ u,stay w b o=some u) (hr:Reps S w [] [] args vs) :
 Calls Tryz.prog g vs.toArray w fun e w'=>∃ u S',e=.returned u∧Rep S' w' [] [] v u∧(∀ b o,S' b o→∃ u,stay w' b o=some u∧(w.heap.size≤b→u.2.2=(0,0)))∧SExt S w S' w'∧(∀ b o,S' b o→S b o∨w.heap.size≤b)∧Below w.heap.size w w':=by
 refine(Wp hX n false g args [] _ _ h w.heap.size S w [] vs ⟨rfl,Nat.le_refl _,fun b o h=>?_,fun id o ho=>by simp at ho,fun i j b hi=>by simp[Af] at hi⟩ hr).mono ?_
 ·obtain⟨u,hu⟩:=hS b o h
  exact⟨u,hu,fun hb=>absurd (Hr hu) (by omega)⟩
 ·rintro e w' ⟨u,S',φ',rfl,hu,hs,ht⟩
  have hφ:φ'=[]:=List.eq_nil_of_length_eq_zero hs.len
  subst hφ
  exact⟨u,S',rfl,hu,hs.cell,ht.1,ht.4,ht.below⟩
theorem Et {X:Ext} (hX:I1 Tryz.prog X) {n:Nat} {g:FuncId} {t:Tbl} (h:(t.all fun p=>qaR (Al Tryz.prog HH X n g p.1 []) p.2)=true):Nn Tryz.prog g (Gw t):=fun args v hk S w vs hS hr =>
 Aem hX (As0 (List.all_eq_true.1 h _ (A6n hk))) hS hr
def Mm:Cf:=⟨2,[⟨[108],0,0⟩,⟨[99],0,0⟩],[⟨[116,48],[[97],[99,115]],[⟨2,[97],[],[⟨1,1,[],[],0⟩],[],false,0,0,0⟩,⟨11,[],[],[⟨10,0,[],[],0⟩,⟨2,0,[97],[],0⟩,⟨1,0,[],[],0⟩],[],false,1,0,0⟩,⟨7,[97],[108],[⟨1,1,[],[],0⟩],[],false,0,0,0⟩,⟨2,[99,115],[],[⟨1,1,[],[],0⟩],[],false,0,0,0⟩,⟨3,[97],[99],[],[],false,0,0,0⟩,⟨4,[],[99],[⟨6,0,[],[],0⟩,⟨2,0,[97],[],0⟩,⟨1,1,[],[],0⟩],[],false,0,0,0⟩,⟨2,[99,115],[],[⟨1,0,[],[],0⟩],[],false,0,0,0⟩,⟨8,[],[],[],[],false,0,0,0⟩,⟨4,[],[108],[⟨1,0,[],[],0⟩],[],false,0,0,0⟩],0⟩],[⟨3,[⟨12,0,[],[],0⟩,⟨4,0,[99,115],[116,48],0⟩,⟨1,1,[],[],0⟩],0⟩,⟨1,[⟨9,0,[],[],0⟩,⟨3,0,[99],[],0⟩,⟨1,1,[],[],0⟩],0⟩]⟩
def O2:Cf:=⟨3,[⟨[108],0,0⟩,⟨[99],0,0⟩],[⟨[116,48],[[97],[99,115]],[⟨2,[97],[],[⟨1,1,[],[],0⟩],[],false,0,0,0⟩,⟨11,[],[],[⟨10,0,[],[],0⟩,⟨2,0,[97],[],0⟩,⟨1,0,[],[],0⟩],[],false,1,0,0⟩,⟨7,[97],[108],[⟨1,1,[],[],0⟩],[],false,0,0,0⟩,⟨2,[99,115],[],[⟨1,1,[],[],0⟩],[],false,0,0,0⟩,⟨3,[97],[99],[],[],false,0,0,0⟩,⟨4,[],[99],[⟨6,0,[],[],0⟩,⟨2,0,[97],[],0⟩,⟨1,1,[],[],0⟩],[],false,0,0,0⟩,⟨2,[99,115],[],[⟨1,0,[],[],0⟩],[],false,0,0,0⟩,⟨8,[],[],[],[],false,0,0,0⟩,⟨4,[],[108],[⟨1,0,[],[],0⟩],[],false,0,0,0⟩],0⟩,⟨[116,49],[[97],[99,115]],[⟨2,[97],[],[⟨1,1,[],[],0⟩],[],false,0,0,0⟩,⟨11,[],[],[⟨10,0,[],[],0⟩,⟨2,0,[97],[],0⟩,⟨1,0,[],[],0⟩],[],false,1,0,0⟩,⟨7,[97],[108],[⟨1,1,[],[],0⟩],[],false,0,0,0⟩,⟨2,[99,115],[],[⟨1,1,[],[],0⟩],[],false,0,0,0⟩,⟨3,[97],[99],[],[],false,0,0,0⟩,⟨4,[],[99],[⟨6,0,[],[],0⟩,⟨2,0,[97],[],0⟩,⟨1,1,[],[],0⟩],[],false,0,0,0⟩,⟨2,[99,115],[],[⟨1,0,[],[],0⟩],[],false,0,0,0⟩,⟨8,[],[],[],[],false,0,0,0⟩,⟨4,[],[108],[⟨1,0,[],[],0⟩],[],false,0,0,0⟩],0⟩],[⟨3,[⟨12,0,[],[],0⟩,⟨6,0,[],[],0⟩,⟨4,0,[99,115],[116,48],0⟩,⟨4,0,[99,115],[116,49],0⟩,⟨1,1,[],[],0⟩],0⟩,⟨1,[⟨9,0,[],[],0⟩,⟨3,0,[99],[],0⟩,⟨1,2,[],[],0⟩],0⟩]⟩
def Mj:Cf:=⟨2,[⟨[110,101,120,116],0,0⟩,⟨[110,111,119],0,0⟩,⟨[99],0,0⟩],[⟨[116,48],[[97],[98],[99,115]],[⟨6,[97],[110,101,120,116],[⟨1,1,[],[],0⟩],[],false,0,0,0⟩,⟨9,[],[110,111,119],[⟨2,0,[97],[],0⟩],[],false,0,0,0⟩,⟨2,[99,115],[],[⟨1,1,[],[],0⟩],[],false,0,0,0⟩,⟨3,[98],[99],[],[],false,0,0,0⟩,⟨4,[],[99],[⟨6,0,[],[],0⟩,⟨2,0,[98],[],0⟩,⟨1,1,[],[],0⟩],[],false,0,0,0⟩,⟨2,[99,115],[],[⟨1,0,[],[],0⟩],[],false,0,0,0⟩,⟨8,[],[],[],[],false,0,0,0⟩,⟨4,[],[110,111,119],[⟨6,0,[],[],0⟩,⟨2,0,[97],[],0⟩,⟨1,1,[],[],0⟩],[],false,0,0,0⟩],0⟩],[⟨3,[⟨12,0,[],[],0⟩,⟨4,0,[99,115],[116,48],0⟩,⟨1,1,[],[],0⟩],0⟩,⟨1,[⟨9,0,[],[],0⟩,⟨3,0,[99],[],0⟩,⟨1,1,[],[],0⟩],0⟩]⟩
def Oc:Cf:=⟨3,[⟨[110,101,120,116],0,0⟩,⟨[110,111,119],0,0⟩,⟨[99],0,0⟩],[⟨[116,48],[[97],[98],[99,115]],[⟨6,[97],[110,101,120,116],[⟨1,1,[],[],0⟩],[],false,0,0,0⟩,⟨9,[],[110,111,119],[⟨2,0,[97],[],0⟩],[],false,0,0,0⟩,⟨2,[99,115],[],[⟨1,1,[],[],0⟩],[],false,0,0,0⟩,⟨3,[98],[99],[],[],false,0,0,0⟩,⟨4,[],[99],[⟨6,0,[],[],0⟩,⟨2,0,[98],[],0⟩,⟨1,1,[],[],0⟩],[],false,0,0,0⟩,⟨2,[99,115],[],[⟨1,0,[],[],0⟩],[],false,0,0,0⟩,⟨8,[],[],[],[],false,0,0,0⟩,⟨4,[],[110,111,119],[⟨6,0,[],[],0⟩,⟨2,0,[97],[],0⟩,⟨1,1,[],[],0⟩],[],false,0,0,0⟩],0⟩,⟨[116,49],[[97],[98],[99,115]],[⟨6,[97],[110,101,120,116],[⟨1,1,[],[],0⟩],[],false,0,0,0⟩,⟨9,[],[110,111,119],[⟨2,0,[97],[],0⟩],[],false,0,0,0⟩,⟨2,[99,115],[],[⟨1,1,[],[],0⟩],[],false,0,0,0⟩,⟨3,[98],[99],[],[],false,0,0,0⟩,⟨4,[],[99],[⟨6,0,[],[],0⟩,⟨2,0,[98],[],0⟩,⟨1,1,[],[],0⟩],[],false,0,0,0⟩,⟨2,[99,115],[],[⟨1,0,[],[],0⟩],[],false,0,0,0⟩,⟨8,[],[],[],[],false,0,0,0⟩,⟨4,[],[110,111,119],[⟨6,0,[],[],0⟩,⟨2,0,[97],[],0⟩,⟨1,1,[],[],0⟩],[],false,0,0,0⟩],0⟩],[⟨3,[⟨12,0,[],[],0⟩,⟨6,0,[],[],0⟩,⟨4,0,[99,115],[116,48],0⟩,⟨4,0,[99,115],[116,49],0⟩,⟨1,1,[],[],0⟩],0⟩,⟨1,[⟨9,0,[],[],0⟩,⟨3,0,[99],[],0⟩,⟨1,2,[],[],0⟩],0⟩]⟩
def Nt:Cf:=⟨2,[⟨[99],0,0⟩],[⟨[116,48],[[97]],[⟨6,[97],[99],[⟨1,1,[],[],0⟩],[],false,0,0,0⟩,⟨9,[],[99],[⟨1,1,[],[],0⟩],[],false,0,0,0⟩],0⟩],[⟨1,[⟨9,0,[],[],0⟩,⟨3,0,[99],[],0⟩,⟨1,1,[],[],0⟩],0⟩]⟩
def Ny:Cf:=⟨3,[⟨[99],0,0⟩],[⟨[116,48],[[97]],[⟨6,[97],[99],[⟨1,1,[],[],0⟩],[],false,0,0,0⟩,⟨9,[],[99],[⟨1,2,[],[],0⟩],[],false,0,0,0⟩],0⟩,⟨[116,49],[[97]],[⟨6,[97],[99],[⟨1,1,[],[],0⟩],[],false,0,0,0⟩,⟨9,[],[99],[⟨1,2,[],[],0⟩],[],false,0,0,0⟩],0⟩],[⟨1,[⟨9,0,[],[],0⟩,⟨3,0,[99],[],0⟩,⟨1,2,[],[],0⟩],0⟩]⟩
def O4:Ak:=⟨2,[0,0],[2],[[⟨2,0,0,[⟨1,1,0⟩],[],false,0⟩,⟨21,0,0,[⟨2,0,0⟩,⟨1,0,0⟩,⟨10,0,0⟩],[],false,4⟩,⟨7,0,0,[⟨1,1,0⟩],[],false,0⟩,⟨20,0,0,[],[],false,1⟩,⟨2,1,0,[⟨1,1,0⟩],[],false,0⟩,⟨3,0,1,[],[],false,0⟩,⟨4,0,1,[⟨2,0,0⟩,⟨1,1,0⟩,⟨6,0,0⟩],[],false,0⟩,⟨2,1,0,[⟨1,0,0⟩],[],false,0⟩,⟨8,0,0,[],[],false,0⟩,⟨4,0,0,[⟨1,0,0⟩],[],false,0⟩,⟨22,0,0,[],[],false,0⟩]]⟩
def Q1:Ak:=⟨3,[0,0],[2,2],[[⟨2,0,0,[⟨1,1,0⟩],[],false,0⟩,⟨21,0,0,[⟨2,0,0⟩,⟨1,0,0⟩,⟨10,0,0⟩],[],false,4⟩,⟨7,0,0,[⟨1,1,0⟩],[],false,0⟩,⟨20,0,0,[],[],false,1⟩,⟨2,1,0,[⟨1,1,0⟩],[],false,0⟩,⟨3,0,1,[],[],false,0⟩,⟨4,0,1,[⟨2,0,0⟩,⟨1,1,0⟩,⟨6,0,0⟩],[],false,0⟩,⟨2,1,0,[⟨1,0,0⟩],[],false,0⟩,⟨8,0,0,[],[],false,0⟩,⟨4,0,0,[⟨1,0,0⟩],[],false,0⟩,⟨22,0,0,[],[],false,0⟩],[⟨2,0,0,[⟨1,1,0⟩],[],false,0⟩,⟨21,0,0,[⟨2,0,0⟩,⟨1,0,0⟩,⟨10,0,0⟩],[],false,4⟩,⟨7,0,0,[⟨1,1,0⟩],[],false,0⟩,⟨20,0,0,[],[],false,1⟩,⟨2,1,0,[⟨1,1,0⟩],[],false,0⟩,⟨3,0,1,[],[],false,0⟩,⟨4,0,1,[⟨2,0,0⟩,⟨1,1,0⟩,⟨6,0,0⟩],[],false,0⟩,⟨2,1,0,[⟨1,0,0⟩],[],false,0⟩,⟨8,0,0,[],[],false,0⟩,⟨4,0,0,[⟨1,0,0⟩],[],false,0⟩,⟨22,0,0,[],[],false,0⟩]]⟩
def O5:Ak:=⟨2,[0,0,0],[3],[[⟨6,0,0,[⟨1,1,0⟩],[],false,0⟩,⟨9,0,1,[⟨2,0,0⟩],[],false,0⟩,⟨2,2,0,[⟨1,1,0⟩],[],false,0⟩,⟨3,1,2,[],[],false,0⟩,⟨4,0,2,[⟨2,1,0⟩,⟨1,1,0⟩,⟨6,0,0⟩],[],false,0⟩,⟨2,2,0,[⟨1,0,0⟩],[],false,0⟩,⟨8,0,0,[],[],false,0⟩,⟨4,0,1,[⟨2,0,0⟩,⟨1,1,0⟩,⟨6,0,0⟩],[],false,0⟩,⟨22,0,0,[],[],false,0⟩]]⟩
def Ps:Ak:=⟨3,[0,0,0],[3,3],[[⟨6,0,0,[⟨1,1,0⟩],[],false,0⟩,⟨9,0,1,[⟨2,0,0⟩],[],false,0⟩,⟨2,2,0,[⟨1,1,0⟩],[],false,0⟩,⟨3,1,2,[],[],false,0⟩,⟨4,0,2,[⟨2,1,0⟩,⟨1,1,0⟩,⟨6,0,0⟩],[],false,0⟩,⟨2,2,0,[⟨1,0,0⟩],[],false,0⟩,⟨8,0,0,[],[],false,0⟩,⟨4,0,1,[⟨2,0,0⟩,⟨1,1,0⟩,⟨6,0,0⟩],[],false,0⟩,⟨22,0,0,[],[],false,0⟩],[⟨6,0,0,[⟨1,1,0⟩],[],false,0⟩,⟨9,0,1,[⟨2,0,0⟩],[],false,0⟩,⟨2,2,0,[⟨1,1,0⟩],[],false,0⟩,⟨3,1,2,[],[],false,0⟩,⟨4,0,2,[⟨2,1,0⟩,⟨1,1,0⟩,⟨6,0,0⟩],[],false,0⟩,⟨2,2,0,[⟨1,0,0⟩],[],false,0⟩,⟨8,0,0,[],[],false,0⟩,⟨4,0,1,[⟨2,0,0⟩,⟨1,1,0⟩,⟨6,0,0⟩],[],false,0⟩,⟨22,0,0,[],[],false,0⟩]]⟩
def Nw:Ak:=⟨2,[0],[1],[[⟨6,0,0,[⟨1,1,0⟩],[],false,0⟩,⟨9,0,0,[⟨1,1,0⟩],[],false,0⟩,⟨22,0,0,[],[],false,0⟩]]⟩
def O8:Ak:=⟨3,[0],[1,1],[[⟨6,0,0,[⟨1,1,0⟩],[],false,0⟩,⟨9,0,0,[⟨1,2,0⟩],[],false,0⟩,⟨22,0,0,[],[],false,0⟩],[⟨6,0,0,[⟨1,1,0⟩],[],false,0⟩,⟨9,0,0,[⟨1,2,0⟩],[],false,0⟩,⟨22,0,0,[],[],false,0⟩]]⟩
def pgs:List Cf:=[Mm,O2,Mj,Oc,Nt,Ny]
def uns:List Ak:=[O4,Q1,O5,Ps,Nw,O8]
def aPg (p:Cf):AV:=.agg (Ad8 p)
def Alj:List ((Int×Int×Int)×Cf):=[((1,1,2),Mm),((1,2,3),O2),((2,1,2),Mj),((2,2,3),Oc),((3,1,2),Nt),((3,2,3),Ny)]
def A2v:List ((List Kz×Cf)×List OpS):=[((((Mm.Cw.map Fa.Ub)[0]!),Mm),[⟨4,1,0⟩,⟨1,1,0⟩,⟨12,0,0⟩]),((((Mm.Cw.map Fa.Ub)[1]!),Mm),[⟨3,1,0⟩,⟨1,1,0⟩,⟨9,0,0⟩]),((((O2.Cw.map Fa.Ub)[0]!),O2),[⟨4,1,0⟩,⟨4,1,1⟩,⟨6,0,0⟩,⟨1,1,0⟩,⟨12,0,0⟩]),((((O2.Cw.map Fa.Ub)[1]!),O2),[⟨3,1,0⟩,⟨1,2,0⟩,⟨9,0,0⟩]),((((Mj.Cw.map Fa.Ub)[0]!),Mj),[⟨4,2,0⟩,⟨1,1,0⟩,⟨12,0,0⟩]),((((Mj.Cw.map Fa.Ub)[1]!),Mj),[⟨3,2,0⟩,⟨1,1,0⟩,⟨9,0,0⟩]),((((Oc.Cw.map Fa.Ub)[0]!),Oc),[⟨4,2,0⟩,⟨4,2,1⟩,⟨6,0,0⟩,⟨1,1,0⟩,⟨12,0,0⟩]),((((Oc.Cw.map Fa.Ub)[1]!),Oc),[⟨3,2,0⟩,⟨1,2,0⟩,⟨9,0,0⟩]),((((Nt.Cw.map Fa.Ub)[0]!),Nt),[⟨3,0,0⟩,⟨1,1,0⟩,⟨9,0,0⟩]),((((Ny.Cw.map Fa.Ub)[0]!),Ny),[⟨3,0,0⟩,⟨1,2,0⟩,⟨9,0,0⟩])]
def Wq:List (Cf×Ak):=[(Mm,O4),(O2,Q1),(Mj,O5),(Oc,Ps),(Nt,Nw),(Ny,O8)]
def ok0:AV:=.tup [.int .i64 0,.int .i64 0]
def U5:Tbl:=Alj.map fun x=>([.int .i64 x.1.1,.int .i64 x.1.2.1,.int .i64 x.1.2.2],.tup [aPg x.2,.int .i64 0])
def I5:Tbl:=uns.map fun u=>([aU u],.bool true)
def I6:Tbl:=uns.map fun u=>([aU u,aU u],.bool true)
def Jc:Tbl:=A2v.map fun x=>([.sl 5 (List.map L8 x.1.1),aPg x.1.2],.tup [.sl 3 (List.map C0 x.2),.bool true])
def Uq:Tbl:=Wq.map fun x=>([aPg x.1],.tup [aU x.2,.int .i64 0,.int .i64 0])
def Ij:Tbl:=pgs.map fun p=>([aPg p],ok0)
def Vt:Tbl:=(O4.code[0]!.dropLast.map fun x=>([.agg (Bx x),.int .i64 2,.int .i64 2,.int .i64 11],.bool true))++(O5.code[0]!.dropLast.map fun x=>([.agg (Bx x),.int .i64 3,.int .i64 3,.int .i64 9],.bool true))++(Nw.code[0]!.dropLast.map fun x=>([.agg (Bx x),.int .i64 1,.int .i64 1,.int .i64 3],.bool true))++((O8.code[0]!.drop 1).dropLast.map fun x=>([.agg (Bx x),.int .i64 1,.int .i64 1,.int .i64 3],.bool true))
def A9u:List (List W6):=[(Mm.E4[0]!).R7,(Mj.E4[0]!).R7,(Nt.E4[0]!).R7,(Ny.E4[0]!).R7]
def stT:Tbl:=A9u.map fun l=>([.sl 9 (List.map Or l)],.bool true)
def Jk:Tbl:=(A9u.take 3).flatMap (fun l=>l.map fun x=>([.agg (Or x)],.bool true))++((A9u[3]!).drop 1).map fun x=>([.agg (Or x)],.bool true)
def Asy:Xd:=(117,Gw Jk) :: Aa2
def X0:Ext:=Qg Asy
def clT:Tbl:=A2v.map fun x=>([.sl 5 (List.map L8 x.1.1)],.bool true)
def Hi:Tbl:=pgs.flatMap fun p=>p.E4.map fun t=>([aPg p,.agg (F6 t)],ok0)
def L7:Tbl:=pgs.map fun p=>([aPg p],ok0)
def T5:Tbl:=[(Mm,O4),(Mj,O5),(Nt,Nw),(Ny,O8)].map fun x=>([.sl 9 (List.map Or (x.1.E4[0]!).R7),.sl 1 (List.map Amu (x.1.E4[0]!).Ako),.sl 1 (List.map Amu (x.1.Mn.map Yu.Vn))],.sl 7 (List.map Bx x.2.code[0]!))
def Yw:Tbl:=[([],.bool true)]
end Go.Proofs.YtfabdppicogkmaaGreat
end
