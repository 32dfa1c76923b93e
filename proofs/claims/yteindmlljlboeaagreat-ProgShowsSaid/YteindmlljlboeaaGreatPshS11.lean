/- Parts of the proofs: what they lean on. Conditions: none. -/
import Derived.Test.YteindmlljlboeaaGreatRows
import Derived.WalkKit
import Derived.WalkSpells
import Derived.WalkLawsBesides
import Derived.Test.YteindmlljlboeaaGreatProg
import Derived.Test.YteindmlljlboeaaGreatPshS10
section
namespace Go.Proofs.YteindmlljlboeaaGreat
open Go.RowKit
set_option maxHeartbeats 400000 in
theorem Ow (c:Int) (w:World) :
 Calls Tryz.prog 51 #[.int .i32 c] w fun e w'=>e=.returned (.bool (Fo c))∧w=w':=by
 go_enter Tryz.func51,Tryz.ntmps51
 go_wp2
 all_goals
  go_ret
  refine⟨congrArg (fun b=>Ending.returned (.bool b)) ?_,rfl⟩
  rw[Bool.eq_iff_iff]
  simp[Fo]
  omega
set_option maxHeartbeats 400000 in
theorem Vg (c:Int) (w:World) :
 Calls Tryz.prog 52 #[.int .i32 c] w fun e w'=>e=.returned (.bool (Ff c))∧w=w':=by
 go_enter Tryz.func52,Tryz.ntmps52
 go_wp2
 all_goals
  go_ret
  refine⟨congrArg (fun b=>Ending.returned (.bool b)) ?_,rfl⟩
  rw[Bool.eq_iff_iff]
  simp[Ff]
  omega
theorem F2 {s:ByteArray} {l:List UInt8} (h:s.data.toList≠l):(s.toList==l)=false:=by
 rw[ByteArray.toList_eq];simpa using h
theorem Ad2 {s:ByteArray} {l:List UInt8} (h:s.data.toList=l):s=⟨l.toArray⟩:=by
 subst h;rfl
set_option maxHeartbeats 1000000 in
theorem A4g (s:ByteArray) (w:World) :
 Calls Tryz.prog 53 #[.string s] w fun e w'=>e=.returned (.bool (kwB s.data.toList))∧w=w':=by
 by_cases h:s.data.toList ∈ kws
 ·have hk:kwB s.data.toList=true:=by simpa [kwB] using h
  rw[hk]
  simp only[kws,List.mem_cons,List.not_mem_nil,or_false] at h
  rcases h with h | h | h | h | h | h | h | h | h | h | h | h | h | h | h | h | h | h | h | h | h
  all_goals
   obtain rfl:=Ad2 h
   clear h hk
   go_enter Tryz.func53,Tryz.ntmps53
   go_wp2
   go_ret
   exact⟨rfl,rfl⟩
 ·have hk:kwB s.data.toList=false:=by simpa [kwB] using h
  rw[hk]
  have n0:(s.toList==[109,111,100])=false:=F2 (fun e=>h (by rw[e];decide))
  have n1:(s.toList==[108,111,99])=false:=F2 (fun e=>h (by rw[e];decide))
  have n2:(s.toList==[116,104,114,101,97,100])=false:=F2 (fun e=>h (by rw[e];decide))
  have n3:(s.toList==[114,101,103])=false:=F2 (fun e=>h (by rw[e];decide))
  have n4:(s.toList==[115,107,105,112])=false:=F2 (fun e=>h (by rw[e];decide))
  have n5:(s.toList==[115,101,116])=false:=F2 (fun e=>h (by rw[e];decide))
  have n6:(s.toList==[108,111,97,100])=false:=F2 (fun e=>h (by rw[e];decide))
  have n7:(s.toList==[115,116,111,114,101])=false:=F2 (fun e=>h (by rw[e];decide))
  have n8:(s.toList==[99,97,115])=false:=F2 (fun e=>h (by rw[e];decide))
  have n9:(s.toList==[102,97,100,100])=false:=F2 (fun e=>h (by rw[e];decide))
  have n10:(s.toList==[120,99,104,103])=false:=F2 (fun e=>h (by rw[e];decide))
  have n11:(s.toList==[102,101,110,99,101])=false:=F2 (fun e=>h (by rw[e];decide))
  have n12:(s.toList==[97,119,97,105,116])=false:=F2 (fun e=>h (by rw[e];decide))
  have n13:(s.toList==[105,102])=false:=F2 (fun e=>h (by rw[e];decide))
  have n14:(s.toList==[101,108,115,101])=false:=F2 (fun e=>h (by rw[e];decide))
  have n15:(s.toList==[119,104,105,108,101])=false:=F2 (fun e=>h (by rw[e];decide))
  have n16:(s.toList==[108,111,111,112])=false:=F2 (fun e=>h (by rw[e];decide))
  have n17:(s.toList==[98,114,101,97,107])=false:=F2 (fun e=>h (by rw[e];decide))
  have n18:(s.toList==[102,111,114,97,108,108])=false:=F2 (fun e=>h (by rw[e];decide))
  have n19:(s.toList==[101,120,105,115,116,115])=false:=F2 (fun e=>h (by rw[e];decide))
  have n20:(s.toList==[97,108,119,97,121,115])=false:=F2 (fun e=>h (by rw[e];decide))
  clear h hk
  go_enter Tryz.func53,Tryz.ntmps53
  go_wp2
  go_ret
  exact⟨rfl,rfl⟩
def Adt (s:ByteArray) (w:World) (e:Ending) (w':World):Prop:=e=.returned (.bool (Cb s.data.toList))∧Below w.heap.size w w'
theorem A3y (s:ByteArray) (w w':World) (k:Nat) (hk:k < s.size) (h1:Fo s[k].toNat=false) (h2:k=0∨Ff s[k].toNat=false) (hb:Below w.heap.size w w'):Adt s w (.returned (.bool false)) w':=by
 refine⟨?_,hb⟩
 rw[A94 (l:=s.data.toList) (k:=k) (by rw[Mw];exact hk)]
 rw[A99 s k hk,h1]
 rcases h2 with rfl | h2
 ·simp
 ·simp[h2]
set_option maxHeartbeats 2000000 in
theorem Am2 (s:ByteArray) (w:World) (hs:s.size≤9223372036854775807) :
 Calls Tryz.prog 20 #[.string s] w (Adt s w):=by
 go_enter Tryz.func20,Tryz.ntmps20
 go_wp2
 go_loopw [] (fun w'=>∃ pos:Nat,w'=w.iter s pos∧pos≤s.size∧∀ k,k < pos→Lx s.data.toList k=true) (fun w'=>s.size - w'.iterPos w.heap.size)
 case atStart=>exact⟨0,rfl,by omega,fun k h=>absurd h (by omega)⟩
 case round =>
  obtain⟨pos,rfl,hpos,hall⟩:=hrel
  have Hall:=Lib.hid hall;clear hall
  have hB:Below w.heap.size w (w.iter s (pos+1)):=((Below.refl _ _).alloc (Nat.le_refl _) _)
  have hB2:Below w.heap.size w (w.iter s (pos+(Utf8.decode s pos).2)):=((Below.refl _ _).alloc (Nat.le_refl _) _)
  have HB:=Lib.hid hB;have HB2:=Lib.hid hB2
  clear hB hB2
  by_cases hlt:pos < s.size
  ·have hat:=A99 s pos hlt
   have HA:=Lib.hid hat;clear hat
   by_cases ha:(s[pos]'hlt).toNat < 128
   ·have hnx:∀ ty,(Instr.next (.pointer (some ⟨w.heap.size,0,none⟩)) true ty).run Tryz.prog (w.iter s pos)=_:=fun ty=>run_next_ascii w s pos ty hlt ha
    clear ha
    by_cases h1:Fo (s[pos]'hlt).toNat=true
    ·go_wp2_with (first
      | (go_at_call 51;refine(Ow _ _).mono ?_;rintro e w' ⟨rfl,rfl⟩))
     go_roundw
     case rel =>
      refine⟨pos+1,rfl,by omega,fun k hk=>?_⟩
      rcases Nat.lt_or_ge k pos with h | h
      ·exact Hall.out k h
      ·obtain rfl:k=pos:=by omega
       rw[HA.out,h1];rfl
     case measure=>simp;omega
    ·have h1':Fo (s[pos]'hlt).toNat=false:=by simpa using h1
     clear h1
     by_cases h0:pos=0
     ·subst h0
      go_wp2_with (first
       | (go_at_call 51;refine(Ow _ _).mono ?_;rintro e w' ⟨rfl,rfl⟩))
      go_ret
      exact A3y s _ _ 0 hlt h1' (.inl rfl) HB.out
     ·have h0':((pos:Int)==0)=false:=by rw[beq_eq_false_iff_ne];omega
      by_cases h2:Ff (s[pos]'hlt).toNat=true
      ·go_wp2_with (first
        | (go_at_call 51;refine(Ow _ _).mono ?_;rintro e w' ⟨rfl,rfl⟩)
        | (go_at_call 52;refine(Vg _ _).mono ?_;rintro e w' ⟨rfl,rfl⟩))
       go_roundw
       case rel =>
        refine⟨pos+1,rfl,by omega,fun k hk=>?_⟩
        rcases Nat.lt_or_ge k pos with h | h
        ·exact Hall.out k h
        ·obtain rfl:k=pos:=by omega
         rw[HA.out,h2];simp;omega
       case measure=>simp;omega
      ·have h2':Ff (s[pos]'hlt).toNat=false:=by simpa using h2
       clear h2
       go_wp2_with (first
        | (go_at_call 51;refine(Ow _ _).mono ?_;rintro e w' ⟨rfl,rfl⟩)
        | (go_at_call 52;refine(Vg _ _).mono ?_;rintro e w' ⟨rfl,rfl⟩))
       go_ret
       exact A3y s _ _ pos hlt h1' (.inr h2') HB.out
   ·have hnx:∀ ty,(Instr.next (.pointer (some ⟨w.heap.size,0,none⟩)) true ty).run Tryz.prog (w.iter s pos)=_:=fun ty=>run_next_any w s pos ty hlt
    have hd:=(decode_high s pos hlt (by omega)).1
    have h1':Fo (Utf8.decode s pos).1=false:=Xc (by omega)
    have h2':Ff (Utf8.decode s pos).1=false:=Rz (by omega)
    have h3:Fo (s[pos]'hlt).toNat=false:=Xc (by omega)
    have h4:Ff (s[pos]'hlt).toNat=false:=Rz (by omega)
    by_cases h0:pos=0
    ·subst h0
     go_wp2_with (first
      | (go_at_call 51;refine(Ow _ _).mono ?_;rintro e w' ⟨rfl,rfl⟩))
     go_ret
     exact A3y s _ _ 0 hlt h3 (.inl rfl) (by have:=HB2.out;rw[Nat.zero_add] at this;exact this)
    ·have h0':((pos:Int)==0)=false:=by rw[beq_eq_false_iff_ne];omega
     go_wp2_with (first
      | (go_at_call 51;refine(Ow _ _).mono ?_;rintro e w' ⟨rfl,rfl⟩)
      | (go_at_call 52;refine(Vg _ _).mono ?_;rintro e w' ⟨rfl,rfl⟩))
     go_ret
     exact A3y s _ _ pos hlt h3 (.inr h4) HB2.out
  ·have hnx:∀ ty,(Instr.next (.pointer (some ⟨w.heap.size,0,none⟩)) true ty).run Tryz.prog (w.iter s pos)=_:=fun ty=>run_next_end w s pos ty hlt
   have hn:=Agn (l:=s.data.toList) (fun k hk=>Hall.out k (by rw[Mw] at hk;omega))
   rw[Mw] at hn
   have hB:Below w.heap.size w (w.iter s pos):=((Below.refl _ _).alloc (Nat.le_refl _) _)
   have HN:=Lib.hid hn;clear hn
   by_cases he:s.data.toList=[]
   ·obtain rfl:=Ad2 he
    go_wp2
    go_ret
    exact⟨by rw[HN.out];rfl,hB⟩
   ·have he1:s.toList.isEmpty=false:=by rw[ByteArray.toList_eq];simpa using he
    have he2:s.data.toList.isEmpty=false:=by simpa using he
    clear he
    by_cases h16:s.size≤16
    ·go_wp2_with (first
      | (go_at_call 53;refine(A4g _ _).mono ?_;rintro e w' ⟨rfl,rfl⟩))
     go_ret
     exact⟨by rw[HN.out];simp[he2,h16],hB⟩
    ·go_wp2
     go_ret
     exact⟨by rw[HN.out];simp[he2,h16],hB⟩
set_option linter.unusedVariables false
set_option linter.unusedSimpArgs false
set_option maxRecDepth 100000
def Alj (f:List UInt8→Bool) (args:List AV):Option AV:=match args with
 | [.str s]=>some (.bool (f s))
 | _=>none
theorem A9k {P:Program} {g:FuncId} {f:List UInt8→Bool} (hc:∀ (s:ByteArray) (w:World),s.size≤9223372036854775807→Calls P g #[.string s] w (Agx (f s.data.toList) w)):A03 P g (Alj f):=by
 intro args v h S w vs hS hr
 match args,h with
 | [.str s],h =>
  cases h
  cases hr with | cons _ _ _ u _ _ h1 t=>cases t with | nil =>
  obtain⟨rfl,hl⟩:=h1.str_inv
  refine(hc (bs s) w (by unfold maxLen at hl;show s.toArray.size≤_;rw[List.size_toArray];omega)).mono ?_
  rintro e w' ⟨rfl,hb⟩
  obtain⟨k1,k2⟩:=A19 hS hb
  exact⟨_,S,rfl,.bool _ _ _,k2,k1,fun _ _ h=>.inl h,hb⟩
theorem Agr {P:Program} {g:FuncId}:A03 P g (fun _=>none):=by intro args v h;cases h
set_option maxHeartbeats 400000 in
theorem Aks (c:Int) (w:World) :
 Calls Tryz.prog 71 #[.int .i32 c] w fun e w'=>e=.returned (.bool (A3w c))∧w=w':=by
 go_enter Tryz.func71,Tryz.ntmps71
 go_wp2
 all_goals
  go_ret
  refine⟨congrArg (fun b=>Ending.returned (.bool b)) ?_,rfl⟩
  rw[Bool.eq_iff_iff]
  simp[A3w]
set_option maxHeartbeats 400000 in
theorem Aku (c:Int) (w:World) :
 Calls Tryz.prog 72 #[.int .i32 c] w fun e w'=>e=.returned (.bool (Wh c))∧w=w':=by
 go_enter Tryz.func72,Tryz.ntmps72
 go_wp2_with (first
  | (go_at_call 51;refine(Ow _ _).mono ?_;rintro e w' ⟨rfl,rfl⟩)
  | (go_at_call 52;refine(Vg _ _).mono ?_;rintro e w' ⟨rfl,rfl⟩))
 all_goals
  go_ret
  refine⟨congrArg (fun b=>Ending.returned (.bool b)) ?_,rfl⟩
  simp[Wh, *]
theorem Air (s:ByteArray) (pos:Nat) (h:pos < s.size):1≤(Utf8.decode s pos).2:=by
 by_cases ha:(s[pos]'h).toNat < 128
 ·rw[decode_ascii s pos h ha]
  exact Nat.le_refl _
 ·exact(decode_high s pos h (by omega)).2
theorem Ajt (p:Int→Bool) (hp:∀ c,128≤c→p c=p 128) (s:ByteArray) (pos:Nat) (h:pos < s.size) :
 pos+(Utf8.decode s pos).2≤s.size∧p (s[pos]'h).toNat=p (Utf8.decode s pos).1∧(p (Utf8.decode s pos).1=true→∀ k (hk:k < s.size),pos≤k→k < pos+(Utf8.decode s pos).2→p s[k].toNat=true):=by
 by_cases ha:(s[pos]'h).toNat < 128
 ·have e:=decode_ascii s pos h ha
  rw[e]
  refine⟨by simp;omega,rfl,fun hq k hk h1 h2=>?_⟩
  simp only at h2
  obtain rfl:k=pos:=by omega
  exact hq
 ·have hd:=decode_high s pos h (by omega)
  have hb:=Acn s pos h (by omega)
  refine⟨hb.1,?_,fun hq k hk h1 h2=>?_⟩
  ·rw[hp _ (by omega),hp (Utf8.decode s pos).1 (by omega)]
  ·rw[hp _ (by have:=hb.2 k hk h1 h2;omega),← hp (Utf8.decode s pos).1 (by omega)]
   exact hq
set_option maxHeartbeats 400000 in
theorem Ao8 (s:ByteArray) (f:Nat) (p:Int→Bool) (w:World) (hs:s.size≤9223372036854775807)
 (hcf:∀ (args:Array Value) (w:World),(callFunc f args).run Tryz.prog w=.ok (.enter f args) w)
 (hf:∀ (c:Int) (w:World),Calls Tryz.prog f #[.int .i32 c] w fun e w'=>e=.returned (.bool (p c))∧w=w') (hp:∀ c,128≤c→p c=p 128) :
 Calls Tryz.prog 70 #[.string s,.func (.func f) #[] #[]] w fun e w'=>e=.returned (.int .i64 (Mz p s.data.toList))∧Below w.heap.size w w':=by
 have Hf:=Lib.hid hf;clear hf
 have Hp:=Lib.hid hp;clear hp
 go_enter Tryz.func70,Tryz.ntmps70
 go_wp2
 go_loopw [] (fun w'=>∃ pos:Nat,w'=w.iter s pos∧pos≤s.size∧∀ k (hk:k < s.size),k < pos→p s[k].toNat=true) (fun w'=>s.size - w'.iterPos w.heap.size)
 case atStart=>exact⟨0,rfl,by omega,fun k _ h=>absurd h (by omega)⟩
 case round =>
  obtain⟨pos,rfl,hpos,hall⟩:=hrel
  have Hall:=Lib.hid hall;clear hall
  by_cases hlt:pos < s.size
  ·have hnx:∀ ty,(Instr.next (.pointer (some ⟨w.heap.size,0,none⟩)) true ty).run Tryz.prog (w.iter s pos)=_:=fun ty=>run_next_any w s pos ty hlt
   have RK:=Lib.hid (Ajt p Hp.out s pos hlt)
   have hwd:=Air s pos hlt
   go_wp2_with fail
   refine(Hf.out _ _).mono ?_
   rintro e w' ⟨rfl,rfl⟩
   by_cases hk:p (Utf8.decode s pos).1=true
   ·go_wp2
    go_roundw
    case rel =>
     refine⟨pos+(Utf8.decode s pos).2,rfl,RK.out.1,fun k hk' hk2=>?_⟩
     rcases Nat.lt_or_ge k pos with h | h
     ·exact Hall.out k hk' h
     ·exact RK.out.2.2 hk k hk' h hk2
    case measure=>simp;omega
   ·have hk':p (Utf8.decode s pos).1=false:=by simpa using hk
    go_wp2
    go_ret
    refine⟨?_,((Below.refl _ _).alloc (Nat.le_refl _) _)⟩
    have e:Mz p s.data.toList=pos:=Aff (fun k hk1 hk2=>Hall.out k hk1 hk2) (by rw[Mw];exact hlt) (by have:=RK.out.2.1;rw[hk'] at this;exact this)
    rw[e];rfl
  ·have hnx:∀ ty,(Instr.next (.pointer (some ⟨w.heap.size,0,none⟩)) true ty).run Tryz.prog (w.iter s pos)=_:=fun ty=>run_next_end w s pos ty hlt
   go_wp2
   go_ret
   refine⟨?_,((Below.refl _ _).alloc (Nat.le_refl _) _)⟩
   have e:Mz p s.data.toList=s.size:=by
    rw[Ahy (fun k hk=>Hall.out k hk (by rw[Mw] at hk;omega)),Mw]
   rw[e];rfl
theorem Ad9 (l:List UInt8) (n:Nat) (h:n≤10000):l.foldl (fun n c=>min (10*n+(c.toNat - 48)) 10000) n≤10000:=by
 induction l generalizing n with
 | nil=>exact h
 | cons a t ih=>exact ih _ (by show min _ _≤_;omega)
theorem A9v (l:List UInt8):V9 l≤10000:=Ad9 l 0 (by omega)
theorem Abo (s:ByteArray) (k:Nat) (hk:k < s.size):V9 (s.data.toList.take (k+1))=min (10*V9 (s.data.toList.take k)+((s[k]'hk).toNat - 48)) 10000:=by
 have e:s.data.toList.take (k+1)=s.data.toList.take k++[s[k]'hk]:=by
  rw[List.take_succ_eq_append_getElem (by simpa using hk)];rfl
 rw[e]
 simp[V9]
set_option maxHeartbeats 1000000 in
theorem Aiw (s:ByteArray) (w:World) (hs:s.size≤9223372036854775807) (hd:∀ k (hk:k < s.size),Ff s[k].toNat=true) :
 Calls Tryz.prog 73 #[.string s] w fun e w'=>e=.returned (.int .i64 (V9 s.data.toList))∧Below w.heap.size w w':=by
 have Hd:=Lib.hid hd;clear hd
 go_enter Tryz.func73,Tryz.ntmps73
 go_wp2
 go_loopw [3] (fun v w'=>∃ pos:Nat,w'=w.iter s pos∧pos≤s.size∧v=.int .i64 (V9 (s.data.toList.take pos))) (fun _ w'=>s.size - w'.iterPos w.heap.size)
 case atStart=>exact⟨0,rfl,by omega,rfl⟩
 case round =>
  obtain⟨pos,rfl,hpos,rfl⟩:=hrel
  by_cases hlt:pos < s.size
  ·have hdg:=Hd.out pos hlt
   simp only[Ff,Bb] at hdg
   obtain⟨hd1,hd2⟩:=hdg
   have hnx:∀ ty,(Instr.next (.pointer (some ⟨w.heap.size,0,none⟩)) true ty).run Tryz.prog (w.iter s pos)=_:=fun ty=>run_next_ascii w s pos ty hlt (by omega)
   have hv:=A9v (s.data.toList.take pos)
   have HS:=Lib.hid (Abo s pos hlt)
   go_wp2
   all_goals
    go_roundw
    case rel =>
     refine⟨pos+1,rfl,by omega,?_⟩
     rw[HS.out]
     first | go_num | (congr 1;omega)
    case measure=>simp;omega
  ·have hnx:∀ ty,(Instr.next (.pointer (some ⟨w.heap.size,0,none⟩)) true ty).run Tryz.prog (w.iter s pos)=_:=fun ty=>run_next_end w s pos ty hlt
   go_wp2
   go_ret
   refine⟨?_,((Below.refl _ _).alloc (Nat.le_refl _) _)⟩
   have e:s.data.toList.take pos=s.data.toList:=List.take_of_length_le (by rw[Mw];omega)
   rw[e];rfl
theorem Any (args:Array Value) (w:World):(callFunc 71 args).run Tryz.prog w=.ok (.enter 71 args) w:=by simp[go_sem]
theorem Ao3 (args:Array Value) (w:World):(callFunc 72 args).run Tryz.prog w=.ok (.enter 72 args) w:=by simp[go_sem]
theorem Al4 (args:Array Value) (w:World):(callFunc 52 args).run Tryz.prog w=.ok (.enter 52 args) w:=by simp[go_sem]
def Afu (g:Nat):Option (Int→Bool):=match Nat.beq g 71 with
 | true=>some A3w
 | false=>match Nat.beq g 72 with
   | true=>some Wh
   | false=>match Nat.beq g 52 with
     | true=>some Ff
     | false=>none
def Alv (args:List AV):Option AV:=match args with
 | [.str s,.func g [] []]=>match Afu g with
   | some p=>some (.int .i64 (Mz p s))
   | none=>none
 | _=>none
def Ahu (args:List AV):Option AV:=match args with
 | [.str s]=>match s.all (fun c=>Ff c.toNat) with
   | true=>some (.int .i64 (V9 s))
   | false=>none
 | _=>none
theorem Aif (p:Int→Bool) (s:List UInt8):Mz p s≤s.length:=by
 unfold Mz
 exact(List.takeWhile_prefix (fun c:UInt8=>p c.toNat) (l:=s)).length_le
theorem Ak6:A03 Tryz.prog 70 Alv:=by
 intro args v h S w vs hS hr
 match args,h with
 | [.str s,.func g [] []],h =>
  simp only[Alv] at h
  cases hr with | cons _ _ _ u _ _ h1 t=>cases t with | cons _ _ _ u2 _ _ h2 t=>cases t with | nil =>
  obtain⟨rfl,hl⟩:=h1.str_inv
  obtain⟨a,b,k1,k2,rfl⟩:=h2.func_inv
  cases k1;cases k2
  unfold maxLen at hl
  have hz:(bs s).size≤9223372036854775807:=by show s.toArray.size≤_;rw[List.size_toArray];omega
  have fin:∀ (p:Int→Bool),(∀ (args:Array Value) (w:World),(callFunc g args).run Tryz.prog w=.ok (.enter g args) w)→(∀ (c:Int) (w:World),Calls Tryz.prog g #[.int .i32 c] w fun e w'=>e=.returned (.bool (p c))∧w=w')→(∀ c,128≤c→p c=p 128)→some (AV.int .i64 (Mz p s))=some v→Calls Tryz.prog 70 #[.string (bs s),.func (.func g) #[] #[]] w fun e w'=>∃ u S',e=.returned u∧Rep S' w' [] [] v u∧(∀ b o,S' b o→∃ u,stay w' b o=some u∧(w.heap.size≤b→u.2.2=(0,0)))∧SExt S w S' w'∧(∀ b o,S' b o→S b o∨w.heap.size≤b)∧Go.RowKit.Below w.heap.size w w':=by
   intro p q1 q2 q3 hv
   cases hv
   refine(Ao8 (bs s) g p w hz q1 q2 q3).mono ?_
   rintro e w' ⟨rfl,hb⟩
   obtain⟨k1,k2⟩:=A19 hS hb
   exact⟨_,S,rfl,.int _ _ _ _ (A2v (Nat.le_trans (Aif p s) (by unfold maxLen;omega))),k2,k1,fun _ _ h=>.inl h,hb⟩
  unfold Afu at h
  split at h
  ·rename_i p hp
   split at hp
   ·rename_i hg
    obtain rfl:=Nat.eq_of_beq_eq_true hg
    cases hp
    exact fin _ Any Aks (fun c hc=>by rw[A6z hc,A6z (by omega)]) h
   ·split at hp
    ·rename_i hg
     obtain rfl:=Nat.eq_of_beq_eq_true hg
     cases hp
     exact fin _ Ao3 Aku (fun c hc=>by rw[A75 hc,A75 (by omega)]) h
    ·split at hp
     ·rename_i hg
      obtain rfl:=Nat.eq_of_beq_eq_true hg
      cases hp
      exact fin _ Al4 Vg (fun c hc=>by rw[Rz hc,Rz (by omega)]) h
     ·cases hp
  ·cases h
theorem Aiu:A03 Tryz.prog 73 Ahu:=by
 intro args v h S w vs hS hr
 match args,h with
 | [.str s],h =>
  simp only[Ahu] at h
  split at h
  ·rename_i hd
   cases h
   cases hr with | cons _ _ _ u _ _ h1 t=>cases t with | nil =>
   obtain⟨rfl,hl⟩:=h1.str_inv
   unfold maxLen at hl
   have hz:(bs s).size≤9223372036854775807:=by show s.toArray.size≤_;rw[List.size_toArray];omega
   refine(Aiw (bs s) w hz fun k hk=>?_).mono ?_
   ·rw[List.all_eq_true] at hd
    have hk':k < s.length:=by have:k < s.toArray.size:=hk;rwa [List.size_toArray] at this
    exact hd _ (List.getElem_mem hk')
   ·rintro e w' ⟨rfl,hb⟩
    obtain⟨k1,k2⟩:=A19 hS hb
    exact⟨_,S,rfl,.int _ _ _ _ (A2v (Nat.le_trans (A9v s) (by decide))),k2,k1,fun _ _ h=>.inl h,hb⟩
  ·cases h
noncomputable def Ale:Akv:=[
 (20,Alj Cb),
 (53,Alj kwB),
 (70,Alv),
 (73,Ahu),
 (1000000,fun _=>none)]
noncomputable def XT:Ext:=A6p Ale
theorem Ahj:∀ p ∈ Ale,A03 Tryz.prog p.1 p.2:=by
 unfold Ale
 refine List.forall_mem_cons.2 ⟨A9k (fun s w h=>(Am2 s w h).mono fun _ _ h=>h),?_⟩
 refine List.forall_mem_cons.2 ⟨A9k (fun s w h=>(A4g s w).mono fun _ w' h=>⟨h.1,h.2 ▸ Go.RowKit.Below.refl _ _⟩),?_⟩
 refine List.forall_mem_cons.2 ⟨Ak6,?_⟩
 refine List.forall_mem_cons.2 ⟨Aiu,?_⟩
 exact List.forall_mem_cons.2 ⟨Agr,fun _ h=>by cases h⟩
theorem A5h:A0j Tryz.prog XT:=A4h Ahj
theorem Ve {P:Program} {H:Bu} {X:Ext} {n:Nat} {f:FuncId} {g:List AV→Option AV} {args:List AV} {v:AV} (hx:X f=some g) (h:g args=some v):I2 P H X (n+1) f args []=some (v,[]):=by
 simp only[I2,On,hx,h]
def Df:Nat→List UInt8→Option Bool
 | 0,_=>none
 | _+1,s=>some (Cb s)
theorem Fz {n:Nat} {s:List UInt8} {r:Bool}:Df n s=some r→I2 Tryz.prog HH XT n 20 [AV.str s] []=some (AV.bool (r),[]):=by
 cases n with
 | zero=>intro hm;cases hm
 | succ n=>intro hm;obtain rfl:=Option.some.inj hm;exact Ve rfl rfl
def Rv:Nat→List UInt8→Option Int
 | 0,_=>none
 | _+1,s=>some (Mz A3w s)
theorem Y1 {n:Nat} {s:List UInt8} {r:Int}:Rv n s=some r→I2 Tryz.prog HH XT n 70 [AV.str s,AV.func 71 [] []] []=some (AV.int .i64 r,[]):=by
 cases n with
 | zero=>intro hm;cases hm
 | succ n=>intro hm;obtain rfl:=Option.some.inj hm;exact Ve rfl rfl
def Rr:Nat→List UInt8→Option Int
 | 0,_=>none
 | _+1,s=>some (Mz Wh s)
theorem Xz {n:Nat} {s:List UInt8} {r:Int}:Rr n s=some r→I2 Tryz.prog HH XT n 70 [AV.str s,AV.func 72 [] []] []=some (AV.int .i64 r,[]):=by
 cases n with
 | zero=>intro hm;cases hm
 | succ n=>intro hm;obtain rfl:=Option.some.inj hm;exact Ve rfl rfl
def Sw:Nat→List UInt8→Option Int
 | 0,_=>none
 | _+1,s=>some (Mz Ff s)
theorem Z3 {n:Nat} {s:List UInt8} {r:Int}:Sw n s=some r→I2 Tryz.prog HH XT n 70 [AV.str s,AV.func 52 [] []] []=some (AV.int .i64 r,[]):=by
 cases n with
 | zero=>intro hm;cases hm
 | succ n=>intro hm;obtain rfl:=Option.some.inj hm;exact Ve rfl rfl
def Wv:Nat→List UInt8→Option Int
 | 0,_=>none
 | _+1,s=>bif s.all (fun c=>Ff c.toNat) then some (V9 s) else none
theorem Aa4 {n:Nat} {s:List UInt8} {r:Int}:Wv n s=some r→I2 Tryz.prog HH XT n 73 [AV.str s] []=some (AV.int .i64 r,[]):=by
 cases n with
 | zero=>intro hm;cases hm
 | succ n =>
  intro hm
  simp only[Wv] at hm
  cases hd:s.all (fun c=>Ff c.toNat) with
  | false=>rw[hd] at hm;cases hm
  | true =>
   rw[hd] at hm
   obtain rfl:=Option.some.inj hm
   exact Ve rfl (by simp only[Ahu,hd])
open Go.RowKit Go.WideShapes
theorem A8l {P:Program} {w:World} {r:Reach} {base:Nat} {t:TypeId} {v:Value} {fs:Array Field} (ht:P.underlying t=some (.struct fs)) (h:Value.okWide P w r base t v):∃ cs,v=.agg cs:=by
 simp only[Value.okWide,ht] at h
 obtain⟨cs,rfl,_⟩:=h
 exact⟨cs,rfl⟩
structure Az where
 Ae:(List UInt8)
 Bk:Int
 B0:Int
 deriving DecidableEq,Inhabited
def Ak (x:Az):List AV:=[AV.str (x.Ae),AV.int .i64 (x.Bk),AV.int .i64 (x.B0)]
structure A0 where
 B1:Int
 Bk:Int
 Ae:(List UInt8)
 C2:(List UInt8)
 B0:Int
 deriving DecidableEq,Inhabited
def A1 (x:A0):List AV:=[AV.int .i64 (x.B1),AV.int .i64 (x.Bk),AV.str (x.Ae),AV.str (x.C2),AV.int .i64 (x.B0)]
def Y7 (l:(List A0)):List AV:=[AV.sl 5 (List.map A1 l)]
structure A2 where
 Ah:Int
 Bj:(List UInt8)
 Bg:(List UInt8)
 Bh:(List A0)
 Cg:(List A0)
 Cx:Bool
 Aq:Int
 Be:Int
 B0:Int
 deriving DecidableEq,Inhabited
def Al (x:A2):List AV:=[AV.int .i64 (x.Ah),AV.str (x.Bj),AV.str (x.Bg),AV.sl 5 (List.map A1 (x.Bh)),AV.sl 5 (List.map A1 (x.Cg)),AV.bool (x.Cx),AV.int .i64 (x.Aq),AV.int .i64 (x.Be),AV.int .i64 (x.B0)]
structure Ag where
 Ae:(List UInt8)
 Ay:(List (List UInt8))
 Aq:(List A2)
 B0:Int
 deriving DecidableEq,Inhabited
def A8 (x:Ag):List AV:=[AV.str (x.Ae),AV.sl 1 (List.map D6 (x.Ay)),AV.sl 9 (List.map Al (x.Aq)),AV.int .i64 (x.B0)]
structure Ai where
 Ah:Int
 Bh:(List A0)
 B0:Int
 deriving DecidableEq,Inhabited
def Af (x:Ai):List AV:=[AV.int .i64 (x.Ah),AV.sl 5 (List.map A1 (x.Bh)),AV.int .i64 (x.B0)]
structure Ar where
 B2:Int
 Ao:(List Az)
 A7:(List Ag)
 Ac:(List Ai)
 deriving DecidableEq,Inhabited
def A1g (x:Ar):List AV:=[AV.int .i64 (x.B2),AV.sl 3 (List.map Ak (x.Ao)),AV.sl 4 (List.map A8 (x.A7)),AV.sl 3 (List.map Af (x.Ac))]
structure A6 where
 Ah:Int
 Au:(List UInt8)
 Bk:Int
 B0:Int
 deriving DecidableEq,Inhabited
def A5 (x:A6):List AV:=[AV.int .i64 (x.Ah),AV.str (x.Au),AV.int .i64 (x.Bk),AV.int .i64 (x.B0)]
structure Bm where
 f_word:(List UInt8)
 f_form:(List UInt8)
 f_body:Bool
 f_more:Bool
 deriving DecidableEq,Inhabited
def A4j (x:Bm):List AV:=[AV.str (x.f_word),AV.str (x.f_form),AV.bool (x.f_body),AV.bool (x.f_more)]
def Ab (p:((List UInt8)×Int)):List AV:=[AV.str (p.1),AV.int .i64 (p.2)]
theorem Xb (l:List ((List UInt8)×Int)) (k:(List UInt8)) (z:Int):Fw (AV.int .i64 (z)) (List.map Ab l) (AV.str (k))=AV.int .i64 (Bc l k z):=Acm (ek:=fun x=>AV.str (x)) (ev:=fun x=>AV.int .i64 (x)) (c:=Ab) (fun _=>rfl) Ads k z l
theorem Xy (l:List ((List UInt8)×Int)) (k:(List UInt8)) (v:Int):N6 (List.map Ab l) (AV.str (k)) (AV.int .i64 (v))=List.map Ab (Rj l k v):=Age (ek:=fun x=>AV.str (x)) (ev:=fun x=>AV.int .i64 (x)) (c:=Ab) (fun _=>rfl) Ads k v l
theorem ls:(∀ {α β:Type} {f:α→β} {l:List α},(l.map f).length=l.length)∧(∀ {α β:Type} (f:α→β) (l:List α),List.take l.length (List.map f l)=List.map f l)∧Program.cellsOf Tryz.prog 36=1∧Program.cellsOf Tryz.prog 40=3∧Program.cellsOf Tryz.prog 42=5∧Program.cellsOf Tryz.prog 38=9∧Program.cellsOf Tryz.prog 35=4∧Program.cellsOf Tryz.prog 69=4∧Program.cellsOf Tryz.prog 44=3∧Program.cellsOf Tryz.prog 3=1∧Program.cellsOf Tryz.prog 116=4∧Program.cellsOf Tryz.prog 9=1∧Program.cellsOf Tryz.prog 5=1 :=
 ⟨List.length_map ..,Cu,by kernel_rfl,by kernel_rfl,by kernel_rfl,by kernel_rfl,by kernel_rfl,by kernel_rfl,by kernel_rfl,by kernel_rfl,by kernel_rfl,by kernel_rfl,by kernel_rfl⟩
theorem lt:(∀ {α β:Type} (f:α→β) (l:List α),List.take l.length (List.map f l)=List.map f l)∧Program.cellsOf Tryz.prog 36=1∧Program.cellsOf Tryz.prog 40=3∧Program.cellsOf Tryz.prog 42=5∧Program.cellsOf Tryz.prog 38=9∧Program.cellsOf Tryz.prog 35=4∧Program.cellsOf Tryz.prog 69=4∧Program.cellsOf Tryz.prog 44=3∧Program.cellsOf Tryz.prog 3=1∧Program.cellsOf Tryz.prog 116=4∧Program.cellsOf Tryz.prog 9=1∧Program.cellsOf Tryz.prog 5=1 :=
 ls.2
theorem cq {ρ:Type} {cont:Tm→Hp→Option ρ} {tm tm':Tm} {hp hp':Hp} {r:Option ρ} (h:cont tm' hp'=r) (h1:tm=tm':=by first | rfl | (simp only[ls]<;>rfl) | (simp only[ls,List.map_append,List.map_cons,List.map_nil,List.append_nil,List.length_set,Kn]<;>rfl)) (h2:hp=hp':=by first | rfl | (simp only[ls]<;>rfl) | (simp only[ls,List.map_append,List.map_cons,List.map_nil,List.append_nil,List.length_set,Kn]<;>rfl)):cont tm hp=r:=An4 h h1 h2
theorem kq {ρ:Type} {K:Ex→Tm→Hp→Option ρ} {e:Ex} {tm tm':Tm} {hp hp':Hp} {r:Option ρ} (h:K e tm' hp'=r) (h1:tm=tm':=by first | rfl | (simp only[ls]<;>rfl) | (simp only[ls,List.map_append,List.map_cons,List.map_nil,List.append_nil,List.length_set,Kn]<;>rfl)) (h2:hp=hp':=by first | rfl | (simp only[ls]<;>rfl) | (simp only[ls,List.map_append,List.map_cons,List.map_nil,List.append_nil,List.length_set,Kn]<;>rfl)):K e tm hp=r:=Ane h h1 h2
theorem fq {ρ:Type} {x y z:Option ρ} (h:x=y:=by first | rfl | (simp only[Kn,List.length_set]<;>rfl) | (simp only[ls]<;>rfl) | ((conv=>lhs;arg 1;arg 1;whnf);simp only[Ep];rfl) | (simp only[List.length_append,B3,List.map_append,List.map_cons,List.map_nil]<;>rfl)) (h2:y=z:=by first | rfl | (simp only[List.map_take,List.map_drop];done) | (simp only[List.map_take,List.map_drop]<;>rfl) | (simp only[ls,List.drop_zero,List.length_set,Kn]<;>rfl)):x=z:=h.trans h2
theorem c0:((0:Nat):Int)=0:=rfl
theorem rq {ρ:Type} {x z:Option ρ} (h:x=z:=by first | rfl | (simp only[ls]<;>rfl)):x=z:=h
abbrev iA (x:Int):AV:=.int .i64 x
abbrev bA (x:Bool):AV:=.bool x
abbrev sA (x:List UInt8):AV:=.str x
theorem sf {α:Type} {a r:α} {P:α→Prop} (h:some a=some r) (k:P a):P r:=Option.some.inj h ▸ k
theorem sj {α:Type} {a r:α} (h:some a=some r):a=r:=Option.some.inj h
theorem lq {ρ σ τ ν:Type} {body:Tm→Hp→(Ex→Tm→Hp→Option ρ)→Option ρ} {keep:Nat→List Nat} {h0:Nat} {K:Ex→Tm→Hp→Option ρ} {r:Option ρ} (id:Nat) (tmOf:σ→(Nat→Nat)→Tm) (hpOf:σ→(Nat→Nat)→Hp) (tmX:τ→(Nat→Nat)→Tm) (hpX:τ→(Nat→Nat)→Hp) (encR:ν→ρ) (L:Nat→σ→Option (LR τ ν)) (hL:∀ s,L 0 s=none) (o:LR τ ν) (n:Nat) (s:σ) (a:Nat→Nat) {tm:Tm} {hp:Hp} (h:L n s=some o)
 (hround:∀ (k:Nat) (s:σ) (a:Nat→Nat) (K':Ex→Tm→Hp→Option ρ) (cont:Tm→Hp→Option ρ),(∀ tm hp,K' .ret tm hp=K .ret tm hp)→(∀ s' a',L k s'=some o→cont (tmOf s' a') (hpOf s' a')=r)→L (k+1) s=some o→Adr K' id tmX hpX encR r o →
  Fg force (fun tm=>C5 (fun hp=>body tm hp (fun e tm hp=>Fg force (fun tm=>C5 (fun hp=>match e with
   | .normal=>cont tm hp
   | .exit id=>K' (.exit id) tm hp
   | .ret=>K' .ret tm hp) (Hb h0 hp)) (X0 (keep (A6t e)) h0 hp 0 tm))) (hpOf s a)) (tmOf s a)=r)
 (hx:Adr K id tmX hpX encR r o)
 (h1:tm=tmOf s a:=by first | rfl | (simp only[ls]<;>rfl) | (simp only[ls,List.map_append,List.map_cons,List.map_nil,List.append_nil,List.length_set,Kn]<;>rfl)) (h2:hp=hpOf s a:=by first | rfl | (simp only[ls]<;>rfl) | (simp only[ls,List.map_append,List.map_cons,List.map_nil,List.append_nil,List.length_set,Kn]<;>rfl)):rounds body keep h0 n tm hp K=r :=
 Agk id tmOf hpOf tmX hpX encR L hL o hround n s a tm hp h hx h1 h2
theorem lrc {ρ τ ν:Type} {K:Ex→Tm→Hp→Option ρ} {id:Nat} {tmX:τ→(Nat→Nat)→Tm} {hpX:τ→(Nat→Nat)→Hp} {encR:ν→ρ} {r:Option ρ} {o:LR τ ν} (h1:∀ v,o=.ret v→r=some (encR v)) (h2:∀ t a,o=.out t→K (.exit id) (tmX t a) (hpX t a)=r):Adr K id tmX hpX encR r o:=by
 cases o with
 | out t=>exact fun a=>h2 t a rfl
 | ret v=>exact h1 v rfl
theorem nn {α:Type} {r:α} {P:Prop}:(none:Option α)=some r→P:=fun h=>by cases h
theorem Abf {α:Type} {c:Bool} {a:Option α} {r:α} {G:Prop} (h1:c=true→a=some r→G):(bif c then a else none)=some r→G:=fun h=>Ad h h1
theorem br {α ρ:Type} {c:Bool} {a b:Option α} {r:α} {L L1 L2 R:ρ} (k1:a=some r→L1=R) (k2:b=some r→L2=R) (w1:c=true→L=L1:=by(intro hc;simp only[hc,ls];(conv=>lhs;whnf);try exact rfl)) (w2:c=false→L=L2:=by(intro hc;simp only[hc,ls];(conv=>lhs;whnf);try exact rfl)):(bif c then a else b)=some r→L=R:=by
 cases c
 ·exact fun h=>(w2 rfl).trans (k2 h)
 ·exact fun h=>(w1 rfl).trans (k1 h)
theorem bt {α ρ:Type} {c:Bool} {a:Option α} {r:α} {L L1 R:ρ} (k1:a=some r→L1=R) (w1:c=true→L=L1:=by(intro hc;simp only[hc,ls];(conv=>lhs;whnf);try exact rfl)):(bif c then a else none)=some r→L=R:=by
 cases c
 ·exact fun h=>nn h
 ·exact fun h=>(w1 rfl).trans (k1 h)
theorem cp {α ρ:Type} {c:Bool} {a:Option α} {r:α} {L L1 R:ρ} (k1:a=some r→L1=R) (w1:c=true→∀ q,L1=q→L=q:=by(intro hc q hq;refine Am hc ?_;(try simp only[ls]);(conv=>lhs;whnf);exact hq)):(bif c then a else none)=some r→L=R:=Abf fun hc h=>w1 hc _ (k1 h)
theorem cn {α ρ:Type} {c:Bool} {a:Option α} {r:α} {L L1 R:ρ} (k1:a=some r→L1=R) (w1:c=true→∀ q,L1=q→L=q:=by(intro hc q hq;refine Am (Anj hc (by simp only[B3,Cu]) (by kernel_rfl)) ?_;(try simp only[ls]);(conv=>lhs;whnf);exact hq)):(bif c then a else none)=some r→L=R:=Abf fun hc h=>w1 hc _ (k1 h)
theorem sl {α:Type} (f:α→List AV) (l:List α) (i j:Nat):List.drop i (List.take j (List.map f l))=List.map f (List.drop i (List.take j l)):=by rw[List.map_drop,List.map_take]
theorem cs {α ρ:Type} {c:Bool} {a:Option α} {r:α} {E:Prop} {L L1 R:ρ} (e:E) (k1:a=some r→L1=R) (w1:c=true→E→∀ q,L1=q→L=q:=by(intro hc he q hq;(try simp only[ls]);refine Am hc ?_;simp only[he,ls];(conv=>lhs;whnf);exact hq)):(bif c then a else none)=some r→L=R:=Abf fun hc h=>w1 hc e _ (k1 h)
theorem ixs {β ρ:Type} {l:List UInt8} {i:Int} {g:UInt8→Option β} {r:β} {L:ρ} {L1:UInt8→ρ} {R:ρ} (k:∀ x,g x=some r→L1 x=R) (w:∀ x,idx l i=some x→∀ q,L1 x=q→L=q:=by(intro x hx q hq;refine Am (Fh hx) ?_;simp only[Anx hx,ls];(conv=>lhs;whnf);exact hq)):(idx l i).bind g=some r→L=R:=fun h=>Av h fun x hx h2=>w x hx _ (k x h2)
theorem ix {α β ρ:Type} {l:List α} {i:Int} {g:α→Option β} {r:β} {L:ρ} {L1:α→ρ} {R:ρ} (k:∀ x,g x=some r→L1 x=R) (w:∀ x,idx l i=some x→∀ q,L1 x=q→L=q:=by(intro x hx q hq;refine Am (by first | exact Fh hx | exact T1 hx | (have z:=Fh hx;simp only[ls] at z ⊢;exact z)) ?_;simp only[Kp hx,ls];(conv=>lhs;whnf);exact hq)):(idx l i).bind g=some r→L=R:=fun h=>Av h fun x hx h2=>w x hx _ (k x h2)
theorem ca {α β ρ:Type} {P:Program} {H:Bu} {X:Ext} {call:Ct} {n:Nat} {m:Option α} {g:α→Option β} {r:β} {f:FuncId} {a:List AV} {p:Hp} {v:α→Option (AV×Hp)} {L:ρ} {L1:α→ρ} {R:ρ} (hc:∀ g l h,call false g l h=I2 P H X n g l h) (hk:∀ y,m=some y→I2 P H X n f a p=v y) (k:∀ y,g y=some r→L1 y=R) (w:∀ y,call false f a p=v y→L=L1 y:=by(intro y hk;(first | simp only[hk] | rewrite[hk] | (simp only[ls];simp only[hk]));(conv=>lhs;whnf);try exact rfl)):m.bind g=some r→L=R:=fun h=>Av h fun y hy h2=>(w y ((hc _ _ _).trans (hk y hy))).trans (k y h2)
theorem tw {α β ρ:Type} {P:Program} {H:Bu} {X:Ext} {call:Ct} {n:Nat} {m:Option α} {g:α→Option β} {r:β} {f:FuncId} {a:List AV} {v v':α→Option (AV×Hp)} {L:ρ} {L1:α→ρ} {R:ρ} (hc:∀ g l h,call false g l h=I2 P H X n g l h) (hk:∀ y,m=some y→I2 P H X n f a []=v y) (ht:∀ y,call false f a []=v y→Wn P true call f a=v' y) (k:∀ y,g y=some r→L1 y=R) (w:∀ y,(∀ b,b=true→Wn P b call f a=v' y)→L=L1 y:=by(intro y hk;(try simp only[ls]);(rewrite[hk];rotate_left;(first | rfl | kernel_rfl));(try simp only[ls]);(conv=>lhs;whnf);try exact rfl)):m.bind g=some r→L=R:=fun h=>Av h fun y hy h2=>(w y (fun b hb=>by subst hb;exact ht y ((hc _ _ _).trans (hk y hy)))).trans (k y h2)
theorem nb {γ α ρ:Type} {l:List γ} {a b:Option α} {r:α} {L L1 L2 R:ρ} (k1:a=some r→L1=R) (k2:b=some r→L2=R) (w1:l=[]→L=L1:=by(intro hc;simp only[hc,ls,List.map_nil];(conv=>lhs;whnf);try exact rfl)) (w2:decide (l.length=0)=false→L=L2:=by(intro hc;simp only[hc,ls];(conv=>lhs;whnf);try exact rfl)):(bif decide (l.length=0) then a else b)=some r→L=R:=by
 by_cases h:l.length=0
 ·rw[decide_eq_true h];exact fun e=>(w1 (List.eq_nil_of_length_eq_zero h)).trans (k1 e)
 ·rw[decide_eq_false h];exact fun e=>(w2 (decide_eq_false h)).trans (k2 e)
theorem rj {α β ρ:Type} {m:Option α} {k:α→Option β} {r:β} {run:(Tm→Hp→Option ρ)→Option ρ} {K:Tm→Hp→Option ρ} {R:Option ρ} (T:α→Tm) (hp:α→Hp) (h1:∀ (K:Tm→Hp→Option ρ) b,m=some b→run K=K (T b) (hp b)) (h2:∀ b,k b=some r→K (T b) (hp b)=R):m.bind k=some r→A67 run K=R:=fun h=>Av h fun b hb hk=>(Ae8 run K).trans ((h1 K b hb).trans (h2 b hk))
theorem cr {α β ρ:Type} {P:Program} {H:Bu} {X:Ext} {call:Ct} {n:Nat} {m:Option α} {g:α→Option β} {r:β} {f:FuncId} {a:List AV} {p:Hp} {v:α→Option (AV×Hp)} {L:ρ} {L1:α→ρ} {R:ρ} (hc:∀ g l h,call false g l h=I2 P H X n g l h) (hk:∀ y,m=some y→I2 P H X n f a p=v y) (k:∀ y,g y=some r→L1 y=R) (w:∀ y,call false f a p=v y→L=L1 y:=by(intro y hk;(try simp only[List.length_nil,List.map_nil] at hk);(try simp only[List.length_nil,List.map_nil]);(first | ((try simp only[ls]);simp only[hk]) | ((try simp only[List.drop_zero] at hk);(try simp only[List.drop_zero,ls]);simp only[hk]) | simp only[hk] | rewrite[hk]);(try simp only[ls]);(conv=>lhs;whnf);try exact rfl)):m.bind g=some r→L=R:=ca hc hk k w
theorem ap {α:Type} (f:α→List AV) (a:List (List AV)) (l:List α) (y:List (List AV)) (m:List α) (ha:a=List.map f l:=by rfl) (hy:y=List.map f m:=by rfl):a++y=List.map f (l++m)∧a.length+y.length=(l++m).length∧l.length+y.length=(l++m).length∧l.length+m.length=(l++m).length∧a.length+m.length=(l++m).length:=by
 subst ha;subst hy;simp
theorem ar {α ρ:Type} {c:Bool} {a:Option α} {r:α} {E:Prop} {L L1 R:ρ} (e:E) (k1:a=some r→L1=R) (w1:c=true→E→∀ q,L1=q→L=q:=by(intro hc he q hq;(first | refine Am (Zk hc (by first | rfl | simp only[B3]) (by first | rfl | simp only[B3]) (by first | rfl | simp only[B3,Cu]) (by kernel_rfl)) ?_ | refine Am (X8 hc (by first | rfl | simp only[B3]) (by first | rfl | simp only[B3,Cu]) (by kernel_rfl)) ?_ | skip);(try simp only[lt]);(try simp only[he]);(try simp only[ls,c0]);(try simp only[he]);(try simp only[ls]);(conv=>lhs;whnf);exact hq)):(bif c then a else none)=some r→L=R:=Abf fun hc h=>w1 hc e _ (k1 h)
theorem rz {α ρ:Type} {a r:α} {L R:ρ} (k:a=r→L=R:=by(intro e;cases e;first | rfl | (simp only[ls]<;>rfl))):some a=some r→L=R:=fun h=>k (sj h)
theorem Ao9 {α:Type} {r:Rd α} {enc:α→List AV} (he:Enc r enc) {W:World} {cs:Array Value} {x:α} (h:r.rel W (Value.agg cs).cells.toList x):Rep (SAll W) W [] [] (.agg (enc x)) (.agg cs):=by
 obtain⟨h1,h2⟩:=he _ _ _ h
 cases cs
 exact .agg _ _ _ _ h1 h2
theorem Aqw {a b:List UInt8} (h:bs a=bs b):a=b:=by
 have:=congrArg (fun x:ByteArray=>x.data.toList) h
 simpa [bs] using this
def Fq:Rd (List UInt8):=Ah6
theorem Q7:Hg Tryz.prog 9 Fq:=Aj8 Tryz.underlying9 (by kernel_rfl)
theorem Ql:Enc Fq D6:=Anr
def Ek:Rd Int:=Ac7 .i64
theorem Gj:Hg Tryz.prog 3 Ek:=Ajj Tryz.underlying3 (by kernel_rfl)
theorem Gx:Enc Ek Cz:=Ana _
def J6:Rd Az:=Vp (fun x=>⟨x.1,x.2.1,x.2.2⟩) (E0 Fq (E0 Ek Ek))
theorem Aid:Hg Tryz.prog 44 J6:=T8 _ (Oc Tryz.underlying44 (by kernel_rfl) (Cp rfl Q7 (Cp rfl Gj (Ra rfl Gj) (by decide)) (by decide)))
theorem Ai0:Enc J6 Ak:=Ws (fun _=>rfl) (Dr Ql (Dr Gx Gx))
def Vm:Rd (List Az):=Kw J6
theorem Aag:Hg Tryz.prog 22 Vm:=Pe Tryz.underlying22 (by kernel_rfl) Aid (by decide)
theorem Aa2:Enc Vm (fun l=>[AV.sl 3 (l.map Ak)]):=T5 Ai0
def Xj:Rd (List (List UInt8)):=Kw Fq
theorem Ae6:Hg Tryz.prog 32 Xj:=Pe Tryz.underlying32 (by kernel_rfl) Q7 (by decide)
theorem Abj:Enc Xj (fun l=>[AV.sl 1 (l.map D6)]):=T5 Ql
def Dp:Rd A0:=Vp (fun x=>⟨x.1,x.2.1,x.2.2.1,x.2.2.2.1,x.2.2.2.2⟩) (E0 Ek (E0 Ek (E0 Fq (E0 Fq Ek))))
theorem Aey:Hg Tryz.prog 42 Dp:=T8 _ (Oc Tryz.underlying42 (by kernel_rfl) (Cp rfl Gj (Cp rfl Gj (Cp rfl Q7 (Cp rfl Q7 (Ra rfl Gj) (by decide)) (by decide)) (by decide)) (by decide)))
theorem Afh:Enc Dp A1:=Ws (fun _=>rfl) (Dr Gx (Dr Gx (Dr Ql (Dr Ql Gx))))
def O4:Rd (List A0):=Kw Dp
theorem Uh:Hg Tryz.prog 36 O4:=Pe Tryz.underlying36 (by kernel_rfl) Aey (by decide)
theorem Us:Enc O4 (fun l=>[AV.sl 5 (l.map A1)]):=T5 Afh
def A8y:Rd Bool:=A7k
theorem Ani:Hg Tryz.prog 4 A8y:=Ah8 Tryz.underlying4 (by kernel_rfl)
theorem Amy:Enc A8y Apq:=Al3
def Kd:Rd A2:=Vp (fun x=>⟨x.1,x.2.1,x.2.2.1,x.2.2.2.1,x.2.2.2.2.1,x.2.2.2.2.2.1,x.2.2.2.2.2.2.1,x.2.2.2.2.2.2.2.1,x.2.2.2.2.2.2.2.2⟩) (E0 Ek (E0 Fq (E0 Fq (E0 O4 (E0 O4 (E0 A8y (E0 Ek (E0 Ek Ek))))))))
theorem Afa:Hg Tryz.prog 38 Kd:=T8 _ (Oc Tryz.underlying38 (by kernel_rfl) (Cp rfl Gj (Cp rfl Q7 (Cp rfl Q7 (Cp rfl Uh (Cp rfl Uh (Cp rfl Ani (Cp rfl Gj (Cp rfl Gj (Ra rfl Gj) (by decide)) (by decide)) (by decide)) (by decide)) (by decide)) (by decide)) (by decide)) (by decide)))
theorem Af1:Enc Kd Al:=Ws (fun _=>rfl) (Dr Gx (Dr Ql (Dr Ql (Dr Us (Dr Us (Dr Amy (Dr Gx (Dr Gx Gx))))))))
def Uj:Rd (List A2):=Kw Kd
theorem A7s:Hg Tryz.prog 33 Uj:=Pe Tryz.underlying33 (by kernel_rfl) Afa (by decide)
theorem A8n:Enc Uj (fun l=>[AV.sl 9 (l.map Al)]):=T5 Af1
def Es:Rd Ag:=Vp (fun x=>⟨x.1,x.2.1,x.2.2.1,x.2.2.2⟩) (E0 Fq (E0 Xj (E0 Uj Ek)))
theorem Aay:Hg Tryz.prog 35 Es:=T8 _ (Oc Tryz.underlying35 (by kernel_rfl) (Cp rfl Q7 (Cp rfl Ae6 (Cp rfl A7s (Ra rfl Gj) (by decide)) (by decide)) (by decide)))
theorem Aad:Enc Es A8:=Ws (fun _=>rfl) (Dr Ql (Dr Abj (Dr A8n Gx)))
def Sn:Rd (List Ag):=Kw Es
theorem A4q:Hg Tryz.prog 23 Sn:=Pe Tryz.underlying23 (by kernel_rfl) Aay (by decide)
theorem A4y:Enc Sn (fun l=>[AV.sl 4 (l.map A8)]):=T5 Aad
def Fv:Rd Ai:=Vp (fun x=>⟨x.1,x.2.1,x.2.2⟩) (E0 Ek (E0 O4 Ek))
theorem Ad5:Hg Tryz.prog 40 Fv:=T8 _ (Oc Tryz.underlying40 (by kernel_rfl) (Cp rfl Gj (Cp rfl Uh (Ra rfl Gj) (by decide)) (by decide)))
theorem Aed:Enc Fv Af:=Ws (fun _=>rfl) (Dr Gx (Dr Us Gx))
def Tj:Rd (List Ai):=Kw Fv
theorem A77:Hg Tryz.prog 24 Tj:=Pe Tryz.underlying24 (by kernel_rfl) Ad5 (by decide)
theorem A71:Enc Tj (fun l=>[AV.sl 3 (l.map Af)]):=T5 Aed
def Pi:Rd Ar:=Vp (fun x=>⟨x.1,x.2.1,x.2.2.1,x.2.2.2⟩) (E0 Ek (E0 Vm (E0 Sn Tj)))
theorem Afm:Hg Tryz.prog 26 Pi:=T8 _ (Oc Tryz.underlying26 (by kernel_rfl) (Cp rfl Gj (Cp rfl Aag (Cp rfl A4q (Ra rfl A77) (by decide)) (by decide)) (by decide)))
theorem Af9:Enc Pi A1g:=Ws (fun _=>rfl) (Dr Gx (Dr Aa2 (Dr A4y A71)))
set_option maxHeartbeats 4000000
noncomputable abbrev CN:=I2 Tryz.prog HH XT
def Gy:Nat→Int→Option (List UInt8)
 | 0,_=>none
 | n+1,Bv=>(bif decide (Bv<10) then(some ([UInt8.ofNat (IntKind.u8.wrap (IntKind.i64.wrap (48+Bv))).toNat]:List UInt8)) else(((Gy n) (IntKind.i64.wrap (Int.tdiv Bv 10))).bind fun y2=>(bif decide (y2.length+(([UInt8.ofNat (IntKind.u8.wrap (IntKind.i64.wrap (48+(Int.tmod Bv 10)))).toNat]:List UInt8)).length≤140737488355328) then(some (y2++([UInt8.ofNat (IntKind.u8.wrap (IntKind.i64.wrap (48+(Int.tmod Bv 10)))).toNat]:List UInt8))) else none)))
def Sf:Nat→Option (List (List UInt8))
 | 0=>none
 | n+1=>(some ([([109,111,100]:List UInt8),([108,111,99]:List UInt8),([116,104,114,101,97,100]:List UInt8),([114,101,103]:List UInt8),([115,107,105,112]:List UInt8),([115,101,116]:List UInt8),([108,111,97,100]:List UInt8),([115,116,111,114,101]:List UInt8),([99,97,115]:List UInt8),([102,97,100,100]:List UInt8),([120,99,104,103]:List UInt8),([102,101,110,99,101]:List UInt8),([97,119,97,105,116]:List UInt8),([105,102]:List UInt8),([101,108,115,101]:List UInt8),([119,104,105,108,101]:List UInt8),([108,111,111,112]:List UInt8),([98,114,101,97,107]:List UInt8),([102,111,114,97,108,108]:List UInt8),([101,120,105,115,116,115]:List UInt8),([97,108,119,97,121,115]:List UInt8)]:List (List UInt8)))
def Dz (n:Nat)  (Bi:(List UInt8)) (y1:(List (List UInt8))):Nat→Int→Option (LR Unit Bool)
 | 0,_=>none
 | k4+1,s3=>(bif decide (s3<((y1.length:Nat):Int)) then((idx y1 s3).bind fun x13=>(bif (x13==Bi) then(some (.ret true)) else(Dz n Bi y1 k4 (IntKind.i64.wrap (s3+1))))) else(some (.out ())))
def N4:Nat→(List UInt8)→Option Bool
 | 0,_=>none
 | n+1,Bi=>((Sf n ).bind fun y1=>((Dz n Bi y1 n 0).bind fun o11=>match o11 with|.out _=>(some false)|.ret v=>some v))
def P1:Nat→Int→Option Bool
 | 0,_=>none
 | n+1,Cy=>(bif decide (48≤Cy) then(some (decide (Cy≤57))) else(some false))
def Le:Nat→Int→Option Bool
 | 0,_=>none
 | n+1,Cy=>(bif decide (97≤Cy) then(bif decide (Cy≤122) then(some true) else(bif decide (65≤Cy) then(bif decide (Cy≤90) then(some true) else(some (Cy==95))) else(some (Cy==95)))) else(bif decide (65≤Cy) then(bif decide (Cy≤90) then(some true) else(some (Cy==95))) else(some (Cy==95))))
def G8 (n:Nat)  (Bi:(List UInt8)):Nat→Int→Option (LR Unit Bool)
 | 0,_=>none
 | k11+1,s10=>(bif decide (s10<((Bi.length:Nat):Int)) then((idx Bi s10).bind fun x20=>((Le n (x20.toNat:Int)).bind fun y21=>(bif y21 then(G8 n Bi k11 (IntKind.i64.wrap (s10+1))) else((idx Bi s10).bind fun x24=>((P1 n (x24.toNat:Int)).bind fun y25=>(bif y25 then(G8 n Bi k11 (IntKind.i64.wrap (s10+1))) else(some (.ret false)))))))) else(some (.out ())))
def Du:Nat→(List UInt8)→Option Bool
 | 0,_=>none
 | n+1,Bi=>(bif decide (((Bi.length:Nat):Int)<1) then(some false) else(bif decide (16<((Bi.length:Nat):Int)) then(some false) else((idx Bi 0).bind fun x3=>((Le n (x3.toNat:Int)).bind fun y4=>(bif y4 then((N4 n Bi).bind fun y7=>(bif y7 then(some false) else((G8 n Bi n 0).bind fun o18=>match o18 with|.out _=>(some true)|.ret v=>some v))) else(some false))))))
def Xh:Nat→Int→Option Bool
 | 0,_=>none
 | n+1,Cy=>(bif decide (48≤Cy) then(some (decide (Cy≤57))) else(some false))
def Vn:Nat→Int→Option Bool
 | 0,_=>none
 | n+1,Cy=>(bif decide (97≤Cy) then(bif decide (Cy≤122) then(some true) else(bif decide (65≤Cy) then(bif decide (Cy≤90) then(some true) else(some (Cy==95))) else(some (Cy==95)))) else(bif decide (65≤Cy) then(bif decide (Cy≤90) then(some true) else(some (Cy==95))) else(some (Cy==95))))
def Yq:Nat→(List UInt8)→Option Int
 | 0,_=>none
 | n+1,Bi=>(bif decide (2≤((Bi.length:Nat):Int)) then(bif (decide (0≤2)&&decide (2≤((Bi.length:Nat):Int))) then(bif ((List.drop 0 (List.take ((2:Int).toNat) Bi))==([61,61]:List UInt8)) then(some 2) else(bif ((List.drop 0 (List.take ((2:Int).toNat) Bi))==([33,61]:List UInt8)) then(some 2) else(bif ((List.drop 0 (List.take ((2:Int).toNat) Bi))==([60,61]:List UInt8)) then(some 2) else(bif ((List.drop 0 (List.take ((2:Int).toNat) Bi))==([38,38]:List UInt8)) then(some 2) else(bif ((List.drop 0 (List.take ((2:Int).toNat) Bi))==([124,124]:List UInt8)) then(some 2) else((idx Bi 0).bind fun x8=>(bif ((x8.toNat:Int)==59) then(some 1) else(bif ((x8.toNat:Int)==44) then(some 1) else(bif ((x8.toNat:Int)==123) then(some 1) else(bif ((x8.toNat:Int)==125) then(some 1) else(bif ((x8.toNat:Int)==40) then(some 1) else(bif ((x8.toNat:Int)==41) then(some 1) else(bif ((x8.toNat:Int)==46) then(some 1) else(bif ((x8.toNat:Int)==61) then(some 1) else(bif ((x8.toNat:Int)==43) then(some 1) else(bif ((x8.toNat:Int)==45) then(some 1) else(bif ((x8.toNat:Int)==42) then(some 1) else(bif ((x8.toNat:Int)==33) then(some 1) else(bif ((x8.toNat:Int)==60) then(some 1) else(some 0)))))))))))))))))))) else none) else((idx Bi 0).bind fun x22=>(bif ((x22.toNat:Int)==59) then(some 1) else(bif ((x22.toNat:Int)==44) then(some 1) else(bif ((x22.toNat:Int)==123) then(some 1) else(bif ((x22.toNat:Int)==125) then(some 1) else(bif ((x22.toNat:Int)==40) then(some 1) else(bif ((x22.toNat:Int)==41) then(some 1) else(bif ((x22.toNat:Int)==46) then(some 1) else(bif ((x22.toNat:Int)==61) then(some 1) else(bif ((x22.toNat:Int)==43) then(some 1) else(bif ((x22.toNat:Int)==45) then(some 1) else(bif ((x22.toNat:Int)==42) then(some 1) else(bif ((x22.toNat:Int)==33) then(some 1) else(bif ((x22.toNat:Int)==60) then(some 1) else(some 0))))))))))))))))
def Ev (n:Nat)  (Bi:(List UInt8)):Nat→Int→(List A6)→Option (LR (List A6) ((List A6)×Int×Int))
 | 0,_,_=>none
 | k4+1,s2,s3=>(bif decide (s2<((Bi.length:Nat):Int)) then(bif (decide (0≤s2)&&decide (s2≤((Bi.length:Nat):Int))) then((idx (List.drop (s2.toNat) (List.take (Bi.length) Bi)) 0).bind fun x14=>(bif ((IntKind.i32.wrap ((x14.toNat:Int)))==32) then(Ev n Bi k4 (IntKind.i64.wrap (s2+1)) s3) else(bif ((IntKind.i32.wrap ((x14.toNat:Int)))==9) then(Ev n Bi k4 (IntKind.i64.wrap (s2+1)) s3) else(bif ((IntKind.i32.wrap ((x14.toNat:Int)))==10) then(Ev n Bi k4 (IntKind.i64.wrap (s2+1)) s3) else(bif ((IntKind.i32.wrap ((x14.toNat:Int)))==13) then(Ev n Bi k4 (IntKind.i64.wrap (s2+1)) s3) else(bif ((IntKind.i32.wrap ((x14.toNat:Int)))==35) then((Rv n (List.drop (s2.toNat) (List.take (Bi.length) Bi))).bind fun y20=>(Ev n Bi k4 (IntKind.i64.wrap (s2+y20)) s3)) else((Vn n (IntKind.i32.wrap ((x14.toNat:Int)))).bind fun y22=>(bif y22 then((Rr n (List.drop (s2.toNat) (List.take (Bi.length) Bi))).bind fun y25=>(bif decide (16<y25) then(some (.ret (([]:List A6),2,s2))) else(bif (decide (0≤y25)&&decide (y25≤((((List.drop (s2.toNat) (List.take (Bi.length) Bi))).length:Nat):Int))) then(bif decide ((s3.length+1)*41≤140737488355328) then(Ev n Bi k4 (IntKind.i64.wrap (s2+((((List.drop 0 (List.take (y25.toNat) (List.drop (s2.toNat) (List.take (Bi.length) Bi))))).length:Nat):Int))) (s3++([(⟨1,(List.drop 0 (List.take (y25.toNat) (List.drop (s2.toNat) (List.take (Bi.length) Bi)))),0,s2⟩:A6)]:List A6))) else none) else none))) else((Xh n (IntKind.i32.wrap ((x14.toNat:Int)))).bind fun y31=>(bif y31 then((Sw n (List.drop (s2.toNat) (List.take (Bi.length) Bi))).bind fun y34=>(bif (decide (0≤y34)&&decide (y34≤((((List.drop (s2.toNat) (List.take (Bi.length) Bi))).length:Nat):Int))) then(bif (decide (0≤y34)&&decide (y34≤((((List.drop (s2.toNat) (List.take (Bi.length) Bi))).length:Nat):Int))) then((Wv n (List.drop 0 (List.take (y34.toNat) (List.drop (s2.toNat) (List.take (Bi.length) Bi))))).bind fun y38=>(bif decide (9999<y38) then(some (.ret (([]:List A6),4,s2))) else(bif decide ((s3.length+1)*41≤140737488355328) then(Ev n Bi k4 (IntKind.i64.wrap (s2+((((List.drop 0 (List.take (y34.toNat) (List.drop (s2.toNat) (List.take (Bi.length) Bi))))).length:Nat):Int))) (s3++([(⟨2,(List.drop 0 (List.take (y34.toNat) (List.drop (s2.toNat) (List.take (Bi.length) Bi)))),y38,s2⟩:A6)]:List A6))) else none))) else none) else none)) else((Yq n (List.drop (s2.toNat) (List.take (Bi.length) Bi))).bind fun y43=>(bif (y43==0) then(some (.ret (([]:List A6),3,s2))) else(bif (decide (0≤y43)&&decide (y43≤((((List.drop (s2.toNat) (List.take (Bi.length) Bi))).length:Nat):Int))) then(bif decide ((s3.length+1)*41≤140737488355328) then(Ev n Bi k4 (IntKind.i64.wrap (s2+((((List.drop 0 (List.take (y43.toNat) (List.drop (s2.toNat) (List.take (Bi.length) Bi))))).length:Nat):Int))) (s3++([(⟨3,(List.drop 0 (List.take (y43.toNat) (List.drop (s2.toNat) (List.take (Bi.length) Bi)))),0,s2⟩:A6)]:List A6))) else none) else none))))))))))))) else none) else(some (.out s3)))
def Yr:Nat→(List UInt8)→Option ((List A6)×Int×Int)
 | 0,_=>none
 | n+1,Bi=>(bif decide (20000<((Bi.length:Nat):Int)) then(some (([]:List A6),2,20000)) else((Ev n Bi n 0 ([]:List A6)).bind fun o11=>match o11 with|.out x50=>(some (x50,0,0))|.ret v=>some v))
def Kj:Nat→Int→Option Int
 | 0,_=>none
 | n+1,Cq=>(bif decide (1≤Cq) then(bif decide (Cq≤4) then(some 0) else(bif (Cq==5) then(some 1) else(bif decide (6≤Cq) then(bif decide (Cq≤14) then(some 2) else(some (-1))) else(some (-1))))) else(bif (Cq==5) then(some 1) else(bif decide (6≤Cq) then(bif decide (Cq≤14) then(some 2) else(some (-1))) else(some (-1)))))
def Hv (n:Nat)  (Aa:(List A0)):Nat→Int→Int→Option (LR Unit Int)
 | 0,_,_=>none
 | k4+1,s2,s3=>(bif decide (s3<((Aa.length:Nat):Int)) then((idx Aa s3).bind fun x13=>((Kj n x13.B1).bind fun y14=>(bif decide (y14<0) then(some (.ret (-1))) else(bif ((IntKind.i64.wrap ((IntKind.i64.wrap (s2 - 1))+y14))==0) then(some (.ret (IntKind.i64.wrap (s3+1)))) else(Hv n Aa k4 (IntKind.i64.wrap ((IntKind.i64.wrap (s2 - 1))+y14)) (IntKind.i64.wrap (s3+1))))))) else(some (.out ())))
def Nf:Nat→(List A0)→Int→Option Int
 | 0,_,_=>none
 | n+1,Aa,C3=>(bif decide (C3<0) then(some (-1)) else((Hv n Aa n 1 C3).bind fun o11=>match o11 with|.out _=>(some (-1))|.ret v=>some v))
def Gp (n:Nat)  (Aa:(List A0)):Nat→Int→Option (LR Unit Bool)
 | 0,_=>none
 | k3+1,s2=>(bif decide (s2<((Aa.length:Nat):Int)) then((idx Aa s2).bind fun x12=>(bif decide (100<((x12.Ae.length:Nat):Int)) then(some (.ret false)) else((idx Aa s2).bind fun x14=>(bif decide (100<((x14.C2.length:Nat):Int)) then(some (.ret false)) else(Gp n Aa k3 (IntKind.i64.wrap (s2+1))))))) else(some (.out ())))
def Kv:Nat→(List A0)→Option Bool
 | 0,_=>none
 | n+1,Aa=>(bif decide (250<((Aa.length:Nat):Int)) then(some false) else((Gp n Aa n 0).bind fun o10=>match o10 with|.out _=>(some true)|.ret v=>some v))
def Ds (n:Nat)  (Aa:(List A0)):Nat→Int→(List A0)→Option (LR (List A0) (List A0))
 | 0,_,_=>none
 | k3+1,s1,s2=>(bif decide (s1<((Aa.length:Nat):Int)) then((idx Aa s1).bind fun x12=>(bif (x12.B1==2) then((idx Aa s1).bind fun x14=>(bif decide ((s2.length+1)*57≤140737488355328) then(Ds n Aa k3 (IntKind.i64.wrap (s1+1)) (s2++([x14]:List A0))) else none)) else((idx Aa s1).bind fun x17=>(bif (x17.B1==3) then((idx Aa s1).bind fun x19=>(bif decide ((s2.length+1)*57≤140737488355328) then(Ds n Aa k3 (IntKind.i64.wrap (s1+1)) (s2++([x19]:List A0))) else none)) else((idx Aa s1).bind fun x22=>(bif (x22.B1==4) then((idx Aa s1).bind fun x24=>(bif decide ((s2.length+1)*57≤140737488355328) then(Ds n Aa k3 (IntKind.i64.wrap (s1+1)) (s2++([x24]:List A0))) else none)) else(Ds n Aa k3 (IntKind.i64.wrap (s1+1)) s2))))))) else(some (.out s2)))
def Ml:Nat→(List A0)→Option (List A0)
 | 0,_=>none
 | n+1,Aa=>((Ds n Aa n 0 ([]:List A0)).bind fun o10=>match o10 with|.out x28=>(some x28)|.ret v=>some v)
def Ez (n:Nat) (rec_ref02_deep:(List A0)→Int→Option Int) (Aa:(List A0)) (C3:Int):Nat→Int→Int→Int→Option (LR Int Int)
 | 0,_,_,_=>none
 | k4+1,s1,s2,s3=>((idx Aa C3).bind fun x12=>((Kj n x12.B1).bind fun y13=>(bif decide (s3<y13) then((rec_ref02_deep Aa s2).bind fun y16=>((Nf n Aa s2).bind fun y18=>(Ez n rec_ref02_deep Aa C3 k4 (if s1<(IntKind.i64.wrap (1+y16)) then(IntKind.i64.wrap (1+y16)) else s1) y18 (IntKind.i64.wrap (s3+1))))) else(some (.out s1)))))
def Fy:Nat→(List A0)→Int→Option Int
 | 0,_,_=>none
 | n+1,Aa,C3=>((Ez n (Fy n) Aa C3 n 0 (IntKind.i64.wrap (C3+1)) 0).bind fun o11=>match o11 with|.out x21=>(some x21)|.ret v=>some v)
def Qj:Nat→A0→Option Bool
 | 0,_=>none
 | n+1,Aj=>(bif decide (Aj.B0<0) then(some false) else(bif (Aj.B1==1) then(bif decide (0≤Aj.Bk) then(bif decide (Aj.Bk≤9999) then(bif (Aj.Ae==([]:List UInt8)) then(some (Aj.C2==([]:List UInt8))) else(some false)) else(some false)) else(some false)) else(bif (Aj.B1==2) then(bif (Aj.Bk==0) then((Du n Aj.Ae).bind fun y8=>(bif y8 then(some (Aj.C2==([]:List UInt8))) else(some false))) else(some false)) else(bif (Aj.B1==3) then(bif (Aj.Bk==0) then((Du n Aj.Ae).bind fun y13=>(bif y13 then(some (Aj.C2==([]:List UInt8))) else(some false))) else(some false)) else(bif (Aj.B1==4) then(bif (Aj.Bk==0) then((Du n Aj.Ae).bind fun y18=>(bif y18 then((Du n Aj.C2).bind fun y21=>(some y21)) else(some false))) else(some false)) else(bif (Aj.Bk==0) then(bif (Aj.Ae==([]:List UInt8)) then(some (Aj.C2==([]:List UInt8))) else(some false)) else(some false)))))))
def Gm (n:Nat)  (Aa:(List A0)):Nat→Int→Option (LR Unit Bool)
 | 0,_=>none
 | k7+1,s6=>(bif decide (s6<((Aa.length:Nat):Int)) then((idx Aa s6).bind fun x16=>((Qj n x16).bind fun y17=>(bif y17 then(Gm n Aa k7 (IntKind.i64.wrap (s6+1))) else(some (.ret false))))) else(some (.out ())))
def Kt:Nat→(List A0)→Option Bool
 | 0,_=>none
 | n+1,Aa=>(bif decide (200<((Aa.length:Nat):Int)) then(some false) else(bif (((Aa.length:Nat):Int)==0) then(some false) else((Nf n Aa 0).bind fun y3=>(bif (y3 != ((Aa.length:Nat):Int)) then(some false) else((Gm n Aa n 0).bind fun o14=>match o14 with|.out _=>((Fy n Aa 0).bind fun y21=>(some (decide (y21≤30))))|.ret v=>some v)))))
def G7 (n:Nat)  (Bn:(List A0)) (Bp:(List A0)):Nat→Bool→Int→Option (LR Unit Bool)
 | 0,_,_=>none
 | k4+1,s2,s3=>(bif decide (s3<((Bn.length:Nat):Int)) then((idx Bn s3).bind fun x13=>((idx Bp s3).bind fun x14=>(bif (x13.B1 != x14.B1) then(some (.ret false)) else((idx Bn s3).bind fun x16=>((idx Bp s3).bind fun x17=>(bif (x16.Bk != x17.Bk) then(some (.ret false)) else((idx Bn s3).bind fun x19=>((idx Bp s3).bind fun x20=>(bif (x19.Ae==x20.Ae) then((idx Bn s3).bind fun x22=>((idx Bp s3).bind fun x23=>(bif (x22.C2==x23.C2) then(bif s2 then((idx Bn s3).bind fun x26=>((idx Bp s3).bind fun x27=>(bif (x26.B0 != x27.B0) then(some (.ret false)) else(G7 n Bn Bp k4 true (IntKind.i64.wrap (s3+1)))))) else(G7 n Bn Bp k4 false (IntKind.i64.wrap (s3+1)))) else(some (.ret false))))) else(some (.ret false))))))))))) else(some (.out ())))
def Jc:Nat→(List A0)→(List A0)→Bool→Option Bool
 | 0,_,_,_=>none
 | n+1,Bn,Bp,Ei=>(bif (((Bn.length:Nat):Int) != ((Bp.length:Nat):Int)) then(some false) else((G7 n Bn Bp n Ei 0).bind fun o11=>match o11 with|.out _=>(some true)|.ret v=>some v))
def Tp:Nat→Int→Option (List UInt8)
 | 0,_=>none
 | n+1,Cq=>((idx ([([33]:List UInt8),([43]:List UInt8),([45]:List UInt8),([42]:List UInt8),([61,61]:List UInt8),([33,61]:List UInt8),([60]:List UInt8),([60,61]:List UInt8),([38,38]:List UInt8),([124,124]:List UInt8)]:List (List UInt8)) (IntKind.i64.wrap (Cq - 5))).bind fun x1=>(some x1))
mutual
def Hi:Nat→(List A0)→Int→Option (List UInt8)
 | 0,_,_=>none
 | n+1,Aa,C3=>(((Ht n) Aa C3).bind fun y1=>((idx Aa C3).bind fun x3=>((Kj n x3.B1).bind fun y4=>(bif (y4==2) then(bif decide ((([40]:List UInt8)).length+y1.length≤140737488355328) then(bif decide (((([40]:List UInt8)++y1)).length+(([41]:List UInt8)).length≤140737488355328) then(some ((([40]:List UInt8)++y1)++([41]:List UInt8))) else none) else none) else(some y1)))))
def Ht:Nat→(List A0)→Int→Option (List UInt8)
 | 0,_,_=>none
 | n+1,Aa,C3=>((idx Aa C3).bind fun x1=>(bif (x1.B1==1) then((Gy n x1.Bk).bind fun y3=>(some y3)) else(bif (x1.B1==2) then(some x1.Ae) else(bif (x1.B1==3) then(some x1.Ae) else(bif (x1.B1==4) then(bif decide (x1.C2.length+(([46]:List UInt8)).length≤140737488355328) then(bif decide (((x1.C2++([46]:List UInt8))).length+x1.Ae.length≤140737488355328) then(some ((x1.C2++([46]:List UInt8))++x1.Ae)) else none) else none) else(bif (x1.B1==5) then(((Hi n) Aa (IntKind.i64.wrap (C3+1))).bind fun y11=>(bif decide ((([33]:List UInt8)).length+y11.length≤140737488355328) then(some (([33]:List UInt8)++y11)) else none)) else(((Hi n) Aa (IntKind.i64.wrap (C3+1))).bind fun y14=>(bif decide (y14.length+(([32]:List UInt8)).length≤140737488355328) then((Tp n x1.B1).bind fun y17=>(bif decide (((y14++([32]:List UInt8))).length+y17.length≤140737488355328) then(bif decide ((((y14++([32]:List UInt8))++y17)).length+(([32]:List UInt8)).length≤140737488355328) then((Nf n Aa (IntKind.i64.wrap (C3+1))).bind fun y21=>(((Hi n) Aa y21).bind fun y23=>(bif decide (((((y14++([32]:List UInt8))++y17)++([32]:List UInt8))).length+y23.length≤140737488355328) then(some ((((y14++([32]:List UInt8))++y17)++([32]:List UInt8))++y23)) else none))) else none) else none)) else none))))))))
end
def Dc:Nat→(List A0)→Option (List UInt8)
 | 0,_=>none
 | n+1,Aa=>((Kt n Aa).bind fun y1=>(bif y1 then((Ht n Aa 0).bind fun y4=>(some y4)) else(some ([]:List UInt8))))
def Ka:Nat→Int→Option Int
 | 0,_=>none
 | n+1,Cq=>(bif decide (1≤Cq) then(bif decide (Cq≤4) then(some 0) else(bif (Cq==5) then(some 1) else(bif decide (6≤Cq) then(bif decide (Cq≤14) then(some 2) else(some (-1))) else(some (-1))))) else(bif (Cq==5) then(some 1) else(bif decide (6≤Cq) then(bif decide (Cq≤14) then(some 2) else(some (-1))) else(some (-1)))))
def Iv (n:Nat)  (Aa:(List A0)):Nat→Int→Int→Option (LR Unit Int)
 | 0,_,_=>none
 | k4+1,s2,s3=>(bif decide (s2<((Aa.length:Nat):Int)) then((idx Aa s2).bind fun x13=>((Ka n x13.B1).bind fun y14=>(bif decide (y14<0) then(some (.ret (-1))) else(bif ((IntKind.i64.wrap (s3+(IntKind.i64.wrap (y14 - 1))))==0) then(some (.ret (IntKind.i64.wrap (s2+1)))) else(Iv n Aa k4 (IntKind.i64.wrap (s2+1)) (IntKind.i64.wrap (s3+(IntKind.i64.wrap (y14 - 1))))))))) else(some (.out ())))
def Tt:Nat→(List A0)→Int→Option Int
 | 0,_,_=>none
 | n+1,Aa,C3=>(bif decide (C3<0) then(some (-1)) else((Iv n Aa n C3 1).bind fun o11=>match o11 with|.out _=>(some (-1))|.ret v=>some v))
def Ec (n:Nat)  (Aa:(List A0)):Nat→Int→(List A0)→Option (LR (List A0) (List A0))
 | 0,_,_=>none
 | k3+1,s1,s2=>(bif decide (s1<((Aa.length:Nat):Int)) then((idx Aa s1).bind fun x12=>(bif (x12.B1==2) then(bif decide ((s2.length+1)*57≤140737488355328) then(Ec n Aa k3 (IntKind.i64.wrap (s1+1)) (s2++([x12]:List A0))) else none) else(bif (x12.B1==3) then(bif decide ((s2.length+1)*57≤140737488355328) then(Ec n Aa k3 (IntKind.i64.wrap (s1+1)) (s2++([x12]:List A0))) else none) else(bif (x12.B1==4) then(bif decide ((s2.length+1)*57≤140737488355328) then(Ec n Aa k3 (IntKind.i64.wrap (s1+1)) (s2++([x12]:List A0))) else none) else(Ec n Aa k3 (IntKind.i64.wrap (s1+1)) s2))))) else(some (.out s2)))
def Np:Nat→(List A0)→Option (List A0)
 | 0,_=>none
 | n+1,Aa=>((Ec n Aa n 0 ([]:List A0)).bind fun o10=>match o10 with|.out x23=>(some x23)|.ret v=>some v)
def Jj (n:Nat) :Nat→(List Int)→Option (LR (List Int) Int)
 | 0,_=>none
 | k21+1,s20=>(bif decide (0<((s20.length:Nat):Int)) then((idx s20 (IntKind.i64.wrap (((s20.length:Nat):Int) - 1))).bind fun x30=>((idx s20 (IntKind.i64.wrap (((s20.length:Nat):Int) - 1))).bind fun x31=>((idx (List.set s20 (IntKind.i64.wrap (((s20.length:Nat):Int) - 1)).toNat (IntKind.i64.wrap (x30 - 1))) (IntKind.i64.wrap (((s20.length:Nat):Int) - 1))).bind fun x33=>(bif decide (0<x33) then(some (.out (List.set s20 (IntKind.i64.wrap (((s20.length:Nat):Int) - 1)).toNat (IntKind.i64.wrap (x30 - 1))))) else(bif (decide (0≤(IntKind.i64.wrap (((s20.length:Nat):Int) - 1)))&&decide ((IntKind.i64.wrap (((s20.length:Nat):Int) - 1))≤((((List.set s20 (IntKind.i64.wrap (((s20.length:Nat):Int) - 1)).toNat (IntKind.i64.wrap (x30 - 1)))).length:Nat):Int))) then(Jj n k21 (List.take ((IntKind.i64.wrap (((s20.length:Nat):Int) - 1)).toNat) (List.set s20 (IntKind.i64.wrap (((s20.length:Nat):Int) - 1)).toNat (IntKind.i64.wrap (x30 - 1))))) else none))))) else(some (.out s20)))
def G6 (n:Nat)  (Aa:(List A0)):Nat→Int→Int→(List Int)→Option (LR (Int×(List Int)) Int)
 | 0,_,_,_=>none
 | k4+1,s1,s2,s3=>(bif decide (s2<((Aa.length:Nat):Int)) then((idx Aa s2).bind fun x13=>((Ka n x13.B1).bind fun y14=>(bif decide (0<y14) then(bif decide ((s3.length+1)*9≤140737488355328) then(G6 n Aa k4 (if s1<((s3.length:Nat):Int) then((s3.length:Nat):Int) else s1) (IntKind.i64.wrap (s2+1)) (s3++([y14]:List Int))) else none) else((Jj n n s3).bind fun o28=>match o28 with|.out x38=>(G6 n Aa k4 (if s1<((s3.length:Nat):Int) then((s3.length:Nat):Int) else s1) (IntKind.i64.wrap (s2+1)) x38)|.ret v=>some (.ret v))))) else(some (.out (s1,s3))))
def O3:Nat→(List A0)→Option Int
 | 0,_=>none
 | n+1,Aa=>((G6 n Aa n 0 0 ([]:List Int)).bind fun o11=>match o11 with|.out (x41,x42)=>(some x41)|.ret v=>some v)
def Qh (n:Nat)  (Mr:(List (List A0))):Nat→Int→(List A0)→Option (LR (List A0) (List A0))
 | 0,_,_=>none
 | k3+1,s1,s2=>(bif decide (s1<((Mr.length:Nat):Int)) then((idx Mr s1).bind fun x12=>(bif decide ((s2.length+x12.length)*57≤140737488355328) then(Qh n Mr k3 (IntKind.i64.wrap (s1+1)) (s2++x12)) else none)) else(some (.out s2)))
def F3:Nat→A0→(List (List A0))→Option (List A0)
 | 0,_,_=>none
 | n+1,Aj,Mr=>((Qh n Mr n 0 ([Aj]:List A0)).bind fun o10=>match o10 with|.out x16=>(some x16)|.ret v=>some v)
def Da:Nat→(List UInt8)→(List A6)→Int→Int→Int→Int→Option Bool
 | 0,_,_,_,_,_,_=>none
 | n+1,M9,p_l,p_i,p_in,p_e,p_at=>(bif decide (p_i<((p_l.length:Nat):Int)) then((idx p_l p_i).bind fun x2=>(bif (x2.Ah==3) then((idx p_l p_i).bind fun x4=>(some (x4.Au==M9))) else(some false))) else(some false))
def Dx:Nat→Int→(List A6)→Int→Int→Int→Int→Option ((List A0)×Int×Int)
 | 0,_,_,_,_,_,_=>none
 | n+1,W2,p_l,p_i,p_in,p_e,p_at=>(bif (p_e != 0) then(some (([]:List A0),p_e,p_at)) else(bif decide (p_i<((p_l.length:Nat):Int)) then((idx p_l p_i).bind fun x3=>(some (([]:List A0),W2,x3.B0))) else(bif (W2==5) then(bif decide (0<((p_l.length:Nat):Int)) then((idx p_l (IntKind.i64.wrap (((p_l.length:Nat):Int) - 1))).bind fun x6=>((idx p_l (IntKind.i64.wrap (((p_l.length:Nat):Int) - 1))).bind fun x7=>(some (([]:List A0),6,IntKind.i64.wrap (x6.B0+((x7.Au.length:Nat):Int)))))) else(some (([]:List A0),6,p_at))) else(bif decide (0<((p_l.length:Nat):Int)) then((idx p_l (IntKind.i64.wrap (((p_l.length:Nat):Int) - 1))).bind fun x9=>((idx p_l (IntKind.i64.wrap (((p_l.length:Nat):Int) - 1))).bind fun x10=>(some (([]:List A0),W2,IntKind.i64.wrap (x9.B0+((x10.Au.length:Nat):Int)))))) else(some (([]:List A0),W2,p_at))))))
def Ig:Nat→(List A6)→Int→Int→Int→Int→Option ((List UInt8)×Int×Bool×Int)
 | 0,_,_,_,_,_=>none
 | n+1,p_l,p_i,p_in,p_e,p_at=>(bif decide (((p_l.length:Nat):Int)≤p_i) then(some (([]:List UInt8),0,false,p_i)) else((idx p_l p_i).bind fun x2=>(bif (x2.Ah != 1) then(some (([]:List UInt8),0,false,p_i)) else((idx p_l p_i).bind fun x4=>((Df n x4.Au).bind fun y5=>(bif y5 then((idx p_l p_i).bind fun x8=>(some (x8.Au,x8.B0,true,IntKind.i64.wrap (p_i+1)))) else(some (([]:List UInt8),0,false,p_i))))))))
def Hu:Nat→Int→Option (List UInt8)
 | 0,_=>none
 | n+1,Cq=>(bif decide (Cq=((14:Nat):Int)) then(some ([124,124]:List UInt8)) else(bif decide (Cq=((13:Nat):Int)) then(some ([38,38]:List UInt8)) else(bif decide (Cq=((12:Nat):Int)) then(some ([60,61]:List UInt8)) else(bif decide (Cq=((11:Nat):Int)) then(some ([60]:List UInt8)) else(bif decide (Cq=((10:Nat):Int)) then(some ([33,61]:List UInt8)) else(bif decide (Cq=((9:Nat):Int)) then(some ([61,61]:List UInt8)) else(bif decide (Cq=((8:Nat):Int)) then(some ([42]:List UInt8)) else(bif decide (Cq=((7:Nat):Int)) then(some ([45]:List UInt8)) else(bif decide (Cq=((6:Nat):Int)) then(some ([43]:List UInt8)) else(bif decide (Cq=((5:Nat):Int)) then(some ([33]:List UInt8)) else(bif decide (Cq=((4:Nat):Int)) then(some ([]:List UInt8)) else(bif decide (Cq=((3:Nat):Int)) then(some ([]:List UInt8)) else(bif decide (Cq=((2:Nat):Int)) then(some ([]:List UInt8)) else(bif decide (Cq=((1:Nat):Int)) then(some ([]:List UInt8)) else(bif decide (Cq=((0:Nat):Int)) then(some ([]:List UInt8)) else none)))))))))))))))
def Il (n:Nat)  (B5:(List Int)) (p_l:(List A6)) (s5:Int) (s6:Int) (s7:Int) (s8:Int):Nat→Int→Int→Option (LR Int ((List A0)×Int×Int×Int×Int))
 | 0,_,_=>none
 | k20+1,s18,s19=>(bif decide (s19<((B5.length:Nat):Int)) then((idx B5 s19).bind fun x29=>((Hu n x29).bind fun y30=>((Da n y30 p_l s5 s6 s7 s8).bind fun y32=>(bif y32 then(Il n B5 p_l s5 s6 s7 s8 k20 x29 (IntKind.i64.wrap (s19+1))) else(Il n B5 p_l s5 s6 s7 s8 k20 s18 (IntKind.i64.wrap (s19+1))))))) else(some (.out s18)))
def Kl (n:Nat) (rec_expr_parser_both:(List A6)→Int→Int→Int→Int→Option ((List A0)×Int×Int×Int×Int)) (B5:(List Int)) (p_l:(List A6)):Nat→Bool→(List A0)→Int→Int→Int→Int→Option (LR ((List A0)×Int×Int×Int×Int) ((List A0)×Int×Int×Int×Int))
 | 0,_,_,_,_,_,_=>none
 | k9+1,s3,s4,s5,s6,s7,s8=>(bif (s7==0) then((Il n B5 p_l s5 s6 s7 s8 n 0 0).bind fun o27=>match o27 with|.out x36=>(bif (x36==0) then(some (.out (s4,s5,s6,s7,s8))) else((idx p_l s5).bind fun x38=>((rec_expr_parser_both p_l (IntKind.i64.wrap (s5+1)) s6 s7 s8).bind fun y39=>((F3 n (⟨x36,0,([]:List UInt8),([]:List UInt8),x38.B0⟩:A0) ([s4,y39.1]:List (List A0))).bind fun y41=>(bif s3 then(some (.out (y41,y39.2.1,y39.2.2.1,y39.2.2.2.1,y39.2.2.2.2))) else(Kl n rec_expr_parser_both B5 p_l k9 false y41 y39.2.1 y39.2.2.1 y39.2.2.2.1 y39.2.2.2.2))))))|.ret v=>some (.ret v)) else(some (.out (s4,s5,s6,s7,s8))))
def Gs (n:Nat)  (B5:(List Int)) (p_l:(List A6)) (s5:Int) (s6:Int) (s7:Int) (s8:Int):Nat→Int→Int→Option (LR Int ((List A0)×Int×Int×Int×Int))
 | 0,_,_=>none
 | k20+1,s18,s19=>(bif decide (s19<((B5.length:Nat):Int)) then((idx B5 s19).bind fun x29=>((Hu n x29).bind fun y30=>((Da n y30 p_l s5 s6 s7 s8).bind fun y32=>(bif y32 then(Gs n B5 p_l s5 s6 s7 s8 k20 x29 (IntKind.i64.wrap (s19+1))) else(Gs n B5 p_l s5 s6 s7 s8 k20 s18 (IntKind.i64.wrap (s19+1))))))) else(some (.out s18)))
def J0 (n:Nat) (rec_expr_parser_compared:(List A6)→Int→Int→Int→Int→Option ((List A0)×Int×Int×Int×Int)) (B5:(List Int)) (p_l:(List A6)):Nat→Bool→(List A0)→Int→Int→Int→Int→Option (LR ((List A0)×Int×Int×Int×Int) ((List A0)×Int×Int×Int×Int))
 | 0,_,_,_,_,_,_=>none
 | k9+1,s3,s4,s5,s6,s7,s8=>(bif (s7==0) then((Gs n B5 p_l s5 s6 s7 s8 n 0 0).bind fun o27=>match o27 with|.out x36=>(bif (x36==0) then(some (.out (s4,s5,s6,s7,s8))) else((idx p_l s5).bind fun x38=>((rec_expr_parser_compared p_l (IntKind.i64.wrap (s5+1)) s6 s7 s8).bind fun y39=>((F3 n (⟨x36,0,([]:List UInt8),([]:List UInt8),x38.B0⟩:A0) ([s4,y39.1]:List (List A0))).bind fun y41=>(bif s3 then(some (.out (y41,y39.2.1,y39.2.2.1,y39.2.2.2.1,y39.2.2.2.2))) else(J0 n rec_expr_parser_compared B5 p_l k9 false y41 y39.2.1 y39.2.2.1 y39.2.2.2.1 y39.2.2.2.2))))))|.ret v=>some (.ret v)) else(some (.out (s4,s5,s6,s7,s8))))
def Gh (n:Nat)  (B5:(List Int)) (p_l:(List A6)) (s5:Int) (s6:Int) (s7:Int) (s8:Int):Nat→Int→Int→Option (LR Int ((List A0)×Int×Int×Int×Int))
 | 0,_,_=>none
 | k20+1,s18,s19=>(bif decide (s19<((B5.length:Nat):Int)) then((idx B5 s19).bind fun x29=>((Hu n x29).bind fun y30=>((Da n y30 p_l s5 s6 s7 s8).bind fun y32=>(bif y32 then(Gh n B5 p_l s5 s6 s7 s8 k20 x29 (IntKind.i64.wrap (s19+1))) else(Gh n B5 p_l s5 s6 s7 s8 k20 s18 (IntKind.i64.wrap (s19+1))))))) else(some (.out s18)))
def Iz (n:Nat) (rec_expr_parser_sum:(List A6)→Int→Int→Int→Int→Option ((List A0)×Int×Int×Int×Int)) (B5:(List Int)) (p_l:(List A6)):Nat→Bool→(List A0)→Int→Int→Int→Int→Option (LR ((List A0)×Int×Int×Int×Int) ((List A0)×Int×Int×Int×Int))
 | 0,_,_,_,_,_,_=>none
 | k9+1,s3,s4,s5,s6,s7,s8=>(bif (s7==0) then((Gh n B5 p_l s5 s6 s7 s8 n 0 0).bind fun o27=>match o27 with|.out x36=>(bif (x36==0) then(some (.out (s4,s5,s6,s7,s8))) else((idx p_l s5).bind fun x38=>((rec_expr_parser_sum p_l (IntKind.i64.wrap (s5+1)) s6 s7 s8).bind fun y39=>((F3 n (⟨x36,0,([]:List UInt8),([]:List UInt8),x38.B0⟩:A0) ([s4,y39.1]:List (List A0))).bind fun y41=>(bif s3 then(some (.out (y41,y39.2.1,y39.2.2.1,y39.2.2.2.1,y39.2.2.2.2))) else(Iz n rec_expr_parser_sum B5 p_l k9 false y41 y39.2.1 y39.2.2.1 y39.2.2.2.1 y39.2.2.2.2))))))|.ret v=>some (.ret v)) else(some (.out (s4,s5,s6,s7,s8))))
def Gl (n:Nat)  (B5:(List Int)) (p_l:(List A6)) (s5:Int) (s6:Int) (s7:Int) (s8:Int):Nat→Int→Int→Option (LR Int ((List A0)×Int×Int×Int×Int))
 | 0,_,_=>none
 | k20+1,s18,s19=>(bif decide (s19<((B5.length:Nat):Int)) then((idx B5 s19).bind fun x29=>((Hu n x29).bind fun y30=>((Da n y30 p_l s5 s6 s7 s8).bind fun y32=>(bif y32 then(Gl n B5 p_l s5 s6 s7 s8 k20 x29 (IntKind.i64.wrap (s19+1))) else(Gl n B5 p_l s5 s6 s7 s8 k20 s18 (IntKind.i64.wrap (s19+1))))))) else(some (.out s18)))
def Iy (n:Nat) (rec_expr_parser_product:(List A6)→Int→Int→Int→Int→Option ((List A0)×Int×Int×Int×Int)) (B5:(List Int)) (p_l:(List A6)):Nat→Bool→(List A0)→Int→Int→Int→Int→Option (LR ((List A0)×Int×Int×Int×Int) ((List A0)×Int×Int×Int×Int))
 | 0,_,_,_,_,_,_=>none
 | k9+1,s3,s4,s5,s6,s7,s8=>(bif (s7==0) then((Gl n B5 p_l s5 s6 s7 s8 n 0 0).bind fun o27=>match o27 with|.out x36=>(bif (x36==0) then(some (.out (s4,s5,s6,s7,s8))) else((idx p_l s5).bind fun x38=>((rec_expr_parser_product p_l (IntKind.i64.wrap (s5+1)) s6 s7 s8).bind fun y39=>((F3 n (⟨x36,0,([]:List UInt8),([]:List UInt8),x38.B0⟩:A0) ([s4,y39.1]:List (List A0))).bind fun y41=>(bif s3 then(some (.out (y41,y39.2.1,y39.2.2.1,y39.2.2.2.1,y39.2.2.2.2))) else(Iy n rec_expr_parser_product B5 p_l k9 false y41 y39.2.1 y39.2.2.1 y39.2.2.2.1 y39.2.2.2.2))))))|.ret v=>some (.ret v)) else(some (.out (s4,s5,s6,s7,s8))))
def Gf (n:Nat)  (B5:(List Int)) (p_l:(List A6)) (s5:Int) (s6:Int) (s7:Int) (s8:Int):Nat→Int→Int→Option (LR Int ((List A0)×Int×Int×Int×Int))
 | 0,_,_=>none
 | k20+1,s18,s19=>(bif decide (s19<((B5.length:Nat):Int)) then((idx B5 s19).bind fun x29=>((Hu n x29).bind fun y30=>((Da n y30 p_l s5 s6 s7 s8).bind fun y32=>(bif y32 then(Gf n B5 p_l s5 s6 s7 s8 k20 x29 (IntKind.i64.wrap (s19+1))) else(Gf n B5 p_l s5 s6 s7 s8 k20 s18 (IntKind.i64.wrap (s19+1))))))) else(some (.out s18)))
def J9 (n:Nat) (rec_expr_parser_single:(List A6)→Int→Int→Int→Int→Option ((List A0)×Int×Int×Int×Int)) (B5:(List Int)) (p_l:(List A6)):Nat→Bool→(List A0)→Int→Int→Int→Int→Option (LR ((List A0)×Int×Int×Int×Int) ((List A0)×Int×Int×Int×Int))
 | 0,_,_,_,_,_,_=>none
 | k9+1,s3,s4,s5,s6,s7,s8=>(bif (s7==0) then((Gf n B5 p_l s5 s6 s7 s8 n 0 0).bind fun o27=>match o27 with|.out x36=>(bif (x36==0) then(some (.out (s4,s5,s6,s7,s8))) else((idx p_l s5).bind fun x38=>((rec_expr_parser_single p_l (IntKind.i64.wrap (s5+1)) s6 s7 s8).bind fun y39=>((F3 n (⟨x36,0,([]:List UInt8),([]:List UInt8),x38.B0⟩:A0) ([s4,y39.1]:List (List A0))).bind fun y41=>(bif s3 then(some (.out (y41,y39.2.1,y39.2.2.1,y39.2.2.2.1,y39.2.2.2.2))) else(J9 n rec_expr_parser_single B5 p_l k9 false y41 y39.2.1 y39.2.2.1 y39.2.2.2.1 y39.2.2.2.2))))))|.ret v=>some (.ret v)) else(some (.out (s4,s5,s6,s7,s8))))
mutual
def Nl:Nat→(List A6)→Int→Int→Int→Int→Option ((List A0)×Int×Int×Int×Int)
 | 0,_,_,_,_,_=>none
 | n+1,p_l,p_i,p_in,p_e,p_at=>(((Rh n) false ([14]:List Int) p_l p_i p_in p_e p_at).bind fun y1=>(some (y1.1,y1.2.1,y1.2.2.1,y1.2.2.2.1,y1.2.2.2.2)))
def Ii:Nat→(List A6)→Int→Int→Int→Int→Option ((List A0)×Int×Int×Int×Int)
 | 0,_,_,_,_,_=>none
 | n+1,p_l,p_i,p_in,p_e,p_at=>(((Pt n) false ([13]:List Int) p_l p_i p_in p_e p_at).bind fun y1=>(some (y1.1,y1.2.1,y1.2.2.1,y1.2.2.2.1,y1.2.2.2.2)))
def F4:Nat→(List A6)→Int→Int→Int→Int→Option ((List A0)×Int×Int×Int×Int)
 | 0,_,_,_,_,_=>none
 | n+1,p_l,p_i,p_in,p_e,p_at=>(((Pr n) true ([9,10,11,12]:List Int) p_l p_i p_in p_e p_at).bind fun y1=>(some (y1.1,y1.2.1,y1.2.2.1,y1.2.2.2.1,y1.2.2.2.2)))
def Pn:Nat→(List A6)→Int→Int→Int→Int→Option ((List A0)×Int×Int×Int×Int)
 | 0,_,_,_,_,_=>none
 | n+1,p_l,p_i,p_in,p_e,p_at=>(bif decide (30≤p_in) then((Dx n 7 p_l p_i p_in p_e p_at).bind fun y2=>(some (y2.1,p_i,p_in,y2.2.1,y2.2.2))) else(((El n) p_l (IntKind.i64.wrap (p_i+1)) (IntKind.i64.wrap (p_in+1)) p_e p_at).bind fun y4=>(some (y4.1,y4.2.1,IntKind.i64.wrap (y4.2.2.1 - 1),y4.2.2.2.1,y4.2.2.2.2))))
def O6:Nat→(List A6)→Int→Int→Int→Int→Option ((List A0)×Int×Int×Int×Int)
 | 0,_,_,_,_,_=>none
 | n+1,p_l,p_i,p_in,p_e,p_at=>(bif decide (30≤p_in) then((Dx n 7 p_l p_i p_in p_e p_at).bind fun y2=>(some (y2.1,p_i,p_in,y2.2.1,y2.2.2))) else(((Nl n) p_l (IntKind.i64.wrap (p_i+1)) (IntKind.i64.wrap (p_in+1)) p_e p_at).bind fun y4=>(some (y4.1,y4.2.1,IntKind.i64.wrap (y4.2.2.1 - 1),y4.2.2.2.1,y4.2.2.2.2))))
def Fn:Nat→(List A6)→Int→Int→Int→Int→Option ((List A0)×Int×Int×Int×Int)
 | 0,_,_,_,_,_=>none
 | n+1,p_l,p_i,p_in,p_e,p_at=>(((Pm n) false ([8]:List Int) p_l p_i p_in p_e p_at).bind fun y1=>(some (y1.1,y1.2.1,y1.2.2.1,y1.2.2.2.1,y1.2.2.2.2)))
def Rh:Nat→Bool→(List Int)→(List A6)→Int→Int→Int→Int→Option ((List A0)×Int×Int×Int×Int)
 | 0,_,_,_,_,_,_,_=>none
 | n+1,Cr,B5,p_l,p_i,p_in,p_e,p_at=>(((Ii n) p_l p_i p_in p_e p_at).bind fun y1=>((Kl n (Ii n) B5 p_l n Cr y1.1 y1.2.1 y1.2.2.1 y1.2.2.2.1 y1.2.2.2.2).bind fun o16=>match o16 with|.out (x46,x47,x48,x49,x50)=>(some (x46,x47,x48,x49,x50))|.ret v=>some v))
def Pt:Nat→Bool→(List Int)→(List A6)→Int→Int→Int→Int→Option ((List A0)×Int×Int×Int×Int)
 | 0,_,_,_,_,_,_,_=>none
 | n+1,Cr,B5,p_l,p_i,p_in,p_e,p_at=>(((F4 n) p_l p_i p_in p_e p_at).bind fun y1=>((J0 n (F4 n) B5 p_l n Cr y1.1 y1.2.1 y1.2.2.1 y1.2.2.2.1 y1.2.2.2.2).bind fun o16=>match o16 with|.out (x46,x47,x48,x49,x50)=>(some (x46,x47,x48,x49,x50))|.ret v=>some v))
def Pr:Nat→Bool→(List Int)→(List A6)→Int→Int→Int→Int→Option ((List A0)×Int×Int×Int×Int)
 | 0,_,_,_,_,_,_,_=>none
 | n+1,Cr,B5,p_l,p_i,p_in,p_e,p_at=>(((Jf n) p_l p_i p_in p_e p_at).bind fun y1=>((Iz n (Jf n) B5 p_l n Cr y1.1 y1.2.1 y1.2.2.1 y1.2.2.2.1 y1.2.2.2.2).bind fun o16=>match o16 with|.out (x46,x47,x48,x49,x50)=>(some (x46,x47,x48,x49,x50))|.ret v=>some v))
def Po:Nat→Bool→(List Int)→(List A6)→Int→Int→Int→Int→Option ((List A0)×Int×Int×Int×Int)
 | 0,_,_,_,_,_,_,_=>none
 | n+1,Cr,B5,p_l,p_i,p_in,p_e,p_at=>(((Fn n) p_l p_i p_in p_e p_at).bind fun y1=>((Iy n (Fn n) B5 p_l n Cr y1.1 y1.2.1 y1.2.2.1 y1.2.2.2.1 y1.2.2.2.2).bind fun o16=>match o16 with|.out (x46,x47,x48,x49,x50)=>(some (x46,x47,x48,x49,x50))|.ret v=>some v))
def Pm:Nat→Bool→(List Int)→(List A6)→Int→Int→Int→Int→Option ((List A0)×Int×Int×Int×Int)
 | 0,_,_,_,_,_,_,_=>none
 | n+1,Cr,B5,p_l,p_i,p_in,p_e,p_at=>(((El n) p_l p_i p_in p_e p_at).bind fun y1=>((J9 n (El n) B5 p_l n Cr y1.1 y1.2.1 y1.2.2.1 y1.2.2.2.1 y1.2.2.2.2).bind fun o16=>match o16 with|.out (x46,x47,x48,x49,x50)=>(some (x46,x47,x48,x49,x50))|.ret v=>some v))
def El:Nat→(List A6)→Int→Int→Int→Int→Option ((List A0)×Int×Int×Int×Int)
 | 0,_,_,_,_,_=>none
 | n+1,p_l,p_i,p_in,p_e,p_at=>(bif (p_e != 0) then(some (([]:List A0),p_i,p_in,p_e,p_at)) else((Da n ([33]:List UInt8) p_l p_i p_in p_e p_at).bind fun y2=>(bif y2 then((idx p_l p_i).bind fun x5=>(((Pn n) p_l p_i p_in p_e p_at).bind fun y6=>((F3 n (⟨5,0,([]:List UInt8),([]:List UInt8),x5.B0⟩:A0) ([y6.1]:List (List A0))).bind fun y8=>(some (y8,y6.2.1,y6.2.2.1,y6.2.2.2.1,y6.2.2.2.2))))) else((Da n ([40]:List UInt8) p_l p_i p_in p_e p_at).bind fun y10=>(bif y10 then(((O6 n) p_l p_i p_in p_e p_at).bind fun y13=>(bif (y13.2.2.2.1==0) then((Da n ([41]:List UInt8) p_l y13.2.1 y13.2.2.1 y13.2.2.2.1 y13.2.2.2.2).bind fun y16=>(bif y16 then(some (y13.1,IntKind.i64.wrap (y13.2.1+1),y13.2.2.1,y13.2.2.2.1,y13.2.2.2.2)) else((Dx n 5 p_l y13.2.1 y13.2.2.1 y13.2.2.2.1 y13.2.2.2.2).bind fun y19=>(some (y19.1,y13.2.1,y13.2.2.1,y19.2.1,y19.2.2))))) else(some (y13.1,IntKind.i64.wrap (y13.2.1+1),y13.2.2.1,y13.2.2.2.1,y13.2.2.2.2)))) else(bif decide (p_i<((p_l.length:Nat):Int)) then((idx p_l p_i).bind fun x22=>(bif (x22.Ah==2) then((idx p_l p_i).bind fun x24=>((F3 n (⟨1,x24.Bk,([]:List UInt8),([]:List UInt8),x24.B0⟩:A0) ([]:List (List A0))).bind fun y25=>(some (y25,IntKind.i64.wrap (p_i+1),p_in,p_e,p_at)))) else((Ig n p_l p_i p_in p_e p_at).bind fun y27=>(bif y27.2.2.1 then((Da n ([46]:List UInt8) p_l y27.2.2.2 p_in p_e p_at).bind fun y30=>(bif y30 then((Ig n p_l (IntKind.i64.wrap (y27.2.2.2+1)) p_in p_e p_at).bind fun y33=>(bif y33.2.2.1 then((F3 n (⟨4,0,y33.1,y27.1,y27.2.1⟩:A0) ([]:List (List A0))).bind fun y36=>(some (y36,y33.2.2.2,p_in,p_e,p_at))) else((Dx n 5 p_l y33.2.2.2 p_in p_e p_at).bind fun y38=>(some (y38.1,y33.2.2.2,p_in,y38.2.1,y38.2.2))))) else((F3 n (⟨2,0,y27.1,([]:List UInt8),y27.2.1⟩:A0) ([]:List (List A0))).bind fun y40=>(some (y40,y27.2.2.2,p_in,p_e,p_at))))) else((Dx n 5 p_l y27.2.2.2 p_in p_e p_at).bind fun y42=>(some (y42.1,y27.2.2.2,p_in,y42.2.1,y42.2.2))))))) else((Ig n p_l p_i p_in p_e p_at).bind fun y44=>(bif y44.2.2.1 then((Da n ([46]:List UInt8) p_l y44.2.2.2 p_in p_e p_at).bind fun y47=>(bif y47 then((Ig n p_l (IntKind.i64.wrap (y44.2.2.2+1)) p_in p_e p_at).bind fun y50=>(bif y50.2.2.1 then((F3 n (⟨4,0,y50.1,y44.1,y44.2.1⟩:A0) ([]:List (List A0))).bind fun y53=>(some (y53,y50.2.2.2,p_in,p_e,p_at))) else((Dx n 5 p_l y50.2.2.2 p_in p_e p_at).bind fun y55=>(some (y55.1,y50.2.2.2,p_in,y55.2.1,y55.2.2))))) else((F3 n (⟨2,0,y44.1,([]:List UInt8),y44.2.1⟩:A0) ([]:List (List A0))).bind fun y57=>(some (y57,y44.2.2.2,p_in,p_e,p_at))))) else((Dx n 5 p_l y44.2.2.2 p_in p_e p_at).bind fun y59=>(some (y59.1,y44.2.2.2,p_in,y59.2.1,y59.2.2)))))))))))
def Jf:Nat→(List A6)→Int→Int→Int→Int→Option ((List A0)×Int×Int×Int×Int)
 | 0,_,_,_,_,_=>none
 | n+1,p_l,p_i,p_in,p_e,p_at=>(((Po n) false ([6,7]:List Int) p_l p_i p_in p_e p_at).bind fun y1=>(some (y1.1,y1.2.1,y1.2.2.1,y1.2.2.2.1,y1.2.2.2.2)))
end
def To:Nat→(List A6)→Int→Option ((List A0)×Int×Int×Int)
 | 0,_,_=>none
 | n+1,Aa,C3=>(bif decide (C3<0) then(some (([]:List A0),0,1,0)) else((Nl n Aa C3 0 0 0).bind fun y2=>(bif (y2.2.2.2.1 != 0) then(some (([]:List A0),0,y2.2.2.2.1,y2.2.2.2.2)) else((O3 n y2.1).bind fun y5=>(bif decide (30<y5) then((idx Aa C3).bind fun x8=>(some (([]:List A0),0,7,x8.B0))) else(bif decide (200<((y2.1.length:Nat):Int)) then((idx Aa C3).bind fun x10=>(some (([]:List A0),0,2,x10.B0))) else(some (y2.1,y2.2.1,0,0))))))))
def Rp:Nat→A0→Option Bool
 | 0,_=>none
 | n+1,Aj=>(bif decide (Aj.B0<0) then(some false) else(bif (Aj.B1==1) then(bif ((Aj.B1==Aj.B1)&&((Aj.Bk==Aj.Bk)&&((Aj.Ae==([]:List UInt8))&&((Aj.C2==([]:List UInt8))&&((Aj.B0==Aj.B0)&&true))))) then(bif decide (0≤Aj.Bk) then(some (decide (Aj.Bk≤9999))) else(some false)) else(some false)) else(bif (Aj.B1==4) then((Df n Aj.C2).bind fun y7=>(bif y7 then(bif ((Aj.B1==Aj.B1)&&((Aj.Bk==0)&&((Aj.Ae==Aj.Ae)&&((Aj.C2==Aj.C2)&&((Aj.B0==Aj.B0)&&true))))) then((Df n Aj.Ae).bind fun y11=>(some y11)) else(some false)) else(some false))) else(bif (Aj.B1==2) then(bif ((Aj.B1==Aj.B1)&&((Aj.Bk==0)&&((Aj.Ae==Aj.Ae)&&((Aj.C2==([]:List UInt8))&&((Aj.B0==Aj.B0)&&true))))) then((Df n Aj.Ae).bind fun y16=>(some y16)) else(some false)) else(bif (Aj.B1==3) then(bif ((Aj.B1==Aj.B1)&&((Aj.Bk==0)&&((Aj.Ae==Aj.Ae)&&((Aj.C2==([]:List UInt8))&&((Aj.B0==Aj.B0)&&true))))) then((Df n Aj.Ae).bind fun y21=>(some y21)) else(some false)) else(some ((Aj.B1==Aj.B1)&&((Aj.Bk==0)&&((Aj.Ae==([]:List UInt8))&&((Aj.C2==([]:List UInt8))&&((Aj.B0==Aj.B0)&&true)))))))))))
def Hz (n:Nat)  (Aa:(List A0)):Nat→Int→Option (LR Unit Bool)
 | 0,_=>none
 | k7+1,s6=>(bif decide (s6<((Aa.length:Nat):Int)) then((idx Aa s6).bind fun x16=>((Rp n x16).bind fun y17=>(bif y17 then(Hz n Aa k7 (IntKind.i64.wrap (s6+1))) else(some (.ret false))))) else(some (.out ())))
def Lv:Nat→(List A0)→Option Bool
 | 0,_=>none
 | n+1,Aa=>(bif (((Aa.length:Nat):Int)==0) then(some false) else(bif decide (200<((Aa.length:Nat):Int)) then(some false) else((Tt n Aa 0).bind fun y3=>(bif (y3 != ((Aa.length:Nat):Int)) then(some false) else((Hz n Aa n 0).bind fun o14=>match o14 with|.out _=>((O3 n Aa).bind fun y21=>(some (decide (y21≤30))))|.ret v=>some v)))))
def D8:Nat→Int→Option (List UInt8)
 | 0,_=>none
 | n+1,Bv=>(bif decide (Bv<10) then(some ([UInt8.ofNat (IntKind.u8.wrap (IntKind.i64.wrap (48+Bv))).toNat]:List UInt8)) else(((D8 n) (IntKind.i64.wrap (Int.tdiv Bv 10))).bind fun y2=>(bif decide (y2.length+(([UInt8.ofNat (IntKind.u8.wrap (IntKind.i64.wrap (48+(Int.tmod Bv 10)))).toNat]:List UInt8)).length≤140737488355328) then(some (y2++([UInt8.ofNat (IntKind.u8.wrap (IntKind.i64.wrap (48+(Int.tmod Bv 10)))).toNat]:List UInt8))) else none)))
def G0:Nat→(List A0)→Int→Bool→Option ((List UInt8)×Int)
 | 0,_,_,_=>none
 | n+1,Aa,C3,Uc=>((idx Aa C3).bind fun x1=>(bif (x1.B1==1) then((D8 n x1.Bk).bind fun y3=>(some (y3,IntKind.i64.wrap (C3+1)))) else(bif (x1.B1==2) then(some (x1.Ae,IntKind.i64.wrap (C3+1))) else(bif (x1.B1==3) then(some (x1.Ae,IntKind.i64.wrap (C3+1))) else(bif (x1.B1==4) then(bif decide (x1.C2.length+(([46]:List UInt8)).length≤140737488355328) then(bif decide (((x1.C2++([46]:List UInt8))).length+x1.Ae.length≤140737488355328) then(some (((x1.C2++([46]:List UInt8))++x1.Ae),IntKind.i64.wrap (C3+1))) else none) else none) else(bif (x1.B1==5) then(((G0 n) Aa (IntKind.i64.wrap (C3+1)) true).bind fun y11=>((Hu n x1.B1).bind fun y13=>(bif decide (y13.length+y11.1.length≤140737488355328) then(some ((y13++y11.1),y11.2)) else none))) else(((G0 n) Aa (IntKind.i64.wrap (C3+1)) true).bind fun y16=>(((G0 n) Aa y16.2 true).bind fun y18=>(bif decide (y16.1.length+(([32]:List UInt8)).length≤140737488355328) then((Hu n x1.B1).bind fun y21=>(bif decide (((y16.1++([32]:List UInt8))).length+y21.length≤140737488355328) then(bif decide ((((y16.1++([32]:List UInt8))++y21)).length+(([32]:List UInt8)).length≤140737488355328) then(bif decide (((((y16.1++([32]:List UInt8))++y21)++([32]:List UInt8))).length+y18.1.length≤140737488355328) then(bif Uc then(bif decide ((([40]:List UInt8)).length+(((((y16.1++([32]:List UInt8))++y21)++([32]:List UInt8))++y18.1)).length≤140737488355328) then(bif decide (((([40]:List UInt8)++((((y16.1++([32]:List UInt8))++y21)++([32]:List UInt8))++y18.1))).length+(([41]:List UInt8)).length≤140737488355328) then(some (((([40]:List UInt8)++((((y16.1++([32]:List UInt8))++y21)++([32]:List UInt8))++y18.1))++([41]:List UInt8)),y18.2)) else none) else none) else(some (((((y16.1++([32]:List UInt8))++y21)++([32]:List UInt8))++y18.1),y18.2))) else none) else none) else none)) else none)))))))))
def Dj:Nat→(List A0)→Option (List UInt8)
 | 0,_=>none
 | n+1,Aa=>((Lv n Aa).bind fun y1=>(bif y1 then((G0 n Aa 0 false).bind fun y4=>(some y4.1)) else(some ([]:List UInt8))))
def H5 (n:Nat)  (Aa:(List A2)):Nat→Int→Option (LR Unit Bool)
 | 0,_=>none
 | k3+1,s2=>(bif decide (s2<((Aa.length:Nat):Int)) then((idx Aa s2).bind fun x12=>(bif decide (100<((x12.Bj.length:Nat):Int)) then(some (.ret false)) else((idx Aa s2).bind fun x14=>(bif decide (100<((x14.Bg.length:Nat):Int)) then(some (.ret false)) else((idx Aa s2).bind fun x16=>((Kv n x16.Bh).bind fun y17=>(bif y17 then((idx Aa s2).bind fun x20=>((Kv n x20.Cg).bind fun y21=>(bif y21 then(H5 n Aa k3 (IntKind.i64.wrap (s2+1))) else(some (.ret false))))) else(some (.ret false))))))))) else(some (.out ())))
def P4:Nat→(List A2)→Option Bool
 | 0,_=>none
 | n+1,Aa=>(bif decide (60<((Aa.length:Nat):Int)) then(some false) else((H5 n Aa n 0).bind fun o10=>match o10 with|.out _=>(some true)|.ret v=>some v))
def Ik (n:Nat)  (y1:(List A0)):Nat→Int→Option (LR Unit Bool)
 | 0,_=>none
 | k4+1,s3=>(bif decide (s3<((y1.length:Nat):Int)) then((idx y1 s3).bind fun x13=>(bif (x13.B1 != 2) then(some (.ret false)) else(Ik n y1 k4 (IntKind.i64.wrap (s3+1))))) else(some (.out ())))
def I8:Nat→(List A0)→Option Bool
 | 0,_=>none
 | n+1,Aa=>((Ml n Aa).bind fun y1=>((Ik n y1 n 0).bind fun o11=>match o11 with|.out _=>((Kt n Aa).bind fun y16=>(some y16))|.ret v=>some v))
def Me:Nat→Int→Option Bool
 | 0,_=>none
 | n+1,C6=>(bif (C6==10) then(some true) else(bif (C6==11) then(some true) else(some (C6==12))))
def Jr (n:Nat)  (Aa:(List A2)) (Bt:Int):Nat→Int→(List Int)→Option (LR (List Int) (List Int))
 | 0,_,_=>none
 | k3+1,s1,s2=>(bif decide (s1<Bt) then(bif decide ((s2.length+1)*9≤140737488355328) then((idx Aa s1).bind fun x14=>((idx Aa s1).bind fun x15=>(Jr n Aa Bt k3 (IntKind.i64.wrap ((IntKind.i64.wrap ((IntKind.i64.wrap (s1+1))+x14.Aq))+x15.Be)) (s2++([s1]:List Int))))) else none) else(some (.out s2)))
def Km:Nat→(List A2)→Int→Int→Option (List Int)
 | 0,_,_,_=>none
 | n+1,Aa,By,Bt=>((Jr n Aa Bt n By ([]:List Int)).bind fun o10=>match o10 with|.out x17=>(some x17)|.ret v=>some v)
def Ey (n:Nat) (rec_ref03_deep:(List A2)→Int→Int→Option Int) (Aa:(List A2)) (y1:(List Int)):Nat→Int→Int→Option (LR Int Int)
 | 0,_,_=>none
 | k5+1,s3,s4=>(bif decide (s4<((y1.length:Nat):Int)) then((idx y1 s4).bind fun x14=>((idx Aa x14).bind fun x15=>((Me n x15.Ah).bind fun y16=>(bif y16 then((idx y1 s4).bind fun x19=>((idx y1 s4).bind fun x20=>((rec_ref03_deep Aa (IntKind.i64.wrap (x20+1)) (IntKind.i64.wrap ((IntKind.i64.wrap (x19+1))+x15.Aq))).bind fun y21=>((rec_ref03_deep Aa (IntKind.i64.wrap ((IntKind.i64.wrap (x19+1))+x15.Aq)) (IntKind.i64.wrap ((IntKind.i64.wrap ((IntKind.i64.wrap (x19+1))+x15.Aq))+x15.Be))).bind fun y23=>(Ey n rec_ref03_deep Aa y1 k5 (X6 s3 (IntKind.i64.wrap (1+y21)) (IntKind.i64.wrap (1+y23))) (IntKind.i64.wrap (s4+1))))))) else(Ey n rec_ref03_deep Aa y1 k5 s3 (IntKind.i64.wrap (s4+1))))))) else(some (.out s3)))
def Ef:Nat→(List A2)→Int→Int→Option Int
 | 0,_,_,_=>none
 | n+1,Aa,By,Bt=>((Km n Aa By Bt).bind fun y1=>((Ey n (Ef n) Aa y1 n 0 0).bind fun o12=>match o12 with|.out x26=>(some x26)|.ret v=>some v))
def Jb (n:Nat)  (Aa:(List UInt8)) (Zb:Int):Nat→Int→Option (LR Unit Bool)
 | 0,_=>none
 | k2+1,s1=>(bif decide (s1<((Aa.length:Nat):Int)) then((idx Aa s1).bind fun x11=>(bif ((x11.toNat:Int)==Zb) then(some (.ret true)) else(Jb n Aa Zb k2 (IntKind.i64.wrap (s1+1))))) else(some (.out ())))
def Bw:Nat→(List UInt8)→Int→Option Bool
 | 0,_,_=>none
 | n+1,Aa,Zb=>((Jb n Aa Zb n 0).bind fun o9=>match o9 with|.out _=>(some false)|.ret v=>some v)
def P6:Nat→Int→Option ((List UInt8)×Bool)
 | 0,_=>none
 | n+1,C6=>(bif (C6==1) then(some (([]:List UInt8),true)) else(bif (C6==8) then(some (([]:List UInt8),true)) else(bif (C6==13) then(some (([]:List UInt8),true)) else(bif (C6==2) then(some (([114,101]:List UInt8),true)) else(bif (C6==3) then(some (([114,108]:List UInt8),true)) else(bif (C6==4) then(some (([108,101]:List UInt8),true)) else(bif (C6==5) then(some (([114,108,101,102]:List UInt8),true)) else(bif (C6==6) then(some (([114,108,101]:List UInt8),true)) else(bif (C6==7) then(some (([114,108,101]:List UInt8),true)) else(bif (C6==9) then(some (([108,101,110]:List UInt8),true)) else(bif (C6==10) then(some (([101,98,120]:List UInt8),true)) else(bif (C6==11) then(some (([101,98]:List UInt8),true)) else(bif (C6==12) then(some (([98]:List UInt8),true)) else(some (([]:List UInt8),false)))))))))))))))
def Rw:Nat→A2→Option Bool
 | 0,_=>none
 | n+1,Aj=>((P6 n Aj.Ah).bind fun y1=>(bif y1.2 then(bif decide (Aj.B0<0) then(some false) else(((Bw n y1.1 114).bind fun y6=>((Du n Aj.Bj).bind fun y8=>(bif (y6==y8) then((Bw n y1.1 114).bind fun y11=>(bif y11 then((Bw n y1.1 108).bind fun y14=>((Du n Aj.Bg).bind fun y16=>(bif (y14==y16) then((Bw n y1.1 108).bind fun y19=>(bif y19 then(some false) else(some (!(Aj.Bg==([]:List UInt8)))))) else(some true)))) else(bif (Aj.Bj==([]:List UInt8)) then((Bw n y1.1 108).bind fun y23=>((Du n Aj.Bg).bind fun y25=>(bif (y23==y25) then((Bw n y1.1 108).bind fun y28=>(bif y28 then(some false) else(some (!(Aj.Bg==([]:List UInt8)))))) else(some true)))) else(some true)))) else(some true)))).bind fun j5=>(bif j5 then(some false) else(((Bw n y1.1 101).bind fun y33=>(bif y33 then((I8 n Aj.Bh).bind fun y36=>(bif y36 then((Bw n y1.1 101).bind fun y39=>(bif y39 then((Bw n y1.1 102).bind fun y42=>(bif y42 then((I8 n Aj.Cg).bind fun y45=>(bif y45 then((Bw n y1.1 102).bind fun y48=>(bif y48 then(some false) else(some (decide (0<((Aj.Cg.length:Nat):Int)))))) else(some true))) else((Bw n y1.1 102).bind fun y51=>(bif y51 then(some false) else(some (decide (0<((Aj.Cg.length:Nat):Int)))))))) else(bif decide (0<((Aj.Bh.length:Nat):Int)) then(some true) else((Bw n y1.1 102).bind fun y55=>(bif y55 then((I8 n Aj.Cg).bind fun y58=>(bif y58 then((Bw n y1.1 102).bind fun y61=>(bif y61 then(some false) else(some (decide (0<((Aj.Cg.length:Nat):Int)))))) else(some true))) else((Bw n y1.1 102).bind fun y64=>(bif y64 then(some false) else(some (decide (0<((Aj.Cg.length:Nat):Int))))))))))) else(some true))) else((Bw n y1.1 101).bind fun y67=>(bif y67 then((Bw n y1.1 102).bind fun y70=>(bif y70 then((I8 n Aj.Cg).bind fun y73=>(bif y73 then((Bw n y1.1 102).bind fun y76=>(bif y76 then(some false) else(some (decide (0<((Aj.Cg.length:Nat):Int)))))) else(some true))) else((Bw n y1.1 102).bind fun y79=>(bif y79 then(some false) else(some (decide (0<((Aj.Cg.length:Nat):Int)))))))) else(bif decide (0<((Aj.Bh.length:Nat):Int)) then(some true) else((Bw n y1.1 102).bind fun y83=>(bif y83 then((I8 n Aj.Cg).bind fun y86=>(bif y86 then((Bw n y1.1 102).bind fun y89=>(bif y89 then(some false) else(some (decide (0<((Aj.Cg.length:Nat):Int)))))) else(some true))) else((Bw n y1.1 102).bind fun y92=>(bif y92 then(some false) else(some (decide (0<((Aj.Cg.length:Nat):Int))))))))))))).bind fun j32=>(bif j32 then(some false) else((Bw n y1.1 110).bind fun y96=>(bif y96 then((Bw n y1.1 98).bind fun y99=>(bif y99 then((Bw n y1.1 120).bind fun y102=>(bif y102 then(some true) else(some (Aj.Be==0)))) else(bif (Aj.Aq==0) then((Bw n y1.1 120).bind fun y106=>(bif y106 then(some true) else(some (Aj.Be==0)))) else(some false)))) else(bif Aj.Cx then(some false) else((Bw n y1.1 98).bind fun y110=>(bif y110 then((Bw n y1.1 120).bind fun y113=>(bif y113 then(some true) else(some (Aj.Be==0)))) else(bif (Aj.Aq==0) then((Bw n y1.1 120).bind fun y117=>(bif y117 then(some true) else(some (Aj.Be==0)))) else(some false)))))))))))) else(some false)))
def Io (n:Nat) (rec_ref03_whole:(List A2)→Int→Int→Option Bool) (Aa:(List A2)) (Bt:Int):Nat→Int→Option (LR Unit Bool)
 | 0,_=>none
 | k2+1,s1=>(bif decide (s1<Bt) then((idx Aa s1).bind fun x11=>(bif decide (x11.Aq<0) then(some (.ret false)) else(bif decide (x11.Be<0) then(some (.ret false)) else(bif decide ((IntKind.i64.wrap ((IntKind.i64.wrap (Bt - s1)) - 1))<x11.Aq) then(some (.ret false)) else(bif decide ((IntKind.i64.wrap ((IntKind.i64.wrap ((IntKind.i64.wrap (Bt - s1)) - 1)) - x11.Aq))<x11.Be) then(some (.ret false)) else((rec_ref03_whole Aa (IntKind.i64.wrap (s1+1)) (IntKind.i64.wrap ((IntKind.i64.wrap (s1+1))+x11.Aq))).bind fun y16=>(bif y16 then((rec_ref03_whole Aa (IntKind.i64.wrap ((IntKind.i64.wrap (s1+1))+x11.Aq)) (IntKind.i64.wrap ((IntKind.i64.wrap ((IntKind.i64.wrap (s1+1))+x11.Aq))+x11.Be))).bind fun y19=>(bif y19 then(Io n rec_ref03_whole Aa Bt k2 (IntKind.i64.wrap ((IntKind.i64.wrap ((IntKind.i64.wrap (s1+1))+x11.Aq))+x11.Be))) else(some (.ret false)))) else(some (.ret false))))))))) else(some (.out ())))
def Et:Nat→(List A2)→Int→Int→Option Bool
 | 0,_,_,_=>none
 | n+1,Aa,By,Bt=>((Io n (Et n) Aa Bt n By).bind fun o9=>match o9 with|.out _=>(some true)|.ret v=>some v)
def Gt (n:Nat)  (Aa:(List A2)):Nat→Int→Option (LR Unit Bool)
 | 0,_=>none
 | k6+1,s5=>(bif decide (s5<((Aa.length:Nat):Int)) then((idx Aa s5).bind fun x15=>((Rw n x15).bind fun y16=>(bif y16 then(Gt n Aa k6 (IntKind.i64.wrap (s5+1))) else(some (.ret false))))) else(some (.out ())))
def Mb:Nat→(List A2)→Option Bool
 | 0,_=>none
 | n+1,Aa=>(bif decide (200<((Aa.length:Nat):Int)) then(some false) else((Et n Aa 0 ((Aa.length:Nat):Int)).bind fun y2=>(bif y2 then((Gt n Aa n 0).bind fun o13=>match o13 with|.out _=>((Ef n Aa 0 ((Aa.length:Nat):Int)).bind fun y20=>(some (decide (y20≤30))))|.ret v=>some v) else(some false))))
def Ge (n:Nat)  (Bn:(List A2)) (Bp:(List A2)):Nat→Bool→Int→Option (LR Unit Bool)
 | 0,_,_=>none
 | k4+1,s2,s3=>(bif decide (s3<((Bn.length:Nat):Int)) then((idx Bn s3).bind fun x13=>((idx Bp s3).bind fun x14=>(bif (x13.Ah != x14.Ah) then(some (.ret false)) else(bif (x13.Bj==x14.Bj) then(bif (x13.Bg==x14.Bg) then(bif (x13.Cx==x14.Cx) then(bif (x13.Aq != x14.Aq) then(some (.ret false)) else(bif (x13.Be != x14.Be) then(some (.ret false)) else(bif s2 then(bif (x13.B0 != x14.B0) then(some (.ret false)) else((Jc n x13.Bh x14.Bh true).bind fun y23=>(bif y23 then((Jc n x13.Cg x14.Cg true).bind fun y26=>(bif y26 then(Ge n Bn Bp k4 true (IntKind.i64.wrap (s3+1))) else(some (.ret false)))) else(some (.ret false))))) else((Jc n x13.Bh x14.Bh false).bind fun y29=>(bif y29 then((Jc n x13.Cg x14.Cg false).bind fun y32=>(bif y32 then(Ge n Bn Bp k4 false (IntKind.i64.wrap (s3+1))) else(some (.ret false)))) else(some (.ret false))))))) else(some (.ret false))) else(some (.ret false))) else(some (.ret false)))))) else(some (.out ())))
def Qr:Nat→(List A2)→(List A2)→Bool→Option Bool
 | 0,_,_,_=>none
 | n+1,Bn,Bp,Ei=>(bif (((Bn.length:Nat):Int) != ((Bp.length:Nat):Int)) then(some false) else((Ge n Bn Bp n Ei 0).bind fun o11=>match o11 with|.out _=>(some true)|.ret v=>some v))
def J1 (n:Nat)  (F6:Int):Nat→(List UInt8)→Int→Option (LR (List UInt8) (List UInt8))
 | 0,_,_=>none
 | k3+1,s1,s2=>(bif decide (s2<F6) then(bif decide (s1.length+(([32,32]:List UInt8)).length≤140737488355328) then(J1 n F6 k3 (s1++([32,32]:List UInt8)) (IntKind.i64.wrap (s2+1))) else none) else(some (.out s1)))
def Kf:Nat→Int→Option (List UInt8)
 | 0,_=>none
 | n+1,F6=>((J1 n F6 n ([]:List UInt8) 0).bind fun o10=>match o10 with|.out x14=>(some x14)|.ret v=>some v)
def P5:Nat→Option (List (List UInt8))
 | 0=>none
 | n+1=>(some ([([]:List UInt8),([115,107,105,112]:List UInt8),([115,101,116]:List UInt8),([108,111,97,100]:List UInt8),([115,116,111,114,101]:List UInt8),([99,97,115]:List UInt8),([102,97,100,100]:List UInt8),([120,99,104,103]:List UInt8),([102,101,110,99,101]:List UInt8),([97,119,97,105,116]:List UInt8),([105,102]:List UInt8),([119,104,105,108,101]:List UInt8),([108,111,111,112]:List UInt8),([98,114,101,97,107]:List UInt8)]:List (List UInt8)))
def O1:Nat→A2→Option (List UInt8)
 | 0,_=>none
 | n+1,Aj=>((P5 n ).bind fun y1=>((idx y1 Aj.Ah).bind fun x3=>(bif (Aj.Ah==2) then(bif decide (x3.length+(([32]:List UInt8)).length≤140737488355328) then(bif decide (((x3++([32]:List UInt8))).length+Aj.Bj.length≤140737488355328) then(bif decide ((((x3++([32]:List UInt8))++Aj.Bj)).length+(([32,61,32]:List UInt8)).length≤140737488355328) then((Dc n Aj.Bh).bind fun y8=>(bif decide (((((x3++([32]:List UInt8))++Aj.Bj)++([32,61,32]:List UInt8))).length+y8.length≤140737488355328) then(bif decide ((((((x3++([32]:List UInt8))++Aj.Bj)++([32,61,32]:List UInt8))++y8)).length+(([59,10]:List UInt8)).length≤140737488355328) then(some (((((x3++([32]:List UInt8))++Aj.Bj)++([32,61,32]:List UInt8))++y8)++([59,10]:List UInt8))) else none) else none)) else none) else none) else none) else(bif (Aj.Ah==3) then(bif decide (x3.length+(([32]:List UInt8)).length≤140737488355328) then(bif decide (((x3++([32]:List UInt8))).length+Aj.Bj.length≤140737488355328) then(bif decide ((((x3++([32]:List UInt8))++Aj.Bj)).length+(([32,61,32]:List UInt8)).length≤140737488355328) then(bif decide (((((x3++([32]:List UInt8))++Aj.Bj)++([32,61,32]:List UInt8))).length+Aj.Bg.length≤140737488355328) then(bif decide ((((((x3++([32]:List UInt8))++Aj.Bj)++([32,61,32]:List UInt8))++Aj.Bg)).length+(([59,10]:List UInt8)).length≤140737488355328) then(some (((((x3++([32]:List UInt8))++Aj.Bj)++([32,61,32]:List UInt8))++Aj.Bg)++([59,10]:List UInt8))) else none) else none) else none) else none) else none) else(bif (Aj.Ah==4) then(bif decide (x3.length+(([32]:List UInt8)).length≤140737488355328) then(bif decide (((x3++([32]:List UInt8))).length+Aj.Bg.length≤140737488355328) then(bif decide ((((x3++([32]:List UInt8))++Aj.Bg)).length+(([32,61,32]:List UInt8)).length≤140737488355328) then((Dc n Aj.Bh).bind fun y22=>(bif decide (((((x3++([32]:List UInt8))++Aj.Bg)++([32,61,32]:List UInt8))).length+y22.length≤140737488355328) then(bif decide ((((((x3++([32]:List UInt8))++Aj.Bg)++([32,61,32]:List UInt8))++y22)).length+(([59,10]:List UInt8)).length≤140737488355328) then(some (((((x3++([32]:List UInt8))++Aj.Bg)++([32,61,32]:List UInt8))++y22)++([59,10]:List UInt8))) else none) else none)) else none) else none) else none) else(bif (Aj.Ah==5) then(bif decide (x3.length+(([32]:List UInt8)).length≤140737488355328) then(bif decide (((x3++([32]:List UInt8))).length+Aj.Bj.length≤140737488355328) then(bif decide ((((x3++([32]:List UInt8))++Aj.Bj)).length+(([32,61,32]:List UInt8)).length≤140737488355328) then(bif decide (((((x3++([32]:List UInt8))++Aj.Bj)++([32,61,32]:List UInt8))).length+Aj.Bg.length≤140737488355328) then(bif decide ((((((x3++([32]:List UInt8))++Aj.Bj)++([32,61,32]:List UInt8))++Aj.Bg)).length+(([44,32]:List UInt8)).length≤140737488355328) then((Dc n Aj.Bh).bind fun y32=>(bif decide (((((((x3++([32]:List UInt8))++Aj.Bj)++([32,61,32]:List UInt8))++Aj.Bg)++([44,32]:List UInt8))).length+y32.length≤140737488355328) then(bif decide ((((((((x3++([32]:List UInt8))++Aj.Bj)++([32,61,32]:List UInt8))++Aj.Bg)++([44,32]:List UInt8))++y32)).length+(([44,32]:List UInt8)).length≤140737488355328) then((Dc n Aj.Cg).bind fun y36=>(bif decide (((((((((x3++([32]:List UInt8))++Aj.Bj)++([32,61,32]:List UInt8))++Aj.Bg)++([44,32]:List UInt8))++y32)++([44,32]:List UInt8))).length+y36.length≤140737488355328) then(bif decide ((((((((((x3++([32]:List UInt8))++Aj.Bj)++([32,61,32]:List UInt8))++Aj.Bg)++([44,32]:List UInt8))++y32)++([44,32]:List UInt8))++y36)).length+(([59,10]:List UInt8)).length≤140737488355328) then(some (((((((((x3++([32]:List UInt8))++Aj.Bj)++([32,61,32]:List UInt8))++Aj.Bg)++([44,32]:List UInt8))++y32)++([44,32]:List UInt8))++y36)++([59,10]:List UInt8))) else none) else none)) else none) else none)) else none) else none) else none) else none) else none) else(bif (Aj.Ah==6) then(bif decide (x3.length+(([32]:List UInt8)).length≤140737488355328) then(bif decide (((x3++([32]:List UInt8))).length+Aj.Bj.length≤140737488355328) then(bif decide ((((x3++([32]:List UInt8))++Aj.Bj)).length+(([32,61,32]:List UInt8)).length≤140737488355328) then(bif decide (((((x3++([32]:List UInt8))++Aj.Bj)++([32,61,32]:List UInt8))).length+Aj.Bg.length≤140737488355328) then(bif decide ((((((x3++([32]:List UInt8))++Aj.Bj)++([32,61,32]:List UInt8))++Aj.Bg)).length+(([44,32]:List UInt8)).length≤140737488355328) then((Dc n Aj.Bh).bind fun y46=>(bif decide (((((((x3++([32]:List UInt8))++Aj.Bj)++([32,61,32]:List UInt8))++Aj.Bg)++([44,32]:List UInt8))).length+y46.length≤140737488355328) then(bif decide ((((((((x3++([32]:List UInt8))++Aj.Bj)++([32,61,32]:List UInt8))++Aj.Bg)++([44,32]:List UInt8))++y46)).length+(([59,10]:List UInt8)).length≤140737488355328) then(some (((((((x3++([32]:List UInt8))++Aj.Bj)++([32,61,32]:List UInt8))++Aj.Bg)++([44,32]:List UInt8))++y46)++([59,10]:List UInt8))) else none) else none)) else none) else none) else none) else none) else none) else(bif (Aj.Ah==7) then(bif decide (x3.length+(([32]:List UInt8)).length≤140737488355328) then(bif decide (((x3++([32]:List UInt8))).length+Aj.Bj.length≤140737488355328) then(bif decide ((((x3++([32]:List UInt8))++Aj.Bj)).length+(([32,61,32]:List UInt8)).length≤140737488355328) then(bif decide (((((x3++([32]:List UInt8))++Aj.Bj)++([32,61,32]:List UInt8))).length+Aj.Bg.length≤140737488355328) then(bif decide ((((((x3++([32]:List UInt8))++Aj.Bj)++([32,61,32]:List UInt8))++Aj.Bg)).length+(([44,32]:List UInt8)).length≤140737488355328) then((Dc n Aj.Bh).bind fun y56=>(bif decide (((((((x3++([32]:List UInt8))++Aj.Bj)++([32,61,32]:List UInt8))++Aj.Bg)++([44,32]:List UInt8))).length+y56.length≤140737488355328) then(bif decide ((((((((x3++([32]:List UInt8))++Aj.Bj)++([32,61,32]:List UInt8))++Aj.Bg)++([44,32]:List UInt8))++y56)).length+(([59,10]:List UInt8)).length≤140737488355328) then(some (((((((x3++([32]:List UInt8))++Aj.Bj)++([32,61,32]:List UInt8))++Aj.Bg)++([44,32]:List UInt8))++y56)++([59,10]:List UInt8))) else none) else none)) else none) else none) else none) else none) else none) else(bif (Aj.Ah==9) then(bif Aj.Cx then(bif decide (x3.length+(([32]:List UInt8)).length≤140737488355328) then(bif decide (((x3++([32]:List UInt8))).length+Aj.Bg.length≤140737488355328) then(bif decide ((((x3++([32]:List UInt8))++Aj.Bg)).length+(([32,33,61,32]:List UInt8)).length≤140737488355328) then((Dc n Aj.Bh).bind fun y65=>(bif decide (((((x3++([32]:List UInt8))++Aj.Bg)++([32,33,61,32]:List UInt8))).length+y65.length≤140737488355328) then(bif decide ((((((x3++([32]:List UInt8))++Aj.Bg)++([32,33,61,32]:List UInt8))++y65)).length+(([59,10]:List UInt8)).length≤140737488355328) then(some (((((x3++([32]:List UInt8))++Aj.Bg)++([32,33,61,32]:List UInt8))++y65)++([59,10]:List UInt8))) else none) else none)) else none) else none) else none) else(bif decide (x3.length+(([32]:List UInt8)).length≤140737488355328) then(bif decide (((x3++([32]:List UInt8))).length+Aj.Bg.length≤140737488355328) then(bif decide ((((x3++([32]:List UInt8))++Aj.Bg)).length+(([32,61,61,32]:List UInt8)).length≤140737488355328) then((Dc n Aj.Bh).bind fun y72=>(bif decide (((((x3++([32]:List UInt8))++Aj.Bg)++([32,61,61,32]:List UInt8))).length+y72.length≤140737488355328) then(bif decide ((((((x3++([32]:List UInt8))++Aj.Bg)++([32,61,61,32]:List UInt8))++y72)).length+(([59,10]:List UInt8)).length≤140737488355328) then(some (((((x3++([32]:List UInt8))++Aj.Bg)++([32,61,61,32]:List UInt8))++y72)++([59,10]:List UInt8))) else none) else none)) else none) else none) else none)) else(bif decide (x3.length+(([59,10]:List UInt8)).length≤140737488355328) then(some (x3++([59,10]:List UInt8))) else none))))))))))
def Dk (n:Nat) (rec_ref03_show:(List A2)→Int→Int→Int→Option (List UInt8)) (Aa:(List A2)) (D9:Int) (y1:(List Int)):Nat→(List UInt8)→Int→Option (LR (List UInt8) (List UInt8))
 | 0,_,_=>none
 | k5+1,s3,s4=>(bif decide (s4<((y1.length:Nat):Int)) then((idx y1 s4).bind fun x14=>((idx Aa x14).bind fun x15=>((Kf n D9).bind fun y16=>(bif decide (s3.length+y16.length≤140737488355328) then((Me n x15.Ah).bind fun y19=>(bif y19 then((P5 n ).bind fun y22=>((idx y22 x15.Ah).bind fun x24=>(bif decide (((s3++y16)).length+x24.length≤140737488355328) then(bif decide ((((s3++y16)++x24)).length+(([32]:List UInt8)).length≤140737488355328) then(bif (x15.Ah != 12) then((Dc n x15.Bh).bind fun y28=>(bif decide (((((s3++y16)++x24)++([32]:List UInt8))).length+y28.length≤140737488355328) then(bif decide ((((((s3++y16)++x24)++([32]:List UInt8))++y28)).length+(([32]:List UInt8)).length≤140737488355328) then((idx y1 s4).bind fun x32=>(bif decide (((((((s3++y16)++x24)++([32]:List UInt8))++y28)++([32]:List UInt8))).length+(([123,10]:List UInt8)).length≤140737488355328) then((idx y1 s4).bind fun x34=>((rec_ref03_show Aa (IntKind.i64.wrap (x34+1)) (IntKind.i64.wrap ((IntKind.i64.wrap (x32+1))+x15.Aq)) (IntKind.i64.wrap (D9+1))).bind fun y35=>(bif decide ((((((((s3++y16)++x24)++([32]:List UInt8))++y28)++([32]:List UInt8))++([123,10]:List UInt8))).length+y35.length≤140737488355328) then((Kf n D9).bind fun y38=>(bif decide (((((((((s3++y16)++x24)++([32]:List UInt8))++y28)++([32]:List UInt8))++([123,10]:List UInt8))++y35)).length+y38.length≤140737488355328) then(bif decide (0<x15.Be) then(bif decide ((((((((((s3++y16)++x24)++([32]:List UInt8))++y28)++([32]:List UInt8))++([123,10]:List UInt8))++y35)++y38)).length+(([125,32,101,108,115,101,32,123,10]:List UInt8)).length≤140737488355328) then((rec_ref03_show Aa (IntKind.i64.wrap ((IntKind.i64.wrap (x32+1))+x15.Aq)) (IntKind.i64.wrap ((IntKind.i64.wrap ((IntKind.i64.wrap (x32+1))+x15.Aq))+x15.Be)) (IntKind.i64.wrap (D9+1))).bind fun y43=>(bif decide (((((((((((s3++y16)++x24)++([32]:List UInt8))++y28)++([32]:List UInt8))++([123,10]:List UInt8))++y35)++y38)++([125,32,101,108,115,101,32,123,10]:List UInt8))).length+y43.length≤140737488355328) then((Kf n D9).bind fun y46=>(bif decide ((((((((((((s3++y16)++x24)++([32]:List UInt8))++y28)++([32]:List UInt8))++([123,10]:List UInt8))++y35)++y38)++([125,32,101,108,115,101,32,123,10]:List UInt8))++y43)).length+y46.length≤140737488355328) then(bif decide (((((((((((((s3++y16)++x24)++([32]:List UInt8))++y28)++([32]:List UInt8))++([123,10]:List UInt8))++y35)++y38)++([125,32,101,108,115,101,32,123,10]:List UInt8))++y43)++y46)).length+(([125,10]:List UInt8)).length≤140737488355328) then(Dk n rec_ref03_show Aa D9 y1 k5 ((((((((((((s3++y16)++x24)++([32]:List UInt8))++y28)++([32]:List UInt8))++([123,10]:List UInt8))++y35)++y38)++([125,32,101,108,115,101,32,123,10]:List UInt8))++y43)++y46)++([125,10]:List UInt8)) (IntKind.i64.wrap (s4+1))) else none) else none)) else none)) else none) else(bif decide ((((((((((s3++y16)++x24)++([32]:List UInt8))++y28)++([32]:List UInt8))++([123,10]:List UInt8))++y35)++y38)).length+(([125,10]:List UInt8)).length≤140737488355328) then(Dk n rec_ref03_show Aa D9 y1 k5 (((((((((s3++y16)++x24)++([32]:List UInt8))++y28)++([32]:List UInt8))++([123,10]:List UInt8))++y35)++y38)++([125,10]:List UInt8)) (IntKind.i64.wrap (s4+1))) else none)) else none)) else none))) else none)) else none) else none)) else((idx y1 s4).bind fun x51=>(bif decide (((((s3++y16)++x24)++([32]:List UInt8))).length+(([123,10]:List UInt8)).length≤140737488355328) then((idx y1 s4).bind fun x53=>((rec_ref03_show Aa (IntKind.i64.wrap (x53+1)) (IntKind.i64.wrap ((IntKind.i64.wrap (x51+1))+x15.Aq)) (IntKind.i64.wrap (D9+1))).bind fun y54=>(bif decide ((((((s3++y16)++x24)++([32]:List UInt8))++([123,10]:List UInt8))).length+y54.length≤140737488355328) then((Kf n D9).bind fun y57=>(bif decide (((((((s3++y16)++x24)++([32]:List UInt8))++([123,10]:List UInt8))++y54)).length+y57.length≤140737488355328) then(bif decide (0<x15.Be) then(bif decide ((((((((s3++y16)++x24)++([32]:List UInt8))++([123,10]:List UInt8))++y54)++y57)).length+(([125,32,101,108,115,101,32,123,10]:List UInt8)).length≤140737488355328) then((rec_ref03_show Aa (IntKind.i64.wrap ((IntKind.i64.wrap (x51+1))+x15.Aq)) (IntKind.i64.wrap ((IntKind.i64.wrap ((IntKind.i64.wrap (x51+1))+x15.Aq))+x15.Be)) (IntKind.i64.wrap (D9+1))).bind fun y62=>(bif decide (((((((((s3++y16)++x24)++([32]:List UInt8))++([123,10]:List UInt8))++y54)++y57)++([125,32,101,108,115,101,32,123,10]:List UInt8))).length+y62.length≤140737488355328) then((Kf n D9).bind fun y65=>(bif decide ((((((((((s3++y16)++x24)++([32]:List UInt8))++([123,10]:List UInt8))++y54)++y57)++([125,32,101,108,115,101,32,123,10]:List UInt8))++y62)).length+y65.length≤140737488355328) then(bif decide (((((((((((s3++y16)++x24)++([32]:List UInt8))++([123,10]:List UInt8))++y54)++y57)++([125,32,101,108,115,101,32,123,10]:List UInt8))++y62)++y65)).length+(([125,10]:List UInt8)).length≤140737488355328) then(Dk n rec_ref03_show Aa D9 y1 k5 ((((((((((s3++y16)++x24)++([32]:List UInt8))++([123,10]:List UInt8))++y54)++y57)++([125,32,101,108,115,101,32,123,10]:List UInt8))++y62)++y65)++([125,10]:List UInt8)) (IntKind.i64.wrap (s4+1))) else none) else none)) else none)) else none) else(bif decide ((((((((s3++y16)++x24)++([32]:List UInt8))++([123,10]:List UInt8))++y54)++y57)).length+(([125,10]:List UInt8)).length≤140737488355328) then(Dk n rec_ref03_show Aa D9 y1 k5 (((((((s3++y16)++x24)++([32]:List UInt8))++([123,10]:List UInt8))++y54)++y57)++([125,10]:List UInt8)) (IntKind.i64.wrap (s4+1))) else none)) else none)) else none))) else none))) else none) else none))) else((O1 n x15).bind fun y70=>(bif decide (((s3++y16)).length+y70.length≤140737488355328) then(Dk n rec_ref03_show Aa D9 y1 k5 ((s3++y16)++y70) (IntKind.i64.wrap (s4+1))) else none)))) else none)))) else(some (.out s3)))
def Eu:Nat→(List A2)→Int→Int→Int→Option (List UInt8)
 | 0,_,_,_,_=>none
 | n+1,Aa,By,Bt,D9=>((Km n Aa By Bt).bind fun y1=>((Dk n (Eu n) Aa D9 y1 n ([]:List UInt8) 0).bind fun o12=>match o12 with|.out x74=>(some x74)|.ret v=>some v))
def Lm:Nat→(List A2)→Int→Option (List UInt8)
 | 0,_,_=>none
 | n+1,Aa,Lg=>((Mb n Aa).bind fun y1=>(bif y1 then(bif decide (Lg<0) then(some ([]:List UInt8)) else(bif decide (100<Lg) then(some ([]:List UInt8)) else((Eu n Aa 0 ((Aa.length:Nat):Int) Lg).bind fun y6=>(some y6)))) else(some ([]:List UInt8))))
def Lr:Nat→Option (List Bm)
 | 0=>none
 | n+1=>(some ([(⟨([]:List UInt8),([]:List UInt8),false,false⟩:Bm),(⟨([115,107,105,112]:List UInt8),([59]:List UInt8),false,false⟩:Bm),(⟨([115,101,116]:List UInt8),([114,61,101,59]:List UInt8),false,false⟩:Bm),(⟨([108,111,97,100]:List UInt8),([114,61,108,59]:List UInt8),false,false⟩:Bm),(⟨([115,116,111,114,101]:List UInt8),([108,61,101,59]:List UInt8),false,false⟩:Bm),(⟨([99,97,115]:List UInt8),([114,61,108,44,101,44,102,59]:List UInt8),false,false⟩:Bm),(⟨([102,97,100,100]:List UInt8),([114,61,108,44,101,59]:List UInt8),false,false⟩:Bm),(⟨([120,99,104,103]:List UInt8),([114,61,108,44,101,59]:List UInt8),false,false⟩:Bm),(⟨([102,101,110,99,101]:List UInt8),([59]:List UInt8),false,false⟩:Bm),(⟨([97,119,97,105,116]:List UInt8),([108,113,101,59]:List UInt8),false,false⟩:Bm),(⟨([105,102]:List UInt8),([101]:List UInt8),true,true⟩:Bm),(⟨([119,104,105,108,101]:List UInt8),([101]:List UInt8),true,false⟩:Bm),(⟨([108,111,111,112]:List UInt8),([]:List UInt8),true,false⟩:Bm),(⟨([98,114,101,97,107]:List UInt8),([59]:List UInt8),false,false⟩:Bm)]:List Bm))
def Fu:Nat→Int→(List UInt8)→(List A6)→Int→Int→Int→(List ((List UInt8)×Int))→Option Bool
 | 0,_,_,_,_,_,_,_=>none
 | n+1,Ho,Aej,p_l,p_i,p_e,p_at,At=>(bif decide (p_i<((p_l.length:Nat):Int)) then((idx p_l p_i).bind fun x2=>(bif (x2.Ah==Ho) then((idx p_l p_i).bind fun x4=>(some (x4.Au==Aej))) else(some false))) else(some false))
def Od:Nat→Int→Option (Bm×Bool)
 | 0,_=>none
 | n+1,Bv=>((Lr n ).bind fun y1=>(bif decide (Bv<1) then(some ((⟨([]:List UInt8),([]:List UInt8),false,false⟩:Bm),false)) else(bif decide (((y1.length:Nat):Int)≤Bv) then(some ((⟨([]:List UInt8),([]:List UInt8),false,false⟩:Bm),false)) else((idx y1 Bv).bind fun x5=>(some (x5,true))))))
def V3:Nat→Option Bm
 | 0=>none
 | n+1=>((Lr n ).bind fun y1=>(some (⟨([]:List UInt8),([]:List UInt8),false,false⟩:Bm)))
def Hm:Nat→Int→(List A6)→Int→Int→Int→(List ((List UInt8)×Int))→Option Int
 | 0,_,_,_,_,_,_=>none
 | n+1,C3,p_l,p_i,p_e,p_at,At=>(bif decide (C3<((p_l.length:Nat):Int)) then((idx p_l C3).bind fun x2=>(some x2.B0)) else(bif decide (0<((p_l.length:Nat):Int)) then((idx p_l (IntKind.i64.wrap (((p_l.length:Nat):Int) - 1))).bind fun x4=>((idx p_l (IntKind.i64.wrap (((p_l.length:Nat):Int) - 1))).bind fun x5=>(some (IntKind.i64.wrap (x4.B0+((x5.Au.length:Nat):Int)))))) else(some 0)))
def Dg:Nat→(List A6)→Int→Int→Int→(List ((List UInt8)×Int))→Option (Int×Int)
 | 0,_,_,_,_,_=>none
 | n+1,p_l,p_i,p_e,p_at,At=>(bif (p_e != 0) then(some (p_e,p_at)) else((Hm n p_i p_l p_i p_e p_at At).bind fun y2=>(bif decide (((p_l.length:Nat):Int)≤p_i) then(some (6,y2)) else(some (5,y2)))))
def C4:Nat→(List UInt8)→(List A6)→Int→Int→Int→(List ((List UInt8)×Int))→Option (Int×Int×Int)
 | 0,_,_,_,_,_,_=>none
 | n+1,M9,p_l,p_i,p_e,p_at,At=>(bif (p_e != 0) then(some (p_i,p_e,p_at)) else((Fu n 3 M9 p_l p_i p_e p_at At).bind fun y2=>(bif y2 then(some (IntKind.i64.wrap (p_i+1),p_e,p_at)) else((Dg n p_l p_i p_e p_at At).bind fun y5=>(some (p_i,y5.1,y5.2))))))
def N8:Nat→(List A6)→Int→Int→Int→(List ((List UInt8)×Int))→Option ((List UInt8)×Int×Int×Int)
 | 0,_,_,_,_,_=>none
 | n+1,p_l,p_i,p_e,p_at,At=>(bif (p_e != 0) then(some (([]:List UInt8),p_i,p_e,p_at)) else(bif decide (((p_l.length:Nat):Int)≤p_i) then((Dg n p_l p_i p_e p_at At).bind fun y3=>(some (([]:List UInt8),p_i,y3.1,y3.2))) else((idx p_l p_i).bind fun x5=>(bif (x5.Ah != 1) then((Dg n p_l p_i p_e p_at At).bind fun y7=>(some (([]:List UInt8),p_i,y7.1,y7.2))) else((idx p_l p_i).bind fun x9=>((Df n x9.Au).bind fun y10=>(bif y10 then((idx p_l (IntKind.i64.wrap ((IntKind.i64.wrap (p_i+1)) - 1))).bind fun x13=>(some (x13.Au,IntKind.i64.wrap (p_i+1),p_e,p_at))) else((Dg n p_l p_i p_e p_at At).bind fun y14=>(some (([]:List UInt8),p_i,y14.1,y14.2))))))))))
def Nr:Nat→(List A6)→Int→Int→Int→(List ((List UInt8)×Int))→Int→(List UInt8)→(List UInt8)→(List A0)→(List A0)→Bool→Int→Int→Int→Option (Int×Int×Int×(List UInt8))
 | 0,_,_,_,_,_,_,_,_,_,_,_,_,_,_=>none
 | n+1,Fi,K2,K3,H6,Fj,D1,E6,E7,Jt,Ju,H7,D2,D3,F1=>((N8 n Fi K2 K3 H6 Fj).bind fun y1=>(some (y1.2.1,y1.2.2.1,y1.2.2.2,y1.1)))
def Nz:Nat→(List A6)→Int→Int→Int→(List ((List UInt8)×Int))→Int→(List UInt8)→(List UInt8)→(List A0)→(List A0)→Bool→Int→Int→Int→Option (Int×Int×Int×(List UInt8))
 | 0,_,_,_,_,_,_,_,_,_,_,_,_,_,_=>none
 | n+1,Fi,K2,K3,H6,Fj,D1,E6,E7,Jt,Ju,H7,D2,D3,F1=>((N8 n Fi K2 K3 H6 Fj).bind fun y1=>(some (y1.2.1,y1.2.2.1,y1.2.2.2,y1.1)))
def Jo (n:Nat)  (y1:(List A0)):Nat→Int→Option (LR Unit Bool)
 | 0,_=>none
 | k4+1,s3=>(bif decide (s3<((y1.length:Nat):Int)) then((idx y1 s3).bind fun x13=>(bif (x13.B1 != 2) then(some (.ret false)) else(Jo n y1 k4 (IntKind.i64.wrap (s3+1))))) else(some (.out ())))
def O7:Nat→(List A0)→Option Bool
 | 0,_=>none
 | n+1,Aa=>((Np n Aa).bind fun y1=>((Jo n y1 n 0).bind fun o11=>match o11 with|.out _=>((Lv n Aa).bind fun y16=>(some y16))|.ret v=>some v))
def Mx:Nat→(List A6)→Int→Int→Int→(List ((List UInt8)×Int))→Option ((List A0)×Int×Int×Int)
 | 0,_,_,_,_,_=>none
 | n+1,p_l,p_i,p_e,p_at,At=>(bif (p_e != 0) then(some (([]:List A0),p_i,p_e,p_at)) else((To n p_l p_i).bind fun y2=>(bif (y2.2.2.1 != 0) then(some (([]:List A0),p_i,y2.2.2.1,y2.2.2.2)) else((O7 n y2.1).bind fun y5=>(bif y5 then(some (y2.1,y2.2.1,p_e,p_at)) else((Dg n p_l p_i p_e p_at At).bind fun y8=>(some (([]:List A0),p_i,y8.1,y8.2))))))))
def Nv:Nat→(List A6)→Int→Int→Int→(List ((List UInt8)×Int))→Int→(List UInt8)→(List UInt8)→(List A0)→(List A0)→Bool→Int→Int→Int→Option (Int×Int×Int×(List A0))
 | 0,_,_,_,_,_,_,_,_,_,_,_,_,_,_=>none
 | n+1,Fi,K2,K3,H6,Fj,D1,E6,E7,Jt,Ju,H7,D2,D3,F1=>((Mx n Fi K2 K3 H6 Fj).bind fun y1=>(some (y1.2.1,y1.2.2.1,y1.2.2.2,y1.1)))
def Nq:Nat→(List A6)→Int→Int→Int→(List ((List UInt8)×Int))→Int→(List UInt8)→(List UInt8)→(List A0)→(List A0)→Bool→Int→Int→Int→Option (Int×Int×Int×(List A0))
 | 0,_,_,_,_,_,_,_,_,_,_,_,_,_,_=>none
 | n+1,Fi,K2,K3,H6,Fj,D1,E6,E7,Jt,Ju,H7,D2,D3,F1=>((Mx n Fi K2 K3 H6 Fj).bind fun y1=>(some (y1.2.1,y1.2.2.1,y1.2.2.2,y1.1)))
def Ny:Nat→(List A6)→Int→Int→Int→(List ((List UInt8)×Int))→Int→(List UInt8)→(List UInt8)→(List A0)→(List A0)→Bool→Int→Int→Int→Option (Int×Int×Int×Bool)
 | 0,_,_,_,_,_,_,_,_,_,_,_,_,_,_=>none
 | n+1,Fi,K2,K3,H6,Fj,D1,E6,E7,Jt,Ju,H7,D2,D3,F1=>((Fu n 3 ([33,61]:List UInt8) Fi K2 K3 H6 Fj).bind fun y1=>(bif y1 then(some (IntKind.i64.wrap (K2+1),K3,H6,true)) else((C4 n ([61,61]:List UInt8) Fi K2 K3 H6 Fj).bind fun y4=>(some (y4.1,y4.2.1,y4.2.2,false)))))
def Jw (n:Nat) (rec_stmt_parser_one:Int→(List A6)→Int→Int→Int→(List ((List UInt8)×Int))→Option ((List A2)×Int×Int×Int)) (Er:Int) (p_l:(List A6)) (At:(List ((List UInt8)×Int))):Nat→Int→Int→Int→(List A2)→Option (LR (Int×Int×Int×(List A2)) ((List A2)×Int×Int×Int))
 | 0,_,_,_,_=>none
 | k5+1,s1,s2,s3,s4=>(bif (s2==0) then(bif decide (s1<((p_l.length:Nat):Int)) then((Fu n 3 ([125]:List UInt8) p_l s1 s2 s3 At).bind fun y15=>(bif y15 then(some (.out (s1,s2,s3,s4))) else((rec_stmt_parser_one Er p_l s1 s2 s3 At).bind fun y18=>(bif decide ((s4.length+y18.1.length)*121≤140737488355328) then(Jw n rec_stmt_parser_one Er p_l At k5 y18.2.1 y18.2.2.1 y18.2.2.2 (s4++y18.1)) else none)))) else(some (.out (s1,s2,s3,s4)))) else(some (.out (s1,s2,s3,s4))))
def Cc (n:Nat)  (p_l:(List A6)) (At:(List ((List UInt8)×Int))) (x4:A6) (y5:(Bm×Bool)) (y8:Int):Nat→Int→Int→Int→Int→(List UInt8)→(List UInt8)→(List A0)→(List A0)→Bool→Option (LR (Int×Int×Int×(List UInt8)×(List UInt8)×(List A0)×(List A0)×Bool) ((List A2)×Int×Int×Int))
 | 0,_,_,_,_,_,_,_,_,_=>none
 | k25+1,s16,s17,s18,s19,s20,s21,s22,s23,s24=>(bif decide (s16<((y5.1.f_form.length:Nat):Int)) then((idx y5.1.f_form s16).bind fun x34=>(bif decide ((x34.toNat:Int)=114) then(bif (s18==0) then((Nr n p_l s17 s18 s19 At (Bc At x4.Au 0) s20 s21 s22 s23 s24 0 0 y8).bind fun y37=>(Cc n p_l At x4 y5 y8 k25 (IntKind.i64.wrap (s16+1)) y37.1 y37.2.1 y37.2.2.1 y37.2.2.2 s21 s22 s23 s24)) else(bif (decide (0≤(IntKind.i64.wrap (s16+1)))&&decide ((IntKind.i64.wrap (s16+1))≤((y5.1.f_form.length:Nat):Int))&&decide (0≤s16)&&decide (s16≤(IntKind.i64.wrap (s16+1)))) then((C4 n (List.drop (s16.toNat) (List.take ((IntKind.i64.wrap (s16+1)).toNat) y5.1.f_form)) p_l s17 s18 s19 At).bind fun y40=>(Cc n p_l At x4 y5 y8 k25 (IntKind.i64.wrap (s16+1)) y40.1 y40.2.1 y40.2.2 s20 s21 s22 s23 s24)) else none)) else(bif decide ((x34.toNat:Int)=108) then(bif (s18==0) then((Nz n p_l s17 s18 s19 At (Bc At x4.Au 0) s20 s21 s22 s23 s24 0 0 y8).bind fun y44=>(Cc n p_l At x4 y5 y8 k25 (IntKind.i64.wrap (s16+1)) y44.1 y44.2.1 y44.2.2.1 s20 y44.2.2.2 s22 s23 s24)) else(bif (decide (0≤(IntKind.i64.wrap (s16+1)))&&decide ((IntKind.i64.wrap (s16+1))≤((y5.1.f_form.length:Nat):Int))&&decide (0≤s16)&&decide (s16≤(IntKind.i64.wrap (s16+1)))) then((C4 n (List.drop (s16.toNat) (List.take ((IntKind.i64.wrap (s16+1)).toNat) y5.1.f_form)) p_l s17 s18 s19 At).bind fun y47=>(Cc n p_l At x4 y5 y8 k25 (IntKind.i64.wrap (s16+1)) y47.1 y47.2.1 y47.2.2 s20 s21 s22 s23 s24)) else none)) else(bif decide ((x34.toNat:Int)=101) then(bif (s18==0) then((Nv n p_l s17 s18 s19 At (Bc At x4.Au 0) s20 s21 s22 s23 s24 0 0 y8).bind fun y51=>(Cc n p_l At x4 y5 y8 k25 (IntKind.i64.wrap (s16+1)) y51.1 y51.2.1 y51.2.2.1 s20 s21 y51.2.2.2 s23 s24)) else(bif (decide (0≤(IntKind.i64.wrap (s16+1)))&&decide ((IntKind.i64.wrap (s16+1))≤((y5.1.f_form.length:Nat):Int))&&decide (0≤s16)&&decide (s16≤(IntKind.i64.wrap (s16+1)))) then((C4 n (List.drop (s16.toNat) (List.take ((IntKind.i64.wrap (s16+1)).toNat) y5.1.f_form)) p_l s17 s18 s19 At).bind fun y54=>(Cc n p_l At x4 y5 y8 k25 (IntKind.i64.wrap (s16+1)) y54.1 y54.2.1 y54.2.2 s20 s21 s22 s23 s24)) else none)) else(bif decide ((x34.toNat:Int)=102) then(bif (s18==0) then((Nq n p_l s17 s18 s19 At (Bc At x4.Au 0) s20 s21 s22 s23 s24 0 0 y8).bind fun y58=>(Cc n p_l At x4 y5 y8 k25 (IntKind.i64.wrap (s16+1)) y58.1 y58.2.1 y58.2.2.1 s20 s21 s22 y58.2.2.2 s24)) else(bif (decide (0≤(IntKind.i64.wrap (s16+1)))&&decide ((IntKind.i64.wrap (s16+1))≤((y5.1.f_form.length:Nat):Int))&&decide (0≤s16)&&decide (s16≤(IntKind.i64.wrap (s16+1)))) then((C4 n (List.drop (s16.toNat) (List.take ((IntKind.i64.wrap (s16+1)).toNat) y5.1.f_form)) p_l s17 s18 s19 At).bind fun y61=>(Cc n p_l At x4 y5 y8 k25 (IntKind.i64.wrap (s16+1)) y61.1 y61.2.1 y61.2.2 s20 s21 s22 s23 s24)) else none)) else(bif decide ((x34.toNat:Int)=113) then(bif (s18==0) then((Ny n p_l s17 s18 s19 At (Bc At x4.Au 0) s20 s21 s22 s23 s24 0 0 y8).bind fun y65=>(Cc n p_l At x4 y5 y8 k25 (IntKind.i64.wrap (s16+1)) y65.1 y65.2.1 y65.2.2.1 s20 s21 s22 s23 y65.2.2.2)) else(bif (decide (0≤(IntKind.i64.wrap (s16+1)))&&decide ((IntKind.i64.wrap (s16+1))≤((y5.1.f_form.length:Nat):Int))&&decide (0≤s16)&&decide (s16≤(IntKind.i64.wrap (s16+1)))) then((C4 n (List.drop (s16.toNat) (List.take ((IntKind.i64.wrap (s16+1)).toNat) y5.1.f_form)) p_l s17 s18 s19 At).bind fun y68=>(Cc n p_l At x4 y5 y8 k25 (IntKind.i64.wrap (s16+1)) y68.1 y68.2.1 y68.2.2 s20 s21 s22 s23 s24)) else none)) else(bif (decide (0≤(IntKind.i64.wrap (s16+1)))&&decide ((IntKind.i64.wrap (s16+1))≤((y5.1.f_form.length:Nat):Int))&&decide (0≤s16)&&decide (s16≤(IntKind.i64.wrap (s16+1)))) then((C4 n (List.drop (s16.toNat) (List.take ((IntKind.i64.wrap (s16+1)).toNat) y5.1.f_form)) p_l s17 s18 s19 At).bind fun y71=>(Cc n p_l At x4 y5 y8 k25 (IntKind.i64.wrap (s16+1)) y71.1 y71.2.1 y71.2.2 s20 s21 s22 s23 s24)) else none))))))) else(some (.out (s17,s18,s19,s20,s21,s22,s23,s24))))
mutual
def Jx:Nat→Int→(List A6)→Int→Int→Int→(List ((List UInt8)×Int))→Option ((List A2)×Int×Int×Int)
 | 0,_,_,_,_,_,_=>none
 | n+1,Er,p_l,p_i,p_e,p_at,At=>(bif (p_e==0) then((Fu n 3 ([123]:List UInt8) p_l p_i p_e p_at At).bind fun y2=>(bif y2 then(bif decide (30≤Er) then((Hm n p_i p_l p_i p_e p_at At).bind fun y6=>((C4 n ([123]:List UInt8) p_l p_i 7 y6 At).bind fun y8=>(((G2 n) (IntKind.i64.wrap (Er+1)) p_l y8.1 y8.2.1 y8.2.2 At).bind fun y10=>((C4 n ([125]:List UInt8) p_l y10.2.1 y10.2.2.1 y10.2.2.2 At).bind fun y12=>(some (y10.1,y12.1,y12.2.1,y12.2.2)))))) else((C4 n ([123]:List UInt8) p_l p_i p_e p_at At).bind fun y14=>(((G2 n) (IntKind.i64.wrap (Er+1)) p_l y14.1 y14.2.1 y14.2.2 At).bind fun y16=>((C4 n ([125]:List UInt8) p_l y16.2.1 y16.2.2.1 y16.2.2.2 At).bind fun y18=>(some (y16.1,y18.1,y18.2.1,y18.2.2)))))) else((C4 n ([123]:List UInt8) p_l p_i p_e p_at At).bind fun y20=>(((G2 n) (IntKind.i64.wrap (Er+1)) p_l y20.1 y20.2.1 y20.2.2 At).bind fun y22=>((C4 n ([125]:List UInt8) p_l y22.2.1 y22.2.2.1 y22.2.2.2 At).bind fun y24=>(some (y22.1,y24.1,y24.2.1,y24.2.2))))))) else((C4 n ([123]:List UInt8) p_l p_i p_e p_at At).bind fun y26=>(((G2 n) (IntKind.i64.wrap (Er+1)) p_l y26.1 y26.2.1 y26.2.2 At).bind fun y28=>((C4 n ([125]:List UInt8) p_l y28.2.1 y28.2.2.1 y28.2.2.2 At).bind fun y30=>(some (y28.1,y30.1,y30.2.1,y30.2.2))))))
def G2:Nat→Int→(List A6)→Int→Int→Int→(List ((List UInt8)×Int))→Option ((List A2)×Int×Int×Int)
 | 0,_,_,_,_,_,_=>none
 | n+1,Er,p_l,p_i,p_e,p_at,At=>((Jw n (Kz n) Er p_l At n p_i p_e p_at ([]:List A2)).bind fun o12=>match o12 with|.out (x23,x24,x25,x26)=>(some (x26,x23,x24,x25))|.ret v=>some v)
def Kz:Nat→Int→(List A6)→Int→Int→Int→(List ((List UInt8)×Int))→Option ((List A2)×Int×Int×Int)
 | 0,_,_,_,_,_,_=>none
 | n+1,Er,p_l,p_i,p_e,p_at,At=>(bif decide (p_i<((p_l.length:Nat):Int)) then((idx p_l p_i).bind fun x2=>(bif (x2.Ah==1) then((idx p_l p_i).bind fun x4=>((Od n (Bc At x4.Au 0)).bind fun y5=>(bif y5.2 then((Hm n p_i p_l p_i p_e p_at At).bind fun y8=>(Xp n fun n10=>((Cc n p_l At x4 y5 y8 n 0 (IntKind.i64.wrap (p_i+1)) p_e p_at ([]:List UInt8) ([]:List UInt8) ([]:List A0) ([]:List A0) false).bind fun o32=>match o32 with|.out (x74,x75,x76,x77,x78,x79,x80,x81)=>(bif y5.1.f_body then(((Jx n) Er p_l x74 x75 x76 At).bind fun y83=>(bif y5.1.f_more then(bif (y83.2.2.1==0) then((Fu n 1 ([101,108,115,101]:List UInt8) p_l y83.2.1 y83.2.2.1 y83.2.2.2 At).bind fun y87=>(bif y87 then(((Jx n) Er p_l (IntKind.i64.wrap (y83.2.1+1)) y83.2.2.1 y83.2.2.2 At).bind fun y90=>(bif decide (((([(⟨(Bc At x4.Au 0),x77,x78,x79,x80,x81,((y83.1.length:Nat):Int),((y90.1.length:Nat):Int),y8⟩:A2)]:List A2)).length+y83.1.length)*121≤140737488355328) then(bif decide ((((([(⟨(Bc At x4.Au 0),x77,x78,x79,x80,x81,((y83.1.length:Nat):Int),((y90.1.length:Nat):Int),y8⟩:A2)]:List A2)++y83.1)).length+y90.1.length)*121≤140737488355328) then(some (((([(⟨(Bc At x4.Au 0),x77,x78,x79,x80,x81,((y83.1.length:Nat):Int),((y90.1.length:Nat):Int),y8⟩:A2)]:List A2)++y83.1)++y90.1),y90.2.1,y90.2.2.1,y90.2.2.2)) else none) else none)) else(bif decide (((([(⟨(Bc At x4.Au 0),x77,x78,x79,x80,x81,((y83.1.length:Nat):Int),0,y8⟩:A2)]:List A2)).length+y83.1.length)*121≤140737488355328) then(bif decide ((((([(⟨(Bc At x4.Au 0),x77,x78,x79,x80,x81,((y83.1.length:Nat):Int),0,y8⟩:A2)]:List A2)++y83.1)).length+0)*121≤140737488355328) then(some ((([(⟨(Bc At x4.Au 0),x77,x78,x79,x80,x81,((y83.1.length:Nat):Int),0,y8⟩:A2)]:List A2)++y83.1),y83.2.1,y83.2.2.1,y83.2.2.2)) else none) else none))) else(bif decide (((([(⟨(Bc At x4.Au 0),x77,x78,x79,x80,x81,((y83.1.length:Nat):Int),0,y8⟩:A2)]:List A2)).length+y83.1.length)*121≤140737488355328) then(bif decide ((((([(⟨(Bc At x4.Au 0),x77,x78,x79,x80,x81,((y83.1.length:Nat):Int),0,y8⟩:A2)]:List A2)++y83.1)).length+0)*121≤140737488355328) then(some ((([(⟨(Bc At x4.Au 0),x77,x78,x79,x80,x81,((y83.1.length:Nat):Int),0,y8⟩:A2)]:List A2)++y83.1),y83.2.1,y83.2.2.1,y83.2.2.2)) else none) else none)) else(bif decide (((([(⟨(Bc At x4.Au 0),x77,x78,x79,x80,x81,((y83.1.length:Nat):Int),0,y8⟩:A2)]:List A2)).length+y83.1.length)*121≤140737488355328) then(bif decide ((((([(⟨(Bc At x4.Au 0),x77,x78,x79,x80,x81,((y83.1.length:Nat):Int),0,y8⟩:A2)]:List A2)++y83.1)).length+0)*121≤140737488355328) then(some ((([(⟨(Bc At x4.Au 0),x77,x78,x79,x80,x81,((y83.1.length:Nat):Int),0,y8⟩:A2)]:List A2)++y83.1),y83.2.1,y83.2.2.1,y83.2.2.2)) else none) else none))) else(bif y5.1.f_more then(bif (x75==0) then((Fu n 1 ([101,108,115,101]:List UInt8) p_l x74 x75 x76 At).bind fun y113=>(bif y113 then(((Jx n) Er p_l (IntKind.i64.wrap (x74+1)) x75 x76 At).bind fun y116=>(bif decide (((([(⟨(Bc At x4.Au 0),x77,x78,x79,x80,x81,0,((y116.1.length:Nat):Int),y8⟩:A2)]:List A2)).length+y116.1.length)*121≤140737488355328) then(some ((([(⟨(Bc At x4.Au 0),x77,x78,x79,x80,x81,0,((y116.1.length:Nat):Int),y8⟩:A2)]:List A2)++y116.1),y116.2.1,y116.2.2.1,y116.2.2.2)) else none)) else(some (([(⟨(Bc At x4.Au 0),x77,x78,x79,x80,x81,0,0,y8⟩:A2)]:List A2),x74,x75,x76)))) else(some (([(⟨(Bc At x4.Au 0),x77,x78,x79,x80,x81,0,0,y8⟩:A2)]:List A2),x74,x75,x76))) else(some (([(⟨(Bc At x4.Au 0),x77,x78,x79,x80,x81,0,0,y8⟩:A2)]:List A2),x74,x75,x76))))|.ret v=>some v))) else((Dg n p_l p_i p_e p_at At).bind fun y135=>(some (([]:List A2),p_i,y135.1,y135.2)))))) else((V3 n ).bind fun y137=>((Dg n p_l p_i p_e p_at At).bind fun y139=>(some (([]:List A2),p_i,y139.1,y139.2)))))) else((V3 n ).bind fun y141=>((Dg n p_l p_i p_e p_at At).bind fun y143=>(some (([]:List A2),p_i,y143.1,y143.2)))))
end
def Mo (n:Nat)  (y3:(List Bm)):Nat→Int→(List ((List UInt8)×Int))→Option (LR (List ((List UInt8)×Int)) ((List A2)×Int×Int×Int))
 | 0,_,_=>none
 | k7+1,s5,s6=>(bif decide (s5<((y3.length:Nat):Int)) then((idx y3 s5).bind fun x16=>(bif (x16.f_word==([]:List UInt8)) then(Mo n y3 k7 (IntKind.i64.wrap (s5+1)) s6) else(Mo n y3 k7 (IntKind.i64.wrap (s5+1)) (Rj s6 x16.f_word s5)))) else(some (.out s6)))
def Ti:Nat→(List A6)→Int→Option ((List A2)×Int×Int×Int)
 | 0,_,_=>none
 | n+1,Aa,C3=>(bif decide (C3<0) then(some (([]:List A2),0,1,0)) else(bif decide (((Aa.length:Nat):Int)<C3) then(some (([]:List A2),0,1,0)) else((Lr n ).bind fun y3=>((Mo n y3 n 0 ([]:(List ((List UInt8)×Int)))).bind fun o14=>match o14 with|.out x20=>((G2 n 0 Aa C3 0 0 x20).bind fun y21=>(bif (y21.2.2.1 != 0) then(some (([]:List A2),0,y21.2.2.1,y21.2.2.2)) else(bif decide (200<((y21.1.length:Nat):Int)) then((Hm n C3 Aa y21.2.1 y21.2.2.1 y21.2.2.2 x20).bind fun y25=>(some (([]:List A2),0,2,y25))) else(some (y21.1,y21.2.1,0,0)))))|.ret v=>some v))))
def Oa:Nat→Int→Option Bool
 | 0,_=>none
 | n+1,C6=>(bif (C6==10) then(some true) else(bif (C6==11) then(some true) else(bif (C6==12) then(some true) else(some false))))
def C9 (n:Nat) (rec_stmt_depth_1:Int→Int→Int→(List A2)→Int→Option (Bool×Int)) (Aa:(List A2)) (Bt:Int) (o0:(List A2)):Nat→Int→Int→Option (LR Int (Bool×Int))
 | 0,_,_=>none
 | k3+1,s1,s2=>(bif decide (s1<Bt) then((idx Aa s1).bind fun x12=>(bif decide (x12.Aq<0) then(some (.ret (false,s2))) else(bif decide (x12.Be<0) then(some (.ret (false,s2))) else(bif decide ((IntKind.i64.wrap ((IntKind.i64.wrap (Bt - s1)) - 1))<x12.Aq) then(some (.ret (false,s2))) else(bif decide ((IntKind.i64.wrap ((IntKind.i64.wrap ((IntKind.i64.wrap (Bt - s1)) - 1)) - x12.Aq))<x12.Be) then(some (.ret (false,s2))) else((rec_stmt_depth_1 s1 (IntKind.i64.wrap ((IntKind.i64.wrap (s1+1))+x12.Aq)) (IntKind.i64.wrap ((IntKind.i64.wrap ((IntKind.i64.wrap (s1+1))+x12.Aq))+x12.Be)) o0 s2).bind fun y17=>(bif y17.1 then(C9 n rec_stmt_depth_1 Aa Bt o0 k3 (IntKind.i64.wrap ((IntKind.i64.wrap ((IntKind.i64.wrap (s1+1))+x12.Aq))+x12.Be)) y17.2) else(some (.ret (false,y17.2)))))))))) else(some (.out s2)))
mutual
def Kk:Nat→(List A2)→Int→Int→Option Int
 | 0,_,_,_=>none
 | n+1,Aa,By,Bt=>(((G4 n) Aa By Bt Aa 0).bind fun y1=>(bif y1.1 then(some y1.2) else(some (-1))))
def F5:Nat→Int→Int→Int→(List A2)→Int→Option (Bool×Int)
 | 0,_,_,_,_,_=>none
 | n+1,H8,Na,Pd,o0,o1=>(((Kk n) o0 (IntKind.i64.wrap (H8+1)) Na).bind fun y1=>(((Kk n) o0 Na Pd).bind fun y3=>((idx o0 H8).bind fun x5=>((Oa n x5.Ah).bind fun y6=>(bif y6 then(bif (y1 != (-1)) then(some ((y3 != (-1)),X6 o1 (IntKind.i64.wrap (1+y1)) (IntKind.i64.wrap (1+y3)))) else(some (false,X6 o1 (IntKind.i64.wrap (1+y1)) (IntKind.i64.wrap (1+y3))))) else(bif (y1 != (-1)) then(some ((y3 != (-1)),o1)) else(some (false,o1))))))))
def G4:Nat→(List A2)→Int→Int→(List A2)→Int→Option (Bool×Int)
 | 0,_,_,_,_,_=>none
 | n+1,Aa,By,Bt,o0,o1=>((C9 n (F5 n) Aa Bt o0 n By o1).bind fun o10=>match o10 with|.out x21=>(some (true,x21))|.ret v=>some v)
end
def Qt:Nat→(List A2)→Option Int
 | 0,_=>none
 | n+1,Aa=>((Kk n Aa 0 ((Aa.length:Nat):Int)).bind fun y1=>(some y1))
def Em (n:Nat)  (Ma:Bm) (Pk:Int):Nat→Int→Option (LR Unit Bool)
 | 0,_=>none
 | k2+1,s1=>(bif decide (s1<((Ma.f_form.length:Nat):Int)) then((idx Ma.f_form s1).bind fun x11=>(bif ((x11.toNat:Int)==Pk) then(some (.ret true)) else(Em n Ma Pk k2 (IntKind.i64.wrap (s1+1))))) else(some (.out ())))
def Dt:Nat→Bm→Int→Option Bool
 | 0,_,_=>none
 | n+1,Ma,Pk=>((Em n Ma Pk n 0).bind fun o9=>match o9 with|.out _=>(some false)|.ret v=>some v)
def Jq:Nat→Int→(List UInt8)→(List UInt8)→(List UInt8)→Bool→Bool→Option Bool
 | 0,_,_,_,_,_,_=>none
 | n+1,H9,M9,F7,F8,F9,Fa=>((Dt n (⟨F7,F8,F9,Fa⟩:Bm) H9).bind fun y1=>(bif y1 then((Df n M9).bind fun y4=>(bif y4 then(some true) else((Dt n (⟨F7,F8,F9,Fa⟩:Bm) H9).bind fun y7=>(bif y7 then(some false) else(some (M9==([]:List UInt8))))))) else((Dt n (⟨F7,F8,F9,Fa⟩:Bm) H9).bind fun y10=>(bif y10 then(some false) else(some (M9==([]:List UInt8)))))))
def Jl:Nat→Int→(List A0)→(List UInt8)→(List UInt8)→Bool→Bool→Option Bool
 | 0,_,_,_,_,_,_=>none
 | n+1,H9,A8z,F7,F8,F9,Fa=>((Dt n (⟨F7,F8,F9,Fa⟩:Bm) H9).bind fun y1=>(bif y1 then((O7 n A8z).bind fun y4=>(bif y4 then(some true) else((Dt n (⟨F7,F8,F9,Fa⟩:Bm) H9).bind fun y7=>(bif y7 then(some false) else(some (((A8z.length:Nat):Int)==0)))))) else((Dt n (⟨F7,F8,F9,Fa⟩:Bm) H9).bind fun y10=>(bif y10 then(some false) else(some (((A8z.length:Nat):Int)==0))))))
def Rs:Nat→A2→Option Bool
 | 0,_=>none
 | n+1,Aj=>((Od n Aj.Ah).bind fun y1=>(bif y1.2 then(bif decide (Aj.B0<0) then(some false) else(bif Aj.Cx then((Dt n y1.1 113).bind fun y6=>(bif y6 then((Jq n 114 Aj.Bj y1.1.f_word y1.1.f_form y1.1.f_body y1.1.f_more).bind fun y9=>(bif y9 then((Jq n 108 Aj.Bg y1.1.f_word y1.1.f_form y1.1.f_body y1.1.f_more).bind fun y12=>(bif y12 then((Jl n 101 Aj.Bh y1.1.f_word y1.1.f_form y1.1.f_body y1.1.f_more).bind fun y15=>(bif y15 then((Jl n 102 Aj.Cg y1.1.f_word y1.1.f_form y1.1.f_body y1.1.f_more).bind fun y18=>(bif y18 then(bif y1.1.f_body then(bif y1.1.f_more then(some true) else(some (Aj.Be==0))) else(bif (Aj.Aq==0) then(bif y1.1.f_more then(some true) else(some (Aj.Be==0))) else(some false))) else(some false))) else(some false))) else(some false))) else(some false))) else(some false))) else((Jq n 114 Aj.Bj y1.1.f_word y1.1.f_form y1.1.f_body y1.1.f_more).bind fun y25=>(bif y25 then((Jq n 108 Aj.Bg y1.1.f_word y1.1.f_form y1.1.f_body y1.1.f_more).bind fun y28=>(bif y28 then((Jl n 101 Aj.Bh y1.1.f_word y1.1.f_form y1.1.f_body y1.1.f_more).bind fun y31=>(bif y31 then((Jl n 102 Aj.Cg y1.1.f_word y1.1.f_form y1.1.f_body y1.1.f_more).bind fun y34=>(bif y34 then(bif y1.1.f_body then(bif y1.1.f_more then(some true) else(some (Aj.Be==0))) else(bif (Aj.Aq==0) then(bif y1.1.f_more then(some true) else(some (Aj.Be==0))) else(some false))) else(some false))) else(some false))) else(some false))) else(some false))))) else(some false)))
def I3 (n:Nat)  (Aa:(List A2)):Nat→Int→Option (LR Unit Bool)
 | 0,_=>none
 | k7+1,s6=>(bif decide (s6<((Aa.length:Nat):Int)) then((idx Aa s6).bind fun x16=>((Rs n x16).bind fun y17=>(bif y17 then(I3 n Aa k7 (IntKind.i64.wrap (s6+1))) else(some (.ret false))))) else(some (.out ())))
def Nu:Nat→(List A2)→Option Bool
 | 0,_=>none
 | n+1,Aa=>((Qt n Aa).bind fun y1=>(bif (y1==(-1)) then(some false) else(bif decide (30<y1) then(some false) else(bif decide (200<((Aa.length:Nat):Int)) then(some false) else((I3 n Aa n 0).bind fun o14=>match o14 with|.out _=>(some true)|.ret v=>some v)))))
def D4 (n:Nat)  (Aj:A2) (y1:(Bm×Bool)):Nat→(List UInt8)→Int→Bool→Option (LR ((List UInt8)×Bool) (List UInt8))
 | 0,_,_,_=>none
 | k6+1,s3,s4,s5=>(bif decide (s4<((y1.1.f_form.length:Nat):Int)) then((idx y1.1.f_form s4).bind fun x15=>(bif ((x15.toNat:Int)==114) then(bif decide ((([32]:List UInt8)).length+Aj.Bj.length≤140737488355328) then(bif decide (s3.length+((([32]:List UInt8)++Aj.Bj)).length≤140737488355328) then(D4 n Aj y1 k6 (s3++(([32]:List UInt8)++Aj.Bj)) (IntKind.i64.wrap (s4+1)) s5) else none) else none) else(bif ((x15.toNat:Int)==108) then(bif decide ((([32]:List UInt8)).length+Aj.Bg.length≤140737488355328) then(bif decide (s3.length+((([32]:List UInt8)++Aj.Bg)).length≤140737488355328) then(D4 n Aj y1 k6 (s3++(([32]:List UInt8)++Aj.Bg)) (IntKind.i64.wrap (s4+1)) s5) else none) else none) else(bif ((x15.toNat:Int)==101) then((Dj n Aj.Bh).bind fun y23=>(bif decide ((([32]:List UInt8)).length+y23.length≤140737488355328) then(bif decide (s3.length+((([32]:List UInt8)++y23)).length≤140737488355328) then(D4 n Aj y1 k6 (s3++(([32]:List UInt8)++y23)) (IntKind.i64.wrap (s4+1)) s5) else none) else none)) else(bif ((x15.toNat:Int)==102) then((Dj n Aj.Cg).bind fun y28=>(bif decide ((([32]:List UInt8)).length+y28.length≤140737488355328) then(bif decide (s3.length+((([32]:List UInt8)++y28)).length≤140737488355328) then(D4 n Aj y1 k6 (s3++(([32]:List UInt8)++y28)) (IntKind.i64.wrap (s4+1)) s5) else none) else none)) else(bif ((x15.toNat:Int)==113) then(bif s5 then(bif decide (s3.length+(([32,33,61]:List UInt8)).length≤140737488355328) then(D4 n Aj y1 k6 (s3++([32,33,61]:List UInt8)) (IntKind.i64.wrap (s4+1)) true) else none) else(bif decide (s3.length+(([32,61,61]:List UInt8)).length≤140737488355328) then(D4 n Aj y1 k6 (s3++([32,61,61]:List UInt8)) (IntKind.i64.wrap (s4+1)) false) else none)) else(bif ((x15.toNat:Int)==61) then(bif decide (s3.length+(([32,61]:List UInt8)).length≤140737488355328) then(D4 n Aj y1 k6 (s3++([32,61]:List UInt8)) (IntKind.i64.wrap (s4+1)) s5) else none) else(bif (decide (0≤(IntKind.i32.wrap ((x15.toNat:Int))))&&decide ((IntKind.i32.wrap ((x15.toNat:Int)))<128)) then(bif decide (s3.length+(([UInt8.ofNat (IntKind.i32.wrap ((x15.toNat:Int))).toNat])).length≤140737488355328) then(D4 n Aj y1 k6 (s3++([UInt8.ofNat (IntKind.i32.wrap ((x15.toNat:Int))).toNat])) (IntKind.i64.wrap (s4+1)) s5) else none) else none)))))))) else(some (.out (s3,s5))))
def Rt:Nat→A2→Option (List UInt8)
 | 0,_=>none
 | n+1,Aj=>((Od n Aj.Ah).bind fun y1=>((D4 n Aj y1 n y1.1.f_word 0 Aj.Cx).bind fun o13=>match o13 with|.out (x41,x42)=>(some x41)|.ret v=>some v))
def Ke (n:Nat)  (F6:Int):Nat→(List UInt8)→Int→Option (LR (List UInt8) (List UInt8))
 | 0,_,_=>none
 | k3+1,s1,s2=>(bif decide (s2<F6) then(bif decide (s1.length+(([32,32]:List UInt8)).length≤140737488355328) then(Ke n F6 k3 (s1++([32,32]:List UInt8)) (IntKind.i64.wrap (s2+1))) else none) else(some (.out s1)))
def Ol:Nat→Int→Option (List UInt8)
 | 0,_=>none
 | n+1,F6=>((Ke n F6 n ([]:List UInt8) 0).bind fun o10=>match o10 with|.out x14=>(some x14)|.ret v=>some v)
def Cs (n:Nat) (rec_stmt_show_1:Int→Int→Int→(List UInt8)→Int→(List A2)→Option (Bool×(List UInt8))) (Aa:(List A2)) (Bt:Int) (o1:Int) (o2:(List A2)):Nat→Int→(List UInt8)→Option (LR (List UInt8) (Bool×(List UInt8)))
 | 0,_,_=>none
 | k3+1,s1,s2=>(bif decide (s1<Bt) then((idx Aa s1).bind fun x12=>(bif decide (x12.Aq<0) then(some (.ret (false,s2))) else(bif decide (x12.Be<0) then(some (.ret (false,s2))) else(bif decide ((IntKind.i64.wrap ((IntKind.i64.wrap (Bt - s1)) - 1))<x12.Aq) then(some (.ret (false,s2))) else(bif decide ((IntKind.i64.wrap ((IntKind.i64.wrap ((IntKind.i64.wrap (Bt - s1)) - 1)) - x12.Aq))<x12.Be) then(some (.ret (false,s2))) else((rec_stmt_show_1 s1 (IntKind.i64.wrap ((IntKind.i64.wrap (s1+1))+x12.Aq)) (IntKind.i64.wrap ((IntKind.i64.wrap ((IntKind.i64.wrap (s1+1))+x12.Aq))+x12.Be)) s2 o1 o2).bind fun y17=>(bif y17.1 then(Cs n rec_stmt_show_1 Aa Bt o1 o2 k3 (IntKind.i64.wrap ((IntKind.i64.wrap ((IntKind.i64.wrap (s1+1))+x12.Aq))+x12.Be)) y17.2) else(some (.ret (false,y17.2)))))))))) else(some (.out s2)))
mutual
def It:Nat→(List A2)→Int→Int→Int→Option (List UInt8)
 | 0,_,_,_,_=>none
 | n+1,Aa,By,Bt,D9=>(((Ej n) Aa By Bt ([]:List UInt8) D9 Aa).bind fun y1=>(some y1.2))
def Jn:Nat→Int→Int→Int→(List UInt8)→Int→(List A2)→Option (Bool×(List UInt8))
 | 0,_,_,_,_,_,_=>none
 | n+1,H8,Na,Pd,o0,o1,o2=>((Ol n o1).bind fun y1=>((idx o2 H8).bind fun x3=>((Rt n x3).bind fun y4=>(bif decide (y1.length+y4.length≤140737488355328) then(bif decide (o0.length+((y1++y4)).length≤140737488355328) then((idx o2 H8).bind fun x8=>((Oa n x8.Ah).bind fun y9=>(bif y9 then(((It n) o2 (IntKind.i64.wrap (H8+1)) Na (IntKind.i64.wrap (o1+1))).bind fun y12=>(bif decide ((([32,123,10]:List UInt8)).length+y12.length≤140737488355328) then((Ol n o1).bind fun y15=>(bif decide (((([32,123,10]:List UInt8)++y12)).length+y15.length≤140737488355328) then(bif decide (((o0++(y1++y4))).length+(((([32,123,10]:List UInt8)++y12)++y15)).length≤140737488355328) then(bif decide (Na<Pd) then(((It n) o2 Na Pd (IntKind.i64.wrap (o1+1))).bind fun y20=>(bif decide ((([125,32,101,108,115,101,32,123,10]:List UInt8)).length+y20.length≤140737488355328) then((Ol n o1).bind fun y23=>(bif decide (((([125,32,101,108,115,101,32,123,10]:List UInt8)++y20)).length+y23.length≤140737488355328) then(bif decide ((((o0++(y1++y4))++((([32,123,10]:List UInt8)++y12)++y15))).length+(((([125,32,101,108,115,101,32,123,10]:List UInt8)++y20)++y23)).length≤140737488355328) then(bif decide (((((o0++(y1++y4))++((([32,123,10]:List UInt8)++y12)++y15))++((([125,32,101,108,115,101,32,123,10]:List UInt8)++y20)++y23))).length+(([125]:List UInt8)).length≤140737488355328) then(bif decide ((((((o0++(y1++y4))++((([32,123,10]:List UInt8)++y12)++y15))++((([125,32,101,108,115,101,32,123,10]:List UInt8)++y20)++y23))++([125]:List UInt8))).length+(([10]:List UInt8)).length≤140737488355328) then(some (true,(((((o0++(y1++y4))++((([32,123,10]:List UInt8)++y12)++y15))++((([125,32,101,108,115,101,32,123,10]:List UInt8)++y20)++y23))++([125]:List UInt8))++([10]:List UInt8)))) else none) else none) else none) else none)) else none)) else(bif decide ((((o0++(y1++y4))++((([32,123,10]:List UInt8)++y12)++y15))).length+(([125]:List UInt8)).length≤140737488355328) then(bif decide (((((o0++(y1++y4))++((([32,123,10]:List UInt8)++y12)++y15))++([125]:List UInt8))).length+(([10]:List UInt8)).length≤140737488355328) then(some (true,((((o0++(y1++y4))++((([32,123,10]:List UInt8)++y12)++y15))++([125]:List UInt8))++([10]:List UInt8)))) else none) else none)) else none) else none)) else none)) else(bif decide (((o0++(y1++y4))).length+(([10]:List UInt8)).length≤140737488355328) then(some (true,((o0++(y1++y4))++([10]:List UInt8)))) else none)))) else none) else none))))
def Ej:Nat→(List A2)→Int→Int→(List UInt8)→Int→(List A2)→Option (Bool×(List UInt8))
 | 0,_,_,_,_,_,_=>none
 | n+1,Aa,By,Bt,o0,o1,o2=>((Cs n (Jn n) Aa Bt o1 o2 n By o0).bind fun o10=>match o10 with|.out x21=>(some (true,x21))|.ret v=>some v)
end
def Ng:Nat→(List A2)→Int→Option (List UInt8)
 | 0,_,_=>none
 | n+1,Aa,Lg=>(bif decide (Lg<0) then(some ([]:List UInt8)) else(bif decide (100<Lg) then(some ([]:List UInt8)) else((Nu n Aa).bind fun y3=>(bif y3 then((It n Aa 0 ((Aa.length:Nat):Int) Lg).bind fun y6=>(some y6)) else(some ([]:List UInt8))))))
def Ir (n:Nat)  (Aa:(List A0)):Nat→Int→(List A0)→Option (LR (List A0) (List A0))
 | 0,_,_=>none
 | k3+1,s1,s2=>(bif decide (s1<((Aa.length:Nat):Int)) then((idx Aa s1).bind fun x12=>(bif decide ((s2.length+1)*57≤140737488355328) then(Ir n Aa k3 (IntKind.i64.wrap (s1+1)) (s2++([(⟨x12.B1,x12.Bk,x12.Ae,x12.C2,0⟩:A0)]:List A0))) else none)) else(some (.out s2)))
def Ku:Nat→(List A0)→Option (List A0)
 | 0,_=>none
 | n+1,Aa=>((Ir n Aa n 0 ([]:List A0)).bind fun o10=>match o10 with|.out x16=>(some x16)|.ret v=>some v)
def Jp (n:Nat)  (A9:Ar):Nat→Int→(List Az)→Option (LR (List Az) Ar)
 | 0,_,_=>none
 | k3+1,s1,s2=>(bif decide (s1<((A9.Ao.length:Nat):Int)) then((idx A9.Ao s1).bind fun x12=>(bif decide ((s2.length+1)*33≤140737488355328) then(Jp n A9 k3 (IntKind.i64.wrap (s1+1)) (s2++([(⟨x12.Ae,x12.Bk,0⟩:Az)]:List Az))) else none)) else(some (.out s2)))
def Jm (n:Nat)  (A9:Ar) (s17:Int):Nat→Int→(List A2)→Option (LR (List A2) Ar)
 | 0,_,_=>none
 | k33+1,s31,s32=>((idx A9.A7 s17).bind fun x41=>(bif decide (s31<((x41.Aq.length:Nat):Int)) then((idx A9.A7 s17).bind fun x43=>((idx x43.Aq s31).bind fun x44=>((Ku n x44.Bh).bind fun y45=>((Ku n x44.Cg).bind fun y47=>(bif decide ((s32.length+1)*121≤140737488355328) then(Jm n A9 s17 k33 (IntKind.i64.wrap (s31+1)) (s32++([(⟨x44.Ah,x44.Bj,x44.Bg,y45,y47,x44.Cx,x44.Aq,x44.Be,0⟩:A2)]:List A2))) else none))))) else(some (.out s32))))
def Ji (n:Nat)  (A9:Ar):Nat→Int→(List Ag)→Option (LR (List Ag) Ar)
 | 0,_,_=>none
 | k19+1,s17,s18=>(bif decide (s17<((A9.A7.length:Nat):Int)) then((idx A9.A7 s17).bind fun x28=>((idx A9.A7 s17).bind fun x29=>(bif decide (x29.Ay.length*17≤140737488355328) then((Jm n A9 s17 n 0 ([]:List A2)).bind fun o40=>match o40 with|.out x52=>(bif decide ((s18.length+1)*73≤140737488355328) then(Ji n A9 k19 (IntKind.i64.wrap (s17+1)) (s18++([(⟨x28.Ae,x29.Ay,x52,0⟩:Ag)]:List Ag))) else none)|.ret v=>some (.ret v)) else none))) else(some (.out s18)))
def Jk (n:Nat)  (A9:Ar):Nat→Int→(List Ai)→Option (LR (List Ai) Ar)
 | 0,_,_=>none
 | k60+1,s58,s59=>(bif decide (s58<((A9.Ac.length:Nat):Int)) then((idx A9.Ac s58).bind fun x69=>((idx A9.Ac s58).bind fun x70=>((Ku n x70.Bh).bind fun y71=>(bif decide ((s59.length+1)*41≤140737488355328) then(Jk n A9 k60 (IntKind.i64.wrap (s58+1)) (s59++([(⟨x69.Ah,y71,0⟩:Ai)]:List Ai))) else none)))) else(some (.out s59)))
def Lk:Nat→Ar→Option Ar
 | 0,_=>none
 | n+1,A9=>((Jp n A9 n 0 ([]:List Az)).bind fun o10=>match o10 with|.out x16=>((Ji n A9 n 0 ([]:List Ag)).bind fun o26=>match o26 with|.out x57=>((Jk n A9 n 0 ([]:List Ai)).bind fun o67=>match o67 with|.out x76=>(some (⟨A9.B2,x16,x57,x76⟩:Ar))|.ret v=>some v)|.ret v=>some v)|.ret v=>some v)
def Gk (n:Nat)  (A9:Ar):Nat→Int→Option (LR Unit Bool)
 | 0,_=>none
 | k5+1,s4=>(bif decide (s4<((A9.Ao.length:Nat):Int)) then((idx A9.Ao s4).bind fun x14=>(bif decide (100<((x14.Ae.length:Nat):Int)) then(some (.ret false)) else(Gk n A9 k5 (IntKind.i64.wrap (s4+1))))) else(some (.out ())))
def H3 (n:Nat)  (x27:Ag):Nat→Int→Option (LR Unit Bool)
 | 0,_=>none
 | k34+1,s33=>(bif decide (s33<((x27.Ay.length:Nat):Int)) then((idx x27.Ay s33).bind fun x43=>(bif decide (100<((x43.length:Nat):Int)) then(some (.ret false)) else(H3 n x27 k34 (IntKind.i64.wrap (s33+1))))) else(some (.out ())))
def Gr (n:Nat)  (A9:Ar):Nat→Int→Option (LR Unit Bool)
 | 0,_=>none
 | k18+1,s17=>(bif decide (s17<((A9.A7.length:Nat):Int)) then((idx A9.A7 s17).bind fun x27=>(bif decide (100<((x27.Ae.length:Nat):Int)) then(some (.ret false)) else(bif decide (20<((x27.Ay.length:Nat):Int)) then(some (.ret false)) else((P4 n x27.Aq).bind fun y30=>(bif y30 then((H3 n x27 n 0).bind fun o41=>match o41 with|.out _=>(Gr n A9 k18 (IntKind.i64.wrap (s17+1)))|.ret v=>some (.ret v)) else(some (.ret false))))))) else(some (.out ())))
def Gq (n:Nat)  (A9:Ar):Nat→Int→Option (LR Unit Bool)
 | 0,_=>none
 | k49+1,s48=>(bif decide (s48<((A9.Ac.length:Nat):Int)) then((idx A9.Ac s48).bind fun x58=>((Kv n x58.Bh).bind fun y59=>(bif y59 then(Gq n A9 k49 (IntKind.i64.wrap (s48+1))) else(some (.ret false))))) else(some (.out ())))
def Mf:Nat→Ar→Option Bool
 | 0,_=>none
 | n+1,A9=>(bif decide (20<((A9.Ao.length:Nat):Int)) then(some false) else(bif decide (8<((A9.A7.length:Nat):Int)) then(some false) else(bif decide (12<((A9.Ac.length:Nat):Int)) then(some false) else((Gk n A9 n 0).bind fun o12=>match o12 with|.out _=>((Gr n A9 n 0).bind fun o25=>match o25 with|.out _=>((Gq n A9 n 0).bind fun o56=>match o56 with|.out _=>(some true)|.ret v=>some v)|.ret v=>some v)|.ret v=>some v))))
def Fr (n:Nat)  (y1:(List A0)):Nat→Int→Option (LR Unit Bool)
 | 0,_=>none
 | k4+1,s3=>(bif decide (s3<((y1.length:Nat):Int)) then((idx y1 s3).bind fun x13=>(bif (x13.B1==2) then(some (.ret false)) else(Fr n y1 k4 (IntKind.i64.wrap (s3+1))))) else(some (.out ())))
def Mv:Nat→(List A0)→Option Bool
 | 0,_=>none
 | n+1,Aa=>((Ml n Aa).bind fun y1=>((Fr n y1 n 0).bind fun o11=>match o11 with|.out _=>((Kt n Aa).bind fun y16=>(some y16))|.ret v=>some v))
def R8:Nat→Int→Option Bool
 | 0,_=>none
 | n+1,Bv=>(bif decide (0≤Bv) then(some (decide (Bv≤9999))) else(some false))
def Gv (n:Nat)  (A9:Ar):Nat→Int→Option (LR Unit Bool)
 | 0,_=>none
 | k5+1,s4=>(bif decide (s4<((A9.Ao.length:Nat):Int)) then((idx A9.Ao s4).bind fun x14=>((Du n x14.Ae).bind fun y15=>(bif y15 then((idx A9.Ao s4).bind fun x18=>((R8 n x18.Bk).bind fun y19=>(bif y19 then((idx A9.Ao s4).bind fun x22=>(bif decide (x22.B0<0) then(some (.ret false)) else(Gv n A9 k5 (IntKind.i64.wrap (s4+1))))) else(some (.ret false))))) else(some (.ret false))))) else(some (.out ())))
def Gu (n:Nat)  (x35:Ag):Nat→Int→Option (LR Unit Bool)
 | 0,_=>none
 | k44+1,s43=>(bif decide (s43<((x35.Ay.length:Nat):Int)) then((idx x35.Ay s43).bind fun x53=>((Du n x53).bind fun y54=>(bif y54 then(Gu n x35 k44 (IntKind.i64.wrap (s43+1))) else(some (.ret false))))) else(some (.out ())))
def Gg (n:Nat)  (A9:Ar):Nat→Int→Option (LR Unit Bool)
 | 0,_=>none
 | k26+1,s25=>(bif decide (s25<((A9.A7.length:Nat):Int)) then((idx A9.A7 s25).bind fun x35=>((Du n x35.Ae).bind fun y36=>(bif y36 then((Mb n x35.Aq).bind fun y39=>(bif y39 then(bif decide (x35.B0<0) then(some (.ret false)) else((Gu n x35 n 0).bind fun o51=>match o51 with|.out _=>(Gg n A9 k26 (IntKind.i64.wrap (s25+1)))|.ret v=>some (.ret v))) else(some (.ret false)))) else(some (.ret false))))) else(some (.out ())))
def H4 (n:Nat)  (A9:Ar):Nat→Int→Option (LR Unit Bool)
 | 0,_=>none
 | k61+1,s60=>(bif decide (s60<((A9.Ac.length:Nat):Int)) then((idx A9.Ac s60).bind fun x70=>(bif decide (x70.Ah<1) then(some (.ret false)) else(bif decide (3<x70.Ah) then(some (.ret false)) else((Mv n x70.Bh).bind fun y73=>(bif y73 then(bif decide (x70.B0<0) then(some (.ret false)) else(H4 n A9 k61 (IntKind.i64.wrap (s60+1)))) else(some (.ret false))))))) else(some (.out ())))
def Jg:Nat→Ar→Option Bool
 | 0,_=>none
 | n+1,A9=>((R8 n A9.B2).bind fun y1=>(bif y1 then((Gv n A9 n 0).bind fun o12=>match o12 with|.out _=>((Gg n A9 n 0).bind fun o33=>match o33 with|.out _=>((H4 n A9 n 0).bind fun o68=>match o68 with|.out _=>(some true)|.ret v=>some v)|.ret v=>some v)|.ret v=>some v) else(some false)))
def Ga (n:Nat)  (Bn:Ar) (Bp:Ar):Nat→Bool→Int→Option (LR Bool Bool)
 | 0,_,_=>none
 | k7+1,s5,s6=>(bif decide (s6<((Bn.Ao.length:Nat):Int)) then((idx Bn.Ao s6).bind fun x16=>((idx Bp.Ao s6).bind fun x17=>(bif (x16.Ae==x17.Ae) then((idx Bn.Ao s6).bind fun x19=>((idx Bp.Ao s6).bind fun x20=>(bif (x19.Bk != x20.Bk) then(some (.ret false)) else(bif s5 then((idx Bn.Ao s6).bind fun x23=>((idx Bp.Ao s6).bind fun x24=>(bif (x23.B0 != x24.B0) then(some (.ret false)) else(Ga n Bn Bp k7 true (IntKind.i64.wrap (s6+1)))))) else(Ga n Bn Bp k7 false (IntKind.i64.wrap (s6+1))))))) else(some (.ret false))))) else(some (.out s5)))
def I9 (n:Nat)  (x39:Ag) (x40:Ag):Nat→Int→Option (LR Unit Bool)
 | 0,_=>none
 | k49+1,s48=>(bif decide (s48<((x39.Ay.length:Nat):Int)) then((idx x39.Ay s48).bind fun x58=>((idx x40.Ay s48).bind fun x59=>(bif (x58==x59) then(I9 n x39 x40 k49 (IntKind.i64.wrap (s48+1))) else(some (.ret false))))) else(some (.out ())))
def Ia (n:Nat)  (x39:Ag) (x40:Ag):Nat→Int→Option (LR Unit Bool)
 | 0,_=>none
 | k64+1,s63=>(bif decide (s63<((x39.Ay.length:Nat):Int)) then((idx x39.Ay s63).bind fun x73=>((idx x40.Ay s63).bind fun x74=>(bif (x73==x74) then(Ia n x39 x40 k64 (IntKind.i64.wrap (s63+1))) else(some (.ret false))))) else(some (.out ())))
def G5 (n:Nat)  (Bn:Ar) (Bp:Ar):Nat→Bool→Int→Option (LR Bool Bool)
 | 0,_,_=>none
 | k30+1,s28,s29=>(bif decide (s29<((Bn.A7.length:Nat):Int)) then((idx Bn.A7 s29).bind fun x39=>((idx Bp.A7 s29).bind fun x40=>(bif (x39.Ae==x40.Ae) then(bif (((x39.Ay.length:Nat):Int) != ((x40.Ay.length:Nat):Int)) then(some (.ret false)) else((Qr n x39.Aq x40.Aq s28).bind fun y43=>(bif y43 then(bif s28 then(bif (x39.B0 != x40.B0) then(some (.ret false)) else((I9 n x39 x40 n 0).bind fun o56=>match o56 with|.out _=>(G5 n Bn Bp k30 true (IntKind.i64.wrap (s29+1)))|.ret v=>some (.ret v))) else((Ia n x39 x40 n 0).bind fun o71=>match o71 with|.out _=>(G5 n Bn Bp k30 false (IntKind.i64.wrap (s29+1)))|.ret v=>some (.ret v))) else(some (.ret false))))) else(some (.ret false))))) else(some (.out s28)))
def G9 (n:Nat)  (Bn:Ar) (Bp:Ar):Nat→Bool→Int→Option (LR Unit Bool)
 | 0,_,_=>none
 | k82+1,s80,s81=>(bif decide (s81<((Bn.Ac.length:Nat):Int)) then((idx Bn.Ac s81).bind fun x91=>((idx Bp.Ac s81).bind fun x92=>(bif (x91.Ah != x92.Ah) then(some (.ret false)) else((idx Bn.Ac s81).bind fun x94=>((idx Bp.Ac s81).bind fun x95=>((Jc n x94.Bh x95.Bh s80).bind fun y96=>(bif y96 then(bif s80 then((idx Bn.Ac s81).bind fun x100=>((idx Bp.Ac s81).bind fun x101=>(bif (x100.B0 != x101.B0) then(some (.ret false)) else(G9 n Bn Bp k82 true (IntKind.i64.wrap (s81+1)))))) else(G9 n Bn Bp k82 false (IntKind.i64.wrap (s81+1)))) else(some (.ret false))))))))) else(some (.out ())))
def Lw:Nat→Ar→Ar→Bool→Option Bool
 | 0,_,_,_=>none
 | n+1,Bn,Bp,Ei=>(bif (Bn.B2 != Bp.B2) then(some false) else(bif (((Bn.Ao.length:Nat):Int) != ((Bp.Ao.length:Nat):Int)) then(some false) else(bif (((Bn.A7.length:Nat):Int) != ((Bp.A7.length:Nat):Int)) then(some false) else(bif (((Bn.Ac.length:Nat):Int) != ((Bp.Ac.length:Nat):Int)) then(some false) else((Ga n Bn Bp n Ei 0).bind fun o14=>match o14 with|.out x27=>((G5 n Bn Bp n x27 0).bind fun o37=>match o37 with|.out x79=>((G9 n Bn Bp n x79 0).bind fun o89=>match o89 with|.out _=>(some true)|.ret v=>some v)|.ret v=>some v)|.ret v=>some v)))))
def Tx:Nat→Int→Option (List UInt8)
 | 0,_=>none
 | n+1,C6=>((idx ([([]:List UInt8),([102,111,114,97,108,108]:List UInt8),([101,120,105,115,116,115]:List UInt8),([97,108,119,97,121,115]:List UInt8)]:List (List UInt8)) C6).bind fun x1=>(some x1))
def Hy (n:Nat)  (A9:Ar):Nat→(List UInt8)→Int→Option (LR (List UInt8) (List UInt8))
 | 0,_,_=>none
 | k10+1,s8,s9=>(bif decide (s9<((A9.Ao.length:Nat):Int)) then(bif decide (s8.length+(([108,111,99,32]:List UInt8)).length≤140737488355328) then((idx A9.Ao s9).bind fun x20=>(bif decide (((s8++([108,111,99,32]:List UInt8))).length+x20.Ae.length≤140737488355328) then(bif decide ((((s8++([108,111,99,32]:List UInt8))++x20.Ae)).length+(([32,61,32]:List UInt8)).length≤140737488355328) then((idx A9.Ao s9).bind fun x23=>((Gy n x23.Bk).bind fun y24=>(bif decide (((((s8++([108,111,99,32]:List UInt8))++x20.Ae)++([32,61,32]:List UInt8))).length+y24.length≤140737488355328) then(bif decide ((((((s8++([108,111,99,32]:List UInt8))++x20.Ae)++([32,61,32]:List UInt8))++y24)).length+(([59,10]:List UInt8)).length≤140737488355328) then(Hy n A9 k10 (((((s8++([108,111,99,32]:List UInt8))++x20.Ae)++([32,61,32]:List UInt8))++y24)++([59,10]:List UInt8)) (IntKind.i64.wrap (s9+1))) else none) else none))) else none) else none)) else none) else(some (.out s8)))
def Eb (n:Nat)  (x41:Ag):Nat→(List UInt8)→Int→Option (LR (List UInt8) (List UInt8))
 | 0,_,_=>none
 | k47+1,s45,s46=>(bif decide (s46<((x41.Ay.length:Nat):Int)) then(bif (s46==0) then(bif decide (s45.length+(([32,32,114,101,103,32]:List UInt8)).length≤140737488355328) then((idx x41.Ay s46).bind fun x58=>(bif decide (((s45++([32,32,114,101,103,32]:List UInt8))).length+x58.length≤140737488355328) then(Eb n x41 k47 ((s45++([32,32,114,101,103,32]:List UInt8))++x58) (IntKind.i64.wrap (s46+1))) else none)) else none) else(bif decide (s45.length+(([44,32]:List UInt8)).length≤140737488355328) then((idx x41.Ay s46).bind fun x61=>(bif decide (((s45++([44,32]:List UInt8))).length+x61.length≤140737488355328) then(Eb n x41 k47 ((s45++([44,32]:List UInt8))++x61) (IntKind.i64.wrap (s46+1))) else none)) else none)) else(some (.out s45)))
def Gd (n:Nat)  (A9:Ar):Nat→(List UInt8)→Int→Option (LR (List UInt8) (List UInt8))
 | 0,_,_=>none
 | k32+1,s30,s31=>(bif decide (s31<((A9.A7.length:Nat):Int)) then((idx A9.A7 s31).bind fun x41=>(bif decide (s30.length+(([116,104,114,101,97,100,32]:List UInt8)).length≤140737488355328) then(bif decide (((s30++([116,104,114,101,97,100,32]:List UInt8))).length+x41.Ae.length≤140737488355328) then(bif decide ((((s30++([116,104,114,101,97,100,32]:List UInt8))++x41.Ae)).length+(([32,123,10]:List UInt8)).length≤140737488355328) then((Eb n x41 n (((s30++([116,104,114,101,97,100,32]:List UInt8))++x41.Ae)++([32,123,10]:List UInt8)) 0).bind fun o54=>match o54 with|.out x64=>(bif decide (0<((x41.Ay.length:Nat):Int)) then(bif decide (x64.length+(([59,10]:List UInt8)).length≤140737488355328) then((Lm n x41.Aq 1).bind fun y67=>(bif decide (((x64++([59,10]:List UInt8))).length+y67.length≤140737488355328) then(bif decide ((((x64++([59,10]:List UInt8))++y67)).length+(([125,10]:List UInt8)).length≤140737488355328) then(Gd n A9 k32 (((x64++([59,10]:List UInt8))++y67)++([125,10]:List UInt8)) (IntKind.i64.wrap (s31+1))) else none) else none)) else none) else((Lm n x41.Aq 1).bind fun y71=>(bif decide (x64.length+y71.length≤140737488355328) then(bif decide (((x64++y71)).length+(([125,10]:List UInt8)).length≤140737488355328) then(Gd n A9 k32 ((x64++y71)++([125,10]:List UInt8)) (IntKind.i64.wrap (s31+1))) else none) else none)))|.ret v=>some (.ret v)) else none) else none) else none)) else(some (.out s30)))
def Ic (n:Nat)  (A9:Ar):Nat→(List UInt8)→Int→Option (LR (List UInt8) (List UInt8))
 | 0,_,_=>none
 | k80+1,s78,s79=>(bif decide (s79<((A9.Ac.length:Nat):Int)) then((idx A9.Ac s79).bind fun x89=>((Tx n x89.Ah).bind fun y90=>(bif decide (s78.length+y90.length≤140737488355328) then(bif decide (((s78++y90)).length+(([32]:List UInt8)).length≤140737488355328) then((idx A9.Ac s79).bind fun x94=>((Dc n x94.Bh).bind fun y95=>(bif decide ((((s78++y90)++([32]:List UInt8))).length+y95.length≤140737488355328) then(bif decide (((((s78++y90)++([32]:List UInt8))++y95)).length+(([59,10]:List UInt8)).length≤140737488355328) then(Ic n A9 k80 ((((s78++y90)++([32]:List UInt8))++y95)++([59,10]:List UInt8)) (IntKind.i64.wrap (s79+1))) else none) else none))) else none) else none))) else(some (.out s78)))
def Ko:Nat→Ar→Option (List UInt8)
 | 0,_=>none
 | n+1,A9=>((Jg n A9).bind fun y1=>(bif y1 then((Gy n A9.B2).bind fun y4=>(bif decide ((([109,111,100,32]:List UInt8)).length+y4.length≤140737488355328) then(bif decide (((([109,111,100,32]:List UInt8)++y4)).length+(([59,10]:List UInt8)).length≤140737488355328) then((Hy n A9 n ((([109,111,100,32]:List UInt8)++y4)++([59,10]:List UInt8)) 0).bind fun o17=>match o17 with|.out x29=>((Gd n A9 n x29 0).bind fun o39=>match o39 with|.out x77=>((Ic n A9 n x77 0).bind fun o87=>match o87 with|.out x100=>(some x100)|.ret v=>some v)|.ret v=>some v)|.ret v=>some v) else none) else none)) else(some ([]:List UInt8))))
def Mq (n:Nat) :Nat→Int→(List A0)→Option (LR (List A0) (List A0))
 | 0,_,_=>none
 | k5+1,s3,s4=>(bif decide (s3<(((([]:List A0)).length:Nat):Int)) then((idx s4 s3).bind fun x14=>(Mq n k5 (IntKind.i64.wrap (s3+1)) (List.set s4 s3.toNat (⟨x14.B1,x14.Bk,x14.Ae,x14.C2,0⟩:A0)))) else(some (.out s4)))
def I7 (n:Nat)  (Aa:(List A0)):Nat→Int→(List A0)→Option (LR (List A0) (List A0))
 | 0,_,_=>none
 | k21+1,s19,s20=>(bif decide (s19<((Aa.length:Nat):Int)) then((idx s20 s19).bind fun x30=>(I7 n Aa k21 (IntKind.i64.wrap (s19+1)) (List.set s20 s19.toNat (⟨x30.B1,x30.Bk,x30.Ae,x30.C2,0⟩:A0)))) else(some (.out s20)))
def Lp:Nat→(List A0)→Option (List A0)
 | 0,_=>none
 | n+1,Aa=>(bif decide (Aa.length*57≤140737488355328) then(bif decide (Aa.length=0) then((Mq n n 0 ([]:List A0)).bind fun o12=>match o12 with|.out x17=>(some x17)|.ret v=>some v) else((I7 n Aa n 0 Aa).bind fun o28=>match o28 with|.out x33=>(some x33)|.ret v=>some v)) else none)
set_option linter.unusedVariables false
set_option linter.unusedSimpArgs false
set_option maxRecDepth 100000
set_option maxHeartbeats 4000000
def Jd (n:Nat)  (A9:Ar):Nat→Int→(List Az)→Option (LR (List Az) Ar)
 | 0,_,_=>none
 | k3+1,s1,s2=>(bif decide (s1<((A9.Ao.length:Nat):Int)) then((idx A9.Ao s1).bind fun x12=>(bif decide ((s2.length+1)*33≤140737488355328) then(Jd n A9 k3 (IntKind.i64.wrap (s1+1)) (s2++([(⟨x12.Ae,x12.Bk,0⟩:Az)]:List Az))) else none)) else(some (.out s2)))
def J7 (n:Nat)  (x28:Ag):Nat→Int→(List A2)→Option (LR (List A2) Ar)
 | 0,_,_=>none
 | k32+1,s30,s31=>(bif decide (s30<((x28.Aq.length:Nat):Int)) then((idx x28.Aq s30).bind fun x41=>((Lp n x41.Bh).bind fun y42=>((Lp n x41.Cg).bind fun y44=>(bif decide ((s31.length+1)*121≤140737488355328) then(J7 n x28 k32 (IntKind.i64.wrap (s30+1)) (s31++([(⟨x41.Ah,x41.Bj,x41.Bg,y42,y44,x41.Cx,x41.Aq,x41.Be,0⟩:A2)]:List A2))) else none)))) else(some (.out s31)))
def J2 (n:Nat)  (A9:Ar):Nat→Int→(List Ag)→Option (LR (List Ag) Ar)
 | 0,_,_=>none
 | k19+1,s17,s18=>(bif decide (s17<((A9.A7.length:Nat):Int)) then((idx A9.A7 s17).bind fun x28=>(bif decide (x28.Ay.length*17≤140737488355328) then((J7 n x28 n 0 ([]:List A2)).bind fun o39=>match o39 with|.out x49=>(bif decide ((s18.length+1)*73≤140737488355328) then(J2 n A9 k19 (IntKind.i64.wrap (s17+1)) (s18++([(⟨x28.Ae,x28.Ay,x49,0⟩:Ag)]:List Ag))) else none)|.ret v=>some (.ret v)) else none)) else(some (.out s18)))
def Iw (n:Nat)  (A9:Ar):Nat→Int→(List Ai)→Option (LR (List Ai) Ar)
 | 0,_,_=>none
 | k57+1,s55,s56=>(bif decide (s55<((A9.Ac.length:Nat):Int)) then((idx A9.Ac s55).bind fun x66=>((Lp n x66.Bh).bind fun y67=>(bif decide ((s56.length+1)*41≤140737488355328) then(Iw n A9 k57 (IntKind.i64.wrap (s55+1)) (s56++([(⟨x66.Ah,y67,0⟩:Ai)]:List Ai))) else none))) else(some (.out s56)))
def Lc:Nat→Ar→Option Ar
 | 0,_=>none
 | n+1,A9=>((Jd n A9 n 0 ([]:List Az)).bind fun o10=>match o10 with|.out x16=>((J2 n A9 n 0 ([]:List Ag)).bind fun o26=>match o26 with|.out x54=>((Iw n A9 n 0 ([]:List Ai)).bind fun o64=>match o64 with|.out x72=>(some (⟨A9.B2,x16,x54,x72⟩:Ar))|.ret v=>some v)|.ret v=>some v)|.ret v=>some v)
def Dm:Nat→Int→Int→(List A6)→Int→Int→Int→Option (Int×Int)
 | 0,_,_,_,_,_,_=>none
 | n+1,W2,M5,p_l,p_i,p_e,p_at=>(bif (p_e==0) then(some (W2,M5)) else(some (p_e,p_at)))
def A0l:Nat→A6→Int→(List UInt8)→Option Bool
 | 0,_,_,_=>none
 | n+1,Eh,o0,o1=>(bif (Eh.Ah==o0) then(some (Eh.Au==o1)) else(some false))
def Di:Nat→(List A6)→Int→Int→Int→Int→(List UInt8)→Option (A6×Bool×Int)
 | 0,_,_,_,_,_,_=>none
 | n+1,p_l,p_i,p_e,p_at,o1,o2=>(bif (p_e != 0) then(some ((⟨0,([]:List UInt8),0,0⟩:A6),false,p_i)) else(bif decide (((p_l.length:Nat):Int)≤p_i) then(some ((⟨0,([]:List UInt8),0,0⟩:A6),false,p_i)) else((idx p_l p_i).bind fun x3=>((A0l n x3 o1 o2).bind fun y4=>(bif y4 then((idx p_l (IntKind.i64.wrap ((IntKind.i64.wrap (p_i+1)) - 1))).bind fun x7=>(some (x7,true,IntKind.i64.wrap (p_i+1)))) else(some ((⟨0,([]:List UInt8),0,0⟩:A6),false,p_i)))))))
def Hl:Nat→(List A6)→Int→Int→Int→Option (Int×Int)
 | 0,_,_,_,_=>none
 | n+1,p_l,p_i,p_e,p_at=>(bif decide (p_i<((p_l.length:Nat):Int)) then((idx p_l p_i).bind fun x2=>((Dm n 5 x2.B0 p_l p_i p_e p_at).bind fun y3=>(some (y3.1,y3.2)))) else(bif decide (0<((p_l.length:Nat):Int)) then((idx p_l (IntKind.i64.wrap (((p_l.length:Nat):Int) - 1))).bind fun x6=>((idx p_l (IntKind.i64.wrap (((p_l.length:Nat):Int) - 1))).bind fun x7=>((Dm n 6 (IntKind.i64.wrap (x6.B0+((x7.Au.length:Nat):Int))) p_l p_i p_e p_at).bind fun y8=>(some (y8.1,y8.2))))) else((Dm n 6 0 p_l p_i p_e p_at).bind fun y10=>(some (y10.1,y10.2)))))
def N5:Nat→(List A6)→Int→Int→Int→Int→(List UInt8)→Option (A6×Int×Int×Int)
 | 0,_,_,_,_,_,_=>none
 | n+1,p_l,p_i,p_e,p_at,o1,o2=>((Di n p_l p_i p_e p_at o1 o2).bind fun y1=>(bif y1.2.1 then(some (y1.1,y1.2.2,p_e,p_at)) else((Hl n p_l y1.2.2 p_e p_at).bind fun y4=>(some (y1.1,y1.2.2,y4.1,y4.2)))))
def Cd:Nat→(List UInt8)→(List A6)→Int→Int→Int→Option (Int×Int×Int)
 | 0,_,_,_,_,_=>none
 | n+1,M9,p_l,p_i,p_e,p_at=>(Xp n fun n1=>((N5 n p_l p_i p_e p_at 3 M9).bind fun y7=>(some (y7.2.1,y7.2.2.1,y7.2.2.2))))
def L8 (n:Nat) :Nat→Option (LR Unit (Ai×Int×Int×Int))
 | 0=>none
 | k5+1=>(some (.out ()))
def Gn (n:Nat)  (y1:((List A0)×Int×Int×Int)):Nat→Int→(List A0)→Option (LR (List A0) (Ai×Int×Int×Int))
 | 0,_,_=>none
 | k24+1,s22,s23=>(bif decide (s22<((y1.1.length:Nat):Int)) then((idx s23 s22).bind fun x33=>(bif (x33.B1==2) then((idx s23 s22).bind fun x35=>(Gn n y1 k24 (IntKind.i64.wrap (s22+1)) (List.set s23 s22.toNat (⟨3,x35.Bk,x35.Ae,x35.C2,x35.B0⟩:A0)))) else(Gn n y1 k24 (IntKind.i64.wrap (s22+1)) s23))) else(some (.out s23)))
def Pq:Nat→Int→Int→(List A6)→Int→Int→Int→Option (Ai×Int×Int×Int)
 | 0,_,_,_,_,_,_=>none
 | n+1,Ho,M5,p_l,p_i,p_e,p_at=>((To n p_l p_i).bind fun y1=>(bif decide (y1.1.length=0) then((Dm n y1.2.2.1 y1.2.2.2 p_l p_i p_e p_at).bind fun y3=>((L8 n n).bind fun o12=>match o12 with|.out _=>(bif (y3.1==0) then((Cd n ([59]:List UInt8) p_l y1.2.1 y3.1 y3.2).bind fun y15=>(some ((⟨Ho,([]:List A0),M5⟩:Ai),y15.1,y15.2.1,y15.2.2))) else((Cd n ([59]:List UInt8) p_l p_i y3.1 y3.2).bind fun y17=>(some ((⟨Ho,([]:List A0),M5⟩:Ai),y17.1,y17.2.1,y17.2.2))))|.ret v=>some v)) else((Dm n y1.2.2.1 y1.2.2.2 p_l p_i p_e p_at).bind fun y20=>((Gn n y1 n 0 y1.1).bind fun o31=>match o31 with|.out x38=>(bif (y20.1==0) then((Cd n ([59]:List UInt8) p_l y1.2.1 y20.1 y20.2).bind fun y40=>(some ((⟨Ho,x38,M5⟩:Ai),y40.1,y40.2.1,y40.2.2))) else((Cd n ([59]:List UInt8) p_l p_i y20.1 y20.2).bind fun y42=>(some ((⟨Ho,x38,M5⟩:Ai),y42.1,y42.2.1,y42.2.2))))|.ret v=>some v))))
def Vx:Nat→A6→Option Bool
 | 0,_=>none
 | n+1,Eh=>(some (Eh.Ah==2))
def Oy:Nat→(List A6)→Int→Int→Int→Option (A6×Bool×Int)
 | 0,_,_,_,_=>none
 | n+1,p_l,p_i,p_e,p_at=>(bif (p_e != 0) then(some ((⟨0,([]:List UInt8),0,0⟩:A6),false,p_i)) else(bif decide (((p_l.length:Nat):Int)≤p_i) then(some ((⟨0,([]:List UInt8),0,0⟩:A6),false,p_i)) else((idx p_l p_i).bind fun x3=>((Vx n x3).bind fun y4=>(bif y4 then((idx p_l (IntKind.i64.wrap ((IntKind.i64.wrap (p_i+1)) - 1))).bind fun x7=>(some (x7,true,IntKind.i64.wrap (p_i+1)))) else(some ((⟨0,([]:List UInt8),0,0⟩:A6),false,p_i)))))))
def L6:Nat→(List A6)→Int→Int→Int→Option (A6×Int×Int×Int)
 | 0,_,_,_,_=>none
 | n+1,p_l,p_i,p_e,p_at=>((Oy n p_l p_i p_e p_at).bind fun y1=>(bif y1.2.1 then(some (y1.1,y1.2.2,p_e,p_at)) else((Hl n p_l y1.2.2 p_e p_at).bind fun y4=>(some (y1.1,y1.2.2,y4.1,y4.2)))))
def Yu:Nat→A6→Option Bool
 | 0,_=>none
 | n+1,Eh=>(bif (Eh.Ah==1) then((Df n Eh.Au).bind fun y2=>(some y2)) else(some false))
def Oo:Nat→(List A6)→Int→Int→Int→Option (A6×Bool×Int)
 | 0,_,_,_,_=>none
 | n+1,p_l,p_i,p_e,p_at=>(bif (p_e != 0) then(some ((⟨0,([]:List UInt8),0,0⟩:A6),false,p_i)) else(bif decide (((p_l.length:Nat):Int)≤p_i) then(some ((⟨0,([]:List UInt8),0,0⟩:A6),false,p_i)) else((idx p_l p_i).bind fun x3=>((Yu n x3).bind fun y4=>(bif y4 then((idx p_l (IntKind.i64.wrap ((IntKind.i64.wrap (p_i+1)) - 1))).bind fun x7=>(some (x7,true,IntKind.i64.wrap (p_i+1)))) else(some ((⟨0,([]:List UInt8),0,0⟩:A6),false,p_i)))))))
def J4:Nat→(List A6)→Int→Int→Int→Option (A6×Int×Int×Int)
 | 0,_,_,_,_=>none
 | n+1,p_l,p_i,p_e,p_at=>((Oo n p_l p_i p_e p_at).bind fun y1=>(bif y1.2.1 then(some (y1.1,y1.2.2,p_e,p_at)) else((Hl n p_l y1.2.2 p_e p_at).bind fun y4=>(some (y1.1,y1.2.2,y4.1,y4.2)))))
def Rk:Nat→Int→(List A6)→Int→Int→Int→Option (Az×Int×Int×Int)
 | 0,_,_,_,_,_=>none
 | n+1,La,p_l,p_i,p_e,p_at=>((J4 n p_l p_i p_e p_at).bind fun y1=>((Cd n ([61]:List UInt8) p_l y1.2.1 y1.2.2.1 y1.2.2.2).bind fun y3=>((L6 n p_l y3.1 y3.2.1 y3.2.2).bind fun y5=>((Cd n ([59]:List UInt8) p_l y5.2.1 y5.2.2.1 y5.2.2.2).bind fun y7=>(some ((⟨y1.1.Au,y5.1.Bk,La⟩:Az),y7.1,y7.2.1,y7.2.2))))))
def Im (n:Nat)  (p_l:(List A6)):Nat→Bool→Int→Int→Int→(List (List UInt8))→Option (LR (Int×Int×Int×(List (List UInt8))) (Ag×Int×Int×Int))
 | 0,_,_,_,_,_=>none
 | k19+1,s14,s15,s16,s17,s18=>(bif s14 then((J4 n p_l s15 s16 s17).bind fun y28=>(bif decide ((s18.length+1)*17≤140737488355328) then(Xp n fun n32=>((Di n p_l y28.2.1 y28.2.2.1 y28.2.2.2 3 ([44]:List UInt8)).bind fun y38=>(Im n p_l k19 y38.2.1 y38.2.2 y28.2.2.1 y28.2.2.2 (s18++([y28.1.Au]:List (List UInt8)))))) else none)) else(some (.out (s15,s16,s17,s18))))
def Og:Nat→Int→(List A6)→Int→Int→Int→Option (Ag×Int×Int×Int)
 | 0,_,_,_,_,_=>none
 | n+1,La,p_l,p_i,p_e,p_at=>((J4 n p_l p_i p_e p_at).bind fun y1=>((Cd n ([123]:List UInt8) p_l y1.2.1 y1.2.2.1 y1.2.2.2).bind fun y3=>(Xp n fun n5=>((Di n p_l y3.1 y3.2.1 y3.2.2 1 ([114,101,103]:List UInt8)).bind fun y11=>(bif y11.2.1 then((Im n p_l n true y11.2.2 y3.2.1 y3.2.2 ([]:List (List UInt8))).bind fun o26=>match o26 with|.out (x41,x42,x43,x44)=>((Cd n ([59]:List UInt8) p_l x41 x42 x43).bind fun y45=>(bif (y45.2.1 != 0) then(some ((⟨y1.1.Au,x44,([]:List A2),La⟩:Ag),y45.1,y45.2.1,y45.2.2)) else((Ti n p_l y45.1).bind fun y48=>((Dm n y48.2.2.1 y48.2.2.2 p_l y45.1 y45.2.1 y45.2.2).bind fun y50=>(bif (y50.1==0) then((Cd n ([125]:List UInt8) p_l y48.2.1 y50.1 y50.2).bind fun y53=>(some ((⟨y1.1.Au,x44,y48.1,La⟩:Ag),y53.1,y53.2.1,y53.2.2))) else((Cd n ([125]:List UInt8) p_l y45.1 y50.1 y50.2).bind fun y55=>(some ((⟨y1.1.Au,x44,y48.1,La⟩:Ag),y55.1,y55.2.1,y55.2.2))))))))|.ret v=>some v) else(bif (y3.2.1 != 0) then(some ((⟨y1.1.Au,([]:List (List UInt8)),([]:List A2),La⟩:Ag),y11.2.2,y3.2.1,y3.2.2)) else((Ti n p_l y11.2.2).bind fun y59=>((Dm n y59.2.2.1 y59.2.2.2 p_l y11.2.2 y3.2.1 y3.2.2).bind fun y61=>(bif (y61.1==0) then((Cd n ([125]:List UInt8) p_l y59.2.1 y61.1 y61.2).bind fun y64=>(some ((⟨y1.1.Au,([]:List (List UInt8)),y59.1,La⟩:Ag),y64.1,y64.2.1,y64.2.2))) else((Cd n ([125]:List UInt8) p_l y11.2.2 y61.1 y61.2).bind fun y66=>(some ((⟨y1.1.Au,([]:List (List UInt8)),y59.1,La⟩:Ag),y66.1,y66.2.1,y66.2.2))))))))))))
def Lb:Nat→Int→Option (List UInt8)
 | 0,_=>none
 | n+1,C6=>(bif (C6==1) then(some ([102,111,114,97,108,108]:List UInt8)) else(bif (C6==2) then(some ([101,120,105,115,116,115]:List UInt8)) else(bif (C6==3) then(some ([97,108,119,97,121,115]:List UInt8)) else(some ([]:List UInt8)))))
def Pa (n:Nat)  (y1:((List A6)×Int×Int)):Nat→Bool→Int→Int→Int→Int→(List UInt8)→Int→Int→(List Az)→Option (LR (Int×Int×Int×Int×(List UInt8)×Int×Int×(List Az)) (Ar×Int×Int))
 | 0,_,_,_,_,_,_,_,_,_=>none
 | k33+1,s24,s25,s26,s27,s28,s29,s30,s31,s32=>(bif s24 then((Rk n s31 y1.1 s25 s26 s27).bind fun y42=>(bif decide ((s32.length+1)*33≤140737488355328) then(Xp n fun n46=>((Di n y1.1 y42.2.1 y42.2.2.1 y42.2.2.2 1 ([108,111,99]:List UInt8)).bind fun y52=>(Pa n y1 k33 y52.2.1 y52.2.2 y42.2.2.1 y42.2.2.2 y52.1.Ah y52.1.Au y52.1.Bk y52.1.B0 (s32++([y42.1]:List Az))))) else none)) else(some (.out (s25,s26,s27,s28,s29,s30,s31,s32))))
def P8 (n:Nat)  (y1:((List A6)×Int×Int)):Nat→Bool→Int→Int→Int→(List Ag)→Int→(List UInt8)→Int→Int→Option (LR (Int×Int×Int×Int×(List UInt8)×Int×Int×(List Ag)) (Ar×Int×Int))
 | 0,_,_,_,_,_,_,_,_,_=>none
 | k80+1,s71,s72,s73,s74,s75,s76,s77,s78,s79=>(bif s71 then((Og n s79 y1.1 s72 s73 s74).bind fun y89=>(bif decide ((s75.length+1)*73≤140737488355328) then(Xp n fun n93=>((Di n y1.1 y89.2.1 y89.2.2.1 y89.2.2.2 1 ([116,104,114,101,97,100]:List UInt8)).bind fun y99=>(P8 n y1 k80 y99.2.1 y99.2.2 y89.2.2.1 y89.2.2.2 (s75++([y89.1]:List Ag)) y99.1.Ah y99.1.Au y99.1.Bk y99.1.B0))) else none)) else(some (.out (s72,s73,s74,s76,s77,s78,s79,s75))))
def Mg (n:Nat)  (y1:((List A6)×Int×Int)):Nat→Bool→Int→Int→Int→Int→(List Ai)→Option (LR (Bool×Int×Int×Int×(List Ai)) (Ar×Int×Int))
 | 0,_,_,_,_,_,_=>none
 | k130+1,s124,s125,s126,s127,s128,s129=>(bif decide (s125≤3) then((Lb n s125).bind fun y139=>(Xp n fun n141=>((Di n y1.1 s126 s127 s128 1 y139).bind fun y147=>(bif y147.2.1 then((Pq n s125 y147.1.B0 y1.1 y147.2.2 s127 s128).bind fun y150=>(bif decide ((s129.length+1)*41≤140737488355328) then(Mg n y1 k130 true (IntKind.i64.wrap (s125+1)) y150.2.1 y150.2.2.1 y150.2.2.2 (s129++([y150.1]:List Ai))) else none)) else(Mg n y1 k130 s124 (IntKind.i64.wrap (s125+1)) y147.2.2 s127 s128 s129))))) else(some (.out (s124,s126,s127,s128,s129))))
def P7 (n:Nat)  (y1:((List A6)×Int×Int)):Nat→Bool→Int→Int→Int→(List Ai)→Option (LR (Int×Int×Int×(List Ai)) (Ar×Int×Int))
 | 0,_,_,_,_,_=>none
 | k115+1,s110,s111,s112,s113,s114=>(bif s110 then((Mg n y1 n false 1 s111 s112 s113 s114).bind fun o137=>match o137 with|.out (x155,x156,x157,x158,x159)=>(P7 n y1 k115 x155 x156 x157 x158 x159)|.ret v=>some (.ret v)) else(some (.out (s111,s112,s113,s114))))
def O9:Nat→(List UInt8)→Option (Ar×Int×Int)
 | 0,_=>none
 | n+1,Bi=>((Yr n Bi).bind fun y1=>(bif (y1.2.1 != 0) then(some ((⟨0,([]:List Az),([]:List Ag),([]:List Ai)⟩:Ar),y1.2.1,y1.2.2)) else(Xp n fun n4=>((N5 n y1.1 0 0 0 1 ([109,111,100]:List UInt8)).bind fun y10=>((L6 n y1.1 y10.2.1 y10.2.2.1 y10.2.2.2).bind fun y12=>((Cd n ([59]:List UInt8) y1.1 y12.2.1 y12.2.2.1 y12.2.2.2).bind fun y14=>(Xp n fun n16=>((Di n y1.1 y14.1 y14.2.1 y14.2.2 1 ([108,111,99]:List UInt8)).bind fun y22=>((Pa n y1 n y22.2.1 y22.2.2 y14.2.1 y14.2.2 y22.1.Ah y22.1.Au y22.1.Bk y22.1.B0 ([]:List Az)).bind fun o40=>match o40 with|.out (x55,x56,x57,x58,x59,x60,x61,x62)=>(Xp n fun n63=>((Di n y1.1 x55 x56 x57 1 ([116,104,114,101,97,100]:List UInt8)).bind fun y69=>((P8 n y1 n y69.2.1 y69.2.2 x56 x57 ([]:List Ag) y69.1.Ah y69.1.Au y69.1.Bk y69.1.B0).bind fun o87=>match o87 with|.out (x102,x103,x104,x105,x106,x107,x108,x109)=>((P7 n y1 n true x102 x103 x104 ([]:List Ai)).bind fun o122=>match o122 with|.out (x162,x163,x164,x165)=>(bif decide (x162<((y1.1.length:Nat):Int)) then((Hl n y1.1 x162 x163 x164).bind fun y167=>(bif (y167.1 != 0) then(some ((⟨0,([]:List Az),([]:List Ag),([]:List Ai)⟩:Ar),y167.1,y167.2)) else(some ((⟨y12.1.Bk,x62,x109,x165⟩:Ar),0,0)))) else(bif (x163 != 0) then(some ((⟨0,([]:List Az),([]:List Ag),([]:List Ai)⟩:Ar),x163,x164)) else(some ((⟨y12.1.Bk,x62,x109,x165⟩:Ar),0,0))))|.ret v=>some v)|.ret v=>some v)))|.ret v=>some v)))))))))
def Mh:Nat→Int→Option Bool
 | 0,_=>none
 | n+1,Bv=>(bif decide (0≤Bv) then(some (decide (Bv≤9999))) else(some false))
def Qz:Nat→Int→Int→(List Az)→(List Ag)→(List Ai)→Option Bool
 | 0,_,_,_,_,_=>none
 | n+1,H8,C1,Bq,Ba,Bf=>((idx Bq H8).bind fun x1=>((Df n x1.Ae).bind fun y2=>(bif y2 then((Mh n x1.Bk).bind fun y5=>(bif y5 then(some (decide (0≤x1.B0))) else(some false))) else(some false))))
def Kh (n:Nat)  (Bv:Int) (C1:Int) (Bq:(List Az)) (Ba:(List Ag)) (Bf:(List Ai)):Nat→Int→Option (LR Unit Bool)
 | 0,_=>none
 | k2+1,s1=>(bif decide (s1<Bv) then((Qz n s1 C1 Bq Ba Bf).bind fun y11=>(bif y11 then(Kh n Bv C1 Bq Ba Bf k2 (IntKind.i64.wrap (s1+1))) else(some (.ret false)))) else(some (.out ())))
def Te:Nat→Int→Int→(List Az)→(List Ag)→(List Ai)→Option Bool
 | 0,_,_,_,_,_=>none
 | n+1,Bv,C1,Bq,Ba,Bf=>((Kh n Bv C1 Bq Ba Bf n 0).bind fun o9=>match o9 with|.out _=>(some true)|.ret v=>some v)
def Pz:Nat→Int→(List UInt8)→(List (List UInt8))→(List A2)→Int→Option Bool
 | 0,_,_,_,_,_=>none
 | n+1,H8,Hq,Ha,Hr,M6=>((idx Ha H8).bind fun x1=>((Df n x1).bind fun y2=>(some y2)))
def I0 (n:Nat)  (Bv:Int) (Hq:(List UInt8)) (Ha:(List (List UInt8))) (Hr:(List A2)) (M6:Int):Nat→Int→Option (LR Unit Bool)
 | 0,_=>none
 | k2+1,s1=>(bif decide (s1<Bv) then((Pz n s1 Hq Ha Hr M6).bind fun y11=>(bif y11 then(I0 n Bv Hq Ha Hr M6 k2 (IntKind.i64.wrap (s1+1))) else(some (.ret false)))) else(some (.out ())))
def Q5:Nat→Int→(List UInt8)→(List (List UInt8))→(List A2)→Int→Option Bool
 | 0,_,_,_,_,_=>none
 | n+1,Bv,Hq,Ha,Hr,M6=>((I0 n Bv Hq Ha Hr M6 n 0).bind fun o9=>match o9 with|.out _=>(some true)|.ret v=>some v)
def P2:Nat→Ag→Option Bool
 | 0,_=>none
 | n+1,Eh=>((Df n Eh.Ae).bind fun y1=>(bif y1 then(bif decide (0≤Eh.B0) then((Nu n Eh.Aq).bind fun y5=>(bif y5 then((Q5 n ((Eh.Ay.length:Nat):Int) Eh.Ae Eh.Ay Eh.Aq Eh.B0).bind fun y8=>(some y8)) else(some false))) else(some false)) else(some false)))
def R6:Nat→Int→Int→(List Az)→(List Ag)→(List Ai)→Option Bool
 | 0,_,_,_,_,_=>none
 | n+1,H8,C1,Bq,Ba,Bf=>((idx Ba H8).bind fun x1=>((P2 n x1).bind fun y2=>(some y2)))
def I1 (n:Nat)  (Bv:Int) (C1:Int) (Bq:(List Az)) (Ba:(List Ag)) (Bf:(List Ai)):Nat→Int→Option (LR Unit Bool)
 | 0,_=>none
 | k2+1,s1=>(bif decide (s1<Bv) then((R6 n s1 C1 Bq Ba Bf).bind fun y11=>(bif y11 then(I1 n Bv C1 Bq Ba Bf k2 (IntKind.i64.wrap (s1+1))) else(some (.ret false)))) else(some (.out ())))
def Qb:Nat→Int→Int→(List Az)→(List Ag)→(List Ai)→Option Bool
 | 0,_,_,_,_,_=>none
 | n+1,Bv,C1,Bq,Ba,Bf=>((I1 n Bv C1 Bq Ba Bf n 0).bind fun o9=>match o9 with|.out _=>(some true)|.ret v=>some v)
def Jh (n:Nat)  (y1:(List A0)):Nat→Int→Option (LR Unit Bool)
 | 0,_=>none
 | k4+1,s3=>(bif decide (s3<((y1.length:Nat):Int)) then((idx y1 s3).bind fun x13=>(bif (x13.B1==2) then(some (.ret false)) else(Jh n y1 k4 (IntKind.i64.wrap (s3+1))))) else(some (.out ())))
def Q6:Nat→Ai→Option Bool
 | 0,_=>none
 | n+1,Cy=>((Np n Cy.Bh).bind fun y1=>((Jh n y1 n 0).bind fun o11=>match o11 with|.out _=>((Lb n Cy.Ah).bind fun y16=>(bif (y16==([]:List UInt8)) then(some false) else((Lv n Cy.Bh).bind fun y19=>(bif y19 then(some (decide (0≤Cy.B0))) else(some false)))))|.ret v=>some v))
def R3:Nat→Int→Int→(List Az)→(List Ag)→(List Ai)→Option Bool
 | 0,_,_,_,_,_=>none
 | n+1,H8,C1,Bq,Ba,Bf=>((idx Bf H8).bind fun x1=>((Q6 n x1).bind fun y2=>(some y2)))
def I6 (n:Nat)  (Bv:Int) (C1:Int) (Bq:(List Az)) (Ba:(List Ag)) (Bf:(List Ai)):Nat→Int→Option (LR Unit Bool)
 | 0,_=>none
 | k2+1,s1=>(bif decide (s1<Bv) then((R3 n s1 C1 Bq Ba Bf).bind fun y11=>(bif y11 then(I6 n Bv C1 Bq Ba Bf k2 (IntKind.i64.wrap (s1+1))) else(some (.ret false)))) else(some (.out ())))
def Qi:Nat→Int→Int→(List Az)→(List Ag)→(List Ai)→Option Bool
 | 0,_,_,_,_,_=>none
 | n+1,Bv,C1,Bq,Ba,Bf=>((I6 n Bv C1 Bq Ba Bf n 0).bind fun o9=>match o9 with|.out _=>(some true)|.ret v=>some v)
def J8:Nat→Ar→Option Bool
 | 0,_=>none
 | n+1,A9=>((Te n ((A9.Ao.length:Nat):Int) A9.B2 A9.Ao A9.A7 A9.Ac).bind fun y1=>((Mh n A9.B2).bind fun y3=>(bif y3 then(bif y1 then((Qb n ((A9.A7.length:Nat):Int) A9.B2 A9.Ao A9.A7 A9.Ac).bind fun y7=>(bif y7 then((Qi n ((A9.Ac.length:Nat):Int) A9.B2 A9.Ao A9.A7 A9.Ac).bind fun y10=>(some y10)) else(some false))) else(some false)) else(some false))))
def In:Nat→Int→Option (List UInt8)
 | 0,_=>none
 | n+1,Bv=>(bif decide (Bv<10) then(some ([UInt8.ofNat (IntKind.u8.wrap (IntKind.i64.wrap (48+Bv))).toNat]:List UInt8)) else(((In n) (IntKind.i64.wrap (Int.tdiv Bv 10))).bind fun y2=>(bif decide (y2.length+(([UInt8.ofNat (IntKind.u8.wrap (IntKind.i64.wrap (48+(Int.tmod Bv 10)))).toNat]:List UInt8)).length≤140737488355328) then(some (y2++([UInt8.ofNat (IntKind.u8.wrap (IntKind.i64.wrap (48+(Int.tmod Bv 10)))).toNat]:List UInt8))) else none)))
def J5 (n:Nat)  (A9:Ar):Nat→(List UInt8)→Int→Option (LR (List UInt8) (List UInt8))
 | 0,_,_=>none
 | k10+1,s8,s9=>(bif decide (s9<((A9.Ao.length:Nat):Int)) then((idx A9.Ao s9).bind fun x19=>(bif decide ((([108,111,99,32]:List UInt8)).length+x19.Ae.length≤140737488355328) then(bif decide (((([108,111,99,32]:List UInt8)++x19.Ae)).length+(([32,61,32]:List UInt8)).length≤140737488355328) then((In n x19.Bk).bind fun y22=>(bif decide ((((([108,111,99,32]:List UInt8)++x19.Ae)++([32,61,32]:List UInt8))).length+y22.length≤140737488355328) then(bif decide (((((([108,111,99,32]:List UInt8)++x19.Ae)++([32,61,32]:List UInt8))++y22)).length+(([59,10]:List UInt8)).length≤140737488355328) then(bif decide (s8.length+(((((([108,111,99,32]:List UInt8)++x19.Ae)++([32,61,32]:List UInt8))++y22)++([59,10]:List UInt8))).length≤140737488355328) then(J5 n A9 k10 (s8++((((([108,111,99,32]:List UInt8)++x19.Ae)++([32,61,32]:List UInt8))++y22)++([59,10]:List UInt8))) (IntKind.i64.wrap (s9+1))) else none) else none) else none)) else none) else none)) else(some (.out s8)))
def Ft (n:Nat)  (x40:Ag):Nat→(List UInt8)→(List UInt8)→Int→Option (LR (List UInt8) (List UInt8))
 | 0,_,_,_=>none
 | k47+1,s44,s45,s46=>(bif decide (s46<((x40.Ay.length:Nat):Int)) then((idx x40.Ay s46).bind fun x56=>(bif decide (s45.length+x56.length≤140737488355328) then(bif decide (s44.length+((s45++x56)).length≤140737488355328) then(Ft n x40 k47 (s44++(s45++x56)) ([44,32]:List UInt8) (IntKind.i64.wrap (s46+1))) else none) else none)) else(some (.out s44)))
def Hx (n:Nat)  (A9:Ar):Nat→(List UInt8)→Int→Option (LR (List UInt8) (List UInt8))
 | 0,_,_=>none
 | k31+1,s29,s30=>(bif decide (s30<((A9.A7.length:Nat):Int)) then((idx A9.A7 s30).bind fun x40=>(bif decide ((([116,104,114,101,97,100,32]:List UInt8)).length+x40.Ae.length≤140737488355328) then(bif decide (((([116,104,114,101,97,100,32]:List UInt8)++x40.Ae)).length+(([32,123,10]:List UInt8)).length≤140737488355328) then(bif decide (s29.length+(((([116,104,114,101,97,100,32]:List UInt8)++x40.Ae)++([32,123,10]:List UInt8))).length≤140737488355328) then((Ft n x40 n (s29++((([116,104,114,101,97,100,32]:List UInt8)++x40.Ae)++([32,123,10]:List UInt8))) ([32,32,114,101,103,32]:List UInt8) 0).bind fun o54=>match o54 with|.out x60=>(bif decide (0<((x40.Ay.length:Nat):Int)) then(bif decide (x60.length+(([59,10]:List UInt8)).length≤140737488355328) then((Ng n x40.Aq 1).bind fun y63=>(bif decide (y63.length+(([125,10]:List UInt8)).length≤140737488355328) then(bif decide (((x60++([59,10]:List UInt8))).length+((y63++([125,10]:List UInt8))).length≤140737488355328) then(Hx n A9 k31 ((x60++([59,10]:List UInt8))++(y63++([125,10]:List UInt8))) (IntKind.i64.wrap (s30+1))) else none) else none)) else none) else((Ng n x40.Aq 1).bind fun y67=>(bif decide (y67.length+(([125,10]:List UInt8)).length≤140737488355328) then(bif decide (x60.length+((y67++([125,10]:List UInt8))).length≤140737488355328) then(Hx n A9 k31 (x60++(y67++([125,10]:List UInt8))) (IntKind.i64.wrap (s30+1))) else none) else none)))|.ret v=>some (.ret v)) else none) else none) else none)) else(some (.out s29)))
def Ja (n:Nat)  (A9:Ar):Nat→(List UInt8)→Int→Option (LR (List UInt8) (List UInt8))
 | 0,_,_=>none
 | k76+1,s74,s75=>(bif decide (s75<((A9.Ac.length:Nat):Int)) then((idx A9.Ac s75).bind fun x85=>((Lb n x85.Ah).bind fun y86=>(bif decide (y86.length+(([32]:List UInt8)).length≤140737488355328) then((Dj n x85.Bh).bind fun y89=>(bif decide (((y86++([32]:List UInt8))).length+y89.length≤140737488355328) then(bif decide ((((y86++([32]:List UInt8))++y89)).length+(([59,10]:List UInt8)).length≤140737488355328) then(bif decide (s74.length+((((y86++([32]:List UInt8))++y89)++([59,10]:List UInt8))).length≤140737488355328) then(Ja n A9 k76 (s74++(((y86++([32]:List UInt8))++y89)++([59,10]:List UInt8))) (IntKind.i64.wrap (s75+1))) else none) else none) else none)) else none))) else(some (.out s74)))
def Kb:Nat→Ar→Option (List UInt8)
 | 0,_=>none
 | n+1,A9=>((J8 n A9).bind fun y1=>(bif y1 then((In n A9.B2).bind fun y4=>(bif decide ((([109,111,100,32]:List UInt8)).length+y4.length≤140737488355328) then(bif decide (((([109,111,100,32]:List UInt8)++y4)).length+(([59,10]:List UInt8)).length≤140737488355328) then((J5 n A9 n ((([109,111,100,32]:List UInt8)++y4)++([59,10]:List UInt8)) 0).bind fun o17=>match o17 with|.out x28=>((Hx n A9 n x28 0).bind fun o38=>match o38 with|.out x73=>((Ja n A9 n x73 0).bind fun o83=>match o83 with|.out x95=>(some x95)|.ret v=>some v)|.ret v=>some v)|.ret v=>some v) else none) else none)) else(some ([]:List UInt8))))
def Sb:Nat→Option (List UInt8)
 | 0=>none
 | n+1=>(some (List.append ([109,111,100,32,50,59,10,108,111,99,32,120,32,61,32,48,59,10,116,104,114,101,97,100,32,116,32,123,10,32,32,114,101,103,32,97,44,32,98,59,10,32,32,108]:List UInt8) ([111,97,100,32,97,32,61,32,120,59,10,125,10,102,111,114,97,108,108,32,40,116,46,97,32,61,61,32,48,41,32,38,38,32,40,120,32,61,61,32,48,41,59,10]:List UInt8)))
def Pb:Nat→Option Bool
 | 0=>none
 | n+1=>((Sb n ).bind fun y1=>((O9 n y1).bind fun y3=>((O9 n ([109,111,100,32,50,59,32,108,111,99,32,120,59]:List UInt8)).bind fun y5=>((O9 n ([109,111,100,32,50,59,32,116,104,114,101,97,100,32,116,32,123,32,125,10,125]:List UInt8)).bind fun y7=>((O9 n ([]:List UInt8)).bind fun y9=>(bif (y3.2.1 != 0) then(some false) else(bif (y3.1.B2 != 2) then(some false) else(bif (((y3.1.Ao.length:Nat):Int) != 1) then(some false) else(bif (((y3.1.A7.length:Nat):Int) != 1) then(some false) else(bif (((y3.1.Ac.length:Nat):Int) != 1) then(some false) else((idx y3.1.A7 0).bind fun x16=>(bif (((x16.Ay.length:Nat):Int) != 2) then(some false) else((idx y3.1.Ac 0).bind fun x18=>(bif (((x18.Bh.length:Nat):Int) != 7) then(some false) else((Lc n y3.1).bind fun y20=>((idx y3.1.Ao 0).bind fun x22=>(bif (x22.B0==7) then(bif (((y20.Ao.length:Nat):Int)==1) then((idx y20.Ao 0).bind fun x25=>(bif (x25.B0==0) then((idx y3.1.Ac 0).bind fun x27=>((idx x27.Bh 5).bind fun x28=>(bif (x28.B1==3) then(bif (y5.2.1==5) then(bif (y5.2.2==12) then(bif (y7.2.1==5) then(bif (y7.2.2==20) then(bif (y9.2.1==6) then(bif (y9.2.2==0) then((Kb n y3.1).bind fun y36=>((Sb n ).bind fun y38=>(bif (y36==y38) then((J8 n y3.1).bind fun y41=>(some y41)) else(some false)))) else(some false)) else(some false)) else(some false)) else(some false)) else(some false)) else(some false)) else(some false)))) else(some false))) else(some false)) else(some false))))))))))))))))))
end Go.Proofs.YteindmlljlboeaaGreat
end
