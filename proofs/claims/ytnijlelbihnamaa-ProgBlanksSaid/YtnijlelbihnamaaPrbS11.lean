/- Parts of the proofs: what they lean on. Conditions: none. -/
import Derived.Test.YtnijlelbihnamaaRows
import Derived.WalkKit
import Derived.WalkSpells
import Derived.WalkLawsBesides
import Derived.Test.YtnijlelbihnamaaPrbS10
section
namespace Go.Proofs.Ytnijlelbihnamaa
open Go.RowKit
set_option maxHeartbeats 400000 in
theorem Ly (c:Int) (w:World) :
 Calls Try.prog 39 #[.int .i32 c] w fun e w'=>e=.returned (.bool (H4 c))∧w=w':=by
 go_enter Try.func39,Try.ntmps39
 go_wp2
 all_goals
  go_ret
  refine⟨congrArg (fun b=>Ending.returned (.bool b)) ?_,rfl⟩
  rw[Bool.eq_iff_iff]
  simp[H4]
  omega
set_option maxHeartbeats 400000 in
theorem Sa (c:Int) (w:World) :
 Calls Try.prog 41 #[.int .i32 c] w fun e w'=>e=.returned (.bool (Ct c))∧w=w':=by
 go_enter Try.func41,Try.ntmps41
 go_wp2
 all_goals
  go_ret
  refine⟨congrArg (fun b=>Ending.returned (.bool b)) ?_,rfl⟩
  rw[Bool.eq_iff_iff]
  simp[Ct]
  omega
theorem Ey {s:ByteArray} {l:List UInt8} (h:s.data.toList≠l):(s.toList==l)=false:=by
 rw[ByteArray.toList_eq];simpa using h
theorem A8u {s:ByteArray} {l:List UInt8} (h:s.data.toList=l):s=⟨l.toArray⟩:=by
 subst h;rfl
set_option maxHeartbeats 1000000 in
theorem A1b (s:ByteArray) (w:World) :
 Calls Try.prog 53 #[.string s] w fun e w'=>e=.returned (.bool (kwB s.data.toList))∧w=w':=by
 by_cases h:s.data.toList ∈ kws
 ·have hk:kwB s.data.toList=true:=by simpa [kwB] using h
  rw[hk]
  simp only[kws,List.mem_cons,List.not_mem_nil,or_false] at h
  rcases h with h | h | h | h | h | h | h | h | h | h | h | h | h | h | h | h | h | h | h | h | h
  all_goals
   obtain rfl:=A8u h
   clear h hk
   go_enter Try.func53,Try.ntmps53
   go_wp2
   go_ret
   exact⟨rfl,rfl⟩
 ·have hk:kwB s.data.toList=false:=by simpa [kwB] using h
  rw[hk]
  have n0:(s.toList==[109,111,100])=false:=Ey (fun e=>h (by rw[e];decide))
  have n1:(s.toList==[108,111,99])=false:=Ey (fun e=>h (by rw[e];decide))
  have n2:(s.toList==[116,104,114,101,97,100])=false:=Ey (fun e=>h (by rw[e];decide))
  have n3:(s.toList==[114,101,103])=false:=Ey (fun e=>h (by rw[e];decide))
  have n4:(s.toList==[115,107,105,112])=false:=Ey (fun e=>h (by rw[e];decide))
  have n5:(s.toList==[115,101,116])=false:=Ey (fun e=>h (by rw[e];decide))
  have n6:(s.toList==[108,111,97,100])=false:=Ey (fun e=>h (by rw[e];decide))
  have n7:(s.toList==[115,116,111,114,101])=false:=Ey (fun e=>h (by rw[e];decide))
  have n8:(s.toList==[99,97,115])=false:=Ey (fun e=>h (by rw[e];decide))
  have n9:(s.toList==[102,97,100,100])=false:=Ey (fun e=>h (by rw[e];decide))
  have n10:(s.toList==[120,99,104,103])=false:=Ey (fun e=>h (by rw[e];decide))
  have n11:(s.toList==[102,101,110,99,101])=false:=Ey (fun e=>h (by rw[e];decide))
  have n12:(s.toList==[97,119,97,105,116])=false:=Ey (fun e=>h (by rw[e];decide))
  have n13:(s.toList==[105,102])=false:=Ey (fun e=>h (by rw[e];decide))
  have n14:(s.toList==[101,108,115,101])=false:=Ey (fun e=>h (by rw[e];decide))
  have n15:(s.toList==[119,104,105,108,101])=false:=Ey (fun e=>h (by rw[e];decide))
  have n16:(s.toList==[108,111,111,112])=false:=Ey (fun e=>h (by rw[e];decide))
  have n17:(s.toList==[98,114,101,97,107])=false:=Ey (fun e=>h (by rw[e];decide))
  have n18:(s.toList==[102,111,114,97,108,108])=false:=Ey (fun e=>h (by rw[e];decide))
  have n19:(s.toList==[101,120,105,115,116,115])=false:=Ey (fun e=>h (by rw[e];decide))
  have n20:(s.toList==[97,108,119,97,121,115])=false:=Ey (fun e=>h (by rw[e];decide))
  clear h hk
  go_enter Try.func53,Try.ntmps53
  go_wp2
  go_ret
  exact⟨rfl,rfl⟩
def Aah (s:ByteArray) (w:World) (e:Ending) (w':World):Prop:=e=.returned (.bool (E0 s.data.toList))∧Below w.heap.size w w'
theorem A0x (s:ByteArray) (w w':World) (k:Nat) (hk:k < s.size) (h1:H4 s[k].toNat=false) (h2:k=0∨Ct s[k].toNat=false) (hb:Below w.heap.size w w'):Aah s w (.returned (.bool false)) w':=by
 refine⟨?_,hb⟩
 rw[Ah6 (l:=s.data.toList) (k:=k) (by rw[Ka];exact hk)]
 rw[A5t s k hk,h1]
 rcases h2 with rfl | h2
 ·simp
 ·simp[h2]
set_option maxHeartbeats 2000000 in
theorem Ajf (s:ByteArray) (w:World) (hs:s.size≤9223372036854775807) :
 Calls Try.prog 28 #[.string s] w (Aah s w):=by
 go_enter Try.func28,Try.ntmps28
 go_wp2
 go_loopw [] (fun w'=>∃ pos:Nat,w'=w.iter s pos∧pos≤s.size∧∀ k,k < pos→Nw s.data.toList k=true) (fun w'=>s.size - w'.iterPos w.heap.size)
 case atStart=>exact⟨0,rfl,by omega,fun k h=>absurd h (by omega)⟩
 case round =>
  obtain⟨pos,rfl,hpos,hall⟩:=hrel
  have Hall:=Lib.hid hall;clear hall
  have hB:Below w.heap.size w (w.iter s (pos+1)):=((Below.refl _ _).alloc (Nat.le_refl _) _)
  have hB2:Below w.heap.size w (w.iter s (pos+(Utf8.decode s pos).2)):=((Below.refl _ _).alloc (Nat.le_refl _) _)
  have HB:=Lib.hid hB;have HB2:=Lib.hid hB2
  clear hB hB2
  by_cases hlt:pos < s.size
  ·have hat:=A5t s pos hlt
   have HA:=Lib.hid hat;clear hat
   by_cases ha:(s[pos]'hlt).toNat < 128
   ·have hnx:∀ ty,(Instr.next (.pointer (some ⟨w.heap.size,0,none⟩)) true ty).run Try.prog (w.iter s pos)=_:=fun ty=>run_next_ascii w s pos ty hlt ha
    clear ha
    by_cases h1:H4 (s[pos]'hlt).toNat=true
    ·go_wp2_with (first
      | (go_at_call 39;refine(Ly _ _).mono ?_;rintro e w' ⟨rfl,rfl⟩))
     go_roundw
     case rel =>
      refine⟨pos+1,rfl,by omega,fun k hk=>?_⟩
      rcases Nat.lt_or_ge k pos with h | h
      ·exact Hall.out k h
      ·obtain rfl:k=pos:=by omega
       rw[HA.out,h1];rfl
     case measure=>simp;omega
    ·have h1':H4 (s[pos]'hlt).toNat=false:=by simpa using h1
     clear h1
     by_cases h0:pos=0
     ·subst h0
      go_wp2_with (first
       | (go_at_call 39;refine(Ly _ _).mono ?_;rintro e w' ⟨rfl,rfl⟩))
      go_ret
      exact A0x s _ _ 0 hlt h1' (.inl rfl) HB.out
     ·have h0':((pos:Int)==0)=false:=by rw[beq_eq_false_iff_ne];omega
      by_cases h2:Ct (s[pos]'hlt).toNat=true
      ·go_wp2_with (first
        | (go_at_call 39;refine(Ly _ _).mono ?_;rintro e w' ⟨rfl,rfl⟩)
        | (go_at_call 41;refine(Sa _ _).mono ?_;rintro e w' ⟨rfl,rfl⟩))
       go_roundw
       case rel =>
        refine⟨pos+1,rfl,by omega,fun k hk=>?_⟩
        rcases Nat.lt_or_ge k pos with h | h
        ·exact Hall.out k h
        ·obtain rfl:k=pos:=by omega
         rw[HA.out,h2];simp;omega
       case measure=>simp;omega
      ·have h2':Ct (s[pos]'hlt).toNat=false:=by simpa using h2
       clear h2
       go_wp2_with (first
        | (go_at_call 39;refine(Ly _ _).mono ?_;rintro e w' ⟨rfl,rfl⟩)
        | (go_at_call 41;refine(Sa _ _).mono ?_;rintro e w' ⟨rfl,rfl⟩))
       go_ret
       exact A0x s _ _ pos hlt h1' (.inr h2') HB.out
   ·have hnx:∀ ty,(Instr.next (.pointer (some ⟨w.heap.size,0,none⟩)) true ty).run Try.prog (w.iter s pos)=_:=fun ty=>run_next_any w s pos ty hlt
    have hd:=(decode_high s pos hlt (by omega)).1
    have h1':H4 (Utf8.decode s pos).1=false:=U6 (by omega)
    have h2':Ct (Utf8.decode s pos).1=false:=Ov (by omega)
    have h3:H4 (s[pos]'hlt).toNat=false:=U6 (by omega)
    have h4:Ct (s[pos]'hlt).toNat=false:=Ov (by omega)
    by_cases h0:pos=0
    ·subst h0
     go_wp2_with (first
      | (go_at_call 39;refine(Ly _ _).mono ?_;rintro e w' ⟨rfl,rfl⟩))
     go_ret
     exact A0x s _ _ 0 hlt h3 (.inl rfl) (by have:=HB2.out;rw[Nat.zero_add] at this;exact this)
    ·have h0':((pos:Int)==0)=false:=by rw[beq_eq_false_iff_ne];omega
     go_wp2_with (first
      | (go_at_call 39;refine(Ly _ _).mono ?_;rintro e w' ⟨rfl,rfl⟩)
      | (go_at_call 41;refine(Sa _ _).mono ?_;rintro e w' ⟨rfl,rfl⟩))
     go_ret
     exact A0x s _ _ pos hlt h3 (.inr h4) HB2.out
  ·have hnx:∀ ty,(Instr.next (.pointer (some ⟨w.heap.size,0,none⟩)) true ty).run Try.prog (w.iter s pos)=_:=fun ty=>run_next_end w s pos ty hlt
   have hn:=Adi (l:=s.data.toList) (fun k hk=>Hall.out k (by rw[Ka] at hk;omega))
   rw[Ka] at hn
   have hB:Below w.heap.size w (w.iter s pos):=((Below.refl _ _).alloc (Nat.le_refl _) _)
   have HN:=Lib.hid hn;clear hn
   by_cases he:s.data.toList=[]
   ·obtain rfl:=A8u he
    go_wp2
    go_ret
    exact⟨by rw[HN.out];rfl,hB⟩
   ·have he1:s.toList.isEmpty=false:=by rw[ByteArray.toList_eq];simpa using he
    have he2:s.data.toList.isEmpty=false:=by simpa using he
    clear he
    by_cases h16:s.size≤16
    ·go_wp2_with (first
      | (go_at_call 53;refine(A1b _ _).mono ?_;rintro e w' ⟨rfl,rfl⟩))
     go_ret
     exact⟨by rw[HN.out];simp[he2,h16],hB⟩
    ·go_wp2
     go_ret
     exact⟨by rw[HN.out];simp[he2,h16],hB⟩
set_option linter.unusedVariables false
set_option linter.unusedSimpArgs false
set_option maxRecDepth 100000
def Ain (f:List UInt8→Bool) (args:List AV):Option AV:=match args with
 | [.str s]=>some (.bool (f s))
 | _=>none
theorem A5m {P:Program} {g:FuncId} {f:List UInt8→Bool} (hc:∀ (s:ByteArray) (w:World),s.size≤9223372036854775807→Calls P g #[.string s] w (Acn (f s.data.toList) w)):X0 P g (Ain f):=by
 intro args v h S w vs hS hr
 match args,h with
 | [.str s],h =>
  cases h
  cases hr with | cons _ _ _ u _ _ h1 t=>cases t with | nil =>
  obtain⟨rfl,hl⟩:=h1.str_inv
  refine(hc (bs s) w (by unfold maxLen at hl;show s.toArray.size≤_;rw[List.size_toArray];omega)).mono ?_
  rintro e w' ⟨rfl,hb⟩
  obtain⟨k1,k2⟩:=Y5 hS hb
  exact⟨_,S,rfl,.bool _ _ _,k2,k1,fun _ _ h=>.inl h,hb⟩
theorem Ad1 {P:Program} {g:FuncId}:X0 P g (fun _=>none):=by intro args v h;cases h
set_option maxHeartbeats 400000 in
theorem Ajd (c:Int) (w:World) :
 Calls Try.prog 38 #[.int .i32 c] w fun e w'=>e=.returned (.bool (Kh c))∧w=w':=by
 go_enter Try.func38,Try.ntmps38
 go_wp2
 all_goals
  go_ret
  refine⟨congrArg (fun b=>Ending.returned (.bool b)) ?_,rfl⟩
  rw[Bool.eq_iff_iff]
  simp[Kh]
set_option maxHeartbeats 400000 in
theorem Aik (c:Int) (w:World) :
 Calls Try.prog 40 #[.int .i32 c] w fun e w'=>e=.returned (.bool (M3 c))∧w=w':=by
 go_enter Try.func40,Try.ntmps40
 go_wp2_with (first
  | (go_at_call 39;refine(Ly _ _).mono ?_;rintro e w' ⟨rfl,rfl⟩)
  | (go_at_call 41;refine(Sa _ _).mono ?_;rintro e w' ⟨rfl,rfl⟩))
 all_goals
  go_ret
  refine⟨congrArg (fun b=>Ending.returned (.bool b)) ?_,rfl⟩
  simp[M3, *]
theorem Ah2 (s:ByteArray) (pos:Nat) (h:pos < s.size):1≤(Utf8.decode s pos).2:=by
 by_cases ha:(s[pos]'h).toNat < 128
 ·rw[decode_ascii s pos h ha]
  exact Nat.le_refl _
 ·exact(decode_high s pos h (by omega)).2
theorem Agy (p:Int→Bool) (hp:∀ c,128≤c→p c=p 128) (s:ByteArray) (pos:Nat) (h:pos < s.size) :
 pos+(Utf8.decode s pos).2≤s.size∧p (s[pos]'h).toNat=p (Utf8.decode s pos).1∧(p (Utf8.decode s pos).1=true→∀ k (hk:k < s.size),pos≤k→k < pos+(Utf8.decode s pos).2→p s[k].toNat=true):=by
 by_cases ha:(s[pos]'h).toNat < 128
 ·have e:=decode_ascii s pos h ha
  rw[e]
  refine⟨by simp;omega,rfl,fun hq k hk h1 h2=>?_⟩
  simp only at h2
  obtain rfl:k=pos:=by omega
  exact hq
 ·have hd:=decode_high s pos h (by omega)
  have hb:=A8q s pos h (by omega)
  refine⟨hb.1,?_,fun hq k hk h1 h2=>?_⟩
  ·rw[hp _ (by omega),hp (Utf8.decode s pos).1 (by omega)]
  ·rw[hp _ (by have:=hb.2 k hk h1 h2;omega),← hp (Utf8.decode s pos).1 (by omega)]
   exact hq
set_option maxHeartbeats 400000 in
theorem Aky (s:ByteArray) (f:Nat) (p:Int→Bool) (w:World) (hs:s.size≤9223372036854775807)
 (hcf:∀ (args:Array Value) (w:World),(callFunc f args).run Try.prog w=.ok (.enter f args) w)
 (hf:∀ (c:Int) (w:World),Calls Try.prog f #[.int .i32 c] w fun e w'=>e=.returned (.bool (p c))∧w=w') (hp:∀ c,128≤c→p c=p 128) :
 Calls Try.prog 37 #[.string s,.func (.func f) #[] #[]] w fun e w'=>e=.returned (.int .i64 (Cn p s.data.toList))∧Below w.heap.size w w':=by
 have Hf:=Lib.hid hf;clear hf
 have Hp:=Lib.hid hp;clear hp
 go_enter Try.func37,Try.ntmps37
 go_wp2
 go_loopw [] (fun w'=>∃ pos:Nat,w'=w.iter s pos∧pos≤s.size∧∀ k (hk:k < s.size),k < pos→p s[k].toNat=true) (fun w'=>s.size - w'.iterPos w.heap.size)
 case atStart=>exact⟨0,rfl,by omega,fun k _ h=>absurd h (by omega)⟩
 case round =>
  obtain⟨pos,rfl,hpos,hall⟩:=hrel
  have Hall:=Lib.hid hall;clear hall
  by_cases hlt:pos < s.size
  ·have hnx:∀ ty,(Instr.next (.pointer (some ⟨w.heap.size,0,none⟩)) true ty).run Try.prog (w.iter s pos)=_:=fun ty=>run_next_any w s pos ty hlt
   have RK:=Lib.hid (Agy p Hp.out s pos hlt)
   have hwd:=Ah2 s pos hlt
   go_wp2_with fail
   refine(Hf.out _ _).mono ?_
   rintro e w' ⟨rfl,rfl⟩
   by_cases hk:p (Utf8.decode s pos).1=true
   ·go_wp2
    go_roundw
    case rel =>
     refine⟨pos+(Utf8.decode s pos).2,rfl,RK.out.1,fun k hk' hk2=>?_⟩
     rcases Nat.lt_or_ge k pos with h | h
     ·exact Hall.out k hk' h
     ·exact RK.out.2.2 hk k hk' h hk2
    case measure=>simp;omega
   ·have hk':p (Utf8.decode s pos).1=false:=by simpa using hk
    go_wp2
    go_ret
    refine⟨?_,((Below.refl _ _).alloc (Nat.le_refl _) _)⟩
    have e:Cn p s.data.toList=pos:=Ab9 (fun k hk1 hk2=>Hall.out k hk1 hk2) (by rw[Ka];exact hlt) (by have:=RK.out.2.1;rw[hk'] at this;exact this)
    rw[e];rfl
  ·have hnx:∀ ty,(Instr.next (.pointer (some ⟨w.heap.size,0,none⟩)) true ty).run Try.prog (w.iter s pos)=_:=fun ty=>run_next_end w s pos ty hlt
   go_wp2
   go_ret
   refine⟨?_,((Below.refl _ _).alloc (Nat.le_refl _) _)⟩
   have e:Cn p s.data.toList=s.size:=by
    rw[Ad3 (fun k hk=>Hall.out k hk (by rw[Ka] at hk;omega)),Ka]
   rw[e];rfl
theorem Aa6 (l:List UInt8) (n:Nat) (h:n≤10000):l.foldl (fun n c=>min (10*n+(c.toNat - 48)) 10000) n≤10000:=by
 induction l generalizing n with
 | nil=>exact h
 | cons a t ih=>exact ih _ (by show min _ _≤_;omega)
theorem A5p (l:List UInt8):Mc l≤10000:=Aa6 l 0 (by omega)
theorem A9g (s:ByteArray) (k:Nat) (hk:k < s.size):Mc (s.data.toList.take (k+1))=min (10*Mc (s.data.toList.take k)+((s[k]'hk).toNat - 48)) 10000:=by
 have e:s.data.toList.take (k+1)=s.data.toList.take k++[s[k]'hk]:=by
  rw[List.take_succ_eq_append_getElem (by simpa using hk)];rfl
 rw[e]
 simp[Mc]
set_option maxHeartbeats 1000000 in
theorem Afg (s:ByteArray) (w:World) (hs:s.size≤9223372036854775807) (hd:∀ k (hk:k < s.size),Ct s[k].toNat=true) :
 Calls Try.prog 42 #[.string s] w fun e w'=>e=.returned (.int .i64 (Mc s.data.toList))∧Below w.heap.size w w':=by
 have Hd:=Lib.hid hd;clear hd
 go_enter Try.func42,Try.ntmps42
 go_wp2
 go_loopw [3] (fun v w'=>∃ pos:Nat,w'=w.iter s pos∧pos≤s.size∧v=.int .i64 (Mc (s.data.toList.take pos))) (fun _ w'=>s.size - w'.iterPos w.heap.size)
 case atStart=>exact⟨0,rfl,by omega,rfl⟩
 case round =>
  obtain⟨pos,rfl,hpos,rfl⟩:=hrel
  by_cases hlt:pos < s.size
  ·have hdg:=Hd.out pos hlt
   simp only[Ct,Bf] at hdg
   obtain⟨hd1,hd2⟩:=hdg
   have hnx:∀ ty,(Instr.next (.pointer (some ⟨w.heap.size,0,none⟩)) true ty).run Try.prog (w.iter s pos)=_:=fun ty=>run_next_ascii w s pos ty hlt (by omega)
   have hv:=A5p (s.data.toList.take pos)
   have HS:=Lib.hid (A9g s pos hlt)
   go_wp2
   all_goals
    go_roundw
    case rel =>
     refine⟨pos+1,rfl,by omega,?_⟩
     rw[HS.out]
     first | go_num | (congr 1;omega)
    case measure=>simp;omega
  ·have hnx:∀ ty,(Instr.next (.pointer (some ⟨w.heap.size,0,none⟩)) true ty).run Try.prog (w.iter s pos)=_:=fun ty=>run_next_end w s pos ty hlt
   go_wp2
   go_ret
   refine⟨?_,((Below.refl _ _).alloc (Nat.le_refl _) _)⟩
   have e:s.data.toList.take pos=s.data.toList:=List.take_of_length_le (by rw[Ka];omega)
   rw[e];rfl
theorem Als (args:Array Value) (w:World):(callFunc 38 args).run Try.prog w=.ok (.enter 38 args) w:=by simp[go_sem]
theorem Akr (args:Array Value) (w:World):(callFunc 40 args).run Try.prog w=.ok (.enter 40 args) w:=by simp[go_sem]
theorem Aj6 (args:Array Value) (w:World):(callFunc 41 args).run Try.prog w=.ok (.enter 41 args) w:=by simp[go_sem]
def Ac0 (g:Nat):Option (Int→Bool):=match Nat.beq g 38 with
 | true=>some Kh
 | false=>match Nat.beq g 40 with
   | true=>some M3
   | false=>match Nat.beq g 41 with
     | true=>some Ct
     | false=>none
def Aic (args:List AV):Option AV:=match args with
 | [.str s,.func g [] []]=>match Ac0 g with
   | some p=>some (.int .i64 (Cn p s))
   | none=>none
 | _=>none
def Ae3 (args:List AV):Option AV:=match args with
 | [.str s]=>match s.all (fun c=>Ct c.toNat) with
   | true=>some (.int .i64 (Mc s))
   | false=>none
 | _=>none
theorem Ae2 (p:Int→Bool) (s:List UInt8):Cn p s≤s.length:=by
 unfold Cn
 exact(List.takeWhile_prefix (fun c:UInt8=>p c.toNat) (l:=s)).length_le
theorem Ael:X0 Try.prog 37 Aic:=by
 intro args v h S w vs hS hr
 match args,h with
 | [.str s,.func g [] []],h =>
  simp only[Aic] at h
  cases hr with | cons _ _ _ u _ _ h1 t=>cases t with | cons _ _ _ u2 _ _ h2 t=>cases t with | nil =>
  obtain⟨rfl,hl⟩:=h1.str_inv
  obtain⟨a,b,k1,k2,rfl⟩:=h2.func_inv
  cases k1;cases k2
  unfold maxLen at hl
  have hz:(bs s).size≤9223372036854775807:=by show s.toArray.size≤_;rw[List.size_toArray];omega
  have fin:∀ (p:Int→Bool),(∀ (args:Array Value) (w:World),(callFunc g args).run Try.prog w=.ok (.enter g args) w)→(∀ (c:Int) (w:World),Calls Try.prog g #[.int .i32 c] w fun e w'=>e=.returned (.bool (p c))∧w=w')→(∀ c,128≤c→p c=p 128)→some (AV.int .i64 (Cn p s))=some v→Calls Try.prog 37 #[.string (bs s),.func (.func g) #[] #[]] w fun e w'=>∃ u S',e=.returned u∧Rep S' w' [] [] v u∧(∀ b o,S' b o→∃ u,stay w' b o=some u∧(w.heap.size≤b→u.2.2=(0,0)))∧SExt S w S' w'∧(∀ b o,S' b o→S b o∨w.heap.size≤b)∧Go.RowKit.Below w.heap.size w w':=by
   intro p q1 q2 q3 hv
   cases hv
   refine(Aky (bs s) g p w hz q1 q2 q3).mono ?_
   rintro e w' ⟨rfl,hb⟩
   obtain⟨k1,k2⟩:=Y5 hS hb
   exact⟨_,S,rfl,.int _ _ _ _ (A0i (Nat.le_trans (Ae2 p s) (by unfold maxLen;omega))),k2,k1,fun _ _ h=>.inl h,hb⟩
  unfold Ac0 at h
  split at h
  ·rename_i p hp
   split at hp
   ·rename_i hg
    obtain rfl:=Nat.eq_of_beq_eq_true hg
    cases hp
    exact fin _ Als Ajd (fun c hc=>by rw[A2g hc,A2g (by omega)]) h
   ·split at hp
    ·rename_i hg
     obtain rfl:=Nat.eq_of_beq_eq_true hg
     cases hp
     exact fin _ Akr Aik (fun c hc=>by rw[A40 hc,A40 (by omega)]) h
    ·split at hp
     ·rename_i hg
      obtain rfl:=Nat.eq_of_beq_eq_true hg
      cases hp
      exact fin _ Aj6 Sa (fun c hc=>by rw[Ov hc,Ov (by omega)]) h
     ·cases hp
  ·cases h
theorem Af1:X0 Try.prog 42 Ae3:=by
 intro args v h S w vs hS hr
 match args,h with
 | [.str s],h =>
  simp only[Ae3] at h
  split at h
  ·rename_i hd
   cases h
   cases hr with | cons _ _ _ u _ _ h1 t=>cases t with | nil =>
   obtain⟨rfl,hl⟩:=h1.str_inv
   unfold maxLen at hl
   have hz:(bs s).size≤9223372036854775807:=by show s.toArray.size≤_;rw[List.size_toArray];omega
   refine(Afg (bs s) w hz fun k hk=>?_).mono ?_
   ·rw[List.all_eq_true] at hd
    have hk':k < s.length:=by have:k < s.toArray.size:=hk;rwa [List.size_toArray] at this
    exact hd _ (List.getElem_mem hk')
   ·rintro e w' ⟨rfl,hb⟩
    obtain⟨k1,k2⟩:=Y5 hS hb
    exact⟨_,S,rfl,.int _ _ _ _ (A0i (Nat.le_trans (A5p s) (by decide))),k2,k1,fun _ _ h=>.inl h,hb⟩
  ·cases h
noncomputable def Ahn:Air:=[
 (28,Ain E0),
 (53,Ain kwB),
 (37,Aic),
 (42,Ae3),
 (1000000,fun _=>none)]
noncomputable def XT:Ext:=A3m Ahn
theorem Aec:∀ p ∈ Ahn,X0 Try.prog p.1 p.2:=by
 unfold Ahn
 refine List.forall_mem_cons.2 ⟨A5m (fun s w h=>(Ajf s w h).mono fun _ _ h=>h),?_⟩
 refine List.forall_mem_cons.2 ⟨A5m (fun s w h=>(A1b s w).mono fun _ w' h=>⟨h.1,h.2 ▸ Go.RowKit.Below.refl _ _⟩),?_⟩
 refine List.forall_mem_cons.2 ⟨Ael,?_⟩
 refine List.forall_mem_cons.2 ⟨Af1,?_⟩
 exact List.forall_mem_cons.2 ⟨Ad1,fun _ h=>by cases h⟩
theorem Ahi:U3 Try.prog XT:=A1e Aec
theorem Sj {P:Program} {H:By} {X:Ext} {n:Nat} {f:FuncId} {g:List AV→Option AV} {args:List AV} {v:AV} (hx:X f=some g) (h:g args=some v):Hh P H X (n+1) f args []=some (v,[]):=by
 simp only[Hh,N9,hx,h]
def Dn:Nat→List UInt8→Option Bool
 | 0,_=>none
 | _+1,s=>some (E0 s)
theorem Fi {n:Nat} {s:List UInt8} {r:Bool}:Dn n s=some r→Hh Try.prog HH XT n 28 [AV.str s] []=some (AV.bool (r),[]):=by
 cases n with
 | zero=>intro hm;cases hm
 | succ n=>intro hm;obtain rfl:=Option.some.inj hm;exact Sj rfl rfl
def Kz:Nat→List UInt8→Option Int
 | 0,_=>none
 | _+1,s=>some (Cn Kh s)
theorem V7 {n:Nat} {s:List UInt8} {r:Int}:Kz n s=some r→Hh Try.prog HH XT n 37 [AV.str s,AV.func 38 [] []] []=some (AV.int .i64 r,[]):=by
 cases n with
 | zero=>intro hm;cases hm
 | succ n=>intro hm;obtain rfl:=Option.some.inj hm;exact Sj rfl rfl
def Kp:Nat→List UInt8→Option Int
 | 0,_=>none
 | _+1,s=>some (Cn M3 s)
theorem V6 {n:Nat} {s:List UInt8} {r:Int}:Kp n s=some r→Hh Try.prog HH XT n 37 [AV.str s,AV.func 40 [] []] []=some (AV.int .i64 r,[]):=by
 cases n with
 | zero=>intro hm;cases hm
 | succ n=>intro hm;obtain rfl:=Option.some.inj hm;exact Sj rfl rfl
def Lh:Nat→List UInt8→Option Int
 | 0,_=>none
 | _+1,s=>some (Cn Ct s)
theorem Wh {n:Nat} {s:List UInt8} {r:Int}:Lh n s=some r→Hh Try.prog HH XT n 37 [AV.str s,AV.func 41 [] []] []=some (AV.int .i64 r,[]):=by
 cases n with
 | zero=>intro hm;cases hm
 | succ n=>intro hm;obtain rfl:=Option.some.inj hm;exact Sj rfl rfl
def Ql:Nat→List UInt8→Option Int
 | 0,_=>none
 | _+1,s=>bif s.all (fun c=>Ct c.toNat) then some (Mc s) else none
theorem A6e {n:Nat} {s:List UInt8} {r:Int}:Ql n s=some r→Hh Try.prog HH XT n 42 [AV.str s] []=some (AV.int .i64 r,[]):=by
 cases n with
 | zero=>intro hm;cases hm
 | succ n =>
  intro hm
  simp only[Ql] at hm
  cases hd:s.all (fun c=>Ct c.toNat) with
  | false=>rw[hd] at hm;cases hm
  | true =>
   rw[hd] at hm
   obtain rfl:=Option.some.inj hm
   exact Sj rfl (by simp only[Ae3,hd])
end Go.Proofs.Ytnijlelbihnamaa
end
