/- Parts of the proofs: what they lean on. Conditions: none. -/
import Derived.Test.YtnijlelbihnamaaGreatRows
import Derived.WalkKit
import Derived.WalkSpells
import Derived.WalkLawsBesides
import Derived.Test.YtnijlelbihnamaaGreatPrgS10
section
namespace Go.Proofs.YtnijlelbihnamaaGreat
open Go.RowKit
set_option maxHeartbeats 400000 in
theorem Wd (c:Int) (w:World) :
 Calls Tryz.prog 52 #[.int .i32 c] w fun e w'=>e=.returned (.bool (Et c))∧w=w':=by
 go_enter Tryz.func52,Tryz.ntmps52
 go_wp2
 all_goals
  go_ret
  refine⟨congrArg (fun b=>Ending.returned (.bool b)) ?_,rfl⟩
  rw[Bool.eq_iff_iff]
  simp[Et]
  omega
set_option maxHeartbeats 400000 in
theorem A4e (c:Int) (w:World) :
 Calls Tryz.prog 54 #[.int .i32 c] w fun e w'=>e=.returned (.bool (Cv c))∧w=w':=by
 go_enter Tryz.func54,Tryz.ntmps54
 go_wp2
 all_goals
  go_ret
  refine⟨congrArg (fun b=>Ending.returned (.bool b)) ?_,rfl⟩
  rw[Bool.eq_iff_iff]
  simp[Cv]
  omega
theorem Mu {s:ByteArray} {l:List UInt8} (h:s.data.toList≠l):(s.toList==l)=false:=by
 rw[ByteArray.toList_eq];simpa using h
theorem Ank {s:ByteArray} {l:List UInt8} (h:s.data.toList=l):s=⟨l.toArray⟩:=by
 subst h;rfl
set_option maxHeartbeats 1000000 in
theorem Aen (s:ByteArray) (w:World) :
 Calls Tryz.prog 71 #[.string s] w fun e w'=>e=.returned (.bool (kwB s.data.toList))∧w=w':=by
 by_cases h:s.data.toList ∈ kws
 ·have hk:kwB s.data.toList=true:=by simpa [kwB] using h
  rw[hk]
  simp only[kws,List.mem_cons,List.not_mem_nil,or_false] at h
  rcases h with h | h | h | h | h | h | h | h | h | h | h | h | h | h | h | h | h | h | h | h | h
  all_goals
   obtain rfl:=Ank h
   clear h hk
   go_enter Tryz.func71,Tryz.ntmps71
   go_wp2
   go_ret
   exact⟨rfl,rfl⟩
 ·have hk:kwB s.data.toList=false:=by simpa [kwB] using h
  rw[hk]
  have n0:(s.toList==[109,111,100])=false:=Mu (fun e=>h (by rw[e];decide))
  have n1:(s.toList==[108,111,99])=false:=Mu (fun e=>h (by rw[e];decide))
  have n2:(s.toList==[116,104,114,101,97,100])=false:=Mu (fun e=>h (by rw[e];decide))
  have n3:(s.toList==[114,101,103])=false:=Mu (fun e=>h (by rw[e];decide))
  have n4:(s.toList==[115,107,105,112])=false:=Mu (fun e=>h (by rw[e];decide))
  have n5:(s.toList==[115,101,116])=false:=Mu (fun e=>h (by rw[e];decide))
  have n6:(s.toList==[108,111,97,100])=false:=Mu (fun e=>h (by rw[e];decide))
  have n7:(s.toList==[115,116,111,114,101])=false:=Mu (fun e=>h (by rw[e];decide))
  have n8:(s.toList==[99,97,115])=false:=Mu (fun e=>h (by rw[e];decide))
  have n9:(s.toList==[102,97,100,100])=false:=Mu (fun e=>h (by rw[e];decide))
  have n10:(s.toList==[120,99,104,103])=false:=Mu (fun e=>h (by rw[e];decide))
  have n11:(s.toList==[102,101,110,99,101])=false:=Mu (fun e=>h (by rw[e];decide))
  have n12:(s.toList==[97,119,97,105,116])=false:=Mu (fun e=>h (by rw[e];decide))
  have n13:(s.toList==[105,102])=false:=Mu (fun e=>h (by rw[e];decide))
  have n14:(s.toList==[101,108,115,101])=false:=Mu (fun e=>h (by rw[e];decide))
  have n15:(s.toList==[119,104,105,108,101])=false:=Mu (fun e=>h (by rw[e];decide))
  have n16:(s.toList==[108,111,111,112])=false:=Mu (fun e=>h (by rw[e];decide))
  have n17:(s.toList==[98,114,101,97,107])=false:=Mu (fun e=>h (by rw[e];decide))
  have n18:(s.toList==[102,111,114,97,108,108])=false:=Mu (fun e=>h (by rw[e];decide))
  have n19:(s.toList==[101,120,105,115,116,115])=false:=Mu (fun e=>h (by rw[e];decide))
  have n20:(s.toList==[97,108,119,97,121,115])=false:=Mu (fun e=>h (by rw[e];decide))
  clear h hk
  go_enter Tryz.func71,Tryz.ntmps71
  go_wp2
  go_ret
  exact⟨rfl,rfl⟩
def Ap8 (s:ByteArray) (w:World) (e:Ending) (w':World):Prop:=e=.returned (.bool (Cp s.data.toList))∧Below w.heap.size w w'
theorem Adr (s:ByteArray) (w w':World) (k:Nat) (hk:k < s.size) (h1:Et s[k].toNat=false) (h2:k=0∨Cv s[k].toNat=false) (hb:Below w.heap.size w w'):Ap8 s w (.returned (.bool false)) w':=by
 refine⟨?_,hb⟩
 rw[Akz (l:=s.data.toList) (k:=k) (by rw[Uq];exact hk)]
 rw[Al7 s k hk,h1]
 rcases h2 with rfl | h2
 ·simp
 ·simp[h2]
set_option maxHeartbeats 2000000 in
theorem Ayn (s:ByteArray) (w:World) (hs:s.size≤9223372036854775807) :
 Calls Tryz.prog 40 #[.string s] w (Ap8 s w):=by
 go_enter Tryz.func40,Tryz.ntmps40
 go_wp2
 go_loopw [] (fun w'=>∃ pos:Nat,w'=w.iter s pos∧pos≤s.size∧∀ k,k < pos→Rk s.data.toList k=true) (fun w'=>s.size - w'.iterPos w.heap.size)
 case atStart=>exact⟨0,rfl,by omega,fun k h=>absurd h (by omega)⟩
 case round =>
  obtain⟨pos,rfl,hpos,hall⟩:=hrel
  have Hall:=Lib.hid hall;clear hall
  have hB:Below w.heap.size w (w.iter s (pos+1)):=((Below.refl _ _).alloc (Nat.le_refl _) _)
  have hB2:Below w.heap.size w (w.iter s (pos+(Utf8.decode s pos).2)):=((Below.refl _ _).alloc (Nat.le_refl _) _)
  have HB:=Lib.hid hB;have HB2:=Lib.hid hB2
  clear hB hB2
  by_cases hlt:pos < s.size
  ·have hat:=Al7 s pos hlt
   have HA:=Lib.hid hat;clear hat
   by_cases ha:(s[pos]'hlt).toNat < 128
   ·have hnx:∀ ty,(Instr.next (.pointer (some ⟨w.heap.size,0,none⟩)) true ty).run Tryz.prog (w.iter s pos)=_:=fun ty=>run_next_ascii w s pos ty hlt ha
    clear ha
    by_cases h1:Et (s[pos]'hlt).toNat=true
    ·go_wp2_with (first
      | (go_at_call 52;refine(Wd _ _).mono ?_;rintro e w' ⟨rfl,rfl⟩))
     go_roundw
     case rel =>
      refine⟨pos+1,rfl,by omega,fun k hk=>?_⟩
      rcases Nat.lt_or_ge k pos with h | h
      ·exact Hall.out k h
      ·obtain rfl:k=pos:=by omega
       rw[HA.out,h1];rfl
     case measure=>simp;omega
    ·have h1':Et (s[pos]'hlt).toNat=false:=by simpa using h1
     clear h1
     by_cases h0:pos=0
     ·subst h0
      go_wp2_with (first
       | (go_at_call 52;refine(Wd _ _).mono ?_;rintro e w' ⟨rfl,rfl⟩))
      go_ret
      exact Adr s _ _ 0 hlt h1' (.inl rfl) HB.out
     ·have h0':((pos:Int)==0)=false:=by rw[beq_eq_false_iff_ne];omega
      by_cases h2:Cv (s[pos]'hlt).toNat=true
      ·go_wp2_with (first
        | (go_at_call 52;refine(Wd _ _).mono ?_;rintro e w' ⟨rfl,rfl⟩)
        | (go_at_call 54;refine(A4e _ _).mono ?_;rintro e w' ⟨rfl,rfl⟩))
       go_roundw
       case rel =>
        refine⟨pos+1,rfl,by omega,fun k hk=>?_⟩
        rcases Nat.lt_or_ge k pos with h | h
        ·exact Hall.out k h
        ·obtain rfl:k=pos:=by omega
         rw[HA.out,h2];simp;omega
       case measure=>simp;omega
      ·have h2':Cv (s[pos]'hlt).toNat=false:=by simpa using h2
       clear h2
       go_wp2_with (first
        | (go_at_call 52;refine(Wd _ _).mono ?_;rintro e w' ⟨rfl,rfl⟩)
        | (go_at_call 54;refine(A4e _ _).mono ?_;rintro e w' ⟨rfl,rfl⟩))
       go_ret
       exact Adr s _ _ pos hlt h1' (.inr h2') HB.out
   ·have hnx:∀ ty,(Instr.next (.pointer (some ⟨w.heap.size,0,none⟩)) true ty).run Tryz.prog (w.iter s pos)=_:=fun ty=>run_next_any w s pos ty hlt
    have hd:=(decode_high s pos hlt (by omega)).1
    have h1':Et (Utf8.decode s pos).1=false:=A6x (by omega)
    have h2':Cv (Utf8.decode s pos).1=false:=Zr (by omega)
    have h3:Et (s[pos]'hlt).toNat=false:=A6x (by omega)
    have h4:Cv (s[pos]'hlt).toNat=false:=Zr (by omega)
    by_cases h0:pos=0
    ·subst h0
     go_wp2_with (first
      | (go_at_call 52;refine(Wd _ _).mono ?_;rintro e w' ⟨rfl,rfl⟩))
     go_ret
     exact Adr s _ _ 0 hlt h3 (.inl rfl) (by have:=HB2.out;rw[Nat.zero_add] at this;exact this)
    ·have h0':((pos:Int)==0)=false:=by rw[beq_eq_false_iff_ne];omega
     go_wp2_with (first
      | (go_at_call 52;refine(Wd _ _).mono ?_;rintro e w' ⟨rfl,rfl⟩)
      | (go_at_call 54;refine(A4e _ _).mono ?_;rintro e w' ⟨rfl,rfl⟩))
     go_ret
     exact Adr s _ _ pos hlt h3 (.inr h4) HB2.out
  ·have hnx:∀ ty,(Instr.next (.pointer (some ⟨w.heap.size,0,none⟩)) true ty).run Tryz.prog (w.iter s pos)=_:=fun ty=>run_next_end w s pos ty hlt
   have hn:=Aux (l:=s.data.toList) (fun k hk=>Hall.out k (by rw[Uq] at hk;omega))
   rw[Uq] at hn
   have hB:Below w.heap.size w (w.iter s pos):=((Below.refl _ _).alloc (Nat.le_refl _) _)
   have HN:=Lib.hid hn;clear hn
   by_cases he:s.data.toList=[]
   ·obtain rfl:=Ank he
    go_wp2
    go_ret
    exact⟨by rw[HN.out];rfl,hB⟩
   ·have he1:s.toList.isEmpty=false:=by rw[ByteArray.toList_eq];simpa using he
    have he2:s.data.toList.isEmpty=false:=by simpa using he
    clear he
    by_cases h16:s.size≤16
    ·go_wp2_with (first
      | (go_at_call 71;refine(Aen _ _).mono ?_;rintro e w' ⟨rfl,rfl⟩))
     go_ret
     exact⟨by rw[HN.out];simp[he2,h16],hB⟩
    ·go_wp2
     go_ret
     exact⟨by rw[HN.out];simp[he2,h16],hB⟩
set_option linter.unusedVariables false
set_option linter.unusedSimpArgs false
set_option maxRecDepth 100000
def Ayg (f:List UInt8→Bool) (args:List AV):Option AV:=match args with
 | [.str s]=>some (.bool (f s))
 | _=>none
theorem Alb {P:Program} {g:FuncId} {f:List UInt8→Bool} (hc:∀ (s:ByteArray) (w:World),s.size≤9223372036854775807→Calls P g #[.string s] w (Atx (f s.data.toList) w)):A9n P g (Ayg f):=by
 intro args v h S w vs hS hr
 match args,h with
 | [.str s],h =>
  cases h
  cases hr with | cons _ _ _ u _ _ h1 t=>cases t with | nil =>
  obtain⟨rfl,hl⟩:=h1.str_inv
  refine(hc (bs s) w (by unfold maxLen at hl;show s.toArray.size≤_;rw[List.size_toArray];omega)).mono ?_
  rintro e w' ⟨rfl,hb⟩
  obtain⟨k1,k2⟩:=Aab hS hb
  exact⟨_,S,rfl,.bool _ _ _,k2,k1,fun _ _ h=>.inl h,hb⟩
theorem Atb {P:Program} {g:FuncId}:A9n P g (fun _=>none):=by intro args v h;cases h
set_option maxHeartbeats 400000 in
theorem Axm (c:Int) (w:World) :
 Calls Tryz.prog 51 #[.int .i32 c] w fun e w'=>e=.returned (.bool (Kz c))∧w=w':=by
 go_enter Tryz.func51,Tryz.ntmps51
 go_wp2
 all_goals
  go_ret
  refine⟨congrArg (fun b=>Ending.returned (.bool b)) ?_,rfl⟩
  rw[Bool.eq_iff_iff]
  simp[Kz]
set_option maxHeartbeats 400000 in
theorem Az1 (c:Int) (w:World) :
 Calls Tryz.prog 53 #[.int .i32 c] w fun e w'=>e=.returned (.bool (H8 c))∧w=w':=by
 go_enter Tryz.func53,Tryz.ntmps53
 go_wp2_with (first
  | (go_at_call 52;refine(Wd _ _).mono ?_;rintro e w' ⟨rfl,rfl⟩)
  | (go_at_call 54;refine(A4e _ _).mono ?_;rintro e w' ⟨rfl,rfl⟩))
 all_goals
  go_ret
  refine⟨congrArg (fun b=>Ending.returned (.bool b)) ?_,rfl⟩
  simp[H8, *]
theorem Avy (s:ByteArray) (pos:Nat) (h:pos < s.size):1≤(Utf8.decode s pos).2:=by
 by_cases ha:(s[pos]'h).toNat < 128
 ·rw[decode_ascii s pos h ha]
  exact Nat.le_refl _
 ·exact(decode_high s pos h (by omega)).2
theorem Av5 (p:Int→Bool) (hp:∀ c,128≤c→p c=p 128) (s:ByteArray) (pos:Nat) (h:pos < s.size) :
 pos+(Utf8.decode s pos).2≤s.size∧p (s[pos]'h).toNat=p (Utf8.decode s pos).1∧(p (Utf8.decode s pos).1=true→∀ k (hk:k < s.size),pos≤k→k < pos+(Utf8.decode s pos).2→p s[k].toNat=true):=by
 by_cases ha:(s[pos]'h).toNat < 128
 ·have e:=decode_ascii s pos h ha
  rw[e]
  refine⟨by simp;omega,rfl,fun hq k hk h1 h2=>?_⟩
  simp only at h2
  obtain rfl:k=pos:=by omega
  exact hq
 ·have hd:=decode_high s pos h (by omega)
  have hb:=Apw s pos h (by omega)
  refine⟨hb.1,?_,fun hq k hk h1 h2=>?_⟩
  ·rw[hp _ (by omega),hp (Utf8.decode s pos).1 (by omega)]
  ·rw[hp _ (by have:=hb.2 k hk h1 h2;omega),← hp (Utf8.decode s pos).1 (by omega)]
   exact hq
set_option maxHeartbeats 400000 in
theorem B1h (s:ByteArray) (f:Nat) (p:Int→Bool) (w:World) (hs:s.size≤9223372036854775807)
 (hcf:∀ (args:Array Value) (w:World),(callFunc f args).run Tryz.prog w=.ok (.enter f args) w)
 (hf:∀ (c:Int) (w:World),Calls Tryz.prog f #[.int .i32 c] w fun e w'=>e=.returned (.bool (p c))∧w=w') (hp:∀ c,128≤c→p c=p 128) :
 Calls Tryz.prog 50 #[.string s,.func (.func f) #[] #[]] w fun e w'=>e=.returned (.int .i64 (Cj p s.data.toList))∧Below w.heap.size w w':=by
 have Hf:=Lib.hid hf;clear hf
 have Hp:=Lib.hid hp;clear hp
 go_enter Tryz.func50,Tryz.ntmps50
 go_wp2
 go_loopw [] (fun w'=>∃ pos:Nat,w'=w.iter s pos∧pos≤s.size∧∀ k (hk:k < s.size),k < pos→p s[k].toNat=true) (fun w'=>s.size - w'.iterPos w.heap.size)
 case atStart=>exact⟨0,rfl,by omega,fun k _ h=>absurd h (by omega)⟩
 case round =>
  obtain⟨pos,rfl,hpos,hall⟩:=hrel
  have Hall:=Lib.hid hall;clear hall
  by_cases hlt:pos < s.size
  ·have hnx:∀ ty,(Instr.next (.pointer (some ⟨w.heap.size,0,none⟩)) true ty).run Tryz.prog (w.iter s pos)=_:=fun ty=>run_next_any w s pos ty hlt
   have RK:=Lib.hid (Av5 p Hp.out s pos hlt)
   have hwd:=Avy s pos hlt
   go_wp2_with fail
   refine(Hf.out _ _).mono ?_
   rintro e w' ⟨rfl,rfl⟩
   by_cases hk:p (Utf8.decode s pos).1=true
   ·go_wp2
    go_roundw
    case rel =>
     refine⟨pos+(Utf8.decode s pos).2,rfl,RK.out.1,fun k hk' hk2=>?_⟩
     rcases Nat.lt_or_ge k pos with h | h
     ·exact Hall.out k hk' h
     ·exact RK.out.2.2 hk k hk' h hk2
    case measure=>simp;omega
   ·have hk':p (Utf8.decode s pos).1=false:=by simpa using hk
    go_wp2
    go_ret
    refine⟨?_,((Below.refl _ _).alloc (Nat.le_refl _) _)⟩
    have e:Cj p s.data.toList=pos:=Aqw (fun k hk1 hk2=>Hall.out k hk1 hk2) (by rw[Uq];exact hlt) (by have:=RK.out.2.1;rw[hk'] at this;exact this)
    rw[e];rfl
  ·have hnx:∀ ty,(Instr.next (.pointer (some ⟨w.heap.size,0,none⟩)) true ty).run Tryz.prog (w.iter s pos)=_:=fun ty=>run_next_end w s pos ty hlt
   go_wp2
   go_ret
   refine⟨?_,((Below.refl _ _).alloc (Nat.le_refl _) _)⟩
   have e:Cj p s.data.toList=s.size:=by
    rw[Ash (fun k hk=>Hall.out k hk (by rw[Uq] at hk;omega)),Uq]
   rw[e];rfl
theorem Ana (l:List UInt8) (n:Nat) (h:n≤10000):l.foldl (fun n c=>min (10*n+(c.toNat - 48)) 10000) n≤10000:=by
 induction l generalizing n with
 | nil=>exact h
 | cons a t ih=>exact ih _ (by show min _ _≤_;omega)
theorem Al6 (l:List UInt8):Ku l≤10000:=Ana l 0 (by omega)
theorem Aoj (s:ByteArray) (k:Nat) (hk:k < s.size):Ku (s.data.toList.take (k+1))=min (10*Ku (s.data.toList.take k)+((s[k]'hk).toNat - 48)) 10000:=by
 have e:s.data.toList.take (k+1)=s.data.toList.take k++[s[k]'hk]:=by
  rw[List.take_succ_eq_append_getElem (by simpa using hk)];rfl
 rw[e]
 simp[Ku]
set_option maxHeartbeats 1000000 in
theorem Awp (s:ByteArray) (w:World) (hs:s.size≤9223372036854775807) (hd:∀ k (hk:k < s.size),Cv s[k].toNat=true) :
 Calls Tryz.prog 55 #[.string s] w fun e w'=>e=.returned (.int .i64 (Ku s.data.toList))∧Below w.heap.size w w':=by
 have Hd:=Lib.hid hd;clear hd
 go_enter Tryz.func55,Tryz.ntmps55
 go_wp2
 go_loopw [3] (fun v w'=>∃ pos:Nat,w'=w.iter s pos∧pos≤s.size∧v=.int .i64 (Ku (s.data.toList.take pos))) (fun _ w'=>s.size - w'.iterPos w.heap.size)
 case atStart=>exact⟨0,rfl,by omega,rfl⟩
 case round =>
  obtain⟨pos,rfl,hpos,rfl⟩:=hrel
  by_cases hlt:pos < s.size
  ·have hdg:=Hd.out pos hlt
   simp only[Cv,C1] at hdg
   obtain⟨hd1,hd2⟩:=hdg
   have hnx:∀ ty,(Instr.next (.pointer (some ⟨w.heap.size,0,none⟩)) true ty).run Tryz.prog (w.iter s pos)=_:=fun ty=>run_next_ascii w s pos ty hlt (by omega)
   have hv:=Al6 (s.data.toList.take pos)
   have HS:=Lib.hid (Aoj s pos hlt)
   go_wp2
   all_goals
    go_roundw
    case rel =>
     refine⟨pos+1,rfl,by omega,?_⟩
     rw[HS.out]
     first | go_num | (congr 1;omega)
    case measure=>simp;omega
  ·have hnx:∀ ty,(Instr.next (.pointer (some ⟨w.heap.size,0,none⟩)) true ty).run Tryz.prog (w.iter s pos)=_:=fun ty=>run_next_end w s pos ty hlt
   go_wp2
   go_ret
   refine⟨?_,((Below.refl _ _).alloc (Nat.le_refl _) _)⟩
   have e:s.data.toList.take pos=s.data.toList:=List.take_of_length_le (by rw[Uq];omega)
   rw[e];rfl
theorem B17 (args:Array Value) (w:World):(callFunc 51 args).run Tryz.prog w=.ok (.enter 51 args) w:=by simp[go_sem]
theorem B10 (args:Array Value) (w:World):(callFunc 53 args).run Tryz.prog w=.ok (.enter 53 args) w:=by simp[go_sem]
theorem Axj (args:Array Value) (w:World):(callFunc 54 args).run Tryz.prog w=.ok (.enter 54 args) w:=by simp[go_sem]
def Arb (g:Nat):Option (Int→Bool):=match Nat.beq g 51 with
 | true=>some Kz
 | false=>match Nat.beq g 53 with
   | true=>some H8
   | false=>match Nat.beq g 54 with
     | true=>some Cv
     | false=>none
def Axw (args:List AV):Option AV:=match args with
 | [.str s,.func g [] []]=>match Arb g with
   | some p=>some (.int .i64 (Cj p s))
   | none=>none
 | _=>none
def Au7 (args:List AV):Option AV:=match args with
 | [.str s]=>match s.all (fun c=>Cv c.toNat) with
   | true=>some (.int .i64 (Ku s))
   | false=>none
 | _=>none
theorem Au1 (p:Int→Bool) (s:List UInt8):Cj p s≤s.length:=by
 unfold Cj
 exact(List.takeWhile_prefix (fun c:UInt8=>p c.toNat) (l:=s)).length_le
theorem Ax7:A9n Tryz.prog 50 Axw:=by
 intro args v h S w vs hS hr
 match args,h with
 | [.str s,.func g [] []],h =>
  simp only[Axw] at h
  cases hr with | cons _ _ _ u _ _ h1 t=>cases t with | cons _ _ _ u2 _ _ h2 t=>cases t with | nil =>
  obtain⟨rfl,hl⟩:=h1.str_inv
  obtain⟨a,b,k1,k2,rfl⟩:=h2.func_inv
  cases k1;cases k2
  unfold maxLen at hl
  have hz:(bs s).size≤9223372036854775807:=by show s.toArray.size≤_;rw[List.size_toArray];omega
  have fin:∀ (p:Int→Bool),(∀ (args:Array Value) (w:World),(callFunc g args).run Tryz.prog w=.ok (.enter g args) w)→(∀ (c:Int) (w:World),Calls Tryz.prog g #[.int .i32 c] w fun e w'=>e=.returned (.bool (p c))∧w=w')→(∀ c,128≤c→p c=p 128)→some (AV.int .i64 (Cj p s))=some v→Calls Tryz.prog 50 #[.string (bs s),.func (.func g) #[] #[]] w fun e w'=>∃ u S',e=.returned u∧Rep S' w' [] [] v u∧(∀ b o,S' b o→∃ u,stay w' b o=some u∧(w.heap.size≤b→u.2.2=(0,0)))∧SExt S w S' w'∧(∀ b o,S' b o→S b o∨w.heap.size≤b)∧Go.RowKit.Below w.heap.size w w':=by
   intro p q1 q2 q3 hv
   cases hv
   refine(B1h (bs s) g p w hz q1 q2 q3).mono ?_
   rintro e w' ⟨rfl,hb⟩
   obtain⟨k1,k2⟩:=Aab hS hb
   exact⟨_,S,rfl,.int _ _ _ _ (Abb (Nat.le_trans (Au1 p s) (by unfold maxLen;omega))),k2,k1,fun _ _ h=>.inl h,hb⟩
  unfold Arb at h
  split at h
  ·rename_i p hp
   split at hp
   ·rename_i hg
    obtain rfl:=Nat.eq_of_beq_eq_true hg
    cases hp
    exact fin _ B17 Axm (fun c hc=>by rw[Agg hc,Agg (by omega)]) h
   ·split at hp
    ·rename_i hg
     obtain rfl:=Nat.eq_of_beq_eq_true hg
     cases hp
     exact fin _ B10 Az1 (fun c hc=>by rw[Ai3 hc,Ai3 (by omega)]) h
    ·split at hp
     ·rename_i hg
      obtain rfl:=Nat.eq_of_beq_eq_true hg
      cases hp
      exact fin _ Axj A4e (fun c hc=>by rw[Zr hc,Zr (by omega)]) h
     ·cases hp
  ·cases h
theorem Avr:A9n Tryz.prog 55 Au7:=by
 intro args v h S w vs hS hr
 match args,h with
 | [.str s],h =>
  simp only[Au7] at h
  split at h
  ·rename_i hd
   cases h
   cases hr with | cons _ _ _ u _ _ h1 t=>cases t with | nil =>
   obtain⟨rfl,hl⟩:=h1.str_inv
   unfold maxLen at hl
   have hz:(bs s).size≤9223372036854775807:=by show s.toArray.size≤_;rw[List.size_toArray];omega
   refine(Awp (bs s) w hz fun k hk=>?_).mono ?_
   ·rw[List.all_eq_true] at hd
    have hk':k < s.length:=by have:k < s.toArray.size:=hk;rwa [List.size_toArray] at this
    exact hd _ (List.getElem_mem hk')
   ·rintro e w' ⟨rfl,hb⟩
    obtain⟨k1,k2⟩:=Aab hS hb
    exact⟨_,S,rfl,.int _ _ _ _ (Abb (Nat.le_trans (Al6 s) (by decide))),k2,k1,fun _ _ h=>.inl h,hb⟩
  ·cases h
noncomputable def Axq:Ayx:=[
 (40,Ayg Cp),
 (71,Ayg kwB),
 (50,Axw),
 (55,Au7),
 (1000000,fun _=>none)]
noncomputable def XT:Ext:=Ahb Axq
theorem Atg:∀ p ∈ Axq,A9n Tryz.prog p.1 p.2:=by
 unfold Axq
 refine List.forall_mem_cons.2 ⟨Alb (fun s w h=>(Ayn s w h).mono fun _ _ h=>h),?_⟩
 refine List.forall_mem_cons.2 ⟨Alb (fun s w h=>(Aen s w).mono fun _ w' h=>⟨h.1,h.2 ▸ Go.RowKit.Below.refl _ _⟩),?_⟩
 refine List.forall_mem_cons.2 ⟨Ax7,?_⟩
 refine List.forall_mem_cons.2 ⟨Avr,?_⟩
 exact List.forall_mem_cons.2 ⟨Atb,fun _ h=>by cases h⟩
theorem Apq:A7l Tryz.prog XT:=Ael Atg
theorem A43 {P:Program} {H:Dr} {X:Ext} {n:Nat} {f:FuncId} {g:List AV→Option AV} {args:List AV} {v:AV} (hx:X f=some g) (h:g args=some v):Mt P H X (n+1) f args []=some (v,[]):=by
 simp only[Mt,Xw,hx,h]
def Dp:Nat→List UInt8→Option Bool
 | 0,_=>none
 | _+1,s=>some (Cp s)
theorem Gc {n:Nat} {s:List UInt8} {r:Bool}:Dp n s=some r→Mt Tryz.prog HH XT n 40 [AV.str s] []=some (AV.bool (r),[]):=by
 cases n with
 | zero=>intro hm;cases hm
 | succ n=>intro hm;obtain rfl:=Option.some.inj hm;exact A43 rfl rfl
def Pr:Nat→List UInt8→Option Int
 | 0,_=>none
 | _+1,s=>some (Cj Kz s)
theorem Zf {n:Nat} {s:List UInt8} {r:Int}:Pr n s=some r→Mt Tryz.prog HH XT n 50 [AV.str s,AV.func 51 [] []] []=some (AV.int .i64 r,[]):=by
 cases n with
 | zero=>intro hm;cases hm
 | succ n=>intro hm;obtain rfl:=Option.some.inj hm;exact A43 rfl rfl
def Pk:Nat→List UInt8→Option Int
 | 0,_=>none
 | _+1,s=>some (Cj H8 s)
theorem Ze {n:Nat} {s:List UInt8} {r:Int}:Pk n s=some r→Mt Tryz.prog HH XT n 50 [AV.str s,AV.func 53 [] []] []=some (AV.int .i64 r,[]):=by
 cases n with
 | zero=>intro hm;cases hm
 | succ n=>intro hm;obtain rfl:=Option.some.inj hm;exact A43 rfl rfl
def Qk:Nat→List UInt8→Option Int
 | 0,_=>none
 | _+1,s=>some (Cj Cv s)
theorem Zt {n:Nat} {s:List UInt8} {r:Int}:Qk n s=some r→Mt Tryz.prog HH XT n 50 [AV.str s,AV.func 54 [] []] []=some (AV.int .i64 r,[]):=by
 cases n with
 | zero=>intro hm;cases hm
 | succ n=>intro hm;obtain rfl:=Option.some.inj hm;exact A43 rfl rfl
def Vo:Nat→List UInt8→Option Int
 | 0,_=>none
 | _+1,s=>bif s.all (fun c=>Cv c.toNat) then some (Ku s) else none
theorem Ab4 {n:Nat} {s:List UInt8} {r:Int}:Vo n s=some r→Mt Tryz.prog HH XT n 55 [AV.str s] []=some (AV.int .i64 r,[]):=by
 cases n with
 | zero=>intro hm;cases hm
 | succ n =>
  intro hm
  simp only[Vo] at hm
  cases hd:s.all (fun c=>Cv c.toNat) with
  | false=>rw[hd] at hm;cases hm
  | true =>
   rw[hd] at hm
   obtain rfl:=Option.some.inj hm
   exact A43 rfl (by simp only[Au7,hd])
end Go.Proofs.YtnijlelbihnamaaGreat
end
