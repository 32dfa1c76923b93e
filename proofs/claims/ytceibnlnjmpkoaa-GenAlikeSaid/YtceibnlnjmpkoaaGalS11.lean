/- Parts of the proofs: what they lean on. Conditions: none. -/
import Derived.Test.YtceibnlnjmpkoaaRows
import Derived.WalkKit
import Derived.WalkSpells
import Derived.WalkLawsBesides
import Derived.Test.YtceibnlnjmpkoaaGalS10
section
namespace Go.Proofs.Ytceibnlnjmpkoaa
open Go.RowKit
set_option maxHeartbeats 400000 in
theorem J4 (c:Int) (w:World) :
 Calls Try.prog 77 #[.int .i32 c] w fun e w'=>e=.returned (.bool (H9 c))∧w=w':=by
 go_enter Try.func77,Try.ntmps77
 go_wp2
 all_goals
  go_ret
  refine⟨congrArg (fun b=>Ending.returned (.bool b)) ?_,rfl⟩
  rw[Bool.eq_iff_iff]
  simp[H9]
  omega
set_option maxHeartbeats 400000 in
theorem Sw (c:Int) (w:World) :
 Calls Try.prog 78 #[.int .i32 c] w fun e w'=>e=.returned (.bool (Is c))∧w=w':=by
 go_enter Try.func78,Try.ntmps78
 go_wp2
 all_goals
  go_ret
  refine⟨congrArg (fun b=>Ending.returned (.bool b)) ?_,rfl⟩
  rw[Bool.eq_iff_iff]
  simp[Is]
  omega
theorem D2 {s:ByteArray} {l:List UInt8} (h:s.data.toList≠l):(s.toList==l)=false:=by
 rw[ByteArray.toList_eq];simpa using h
theorem Zz {s:ByteArray} {l:List UInt8} (h:s.data.toList=l):s=⟨l.toArray⟩:=by
 subst h;rfl
set_option maxHeartbeats 1000000 in
theorem Ub (s:ByteArray) (w:World) :
 Calls Try.prog 79 #[.string s] w fun e w'=>e=.returned (.bool (kwB s.data.toList))∧w=w':=by
 by_cases h:s.data.toList ∈ kws
 ·have hk:kwB s.data.toList=true:=by simpa [kwB] using h
  rw[hk]
  simp only[kws,List.mem_cons,List.not_mem_nil,or_false] at h
  rcases h with h | h | h | h | h | h | h | h | h | h | h | h | h | h | h | h | h | h | h | h | h
  all_goals
   obtain rfl:=Zz h
   clear h hk
   go_enter Try.func79,Try.ntmps79
   go_wp2
   go_ret
   exact⟨rfl,rfl⟩
 ·have hk:kwB s.data.toList=false:=by simpa [kwB] using h
  rw[hk]
  have n0:(s.toList==[109,111,100])=false:=D2 (fun e=>h (by rw[e];decide))
  have n1:(s.toList==[108,111,99])=false:=D2 (fun e=>h (by rw[e];decide))
  have n2:(s.toList==[116,104,114,101,97,100])=false:=D2 (fun e=>h (by rw[e];decide))
  have n3:(s.toList==[114,101,103])=false:=D2 (fun e=>h (by rw[e];decide))
  have n4:(s.toList==[115,107,105,112])=false:=D2 (fun e=>h (by rw[e];decide))
  have n5:(s.toList==[115,101,116])=false:=D2 (fun e=>h (by rw[e];decide))
  have n6:(s.toList==[108,111,97,100])=false:=D2 (fun e=>h (by rw[e];decide))
  have n7:(s.toList==[115,116,111,114,101])=false:=D2 (fun e=>h (by rw[e];decide))
  have n8:(s.toList==[99,97,115])=false:=D2 (fun e=>h (by rw[e];decide))
  have n9:(s.toList==[102,97,100,100])=false:=D2 (fun e=>h (by rw[e];decide))
  have n10:(s.toList==[120,99,104,103])=false:=D2 (fun e=>h (by rw[e];decide))
  have n11:(s.toList==[102,101,110,99,101])=false:=D2 (fun e=>h (by rw[e];decide))
  have n12:(s.toList==[97,119,97,105,116])=false:=D2 (fun e=>h (by rw[e];decide))
  have n13:(s.toList==[105,102])=false:=D2 (fun e=>h (by rw[e];decide))
  have n14:(s.toList==[101,108,115,101])=false:=D2 (fun e=>h (by rw[e];decide))
  have n15:(s.toList==[119,104,105,108,101])=false:=D2 (fun e=>h (by rw[e];decide))
  have n16:(s.toList==[108,111,111,112])=false:=D2 (fun e=>h (by rw[e];decide))
  have n17:(s.toList==[98,114,101,97,107])=false:=D2 (fun e=>h (by rw[e];decide))
  have n18:(s.toList==[102,111,114,97,108,108])=false:=D2 (fun e=>h (by rw[e];decide))
  have n19:(s.toList==[101,120,105,115,116,115])=false:=D2 (fun e=>h (by rw[e];decide))
  have n20:(s.toList==[97,108,119,97,121,115])=false:=D2 (fun e=>h (by rw[e];decide))
  clear h hk
  go_enter Try.func79,Try.ntmps79
  go_wp2
  go_ret
  exact⟨rfl,rfl⟩
def A0c (s:ByteArray) (w:World) (e:Ending) (w':World):Prop:=e=.returned (.bool (Rh s.data.toList))∧Below w.heap.size w w'
theorem To (s:ByteArray) (w w':World) (k:Nat) (hk:k < s.size) (h1:H9 s[k].toNat=false) (h2:k=0∨Is s[k].toNat=false) (hb:Below w.heap.size w w'):A0c s w (.returned (.bool false)) w':=by
 refine⟨?_,hb⟩
 rw[A4l (l:=s.data.toList) (k:=k) (by rw[Nz];exact hk)]
 rw[Xr s k hk,h1]
 rcases h2 with rfl | h2
 ·simp
 ·simp[h2]
set_option maxHeartbeats 2000000 in
theorem A5k (s:ByteArray) (w:World) (hs:s.size≤9223372036854775807) :
 Calls Try.prog 58 #[.string s] w (A0c s w):=by
 go_enter Try.func58,Try.ntmps58
 go_wp2
 go_loopw [] (fun w'=>∃ pos:Nat,w'=w.iter s pos∧pos≤s.size∧∀ k,k < pos→Mr s.data.toList k=true) (fun w'=>s.size - w'.iterPos w.heap.size)
 case atStart=>exact⟨0,rfl,by omega,fun k h=>absurd h (by omega)⟩
 case round =>
  obtain⟨pos,rfl,hpos,hall⟩:=hrel
  have Hall:=Lib.hid hall;clear hall
  have hB:Below w.heap.size w (w.iter s (pos+1)):=((Below.refl _ _).alloc (Nat.le_refl _) _)
  have hB2:Below w.heap.size w (w.iter s (pos+(Utf8.decode s pos).2)):=((Below.refl _ _).alloc (Nat.le_refl _) _)
  have HB:=Lib.hid hB;have HB2:=Lib.hid hB2
  clear hB hB2
  by_cases hlt:pos < s.size
  ·have hat:=Xr s pos hlt
   have HA:=Lib.hid hat;clear hat
   by_cases ha:(s[pos]'hlt).toNat < 128
   ·have hnx:∀ ty,(Instr.next (.pointer (some ⟨w.heap.size,0,none⟩)) true ty).run Try.prog (w.iter s pos)=_:=fun ty=>run_next_ascii w s pos ty hlt ha
    clear ha
    by_cases h1:H9 (s[pos]'hlt).toNat=true
    ·go_wp2_with (first
      | (go_at_call 77;refine(J4 _ _).mono ?_;rintro e w' ⟨rfl,rfl⟩))
     go_roundw
     case rel =>
      refine⟨pos+1,rfl,by omega,fun k hk=>?_⟩
      rcases Nat.lt_or_ge k pos with h | h
      ·exact Hall.out k h
      ·obtain rfl:k=pos:=by omega
       rw[HA.out,h1];rfl
     case measure=>simp;omega
    ·have h1':H9 (s[pos]'hlt).toNat=false:=by simpa using h1
     clear h1
     by_cases h0:pos=0
     ·subst h0
      go_wp2_with (first
       | (go_at_call 77;refine(J4 _ _).mono ?_;rintro e w' ⟨rfl,rfl⟩))
      go_ret
      exact To s _ _ 0 hlt h1' (.inl rfl) HB.out
     ·have h0':((pos:Int)==0)=false:=by rw[beq_eq_false_iff_ne];omega
      by_cases h2:Is (s[pos]'hlt).toNat=true
      ·go_wp2_with (first
        | (go_at_call 77;refine(J4 _ _).mono ?_;rintro e w' ⟨rfl,rfl⟩)
        | (go_at_call 78;refine(Sw _ _).mono ?_;rintro e w' ⟨rfl,rfl⟩))
       go_roundw
       case rel =>
        refine⟨pos+1,rfl,by omega,fun k hk=>?_⟩
        rcases Nat.lt_or_ge k pos with h | h
        ·exact Hall.out k h
        ·obtain rfl:k=pos:=by omega
         rw[HA.out,h2];simp;omega
       case measure=>simp;omega
      ·have h2':Is (s[pos]'hlt).toNat=false:=by simpa using h2
       clear h2
       go_wp2_with (first
        | (go_at_call 77;refine(J4 _ _).mono ?_;rintro e w' ⟨rfl,rfl⟩)
        | (go_at_call 78;refine(Sw _ _).mono ?_;rintro e w' ⟨rfl,rfl⟩))
       go_ret
       exact To s _ _ pos hlt h1' (.inr h2') HB.out
   ·have hnx:∀ ty,(Instr.next (.pointer (some ⟨w.heap.size,0,none⟩)) true ty).run Try.prog (w.iter s pos)=_:=fun ty=>run_next_any w s pos ty hlt
    have hd:=(decode_high s pos hlt (by omega)).1
    have h1':H9 (Utf8.decode s pos).1=false:=Sy (by omega)
    have h2':Is (Utf8.decode s pos).1=false:=Ua (by omega)
    have h3:H9 (s[pos]'hlt).toNat=false:=Sy (by omega)
    have h4:Is (s[pos]'hlt).toNat=false:=Ua (by omega)
    by_cases h0:pos=0
    ·subst h0
     go_wp2_with (first
      | (go_at_call 77;refine(J4 _ _).mono ?_;rintro e w' ⟨rfl,rfl⟩))
     go_ret
     exact To s _ _ 0 hlt h3 (.inl rfl) (by have:=HB2.out;rw[Nat.zero_add] at this;exact this)
    ·have h0':((pos:Int)==0)=false:=by rw[beq_eq_false_iff_ne];omega
     go_wp2_with (first
      | (go_at_call 77;refine(J4 _ _).mono ?_;rintro e w' ⟨rfl,rfl⟩)
      | (go_at_call 78;refine(Sw _ _).mono ?_;rintro e w' ⟨rfl,rfl⟩))
     go_ret
     exact To s _ _ pos hlt h3 (.inr h4) HB2.out
  ·have hnx:∀ ty,(Instr.next (.pointer (some ⟨w.heap.size,0,none⟩)) true ty).run Try.prog (w.iter s pos)=_:=fun ty=>run_next_end w s pos ty hlt
   have hn:=A3k (l:=s.data.toList) (fun k hk=>Hall.out k (by rw[Nz] at hk;omega))
   rw[Nz] at hn
   have hB:Below w.heap.size w (w.iter s pos):=((Below.refl _ _).alloc (Nat.le_refl _) _)
   have HN:=Lib.hid hn;clear hn
   by_cases he:s.data.toList=[]
   ·obtain rfl:=Zz he
    go_wp2
    go_ret
    exact⟨by rw[HN.out];rfl,hB⟩
   ·have he1:s.toList.isEmpty=false:=by rw[ByteArray.toList_eq];simpa using he
    have he2:s.data.toList.isEmpty=false:=by simpa using he
    clear he
    by_cases h16:s.size≤16
    ·go_wp2_with (first
      | (go_at_call 79;refine(Ub _ _).mono ?_;rintro e w' ⟨rfl,rfl⟩))
     go_ret
     exact⟨by rw[HN.out];simp[he2,h16],hB⟩
    ·go_wp2
     go_ret
     exact⟨by rw[HN.out];simp[he2,h16],hB⟩
set_option linter.unusedVariables false
set_option linter.unusedSimpArgs false
set_option maxRecDepth 100000
def A5v (f:List UInt8→Bool) (args:List AV):Option AV:=match args with
 | [.str s]=>some (.bool (f s))
 | _=>none
theorem Xu {P:Program} {g:FuncId} {f:List UInt8→Bool} (hc:∀ (s:ByteArray) (w:World),s.size≤9223372036854775807→Calls P g #[.string s] w (A2p (f s.data.toList) w)):W6 P g (A5v f):=by
 intro args v h S w vs hS hr
 match args,h with
 | [.str s],h =>
  cases h
  cases hr with | cons _ _ _ u _ _ h1 t=>cases t with | nil =>
  obtain⟨rfl,hl⟩:=h1.str_inv
  refine(hc (bs s) w (by unfold maxLen at hl;show s.toArray.size≤_;rw[List.size_toArray];omega)).mono ?_
  rintro e w' ⟨rfl,hb⟩
  obtain⟨k1,k2⟩:=A3g hS hb
  exact⟨_,S,rfl,.bool _ _ _,k2,k1,fun _ _ h=>.inl h,hb⟩
theorem A3l {P:Program} {g:FuncId}:W6 P g (fun _=>none):=by intro args v h;cases h
noncomputable def A5t:A5s:=[
 (58,A5v Rh),
 (79,A5v kwB),
 (1000000,fun _=>none)]
noncomputable def XT:Ext:=Uy A5t
theorem A31:∀ p ∈ A5t,W6 Try.prog p.1 p.2:=by
 unfold A5t
 refine List.forall_mem_cons.2 ⟨Xu (fun s w h=>(A5k s w h).mono fun _ _ h=>h),?_⟩
 refine List.forall_mem_cons.2 ⟨Xu (fun s w h=>(Ub s w).mono fun _ w' h=>⟨h.1,h.2 ▸ Go.RowKit.Below.refl _ _⟩),?_⟩
 exact List.forall_mem_cons.2 ⟨A3l,fun _ h=>by cases h⟩
theorem A5g:P3 Try.prog XT:=Tx A31
theorem A3z {P:Program} {H:Bf} {X:Ext} {n:Nat} {f:FuncId} {g:List AV→Option AV} {args:List AV} {v:AV} (hx:X f=some g) (h:g args=some v):Ge P H X (n+1) f args []=some (v,[]):=by
 simp only[Ge,Gk,hx,h]
def Et:Nat→List UInt8→Option Bool
 | 0,_=>none
 | _+1,s=>some (Rh s)
theorem Ey {n:Nat} {s:List UInt8} {r:Bool}:Et n s=some r→Ge Try.prog HH XT n 58 [AV.str s] []=some (AV.bool (r),[]):=by
 cases n with
 | zero=>intro hm;cases hm
 | succ n=>intro hm;obtain rfl:=Option.some.inj hm;exact A3z rfl rfl
end Go.Proofs.Ytceibnlnjmpkoaa
end
