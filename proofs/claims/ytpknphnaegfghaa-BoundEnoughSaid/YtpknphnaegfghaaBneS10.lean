/- Parts of the proofs: what they lean on. Conditions: none. -/
import Derived.Laws.EntriesVeiled
import Derived.MapKept
import Derived.WideMake
import Derived.Test.YtpknphnaegfghaaProg
import Derived.Test.YtpknphnaegfghaaBneS9
section
namespace Go.Proofs.Ytpknphnaegfghaa
open Go.RowKit
set_option linter.unusedVariables false
set_option linter.unusedSimpArgs false
def Gc (op:Int):Int:=if op=5 then 1 else if 6≤op∧op≤14 then 2 else 0
def Tl (op:Int):Value :=
 if op=5 then .func (.func 61) #[] #[]
 else if op=6 then .func (.func 63) #[] #[]
 else if op=7 then .func (.func 64) #[] #[]
 else if op=8 then .func (.func 65) #[] #[]
 else if op=9 then .func (.func 66) #[] #[]
 else if op=10 then .func (.func 67) #[] #[]
 else if op=11 then .func (.func 68) #[] #[]
 else if op=12 then .func (.func 69) #[] #[]
 else if op=13 then .func (.func 70) #[] #[]
 else if op=14 then .func (.func 71) #[] #[]
 else .nilFunc
def Js (op:Int) (w:World) (e:Ending) (w':World):Prop:=e=.returned (.tuple #[.agg #[.int .i64 (Gc op),Tl op],.bool (decide (5≤op∧op≤14))])∧Below w.heap.size w w'
set_option maxRecDepth 100000 in
set_option maxHeartbeats 2000000 in
theorem Akm (w:World):Calls Try.prog 60 #[.int .i64 5] w (Js 5 w):=by
 go_enter Try.func60,Try.ntmps60
 go_upto_region 1 with (fail)
 iterate 31 go_step
 refine Fh rfl (.agg #[.int .i64 0,.nilFunc,.int .i64 0,.nilFunc,.int .i64 0,.nilFunc,.int .i64 0,.nilFunc,.int .i64 0,.nilFunc,.int .i64 1,.func (.func 61) #[] #[],.int .i64 2,.func (.func 63) #[] #[],.int .i64 2,.func (.func 64) #[] #[],.int .i64 2,.func (.func 65) #[] #[],.int .i64 2,.func (.func 66) #[] #[],.int .i64 2,.func (.func 67) #[] #[],.int .i64 2,.func (.func 68) #[] #[],.int .i64 2,.func (.func 69) #[] #[],.int .i64 2,.func (.func 70) #[] #[],.int .i64 2,.func (.func 71) #[] #[]]) (by kernel_rfl) ?_
 iterate 3 go_step
 refine Ci (W:=w.alloc _) rfl _ _ _ rfl _ (w.heap.size+1) (by simp) rfl rfl (by kernel_rfl) rfl (by kernel_rfl) ?_
 go_wp2
 refine bodyPost_ret (v:=.tuple #[.agg #[.int .i64 1,.func (.func 61) #[] #[]],.bool true]) (by simp[results,Try.results60,go_sem]) rfl ?_
 exact⟨rfl,((Below.refl _ _).alloc (Nat.le_refl _) _).alloc (by simp) _⟩
set_option maxRecDepth 100000 in
set_option maxHeartbeats 2000000 in
theorem Akk (w:World):Calls Try.prog 60 #[.int .i64 6] w (Js 6 w):=by
 go_enter Try.func60,Try.ntmps60
 go_upto_region 1 with (fail)
 iterate 31 go_step
 refine Fh rfl (.agg #[.int .i64 0,.nilFunc,.int .i64 0,.nilFunc,.int .i64 0,.nilFunc,.int .i64 0,.nilFunc,.int .i64 0,.nilFunc,.int .i64 1,.func (.func 61) #[] #[],.int .i64 2,.func (.func 63) #[] #[],.int .i64 2,.func (.func 64) #[] #[],.int .i64 2,.func (.func 65) #[] #[],.int .i64 2,.func (.func 66) #[] #[],.int .i64 2,.func (.func 67) #[] #[],.int .i64 2,.func (.func 68) #[] #[],.int .i64 2,.func (.func 69) #[] #[],.int .i64 2,.func (.func 70) #[] #[],.int .i64 2,.func (.func 71) #[] #[]]) (by kernel_rfl) ?_
 iterate 3 go_step
 refine Ci (W:=w.alloc _) rfl _ _ _ rfl _ (w.heap.size+1) (by simp) rfl rfl (by kernel_rfl) rfl (by kernel_rfl) ?_
 go_wp2
 refine bodyPost_ret (v:=.tuple #[.agg #[.int .i64 2,.func (.func 63) #[] #[]],.bool true]) (by simp[results,Try.results60,go_sem]) rfl ?_
 exact⟨rfl,((Below.refl _ _).alloc (Nat.le_refl _) _).alloc (by simp) _⟩
set_option maxRecDepth 100000 in
set_option maxHeartbeats 2000000 in
theorem Akd (w:World):Calls Try.prog 60 #[.int .i64 7] w (Js 7 w):=by
 go_enter Try.func60,Try.ntmps60
 go_upto_region 1 with (fail)
 iterate 31 go_step
 refine Fh rfl (.agg #[.int .i64 0,.nilFunc,.int .i64 0,.nilFunc,.int .i64 0,.nilFunc,.int .i64 0,.nilFunc,.int .i64 0,.nilFunc,.int .i64 1,.func (.func 61) #[] #[],.int .i64 2,.func (.func 63) #[] #[],.int .i64 2,.func (.func 64) #[] #[],.int .i64 2,.func (.func 65) #[] #[],.int .i64 2,.func (.func 66) #[] #[],.int .i64 2,.func (.func 67) #[] #[],.int .i64 2,.func (.func 68) #[] #[],.int .i64 2,.func (.func 69) #[] #[],.int .i64 2,.func (.func 70) #[] #[],.int .i64 2,.func (.func 71) #[] #[]]) (by kernel_rfl) ?_
 iterate 3 go_step
 refine Ci (W:=w.alloc _) rfl _ _ _ rfl _ (w.heap.size+1) (by simp) rfl rfl (by kernel_rfl) rfl (by kernel_rfl) ?_
 go_wp2
 refine bodyPost_ret (v:=.tuple #[.agg #[.int .i64 2,.func (.func 64) #[] #[]],.bool true]) (by simp[results,Try.results60,go_sem]) rfl ?_
 exact⟨rfl,((Below.refl _ _).alloc (Nat.le_refl _) _).alloc (by simp) _⟩
set_option maxRecDepth 100000 in
set_option maxHeartbeats 2000000 in
theorem Akc (w:World):Calls Try.prog 60 #[.int .i64 8] w (Js 8 w):=by
 go_enter Try.func60,Try.ntmps60
 go_upto_region 1 with (fail)
 iterate 31 go_step
 refine Fh rfl (.agg #[.int .i64 0,.nilFunc,.int .i64 0,.nilFunc,.int .i64 0,.nilFunc,.int .i64 0,.nilFunc,.int .i64 0,.nilFunc,.int .i64 1,.func (.func 61) #[] #[],.int .i64 2,.func (.func 63) #[] #[],.int .i64 2,.func (.func 64) #[] #[],.int .i64 2,.func (.func 65) #[] #[],.int .i64 2,.func (.func 66) #[] #[],.int .i64 2,.func (.func 67) #[] #[],.int .i64 2,.func (.func 68) #[] #[],.int .i64 2,.func (.func 69) #[] #[],.int .i64 2,.func (.func 70) #[] #[],.int .i64 2,.func (.func 71) #[] #[]]) (by kernel_rfl) ?_
 iterate 3 go_step
 refine Ci (W:=w.alloc _) rfl _ _ _ rfl _ (w.heap.size+1) (by simp) rfl rfl (by kernel_rfl) rfl (by kernel_rfl) ?_
 go_wp2
 refine bodyPost_ret (v:=.tuple #[.agg #[.int .i64 2,.func (.func 65) #[] #[]],.bool true]) (by simp[results,Try.results60,go_sem]) rfl ?_
 exact⟨rfl,((Below.refl _ _).alloc (Nat.le_refl _) _).alloc (by simp) _⟩
set_option maxRecDepth 100000 in
set_option maxHeartbeats 2000000 in
theorem Akf (w:World):Calls Try.prog 60 #[.int .i64 9] w (Js 9 w):=by
 go_enter Try.func60,Try.ntmps60
 go_upto_region 1 with (fail)
 iterate 31 go_step
 refine Fh rfl (.agg #[.int .i64 0,.nilFunc,.int .i64 0,.nilFunc,.int .i64 0,.nilFunc,.int .i64 0,.nilFunc,.int .i64 0,.nilFunc,.int .i64 1,.func (.func 61) #[] #[],.int .i64 2,.func (.func 63) #[] #[],.int .i64 2,.func (.func 64) #[] #[],.int .i64 2,.func (.func 65) #[] #[],.int .i64 2,.func (.func 66) #[] #[],.int .i64 2,.func (.func 67) #[] #[],.int .i64 2,.func (.func 68) #[] #[],.int .i64 2,.func (.func 69) #[] #[],.int .i64 2,.func (.func 70) #[] #[],.int .i64 2,.func (.func 71) #[] #[]]) (by kernel_rfl) ?_
 iterate 3 go_step
 refine Ci (W:=w.alloc _) rfl _ _ _ rfl _ (w.heap.size+1) (by simp) rfl rfl (by kernel_rfl) rfl (by kernel_rfl) ?_
 go_wp2
 refine bodyPost_ret (v:=.tuple #[.agg #[.int .i64 2,.func (.func 66) #[] #[]],.bool true]) (by simp[results,Try.results60,go_sem]) rfl ?_
 exact⟨rfl,((Below.refl _ _).alloc (Nat.le_refl _) _).alloc (by simp) _⟩
set_option maxRecDepth 100000 in
set_option maxHeartbeats 2000000 in
theorem Aju (w:World):Calls Try.prog 60 #[.int .i64 10] w (Js 10 w):=by
 go_enter Try.func60,Try.ntmps60
 go_upto_region 1 with (fail)
 iterate 31 go_step
 refine Fh rfl (.agg #[.int .i64 0,.nilFunc,.int .i64 0,.nilFunc,.int .i64 0,.nilFunc,.int .i64 0,.nilFunc,.int .i64 0,.nilFunc,.int .i64 1,.func (.func 61) #[] #[],.int .i64 2,.func (.func 63) #[] #[],.int .i64 2,.func (.func 64) #[] #[],.int .i64 2,.func (.func 65) #[] #[],.int .i64 2,.func (.func 66) #[] #[],.int .i64 2,.func (.func 67) #[] #[],.int .i64 2,.func (.func 68) #[] #[],.int .i64 2,.func (.func 69) #[] #[],.int .i64 2,.func (.func 70) #[] #[],.int .i64 2,.func (.func 71) #[] #[]]) (by kernel_rfl) ?_
 iterate 3 go_step
 refine Ci (W:=w.alloc _) rfl _ _ _ rfl _ (w.heap.size+1) (by simp) rfl rfl (by kernel_rfl) rfl (by kernel_rfl) ?_
 go_wp2
 refine bodyPost_ret (v:=.tuple #[.agg #[.int .i64 2,.func (.func 67) #[] #[]],.bool true]) (by simp[results,Try.results60,go_sem]) rfl ?_
 exact⟨rfl,((Below.refl _ _).alloc (Nat.le_refl _) _).alloc (by simp) _⟩
set_option maxRecDepth 100000 in
set_option maxHeartbeats 2000000 in
theorem Ajy (w:World):Calls Try.prog 60 #[.int .i64 11] w (Js 11 w):=by
 go_enter Try.func60,Try.ntmps60
 go_upto_region 1 with (fail)
 iterate 31 go_step
 refine Fh rfl (.agg #[.int .i64 0,.nilFunc,.int .i64 0,.nilFunc,.int .i64 0,.nilFunc,.int .i64 0,.nilFunc,.int .i64 0,.nilFunc,.int .i64 1,.func (.func 61) #[] #[],.int .i64 2,.func (.func 63) #[] #[],.int .i64 2,.func (.func 64) #[] #[],.int .i64 2,.func (.func 65) #[] #[],.int .i64 2,.func (.func 66) #[] #[],.int .i64 2,.func (.func 67) #[] #[],.int .i64 2,.func (.func 68) #[] #[],.int .i64 2,.func (.func 69) #[] #[],.int .i64 2,.func (.func 70) #[] #[],.int .i64 2,.func (.func 71) #[] #[]]) (by kernel_rfl) ?_
 iterate 3 go_step
 refine Ci (W:=w.alloc _) rfl _ _ _ rfl _ (w.heap.size+1) (by simp) rfl rfl (by kernel_rfl) rfl (by kernel_rfl) ?_
 go_wp2
 refine bodyPost_ret (v:=.tuple #[.agg #[.int .i64 2,.func (.func 68) #[] #[]],.bool true]) (by simp[results,Try.results60,go_sem]) rfl ?_
 exact⟨rfl,((Below.refl _ _).alloc (Nat.le_refl _) _).alloc (by simp) _⟩
set_option maxRecDepth 100000 in
set_option maxHeartbeats 2000000 in
theorem Ajr (w:World):Calls Try.prog 60 #[.int .i64 12] w (Js 12 w):=by
 go_enter Try.func60,Try.ntmps60
 go_upto_region 1 with (fail)
 iterate 31 go_step
 refine Fh rfl (.agg #[.int .i64 0,.nilFunc,.int .i64 0,.nilFunc,.int .i64 0,.nilFunc,.int .i64 0,.nilFunc,.int .i64 0,.nilFunc,.int .i64 1,.func (.func 61) #[] #[],.int .i64 2,.func (.func 63) #[] #[],.int .i64 2,.func (.func 64) #[] #[],.int .i64 2,.func (.func 65) #[] #[],.int .i64 2,.func (.func 66) #[] #[],.int .i64 2,.func (.func 67) #[] #[],.int .i64 2,.func (.func 68) #[] #[],.int .i64 2,.func (.func 69) #[] #[],.int .i64 2,.func (.func 70) #[] #[],.int .i64 2,.func (.func 71) #[] #[]]) (by kernel_rfl) ?_
 iterate 3 go_step
 refine Ci (W:=w.alloc _) rfl _ _ _ rfl _ (w.heap.size+1) (by simp) rfl rfl (by kernel_rfl) rfl (by kernel_rfl) ?_
 go_wp2
 refine bodyPost_ret (v:=.tuple #[.agg #[.int .i64 2,.func (.func 69) #[] #[]],.bool true]) (by simp[results,Try.results60,go_sem]) rfl ?_
 exact⟨rfl,((Below.refl _ _).alloc (Nat.le_refl _) _).alloc (by simp) _⟩
set_option maxRecDepth 100000 in
set_option maxHeartbeats 2000000 in
theorem Ajp (w:World):Calls Try.prog 60 #[.int .i64 13] w (Js 13 w):=by
 go_enter Try.func60,Try.ntmps60
 go_upto_region 1 with (fail)
 iterate 31 go_step
 refine Fh rfl (.agg #[.int .i64 0,.nilFunc,.int .i64 0,.nilFunc,.int .i64 0,.nilFunc,.int .i64 0,.nilFunc,.int .i64 0,.nilFunc,.int .i64 1,.func (.func 61) #[] #[],.int .i64 2,.func (.func 63) #[] #[],.int .i64 2,.func (.func 64) #[] #[],.int .i64 2,.func (.func 65) #[] #[],.int .i64 2,.func (.func 66) #[] #[],.int .i64 2,.func (.func 67) #[] #[],.int .i64 2,.func (.func 68) #[] #[],.int .i64 2,.func (.func 69) #[] #[],.int .i64 2,.func (.func 70) #[] #[],.int .i64 2,.func (.func 71) #[] #[]]) (by kernel_rfl) ?_
 iterate 3 go_step
 refine Ci (W:=w.alloc _) rfl _ _ _ rfl _ (w.heap.size+1) (by simp) rfl rfl (by kernel_rfl) rfl (by kernel_rfl) ?_
 go_wp2
 refine bodyPost_ret (v:=.tuple #[.agg #[.int .i64 2,.func (.func 70) #[] #[]],.bool true]) (by simp[results,Try.results60,go_sem]) rfl ?_
 exact⟨rfl,((Below.refl _ _).alloc (Nat.le_refl _) _).alloc (by simp) _⟩
set_option maxRecDepth 100000 in
set_option maxHeartbeats 2000000 in
theorem Ajv (w:World):Calls Try.prog 60 #[.int .i64 14] w (Js 14 w):=by
 go_enter Try.func60,Try.ntmps60
 go_upto_region 1 with (fail)
 iterate 31 go_step
 refine Fh rfl (.agg #[.int .i64 0,.nilFunc,.int .i64 0,.nilFunc,.int .i64 0,.nilFunc,.int .i64 0,.nilFunc,.int .i64 0,.nilFunc,.int .i64 1,.func (.func 61) #[] #[],.int .i64 2,.func (.func 63) #[] #[],.int .i64 2,.func (.func 64) #[] #[],.int .i64 2,.func (.func 65) #[] #[],.int .i64 2,.func (.func 66) #[] #[],.int .i64 2,.func (.func 67) #[] #[],.int .i64 2,.func (.func 68) #[] #[],.int .i64 2,.func (.func 69) #[] #[],.int .i64 2,.func (.func 70) #[] #[],.int .i64 2,.func (.func 71) #[] #[]]) (by kernel_rfl) ?_
 iterate 3 go_step
 refine Ci (W:=w.alloc _) rfl _ _ _ rfl _ (w.heap.size+1) (by simp) rfl rfl (by kernel_rfl) rfl (by kernel_rfl) ?_
 go_wp2
 refine bodyPost_ret (v:=.tuple #[.agg #[.int .i64 2,.func (.func 71) #[] #[]],.bool true]) (by simp[results,Try.results60,go_sem]) rfl ?_
 exact⟨rfl,((Below.refl _ _).alloc (Nat.le_refl _) _).alloc (by simp) _⟩
set_option maxRecDepth 100000 in
set_option maxHeartbeats 4000000 in
theorem Abv (op:Int) (w:World):Calls Try.prog 60 #[.int .i64 op] w (Js op w):=by
 by_cases h:5≤op∧op≤14
 ·have hc:op=5∨op=6∨op=7∨op=8∨op=9∨op=10∨op=11∨op=12∨op=13∨op=14:=by omega
  clear h
  rcases hc with rfl | rfl | rfl | rfl | rfl | rfl | rfl | rfl | rfl | rfl
  all_goals first | exact Akm w | exact Akk w | exact Akd w | exact Akc w | exact Akf w | exact Aju w | exact Ajy w | exact Ajr w | exact Ajp w | exact Ajv w
 ·have ht:Gc op=0:=by simp only[Gc];rw[if_neg (by omega),if_neg (by omega)]
  have hd:Tl op=.nilFunc:=by
   simp only[Tl]
   repeat rw[if_neg (by omega)]
  have hb:decide (5≤op∧op≤14)=false:=decide_eq_false h
  have HT:=Lib.hid ht;have HD:=Lib.hid hd;have HB:=Lib.hid hb
  clear ht hd hb
  by_cases h5:op < 5
  ·clear h
   go_enter Try.func60,Try.ntmps60
   go_upto_region 1 with (fail)
   iterate 31 go_step
   refine Fh rfl (.agg #[.int .i64 0,.nilFunc,.int .i64 0,.nilFunc,.int .i64 0,.nilFunc,.int .i64 0,.nilFunc,.int .i64 0,.nilFunc,.int .i64 1,.func (.func 61) #[] #[],.int .i64 2,.func (.func 63) #[] #[],.int .i64 2,.func (.func 64) #[] #[],.int .i64 2,.func (.func 65) #[] #[],.int .i64 2,.func (.func 66) #[] #[],.int .i64 2,.func (.func 67) #[] #[],.int .i64 2,.func (.func 68) #[] #[],.int .i64 2,.func (.func 69) #[] #[],.int .i64 2,.func (.func 70) #[] #[],.int .i64 2,.func (.func 71) #[] #[]]) (by kernel_rfl) ?_
   iterate 3 go_step
   refine Ci (W:=w.alloc _) rfl _ _ _ rfl _ (w.heap.size+1) (by simp) rfl rfl (by kernel_rfl) rfl (by kernel_rfl) ?_
   go_wp2
   refine bodyPost_ret (v:=.tuple #[.agg #[.int .i64 0,.nilFunc],.bool false]) (by simp[results,Try.results60,go_sem]) rfl ?_
   exact⟨by rw[HT.out,HD.out,HB.out],((Below.refl _ _).alloc (Nat.le_refl _) _).alloc (by simp) _⟩
  ·have h14:15≤op:=by omega
   clear h
   go_enter Try.func60,Try.ntmps60
   go_upto_region 1 with (fail)
   iterate 31 go_step
   refine Fh rfl (.agg #[.int .i64 0,.nilFunc,.int .i64 0,.nilFunc,.int .i64 0,.nilFunc,.int .i64 0,.nilFunc,.int .i64 0,.nilFunc,.int .i64 1,.func (.func 61) #[] #[],.int .i64 2,.func (.func 63) #[] #[],.int .i64 2,.func (.func 64) #[] #[],.int .i64 2,.func (.func 65) #[] #[],.int .i64 2,.func (.func 66) #[] #[],.int .i64 2,.func (.func 67) #[] #[],.int .i64 2,.func (.func 68) #[] #[],.int .i64 2,.func (.func 69) #[] #[],.int .i64 2,.func (.func 70) #[] #[],.int .i64 2,.func (.func 71) #[] #[]]) (by kernel_rfl) ?_
   iterate 3 go_step
   refine Ci (W:=w.alloc _) rfl _ _ _ rfl _ (w.heap.size+1) (by simp) rfl rfl (by kernel_rfl) rfl (by kernel_rfl) ?_
   go_wp2
   refine bodyPost_ret (v:=.tuple #[.agg #[.int .i64 0,.nilFunc],.bool false]) (by simp[results,Try.results60,go_sem]) rfl ?_
   exact⟨by rw[HT.out,HD.out,HB.out],((Below.refl _ _).alloc (Nat.le_refl _) _).alloc (by simp) _⟩
def Ajg (t:Int) (fv:Value) (ok:Bool) (w:World) (e:Ending) (w':World):Prop:=e=.returned (.tuple #[.agg #[.int .i64 t,fv],.bool ok])∧Below w.heap.size w w'
theorem A1f (op:Int) (w:World) (h:¬ (5≤op∧op≤14)):Calls Try.prog 60 #[.int .i64 op] w (Ajg 0 .nilFunc false w) :=
 (Abv op w).mono fun e w' ⟨he,hb⟩=>by
  have ht:Gc op=0:=by simp only[Gc];rw[if_neg (by omega),if_neg (by omega)]
  have hd:Tl op=.nilFunc:=by
   simp only[Tl]
   repeat rw[if_neg (by omega)]
  have hbb:decide (5≤op∧op≤14)=false:=decide_eq_false h
  rw[ht,hd,hbb] at he
  exact⟨he,hb⟩
theorem Yb {op:Int} (h:5≤op∧op≤14):∃ f:Nat,Tl op=.func (.func f) #[] #[]:=by
 have hc:op=5∨op=6∨op=7∨op=8∨op=9∨op=10∨op=11∨op=12∨op=13∨op=14:=by omega
 rcases hc with rfl | rfl | rfl | rfl | rfl | rfl | rfl | rfl | rfl | rfl
 all_goals exact⟨_,rfl⟩
theorem A3r (op:Int) (w:World) (h:5≤op∧op≤14) (t:Int) (ht:Gc op=t) (f:Nat) (hf:Tl op=.func (.func f) #[] #[]):Calls Try.prog 60 #[.int .i64 op] w (Ajg t (.func (.func f) #[] #[]) true w) :=
 (Abv op w).mono fun e w' ⟨he,hb⟩=>by
  have hbb:decide (5≤op∧op≤14)=true:=decide_eq_true h
  rw[ht,hf,hbb] at he
  exact⟨he,hb⟩
theorem A27 {op:Int} (h:6≤op∧op≤14):Gc op=2:=by simp only[Gc];rw[if_neg (by omega),if_pos h]
def Ad1 (l:List OpS) (w:World) (e:Ending) (w':World):Prop:=e=.returned (.tuple #[.int .i64 (L9 l).1,.int .i64 (L9 l).2])∧Below w.heap.size w w'
set_option maxRecDepth 100000 in
set_option maxHeartbeats 8000000 in
theorem Afx (l:List OpS) (v:Value) (w:World) (hv:Sl rOp w v l):Calls Try.prog 55 #[v] w (Ad1 l w):=by
 have hl:=hv.len
 obtain⟨a,c,rfl,hc⟩:=Bq hv
 have HC:=Lib.hid hc;clear hc hv
 go_enter Try.func55,Try.ntmps55
 go_wp2
 go_loopw [4,5,13] (fun n m i wr=>∃ (k:Nat) (nn mm:Int),i=.int .i64 k∧n=.int .i64 nn∧m=.int .i64 mm∧k≤l.length∧0≤nn∧nn≤k∧0≤mm∧mm≤k∧Jx (l.drop k) nn mm=L9 l∧Below w.heap.size w wr) (fun _ _ i _=>l.length - (intOf i).toNat)
 case atStart=>exact⟨0,0,0,rfl,rfl,rfl,by omega,by omega,by omega,by omega,by omega,rfl,Below.refl _ _⟩
 case round =>
  obtain⟨k,nn,mm,rfl,rfl,rfl,hk,hn1,hn2,hm1,hm2,hrel,hb⟩:=hrel
  have HR:=Lib.hid hrel;have HB:=Lib.hid hb;have hz:=hb.size;clear hrel hb
  by_cases hlt:k < l.length
  ·obtain⟨b,o,rfl,x1,x2,x3,_⟩:=HC.out k hlt
   have y1:=cell_later HB.out x1;have y2:=cell_later HB.out x2;have y3:=cell_later HB.out x3
   clear x1 x2 x3
   have HD:=Lib.hid (A2n hlt nn mm)
   obtain⟨x,hx⟩:∃ x,l[k]=x:=⟨_,rfl⟩
   rw[hx] at y1 y2 y3 HD
   clear hx
   by_cases c1:1≤x.op∧x.op≤4
   ·have h5:¬ (5≤x.op∧x.op≤14):=by omega
    have HD1:=Lib.hid (HD.out.trans (if_pos c1))
    obtain⟨c1a,c1b⟩:=c1
    have H5:=Lib.hid h5;clear h5
    go_wp2_with fail
    refine(A1f x.op _ H5.out).mono ?_
    rintro e w2 ⟨rfl,hb2⟩
    have q0:w2.cell? ⟨wr.heap.size,0,none⟩=some (.int .i64 x.op):=by rw[(R4 hb2).1 _ _ (by simp)];simp[go_sem]
    have hz2:=hb2.size
    simp only[World.size_alloc] at hz2
    have hne:wr.heap.size≠w2.heap.size:=by omega
    have hlt2:wr.heap.size < w2.heap.size:=by omega
    have HB2:=Lib.hid ((HB.out.alloc hz _).trans (hb2.mono (by simp;omega)))
    clear hb2
    go_wp2
    all_goals
     go_roundw
     case rel=>exact⟨k+1,nn+1,max mm (nn+1),by go_num,by go_num,by go_num,by omega,by omega,by omega,by omega,by omega,by rw[← HR.out,HD1.out],HB2.out.alloc (by omega) _⟩
     case measure=>simp[intOf];omega
   ·by_cases c2:x.op=5∧1≤nn
    ·have HD1:=Lib.hid (HD.out.trans ((if_neg c1).trans (if_pos c2)))
     obtain⟨c2a,c2b⟩:=c2
     obtain⟨f,hf⟩:=Yb (op:=x.op) (by omega)
     have Hf:=Lib.hid hf;clear hf
     have H5:Hid (5≤x.op∧x.op≤14):=by simp only[Hid];omega
     have HT:Hid (Gc x.op=1):=by simp only[Hid,Gc];rw[if_pos c2a]
     have h1:¬ x.op≤4:=by omega
     have h1b:1≤x.op:=by omega
     clear c1 c2a
     go_wp2_with fail
     refine(A3r x.op _ H5.out 1 HT.out f Hf.out).mono ?_
     rintro e w2 ⟨rfl,hb2⟩
     have q0:w2.cell? ⟨wr.heap.size,0,none⟩=some (.int .i64 x.op):=by rw[(R4 hb2).1 _ _ (by simp)];simp[go_sem]
     have hz2:=hb2.size
     simp only[World.size_alloc] at hz2
     have hne:wr.heap.size≠w2.heap.size:=by omega
     have hlt2:wr.heap.size < w2.heap.size:=by omega
     have HB2:=Lib.hid ((HB.out.alloc hz _).trans (hb2.mono (by simp;omega)))
     clear hb2
     go_wp2
     all_goals
      go_roundw
      case rel=>exact⟨k+1,nn,max mm (nn),by go_num,by go_num,by go_num,by omega,by omega,by omega,by omega,by omega,by rw[← HR.out,HD1.out],HB2.out.alloc (by omega) _⟩
      case measure=>simp[intOf];omega
    ·by_cases c3:6≤x.op∧x.op≤14∧2≤nn
     ·have HD1:=Lib.hid (HD.out.trans ((if_neg c1).trans ((if_neg c2).trans (if_pos c3))))
      obtain⟨c3a,c3b,c3c⟩:=c3
      obtain⟨f,hf⟩:=Yb (op:=x.op) (by omega)
      have Hf:=Lib.hid hf;clear hf
      have H5:Hid (5≤x.op∧x.op≤14):=by simp only[Hid];omega
      have HT:Hid (Gc x.op=2):=A27 ⟨c3a,c3b⟩
      clear c1 c2
      go_wp2_with fail
      refine(A3r x.op _ H5.out 2 HT.out f Hf.out).mono ?_
      rintro e w2 ⟨rfl,hb2⟩
      have q0:w2.cell? ⟨wr.heap.size,0,none⟩=some (.int .i64 x.op):=by rw[(R4 hb2).1 _ _ (by simp)];simp[go_sem]
      have hz2:=hb2.size
      simp only[World.size_alloc] at hz2
      have hne:wr.heap.size≠w2.heap.size:=by omega
      have hlt2:wr.heap.size < w2.heap.size:=by omega
      have HB2:=Lib.hid ((HB.out.alloc hz _).trans (hb2.mono (by simp;omega)))
      clear hb2
      go_wp2
      all_goals
       go_roundw
       case rel=>exact⟨k+1,nn - 1,max mm (nn - 1),by go_num,by go_num,by go_num,by omega,by omega,by omega,by omega,by omega,by rw[← HR.out,HD1.out],HB2.out.alloc (by omega) _⟩
       case measure=>simp[intOf];omega
     ·have HF:=Lib.hid (show L9 l=(-1,-1) by rw[← HR.out,HD.out,if_neg c1,if_neg c2,if_neg c3])
      by_cases h5:5≤x.op∧x.op≤14
      ·obtain⟨f,hf⟩:=Yb h5
       have Hf:=Lib.hid hf;clear hf
       have H5:=Lib.hid h5
       by_cases h6:x.op=5
       ·have HT:Hid (Gc x.op=1):=by simp only[Hid,Gc];rw[if_pos h6]
        have hn:nn < 1:=by omega
        have h1b:1≤x.op:=by omega
        have h1:¬ x.op≤4:=by omega
        clear c1 c2 c3 h5 h6
        go_wp2_with fail
        refine(A3r x.op _ H5.out 1 HT.out f Hf.out).mono ?_
        rintro e w2 ⟨rfl,hb2⟩
        have q0:w2.cell? ⟨wr.heap.size,0,none⟩=some (.int .i64 x.op):=by rw[(R4 hb2).1 _ _ (by simp)];simp[go_sem]
        have hz2:=hb2.size
        simp only[World.size_alloc] at hz2
        have hne:wr.heap.size≠w2.heap.size:=by omega
        have hlt2:wr.heap.size < w2.heap.size:=by omega
        have HB2:=Lib.hid ((HB.out.alloc hz _).trans (hb2.mono (by simp;omega)))
        clear hb2
        go_wp2
        go_ret2
        exact⟨by rw[HF.out];rfl,HB2.out.alloc (by omega) _⟩
       ·have HT:Hid (Gc x.op=2):=A27 (by omega)
        have hn:nn < 2:=by omega
        have h1b:1≤x.op:=by omega
        have h1:¬ x.op≤4:=by omega
        clear c1 c2 c3 h5 h6
        go_wp2_with fail
        refine(A3r x.op _ H5.out 2 HT.out f Hf.out).mono ?_
        rintro e w2 ⟨rfl,hb2⟩
        have q0:w2.cell? ⟨wr.heap.size,0,none⟩=some (.int .i64 x.op):=by rw[(R4 hb2).1 _ _ (by simp)];simp[go_sem]
        have hz2:=hb2.size
        simp only[World.size_alloc] at hz2
        have hne:wr.heap.size≠w2.heap.size:=by omega
        have hlt2:wr.heap.size < w2.heap.size:=by omega
        have HB2:=Lib.hid ((HB.out.alloc hz _).trans (hb2.mono (by simp;omega)))
        clear hb2
        go_wp2
        go_ret2
        exact⟨by rw[HF.out];rfl,HB2.out.alloc (by omega) _⟩
      ·have H5:=Lib.hid h5
       by_cases h1:x.op < 1
       ·clear c1 c2 c3 h5
        go_wp2_with fail
        refine(A1f x.op _ H5.out).mono ?_
        rintro e w2 ⟨rfl,hb2⟩
        have q0:w2.cell? ⟨wr.heap.size,0,none⟩=some (.int .i64 x.op):=by rw[(R4 hb2).1 _ _ (by simp)];simp[go_sem]
        have hz2:=hb2.size
        simp only[World.size_alloc] at hz2
        have hne:wr.heap.size≠w2.heap.size:=by omega
        have hlt2:wr.heap.size < w2.heap.size:=by omega
        have HB2:=Lib.hid ((HB.out.alloc hz _).trans (hb2.mono (by simp;omega)))
        clear hb2
        go_wp2
        go_ret2
        exact⟨by rw[HF.out];rfl,HB2.out.alloc (by omega) _⟩
       ·have h14:14 < x.op:=by omega
        clear c1 c2 c3 h5
        go_wp2_with fail
        refine(A1f x.op _ H5.out).mono ?_
        rintro e w2 ⟨rfl,hb2⟩
        have q0:w2.cell? ⟨wr.heap.size,0,none⟩=some (.int .i64 x.op):=by rw[(R4 hb2).1 _ _ (by simp)];simp[go_sem]
        have hz2:=hb2.size
        simp only[World.size_alloc] at hz2
        have hne:wr.heap.size≠w2.heap.size:=by omega
        have hlt2:wr.heap.size < w2.heap.size:=by omega
        have HB2:=Lib.hid ((HB.out.alloc hz _).trans (hb2.mono (by simp;omega)))
        clear hb2
        go_wp2
        go_ret2
        exact⟨by rw[HF.out];rfl,HB2.out.alloc (by omega) _⟩
  ·have hd:l.drop k=[]:=List.drop_eq_nil_of_le (by omega)
   have HF:=Lib.hid (show L9 l=(nn,mm) by rw[← HR.out,hd];rfl)
   go_wp2
   go_ret2
   exact⟨by rw[HF.out];rfl,HB.out⟩
set_option maxRecDepth 100000 in
set_option maxHeartbeats 8000000 in
theorem Aab (l:List OpS) (regs:List Int) (own locs:Int) (v vr:Value) (w:World) (hv:Sl rOp w v l) (hr:Sl rI w vr regs) :
 Calls Try.prog 45 #[v,vr,.int .i64 own,.int .i64 locs] w (Me l regs own locs w):=by
 have hl:=hv.len
 have hl2:=hr.len
 have HV:=Lib.hid hv
 obtain⟨a,c,rfl,hc⟩:=Bq hv
 obtain⟨a2,c2,rfl,hc2⟩:=C6 hr
 have HC:=Lib.hid hc;have HC2:=Lib.hid hc2;clear hc hc2 hv hr
 go_enter Try.func45,Try.ntmps45
 go_wp2
 go_loopw [16] (fun i wr=>∃ k:Nat,i=.int .i64 k∧k≤l.length∧(∀ j (h:j < l.length),j < k→Ei regs own locs l[j]=true)∧Below w.heap.size w wr) (fun i _=>l.length - (intOf i).toNat)
 case atStart=>exact⟨0,rfl,by omega,fun j _ h=>absurd h (by omega),Below.refl _ _⟩
 case round =>
  obtain⟨k,rfl,hk,hall,hb⟩:=hrel
  have Hall:=Lib.hid hall;have HB:=Lib.hid hb
  have hz:=hb.size
  clear hall hb
  by_cases hlt:k < l.length
  ·obtain⟨b,o,rfl,x1,x2,x3,_⟩:=HC.out k hlt
   have y1:=cell_later HB.out x1;have y2:=cell_later HB.out x2;have y3:=cell_later HB.out x3
   clear x1 x2 x3
   obtain⟨x,hx⟩:∃ x,l[k]=x:=⟨_,rfl⟩
   have Hrel:Hid (Ei regs own locs x=true→∀ j (h:j < l.length),j < k+1→Ei regs own locs l[j]=true):=fun hox j h2 h3=>by
    rcases Nat.lt_or_ge j k with h | h
    ·exact Hall.out j h2 h
    ·obtain rfl:j=k:=by omega
     rw[hx];exact hox
   have Hbad:Hid (∀ w',Ei regs own locs x=false→Below w.heap.size w w'→Me l regs own locs w (.returned (.bool false)) w'):=fun w' hox hbb=>A20 hlt (by rw[hx];exact hox) hbb
   rw[hx] at y1 y2 y3
   clear hx
   by_cases c1:x.op=1
   ·have d1:(x.op==1)=true:=Mo c1
    have HE:=Lib.hid (show Ei regs own locs x=inB x.n 10000 by simp[Ei,c1])
    by_cases hb1:x.n < 0
    ·clear c1
     go_wp2
     go_ret
     exact Hbad.out _ (by rw[HE.out];exact I0 (.inl hb1)) (HB.out.alloc hz _)
    ·by_cases hb2:10000≤x.n
     ·clear c1
      go_wp2
      go_ret
      exact Hbad.out _ (by rw[HE.out];exact I0 (.inr hb2)) (HB.out.alloc hz _)
     ·clear c1
      go_wp2
      go_roundw
      case rel=>exact⟨k+1,by go_num,by omega,Hrel.out (by rw[HE.out];exact Sm (by omega)),HB.out.alloc hz _⟩
      case measure=>simp[intOf];omega
   ·have d1:(x.op==1)=false:=I9 c1
    by_cases c2:x.op=2
    ·have d2:(x.op==2)=true:=Mo c2
     have HE:=Lib.hid (show Ei regs own locs x=inB x.n own by simp[Ei,c2])
     by_cases hb1:x.n < 0
     ·clear c1 c2
      go_wp2
      go_ret
      exact Hbad.out _ (by rw[HE.out];exact I0 (.inl hb1)) (HB.out.alloc hz _)
     ·by_cases hb2:own≤x.n
      ·clear c1 c2
       go_wp2
       go_ret
       exact Hbad.out _ (by rw[HE.out];exact I0 (.inr hb2)) (HB.out.alloc hz _)
      ·clear c1 c2
       go_wp2
       go_roundw
       case rel=>exact⟨k+1,by go_num,by omega,Hrel.out (by rw[HE.out];exact Sm (by omega)),HB.out.alloc hz _⟩
       case measure=>simp[intOf];omega
    ·have d2:(x.op==2)=false:=I9 c2
     by_cases c3:x.op=3
     ·have d3:(x.op==3)=true:=Mo c3
      have HE:=Lib.hid (show Ei regs own locs x=inB x.n locs by simp[Ei,c3])
      by_cases hb1:x.n < 0
      ·clear c1 c2 c3
       go_wp2
       go_ret
       exact Hbad.out _ (by rw[HE.out];exact I0 (.inl hb1)) (HB.out.alloc hz _)
      ·by_cases hb2:locs≤x.n
       ·clear c1 c2 c3
        go_wp2
        go_ret
        exact Hbad.out _ (by rw[HE.out];exact I0 (.inr hb2)) (HB.out.alloc hz _)
       ·clear c1 c2 c3
        go_wp2
        go_roundw
        case rel=>exact⟨k+1,by go_num,by omega,Hrel.out (by rw[HE.out];exact Sm (by omega)),HB.out.alloc hz _⟩
        case measure=>simp[intOf];omega
     ·have d3:(x.op==3)=false:=I9 c3
      by_cases c4:x.op=4
      ·have d4:(x.op==4)=true:=Mo c4
       cases ht:inB x.t regs.length
       ·have HE:=Lib.hid (A4q (own:=own) (locs:=locs) c4 ht)
        simp only[inB,decide_eq_false_iff_not] at ht
        by_cases t1:x.t < 0
        ·by_cases hb1:x.n < 0
         all_goals
          clear c1 c2 c3 c4 ht
          go_wp2
          go_ret
          exact Hbad.out _ HE.out (HB.out.alloc hz _)
        ·have t2:(regs.length:Int)≤x.t:=by omega
         by_cases hb1:x.n < 0
         all_goals
          clear c1 c2 c3 c4 ht
          go_wp2
          go_ret
          exact Hbad.out _ HE.out (HB.out.alloc hz _)
       ·have ht2:=ht
        simp only[inB,A9] at ht2
        obtain⟨t1,t2⟩:=ht2
        obtain⟨tn,htn⟩:=Int.eq_ofNat_of_zero_le t1
        rw[htn] at t2 y3 ht
        have t3:tn < regs.length:=by omega
        obtain⟨b2,o2,rfl,z1,_⟩:=HC2.out tn t3
        have z2:=cell_later HB.out z1
        have HE:=Lib.hid (Agz (own:=own) (locs:=locs) c4 htn t3)
        clear z1 t1 htn ht
        obtain⟨m,hm⟩:∃ m,regs[tn]=m:=⟨_,rfl⟩
        rw[hm] at z2 HE
        clear hm
        have hlb:b2 < wr.heap.size:=World.block_lt_of_cell? _ _ z2
        have hlb3:b2≠wr.heap.size:=by omega
        by_cases hb1:x.n < 0
        ·clear c1 c2 c3 c4
         go_wp2
         go_ret
         exact Hbad.out _ (by rw[HE.out];exact I0 (.inl hb1)) (HB.out.alloc hz _)
        ·by_cases hb2:m≤x.n
         ·clear c1 c2 c3 c4
          go_wp2
          go_ret
          exact Hbad.out _ (by rw[HE.out];exact I0 (.inr hb2)) (HB.out.alloc hz _)
         ·clear c1 c2 c3 c4
          go_wp2
          go_roundw
          case rel=>exact⟨k+1,by go_num,by omega,Hrel.out (by rw[HE.out];exact Sm (by omega)),HB.out.alloc hz _⟩
          case measure=>simp[intOf];omega
      ·have d4:(x.op==4)=false:=I9 c4
       have HE:=Lib.hid (show Ei regs own locs x=true by simp[Ei,c1,c2,c3,c4])
       clear c1 c2 c3 c4
       go_wp2
       go_roundw
       case rel=>exact⟨k+1,by go_num,by omega,Hrel.out HE.out,HB.out.alloc hz _⟩
       case measure=>simp[intOf];omega
  ·have HG:=Lib.hid (X2 (regs:=regs) (own:=own) (locs:=locs) (l:=l) (fun j hj=>Hall.out j hj (by omega)))
   go_wp2_with fail
   refine(Afx l _ _ (HV.out.mono Cf HB.out)).mono ?_
   rintro e w' ⟨rfl,hb2⟩
   have HB2:=Lib.hid (HB.out.trans (hb2.mono hz));clear hb2
   go_wp2
   go_ret
   exact⟨by rw[HG.out];rfl,HB2.out⟩
set_option maxHeartbeats 400000 in
theorem Vs (has:Bool) (n m:Int) (w:World):Calls Try.prog 46 #[.bool has,.int .i64 n,.int .i64 m] w fun e w'=>e=.returned (.bool (Ag has n m))∧w=w':=by
 cases has
 all_goals
  go_enter Try.func46,Try.ntmps46
  go_wp2
  all_goals
   go_ret
   refine⟨congrArg (fun b=>Ending.returned (.bool b)) ?_,rfl⟩
   rw[Bool.eq_iff_iff]
   simp[Ag,inB]
   try omega
set_option maxHeartbeats 400000 in
theorem Ag4 (x:Aj) (ve vf:Value) (w:World) (he:Sl rOp w ve x.e) (hf:Sl rOp w vf x.f) :
 Calls Try.prog 30 #[.agg #[.int .i64 x.op,.int .i64 x.reg,.int .i64 x.loc,ve,vf,.bool x.ne,.int .i64 x.goal]] w fun e w'=>e=.returned (.bool (Kz x))∧Below w.heap.size w w':=by
 have hl1:=he.len
 have hl2:=hf.len
 obtain⟨a,c,rfl,_⟩:=Bq he
 obtain⟨a2,c2,rfl,_⟩:=Bq hf
 clear he hf
 obtain⟨op,reg,loc,le,lf,ne,goal⟩:=x
 cases ne
 all_goals
  go_enter Try.func30,Try.ntmps30
  go_wp2
  all_goals
   go_ret
   refine⟨congrArg (fun b=>Ending.returned (.bool b)) ?_,(Below.refl _ _).alloc (Nat.le_refl _) _⟩
   rw[Bool.eq_iff_iff]
   simp[Kz,List.isEmpty_iff,← List.length_eq_zero_iff]
   try first | omega | (intros;simp only[Go.RowKit.wrap64];omega)
theorem A42 (W:World) (o o':Obj):({ W.alloc o with heap:=(W.alloc o).heap.setIfInBounds W.heap.size o' }:World)=W.alloc o':=by
 simp only[World.alloc]
 congr 1
 apply Array.ext_getElem?
 intro i
 rw[Array.getElem?_setIfInBounds,Array.getElem?_push,Array.getElem?_push]
 by_cases h:W.heap.size=i
 ·subst h;simp
 ·rw[if_neg h,if_neg (by omega),if_neg (by omega)]
theorem A15 {P:Program} {ops:Array Oper} {rest:List Oper} {o:Oper} {a:Act} {Q:Exit→Act→World→Prop} {w:World} (hg:o.guard=none) (t:TypeId) (hop:o.op=Op.makeMap t none)
 (hK:wpList P ops Q rest (a.put o.dst (.map (some w.heap.size))) (w.alloc (.map #[] 0))):wpList P ops Q (o :: rest) a w:=by
 refine wpList_plain hg fun K' hK'=>?_
 unfold Oper.wp
 simp[execOp,hop,run_makeMap_plain,Result.andThen]
 exact hK' _ _ hK
theorem Cv {P:Program} {ops:Array Oper} {rest:List Oper} {o:Oper} {a:Act} {Q:Exit→Act→World→Prop} {W:World} {es:Array MapEntry} {clock:Nat}
 (hg:o.guard=none) (m x v:Operand) (t:TypeId) (hop:o.op=Op.insert t m x v) (k e:TypeId) (ht:P.underlying t=some (.map k e)) (q:IntKind) (hk:P.underlying k=some (.int q))
 (b:Nat) (hb:b=W.heap.size) (hm:a.eval m=.map (some b)) (n:Int) (val:Value) (hx:a.eval x=.int q n) (hv:a.eval v=val) (hf:Instr.findNow (.int q) (.int q n) es.toList 0=some none)
 (hK:wpList P ops Q rest (a.put o.dst undef) (W.alloc (.map (es.push ⟨.int q n,val,clock⟩) (clock+1)))):wpList P ops Q (o :: rest) a (W.alloc (.map es clock)):=by
 subst hb
 have hb:(W.alloc (.map es clock)).heap[W.heap.size]?=some (.map es clock):=heap_alloc_new W _
 have hi:MapKept.IsKey (.int q) (.int q n):=rfl
 refine wpList_plain hg fun K' hK'=>?_
 unfold Oper.wp
 have hr:(Instr.mapUpdate t (.map (some W.heap.size)) (.int q n) val).run P (W.alloc (.map es clock))=.ok () (W.alloc (.map (es.push ⟨.int q n,val,clock⟩) (clock+1))):=by
  simp only[Instr.mapUpdate,Sem.run_bind,run_underlying ht,MapKept.run_getObj_map hb,MapKept.run_checkKey hk hi,MapKept.run_findKey hk hf,MapKept.run_setObj_map _ hb,Result.andThen,A42]
 simp[execOp,hop,hm,hx,hv,hr,Result.andThen]
 exact hK' _ _ hK
theorem Y2 {P:Program} {ops:Array Oper} {rest:List Oper} {o:Oper} {a:Act} {Q:Exit→Act→World→Prop} {w:World} {es:Array MapEntry} {clock:Nat}
 (hg:o.guard=none) (m x:Operand) (t:TypeId) (hop:o.op=Op.lookup t m x true) (k e:TypeId) (ht:P.underlying t=some (.map k e)) (q:IntKind) (hk:P.underlying k=some (.int q))
 (b:Nat) (hb:w.heap[b]?=some (.map es clock)) (hm:a.eval m=.map (some b)) (n:Int) (hx:a.eval x=.int q n) (z:Value) (hz:(zeroValue e).run P w=.ok z w) (v:Value) (ok:Bool)
 (hf:(∃ i,Instr.findNow (.int q) (.int q n) es.toList 0=some (some (i,v))∧ok=true)∨Instr.findNow (.int q) (.int q n) es.toList 0=some none∧v=z∧ok=false)
 (hK:wpList P ops Q rest (a.put o.dst (.tuple #[v,.bool ok])) w):wpList P ops Q (o :: rest) a w:=by
 have hi:MapKept.IsKey (.int q) (.int q n):=rfl
 refine wpList_plain hg fun K' hK'=>?_
 unfold Oper.wp
 have hr:(Instr.lookup t (.map (some b)) (.int q n) true).run P w=.ok (.tuple #[v,.bool ok]) w:=by
  rcases hf with ⟨i,hf,rfl⟩ | ⟨hf,rfl,rfl⟩
  ·simp[Instr.lookup,run_underlying ht,MapKept.run_getObj_map hb,MapKept.run_checkKey hk hi,MapKept.run_findKey hk hf,Result.andThen]
  ·simp[Instr.lookup,run_underlying ht,MapKept.run_getObj_map hb,MapKept.run_checkKey hk hi,MapKept.run_findKey hk hf,Result.andThen,hz]
 simp[execOp,hop,hm,hx,hr,Result.andThen]
 exact hK' _ _ hK
def Ld:Option W7→Value
 | none=>.agg #[.bool false,.bool false,.bool false,.bool false,.bool false,.bool false]
 | some n=>.agg #[.bool n.reg,.bool n.loc,.bool n.e,.bool n.f,.bool n.ne,.bool n.goal]
def Ln:Array MapEntry:=#[⟨.int .i64 2,.agg #[.bool true,.bool false,.bool true,.bool false,.bool false,.bool false],0⟩,⟨.int .i64 3,.agg #[.bool true,.bool true,.bool false,.bool false,.bool false,.bool false],1⟩,⟨.int .i64 4,.agg #[.bool false,.bool true,.bool true,.bool false,.bool false,.bool false],2⟩,⟨.int .i64 5,.agg #[.bool true,.bool true,.bool true,.bool true,.bool false,.bool false],3⟩,⟨.int .i64 6,.agg #[.bool true,.bool true,.bool true,.bool false,.bool false,.bool false],4⟩,⟨.int .i64 7,.agg #[.bool true,.bool true,.bool true,.bool false,.bool false,.bool false],5⟩,⟨.int .i64 8,.agg #[.bool false,.bool false,.bool false,.bool false,.bool false,.bool false],6⟩,⟨.int .i64 9,.agg #[.bool false,.bool true,.bool true,.bool false,.bool true,.bool false],7⟩,⟨.int .i64 20,.agg #[.bool false,.bool false,.bool false,.bool false,.bool false,.bool true],8⟩,⟨.int .i64 21,.agg #[.bool false,.bool false,.bool true,.bool false,.bool false,.bool true],9⟩]
theorem Aa9 (op:Int):(∃ i,Instr.findNow (.int .i64) (.int .i64 op) Ln.toList 0=some (some (i,Ld (C9 op)))∧(C9 op).isSome=true) ∨
 Instr.findNow (.int .i64) (.int .i64 op) Ln.toList 0=some none∧Ld (C9 op)=Ld none∧(C9 op).isSome=false:=by
 by_cases h:op=2∨op=3∨op=4∨op=5∨op=6∨op=7∨op=8∨op=9∨op=20∨op=21
 ·left
  rcases h with rfl | rfl | rfl | rfl | rfl | rfl | rfl | rfl | rfl | rfl
  all_goals exact⟨_,rfl,rfl⟩
 ·right
  have hn:C9 op=none:=by
   simp only[C9]
   repeat rw[if_neg (by omega)]
  refine⟨?_,by rw[hn],by rw[hn];rfl⟩
  rcases MapKept.findNow_spec (d:=.int .i64) (k:=.int .i64 op) rfl Ln.toList 0 (by
   intro x hx
   simp only[Ln,List.mem_cons,List.not_mem_nil,or_false] at hx
   rcases hx with rfl | rfl | rfl | rfl | rfl | rfl | rfl | rfl | rfl | rfl
   all_goals rfl) with ⟨h1,_⟩ | ⟨j,e,_,h2,h3⟩
  ·exact h1
  ·exfalso
   have hm:=List.mem_of_getElem? h2
   simp only[Ln,List.mem_cons,List.not_mem_nil,or_false] at hm
   rcases hm with rfl | rfl | rfl | rfl | rfl | rfl | rfl | rfl | rfl | rfl
   all_goals
    simp only[Value.int.injEq,true_and] at h3
    omega
theorem A1e (n:Option W7):∃ b1 b2 b3 b4 b5 b6:Bool,Ld n=.agg #[.bool b1,.bool b2,.bool b3,.bool b4,.bool b5,.bool b6]:=by
 cases n
 all_goals exact⟨_,_,_,_,_,_,rfl⟩
def Ae3 (op:Int) (w:World) (e:Ending) (w':World):Prop:=e=.returned (.tuple #[Ld (C9 op),.bool (C9 op).isSome])∧Below w.heap.size w w'
set_option maxRecDepth 100000 in
set_option maxHeartbeats 4000000 in
theorem A26 (op:Int) (w:World):Calls Try.prog 43 #[.int .i64 op] w (Ae3 op w):=by
 go_enter Try.func43,Try.ntmps43
 go_upto_region 1 with (fail)
 go_step
 refine A15 rfl _ rfl ?_
 iterate 3 go_step
 refine Cv (W:=w.alloc _) rfl _ _ _ _ rfl _ _ Try.underlying104 _ Try.underlying3 (w.heap.size+1) (by simp) ?hm 2 (.agg #[.bool true,.bool false,.bool true,.bool false,.bool false,.bool false]) ?hx ?hv ?hf ?_
 case hm=>rfl
 case hx=>rfl
 case hv=>rfl
 case hf=>kernel_rfl
 iterate 3 go_step
 refine Cv (W:=w.alloc _) rfl _ _ _ _ rfl _ _ Try.underlying104 _ Try.underlying3 (w.heap.size+1) (by simp) ?hm 3 (.agg #[.bool true,.bool true,.bool false,.bool false,.bool false,.bool false]) ?hx ?hv ?hf ?_
 case hm=>rfl
 case hx=>rfl
 case hv=>rfl
 case hf=>kernel_rfl
 iterate 3 go_step
 refine Cv (W:=w.alloc _) rfl _ _ _ _ rfl _ _ Try.underlying104 _ Try.underlying3 (w.heap.size+1) (by simp) ?hm 4 (.agg #[.bool false,.bool true,.bool true,.bool false,.bool false,.bool false]) ?hx ?hv ?hf ?_
 case hm=>rfl
 case hx=>rfl
 case hv=>rfl
 case hf=>kernel_rfl
 iterate 3 go_step
 refine Cv (W:=w.alloc _) rfl _ _ _ _ rfl _ _ Try.underlying104 _ Try.underlying3 (w.heap.size+1) (by simp) ?hm 5 (.agg #[.bool true,.bool true,.bool true,.bool true,.bool false,.bool false]) ?hx ?hv ?hf ?_
 case hm=>rfl
 case hx=>rfl
 case hv=>rfl
 case hf=>kernel_rfl
 iterate 3 go_step
 refine Cv (W:=w.alloc _) rfl _ _ _ _ rfl _ _ Try.underlying104 _ Try.underlying3 (w.heap.size+1) (by simp) ?hm 6 (.agg #[.bool true,.bool true,.bool true,.bool false,.bool false,.bool false]) ?hx ?hv ?hf ?_
 case hm=>rfl
 case hx=>rfl
 case hv=>rfl
 case hf=>kernel_rfl
 iterate 3 go_step
 refine Cv (W:=w.alloc _) rfl _ _ _ _ rfl _ _ Try.underlying104 _ Try.underlying3 (w.heap.size+1) (by simp) ?hm 7 (.agg #[.bool true,.bool true,.bool true,.bool false,.bool false,.bool false]) ?hx ?hv ?hf ?_
 case hm=>rfl
 case hx=>rfl
 case hv=>rfl
 case hf=>kernel_rfl
 iterate 3 go_step
 refine Cv (W:=w.alloc _) rfl _ _ _ _ rfl _ _ Try.underlying104 _ Try.underlying3 (w.heap.size+1) (by simp) ?hm 8 (.agg #[.bool false,.bool false,.bool false,.bool false,.bool false,.bool false]) ?hx ?hv ?hf ?_
 case hm=>rfl
 case hx=>rfl
 case hv=>rfl
 case hf=>kernel_rfl
 iterate 3 go_step
 refine Cv (W:=w.alloc _) rfl _ _ _ _ rfl _ _ Try.underlying104 _ Try.underlying3 (w.heap.size+1) (by simp) ?hm 9 (.agg #[.bool false,.bool true,.bool true,.bool false,.bool true,.bool false]) ?hx ?hv ?hf ?_
 case hm=>rfl
 case hx=>rfl
 case hv=>rfl
 case hf=>kernel_rfl
 iterate 3 go_step
 refine Cv (W:=w.alloc _) rfl _ _ _ _ rfl _ _ Try.underlying104 _ Try.underlying3 (w.heap.size+1) (by simp) ?hm 20 (.agg #[.bool false,.bool false,.bool false,.bool false,.bool false,.bool true]) ?hx ?hv ?hf ?_
 case hm=>rfl
 case hx=>rfl
 case hv=>rfl
 case hf=>kernel_rfl
 iterate 3 go_step
 refine Cv (W:=w.alloc _) rfl _ _ _ _ rfl _ _ Try.underlying104 _ Try.underlying3 (w.heap.size+1) (by simp) ?hm 21 (.agg #[.bool false,.bool false,.bool true,.bool false,.bool false,.bool true]) ?hx ?hv ?hf ?_
 case hm=>rfl
 case hx=>rfl
 case hv=>rfl
 case hf=>kernel_rfl
 change wpList _ _ _ _ _ (World.alloc _ (.map Ln 10))
 obtain⟨rows,hrows⟩:∃ r,r=Ln:=⟨_,rfl⟩
 rw[← hrows]
 have hf:=Aa9 op
 rw[← hrows] at hf
 clear hrows
 go_upto_region 2 with (fail)
 iterate 7 go_step
 refine Y2 rfl _ _ _ rfl _ _ Try.underlying104 _ Try.underlying3 (w.heap.size+1) (es:=rows) (clock:=10) ?hb rfl op rfl (Ld none) ?hz (Ld (C9 op)) (C9 op).isSome hf ?_
 case hb =>
  have h:=heap_alloc_new (w.alloc (.cells #[.bool false,.bool false,.bool false,.bool false,.bool false,.bool false] 90)) (.map rows 10)
  rwa [World.size_alloc] at h
 case hz=>kernel_rfl
 obtain⟨b1,b2,b3,b4,b5,b6,hV⟩:=A1e (C9 op)
 have HV:=Lib.hid hV
 rw[hV]
 obtain⟨ok,hok⟩:∃ ok,(C9 op).isSome=ok:=⟨_,rfl⟩
 have HK:=Lib.hid hok
 rw[hok]
 clear hf hV hok
 go_wp2
 refine bodyPost_ret (v:=.tuple #[.agg #[.bool b1,.bool b2,.bool b3,.bool b4,.bool b5,.bool b6],.bool ok]) (by simp[results,Try.results43,go_sem]) rfl ?_
 exact⟨by rw[HV.out,HK.out],by
  refine Below.alloc (Below.alloc (Below.alloc (Below.refl _ _) (Nat.le_refl _) _) ?_ _) ?_ _
  all_goals simp only[World.size_alloc]
  all_goals omega⟩
def C5 (b:Bool) (w:World) (e:Ending) (w':World):Prop:=e=.returned (.bool b)∧Below w.heap.size w w'
set_option maxRecDepth 100000 in
set_option maxHeartbeats 1000000 in
theorem A2c (has:Bool) (l:List OpS) (regs:Int) (b:Nat) (v:Value) (w:World) (hv:Sl rOp w v l) (hc:w.cell? ⟨b,0,none⟩=some (.int .i64 regs)) :
 Calls Try.prog 44 #[.bool has,v,.pointer (some ⟨b,0,none⟩)] w (C5 (Br has l regs) w):=by
 have hl:=hv.len
 have HV:=Lib.hid hv
 obtain⟨a,c,rfl,_⟩:=Bq hv
 clear hv
 cases has
 ·go_enter Try.func44,Try.ntmps44
  go_wp2
  all_goals
   go_ret
   refine⟨congrArg (fun b=>Ending.returned (.bool b)) ?_,Below.refl _ _⟩
   rw[Bool.eq_iff_iff]
   simp[Br,List.isEmpty_iff,← List.length_eq_zero_iff]
   try omega
 ·go_enter Try.func44,Try.ntmps44
  go_wp2_with fail
  refine(Aab l [] regs 0 _ _ _ HV.out (Sl.nil _ _)).mono ?_
  rintro e w1 ⟨rfl,hb⟩
  go_wp2
  all_goals
   go_ret
   refine⟨congrArg (fun b=>Ending.returned (.bool b)) ?_,hb⟩
   simp[Br, *]
def Ajk (n:W7) (w:World) (e:Ending) (w':World):Prop:=e=.returned (.tuple #[.agg #[.bool n.reg,.bool n.loc,.bool n.e,.bool n.f,.bool n.ne,.bool n.goal],.bool true])∧Below w.heap.size w w'
def Ag1 (w:World) (e:Ending) (w':World):Prop:=e=.returned (.tuple #[.agg #[.bool false,.bool false,.bool false,.bool false,.bool false,.bool false],.bool false])∧Below w.heap.size w w'
theorem Z0 (op:Int) (n:W7) (w:World) (h:C9 op=some n):Calls Try.prog 43 #[.int .i64 op] w (Ajk n w) :=
 (A26 op w).mono fun e w' ⟨he,hb⟩=>⟨by rw[he,h];rfl,hb⟩
theorem A9x (op:Int) (w:World) (h:C9 op=none):Calls Try.prog 43 #[.int .i64 op] w (Ag1 w) :=
 (A26 op w).mono fun e w' ⟨he,hb⟩=>⟨by rw[he,h];rfl,hb⟩
theorem Ug {w w1:World} {cs ds:Array Value} {E F:TypeId} (hb:Below ((w.alloc (.cells cs E)).alloc (.cells ds F)).heap.size ((w.alloc (.cells cs E)).alloc (.cells ds F)) w1) :
 (∀ k u,cs[k]?=some u→w1.cell? ⟨w.heap.size,k,none⟩=some u)∧(∀ k u,ds[k]?=some u→w1.cell? ⟨w.heap.size+1,k,none⟩=some u)∧w.heap.size+2≤w1.heap.size∧Below w.heap.size w w1:=by
 have hz:=hb.size
 simp only[World.size_alloc] at hz
 have hc:=(R4 hb).1
 have h1:=heap_alloc_new w (.cells cs E)
 have h2:=heap_alloc_new (w.alloc (.cells cs E)) (.cells ds F)
 refine⟨fun k u hu=>?_,fun k u hu=>?_,by omega,?_⟩
 ·rw[hc _ _ (by simp only[World.size_alloc];omega)]
  simp[hu]
 ·rw[hc _ _ (by simp only[World.size_alloc];omega)]
  simp[hu]
 ·refine Below.trans (b:=(w.alloc (.cells cs E)).alloc (.cells ds F)) ?_ ?_
  ·exact((Below.refl _ _).alloc (Nat.le_refl _) _).alloc (by simp) _
  ·exact hb.mono (by simp only[World.size_alloc];omega)
theorem A22 {w1:World} {o:Obj} {b k:Nat} {u:Value} (h:w1.cell? ⟨b,k,none⟩=some u) (hb:b < w1.heap.size):(w1.alloc o).cell? ⟨b,k,none⟩=some u :=
 (((Below.refl w1.heap.size w1).alloc (Nat.le_refl _) o).cell (p:=⟨b,k,none⟩) hb).trans h
theorem C2 (w1:World) (cs:Array Value) (E:TypeId) (k:Nat) (u:Value) (h:cs[k]?=some u):(w1.alloc (.cells cs E)).cell? ⟨w1.heap.size,k,none⟩=some u:=by simp[h]
set_option maxRecDepth 100000 in
set_option maxHeartbeats 4000000 in
theorem Afl (op reg loc:Int) (le lf:List OpS) (ne:Bool) (goal:Int) (ve vf:Value) (regs locs many:Int) (w:World) (he:Sl rOp w ve le) (hf:Sl rOp w vf lf) :
 Calls Try.prog 31 #[.agg #[.int .i64 op,.int .i64 reg,.int .i64 loc,ve,vf,.bool ne,.int .i64 goal],.int .i64 regs,.int .i64 locs,.int .i64 many] w (C5 (Bj regs locs many ⟨op,reg,loc,le,lf,ne,goal⟩) w):=by
 have HE:=Lib.hid he;have HF:=Lib.hid hf;clear he hf
 obtain⟨res,hres⟩:∃ r,Bj regs locs many ⟨op,reg,loc,le,lf,ne,goal⟩=r:=⟨_,rfl⟩
 have HR:=Lib.hid hres
 rw[hres]
 clear hres
 cases hn:C9 op with
 | none =>
  have HN:=Lib.hid hn;clear hn
  go_enter Try.func31,Try.ntmps31
  go_wp2_with fail
  refine(A9x op _ HN.out).mono ?_
  rintro e w1 ⟨rfl,hb⟩
  obtain⟨_,_,hz,hb2⟩:=Ug hb
  have HB:=Lib.hid hb2
  clear hb hb2
  go_wp2
  go_ret
  exact⟨by rw[← HR.out];simp[Bj,HN.out],HB.out.alloc (by omega) _⟩
 | some n =>
  obtain⟨nr,nl,n1,n2,nn,ng⟩:=n
  have HN:=Lib.hid hn;clear hn
  by_cases hne:ne=true∧nn=false
  ·obtain⟨rfl,rfl⟩:=hne
   go_enter Try.func31,Try.ntmps31
   go_wp2_with fail
   refine(Z0 op _ _ HN.out).mono ?_
   rintro e w1 ⟨rfl,hb⟩
   obtain⟨hx,_,hz,hb2⟩:=Ug hb
   have HB:=Lib.hid hb2
   have y5:=hx 5 _ rfl
   have k1:w.heap.size < w1.heap.size:=by omega
   clear hb hb2 hx
   go_wp2
   go_ret
   exact⟨by rw[← HR.out];simp[Bj,HN.out],HB.out.alloc (by omega) _⟩
  ·have hcs:(ne=false)∨(ne=true∧(!nn)=false):=by cases ne<;>cases nn<;>simp_all
   clear hne
   rcases hcs with hne | ⟨hne,hnn⟩
   all_goals
    go_enter Try.func31,Try.ntmps31
    go_wp2_with fail
    refine(Z0 op _ _ HN.out).mono ?_
    rintro e w1 ⟨rfl,hb⟩
    obtain⟨hx,hy,hz,hb2⟩:=Ug hb
    have HB:=Lib.hid hb2
    have y1:=hx 1 _ rfl
    have y2:=hx 2 _ rfl
    have y3:=hx 3 _ rfl
    have y4:=hx 4 _ rfl
    have y5:=hx 5 _ rfl
    have y6:=hx 6 _ rfl
    have z0:=hy 0 _ rfl
    have k1:w.heap.size < w1.heap.size:=by omega
    have k2:w.heap.size+1 < w1.heap.size:=by omega
    clear hb hb2 hx hy
    go_wp2_with fail
    refine(Vs nr reg regs _).mono ?_
    rintro e w2 ⟨rfl,rfl⟩
    cases p1:Ag nr reg regs
    ·go_wp2
     go_ret
     exact⟨by rw[← HR.out];simp[Bj,HN.out,p1],HB.out.alloc (by omega) _⟩
    ·have P1:=Lib.hid p1;clear p1
     go_wp2_with fail
     refine(Vs nl loc locs _).mono ?_
     rintro e w2 ⟨rfl,rfl⟩
     cases p2:Ag nl loc locs
     ·go_wp2
      go_ret
      exact⟨by rw[← HR.out];simp[Bj,HN.out,p2],HB.out.alloc (by omega) _⟩
     ·have P2:=Lib.hid p2;clear p2
      go_wp2_with fail
      refine(Vs ng goal many _).mono ?_
      rintro e w2 ⟨rfl,rfl⟩
      cases p3:Ag ng goal many
      ·go_wp2
       go_ret
       exact⟨by rw[← HR.out];simp[Bj,HN.out,p3],HB.out.alloc (by omega) _⟩
      ·have P3:=Lib.hid p3;clear p3
       go_wp2_with fail
       have hBW:Below w.heap.size w (w1.alloc (.cells #[.bool nr,.bool nl,.bool n1,.bool n2,.bool nn,.bool ng] 90)):=HB.out.alloc (by omega) _
       have q4:=A22 (o:=.cells #[.bool nr,.bool nl,.bool n1,.bool n2,.bool nn,.bool ng] 90) y4 k1
       have q0:=A22 (o:=.cells #[.bool nr,.bool nl,.bool n1,.bool n2,.bool nn,.bool ng] 90) z0 k2
       have q3:=C2 w1 #[.bool nr,.bool nl,.bool n1,.bool n2,.bool nn,.bool ng] 90 3 _ rfl
       have hWs:w1.heap.size < (w1.alloc (.cells #[.bool nr,.bool nl,.bool n1,.bool n2,.bool nn,.bool ng] 90)).heap.size:=by simp
       generalize w1.alloc (.cells #[.bool nr,.bool nl,.bool n1,.bool n2,.bool nn,.bool ng] 90)=W at *
       have HW:=Lib.hid hBW
       clear hBW y1 y2 y3 y4 y5 y6 z0
       refine(A2c n1 le regs _ _ _ (HE.out.mono Cf HW.out) q0).mono ?_
       rintro e w2 ⟨rfl,hb⟩
       have r4:=(hb.cell (p:=⟨w.heap.size,4,none⟩) (by show w.heap.size < _;omega)).trans q4
       have r0:=(hb.cell (p:=⟨w.heap.size+1,0,none⟩) (by show w.heap.size+1 < _;omega)).trans q0
       have r3:=(hb.cell (p:=⟨w1.heap.size,3,none⟩) hWs).trans q3
       have HX:=Lib.hid (HW.out.trans (hb.mono HW.out.size))
       clear hb q4 q0 q3
       cases p4:Br n1 le regs
       ·go_wp2
        go_ret
        exact⟨by rw[← HR.out];simp[Bj,HN.out,P1.out,P2.out,P3.out,p4,hne],HX.out⟩
       ·have P4:=Lib.hid p4;clear p4
        go_wp2_with fail
        refine(A2c n2 lf regs _ _ _ (HF.out.mono Cf HX.out) r0).mono ?_
        rintro e w3 ⟨rfl,hb⟩
        have HY:=Lib.hid (HX.out.trans (hb.mono HX.out.size))
        clear hb
        go_wp2
        go_ret
        exact⟨by rw[← HR.out];cases nn<;>simp_all [Bj,HN.out,P1.out,P2.out,P3.out,P4.out],HY.out⟩
theorem Sl.cap {α:Type} {r:Rd α} {w:World} {a:Option Addr} {n c:Nat} {l:List α} (h:Sl r w (.slice a n c) l):n=l.length∧l.length≤c∧c≤9223372036854775807:=by
 obtain⟨a',c',e,⟨h1,h2,_⟩,_⟩:=h
 simp only[List.cons.injEq,and_true,Value.slice.injEq] at e
 obtain⟨rfl,rfl,rfl⟩:=e
 unfold maxLen at h2
 exact⟨rfl,h1,h2⟩
set_option maxRecDepth 100000 in
set_option maxHeartbeats 4000000 in
theorem Ahm (l:List Aj) (v:Value) (regs locs:Int) (w:World) (hv:Sl L3 w v l) :
 Calls Try.prog 21 #[v,.int .i64 regs,.int .i64 locs] w (C5 (G8 l regs locs) w):=by
 have hl:=hv.len
 obtain⟨a,c,rfl,hc⟩:=Nz hv
 obtain⟨_,hcap,hcap2⟩:=hv.cap
 have HC:=Lib.hid hc;clear hc hv
 by_cases h0:l.length=0
 ·have HR:=Lib.hid (P5 (l:=l) (regs:=regs) (locs:=locs) (by omega))
  rw[HR.out,h0]
  clear h0
  go_enter Try.func21,Try.ntmps21
  go_wp2
  go_ret
  exact⟨rfl,Below.refl _ _⟩
 by_cases h1:1000 < l.length
 ·have HR:=Lib.hid (P5 (l:=l) (regs:=regs) (locs:=locs) (by omega))
  rw[HR.out]
  go_enter Try.func21,Try.ntmps21
  go_wp2
  go_ret
  exact⟨rfl,Below.refl _ _⟩
 obtain⟨m,hm⟩:∃ m,l.length=m+1:=⟨l.length - 1,by omega⟩
 have HM:=Lib.hid hm
 have hml:m < l.length:=by omega
 have hmm:m≤999:=by omega
 have hlast:∀ h:l.length - 1 < l.length,l[l.length - 1]'h=l[m]'hml:=fun _=>by congr 1;omega
 obtain⟨b,off,ve,vf,rfl,x0,x1,x2,x3,x4,x5,x6,s1,s2,bd⟩:=HC.out m hml
 clear bd
 obtain⟨x,hx⟩:∃ x,l[m]'hml=x:=⟨_,rfl⟩
 rw[hx] at x0 x1 x2 x5 x6 s1 s2
 have HL:Hid (∀ h:l.length - 1 < l.length,l[l.length - 1]'h=x):=fun h=>(hlast h).trans hx
 clear hlast hx h0 h1
 rw[hm]
 clear hm
 have S1:=Lib.hid s1;have S2:=Lib.hid s2;clear s1 s2
 go_enter Try.func21,Try.ntmps21
 go_wp2_with fail
 refine(Ag4 x ve vf _ S1.out S2.out).mono ?_
 rintro e w1 ⟨rfl,hb⟩
 have HB:=Lib.hid hb
 clear hb x0 x1 x2 x3 x4 x5 x6
 cases hd:Kz x
 ·have HN:=Lib.hid (show G8 l regs locs=false from Zp (by have:=HM.out;omega) (by rw[HL.out (by have:=HM.out;omega)];exact hd))
  clear hd
  go_wp2
  go_ret
  exact⟨by rw[HN.out];rfl,HB.out⟩
 ·have HD:=Lib.hid hd;clear hd
  go_wp2
  go_loopw [31] (fun i wr=>∃ k:Nat,i=.int .i64 k∧k≤m∧(∀ j (h:j < l.length),j < k→Bj regs locs l.length l[j]=true)∧Below w.heap.size w wr) (fun i _=>m - (intOf i).toNat)
  case atStart=>exact⟨0,rfl,by omega,fun j _ h=>absurd h (by omega),HB.out⟩
  case round =>
   obtain⟨k,rfl,hk,hall,hb⟩:=hrel
   have Hall:=Lib.hid hall;have HW:=Lib.hid hb
   have hz:=hb.size
   clear hall hb
   by_cases hlt:k < m
   ·obtain⟨b2,o2,ve,vf,he,y0,y1,y2,y3,y4,y5,y6,s1,s2,_⟩:=HC.out k (by have:=HM.out;omega)
    simp only[Option.some.injEq,Addr.mk.injEq,and_true] at he
    obtain⟨rfl,rfl⟩:=he
    have z0:=cell_later HW.out y0;have z1:=cell_later HW.out y1;have z2:=cell_later HW.out y2;have z3:=cell_later HW.out y3
    have z4:=cell_later HW.out y4;have z5:=cell_later HW.out y5;have z6:=cell_later HW.out y6
    clear y0 y1 y2 y3 y4 y5 y6
    have hkl:k < l.length:=by have:=HM.out;omega
    obtain⟨y,hy⟩:∃ y,l[k]'hkl=y:=⟨_,rfl⟩
    rw[hy] at z0 z1 z2 z5 z6 s1 s2
    have HY:=Lib.hid hy;clear hy
    obtain⟨op,reg,loc,le,lf,ne,goal⟩:=y
    dsimp only at z0 z1 z2 z5 z6 s1 s2
    obtain⟨ae,ce,rfl,_⟩:=Bq s1
    obtain⟨af,cf,rfl,_⟩:=Bq s2
    have S3:=Lib.hid (s1.mono Cf HW.out);have S4:=Lib.hid (s2.mono Cf HW.out);clear s1 s2
    go_wp2_with fail
    refine(Afl op reg loc le lf ne goal _ _ regs locs _ _ (S3.out.mono Cf ((Below.refl _ _).alloc (Nat.le_refl _) _)) (S4.out.mono Cf ((Below.refl _ _).alloc (Nat.le_refl _) _))).mono ?_
    rintro e w2 ⟨rfl,hb⟩
    have HX:=Lib.hid ((HW.out.alloc hz _).trans (hb.mono (by simp only[World.size_alloc];omega)))
    clear hb
    cases hf:Bj regs locs ((m:Int)+1) ⟨op,reg,loc,le,lf,ne,goal⟩
    ·have HN:=Lib.hid (show G8 l regs locs=false from A1u (k:=k) (by have:=HM.out;omega) (by rw[HY.out,HM.out];exact hf))
     clear hf z0 z1 z2 z3 z4 z5 z6
     go_wp2
     go_ret
     exact⟨by rw[HN.out];rfl,HX.out⟩
    ·have HF:=Lib.hid hf
     clear hf z0 z1 z2 z3 z4 z5 z6
     go_wp2
     go_roundw
     case rel=>exact⟨k+1,by go_num,by omega,fun j h2 h3=>by
      rcases Nat.lt_or_ge j k with h | h
      ·exact Hall.out j h2 h
      ·obtain rfl:j=k:=by omega
       rw[HY.out,HM.out];exact HF.out,HX.out⟩
     case measure=>simp[intOf];omega
   ·have HG:=Lib.hid (show G8 l regs locs=true from Zv (by have:=HM.out;omega) (by have:=HM.out;omega) (by rw[HL.out (by have:=HM.out;omega)];exact HD.out) (fun j hj=>Hall.out j (by omega) (by have:=HM.out;omega)))
    go_wp2
    go_ret
    exact⟨by rw[HG.out];rfl,HW.out⟩
structure Later (w:World) where
 world:World
 below:Below w.heap.size w world
def Later.self (w:World):Later w:=⟨w,Below.refl _ _⟩
instance (w:World):Nonempty (Later w):=⟨Later.self w⟩
theorem Later.cell {w:World} {p:Addr} {v:Value} (h:w.cell? p=some v):∀ s:Later w,s.world.cell? p=some v:=fun s=>cell_later s.below h
theorem Je {P:Program} {id:Nat} {Q:Exit→Act→World→Prop} {a:Act} {w:World} {l:List Oper} (hm:P.follows .mixedOrders=true) (hB:Region.lexB .any l.toArray=true)
 (h:wpQuiet P l.toArray (fun w'=>∃ s:Later w,w'=s.world) (fun a=>∀ w',(∃ s:Later w,w'=s.world)→Q .normal a w') l a):(Code.region id l.toArray true).wp P Q a w :=
 wp_region_quiet (C:=fun w'=>∃ s:Later w,w'=s.world) hm hB ⟨⟨w.drew,(Below.refl _ _).drew⟩,rfl⟩ (by simpa using h)
theorem Calls.later {P:Program} {f:FuncId} {args:Array Value} {w:World} {s:Later w} {v:Value} {Post:Ending→World→Prop} (h:Calls P f args s.world Post) (hp:∀ e w',Post e w'→e=.returned v∧Below s.world.heap.size s.world w') :
 Calls P f args s.world fun e w''=>e=.returned v∧∃ t:Later w,w''=t.world :=
 h.mono fun e w'' hpost=>⟨(hp e w'' hpost).1,⟨w'',s.below.trans ((hp e w'' hpost).2.mono s.below.size)⟩,rfl⟩
theorem Mg {P:Program} {ops:Array Oper} {C:World→Prop} {Q:Exit→Act→World→Prop} {Q':Act→Prop} (hQ:∀ a,Q' a→∀ w',C w'→Q .normal a w'):∀ (l:List Oper) (a:Act) (w:World),C w→wpQuiet P ops C Q' l a→wpList P ops Q l a w
 | [],a,w,hw,h=>hQ a h w hw
 | o :: rest,a,w,hw,h=>by
  unfold wpQuiet at h
  unfold wpList
  split
  ·rename_i hwt
   rw[if_pos hwt] at h
   exact .inl (Oper.wp_of_quiet hw (fun a' w' hw' h'=>Mg hQ rest a' w' hw' h') h)
  ·rename_i hwt
   rw[if_neg hwt] at h
   exact Mg hQ rest _ w hw h
theorem Yd {P:Program} {id:Nat} {Q:Exit→Act→World→Prop} {a:Act} {w:World} {l:List Oper}
 (h:wpQuiet P l.toArray (fun w'=>∃ s:Later w,w'=s.world) (fun a=>∀ w',(∃ s:Later w,w'=s.world)→Q .normal a w') l a):(Code.region id l.toArray false).wp P Q a w :=
 wp_region_lit (Mg (fun _ h=>h) l a w ⟨Later.self w,rfl⟩ h)
theorem A58 {a b:Nat} (h:((a:Int) != (b:Int))=false):a=b:=by simp only[bne_eq_false_iff_eq] at h;omega
theorem A2f {u:Ac} (h:Ho u=false) (h1:2≤u.mod) (h2:u.mod≤16) (h3:u.init.length≤6) (h4:1≤u.regs.length) (h5:u.regs.length≤4) (h6:u.code.length=u.regs.length):False:=by
 simp only[Ho,decide_eq_false_iff_not] at h
 omega
set_option maxRecDepth 100000 in
set_option maxHeartbeats 4000000 in
theorem A35 (u:Ac) (v:Value) (w:World) (hv:UnitV w v u) (hh:Ho u=false) :
 Calls Try.prog 11 #[v] w (C5 false w):=by
 obtain⟨vi,vr,vc,rfl,s1,s2,s3,m1,m2⟩:=hv
 have l1:=s1.len;have l2:=s2.len;have l3:=s3.len
 obtain⟨a1,c1,rfl,h1⟩:=C6 s1
 obtain⟨a2,c2,rfl,h2⟩:=C6 s2
 obtain⟨a3,c3,rfl,h3⟩:=Eh s3
 clear s1 s2 s3 h1 h2 h3
 have HH:Hid (2≤u.mod→u.mod≤16→u.init.length≤6→1≤u.regs.length→u.regs.length≤4→u.code.length=u.regs.length→False):=A2f hh
 clear hh
 obtain⟨mod,init,regs,code⟩:=u
 dsimp only at *
 generalize init.length=n1 at *
 generalize regs.length=n2 at *
 generalize code.length=n3 at *
 go_enter Try.func11,Try.ntmps11
 go_wp2
 all_goals
  first
  | (go_ret;exact⟨rfl,(Below.refl _ _).alloc (Nat.le_refl _) _⟩)
  | (exfalso;exact HH.out (by omega) (by omega) (by omega) (by omega) (by omega) (by first | omega | exact A58 (by first | assumption | exact(by assumption:_∧((n3:Int) != (n2:Int))=false).2)))
set_option maxRecDepth 100000 in
set_option maxHeartbeats 8000000 in
theorem A32 (u:Ac) (v:Value) (w:World) (hv:UnitV w v u) (hh:Ho u=true) :
 Calls Try.prog 11 #[v] w (C5 (Ax u) w):=by
 obtain⟨vi,vr,vc,rfl,s1,s2,s3,m1,m2⟩:=hv
 have l1:=s1.len;have l2:=s2.len;have l3:=s3.len
 obtain⟨a1,c1,rfl,h1⟩:=C6 s1
 obtain⟨a2,c2,rfl,h2⟩:=C6 s2
 obtain⟨a3,c3,rfl,h3⟩:=Eh s3
 have H1:=Lib.hid h1;have H2:=Lib.hid h2;have H3:=Lib.hid h3
 clear s1 s2 s3 h1 h2 h3
 have HH:=Lib.hid hh
 simp only[Ho,A9] at hh
 obtain⟨g1,g2,g3,g4,g5,g6⟩:=hh
 have HU:=Lib.hid (Eq.refl (Ax u))
 obtain⟨res,hres⟩:∃ r,Ax u=r:=⟨_,rfl⟩
 have HR:=Lib.hid hres
 rw[hres]
 clear hres
 obtain⟨mod,init,regs,code⟩:=u
 dsimp only at *
 obtain⟨n1,hn1⟩:∃ n,init.length=n:=⟨_,rfl⟩
 obtain⟨n2,hn2⟩:∃ n,regs.length=n:=⟨_,rfl⟩
 rw[hn1] at g3 ⊢
 rw[hn2] at g4 g5 g6 ⊢
 rw[g6]
 have N1:=Lib.hid hn1;have N2:=Lib.hid hn2;have N3:=Lib.hid g6
 clear hn1 hn2 g6 l1 l2 l3
 have d0:((n2:Int)==0)=false:=I9 (by omega)
 go_enter Try.func11,Try.ntmps11
 go_wp2
 go_loop [45] (fun i=>∃ k:Nat,i=.int .i64 k∧k≤n1∧∀ j (h:j < init.length),j < k→inB init[j] mod=true) (fun i=>n1 - (intOf i).toNat)
 case atStart=>exact⟨0,rfl,by omega,fun j _ h=>absurd h (by omega)⟩
 case round =>
  obtain⟨k,rfl,hk,hall⟩:=hrel
  have Hall:=Lib.hid hall;clear hall
  by_cases hlt:k < n1
  ·have hki:k < init.length:=by have:=N1.out;omega
   obtain⟨b,o,rfl,x1,_,_⟩:=H1.out k hki
   obtain⟨x,hx⟩:∃ x,init[k]'hki=x:=⟨_,rfl⟩
   rw[hx] at x1
   have HX:=Lib.hid hx;clear hx
   have hbl:b < w.heap.size:=World.block_lt_of_cell? _ _ x1
   have hbn:b≠w.heap.size:=by omega
   by_cases c1:x < 0
   ·have HN:=Lib.hid (show res=false by rw[← HR.out];exact Ru (Ui hki (by show inB (init[k]'hki) mod=false;rw[HX.out];exact I0 (.inl c1))))
    go_wp2
    go_ret
    exact⟨by rw[HN.out];rfl,(Below.refl _ _).alloc (Nat.le_refl _) _⟩
   ·by_cases c2:mod≤x
    ·have HN:=Lib.hid (show res=false by rw[← HR.out];exact Ru (Ui hki (by show inB (init[k]'hki) mod=false;rw[HX.out];exact I0 (.inr c2))))
     go_wp2
     go_ret
     exact⟨by rw[HN.out];rfl,(Below.refl _ _).alloc (Nat.le_refl _) _⟩
    ·go_wp2
     go_round
     case rel=>exact⟨k+1,by go_num,by omega,fun j h2 h3=>by
      rcases Nat.lt_or_ge j k with h | h
      ·exact Hall.out j h2 h
      ·obtain rfl:j=k:=by omega
       rw[HX.out];exact Sm (by omega)⟩
     case measure=>simp[intOf];omega
  ·have HI:=Lib.hid (show Ji init mod=true from Yq fun j hj=>Hall.out j hj (by have:=N1.out;omega))
   clear Hall
   go_wp2_with fail
   have hBW:Below w.heap.size w (w.alloc (.cells #[.int .i64 mod,.slice a1 n1 c1,.slice a2 n2 c2,.slice a3 n2 c3] 25)):=(Below.refl _ _).alloc (Nat.le_refl _) _
   have q1:=C2 w #[.int .i64 mod,.slice a1 n1 c1,.slice a2 n2 c2,.slice a3 n2 c3] 25 1 _ rfl
   have q2:=C2 w #[.int .i64 mod,.slice a1 n1 c1,.slice a2 n2 c2,.slice a3 n2 c3] 25 2 _ rfl
   have q3:=C2 w #[.int .i64 mod,.slice a1 n1 c1,.slice a2 n2 c2,.slice a3 n2 c3] 25 3 _ rfl
   have hWs:w.heap.size < (w.alloc (.cells #[.int .i64 mod,.slice a1 n1 c1,.slice a2 n2 c2,.slice a3 n2 c3] 25)).heap.size:=by simp
   generalize w.alloc (.cells #[.int .i64 mod,.slice a1 n1 c1,.slice a2 n2 c2,.slice a3 n2 c3] 25)=W at *
   have HW:=Lib.hid hBW
   clear hBW
   go_loopw [61] (fun i wr=>∃ k:Nat,i=.int .i64 k∧k≤n2∧(∀ j,j < regs.length→j < k→Er ⟨mod,init,regs,code⟩ j=true)∧Below W.heap.size W wr) (fun i _=>n2 - (intOf i).toNat)
   case atStart=>exact⟨0,rfl,by omega,fun j _ h=>absurd h (by omega),Below.refl _ _⟩
   case round =>
    obtain⟨k,rfl,hk,hall,hb⟩:=hrel
    have Hall:=Lib.hid hall;have HB:=Lib.hid hb
    have hz:=hb.size
    clear hall hb
    by_cases hlt:k < n2
    ·have hkr:k < regs.length:=by have:=N2.out;omega
     have hkc:k < code.length:=by have:=N3.out;omega
     obtain⟨b,o,rfl,x1,_,_⟩:=H2.out k hkr
     obtain⟨b3,o3,vr,rfl,x3,sr⟩:=H3.out k hkc
     obtain⟨x,hx⟩:∃ x,regs[k]'hkr=x:=⟨_,rfl⟩
     obtain⟨row,hrow⟩:∃ r,code[k]'hkc=r:=⟨_,rfl⟩
     rw[hx] at x1
     rw[hrow] at sr
     have HT:=Lib.hid (show Er ⟨mod,init,regs,code⟩ k=(decide (0≤x∧x≤6)&&G8 row x n1) by rw[Kr (u:=⟨mod,init,regs,code⟩) hkr hkc,hx,hrow,N1.out])
     clear hx hrow
     have y1:=cell_later HB.out (cell_later HW.out x1)
     have y3:=cell_later HB.out (cell_later HW.out x3)
     have z1:=cell_later HB.out q2
     have z1':=cell_later HB.out q1
     have z3:=cell_later HB.out q3
     have SR:=Lib.hid ((sr.mono P0 HW.out).mono P0 HB.out)
     clear x1 x3 sr
     have Hbad:Hid (Er ⟨mod,init,regs,code⟩ k=false→res=false):=fun h=>by rw[← HR.out];exact Zl (u:=⟨mod,init,regs,code⟩) hkr h
     by_cases c1:x < 0
     ·have HN:=Lib.hid (Hbad.out (by rw[HT.out,decide_eq_false (by omega),Bool.false_and]))
      go_wp2_with fail
      refine Je (by kernel_rfl) (by kernel_rfl) ?_
      repeat (go_big_quiet_step (fail))
      refine wpQuiet_nil ?_
      rintro w2 ⟨⟨w3,hb3⟩,rfl⟩
      have HB3:=Lib.hid (HB.out.trans (hb3.mono hz));clear hb3
      go_wp2_with fail
      go_ret
      exact⟨by rw[HN.out];rfl,HW.out.trans (HB3.out.mono (by omega))⟩
     ·have d1:decide (x < 0)=false:=decide_eq_false c1
      by_cases c2:6 < x
      ·have HN:=Lib.hid (Hbad.out (by rw[HT.out,decide_eq_false (by omega),Bool.false_and]))
       go_wp2_with fail
       refine Je (by kernel_rfl) (by kernel_rfl) ?_
       repeat (go_big_quiet_step (fail))
       refine wpQuiet_nil ?_
       rintro w2 ⟨⟨w3,hb3⟩,rfl⟩
       have HB3:=Lib.hid (HB.out.trans (hb3.mono hz));clear hb3
       go_wp2_with fail
       go_ret
       exact⟨by rw[HN.out];rfl,HW.out.trans (HB3.out.mono (by omega))⟩
      ·have d2:decide (6 < x)=false:=decide_eq_false c2
       go_wp2_with fail
       have e1:=Later.cell z1'
       have e3:=Later.cell z3
       have e4:=Later.cell y3
       refine Je (by kernel_rfl) (by kernel_rfl) ?_
       repeat (go_big_quiet_step ((go_at_call 21;exact Calls.later (Ahm row vr x n1 _ (SR.out.mono P0 (Later.below _))) (fun _ _ h=>h))))
       refine wpQuiet_nil ?_
       rintro w2 ⟨⟨w3,hb3⟩,rfl⟩
       clear e1 e3 e4
       have HB3:=Lib.hid (HB.out.trans (hb3.mono hz));clear hb3
       cases hr:G8 row x n1
       ·have HN:=Lib.hid (Hbad.out (by rw[HT.out,hr,Bool.and_false]))
        clear hr
        go_wp2_with fail
        go_ret
        exact⟨by rw[HN.out];rfl,HW.out.trans (HB3.out.mono (by omega))⟩
       ·have HO:=Lib.hid (show Er ⟨mod,init,regs,code⟩ k=true by rw[HT.out,hr,decide_eq_true (by omega)];rfl)
        clear hr
        go_wp2_with fail
        go_roundw
        case rel=>exact⟨k+1,by go_num,by omega,fun j h2 h3=>by
         rcases Nat.lt_or_ge j k with h | h
         ·exact Hall.out j h2 h
         ·obtain rfl:j=k:=by omega
          exact HO.out,HB3.out⟩
        case measure=>simp[intOf];omega
    ·have HG:=Lib.hid (show res=true by rw[← HR.out];exact Xe (u:=⟨mod,init,regs,code⟩) HH.out HI.out (fun j hj=>Hall.out j hj (by have:=N2.out;dsimp only at hj;omega)))
     go_wp2
     go_ret
     exact⟨by rw[HG.out];rfl,HW.out.trans (HB.out.mono (by omega))⟩
theorem A4k (u:Ac) (v:Value) (w:World) (hv:UnitV w v u):Calls Try.prog 11 #[v] w (C5 (Ax u) w):=by
 cases hh:Ho u
 ·rw[Xb hh];exact A35 u v w hv hh
 ·exact A32 u v w hv hh
set_option maxHeartbeats 400000 in
theorem Ar (a b:Int) (w:World):Calls Try.prog 50 #[.int .i64 a,.int .i64 b] w fun e w'=>e=.returned (.bool (inB a b))∧w=w':=by
 go_enter Try.func50,Try.ntmps50
 go_wp2
 all_goals
  go_ret
  refine⟨congrArg (fun b=>Ending.returned (.bool b)) ?_,rfl⟩
  rw[Bool.eq_iff_iff]
  simp[inB]
  try omega
def A1m (s:ByteArray) (c:Int):Bool:=s.data.toList.any fun b=>(b.toNat:Int)==c
theorem Agj {s:ByteArray} {c:Int} {k:Nat} (hk:k < s.size) (h:(s[k].toNat:Int)=c):A1m s c=true:=by
 simp only[A1m,List.any_eq_true]
 exact⟨s[k],by rw[Array.mem_toList_iff];exact Array.getElem_mem hk,by simpa using h⟩
theorem Ah4 {s:ByteArray} {c:Int} (h:∀ k (hk:k < s.size),(s[k].toNat:Int)≠c):A1m s c=false:=by
 rw[Bool.eq_false_iff]
 intro e
 simp only[A1m,List.any_eq_true] at e
 obtain⟨x,hx,hc⟩:=e
 rw[Array.mem_toList_iff] at hx
 obtain⟨k,hk,rfl⟩:=Array.getElem_of_mem hx
 exact h k hk (by rw[beq_iff_eq] at hc;exact hc)
set_option maxHeartbeats 1000000 in
theorem Ahc (s:ByteArray) (c:Int) (w:World) (hs:s.size≤1000) :
 Calls Try.prog 49 #[.string s,.int .u8 c] w fun e w'=>e=.returned (.bool (A1m s c))∧w=w':=by
 go_enter Try.func49,Try.ntmps49
 go_wp2
 go_loop [5] (fun i=>∃ k:Nat,i=.int .i64 k∧k≤s.size∧∀ j (h:j < s.size),j < k→(s[j].toNat:Int)≠c) (fun i=>s.size - (intOf i).toNat)
 case atStart=>exact⟨0,rfl,by omega,fun j _ h=>absurd h (by omega)⟩
 case round =>
  obtain⟨k,rfl,hk,hall⟩:=hrel
  have Hall:=Lib.hid hall;clear hall
  by_cases hlt:k < s.size
  ·by_cases h1:(s[k].toNat:Int)=c
   ·have HT:=Lib.hid (Agj hlt h1)
    have d1:((s[k].toNat:Int)==c)=true:=by simpa using h1
    clear h1
    go_wp2
    go_ret
    exact⟨by rw[HT.out];rfl,rfl⟩
   ·have H1:=Lib.hid h1
    have d1:((s[k].toNat:Int)==c)=false:=by simpa using h1
    clear h1
    go_wp2
    go_round
    case rel=>exact⟨k+1,by go_num,by omega,fun j h2 h3=>by
     rcases Nat.lt_or_ge j k with h | h
     ·exact Hall.out j h2 h
     ·obtain rfl:j=k:=by omega
      exact H1.out⟩
    case measure=>simp[intOf];omega
  ·have HF:=Lib.hid (Ah4 (s:=s) (c:=c) fun j hj=>Hall.out j hj (by omega))
   go_wp2
   go_ret
   exact⟨by rw[HF.out];rfl,rfl⟩
theorem Ab (s:ByteArray) (c:Int) (b:Bool) (w:World) (hb:A1m s c=b) (hs:s.size≤1000):Calls Try.prog 49 #[.string s,.int .u8 c] w fun e w'=>e=.returned (.bool b)∧w=w':=by
 rw[← hb];exact Ahc s c w hs
theorem Hz {a b c d e f:Bool} (h:e=false):(a&&b&&c&&d&&e&&f)=false:=by rw[h];simp
theorem I1 {a b c d e f:Bool} (h:f=false):(a&&b&&c&&d&&e&&f)=false:=by rw[h];simp
theorem Gk {l:List OpS} {regs:Int} {n:Nat} (h:l.length=n) (hn:0 < n):Br false l regs=false:=by
 cases l with
 | nil=>simp at h;omega
 | cons _ _=>rfl
theorem Fv {l:List OpS} {regs:Int} (h:l.length=0):Br false l regs=true:=by
 rw[List.length_eq_zero_iff.1 h];rfl
def Ig (s:ByteArray) (b:Bool) (w:World) (e:Ending) (w':World):Prop:=e=.returned (.tuple #[.string s,.bool b])∧w=w'
set_option maxHeartbeats 400000 in
theorem N0 (w:World):Calls Try.prog 48 #[.int .i64 2] w (Ig ⟨#[114,101]⟩ true w):=by
 go_enter Try.func48,Try.ntmps48
 go_wp2
 go_ret2
 exact⟨rfl,rfl⟩
set_option maxHeartbeats 400000 in
theorem Po (w:World):Calls Try.prog 48 #[.int .i64 3] w (Ig ⟨#[114,108]⟩ true w):=by
 go_enter Try.func48,Try.ntmps48
 go_wp2
 go_ret2
 exact⟨rfl,rfl⟩
set_option maxHeartbeats 400000 in
theorem Nd (w:World):Calls Try.prog 48 #[.int .i64 4] w (Ig ⟨#[108,101]⟩ true w):=by
 go_enter Try.func48,Try.ntmps48
 go_wp2
 go_ret2
 exact⟨rfl,rfl⟩
set_option maxHeartbeats 400000 in
theorem Ly (w:World):Calls Try.prog 48 #[.int .i64 5] w (Ig ⟨#[114,108,101,102]⟩ true w):=by
 go_enter Try.func48,Try.ntmps48
 go_wp2
 go_ret2
 exact⟨rfl,rfl⟩
set_option maxHeartbeats 400000 in
theorem Nf (w:World):Calls Try.prog 48 #[.int .i64 6] w (Ig ⟨#[114,108,101]⟩ true w):=by
 go_enter Try.func48,Try.ntmps48
 go_wp2
 go_ret2
 exact⟨rfl,rfl⟩
set_option maxHeartbeats 400000 in
theorem Nk (w:World):Calls Try.prog 48 #[.int .i64 7] w (Ig ⟨#[114,108,101]⟩ true w):=by
 go_enter Try.func48,Try.ntmps48
 go_wp2
 go_ret2
 exact⟨rfl,rfl⟩
set_option maxHeartbeats 400000 in
theorem Pp (w:World):Calls Try.prog 48 #[.int .i64 8] w (Ig ⟨#[]⟩ true w):=by
 go_enter Try.func48,Try.ntmps48
 go_wp2
 go_ret2
 exact⟨rfl,rfl⟩
set_option maxHeartbeats 400000 in
theorem N7 (w:World):Calls Try.prog 48 #[.int .i64 9] w (Ig ⟨#[108,101,110]⟩ true w):=by
 go_enter Try.func48,Try.ntmps48
 go_wp2
 go_ret2
 exact⟨rfl,rfl⟩
set_option maxHeartbeats 400000 in
theorem N6 (w:World):Calls Try.prog 48 #[.int .i64 20] w (Ig ⟨#[116]⟩ true w):=by
 go_enter Try.func48,Try.ntmps48
 go_wp2
 go_ret2
 exact⟨rfl,rfl⟩
set_option maxHeartbeats 400000 in
theorem Li (w:World):Calls Try.prog 48 #[.int .i64 21] w (Ig ⟨#[101,116]⟩ true w):=by
 go_enter Try.func48,Try.ntmps48
 go_wp2
 go_ret2
 exact⟨rfl,rfl⟩
theorem Ag2 {op:Int} (h:C9 op=none):(op==2)=false∧(op==3)=false∧(op==4)=false∧(op==5)=false∧(op==6)=false∧(op==7)=false∧(op==8)=false∧(op==9)=false∧(op==20)=false∧(op==21)=false:=by
 refine⟨?_,?_,?_,?_,?_,?_,?_,?_,?_,?_⟩
 all_goals
  apply I9
  rintro rfl
  simp[C9] at h
set_option maxHeartbeats 400000 in
theorem Aaz (op:Int) (w:World) (h:C9 op=none):Calls Try.prog 48 #[.int .i64 op] w (Ig ⟨#[]⟩ false w):=by
 obtain⟨d2,d3,d4,d5,d6,d7,d8,d9,d20,d21⟩:=Ag2 h
 clear h
 go_enter Try.func48,Try.ntmps48
 go_wp2
 go_ret2
 exact⟨rfl,rfl⟩
set_option maxHeartbeats 400000 in
theorem A9n (x:Aj) (ve vf:Value) (w:World) (he:Sl rOp w ve x.e) (hf:Sl rOp w vf x.f) :
 Calls Try.prog 33 #[.agg #[.int .i64 x.op,.int .i64 x.reg,.int .i64 x.loc,ve,vf,.bool x.ne,.int .i64 x.goal]] w (C5 (Kz x) w):=by
 have hl1:=he.len
 have hl2:=hf.len
 obtain⟨a,c,rfl,h1⟩:=Bq he
 obtain⟨a2,c2,rfl,h2⟩:=Bq hf
 clear he hf h1 h2
 obtain⟨op,reg,loc,le,lf,ne,goal⟩:=x
 cases ne
 all_goals
  go_enter Try.func33,Try.ntmps33
  go_wp2
  all_goals
   go_ret
   refine⟨congrArg (fun b=>Ending.returned (.bool b)) ?_,(Below.refl _ _).alloc (Nat.le_refl _) _⟩
   rw[Bool.eq_iff_iff]
   simp[Kz,List.isEmpty_iff,← List.length_eq_zero_iff]
   try first | omega | (intros;simp only[Go.RowKit.wrap64];omega) | (intros;simp_all [List.length_eq_zero_iff])
set_option maxRecDepth 100000 in
set_option maxHeartbeats 4000000 in
theorem Aht (reg loc:Int) (le lf:List OpS) (ne:Bool) (goal:Int) (ve vf:Value) (regs locs many:Int) (w:World) (he:Sl rOp w ve le) (hf:Sl rOp w vf lf) :
 Calls Try.prog 34 #[.agg #[.int .i64 2,.int .i64 reg,.int .i64 loc,ve,vf,.bool ne,.int .i64 goal],.int .i64 regs,.int .i64 locs,.int .i64 many] w (C5 (Bj regs locs many ⟨2,reg,loc,le,lf,ne,goal⟩) w):=by
 have hl1:=he.len
 have hl2:=hf.len
 have HE:=Lib.hid he;have HF:=Lib.hid hf
 obtain⟨ae,ce,rfl,h1⟩:=Bq he
 obtain⟨af,cf,rfl,h2⟩:=Bq hf
 clear he hf h1 h2
 obtain⟨n1,hn1⟩:∃ n,le.length=n:=⟨_,rfl⟩
 obtain⟨n2,hn2⟩:∃ n,lf.length=n:=⟨_,rfl⟩
 rw[hn1] at hl1 HE ⊢
 rw[hn2] at hl2 HF ⊢
 have N1:=Lib.hid hn1;have N2:=Lib.hid hn2;clear hn1 hn2
 obtain⟨res,hres⟩:∃ r,Bj regs locs many ⟨2,reg,loc,le,lf,ne,goal⟩=r:=⟨_,rfl⟩
 have HR:Hid (((!ne || false)&&Ag true reg regs&&Ag false loc locs&&Ag false goal many&&Br true le regs&&Br false lf regs)=res):=hres
 rw[hres]
 clear hres
 have hB0:=Lib.hid (show Below w.heap.size w (w.alloc (.cells #[.int .i64 2,.int .i64 reg,.int .i64 loc,.slice ae n1 ce,.slice af n2 cf,.bool ne,.int .i64 goal] 44)) from(Below.refl _ _).alloc (Nat.le_refl _) _)
 cases pr:Ag true reg regs
 ·have HN:=Lib.hid (show res=false by rw[← HR.out,pr];simp)
  have qr:inB reg regs=false:=pr
  clear pr
  go_enter Try.func34,Try.ntmps34
  go_wp2_with (first
   | (go_at_call 48;refine(N0 _).mono ?_;rintro e w' ⟨rfl,rfl⟩)
   | (go_at_call 49;refine(Ab _ _ true _ rfl (by decide)).mono ?_;rintro e w' ⟨rfl,rfl⟩)
   | (go_at_call 49;refine(Ab _ _ false _ rfl (by decide)).mono ?_;rintro e w' ⟨rfl,rfl⟩)
   | (go_at_call 50;refine(Ar _ _ _).mono ?_;rintro e w' ⟨rfl,rfl⟩))
  go_ret
  exact⟨by rw[HN.out];rfl,hB0.out⟩
 ·have Pr:=Lib.hid pr
  have qr:inB reg regs=true:=pr
  clear pr
  cases pl:Ag false loc locs
  ·have HN:=Lib.hid (show res=false by rw[← HR.out,pl];simp)
   have ql:(loc==0)=false:=by simpa [Ag] using pl
   have ql2:(loc != 0)=true:=by simpa [Ag] using pl
   clear pl
   go_enter Try.func34,Try.ntmps34
   go_wp2_with (first
    | (go_at_call 48;refine(N0 _).mono ?_;rintro e w' ⟨rfl,rfl⟩)
    | (go_at_call 49;refine(Ab _ _ true _ rfl (by decide)).mono ?_;rintro e w' ⟨rfl,rfl⟩)
    | (go_at_call 49;refine(Ab _ _ false _ rfl (by decide)).mono ?_;rintro e w' ⟨rfl,rfl⟩)
    | (go_at_call 50;refine(Ar _ _ _).mono ?_;rintro e w' ⟨rfl,rfl⟩))
   go_ret
   exact⟨by rw[HN.out];rfl,hB0.out⟩
  ·have Pl:=Lib.hid pl
   have ql:(loc==0)=true:=by simpa [Ag] using pl
   have ql2:(loc != 0)=false:=by simpa [Ag] using pl
   clear pl
   cases pt:Ag false goal many
   ·have HN:=Lib.hid (show res=false by rw[← HR.out,pt];simp)
    have qt:(goal==0)=false:=by simpa [Ag] using pt
    have qt2:(goal != 0)=true:=by simpa [Ag] using pt
    clear pt
    go_enter Try.func34,Try.ntmps34
    go_wp2_with (first
     | (go_at_call 48;refine(N0 _).mono ?_;rintro e w' ⟨rfl,rfl⟩)
     | (go_at_call 49;refine(Ab _ _ true _ rfl (by decide)).mono ?_;rintro e w' ⟨rfl,rfl⟩)
     | (go_at_call 49;refine(Ab _ _ false _ rfl (by decide)).mono ?_;rintro e w' ⟨rfl,rfl⟩)
     | (go_at_call 50;refine(Ar _ _ _).mono ?_;rintro e w' ⟨rfl,rfl⟩))
    go_ret
    exact⟨by rw[HN.out];rfl,hB0.out⟩
   ·have Pt:=Lib.hid pt
    have qt:(goal==0)=true:=by simpa [Ag] using pt
    have qt2:(goal != 0)=false:=by simpa [Ag] using pt
    clear pt
    go_enter Try.func34,Try.ntmps34
    go_wp2_with (first
     | (go_at_call 48;refine(N0 _).mono ?_;rintro e w' ⟨rfl,rfl⟩)
     | (go_at_call 49;refine(Ab _ _ true _ rfl (by decide)).mono ?_;rintro e w' ⟨rfl,rfl⟩)
     | (go_at_call 49;refine(Ab _ _ false _ rfl (by decide)).mono ?_;rintro e w' ⟨rfl,rfl⟩)
     | (go_at_call 50;refine(Ar _ _ _).mono ?_;rintro e w' ⟨rfl,rfl⟩))
    have c4:=C2 w #[.int .i64 2,.int .i64 reg,.int .i64 loc,.slice ae n1 ce,.slice af n2 cf,.bool ne,.int .i64 goal] 44 4 _ rfl
    have c5:=C2 w #[.int .i64 2,.int .i64 reg,.int .i64 loc,.slice ae n1 ce,.slice af n2 cf,.bool ne,.int .i64 goal] 44 5 _ rfl
    have hWs:w.heap.size < (w.alloc (.cells #[.int .i64 2,.int .i64 reg,.int .i64 loc,.slice ae n1 ce,.slice af n2 cf,.bool ne,.int .i64 goal] 44)).heap.size:=by simp
    have HW:=hB0
    clear hB0
    generalize w.alloc (.cells #[.int .i64 2,.int .i64 reg,.int .i64 loc,.slice ae n1 ce,.slice af n2 cf,.bool ne,.int .i64 goal] 44)=W at *
    refine(G9 le [] regs 0 _ _ _ (HE.out.mono Cf HW.out) (Sl.nil _ _)).mono ?_
    rintro e w2 ⟨rfl,hb⟩
    have r4:=cell_later hb c4
    have r5:=cell_later hb c5
    have HX:=Lib.hid (HW.out.trans (hb.mono HW.out.size))
    have hW2:=hb.size
    clear hb c4 c5
    cases pe:Hw le [] regs 0
    ·have HN:=Lib.hid (show res=false from HR.out.symm.trans (Hz (e:=Br true le regs) pe))
     clear pe
     go_wp2_with (first
      | (go_at_call 48;refine(N0 _).mono ?_;rintro e w' ⟨rfl,rfl⟩)
      | (go_at_call 49;refine(Ab _ _ true _ rfl (by decide)).mono ?_;rintro e w' ⟨rfl,rfl⟩)
      | (go_at_call 49;refine(Ab _ _ false _ rfl (by decide)).mono ?_;rintro e w' ⟨rfl,rfl⟩)
      | (go_at_call 50;refine(Ar _ _ _).mono ?_;rintro e w' ⟨rfl,rfl⟩))
     go_ret
     exact⟨by rw[HN.out];rfl,HX.out⟩
    ·have PE:Hid (Br true le regs=true):=pe
     clear pe
     by_cases pf:n2=0
     ·have PF:=Lib.hid (show Br false lf regs=true from Fv (N2.out.trans pf))
      subst pf
      cases ne
      all_goals
       go_wp2_with (first
        | (go_at_call 48;refine(N0 _).mono ?_;rintro e w' ⟨rfl,rfl⟩)
        | (go_at_call 49;refine(Ab _ _ true _ rfl (by decide)).mono ?_;rintro e w' ⟨rfl,rfl⟩)
        | (go_at_call 49;refine(Ab _ _ false _ rfl (by decide)).mono ?_;rintro e w' ⟨rfl,rfl⟩)
        | (go_at_call 50;refine(Ar _ _ _).mono ?_;rintro e w' ⟨rfl,rfl⟩))
       go_ret
       exact⟨by rw[← HR.out,Pr.out,Pl.out,Pt.out,PE.out,PF.out];rfl,HX.out⟩
     ·have HN:=Lib.hid (show res=false from HR.out.symm.trans (I1 (Gk N2.out (by omega))))
      have g2:0 < n2:=by omega
      go_wp2_with (first
       | (go_at_call 48;refine(N0 _).mono ?_;rintro e w' ⟨rfl,rfl⟩)
       | (go_at_call 49;refine(Ab _ _ true _ rfl (by decide)).mono ?_;rintro e w' ⟨rfl,rfl⟩)
       | (go_at_call 49;refine(Ab _ _ false _ rfl (by decide)).mono ?_;rintro e w' ⟨rfl,rfl⟩)
       | (go_at_call 50;refine(Ar _ _ _).mono ?_;rintro e w' ⟨rfl,rfl⟩))
      go_ret
      exact⟨by rw[HN.out];rfl,HX.out⟩
set_option maxRecDepth 100000 in
set_option maxHeartbeats 4000000 in
theorem Air (reg loc:Int) (le lf:List OpS) (ne:Bool) (goal:Int) (ve vf:Value) (regs locs many:Int) (w:World) (he:Sl rOp w ve le) (hf:Sl rOp w vf lf) :
 Calls Try.prog 34 #[.agg #[.int .i64 3,.int .i64 reg,.int .i64 loc,ve,vf,.bool ne,.int .i64 goal],.int .i64 regs,.int .i64 locs,.int .i64 many] w (C5 (Bj regs locs many ⟨3,reg,loc,le,lf,ne,goal⟩) w):=by
 have hl1:=he.len
 have hl2:=hf.len
 have HE:=Lib.hid he;have HF:=Lib.hid hf
 obtain⟨ae,ce,rfl,h1⟩:=Bq he
 obtain⟨af,cf,rfl,h2⟩:=Bq hf
 clear he hf h1 h2
 obtain⟨n1,hn1⟩:∃ n,le.length=n:=⟨_,rfl⟩
 obtain⟨n2,hn2⟩:∃ n,lf.length=n:=⟨_,rfl⟩
 rw[hn1] at hl1 HE ⊢
 rw[hn2] at hl2 HF ⊢
 have N1:=Lib.hid hn1;have N2:=Lib.hid hn2;clear hn1 hn2
 obtain⟨res,hres⟩:∃ r,Bj regs locs many ⟨3,reg,loc,le,lf,ne,goal⟩=r:=⟨_,rfl⟩
 have HR:Hid (((!ne || false)&&Ag true reg regs&&Ag true loc locs&&Ag false goal many&&Br false le regs&&Br false lf regs)=res):=hres
 rw[hres]
 clear hres
 have hB0:=Lib.hid (show Below w.heap.size w (w.alloc (.cells #[.int .i64 3,.int .i64 reg,.int .i64 loc,.slice ae n1 ce,.slice af n2 cf,.bool ne,.int .i64 goal] 44)) from(Below.refl _ _).alloc (Nat.le_refl _) _)
 cases pr:Ag true reg regs
 ·have HN:=Lib.hid (show res=false by rw[← HR.out,pr];simp)
  have qr:inB reg regs=false:=pr
  clear pr
  go_enter Try.func34,Try.ntmps34
  go_wp2_with (first
   | (go_at_call 48;refine(Po _).mono ?_;rintro e w' ⟨rfl,rfl⟩)
   | (go_at_call 49;refine(Ab _ _ true _ rfl (by decide)).mono ?_;rintro e w' ⟨rfl,rfl⟩)
   | (go_at_call 49;refine(Ab _ _ false _ rfl (by decide)).mono ?_;rintro e w' ⟨rfl,rfl⟩)
   | (go_at_call 50;refine(Ar _ _ _).mono ?_;rintro e w' ⟨rfl,rfl⟩))
  go_ret
  exact⟨by rw[HN.out];rfl,hB0.out⟩
 ·have Pr:=Lib.hid pr
  have qr:inB reg regs=true:=pr
  clear pr
  cases pl:Ag true loc locs
  ·have HN:=Lib.hid (show res=false by rw[← HR.out,pl];simp)
   have ql:inB loc locs=false:=pl
   clear pl
   go_enter Try.func34,Try.ntmps34
   go_wp2_with (first
    | (go_at_call 48;refine(Po _).mono ?_;rintro e w' ⟨rfl,rfl⟩)
    | (go_at_call 49;refine(Ab _ _ true _ rfl (by decide)).mono ?_;rintro e w' ⟨rfl,rfl⟩)
    | (go_at_call 49;refine(Ab _ _ false _ rfl (by decide)).mono ?_;rintro e w' ⟨rfl,rfl⟩)
    | (go_at_call 50;refine(Ar _ _ _).mono ?_;rintro e w' ⟨rfl,rfl⟩))
   go_ret
   exact⟨by rw[HN.out];rfl,hB0.out⟩
  ·have Pl:=Lib.hid pl
   have ql:inB loc locs=true:=pl
   clear pl
   cases pt:Ag false goal many
   ·have HN:=Lib.hid (show res=false by rw[← HR.out,pt];simp)
    have qt:(goal==0)=false:=by simpa [Ag] using pt
    have qt2:(goal != 0)=true:=by simpa [Ag] using pt
    clear pt
    go_enter Try.func34,Try.ntmps34
    go_wp2_with (first
     | (go_at_call 48;refine(Po _).mono ?_;rintro e w' ⟨rfl,rfl⟩)
     | (go_at_call 49;refine(Ab _ _ true _ rfl (by decide)).mono ?_;rintro e w' ⟨rfl,rfl⟩)
     | (go_at_call 49;refine(Ab _ _ false _ rfl (by decide)).mono ?_;rintro e w' ⟨rfl,rfl⟩)
     | (go_at_call 50;refine(Ar _ _ _).mono ?_;rintro e w' ⟨rfl,rfl⟩))
    go_ret
    exact⟨by rw[HN.out];rfl,hB0.out⟩
   ·have Pt:=Lib.hid pt
    have qt:(goal==0)=true:=by simpa [Ag] using pt
    have qt2:(goal != 0)=false:=by simpa [Ag] using pt
    clear pt
    by_cases pe:n1=0
    ·have PE:=Lib.hid (show Br false le regs=true from Fv (N1.out.trans pe))
     subst pe
     by_cases pf:n2=0
     ·have PF:=Lib.hid (show Br false lf regs=true from Fv (N2.out.trans pf))
      subst pf
      cases ne
      all_goals
       go_enter Try.func34,Try.ntmps34
       go_wp2_with (first
        | (go_at_call 48;refine(Po _).mono ?_;rintro e w' ⟨rfl,rfl⟩)
        | (go_at_call 49;refine(Ab _ _ true _ rfl (by decide)).mono ?_;rintro e w' ⟨rfl,rfl⟩)
        | (go_at_call 49;refine(Ab _ _ false _ rfl (by decide)).mono ?_;rintro e w' ⟨rfl,rfl⟩)
        | (go_at_call 50;refine(Ar _ _ _).mono ?_;rintro e w' ⟨rfl,rfl⟩))
       go_ret
       exact⟨by rw[← HR.out,Pr.out,Pl.out,Pt.out,PE.out,PF.out];rfl,hB0.out⟩
     ·have HN:=Lib.hid (show res=false from HR.out.symm.trans (I1 (Gk N2.out (by omega))))
      have g2:0 < n2:=by omega
      go_enter Try.func34,Try.ntmps34
      go_wp2_with (first
       | (go_at_call 48;refine(Po _).mono ?_;rintro e w' ⟨rfl,rfl⟩)
       | (go_at_call 49;refine(Ab _ _ true _ rfl (by decide)).mono ?_;rintro e w' ⟨rfl,rfl⟩)
       | (go_at_call 49;refine(Ab _ _ false _ rfl (by decide)).mono ?_;rintro e w' ⟨rfl,rfl⟩)
       | (go_at_call 50;refine(Ar _ _ _).mono ?_;rintro e w' ⟨rfl,rfl⟩))
      go_ret
      exact⟨by rw[HN.out];rfl,hB0.out⟩
    ·have HN:=Lib.hid (show res=false from HR.out.symm.trans (Hz (Gk N1.out (by omega))))
     have g1:0 < n1:=by omega
     go_enter Try.func34,Try.ntmps34
     go_wp2_with (first
      | (go_at_call 48;refine(Po _).mono ?_;rintro e w' ⟨rfl,rfl⟩)
      | (go_at_call 49;refine(Ab _ _ true _ rfl (by decide)).mono ?_;rintro e w' ⟨rfl,rfl⟩)
      | (go_at_call 49;refine(Ab _ _ false _ rfl (by decide)).mono ?_;rintro e w' ⟨rfl,rfl⟩)
      | (go_at_call 50;refine(Ar _ _ _).mono ?_;rintro e w' ⟨rfl,rfl⟩))
     go_ret
     exact⟨by rw[HN.out];rfl,hB0.out⟩
set_option maxRecDepth 100000 in
set_option maxHeartbeats 4000000 in
theorem Ahy (reg loc:Int) (le lf:List OpS) (ne:Bool) (goal:Int) (ve vf:Value) (regs locs many:Int) (w:World) (he:Sl rOp w ve le) (hf:Sl rOp w vf lf) :
 Calls Try.prog 34 #[.agg #[.int .i64 4,.int .i64 reg,.int .i64 loc,ve,vf,.bool ne,.int .i64 goal],.int .i64 regs,.int .i64 locs,.int .i64 many] w (C5 (Bj regs locs many ⟨4,reg,loc,le,lf,ne,goal⟩) w):=by
 have hl1:=he.len
 have hl2:=hf.len
 have HE:=Lib.hid he;have HF:=Lib.hid hf
 obtain⟨ae,ce,rfl,h1⟩:=Bq he
 obtain⟨af,cf,rfl,h2⟩:=Bq hf
 clear he hf h1 h2
 obtain⟨n1,hn1⟩:∃ n,le.length=n:=⟨_,rfl⟩
 obtain⟨n2,hn2⟩:∃ n,lf.length=n:=⟨_,rfl⟩
 rw[hn1] at hl1 HE ⊢
 rw[hn2] at hl2 HF ⊢
 have N1:=Lib.hid hn1;have N2:=Lib.hid hn2;clear hn1 hn2
 obtain⟨res,hres⟩:∃ r,Bj regs locs many ⟨4,reg,loc,le,lf,ne,goal⟩=r:=⟨_,rfl⟩
 have HR:Hid (((!ne || false)&&Ag false reg regs&&Ag true loc locs&&Ag false goal many&&Br true le regs&&Br false lf regs)=res):=hres
 rw[hres]
 clear hres
 have hB0:=Lib.hid (show Below w.heap.size w (w.alloc (.cells #[.int .i64 4,.int .i64 reg,.int .i64 loc,.slice ae n1 ce,.slice af n2 cf,.bool ne,.int .i64 goal] 44)) from(Below.refl _ _).alloc (Nat.le_refl _) _)
 cases pr:Ag false reg regs
 ·have HN:=Lib.hid (show res=false by rw[← HR.out,pr];simp)
  have qr:(reg==0)=false:=by simpa [Ag] using pr
  have qr2:(reg != 0)=true:=by simpa [Ag] using pr
  clear pr
  go_enter Try.func34,Try.ntmps34
  go_wp2_with (first
   | (go_at_call 48;refine(Nd _).mono ?_;rintro e w' ⟨rfl,rfl⟩)
   | (go_at_call 49;refine(Ab _ _ true _ rfl (by decide)).mono ?_;rintro e w' ⟨rfl,rfl⟩)
   | (go_at_call 49;refine(Ab _ _ false _ rfl (by decide)).mono ?_;rintro e w' ⟨rfl,rfl⟩)
   | (go_at_call 50;refine(Ar _ _ _).mono ?_;rintro e w' ⟨rfl,rfl⟩))
  go_ret
  exact⟨by rw[HN.out];rfl,hB0.out⟩
 ·have Pr:=Lib.hid pr
  have qr:(reg==0)=true:=by simpa [Ag] using pr
  have qr2:(reg != 0)=false:=by simpa [Ag] using pr
  clear pr
  cases pl:Ag true loc locs
  ·have HN:=Lib.hid (show res=false by rw[← HR.out,pl];simp)
   have ql:inB loc locs=false:=pl
   clear pl
   go_enter Try.func34,Try.ntmps34
   go_wp2_with (first
    | (go_at_call 48;refine(Nd _).mono ?_;rintro e w' ⟨rfl,rfl⟩)
    | (go_at_call 49;refine(Ab _ _ true _ rfl (by decide)).mono ?_;rintro e w' ⟨rfl,rfl⟩)
    | (go_at_call 49;refine(Ab _ _ false _ rfl (by decide)).mono ?_;rintro e w' ⟨rfl,rfl⟩)
    | (go_at_call 50;refine(Ar _ _ _).mono ?_;rintro e w' ⟨rfl,rfl⟩))
   go_ret
   exact⟨by rw[HN.out];rfl,hB0.out⟩
  ·have Pl:=Lib.hid pl
   have ql:inB loc locs=true:=pl
   clear pl
   cases pt:Ag false goal many
   ·have HN:=Lib.hid (show res=false by rw[← HR.out,pt];simp)
    have qt:(goal==0)=false:=by simpa [Ag] using pt
    have qt2:(goal != 0)=true:=by simpa [Ag] using pt
    clear pt
    go_enter Try.func34,Try.ntmps34
    go_wp2_with (first
     | (go_at_call 48;refine(Nd _).mono ?_;rintro e w' ⟨rfl,rfl⟩)
     | (go_at_call 49;refine(Ab _ _ true _ rfl (by decide)).mono ?_;rintro e w' ⟨rfl,rfl⟩)
     | (go_at_call 49;refine(Ab _ _ false _ rfl (by decide)).mono ?_;rintro e w' ⟨rfl,rfl⟩)
     | (go_at_call 50;refine(Ar _ _ _).mono ?_;rintro e w' ⟨rfl,rfl⟩))
    go_ret
    exact⟨by rw[HN.out];rfl,hB0.out⟩
   ·have Pt:=Lib.hid pt
    have qt:(goal==0)=true:=by simpa [Ag] using pt
    have qt2:(goal != 0)=false:=by simpa [Ag] using pt
    clear pt
    go_enter Try.func34,Try.ntmps34
    go_wp2_with (first
     | (go_at_call 48;refine(Nd _).mono ?_;rintro e w' ⟨rfl,rfl⟩)
     | (go_at_call 49;refine(Ab _ _ true _ rfl (by decide)).mono ?_;rintro e w' ⟨rfl,rfl⟩)
     | (go_at_call 49;refine(Ab _ _ false _ rfl (by decide)).mono ?_;rintro e w' ⟨rfl,rfl⟩)
     | (go_at_call 50;refine(Ar _ _ _).mono ?_;rintro e w' ⟨rfl,rfl⟩))
    have c4:=C2 w #[.int .i64 4,.int .i64 reg,.int .i64 loc,.slice ae n1 ce,.slice af n2 cf,.bool ne,.int .i64 goal] 44 4 _ rfl
    have c5:=C2 w #[.int .i64 4,.int .i64 reg,.int .i64 loc,.slice ae n1 ce,.slice af n2 cf,.bool ne,.int .i64 goal] 44 5 _ rfl
    have hWs:w.heap.size < (w.alloc (.cells #[.int .i64 4,.int .i64 reg,.int .i64 loc,.slice ae n1 ce,.slice af n2 cf,.bool ne,.int .i64 goal] 44)).heap.size:=by simp
    have HW:=hB0
    clear hB0
    generalize w.alloc (.cells #[.int .i64 4,.int .i64 reg,.int .i64 loc,.slice ae n1 ce,.slice af n2 cf,.bool ne,.int .i64 goal] 44)=W at *
    refine(G9 le [] regs 0 _ _ _ (HE.out.mono Cf HW.out) (Sl.nil _ _)).mono ?_
    rintro e w2 ⟨rfl,hb⟩
    have r4:=cell_later hb c4
    have r5:=cell_later hb c5
    have HX:=Lib.hid (HW.out.trans (hb.mono HW.out.size))
    have hW2:=hb.size
    clear hb c4 c5
    cases pe:Hw le [] regs 0
    ·have HN:=Lib.hid (show res=false from HR.out.symm.trans (Hz (e:=Br true le regs) pe))
     clear pe
     go_wp2_with (first
      | (go_at_call 48;refine(Nd _).mono ?_;rintro e w' ⟨rfl,rfl⟩)
      | (go_at_call 49;refine(Ab _ _ true _ rfl (by decide)).mono ?_;rintro e w' ⟨rfl,rfl⟩)
      | (go_at_call 49;refine(Ab _ _ false _ rfl (by decide)).mono ?_;rintro e w' ⟨rfl,rfl⟩)
      | (go_at_call 50;refine(Ar _ _ _).mono ?_;rintro e w' ⟨rfl,rfl⟩))
     go_ret
     exact⟨by rw[HN.out];rfl,HX.out⟩
    ·have PE:Hid (Br true le regs=true):=pe
     clear pe
     by_cases pf:n2=0
     ·have PF:=Lib.hid (show Br false lf regs=true from Fv (N2.out.trans pf))
      subst pf
      cases ne
      all_goals
       go_wp2_with (first
        | (go_at_call 48;refine(Nd _).mono ?_;rintro e w' ⟨rfl,rfl⟩)
        | (go_at_call 49;refine(Ab _ _ true _ rfl (by decide)).mono ?_;rintro e w' ⟨rfl,rfl⟩)
        | (go_at_call 49;refine(Ab _ _ false _ rfl (by decide)).mono ?_;rintro e w' ⟨rfl,rfl⟩)
        | (go_at_call 50;refine(Ar _ _ _).mono ?_;rintro e w' ⟨rfl,rfl⟩))
       go_ret
       exact⟨by rw[← HR.out,Pr.out,Pl.out,Pt.out,PE.out,PF.out];rfl,HX.out⟩
     ·have HN:=Lib.hid (show res=false from HR.out.symm.trans (I1 (Gk N2.out (by omega))))
      have g2:0 < n2:=by omega
      go_wp2_with (first
       | (go_at_call 48;refine(Nd _).mono ?_;rintro e w' ⟨rfl,rfl⟩)
       | (go_at_call 49;refine(Ab _ _ true _ rfl (by decide)).mono ?_;rintro e w' ⟨rfl,rfl⟩)
       | (go_at_call 49;refine(Ab _ _ false _ rfl (by decide)).mono ?_;rintro e w' ⟨rfl,rfl⟩)
       | (go_at_call 50;refine(Ar _ _ _).mono ?_;rintro e w' ⟨rfl,rfl⟩))
      go_ret
      exact⟨by rw[HN.out];rfl,HX.out⟩
set_option maxRecDepth 100000 in
set_option maxHeartbeats 4000000 in
theorem Ai2 (reg loc:Int) (le lf:List OpS) (ne:Bool) (goal:Int) (ve vf:Value) (regs locs many:Int) (w:World) (he:Sl rOp w ve le) (hf:Sl rOp w vf lf) :
 Calls Try.prog 34 #[.agg #[.int .i64 8,.int .i64 reg,.int .i64 loc,ve,vf,.bool ne,.int .i64 goal],.int .i64 regs,.int .i64 locs,.int .i64 many] w (C5 (Bj regs locs many ⟨8,reg,loc,le,lf,ne,goal⟩) w):=by
 have hl1:=he.len
 have hl2:=hf.len
 have HE:=Lib.hid he;have HF:=Lib.hid hf
 obtain⟨ae,ce,rfl,h1⟩:=Bq he
 obtain⟨af,cf,rfl,h2⟩:=Bq hf
 clear he hf h1 h2
 obtain⟨n1,hn1⟩:∃ n,le.length=n:=⟨_,rfl⟩
 obtain⟨n2,hn2⟩:∃ n,lf.length=n:=⟨_,rfl⟩
 rw[hn1] at hl1 HE ⊢
 rw[hn2] at hl2 HF ⊢
 have N1:=Lib.hid hn1;have N2:=Lib.hid hn2;clear hn1 hn2
 obtain⟨res,hres⟩:∃ r,Bj regs locs many ⟨8,reg,loc,le,lf,ne,goal⟩=r:=⟨_,rfl⟩
 have HR:Hid (((!ne || false)&&Ag false reg regs&&Ag false loc locs&&Ag false goal many&&Br false le regs&&Br false lf regs)=res):=hres
 rw[hres]
 clear hres
 have hB0:=Lib.hid (show Below w.heap.size w (w.alloc (.cells #[.int .i64 8,.int .i64 reg,.int .i64 loc,.slice ae n1 ce,.slice af n2 cf,.bool ne,.int .i64 goal] 44)) from(Below.refl _ _).alloc (Nat.le_refl _) _)
 cases pr:Ag false reg regs
 ·have HN:=Lib.hid (show res=false by rw[← HR.out,pr];simp)
  have qr:(reg==0)=false:=by simpa [Ag] using pr
  have qr2:(reg != 0)=true:=by simpa [Ag] using pr
  clear pr
  go_enter Try.func34,Try.ntmps34
  go_wp2_with (first
   | (go_at_call 48;refine(Pp _).mono ?_;rintro e w' ⟨rfl,rfl⟩)
   | (go_at_call 49;refine(Ab _ _ true _ rfl (by decide)).mono ?_;rintro e w' ⟨rfl,rfl⟩)
   | (go_at_call 49;refine(Ab _ _ false _ rfl (by decide)).mono ?_;rintro e w' ⟨rfl,rfl⟩)
   | (go_at_call 50;refine(Ar _ _ _).mono ?_;rintro e w' ⟨rfl,rfl⟩))
  go_ret
  exact⟨by rw[HN.out];rfl,hB0.out⟩
 ·have Pr:=Lib.hid pr
  have qr:(reg==0)=true:=by simpa [Ag] using pr
  have qr2:(reg != 0)=false:=by simpa [Ag] using pr
  clear pr
  cases pl:Ag false loc locs
  ·have HN:=Lib.hid (show res=false by rw[← HR.out,pl];simp)
   have ql:(loc==0)=false:=by simpa [Ag] using pl
   have ql2:(loc != 0)=true:=by simpa [Ag] using pl
   clear pl
   go_enter Try.func34,Try.ntmps34
   go_wp2_with (first
    | (go_at_call 48;refine(Pp _).mono ?_;rintro e w' ⟨rfl,rfl⟩)
    | (go_at_call 49;refine(Ab _ _ true _ rfl (by decide)).mono ?_;rintro e w' ⟨rfl,rfl⟩)
    | (go_at_call 49;refine(Ab _ _ false _ rfl (by decide)).mono ?_;rintro e w' ⟨rfl,rfl⟩)
    | (go_at_call 50;refine(Ar _ _ _).mono ?_;rintro e w' ⟨rfl,rfl⟩))
   go_ret
   exact⟨by rw[HN.out];rfl,hB0.out⟩
  ·have Pl:=Lib.hid pl
   have ql:(loc==0)=true:=by simpa [Ag] using pl
   have ql2:(loc != 0)=false:=by simpa [Ag] using pl
   clear pl
   cases pt:Ag false goal many
   ·have HN:=Lib.hid (show res=false by rw[← HR.out,pt];simp)
    have qt:(goal==0)=false:=by simpa [Ag] using pt
    have qt2:(goal != 0)=true:=by simpa [Ag] using pt
    clear pt
    go_enter Try.func34,Try.ntmps34
    go_wp2_with (first
     | (go_at_call 48;refine(Pp _).mono ?_;rintro e w' ⟨rfl,rfl⟩)
     | (go_at_call 49;refine(Ab _ _ true _ rfl (by decide)).mono ?_;rintro e w' ⟨rfl,rfl⟩)
     | (go_at_call 49;refine(Ab _ _ false _ rfl (by decide)).mono ?_;rintro e w' ⟨rfl,rfl⟩)
     | (go_at_call 50;refine(Ar _ _ _).mono ?_;rintro e w' ⟨rfl,rfl⟩))
    go_ret
    exact⟨by rw[HN.out];rfl,hB0.out⟩
   ·have Pt:=Lib.hid pt
    have qt:(goal==0)=true:=by simpa [Ag] using pt
    have qt2:(goal != 0)=false:=by simpa [Ag] using pt
    clear pt
    by_cases pe:n1=0
    ·have PE:=Lib.hid (show Br false le regs=true from Fv (N1.out.trans pe))
     subst pe
     by_cases pf:n2=0
     ·have PF:=Lib.hid (show Br false lf regs=true from Fv (N2.out.trans pf))
      subst pf
      cases ne
      all_goals
       go_enter Try.func34,Try.ntmps34
       go_wp2_with (first
        | (go_at_call 48;refine(Pp _).mono ?_;rintro e w' ⟨rfl,rfl⟩)
        | (go_at_call 49;refine(Ab _ _ true _ rfl (by decide)).mono ?_;rintro e w' ⟨rfl,rfl⟩)
        | (go_at_call 49;refine(Ab _ _ false _ rfl (by decide)).mono ?_;rintro e w' ⟨rfl,rfl⟩)
        | (go_at_call 50;refine(Ar _ _ _).mono ?_;rintro e w' ⟨rfl,rfl⟩))
       go_ret
       exact⟨by rw[← HR.out,Pr.out,Pl.out,Pt.out,PE.out,PF.out];rfl,hB0.out⟩
     ·have HN:=Lib.hid (show res=false from HR.out.symm.trans (I1 (Gk N2.out (by omega))))
      have g2:0 < n2:=by omega
      go_enter Try.func34,Try.ntmps34
      go_wp2_with (first
       | (go_at_call 48;refine(Pp _).mono ?_;rintro e w' ⟨rfl,rfl⟩)
       | (go_at_call 49;refine(Ab _ _ true _ rfl (by decide)).mono ?_;rintro e w' ⟨rfl,rfl⟩)
       | (go_at_call 49;refine(Ab _ _ false _ rfl (by decide)).mono ?_;rintro e w' ⟨rfl,rfl⟩)
       | (go_at_call 50;refine(Ar _ _ _).mono ?_;rintro e w' ⟨rfl,rfl⟩))
      go_ret
      exact⟨by rw[HN.out];rfl,hB0.out⟩
    ·have HN:=Lib.hid (show res=false from HR.out.symm.trans (Hz (Gk N1.out (by omega))))
     have g1:0 < n1:=by omega
     go_enter Try.func34,Try.ntmps34
     go_wp2_with (first
      | (go_at_call 48;refine(Pp _).mono ?_;rintro e w' ⟨rfl,rfl⟩)
      | (go_at_call 49;refine(Ab _ _ true _ rfl (by decide)).mono ?_;rintro e w' ⟨rfl,rfl⟩)
      | (go_at_call 49;refine(Ab _ _ false _ rfl (by decide)).mono ?_;rintro e w' ⟨rfl,rfl⟩)
      | (go_at_call 50;refine(Ar _ _ _).mono ?_;rintro e w' ⟨rfl,rfl⟩))
     go_ret
     exact⟨by rw[HN.out];rfl,hB0.out⟩
set_option maxRecDepth 100000 in
set_option maxHeartbeats 4000000 in
theorem Ahv (reg loc:Int) (le lf:List OpS) (ne:Bool) (goal:Int) (ve vf:Value) (regs locs many:Int) (w:World) (he:Sl rOp w ve le) (hf:Sl rOp w vf lf) :
 Calls Try.prog 34 #[.agg #[.int .i64 5,.int .i64 reg,.int .i64 loc,ve,vf,.bool ne,.int .i64 goal],.int .i64 regs,.int .i64 locs,.int .i64 many] w (C5 (Bj regs locs many ⟨5,reg,loc,le,lf,ne,goal⟩) w):=by
 have hl1:=he.len
 have hl2:=hf.len
 have HE:=Lib.hid he;have HF:=Lib.hid hf
 obtain⟨ae,ce,rfl,h1⟩:=Bq he
 obtain⟨af,cf,rfl,h2⟩:=Bq hf
 clear he hf h1 h2
 obtain⟨n1,hn1⟩:∃ n,le.length=n:=⟨_,rfl⟩
 obtain⟨n2,hn2⟩:∃ n,lf.length=n:=⟨_,rfl⟩
 rw[hn1] at hl1 HE ⊢
 rw[hn2] at hl2 HF ⊢
 have N1:=Lib.hid hn1;have N2:=Lib.hid hn2;clear hn1 hn2
 obtain⟨res,hres⟩:∃ r,Bj regs locs many ⟨5,reg,loc,le,lf,ne,goal⟩=r:=⟨_,rfl⟩
 have HR:Hid (((!ne || false)&&Ag true reg regs&&Ag true loc locs&&Ag false goal many&&Br true le regs&&Br true lf regs)=res):=hres
 rw[hres]
 clear hres
 have hB0:=Lib.hid (show Below w.heap.size w (w.alloc (.cells #[.int .i64 5,.int .i64 reg,.int .i64 loc,.slice ae n1 ce,.slice af n2 cf,.bool ne,.int .i64 goal] 44)) from(Below.refl _ _).alloc (Nat.le_refl _) _)
 cases pr:Ag true reg regs
 ·have HN:=Lib.hid (show res=false by rw[← HR.out,pr];simp)
  have qr:inB reg regs=false:=pr
  clear pr
  go_enter Try.func34,Try.ntmps34
  go_wp2_with (first
   | (go_at_call 48;refine(Ly _).mono ?_;rintro e w' ⟨rfl,rfl⟩)
   | (go_at_call 49;refine(Ab _ _ true _ rfl (by decide)).mono ?_;rintro e w' ⟨rfl,rfl⟩)
   | (go_at_call 49;refine(Ab _ _ false _ rfl (by decide)).mono ?_;rintro e w' ⟨rfl,rfl⟩)
   | (go_at_call 50;refine(Ar _ _ _).mono ?_;rintro e w' ⟨rfl,rfl⟩))
  go_ret
  exact⟨by rw[HN.out];rfl,hB0.out⟩
 ·have Pr:=Lib.hid pr
  have qr:inB reg regs=true:=pr
  clear pr
  cases pl:Ag true loc locs
  ·have HN:=Lib.hid (show res=false by rw[← HR.out,pl];simp)
   have ql:inB loc locs=false:=pl
   clear pl
   go_enter Try.func34,Try.ntmps34
   go_wp2_with (first
    | (go_at_call 48;refine(Ly _).mono ?_;rintro e w' ⟨rfl,rfl⟩)
    | (go_at_call 49;refine(Ab _ _ true _ rfl (by decide)).mono ?_;rintro e w' ⟨rfl,rfl⟩)
    | (go_at_call 49;refine(Ab _ _ false _ rfl (by decide)).mono ?_;rintro e w' ⟨rfl,rfl⟩)
    | (go_at_call 50;refine(Ar _ _ _).mono ?_;rintro e w' ⟨rfl,rfl⟩))
   go_ret
   exact⟨by rw[HN.out];rfl,hB0.out⟩
  ·have Pl:=Lib.hid pl
   have ql:inB loc locs=true:=pl
   clear pl
   cases pt:Ag false goal many
   ·have HN:=Lib.hid (show res=false by rw[← HR.out,pt];simp)
    have qt:(goal==0)=false:=by simpa [Ag] using pt
    have qt2:(goal != 0)=true:=by simpa [Ag] using pt
    clear pt
    go_enter Try.func34,Try.ntmps34
    go_wp2_with (first
     | (go_at_call 48;refine(Ly _).mono ?_;rintro e w' ⟨rfl,rfl⟩)
     | (go_at_call 49;refine(Ab _ _ true _ rfl (by decide)).mono ?_;rintro e w' ⟨rfl,rfl⟩)
     | (go_at_call 49;refine(Ab _ _ false _ rfl (by decide)).mono ?_;rintro e w' ⟨rfl,rfl⟩)
     | (go_at_call 50;refine(Ar _ _ _).mono ?_;rintro e w' ⟨rfl,rfl⟩))
    go_ret
    exact⟨by rw[HN.out];rfl,hB0.out⟩
   ·have Pt:=Lib.hid pt
    have qt:(goal==0)=true:=by simpa [Ag] using pt
    have qt2:(goal != 0)=false:=by simpa [Ag] using pt
    clear pt
    go_enter Try.func34,Try.ntmps34
    go_wp2_with (first
     | (go_at_call 48;refine(Ly _).mono ?_;rintro e w' ⟨rfl,rfl⟩)
     | (go_at_call 49;refine(Ab _ _ true _ rfl (by decide)).mono ?_;rintro e w' ⟨rfl,rfl⟩)
     | (go_at_call 49;refine(Ab _ _ false _ rfl (by decide)).mono ?_;rintro e w' ⟨rfl,rfl⟩)
     | (go_at_call 50;refine(Ar _ _ _).mono ?_;rintro e w' ⟨rfl,rfl⟩))
    have c4:=C2 w #[.int .i64 5,.int .i64 reg,.int .i64 loc,.slice ae n1 ce,.slice af n2 cf,.bool ne,.int .i64 goal] 44 4 _ rfl
    have c5:=C2 w #[.int .i64 5,.int .i64 reg,.int .i64 loc,.slice ae n1 ce,.slice af n2 cf,.bool ne,.int .i64 goal] 44 5 _ rfl
    have hWs:w.heap.size < (w.alloc (.cells #[.int .i64 5,.int .i64 reg,.int .i64 loc,.slice ae n1 ce,.slice af n2 cf,.bool ne,.int .i64 goal] 44)).heap.size:=by simp
    have HW:=hB0
    clear hB0
    generalize w.alloc (.cells #[.int .i64 5,.int .i64 reg,.int .i64 loc,.slice ae n1 ce,.slice af n2 cf,.bool ne,.int .i64 goal] 44)=W at *
    refine(G9 le [] regs 0 _ _ _ (HE.out.mono Cf HW.out) (Sl.nil _ _)).mono ?_
    rintro e w2 ⟨rfl,hb⟩
    have r4:=cell_later hb c4
    have r5:=cell_later hb c5
    have HX:=Lib.hid (HW.out.trans (hb.mono HW.out.size))
    have hW2:=hb.size
    clear hb c4 c5
    cases pe:Hw le [] regs 0
    ·have HN:=Lib.hid (show res=false from HR.out.symm.trans (Hz (e:=Br true le regs) pe))
     clear pe
     go_wp2_with (first
      | (go_at_call 48;refine(Ly _).mono ?_;rintro e w' ⟨rfl,rfl⟩)
      | (go_at_call 49;refine(Ab _ _ true _ rfl (by decide)).mono ?_;rintro e w' ⟨rfl,rfl⟩)
      | (go_at_call 49;refine(Ab _ _ false _ rfl (by decide)).mono ?_;rintro e w' ⟨rfl,rfl⟩)
      | (go_at_call 50;refine(Ar _ _ _).mono ?_;rintro e w' ⟨rfl,rfl⟩))
     go_ret
     exact⟨by rw[HN.out];rfl,HX.out⟩
    ·have PE:Hid (Br true le regs=true):=pe
     clear pe
     go_wp2_with (first
      | (go_at_call 48;refine(Ly _).mono ?_;rintro e w' ⟨rfl,rfl⟩)
      | (go_at_call 49;refine(Ab _ _ true _ rfl (by decide)).mono ?_;rintro e w' ⟨rfl,rfl⟩)
      | (go_at_call 49;refine(Ab _ _ false _ rfl (by decide)).mono ?_;rintro e w' ⟨rfl,rfl⟩)
      | (go_at_call 50;refine(Ar _ _ _).mono ?_;rintro e w' ⟨rfl,rfl⟩))
     refine(G9 lf [] regs 0 _ _ _ (HF.out.mono Cf HX.out) (Sl.nil _ _)).mono ?_
     rintro e w3 ⟨rfl,hb⟩
     have s5:=cell_later hb r5
     have HY:=Lib.hid (HX.out.trans (hb.mono HX.out.size))
     clear hb r4 r5
     cases pf:Hw lf [] regs 0
     ·have HN:=Lib.hid (show res=false from HR.out.symm.trans (I1 (f:=Br true lf regs) pf))
      clear pf
      go_wp2_with (first
       | (go_at_call 48;refine(Ly _).mono ?_;rintro e w' ⟨rfl,rfl⟩)
       | (go_at_call 49;refine(Ab _ _ true _ rfl (by decide)).mono ?_;rintro e w' ⟨rfl,rfl⟩)
       | (go_at_call 49;refine(Ab _ _ false _ rfl (by decide)).mono ?_;rintro e w' ⟨rfl,rfl⟩)
       | (go_at_call 50;refine(Ar _ _ _).mono ?_;rintro e w' ⟨rfl,rfl⟩))
      go_ret
      exact⟨by rw[HN.out];rfl,HY.out⟩
     ·have PF:Hid (Br true lf regs=true):=pf
      clear pf
      cases ne
      all_goals
       go_wp2_with (first
        | (go_at_call 48;refine(Ly _).mono ?_;rintro e w' ⟨rfl,rfl⟩)
        | (go_at_call 49;refine(Ab _ _ true _ rfl (by decide)).mono ?_;rintro e w' ⟨rfl,rfl⟩)
        | (go_at_call 49;refine(Ab _ _ false _ rfl (by decide)).mono ?_;rintro e w' ⟨rfl,rfl⟩)
        | (go_at_call 50;refine(Ar _ _ _).mono ?_;rintro e w' ⟨rfl,rfl⟩))
       go_ret
       exact⟨by rw[← HR.out,Pr.out,Pl.out,Pt.out,PE.out,PF.out];rfl,HY.out⟩
set_option maxRecDepth 100000 in
set_option maxHeartbeats 4000000 in
theorem Aic (reg loc:Int) (le lf:List OpS) (ne:Bool) (goal:Int) (ve vf:Value) (regs locs many:Int) (w:World) (he:Sl rOp w ve le) (hf:Sl rOp w vf lf) :
 Calls Try.prog 34 #[.agg #[.int .i64 6,.int .i64 reg,.int .i64 loc,ve,vf,.bool ne,.int .i64 goal],.int .i64 regs,.int .i64 locs,.int .i64 many] w (C5 (Bj regs locs many ⟨6,reg,loc,le,lf,ne,goal⟩) w):=by
 have hl1:=he.len
 have hl2:=hf.len
 have HE:=Lib.hid he;have HF:=Lib.hid hf
 obtain⟨ae,ce,rfl,h1⟩:=Bq he
 obtain⟨af,cf,rfl,h2⟩:=Bq hf
 clear he hf h1 h2
 obtain⟨n1,hn1⟩:∃ n,le.length=n:=⟨_,rfl⟩
 obtain⟨n2,hn2⟩:∃ n,lf.length=n:=⟨_,rfl⟩
 rw[hn1] at hl1 HE ⊢
 rw[hn2] at hl2 HF ⊢
 have N1:=Lib.hid hn1;have N2:=Lib.hid hn2;clear hn1 hn2
 obtain⟨res,hres⟩:∃ r,Bj regs locs many ⟨6,reg,loc,le,lf,ne,goal⟩=r:=⟨_,rfl⟩
 have HR:Hid (((!ne || false)&&Ag true reg regs&&Ag true loc locs&&Ag false goal many&&Br true le regs&&Br false lf regs)=res):=hres
 rw[hres]
 clear hres
 have hB0:=Lib.hid (show Below w.heap.size w (w.alloc (.cells #[.int .i64 6,.int .i64 reg,.int .i64 loc,.slice ae n1 ce,.slice af n2 cf,.bool ne,.int .i64 goal] 44)) from(Below.refl _ _).alloc (Nat.le_refl _) _)
 cases pr:Ag true reg regs
 ·have HN:=Lib.hid (show res=false by rw[← HR.out,pr];simp)
  have qr:inB reg regs=false:=pr
  clear pr
  go_enter Try.func34,Try.ntmps34
  go_wp2_with (first
   | (go_at_call 48;refine(Nf _).mono ?_;rintro e w' ⟨rfl,rfl⟩)
   | (go_at_call 49;refine(Ab _ _ true _ rfl (by decide)).mono ?_;rintro e w' ⟨rfl,rfl⟩)
   | (go_at_call 49;refine(Ab _ _ false _ rfl (by decide)).mono ?_;rintro e w' ⟨rfl,rfl⟩)
   | (go_at_call 50;refine(Ar _ _ _).mono ?_;rintro e w' ⟨rfl,rfl⟩))
  go_ret
  exact⟨by rw[HN.out];rfl,hB0.out⟩
 ·have Pr:=Lib.hid pr
  have qr:inB reg regs=true:=pr
  clear pr
  cases pl:Ag true loc locs
  ·have HN:=Lib.hid (show res=false by rw[← HR.out,pl];simp)
   have ql:inB loc locs=false:=pl
   clear pl
   go_enter Try.func34,Try.ntmps34
   go_wp2_with (first
    | (go_at_call 48;refine(Nf _).mono ?_;rintro e w' ⟨rfl,rfl⟩)
    | (go_at_call 49;refine(Ab _ _ true _ rfl (by decide)).mono ?_;rintro e w' ⟨rfl,rfl⟩)
    | (go_at_call 49;refine(Ab _ _ false _ rfl (by decide)).mono ?_;rintro e w' ⟨rfl,rfl⟩)
    | (go_at_call 50;refine(Ar _ _ _).mono ?_;rintro e w' ⟨rfl,rfl⟩))
   go_ret
   exact⟨by rw[HN.out];rfl,hB0.out⟩
  ·have Pl:=Lib.hid pl
   have ql:inB loc locs=true:=pl
   clear pl
   cases pt:Ag false goal many
   ·have HN:=Lib.hid (show res=false by rw[← HR.out,pt];simp)
    have qt:(goal==0)=false:=by simpa [Ag] using pt
    have qt2:(goal != 0)=true:=by simpa [Ag] using pt
    clear pt
    go_enter Try.func34,Try.ntmps34
    go_wp2_with (first
     | (go_at_call 48;refine(Nf _).mono ?_;rintro e w' ⟨rfl,rfl⟩)
     | (go_at_call 49;refine(Ab _ _ true _ rfl (by decide)).mono ?_;rintro e w' ⟨rfl,rfl⟩)
     | (go_at_call 49;refine(Ab _ _ false _ rfl (by decide)).mono ?_;rintro e w' ⟨rfl,rfl⟩)
     | (go_at_call 50;refine(Ar _ _ _).mono ?_;rintro e w' ⟨rfl,rfl⟩))
    go_ret
    exact⟨by rw[HN.out];rfl,hB0.out⟩
   ·have Pt:=Lib.hid pt
    have qt:(goal==0)=true:=by simpa [Ag] using pt
    have qt2:(goal != 0)=false:=by simpa [Ag] using pt
    clear pt
    go_enter Try.func34,Try.ntmps34
    go_wp2_with (first
     | (go_at_call 48;refine(Nf _).mono ?_;rintro e w' ⟨rfl,rfl⟩)
     | (go_at_call 49;refine(Ab _ _ true _ rfl (by decide)).mono ?_;rintro e w' ⟨rfl,rfl⟩)
     | (go_at_call 49;refine(Ab _ _ false _ rfl (by decide)).mono ?_;rintro e w' ⟨rfl,rfl⟩)
     | (go_at_call 50;refine(Ar _ _ _).mono ?_;rintro e w' ⟨rfl,rfl⟩))
    have c4:=C2 w #[.int .i64 6,.int .i64 reg,.int .i64 loc,.slice ae n1 ce,.slice af n2 cf,.bool ne,.int .i64 goal] 44 4 _ rfl
    have c5:=C2 w #[.int .i64 6,.int .i64 reg,.int .i64 loc,.slice ae n1 ce,.slice af n2 cf,.bool ne,.int .i64 goal] 44 5 _ rfl
    have hWs:w.heap.size < (w.alloc (.cells #[.int .i64 6,.int .i64 reg,.int .i64 loc,.slice ae n1 ce,.slice af n2 cf,.bool ne,.int .i64 goal] 44)).heap.size:=by simp
    have HW:=hB0
    clear hB0
    generalize w.alloc (.cells #[.int .i64 6,.int .i64 reg,.int .i64 loc,.slice ae n1 ce,.slice af n2 cf,.bool ne,.int .i64 goal] 44)=W at *
    refine(G9 le [] regs 0 _ _ _ (HE.out.mono Cf HW.out) (Sl.nil _ _)).mono ?_
    rintro e w2 ⟨rfl,hb⟩
    have r4:=cell_later hb c4
    have r5:=cell_later hb c5
    have HX:=Lib.hid (HW.out.trans (hb.mono HW.out.size))
    have hW2:=hb.size
    clear hb c4 c5
    cases pe:Hw le [] regs 0
    ·have HN:=Lib.hid (show res=false from HR.out.symm.trans (Hz (e:=Br true le regs) pe))
     clear pe
     go_wp2_with (first
      | (go_at_call 48;refine(Nf _).mono ?_;rintro e w' ⟨rfl,rfl⟩)
      | (go_at_call 49;refine(Ab _ _ true _ rfl (by decide)).mono ?_;rintro e w' ⟨rfl,rfl⟩)
      | (go_at_call 49;refine(Ab _ _ false _ rfl (by decide)).mono ?_;rintro e w' ⟨rfl,rfl⟩)
      | (go_at_call 50;refine(Ar _ _ _).mono ?_;rintro e w' ⟨rfl,rfl⟩))
     go_ret
     exact⟨by rw[HN.out];rfl,HX.out⟩
    ·have PE:Hid (Br true le regs=true):=pe
     clear pe
     by_cases pf:n2=0
     ·have PF:=Lib.hid (show Br false lf regs=true from Fv (N2.out.trans pf))
      subst pf
      cases ne
      all_goals
       go_wp2_with (first
        | (go_at_call 48;refine(Nf _).mono ?_;rintro e w' ⟨rfl,rfl⟩)
        | (go_at_call 49;refine(Ab _ _ true _ rfl (by decide)).mono ?_;rintro e w' ⟨rfl,rfl⟩)
        | (go_at_call 49;refine(Ab _ _ false _ rfl (by decide)).mono ?_;rintro e w' ⟨rfl,rfl⟩)
        | (go_at_call 50;refine(Ar _ _ _).mono ?_;rintro e w' ⟨rfl,rfl⟩))
       go_ret
       exact⟨by rw[← HR.out,Pr.out,Pl.out,Pt.out,PE.out,PF.out];rfl,HX.out⟩
     ·have HN:=Lib.hid (show res=false from HR.out.symm.trans (I1 (Gk N2.out (by omega))))
      have g2:0 < n2:=by omega
      go_wp2_with (first
       | (go_at_call 48;refine(Nf _).mono ?_;rintro e w' ⟨rfl,rfl⟩)
       | (go_at_call 49;refine(Ab _ _ true _ rfl (by decide)).mono ?_;rintro e w' ⟨rfl,rfl⟩)
       | (go_at_call 49;refine(Ab _ _ false _ rfl (by decide)).mono ?_;rintro e w' ⟨rfl,rfl⟩)
       | (go_at_call 50;refine(Ar _ _ _).mono ?_;rintro e w' ⟨rfl,rfl⟩))
      go_ret
      exact⟨by rw[HN.out];rfl,HX.out⟩
set_option maxRecDepth 100000 in
set_option maxHeartbeats 4000000 in
theorem Aip (reg loc:Int) (le lf:List OpS) (ne:Bool) (goal:Int) (ve vf:Value) (regs locs many:Int) (w:World) (he:Sl rOp w ve le) (hf:Sl rOp w vf lf) :
 Calls Try.prog 34 #[.agg #[.int .i64 7,.int .i64 reg,.int .i64 loc,ve,vf,.bool ne,.int .i64 goal],.int .i64 regs,.int .i64 locs,.int .i64 many] w (C5 (Bj regs locs many ⟨7,reg,loc,le,lf,ne,goal⟩) w):=by
 have hl1:=he.len
 have hl2:=hf.len
 have HE:=Lib.hid he;have HF:=Lib.hid hf
 obtain⟨ae,ce,rfl,h1⟩:=Bq he
 obtain⟨af,cf,rfl,h2⟩:=Bq hf
 clear he hf h1 h2
 obtain⟨n1,hn1⟩:∃ n,le.length=n:=⟨_,rfl⟩
 obtain⟨n2,hn2⟩:∃ n,lf.length=n:=⟨_,rfl⟩
 rw[hn1] at hl1 HE ⊢
 rw[hn2] at hl2 HF ⊢
 have N1:=Lib.hid hn1;have N2:=Lib.hid hn2;clear hn1 hn2
 obtain⟨res,hres⟩:∃ r,Bj regs locs many ⟨7,reg,loc,le,lf,ne,goal⟩=r:=⟨_,rfl⟩
 have HR:Hid (((!ne || false)&&Ag true reg regs&&Ag true loc locs&&Ag false goal many&&Br true le regs&&Br false lf regs)=res):=hres
 rw[hres]
 clear hres
 have hB0:=Lib.hid (show Below w.heap.size w (w.alloc (.cells #[.int .i64 7,.int .i64 reg,.int .i64 loc,.slice ae n1 ce,.slice af n2 cf,.bool ne,.int .i64 goal] 44)) from(Below.refl _ _).alloc (Nat.le_refl _) _)
 cases pr:Ag true reg regs
 ·have HN:=Lib.hid (show res=false by rw[← HR.out,pr];simp)
  have qr:inB reg regs=false:=pr
  clear pr
  go_enter Try.func34,Try.ntmps34
  go_wp2_with (first
   | (go_at_call 48;refine(Nk _).mono ?_;rintro e w' ⟨rfl,rfl⟩)
   | (go_at_call 49;refine(Ab _ _ true _ rfl (by decide)).mono ?_;rintro e w' ⟨rfl,rfl⟩)
   | (go_at_call 49;refine(Ab _ _ false _ rfl (by decide)).mono ?_;rintro e w' ⟨rfl,rfl⟩)
   | (go_at_call 50;refine(Ar _ _ _).mono ?_;rintro e w' ⟨rfl,rfl⟩))
  go_ret
  exact⟨by rw[HN.out];rfl,hB0.out⟩
 ·have Pr:=Lib.hid pr
  have qr:inB reg regs=true:=pr
  clear pr
  cases pl:Ag true loc locs
  ·have HN:=Lib.hid (show res=false by rw[← HR.out,pl];simp)
   have ql:inB loc locs=false:=pl
   clear pl
   go_enter Try.func34,Try.ntmps34
   go_wp2_with (first
    | (go_at_call 48;refine(Nk _).mono ?_;rintro e w' ⟨rfl,rfl⟩)
    | (go_at_call 49;refine(Ab _ _ true _ rfl (by decide)).mono ?_;rintro e w' ⟨rfl,rfl⟩)
    | (go_at_call 49;refine(Ab _ _ false _ rfl (by decide)).mono ?_;rintro e w' ⟨rfl,rfl⟩)
    | (go_at_call 50;refine(Ar _ _ _).mono ?_;rintro e w' ⟨rfl,rfl⟩))
   go_ret
   exact⟨by rw[HN.out];rfl,hB0.out⟩
  ·have Pl:=Lib.hid pl
   have ql:inB loc locs=true:=pl
   clear pl
   cases pt:Ag false goal many
   ·have HN:=Lib.hid (show res=false by rw[← HR.out,pt];simp)
    have qt:(goal==0)=false:=by simpa [Ag] using pt
    have qt2:(goal != 0)=true:=by simpa [Ag] using pt
    clear pt
    go_enter Try.func34,Try.ntmps34
    go_wp2_with (first
     | (go_at_call 48;refine(Nk _).mono ?_;rintro e w' ⟨rfl,rfl⟩)
     | (go_at_call 49;refine(Ab _ _ true _ rfl (by decide)).mono ?_;rintro e w' ⟨rfl,rfl⟩)
     | (go_at_call 49;refine(Ab _ _ false _ rfl (by decide)).mono ?_;rintro e w' ⟨rfl,rfl⟩)
     | (go_at_call 50;refine(Ar _ _ _).mono ?_;rintro e w' ⟨rfl,rfl⟩))
    go_ret
    exact⟨by rw[HN.out];rfl,hB0.out⟩
   ·have Pt:=Lib.hid pt
    have qt:(goal==0)=true:=by simpa [Ag] using pt
    have qt2:(goal != 0)=false:=by simpa [Ag] using pt
    clear pt
    go_enter Try.func34,Try.ntmps34
    go_wp2_with (first
     | (go_at_call 48;refine(Nk _).mono ?_;rintro e w' ⟨rfl,rfl⟩)
     | (go_at_call 49;refine(Ab _ _ true _ rfl (by decide)).mono ?_;rintro e w' ⟨rfl,rfl⟩)
     | (go_at_call 49;refine(Ab _ _ false _ rfl (by decide)).mono ?_;rintro e w' ⟨rfl,rfl⟩)
     | (go_at_call 50;refine(Ar _ _ _).mono ?_;rintro e w' ⟨rfl,rfl⟩))
    have c4:=C2 w #[.int .i64 7,.int .i64 reg,.int .i64 loc,.slice ae n1 ce,.slice af n2 cf,.bool ne,.int .i64 goal] 44 4 _ rfl
    have c5:=C2 w #[.int .i64 7,.int .i64 reg,.int .i64 loc,.slice ae n1 ce,.slice af n2 cf,.bool ne,.int .i64 goal] 44 5 _ rfl
    have hWs:w.heap.size < (w.alloc (.cells #[.int .i64 7,.int .i64 reg,.int .i64 loc,.slice ae n1 ce,.slice af n2 cf,.bool ne,.int .i64 goal] 44)).heap.size:=by simp
    have HW:=hB0
    clear hB0
    generalize w.alloc (.cells #[.int .i64 7,.int .i64 reg,.int .i64 loc,.slice ae n1 ce,.slice af n2 cf,.bool ne,.int .i64 goal] 44)=W at *
    refine(G9 le [] regs 0 _ _ _ (HE.out.mono Cf HW.out) (Sl.nil _ _)).mono ?_
    rintro e w2 ⟨rfl,hb⟩
    have r4:=cell_later hb c4
    have r5:=cell_later hb c5
    have HX:=Lib.hid (HW.out.trans (hb.mono HW.out.size))
    have hW2:=hb.size
    clear hb c4 c5
    cases pe:Hw le [] regs 0
    ·have HN:=Lib.hid (show res=false from HR.out.symm.trans (Hz (e:=Br true le regs) pe))
     clear pe
     go_wp2_with (first
      | (go_at_call 48;refine(Nk _).mono ?_;rintro e w' ⟨rfl,rfl⟩)
      | (go_at_call 49;refine(Ab _ _ true _ rfl (by decide)).mono ?_;rintro e w' ⟨rfl,rfl⟩)
      | (go_at_call 49;refine(Ab _ _ false _ rfl (by decide)).mono ?_;rintro e w' ⟨rfl,rfl⟩)
      | (go_at_call 50;refine(Ar _ _ _).mono ?_;rintro e w' ⟨rfl,rfl⟩))
     go_ret
     exact⟨by rw[HN.out];rfl,HX.out⟩
    ·have PE:Hid (Br true le regs=true):=pe
     clear pe
     by_cases pf:n2=0
     ·have PF:=Lib.hid (show Br false lf regs=true from Fv (N2.out.trans pf))
      subst pf
      cases ne
      all_goals
       go_wp2_with (first
        | (go_at_call 48;refine(Nk _).mono ?_;rintro e w' ⟨rfl,rfl⟩)
        | (go_at_call 49;refine(Ab _ _ true _ rfl (by decide)).mono ?_;rintro e w' ⟨rfl,rfl⟩)
        | (go_at_call 49;refine(Ab _ _ false _ rfl (by decide)).mono ?_;rintro e w' ⟨rfl,rfl⟩)
        | (go_at_call 50;refine(Ar _ _ _).mono ?_;rintro e w' ⟨rfl,rfl⟩))
       go_ret
       exact⟨by rw[← HR.out,Pr.out,Pl.out,Pt.out,PE.out,PF.out];rfl,HX.out⟩
     ·have HN:=Lib.hid (show res=false from HR.out.symm.trans (I1 (Gk N2.out (by omega))))
      have g2:0 < n2:=by omega
      go_wp2_with (first
       | (go_at_call 48;refine(Nk _).mono ?_;rintro e w' ⟨rfl,rfl⟩)
       | (go_at_call 49;refine(Ab _ _ true _ rfl (by decide)).mono ?_;rintro e w' ⟨rfl,rfl⟩)
       | (go_at_call 49;refine(Ab _ _ false _ rfl (by decide)).mono ?_;rintro e w' ⟨rfl,rfl⟩)
       | (go_at_call 50;refine(Ar _ _ _).mono ?_;rintro e w' ⟨rfl,rfl⟩))
      go_ret
      exact⟨by rw[HN.out];rfl,HX.out⟩
set_option maxRecDepth 100000 in
set_option maxHeartbeats 4000000 in
theorem Ahq (reg loc:Int) (le lf:List OpS) (ne:Bool) (goal:Int) (ve vf:Value) (regs locs many:Int) (w:World) (he:Sl rOp w ve le) (hf:Sl rOp w vf lf) :
 Calls Try.prog 34 #[.agg #[.int .i64 9,.int .i64 reg,.int .i64 loc,ve,vf,.bool ne,.int .i64 goal],.int .i64 regs,.int .i64 locs,.int .i64 many] w (C5 (Bj regs locs many ⟨9,reg,loc,le,lf,ne,goal⟩) w):=by
 have hl1:=he.len
 have hl2:=hf.len
 have HE:=Lib.hid he;have HF:=Lib.hid hf
 obtain⟨ae,ce,rfl,h1⟩:=Bq he
 obtain⟨af,cf,rfl,h2⟩:=Bq hf
 clear he hf h1 h2
 obtain⟨n1,hn1⟩:∃ n,le.length=n:=⟨_,rfl⟩
 obtain⟨n2,hn2⟩:∃ n,lf.length=n:=⟨_,rfl⟩
 rw[hn1] at hl1 HE ⊢
 rw[hn2] at hl2 HF ⊢
 have N1:=Lib.hid hn1;have N2:=Lib.hid hn2;clear hn1 hn2
 obtain⟨res,hres⟩:∃ r,Bj regs locs many ⟨9,reg,loc,le,lf,ne,goal⟩=r:=⟨_,rfl⟩
 have HR:Hid (((!ne || true)&&Ag false reg regs&&Ag true loc locs&&Ag false goal many&&Br true le regs&&Br false lf regs)=res):=hres
 rw[hres]
 clear hres
 have hB0:=Lib.hid (show Below w.heap.size w (w.alloc (.cells #[.int .i64 9,.int .i64 reg,.int .i64 loc,.slice ae n1 ce,.slice af n2 cf,.bool ne,.int .i64 goal] 44)) from(Below.refl _ _).alloc (Nat.le_refl _) _)
 cases pr:Ag false reg regs
 ·have HN:=Lib.hid (show res=false by rw[← HR.out,pr];simp)
  have qr:(reg==0)=false:=by simpa [Ag] using pr
  have qr2:(reg != 0)=true:=by simpa [Ag] using pr
  clear pr
  go_enter Try.func34,Try.ntmps34
  go_wp2_with (first
   | (go_at_call 48;refine(N7 _).mono ?_;rintro e w' ⟨rfl,rfl⟩)
   | (go_at_call 49;refine(Ab _ _ true _ rfl (by decide)).mono ?_;rintro e w' ⟨rfl,rfl⟩)
   | (go_at_call 49;refine(Ab _ _ false _ rfl (by decide)).mono ?_;rintro e w' ⟨rfl,rfl⟩)
   | (go_at_call 50;refine(Ar _ _ _).mono ?_;rintro e w' ⟨rfl,rfl⟩))
  go_ret
  exact⟨by rw[HN.out];rfl,hB0.out⟩
 ·have Pr:=Lib.hid pr
  have qr:(reg==0)=true:=by simpa [Ag] using pr
  have qr2:(reg != 0)=false:=by simpa [Ag] using pr
  clear pr
  cases pl:Ag true loc locs
  ·have HN:=Lib.hid (show res=false by rw[← HR.out,pl];simp)
   have ql:inB loc locs=false:=pl
   clear pl
   go_enter Try.func34,Try.ntmps34
   go_wp2_with (first
    | (go_at_call 48;refine(N7 _).mono ?_;rintro e w' ⟨rfl,rfl⟩)
    | (go_at_call 49;refine(Ab _ _ true _ rfl (by decide)).mono ?_;rintro e w' ⟨rfl,rfl⟩)
    | (go_at_call 49;refine(Ab _ _ false _ rfl (by decide)).mono ?_;rintro e w' ⟨rfl,rfl⟩)
    | (go_at_call 50;refine(Ar _ _ _).mono ?_;rintro e w' ⟨rfl,rfl⟩))
   go_ret
   exact⟨by rw[HN.out];rfl,hB0.out⟩
  ·have Pl:=Lib.hid pl
   have ql:inB loc locs=true:=pl
   clear pl
   cases pt:Ag false goal many
   ·have HN:=Lib.hid (show res=false by rw[← HR.out,pt];simp)
    have qt:(goal==0)=false:=by simpa [Ag] using pt
    have qt2:(goal != 0)=true:=by simpa [Ag] using pt
    clear pt
    go_enter Try.func34,Try.ntmps34
    go_wp2_with (first
     | (go_at_call 48;refine(N7 _).mono ?_;rintro e w' ⟨rfl,rfl⟩)
     | (go_at_call 49;refine(Ab _ _ true _ rfl (by decide)).mono ?_;rintro e w' ⟨rfl,rfl⟩)
     | (go_at_call 49;refine(Ab _ _ false _ rfl (by decide)).mono ?_;rintro e w' ⟨rfl,rfl⟩)
     | (go_at_call 50;refine(Ar _ _ _).mono ?_;rintro e w' ⟨rfl,rfl⟩))
    go_ret
    exact⟨by rw[HN.out];rfl,hB0.out⟩
   ·have Pt:=Lib.hid pt
    have qt:(goal==0)=true:=by simpa [Ag] using pt
    have qt2:(goal != 0)=false:=by simpa [Ag] using pt
    clear pt
    go_enter Try.func34,Try.ntmps34
    go_wp2_with (first
     | (go_at_call 48;refine(N7 _).mono ?_;rintro e w' ⟨rfl,rfl⟩)
     | (go_at_call 49;refine(Ab _ _ true _ rfl (by decide)).mono ?_;rintro e w' ⟨rfl,rfl⟩)
     | (go_at_call 49;refine(Ab _ _ false _ rfl (by decide)).mono ?_;rintro e w' ⟨rfl,rfl⟩)
     | (go_at_call 50;refine(Ar _ _ _).mono ?_;rintro e w' ⟨rfl,rfl⟩))
    have c4:=C2 w #[.int .i64 9,.int .i64 reg,.int .i64 loc,.slice ae n1 ce,.slice af n2 cf,.bool ne,.int .i64 goal] 44 4 _ rfl
    have c5:=C2 w #[.int .i64 9,.int .i64 reg,.int .i64 loc,.slice ae n1 ce,.slice af n2 cf,.bool ne,.int .i64 goal] 44 5 _ rfl
    have hWs:w.heap.size < (w.alloc (.cells #[.int .i64 9,.int .i64 reg,.int .i64 loc,.slice ae n1 ce,.slice af n2 cf,.bool ne,.int .i64 goal] 44)).heap.size:=by simp
    have HW:=hB0
    clear hB0
    generalize w.alloc (.cells #[.int .i64 9,.int .i64 reg,.int .i64 loc,.slice ae n1 ce,.slice af n2 cf,.bool ne,.int .i64 goal] 44)=W at *
    refine(G9 le [] regs 0 _ _ _ (HE.out.mono Cf HW.out) (Sl.nil _ _)).mono ?_
    rintro e w2 ⟨rfl,hb⟩
    have r4:=cell_later hb c4
    have r5:=cell_later hb c5
    have HX:=Lib.hid (HW.out.trans (hb.mono HW.out.size))
    have hW2:=hb.size
    clear hb c4 c5
    cases pe:Hw le [] regs 0
    ·have HN:=Lib.hid (show res=false from HR.out.symm.trans (Hz (e:=Br true le regs) pe))
     clear pe
     go_wp2_with (first
      | (go_at_call 48;refine(N7 _).mono ?_;rintro e w' ⟨rfl,rfl⟩)
      | (go_at_call 49;refine(Ab _ _ true _ rfl (by decide)).mono ?_;rintro e w' ⟨rfl,rfl⟩)
      | (go_at_call 49;refine(Ab _ _ false _ rfl (by decide)).mono ?_;rintro e w' ⟨rfl,rfl⟩)
      | (go_at_call 50;refine(Ar _ _ _).mono ?_;rintro e w' ⟨rfl,rfl⟩))
     go_ret
     exact⟨by rw[HN.out];rfl,HX.out⟩
    ·have PE:Hid (Br true le regs=true):=pe
     clear pe
     by_cases pf:n2=0
     ·have PF:=Lib.hid (show Br false lf regs=true from Fv (N2.out.trans pf))
      subst pf
      cases ne
      all_goals
       go_wp2_with (first
        | (go_at_call 48;refine(N7 _).mono ?_;rintro e w' ⟨rfl,rfl⟩)
        | (go_at_call 49;refine(Ab _ _ true _ rfl (by decide)).mono ?_;rintro e w' ⟨rfl,rfl⟩)
        | (go_at_call 49;refine(Ab _ _ false _ rfl (by decide)).mono ?_;rintro e w' ⟨rfl,rfl⟩)
        | (go_at_call 50;refine(Ar _ _ _).mono ?_;rintro e w' ⟨rfl,rfl⟩))
       go_ret
       exact⟨by rw[← HR.out,Pr.out,Pl.out,Pt.out,PE.out,PF.out];rfl,HX.out⟩
     ·have HN:=Lib.hid (show res=false from HR.out.symm.trans (I1 (Gk N2.out (by omega))))
      have g2:0 < n2:=by omega
      go_wp2_with (first
       | (go_at_call 48;refine(N7 _).mono ?_;rintro e w' ⟨rfl,rfl⟩)
       | (go_at_call 49;refine(Ab _ _ true _ rfl (by decide)).mono ?_;rintro e w' ⟨rfl,rfl⟩)
       | (go_at_call 49;refine(Ab _ _ false _ rfl (by decide)).mono ?_;rintro e w' ⟨rfl,rfl⟩)
       | (go_at_call 50;refine(Ar _ _ _).mono ?_;rintro e w' ⟨rfl,rfl⟩))
      go_ret
      exact⟨by rw[HN.out];rfl,HX.out⟩
set_option maxRecDepth 100000 in
set_option maxHeartbeats 4000000 in
theorem Afb (reg loc:Int) (le lf:List OpS) (ne:Bool) (goal:Int) (ve vf:Value) (regs locs many:Int) (w:World) (he:Sl rOp w ve le) (hf:Sl rOp w vf lf) :
 Calls Try.prog 34 #[.agg #[.int .i64 20,.int .i64 reg,.int .i64 loc,ve,vf,.bool ne,.int .i64 goal],.int .i64 regs,.int .i64 locs,.int .i64 many] w (C5 (Bj regs locs many ⟨20,reg,loc,le,lf,ne,goal⟩) w):=by
 have hl1:=he.len
 have hl2:=hf.len
 have HE:=Lib.hid he;have HF:=Lib.hid hf
 obtain⟨ae,ce,rfl,h1⟩:=Bq he
 obtain⟨af,cf,rfl,h2⟩:=Bq hf
 clear he hf h1 h2
 obtain⟨n1,hn1⟩:∃ n,le.length=n:=⟨_,rfl⟩
 obtain⟨n2,hn2⟩:∃ n,lf.length=n:=⟨_,rfl⟩
 rw[hn1] at hl1 HE ⊢
 rw[hn2] at hl2 HF ⊢
 have N1:=Lib.hid hn1;have N2:=Lib.hid hn2;clear hn1 hn2
 obtain⟨res,hres⟩:∃ r,Bj regs locs many ⟨20,reg,loc,le,lf,ne,goal⟩=r:=⟨_,rfl⟩
 have HR:Hid (((!ne || false)&&Ag false reg regs&&Ag false loc locs&&Ag true goal many&&Br false le regs&&Br false lf regs)=res):=hres
 rw[hres]
 clear hres
 have hB0:=Lib.hid (show Below w.heap.size w (w.alloc (.cells #[.int .i64 20,.int .i64 reg,.int .i64 loc,.slice ae n1 ce,.slice af n2 cf,.bool ne,.int .i64 goal] 44)) from(Below.refl _ _).alloc (Nat.le_refl _) _)
 cases pr:Ag false reg regs
 ·have HN:=Lib.hid (show res=false by rw[← HR.out,pr];simp)
  have qr:(reg==0)=false:=by simpa [Ag] using pr
  have qr2:(reg != 0)=true:=by simpa [Ag] using pr
  clear pr
  go_enter Try.func34,Try.ntmps34
  go_wp2_with (first
   | (go_at_call 48;refine(N6 _).mono ?_;rintro e w' ⟨rfl,rfl⟩)
   | (go_at_call 49;refine(Ab _ _ true _ rfl (by decide)).mono ?_;rintro e w' ⟨rfl,rfl⟩)
   | (go_at_call 49;refine(Ab _ _ false _ rfl (by decide)).mono ?_;rintro e w' ⟨rfl,rfl⟩)
   | (go_at_call 50;refine(Ar _ _ _).mono ?_;rintro e w' ⟨rfl,rfl⟩))
  go_ret
  exact⟨by rw[HN.out];rfl,hB0.out⟩
 ·have Pr:=Lib.hid pr
  have qr:(reg==0)=true:=by simpa [Ag] using pr
  have qr2:(reg != 0)=false:=by simpa [Ag] using pr
  clear pr
  cases pl:Ag false loc locs
  ·have HN:=Lib.hid (show res=false by rw[← HR.out,pl];simp)
   have ql:(loc==0)=false:=by simpa [Ag] using pl
   have ql2:(loc != 0)=true:=by simpa [Ag] using pl
   clear pl
   go_enter Try.func34,Try.ntmps34
   go_wp2_with (first
    | (go_at_call 48;refine(N6 _).mono ?_;rintro e w' ⟨rfl,rfl⟩)
    | (go_at_call 49;refine(Ab _ _ true _ rfl (by decide)).mono ?_;rintro e w' ⟨rfl,rfl⟩)
    | (go_at_call 49;refine(Ab _ _ false _ rfl (by decide)).mono ?_;rintro e w' ⟨rfl,rfl⟩)
    | (go_at_call 50;refine(Ar _ _ _).mono ?_;rintro e w' ⟨rfl,rfl⟩))
   go_ret
   exact⟨by rw[HN.out];rfl,hB0.out⟩
  ·have Pl:=Lib.hid pl
   have ql:(loc==0)=true:=by simpa [Ag] using pl
   have ql2:(loc != 0)=false:=by simpa [Ag] using pl
   clear pl
   cases pt:Ag true goal many
   ·have HN:=Lib.hid (show res=false by rw[← HR.out,pt];simp)
    have qt:inB goal many=false:=pt
    clear pt
    go_enter Try.func34,Try.ntmps34
    go_wp2_with (first
     | (go_at_call 48;refine(N6 _).mono ?_;rintro e w' ⟨rfl,rfl⟩)
     | (go_at_call 49;refine(Ab _ _ true _ rfl (by decide)).mono ?_;rintro e w' ⟨rfl,rfl⟩)
     | (go_at_call 49;refine(Ab _ _ false _ rfl (by decide)).mono ?_;rintro e w' ⟨rfl,rfl⟩)
     | (go_at_call 50;refine(Ar _ _ _).mono ?_;rintro e w' ⟨rfl,rfl⟩))
    go_ret
    exact⟨by rw[HN.out];rfl,hB0.out⟩
   ·have Pt:=Lib.hid pt
    have qt:inB goal many=true:=pt
    clear pt
    by_cases pe:n1=0
    ·have PE:=Lib.hid (show Br false le regs=true from Fv (N1.out.trans pe))
     subst pe
     by_cases pf:n2=0
     ·have PF:=Lib.hid (show Br false lf regs=true from Fv (N2.out.trans pf))
      subst pf
      cases ne
      all_goals
       go_enter Try.func34,Try.ntmps34
       go_wp2_with (first
        | (go_at_call 48;refine(N6 _).mono ?_;rintro e w' ⟨rfl,rfl⟩)
        | (go_at_call 49;refine(Ab _ _ true _ rfl (by decide)).mono ?_;rintro e w' ⟨rfl,rfl⟩)
        | (go_at_call 49;refine(Ab _ _ false _ rfl (by decide)).mono ?_;rintro e w' ⟨rfl,rfl⟩)
        | (go_at_call 50;refine(Ar _ _ _).mono ?_;rintro e w' ⟨rfl,rfl⟩))
       go_ret
       exact⟨by rw[← HR.out,Pr.out,Pl.out,Pt.out,PE.out,PF.out];rfl,hB0.out⟩
     ·have HN:=Lib.hid (show res=false from HR.out.symm.trans (I1 (Gk N2.out (by omega))))
      have g2:0 < n2:=by omega
      go_enter Try.func34,Try.ntmps34
      go_wp2_with (first
       | (go_at_call 48;refine(N6 _).mono ?_;rintro e w' ⟨rfl,rfl⟩)
       | (go_at_call 49;refine(Ab _ _ true _ rfl (by decide)).mono ?_;rintro e w' ⟨rfl,rfl⟩)
       | (go_at_call 49;refine(Ab _ _ false _ rfl (by decide)).mono ?_;rintro e w' ⟨rfl,rfl⟩)
       | (go_at_call 50;refine(Ar _ _ _).mono ?_;rintro e w' ⟨rfl,rfl⟩))
      go_ret
      exact⟨by rw[HN.out];rfl,hB0.out⟩
    ·have HN:=Lib.hid (show res=false from HR.out.symm.trans (Hz (Gk N1.out (by omega))))
     have g1:0 < n1:=by omega
     go_enter Try.func34,Try.ntmps34
     go_wp2_with (first
      | (go_at_call 48;refine(N6 _).mono ?_;rintro e w' ⟨rfl,rfl⟩)
      | (go_at_call 49;refine(Ab _ _ true _ rfl (by decide)).mono ?_;rintro e w' ⟨rfl,rfl⟩)
      | (go_at_call 49;refine(Ab _ _ false _ rfl (by decide)).mono ?_;rintro e w' ⟨rfl,rfl⟩)
      | (go_at_call 50;refine(Ar _ _ _).mono ?_;rintro e w' ⟨rfl,rfl⟩))
     go_ret
     exact⟨by rw[HN.out];rfl,hB0.out⟩
set_option maxRecDepth 100000 in
set_option maxHeartbeats 4000000 in
theorem Aey (reg loc:Int) (le lf:List OpS) (ne:Bool) (goal:Int) (ve vf:Value) (regs locs many:Int) (w:World) (he:Sl rOp w ve le) (hf:Sl rOp w vf lf) :
 Calls Try.prog 34 #[.agg #[.int .i64 21,.int .i64 reg,.int .i64 loc,ve,vf,.bool ne,.int .i64 goal],.int .i64 regs,.int .i64 locs,.int .i64 many] w (C5 (Bj regs locs many ⟨21,reg,loc,le,lf,ne,goal⟩) w):=by
 have hl1:=he.len
 have hl2:=hf.len
 have HE:=Lib.hid he;have HF:=Lib.hid hf
 obtain⟨ae,ce,rfl,h1⟩:=Bq he
 obtain⟨af,cf,rfl,h2⟩:=Bq hf
 clear he hf h1 h2
 obtain⟨n1,hn1⟩:∃ n,le.length=n:=⟨_,rfl⟩
 obtain⟨n2,hn2⟩:∃ n,lf.length=n:=⟨_,rfl⟩
 rw[hn1] at hl1 HE ⊢
 rw[hn2] at hl2 HF ⊢
 have N1:=Lib.hid hn1;have N2:=Lib.hid hn2;clear hn1 hn2
 obtain⟨res,hres⟩:∃ r,Bj regs locs many ⟨21,reg,loc,le,lf,ne,goal⟩=r:=⟨_,rfl⟩
 have HR:Hid (((!ne || false)&&Ag false reg regs&&Ag false loc locs&&Ag true goal many&&Br true le regs&&Br false lf regs)=res):=hres
 rw[hres]
 clear hres
 have hB0:=Lib.hid (show Below w.heap.size w (w.alloc (.cells #[.int .i64 21,.int .i64 reg,.int .i64 loc,.slice ae n1 ce,.slice af n2 cf,.bool ne,.int .i64 goal] 44)) from(Below.refl _ _).alloc (Nat.le_refl _) _)
 cases pr:Ag false reg regs
 ·have HN:=Lib.hid (show res=false by rw[← HR.out,pr];simp)
  have qr:(reg==0)=false:=by simpa [Ag] using pr
  have qr2:(reg != 0)=true:=by simpa [Ag] using pr
  clear pr
  go_enter Try.func34,Try.ntmps34
  go_wp2_with (first
   | (go_at_call 48;refine(Li _).mono ?_;rintro e w' ⟨rfl,rfl⟩)
   | (go_at_call 49;refine(Ab _ _ true _ rfl (by decide)).mono ?_;rintro e w' ⟨rfl,rfl⟩)
   | (go_at_call 49;refine(Ab _ _ false _ rfl (by decide)).mono ?_;rintro e w' ⟨rfl,rfl⟩)
   | (go_at_call 50;refine(Ar _ _ _).mono ?_;rintro e w' ⟨rfl,rfl⟩))
  go_ret
  exact⟨by rw[HN.out];rfl,hB0.out⟩
 ·have Pr:=Lib.hid pr
  have qr:(reg==0)=true:=by simpa [Ag] using pr
  have qr2:(reg != 0)=false:=by simpa [Ag] using pr
  clear pr
  cases pl:Ag false loc locs
  ·have HN:=Lib.hid (show res=false by rw[← HR.out,pl];simp)
   have ql:(loc==0)=false:=by simpa [Ag] using pl
   have ql2:(loc != 0)=true:=by simpa [Ag] using pl
   clear pl
   go_enter Try.func34,Try.ntmps34
   go_wp2_with (first
    | (go_at_call 48;refine(Li _).mono ?_;rintro e w' ⟨rfl,rfl⟩)
    | (go_at_call 49;refine(Ab _ _ true _ rfl (by decide)).mono ?_;rintro e w' ⟨rfl,rfl⟩)
    | (go_at_call 49;refine(Ab _ _ false _ rfl (by decide)).mono ?_;rintro e w' ⟨rfl,rfl⟩)
    | (go_at_call 50;refine(Ar _ _ _).mono ?_;rintro e w' ⟨rfl,rfl⟩))
   go_ret
   exact⟨by rw[HN.out];rfl,hB0.out⟩
  ·have Pl:=Lib.hid pl
   have ql:(loc==0)=true:=by simpa [Ag] using pl
   have ql2:(loc != 0)=false:=by simpa [Ag] using pl
   clear pl
   cases pt:Ag true goal many
   ·have HN:=Lib.hid (show res=false by rw[← HR.out,pt];simp)
    have qt:inB goal many=false:=pt
    clear pt
    go_enter Try.func34,Try.ntmps34
    go_wp2_with (first
     | (go_at_call 48;refine(Li _).mono ?_;rintro e w' ⟨rfl,rfl⟩)
     | (go_at_call 49;refine(Ab _ _ true _ rfl (by decide)).mono ?_;rintro e w' ⟨rfl,rfl⟩)
     | (go_at_call 49;refine(Ab _ _ false _ rfl (by decide)).mono ?_;rintro e w' ⟨rfl,rfl⟩)
     | (go_at_call 50;refine(Ar _ _ _).mono ?_;rintro e w' ⟨rfl,rfl⟩))
    go_ret
    exact⟨by rw[HN.out];rfl,hB0.out⟩
   ·have Pt:=Lib.hid pt
    have qt:inB goal many=true:=pt
    clear pt
    go_enter Try.func34,Try.ntmps34
    go_wp2_with (first
     | (go_at_call 48;refine(Li _).mono ?_;rintro e w' ⟨rfl,rfl⟩)
     | (go_at_call 49;refine(Ab _ _ true _ rfl (by decide)).mono ?_;rintro e w' ⟨rfl,rfl⟩)
     | (go_at_call 49;refine(Ab _ _ false _ rfl (by decide)).mono ?_;rintro e w' ⟨rfl,rfl⟩)
     | (go_at_call 50;refine(Ar _ _ _).mono ?_;rintro e w' ⟨rfl,rfl⟩))
    have c4:=C2 w #[.int .i64 21,.int .i64 reg,.int .i64 loc,.slice ae n1 ce,.slice af n2 cf,.bool ne,.int .i64 goal] 44 4 _ rfl
    have c5:=C2 w #[.int .i64 21,.int .i64 reg,.int .i64 loc,.slice ae n1 ce,.slice af n2 cf,.bool ne,.int .i64 goal] 44 5 _ rfl
    have hWs:w.heap.size < (w.alloc (.cells #[.int .i64 21,.int .i64 reg,.int .i64 loc,.slice ae n1 ce,.slice af n2 cf,.bool ne,.int .i64 goal] 44)).heap.size:=by simp
    have HW:=hB0
    clear hB0
    generalize w.alloc (.cells #[.int .i64 21,.int .i64 reg,.int .i64 loc,.slice ae n1 ce,.slice af n2 cf,.bool ne,.int .i64 goal] 44)=W at *
    refine(G9 le [] regs 0 _ _ _ (HE.out.mono Cf HW.out) (Sl.nil _ _)).mono ?_
    rintro e w2 ⟨rfl,hb⟩
    have r4:=cell_later hb c4
    have r5:=cell_later hb c5
    have HX:=Lib.hid (HW.out.trans (hb.mono HW.out.size))
    have hW2:=hb.size
    clear hb c4 c5
    cases pe:Hw le [] regs 0
    ·have HN:=Lib.hid (show res=false from HR.out.symm.trans (Hz (e:=Br true le regs) pe))
     clear pe
     go_wp2_with (first
      | (go_at_call 48;refine(Li _).mono ?_;rintro e w' ⟨rfl,rfl⟩)
      | (go_at_call 49;refine(Ab _ _ true _ rfl (by decide)).mono ?_;rintro e w' ⟨rfl,rfl⟩)
      | (go_at_call 49;refine(Ab _ _ false _ rfl (by decide)).mono ?_;rintro e w' ⟨rfl,rfl⟩)
      | (go_at_call 50;refine(Ar _ _ _).mono ?_;rintro e w' ⟨rfl,rfl⟩))
     go_ret
     exact⟨by rw[HN.out];rfl,HX.out⟩
    ·have PE:Hid (Br true le regs=true):=pe
     clear pe
     by_cases pf:n2=0
     ·have PF:=Lib.hid (show Br false lf regs=true from Fv (N2.out.trans pf))
      subst pf
      cases ne
      all_goals
       go_wp2_with (first
        | (go_at_call 48;refine(Li _).mono ?_;rintro e w' ⟨rfl,rfl⟩)
        | (go_at_call 49;refine(Ab _ _ true _ rfl (by decide)).mono ?_;rintro e w' ⟨rfl,rfl⟩)
        | (go_at_call 49;refine(Ab _ _ false _ rfl (by decide)).mono ?_;rintro e w' ⟨rfl,rfl⟩)
        | (go_at_call 50;refine(Ar _ _ _).mono ?_;rintro e w' ⟨rfl,rfl⟩))
       go_ret
       exact⟨by rw[← HR.out,Pr.out,Pl.out,Pt.out,PE.out,PF.out];rfl,HX.out⟩
     ·have HN:=Lib.hid (show res=false from HR.out.symm.trans (I1 (Gk N2.out (by omega))))
      have g2:0 < n2:=by omega
      go_wp2_with (first
       | (go_at_call 48;refine(Li _).mono ?_;rintro e w' ⟨rfl,rfl⟩)
       | (go_at_call 49;refine(Ab _ _ true _ rfl (by decide)).mono ?_;rintro e w' ⟨rfl,rfl⟩)
       | (go_at_call 49;refine(Ab _ _ false _ rfl (by decide)).mono ?_;rintro e w' ⟨rfl,rfl⟩)
       | (go_at_call 50;refine(Ar _ _ _).mono ?_;rintro e w' ⟨rfl,rfl⟩))
      go_ret
      exact⟨by rw[HN.out];rfl,HX.out⟩
set_option maxRecDepth 100000 in
set_option maxHeartbeats 4000000 in
theorem A9a (op reg loc:Int) (le lf:List OpS) (ne:Bool) (goal:Int) (ve vf:Value) (regs locs many:Int) (w:World) (he:Sl rOp w ve le) (hf:Sl rOp w vf lf) (h:C9 op=none) :
 Calls Try.prog 34 #[.agg #[.int .i64 op,.int .i64 reg,.int .i64 loc,ve,vf,.bool ne,.int .i64 goal],.int .i64 regs,.int .i64 locs,.int .i64 many] w (C5 (Bj regs locs many ⟨op,reg,loc,le,lf,ne,goal⟩) w):=by
 have HN:=Lib.hid (show Bj regs locs many ⟨op,reg,loc,le,lf,ne,goal⟩=false by simp[Bj,h])
 rw[HN.out]
 obtain⟨ae,ce,rfl,h1⟩:=Bq he
 obtain⟨af,cf,rfl,h2⟩:=Bq hf
 have H:=Lib.hid h
 clear he hf h1 h2 h
 go_enter Try.func34,Try.ntmps34
 go_wp2_with (first | (go_at_call 48;refine(Aaz op _ H.out).mono ?_;rintro e w' ⟨rfl,rfl⟩))
 go_ret
 exact⟨rfl,(Below.refl _ _).alloc (Nat.le_refl _) _⟩
theorem A7x (op:Int):(op=2∨op=3∨op=4∨op=5∨op=6∨op=7∨op=8∨op=9∨op=20∨op=21)∨C9 op=none:=by
 by_cases h:op=2∨op=3∨op=4∨op=5∨op=6∨op=7∨op=8∨op=9∨op=20∨op=21
 ·exact .inl h
 ·right
  simp only[C9]
  repeat rw[if_neg (by omega)]
theorem Ady (op reg loc:Int) (le lf:List OpS) (ne:Bool) (goal:Int) (ve vf:Value) (regs locs many:Int) (w:World) (he:Sl rOp w ve le) (hf:Sl rOp w vf lf) :
 Calls Try.prog 34 #[.agg #[.int .i64 op,.int .i64 reg,.int .i64 loc,ve,vf,.bool ne,.int .i64 goal],.int .i64 regs,.int .i64 locs,.int .i64 many] w (C5 (Bj regs locs many ⟨op,reg,loc,le,lf,ne,goal⟩) w):=by
 rcases A7x op with (rfl | rfl | rfl | rfl | rfl | rfl | rfl | rfl | rfl | rfl) | h
 ·exact Aht _ _ _ _ _ _ _ _ _ _ _ _ he hf
 ·exact Air _ _ _ _ _ _ _ _ _ _ _ _ he hf
 ·exact Ahy _ _ _ _ _ _ _ _ _ _ _ _ he hf
 ·exact Ahv _ _ _ _ _ _ _ _ _ _ _ _ he hf
 ·exact Aic _ _ _ _ _ _ _ _ _ _ _ _ he hf
 ·exact Aip _ _ _ _ _ _ _ _ _ _ _ _ he hf
 ·exact Ai2 _ _ _ _ _ _ _ _ _ _ _ _ he hf
 ·exact Ahq _ _ _ _ _ _ _ _ _ _ _ _ he hf
 ·exact Afb _ _ _ _ _ _ _ _ _ _ _ _ he hf
 ·exact Aey _ _ _ _ _ _ _ _ _ _ _ _ he hf
 ·exact A9a _ _ _ _ _ _ _ _ _ _ _ _ _ he hf h
set_option maxRecDepth 100000 in
set_option maxHeartbeats 4000000 in
theorem Uv (u:Ac) (v:Value) (w:World) (hv:UnitV w v u) (hh:Ho u=false∨Ji u.init u.mod=false) :
 Calls Try.prog 22 #[v] w (C5 false w):=by
 obtain⟨vi,vr,vc,rfl,s1,s2,s3,m1,m2⟩:=hv
 have l1:=s1.len;have l2:=s2.len;have l3:=s3.len
 have S1:=Lib.hid s1
 obtain⟨a1,c1,rfl,h1⟩:=C6 s1
 obtain⟨a2,c2,rfl,h2⟩:=C6 s2
 obtain⟨a3,c3,rfl,h3⟩:=Eh s3
 clear s1 s2 s3 h1 h2 h3
 obtain⟨b,hb⟩:∃ b,Ji u.init u.mod=b:=⟨_,rfl⟩
 have HH:Hid (2≤u.mod→u.mod≤16→b=true→u.init.length≤6→1≤u.regs.length→u.regs.length≤4→u.code.length=u.regs.length→False):=fun h1 h2 h3 h4 h5 h6 h7=>by
  rcases hh with hh | hh
  ·exact A2f hh h1 h2 h4 h5 h6 h7
  ·rw[hb,h3] at hh;cases hh
 clear hh
 obtain⟨mod,init,regs,code⟩:=u
 dsimp only at *
 have HBB:=Lib.hid hb
 clear hb
 obtain⟨n1,hn1⟩:∃ n,init.length=n:=⟨_,rfl⟩
 rw[hn1] at l1 S1 HH ⊢
 clear hn1
 generalize regs.length=n2 at *
 generalize code.length=n3 at *
 cases b
 all_goals
  go_enter Try.func22,Try.ntmps22
  go_wp2_with (first | (go_at_call 32;refine(A29 init mod _ _ (S1.out.mono (Dg _) ((Below.refl _ _).alloc (Nat.le_refl _) _))).mono ?_;rintro e w' ⟨rfl,rfl⟩;rw[HBB.out]))
  all_goals
   first
   | (go_ret;exact⟨rfl,(Below.refl _ _).alloc (Nat.le_refl _) _⟩)
   | (exfalso;exact HH.out (by omega) (by omega) (by first | rfl | trivial) (by omega) (by omega) (by omega) (by first | omega | exact A58 (by first | assumption | exact(by assumption:_∧((n3:Int) != (n2:Int))=false).2)))
set_option maxRecDepth 100000 in
set_option maxHeartbeats 8000000 in
theorem A5f (u:Ac) (v:Value) (w:World) (hv:UnitV w v u) (hh:Ho u=true) (hi:Ji u.init u.mod=true) :
 Calls Try.prog 22 #[v] w (C5 (Ax u) w):=by
 obtain⟨vi,vr,vc,rfl,s1,s2,s3,m1,m2⟩:=hv
 have l1:=s1.len;have l2:=s2.len;have l3:=s3.len
 have S1:=Lib.hid s1
 obtain⟨a1,c1,rfl,h1⟩:=C6 s1
 obtain⟨a2,c2,rfl,h2⟩:=C6 s2
 obtain⟨a3,c3,rfl,h3⟩:=Eh s3
 have H2:=Lib.hid h2;have H3:=Lib.hid h3
 clear s1 s2 s3 h1 h2 h3
 have HH:=Lib.hid hh
 have HI:=Lib.hid hi
 simp only[Ho,A9] at hh
 obtain⟨g1,g2,g3,g4,g5,g6⟩:=hh
 obtain⟨res,hres⟩:∃ r,Ax u=r:=⟨_,rfl⟩
 have HR:=Lib.hid hres
 rw[hres]
 clear hres hi
 obtain⟨mod,init,regs,code⟩:=u
 dsimp only at *
 obtain⟨n1,hn1⟩:∃ n,init.length=n:=⟨_,rfl⟩
 obtain⟨n2,hn2⟩:∃ n,regs.length=n:=⟨_,rfl⟩
 rw[hn1] at g3 S1 ⊢
 rw[hn2] at g4 g5 g6 ⊢
 rw[g6]
 have N1:=Lib.hid hn1;have N2:=Lib.hid hn2;have N3:=Lib.hid g6
 clear hn1 hn2 g6 l1 l2 l3
 have hBW:Below w.heap.size w (w.alloc (.cells #[.int .i64 mod,.slice a1 n1 c1,.slice a2 n2 c2,.slice a3 n2 c3] 25)):=(Below.refl _ _).alloc (Nat.le_refl _) _
 have q1:=C2 w #[.int .i64 mod,.slice a1 n1 c1,.slice a2 n2 c2,.slice a3 n2 c3] 25 1 _ rfl
 have q2:=C2 w #[.int .i64 mod,.slice a1 n1 c1,.slice a2 n2 c2,.slice a3 n2 c3] 25 2 _ rfl
 have q3:=C2 w #[.int .i64 mod,.slice a1 n1 c1,.slice a2 n2 c2,.slice a3 n2 c3] 25 3 _ rfl
 have hWs:w.heap.size < (w.alloc (.cells #[.int .i64 mod,.slice a1 n1 c1,.slice a2 n2 c2,.slice a3 n2 c3] 25)).heap.size:=by simp
 have ZZ:Hid (Below w.heap.size w (w.alloc (.cells #[.int .i64 mod,.slice a1 n1 c1,.slice a2 n2 c2,.slice a3 n2 c3] 25))∧_∧_∧_∧_):=⟨hBW,q1,q2,q3,hWs⟩
 clear hBW q1 q2 q3 hWs
 go_enter Try.func22,Try.ntmps22
 go_wp2_with (first | (go_at_call 32;refine(A29 init mod _ _ (S1.out.mono (Dg _) ZZ.out.1)).mono ?_;rintro e w' ⟨rfl,rfl⟩;rw[HI.out]))
 obtain⟨hBW,q1,q2,q3,hWs⟩:=ZZ.out
 generalize w.alloc (.cells #[.int .i64 mod,.slice a1 n1 c1,.slice a2 n2 c2,.slice a3 n2 c3] 25)=W at *
 have HW:=Lib.hid hBW
 clear hBW ZZ
 go_loopw [3] (fun i wr=>∃ k:Nat,i=.int .i64 k∧k≤n2∧(∀ j,j < regs.length→j < k→Er ⟨mod,init,regs,code⟩ j=true)∧Below W.heap.size W wr) (fun i _=>n2 - (intOf i).toNat)
 case atStart=>exact⟨0,rfl,by omega,fun j _ h=>absurd h (by omega),Below.refl _ _⟩
 case round =>
  obtain⟨k,rfl,hk,hall,hb⟩:=hrel
  have Hall:=Lib.hid hall;have HB:=Lib.hid hb
  have hz:=hb.size
  have z1:=cell_later hb q1
  have z2:=cell_later hb q2
  have z3:=cell_later hb q3
  clear hall hb
  by_cases hlt:k < n2
  ·have hkr:k < regs.length:=by have:=N2.out;omega
   have hkc:k < code.length:=by have:=N3.out;omega
   obtain⟨b,o,rfl,x1,bd1,bd2⟩:=H2.out k hkr
   obtain⟨b3,o3,vr,rfl,x3,sr⟩:=H3.out k hkc
   clear bd1 bd2
   obtain⟨x,hx⟩:∃ x,regs[k]'hkr=x:=⟨_,rfl⟩
   obtain⟨row,hrow⟩:∃ r,code[k]'hkc=r:=⟨_,rfl⟩
   rw[hx] at x1
   rw[hrow] at sr
   have HT:=Lib.hid (show Er ⟨mod,init,regs,code⟩ k=(decide (0≤x∧x≤6)&&G8 row x n1) by rw[Kr (u:=⟨mod,init,regs,code⟩) hkr hkc,hx,hrow,N1.out])
   clear hx hrow
   have y1:=cell_later HB.out (cell_later HW.out x1)
   have y3:=cell_later HB.out (cell_later HW.out x3)
   have hl4:=sr.len
   obtain⟨ar,cr,rfl,hr⟩:=Nz sr
   have HRW:=Lib.hid hr
   clear x1 x3 sr hr
   have Hbad:Hid (Er ⟨mod,init,regs,code⟩ k=false→res=false):=fun h=>by rw[← HR.out];exact Zl (u:=⟨mod,init,regs,code⟩) hkr h
   have Hno:Hid (¬ (0≤x∧x≤6)∨G8 row x n1=false→res=false):=fun h=>Hbad.out (by
    rw[HT.out]
    rcases h with h | h
    ·rw[decide_eq_false h];rfl
    ·rw[h,Bool.and_false])
   have hend:∀ w',Below wr.heap.size wr w'→Below w.heap.size w w':=fun w' hb=>HW.out.trans ((HB.out.trans (hb.mono hz)).mono (by omega))
   have Hend:=Lib.hid hend
   clear hend
   obtain⟨n4,hn4⟩:∃ n,row.length=n:=⟨_,rfl⟩
   rw[hn4] at hl4 y3
   have N4:=Lib.hid hn4
   clear hn4
   by_cases c1:x < 0
   ·have HN:=Lib.hid (Hno.out (.inl (by omega)))
    go_wp2_with fail
    go_ret
    exact⟨by rw[HN.out];rfl,Hend.out _ (Below.refl _ _)⟩
   by_cases c2:6 < x
   ·have HN:=Lib.hid (Hno.out (.inl (by omega)))
    go_wp2_with fail
    go_ret
    exact⟨by rw[HN.out];rfl,Hend.out _ (Below.refl _ _)⟩
   by_cases c3:n4=0
   ·have HN:=Lib.hid (Hno.out (.inr (P5 (by rw[N4.out];omega))))
    subst c3
    go_wp2_with fail
    go_ret
    exact⟨by rw[HN.out];rfl,Hend.out _ (Below.refl _ _)⟩
   by_cases c4:1000 < n4
   ·have HN:=Lib.hid (Hno.out (.inr (P5 (by rw[N4.out];omega))))
    go_wp2_with fail
    go_ret
    exact⟨by rw[HN.out];rfl,Hend.out _ (Below.refl _ _)⟩
   obtain⟨m,rfl⟩:∃ m,n4=m+1:=⟨n4 - 1,by omega⟩
   have hml:m < row.length:=by have:=N4.out;omega
   obtain⟨br,orr,ve,vf,rfl,i0,i1,i2,i3,i4,i5,i6,e1,e2,bd⟩:=HRW.out m hml
   clear bd
   obtain⟨y,hy⟩:∃ y,row[m]'hml=y:=⟨_,rfl⟩
   rw[hy] at i0 i1 i2 i5 i6 e1 e2
   have HL:Hid (∀ h:row.length - 1 < row.length,row[row.length - 1]'h=y):=fun h=>by rw[← hy];congr 1;have:=N4.out;omega
   clear hy
   have j0:=cell_later HB.out (cell_later HW.out i0);have j1:=cell_later HB.out (cell_later HW.out i1);have j2:=cell_later HB.out (cell_later HW.out i2);have j3:=cell_later HB.out (cell_later HW.out i3)
   have j4:=cell_later HB.out (cell_later HW.out i4);have j5:=cell_later HB.out (cell_later HW.out i5);have j6:=cell_later HB.out (cell_later HW.out i6)
   have E1:=Lib.hid ((e1.mono Cf HW.out).mono Cf HB.out);have E2:=Lib.hid ((e2.mono Cf HW.out).mono Cf HB.out)
   clear i0 i1 i2 i3 i4 i5 i6 e1 e2 c3
   have d1:decide (x < 0)=false:=decide_eq_false c1
   have d2:decide (6 < x)=false:=decide_eq_false c2
   have hm9:m≤999:=by omega
   go_wp2_with fail
   refine(A9n y ve vf _ E1.out E2.out).mono ?_
   rintro e w1 ⟨rfl,hb1⟩
   have HB1:=Lib.hid (HB.out.trans (hb1.mono hz))
   have pp1:=cell_later hb1 z1;have pp2:=cell_later hb1 z2;have pp3:=cell_later hb1 z3;have ppy:=cell_later hb1 y1
   have hz1:=hb1.size
   have Hend1:=Lib.hid (Hend.out _ hb1)
   clear hb1 j0 j1 j2 j3 j4 j5 j6 z1 z2 z3 y1 y3
   cases hd:Kz y
   ·have HN:=Lib.hid (Hno.out (.inr (Zp (by omega) (by rw[HL.out (by omega)];exact hd))))
    clear hd
    go_wp2_with fail
    go_ret
    exact⟨by rw[HN.out];rfl,Hend1.out⟩
   have HD:=Lib.hid hd
   clear hd
   go_wp2_with fail
   have hrlen:row.length=m+1:=N4.out
   have HRL:=Lib.hid hrlen
   clear hrlen hml
   go_loopw [5] (fun i wq=>∃ t:Nat,i=.int .i64 t∧t≤m∧(∀ j (h:j < row.length),j < t→Bj x n1 row.length row[j]=true)∧Below w1.heap.size w1 wq) (fun i _=>m - (intOf i).toNat)
   case atStart=>exact⟨0,rfl,by omega,fun j _ h=>absurd h (by omega),Below.refl _ _⟩
   case round =>
    obtain⟨t,rfl,ht,halli,hbi⟩:=hrel
    have Halli:=Lib.hid halli;have HBI:=Lib.hid hbi
    have hzi:=hbi.size
    have v1:=cell_later hbi pp1;have v2:=cell_later hbi pp2;have v3:=cell_later hbi pp3;have vy:=cell_later hbi ppy
    clear halli hbi
    by_cases hti:t < m
    ·have htl:t < row.length:=by have:=HRL.out;omega
     obtain⟨br2,or2,ve2,vf2,heq,i0,i1,i2,i3,i4,i5,i6,e1,e2,bd⟩:=HRW.out t htl
     simp only[Option.some.injEq,Addr.mk.injEq,and_true] at heq
     obtain⟨rfl,rfl⟩:=heq
     clear bd
     obtain⟨yy,hyy⟩:∃ yy,row[t]'htl=yy:=⟨_,rfl⟩
     rw[hyy] at i0 i1 i2 i5 i6 e1 e2
     have HY:=Lib.hid hyy;clear hyy
     obtain⟨op,reg,loc,le,lf,ne,goal⟩:=yy
     dsimp only at i0 i1 i2 i5 i6 e1 e2
     have j0:=cell_later HBI.out (cell_later HB1.out (cell_later HW.out i0));have j1:=cell_later HBI.out (cell_later HB1.out (cell_later HW.out i1));have j2:=cell_later HBI.out (cell_later HB1.out (cell_later HW.out i2));have j3:=cell_later HBI.out (cell_later HB1.out (cell_later HW.out i3))
     have j4:=cell_later HBI.out (cell_later HB1.out (cell_later HW.out i4));have j5:=cell_later HBI.out (cell_later HB1.out (cell_later HW.out i5));have j6:=cell_later HBI.out (cell_later HB1.out (cell_later HW.out i6))
     have F1:=Lib.hid (((e1.mono Cf HW.out).mono Cf HB1.out).mono Cf HBI.out);have F2:=Lib.hid (((e2.mono Cf HW.out).mono Cf HB1.out).mono Cf HBI.out)
     clear i0 i1 i2 i3 i4 i5 i6 e1 e2
     have f1:=Later.cell v1;have f2:=Later.cell v2;have fy:=Later.cell vy
     have g0:=Later.cell j0;have g1:=Later.cell j1;have g2:=Later.cell j2;have g3:=Later.cell j3;have g4:=Later.cell j4;have g5:=Later.cell j5;have g6:=Later.cell j6
     go_wp2_with fail
     refine Je (by kernel_rfl) (by kernel_rfl) ?_
     repeat (go_big_quiet_step ((go_at_call 34;exact Calls.later (Ady op reg loc le lf ne goal ve2 vf2 x n1 ((m:Int)+1) _ (F1.out.mono Cf (Later.below _)) (F2.out.mono Cf (Later.below _))) (fun _ _ h=>h))))
     refine wpQuiet_nil ?_
     rintro w4 ⟨⟨w5,hb5⟩,rfl⟩
     clear f1 f2 fy g0 g1 g2 g3 g4 g5 g6 j0 j1 j2 j3 j4 j5 j6 v1 v2 v3 vy
     have HB5:=Lib.hid (HBI.out.trans (hb5.mono hzi))
     clear hb5
     cases hok:Bj x n1 ((m:Int)+1) ⟨op,reg,loc,le,lf,ne,goal⟩
     ·have HN:=Lib.hid (Hno.out (.inr (A1u (k:=t) (by have:=HRL.out;omega) (by rw[HY.out,HRL.out];exact hok))))
      clear hok
      go_wp2_with fail
      go_ret
      exact⟨by rw[HN.out];rfl,Hend1.out.trans (HB5.out.mono (by have:=Hend1.out.size;omega))⟩
     ·have HO:=Lib.hid hok
      clear hok
      go_wp2_with fail
      go_roundw
      case rel=>exact⟨t+1,by go_num,by omega,fun j h2 h3=>by
       rcases Nat.lt_or_ge j t with h | h
       ·exact Halli.out j h2 h
       ·obtain rfl:j=t:=by omega
        rw[HY.out,HRL.out];exact HO.out,HB5.out⟩
      case measure=>simp[intOf];omega
    ·have HO:=Lib.hid (show Er ⟨mod,init,regs,code⟩ k=true by
      rw[HT.out,decide_eq_true (by omega),Zv (by have:=HRL.out;omega) (by have:=HRL.out;omega) (by rw[HL.out (by have:=HRL.out;omega)];exact HD.out) (fun j hj=>Halli.out j (by omega) (by have:=HRL.out;omega))]
      rfl)
     clear v1 v2 v3 vy
     go_wp2_with fail
     go_roundw
     case rel=>exact⟨k+1,by go_num,by omega,fun j h2 h3=>by
      rcases Nat.lt_or_ge j k with h | h
      ·exact Hall.out j h2 h
      ·obtain rfl:j=k:=by omega
       exact HO.out,HB1.out.trans (HBI.out.mono (by omega))⟩
     case measure=>simp[intOf];omega
  ·have HG:=Lib.hid (show res=true by rw[← HR.out];exact Xe (u:=⟨mod,init,regs,code⟩) HH.out HI.out (fun j hj=>Hall.out j hj (by have:=N2.out;dsimp only at hj;omega)))
   go_wp2_with fail
   go_ret
   exact⟨by rw[HG.out];rfl,HW.out.trans (HB.out.mono (by omega))⟩
theorem A7g (u:Ac) (v:Value) (w:World) (hv:UnitV w v u):Calls Try.prog 22 #[v] w (C5 (Ax u) w):=by
 cases hh:Ho u
 ·rw[Xb hh];exact Uv u v w hv (.inl hh)
 ·cases hi:Ji u.init u.mod
  ·rw[Ru hi];exact Uv u v w hv (.inr hi)
  ·exact A5f u v w hv hh hi
theorem A77 {u:Ac} (h:¬ (u.init.length≤20∧u.regs.length≤20∧u.code.length≤8)):Dk u=false:=by simp only[Dk,decide_eq_false h,Bool.false_and]
theorem Aa7 {u:Ac} {k:Nat} (hk:k < u.code.length) (h:Dp u.code[k]=false):Dk u=false:=by
 have:u.code.all Dp=false:=by
  rw[Bool.eq_false_iff];intro e;rw[List.all_eq_true] at e
  have:=e _ (List.getElem_mem hk);rw[h] at this;simp at this
 simp only[Dk,this,Bool.and_false]
theorem A7w {u:Ac} (h:u.init.length≤20∧u.regs.length≤20∧u.code.length≤8) (h2:∀ k (hk:k < u.code.length),Dp u.code[k]=true):Dk u=true:=by
 have:u.code.all Dp=true:=by
  rw[List.all_eq_true];intro x hx;obtain⟨k,hk,rfl⟩:=List.getElem_of_mem hx;exact h2 k hk
 simp only[Dk,this,decide_eq_true h,Bool.and_self]
theorem A3e {r:List Aj} (h:200 < r.length):Dp r=false:=by simp only[Dp,decide_eq_false (show ¬ r.length≤200 by omega),Bool.false_and]
theorem Up {r:List Aj} {k:Nat} (hk:k < r.length) (h:¬ (r[k].e.length≤300∧r[k].f.length≤300)):Dp r=false:=by
 have:(r.all fun x=>decide (x.e.length≤300∧x.f.length≤300))=false:=by
  rw[Bool.eq_false_iff];intro e;rw[List.all_eq_true] at e
  have:=e _ (List.getElem_mem hk);exact h (of_decide_eq_true this)
 simp only[Dp,this,Bool.and_false]
theorem A39 {r:List Aj} (h:r.length≤200) (h2:∀ k (hk:k < r.length),r[k].e.length≤300∧r[k].f.length≤300):Dp r=true:=by
 have:(r.all fun x=>decide (x.e.length≤300∧x.f.length≤300))=true:=by
  rw[List.all_eq_true];intro x hx;obtain⟨k,hk,rfl⟩:=List.getElem_of_mem hx;exact decide_eq_true (h2 k hk)
 simp only[Dp,this,decide_eq_true h,Bool.and_self]
set_option maxRecDepth 100000 in
set_option maxHeartbeats 4000000 in
theorem A8c (u:Ac) (v:Value) (w:World) (hv:UnitV w v u):Calls Try.prog 4 #[v] w (C5 (Dk u) w):=by
 obtain⟨vi,vr,vc,rfl,s1,s2,s3,m1,m2⟩:=hv
 have l1:=s1.len;have l2:=s2.len;have l3:=s3.len
 obtain⟨a1,c1,rfl,h1⟩:=C6 s1
 obtain⟨a2,c2,rfl,h2⟩:=C6 s2
 obtain⟨a3,c3,rfl,h3⟩:=Eh s3
 have H3:=Lib.hid h3
 clear s1 s2 s3 h1 h2 h3
 obtain⟨res,hres⟩:∃ r,Dk u=r:=⟨_,rfl⟩
 have HR:=Lib.hid hres
 rw[hres]
 clear hres
 obtain⟨mod,init,regs,code⟩:=u
 dsimp only at *
 obtain⟨n1,hn1⟩:∃ n,init.length=n:=⟨_,rfl⟩
 obtain⟨n2,hn2⟩:∃ n,regs.length=n:=⟨_,rfl⟩
 obtain⟨n3,hn3⟩:∃ n,code.length=n:=⟨_,rfl⟩
 rw[hn1] at l1 ⊢;rw[hn2] at l2 ⊢;rw[hn3] at l3 ⊢
 have N1:=Lib.hid hn1;have N2:=Lib.hid hn2;have N3:=Lib.hid hn3
 clear hn1 hn2 hn3
 have HA:=Lib.hid ((Below.refl w.heap.size w).alloc (Nat.le_refl _) (.cells #[.int .i64 mod,.slice a1 n1 c1,.slice a2 n2 c2,.slice a3 n3 c3] 25))
 by_cases hbig:¬ (n1≤20∧n2≤20∧n3≤8)
 ·have HN:=Lib.hid (show res=false by rw[← HR.out];exact A77 (u:=⟨mod,init,regs,code⟩) (by rw[← N1.out,← N2.out,← N3.out] at hbig;exact hbig))
  have HH:Hid (n1≤20→n2≤20→n3≤8→False):=fun h1 h2 h3=>hbig ⟨h1,h2,h3⟩
  rw[HN.out]
  clear hbig
  go_enter Try.func4,Try.ntmps4
  go_wp2_with fail
  all_goals
   first
   | (go_ret;exact⟨rfl,HA.out⟩)
   | (exfalso;exact HH.out (by omega) (by omega) (by omega))
 ·obtain⟨g1,g2,g3⟩:=Decidable.not_not.1 hbig
  clear hbig
  go_enter Try.func4,Try.ntmps4
  go_wp2_with fail
  have q3:=C2 w #[.int .i64 mod,.slice a1 n1 c1,.slice a2 n2 c2,.slice a3 n3 c3] 25 3 _ rfl
  generalize w.alloc (.cells #[.int .i64 mod,.slice a1 n1 c1,.slice a2 n2 c2,.slice a3 n3 c3] 25)=W at *
  go_loop [3] (fun i=>∃ k:Nat,i=.int .i64 k∧k≤n3∧∀ j (h:j < code.length),j < k→Dp code[j]=true) (fun i=>n3 - (intOf i).toNat)
  case atStart=>exact⟨0,rfl,by omega,fun j _ h=>absurd h (by omega)⟩
  case round =>
   obtain⟨k,rfl,hk,hall⟩:=hrel
   have Hall:=Lib.hid hall;clear hall
   by_cases hlt:k < n3
   ·have hkc:k < code.length:=by have:=N3.out;omega
    obtain⟨b3,o3,vr,rfl,x3,sr⟩:=H3.out k hkc
    obtain⟨row,hrow⟩:∃ r,code[k]'hkc=r:=⟨_,rfl⟩
    rw[hrow] at sr
    have HROW:=Lib.hid hrow
    clear hrow
    have y3:=cell_later HA.out x3
    have hl4:=sr.len
    obtain⟨ar,cr,rfl,hr⟩:=Nz sr
    have HRW:=Lib.hid hr
    clear x3 sr hr
    obtain⟨n4,hn4⟩:∃ n,row.length=n:=⟨_,rfl⟩
    rw[hn4] at hl4 y3
    have N4:=Lib.hid hn4
    clear hn4
    have Hbad:Hid (Dp row=false→res=false):=fun h=>by rw[← HR.out];exact Aa7 (u:=⟨mod,init,regs,code⟩) hkc (by show Dp (code[k]'hkc)=false;rw[HROW.out];exact h)
    by_cases c4:200 < n4
    ·have HN:=Lib.hid (Hbad.out (A3e (by rw[N4.out];exact c4)))
     go_wp2_with fail
     go_ret
     exact⟨by rw[HN.out];rfl,HA.out⟩
    ·go_wp2_with fail
     go_loop [4] (fun i=>∃ t:Nat,i=.int .i64 t∧t≤n4∧∀ j (h:j < row.length),j < t→row[j].e.length≤300∧row[j].f.length≤300) (fun i=>n4 - (intOf i).toNat)
     case atStart=>exact⟨0,rfl,by omega,fun j _ h=>absurd h (by omega)⟩
     case round =>
      obtain⟨t,rfl,ht,halli⟩:=hrel
      have Halli:=Lib.hid halli;clear halli
      by_cases hti:t < n4
      ·have htl:t < row.length:=by have:=N4.out;omega
       obtain⟨br2,or2,ve2,vf2,rfl,i0,i1,i2,i3,i4,i5,i6,e1,e2,bd⟩:=HRW.out t htl
       obtain⟨yy,hyy⟩:∃ yy,row[t]'htl=yy:=⟨_,rfl⟩
       rw[hyy] at e1 e2
       have HY:=Lib.hid hyy
       clear hyy bd i0 i1 i2 i5 i6
       have k1:=e1.len;have k2:=e2.len
       obtain⟨ae,ce,rfl,_⟩:=Bq e1
       obtain⟨af,cf,rfl,_⟩:=Bq e2
       have j3:=cell_later HA.out i3;have j4:=cell_later HA.out i4
       clear e1 e2 i3 i4
       obtain⟨p1,hp1⟩:∃ n,yy.e.length=n:=⟨_,rfl⟩
       obtain⟨p2,hp2⟩:∃ n,yy.f.length=n:=⟨_,rfl⟩
       rw[hp1] at j3 k1
       rw[hp2] at j4 k2
       have P1:=Lib.hid hp1;have P2:=Lib.hid hp2
       clear hp1 hp2
       by_cases d1:300 < p1
       ·have HN:=Lib.hid (Hbad.out (Up htl (by rw[HY.out,P1.out,P2.out];omega)))
        go_wp2_with fail
        go_ret
        exact⟨by rw[HN.out];rfl,HA.out⟩
       ·by_cases d2:300 < p2
        ·have HN:=Lib.hid (Hbad.out (Up htl (by rw[HY.out,P1.out,P2.out];omega)))
         go_wp2_with fail
         go_ret
         exact⟨by rw[HN.out];rfl,HA.out⟩
        ·go_wp2_with fail
         go_round
         case rel=>exact⟨t+1,by go_num,by omega,fun j h2 h3=>by
          rcases Nat.lt_or_ge j t with h | h
          ·exact Halli.out j h2 h
          ·obtain rfl:j=t:=by omega
           rw[HY.out,P1.out,P2.out];omega⟩
         case measure=>simp[intOf];omega
      ·have HG:=Lib.hid (show Dp row=true from A39 (by rw[N4.out];omega) (fun j hj=>Halli.out j hj (by have:=N4.out;omega)))
       go_wp2_with fail
       go_round
       case rel=>exact⟨k+1,by go_num,by omega,fun j h2 h3=>by
        rcases Nat.lt_or_ge j k with h | h
        ·exact Hall.out j h2 h
        ·obtain rfl:j=k:=by omega
         rw[HROW.out];exact HG.out⟩
       case measure=>simp[intOf];omega
   ·have HG:=Lib.hid (show res=true by rw[← HR.out];exact A7w (u:=⟨mod,init,regs,code⟩) (by show init.length≤20∧regs.length≤20∧code.length≤8;rw[N1.out,N2.out,N3.out];exact⟨g1,g2,g3⟩) (fun j hj=>Hall.out j hj (by have:=N3.out;dsimp only at hj;omega)))
    go_wp2_with fail
    go_ret
    exact⟨by rw[HG.out];rfl,HA.out⟩
abbrev D7:Nat:=1125899906842624
def By (a b:Nat):Nat:=min (a*b) D7
def Ch (a n:Nat):Nat:=min (a ^ n) D7
def Iv (a:Nat):Nat→Nat
 | 0=>0
 | k+1=>min (Iv a k+Ch a k) D7
theorem Sg (a n:Nat):Ch a n≤D7:=Nat.min_le_right _ _
theorem M1 (a b:Nat):By a b≤D7:=Nat.min_le_right _ _
theorem A0t (a k:Nat):Iv a k≤D7:=by
 cases k with
 | zero=>exact Nat.zero_le _
 | succ k=>exact Nat.min_le_right _ _
theorem Kc (x y:Nat):By (min x D7) (min y D7)=min (x*y) D7:=by
 unfold By
 rcases Nat.le_total x D7 with hx | hx<;>rcases Nat.le_total y D7 with hy | hy
 ·rw[Nat.min_eq_left hx,Nat.min_eq_left hy]
 ·rw[Nat.min_eq_left hx,Nat.min_eq_right hy]
  cases x with
  | zero=>simp
  | succ x =>
   have h1:D7≤(x+1)*D7:=Nat.le_mul_of_pos_left _ (Nat.succ_pos x)
   have h2:D7≤(x+1)*y:=Nat.le_trans hy (Nat.le_mul_of_pos_left _ (Nat.succ_pos x))
   rw[Nat.min_eq_right h1,Nat.min_eq_right h2]
 ·rw[Nat.min_eq_right hx,Nat.min_eq_left hy]
  cases y with
  | zero=>simp
  | succ y =>
   have h1:D7≤D7*(y+1):=Nat.le_mul_of_pos_right _ (Nat.succ_pos y)
   have h2:D7≤x*(y+1):=Nat.le_trans hx (Nat.le_mul_of_pos_right _ (Nat.succ_pos y))
   rw[Nat.min_eq_right h1,Nat.min_eq_right h2]
 ·rw[Nat.min_eq_right hx,Nat.min_eq_right hy]
  have h1:D7≤D7*D7:=Nat.le_mul_of_pos_left _ (by decide)
  have h2:D7≤x*y:=Nat.le_trans hx (Nat.le_mul_of_pos_right _ (Nat.lt_of_lt_of_le (by decide) hy))
  rw[Nat.min_eq_right h1,Nat.min_eq_right h2]
theorem Xx (a n:Nat):Ch (min a D7) n=Ch a n:=by
 induction n with
 | zero=>rfl
 | succ n ih =>
  have e:∀ b:Nat,Ch b (n+1)=By (Ch b n) (min b D7):=fun b=>by unfold Ch;rw[Kc,Nat.pow_succ]
  rw[e,e,ih,Nat.min_eq_left (Nat.min_le_right a D7)]
theorem Ac9 (a:Nat):Ch a 0=1:=rfl
theorem Ais {p a r n:Nat} (h:n % 2=1) (e:By p (Ch a n)=r):By (By p a) (Ch (a*a) (n / 2))=r:=by
 rw[← e]
 unfold Ch By
 have hn:n=n / 2*2+1:=by omega
 have e1:a ^ n=a*(a*a) ^ (n / 2):=by
  conv=>lhs;rw[hn]
  rw[Nat.pow_succ,Nat.mul_comm,Nat.pow_mul',Nat.pow_two]
 have e2:=Kc (p*a) ((a*a) ^ (n / 2))
 unfold By at e2
 have e3:=Kc p (a ^ n)
 rw[e2,e1]
 rcases Nat.le_total p D7 with hp | hp
 ·rw[Nat.min_eq_left hp] at e3;unfold By at e3;rw[e1] at e3;rw[e3,Nat.mul_assoc]
 ·rcases Nat.eq_zero_or_pos (a*(a*a) ^ (n / 2)) with hz | hz
  ·rw[hz,Nat.mul_assoc,hz];simp
  ·have h1:D7≤p*a*(a*a) ^ (n / 2):=by rw[Nat.mul_assoc];exact Nat.le_trans hp (Nat.le_mul_of_pos_right _ hz)
   have h2:D7≤p*min (a*(a*a) ^ (n / 2)) D7:=Nat.le_trans hp (Nat.le_mul_of_pos_right _ (Nat.lt_min.2 ⟨hz,by decide⟩))
   rw[Nat.min_eq_right h1,Nat.min_eq_right h2]
theorem Af2 {p a r n:Nat} (h:n % 2=0) (e:By p (Ch a n)=r):By p (Ch (a*a) (n / 2))=r:=by
 rw[← e]
 have hn:n=n / 2*2:=by omega
 have e1:a ^ n=(a*a) ^ (n / 2):=by
  conv=>lhs;rw[hn]
  rw[Nat.pow_mul',Nat.pow_two]
 unfold Ch
 rw[e1]
theorem Abn (p a n:Nat):By p (Ch (By a a) n)=By p (Ch (a*a) n):=by
 show By p (Ch (min (a*a) D7) n)=_
 rw[Xx]
def Dq (locs mod model room:Int):Nat :=
 if locs < 0∨6 < locs∨mod < 2∨16 < mod∨room < 1∨4 < room then 0
 else if model=1 then 1
 else if model=2 then Iv (locs*mod).toNat (room.toNat+1)
 else if model=3 then Ch (Iv mod.toNat (room.toNat+1)) locs.toNat
 else 0
theorem A81 (locs mod model room:Int):Dq locs mod model room≤D7:=by
 unfold Dq
 repeat' split
 ·decide
 ·decide
 ·exact A0t _ _
 ·exact Sg _ _
 ·decide
def Ik (u:Ac) (t:Nat) (model room:Int):Nat:=match u.regs[t]?,u.code[t]? with
 | some n,some r=>By (By r.length (Ch u.mod.toNat n.toNat)) (Dq u.init.length u.mod model room)
 | _,_=>0
def Ey (u:Ac) (model room:Int):Nat→Nat
 | 0=>Ch u.mod.toNat u.init.length
 | t+1=>By (Ey u model room t) (Ik u t model room)
theorem A9k (u:Ac) (t:Nat) (model room:Int):Ik u t model room≤D7:=by
 unfold Ik
 split
 ·exact M1 _ _
 ·decide
theorem Zg (u:Ac) (model room:Int) (t:Nat):Ey u model room t≤D7:=by
 cases t with
 | zero=>exact Sg _ _
 | succ t=>exact M1 _ _
def Dw (u:Ac) (model room:Int):Int×Int :=
 if Ax u=false then(0,8) else if model < 1∨3 < model∨room < 1∨4 < room then(0,1) else(Ey u model room u.regs.length,0)
def Pn (locs mod room:Int):Prop:=0≤locs∧locs≤6∧2≤mod∧mod≤16∧1≤room∧room≤4
theorem X1 {locs mod room:Int} (h:Pn locs mod room) (model:Int):Dq locs mod model room =
 if model=1 then 1 else if model=2 then Iv (locs*mod).toNat (room.toNat+1) else if model=3 then Ch (Iv mod.toNat (room.toNat+1)) locs.toNat else 0:=by
 obtain⟨h1,h2,h3,h4,h5,h6⟩:=h
 unfold Dq
 rw[if_neg (by omega)]
theorem Bn {u:Ac} (h:Ax u=true):2≤u.mod∧u.mod≤16∧u.init.length≤6∧1≤u.regs.length∧u.regs.length≤4∧u.code.length=u.regs.length:=by
 simp only[Ax,A6,Ho,A9] at h
 exact h.1.1
theorem Oj {u:Ac} (h:Ax u=true) {t:Nat} (ht:t < u.regs.length):Er u t=true:=by
 simp only[Ax,A6,List.all_eq_true] at h
 exact h.2 t (by simpa using ht)
theorem Mm {u:Ac} (h:Ax u=true) {t:Nat} (h1:t < u.regs.length) (h2:t < u.code.length):0≤u.regs[t]∧u.regs[t]≤6∧1≤u.code[t].length∧u.code[t].length≤1000:=by
 have:=Oj h h1
 rw[Kr h1 h2] at this
 simp only[A6,A9,G8] at this
 exact⟨this.1.1,this.1.2,this.2.1.1.1,this.2.1.1.2⟩
theorem Aau {u:Ac} (h:Ax u=true) {room:Int} (hr:1≤room∧room≤4):Pn u.init.length u.mod room:=by
 have:=Bn h
 unfold Pn
 omega
theorem Yk {u:Ac} {t:Nat} (h1:t < u.regs.length) (h2:t < u.code.length) (model room:Int):Ik u t model room=By (By u.code[t].length (Ch u.mod.toNat u.regs[t].toNat)) (Dq u.init.length u.mod model room):=by
 simp only[Ik,A5 h1,A5 h2]
theorem A6b:∀ (P:Nat) (l:List Nat),l.Nodup→(∀ x ∈ l,x < P)→l.length≤P
 | 0,l,_,h=>by
  cases l with
  | nil=>exact Nat.le_refl _
  | cons a l=>exact absurd (h a (by simp)) (by omega)
 | P+1,l,hd,h=>by
  by_cases hm:P ∈ l
  ·have h1:=A6b P (l.erase P) (hd.erase P) (fun x hx=>by
    have h2:=h x (List.mem_of_mem_erase hx)
    have h3:x≠P:=fun e=>by
     subst e
     rw[hd.mem_erase_iff] at hx
     exact hx.1 rfl
    omega)
   rw[List.length_erase_of_mem hm] at h1
   omega
  ·have:=A6b P l hd (fun x hx=>by
    have h2:=h x hx
    have h3:x≠P:=fun e=>hm (e ▸ hx)
    omega)
   omega
theorem Ahs {α:Type} (f:α→Nat) (P:Nat) (l:List α) (hd:l.Nodup) (hi:∀ x ∈ l,∀ y ∈ l,f x=f y→x=y) (h:∀ x ∈ l,f x < P):l.length≤P:=by
 have h1:(l.map f).Nodup:=by
  rw[List.nodup_iff_pairwise_ne,List.pairwise_map]
  rw[List.nodup_iff_pairwise_ne] at hd
  exact hd.imp_of_mem (fun ha hb hne e=>hne (hi _ ha _ hb e))
 have:=A6b P (l.map f) h1 (fun x hx=>by
  obtain⟨y,hy,rfl⟩:=List.mem_map.1 hx
  exact h y hy)
 simpa using this
def prN (a A b:Nat):Nat:=a+A*b
theorem Ks {a A b B:Nat} (h1:a < A) (h2:b < B):prN a A b < A*B:=by
 unfold prN
 have:A*(b+1)≤A*B:=Nat.mul_le_mul_left _ h2
 rw[Nat.mul_add,Nat.mul_one] at this
 omega
theorem Nm {a A b a' b':Nat} (h1:a < A) (h2:a' < A) (e:prN a A b=prN a' A b'):a=a'∧b=b':=by
 unfold prN at e
 have e1:(a+A*b) % A=a:=by rw[Nat.add_mul_mod_self_left,Nat.mod_eq_of_lt h1]
 have e2:(a'+A*b') % A=a':=by rw[Nat.add_mul_mod_self_left,Nat.mod_eq_of_lt h2]
 have e3:(a+A*b) / A=b:=by rw[Nat.add_mul_div_left _ _ (by omega),Nat.div_eq_of_lt h1,Nat.zero_add]
 have e4:(a'+A*b') / A=b':=by rw[Nat.add_mul_div_left _ _ (by omega),Nat.div_eq_of_lt h2,Nat.zero_add]
 rw[e] at e1 e3
 exact⟨e1.symm.trans e2,e3.symm.trans e4⟩
def Rk (m:Nat):List Nat→Nat
 | []=>0
 | d :: l=>prN d m (Rk m l)
theorem Rx {m:Nat}:∀ l:List Nat,(∀ d ∈ l,d < m)→Rk m l < m ^ l.length
 | [],_=>by simp[Rk]
 | d :: l,h=>by
  rw[Rk,List.length_cons,Nat.pow_succ,Nat.mul_comm]
  exact Ks (h d (by simp)) (Rx l (fun x hx=>h x (by simp[hx])))
theorem A54 {m:Nat}:∀ l l':List Nat,l.length=l'.length→(∀ d ∈ l,d < m)→(∀ d ∈ l',d < m)→Rk m l=Rk m l'→l=l'
 | [],[],_,_,_,_=>rfl
 | [],_ :: _,h,_,_,_=>by simp at h
 | _ :: _,[],h,_,_,_=>by simp at h
 | d :: l,d' :: l',h,h1,h2,e=>by
  obtain⟨e1,e2⟩:=Nm (h1 d (by simp)) (h2 d' (by simp)) e
  rw[e1,A54 l l' (by simpa using h) (fun x hx=>h1 x (by simp[hx])) (fun x hx=>h2 x (by simp[hx])) e2]
def Mn (a:Nat):List Nat→Nat
 | []=>0
 | d :: l=>1+prN d a (Mn a l)
def geo (a:Nat):Nat→Nat
 | 0=>0
 | k+1=>geo a k+a ^ k
theorem Xw (a:Nat):∀ k,geo a (k+1)=1+a*geo a k
 | 0=>by simp[geo]
 | k+1=>by
  show geo a (k+1)+a ^ (k+1)=1+a*(geo a k+a ^ k)
  rw[Xw a k,Nat.mul_add,Nat.pow_succ,Nat.mul_comm (a ^ k) a]
  omega
theorem Wf {a:Nat}:∀ (l:List Nat) (k:Nat),l.length≤k→(∀ d ∈ l,d < a)→Mn a l < geo a (k+1)
 | [],k,_,_=>by rw[Xw];simp[Mn];omega
 | d :: l,0,h,_=>by simp at h
 | d :: l,k+1,h,hd=>by
  have h1:=Wf l k (by simpa using h) (fun x hx=>hd x (by simp[hx]))
  rw[Xw,Mn]
  have:=Ks (hd d (by simp)) h1
  omega
theorem Xo {a:Nat}:∀ l l':List Nat,(∀ d ∈ l,d < a)→(∀ d ∈ l',d < a)→Mn a l=Mn a l'→l=l'
 | [],[],_,_,_=>rfl
 | [],_ :: _,_,_,e=>by simp only[Mn] at e;omega
 | _ :: _,[],_,_,e=>by simp only[Mn] at e;omega
 | d :: l,d' :: l',h1,h2,e=>by
  simp only[Mn] at e
  obtain⟨e1,e2⟩:=Nm (h1 d (by simp)) (h2 d' (by simp)) (show prN d a (Mn a l)=prN d' a (Mn a l') by omega)
  rw[e1,Xo l l' (fun x hx=>h1 x (by simp[hx])) (fun x hx=>h2 x (by simp[hx])) e2]
def Y5 (S:Nat) (f:Nat→Nat):Nat→Nat
 | 0=>0
 | k+1=>prN (Y5 S f k) (S ^ k) (f k)
theorem Wo {S:Nat} {f:Nat→Nat}:∀ k,(∀ i,i < k→f i < S)→Y5 S f k < S ^ k
 | 0,_=>by simp[Y5]
 | k+1,h=>by
  rw[Y5,Nat.pow_succ]
  exact Ks (Wo k fun i hi=>h i (by omega)) (h k (by omega))
theorem A60 {S:Nat} {f g:Nat→Nat}:∀ k,(∀ i,i < k→f i < S)→(∀ i,i < k→g i < S)→Y5 S f k=Y5 S g k→∀ i,i < k→f i=g i
 | 0,_,_,_,i,h=>by omega
 | k+1,h1,h2,e,i,hi=>by
  obtain⟨e1,e2⟩:=Nm (Wo k fun i hi=>h1 i (by omega)) (Wo k fun i hi=>h2 i (by omega)) e
  rcases Nat.lt_or_ge i k with c | c
  ·exact A60 k (fun i hi=>h1 i (by omega)) (fun i hi=>h2 i (by omega)) e1 i c
  ·obtain rfl:i=k:=by omega
   exact e2
def Kn:List A2→Prop
 | []=>True
 | x :: l=>(∀ y ∈ l,x.loc≤y.loc)∧Kn l
def Rq (b:List A2) (model room mod locs:Int):Prop:=(∀ x ∈ b,0≤x.loc∧x.loc < locs∧0≤x.n∧x.n < mod)∧(model=1→b=[])∧(model=2→(b.length:Int)≤room)∧(model=3→Kn b∧∀ loc,(((b.filter fun x=>x.loc==loc).length:Nat):Int)≤room)
theorem A21:∀ (b b':List A2),Kn b→Kn b'→(∀ loc:Int,b.filter (fun x=>x.loc==loc)=b'.filter (fun x=>x.loc==loc))→b=b'
 | [],[],_,_,_=>rfl
 | [],y :: b',_,_,h=>by have:=h y.loc;simp at this
 | x :: b,[],_,_,h=>by have:=h x.loc;simp at this
 | x :: b,y :: b',h1,h2,h=>by
  have hxy:x.loc=y.loc:=by
   have a1:x ∈ (y :: b').filter (fun z=>z.loc==x.loc):=by rw[← h x.loc];simp
   have a2:y ∈ (x :: b).filter (fun z=>z.loc==y.loc):=by rw[h y.loc];simp
   have b1:x ∈ y :: b':=(List.mem_filter.1 a1).1
   have b2:y ∈ x :: b:=(List.mem_filter.1 a2).1
   have c1:y.loc≤x.loc:=by
    rcases List.mem_cons.1 b1 with e | e
    ·rw[e];exact Int.le_refl _
    ·exact h2.1 x e
   have c2:x.loc≤y.loc:=by
    rcases List.mem_cons.1 b2 with e | e
    ·rw[e];exact Int.le_refl _
    ·exact h1.1 y e
   omega
  have h3:=h x.loc
  simp only[List.filter_cons,beq_self_eq_true,if_true,hxy] at h3
  injection h3 with h3 h4
  subst h3
  have:b=b':=by
   refine A21 b b' h1.2 h2.2 (fun loc=>?_)
   have:=h loc
   simp only[List.filter_cons] at this
   split at this
   ·injection this
   ·exact this
  rw[this]
def Aaf (mod:Nat) (x:A2):Nat:=prN x.n.toNat mod x.loc.toNat
def A0z (b:List A2) (i:Nat):List Nat:=(b.filter fun x=>x.loc==(i:Int)).map fun x=>x.n.toNat
def Wb (model:Int) (mod locs:Nat) (room:Nat) (b:List A2):Nat:=if model=1 then 0 else if model=2 then Mn (locs*mod) (b.map (Aaf mod)) else Y5 (geo mod (room+1)) (fun i=>Mn mod (A0z b i)) locs
def A6q (model:Int) (mod locs:Nat) (room:Nat):Nat:=if model=1 then 1 else if model=2 then geo (locs*mod) (room+1) else geo mod (room+1) ^ locs
theorem Aei {model:Int} {mod locs room:Nat} {b:List A2} (hm:1≤model∧model≤3) (h:Rq b model room mod locs):Wb model mod locs room b < A6q model mod locs room:=by
 obtain⟨h1,h2,h3,h4⟩:=h
 unfold Wb A6q
 by_cases c1:model=1
 ·rw[if_pos c1,if_pos c1];omega
 by_cases c2:model=2
 ·rw[if_neg c1,if_neg c1,if_pos c2,if_pos c2]
  refine Wf _ room (by rw[A4];have:=h3 c2;omega) (fun d hd=>?_)
  obtain⟨x,hx,rfl⟩:=List.mem_map.1 hd
  have:=h1 x hx
  rw[Nat.mul_comm]
  exact Ks (by omega) (by omega)
 ·rw[if_neg c1,if_neg c1,if_neg c2,if_neg c2]
  have c3:model=3:=by omega
  refine Wo _ (fun i hi=>Wf _ room ?_ (fun d hd=>?_))
  ·unfold A0z;rw[A4];have:=(h4 c3).2 i;omega
  ·obtain⟨x,hx,rfl⟩:=List.mem_map.1 hd
   have:=h1 x (List.mem_filter.1 hx).1
   omega
theorem Af8 {mod locs:Int} {x y:A2} (hx:0≤x.loc∧x.loc < locs∧0≤x.n∧x.n < mod) (hy:0≤y.loc∧y.loc < locs∧0≤y.n∧y.n < mod) (e:Aaf mod.toNat x=Aaf mod.toNat y):x=y:=by
 obtain⟨e1,e2⟩:=Nm (by omega) (by omega) e
 obtain⟨a,b⟩:=x
 obtain⟨a',b'⟩:=y
 simp only at *
 rw[show a=a' by omega,show b=b' by omega]
theorem Pj {α β:Type} {f:α→β}:∀ {l l':List α},(∀ x ∈ l,∀ y ∈ l',f x=f y→x=y)→l.map f=l'.map f→l=l'
 | [],[],_,_=>rfl
 | [],_ :: _,_,h=>by simp at h
 | _ :: _,[],_,h=>by simp at h
 | a :: l,b :: l',hi,h=>by
  simp only[List.map_cons,List.cons.injEq] at h
  rw[hi a (by simp) b (by simp) h.1,Pj (fun x hx y hy=>hi x (by simp[hx]) y (by simp[hy])) h.2]
theorem Acz {model:Int} {mod locs room:Nat} {b b':List A2} (hm:1≤model∧model≤3) (h:Rq b model room mod locs) (h':Rq b' model room mod locs) (e:Wb model mod locs room b=Wb model mod locs room b'):b=b':=by
 obtain⟨h1,h2,h3,h4⟩:=h
 obtain⟨g1,g2,g3,g4⟩:=h'
 unfold Wb at e
 by_cases c1:model=1
 ·rw[h2 c1,g2 c1]
 by_cases c2:model=2
 ·rw[if_neg c1,if_neg c1,if_pos c2,if_pos c2] at e
  have hd:∀ (b:List A2),(∀ x ∈ b,0≤x.loc∧x.loc < (locs:Int)∧0≤x.n∧x.n < (mod:Int))→∀ d ∈ b.map (Aaf mod),d < locs*mod:=by
   intro b h d hd
   obtain⟨x,hx,rfl⟩:=List.mem_map.1 hd
   have:=h x hx
   rw[Nat.mul_comm]
   exact Ks (by omega) (by omega)
  have:=Xo _ _ (hd b h1) (hd b' g1) e
  exact Pj (fun x hx y hy e=>Af8 (mod:=(mod:Int)) (h1 x hx) (g1 y hy) (by simpa using e)) this
 ·rw[if_neg c1,if_neg c1,if_neg c2,if_neg c2] at e
  have c3:model=3:=by omega
  obtain⟨s1,k1⟩:=h4 c3
  obtain⟨s2,k2⟩:=g4 c3
  have hd:∀ (b:List A2),(∀ x ∈ b,0≤x.loc∧x.loc < (locs:Int)∧0≤x.n∧x.n < (mod:Int))→∀ i,∀ d ∈ A0z b i,d < mod:=by
   intro b h i d hd
   obtain⟨x,hx,rfl⟩:=List.mem_map.1 hd
   have:=h x (List.mem_filter.1 hx).1
   omega
  have hlt:∀ (b:List A2),(∀ x ∈ b,0≤x.loc∧x.loc < (locs:Int)∧0≤x.n∧x.n < (mod:Int))→(∀ loc:Int,(((b.filter fun x=>x.loc==loc).length:Nat):Int)≤(room:Int))→∀ i,i < locs→Mn mod (A0z b i) < geo mod (room+1):=fun b h k i _=>Wf _ room (by unfold A0z;rw[A4];have:=k i;omega) (hd b h i)
  have he:=A60 locs (hlt b h1 k1) (hlt b' g1 k2) e
  refine A21 b b' s1 s2 (fun loc=>?_)
  by_cases cl:0≤loc∧loc < (locs:Int)
  ·have e2:=Xo _ _ (hd b h1 loc.toNat) (hd b' g1 loc.toNat) (he loc.toNat (by omega))
   unfold A0z at e2
   rw[show((loc.toNat:Nat):Int)=loc by omega] at e2
   refine Pj (fun x hx y hy e=>?_) e2
   obtain⟨x1,x2⟩:=List.mem_filter.1 hx
   obtain⟨y1,y2⟩:=List.mem_filter.1 hy
   have b1:=h1 x x1
   have b2:=g1 y y1
   have x3:=eq_of_beq x2
   have y3:=eq_of_beq y2
   obtain⟨p,q⟩:=x
   obtain⟨p',q'⟩:=y
   simp only at *
   rw[x3,y3,show q=q' by omega]
  ·have hn:∀ (b:List A2),(∀ x ∈ b,0≤x.loc∧x.loc < (locs:Int)∧0≤x.n∧x.n < (mod:Int))→b.filter (fun x=>x.loc==loc)=[]:=by
    intro b h
    rw[List.filter_eq_nil_iff]
    intro x hx e
    have:=h x hx
    have:=eq_of_beq e
    omega
   rw[hn b h1,hn b' g1]
theorem Y4 (a:Nat):∀ k,Iv a k=min (geo a k) D7
 | 0=>rfl
 | k+1=>by
  have:=Nat.min_le_right (a ^ k) D7
  rw[Iv,Y4 a k,geo,Ch]
  omega
theorem Aak {locs mod room:Int} (h:Pn locs mod room) {model:Int} (hm:1≤model∧model≤3):Dq locs mod model room=min (A6q model mod.toNat locs.toNat room.toNat) D7:=by
 have h':=h
 obtain⟨h1,h2,h3,h4,h5,h6⟩:=h
 rw[X1 h']
 unfold A6q
 by_cases c1:model=1
 ·rw[if_pos c1,if_pos c1];decide
 by_cases c2:model=2
 ·rw[if_neg c1,if_neg c1,if_pos c2,if_pos c2,Y4,show(locs*mod).toNat=locs.toNat*mod.toNat from Int.toNat_mul h1 (by omega)]
 ·rw[if_neg c1,if_neg c1,if_neg c2,if_neg c2,if_pos (show model=3 by omega),Y4,Xx]
  rfl
structure Aix (u:Ac) (c:A8) (model room:Int) (t:Nat) (p:Int) (r:List Int) (b:List A2) (code:List Aj) (nr:Int):Prop where
 pc0:0≤p
 pc1:p < (code.length:Int)
 len:(r.length:Int)=nr
 regs:∀ x ∈ r,0≤x∧x < u.mod
 buf:Rq b model room u.mod u.init.length
structure Cj (u:Ac) (c:A8) (model room:Int):Prop where
 lpc:c.pc.length=u.regs.length
 lregs:c.regs.length=u.regs.length
 lbuf:c.buf.length=u.regs.length
 lmem:c.mem.length=u.init.length
 mem:∀ x ∈ c.mem,0≤x∧x < u.mod
 thr:∀ t p r b code nr,c.pc[t]?=some p→c.regs[t]?=some r→c.buf[t]?=some b→u.code[t]?=some code→u.regs[t]?=some nr→Aix u c model room t p r b code nr
def A0n (u:Ac) (c:A8) (model room:Int) (t:Nat):Nat:=match c.pc[t]?,c.regs[t]?,c.buf[t]?,u.code[t]? with
 | some p,some r,some b,some code=>prN (prN p.toNat code.length (Rk u.mod.toNat (r.map Int.toNat))) (code.length*u.mod.toNat ^ r.length) (Wb model u.mod.toNat u.init.length room.toNat b)
 | _,_,_,_=>0
def Aag (u:Ac) (model room:Int) (t:Nat):Nat:=match u.regs[t]?,u.code[t]? with
 | some n,some code=>code.length*u.mod.toNat ^ n.toNat*A6q model u.mod.toNat u.init.length room.toNat
 | _,_=>0
def A1h (u:Ac) (model room:Int):Nat→Nat
 | 0=>u.mod.toNat ^ u.init.length
 | t+1=>A1h u model room t*Aag u model room t
def Tp (u:Ac) (c:A8) (model room:Int):Nat→Nat
 | 0=>Rk u.mod.toNat (c.mem.map Int.toNat)
 | t+1=>prN (Tp u c model room t) (A1h u model room t) (A0n u c model room t)
theorem Pv {m:Int} {l:List Int} (h:∀ x ∈ l,0≤x∧x < m):∀ d ∈ l.map Int.toNat,d < m.toNat:=by
 intro d hd
 obtain⟨x,hx,rfl⟩:=List.mem_map.1 hd
 have:=h x hx
 omega
theorem A4i {m:Int} {l l':List Int} (h:∀ x ∈ l,0≤x∧x < m) (h':∀ x ∈ l',0≤x∧x < m) (hl:l.length=l'.length) (e:Rk m.toNat (l.map Int.toNat)=Rk m.toNat (l'.map Int.toNat)):l=l':=by
 have:=A54 _ _ (by simpa using hl) (Pv h) (Pv h') e
 exact Pj (fun x hx y hy e=>by have:=h x hx;have:=h' y hy;omega) this
section
variable {u:Ac} {model room:Int} (hu:Ax u=true) (hm:1≤model∧model≤3) (hr:1≤room∧room≤4)
theorem A17 {b:List A2} (hu:Ax u=true) (hr:1≤room∧room≤4) (h:Rq b model room u.mod u.init.length):Rq b model (room.toNat:Int) (u.mod.toNat:Int) u.init.length:=by
 have:=Bn hu
 rw[show((u.mod.toNat:Nat):Int)=u.mod by omega,show((room.toNat:Nat):Int)=room by omega]
 exact h
theorem Ain (hu:Ax u=true) (hm:1≤model∧model≤3) (hr:1≤room∧room≤4) {c:A8} (hc:Cj u c model room) {t:Nat} (ht:t < u.regs.length):A0n u c model room t < Aag u model room t:=by
 have hh:=Bn hu
 have t1:t < c.pc.length:=by rw[hc.lpc];exact ht
 have t2:t < c.regs.length:=by rw[hc.lregs];exact ht
 have t3:t < c.buf.length:=by rw[hc.lbuf];exact ht
 have t4:t < u.code.length:=by omega
 have H:=hc.thr t _ _ _ _ _ (A5 t1) (A5 t2) (A5 t3) (A5 t4) (A5 ht)
 simp only[A0n,Aag,A5 t1,A5 t2,A5 t3,A5 t4,A5 ht]
 have hl:(c.regs[t]).length=(u.regs[t]).toNat:=by have:=H.len;omega
 rw[← hl]
 refine Ks (Ks (by have:=H.pc0;have:=H.pc1;omega) ?_) (Aei hm (A17 hu hr H.buf))
 have:=Rx _ (Pv H.regs)
 rwa [A4] at this
theorem Agl (hu:Ax u=true) (hm:1≤model∧model≤3) (hr:1≤room∧room≤4) {c d:A8} (hc:Cj u c model room) (hd:Cj u d model room) {t:Nat} (ht:t < u.regs.length) (e:A0n u c model room t=A0n u d model room t):c.pc[t]?=d.pc[t]?∧c.regs[t]?=d.regs[t]?∧c.buf[t]?=d.buf[t]?:=by
 have hh:=Bn hu
 have t1:t < c.pc.length:=by rw[hc.lpc];exact ht
 have t2:t < c.regs.length:=by rw[hc.lregs];exact ht
 have t3:t < c.buf.length:=by rw[hc.lbuf];exact ht
 have s1:t < d.pc.length:=by rw[hd.lpc];exact ht
 have s2:t < d.regs.length:=by rw[hd.lregs];exact ht
 have s3:t < d.buf.length:=by rw[hd.lbuf];exact ht
 have t4:t < u.code.length:=by omega
 have H:=hc.thr t _ _ _ _ _ (A5 t1) (A5 t2) (A5 t3) (A5 t4) (A5 ht)
 have G:=hd.thr t _ _ _ _ _ (A5 s1) (A5 s2) (A5 s3) (A5 t4) (A5 ht)
 simp only[A0n,A5 t1,A5 t2,A5 t3,A5 t4,A5 s1,A5 s2,A5 s3] at e ⊢
 have hl:(c.regs[t]).length=(u.regs[t]).toNat:=by have:=H.len;omega
 have gl:(d.regs[t]).length=(u.regs[t]).toNat:=by have:=G.len;omega
 have k1:=Rx _ (Pv H.regs)
 have k2:=Rx _ (Pv G.regs)
 rw[A4,hl] at k1
 rw[A4,gl] at k2
 have p1:(c.pc[t]).toNat < (u.code[t]).length:=by have:=H.pc0;have:=H.pc1;omega
 have p2:(d.pc[t]).toNat < (u.code[t]).length:=by have:=G.pc0;have:=G.pc1;omega
 rw[hl,gl] at e
 obtain⟨e1,e2⟩:=Nm (Ks p1 k1) (Ks p2 k2) e
 obtain⟨e3,e4⟩:=Nm p1 p2 e1
 refine⟨by have:=H.pc0;have:=G.pc0;congr 1;omega,by rw[A4i H.regs G.regs (by rw[hl,gl]) e4],by rw[Acz hm (A17 hu hr H.buf) (A17 hu hr G.buf) e2]⟩
theorem T1 (hu:Ax u=true) (hm:1≤model∧model≤3) (hr:1≤room∧room≤4) {c:A8} (hc:Cj u c model room):∀ t,t≤u.regs.length→Tp u c model room t < A1h u model room t
 | 0,_=>by
  have:=Rx _ (Pv hc.mem)
  rw[A4,hc.lmem] at this
  exact this
 | t+1,ht=>Ks (T1 hu hm hr hc t (by omega)) (Ain hu hm hr hc (by omega))
theorem A1z (hu:Ax u=true) (hm:1≤model∧model≤3) (hr:1≤room∧room≤4) {c d:A8} (hc:Cj u c model room) (hd:Cj u d model room):∀ t,t≤u.regs.length→Tp u c model room t=Tp u d model room t→c.mem=d.mem∧∀ i,i < t→c.pc[i]?=d.pc[i]?∧c.regs[i]?=d.regs[i]?∧c.buf[i]?=d.buf[i]?
 | 0,_,e=>⟨A4i hc.mem hd.mem (by rw[hc.lmem,hd.lmem]) e,fun i hi=>by omega⟩
 | t+1,ht,e=>by
  obtain⟨e1,e2⟩:=Nm (T1 hu hm hr hc t (by omega)) (T1 hu hm hr hd t (by omega)) e
  obtain⟨a,b⟩:=A1z hu hm hr hc hd t (by omega) e1
  refine⟨a,fun i hi=>?_⟩
  rcases Nat.lt_or_ge i t with h | h
  ·exact b i h
  ·obtain rfl:i=t:=by omega
   exact Agl hu hm hr hc hd (by omega) e2
theorem Afz (hu:Ax u=true) (hm:1≤model∧model≤3) (hr:1≤room∧room≤4) {c d:A8} (hc:Cj u c model room) (hd:Cj u d model room) (e:Tp u c model room u.regs.length=Tp u d model room u.regs.length):c=d:=by
 obtain⟨a,b⟩:=A1z hu hm hr hc hd _ (Nat.le_refl _) e
 have ext:∀ {α:Type} (l l':List α),l.length=u.regs.length→l'.length=u.regs.length→(∀ i,i < u.regs.length→l[i]?=l'[i]?)→l=l':=fun l l' h1 h2 h=>by
  apply List.ext_getElem?
  intro i
  rcases Nat.lt_or_ge i u.regs.length with q | q
  ·exact h i q
  ·rw[List.getElem?_eq_none (by omega),List.getElem?_eq_none (by omega)]
 have e1:=ext _ _ hc.lpc hd.lpc fun i hi=>(b i hi).1
 have e2:=ext _ _ hc.lregs hd.lregs fun i hi=>(b i hi).2.1
 have e3:=ext _ _ hc.lbuf hd.lbuf fun i hi=>(b i hi).2.2
 obtain⟨c1,c2,c3,c4⟩:=c
 obtain⟨d1,d2,d3,d4⟩:=d
 simp only at a e1 e2 e3
 rw[a,e1,e2,e3]
theorem A2l (hu:Ax u=true) (hm:1≤model∧model≤3) (hr:1≤room∧room≤4):∀ t,t≤u.regs.length→Ey u model room t=min (A1h u model room t) D7
 | 0,_=>rfl
 | t+1,ht=>by
  have hh:=Bn hu
  have t4:t < u.code.length:=by omega
  have hrow:=Mm hu (t:=t) (by omega) t4
  rw[Ey,A2l hu hm hr t (by omega),A1h,← Kc]
  congr 1
  rw[Yk (by omega) t4,Aak (Aau hu hr) hm,Aag,A5 (show t < u.regs.length by omega),A5 t4]
  simp only
  have e1:u.code[t].length=min u.code[t].length D7:=by rw[Nat.min_eq_left];have hcut:D7=1125899906842624:=rfl;omega
  rw[Int.toNat_natCast]
  conv=>lhs;rw[e1]
  rw[Ch,Kc,Kc]
theorem Abz (hu:Ax u=true) (hm:1≤model∧model≤3) (hr:1≤room∧room≤4) (l:List A8) (hd:l.Nodup) (hc:∀ c ∈ l,Cj u c model room) (hl:l.length≤1000000):l.length≤Ey u model room u.regs.length:=by
 have:=Ahs (fun c=>Tp u c model room u.regs.length) (A1h u model room u.regs.length) l hd (fun x hx y hy e=>Afz hu hm hr (hc x hx) (hc y hy) e) (fun x hx=>T1 hu hm hr (hc x hx) _ (Nat.le_refl _))
 rw[A2l hu hm hr _ (Nat.le_refl _)]
 have hcut:D7=1125899906842624:=rfl
 omega
end
def Lg (e:A2):List A2→List A2
 | []=>[e]
 | x :: l=>if e.loc < x.loc then e :: x :: l else x :: Lg e l
def Wg (b:List A2) (model:Int) (e:A2):List A2:=if model=3 then Lg e b else if model=2 then b++[e] else b
theorem Yc {e y:A2}:∀ {l:List A2},y ∈ Lg e l→y=e∨y ∈ l
 | [],h=>by simp[Lg] at h;exact .inl h
 | x :: l,h=>by
  rw[Lg] at h
  split at h
  ·simp only[List.mem_cons] at h ⊢;exact h
  ·simp only[List.mem_cons] at h ⊢
   rcases h with h | h
   ·exact .inr (.inl h)
   ·rcases Yc h with h | h
    ·exact .inl h
    ·exact .inr (.inr h)
theorem X4 {e:A2}:∀ {l:List A2},Kn l→Kn (Lg e l)
 | [],_=>⟨by simp,trivial⟩
 | x :: l,h=>by
  rw[Lg]
  split
  ·rename_i c
   refine⟨fun y hy=>?_,h⟩
   rcases List.mem_cons.1 hy with rfl | hy
   ·omega
   ·have:=h.1 y hy;omega
  ·rename_i c
   refine⟨fun y hy=>?_,X4 h.2⟩
   rcases Yc hy with rfl | hy
   ·omega
   ·exact h.1 y hy
theorem Zc {e:A2} (loc:Int):∀ l:List A2,((Lg e l).filter fun x=>x.loc==loc).length=(l.filter fun x=>x.loc==loc).length+(if e.loc=loc then 1 else 0)
 | []=>by
  by_cases c:e.loc=loc
  ·simp[Lg,c]
  ·simp[Lg,c]
 | x :: l=>by
  rw[Lg]
  split
  ·by_cases c:e.loc=loc
   ·simp[List.filter_cons,c]
   ·simp[List.filter_cons,c]
  ·rw[List.filter_cons,List.filter_cons]
   have:=Zc (e:=e) loc l
   split
   ·simp only[List.length_cons,this];omega
   ·exact this
theorem Aav {b:List A2} {model room mod locs:Int} {e:A2} (hm:model=2∨model=3) (h:Rq b model room mod locs) (he:0≤e.loc∧e.loc < locs∧0≤e.n∧e.n < mod) (hr:(model=2→(b.length:Int) < room)∧(model=3→(((b.filter fun x=>x.loc==e.loc).length:Nat):Int) < room)):Rq (Wg b model e) model room mod locs:=by
 obtain⟨h1,h2,h3,h4⟩:=h
 rcases hm with rfl | rfl
 ·rw[Wg,if_neg (by decide),if_pos rfl]
  refine⟨fun x hx=>?_,fun h=>by omega,fun _=>by have:=hr.1 rfl;simp;omega,fun h=>by omega⟩
  rcases List.mem_append.1 hx with hx | hx
  ·exact h1 x hx
  ·rw[List.mem_singleton.1 hx];exact he
 ·rw[Wg,if_pos rfl]
  obtain⟨s1,s2⟩:=h4 rfl
  refine⟨fun x hx=>?_,fun h=>by omega,fun h=>by omega,fun _=>⟨X4 s1,fun loc=>?_⟩⟩
  ·rcases Yc hx with rfl | hx
   ·exact he
   ·exact h1 x hx
  ·rw[Zc]
   have:=s2 loc
   split
   ·rename_i c;subst c;have:=hr.2 rfl;omega
   ·omega
theorem Uo:∀ (l:List A2) (i:Nat),Kn l→Kn (l.eraseIdx i)
 | [],i,h=>by simp[Kn]
 | x :: l,0,h=>h.2
 | x :: l,i+1,h=>⟨fun y hy=>h.1 y (List.mem_of_mem_eraseIdx hy),Uo l i h.2⟩
theorem Acd {b:List A2} {model room mod locs:Int} (i:Nat) (h:Rq b model room mod locs):Rq (b.eraseIdx i) model room mod locs:=by
 obtain⟨h1,h2,h3,h4⟩:=h
 refine⟨fun x hx=>h1 x (List.mem_of_mem_eraseIdx hx),fun h=>by rw[h2 h];rfl,fun h=>?_,fun h=>⟨Uo _ _ (h4 h).1,fun loc=>?_⟩⟩
 ·have:=h3 h
  have:=List.length_eraseIdx_le b i
  omega
 ·have h5:=(h4 h).2 loc
  have:((b.eraseIdx i).filter fun x=>x.loc==loc).length≤(b.filter fun x=>x.loc==loc).length:=((List.eraseIdx_sublist b i).filter _).length_le
  omega
theorem O9 {α:Type} {l:List α} {i j:Nat} {x y:α} (h:(l.set i x)[j]?=some y):(j=i∧y=x)∨(j≠i∧l[j]?=some y):=by
 rw[List.getElem?_set] at h
 split at h
 ·rename_i c
  subst c
  split at h
  ·exact .inl ⟨rfl,(Option.some.inj h).symm⟩
  ·cases h
 ·rename_i c;exact .inr ⟨fun e=>c e.symm,h⟩
theorem A4a {u:Ac} {c:A8} {model room:Int} (h:Cj u c model room) {t:Nat} {p':Int} {r':List Int} {b':List A2} {mem':List Int} (hm:mem'.length=u.init.length) (hm2:∀ x ∈ mem',0≤x∧x < u.mod)
 (ht:∀ code nr,u.code[t]?=some code→u.regs[t]?=some nr→Aix u c model room t p' r' b' code nr):Cj u ⟨c.pc.set t p',c.regs.set t r',mem',c.buf.set t b'⟩ model room:=by
 refine⟨by simpa using h.lpc,by simpa using h.lregs,by simpa using h.lbuf,hm,hm2,fun j p r b code nr e1 e2 e3 e4 e5=>?_⟩
 rcases O9 e1 with ⟨rfl,rfl⟩ | ⟨n1,e1⟩
 ·rcases O9 e2 with ⟨_,rfl⟩ | ⟨n2,_⟩
  ·rcases O9 e3 with ⟨_,rfl⟩ | ⟨n3,_⟩
   ·have:=ht code nr e4 e5
    exact⟨this.pc0,this.pc1,this.len,this.regs,this.buf⟩
   ·exact absurd rfl n3
  ·exact absurd rfl n2
 ·rcases O9 e2 with ⟨q,_⟩ | ⟨_,e2⟩
  ·exact absurd q n1
  ·rcases O9 e3 with ⟨q,_⟩ | ⟨_,e3⟩
   ·exact absurd q n1
   ·have:=h.thr j p r b code nr e1 e2 e3 e4 e5
    exact⟨this.pc0,this.pc1,this.len,this.regs,this.buf⟩
theorem Lx {l:List Int} {i:Nat} {x m:Int} (h:∀ y ∈ l,0≤y∧y < m) (hx:0≤x∧x < m):∀ y ∈ l.set i x,0≤y∧y < m:=fun y hy=>by
 rcases List.mem_or_eq_of_mem_set hy with hy | rfl
 ·exact h y hy
 ·exact hx
def pcS (x:Aj) (e p:Int):Int:=if x.op=20 then x.goal else if x.op=21∧e=0 then x.goal else p+1
def rgS (x:Aj) (e rd ml:Int) (r:List Int):List Int:=if x.op=2 then r.set x.reg.toNat e else if x.op=3 then r.set x.reg.toNat rd else if 5≤x.op∧x.op≤7 then r.set x.reg.toNat ml else r
def bfS (model:Int) (x:Aj) (e:Int) (b:List A2):List A2:=if x.op=4∧model≠1 then Wg b model ⟨x.loc,e⟩ else b
def mmS (model mod:Int) (x:Aj) (e f ml:Int) (m:List Int):List Int:=if x.op=4∧model=1 then m.set x.loc.toNat e else if x.op=5∧ml=e then m.set x.loc.toNat f else if x.op=6 then m.set x.loc.toNat ((ml+e) % mod) else if x.op=7 then m.set x.loc.toNat e else m
def Ge (u:Ac) (c:A8) (model:Int) (t:Nat) (x:Aj) (e f rd ml p:Int) (r:List Int) (b:List A2):A8:=⟨c.pc.set t (pcS x e p),c.regs.set t (rgS x e rd ml r),mmS model u.mod x e f ml c.mem,c.buf.set t (bfS model x e b)⟩
theorem A64 {u:Ac} (hu:Ax u=true) {t:Nat} {code:List Aj} {nr:Int} (h1:u.code[t]?=some code) (h2:u.regs[t]?=some nr) {p:Nat} {x:Aj} (hx:code[p]?=some x):(x.op=22∧p+1=code.length)∨(p+1 < code.length∧Bj nr u.init.length code.length x=true):=by
 obtain⟨t1,rfl⟩:=List.getElem?_eq_some_iff.1 h1
 obtain⟨t2,rfl⟩:=List.getElem?_eq_some_iff.1 h2
 have h:=Oj hu t2
 rw[Kr t2 t1] at h
 simp only[A6,G8,A9] at h
 obtain⟨_,⟨hl,hlast⟩,hall⟩:=h
 obtain⟨hp,rfl⟩:=List.getElem?_eq_some_iff.1 hx
 rcases Nat.lt_or_ge (p+1) (u.code[t]).length with c | c
 ·right
  refine⟨c,?_⟩
  rw[List.all_eq_true] at hall
  have:=hall p (by simp;omega)
  rw[A5 hp] at this
  exact this
 ·left
  have e:p=(u.code[t]).length - 1:=by omega
  subst e
  rw[A5 hp] at hlast
  simp only[Kz,A6,A9] at hlast
  exact⟨hlast.1.1.1.1.1.1,by omega⟩
theorem X0 {op:Int} {n:W7} (h:C9 op=some n):op=2∨op=3∨op=4∨op=5∨op=6∨op=7∨op=8∨op=9∨op=20∨op=21:=by
 unfold C9 at h
 repeat' split at h
 all_goals first | omega | cases h
theorem Aam {u:Ac} {c:A8} {model room:Int} (hu:Ax u=true) (hm:1≤model∧model≤3) (h:Cj u c model room) {t:Nat} {p nr e f rd ml:Int} {r:List Int} {b:List A2} {code:List Aj} {x:Aj}
 (e1:c.pc[t]?=some p) (e2:c.regs[t]?=some r) (e3:c.buf[t]?=some b) (e4:u.code[t]?=some code) (e5:u.regs[t]?=some nr) (hx:code[p.toNat]?=some x) (hop:x.op≠22)
 (he:0≤e∧e < u.mod) (hf:0≤f∧f < u.mod) (hrd:0≤rd∧rd < u.mod) (hml:0≤ml∧ml < u.mod)
 (hroom:x.op=4→(model=2→(b.length:Int) < room)∧(model=3→(((b.filter fun y=>y.loc==x.loc).length:Nat):Int) < room)):Cj u (Ge u c model t x e f rd ml p r b) model room:=by
 have hh:=Bn hu
 have H:=h.thr t _ _ _ _ _ e1 e2 e3 e4 e5
 have hp0:=H.pc0
 have hp1:=H.pc1
 rcases A64 hu e4 e5 hx with ⟨q,_⟩ | ⟨hlt,hok⟩
 ·exact absurd q hop
 unfold Bj at hok
 cases hn:C9 x.op with
 | none=>rw[hn] at hok;cases hok
 | some n =>
 rw[hn] at hok
 simp only[A6] at hok
 obtain⟨⟨⟨⟨⟨_,k1⟩,k2⟩,k3⟩,_⟩,_⟩:=hok
 have hops:=X0 hn
 have hgoal:(x.op=20∨x.op=21)→0≤x.goal∧x.goal < (code.length:Int):=by
  intro ho
  have:n.goal=true:=by
   rcases ho with ho | ho<;>(rw[ho] at hn;simp[C9] at hn;rw[← hn])
  rw[this] at k3
  simpa [Ag,inB] using k3
 have hloc:x.op=4→0≤x.loc∧x.loc < (u.init.length:Int):=by
  intro ho
  have:n.loc=true:=by rw[ho] at hn;simp[C9] at hn;rw[← hn]
  rw[this] at k2
  simpa [Ag,inB] using k2
 unfold Ge
 refine A4a h ?_ ?_ (fun code' nr' g1 g2=>?_)
 ·unfold mmS
  repeat' split
  all_goals ((try simp only[List.length_set]);exact h.lmem)
 ·unfold mmS
  have hmod:0≤(ml+e) % u.mod∧(ml+e) % u.mod < u.mod:=⟨Int.emod_nonneg _ (by omega),Int.emod_lt_of_pos _ (by omega)⟩
  split
  ·exact Lx h.mem he
  ·split
   ·exact Lx h.mem hf
   ·split
    ·exact Lx h.mem hmod
    ·split
     ·exact Lx h.mem he
     ·exact h.mem
 ·rw[e4] at g1;rw[e5] at g2
  cases g1;cases g2
  refine⟨?_,?_,?_,?_,?_⟩
  ·unfold pcS
   split
   ·exact(hgoal (.inl (by assumption))).1
   ·split
    ·exact(hgoal (.inr (by rename_i q;exact q.1))).1
    ·omega
  ·unfold pcS
   split
   ·exact(hgoal (.inl (by assumption))).2
   ·split
    ·exact(hgoal (.inr (by rename_i q;exact q.1))).2
    ·omega
  ·unfold rgS
   repeat' split
   all_goals ((try simp only[List.length_set]);exact H.len)
  ·unfold rgS
   split
   ·exact Lx H.regs he
   ·split
    ·exact Lx H.regs hrd
    ·split
     ·exact Lx H.regs hml
     ·exact H.regs
  ·unfold bfS
   split
   ·rename_i q
    have:=hloc q.1
    refine Aav (by omega) H.buf ⟨this.1,this.2,he.1,he.2⟩ (hroom q.1)
   ·exact H.buf
def Qh (c:A8) (t i:Nat) (b:List A2) (x:A2):A8:=⟨c.pc,c.regs,c.mem.set x.loc.toNat x.n,c.buf.set t (b.eraseIdx i)⟩
theorem A79 {u:Ac} {c:A8} {model room:Int} (h:Cj u c model room) {t i:Nat} {b:List A2} {x:A2} (e3:c.buf[t]?=some b) (hx:b[i]?=some x) (ht:t < u.regs.length) (htc:t < u.code.length):Cj u (Qh c t i b x) model room:=by
 have t1:t < c.pc.length:=by rw[h.lpc];exact ht
 have t2:t < c.regs.length:=by rw[h.lregs];exact ht
 have H:=h.thr t _ _ _ _ _ (A5 t1) (A5 t2) e3 (A5 htc) (A5 ht)
 have hxb:=H.buf.1 x (List.mem_of_getElem? hx)
 have:=A4a h (t:=t) (p':=c.pc[t]) (r':=c.regs[t]) (b':=b.eraseIdx i) (mem':=c.mem.set x.loc.toNat x.n) (by simp[h.lmem]) (Lx h.mem hxb.2.2) (fun code nr g1 g2=>by
  rw[A5 htc] at g1;rw[A5 ht] at g2
  cases g1;cases g2
  exact⟨H.pc0,H.pc1,H.len,H.regs,Acd i H.buf⟩)
 rw[List.set_getElem_self,List.set_getElem_self] at this
 exact this
theorem Cp {α:Type} {l:List α} {i:Nat} (h:i < l.length):idx l (i:Int)=some l[i]:=by rw[Wm,A5 h]
theorem Cm (k:Nat) (h:k < 4611686018427387904):IntKind.i64.wrap ((k:Int)+1)=((k+1:Nat):Int):=Ad2 k (by omega)
theorem Ai {α:Type} {p:Prop} [Decidable p] (h:p) (a b:α):(bif decide p then a else b)=a:=by rw[decide_eq_true h];rfl
theorem Ao {α:Type} {p:Prop} [Decidable p] (h:¬ p) (a b:α):(bif decide p then a else b)=b:=by rw[decide_eq_false h];rfl
theorem S8 {α:Type} {l:List α} {i:Int} (h0:0≤i):idx l i=l[i.toNat]?:=by unfold idx;rw[decide_eq_true h0];rfl
theorem Ac6 {α σ ρ:Type} (l:List α) (L:Nat→Nat→σ→Option ρ) (F:List α→σ→Option ρ) (Inv:Nat→σ→Prop)
 (h0:∀ k s,Inv l.length s→L (k+1) l.length s=F [] s)
 (h1:∀ k i s x,i < l.length→l[i]?=some x→Inv i s→(∀ s',Inv (i+1) s'→L k (i+1) s'=F (l.drop (i+1)) s')→L (k+1) i s=F (x :: l.drop (i+1)) s) :
 ∀ (m k i:Nat) (s:σ),i+m=l.length→m < k→Inv i s→L k i s=F (l.drop i) s:=by
 intro m
 induction m with
 | zero =>
  intro k i s hi hk hs
  obtain⟨k,rfl⟩:∃ j,k=j+1:=⟨k - 1,by omega⟩
  obtain rfl:i=l.length:=by omega
  rw[h0 k s hs,List.drop_length]
 | succ m ih =>
  intro k i s hi hk hs
  obtain⟨k,rfl⟩:∃ j,k=j+1:=⟨k - 1,by omega⟩
  have hlt:i < l.length:=by omega
  rw[h1 k i s l[i] hlt (A5 hlt) hs (fun s' hs'=>ih k (i+1) s' (by omega) (by omega) hs'),List.drop_eq_getElem_cons hlt]
theorem Kd {α σ ρ:Type} (l:List α) (L:Nat→Nat→σ→Option ρ) (F:List α→σ→Option ρ) (Inv:Nat→σ→Prop) {k:Nat} {s:σ} (hk:l.length < k) (hs:Inv 0 s)
 (h0:∀ k s,Inv l.length s→L (k+1) l.length s=F [] s)
 (h1:∀ k i s x,i < l.length→l[i]?=some x→Inv i s→(∀ s',Inv (i+1) s'→L k (i+1) s'=F (l.drop (i+1)) s')→L (k+1) i s=F (x :: l.drop (i+1)) s) :
 L k 0 s=F l s:=Ac6 l L F Inv h0 h1 l.length k 0 s (by omega) hk hs
theorem Lh {α:Type} {l:List α} {i:Nat} {x:α} (h:l[i]?=some x):idx l (i:Int)=some x:=by rw[Wm,h]
theorem A4e (op:Int):op < 1∨15≤op∨op=1∨op=2∨op=3∨op=4∨op=5∨op=6∨op=7∨op=8∨op=9∨op=10∨op=11∨op=12∨op=13∨op=14:=by omega
theorem A5c {α:Type} (l:List α) (L:Nat→Nat→Option (LR Unit Bool)) (p:α→Bool) (h0:∀ k,L (k+1) l.length=some (.out ()))
 (h1:∀ k i x,i < l.length→l[i]?=some x→L (k+1) i=bif p x then L k (i+1) else some (.ret false)) {k:Nat} (hk:l.length < k):L k 0=bif l.all p then some (.out ()) else some (.ret false):=by
 refine Kd l (fun k i (_:Unit)=>L k i) (fun l _=>bif l.all p then some (.out ()) else some (.ret false)) (fun _ _=>True) (s:=()) hk trivial (fun k s _=>h0 k) ?_
 intro k i s x hi hx _ ih
 rw[h1 k i x hi hx,ih () trivial,List.all_cons]
 cases p x<;>rfl
theorem A5h {α β ν:Type} (l:List α) (f:α→β) (L:Nat→Nat→List β→Option (LR (List β) ν)) (h0:∀ k s,L (k+1) l.length s=some (.out s))
 (h1:∀ k i x s,i < l.length→l[i]?=some x→s.length=i→L (k+1) i s=L k (i+1) (s++[f x])) {k:Nat} (hk:l.length < k):L k 0 []=some (.out (l.map f)):=by
 have:=Kd l L (fun l s=>some (.out (s++l.map f))) (fun i s=>s.length=i) (s:=[]) hk rfl (fun k s _=>by rw[h0 k];simp) ?_
 ·rw[this];rfl
 ·intro k i s x hi hx hs ih
  rw[h1 k i x s hi hx hs,ih _ (by simp[hs])];simp
set_option maxRecDepth 100000
def Ea (op:Int):Int:=if 1≤op∧op≤4 then 0 else if op=5 then 1 else if 6≤op∧op≤14 then 2 else 1000000
def I8:List OpS→Int×Int→Int×Int
 | [],s=>s
 | x :: l,s=>if s.1 < Ea x.op then(-1,-1) else I8 l (s.1+(1 - Ea x.op),if s.2 < s.1+(1 - Ea x.op) then s.1+(1 - Ea x.op) else s.2)
def Pi (regs:List Int) (own locs:Int) (x:OpS):Bool :=
 if x.op=1 then decide (0≤x.n∧x.n < 10000) else if x.op=2 then decide (0≤x.n∧x.n < own) else if x.op=3 then decide (0≤x.n∧x.n < locs)
 else if x.op=4 then(if 0≤x.t then match regs[x.t.toNat]? with | some r=>decide (0≤x.n∧x.n < r) | none=>false else false) else true
def Rw (l:List OpS) (regs:List Int) (own locs:Int):Bool:=l.all (Pi regs own locs)&&decide ((I8 l (0,0)).1=1)
def b2i (c:Bool):Int:=bif c then 1 else 0
def Xt (op a b mod:Int):Int:=if op=5 then b2i (b==0) else if op=6 then Int.tmod (a+b) mod else if op=7 then Int.tmod (a+mod - b) mod else if op=8 then Int.tmod (a*b) mod
 else if op=9 then b2i (a==b) else if op=10 then b2i (a != b) else if op=11 then b2i (decide (a < b)) else if op=12 then b2i (decide (a≤b)) else if op=13 then b2i (a*b != 0) else b2i (a+b != 0)
def inR (mod v:Int):Prop:=0≤v∧v < mod
theorem Aj9 (c:Bool) {mod:Int} (h:2≤mod):inR mod (b2i c):=by cases c<;>(unfold inR b2i;simp;omega)
theorem A0w {x mod:Int} (h:2≤mod) (hx:0≤x):inR mod (Int.tmod x mod):=by
 rw[Int.tmod_eq_emod_of_nonneg hx];exact⟨Int.emod_nonneg _ (by omega),Int.emod_lt_of_pos _ (by omega)⟩
theorem Adn {a b mod:Int} (h:2≤mod∧mod≤16) (ha:inR mod a) (hb:inR mod b):0≤a*b∧a*b≤256:=by
 obtain⟨a0,a1⟩:=ha;obtain⟨b0,b1⟩:=hb
 refine⟨Int.mul_nonneg a0 b0,?_⟩
 calc a*b≤16*16:=Int.mul_le_mul (by omega) (by omega) b0 (by omega)
  _≤256:=by omega
theorem Wp {op a b mod:Int} (h:2≤mod∧mod≤16) (ha:inR mod a) (hb:inR mod b):inR mod (Xt op a b mod):=by
 have:=Adn h ha hb
 obtain⟨a0,a1⟩:=ha;obtain⟨b0,b1⟩:=hb
 unfold Xt
 repeat' split
 all_goals first | exact Aj9 _ h.1 | exact A0w h.1 (by omega)
def Lc (mod:Int) (own:List Int) (all:List (List Int)) (mem:List Int):List OpS→List Int→List Int
 | [],R=>R
 | x :: l,R=>Lc mod own all mem l (if x.op=1 then Int.tmod x.n mod :: R else if x.op=2 then own.getD x.n.toNat 0 :: R else if x.op=3 then mem.getD x.n.toNat 0 :: R
     else if x.op=4 then(all.getD x.t.toNat []).getD x.n.toNat 0 :: R else if x.op=5 then Xt 5 0 (R.getD 0 0) mod :: R.drop 1 else Xt x.op (R.getD 1 0) (R.getD 0 0) mod :: R.drop 2)
structure Afc (mod:Int) (own:List Int) (all:List (List Int)) (mem:List Int):Prop where
 h:2≤mod∧mod≤16
 own:∀ v ∈ own,inR mod v
 all:∀ r ∈ all,∀ v ∈ r,inR mod v
 mem:∀ v ∈ mem,inR mod v
def J2 (all:List (List Int)):List Int:=all.map fun r=>((r.length:Nat):Int)
def Gq (mod:Int) (l:List Int):Bool:=l.all fun v=>decide (0≤v∧v < mod)
theorem Ah3 (mod:Int) (own:List Int) (all:List (List Int)) (mem:List Int):∀ (l:List OpS) (R:List Int) (m:Int),R.length+l.length < 1000000→(I8 l ((R.length:Int),m)).1≠ -1→((Lc mod own all mem l R).length:Int)=(I8 l ((R.length:Int),m)).1:=by
 intro l
 induction l with
 | nil=>intro R m _ _;rfl
 | cons x l ih =>
  intro R m hb h
  rw[List.length_cons] at hb
  rw[I8] at h ⊢
  by_cases c:(R.length:Int) < Ea x.op
  ·rw[if_pos c] at h;exact absurd rfl h
  ·rw[if_neg c] at h ⊢
   rw[Lc]
   dsimp only at h ⊢
   have key:∀ R':List Int,(R'.length:Int)=(R.length:Int)+(1 - Ea x.op)→0≤Ea x.op→((Lc mod own all mem l R').length:Int)=(I8 l ((R.length:Int)+(1 - Ea x.op),if m < (R.length:Int)+(1 - Ea x.op) then(R.length:Int)+(1 - Ea x.op) else m)).1:=by
    intro R' e h0
    rw[← e] at h ⊢
    exact ih R' _ (by omega) h
   have bad:x.op < 1∨15≤x.op→False:=by
    intro g
    have:Ea x.op=1000000:=by unfold Ea;repeat' split
                             all_goals omega
    omega
   rcases A4e x.op with g | g | g | g | g | g | g | g | g | g | g | g | g | g | g | g
   ·exact(bad (.inl g)).elim
   ·exact(bad (.inr g)).elim
   all_goals refine key _ ?_ (by rw[g];decide)
   all_goals rw[g] at c ⊢;simp only[Ea] at c ⊢;simp at c ⊢;try omega
theorem Aj2 {mod:Int} {own:List Int} {all:List (List Int)} {mem:List Int} (G:Afc mod own all mem):∀ (l:List OpS) (R:List Int),(∀ x ∈ l,Pi (J2 all) own.length mem.length x=true)→(∀ v ∈ R,inR mod v)→∀ v ∈ Lc mod own all mem l R,inR mod v:=by
 intro l
 have hm:=G.h
 have z:inR mod 0:=⟨by omega,by omega⟩
 have gd:∀ (R:List Int),(∀ v ∈ R,inR mod v)→∀ j,inR mod (R.getD j 0):=by
  intro R hR j
  rw[List.getD_eq_getElem?_getD]
  cases h:R[j]? with
  | none=>exact z
  | some v=>exact hR v (List.mem_of_getElem? h)
 induction l with
 | nil=>intro R _ h;exact h
 | cons x l ih =>
  intro R hx hR
  rw[Lc]
  refine ih _ (fun y hy=>hx y (List.mem_cons_of_mem _ hy)) ?_
  have ho:=hx x (List.mem_cons_self ..)
  have two:∀ {v:Int} {R':List Int},inR mod v→(∀ w ∈ R',inR mod w)→∀ w ∈ v :: R',inR mod w:=by
   intro v R' a b w hw
   rcases List.mem_cons.1 hw with rfl | hw
   ·exact a
   ·exact b w hw
  unfold Pi at ho
  split
  ·rename_i c;rw[if_pos c,A9] at ho;exact two (A0w hm.1 ho.1) hR
  split
  ·exact two (gd _ G.own _) hR
  split
  ·exact two (gd _ G.mem _) hR
  split
  ·refine two (gd _ ?_ _) hR
   rw[List.getD_eq_getElem?_getD]
   cases h:all[x.t.toNat]? with
   | none=>intro v hv;cases hv
   | some r=>exact G.all r (List.mem_of_getElem? h)
  split
  ·exact two (Wp hm z (gd R hR 0)) (fun w hw=>hR w (List.mem_of_mem_drop hw))
  ·exact two (Wp hm (gd R hR 1) (gd R hR 0)) (fun w hw=>hR w (List.mem_of_mem_drop hw))
def Lb (l:List OpS) (mod:Int) (own:List Int) (all:List (List Int)) (mem:List Int):Bool :=
 decide (2≤mod∧mod≤16)&&(Gq mod own&&(Gq mod mem&&(all.all (Gq mod)&&Rw l (J2 all) own.length mem.length)))
def Ab1 (l:List OpS) (mod:Int) (own:List Int) (all:List (List Int)) (mem:List Int):Int×Bool :=
 bif Lb l mod own all mem then((Lc mod own all mem l []).getD 0 0,true) else(0,false)
theorem A8v {l:List OpS} {mod:Int} {own:List Int} {all:List (List Int)} {mem:List Int} (h:Lb l mod own all mem=true) :
 Afc mod own all mem∧(∀ x ∈ l,Pi (J2 all) own.length mem.length x=true)∧(I8 l (0,0)).1=1:=by
 simp only[Lb,Rw,Gq,A6,A9,List.all_eq_true] at h
 obtain⟨h1,h2,h3,h4,h5,h6⟩:=h
 exact⟨⟨h1,h2,h4,h3⟩,h5,h6⟩
theorem A8m {l:List OpS} {mod:Int} {own:List Int} {all:List (List Int)} {mem:List Int} (h:Lb l mod own all mem=true) (hl:l.length < 1000000) :
 ∃ v,Lc mod own all mem l []=[v]∧inR mod v:=by
 obtain⟨G,h1,h2⟩:=A8v h
 have e:=Ah3 mod own all mem l [] 0 (by simp;omega) (by show(I8 l (0,0)).1≠ -1;rw[h2];decide)
 have e2:((Lc mod own all mem l []).length:Int)=1:=e.trans h2
 have hin:=Aj2 G l [] h1 (by intro v hv;cases hv)
 match hr:Lc mod own all mem l [] with
 | []=>rw[hr] at e2;simp at e2
 | [v]=>exact⟨v,rfl,hin v (by rw[hr];exact List.mem_cons_self ..)⟩
 | a :: b :: c=>rw[hr] at e2;simp at e2;omega
def A11 (b:List A2) (loc:Int):Nat:=(b.filter fun x=>x.loc==loc).length
def A08 (b:List A2) (model room loc:Int):Bool:=if model=2 then decide ((b.length:Int) < room) else if model=3 then decide ((A11 b loc:Int) < room) else false
def Ns (b:List A2) (loc:Int):Option Int:=(b.reverse.find? fun x=>x.loc==loc).map fun x=>x.n
def Uz (b:List A2) (model loc:Int):Option Nat:=match b.findIdx? (fun x=>x.loc==loc || (decide (model=2)&&decide (loc < 0))) with
 | some i=>if model=2∧0 < i∨(model≠2∧model≠3) then none else some i
 | none=>none
def J3 (c:A8) (t loc:Int):Int:=if t < 0∨(c.buf.length:Int)≤t∨loc < 0∨(c.mem.length:Int)≤loc then 0 else match Ns (c.buf.getD t.toNat []) loc with
 | some n=>n
 | none=>c.mem.getD loc.toNat 0
def Dy (u:Ac) (c:A8) (t:Nat) (l:List OpS):Int:=(Ab1 l u.mod (c.regs.getD t []) [] []).1
def Nl (u:Ac) (c:A8) (t:Nat):Option Aj:=match u.code[t]?,c.pc[t]? with
 | some code,some p=>if 0≤p then code[p.toNat]? else none
 | _,_=>none
def enX (u:Ac) (c:A8) (model room:Int) (t:Nat) (x:Aj):Bool:=if x.op=22 then false else if x.op=4 then decide (model=1) || A08 (c.buf.getD t []) model room x.loc else if 5≤x.op∧x.op≤8 then(c.buf.getD t []).isEmpty else if x.op=9 then(J3 c t x.loc==Dy u c t x.e) != x.ne else true
def enC (u:Ac) (c:A8) (model room:Int) (t:Nat):Bool:=match Nl u c t with
 | some x=>enX u c model room t x
 | none=>false
def A6v (u:Ac) (c:A8) (model:Int) (t:Nat) (x:Aj):A8:=Ge u c model t x (Dy u c t x.e) (Dy u c t x.f) (J3 c t x.loc) (c.mem.getD x.loc.toNat 0) (c.pc.getD t 0) (c.regs.getD t []) (c.buf.getD t [])
def T7 (u:Ac) (c:A8) (model room:Int) (t:Nat):A8×Bool:=match Nl u c t with
 | some x=>if enX u c model room t x=true then(A6v u c model t x,true) else(c,false)
 | none=>(c,false)
def H6 (c:A8) (model:Int) (t:Nat) (loc:Int):A8×Bool:=match Uz (c.buf.getD t []) model loc with
 | some i=>match (c.buf.getD t [])[i]? with
   | some x=>(Qh c t i (c.buf.getD t []) x,true)
   | none=>(c,false)
 | none=>(c,false)
theorem A1g {u:Ac} {c:A8} {t:Nat} {l:List OpS} (hm:2≤u.mod∧u.mod≤16) (hl:l.length < 1000000):0≤Dy u c t l∧Dy u c t l < u.mod:=by
 unfold Dy Ab1
 cases h:Lb l u.mod (c.regs.getD t []) [] [] with
 | false=>exact⟨Int.le_refl 0,show(0:Int) < u.mod by omega⟩
 | true =>
  obtain⟨v,hv,h1,h2⟩:=A8m h hl
  rw[As,hv]
  exact⟨h1,h2⟩
theorem Aeg {b:List A2} {loc n:Int} (h:Ns b loc=some n):∃ x ∈ b,x.n=n:=by
 unfold Ns at h
 obtain⟨x,hx,rfl⟩:=Option.map_eq_some_iff.1 h
 exact⟨x,by simpa using List.mem_of_find?_eq_some hx,rfl⟩
section
variable {u:Ac} {c:A8} {model room:Int}
theorem Acq (hu:Ax u=true) (h:Cj u c model room) (t loc:Int):0≤J3 c t loc∧J3 c t loc < u.mod:=by
 have hh:=Bn hu
 unfold J3
 split
 ·omega
 ·rename_i g
  have tl:t.toNat < c.buf.length:=by omega
  have e1:c.buf.getD t.toNat []=c.buf[t.toNat]:=by rw[List.getD_eq_getElem?_getD,A5 tl];rfl
  rw[e1]
  split
  ·rename_i n hn
   obtain⟨x,hx,rfl⟩:=Aeg hn
   have t0:t.toNat < u.regs.length:=by have:=h.lbuf;omega
   have t1:t.toNat < c.pc.length:=by have:=h.lpc;omega
   have t2:t.toNat < c.regs.length:=by have:=h.lregs;omega
   have H:=h.thr t.toNat _ _ _ _ _ (A5 t1) (A5 t2) (A5 tl) (A5 (show t.toNat < u.code.length by omega)) (A5 t0)
   exact(H.buf.1 x hx).2.2
  ·have ll:loc.toNat < c.mem.length:=by omega
   rw[List.getD_eq_getElem?_getD,A5 ll]
   exact h.mem _ (List.getElem_mem ll)
theorem A8o (hu:Ax u=true) (h:Cj u c model room) (i:Nat):0≤c.mem.getD i 0∧c.mem.getD i 0 < u.mod:=by
 have hh:=Bn hu
 rw[List.getD_eq_getElem?_getD]
 cases e:c.mem[i]? with
 | none=>exact⟨by decide,by simp;omega⟩
 | some x=>exact h.mem x (List.mem_of_getElem? e)
theorem Acw (hu:Ax u=true) (hm:1≤model∧model≤3) (h:Cj u c model room) {t:Nat} (ht:t < u.regs.length) (hl:∀ code ∈ u.code,∀ x ∈ code,x.e.length < 1000000∧x.f.length < 1000000):Cj u (T7 u c model room t).1 model room:=by
 unfold T7
 split
 ·rename_i x hx
  split
  ·rename_i he
   have hh:=Bn hu
   have t1:t < c.pc.length:=by have:=h.lpc;omega
   have t2:t < c.regs.length:=by have:=h.lregs;omega
   have t3:t < c.buf.length:=by have:=h.lbuf;omega
   have t4:t < u.code.length:=by omega
   unfold Nl at hx
   rw[A5 t1,A5 t4] at hx
   simp only at hx
   split at hx
   ·rename_i p0
    have e1:c.pc.getD t 0=c.pc[t]:=by rw[List.getD_eq_getElem?_getD,A5 t1];rfl
    have e2:c.regs.getD t []=c.regs[t]:=by rw[List.getD_eq_getElem?_getD,A5 t2];rfl
    have e3:c.buf.getD t []=c.buf[t]:=by rw[List.getD_eq_getElem?_getD,A5 t3];rfl
    have hxl:=hl _ (List.getElem_mem t4) x (List.mem_of_getElem? hx)
    have hop:x.op≠22:=by intro e;unfold enX at he;rw[if_pos e] at he;cases he
    unfold A6v
    rw[e1,e2,e3]
    refine Aam hu hm h (A5 t1) (A5 t2) (A5 t3) (A5 t4) (A5 ht) hx hop (A1g (by omega) hxl.1) (A1g (by omega) hxl.2) (Acq hu h _ _) (A8o hu h _) (fun h4=>?_)
    unfold enX at he
    rw[if_neg hop,if_pos h4,e3] at he
    refine⟨fun m2=>?_,fun m3=>?_⟩
    ·rw[m2] at he;simpa [A08] using he
    ·rw[m3] at he;simp[A08,A11] at he;exact of_decide_eq_true he
   ·cases hx
  ·exact h
 ·exact h
theorem Us (hu:Ax u=true) (h:Cj u c model room) {t:Nat} (ht:t < u.regs.length) (loc:Int):Cj u (H6 c model t loc).1 model room:=by
 have hh:=Bn hu
 have t3:t < c.buf.length:=by have:=h.lbuf;omega
 have e3:c.buf.getD t []=c.buf[t]:=by rw[List.getD_eq_getElem?_getD,A5 t3];rfl
 unfold H6
 rw[e3]
 split
 ·split
  ·rename_i x hx
   exact A79 h (A5 t3) hx ht (by omega)
  ·exact h
 ·exact h
end
end Go.Proofs.Ytpknphnaegfghaa
end
