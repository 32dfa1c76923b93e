/- Parts of the proofs: what they lean on. Conditions: none. -/
import Derived.Test.YtpknphnaegfghaaBneS15
section
section
namespace Go.Proofs.Ytpknphnaegfghaa
open Go.RowKit
set_option linter.unusedVariables false
set_option linter.unusedSimpArgs false
def Tw (m:Nat) (w:World) (e:Ending) (w':World):Prop:=e=.returned (.agg #[.int .i64 (m:Int)])∧Below w.heap.size w w'
def Ts (m:Int) (w:World) (e:Ending) (w':World):Prop:=e=.returned (.int .i64 m)∧Below w.heap.size w w'
theorem A4g {w:World} (o1 o2:Obj):Below w.heap.size w ((w.alloc o1).alloc o2):=by
 refine Below.alloc (Below.alloc (Below.refl _ _) (Nat.le_refl _) _) ?_ _
 all_goals simp only[World.size_alloc]
 all_goals omega
theorem Jm {w:World} (o1 o2 o3:Obj):Below w.heap.size w (((w.alloc o1).alloc o2).alloc o3):=by
 refine Below.alloc (Below.alloc (Below.alloc (Below.refl _ _) (Nat.le_refl _) _) ?_ _) ?_ _
 all_goals simp only[World.size_alloc]
 all_goals omega
theorem Fy {w w':World} {p:Addr} (h:Below w.heap.size w w') (v:Value) (hp:w.heap.size≤p.block):Below w.heap.size w (w'.setCell p v):=h.setCell hp v
theorem A8k {a b n:Nat}:n / a < b↔(n:Int) / (a:Int) < (b:Int):=by rw[← Int.natCast_ediv];exact Int.ofNat_lt.symm
theorem Adk {a b:Nat} (h0:a≠0) (h:1125899906842624 / a < b):By a b=1125899906842624:=by
 unfold By
 have:=(Nat.div_lt_iff_lt_mul (by omega)).1 h
 rw[Nat.mul_comm a b]
 exact Nat.min_eq_right (Nat.le_of_lt this)
theorem Adt {a b:Nat} (h0:a≠0) (h:¬ 1125899906842624 / a < b):By a b=a*b∧a*b≤1125899906842624:=by
 unfold By
 have:=(Nat.le_div_iff_mul_le (by omega)).1 (Nat.le_of_not_lt h)
 rw[Nat.mul_comm a b]
 exact⟨Nat.min_eq_left this,this⟩
set_option maxHeartbeats 1000000 in
theorem Se (n:Nat) (w:World) (hn:n≤9223372036854775807):Calls Try.prog 13 #[.int .i64 n] w (Tw (min n 1125899906842624) w):=by
 by_cases h:n≤1125899906842624
 ·have HN:=Lib.hid (Nat.min_eq_left h)
  rw[HN.out]
  go_enter Try.func13,Try.ntmps13
  go_wp2
  exact bodyPost_ret (v:=.agg #[.int .i64 n]) (by simp[results,Try.results13,go_sem]) rfl ⟨rfl,(Below.refl _ _).alloc (Nat.le_refl _) _⟩
 ·have HN:=Lib.hid (Nat.min_eq_right (Nat.le_of_not_le h))
  rw[HN.out]
  go_enter Try.func13,Try.ntmps13
  go_wp2
  exact bodyPost_ret (v:=.agg #[.int .i64 1125899906842624]) (by simp[results,Try.results13,go_sem]) rfl ⟨rfl,(Below.refl _ _).alloc (Nat.le_refl _) _⟩
set_option maxHeartbeats 1000000 in
theorem Aej (a b:Nat) (w:World) (ha:a≤1125899906842624) (hb:b≤1125899906842624):Calls Try.prog 29 #[.agg #[.int .i64 a],.agg #[.int .i64 b]] w (Tw (min (a+b) 1125899906842624) w):=by
 by_cases h:a+b≤1125899906842624
 ·have HN:=Lib.hid (Nat.min_eq_left h)
  rw[HN.out]
  go_enter Try.func29,Try.ntmps29
  go_wp2
  exact bodyPost_ret (v:=.agg #[.int .i64 ((a+b:Nat):Int)]) (by simp[results,Try.results29,go_sem]) rfl ⟨rfl,Jm _ _ _⟩
 ·have HN:=Lib.hid (Nat.min_eq_right (Nat.le_of_not_le h))
  rw[HN.out]
  go_enter Try.func29,Try.ntmps29
  go_wp2
  exact bodyPost_ret (v:=.agg #[.int .i64 1125899906842624]) (by simp[results,Try.results29,go_sem]) rfl ⟨rfl,Jm _ _ _⟩
set_option maxHeartbeats 1000000 in
theorem Lu (a b:Nat) (w:World) (ha:a≤1125899906842624) (hb:b≤1125899906842624):Calls Try.prog 14 #[.agg #[.int .i64 a],.agg #[.int .i64 b]] w (Tw (By a b) w):=by
 by_cases h0:a=0
 ·subst h0
  have HZ:=Lib.hid (show By 0 b=0 by simp[By])
  rw[HZ.out]
  go_enter Try.func14,Try.ntmps14
  go_wp2_with fail
  go_quiet (fail)
  go_wp2
  exact bodyPost_ret (v:=.agg #[.int .i64 0]) (by simp[results,Try.results14,go_sem]) rfl ⟨rfl,Fy (below_drewN (Jm _ _ _) _) _ (by show _≤_+1+1;omega)⟩
 ·have d0:((a:Int) != 0)=true:=by simpa using h0
  have h1a:1≤(a:Int):=by omega
  by_cases h1:1125899906842624 / a < b
  ·have HZ:=Lib.hid (Adk h0 h1)
   rw[HZ.out]
   have d1:(1125899906842624:Int) / (a:Int) < (b:Int):=A8k.1 h1
   clear h0 h1
   go_enter Try.func14,Try.ntmps14
   go_wp2_with fail
   go_quiet (fail)
   go_wp2
   exact bodyPost_ret (v:=.agg #[.int .i64 1125899906842624]) (by simp[results,Try.results14,go_sem]) rfl ⟨rfl,Fy (below_drewN (Jm _ _ _) _) _ (by show _≤_+1+1;omega)⟩
  ·obtain⟨e1,e2⟩:=Adt h0 h1
   have HZ:=Lib.hid e1
   rw[HZ.out]
   have d1:decide ((1125899906842624:Int) / (a:Int) < (b:Int))=false:=decide_eq_false fun h=>h1 (A8k.2 h)
   have d2:(a:Int)*(b:Int)≤1125899906842624:=by rw[← Int.natCast_mul];exact Int.ofNat_le.2 e2
   have d3:0≤(a:Int)*(b:Int):=Int.mul_nonneg (by omega) (by omega)
   clear h0 h1 e1 e2
   go_enter Try.func14,Try.ntmps14
   go_wp2_with fail
   go_quiet (fail)
   go_wp2
   exact bodyPost_ret (v:=.agg #[.int .i64 ((a*b:Nat):Int)]) (by simp[results,Try.results14,go_sem]) rfl ⟨rfl,Fy (below_drewN (Jm _ _ _) _) _ (by show _≤_+1+1;omega)⟩
set_option maxRecDepth 100000 in
set_option maxHeartbeats 4000000 in
theorem O4 (a n:Nat) (w:World) (ha:a≤1125899906842624) (hn:n≤9223372036854775807):Calls Try.prog 12 #[.agg #[.int .i64 a],.int .i64 n] w (Tw (Ch a n) w):=by
 obtain⟨r,hr⟩:∃ r,Ch a n=r:=⟨_,rfl⟩
 have HR:=Lib.hid hr
 rw[hr]
 clear hr
 go_enter Try.func12,Try.ntmps12
 go_wp2_with fail
 refine(Se 1 _ (by omega)).mono ?_
 rintro e w1 ⟨rfl,hb⟩
 have HB0:=Lib.hid ((A4g (w:=w) _ _).trans (hb.mono (by simp only[World.size_alloc];omega)))
 have hz:=hb.size
 simp only[World.size_alloc] at hz
 have va:=((VarAt.new w #[.int .i64 a] 49 0 _ rfl).later ((Below.refl _ _).alloc (Nat.le_refl _) (.cells #[.int .i64 0] 49))).later hb
 have vr:=(VarAt.new (w.alloc (.cells #[.int .i64 a] 49)) #[.int .i64 0] 49 0 _ rfl).later hb
 simp only[World.size_alloc] at vr
 have VA:=Lib.hid va;have VR:=Lib.hid vr
 clear hb va vr
 go_wp2_with fail
 have hB:Below w.heap.size w (w1.alloc (.cells #[.int .i64 ((min 1 1125899906842624:Nat):Int)] 49)):=HB0.out.alloc (by omega) _
 have vp:=VarAt.new w1 #[.int .i64 ((min 1 1125899906842624:Nat):Int)] 49 0 _ rfl
 have va:=VA.out.later ((Below.refl _ _).alloc (Nat.le_refl _) (.cells #[.int .i64 ((min 1 1125899906842624:Nat):Int)] 49))
 have vr:=VR.out.later ((Below.refl _ _).alloc (Nat.le_refl _) (.cells #[.int .i64 ((min 1 1125899906842624:Nat):Int)] 49))
 go_loopw [1] (fun nv wr=>∃ m p A:Nat,nv=.int .i64 m∧p≤1125899906842624∧A≤1125899906842624∧m≤n∧By p (Ch A m)=r∧VarAt wr w.heap.size 0 (.int .i64 A)∧VarAt wr w1.heap.size 0 (.int .i64 p)∧VarAt wr (w.heap.size+1) 0 (.int .i64 0)∧Below w.heap.size w wr) (fun nv _=>(intOf nv).toNat)
 case atStart=>exact⟨n,1,a,rfl,by omega,ha,by omega,by rw[← HR.out];exact(show min (1*Ch a n) D7=Ch a n by rw[Nat.one_mul];exact Nat.min_eq_left (Sg a n)),va,vp,vr,hB⟩
 case round =>
  obtain⟨m,p,A,rfl,hp,hA,hm,hrel,va,vp,vr,hb⟩:=hrel
  have HL:=Lib.hid hrel;have HB:=Lib.hid hb
  have hzz:=vp.lt
  have VA:=Lib.hid va;have VP:=Lib.hid vp;have VR:=Lib.hid vr
  obtain⟨ca,fa⟩:=va
  obtain⟨cp,fp⟩:=vp
  obtain⟨cr,fr⟩:=vr
  clear hrel hb
  by_cases h0:0 < m
  ·by_cases hodd:m % 2=1
   ·have d1:((m:Int) % 2==1)=true:=Mo (by omega)
    go_wp2_with fail
    refine(Lu p A _ hp hA).mono ?_
    rintro e w2 ⟨rfl,hb⟩
    have VA2:=VA.out.later hb;have VP2:=VP.out.later hb;have VR2:=VR.out.later hb
    obtain⟨cp2,fp2⟩:=VP2
    have HB2:=Lib.hid (HB.out.trans (hb.mono HB.out.size))
    clear hb
    go_upto_region 6 with (fail)
    have va3:=VA2.other (p:=⟨w1.heap.size,0,none⟩) (.inl (by show w1.heap.size≠_;omega)) (.int .i64 (By p A))
    have vp3:=VarAt.set ⟨cp2,fp2⟩ (.int .i64 (By p A))
    have vr3:=VR2.other (p:=⟨w1.heap.size,0,none⟩) (.inl (by show w1.heap.size≠_;omega)) (.int .i64 (By p A))
    have hb3:Below w.heap.size w (w2.setCell ⟨w1.heap.size,0,none⟩ (.int .i64 (By p A))):=Fy HB2.out _ (by show _≤w1.heap.size;omega)
    clear VA2 VR2 cp2 fp2 ca fa cp fp cr fr
    generalize w2.setCell ⟨w1.heap.size,0,none⟩ (.int .i64 (By p A))=w3 at *
    have VA3:=Lib.hid va3;have VP3:=Lib.hid vp3;have VR3:=Lib.hid vr3;have HB3:=Lib.hid hb3
    have hz3:=va3.lt
    obtain⟨ca,fa⟩:=va3
    clear vp3 vr3 hb3
    go_wp2_with fail
    refine(Lu A A _ hA hA).mono ?_
    rintro e w4 ⟨rfl,hb⟩
    have va4:=VA3.out.later hb;have VP4:=Lib.hid (VP3.out.later hb);have VR4:=Lib.hid (VR3.out.later hb)
    have VA4:=Lib.hid va4
    obtain⟨ca4,fa4⟩:=va4
    have HB4:=Lib.hid (HB3.out.trans (hb.mono HB3.out.size))
    clear hb ca fa
    go_wp2_with fail
    go_roundw
    case rel=>exact⟨m / 2,By p A,By A A,by go_num,M1 _ _,M1 _ _,by omega,by rw[Abn];exact Ais hodd HL.out,VA4.out.set _,VP4.out.other (.inl (by show w.heap.size≠_;omega)) _,VR4.out.other (.inl (by show w.heap.size≠_;omega)) _,Fy HB4.out _ (Nat.le_refl _)⟩
    case measure=>simp[intOf];omega
   ·have d1:((m:Int) % 2==1)=false:=I9 (by omega)
    have hodd:m % 2=0:=by omega
    clear ca fa cp fp cr fr
    have va3:=VA.out;have vp3:=VP.out;have vr3:=VR.out;have hb3:=HB.out
    have VA3:=Lib.hid va3;have VP3:=Lib.hid vp3;have VR3:=Lib.hid vr3;have HB3:=Lib.hid hb3
    have hz3:=va3.lt
    obtain⟨ca,fa⟩:=va3
    clear vp3 vr3 hb3
    go_wp2_with fail
    refine(Lu A A _ hA hA).mono ?_
    rintro e w4 ⟨rfl,hb⟩
    have va4:=VA3.out.later hb;have VP4:=Lib.hid (VP3.out.later hb);have VR4:=Lib.hid (VR3.out.later hb)
    have VA4:=Lib.hid va4
    obtain⟨ca4,fa4⟩:=va4
    have HB4:=Lib.hid (HB3.out.trans (hb.mono HB3.out.size))
    clear hb ca fa
    go_wp2_with fail
    go_roundw
    case rel=>exact⟨m / 2,p,By A A,by go_num,hp,M1 _ _,by omega,by rw[Abn];exact Af2 (by omega) HL.out,VA4.out.set _,VP4.out.other (.inl (by show w.heap.size≠_;omega)) _,VR4.out.other (.inl (by show w.heap.size≠_;omega)) _,Fy HB4.out _ (Nat.le_refl _)⟩
    case measure=>simp[intOf];omega
  ·have HN:=Lib.hid (show p=r by
    rw[← HL.out,show m=0 by omega,Ac9]
    exact(show p=min (p*1) D7 by rw[Nat.mul_one];exact(Nat.min_eq_left hp).symm))
   go_wp2_with fail
   exact bodyPost_ret (v:=.agg #[.int .i64 p]) (by simp[results,Try.results12,go_sem,(VR.out.set (.int .i64 p)).1]) rfl ⟨by rw[HN.out],Fy HB.out _ (by show _≤w.heap.size+1;omega)⟩
theorem Xp:∀ (x:Int) (w:World),(Instr.field 49 (.agg #[.int .i64 x]) 0).run Try.prog w=.ok (.int .i64 x) w:=fun _ _=>by kernel_rfl
set_option maxHeartbeats 1000000 in
theorem Aa3 (a n:Int) (w:World) (h:a < 0∨n < 0):Calls Try.prog 8 #[.int .i64 a,.int .i64 n] w (Ts 0 w):=by
 by_cases h1:a < 0
 ·clear h
  go_enter Try.func8,Try.ntmps8
  go_wp2_with fail
  go_ret
  exact⟨rfl,Below.refl _ _⟩
 ·have h2:n < 0:=by omega
  clear h
  go_enter Try.func8,Try.ntmps8
  go_wp2_with fail
  go_ret
  exact⟨rfl,Below.refl _ _⟩
set_option maxRecDepth 100000 in
set_option maxHeartbeats 1000000 in
theorem A9j (a n:Nat) (w:World) (ha:a≤9223372036854775807) (hn:n≤9223372036854775807):Calls Try.prog 8 #[.int .i64 a,.int .i64 n] w (Ts (Ch a n) w):=by
 obtain⟨A,hA⟩:∃ A,min a 1125899906842624=A:=⟨_,rfl⟩
 have hAc:A≤1125899906842624:=by rw[← hA];exact Nat.min_le_right _ _
 have HP:=Lib.hid (show Ch a n=Ch A n by rw[← hA];exact(Xx a n).symm)
 have HA:=Lib.hid hA
 clear hA
 go_enter Try.func8,Try.ntmps8
 go_wp2_with fail
 refine(Se a _ ha).mono ?_
 rintro e w1 ⟨rfl,hb⟩
 rw[HA.out]
 have HB:=Lib.hid hb;clear hb
 go_wp2_with fail
 refine(O4 A n _ hAc hn).mono ?_
 rintro e w2 ⟨rfl,hb⟩
 have HB2:=Lib.hid (HB.out.trans (hb.mono HB.out.size));clear hb
 have hf:=Xp
 go_wp2_with fail
 go_ret
 exact⟨by rw[HP.out];rfl,HB2.out⟩
theorem Aeb (w:World):Calls Try.prog 13 #[.int .i64 0] w (Tw 0 w):=by
 have:=Se 0 w (by omega)
 rw[Nat.zero_min] at this
 exact this
set_option maxRecDepth 100000 in
set_option maxHeartbeats 2000000 in
theorem A44 (a n:Nat) (w:World) (ha:a≤1125899906842624) (hn:n≤1000):Calls Try.prog 20 #[.int .i64 a,.int .i64 n] w (Tw (Iv a (n+1)) w):=by
 have HMA:=Lib.hid (Nat.min_eq_left ha)
 go_enter Try.func20,Try.ntmps20
 go_wp2_with fail
 refine(Aeb _).mono ?_
 rintro e w1 ⟨rfl,hb⟩
 have HB0:=Lib.hid (((Below.refl _ _).alloc (Nat.le_refl _) _).trans (hb.mono (by simp only[World.size_alloc];omega)))
 have hz:=hb.size
 simp only[World.size_alloc] at hz
 have vr:=(VarAt.new w #[.int .i64 0] 49 0 _ rfl).later hb
 have VR:=Lib.hid vr
 clear hb vr
 go_wp2_with fail
 have hB:Below w.heap.size w (w1.alloc (.cells #[.int .i64 0] 49)):=HB0.out.alloc (by omega) _
 have vs:=VarAt.new w1 #[.int .i64 0] 49 0 _ rfl
 have vr:=VR.out.later ((Below.refl _ _).alloc (Nat.le_refl _) (.cells #[.int .i64 0] 49))
 go_loopw [10] (fun i wr=>∃ k:Nat,i=.int .i64 k∧k≤n+1∧VarAt wr w1.heap.size 0 (.int .i64 (Iv a k))∧VarAt wr w.heap.size 0 (.int .i64 0)∧Below w.heap.size w wr) (fun i _=>n+1 - (intOf i).toNat)
 case atStart=>exact⟨0,rfl,by omega,vs,vr,hB⟩
 case round =>
  obtain⟨k,rfl,hk,vs,vr,hb⟩:=hrel
  have HB:=Lib.hid hb;clear hb
  have VS:=Lib.hid vs;have VRR:=Lib.hid vr
  have hzz:=vs.lt
  have hs:Iv a k≤1125899906842624:=A0t a k
  have hp:Ch a k≤1125899906842624:=Sg a k
  have HS:=Lib.hid (show min (Iv a k+Ch a k) 1125899906842624=Iv a (k+1) from rfl)
  by_cases c1:k < n+1
  ·obtain⟨cs,fs⟩:=vs
   obtain⟨cr,fr⟩:=vr
   have e1:=Later.cell cs
   go_wp2_with fail
   refine Iy 6 (by kernel_rfl) (by kernel_rfl) ?_
   simp only[List.take_succ_cons,List.take_zero,List.drop_succ_cons,List.drop_zero]
   repeat (go_big_quiet_step (first
    | (go_at_call 13;exact Calls.later (Se a _ (by omega)) (fun _ _ h=>by rw[HMA.out] at h;exact h))
    | (go_at_call 12;exact Calls.later (O4 a k _ ha (by omega)) (fun _ _ h=>h))
    | (go_at_call 29;exact Calls.later (Aej (Iv a k) (Ch a k) _ hs hp) (fun _ _ h=>by rw[HS.out] at h;exact h))))
   refine wpQuiet_nil ?_
   rintro w2 ⟨⟨w3,hb3⟩,rfl⟩
   clear e1 cs fs cr fr
   have vs3:=VS.out.later hb3;have VR3:=Lib.hid (VRR.out.later hb3)
   have VS3:=Lib.hid vs3
   have HB3:=Lib.hid (HB.out.trans (hb3.mono HB.out.size))
   have hz3:=vs3.lt
   obtain⟨cs,fs⟩:=vs3
   clear hb3
   go_wp2_with fail
   go_roundw
   case rel=>exact⟨k+1,by go_num,by omega,VS3.out.set _,VR3.out.other (.inl (by show w1.heap.size≠_;omega)) _,Fy HB3.out _ (by show _≤w1.heap.size;omega)⟩
   case measure=>simp[intOf];omega
  ·have HN:=Lib.hid (show Iv a (n+1)=Iv a k by rw[show k=n+1 by omega])
   obtain⟨cs,fs⟩:=vs
   obtain⟨cr,fr⟩:=vr
   go_wp2_with fail
   exact bodyPost_ret (v:=.agg #[.int .i64 (Iv a k)]) (by simp[results,Try.results20,go_sem,(VRR.out.set (.int .i64 (Iv a k))).1]) rfl ⟨by rw[HN.out],Fy HB.out _ (by show _≤w.heap.size;omega)⟩
set_option maxRecDepth 100000 in
set_option maxHeartbeats 2000000 in
theorem Vy (locs mod model room:Int) (w:World):Calls Try.prog 9 #[.int .i64 locs,.int .i64 mod,.int .i64 model,.int .i64 room] w (Ts (Dq locs mod model room) w):=by
 have hf:=Xp
 by_cases hp:locs < 0∨6 < locs∨mod < 2∨16 < mod∨room < 1∨4 < room
 ·have HN:=Lib.hid (show Dq locs mod model room=0 by unfold Dq;rw[if_pos hp])
  have HH:Hid (0≤locs→locs≤6→2≤mod→mod≤16→1≤room→room≤4→False):=fun _ _ _ _ _ _=>by omega
  rw[HN.out]
  clear hp
  go_enter Try.func9,Try.ntmps9
  go_wp2_with fail
  all_goals
   first
   | (go_ret;exact⟨rfl,Below.refl _ _⟩)
   | (exfalso;exact HH.out (by omega) (by omega) (by omega) (by omega) (by omega) (by omega))
 ·have HP:Hid (Pn locs mod room):=by unfold Pn;exact(by omega:0≤locs∧locs≤6∧2≤mod∧mod≤16∧1≤room∧room≤4)
  obtain⟨h1,h2,h3,h4,h5,h6⟩:=HP.out
  have HN:=Lib.hid (X1 HP.out model)
  rw[HN.out]
  obtain⟨l,rfl⟩:=Int.eq_ofNat_of_zero_le h1
  obtain⟨m,rfl⟩:=Int.eq_ofNat_of_zero_le (show 0≤mod by omega)
  obtain⟨r,rfl⟩:=Int.eq_ofNat_of_zero_le (show 0≤room by omega)
  have g1:l≤6:=by omega
  have g2:m≤16:=by omega
  have g3:r≤4:=by omega
  have e1:((l:Int)*(m:Int)).toNat=l*m:=by rw[← Int.natCast_mul];rfl
  have e2:((r:Int)).toNat=r:=rfl
  have e3:((m:Int)).toNat=m:=rfl
  have e4:((l:Int)).toNat=l:=rfl
  rw[e1,e2,e3,e4]
  have q0:l*m≤96:=Nat.mul_le_mul g1 g2
  have q1:(l:Int)*(m:Int)≤96:=by rw[← Int.natCast_mul];exact Int.ofNat_le.2 q0
  have q2:0≤(l:Int)*(m:Int):=by rw[← Int.natCast_mul];exact Int.natCast_nonneg _
  have HM:=Lib.hid (Int.natCast_mul l m)
  have HQ:=Lib.hid q0
  have HS:=Lib.hid (A0t m (r+1))
  clear hp HN e1 e2 e3 e4 q0
  by_cases c1:model=1
  ·subst c1
   go_enter Try.func9,Try.ntmps9
   go_wp2_with fail
   go_ret
   exact⟨rfl,Below.refl _ _⟩
  ·by_cases c2:model=2
   ·subst c2
    go_enter Try.func9,Try.ntmps9
    go_wp2_with fail
    rw[← HM.out]
    refine(A44 (l*m) r _ (by have:=HQ.out;omega) (by omega)).mono ?_
    rintro e w1 ⟨rfl,hb⟩
    have HB:=Lib.hid hb;clear hb
    go_wp2_with fail
    go_ret
    exact⟨rfl,HB.out⟩
   ·by_cases c3:model=3
    ·subst c3
     go_enter Try.func9,Try.ntmps9
     go_wp2_with fail
     refine(A44 m r _ (by omega) (by omega)).mono ?_
     rintro e w1 ⟨rfl,hb⟩
     have HB:=Lib.hid hb;clear hb
     go_wp2_with fail
     refine(O4 (Iv m (r+1)) l _ HS.out (by omega)).mono ?_
     rintro e w2 ⟨rfl,hb⟩
     have HB2:=Lib.hid (HB.out.trans (hb.mono HB.out.size));clear hb
     go_wp2_with fail
     go_ret
     exact⟨rfl,HB2.out⟩
    ·have d1:(model==1)=false:=I9 c1
     have d2:(model==2)=false:=I9 c2
     have d3:(model==3)=false:=I9 c3
     rw[if_neg c1,if_neg c2,if_neg c3]
     clear c1 c2 c3
     go_enter Try.func9,Try.ntmps9
     go_wp2_with fail
     go_ret
     exact⟨rfl,Below.refl _ _⟩
theorem O8 (n:Nat) (w:World) (hn:n≤1125899906842624):Calls Try.prog 13 #[.int .i64 n] w (Tw n w):=by
 have:=Se n w (by omega)
 rw[Nat.min_eq_left hn] at this
 exact this
def Xk (u:Ac) (t:Int):Prop:=t < 0∨(u.regs.length:Int)≤t∨(u.code.length:Int)≤t
set_option maxRecDepth 100000 in
set_option maxHeartbeats 4000000 in
theorem A5i (u:Ac) (v:Value) (t model room:Int) (w:World) (hv:UnitV w v u) (hno:Xk u t) :
 Calls Try.prog 10 #[v,.int .i64 t,.int .i64 model,.int .i64 room] w (Ts 0 w):=by
 obtain⟨vi,vr,vc,rfl,s1,s2,s3,m1,m2⟩:=hv
 have l1:=s1.len;have l2:=s2.len;have l3:=s3.len
 obtain⟨a1,c1,rfl,h1⟩:=C6 s1
 obtain⟨a2,c2,rfl,h2⟩:=C6 s2
 obtain⟨a3,c3,rfl,h3⟩:=Eh s3
 clear s1 s2 s3 h1 h2 h3
 obtain⟨mod,init,regs,code⟩:=u
 dsimp only [Xk] at *
 generalize init.length=n1 at *
 generalize regs.length=n2 at *
 generalize code.length=n3 at *
 have HH:Hid (0≤t→t < n2→t < n3→False):=fun _ _ _=>by omega
 clear hno
 go_enter Try.func10,Try.ntmps10
 go_wp2_with fail
 all_goals
  first
  | (go_ret;exact⟨rfl,(Below.refl _ _).alloc (Nat.le_refl _) _⟩)
  | (exfalso;exact HH.out (by omega) (by omega) (by omega))
set_option maxRecDepth 100000 in
set_option maxHeartbeats 4000000 in
theorem Xf (u:Ac) (v:Value) (t:Nat) (model room:Int) (w:World) (hv:UnitV w v u) (hr:Ax u=true) (ht:t < u.regs.length) :
 Calls Try.prog 10 #[v,.int .i64 t,.int .i64 model,.int .i64 room] w (Ts (Ik u t model room) w):=by
 have hh:=Bn hr
 have htc:t < u.code.length:=by omega
 have hrow:=Mm hr ht htc
 have HT:=Lib.hid (Yk ht htc model room)
 obtain⟨res,hres⟩:∃ r,Ik u t model room=r:=⟨_,rfl⟩
 have HR:=Lib.hid hres
 rw[hres]
 clear hres hr
 obtain⟨vi,vr,vc,rfl,s1,s2,s3,m1,m2⟩:=hv
 have l1:=s1.len;have l2:=s2.len;have l3:=s3.len
 obtain⟨a1,c1,rfl,h1⟩:=C6 s1
 obtain⟨a2,c2,rfl,h2⟩:=C6 s2
 obtain⟨a3,c3,rfl,h3⟩:=Eh s3
 obtain⟨mod,init,regs,code⟩:=u
 dsimp only at *
 obtain⟨b2,o2,rfl,x2,bd1,bd2⟩:=h2 t ht
 clear bd1 bd2
 obtain⟨b3,o3,vr,rfl,x3,sr⟩:=h3 t htc
 obtain⟨x,hx⟩:∃ x,regs[t]=x:=⟨_,rfl⟩
 obtain⟨row,hrw⟩:∃ r,code[t]=r:=⟨_,rfl⟩
 rw[hx] at x2 hrow HT
 rw[hrw] at sr hrow HT
 obtain⟨ar,cr,rfl,hrr⟩:=Nz sr
 obtain⟨q1,q2,q3,q4⟩:=hrow
 obtain⟨xn,rfl⟩:=Int.eq_ofNat_of_zero_le q1
 obtain⟨M,rfl⟩:=Int.eq_ofNat_of_zero_le (show 0≤mod by omega)
 clear h1 h2 h3 s1 s2 s3 sr hx hrw hrr
 generalize init.length=n1 at *
 generalize regs.length=n2 at *
 generalize code.length=n3 at *
 generalize row.length=n4 at *
 obtain⟨g1,g2,g3,g4,g5,rfl⟩:=hh
 have hf:=Xp
 go_enter Try.func10,Try.ntmps10
 go_wp2_with fail
 have hBW:Below w.heap.size w (w.alloc (.cells #[.int .i64 (M:Int),.slice a1 n1 c1,.slice (some ⟨b2,o2,none⟩) n3 c2,.slice (some ⟨b3,o3,none⟩) n3 c3] 25)):=(Below.refl _ _).alloc (Nat.le_refl _) _
 have z0:=C2 w #[.int .i64 (M:Int),.slice a1 n1 c1,.slice (some ⟨b2,o2,none⟩) n3 c2,.slice (some ⟨b3,o3,none⟩) n3 c3] 25 0 _ rfl
 have z1:=C2 w #[.int .i64 (M:Int),.slice a1 n1 c1,.slice (some ⟨b2,o2,none⟩) n3 c2,.slice (some ⟨b3,o3,none⟩) n3 c3] 25 1 _ rfl
 have z2:=C2 w #[.int .i64 (M:Int),.slice a1 n1 c1,.slice (some ⟨b2,o2,none⟩) n3 c2,.slice (some ⟨b3,o3,none⟩) n3 c3] 25 2 _ rfl
 have z3:=C2 w #[.int .i64 (M:Int),.slice a1 n1 c1,.slice (some ⟨b2,o2,none⟩) n3 c2,.slice (some ⟨b3,o3,none⟩) n3 c3] 25 3 _ rfl
 have y2:=cell_later hBW x2
 have y3:=cell_later hBW x3
 have HBW:=Lib.hid hBW
 have hWs:w.heap.size < (w.alloc (.cells #[.int .i64 (M:Int),.slice a1 n1 c1,.slice (some ⟨b2,o2,none⟩) n3 c2,.slice (some ⟨b3,o3,none⟩) n3 c3] 25)).heap.size:=by simp
 clear hBW x2 x3
 generalize w.alloc (.cells #[.int .i64 (M:Int),.slice a1 n1 c1,.slice (some ⟨b2,o2,none⟩) n3 c2,.slice (some ⟨b3,o3,none⟩) n3 c3] 25)=W at *
 have f0:=Later.cell z0
 have f2:=Later.cell z2
 have f4:=Later.cell y2
 refine Rb 9 (.cells #[.int .i64 0] 49) rfl (by kernel_rfl) (by kernel_rfl) (Makes.of rfl rfl (fun _ _=>rfl)) ?_
 simp only[List.take_succ_cons,List.take_zero,List.drop_succ_cons,List.drop_zero]
 repeat (
  refine Vh (fun K hK=>?_)
  go_simp
  first
  | (refine hK _ ?_;clear hK K)
  | (apply Exists.intro
     refine⟨fun _=>?_,hK _ ?_⟩
     ·first
      | (go_at_call 13;exact(O8 M _ (by omega)).mono fun _ _ h=>h)
      | (go_at_call 12;exact(O4 M xn _ (by omega) (by omega)).mono fun _ _ h=>h)
     clear hK K))
 refine X8 ?_
 intro B hBz w1 hb1 hfr
 have hv1:=VarAt.set hfr.var (.int .i64 (Ch M xn))
 have hv0:=hfr.var
 have HV1:=Lib.hid hv1
 have HB1:=Lib.hid (Fy hb1 (.int .i64 (Ch M xn)) (p:=⟨B,0,none⟩) hBz)
 have hzz:=hb1.size
 obtain⟨cB,fB⟩:=hv0
 clear hv1 hb1 hfr f0 f2 f4
 go_upto_region 4 with (fail)
 have z0':=cell_later HB1.out z0
 have z1':=cell_later HB1.out z1
 have z3':=cell_later HB1.out z3
 have y3':=cell_later HB1.out y3
 obtain⟨cp,fp⟩:=HV1.out
 have hzz2:=HB1.out.size
 clear cB fB z0 z1 z2 z3 y2 y3
 generalize w1.setCell ⟨B,0,none⟩ (.int .i64 (Ch M xn))=w2 at *
 have f0:=Later.cell z0'
 have f1:=Later.cell z1'
 have f3:=Later.cell z3'
 have f5:=Later.cell y3'
 have f9:=Later.cell cp
 have hp1:=Sg M xn
 have HP1:=Lib.hid (show Ch M xn≤1125899906842624 from hp1)
 have HP2:=Lib.hid (show By n4 (Ch M xn)≤1125899906842624 from M1 _ _)
 have HP3:=Lib.hid (show Dq n1 M model room≤1125899906842624 from A81 _ _ _ _)
 clear hp1
 refine Iy 20 (by kernel_rfl) (by kernel_rfl) ?_
 simp only[List.take_succ_cons,List.take_zero,List.drop_succ_cons,List.drop_zero]
 repeat (go_big_quiet_step (first
  | (go_at_call_of 13 (Value.int .i64 (n4:Int));exact Calls.later (O8 n4 _ (by omega)) (fun _ _ h=>h))
  | (go_at_call_of 14 (Value.agg #[Value.int .i64 (n4:Int)]);exact Calls.later (Lu n4 (Ch M xn) _ (by omega) HP1.out) (fun _ _ h=>h))
  | (go_at_call 9;exact Calls.later (Vy n1 M model room _) (fun _ _ h=>h))
  | (go_at_call_of 13 (Value.int .i64 (Dq n1 M model room:Int));exact Calls.later (O8 (Dq n1 M model room) _ HP3.out) (fun _ _ h=>h))
  | (go_at_call_of 14 (Value.agg #[Value.int .i64 (By n4 (Ch M xn):Int)]);exact Calls.later (Lu (By n4 (Ch M xn)) (Dq n1 M model room) _ HP2.out HP3.out) (fun _ _ h=>h))))
 refine wpQuiet_nil ?_
 rintro w3 ⟨⟨w4,hb4⟩,rfl⟩
 have HB4:=Lib.hid (HBW.out.trans ((HB1.out.mono (by omega)).trans (hb4.mono (by omega))))
 clear hb4 f0 f1 f3 f5 f9
 have HN:=Lib.hid (show By (By n4 (Ch M xn)) (Dq n1 M model room)=res from(HR.out.symm.trans HT.out).symm)
 go_wp2_with fail
 go_ret
 exact⟨by rw[← HN.out];rfl,HB4.out⟩
def Acb (m:Int×Int) (w:World) (e:Ending) (w':World):Prop:=e=.returned (.tuple #[.int .i64 m.1,.int .i64 m.2])∧Below w.heap.size w w'
theorem Aal {w:World} {u:Ac} {v:Value} (hv:UnitV w v u):∃ a1 c1 a2 c2 a3 c3,v=.agg #[.int .i64 u.mod,.slice a1 u.init.length c1,.slice a2 u.regs.length c2,.slice a3 u.code.length c3]:=by
 obtain⟨vi,vr,vc,rfl,s1,s2,s3,_⟩:=hv
 obtain⟨a1,c1,rfl,_⟩:=C6 s1
 obtain⟨a2,c2,rfl,_⟩:=C6 s2
 obtain⟨a3,c3,rfl,_⟩:=Eh s3
 exact⟨a1,c1,a2,c2,a3,c3,rfl⟩
theorem A80 {u:Ac} {model room:Int} (h:Ax u=false):Dw u model room=(0,8):=by simp only[Dw,h,if_true]
theorem Aa8 {u:Ac} {model room:Int} (h:Ax u=true) (h2:model < 1∨3 < model∨room < 1∨4 < room):Dw u model room=(0,1):=by
 simp only[Dw,h,Bool.true_eq_false,if_false,if_pos h2]
theorem Ae5 {u:Ac} {model room:Int} (h:Ax u=true) (h2:¬ (model < 1∨3 < model∨room < 1∨4 < room)):Dw u model room=((Ey u model room u.regs.length:Int),0):=by
 simp only[Dw,h,Bool.true_eq_false,if_false,if_neg h2]
set_option maxRecDepth 100000 in
set_option maxHeartbeats 4000000 in
theorem Z1 (u:Ac) (v:Value) (model room:Int) (w:World) (hv:UnitV w v u) :
 Calls Try.prog 6 #[v,.int .i64 model,.int .i64 room] w (Acb (Dw u model room) w):=by
 obtain⟨a1,c1,a2,c2,a3,c3,rfl⟩:=Aal hv
 obtain⟨_,_,_,he,s1,s2,s3,m1,m2⟩:=hv
 have l1:=s1.len;have l2:=s2.len;have l3:=s3.len
 have HV:=Lib.hid (show UnitV w _ u from⟨_,_,_,he,s1,s2,s3,m1,m2⟩)
 clear he s1 s2 s3
 obtain⟨n1,hn1⟩:∃ n,u.init.length=n:=⟨_,rfl⟩
 obtain⟨n2,hn2⟩:∃ n,u.regs.length=n:=⟨_,rfl⟩
 obtain⟨n3,hn3⟩:∃ n,u.code.length=n:=⟨_,rfl⟩
 obtain⟨mod,hmod⟩:∃ n,u.mod=n:=⟨_,rfl⟩
 rw[hn1,hn2,hn3,hmod] at HV ⊢
 rw[hn1] at l1;rw[hn2] at l2;rw[hn3] at l3;rw[hmod] at m1 m2
 have N1:=Lib.hid hn1;have N2:=Lib.hid hn2;have N3:=Lib.hid hn3;have NM:=Lib.hid hmod
 clear hn1 hn2 hn3 hmod
 obtain⟨r1,r2,hres⟩:∃ r1 r2,Dw u model room=(r1,r2):=⟨_,_,rfl⟩
 have HR:=Lib.hid hres
 rw[hres]
 clear hres
 have hBW:Below w.heap.size w (w.alloc (.cells #[.int .i64 mod,.slice a1 n1 c1,.slice a2 n2 c2,.slice a3 n3 c3] 25)):=(Below.refl _ _).alloc (Nat.le_refl _) _
 have z0:=C2 w #[.int .i64 mod,.slice a1 n1 c1,.slice a2 n2 c2,.slice a3 n3 c3] 25 0 _ rfl
 have z1:=C2 w #[.int .i64 mod,.slice a1 n1 c1,.slice a2 n2 c2,.slice a3 n3 c3] 25 1 _ rfl
 have z2:=C2 w #[.int .i64 mod,.slice a1 n1 c1,.slice a2 n2 c2,.slice a3 n3 c3] 25 2 _ rfl
 have z3:=C2 w #[.int .i64 mod,.slice a1 n1 c1,.slice a2 n2 c2,.slice a3 n3 c3] 25 3 _ rfl
 have ZZ:Hid (Below w.heap.size w (w.alloc (.cells #[.int .i64 mod,.slice a1 n1 c1,.slice a2 n2 c2,.slice a3 n3 c3] 25))∧_∧_∧_∧_):=⟨hBW,z0,z1,z2,z3⟩
 clear hBW z0 z1 z2 z3
 go_enter Try.func6,Try.ntmps6
 go_wp2_with fail
 refine(A4k u _ _ (HV.out.mono ZZ.out.1)).mono ?_
 rintro e w1 ⟨rfl,hb⟩
 obtain⟨hBW,z0,z1,z2,z3⟩:=ZZ.out
 have y0:=cell_later hb z0;have y1:=cell_later hb z1;have y2:=cell_later hb z2;have y3:=cell_later hb z3
 have HB:=Lib.hid (hBW.trans (hb.mono hBW.size))
 have hz:w.heap.size < w1.heap.size:=by have:=hb.size;simp only[World.size_alloc] at this;omega
 clear hb z0 z1 z2 z3 hBW
 cases hr:Ax u
 ·have HN:=Lib.hid (A80 (model:=model) (room:=room) hr)
  clear hr
  go_wp2_with fail
  go_ret2
  exact⟨by rw[← HR.out,HN.out];rfl,HB.out⟩
 ·have HRT:=Lib.hid hr
  clear hr
  by_cases hbad:model < 1∨3 < model∨room < 1∨4 < room
  ·have HN:=Lib.hid (Aa8 HRT.out hbad)
   have HH:Hid (1≤model→model≤3→1≤room→room≤4→False):=fun _ _ _ _=>by omega
   clear hbad
   go_wp2_with fail
   all_goals
    first
    | (go_ret2;exact⟨by rw[← HR.out,HN.out];rfl,HB.out⟩)
    | (exfalso;exact HH.out (by omega) (by omega) (by omega) (by omega))
  ·have HN:=Lib.hid (Ae5 HRT.out hbad)
   have hm1:1≤model:=by omega
   have hm2:model≤3:=by omega
   have hr1:1≤room:=by omega
   have hr2:room≤4:=by omega
   clear hbad
   have hh:=Bn HRT.out
   rw[N1.out,N2.out,N3.out,NM.out] at hh
   obtain⟨g1,g2,g3,g4,g5,g6⟩:=hh
   have G6:=Lib.hid g6
   clear g6
   have d1:decide (model < 1)=false:=decide_eq_false (by omega)
   have d2:decide (3 < model)=false:=decide_eq_false (by omega)
   have d3:decide (room < 1)=false:=decide_eq_false (by omega)
   have d4:decide (4 < room)=false:=decide_eq_false (by omega)
   obtain⟨M,rfl⟩:=Int.eq_ofNat_of_zero_le (show 0≤mod by omega)
   have MM:Hid (u.mod.toNat=M):=by rw[NM.out];rfl
   go_upto_region 5 with (fail)
   have f0:=Later.cell y0
   have f1:=Later.cell y1
   refine Rb 7 (.cells #[.int .i64 0] 49) rfl (by kernel_rfl) (by kernel_rfl) (Makes.of rfl rfl (fun _ _=>rfl)) ?_
   simp only[List.take_succ_cons,List.take_zero,List.drop_succ_cons,List.drop_zero]
   repeat (
    refine Vh (fun K hK=>?_)
    go_simp
    first
    | (refine hK _ ?_;clear hK K)
    | (apply Exists.intro
       refine⟨fun _=>?_,hK _ ?_⟩
       ·first
        | (go_at_call 13;exact(O8 M _ (by omega)).mono fun _ _ h=>h)
        | (go_at_call 12;exact(O4 M n1 _ (by omega) (by omega)).mono fun _ _ h=>h)
       clear hK K))
   refine X8 ?_
   intro B hBz w2 hb1 hfr
   have hv1:=VarAt.set hfr.var (.int .i64 (Ch M n1))
   have hv0:=hfr.var
   have HV1:=Lib.hid hv1
   have HB1:=Lib.hid (Fy hb1 (.int .i64 (Ch M n1)) (p:=⟨B,0,none⟩) hBz)
   have hzz:=hb1.size
   obtain⟨cB,fB⟩:=hv0
   have x2:=(HB1.out.cell (p:=⟨w.heap.size,2,none⟩) (by show w.heap.size < _;omega)).trans y2
   clear hv1 hb1 hfr f0 f1
   go_upto_region 6 with (fail)
   generalize w2.setCell ⟨B,0,none⟩ (.int .i64 (Ch M n1))=w3 at *
   have hw3:=HB1.out.size
   go_wp2_with fail
   go_loopw [39] (fun i wr=>∃ k:Nat,i=.int .i64 k∧k≤n2∧VarAt wr B 0 (.int .i64 (Ey u model room k))∧Below w1.heap.size w1 wr) (fun i _=>n2 - (intOf i).toNat)
   case atStart=>exact⟨0,rfl,by omega,by simp only[Ey];rw[MM.out,N1.out];exact HV1.out,HB1.out⟩
   case round =>
    obtain⟨k,rfl,hk,vs,hb⟩:=hrel
    have VS:=Lib.hid vs;have HBk:=Lib.hid hb
    have hzz:=vs.lt
    have hwr:=hb.size
    have t0:=cell_later hb y0;have t1:=cell_later hb y1;have t2:=cell_later hb y2;have t3:=cell_later hb y3
    obtain⟨cs,fs⟩:=vs
    clear hb
    by_cases c1:k < n2
    ·have e0:=Later.cell t0;have e1:=Later.cell t1;have e2:=Later.cell t2;have e3:=Later.cell t3;have e4:=Later.cell cs
     have HP1:=Lib.hid (show Ey u model room k≤1125899906842624 from Zg _ _ _ _)
     have HP2:=Lib.hid (show Ik u k model room≤1125899906842624 from A9k _ _ _ _)
     go_wp2_with fail
     refine Iy 8 (by kernel_rfl) (by kernel_rfl) ?_
     simp only[List.take_succ_cons,List.take_zero,List.drop_succ_cons,List.drop_zero]
     repeat (go_big_quiet_step (first
      | (go_at_call 10;exact Calls.later (Xf u _ k model room _ (((HV.out.mono HB.out).mono HBk.out).mono (Later.below _)) HRT.out (by rw[N2.out];omega)) (fun _ _ h=>h))
      | (go_at_call 13;exact Calls.later (O8 (Ik u k model room) _ HP2.out) (fun _ _ h=>h))
      | (go_at_call 14;exact Calls.later (Lu (Ey u model room k) (Ik u k model room) _ HP1.out HP2.out) (fun _ _ h=>h))))
     refine wpQuiet_nil ?_
     rintro w4 ⟨⟨w5,hb5⟩,rfl⟩
     have vs5:=VS.out.later hb5
     have VS5:=Lib.hid vs5
     have HB5:=Lib.hid (HBk.out.trans (hb5.mono hwr))
     have hz5:=vs5.lt
     obtain⟨cs5,fs5⟩:=vs5
     clear hb5 e0 e1 e2 e3 e4 cs fs t0 t1 t2 t3
     go_wp2_with fail
     go_roundw
     case rel=>exact⟨k+1,by go_num,by omega,VS5.out.set _,Fy HB5.out _ hBz⟩
     case measure=>simp[intOf];omega
    ·have HE:=Lib.hid (show((Ey u model room k:Int),(0:Int))=(r1,r2) by rw[← HR.out,HN.out,N2.out,show k=n2 by omega])
     clear t0 t1 t2 t3
     go_wp2_with fail
     go_ret2
     exact⟨by rw[← HE.out];rfl,HB.out.trans (HBk.out.mono (by omega))⟩
theorem A6i (a n m:Nat) (h:Ch a n=m) (ha:a≤1000) (hn:n≤1000) (w:World):Calls Try.prog 8 #[.int .i64 a,.int .i64 n] w (Ts m w):=by
 rw[← h];exact A9j a n w (by omega) (by omega)
theorem A55 (u:Ac) (v:Value) (k r a b:Int) (h:Dw u k r=(a,b)) (w:World) (hv:UnitV w v u):Calls Try.prog 6 #[v,.int .i64 k,.int .i64 r] w (Acb (a,b) w):=by
 rw[← h];exact Z1 u v k r w hv
theorem kc1:Dw (Qd 2 0) 2 2=(56,0):=by decide +kernel
theorem kc2:Dw A94 2 2=(0,8):=by decide +kernel
theorem kc3:Dw (Qd 2 0) 4 2=(0,1):=by decide +kernel
theorem kt0:Ik (Qd 2 0) 0 2 2=28:=by decide +kernel
theorem Aer (v:Value) (w:World) (hv:UnitV w v (Qd 2 0)):Calls Try.prog 10 #[v,.int .i64 0,.int .i64 2,.int .i64 2] w (Ts (28:Nat) w):=by
 rw[← kt0];exact Xf (Qd 2 0) v 0 2 2 w hv (by decide +kernel) (by decide)
theorem kp1:Ch 3 4=81:=by decide +kernel
theorem kp2:Ch 2 60=1125899906842624:=by decide +kernel
theorem kp3:Ch 0 0=1:=by decide +kernel
theorem kb1:Dq 1 2 2 2=7:=by decide +kernel
theorem kb2:Dq 2 2 3 1=9:=by decide +kernel
theorem kb3:Dq 2 2 1 1=1:=by decide +kernel
set_option maxRecDepth 100000 in
set_option maxHeartbeats 4000000 in
theorem A7m (w:World):Calls Try.prog 5 #[] w (C5 true w):=by
 go_enter Try.func5,Try.ntmps5
 go_upto_region 2 with (fail)
 obtain⟨W,hW⟩:∃ W,W=(((((w.alloc (.cells #[.int .i64 0] 3)).alloc (.cells #[.int .i64 1] 3)).alloc (.cells #[.int .i64 8,.int .i64 0,.int .i64 0,.slice none 0 0,.slice none 0 0,.bool false,.int .i64 0,.int .i64 22,.int .i64 0,.int .i64 0,.slice none 0 0,.slice none 0 0,.bool false,.int .i64 0] 44)).alloc (.cells #[.slice (some ⟨w.heap.size+1+1,0,none⟩) 2 2] 41)).alloc (.cells #[.int .i64 2,.slice (some ⟨w.heap.size,0,none⟩) 1 1,.slice (some ⟨w.heap.size+1,0,none⟩) 1 1,.slice (some ⟨w.heap.size+1+1+1,0,none⟩) 1 1] 25)):=⟨_,rfl⟩
 rw[← hW]
 obtain⟨hb0,l1,l2,l3,l4,l5⟩:=Ake w _ _ _ _ _ _ _ _ _ _ hW
 have hu:UnitV W (.agg #[.int .i64 2,.slice (some ⟨w.heap.size,0,none⟩) 1 1,.slice (some ⟨w.heap.size+1,0,none⟩) 1 1,.slice (some ⟨w.heap.size+1+1+1,0,none⟩) 1 1]) (Qd 2 0) :=
  Afv (by decide) (by decide) (l1 0 _ rfl) (l2 0 _ rfl) (fun j u hj=>l3 j u (by simpa using hj)) (l4 0 _ rfl)
 have y0:=l5 0 _ rfl;have y1:=l5 1 _ rfl;have y2:=l5 2 _ rfl;have y3:=l5 3 _ rfl
 clear hW l1 l2 l3 l4 l5
 have HU0:=Lib.hid hu;have HB0:=Lib.hid hb0
 clear hu hb0
 go_wp2_with fail
 refine(A55 (Qd 2 0) _ 2 2 56 0 kc1 _ HU0.out).mono ?_
 rintro e w1 ⟨rfl,hb⟩
 have ya0:=cell_later hb y0;have ya1:=cell_later hb y1;have ya2:=cell_later hb y2;have ya3:=cell_later hb y3
 have HB1:=Lib.hid (HB0.out.trans (hb.mono HB0.out.size))
 have HU1:=Lib.hid (HU0.out.mono hb)
 clear y0 y1 y2 y3 hb
 go_wp2_with fail
 refine(A55 A94 _ 2 2 0 8 kc2 _ (Adr _)).mono ?_
 rintro e w2 ⟨rfl,hb⟩
 have yb0:=cell_later hb ya0;have yb1:=cell_later hb ya1;have yb2:=cell_later hb ya2;have yb3:=cell_later hb ya3
 have HB2:=Lib.hid (HB1.out.trans (hb.mono HB1.out.size))
 have HU2:=Lib.hid (HU1.out.mono hb)
 clear ya0 ya1 ya2 ya3 hb
 go_wp2_with fail
 refine(A55 (Qd 2 0) _ 4 2 0 1 kc3 _ HU2.out).mono ?_
 rintro e w3 ⟨rfl,hb⟩
 have yc0:=cell_later hb yb0;have yc1:=cell_later hb yb1;have yc2:=cell_later hb yb2;have yc3:=cell_later hb yb3
 have HB3:=Lib.hid (HB2.out.trans (hb.mono HB2.out.size))
 have HU3:=Lib.hid (HU2.out.mono hb)
 clear yb0 yb1 yb2 yb3 hb
 go_upto_region 5 with (fail)
 have f0:=Later.cell yc0;have f1:=Later.cell yc1;have f2:=Later.cell yc2;have f3:=Later.cell yc3
 have hk1:=kb1;have hk2:=kb2;have hk3:=kb3
 refine Yd ?_
 repeat (go_big_quiet_step (first
  | (go_at_call_of 8 (Value.int .i64 3);exact Calls.later (A6i 3 4 81 kp1 (by omega) (by omega) _) (fun _ _ h=>h))
  | (go_at_call_of 8 (Value.int .i64 60);exact Calls.later (A6i 2 60 _ kp2 (by omega) (by omega) _) (fun _ _ h=>h))
  | (go_at_call_of 8 (Value.int .i64 0);exact Calls.later (A6i 0 0 1 kp3 (by omega) (by omega) _) (fun _ _ h=>h))
  | (go_at_call 8;exact Calls.later (Aa3 (-1) 2 _ (by omega)) (fun _ _ h=>h))
  | (go_at_call 9;exact Calls.later (Vy _ _ _ _ _) (fun _ _ h=>h))
  | (go_at_call_of 10 (Value.int .i64 0);exact Calls.later (Aer _ _ (HU3.out.mono (Later.below _))) (fun _ _ h=>h))
  | (go_at_call_of 10 (Value.int .i64 1);exact Calls.later (A5i (Qd 2 0) _ 1 2 2 _ (HU3.out.mono (Later.below _)) (by unfold Xk Qd;simp)) (fun _ _ h=>h))))
 refine wpQuiet_nil ?_
 rintro w4 ⟨⟨w5,hb5⟩,rfl⟩
 have HB5:=Lib.hid (HB3.out.trans (hb5.mono HB3.out.size))
 clear f0 f1 f2 f3 hb5 hk1 hk2 hk3
 go_wp2_with fail
 go_ret
 exact⟨rfl,HB5.out⟩
end Go.Proofs.Ytpknphnaegfghaa
end
end
section
namespace Go.Proofs.Ytpknphnaegfghaa
open Go.RowKit
set_option linter.unusedVariables false
set_option linter.unusedSimpArgs false
set_option maxRecDepth 100000
theorem A2d (u:Ac) (m r:Int):(Lit.int .i64 (Dw u m r).1).wf=true∧(Lit.int .i64 (Dw u m r).2).wf=true:=by
 unfold Dw
 split
 ·exact⟨by decide,by decide⟩
 ·split
  ·exact⟨by decide,by decide⟩
  ·have:=Zg u m r u.regs.length
   refine⟨?_,show(Lit.int .i64 0).wf=true by decide⟩
   have h:Ey u m r u.regs.length≤1125899906842624:=this
   rw[Lit.wf,A6]
   exact⟨decide_eq_true (by show -9223372036854775808≤_;omega),decide_eq_true (by show _≤9223372036854775807;omega)⟩
theorem Ahp:J6 Try.prog 6 (Na N8 fun p=>.tup [.int .i64 (Dw p.1 p.2.1 p.2.2).1,.int .i64 (Dw p.1 p.2.1 p.2.2).2]):=by
 refine Ab7 fun x vs w hr=>?_
 obtain⟨u,m,r⟩:=x
 replace hr:Reps (SAll w) w [] [] [aU u,.int .i64 m,.int .i64 r] vs:=hr
 cases hr with | cons _ _ _ vu _ _ ru hr =>
 cases hr with | cons _ _ _ vm _ _ rm hr =>
 cases hr with | cons _ _ _ vr _ _ rr hr =>
 cases hr
 obtain⟨rfl,om⟩:=rm.int_inv
 obtain⟨rfl,or⟩:=rr.int_inv
 refine(Z1 u vu m r w (Ux _ _ _ _ ru)).mono ?_
 rintro e w' ⟨rfl,hb⟩
 exact⟨_,rfl,hb,fun S=>.tup _ _ _ [.int .i64 (Dw u m r).1,.int .i64 (Dw u m r).2] (.cons _ _ _ _ _ _ (.int _ _ _ _ (A2d u m r).1) (.cons _ _ _ _ _ _ (.int _ _ _ _ (A2d u m r).2) (.nil _ _)))⟩
theorem Aa0:∀ p ∈ Aep,J6 Try.prog p.1 p.2:=by
 unfold Aep
 refine List.forall_mem_cons.2 ⟨A9u,?_⟩
 refine List.forall_mem_cons.2 ⟨A67,?_⟩
 refine List.forall_mem_cons.2 ⟨Ahp,?_⟩
 exact List.forall_mem_cons.2 ⟨Aaq fun w=>(A7m w).mono fun _ _ h=>h,Xi⟩
theorem Afh:Nc Try.prog XT:=Rr Aa0
end Go.Proofs.Ytpknphnaegfghaa
end
