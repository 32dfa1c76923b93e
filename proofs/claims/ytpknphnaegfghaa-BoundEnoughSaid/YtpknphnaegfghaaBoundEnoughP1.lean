/- Parts of the proofs: what they lean on. Conditions: none. -/
import Derived.Test.YtpknphnaegfghaaProg
import Derived.Test.YtpknphnaegfghaaBneS16
section
namespace Go.Proofs.Ytpknphnaegfghaa
open Go.RowKit Go.WideShapes
set_option linter.unusedVariables false
set_option linter.unusedSimpArgs false
theorem A0u {P:Program} {w:World} {r:Reach} {base:Nat} {t:TypeId} {v:Value} {fs:Array Field} (ht:P.underlying t=some (.struct fs)) (h:Value.okWide P w r base t v):∃ cs,v=.agg cs:=by
 simp only[Value.okWide,ht] at h
 obtain⟨cs,rfl,_⟩:=h
 exact⟨cs,rfl⟩
theorem Ahd {α:Type} {r:Rd α} {enc:α→List AV} (he:Enc r enc) {W:World} {cs:Array Value} {x:α} (h:r.rel W (Value.agg cs).cells.toList x):Rep (SAll W) W [] [] (.agg (enc x)) (.agg cs):=by
 obtain⟨h1,h2⟩:=he _ _ _ h
 cases cs
 exact .agg _ _ _ _ h1 h2
theorem Akn {a b:List UInt8} (h:bs a=bs b):a=b:=by
 have:=congrArg (fun x:ByteArray=>x.data.toList) h
 simpa [bs] using this
def Du:Rd Int:=Q4 .i64
theorem F9:Gf Try.prog 3 Du:=Acp Try.underlying3 (by kernel_rfl)
theorem F7:Enc Du A0:=Aio _
def Qv:Rd (List Int):=F0 Du
theorem A2m:Gf Try.prog 22 Qv:=Nx Try.underlying22 (by kernel_rfl) F9 (by decide)
theorem A28:Enc Qv (fun l=>[AV.sl 1 (l.map A0)]):=Re F7
def Vm:Rd OpS:=Ng (fun x=>⟨x.1,x.2.1,x.2.2⟩) (D3 Du (D3 Du Du))
theorem Abw:Gf Try.prog 106 Vm:=Qy _ (M4 Try.underlying106 (by kernel_rfl) (Dc rfl F9 (Dc rfl F9 (Ph rfl F9) (by decide)) (by decide)))
theorem Aca:Enc Vm Bh:=We (fun _=>rfl) (Fo F7 (Fo F7 F7))
def Mv:Rd (List OpS):=F0 Vm
theorem Vk:Gf Try.prog 42 Mv:=Nx Try.underlying42 (by kernel_rfl) Abw (by decide)
theorem Vb:Enc Mv (fun l=>[AV.sl 3 (l.map Bh)]):=Re Aca
def A0e:Rd Bool:=Th
theorem Aik:Gf Try.prog 4 A0e:=Aa2 Try.underlying4 (by kernel_rfl)
theorem Ai9:Enc A0e Ajx:=Afr
def Pz:Rd Aj:=Ng (fun x=>⟨x.1,x.2.1,x.2.2.1,x.2.2.2.1,x.2.2.2.2.1,x.2.2.2.2.2.1,x.2.2.2.2.2.2⟩) (D3 Du (D3 Du (D3 Du (D3 Mv (D3 Mv (D3 A0e Du))))))
theorem A47:Gf Try.prog 44 Pz:=Qy _ (M4 Try.underlying44 (by kernel_rfl) (Dc rfl F9 (Dc rfl F9 (Dc rfl F9 (Dc rfl Vk (Dc rfl Vk (Dc rfl Aik (Ph rfl F9) (by decide)) (by decide)) (by decide)) (by decide)) (by decide)) (by decide)))
theorem A6y:Enc Pz Bd:=We (fun _=>rfl) (Fo F7 (Fo F7 (Fo F7 (Fo Vb (Fo Vb (Fo Ai9 F7))))))
def Mu:Rd (List Aj):=F0 Pz
theorem Zy:Gf Try.prog 41 Mu:=Nx Try.underlying41 (by kernel_rfl) A47 (by decide)
theorem Zt:Enc Mu (fun l=>[AV.sl 7 (l.map Bd)]):=Re A6y
def Jl:Rd (List (List Aj)):=F0 Mu
theorem Ut:Gf Try.prog 23 Jl:=Nx Try.underlying23 (by kernel_rfl) Zy (by decide)
theorem Ur:Enc Jl (fun l=>[AV.sl 1 (l.map Aa)]):=Re Zt
def Rs:Rd Ac:=Ng (fun x=>⟨x.1,x.2.1,x.2.2.1,x.2.2.2⟩) (D3 Du (D3 Qv (D3 Qv Jl)))
theorem A8d:Gf Try.prog 25 Rs:=Qy _ (M4 Try.underlying25 (by kernel_rfl) (Dc rfl F9 (Dc rfl A2m (Dc rfl A2m (Ph rfl Ut) (by decide)) (by decide)) (by decide)))
theorem A7f:Enc Rs M9:=We (fun _=>rfl) (Fo F7 (Fo A28 (Fo A28 Ur)))
def U6:Rd Jp:=Ng (fun x=>⟨x.1,x.2.1,x.2.2.1,x.2.2.2⟩) (D3 Rs (D3 Du (D3 Du Du)))
theorem A30:Gf Try.prog 27 U6:=Qy _ (M4 Try.underlying27 (by kernel_rfl) (Dc rfl A8d (Dc rfl F9 (Dc rfl F9 (Ph rfl F9) (by decide)) (by decide)) (by decide)))
theorem A34:Enc U6 A4v:=We (fun _=>rfl) (Fo A7f (Fo F7 (Fo F7 F7)))
set_option maxRecDepth 100000
theorem W8 {α:Type} [DecidableEq α] (a b:List α) (hl:a.length=b.length) (L:Nat→Nat→Option (LR Unit Bool)) (h0:∀ k,L (k+1) a.length=some (.out ()))
 (h1:∀ k i (hi:i < a.length) (hi2:i < b.length),L (k+1) i=if a[i]=b[i] then L k (i+1) else some (.ret false)) {k:Nat} (hk:a.length < k):L k 0=if a=b then some (.out ()) else some (.ret false):=by
 have:=Kd a (fun k i (_:Unit)=>L k i) (fun l (_:Unit)=>if l=b.drop (a.length - l.length) then some (.out ()) else some (.ret false)) (fun i _=>True) (k:=k) (s:=()) hk trivial (fun k s _=>by
  rw[h0,if_pos (by simp[hl])]) (fun k i s x hi hx _ ih=>by
  have hib:i < b.length:=by omega
  rw[h1 k i hi hib,ih () trivial]
  have e0:a[i]=x:=by rw[A5 hi] at hx;exact Option.some.inj hx
  have e1:a.length - (x :: a.drop (i+1)).length=i:=by simp;omega
  have e2:a.length - (a.drop (i+1)).length=i+1:=by simp;omega
  rw[e0,e1,e2,List.drop_eq_getElem_cons hib]
  by_cases cx:x=b[i]
  ·subst cx
   rw[if_pos rfl]
   simp only[List.cons.injEq,true_and]
  ·rw[if_neg cx,if_neg (by intro e;injection e with e _;exact cx e)])
 rw[Nat.sub_self,List.drop_zero] at this
 exact this
theorem A0i (n:Nat) (a b:List Int) (hn:a.length+5 < n) (hl:a.length < 1000000):H0 n a b=some (decide (a=b)):=by
 obtain⟨n,rfl⟩:∃ j,n=j+1:=⟨n - 1,by omega⟩
 rw[H0]
 by_cases c:a.length=b.length
 rotate_left
 ·have:(((a.length:Nat):Int) != ((b.length:Nat):Int))=true:=by rw[bne_iff_ne];omega
  rw[this,As,decide_eq_false (fun e=>c (by rw[e]))]
 have h0:(((a.length:Nat):Int) != ((b.length:Nat):Int))=false:=by rw[c];simp
 have:=W8 a b c (fun k i=>Fu n a b k (i:Int)) (fun k=>by rw[Fu,Ao (by omega)]) (fun k i hi hi2=>by
  rw[Fu,Ai (by omega),Cp hi,Af,Cp hi2,Af,Cm i (by omega)]
  by_cases e:a[i]=b[i]
  ·rw[if_pos e,show(a[i] != b[i])=false by simp[e],Ay]
  ·rw[if_neg e,bne_iff_ne.2 e,As]) (k:=n) (by omega)
 rw[h0,Ay]
 refine(congrArg (fun o=>Option.bind o _) this).trans ?_
 by_cases e:a=b
 ·rw[if_pos e,decide_eq_true e];rfl
 ·rw[if_neg e,decide_eq_false e];rfl
theorem Ah7 (n:Nat) (a b:List A2) (hn:a.length+5 < n) (hl:a.length < 1000000):Ju n a b=some (decide (a=b)):=by
 obtain⟨n,rfl⟩:∃ j,n=j+1:=⟨n - 1,by omega⟩
 rw[Ju]
 by_cases c:a.length=b.length
 rotate_left
 ·have:(((a.length:Nat):Int) != ((b.length:Nat):Int))=true:=by rw[bne_iff_ne];omega
  rw[this,As,decide_eq_false (fun e=>c (by rw[e]))]
 have h0:(((a.length:Nat):Int) != ((b.length:Nat):Int))=false:=by rw[c];simp
 have:=W8 a b c (fun k i=>Fw n a b k (i:Int)) (fun k=>by rw[Fw,Ao (by omega)]) (fun k i hi hi2=>by
  rw[Fw,Ai (by omega),Cp hi,Af,Cp hi2,Af,Cm i (by omega)]
  by_cases e:a[i]=b[i]
  ·rw[if_pos e,e];simp
  ·rw[if_neg e]
   have:((a[i].loc==b[i].loc)&&((a[i].n==b[i].n)&&true))=false:=by
    rw[Bool.eq_false_iff]
    intro h
    simp only[A6,beq_iff_eq,and_true] at h
    apply e
    cases ha:a[i];cases hb:b[i]
    rw[ha,hb] at h
    simp at h
    rw[h.1,h.2]
   rw[this,Ay]) (k:=n) (by omega)
 rw[h0,Ay]
 refine(congrArg (fun o=>Option.bind o _) this).trans ?_
 by_cases e:a=b
 ·rw[if_pos e,decide_eq_true e];rfl
 ·rw[if_neg e,decide_eq_false e];rfl
theorem Ai6 (n:Nat) (u:Ac) (a b:A8) (ha:T4 u a) (hb:T4 u b) (hu:u.regs.length≤4) (hn:1100 < n):Jv n a b=some (decide (a=b)):=by
 obtain⟨n,rfl⟩:∃ j,n=j+1:=⟨n - 1,by omega⟩
 have l1:=ha.lpc;have l2:=ha.lregs;have l3:=ha.lbuf;have l4:=ha.lmem
 have k1:=hb.lpc;have k2:=hb.lregs;have k3:=hb.lbuf
 rw[Jv,A0i n a.pc b.pc (by omega) (by omega),Af]
 by_cases c1:a.pc=b.pc
 rotate_left
 ·rw[decide_eq_false c1,decide_eq_false (fun e=>c1 (by rw[e]))];rfl
 rw[decide_eq_true c1,As,A0i n a.mem b.mem (by omega) (by omega),Af]
 by_cases c2:a.mem=b.mem
 rotate_left
 ·rw[decide_eq_false c2,decide_eq_false (fun e=>c2 (by rw[e]))];rfl
 have e1:((((a.regs).length:Nat):Int) != (((b.regs).length:Nat):Int))=false:=by rw[l2,k2];simp
 have e2:((((a.buf).length:Nat):Int) != (((b.buf).length:Nat):Int))=false:=by rw[l3,k3];simp
 have h3:=W8 a.regs b.regs (by omega) (fun k i=>Ff n a b k (i:Int)) (fun k=>by rw[Ff,Ao (by omega)]) (fun k i hi hi2=>by
  have:=ha.regs _ (List.getElem_mem hi)
  rw[Ff,Ai (by omega),Cp hi,Af,Cp hi2,Af,A0i n _ _ (by omega) (by omega),Af,Cm i (by omega)]
  by_cases e:a.regs[i]=b.regs[i]
  ·rw[if_pos e,decide_eq_true e];rfl
  ·rw[if_neg e,decide_eq_false e];rfl) (k:=n) (by omega)
 have h4:=W8 a.buf b.buf (by omega) (fun k i=>Fb n a b k (i:Int)) (fun k=>by rw[Fb,Ao (by omega)]) (fun k i hi hi2=>by
  have:=ha.buf _ (List.getElem_mem hi)
  rw[Fb,Ai (by omega),Cp hi,Af,Cp hi2,Af,Ah7 n _ _ (by omega) (by omega),Af,Cm i (by omega)]
  by_cases e:a.buf[i]=b.buf[i]
  ·rw[if_pos e,decide_eq_true e];rfl
  ·rw[if_neg e,decide_eq_false e];rfl) (k:=n) (by omega)
 simp only[Int.natCast_zero,Int.ofNat_zero] at h3 h4
 rw[decide_eq_true c2,As,e1,Ay,e2,Ay]
 have h3':Ff n a b n 0=if a.regs=b.regs then some (.out ()) else some (.ret false):=h3
 have h4':Fb n a b n 0=if a.buf=b.buf then some (.out ()) else some (.ret false):=h4
 rw[h3']
 by_cases c3:a.regs=b.regs
 rotate_left
 ·rw[if_neg c3,decide_eq_false (fun e=>c3 (by rw[e]))];rfl
 rw[if_pos c3,Af,h4']
 by_cases c4:a.buf=b.buf
 rotate_left
 ·rw[if_neg c4,decide_eq_false (fun e=>c4 (by rw[e]))];rfl
 rw[if_pos c4,decide_eq_true (by cases a;cases b;simp only at *;rw[c1,c2,c3,c4])]
 rfl
theorem Ahi (n:Nat) (u:Ac) (c:A8) (h:T4 u c) (hu:u.regs.length≤4) (hn:100 < n):Jw n c=some c:=by
 obtain⟨n,rfl⟩:∃ j,n=j+1:=⟨n - 1,by omega⟩
 have l1:=h.lpc;have l2:=h.lregs;have l3:=h.lbuf;have l4:=h.lmem
 have h1:=A5h c.regs id (fun k i s=>Fd n c k (i:Int) s) (fun k s=>by rw[Fd,Ao (by omega)]) (fun k i x s hi hx hs=>by
  have:=h.regs x (List.mem_of_getElem? hx)
  rw[Fd,Ai (by omega),Lh hx,Af,Ai (by omega),Ai (by omega),Cm i (by omega)];rfl) (k:=n) (by omega)
 have h2:=A5h c.buf id (fun k i s=>Fg n c k (i:Int) s) (fun k s=>by rw[Fg,Ao (by omega)]) (fun k i x s hi hx hs=>by
  have:=h.buf x (List.mem_of_getElem? hx)
  rw[Fg,Ai (by omega),Lh hx,Af,Ai (by omega),Ai (by omega),Cm i (by omega)];rfl) (k:=n) (by omega)
 rw[List.map_id] at h1 h2
 have h1':Fd n c n 0 []=some (.out c.regs):=h1
 have h2':Fg n c n 0 []=some (.out c.buf):=h2
 rw[Jw,Ai (by omega),Ai (by omega),h1',Af]
 simp only
 rw[h2']
 rfl
def agN (u:Ac) (model:Int):Nat:=if model=1 then u.regs.length else if model=2 then 2*u.regs.length else u.regs.length+u.regs.length*u.init.length
theorem Vt {u:Ac} (hu:Ax u=true) (model:Int):agN u model≤28:=by
 have hh:=Bn hu
 have:u.regs.length*u.init.length≤4*6:=Nat.mul_le_mul (by omega) (by omega)
 unfold agN
 repeat' split
 all_goals omega
theorem T2 (n:Nat) (u:Ac) (model:Int) (hu:Ax u=true) (hm:1≤model∧model≤3):Gw (n+2) u model=some (agN u model:Int):=by
 have hh:=Bn hu
 have hb:u.regs.length*u.init.length≤4*6:=Nat.mul_le_mul (by omega) (by omega)
 rw[Gw,Hk,Af,hu,As,agN]
 by_cases c1:model=1
 ·subst c1;rfl
 by_cases c2:model=2
 ·subst c2
  rw[show((2:Int)==1)=false from rfl,Ay,show((2:Int)==2)=true from rfl,As,if_neg (by decide),if_pos rfl,wrap64 (n:=2*(u.regs.length:Int)) (by omega)]
  congr 1
 ·obtain rfl:model=3:=by omega
  have e:(u.regs.length:Int)*(u.init.length:Int)=((u.regs.length*u.init.length:Nat):Int):=by simp
  rw[show((3:Int)==1)=false from rfl,Ay,show((3:Int)==2)=false from rfl,Ay,show((3:Int)==3)=true from rfl,As,if_neg (by decide),if_neg (by decide),e,wrap64 (n:=((u.regs.length*u.init.length:Nat):Int)) (by omega),wrap64 (n:=(u.regs.length:Int)+((u.regs.length*u.init.length:Nat):Int)) (by omega)]
  congr 1
section
variable {u:Ac} {c:A8} {model room:Int}
theorem Abr (hu:Ax u=true) (hm:1≤model∧model≤3) {a:Nat} (ha:a < agN u model) (hn:u.regs.length≤a):IntKind.i64.wrap ((a:Int) - (u.regs.length:Int))=((a - u.regs.length:Nat):Int)∧(model=2∧a - u.regs.length < u.regs.length∨model=3∧0 < u.init.length∧(a - u.regs.length) / u.init.length < u.regs.length):=by
 have hh:=Bn hu
 have hb:u.regs.length*u.init.length≤4*6:=Nat.mul_le_mul (by omega) (by omega)
 have h28:=Vt hu model
 refine⟨by rw[wrap64 (by omega)];omega,?_⟩
 unfold agN at ha
 by_cases c1:model=1
 ·rw[if_pos c1] at ha;omega
 by_cases c2:model=2
 ·rw[if_neg c1,if_pos c2] at ha;exact .inl ⟨c2,by omega⟩
 ·rw[if_neg c1,if_neg c2] at ha
  have k0:0 < u.init.length:=by
   rcases Nat.eq_zero_or_pos u.init.length with h | h
   ·rw[h,Nat.mul_zero] at ha;omega
   ·exact h
  exact .inr ⟨by omega,k0,Nat.div_lt_of_lt_mul (by rw[Nat.mul_comm];omega)⟩
theorem Ajj {b k:Nat} (hb:b < 1000) (hk:0 < k):IntKind.i64.wrap (Int.tdiv (b:Int) (k:Int))=((b / k:Nat):Int)∧Int.tmod (b:Int) (k:Int)=((b % k:Nat):Int):=by
 have h:b / k≤b:=Nat.div_le_self _ _
 refine⟨?_,by rw[Int.tmod_eq_emod_of_nonneg (by omega),← Int.natCast_emod]⟩
 rw[Int.tdiv_eq_ediv_of_nonneg (by omega),← Int.natCast_ediv]
 generalize b / k=q at *
 exact wrap64 (by omega)
theorem Wz (n:Nat) (hu:Ax u=true) (hlu:Dk u=true) (hm:1≤model∧model≤3) (hr:1≤room∧room≤4) (h:Cj u c model room) {a:Nat} (ha:a < agN u model) (hn:1300 < n):∃ b,Gd n u c model room (a:Int)=some b:=by
 obtain⟨n,rfl⟩:∃ j,n=j+3:=⟨n - 3,by omega⟩
 have hz:=Q5 hu hm hr h
 have h28:=Vt hu model
 rw[Gd,Ao (by omega),T2 n u model hu hm,Af,Ao (by omega)]
 by_cases ht:a < u.regs.length
 ·rw[Ai (by omega),X7 (n+2) u c model room a hu hlu h hz ht (by omega)]
  exact⟨_,rfl⟩
 rw[Ao (by omega)]
 obtain⟨e1,q | q⟩:=Abr hu hm ha (by omega)
 ·have l3:=hz.lbuf
  rw[beq_iff_eq.2 q.1,As,e1,V6 (n+2) c model _ _ (by omega) hz.buf (by omega)]
  exact⟨_,rfl⟩
 ·have l3:=hz.lbuf
  obtain⟨d1,d2⟩:=Ajj (b:=a - u.regs.length) (k:=u.init.length) (by omega) q.2.1
  rw[C8.2 (show ¬ model=2 by omega),Ay,Ao (by omega),Ao (by omega),e1,d1,d2,V6 (n+2) c model _ _ (by omega) hz.buf (by omega)]
  exact⟨_,rfl⟩
theorem Ahb (n:Nat) (hu:Ax u=true) (hlu:Dk u=true) (hm:1≤model∧model≤3) (hr:1≤room∧room≤4) (h:Cj u c model room) {a:Nat} (ha:a < agN u model) (hn:1400 < n):∃ r,Ku n u c model room (a:Int)=some r∧Cj u r.1 model room:=by
 obtain⟨n,rfl⟩:∃ j,n=j+3:=⟨n - 3,by omega⟩
 have hz:=Q5 hu hm hr h
 have hh:=Bn hu
 have h28:=Vt hu model
 have hll:∀ code ∈ u.code,∀ x ∈ code,x.e.length < 1000000∧x.f.length < 1000000:=fun code hc x hx=>by
  simp only[Dk,Dp,A6,List.all_eq_true,A9] at hlu
  have:=(hlu.2 code hc).2 x hx
  omega
 obtain⟨b,hb⟩:=Wz (n+2) hu hlu hm hr h ha (by omega)
 rw[Ku,hb,Af]
 cases b with
 | false =>
  rw[Ay,Ahi (n+2) u c hz (by omega) (by omega)]
  exact⟨_,rfl,h⟩
 | true =>
  rw[As]
  by_cases ht:a < u.regs.length
  ·rw[Ai (by omega),Nw,if_pos ⟨hu,hlu,hm,hr,h,by omega,by simpa using ht⟩]
   exact⟨_,rfl,by simpa using Acw hu hm h ht hll⟩
  rw[Ao (by omega)]
  obtain⟨e1,q | q⟩:=Abr hu hm ha (by omega)
  ·rw[beq_iff_eq.2 q.1,As,e1,Hm,if_pos ⟨by omega,u,room,hu,hm,hr,h,by simpa using q.2⟩]
   exact⟨_,rfl,by simpa using Us hu h q.2 _⟩
  ·obtain⟨d1,d2⟩:=Ajj (b:=a - u.regs.length) (k:=u.init.length) (by omega) q.2.1
   have q3:=q.2.2
   generalize (a - u.regs.length) / u.init.length=z at *
   generalize (a - u.regs.length) % u.init.length=y at *
   rw[C8.2 (show ¬ model=2 by omega),Ay,Ao (by omega),Ao (by omega),e1,d1,d2,Hm,if_pos ⟨by omega,u,room,hu,hm,hr,h,by simpa using q3⟩]
   exact⟨_,rfl,by simpa using Us hu h q3 _⟩
theorem Ado (n:Nat) (hu:Ax u=true) (hlu:Dk u=true) (hm:1≤model∧model≤3) (hr:1≤room∧room≤4) (h:Cj u c model room) (hn:1300 < n):∀ (j k i:Nat) (l:List Int),i+j=agN u model→j < k→l.length≤i→(∀ a ∈ l,0≤a∧a < (agN u model:Int))→∃ l',El n u c model room k (i:Int) l=some (.out l')∧l'.length≤agN u model∧∀ a ∈ l',0≤a∧a < (agN u model:Int):=by
 intro j
 have h28:=Vt hu model
 induction j with
 | zero =>
  intro k i l hi hk hl ha
  obtain⟨k,rfl⟩:∃ j,k=j+1:=⟨k - 1,by omega⟩
  obtain⟨n',rfl⟩:∃ j,n=j+2:=⟨n - 2,by omega⟩
  rw[El,T2 n' u model hu hm,Af,Ao (by omega)]
  exact⟨l,rfl,by omega,ha⟩
 | succ j ih =>
  intro k i l hi hk hl ha
  obtain⟨k,rfl⟩:∃ j,k=j+1:=⟨k - 1,by omega⟩
  obtain⟨n',rfl⟩:∃ j,n=j+2:=⟨n - 2,by omega⟩
  obtain⟨b,hb⟩:=Wz (n'+2) hu hlu hm hr h (a:=i) (by omega) (by omega)
  rw[El,T2 n' u model hu hm,Af,Ai (by omega),hb,Af,Cm i (by omega)]
  cases b with
  | false=>exact ih k (i+1) l (by omega) (by omega) (by omega) ha
  | true =>
   rw[As,Ai (by omega)]
   refine ih k (i+1) _ (by omega) (by omega) (by simp;omega) (fun a h=>?_)
   simp only[List.mem_append,List.mem_singleton] at h
   rcases h with h | rfl
   ·exact ha a h
   ·omega
theorem Ac5 (n:Nat) (hu:Ax u=true) (hlu:Dk u=true) (hm:1≤model∧model≤3) (hr:1≤room∧room≤4) (h:Cj u c model room) (hn:1400 < n):∃ l,J5 n u c model room=some l∧l.length≤28∧∀ a ∈ l,0≤a∧a < (agN u model:Int):=by
 obtain⟨n,rfl⟩:∃ j,n=j+1:=⟨n - 1,by omega⟩
 have h28:=Vt hu model
 obtain⟨l,h1,h2,h3⟩:=Ado n hu hlu hm hr h (by omega) (agN u model) n 0 [] (by omega) (by omega) (by simp) (by simp)
 rw[J5,show(0:Int)=((0:Nat):Int) from rfl,h1]
 exact⟨l,rfl,by omega,h3⟩
end
theorem Aef (n:Nat) (u:Ac) (s:Bz) (c:A8) (hu:u.regs.length≤4) (hs:∀ d ∈ s.Da,T4 u d) (hc:T4 u c) (hl:s.Da.length < 100000) (hn:1200 < n):∀ (j k i:Nat),i+j=s.Da.length→j < k→(∃ z:Nat,Fa n s c k (i:Int)=some (.ret (z:Int))∧z < s.Da.length)∨(Fa n s c k (i:Int)=some (.out ())∧c ∉ s.Da.drop i):=by
 intro j
 induction j with
 | zero =>
  intro k i hi hk
  obtain⟨k,rfl⟩:∃ j,k=j+1:=⟨k - 1,by omega⟩
  right
  rw[Fa,Ao (by omega),List.drop_of_length_le (by omega)]
  exact⟨rfl,by simp⟩
 | succ j ih =>
  intro k i hi hk
  obtain⟨k,rfl⟩:∃ j,k=j+1:=⟨k - 1,by omega⟩
  have hlt:i < s.Da.length:=by omega
  rw[Fa,Ai (by omega),Cp hlt,Af,Ai6 n u _ c (hs _ (List.getElem_mem hlt)) hc hu (by omega),Af,Cm i (by omega),List.drop_eq_getElem_cons hlt]
  by_cases e:s.Da[i]=c
  ·rw[decide_eq_true e,As]
   exact .inl ⟨i,rfl,hlt⟩
  ·rw[decide_eq_false e,Ay]
   rcases ih k (i+1) (by omega) (by omega) with h | ⟨h1,h2⟩
   ·exact .inl h
   ·exact .inr ⟨h1,by simp only[List.mem_cons,not_or];exact⟨fun h=>e h.symm,h2⟩⟩
theorem Aet (n:Nat) (u:Ac) (s:Bz) (c:A8) (hu:u.regs.length≤4) (hs:∀ d ∈ s.Da,T4 u d) (hc:T4 u c) (hl:s.Da.length < 100000) (hn:s.Da.length+1300 < n):(∃ z:Nat,H8 n s c=some (z:Int)∧z < s.Da.length)∨(H8 n s c=some (-1)∧c ∉ s.Da):=by
 obtain⟨n,rfl⟩:∃ j,n=j+1:=⟨n - 1,by omega⟩
 rcases Aef n u s c hu hs hc hl (by omega) s.Da.length n 0 (by omega) (by omega) with ⟨z,h1,h2⟩ | ⟨h1,h2⟩
 ·left
  refine⟨z,?_,h2⟩
  rw[H8,show(0:Int)=((0:Nat):Int) from rfl,h1];rfl
 ·right
  rw[List.drop_zero] at h2
  refine⟨?_,h2⟩
  rw[H8,show(0:Int)=((0:Nat):Int) from rfl,h1];rfl
structure Found (u:Ac) (model room:Int) (L:List A8) (P B:List Int) (b:Nat):Prop where
 nd:L.Nodup
 ok:∀ c ∈ L,Cj u c model room
 len:L.length≤b
 lp:P.length=L.length
 lb:B.length=L.length
section
variable {u:Ac} {model room:Int}
theorem Found.push {L:List A8} {P B:List Int} {b:Nat} (h:Found u model room L P B b) {d:A8} (hd:d ∉ L) (hr:Cj u d model room) (hl:L.length < b) (x y:Int):Found u model room (L++[d]) (P++[x]) (B++[y]) b :=
 ⟨by
  rw[List.nodup_append]
  exact⟨h.nd,by simp,fun a ha c hc=>by simp at hc;subst hc;rintro rfl;exact hd ha⟩,fun c hc=>by
  rcases List.mem_append.1 hc with hc | hc
  ·exact h.ok c hc
  ·simp at hc;rw[hc];exact hr,by simp;omega,by simp[h.lp],by simp[h.lb]⟩
theorem Afd (hu:Ax u=true) (hm:1≤model∧model≤3) (hr:1≤room∧room≤4) {L:List A8} {P B:List Int} {b:Nat} (h:Found u model room L P B b) (hb:b < 1000) {d:A8} (hd:d ∉ L) (hR:Cj u d model room) (hl:b≤L.length):b < Ey u model room u.regs.length:=by
 have:=Abz hu hm hr (L++[d]) (by
  rw[List.nodup_append]
  exact⟨h.nd,by simp,fun a ha c hc=>by simp at hc;subst hc;rintro rfl;exact hd ha⟩) (fun c hc=>by
  rcases List.mem_append.1 hc with hc | hc
  ·exact h.ok c hc
  ·simp at hc;rw[hc];exact hR) (by have:=h.len;simp;omega)
 simp at this
 omega
def Ael (u:Ac) (model room:Int) (b e:Nat) (o:LR (List A8×List Int×List Int×List Bf) (Bz×Int)) (L0:List A8):Prop:=match o with
 | .out (L,P,B,E)=>Found u model room L P B b∧E.length≤e∧L0.length≤L.length
 | .ret v=>v.2=18∧b < Ey u model room u.regs.length
theorem Afo (n:Nat) (hu:Ax u=true) (hlu:Dk u=true) (hm:1≤model∧model≤3) (hr:1≤room∧room≤4) (b:Nat) (hb:b≤150) (hn:2000 < n) (i:Nat) (ms:List Int) (hms:∀ a ∈ ms,0≤a∧a < (agN u model:Int)) (hl:ms.length≤28):∀ (j k q:Nat) (L:List A8) (P B:List Int) (E:List Bf),q+j=ms.length→j < k→i < L.length→Found u model room L P B b→E.length≤28*i+q→∃ o,F5 n u model room (b:Int) (i:Int) ms k (q:Int) L P B E=some o∧Ael u model room b (28*i+28) o L:=by
 intro j
 have hh:=Bn hu
 induction j with
 | zero =>
  intro k q L P B E hq hk hi hf hE
  obtain⟨k,rfl⟩:∃ j,k=j+1:=⟨k - 1,by omega⟩
  rw[F5,Ao (by omega)]
  exact⟨_,rfl,hf,by omega,Nat.le_refl _⟩
 | succ j ih =>
  intro k q L P B E hq hk hi hf hE
  obtain⟨k,rfl⟩:∃ j,k=j+1:=⟨k - 1,by omega⟩
  have hqm:q < ms.length:=by omega
  have hLb:=hf.len
  have hP:=hf.lp
  have hB:=hf.lb
  obtain⟨a0,a1⟩:=hms _ (List.getElem_mem hqm)
  obtain⟨a,ha⟩:∃ a:Nat,ms[q]=a:=⟨ms[q].toNat,by omega⟩
  obtain⟨r,hr1,hr2⟩:=Ahb n hu hlu hm hr (hf.ok _ (List.getElem_mem hi)) (a:=a) (by omega) (by omega)
  rw[F5,Ai (by omega),Cp hi,Af,Cp hqm,Af,ha,hr1,Af]
  have hfd:=Aet n u ⟨L,⟨[],[],[]⟩,P,B⟩ r.1 (by omega) (fun d hd=>Q5 hu hm hr (hf.ok d hd)) (Q5 hu hm hr hr2) (show L.length < 100000 by omega) (show L.length+1300 < n by omega)
  rcases hfd with ⟨z,f1,f2⟩ | ⟨f1,f2⟩
  ·rw[f1,Af,Ao (by omega),Af,Ai (by omega),Cm q (by omega)]
   exact ih k (q+1) L P B _ (by omega) (by omega) hi hf (by simp;omega)
  ·rw[f1,Af,Ai (by omega)]
   by_cases hbl:b≤L.length
   ·rw[Ai (by omega)]
    exact⟨_,rfl,rfl,Afd hu hm hr hf (by omega) f2 hr2 hbl⟩
   ·rw[Ao (by omega),Ai (by omega),Ai (by omega),Af,Ai (by omega),Af,Ai (by omega),Cm q (by omega)]
    obtain⟨o,o1,o2⟩:=ih k (q+1) (L++[r.1]) (P++[(i:Int)]) (B++[(a:Int)]) (E++[(⟨(i:Int),(a:Int),((L.length:Nat):Int)⟩:Bf)]) (by omega) (by omega) (by simp;omega) (hf.push f2 hr2 (by omega) _ _) (by simp;omega)
    refine⟨o,o1,?_⟩
    unfold Ael at o2 ⊢
    split
    ·simp at o2;exact⟨o2.1,o2.2.1,by omega⟩
    ·exact o2
theorem Agi (n:Nat) (hu:Ax u=true) (hlu:Dk u=true) (hm:1≤model∧model≤3) (hr:1≤room∧room≤4) (b:Nat) (hb:b≤150) (hn:3000 < n):∀ (j k i:Nat) (L:List A8) (P B:List Int) (E:List Bf),i+j=b→j < k→i≤L.length→Found u model room L P B b→E.length≤28*i→∃ o,F3 n u model room (b:Int) k (i:Int) L P B E=some o∧Ael u model room b 5000 o []:=by
 intro j
 induction j with
 | zero =>
  intro k i L P B E hi hk hL hf hE
  obtain⟨k,rfl⟩:∃ j,k=j+1:=⟨k - 1,by omega⟩
  have:=hf.len
  rw[F3,Ao (by omega)]
  exact⟨_,rfl,hf,by omega,Nat.zero_le _⟩
 | succ j ih =>
  intro k i L P B E hi hk hL hf hE
  obtain⟨k,rfl⟩:∃ j,k=j+1:=⟨k - 1,by omega⟩
  by_cases hlt:i < L.length
  ·obtain⟨ms,h1,h2,h3⟩:=Ac5 n hu hlu hm hr (hf.ok _ (List.getElem_mem hlt)) (by omega)
   obtain⟨o,o1,o2⟩:=Afo n hu hlu hm hr b hb (by omega) i ms h3 h2 ms.length n 0 L P B E (by omega) (by omega) hlt hf (by omega)
   have o1':F5 n u model room (b:Int) (i:Int) ms n 0 L P B E=some o:=o1
   rw[F3,Ai (by omega),Cp hlt,Af,h1,Af,o1',Af,Cm i (by omega)]
   cases o with
   | ret v=>exact⟨_,rfl,o2⟩
   | out x =>
    obtain⟨L',P',B',E'⟩:=x
    obtain⟨g1,g2,g3⟩:=o2
    exact ih k (i+1) L' P' B' E' (by omega) (by omega) (by omega) g1 (by omega)
  ·rw[F3,Ao (by omega)]
   exact⟨_,rfl,hf,by omega,Nat.zero_le _⟩
theorem Xg (hu:Ax u=true) (hr:1≤room∧room≤4) (n:Nat) (hn:100 < n):∃ c,Gn n u=some (c,0)∧Cj u c model room:=by
 obtain⟨n,rfl⟩:∃ j,n=j+2:=⟨n - 2,by omega⟩
 have hh:=Bn hu
 have hL:∀ (j k i:Nat),i+j=u.regs.length→j < k→Ej (n+1) u k (i:Int) (List.replicate i 0) ((u.regs.take i).map fun x=>List.replicate x.toNat 0) (List.replicate i [])=some (.out (List.replicate u.regs.length 0,u.regs.map (fun x=>List.replicate x.toNat 0),List.replicate u.regs.length [])):=by
  intro j
  induction j with
  | zero =>
   intro k i hi hk
   obtain⟨k,rfl⟩:∃ j,k=j+1:=⟨k - 1,by omega⟩
   obtain rfl:i=u.regs.length:=by omega
   rw[Ej,Ao (by omega),List.take_length]
  | succ j ih =>
   intro k i hi hk
   obtain⟨k,rfl⟩:∃ j,k=j+1:=⟨k - 1,by omega⟩
   have hlt:i < u.regs.length:=by omega
   have hrow:=Mm hu hlt (by omega)
   rw[Ej,Ai (by omega),Ai (by simp;omega),Cp hlt,Af]
   have hb:(decide (0≤u.regs[i])&&decide ((8:Int)*u.regs[i]≤140737488355328))=true:=by simp only[A6,A9];omega
   rw[hb,As,Ai (by simp;omega),Ai (by simp;omega),Cm i (by omega),← ih k (i+1) (by omega) (by omega),List.take_add_one,A5 hlt,Option.toList_some,List.map_append]
   rw[List.replicate_succ',List.replicate_succ']
   rfl
 have:=hL u.regs.length (n+1) 0 (by omega) (by omega)
 have h0:Ej (n+1) u (n+1) 0 [] [] []=_:=this
 rw[Gn,Hk,Af,hu,As,h0,Af]
 simp only
 rw[Ai (by simp;omega)]
 refine⟨_,rfl,⟨by simp,by simp,by simp,by simp,?_,?_⟩⟩
 ·intro x hx
  simp only[Ax,Ji,A6,List.all_eq_true] at hu
  have:=hu.1.2 x (by simpa using hx)
  simpa [inB] using this
 ·intro t p r bf code nr e1 e2 e3 e4 e5
  obtain⟨t1,e1'⟩:=List.getElem?_eq_some_iff.1 e1
  simp at t1 e1'
  obtain⟨t2,e2'⟩:=List.getElem?_eq_some_iff.1 e2
  obtain⟨t3,e3'⟩:=List.getElem?_eq_some_iff.1 e3
  obtain⟨t4,e4'⟩:=List.getElem?_eq_some_iff.1 e4
  obtain⟨t5,e5'⟩:=List.getElem?_eq_some_iff.1 e5
  have hrow:=Mm hu t5 t4
  simp only[List.getElem_replicate,List.getElem_map] at e2' e3'
  rw[e5'] at e2' hrow
  rw[e4'] at hrow
  subst e1';subst e2';subst e3'
  refine⟨by omega,by omega,by simp;omega,fun x hx=>?_,?_⟩
  ·rw[(List.mem_replicate.1 hx).2];omega
  ·exact⟨by simp,fun _=>rfl,fun _=>by simp;omega,fun _=>⟨trivial,fun loc=>by simp;omega⟩⟩
theorem Abx (n:Nat) (N:Nat) (l:List Bf) (hN:N≤200) (hl:l.length≤5000) (hn:6000 < n):∃ y,J4 n (N:Int) l=some y:=by
 obtain⟨n,rfl⟩:∃ j,n=j+1:=⟨n - 1,by omega⟩
 have h0:∀ (j k i:Nat),i+j=l.length→j < k→D5 n (N:Int) l k (i:Int)=some (.out ())∨∃ v,D5 n (N:Int) l k (i:Int)=some (.ret v):=by
  intro j
  induction j with
  | zero =>
   intro k i hi hk
   obtain⟨k,rfl⟩:∃ j,k=j+1:=⟨k - 1,by omega⟩
   left
   rw[D5,Ao (by omega)]
  | succ j ih =>
   intro k i hi hk
   obtain⟨k,rfl⟩:∃ j,k=j+1:=⟨k - 1,by omega⟩
   have hlt:i < l.length:=by omega
   have:=ih k (i+1) (by omega) (by omega)
   rw[D5,Ai (by omega)]
   simp only[Cp hlt,Af,Cm i (by omega)]
   cases decide (l[i].Qp < 0) with
   | true=>exact .inr ⟨_,rfl⟩
   | false =>
    cases decide ((N:Int)≤l[i].Qp) with
    | true=>exact .inr ⟨_,rfl⟩
    | false =>
     cases decide (l[i].Hh < 0) with
     | true=>exact .inr ⟨_,rfl⟩
     | false =>
      cases decide ((N:Int)≤l[i].Hh) with
      | true=>exact .inr ⟨_,rfl⟩
      | false =>
       cases decide (l[i].E8 < 0) with
       | true=>exact .inr ⟨_,rfl⟩
       | false=>exact this
 have h2:∀ (s24:Int) (j k i:Nat) (a b:List Int),i+j=l.length→j < k→a.length+j≤2000000→b.length+j≤2000000→∃ a' b',Dm n l s24 k (i:Int) a b=some (.out (a',b'))∧a'.length≤a.length+j∧b'.length≤b.length+j:=by
  intro s24 j
  induction j with
  | zero =>
   intro k i a b hi hk _ _
   obtain⟨k,rfl⟩:∃ j,k=j+1:=⟨k - 1,by omega⟩
   rw[Dm,Ao (by omega)]
   exact⟨a,b,rfl,by omega,by omega⟩
  | succ j ih =>
   intro k i a b hi hk ha hb
   obtain⟨k,rfl⟩:∃ j,k=j+1:=⟨k - 1,by omega⟩
   have hlt:i < l.length:=by omega
   rw[Dm,Ai (by omega)]
   simp only[Cp hlt,Af,Cm i (by omega)]
   cases (l[i].Qp==s24) with
   | true =>
    rw[As,Ai (by omega),Ai (by omega)]
    obtain⟨a',b',e1,e2,e3⟩:=ih k (i+1) (a++[l[i].E8]) (b++[l[i].Hh]) (by omega) (by omega) (by simp;omega) (by simp;omega)
    simp at e2 e3
    exact⟨a',b',e1,by omega,by omega⟩
   | false =>
    obtain⟨a',b',e1,e2,e3⟩:=ih k (i+1) a b (by omega) (by omega) (by omega) (by omega)
    exact⟨a',b',e1,by omega,by omega⟩
 have h1:∀ (j k i:Nat) (s a b:List Int),i+j=N→j < k→s.length≤i+1→a.length≤5000*i→b.length≤5000*i→∃ x,Em n (N:Int) l k (i:Int) s a b=some (.out x):=by
  intro j
  induction j with
  | zero =>
   intro k i s a b hi hk _ _ _
   obtain⟨k,rfl⟩:∃ j,k=j+1:=⟨k - 1,by omega⟩
   rw[Em,Ao (by omega)]
   exact⟨_,rfl⟩
  | succ j ih =>
   intro k i s a b hi hk hs ha hb
   obtain⟨k,rfl⟩:∃ j,k=j+1:=⟨k - 1,by omega⟩
   obtain⟨a',b',e1,e2,e3⟩:=h2 (i:Int) l.length n 0 a b (by omega) (by omega) (by omega) (by omega)
   have e1':Dm n l (i:Int) n 0 a b=some (.out (a',b')):=e1
   rw[Em,Ai (by omega),e1',Af]
   simp only
   rw[Ai (by omega),Cm i (by omega)]
   exact ih k (i+1) _ a' b' (by omega) (by omega) (by simp;omega) (by omega) (by omega)
 rw[J4,Ao (by omega),Ao (by omega)]
 rcases h0 l.length n 0 (by omega) (by omega) with h | ⟨v,h⟩
 ·have h':D5 n (N:Int) l n 0=some (.out ()):=h
  obtain⟨⟨x,y,z⟩,hx⟩:=h1 N n 0 [0] [] [] (by omega) (by omega) (by simp) (by simp) (by simp)
  have hx':Em n (N:Int) l n 0 [0] [] []=some (.out (x,y,z)):=hx
  rw[h',Af]
  simp only
  rw[hx']
  exact⟨_,rfl⟩
 ·have h':D5 n (N:Int) l n 0=some (.ret v):=h
  rw[h']
  exact⟨_,rfl⟩
end
theorem Ahn (n:Nat) (u:Ac) (model room budget:Int) (hlu:Dk u=true) (hb:budget≤150) (hn:7000 < n):∃ s e,Kw n u model room budget=some (s,e)∧(e=0→Ax u=true∧(1≤model∧model≤3)∧(1≤room∧room≤4)∧s.Da.length≤Ey u model room u.regs.length)∧(e=18→Ax u=true∧(1≤model∧model≤3)∧(1≤room∧room≤4)∧budget < Ey u model room u.regs.length):=by
 obtain⟨n,rfl⟩:∃ j,n=j+2:=⟨n - 2,by omega⟩
 rw[Kw]
 cases hu:Ax u with
 | false =>
  have:Gn (n+1) u=some (⟨[],[],[],[]⟩,8):=by
   obtain⟨m,rfl⟩:∃ j,n=j+1:=⟨n - 1,by omega⟩
   rw[Gn,Hk,Af,hu];rfl
  rw[this]
  exact⟨_,_,rfl,fun h=>absurd h (by decide),fun h=>absurd h (by decide)⟩
 | true =>
  by_cases hr:1≤room∧room≤4
  rotate_left
  ·obtain⟨c,h1,_⟩:=Xg (model:=1) (room:=1) hu (by omega) (n+1) (by omega)
   rw[h1,Af,show((0:Int) != 0)=false from rfl,Ay]
   by_cases c1:model < 1
   ·rw[Ai c1];exact⟨_,_,rfl,fun h=>absurd h (by decide),fun h=>absurd h (by decide)⟩
   by_cases c2:3 < model
   ·rw[Ao c1,Ai c2];exact⟨_,_,rfl,fun h=>absurd h (by decide),fun h=>absurd h (by decide)⟩
   by_cases c3:room < 1
   ·rw[Ao c1,Ao c2,Ai c3];exact⟨_,_,rfl,fun h=>absurd h (by decide),fun h=>absurd h (by decide)⟩
   ·rw[Ao c1,Ao c2,Ao c3,Ai (by omega)];exact⟨_,_,rfl,fun h=>absurd h (by decide),fun h=>absurd h (by decide)⟩
  obtain⟨c,h1,h2⟩:=Xg (model:=model) (room:=room) hu hr (n+1) (by omega)
  rw[h1,Af,show((0:Int) != 0)=false from rfl,Ay]
  by_cases c1:model < 1
  ·rw[Ai c1];exact⟨_,_,rfl,fun h=>absurd h (by decide),fun h=>absurd h (by decide)⟩
  by_cases c2:3 < model
  ·rw[Ao c1,Ai c2];exact⟨_,_,rfl,fun h=>absurd h (by decide),fun h=>absurd h (by decide)⟩
  rw[Ao c1,Ao c2,Ao (by omega),Ao (by omega)]
  by_cases c5:budget < 1
  ·rw[Ai c5];exact⟨_,_,rfl,fun h=>absurd h (by decide),fun h=>absurd h (by decide)⟩
  rw[Ao c5,Ao (by omega)]
  have hm:1≤model∧model≤3:=by omega
  obtain⟨b,rfl⟩:∃ b:Nat,budget=b:=⟨budget.toNat,by omega⟩
  obtain⟨o,o1,o2⟩:=Agi (n+1) hu hlu hm hr b (by omega) (by omega) b (n+1) 0 [c] [-1] [-1] [] (by omega) (by omega) (by omega) ⟨by simp,by simpa using h2,by simp;omega,rfl,rfl⟩ (by simp)
  have o1':F3 (n+1) u model room (b:Int) (n+1) 0 [c] [-1] [-1] []=some o:=o1
  simp only
  rw[o1',Af]
  cases o with
  | ret v =>
   obtain⟨g1,g2⟩:=o2
   obtain⟨s,e⟩:=v
   simp only at g1
   subst g1
   exact⟨s,18,rfl,fun h=>absurd h (by decide),fun _=>⟨trivial,hm,hr,by omega⟩⟩
  | out x =>
   obtain⟨L,P,B,E⟩:=x
   obtain⟨g1,g2,_⟩:=o2
   obtain⟨y,hy⟩:=Abx (n+1) L.length E (by have:=g1.len;omega) g2 (by omega)
   simp only
   rw[hy]
   exact⟨_,_,rfl,fun _=>⟨trivial,hm,hr,Abz hu hm hr L g1.nd g1.ok (by have:=g1.len;omega)⟩,fun h=>absurd h (by decide)⟩
theorem A1w {u:Ac} {model room:Int} (h:Ax u=true) (h2:¬ (model < 1∨3 < model∨room < 1∨4 < room)):Dw u model room=((Ey u model room u.regs.length:Int),0):=by
 simp only[Dw,h,Bool.true_eq_false,if_false,if_neg h2]
theorem A2z (c:Jp):Hc 8001 c=some true:=by
 rw[Hc,On,Af]
 cases hl:Dk c.Sv with
 | false=>rfl
 | true =>
  rw[As]
  by_cases cb:150 < c.Lo
  ·rw[Ai cb];rfl
  obtain⟨s,e,h1,h2,h3⟩:=Ahn 8000 c.Sv c.Sw c.W1 c.Lo hl (by omega) (by omega)
  rw[Ao cb,Oo,Af,h1,Af]
  by_cases e0:e=0
  ·obtain⟨k1,k2,k3,k4⟩:=h2 e0
   rw[A1w k1 (by omega),beq_iff_eq.2 e0,As]
   simp only[beq_self_eq_true,As]
   rw[Ai (by omega)]
   rfl
  ·rw[C8.2 e0,Ay]
   by_cases e18:e=18
   ·obtain⟨k1,k2,k3,k4⟩:=h3 e18
    rw[A1w k1 (by omega),show(e != 18)=false by simp[e18],Ay]
    simp only
    rw[Ai (by omega)]
    rfl
   ·rw[bne_iff_ne.2 e18,As];rfl
set_option maxHeartbeats 4000000
theorem Ok {n:Nat} ⦃Bu:(List Int)⦄ ⦃C1:(List Int)⦄ ⦃r:Bool⦄:H0 n Bu C1=some r→CN n 41 [AV.sl 1 (List.map A0 Bu),AV.sl 1 (List.map A0 C1)] []=some (bA r,[]):=by
 intro h;rcases n with _|n;cases h
 rw[H0] at h
 refine B0 Try.func41 (by rfl) rfl rfl (Bi rfl) ?_
 intro call hc;conv=>lhs;whnf
 revert h
 refine br ?_ ?_
 exact rz
 intro h;refine Ap h ?_;clear h;intro o10 ho10 h
 refine lq (σ:=Int) (τ:=Unit) (ν:=Bool) 0 (fun s2 a4=>Ba 26 [(0,AV.sl 1 (List.map A0 Bu)),(1,AV.sl 1 (List.map A0 C1)),(5,iA s2)]) (fun s2 a4=>[]) (fun _ a15=>Ba 26 []) (fun _ a15=>[]) (fun v=>(bA v,[])) (fun k s=>Fu n Bu C1 k s) (fun s=>rfl) o10 n 0 (fun _=>0) ho10 ?_ ?_
 intro k3 s2 a4 K5 cont6 hK7 hcont8 h hr9
 replace h:Fu n Bu C1 (k3+1) s2=some o10:=h
 rw[Fu] at h
 conv=>lhs;whnf
 revert h
 refine br ?_ ?_
 refine ix ?_;intro x12
 refine ix ?_;intro x13
 refine br ?_ ?_
 intro h;cases sj h
 refine(hK7 _ _).trans ?_
 refine Eq.trans ?_ (Eq.symm (show _=some _ from hr9))
 conv=>lhs;whnf
 exact rq
 exact fun h=>cq (hcont8 (IntKind.i64.wrap (s2+1)) (fun _=>0) h)
 intro h;cases sj h
 exact kq (hr9 (fun _=>0))
 refine lrc ?_ ?_
 intro v e;subst e;cases sj h;rfl
 intro t a15 e;subst e
 dsimp only at h
 conv=>lhs;whnf
 revert h
 exact rz
theorem A1o {n:Nat} ⦃Al:Ac⦄ ⦃r:(A8×Int)⦄:Gn n Al=some r→CN n 15 [AV.agg [iA (Al.mod),AV.sl 1 (List.map A0 (Al.init)),AV.sl 1 (List.map A0 (Al.regs)),AV.sl 1 (List.map Aa (Al.code))]] []=some (AV.tup [AV.agg [AV.sl 1 (List.map A0 (r.1.pc)),AV.sl 1 (List.map Ad (r.1.regs)),AV.sl 1 (List.map A0 (r.1.mem)),AV.sl 1 (List.map Ae (r.1.buf))],iA r.2],[]):=by
 intro h;rcases n with _|n;cases h
 rw[Gn] at h
 refine B0 Try.func15 (by rfl) rfl rfl (Bi rfl) ?_
 intro call hc;conv=>lhs;whnf
 revert h
 refine ca hc (fun _ h=>Sf h) ?_;intro y1
 refine br ?_ ?_
 intro h;refine Ap h ?_;clear h;intro o15 ho15 h
 refine lq (σ:=(Int×(List Int)×(List (List Int))×(List (List A2)))) (τ:=((List Int)×(List (List Int))×(List (List A2)))) (ν:=(A8×Int)) 0 (fun(s4,s5,s6,s7) a9=>Ba 46 [(1,AV.ptr 0 0),(2,AV.ptr 1 0),(4,AV.ptr 2 0),(5,iA s4)]) (fun(s4,s5,s6,s7) a9=>[Ob.var 25 [iA (Al.mod),AV.sl 1 (List.map A0 (Al.init)),AV.sl 1 (List.map A0 (Al.regs)),AV.sl 1 (List.map Aa (Al.code))],Ob.var 56 [AV.row 3 (List.length (([]:List Int))),AV.row 4 (List.length (([]:List (List Int)))),AV.row 5 (List.length (([]:List Int))),AV.row 6 (List.length (([]:List (List A2))))],Ob.var 56 [AV.row 7 (List.length s5),AV.row 8 (List.length s6),AV.row 9 (List.length (([]:List Int))),AV.row 10 (List.length s7)],Ob.row 3 1 ([]),Ob.row 22 1 ([]),Ob.row 3 1 ([]),Ob.row 79 1 ([]),Ob.row 3 1 (List.map A0 s5),Ob.row 22 1 (List.map Ad s6),Ob.row 3 1 ([]),Ob.row 79 1 (List.map Ae s7)]) (fun(x27,x28,x29) a26=>Ba 46 [(1,AV.ptr 0 0),(2,AV.ptr 1 0),(4,AV.ptr 2 0)]) (fun(x27,x28,x29) a26=>[Ob.var 25 [iA (Al.mod),AV.sl 1 (List.map A0 (Al.init)),AV.sl 1 (List.map A0 (Al.regs)),AV.sl 1 (List.map Aa (Al.code))],Ob.var 56 [AV.row 3 (List.length (([]:List Int))),AV.row 4 (List.length (([]:List (List Int)))),AV.row 5 (List.length (([]:List Int))),AV.row 6 (List.length (([]:List (List A2))))],Ob.var 56 [AV.row 7 (List.length x27),AV.row 8 (List.length x28),AV.row 9 (List.length (([]:List Int))),AV.row 10 (List.length x29)],Ob.row 3 1 ([]),Ob.row 22 1 ([]),Ob.row 3 1 ([]),Ob.row 79 1 ([]),Ob.row 3 1 (List.map A0 x27),Ob.row 22 1 (List.map Ad x28),Ob.row 3 1 ([]),Ob.row 79 1 (List.map Ae x29)]) (fun v=>(AV.tup [AV.agg [AV.sl 1 (List.map A0 (v.1.pc)),AV.sl 1 (List.map Ad (v.1.regs)),AV.sl 1 (List.map A0 (v.1.mem)),AV.sl 1 (List.map Ae (v.1.buf))],iA v.2],[])) (fun k s=>Ej n Al k s.1 s.2.1 s.2.2.1 s.2.2.2) (fun s=>rfl) o15 n (0,([]:List Int),([]:List (List Int)),([]:List (List A2))) (fun _=>0) ho15 ?_ ?_
 intro k8 ss a9 K10 cont11 hK12 hcont13 h hr14
 obtain⟨s4,s5,s6,s7⟩:=ss
 replace h:Ej n Al (k8+1) s4 s5 s6 s7=some o15:=h
 rw[Ej] at h
 conv=>lhs;whnf
 revert h
 refine br ?_ ?_
 refine ar (ap A0 (List.map A0 s5) s5 ([[iA (0)]]) ([0]:List Int)) ?_
 refine ix ?_;intro x19
 intro h
 refine Fx h ?_;clear h;intro hc21 h
 try simp only[ls]
 refine At (by first|exact Aij (B:=8) hc21 rfl (by kernel_rfl)|exact Aeq (B:=8) hc21 (by kernel_rfl)) ?_
 have hr20:List.replicate x19.toNat [iA (0)]=List.map A0 (List.replicate x19.toNat 0:List Int):=by rw[List.map_replicate];rfl
 simp only[hr20,ls]
 conv=>lhs;whnf
 revert h
 refine ar (ap Ad (List.map Ad s6) s6 ([[AV.sl 1 (List.map A0 ((List.replicate x19.toNat 0:List Int)))]]) ([(List.replicate x19.toNat 0:List Int)]:List (List Int))) ?_
 refine ar (ap Ae (List.map Ae s7) s7 ([[AV.sl 2 []]]) ([([]:List A2)]:List (List A2))) ?_
 exact fun h=>cq (hcont13 (IntKind.i64.wrap (s4+1),(s5++([0]:List Int)),(s6++([(List.replicate x19.toNat 0:List Int)]:List (List Int))),(s7++([([]:List A2)]:List (List A2)))) (fun _=>0) h)
 intro h;cases sj h
 exact kq (hr14 (fun _=>0))
 refine lrc ?_ ?_
 intro v e;subst e;cases sj h;rfl
 intro t a26 e;subst e
 obtain⟨x27,x28,x29⟩:=t
 dsimp only at h
 conv=>lhs;whnf
 revert h
 refine ar (ap A0 ([]) ([]:List Int) (List.map A0 (Al.init)) Al.init) ?_
 intro h;cases sj h
 try simp only[ls]
 exact fq (y:=some (AV.tup [AV.agg [AV.sl 1 (List.take (List.length x27) (List.map A0 x27)),AV.sl 1 (List.take (List.length x28) (List.map Ad x28)),AV.sl 1 (List.take (List.length ((([]:List Int)++Al.init))) (List.map A0 (([]:List Int)++Al.init))),AV.sl 1 (List.take (List.length x29) (List.map Ae x29))],iA (0)],[]))
 exact rz
theorem A3b {n:Nat} ⦃Az:A8⦄ ⦃r:A8⦄:Jw n Az=some r→CN n 25 [AV.agg [AV.sl 1 (List.map A0 (Az.pc)),AV.sl 1 (List.map Ad (Az.regs)),AV.sl 1 (List.map A0 (Az.mem)),AV.sl 1 (List.map Ae (Az.buf))]] []=some (AV.agg [AV.sl 1 (List.map A0 (r.pc)),AV.sl 1 (List.map Ad (r.regs)),AV.sl 1 (List.map A0 (r.mem)),AV.sl 1 (List.map Ae (r.buf))],[]):=by
 intro h;rcases n with _|n;cases h
 rw[Jw] at h
 refine B0 Try.func25 (by rfl) rfl rfl (Bi rfl) ?_
 intro call hc;conv=>lhs;whnf
 revert h
 refine cn ?_
 refine cn ?_
 intro h;refine Ap h ?_;clear h;intro o12 ho12 h
 refine lq (σ:=(Int×(List (List Int)))) (τ:=(List (List Int))) (ν:=A8) 0 (fun(s3,s4) a6=>Ba 62 [(1,AV.ptr 0 0),(2,AV.ptr 1 0),(3,AV.ptr 2 0),(4,iA s3)]) (fun(s3,s4) a6=>[Ob.var 56 [AV.sl 1 (List.map A0 (Az.pc)),AV.sl 1 (List.map Ad (Az.regs)),AV.sl 1 (List.map A0 (Az.mem)),AV.sl 1 (List.map Ae (Az.buf))],Ob.var 56 [AV.row 3 (List.length (([]:List Int))),AV.row 4 (List.length (([]:List (List Int)))),AV.row 5 (List.length (([]:List Int))),AV.row 6 (List.length (([]:List (List A2))))],Ob.var 56 [AV.sl 1 (List.map A0 (Az.pc)),AV.row 7 (List.length s4),AV.sl 1 (List.map A0 (Az.mem)),AV.row 8 (List.length (([]:List (List A2))))],Ob.row 3 1 ([]),Ob.row 22 1 ([]),Ob.row 3 1 ([]),Ob.row 79 1 ([]),Ob.row 22 1 (List.map Ad s4),Ob.row 79 1 ([])]) (fun x19 a18=>Ba 62 [(1,AV.ptr 0 0),(2,AV.ptr 1 0),(3,AV.ptr 2 0)]) (fun x19 a18=>[Ob.var 56 [AV.sl 1 (List.map A0 (Az.pc)),AV.sl 1 (List.map Ad (Az.regs)),AV.sl 1 (List.map A0 (Az.mem)),AV.sl 1 (List.map Ae (Az.buf))],Ob.var 56 [AV.row 3 (List.length (([]:List Int))),AV.row 4 (List.length (([]:List (List Int)))),AV.row 5 (List.length (([]:List Int))),AV.row 6 (List.length (([]:List (List A2))))],Ob.var 56 [AV.sl 1 (List.map A0 (Az.pc)),AV.row 7 (List.length x19),AV.sl 1 (List.map A0 (Az.mem)),AV.row 8 (List.length (([]:List (List A2))))],Ob.row 3 1 ([]),Ob.row 22 1 ([]),Ob.row 3 1 ([]),Ob.row 79 1 ([]),Ob.row 22 1 (List.map Ad x19),Ob.row 79 1 ([])]) (fun v=>(AV.agg [AV.sl 1 (List.map A0 (v.pc)),AV.sl 1 (List.map Ad (v.regs)),AV.sl 1 (List.map A0 (v.mem)),AV.sl 1 (List.map Ae (v.buf))],[])) (fun k s=>Fd n Az k s.1 s.2) (fun s=>rfl) o12 n (0,([]:List (List Int))) (fun _=>0) ho12 ?_ ?_
 intro k5 ss a6 K7 cont8 hK9 hcont10 h hr11
 obtain⟨s3,s4⟩:=ss
 replace h:Fd n Az (k5+1) s3 s4=some o12:=h
 rw[Fd] at h
 conv=>lhs;whnf
 revert h
 refine br ?_ ?_
 refine ix ?_;intro x14
 refine cn ?_
 refine ar (ap Ad (List.map Ad s4) s4 ([[AV.sl 1 (List.map A0 x14)]]) ([x14]:List (List Int))) ?_
 exact fun h=>cq (hcont10 (IntKind.i64.wrap (s3+1),(s4++([x14]:List (List Int)))) (fun _=>0) h)
 intro h;cases sj h
 exact kq (hr11 (fun _=>0))
 refine lrc ?_ ?_
 intro v e;subst e;cases sj h;rfl
 intro x19 a18 e;subst e
 dsimp only at h
 conv=>lhs;whnf
 revert h
 intro h;refine Ap h ?_;clear h;intro o29 ho29 h
 refine lq (σ:=(Int×(List (List A2)))) (τ:=(List (List A2))) (ν:=A8) 2 (fun(s20,s21) a23=>Ba 62 [(1,AV.ptr 0 0),(2,AV.ptr 1 0),(3,AV.ptr 2 0),(6,iA s20)]) (fun(s20,s21) a23=>[Ob.var 56 [AV.sl 1 (List.map A0 (Az.pc)),AV.sl 1 (List.map Ad (Az.regs)),AV.sl 1 (List.map A0 (Az.mem)),AV.sl 1 (List.map Ae (Az.buf))],Ob.var 56 [AV.row 3 (List.length (([]:List Int))),AV.row 4 (List.length (([]:List (List Int)))),AV.row 5 (List.length (([]:List Int))),AV.row 6 (List.length (([]:List (List A2))))],Ob.var 56 [AV.sl 1 (List.map A0 (Az.pc)),AV.row 7 (List.length x19),AV.sl 1 (List.map A0 (Az.mem)),AV.row 8 (List.length s21)],Ob.row 3 1 ([]),Ob.row 22 1 ([]),Ob.row 3 1 ([]),Ob.row 79 1 ([]),Ob.row 22 1 (List.map Ad x19),Ob.row 79 1 (List.map Ae s21)]) (fun x36 a35=>Ba 62 [(2,AV.ptr 1 0),(3,AV.ptr 2 0)]) (fun x36 a35=>[Ob.var 56 [AV.sl 1 (List.map A0 (Az.pc)),AV.sl 1 (List.map Ad (Az.regs)),AV.sl 1 (List.map A0 (Az.mem)),AV.sl 1 (List.map Ae (Az.buf))],Ob.var 56 [AV.row 3 (List.length (([]:List Int))),AV.row 4 (List.length (([]:List (List Int)))),AV.row 5 (List.length (([]:List Int))),AV.row 6 (List.length (([]:List (List A2))))],Ob.var 56 [AV.sl 1 (List.map A0 (Az.pc)),AV.row 7 (List.length x19),AV.sl 1 (List.map A0 (Az.mem)),AV.row 8 (List.length x36)],Ob.row 3 1 ([]),Ob.row 22 1 ([]),Ob.row 3 1 ([]),Ob.row 79 1 ([]),Ob.row 22 1 (List.map Ad x19),Ob.row 79 1 (List.map Ae x36)]) (fun v=>(AV.agg [AV.sl 1 (List.map A0 (v.pc)),AV.sl 1 (List.map Ad (v.regs)),AV.sl 1 (List.map A0 (v.mem)),AV.sl 1 (List.map Ae (v.buf))],[])) (fun k s=>Fg n Az k s.1 s.2) (fun s=>rfl) o29 n (0,([]:List (List A2))) (fun _=>0) ho29 ?_ ?_
 intro k22 ss a23 K24 cont25 hK26 hcont27 h hr28
 obtain⟨s20,s21⟩:=ss
 replace h:Fg n Az (k22+1) s20 s21=some o29:=h
 rw[Fg] at h
 conv=>lhs;whnf
 revert h
 refine br ?_ ?_
 refine ix ?_;intro x31
 refine cn ?_
 refine ar (ap Ae (List.map Ae s21) s21 ([[AV.sl 2 (List.map Ak x31)]]) ([x31]:List (List A2))) ?_
 exact fun h=>cq (hcont27 (IntKind.i64.wrap (s20+1),(s21++([x31]:List (List A2)))) (fun _=>0) h)
 intro h;cases sj h
 exact kq (hr28 (fun _=>0))
 refine lrc ?_ ?_
 intro v e;subst e;cases sj h;rfl
 intro x36 a35 e;subst e
 dsimp only at h
 conv=>lhs;whnf
 revert h
 intro h;cases sj h
 try simp only[ls]
 exact fq (y:=some (AV.agg [AV.sl 1 (List.map A0 (Az.pc)),AV.sl 1 (List.take (List.length x19) (List.map Ad x19)),AV.sl 1 (List.map A0 (Az.mem)),AV.sl 1 (List.take (List.length x36) (List.map Ae x36))],[]))
theorem A3c {n:Nat} ⦃Bu:A8⦄ ⦃C1:A8⦄ ⦃r:Bool⦄:Jv n Bu C1=some r→CN n 28 [AV.agg [AV.sl 1 (List.map A0 (Bu.pc)),AV.sl 1 (List.map Ad (Bu.regs)),AV.sl 1 (List.map A0 (Bu.mem)),AV.sl 1 (List.map Ae (Bu.buf))],AV.agg [AV.sl 1 (List.map A0 (C1.pc)),AV.sl 1 (List.map Ad (C1.regs)),AV.sl 1 (List.map A0 (C1.mem)),AV.sl 1 (List.map Ae (C1.buf))]] []=some (bA r,[]):=by
 intro h;rcases n with _|n;cases h
 rw[Jv] at h
 refine B0 Try.func28 (by rfl) rfl rfl (Bi rfl) ?_
 intro call hc;conv=>lhs;whnf
 revert h
 refine ca hc (fun _ h=>Ok h) ?_;intro y1
 refine br ?_ ?_
 refine ca hc (fun _ h=>Ok h) ?_;intro y4
 refine br ?_ ?_
 refine br ?_ ?_
 exact rz
 refine br ?_ ?_
 exact rz
 intro h;refine Ap h ?_;clear h;intro o17 ho17 h
 refine lq (σ:=Int) (τ:=Unit) (ν:=Bool) 0 (fun s9 a11=>Ba 77 [(2,AV.ptr 0 0),(3,AV.ptr 1 0),(5,iA s9)]) (fun s9 a11=>[Ob.var 56 [AV.sl 1 (List.map A0 (Bu.pc)),AV.sl 1 (List.map Ad (Bu.regs)),AV.sl 1 (List.map A0 (Bu.mem)),AV.sl 1 (List.map Ae (Bu.buf))],Ob.var 56 [AV.sl 1 (List.map A0 (C1.pc)),AV.sl 1 (List.map Ad (C1.regs)),AV.sl 1 (List.map A0 (C1.mem)),AV.sl 1 (List.map Ae (C1.buf))]]) (fun _ a24=>Ba 77 [(2,AV.ptr 0 0),(3,AV.ptr 1 0)]) (fun _ a24=>[Ob.var 56 [AV.sl 1 (List.map A0 (Bu.pc)),AV.sl 1 (List.map Ad (Bu.regs)),AV.sl 1 (List.map A0 (Bu.mem)),AV.sl 1 (List.map Ae (Bu.buf))],Ob.var 56 [AV.sl 1 (List.map A0 (C1.pc)),AV.sl 1 (List.map Ad (C1.regs)),AV.sl 1 (List.map A0 (C1.mem)),AV.sl 1 (List.map Ae (C1.buf))]]) (fun v=>(bA v,[])) (fun k s=>Ff n Bu C1 k s) (fun s=>rfl) o17 n 0 (fun _=>0) ho17 ?_ ?_
 intro k10 s9 a11 K12 cont13 hK14 hcont15 h hr16
 replace h:Ff n Bu C1 (k10+1) s9=some o17:=h
 rw[Ff] at h
 conv=>lhs;whnf
 revert h
 refine br ?_ ?_
 refine ix ?_;intro x19
 refine ix ?_;intro x20
 refine ca hc (fun _ h=>Ok h) ?_;intro y21
 refine br ?_ ?_
 exact fun h=>cq (hcont15 (IntKind.i64.wrap (s9+1)) (fun _=>0) h)
 intro h;cases sj h
 refine(hK14 _ _).trans ?_
 refine Eq.trans ?_ (Eq.symm (show _=some _ from hr16))
 conv=>lhs;whnf
 exact rq
 intro h;cases sj h
 exact kq (hr16 (fun _=>0))
 refine lrc ?_ ?_
 intro v e;subst e;cases sj h;rfl
 intro t a24 e;subst e
 dsimp only at h
 conv=>lhs;whnf
 revert h
 intro h;refine Ap h ?_;clear h;intro o33 ho33 h
 refine lq (σ:=Int) (τ:=Unit) (ν:=Bool) 2 (fun s25 a27=>Ba 77 [(2,AV.ptr 0 0),(3,AV.ptr 1 0),(6,iA s25)]) (fun s25 a27=>[Ob.var 56 [AV.sl 1 (List.map A0 (Bu.pc)),AV.sl 1 (List.map Ad (Bu.regs)),AV.sl 1 (List.map A0 (Bu.mem)),AV.sl 1 (List.map Ae (Bu.buf))],Ob.var 56 [AV.sl 1 (List.map A0 (C1.pc)),AV.sl 1 (List.map Ad (C1.regs)),AV.sl 1 (List.map A0 (C1.mem)),AV.sl 1 (List.map Ae (C1.buf))]]) (fun _ a40=>Ba 77 []) (fun _ a40=>[Ob.var 56 [AV.sl 1 (List.map A0 (Bu.pc)),AV.sl 1 (List.map Ad (Bu.regs)),AV.sl 1 (List.map A0 (Bu.mem)),AV.sl 1 (List.map Ae (Bu.buf))],Ob.var 56 [AV.sl 1 (List.map A0 (C1.pc)),AV.sl 1 (List.map Ad (C1.regs)),AV.sl 1 (List.map A0 (C1.mem)),AV.sl 1 (List.map Ae (C1.buf))]]) (fun v=>(bA v,[])) (fun k s=>Fb n Bu C1 k s) (fun s=>rfl) o33 n 0 (fun _=>0) ho33 ?_ ?_
 intro k26 s25 a27 K28 cont29 hK30 hcont31 h hr32
 replace h:Fb n Bu C1 (k26+1) s25=some o33:=h
 rw[Fb] at h
 conv=>lhs;whnf
 revert h
 refine br ?_ ?_
 refine ix ?_;intro x35
 refine ix ?_;intro x36
 refine ca hc (fun _ h=>A3k h) ?_;intro y37
 refine br ?_ ?_
 exact fun h=>cq (hcont31 (IntKind.i64.wrap (s25+1)) (fun _=>0) h)
 intro h;cases sj h
 refine(hK30 _ _).trans ?_
 refine Eq.trans ?_ (Eq.symm (show _=some _ from hr32))
 conv=>lhs;whnf
 exact rq
 intro h;cases sj h
 exact kq (hr32 (fun _=>0))
 refine lrc ?_ ?_
 intro v e;subst e;cases sj h;rfl
 intro t a40 e;subst e
 dsimp only at h
 conv=>lhs;whnf
 revert h
 exact rz
 exact rz
 exact rz
theorem Qz {n:Nat} ⦃Al:Ac⦄ ⦃An:Int⦄ ⦃r:Int⦄:Gw n Al An=some r→CN n 23 [AV.agg [iA (Al.mod),AV.sl 1 (List.map A0 (Al.init)),AV.sl 1 (List.map A0 (Al.regs)),AV.sl 1 (List.map Aa (Al.code))],iA An] []=some (iA r,[]):=by
 intro h;rcases n with _|n;cases h
 rw[Gw] at h
 refine B0 Try.func23 (by rfl) rfl rfl (Bi rfl) ?_
 intro call hc;conv=>lhs;whnf
 revert h
 refine ca hc (fun _ h=>Sf h) ?_;intro y1
 refine br ?_ ?_
 refine br ?_ ?_
 exact rz
 refine br ?_ ?_
 exact rz
 refine br ?_ ?_
 exact rz
 exact rz
 exact rz
theorem Q6 {n:Nat} ⦃Al:Ac⦄ ⦃B3:A8⦄ ⦃Bk:Int⦄ ⦃Cb:Int⦄ ⦃Io:Int⦄ ⦃r:Bool⦄:Gd n Al B3 Bk Cb Io=some r→CN n 24 [AV.agg [iA (Al.mod),AV.sl 1 (List.map A0 (Al.init)),AV.sl 1 (List.map A0 (Al.regs)),AV.sl 1 (List.map Aa (Al.code))],AV.agg [AV.sl 1 (List.map A0 (B3.pc)),AV.sl 1 (List.map Ad (B3.regs)),AV.sl 1 (List.map A0 (B3.mem)),AV.sl 1 (List.map Ae (B3.buf))],iA Bk,iA Cb,iA Io] []=some (bA r,[]):=by
 intro h;rcases n with _|n;cases h
 rw[Gd] at h
 refine B0 Try.func24 (by rfl) rfl rfl (Bi rfl) ?_
 intro call hc;conv=>lhs;whnf
 revert h
 refine br ?_ ?_
 exact rz
 refine ca hc (fun _ h=>Qz h) ?_;intro y2
 refine br ?_ ?_
 exact rz
 refine br ?_ ?_
 refine ca hc (fun _ h=>Y0 h) ?_;intro y6
 exact rz
 refine br ?_ ?_
 refine cr hc (fun _ h=>Qm h) ?_;intro y9
 exact rz
 refine bf ?_
 refine bf ?_
 refine cr hc (fun _ h=>Qm h) ?_;intro y13
 exact rz
theorem A4j {n:Nat} ⦃Al:Ac⦄ ⦃B3:A8⦄ ⦃Bk:Int⦄ ⦃Cb:Int⦄ ⦃Io:Int⦄ ⦃r:(A8×Bool)⦄:Ku n Al B3 Bk Cb Io=some r→CN n 17 [AV.agg [iA (Al.mod),AV.sl 1 (List.map A0 (Al.init)),AV.sl 1 (List.map A0 (Al.regs)),AV.sl 1 (List.map Aa (Al.code))],AV.agg [AV.sl 1 (List.map A0 (B3.pc)),AV.sl 1 (List.map Ad (B3.regs)),AV.sl 1 (List.map A0 (B3.mem)),AV.sl 1 (List.map Ae (B3.buf))],iA Bk,iA Cb,iA Io] []=some (AV.tup [AV.agg [AV.sl 1 (List.map A0 (r.1.pc)),AV.sl 1 (List.map Ad (r.1.regs)),AV.sl 1 (List.map A0 (r.1.mem)),AV.sl 1 (List.map Ae (r.1.buf))],bA r.2],[]):=by
 intro h;rcases n with _|n;cases h
 rw[Ku] at h
 refine B0 Try.func17 (by rfl) rfl rfl (Bi rfl) ?_
 intro call hc;conv=>lhs;whnf
 revert h
 refine ca hc (fun _ h=>Q6 h) ?_;intro y1
 refine br ?_ ?_
 refine br ?_ ?_
 refine ca hc (fun _ h=>A4h h) ?_;intro y5
 exact rz
 refine br ?_ ?_
 refine cr hc (fun _ h=>Sb h) ?_;intro y8
 exact rz
 refine bf ?_
 refine bf ?_
 refine cr hc (fun _ h=>Sb h) ?_;intro y12
 exact rz
 refine ca hc (fun _ h=>A3b h) ?_;intro y14
 exact rz
theorem A0l {n:Nat} ⦃Al:Ac⦄ ⦃B3:A8⦄ ⦃Bk:Int⦄ ⦃Cb:Int⦄ ⦃r:(List Int)⦄:J5 n Al B3 Bk Cb=some r→CN n 16 [AV.agg [iA (Al.mod),AV.sl 1 (List.map A0 (Al.init)),AV.sl 1 (List.map A0 (Al.regs)),AV.sl 1 (List.map Aa (Al.code))],AV.agg [AV.sl 1 (List.map A0 (B3.pc)),AV.sl 1 (List.map Ad (B3.regs)),AV.sl 1 (List.map A0 (B3.mem)),AV.sl 1 (List.map Ae (B3.buf))],iA Bk,iA Cb] []=some (AV.sl 1 (List.map A0 r),[]):=by
 intro h;rcases n with _|n;cases h
 rw[J5] at h
 refine B0 Try.func16 (by rfl) rfl rfl (Bi rfl) ?_
 intro call hc;conv=>lhs;whnf
 revert h
 intro h;refine Ap h ?_;clear h;intro o10 ho10 h
 refine lq (σ:=(Int×(List Int))) (τ:=(List Int)) (ν:=(List Int)) 0 (fun(s1,s2) a4=>Ba 29 [(2,iA Bk),(3,iA Cb),(4,AV.ptr 0 0),(5,AV.ptr 1 0),(9,AV.row 2 (List.length s2)),(10,iA s1)]) (fun(s1,s2) a4=>[Ob.var 25 [iA (Al.mod),AV.sl 1 (List.map A0 (Al.init)),AV.sl 1 (List.map A0 (Al.regs)),AV.sl 1 (List.map Aa (Al.code))],Ob.var 56 [AV.sl 1 (List.map A0 (B3.pc)),AV.sl 1 (List.map Ad (B3.regs)),AV.sl 1 (List.map A0 (B3.mem)),AV.sl 1 (List.map Ae (B3.buf))],Ob.row 3 1 (List.map A0 s2)]) (fun x20 a19=>Ba 29 [(9,AV.row 2 (List.length x20))]) (fun x20 a19=>[Ob.var 25 [iA (Al.mod),AV.sl 1 (List.map A0 (Al.init)),AV.sl 1 (List.map A0 (Al.regs)),AV.sl 1 (List.map Aa (Al.code))],Ob.var 56 [AV.sl 1 (List.map A0 (B3.pc)),AV.sl 1 (List.map Ad (B3.regs)),AV.sl 1 (List.map A0 (B3.mem)),AV.sl 1 (List.map Ae (B3.buf))],Ob.row 3 1 (List.map A0 x20)]) (fun v=>(AV.sl 1 (List.map A0 v),[])) (fun k s=>El n Al B3 Bk Cb k s.1 s.2) (fun s=>rfl) o10 n (0,([]:List Int)) (fun _=>0) ho10 ?_ ?_
 intro k3 ss a4 K5 cont6 hK7 hcont8 h hr9
 obtain⟨s1,s2⟩:=ss
 replace h:El n Al B3 Bk Cb (k3+1) s1 s2=some o10:=h
 rw[El] at h
 conv=>lhs;whnf
 revert h
 refine ca hc (fun _ h=>Qz h) ?_;intro y11
 refine br ?_ ?_
 refine ca hc (fun _ h=>Q6 h) ?_;intro y14
 refine br ?_ ?_
 refine ar (ap A0 (List.map A0 s2) s2 ([[iA s1]]) ([s1]:List Int)) ?_
 exact fun h=>cq (hcont8 (IntKind.i64.wrap (s1+1),(s2++([s1]:List Int))) (fun _=>0) h)
 exact fun h=>cq (hcont8 (IntKind.i64.wrap (s1+1),s2) (fun _=>0) h)
 intro h;cases sj h
 exact kq (hr9 (fun _=>0))
 refine lrc ?_ ?_
 intro v e;subst e;cases sj h;rfl
 intro x20 a19 e;subst e
 dsimp only at h
 conv=>lhs;whnf
 revert h
 intro h;obtain rfl:=sj h
 try simp only[ls]
 exact fq (y:=some (AV.sl 1 (List.take (List.length x20) (List.map A0 x20)),[]))
theorem A1s {n:Nat} ⦃F6:Int⦄ ⦃Eo:(List Bf)⦄ ⦃r:(C3×Int)⦄:J4 n F6 Eo=some r→CN n 19 [iA F6,AV.sl 3 (List.map Dt Eo)] []=some (AV.tup [AV.agg [AV.sl 1 (List.map A0 r.1.Im),AV.sl 1 (List.map A0 r.1.E8),AV.sl 1 (List.map A0 r.1.Hh)],iA r.2],[]):=by
 intro h;rcases n with _|n;cases h
 rw[J4] at h
 refine B0 Try.func19 (by rfl) rfl rfl (Bi rfl) ?_
 intro call hc;conv=>lhs;whnf
 revert h
 refine br ?_ ?_
 exact rz
 refine br ?_ ?_
 exact rz
 intro h;refine Ap h ?_;clear h;intro o11 ho11 h
 refine lq (σ:=Int) (τ:=Unit) (ν:=(C3×Int)) 0 (fun s3 a5=>Ba 117 [(0,iA F6),(1,AV.sl 3 (List.map Dt Eo)),(4,AV.ptr 0 0),(6,iA s3)]) (fun s3 a5=>[Ob.var 35 [AV.row 1 (List.length (([]:List Int))),AV.row 2 (List.length (([]:List Int))),AV.row 3 (List.length (([]:List Int)))],Ob.row 3 1 ([]),Ob.row 3 1 ([]),Ob.row 3 1 ([])]) (fun _ a23=>Ba 117 [(0,iA F6),(1,AV.sl 3 (List.map Dt Eo)),(4,AV.ptr 0 0)]) (fun _ a23=>[Ob.var 35 [AV.row 1 (List.length (([]:List Int))),AV.row 2 (List.length (([]:List Int))),AV.row 3 (List.length (([]:List Int)))],Ob.row 3 1 ([]),Ob.row 3 1 ([]),Ob.row 3 1 ([])]) (fun v=>(AV.tup [AV.agg [AV.sl 1 (List.map A0 v.1.Im),AV.sl 1 (List.map A0 v.1.E8),AV.sl 1 (List.map A0 v.1.Hh)],iA v.2],[])) (fun k s=>D5 n F6 Eo k s) (fun s=>rfl) o11 n 0 (fun _=>0) ho11 ?_ ?_
 intro k4 s3 a5 K6 cont7 hK8 hcont9 h hr10
 replace h:D5 n F6 Eo (k4+1) s3=some o11:=h
 rw[D5] at h
 conv=>lhs;whnf
 revert h
 refine br ?_ ?_
 refine ix ?_;intro x13
 refine br ?_ ?_
 intro h;cases sj h
 refine(hK8 _ _).trans ?_
 refine Eq.trans ?_ (Eq.symm (show _=some _ from hr10))
 conv=>lhs;whnf
 exact rq
 refine ix ?_;intro x15
 refine br ?_ ?_
 intro h;cases sj h
 refine(hK8 _ _).trans ?_
 refine Eq.trans ?_ (Eq.symm (show _=some _ from hr10))
 conv=>lhs;whnf
 exact rq
 refine ix ?_;intro x17
 refine br ?_ ?_
 intro h;cases sj h
 refine(hK8 _ _).trans ?_
 refine Eq.trans ?_ (Eq.symm (show _=some _ from hr10))
 conv=>lhs;whnf
 exact rq
 refine ix ?_;intro x19
 refine br ?_ ?_
 intro h;cases sj h
 refine(hK8 _ _).trans ?_
 refine Eq.trans ?_ (Eq.symm (show _=some _ from hr10))
 conv=>lhs;whnf
 exact rq
 refine ix ?_;intro x21
 refine br ?_ ?_
 intro h;cases sj h
 refine(hK8 _ _).trans ?_
 refine Eq.trans ?_ (Eq.symm (show _=some _ from hr10))
 conv=>lhs;whnf
 exact rq
 exact fun h=>cq (hcont9 (IntKind.i64.wrap (s3+1)) (fun _=>0) h)
 intro h;cases sj h
 exact kq (hr10 (fun _=>0))
 refine lrc ?_ ?_
 intro v e;subst e;cases sj h;rfl
 intro t a23 e;subst e
 dsimp only at h
 conv=>lhs;whnf
 revert h
 intro h;refine Ap h ?_;clear h;intro o35 ho35 h
 refine lq (σ:=(Int×(List Int)×(List Int)×(List Int))) (τ:=((List Int)×(List Int)×(List Int))) (ν:=(C3×Int)) 2 (fun(s24,s25,s26,s27) a29=>Ba 117 [(0,iA F6),(1,AV.sl 3 (List.map Dt Eo)),(4,AV.ptr 0 0),(7,AV.ptr 4 0),(8,iA s24)]) (fun(s24,s25,s26,s27) a29=>[Ob.var 35 [AV.row 1 (List.length (([]:List Int))),AV.row 2 (List.length (([]:List Int))),AV.row 3 (List.length (([]:List Int)))],Ob.row 3 1 ([]),Ob.row 3 1 ([]),Ob.row 3 1 ([]),Ob.var 35 [AV.row 5 (List.length s25),AV.row 6 (List.length s26),AV.row 7 (List.length s27)],Ob.row 3 1 (List.map A0 s25),Ob.row 3 1 (List.map A0 s26),Ob.row 3 1 (List.map A0 s27)]) (fun(x64,x65,x66) a63=>Ba 117 [(4,AV.ptr 0 0),(7,AV.ptr 4 0)]) (fun(x64,x65,x66) a63=>[Ob.var 35 [AV.row 1 (List.length (([]:List Int))),AV.row 2 (List.length (([]:List Int))),AV.row 3 (List.length (([]:List Int)))],Ob.row 3 1 ([]),Ob.row 3 1 ([]),Ob.row 3 1 ([]),Ob.var 35 [AV.row 5 (List.length x64),AV.row 6 (List.length x65),AV.row 7 (List.length x66)],Ob.row 3 1 (List.map A0 x64),Ob.row 3 1 (List.map A0 x65),Ob.row 3 1 (List.map A0 x66)]) (fun v=>(AV.tup [AV.agg [AV.sl 1 (List.map A0 v.1.Im),AV.sl 1 (List.map A0 v.1.E8),AV.sl 1 (List.map A0 v.1.Hh)],iA v.2],[])) (fun k s=>Em n F6 Eo k s.1 s.2.1 s.2.2.1 s.2.2.2) (fun s=>rfl) o35 n (0,([0]:List Int),([]:List Int),([]:List Int)) (fun _=>0) ho35 ?_ ?_
 intro k28 ss a29 K30 cont31 hK32 hcont33 h hr34
 obtain⟨s24,s25,s26,s27⟩:=ss
 replace h:Em n F6 Eo (k28+1) s24 s25 s26 s27=some o35:=h
 rw[Em] at h
 conv=>lhs;whnf
 revert h
 refine br ?_ ?_
 intro h;refine Ap h ?_;clear h;intro o47 ho47 h
 refine lq (σ:=(Int×(List Int)×(List Int))) (τ:=((List Int)×(List Int))) (ν:=(C3×Int)) 4 (fun(s37,s38,s39) a41=>Ba 117 [(0,iA F6),(1,AV.sl 3 (List.map Dt Eo)),(4,AV.ptr 0 0),(7,AV.ptr 4 0),(8,iA s24),(9,iA s37)]) (fun(s37,s38,s39) a41=>[Ob.var 35 [AV.row 1 (List.length (([]:List Int))),AV.row 2 (List.length (([]:List Int))),AV.row 3 (List.length (([]:List Int)))],Ob.row 3 1 ([]),Ob.row 3 1 ([]),Ob.row 3 1 ([]),Ob.var 35 [AV.row 5 (List.length s25),AV.row 6 (List.length s38),AV.row 7 (List.length s39)],Ob.row 3 1 (List.map A0 s25),Ob.row 3 1 (List.map A0 s38),Ob.row 3 1 (List.map A0 s39)]) (fun(x58,x59) a57=>Ba 117 [(0,iA F6),(1,AV.sl 3 (List.map Dt Eo)),(4,AV.ptr 0 0),(7,AV.ptr 4 0),(8,iA s24)]) (fun(x58,x59) a57=>[Ob.var 35 [AV.row 1 (List.length (([]:List Int))),AV.row 2 (List.length (([]:List Int))),AV.row 3 (List.length (([]:List Int)))],Ob.row 3 1 ([]),Ob.row 3 1 ([]),Ob.row 3 1 ([]),Ob.var 35 [AV.row 5 (List.length s25),AV.row 6 (List.length x58),AV.row 7 (List.length x59)],Ob.row 3 1 (List.map A0 s25),Ob.row 3 1 (List.map A0 x58),Ob.row 3 1 (List.map A0 x59)]) (fun v=>(AV.tup [AV.agg [AV.sl 1 (List.map A0 v.1.Im),AV.sl 1 (List.map A0 v.1.E8),AV.sl 1 (List.map A0 v.1.Hh)],iA v.2],[])) (fun k s=>Dm n Eo s24 k s.1 s.2.1 s.2.2) (fun s=>rfl) o47 n (0,s26,s27) (fun _=>0) ho47 ?_ ?_
 intro k40 ss a41 K42 cont43 hK44 hcont45 h hr46
 obtain⟨s37,s38,s39⟩:=ss
 replace h:Dm n Eo s24 (k40+1) s37 s38 s39=some o47:=h
 rw[Dm] at h
 conv=>lhs;whnf
 revert h
 refine br ?_ ?_
 refine ix ?_;intro x49
 refine br ?_ ?_
 refine ix ?_;intro x51
 refine ar (ap A0 (List.map A0 s38) s38 ([[iA x51.E8]]) ([x51.E8]:List Int)) ?_
 refine ix ?_;intro x54
 refine ar (ap A0 (List.map A0 s39) s39 ([[iA x54.Hh]]) ([x54.Hh]:List Int)) ?_
 exact fun h=>cq (hcont45 (IntKind.i64.wrap (s37+1),(s38++([x51.E8]:List Int)),(s39++([x54.Hh]:List Int))) (fun _=>0) h)
 exact fun h=>cq (hcont45 (IntKind.i64.wrap (s37+1),s38,s39) (fun _=>0) h)
 intro h;cases sj h
 exact kq (hr46 (fun _=>0))
 refine lrc ?_ ?_
 intro v e;subst e;cases sj h;exact hr34
 intro t a57 e;subst e
 obtain⟨x58,x59⟩:=t
 dsimp only at h
 conv=>lhs;whnf
 revert h
 refine ar (ap A0 (List.map A0 s25) s25 ([[iA (((x59.length:Nat):Int))]]) ([((x59.length:Nat):Int)]:List Int)) ?_
 exact fun h=>cq (hcont33 (IntKind.i64.wrap (s24+1),(s25++([((x59.length:Nat):Int)]:List Int)),x58,x59) (fun _=>0) h)
 intro h;cases sj h
 exact kq (hr34 (fun _=>0))
 refine lrc ?_ ?_
 intro v e;subst e;cases sj h;rfl
 intro t a63 e;subst e
 obtain⟨x64,x65,x66⟩:=t
 dsimp only at h
 conv=>lhs;whnf
 revert h
 intro h;cases sj h
 try simp only[ls]
 exact fq (y:=some (AV.tup [AV.agg [AV.sl 1 (List.take (List.length x64) (List.map A0 x64)),AV.sl 1 (List.take (List.length x65) (List.map A0 x65)),AV.sl 1 (List.take (List.length x66) (List.map A0 x66))],iA (0)],[]))
theorem A3l {n:Nat} ⦃G2:Bz⦄ ⦃B3:A8⦄ ⦃r:Int⦄:H8 n G2 B3=some r→CN n 18 [AV.agg [AV.sl 4 (List.map Df G2.Da),AV.sl 1 (List.map A0 G2.Mx.Im),AV.sl 1 (List.map A0 G2.Mx.E8),AV.sl 1 (List.map A0 G2.Mx.Hh),AV.sl 1 (List.map A0 G2.Nq),AV.sl 1 (List.map A0 G2.A1t)],AV.agg [AV.sl 1 (List.map A0 (B3.pc)),AV.sl 1 (List.map Ad (B3.regs)),AV.sl 1 (List.map A0 (B3.mem)),AV.sl 1 (List.map Ae (B3.buf))]] []=some (iA r,[]):=by
 intro h;rcases n with _|n;cases h
 rw[H8] at h
 refine B0 Try.func18 (by rfl) rfl rfl (Bi rfl) ?_
 intro call hc;conv=>lhs;whnf
 revert h
 intro h;refine Ap h ?_;clear h;intro o9 ho9 h
 refine lq (σ:=Int) (τ:=Unit) (ν:=Int) 0 (fun s1 a3=>Ba 21 [(2,AV.ptr 0 0),(3,AV.ptr 1 0),(5,iA s1)]) (fun s1 a3=>[Ob.var 37 [AV.sl 4 (List.map Df G2.Da),AV.sl 1 (List.map A0 G2.Mx.Im),AV.sl 1 (List.map A0 G2.Mx.E8),AV.sl 1 (List.map A0 G2.Mx.Hh),AV.sl 1 (List.map A0 G2.Nq),AV.sl 1 (List.map A0 G2.A1t)],Ob.var 56 [AV.sl 1 (List.map A0 (B3.pc)),AV.sl 1 (List.map Ad (B3.regs)),AV.sl 1 (List.map A0 (B3.mem)),AV.sl 1 (List.map Ae (B3.buf))]]) (fun _ a15=>Ba 21 []) (fun _ a15=>[Ob.var 37 [AV.sl 4 (List.map Df G2.Da),AV.sl 1 (List.map A0 G2.Mx.Im),AV.sl 1 (List.map A0 G2.Mx.E8),AV.sl 1 (List.map A0 G2.Mx.Hh),AV.sl 1 (List.map A0 G2.Nq),AV.sl 1 (List.map A0 G2.A1t)],Ob.var 56 [AV.sl 1 (List.map A0 (B3.pc)),AV.sl 1 (List.map Ad (B3.regs)),AV.sl 1 (List.map A0 (B3.mem)),AV.sl 1 (List.map Ae (B3.buf))]]) (fun v=>(iA v,[])) (fun k s=>Fa n G2 B3 k s) (fun s=>rfl) o9 n 0 (fun _=>0) ho9 ?_ ?_
 intro k2 s1 a3 K4 cont5 hK6 hcont7 h hr8
 replace h:Fa n G2 B3 (k2+1) s1=some o9:=h
 rw[Fa] at h
 conv=>lhs;whnf
 revert h
 refine br ?_ ?_
 refine ix ?_;intro x11
 refine ca hc (fun _ h=>A3c h) ?_;intro y12
 refine br ?_ ?_
 intro h;cases sj h
 refine(hK6 _ _).trans ?_
 refine Eq.trans ?_ (Eq.symm (show _=some _ from hr8))
 conv=>lhs;whnf
 exact rq
 exact fun h=>cq (hcont7 (IntKind.i64.wrap (s1+1)) (fun _=>0) h)
 intro h;cases sj h
 exact kq (hr8 (fun _=>0))
 refine lrc ?_ ?_
 intro v e;subst e;cases sj h;rfl
 intro t a15 e;subst e
 dsimp only at h
 conv=>lhs;whnf
 revert h
 exact rz
theorem A4b {n:Nat} ⦃Al:Ac⦄ ⦃An:Int⦄ ⦃Ca:Int⦄ ⦃Cu:Int⦄ ⦃r:(Bz×Int)⦄:Kw n Al An Ca Cu=some r→CN n 7 [AV.agg [iA (Al.mod),AV.sl 1 (List.map A0 (Al.init)),AV.sl 1 (List.map A0 (Al.regs)),AV.sl 1 (List.map Aa (Al.code))],iA An,iA Ca,iA Cu] []=some (AV.tup [AV.agg [AV.sl 4 (List.map Df r.1.Da),AV.sl 1 (List.map A0 r.1.Mx.Im),AV.sl 1 (List.map A0 r.1.Mx.E8),AV.sl 1 (List.map A0 r.1.Mx.Hh),AV.sl 1 (List.map A0 r.1.Nq),AV.sl 1 (List.map A0 r.1.A1t)],iA r.2],[]):=by
 intro h;rcases n with _|n;cases h
 rw[Kw] at h
 refine B0 Try.func7 (by rfl) rfl rfl (Bi rfl) ?_
 intro call hc;conv=>lhs;whnf
 revert h
 refine ca hc (fun _ h=>A1o h) ?_;intro y1
 refine br ?_ ?_
 exact rz
 refine br ?_ ?_
 exact rz
 refine br ?_ ?_
 exact rz
 refine br ?_ ?_
 exact rz
 refine br ?_ ?_
 exact rz
 refine br ?_ ?_
 exact rz
 refine br ?_ ?_
 exact rz
 intro h;refine Ap h ?_;clear h;intro o22 ho22 h
 refine lq (σ:=(Int×(List A8)×(List Int)×(List Int)×(List Bf))) (τ:=((List A8)×(List Int)×(List Int)×(List Bf))) (ν:=(Bz×Int)) 0 (fun(s10,s11,s12,s13,s14) a16=>Ba 164 [(1,iA An),(2,iA Ca),(3,iA Cu),(4,AV.ptr 0 0),(8,AV.ptr 1 0),(12,AV.ptr 3 0),(13,AV.row 7 (List.length s14)),(14,iA s10)]) (fun(s10,s11,s12,s13,s14) a16=>[Ob.var 25 [iA (Al.mod),AV.sl 1 (List.map A0 (Al.init)),AV.sl 1 (List.map A0 (Al.regs)),AV.sl 1 (List.map Aa (Al.code))],Ob.var 37 [AV.nils,AV.nils,AV.nils,AV.nils,AV.nils,AV.nils],Ob.var 56 [AV.sl 1 (List.map A0 (y1.1.pc)),AV.sl 1 (List.map Ad (y1.1.regs)),AV.sl 1 (List.map A0 (y1.1.mem)),AV.sl 1 (List.map Ae (y1.1.buf))],Ob.var 37 [AV.row 4 (List.length s11),AV.nils,AV.nils,AV.nils,AV.row 5 (List.length s12),AV.row 6 (List.length s13)],Ob.row 56 4 (List.map Df s11),Ob.row 3 1 (List.map A0 s12),Ob.row 3 1 (List.map A0 s13),Ob.row 65 3 (List.map Dt s14)]) (fun(x69,x70,x71,x72) a68=>Ba 164 [(8,AV.ptr 1 0),(12,AV.ptr 3 0),(13,AV.row 7 (List.length x72))]) (fun(x69,x70,x71,x72) a68=>[Ob.var 25 [iA (Al.mod),AV.sl 1 (List.map A0 (Al.init)),AV.sl 1 (List.map A0 (Al.regs)),AV.sl 1 (List.map Aa (Al.code))],Ob.var 37 [AV.nils,AV.nils,AV.nils,AV.nils,AV.nils,AV.nils],Ob.var 56 [AV.sl 1 (List.map A0 (y1.1.pc)),AV.sl 1 (List.map Ad (y1.1.regs)),AV.sl 1 (List.map A0 (y1.1.mem)),AV.sl 1 (List.map Ae (y1.1.buf))],Ob.var 37 [AV.row 4 (List.length x69),AV.nils,AV.nils,AV.nils,AV.row 5 (List.length x70),AV.row 6 (List.length x71)],Ob.row 56 4 (List.map Df x69),Ob.row 3 1 (List.map A0 x70),Ob.row 3 1 (List.map A0 x71),Ob.row 65 3 (List.map Dt x72)]) (fun v=>(AV.tup [AV.agg [AV.sl 4 (List.map Df v.1.Da),AV.sl 1 (List.map A0 v.1.Mx.Im),AV.sl 1 (List.map A0 v.1.Mx.E8),AV.sl 1 (List.map A0 v.1.Mx.Hh),AV.sl 1 (List.map A0 v.1.Nq),AV.sl 1 (List.map A0 v.1.A1t)],iA v.2],[])) (fun k s=>F3 n Al An Ca Cu k s.1 s.2.1 s.2.2.1 s.2.2.2.1 s.2.2.2.2) (fun s=>rfl) o22 n (0,([y1.1]:List A8),([(-1)]:List Int),([(-1)]:List Int),([]:List Bf)) (fun _=>0) ho22 ?_ ?_
 intro k15 ss a16 K17 cont18 hK19 hcont20 h hr21
 obtain⟨s10,s11,s12,s13,s14⟩:=ss
 replace h:F3 n Al An Ca Cu (k15+1) s10 s11 s12 s13 s14=some o22:=h
 rw[F3] at h
 conv=>lhs;whnf
 revert h
 refine br ?_ ?_
 refine ix ?_;intro x24
 refine ca hc (fun _ h=>A0l h) ?_;intro y25
 intro h;refine Ap h ?_;clear h;intro o39 ho39 h
 refine lq (σ:=(Int×(List A8)×(List Int)×(List Int)×(List Bf))) (τ:=((List A8)×(List Int)×(List Int)×(List Bf))) (ν:=(Bz×Int)) 2 (fun(s27,s28,s29,s30,s31) a33=>Ba 164 [(1,iA An),(2,iA Ca),(3,iA Cu),(4,AV.ptr 0 0),(8,AV.ptr 1 0),(12,AV.ptr 3 0),(13,AV.row 7 (List.length s31)),(14,iA s10),(15,AV.sl 1 (List.map A0 y25)),(16,iA s27)]) (fun(s27,s28,s29,s30,s31) a33=>[Ob.var 25 [iA (Al.mod),AV.sl 1 (List.map A0 (Al.init)),AV.sl 1 (List.map A0 (Al.regs)),AV.sl 1 (List.map Aa (Al.code))],Ob.var 37 [AV.nils,AV.nils,AV.nils,AV.nils,AV.nils,AV.nils],Ob.var 56 [AV.sl 1 (List.map A0 (y1.1.pc)),AV.sl 1 (List.map Ad (y1.1.regs)),AV.sl 1 (List.map A0 (y1.1.mem)),AV.sl 1 (List.map Ae (y1.1.buf))],Ob.var 37 [AV.row 4 (List.length s28),AV.nils,AV.nils,AV.nils,AV.row 5 (List.length s29),AV.row 6 (List.length s30)],Ob.row 56 4 (List.map Df s28),Ob.row 3 1 (List.map A0 s29),Ob.row 3 1 (List.map A0 s30),Ob.row 65 3 (List.map Dt s31)]) (fun(x63,x64,x65,x66) a62=>Ba 164 [(1,iA An),(2,iA Ca),(3,iA Cu),(4,AV.ptr 0 0),(8,AV.ptr 1 0),(12,AV.ptr 3 0),(13,AV.row 7 (List.length x66)),(14,iA s10)]) (fun(x63,x64,x65,x66) a62=>[Ob.var 25 [iA (Al.mod),AV.sl 1 (List.map A0 (Al.init)),AV.sl 1 (List.map A0 (Al.regs)),AV.sl 1 (List.map Aa (Al.code))],Ob.var 37 [AV.nils,AV.nils,AV.nils,AV.nils,AV.nils,AV.nils],Ob.var 56 [AV.sl 1 (List.map A0 (y1.1.pc)),AV.sl 1 (List.map Ad (y1.1.regs)),AV.sl 1 (List.map A0 (y1.1.mem)),AV.sl 1 (List.map Ae (y1.1.buf))],Ob.var 37 [AV.row 4 (List.length x63),AV.nils,AV.nils,AV.nils,AV.row 5 (List.length x64),AV.row 6 (List.length x65)],Ob.row 56 4 (List.map Df x63),Ob.row 3 1 (List.map A0 x64),Ob.row 3 1 (List.map A0 x65),Ob.row 65 3 (List.map Dt x66)]) (fun v=>(AV.tup [AV.agg [AV.sl 4 (List.map Df v.1.Da),AV.sl 1 (List.map A0 v.1.Mx.Im),AV.sl 1 (List.map A0 v.1.Mx.E8),AV.sl 1 (List.map A0 v.1.Mx.Hh),AV.sl 1 (List.map A0 v.1.Nq),AV.sl 1 (List.map A0 v.1.A1t)],iA v.2],[])) (fun k s=>F5 n Al An Ca Cu s10 y25 k s.1 s.2.1 s.2.2.1 s.2.2.2.1 s.2.2.2.2) (fun s=>rfl) o39 n (0,s11,s12,s13,s14) (fun _=>0) ho39 ?_ ?_
 intro k32 ss a33 K34 cont35 hK36 hcont37 h hr38
 obtain⟨s27,s28,s29,s30,s31⟩:=ss
 replace h:F5 n Al An Ca Cu s10 y25 (k32+1) s27 s28 s29 s30 s31=some o39:=h
 rw[F5] at h
 conv=>lhs;whnf
 revert h
 refine br ?_ ?_
 refine ix ?_;intro x41
 refine ix ?_;intro x42
 refine ca hc (fun _ h=>A4j h) ?_;intro y43
 refine cr hc (fun y45 h=>(show CN n 18 [AV.agg [AV.sl 4 (List.map Df s28),AV.sl 1 [],AV.sl 1 [],AV.sl 1 [],AV.sl 1 (List.map A0 s29),AV.sl 1 (List.map A0 s30)],AV.agg [AV.sl 1 (List.map A0 (y43.1.pc)),AV.sl 1 (List.map Ad (y43.1.regs)),AV.sl 1 (List.map A0 (y43.1.mem)),AV.sl 1 (List.map Ae (y43.1.buf))]] []=some (iA y45,[]) from A3l (r:=y45) h)) ?_;intro y45
 refine br ?_ ?_
 refine br ?_ ?_
 intro h;cases sj h
 refine(hK36 _ _).trans ?_
 conv=>lhs;whnf
 refine(hK19 _ _).trans ?_
 refine Eq.trans ?_ (Eq.symm (show _=some _ from hr38))
 conv=>lhs;whnf
 exact rq
 refine ar (ap Df (List.map Df s28) s28 ([[AV.sl 1 (List.map A0 (y43.1.pc)),AV.sl 1 (List.map Ad (y43.1.regs)),AV.sl 1 (List.map A0 (y43.1.mem)),AV.sl 1 (List.map Ae (y43.1.buf))]]) ([y43.1]:List A8)) ?_
 refine ar (ap A0 (List.map A0 s29) s29 ([[iA s10]]) ([s10]:List Int)) ?_
 refine ix ?_;intro x53
 refine ar (ap A0 (List.map A0 s30) s30 ([[iA x53]]) ([x53]:List Int)) ?_
 refine ix ?_;intro x56
 refine ar (ap Dt (List.map Dt s31) s31 ([[iA s10,iA x56,iA (((s28.length:Nat):Int))]]) ([(⟨s10,x56,((s28.length:Nat):Int)⟩:Bf)]:List Bf)) ?_
 exact fun h=>cq (hcont37 (IntKind.i64.wrap (s27+1),(s28++([y43.1]:List A8)),(s29++([s10]:List Int)),(s30++([x53]:List Int)),(s31++([(⟨s10,x56,((s28.length:Nat):Int)⟩:Bf)]:List Bf))) (fun _=>0) h)
 refine ix ?_;intro x59
 refine ar (ap Dt (List.map Dt s31) s31 ([[iA s10,iA x59,iA y45]]) ([(⟨s10,x59,y45⟩:Bf)]:List Bf)) ?_
 exact fun h=>cq (hcont37 (IntKind.i64.wrap (s27+1),s28,s29,s30,(s31++([(⟨s10,x59,y45⟩:Bf)]:List Bf))) (fun _=>0) h)
 intro h;cases sj h
 exact kq (hr38 (fun _=>0))
 refine lrc ?_ ?_
 intro v e;subst e;cases sj h;exact hr21
 intro t a62 e;subst e
 obtain⟨x63,x64,x65,x66⟩:=t
 dsimp only at h
 conv=>lhs;whnf
 revert h
 exact fun h=>cq (hcont20 (IntKind.i64.wrap (s10+1),x63,x64,x65,x66) (fun _=>0) h)
 intro h;cases sj h
 exact kq (hr21 (fun _=>0))
 refine lrc ?_ ?_
 intro v e;subst e;cases sj h;rfl
 intro t a68 e;subst e
 obtain⟨x69,x70,x71,x72⟩:=t
 dsimp only at h
 conv=>lhs;whnf
 revert h
 refine cr hc (fun _ h=>A1s h) ?_;intro y73
 intro h;cases sj h
 try simp only[ls]
 exact fq (y:=some (AV.tup [AV.agg [AV.sl 4 (List.take (List.length x69) (List.map Df x69)),AV.sl 1 (List.map A0 y73.1.Im),AV.sl 1 (List.map A0 y73.1.E8),AV.sl 1 (List.map A0 y73.1.Hh),AV.sl 1 (List.take (List.length x70) (List.map A0 x70)),AV.sl 1 (List.take (List.length x71) (List.map A0 x71))],iA (0)],[]))
theorem Tr {n:Nat} ⦃Az:Jp⦄ ⦃r:Bool⦄:Hc n Az=some r→CN n 3 [AV.agg [iA (Az.Sv.mod),AV.sl 1 (List.map A0 (Az.Sv.init)),AV.sl 1 (List.map A0 (Az.Sv.regs)),AV.sl 1 (List.map Aa (Az.Sv.code)),iA Az.Sw,iA Az.W1,iA Az.Lo]] []=some (bA r,[]):=by
 intro h;rcases n with _|n;cases h
 rw[Hc] at h
 refine B0 Try.func3 (by rfl) rfl rfl (Bi rfl) ?_
 intro call hc;conv=>lhs;whnf
 revert h
 refine ca hc (fun _ h=>A0h h) ?_;intro y1
 refine br ?_ ?_
 refine br ?_ ?_
 refine ca hc (fun _ h=>Ie h) ?_;intro y5
 exact rz
 refine ca hc (fun _ h=>A1p h) ?_;intro y7
 refine ca hc (fun _ h=>A4b h) ?_;intro y9
 refine br ?_ ?_
 refine br ?_ ?_
 refine br ?_ ?_
 refine ca hc (fun _ h=>Ie h) ?_;intro y14
 exact rz
 exact rz
 exact rz
 refine br ?_ ?_
 refine ca hc (fun _ h=>Ie h) ?_;intro y17
 exact rz
 refine br ?_ ?_
 refine ca hc (fun _ h=>Ie h) ?_;intro y20
 exact rz
 exact rz
 refine ca hc (fun _ h=>Ie h) ?_;intro y22
 exact rz
end Go.Proofs.Ytpknphnaegfghaa
end
