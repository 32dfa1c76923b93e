/- Parts of the proofs: what they lean on. Conditions: none. -/
import Derived.Test.YtpknphnaegfghaaBneS14
section
namespace Go.Proofs.Ytpknphnaegfghaa
open Go.RowKit
set_option linter.unusedVariables false
set_option linter.unusedSimpArgs false
set_option maxRecDepth 100000
set_option maxHeartbeats 8000000
def Ago:Option Code→Code
 | some (.seq _ (.seq _ c))=>c
 | _=>.skip
noncomputable def Av (call:B1) (u:Ac) (c:A8) (m r:Int) (t:Nat) (hp:Hp):Option (AV×Hp):=Lk Try.prog HH call 26 1000 9 (Ago (Try.f26).body) ((((((((List.replicate 214 AV.junk).set 5 (.ptr 0 0)).set 6 (.ptr 1 0)).set 10 (.ptr 2 0)).set 12 (.ptr 8 0)).set 2 (.int .i64 m)).set 3 (.int .i64 r)).set 4 (.int .i64 (t:Int))) hp (fun e tm hp'=>match e with | .exit _=>none | _=>To Try.prog Try.f26 tm hp' fun v=>some (v,hp'))
abbrev Au (u:Ac) (c:A8) (R:List AV) (PC BF:List AV) (o5 o6:Ob) (RH D:List AV):Hp:=[.var 25 (M9 u),.var 56 (Df c),.var 56 R,.var 1000001 PC,.var 1000001 BF,o5,o6,.var 1000001 RH,.var 56 D]
abbrev Bg:List AV:=[.nils,.nils,.nils,.nils]
abbrev B4:Ob:=.row 3 1 []
theorem K8 {l:List AV} {k:Nat} (h:k < l.length) (L:List AV):l.length≤(B6 l k L).length:=by
 unfold B6
 simp only[List.length_append,List.length_take,List.length_drop]
 omega
abbrev D2 (x:Aj):Ob:=.var 44 [.int .i64 x.op,.int .i64 x.reg,.int .i64 x.loc,.sl 3 (x.e.map Bh),.sl 3 (x.f.map Bh),.bool x.ne,.int .i64 x.goal]
theorem Ab6 (u:Ac) (c:A8) (m r:Int) (t:Nat) (n cp cr cb cm ct rn mn:Nat) (PC BF ME RO RH:List AV) (ms:List (List AV)) (call:B1)
 (h1:call false 35 [.agg [.int .i64 u.mod,.sl 1 (u.init.map A0),.sl 1 (u.regs.map A0),.sl 1 (u.code.map Aa)],.agg [.sl 1 (c.pc.map A0),.sl 1 (c.regs.map Ad),.sl 1 (c.mem.map A0),.sl 1 (c.buf.map Ae)],.int .i64 m,.int .i64 r,.int .i64 (t:Int)] []=some (.bool false,[]))
  :
 Av call u c m r t (Au u c Bg PC BF (.var 1000001 ME) (.var 1000001 RO) RH [.vsl 3 0 n cp,.vsl 7 0 n cr,.vsl 5 0 mn cm,.vsl 4 0 n cb])=some (.tup [.agg [.vsl 3 0 n cp,.vsl 7 0 n cr,.vsl 5 0 mn cm,.vsl 4 0 n cb],.bool false],Au u c [.vsl 3 0 n cp,.vsl 7 0 n cr,.vsl 5 0 mn cm,.vsl 4 0 n cb] PC BF (.var 1000001 ME) (.var 1000001 RO) RH [.vsl 3 0 n cp,.vsl 7 0 n cr,.vsl 5 0 mn cm,.vsl 4 0 n cb]):=by
 have hc1:Program.cellsOf Try.prog 3=1:=by kernel_rfl
 have hc2:Program.cellsOf Try.prog 22=1:=by kernel_rfl
 have hc3:Program.cellsOf Try.prog 79=1:=by kernel_rfl
 unfold Av
 conv=>lhs;whnf
 repeat (first | (refine At (by(first | (with_reducible assumption) | omega | (simp only[A6,Bool.or_eq_true,Bool.not_eq_true',Bool.and_eq_false_imp,Bool.or_eq_false_iff,A9,decide_eq_false_iff_not,beq_iff_eq,bne_iff_ne,beq_eq_false_iff_ne,bne_eq_false_iff_eq,ne_eq,A4,List.length_replicate,List.length_append,List.length_cons,List.length_nil,List.length_take,Int.toNat_natCast];omega) | (with_reducible rfl))) ?_;conv=>lhs;whnf) | (refine Bv (by(first | (with_reducible assumption) | omega | (simp only[A6,Bool.or_eq_true,Bool.not_eq_true',Bool.and_eq_false_imp,Bool.or_eq_false_iff,A9,decide_eq_false_iff_not,beq_iff_eq,bne_iff_ne,beq_eq_false_iff_ne,bne_eq_false_iff_eq,ne_eq,A4,List.length_replicate,List.length_append,List.length_cons,List.length_nil,List.length_take,Int.toNat_natCast];omega) | (with_reducible rfl))) ?_;conv=>lhs;whnf) | (simp only[h1,hc1,hc2,hc3];conv=>lhs;whnf))
 rfl
theorem A8b (u:Ac) (c:A8) (m r:Int) (t:Nat) (n cp cr cb cm ct rn mn:Nat) (PC BF ME RO RH:List AV) (ms:List (List AV)) (call:B1) (code:List Aj) (x:Aj) (p:Nat) (e:Int)
 (h1:call false 35 [.agg [.int .i64 u.mod,.sl 1 (u.init.map A0),.sl 1 (u.regs.map A0),.sl 1 (u.code.map Aa)],.agg [.sl 1 (c.pc.map A0),.sl 1 (c.regs.map Ad),.sl 1 (c.mem.map A0),.sl 1 (c.buf.map Ae)],.int .i64 m,.int .i64 r,.int .i64 (t:Int)] []=some (.bool true,[]))
 (h2:call false 37 [.agg [.int .i64 u.mod,.sl 1 (u.init.map A0),.sl 1 (u.regs.map A0),.sl 1 (u.code.map Aa)],.agg [.sl 1 (c.pc.map A0),.sl 1 (c.regs.map Ad),.sl 1 (c.mem.map A0),.sl 1 (c.buf.map Ae)],.int .i64 (t:Int),.sl 3 (x.e.map Bh)] []=some (.int .i64 e,[]))
 (gc:nth? (u.code.map Aa) ((t:Int)).toNat=some (Aa code)) (gp:nth? (c.pc.map A0) ((t:Int)).toNat=some [.int .i64 (p:Int)]) (gx:nth? (code.map Bd) ((p:Int)).toNat=some (Bd x))
 (b1:t < u.code.length) (b2:t < c.pc.length) (b3:p < code.length) (b4:t < n) (lp:PC.length=n) (ew:IntKind.i64.wrap ((p:Int)+1)=((p+1:Nat):Int))
 (n20:¬ x.op=20) (n21:¬ x.op=21) (n2:¬ x.op=2) (n3:¬ x.op=3) (n4:¬ x.op=4) (n5:¬ x.op=5) (n6:¬ x.op=6) (n7:¬ x.op=7) :
 Av call u c m r t (Au u c Bg PC BF (.var 1000001 ME) (.var 1000001 RO) RH [.vsl 3 0 n cp,.vsl 7 0 n cr,.vsl 5 0 mn cm,.vsl 4 0 n cb])=some (.tup [.agg [.vsl 3 0 n cp,.vsl 7 0 n cr,.vsl 5 0 mn cm,.vsl 4 0 n cb],.bool true],Au u c [.vsl 3 0 n cp,.vsl 7 0 n cr,.vsl 5 0 mn cm,.vsl 4 0 n cb] (B6 PC (0+((t:Int)).toNat) [.int .i64 ((p+1:Nat):Int)]) BF (.var 1000001 ME) (.var 1000001 RO) RH [.vsl 3 0 n cp,.vsl 7 0 n cr,.vsl 5 0 mn cm,.vsl 4 0 n cb]++[D2 x]):=by
 have hc1:Program.cellsOf Try.prog 3=1:=by kernel_rfl
 have hc2:Program.cellsOf Try.prog 22=1:=by kernel_rfl
 have hc3:Program.cellsOf Try.prog 79=1:=by kernel_rfl
 unfold Av
 conv=>lhs;whnf
 repeat (first | (refine At (by(first | (with_reducible assumption) | omega | (simp only[A6,Bool.or_eq_true,Bool.not_eq_true',Bool.and_eq_false_imp,Bool.or_eq_false_iff,A9,decide_eq_false_iff_not,beq_iff_eq,bne_iff_ne,beq_eq_false_iff_ne,bne_eq_false_iff_eq,ne_eq,A4,List.length_replicate,List.length_append,List.length_cons,List.length_nil,List.length_take,Int.toNat_natCast];omega) | (with_reducible rfl))) ?_;conv=>lhs;whnf) | (refine Bv (by(first | (with_reducible assumption) | omega | (simp only[A6,Bool.or_eq_true,Bool.not_eq_true',Bool.and_eq_false_imp,Bool.or_eq_false_iff,A9,decide_eq_false_iff_not,beq_iff_eq,bne_iff_ne,beq_eq_false_iff_ne,bne_eq_false_iff_eq,ne_eq,A4,List.length_replicate,List.length_append,List.length_cons,List.length_nil,List.length_take,Int.toNat_natCast];omega) | (with_reducible rfl))) ?_;conv=>lhs;whnf) | (simp only[h1,h2,gc,gp,gx,ew,hc1,hc2,hc3];conv=>lhs;whnf))
 rfl
theorem A7c (u:Ac) (c:A8) (m r:Int) (t:Nat) (n cp cr cb cm ct rn mn:Nat) (PC BF ME RO RH:List AV) (ms:List (List AV)) (call:B1) (code:List Aj) (x:Aj) (p:Nat) (e:Int)
 (h1:call false 35 [.agg [.int .i64 u.mod,.sl 1 (u.init.map A0),.sl 1 (u.regs.map A0),.sl 1 (u.code.map Aa)],.agg [.sl 1 (c.pc.map A0),.sl 1 (c.regs.map Ad),.sl 1 (c.mem.map A0),.sl 1 (c.buf.map Ae)],.int .i64 m,.int .i64 r,.int .i64 (t:Int)] []=some (.bool true,[]))
 (h2:call false 37 [.agg [.int .i64 u.mod,.sl 1 (u.init.map A0),.sl 1 (u.regs.map A0),.sl 1 (u.code.map Aa)],.agg [.sl 1 (c.pc.map A0),.sl 1 (c.regs.map Ad),.sl 1 (c.mem.map A0),.sl 1 (c.buf.map Ae)],.int .i64 (t:Int),.sl 3 (x.e.map Bh)] []=some (.int .i64 e,[]))
 (gc:nth? (u.code.map Aa) ((t:Int)).toNat=some (Aa code)) (gp:nth? (c.pc.map A0) ((t:Int)).toNat=some [.int .i64 (p:Int)]) (gx:nth? (code.map Bd) ((p:Int)).toNat=some (Bd x))
 (b1:t < u.code.length) (b2:t < c.pc.length) (b3:p < code.length) (b4:t < n) (lp:PC.length=n) (ew:IntKind.i64.wrap ((p:Int)+1)=((p+1:Nat):Int))
 (hx:x.op=20) :
 Av call u c m r t (Au u c Bg PC BF (.var 1000001 ME) (.var 1000001 RO) RH [.vsl 3 0 n cp,.vsl 7 0 n cr,.vsl 5 0 mn cm,.vsl 4 0 n cb])=some (.tup [.agg [.vsl 3 0 n cp,.vsl 7 0 n cr,.vsl 5 0 mn cm,.vsl 4 0 n cb],.bool true],Au u c [.vsl 3 0 n cp,.vsl 7 0 n cr,.vsl 5 0 mn cm,.vsl 4 0 n cb] (B6 (B6 PC (0+((t:Int)).toNat) [.int .i64 ((p+1:Nat):Int)]) (0+((t:Int)).toNat) [.int .i64 x.goal]) BF (.var 1000001 ME) (.var 1000001 RO) RH [.vsl 3 0 n cp,.vsl 7 0 n cr,.vsl 5 0 mn cm,.vsl 4 0 n cb]++[D2 x]):=by
 have hc1:Program.cellsOf Try.prog 3=1:=by kernel_rfl
 have hc2:Program.cellsOf Try.prog 22=1:=by kernel_rfl
 have hc3:Program.cellsOf Try.prog 79=1:=by kernel_rfl
 have lq:∀ L:List AV,decide (0+((t:Int)).toNat+1≤(B6 PC (0+((t:Int)).toNat) L).length)=true:=fun L=>decide_eq_true (by
  have:=K8 (l:=PC) (k:=0+((t:Int)).toNat) (by rw[lp,Int.toNat_natCast];omega) L
  rw[Int.toNat_natCast] at this ⊢
  omega)
 unfold Av
 conv=>lhs;whnf
 repeat (first | (refine At (by(first | (with_reducible assumption) | omega | (simp only[A6,Bool.or_eq_true,Bool.not_eq_true',Bool.and_eq_false_imp,Bool.or_eq_false_iff,A9,decide_eq_false_iff_not,beq_iff_eq,bne_iff_ne,beq_eq_false_iff_ne,bne_eq_false_iff_eq,ne_eq,A4,List.length_replicate,List.length_append,List.length_cons,List.length_nil,List.length_take,Int.toNat_natCast];omega) | (with_reducible rfl))) ?_;conv=>lhs;whnf) | (refine Bv (by(first | (with_reducible assumption) | omega | (simp only[A6,Bool.or_eq_true,Bool.not_eq_true',Bool.and_eq_false_imp,Bool.or_eq_false_iff,A9,decide_eq_false_iff_not,beq_iff_eq,bne_iff_ne,beq_eq_false_iff_ne,bne_eq_false_iff_eq,ne_eq,A4,List.length_replicate,List.length_append,List.length_cons,List.length_nil,List.length_take,Int.toNat_natCast];omega) | (with_reducible rfl))) ?_;conv=>lhs;whnf) | (simp only[h1,h2,gc,gp,gx,ew,hc1,hc2,hc3,lq];conv=>lhs;whnf))
 rfl
theorem Acr (u:Ac) (c:A8) (m r:Int) (t:Nat) (n cp cr cb cm ct rn mn:Nat) (PC BF ME RO RH:List AV) (ms:List (List AV)) (call:B1) (code:List Aj) (x:Aj) (p:Nat) (e:Int)
 (h1:call false 35 [.agg [.int .i64 u.mod,.sl 1 (u.init.map A0),.sl 1 (u.regs.map A0),.sl 1 (u.code.map Aa)],.agg [.sl 1 (c.pc.map A0),.sl 1 (c.regs.map Ad),.sl 1 (c.mem.map A0),.sl 1 (c.buf.map Ae)],.int .i64 m,.int .i64 r,.int .i64 (t:Int)] []=some (.bool true,[]))
 (h2:call false 37 [.agg [.int .i64 u.mod,.sl 1 (u.init.map A0),.sl 1 (u.regs.map A0),.sl 1 (u.code.map Aa)],.agg [.sl 1 (c.pc.map A0),.sl 1 (c.regs.map Ad),.sl 1 (c.mem.map A0),.sl 1 (c.buf.map Ae)],.int .i64 (t:Int),.sl 3 (x.e.map Bh)] []=some (.int .i64 e,[]))
 (gc:nth? (u.code.map Aa) ((t:Int)).toNat=some (Aa code)) (gp:nth? (c.pc.map A0) ((t:Int)).toNat=some [.int .i64 (p:Int)]) (gx:nth? (code.map Bd) ((p:Int)).toNat=some (Bd x))
 (b1:t < u.code.length) (b2:t < c.pc.length) (b3:p < code.length) (b4:t < n) (lp:PC.length=n) (ew:IntKind.i64.wrap ((p:Int)+1)=((p+1:Nat):Int))
 (hx:x.op=21) (he:e=0) :
 Av call u c m r t (Au u c Bg PC BF (.var 1000001 ME) (.var 1000001 RO) RH [.vsl 3 0 n cp,.vsl 7 0 n cr,.vsl 5 0 mn cm,.vsl 4 0 n cb])=some (.tup [.agg [.vsl 3 0 n cp,.vsl 7 0 n cr,.vsl 5 0 mn cm,.vsl 4 0 n cb],.bool true],Au u c [.vsl 3 0 n cp,.vsl 7 0 n cr,.vsl 5 0 mn cm,.vsl 4 0 n cb] (B6 (B6 PC (0+((t:Int)).toNat) [.int .i64 ((p+1:Nat):Int)]) (0+((t:Int)).toNat) [.int .i64 x.goal]) BF (.var 1000001 ME) (.var 1000001 RO) RH [.vsl 3 0 n cp,.vsl 7 0 n cr,.vsl 5 0 mn cm,.vsl 4 0 n cb]++[D2 x]):=by
 have hc1:Program.cellsOf Try.prog 3=1:=by kernel_rfl
 have hc2:Program.cellsOf Try.prog 22=1:=by kernel_rfl
 have hc3:Program.cellsOf Try.prog 79=1:=by kernel_rfl
 have lq:∀ L:List AV,decide (0+((t:Int)).toNat+1≤(B6 PC (0+((t:Int)).toNat) L).length)=true:=fun L=>decide_eq_true (by
  have:=K8 (l:=PC) (k:=0+((t:Int)).toNat) (by rw[lp,Int.toNat_natCast];omega) L
  rw[Int.toNat_natCast] at this ⊢
  omega)
 unfold Av
 conv=>lhs;whnf
 repeat (first | (refine At (by(first | (with_reducible assumption) | omega | (simp only[A6,Bool.or_eq_true,Bool.not_eq_true',Bool.and_eq_false_imp,Bool.or_eq_false_iff,A9,decide_eq_false_iff_not,beq_iff_eq,bne_iff_ne,beq_eq_false_iff_ne,bne_eq_false_iff_eq,ne_eq,A4,List.length_replicate,List.length_append,List.length_cons,List.length_nil,List.length_take,Int.toNat_natCast];omega) | (with_reducible rfl))) ?_;conv=>lhs;whnf) | (refine Bv (by(first | (with_reducible assumption) | omega | (simp only[A6,Bool.or_eq_true,Bool.not_eq_true',Bool.and_eq_false_imp,Bool.or_eq_false_iff,A9,decide_eq_false_iff_not,beq_iff_eq,bne_iff_ne,beq_eq_false_iff_ne,bne_eq_false_iff_eq,ne_eq,A4,List.length_replicate,List.length_append,List.length_cons,List.length_nil,List.length_take,Int.toNat_natCast];omega) | (with_reducible rfl))) ?_;conv=>lhs;whnf) | (simp only[h1,h2,gc,gp,gx,ew,hc1,hc2,hc3,lq];conv=>lhs;whnf))
 rfl
theorem Aan (u:Ac) (c:A8) (m r:Int) (t:Nat) (n cp cr cb cm ct rn mn:Nat) (PC BF ME RO RH:List AV) (ms:List (List AV)) (call:B1) (code:List Aj) (x:Aj) (p:Nat) (e:Int)
 (h1:call false 35 [.agg [.int .i64 u.mod,.sl 1 (u.init.map A0),.sl 1 (u.regs.map A0),.sl 1 (u.code.map Aa)],.agg [.sl 1 (c.pc.map A0),.sl 1 (c.regs.map Ad),.sl 1 (c.mem.map A0),.sl 1 (c.buf.map Ae)],.int .i64 m,.int .i64 r,.int .i64 (t:Int)] []=some (.bool true,[]))
 (h2:call false 37 [.agg [.int .i64 u.mod,.sl 1 (u.init.map A0),.sl 1 (u.regs.map A0),.sl 1 (u.code.map Aa)],.agg [.sl 1 (c.pc.map A0),.sl 1 (c.regs.map Ad),.sl 1 (c.mem.map A0),.sl 1 (c.buf.map Ae)],.int .i64 (t:Int),.sl 3 (x.e.map Bh)] []=some (.int .i64 e,[]))
 (gc:nth? (u.code.map Aa) ((t:Int)).toNat=some (Aa code)) (gp:nth? (c.pc.map A0) ((t:Int)).toNat=some [.int .i64 (p:Int)]) (gx:nth? (code.map Bd) ((p:Int)).toNat=some (Bd x))
 (b1:t < u.code.length) (b2:t < c.pc.length) (b3:p < code.length) (b4:t < n) (lp:PC.length=n) (ew:IntKind.i64.wrap ((p:Int)+1)=((p+1:Nat):Int))
 (hx:x.op=21) (he:¬ e=0) :
 Av call u c m r t (Au u c Bg PC BF (.var 1000001 ME) (.var 1000001 RO) RH [.vsl 3 0 n cp,.vsl 7 0 n cr,.vsl 5 0 mn cm,.vsl 4 0 n cb])=some (.tup [.agg [.vsl 3 0 n cp,.vsl 7 0 n cr,.vsl 5 0 mn cm,.vsl 4 0 n cb],.bool true],Au u c [.vsl 3 0 n cp,.vsl 7 0 n cr,.vsl 5 0 mn cm,.vsl 4 0 n cb] (B6 PC (0+((t:Int)).toNat) [.int .i64 ((p+1:Nat):Int)]) BF (.var 1000001 ME) (.var 1000001 RO) RH [.vsl 3 0 n cp,.vsl 7 0 n cr,.vsl 5 0 mn cm,.vsl 4 0 n cb]++[D2 x]):=by
 have hc1:Program.cellsOf Try.prog 3=1:=by kernel_rfl
 have hc2:Program.cellsOf Try.prog 22=1:=by kernel_rfl
 have hc3:Program.cellsOf Try.prog 79=1:=by kernel_rfl
 unfold Av
 conv=>lhs;whnf
 repeat (first | (refine At (by(first | (with_reducible assumption) | omega | (simp only[A6,Bool.or_eq_true,Bool.not_eq_true',Bool.and_eq_false_imp,Bool.or_eq_false_iff,A9,decide_eq_false_iff_not,beq_iff_eq,bne_iff_ne,beq_eq_false_iff_ne,bne_eq_false_iff_eq,ne_eq,A4,List.length_replicate,List.length_append,List.length_cons,List.length_nil,List.length_take,Int.toNat_natCast];omega) | (with_reducible rfl))) ?_;conv=>lhs;whnf) | (refine Bv (by(first | (with_reducible assumption) | omega | (simp only[A6,Bool.or_eq_true,Bool.not_eq_true',Bool.and_eq_false_imp,Bool.or_eq_false_iff,A9,decide_eq_false_iff_not,beq_iff_eq,bne_iff_ne,beq_eq_false_iff_ne,bne_eq_false_iff_eq,ne_eq,A4,List.length_replicate,List.length_append,List.length_cons,List.length_nil,List.length_take,Int.toNat_natCast];omega) | (with_reducible rfl))) ?_;conv=>lhs;whnf) | (simp only[h1,h2,gc,gp,gx,ew,hc1,hc2,hc3];conv=>lhs;whnf))
 rfl
theorem A7o (u:Ac) (c:A8) (m r:Int) (t:Nat) (n cp cr cb cm ct rn mn:Nat) (PC BF ME RO RH:List AV) (ms:List (List AV)) (call:B1) (code:List Aj) (x:Aj) (p:Nat) (e:Int)
 (h1:call false 35 [.agg [.int .i64 u.mod,.sl 1 (u.init.map A0),.sl 1 (u.regs.map A0),.sl 1 (u.code.map Aa)],.agg [.sl 1 (c.pc.map A0),.sl 1 (c.regs.map Ad),.sl 1 (c.mem.map A0),.sl 1 (c.buf.map Ae)],.int .i64 m,.int .i64 r,.int .i64 (t:Int)] []=some (.bool true,[]))
 (h2:call false 37 [.agg [.int .i64 u.mod,.sl 1 (u.init.map A0),.sl 1 (u.regs.map A0),.sl 1 (u.code.map Aa)],.agg [.sl 1 (c.pc.map A0),.sl 1 (c.regs.map Ad),.sl 1 (c.mem.map A0),.sl 1 (c.buf.map Ae)],.int .i64 (t:Int),.sl 3 (x.e.map Bh)] []=some (.int .i64 e,[]))
 (gc:nth? (u.code.map Aa) ((t:Int)).toNat=some (Aa code)) (gp:nth? (c.pc.map A0) ((t:Int)).toNat=some [.int .i64 (p:Int)]) (gx:nth? (code.map Bd) ((p:Int)).toNat=some (Bd x))
 (b1:t < u.code.length) (b2:t < c.pc.length) (b3:p < code.length) (b4:t < n) (lp:PC.length=n) (ew:IntKind.i64.wrap ((p:Int)+1)=((p+1:Nat):Int))
 (hx:x.op=4) (hm:¬ m=1) (bt b2:List A2) (gb:nth? (c.buf.map Ae) ((t:Int)).toNat=some [.sl 2 (bt.map Ak)]) (b5:t < c.buf.length) (lb:BF.length=n) (h3:call false 39 [.sl 2 (bt.map Ak),.int .i64 m,.agg [.int .i64 x.loc,.int .i64 e]] []=some (.sl 2 (b2.map Ak),[])) :
 Av call u c m r t (Au u c Bg PC BF (.var 1000001 ME) (.var 1000001 RO) RH [.vsl 3 0 n cp,.vsl 7 0 n cr,.vsl 5 0 mn cm,.vsl 4 0 n cb])=some (.tup [.agg [.vsl 3 0 n cp,.vsl 7 0 n cr,.vsl 5 0 mn cm,.vsl 4 0 n cb],.bool true],Au u c [.vsl 3 0 n cp,.vsl 7 0 n cr,.vsl 5 0 mn cm,.vsl 4 0 n cb] (B6 PC (0+((t:Int)).toNat) [.int .i64 ((p+1:Nat):Int)]) (B6 BF (0+((t:Int)).toNat) [.sl 2 (b2.map Ak)]) (.var 1000001 ME) (.var 1000001 RO) RH [.vsl 3 0 n cp,.vsl 7 0 n cr,.vsl 5 0 mn cm,.vsl 4 0 n cb]++[D2 x]):=by
 have hc1:Program.cellsOf Try.prog 3=1:=by kernel_rfl
 have hc2:Program.cellsOf Try.prog 22=1:=by kernel_rfl
 have hc3:Program.cellsOf Try.prog 79=1:=by kernel_rfl
 unfold Av
 conv=>lhs;whnf
 repeat (first | (refine At (by(first | (with_reducible assumption) | omega | (simp only[A6,Bool.or_eq_true,Bool.not_eq_true',Bool.and_eq_false_imp,Bool.or_eq_false_iff,A9,decide_eq_false_iff_not,beq_iff_eq,bne_iff_ne,beq_eq_false_iff_ne,bne_eq_false_iff_eq,ne_eq,A4,List.length_replicate,List.length_append,List.length_cons,List.length_nil,List.length_take,Int.toNat_natCast];omega) | (with_reducible rfl))) ?_;conv=>lhs;whnf) | (refine Bv (by(first | (with_reducible assumption) | omega | (simp only[A6,Bool.or_eq_true,Bool.not_eq_true',Bool.and_eq_false_imp,Bool.or_eq_false_iff,A9,decide_eq_false_iff_not,beq_iff_eq,bne_iff_ne,beq_eq_false_iff_ne,bne_eq_false_iff_eq,ne_eq,A4,List.length_replicate,List.length_append,List.length_cons,List.length_nil,List.length_take,Int.toNat_natCast];omega) | (with_reducible rfl))) ?_;conv=>lhs;whnf) | (simp only[h1,h2,gc,gp,gx,ew,hc1,hc2,hc3,h3,gb];conv=>lhs;whnf))
 rfl
theorem Abe (u:Ac) (c:A8) (m r:Int) (t:Nat) (n cp cr cb cm ct rn mn:Nat) (PC BF ME RO RH:List AV) (ms:List (List AV)) (call:B1) (code:List Aj) (x:Aj) (p:Nat) (e:Int)
 (h1:call false 35 [.agg [.int .i64 u.mod,.sl 1 (u.init.map A0),.sl 1 (u.regs.map A0),.sl 1 (u.code.map Aa)],.agg [.sl 1 (c.pc.map A0),.sl 1 (c.regs.map Ad),.sl 1 (c.mem.map A0),.sl 1 (c.buf.map Ae)],.int .i64 m,.int .i64 r,.int .i64 (t:Int)] []=some (.bool true,[]))
 (h2:call false 37 [.agg [.int .i64 u.mod,.sl 1 (u.init.map A0),.sl 1 (u.regs.map A0),.sl 1 (u.code.map Aa)],.agg [.sl 1 (c.pc.map A0),.sl 1 (c.regs.map Ad),.sl 1 (c.mem.map A0),.sl 1 (c.buf.map Ae)],.int .i64 (t:Int),.sl 3 (x.e.map Bh)] []=some (.int .i64 e,[]))
 (gc:nth? (u.code.map Aa) ((t:Int)).toNat=some (Aa code)) (gp:nth? (c.pc.map A0) ((t:Int)).toNat=some [.int .i64 (p:Int)]) (gx:nth? (code.map Bd) ((p:Int)).toNat=some (Bd x))
 (b1:t < u.code.length) (b2:t < c.pc.length) (b3:p < code.length) (b4:t < n) (lp:PC.length=n) (ew:IntKind.i64.wrap ((p:Int)+1)=((p+1:Nat):Int))
 (hx:x.op=2) (lr:RH.length=n) (gr:List.take 1 (List.drop (0+((t:Int)).toNat) RH)=[.vsl 6 0 rn ct]) (lro:RO.length=rn) (b5:0≤x.reg) (b6:x.reg < rn) :
 Av call u c m r t (Au u c Bg PC BF (.var 1000001 ME) (.var 1000001 RO) RH [.vsl 3 0 n cp,.vsl 7 0 n cr,.vsl 5 0 mn cm,.vsl 4 0 n cb])=some (.tup [.agg [.vsl 3 0 n cp,.vsl 7 0 n cr,.vsl 5 0 mn cm,.vsl 4 0 n cb],.bool true],Au u c [.vsl 3 0 n cp,.vsl 7 0 n cr,.vsl 5 0 mn cm,.vsl 4 0 n cb] (B6 PC (0+((t:Int)).toNat) [.int .i64 ((p+1:Nat):Int)]) BF (.var 1000001 ME) (.var 1000001 (B6 RO (0+x.reg.toNat) [.int .i64 e])) RH [.vsl 3 0 n cp,.vsl 7 0 n cr,.vsl 5 0 mn cm,.vsl 4 0 n cb]++[D2 x]):=by
 have hc1:Program.cellsOf Try.prog 3=1:=by kernel_rfl
 have hc2:Program.cellsOf Try.prog 22=1:=by kernel_rfl
 have hc3:Program.cellsOf Try.prog 79=1:=by kernel_rfl
 unfold Av
 conv=>lhs;whnf
 repeat (first | (refine At (by(first | (with_reducible assumption) | omega | (simp only[A6,Bool.or_eq_true,Bool.not_eq_true',Bool.and_eq_false_imp,Bool.or_eq_false_iff,A9,decide_eq_false_iff_not,beq_iff_eq,bne_iff_ne,beq_eq_false_iff_ne,bne_eq_false_iff_eq,ne_eq,A4,List.length_replicate,List.length_append,List.length_cons,List.length_nil,List.length_take,Int.toNat_natCast];omega) | (with_reducible rfl))) ?_;conv=>lhs;whnf) | (refine Bv (by(first | (with_reducible assumption) | omega | (simp only[A6,Bool.or_eq_true,Bool.not_eq_true',Bool.and_eq_false_imp,Bool.or_eq_false_iff,A9,decide_eq_false_iff_not,beq_iff_eq,bne_iff_ne,beq_eq_false_iff_ne,bne_eq_false_iff_eq,ne_eq,A4,List.length_replicate,List.length_append,List.length_cons,List.length_nil,List.length_take,Int.toNat_natCast];omega) | (with_reducible rfl))) ?_;conv=>lhs;whnf) | (simp only[h1,h2,gc,gp,gx,ew,hc1,hc2,hc3,gr];conv=>lhs;whnf))
 rfl
theorem A83 (u:Ac) (c:A8) (m r:Int) (t:Nat) (n cp cr cb cm ct rn mn:Nat) (PC BF ME RO RH:List AV) (ms:List (List AV)) (call:B1) (code:List Aj) (x:Aj) (p:Nat) (e:Int)
 (h1:call false 35 [.agg [.int .i64 u.mod,.sl 1 (u.init.map A0),.sl 1 (u.regs.map A0),.sl 1 (u.code.map Aa)],.agg [.sl 1 (c.pc.map A0),.sl 1 (c.regs.map Ad),.sl 1 (c.mem.map A0),.sl 1 (c.buf.map Ae)],.int .i64 m,.int .i64 r,.int .i64 (t:Int)] []=some (.bool true,[]))
 (h2:call false 37 [.agg [.int .i64 u.mod,.sl 1 (u.init.map A0),.sl 1 (u.regs.map A0),.sl 1 (u.code.map Aa)],.agg [.sl 1 (c.pc.map A0),.sl 1 (c.regs.map Ad),.sl 1 (c.mem.map A0),.sl 1 (c.buf.map Ae)],.int .i64 (t:Int),.sl 3 (x.e.map Bh)] []=some (.int .i64 e,[]))
 (gc:nth? (u.code.map Aa) ((t:Int)).toNat=some (Aa code)) (gp:nth? (c.pc.map A0) ((t:Int)).toNat=some [.int .i64 (p:Int)]) (gx:nth? (code.map Bd) ((p:Int)).toNat=some (Bd x))
 (b1:t < u.code.length) (b2:t < c.pc.length) (b3:p < code.length) (b4:t < n) (lp:PC.length=n) (ew:IntKind.i64.wrap ((p:Int)+1)=((p+1:Nat):Int))
 (hx:x.op=3) (lr:RH.length=n) (gr:List.take 1 (List.drop (0+((t:Int)).toNat) RH)=[.vsl 6 0 rn ct]) (lro:RO.length=rn) (b5:0≤x.reg) (b6:x.reg < rn) (d:Int) (h3:call false 38 [.agg [.sl 1 (c.pc.map A0),.sl 1 (c.regs.map Ad),.sl 1 (c.mem.map A0),.sl 1 (c.buf.map Ae)],.int .i64 (t:Int),.int .i64 x.loc] []=some (.int .i64 d,[])) :
 Av call u c m r t (Au u c Bg PC BF (.var 1000001 ME) (.var 1000001 RO) RH [.vsl 3 0 n cp,.vsl 7 0 n cr,.vsl 5 0 mn cm,.vsl 4 0 n cb])=some (.tup [.agg [.vsl 3 0 n cp,.vsl 7 0 n cr,.vsl 5 0 mn cm,.vsl 4 0 n cb],.bool true],Au u c [.vsl 3 0 n cp,.vsl 7 0 n cr,.vsl 5 0 mn cm,.vsl 4 0 n cb] (B6 PC (0+((t:Int)).toNat) [.int .i64 ((p+1:Nat):Int)]) BF (.var 1000001 ME) (.var 1000001 (B6 RO (0+x.reg.toNat) [.int .i64 d])) RH [.vsl 3 0 n cp,.vsl 7 0 n cr,.vsl 5 0 mn cm,.vsl 4 0 n cb]++[D2 x]):=by
 have hc1:Program.cellsOf Try.prog 3=1:=by kernel_rfl
 have hc2:Program.cellsOf Try.prog 22=1:=by kernel_rfl
 have hc3:Program.cellsOf Try.prog 79=1:=by kernel_rfl
 unfold Av
 conv=>lhs;whnf
 repeat (first | (refine At (by(first | (with_reducible assumption) | omega | (simp only[A6,Bool.or_eq_true,Bool.not_eq_true',Bool.and_eq_false_imp,Bool.or_eq_false_iff,A9,decide_eq_false_iff_not,beq_iff_eq,bne_iff_ne,beq_eq_false_iff_ne,bne_eq_false_iff_eq,ne_eq,A4,List.length_replicate,List.length_append,List.length_cons,List.length_nil,List.length_take,Int.toNat_natCast];omega) | (with_reducible rfl))) ?_;conv=>lhs;whnf) | (refine Bv (by(first | (with_reducible assumption) | omega | (simp only[A6,Bool.or_eq_true,Bool.not_eq_true',Bool.and_eq_false_imp,Bool.or_eq_false_iff,A9,decide_eq_false_iff_not,beq_iff_eq,bne_iff_ne,beq_eq_false_iff_ne,bne_eq_false_iff_eq,ne_eq,A4,List.length_replicate,List.length_append,List.length_cons,List.length_nil,List.length_take,Int.toNat_natCast];omega) | (with_reducible rfl))) ?_;conv=>lhs;whnf) | (simp only[h1,h2,gc,gp,gx,ew,hc1,hc2,hc3,gr,h3];conv=>lhs;whnf))
 rfl
theorem Acm (u:Ac) (c:A8) (m r:Int) (t:Nat) (n cp cr cb cm ct rn mn:Nat) (PC BF ME RO RH:List AV) (ms:List (List AV)) (call:B1) (code:List Aj) (x:Aj) (p:Nat) (e:Int)
 (h1:call false 35 [.agg [.int .i64 u.mod,.sl 1 (u.init.map A0),.sl 1 (u.regs.map A0),.sl 1 (u.code.map Aa)],.agg [.sl 1 (c.pc.map A0),.sl 1 (c.regs.map Ad),.sl 1 (c.mem.map A0),.sl 1 (c.buf.map Ae)],.int .i64 m,.int .i64 r,.int .i64 (t:Int)] []=some (.bool true,[]))
 (h2:call false 37 [.agg [.int .i64 u.mod,.sl 1 (u.init.map A0),.sl 1 (u.regs.map A0),.sl 1 (u.code.map Aa)],.agg [.sl 1 (c.pc.map A0),.sl 1 (c.regs.map Ad),.sl 1 (c.mem.map A0),.sl 1 (c.buf.map Ae)],.int .i64 (t:Int),.sl 3 (x.e.map Bh)] []=some (.int .i64 e,[]))
 (gc:nth? (u.code.map Aa) ((t:Int)).toNat=some (Aa code)) (gp:nth? (c.pc.map A0) ((t:Int)).toNat=some [.int .i64 (p:Int)]) (gx:nth? (code.map Bd) ((p:Int)).toNat=some (Bd x))
 (b1:t < u.code.length) (b2:t < c.pc.length) (b3:p < code.length) (b4:t < n) (lp:PC.length=n) (ew:IntKind.i64.wrap ((p:Int)+1)=((p+1:Nat):Int))
 (hx:x.op=4) (hm:m=1) (lm:ME.length=mn) (b7:0≤x.loc) (b8:x.loc < mn) :
 Av call u c m r t (Au u c Bg PC BF (.var 1000001 ME) (.var 1000001 RO) RH [.vsl 3 0 n cp,.vsl 7 0 n cr,.vsl 5 0 mn cm,.vsl 4 0 n cb])=some (.tup [.agg [.vsl 3 0 n cp,.vsl 7 0 n cr,.vsl 5 0 mn cm,.vsl 4 0 n cb],.bool true],Au u c [.vsl 3 0 n cp,.vsl 7 0 n cr,.vsl 5 0 mn cm,.vsl 4 0 n cb] (B6 PC (0+((t:Int)).toNat) [.int .i64 ((p+1:Nat):Int)]) BF (.var 1000001 (B6 ME (0+x.loc.toNat) [.int .i64 e])) (.var 1000001 RO) RH [.vsl 3 0 n cp,.vsl 7 0 n cr,.vsl 5 0 mn cm,.vsl 4 0 n cb]++[D2 x]):=by
 have hc1:Program.cellsOf Try.prog 3=1:=by kernel_rfl
 have hc2:Program.cellsOf Try.prog 22=1:=by kernel_rfl
 have hc3:Program.cellsOf Try.prog 79=1:=by kernel_rfl
 unfold Av
 conv=>lhs;whnf
 repeat (first | (refine At (by(first | (with_reducible assumption) | omega | (simp only[A6,Bool.or_eq_true,Bool.not_eq_true',Bool.and_eq_false_imp,Bool.or_eq_false_iff,A9,decide_eq_false_iff_not,beq_iff_eq,bne_iff_ne,beq_eq_false_iff_ne,bne_eq_false_iff_eq,ne_eq,A4,List.length_replicate,List.length_append,List.length_cons,List.length_nil,List.length_take,Int.toNat_natCast];omega) | (with_reducible rfl))) ?_;conv=>lhs;whnf) | (refine Bv (by(first | (with_reducible assumption) | omega | (simp only[A6,Bool.or_eq_true,Bool.not_eq_true',Bool.and_eq_false_imp,Bool.or_eq_false_iff,A9,decide_eq_false_iff_not,beq_iff_eq,bne_iff_ne,beq_eq_false_iff_ne,bne_eq_false_iff_eq,ne_eq,A4,List.length_replicate,List.length_append,List.length_cons,List.length_nil,List.length_take,Int.toNat_natCast];omega) | (with_reducible rfl))) ?_;conv=>lhs;whnf) | (simp only[h1,h2,gc,gp,gx,ew,hc1,hc2,hc3];conv=>lhs;whnf))
 rfl
theorem Abc (u:Ac) (c:A8) (m r:Int) (t:Nat) (n cp cr cb cm ct rn mn:Nat) (PC BF ME RO RH:List AV) (ms:List (List AV)) (call:B1) (code:List Aj) (x:Aj) (p:Nat) (e:Int)
 (h1:call false 35 [.agg [.int .i64 u.mod,.sl 1 (u.init.map A0),.sl 1 (u.regs.map A0),.sl 1 (u.code.map Aa)],.agg [.sl 1 (c.pc.map A0),.sl 1 (c.regs.map Ad),.sl 1 (c.mem.map A0),.sl 1 (c.buf.map Ae)],.int .i64 m,.int .i64 r,.int .i64 (t:Int)] []=some (.bool true,[]))
 (h2:call false 37 [.agg [.int .i64 u.mod,.sl 1 (u.init.map A0),.sl 1 (u.regs.map A0),.sl 1 (u.code.map Aa)],.agg [.sl 1 (c.pc.map A0),.sl 1 (c.regs.map Ad),.sl 1 (c.mem.map A0),.sl 1 (c.buf.map Ae)],.int .i64 (t:Int),.sl 3 (x.e.map Bh)] []=some (.int .i64 e,[]))
 (gc:nth? (u.code.map Aa) ((t:Int)).toNat=some (Aa code)) (gp:nth? (c.pc.map A0) ((t:Int)).toNat=some [.int .i64 (p:Int)]) (gx:nth? (code.map Bd) ((p:Int)).toNat=some (Bd x))
 (b1:t < u.code.length) (b2:t < c.pc.length) (b3:p < code.length) (b4:t < n) (lp:PC.length=n) (ew:IntKind.i64.wrap ((p:Int)+1)=((p+1:Nat):Int))
 (hx:x.op=5) (lr:RH.length=n) (gr:List.take 1 (List.drop (0+((t:Int)).toNat) RH)=[.vsl 6 0 rn ct]) (lro:RO.length=rn) (b5:0≤x.reg) (b6:x.reg < rn) (lm:ME.length=mn) (b7:0≤x.loc) (b8:x.loc < mn) (v:Int) (gm:nth? (c.mem.map A0) x.loc.toNat=some [.int .i64 v]) (b9:x.loc < c.mem.length) (d:Int) (hv:v=e) (h3:call false 37 [.agg [.int .i64 u.mod,.sl 1 (u.init.map A0),.sl 1 (u.regs.map A0),.sl 1 (u.code.map Aa)],.agg [.sl 1 (c.pc.map A0),.sl 1 (c.regs.map Ad),.sl 1 (c.mem.map A0),.sl 1 (c.buf.map Ae)],.int .i64 (t:Int),.sl 3 (x.f.map Bh)] []=some (.int .i64 d,[])) :
 Av call u c m r t (Au u c Bg PC BF (.var 1000001 ME) (.var 1000001 RO) RH [.vsl 3 0 n cp,.vsl 7 0 n cr,.vsl 5 0 mn cm,.vsl 4 0 n cb])=some (.tup [.agg [.vsl 3 0 n cp,.vsl 7 0 n cr,.vsl 5 0 mn cm,.vsl 4 0 n cb],.bool true],Au u c [.vsl 3 0 n cp,.vsl 7 0 n cr,.vsl 5 0 mn cm,.vsl 4 0 n cb] (B6 PC (0+((t:Int)).toNat) [.int .i64 ((p+1:Nat):Int)]) BF (.var 1000001 (B6 ME (0+x.loc.toNat) [.int .i64 d])) (.var 1000001 (B6 RO (0+x.reg.toNat) [.int .i64 v])) RH [.vsl 3 0 n cp,.vsl 7 0 n cr,.vsl 5 0 mn cm,.vsl 4 0 n cb]++[D2 x]):=by
 have hc1:Program.cellsOf Try.prog 3=1:=by kernel_rfl
 have hc2:Program.cellsOf Try.prog 22=1:=by kernel_rfl
 have hc3:Program.cellsOf Try.prog 79=1:=by kernel_rfl
 unfold Av
 conv=>lhs;whnf
 repeat (first | (refine At (by(first | (with_reducible assumption) | omega | (simp only[A6,Bool.or_eq_true,Bool.not_eq_true',Bool.and_eq_false_imp,Bool.or_eq_false_iff,A9,decide_eq_false_iff_not,beq_iff_eq,bne_iff_ne,beq_eq_false_iff_ne,bne_eq_false_iff_eq,ne_eq,A4,List.length_replicate,List.length_append,List.length_cons,List.length_nil,List.length_take,Int.toNat_natCast];omega) | (with_reducible rfl))) ?_;conv=>lhs;whnf) | (refine Bv (by(first | (with_reducible assumption) | omega | (simp only[A6,Bool.or_eq_true,Bool.not_eq_true',Bool.and_eq_false_imp,Bool.or_eq_false_iff,A9,decide_eq_false_iff_not,beq_iff_eq,bne_iff_ne,beq_eq_false_iff_ne,bne_eq_false_iff_eq,ne_eq,A4,List.length_replicate,List.length_append,List.length_cons,List.length_nil,List.length_take,Int.toNat_natCast];omega) | (with_reducible rfl))) ?_;conv=>lhs;whnf) | (simp only[h1,h2,gc,gp,gx,ew,hc1,hc2,hc3,gr,gm,h3];conv=>lhs;whnf))
 rfl
theorem A72 (u:Ac) (c:A8) (m r:Int) (t:Nat) (n cp cr cb cm ct rn mn:Nat) (PC BF ME RO RH:List AV) (ms:List (List AV)) (call:B1) (code:List Aj) (x:Aj) (p:Nat) (e:Int)
 (h1:call false 35 [.agg [.int .i64 u.mod,.sl 1 (u.init.map A0),.sl 1 (u.regs.map A0),.sl 1 (u.code.map Aa)],.agg [.sl 1 (c.pc.map A0),.sl 1 (c.regs.map Ad),.sl 1 (c.mem.map A0),.sl 1 (c.buf.map Ae)],.int .i64 m,.int .i64 r,.int .i64 (t:Int)] []=some (.bool true,[]))
 (h2:call false 37 [.agg [.int .i64 u.mod,.sl 1 (u.init.map A0),.sl 1 (u.regs.map A0),.sl 1 (u.code.map Aa)],.agg [.sl 1 (c.pc.map A0),.sl 1 (c.regs.map Ad),.sl 1 (c.mem.map A0),.sl 1 (c.buf.map Ae)],.int .i64 (t:Int),.sl 3 (x.e.map Bh)] []=some (.int .i64 e,[]))
 (gc:nth? (u.code.map Aa) ((t:Int)).toNat=some (Aa code)) (gp:nth? (c.pc.map A0) ((t:Int)).toNat=some [.int .i64 (p:Int)]) (gx:nth? (code.map Bd) ((p:Int)).toNat=some (Bd x))
 (b1:t < u.code.length) (b2:t < c.pc.length) (b3:p < code.length) (b4:t < n) (lp:PC.length=n) (ew:IntKind.i64.wrap ((p:Int)+1)=((p+1:Nat):Int))
 (hx:x.op=5) (lr:RH.length=n) (gr:List.take 1 (List.drop (0+((t:Int)).toNat) RH)=[.vsl 6 0 rn ct]) (lro:RO.length=rn) (b5:0≤x.reg) (b6:x.reg < rn) (v:Int) (gm:nth? (c.mem.map A0) x.loc.toNat=some [.int .i64 v]) (b9:x.loc < c.mem.length) (hv:¬ v=e) (b7:0≤x.loc) :
 Av call u c m r t (Au u c Bg PC BF (.var 1000001 ME) (.var 1000001 RO) RH [.vsl 3 0 n cp,.vsl 7 0 n cr,.vsl 5 0 mn cm,.vsl 4 0 n cb])=some (.tup [.agg [.vsl 3 0 n cp,.vsl 7 0 n cr,.vsl 5 0 mn cm,.vsl 4 0 n cb],.bool true],Au u c [.vsl 3 0 n cp,.vsl 7 0 n cr,.vsl 5 0 mn cm,.vsl 4 0 n cb] (B6 PC (0+((t:Int)).toNat) [.int .i64 ((p+1:Nat):Int)]) BF (.var 1000001 ME) (.var 1000001 (B6 RO (0+x.reg.toNat) [.int .i64 v])) RH [.vsl 3 0 n cp,.vsl 7 0 n cr,.vsl 5 0 mn cm,.vsl 4 0 n cb]++[D2 x]):=by
 have hc1:Program.cellsOf Try.prog 3=1:=by kernel_rfl
 have hc2:Program.cellsOf Try.prog 22=1:=by kernel_rfl
 have hc3:Program.cellsOf Try.prog 79=1:=by kernel_rfl
 unfold Av
 conv=>lhs;whnf
 repeat (first | (refine At (by(first | (with_reducible assumption) | omega | (simp only[A6,Bool.or_eq_true,Bool.not_eq_true',Bool.and_eq_false_imp,Bool.or_eq_false_iff,A9,decide_eq_false_iff_not,beq_iff_eq,bne_iff_ne,beq_eq_false_iff_ne,bne_eq_false_iff_eq,ne_eq,A4,List.length_replicate,List.length_append,List.length_cons,List.length_nil,List.length_take,Int.toNat_natCast];omega) | (with_reducible rfl))) ?_;conv=>lhs;whnf) | (refine Bv (by(first | (with_reducible assumption) | omega | (simp only[A6,Bool.or_eq_true,Bool.not_eq_true',Bool.and_eq_false_imp,Bool.or_eq_false_iff,A9,decide_eq_false_iff_not,beq_iff_eq,bne_iff_ne,beq_eq_false_iff_ne,bne_eq_false_iff_eq,ne_eq,A4,List.length_replicate,List.length_append,List.length_cons,List.length_nil,List.length_take,Int.toNat_natCast];omega) | (with_reducible rfl))) ?_;conv=>lhs;whnf) | (simp only[h1,h2,gc,gp,gx,ew,hc1,hc2,hc3,gr,gm];conv=>lhs;whnf))
 rfl
theorem A96 (u:Ac) (c:A8) (m r:Int) (t:Nat) (n cp cr cb cm ct rn mn:Nat) (PC BF ME RO RH:List AV) (ms:List (List AV)) (call:B1) (code:List Aj) (x:Aj) (p:Nat) (e:Int)
 (h1:call false 35 [.agg [.int .i64 u.mod,.sl 1 (u.init.map A0),.sl 1 (u.regs.map A0),.sl 1 (u.code.map Aa)],.agg [.sl 1 (c.pc.map A0),.sl 1 (c.regs.map Ad),.sl 1 (c.mem.map A0),.sl 1 (c.buf.map Ae)],.int .i64 m,.int .i64 r,.int .i64 (t:Int)] []=some (.bool true,[]))
 (h2:call false 37 [.agg [.int .i64 u.mod,.sl 1 (u.init.map A0),.sl 1 (u.regs.map A0),.sl 1 (u.code.map Aa)],.agg [.sl 1 (c.pc.map A0),.sl 1 (c.regs.map Ad),.sl 1 (c.mem.map A0),.sl 1 (c.buf.map Ae)],.int .i64 (t:Int),.sl 3 (x.e.map Bh)] []=some (.int .i64 e,[]))
 (gc:nth? (u.code.map Aa) ((t:Int)).toNat=some (Aa code)) (gp:nth? (c.pc.map A0) ((t:Int)).toNat=some [.int .i64 (p:Int)]) (gx:nth? (code.map Bd) ((p:Int)).toNat=some (Bd x))
 (b1:t < u.code.length) (b2:t < c.pc.length) (b3:p < code.length) (b4:t < n) (lp:PC.length=n) (ew:IntKind.i64.wrap ((p:Int)+1)=((p+1:Nat):Int))
 (hx:x.op=6) (lr:RH.length=n) (gr:List.take 1 (List.drop (0+((t:Int)).toNat) RH)=[.vsl 6 0 rn ct]) (lro:RO.length=rn) (b5:0≤x.reg) (b6:x.reg < rn) (lm:ME.length=mn) (b7:0≤x.loc) (b8:x.loc < mn) (v:Int) (gm:nth? (c.mem.map A0) x.loc.toNat=some [.int .i64 v]) (b9:x.loc < c.mem.length) (hm0:¬ u.mod=0) :
 Av call u c m r t (Au u c Bg PC BF (.var 1000001 ME) (.var 1000001 RO) RH [.vsl 3 0 n cp,.vsl 7 0 n cr,.vsl 5 0 mn cm,.vsl 4 0 n cb])=some (.tup [.agg [.vsl 3 0 n cp,.vsl 7 0 n cr,.vsl 5 0 mn cm,.vsl 4 0 n cb],.bool true],Au u c [.vsl 3 0 n cp,.vsl 7 0 n cr,.vsl 5 0 mn cm,.vsl 4 0 n cb] (B6 PC (0+((t:Int)).toNat) [.int .i64 ((p+1:Nat):Int)]) BF (.var 1000001 (B6 ME (0+x.loc.toNat) [.int .i64 ((IntKind.i64.wrap (v+e)).tmod u.mod)])) (.var 1000001 (B6 RO (0+x.reg.toNat) [.int .i64 v])) RH [.vsl 3 0 n cp,.vsl 7 0 n cr,.vsl 5 0 mn cm,.vsl 4 0 n cb]++[D2 x]):=by
 have hc1:Program.cellsOf Try.prog 3=1:=by kernel_rfl
 have hc2:Program.cellsOf Try.prog 22=1:=by kernel_rfl
 have hc3:Program.cellsOf Try.prog 79=1:=by kernel_rfl
 unfold Av
 conv=>lhs;whnf
 repeat (first | (refine At (by(first | (with_reducible assumption) | omega | (simp only[A6,Bool.or_eq_true,Bool.not_eq_true',Bool.and_eq_false_imp,Bool.or_eq_false_iff,A9,decide_eq_false_iff_not,beq_iff_eq,bne_iff_ne,beq_eq_false_iff_ne,bne_eq_false_iff_eq,ne_eq,A4,List.length_replicate,List.length_append,List.length_cons,List.length_nil,List.length_take,Int.toNat_natCast];omega) | (with_reducible rfl))) ?_;conv=>lhs;whnf) | (refine Bv (by(first | (with_reducible assumption) | omega | (simp only[A6,Bool.or_eq_true,Bool.not_eq_true',Bool.and_eq_false_imp,Bool.or_eq_false_iff,A9,decide_eq_false_iff_not,beq_iff_eq,bne_iff_ne,beq_eq_false_iff_ne,bne_eq_false_iff_eq,ne_eq,A4,List.length_replicate,List.length_append,List.length_cons,List.length_nil,List.length_take,Int.toNat_natCast];omega) | (with_reducible rfl))) ?_;conv=>lhs;whnf) | (simp only[h1,h2,gc,gp,gx,ew,hc1,hc2,hc3,gr,gm];conv=>lhs;whnf))
 rfl
theorem A6z (u:Ac) (c:A8) (m r:Int) (t:Nat) (n cp cr cb cm ct rn mn:Nat) (PC BF ME RO RH:List AV) (ms:List (List AV)) (call:B1) (code:List Aj) (x:Aj) (p:Nat) (e:Int)
 (h1:call false 35 [.agg [.int .i64 u.mod,.sl 1 (u.init.map A0),.sl 1 (u.regs.map A0),.sl 1 (u.code.map Aa)],.agg [.sl 1 (c.pc.map A0),.sl 1 (c.regs.map Ad),.sl 1 (c.mem.map A0),.sl 1 (c.buf.map Ae)],.int .i64 m,.int .i64 r,.int .i64 (t:Int)] []=some (.bool true,[]))
 (h2:call false 37 [.agg [.int .i64 u.mod,.sl 1 (u.init.map A0),.sl 1 (u.regs.map A0),.sl 1 (u.code.map Aa)],.agg [.sl 1 (c.pc.map A0),.sl 1 (c.regs.map Ad),.sl 1 (c.mem.map A0),.sl 1 (c.buf.map Ae)],.int .i64 (t:Int),.sl 3 (x.e.map Bh)] []=some (.int .i64 e,[]))
 (gc:nth? (u.code.map Aa) ((t:Int)).toNat=some (Aa code)) (gp:nth? (c.pc.map A0) ((t:Int)).toNat=some [.int .i64 (p:Int)]) (gx:nth? (code.map Bd) ((p:Int)).toNat=some (Bd x))
 (b1:t < u.code.length) (b2:t < c.pc.length) (b3:p < code.length) (b4:t < n) (lp:PC.length=n) (ew:IntKind.i64.wrap ((p:Int)+1)=((p+1:Nat):Int))
 (hx:x.op=7) (lr:RH.length=n) (gr:List.take 1 (List.drop (0+((t:Int)).toNat) RH)=[.vsl 6 0 rn ct]) (lro:RO.length=rn) (b5:0≤x.reg) (b6:x.reg < rn) (lm:ME.length=mn) (b7:0≤x.loc) (b8:x.loc < mn) (v:Int) (gm:nth? (c.mem.map A0) x.loc.toNat=some [.int .i64 v]) (b9:x.loc < c.mem.length) :
 Av call u c m r t (Au u c Bg PC BF (.var 1000001 ME) (.var 1000001 RO) RH [.vsl 3 0 n cp,.vsl 7 0 n cr,.vsl 5 0 mn cm,.vsl 4 0 n cb])=some (.tup [.agg [.vsl 3 0 n cp,.vsl 7 0 n cr,.vsl 5 0 mn cm,.vsl 4 0 n cb],.bool true],Au u c [.vsl 3 0 n cp,.vsl 7 0 n cr,.vsl 5 0 mn cm,.vsl 4 0 n cb] (B6 PC (0+((t:Int)).toNat) [.int .i64 ((p+1:Nat):Int)]) BF (.var 1000001 (B6 ME (0+x.loc.toNat) [.int .i64 e])) (.var 1000001 (B6 RO (0+x.reg.toNat) [.int .i64 v])) RH [.vsl 3 0 n cp,.vsl 7 0 n cr,.vsl 5 0 mn cm,.vsl 4 0 n cb]++[D2 x]):=by
 have hc1:Program.cellsOf Try.prog 3=1:=by kernel_rfl
 have hc2:Program.cellsOf Try.prog 22=1:=by kernel_rfl
 have hc3:Program.cellsOf Try.prog 79=1:=by kernel_rfl
 unfold Av
 conv=>lhs;whnf
 repeat (first | (refine At (by(first | (with_reducible assumption) | omega | (simp only[A6,Bool.or_eq_true,Bool.not_eq_true',Bool.and_eq_false_imp,Bool.or_eq_false_iff,A9,decide_eq_false_iff_not,beq_iff_eq,bne_iff_ne,beq_eq_false_iff_ne,bne_eq_false_iff_eq,ne_eq,A4,List.length_replicate,List.length_append,List.length_cons,List.length_nil,List.length_take,Int.toNat_natCast];omega) | (with_reducible rfl))) ?_;conv=>lhs;whnf) | (refine Bv (by(first | (with_reducible assumption) | omega | (simp only[A6,Bool.or_eq_true,Bool.not_eq_true',Bool.and_eq_false_imp,Bool.or_eq_false_iff,A9,decide_eq_false_iff_not,beq_iff_eq,bne_iff_ne,beq_eq_false_iff_ne,bne_eq_false_iff_eq,ne_eq,A4,List.length_replicate,List.length_append,List.length_cons,List.length_nil,List.length_take,Int.toNat_natCast];omega) | (with_reducible rfl))) ?_;conv=>lhs;whnf) | (simp only[h1,h2,gc,gp,gx,ew,hc1,hc2,hc3,gr,gm];conv=>lhs;whnf))
 rfl
theorem Abj (u:Ac) (c:A8) (m r:Int) (t:Nat) (n cp cr cb cm ct rn mn:Nat) (PC BF ME RO RH:List AV) (ms:List (List AV)) (call:B1)
 (h1:call false 35 [.agg [.int .i64 u.mod,.sl 1 (u.init.map A0),.sl 1 (u.regs.map A0),.sl 1 (u.code.map Aa)],.agg [.sl 1 (c.pc.map A0),.sl 1 (c.regs.map Ad),.sl 1 (c.mem.map A0),.sl 1 (c.buf.map Ae)],.int .i64 m,.int .i64 r,.int .i64 (t:Int)] []=some (.bool false,[]))
  :
 Av call u c m r t (Au u c Bg PC BF (.var 1000001 ME) B4 RH [.vsl 3 0 n cp,.vsl 7 0 n cr,.vsl 5 0 mn cm,.vsl 4 0 n cb])=some (.tup [.agg [.vsl 3 0 n cp,.vsl 7 0 n cr,.vsl 5 0 mn cm,.vsl 4 0 n cb],.bool false],Au u c [.vsl 3 0 n cp,.vsl 7 0 n cr,.vsl 5 0 mn cm,.vsl 4 0 n cb] PC BF (.var 1000001 ME) B4 RH [.vsl 3 0 n cp,.vsl 7 0 n cr,.vsl 5 0 mn cm,.vsl 4 0 n cb]):=by
 have hc1:Program.cellsOf Try.prog 3=1:=by kernel_rfl
 have hc2:Program.cellsOf Try.prog 22=1:=by kernel_rfl
 have hc3:Program.cellsOf Try.prog 79=1:=by kernel_rfl
 unfold Av
 conv=>lhs;whnf
 repeat (first | (refine At (by(first | (with_reducible assumption) | omega | (simp only[A6,Bool.or_eq_true,Bool.not_eq_true',Bool.and_eq_false_imp,Bool.or_eq_false_iff,A9,decide_eq_false_iff_not,beq_iff_eq,bne_iff_ne,beq_eq_false_iff_ne,bne_eq_false_iff_eq,ne_eq,A4,List.length_replicate,List.length_append,List.length_cons,List.length_nil,List.length_take,Int.toNat_natCast];omega) | (with_reducible rfl))) ?_;conv=>lhs;whnf) | (refine Bv (by(first | (with_reducible assumption) | omega | (simp only[A6,Bool.or_eq_true,Bool.not_eq_true',Bool.and_eq_false_imp,Bool.or_eq_false_iff,A9,decide_eq_false_iff_not,beq_iff_eq,bne_iff_ne,beq_eq_false_iff_ne,bne_eq_false_iff_eq,ne_eq,A4,List.length_replicate,List.length_append,List.length_cons,List.length_nil,List.length_take,Int.toNat_natCast];omega) | (with_reducible rfl))) ?_;conv=>lhs;whnf) | (simp only[h1,hc1,hc2,hc3];conv=>lhs;whnf))
 rfl
theorem A88 (u:Ac) (c:A8) (m r:Int) (t:Nat) (n cp cr cb cm ct rn mn:Nat) (PC BF ME RO RH:List AV) (ms:List (List AV)) (call:B1) (code:List Aj) (x:Aj) (p:Nat) (e:Int)
 (h1:call false 35 [.agg [.int .i64 u.mod,.sl 1 (u.init.map A0),.sl 1 (u.regs.map A0),.sl 1 (u.code.map Aa)],.agg [.sl 1 (c.pc.map A0),.sl 1 (c.regs.map Ad),.sl 1 (c.mem.map A0),.sl 1 (c.buf.map Ae)],.int .i64 m,.int .i64 r,.int .i64 (t:Int)] []=some (.bool true,[]))
 (h2:call false 37 [.agg [.int .i64 u.mod,.sl 1 (u.init.map A0),.sl 1 (u.regs.map A0),.sl 1 (u.code.map Aa)],.agg [.sl 1 (c.pc.map A0),.sl 1 (c.regs.map Ad),.sl 1 (c.mem.map A0),.sl 1 (c.buf.map Ae)],.int .i64 (t:Int),.sl 3 (x.e.map Bh)] []=some (.int .i64 e,[]))
 (gc:nth? (u.code.map Aa) ((t:Int)).toNat=some (Aa code)) (gp:nth? (c.pc.map A0) ((t:Int)).toNat=some [.int .i64 (p:Int)]) (gx:nth? (code.map Bd) ((p:Int)).toNat=some (Bd x))
 (b1:t < u.code.length) (b2:t < c.pc.length) (b3:p < code.length) (b4:t < n) (lp:PC.length=n) (ew:IntKind.i64.wrap ((p:Int)+1)=((p+1:Nat):Int))
 (n20:¬ x.op=20) (n21:¬ x.op=21) (n2:¬ x.op=2) (n3:¬ x.op=3) (n4:¬ x.op=4) (n5:¬ x.op=5) (n6:¬ x.op=6) (n7:¬ x.op=7) :
 Av call u c m r t (Au u c Bg PC BF (.var 1000001 ME) B4 RH [.vsl 3 0 n cp,.vsl 7 0 n cr,.vsl 5 0 mn cm,.vsl 4 0 n cb])=some (.tup [.agg [.vsl 3 0 n cp,.vsl 7 0 n cr,.vsl 5 0 mn cm,.vsl 4 0 n cb],.bool true],Au u c [.vsl 3 0 n cp,.vsl 7 0 n cr,.vsl 5 0 mn cm,.vsl 4 0 n cb] (B6 PC (0+((t:Int)).toNat) [.int .i64 ((p+1:Nat):Int)]) BF (.var 1000001 ME) B4 RH [.vsl 3 0 n cp,.vsl 7 0 n cr,.vsl 5 0 mn cm,.vsl 4 0 n cb]++[D2 x]):=by
 have hc1:Program.cellsOf Try.prog 3=1:=by kernel_rfl
 have hc2:Program.cellsOf Try.prog 22=1:=by kernel_rfl
 have hc3:Program.cellsOf Try.prog 79=1:=by kernel_rfl
 unfold Av
 conv=>lhs;whnf
 repeat (first | (refine At (by(first | (with_reducible assumption) | omega | (simp only[A6,Bool.or_eq_true,Bool.not_eq_true',Bool.and_eq_false_imp,Bool.or_eq_false_iff,A9,decide_eq_false_iff_not,beq_iff_eq,bne_iff_ne,beq_eq_false_iff_ne,bne_eq_false_iff_eq,ne_eq,A4,List.length_replicate,List.length_append,List.length_cons,List.length_nil,List.length_take,Int.toNat_natCast];omega) | (with_reducible rfl))) ?_;conv=>lhs;whnf) | (refine Bv (by(first | (with_reducible assumption) | omega | (simp only[A6,Bool.or_eq_true,Bool.not_eq_true',Bool.and_eq_false_imp,Bool.or_eq_false_iff,A9,decide_eq_false_iff_not,beq_iff_eq,bne_iff_ne,beq_eq_false_iff_ne,bne_eq_false_iff_eq,ne_eq,A4,List.length_replicate,List.length_append,List.length_cons,List.length_nil,List.length_take,Int.toNat_natCast];omega) | (with_reducible rfl))) ?_;conv=>lhs;whnf) | (simp only[h1,h2,gc,gp,gx,ew,hc1,hc2,hc3];conv=>lhs;whnf))
 rfl
theorem A76 (u:Ac) (c:A8) (m r:Int) (t:Nat) (n cp cr cb cm ct rn mn:Nat) (PC BF ME RO RH:List AV) (ms:List (List AV)) (call:B1) (code:List Aj) (x:Aj) (p:Nat) (e:Int)
 (h1:call false 35 [.agg [.int .i64 u.mod,.sl 1 (u.init.map A0),.sl 1 (u.regs.map A0),.sl 1 (u.code.map Aa)],.agg [.sl 1 (c.pc.map A0),.sl 1 (c.regs.map Ad),.sl 1 (c.mem.map A0),.sl 1 (c.buf.map Ae)],.int .i64 m,.int .i64 r,.int .i64 (t:Int)] []=some (.bool true,[]))
 (h2:call false 37 [.agg [.int .i64 u.mod,.sl 1 (u.init.map A0),.sl 1 (u.regs.map A0),.sl 1 (u.code.map Aa)],.agg [.sl 1 (c.pc.map A0),.sl 1 (c.regs.map Ad),.sl 1 (c.mem.map A0),.sl 1 (c.buf.map Ae)],.int .i64 (t:Int),.sl 3 (x.e.map Bh)] []=some (.int .i64 e,[]))
 (gc:nth? (u.code.map Aa) ((t:Int)).toNat=some (Aa code)) (gp:nth? (c.pc.map A0) ((t:Int)).toNat=some [.int .i64 (p:Int)]) (gx:nth? (code.map Bd) ((p:Int)).toNat=some (Bd x))
 (b1:t < u.code.length) (b2:t < c.pc.length) (b3:p < code.length) (b4:t < n) (lp:PC.length=n) (ew:IntKind.i64.wrap ((p:Int)+1)=((p+1:Nat):Int))
 (hx:x.op=20) :
 Av call u c m r t (Au u c Bg PC BF (.var 1000001 ME) B4 RH [.vsl 3 0 n cp,.vsl 7 0 n cr,.vsl 5 0 mn cm,.vsl 4 0 n cb])=some (.tup [.agg [.vsl 3 0 n cp,.vsl 7 0 n cr,.vsl 5 0 mn cm,.vsl 4 0 n cb],.bool true],Au u c [.vsl 3 0 n cp,.vsl 7 0 n cr,.vsl 5 0 mn cm,.vsl 4 0 n cb] (B6 (B6 PC (0+((t:Int)).toNat) [.int .i64 ((p+1:Nat):Int)]) (0+((t:Int)).toNat) [.int .i64 x.goal]) BF (.var 1000001 ME) B4 RH [.vsl 3 0 n cp,.vsl 7 0 n cr,.vsl 5 0 mn cm,.vsl 4 0 n cb]++[D2 x]):=by
 have hc1:Program.cellsOf Try.prog 3=1:=by kernel_rfl
 have hc2:Program.cellsOf Try.prog 22=1:=by kernel_rfl
 have hc3:Program.cellsOf Try.prog 79=1:=by kernel_rfl
 have lq:∀ L:List AV,decide (0+((t:Int)).toNat+1≤(B6 PC (0+((t:Int)).toNat) L).length)=true:=fun L=>decide_eq_true (by
  have:=K8 (l:=PC) (k:=0+((t:Int)).toNat) (by rw[lp,Int.toNat_natCast];omega) L
  rw[Int.toNat_natCast] at this ⊢
  omega)
 unfold Av
 conv=>lhs;whnf
 repeat (first | (refine At (by(first | (with_reducible assumption) | omega | (simp only[A6,Bool.or_eq_true,Bool.not_eq_true',Bool.and_eq_false_imp,Bool.or_eq_false_iff,A9,decide_eq_false_iff_not,beq_iff_eq,bne_iff_ne,beq_eq_false_iff_ne,bne_eq_false_iff_eq,ne_eq,A4,List.length_replicate,List.length_append,List.length_cons,List.length_nil,List.length_take,Int.toNat_natCast];omega) | (with_reducible rfl))) ?_;conv=>lhs;whnf) | (refine Bv (by(first | (with_reducible assumption) | omega | (simp only[A6,Bool.or_eq_true,Bool.not_eq_true',Bool.and_eq_false_imp,Bool.or_eq_false_iff,A9,decide_eq_false_iff_not,beq_iff_eq,bne_iff_ne,beq_eq_false_iff_ne,bne_eq_false_iff_eq,ne_eq,A4,List.length_replicate,List.length_append,List.length_cons,List.length_nil,List.length_take,Int.toNat_natCast];omega) | (with_reducible rfl))) ?_;conv=>lhs;whnf) | (simp only[h1,h2,gc,gp,gx,ew,hc1,hc2,hc3,lq];conv=>lhs;whnf))
 rfl
theorem Ae1 (u:Ac) (c:A8) (m r:Int) (t:Nat) (n cp cr cb cm ct rn mn:Nat) (PC BF ME RO RH:List AV) (ms:List (List AV)) (call:B1) (code:List Aj) (x:Aj) (p:Nat) (e:Int)
 (h1:call false 35 [.agg [.int .i64 u.mod,.sl 1 (u.init.map A0),.sl 1 (u.regs.map A0),.sl 1 (u.code.map Aa)],.agg [.sl 1 (c.pc.map A0),.sl 1 (c.regs.map Ad),.sl 1 (c.mem.map A0),.sl 1 (c.buf.map Ae)],.int .i64 m,.int .i64 r,.int .i64 (t:Int)] []=some (.bool true,[]))
 (h2:call false 37 [.agg [.int .i64 u.mod,.sl 1 (u.init.map A0),.sl 1 (u.regs.map A0),.sl 1 (u.code.map Aa)],.agg [.sl 1 (c.pc.map A0),.sl 1 (c.regs.map Ad),.sl 1 (c.mem.map A0),.sl 1 (c.buf.map Ae)],.int .i64 (t:Int),.sl 3 (x.e.map Bh)] []=some (.int .i64 e,[]))
 (gc:nth? (u.code.map Aa) ((t:Int)).toNat=some (Aa code)) (gp:nth? (c.pc.map A0) ((t:Int)).toNat=some [.int .i64 (p:Int)]) (gx:nth? (code.map Bd) ((p:Int)).toNat=some (Bd x))
 (b1:t < u.code.length) (b2:t < c.pc.length) (b3:p < code.length) (b4:t < n) (lp:PC.length=n) (ew:IntKind.i64.wrap ((p:Int)+1)=((p+1:Nat):Int))
 (hx:x.op=21) (he:e=0) :
 Av call u c m r t (Au u c Bg PC BF (.var 1000001 ME) B4 RH [.vsl 3 0 n cp,.vsl 7 0 n cr,.vsl 5 0 mn cm,.vsl 4 0 n cb])=some (.tup [.agg [.vsl 3 0 n cp,.vsl 7 0 n cr,.vsl 5 0 mn cm,.vsl 4 0 n cb],.bool true],Au u c [.vsl 3 0 n cp,.vsl 7 0 n cr,.vsl 5 0 mn cm,.vsl 4 0 n cb] (B6 (B6 PC (0+((t:Int)).toNat) [.int .i64 ((p+1:Nat):Int)]) (0+((t:Int)).toNat) [.int .i64 x.goal]) BF (.var 1000001 ME) B4 RH [.vsl 3 0 n cp,.vsl 7 0 n cr,.vsl 5 0 mn cm,.vsl 4 0 n cb]++[D2 x]):=by
 have hc1:Program.cellsOf Try.prog 3=1:=by kernel_rfl
 have hc2:Program.cellsOf Try.prog 22=1:=by kernel_rfl
 have hc3:Program.cellsOf Try.prog 79=1:=by kernel_rfl
 have lq:∀ L:List AV,decide (0+((t:Int)).toNat+1≤(B6 PC (0+((t:Int)).toNat) L).length)=true:=fun L=>decide_eq_true (by
  have:=K8 (l:=PC) (k:=0+((t:Int)).toNat) (by rw[lp,Int.toNat_natCast];omega) L
  rw[Int.toNat_natCast] at this ⊢
  omega)
 unfold Av
 conv=>lhs;whnf
 repeat (first | (refine At (by(first | (with_reducible assumption) | omega | (simp only[A6,Bool.or_eq_true,Bool.not_eq_true',Bool.and_eq_false_imp,Bool.or_eq_false_iff,A9,decide_eq_false_iff_not,beq_iff_eq,bne_iff_ne,beq_eq_false_iff_ne,bne_eq_false_iff_eq,ne_eq,A4,List.length_replicate,List.length_append,List.length_cons,List.length_nil,List.length_take,Int.toNat_natCast];omega) | (with_reducible rfl))) ?_;conv=>lhs;whnf) | (refine Bv (by(first | (with_reducible assumption) | omega | (simp only[A6,Bool.or_eq_true,Bool.not_eq_true',Bool.and_eq_false_imp,Bool.or_eq_false_iff,A9,decide_eq_false_iff_not,beq_iff_eq,bne_iff_ne,beq_eq_false_iff_ne,bne_eq_false_iff_eq,ne_eq,A4,List.length_replicate,List.length_append,List.length_cons,List.length_nil,List.length_take,Int.toNat_natCast];omega) | (with_reducible rfl))) ?_;conv=>lhs;whnf) | (simp only[h1,h2,gc,gp,gx,ew,hc1,hc2,hc3,lq];conv=>lhs;whnf))
 rfl
theorem A97 (u:Ac) (c:A8) (m r:Int) (t:Nat) (n cp cr cb cm ct rn mn:Nat) (PC BF ME RO RH:List AV) (ms:List (List AV)) (call:B1) (code:List Aj) (x:Aj) (p:Nat) (e:Int)
 (h1:call false 35 [.agg [.int .i64 u.mod,.sl 1 (u.init.map A0),.sl 1 (u.regs.map A0),.sl 1 (u.code.map Aa)],.agg [.sl 1 (c.pc.map A0),.sl 1 (c.regs.map Ad),.sl 1 (c.mem.map A0),.sl 1 (c.buf.map Ae)],.int .i64 m,.int .i64 r,.int .i64 (t:Int)] []=some (.bool true,[]))
 (h2:call false 37 [.agg [.int .i64 u.mod,.sl 1 (u.init.map A0),.sl 1 (u.regs.map A0),.sl 1 (u.code.map Aa)],.agg [.sl 1 (c.pc.map A0),.sl 1 (c.regs.map Ad),.sl 1 (c.mem.map A0),.sl 1 (c.buf.map Ae)],.int .i64 (t:Int),.sl 3 (x.e.map Bh)] []=some (.int .i64 e,[]))
 (gc:nth? (u.code.map Aa) ((t:Int)).toNat=some (Aa code)) (gp:nth? (c.pc.map A0) ((t:Int)).toNat=some [.int .i64 (p:Int)]) (gx:nth? (code.map Bd) ((p:Int)).toNat=some (Bd x))
 (b1:t < u.code.length) (b2:t < c.pc.length) (b3:p < code.length) (b4:t < n) (lp:PC.length=n) (ew:IntKind.i64.wrap ((p:Int)+1)=((p+1:Nat):Int))
 (hx:x.op=21) (he:¬ e=0) :
 Av call u c m r t (Au u c Bg PC BF (.var 1000001 ME) B4 RH [.vsl 3 0 n cp,.vsl 7 0 n cr,.vsl 5 0 mn cm,.vsl 4 0 n cb])=some (.tup [.agg [.vsl 3 0 n cp,.vsl 7 0 n cr,.vsl 5 0 mn cm,.vsl 4 0 n cb],.bool true],Au u c [.vsl 3 0 n cp,.vsl 7 0 n cr,.vsl 5 0 mn cm,.vsl 4 0 n cb] (B6 PC (0+((t:Int)).toNat) [.int .i64 ((p+1:Nat):Int)]) BF (.var 1000001 ME) B4 RH [.vsl 3 0 n cp,.vsl 7 0 n cr,.vsl 5 0 mn cm,.vsl 4 0 n cb]++[D2 x]):=by
 have hc1:Program.cellsOf Try.prog 3=1:=by kernel_rfl
 have hc2:Program.cellsOf Try.prog 22=1:=by kernel_rfl
 have hc3:Program.cellsOf Try.prog 79=1:=by kernel_rfl
 unfold Av
 conv=>lhs;whnf
 repeat (first | (refine At (by(first | (with_reducible assumption) | omega | (simp only[A6,Bool.or_eq_true,Bool.not_eq_true',Bool.and_eq_false_imp,Bool.or_eq_false_iff,A9,decide_eq_false_iff_not,beq_iff_eq,bne_iff_ne,beq_eq_false_iff_ne,bne_eq_false_iff_eq,ne_eq,A4,List.length_replicate,List.length_append,List.length_cons,List.length_nil,List.length_take,Int.toNat_natCast];omega) | (with_reducible rfl))) ?_;conv=>lhs;whnf) | (refine Bv (by(first | (with_reducible assumption) | omega | (simp only[A6,Bool.or_eq_true,Bool.not_eq_true',Bool.and_eq_false_imp,Bool.or_eq_false_iff,A9,decide_eq_false_iff_not,beq_iff_eq,bne_iff_ne,beq_eq_false_iff_ne,bne_eq_false_iff_eq,ne_eq,A4,List.length_replicate,List.length_append,List.length_cons,List.length_nil,List.length_take,Int.toNat_natCast];omega) | (with_reducible rfl))) ?_;conv=>lhs;whnf) | (simp only[h1,h2,gc,gp,gx,ew,hc1,hc2,hc3];conv=>lhs;whnf))
 rfl
theorem A86 (u:Ac) (c:A8) (m r:Int) (t:Nat) (n cp cr cb cm ct rn mn:Nat) (PC BF ME RO RH:List AV) (ms:List (List AV)) (call:B1) (code:List Aj) (x:Aj) (p:Nat) (e:Int)
 (h1:call false 35 [.agg [.int .i64 u.mod,.sl 1 (u.init.map A0),.sl 1 (u.regs.map A0),.sl 1 (u.code.map Aa)],.agg [.sl 1 (c.pc.map A0),.sl 1 (c.regs.map Ad),.sl 1 (c.mem.map A0),.sl 1 (c.buf.map Ae)],.int .i64 m,.int .i64 r,.int .i64 (t:Int)] []=some (.bool true,[]))
 (h2:call false 37 [.agg [.int .i64 u.mod,.sl 1 (u.init.map A0),.sl 1 (u.regs.map A0),.sl 1 (u.code.map Aa)],.agg [.sl 1 (c.pc.map A0),.sl 1 (c.regs.map Ad),.sl 1 (c.mem.map A0),.sl 1 (c.buf.map Ae)],.int .i64 (t:Int),.sl 3 (x.e.map Bh)] []=some (.int .i64 e,[]))
 (gc:nth? (u.code.map Aa) ((t:Int)).toNat=some (Aa code)) (gp:nth? (c.pc.map A0) ((t:Int)).toNat=some [.int .i64 (p:Int)]) (gx:nth? (code.map Bd) ((p:Int)).toNat=some (Bd x))
 (b1:t < u.code.length) (b2:t < c.pc.length) (b3:p < code.length) (b4:t < n) (lp:PC.length=n) (ew:IntKind.i64.wrap ((p:Int)+1)=((p+1:Nat):Int))
 (hx:x.op=4) (hm:¬ m=1) (bt b2:List A2) (gb:nth? (c.buf.map Ae) ((t:Int)).toNat=some [.sl 2 (bt.map Ak)]) (b5:t < c.buf.length) (lb:BF.length=n) (h3:call false 39 [.sl 2 (bt.map Ak),.int .i64 m,.agg [.int .i64 x.loc,.int .i64 e]] []=some (.sl 2 (b2.map Ak),[])) :
 Av call u c m r t (Au u c Bg PC BF (.var 1000001 ME) B4 RH [.vsl 3 0 n cp,.vsl 7 0 n cr,.vsl 5 0 mn cm,.vsl 4 0 n cb])=some (.tup [.agg [.vsl 3 0 n cp,.vsl 7 0 n cr,.vsl 5 0 mn cm,.vsl 4 0 n cb],.bool true],Au u c [.vsl 3 0 n cp,.vsl 7 0 n cr,.vsl 5 0 mn cm,.vsl 4 0 n cb] (B6 PC (0+((t:Int)).toNat) [.int .i64 ((p+1:Nat):Int)]) (B6 BF (0+((t:Int)).toNat) [.sl 2 (b2.map Ak)]) (.var 1000001 ME) B4 RH [.vsl 3 0 n cp,.vsl 7 0 n cr,.vsl 5 0 mn cm,.vsl 4 0 n cb]++[D2 x]):=by
 have hc1:Program.cellsOf Try.prog 3=1:=by kernel_rfl
 have hc2:Program.cellsOf Try.prog 22=1:=by kernel_rfl
 have hc3:Program.cellsOf Try.prog 79=1:=by kernel_rfl
 unfold Av
 conv=>lhs;whnf
 repeat (first | (refine At (by(first | (with_reducible assumption) | omega | (simp only[A6,Bool.or_eq_true,Bool.not_eq_true',Bool.and_eq_false_imp,Bool.or_eq_false_iff,A9,decide_eq_false_iff_not,beq_iff_eq,bne_iff_ne,beq_eq_false_iff_ne,bne_eq_false_iff_eq,ne_eq,A4,List.length_replicate,List.length_append,List.length_cons,List.length_nil,List.length_take,Int.toNat_natCast];omega) | (with_reducible rfl))) ?_;conv=>lhs;whnf) | (refine Bv (by(first | (with_reducible assumption) | omega | (simp only[A6,Bool.or_eq_true,Bool.not_eq_true',Bool.and_eq_false_imp,Bool.or_eq_false_iff,A9,decide_eq_false_iff_not,beq_iff_eq,bne_iff_ne,beq_eq_false_iff_ne,bne_eq_false_iff_eq,ne_eq,A4,List.length_replicate,List.length_append,List.length_cons,List.length_nil,List.length_take,Int.toNat_natCast];omega) | (with_reducible rfl))) ?_;conv=>lhs;whnf) | (simp only[h1,h2,gc,gp,gx,ew,hc1,hc2,hc3,h3,gb];conv=>lhs;whnf))
 rfl
theorem Acf (u:Ac) (c:A8) (m r:Int) (t:Nat) (n cp cr cb cm ct rn mn:Nat) (PC BF ME RO RH:List AV) (ms:List (List AV)) (call:B1) (code:List Aj) (x:Aj) (p:Nat) (e:Int)
 (h1:call false 35 [.agg [.int .i64 u.mod,.sl 1 (u.init.map A0),.sl 1 (u.regs.map A0),.sl 1 (u.code.map Aa)],.agg [.sl 1 (c.pc.map A0),.sl 1 (c.regs.map Ad),.sl 1 (c.mem.map A0),.sl 1 (c.buf.map Ae)],.int .i64 m,.int .i64 r,.int .i64 (t:Int)] []=some (.bool true,[]))
 (h2:call false 37 [.agg [.int .i64 u.mod,.sl 1 (u.init.map A0),.sl 1 (u.regs.map A0),.sl 1 (u.code.map Aa)],.agg [.sl 1 (c.pc.map A0),.sl 1 (c.regs.map Ad),.sl 1 (c.mem.map A0),.sl 1 (c.buf.map Ae)],.int .i64 (t:Int),.sl 3 (x.e.map Bh)] []=some (.int .i64 e,[]))
 (gc:nth? (u.code.map Aa) ((t:Int)).toNat=some (Aa code)) (gp:nth? (c.pc.map A0) ((t:Int)).toNat=some [.int .i64 (p:Int)]) (gx:nth? (code.map Bd) ((p:Int)).toNat=some (Bd x))
 (b1:t < u.code.length) (b2:t < c.pc.length) (b3:p < code.length) (b4:t < n) (lp:PC.length=n) (ew:IntKind.i64.wrap ((p:Int)+1)=((p+1:Nat):Int))
 (hx:x.op=4) (hm:m=1) (lm:ME.length=mn) (b7:0≤x.loc) (b8:x.loc < mn) :
 Av call u c m r t (Au u c Bg PC BF (.var 1000001 ME) B4 RH [.vsl 3 0 n cp,.vsl 7 0 n cr,.vsl 5 0 mn cm,.vsl 4 0 n cb])=some (.tup [.agg [.vsl 3 0 n cp,.vsl 7 0 n cr,.vsl 5 0 mn cm,.vsl 4 0 n cb],.bool true],Au u c [.vsl 3 0 n cp,.vsl 7 0 n cr,.vsl 5 0 mn cm,.vsl 4 0 n cb] (B6 PC (0+((t:Int)).toNat) [.int .i64 ((p+1:Nat):Int)]) BF (.var 1000001 (B6 ME (0+x.loc.toNat) [.int .i64 e])) B4 RH [.vsl 3 0 n cp,.vsl 7 0 n cr,.vsl 5 0 mn cm,.vsl 4 0 n cb]++[D2 x]):=by
 have hc1:Program.cellsOf Try.prog 3=1:=by kernel_rfl
 have hc2:Program.cellsOf Try.prog 22=1:=by kernel_rfl
 have hc3:Program.cellsOf Try.prog 79=1:=by kernel_rfl
 unfold Av
 conv=>lhs;whnf
 repeat (first | (refine At (by(first | (with_reducible assumption) | omega | (simp only[A6,Bool.or_eq_true,Bool.not_eq_true',Bool.and_eq_false_imp,Bool.or_eq_false_iff,A9,decide_eq_false_iff_not,beq_iff_eq,bne_iff_ne,beq_eq_false_iff_ne,bne_eq_false_iff_eq,ne_eq,A4,List.length_replicate,List.length_append,List.length_cons,List.length_nil,List.length_take,Int.toNat_natCast];omega) | (with_reducible rfl))) ?_;conv=>lhs;whnf) | (refine Bv (by(first | (with_reducible assumption) | omega | (simp only[A6,Bool.or_eq_true,Bool.not_eq_true',Bool.and_eq_false_imp,Bool.or_eq_false_iff,A9,decide_eq_false_iff_not,beq_iff_eq,bne_iff_ne,beq_eq_false_iff_ne,bne_eq_false_iff_eq,ne_eq,A4,List.length_replicate,List.length_append,List.length_cons,List.length_nil,List.length_take,Int.toNat_natCast];omega) | (with_reducible rfl))) ?_;conv=>lhs;whnf) | (simp only[h1,h2,gc,gp,gx,ew,hc1,hc2,hc3];conv=>lhs;whnf))
 rfl
theorem Aaj (u:Ac) (c:A8) (m r:Int) (t:Nat) (n cp cr cb cm ct rn mn:Nat) (PC BF ME RO RH:List AV) (ms:List (List AV)) (call:B1)
 (h1:call false 35 [.agg [.int .i64 u.mod,.sl 1 (u.init.map A0),.sl 1 (u.regs.map A0),.sl 1 (u.code.map Aa)],.agg [.sl 1 (c.pc.map A0),.sl 1 (c.regs.map Ad),.sl 1 (c.mem.map A0),.sl 1 (c.buf.map Ae)],.int .i64 m,.int .i64 r,.int .i64 (t:Int)] []=some (.bool false,[]))
  :
 Av call u c m r t (Au u c Bg PC BF B4 (.var 1000001 RO) RH [.vsl 3 0 n cp,.vsl 7 0 n cr,.sl 1 ms,.vsl 4 0 n cb])=some (.tup [.agg [.vsl 3 0 n cp,.vsl 7 0 n cr,.sl 1 ms,.vsl 4 0 n cb],.bool false],Au u c [.vsl 3 0 n cp,.vsl 7 0 n cr,.sl 1 ms,.vsl 4 0 n cb] PC BF B4 (.var 1000001 RO) RH [.vsl 3 0 n cp,.vsl 7 0 n cr,.sl 1 ms,.vsl 4 0 n cb]):=by
 have hc1:Program.cellsOf Try.prog 3=1:=by kernel_rfl
 have hc2:Program.cellsOf Try.prog 22=1:=by kernel_rfl
 have hc3:Program.cellsOf Try.prog 79=1:=by kernel_rfl
 unfold Av
 conv=>lhs;whnf
 repeat (first | (refine At (by(first | (with_reducible assumption) | omega | (simp only[A6,Bool.or_eq_true,Bool.not_eq_true',Bool.and_eq_false_imp,Bool.or_eq_false_iff,A9,decide_eq_false_iff_not,beq_iff_eq,bne_iff_ne,beq_eq_false_iff_ne,bne_eq_false_iff_eq,ne_eq,A4,List.length_replicate,List.length_append,List.length_cons,List.length_nil,List.length_take,Int.toNat_natCast];omega) | (with_reducible rfl))) ?_;conv=>lhs;whnf) | (refine Bv (by(first | (with_reducible assumption) | omega | (simp only[A6,Bool.or_eq_true,Bool.not_eq_true',Bool.and_eq_false_imp,Bool.or_eq_false_iff,A9,decide_eq_false_iff_not,beq_iff_eq,bne_iff_ne,beq_eq_false_iff_ne,bne_eq_false_iff_eq,ne_eq,A4,List.length_replicate,List.length_append,List.length_cons,List.length_nil,List.length_take,Int.toNat_natCast];omega) | (with_reducible rfl))) ?_;conv=>lhs;whnf) | (simp only[h1,hc1,hc2,hc3];conv=>lhs;whnf))
 rfl
theorem A7u (u:Ac) (c:A8) (m r:Int) (t:Nat) (n cp cr cb cm ct rn mn:Nat) (PC BF ME RO RH:List AV) (ms:List (List AV)) (call:B1) (code:List Aj) (x:Aj) (p:Nat) (e:Int)
 (h1:call false 35 [.agg [.int .i64 u.mod,.sl 1 (u.init.map A0),.sl 1 (u.regs.map A0),.sl 1 (u.code.map Aa)],.agg [.sl 1 (c.pc.map A0),.sl 1 (c.regs.map Ad),.sl 1 (c.mem.map A0),.sl 1 (c.buf.map Ae)],.int .i64 m,.int .i64 r,.int .i64 (t:Int)] []=some (.bool true,[]))
 (h2:call false 37 [.agg [.int .i64 u.mod,.sl 1 (u.init.map A0),.sl 1 (u.regs.map A0),.sl 1 (u.code.map Aa)],.agg [.sl 1 (c.pc.map A0),.sl 1 (c.regs.map Ad),.sl 1 (c.mem.map A0),.sl 1 (c.buf.map Ae)],.int .i64 (t:Int),.sl 3 (x.e.map Bh)] []=some (.int .i64 e,[]))
 (gc:nth? (u.code.map Aa) ((t:Int)).toNat=some (Aa code)) (gp:nth? (c.pc.map A0) ((t:Int)).toNat=some [.int .i64 (p:Int)]) (gx:nth? (code.map Bd) ((p:Int)).toNat=some (Bd x))
 (b1:t < u.code.length) (b2:t < c.pc.length) (b3:p < code.length) (b4:t < n) (lp:PC.length=n) (ew:IntKind.i64.wrap ((p:Int)+1)=((p+1:Nat):Int))
 (n20:¬ x.op=20) (n21:¬ x.op=21) (n2:¬ x.op=2) (n3:¬ x.op=3) (n4:¬ x.op=4) (n5:¬ x.op=5) (n6:¬ x.op=6) (n7:¬ x.op=7) :
 Av call u c m r t (Au u c Bg PC BF B4 (.var 1000001 RO) RH [.vsl 3 0 n cp,.vsl 7 0 n cr,.sl 1 ms,.vsl 4 0 n cb])=some (.tup [.agg [.vsl 3 0 n cp,.vsl 7 0 n cr,.sl 1 ms,.vsl 4 0 n cb],.bool true],Au u c [.vsl 3 0 n cp,.vsl 7 0 n cr,.sl 1 ms,.vsl 4 0 n cb] (B6 PC (0+((t:Int)).toNat) [.int .i64 ((p+1:Nat):Int)]) BF B4 (.var 1000001 RO) RH [.vsl 3 0 n cp,.vsl 7 0 n cr,.sl 1 ms,.vsl 4 0 n cb]++[D2 x]):=by
 have hc1:Program.cellsOf Try.prog 3=1:=by kernel_rfl
 have hc2:Program.cellsOf Try.prog 22=1:=by kernel_rfl
 have hc3:Program.cellsOf Try.prog 79=1:=by kernel_rfl
 unfold Av
 conv=>lhs;whnf
 repeat (first | (refine At (by(first | (with_reducible assumption) | omega | (simp only[A6,Bool.or_eq_true,Bool.not_eq_true',Bool.and_eq_false_imp,Bool.or_eq_false_iff,A9,decide_eq_false_iff_not,beq_iff_eq,bne_iff_ne,beq_eq_false_iff_ne,bne_eq_false_iff_eq,ne_eq,A4,List.length_replicate,List.length_append,List.length_cons,List.length_nil,List.length_take,Int.toNat_natCast];omega) | (with_reducible rfl))) ?_;conv=>lhs;whnf) | (refine Bv (by(first | (with_reducible assumption) | omega | (simp only[A6,Bool.or_eq_true,Bool.not_eq_true',Bool.and_eq_false_imp,Bool.or_eq_false_iff,A9,decide_eq_false_iff_not,beq_iff_eq,bne_iff_ne,beq_eq_false_iff_ne,bne_eq_false_iff_eq,ne_eq,A4,List.length_replicate,List.length_append,List.length_cons,List.length_nil,List.length_take,Int.toNat_natCast];omega) | (with_reducible rfl))) ?_;conv=>lhs;whnf) | (simp only[h1,h2,gc,gp,gx,ew,hc1,hc2,hc3];conv=>lhs;whnf))
 rfl
theorem A75 (u:Ac) (c:A8) (m r:Int) (t:Nat) (n cp cr cb cm ct rn mn:Nat) (PC BF ME RO RH:List AV) (ms:List (List AV)) (call:B1) (code:List Aj) (x:Aj) (p:Nat) (e:Int)
 (h1:call false 35 [.agg [.int .i64 u.mod,.sl 1 (u.init.map A0),.sl 1 (u.regs.map A0),.sl 1 (u.code.map Aa)],.agg [.sl 1 (c.pc.map A0),.sl 1 (c.regs.map Ad),.sl 1 (c.mem.map A0),.sl 1 (c.buf.map Ae)],.int .i64 m,.int .i64 r,.int .i64 (t:Int)] []=some (.bool true,[]))
 (h2:call false 37 [.agg [.int .i64 u.mod,.sl 1 (u.init.map A0),.sl 1 (u.regs.map A0),.sl 1 (u.code.map Aa)],.agg [.sl 1 (c.pc.map A0),.sl 1 (c.regs.map Ad),.sl 1 (c.mem.map A0),.sl 1 (c.buf.map Ae)],.int .i64 (t:Int),.sl 3 (x.e.map Bh)] []=some (.int .i64 e,[]))
 (gc:nth? (u.code.map Aa) ((t:Int)).toNat=some (Aa code)) (gp:nth? (c.pc.map A0) ((t:Int)).toNat=some [.int .i64 (p:Int)]) (gx:nth? (code.map Bd) ((p:Int)).toNat=some (Bd x))
 (b1:t < u.code.length) (b2:t < c.pc.length) (b3:p < code.length) (b4:t < n) (lp:PC.length=n) (ew:IntKind.i64.wrap ((p:Int)+1)=((p+1:Nat):Int))
 (hx:x.op=20) :
 Av call u c m r t (Au u c Bg PC BF B4 (.var 1000001 RO) RH [.vsl 3 0 n cp,.vsl 7 0 n cr,.sl 1 ms,.vsl 4 0 n cb])=some (.tup [.agg [.vsl 3 0 n cp,.vsl 7 0 n cr,.sl 1 ms,.vsl 4 0 n cb],.bool true],Au u c [.vsl 3 0 n cp,.vsl 7 0 n cr,.sl 1 ms,.vsl 4 0 n cb] (B6 (B6 PC (0+((t:Int)).toNat) [.int .i64 ((p+1:Nat):Int)]) (0+((t:Int)).toNat) [.int .i64 x.goal]) BF B4 (.var 1000001 RO) RH [.vsl 3 0 n cp,.vsl 7 0 n cr,.sl 1 ms,.vsl 4 0 n cb]++[D2 x]):=by
 have hc1:Program.cellsOf Try.prog 3=1:=by kernel_rfl
 have hc2:Program.cellsOf Try.prog 22=1:=by kernel_rfl
 have hc3:Program.cellsOf Try.prog 79=1:=by kernel_rfl
 have lq:∀ L:List AV,decide (0+((t:Int)).toNat+1≤(B6 PC (0+((t:Int)).toNat) L).length)=true:=fun L=>decide_eq_true (by
  have:=K8 (l:=PC) (k:=0+((t:Int)).toNat) (by rw[lp,Int.toNat_natCast];omega) L
  rw[Int.toNat_natCast] at this ⊢
  omega)
 unfold Av
 conv=>lhs;whnf
 repeat (first | (refine At (by(first | (with_reducible assumption) | omega | (simp only[A6,Bool.or_eq_true,Bool.not_eq_true',Bool.and_eq_false_imp,Bool.or_eq_false_iff,A9,decide_eq_false_iff_not,beq_iff_eq,bne_iff_ne,beq_eq_false_iff_ne,bne_eq_false_iff_eq,ne_eq,A4,List.length_replicate,List.length_append,List.length_cons,List.length_nil,List.length_take,Int.toNat_natCast];omega) | (with_reducible rfl))) ?_;conv=>lhs;whnf) | (refine Bv (by(first | (with_reducible assumption) | omega | (simp only[A6,Bool.or_eq_true,Bool.not_eq_true',Bool.and_eq_false_imp,Bool.or_eq_false_iff,A9,decide_eq_false_iff_not,beq_iff_eq,bne_iff_ne,beq_eq_false_iff_ne,bne_eq_false_iff_eq,ne_eq,A4,List.length_replicate,List.length_append,List.length_cons,List.length_nil,List.length_take,Int.toNat_natCast];omega) | (with_reducible rfl))) ?_;conv=>lhs;whnf) | (simp only[h1,h2,gc,gp,gx,ew,hc1,hc2,hc3,lq];conv=>lhs;whnf))
 rfl
theorem Ac3 (u:Ac) (c:A8) (m r:Int) (t:Nat) (n cp cr cb cm ct rn mn:Nat) (PC BF ME RO RH:List AV) (ms:List (List AV)) (call:B1) (code:List Aj) (x:Aj) (p:Nat) (e:Int)
 (h1:call false 35 [.agg [.int .i64 u.mod,.sl 1 (u.init.map A0),.sl 1 (u.regs.map A0),.sl 1 (u.code.map Aa)],.agg [.sl 1 (c.pc.map A0),.sl 1 (c.regs.map Ad),.sl 1 (c.mem.map A0),.sl 1 (c.buf.map Ae)],.int .i64 m,.int .i64 r,.int .i64 (t:Int)] []=some (.bool true,[]))
 (h2:call false 37 [.agg [.int .i64 u.mod,.sl 1 (u.init.map A0),.sl 1 (u.regs.map A0),.sl 1 (u.code.map Aa)],.agg [.sl 1 (c.pc.map A0),.sl 1 (c.regs.map Ad),.sl 1 (c.mem.map A0),.sl 1 (c.buf.map Ae)],.int .i64 (t:Int),.sl 3 (x.e.map Bh)] []=some (.int .i64 e,[]))
 (gc:nth? (u.code.map Aa) ((t:Int)).toNat=some (Aa code)) (gp:nth? (c.pc.map A0) ((t:Int)).toNat=some [.int .i64 (p:Int)]) (gx:nth? (code.map Bd) ((p:Int)).toNat=some (Bd x))
 (b1:t < u.code.length) (b2:t < c.pc.length) (b3:p < code.length) (b4:t < n) (lp:PC.length=n) (ew:IntKind.i64.wrap ((p:Int)+1)=((p+1:Nat):Int))
 (hx:x.op=21) (he:e=0) :
 Av call u c m r t (Au u c Bg PC BF B4 (.var 1000001 RO) RH [.vsl 3 0 n cp,.vsl 7 0 n cr,.sl 1 ms,.vsl 4 0 n cb])=some (.tup [.agg [.vsl 3 0 n cp,.vsl 7 0 n cr,.sl 1 ms,.vsl 4 0 n cb],.bool true],Au u c [.vsl 3 0 n cp,.vsl 7 0 n cr,.sl 1 ms,.vsl 4 0 n cb] (B6 (B6 PC (0+((t:Int)).toNat) [.int .i64 ((p+1:Nat):Int)]) (0+((t:Int)).toNat) [.int .i64 x.goal]) BF B4 (.var 1000001 RO) RH [.vsl 3 0 n cp,.vsl 7 0 n cr,.sl 1 ms,.vsl 4 0 n cb]++[D2 x]):=by
 have hc1:Program.cellsOf Try.prog 3=1:=by kernel_rfl
 have hc2:Program.cellsOf Try.prog 22=1:=by kernel_rfl
 have hc3:Program.cellsOf Try.prog 79=1:=by kernel_rfl
 have lq:∀ L:List AV,decide (0+((t:Int)).toNat+1≤(B6 PC (0+((t:Int)).toNat) L).length)=true:=fun L=>decide_eq_true (by
  have:=K8 (l:=PC) (k:=0+((t:Int)).toNat) (by rw[lp,Int.toNat_natCast];omega) L
  rw[Int.toNat_natCast] at this ⊢
  omega)
 unfold Av
 conv=>lhs;whnf
 repeat (first | (refine At (by(first | (with_reducible assumption) | omega | (simp only[A6,Bool.or_eq_true,Bool.not_eq_true',Bool.and_eq_false_imp,Bool.or_eq_false_iff,A9,decide_eq_false_iff_not,beq_iff_eq,bne_iff_ne,beq_eq_false_iff_ne,bne_eq_false_iff_eq,ne_eq,A4,List.length_replicate,List.length_append,List.length_cons,List.length_nil,List.length_take,Int.toNat_natCast];omega) | (with_reducible rfl))) ?_;conv=>lhs;whnf) | (refine Bv (by(first | (with_reducible assumption) | omega | (simp only[A6,Bool.or_eq_true,Bool.not_eq_true',Bool.and_eq_false_imp,Bool.or_eq_false_iff,A9,decide_eq_false_iff_not,beq_iff_eq,bne_iff_ne,beq_eq_false_iff_ne,bne_eq_false_iff_eq,ne_eq,A4,List.length_replicate,List.length_append,List.length_cons,List.length_nil,List.length_take,Int.toNat_natCast];omega) | (with_reducible rfl))) ?_;conv=>lhs;whnf) | (simp only[h1,h2,gc,gp,gx,ew,hc1,hc2,hc3,lq];conv=>lhs;whnf))
 rfl
theorem A95 (u:Ac) (c:A8) (m r:Int) (t:Nat) (n cp cr cb cm ct rn mn:Nat) (PC BF ME RO RH:List AV) (ms:List (List AV)) (call:B1) (code:List Aj) (x:Aj) (p:Nat) (e:Int)
 (h1:call false 35 [.agg [.int .i64 u.mod,.sl 1 (u.init.map A0),.sl 1 (u.regs.map A0),.sl 1 (u.code.map Aa)],.agg [.sl 1 (c.pc.map A0),.sl 1 (c.regs.map Ad),.sl 1 (c.mem.map A0),.sl 1 (c.buf.map Ae)],.int .i64 m,.int .i64 r,.int .i64 (t:Int)] []=some (.bool true,[]))
 (h2:call false 37 [.agg [.int .i64 u.mod,.sl 1 (u.init.map A0),.sl 1 (u.regs.map A0),.sl 1 (u.code.map Aa)],.agg [.sl 1 (c.pc.map A0),.sl 1 (c.regs.map Ad),.sl 1 (c.mem.map A0),.sl 1 (c.buf.map Ae)],.int .i64 (t:Int),.sl 3 (x.e.map Bh)] []=some (.int .i64 e,[]))
 (gc:nth? (u.code.map Aa) ((t:Int)).toNat=some (Aa code)) (gp:nth? (c.pc.map A0) ((t:Int)).toNat=some [.int .i64 (p:Int)]) (gx:nth? (code.map Bd) ((p:Int)).toNat=some (Bd x))
 (b1:t < u.code.length) (b2:t < c.pc.length) (b3:p < code.length) (b4:t < n) (lp:PC.length=n) (ew:IntKind.i64.wrap ((p:Int)+1)=((p+1:Nat):Int))
 (hx:x.op=21) (he:¬ e=0) :
 Av call u c m r t (Au u c Bg PC BF B4 (.var 1000001 RO) RH [.vsl 3 0 n cp,.vsl 7 0 n cr,.sl 1 ms,.vsl 4 0 n cb])=some (.tup [.agg [.vsl 3 0 n cp,.vsl 7 0 n cr,.sl 1 ms,.vsl 4 0 n cb],.bool true],Au u c [.vsl 3 0 n cp,.vsl 7 0 n cr,.sl 1 ms,.vsl 4 0 n cb] (B6 PC (0+((t:Int)).toNat) [.int .i64 ((p+1:Nat):Int)]) BF B4 (.var 1000001 RO) RH [.vsl 3 0 n cp,.vsl 7 0 n cr,.sl 1 ms,.vsl 4 0 n cb]++[D2 x]):=by
 have hc1:Program.cellsOf Try.prog 3=1:=by kernel_rfl
 have hc2:Program.cellsOf Try.prog 22=1:=by kernel_rfl
 have hc3:Program.cellsOf Try.prog 79=1:=by kernel_rfl
 unfold Av
 conv=>lhs;whnf
 repeat (first | (refine At (by(first | (with_reducible assumption) | omega | (simp only[A6,Bool.or_eq_true,Bool.not_eq_true',Bool.and_eq_false_imp,Bool.or_eq_false_iff,A9,decide_eq_false_iff_not,beq_iff_eq,bne_iff_ne,beq_eq_false_iff_ne,bne_eq_false_iff_eq,ne_eq,A4,List.length_replicate,List.length_append,List.length_cons,List.length_nil,List.length_take,Int.toNat_natCast];omega) | (with_reducible rfl))) ?_;conv=>lhs;whnf) | (refine Bv (by(first | (with_reducible assumption) | omega | (simp only[A6,Bool.or_eq_true,Bool.not_eq_true',Bool.and_eq_false_imp,Bool.or_eq_false_iff,A9,decide_eq_false_iff_not,beq_iff_eq,bne_iff_ne,beq_eq_false_iff_ne,bne_eq_false_iff_eq,ne_eq,A4,List.length_replicate,List.length_append,List.length_cons,List.length_nil,List.length_take,Int.toNat_natCast];omega) | (with_reducible rfl))) ?_;conv=>lhs;whnf) | (simp only[h1,h2,gc,gp,gx,ew,hc1,hc2,hc3];conv=>lhs;whnf))
 rfl
theorem A73 (u:Ac) (c:A8) (m r:Int) (t:Nat) (n cp cr cb cm ct rn mn:Nat) (PC BF ME RO RH:List AV) (ms:List (List AV)) (call:B1) (code:List Aj) (x:Aj) (p:Nat) (e:Int)
 (h1:call false 35 [.agg [.int .i64 u.mod,.sl 1 (u.init.map A0),.sl 1 (u.regs.map A0),.sl 1 (u.code.map Aa)],.agg [.sl 1 (c.pc.map A0),.sl 1 (c.regs.map Ad),.sl 1 (c.mem.map A0),.sl 1 (c.buf.map Ae)],.int .i64 m,.int .i64 r,.int .i64 (t:Int)] []=some (.bool true,[]))
 (h2:call false 37 [.agg [.int .i64 u.mod,.sl 1 (u.init.map A0),.sl 1 (u.regs.map A0),.sl 1 (u.code.map Aa)],.agg [.sl 1 (c.pc.map A0),.sl 1 (c.regs.map Ad),.sl 1 (c.mem.map A0),.sl 1 (c.buf.map Ae)],.int .i64 (t:Int),.sl 3 (x.e.map Bh)] []=some (.int .i64 e,[]))
 (gc:nth? (u.code.map Aa) ((t:Int)).toNat=some (Aa code)) (gp:nth? (c.pc.map A0) ((t:Int)).toNat=some [.int .i64 (p:Int)]) (gx:nth? (code.map Bd) ((p:Int)).toNat=some (Bd x))
 (b1:t < u.code.length) (b2:t < c.pc.length) (b3:p < code.length) (b4:t < n) (lp:PC.length=n) (ew:IntKind.i64.wrap ((p:Int)+1)=((p+1:Nat):Int))
 (hx:x.op=4) (hm:¬ m=1) (bt b2:List A2) (gb:nth? (c.buf.map Ae) ((t:Int)).toNat=some [.sl 2 (bt.map Ak)]) (b5:t < c.buf.length) (lb:BF.length=n) (h3:call false 39 [.sl 2 (bt.map Ak),.int .i64 m,.agg [.int .i64 x.loc,.int .i64 e]] []=some (.sl 2 (b2.map Ak),[])) :
 Av call u c m r t (Au u c Bg PC BF B4 (.var 1000001 RO) RH [.vsl 3 0 n cp,.vsl 7 0 n cr,.sl 1 ms,.vsl 4 0 n cb])=some (.tup [.agg [.vsl 3 0 n cp,.vsl 7 0 n cr,.sl 1 ms,.vsl 4 0 n cb],.bool true],Au u c [.vsl 3 0 n cp,.vsl 7 0 n cr,.sl 1 ms,.vsl 4 0 n cb] (B6 PC (0+((t:Int)).toNat) [.int .i64 ((p+1:Nat):Int)]) (B6 BF (0+((t:Int)).toNat) [.sl 2 (b2.map Ak)]) B4 (.var 1000001 RO) RH [.vsl 3 0 n cp,.vsl 7 0 n cr,.sl 1 ms,.vsl 4 0 n cb]++[D2 x]):=by
 have hc1:Program.cellsOf Try.prog 3=1:=by kernel_rfl
 have hc2:Program.cellsOf Try.prog 22=1:=by kernel_rfl
 have hc3:Program.cellsOf Try.prog 79=1:=by kernel_rfl
 unfold Av
 conv=>lhs;whnf
 repeat (first | (refine At (by(first | (with_reducible assumption) | omega | (simp only[A6,Bool.or_eq_true,Bool.not_eq_true',Bool.and_eq_false_imp,Bool.or_eq_false_iff,A9,decide_eq_false_iff_not,beq_iff_eq,bne_iff_ne,beq_eq_false_iff_ne,bne_eq_false_iff_eq,ne_eq,A4,List.length_replicate,List.length_append,List.length_cons,List.length_nil,List.length_take,Int.toNat_natCast];omega) | (with_reducible rfl))) ?_;conv=>lhs;whnf) | (refine Bv (by(first | (with_reducible assumption) | omega | (simp only[A6,Bool.or_eq_true,Bool.not_eq_true',Bool.and_eq_false_imp,Bool.or_eq_false_iff,A9,decide_eq_false_iff_not,beq_iff_eq,bne_iff_ne,beq_eq_false_iff_ne,bne_eq_false_iff_eq,ne_eq,A4,List.length_replicate,List.length_append,List.length_cons,List.length_nil,List.length_take,Int.toNat_natCast];omega) | (with_reducible rfl))) ?_;conv=>lhs;whnf) | (simp only[h1,h2,gc,gp,gx,ew,hc1,hc2,hc3,h3,gb];conv=>lhs;whnf))
 rfl
theorem Ab3 (u:Ac) (c:A8) (m r:Int) (t:Nat) (n cp cr cb cm ct rn mn:Nat) (PC BF ME RO RH:List AV) (ms:List (List AV)) (call:B1) (code:List Aj) (x:Aj) (p:Nat) (e:Int)
 (h1:call false 35 [.agg [.int .i64 u.mod,.sl 1 (u.init.map A0),.sl 1 (u.regs.map A0),.sl 1 (u.code.map Aa)],.agg [.sl 1 (c.pc.map A0),.sl 1 (c.regs.map Ad),.sl 1 (c.mem.map A0),.sl 1 (c.buf.map Ae)],.int .i64 m,.int .i64 r,.int .i64 (t:Int)] []=some (.bool true,[]))
 (h2:call false 37 [.agg [.int .i64 u.mod,.sl 1 (u.init.map A0),.sl 1 (u.regs.map A0),.sl 1 (u.code.map Aa)],.agg [.sl 1 (c.pc.map A0),.sl 1 (c.regs.map Ad),.sl 1 (c.mem.map A0),.sl 1 (c.buf.map Ae)],.int .i64 (t:Int),.sl 3 (x.e.map Bh)] []=some (.int .i64 e,[]))
 (gc:nth? (u.code.map Aa) ((t:Int)).toNat=some (Aa code)) (gp:nth? (c.pc.map A0) ((t:Int)).toNat=some [.int .i64 (p:Int)]) (gx:nth? (code.map Bd) ((p:Int)).toNat=some (Bd x))
 (b1:t < u.code.length) (b2:t < c.pc.length) (b3:p < code.length) (b4:t < n) (lp:PC.length=n) (ew:IntKind.i64.wrap ((p:Int)+1)=((p+1:Nat):Int))
 (hx:x.op=2) (lr:RH.length=n) (gr:List.take 1 (List.drop (0+((t:Int)).toNat) RH)=[.vsl 6 0 rn ct]) (lro:RO.length=rn) (b5:0≤x.reg) (b6:x.reg < rn) :
 Av call u c m r t (Au u c Bg PC BF B4 (.var 1000001 RO) RH [.vsl 3 0 n cp,.vsl 7 0 n cr,.sl 1 ms,.vsl 4 0 n cb])=some (.tup [.agg [.vsl 3 0 n cp,.vsl 7 0 n cr,.sl 1 ms,.vsl 4 0 n cb],.bool true],Au u c [.vsl 3 0 n cp,.vsl 7 0 n cr,.sl 1 ms,.vsl 4 0 n cb] (B6 PC (0+((t:Int)).toNat) [.int .i64 ((p+1:Nat):Int)]) BF B4 (.var 1000001 (B6 RO (0+x.reg.toNat) [.int .i64 e])) RH [.vsl 3 0 n cp,.vsl 7 0 n cr,.sl 1 ms,.vsl 4 0 n cb]++[D2 x]):=by
 have hc1:Program.cellsOf Try.prog 3=1:=by kernel_rfl
 have hc2:Program.cellsOf Try.prog 22=1:=by kernel_rfl
 have hc3:Program.cellsOf Try.prog 79=1:=by kernel_rfl
 unfold Av
 conv=>lhs;whnf
 repeat (first | (refine At (by(first | (with_reducible assumption) | omega | (simp only[A6,Bool.or_eq_true,Bool.not_eq_true',Bool.and_eq_false_imp,Bool.or_eq_false_iff,A9,decide_eq_false_iff_not,beq_iff_eq,bne_iff_ne,beq_eq_false_iff_ne,bne_eq_false_iff_eq,ne_eq,A4,List.length_replicate,List.length_append,List.length_cons,List.length_nil,List.length_take,Int.toNat_natCast];omega) | (with_reducible rfl))) ?_;conv=>lhs;whnf) | (refine Bv (by(first | (with_reducible assumption) | omega | (simp only[A6,Bool.or_eq_true,Bool.not_eq_true',Bool.and_eq_false_imp,Bool.or_eq_false_iff,A9,decide_eq_false_iff_not,beq_iff_eq,bne_iff_ne,beq_eq_false_iff_ne,bne_eq_false_iff_eq,ne_eq,A4,List.length_replicate,List.length_append,List.length_cons,List.length_nil,List.length_take,Int.toNat_natCast];omega) | (with_reducible rfl))) ?_;conv=>lhs;whnf) | (simp only[h1,h2,gc,gp,gx,ew,hc1,hc2,hc3,gr];conv=>lhs;whnf))
 rfl
theorem A8a (u:Ac) (c:A8) (m r:Int) (t:Nat) (n cp cr cb cm ct rn mn:Nat) (PC BF ME RO RH:List AV) (ms:List (List AV)) (call:B1) (code:List Aj) (x:Aj) (p:Nat) (e:Int)
 (h1:call false 35 [.agg [.int .i64 u.mod,.sl 1 (u.init.map A0),.sl 1 (u.regs.map A0),.sl 1 (u.code.map Aa)],.agg [.sl 1 (c.pc.map A0),.sl 1 (c.regs.map Ad),.sl 1 (c.mem.map A0),.sl 1 (c.buf.map Ae)],.int .i64 m,.int .i64 r,.int .i64 (t:Int)] []=some (.bool true,[]))
 (h2:call false 37 [.agg [.int .i64 u.mod,.sl 1 (u.init.map A0),.sl 1 (u.regs.map A0),.sl 1 (u.code.map Aa)],.agg [.sl 1 (c.pc.map A0),.sl 1 (c.regs.map Ad),.sl 1 (c.mem.map A0),.sl 1 (c.buf.map Ae)],.int .i64 (t:Int),.sl 3 (x.e.map Bh)] []=some (.int .i64 e,[]))
 (gc:nth? (u.code.map Aa) ((t:Int)).toNat=some (Aa code)) (gp:nth? (c.pc.map A0) ((t:Int)).toNat=some [.int .i64 (p:Int)]) (gx:nth? (code.map Bd) ((p:Int)).toNat=some (Bd x))
 (b1:t < u.code.length) (b2:t < c.pc.length) (b3:p < code.length) (b4:t < n) (lp:PC.length=n) (ew:IntKind.i64.wrap ((p:Int)+1)=((p+1:Nat):Int))
 (hx:x.op=3) (lr:RH.length=n) (gr:List.take 1 (List.drop (0+((t:Int)).toNat) RH)=[.vsl 6 0 rn ct]) (lro:RO.length=rn) (b5:0≤x.reg) (b6:x.reg < rn) (d:Int) (h3:call false 38 [.agg [.sl 1 (c.pc.map A0),.sl 1 (c.regs.map Ad),.sl 1 (c.mem.map A0),.sl 1 (c.buf.map Ae)],.int .i64 (t:Int),.int .i64 x.loc] []=some (.int .i64 d,[])) :
 Av call u c m r t (Au u c Bg PC BF B4 (.var 1000001 RO) RH [.vsl 3 0 n cp,.vsl 7 0 n cr,.sl 1 ms,.vsl 4 0 n cb])=some (.tup [.agg [.vsl 3 0 n cp,.vsl 7 0 n cr,.sl 1 ms,.vsl 4 0 n cb],.bool true],Au u c [.vsl 3 0 n cp,.vsl 7 0 n cr,.sl 1 ms,.vsl 4 0 n cb] (B6 PC (0+((t:Int)).toNat) [.int .i64 ((p+1:Nat):Int)]) BF B4 (.var 1000001 (B6 RO (0+x.reg.toNat) [.int .i64 d])) RH [.vsl 3 0 n cp,.vsl 7 0 n cr,.sl 1 ms,.vsl 4 0 n cb]++[D2 x]):=by
 have hc1:Program.cellsOf Try.prog 3=1:=by kernel_rfl
 have hc2:Program.cellsOf Try.prog 22=1:=by kernel_rfl
 have hc3:Program.cellsOf Try.prog 79=1:=by kernel_rfl
 unfold Av
 conv=>lhs;whnf
 repeat (first | (refine At (by(first | (with_reducible assumption) | omega | (simp only[A6,Bool.or_eq_true,Bool.not_eq_true',Bool.and_eq_false_imp,Bool.or_eq_false_iff,A9,decide_eq_false_iff_not,beq_iff_eq,bne_iff_ne,beq_eq_false_iff_ne,bne_eq_false_iff_eq,ne_eq,A4,List.length_replicate,List.length_append,List.length_cons,List.length_nil,List.length_take,Int.toNat_natCast];omega) | (with_reducible rfl))) ?_;conv=>lhs;whnf) | (refine Bv (by(first | (with_reducible assumption) | omega | (simp only[A6,Bool.or_eq_true,Bool.not_eq_true',Bool.and_eq_false_imp,Bool.or_eq_false_iff,A9,decide_eq_false_iff_not,beq_iff_eq,bne_iff_ne,beq_eq_false_iff_ne,bne_eq_false_iff_eq,ne_eq,A4,List.length_replicate,List.length_append,List.length_cons,List.length_nil,List.length_take,Int.toNat_natCast];omega) | (with_reducible rfl))) ?_;conv=>lhs;whnf) | (simp only[h1,h2,gc,gp,gx,ew,hc1,hc2,hc3,gr,h3];conv=>lhs;whnf))
 rfl
theorem Ab9 (u:Ac) (c:A8) (m r:Int) (t:Nat) (n cp cr cb cm ct rn mn:Nat) (PC BF ME RO RH:List AV) (ms:List (List AV)) (call:B1)
 (h1:call false 35 [.agg [.int .i64 u.mod,.sl 1 (u.init.map A0),.sl 1 (u.regs.map A0),.sl 1 (u.code.map Aa)],.agg [.sl 1 (c.pc.map A0),.sl 1 (c.regs.map Ad),.sl 1 (c.mem.map A0),.sl 1 (c.buf.map Ae)],.int .i64 m,.int .i64 r,.int .i64 (t:Int)] []=some (.bool false,[]))
  :
 Av call u c m r t (Au u c Bg PC BF B4 B4 RH [.vsl 3 0 n cp,.vsl 7 0 n cr,.sl 1 ms,.vsl 4 0 n cb])=some (.tup [.agg [.vsl 3 0 n cp,.vsl 7 0 n cr,.sl 1 ms,.vsl 4 0 n cb],.bool false],Au u c [.vsl 3 0 n cp,.vsl 7 0 n cr,.sl 1 ms,.vsl 4 0 n cb] PC BF B4 B4 RH [.vsl 3 0 n cp,.vsl 7 0 n cr,.sl 1 ms,.vsl 4 0 n cb]):=by
 have hc1:Program.cellsOf Try.prog 3=1:=by kernel_rfl
 have hc2:Program.cellsOf Try.prog 22=1:=by kernel_rfl
 have hc3:Program.cellsOf Try.prog 79=1:=by kernel_rfl
 unfold Av
 conv=>lhs;whnf
 repeat (first | (refine At (by(first | (with_reducible assumption) | omega | (simp only[A6,Bool.or_eq_true,Bool.not_eq_true',Bool.and_eq_false_imp,Bool.or_eq_false_iff,A9,decide_eq_false_iff_not,beq_iff_eq,bne_iff_ne,beq_eq_false_iff_ne,bne_eq_false_iff_eq,ne_eq,A4,List.length_replicate,List.length_append,List.length_cons,List.length_nil,List.length_take,Int.toNat_natCast];omega) | (with_reducible rfl))) ?_;conv=>lhs;whnf) | (refine Bv (by(first | (with_reducible assumption) | omega | (simp only[A6,Bool.or_eq_true,Bool.not_eq_true',Bool.and_eq_false_imp,Bool.or_eq_false_iff,A9,decide_eq_false_iff_not,beq_iff_eq,bne_iff_ne,beq_eq_false_iff_ne,bne_eq_false_iff_eq,ne_eq,A4,List.length_replicate,List.length_append,List.length_cons,List.length_nil,List.length_take,Int.toNat_natCast];omega) | (with_reducible rfl))) ?_;conv=>lhs;whnf) | (simp only[h1,hc1,hc2,hc3];conv=>lhs;whnf))
 rfl
theorem A7b (u:Ac) (c:A8) (m r:Int) (t:Nat) (n cp cr cb cm ct rn mn:Nat) (PC BF ME RO RH:List AV) (ms:List (List AV)) (call:B1) (code:List Aj) (x:Aj) (p:Nat) (e:Int)
 (h1:call false 35 [.agg [.int .i64 u.mod,.sl 1 (u.init.map A0),.sl 1 (u.regs.map A0),.sl 1 (u.code.map Aa)],.agg [.sl 1 (c.pc.map A0),.sl 1 (c.regs.map Ad),.sl 1 (c.mem.map A0),.sl 1 (c.buf.map Ae)],.int .i64 m,.int .i64 r,.int .i64 (t:Int)] []=some (.bool true,[]))
 (h2:call false 37 [.agg [.int .i64 u.mod,.sl 1 (u.init.map A0),.sl 1 (u.regs.map A0),.sl 1 (u.code.map Aa)],.agg [.sl 1 (c.pc.map A0),.sl 1 (c.regs.map Ad),.sl 1 (c.mem.map A0),.sl 1 (c.buf.map Ae)],.int .i64 (t:Int),.sl 3 (x.e.map Bh)] []=some (.int .i64 e,[]))
 (gc:nth? (u.code.map Aa) ((t:Int)).toNat=some (Aa code)) (gp:nth? (c.pc.map A0) ((t:Int)).toNat=some [.int .i64 (p:Int)]) (gx:nth? (code.map Bd) ((p:Int)).toNat=some (Bd x))
 (b1:t < u.code.length) (b2:t < c.pc.length) (b3:p < code.length) (b4:t < n) (lp:PC.length=n) (ew:IntKind.i64.wrap ((p:Int)+1)=((p+1:Nat):Int))
 (n20:¬ x.op=20) (n21:¬ x.op=21) (n2:¬ x.op=2) (n3:¬ x.op=3) (n4:¬ x.op=4) (n5:¬ x.op=5) (n6:¬ x.op=6) (n7:¬ x.op=7) :
 Av call u c m r t (Au u c Bg PC BF B4 B4 RH [.vsl 3 0 n cp,.vsl 7 0 n cr,.sl 1 ms,.vsl 4 0 n cb])=some (.tup [.agg [.vsl 3 0 n cp,.vsl 7 0 n cr,.sl 1 ms,.vsl 4 0 n cb],.bool true],Au u c [.vsl 3 0 n cp,.vsl 7 0 n cr,.sl 1 ms,.vsl 4 0 n cb] (B6 PC (0+((t:Int)).toNat) [.int .i64 ((p+1:Nat):Int)]) BF B4 B4 RH [.vsl 3 0 n cp,.vsl 7 0 n cr,.sl 1 ms,.vsl 4 0 n cb]++[D2 x]):=by
 have hc1:Program.cellsOf Try.prog 3=1:=by kernel_rfl
 have hc2:Program.cellsOf Try.prog 22=1:=by kernel_rfl
 have hc3:Program.cellsOf Try.prog 79=1:=by kernel_rfl
 unfold Av
 conv=>lhs;whnf
 repeat (first | (refine At (by(first | (with_reducible assumption) | omega | (simp only[A6,Bool.or_eq_true,Bool.not_eq_true',Bool.and_eq_false_imp,Bool.or_eq_false_iff,A9,decide_eq_false_iff_not,beq_iff_eq,bne_iff_ne,beq_eq_false_iff_ne,bne_eq_false_iff_eq,ne_eq,A4,List.length_replicate,List.length_append,List.length_cons,List.length_nil,List.length_take,Int.toNat_natCast];omega) | (with_reducible rfl))) ?_;conv=>lhs;whnf) | (refine Bv (by(first | (with_reducible assumption) | omega | (simp only[A6,Bool.or_eq_true,Bool.not_eq_true',Bool.and_eq_false_imp,Bool.or_eq_false_iff,A9,decide_eq_false_iff_not,beq_iff_eq,bne_iff_ne,beq_eq_false_iff_ne,bne_eq_false_iff_eq,ne_eq,A4,List.length_replicate,List.length_append,List.length_cons,List.length_nil,List.length_take,Int.toNat_natCast];omega) | (with_reducible rfl))) ?_;conv=>lhs;whnf) | (simp only[h1,h2,gc,gp,gx,ew,hc1,hc2,hc3];conv=>lhs;whnf))
 rfl
theorem A7e (u:Ac) (c:A8) (m r:Int) (t:Nat) (n cp cr cb cm ct rn mn:Nat) (PC BF ME RO RH:List AV) (ms:List (List AV)) (call:B1) (code:List Aj) (x:Aj) (p:Nat) (e:Int)
 (h1:call false 35 [.agg [.int .i64 u.mod,.sl 1 (u.init.map A0),.sl 1 (u.regs.map A0),.sl 1 (u.code.map Aa)],.agg [.sl 1 (c.pc.map A0),.sl 1 (c.regs.map Ad),.sl 1 (c.mem.map A0),.sl 1 (c.buf.map Ae)],.int .i64 m,.int .i64 r,.int .i64 (t:Int)] []=some (.bool true,[]))
 (h2:call false 37 [.agg [.int .i64 u.mod,.sl 1 (u.init.map A0),.sl 1 (u.regs.map A0),.sl 1 (u.code.map Aa)],.agg [.sl 1 (c.pc.map A0),.sl 1 (c.regs.map Ad),.sl 1 (c.mem.map A0),.sl 1 (c.buf.map Ae)],.int .i64 (t:Int),.sl 3 (x.e.map Bh)] []=some (.int .i64 e,[]))
 (gc:nth? (u.code.map Aa) ((t:Int)).toNat=some (Aa code)) (gp:nth? (c.pc.map A0) ((t:Int)).toNat=some [.int .i64 (p:Int)]) (gx:nth? (code.map Bd) ((p:Int)).toNat=some (Bd x))
 (b1:t < u.code.length) (b2:t < c.pc.length) (b3:p < code.length) (b4:t < n) (lp:PC.length=n) (ew:IntKind.i64.wrap ((p:Int)+1)=((p+1:Nat):Int))
 (hx:x.op=20) :
 Av call u c m r t (Au u c Bg PC BF B4 B4 RH [.vsl 3 0 n cp,.vsl 7 0 n cr,.sl 1 ms,.vsl 4 0 n cb])=some (.tup [.agg [.vsl 3 0 n cp,.vsl 7 0 n cr,.sl 1 ms,.vsl 4 0 n cb],.bool true],Au u c [.vsl 3 0 n cp,.vsl 7 0 n cr,.sl 1 ms,.vsl 4 0 n cb] (B6 (B6 PC (0+((t:Int)).toNat) [.int .i64 ((p+1:Nat):Int)]) (0+((t:Int)).toNat) [.int .i64 x.goal]) BF B4 B4 RH [.vsl 3 0 n cp,.vsl 7 0 n cr,.sl 1 ms,.vsl 4 0 n cb]++[D2 x]):=by
 have hc1:Program.cellsOf Try.prog 3=1:=by kernel_rfl
 have hc2:Program.cellsOf Try.prog 22=1:=by kernel_rfl
 have hc3:Program.cellsOf Try.prog 79=1:=by kernel_rfl
 have lq:∀ L:List AV,decide (0+((t:Int)).toNat+1≤(B6 PC (0+((t:Int)).toNat) L).length)=true:=fun L=>decide_eq_true (by
  have:=K8 (l:=PC) (k:=0+((t:Int)).toNat) (by rw[lp,Int.toNat_natCast];omega) L
  rw[Int.toNat_natCast] at this ⊢
  omega)
 unfold Av
 conv=>lhs;whnf
 repeat (first | (refine At (by(first | (with_reducible assumption) | omega | (simp only[A6,Bool.or_eq_true,Bool.not_eq_true',Bool.and_eq_false_imp,Bool.or_eq_false_iff,A9,decide_eq_false_iff_not,beq_iff_eq,bne_iff_ne,beq_eq_false_iff_ne,bne_eq_false_iff_eq,ne_eq,A4,List.length_replicate,List.length_append,List.length_cons,List.length_nil,List.length_take,Int.toNat_natCast];omega) | (with_reducible rfl))) ?_;conv=>lhs;whnf) | (refine Bv (by(first | (with_reducible assumption) | omega | (simp only[A6,Bool.or_eq_true,Bool.not_eq_true',Bool.and_eq_false_imp,Bool.or_eq_false_iff,A9,decide_eq_false_iff_not,beq_iff_eq,bne_iff_ne,beq_eq_false_iff_ne,bne_eq_false_iff_eq,ne_eq,A4,List.length_replicate,List.length_append,List.length_cons,List.length_nil,List.length_take,Int.toNat_natCast];omega) | (with_reducible rfl))) ?_;conv=>lhs;whnf) | (simp only[h1,h2,gc,gp,gx,ew,hc1,hc2,hc3,lq];conv=>lhs;whnf))
 rfl
theorem Aco (u:Ac) (c:A8) (m r:Int) (t:Nat) (n cp cr cb cm ct rn mn:Nat) (PC BF ME RO RH:List AV) (ms:List (List AV)) (call:B1) (code:List Aj) (x:Aj) (p:Nat) (e:Int)
 (h1:call false 35 [.agg [.int .i64 u.mod,.sl 1 (u.init.map A0),.sl 1 (u.regs.map A0),.sl 1 (u.code.map Aa)],.agg [.sl 1 (c.pc.map A0),.sl 1 (c.regs.map Ad),.sl 1 (c.mem.map A0),.sl 1 (c.buf.map Ae)],.int .i64 m,.int .i64 r,.int .i64 (t:Int)] []=some (.bool true,[]))
 (h2:call false 37 [.agg [.int .i64 u.mod,.sl 1 (u.init.map A0),.sl 1 (u.regs.map A0),.sl 1 (u.code.map Aa)],.agg [.sl 1 (c.pc.map A0),.sl 1 (c.regs.map Ad),.sl 1 (c.mem.map A0),.sl 1 (c.buf.map Ae)],.int .i64 (t:Int),.sl 3 (x.e.map Bh)] []=some (.int .i64 e,[]))
 (gc:nth? (u.code.map Aa) ((t:Int)).toNat=some (Aa code)) (gp:nth? (c.pc.map A0) ((t:Int)).toNat=some [.int .i64 (p:Int)]) (gx:nth? (code.map Bd) ((p:Int)).toNat=some (Bd x))
 (b1:t < u.code.length) (b2:t < c.pc.length) (b3:p < code.length) (b4:t < n) (lp:PC.length=n) (ew:IntKind.i64.wrap ((p:Int)+1)=((p+1:Nat):Int))
 (hx:x.op=21) (he:e=0) :
 Av call u c m r t (Au u c Bg PC BF B4 B4 RH [.vsl 3 0 n cp,.vsl 7 0 n cr,.sl 1 ms,.vsl 4 0 n cb])=some (.tup [.agg [.vsl 3 0 n cp,.vsl 7 0 n cr,.sl 1 ms,.vsl 4 0 n cb],.bool true],Au u c [.vsl 3 0 n cp,.vsl 7 0 n cr,.sl 1 ms,.vsl 4 0 n cb] (B6 (B6 PC (0+((t:Int)).toNat) [.int .i64 ((p+1:Nat):Int)]) (0+((t:Int)).toNat) [.int .i64 x.goal]) BF B4 B4 RH [.vsl 3 0 n cp,.vsl 7 0 n cr,.sl 1 ms,.vsl 4 0 n cb]++[D2 x]):=by
 have hc1:Program.cellsOf Try.prog 3=1:=by kernel_rfl
 have hc2:Program.cellsOf Try.prog 22=1:=by kernel_rfl
 have hc3:Program.cellsOf Try.prog 79=1:=by kernel_rfl
 have lq:∀ L:List AV,decide (0+((t:Int)).toNat+1≤(B6 PC (0+((t:Int)).toNat) L).length)=true:=fun L=>decide_eq_true (by
  have:=K8 (l:=PC) (k:=0+((t:Int)).toNat) (by rw[lp,Int.toNat_natCast];omega) L
  rw[Int.toNat_natCast] at this ⊢
  omega)
 unfold Av
 conv=>lhs;whnf
 repeat (first | (refine At (by(first | (with_reducible assumption) | omega | (simp only[A6,Bool.or_eq_true,Bool.not_eq_true',Bool.and_eq_false_imp,Bool.or_eq_false_iff,A9,decide_eq_false_iff_not,beq_iff_eq,bne_iff_ne,beq_eq_false_iff_ne,bne_eq_false_iff_eq,ne_eq,A4,List.length_replicate,List.length_append,List.length_cons,List.length_nil,List.length_take,Int.toNat_natCast];omega) | (with_reducible rfl))) ?_;conv=>lhs;whnf) | (refine Bv (by(first | (with_reducible assumption) | omega | (simp only[A6,Bool.or_eq_true,Bool.not_eq_true',Bool.and_eq_false_imp,Bool.or_eq_false_iff,A9,decide_eq_false_iff_not,beq_iff_eq,bne_iff_ne,beq_eq_false_iff_ne,bne_eq_false_iff_eq,ne_eq,A4,List.length_replicate,List.length_append,List.length_cons,List.length_nil,List.length_take,Int.toNat_natCast];omega) | (with_reducible rfl))) ?_;conv=>lhs;whnf) | (simp only[h1,h2,gc,gp,gx,ew,hc1,hc2,hc3,lq];conv=>lhs;whnf))
 rfl
theorem A9m (u:Ac) (c:A8) (m r:Int) (t:Nat) (n cp cr cb cm ct rn mn:Nat) (PC BF ME RO RH:List AV) (ms:List (List AV)) (call:B1) (code:List Aj) (x:Aj) (p:Nat) (e:Int)
 (h1:call false 35 [.agg [.int .i64 u.mod,.sl 1 (u.init.map A0),.sl 1 (u.regs.map A0),.sl 1 (u.code.map Aa)],.agg [.sl 1 (c.pc.map A0),.sl 1 (c.regs.map Ad),.sl 1 (c.mem.map A0),.sl 1 (c.buf.map Ae)],.int .i64 m,.int .i64 r,.int .i64 (t:Int)] []=some (.bool true,[]))
 (h2:call false 37 [.agg [.int .i64 u.mod,.sl 1 (u.init.map A0),.sl 1 (u.regs.map A0),.sl 1 (u.code.map Aa)],.agg [.sl 1 (c.pc.map A0),.sl 1 (c.regs.map Ad),.sl 1 (c.mem.map A0),.sl 1 (c.buf.map Ae)],.int .i64 (t:Int),.sl 3 (x.e.map Bh)] []=some (.int .i64 e,[]))
 (gc:nth? (u.code.map Aa) ((t:Int)).toNat=some (Aa code)) (gp:nth? (c.pc.map A0) ((t:Int)).toNat=some [.int .i64 (p:Int)]) (gx:nth? (code.map Bd) ((p:Int)).toNat=some (Bd x))
 (b1:t < u.code.length) (b2:t < c.pc.length) (b3:p < code.length) (b4:t < n) (lp:PC.length=n) (ew:IntKind.i64.wrap ((p:Int)+1)=((p+1:Nat):Int))
 (hx:x.op=21) (he:¬ e=0) :
 Av call u c m r t (Au u c Bg PC BF B4 B4 RH [.vsl 3 0 n cp,.vsl 7 0 n cr,.sl 1 ms,.vsl 4 0 n cb])=some (.tup [.agg [.vsl 3 0 n cp,.vsl 7 0 n cr,.sl 1 ms,.vsl 4 0 n cb],.bool true],Au u c [.vsl 3 0 n cp,.vsl 7 0 n cr,.sl 1 ms,.vsl 4 0 n cb] (B6 PC (0+((t:Int)).toNat) [.int .i64 ((p+1:Nat):Int)]) BF B4 B4 RH [.vsl 3 0 n cp,.vsl 7 0 n cr,.sl 1 ms,.vsl 4 0 n cb]++[D2 x]):=by
 have hc1:Program.cellsOf Try.prog 3=1:=by kernel_rfl
 have hc2:Program.cellsOf Try.prog 22=1:=by kernel_rfl
 have hc3:Program.cellsOf Try.prog 79=1:=by kernel_rfl
 unfold Av
 conv=>lhs;whnf
 repeat (first | (refine At (by(first | (with_reducible assumption) | omega | (simp only[A6,Bool.or_eq_true,Bool.not_eq_true',Bool.and_eq_false_imp,Bool.or_eq_false_iff,A9,decide_eq_false_iff_not,beq_iff_eq,bne_iff_ne,beq_eq_false_iff_ne,bne_eq_false_iff_eq,ne_eq,A4,List.length_replicate,List.length_append,List.length_cons,List.length_nil,List.length_take,Int.toNat_natCast];omega) | (with_reducible rfl))) ?_;conv=>lhs;whnf) | (refine Bv (by(first | (with_reducible assumption) | omega | (simp only[A6,Bool.or_eq_true,Bool.not_eq_true',Bool.and_eq_false_imp,Bool.or_eq_false_iff,A9,decide_eq_false_iff_not,beq_iff_eq,bne_iff_ne,beq_eq_false_iff_ne,bne_eq_false_iff_eq,ne_eq,A4,List.length_replicate,List.length_append,List.length_cons,List.length_nil,List.length_take,Int.toNat_natCast];omega) | (with_reducible rfl))) ?_;conv=>lhs;whnf) | (simp only[h1,h2,gc,gp,gx,ew,hc1,hc2,hc3];conv=>lhs;whnf))
 rfl
theorem A7k (u:Ac) (c:A8) (m r:Int) (t:Nat) (n cp cr cb cm ct rn mn:Nat) (PC BF ME RO RH:List AV) (ms:List (List AV)) (call:B1) (code:List Aj) (x:Aj) (p:Nat) (e:Int)
 (h1:call false 35 [.agg [.int .i64 u.mod,.sl 1 (u.init.map A0),.sl 1 (u.regs.map A0),.sl 1 (u.code.map Aa)],.agg [.sl 1 (c.pc.map A0),.sl 1 (c.regs.map Ad),.sl 1 (c.mem.map A0),.sl 1 (c.buf.map Ae)],.int .i64 m,.int .i64 r,.int .i64 (t:Int)] []=some (.bool true,[]))
 (h2:call false 37 [.agg [.int .i64 u.mod,.sl 1 (u.init.map A0),.sl 1 (u.regs.map A0),.sl 1 (u.code.map Aa)],.agg [.sl 1 (c.pc.map A0),.sl 1 (c.regs.map Ad),.sl 1 (c.mem.map A0),.sl 1 (c.buf.map Ae)],.int .i64 (t:Int),.sl 3 (x.e.map Bh)] []=some (.int .i64 e,[]))
 (gc:nth? (u.code.map Aa) ((t:Int)).toNat=some (Aa code)) (gp:nth? (c.pc.map A0) ((t:Int)).toNat=some [.int .i64 (p:Int)]) (gx:nth? (code.map Bd) ((p:Int)).toNat=some (Bd x))
 (b1:t < u.code.length) (b2:t < c.pc.length) (b3:p < code.length) (b4:t < n) (lp:PC.length=n) (ew:IntKind.i64.wrap ((p:Int)+1)=((p+1:Nat):Int))
 (hx:x.op=4) (hm:¬ m=1) (bt b2:List A2) (gb:nth? (c.buf.map Ae) ((t:Int)).toNat=some [.sl 2 (bt.map Ak)]) (b5:t < c.buf.length) (lb:BF.length=n) (h3:call false 39 [.sl 2 (bt.map Ak),.int .i64 m,.agg [.int .i64 x.loc,.int .i64 e]] []=some (.sl 2 (b2.map Ak),[])) :
 Av call u c m r t (Au u c Bg PC BF B4 B4 RH [.vsl 3 0 n cp,.vsl 7 0 n cr,.sl 1 ms,.vsl 4 0 n cb])=some (.tup [.agg [.vsl 3 0 n cp,.vsl 7 0 n cr,.sl 1 ms,.vsl 4 0 n cb],.bool true],Au u c [.vsl 3 0 n cp,.vsl 7 0 n cr,.sl 1 ms,.vsl 4 0 n cb] (B6 PC (0+((t:Int)).toNat) [.int .i64 ((p+1:Nat):Int)]) (B6 BF (0+((t:Int)).toNat) [.sl 2 (b2.map Ak)]) B4 B4 RH [.vsl 3 0 n cp,.vsl 7 0 n cr,.sl 1 ms,.vsl 4 0 n cb]++[D2 x]):=by
 have hc1:Program.cellsOf Try.prog 3=1:=by kernel_rfl
 have hc2:Program.cellsOf Try.prog 22=1:=by kernel_rfl
 have hc3:Program.cellsOf Try.prog 79=1:=by kernel_rfl
 unfold Av
 conv=>lhs;whnf
 repeat (first | (refine At (by(first | (with_reducible assumption) | omega | (simp only[A6,Bool.or_eq_true,Bool.not_eq_true',Bool.and_eq_false_imp,Bool.or_eq_false_iff,A9,decide_eq_false_iff_not,beq_iff_eq,bne_iff_ne,beq_eq_false_iff_ne,bne_eq_false_iff_eq,ne_eq,A4,List.length_replicate,List.length_append,List.length_cons,List.length_nil,List.length_take,Int.toNat_natCast];omega) | (with_reducible rfl))) ?_;conv=>lhs;whnf) | (refine Bv (by(first | (with_reducible assumption) | omega | (simp only[A6,Bool.or_eq_true,Bool.not_eq_true',Bool.and_eq_false_imp,Bool.or_eq_false_iff,A9,decide_eq_false_iff_not,beq_iff_eq,bne_iff_ne,beq_eq_false_iff_ne,bne_eq_false_iff_eq,ne_eq,A4,List.length_replicate,List.length_append,List.length_cons,List.length_nil,List.length_take,Int.toNat_natCast];omega) | (with_reducible rfl))) ?_;conv=>lhs;whnf) | (simp only[h1,h2,gc,gp,gx,ew,hc1,hc2,hc3,h3,gb];conv=>lhs;whnf))
 rfl
abbrev iL (l:List Int):List AV:=l.map (AV.int .i64)
def InL (φ:List Pl) (l:List Nat):Prop:=∀ i b,A7 φ i=some b→b ∈ l
theorem Xa {φ:List Pl} {p:Pl} {i b:Nat} (h:A7 (φ++[p]) i=some b):A7 φ i=some b∨A7 [p] 0=some b:=by
 unfold A7 at h ⊢
 rcases Nat.lt_or_ge i φ.length with hi | hi
 ·rw[List.getElem?_append_left hi] at h;exact .inl h
 ·rw[List.getElem?_append_right hi] at h
  cases hk:i - φ.length with
  | zero=>rw[hk] at h;exact .inr h
  | succ k=>rw[hk] at h;simp at h
structure Ctx (S:Nat→Nat→Prop) (w2:World) (base:Nat) (hp:Hp) (φ:List Pl) (l:List Nat):Prop where
 sim:Sim Try.prog base S w2 hp φ
 inl:InL φ l
theorem Ctx.add {S:Nat→Nat→Prop} {w2:World} {base:Nat} {hp:Hp} {φ:List Pl} {l:List Nat} (h:Ctx S w2 base hp φ l) {b:Nat} {vs ex:List Value} {E:TypeId} (t:TypeId) {cs:List AV} (hb:base≤b) (hh:w2.heap[b]?=some (.cells (vs++ex).toArray E (0,0))) (hr:Reps S w2 hp φ cs vs) (h1:De vs) (hS:∀ o,¬ S b o) (hn:b ∉ l):Ctx S w2 base (hp++[.var t cs]) (φ++[.blk b]) (l++[b]) :=
 ⟨h.sim.add_var t hb hh hr h1 hS fun i hi=>hn (h.inl i b hi),fun i b' hi=>by
  rcases Xa hi with h' | h'
  ·exact List.mem_append_left _ (h.inl i b' h')
  ·have:b=b':=by simpa [A7] using h'
   subst this
   simp⟩
theorem Ctx.dum {S:Nat→Nat→Prop} {w2:World} {base:Nat} {hp:Hp} {φ:List Pl} {l:List Nat} (h:Ctx S w2 base hp φ l):Ctx S w2 base (hp++[B4]) (φ++[.sv (.slice none 0 0)]) l :=
 ⟨by
  have hz:0 < Program.cellsOf Try.prog 3:=by decide +kernel
  have:=(h.sim.nil_row 3 hz).1
  have e:Program.cellsOf Try.prog 3=1:=by kernel_rfl
  rw[e] at this
  exact this,fun i b' hi=>by
  rcases Xa hi with h' | h'
  ·exact h.inl i b' h'
  ·simp[A7,Value.ownBlock] at h'⟩
theorem V8 {S:Nat→Nat→Prop} {w:World} {B:Nat} {e:TypeId} {size:Nat} {x:Value} {n:Nat} (ho:w.ownsRow B e size x n []) (hs:0 < size):Rep S w [] [] (.sl size []) x:=by
 have hn:n=0:=by
  have h1:([]:List Value).length=n*size:=ho.1
  rw[List.length_nil] at h1
  rcases Nat.mul_eq_zero.1 h1.symm with h | h
  ·exact h
  ·omega
 rcases ho.2 with ⟨rfl,_⟩ | ⟨g,cap,cur,rfl,hg,hh,hc,hm,_⟩
 ·exact Rep.sl [] [] size [] [] none 0 .nil ⟨by simp,fun j vs t x h2 h3=>by simp at h2⟩ ⟨Nat.le_refl _,by decide,fun _=>rfl⟩
 ·rw[hn];exact Rep.sl [] [] size [] [] _ cap .nil ⟨by simp,fun j vs t x h2 h3=>by simp at h2⟩ ⟨Nat.zero_le _,hm,fun h=>by cases h⟩
theorem Hr {w:World} {g:Nat} {cs cs':Array Value} {E E':TypeId} (h:w.heap[g]?=some (.cells cs E (0,0))) (h':w.heap[g]?=some (.cells cs' E' (0,0))):E=E':=by
 rw[h] at h'
 injection h' with h'
 injection h'
theorem Reps.getk {S:Nat→Nat→Prop} {w:World} {hp:Hp} {φ:List Pl} {l:List AV} {vs:List Value} (hl:l.length=vs.length) (h:∀ (i:Nat) a v,l[i]?=some a→vs[i]?=some v→Rep S w hp φ a v):Reps S w hp φ l vs:=by
 induction l generalizing vs with
 | nil =>
  cases vs with
  | nil=>exact .nil _ _
  | cons v vs=>simp at hl
 | cons a l ih =>
  cases vs with
  | nil=>simp at hl
  | cons v vs=>exact .cons _ _ _ _ _ _ (h 0 a v rfl rfl) (ih (by simpa using hl) fun i a v h1 h2=>h (i+1) a v (by simpa using h1) (by simpa using h2))
set_option maxHeartbeats 4000000 in
theorem Ahu {S:Nat→Nat→Prop} {w w2:World} {B bD:Nat} {u:Ac} {c:A8} {vsU vsC:List Value} {n t gp gr gb cp cr cb:Nat} {vm:Value} {xr xb:List Value}
 (hS:∀ b o,S b o→∃ u,stay w b o=some u) (hb:Below w.heap.size w w2) (hB:w.heap.size+3≤B)
 (fU:w2.heap[w.heap.size]?=some (.cells vsU.toArray 25 (0,0))) (fC:w2.heap[w.heap.size+1]?=some (.cells vsC.toArray 56 (0,0)))
 (fR:w2.heap[w.heap.size+2]?=some (.cells #[.slice none 0 0,.slice none 0 0,.slice none 0 0,.slice none 0 0] 56 (0,0)))
 (fD:w2.heap[bD]?=some (.cells #[.slice (some ⟨gp,0,none⟩) n cp,.slice (some ⟨gr,0,none⟩) n cr,vm,.slice (some ⟨gb,0,none⟩) n cb] 56 (0,0)))
 (hU:Reps S w [] [] (M9 u) vsU) (oU:De vsU) (hC:Reps S w [] [] (Df c) vsC) (oC:De vsC)
 (hO:A0x B w2 c (.slice (some ⟨gp,0,none⟩) n cp) (.slice (some ⟨gr,0,none⟩) n cr) vm (.slice (some ⟨gb,0,none⟩) n cb) xr xb) (hD:B≤bD) (wf:WfC c)
 (lp:c.pc.length=n) (lr:c.regs.length=n) (lb:c.buf.length=n) (ht:t < n) {row:List Int} (hrow:c.regs[t]?=some row) :
 ∃ (L:List Nat) (o5 o6:Ob) (MV:AV) (RH:List AV) (φ:List Pl),Sim Try.prog w.heap.size (SX S w2 w.heap.size L) w2 (Au u c Bg (iL c.pc) (c.buf.map aEs) o5 o6 RH [.vsl 3 0 n cp,.vsl 7 0 n cr,MV,.vsl 4 0 n cb]) φ
   ∧(φ[0]?=some (.blk w.heap.size)∧φ[1]?=some (.blk (w.heap.size+1))∧φ[2]?=some (.blk (w.heap.size+2))∧φ[8]?=some (.blk bD))
   ∧RH.length=n
   ∧((c.mem=[]∧o5=B4∧MV=.sl 1 [])∨∃ cm,c.mem.length≤cm∧cm≤maxLen∧o5=.var 1000001 (iL c.mem)∧MV=.vsl 5 0 c.mem.length cm)
   ∧((row=[]∧o6=B4∧RH=(c.regs.map aIs).set t (.sl 1 []))∨∃ ct,row.length≤ct∧ct≤maxLen∧o6=.var 1000001 (iL row)∧RH=(c.regs.map aIs).set t (.vsl 6 0 row.length ct))
   ∧(n≤cp∧cp≤maxLen)∧(n≤cr∧cr≤maxLen)∧(n≤cb∧cb≤maxLen):=by
 obtain⟨xp,hp1,hp2,hp3,hp4⟩:=Or hO.pc
 obtain⟨xg,hr1,hr2,hr3,hr4⟩:=Or hO.regs.own
 obtain⟨xq,hb1,hb2,hb3,hb4⟩:=Or hO.buf.own
 have lr':(c.regs.map (List.map (Value.int .i64))).length=n:=by rw[A4,lr]
 have lb':(c.buf.map (List.flatMap Kp)).length=n:=by rw[A4,lb]
 have lxr:xr.length=n:=hO.regs.len.trans lr'
 have lxb:xb.length=n:=hO.buf.len.trans lb'
 obtain⟨xt,hxt⟩:∃ x,xr[t]?=some x:=⟨_,A5 (by omega)⟩
 obtain⟨mt,hmt⟩:=hO.regs.row t xt _ hxt (by rw[List.getElem?_map,hrow];rfl)
 have hDc:∀ g cs E,w2.heap[g]?=some (.cells cs E (0,0))→E≠56→g≠bD:=fun g cs E h hE e=>hE (by rw[e] at h;exact Hr h fD)
 obtain⟨L,hL⟩:∃ L,[w.heap.size,w.heap.size+1,w.heap.size+2,gp,gb,gr,bD]++vm.ownBlock.toList++xt.ownBlock.toList=L:=⟨_,rfl⟩
 have memL:∀ b,b ∈ L↔(b=w.heap.size∨b=w.heap.size+1∨b=w.heap.size+2∨b=gp∨b=gb∨b=gr∨b=bD)∨vm.ownBlock=some b∨xt.ownBlock=some b:=by
  intro b
  rw[← hL]
  simp[or_assoc]
 have tgp:∀ {cs E},w2.heap[gp]?=some (.cells cs E (0,0))→E=3:=fun h=>(Hr hp1 h).symm
 have tgr:∀ {cs E},w2.heap[gr]?=some (.cells cs E (0,0))→E=22:=fun h=>(Hr hr1 h).symm
 have tgb:∀ {cs E},w2.heap[gb]?=some (.cells cs E (0,0))→E=79:=fun h=>(Hr hb1 h).symm
 have tvm:∀ {g cs E},vm.ownBlock=some g→w2.heap[g]?=some (.cells cs E (0,0))→E=3:=fun hg h=>by
  obtain⟨_,cs',h'⟩:=Ip hO.mem hg
  exact(Hr h' h).symm
 have txt:∀ {g cs E},xt.ownBlock=some g→w2.heap[g]?=some (.cells cs E (0,0))→E=3:=fun hg h=>by
  obtain⟨_,cs',h'⟩:=Ip hmt hg
  exact(Hr h' h).symm
 have bvm:∀ {g},vm.ownBlock=some g→B≤g:=fun hg=>(Ip hO.mem hg).1
 have bxt:∀ {g},xt.ownBlock=some g→B≤g:=fun hg=>(Ip hmt hg).1
 have npr:gr≠gp:=fun e=>absurd (tgp (e ▸ hr1)) (by decide)
 have npb:gb≠gp:=fun e=>absurd (tgp (e ▸ hb1)) (by decide)
 have nrb:gr≠gb:=fun e=>absurd (tgb (e ▸ hr1)) (by decide)
 have ndp:gp≠bD:=hDc gp _ _ hp1 (by decide)
 have ndr:gr≠bD:=hDc gr _ _ hr1 (by decide)
 have ndb:gb≠bD:=hDc gb _ _ hb1 (by decide)
 have hNot:∀ b,w.heap.size≤b→b ∈ L→∀ o,¬ SX S w2 w.heap.size L b o:=fun b h1 h2 o=>Adm hS h1 h2 o
 have rowsR:∀ (i:Nat) (x:List Int) (v:Value),i≠t→c.regs[i]?=some x→xr[i]?=some v→Rep (SX S w2 w.heap.size L) w2 [] [] (aIs x) v:=by
  intro i x v hi h1 h2
  obtain⟨m,hm⟩:=hO.regs.row i v _ h2 (by rw[List.getElem?_map,h1];rfl)
  refine V5 (wf.regs x (List.mem_of_getElem? h1)) hm fun g cs o hg hBg hh ho=>Wc (by omega) (fun hm'=>?_) hh ho
  rcases(memL g).1 hm' with (e | e | e | e | e | e | e) | e | e
  ·omega
  ·omega
  ·omega
  ·exact(hO.pr i v g h2 hg).1 (by rw[e];rfl)
  ·exact absurd (tgb (e ▸ hh)) (by decide)
  ·exact hO.regs.apart i v g h2 hg (by rw[e];rfl)
  ·exact hDc g _ _ hh (by decide) e
  ·exact(hO.pr i v g h2 hg).2 e
  ·exact hi (hO.regs.dist i t v xt g h2 hxt hg e)
 have rowsB:∀ (i:Nat) (x:List A2) (v:Value),c.buf[i]?=some x→xb[i]?=some v→Rep (SX S w2 w.heap.size L) w2 [] [] (aEs x) v:=by
  intro i x v h1 h2
  obtain⟨m,hm⟩:=hO.buf.row i v _ h2 (by rw[List.getElem?_map,h1];rfl)
  refine A23 (wf.buf x (List.mem_of_getElem? h1)) hm fun g cs o hg hBg hh ho=>Wc (by omega) (fun hm'=>?_) hh ho
  rcases(memL g).1 hm' with (e | e | e | e | e | e | e) | e | e
  ·omega
  ·omega
  ·omega
  ·exact absurd (tgp (e ▸ hh)) (by decide)
  ·exact hO.buf.apart i v g h2 hg (by rw[e];rfl)
  ·exact absurd (tgr (e ▸ hh)) (by decide)
  ·exact hDc g _ _ hh (by decide) e
  ·exact absurd (tvm e hh) (by decide)
  ·exact absurd (txt e hh) (by decide)
 have c0:Ctx (SX S w2 w.heap.size L) w2 w.heap.size [] [] []:=⟨Adu hS hb L,fun i b h=>by simp[A7] at h⟩
 have c1:=c0.add 25 (b:=w.heap.size) (vs:=vsU) (ex:=[]) (Nat.le_refl _) (by rw[List.append_nil];exact fU) (Reps.lift (Reps.mono (Vi hS hb L) hU (.refl _ _))) oU (hNot _ (Nat.le_refl _) ((memL _).2 (.inl (.inl rfl)))) (by simp)
 have c2:=c1.add 56 (b:=w.heap.size+1) (vs:=vsC) (ex:=[]) (by omega) (by rw[List.append_nil];exact fC) (Reps.lift (Reps.mono (Vi hS hb L) hC (.refl _ _))) oC (hNot _ (by omega) ((memL _).2 (.inl (.inr (.inl rfl))))) (by simp)
 have c3:=c2.add 56 (b:=w.heap.size+2) (vs:=[.slice none 0 0,.slice none 0 0,.slice none 0 0,.slice none 0 0]) (ex:=[]) (cs:=Bg) (by omega) (by rw[List.append_nil];exact fR) (.cons _ _ _ _ _ _ (.nils _ _) (.cons _ _ _ _ _ _ (.nils _ _) (.cons _ _ _ _ _ _ (.nils _ _) (.cons _ _ _ _ _ _ (.nils _ _) (.nil _ _))))) (by intro v hv;simp at hv;subst hv;rfl) (hNot _ (by omega) ((memL _).2 (.inl (.inr (.inr (.inl rfl)))))) (by simp)
 have c4:=c3.add 1000001 (b:=gp) (vs:=c.pc.map (Value.int .i64)) (ex:=xp) (cs:=iL c.pc) (by omega) hp1 (Mb _ wf.pc) (K0 _) (hNot _ (by omega) ((memL _).2 (.inl (.inr (.inr (.inr (.inl rfl))))))) (by simp;omega)
 have c5:=c4.add 1000001 (b:=gb) (vs:=xb) (ex:=xq) (cs:=c.buf.map aEs) (by omega) hb1 (V0 c.buf xb (by omega) fun i x v h1 h2=>(rowsB i x v h1 h2).lift) (fun v hv=>by
  obtain⟨i,hi,rfl⟩:=List.getElem_of_mem hv
  obtain⟨m,hm⟩:=hO.buf.row i xb[i] _ (A5 hi) (A5 (by omega))
  exact Jo hm) (hNot _ (by omega) ((memL _).2 (.inl (.inr (.inr (.inr (.inr (.inl rfl)))))))) (by simp;omega)
 obtain⟨o5,MV,p5,l6,c6,hl6,hMV,hM5⟩:∃ (o5:Ob) (MV:AV) (p5:Pl) (l6:List Nat),Ctx (SX S w2 w.heap.size L) w2 w.heap.size ([.var 25 (M9 u),.var 56 (Df c),.var 56 Bg,.var 1000001 (iL c.pc),.var 1000001 (c.buf.map aEs)]++[o5]) ([.blk w.heap.size,.blk (w.heap.size+1),.blk (w.heap.size+2),.blk gp,.blk gb]++[p5]) l6∧(∀ b ∈ l6,b < B∨b=gp∨b=gb∨vm.ownBlock=some b)∧(∀ hp φ,φ[5]?=some p5→Rep (SX S w2 w.heap.size L) w2 hp φ MV vm)∧((c.mem=[]∧o5=B4∧MV=.sl 1 [])∨∃ cm,c.mem.length≤cm∧cm≤maxLen∧o5=.var 1000001 (iL c.mem)∧MV=.vsl 5 0 c.mem.length cm):=by
  by_cases hm0:c.mem=[]
  ·refine⟨_,.sl 1 [],_,_,c5.dum,fun b hb'=>?_,fun hp φ _=>?_,.inl ⟨hm0,rfl,rfl⟩⟩
   ·simp at hb';omega
   ·have:=hO.mem
    rw[hm0] at this
    exact(V8 this (by decide)).lift
  ·rcases Iu hO.mem with ⟨_,h0⟩ | ⟨g,cap,ex,rfl,hg,hh,hc,hm,hsz⟩
   ·exact absurd (List.eq_nil_of_length_eq_zero h0) hm0
   ·have n1:g≠gp:=fun e=>hO.pm gp rfl (by rw[← e];rfl)
    have n2:g≠gb:=fun e=>absurd (tgb (e ▸ hh)) (by decide)
    refine⟨_,.vsl 5 0 c.mem.length cap,_,_,c5.add 1000001 (b:=g) (vs:=c.mem.map (Value.int .i64)) (ex:=ex) (cs:=iL c.mem) (by omega) hh (Mb _ wf.mem) (K0 _) (hNot _ (by omega) ((memL _).2 (.inr (.inl rfl)))) (by simp;omega),fun b hb'=>?_,fun hp φ h=>.vsl _ _ _ _ _ _ _ h,.inr ⟨cap,hc,hm,rfl,rfl⟩⟩
    simp at hb'
    rcases hb' with e | e | e | e | e | e
    ·omega
    ·omega
    ·omega
    ·exact .inr (.inl e)
    ·exact .inr (.inr (.inl e))
    ·exact .inr (.inr (.inr (by rw[e];rfl)))
 obtain⟨o6,AT,p6,l7,c7,hl7,hAT,hM6⟩:∃ (o6:Ob) (AT:AV) (p6:Pl) (l7:List Nat),Ctx (SX S w2 w.heap.size L) w2 w.heap.size ([.var 25 (M9 u),.var 56 (Df c),.var 56 Bg,.var 1000001 (iL c.pc),.var 1000001 (c.buf.map aEs),o5]++[o6]) ([.blk w.heap.size,.blk (w.heap.size+1),.blk (w.heap.size+2),.blk gp,.blk gb,p5]++[p6]) l7∧(∀ b ∈ l7,b < B∨b=gp∨b=gb∨vm.ownBlock=some b∨xt.ownBlock=some b)∧(∀ hp φ,φ[6]?=some p6→Rep (SX S w2 w.heap.size L) w2 hp φ AT xt)∧((row=[]∧o6=B4∧AT=.sl 1 [])∨∃ ct,row.length≤ct∧ct≤maxLen∧o6=.var 1000001 (iL row)∧AT=.vsl 6 0 row.length ct):=by
  have hmt':=hmt
  obtain rfl:=Ya hmt' (by decide) (k:=row.length) (by simp)
  by_cases hm0:row=[]
  ·refine⟨_,.sl 1 [],_,_,c6.dum,fun b hb'=>?_,fun hp φ _=>?_,.inl ⟨hm0,rfl,rfl⟩⟩
   ·have:=hl6 b hb'
    rcases this with e | e | e | e
    ·exact .inl e
    ·exact .inr (.inl e)
    ·exact .inr (.inr (.inl e))
    ·exact .inr (.inr (.inr (.inl e)))
   ·rw[hm0] at hmt
    exact(V8 hmt (by decide)).lift
  ·rcases Iu hmt with ⟨_,h0⟩ | ⟨g,cap,ex,rfl,hg,hh,hc,hm,hsz⟩
   ·exact absurd (List.eq_nil_of_length_eq_zero h0) hm0
   ·refine⟨_,.vsl 6 0 row.length cap,_,_,c6.add 1000001 (b:=g) (vs:=row.map (Value.int .i64)) (ex:=ex) (cs:=iL row) (by omega) hh (Mb _ (wf.regs row (List.mem_of_getElem? hrow))) (K0 _) (hNot _ (by omega) ((memL _).2 (.inr (.inr rfl)))) (fun h=>?_),fun b hb'=>?_,fun hp φ h=>.vsl _ _ _ _ _ _ _ h,.inr ⟨cap,hc,hm,rfl,rfl⟩⟩
    ·rcases hl6 g h with e | e | e | e
     ·omega
     ·exact(hO.pr t _ g hxt rfl).1 (by rw[e];rfl)
     ·exact absurd (tgb (e ▸ hh)) (by decide)
     ·exact(hO.pr t _ g hxt rfl).2 e
    ·rcases List.mem_append.1 hb' with hb' | hb'
     ·rcases hl6 b hb' with e | e | e | e
      ·exact .inl e
      ·exact .inr (.inl e)
      ·exact .inr (.inr (.inl e))
      ·exact .inr (.inr (.inr (.inl e)))
     ·simp at hb'
      exact .inr (.inr (.inr (.inr (by rw[hb'];rfl))))
 have c8:=c7.add 1000001 (b:=gr) (vs:=xr) (ex:=xg) (cs:=(c.regs.map aIs).set t AT) (by omega) hr1 (Reps.getk (by simp;omega) fun i a v h1 h2=>by
  rw[List.getElem?_set] at h1
  split at h1
  ·rename_i e
   subst e
   rw[hxt] at h2
   cases h2
   split at h1
   ·cases h1
    exact hAT _ _ rfl
   ·cases h1
  ·rename_i e
   rw[List.getElem?_map] at h1
   cases hk:c.regs[i]? with
   | none=>rw[hk] at h1;cases h1
   | some y =>
    rw[hk] at h1
    cases h1
    exact(rowsR i y v (fun e'=>e e'.symm) hk h2).lift) (fun v hv=>by
  obtain⟨i,hi,rfl⟩:=List.getElem_of_mem hv
  obtain⟨m,hm⟩:=hO.regs.row i xr[i] _ (A5 hi) (A5 (by omega))
  exact Jo hm) (hNot _ (by omega) ((memL _).2 (.inl (.inr (.inr (.inr (.inr (.inr (.inl rfl)))))))))
  (fun h=>by
   rcases hl7 gr h with e | e | e | e | e
   ·omega
   ·exact npr e
   ·exact nrb e
   ·exact absurd (tvm e hr1) (by decide)
   ·exact absurd (txt e hr1) (by decide))
 have c9:=c8.add 56 (b:=bD) (vs:=[.slice (some ⟨gp,0,none⟩) n cp,.slice (some ⟨gr,0,none⟩) n cr,vm,.slice (some ⟨gb,0,none⟩) n cb]) (ex:=[]) (cs:=[.vsl 3 0 n cp,.vsl 7 0 n cr,MV,.vsl 4 0 n cb]) (by omega) (by rw[List.append_nil];exact fD)
  (.cons _ _ _ _ _ _ (.vsl _ _ _ _ _ _ _ rfl) (.cons _ _ _ _ _ _ (.vsl _ _ _ _ _ _ _ rfl) (.cons _ _ _ _ _ _ (hMV _ _ rfl) (.cons _ _ _ _ _ _ (.vsl _ _ _ _ _ _ _ rfl) (.nil _ _)))))
  (by
   intro v hv
   simp at hv
   rcases hv with rfl | rfl | rfl | rfl
   ·rfl
   ·rfl
   ·exact Jo hO.mem
   ·rfl)
  (hNot _ (by omega) ((memL _).2 (.inl (.inr (.inr (.inr (.inr (.inr (.inr rfl)))))))))
  (fun h=>by
   rcases List.mem_append.1 h with h | h
   ·rcases hl7 bD h with e | e | e | e | e
    ·omega
    ·exact ndp e.symm
    ·exact ndb e.symm
    ·obtain⟨_,cs',h'⟩:=Ip hO.mem e
     exact hDc _ _ _ h' (by decide) rfl
    ·obtain⟨_,cs',h'⟩:=Ip hmt e
     exact hDc _ _ _ h' (by decide) rfl
   ·simp at h
    exact ndr h.symm)
 refine⟨L,o5,o6,MV,_,_,c9.sim,⟨rfl,rfl,rfl,rfl⟩,by simp;omega,hM5,?_,⟨by omega,hp4⟩,⟨by omega,hr4⟩,⟨by omega,hb4⟩⟩
 rcases hM6 with ⟨e1,e2,e3⟩ | ⟨ct,e1,e2,e3,e4⟩
 ·exact .inl ⟨e1,e2,by rw[e3]⟩
 ·exact .inr ⟨ct,e1,e2,e3,by rw[e4]⟩
theorem A2h {P:Program} {H:B9} {call:B1} {f:FuncId} {fuel base:Nat} (hm:P.follows .mixedOrders=true) (hH:Kg P H) (hc:Et P H call) {c1 c2 c3:Code} (hd1:Eb H f c1=true) (hd2:Eb H f c2=true) (hd3:Eb H f c3=true)
 {S:Nat→Nat→Prop} {W:World} {hp:Hp} {φ:List Pl} {tm:Tm} {A:Act} (hs:Sim P base S W hp φ) (ht:Reps S W hp φ tm A.tmps.toList) (hdef:A.defers=[]) {fn:Func} {v:AV} {hp':Hp}
 (h:Lk P H call f fuel hp.length (.seq (.seq c1 c2) c3) tm hp (fun e tm hp2=>match e with
  | .exit _=>none
  | _=>To P fn tm hp2 fun v=>some (v,hp2))=some (v,hp'))
 {R:Ending→World→Prop} (hR:∀ u S' w' φ',Rep S' w' hp' φ' v u→Sim P base S' w' hp' φ'→Trans base S W hp φ S' w' hp' φ'→R (.returned u) w')
 {K K1:Act→World→Prop} (hK:∀ a w,c2.wp P (Exit.then K1 (bodyPost P fn R)) a w→K a w) (hK1:∀ a w,c3.wp P (bodyPost P fn R) a w→K1 a w):c1.wp P (Exit.then K (Exit.then K1 (bodyPost P fn R))) A W:=by
 have fin:∀ {tm'':Tm} {hp2:Hp} {S'':Nat→Nat→Prop} {w'':World} {φ'':List Pl} {a'':Act},To P fn tm'' hp2 (fun v=>some (v,hp2))=some (v,hp')→Reps S'' w'' hp2 φ'' tm'' a''.tmps.toList→Sim P base S'' w'' hp2 φ''→Trans base S W hp φ S'' w'' hp2 φ''→a''.defers=[]→a''.defers=[]∧∃ u,(results fn a''.tmps).run P w''=.ok u w''∧R (.returned u) w'':=by
  intro tm'' hp2 S'' w'' φ'' a'' hres k2 k3 k4 k5
  refine⟨k5,?_⟩
  obtain⟨avs,us,r1,r2,r3⟩:=Zf k3 k2 fn.results.toList _ hres
  have fin2:∀ (x:AV) (u:Value),Rep S'' w'' hp2 φ'' x u→(results fn a''.tmps).run P w''=.ok u w''→(some (x,hp2):Option (AV×Hp))=some (v,hp')→∃ u,(results fn a''.tmps).run P w''=.ok u w''∧R (.returned u) w'':=by
   intro x u hx hrun he
   cases he
   exact⟨u,hrun,hR u _ _ _ hx k3 k4⟩
  have hrun:=Wt r2
  clear r2
  match avs,us,r1,r3,hrun with
  | [],[],r1,r3,hrun=>exact fin2 _ _ (.tup _ _ _ _ (Fp r3)) hrun r1
  | [x],[u],r1,r3,hrun=>cases r3 with | cons _ _ _ _ _ _ hx _=>exact fin2 _ _ (Xq hx) hrun r1
  | x :: y :: l,u :: u2 :: us,r1,r3,hrun=>exact fin2 _ _ (.tup _ _ _ _ (Fp r3)) hrun r1
 refine Pa hm hH hc hs c1 hd1 (.refl _ _ _ _ _) hs ht h ?_
 intro e tm' hp1 S' φ' a' w' g1 g2 g3 g4 g5
 cases e with
 | exit id=>cases g1
 | ret=>exact fin g1 g2 g3 g4 (g5.trans hdef)
 | normal =>
  refine hK _ _ (Pa hm hH hc hs c2 hd2 g4 g3 g2 g1 ?_)
  intro e tm'' hp2 S'' φ'' a'' w'' k1 k2 k3 k4 k5
  cases e with
  | exit id=>cases k1
  | ret=>exact fin k1 k2 k3 k4 (k5.trans (g5.trans hdef))
  | normal =>
   refine hK1 _ _ (Pa hm hH hc hs c3 hd3 k4 k3 k2 k1 ?_)
   intro e tm3 hp3 S3 φ3 a3 w3 j1 j2 j3 j4 j5
   cases e with
   | exit id=>cases j1
   | normal=>exact fin j1 j2 j3 j4 (j5.trans (k5.trans (g5.trans hdef)))
   | ret=>exact fin j1 j2 j3 j4 (j5.trans (k5.trans (g5.trans hdef)))
theorem A8n {S S1 S':Nat→Nat→Prop} {w w2 w':World} {P:Program} {hp hp':Hp} {φ φ':List Pl} (hS:∀ b o,S b o→∃ u,stay w b o=some u) (hb:Below w.heap.size w w2) (hx:SExt S w S1 w2) (hn:∀ b o,S1 b o→S b o∨w.heap.size≤b) (hs:Sim P w.heap.size S' w' hp' φ') (T:Trans w.heap.size S1 w2 hp φ S' w' hp' φ') {C:Nat→Nat→Prop} (hC:∀ b o,C b o→w.heap.size≤b∧∃ v,stay w' b o=some v∧v.2.2=(0,0)) :
 (∀ b o,(S' b o∨C b o)→∃ u,stay w' b o=some u∧(w.heap.size≤b→u.2.2=(0,0)))∧SExt S w (fun b o=>S' b o∨C b o) w'∧(∀ b o,(S' b o∨C b o)→S b o∨w.heap.size≤b)∧Below w.heap.size w w':=by
 refine⟨fun b o h=>?_,fun b o h=>?_,fun b o h=>?_,hb.trans T.below⟩
 ·rcases h with h | h
  ·exact hs.cell b o h
  ·obtain⟨_,v,h1,h2⟩:=hC b o h
   exact⟨v,h1,fun _=>h2⟩
 ·obtain⟨h1,h2⟩:=hx.trans T.s b o h
  exact⟨.inl h1,h2⟩
 ·rcases h with h | h
  ·rcases T.new b o h with h | h
   ·exact hn b o h
   ·exact .inr h
  ·exact .inr (hC b o h).1
def Pk (w:World) (φ:List Pl) (b o:Nat):Prop:=(∃ id:Nat,φ[id]?=some (Pl.blk b))∧∃ v,stay w b o=some v∧v.2.2=(0,0)
theorem A2k {P:Program} {base:Nat} {S:Nat→Nat→Prop} {w:World} {hp:Hp} {φ:List Pl} (hs:Sim P base S w hp φ):∀ b o,Pk w φ b o→base≤b∧∃ v,stay w b o=some v∧v.2.2=(0,0):=by
 rintro b o ⟨⟨id,hid⟩,h⟩
 exact⟨(hs.block_lt (id:=id) (by simp[A7,hid])).1,h⟩
theorem Ti {P:Program} {base:Nat} {S:Nat→Nat→Prop} {w:World} {hp:Hp} {φ:List Pl} (hs:Sim P base S w hp φ) {id:Nat} {t:TypeId} {cs:List AV} (ho:hp[id]?=some (.var t cs)) {b:Nat} (hb:φ[id]?=some (Pl.blk b)) {o:Nat} (h:o < cs.length):Pk w φ b o:=by
 obtain⟨b',vs,E,g1,g2,⟨ex,g3⟩,g4,g5,g6⟩:=hs.obj id _ ho
 rw[hb] at g1;cases g1
 have hl:=g4.length
 refine⟨⟨id,hb⟩,((vs++ex)[o]'(by simp;omega),none,(0,0)),Jc g3 ?_,rfl⟩
 simp only[World.cell?,g3]
 have:o < (vs++ex).length:=by simp;omega
 simp[this]
theorem Hv {w:World} {B:Nat} {e:TypeId} {size n:Nat} {v:Value} {xs:List Value} (h:w.ownsRow B e size v n xs):∃ a c,v=.slice a n c:=by
 rcases h.2 with ⟨rfl,rfl⟩ | ⟨g,cap,cur,rfl,_⟩<;>exact⟨_,_,rfl⟩
theorem Zu {S:Nat→Nat→Prop} {w:World} {hp:Hp} {φ:List Pl}:∀ l:List Value,Reps S w hp φ (List.replicate l.length .junk) l
 | []=>.nil _ _
 | v :: l=>.cons _ _ _ _ _ _ (.junk _ _ _) (Zu l)
theorem Zi {S:Nat→Nat→Prop} {w:World} {hp:Hp} {φ:List Pl} {n:Nat} {l:List Value} (h:l.length=n):Reps S w hp φ (List.replicate n .junk) l:=h ▸ Zu l
theorem Fk {S:Nat→Nat→Prop} {w:World} {hp:Hp} {φ:List Pl} {tm:Tm} {L:List Value} (h:Reps S w hp φ tm L) {i:Nat} {a:AV} {u:Value} (ha:Rep S w hp φ a u) (hi:L[i]?=some u):Reps S w hp φ (tm.set i a) L:=by
 have:=h.set i ha
 have e:L.set i u=L:=by
  apply List.ext_getElem?
  intro j
  rw[List.getElem?_set]
  split
  ·rename_i e
   subst e
   rw[hi]
   split
   ·rfl
   ·rename_i h'
    exact absurd (List.getElem?_eq_some_iff.1 hi).1 h'
  ·rfl
 rwa [e] at this
structure Ia (c:A8) (t:Nat) (o5 o6:Ob) (MV:AV) (RH:List AV) (n cp cr cb:Nat):Prop where
 hn:c.pc.length=n
 len:RH.length=n
 mem:(c.mem=[]∧o5=B4∧MV=.sl 1 [])∨∃ cm,c.mem.length≤cm∧cm≤maxLen∧o5=.var 1000001 (iL c.mem)∧MV=.vsl 5 0 c.mem.length cm
 row:∃ row,c.regs[t]?=some row∧((row=[]∧o6=B4∧RH=(c.regs.map aIs).set t (.sl 1 []))∨∃ ct,row.length≤ct∧ct≤maxLen∧o6=.var 1000001 (iL row)∧RH=(c.regs.map aIs).set t (.vsl 6 0 row.length ct))
 hcp:n≤cp∧cp≤maxLen
 hcr:n≤cr∧cr≤maxLen
 hcb:n≤cb∧cb≤maxLen
set_option maxRecDepth 100000 in
set_option maxHeartbeats 8000000 in
theorem Adz (S:Nat→Nat→Prop) (w:World) (u:Ac) (c:A8) (m r:Int) (t:Nat) (a1 a2 a3 a4 a5 a6 a7:Option Addr) (n1 n2 n3 n4 n5 n6 n7 c1 c2 c3 c4 c5 c6 c7:Nat) (R:Ending→World→Prop)
 (hS:∀ b o,S b o→∃ u,stay w b o=some u)
 (hU:Reps S w [] [] (M9 u) [.int .i64 u.mod,.slice a1 n1 c1,.slice a2 n2 c2,.slice a3 n3 c3]) (hC:Reps S w [] [] (Df c) [.slice a4 n4 c4,.slice a5 n5 c5,.slice a6 n6 c6,.slice a7 n7 c7])
 (hv:ConfV w (.agg #[.slice a4 n4 c4,.slice a5 n5 c5,.slice a6 n6 c6,.slice a7 n7 c7]) c) (hl:Zq c) (om:okI m) (or:okI r) (ot:okI (t:Int))
 (lr:c.regs.length=c.pc.length) (lb:c.buf.length=c.pc.length) (ht:t < c.pc.length)
 (hR:∀ (w2:World) (L:List Nat) (o5 o6:Ob) (MV:AV) (RH:List AV) (φ:List Pl) (n cp cr cb:Nat),Below w.heap.size w w2→Ia c t o5 o6 MV RH n cp cr cb →
  Sim Try.prog w.heap.size (SX S w2 w.heap.size L) w2 (Au u c Bg (iL c.pc) (c.buf.map aEs) o5 o6 RH [.vsl 3 0 n cp,.vsl 7 0 n cr,MV,.vsl 4 0 n cb]) φ →
  ∃ v hp',Av (cN XB0 1500) u c m r t (Au u c Bg (iL c.pc) (c.buf.map aEs) o5 o6 RH [.vsl 3 0 n cp,.vsl 7 0 n cr,MV,.vsl 4 0 n cb])=some (v,hp') ∧
    ∀ u' S' w' φ',Rep S' w' hp' φ' v u'→Sim Try.prog w.heap.size S' w' hp' φ'→Trans w.heap.size (SX S w2 w.heap.size L) w2 (Au u c Bg (iL c.pc) (c.buf.map aEs) o5 o6 RH [.vsl 3 0 n cp,.vsl 7 0 n cr,MV,.vsl 4 0 n cb]) φ S' w' hp' φ'→R (.returned u') w') :
 Calls Try.prog 26 #[.agg #[.int .i64 u.mod,.slice a1 n1 c1,.slice a2 n2 c2,.slice a3 n3 c3],.agg #[.slice a4 n4 c4,.slice a5 n5 c5,.slice a6 n6 c6,.slice a7 n7 c7],.int .i64 m,.int .i64 r,.int .i64 (t:Int)] w R:=by
 obtain⟨W0,hW0⟩:∃ W,W=((w.alloc (.cells #[.int .i64 u.mod,.slice a1 n1 c1,.slice a2 n2 c2,.slice a3 n3 c3] 25)).alloc (.cells #[.slice a4 n4 c4,.slice a5 n5 c5,.slice a6 n6 c6,.slice a7 n7 c7] 56)).alloc (.cells #[.slice none 0 0,.slice none 0 0,.slice none 0 0,.slice none 0 0] 56):=⟨_,rfl⟩
 have hb0:Below w.heap.size w W0:=hW0 ▸ (((Below.refl _ _).alloc (Nat.le_refl _) _).alloc (by simp) _).alloc (by simp;omega) _
 have hsz:W0.heap.size=w.heap.size+3:=by rw[hW0];simp
 have fu:Fresh W0 w.heap.size (.cells #[.int .i64 u.mod,.slice a1 n1 c1,.slice a2 n2 c2,.slice a3 n3 c3] 25):=by
  rw[hW0];exact((Fresh.new w _).later ((Below.refl _ _).alloc (Nat.le_refl _) _)).later ((Below.refl _ _).alloc (Nat.le_refl _) _)
 have fc:Fresh W0 (w.heap.size+1) (.cells #[.slice a4 n4 c4,.slice a5 n5 c5,.slice a6 n6 c6,.slice a7 n7 c7] 56):=by
  have:=Fresh.new (w.alloc (.cells #[.int .i64 u.mod,.slice a1 n1 c1,.slice a2 n2 c2,.slice a3 n3 c3] 25)) (.cells #[.slice a4 n4 c4,.slice a5 n5 c5,.slice a6 n6 c6,.slice a7 n7 c7] 56)
  rw[World.size_alloc] at this
  rw[hW0];exact this.later ((Below.refl _ _).alloc (Nat.le_refl _) _)
 have fr:Fresh W0 (w.heap.size+2) (.cells #[.slice none 0 0,.slice none 0 0,.slice none 0 0,.slice none 0 0] 56):=by
  have:=Fresh.new ((w.alloc (.cells #[.int .i64 u.mod,.slice a1 n1 c1,.slice a2 n2 c2,.slice a3 n3 c3] 25)).alloc (.cells #[.slice a4 n4 c4,.slice a5 n5 c5,.slice a6 n6 c6,.slice a7 n7 c7] 56)) (.cells #[.slice none 0 0,.slice none 0 0,.slice none 0 0,.slice none 0 0] 56)
  rw[World.size_alloc,World.size_alloc] at this
  rw[hW0];exact this
 have FU:=Lib.hid fu;have FC:=Lib.hid fc;have FR:=Lib.hid fr;have HB:=Lib.hid hb0;have HSZ:=Lib.hid hsz
 have HV:=Lib.hid hv;have HL:=Lib.hid hl;have HU:=Lib.hid hU;have HC:=Lib.hid hC;have HS:=Lib.hid hS;have HR:=Lib.hid hR
 have OM:=Lib.hid om;have OR:=Lib.hid or;have OT:=Lib.hid ot;have LR:=Lib.hid lr;have LB:=Lib.hid lb;have HT:=Lib.hid ht
 clear hv hl hU hC hS hR om or ot lr lb ht
 go_enter Try.func26,Try.ntmps26
 go_upto_region 1 with (fail)
 rw[← hW0]
 have y0:=(fc.open (k:=0) rfl).1;have y1:=(fc.open (k:=1) rfl).1;have y2:=(fc.open (k:=2) rfl).1;have y3:=(fc.open (k:=3) rfl).1
 clear hW0 hb0 hsz fu fc fr
 go_wp2_with fail
 refine(Zr _ _ c (HV.out.mono HB.out) HL.out).mono ?_
 rintro e w1 ⟨hb1,vp,vr,vm,vb,xr,xb,rfl,hO⟩
 clear y0 y1 y2 y3
 obtain⟨p1,k1,rfl⟩:=Hv hO.pc
 obtain⟨p2,k2,rfl⟩:=Hv hO.regs.own
 obtain⟨p3,k3,rfl⟩:=Hv hO.mem
 obtain⟨p4,k4,rfl⟩:=Hv hO.buf.own
 simp only[A4] at hO ⊢
 rw[LR.out,LB.out] at hO ⊢
 have HO:=Lib.hid hO;have HB1:=Lib.hid hb1
 clear hO hb1
 go_upto_region 2 with (fail)
 have hn0:=HT.out
 have hnn:∀ {w0:World} {B:Nat} {e:TypeId} {a:Option Addr} {n k:Nat} {xs:List Value},w0.ownsRow B e 1 (.slice a n k) n xs→0 < n→∃ g,a=some ⟨g,0,none⟩:=by
  intro w0 B e a n k xs h h0
  rcases h.2 with ⟨h1,h2⟩ | ⟨g,cap,cur,e1,_⟩
  ·omega
  ·exact⟨g,(Value.slice.inj e1).1⟩
 have g2:=HO.out.regs.own
 have g4:=HO.out.buf.own
 rw[A4,LR.out] at g2
 rw[A4,LB.out] at g4
 obtain⟨gp,rfl⟩:=hnn HO.out.pc (by omega)
 obtain⟨gr,rfl⟩:=hnn g2 (by omega)
 obtain⟨gb,rfl⟩:=hnn g4 (by omega)
 clear g2 g4 hnn
 obtain⟨row,hrow⟩:∃ row,c.regs[t]?=some row:=⟨_,A5 (by have:=LR.out;omega)⟩
 obtain⟨W2,hW2⟩:∃ W,w1.alloc (.cells #[.slice (some ⟨gp,0,none⟩) c.pc.length k1,.slice (some ⟨gr,0,none⟩) c.pc.length k2,.slice p3 c.mem.length k3,.slice (some ⟨gb,0,none⟩) c.pc.length k4] 56)=W:=⟨_,rfl⟩
 have hA:Below w1.heap.size w1 W2:=hW2 ▸ (Below.refl _ _).alloc (Nat.le_refl _) _
 have fD:Fresh W2 w1.heap.size (.cells #[.slice (some ⟨gp,0,none⟩) c.pc.length k1,.slice (some ⟨gr,0,none⟩) c.pc.length k2,.slice p3 c.mem.length k3,.slice (some ⟨gb,0,none⟩) c.pc.length k4] 56):=hW2 ▸ Fresh.new w1 _
 have hbW:Below w.heap.size w W2:=(HB.out.trans (HB1.out.mono HB.out.size)).trans (hA.mono (Nat.le_trans HB.out.size HB1.out.size))
 have hO2:A0x W0.heap.size W2 c (.slice (some ⟨gp,0,none⟩) c.pc.length k1) (.slice (some ⟨gr,0,none⟩) c.pc.length k2) (.slice p3 c.mem.length k3) (.slice (some ⟨gb,0,none⟩) c.pc.length k4) xr xb:=⟨⟨Cx HO.out.pc hA,HO.out.regs.below hA,Cx HO.out.mem hA,HO.out.buf.below hA⟩,HO.out.pm,HO.out.pr⟩
 obtain⟨L,o5,o6,MV,RH,φ,hsim,⟨φ0,φ1,φ2,φ8⟩,hlen,hM5,hM6,hcp,hcr,hcb⟩:=Ahu (u:=u) (bD:=w1.heap.size) (t:=t) HS.out hbW (by have:=HSZ.out;omega) ((FU.out.later HB1.out).later hA) ((FC.out.later HB1.out).later hA) ((FR.out.later HB1.out).later hA) fD HU.out (by intro v hv;simp at hv;rcases hv with rfl | rfl | rfl | rfl<;>rfl) HC.out (by intro v hv;simp at hv;rcases hv with rfl | rfl | rfl | rfl<;>rfl) hO2 HB1.out.size HV.out.wf rfl LR.out LB.out HT.out hrow
 obtain⟨v,hp',hrun,hend⟩:=HR.out W2 L o5 o6 MV RH φ _ _ _ _ hbW ⟨rfl,hlen,hM5,⟨row,hrow,hM6⟩,hcp,hcr,hcb⟩ hsim
 rw[hW2]
 refine A2h (call:=cN XB0 1500) (f:=26) (fuel:=1000) (tm:=((((((((List.replicate 214 AV.junk).set 5 (.ptr 0 0)).set 6 (.ptr 1 0)).set 10 (.ptr 2 0)).set 12 (.ptr 8 0)).set 2 (.int .i64 m)).set 3 (.int .i64 r)).set 4 (.int .i64 (t:Int)))) (v:=v) (hp':=hp') Aaw A5y (Xj A2t 1500) (by kernel_rfl) (by kernel_rfl) (by kernel_rfl) hsim ?_ rfl hrun hend (by assumption) (by assumption)
 refine Fk ?_ (.int _ _ _ _ OT.out) rfl
 refine Fk ?_ (.int _ _ _ _ OR.out) rfl
 refine Fk ?_ (.int _ _ _ _ OM.out) rfl
 refine Fk ?_ (.ptr _ _ 8 0 _ φ8) rfl
 refine Fk ?_ (.ptr _ _ 2 0 _ φ2) rfl
 refine Fk ?_ (.ptr _ _ 1 0 _ φ1) rfl
 refine Fk ?_ (.ptr _ _ 0 0 _ φ0) rfl
 exact Zi rfl
theorem Og {S S':Nat→Nat→Prop} {w:World} {hp:Hp} {φ:List Pl} {size:Nat} {els:List (List AV)} {v:Value} (h:Rep S w hp φ (.sl size els) v) (hS:∀ b o,S b o→S' b o):Rep S' w [] [] (.sl size els) v:=by
 have:Rep S w [] [] (.sl size els) v:=by cases h;exact .sl _ _ _ _ _ _ _ ‹_› ‹_› ‹_›
 exact Rep.mono (fun b o hb=>⟨hS b o hb,rfl⟩) this (.refl _ _)
structure Dv (c':A8) (t:Nat) (hp:Hp) (MV:AV) (n cp cr cb:Nat):Prop where
 pc:hp[3]?=some (.var 1000001 (iL c'.pc))
 buf:hp[4]?=some (.var 1000001 (c'.buf.map aEs))
 mem:(MV=.sl 1 []∧c'.mem=[])∨∃ cm,c'.mem.length≤cm∧cm≤maxLen∧MV=.vsl 5 0 c'.mem.length cm∧hp[5]?=some (.var 1000001 (iL c'.mem))
 regs:∃ AT row,c'.regs[t]?=some row∧hp[7]?=some (.var 1000001 ((c'.regs.map aIs).set t AT))∧((AT=.sl 1 []∧row=[])∨∃ ct,row.length≤ct∧ct≤maxLen∧AT=.vsl 6 0 row.length ct∧hp[6]?=some (.var 1000001 (iL row)))
 lp:c'.pc.length=n
 lr:c'.regs.length=n
 lb:c'.buf.length=n
 hcp:n≤cp∧cp≤maxLen
 hcr:n≤cr∧cr≤maxLen
 hcb:n≤cb∧cb≤maxLen
theorem Pd {P:Program} {base:Nat} {S S':Nat→Nat→Prop} {w:World} {hp:Hp} {φ:List Pl} (hs:Sim P base S w hp φ) (hS:∀ b o,Pk w φ b o→S' b o) {id cap:Nat} {v:Value} {l:List Int} (h:Rep S w hp φ (.vsl id 0 l.length cap) v) {t:TypeId} (ho:hp[id]?=some (.var t (iL l))) (hcap:l.length≤cap∧cap≤maxLen):Rep S' w [] [] (aIs l) v:=by
 refine Qs hs h ho (els:=l.map A0) (by simp) (by simp) hcap (fun k a x hk ha hr=>?_) fun b hb o ho'=>hS b o (Ti hs ho hb (by simpa using ho'))
 rw[List.getElem?_map,A5 hk] at ha
 cases ha
 refine⟨.int .i64 l[k],by rw[List.getElem?_map,A5 hk];rfl,?_⟩
 obtain⟨rfl,hw⟩:=hr.int_inv
 exact .int _ _ _ _ hw
theorem Ae0 {P:Program} {base:Nat} {S S':Nat→Nat→Prop} {w:World} {hp:Hp} {φ:List Pl} (hs:Sim P base S w hp φ) (hS:∀ b o,Pk w φ b o→S' b o) (hS2:∀ b o,S b o→S' b o) {c':A8} {t n cp cr cb:Nat} {MV:AV} {b:Bool} {u':Value} (hE:Dv c' t hp MV n cp cr cb) (h:Rep S w hp φ (.tup [.agg [.vsl 3 0 n cp,.vsl 7 0 n cr,MV,.vsl 4 0 n cb],.bool b]) u'):Rep S' w [] [] (.tup [aC c',.bool b]) u':=by
 obtain⟨e1,e2,e3,⟨AT,row,e4,e5,e6⟩,e7,e8,e9,e10,e11,e12⟩:=hE
 obtain⟨vs,hr,rfl⟩:=h.tup_inv
 cases hr with | cons _ _ _ va _ _ ha hr =>
 cases hr with | cons _ _ _ vb _ _ hb hr =>
 cases hr
 obtain⟨ds,hd,od,rfl⟩:=ha.agg_inv
 cases hd with | cons _ _ _ d0 _ _ h0 hd =>
 cases hd with | cons _ _ _ d1 _ _ h1 hd =>
 cases hd with | cons _ _ _ d2 _ _ h2 hd =>
 cases hd with | cons _ _ _ d3 _ _ h3 hd =>
 cases hd
 have hb':=hb.bool_inv
 subst hb'
 refine .tup _ _ _ _ (.cons _ _ _ _ _ _ (.agg _ _ _ [d0,d1,d2,d3] (.cons _ _ _ _ _ _ ?_ (.cons _ _ _ _ _ _ ?_ (.cons _ _ _ _ _ _ ?_ (.cons _ _ _ _ _ _ ?_ (.nil _ _))))) od) (.cons _ _ _ _ _ _ (.bool _ _ _) (.nil _ _)))
 ·subst e7
  exact Pd hs hS h0 e1 e10
 ·refine Qs hs h1 e5 (els:=c'.regs.map Ad) (by simp[e8]) (by simp[e8]) e11 (fun k a x hk ha hr=>?_) fun b hb o ho'=>hS b o (Ti hs e5 hb (by simp[e8];exact ho'))
  rw[List.getElem?_set] at ha
  split at ha
  ·rename_i e
   subst e
   split at ha
   ·cases ha
    refine⟨aIs row,by rw[List.getElem?_map,e4];rfl,?_⟩
    rcases e6 with ⟨rfl,rfl⟩ | ⟨ct,k1,k2,rfl,k3⟩
    ·exact Og hr hS2
    ·exact Pd hs hS hr k3 ⟨k1,k2⟩
   ·cases ha
  ·rw[List.getElem?_map] at ha
   cases hk2:c'.regs[k]? with
   | none=>rw[hk2] at ha;cases ha
   | some y =>
    rw[hk2] at ha
    cases ha
    exact⟨aIs y,by rw[List.getElem?_map,hk2];rfl,Og hr hS2⟩
 ·rcases e3 with ⟨rfl,k1⟩ | ⟨cm,k1,k2,rfl,k3⟩
  ·rw[k1]
   exact Og h2 hS2
  ·exact Pd hs hS h2 k3 ⟨k1,k2⟩
 ·refine Qs hs h3 e2 (els:=c'.buf.map Ae) (by simp[e9]) (by simp[e9]) e12 (fun k a x hk ha hr=>?_) fun b hb o ho'=>hS b o (Ti hs e2 hb (by simp[e9];exact ho'))
  rw[List.getElem?_map] at ha
  cases hk2:c'.buf[k]? with
  | none=>rw[hk2] at ha;cases ha
  | some y =>
   rw[hk2] at ha
   cases ha
   exact⟨aEs y,by rw[List.getElem?_map,hk2];rfl,Og hr hS2⟩
theorem Jz {α:Type} (f:α→AV) (l:List α) {k j:Nat} (hk:k=j) (y:α) (h:j < l.length):B6 (l.map f) k [f y]=(l.set j y).map f:=by
 subst hk
 unfold B6
 rw[List.set_eq_take_append_cons_drop,if_pos h,List.map_append,List.map_cons,List.map_take,List.map_drop]
 rfl
theorem Vc {α:Type} (l:List α) (i:Nat) (x y:α):(l.set i x).set i y=l.set i y:=List.set_set ..
theorem Ij {u:Ac} {c c':A8} {t n cp cr cb:Nat} {o5 o6 o5' o6':Ob} {MV:AV} {RH PC' BF':List AV} {D:List AV} {X:Hp} (hO:Ia c t o5 o6 MV RH n cp cr cb) (lr:c.regs.length=n) (lb:c.buf.length=n)
 (h3:PC'=iL c'.pc) (l3:c'.pc.length=n) (h4:BF'=c'.buf.map aEs) (l4:c'.buf.length=n)
 (hm:(c.mem=[]→c'.mem=[] )∧(∀ cm,o5=.var 1000001 (iL c.mem)→MV=.vsl 5 0 c.mem.length cm→c'.mem.length=c.mem.length∧o5'=.var 1000001 (iL c'.mem)))
 (hr:∀ row,c.regs[t]?=some row→∃ row',c'.regs=c.regs.set t row'∧row'.length=row.length∧(o6=.var 1000001 (iL row)→o6'=.var 1000001 (iL row'))) :
 Dv c' t (Au u c D PC' BF' o5' o6' RH D++X) MV n cp cr cb:=by
 obtain⟨row,e1,e2⟩:=hO.row
 obtain⟨row',f1,f2,f3⟩:=hr row e1
 have ht:t < c.regs.length:=(List.getElem?_eq_some_iff.1 e1).1
 refine⟨by rw[h3];rfl,by rw[h4];rfl,?_,?_,l3,by rw[f1,List.length_set,lr],l4,hO.hcp,hO.hcr,hO.hcb⟩
 ·rcases hO.mem with ⟨k1,k2,k3⟩ | ⟨cm,k1,k2,k3,k4⟩
  ·exact .inl ⟨k3,hm.1 k1⟩
  ·obtain⟨m1,m2⟩:=hm.2 cm k3 k4
   exact .inr ⟨cm,by omega,k2,by rw[m1];exact k4,by rw[m2];rfl⟩
 ·rcases e2 with ⟨k1,k2,k3⟩ | ⟨ct,k1,k2,k3,k4⟩
  ·refine⟨.sl 1 [],row',by rw[f1];exact List.getElem?_set_self ht,?_,.inl ⟨rfl,?_⟩⟩
   ·rw[f1,List.map_set,Vc,k3];rfl
   ·rw[k1] at f2;exact List.eq_nil_of_length_eq_zero f2
  ·refine⟨.vsl 6 0 row'.length ct,row',by rw[f1];exact List.getElem?_set_self ht,?_,?_⟩
   ·rw[f1,List.map_set,Vc,f2,k4];rfl
   ·exact .inr ⟨ct,by omega,k2,rfl,by rw[f3 k3];rfl⟩
theorem T8 (f:FuncId) (args:List AV):cN XB0 1500 false f args []=G7 Try.prog HH XB0 1500 f args []:=rfl
theorem Af0 {c:A8} {t:Nat} {row:List Int} (h:c.regs[t]?=some row):c.regs=c.regs.set t row:=by
 obtain⟨h1,rfl⟩:=List.getElem?_eq_some_iff.1 h
 exact(List.set_getElem_self h1).symm
abbrev cD (n cp cr cb:Nat) (MV:AV):List AV:=[.vsl 3 0 n cp,.vsl 7 0 n cr,MV,.vsl 4 0 n cb]
theorem Afp {u:Ac} {c:A8} {m r:Int} {t n cp cr cb:Nat} {o5 o6:Ob} {MV:AV} {RH:List AV} (hO:Ia c t o5 o6 MV RH n cp cr cb) (lr:c.regs.length=n) (lb:c.buf.length=n)
 (h1:cN XB0 1500 false 35 [.agg [.int .i64 u.mod,.sl 1 (u.init.map A0),.sl 1 (u.regs.map A0),.sl 1 (u.code.map Aa)],.agg [.sl 1 (c.pc.map A0),.sl 1 (c.regs.map Ad),.sl 1 (c.mem.map A0),.sl 1 (c.buf.map Ae)],.int .i64 m,.int .i64 r,.int .i64 (t:Int)] []=some (.bool false,[])) :
 ∃ hp',Av (cN XB0 1500) u c m r t (Au u c Bg (iL c.pc) (c.buf.map aEs) o5 o6 RH (cD n cp cr cb MV))=some (.tup [.agg (cD n cp cr cb MV),.bool false],hp')∧Dv c t hp' MV n cp cr cb:=by
 have hE:Dv c t (Au u c (cD n cp cr cb MV) (iL c.pc) (c.buf.map aEs) o5 o6 RH (cD n cp cr cb MV)++[]) MV n cp cr cb:=Ij hO lr lb rfl hO.hn rfl lb ⟨fun h=>h,fun cm h _=>⟨rfl,h⟩⟩ fun row h=>⟨row,Af0 h,rfl,fun h=>h⟩
 rw[List.append_nil] at hE
 obtain⟨row,e1,e2⟩:=hO.row
 rcases hO.mem with ⟨k1,rfl,rfl⟩ | ⟨cm,k1,k2,rfl,rfl⟩<;>rcases e2 with ⟨j1,rfl,j3⟩ | ⟨ct,j1,j2,rfl,j4⟩
 ·exact⟨_,Ab9 u c m r t n cp cr cb 0 0 0 0 _ _ [] [] RH [] _ h1,hE⟩
 ·exact⟨_,Aaj u c m r t n cp cr cb 0 0 0 0 _ _ [] _ RH [] _ h1,hE⟩
 ·exact⟨_,Abj u c m r t n cp cr cb cm 0 0 _ _ _ _ [] RH [] _ h1,hE⟩
 ·exact⟨_,Ab6 u c m r t n cp cr cb cm 0 0 _ _ _ _ _ RH [] _ h1,hE⟩
structure StepF (u:Ac) (c:A8) (m r:Int) (t:Nat) (code:List Aj) (x:Aj) (p:Nat) (e:Int) (row:List Int) (b:List A2):Prop where
 h1:cN XB0 1500 false 35 [.agg [.int .i64 u.mod,.sl 1 (u.init.map A0),.sl 1 (u.regs.map A0),.sl 1 (u.code.map Aa)],.agg [.sl 1 (c.pc.map A0),.sl 1 (c.regs.map Ad),.sl 1 (c.mem.map A0),.sl 1 (c.buf.map Ae)],.int .i64 m,.int .i64 r,.int .i64 (t:Int)] []=some (.bool true,[])
 h2:cN XB0 1500 false 37 [.agg [.int .i64 u.mod,.sl 1 (u.init.map A0),.sl 1 (u.regs.map A0),.sl 1 (u.code.map Aa)],.agg [.sl 1 (c.pc.map A0),.sl 1 (c.regs.map Ad),.sl 1 (c.mem.map A0),.sl 1 (c.buf.map Ae)],.int .i64 (t:Int),.sl 3 (x.e.map Bh)] []=some (.int .i64 e,[])
 fcode:u.code[t]?=some code
 fpc:c.pc[t]?=some (p:Int)
 fx:code[p]?=some x
 frow:c.regs[t]?=some row
 fbuf:c.buf[t]?=some b
 ew:p < 1000000
section
variable {u:Ac} {c:A8} {m r:Int} {t:Nat} {code:List Aj} {x:Aj} {p:Nat} {e:Int} {row:List Int} {b:List A2}
theorem StepF.gc (F:StepF u c m r t code x p e row b):nth? (u.code.map Aa) ((t:Int)).toNat=some (Aa code):=by rw[Int.toNat_natCast,nth?_eq,List.getElem?_map,F.fcode];rfl
theorem StepF.gp (F:StepF u c m r t code x p e row b):nth? (c.pc.map A0) ((t:Int)).toNat=some [.int .i64 (p:Int)]:=by rw[Int.toNat_natCast,nth?_eq,List.getElem?_map,F.fpc];rfl
theorem StepF.gx (F:StepF u c m r t code x p e row b):nth? (code.map Bd) ((p:Int)).toNat=some (Bd x):=by rw[Int.toNat_natCast,nth?_eq,List.getElem?_map,F.fx];rfl
theorem StepF.gb (F:StepF u c m r t code x p e row b):nth? (c.buf.map Ae) ((t:Int)).toNat=some [.sl 2 (b.map Ak)]:=by rw[Int.toNat_natCast,nth?_eq,List.getElem?_map,F.fbuf];rfl
theorem StepF.b1 (F:StepF u c m r t code x p e row b):t < u.code.length:=(List.getElem?_eq_some_iff.1 F.fcode).1
theorem StepF.b2 (F:StepF u c m r t code x p e row b):t < c.pc.length:=(List.getElem?_eq_some_iff.1 F.fpc).1
theorem StepF.b3 (F:StepF u c m r t code x p e row b):p < code.length:=(List.getElem?_eq_some_iff.1 F.fx).1
theorem StepF.b5 (F:StepF u c m r t code x p e row b):t < c.buf.length:=(List.getElem?_eq_some_iff.1 F.fbuf).1
theorem StepF.w (F:StepF u c m r t code x p e row b):IntKind.i64.wrap ((p:Int)+1)=((p+1:Nat):Int):=by have:=F.ew;rw[wrap64 (by omega)];omega
theorem StepF.sb (F:StepF u c m r t code x p e row b):c.buf.map aEs=(c.buf.set t b).map aEs:=by
 obtain⟨h1,h2⟩:=List.getElem?_eq_some_iff.1 F.fbuf
 rw[← h2,List.set_getElem_self h1]
theorem StepF.p1 (F:StepF u c m r t code x p e row b) (v:Int):B6 (iL c.pc) (0+((t:Int)).toNat) [.int .i64 v]=iL (c.pc.set t v):=Jz (AV.int .i64) c.pc (by simp) v F.b2
theorem StepF.p2 (F:StepF u c m r t code x p e row b) (v v':Int):B6 (B6 (iL c.pc) (0+((t:Int)).toNat) [.int .i64 v]) (0+((t:Int)).toNat) [.int .i64 v']=iL (c.pc.set t v'):=by
 rw[F.p1 v,Jz (AV.int .i64) (c.pc.set t v) (j:=t) (by simp) v' (by rw[List.length_set];exact F.b2),Vc]
end
theorem Hx (l:List Int) {k:Int} (v:Int) (h0:0≤k) (h:k < l.length):B6 (iL l) (0+k.toNat) [.int .i64 v]=iL (l.set k.toNat v):=Jz (AV.int .i64) l (by simp) v (by omega)
theorem K2 {c:A8} {t:Nat} {a:AV} (h:t < c.regs.length):List.take 1 (List.drop (0+((t:Int)).toNat) ((c.regs.map aIs).set t a))=[a]:=by
 have e:0+((t:Int)).toNat=t:=by simp
 rw[e]
 have h1:t < ((c.regs.map aIs).set t a).length:=by simp;exact h
 rw[List.drop_eq_getElem_cons h1]
 simp
theorem Adl {u:Ac} {c:A8} {m r:Int} {t n cp cr cb:Nat} {o5 o6:Ob} {MV:AV} {RH:List AV} {code:List Aj} {x:Aj} {p:Nat} {e:Int} {row:List Int} {b:List A2} (F:StepF u c m r t code x p e row b) (hO:Ia c t o5 o6 MV RH n cp cr cb) (lr:c.regs.length=n) (lb:c.buf.length=n)
 (n20:¬ x.op=20) (n21:¬ x.op=21) (n2:¬ x.op=2) (n3:¬ x.op=3) (n4:¬ x.op=4) (n5:¬ x.op=5) (n6:¬ x.op=6) (n7:¬ x.op=7) :
 ∃ hp',Av (cN XB0 1500) u c m r t (Au u c Bg (iL c.pc) (c.buf.map aEs) o5 o6 RH (cD n cp cr cb MV))=some (.tup [.agg (cD n cp cr cb MV),.bool true],hp')∧Dv ⟨c.pc.set t ((p+1:Nat):Int),c.regs.set t row,c.mem,c.buf.set t b⟩ t hp' MV n cp cr cb:=by
 have hn:=hO.hn
 have hE:∀ o5' o6' PC' BF',PC'=iL (c.pc.set t ((p+1:Nat):Int))→BF'=(c.buf.set t b).map aEs→(o5'=o5)→(o6'=o6)→Dv ⟨c.pc.set t ((p+1:Nat):Int),c.regs.set t row,c.mem,c.buf.set t b⟩ t (Au u c (cD n cp cr cb MV) PC' BF' o5' o6' RH (cD n cp cr cb MV)++[D2 x]) MV n cp cr cb:=fun o5' o6' PC' BF' h3 h4 h5 h6=>Ij hO lr lb h3 (by simp;exact hn) h4 (by simp;exact lb) (⟨fun h=>h,fun cm h _=>⟨rfl,h5.trans h⟩⟩) (fun row0 h=>by
  have:=h.symm.trans F.frow
  cases this
  exact⟨row,rfl,rfl,fun h=>h6.trans h⟩)
 obtain⟨row1,e1,e2⟩:=hO.row
 obtain rfl:row=row1:=by have:=F.frow.symm.trans e1;cases this;rfl
 have tr:t < c.regs.length:=(List.getElem?_eq_some_iff.1 e1).1
 have lp:(iL c.pc).length=n:=by simp;exact hn
 have b4:t < n:=by have:=F.b2;omega
 rcases hO.mem with ⟨k1,rfl,rfl⟩ | ⟨cm,k1,k2,rfl,rfl⟩<;>rcases e2 with ⟨j1,rfl,j3⟩ | ⟨ct,j1,j2,rfl,j4⟩
 ·exact⟨_,A7b u c m r t n cp cr cb 0 0 0 0 _ _ [] [] RH [] _ code x p e F.h1 F.h2 F.gc F.gp F.gx F.b1 F.b2 F.b3 b4 lp F.w n20 n21 n2 n3 n4 n5 n6 n7,hE _ _ _ _ (F.p1 _) (F.sb) rfl rfl⟩
 ·exact⟨_,A7u u c m r t n cp cr cb 0 ct row.length 0 _ _ [] _ RH [] _ code x p e F.h1 F.h2 F.gc F.gp F.gx F.b1 F.b2 F.b3 b4 lp F.w n20 n21 n2 n3 n4 n5 n6 n7,hE _ _ _ _ (F.p1 _) (F.sb) rfl rfl⟩
 ·exact⟨_,A88 u c m r t n cp cr cb cm 0 0 c.mem.length _ _ _ [] RH [] _ code x p e F.h1 F.h2 F.gc F.gp F.gx F.b1 F.b2 F.b3 b4 lp F.w n20 n21 n2 n3 n4 n5 n6 n7,hE _ _ _ _ (F.p1 _) (F.sb) rfl rfl⟩
 ·exact⟨_,A8b u c m r t n cp cr cb cm ct row.length c.mem.length _ _ _ _ RH [] _ code x p e F.h1 F.h2 F.gc F.gp F.gx F.b1 F.b2 F.b3 b4 lp F.w n20 n21 n2 n3 n4 n5 n6 n7,hE _ _ _ _ (F.p1 _) (F.sb) rfl rfl⟩
theorem Ac7 {u:Ac} {c:A8} {m r:Int} {t n cp cr cb:Nat} {o5 o6:Ob} {MV:AV} {RH:List AV} {code:List Aj} {x:Aj} {p:Nat} {e:Int} {row:List Int} {b:List A2} (F:StepF u c m r t code x p e row b) (hO:Ia c t o5 o6 MV RH n cp cr cb) (lr:c.regs.length=n) (lb:c.buf.length=n)
 (hx:x.op=20) :
 ∃ hp',Av (cN XB0 1500) u c m r t (Au u c Bg (iL c.pc) (c.buf.map aEs) o5 o6 RH (cD n cp cr cb MV))=some (.tup [.agg (cD n cp cr cb MV),.bool true],hp')∧Dv ⟨c.pc.set t x.goal,c.regs.set t row,c.mem,c.buf.set t b⟩ t hp' MV n cp cr cb:=by
 have hn:=hO.hn
 have hE:∀ o5' o6' PC' BF',PC'=iL (c.pc.set t x.goal)→BF'=(c.buf.set t b).map aEs→(o5'=o5)→(o6'=o6)→Dv ⟨c.pc.set t x.goal,c.regs.set t row,c.mem,c.buf.set t b⟩ t (Au u c (cD n cp cr cb MV) PC' BF' o5' o6' RH (cD n cp cr cb MV)++[D2 x]) MV n cp cr cb:=fun o5' o6' PC' BF' h3 h4 h5 h6=>Ij hO lr lb h3 (by simp;exact hn) h4 (by simp;exact lb) (⟨fun h=>h,fun cm h _=>⟨rfl,h5.trans h⟩⟩) (fun row0 h=>by
  have:=h.symm.trans F.frow
  cases this
  exact⟨row,rfl,rfl,fun h=>h6.trans h⟩)
 obtain⟨row1,e1,e2⟩:=hO.row
 obtain rfl:row=row1:=by have:=F.frow.symm.trans e1;cases this;rfl
 have tr:t < c.regs.length:=(List.getElem?_eq_some_iff.1 e1).1
 have lp:(iL c.pc).length=n:=by simp;exact hn
 have b4:t < n:=by have:=F.b2;omega
 rcases hO.mem with ⟨k1,rfl,rfl⟩ | ⟨cm,k1,k2,rfl,rfl⟩<;>rcases e2 with ⟨j1,rfl,j3⟩ | ⟨ct,j1,j2,rfl,j4⟩
 ·exact⟨_,A7e u c m r t n cp cr cb 0 0 0 0 _ _ [] [] RH [] _ code x p e F.h1 F.h2 F.gc F.gp F.gx F.b1 F.b2 F.b3 b4 lp F.w hx,hE _ _ _ _ (F.p2 _ _) (F.sb) rfl rfl⟩
 ·exact⟨_,A75 u c m r t n cp cr cb 0 ct row.length 0 _ _ [] _ RH [] _ code x p e F.h1 F.h2 F.gc F.gp F.gx F.b1 F.b2 F.b3 b4 lp F.w hx,hE _ _ _ _ (F.p2 _ _) (F.sb) rfl rfl⟩
 ·exact⟨_,A76 u c m r t n cp cr cb cm 0 0 c.mem.length _ _ _ [] RH [] _ code x p e F.h1 F.h2 F.gc F.gp F.gx F.b1 F.b2 F.b3 b4 lp F.w hx,hE _ _ _ _ (F.p2 _ _) (F.sb) rfl rfl⟩
 ·exact⟨_,A7c u c m r t n cp cr cb cm ct row.length c.mem.length _ _ _ _ RH [] _ code x p e F.h1 F.h2 F.gc F.gp F.gx F.b1 F.b2 F.b3 b4 lp F.w hx,hE _ _ _ _ (F.p2 _ _) (F.sb) rfl rfl⟩
theorem Ai5 {u:Ac} {c:A8} {m r:Int} {t n cp cr cb:Nat} {o5 o6:Ob} {MV:AV} {RH:List AV} {code:List Aj} {x:Aj} {p:Nat} {e:Int} {row:List Int} {b:List A2} (F:StepF u c m r t code x p e row b) (hO:Ia c t o5 o6 MV RH n cp cr cb) (lr:c.regs.length=n) (lb:c.buf.length=n)
 (hx:x.op=21) (he:e=0) :
 ∃ hp',Av (cN XB0 1500) u c m r t (Au u c Bg (iL c.pc) (c.buf.map aEs) o5 o6 RH (cD n cp cr cb MV))=some (.tup [.agg (cD n cp cr cb MV),.bool true],hp')∧Dv ⟨c.pc.set t x.goal,c.regs.set t row,c.mem,c.buf.set t b⟩ t hp' MV n cp cr cb:=by
 have hn:=hO.hn
 have hE:∀ o5' o6' PC' BF',PC'=iL (c.pc.set t x.goal)→BF'=(c.buf.set t b).map aEs→(o5'=o5)→(o6'=o6)→Dv ⟨c.pc.set t x.goal,c.regs.set t row,c.mem,c.buf.set t b⟩ t (Au u c (cD n cp cr cb MV) PC' BF' o5' o6' RH (cD n cp cr cb MV)++[D2 x]) MV n cp cr cb:=fun o5' o6' PC' BF' h3 h4 h5 h6=>Ij hO lr lb h3 (by simp;exact hn) h4 (by simp;exact lb) (⟨fun h=>h,fun cm h _=>⟨rfl,h5.trans h⟩⟩) (fun row0 h=>by
  have:=h.symm.trans F.frow
  cases this
  exact⟨row,rfl,rfl,fun h=>h6.trans h⟩)
 obtain⟨row1,e1,e2⟩:=hO.row
 obtain rfl:row=row1:=by have:=F.frow.symm.trans e1;cases this;rfl
 have tr:t < c.regs.length:=(List.getElem?_eq_some_iff.1 e1).1
 have lp:(iL c.pc).length=n:=by simp;exact hn
 have b4:t < n:=by have:=F.b2;omega
 rcases hO.mem with ⟨k1,rfl,rfl⟩ | ⟨cm,k1,k2,rfl,rfl⟩<;>rcases e2 with ⟨j1,rfl,j3⟩ | ⟨ct,j1,j2,rfl,j4⟩
 ·exact⟨_,Aco u c m r t n cp cr cb 0 0 0 0 _ _ [] [] RH [] _ code x p e F.h1 F.h2 F.gc F.gp F.gx F.b1 F.b2 F.b3 b4 lp F.w hx he,hE _ _ _ _ (F.p2 _ _) (F.sb) rfl rfl⟩
 ·exact⟨_,Ac3 u c m r t n cp cr cb 0 ct row.length 0 _ _ [] _ RH [] _ code x p e F.h1 F.h2 F.gc F.gp F.gx F.b1 F.b2 F.b3 b4 lp F.w hx he,hE _ _ _ _ (F.p2 _ _) (F.sb) rfl rfl⟩
 ·exact⟨_,Ae1 u c m r t n cp cr cb cm 0 0 c.mem.length _ _ _ [] RH [] _ code x p e F.h1 F.h2 F.gc F.gp F.gx F.b1 F.b2 F.b3 b4 lp F.w hx he,hE _ _ _ _ (F.p2 _ _) (F.sb) rfl rfl⟩
 ·exact⟨_,Acr u c m r t n cp cr cb cm ct row.length c.mem.length _ _ _ _ RH [] _ code x p e F.h1 F.h2 F.gc F.gp F.gx F.b1 F.b2 F.b3 b4 lp F.w hx he,hE _ _ _ _ (F.p2 _ _) (F.sb) rfl rfl⟩
theorem Afi {u:Ac} {c:A8} {m r:Int} {t n cp cr cb:Nat} {o5 o6:Ob} {MV:AV} {RH:List AV} {code:List Aj} {x:Aj} {p:Nat} {e:Int} {row:List Int} {b:List A2} (F:StepF u c m r t code x p e row b) (hO:Ia c t o5 o6 MV RH n cp cr cb) (lr:c.regs.length=n) (lb:c.buf.length=n)
 (hx:x.op=21) (he:¬ e=0) :
 ∃ hp',Av (cN XB0 1500) u c m r t (Au u c Bg (iL c.pc) (c.buf.map aEs) o5 o6 RH (cD n cp cr cb MV))=some (.tup [.agg (cD n cp cr cb MV),.bool true],hp')∧Dv ⟨c.pc.set t ((p+1:Nat):Int),c.regs.set t row,c.mem,c.buf.set t b⟩ t hp' MV n cp cr cb:=by
 have hn:=hO.hn
 have hE:∀ o5' o6' PC' BF',PC'=iL (c.pc.set t ((p+1:Nat):Int))→BF'=(c.buf.set t b).map aEs→(o5'=o5)→(o6'=o6)→Dv ⟨c.pc.set t ((p+1:Nat):Int),c.regs.set t row,c.mem,c.buf.set t b⟩ t (Au u c (cD n cp cr cb MV) PC' BF' o5' o6' RH (cD n cp cr cb MV)++[D2 x]) MV n cp cr cb:=fun o5' o6' PC' BF' h3 h4 h5 h6=>Ij hO lr lb h3 (by simp;exact hn) h4 (by simp;exact lb) (⟨fun h=>h,fun cm h _=>⟨rfl,h5.trans h⟩⟩) (fun row0 h=>by
  have:=h.symm.trans F.frow
  cases this
  exact⟨row,rfl,rfl,fun h=>h6.trans h⟩)
 obtain⟨row1,e1,e2⟩:=hO.row
 obtain rfl:row=row1:=by have:=F.frow.symm.trans e1;cases this;rfl
 have tr:t < c.regs.length:=(List.getElem?_eq_some_iff.1 e1).1
 have lp:(iL c.pc).length=n:=by simp;exact hn
 have b4:t < n:=by have:=F.b2;omega
 rcases hO.mem with ⟨k1,rfl,rfl⟩ | ⟨cm,k1,k2,rfl,rfl⟩<;>rcases e2 with ⟨j1,rfl,j3⟩ | ⟨ct,j1,j2,rfl,j4⟩
 ·exact⟨_,A9m u c m r t n cp cr cb 0 0 0 0 _ _ [] [] RH [] _ code x p e F.h1 F.h2 F.gc F.gp F.gx F.b1 F.b2 F.b3 b4 lp F.w hx he,hE _ _ _ _ (F.p1 _) (F.sb) rfl rfl⟩
 ·exact⟨_,A95 u c m r t n cp cr cb 0 ct row.length 0 _ _ [] _ RH [] _ code x p e F.h1 F.h2 F.gc F.gp F.gx F.b1 F.b2 F.b3 b4 lp F.w hx he,hE _ _ _ _ (F.p1 _) (F.sb) rfl rfl⟩
 ·exact⟨_,A97 u c m r t n cp cr cb cm 0 0 c.mem.length _ _ _ [] RH [] _ code x p e F.h1 F.h2 F.gc F.gp F.gx F.b1 F.b2 F.b3 b4 lp F.w hx he,hE _ _ _ _ (F.p1 _) (F.sb) rfl rfl⟩
 ·exact⟨_,Aan u c m r t n cp cr cb cm ct row.length c.mem.length _ _ _ _ RH [] _ code x p e F.h1 F.h2 F.gc F.gp F.gx F.b1 F.b2 F.b3 b4 lp F.w hx he,hE _ _ _ _ (F.p1 _) (F.sb) rfl rfl⟩
theorem Ach {u:Ac} {c:A8} {m r:Int} {t n cp cr cb:Nat} {o5 o6:Ob} {MV:AV} {RH:List AV} {code:List Aj} {x:Aj} {p:Nat} {e:Int} {row:List Int} {b:List A2} (F:StepF u c m r t code x p e row b) (hO:Ia c t o5 o6 MV RH n cp cr cb) (lr:c.regs.length=n) (lb:c.buf.length=n)
 (hx:x.op=4) (hm:¬ m=1) (b2:List A2) (h3:cN XB0 1500 false 39 [.sl 2 (b.map Ak),.int .i64 m,.agg [.int .i64 x.loc,.int .i64 e]] []=some (.sl 2 (b2.map Ak),[])) :
 ∃ hp',Av (cN XB0 1500) u c m r t (Au u c Bg (iL c.pc) (c.buf.map aEs) o5 o6 RH (cD n cp cr cb MV))=some (.tup [.agg (cD n cp cr cb MV),.bool true],hp')∧Dv ⟨c.pc.set t ((p+1:Nat):Int),c.regs.set t row,c.mem,c.buf.set t b2⟩ t hp' MV n cp cr cb:=by
 have hn:=hO.hn
 have hE:∀ o5' o6' PC' BF',PC'=iL (c.pc.set t ((p+1:Nat):Int))→BF'=(c.buf.set t b2).map aEs→(o5'=o5)→(o6'=o6)→Dv ⟨c.pc.set t ((p+1:Nat):Int),c.regs.set t row,c.mem,c.buf.set t b2⟩ t (Au u c (cD n cp cr cb MV) PC' BF' o5' o6' RH (cD n cp cr cb MV)++[D2 x]) MV n cp cr cb:=fun o5' o6' PC' BF' h3 h4 h5 h6=>Ij hO lr lb h3 (by simp;exact hn) h4 (by simp;exact lb) (⟨fun h=>h,fun cm h _=>⟨rfl,h5.trans h⟩⟩) (fun row0 h=>by
  have:=h.symm.trans F.frow
  cases this
  exact⟨row,rfl,rfl,fun h=>h6.trans h⟩)
 obtain⟨row1,e1,e2⟩:=hO.row
 obtain rfl:row=row1:=by have:=F.frow.symm.trans e1;cases this;rfl
 have tr:t < c.regs.length:=(List.getElem?_eq_some_iff.1 e1).1
 have lp:(iL c.pc).length=n:=by simp;exact hn
 have b4:t < n:=by have:=F.b2;omega
 rcases hO.mem with ⟨k1,rfl,rfl⟩ | ⟨cm,k1,k2,rfl,rfl⟩<;>rcases e2 with ⟨j1,rfl,j3⟩ | ⟨ct,j1,j2,rfl,j4⟩
 ·exact⟨_,A7k u c m r t n cp cr cb 0 0 0 0 _ _ [] [] RH [] _ code x p e F.h1 F.h2 F.gc F.gp F.gx F.b1 F.b2 F.b3 b4 lp F.w hx hm b b2 F.gb F.b5 (by rw[A4];exact lb) h3,hE _ _ _ _ (F.p1 _) (Jz aEs c.buf (by simp) b2 F.b5) rfl rfl⟩
 ·exact⟨_,A73 u c m r t n cp cr cb 0 ct row.length 0 _ _ [] _ RH [] _ code x p e F.h1 F.h2 F.gc F.gp F.gx F.b1 F.b2 F.b3 b4 lp F.w hx hm b b2 F.gb F.b5 (by rw[A4];exact lb) h3,hE _ _ _ _ (F.p1 _) (Jz aEs c.buf (by simp) b2 F.b5) rfl rfl⟩
 ·exact⟨_,A86 u c m r t n cp cr cb cm 0 0 c.mem.length _ _ _ [] RH [] _ code x p e F.h1 F.h2 F.gc F.gp F.gx F.b1 F.b2 F.b3 b4 lp F.w hx hm b b2 F.gb F.b5 (by rw[A4];exact lb) h3,hE _ _ _ _ (F.p1 _) (Jz aEs c.buf (by simp) b2 F.b5) rfl rfl⟩
 ·exact⟨_,A7o u c m r t n cp cr cb cm ct row.length c.mem.length _ _ _ _ RH [] _ code x p e F.h1 F.h2 F.gc F.gp F.gx F.b1 F.b2 F.b3 b4 lp F.w hx hm b b2 F.gb F.b5 (by rw[A4];exact lb) h3,hE _ _ _ _ (F.p1 _) (Jz aEs c.buf (by simp) b2 F.b5) rfl rfl⟩
theorem Aee {u:Ac} {c:A8} {m r:Int} {t n cp cr cb:Nat} {o5 o6:Ob} {MV:AV} {RH:List AV} {code:List Aj} {x:Aj} {p:Nat} {e:Int} {row:List Int} {b:List A2} (F:StepF u c m r t code x p e row b) (hO:Ia c t o5 o6 MV RH n cp cr cb) (lr:c.regs.length=n) (lb:c.buf.length=n)
 (hx:x.op=2) (hr0:0≤x.reg) (hr1:x.reg < row.length) :
 ∃ hp',Av (cN XB0 1500) u c m r t (Au u c Bg (iL c.pc) (c.buf.map aEs) o5 o6 RH (cD n cp cr cb MV))=some (.tup [.agg (cD n cp cr cb MV),.bool true],hp')∧Dv ⟨c.pc.set t ((p+1:Nat):Int),c.regs.set t (row.set x.reg.toNat e),c.mem,c.buf.set t b⟩ t hp' MV n cp cr cb:=by
 have hn:=hO.hn
 have hE:∀ o5' o6' PC' BF',PC'=iL (c.pc.set t ((p+1:Nat):Int))→BF'=(c.buf.set t b).map aEs→(o5'=o5)→(o6=.var 1000001 (iL row)→o6'=.var 1000001 (iL (row.set x.reg.toNat e)))→Dv ⟨c.pc.set t ((p+1:Nat):Int),c.regs.set t (row.set x.reg.toNat e),c.mem,c.buf.set t b⟩ t (Au u c (cD n cp cr cb MV) PC' BF' o5' o6' RH (cD n cp cr cb MV)++[D2 x]) MV n cp cr cb:=fun o5' o6' PC' BF' h3 h4 h5 h6=>Ij hO lr lb h3 (by simp;exact hn) h4 (by simp;exact lb) (⟨fun h=>h,fun cm h _=>⟨rfl,h5.trans h⟩⟩) (fun row0 h=>by
  have:=h.symm.trans F.frow
  cases this
  exact⟨(row.set x.reg.toNat e),rfl,List.length_set ..,h6⟩)
 obtain⟨row1,e1,e2⟩:=hO.row
 obtain rfl:row=row1:=by have:=F.frow.symm.trans e1;cases this;rfl
 have tr:t < c.regs.length:=(List.getElem?_eq_some_iff.1 e1).1
 have lp:(iL c.pc).length=n:=by simp;exact hn
 have b4:t < n:=by have:=F.b2;omega
 rcases hO.mem with ⟨k1,rfl,rfl⟩ | ⟨cm,k1,k2,rfl,rfl⟩<;>rcases e2 with ⟨j1,rfl,j3⟩ | ⟨ct,j1,j2,rfl,j4⟩
 ·subst j1;simp at hr1;omega
 ·exact⟨_,Ab3 u c m r t n cp cr cb 0 ct row.length 0 _ _ [] _ RH [] _ code x p e F.h1 F.h2 F.gc F.gp F.gx F.b1 F.b2 F.b3 b4 lp F.w hx (by rw[j4];simp;exact lr) (by rw[j4];exact K2 tr) (by simp) hr0 hr1,hE _ _ _ _ (F.p1 _) (F.sb) rfl (fun _=>by rw[Hx _ _ hr0 hr1])⟩
 ·subst j1;simp at hr1;omega
 ·exact⟨_,Abe u c m r t n cp cr cb cm ct row.length c.mem.length _ _ _ _ RH [] _ code x p e F.h1 F.h2 F.gc F.gp F.gx F.b1 F.b2 F.b3 b4 lp F.w hx (by rw[j4];simp;exact lr) (by rw[j4];exact K2 tr) (by simp) hr0 hr1,hE _ _ _ _ (F.p1 _) (F.sb) rfl (fun _=>by rw[Hx _ _ hr0 hr1])⟩
theorem Adq {u:Ac} {c:A8} {m r:Int} {t n cp cr cb:Nat} {o5 o6:Ob} {MV:AV} {RH:List AV} {code:List Aj} {x:Aj} {p:Nat} {e:Int} {row:List Int} {b:List A2} (F:StepF u c m r t code x p e row b) (hO:Ia c t o5 o6 MV RH n cp cr cb) (lr:c.regs.length=n) (lb:c.buf.length=n)
 (hx:x.op=3) (hr0:0≤x.reg) (hr1:x.reg < row.length) (d:Int) (h3:cN XB0 1500 false 38 [.agg [.sl 1 (c.pc.map A0),.sl 1 (c.regs.map Ad),.sl 1 (c.mem.map A0),.sl 1 (c.buf.map Ae)],.int .i64 (t:Int),.int .i64 x.loc] []=some (.int .i64 d,[])) :
 ∃ hp',Av (cN XB0 1500) u c m r t (Au u c Bg (iL c.pc) (c.buf.map aEs) o5 o6 RH (cD n cp cr cb MV))=some (.tup [.agg (cD n cp cr cb MV),.bool true],hp')∧Dv ⟨c.pc.set t ((p+1:Nat):Int),c.regs.set t (row.set x.reg.toNat d),c.mem,c.buf.set t b⟩ t hp' MV n cp cr cb:=by
 have hn:=hO.hn
 have hE:∀ o5' o6' PC' BF',PC'=iL (c.pc.set t ((p+1:Nat):Int))→BF'=(c.buf.set t b).map aEs→(o5'=o5)→(o6=.var 1000001 (iL row)→o6'=.var 1000001 (iL (row.set x.reg.toNat d)))→Dv ⟨c.pc.set t ((p+1:Nat):Int),c.regs.set t (row.set x.reg.toNat d),c.mem,c.buf.set t b⟩ t (Au u c (cD n cp cr cb MV) PC' BF' o5' o6' RH (cD n cp cr cb MV)++[D2 x]) MV n cp cr cb:=fun o5' o6' PC' BF' h3 h4 h5 h6=>Ij hO lr lb h3 (by simp;exact hn) h4 (by simp;exact lb) (⟨fun h=>h,fun cm h _=>⟨rfl,h5.trans h⟩⟩) (fun row0 h=>by
  have:=h.symm.trans F.frow
  cases this
  exact⟨(row.set x.reg.toNat d),rfl,List.length_set ..,h6⟩)
 obtain⟨row1,e1,e2⟩:=hO.row
 obtain rfl:row=row1:=by have:=F.frow.symm.trans e1;cases this;rfl
 have tr:t < c.regs.length:=(List.getElem?_eq_some_iff.1 e1).1
 have lp:(iL c.pc).length=n:=by simp;exact hn
 have b4:t < n:=by have:=F.b2;omega
 rcases hO.mem with ⟨k1,rfl,rfl⟩ | ⟨cm,k1,k2,rfl,rfl⟩<;>rcases e2 with ⟨j1,rfl,j3⟩ | ⟨ct,j1,j2,rfl,j4⟩
 ·subst j1;simp at hr1;omega
 ·exact⟨_,A8a u c m r t n cp cr cb 0 ct row.length 0 _ _ [] _ RH [] _ code x p e F.h1 F.h2 F.gc F.gp F.gx F.b1 F.b2 F.b3 b4 lp F.w hx (by rw[j4];simp;exact lr) (by rw[j4];exact K2 tr) (by simp) hr0 hr1 d h3,hE _ _ _ _ (F.p1 _) (F.sb) rfl (fun _=>by rw[Hx _ _ hr0 hr1])⟩
 ·subst j1;simp at hr1;omega
 ·exact⟨_,A83 u c m r t n cp cr cb cm ct row.length c.mem.length _ _ _ _ RH [] _ code x p e F.h1 F.h2 F.gc F.gp F.gx F.b1 F.b2 F.b3 b4 lp F.w hx (by rw[j4];simp;exact lr) (by rw[j4];exact K2 tr) (by simp) hr0 hr1 d h3,hE _ _ _ _ (F.p1 _) (F.sb) rfl (fun _=>by rw[Hx _ _ hr0 hr1])⟩
theorem Ah8 {u:Ac} {c:A8} {m r:Int} {t n cp cr cb:Nat} {o5 o6:Ob} {MV:AV} {RH:List AV} {code:List Aj} {x:Aj} {p:Nat} {e:Int} {row:List Int} {b:List A2} (F:StepF u c m r t code x p e row b) (hO:Ia c t o5 o6 MV RH n cp cr cb) (lr:c.regs.length=n) (lb:c.buf.length=n)
 (hx:x.op=4) (hm:m=1) (hl0:0≤x.loc) (hl1:x.loc < c.mem.length) :
 ∃ hp',Av (cN XB0 1500) u c m r t (Au u c Bg (iL c.pc) (c.buf.map aEs) o5 o6 RH (cD n cp cr cb MV))=some (.tup [.agg (cD n cp cr cb MV),.bool true],hp')∧Dv ⟨c.pc.set t ((p+1:Nat):Int),c.regs.set t row,(c.mem.set x.loc.toNat e),c.buf.set t b⟩ t hp' MV n cp cr cb:=by
 have hn:=hO.hn
 have hE:∀ o5' o6' PC' BF',PC'=iL (c.pc.set t ((p+1:Nat):Int))→BF'=(c.buf.set t b).map aEs→(o5=.var 1000001 (iL c.mem)→o5'=.var 1000001 (iL (c.mem.set x.loc.toNat e)))→(o6'=o6)→Dv ⟨c.pc.set t ((p+1:Nat):Int),c.regs.set t row,(c.mem.set x.loc.toNat e),c.buf.set t b⟩ t (Au u c (cD n cp cr cb MV) PC' BF' o5' o6' RH (cD n cp cr cb MV)++[D2 x]) MV n cp cr cb:=fun o5' o6' PC' BF' h3 h4 h5 h6=>Ij hO lr lb h3 (by simp;exact hn) h4 (by simp;exact lb) (⟨fun h=>by show(c.mem.set x.loc.toNat e)=[];rw[h];rfl,fun cm h _=>⟨List.length_set ..,h5 h⟩⟩) (fun row0 h=>by
  have:=h.symm.trans F.frow
  cases this
  exact⟨row,rfl,rfl,fun h=>h6.trans h⟩)
 obtain⟨row1,e1,e2⟩:=hO.row
 obtain rfl:row=row1:=by have:=F.frow.symm.trans e1;cases this;rfl
 have tr:t < c.regs.length:=(List.getElem?_eq_some_iff.1 e1).1
 have lp:(iL c.pc).length=n:=by simp;exact hn
 have b4:t < n:=by have:=F.b2;omega
 rcases hO.mem with ⟨k1,rfl,rfl⟩ | ⟨cm,k1,k2,rfl,rfl⟩<;>rcases e2 with ⟨j1,rfl,j3⟩ | ⟨ct,j1,j2,rfl,j4⟩
 ·rw[k1] at hl1;simp at hl1;omega
 ·rw[k1] at hl1;simp at hl1;omega
 ·exact⟨_,Acf u c m r t n cp cr cb cm 0 0 c.mem.length _ _ _ [] RH [] _ code x p e F.h1 F.h2 F.gc F.gp F.gx F.b1 F.b2 F.b3 b4 lp F.w hx hm (by simp) hl0 hl1,hE _ _ _ _ (F.p1 _) (F.sb) (fun _=>by rw[Hx _ _ hl0 hl1]) rfl⟩
 ·exact⟨_,Acm u c m r t n cp cr cb cm ct row.length c.mem.length _ _ _ _ RH [] _ code x p e F.h1 F.h2 F.gc F.gp F.gx F.b1 F.b2 F.b3 b4 lp F.w hx hm (by simp) hl0 hl1,hE _ _ _ _ (F.p1 _) (F.sb) (fun _=>by rw[Hx _ _ hl0 hl1]) rfl⟩
theorem Agg {u:Ac} {c:A8} {m r:Int} {t n cp cr cb:Nat} {o5 o6:Ob} {MV:AV} {RH:List AV} {code:List Aj} {x:Aj} {p:Nat} {e:Int} {row:List Int} {b:List A2} (F:StepF u c m r t code x p e row b) (hO:Ia c t o5 o6 MV RH n cp cr cb) (lr:c.regs.length=n) (lb:c.buf.length=n)
 (hx:x.op=5) (hr0:0≤x.reg) (hr1:x.reg < row.length) (hl0:0≤x.loc) (hl1:x.loc < c.mem.length) (v:Int) (gm:nth? (c.mem.map A0) x.loc.toNat=some [.int .i64 v]) (d:Int) (hv:v=e) (h3:cN XB0 1500 false 37 [.agg [.int .i64 u.mod,.sl 1 (u.init.map A0),.sl 1 (u.regs.map A0),.sl 1 (u.code.map Aa)],.agg [.sl 1 (c.pc.map A0),.sl 1 (c.regs.map Ad),.sl 1 (c.mem.map A0),.sl 1 (c.buf.map Ae)],.int .i64 (t:Int),.sl 3 (x.f.map Bh)] []=some (.int .i64 d,[])) :
 ∃ hp',Av (cN XB0 1500) u c m r t (Au u c Bg (iL c.pc) (c.buf.map aEs) o5 o6 RH (cD n cp cr cb MV))=some (.tup [.agg (cD n cp cr cb MV),.bool true],hp')∧Dv ⟨c.pc.set t ((p+1:Nat):Int),c.regs.set t (row.set x.reg.toNat v),(c.mem.set x.loc.toNat d),c.buf.set t b⟩ t hp' MV n cp cr cb:=by
 have hn:=hO.hn
 have hE:∀ o5' o6' PC' BF',PC'=iL (c.pc.set t ((p+1:Nat):Int))→BF'=(c.buf.set t b).map aEs→(o5=.var 1000001 (iL c.mem)→o5'=.var 1000001 (iL (c.mem.set x.loc.toNat d)))→(o6=.var 1000001 (iL row)→o6'=.var 1000001 (iL (row.set x.reg.toNat v)))→Dv ⟨c.pc.set t ((p+1:Nat):Int),c.regs.set t (row.set x.reg.toNat v),(c.mem.set x.loc.toNat d),c.buf.set t b⟩ t (Au u c (cD n cp cr cb MV) PC' BF' o5' o6' RH (cD n cp cr cb MV)++[D2 x]) MV n cp cr cb:=fun o5' o6' PC' BF' h3 h4 h5 h6=>Ij hO lr lb h3 (by simp;exact hn) h4 (by simp;exact lb) (⟨fun h=>by show(c.mem.set x.loc.toNat d)=[];rw[h];rfl,fun cm h _=>⟨List.length_set ..,h5 h⟩⟩) (fun row0 h=>by
  have:=h.symm.trans F.frow
  cases this
  exact⟨(row.set x.reg.toNat v),rfl,List.length_set ..,h6⟩)
 obtain⟨row1,e1,e2⟩:=hO.row
 obtain rfl:row=row1:=by have:=F.frow.symm.trans e1;cases this;rfl
 have tr:t < c.regs.length:=(List.getElem?_eq_some_iff.1 e1).1
 have lp:(iL c.pc).length=n:=by simp;exact hn
 have b4:t < n:=by have:=F.b2;omega
 rcases hO.mem with ⟨k1,rfl,rfl⟩ | ⟨cm,k1,k2,rfl,rfl⟩<;>rcases e2 with ⟨j1,rfl,j3⟩ | ⟨ct,j1,j2,rfl,j4⟩
 ·rw[k1] at hl1;simp at hl1;omega
 ·rw[k1] at hl1;simp at hl1;omega
 ·subst j1;simp at hr1;omega
 ·exact⟨_,Abc u c m r t n cp cr cb cm ct row.length c.mem.length _ _ _ _ RH [] _ code x p e F.h1 F.h2 F.gc F.gp F.gx F.b1 F.b2 F.b3 b4 lp F.w hx (by rw[j4];simp;exact lr) (by rw[j4];exact K2 tr) (by simp) hr0 hr1 (by simp) hl0 hl1 v gm hl1 d hv h3,hE _ _ _ _ (F.p1 _) (F.sb) (fun _=>by rw[Hx _ _ hl0 hl1]) (fun _=>by rw[Hx _ _ hr0 hr1])⟩
theorem Aby {u:Ac} {c:A8} {m r:Int} {t n cp cr cb:Nat} {o5 o6:Ob} {MV:AV} {RH:List AV} {code:List Aj} {x:Aj} {p:Nat} {e:Int} {row:List Int} {b:List A2} (F:StepF u c m r t code x p e row b) (hO:Ia c t o5 o6 MV RH n cp cr cb) (lr:c.regs.length=n) (lb:c.buf.length=n)
 (hx:x.op=5) (hr0:0≤x.reg) (hr1:x.reg < row.length) (hl0:0≤x.loc) (hl1:x.loc < c.mem.length) (v:Int) (gm:nth? (c.mem.map A0) x.loc.toNat=some [.int .i64 v]) (hv:¬ v=e) :
 ∃ hp',Av (cN XB0 1500) u c m r t (Au u c Bg (iL c.pc) (c.buf.map aEs) o5 o6 RH (cD n cp cr cb MV))=some (.tup [.agg (cD n cp cr cb MV),.bool true],hp')∧Dv ⟨c.pc.set t ((p+1:Nat):Int),c.regs.set t (row.set x.reg.toNat v),c.mem,c.buf.set t b⟩ t hp' MV n cp cr cb:=by
 have hn:=hO.hn
 have hE:∀ o5' o6' PC' BF',PC'=iL (c.pc.set t ((p+1:Nat):Int))→BF'=(c.buf.set t b).map aEs→(o5'=o5)→(o6=.var 1000001 (iL row)→o6'=.var 1000001 (iL (row.set x.reg.toNat v)))→Dv ⟨c.pc.set t ((p+1:Nat):Int),c.regs.set t (row.set x.reg.toNat v),c.mem,c.buf.set t b⟩ t (Au u c (cD n cp cr cb MV) PC' BF' o5' o6' RH (cD n cp cr cb MV)++[D2 x]) MV n cp cr cb:=fun o5' o6' PC' BF' h3 h4 h5 h6=>Ij hO lr lb h3 (by simp;exact hn) h4 (by simp;exact lb) (⟨fun h=>h,fun cm h _=>⟨rfl,h5.trans h⟩⟩) (fun row0 h=>by
  have:=h.symm.trans F.frow
  cases this
  exact⟨(row.set x.reg.toNat v),rfl,List.length_set ..,h6⟩)
 obtain⟨row1,e1,e2⟩:=hO.row
 obtain rfl:row=row1:=by have:=F.frow.symm.trans e1;cases this;rfl
 have tr:t < c.regs.length:=(List.getElem?_eq_some_iff.1 e1).1
 have lp:(iL c.pc).length=n:=by simp;exact hn
 have b4:t < n:=by have:=F.b2;omega
 rcases hO.mem with ⟨k1,rfl,rfl⟩ | ⟨cm,k1,k2,rfl,rfl⟩<;>rcases e2 with ⟨j1,rfl,j3⟩ | ⟨ct,j1,j2,rfl,j4⟩
 ·rw[k1] at hl1;simp at hl1;omega
 ·rw[k1] at hl1;simp at hl1;omega
 ·subst j1;simp at hr1;omega
 ·exact⟨_,A72 u c m r t n cp cr cb cm ct row.length c.mem.length _ _ _ _ RH [] _ code x p e F.h1 F.h2 F.gc F.gp F.gx F.b1 F.b2 F.b3 b4 lp F.w hx (by rw[j4];simp;exact lr) (by rw[j4];exact K2 tr) (by simp) hr0 hr1 v gm hl1 hv hl0,hE _ _ _ _ (F.p1 _) (F.sb) rfl (fun _=>by rw[Hx _ _ hr0 hr1])⟩
theorem Af5 {u:Ac} {c:A8} {m r:Int} {t n cp cr cb:Nat} {o5 o6:Ob} {MV:AV} {RH:List AV} {code:List Aj} {x:Aj} {p:Nat} {e:Int} {row:List Int} {b:List A2} (F:StepF u c m r t code x p e row b) (hO:Ia c t o5 o6 MV RH n cp cr cb) (lr:c.regs.length=n) (lb:c.buf.length=n)
 (hx:x.op=6) (hr0:0≤x.reg) (hr1:x.reg < row.length) (hl0:0≤x.loc) (hl1:x.loc < c.mem.length) (v:Int) (gm:nth? (c.mem.map A0) x.loc.toNat=some [.int .i64 v]) (hm0:¬ u.mod=0) :
 ∃ hp',Av (cN XB0 1500) u c m r t (Au u c Bg (iL c.pc) (c.buf.map aEs) o5 o6 RH (cD n cp cr cb MV))=some (.tup [.agg (cD n cp cr cb MV),.bool true],hp')∧Dv ⟨c.pc.set t ((p+1:Nat):Int),c.regs.set t (row.set x.reg.toNat v),(c.mem.set x.loc.toNat ((IntKind.i64.wrap (v+e)).tmod u.mod)),c.buf.set t b⟩ t hp' MV n cp cr cb:=by
 have hn:=hO.hn
 have hE:∀ o5' o6' PC' BF',PC'=iL (c.pc.set t ((p+1:Nat):Int))→BF'=(c.buf.set t b).map aEs→(o5=.var 1000001 (iL c.mem)→o5'=.var 1000001 (iL (c.mem.set x.loc.toNat ((IntKind.i64.wrap (v+e)).tmod u.mod))))→(o6=.var 1000001 (iL row)→o6'=.var 1000001 (iL (row.set x.reg.toNat v)))→Dv ⟨c.pc.set t ((p+1:Nat):Int),c.regs.set t (row.set x.reg.toNat v),(c.mem.set x.loc.toNat ((IntKind.i64.wrap (v+e)).tmod u.mod)),c.buf.set t b⟩ t (Au u c (cD n cp cr cb MV) PC' BF' o5' o6' RH (cD n cp cr cb MV)++[D2 x]) MV n cp cr cb:=fun o5' o6' PC' BF' h3 h4 h5 h6=>Ij hO lr lb h3 (by simp;exact hn) h4 (by simp;exact lb) (⟨fun h=>by show(c.mem.set x.loc.toNat ((IntKind.i64.wrap (v+e)).tmod u.mod))=[];rw[h];rfl,fun cm h _=>⟨List.length_set ..,h5 h⟩⟩) (fun row0 h=>by
  have:=h.symm.trans F.frow
  cases this
  exact⟨(row.set x.reg.toNat v),rfl,List.length_set ..,h6⟩)
 obtain⟨row1,e1,e2⟩:=hO.row
 obtain rfl:row=row1:=by have:=F.frow.symm.trans e1;cases this;rfl
 have tr:t < c.regs.length:=(List.getElem?_eq_some_iff.1 e1).1
 have lp:(iL c.pc).length=n:=by simp;exact hn
 have b4:t < n:=by have:=F.b2;omega
 rcases hO.mem with ⟨k1,rfl,rfl⟩ | ⟨cm,k1,k2,rfl,rfl⟩<;>rcases e2 with ⟨j1,rfl,j3⟩ | ⟨ct,j1,j2,rfl,j4⟩
 ·rw[k1] at hl1;simp at hl1;omega
 ·rw[k1] at hl1;simp at hl1;omega
 ·subst j1;simp at hr1;omega
 ·exact⟨_,A96 u c m r t n cp cr cb cm ct row.length c.mem.length _ _ _ _ RH [] _ code x p e F.h1 F.h2 F.gc F.gp F.gx F.b1 F.b2 F.b3 b4 lp F.w hx (by rw[j4];simp;exact lr) (by rw[j4];exact K2 tr) (by simp) hr0 hr1 (by simp) hl0 hl1 v gm hl1 hm0,hE _ _ _ _ (F.p1 _) (F.sb) (fun _=>by rw[Hx _ _ hl0 hl1]) (fun _=>by rw[Hx _ _ hr0 hr1])⟩
theorem Adh {u:Ac} {c:A8} {m r:Int} {t n cp cr cb:Nat} {o5 o6:Ob} {MV:AV} {RH:List AV} {code:List Aj} {x:Aj} {p:Nat} {e:Int} {row:List Int} {b:List A2} (F:StepF u c m r t code x p e row b) (hO:Ia c t o5 o6 MV RH n cp cr cb) (lr:c.regs.length=n) (lb:c.buf.length=n)
 (hx:x.op=7) (hr0:0≤x.reg) (hr1:x.reg < row.length) (hl0:0≤x.loc) (hl1:x.loc < c.mem.length) (v:Int) (gm:nth? (c.mem.map A0) x.loc.toNat=some [.int .i64 v]) :
 ∃ hp',Av (cN XB0 1500) u c m r t (Au u c Bg (iL c.pc) (c.buf.map aEs) o5 o6 RH (cD n cp cr cb MV))=some (.tup [.agg (cD n cp cr cb MV),.bool true],hp')∧Dv ⟨c.pc.set t ((p+1:Nat):Int),c.regs.set t (row.set x.reg.toNat v),(c.mem.set x.loc.toNat e),c.buf.set t b⟩ t hp' MV n cp cr cb:=by
 have hn:=hO.hn
 have hE:∀ o5' o6' PC' BF',PC'=iL (c.pc.set t ((p+1:Nat):Int))→BF'=(c.buf.set t b).map aEs→(o5=.var 1000001 (iL c.mem)→o5'=.var 1000001 (iL (c.mem.set x.loc.toNat e)))→(o6=.var 1000001 (iL row)→o6'=.var 1000001 (iL (row.set x.reg.toNat v)))→Dv ⟨c.pc.set t ((p+1:Nat):Int),c.regs.set t (row.set x.reg.toNat v),(c.mem.set x.loc.toNat e),c.buf.set t b⟩ t (Au u c (cD n cp cr cb MV) PC' BF' o5' o6' RH (cD n cp cr cb MV)++[D2 x]) MV n cp cr cb:=fun o5' o6' PC' BF' h3 h4 h5 h6=>Ij hO lr lb h3 (by simp;exact hn) h4 (by simp;exact lb) (⟨fun h=>by show(c.mem.set x.loc.toNat e)=[];rw[h];rfl,fun cm h _=>⟨List.length_set ..,h5 h⟩⟩) (fun row0 h=>by
  have:=h.symm.trans F.frow
  cases this
  exact⟨(row.set x.reg.toNat v),rfl,List.length_set ..,h6⟩)
 obtain⟨row1,e1,e2⟩:=hO.row
 obtain rfl:row=row1:=by have:=F.frow.symm.trans e1;cases this;rfl
 have tr:t < c.regs.length:=(List.getElem?_eq_some_iff.1 e1).1
 have lp:(iL c.pc).length=n:=by simp;exact hn
 have b4:t < n:=by have:=F.b2;omega
 rcases hO.mem with ⟨k1,rfl,rfl⟩ | ⟨cm,k1,k2,rfl,rfl⟩<;>rcases e2 with ⟨j1,rfl,j3⟩ | ⟨ct,j1,j2,rfl,j4⟩
 ·rw[k1] at hl1;simp at hl1;omega
 ·rw[k1] at hl1;simp at hl1;omega
 ·subst j1;simp at hr1;omega
 ·exact⟨_,A6z u c m r t n cp cr cb cm ct row.length c.mem.length _ _ _ _ RH [] _ code x p e F.h1 F.h2 F.gc F.gp F.gx F.b1 F.b2 F.b3 b4 lp F.w hx (by rw[j4];simp;exact lr) (by rw[j4];exact K2 tr) (by simp) hr0 hr1 (by simp) hl0 hl1 v gm hl1,hE _ _ _ _ (F.p1 _) (F.sb) (fun _=>by rw[Hx _ _ hl0 hl1]) (fun _=>by rw[Hx _ _ hr0 hr1])⟩
theorem Wk {α:Type} {l:List α} {i:Nat} {x d:α} (h:l[i]?=some x):l.getD i d=x:=by rw[List.getD_eq_getElem?_getD,h];rfl
set_option maxHeartbeats 4000000 in
theorem Agh {u:Ac} {c:A8} {m r:Int} {t n cp cr cb:Nat} {o5 o6:Ob} {MV:AV} {RH:List AV} (hu:Ax u=true) (hlu:Dk u=true) (hm:1≤m∧m≤3) (hr:1≤r∧r≤4) (h:Cj u c m r) (ht:t < u.regs.length) (hO:Ia c t o5 o6 MV RH n cp cr cb) :
 ∃ hp',Av (cN XB0 1500) u c m r t (Au u c Bg (iL c.pc) (c.buf.map aEs) o5 o6 RH (cD n cp cr cb MV))=some (.tup [.agg (cD n cp cr cb MV),.bool (T7 u c m r t).2],hp')∧Dv (T7 u c m r t).1 t hp' MV n cp cr cb:=by
 have hz:=Q5 hu hm hr h
 have hh:=Bn hu
 have t1:t < c.pc.length:=by have:=h.lpc;omega
 have t2:t < c.regs.length:=by have:=h.lregs;omega
 have t3:t < c.buf.length:=by have:=h.lbuf;omega
 have t4:t < u.code.length:=by omega
 have lr:c.regs.length=n:=by have:=hO.hn;have:=h.lpc;have:=h.lregs;omega
 have lb:c.buf.length=n:=by have:=hO.hn;have:=h.lpc;have:=h.lbuf;omega
 have H:=h.thr t _ _ _ _ _ (A5 t1) (A5 t2) (A5 t3) (A5 t4) (A5 ht)
 have p0:=H.pc0
 have p1:=H.pc1
 have pl:(c.pc[t]).toNat < (u.code[t]).length:=by omega
 obtain⟨p,hp⟩:∃ p:Nat,c.pc[t]=(p:Int):=⟨c.pc[t].toNat,by omega⟩
 obtain⟨code,hcode⟩:∃ code,u.code[t]=code:=⟨_,rfl⟩
 obtain⟨row,hrow⟩:∃ row,c.regs[t]=row:=⟨_,rfl⟩
 obtain⟨b,hb⟩:∃ b,c.buf[t]=b:=⟨_,rfl⟩
 have epc:c.pc[t]?=some (p:Int):=by rw[A5 t1,hp]
 have erow:c.regs[t]?=some row:=by rw[A5 t2,hrow]
 have ebuf:c.buf[t]?=some b:=by rw[A5 t3,hb]
 have ecode:u.code[t]?=some code:=by rw[A5 t4,hcode]
 rw[hcode,hp] at pl p1
 rw[Int.toNat_natCast] at pl
 obtain⟨x,hx⟩:∃ x,code[p]?=some x:=⟨_,A5 pl⟩
 have hin:Nl u c t=some x:=by
  rw[Nl,ecode,epc]
  simp only
  rw[if_pos (by omega),Int.toNat_natCast,hx]
 have hen:enC u c m r t=enX u c m r t x:=by rw[enC,hin]
 have G1:=(T8 _ _).trans (Wr (X7 1500 u c m r t hu hlu h hz ht (by omega)))
 rw[hen] at G1
 have hxl:x.e.length≤300∧x.f.length≤300:=by
  have hlu':=hlu
  simp only[Dk,Dp,A6,List.all_eq_true,A9] at hlu'
  have:=(hlu'.2 _ (List.mem_of_getElem? ecode)).2 _ (List.mem_of_getElem? hx)
  exact⟨this.1,this.2⟩
 have hcl:code.length≤1000:=by
  have hT:=Oj hu ht
  rw[Kr ht t4] at hT
  simp only[A6,G8,A9] at hT
  obtain⟨_,⟨hl,_⟩,_⟩:=hT
  rw[hcode] at hl
  exact hl.2
 have hact:T7 u c m r t=if enX u c m r t x=true then(A6v u c m t x,true) else(c,false):=by rw[T7,hin]
 cases he:enX u c m r t x with
 | false =>
  rw[he] at G1 hact
  rw[hact]
  exact Afp hO lr lb G1
 | true =>
  rw[he] at G1 hact
  rw[hact]
  simp only[if_true]
  have hop:x.op≠22:=by intro e;unfold enX at he;rw[if_pos e] at he;cases he
  have V1:=(T8 _ _).trans (Mt (Ul 1500 u c t x.e t2 hz.regs hxl.1 (by omega)))
  have V2:=(T8 _ _).trans (Mt (Ul 1500 u c t x.f t2 hz.regs hxl.2 (by omega)))
  have RD:=(T8 _ _).trans (R5 (A8p 1500 c (t:Int) x.loc hz.buf (by omega)))
  have F:StepF u c m r t code x p (Dy u c t x.e) row b:=⟨G1,V1,ecode,epc,hx,erow,ebuf,by omega⟩
  have e0:0≤Dy u c t x.e∧Dy u c t x.e < u.mod:=A1g (by omega) (by omega)
  have hax:A6v u c m t x=Ge u c m t x (Dy u c t x.e) (Dy u c t x.f) (J3 c t x.loc) (c.mem.getD x.loc.toNat 0) (p:Int) row b:=by
   rw[A6v,Wk epc,Wk erow,Wk ebuf]
  rw[hax]
  rcases A64 hu ecode (A5 ht) hx with ⟨q,_⟩ | ⟨hlt,hok⟩
  ·exact absurd q hop
  unfold Bj at hok
  cases hn:C9 x.op with
  | none=>rw[hn] at hok;cases hok
  | some nd =>
  rw[hn] at hok
  simp only[A6] at hok
  obtain⟨⟨⟨⟨⟨_,k1⟩,k2⟩,k3⟩,_⟩,_⟩:=hok
  have hops:=X0 hn
  have hlen:(row.length:Int)=u.regs[t]:=by rw[← hrow];exact H.len
  have hreg:(x.op=2∨x.op=3∨x.op=5∨x.op=6∨x.op=7)→0≤x.reg∧x.reg < (row.length:Int):=by
   intro ho
   have:nd.reg=true:=by
    rcases ho with ho | ho | ho | ho | ho<;>(rw[ho] at hn;simp[C9] at hn;rw[← hn])
   rw[this] at k1
   rw[hlen]
   simpa [Ag,inB] using k1
  have hloc:(x.op=4∨x.op=5∨x.op=6∨x.op=7)→0≤x.loc∧x.loc < (c.mem.length:Int):=by
   intro ho
   have:nd.loc=true:=by
    rcases ho with ho | ho | ho | ho<;>(rw[ho] at hn;simp[C9] at hn;rw[← hn])
   rw[this] at k2
   rw[h.lmem]
   simpa [Ag,inB] using k2
  have hgm:∀ (h0:0≤x.loc∧x.loc < (c.mem.length:Int)),nth? (c.mem.map A0) x.loc.toNat=some [.int .i64 (c.mem.getD x.loc.toNat 0)]:=fun h0=>by
   have h1:x.loc.toNat < c.mem.length:=by omega
   rw[nth?_eq,List.getElem?_map,A5 h1,Wk (A5 h1)];rfl
  have hpc:(p:Int)+1=((p+1:Nat):Int):=by omega
  by_cases o20:x.op=20
  ·have:=Ac7 F hO lr lb o20
   simpa [Ge,pcS,rgS,mmS,bfS,o20] using this
  by_cases o21:x.op=21
  ·by_cases z:Dy u c t x.e=0
   ·have:=Ai5 F hO lr lb o21 z
    simpa [Ge,pcS,rgS,mmS,bfS,o21,z] using this
   ·have:=Afi F hO lr lb o21 z
    simpa [Ge,pcS,rgS,mmS,bfS,o21,z] using this
  by_cases o2:x.op=2
  ·obtain⟨a1,a2⟩:=hreg (by omega)
   have:=Aee F hO lr lb o2 a1 a2
   simpa [Ge,pcS,rgS,mmS,bfS,o2] using this
  by_cases o3:x.op=3
  ·obtain⟨a1,a2⟩:=hreg (by omega)
   have:=Adq F hO lr lb o3 a1 a2 _ RD
   simpa [Ge,pcS,rgS,mmS,bfS,o3] using this
  by_cases o4:x.op=4
  ·obtain⟨a1,a2⟩:=hloc (by omega)
   by_cases m1:m=1
   ·have:=Ah8 F hO lr lb o4 m1 a1 a2
    simpa [Ge,pcS,rgS,mmS,bfS,o4,m1] using this
   ·have hbl:=hz.buf _ (List.mem_of_getElem? ebuf)
    have PU:=(T8 _ _).trans (A0p (Ahh 1500 b m ⟨x.loc,Dy u c t x.e⟩ (by omega) (by omega)))
    have:=Ach F hO lr lb o4 m1 _ PU
    simpa [Ge,pcS,rgS,mmS,bfS,o4,m1] using this
  by_cases o5':x.op=5
  ·obtain⟨a1,a2⟩:=hreg (by omega)
   obtain⟨b1,b2⟩:=hloc (by omega)
   by_cases z:c.mem.getD x.loc.toNat 0=Dy u c t x.e
   ·have:=Agg F hO lr lb o5' a1 a2 b1 b2 _ (hgm ⟨b1,b2⟩) _ z V2
    have e5:(5:Int)≤x.op∧x.op≤7:=by omega
    have q4:¬ (x.op=4∧m=1):=by omega
    have q4':¬ (x.op=4∧m≠1):=by omega
    have q21:¬ (x.op=21∧Dy u c t x.e=0):=by omega
    have hc:Ge u c m t x (Dy u c t x.e) (Dy u c t x.f) (J3 c t x.loc) (c.mem.getD x.loc.toNat 0) (p:Int) row b=⟨c.pc.set t ((p+1:Nat):Int),c.regs.set t (row.set x.reg.toNat (c.mem.getD x.loc.toNat 0)),c.mem.set x.loc.toNat (Dy u c t x.f),c.buf.set t b⟩:=by
     simp only[Ge,pcS,rgS,mmS,bfS,if_neg o20,if_neg q21,if_neg o2,if_neg o3,if_pos e5,if_neg q4,if_neg q4',if_pos (And.intro o5' z),hpc]
    rw[hc]
    exact this
   ·have:=Aby F hO lr lb o5' a1 a2 b1 b2 _ (hgm ⟨b1,b2⟩) z
    have e5:(5:Int)≤x.op∧x.op≤7:=by omega
    have q4:¬ (x.op=4∧m=1):=by omega
    have q4':¬ (x.op=4∧m≠1):=by omega
    have q21:¬ (x.op=21∧Dy u c t x.e=0):=by omega
    have q5:¬ (x.op=5∧c.mem.getD x.loc.toNat 0=Dy u c t x.e):=fun q=>z q.2
    have q6:¬ x.op=6:=by omega
    have q7:¬ x.op=7:=by omega
    have hc:Ge u c m t x (Dy u c t x.e) (Dy u c t x.f) (J3 c t x.loc) (c.mem.getD x.loc.toNat 0) (p:Int) row b=⟨c.pc.set t ((p+1:Nat):Int),c.regs.set t (row.set x.reg.toNat (c.mem.getD x.loc.toNat 0)),c.mem,c.buf.set t b⟩:=by
     simp only[Ge,pcS,rgS,mmS,bfS,if_neg o20,if_neg q21,if_neg o2,if_neg o3,if_pos e5,if_neg q4,if_neg q4',if_neg q5,if_neg q6,if_neg q7,hpc]
    rw[hc]
    exact this
  by_cases o6':x.op=6
  ·obtain⟨a1,a2⟩:=hreg (by omega)
   obtain⟨b1,b2⟩:=hloc (by omega)
   have:=Af5 F hO lr lb o6' a1 a2 b1 b2 _ (hgm ⟨b1,b2⟩) (by omega)
   have e5:(5:Int)≤x.op∧x.op≤7:=by omega
   have q4:¬ (x.op=4∧m=1):=by omega
   have q4':¬ (x.op=4∧m≠1):=by omega
   have q21:¬ (x.op=21∧Dy u c t x.e=0):=by omega
   have q5:¬ (x.op=5∧c.mem.getD x.loc.toNat 0=Dy u c t x.e):=fun q=>o5' q.1
   have hv:=A8o hu h x.loc.toNat
   have hw:(IntKind.i64.wrap (c.mem.getD x.loc.toNat 0+Dy u c t x.e)).tmod u.mod=(c.mem.getD x.loc.toNat 0+Dy u c t x.e) % u.mod:=by
    rw[wrap64 (by omega),Int.tmod_eq_emod_of_nonneg (by omega)]
   rw[hw] at this
   have hc:Ge u c m t x (Dy u c t x.e) (Dy u c t x.f) (J3 c t x.loc) (c.mem.getD x.loc.toNat 0) (p:Int) row b=⟨c.pc.set t ((p+1:Nat):Int),c.regs.set t (row.set x.reg.toNat (c.mem.getD x.loc.toNat 0)),c.mem.set x.loc.toNat ((c.mem.getD x.loc.toNat 0+Dy u c t x.e) % u.mod),c.buf.set t b⟩:=by
    simp only[Ge,pcS,rgS,mmS,bfS,if_neg o20,if_neg q21,if_neg o2,if_neg o3,if_pos e5,if_neg q4,if_neg q4',if_neg q5,if_pos o6',hpc]
   rw[hc]
   exact this
  by_cases o7:x.op=7
  ·obtain⟨a1,a2⟩:=hreg (by omega)
   obtain⟨b1,b2⟩:=hloc (by omega)
   have:=Adh F hO lr lb o7 a1 a2 b1 b2 _ (hgm ⟨b1,b2⟩)
   have e5:(5:Int)≤x.op∧x.op≤7:=by omega
   have q4:¬ (x.op=4∧m=1):=by omega
   have q4':¬ (x.op=4∧m≠1):=by omega
   have q21:¬ (x.op=21∧Dy u c t x.e=0):=by omega
   have q5:¬ (x.op=5∧c.mem.getD x.loc.toNat 0=Dy u c t x.e):=fun q=>o5' q.1
   have hc:Ge u c m t x (Dy u c t x.e) (Dy u c t x.f) (J3 c t x.loc) (c.mem.getD x.loc.toNat 0) (p:Int) row b=⟨c.pc.set t ((p+1:Nat):Int),c.regs.set t (row.set x.reg.toNat (c.mem.getD x.loc.toNat 0)),c.mem.set x.loc.toNat (Dy u c t x.e),c.buf.set t b⟩:=by
    simp only[Ge,pcS,rgS,mmS,bfS,if_neg o20,if_neg q21,if_neg o2,if_neg o3,if_pos e5,if_neg q4,if_neg q4',if_neg q5,if_neg o6',if_pos o7,hpc]
   rw[hc]
   exact this
  have:=Adl F hO lr lb o20 o21 o2 o3 o4 o5' o6' o7
  have q:¬ (5≤x.op∧x.op≤7):=by omega
  simpa [Ge,pcS,rgS,mmS,bfS,o20,o21,o2,o3,o4,o5',o6',o7,q] using this
theorem Acv {u:Ac} {c:A8} {model room:Int} (hu:Ax u=true) (hm:1≤model∧model≤3) (hr:1≤room∧room≤4) (h:Cj u c model room):∀ b ∈ c.buf,b.length≤300:=by
 have hh:=Bn hu
 intro b hb
 ·obtain⟨t,ht,rfl⟩:=List.getElem_of_mem hb
  have l1:=h.lregs;have l2:=h.lbuf;have l3:=h.lpc
  have H:=h.thr t _ _ _ _ _ (A5 (show t < c.pc.length by omega)) (A5 (show t < c.regs.length by omega)) (A5 ht) (A5 (show t < u.code.length by omega)) (A5 (show t < u.regs.length by omega))
  obtain⟨b1,b2,b3,b4⟩:=H.buf
  rcases(show model=1∨model=2∨model=3 by omega) with q | q | q
  ·rw[b2 q];simp
  ·have:=b3 q;omega
  ·have k:=(b4 q).2
   have:∀ (m:Nat) (l:List A2),(∀ x ∈ l,0≤x.loc∧x.loc < (m:Int))→(∀ loc:Int,(((l.filter fun x=>x.loc==loc).length:Nat):Int)≤4)→l.length≤4*m:=by
    intro m
    induction m with
    | zero=>intro l hl _;cases l with
            | nil=>simp
            | cons a l=>have:=hl a (by simp);omega
    | succ m ih =>
     intro l hl hk
     have h1:=ih (l.filter fun x=>!(x.loc==(m:Int))) (fun x hx=>by
      obtain⟨x1,x2⟩:=List.mem_filter.1 hx
      have:=hl x x1
      have:x.loc≠(m:Int):=by simpa using x2
      omega) (fun loc=>by
      have:=hk loc
      have h2:(((l.filter fun x=>!(x.loc==(m:Int))).filter fun x=>x.loc==loc).length)≤(l.filter fun x=>x.loc==loc).length:=(List.filter_sublist.filter _).length_le
      omega)
     have h2:=hk (m:Int)
     have h3:l.length=(l.filter fun x=>x.loc==(m:Int)).length+(l.filter fun x=>!(x.loc==(m:Int))).length:=by
      exact Uh (fun x:A2=>x.loc==(m:Int)) l
     omega
   have:=this u.init.length _ (fun x hx=>⟨(b1 x hx).1,(b1 x hx).2.1⟩) (fun loc=>by have:=k loc;omega)
   omega
theorem A5e {u:Ac} {c:A8} {model room:Int} (hu:Ax u=true) (hm:1≤model∧model≤3) (hr:1≤room∧room≤4) (h:Cj u c model room):Zq c:=by
 have hh:=Bn hu
 have hz:=Q5 hu hm hr h
 have hb:=Acv hu hm hr h
 refine⟨by have:=hz.lpc;omega,by have:=hz.lmem;omega,by have:=hz.lregs;omega,by have:=hz.lbuf;omega,fun i hi=>?_,fun i hi=>hb _ (List.getElem_mem hi)⟩
 have:=hz.regs _ (List.getElem_mem hi)
 omega
set_option maxHeartbeats 4000000 in
theorem A9u:J6 Try.prog 26 (Na S7 Aiz):=by
 refine Yt fun x S vs w hS hr=>?_
 obtain⟨⟨u,c,m,r,t⟩,hu,hlu,hm,hrm,hcr,ht⟩:=x
 simp only at hu hlu hm hrm hcr ht
 replace hr:Reps S w [] [] [aU u,aC c,.int .i64 m,.int .i64 r,.int .i64 (t:Int)] vs:=hr
 cases hr with | cons _ _ _ vu _ _ ru hr =>
 cases hr with | cons _ _ _ vc _ _ rc hr =>
 cases hr with | cons _ _ _ vm _ _ rm hr =>
 cases hr with | cons _ _ _ vr _ _ rr hr =>
 cases hr with | cons _ _ _ vt _ _ rt hr =>
 cases hr
 obtain⟨rfl,om⟩:=rm.int_inv
 obtain⟨rfl,or⟩:=rr.int_inv
 obtain⟨rfl,ot⟩:=rt.int_inv
 have hv:=A2o rc
 obtain⟨us,hU,oU,rfl⟩:=ru.agg_inv
 cases hU with | cons _ _ _ u0 _ _ q0 hU =>
 cases hU with | cons _ _ _ u1 _ _ q1 hU =>
 cases hU with | cons _ _ _ u2 _ _ q2 hU =>
 cases hU with | cons _ _ _ u3 _ _ q3 hU =>
 cases hU
 obtain⟨rfl,_⟩:=q0.int_inv
 obtain⟨_,a1,c1,_,_,_,rfl⟩:=q1.sl_inv
 obtain⟨_,a2,c2,_,_,_,rfl⟩:=q2.sl_inv
 obtain⟨_,a3,c3,_,_,_,rfl⟩:=q3.sl_inv
 obtain⟨cs,hC,oC,rfl⟩:=rc.agg_inv
 cases hC with | cons _ _ _ v0 _ _ r0 hC =>
 cases hC with | cons _ _ _ v1 _ _ r1 hC =>
 cases hC with | cons _ _ _ v2 _ _ r2 hC =>
 cases hC with | cons _ _ _ v3 _ _ r3 hC =>
 cases hC
 obtain⟨_,a4,c4,_,_,_,rfl⟩:=r0.sl_inv
 obtain⟨_,a5,c5,_,_,_,rfl⟩:=r1.sl_inv
 obtain⟨_,a6,c6,_,_,_,rfl⟩:=r2.sl_inv
 obtain⟨_,a7,c7,_,_,_,rfl⟩:=r3.sl_inv
 refine Adz S w u c m r t a1 a2 a3 a4 a5 a6 a7 _ _ _ _ _ _ _ c1 c2 c3 c4 c5 c6 c7 _ hS (.cons _ _ _ _ _ _ q0 (.cons _ _ _ _ _ _ q1 (.cons _ _ _ _ _ _ q2 (.cons _ _ _ _ _ _ q3 (.nil _ _))))) (.cons _ _ _ _ _ _ r0 (.cons _ _ _ _ _ _ r1 (.cons _ _ _ _ _ _ r2 (.cons _ _ _ _ _ _ r3 (.nil _ _))))) hv (A5e hu hm hrm hcr) om or ot (by have:=hcr.lpc;have:=hcr.lregs;omega) (by have:=hcr.lpc;have:=hcr.lbuf;omega) (by have:=hcr.lpc;omega) fun w2 L o5 o6 MV RH φ n cp cr cb hb hO hsim=>?_
 obtain⟨hp',hrun,hE⟩:=Agh hu hlu hm hrm hcr ht hO
 refine⟨_,hp',hrun,fun u' S' w' φ' h1 h2 h3=>?_⟩
 obtain⟨g1,g2,g3,g4⟩:=A8n hS hb (Vi hS hb L) (fun b o h=>h.elim .inl fun h=>.inr h.1) h2 h3 (C:=Pk w' φ') (A2k h2)
 exact⟨u',fun b o=>S' b o∨Pk w' φ' b o,rfl,Ae0 h2 (fun b o h=>.inr h) (fun b o h=>.inl h) hE h1,g1,g2,g3,g4⟩
noncomputable def Pe (call:B1) (c:A8) (m:Int) (t:Nat) (l:Int) (hp:Hp):Option (AV×Hp):=Lk Try.prog HH call 27 1000 5 (Ago (Try.f27).body) ((((((((List.replicate (Try.f27).ntmps AV.junk).set 4 (.ptr 0 0)).set 8 (.ptr 1 0)).set 10 (.ptr 4 0)).set 1 (.int .i64 m)).set 2 (.int .i64 (t:Int))).set 3 (.int .i64 l))) hp (fun e tm hp'=>match e with | .exit _=>none | _=>To Try.prog Try.f27 tm hp' fun v=>some (v,hp'))
abbrev No (c:A8) (R:List AV) (BF:List AV) (o3:Ob) (D:List AV):Hp:=[.var 56 (Df c),.var 56 R,.var 1000001 BF,o3,.var 56 D]
theorem Af7 (c:A8) (m:Int) (t:Nat) (l:Int) (n cb mn cm:Nat) (BF ME:List AV) (pcs rgs ms:List (List AV)) (call:B1)
 (h1:call false 36 [.agg [.sl 1 (c.pc.map A0),.sl 1 (c.regs.map Ad),.sl 1 (c.mem.map A0),.sl 1 (c.buf.map Ae)],.int .i64 m,.int .i64 (t:Int),.int .i64 l] []=some (.bool false,[])) :
 Pe call c m t l (No c Bg BF (.var 1000001 ME) [.sl 1 pcs,.sl 1 rgs,.vsl 3 0 mn cm,.vsl 2 0 n cb])=some (.tup [.agg [.sl 1 pcs,.sl 1 rgs,.vsl 3 0 mn cm,.vsl 2 0 n cb],.bool false],No c [.sl 1 pcs,.sl 1 rgs,.vsl 3 0 mn cm,.vsl 2 0 n cb] BF (.var 1000001 ME) [.sl 1 pcs,.sl 1 rgs,.vsl 3 0 mn cm,.vsl 2 0 n cb]):=by
 have hc1:Program.cellsOf Try.prog 3=1:=by kernel_rfl
 have hc3:Program.cellsOf Try.prog 79=1:=by kernel_rfl
 unfold Pe
 conv=>lhs;whnf
 repeat (first | (refine At (by(first | (with_reducible assumption) | omega | (simp only[A6,Bool.or_eq_true,Bool.not_eq_true',Bool.and_eq_false_imp,Bool.or_eq_false_iff,A9,decide_eq_false_iff_not,beq_iff_eq,bne_iff_ne,beq_eq_false_iff_ne,bne_eq_false_iff_eq,ne_eq,A4,List.length_replicate,List.length_append,List.length_cons,List.length_nil,List.length_take,Int.toNat_natCast];omega) | (with_reducible rfl))) ?_;conv=>lhs;whnf) | (refine Bv (by(first | (with_reducible assumption) | omega | (simp only[A6,Bool.or_eq_true,Bool.not_eq_true',Bool.and_eq_false_imp,Bool.or_eq_false_iff,A9,decide_eq_false_iff_not,beq_iff_eq,bne_iff_ne,beq_eq_false_iff_ne,bne_eq_false_iff_eq,ne_eq,A4,List.length_replicate,List.length_append,List.length_cons,List.length_nil,List.length_take,Int.toNat_natCast];omega) | (with_reducible rfl))) ?_;conv=>lhs;whnf) | (simp only[hc1,hc3,h1];conv=>lhs;whnf))
 rfl
theorem Aft (c:A8) (m:Int) (t:Nat) (l:Int) (n cb mn cm:Nat) (BF ME:List AV) (pcs rgs ms:List (List AV)) (call:B1)
 (h1:call false 36 [.agg [.sl 1 (c.pc.map A0),.sl 1 (c.regs.map Ad),.sl 1 (c.mem.map A0),.sl 1 (c.buf.map Ae)],.int .i64 m,.int .i64 (t:Int),.int .i64 l] []=some (.bool false,[])) :
 Pe call c m t l (No c Bg BF B4 [.sl 1 pcs,.sl 1 rgs,.sl 1 ms,.vsl 2 0 n cb])=some (.tup [.agg [.sl 1 pcs,.sl 1 rgs,.sl 1 ms,.vsl 2 0 n cb],.bool false],No c [.sl 1 pcs,.sl 1 rgs,.sl 1 ms,.vsl 2 0 n cb] BF B4 [.sl 1 pcs,.sl 1 rgs,.sl 1 ms,.vsl 2 0 n cb]):=by
 have hc1:Program.cellsOf Try.prog 3=1:=by kernel_rfl
 have hc3:Program.cellsOf Try.prog 79=1:=by kernel_rfl
 unfold Pe
 conv=>lhs;whnf
 repeat (first | (refine At (by(first | (with_reducible assumption) | omega | (simp only[A6,Bool.or_eq_true,Bool.not_eq_true',Bool.and_eq_false_imp,Bool.or_eq_false_iff,A9,decide_eq_false_iff_not,beq_iff_eq,bne_iff_ne,beq_eq_false_iff_ne,bne_eq_false_iff_eq,ne_eq,A4,List.length_replicate,List.length_append,List.length_cons,List.length_nil,List.length_take,Int.toNat_natCast];omega) | (with_reducible rfl))) ?_;conv=>lhs;whnf) | (refine Bv (by(first | (with_reducible assumption) | omega | (simp only[A6,Bool.or_eq_true,Bool.not_eq_true',Bool.and_eq_false_imp,Bool.or_eq_false_iff,A9,decide_eq_false_iff_not,beq_iff_eq,bne_iff_ne,beq_eq_false_iff_ne,bne_eq_false_iff_eq,ne_eq,A4,List.length_replicate,List.length_append,List.length_cons,List.length_nil,List.length_take,Int.toNat_natCast];omega) | (with_reducible rfl))) ?_;conv=>lhs;whnf) | (simp only[hc1,hc3,h1];conv=>lhs;whnf))
 rfl
theorem Ajz (c:A8) (m:Int) (t:Nat) (l:Int) (n cb mn cm:Nat) (BF ME:List AV) (pcs rgs ms:List (List AV)) (call:B1)
 (h1:call false 36 [.agg [.sl 1 (c.pc.map A0),.sl 1 (c.regs.map Ad),.sl 1 (c.mem.map A0),.sl 1 (c.buf.map Ae)],.int .i64 m,.int .i64 (t:Int),.int .i64 l] []=some (.bool true,[])) (bt b2:List A2) (x:A2) (b4:t < n) (gb:nth? (c.buf.map Ae) ((t:Int)).toNat=some [.sl 2 (bt.map Ak)]) (b5:t < c.buf.length) (lb:BF.length=n) (h2:call false 40 [.sl 2 (bt.map Ak),.int .i64 m,.int .i64 l] []=some (.tup [.sl 2 (b2.map Ak),.agg [.int .i64 x.loc,.int .i64 x.n],.bool true],[])) (lm:ME.length=mn) (b7:0≤x.loc) (b8:x.loc < mn) :
 Pe call c m t l (No c Bg BF (.var 1000001 ME) [.sl 1 pcs,.sl 1 rgs,.vsl 3 0 mn cm,.vsl 2 0 n cb])=some (.tup [.agg [.sl 1 pcs,.sl 1 rgs,.vsl 3 0 mn cm,.vsl 2 0 n cb],.bool true],No c [.sl 1 pcs,.sl 1 rgs,.vsl 3 0 mn cm,.vsl 2 0 n cb] (B6 BF (0+((t:Int)).toNat) [.sl 2 (b2.map Ak)]) (.var 1000001 (B6 ME (0+x.loc.toNat) [.int .i64 x.n])) [.sl 1 pcs,.sl 1 rgs,.vsl 3 0 mn cm,.vsl 2 0 n cb]++[.var 84 [.int .i64 x.loc,.int .i64 x.n]]):=by
 have hc1:Program.cellsOf Try.prog 3=1:=by kernel_rfl
 have hc3:Program.cellsOf Try.prog 79=1:=by kernel_rfl
 unfold Pe
 conv=>lhs;whnf
 repeat (first | (refine At (by(first | (with_reducible assumption) | omega | (simp only[A6,Bool.or_eq_true,Bool.not_eq_true',Bool.and_eq_false_imp,Bool.or_eq_false_iff,A9,decide_eq_false_iff_not,beq_iff_eq,bne_iff_ne,beq_eq_false_iff_ne,bne_eq_false_iff_eq,ne_eq,A4,List.length_replicate,List.length_append,List.length_cons,List.length_nil,List.length_take,Int.toNat_natCast];omega) | (with_reducible rfl))) ?_;conv=>lhs;whnf) | (refine Bv (by(first | (with_reducible assumption) | omega | (simp only[A6,Bool.or_eq_true,Bool.not_eq_true',Bool.and_eq_false_imp,Bool.or_eq_false_iff,A9,decide_eq_false_iff_not,beq_iff_eq,bne_iff_ne,beq_eq_false_iff_ne,bne_eq_false_iff_eq,ne_eq,A4,List.length_replicate,List.length_append,List.length_cons,List.length_nil,List.length_take,Int.toNat_natCast];omega) | (with_reducible rfl))) ?_;conv=>lhs;whnf) | (simp only[hc1,hc3,h1,h2,gb];conv=>lhs;whnf))
 rfl
set_option maxHeartbeats 4000000 in
theorem Ajc {S:Nat→Nat→Prop} {w w2:World} {B bD:Nat} {c:A8} {vsC:List Value} {n gb cb:Nat} {vp vr vm:Value} {xr xb:List Value}
 (hS:∀ b o,S b o→∃ u,stay w b o=some u) (hb:Below w.heap.size w w2) (hB:w.heap.size+2≤B)
 (fC:w2.heap[w.heap.size]?=some (.cells vsC.toArray 56 (0,0)))
 (fR:w2.heap[w.heap.size+1]?=some (.cells #[.slice none 0 0,.slice none 0 0,.slice none 0 0,.slice none 0 0] 56 (0,0)))
 (fD:w2.heap[bD]?=some (.cells #[vp,vr,vm,.slice (some ⟨gb,0,none⟩) n cb] 56 (0,0)))
 (hC:Reps S w [] [] (Df c) vsC) (oC:De vsC)
 (hO:A0x B w2 c vp vr vm (.slice (some ⟨gb,0,none⟩) n cb) xr xb) (hD:B≤bD) (wf:WfC c) (lb:c.buf.length=n) :
 ∃ (L:List Nat) (o3:Ob) (MV:AV) (φ:List Pl),Sim Try.prog w.heap.size (SX S w2 w.heap.size L) w2 (No c Bg (c.buf.map aEs) o3 [aIs c.pc,Wn c.regs,MV,.vsl 2 0 n cb]) φ
   ∧(φ[0]?=some (.blk w.heap.size)∧φ[1]?=some (.blk (w.heap.size+1))∧φ[4]?=some (.blk bD))
   ∧((c.mem=[]∧o3=B4∧MV=.sl 1 [])∨∃ cm,c.mem.length≤cm∧cm≤maxLen∧o3=.var 1000001 (iL c.mem)∧MV=.vsl 3 0 c.mem.length cm)
   ∧(n≤cb∧cb≤maxLen):=by
 obtain⟨xq,hb1,hb2,hb3,hb4⟩:=Or hO.buf.own
 have lb':(c.buf.map (List.flatMap Kp)).length=n:=by rw[A4,lb]
 have lxb:xb.length=n:=hO.buf.len.trans lb'
 have hDc:∀ g cs E,w2.heap[g]?=some (.cells cs E (0,0))→E≠56→g≠bD:=fun g cs E h hE e=>hE (by rw[e] at h;exact Hr h fD)
 obtain⟨L,hL⟩:∃ L,[w.heap.size,w.heap.size+1,gb,bD]++vm.ownBlock.toList=L:=⟨_,rfl⟩
 have memL:∀ b,b ∈ L↔(b=w.heap.size∨b=w.heap.size+1∨b=gb∨b=bD)∨vm.ownBlock=some b:=by
  intro b
  rw[← hL]
  simp[or_assoc]
 have tgb:∀ {cs E},w2.heap[gb]?=some (.cells cs E (0,0))→E=79:=fun h=>(Hr hb1 h).symm
 have tvm:∀ {g cs E},vm.ownBlock=some g→w2.heap[g]?=some (.cells cs E (0,0))→E=3:=fun hg h=>by
  obtain⟨_,cs',h'⟩:=Ip hO.mem hg
  exact(Hr h' h).symm
 have ndb:gb≠bD:=hDc gb _ _ hb1 (by decide)
 have hNot:∀ b,w.heap.size≤b→b ∈ L→∀ o,¬ SX S w2 w.heap.size L b o:=fun b h1 h2 o=>Adm hS h1 h2 o
 have rowsR:∀ (i:Nat) (x:List Int) (v:Value),c.regs[i]?=some x→xr[i]?=some v→Rep (SX S w2 w.heap.size L) w2 [] [] (aIs x) v:=by
  intro i x v h1 h2
  obtain⟨m,hm⟩:=hO.regs.row i v _ h2 (by rw[List.getElem?_map,h1];rfl)
  refine V5 (wf.regs x (List.mem_of_getElem? h1)) hm fun g cs o hg hBg hh ho=>Wc (by omega) (fun hm'=>?_) hh ho
  rcases(memL g).1 hm' with (e | e | e | e) | e
  ·omega
  ·omega
  ·exact absurd (tgb (e ▸ hh)) (by decide)
  ·exact hDc g _ _ hh (by decide) e
  ·exact(hO.pr i v g h2 hg).2 e
 have rowsB:∀ (i:Nat) (x:List A2) (v:Value),c.buf[i]?=some x→xb[i]?=some v→Rep (SX S w2 w.heap.size L) w2 [] [] (aEs x) v:=by
  intro i x v h1 h2
  obtain⟨m,hm⟩:=hO.buf.row i v _ h2 (by rw[List.getElem?_map,h1];rfl)
  refine A23 (wf.buf x (List.mem_of_getElem? h1)) hm fun g cs o hg hBg hh ho=>Wc (by omega) (fun hm'=>?_) hh ho
  rcases(memL g).1 hm' with (e | e | e | e) | e
  ·omega
  ·omega
  ·exact hO.buf.apart i v g h2 hg (by rw[e];rfl)
  ·exact hDc g _ _ hh (by decide) e
  ·exact absurd (tvm e hh) (by decide)
 have repP:Rep (SX S w2 w.heap.size L) w2 [] [] (aIs c.pc) vp:=by
  refine V5 wf.pc hO.pc fun g cs o hg hBg hh ho=>Wc (by omega) (fun hm'=>?_) hh ho
  rcases(memL g).1 hm' with (e | e | e | e) | e
  ·omega
  ·omega
  ·exact absurd (tgb (e ▸ hh)) (by decide)
  ·exact hDc g _ _ hh (by decide) e
  ·exact hO.pm g hg e
 have repR:Rep (SX S w2 w.heap.size L) w2 [] [] (Wn c.regs) vr:=by
  have hl:=hO.regs.len
  rw[A4] at hl
  have ho:=hO.regs.own
  rw[A4] at ho
  refine T9 (vss:=xr.map fun u=>[u]) (e:=22) (B:=B) ?_ (A2r c.regs xr hl fun i x u h1 h2=>?_) (by intro vs hv;simp at hv;obtain⟨y,_,rfl⟩:=hv;rfl) fun g cs o hg hBg hh ho=>Wc (by omega) (fun hm'=>?_) hh ho
  ·rw[A4,hl]
   have e1:∀ l:List Value,(l.map fun u=>[u]).flatten=l:=fun l=>by induction l<;>simp_all
   rw[e1]
   exact ho
  ·obtain⟨m,hm⟩:=hO.regs.row i u _ h2 (by rw[List.getElem?_map,h1];rfl)
   exact⟨rowsR i x u h1 h2,Jo hm⟩
  ·rcases(memL g).1 hm' with (e | e | e | e) | e
   ·omega
   ·omega
   ·exact absurd (tgb (e ▸ hh)) (by decide)
   ·exact hDc g _ _ hh (by decide) e
   ·exact absurd (tvm e hh) (by decide)
 have c0:Ctx (SX S w2 w.heap.size L) w2 w.heap.size [] [] []:=⟨Adu hS hb L,fun i b h=>by simp[A7] at h⟩
 have c2:=c0.add 56 (b:=w.heap.size) (vs:=vsC) (ex:=[]) (by omega) (by rw[List.append_nil];exact fC) (Reps.lift (Reps.mono (Vi hS hb L) hC (.refl _ _))) oC (hNot _ (by omega) ((memL _).2 (.inl (.inl rfl)))) (by simp)
 have c3:=c2.add 56 (b:=w.heap.size+1) (vs:=[.slice none 0 0,.slice none 0 0,.slice none 0 0,.slice none 0 0]) (ex:=[]) (cs:=Bg) (by omega) (by rw[List.append_nil];exact fR) (.cons _ _ _ _ _ _ (.nils _ _) (.cons _ _ _ _ _ _ (.nils _ _) (.cons _ _ _ _ _ _ (.nils _ _) (.cons _ _ _ _ _ _ (.nils _ _) (.nil _ _))))) (by intro v hv;simp at hv;subst hv;rfl) (hNot _ (by omega) ((memL _).2 (.inl (.inr (.inl rfl))))) (by simp)
 have c5:=c3.add 1000001 (b:=gb) (vs:=xb) (ex:=xq) (cs:=c.buf.map aEs) (by omega) hb1 (V0 c.buf xb (by omega) fun i x v h1 h2=>(rowsB i x v h1 h2).lift) (fun v hv=>by
  obtain⟨i,hi,rfl⟩:=List.getElem_of_mem hv
  obtain⟨m,hm⟩:=hO.buf.row i xb[i] _ (A5 hi) (A5 (by omega))
  exact Jo hm) (hNot _ (by omega) ((memL _).2 (.inl (.inr (.inr (.inl rfl)))))) (by simp;omega)
 obtain⟨o3,MV,p5,l6,c6,hl6,hMV,hM5⟩:∃ (o3:Ob) (MV:AV) (p5:Pl) (l6:List Nat),Ctx (SX S w2 w.heap.size L) w2 w.heap.size ([.var 56 (Df c),.var 56 Bg,.var 1000001 (c.buf.map aEs)]++[o3]) ([.blk w.heap.size,.blk (w.heap.size+1),.blk gb]++[p5]) l6∧(∀ b ∈ l6,b < B∨b=gb∨vm.ownBlock=some b)∧(∀ hp φ,φ[3]?=some p5→Rep (SX S w2 w.heap.size L) w2 hp φ MV vm)∧((c.mem=[]∧o3=B4∧MV=.sl 1 [])∨∃ cm,c.mem.length≤cm∧cm≤maxLen∧o3=.var 1000001 (iL c.mem)∧MV=.vsl 3 0 c.mem.length cm):=by
  by_cases hm0:c.mem=[]
  ·refine⟨_,.sl 1 [],_,_,c5.dum,fun b hb'=>?_,fun hp φ _=>?_,.inl ⟨hm0,rfl,rfl⟩⟩
   ·simp at hb';omega
   ·have:=hO.mem
    rw[hm0] at this
    exact(V8 this (by decide)).lift
  ·rcases Iu hO.mem with ⟨_,h0⟩ | ⟨g,cap,ex,rfl,hg,hh,hc,hm,hsz⟩
   ·exact absurd (List.eq_nil_of_length_eq_zero h0) hm0
   ·have n2:g≠gb:=fun e=>absurd (tgb (e ▸ hh)) (by decide)
    refine⟨_,.vsl 3 0 c.mem.length cap,_,_,c5.add 1000001 (b:=g) (vs:=c.mem.map (Value.int .i64)) (ex:=ex) (cs:=iL c.mem) (by omega) hh (Mb _ wf.mem) (K0 _) (hNot _ (by omega) ((memL _).2 (.inr rfl))) (by simp;omega),fun b hb'=>?_,fun hp φ h=>.vsl _ _ _ _ _ _ _ h,.inr ⟨cap,hc,hm,rfl,rfl⟩⟩
    simp at hb'
    rcases hb' with e | e | e | e
    ·omega
    ·omega
    ·exact .inr (.inl e)
    ·exact .inr (.inr (by rw[e];rfl))
 have c9:=c6.add 56 (b:=bD) (vs:=[vp,vr,vm,.slice (some ⟨gb,0,none⟩) n cb]) (ex:=[]) (cs:=[aIs c.pc,Wn c.regs,MV,.vsl 2 0 n cb]) (by omega) (by rw[List.append_nil];exact fD)
  (.cons _ _ _ _ _ _ repP.lift (.cons _ _ _ _ _ _ repR.lift (.cons _ _ _ _ _ _ (hMV _ _ rfl) (.cons _ _ _ _ _ _ (.vsl _ _ _ _ _ _ _ rfl) (.nil _ _)))))
  (by
   intro v hv
   simp at hv
   rcases hv with rfl | rfl | rfl | rfl
   ·exact Jo hO.pc
   ·exact Jo hO.regs.own
   ·exact Jo hO.mem
   ·rfl)
  (hNot _ (by omega) ((memL _).2 (.inl (.inr (.inr (.inr rfl))))))
  (fun h=>by
   rcases hl6 bD h with e | e | e
   ·omega
   ·exact ndb e.symm
   ·obtain⟨_,cs',h'⟩:=Ip hO.mem e
    exact hDc _ _ _ h' (by decide) rfl)
 exact⟨L,o3,MV,_,c9.sim,⟨rfl,rfl,rfl⟩,hM5,⟨by omega,hb4⟩⟩
structure Aj1 (c:A8) (o3:Ob) (MV:AV) (n cb:Nat):Prop where
 hn:c.buf.length=n
 mem:(c.mem=[]∧o3=B4∧MV=.sl 1 [])∨∃ cm,c.mem.length≤cm∧cm≤maxLen∧o3=.var 1000001 (iL c.mem)∧MV=.vsl 3 0 c.mem.length cm
 hcb:n≤cb∧cb≤maxLen
abbrev fD (c:A8) (MV:AV) (n cb:Nat):List AV:=[aIs c.pc,Wn c.regs,MV,.vsl 2 0 n cb]
set_option maxRecDepth 100000 in
set_option maxHeartbeats 8000000 in
theorem Aec (S:Nat→Nat→Prop) (w:World) (c:A8) (m:Int) (t:Nat) (l:Int) (a4 a5 a6 a7:Option Addr) (n4 n5 n6 n7 c4 c5 c6 c7:Nat) (R:Ending→World→Prop)
 (hS:∀ b o,S b o→∃ u,stay w b o=some u)
 (hC:Reps S w [] [] (Df c) [.slice a4 n4 c4,.slice a5 n5 c5,.slice a6 n6 c6,.slice a7 n7 c7])
 (hv:ConfV w (.agg #[.slice a4 n4 c4,.slice a5 n5 c5,.slice a6 n6 c6,.slice a7 n7 c7]) c) (hl:Zq c) (om:okI m) (ol:okI l) (ot:okI (t:Int)) (ht:t < c.buf.length)
 (hR:∀ (w2:World) (L:List Nat) (o3:Ob) (MV:AV) (φ:List Pl) (n cb:Nat),Below w.heap.size w w2→Aj1 c o3 MV n cb →
  Sim Try.prog w.heap.size (SX S w2 w.heap.size L) w2 (No c Bg (c.buf.map aEs) o3 (fD c MV n cb)) φ →
  ∃ v hp',Pe (cN XB0 1500) c m t l (No c Bg (c.buf.map aEs) o3 (fD c MV n cb))=some (v,hp') ∧
    ∀ u' S' w' φ',Rep S' w' hp' φ' v u'→Sim Try.prog w.heap.size S' w' hp' φ'→Trans w.heap.size (SX S w2 w.heap.size L) w2 (No c Bg (c.buf.map aEs) o3 (fD c MV n cb)) φ S' w' hp' φ'→R (.returned u') w') :
 Calls Try.prog 27 #[.agg #[.slice a4 n4 c4,.slice a5 n5 c5,.slice a6 n6 c6,.slice a7 n7 c7],.int .i64 m,.int .i64 (t:Int),.int .i64 l] w R:=by
 obtain⟨W0,hW0⟩:∃ W,W=(w.alloc (.cells #[.slice a4 n4 c4,.slice a5 n5 c5,.slice a6 n6 c6,.slice a7 n7 c7] 56)).alloc (.cells #[.slice none 0 0,.slice none 0 0,.slice none 0 0,.slice none 0 0] 56):=⟨_,rfl⟩
 have hb0:Below w.heap.size w W0:=hW0 ▸ ((Below.refl _ _).alloc (Nat.le_refl _) _).alloc (by simp) _
 have hsz:W0.heap.size=w.heap.size+2:=by rw[hW0];simp
 have fc:Fresh W0 w.heap.size (.cells #[.slice a4 n4 c4,.slice a5 n5 c5,.slice a6 n6 c6,.slice a7 n7 c7] 56):=by
  rw[hW0];exact(Fresh.new w _).later ((Below.refl _ _).alloc (Nat.le_refl _) _)
 have fr:Fresh W0 (w.heap.size+1) (.cells #[.slice none 0 0,.slice none 0 0,.slice none 0 0,.slice none 0 0] 56):=by
  have:=Fresh.new (w.alloc (.cells #[.slice a4 n4 c4,.slice a5 n5 c5,.slice a6 n6 c6,.slice a7 n7 c7] 56)) (.cells #[.slice none 0 0,.slice none 0 0,.slice none 0 0,.slice none 0 0] 56)
  rw[World.size_alloc] at this
  rw[hW0];exact this
 have FC:=Lib.hid fc;have FR:=Lib.hid fr;have HB:=Lib.hid hb0;have HSZ:=Lib.hid hsz
 have HV:=Lib.hid hv;have HL:=Lib.hid hl;have HC:=Lib.hid hC;have HS:=Lib.hid hS;have HR:=Lib.hid hR
 have OM:=Lib.hid om;have OL:=Lib.hid ol;have OT:=Lib.hid ot;have HT:=Lib.hid ht
 clear hv hl hC hS hR om ol ot ht
 go_enter Try.func27,Try.ntmps27
 go_upto_region 1 with (fail)
 rw[← hW0]
 have y0:=(fc.open (k:=0) rfl).1;have y1:=(fc.open (k:=1) rfl).1;have y2:=(fc.open (k:=2) rfl).1;have y3:=(fc.open (k:=3) rfl).1
 clear hW0 hb0 hsz fc fr
 go_wp2_with fail
 refine(Zr _ _ c (HV.out.mono HB.out) HL.out).mono ?_
 rintro e w1 ⟨hb1,vp,vr,vm,vb,xr,xb,rfl,hO⟩
 clear y0 y1 y2 y3
 obtain⟨p1,k1,rfl⟩:=Hv hO.pc
 obtain⟨p2,k2,rfl⟩:=Hv hO.regs.own
 obtain⟨p3,k3,rfl⟩:=Hv hO.mem
 obtain⟨p4,k4,rfl⟩:=Hv hO.buf.own
 simp only[A4] at hO ⊢
 have HO:=Lib.hid hO;have HB1:=Lib.hid hb1
 clear hO hb1
 go_upto_region 2 with (fail)
 have hn0:=HT.out
 have g4:=HO.out.buf.own
 rw[A4] at g4
 obtain⟨gb,rfl⟩:∃ g,p4=some ⟨g,0,none⟩:=by
  rcases g4.2 with ⟨h1,h2⟩ | ⟨g,cap,cur,e1,_⟩
  ·omega
  ·exact⟨g,(Value.slice.inj e1).1⟩
 clear g4
 obtain⟨W2,hW2⟩:∃ W,w1.alloc (.cells #[.slice p1 c.pc.length k1,.slice p2 c.regs.length k2,.slice p3 c.mem.length k3,.slice (some ⟨gb,0,none⟩) c.buf.length k4] 56)=W:=⟨_,rfl⟩
 have hA:Below w1.heap.size w1 W2:=hW2 ▸ (Below.refl _ _).alloc (Nat.le_refl _) _
 have hfD:Fresh W2 w1.heap.size (.cells #[.slice p1 c.pc.length k1,.slice p2 c.regs.length k2,.slice p3 c.mem.length k3,.slice (some ⟨gb,0,none⟩) c.buf.length k4] 56):=hW2 ▸ Fresh.new w1 _
 have hbW:Below w.heap.size w W2:=(HB.out.trans (HB1.out.mono HB.out.size)).trans (hA.mono (Nat.le_trans HB.out.size HB1.out.size))
 have hO2:A0x W0.heap.size W2 c (.slice p1 c.pc.length k1) (.slice p2 c.regs.length k2) (.slice p3 c.mem.length k3) (.slice (some ⟨gb,0,none⟩) c.buf.length k4) xr xb:=⟨⟨Cx HO.out.pc hA,HO.out.regs.below hA,Cx HO.out.mem hA,HO.out.buf.below hA⟩,HO.out.pm,HO.out.pr⟩
 obtain⟨L,o3,MV,φ,hsim,⟨φ0,φ1,φ4⟩,hM5,hcb⟩:=Ajc (bD:=w1.heap.size) HS.out hbW (by have:=HSZ.out;omega) ((FC.out.later HB1.out).later hA) ((FR.out.later HB1.out).later hA) hfD HC.out (by intro v hv;simp at hv;rcases hv with rfl | rfl | rfl | rfl<;>rfl) hO2 HB1.out.size HV.out.wf rfl
 obtain⟨v,hp',hrun,hend⟩:=HR.out W2 L o3 MV φ _ _ hbW ⟨rfl,hM5,hcb⟩ hsim
 rw[hW2]
 refine A2h (call:=cN XB0 1500) (f:=27) (fuel:=1000) (tm:=((((((List.replicate (Try.f27).ntmps AV.junk).set 4 (.ptr 0 0)).set 8 (.ptr 1 0)).set 10 (.ptr 4 0)).set 1 (.int .i64 m)).set 2 (.int .i64 (t:Int))).set 3 (.int .i64 l)) (v:=v) (hp':=hp') Aaw A5y (Xj A2t 1500) (by kernel_rfl) (by kernel_rfl) (by kernel_rfl) hsim ?_ rfl hrun hend (by assumption) (by assumption)
 refine Fk ?_ (.int _ _ _ _ OL.out) rfl
 refine Fk ?_ (.int _ _ _ _ OT.out) rfl
 refine Fk ?_ (.int _ _ _ _ OM.out) rfl
 refine Fk ?_ (.ptr _ _ 4 0 _ φ4) rfl
 refine Fk ?_ (.ptr _ _ 1 0 _ φ1) rfl
 refine Fk ?_ (.ptr _ _ 0 0 _ φ0) rfl
 exact Zi rfl
structure Abl (c c':A8) (hp:Hp) (MV:AV) (n cb:Nat):Prop where
 pc:c'.pc=c.pc
 regs:c'.regs=c.regs
 buf:hp[2]?=some (.var 1000001 (c'.buf.map aEs))
 mem:(MV=.sl 1 []∧c'.mem=[])∨∃ cm,c'.mem.length≤cm∧cm≤maxLen∧MV=.vsl 3 0 c'.mem.length cm∧hp[3]?=some (.var 1000001 (iL c'.mem))
 lb:c'.buf.length=n
 hcb:n≤cb∧cb≤maxLen
theorem Ae9 {P:Program} {base:Nat} {S S':Nat→Nat→Prop} {w:World} {hp:Hp} {φ:List Pl} (hs:Sim P base S w hp φ) (hS:∀ b o,Pk w φ b o→S' b o) (hS2:∀ b o,S b o→S' b o) {c c':A8} {n cb:Nat} {MV:AV} {b:Bool} {u':Value} (hE:Abl c c' hp MV n cb) (h:Rep S w hp φ (.tup [.agg (fD c MV n cb),.bool b]) u'):Rep S' w [] [] (.tup [aC c',.bool b]) u':=by
 obtain⟨e0,e1,e2,e3,e9,e12⟩:=hE
 obtain⟨vs,hr,rfl⟩:=h.tup_inv
 cases hr with | cons _ _ _ va _ _ ha hr =>
 cases hr with | cons _ _ _ vb _ _ hb hr =>
 cases hr
 obtain⟨ds,hd,od,rfl⟩:=ha.agg_inv
 cases hd with | cons _ _ _ d0 _ _ h0 hd =>
 cases hd with | cons _ _ _ d1 _ _ h1 hd =>
 cases hd with | cons _ _ _ d2 _ _ h2 hd =>
 cases hd with | cons _ _ _ d3 _ _ h3 hd =>
 cases hd
 have hb':=hb.bool_inv
 subst hb'
 refine .tup _ _ _ _ (.cons _ _ _ _ _ _ (.agg _ _ _ [d0,d1,d2,d3] (.cons _ _ _ _ _ _ ?_ (.cons _ _ _ _ _ _ ?_ (.cons _ _ _ _ _ _ ?_ (.cons _ _ _ _ _ _ ?_ (.nil _ _))))) od) (.cons _ _ _ _ _ _ (.bool _ _ _) (.nil _ _)))
 ·rw[e0];exact Og h0 hS2
 ·rw[e1];exact Og h1 hS2
 ·rcases e3 with ⟨rfl,k1⟩ | ⟨cm,k1,k2,rfl,k3⟩
  ·rw[k1]
   exact Og h2 hS2
  ·exact Pd hs hS h2 k3 ⟨k1,k2⟩
 ·refine Qs hs h3 e2 (els:=c'.buf.map Ae) (by simp[e9]) (by simp[e9]) e12 (fun k a x hk ha hr=>?_) fun b hb o ho'=>hS b o (Ti hs e2 hb (by simp[e9];exact ho'))
  rw[List.getElem?_map] at ha
  cases hk2:c'.buf[k]? with
  | none=>rw[hk2] at ha;cases ha
  | some y =>
   rw[hk2] at ha
   cases ha
   exact⟨aEs y,by rw[List.getElem?_map,hk2];rfl,Og hr hS2⟩
theorem Ahf {u:Ac} {c:A8} {m r l:Int} {t n cb:Nat} {o3:Ob} {MV:AV} (hu:Ax u=true) (hm:1≤m∧m≤3) (hr:1≤r∧r≤4) (h:Cj u c m r) (ht:t < u.regs.length) (hO:Aj1 c o3 MV n cb) :
 ∃ hp',Pe (cN XB0 1500) c m t l (No c Bg (c.buf.map aEs) o3 (fD c MV n cb))=some (.tup [.agg (fD c MV n cb),.bool (H6 c m t l).2],hp')∧Abl c (H6 c m t l).1 hp' MV n cb:=by
 have hz:=Q5 hu hm hr h
 have hh:=Bn hu
 have t1:t < c.pc.length:=by have:=h.lpc;omega
 have t2:t < c.regs.length:=by have:=h.lregs;omega
 have t3:t < c.buf.length:=by have:=h.lbuf;omega
 have t4:t < u.code.length:=by omega
 have H:=h.thr t _ _ _ _ _ (A5 t1) (A5 t2) (A5 t3) (A5 t4) (A5 ht)
 obtain⟨b,hb⟩:∃ b,c.buf[t]=b:=⟨_,rfl⟩
 have ebuf:c.buf[t]?=some b:=by rw[A5 t3,hb]
 have hbl:=hz.buf _ (List.mem_of_getElem? ebuf)
 have G1:=(T8 _ _).trans (Wq (V6 1500 c m t l t3 hz.buf (by omega)))
 have off:(H6 c m t l).2=false→(H6 c m t l).1=c→∃ hp',Pe (cN XB0 1500) c m t l (No c Bg (c.buf.map aEs) o3 (fD c MV n cb))=some (.tup [.agg (fD c MV n cb),.bool (H6 c m t l).2],hp')∧Abl c (H6 c m t l).1 hp' MV n cb:=by
  intro q1 q2
  rw[q1] at G1 ⊢
  rw[q2]
  rcases hO.mem with ⟨k1,rfl,rfl⟩ | ⟨cm,k1,k2,rfl,rfl⟩
  ·exact⟨_,Aft c m t l n cb 0 0 _ [] _ _ [] _ G1,rfl,rfl,rfl,.inl ⟨rfl,k1⟩,hO.hn,hO.hcb⟩
  ·exact⟨_,Af7 c m t l n cb _ cm _ _ _ _ [] _ G1,rfl,rfl,rfl,.inr ⟨cm,k1,k2,rfl,rfl⟩,hO.hn,hO.hcb⟩
 have PO:=(T8 _ _).trans (U8 (Ads 1500 b m l (by omega) (by omega)))
 have hf:H6 c m t l=match Uz b m l with
  | some i=>match b[i]? with
    | some x=>(Qh c t i b x,true)
    | none=>(c,false)
  | none=>(c,false):=by rw[H6,List.getD_eq_getElem?_getD,ebuf];rfl
 cases hi:Uz b m l with
 | none =>
  rw[hi] at hf
  exact off (by rw[hf]) (by rw[hf])
 | some i =>
 cases hx:b[i]? with
 | none =>
  rw[hi] at hf
  simp only[hx] at hf
  exact off (by rw[hf]) (by rw[hf])
 | some x =>
 rw[hi] at hf PO
 simp only[hx] at hf PO
 rw[hf] at G1 ⊢
 have hH:=H.buf
 rw[hb] at hH
 have hloc:=(hH.1 x (List.mem_of_getElem? hx))
 have hl0:0≤x.loc:=hloc.1
 have hl1:x.loc < c.mem.length:=by rw[h.lmem];exact hloc.2.1
 have gb:nth? (c.buf.map Ae) ((t:Int)).toNat=some [.sl 2 (b.map Ak)]:=by rw[Int.toNat_natCast,nth?_eq,List.getElem?_map,ebuf];rfl
 have hn:=hO.hn
 rcases hO.mem with ⟨k1,rfl,rfl⟩ | ⟨cm,k1,k2,rfl,rfl⟩
 ·rw[k1] at hl1;simp at hl1;omega
 ·have ht':t < n:=by omega
  have hE:∀ o3' BF',BF'=(c.buf.set t (b.eraseIdx i)).map aEs→o3'=.var 1000001 (iL (c.mem.set x.loc.toNat x.n))→Abl c (Qh c t i b x) (No c (fD c (.vsl 3 0 c.mem.length cm) n cb) BF' o3' (fD c (.vsl 3 0 c.mem.length cm) n cb)++[.var 84 [.int .i64 x.loc,.int .i64 x.n]]) (.vsl 3 0 c.mem.length cm) n cb:=fun o3' BF' q1 q2 =>
   ⟨rfl,rfl,by rw[q1];rfl,.inr ⟨cm,by simp[Qh];exact k1,k2,by simp[Qh],by rw[q2];rfl⟩,by simp[Qh];exact hn,hO.hcb⟩
  exact⟨_,Ajz c m t l n cb _ cm (c.buf.map aEs) (iL c.mem) (c.pc.map A0) (c.regs.map Ad) [] _ G1 b (b.eraseIdx i) x ht' gb t3 (by rw[A4];exact hn) PO (by simp) hl0 hl1,hE _ _ (Jz aEs c.buf (by simp) (b.eraseIdx i) t3) (by rw[Hx _ _ hl0 hl1])⟩
set_option maxHeartbeats 4000000 in
theorem A67:J6 Try.prog 27 (Na Nh Aci):=by
 refine Yt fun x S vs w hS hr=>?_
 obtain⟨⟨c,m,t,l⟩,u,r,hu,hm,hrm,hcr,ht⟩:=x
 simp only at hu hm hrm hcr ht
 replace hr:Reps S w [] [] [aC c,.int .i64 m,.int .i64 (t:Int),.int .i64 l] vs:=hr
 cases hr with | cons _ _ _ vc _ _ rc hr =>
 cases hr with | cons _ _ _ vm _ _ rm hr =>
 cases hr with | cons _ _ _ vt _ _ rt hr =>
 cases hr with | cons _ _ _ vl _ _ rl hr =>
 cases hr
 obtain⟨rfl,om⟩:=rm.int_inv
 obtain⟨rfl,ot⟩:=rt.int_inv
 obtain⟨rfl,ol⟩:=rl.int_inv
 have hv:=A2o rc
 obtain⟨cs,hC,oC,rfl⟩:=rc.agg_inv
 cases hC with | cons _ _ _ v0 _ _ r0 hC =>
 cases hC with | cons _ _ _ v1 _ _ r1 hC =>
 cases hC with | cons _ _ _ v2 _ _ r2 hC =>
 cases hC with | cons _ _ _ v3 _ _ r3 hC =>
 cases hC
 obtain⟨_,a4,c4,_,_,_,rfl⟩:=r0.sl_inv
 obtain⟨_,a5,c5,_,_,_,rfl⟩:=r1.sl_inv
 obtain⟨_,a6,c6,_,_,_,rfl⟩:=r2.sl_inv
 obtain⟨_,a7,c7,_,_,_,rfl⟩:=r3.sl_inv
 refine Aec S w c m t l a4 a5 a6 a7 _ _ _ _ c4 c5 c6 c7 _ hS (.cons _ _ _ _ _ _ r0 (.cons _ _ _ _ _ _ r1 (.cons _ _ _ _ _ _ r2 (.cons _ _ _ _ _ _ r3 (.nil _ _))))) hv (A5e hu hm hrm hcr) om ol ot (by have:=hcr.lbuf;omega) fun w2 L o3 MV φ n cb hb hO hsim=>?_
 obtain⟨hp',hrun,hE⟩:=Ahf (l:=l) hu hm hrm hcr ht hO
 refine⟨_,hp',hrun,fun u' S' w' φ' h1 h2 h3=>?_⟩
 obtain⟨g1,g2,g3,g4⟩:=A8n hS hb (Vi hS hb L) (fun b o h=>h.elim .inl fun h=>.inr h.1) h2 h3 (C:=Pk w' φ') (A2k h2)
 exact⟨u',fun b o=>S' b o∨Pk w' φ' b o,rfl,Ae9 h2 (fun b o h=>.inr h) (fun b o h=>.inl h) hE h1,g1,g2,g3,g4⟩
def Za:Aj:=⟨8,0,0,[],[],false,0⟩
def A3s:Aj:=⟨22,0,0,[],[],false,0⟩
def Qd (mod x:Int):Ac:=⟨mod,[x],[1],[[Za,A3s]]⟩
theorem Sl.lit {α:Type} {r:Rd α} {w:World} {b:Nat} {l:List α} (rows:List (List Value)) (hlen:rows.length=l.length) (hmax:l.length≤1000) (h:∀ k (hk:k < l.length),∃ cs,rows[k]?=some cs∧cs.length=r.size∧(∀ j u,cs[j]?=some u→w.cell? ⟨b,k*r.size+j,none⟩=some u)∧r.rel w cs l[k]) :
 Sl r w (.slice (some ⟨b,0,none⟩) l.length l.length) l:=by
 refine⟨some ⟨b,0,none⟩,l.length,rfl,⟨Nat.le_refl _,by unfold maxLen;omega,by simp⟩,fun k hk=>?_⟩
 obtain⟨cs,_,h2,h3,h4⟩:=h k hk
 exact⟨b,0,cs,rfl,h2,fun j u hj=>by rw[Nat.zero_add];exact h3 j u hj,h4⟩
theorem Sl.nil' {α:Type} (r:Rd α) (w:World):Sl r w (.slice none 0 0) []:=⟨none,0,rfl,by simp,fun k hk=>absurd hk (by simp)⟩
theorem wf0:(Lit.int .i64 0).wf=true:=by decide
theorem A2q (w:World) (op:Int) (hwf:(Lit.int .i64 op).wf=true):L3.rel w [.int .i64 op,.int .i64 0,.int .i64 0,.slice none 0 0,.slice none 0 0,.bool false,.int .i64 0] ⟨op,0,0,[],[],false,0⟩ :=
 ⟨(op,(0,(0,([],([],(false,0)))))),⟨⟨rfl,hwf⟩,⟨rfl,wf0⟩,⟨rfl,wf0⟩,Sl.nil' _ _,Sl.nil' _ _,rfl,rfl,wf0⟩,rfl⟩
theorem Afv {w:World} {mod x:Int} {b1 b2 b3 b4:Nat} (hm:(Lit.int .i64 mod).wf=true) (hx:(Lit.int .i64 x).wf=true) (h1:w.cell? ⟨b1,0,none⟩=some (.int .i64 x)) (h2:w.cell? ⟨b2,0,none⟩=some (.int .i64 1))
 (h3:∀ j u,([.int .i64 8,.int .i64 0,.int .i64 0,.slice none 0 0,.slice none 0 0,.bool false,.int .i64 0,.int .i64 22,.int .i64 0,.int .i64 0,.slice none 0 0,.slice none 0 0,.bool false,.int .i64 0]:List Value)[j]?=some u→w.cell? ⟨b3,j,none⟩=some u)
 (h4:w.cell? ⟨b4,0,none⟩=some (.slice (some ⟨b3,0,none⟩) 2 2)) :
 UnitV w (.agg #[.int .i64 mod,.slice (some ⟨b1,0,none⟩) 1 1,.slice (some ⟨b2,0,none⟩) 1 1,.slice (some ⟨b4,0,none⟩) 1 1]) (Qd mod x):=by
 have hr:Sl L3 w (.slice (some ⟨b3,0,none⟩) 2 2) [Za,A3s]:=by
  refine Sl.lit (l:=[Za,A3s]) [[.int .i64 8,.int .i64 0,.int .i64 0,.slice none 0 0,.slice none 0 0,.bool false,.int .i64 0],[.int .i64 22,.int .i64 0,.int .i64 0,.slice none 0 0,.slice none 0 0,.bool false,.int .i64 0]] rfl (by show _≤1000;simp) fun k hk=>?_
  have hk:k=0∨k=1:=by simp at hk;omega
  rcases hk with rfl | rfl
  ·refine⟨_,rfl,rfl,fun j u hj=>?_,A2q w 8 (by decide)⟩
   have hj2:j < 7:=(List.getElem?_eq_some_iff.1 hj).1
   rw[show 0*L3.size+j=j by omega]
   refine h3 j u ?_
   rw[← hj]
   have:j=0∨j=1∨j=2∨j=3∨j=4∨j=5∨j=6:=by omega
   rcases this with rfl | rfl | rfl | rfl | rfl | rfl | rfl<;>rfl
  ·refine⟨_,rfl,rfl,fun j u hj=>?_,A2q w 22 (by decide)⟩
   have hj2:j < 7:=(List.getElem?_eq_some_iff.1 hj).1
   rw[show 1*L3.size+j=7+j by show 1*7+j=7+j;omega]
   refine h3 (7+j) u ?_
   rw[← hj]
   have:j=0∨j=1∨j=2∨j=3∨j=4∨j=5∨j=6:=by omega
   rcases this with rfl | rfl | rfl | rfl | rfl | rfl | rfl<;>rfl
 refine⟨_,_,_,rfl,?_,?_,?_,J1 hm⟩
 ·refine Sl.lit (l:=[x]) [[.int .i64 x]] rfl (by show _≤1000;simp) fun k hk=>?_
  obtain rfl:k=0:=by simp at hk;omega
  exact⟨_,rfl,rfl,fun j u hj=>by obtain rfl:j=0:=(by have:=(List.getElem?_eq_some_iff.1 hj).1;simp at this;omega);simpa [← hj] using h1,rfl,hx⟩
 ·refine Sl.lit (l:=[1]) [[.int .i64 1]] rfl (by show _≤1000;simp) fun k hk=>?_
  obtain rfl:k=0:=by simp at hk;omega
  exact⟨_,rfl,rfl,fun j u hj=>by obtain rfl:j=0:=(by have:=(List.getElem?_eq_some_iff.1 hj).1;simp at this;omega);simpa [← hj] using h2,rfl,(by decide:(Lit.int .i64 1).wf=true)⟩
 ·refine Sl.lit (r:=Sk) (l:=[[Za,A3s]]) [[.slice (some ⟨b3,0,none⟩) 2 2]] rfl (by show _≤1000;simp) fun k hk=>?_
  obtain rfl:k=0:=by simp at hk;omega
  exact⟨_,rfl,rfl,fun j u hj=>by obtain rfl:j=0:=(by have:=(List.getElem?_eq_some_iff.1 hj).1;simp at this;omega);simpa [← hj] using h4,hr⟩
def A94:Ac:=⟨0,[],[],[]⟩
theorem Adr (w:World):UnitV w (.agg #[.int .i64 0,.slice none 0 0,.slice none 0 0,.slice none 0 0]) A94 :=
 ⟨_,_,_,rfl,⟨none,0,rfl,⟨Nat.le_refl _,by decide,fun _=>rfl⟩,fun k hk=>absurd hk (Nat.not_lt_zero k)⟩,⟨none,0,rfl,⟨Nat.le_refl _,by decide,fun _=>rfl⟩,fun k hk=>absurd hk (Nat.not_lt_zero k)⟩,⟨none,0,rfl,⟨Nat.le_refl _,by decide,fun _=>rfl⟩,fun k hk=>absurd hk (Nat.not_lt_zero k)⟩,by show(-9223372036854775808:Int)≤0;omega,by show(0:Int)≤9223372036854775807;omega⟩
theorem A9c (w1:World) (cs:Array Value) (E:TypeId) (k:Nat) (u:Value) (h:cs[k]?=some u):(w1.alloc (.cells cs E)).cell? ⟨w1.heap.size,k,none⟩=some u:=by simp[h]
theorem Ake (w:World) (c1 c2 c3 c4 c5:Array Value) (E1 E2 E3 E4 E5:TypeId) {W:World} (hW:W=((((w.alloc (.cells c1 E1)).alloc (.cells c2 E2)).alloc (.cells c3 E3)).alloc (.cells c4 E4)).alloc (.cells c5 E5)) :
 Below w.heap.size w W∧(∀ k u,c1[k]?=some u→W.cell? ⟨w.heap.size,k,none⟩=some u)∧(∀ k u,c2[k]?=some u→W.cell? ⟨w.heap.size+1,k,none⟩=some u)∧(∀ k u,c3[k]?=some u→W.cell? ⟨w.heap.size+1+1,k,none⟩=some u) ∧
  (∀ k u,c4[k]?=some u→W.cell? ⟨w.heap.size+1+1+1,k,none⟩=some u)∧(∀ k u,c5[k]?=some u→W.cell? ⟨w.heap.size+1+1+1+1,k,none⟩=some u):=by
 subst hW
 have n2:=World.size_alloc w (.cells c1 E1)
 have n3:=World.size_alloc (w.alloc (.cells c1 E1)) (.cells c2 E2)
 have n4:=World.size_alloc ((w.alloc (.cells c1 E1)).alloc (.cells c2 E2)) (.cells c3 E3)
 have n5:=World.size_alloc (((w.alloc (.cells c1 E1)).alloc (.cells c2 E2)).alloc (.cells c3 E3)) (.cells c4 E4)
 have h1:∀ k u,c1[k]?=some u→(w.alloc (.cells c1 E1)).cell? ⟨w.heap.size,k,none⟩=some u:=fun k u h=>by simp[h]
 have h2:∀ k u,c2[k]?=some u→((w.alloc (.cells c1 E1)).alloc (.cells c2 E2)).cell? ⟨w.heap.size+1,k,none⟩=some u:=fun k u h=>by have:=A9c (w.alloc (.cells c1 E1)) c2 E2 k u h;rw[n2] at this;exact this
 have h3:∀ k u,c3[k]?=some u→(((w.alloc (.cells c1 E1)).alloc (.cells c2 E2)).alloc (.cells c3 E3)).cell? ⟨w.heap.size+1+1,k,none⟩=some u:=fun k u h=>by have:=A9c ((w.alloc (.cells c1 E1)).alloc (.cells c2 E2)) c3 E3 k u h;rw[n3,n2] at this;exact this
 have h4:∀ k u,c4[k]?=some u→((((w.alloc (.cells c1 E1)).alloc (.cells c2 E2)).alloc (.cells c3 E3)).alloc (.cells c4 E4)).cell? ⟨w.heap.size+1+1+1,k,none⟩=some u:=fun k u h=>by have:=A9c (((w.alloc (.cells c1 E1)).alloc (.cells c2 E2)).alloc (.cells c3 E3)) c4 E4 k u h;rw[n4,n3,n2] at this;exact this
 have up:∀ (w:World) (o:Obj),Below w.heap.size w (w.alloc o):=fun w o=>(Below.refl _ _).alloc (Nat.le_refl _) _
 refine⟨?_,fun k u h=>?_,fun k u h=>?_,fun k u h=>?_,fun k u h=>?_,fun k u h=>?_⟩
 ·refine Below.alloc (Below.alloc (Below.alloc (Below.alloc (Below.alloc (Below.refl _ _) (Nat.le_refl _) _) ?_ _) ?_ _) ?_ _) ?_ _
  all_goals omega
 ·exact cell_later (up _ _) (cell_later (up _ _) (cell_later (up _ _) (cell_later (up _ _) (h1 k u h))))
 ·exact cell_later (up _ _) (cell_later (up _ _) (cell_later (up _ _) (h2 k u h)))
 ·exact cell_later (up _ _) (cell_later (up _ _) (h3 k u h))
 ·exact cell_later (up _ _) (h4 k u h)
 ·have:=A9c ((((w.alloc (.cells c1 E1)).alloc (.cells c2 E2)).alloc (.cells c3 E3)).alloc (.cells c4 E4)) c5 E5 k u h
  rw[n5,n4,n3,n2] at this
  exact this
end Go.Proofs.Ytpknphnaegfghaa
end
