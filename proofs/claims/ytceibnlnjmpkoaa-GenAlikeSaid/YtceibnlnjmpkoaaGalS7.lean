/- Parts of the proofs: what they lean on. Conditions: none. -/
import Derived.Test.YtceibnlnjmpkoaaProg
import Derived.Test.YtceibnlnjmpkoaaGalS6
section
namespace Go.Proofs.Ytceibnlnjmpkoaa
set_option linter.unusedVariables false
set_option maxRecDepth 100000
def Mc:List (Nat×List Nat)→Nat→List Nat
 | [],_=>[]
 | p :: l,f=>match Nat.beq p.1 f with
   | true=>p.2
   | false=>Mc l f
def A6d:List (Nat×List (Nat×List Nat×List Nat×List Nat))→Nat→List (Nat×List Nat×List Nat×List Nat)
 | [],_=>[]
 | p :: l,f=>match Nat.beq p.1 f with
   | true=>p.2
   | false=>A6d l f
def A6j:List (Nat×List Nat×List Nat×List Nat)→Nat→Nat→List Nat
 | [],_,_=>[]
 | p :: l,k,m=>match Nat.beq p.1 k with
   | true=>match m with
     | 0=>p.2.1
     | 1=>p.2.2.1
     | _=>p.2.2.2
   | false=>A6j l k m
def A7n:List (Nat×List (Nat×List Nat×List Nat×List Nat)):=[
 (3,[(11,[11,14,17],[],[4])]),
 (4,[(8,[1,6,9,10,51,52,53],[1,6,9,10],[6,7]),(14,[1,6,9,10,13,65,66],[1,6,9,10,13],[6,7])]),
 (5,[(7,[1,2,7,8],[1,2,7],[2,3,4]),(11,[1,2,7,9],[2,7],[2,3,4])]),
 (6,[(5,[0,1,5],[],[4])]),
 (15,[(4,[1,3,4],[3],[2])]),
 (16,[(5,[0,1,5],[],[4])]),
 (25,[(5,[1,3],[1],[2]),(10,[1,4],[1],[2]),(16,[1,4,5,6],[1,4],[2]),(21,[1,7],[],[2])]),
 (26,[(4,[1,4,5],[],[2,3])]),
 (27,[(6,[1,4,5],[],[2,3]),(16,[1,4,5,6,7],[1,4,5,6],[2,3])]),
 (28,[(3,[1,4],[],[2,3]),(9,[1,4,5,6],[1,4],[2,3])]),
 (29,[(4,[0,2,3,4,5,6,15,16],[15],[14])]),
 (30,[(6,[1,3,22,23,24],[1,3],[2]),(11,[1,3,41,42,43],[1,3],[2]),(16,[1,3,7,8,41,42,43,54,55,56],[1,3,7,41,42,43],[2]),(26,[3,80,81,82],[3],[2])]),
 (32,[(5,[0,3],[],[2])]),
 (33,[(5,[0,3],[0],[2])]),
 (34,[(4,[0,3,4],[0],[2])]),
 (35,[(3,[0,1,5],[],[4])]),
 (36,[(4,[1,3,4],[3],[2])]),
 (37,[(3,[2,3,6],[],[4,5])]),
 (38,[(6,[0,1,6,7],[0,6],[4,5])]),
 (39,[(4,[0,2,7,8],[7],[6])]),
 (46,[(4,[0,3,4],[],[2])]),
 (48,[(2,[0,1,2],[],[6])]),
 (50,[(5,[0,7,8,9],[7],[6])]),
 (51,[(4,[0,3,4],[3],[2])]),
 (52,[(5,[0,3],[0],[2])]),
 (53,[(3,[0,1,5],[],[4])]),
 (54,[(3,[1,2,3,8],[],[6,7])]),
 (56,[(3,[1,6,7],[],[4])]),
 (58,[(3,[0,6],[0],[2])]),
 (63,[(3,[1,7,8,9],[1],[2])]),
 (64,[(6,[19,20,21],[],[2])]),
 (66,[(5,[0,20,21,22],[0],[2])]),
 (70,[(3,[0,1,5],[],[4])]),
 (71,[(4,[0,3,4],[0],[2])]),
 (72,[(3,[0,1,2,7],[7],[6])]),
 (74,[(6,[0,5,6],[],[4])]),
 (76,[(5,[0,1,5,6,7],[5],[4])]),
 (81,[(4,[3,6,7,8],[3],[2])]),
 (84,[(2,[0,1,2,3],[],[8])]),
 (86,[(4,[3,4,5],[3],[2])]),
 (87,[(5,[1,3,5,18,19],[5],[2])]),
 (89,[(5,[0,1,5],[],[4])]),
 (91,[(5,[3,4,9,10,11],[4],[2]),(11,[3,4,9,10,11],[3,4,9,10,11],[2])]),
 (98,[(3,[1,2,8,9],[],[4])]),
 (100,[(3,[0,6,7,8],[0],[2])]),
 (1000000,[])]
def A7t:List Nat:=[
 56,
 55,
 84,
 1000000]
def A7v:List (Nat×List Nat):=[
 (1000000,[])]
def A7q:List (Nat×List Nat):=[
 (4,[24,23,16]),
 (5,[14]),
 (1000000,[])]
def A7z:List (Nat×List Nat):=[
 (91,[3,27,47]),
 (1000000,[])]
def cyT:List (Nat×List (Nat×List Nat)):=[
 (1000000,[])]
def A7r:List (Nat×List Nat):=[
 (15,[3]),
 (36,[3]),
 (55,[27]),
 (81,[3]),
 (51,[3]),
 (72,[7]),
 (10,[10]),
 (20,[12]),
 (23,[8]),
 (22,[18]),
 (29,[15]),
 (1000000,[])]
def A82:List (Nat×List Nat):=[
 (38,[13]),
 (1000000,[])]
def A7s:List Nat:=[
 4,
 5,
 1000000]
def A81:List (Nat×List Nat):=[
 (4,[13]),
 (14,[13]),
 (1000000,[])]
def A7a:List (Nat×List (Nat×List Nat)):=[
 (1000000,[])]
def Z5:List (Nat×List (Nat×List Nat))→Nat→List (Nat×List Nat)
 | [],_=>[]
 | p :: l,f=>match Nat.beq p.1 f with
   | true=>p.2
   | false=>Z5 l f
def A7k:List (Nat×List (Nat×List Nat)):=[
 (49,[(4,[1,3,51]),(6,[1,3,91])]),
 (1000000,[])]
def A7x:List Nat:=[
 2,
 3,
 4,
 5,
 6,
 7,
 8,
 9,
 10,
 11,
 12,
 13,
 14,
 15,
 16,
 17,
 18,
 19,
 20,
 21,
 22,
 23,
 24,
 25,
 26,
 27,
 28,
 29,
 30,
 31,
 32,
 33,
 34,
 35,
 36,
 37,
 38,
 39,
 40,
 41,
 42,
 43,
 44,
 45,
 46,
 47,
 48,
 49,
 50,
 51,
 52,
 53,
 54,
 55,
 56,
 57,
 58,
 59,
 60,
 61,
 62,
 63,
 64,
 65,
 66,
 67,
 68,
 69,
 70,
 71,
 72,
 73,
 74,
 75,
 76,
 77,
 78,
 79,
 80,
 81,
 82,
 83,
 84,
 85,
 86,
 87,
 88,
 89,
 90,
 91,
 92,
 93,
 94,
 95,
 96,
 97,
 98,
 99,
 100,
 101,
 102,
 103,
 ]
def A7f:List Nat:=[
 2,
 3,
 4,
 5,
 6,
 7,
 8,
 9,
 10,
 11,
 12,
 13,
 14,
 15,
 16,
 17,
 18,
 19,
 20,
 21,
 22,
 23,
 24,
 25,
 26,
 27,
 28,
 29,
 30,
 31,
 32,
 33,
 34,
 35,
 36,
 37,
 38,
 39,
 40,
 41,
 42,
 43,
 44,
 45,
 46,
 47,
 48,
 49,
 50,
 51,
 52,
 53,
 54,
 55,
 56,
 57,
 58,
 59,
 60,
 61,
 62,
 63,
 64,
 65,
 66,
 67,
 68,
 69,
 70,
 71,
 72,
 73,
 74,
 75,
 76,
 77,
 78,
 79,
 80,
 81,
 82,
 83,
 84,
 85,
 86,
 87,
 88,
 89,
 90,
 91,
 92,
 93,
 94,
 95,
 96,
 97,
 98,
 99,
 100,
 101,
 102,
 103,
 ]
def HH:Bf:=⟨fun f k m=>A6j (A6d A7n f) k m,fun _ g=>Ic A7t g,fun f d=>Ic (Mc A7r f) d,fun f d=>Ic (Mc A82 f) d,fun f=>Ic A7s f,fun f d=>Ic (Mc A81 f) d,fun f g=>Ic (Mc A7v f) g,fun _=>true,fun f i=>Ic (Mc A7q f) i,fun f i=>Mc (Z5 A7a f) i,fun f i=>Mc (Z5 A7k f) i,fun f d=>Ic (Mc A7z f) d,fun f i=>Mc (Z5 cyT f) i,A7x,A7f⟩
def A6h (P:Program) (g:FuncId):Bool:=match P.funcs[g]? with
 | some fn=>!(fn.name== "runtime.NumGoroutine")&&!fn.body.isNone
 | none=>false
def A4x (P:Program) (H:Bf) (g:FuncId):Bool:=match P.funcs[g]? with
 | some fn=>match fn.body with
   | some c=>E9 H g c
   | none=>true
 | none=>true
theorem A5o {P:Program} {H:Bf} (h:H.good.all (A6h P)=true):Kg P H:=by
 intro g hg
 rw[List.all_eq_true] at h
 have:=h g (by simpa using hg)
 unfold A6h at this
 cases hf:P.funcs[g]? with
 | none=>rw[hf] at this;cases this
 | some fn =>
  rw[hf] at this
  simp only[Ar,Bool.not_eq_true'] at this
  exact⟨fn,hf,this.1,this.2⟩
theorem A65 {P:Program} {H:Bf} (h:H.plain.all (A4x P H)=true):∀ g fn c,H.plain.contains g=true→P.funcs[g]?=some fn→fn.body=some c→E9 H g c=true:=by
 intro g fn c hg hf hb
 rw[List.all_eq_true] at h
 have:=h g (by simpa using hg)
 unfold A4x at this
 rw[hf] at this
 simp only[hb] at this
 exact this
theorem A76:Kg Try.prog HH:=A5o (by kernel_rfl)
theorem A6w:∀ g fn c,HH.plain.contains g=true→Try.prog.funcs[g]?=some fn→fn.body=some c→E9 HH g c=true:=A65 (by kernel_rfl)
theorem A7o:Try.prog.follows .mixedOrders=true:=by kernel_rfl
noncomputable abbrev cN (X:Ext) (n:Nat):Cg:=Gk Try.prog HH X n
theorem A64 {X:Ext} (hX:P3 Try.prog X) (n:Nat):E8 Try.prog HH (cN X n):=Ty A7o A76 hX A6w n
theorem A4t {P:Program} {H:Bf} {X:Ext} {n:Nat} {f:FuncId} {args:List AV} {hp:Hp} (h:X f=none):Ge P H X (n+1) f args hp=Rg P H (Gk P H X n) n false f args hp:=by
 simp only[Ge,Gk,h]
theorem A60 {P:Program} {H:Bf} {call:Cg} {n:Nat} {f:FuncId} {args:List AV} {hp:Hp} {fn:Func} {c:Code} {r:Option (AV×Hp)} (hf:P.funcs[f]?=some fn) (hb:fn.body=some c) (hg:H.plain.contains f=true) (ha:args.length≤fn.ntmps)
 (h:Lg P H call f n hp.length c (args++List.replicate (fn.ntmps - args.length) .junk) hp (fun e tm hp'=>match e with
  | .exit _=>none
  | _=>Uq P fn tm hp' fun v=>some (wane hp.length hp' v,(Dr hp.length hp').map (In P)))=r):Rg P H call n false f args hp=r:=by
 have:(H.plain.contains f&&decide (args.length≤fn.ntmps))=true:=by rw[hg,decide_eq_true ha];rfl
 simp only[Rg,hf,hb,this]
 exact h
theorem Zd {P:Program} {H:Bf} {X:Ext} {n:Nat} {f:FuncId} {args:List AV} {hp:Hp} {fn:Func} {c:Code} {r:Option (AV×Hp)} (hf:P.funcs[f]?=some fn) (hx:X f=none) (hb:fn.body=some c) (hg:H.plain.contains f=true) (ha:args.length≤fn.ntmps)
 (h:Lg P H (Gk P H X n) f n hp.length c (args++List.replicate (fn.ntmps - args.length) .junk) hp (fun e tm hp'=>match e with
  | .exit _=>none
  | _=>Uq P fn tm hp' fun v=>some (wane hp.length hp' v,(Dr hp.length hp').map (In P)))=r):Ge P H X (n+1) f args hp=r:=by
 rw[A4t hx];exact A60 hf hb hg ha h
theorem Ah {P:Program} {H:Bf} {X:Ext} {n:Nat} {f:FuncId} {args:List AV} {hp:Hp} {fn:Func} {c:Code} {r:Option (AV×Hp)} (hf:P.funcs[f]?=some fn) (hx:X f=none) (hb:fn.body=some c) (hg:H.plain.contains f=true) (ha:args.length≤fn.ntmps)
 (h:∀ call:Cg,(∀ g l h,call false g l h=Ge P H X n g l h)→Lg P H call f n hp.length c (args++List.replicate (fn.ntmps - args.length) .junk) hp (fun e tm hp'=>match e with
  | .exit _=>none
  | _=>Uq P fn tm hp' fun v=>some (wane hp.length hp' v,(Dr hp.length hp').map (In P)))=r):Ge P H X (n+1) f args hp=r :=
 Zd hf hx hb hg ha (h _ fun _ _ _=>rfl)
theorem A4a {P:Program} {H:Bf} {X:Ext} {n:Nat} {f:FuncId} {args:List AV} {hp:Hp} {fn:Func} {c:Code} {r:Option (AV×Hp)} (hf:P.funcs[f]?=some fn) (hx:X f=none) (hb:fn.body=some c) (hg:H.plain.contains f=true) (ha:args.length≤fn.ntmps)
 (h:∀ call:Cg,(∀ g l h,call false g l h=Ge P H X n g l h)→(∀ g l h,call true g l h=Gk P H X n true g l h)→Lg P H call f n hp.length c (args++List.replicate (fn.ntmps - args.length) .junk) hp (fun e tm hp'=>match e with
  | .exit _=>none
  | _=>Uq P fn tm hp' fun v=>some (wane hp.length hp' v,(Dr hp.length hp').map (In P)))=r):Ge P H X (n+1) f args hp=r :=
 Zd hf hx hb hg ha (h _ (fun _ _ _=>rfl) fun _ _ _=>rfl)
theorem A51 {P:Program} {H:Bf} {X:Ext} {n:Nat} {f:FuncId} {args:List AV} {hp:Hp} {fn:Func} {c:Code} {r:Option (AV×Hp)} (hf:P.funcs[f]?=some fn) (hx:X f=none) (hb:fn.body=some c) (hg:H.plain.contains f=true) (ha:args.length≤fn.ntmps)
 (h:∀ call:Cg,(∀ g l h,call false g l h=Ge P H X n g l h)→(∀ g l h,call true g l h=Gk P H X n true g l h)→Lg P H call f n hp.length c (args++List.replicate (fn.ntmps - args.length) .junk) hp (fun e tm hp'=>match e with
  | .exit _=>none
  | _=>Uq P fn tm hp' fun v=>some (v,hp'))=r):Gk P H X (n+1) true f args hp=r:=by
 have:(H.plain.contains f&&decide (args.length≤fn.ntmps))=true:=by rw[hg,decide_eq_true ha];rfl
 rw[← h (Gk P H X n) (fun _ _ _=>rfl) fun _ _ _=>rfl]
 simp only[Gk,hx,Rg,hf,hb,this]
 rfl
theorem Vp {n:Int} (h: -9223372036854775808≤n∧n≤9223372036854775807):IntKind.i64.wrap n=n:=by
 simp only[IntKind.wrap,IntKind.bits,IntKind.signed,Bool.true_and]
 split<;>simp at* <;>omega
def A42 (i:Nat):List (Nat×AV)→AV
 | []=>.junk
 | p :: l=>match Nat.beq p.1 i with
   | true=>p.2
   | false=>A42 i l
def A4y (l:List (Nat×AV)) (i:Nat):Nat→Tm
 | 0=>[]
 | n+1=>A42 i l :: A4y l (i+1) n
def B2 (n:Nat) (l:List (Nat×AV)):Tm:=A4y l 0 n
end Go.Proofs.Ytceibnlnjmpkoaa
end
