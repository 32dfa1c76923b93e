/- Parts of the proofs: what they lean on. Conditions: none. -/
import Derived.Test.YtpknphnaegfghaaProg
import Derived.Test.YtpknphnaegfghaaBneS6
section
namespace Go.Proofs.Ytpknphnaegfghaa
set_option linter.unusedVariables false
set_option maxRecDepth 100000
def Mf:List (Nat×List Nat)→Nat→List Nat
 | [],_=>[]
 | p :: l,f=>match Nat.beq p.1 f with
   | true=>p.2
   | false=>Mf l f
def Agq:List (Nat×List (Nat×List Nat×List Nat×List Nat))→Nat→List (Nat×List Nat×List Nat×List Nat)
 | [],_=>[]
 | p :: l,f=>match Nat.beq p.1 f with
   | true=>p.2
   | false=>Agq l f
def Ags:List (Nat×List Nat×List Nat×List Nat)→Nat→Nat→List Nat
 | [],_,_=>[]
 | p :: l,k,m=>match Nat.beq p.1 k with
   | true=>match m with
     | 0=>p.2.1
     | 1=>p.2.2.1
     | _=>p.2.2.2
   | false=>Ags l k m
def Ajw:List (Nat×List (Nat×List Nat×List Nat×List Nat)):=[
 (4,[(5,[1,3],[],[2]),(10,[1,3,4],[1,3],[2])]),
 (6,[(8,[1,2,3,8,38,39],[8],[6,7])]),
 (7,[(13,[1,2,3,4,8,12,13,14],[8,12,13],[8,9]),(17,[1,2,3,4,8,12,13,14,15,16],[1,2,3,4,8,12,13,14],[8,9])]),
 (11,[(7,[1,43,44,45],[1],[2]),(13,[1,59,60,61],[],[2])]),
 (12,[(3,[1,2,4,5],[4,5],[4])]),
 (15,[(6,[1,2,4,5],[1,2,4],[2,3])]),
 (16,[(4,[2,3,4,5,9,10],[9],[8])]),
 (18,[(3,[2,3,5],[],[4])]),
 (19,[(5,[0,1,4,6],[0,1,4],[4,5]),(12,[0,1,4,7,8],[4,7],[4,5]),(15,[0,1,4,7,8,9],[0,1,4,7,8],[4,5])]),
 (20,[(4,[0,4,5,9,10],[4,5],[4])]),
 (21,[(6,[0,1,2,29,30,31],[],[6])]),
 (22,[(5,[1,3],[],[2]),(11,[1,3,4,5],[1,3],[2])]),
 (25,[(6,[1,2,3,4],[1,2,3],[2]),(12,[1,2,3,6],[2,3],[2])]),
 (28,[(5,[2,3,5],[2,3],[4]),(10,[2,3,6],[],[4])]),
 (32,[(3,[0,1,5],[],[4])]),
 (39,[(10,[0,5,7,8,9],[5,7,8],[6])]),
 (40,[(4,[0,1,2,7,9,10],[0,1,7,9],[6,7,8]),(12,[0,7,9,11,12],[0,7,9,11],[6,7,8])]),
 (41,[(5,[0,1,5],[],[4])]),
 (42,[(5,[0,1,5],[],[4])]),
 (45,[(3,[0,1,2,3,14,15,16],[0],[8])]),
 (49,[(3,[0,1,5],[],[4])]),
 (51,[(3,[0,1,2,3,9],[0],[8])]),
 (53,[(6,[0,1,2,3,4,12,13],[0,1,2,3,4,12],[10,11]),(15,[0,1,2,3,4,14,15],[14],[10,11])]),
 (54,[(3,[0,1,6],[],[4,5])]),
 (55,[(4,[4,5,11,12,13],[4,5],[2,3])]),
 (56,[(5,[0,4,5,6],[4,5],[2,3])]),
 (57,[(4,[0,1,5,6],[5],[4])]),
 (1000000,[])]
def Ak3:List Nat:=[
 44,
 1000000]
def Aka:List (Nat×List Nat):=[
 (1000000,[])]
def Aki:List (Nat×List Nat):=[
 (53,[29]),
 (1000000,[])]
def Ak5:List (Nat×List Nat):=[
 (53,[14,102,111,121,131,145]),
 (1000000,[])]
def Ak8:List (Nat×List Nat):=[
 (1000000,[])]
def Ak7:List Nat:=[
 1000000]
def cyT:List (Nat×List (Nat×List Nat)):=[
 (1000000,[])]
def Ak9:List (Nat×List Nat):=[
 (53,[12]),
 (39,[7,14]),
 (7,[13,58,63,68]),
 (16,[9]),
 (19,[68]),
 (40,[11]),
 (1000000,[])]
def Akj:List (Nat×List Nat):=[
 (1000000,[])]
def Ak6:List Nat:=[
 25,
 15,
 19,
 1000000]
def Ak1:List (Nat×List Nat):=[
 (1000000,[])]
def Aj8:List (Nat×List (Nat×List Nat)):=[
 (1000000,[])]
def A3m:List (Nat×List (Nat×List Nat))→Nat→List (Nat×List Nat)
 | [],_=>[]
 | p :: l,f=>match Nat.beq p.1 f with
   | true=>p.2
   | false=>A3m l f
def Ajm:List (Nat×List (Nat×List Nat)):=[
 (1000000,[])]
def Ak0:List Nat:=[
 2,
 3,
 4,
 5,
 6,
 7,
 8,
 9,
 10,
 11,
 12,
 13,
 14,
 15,
 16,
 17,
 18,
 19,
 20,
 21,
 22,
 23,
 24,
 25,
 26,
 27,
 28,
 29,
 30,
 31,
 32,
 33,
 34,
 35,
 36,
 37,
 38,
 39,
 40,
 41,
 42,
 43,
 44,
 45,
 46,
 47,
 48,
 49,
 50,
 51,
 52,
 53,
 54,
 55,
 56,
 57,
 58,
 59,
 60,
 61,
 62,
 63,
 64,
 65,
 66,
 67,
 68,
 69,
 70,
 71,
 ]
def Ajl:List Nat:=[
 2,
 3,
 4,
 5,
 6,
 7,
 8,
 9,
 10,
 11,
 12,
 13,
 14,
 15,
 16,
 17,
 18,
 19,
 20,
 21,
 22,
 23,
 24,
 25,
 26,
 27,
 28,
 29,
 30,
 31,
 32,
 33,
 34,
 35,
 36,
 37,
 38,
 39,
 40,
 41,
 42,
 43,
 44,
 45,
 46,
 47,
 48,
 49,
 50,
 51,
 52,
 53,
 54,
 55,
 56,
 57,
 58,
 59,
 60,
 61,
 62,
 63,
 64,
 65,
 66,
 67,
 68,
 69,
 70,
 71,
 ]
def HH:B9:=⟨fun f k m=>Ags (Agq Ajw f) k m,fun _ g=>Il Ak3 g,fun f d=>Il (Mf Ak9 f) d,fun f d=>Il (Mf Akj f) d,fun f=>Il Ak6 f,fun f d=>Il (Mf Ak1 f) d,fun f g=>Il (Mf Aka f) g,fun _=>true,fun f i=>Il (Mf Aki f) i,fun f i=>Mf (A3m Aj8 f) i,fun f i=>Mf (A3m Ajm f) i,fun f d=>Il (Mf Ak5 f) d,fun f i=>Mf (A3m cyT f) i,fun f k=>Il (Mf Ak8 f) k,fun g=>Il Ak7 g,Ak0,Ajl⟩
def Agp (P:Program) (g:FuncId):Bool:=match P.funcs[g]? with
 | some fn=>!(fn.name== "runtime.NumGoroutine")&&!fn.body.isNone
 | none=>false
def Acx (P:Program) (H:B9) (g:FuncId):Bool:=match P.funcs[g]? with
 | some fn=>match fn.body with
   | some c=>Eb H g c
   | none=>true
 | none=>true
theorem Aen {P:Program} {H:B9} (h:H.good.all (Agp P)=true):Kg P H:=by
 intro g hg
 rw[List.all_eq_true] at h
 have:=h g (by simpa using hg)
 unfold Agp at this
 cases hf:P.funcs[g]? with
 | none=>rw[hf] at this;cases this
 | some fn =>
  rw[hf] at this
  simp only[A6,Bool.not_eq_true'] at this
  exact⟨fn,hf,this.1,this.2⟩
theorem Aga {P:Program} {H:B9} (h:H.plain.all (Acx P H)=true):∀ g fn c,H.plain.contains g=true→P.funcs[g]?=some fn→fn.body=some c→Eb H g c=true:=by
 intro g fn c hg hf hb
 rw[List.all_eq_true] at h
 have:=h g (by simpa using hg)
 unfold Acx at this
 rw[hf] at this
 simp only[hb] at this
 exact this
theorem A5y:Kg Try.prog HH:=Aen (by kernel_rfl)
theorem Ait:∀ g fn c,HH.plain.contains g=true→Try.prog.funcs[g]?=some fn→fn.body=some c→Eb HH g c=true:=Aga (by kernel_rfl)
theorem Aaw:Try.prog.follows .mixedOrders=true:=by kernel_rfl
noncomputable abbrev cN (X:Ext) (n:Nat):B1:=Nu Try.prog HH X n
theorem Xj {X:Ext} (hX:Nc Try.prog X) (n:Nat):Et Try.prog HH (cN X n):=Xd Aaw A5y hX Ait n
theorem Acn {P:Program} {H:B9} {X:Ext} {n:Nat} {f:FuncId} {args:List AV} {hp:Hp} (h:X f=none):G7 P H X (n+1) f args hp=Wi P H (Nu P H X n) n false f args hp:=by
 simp only[G7,Nu,h]
theorem Afn {P:Program} {H:B9} {call:B1} {n:Nat} {f:FuncId} {args:List AV} {hp:Hp} {fn:Func} {c:Code} {r:Option (AV×Hp)} (hf:P.funcs[f]?=some fn) (hb:fn.body=some c) (hg:H.plain.contains f=true) (ha:args.length≤fn.ntmps)
 (h:Lk P H call f n hp.length c (args++List.replicate (fn.ntmps - args.length) .junk) hp (fun e tm hp'=>match e with
  | .exit _=>none
  | _=>To P fn tm hp' fun v=>some (wane hp.length hp' v,(F4 hp.length hp').map (Kt P)))=r):Wi P H call n false f args hp=r:=by
 have:(H.plain.contains f&&decide (args.length≤fn.ntmps))=true:=by rw[hg,decide_eq_true ha];rfl
 simp only[Wi,hf,hb,this]
 exact h
theorem Afy {P:Program} {H:B9} {X:Ext} {n:Nat} {f:FuncId} {args:List AV} {hp:Hp} {fn:Func} {c:Code} {r:Option (AV×Hp)} (hf:P.funcs[f]?=some fn) (hx:X f=none) (hb:fn.body=some c) (hg:H.plain.contains f=true) (ha:args.length≤fn.ntmps)
 (h:Lk P H (Nu P H X n) f n hp.length c (args++List.replicate (fn.ntmps - args.length) .junk) hp (fun e tm hp'=>match e with
  | .exit _=>none
  | _=>To P fn tm hp' fun v=>some (wane hp.length hp' v,(F4 hp.length hp').map (Kt P)))=r):G7 P H X (n+1) f args hp=r:=by
 rw[Acn hx];exact Afn hf hb hg ha h
theorem B0 {P:Program} {H:B9} {X:Ext} {n:Nat} {f:FuncId} {args:List AV} {hp:Hp} {fn:Func} {c:Code} {r:Option (AV×Hp)} (hf:P.funcs[f]?=some fn) (hx:X f=none) (hb:fn.body=some c) (hg:H.plain.contains f=true) (ha:args.length≤fn.ntmps)
 (h:∀ call:B1,(∀ g l h,call false g l h=G7 P H X n g l h)→Lk P H call f n hp.length c (args++List.replicate (fn.ntmps - args.length) .junk) hp (fun e tm hp'=>match e with
  | .exit _=>none
  | _=>To P fn tm hp' fun v=>some (wane hp.length hp' v,(F4 hp.length hp').map (Kt P)))=r):G7 P H X (n+1) f args hp=r :=
 Afy hf hx hb hg ha (h _ fun _ _ _=>rfl)
theorem wrap64 {n:Int} (h: -9223372036854775808≤n∧n≤9223372036854775807):IntKind.i64.wrap n=n:=by
 simp only[IntKind.wrap,IntKind.bits,IntKind.signed,Bool.true_and]
 split<;>simp at* <;>omega
theorem Ad2 (k:Nat) (h:k < 9223372036854775807):IntKind.i64.wrap ((k:Int)+1)=((k+1:Nat):Int):=by rw[wrap64 (by omega)];omega
def Ae6 (i:Nat):List (Nat×AV)→AV
 | []=>.junk
 | p :: l=>match Nat.beq p.1 i with
   | true=>p.2
   | false=>Ae6 i l
def Add (l:List (Nat×AV)) (i:Nat):Nat→Tm
 | 0=>[]
 | n+1=>Ae6 i l :: Add l (i+1) n
def Ba (n:Nat) (l:List (Nat×AV)):Tm:=Add l 0 n
end Go.Proofs.Ytpknphnaegfghaa
end
