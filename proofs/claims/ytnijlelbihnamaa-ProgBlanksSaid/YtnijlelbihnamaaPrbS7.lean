/- Parts of the proofs: what they lean on. Conditions: none. -/
import Derived.Test.YtnijlelbihnamaaProg
import Derived.Test.YtnijlelbihnamaaPrbS6
section
namespace Go.Proofs.Ytnijlelbihnamaa
set_option linter.unusedVariables false
set_option maxRecDepth 100000
def Rz:List (Nat×List Nat)→Nat→List Nat
 | [],_=>[]
 | p :: l,f=>match Nat.beq p.1 f with
   | true=>p.2
   | false=>Rz l f
def Ak1:List (Nat×List (Nat×List Nat×List Nat×List Nat))→Nat→List (Nat×List Nat×List Nat×List Nat)
 | [],_=>[]
 | p :: l,f=>match Nat.beq p.1 f with
   | true=>p.2
   | false=>Ak1 l f
def Ajr:List (Nat×List Nat×List Nat×List Nat)→Nat→Nat→List Nat
 | [],_,_=>[]
 | p :: l,k,m=>match Nat.beq p.1 k with
   | true=>match m with
     | 0=>p.2.1
     | 1=>p.2.2.1
     | _=>p.2.2.2
   | false=>Ajr l k m
def Ana:List (Nat×List (Nat×List Nat×List Nat×List Nat)):=[
 (6,[(11,[2,5,8,9,10,11],[2,5,8,9],[2,3,4]),(17,[2,5,8,9,12,13],[2,5,8,9],[2,3,4]),(23,[2,5,8,9,14],[2,5,8,9],[2,3,4]),(26,[2,5,8,9,14,15],[2,5,8,9,14],[2,3,4])]),
 (7,[(6,[1,3,22,23,24],[1,3],[2]),(11,[1,3,41,42,43],[1,3],[2]),(16,[1,3,7,8,41,42,43,54,55,56],[1,3,7,41,42,43],[2]),(26,[3,80,81,82],[3],[2])]),
 (9,[(4,[1,2,3,17,18,19],[1,2,3],[2]),(9,[1,2,3,35,36,37],[1,2,3],[2]),(13,[1,2,3,8,35,36,37,48,49,50],[1,2,3,8,35,36,37],[2]),(21,[2,3,78,79,80],[2,3],[2])]),
 (10,[(5,[2,3,4,7],[2,3,4],[6]),(10,[2,3,4,8],[2,3,4],[6]),(17,[2,3,4,8,9,10,11],[2,3,4,8],[6]),(22,[2,3,4,12],[],[6])]),
 (12,[(6,[0,5,6],[5],[2,3,4])]),
 (19,[(7,[0,4,5,8],[0,4,5],[4])]),
 (21,[(5,[0,1,2,6,7,8,31,32],[0,1,2,6,7,8],[6])]),
 (26,[(3,[1,6,7],[],[4])]),
 (28,[(3,[0,6],[0],[2])]),
 (33,[(3,[1,7,8,9],[1],[2])]),
 (34,[(4,[3,8,9],[3],[2])]),
 (35,[(5,[0,1,2,7],[],[6])]),
 (36,[(5,[0,1,2,7],[],[6])]),
 (37,[(3,[0,1,8],[0],[4])]),
 (42,[(4,[3,7],[3],[2])]),
 (46,[(6,[1,8,25,26,27],[1,8],[4,5,6,7])]),
 (49,[(6,[19,20,21],[],[2])]),
 (51,[(5,[0,20,21,22],[0],[2])]),
 (55,[(4,[3,6,7,8],[3],[2])]),
 (57,[(3,[0,1,5],[5],[4])]),
 (60,[(5,[3,4,9,10,11],[4],[2]),(11,[3,4,9,10,11],[3,4,9,10,11],[2])]),
 (63,[(2,[0,1,2,3],[],[8])]),
 (65,[(4,[3,4,5],[3],[2])]),
 (66,[(5,[1,3,5,18,19],[5],[2])]),
 (68,[(5,[0,1,5],[],[4])]),
 (73,[(13,[0,1,6,8,9,84,85],[0,1,6,8],[4])]),
 (74,[(3,[0,1,2,3,9],[9],[8]),(6,[0,1,2,3,9,10,23,24,25],[0,1,2,3,9,10],[8])]),
 (80,[(3,[1,2,8,9],[],[4])]),
 (82,[(3,[0,6,7,8],[0],[2])]),
 (88,[(4,[5,10,11,12],[5],[4])]),
 (1000000,[])]
def Aod:List Nat:=[
 59,
 102,
 101,
 87,
 103,
 74,
 21,
 47,
 18,
 13,
 17,
 16,
 19,
 22,
 86,
 95,
 83,
 72,
 57,
 92,
 73,
 84,
 58,
 85,
 14,
 26,
 63,
 1000000]
def Ao6:List (Nat×List Nat):=[
 (1000000,[])]
def Aoi:List (Nat×List Nat):=[
 (6,[34,12,29,18]),
 (9,[14]),
 (17,[1]),
 (19,[7]),
 (73,[3]),
 (57,[2]),
 (91,[0]),
 (93,[0]),
 (94,[0]),
 (96,[0]),
 (97,[0]),
 (22,[5,3]),
 (12,[12,24,21]),
 (1000000,[])]
def Ao5:List (Nat×List Nat):=[
 (60,[3,27,47]),
 (34,[3]),
 (1000000,[])]
def cyT:List (Nat×List (Nat×List Nat)):=[
 (6,[(14,[10]),(20,[12])]),
 (1000000,[])]
def Ao7:List (Nat×List Nat):=[
 (88,[9]),
 (55,[3]),
 (57,[5]),
 (73,[151]),
 (12,[5]),
 (1000000,[])]
def Aog:List (Nat×List Nat):=[
 (34,[6]),
 (21,[21]),
 (1000000,[])]
def Aof:List Nat:=[
 19,
 9,
 6,
 1000000]
def Ao8:List (Nat×List Nat):=[
 (73,[81]),
 (21,[21]),
 (6,[33,43,50,66,73,96]),
 (16,[6]),
 (19,[22,38]),
 (1000000,[])]
def Ame:List (Nat×List (Nat×List Nat)):=[
 (1000000,[])]
def A79:List (Nat×List (Nat×List Nat))→Nat→List (Nat×List Nat)
 | [],_=>[]
 | p :: l,f=>match Nat.beq p.1 f with
   | true=>p.2
   | false=>A79 l f
def Ao0:List (Nat×List (Nat×List Nat)):=[
 (1000000,[])]
def Aoc:List Nat:=[
 2,
 3,
 4,
 5,
 6,
 7,
 8,
 9,
 10,
 11,
 12,
 13,
 14,
 15,
 16,
 17,
 18,
 19,
 20,
 21,
 22,
 23,
 24,
 25,
 26,
 27,
 28,
 29,
 30,
 31,
 32,
 33,
 34,
 35,
 36,
 37,
 38,
 39,
 40,
 41,
 42,
 43,
 44,
 45,
 46,
 47,
 48,
 49,
 50,
 51,
 52,
 53,
 54,
 55,
 56,
 57,
 58,
 59,
 60,
 61,
 62,
 63,
 64,
 65,
 66,
 67,
 68,
 69,
 70,
 71,
 72,
 73,
 74,
 75,
 76,
 77,
 78,
 79,
 80,
 81,
 82,
 83,
 84,
 85,
 86,
 87,
 88,
 89,
 90,
 91,
 92,
 93,
 94,
 95,
 96,
 97,
 98,
 99,
 100,
 101,
 102,
 103,
 ]
def Amn:List Nat:=[
 2,
 3,
 4,
 5,
 6,
 7,
 8,
 9,
 10,
 11,
 12,
 13,
 14,
 15,
 16,
 17,
 18,
 19,
 20,
 21,
 22,
 23,
 24,
 25,
 26,
 27,
 28,
 29,
 30,
 31,
 32,
 33,
 34,
 35,
 36,
 37,
 38,
 39,
 40,
 41,
 42,
 43,
 44,
 45,
 46,
 47,
 48,
 49,
 50,
 51,
 52,
 53,
 54,
 55,
 56,
 57,
 58,
 59,
 60,
 61,
 62,
 63,
 64,
 65,
 66,
 67,
 68,
 69,
 70,
 71,
 72,
 73,
 74,
 75,
 76,
 77,
 78,
 79,
 80,
 81,
 82,
 83,
 84,
 85,
 86,
 87,
 88,
 89,
 90,
 91,
 92,
 93,
 94,
 95,
 96,
 97,
 98,
 99,
 100,
 101,
 102,
 103,
 ]
def HH:By:=⟨fun f k m=>Ajr (Ak1 Ana f) k m,fun _ g=>N1 Aod g,fun f d=>N1 (Rz Ao7 f) d,fun f d=>N1 (Rz Aog f) d,fun f=>N1 Aof f,fun f d=>N1 (Rz Ao8 f) d,fun f g=>N1 (Rz Ao6 f) g,fun _=>true,fun f i=>N1 (Rz Aoi f) i,fun f i=>Rz (A79 Ame f) i,fun f i=>Rz (A79 Ao0 f) i,fun f d=>N1 (Rz Ao5 f) d,fun f i=>Rz (A79 cyT f) i,Aoc,Amn⟩
def Ajv (P:Program) (g:FuncId):Bool:=match P.funcs[g]? with
 | some fn=>!(fn.name== "runtime.NumGoroutine")&&!fn.body.isNone
 | none=>false
def Agr (P:Program) (H:By) (g:FuncId):Bool:=match P.funcs[g]? with
 | some fn=>match fn.body with
   | some c=>H5 H g c
   | none=>true
 | none=>true
theorem Aix {P:Program} {H:By} (h:H.good.all (Ajv P)=true):P5 P H:=by
 intro g hg
 rw[List.all_eq_true] at h
 have:=h g (by simpa using hg)
 unfold Ajv at this
 cases hf:P.funcs[g]? with
 | none=>rw[hf] at this;cases this
 | some fn =>
  rw[hf] at this
  simp only[A8,Bool.not_eq_true'] at this
  exact⟨fn,hf,this.1,this.2⟩
theorem Aji {P:Program} {H:By} (h:H.plain.all (Agr P H)=true):∀ g fn c,H.plain.contains g=true→P.funcs[g]?=some fn→fn.body=some c→H5 H g c=true:=by
 intro g fn c hg hf hb
 rw[List.all_eq_true] at h
 have:=h g (by simpa using hg)
 unfold Agr at this
 rw[hf] at this
 simp only[hb] at this
 exact this
theorem Am2:P5 Try.prog HH:=Aix (by kernel_rfl)
theorem Ak9:∀ g fn c,HH.plain.contains g=true→Try.prog.funcs[g]?=some fn→fn.body=some c→H5 HH g c=true:=Aji (by kernel_rfl)
theorem Ane:Try.prog.follows .mixedOrders=true:=by kernel_rfl
noncomputable abbrev cN (X:Ext) (n:Nat):D1:=N9 Try.prog HH X n
theorem Ahq {X:Ext} (hX:U3 Try.prog X) (n:Nat):H3 Try.prog HH (cN X n):=A1o Ane Am2 hX Ak9 n
theorem Af6 {P:Program} {H:By} {X:Ext} {n:Nat} {f:FuncId} {args:List AV} {hp:Hp} (h:X f=none):Hh P H X (n+1) f args hp=Y7 P H (N9 P H X n) n false f args hp:=by
 simp only[Hh,N9,h]
theorem Ahe {P:Program} {H:By} {call:D1} {n:Nat} {f:FuncId} {args:List AV} {hp:Hp} {fn:Func} {c:Code} {r:Option (AV×Hp)} (hf:P.funcs[f]?=some fn) (hb:fn.body=some c) (hg:H.plain.contains f=true) (ha:args.length≤fn.ntmps)
 (h:Qm P H call f n hp.length c (args++List.replicate (fn.ntmps - args.length) .junk) hp (fun e tm hp'=>match e with
  | .exit _=>none
  | _=>A23 P fn tm hp' fun v=>some (wane hp.length hp' v,(Gc hp.length hp').map (Nc P)))=r):Y7 P H call n false f args hp=r:=by
 have:(H.plain.contains f&&decide (args.length≤fn.ntmps))=true:=by rw[hg,decide_eq_true ha];rfl
 simp only[Y7,hf,hb,this]
 exact h
theorem A7v {P:Program} {H:By} {X:Ext} {n:Nat} {f:FuncId} {args:List AV} {hp:Hp} {fn:Func} {c:Code} {r:Option (AV×Hp)} (hf:P.funcs[f]?=some fn) (hx:X f=none) (hb:fn.body=some c) (hg:H.plain.contains f=true) (ha:args.length≤fn.ntmps)
 (h:Qm P H (N9 P H X n) f n hp.length c (args++List.replicate (fn.ntmps - args.length) .junk) hp (fun e tm hp'=>match e with
  | .exit _=>none
  | _=>A23 P fn tm hp' fun v=>some (wane hp.length hp' v,(Gc hp.length hp').map (Nc P)))=r):Hh P H X (n+1) f args hp=r:=by
 rw[Af6 hx];exact Ahe hf hb hg ha h
theorem Ai {P:Program} {H:By} {X:Ext} {n:Nat} {f:FuncId} {args:List AV} {hp:Hp} {fn:Func} {c:Code} {r:Option (AV×Hp)} (hf:P.funcs[f]?=some fn) (hx:X f=none) (hb:fn.body=some c) (hg:H.plain.contains f=true) (ha:args.length≤fn.ntmps)
 (h:∀ call:D1,(∀ g l h,call false g l h=Hh P H X n g l h)→Qm P H call f n hp.length c (args++List.replicate (fn.ntmps - args.length) .junk) hp (fun e tm hp'=>match e with
  | .exit _=>none
  | _=>A23 P fn tm hp' fun v=>some (wane hp.length hp' v,(Gc hp.length hp').map (Nc P)))=r):Hh P H X (n+1) f args hp=r :=
 A7v hf hx hb hg ha (h _ fun _ _ _=>rfl)
theorem Vb {P:Program} {H:By} {X:Ext} {n:Nat} {f:FuncId} {args:List AV} {hp:Hp} {fn:Func} {c:Code} {r:Option (AV×Hp)} (hf:P.funcs[f]?=some fn) (hx:X f=none) (hb:fn.body=some c) (hg:H.plain.contains f=true) (ha:args.length≤fn.ntmps)
 (h:∀ call:D1,(∀ g l h,call false g l h=Hh P H X n g l h)→(∀ g l h,call true g l h=N9 P H X n true g l h)→Qm P H call f n hp.length c (args++List.replicate (fn.ntmps - args.length) .junk) hp (fun e tm hp'=>match e with
  | .exit _=>none
  | _=>A23 P fn tm hp' fun v=>some (wane hp.length hp' v,(Gc hp.length hp').map (Nc P)))=r):Hh P H X (n+1) f args hp=r :=
 A7v hf hx hb hg ha (h _ (fun _ _ _=>rfl) fun _ _ _=>rfl)
theorem Hc {P:Program} {H:By} {X:Ext} {n n1:Nat} {call:D1} {f:FuncId} {args:List AV} {hp:Hp} {fn:Func} {c:Code} (hc:∀ g l h,call true g l h=N9 P H X n true g l h) (hn:n=n1+1) (hf:P.funcs[f]?=some fn) (hx:X f=none) (hb:fn.body=some c) (hg:H.plain.contains f=true) (ha:args.length≤fn.ntmps) :
 ∃ call1:D1,(∀ g l h,call1 false g l h=Hh P H X n1 g l h)∧call true f args hp=Qm P H call1 f n1 hp.length c (args++List.replicate (fn.ntmps - args.length) .junk) hp (fun e tm hp'=>match e with
  | .exit _=>none
  | _=>A23 P fn tm hp' fun v=>some (v,hp')):=by
 refine⟨N9 P H X n1,fun _ _ _=>rfl,?_⟩
 rw[hc,hn]
 have:(H.plain.contains f&&decide (args.length≤fn.ntmps))=true:=by rw[hg,decide_eq_true ha];rfl
 simp only[N9,hx,Y7,hf,hb,this]
 rfl
def Rg {α:Type}:Nat→(Nat→Option α)→Option α
 | 0,_=>none
 | n+1,f=>f n
theorem Ku {α:Type} {n:Nat} {f:Nat→Option α} {r:α} (h:Rg n f=some r):∃ k,n=k+1∧f k=some r:=by
 cases n with
 | zero=>cases h
 | succ n=>exact⟨n,rfl,h⟩
theorem Gw {n:Int} (h: -9223372036854775808≤n∧n≤9223372036854775807):IntKind.i64.wrap n=n:=by
 simp only[IntKind.wrap,IntKind.bits,IntKind.signed,Bool.true_and]
 split<;>simp at* <;>omega
theorem Afn (k:Nat) (h:k < 9223372036854775807):IntKind.i64.wrap ((k:Int)+1)=((k+1:Nat):Int):=by rw[Gw (by omega)];omega
def Agm (i:Nat):List (Nat×AV)→AV
 | []=>.junk
 | p :: l=>match Nat.beq p.1 i with
   | true=>p.2
   | false=>Agm i l
def Aei (l:List (Nat×AV)) (i:Nat):Nat→Tm
 | 0=>[]
 | n+1=>Agm i l :: Aei l (i+1) n
def Bg (n:Nat) (l:List (Nat×AV)):Tm:=Aei l 0 n
theorem A5g {α:Type} {p:List Nat} {f:α→List AV} (h:∀ x,Ajm p (f x)=true) (l:List α):Nv p (List.map f l)=true:=by
 induction l with
 | nil=>rfl
 | cons a l ih=>simp only[Nv,List.map_cons,List.all_cons,h,Bool.true_and];exact ih
theorem Aa3 {P:Program} {call:D1} {g:FuncId} {size sz:Nat} {els els':List (List AV)} {rest more:List AV} {fn:Func} {p q:List Nat} (hk:call false g (.sl sz els' :: more) []=some (.tup (.sl size els :: rest),[])) (hf:P.funcs[g]?=some fn) (hp:Pd P (nth 0 fn.resultTypes.toList 0)=p) (hq:Pd P (nth 0 fn.params.toList 0)=q)
 (h1:(A8w p q&&(noZ p&&noZ q))=true) (h2:(decide (size=p.length)&&decide (sz=q.length))=true) (h3:(rest.all Rs&&more.all Rs)=true) (h4:Nv p els=true) (h5:Nv q els'=true) :
 Tq P true call g (.sl sz els' :: more)=bif decide (els.length=0) then some (.tup (.sl size els :: rest),[]) else some (.tup (.own 0 0 els.length :: rest),[.arr size els]):=by
 simp only[A8] at h2 h3
 simp only[Tq,A73,hf,hk,hp,hq,h1,h2.1,h2.2,h3.1,h3.2,h4,h5,Bool.and_self,Ac]
end Go.Proofs.Ytnijlelbihnamaa
end
