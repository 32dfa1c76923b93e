/- Parts of the proofs: what they lean on. Conditions: none. -/
import Derived.Test.YtpnhafdimkmbbaaGreatProg
import Derived.Test.YtpnhafdimkmbbaaGreatLgtS6
section
namespace Go.Proofs.YtpnhafdimkmbbaaGreat
set_option linter.unusedVariables false
set_option maxRecDepth 100000
def U1:List (Nat×List Nat)→Nat→List Nat
 | [],_=>[]
 | p :: l,f=>match Nat.beq p.1 f with
   | true=>p.2
   | false=>U1 l f
def Aj9:List (Nat×List (Nat×List Nat×List Nat×List Nat))→Nat→List (Nat×List Nat×List Nat×List Nat)
 | [],_=>[]
 | p :: l,f=>match Nat.beq p.1 f with
   | true=>p.2
   | false=>Aj9 l f
def Aj3:List (Nat×List Nat×List Nat×List Nat)→Nat→Nat→List Nat
 | [],_,_=>[]
 | p :: l,k,m=>match Nat.beq p.1 k with
   | true=>match m with
     | 0=>p.2.1
     | 1=>p.2.2.1
     | _=>p.2.2.2
   | false=>Aj3 l k m
def Amm:List (Nat×List (Nat×List Nat×List Nat×List Nat)):=[
 (6,[(5,[1,3],[1],[2]),(10,[1,4],[1],[2]),(16,[1,4,5,6],[1,4],[2]),(21,[1,7],[],[2])]),
 (8,[(9,[1,4,36,37,38],[1,4],[2,3]),(14,[4,49,50,51],[4],[2,3])]),
 (11,[(4,[1,2,3,4],[1,2,3],[2]),(10,[1,2,3,6],[1,2,3],[2]),(15,[1,2,3,6,7,8],[1,2,3,6,7],[2]),(24,[1,2,3,10],[2,3],[2])]),
 (12,[(5,[1,3],[1],[2]),(10,[1,4],[1],[2]),(16,[1,4,5,6],[1,4],[2]),(21,[1,7],[],[2])]),
 (13,[(5,[0,3],[],[2])]),
 (14,[(5,[0,3],[],[2])]),
 (15,[(3,[1,7,8,9],[],[4])]),
 (16,[(4,[3,7,8,9],[3],[2])]),
 (19,[(2,[0,8,9,10],[],[])]),
 (20,[(8,[0,5,7,8,43,44,45],[0,5,7,8],[])]),
 (22,[(4,[1,4,5],[],[2,3])]),
 (23,[(6,[1,4,5],[],[2,3]),(16,[1,4,5,6,7],[1,4,5,6],[2,3])]),
 (24,[(3,[1,4],[],[2,3]),(9,[1,4,5,6],[1,4],[2,3])]),
 (25,[(12,[2,5,8,9],[2,5,8,9],[2,3,4]),(20,[2,5,8,9],[2,5,8,9],[2,3,4]),(23,[2,5,8,9],[2,5,8,9],[2,3,4])]),
 (26,[(4,[0,3,4],[3],[2])]),
 (28,[(5,[0,3],[],[2])]),
 (29,[(5,[0,3],[0],[2])]),
 (30,[(4,[0,3,4],[0],[2])]),
 (31,[(3,[1,6,7],[],[4])]),
 (33,[(3,[0,6],[0],[2])]),
 (38,[(3,[1,7,8,9],[1],[2])]),
 (39,[(5,[0,5,6,7,12,13,14],[],[])]),
 (40,[(2,[0,2,8,9,10],[],[])]),
 (42,[(4,[1,3,4],[3],[2])]),
 (43,[(3,[0,1,5],[],[4])]),
 (44,[(4,[1,3,4],[3],[2])]),
 (45,[(3,[2,3,6],[],[4,5])]),
 (46,[(6,[0,5,6],[5],[2,3,4])]),
 (52,[(9,[0,2,3],[0,2,3],[2])]),
 (53,[(3,[0,3],[],[2])]),
 (54,[(7,[0,4,5,6,7,10],[0,4,5,6,7],[4])]),
 (56,[(4,[0,3,4],[],[2])]),
 (58,[(2,[0,1,2],[],[6])]),
 (60,[(5,[0,7,8,9],[7],[6])]),
 (61,[(4,[0,3,4],[3],[2])]),
 (62,[(5,[0,3],[0],[2])]),
 (66,[(6,[19,20,21],[],[2])]),
 (68,[(4,[3,6,7,8],[3],[2])]),
 (70,[(5,[0,20,21,22],[0],[2])]),
 (72,[(3,[0,1,5],[],[4])]),
 (73,[(3,[1,2,3,8],[],[6,7])]),
 (74,[(2,[0,1],[1],[4]),(7,[0,1],[0,1],[4])]),
 (75,[(3,[0,1,4,6],[0,1,4,6],[4,5]),(10,[0,1,4,6,7],[0,1,4,6,7],[4,5]),(19,[0,1,4,8,9],[4],[4,5])]),
 (85,[(3,[0,1,5],[],[4])]),
 (86,[(4,[0,3,4],[0],[2])]),
 (87,[(3,[0,1,2,7],[7],[6])]),
 (89,[(6,[0,5,6],[],[4])]),
 (91,[(5,[0,1,5,6,7],[5],[4])]),
 (94,[(5,[0,1,5],[],[4])]),
 (96,[(5,[3,4,9,10,11],[4],[2]),(11,[3,4,9,10,11],[3,4,9,10,11],[2])]),
 (99,[(3,[0,1,2,10],[1,10],[6,7,8,9])]),
 (100,[(5,[0,2,3,8,9],[8,9],[8])]),
 (105,[(3,[1,2,8,9],[],[4])]),
 (107,[(3,[0,6,7,8],[0],[2])]),
 (109,[(3,[0,1,5],[],[4])]),
 (110,[(4,[0,1,5,6,10,11],[1,5,6],[6,7,8,9])]),
 (113,[(3,[0,1,2,7],[],[6])]),
 (115,[(2,[0,1,2,3],[],[8])]),
 (1000000,[])]
def Anc:List Nat:=[
 39,
 21,
 18,
 40,
 20,
 19,
 54,
 80,
 47,
 53,
 51,
 49,
 50,
 52,
 48,
 31,
 115,
 1000000]
def Anb:List (Nat×List Nat):=[
 (1000000,[])]
def And:List (Nat×List Nat):=[
 (19,[4,5]),
 (20,[10]),
 (25,[28]),
 (39,[13]),
 (40,[9,5]),
 (41,[3,2]),
 (52,[10,7]),
 (1000000,[])]
def Ano:List (Nat×List Nat):=[
 (96,[3,27,47]),
 (1000000,[])]
def Ans:List (Nat×List Nat):=[
 (42,[3]),
 (44,[3]),
 (16,[3]),
 (46,[5]),
 (52,[46]),
 (99,[10]),
 (68,[3]),
 (61,[3]),
 (100,[61]),
 (112,[54]),
 (26,[3]),
 (87,[7]),
 (1000000,[])]
def Ant:List (Nat×List Nat):=[
 (54,[40]),
 (1000000,[])]
def Ank:List Nat:=[
 11,
 25,
 1000000]
def Ani:List (Nat×List Nat):=[
 (54,[40]),
 (1000000,[])]
def Al7:List (Nat×List (Nat×List Nat)):=[
 (1000000,[])]
def Ac9:List (Nat×List (Nat×List Nat))→Nat→List (Nat×List Nat)
 | [],_=>[]
 | p :: l,f=>match Nat.beq p.1 f with
   | true=>p.2
   | false=>Ac9 l f
def An2:List (Nat×List (Nat×List Nat)):=[
 (59,[(4,[1,3,51]),(6,[1,3,91])]),
 (1000000,[])]
def Ann:List Nat:=[
 2,
 3,
 4,
 5,
 6,
 7,
 8,
 9,
 10,
 11,
 12,
 13,
 14,
 15,
 16,
 17,
 18,
 19,
 20,
 21,
 22,
 23,
 24,
 25,
 26,
 27,
 28,
 29,
 30,
 31,
 32,
 33,
 34,
 35,
 36,
 37,
 38,
 39,
 40,
 41,
 42,
 43,
 44,
 45,
 46,
 47,
 48,
 49,
 50,
 51,
 52,
 53,
 54,
 55,
 56,
 57,
 58,
 59,
 60,
 61,
 62,
 63,
 64,
 65,
 66,
 67,
 68,
 69,
 70,
 71,
 72,
 73,
 74,
 75,
 76,
 77,
 78,
 79,
 80,
 81,
 82,
 83,
 84,
 85,
 86,
 87,
 88,
 89,
 90,
 91,
 92,
 93,
 94,
 95,
 96,
 97,
 98,
 99,
 100,
 101,
 102,
 103,
 104,
 105,
 106,
 107,
 108,
 109,
 110,
 111,
 112,
 113,
 114,
 115,
 116,
 117,
 118,
 119,
 120,
 121,
 122,
 123,
 ]
def Amc:List Nat:=[
 2,
 3,
 4,
 5,
 6,
 7,
 8,
 9,
 10,
 11,
 12,
 13,
 14,
 15,
 16,
 17,
 18,
 19,
 20,
 21,
 22,
 23,
 24,
 25,
 26,
 27,
 28,
 29,
 30,
 31,
 32,
 33,
 34,
 35,
 36,
 37,
 38,
 39,
 40,
 41,
 42,
 43,
 44,
 45,
 46,
 47,
 48,
 49,
 50,
 51,
 52,
 53,
 54,
 55,
 56,
 57,
 58,
 59,
 60,
 61,
 62,
 63,
 64,
 65,
 66,
 67,
 68,
 69,
 70,
 71,
 72,
 73,
 74,
 75,
 76,
 77,
 78,
 79,
 80,
 81,
 82,
 83,
 84,
 85,
 86,
 87,
 88,
 89,
 90,
 91,
 92,
 93,
 94,
 95,
 96,
 97,
 98,
 99,
 100,
 101,
 102,
 103,
 104,
 105,
 106,
 107,
 108,
 109,
 110,
 111,
 112,
 113,
 114,
 115,
 116,
 117,
 118,
 119,
 120,
 121,
 122,
 123,
 ]
def HH:C5:=⟨fun f k m=>Aj3 (Aj9 Amm f) k m,fun _ g=>Ns Anc g,fun f d=>Ns (U1 Ans f) d,fun f d=>Ns (U1 Ant f) d,fun f=>Ns Ank f,fun f d=>Ns (U1 Ani f) d,fun f g=>Ns (U1 Anb f) g,fun _=>true,fun f i=>Ns (U1 And f) i,fun f i=>U1 (Ac9 Al7 f) i,fun f i=>U1 (Ac9 An2 f) i,fun f d=>Ns (U1 Ano f) d,Ann,Amc⟩
def Aj7 (P:Program) (g:FuncId):Bool:=match P.funcs[g]? with
 | some fn=>!(fn.name== "runtime.NumGoroutine")&&!fn.body.isNone
 | none=>false
def Aff (P:Program) (H:C5) (g:FuncId):Bool:=match P.funcs[g]? with
 | some fn=>match fn.body with
   | some c=>J2 H g c
   | none=>true
 | none=>true
theorem Ai0 {P:Program} {H:C5} (h:H.good.all (Aj7 P)=true):Qg P H:=by
 intro g hg
 rw[List.all_eq_true] at h
 have:=h g (by simpa using hg)
 unfold Aj7 at this
 cases hf:P.funcs[g]? with
 | none=>rw[hf] at this;cases this
 | some fn =>
  rw[hf] at this
  simp only[Bool.and_eq_true,Bool.not_eq_true'] at this
  exact⟨fn,hf,this.1,this.2⟩
theorem Aio {P:Program} {H:C5} (h:H.plain.all (Aff P H)=true):∀ g fn c,H.plain.contains g=true→P.funcs[g]?=some fn→fn.body=some c→J2 H g c=true:=by
 intro g fn c hg hf hb
 rw[List.all_eq_true] at h
 have:=h g (by simpa using hg)
 unfold Aff at this
 rw[hf] at this
 simp only[hb] at this
 exact this
theorem Am4:Qg Tryz.prog HH:=Ai0 (by kernel_rfl)
theorem Akt:∀ g fn c,HH.plain.contains g=true→Tryz.prog.funcs[g]?=some fn→fn.body=some c→J2 HH g c=true:=Aio (by kernel_rfl)
theorem An9:Tryz.prog.follows .mixedOrders=true:=by kernel_rfl
noncomputable abbrev cN (X:Ext) (n:Nat):Dw:=Ss Tryz.prog HH X n
theorem Ah4 {X:Ext} (hX:V7 Tryz.prog X) (n:Nat):I5 Tryz.prog HH (cN X n):=A0s An9 Am4 hX Akt n
end Go.Proofs.YtpnhafdimkmbbaaGreat
end
section
namespace Go.Proofs.YtpnhafdimkmbbaaGreat
set_option linter.unusedVariables false
theorem Ael {P:Program} {H:C5} {X:Ext} {n:Nat} {f:FuncId} {args:List AV} {hp:Hp} (h:X f=none):M3 P H X (n+1) f args hp=A04 P H (Ss P H X n) n false f args hp:=by
 simp only[M3,Ss,h]
theorem Agq {P:Program} {H:C5} {call:Dw} {n:Nat} {f:FuncId} {args:List AV} {hp:Hp} {fn:Func} {c:Code} {r:Option (AV×Hp)} (hf:P.funcs[f]?=some fn) (hb:fn.body=some c) (hg:H.plain.contains f=true) (ha:args.length≤fn.ntmps)
 (h:Ti P H call f n c (args++List.replicate (fn.ntmps - args.length) .junk) hp (fun e tm hp'=>match e with
  | .exit _=>none
  | _=>A8x P fn tm hp' fun v=>some (wane hp.length hp' v,(Hm hp.length hp').map (Q2 P)))=r):A04 P H call n false f args hp=r:=by
 have:(H.plain.contains f&&decide (args.length≤fn.ntmps))=true:=by rw[hg,decide_eq_true ha];rfl
 simp only[A04,hf,hb,this]
 exact h
theorem Ahg {P:Program} {H:C5} {X:Ext} {n:Nat} {f:FuncId} {args:List AV} {hp:Hp} {fn:Func} {c:Code} {r:Option (AV×Hp)} (hf:P.funcs[f]?=some fn) (hx:X f=none) (hb:fn.body=some c) (hg:H.plain.contains f=true) (ha:args.length≤fn.ntmps)
 (h:Ti P H (Ss P H X n) f n c (args++List.replicate (fn.ntmps - args.length) .junk) hp (fun e tm hp'=>match e with
  | .exit _=>none
  | _=>A8x P fn tm hp' fun v=>some (wane hp.length hp' v,(Hm hp.length hp').map (Q2 P)))=r):M3 P H X (n+1) f args hp=r:=by
 rw[Ael hx];exact Agq hf hb hg ha h
theorem Aw {P:Program} {H:C5} {X:Ext} {n:Nat} {f:FuncId} {args:List AV} {hp:Hp} {fn:Func} {c:Code} {r:Option (AV×Hp)} (hf:P.funcs[f]?=some fn) (hx:X f=none) (hb:fn.body=some c) (hg:H.plain.contains f=true) (ha:args.length≤fn.ntmps)
 (h:∀ call:Dw,(∀ g l h,call false g l h=M3 P H X n g l h)→Ti P H call f n c (args++List.replicate (fn.ntmps - args.length) .junk) hp (fun e tm hp'=>match e with
  | .exit _=>none
  | _=>A8x P fn tm hp' fun v=>some (wane hp.length hp' v,(Hm hp.length hp').map (Q2 P)))=r):M3 P H X (n+1) f args hp=r :=
 Ahg hf hx hb hg ha (h _ fun _ _ _=>rfl)
theorem C1 {n:Int} (h: -9223372036854775808≤n∧n≤9223372036854775807):IntKind.i64.wrap n=n:=by
 simp only[IntKind.wrap,IntKind.bits,IntKind.signed,Bool.true_and]
 split<;>simp at* <;>omega
theorem Aex (k:Nat) (h:k < 9223372036854775807):IntKind.i64.wrap ((k:Int)+1)=((k+1:Nat):Int):=by rw[C1 (by omega)];omega
def Af0 (i:Nat):List (Nat×AV)→AV
 | []=>.junk
 | p :: l=>match Nat.beq p.1 i with
   | true=>p.2
   | false=>Af0 i l
def Aeh (l:List (Nat×AV)) (i:Nat):Nat→Tm
 | 0=>[]
 | n+1=>Af0 i l :: Aeh l (i+1) n
def Bh (n:Nat) (l:List (Nat×AV)):Tm:=Aeh l 0 n
theorem A59 {α:Type} {p:List Nat} {f:α→List AV} (h:∀ x,Ajf p (f x)=true) (l:List α):O6 p (List.map f l)=true:=by
 induction l with
 | nil=>rfl
 | cons a l ih=>simp only[O6,List.map_cons,List.all_cons,h,Bool.true_and];exact ih
theorem A7g {P:Program} {call:Dw} {g:FuncId} {size sz:Nat} {els els':List (List AV)} {rest more:List AV} {fn:Func} {p q:List Nat} (hk:call false g (.sl sz els' :: more) []=some (.tup (.sl size els :: rest),[])) (hf:P.funcs[g]?=some fn) (hp:Q9 P (nth 0 fn.resultTypes.toList 0)=p) (hq:Q9 P (nth 0 fn.params.toList 0)=q)
 (h1:(A85 p q&&(noZ p&&noZ q))=true) (h2:(decide (size=p.length)&&decide (sz=q.length))=true) (h3:(rest.all Sv&&more.all Sv)=true) (h4:O6 p els=true) (h5:O6 q els'=true) :
 Ue P true call g (.sl sz els' :: more)=bif decide (els.length=0) then some (.tup (.sl size els :: rest),[]) else some (.tup (.own 0 0 els.length :: rest),[.arr size els]):=by
 simp only[Bool.and_eq_true] at h2 h3
 simp only[Ue,A76,hf,hk,hp,hq,h1,h2.1,h2.2,h3.1,h3.2,h4,h5,Bool.and_self,cond_true]
end Go.Proofs.YtpnhafdimkmbbaaGreat
end
