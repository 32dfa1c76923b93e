/- Parts of the proofs: what they lean on. Conditions: none. -/
import Derived.Test.YteindmlljlboeaaGreatProg
import Derived.Test.YteindmlljlboeaaGreatPshS6
section
namespace Go.Proofs.YteindmlljlboeaaGreat
set_option linter.unusedVariables false
set_option maxRecDepth 100000
def U6:List (Nat×List Nat)→Nat→List Nat
 | [],_=>[]
 | p :: l,f=>match Nat.beq p.1 f with
   | true=>p.2
   | false=>U6 l f
def Amd:List (Nat×List (Nat×List Nat×List Nat×List Nat))→Nat→List (Nat×List Nat×List Nat×List Nat)
 | [],_=>[]
 | p :: l,f=>match Nat.beq p.1 f with
   | true=>p.2
   | false=>Amd l f
def Amo:List (Nat×List Nat×List Nat×List Nat)→Nat→Nat→List Nat
 | [],_,_=>[]
 | p :: l,k,m=>match Nat.beq p.1 k with
   | true=>match m with
     | 0=>p.2.1
     | 1=>p.2.2.1
     | _=>p.2.2.2
   | false=>Amo l k m
def Apk:List (Nat×List (Nat×List Nat×List Nat×List Nat)):=[
 (3,[(7,[1,3,4,5],[1,3,4],[2]),(10,[1,3,4,5,6],[1,3,4,5],[2]),(14,[1,3,4,5,7],[1,3,4,5],[2]),(18,[1,3,4,8],[1,4],[2]),(21,[1,3,4,8,9],[1,3,4,8],[2])]),
 (4,[(5,[1,3],[1],[2]),(10,[1,4],[1],[2]),(16,[1,4,5,6],[1,4],[2]),(21,[1,7],[],[2])]),
 (6,[(4,[1,2,3,17,18,19],[1,2,3],[2]),(9,[1,2,3,35,36,37],[1,2,3],[2]),(13,[1,2,3,8,35,36,37,48,49,50],[1,2,3,8,35,36,37],[2]),(21,[2,3,78,79,80],[2,3],[2])]),
 (8,[(5,[1,3],[1],[2]),(10,[1,4],[1],[2]),(16,[1,4,5,6],[1,4],[2]),(21,[1,7],[],[2])]),
 (9,[(5,[2,3,4,7],[2,3,4],[6]),(10,[2,3,4,8],[2,3,4],[6]),(17,[2,3,4,8,9,10,11],[2,3,4,8],[6]),(22,[2,3,4,12],[],[6])]),
 (10,[(4,[1,2,3,4],[1,2,3],[2]),(10,[1,2,3,6],[1,2,3],[2]),(15,[1,2,3,6,7,8],[1,2,3,6,7],[2]),(24,[1,2,3,10],[2,3],[2])]),
 (11,[(6,[1,3,22,23,24],[1,3],[2]),(11,[1,3,41,42,43],[1,3],[2]),(16,[1,3,7,8,41,42,43,54,55,56],[1,3,7,41,42,43],[2]),(26,[3,80,81,82],[3],[2])]),
 (12,[(6,[1,3,4],[1,3],[2]),(10,[1,3,5],[1,3],[2]),(15,[1,3,5,6,7],[1,3,5,6],[2]),(24,[1,3,8],[3],[2])]),
 (13,[(5,[0,3],[],[2])]),
 (14,[(5,[0,3],[],[2])]),
 (15,[(11,[2,5,8,9,10,11],[2,5,8,9],[2,3,4]),(17,[2,5,8,9,12,13],[2,5,8,9],[2,3,4]),(23,[2,5,8,9,14],[2,5,8,9],[2,3,4]),(26,[2,5,8,9,14,15],[2,5,8,9,14],[2,3,4])]),
 (17,[(4,[3,8,9],[3],[2])]),
 (18,[(3,[1,6,7],[],[4])]),
 (20,[(3,[0,6],[0],[2])]),
 (25,[(3,[1,7,8,9],[1],[2])]),
 (27,[(5,[0,3],[],[2])]),
 (28,[(5,[0,3],[0],[2])]),
 (29,[(4,[0,3,4],[0],[2])]),
 (30,[(5,[0,1,2,7],[],[6])]),
 (31,[(5,[0,1,2,7],[],[6])]),
 (32,[(4,[0,3,4],[3],[2])]),
 (41,[(6,[0,5,6],[5],[2,3,4])]),
 (48,[(7,[0,4,5,8],[0,4,5],[4])]),
 (49,[(5,[0,1,2,6,7,8,31,32],[0,1,2,6,7,8],[6])]),
 (54,[(6,[19,20,21],[],[2])]),
 (56,[(4,[3,6,7,8],[3],[2])]),
 (57,[(5,[0,20,21,22],[0],[2])]),
 (59,[(4,[0,3,4],[],[2])]),
 (61,[(2,[0,1,2],[],[6])]),
 (63,[(5,[0,7,8,9],[7],[6])]),
 (64,[(4,[0,3,4],[3],[2])]),
 (65,[(5,[0,3],[0],[2])]),
 (68,[(5,[0,3,9,10,11],[9],[8])]),
 (70,[(3,[0,1,8],[0],[4])]),
 (73,[(4,[3,7],[3],[2])]),
 (77,[(6,[1,8,25,26,27],[1,8],[4,5,6,7])]),
 (82,[(5,[0,1,5],[],[4])]),
 (84,[(5,[3,4,9,10,11],[4],[2]),(11,[3,4,9,10,11],[3,4,9,10,11],[2])]),
 (87,[(3,[0,1,5],[],[4])]),
 (88,[(4,[0,3,4],[0],[2])]),
 (89,[(3,[0,1,2,7],[7],[6])]),
 (91,[(6,[0,5,6],[],[4])]),
 (93,[(5,[0,1,5,6,7],[5],[4])]),
 (94,[(2,[0,1,2,3],[],[8])]),
 (96,[(4,[3,4,5],[3],[2])]),
 (97,[(5,[1,3,5,18,19],[5],[2])]),
 (101,[(4,[0,3,4],[3],[2])]),
 (107,[(3,[0,1,5],[5],[4])]),
 (113,[(3,[1,2,8,9],[],[4])]),
 (115,[(3,[0,6,7,8],[0],[2])]),
 (119,[(13,[0,1,6,8,9,84,85],[0,1,6,8],[4])]),
 (120,[(3,[0,1,2,3,9],[9],[8]),(6,[0,1,2,3,9,10,23,24,25],[0,1,2,3,9,10],[8])]),
 (128,[(4,[5,10,11,12],[5],[4])]),
 (1000000,[])]
def Aqq:List Nat:=[
 109,
 141,
 140,
 127,
 142,
 120,
 49,
 78,
 47,
 42,
 46,
 45,
 48,
 50,
 126,
 134,
 123,
 118,
 107,
 131,
 119,
 124,
 108,
 125,
 43,
 18,
 94,
 1000000]
def Aqh:List (Nat×List Nat):=[
 (1000000,[])]
def Aqt:List (Nat×List Nat):=[
 (15,[34,12,29,18]),
 (6,[14]),
 (46,[1]),
 (48,[7]),
 (119,[3]),
 (107,[2]),
 (130,[0]),
 (132,[0]),
 (133,[0]),
 (135,[0]),
 (136,[0]),
 (50,[5,3]),
 (41,[12,24,21]),
 (1000000,[])]
def Aqg:List (Nat×List Nat):=[
 (84,[3,27,47]),
 (17,[3]),
 (1000000,[])]
def Aqs:List (Nat×List Nat):=[
 (1000000,[])]
def Aqn:List Nat:=[
 1000000]
def cyT:List (Nat×List (Nat×List Nat)):=[
 (15,[(14,[10]),(20,[12])]),
 (1000000,[])]
def Aqp:List (Nat×List Nat):=[
 (128,[9]),
 (56,[3]),
 (64,[3]),
 (107,[5]),
 (119,[151]),
 (32,[3]),
 (89,[7]),
 (41,[5]),
 (1000000,[])]
def Aqo:List (Nat×List Nat):=[
 (17,[6]),
 (49,[21]),
 (1000000,[])]
def Aqv:List Nat:=[
 48,
 6,
 15,
 10,
 1000000]
def Aqr:List (Nat×List Nat):=[
 (119,[81]),
 (49,[21]),
 (15,[33,43,50,66,73,96]),
 (45,[6]),
 (48,[22,38]),
 (1000000,[])]
def Aon:List (Nat×List (Nat×List Nat)):=[
 (1000000,[])]
def Ab2:List (Nat×List (Nat×List Nat))→Nat→List (Nat×List Nat)
 | [],_=>[]
 | p :: l,f=>match Nat.beq p.1 f with
   | true=>p.2
   | false=>Ab2 l f
def Apt:List (Nat×List (Nat×List Nat)):=[
 (62,[(4,[1,3,51]),(6,[1,3,91])]),
 (1000000,[])]
def Aqf:List Nat:=[
 2,
 3,
 4,
 5,
 6,
 7,
 8,
 9,
 10,
 11,
 12,
 13,
 14,
 15,
 16,
 17,
 18,
 19,
 20,
 21,
 22,
 23,
 24,
 25,
 26,
 27,
 28,
 29,
 30,
 31,
 32,
 33,
 34,
 35,
 36,
 37,
 38,
 39,
 40,
 41,
 42,
 43,
 44,
 45,
 46,
 47,
 48,
 49,
 50,
 51,
 52,
 53,
 54,
 55,
 56,
 57,
 58,
 59,
 60,
 61,
 62,
 63,
 64,
 65,
 66,
 67,
 68,
 69,
 70,
 71,
 72,
 73,
 74,
 75,
 76,
 77,
 78,
 79,
 80,
 81,
 82,
 83,
 84,
 85,
 86,
 87,
 88,
 89,
 90,
 91,
 92,
 93,
 94,
 95,
 96,
 97,
 98,
 99,
 100,
 101,
 102,
 103,
 104,
 105,
 106,
 107,
 108,
 109,
 110,
 111,
 112,
 113,
 114,
 115,
 116,
 117,
 118,
 119,
 120,
 121,
 122,
 123,
 124,
 125,
 126,
 127,
 128,
 129,
 130,
 131,
 132,
 133,
 134,
 135,
 136,
 137,
 138,
 139,
 140,
 141,
 142,
 ]
def Ap8:List Nat:=[
 2,
 3,
 4,
 5,
 6,
 7,
 8,
 9,
 10,
 11,
 12,
 13,
 14,
 15,
 16,
 17,
 18,
 19,
 20,
 21,
 22,
 23,
 24,
 25,
 26,
 27,
 28,
 29,
 30,
 31,
 32,
 33,
 34,
 35,
 36,
 37,
 38,
 39,
 40,
 41,
 42,
 43,
 44,
 45,
 46,
 47,
 48,
 49,
 50,
 51,
 52,
 53,
 54,
 55,
 56,
 57,
 58,
 59,
 60,
 61,
 62,
 63,
 64,
 65,
 66,
 67,
 68,
 69,
 70,
 71,
 72,
 73,
 74,
 75,
 76,
 77,
 78,
 79,
 80,
 81,
 82,
 83,
 84,
 85,
 86,
 87,
 88,
 89,
 90,
 91,
 92,
 93,
 94,
 95,
 96,
 97,
 98,
 99,
 100,
 101,
 102,
 103,
 104,
 105,
 106,
 107,
 108,
 109,
 110,
 111,
 112,
 113,
 114,
 115,
 116,
 117,
 118,
 119,
 120,
 121,
 122,
 123,
 124,
 125,
 126,
 127,
 128,
 129,
 130,
 131,
 132,
 133,
 134,
 135,
 136,
 137,
 138,
 139,
 140,
 141,
 142,
 ]
def HH:Bu:=⟨fun f k m=>Amo (Amd Apk f) k m,fun _ g=>Nw Aqq g,fun f d=>Nw (U6 Aqp f) d,fun f d=>Nw (U6 Aqo f) d,fun f=>Nw Aqv f,fun f d=>Nw (U6 Aqr f) d,fun f g=>Nw (U6 Aqh f) g,fun _=>true,fun f i=>Nw (U6 Aqt f) i,fun f i=>U6 (Ab2 Aon f) i,fun f i=>U6 (Ab2 Apt f) i,fun f d=>Nw (U6 Aqg f) d,fun f i=>U6 (Ab2 cyT f) i,fun f k=>Nw (U6 Aqs f) k,fun g=>Nw Aqn g,Aqf,Ap8⟩
def Amc (P:Program) (g:FuncId):Bool:=match P.funcs[g]? with
 | some fn=>!(fn.name== "runtime.NumGoroutine")&&!fn.body.isNone
 | none=>false
def Ais (P:Program) (H:Bu) (g:FuncId):Bool:=match P.funcs[g]? with
 | some fn=>match fn.body with
   | some c=>Hw H g c
   | none=>true
 | none=>true
theorem Am0 {P:Program} {H:Bu} (h:H.good.all (Amc P)=true):R1 P H:=by
 intro g hg
 rw[List.all_eq_true] at h
 have:=h g (by simpa using hg)
 unfold Amc at this
 cases hf:P.funcs[g]? with
 | none=>rw[hf] at this;cases this
 | some fn =>
  rw[hf] at this
  simp only[Ap,Bool.not_eq_true'] at this
  exact⟨fn,hf,this.1,this.2⟩
theorem Am7 {P:Program} {H:Bu} (h:H.plain.all (Ais P H)=true):∀ g fn c,H.plain.contains g=true→P.funcs[g]?=some fn→fn.body=some c→Hw H g c=true:=by
 intro g fn c hg hf hb
 rw[List.all_eq_true] at h
 have:=h g (by simpa using hg)
 unfold Ais at this
 rw[hf] at this
 simp only[hb] at this
 exact this
theorem Ap6:R1 Tryz.prog HH:=Am0 (by kernel_rfl)
theorem Aoa:∀ g fn c,HH.plain.contains g=true→Tryz.prog.funcs[g]?=some fn→fn.body=some c→Hw HH g c=true:=Am7 (by kernel_rfl)
theorem A6m:Tryz.prog.follows .mixedOrders=true:=by kernel_rfl
noncomputable abbrev cN (X:Ext) (n:Nat):Ct:=On Tryz.prog HH X n
theorem A5g {X:Ext} (hX:A0j Tryz.prog X) (n:Nat):He Tryz.prog HH (cN X n):=A4c A6m Ap6 hX Aoa n
theorem Ajx {P:Program} {H:Bu} {X:Ext} {n:Nat} {f:FuncId} {args:List AV} {hp:Hp} (h:X f=none):I2 P H X (n+1) f args hp=A0w P H (On P H X n) n false f args hp:=by
 simp only[I2,On,h]
theorem Am5 {P:Program} {H:Bu} {call:Ct} {n:Nat} {f:FuncId} {args:List AV} {hp:Hp} {fn:Func} {c:Code} {r:Option (AV×Hp)} (hf:P.funcs[f]?=some fn) (hb:fn.body=some c) (hg:H.plain.contains f=true) (ha:args.length≤fn.ntmps)
 (h:Ss P H call f n hp.length c (args++List.replicate (fn.ntmps - args.length) .junk) hp (fun e tm hp'=>match e with
  | .exit _=>none
  | _=>A5l P fn tm hp' fun v=>some (wane hp.length hp' v,(Hb hp.length hp').map (Qv P)))=r):A0w P H call n false f args hp=r:=by
 have:(H.plain.contains f&&decide (args.length≤fn.ntmps))=true:=by rw[hg,decide_eq_true ha];rfl
 simp only[A0w,hf,hb,this]
 exact h
theorem Abt {P:Program} {H:Bu} {X:Ext} {n:Nat} {f:FuncId} {args:List AV} {hp:Hp} {fn:Func} {c:Code} {r:Option (AV×Hp)} (hf:P.funcs[f]?=some fn) (hx:X f=none) (hb:fn.body=some c) (hg:H.plain.contains f=true) (ha:args.length≤fn.ntmps)
 (h:Ss P H (On P H X n) f n hp.length c (args++List.replicate (fn.ntmps - args.length) .junk) hp (fun e tm hp'=>match e with
  | .exit _=>none
  | _=>A5l P fn tm hp' fun v=>some (wane hp.length hp' v,(Hb hp.length hp').map (Qv P)))=r):I2 P H X (n+1) f args hp=r:=by
 rw[Ajx hx];exact Am5 hf hb hg ha h
theorem An {P:Program} {H:Bu} {X:Ext} {n:Nat} {f:FuncId} {args:List AV} {hp:Hp} {fn:Func} {c:Code} {r:Option (AV×Hp)} (hf:P.funcs[f]?=some fn) (hx:X f=none) (hb:fn.body=some c) (hg:H.plain.contains f=true) (ha:args.length≤fn.ntmps)
 (h:∀ call:Ct,(∀ g l h,call false g l h=I2 P H X n g l h)→Ss P H call f n hp.length c (args++List.replicate (fn.ntmps - args.length) .junk) hp (fun e tm hp'=>match e with
  | .exit _=>none
  | _=>A5l P fn tm hp' fun v=>some (wane hp.length hp' v,(Hb hp.length hp').map (Qv P)))=r):I2 P H X (n+1) f args hp=r :=
 Abt hf hx hb hg ha (h _ fun _ _ _=>rfl)
theorem Ye {P:Program} {H:Bu} {X:Ext} {n:Nat} {f:FuncId} {args:List AV} {hp:Hp} {fn:Func} {c:Code} {r:Option (AV×Hp)} (hf:P.funcs[f]?=some fn) (hx:X f=none) (hb:fn.body=some c) (hg:H.plain.contains f=true) (ha:args.length≤fn.ntmps)
 (h:∀ call:Ct,(∀ g l h,call false g l h=I2 P H X n g l h)→(∀ g l h,call true g l h=On P H X n true g l h)→Ss P H call f n hp.length c (args++List.replicate (fn.ntmps - args.length) .junk) hp (fun e tm hp'=>match e with
  | .exit _=>none
  | _=>A5l P fn tm hp' fun v=>some (wane hp.length hp' v,(Hb hp.length hp').map (Qv P)))=r):I2 P H X (n+1) f args hp=r :=
 Abt hf hx hb hg ha (h _ (fun _ _ _=>rfl) fun _ _ _=>rfl)
theorem Iu {P:Program} {H:Bu} {X:Ext} {n n1:Nat} {call:Ct} {f:FuncId} {args:List AV} {hp:Hp} {fn:Func} {c:Code} (hc:∀ g l h,call true g l h=On P H X n true g l h) (hn:n=n1+1) (hf:P.funcs[f]?=some fn) (hx:X f=none) (hb:fn.body=some c) (hg:H.plain.contains f=true) (ha:args.length≤fn.ntmps) :
 ∃ call1:Ct,(∀ g l h,call1 false g l h=I2 P H X n1 g l h)∧(∀ g l h,call1 true g l h=On P H X n1 true g l h)∧call true f args hp=Ss P H call1 f n1 hp.length c (args++List.replicate (fn.ntmps - args.length) .junk) hp (fun e tm hp'=>match e with
  | .exit _=>none
  | _=>A5l P fn tm hp' fun v=>some (v,hp')):=by
 refine⟨On P H X n1,fun _ _ _=>rfl,fun _ _ _=>rfl,?_⟩
 rw[hc,hn]
 have:(H.plain.contains f&&decide (args.length≤fn.ntmps))=true:=by rw[hg,decide_eq_true ha];rfl
 simp only[On,hx,A0w,hf,hb,this]
 rfl
def Xp {α:Type}:Nat→(Nat→Option α)→Option α
 | 0,_=>none
 | n+1,f=>f n
theorem Nc {α:Type} {n:Nat} {f:Nat→Option α} {r:α} (h:Xp n f=some r):∃ k,n=k+1∧f k=some r:=by
 cases n with
 | zero=>cases h
 | succ n=>exact⟨n,rfl,h⟩
theorem C0 {n:Int} (h: -9223372036854775808≤n∧n≤9223372036854775807):IntKind.i64.wrap n=n:=by
 simp only[IntKind.wrap,IntKind.bits,IntKind.signed,Bool.true_and]
 split<;>simp at* <;>omega
theorem Aj3 (k:Nat) (h:k < 9223372036854775807):IntKind.i64.wrap ((k:Int)+1)=((k+1:Nat):Int):=by rw[C0 (by omega)];omega
def Aii (i:Nat):List (Nat×AV)→AV
 | []=>.junk
 | p :: l=>match Nat.beq p.1 i with
   | true=>p.2
   | false=>Aii i l
def Aj0 (l:List (Nat×AV)) (i:Nat):Nat→Tm
 | 0=>[]
 | n+1=>Aii i l :: Aj0 l (i+1) n
def B4 (n:Nat) (l:List (Nat×AV)):Tm:=Aj0 l 0 n
theorem A9a {α:Type} {p:List Nat} {f:α→List AV} (h:∀ x,Ami p (f x)=true) (l:List α):Qu p (List.map f l)=true:=by
 induction l with
 | nil=>rfl
 | cons a l ih=>simp only[Qu,List.map_cons,List.all_cons,h,Bool.true_and];exact ih
theorem Ae3 {P:Program} {call:Ct} {g:FuncId} {size sz:Nat} {els els':List (List AV)} {rest more:List AV} {fn:Func} {p q:List Nat} (hk:call false g (.sl sz els' :: more) []=some (.tup (.sl size els :: rest),[])) (hf:P.funcs[g]?=some fn) (hp:Sc P (nth 0 fn.resultTypes.toList 0)=p) (hq:Sc P (nth 0 fn.params.toList 0)=q)
 (h1:(Ade p q&&(noZ p&&noZ q))=true) (h2:(decide (size=p.length)&&decide (sz=q.length))=true) (h3:(rest.all V4&&more.all V4)=true) (h4:Qu p els=true) (h5:Qu q els'=true) :
 Wn P true call g (.sl sz els' :: more)=bif decide (els.length=0) then some (.tup (.sl size els :: rest),[]) else some (.tup (.own 0 0 els.length :: rest),[.arr size els]):=by
 simp only[Ap] at h2 h3
 simp only[Wn,Ab0,hf,hk,hp,hq,h1,h2.1,h2.2,h3.1,h3.2,h4,h5,Bool.and_self,B8]
end Go.Proofs.YteindmlljlboeaaGreat
end
