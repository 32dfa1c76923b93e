/- Parts of the proofs: what they lean on. Conditions: none. -/
import Derived.Test.YtnijlelbihnamaaGreatProg
import Derived.Test.YtnijlelbihnamaaGreatPrgS6
section
namespace Go.Proofs.YtnijlelbihnamaaGreat
set_option linter.unusedVariables false
set_option maxRecDepth 100000
def A3p:List (Nat×List Nat)→Nat→List Nat
 | [],_=>[]
 | p :: l,f=>match Nat.beq p.1 f with
   | true=>p.2
   | false=>A3p l f
def B06:List (Nat×List (Nat×List Nat×List Nat×List Nat))→Nat→List (Nat×List Nat×List Nat×List Nat)
 | [],_=>[]
 | p :: l,f=>match Nat.beq p.1 f with
   | true=>p.2
   | false=>B06 l f
def Azw:List (Nat×List Nat×List Nat×List Nat)→Nat→Nat→List Nat
 | [],_,_=>[]
 | p :: l,k,m=>match Nat.beq p.1 k with
   | true=>match m with
     | 0=>p.2.1
     | 1=>p.2.2.1
     | _=>p.2.2.2
   | false=>Azw l k m
def B30:List (Nat×List (Nat×List Nat×List Nat×List Nat)):=[
 (6,[(11,[2,5,8,9,10,11],[2,5,8,9],[2,3,4]),(17,[2,5,8,9,12,13],[2,5,8,9],[2,3,4]),(23,[2,5,8,9,14],[2,5,8,9],[2,3,4]),(26,[2,5,8,9,14,15],[2,5,8,9,14],[2,3,4])]),
 (11,[(6,[1,3,22,23,24],[1,3],[2]),(11,[1,3,41,42,43],[1,3],[2]),(16,[1,3,7,8,41,42,43,54,55,56],[1,3,7,41,42,43],[2]),(26,[3,80,81,82],[3],[2])]),
 (13,[(4,[1,2,3,17,18,19],[1,2,3],[2]),(9,[1,2,3,35,36,37],[1,2,3],[2]),(13,[1,2,3,8,35,36,37,48,49,50],[1,2,3,8,35,36,37],[2]),(21,[2,3,78,79,80],[2,3],[2])]),
 (8,[(5,[2,3,4,7],[2,3,4],[6]),(10,[2,3,4,8],[2,3,4],[6]),(17,[2,3,4,8,9,10,11],[2,3,4,8],[6]),(22,[2,3,4,12],[],[6])]),
 (14,[(6,[0,5,6],[5],[2,3,4])]),
 (21,[(7,[0,4,5,8],[0,4,5],[4])]),
 (23,[(5,[0,1,2,6,7,8,31,32],[0,1,2,6,7,8],[6])]),
 (38,[(3,[1,6,7],[],[4])]),
 (40,[(3,[0,6],[0],[2])]),
 (45,[(3,[1,7,8,9],[1],[2])]),
 (49,[(4,[3,8,9],[3],[2])]),
 (34,[(5,[0,1,2,7],[],[6])]),
 (35,[(5,[0,1,2,7],[],[6])]),
 (50,[(3,[0,1,8],[0],[4])]),
 (55,[(4,[3,7],[3],[2])]),
 (59,[(6,[1,8,25,26,27],[1,8],[4,5,6,7])]),
 (72,[(6,[19,20,21],[],[2])]),
 (75,[(5,[0,20,21,22],[0],[2])]),
 (74,[(4,[3,6,7,8],[3],[2])]),
 (79,[(3,[0,1,5],[5],[4])]),
 (82,[(5,[3,4,9,10,11],[4],[2]),(11,[3,4,9,10,11],[3,4,9,10,11],[2])]),
 (95,[(2,[0,1,2,3],[],[8])]),
 (97,[(4,[3,4,5],[3],[2])]),
 (98,[(5,[1,3,5,18,19],[5],[2])]),
 (93,[(5,[0,1,5],[],[4])]),
 (103,[(13,[0,1,6,8,9,84,85],[0,1,6,8],[4])]),
 (104,[(3,[0,1,2,3,9],[9],[8]),(6,[0,1,2,3,9,10,23,24,25],[0,1,2,3,9,10],[8])]),
 (120,[(3,[1,2,8,9],[],[4])]),
 (122,[(3,[0,6,7,8],[0],[2])]),
 (128,[(4,[5,10,11,12],[5],[4])]),
 (7,[(12,[2,5,8,9],[2,5,8,9],[2,3,4]),(20,[2,5,8,9],[2,5,8,9],[2,3,4]),(23,[2,5,8,9],[2,5,8,9],[2,3,4])]),
 (25,[(6,[0,5,6],[5],[2,3,4])]),
 (31,[(9,[0,2,3],[0,2,3],[2])]),
 (32,[(3,[0,3],[],[2])]),
 (33,[(7,[0,4,5,6,7,10],[0,4,5,6,7],[4])]),
 (87,[(5,[0,3],[],[2])]),
 (62,[(2,[0,1],[1],[4]),(7,[0,1],[0,1],[4])]),
 (63,[(3,[0,1,4,6],[0,1,4,6],[4,5]),(10,[0,1,4,6,7],[0,1,4,6,7],[4,5]),(19,[0,1,4,8,9],[4],[4,5])]),
 (148,[(5,[0,3],[0],[2])]),
 (107,[(4,[0,3,4],[],[2])]),
 (147,[(4,[0,3,4],[3],[2])]),
 (88,[(3,[0,1,2,10],[1,10],[6,7,8,9])]),
 (89,[(5,[0,2,3,8,9],[8,9],[8])]),
 (90,[(5,[0,1,5,6,7],[5],[4])]),
 (116,[(6,[0,5,6],[],[4])]),
 (145,[(4,[0,3,4],[0],[2])]),
 (108,[(3,[0,1,5],[],[4])]),
 (109,[(4,[0,1,5,6,10,11],[1,5,6],[6,7,8,9])]),
 (113,[(3,[0,1,2,7],[],[6])]),
 (9,[(5,[1,3],[1],[2]),(10,[1,4],[1],[2]),(16,[1,4,5,6],[1,4],[2]),(21,[1,7],[],[2])]),
 (36,[(5,[0,3],[],[2])]),
 (37,[(5,[0,3],[],[2])]),
 (1000000,[])]
def B3m:List Nat:=[
 81,
 152,
 151,
 127,
 153,
 104,
 23,
 60,
 20,
 15,
 19,
 18,
 21,
 24,
 33,
 68,
 26,
 32,
 30,
 28,
 29,
 31,
 27,
 126,
 141,
 123,
 102,
 79,
 138,
 103,
 124,
 80,
 125,
 16,
 38,
 95,
 1000000]
def B3h:List (Nat×List Nat):=[
 (1000000,[])]
def B3i:List (Nat×List Nat):=[
 (6,[34,12,29,18]),
 (13,[14]),
 (19,[1]),
 (21,[7]),
 (7,[28]),
 (103,[3]),
 (31,[10,7]),
 (79,[2]),
 (137,[0]),
 (139,[0]),
 (140,[0]),
 (142,[0]),
 (143,[0]),
 (24,[5,3]),
 (14,[12,24,21]),
 (1000000,[])]
def B3o:List (Nat×List Nat):=[
 (82,[3,27,47]),
 (49,[3]),
 (1000000,[])]
def cyT:List (Nat×List (Nat×List Nat)):=[
 (6,[(14,[10]),(20,[12])]),
 (1000000,[])]
def B3g:List (Nat×List Nat):=[
 (128,[9]),
 (25,[5]),
 (31,[46]),
 (88,[10]),
 (74,[3]),
 (147,[3]),
 (79,[5]),
 (103,[151]),
 (89,[61]),
 (112,[54]),
 (14,[5]),
 (1000000,[])]
def B3n:List (Nat×List Nat):=[
 (49,[6]),
 (33,[40]),
 (23,[21]),
 (1000000,[])]
def B3j:List Nat:=[
 21,
 13,
 6,
 7,
 1000000]
def B3s:List (Nat×List Nat):=[
 (103,[81]),
 (33,[40]),
 (23,[21]),
 (6,[33,43,50,66,73,96]),
 (18,[6]),
 (21,[22,38]),
 (1000000,[])]
def B2b:List (Nat×List (Nat×List Nat)):=[
 (1000000,[])]
def Amm:List (Nat×List (Nat×List Nat))→Nat→List (Nat×List Nat)
 | [],_=>[]
 | p :: l,f=>match Nat.beq p.1 f with
   | true=>p.2
   | false=>Amm l f
def B39:List (Nat×List (Nat×List Nat)):=[
 (1000000,[])]
def B3p:List Nat:=[
 2,
 5,
 6,
 11,
 10,
 13,
 8,
 12,
 14,
 15,
 16,
 17,
 18,
 19,
 20,
 21,
 22,
 23,
 24,
 46,
 47,
 48,
 38,
 39,
 40,
 41,
 42,
 43,
 44,
 45,
 49,
 34,
 35,
 50,
 51,
 52,
 53,
 54,
 55,
 56,
 57,
 58,
 59,
 60,
 61,
 72,
 76,
 75,
 77,
 71,
 73,
 74,
 78,
 79,
 80,
 81,
 82,
 91,
 92,
 95,
 96,
 97,
 98,
 99,
 93,
 94,
 100,
 101,
 102,
 103,
 104,
 105,
 106,
 117,
 118,
 119,
 120,
 121,
 122,
 123,
 124,
 125,
 126,
 127,
 128,
 129,
 136,
 137,
 138,
 139,
 140,
 141,
 142,
 143,
 144,
 146,
 149,
 151,
 152,
 153,
 7,
 25,
 26,
 27,
 28,
 29,
 30,
 31,
 32,
 33,
 69,
 87,
 62,
 63,
 64,
 65,
 66,
 67,
 68,
 70,
 148,
 83,
 107,
 84,
 147,
 85,
 86,
 88,
 89,
 90,
 110,
 131,
 116,
 150,
 135,
 130,
 145,
 108,
 109,
 111,
 112,
 113,
 114,
 115,
 132,
 133,
 134,
 9,
 36,
 37,
 3,
 4,
 ]
def B1r:List Nat:=[
 2,
 5,
 6,
 11,
 10,
 13,
 8,
 12,
 14,
 15,
 16,
 17,
 18,
 19,
 20,
 21,
 22,
 23,
 24,
 46,
 47,
 48,
 38,
 39,
 40,
 41,
 42,
 43,
 44,
 45,
 49,
 34,
 35,
 50,
 51,
 52,
 53,
 54,
 55,
 56,
 57,
 58,
 59,
 60,
 61,
 72,
 76,
 75,
 77,
 71,
 73,
 74,
 78,
 79,
 80,
 81,
 82,
 91,
 92,
 95,
 96,
 97,
 98,
 99,
 93,
 94,
 100,
 101,
 102,
 103,
 104,
 105,
 106,
 117,
 118,
 119,
 120,
 121,
 122,
 123,
 124,
 125,
 126,
 127,
 128,
 129,
 136,
 137,
 138,
 139,
 140,
 141,
 142,
 143,
 144,
 146,
 149,
 151,
 152,
 153,
 7,
 25,
 26,
 27,
 28,
 29,
 30,
 31,
 32,
 33,
 69,
 87,
 62,
 63,
 64,
 65,
 66,
 67,
 68,
 70,
 148,
 83,
 107,
 84,
 147,
 85,
 86,
 88,
 89,
 90,
 110,
 131,
 116,
 150,
 135,
 130,
 145,
 108,
 109,
 111,
 112,
 113,
 114,
 115,
 132,
 133,
 134,
 9,
 36,
 37,
 3,
 4,
 ]
def HH:Dr:=⟨fun f k m=>Azw (B06 B30 f) k m,fun _ g=>Xr B3m g,fun f d=>Xr (A3p B3g f) d,fun f d=>Xr (A3p B3n f) d,fun f=>Xr B3j f,fun f d=>Xr (A3p B3s f) d,fun f g=>Xr (A3p B3h f) g,fun _=>true,fun f i=>Xr (A3p B3i f) i,fun f i=>A3p (Amm B2b f) i,fun f i=>A3p (Amm B39 f) i,fun f d=>Xr (A3p B3o f) d,fun f i=>A3p (Amm cyT f) i,B3p,B1r⟩
def B00 (P:Program) (g:FuncId):Bool:=match P.funcs[g]? with
 | some fn=>!(fn.name== "runtime.NumGoroutine")&&!fn.body.isNone
 | none=>false
def Aww (P:Program) (H:Dr) (g:FuncId):Bool:=match P.funcs[g]? with
 | some fn=>match fn.body with
   | some c=>Q8 H g c
   | none=>true
 | none=>true
theorem Ayi {P:Program} {H:Dr} (h:H.good.all (B00 P)=true):Zy P H:=by
 intro g hg
 rw[List.all_eq_true] at h
 have:=h g (by simpa using hg)
 unfold B00 at this
 cases hf:P.funcs[g]? with
 | none=>rw[hf] at this;cases this
 | some fn =>
  rw[hf] at this
  simp only[Ah,Bool.not_eq_true'] at this
  exact⟨fn,hf,this.1,this.2⟩
theorem Az9 {P:Program} {H:Dr} (h:H.plain.all (Aww P H)=true):∀ g fn c,H.plain.contains g=true→P.funcs[g]?=some fn→fn.body=some c→Q8 H g c=true:=by
 intro g fn c hg hf hb
 rw[List.all_eq_true] at h
 have:=h g (by simpa using hg)
 unfold Aww at this
 rw[hf] at this
 simp only[hb] at this
 exact this
theorem B29:Zy Tryz.prog HH:=Ayi (by kernel_rfl)
theorem B0g:∀ g fn c,HH.plain.contains g=true→Tryz.prog.funcs[g]?=some fn→fn.body=some c→Q8 HH g c=true:=Az9 (by kernel_rfl)
theorem B2s:Tryz.prog.follows .mixedOrders=true:=by kernel_rfl
noncomputable abbrev cN (X:Ext) (n:Nat):Ha:=Xw Tryz.prog HH X n
theorem Ayo {X:Ext} (hX:A7l Tryz.prog X) (n:Nat):Qn Tryz.prog HH (cN X n):=Aeo B2s B29 hX B0g n
theorem Avj {P:Program} {H:Dr} {X:Ext} {n:Nat} {f:FuncId} {args:List AV} {hp:Hp} (h:X f=none):Mt P H X (n+1) f args hp=Aa6 P H (Xw P H X n) n false f args hp:=by
 simp only[Mt,Xw,h]
theorem Aym {P:Program} {H:Dr} {call:Ha} {n:Nat} {f:FuncId} {args:List AV} {hp:Hp} {fn:Func} {c:Code} {r:Option (AV×Hp)} (hf:P.funcs[f]?=some fn) (hb:fn.body=some c) (hg:H.plain.contains f=true) (ha:args.length≤fn.ntmps)
 (h:A21 P H call f n hp.length c (args++List.replicate (fn.ntmps - args.length) .junk) hp (fun e tm hp'=>match e with
  | .exit _=>none
  | _=>Afz P fn tm hp' fun v=>some (wane hp.length hp' v,(Nz hp.length hp').map (Yl P)))=r):Aa6 P H call n false f args hp=r:=by
 have:(H.plain.contains f&&decide (args.length≤fn.ntmps))=true:=by rw[hg,decide_eq_true ha];rfl
 simp only[Aa6,hf,hb,this]
 exact h
theorem Ao4 {P:Program} {H:Dr} {X:Ext} {n:Nat} {f:FuncId} {args:List AV} {hp:Hp} {fn:Func} {c:Code} {r:Option (AV×Hp)} (hf:P.funcs[f]?=some fn) (hx:X f=none) (hb:fn.body=some c) (hg:H.plain.contains f=true) (ha:args.length≤fn.ntmps)
 (h:A21 P H (Xw P H X n) f n hp.length c (args++List.replicate (fn.ntmps - args.length) .junk) hp (fun e tm hp'=>match e with
  | .exit _=>none
  | _=>Afz P fn tm hp' fun v=>some (wane hp.length hp' v,(Nz hp.length hp').map (Yl P)))=r):Mt P H X (n+1) f args hp=r:=by
 rw[Avj hx];exact Aym hf hb hg ha h
theorem Ai {P:Program} {H:Dr} {X:Ext} {n:Nat} {f:FuncId} {args:List AV} {hp:Hp} {fn:Func} {c:Code} {r:Option (AV×Hp)} (hf:P.funcs[f]?=some fn) (hx:X f=none) (hb:fn.body=some c) (hg:H.plain.contains f=true) (ha:args.length≤fn.ntmps)
 (h:∀ call:Ha,(∀ g l h,call false g l h=Mt P H X n g l h)→A21 P H call f n hp.length c (args++List.replicate (fn.ntmps - args.length) .junk) hp (fun e tm hp'=>match e with
  | .exit _=>none
  | _=>Afz P fn tm hp' fun v=>some (wane hp.length hp' v,(Nz hp.length hp').map (Yl P)))=r):Mt P H X (n+1) f args hp=r :=
 Ao4 hf hx hb hg ha (h _ fun _ _ _=>rfl)
theorem W7 {P:Program} {H:Dr} {X:Ext} {n:Nat} {f:FuncId} {args:List AV} {hp:Hp} {fn:Func} {c:Code} {r:Option (AV×Hp)} (hf:P.funcs[f]?=some fn) (hx:X f=none) (hb:fn.body=some c) (hg:H.plain.contains f=true) (ha:args.length≤fn.ntmps)
 (h:∀ call:Ha,(∀ g l h,call false g l h=Mt P H X n g l h)→(∀ g l h,call true g l h=Xw P H X n true g l h)→A21 P H call f n hp.length c (args++List.replicate (fn.ntmps - args.length) .junk) hp (fun e tm hp'=>match e with
  | .exit _=>none
  | _=>Afz P fn tm hp' fun v=>some (wane hp.length hp' v,(Nz hp.length hp').map (Yl P)))=r):Mt P H X (n+1) f args hp=r :=
 Ao4 hf hx hb hg ha (h _ (fun _ _ _=>rfl) fun _ _ _=>rfl)
theorem Hx {P:Program} {H:Dr} {X:Ext} {n n1:Nat} {call:Ha} {f:FuncId} {args:List AV} {hp:Hp} {fn:Func} {c:Code} (hc:∀ g l h,call true g l h=Xw P H X n true g l h) (hn:n=n1+1) (hf:P.funcs[f]?=some fn) (hx:X f=none) (hb:fn.body=some c) (hg:H.plain.contains f=true) (ha:args.length≤fn.ntmps) :
 ∃ call1:Ha,(∀ g l h,call1 false g l h=Mt P H X n1 g l h)∧call true f args hp=A21 P H call1 f n1 hp.length c (args++List.replicate (fn.ntmps - args.length) .junk) hp (fun e tm hp'=>match e with
  | .exit _=>none
  | _=>Afz P fn tm hp' fun v=>some (v,hp')):=by
 refine⟨Xw P H X n1,fun _ _ _=>rfl,?_⟩
 rw[hc,hn]
 have:(H.plain.contains f&&decide (args.length≤fn.ntmps))=true:=by rw[hg,decide_eq_true ha];rfl
 simp only[Xw,hx,Aa6,hf,hb,this]
 rfl
def Sg {α:Type}:Nat→(Nat→Option α)→Option α
 | 0,_=>none
 | n+1,f=>f n
theorem Lt {α:Type} {n:Nat} {f:Nat→Option α} {r:α} (h:Sg n f=some r):∃ k,n=k+1∧f k=some r:=by
 cases n with
 | zero=>cases h
 | succ n=>exact⟨n,rfl,h⟩
theorem Cx {n:Int} (h: -9223372036854775808≤n∧n≤9223372036854775807):IntKind.i64.wrap n=n:=by
 simp only[IntKind.wrap,IntKind.bits,IntKind.signed,Bool.true_and]
 split<;>simp at* <;>omega
theorem All (k:Nat) (h:k < 9223372036854775807):IntKind.i64.wrap ((k:Int)+1)=((k+1:Nat):Int):=by rw[Cx (by omega)];omega
def Awu (i:Nat):List (Nat×AV)→AV
 | []=>.junk
 | p :: l=>match Nat.beq p.1 i with
   | true=>p.2
   | false=>Awu i l
def Avm (l:List (Nat×AV)) (i:Nat):Nat→Tm
 | 0=>[]
 | n+1=>Awu i l :: Avm l (i+1) n
def B9 (n:Nat) (l:List (Nat×AV)):Tm:=Avm l 0 n
theorem A0r {α:Type} {p:List Nat} {f:α→List AV} (h:∀ x,Azy p (f x)=true) (l:List α):Xz p (List.map f l)=true:=by
 induction l with
 | nil=>rfl
 | cons a l ih=>simp only[Xz,List.map_cons,List.all_cons,h,Bool.true_and];exact ih
theorem A6y {P:Program} {call:Ha} {g:FuncId} {size sz:Nat} {els els':List (List AV)} {rest more:List AV} {fn:Func} {p q:List Nat} (hk:call false g (.sl sz els' :: more) []=some (.tup (.sl size els :: rest),[])) (hf:P.funcs[g]?=some fn) (hp:Zx P (nth 0 fn.resultTypes.toList 0)=p) (hq:Zx P (nth 0 fn.params.toList 0)=q)
 (h1:(Aoh p q&&(noZ p&&noZ q))=true) (h2:(decide (size=p.length)&&decide (sz=q.length))=true) (h3:(rest.all A3f&&more.all A3f)=true) (h4:Xz p els=true) (h5:Xz q els'=true) :
 A0j P true call g (.sl sz els' :: more)=bif decide (els.length=0) then some (.tup (.sl size els :: rest),[]) else some (.tup (.own 0 0 els.length :: rest),[.arr size els]):=by
 simp only[Ah] at h2 h3
 simp only[A0j,Ams,hf,hk,hp,hq,h1,h2.1,h2.2,h3.1,h3.2,h4,h5,Bool.and_self,Af]
end Go.Proofs.YtnijlelbihnamaaGreat
end
