/- Parts of the proofs: what they lean on. Conditions: none. -/
import Derived.WalkKit
section
namespace Go.Proofs.Ytmaklniljnbokaa
set_option linter.unusedVariables false

/-- Values. 'sl': a slice whose elements stay as they are; 'rptr': an address in such an element; 'ptr', 'pte', 'row', 'own': into the interpreter's objects. -/
inductive AV where
  | junk
  | bool (b : Bool)
  | int (k : IntKind) (n : Int)
  | str (s : List UInt8)
  | nilp
  | ptr (id off : Nat)
  | pte (id i off : Nat)
  | rptr (el : List AV) (off : Nat)
  | nils
  | sl (size : Nat) (els : List (List AV))
  | row (id n : Nat)
  | own (id off n : Nat)
  | stk (id ver n : Nat)
  | pts (id ver i off : Nat)
  | agg (cs : List AV)
  | tup (cs : List AV)
  | func (f : FuncId) (first cap : List AV)
  | nilf
  | mapp (id : Nat)
  | mcl (kd : Option IntKind) (els : List (List AV))
  | mfn (kd : Option IntKind) (els : List (List AV))
  | ifc (t : TypeId) (a : AV)
  | nili
  deriving Inhabited

/-- Objects: a variable's cells; a row that only grows; an array that is written. -/
inductive Ob where
  | var (t : TypeId) (cs : List AV)
  | row (e : TypeId) (size : Nat) (els : List (List AV))
  | arr (size : Nat) (els : List (List AV))
  | stk (ver : Nat) (e : TypeId) (size : Nat) (els : List (List AV))
  | mp (kd : Option IntKind) (frz : Bool) (els : List (List AV))
  | mpo (kd : Option IntKind) (els : List (List AV))
  deriving Inhabited

abbrev Tm := List AV
abbrev Hp := List Ob

def nth {α : Type} (d : α) : List α → Nat → α
  | [], _ => d
  | a :: _, 0 => a
  | _ :: l, n + 1 => nth d l n
def nth? {α : Type} : List α → Nat → Option α
  | [], _ => none
  | a :: _, 0 => some a
  | _ :: l, n + 1 => nth? l n
def setNth {α : Type} : List α → Nat → α → List α
  | [], _, _ => []
  | _ :: l, 0, x => x :: l
  | a :: l, n + 1, x => a :: setNth l n x

def lit1 : Value → AV
  | .bool b => .bool b
  | .int k n => match decide (k.min ≤ n) && decide (n ≤ k.max) with
    | true => .int k n
    | false => .junk
  | .string s => match decide (s.data.toList.length ≤ 140737488355328) with
    | true => .str s.data.toList
    | false => .junk
  | .pointer none => .nilp
  | .slice none 0 0 => .nils
  | .nilFunc => .nilf
  | .map none => .mcl none []
  | .nilIface => .nili
  | _ => .junk
def lit : Value → AV
  | .agg cs => match cs.toList.all Value.oneCell' with
    | true => .agg (cs.toList.map lit1)
    | false => .junk
  | v => lit1 v

def ev (tm : Tm) : Operand → AV
  | .tmp t => nth .junk tm t
  | .const v => lit v
  | .func f => .func f [] []
  | .global _ => .junk

def aggOf (P : Program) (t : TypeId) : Option Bool :=
  match P.underlying t with
  | some (.struct _) | some (.array _ _) => some true
  | some _ => some false
  | none => none
def fieldOf (P : Program) (t : TypeId) (f : Nat) : Option (Nat × TypeId) := match P.underlying t with
  | some (.struct fs) => (fs[f]?).map fun x => (x.offset, x.type)
  | _ => none
def elemOf (P : Program) (t : TypeId) : Option TypeId := match P.underlying t with
  | some (.slice e) => some e
  | _ => none

/-- A value that may lie in one cell. -/
def AV.one : AV → Bool
  | .junk | .agg _ | .tup _ | .mfn _ _ => false
  | _ => true
def AV.cells : AV → List AV
  | .agg cs => cs
  | a => [a]

/-- A cell's value without objects. -/
def close1 (hp : Hp) : AV → Option AV
  | .row id n => match nth? hp id with
    | some (.row _ size els) => some (.sl size (els.take n))
    | _ => none
  | .bool b => some (.bool b)
  | .int k n => some (.int k n)
  | .str s => some (.str s)
  | .nilp => some .nilp
  | .rptr el off => some (.rptr el off)
  | .nils => some .nils
  | .sl size els => some (.sl size els)
  | .nilf => some .nilf
  | .func f [] [] => some (.func f [] [])
  | .mcl kd els => some (.mcl kd els)
  | .ifc t a => some (.ifc t a)
  | .nili => some .nili
  | _ => none
def closeL (hp : Hp) : List AV → Option (List AV)
  | [] => some []
  | a :: l => match close1 hp a with
    | some a => match closeL hp l with
      | some l => some (a :: l)
      | none => none
    | none => none
def close (hp : Hp) : AV → Option AV
  | .agg cs => match closeL hp cs with
    | some cs => some (.agg cs)
    | none => none
  | a => close1 hp a
def closeArgs (hp : Hp) : List AV → Option (List AV)
  | [] => some []
  | a :: l => match close hp a with
    | some a => match closeArgs hp l with
      | some l => some (a :: l)
      | none => none
    | none => none

/-- As 'close', arrays that are written too: for calls that yield plain numbers. -/
def closeO1 (hp : Hp) : AV → Option AV
  | .own id off n => match nth? hp id with
    | some (.arr size els) => some (.sl size ((els.drop off).take n))
    | _ => none
  | .stk id ver n => match nth? hp id with
    | some (.stk v _ size els) => match decide (v = ver) with
      | true => some (.sl size (els.take n))
      | false => none
    | _ => none
  | a => close1 hp a
def closeOL (hp : Hp) : List AV → Option (List AV)
  | [] => some []
  | a :: l => match closeO1 hp a with
    | some a => match closeOL hp l with
      | some l => some (a :: l)
      | none => none
    | none => none
def closeO (hp : Hp) : AV → Option AV
  | .agg cs => match closeOL hp cs with
    | some cs => some (.agg cs)
    | none => none
  | a => closeO1 hp a
def closeOArgs (hp : Hp) : List AV → Option (List AV)
  | [] => some []
  | a :: l => match closeO hp a with
    | some a => match closeOArgs hp l with
      | some l => some (a :: l)
      | none => none
    | none => none
def isOwn : AV → Bool
  | .own _ _ _ => true
  | .stk _ _ _ => true
  | _ => false
def anyOwn : List AV → Bool
  | [] => false
  | .agg cs :: l => cs.any isOwn || anyOwn l
  | a :: l => isOwn a || anyOwn l
/-- Without memory. -/
def flat1 : AV → Bool
  | .bool _ | .int _ _ | .str _ => true
  | _ => false
def flat : AV → Bool
  | .tup cs => cs.all flat1
  | a => flat1 a

/-- The types of a type's cells. -/
def cellTys (P : Program) : Nat → TypeId → List TypeId
  | 0, t => [t]
  | n + 1, t => match P.underlying t with
    | some (.struct fs) => fs.toList.flatMap fun f => cellTys P n f.type
    | some (.array k e) => (List.replicate k (cellTys P n e)).flatten
    | _ => [t]
def norm1 (P : Program) (t : TypeId) : AV → AV
  | .nils => match elemOf P t with
    | some e => .sl (P.cellsOf e) []
    | none => .nils
  | a => a
def norms (P : Program) : List TypeId → List AV → List AV
  | t :: ts, a :: l => norm1 P t a :: norms P ts l
  | _, l => l
/-- The nil slices as slices without elements. -/
def norm (P : Program) (t : TypeId) : AV → AV
  | .agg cs => .agg (norms P (cellTys P 6 t) cs)
  | .nils => norm1 P t .nils
  | a => a
def normArgs (P : Program) : List TypeId → List AV → List AV
  | t :: ts, a :: l => norm P t a :: normArgs P ts l
  | _, l => l

/-- What is left of a value once the objects from h0 on are gone. -/
def wane1 (h0 : Nat) (hp : Hp) : AV → AV
  | .ptr id off => bif decide (id < h0) then .ptr id off else .junk
  | .pte id i off => bif decide (id < h0) then .pte id i off else .junk
  | .row id n => bif decide (id < h0) then .row id n else match nth? hp id with
    | some (.row _ size els) => .sl size (els.take n)
    | _ => .junk
  | .own id off n => bif decide (id < h0) then .own id off n else match nth? hp id with
    | some (.arr size els) => .sl size ((els.drop off).take n)
    | _ => .junk
  | .stk id ver n => bif decide (id < h0) then .stk id ver n else match nth? hp id with
    | some (.stk v _ size els) => match decide (v = ver) with
      | true => .sl size (els.take n)
      | false => .junk
    | _ => .junk
  | .pts id v i off => bif decide (id < h0) then .pts id v i off else .junk
  | .mapp id => bif decide (id < h0) then .mapp id else match nth? hp id with
    | some (.mp kd _ els) => .mcl kd els
    | _ => .junk
  | .func f [] [] => .func f [] []
  | .func _ _ _ => .junk
  | .agg _ => .junk
  | .tup _ => .junk
  | .mfn _ _ => .junk
  | a => a
def wane2 (h0 : Nat) (hp : Hp) : AV → AV
  | .agg cs => .agg (cs.map (wane1 h0 hp))
  | .func f a b => .func f (a.map (wane1 h0 hp)) (b.map (wane1 h0 hp))
  | a => wane1 h0 hp a
def wane (h0 : Nat) (hp : Hp) : AV → AV
  | .tup cs => .tup (cs.map (wane2 h0 hp))
  | .mfn kd els => .mfn kd (els.map (List.map (wane2 h0 hp)))
  | .mapp id => bif decide (id < h0) then .mapp id else match nth? hp id with
    | some (.mp kd _ els) => .mcl kd els
    | some (.mpo kd els) => .mfn kd (els.map (List.map (wane2 h0 hp)))
    | _ => .junk
  | a => wane2 h0 hp a
def waneOb (h0 : Nat) (hp : Hp) : Ob → Ob
  | .var t cs => .var t (cs.map (wane2 h0 hp))
  | .mpo kd els => .mpo kd (els.map (List.map (wane2 h0 hp)))
  | o => o
def waneHp (h0 : Nat) (hp : Hp) : Hp := (hp.take h0).map (waneOb h0 hp)
def keepTm (keep : List Nat) (h0 : Nat) (hp : Hp) : Nat → Tm → Tm
  | _, [] => []
  | i, a :: l => (bif keep.contains i then wane h0 hp a else .junk) :: keepTm keep h0 hp (i + 1) l

def hasN : List Nat → Nat → Bool
  | [], _ => false
  | a :: l, f => match Nat.beq a f with
    | true => true
    | false => hasN l f
def findN : List Nat → Nat → Nat → Option Nat
  | [], _, _ => none
  | a :: l, k, id => match Nat.beq a id with
    | true => some k
    | false => findN l (k + 1) id
def ids1 : AV → List Nat
  | .ptr id _ => [id]
  | .pte id _ _ => [id]
  | .row id _ => [id]
  | .own id _ _ => [id]
  | .stk id _ _ => [id]
  | .pts id _ _ _ => [id]
  | .mapp id => [id]
  | _ => []
def idsL (g : AV → List Nat) : List AV → List Nat
  | [] => []
  | a :: l => g a ++ idsL g l
def ids2 : AV → List Nat
  | .agg cs => idsL ids1 cs
  | .func _ a b => idsL ids1 a ++ idsL ids1 b
  | a => ids1 a
def ids3 : AV → List Nat
  | .tup cs => idsL ids2 cs
  | .mfn _ els => idsL ids2 els.flatten
  | a => ids2 a
def idsOb : Ob → List Nat
  | .var _ cs => idsL ids2 cs
  | .mpo _ els => idsL ids2 els.flatten
  | _ => []
/-- The objects that can be reached. -/
def reach (hp : Hp) : Nat → List Nat → List Nat → Option (List Nat)
  | 0, _, done => some done
  | _ + 1, [], done => some done
  | n + 1, id :: todo, done => match hasN done id with
    | true => reach hp n todo done
    | false => match nth? hp id with
      | some o => reach hp n (idsOb o ++ todo) (done ++ [id])
      | none => none
def idB (n : Nat) : List Nat → Bool
  | [] => true
  | a :: l => match Nat.blt a n with
    | true => idB n l
    | false => false
/-- A row as it is now. -/
def shut1 (hp : Hp) : AV → AV
  | .row id n => match nth? hp id with
    | some (.row _ size els) => .sl size (els.take n)
    | _ => .junk
  | a => a
def shut2 (hp : Hp) : AV → AV
  | .agg cs => .agg (cs.map (shut1 hp))
  | .func f a b => .func f (a.map (shut1 hp)) (b.map (shut1 hp))
  | a => shut1 hp a
/-- A value whose objects have other numbers. -/
def ren1 (q : Nat → Option Nat) : AV → AV
  | .ptr id off => match q id with
    | some k => .ptr k off
    | none => .junk
  | .pte id i off => match q id with
    | some k => .pte k i off
    | none => .junk
  | .row id n => match q id with
    | some k => .row k n
    | none => .junk
  | .own id off n => match q id with
    | some k => .own k off n
    | none => .junk
  | .stk id v n => match q id with
    | some k => .stk k v n
    | none => .junk
  | .pts id v i off => match q id with
    | some k => .pts k v i off
    | none => .junk
  | .mapp id => match q id with
    | some k => .mapp k
    | none => .junk
  | .func f [] [] => .func f [] []
  | .func _ _ _ => .junk
  | .agg _ => .junk
  | .tup _ => .junk
  | .mfn _ _ => .junk
  | a => a
def ren2 (q : Nat → Option Nat) : AV → AV
  | .agg cs => .agg (cs.map (ren1 q))
  | .func f a b => .func f (a.map (ren1 q)) (b.map (ren1 q))
  | a => ren1 q a
def ren3 (q : Nat → Option Nat) : AV → AV
  | .tup cs => .tup (cs.map (ren2 q))
  | .mfn kd els => .mfn kd (els.map (List.map (ren2 q)))
  | a => ren2 q a
def renOb (P : Program) (q : Nat → Option Nat) : Ob → Ob
  | .var t cs => .var t (norms P (cellTys P 6 t) (cs.map (ren2 q)))
  | .mpo kd els => .mpo kd (els.map (List.map (ren2 q)))
  | o => o
/-- Some of the objects. -/
def subHp (P : Program) (q : Nat → Option Nat) (hp : Hp) : List Nat → Hp
  | [] => []
  | id :: l => match nth? hp id with
    | some o => renOb P q o :: subHp P q hp l
    | none => subHp P q hp l
/-- What became of them. -/
def backHp (P : Program) (ids : List Nat) : List Nat → Hp → Hp → Hp
  | id :: l, o :: hpn, hp => backHp P ids l hpn (setNth hp id (renOb P (nth? ids) o))
  | _, _, hp => hp

/-- How a proof looks at the functions: which slots are kept at a loop's head; which calls see the caller's objects; which slices are written. -/
structure Hints where
  keep : FuncId → Nat → Nat → List Nat
  inl : FuncId → FuncId → Bool
  obj : FuncId → Nat → Bool
  arr : FuncId → Nat → Bool
  ups : FuncId → Bool
  ado : FuncId → Nat → Bool
  upc : FuncId → FuncId → Bool
  ind : FuncId → Bool
  dyn : FuncId → Nat → Bool
  order : FuncId → Nat → List Nat
  join : FuncId → Nat → List Nat
  stk : FuncId → Nat → Bool
  cy : FuncId → Nat → List Nat
  upz : FuncId → Nat → Bool
  raw : FuncId → Bool
  good : List FuncId
  plain : List FuncId

section
variable {ρ : Type}

/-- A number as it is written. -/
def numK (K : Nat → Option ρ) (n : Nat) : Option ρ := match Nat.beq n 0 with
  | true => K 0
  | false => match Nat.beq n 1 with
  | true => K 1
  | false => match Nat.beq n 2 with
  | true => K 2
  | false => match Nat.beq n 3 with
  | true => K 3
  | false => match Nat.beq n 4 with
  | true => K 4
  | false => match Nat.beq n 5 with
  | true => K 5
  | false => match Nat.beq n 6 with
  | true => K 6
  | false => match Nat.beq n 7 with
  | true => K 7
  | false => match Nat.beq n 8 with
  | true => K 8
  | false => match Nat.beq n 9 with
  | true => K 9
  | false => match Nat.beq n 10 with
  | true => K 10
  | false => match Nat.beq n 11 with
  | true => K 11
  | false => match Nat.beq n 12 with
  | true => K 12
  | false => match Nat.beq n 13 with
  | true => K 13
  | false => match Nat.beq n 14 with
  | true => K 14
  | false => match Nat.beq n 15 with
  | true => K 15
  | false => match Nat.beq n 16 with
  | true => K 16
  | false => match Nat.beq n 17 with
  | true => K 17
  | false => match Nat.beq n 18 with
  | true => K 18
  | false => match Nat.beq n 19 with
  | true => K 19
  | false => match Nat.beq n 20 with
  | true => K 20
  | false => match Nat.beq n 21 with
  | true => K 21
  | false => match Nat.beq n 22 with
  | true => K 22
  | false => match Nat.beq n 23 with
  | true => K 23
  | false => match Nat.beq n 24 with
  | true => K 24
  | false => match Nat.beq n 25 with
  | true => K 25
  | false => match Nat.beq n 26 with
  | true => K 26
  | false => match Nat.beq n 27 with
  | true => K 27
  | false => match Nat.beq n 28 with
  | true => K 28
  | false => match Nat.beq n 29 with
  | true => K 29
  | false => match Nat.beq n 30 with
  | true => K 30
  | false => match Nat.beq n 31 with
  | true => K 31
  | false => match Nat.beq n 32 with
  | true => K 32
  | false => match Nat.beq n 33 with
  | true => K 33
  | false => match Nat.beq n 34 with
  | true => K 34
  | false => match Nat.beq n 35 with
  | true => K 35
  | false => match Nat.beq n 36 with
  | true => K 36
  | false => match Nat.beq n 37 with
  | true => K 37
  | false => match Nat.beq n 38 with
  | true => K 38
  | false => match Nat.beq n 39 with
  | true => K 39
  | false => match Nat.beq n 40 with
  | true => K 40
  | false => match Nat.beq n 41 with
  | true => K 41
  | false => match Nat.beq n 42 with
  | true => K 42
  | false => match Nat.beq n 43 with
  | true => K 43
  | false => match Nat.beq n 44 with
  | true => K 44
  | false => match Nat.beq n 45 with
  | true => K 45
  | false => match Nat.beq n 46 with
  | true => K 46
  | false => match Nat.beq n 47 with
  | true => K 47
  | false => K n
/-- Values with their head laid open (for the reckoning alone: 'force a K' is 'K a'). -/
def force1 (K : AV → Option ρ) : AV → Option ρ
  | .junk => K .junk
  | .bool b => K (.bool b)
  | .int k n => K (.int k n)
  | .str s => K (.str s)
  | .nilp => K .nilp
  | .ptr id off => numK (fun id => numK (fun off => K (.ptr id off)) off) id
  | .pte id i off => numK (fun id => numK (fun off => K (.pte id i off)) off) id
  | .rptr el off => K (.rptr el off)
  | .nils => K .nils
  | .sl size els => K (.sl size els)
  | .row id n => numK (fun id => K (.row id n)) id
  | .own id off n => numK (fun id => K (.own id off n)) id
  | .stk id v n => numK (fun id => K (.stk id v n)) id
  | .pts id v i off => numK (fun id => numK (fun off => K (.pts id v i off)) off) id
  | .agg cs => K (.agg cs)
  | .tup cs => K (.tup cs)
  | .func f a b => K (.func f a b)
  | .nilf => K .nilf
  | .mapp id => numK (fun id => K (.mapp id)) id
  | .mcl kd els => K (.mcl kd els)
  | .mfn kd els => K (.mfn kd els)
  | .ifc t a => K (.ifc t a)
  | .nili => K .nili
def forceL (g : (AV → Option ρ) → AV → Option ρ) : (List AV → Option ρ) → List AV → Option ρ
  | K, [] => K []
  | K, a :: l => g (fun a => forceL g (fun l => K (a :: l)) l) a
def force2 (K : AV → Option ρ) : AV → Option ρ
  | .agg cs => forceL force1 (fun cs => K (.agg cs)) cs
  | .func f a b => forceL force1 (fun a => forceL force1 (fun b => K (.func f a b)) b) a
  | a => force1 K a
def forceLL : (List (List AV) → Option ρ) → List (List AV) → Option ρ
  | K, [] => K []
  | K, el :: l => forceL force2 (fun el => forceLL (fun l => K (el :: l)) l) el
def force (K : AV → Option ρ) : AV → Option ρ
  | .tup cs => forceL force2 (fun cs => K (.tup cs)) cs
  | .mfn kd els => forceLL (fun els => K (.mfn kd els)) els
  | a => force2 K a
def forceOb (K : Ob → Option ρ) : Ob → Option ρ
  | .var t cs => forceL force2 (fun cs => K (.var t cs)) cs
  | .row e size els => K (.row e size els)
  | .arr size els => K (.arr size els)
  | .stk v e size els => K (.stk v e size els)
  | .mp kd frz els => K (.mp kd frz els)
  | .mpo kd els => forceLL (fun els => K (.mpo kd els)) els
def forceHp : (Hp → Option ρ) → Hp → Option ρ
  | K, [] => K []
  | K, o :: l => forceOb (fun o => forceHp (fun l => K (o :: l)) l) o
def forceN : (List Nat → Option ρ) → List Nat → Option ρ
  | K, [] => K []
  | K, a :: l => numK (fun a => forceN (fun l => K (a :: l)) l) a
def setK {α : Type} (K : List α → Option ρ) (v : α) : List α → Nat → Option ρ
  | [], _ => K []
  | _ :: l, 0 => K (v :: l)
  | a :: l, n + 1 => setK (fun l => K (a :: l)) v l n
def putK (tm : Tm) (d : Option Tmp) (v : AV) (K : Tm → Option ρ) : Option ρ := match d with
  | some d => force (fun v => setK K v tm d) v
  | none => K tm

def mkAgg (b : Option Bool) (cs : List AV) (K : AV → Option ρ) : Option ρ := match b with
  | some true => K (.agg cs)
  | some false => match cs with
    | [a] => K a
    | _ => none
  | none => none

def sub (l : List AV) (off n : Nat) (K : List AV → Option ρ) : Option ρ := bif decide (off + n ≤ l.length) then K ((l.drop off).take n) else none

def load (P : Program) (hp : Hp) (t : TypeId) (K : AV → Option ρ) : AV → Option ρ
  | .ptr id off => match nth? hp id with
    | some (.var _ cs) => sub cs off (P.cellsOf t) fun cs => mkAgg (aggOf P t) cs K
    | _ => none
  | .pte id i off => match nth? hp id with
    | some (.arr _ els) => match nth? els i with
      | some el => sub el off (P.cellsOf t) fun cs => mkAgg (aggOf P t) cs K
      | none => none
    | _ => none
  | .pts id ver i off => match nth? hp id with
    | some (.stk v _ _ els) => match decide (v = ver) with
      | true => match nth? els i with
        | some el => sub el off (P.cellsOf t) fun cs => mkAgg (aggOf P t) cs K
        | none => none
      | false => none
    | _ => none
  | .rptr el off => sub el off (P.cellsOf t) fun cs => mkAgg (aggOf P t) cs K
  | _ => none

def zero (P : Program) (t : TypeId) : Option AV := match (P.info? t) with
  | some i => match i.zero with
    | some v => some (lit v)
    | none => none
  | none => none

def binInt (op : BinOp) (k : IntKind) (a b : Int) (K : AV → Option ρ) : Option ρ := match op with
  | .add => K (.int k (k.wrap (a + b)))
  | .sub => K (.int k (k.wrap (a - b)))
  | .mul => K (.int k (k.wrap (a * b)))
  | .quo => bif decide (b = 0) then none else K (.int k (k.wrap (a.tdiv b)))
  | .rem => bif decide (b = 0) then none else K (.int k (a.tmod b))
  | .eql => K (.bool (a == b))
  | .neq => K (.bool (a != b))
  | .lss => K (.bool (decide (a < b)))
  | .leq => K (.bool (decide (a ≤ b)))
  | .gtr => K (.bool (decide (b < a)))
  | .geq => K (.bool (decide (b ≤ a)))
  | _ => none

def max3 (a b c : Int) : Int := if (if a < b then b else a) < c then c else (if a < b then b else a)
def min3 (a b c : Int) : Int := if c < (if b < a then b else a) then c else (if b < a then b else a)

/-- The fields of a struct that lie one behind the other. -/
def flatFrom : Nat → List Field → Bool
  | _, [] => true
  | n, f :: fs => decide (f.name ≠ "_") && decide (f.offset = n) && flatFrom (n + 1) fs
def flatT (P : Program) (t : TypeId) : Option (List Field) := match P.underlying t with
  | some (.struct fs) => match flatFrom 0 fs.toList && !P.stoodInHeld t && !P.eqGuardType P.depth t with
    | true => some fs.toList
    | false => none
  | _ => none
def eqs (P : Program) : (Bool → Option ρ) → List Field → List AV → List AV → Option ρ
  | K, [], [], [] => K true
  | K, f :: fs, x :: xs, y :: ys => match P.underlying f.type with
    | some .bool => match x with
      | .bool a => match y with
        | .bool b => eqs P (fun c => K ((a == b) && c)) fs xs ys
        | _ => none
      | _ => none
    | some (.int _) => match x with
      | .int k a => match y with
        | .int k' b => match decide (k = k') with
          | true => eqs P (fun c => K ((a == b) && c)) fs xs ys
          | false => none
        | _ => none
      | _ => none
    | some .string => match x with
      | .str a => match y with
        | .str b => eqs P (fun c => K ((a == b) && c)) fs xs ys
        | _ => none
      | _ => none
    | _ => none
  | _, _, _, _ => none

def binop (P : Program) (t : TypeId) (op : BinOp) (K : AV → Option ρ) : AV → AV → Option ρ
  | .int k a, .int k' b => match decide (k = k') with
    | true => binInt op k a b K
    | false => none
  | .str a, .str b => match op with
    | .eql => K (.bool (a == b))
    | .neq => K (.bool (!(a == b)))
    | .add => bif decide (a.length + b.length ≤ 140737488355328) then K (.str (a ++ b)) else none
    | _ => none
  | .bool a, .bool b => match P.underlying t with
    | some .bool => match op with
      | .eql => K (.bool (a == b))
      | .neq => K (.bool (!(a == b)))
      | _ => none
    | _ => none
  | .agg xs, .agg ys => match flatT P t with
    | some fs => match op with
      | .eql => eqs P (fun c => K (.bool c)) fs xs ys
      | .neq => eqs P (fun c => K (.bool (!c))) fs xs ys
      | _ => none
    | none => none
  | _, _ => none

def alen (K : Nat → Option ρ) : AV → Option ρ
  | .nils => K 0
  | .sl _ els => K els.length
  | .row _ n => K n
  | .own _ _ n => K n
  | .stk _ _ n => K n
  | _ => none

def shiftP (K : AV → Option ρ) : AV → Nat → Option ρ
  | .ptr id off, k => K (.ptr id (off + k))
  | .pte id i off, k => K (.pte id i (off + k))
  | .pts id v i off, k => K (.pts id v i (off + k))
  | .rptr cs off, k => K (.rptr cs (off + k))
  | _, _ => none

def elemAt (size n : Nat) (els : List (List AV)) (i : Int) (sz : Nat) (K : AV → Option ρ) : Option ρ := match decide (size = sz) && decide (0 < sz) with
  | true => bif decide (0 ≤ i) && decide (i < n) then match nth? els i.toNat with
      | some el => K (.rptr el 0)
      | none => none
    else none
  | false => none

/-- One of the places 0 to n - 1. -/
def splitI (i : Int) (K : Nat → Option ρ) : Nat → Option ρ
  | 0 => none
  | n + 1 => bif decide (i = (n : Int)) then K n else splitI i K n
def arrOf (P : Program) (t : TypeId) : Option (Nat × TypeId) := match P.underlying t with
  | some (.array n e) => some (n, e)
  | _ => none
def indexA (P : Program) (hp : Hp) (t : TypeId) (x : AV) (i : Int) (K : AV → Option ρ) : Option ρ := match elemOf P t with
  | none => match arrOf P t with
    | some p => match decide (0 < P.cellsOf p.2) with
      | true => splitI i (fun k => shiftP K x (k * P.cellsOf p.2)) p.1
      | false => none
    | none => none
  | some e => match x with
    | .sl size els => elemAt size els.length els i (P.cellsOf e) K
    | .row id n => match nth? hp id with
      | some (.row _ size els) => elemAt size n els i (P.cellsOf e) K
      | _ => none
    | .own id off n => match nth? hp id with
      | some (.arr size els) => match decide (size = P.cellsOf e) && decide (0 < size) with
        | true => bif decide (0 ≤ i) && decide (i < n) && decide (off + n ≤ els.length) then K (.pte id (off + i.toNat) 0) else none
        | false => none
      | _ => none
    | .stk id ver n => match nth? hp id with
      | some (.stk v _ size els) => match decide (v = ver) && decide (size = P.cellsOf e) && decide (0 < size) with
        | true => bif decide (0 ≤ i) && decide (i < n) then K (.pts id ver i.toNat 0) else none
        | false => none
      | _ => none
    | _ => none

/-- n elements of a slice as they are now, without objects. -/
def elsOf (hp : Hp) (size : Nat) : AV → Option (List (List AV))
  | .nils => some []
  | .sl s els => match decide (s = size) with | true => some els | false => none
  | .row id n => match nth? hp id with
    | some (.row _ s els) => match decide (s = size) with | true => some (els.take n) | false => none
    | _ => none
  | .own id off n => match nth? hp id with
    | some (.arr s els) => match decide (s = size) with | true => some ((els.drop off).take n) | false => none
    | _ => none
  | .stk id ver n => match nth? hp id with
    | some (.stk v _ s els) => match decide (v = ver) && decide (s = size) with | true => some (els.take n) | false => none
    | _ => none
  | _ => none

def isByte : List AV → Bool
  | [.int .u8 _] => true
  | _ => false
def byteOf : List AV → UInt8
  | [.int .u8 n] => UInt8.ofNat n.toNat
  | _ => 0

/-- The bounds of a slice expression. -/
def bounds (n : Nat) (lo hi : Option AV) (K : Nat → Nat → Option ρ) : Option ρ :=
  match hi with
  | none => match lo with
    | none => K 0 n
    | some (.int _ l) => bif decide (0 ≤ l) && decide (l ≤ n) then K l.toNat n else none
    | _ => none
  | some (.int _ h) => match lo with
    | none => bif decide (0 ≤ h) && decide (h ≤ n) then K 0 h.toNat else none
    | some (.int _ l) => bif decide (0 ≤ h) && decide (h ≤ n) && decide (0 ≤ l) && decide (l ≤ h) then K l.toNat h.toNat else none
    | _ => none
  | _ => none

def cutS (hp : Hp) (x : AV) (sz : Nat) (lo hi : Option AV) (K : AV → Option ρ) : Option ρ := match x with
  | .sl size els => match decide (size = sz) with
    | true => bounds els.length lo hi fun l h => K (.sl size ((els.take h).drop l))
    | false => none
  | .row id n => match nth? hp id with
    | some (.row _ size els) => match decide (size = sz) with
      | true => bounds n lo hi fun l h => K (.sl size (((els.take n).take h).drop l))
      | false => none
    | _ => none
  | .own id off n => match nth? hp id with
    | some (.arr size els) => match decide (size = sz) with
      | true => bounds n lo hi fun l h => K (.own id (off + l) (h - l))
      | false => none
    | _ => none
  | .stk id ver n => match nth? hp id with
    | some (.stk v _ size els) => match decide (v = ver) && decide (size = sz) with
      | true => match lo with
        | none => bounds n none hi fun l h => match l with
          | 0 => K (.stk id ver h)
          | _ + 1 => none
        | some _ => none
      | false => none
    | _ => none
  | _ => none

/-- The parts of a struct, laid into its zero value. -/
def parts (P : Program) (t : TypeId) (tm : Tm) : List AV → List (Nat × Operand) → Option (List AV)
  | cs, [] => some cs
  | cs, (i, x) :: rest => match fieldOf P t i with
    | none => none
    | some (off, ft) => match (ev tm x).cells.all AV.one && decide (off + (ev tm x).cells.length ≤ cs.length) && decide ((ev tm x).cells.length = P.cellsOf ft) with
      | true => parts P t tm (cs.take off ++ ((ev tm x).cells ++ cs.drop (off + (ev tm x).cells.length))) rest
      | false => none

/-- The parts of an array, laid into its zero value. -/
def partsA (sz : Nat) (tm : Tm) : List AV → List (Nat × Operand) → Option (List AV)
  | cs, [] => some cs
  | cs, (i, x) :: rest => match (ev tm x).cells.all AV.one && decide (i * sz + (ev tm x).cells.length ≤ cs.length) && decide ((ev tm x).cells.length = sz) with
    | true => partsA sz tm (cs.take (i * sz) ++ ((ev tm x).cells ++ cs.drop (i * sz + (ev tm x).cells.length))) rest
    | false => none

/-- The elements of a slice literal, in order; zc: of those that are not given. -/
def elems (P : Program) (tys : List TypeId) (hp : Hp) (size : Nat) (tm : Tm) (zc : List AV) : Nat → Nat → List (Nat × Operand) → Option (List (List AV))
  | 0, _, [] => some []
  | 0, _, _ :: _ => none
  | m + 1, k, [] => match elems P tys hp size tm zc m (k + 1) [] with
    | some l => some (zc :: l)
    | none => none
  | m + 1, k, (i, x) :: rest => match decide (i = k) with
    | true => match decide ((ev tm x).cells.length = size) && (ev tm x).cells.all AV.one with
      | true => match closeL hp (norms P tys (ev tm x).cells) with
        | some c => match elems P tys hp size tm zc m (k + 1) rest with
          | some l => some (c :: l)
          | none => none
        | none => none
      | false => none
    | false => match elems P tys hp size tm zc m (k + 1) ((i, x) :: rest) with
      | some l => some (zc :: l)
      | none => none

def mapOf (P : Program) (t : TypeId) : Option (TypeId × TypeId) := match P.underlying t with
  | some (.map k e) => some (k, e)
  | _ => none
def kdOf (P : Program) (kt : TypeId) : Option (Option IntKind) := match P.underlying kt with
  | some (.int k) => some (some k)
  | some .string => some none
  | _ => none
def keyKd : AV → Option (Option IntKind)
  | .int k _ => some (some k)
  | .str _ => some none
  | _ => none
/-- Is a value a key of such maps? -/
def keyOk (P : Program) (kt : TypeId) (kd : Option IntKind) (k : AV) : Bool := decide (kdOf P kt = some kd) && decide (keyKd k = some kd)
def keyB : AV → AV → Bool
  | .int k n, .int k' m => decide (k = k') && decide (n = m)
  | .str s, .str u => s == u
  | _, _ => false
/-- What stands at a key, or what else. -/
def mpLook (z : AV) : List (List AV) → AV → AV
  | [] , _ => z
  | [k', v] :: l, k => bif keyB k k' then v else mpLook z l k
  | _ :: l, k => mpLook z l k
def mpHas : List (List AV) → AV → Bool
  | [], _ => false
  | [k', _] :: l, k => bif keyB k k' then true else mpHas l k
  | _ :: l, k => mpHas l k
/-- The place of a key. -/
def mpIdx : List (List AV) → AV → Nat
  | [], _ => 0
  | [k', _] :: l, k => bif keyB k k' then 0 else mpIdx l k + 1
  | _ :: l, k => mpIdx l k + 1
def mpSet : List (List AV) → AV → AV → List (List AV)
  | [], k, v => [[k, v]]
  | [k', u] :: l, k, v => bif keyB k k' then [k', v] :: l else [k', u] :: mpSet l k v
  | el :: l, k, v => el :: mpSet l k v
/-- With an entry for a key. -/
def mpEnt (z : AV) : List (List AV) → AV → List (List AV)
  | [], k => [[k, z]]
  | [k', u] :: l, k => bif keyB k k' then [k', u] :: l else [k', u] :: mpEnt z l k
  | el :: l, k => el :: mpEnt z l k
def mpPut : List (List AV) → Nat → AV → List (List AV)
  | [], _, _ => []
  | [k', _] :: l, 0, v => [k', v] :: l
  | el :: l, 0, _ => el :: l
  | el :: l, n + 1, v => el :: mpPut l n v
/-- The entries of a map. -/
def entsOf (hp : Hp) : AV → Option (Option IntKind × List (List AV))
  | .mapp id => match nth? hp id with
    | some (.mp kd _ els) => some (kd, els)
    | some (.mpo kd els) => some (kd, els)
    | _ => none
  | .mcl kd els => some (kd, els)
  | .mfn kd els => some (kd, els)
  | _ => none
def isFn (P : Program) (t : TypeId) : Bool := match P.underlying t with
  | some (.func ..) => true
  | _ => false
/-- A lookup, plainly. -/
def lookupB (P : Program) (hp : Hp) (t : TypeId) (m k : AV) (ok : Bool) (K : AV → Option ρ) : Option ρ := match mapOf P t with
  | some (kt, et) => match zero P et with
    | some z => match z.one with
      | true => match entsOf hp m with
        | some (kd, els) => match keyOk P kt kd k with
          | true => match ok with
            | true => K (.tup [mpLook z els k, .bool (mpHas els k)])
            | false => K (mpLook z els k)
          | false => none
        | none => none
      | false => none
    | none => none
  | none => none
def keyK (K K' : Option ρ) : AV → AV → Option ρ
  | .int k n, .int k' m => match decide (k = k') with
    | true => bif decide (n = m) then K else K'
    | false => K'
  | .str s, .str u => bif s == u then K else K'
  | _, _ => K'
/-- A lookup, entry by entry. -/
def lookF (z : AV) (K : AV → Bool → Option ρ) : List (List AV) → AV → Option ρ
  | [], _ => K z false
  | [k', v] :: l, k => keyK (K v true) (lookF z K l k) k k'
  | _ :: l, k => lookF z K l k
def openM (hp : Hp) : AV → Bool
  | .mapp id => match nth? hp id with
    | some (.mpo _ _) => true
    | _ => false
  | .mfn _ _ => true
  | _ => false
def lookupA (P : Program) (hp : Hp) (t : TypeId) (m k : AV) (ok : Bool) (K : AV → Option ρ) : Option ρ := force1 (fun k => match mapOf P t with
  | some (kt, et) => match zero P et with
    | some z => force1 (fun z => match z.one with
      | true => match entsOf hp m with
        | some (kd, els) => match keyOk P kt kd k with
          | true => match openM hp m with
            | true => match ok with
              | true => lookF z (fun v b => K (.tup [v, .bool b])) els k
              | false => lookF z (fun v _ => K v) els k
            | false => match ok with
              | true => K (.tup [mpLook z els k, .bool (mpHas els k)])
              | false => K (mpLook z els k)
          | false => none
        | none => none
      | false => none) z
    | none => none
  | none => none) k
def isIface (P : Program) (t : TypeId) : Option Bool := match P.underlying t with
  | some (.interface _) => some true
  | some _ => some false
  | none => none
def assertA (P : Program) (a : TypeId) (ok : Bool) (x : AV) (K : AV → Option ρ) : Option ρ := match isIface P a with
  | some false => match x with
    | .ifc t v => match decide (t = a) with
      | true => match ok with
        | true => K (.tup [v, .bool true])
        | false => K v
      | false => match ok with
        | true => match zero P a with
          | some z => K (.tup [z, .bool false])
          | none => none
        | false => none
    | .nili => match ok with
      | true => match zero P a with
        | some z => K (.tup [z, .bool false])
        | none => none
      | false => none
    | _ => none
  | _ => none
/-- Operations that leave the objects alone: their value. -/
def pureOp (P : Program) (tm : Tm) (hp : Hp) (o : Op) (K : AV → Option ρ) : Option ρ := match o with
  | .move x => K (ev tm x)
  | .assign x => K (ev tm x)
  | .pick c a b => match ev tm c with
    | .bool t => bif t then K (ev tm a) else K (ev tm b)
    | _ => none
  | .binOp op t x y _ => binop P t op K (ev tm x) (ev tm y)
  | .unOp .not _ x => match ev tm x with
    | .bool b => K (.bool (!b))
    | _ => none
  | .unOp .neg _ x => match ev tm x with
    | .int k n => K (.int k (k.wrap (0 - n)))
    | _ => none
  | .convert src dst x => match P.underlying dst with
    | some (.int k) => match (P.underlying src).isSome with
      | true => match ev tm x with
        | .int _ n => K (.int k (k.wrap n))
        | _ => none
      | false => none
    | some .string => match P.underlying src with
      | some (.int _) => match ev tm x with
        | .int _ n => bif decide (0 ≤ n) && decide (n < 128) then K (.str [UInt8.ofNat n.toNat]) else none
        | _ => none
      | some (.slice et) => match P.underlying et with
        | some (.int .u8) => match elsOf hp 1 (ev tm x) with
          | some els => bif els.all isByte && decide (els.length ≤ 140737488355328) then K (.str (els.map byteOf)) else none
          | none => none
        | _ => none
      | _ => none
    | _ => none
  | .nilCheck x => match ev tm x with
    | .ptr id off => K (.ptr id off)
    | .pte id i off => K (.pte id i off)
    | .pts id v i off => K (.pts id v i off)
    | .rptr el off => K (.rptr el off)
    | .func f a b => K (.func f a b)
    | _ => none
  | .build t ps => match P.underlying t with
    | some (.struct fs) => match fs.toList.all (fun f => (P.info? f.type).isSome) with
      | true => match zero P t with
        | some (.agg z) => match parts P t tm z ps.toList with
          | some cs => K (.agg cs)
          | none => none
        | _ => none
      | false => none
    | some (.array _ et) => match (P.info? et).isSome with
      | true => match zero P t with
        | some (.agg z) => match partsA (P.cellsOf et) tm z ps.toList with
          | some cs => K (.agg cs)
          | none => none
        | _ => none
      | false => none
    | _ => none
  | .buildSlice t n ps => match elemOf P t with
    | some e => match decide (n * P.cellsOf e ≤ 16777216) with
      | true => match zero P e with
        | some z => match decide (z.cells.length = P.cellsOf e) && z.cells.all AV.one && decide (0 < P.cellsOf e) with
          | true => match closeL [] (norms P (cellTys P 6 e) z.cells) with
            | some zc => match elems P (cellTys P 6 e) hp (P.cellsOf e) tm zc n 0 ps.toList with
              | some els => K (.sl (P.cellsOf e) els)
              | none => none
            | none => none
          | false => none
        | none => none
      | false => none
    | none => none
  | .makeSlice t n c => match elemOf P t with
    | some e => match ev tm n with
      | .int .i64 l => match ev tm c with
        | .int .i64 l' => match zero P e with
          | some z => match decide (z.cells.length = P.cellsOf e) && z.cells.all AV.one with
            | true => match closeL [] (norms P (cellTys P 6 e) z.cells) with
              | some zc => bif decide (0 ≤ l) && decide (l = l') && decide (P.bytesOf e * l ≤ 140737488355328) then
                K (.sl (P.cellsOf e) (List.replicate l.toNat zc)) else none
              | none => none
            | false => none
          | none => none
        | _ => none
      | _ => none
    | none => none
  | .load t a => load P hp t K (ev tm a)
  | .fieldAddr t a f => match fieldOf P t f with
    | some p => match decide (0 < P.cellsOf p.2) with
      | true => shiftP K (ev tm a) p.1
      | false => none
    | none => none
  | .field t x f => match fieldOf P t f with
    | some p => match ev tm x with
      | .agg cs => sub cs p.1 (P.cellsOf p.2) fun cs => mkAgg (aggOf P p.2) cs K
      | _ => none
    | none => none
  | .indexAddr t x i => match ev tm i with
    | .int _ i => indexA P hp t (ev tm x) i K
    | _ => none
  | .index t x i => match ev tm i with
    | .int _ i => match P.underlying t with
     | some .string => match ev tm x with
      | .str s => bif decide (0 ≤ i) && decide (i < s.length) then match nth? s i.toNat with
          | some b => K (.int .u8 b.toNat)
          | none => none
        else none
      | _ => none
     | some (.array n et) => match ev tm x with
      | .agg cs => splitI i (fun k => sub cs (k * P.cellsOf et) (P.cellsOf et) fun cs => mkAgg (aggOf P et) cs K) n
      | _ => none
     | _ => none
    | _ => none
  | .slice t x lo hi none => match P.underlying t with
    | some .string => match ev tm x with
      | .str s => bounds s.length (lo.map (ev tm)) (hi.map (ev tm)) fun l h => K (.str ((s.take h).drop l))
      | _ => none
    | some (.slice et) => match decide (0 < P.cellsOf et) with
      | true => cutS hp (ev tm x) (P.cellsOf et) (lo.map (ev tm)) (hi.map (ev tm)) K
      | false => none
    | _ => none
  | .extract t k => match ev tm t with
    | .tup cs => match nth? cs k with
      | some v => K v
      | none => none
    | _ => none
  | .makeFunc (.func f) a b => K (.func f (a.toList.map (ev tm)) (b.toList.map (ev tm)))
  | .call c => match c.callee with
    | .builtin .len => match c.args with
      | ⟨[x]⟩ => match c.argTypes with
        | ⟨[t]⟩ => match P.underlying t with
          | some .string => match ev tm x with
            | .str s => K (.int .i64 s.length)
            | _ => none
          | some (.slice _) => alen (fun n => K (.int .i64 n)) (ev tm x)
          | _ => none
        | _ => none
      | _ => none
    | .builtin .min => match c.args with
      | ⟨[x, y]⟩ => match ev tm x with
        | .int k a => match ev tm y with
          | .int k' b => match decide (k = k') with
            | true => K (.int k (if b < a then b else a))
            | false => none
          | _ => none
        | _ => none
      | ⟨[x, y, z]⟩ => match ev tm x with
        | .int k a => match ev tm y with
          | .int k' b => match ev tm z with
            | .int k2 c => match decide (k = k') && decide (k = k2) with
              | true => K (.int k (min3 a b c))
              | false => none
            | _ => none
          | _ => none
        | _ => none
      | _ => none
    | .builtin .max => match c.args with
      | ⟨[x, y]⟩ => match ev tm x with
        | .int k a => match ev tm y with
          | .int k' b => match decide (k = k') with
            | true => K (.int k (if a < b then b else a))
            | false => none
          | _ => none
        | _ => none
      | ⟨[x, y, z]⟩ => match ev tm x with
        | .int k a => match ev tm y with
          | .int k' b => match ev tm z with
            | .int k2 c => match decide (k = k') && decide (k = k2) with
              | true => K (.int k (max3 a b c))
              | false => none
            | _ => none
          | _ => none
        | _ => none
      | _ => none
    | _ => none
  | .lookup t m x ok => lookupA P hp t (ev tm m) (ev tm x) ok K
  | .makeInterface t x => match isIface P t with
    | some false => match close hp (ev tm x) with
      | some a => K (.ifc t a)
      | none => none
    | _ => none
  | .typeAssert x _ a ok => assertA P a ok (ev tm x) K
  | _ => none

/-- The calls; true: the callee's objects are left. -/
abbrev CallT := Bool → FuncId → List AV → Hp → Option (AV × Hp)

def updL (l : List AV) (off : Nat) (xs : List AV) : List AV := l.take off ++ (xs ++ l.drop (off + xs.length))

def objAt (H : Hints) (f : FuncId) (d : Option Tmp) : Bool := match d with
  | some d => H.obj f d
  | none => false

def arrAt (H : Hints) (f : FuncId) (d : Option Tmp) : Bool := match d with
  | some d => H.arr f d
  | none => false
def stkAt (H : Hints) (f : FuncId) (d : Option Tmp) : Bool := match d with
  | some d => H.stk f d
  | none => false
/-- What is left of a stack. -/
def cutK (b : Bool) (hp : Hp) (K : AV → Hp → Option ρ) (v : AV) : Option ρ := match b with
  | false => K v hp
  | true => match v with
    | .stk id ver n => match nth? hp id with
      | some (.stk v e size els) => match decide (v = ver) with
        | true => forceHp (K (.stk id (ver + 1) n)) (setNth hp id (.stk (ver + 1) e size (els.take n)))
        | false => none
      | _ => none
    | _ => none
/-- A slice that was just made, as an object. -/
def asOb (P : Program) (t : TypeId) (row arr : Bool) (hp : Hp) (K : AV → Hp → Option ρ) (v : AV) : Option ρ := match row with
  | true => match elemOf P t with
    | some e => match v with
      | .sl size els => match decide (size = P.cellsOf e) && decide (0 < size) with
        | true => match arr with
          | true => forceHp (fun hp' => K (.stk hp.length 0 els.length) hp') (hp ++ [.stk 0 e size els])
          | false => forceHp (fun hp' => K (.row hp.length els.length) hp') (hp ++ [.row e size els])
        | false => none
      | _ => none
    | none => none
  | false => match arr with
    | true => match v with
      | .sl size els => forceHp (fun hp' => K (.own hp.length 0 els.length) hp') (hp ++ [.arr size els])
      | _ => none
    | false => K v hp

def adoAt (H : Hints) (f : FuncId) (d : Option Tmp) : Bool := match d with
  | some d => H.ado f d
  | none => false
/-- A value whose objects stand behind k others. -/
def shift1 (k : Nat) : AV → AV
  | .ptr id off => .ptr (k + id) off
  | .pte id i off => .pte (k + id) i off
  | .row id n => .row (k + id) n
  | .own id off n => .own (k + id) off n
  | .stk id v n => .stk (k + id) v n
  | .pts id v i off => .pts (k + id) v i off
  | .mapp id => .mapp (k + id)
  | .func f [] [] => .func f [] []
  | .func _ _ _ => .junk
  | .agg _ => .junk
  | .tup _ => .junk
  | .mfn _ _ => .junk
  | a => a
def shift2 (k : Nat) : AV → AV
  | .agg cs => .agg (cs.map (shift1 k))
  | .func f a b => .func f (a.map (shift1 k)) (b.map (shift1 k))
  | a => shift1 k a
def shiftV (k : Nat) : AV → AV
  | .tup cs => .tup (cs.map (shift2 k))
  | .mfn kd els => .mfn kd (els.map (List.map (shift2 k)))
  | a => shift2 k a
def shiftOb (k : Nat) : Ob → Ob
  | .var t cs => .var t (cs.map (shift2 k))
  | .mpo kd els => .mpo kd (els.map (List.map (shift2 k)))
  | o => o
/-- The rows for the nil slices of variables. -/
def upsCells (P : Program) (z : Nat → Bool) : Nat → List TypeId → List AV → List AV × List Ob
  | n, t :: ts, .nils :: l => match elemOf P t with
    | some e => match decide (0 < P.cellsOf e) with
      | true => match z (P.cellsOf e) with
        | true => (.sl (P.cellsOf e) [] :: (upsCells P z n ts l).1, (upsCells P z n ts l).2)
        | false => (.row n 0 :: (upsCells P z (n + 1) ts l).1, .row e (P.cellsOf e) [] :: (upsCells P z (n + 1) ts l).2)
      | false => (.nils :: (upsCells P z n ts l).1, (upsCells P z n ts l).2)
    | none => (.nils :: (upsCells P z n ts l).1, (upsCells P z n ts l).2)
  | n, _ :: ts, a :: l => (a :: (upsCells P z n ts l).1, (upsCells P z n ts l).2)
  | _, _, l => (l, [])
def upsObs (P : Program) (z : Nat → Bool) : Nat → List Ob → List Ob × List Ob
  | n, .var t cs :: l =>
    (.var t (upsCells P z n (cellTys P 6 t) cs).1 :: (upsObs P z (n + (upsCells P z n (cellTys P 6 t) cs).2.length) l).1,
     (upsCells P z n (cellTys P 6 t) cs).2 ++ (upsObs P z (n + (upsCells P z n (cellTys P 6 t) cs).2.length) l).2)
  | n, o :: l => (o :: (upsObs P z n l).1, (upsObs P z n l).2)
  | _, [] => ([], [])
/-- z: of elements of so many cells no nil slice becomes a row. -/
def upsHp (P : Program) (z : Nat → Bool) (b : Bool) (hp : Hp) : Hp := match b with
  | true => (upsObs P z hp.length hp).1 ++ (upsObs P z hp.length hp).2
  | false => hp

/-- A call that sees some of the objects alone. -/
def subCall (P : Program) (call : CallT) (g : FuncId) (hp : Hp) (ids : List Nat) (as : List AV) (K : AV → Hp → Option ρ) : Option ρ :=
  forceL force2 (fun as => forceHp (fun hpR => match call false g as hpR with
    | some (v, hpn) => match decide (hpn.length = ids.length) with
      | true => forceHp (K (ren3 (nth? ids) v)) (backHp P ids ids hpn hp)
      | false => none
    | none => none) (subHp P (findN ids 0) hp ids)) (as.map (ren2 (findN ids 0)))
/-- nr: growing rows are handed on as they are. -/
def shutF (nr : Bool) (hp : Hp) (a : AV) : AV := match nr with
  | true => a
  | false => shut2 hp a
def callSub (P : Program) (call : CallT) (g : FuncId) (nr : Bool) (raw : List AV) (hp : Hp) (K : AV → Hp → Option ρ) : Option ρ := match idB hp.length (idsL ids2 raw) with
  | true => forceL force2 (fun as => match reach hp 64 (idsL ids2 as) [] with
    | some ids => forceN (fun ids => subCall P call g hp ids as K) ids
    | none => none) (raw.map (shutF nr hp))
  | false => none
def qA (ids : List Nat) (m k : Nat) : Option Nat := match nth? ids k with
  | some i => some i
  | none => some (m + (k - ids.length))
def backQ (P : Program) (q : Nat → Option Nat) : List Nat → Hp → Hp → Hp
  | id :: l, o :: hpn, hp => backQ P q l hpn (setNth hp id (renOb P q o))
  | [], hpn, hp => hp ++ hpn.map (renOb P q)
  | _ :: _, [], hp => hp
def subCallA (P : Program) (call : CallT) (g : FuncId) (hp : Hp) (ids : List Nat) (as : List AV) (K : AV → Hp → Option ρ) : Option ρ :=
  forceL force2 (fun as => forceHp (fun hpR => match call true g as hpR with
    | some (v, hpn) => match decide (ids.length ≤ hpn.length) with
      | true => forceHp (K (ren3 (qA ids hp.length) v)) (backQ P (qA ids hp.length) ids hpn hp)
      | false => none
    | none => none) (subHp P (findN ids 0) hp ids)) (as.map (ren2 (findN ids 0)))
def callSubA (P : Program) (call : CallT) (g : FuncId) (raw : List AV) (hp : Hp) (K : AV → Hp → Option ρ) : Option ρ := match idB hp.length (idsL ids2 raw) with
  | true => forceL force2 (fun as => match reach hp 64 (idsL ids2 as) [] with
    | some ids => forceN (fun ids => subCallA P call g hp ids as K) ids
    | none => none) (raw.map (shut2 hp))
  | false => none
def isTmp : Operand → Bool
  | .tmp _ => true
  | _ => false
/-- Does a call see the caller's objects? -/
def inlAt (H : Hints) (f : FuncId) (fo : Operand) (g : FuncId) : Bool := H.inl f g || (isTmp fo && H.ind f)
def upcAt (H : Hints) (f : FuncId) (fo : Operand) (g : FuncId) : Bool := H.upc f g && !isTmp fo
/-- A value that is laid into a map: another map stays as it is from then on. -/
def mapVal (hp : Hp) : AV → Option (AV × Hp)
  | .mapp id => match nth? hp id with
    | some (.mp kd _ els) => some (.mcl kd els, setNth hp id (.mp kd true els))
    | _ => none
  | a => match close1 hp a with
    | some v => some (v, hp)
    | none => none
def updB (P : Program) (hp : Hp) (t : TypeId) (m k x : AV) (K : AV → Hp → Option ρ) : Option ρ := match mapOf P t with
  | some (kt, _) => match m with
    | .mapp id => match nth? hp id with
      | some (.mp kd false _) => match keyOk P kt kd k with
        | true => match mapVal hp x with
          | some (v, hp') => match nth? hp' id with
            | some (.mp kd' false els) => match decide (kd' = kd) with
              | true => forceHp (K .junk) (setNth hp' id (.mp kd false (mpSet els k v)))
              | false => none
            | _ => none
          | none => none
        | false => none
      | some (.mpo kd els) => match keyOk P kt kd k && x.one with
        | true => forceHp (K .junk) (setNth hp id (.mpo kd (mpSet els k x)))
        | false => none
      | _ => none
    | _ => none
  | none => none
def updA (P : Program) (hp : Hp) (t : TypeId) (m k x : AV) (K : AV → Hp → Option ρ) : Option ρ := force1 (fun k => updB P hp t m k x K) k
def entB (P : Program) (hp : Hp) (t : TypeId) (m k : AV) (K : AV → Hp → Option ρ) : Option ρ := match mapOf P t with
  | some (kt, et) => match zero P et with
    | some z => match close1 [] z with
      | some z => match m with
        | .mapp id => match nth? hp id with
          | some (.mp kd false els) => match keyOk P kt kd k with
            | true => bif decide (els.length ≤ 140737488355328) then forceHp (K (.tup [mpLook z els k, .int .i64 (mpIdx els k : Nat)])) (setNth hp id (.mp kd false (mpEnt z els k))) else none
            | false => none
          | _ => none
        | _ => none
      | none => none
    | none => none
  | none => none
def entA (P : Program) (hp : Hp) (t : TypeId) (m k : AV) (K : AV → Hp → Option ρ) : Option ρ := force1 (fun k => entB P hp t m k K) k
def entPut (hp : Hp) (m s x : AV) (K : AV → Hp → Option ρ) : Option ρ := match m with
  | .mapp id => match nth? hp id with
    | some (.mp kd false els) => match s with
      | .int .i64 n => match close1 hp x with
        | some v => bif decide (0 ≤ n) && decide (n < (els.length : Int)) then forceHp (K .junk) (setNth hp id (.mp kd false (mpPut els n.toNat v))) else none
        | none => none
      | _ => none
    | _ => none
  | _ => none
/-- The kind of a cell that is no memory of its own. -/
def kd1 : AV → Nat
  | .int _ _ => 1
  | .str _ => 2
  | .bool _ => 3
  | _ => 0
def eqL : List Nat → List Nat → Bool
  | [], [] => true
  | a :: l, b :: m => match Nat.beq a b with
    | true => eqL l m
    | false => false
  | _, _ => false
def kindE (pat : List Nat) (el : List AV) : Bool := eqL (el.map kd1) pat
def kindsE (pat : List Nat) (els : List (List AV)) : Bool := els.all (kindE pat)
def noZ : List Nat → Bool
  | [] => true
  | k :: l => match Nat.beq k 0 with
    | true => false
    | false => noZ l
def kindT (P : Program) (t : TypeId) : Nat := match P.underlying t with
  | some (.int _) => 1
  | some .string => 2
  | some .bool => 3
  | _ => 0
def elemK (P : Program) (t : TypeId) : List Nat := match elemOf P t with
  | some e => (cellTys P 9 e).map (kindT P)
  | none => []
def pairs1 (a : Nat) : List Nat → Nat → List (Nat × Nat)
  | [], z => [(a, z)]
  | b :: l, z => (a, b) :: pairs1 b l z
/-- Pairs of cells that lie one behind the other in a row of such elements. -/
def cycP : List Nat → List (Nat × Nat)
  | [] => []
  | a :: l => pairs1 a l a
def notin (q : Nat × Nat) : List (Nat × Nat) → Bool
  | [] => true
  | r :: l => match Nat.beq q.1 r.1 && Nat.beq q.2 r.2 with
    | true => false
    | false => notin q l
def somewhere (l : List (Nat × Nat)) : Nat → List Nat → Bool
  | _, [] => false
  | a, b :: m => match notin (a, b) l with
    | true => true
    | false => somewhere l b m
/-- Some two cells of an element lie nowhere in a row of the others. -/
def apartK (p q : List Nat) : Bool := match p with
  | [] => false
  | a :: l => somewhere (cycP q) a l
def thawR (P : Program) (g : FuncId) (as : List AV) (r : Option (AV × Hp)) : Option (AV × Hp) := match P.funcs[g]? with
  | some fn => match r with
    | some (.tup (.sl size els :: rest), []) => match as with
      | .sl sz els' :: more => match (apartK (elemK P (nth 0 fn.resultTypes.toList 0)) (elemK P (nth 0 fn.params.toList 0)) && (noZ (elemK P (nth 0 fn.resultTypes.toList 0)) && noZ (elemK P (nth 0 fn.params.toList 0)))) && (decide (size = (elemK P (nth 0 fn.resultTypes.toList 0)).length) && (decide (sz = (elemK P (nth 0 fn.params.toList 0)).length) && (rest.all flat1 && more.all flat1))) with
        | true => bif kindsE (elemK P (nth 0 fn.resultTypes.toList 0)) els && kindsE (elemK P (nth 0 fn.params.toList 0)) els' then (bif decide (els.length = 0) then some (.tup (.sl size els :: rest), []) else some (.tup (.own 0 0 els.length :: rest), [.arr size els])) else none
        | false => none
      | _ => none
    | _ => none
  | none => none
/-- A closed call whose objects are left; or whose row is the caller's. -/
def adoCall (P : Program) (b : Bool) (call : CallT) (g : FuncId) (as : List AV) : Option (AV × Hp) := match b with
  | true => thawR P g as (call false g as [])
  | false => call true g as []
def resOk (tm : Tm) : Option Operand → Bool
  | none => true
  | some x => match ev tm x with
    | .int _ _ => true
    | _ => false
/-- A nil slice, as it is or as a row of nothing. -/
def nilAs (P : Program) (b : Bool) (t : TypeId) : AV := match b with
  | true => norm1 P t .nils
  | false => .nils
/-- What an operation yields, and what becomes of the objects. -/
def stepV (P : Program) (H : Hints) (call : CallT) (f : FuncId) (o : Oper) (tm : Tm) (hp : Hp) (K : AV → Hp → Option ρ) : Option ρ := match o.op with
  | .assign x => match ev tm x with
    | .nils => match objAt H f o.dst with
        | true => match elemOf P o.type with
          | some e => match decide (0 < P.cellsOf e) with
            | true => forceHp (fun hp' => K (.row hp.length 0) hp') (hp ++ [.row e (P.cellsOf e) []])
            | false => none
          | none => none
        | false => match stkAt H f o.dst with
          | true => match elemOf P o.type with
            | some e => match decide (0 < P.cellsOf e) with
              | true => forceHp (fun hp' => K (.stk hp.length 0 0) hp') (hp ++ [.stk 0 e (P.cellsOf e) []])
              | false => none
            | none => none
          | false => K (nilAs P (adoAt H f o.dst) o.type) hp
    | _ => K (ev tm x) hp
  | .buildSlice t n ps => pureOp P tm hp (.buildSlice t n ps) fun v => asOb P t (objAt H f o.dst) (arrAt H f o.dst) hp K v
  | .makeSlice t n c => pureOp P tm hp (.makeSlice t n c) fun v => asOb P t (objAt H f o.dst) (arrAt H f o.dst) hp K v
  | .alloc e => match zero P e with
    | some z => match decide (z.cells.length = P.cellsOf e) && z.cells.all AV.one with
      | true => forceHp (fun hp' => K (.ptr hp.length 0) hp') (hp ++ [.var e z.cells])
      | false => none
    | none => none
  | .box e x => match (ev tm x).cells.all AV.one with
    | true => forceHp (fun hp' => K (.ptr hp.length 0) hp') (hp ++ [.var e (ev tm x).cells])
    | false => none
  | .store t a x => match decide ((ev tm x).cells.length = P.cellsOf t) && decide (0 < P.cellsOf t) && (ev tm x).cells.all AV.one with
    | true => match ev tm a with
      | .ptr id off => match nth? hp id with
        | some (.var e cs) => bif decide (off + P.cellsOf t ≤ cs.length) then forceHp (K .junk) (setNth hp id (.var e (updL cs off (ev tm x).cells))) else none
        | _ => none
      | .pte id i off => match nth? hp id with
        | some (.arr size els) => match nth? els i with
          | some el => match closeL hp (ev tm x).cells with
            | some c => bif decide (off + P.cellsOf t ≤ el.length) then forceHp (K .junk) (setNth hp id (.arr size (setNth els i (updL el off c)))) else none
            | none => none
          | none => none
        | _ => none
      | .pts id ver i off => match nth? hp id with
        | some (.stk v e size els) => match decide (v = ver) with
          | true => match nth? els i with
            | some el => match closeL hp (ev tm x).cells with
              | some c => bif decide (off + P.cellsOf t ≤ el.length) then forceHp (K .junk) (setNth hp id (.stk v e size (setNth els i (updL el off c)))) else none
              | none => none
            | none => none
          | false => none
        | _ => none
      | _ => none
    | false => none
  | .call c => match c.callee with
    | .value fo => match ev tm fo with
      | .func g a b => match H.good.contains g with
        | true => match inlAt H f fo g with
          | true => match adoAt H f o.dst with
            | true => forceHp (fun hp => callSubA P call g (a ++ normArgs P c.argTypes.toList (c.args.toList.map (ev tm)) ++ b) hp K) (upsHp P (fun _ => false) (upcAt H f fo g) hp)
            | false => forceHp (fun hp => callSub P call g (H.raw g) (a ++ normArgs P c.argTypes.toList (c.args.toList.map (ev tm)) ++ b) hp K) (upsHp P (fun _ => false) (upcAt H f fo g) hp)
          | false => match adoAt H f o.dst with
           | true => match closeArgs hp (a ++ normArgs P c.argTypes.toList (c.args.toList.map (ev tm)) ++ b) with
             | some as => match adoCall P (arrAt H f o.dst) call g as with
               | some (v, hpn) => forceHp (fun hp' => K (shiftV hp.length v) hp') (hp ++ hpn.map (shiftOb hp.length))
               | none => none
             | none => none
           | false => match anyOwn (a ++ normArgs P c.argTypes.toList (c.args.toList.map (ev tm)) ++ b) with
            | false => match closeArgs hp (a ++ normArgs P c.argTypes.toList (c.args.toList.map (ev tm)) ++ b) with
              | some as => match call false g as [] with
                | some (v, []) => K v hp
                | _ => none
              | none => none
            | true => match closeOArgs hp (a ++ normArgs P c.argTypes.toList (c.args.toList.map (ev tm)) ++ b) with
              | some as => match call false g as [] with
                | some (v, []) => match flat v with
                  | true => K v hp
                  | false => none
                | _ => none
              | none => none
        | false => none
      | _ => none
    | .builtin .copy => match c.args with
      | ⟨[d, x]⟩ => match c.argTypes with
        | ⟨[t, _]⟩ => match elemOf P t with
          | some e => match ev tm d with
            | .own id off n => match nth? hp id with
              | some (.arr size els) => match decide (size = P.cellsOf e) && decide (0 < size) with
                | true => match elsOf hp size (ev tm x) with
                  | some news => bif decide (off + n ≤ els.length) then forceHp (K (.int .i64 ((Nat.min news.length n : Nat) : Int))) (setNth hp id (.arr size (els.take off ++ (news.take n ++ els.drop (off + Nat.min news.length n))))) else none
                  | none => none
                | false => none
              | _ => none
            | _ => none
          | none => none
        | _ => none
      | _ => none
    | .builtin .append => match c.args with
      | ⟨[s, x]⟩ => match c.argTypes with
        | ⟨[t, t']⟩ => match decide (t = t') with
          | true => match elemOf P t with
            | some e => match zero P e with
              | some z => match decide (z.cells.length = P.cellsOf e) && z.cells.all AV.one && decide (0 < P.cellsOf e) with
                | true => match elsOf hp (P.cellsOf e) (ev tm x) with
                  | some news => match ev tm s with
                    | .nils => bif decide (news.length * (P.bytesOf e + 1) ≤ 140737488355328) then match arrAt H f o.dst with
                      | false => match objAt H f o.dst with
                       | false => K (.sl (P.cellsOf e) news) hp
                       | true => forceHp (fun hp' => K (.row hp.length news.length) hp') (hp ++ [.row e (P.cellsOf e) news])
                      | true => bif decide (news.length = 0) then K .nils hp else forceHp (fun hp' => K (.own hp.length 0 news.length) hp') (hp ++ [.arr (P.cellsOf e) news]) else none
                    | .row id n => match nth? hp id with
                      | some (.row e' size els) => match decide (e' = e) && decide (size = P.cellsOf e) with
                        | true => bif decide (n = els.length) && decide ((els.length + news.length) * (P.bytesOf e + 1) ≤ 140737488355328) then
                          forceHp (K (.row id (els.length + news.length))) (setNth hp id (.row e (P.cellsOf e) (els ++ news))) else none
                        | false => none
                      | _ => none
                    | .stk id ver n => match nth? hp id with
                      | some (.stk v e' size els) => match stkAt H f o.dst && (decide (v = ver) && decide (e' = e) && decide (size = P.cellsOf e)) with
                        | true => bif decide (n = els.length) && decide ((els.length + news.length) * (P.bytesOf e + 1) ≤ 140737488355328) then
                          forceHp (K (.stk id (ver + 1) (els.length + news.length))) (setNth hp id (.stk (ver + 1) e (P.cellsOf e) (els ++ news))) else none
                        | false => none
                      | _ => none
                    | _ => none
                  | none => none
                | false => none
              | none => none
            | none => none
          | false => none
        | _ => none
      | _ => none
    | _ => pureOp P tm hp o.op fun v => K v hp
  | .slice t x lo hi mx => pureOp P tm hp (.slice t x lo hi mx) fun v => cutK (stkAt H f o.dst) hp K v
  | .makeMap t r => match mapOf P t with
    | some (kt, et) => match resOk tm r with
      | true => match kdOf P kt with
        | some kd => match isFn P et with
          | true => forceHp (fun hp' => K (.mapp hp.length) hp') (hp ++ [.mpo kd []])
          | false => forceHp (fun hp' => K (.mapp hp.length) hp') (hp ++ [.mp kd false []])
        | none => none
      | false => none
    | none => none
  | .mapUpdate t m k x => updA P hp t (ev tm m) (ev tm k) (ev tm x) K
  | .insert t m k x => updA P hp t (ev tm m) (ev tm k) (ev tm x) K
  | .mapEntry t m k => entA P hp t (ev tm m) (ev tm k) K
  | .entryStore _ m s x => entPut hp (ev tm m) (ev tm s) (ev tm x) K
  | op => pureOp P tm hp op fun v => K v hp

def put (tm : Tm) (d : Option Tmp) (v : AV) : Tm := match d with
  | some d => setNth tm d v
  | none => tm

/-- One operation, then the others. -/
def opThen (P : Program) (H : Hints) (call : CallT) (f : FuncId) (ops : List Oper) (o : Oper) (rest : Tm → Hp → (Tm → Hp → Option ρ) → Option ρ) (tm : Tm) (hp : Hp) (K : Tm → Hp → Option ρ) : Option ρ := match o.guard with
    | none => stepV P H call f o tm hp fun v hp => putK tm o.dst v fun tm => rest tm hp K
    | some (j, want) => match (nth? ops j).bind (·.dst) with
      | none => none
      | some t => match nth .junk tm t with
        | .bool b => match want with
          | true => bif b then stepV P H call f o tm hp (fun v hp => putK tm o.dst v fun tm => rest tm hp K) else (putK tm o.dst (.tup []) fun tm => rest tm hp K)
          | false => bif b then (putK tm o.dst (.tup []) fun tm => rest tm hp K) else stepV P H call f o tm hp (fun v hp => putK tm o.dst v fun tm => rest tm hp K)
        | .tup [] => putK tm o.dst (.tup []) fun tm => rest tm hp K
        | _ => none
/-- One operation after the other. (By the recursor itself: what the kernel and the elaborator unfold is then alike.) -/
noncomputable def runOps (P : Program) (H : Hints) (call : CallT) (f : FuncId) (ops : List Oper) (l : List Oper) : Tm → Hp → (Tm → Hp → Option ρ) → Option ρ :=
  @List.rec Oper (fun _ => Tm → Hp → (Tm → Hp → Option ρ) → Option ρ) (fun tm hp K => K tm hp) (fun o _ ih => opThen P H call f ops o ih) l

inductive Cls where
  | P | R | C | A | G | W | S
  deriving DecidableEq

def nilArg : List Operand → Bool
  | .const (.slice none 0 0) :: _ => true
  | _ => false
def cls (H : Hints) (f : FuncId) (o : Oper) : Cls := match o.op with
  | .assign _ => match objAt H f o.dst with
    | true => .A
    | false => match stkAt H f o.dst with
      | true => .W
      | false => .P
  | .alloc _ | .box _ _ => .A
  | .load _ _ | .indexAddr _ _ _ => .R
  | .store _ _ _ => .S
  | .convert _ _ _ => .C
  | .buildSlice _ _ _ => match objAt H f o.dst || arrAt H f o.dst with
    | true => .A
    | false => .C
  | .makeSlice _ _ _ => match objAt H f o.dst || arrAt H f o.dst with
    | true => .A
    | false => .P
  | .slice _ _ _ _ _ => match stkAt H f o.dst with
    | true => .W
    | false => .C
  | .call c => match c.callee with
    | .value (.func g) => match H.inl f g with
      | true => match H.upc f g || adoAt H f o.dst with
        | true => .W
        | false => .S
      | false => match adoAt H f o.dst with
        | true => .A
        | false => .C
    | .value (.tmp _) => match H.ind f && !adoAt H f o.dst with
      | true => .S
      | false => .W
    | .builtin .append => match stkAt H f o.dst with
      | true => .W
      | false => match objAt H f o.dst || arrAt H f o.dst || !nilArg c.args.toList with
        | true => .G
        | false => .C
    | .builtin .copy => .S
    | .builtin .len => .P
    | .builtin .min => .P
    | .builtin .max => .P
    | _ => .W
  | .move _ | .pick _ _ _ | .binOp _ _ _ _ _ | .unOp _ _ _ | .nilCheck _ | .build _ _ | .fieldAddr _ _ _ | .field _ _ _ | .index _ _ _ | .extract _ _ | .makeFunc _ _ _ | .typeAssert _ _ _ _ => .P
  | .lookup _ _ _ _ => .R
  | .makeInterface _ _ => .C
  | .makeMap _ _ => .A
  | _ => .W
def bindsOn (o : Oper) (j : Nat) : Bool := o.after.any fun e => e.on == j && Region.binds .any e
/-- The objects that an operation looks at, or writes. -/
def foot (P : Program) (H : Hints) (f : FuncId) (o : Oper) (tm : Tm) (hp : Hp) : List Nat := match cls H f o with
  | .S => match o.op with
    | .call c => match c.callee with
      | .value fo => match ev tm fo with
        | .func g a b => match reach hp 64 (idsL ids2 ((a ++ normArgs P c.argTypes.toList (c.args.toList.map (ev tm)) ++ b).map (shutF (H.raw g) hp))) [] with
          | some ids => idsL ids2 (a ++ normArgs P c.argTypes.toList (c.args.toList.map (ev tm)) ++ b) ++ ids
          | none => []
        | _ => []
      | _ => idsL ids3 (o.op.operands.toList.map (ev tm))
    | .store _ a x => match ev tm a with
      | .ptr id _ => [id]
      | _ => ids1 (ev tm a) ++ idsL ids1 (ev tm x).cells
    | _ => []
  | .R => idsL ids3 (o.op.operands.toList.map (ev tm))
  | .C => idsL ids3 (o.op.operands.toList.map (ev tm))
  | _ => []
def apartN : List Nat → List Nat → Bool
  | [], _ => true
  | a :: l, m => match hasN m a with
    | true => false
    | false => apartN l m
/-- One that must have come up. -/
def anc (ops : List Oper) : Nat → Oper → Nat → Bool
  | 0, o, j => bindsOn o j
  | n + 1, o, j => bindsOn o j || o.after.toList.any fun e => Region.binds .any e && match nth? ops e.on with
    | some q => anc ops n q j
    | none => false
/-- The operations in another order, with their numbers. -/
def permN (ops : List Oper) : List Nat → List (Nat × Oper)
  | [] => []
  | i :: l => match nth? ops i with
    | some o => (i, o) :: permN ops l
    | none => permN ops l
def numL : Nat → List Oper → List (Nat × Oper)
  | _, [] => []
  | k, o :: l => (k, o) :: numL (k + 1) l
def ordN (ops : List Oper) : List Nat → List (Nat × Oper)
  | [] => numL 0 ops
  | i :: l => permN ops (i :: l)
/-- What was done: the operation's place, whether it is a call that sees objects, and which. -/
abbrev Log := List (Nat × Bool × List Nat)
def anyE {α : Type} (p : α → Bool) : List α → Bool
  | [] => false
  | a :: l => match p a with
    | true => true
    | false => anyE p l
/-- As bindsOn, anc, laid out for the reckoning. -/
def bindsL (o : Oper) (j : Nat) : Bool := anyE (fun e => match Nat.beq e.on j with
  | true => Region.binds .any e
  | false => false) o.after.toList
def ancL (ops : List Oper) : Nat → Oper → Nat → Bool
  | 0, o, j => bindsL o j
  | n + 1, o, j => match bindsL o j with
    | true => true
    | false => anyE (fun e => match Region.binds .any e with
      | true => match nth? ops e.on with
        | some q => ancL ops n q j
        | none => false
      | false => false) o.after.toList
def chkLog (ops : List Oper) (o : Oper) (s : Bool) (ft : List Nat) : Log → Bool
  | [] => true
  | e :: l => match e.2.1 == s with
    | true => chkLog ops o s ft l
    | false => match apartN ft e.2.2 with
      | true => chkLog ops o s ft l
      | false => match ancL ops 9 o e.1 with
        | true => chkLog ops o s ft l
        | false => false
def logS (H : Hints) (f : FuncId) (o : Oper) : Option Bool := match cls H f o with
  | .S => some true
  | .R => some false
  | .C => some false
  | _ => none
/-- As runOps, for regions that draw their order and have calls that see objects. -/
noncomputable def runD (P : Program) (H : Hints) (call : CallT) (f : FuncId) (ops : List Oper) (l : List (Nat × Oper)) : Log → Tm → Hp → (Tm → Hp → Option ρ) → Option ρ :=
  @List.rec (Nat × Oper) (fun _ => Log → Tm → Hp → (Tm → Hp → Option ρ) → Option ρ) (fun _ tm hp K => K tm hp) (fun p _ ih log tm hp K => match logS H f p.2 with
    | none => opThen P H call f ops p.2 (ih log) tm hp K
    | some s => forceN (fun ft => match chkLog ops p.2 s ft log with
      | true => opThen P H call f ops p.2 (ih ((p.1, s, ft) :: log)) tm hp K
      | false => none) (foot P H f p.2 tm hp)) l
def isS (H : Hints) (f : FuncId) (o : Oper) : Bool := match cls H f o with
  | .S => true
  | _ => false
inductive Ex where
  | normal | exit (id : Nat) | ret

/-- The operations laid out: a long region's are printed as two rows. -/
def forceO : (List Oper → Option ρ) → List Oper → Option ρ
  | K, [] => K []
  | K, o :: l => forceO (fun l => K (o :: l)) l
/-- Operations in another order. -/
def permL (ops : List Oper) : List Nat → List Oper
  | [] => []
  | i :: l => match nth? ops i with
    | some o => o :: permL ops l
    | none => permL ops l
def orderL (ops : List Oper) : List Nat → List Oper
  | [] => ops
  | i :: l => permL ops (i :: l)
/-- How a round ends: 0 at its end, 1 out of the loop, 2 out of the function. -/
def exMode : Ex → Nat
  | .normal => 0
  | .exit _ => 1
  | .ret => 2
/-- A loop's key among its function's loops. -/
noncomputable def firstReg (c : Code) : Nat := @Code.rec (fun _ => Nat) 0 (fun id _ _ => id + 1) (fun _ _ ia _ => ia) (fun _ _ _ ia _ => ia) (fun _ _ ib => ib) (fun _ ib => ib + 10000) (fun _ _ _ _ _ _ => 0) (fun _ => 0) (fun _ ib => ib) (fun _ => 0) (fun _ => 0) 0 (fun _ => 0) c
/-- The rounds of a loop. -/
def rounds (body : Tm → Hp → (Ex → Tm → Hp → Option ρ) → Option ρ) (keep : Nat → List Nat) (h0 : Nat) : Nat → Tm → Hp → (Ex → Tm → Hp → Option ρ) → Option ρ
  | 0, _, _, _ => none
  | n + 1, tm, hp, K => body tm hp fun e tm hp => forceL force (fun tm => forceHp (fun hp => match e with
    | .normal => rounds body keep h0 n tm hp K
    | .exit id => K (.exit id) tm hp
    | .ret => K .ret tm hp) (waneHp h0 hp)) (keepTm (keep (exMode e)) h0 hp 0 tm)

/-- Slots that are done with. -/
def junkTm (keep : List Nat) : Nat → Tm → Tm
  | _, [] => []
  | i, a :: l => (match hasN keep i with
    | true => a
    | false => .junk) :: junkTm keep (i + 1) l
/-- A piece of a run, and what comes behind it: here the reckoning halts. -/
@[irreducible] def joinR (run : (Tm → Hp → Option ρ) → Option ρ) (K : Tm → Hp → Option ρ) : Option ρ := run K
noncomputable def runR (P : Program) (H : Hints) (call : CallT) (f : FuncId) (id : Nat) (ops : Array Oper) (draw : Bool) (tm : Tm) (hp : Hp) (K : Tm → Hp → Option ρ) : Option ρ :=
  forceO (fun ops => match draw && H.dyn f id with
      | false => runOps P H call f ops (orderL ops (H.order f id)) tm hp K
      | true => runD P H call f ops (ordN ops (H.order f id)) [] tm hp K) ops.toList
/-- Two objects change places. -/
def swp (k i x : Nat) : Option Nat := match Nat.beq x k with
  | true => some i
  | false => match Nat.beq x i with
    | true => some k
    | false => some x
def swOb (q : Nat → Option Nat) : Ob → Ob
  | .var t cs => .var t (cs.map (ren2 q))
  | .mpo kd els => .mpo kd (els.map (List.map (ren2 q)))
  | o => o
/-- A slot that points to a new object goes on pointing to the place where the old one lay. -/
def swR (hb : Nat) (tm0 : Tm) (K : Tm → Hp → Option ρ) (tm : Tm) (hp : Hp) : List Nat → Option ρ
  | [] => K tm hp
  | s :: _ => match nth .junk tm0 s with
    | .ptr k _ => match nth .junk tm s with
      | .ptr i _ => match decide (hb ≤ k) && decide (k < i) with
        | true => match nth? hp k with
          | some a => match nth? hp i with
            | some b => forceL force (fun tm => forceHp (fun hp => K tm hp) ((setNth (setNth hp k b) i a).map (swOb (swp k i)))) (tm.map (ren3 (swp k i)))
            | none => none
          | none => none
        | false => none
      | _ => none
    | _ => none
noncomputable def runC (P : Program) (H : Hints) (call : CallT) (f : FuncId) (fuel hb : Nat) (c : Code) : Tm → Hp → (Ex → Tm → Hp → Option ρ) → Option ρ :=
  @Code.rec (fun _ => Tm → Hp → (Ex → Tm → Hp → Option ρ) → Option ρ)
    (fun tm hp K => K .normal tm hp)
    (fun id ops draw tm hp K => match H.join f id with
      | [] => runR P H call f id ops draw tm hp fun tm' hp' => swR hb tm (K .normal) tm' hp' (H.cy f id)
      | k :: keep => joinR (fun K' => runR P H call f id ops draw tm hp fun tm hp => forceL force (fun tm => K' tm hp) (junkTm (k :: keep) 0 tm)) fun tm hp => K .normal tm hp)
    (fun _ _ ia ib tm hp K => ia tm hp fun e tm hp => match e with
      | .normal => ib tm hp K
      | .exit id => K (.exit id) tm hp
      | .ret => K .ret tm hp)
    (fun x _ _ ia ib tm hp K => match ev tm x with
      | .bool t => bif t then ia tm hp K else ib tm hp K
      | _ => none)
    (fun id _ ib tm hp K => ib tm hp fun e tm hp => match e with
      | .normal => K .normal tm hp
      | .ret => K .ret tm hp
      | .exit k => match decide (k = id) with
        | true => K .normal tm hp
        | false => K (.exit k) tm hp)
    (fun b ib tm hp K => forceHp (fun hp1 => forceL force (fun tm => forceHp (fun hp2 => rounds ib (H.keep f (firstReg b)) hp1.length fuel tm hp2 K) (waneHp hp1.length hp1)) (keepTm (H.keep f (firstReg b) 0) hp1.length hp1 0 tm)) (upsHp P (H.upz f) (H.ups f) hp))
    (fun _ _ _ _ _ _ _ _ _ => none)
    (fun id tm hp K => K (.exit id) tm hp)
    (fun _ ib tm hp K => ib tm hp K)
    (fun _ tm hp K => K .normal tm hp)
    (fun _ _ _ _ => none)
    (fun tm hp K => K .ret tm hp)
    (fun _ _ _ _ => none) c

def resL (P : Program) (tm : Tm) (hp : Hp) (K : List AV → Option ρ) : List ResultVar → Option ρ
  | [] => K []
  | .tmp t :: l => resL P tm hp (fun vs => K (nth .junk tm t :: vs)) l
  | .cell t ty :: l => load P hp ty (fun v => resL P tm hp (fun vs => K (v :: vs)) l) (nth .junk tm t)
def resV (P : Program) (fn : Func) (tm : Tm) (hp : Hp) (K : AV → Option ρ) : Option ρ :=
  resL P tm hp (fun vs => match vs with
    | [v] => K (norm P (nth 0 fn.resultTypes.toList 0) v)
    | vs => K (.tup (normArgs P fn.resultTypes.toList vs))) fn.results.toList
end

def normOb (P : Program) : Ob → Ob
  | .var t cs => .var t (norms P (cellTys P 6 t) cs)
  | o => o
/-- A call's end. -/
def leave (P : Program) (stay : Bool) (h0 : Nat) (v : AV) (hp : Hp) : Option (AV × Hp) := match stay with
  | true => some (v, hp)
  | false => some (wane h0 hp v, (waneHp h0 hp).map (normOb P))
/-- A function's call. -/
noncomputable def runFn (P : Program) (H : Hints) (call : CallT) (fuel : Nat) (stay : Bool) (f : FuncId) (args : List AV) (hp : Hp) : Option (AV × Hp) := match P.funcs[f]? with
  | some fn => match fn.body with
    | some c => match H.plain.contains f && decide (args.length ≤ fn.ntmps) with
      | true => runC P H call f fuel hp.length c (args ++ List.replicate (fn.ntmps - args.length) .junk) hp fun e tm hp' => match e with
        | .exit _ => none
        | _ => resV P fn tm hp' fun v => leave P stay hp.length v hp'
      | false => none
    | none => none
  | none => none

/-- Functions that are known: their contracts. -/
abbrev Ext := FuncId → Option (List AV → Option AV)

noncomputable def callS (P : Program) (H : Hints) (X : Ext) : Nat → CallT
  | 0 => fun _ _ _ _ => none
  | n + 1 => fun st f args hp => match X f with
    | some g => match hp with
      | [] => match g args with
        | some v => some (v, [])
        | none => none
      | _ => none
    | none => runFn P H (callS P H X n) n st f args hp
noncomputable abbrev callN (P : Program) (H : Hints) (X : Ext) (n : Nat) : FuncId → List AV → Hp → Option (AV × Hp) := callS P H X n false

theorem bif_pos {α : Type} {c : Bool} {a b r : α} (h : c = true) (h2 : a = r) : (bif c then a else b) = r := by rw [h]; exact h2
theorem bif_neg {α : Type} {c : Bool} {a b r : α} (h : c = false) (h2 : b = r) : (bif c then a else b) = r := by rw [h]; exact h2
end Go.Proofs.Ytmaklniljnbokaa
end

