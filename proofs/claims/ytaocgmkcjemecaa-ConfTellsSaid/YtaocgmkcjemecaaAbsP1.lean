/- An interpreter of the program's code over values that hold their memory by value. Parts of the proofs of the laws. Conditions: none. -/
import Derived.WalkKit
import Derived.Test.YtaocgmkcjemecaaRep

section
namespace Go.Proofs.Ytaocgmkcjemecaa
set_option linter.unusedVariables false

/-- Values. 'sl': a slice whose elements stay as they are; 'rptr': an address in such an element; 'ptr', 'pte', 'row', 'own': into the interpreter's objects. -/
inductive AV where
  | junk
  | bool (b : Bool)
  | int (k : IntKind) (n : Int)
  | str (s : List UInt8)
  | nilp
  | ptr (id off : Nat)
  | pte (id i off : Nat)
  | rptr (el : List AV) (off : Nat)
  | nils
  | sl (size : Nat) (els : List (List AV))
  | row (id n : Nat)
  | own (id off n : Nat)
  | agg (cs : List AV)
  | tup (cs : List AV)
  | func (f : FuncId) (first cap : List AV)
  | nilf
  deriving Inhabited

/-- Objects: a variable's cells; a row that only grows; an array that is written. -/
inductive Ob where
  | var (t : TypeId) (cs : List AV)
  | row (e : TypeId) (size : Nat) (els : List (List AV))
  | arr (size : Nat) (els : List (List AV))
  deriving Inhabited

abbrev Tm := List AV
abbrev Hp := List Ob

def nth {α : Type} (d : α) : List α → Nat → α
  | [], _ => d
  | a :: _, 0 => a
  | _ :: l, n + 1 => nth d l n
def nth? {α : Type} : List α → Nat → Option α
  | [], _ => none
  | a :: _, 0 => some a
  | _ :: l, n + 1 => nth? l n
def setNth {α : Type} : List α → Nat → α → List α
  | [], _, _ => []
  | _ :: l, 0, x => x :: l
  | a :: l, n + 1, x => a :: setNth l n x

def lit1 : Value → AV
  | .bool b => .bool b
  | .int k n => match decide (k.min ≤ n) && decide (n ≤ k.max) with
    | true => .int k n
    | false => .junk
  | .string s => match decide (s.data.toList.length ≤ 140737488355328) with
    | true => .str s.data.toList
    | false => .junk
  | .pointer none => .nilp
  | .slice none 0 0 => .nils
  | .nilFunc => .nilf
  | _ => .junk
def lit : Value → AV
  | .agg cs => match cs.toList.all Value.oneCell' with
    | true => .agg (cs.toList.map lit1)
    | false => .junk
  | v => lit1 v

def ev (tm : Tm) : Operand → AV
  | .tmp t => nth .junk tm t
  | .const v => lit v
  | .func f => .func f [] []
  | .global _ => .junk

def aggOf (P : Program) (t : TypeId) : Option Bool :=
  match P.underlying t with
  | some (.struct _) | some (.array _ _) => some true
  | some _ => some false
  | none => none
def fieldOf (P : Program) (t : TypeId) (f : Nat) : Option (Nat × TypeId) := match P.underlying t with
  | some (.struct fs) => (fs[f]?).map fun x => (x.offset, x.type)
  | _ => none
def elemOf (P : Program) (t : TypeId) : Option TypeId := match P.underlying t with
  | some (.slice e) => some e
  | _ => none

/-- A value that may lie in one cell. -/
def AV.one : AV → Bool
  | .junk | .agg _ | .tup _ => false
  | _ => true
def AV.cells : AV → List AV
  | .agg cs => cs
  | a => [a]

/-- A cell's value without objects. -/
def close1 (hp : Hp) : AV → Option AV
  | .row id n => match nth? hp id with
    | some (.row _ size els) => some (.sl size (els.take n))
    | _ => none
  | .bool b => some (.bool b)
  | .int k n => some (.int k n)
  | .str s => some (.str s)
  | .nilp => some .nilp
  | .rptr el off => some (.rptr el off)
  | .nils => some .nils
  | .sl size els => some (.sl size els)
  | .nilf => some .nilf
  | .func f [] [] => some (.func f [] [])
  | _ => none
def closeL (hp : Hp) : List AV → Option (List AV)
  | [] => some []
  | a :: l => match close1 hp a with
    | some a => match closeL hp l with
      | some l => some (a :: l)
      | none => none
    | none => none
def close (hp : Hp) : AV → Option AV
  | .agg cs => match closeL hp cs with
    | some cs => some (.agg cs)
    | none => none
  | a => close1 hp a
def closeArgs (hp : Hp) : List AV → Option (List AV)
  | [] => some []
  | a :: l => match close hp a with
    | some a => match closeArgs hp l with
      | some l => some (a :: l)
      | none => none
    | none => none

/-- As 'close', arrays that are written too: for calls that yield plain numbers. -/
def closeO1 (hp : Hp) : AV → Option AV
  | .own id off n => match nth? hp id with
    | some (.arr size els) => some (.sl size ((els.drop off).take n))
    | _ => none
  | a => close1 hp a
def closeOL (hp : Hp) : List AV → Option (List AV)
  | [] => some []
  | a :: l => match closeO1 hp a with
    | some a => match closeOL hp l with
      | some l => some (a :: l)
      | none => none
    | none => none
def closeO (hp : Hp) : AV → Option AV
  | .agg cs => match closeOL hp cs with
    | some cs => some (.agg cs)
    | none => none
  | a => closeO1 hp a
def closeOArgs (hp : Hp) : List AV → Option (List AV)
  | [] => some []
  | a :: l => match closeO hp a with
    | some a => match closeOArgs hp l with
      | some l => some (a :: l)
      | none => none
    | none => none
def isOwn : AV → Bool
  | .own _ _ _ => true
  | _ => false
def anyOwn : List AV → Bool
  | [] => false
  | .agg cs :: l => cs.any isOwn || anyOwn l
  | a :: l => isOwn a || anyOwn l
/-- Without memory. -/
def flat1 : AV → Bool
  | .bool _ | .int _ _ | .str _ => true
  | _ => false
def flat : AV → Bool
  | .tup cs => cs.all flat1
  | a => flat1 a

/-- The types of a type's cells. -/
def cellTys (P : Program) : Nat → TypeId → List TypeId
  | 0, t => [t]
  | n + 1, t => match P.underlying t with
    | some (.struct fs) => fs.toList.flatMap fun f => cellTys P n f.type
    | some (.array k e) => (List.replicate k (cellTys P n e)).flatten
    | _ => [t]
def norm1 (P : Program) (t : TypeId) : AV → AV
  | .nils => match elemOf P t with
    | some e => .sl (P.cellsOf e) []
    | none => .nils
  | a => a
def norms (P : Program) : List TypeId → List AV → List AV
  | t :: ts, a :: l => norm1 P t a :: norms P ts l
  | _, l => l
/-- The nil slices as slices without elements. -/
def norm (P : Program) (t : TypeId) : AV → AV
  | .agg cs => .agg (norms P (cellTys P 6 t) cs)
  | .nils => norm1 P t .nils
  | a => a
def normArgs (P : Program) : List TypeId → List AV → List AV
  | t :: ts, a :: l => norm P t a :: normArgs P ts l
  | _, l => l

/-- What is left of a value once the objects from h0 on are gone. -/
def wane1 (h0 : Nat) (hp : Hp) : AV → AV
  | .ptr id off => bif decide (id < h0) then .ptr id off else .junk
  | .pte id i off => bif decide (id < h0) then .pte id i off else .junk
  | .row id n => bif decide (id < h0) then .row id n else match nth? hp id with
    | some (.row _ size els) => .sl size (els.take n)
    | _ => .junk
  | .own id off n => bif decide (id < h0) then .own id off n else match nth? hp id with
    | some (.arr size els) => .sl size ((els.drop off).take n)
    | _ => .junk
  | .func f [] [] => .func f [] []
  | .func _ _ _ => .junk
  | .agg _ => .junk
  | .tup _ => .junk
  | a => a
def wane2 (h0 : Nat) (hp : Hp) : AV → AV
  | .agg cs => .agg (cs.map (wane1 h0 hp))
  | .func f a b => .func f (a.map (wane1 h0 hp)) (b.map (wane1 h0 hp))
  | a => wane1 h0 hp a
def wane (h0 : Nat) (hp : Hp) : AV → AV
  | .tup cs => .tup (cs.map (wane2 h0 hp))
  | a => wane2 h0 hp a
def waneOb (h0 : Nat) (hp : Hp) : Ob → Ob
  | .var t cs => .var t (cs.map (wane2 h0 hp))
  | o => o
def waneHp (h0 : Nat) (hp : Hp) : Hp := (hp.take h0).map (waneOb h0 hp)
def keepTm (keep : List Nat) (h0 : Nat) (hp : Hp) : Nat → Tm → Tm
  | _, [] => []
  | i, a :: l => (bif keep.contains i then wane h0 hp a else .junk) :: keepTm keep h0 hp (i + 1) l

/-- How a proof looks at the functions: which slots are kept at a loop's head; which calls see the caller's objects; which slices are written. -/
structure Hints where
  keep : FuncId → Nat → Nat → List Nat
  inl : FuncId → FuncId → Bool
  obj : FuncId → Nat → Bool
  arr : FuncId → Nat → Bool
  ups : FuncId → Bool
  ado : FuncId → Nat → Bool
  order : FuncId → Nat → List Nat
  good : List FuncId
  plain : List FuncId

section
variable {ρ : Type}

/-- Values with their head laid open (for the reckoning alone: 'force a K' is 'K a'). -/
def force1 (K : AV → Option ρ) : AV → Option ρ
  | .junk => K .junk
  | .bool b => K (.bool b)
  | .int k n => K (.int k n)
  | .str s => K (.str s)
  | .nilp => K .nilp
  | .ptr id off => K (.ptr id off)
  | .pte id i off => K (.pte id i off)
  | .rptr el off => K (.rptr el off)
  | .nils => K .nils
  | .sl size els => K (.sl size els)
  | .row id n => K (.row id n)
  | .own id off n => K (.own id off n)
  | .agg cs => K (.agg cs)
  | .tup cs => K (.tup cs)
  | .func f a b => K (.func f a b)
  | .nilf => K .nilf
def forceL (g : (AV → Option ρ) → AV → Option ρ) : (List AV → Option ρ) → List AV → Option ρ
  | K, [] => K []
  | K, a :: l => g (fun a => forceL g (fun l => K (a :: l)) l) a
def force2 (K : AV → Option ρ) : AV → Option ρ
  | .agg cs => forceL force1 (fun cs => K (.agg cs)) cs
  | .func f a b => forceL force1 (fun a => forceL force1 (fun b => K (.func f a b)) b) a
  | a => force1 K a
def force (K : AV → Option ρ) : AV → Option ρ
  | .tup cs => forceL force2 (fun cs => K (.tup cs)) cs
  | a => force2 K a
def forceOb (K : Ob → Option ρ) : Ob → Option ρ
  | .var t cs => forceL force2 (fun cs => K (.var t cs)) cs
  | .row e size els => K (.row e size els)
  | .arr size els => K (.arr size els)
def forceHp : (Hp → Option ρ) → Hp → Option ρ
  | K, [] => K []
  | K, o :: l => forceOb (fun o => forceHp (fun l => K (o :: l)) l) o
def setK {α : Type} (K : List α → Option ρ) (v : α) : List α → Nat → Option ρ
  | [], _ => K []
  | _ :: l, 0 => K (v :: l)
  | a :: l, n + 1 => setK (fun l => K (a :: l)) v l n
def putK (tm : Tm) (d : Option Tmp) (v : AV) (K : Tm → Option ρ) : Option ρ := match d with
  | some d => force (fun v => setK K v tm d) v
  | none => K tm

def mkAgg (b : Option Bool) (cs : List AV) (K : AV → Option ρ) : Option ρ := match b with
  | some true => K (.agg cs)
  | some false => match cs with
    | [a] => K a
    | _ => none
  | none => none

def sub (l : List AV) (off n : Nat) (K : List AV → Option ρ) : Option ρ := bif decide (off + n ≤ l.length) then K ((l.drop off).take n) else none

def load (P : Program) (hp : Hp) (t : TypeId) (K : AV → Option ρ) : AV → Option ρ
  | .ptr id off => match nth? hp id with
    | some (.var _ cs) => sub cs off (P.cellsOf t) fun cs => mkAgg (aggOf P t) cs K
    | _ => none
  | .pte id i off => match nth? hp id with
    | some (.arr _ els) => match nth? els i with
      | some el => sub el off (P.cellsOf t) fun cs => mkAgg (aggOf P t) cs K
      | none => none
    | _ => none
  | .rptr el off => sub el off (P.cellsOf t) fun cs => mkAgg (aggOf P t) cs K
  | _ => none

def zero (P : Program) (t : TypeId) : Option AV := match (P.info? t) with
  | some i => match i.zero with
    | some v => some (lit v)
    | none => none
  | none => none

def binInt (op : BinOp) (k : IntKind) (a b : Int) (K : AV → Option ρ) : Option ρ := match op with
  | .add => K (.int k (k.wrap (a + b)))
  | .sub => K (.int k (k.wrap (a - b)))
  | .mul => K (.int k (k.wrap (a * b)))
  | .quo => bif decide (b = 0) then none else K (.int k (k.wrap (a.tdiv b)))
  | .rem => bif decide (b = 0) then none else K (.int k (a.tmod b))
  | .eql => K (.bool (a == b))
  | .neq => K (.bool (a != b))
  | .lss => K (.bool (decide (a < b)))
  | .leq => K (.bool (decide (a ≤ b)))
  | .gtr => K (.bool (decide (b < a)))
  | .geq => K (.bool (decide (b ≤ a)))
  | _ => none

/-- The fields of a struct that lie one behind the other. -/
def flatFrom : Nat → List Field → Bool
  | _, [] => true
  | n, f :: fs => decide (f.name ≠ "_") && decide (f.offset = n) && flatFrom (n + 1) fs
def flatT (P : Program) (t : TypeId) : Option (List Field) := match P.underlying t with
  | some (.struct fs) => match flatFrom 0 fs.toList && !P.stoodInHeld t && !P.eqGuardType P.depth t with
    | true => some fs.toList
    | false => none
  | _ => none
def eqs (P : Program) : (Bool → Option ρ) → List Field → List AV → List AV → Option ρ
  | K, [], [], [] => K true
  | K, f :: fs, x :: xs, y :: ys => match P.underlying f.type with
    | some .bool => match x with
      | .bool a => match y with
        | .bool b => eqs P (fun c => K ((a == b) && c)) fs xs ys
        | _ => none
      | _ => none
    | some (.int _) => match x with
      | .int k a => match y with
        | .int k' b => match decide (k = k') with
          | true => eqs P (fun c => K ((a == b) && c)) fs xs ys
          | false => none
        | _ => none
      | _ => none
    | some .string => match x with
      | .str a => match y with
        | .str b => eqs P (fun c => K ((a == b) && c)) fs xs ys
        | _ => none
      | _ => none
    | _ => none
  | _, _, _, _ => none

def binop (P : Program) (t : TypeId) (op : BinOp) (K : AV → Option ρ) : AV → AV → Option ρ
  | .int k a, .int k' b => match decide (k = k') with
    | true => binInt op k a b K
    | false => none
  | .str a, .str b => match op with
    | .eql => K (.bool (a == b))
    | .neq => K (.bool (!(a == b)))
    | .add => bif decide (a.length + b.length ≤ 140737488355328) then K (.str (a ++ b)) else none
    | _ => none
  | .bool a, .bool b => match P.underlying t with
    | some .bool => match op with
      | .eql => K (.bool (a == b))
      | .neq => K (.bool (!(a == b)))
      | _ => none
    | _ => none
  | .agg xs, .agg ys => match flatT P t with
    | some fs => match op with
      | .eql => eqs P (fun c => K (.bool c)) fs xs ys
      | .neq => eqs P (fun c => K (.bool (!c))) fs xs ys
      | _ => none
    | none => none
  | _, _ => none

def alen (K : Nat → Option ρ) : AV → Option ρ
  | .nils => K 0
  | .sl _ els => K els.length
  | .row _ n => K n
  | .own _ _ n => K n
  | _ => none

def shiftP (K : AV → Option ρ) : AV → Nat → Option ρ
  | .ptr id off, k => K (.ptr id (off + k))
  | .pte id i off, k => K (.pte id i (off + k))
  | .rptr cs off, k => K (.rptr cs (off + k))
  | _, _ => none

def elemAt (size n : Nat) (els : List (List AV)) (i : Int) (sz : Nat) (K : AV → Option ρ) : Option ρ := match decide (size = sz) && decide (0 < sz) with
  | true => bif decide (0 ≤ i) && decide (i < n) then match nth? els i.toNat with
      | some el => K (.rptr el 0)
      | none => none
    else none
  | false => none

def arrOf (P : Program) (t : TypeId) : Option (Nat × TypeId) := match P.underlying t with
  | some (.array n e) => some (n, e)
  | _ => none
def indexA (P : Program) (hp : Hp) (t : TypeId) (x : AV) (i : Int) (K : AV → Option ρ) : Option ρ := match elemOf P t with
  | none => match arrOf P t with
    | some p => match decide (0 < P.cellsOf p.2) with
      | true => bif decide (0 ≤ i) && decide (i < p.1) then shiftP K x (i.toNat * P.cellsOf p.2) else none
      | false => none
    | none => none
  | some e => match x with
    | .sl size els => elemAt size els.length els i (P.cellsOf e) K
    | .row id n => match nth? hp id with
      | some (.row _ size els) => elemAt size n els i (P.cellsOf e) K
      | _ => none
    | .own id off n => match nth? hp id with
      | some (.arr size els) => match decide (size = P.cellsOf e) && decide (0 < size) with
        | true => bif decide (0 ≤ i) && decide (i < n) && decide (off + n ≤ els.length) then K (.pte id (off + i.toNat) 0) else none
        | false => none
      | _ => none
    | _ => none

/-- n elements of a slice as they are now, without objects. -/
def elsOf (hp : Hp) (size : Nat) : AV → Option (List (List AV))
  | .nils => some []
  | .sl s els => match decide (s = size) with | true => some els | false => none
  | .row id n => match nth? hp id with
    | some (.row _ s els) => match decide (s = size) with | true => some (els.take n) | false => none
    | _ => none
  | .own id off n => match nth? hp id with
    | some (.arr s els) => match decide (s = size) with | true => some ((els.drop off).take n) | false => none
    | _ => none
  | _ => none

/-- The bounds of a slice expression. -/
def bounds (n : Nat) (lo hi : Option AV) (K : Nat → Nat → Option ρ) : Option ρ :=
  match hi with
  | none => match lo with
    | none => K 0 n
    | some (.int _ l) => bif decide (0 ≤ l) && decide (l ≤ n) then K l.toNat n else none
    | _ => none
  | some (.int _ h) => match lo with
    | none => bif decide (0 ≤ h) && decide (h ≤ n) then K 0 h.toNat else none
    | some (.int _ l) => bif decide (0 ≤ h) && decide (h ≤ n) && decide (0 ≤ l) && decide (l ≤ h) then K l.toNat h.toNat else none
    | _ => none
  | _ => none

def cutS (hp : Hp) (x : AV) (sz : Nat) (lo hi : Option AV) (K : AV → Option ρ) : Option ρ := match x with
  | .sl size els => match decide (size = sz) with
    | true => bounds els.length lo hi fun l h => K (.sl size ((els.take h).drop l))
    | false => none
  | .row id n => match nth? hp id with
    | some (.row _ size els) => match decide (size = sz) with
      | true => bounds n lo hi fun l h => K (.sl size (((els.take n).take h).drop l))
      | false => none
    | _ => none
  | .own id off n => match nth? hp id with
    | some (.arr size els) => match decide (size = sz) with
      | true => bounds n lo hi fun l h => K (.own id (off + l) (h - l))
      | false => none
    | _ => none
  | _ => none

/-- The parts of a struct, laid into its zero value. -/
def parts (P : Program) (t : TypeId) (tm : Tm) : List AV → List (Nat × Operand) → Option (List AV)
  | cs, [] => some cs
  | cs, (i, x) :: rest => match fieldOf P t i with
    | none => none
    | some (off, ft) => match (ev tm x).cells.all AV.one && decide (off + (ev tm x).cells.length ≤ cs.length) && decide ((ev tm x).cells.length = P.cellsOf ft) with
      | true => parts P t tm (cs.take off ++ ((ev tm x).cells ++ cs.drop (off + (ev tm x).cells.length))) rest
      | false => none

/-- The elements of a slice literal: all are given, in order. -/
def elems (P : Program) (tys : List TypeId) (hp : Hp) (size : Nat) (tm : Tm) : Nat → List (Nat × Operand) → Option (List (List AV))
  | _, [] => some []
  | k, (i, x) :: rest => match decide (i = k) && decide ((ev tm x).cells.length = size) && (ev tm x).cells.all AV.one with
    | true => match closeL hp (norms P tys (ev tm x).cells) with
      | some c => match elems P tys hp size tm (k + 1) rest with
        | some l => some (c :: l)
        | none => none
      | none => none
    | false => none

/-- Operations that leave the objects alone: their value. -/
def pureOp (P : Program) (tm : Tm) (hp : Hp) (o : Op) (K : AV → Option ρ) : Option ρ := match o with
  | .move x => K (ev tm x)
  | .assign x => K (ev tm x)
  | .pick c a b => match ev tm c with
    | .bool t => bif t then K (ev tm a) else K (ev tm b)
    | _ => none
  | .binOp op t x y _ => binop P t op K (ev tm x) (ev tm y)
  | .unOp .not _ x => match ev tm x with
    | .bool b => K (.bool (!b))
    | _ => none
  | .unOp .neg _ x => match ev tm x with
    | .int k n => K (.int k (k.wrap (0 - n)))
    | _ => none
  | .convert src dst x => match P.underlying dst with
    | some (.int k) => match (P.underlying src).isSome with
      | true => match ev tm x with
        | .int _ n => K (.int k (k.wrap n))
        | _ => none
      | false => none
    | _ => none
  | .nilCheck x => match ev tm x with
    | .ptr id off => K (.ptr id off)
    | .pte id i off => K (.pte id i off)
    | .rptr el off => K (.rptr el off)
    | .func f a b => K (.func f a b)
    | _ => none
  | .build t ps => match P.underlying t with
    | some (.struct fs) => match fs.toList.all (fun f => (P.info? f.type).isSome) with
      | true => match zero P t with
        | some (.agg z) => match parts P t tm z ps.toList with
          | some cs => K (.agg cs)
          | none => none
        | _ => none
      | false => none
    | _ => none
  | .buildSlice t n ps => match elemOf P t with
    | some e => match decide (n = ps.toList.length) && decide (0 < n) && decide (n * P.cellsOf e ≤ 16777216) with
      | true => match zero P e with
        | some z => match decide (z.cells.length = P.cellsOf e) && z.cells.all AV.one && decide (0 < P.cellsOf e) with
          | true => match elems P (cellTys P 6 e) hp (P.cellsOf e) tm 0 ps.toList with
            | some els => K (.sl (P.cellsOf e) els)
            | none => none
          | false => none
        | none => none
      | false => none
    | none => none
  | .makeSlice t n c => match elemOf P t with
    | some e => match ev tm n with
      | .int .i64 l => match ev tm c with
        | .int .i64 l' => match zero P e with
          | some z => match decide (z.cells.length = P.cellsOf e) && z.cells.all AV.one with
            | true => match closeL [] (norms P (cellTys P 6 e) z.cells) with
              | some zc => bif decide (0 ≤ l) && decide (l = l') && decide (P.bytesOf e * l ≤ 140737488355328) then
                K (.sl (P.cellsOf e) (List.replicate l.toNat zc)) else none
              | none => none
            | false => none
          | none => none
        | _ => none
      | _ => none
    | none => none
  | .load t a => load P hp t K (ev tm a)
  | .fieldAddr t a f => match fieldOf P t f with
    | some p => match decide (0 < P.cellsOf p.2) with
      | true => shiftP K (ev tm a) p.1
      | false => none
    | none => none
  | .field t x f => match fieldOf P t f with
    | some p => match ev tm x with
      | .agg cs => sub cs p.1 (P.cellsOf p.2) fun cs => mkAgg (aggOf P p.2) cs K
      | _ => none
    | none => none
  | .indexAddr t x i => match ev tm i with
    | .int _ i => indexA P hp t (ev tm x) i K
    | _ => none
  | .index t x i => match ev tm i with
    | .int _ i => match P.underlying t with
     | some .string => match ev tm x with
      | .str s => bif decide (0 ≤ i) && decide (i < s.length) then match nth? s i.toNat with
          | some b => K (.int .u8 b.toNat)
          | none => none
        else none
      | _ => none
     | _ => none
    | _ => none
  | .slice t x lo hi none => match P.underlying t with
    | some .string => match ev tm x with
      | .str s => bounds s.length (lo.map (ev tm)) (hi.map (ev tm)) fun l h => K (.str ((s.take h).drop l))
      | _ => none
    | some (.slice et) => match decide (0 < P.cellsOf et) with
      | true => cutS hp (ev tm x) (P.cellsOf et) (lo.map (ev tm)) (hi.map (ev tm)) K
      | false => none
    | _ => none
  | .extract t k => match ev tm t with
    | .tup cs => match nth? cs k with
      | some v => K v
      | none => none
    | _ => none
  | .makeFunc (.func f) a b => K (.func f (a.toList.map (ev tm)) (b.toList.map (ev tm)))
  | .call c => match c.callee with
    | .builtin .len => match c.args with
      | ⟨[x]⟩ => match c.argTypes with
        | ⟨[t]⟩ => match P.underlying t with
          | some .string => match ev tm x with
            | .str s => K (.int .i64 s.length)
            | _ => none
          | some (.slice _) => alen (fun n => K (.int .i64 n)) (ev tm x)
          | _ => none
        | _ => none
      | _ => none
    | .builtin .min => match c.args with
      | ⟨[x, y]⟩ => match ev tm x with
        | .int k a => match ev tm y with
          | .int k' b => match decide (k = k') with
            | true => K (.int k (if b < a then b else a))
            | false => none
          | _ => none
        | _ => none
      | _ => none
    | .builtin .max => match c.args with
      | ⟨[x, y]⟩ => match ev tm x with
        | .int k a => match ev tm y with
          | .int k' b => match decide (k = k') with
            | true => K (.int k (if a < b then b else a))
            | false => none
          | _ => none
        | _ => none
      | _ => none
    | _ => none
  | _ => none

/-- The calls; true: the callee's objects are left. -/
abbrev CallT := Bool → FuncId → List AV → Hp → Option (AV × Hp)

def updL (l : List AV) (off : Nat) (xs : List AV) : List AV := l.take off ++ (xs ++ l.drop (off + xs.length))

def objAt (H : Hints) (f : FuncId) (d : Option Tmp) : Bool := match d with
  | some d => H.obj f d
  | none => false

def arrAt (H : Hints) (f : FuncId) (d : Option Tmp) : Bool := match d with
  | some d => H.arr f d
  | none => false
/-- A slice that was just made, as an object. -/
def asOb (P : Program) (t : TypeId) (row arr : Bool) (hp : Hp) (K : AV → Hp → Option ρ) (v : AV) : Option ρ := match row with
  | true => match elemOf P t with
    | some e => match v with
      | .sl size els => match decide (size = P.cellsOf e) && decide (0 < size) with
        | true => forceHp (fun hp' => K (.row hp.length els.length) hp') (hp ++ [.row e size els])
        | false => none
      | _ => none
    | none => none
  | false => match arr with
    | true => match v with
      | .sl size els => forceHp (fun hp' => K (.own hp.length 0 els.length) hp') (hp ++ [.arr size els])
      | _ => none
    | false => K v hp

def adoAt (H : Hints) (f : FuncId) (d : Option Tmp) : Bool := match d with
  | some d => H.ado f d
  | none => false
/-- A value whose objects stand behind k others. -/
def shift1 (k : Nat) : AV → AV
  | .ptr id off => .ptr (k + id) off
  | .pte id i off => .pte (k + id) i off
  | .row id n => .row (k + id) n
  | .own id off n => .own (k + id) off n
  | .func f [] [] => .func f [] []
  | .func _ _ _ => .junk
  | .agg _ => .junk
  | .tup _ => .junk
  | a => a
def shift2 (k : Nat) : AV → AV
  | .agg cs => .agg (cs.map (shift1 k))
  | .func f a b => .func f (a.map (shift1 k)) (b.map (shift1 k))
  | a => shift1 k a
def shiftV (k : Nat) : AV → AV
  | .tup cs => .tup (cs.map (shift2 k))
  | a => shift2 k a
def shiftOb (k : Nat) : Ob → Ob
  | .var t cs => .var t (cs.map (shift2 k))
  | o => o
/-- What an operation yields, and what becomes of the objects. -/
def stepV (P : Program) (H : Hints) (call : CallT) (f : FuncId) (o : Oper) (tm : Tm) (hp : Hp) (K : AV → Hp → Option ρ) : Option ρ := match o.op with
  | .assign x => match ev tm x with
    | .nils => match objAt H f o.dst with
        | true => match elemOf P o.type with
          | some e => match decide (0 < P.cellsOf e) with
            | true => forceHp (fun hp' => K (.row hp.length 0) hp') (hp ++ [.row e (P.cellsOf e) []])
            | false => none
          | none => none
        | false => K .nils hp
    | _ => K (ev tm x) hp
  | .buildSlice t n ps => pureOp P tm hp (.buildSlice t n ps) fun v => asOb P t (objAt H f o.dst) (arrAt H f o.dst) hp K v
  | .makeSlice t n c => pureOp P tm hp (.makeSlice t n c) fun v => asOb P t (objAt H f o.dst) (arrAt H f o.dst) hp K v
  | .alloc e => match zero P e with
    | some z => match decide (z.cells.length = P.cellsOf e) && z.cells.all AV.one with
      | true => forceHp (fun hp' => K (.ptr hp.length 0) hp') (hp ++ [.var e z.cells])
      | false => none
    | none => none
  | .box e x => match (ev tm x).cells.all AV.one with
    | true => forceHp (fun hp' => K (.ptr hp.length 0) hp') (hp ++ [.var e (ev tm x).cells])
    | false => none
  | .store t a x => match decide ((ev tm x).cells.length = P.cellsOf t) && decide (0 < P.cellsOf t) && (ev tm x).cells.all AV.one with
    | true => match ev tm a with
      | .ptr id off => match nth? hp id with
        | some (.var e cs) => bif decide (off + P.cellsOf t ≤ cs.length) then forceHp (K .junk) (setNth hp id (.var e (updL cs off (ev tm x).cells))) else none
        | _ => none
      | .pte id i off => match nth? hp id with
        | some (.arr size els) => match nth? els i with
          | some el => match closeL hp (ev tm x).cells with
            | some c => bif decide (off + P.cellsOf t ≤ el.length) then forceHp (K .junk) (setNth hp id (.arr size (setNth els i (updL el off c)))) else none
            | none => none
          | none => none
        | _ => none
      | _ => none
    | false => none
  | .call c => match c.callee with
    | .value fo => match ev tm fo with
      | .func g a b => match H.good.contains g with
        | true => match H.inl f g with
          | true => match call false g (a ++ c.args.toList.map (ev tm) ++ b) hp with
            | some (v, hp') => K v hp'
            | none => none
          | false => match adoAt H f o.dst with
           | true => match closeArgs hp (a ++ normArgs P c.argTypes.toList (c.args.toList.map (ev tm)) ++ b) with
             | some as => match call true g as [] with
               | some (v, hpn) => forceHp (fun hp' => K (shiftV hp.length v) hp') (hp ++ hpn.map (shiftOb hp.length))
               | none => none
             | none => none
           | false => match anyOwn (a ++ normArgs P c.argTypes.toList (c.args.toList.map (ev tm)) ++ b) with
            | false => match closeArgs hp (a ++ normArgs P c.argTypes.toList (c.args.toList.map (ev tm)) ++ b) with
              | some as => match call false g as [] with
                | some (v, []) => K v hp
                | _ => none
              | none => none
            | true => match closeOArgs hp (a ++ normArgs P c.argTypes.toList (c.args.toList.map (ev tm)) ++ b) with
              | some as => match call false g as [] with
                | some (v, []) => match flat v with
                  | true => K v hp
                  | false => none
                | _ => none
              | none => none
        | false => none
      | _ => none
    | .builtin .append => match c.args with
      | ⟨[s, x]⟩ => match c.argTypes with
        | ⟨[t, t']⟩ => match decide (t = t') with
          | true => match elemOf P t with
            | some e => match zero P e with
              | some z => match decide (z.cells.length = P.cellsOf e) && z.cells.all AV.one && decide (0 < P.cellsOf e) with
                | true => match elsOf hp (P.cellsOf e) (ev tm x) with
                  | some news => match ev tm s with
                    | .nils => bif decide (news.length * (P.bytesOf e + 1) ≤ 140737488355328) then match arrAt H f o.dst with
                      | false => forceHp (fun hp' => K (.row hp.length news.length) hp') (hp ++ [.row e (P.cellsOf e) news])
                      | true => bif decide (news.length = 0) then K .nils hp else forceHp (fun hp' => K (.own hp.length 0 news.length) hp') (hp ++ [.arr (P.cellsOf e) news]) else none
                    | .row id n => match nth? hp id with
                      | some (.row e' size els) => match decide (e' = e) && decide (size = P.cellsOf e) with
                        | true => bif decide (n = els.length) && decide ((els.length + news.length) * (P.bytesOf e + 1) ≤ 140737488355328) then
                          forceHp (K (.row id (els.length + news.length))) (setNth hp id (.row e (P.cellsOf e) (els ++ news))) else none
                        | false => none
                      | _ => none
                    | _ => none
                  | none => none
                | false => none
              | none => none
            | none => none
          | false => none
        | _ => none
      | _ => none
    | _ => pureOp P tm hp o.op fun v => K v hp
  | op => pureOp P tm hp op fun v => K v hp

def put (tm : Tm) (d : Option Tmp) (v : AV) : Tm := match d with
  | some d => setNth tm d v
  | none => tm

/-- One operation, then the others. -/
def opThen (P : Program) (H : Hints) (call : CallT) (f : FuncId) (ops : List Oper) (o : Oper) (rest : Tm → Hp → (Tm → Hp → Option ρ) → Option ρ) (tm : Tm) (hp : Hp) (K : Tm → Hp → Option ρ) : Option ρ := match o.guard with
    | none => stepV P H call f o tm hp fun v hp => putK tm o.dst v fun tm => rest tm hp K
    | some (j, want) => match (nth? ops j).bind (·.dst) with
      | none => none
      | some t => match nth .junk tm t with
        | .bool b => match want with
          | true => bif b then stepV P H call f o tm hp (fun v hp => putK tm o.dst v fun tm => rest tm hp K) else (putK tm o.dst (.tup []) fun tm => rest tm hp K)
          | false => bif b then (putK tm o.dst (.tup []) fun tm => rest tm hp K) else stepV P H call f o tm hp (fun v hp => putK tm o.dst v fun tm => rest tm hp K)
        | .tup [] => putK tm o.dst (.tup []) fun tm => rest tm hp K
        | _ => none
/-- One operation after the other. (By the recursor itself: what the kernel and the elaborator unfold is then alike.) -/
noncomputable def runOps (P : Program) (H : Hints) (call : CallT) (f : FuncId) (ops : List Oper) (l : List Oper) : Tm → Hp → (Tm → Hp → Option ρ) → Option ρ :=
  @List.rec Oper (fun _ => Tm → Hp → (Tm → Hp → Option ρ) → Option ρ) (fun tm hp K => K tm hp) (fun o _ ih => opThen P H call f ops o ih) l

inductive Ex where
  | normal | exit (id : Nat) | ret

/-- The rows for the nil slices of variables. -/
def upsCells (P : Program) : Nat → List TypeId → List AV → List AV × List Ob
  | n, t :: ts, .nils :: l => match elemOf P t with
    | some e => match decide (0 < P.cellsOf e) with
      | true => (.row n 0 :: (upsCells P (n + 1) ts l).1, .row e (P.cellsOf e) [] :: (upsCells P (n + 1) ts l).2)
      | false => (.nils :: (upsCells P n ts l).1, (upsCells P n ts l).2)
    | none => (.nils :: (upsCells P n ts l).1, (upsCells P n ts l).2)
  | n, _ :: ts, a :: l => (a :: (upsCells P n ts l).1, (upsCells P n ts l).2)
  | _, _, l => (l, [])
def upsObs (P : Program) : Nat → List Ob → List Ob × List Ob
  | n, .var t cs :: l =>
    (.var t (upsCells P n (cellTys P 6 t) cs).1 :: (upsObs P (n + (upsCells P n (cellTys P 6 t) cs).2.length) l).1,
     (upsCells P n (cellTys P 6 t) cs).2 ++ (upsObs P (n + (upsCells P n (cellTys P 6 t) cs).2.length) l).2)
  | n, o :: l => (o :: (upsObs P n l).1, (upsObs P n l).2)
  | _, [] => ([], [])
def upsHp (P : Program) (b : Bool) (hp : Hp) : Hp := match b with
  | true => (upsObs P hp.length hp).1 ++ (upsObs P hp.length hp).2
  | false => hp

/-- The operations laid out: a long region's are printed as two rows. -/
def forceO : (List Oper → Option ρ) → List Oper → Option ρ
  | K, [] => K []
  | K, o :: l => forceO (fun l => K (o :: l)) l
/-- Operations in another order. -/
def permL (ops : List Oper) : List Nat → List Oper
  | [] => []
  | i :: l => match nth? ops i with
    | some o => o :: permL ops l
    | none => permL ops l
def orderL (ops : List Oper) : List Nat → List Oper
  | [] => ops
  | i :: l => permL ops (i :: l)
/-- How a round ends: 0 at its end, 1 out of the loop, 2 out of the function. -/
def exMode : Ex → Nat
  | .normal => 0
  | .exit _ => 1
  | .ret => 2
/-- A loop's key among its function's loops. -/
noncomputable def firstReg (c : Code) : Nat := @Code.rec (fun _ => Nat) 0 (fun id _ _ => id + 1) (fun _ _ ia _ => ia) (fun _ _ _ ia _ => ia) (fun _ _ ib => ib) (fun _ ib => ib + 10000) (fun _ _ _ _ _ _ => 0) (fun _ => 0) (fun _ ib => ib) (fun _ => 0) (fun _ => 0) 0 (fun _ => 0) c
/-- The rounds of a loop. -/
def rounds (body : Tm → Hp → (Ex → Tm → Hp → Option ρ) → Option ρ) (keep : Nat → List Nat) (h0 : Nat) : Nat → Tm → Hp → (Ex → Tm → Hp → Option ρ) → Option ρ
  | 0, _, _, _ => none
  | n + 1, tm, hp, K => body tm hp fun e tm hp => forceL force (fun tm => forceHp (fun hp => match e with
    | .normal => rounds body keep h0 n tm hp K
    | .exit id => K (.exit id) tm hp
    | .ret => K .ret tm hp) (waneHp h0 hp)) (keepTm (keep (exMode e)) h0 hp 0 tm)

noncomputable def runC (P : Program) (H : Hints) (call : CallT) (f : FuncId) (fuel : Nat) (c : Code) : Tm → Hp → (Ex → Tm → Hp → Option ρ) → Option ρ :=
  @Code.rec (fun _ => Tm → Hp → (Ex → Tm → Hp → Option ρ) → Option ρ)
    (fun tm hp K => K .normal tm hp)
    (fun id ops _ tm hp K => forceO (fun ops => runOps P H call f ops (orderL ops (H.order f id)) tm hp fun tm hp => K .normal tm hp) ops.toList)
    (fun _ _ ia ib tm hp K => ia tm hp fun e tm hp => match e with
      | .normal => ib tm hp K
      | .exit id => K (.exit id) tm hp
      | .ret => K .ret tm hp)
    (fun x _ _ ia ib tm hp K => match ev tm x with
      | .bool t => bif t then ia tm hp K else ib tm hp K
      | _ => none)
    (fun id _ ib tm hp K => ib tm hp fun e tm hp => match e with
      | .normal => K .normal tm hp
      | .ret => K .ret tm hp
      | .exit k => match decide (k = id) with
        | true => K .normal tm hp
        | false => K (.exit k) tm hp)
    (fun b ib tm hp K => forceHp (fun hp1 => forceL force (fun tm => forceHp (fun hp2 => rounds ib (H.keep f (firstReg b)) hp1.length fuel tm hp2 K) (waneHp hp1.length hp1)) (keepTm (H.keep f (firstReg b) 0) hp1.length hp1 0 tm)) (upsHp P (H.ups f) hp))
    (fun _ _ _ _ _ _ _ _ _ => none)
    (fun id tm hp K => K (.exit id) tm hp)
    (fun _ _ _ _ _ => none)
    (fun _ _ _ _ => none)
    (fun _ _ _ _ => none)
    (fun tm hp K => K .ret tm hp)
    (fun _ _ _ _ => none) c

def resL (P : Program) (tm : Tm) (hp : Hp) (K : List AV → Option ρ) : List ResultVar → Option ρ
  | [] => K []
  | .tmp t :: l => resL P tm hp (fun vs => K (nth .junk tm t :: vs)) l
  | .cell t ty :: l => load P hp ty (fun v => resL P tm hp (fun vs => K (v :: vs)) l) (nth .junk tm t)
def resV (P : Program) (fn : Func) (tm : Tm) (hp : Hp) (K : AV → Option ρ) : Option ρ :=
  resL P tm hp (fun vs => match vs with
    | [v] => K (norm P (nth 0 fn.resultTypes.toList 0) v)
    | vs => K (.tup (normArgs P fn.resultTypes.toList vs))) fn.results.toList
end

/-- A call's end. -/
def leave (stay : Bool) (h0 : Nat) (v : AV) (hp : Hp) : Option (AV × Hp) := match stay with
  | true => some (v, hp)
  | false => some (wane h0 hp v, waneHp h0 hp)
/-- A function's call. -/
noncomputable def runFn (P : Program) (H : Hints) (call : CallT) (fuel : Nat) (stay : Bool) (f : FuncId) (args : List AV) (hp : Hp) : Option (AV × Hp) := match P.funcs[f]? with
  | some fn => match fn.body with
    | some c => match H.plain.contains f && decide (args.length ≤ fn.ntmps) with
      | true => runC P H call f fuel c (args ++ List.replicate (fn.ntmps - args.length) .junk) hp fun e tm hp' => match e with
        | .exit _ => none
        | _ => resV P fn tm hp' fun v => leave stay hp.length v hp'
      | false => none
    | none => none
  | none => none

/-- Functions that are known: their contracts. -/
abbrev Ext := FuncId → Option (List AV → Option AV)

noncomputable def callS (P : Program) (H : Hints) (X : Ext) : Nat → CallT
  | 0 => fun _ _ _ _ => none
  | n + 1 => fun st f args hp => match X f with
    | some g => match hp with
      | [] => match g args with
        | some v => some (v, [])
        | none => none
      | _ => none
    | none => runFn P H (callS P H X n) n st f args hp
noncomputable abbrev callN (P : Program) (H : Hints) (X : Ext) (n : Nat) : FuncId → List AV → Hp → Option (AV × Hp) := callS P H X n false

theorem bif_pos {α : Type} {c : Bool} {a b r : α} (h : c = true) (h2 : a = r) : (bif c then a else b) = r := by rw [h]; exact h2
theorem bif_neg {α : Type} {c : Bool} {a b r : α} (h : c = false) (h2 : b = r) : (bif c then a else b) = r := by rw [h]; exact h2
end Go.Proofs.Ytaocgmkcjemecaa
end

/- How the interpreter's values stand for the program's. Parts of the proofs of the laws. Conditions: none. -/
section
namespace Go.Proofs.Ytaocgmkcjemecaa
open Go.RowKit
set_option linter.unusedVariables false
set_option linter.unusedSimpArgs false

/-- Where an object lies: its block, or the slice that has its row. -/
inductive Pl where
  | blk (b : Nat)
  | sv (v : Value)

abbrev Ones (vs : List Value) : Prop := ∀ v ∈ vs, v.oneCell' = true

/-- Elements that lie one behind the other, in cells that stay. -/
def Laid (S : Nat → Nat → Prop) (w : World) (a : Option Addr) (size : Nat) (vss : List (List Value)) : Prop :=
  (∀ vs ∈ vss, vs.length = size) ∧ ∀ j vs t u, vss[j]? = some vs → vs[t]? = some u → ∃ b o, a = some ⟨b, o, none⟩ ∧ S b (o + j * size + t) ∧ w.cell? ⟨b, o + j * size + t, none⟩ = some u

def Cap (a : Option Addr) (n cap : Nat) : Prop := n ≤ cap ∧ cap ≤ maxLen ∧ (a = none → cap = 0)

mutual
inductive Rep (S : Nat → Nat → Prop) (w : World) : Hp → List Pl → AV → Value → Prop
  | junk (hp φ v) : Rep S w hp φ .junk v
  | bool (hp φ b) : Rep S w hp φ (.bool b) (.bool b)
  | int (hp φ k n) (h : (Lit.int k n).wf = true) : Rep S w hp φ (.int k n) (.int k n)
  | str (hp φ s) (h : s.length ≤ maxLen) : Rep S w hp φ (.str s) (.string (bs s))
  | nilp (hp φ) : Rep S w hp φ .nilp (.pointer none)
  | ptr (hp φ id off b) (h : φ[id]? = some (.blk b)) : Rep S w hp φ (.ptr id off) (.pointer (some ⟨b, off, none⟩))
  | pte (hp φ id i off b size els) (h : φ[id]? = some (.blk b)) (ho : nth? hp id = some (.arr size els)) : Rep S w hp φ (.pte id i off) (.pointer (some ⟨b, i * size + off, none⟩))
  | rptr (hp φ el off vs b o) (hr : Reps S w [] [] el vs) (h1 : Ones vs) (hl : ∀ j u, vs[j]? = some u → S b (o + j) ∧ w.cell? ⟨b, o + j, none⟩ = some u) : Rep S w hp φ (.rptr el off) (.pointer (some ⟨b, o + off, none⟩))
  | nils (hp φ) : Rep S w hp φ .nils (.slice none 0 0)
  | sl (hp φ size els vss a cap) (hr : Repss S w els vss) (hl : Laid S w a size vss) (hc : Cap a els.length cap) : Rep S w hp φ (.sl size els) (.slice a els.length cap)
  | row (hp φ id n v e size els) (ho : nth? hp id = some (.row e size els)) (hn : n ≤ els.length) (hs : Rep S w [] [] (.sl size (els.take n)) v) (hcur : n = els.length → φ[id]? = some (.sv v)) : Rep S w hp φ (.row id n) v
  | own (hp φ id off n b size els cap) (h : φ[id]? = some (.blk b)) (ho : nth? hp id = some (.arr size els)) (hn : off + n ≤ els.length) (ad : Option Addr) (had : 0 < n → ad = some ⟨b, off * size, none⟩) (hc : Cap ad n cap) : Rep S w hp φ (.own id off n) (.slice ad n cap)
  | agg (hp φ cs vs) (hr : Reps S w hp φ cs vs) (h1 : Ones vs) : Rep S w hp φ (.agg cs) (.agg vs.toArray)
  | tup (hp φ cs vs) (hr : Reps S w hp φ cs vs) : Rep S w hp φ (.tup cs) (.tuple vs.toArray)
  | func (hp φ f x y a b) (hx : Reps S w hp φ x a) (hy : Reps S w hp φ y b) : Rep S w hp φ (.func f x y) (.func (.func f) a.toArray b.toArray)
  | nilf (hp φ) : Rep S w hp φ .nilf .nilFunc
inductive Reps (S : Nat → Nat → Prop) (w : World) : Hp → List Pl → List AV → List Value → Prop
  | nil (hp φ) : Reps S w hp φ [] []
  | cons (hp φ a v l vs) (h : Rep S w hp φ a v) (t : Reps S w hp φ l vs) : Reps S w hp φ (a :: l) (v :: vs)
inductive Repss (S : Nat → Nat → Prop) (w : World) : List (List AV) → List (List Value) → Prop
  | nil : Repss S w [] []
  | cons (el vs l vss) (h : Reps S w [] [] el vs) (h1 : Ones vs) (t : Repss S w l vss) : Repss S w (el :: l) (vs :: vss)
end

/-- The cells that stay go on staying. -/
def SExt (S : Nat → Nat → Prop) (w : World) (S' : Nat → Nat → Prop) (w' : World) : Prop := ∀ b o, S b o → S' b o ∧ w'.cell? ⟨b, o, none⟩ = w.cell? ⟨b, o, none⟩
theorem SExt.refl (S : Nat → Nat → Prop) (w : World) : SExt S w S w := fun _ _ h => ⟨h, rfl⟩
theorem SExt.trans {S1 S2 S3 : Nat → Nat → Prop} {w1 w2 w3 : World} (h : SExt S1 w1 S2 w2) (k : SExt S2 w2 S3 w3) : SExt S1 w1 S3 w3 := fun b o hb => ⟨(k b o (h b o hb).1).1, (k b o (h b o hb).1).2.trans (h b o hb).2⟩

/-- What is known of objects goes on holding. -/
structure HpExt (hp : Hp) (φ : List Pl) (hp' : Hp) (φ' : List Pl) : Prop where
  blk : ∀ (id b : Nat), φ[id]? = some (Pl.blk b) → φ'[id]? = some (Pl.blk b)
  arr : ∀ (id size : Nat) (els : List (List AV)), nth? hp id = some (.arr size els) → ∃ els', nth? hp' id = some (.arr size els') ∧ els'.length = els.length
  row : ∀ (id : Nat) (e : TypeId) (size : Nat) (els : List (List AV)), nth? hp id = some (.row e size els) → ∃ more, nth? hp' id = some (.row e size (els ++ more)) ∧ (more = [] → ∀ v, φ[id]? = some (Pl.sv v) → φ'[id]? = some (Pl.sv v))
theorem HpExt.refl (hp : Hp) (φ : List Pl) : HpExt hp φ hp φ := ⟨fun _ _ h => h, fun _ _ _ h => ⟨_, h, rfl⟩, fun _ _ _ els h => ⟨[], by simpa using h, fun _ _ h => h⟩⟩
theorem HpExt.trans {hp1 hp2 hp3 : Hp} {φ1 φ2 φ3 : List Pl} (h : HpExt hp1 φ1 hp2 φ2) (k : HpExt hp2 φ2 hp3 φ3) : HpExt hp1 φ1 hp3 φ3 := by
  refine ⟨fun id b hb => k.blk id b (h.blk id b hb), fun id size els he => ?_, fun id e size els he => ?_⟩
  · obtain ⟨els', h1, h2⟩ := h.arr id size els he
    obtain ⟨els'', h3, h4⟩ := k.arr id size els' h1
    exact ⟨els'', h3, h4.trans h2⟩
  · obtain ⟨m1, h1, h2⟩ := h.row id e size els he
    obtain ⟨m2, h3, h4⟩ := k.row id e size _ h1
    refine ⟨m1 ++ m2, by rw [← List.append_assoc]; exact h3, fun hm v hv => ?_⟩
    obtain ⟨rfl, rfl⟩ := List.append_eq_nil_iff.1 hm
    exact h4 rfl v (h2 rfl v hv)
theorem HpExt.nil : HpExt [] [] [] [] := HpExt.refl _ _

theorem Laid.mono {S S' : Nat → Nat → Prop} {w w' : World} (hS : SExt S w S' w') {a : Option Addr} {size : Nat} {vss : List (List Value)} (h : Laid S w a size vss) : Laid S' w' a size vss :=
  ⟨h.1, fun j vs t u h1 h2 => let ⟨b, o, e, hs, hc⟩ := h.2 j vs t u h1 h2; ⟨b, o, e, (hS _ _ hs).1, ((hS _ _ hs).2).trans hc⟩⟩

mutual
theorem Rep.mono {S S' : Nat → Nat → Prop} {w w' : World} (hS : SExt S w S' w') {hp : Hp} {φ : List Pl} {a : AV} {v : Value} {hp' : Hp} {φ' : List Pl} (h : Rep S w hp φ a v) (hE : HpExt hp φ hp' φ') : Rep S' w' hp' φ' a v := match h with
  | .junk _ _ v => .junk _ _ v
  | .bool _ _ b => .bool _ _ b
  | .int _ _ k n h => .int _ _ k n h
  | .str _ _ s h => .str _ _ s h
  | .nilp _ _ => .nilp _ _
  | .ptr _ _ id off b h => .ptr _ _ id off b (hE.blk id b h)
  | .pte _ _ id i off b size els h ho => let ⟨els', h1, _⟩ := hE.arr id size els ho; .pte _ _ id i off b size els' (hE.blk id b h) h1
  | .rptr _ _ el off vs b o hr h1 hl => .rptr _ _ el off vs b o (Reps.mono hS hr HpExt.nil) h1 fun j u hj => let ⟨x, y⟩ := hl j u hj; ⟨(hS _ _ x).1, ((hS _ _ x).2).trans y⟩
  | .nils _ _ => .nils _ _
  | .sl _ _ size els vss a cap hr hl hc => .sl _ _ size els vss a cap (Repss.mono hS hr) (hl.mono hS) hc
  | .row _ _ id n v e size els ho hn hs hcur => by
    obtain ⟨more, h1, h2⟩ := hE.row id e size els ho
    refine .row _ _ id n v e size (els ++ more) h1 (by rw [List.length_append]; omega) ?_ ?_
    · rw [List.take_append_of_le_length hn]; exact Rep.mono hS hs HpExt.nil
    · intro hn'
      rw [List.length_append] at hn'
      have hm : more = [] := List.eq_nil_of_length_eq_zero (by omega)
      exact h2 hm v (hcur (by omega))
  | .own _ _ id off n b size els cap h ho hn ad had hc => let ⟨els', h1, h2⟩ := hE.arr id size els ho; .own _ _ id off n b size els' cap (hE.blk id b h) h1 (by omega) ad had hc
  | .agg _ _ cs vs hr h1 => .agg _ _ cs vs (Reps.mono hS hr hE) h1
  | .tup _ _ cs vs hr => .tup _ _ cs vs (Reps.mono hS hr hE)
  | .func _ _ f x y a b hx hy => .func _ _ f x y a b (Reps.mono hS hx hE) (Reps.mono hS hy hE)
  | .nilf _ _ => .nilf _ _
theorem Reps.mono {S S' : Nat → Nat → Prop} {w w' : World} (hS : SExt S w S' w') {hp : Hp} {φ : List Pl} {l : List AV} {vs : List Value} {hp' : Hp} {φ' : List Pl} (h : Reps S w hp φ l vs) (hE : HpExt hp φ hp' φ') : Reps S' w' hp' φ' l vs := match h with
  | .nil _ _ => .nil _ _
  | .cons _ _ a v l vs h t => .cons _ _ a v l vs (Rep.mono hS h hE) (Reps.mono hS t hE)
theorem Repss.mono {S S' : Nat → Nat → Prop} {w w' : World} (hS : SExt S w S' w') {l : List (List AV)} {vss : List (List Value)} (h : Repss S w l vss) : Repss S' w' l vss := match h with
  | .nil => .nil
  | .cons el vs l vss h h1 t => .cons el vs l vss (Reps.mono hS h HpExt.nil) h1 (Repss.mono hS t)
end

/-! ### Lists -/
theorem nth?_eq {α : Type} (l : List α) (i : Nat) : nth? l i = l[i]? := by
  induction l generalizing i with
  | nil => rfl
  | cons a t ih => cases i with
    | zero => rfl
    | succ i => simpa [nth?] using ih i
theorem nth_eq {α : Type} (d : α) (l : List α) (i : Nat) : nth d l i = l[i]?.getD d := by
  induction l generalizing i with
  | nil => rfl
  | cons a t ih => cases i with
    | zero => rfl
    | succ i => simpa [nth] using ih i
theorem setNth_eq {α : Type} (l : List α) (i : Nat) (x : α) : setNth l i x = l.set i x := by
  induction l generalizing i with
  | nil => rfl
  | cons a t ih => cases i with
    | zero => rfl
    | succ i => simpa [setNth] using ih i

theorem Reps.length {S : Nat → Nat → Prop} {w : World} {hp : Hp} {φ : List Pl} {l : List AV} {vs : List Value} (h : Reps S w hp φ l vs) : l.length = vs.length := by
  induction l generalizing vs with
  | nil => cases h; rfl
  | cons a t ih => cases h with | cons _ _ _ v _ vs h t => simp [ih t]
theorem Reps.get {S : Nat → Nat → Prop} {w : World} {hp : Hp} {φ : List Pl} {l : List AV} {vs : List Value} (h : Reps S w hp φ l vs) {i : Nat} {v : Value} (hi : vs[i]? = some v) : ∃ a, l[i]? = some a ∧ Rep S w hp φ a v := by
  induction l generalizing vs i with
  | nil => cases h; simp at hi
  | cons a t ih => cases h with
    | cons _ _ _ u _ vs h t => cases i with
      | zero => simp at hi; subst hi; exact ⟨a, rfl, h⟩
      | succ i => simpa using ih t (by simpa using hi)
theorem Reps.get' {S : Nat → Nat → Prop} {w : World} {hp : Hp} {φ : List Pl} {l : List AV} {vs : List Value} (h : Reps S w hp φ l vs) {i : Nat} {a : AV} (hi : l[i]? = some a) : ∃ v, vs[i]? = some v ∧ Rep S w hp φ a v := by
  have hlt := (List.getElem?_eq_some_iff.1 hi).1
  obtain ⟨v, hv⟩ : ∃ v, vs[i]? = some v := ⟨_, List.getElem?_eq_getElem (by rw [← h.length]; exact hlt)⟩
  obtain ⟨a', h1, h2⟩ := h.get hv
  rw [hi] at h1; cases h1
  exact ⟨v, hv, h2⟩
theorem Reps.of {S : Nat → Nat → Prop} {w : World} {hp : Hp} {φ : List Pl} {l : List AV} {vs : List Value} (hl : l.length = vs.length) (h : ∀ (i : Nat) a v, l[i]? = some a → vs[i]? = some v → Rep S w hp φ a v) : Reps S w hp φ l vs := by
  induction l generalizing vs with
  | nil => cases vs with
    | nil => exact .nil _ _
    | cons _ _ => simp at hl
  | cons a t ih => cases vs with
    | nil => simp at hl
    | cons v vs => exact .cons _ _ a v t vs (h 0 a v rfl rfl) (ih (by simpa using hl) fun i a v h1 h2 => h (i + 1) a v (by simpa using h1) (by simpa using h2))
theorem Reps.append {S : Nat → Nat → Prop} {w : World} {hp : Hp} {φ : List Pl} {l l' : List AV} {vs vs' : List Value} (h : Reps S w hp φ l vs) (h' : Reps S w hp φ l' vs') : Reps S w hp φ (l ++ l') (vs ++ vs') := by
  induction l generalizing vs with
  | nil => cases h; exact h'
  | cons a t ih => cases h with | cons _ _ _ v _ vs h t => exact .cons _ _ _ _ _ _ h (ih t)
theorem Reps.take {S : Nat → Nat → Prop} {w : World} {hp : Hp} {φ : List Pl} {l : List AV} {vs : List Value} (h : Reps S w hp φ l vs) (n : Nat) : Reps S w hp φ (l.take n) (vs.take n) := by
  induction l generalizing vs n with
  | nil => cases h; simp; exact .nil _ _
  | cons a t ih => cases h with
    | cons _ _ _ v _ vs h t => cases n with
      | zero => exact .nil _ _
      | succ n => exact .cons _ _ _ _ _ _ h (ih t n)
theorem Reps.drop {S : Nat → Nat → Prop} {w : World} {hp : Hp} {φ : List Pl} {l : List AV} {vs : List Value} (h : Reps S w hp φ l vs) (n : Nat) : Reps S w hp φ (l.drop n) (vs.drop n) := by
  induction l generalizing vs n with
  | nil => cases h; simp; exact .nil _ _
  | cons a t ih => cases h with
    | cons _ _ _ v _ vs h t => cases n with
      | zero => exact .cons _ _ _ _ _ _ h t
      | succ n => exact ih t n
theorem Reps.set {S : Nat → Nat → Prop} {w : World} {hp : Hp} {φ : List Pl} {l : List AV} {vs : List Value} (h : Reps S w hp φ l vs) (i : Nat) {a : AV} {v : Value} (hv : Rep S w hp φ a v) : Reps S w hp φ (l.set i a) (vs.set i v) := by
  induction l generalizing vs i with
  | nil => cases h; exact .nil _ _
  | cons b t ih => cases h with
    | cons _ _ _ u _ vs h t => cases i with
      | zero => exact .cons _ _ _ _ _ _ hv t
      | succ i => exact .cons _ _ _ _ _ _ h (ih t i)
theorem Repss.length {S : Nat → Nat → Prop} {w : World} {l : List (List AV)} {vss : List (List Value)} (h : Repss S w l vss) : l.length = vss.length := by
  induction l generalizing vss with
  | nil => cases h; rfl
  | cons a t ih => cases h with | cons _ _ _ _ h h1 t => simp [ih t]
theorem Repss.get {S : Nat → Nat → Prop} {w : World} {l : List (List AV)} {vss : List (List Value)} (h : Repss S w l vss) {i : Nat} {el : List AV} (hi : l[i]? = some el) : ∃ vs, vss[i]? = some vs ∧ Reps S w [] [] el vs ∧ Ones vs := by
  induction l generalizing vss i with
  | nil => simp at hi
  | cons a t ih => cases h with
    | cons _ vs _ _ h h1 t => cases i with
      | zero => simp at hi; subst hi; exact ⟨vs, rfl, h, h1⟩
      | succ i => simpa using ih t (by simpa using hi)
theorem Repss.append {S : Nat → Nat → Prop} {w : World} {l l' : List (List AV)} {vss vss' : List (List Value)} (h : Repss S w l vss) (h' : Repss S w l' vss') : Repss S w (l ++ l') (vss ++ vss') := by
  induction l generalizing vss with
  | nil => cases h; exact h'
  | cons a t ih => cases h with | cons _ _ _ _ h h1 t => exact .cons _ _ _ _ h h1 (ih t)
theorem Repss.take {S : Nat → Nat → Prop} {w : World} {l : List (List AV)} {vss : List (List Value)} (h : Repss S w l vss) (n : Nat) : Repss S w (l.take n) (vss.take n) := by
  induction l generalizing vss n with
  | nil => cases h; simp; exact .nil
  | cons a t ih => cases h with
    | cons _ _ _ _ h h1 t => cases n with
      | zero => exact .nil
      | succ n => exact .cons _ _ _ _ h h1 (ih t n)
theorem Repss.drop {S : Nat → Nat → Prop} {w : World} {l : List (List AV)} {vss : List (List Value)} (h : Repss S w l vss) (n : Nat) : Repss S w (l.drop n) (vss.drop n) := by
  induction l generalizing vss n with
  | nil => cases h; simp; exact .nil
  | cons a t ih => cases h with
    | cons _ _ _ _ h h1 t => cases n with
      | zero => exact .cons _ _ _ _ h h1 t
      | succ n => exact ih t n
theorem Repss.set {S : Nat → Nat → Prop} {w : World} {l : List (List AV)} {vss : List (List Value)} (h : Repss S w l vss) (i : Nat) {el : List AV} {vs : List Value} (hv : Reps S w [] [] el vs) (h1 : Ones vs) : Repss S w (l.set i el) (vss.set i vs) := by
  induction l generalizing vss i with
  | nil => cases h; exact .nil
  | cons b t ih => cases h with
    | cons _ _ _ _ h h1' t => cases i with
      | zero => exact .cons _ _ _ _ hv h1 t
      | succ i => exact .cons _ _ _ _ h h1' (ih t i)
theorem Repss.replicate {S : Nat → Nat → Prop} {w : World} {el : List AV} {vs : List Value} (hv : Reps S w [] [] el vs) (h1 : Ones vs) (n : Nat) : Repss S w (List.replicate n el) (List.replicate n vs) := by
  induction n with
  | zero => exact .nil
  | succ n ih => exact .cons _ _ _ _ hv h1 ih

section inv
variable {S : Nat → Nat → Prop} {w : World} {hp : Hp} {φ : List Pl} {v : Value}
theorem Rep.bool_inv {b : Bool} (h : Rep S w hp φ (.bool b) v) : v = .bool b := by cases h; rfl
theorem Rep.int_inv {k : IntKind} {n : Int} (h : Rep S w hp φ (.int k n) v) : v = .int k n ∧ (Lit.int k n).wf = true := by cases h; exact ⟨rfl, by assumption⟩
theorem Rep.str_inv {s : List UInt8} (h : Rep S w hp φ (.str s) v) : v = .string (bs s) ∧ s.length ≤ maxLen := by cases h; exact ⟨rfl, by assumption⟩
theorem Rep.ptr_inv {id off : Nat} (h : Rep S w hp φ (.ptr id off) v) : ∃ b, φ[id]? = some (.blk b) ∧ v = .pointer (some ⟨b, off, none⟩) := by cases h; exact ⟨_, by assumption, rfl⟩
theorem Rep.pte_inv {id i off : Nat} (h : Rep S w hp φ (.pte id i off) v) : ∃ b size els, φ[id]? = some (.blk b) ∧ nth? hp id = some (.arr size els) ∧ v = .pointer (some ⟨b, i * size + off, none⟩) := by
  cases h; exact ⟨_, _, _, by assumption, by assumption, rfl⟩
theorem Rep.rptr_inv {el : List AV} {off : Nat} (h : Rep S w hp φ (.rptr el off) v) : ∃ vs b o, Reps S w [] [] el vs ∧ Ones vs ∧ (∀ j u, vs[j]? = some u → S b (o + j) ∧ w.cell? ⟨b, o + j, none⟩ = some u) ∧ v = .pointer (some ⟨b, o + off, none⟩) := by
  cases h; exact ⟨_, _, _, by assumption, by assumption, by assumption, rfl⟩
theorem Rep.nils_inv (h : Rep S w hp φ .nils v) : v = .slice none 0 0 := by cases h; rfl
theorem Rep.sl_inv {size : Nat} {els : List (List AV)} (h : Rep S w hp φ (.sl size els) v) : ∃ vss a cap, Repss S w els vss ∧ Laid S w a size vss ∧ Cap a els.length cap ∧ v = .slice a els.length cap := by
  cases h; exact ⟨_, _, _, by assumption, by assumption, by assumption, rfl⟩
theorem Rep.row_inv {id n : Nat} (h : Rep S w hp φ (.row id n) v) : ∃ e size els, nth? hp id = some (.row e size els) ∧ n ≤ els.length ∧ Rep S w [] [] (.sl size (els.take n)) v ∧ (n = els.length → φ[id]? = some (.sv v)) := by
  cases h; exact ⟨_, _, _, by assumption, by assumption, by assumption, by assumption⟩
theorem Rep.own_inv {id off n : Nat} (h : Rep S w hp φ (.own id off n) v) : ∃ b size els cap ad, φ[id]? = some (.blk b) ∧ nth? hp id = some (.arr size els) ∧ off + n ≤ els.length ∧ (0 < n → ad = some ⟨b, off * size, none⟩) ∧ Cap ad n cap ∧ v = .slice ad n cap := by
  cases h; exact ⟨_, _, _, _, _, by assumption, by assumption, by assumption, by assumption, by assumption, rfl⟩
theorem Rep.agg_inv {cs : List AV} (h : Rep S w hp φ (.agg cs) v) : ∃ vs, Reps S w hp φ cs vs ∧ Ones vs ∧ v = .agg vs.toArray := by cases h; exact ⟨_, by assumption, by assumption, rfl⟩
theorem Rep.tup_inv {cs : List AV} (h : Rep S w hp φ (.tup cs) v) : ∃ vs, Reps S w hp φ cs vs ∧ v = .tuple vs.toArray := by cases h; exact ⟨_, by assumption, rfl⟩
theorem Rep.func_inv {f : FuncId} {x y : List AV} (h : Rep S w hp φ (.func f x y) v) : ∃ a b, Reps S w hp φ x a ∧ Reps S w hp φ y b ∧ v = .func (.func f) a.toArray b.toArray := by cases h; exact ⟨_, _, by assumption, by assumption, rfl⟩
/-- What is known of closed values holds beside any objects. -/
theorem Reps.lift {l : List AV} {vs : List Value} (h : Reps S w [] [] l vs) : Reps S w hp φ l vs := Reps.mono (SExt.refl S w) h ⟨fun _ _ h => by simp at h, fun _ _ _ h => by simp [nth?] at h, fun _ _ _ _ h => by simp [nth?] at h⟩
theorem Rep.lift {a : AV} (h : Rep S w [] [] a v) : Rep S w hp φ a v := Rep.mono (SExt.refl S w) h ⟨fun _ _ h => by simp at h, fun _ _ _ h => by simp [nth?] at h, fun _ _ _ _ h => by simp [nth?] at h⟩
end inv

/-- A value that may lie in a cell stands for one that does. -/
theorem Rep.oneCell {S : Nat → Nat → Prop} {w : World} {hp : Hp} {φ : List Pl} {a : AV} {v : Value} (h : Rep S w hp φ a v) (h1 : a.one = true) : v.oneCell' = true := by
  cases h <;> first | rfl | (simp [AV.one] at h1; done) | skip
  rename_i hs _
  cases hs
  rfl
theorem Reps.ones {S : Nat → Nat → Prop} {w : World} {hp : Hp} {φ : List Pl} {l : List AV} {vs : List Value} (h : Reps S w hp φ l vs) (h1 : l.all AV.one = true) : Ones vs := by
  induction l generalizing vs with
  | nil => cases h; intro v hv; simp at hv
  | cons a t ih => cases h with
    | cons _ _ _ v _ vs h t =>
      simp only [List.all_cons, Bool.and_eq_true] at h1
      intro u hu
      rcases List.mem_cons.1 hu with rfl | hu
      · exact h.oneCell h1.1
      · exact ih t h1.2 u hu

/-! ### The objects -/
def blockAt (φ : List Pl) (id : Nat) : Option Nat := match φ[id]? with
  | some (.blk b) => some b
  | some (.sv v) => v.ownBlock
  | none => none

def ObOk (P : Program) (base : Nat) (S : Nat → Nat → Prop) (w : World) (hp : Hp) (φ : List Pl) (id : Nat) : Ob → Prop
  | .var t cs => ∃ b vs E, φ[id]? = some (.blk b) ∧ base ≤ b ∧ w.heap[b]? = some (.cells vs.toArray E (0, 0)) ∧ Reps S w hp φ cs vs ∧ Ones vs ∧ ∀ o, ¬ S b o
  | .arr size els => ∃ b vss ex E, φ[id]? = some (.blk b) ∧ base ≤ b ∧ w.heap[b]? = some (.cells (vss.flatten ++ ex).toArray E (0, 0)) ∧ Repss S w els vss ∧ (∀ vs ∈ vss, vs.length = size) ∧ ∀ o, ¬ S b o
  | .row e size els => ∃ v vss, φ[id]? = some (.sv v) ∧ w.ownsRow base e size v els.length vss.flatten ∧ Repss S w els vss ∧ (∀ vs ∈ vss, vs.length = size) ∧ 0 < size ∧ P.cellsOf e = size ∧ ∀ g, v.ownBlock = some g → ∀ o, S g o ↔ o < els.length * size

structure Sim (P : Program) (base : Nat) (S : Nat → Nat → Prop) (w : World) (hp : Hp) (φ : List Pl) : Prop where
  len : φ.length = hp.length
  low : base ≤ w.heap.size
  cell : ∀ (b o : Nat), S b o → ∃ v, w.cell? ⟨b, o, none⟩ = some v
  obj : ∀ (id : Nat) o, hp[id]? = some o → ObOk P base S w hp φ id o
  apart : ∀ i j b, blockAt φ i = some b → blockAt φ j = some b → i = j

/-- What a step leaves as it was. -/
structure Trans (base : Nat) (S : Nat → Nat → Prop) (w : World) (hp : Hp) (φ : List Pl) (S' : Nat → Nat → Prop) (w' : World) (hp' : Hp) (φ' : List Pl) : Prop where
  s : SExt S w S' w'
  hp : HpExt hp φ hp' φ'
  below : Below base w w'
  new : ∀ b o, S' b o → S b o ∨ base ≤ b
theorem Trans.refl (base : Nat) (S : Nat → Nat → Prop) (w : World) (hp : Hp) (φ : List Pl) : Trans base S w hp φ S w hp φ := ⟨.refl _ _, .refl _ _, .refl _ _, fun _ _ h => .inl h⟩
theorem Trans.trans {base : Nat} {S1 S2 S3 : Nat → Nat → Prop} {w1 w2 w3 : World} {hp1 hp2 hp3 : Hp} {φ1 φ2 φ3 : List Pl} (h : Trans base S1 w1 hp1 φ1 S2 w2 hp2 φ2) (k : Trans base S2 w2 hp2 φ2 S3 w3 hp3 φ3) : Trans base S1 w1 hp1 φ1 S3 w3 hp3 φ3 :=
  ⟨h.s.trans k.s, h.hp.trans k.hp, h.below.trans k.below, fun b o hb => (k.new b o hb).elim (h.new b o) .inr⟩

theorem cell_lt {w : World} {b o : Nat} {v : Value} (h : w.cell? ⟨b, o, none⟩ = some v) : b < w.heap.size := World.block_lt_of_cell? _ _ h

end Go.Proofs.Ytaocgmkcjemecaa
end

/- The interpreter is sound: plain operations. Parts of the proofs of the laws. Conditions: none. -/
section
namespace Go.Proofs.Ytaocgmkcjemecaa
open Go.RowKit
set_option linter.unusedVariables false
set_option linter.unusedSimpArgs false

section force
variable {ρ : Type}
theorem force1_eq (K : AV → Option ρ) (a : AV) : force1 K a = K a := by cases a <;> rfl
theorem forceL_eq {g : (AV → Option ρ) → AV → Option ρ} (hg : ∀ K a, g K a = K a) (K : List AV → Option ρ) (l : List AV) : forceL g K l = K l := by
  induction l generalizing K with
  | nil => rfl
  | cons a t ih => simp only [forceL, hg, ih]
theorem forceO_eq (K : List Oper → Option ρ) (l : List Oper) : forceO K l = K l := by
  induction l generalizing K with
  | nil => rfl
  | cons a t ih => simp only [forceO, ih]
theorem runOps_cons {P : Program} {H : Hints} {call : CallT} {f : FuncId} {ops : List Oper} {o : Oper} {l : List Oper} {tm : Tm} {hp : Hp} {K : Tm → Hp → Option ρ} : runOps P H call f ops (o :: l) tm hp K = opThen P H call f ops o (runOps P H call f ops l) tm hp K := rfl
theorem runC_region {P : Program} {H : Hints} {call : CallT} {f : FuncId} {fuel id : Nat} {ops : Array Oper} {d : Bool} {tm : Tm} {hp : Hp} {K : Ex → Tm → Hp → Option ρ} : runC P H call f fuel (.region id ops d) tm hp K = runOps P H call f ops.toList (orderL ops.toList (H.order f id)) tm hp fun tm hp => K .normal tm hp := forceO_eq _ _
theorem runC_cond {P : Program} {H : Hints} {call : CallT} {f : FuncId} {fuel : Nat} {x : Operand} {a b : Code} {tm : Tm} {hp : Hp} {K : Ex → Tm → Hp → Option ρ} : runC P H call f fuel (.cond x a b) tm hp K = match ev tm x with
      | .bool t => bif t then runC P H call f fuel a tm hp K else runC P H call f fuel b tm hp K
      | _ => none := rfl
theorem runC_loop {P : Program} {H : Hints} {call : CallT} {f : FuncId} {fuel : Nat} {b : Code} {tm : Tm} {hp : Hp} {K : Ex → Tm → Hp → Option ρ} : runC P H call f fuel (.loop b) tm hp K = forceHp (fun hp1 => forceL force (fun tm => forceHp (fun hp2 => rounds (runC P H call f fuel b) (H.keep f (firstReg b)) hp1.length fuel tm hp2 K) (waneHp hp1.length hp1)) (keepTm (H.keep f (firstReg b) 0) hp1.length hp1 0 tm)) (upsHp P (H.ups f) hp) := rfl
theorem force2_eq (K : AV → Option ρ) (a : AV) : force2 K a = K a := by
  cases a <;> simp only [force2, forceL_eq force1_eq, force1_eq]
theorem force_eq (K : AV → Option ρ) (a : AV) : force K a = K a := by
  cases a <;> simp only [force, forceL_eq force2_eq, force2_eq]
theorem forceOb_eq (K : Ob → Option ρ) (o : Ob) : forceOb K o = K o := by
  cases o <;> simp only [forceOb, forceL_eq force2_eq]
theorem forceHp_eq (K : Hp → Option ρ) (l : Hp) : forceHp K l = K l := by
  induction l generalizing K with
  | nil => rfl
  | cons a t ih => simp only [forceHp, forceOb_eq, ih]
theorem setK_eq {α : Type} (K : List α → Option ρ) (v : α) (l : List α) (n : Nat) : setK K v l n = K (setNth l n v) := by
  induction l generalizing K n with
  | nil => rfl
  | cons a t ih => cases n with
    | zero => rfl
    | succ n => simp only [setK, ih, setNth]
theorem putK_eq (tm : Tm) (d : Option Tmp) (v : AV) (K : Tm → Option ρ) : putK tm d v K = K (put tm d v) := by
  cases d <;> simp only [putK, put, force_eq, setK_eq]
end force

theorem wf_wrap (k : IntKind) (n : Int) : (Lit.int k (k.wrap n)).wf = true := by
  cases k <;> simp only [Lit.wf, IntKind.wrap, IntKind.min, IntKind.max, IntKind.bits, IntKind.signed, Bool.true_and, Bool.false_and, if_true, Bool.and_eq_true, decide_eq_true_eq] <;>
    first
    | (simp; omega)
    | (split <;> simp at * <;> omega)
theorem wf_tmod {k : IntKind} {a b : Int} (h : (Lit.int k a).wf = true) (hb : b ≠ 0) : (Lit.int k (a.tmod b)).wf = true := by
  have h1 : -a.natAbs ≤ a.tmod b ∧ a.tmod b ≤ a.natAbs := by
    have := Int.natAbs_tmod a b
    have h2 : a.natAbs % b.natAbs ≤ a.natAbs := Nat.mod_le _ _
    omega
  have h3 : 0 ≤ a → 0 ≤ a.tmod b := fun h => Int.tmod_nonneg b h
  have h4 : a ≤ 0 → a.tmod b ≤ 0 := fun h => by
    have := Int.neg_tmod (a := a) (b := b)
    have h5 := Int.tmod_nonneg b (a := -a) (by omega)
    omega
  cases k <;> simp only [Lit.wf, IntKind.min, IntKind.max, IntKind.bits, IntKind.signed, Bool.and_eq_true, decide_eq_true_eq, if_true, Bool.false_eq_true, if_false] at h ⊢ <;> omega
theorem wf_len {n : Nat} (h : n ≤ maxLen) : (Lit.int .i64 (n : Int)).wf = true := by
  unfold maxLen at h
  simp [Lit.wf, IntKind.min, IntKind.max, IntKind.bits, IntKind.signed]; omega
theorem wf_byte (b : UInt8) : (Lit.int .u8 (b.toNat : Int)).wf = true := by
  have := b.toNat_lt
  simp [Lit.wf, IntKind.min, IntKind.max, IntKind.bits, IntKind.signed]; omega

section
variable {S : Nat → Nat → Prop} {w : World} {hp : Hp} {φ : List Pl}

theorem lit1_rep (v : Value) : Rep S w hp φ (lit1 v) v := by
  unfold lit1
  split
  · exact .bool _ _ _
  · split
    · rename_i h; exact .int _ _ _ _ h
    · exact .junk _ _ _
  · rename_i s
    split
    · rename_i h
      have := Rep.str (S := S) (w := w) hp φ s.data.toList (by have := of_decide_eq_true h; unfold maxLen; omega)
      simpa [bs] using this
    · exact .junk _ _ _
  · exact .nilp _ _
  · exact .nils _ _
  · exact .nilf _ _
  · exact .junk _ _ _
theorem lit_rep (v : Value) : Rep S w hp φ (lit v) v := by
  unfold lit
  split
  · rename_i cs
    split
    · rename_i h
      have := Rep.agg (S := S) (w := w) hp φ (cs.toList.map lit1) cs.toList (Reps.of (by simp) fun i a v h1 h2 => by
        rw [List.getElem?_map] at h1
        rw [h2] at h1
        cases h1
        exact lit1_rep v) (by rw [List.all_eq_true] at h; exact h)
      simpa using this
    · exact .junk _ _ _
  · exact lit1_rep _
theorem ev_rep {tm : Tm} {a : Act} (h : Reps S w hp φ tm a.tmps.toList) (x : Operand) : Rep S w hp φ (ev tm x) (a.eval x) := by
  cases x with
  | tmp t =>
    simp only [ev, Act.eval, nth_eq]
    cases hv : a.tmps[t]? with
    | none =>
      have : tm[t]? = none := by
        rw [List.getElem?_eq_none_iff, h.length]
        simpa using hv
      rw [this]; exact .junk _ _ _
    | some v =>
      obtain ⟨x, h1, h2⟩ := h.get (i := t) (v := v) (by simpa using hv)
      have : a.tmps.getD t undef = v := by simp [Array.getD_eq_getD_getElem?, hv]
      rw [h1, this]; exact h2
  | const v => exact lit_rep v
  | func f => exact .func _ _ f [] [] [] [] (.nil _ _) (.nil _ _)
  | global g => exact .junk _ _ _

/-- What an operation that leaves the world alone yields. -/
def Gives (P : Program) (S : Nat → Nat → Prop) (w : World) (hp : Hp) (φ : List Pl) (e : Operand → Value) (o : Oper) (v : AV) : Prop := ∃ u, (execOp e o).run P w = .ok (.value u) w ∧ Rep S w hp φ v u

variable {P : Program} {e : Operand → Value} {o : Oper} {tm : Tm} {ρ : Type} {r : ρ} {K : AV → Option ρ}

theorem gives_move (ht : ∀ x, Rep S w hp φ (ev tm x) (e x)) {x : Operand} (ho : o.op = .move x ∨ o.op = .assign x) : Gives P S w hp φ e o (ev tm x) := by
  refine ⟨e x, ?_, ht x⟩
  rcases ho with ho | ho <;> simp [execOp, ho, go_sem]
theorem gives_pick (ht : ∀ x, Rep S w hp φ (ev tm x) (e x)) {c x y : Operand} (ho : o.op = .pick c x y) {t : Bool} (hc : ev tm c = .bool t) : Gives P S w hp φ e o (bif t then ev tm x else ev tm y) := by
  have h1 := ht c
  rw [hc] at h1
  cases he : e c <;> rw [he] at h1 <;> cases h1
  cases t
  · exact ⟨e y, by simp [execOp, ho, go_sem, he, asBool], ht y⟩
  · exact ⟨e x, by simp [execOp, ho, go_sem, he, asBool], ht x⟩
theorem gives_not (ht : ∀ x, Rep S w hp φ (ev tm x) (e x)) {x : Operand} {t : TypeId} (ho : o.op = .unOp .not t x) {b : Bool} (hc : ev tm x = .bool b) : Gives P S w hp φ e o (.bool (!b)) := by
  have h1 := ht x
  rw [hc] at h1
  cases he : e x <;> rw [he] at h1 <;> cases h1
  exact ⟨.bool (!b), by simp [execOp, ho, go_sem, he, Op.unary], .bool _ _ _⟩
theorem gives_neg (ht : ∀ x, Rep S w hp φ (ev tm x) (e x)) {x : Operand} {t : TypeId} (ho : o.op = .unOp .neg t x) {k : IntKind} {n : Int} (hc : ev tm x = .int k n) : Gives P S w hp φ e o (.int k (k.wrap (0 - n))) := by
  have h1 := ht x
  rw [hc] at h1
  cases he : e x <;> rw [he] at h1 <;> cases h1
  exact ⟨.int k (k.wrap (0 - n)), by simp [execOp, ho, go_sem, he, Op.unary, Op.intArith], .int _ _ _ _ (wf_wrap _ _)⟩
theorem gives_extract (ht : ∀ x, Rep S w hp φ (ev tm x) (e x)) {x : Operand} {k : Nat} (ho : o.op = .extract x k) {cs : List AV} (hc : ev tm x = .tup cs) {v : AV} (hk : nth? cs k = some v) : Gives P S w hp φ e o v := by
  have h1 := ht x
  rw [hc] at h1
  cases he : e x <;> rw [he] at h1 <;> cases h1
  rename_i vs hr
  rw [nth?_eq] at hk
  obtain ⟨u, h2, h3⟩ := hr.get' hk
  exact ⟨u, by simp [execOp, ho, go_sem, he, Instr.extract, h2], h3⟩
theorem gives_binInt (op : BinOp) {t t' : TypeId} {x y : Operand} (ho : o.op = .binOp op t x y t') {k : IntKind} {m n : Int} (hx : e x = .int k m) (hy : e y = .int k n) (hm : (Lit.int k m).wf = true)
    (h : binInt op k m n K = some r) : ∃ v, K v = some r ∧ Gives P S w hp φ e o v := by
  cases op <;> simp only [binInt] at h <;> first | (cases h; done) | skip
  case add => exact ⟨_, h, _, by simp [execOp, ho, go_sem, hx, hy, eqGuard, binOp, Op.intArith], .int _ _ _ _ (wf_wrap _ _)⟩
  case sub => exact ⟨_, h, _, by simp [execOp, ho, go_sem, hx, hy, eqGuard, binOp, Op.intArith], .int _ _ _ _ (wf_wrap _ _)⟩
  case mul => exact ⟨_, h, _, by simp [execOp, ho, go_sem, hx, hy, eqGuard, binOp, Op.intArith], .int _ _ _ _ (wf_wrap _ _)⟩
  case quo =>
    by_cases hn : n = 0
    · simp [hn] at h
    · rw [decide_eq_false hn] at h
      exact ⟨_, h, _, by simp [execOp, ho, go_sem, hx, hy, eqGuard, binOp, Op.intDiv, hn], .int _ _ _ _ (wf_wrap _ _)⟩
  case rem =>
    by_cases hn : n = 0
    · simp [hn] at h
    · rw [decide_eq_false hn] at h
      exact ⟨_, h, _, by simp [execOp, ho, go_sem, hx, hy, eqGuard, binOp, Op.intDiv, hn], .int _ _ _ _ (wf_tmod hm hn)⟩
  case eql => exact ⟨_, h, _, by simp [execOp, ho, go_sem, hx, hy, eqGuard, binOp, Op.intCmp], .bool _ _ _⟩
  case neq => exact ⟨_, h, _, by simp [execOp, ho, go_sem, hx, hy, eqGuard, binOp, Op.intCmp], .bool _ _ _⟩
  case lss => exact ⟨_, h, _, by simp [execOp, ho, go_sem, hx, hy, eqGuard, binOp, Op.intCmp], .bool _ _ _⟩
  case leq => exact ⟨_, h, _, by simp [execOp, ho, go_sem, hx, hy, eqGuard, binOp, Op.intCmp], .bool _ _ _⟩
  case gtr => exact ⟨_, h, _, by simp [execOp, ho, go_sem, hx, hy, eqGuard, binOp, Op.intCmp], .bool _ _ _⟩
  case geq => exact ⟨_, h, _, by simp [execOp, ho, go_sem, hx, hy, eqGuard, binOp, Op.intCmp], .bool _ _ _⟩

theorem flatten_at {α : Type} {vss : List (List α)} {size : Nat} (h : ∀ vs ∈ vss, vs.length = size) {i j : Nat} {vs : List α} (hi : vss[i]? = some vs) (hj : j < size) : vss.flatten[i * size + j]? = vs[j]? := by
  induction vss generalizing i with
  | nil => simp at hi
  | cons a t ih =>
    have ha := h a (by simp)
    cases i with
    | zero =>
      simp at hi; subst hi
      rw [List.flatten_cons, Nat.zero_mul, Nat.zero_add, List.getElem?_append_left (by omega)]
    | succ i =>
      rw [List.flatten_cons, List.getElem?_append_right (by rw [ha, Nat.succ_mul]; omega), ha, show (i + 1) * size + j - size = i * size + j by rw [Nat.succ_mul]; omega]
      exact ih (fun vs hv => h vs (by simp [hv])) (by simpa using hi)
theorem flatten_len {α : Type} {vss : List (List α)} {size : Nat} (h : ∀ vs ∈ vss, vs.length = size) : vss.flatten.length = vss.length * size := by
  induction vss with
  | nil => simp
  | cons a t ih => rw [List.flatten_cons, List.length_append, ih (fun vs hv => h vs (by simp [hv])), h a (by simp), List.length_cons, Nat.succ_mul]; omega
theorem add_none (b o j : Nat) : (⟨b, o, none⟩ : Addr).add j = ⟨b, o + j, none⟩ := by unfold Addr.add; split <;> simp_all
theorem sub_some {l : List AV} {off n : Nat} {K : List AV → Option ρ} (h : sub l off n K = some r) : off + n ≤ l.length ∧ K ((l.drop off).take n) = some r := by
  unfold sub at h
  by_cases hn : off + n ≤ l.length
  · rw [decide_eq_true hn] at h; exact ⟨hn, h⟩
  · rw [decide_eq_false hn] at h; cases h
theorem run_isAgg {t : TypeId} {b : Bool} (h : aggOf P t = some b) : (isAgg t).run P w = .ok b w := by
  unfold aggOf at h
  cases hu : P.underlying t with
  | none => rw [hu] at h; cases h
  | some d => rw [hu] at h; cases d <;> simp at h <;> subst h <;> simp [isAgg, run_underlying hu]
theorem info_of_agg {t : TypeId} {b : Bool} (h : aggOf P t = some b) : ∃ i, P.info? t = some i ∧ P.cellsOf t = i.size := by
  unfold aggOf Program.underlying at h
  cases hi : P.info? t with
  | none => rw [hi] at h; simp at h
  | some i => exact ⟨i, rfl, by simp [Program.cellsOf, hi]⟩

/-- Cells that are read as a value of a type. -/
theorem read_cells {t : TypeId} {ad : Addr} {cs : List AV} {vs : List Value} (hr : Reps S w hp φ cs vs) (h1 : Ones vs) (hc : ∀ j v, vs[j]? = some v → w.cell? (ad.add j) = some v) (hl : cs.length = P.cellsOf t)
    (h : mkAgg (aggOf P t) cs K = some r) : ∃ v u, K v = some r ∧ (loadVar t ad).run P w = .ok u w ∧ Rep S w hp φ v u := by
  cases hb : aggOf P t with
  | none => rw [hb] at h; simp [mkAgg] at h
  | some b =>
    rw [hb] at h
    obtain ⟨i, hi, hsz⟩ := info_of_agg hb
    have hra := run_isAgg (w := w) hb
    cases b with
    | true =>
      refine ⟨.agg cs, .agg vs.toArray, h, ?_, .agg _ _ _ _ hr h1⟩
      have hlen : vs.length = i.size := by rw [← hr.length, hl, hsz]
      have hl2 := run_loadCells_list (P := P) w ad vs hc
      rw [hlen] at hl2
      simp [loadVar, hra, sizeOf, typeInfo, hi, hl2]
    | false =>
      cases hr with
      | nil => simp [mkAgg] at h
      | cons _ _ a v l vs ha ht =>
        cases l with
        | cons _ _ => simp [mkAgg] at h
        | nil =>
          refine ⟨a, v, h, ?_, ha⟩
          have := hc 0 v rfl
          rw [Addr.add, if_pos rfl] at this
          simp [loadVar, hra, go_sem, this]

theorem load_var {base : Nat} (hs : Sim P base S w hp φ) {t : TypeId} {av : AV} {ex : Value} (hx : Rep S w hp φ av ex) (h : load P hp t K av = some r) : ∃ ad v u, ex = .pointer (some ad) ∧ K v = some r ∧ (loadVar t ad).run P w = .ok u w ∧ Rep S w hp φ v u := by
  have fin : ∀ ad, ex = .pointer (some ad) → (∃ v u, K v = some r ∧ (loadVar t ad).run P w = .ok u w ∧ Rep S w hp φ v u) → ∃ ad v u, ex = .pointer (some ad) ∧ K v = some r ∧ (loadVar t ad).run P w = .ok u w ∧ Rep S w hp φ v u := by
    rintro ad he ⟨v, u, h1, h2, h3⟩
    exact ⟨ad, v, u, he, h1, h2, h3⟩
  cases hav : av <;> rw [hav] at h hx <;> simp only [load] at h <;> first | (cases h; done) | skip
  case ptr id off =>
    obtain ⟨b, hb, hex⟩ := hx.ptr_inv
    rw [nth?_eq] at h
    cases ho' : hp[id]? with
    | none => rw [ho'] at h; cases h
    | some ob =>
      rw [ho'] at h
      cases ob <;> simp only at h <;> first | (cases h; done) | skip
      rename_i E cs
      obtain ⟨hle, h⟩ := sub_some h
      obtain ⟨b', vs, E', h1, h2, h3, h4, h5, h6⟩ := hs.obj id _ ho'
      rw [hb] at h1; cases h1
      refine fin _ hex (read_cells (h4.drop off |>.take _) (fun v hv => h5 v (List.mem_of_mem_drop (List.mem_of_mem_take hv))) ?_ ?_ h)
      · intro j v hj
        rw [add_none]
        have : vs[off + j]? = some v := by
          rw [List.getElem?_take] at hj
          split at hj
          · rwa [List.getElem?_drop] at hj
          · cases hj
        simp [World.cell?, h3, this]
      · rw [List.length_take, List.length_drop]; omega
  case pte id i off =>
    obtain ⟨b, size, els, hb, hob, hex⟩ := hx.pte_inv
    rw [nth?_eq] at h hob
    rw [hob] at h
    simp only at h
    cases hel : nth? els i with
    | none => rw [hel] at h; cases h
    | some el =>
      rw [hel] at h
      simp only at h
      rw [nth?_eq] at hel
      obtain ⟨hle, h⟩ := sub_some h
      obtain ⟨b', vss, ex, E', h1, h2, h3, h4, h5, h6⟩ := hs.obj id _ hob
      rw [hb] at h1; cases h1
      obtain ⟨vs, hv1, hv2, hv3⟩ := h4.get hel
      have hsz : vs.length = size := h5 vs (List.mem_of_getElem? hv1)
      have hv2' := Reps.mono (hp' := hp) (φ' := φ) (SExt.refl S w) hv2 ⟨fun _ _ h => by simp at h, fun _ _ _ h => by simp [nth?] at h, fun _ _ _ _ h => by simp [nth?] at h⟩
      refine fin _ hex (read_cells (hv2'.drop off |>.take _) (fun v hv => hv3 v (List.mem_of_mem_drop (List.mem_of_mem_take hv))) ?_ ?_ h)
      · intro j v hj
        rw [add_none]
        have hj' : vs[off + j]? = some v := by
          rw [List.getElem?_take] at hj
          split at hj
          · rwa [List.getElem?_drop] at hj
          · cases hj
        have hlt := (List.getElem?_eq_some_iff.1 hj').1
        have h0 : vss.flatten[i * size + (off + j)]? = some v := by rw [flatten_at h5 hv1 (by omega), hj']
        have : (vss.flatten ++ ex)[i * size + (off + j)]? = some v := by rw [List.getElem?_append_left (List.getElem?_eq_some_iff.1 h0).1]; exact h0
        simp [World.cell?, h3]
        rw [show i * size + off + j = i * size + (off + j) by omega]
        simpa using this
      · rw [List.length_take, List.length_drop]; omega
  case rptr el off =>
    obtain ⟨vs, b, ob, hr, h1, hl, hex⟩ := hx.rptr_inv
    obtain ⟨hle, h⟩ := sub_some h
    have hr' := Reps.mono (hp' := hp) (φ' := φ) (SExt.refl S w) hr ⟨fun _ _ h => by simp at h, fun _ _ _ h => by simp [nth?] at h, fun _ _ _ _ h => by simp [nth?] at h⟩
    refine fin _ hex (read_cells (hr'.drop off |>.take _) (fun v hv => h1 v (List.mem_of_mem_drop (List.mem_of_mem_take hv))) ?_ ?_ h)
    · intro j v hj
      rw [add_none]
      have hj' : vs[off + j]? = some v := by
        rw [List.getElem?_take] at hj
        split at hj
        · rwa [List.getElem?_drop] at hj
        · cases hj
      have := (hl _ _ hj').2
      rwa [← Nat.add_assoc] at this
    · rw [List.length_take, List.length_drop]; omega

theorem gives_load {base : Nat} (hs : Sim P base S w hp φ) (ht : ∀ x, Rep S w hp φ (ev tm x) (e x)) {t : TypeId} {x : Operand} (ho : o.op = .load t x) (h : load P hp t K (ev tm x) = some r) : ∃ v, K v = some r ∧ Gives P S w hp φ e o v := by
  obtain ⟨ad, v, u, he, h1, h2, h3⟩ := load_var hs (ht x) h
  exact ⟨v, h1, u, by simp only [execOp, ho, Instr.loadAt, Instr.sureAddr, he, Sem.run_bind, Sem.run_pure, Result.andThen_ok, h2], h3⟩
theorem run_sizeOf {t : TypeId} (h : 0 < P.cellsOf t) : (sizeOf t).run P w = .ok (P.cellsOf t) w := by
  unfold Program.cellsOf at h ⊢
  cases hi : P.info? t with
  | none => rw [hi] at h; simp at h
  | some i => simp [sizeOf, typeInfo, hi]
theorem elem_of {t et : TypeId} (h : elemOf P t = some et) : P.underlying t = some (.slice et) := by
  unfold elemOf at h
  cases hu : P.underlying t with
  | none => rw [hu] at h; cases h
  | some d => rw [hu] at h; cases d <;> simp at h; subst h; rfl
theorem field_of {t : TypeId} {f off : Nat} {ft : TypeId} (h : fieldOf P t f = some (off, ft)) : ∃ fs fd, P.underlying t = some (.struct fs) ∧ fs[f]? = some fd ∧ fd.offset = off ∧ fd.type = ft := by
  unfold fieldOf at h
  cases hu : P.underlying t with
  | none => rw [hu] at h; cases h
  | some d =>
    rw [hu] at h
    cases d <;> simp at h
    rename_i fs
    obtain ⟨fd, h1, h2, h3⟩ := h
    exact ⟨fs, fd, rfl, h1, h2, h3⟩

theorem gives_fieldAddr (ht : ∀ x, Rep S w hp φ (ev tm x) (e x)) {t : TypeId} {x : Operand} {f : Nat} (ho : o.op = .fieldAddr t x f) {p : Nat × TypeId} (hf : fieldOf P t f = some p) (hp0 : 0 < P.cellsOf p.2) (h : shiftP K (ev tm x) p.1 = some r) : ∃ v, K v = some r ∧ Gives P S w hp φ e o v := by
  have hx := ht x
  obtain ⟨off, ft⟩ := p
  obtain ⟨fs, fd, hu, hfd, h1, h2⟩ := field_of hf
  subst h1; subst h2
  have hz := run_sizeOf (w := w) hp0
  generalize ev tm x = av at *
  have fin : ∀ b o', e x = .pointer (some ⟨b, o', none⟩) → (execOp e o).run P w = .ok (.value (.pointer (some ⟨b, o' + fd.offset, none⟩))) w := by
    intro b o' he
    have hne : P.cellsOf fd.type ≠ 0 := by simp only at hp0; omega
    simp only [execOp, ho, Instr.fieldAt, Instr.sureAddr, he, fieldPlace, Sem.run_bind, Sem.run_pure, Result.andThen_ok, run_underlying hu, hfd, hz, if_neg hne, add_none]
  generalize hex : e x = ex at hx
  cases hx <;> simp only [shiftP] at h <;> first | (cases h; done) | skip
  case ptr id off b hb => exact ⟨_, h, _, fin _ _ hex, .ptr _ _ id _ b hb⟩
  case pte id i off b size els hb hob => exact ⟨_, h, _, fin _ _ hex, by rw [Nat.add_assoc]; exact .pte _ _ id i _ b size els (by assumption) (by assumption)⟩
  case rptr el off vs b ob hr h1 hl => exact ⟨_, h, _, fin _ _ hex, by rw [Nat.add_assoc]; exact .rptr _ _ el _ vs b ob hr h1 hl⟩

theorem arr_of {t : TypeId} {n : Nat} {et : TypeId} (h : arrOf P t = some (n, et)) : P.underlying t = some (.array n et) := by
  unfold arrOf at h
  cases hu : P.underlying t with
  | none => rw [hu] at h; cases h
  | some d => rw [hu] at h; cases d <;> simp at h; obtain ⟨rfl, rfl⟩ := h; rfl
theorem gives_indexArr (ht : ∀ x, Rep S w hp φ (ev tm x) (e x)) {t : TypeId} {x y : Operand} (ho : o.op = .indexAddr t x y) {k : IntKind} {i : Int} (hy : ev tm y = .int k i) {n : Nat} {et : TypeId} (ha : arrOf P t = some (n, et)) (hz : 0 < P.cellsOf et) (h0 : 0 ≤ i) (hlt : i < n) (h : shiftP K (ev tm x) (i.toNat * P.cellsOf et) = some r) : ∃ v, K v = some r ∧ Gives P S w hp φ e o v := by
  have hx := ht x
  have hi := ht y
  rw [hy] at hi
  have hu := arr_of ha
  have hey : e y = .int k i := by generalize hex : e y = ex at hi; cases hi; rfl
  have hsz := run_sizeOf (w := w) hz
  generalize ev tm x = av at *
  have fin : ∀ b o', e x = .pointer (some ⟨b, o', none⟩) → (execOp e o).run P w = .ok (.value (.pointer (some ⟨b, o' + i.toNat * P.cellsOf et, none⟩))) w := by
    intro b o' he
    simp only [execOp, ho, Instr.indexAt, Instr.sureAddr, he, hey, asIntOf, Sem.run_bind, Sem.run_pure, Result.andThen_ok, run_underlying hu, h0, hlt, and_self, if_true, hsz, add_none]
  generalize hex : e x = ex at hx
  cases hx <;> simp only [shiftP] at h <;> first | (cases h; done) | skip
  case ptr id off b hb => exact ⟨_, h, _, fin _ _ hex, .ptr _ _ id _ b hb⟩
  case pte id j off b size els hb hob => exact ⟨_, h, _, fin _ _ hex, by rw [Nat.add_assoc]; exact .pte _ _ id j _ b size els (by assumption) (by assumption)⟩
  case rptr el off vs b ob hr h1 hl => exact ⟨_, h, _, fin _ _ hex, by rw [Nat.add_assoc]; exact .rptr _ _ el _ vs b ob hr h1 hl⟩

theorem gives_len_fin {x : Operand} {t : TypeId} (ho : o.op = .call { callee := .builtin .len, args := #[x], argTypes := #[t] }) (n : Nat) (hn : n ≤ maxLen) (hr : (Builtin.len_ #[t] o.type #[e x]).run P w = .ok (.int .i64 (n : Int)) w) : Gives P S w hp φ e o (.int .i64 n) := by
  refine ⟨_, ?_, .int _ _ _ _ (wf_len hn)⟩
  simp only [execOp, ho, resolve, invoke, builtin, Sem.run_bind, Sem.run_pure, Result.andThen_ok, List.map_toArray, List.map_cons, List.map_nil, hr]
theorem gives_len_str (ht : ∀ x, Rep S w hp φ (ev tm x) (e x)) {x : Operand} {t : TypeId} (ho : o.op = .call { callee := .builtin .len, args := #[x], argTypes := #[t] }) (hu : P.underlying t = some .string) {s : List UInt8} (h : ev tm x = .str s) : Gives P S w hp φ e o (.int .i64 s.length) := by
  have hx := ht x
  rw [h] at hx
  generalize hex : e x = ex at hx
  cases hx with
  | str _ _ _ hs => exact gives_len_fin ho _ hs (by rw [hex]; simp only [Builtin.len_, run_underlying hu, goInt, Sem.run_bind, Sem.run_pure, Result.andThen_ok, List.getElem?_toArray, List.getElem?_cons_zero]; rfl)
theorem gives_len_slice (ht : ∀ x, Rep S w hp φ (ev tm x) (e x)) {x : Operand} {t et : TypeId} (ho : o.op = .call { callee := .builtin .len, args := #[x], argTypes := #[t] }) (hu : P.underlying t = some (.slice et)) (h : alen (fun n => K (.int .i64 n)) (ev tm x) = some r) : ∃ v, K v = some r ∧ Gives P S w hp φ e o v := by
  have hx := ht x
  generalize ev tm x = av at *
  generalize hex : e x = ex at hx
  have fin : ∀ (a : Option Addr) (n cap : Nat), ex = .slice a n cap → n ≤ maxLen → K (.int .i64 n) = some r → ∃ v, K v = some r ∧ Gives P S w hp φ e o v := fun a n cap he hn hK => by
    subst he
    exact ⟨_, hK, gives_len_fin ho n hn (by rw [hex]; simp [Builtin.len_, run_underlying hu, goInt])⟩
  cases av <;> simp only [alen] at h <;> first | (cases h; done) | skip
  case nils => exact fin _ 0 _ hx.nils_inv (by unfold maxLen; omega) h
  case sl size els =>
    obtain ⟨vss, a, cap, hr, hl, hc, rfl⟩ := hx.sl_inv
    exact fin _ _ _ rfl (by have := hc.1; have := hc.2.1; omega) h
  case row id n =>
    obtain ⟨et', size, els, ho', hn, hs, hcur⟩ := hx.row_inv
    obtain ⟨vss, a, cap, hr, hl, hc, rfl⟩ := hs.sl_inv
    have hlen : (els.take n).length = n := by rw [List.length_take]; omega
    exact fin a _ cap rfl (by have := hc.1; have := hc.2.1; omega) (by rw [hlen]; exact h)
  case own id off n =>
    obtain ⟨b, size, els, cap, ad, hb, hob, hn, had, hc, rfl⟩ := hx.own_inv
    exact fin _ _ _ rfl (by have := hc.1; have := hc.2.1; omega) h
theorem elemAt_some {size n : Nat} {els : List (List AV)} {i : Int} {sz : Nat} (h : elemAt size n els i sz K = some r) : ∃ el, (size = sz ∧ 0 < sz) ∧ 0 ≤ i ∧ i < n ∧ els[i.toNat]? = some el ∧ K (.rptr el 0) = some r := by
  unfold elemAt at h
  split at h
  · rename_i hsz
    simp only [Bool.and_eq_true, decide_eq_true_eq] at hsz
    by_cases hb : (0 ≤ i ∧ i < n)
    · rw [decide_eq_true hb.1, decide_eq_true hb.2] at h
      rw [nth?_eq] at h
      simp only [Bool.and_self, cond_true] at h
      cases he : els[i.toNat]? with
      | none => rw [he] at h; cases h
      | some el => rw [he] at h; exact ⟨el, hsz, hb.1, hb.2, rfl, h⟩
    · have : (decide (0 ≤ i) && decide (i < n)) = false := by
        rw [Bool.eq_false_iff]; intro hh
        simp only [Bool.and_eq_true, decide_eq_true_eq] at hh
        exact hb hh
      rw [this] at h; cases h
  · cases h
theorem gives_indexAddr {base : Nat} (hs : Sim P base S w hp φ) (ht : ∀ x, Rep S w hp φ (ev tm x) (e x)) {t : TypeId} {x y : Operand} (ho : o.op = .indexAddr t x y) {k : IntKind} {i : Int} (hy : ev tm y = .int k i) (h : indexA P hp t (ev tm x) i K = some r) : ∃ v, K v = some r ∧ Gives P S w hp φ e o v := by
  have hx := ht x
  have hi := ht y
  rw [hy] at hi
  unfold indexA at h
  cases het : elemOf P t with
  | none =>
    rw [het] at h
    simp only at h
    split at h
    · rename_i p hp1
      obtain ⟨n, et⟩ := p
      split at h
      · rename_i hz
        by_cases hb : (decide (0 ≤ i) && decide (i < (n : Int))) = true
        · rw [hb] at h
          simp only [Bool.and_eq_true, decide_eq_true_eq] at hb hz
          exact gives_indexArr ht ho hy hp1 hz hb.1 hb.2 h
        · rw [Bool.not_eq_true] at hb; rw [hb] at h; cases h
      · cases h
    · cases h
  | some et =>
  rw [het] at h
  simp only at h
  have hu := elem_of het
  have hey : e y = .int k i := by generalize hex : e y = ex at hi; cases hi; rfl
  have fin : ∀ (b ob len cap : Nat) (v : AV), e x = .slice (some ⟨b, ob, none⟩) len cap → 0 ≤ i → i < len → 0 < P.cellsOf et → K v = some r → Rep S w hp φ v (.pointer (some ⟨b, ob + i.toNat * P.cellsOf et, none⟩)) → ∃ v, K v = some r ∧ Gives P S w hp φ e o v := by
    intro b ob len cap v he h0 hlt hz hK hv
    refine ⟨v, hK, _, ?_, hv⟩
    have hsz := run_sizeOf (w := w) hz
    simp only [execOp, ho, Instr.indexAt, he, hey, asIntOf, Sem.run_bind, Sem.run_pure, Result.andThen_ok, run_underlying hu, h0, hlt, and_self, if_true, hsz, add_none]
  have fin2 : ∀ (a : Option Addr) (cap : Nat) (els : List (List AV)) (vss : List (List Value)) (el : List AV), e x = .slice a els.length cap → Repss S w els vss → Laid S w a (P.cellsOf et) vss → 0 ≤ i → i < els.length → els[i.toNat]? = some el → K (.rptr el 0) = some r → 0 < P.cellsOf et → ∃ v, K v = some r ∧ Gives P S w hp φ e o v := by
    intro a cap els vss el he hr hl h0 hlt hel hK hz
    obtain ⟨vs, hv1, hv2, hv3⟩ := hr.get hel
    · have hlen := hl.1 vs (List.mem_of_getElem? hv1)
      obtain ⟨u, hu0⟩ : ∃ u, vs[0]? = some u := ⟨_, List.getElem?_eq_getElem (by omega)⟩
      obtain ⟨b, ob, ha, _, _⟩ := hl.2 _ _ _ _ hv1 hu0
      subst ha
      refine fin b ob _ _ _ he h0 hlt hz hK (.rptr _ _ el 0 vs b _ hv2 hv3 fun j u hj => ?_)
      obtain ⟨b', o', e1, e2, e3⟩ := hl.2 _ _ _ _ hv1 hj
      cases e1
      exact ⟨e2, e3⟩
  generalize ev tm x = av at *
  cases av <;> simp only at h <;> first | (cases h; done) | skip
  case sl size els =>
    obtain ⟨vss, a, cap, hr, hl, hc, hex⟩ := hx.sl_inv
    obtain ⟨el, ⟨h1, hz⟩, h2, h3, h4, h5⟩ := elemAt_some h
    subst h1
    exact fin2 _ _ _ _ _ hex hr hl h2 h3 h4 h5 hz
  case row id n =>
    obtain ⟨et', size, els, ho', hn, hs', hcur⟩ := hx.row_inv
    obtain ⟨vss, a, cap, hr, hl, hc, hex⟩ := hs'.sl_inv
    rw [ho'] at h
    obtain ⟨el, ⟨h1, hz⟩, h2, h3, h4, h5⟩ := elemAt_some h
    subst h1
    have hlen : (els.take n).length = n := by rw [List.length_take]; omega
    refine fin2 _ _ _ _ el hex hr hl h2 (by omega) ?_ h5 hz
    rw [List.getElem?_take, if_pos (by omega)]; exact h4
  case own id off n =>
    obtain ⟨b, size, els, cap, ad, hb, hob, hn, had, hc, hex⟩ := hx.own_inv
    rw [hob] at h
    simp only at h
    split at h
    · rename_i hsz
      simp only [Bool.and_eq_true, decide_eq_true_eq] at hsz
      obtain ⟨hsz, hz⟩ := hsz
      subst hsz
      by_cases hbd : ((decide (0 ≤ i) && decide (i < n)) && decide (off + n ≤ els.length)) = true
      · rw [hbd] at h
        simp only [Bool.and_eq_true, decide_eq_true_eq] at hbd
        have had' := had (by omega)
        subst had'
        refine fin b _ _ _ _ hex hbd.1.1 hbd.1.2 hz h ?_
        have := Rep.pte (S := S) (w := w) hp φ id (off + i.toNat) 0 b _ els hb hob
        rw [Nat.add_mul, Nat.add_zero] at this
        exact this
      · rw [Bool.not_eq_true] at hbd
        rw [hbd] at h; cases h
    · cases h
end
end Go.Proofs.Ytaocgmkcjemecaa
end

/- The interpreter is sound: more plain operations. Parts of the proofs of the laws. Conditions: none. -/
section
namespace Go.Proofs.Ytaocgmkcjemecaa
open Go.RowKit
set_option linter.unusedVariables false
set_option linter.unusedSimpArgs false

section
variable {S : Nat → Nat → Prop} {w : World} {hp : Hp} {φ : List Pl} {P : Program} {e : Operand → Value} {o : Oper} {tm : Tm} {ρ : Type} {r : ρ} {K : AV → Option ρ}

theorem bs_toList (s : List UInt8) : (bs s).toList = s := by rw [ByteArray.toList_eq]

theorem flatFrom_cons {n : Nat} {f : Field} {fs : List Field} (h : flatFrom n (f :: fs) = true) : f.name ≠ "_" ∧ f.offset = n ∧ flatFrom (n + 1) fs = true := by
  simp only [flatFrom, Bool.and_eq_true, decide_eq_true_eq] at h
  exact ⟨h.1.1, h.1.2, h.2⟩

theorem run_eqs {d : Nat} {X Y : List Value} : ∀ (fs : List Field) (n : Nat) (xs ys : List AV) (us vs : List Value) (C : Bool → Option ρ), X = X.take n ++ us → Y = Y.take n ++ vs → n ≤ X.length → n ≤ Y.length → flatFrom n fs = true → Reps S w hp φ xs us → Reps S w hp φ ys vs → eqs P C fs xs ys = some r →
    ∃ c, C c = some r ∧ (Op.eqFields (d + 1) X.toArray Y.toArray fs).run P w = .ok c w := by
  intro fs
  induction fs with
  | nil =>
    intro n xs ys us vs C _ _ _ _ _ hx hy h
    cases xs <;> cases ys <;> simp only [eqs] at h <;> first | (cases h; done) | skip
    exact ⟨true, h, by simp [Op.eqFields]⟩
  | cons f fs ih =>
    intro n xs ys us vs C hX hY hn1 hn2 hf hx hy h
    obtain ⟨h1, h2, h4⟩ := flatFrom_cons hf
    cases xs with
    | nil => simp [eqs] at h
    | cons x xs =>
    cases ys with
    | nil => simp [eqs] at h
    | cons y ys =>
    cases hx with
    | cons _ _ _ u _ us hx hxs =>
    cases hy with
    | cons _ _ _ v _ vs hy hys =>
    have gx : X[n]? = some u := by
      conv => lhs; rw [hX]
      rw [List.getElem?_append_right (by rw [List.length_take]; omega), List.length_take, Nat.min_eq_left hn1, Nat.sub_self]; rfl
    have gy : Y[n]? = some v := by
      conv => lhs; rw [hY]
      rw [List.getElem?_append_right (by rw [List.length_take]; omega), List.length_take, Nat.min_eq_left hn2, Nat.sub_self]; rfl
    have nx : X = X.take (n + 1) ++ us := by
      conv => lhs; rw [hX]
      rw [List.take_add_one, gx]; simp
    have ny : Y = Y.take (n + 1) ++ vs := by
      conv => lhs; rw [hY]
      rw [List.take_add_one, gy]; simp
    have lx : n + 1 ≤ X.length := (List.getElem?_eq_some_iff.1 gx).1
    have ly : n + 1 ≤ Y.length := (List.getElem?_eq_some_iff.1 gy).1
    have step : ∀ (b : Bool), aggOf P f.type = some false → (Op.equalIn (d + 1) f.type u v).run P w = .ok b w → eqs P (fun c => C (b && c)) fs xs ys = some r → ∃ c, C c = some r ∧ (Op.eqFields (d + 1) X.toArray Y.toArray (f :: fs)).run P w = .ok c w := by
      intro b hagg hb he
      have hag := run_isAgg (w := w) hagg
      have px : (part f.type X.toArray f.offset).run P w = .ok u w := by
        rw [h2]; simp [part, hag, gx]
      have py : (part f.type Y.toArray f.offset).run P w = .ok v w := by
        rw [h2]; simp [part, hag, gy]
      cases b with
      | true =>
        simp only [Bool.true_and] at he
        obtain ⟨c, hc1, hc2⟩ := ih (n + 1) xs ys us vs C nx ny lx ly h4 hxs hys he
        exact ⟨c, hc1, by simp [Op.eqFields, h1, px, py, hb, hc2]⟩
      | false =>
        simp only [Bool.false_and] at he
        obtain ⟨c, hc1, hc2⟩ := ih (n + 1) xs ys us vs (fun _ => C false) nx ny lx ly h4 hxs hys he
        exact ⟨false, hc1, by simp [Op.eqFields, h1, px, py, hb]⟩
    simp only [eqs] at h
    cases hu : P.underlying f.type with
    | none => rw [hu] at h; cases h
    | some dd =>
    rw [hu] at h
    have hagg : (dd = .bool ∨ (∃ k, dd = .int k) ∨ dd = .string) → aggOf P f.type = some false := by
      rintro (rfl | ⟨k, rfl⟩ | rfl) <;> simp [aggOf, hu]
    cases dd <;> simp only at h <;> first | (cases h; done) | skip
    case bool =>
      cases x <;> cases y <;> simp only at h <;> first | (cases h; done) | skip
      rename_i a b
      have e1 := hx.bool_inv; have e2 := hy.bool_inv; subst e1; subst e2
      exact step _ (hagg (.inl rfl)) (run_equalIn_bool' w d _ a b hu) h
    case int k2 =>
      cases x <;> cases y <;> simp only at h <;> first | (cases h; done) | skip
      rename_i k a k' b
      have e1 := hx.int_inv.1; have e2 := hy.int_inv.1; subst e1; subst e2
      split at h
      · rename_i hk
        have hk := of_decide_eq_true hk
        subst hk
        exact step _ (hagg (.inr (.inl ⟨_, rfl⟩))) (run_equalIn_int w d _ k k2 a b hu) h
      · cases h
    case string =>
      cases x <;> cases y <;> simp only at h <;> first | (cases h; done) | skip
      rename_i a b
      have e1 := hx.str_inv.1; have e2 := hy.str_inv.1; subst e1; subst e2
      exact step _ (hagg (.inr (.inr rfl))) (by rw [run_equalIn_string w d _ (bs a) (bs b) hu, bs_toList, bs_toList]) h

theorem gives_binop (ht : ∀ x, Rep S w hp φ (ev tm x) (e x)) {op : BinOp} {t t' : TypeId} {x y : Operand} (ho : o.op = .binOp op t x y t') (h : binop P t op K (ev tm x) (ev tm y) = some r) : ∃ v, K v = some r ∧ Gives P S w hp φ e o v := by
  have hx := ht x
  have hy := ht y
  generalize ev tm x = av at *
  generalize ev tm y = bv at *
  generalize hex : e x = ex at hx
  generalize hey : e y = ey at hy
  cases av <;> cases bv <;> simp only [binop] at h <;> first | (cases h; done) | skip
  case bool.bool a b =>
    have e1 := hx.bool_inv; have e2 := hy.bool_inv; subst e1; subst e2
    split at h
    · rename_i hu
      have hq : (Op.equal t (.bool a) (.bool b)).run P w = .ok (a == b) w := run_equalIn_bool' w 9999 t a b hu
      cases op <;> simp only at h <;> first | (cases h; done) | skip
      case eql => exact ⟨_, h, _, by simp only [execOp, ho, hex, hey, eqGuard, binOp, Sem.run_bind, Sem.run_pure, Result.andThen_ok, hq, Bool.not_true, Bool.false_eq_true, if_false], .bool _ _ _⟩
      case neq => exact ⟨_, h, _, by simp only [execOp, ho, hex, hey, eqGuard, binOp, Sem.run_bind, Sem.run_pure, Result.andThen_ok, hq, Bool.not_true, Bool.false_eq_true, if_false], .bool _ _ _⟩
    · cases h
  case int.int k m k' n =>
    have e1 := hx.int_inv; have e2 := hy.int_inv.1; obtain ⟨e1, hm⟩ := e1; subst e1; subst e2
    split at h
    · rename_i hk
      have hk := of_decide_eq_true hk
      subst hk
      exact gives_binInt op ho hex hey hm h
    · cases h
  case str.str s s' =>
    obtain ⟨e1, hs⟩ := hx.str_inv; obtain ⟨e2, hs'⟩ := hy.str_inv; subst e1; subst e2
    cases op <;> simp only at h <;> first | (cases h; done) | skip
    case add =>
      by_cases hl : s.length + s'.length ≤ 140737488355328
      · rw [decide_eq_true hl] at h
        refine ⟨_, h, .string (bs (s ++ s')), ?_, .str _ _ _ (by rw [List.length_append]; unfold maxLen; omega)⟩
        have h1 : (bs s).size = s.length := rfl
        have h2 : (bs s').size = s'.length := rfl
        have h3 : bs s ++ bs s' = bs (s ++ s') := by
          apply ByteArray.ext; simp
        have h4 : ¬ (((bs s).size + (bs s').size : Nat) : Int) > IntKind.i64.max := by rw [h1, h2]; simp [IntKind.max, IntKind.bits, IntKind.signed]; omega
        simp only [execOp, ho, hex, hey, eqGuard, binOp, Op.stringOp, Sem.run_bind, Sem.run_pure, Result.andThen_ok, if_neg h4, h3]
        rfl
      · rw [decide_eq_false hl] at h; cases h
    case eql => exact ⟨_, h, _, by simp [execOp, ho, hex, hey, eqGuard, binOp, go_sem, Op.stringOp, bs_toList], .bool _ _ _⟩
    case neq => exact ⟨_, h, _, by simp [execOp, ho, hex, hey, eqGuard, binOp, go_sem, Op.stringOp, bs_toList], .bool _ _ _⟩
  case agg.agg xs ys =>
    obtain ⟨us, hxs, h1, e1⟩ := hx.agg_inv; obtain ⟨vs, hys, h2, e2⟩ := hy.agg_inv; subst e1; subst e2
    cases hfl : flatT P t with
    | none => rw [hfl] at h; cases h
    | some fs =>
      rw [hfl] at h
      unfold flatT at hfl
      cases hu : P.underlying t with
      | none => rw [hu] at hfl; cases hfl
      | some dd =>
      rw [hu] at hfl
      cases dd <;> simp only at hfl <;> first | (cases hfl; done) | skip
      rename_i fs'
      split at hfl
      · rename_i hfl'
        cases hfl
        simp only [Bool.and_eq_true, Bool.not_eq_true'] at hfl'
        obtain ⟨⟨f1, f2⟩, f3⟩ := hfl'
        have hfo : P.fieldsOf t = fs' := by simp [Program.fieldsOf, hu]
        have hq := run_equalIn_struct w 9999 t us.toArray vs.toArray (by rw [hfo]; exact hu) f2
        have hg := fun op => run_eqGuard_agg w op t x y us.toArray vs.toArray f3
        rw [hfo] at hq
        cases op <;> simp only at h <;> first | (cases h; done) | skip
        case eql =>
          obtain ⟨c, hc, hrun⟩ := run_eqs (d := 9998) fs'.toList 0 xs ys us vs _ (X := us) (Y := vs) (by simp) (by simp) (by simp) (by simp) f1 hxs hys h
          exact ⟨_, hc, _, by simp only [execOp, ho, hex, hey, Sem.run_bind, hg, Result.andThen_ok, run_eql_struct, hq, hrun, Sem.run_pure], .bool _ _ _⟩
        case neq =>
          obtain ⟨c, hc, hrun⟩ := run_eqs (d := 9998) fs'.toList 0 xs ys us vs _ (X := us) (Y := vs) (by simp) (by simp) (by simp) (by simp) f1 hxs hys h
          exact ⟨_, hc, _, by simp only [execOp, ho, hex, hey, Sem.run_bind, hg, Result.andThen_ok, run_neq_struct, hq, hrun, Sem.run_pure], .bool _ _ _⟩
      · cases hfl
end
end Go.Proofs.Ytaocgmkcjemecaa
end

/- The interpreter is sound: more plain operations. Parts of the proofs of the laws. Conditions: none. -/
section
namespace Go.Proofs.Ytaocgmkcjemecaa
open Go.RowKit
set_option linter.unusedVariables false
set_option linter.unusedSimpArgs false

section
variable {S : Nat → Nat → Prop} {w : World} {hp : Hp} {φ : List Pl} {P : Program} {e : Operand → Value} {o : Oper} {tm : Tm} {ρ : Type} {r : ρ} {K : AV → Option ρ}

theorem gives_convert (ht : ∀ x, Rep S w hp φ (ev tm x) (e x)) {s t : TypeId} {x : Operand} (ho : o.op = .convert s t x) {k k' : IntKind} {n : Int} (hu : P.underlying t = some (.int k)) (hs : (P.underlying s).isSome = true) (hx : ev tm x = .int k' n) : Gives P S w hp φ e o (.int k (k.wrap n)) := by
  have h := ht x
  rw [hx] at h
  obtain ⟨he, _⟩ := h.int_inv
  obtain ⟨d, hd⟩ := Option.isSome_iff_exists.1 hs
  refine ⟨_, ?_, .int _ _ _ _ (wf_wrap _ _)⟩
  simp only [execOp, ho, he, convert, Sem.run_bind, Sem.run_pure, Result.andThen_ok, run_underlying hu, run_underlying hd, Conv.intToInt]

theorem gives_nilCheck (ht : ∀ x, Rep S w hp φ (ev tm x) (e x)) {x : Operand} (ho : o.op = .nilCheck x) (h : (match ev tm x with | .ptr id off => K (.ptr id off) | .pte id i off => K (.pte id i off) | .rptr el off => K (.rptr el off) | .func f a b => K (.func f a b) | _ => none) = some r) : ∃ v, K v = some r ∧ Gives P S w hp φ e o v := by
  have hx := ht x
  generalize ev tm x = av at *
  cases av <;> simp only at h <;> first | (cases h; done) | skip
  case ptr id off =>
    obtain ⟨b, hb, he⟩ := hx.ptr_inv
    exact ⟨_, h, e x, by simp only [execOp, ho, he, Sem.run_pure], hx⟩
  case pte id i off =>
    obtain ⟨b, size, els, hb, hob, he⟩ := hx.pte_inv
    exact ⟨_, h, e x, by simp only [execOp, ho, he, Sem.run_pure], hx⟩
  case rptr el off =>
    obtain ⟨vs, b, ob, _, _, _, he⟩ := hx.rptr_inv
    exact ⟨_, h, e x, by simp only [execOp, ho, he, Sem.run_pure], hx⟩
  case func f a b =>
    obtain ⟨a', b', _, _, he⟩ := hx.func_inv
    exact ⟨_, h, e x, by simp only [execOp, ho, he, Sem.run_pure], hx⟩

theorem gives_field (ht : ∀ x, Rep S w hp φ (ev tm x) (e x)) {t : TypeId} {x : Operand} {f : Nat} (ho : o.op = .field t x f) {p : Nat × TypeId} (hf : fieldOf P t f = some p) {cs : List AV} (hx : ev tm x = .agg cs) (h : sub cs p.1 (P.cellsOf p.2) (fun cs => mkAgg (aggOf P p.2) cs K) = some r) : ∃ v, K v = some r ∧ Gives P S w hp φ e o v := by
  obtain ⟨off, ft⟩ := p
  obtain ⟨fs, fd, hu, hfd, h1, h2⟩ := field_of hf
  subst h1; subst h2
  have hxx := ht x
  rw [hx] at hxx
  obtain ⟨vs, hr, ho1, he⟩ := hxx.agg_inv
  obtain ⟨hle, h⟩ := sub_some h
  simp only at h hle
  have hlen := hr.length
  cases hb : aggOf P fd.type with
  | none => rw [hb] at h; simp [mkAgg] at h
  | some b =>
    rw [hb] at h
    obtain ⟨i, hi, hsz⟩ := info_of_agg hb
    have hra := run_isAgg (w := w) hb
    cases b with
    | true =>
      refine ⟨_, h, .agg ((vs.drop fd.offset).take (P.cellsOf fd.type)).toArray, ?_, .agg _ _ _ _ ((hr.drop _).take _) fun v hv => ho1 v (List.mem_of_mem_drop (List.mem_of_mem_take hv))⟩
      have hext : vs.toArray.extract fd.offset (fd.offset + i.size) = ((vs.drop fd.offset).take (P.cellsOf fd.type)).toArray := by
        rw [hsz]; simp [List.extract_toArray, List.extract_eq_take_drop]
      simp only [execOp, ho, he, Instr.field, Sem.run_bind, Sem.run_pure, Result.andThen_ok, run_underlying hu, hfd, asAgg, part, hra, if_true, sizeOf, typeInfo, run_program, hi, hext]
    | false =>
      generalize hc : (cs.drop fd.offset).take (P.cellsOf fd.type) = c at h
      match c, h with
      | [a], h =>
        have h0 : cs[fd.offset]? = some a := by
          have : ((cs.drop fd.offset).take (P.cellsOf fd.type))[0]? = some a := by rw [hc]; rfl
          rw [List.getElem?_take] at this
          split at this
          · rwa [List.getElem?_drop] at this
          · cases this
        obtain ⟨u, hu0, hru⟩ := hr.get' h0
        refine ⟨a, h, u, ?_, hru⟩
        have hg : vs.toArray[fd.offset]? = some u := by simpa using hu0
        simp only [execOp, ho, he, Instr.field, Sem.run_bind, Sem.run_pure, Result.andThen_ok, run_underlying hu, hfd, asAgg, part, hra, Bool.false_eq_true, if_false, hg]

theorem gives_index (ht : ∀ x, Rep S w hp φ (ev tm x) (e x)) {t : TypeId} {x y : Operand} (ho : o.op = .index t x y) {k : IntKind} {i : Int} (hy : ev tm y = .int k i) (hu : P.underlying t = some .string) {s : List UInt8} (hx : ev tm x = .str s) {b : UInt8} (h0 : 0 ≤ i) (hb : nth? s i.toNat = some b) : Gives P S w hp φ e o (.int .u8 b.toNat) := by
  have hxx := ht x; have hyy := ht y
  rw [hx] at hxx; rw [hy] at hyy
  obtain ⟨he, _⟩ := hxx.str_inv
  obtain ⟨he2, _⟩ := hyy.int_inv
  rw [nth?_eq] at hb
  have hg : (bs s)[i.toNat]? = some b := by
    obtain ⟨hlt, hv⟩ := List.getElem?_eq_some_iff.1 hb
    have h1 : i.toNat < (bs s).size := hlt
    rw [getElem?_pos (bs s) i.toNat h1]
    exact congrArg some hv
  refine ⟨_, ?_, .int _ _ _ _ (wf_byte b)⟩
  simp only [execOp, ho, he, he2, Instr.index, asIntOf, Sem.run_bind, Sem.run_pure, Result.andThen_ok, run_underlying hu, h0, if_true, hg]

theorem bounds_some {n : Nat} {lo hi : Option Operand} {C : Nat → Nat → Option ρ} (ht : ∀ x, Rep S w hp φ (ev tm x) (e x)) (h : bounds n (lo.map (ev tm)) (hi.map (ev tm)) C = some r) :
    ∃ l m : Nat, l ≤ m ∧ m ≤ n ∧ C l m = some r ∧ ∀ (b : Bool) (cap : Nat), n ≤ cap → (Instr.sliceBounds b n cap (lo.map e) (hi.map e) none).run P w = .ok (l, m, cap) w := by
  have num : ∀ x k i, ev tm x = .int k i → e x = .int k i := fun x k i hx => by have := ht x; rw [hx] at this; exact this.int_inv.1
  cases hi with
  | none =>
    cases lo with
    | none => exact ⟨0, n, Nat.zero_le _, Nat.le_refl _, h, fun b cap hc => by simp [Instr.sliceBounds]⟩
    | some x =>
      simp only [bounds, Option.map_some, Option.map_none] at h
      cases hx : ev tm x <;> rw [hx] at h <;> simp only at h <;> first | (cases h; done) | skip
      rename_i k i
      have he := num x k i hx
      by_cases hb : (decide (0 ≤ i) && decide (i ≤ n)) = true
      · rw [hb] at h
        simp only [Bool.and_eq_true, decide_eq_true_eq] at hb
        refine ⟨i.toNat, n, by omega, Nat.le_refl _, h, fun b cap hc => ?_⟩
        simp [Instr.sliceBounds, Instr.sliceBound, asIntOf, he, hb.1, hb.2]
      · rw [Bool.not_eq_true] at hb; rw [hb] at h; cases h
  | some y =>
    cases lo with
    | none =>
      simp only [bounds, Option.map_some, Option.map_none] at h
      cases hy : ev tm y <;> rw [hy] at h <;> simp only at h <;> first | (cases h; done) | skip
      rename_i k i
      have he := num y k i hy
      by_cases hb : (decide (0 ≤ i) && decide (i ≤ n)) = true
      · rw [hb] at h
        simp only [Bool.and_eq_true, decide_eq_true_eq] at hb
        refine ⟨0, i.toNat, by omega, by omega, h, fun b cap hc => ?_⟩
        have : i ≤ cap := by omega
        simp [Instr.sliceBounds, Instr.sliceBound, asIntOf, he, hb.1, this]
      · rw [Bool.not_eq_true] at hb; rw [hb] at h; cases h
    | some x =>
      simp only [bounds, Option.map_some] at h
      cases hy : ev tm y <;> rw [hy] at h <;> simp only at h <;> first | (cases h; done) | skip
      rename_i k i
      cases hx : ev tm x <;> rw [hx] at h <;> simp only at h <;> first | (cases h; done) | skip
      rename_i k2 j
      have he := num y k i hy
      have he2 := num x k2 j hx
      by_cases hb : (((decide (0 ≤ i) && decide (i ≤ n)) && decide (0 ≤ j)) && decide (j ≤ i)) = true
      · rw [hb] at h
        simp only [Bool.and_eq_true, decide_eq_true_eq] at hb
        obtain ⟨⟨⟨h1, h2⟩, h3⟩, h4⟩ := hb
        refine ⟨j.toNat, i.toNat, by omega, by omega, h, fun b cap hc => ?_⟩
        have h5 : i ≤ cap := by omega
        have h6 : j ≤ max i 0 := by omega
        simp [Instr.sliceBounds, Instr.sliceBound, asIntOf, he, he2, h1, h5, h3, h6]
      · rw [Bool.not_eq_true] at hb; rw [hb] at h; cases h

theorem gives_cutStr (ht : ∀ x, Rep S w hp φ (ev tm x) (e x)) {t : TypeId} {x : Operand} {lo hi : Option Operand} (ho : o.op = .slice t x lo hi none) (hu : P.underlying t = some .string) {s : List UInt8} (hx : ev tm x = .str s) (h : bounds s.length (lo.map (ev tm)) (hi.map (ev tm)) (fun l h => K (.str ((s.take h).drop l))) = some r) : ∃ v, K v = some r ∧ Gives P S w hp φ e o v := by
  have hxx := ht x
  rw [hx] at hxx
  obtain ⟨he, hs⟩ := hxx.str_inv
  obtain ⟨l, m, h1, h2, h3, h4⟩ := bounds_some (P := P) ht h
  have h5 := h4 false s.length (Nat.le_refl _)
  have hsz : (bs s).size = s.length := rfl
  refine ⟨_, h3, .string (bs ((s.take m).drop l)), ?_, .str _ _ _ (by rw [List.length_drop, List.length_take]; omega)⟩
  have hext : (bs s).extract l m = bs ((s.take m).drop l) := by
    apply ByteArray.ext
    rw [ByteArray.data_extract]
    simp [bs, List.extract_toArray, List.extract_eq_take_drop, List.drop_take]
  simp only [execOp, ho, he, Instr.sliceAt, Instr.slice, Sem.run_bind, Sem.run_pure, Result.andThen_ok, run_underlying hu, Option.map_none, Option.isSome_none, Bool.false_eq_true, if_false, hsz, h5, hext]

theorem gives_cutS {base : Nat} (hs : Sim P base S w hp φ) (ht : ∀ x, Rep S w hp φ (ev tm x) (e x)) {t et : TypeId} {x : Operand} {lo hi : Option Operand} (ho : o.op = .slice t x lo hi none) (hu : P.underlying t = some (.slice et)) (hz : 0 < P.cellsOf et) (h : cutS hp (ev tm x) (P.cellsOf et) (lo.map (ev tm)) (hi.map (ev tm)) K = some r) : ∃ v, K v = some r ∧ Gives P S w hp φ e o v := by
  have hx := ht x
  have hsz := run_sizeOf (w := w) hz
  have fin : ∀ (a : Option Addr) (n cap l m : Nat) (v : AV), e x = .slice a n cap → (Instr.sliceBounds true n cap (lo.map e) (hi.map e) none).run P w = .ok (l, m, cap) w → K v = some r → Rep S w hp φ v (.slice (if cap = l then a else a.map (·.add (l * P.cellsOf et))) (m - l) (cap - l)) → ∃ v, K v = some r ∧ Gives P S w hp φ e o v := by
    intro a n cap l m v he hb hK hv
    refine ⟨v, hK, _, ?_, hv⟩
    simp only [execOp, ho, he, Instr.sliceAt, Instr.slice, Sem.run_bind, Sem.run_pure, Result.andThen_ok, run_underlying hu, Option.map_none, hb, hsz]
  have fin2 : ∀ (els : List (List AV)) (vss : List (List Value)) (a : Option Addr) (cap l m : Nat), Repss S w els vss → Laid S w a (P.cellsOf et) vss → Cap a els.length cap → l ≤ m → m ≤ els.length → Rep S w hp φ (.sl (P.cellsOf et) ((els.take m).drop l)) (.slice (if cap = l then a else a.map (·.add (l * P.cellsOf et))) (m - l) (cap - l)) := by
    intro els vss a cap l m hr hl hc h1 h2
    have hlen := hr.length
    have hn : ((els.take m).drop l).length = m - l := by rw [List.length_drop, List.length_take]; omega
    have := Rep.sl (S := S) (w := w) hp φ (P.cellsOf et) ((els.take m).drop l) ((vss.take m).drop l) (if cap = l then a else a.map (·.add (l * P.cellsOf et))) (cap - l) ((hr.take m).drop l) ?_ ?_
    · rw [hn] at this; exact this
    · refine ⟨fun vs hv => hl.1 vs (List.mem_of_mem_take (List.mem_of_mem_drop hv)), fun j vs t u hj ht' => ?_⟩
      rw [List.getElem?_drop, List.getElem?_take] at hj
      split at hj
      · rename_i hlt
        obtain ⟨b, o', e1, e2, e3⟩ := hl.2 _ _ _ _ hj ht'
        have hjl := (List.getElem?_eq_some_iff.1 hj).1
        have hne : cap ≠ l := by have := hc.1; omega
        refine ⟨b, o' + l * P.cellsOf et, ?_, ?_, ?_⟩
        · rw [if_neg hne, e1]; simp [add_none]
        · rw [show o' + l * P.cellsOf et + j * P.cellsOf et + t = o' + (l + j) * P.cellsOf et + t by rw [Nat.add_mul]; omega]; exact e2
        · rw [show o' + l * P.cellsOf et + j * P.cellsOf et + t = o' + (l + j) * P.cellsOf et + t by rw [Nat.add_mul]; omega]; exact e3
      · cases hj
    · obtain ⟨c1, c2, c3⟩ := hc
      refine ⟨by rw [hn]; omega, by omega, fun ha => ?_⟩
      split at ha
      · omega
      · cases a with
        | none => have := c3 rfl; omega
        | some a => simp at ha
  generalize ev tm x = av at *
  unfold cutS at h
  cases av <;> simp only at h <;> first | (cases h; done) | skip
  case sl size els =>
    obtain ⟨vss, a, cap, hr, hl, hc, he⟩ := hx.sl_inv
    split at h
    · rename_i hq
      have hq := of_decide_eq_true hq
      subst hq
      obtain ⟨l, m, h1, h2, h3, h4⟩ := bounds_some (P := P) ht h
      exact fin _ _ _ l m _ he (h4 true cap hc.1) h3 (fin2 els vss a cap l m hr hl hc h1 h2)
    · cases h
  case row id n =>
    obtain ⟨et', size, els, ho', hn, hs', hcur⟩ := hx.row_inv
    obtain ⟨vss, a, cap, hr, hl, hc, he⟩ := hs'.sl_inv
    rw [ho'] at h
    simp only at h
    split at h
    · rename_i hq
      have hq := of_decide_eq_true hq
      subst hq
      have hlen : (els.take n).length = n := by rw [List.length_take]; omega
      obtain ⟨l, m, h1, h2, h3, h4⟩ := bounds_some (P := P) ht h
      rw [hlen] at he hc
      exact fin _ _ _ l m _ he (h4 true cap hc.1) h3 (fin2 (els.take n) vss a cap l m hr hl (by rw [hlen]; exact hc) h1 (by rw [hlen]; exact h2))
    · cases h
  case own id off n =>
    obtain ⟨b, size, els, cap, ad, hb, hob, hn, had, hc, he⟩ := hx.own_inv
    rw [hob] at h
    simp only at h
    split at h
    · rename_i hq
      have hq := of_decide_eq_true hq
      subst hq
      obtain ⟨l, m, h1, h2, h3, h4⟩ := bounds_some (P := P) ht h
      refine fin _ _ _ l m _ he (h4 true cap hc.1) h3 (.own _ _ id (off + l) (m - l) b _ els _ hb hob (by omega) _ ?_ ?_)
      · intro hlt
        have hne : cap ≠ l := by have := hc.1; omega
        rw [if_neg hne, had (by omega)]
        simp [add_none, Nat.add_mul]
      · obtain ⟨c1, c2, c3⟩ := hc
        refine ⟨by omega, by omega, fun ha => ?_⟩
        split at ha
        · omega
        · cases ad with
          | none => have := c3 rfl; omega
          | some a => simp at ha
    · cases h
end
end Go.Proofs.Ytaocgmkcjemecaa
end

/- The interpreter is sound: what is built. Parts of the proofs of the laws. Conditions: none. -/
section
namespace Go.Proofs.Ytaocgmkcjemecaa
open Go.RowKit
set_option linter.unusedVariables false
set_option linter.unusedSimpArgs false

theorem fold_list (off : Nat) : ∀ (l : List Value) (j0 : Nat) (cells : Array Value), off + j0 + l.length ≤ cells.size →
    (l.zipIdx j0).foldl (fun (cs : Array Value) x => cs.setIfInBounds (off + x.2) x.1) cells = (cells.toList.take (off + j0) ++ l ++ cells.toList.drop (off + j0 + l.length)).toArray
  | [], j0, cells, _ => by simp
  | v :: l, j0, cells, h => by
    simp only [List.length_cons] at h
    rw [List.zipIdx_cons, List.foldl_cons, fold_list off l (j0 + 1) _ (by simp; omega)]
    congr 1
    simp only [Array.toList_setIfInBounds]
    have h1 : off + j0 < cells.toList.length := by simp; omega
    rw [show off + (j0 + 1) = off + j0 + 1 by omega, List.take_add_one, List.getElem?_set_self h1, List.take_set_of_le (Nat.le_refl _), List.drop_set_of_lt (by omega)]
    simp only [Option.toList_some, List.append_assoc, List.cons_append, List.nil_append, List.length_cons]
    rw [show off + j0 + 1 + l.length = off + j0 + (l.length + 1) by omega]
theorem fold_cells (off : Nat) (v cells : Array Value) (h : off + v.size ≤ cells.size) :
    v.zipIdx.foldl (fun (cs : Array Value) (x : Value × Nat) => cs.setIfInBounds (off + x.2) x.1) cells = (cells.toList.take off ++ v.toList ++ cells.toList.drop (off + v.size)).toArray := by
  rw [← Array.foldl_toList, Array.toList_zipIdx]
  have := fold_list off v.toList 0 cells (by simpa using h)
  simpa using this

section
variable {S : Nat → Nat → Prop} {w : World} {hp : Hp} {φ : List Pl} {P : Program} {e : Operand → Value} {o : Oper} {tm : Tm} {ρ : Type} {r : ρ} {K : AV → Option ρ}

theorem Rep.cells_rep {a : AV} {v : Value} (h : Rep S w hp φ a v) (h1 : a.cells.all AV.one = true) : Reps S w hp φ a.cells v.cells.toList := by
  by_cases ha : ∃ cs, a = .agg cs
  · obtain ⟨cs, rfl⟩ := ha
    obtain ⟨vs, hr, _, rfl⟩ := h.agg_inv
    simpa [AV.cells, Value.cells] using hr
  · have e1 : a.cells = [a] := by cases a <;> first | rfl | exact absurd ⟨_, rfl⟩ ha
    rw [e1] at h1 ⊢
    have h2 : a.one = true := by simpa using h1
    have h3 := h.oneCell h2
    have e2 : v.cells.toList = [v] := by cases v <;> first | rfl | (simp [Value.oneCell'] at h3)
    rw [e2]
    exact .cons _ _ _ _ _ _ h (.nil _ _)
theorem Rep.cells_ones {a : AV} {v : Value} (h : Rep S w hp φ a v) (h1 : a.cells.all AV.one = true) : Ones v.cells.toList := (h.cells_rep h1).ones h1

theorem gives_parts (ht : ∀ x, Rep S w hp φ (ev tm x) (e x)) {t : TypeId} {fs : Array Field} (hu : P.underlying t = some (.struct fs)) {places : Array (Nat × Nat)} (hpl : ∀ (i : Nat) (fd : Field), fs[i]? = some fd → places[i]? = some (fd.offset, P.cellsOf fd.type)) :
    ∀ (ps : List (Nat × Operand)) (cs cs' : List AV) (vs : List Value), Reps S w hp φ cs vs → Ones vs → parts P t tm cs ps = some cs' →
      ∃ vs', Instr.fill (places[·]?) vs.toArray (ps.map fun x => (x.1, e x.2)) = some vs'.toArray ∧ Reps S w hp φ cs' vs' ∧ Ones vs'
  | [], cs, cs', vs, hr, h1, h => by
    simp only [parts, Option.some.injEq] at h
    subst h
    exact ⟨vs, rfl, hr, h1⟩
  | (i, x) :: rest, cs, cs', vs, hr, h1, h => by
    simp only [parts] at h
    cases hf : fieldOf P t i with
    | none => rw [hf] at h; cases h
    | some p =>
      obtain ⟨off, ft⟩ := p
      rw [hf] at h
      simp only at h
      split at h
      · rename_i hc
        simp only [Bool.and_eq_true, decide_eq_true_eq] at hc
        obtain ⟨⟨hc1, hc2⟩, hc3⟩ := hc
        obtain ⟨fs', fd, hu', hfd, e1, e2⟩ := field_of hf
        rw [hu] at hu'; cases hu'
        subst e1; subst e2
        have hx := ht x
        have hcr := hx.cells_rep hc1
        have hlen := hcr.length
        have hlen2 := hr.length
        have hsz : (e x).cells.size = P.cellsOf fd.type := by rw [← hc3, hlen]; simp
        have hlen' : (ev tm x).cells.length = (e x).cells.size := by rw [hlen]; simp
        obtain ⟨vs', g1, g2, g3⟩ := gives_parts ht hu hpl rest _ cs' (vs.take fd.offset ++ ((e x).cells.toList ++ vs.drop (fd.offset + (e x).cells.size))) ((hr.take _).append (hcr.append (by rw [← hlen']; exact hr.drop _)))
          (by
            intro v hv
            rcases List.mem_append.1 hv with hv | hv
            · exact h1 v (List.mem_of_mem_take hv)
            · rcases List.mem_append.1 hv with hv | hv
              · exact hx.cells_ones hc1 v hv
              · exact h1 v (List.mem_of_mem_drop hv)) h
        refine ⟨vs', ?_, g2, g3⟩
        have hb : (decide ((e x).cells.size ≠ P.cellsOf fd.type) || decide (fd.offset + (e x).cells.size > vs.toArray.size)) = false := by
          simp only [List.size_toArray, Bool.or_eq_false_iff, decide_eq_false_iff_not]; omega
        simp only [List.map_cons, Instr.fill, hpl i fd hfd, hb, Bool.false_eq_true, if_false]
        rw [fold_cells _ _ _ (by simp only [List.size_toArray]; omega)]
        rw [← g1]
        simp [List.append_assoc]
      · cases h

theorem places_of {fs : List Field} (h : fs.all (fun f => (P.info? f.type).isSome) = true) : ∃ places, fs.mapM (fun f => (P.info? f.type).map fun i => (f.offset, i.size)) = some places ∧ ∀ (i : Nat) (fd : Field), fs[i]? = some fd → places[i]? = some (fd.offset, P.cellsOf fd.type) := by
  induction fs with
  | nil => exact ⟨[], by simp, fun i fd h => by simp at h⟩
  | cons f fs ih =>
    simp only [List.all_cons, Bool.and_eq_true] at h
    obtain ⟨pl, h1, h2⟩ := ih h.2
    obtain ⟨i, hi⟩ := Option.isSome_iff_exists.1 h.1
    refine ⟨(f.offset, i.size) :: pl, by simp [List.mapM_cons, hi, h1], fun k fd hk => ?_⟩
    cases k with
    | zero => simp at hk; subst hk; simp [Program.cellsOf, hi]
    | succ k => simpa using h2 k fd (by simpa using hk)
theorem zero_of {t : TypeId} {z : AV} (h : zero P t = some z) : ∃ i v, P.info? t = some i ∧ i.zero = some v ∧ z = lit v := by
  unfold zero at h
  cases hi : P.info? t with
  | none => rw [hi] at h; cases h
  | some i =>
    rw [hi] at h
    simp only at h
    cases hz : i.zero with
    | none => rw [hz] at h; cases h
    | some v => rw [hz] at h; cases h; exact ⟨i, v, rfl, hz, rfl⟩

theorem gives_build (ht : ∀ x, Rep S w hp φ (ev tm x) (e x)) {t : TypeId} {ps : Array (Nat × Operand)} (ho : o.op = .build t ps) {fs : Array Field} (hu : P.underlying t = some (.struct fs)) (hall : fs.toList.all (fun f => (P.info? f.type).isSome) = true)
    {z cs : List AV} (hz : zero P t = some (.agg z)) (h : parts P t tm z ps.toList = some cs) : Gives P S w hp φ e o (.agg cs) := by
  obtain ⟨places, hp1, hp2⟩ := places_of hall
  obtain ⟨i, v, hi, hzv, hlit⟩ := zero_of hz
  have hrep : Rep S w hp φ (.agg z) v := by rw [hlit]; exact lit_rep v
  obtain ⟨vs, hr, h1, rfl⟩ := hrep.agg_inv
  obtain ⟨vs', g1, g2, g3⟩ := gives_parts ht hu (places := places.toArray) (by simpa using hp2) ps.toList z cs vs hr h1 h
  have hb : P.built t (ps.map fun x => (x.1, e x.2)).toList = some vs'.toArray := by
    simp only [Program.built, hi, hu, hzv, hp1, Array.toList_map, Value.cells]
    exact g1
  refine ⟨_, ?_, .agg _ _ _ _ g2 g3⟩
  have := run_build (P := P) w t (ps.map fun x => (x.1, e x.2)) vs'.toArray hb
  simp only [execOp, ho, Sem.run_bind, Sem.run_pure, Result.andThen_ok, this]
theorem gives_makeFunc (ht : ∀ x, Rep S w hp φ (ev tm x) (e x)) {f : FuncId} {a b : Array Operand} (ho : o.op = .makeFunc (.func f) a b) : Gives P S w hp φ e o (.func f (a.toList.map (ev tm)) (b.toList.map (ev tm))) := by
  have hl : ∀ l : List Operand, Reps S w hp φ (l.map (ev tm)) (l.map e) := by
    intro l
    induction l with
    | nil => exact .nil _ _
    | cons x l ih => exact .cons _ _ _ _ _ _ (ht x) ih
  refine ⟨_, ?_, .func _ _ f _ _ _ _ (hl a.toList) (hl b.toList)⟩
  have e1 : (a.toList.map e).toArray = a.map e := by apply Array.ext'; rw [Array.toList_map]
  have e2 : (b.toList.map e).toArray = b.map e := by apply Array.ext'; rw [Array.toList_map]
  simp only [execOp, ho, Instr.makeFunc, Sem.run_bind, Sem.run_pure, Result.andThen_ok, e1, e2]
theorem gives_min (ht : ∀ x, Rep S w hp φ (ev tm x) (e x)) {x y : Operand} {ts : Array TypeId} (ho : o.op = .call { callee := .builtin .min, args := #[x, y], argTypes := ts }) {k k' : IntKind} {a b : Int} (hx : ev tm x = .int k a) (hy : ev tm y = .int k' b) (hk : k = k') : Gives P S w hp φ e o (.int k (if b < a then b else a)) := by
  subst hk
  have h1 := ht x; have h2 := ht y
  rw [hx] at h1; rw [hy] at h2
  obtain ⟨e1, w1⟩ := h1.int_inv; obtain ⟨e2, w2⟩ := h2.int_inv
  refine ⟨.int k (if b < a then b else a), ?_, .int _ _ _ _ (by split <;> assumption)⟩
  simp [execOp, ho, resolve, invoke, builtin, Builtin.min_, Builtin.min2, e1, e2]
theorem gives_max (ht : ∀ x, Rep S w hp φ (ev tm x) (e x)) {x y : Operand} {ts : Array TypeId} (ho : o.op = .call { callee := .builtin .max, args := #[x, y], argTypes := ts }) {k k' : IntKind} {a b : Int} (hx : ev tm x = .int k a) (hy : ev tm y = .int k' b) (hk : k = k') : Gives P S w hp φ e o (.int k (if a < b then b else a)) := by
  subst hk
  have h1 := ht x; have h2 := ht y
  rw [hx] at h1; rw [hy] at h2
  obtain ⟨e1, w1⟩ := h1.int_inv; obtain ⟨e2, w2⟩ := h2.int_inv
  refine ⟨.int k (if a < b then b else a), ?_, .int _ _ _ _ (by split <;> assumption)⟩
  simp [execOp, ho, resolve, invoke, builtin, Builtin.max_, Builtin.max2, e1, e2]
end
end Go.Proofs.Ytaocgmkcjemecaa
end
