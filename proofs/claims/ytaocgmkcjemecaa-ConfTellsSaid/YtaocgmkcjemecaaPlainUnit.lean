/- Plain: which code, instructions, rows and units are right. Parts of the proofs of the laws of layers 6 to 22. Conditions: none. -/
import Derived.Test.YtaocgmkcjemecaaUnit
namespace Go.Proofs.Ytaocgmkcjemecaa
set_option linter.unusedVariables false
set_option linter.unusedSimpArgs false

def inB (n most : Int) : Bool := decide (0 ≤ n ∧ n < most)

/-- How many numbers lie there behind steps, and at most. -/
def liesGo : List OpS → Int → Int → Int × Int
  | [], n, m => (n, m)
  | x :: t, n, m =>
    if 1 ≤ x.op ∧ x.op ≤ 4 then liesGo t (n + 1) (max m (n + 1))
    else if x.op = 5 ∧ 1 ≤ n then liesGo t n (max m n)
    else if 6 ≤ x.op ∧ x.op ≤ 14 ∧ 2 ≤ n then liesGo t (n - 1) (max m (n - 1))
    else (-1, -1)
def liesL (l : List OpS) : Int × Int := liesGo l 0 0

def opOk (regs : List Int) (own locs : Int) (x : OpS) : Bool :=
  if x.op = 1 then inB x.n 10000
  else if x.op = 2 then inB x.n own
  else if x.op = 3 then inB x.n locs
  else if x.op = 4 then (match regs[x.t.toNat]? with | some m => decide (0 ≤ x.t) && inB x.n m | none => false)
  else true

def rightC (l : List OpS) (regs : List Int) (own locs : Int) : Bool := l.all (opOk regs own locs) && decide ((liesL l).1 = 1)

theorem rightC_bad {l : List OpS} {regs : List Int} {own locs : Int} {k : Nat} (hk : k < l.length) (h : opOk regs own locs l[k] = false) : rightC l regs own locs = false := by
  have : l.all (opOk regs own locs) = false := by
    rw [Bool.eq_false_iff]
    intro e
    rw [List.all_eq_true] at e
    have := e _ (List.getElem_mem hk)
    rw [h] at this
    simp at this
  simp [rightC, this]
theorem rightC_good {l : List OpS} {regs : List Int} {own locs : Int} (h : ∀ k (hk : k < l.length), opOk regs own locs l[k] = true) : rightC l regs own locs = decide ((liesL l).1 = 1) := by
  have : l.all (opOk regs own locs) = true := by
    rw [List.all_eq_true]
    intro x hx
    obtain ⟨k, hk, rfl⟩ := List.getElem_of_mem hx
    exact h k hk
  simp [rightC, this]

structure Needs where
  reg : Bool
  loc : Bool
  e : Bool
  f : Bool
  ne : Bool
  goal : Bool

/-- What kinds of instructions have. -/
def needsOf (op : Int) : Option Needs :=
  if op = 2 then some ⟨true, false, true, false, false, false⟩
  else if op = 3 then some ⟨true, true, false, false, false, false⟩
  else if op = 4 then some ⟨false, true, true, false, false, false⟩
  else if op = 5 then some ⟨true, true, true, true, false, false⟩
  else if op = 6 then some ⟨true, true, true, false, false, false⟩
  else if op = 7 then some ⟨true, true, true, false, false, false⟩
  else if op = 8 then some ⟨false, false, false, false, false, false⟩
  else if op = 9 then some ⟨false, true, true, false, true, false⟩
  else if op = 20 then some ⟨false, false, false, false, false, true⟩
  else if op = 21 then some ⟨false, false, true, false, false, true⟩
  else none

def placeB (has : Bool) (n most : Int) : Bool := if has then inB n most else decide (n = 0)
def codeB (has : Bool) (l : List OpS) (regs : Int) : Bool := if has then rightC l [] regs 0 else l.isEmpty

def instrOk (regs locs many : Int) (x : InstrS) : Bool := match needsOf x.op with
  | none => false
  | some n => (!x.ne || n.ne) && placeB n.reg x.reg regs && placeB n.loc x.loc locs && placeB n.goal x.goal many && codeB n.e x.e regs && codeB n.f x.f regs

def doneOk (x : InstrS) : Bool := decide (x.op = 22) && decide (x.reg = 0) && decide (x.loc = 0) && decide (x.goal = 0) && !x.ne && x.e.isEmpty && x.f.isEmpty

def rowOk (l : List InstrS) (regs locs : Int) : Bool :=
  decide (1 ≤ l.length ∧ l.length ≤ 1000) && (match l[l.length - 1]? with | some x => doneOk x | none => false) && (List.range (l.length - 1)).all fun i => match l[i]? with | some x => instrOk regs locs l.length x | none => true

theorem rowOk_bad {l : List InstrS} {regs locs : Int} {k : Nat} (hk : k + 1 < l.length) (h : instrOk regs locs l.length (l[k]'(by omega)) = false) : rowOk l regs locs = false := by
  have : ((List.range (l.length - 1)).all fun i => match l[i]? with | some x => instrOk regs locs l.length x | none => true) = false := by
    rw [Bool.eq_false_iff]
    intro e
    rw [List.all_eq_true] at e
    have := e k (by simp; omega)
    rw [List.getElem?_eq_getElem (by omega)] at this
    simp only [h] at this
    simp at this
  simp [rowOk, this]
theorem rowOk_last {l : List InstrS} {regs locs : Int} (hk : l.length - 1 < l.length) (h : doneOk l[l.length - 1] = false) : rowOk l regs locs = false := by
  simp [rowOk, List.getElem?_eq_getElem hk, h]
theorem rowOk_size {l : List InstrS} {regs locs : Int} (h : ¬ (1 ≤ l.length ∧ l.length ≤ 1000)) : rowOk l regs locs = false := by
  have : decide (1 ≤ l.length ∧ l.length ≤ 1000) = false := decide_eq_false h
  simp only [rowOk, this, Bool.false_and]
theorem rowOk_good {l : List InstrS} {regs locs : Int} (h1 : 1 ≤ l.length ∧ l.length ≤ 1000) (hk : l.length - 1 < l.length) (h2 : doneOk l[l.length - 1] = true) (h3 : ∀ k (hk : k + 1 < l.length), instrOk regs locs l.length (l[k]'(by omega)) = true) : rowOk l regs locs = true := by
  have : ((List.range (l.length - 1)).all fun i => match l[i]? with | some x => instrOk regs locs l.length x | none => true) = true := by
    rw [List.all_eq_true]
    intro k hk
    have hk : k + 1 < l.length := by simp at hk; omega
    rw [List.getElem?_eq_getElem (by omega)]
    exact h3 k hk
  have h4 : decide (1 ≤ l.length ∧ l.length ≤ 1000) = true := decide_eq_true h1
  simp only [rowOk, this, h4, List.getElem?_eq_getElem hk, h2, Bool.and_self]

def allIn (l : List Int) (mod : Int) : Bool := l.all fun n => inB n mod
theorem allIn_bad {l : List Int} {mod : Int} {k : Nat} (hk : k < l.length) (h : inB l[k] mod = false) : allIn l mod = false := by
  rw [Bool.eq_false_iff]
  intro e
  simp only [allIn, List.all_eq_true] at e
  have := e _ (List.getElem_mem hk)
  rw [h] at this
  simp at this
theorem allIn_good {l : List Int} {mod : Int} (h : ∀ k (hk : k < l.length), inB l[k] mod = true) : allIn l mod = true := by
  simp only [allIn, List.all_eq_true]
  intro x hx
  obtain ⟨k, hk, rfl⟩ := List.getElem_of_mem hx
  exact h k hk

/-- Is a thread's row right, with so many registers? -/
def threadOk (u : UnitS) (t : Nat) : Bool := match u.regs[t]?, u.code[t]? with
  | some n, some r => decide (0 ≤ n ∧ n ≤ 6) && rowOk r n u.init.length
  | _, _ => false

def headOk (u : UnitS) : Bool := decide (2 ≤ u.mod ∧ u.mod ≤ 16 ∧ u.init.length ≤ 6 ∧ 1 ≤ u.regs.length ∧ u.regs.length ≤ 4 ∧ u.code.length = u.regs.length)
def rightU (u : UnitS) : Bool := headOk u && allIn u.init u.mod && (List.range u.regs.length).all (threadOk u)

theorem rightU_head {u : UnitS} (h : headOk u = false) : rightU u = false := by simp [rightU, h]
theorem rightU_init {u : UnitS} (h : allIn u.init u.mod = false) : rightU u = false := by simp [rightU, h]
theorem rightU_bad {u : UnitS} {t : Nat} (ht : t < u.regs.length) (h : threadOk u t = false) : rightU u = false := by
  have : (List.range u.regs.length).all (threadOk u) = false := by
    rw [Bool.eq_false_iff]
    intro e
    rw [List.all_eq_true] at e
    have := e t (by simpa using ht)
    rw [h] at this
    simp at this
  simp [rightU, this]
theorem rightU_good {u : UnitS} (h1 : headOk u = true) (h2 : allIn u.init u.mod = true) (h3 : ∀ t, t < u.regs.length → threadOk u t = true) : rightU u = true := by
  have : (List.range u.regs.length).all (threadOk u) = true := by
    rw [List.all_eq_true]
    intro t ht
    exact h3 t (by simpa using ht)
  simp [rightU, this, h1, h2]
theorem threadOk_of {u : UnitS} {t : Nat} (h1 : t < u.regs.length) (h2 : t < u.code.length) : threadOk u t = (decide (0 ≤ u.regs[t] ∧ u.regs[t] ≤ 6) && rowOk u.code[t] u.regs[t] u.init.length) := by
  simp only [threadOk, List.getElem?_eq_getElem h1, List.getElem?_eq_getElem h2]

/-- A unit whose lists are short. -/
def lightRow (r : List InstrS) : Bool := decide (r.length ≤ 200) && r.all fun x => decide (x.e.length ≤ 300 ∧ x.f.length ≤ 300)
def lightU (u : UnitS) : Bool := decide (u.init.length ≤ 20 ∧ u.regs.length ≤ 20 ∧ u.code.length ≤ 8) && u.code.all lightRow

end Go.Proofs.Ytaocgmkcjemecaa
