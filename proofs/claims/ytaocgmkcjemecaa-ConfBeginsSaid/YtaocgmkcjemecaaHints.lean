/- How the interpreter looks at the program's functions. Parts of the proofs of the laws. Conditions: none. -/
import Derived.Test.YtaocgmkcjemecaaAbsP3
import Derived.Test.YtaocgmkcjemecaaProg
namespace Go.Proofs.Ytaocgmkcjemecaa
set_option linter.unusedVariables false
set_option maxRecDepth 100000
def lookL : List (Nat × List Nat) → Nat → List Nat
  | [], _ => []
  | p :: l, f => match Nat.beq p.1 f with
    | true => p.2
    | false => lookL l f
def hasN : List Nat → Nat → Bool
  | [], _ => false
  | a :: l, f => match Nat.beq a f with
    | true => true
    | false => hasN l f
def lookK : List (Nat × List (Nat × List Nat × List Nat × List Nat)) → Nat → List (Nat × List Nat × List Nat × List Nat)
  | [], _ => []
  | p :: l, f => match Nat.beq p.1 f with
    | true => p.2
    | false => lookK l f
def lookM : List (Nat × List Nat × List Nat × List Nat) → Nat → Nat → List Nat
  | [], _, _ => []
  | p :: l, k, m => match Nat.beq p.1 k with
    | true => match m with
      | 0 => p.2.1
      | 1 => p.2.2.1
      | _ => p.2.2.2
    | false => lookM l k m
def keepT : List (Nat × List (Nat × List Nat × List Nat × List Nat)) := [
  (5, [(8, [7, 8, 9, 10, 11, 12], [7, 8, 9, 10], [6]), (13, [7, 8, 9, 10, 11, 12, 13], [7, 8, 9, 10, 11, 12], [6])]),
  (7, [(6, [2, 5, 6], [2, 5], [4])]),
  (8, [(8, [1, 3, 5, 7, 8], [1, 5, 7], [2])]),
  (10, [(8, [2, 5, 6, 7, 8], [2, 5, 6, 7], [4]), (12, [2, 5, 6, 7, 9], [2, 5, 6, 7], [4]), (16, [2, 5, 6, 7, 10], [2, 5, 6, 7], [4]), (19, [2, 5, 6, 7, 10, 11], [2, 5, 6, 7, 10], [4]), (23, [2, 5, 6, 7, 12], [2, 6, 7], [4]), (26, [2, 5, 6, 7, 12, 13], [2, 5, 6, 7, 12], [4])]),
  (11, [(7, [1, 2, 3, 7, 8, 9, 10], [1, 2, 3, 7, 8, 9], [6])]),
  (17, [(5, [1, 3], [], [2]), (10, [1, 3, 4], [1, 3], [2])]),
  (19, [(8, [1, 2, 3, 8, 38, 39], [8], [6, 7])]),
  (20, [(8, [1, 2, 3, 8, 9], [8], [6, 7])]),
  (21, [(5, [1, 3], [], [2]), (11, [1, 3, 4, 5], [1, 3], [2])]),
  (25, [(7, [0, 1, 5, 6], [5], [4])]),
  (28, [(5, [0, 1, 2, 3, 4, 11], [0, 1, 2], [10])]),
  (29, [(13, [1, 2, 3, 4, 8, 12, 13, 14], [8, 12, 13], [8, 9]), (17, [1, 2, 3, 4, 8, 12, 13, 14, 15, 16], [1, 2, 3, 4, 8, 12, 13, 14], [8, 9])]),
  (31, [(7, [2, 5, 24, 25, 26], [2, 5], [2, 3])]),
  (32, [(6, [1, 2, 4, 5], [1, 2, 4], [2, 3])]),
  (33, [(5, [2, 3, 5], [2, 3], [4]), (10, [2, 3, 6], [], [4])]),
  (34, [(5, [1, 3], [1], [2]), (10, [1, 4], [], [2])]),
  (35, [(6, [2, 3, 4, 5, 51, 52, 53], [], [8])]),
  (36, [(6, [2, 3, 4, 5, 9, 10], [2, 3, 4], [8])]),
  (37, [(3, [6, 7, 8], [], [2])]),
  (38, [(3, [1, 3], [], [2])]),
  (39, [(3, [2, 3, 8, 9], [3], [4])]),
  (40, [(3, [2, 3, 5], [3], [4])]),
  (44, [(6, [1, 2, 3, 4], [1, 2, 3], [2]), (12, [1, 2, 3, 6], [2, 3], [2])]),
  (48, [(6, [5, 10, 31, 32, 33], [5, 10], [8, 9]), (10, [5, 10, 11, 31, 32, 33, 51, 52, 53], [5, 10, 11, 31, 32, 33], [8, 9]), (16, [5, 10, 31, 32, 33, 77, 78, 79], [5, 10, 31, 32, 33], [8, 9]), (22, [10, 95, 96, 97], [10], [8, 9])]),
  (49, [(6, [5, 10, 11], [5, 10], [8, 9]), (10, [5, 10, 11, 12], [5, 10, 11], [8, 9]), (15, [5, 10, 11, 13], [5, 10, 11], [8, 9]), (19, [5, 10, 14], [10], [8, 9])]),
  (50, [(4, [1, 3, 17, 18, 19], [1, 3], [2]), (9, [3, 29, 30, 31], [3], [2])]),
  (51, [(4, [1, 3, 4], [1, 3], [2]), (8, [1, 3, 5], [3], [2])]),
  (52, [(8, [2, 3, 4, 8, 10, 11, 28, 29, 30], [2, 3, 4, 8, 10, 11], [8, 9])]),
  (53, [(7, [1, 2, 3, 4, 8, 10, 12, 13], [1, 2, 3, 4, 8, 10, 12], [8, 9]), (12, [1, 2, 3, 4, 8, 10, 12, 13, 14], [1, 2, 3, 4, 8, 10, 12, 13], [8, 9]), (20, [1, 2, 3, 4, 8, 10, 12, 13, 15, 16, 17], [1, 2, 3, 4, 8, 10, 12, 13, 16], [8, 9]), (26, [1, 2, 3, 4, 8, 10, 12, 18], [1, 2, 3, 4, 8, 10], [8, 9])]),
  (54, [(7, [1, 43, 44, 45], [1], [2]), (13, [1, 59, 60, 61], [], [2])]),
  (55, [(3, [1, 2, 4, 5], [4, 5], [4])]),
  (59, [(3, [0, 1, 5], [], [4])]),
  (62, [(4, [0, 4, 5, 9, 10], [4, 5], [4])]),
  (63, [(4, [0, 1, 5, 6], [5], [4])]),
  (64, [(4, [0, 1, 5, 6], [5], [4])]),
  (65, [(4, [2, 3, 4, 5, 9, 10], [9], [8])]),
  (67, [(3, [2, 3, 5], [], [4])]),
  (68, [(5, [0, 1, 4, 6], [0, 1, 4], [4, 5]), (12, [0, 1, 4, 7, 8], [4, 7], [4, 5]), (15, [0, 1, 4, 7, 8, 9], [0, 1, 4, 7, 8], [4, 5])]),
  (71, [(5, [0, 1, 5], [], [4])]),
  (72, [(5, [0, 1, 5], [], [4])]),
  (73, [(3, [0, 1, 2, 9, 10, 11], [0, 2], [6])]),
  (74, [(5, [0, 1, 2, 3, 4, 27, 28, 29], [0, 1, 2], [10])]),
  (75, [(4, [3, 6, 7, 8], [3], [2])]),
  (76, [(4, [3, 6, 7, 8], [3], [2])]),
  (77, [(5, [0, 1, 12, 13], [], [4])]),
  (78, [(5, [0, 1, 12, 13], [], [4])]),
  (79, [(5, [0, 1, 12, 13], [], [4])]),
  (81, [(6, [0, 1, 7, 38, 39], [1, 7], [])]),
  (82, [(4, [0, 5, 10, 11], [5], [4])]),
  (84, [(6, [0, 1, 2, 29, 30, 31], [], [6])]),
  (87, [(3, [0, 1, 5], [], [4])]),
  (89, [(3, [0, 1, 2, 3, 9], [0], [8])]),
  (95, [(4, [1, 5, 8, 9, 10], [5], [4])]),
  (97, [(5, [0, 1, 12, 13], [], [4])]),
  (101, [(5, [0, 4, 5, 6], [4, 5], [2, 3])]),
  (106, [(10, [0, 5, 7, 8, 9], [5, 7, 8], [6])]),
  (107, [(4, [0, 1, 2, 7, 9, 10], [0, 1, 7, 9], [6, 7, 8]), (12, [0, 7, 9, 11, 12], [0, 7, 9, 11], [6, 7, 8])]),
  (110, [(3, [0, 1, 2, 3, 14, 15, 16], [0], [8])]),
  (113, [(6, [0, 1, 2, 3, 4, 12, 13], [0, 1, 2, 3, 4, 12], [10, 11]), (15, [0, 1, 2, 3, 4, 14, 15], [14], [10, 11])]),
  (114, [(3, [0, 1, 6], [], [4, 5])]),
  (115, [(4, [4, 5, 11, 12, 13], [4, 5], [2, 3])]),
  (1000000, [])]
def inlT : List Nat := [
  80,
  81,
  82,
  98,
  109,
  1000000]
def objT : List (Nat × List Nat) := [
  (5, [26, 11, 14]),
  (1000000, [])]
def arrT : List (Nat × List Nat) := [
  (70, [4]),
  (1000000, [])]
def upsT : List Nat := [
  31,
  32,
  44,
  1000000]
def adoT : List (Nat × List Nat) := [
  (43, [5]),
  (30, [37]),
  (1000000, [])]
def orderT : List (Nat × List (Nat × List Nat)) := [
  (43, [(1, [0, 1, 3, 4, 6, 7, 9, 10, 2, 5, 8, 11, 12, 13])]),
  (1000000, [])]
def lookO : List (Nat × List (Nat × List Nat)) → Nat → List (Nat × List Nat)
  | [], _ => []
  | p :: l, f => match Nat.beq p.1 f with
    | true => p.2
    | false => lookO l f
def allT : List Nat := [
  2,
  3,
  4,
  5,
  6,
  7,
  8,
  9,
  10,
  11,
  12,
  13,
  14,
  15,
  16,
  17,
  18,
  19,
  20,
  21,
  22,
  23,
  24,
  25,
  26,
  27,
  28,
  29,
  30,
  31,
  32,
  33,
  34,
  35,
  36,
  37,
  38,
  39,
  40,
  41,
  42,
  43,
  44,
  45,
  46,
  47,
  48,
  49,
  50,
  51,
  52,
  53,
  54,
  55,
  56,
  57,
  58,
  59,
  60,
  61,
  62,
  63,
  64,
  65,
  66,
  67,
  68,
  69,
  70,
  71,
  72,
  73,
  74,
  75,
  76,
  77,
  78,
  79,
  80,
  81,
  82,
  83,
  84,
  85,
  86,
  87,
  88,
  89,
  90,
  91,
  92,
  93,
  94,
  95,
  96,
  97,
  98,
  99,
  100,
  101,
  102,
  103,
  104,
  105,
  106,
  107,
  108,
  109,
  110,
  111,
  112,
  113,
  114,
  115,
  116,
  117,
  118,
  119,
  120,
  121,
  122,
  123,
  124,
  125,
  126,
  127,
  128,
  129,
  21]
def plainT : List Nat := [
  2,
  3,
  4,
  5,
  6,
  7,
  8,
  9,
  10,
  11,
  12,
  13,
  14,
  15,
  16,
  17,
  18,
  19,
  20,
  21,
  22,
  23,
  24,
  25,
  26,
  27,
  28,
  29,
  30,
  31,
  32,
  33,
  34,
  35,
  36,
  37,
  38,
  39,
  40,
  41,
  42,
  43,
  44,
  45,
  46,
  47,
  48,
  49,
  50,
  51,
  52,
  53,
  54,
  55,
  56,
  57,
  58,
  59,
  60,
  61,
  62,
  63,
  64,
  65,
  66,
  67,
  68,
  69,
  70,
  71,
  72,
  73,
  74,
  75,
  76,
  77,
  78,
  79,
  82,
  83,
  84,
  85,
  86,
  87,
  88,
  89,
  90,
  91,
  92,
  93,
  94,
  95,
  96,
  97,
  98,
  99,
  100,
  101,
  102,
  103,
  104,
  105,
  106,
  107,
  108,
  109,
  110,
  111,
  112,
  113,
  114,
  115,
  116,
  117,
  118,
  119,
  120,
  121,
  122,
  123,
  124,
  125,
  126,
  127,
  128,
  129,
  21]
def HH : Hints := ⟨fun f k m => lookM (lookK keepT f) k m, fun _ g => hasN inlT g, fun f d => hasN (lookL objT f) d, fun f d => hasN (lookL arrT f) d, fun f => hasN upsT f, fun f d => hasN (lookL adoT f) d, fun f i => lookL (lookO orderT f) i, allT, plainT⟩

def goodB (P : Program) (g : FuncId) : Bool := match P.funcs[g]? with
  | some fn => !(fn.name == "runtime.NumGoroutine") && !fn.body.isNone
  | none => false
def plainB (P : Program) (H : Hints) (g : FuncId) : Bool := match P.funcs[g]? with
  | some fn => match fn.body with
    | some c => drawsC H g c
    | none => true
  | none => true
theorem goodH_of {P : Program} {H : Hints} (h : H.good.all (goodB P) = true) : GoodH P H := by
  intro g hg
  rw [List.all_eq_true] at h
  have := h g (by simpa using hg)
  unfold goodB at this
  cases hf : P.funcs[g]? with
  | none => rw [hf] at this; cases this
  | some fn =>
    rw [hf] at this
    simp only [Bool.and_eq_true, Bool.not_eq_true'] at this
    exact ⟨fn, hf, this.1, this.2⟩
theorem plain_of {P : Program} {H : Hints} (h : H.plain.all (plainB P H) = true) : ∀ g fn c, H.plain.contains g = true → P.funcs[g]? = some fn → fn.body = some c → drawsC H g c = true := by
  intro g fn c hg hf hb
  rw [List.all_eq_true] at h
  have := h g (by simpa using hg)
  unfold plainB at this
  rw [hf] at this
  simp only [hb] at this
  exact this
theorem goodHH : GoodH Try.prog HH := goodH_of (by kernel_rfl)
theorem plainHH : ∀ g fn c, HH.plain.contains g = true → Try.prog.funcs[g]? = some fn → fn.body = some c → drawsC HH g c = true := plain_of (by kernel_rfl)
theorem mixed : Try.prog.follows .mixedOrders = true := by kernel_rfl

/-- The interpreter of this program. -/
noncomputable abbrev cN (X : Ext) (n : Nat) : CallT := callS Try.prog HH X n
theorem cN_sound {X : Ext} (hX : SoundExt Try.prog X) (n : Nat) : SoundCall Try.prog HH (cN X n) := callS_sound mixed goodHH hX plainHH n
end Go.Proofs.Ytaocgmkcjemecaa
