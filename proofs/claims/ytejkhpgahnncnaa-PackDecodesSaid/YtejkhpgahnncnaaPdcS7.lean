/- Parts of the proofs: what they lean on. Conditions: none. -/
import Derived.Test.YtejkhpgahnncnaaProg
import Derived.Test.YtejkhpgahnncnaaPdcS6
section
namespace Go.Proofs.Ytejkhpgahnncnaa
set_option linter.unusedVariables false
set_option maxRecDepth 100000
def lookL : List (Nat × List Nat) → Nat → List Nat
  | [], _ => []
  | p :: l, f => match Nat.beq p.1 f with
    | true => p.2
    | false => lookL l f
def lookK : List (Nat × List (Nat × List Nat × List Nat × List Nat)) → Nat → List (Nat × List Nat × List Nat × List Nat)
  | [], _ => []
  | p :: l, f => match Nat.beq p.1 f with
    | true => p.2
    | false => lookK l f
def lookM : List (Nat × List Nat × List Nat × List Nat) → Nat → Nat → List Nat
  | [], _, _ => []
  | p :: l, k, m => match Nat.beq p.1 k with
    | true => match m with
      | 0 => p.2.1
      | 1 => p.2.2.1
      | _ => p.2.2.2
    | false => lookM l k m
def keepT : List (Nat × List (Nat × List Nat × List Nat × List Nat)) := [
  (3, [(8, [1, 3, 5, 7, 8], [1, 5, 7], [2])]),
  (4, [(8, [2, 5, 6, 7, 8], [2, 5, 6, 7], [4]), (12, [2, 5, 6, 7, 9], [2, 5, 6, 7], [4]), (16, [2, 5, 6, 7, 10], [2, 5, 6, 7], [4]), (19, [2, 5, 6, 7, 10, 11], [2, 5, 6, 7, 10], [4]), (23, [2, 5, 6, 7, 12], [2, 6, 7], [4]), (26, [2, 5, 6, 7, 12, 13], [2, 5, 6, 7, 12], [4])]),
  (10, [(5, [1, 3], [], [2]), (10, [1, 3, 4], [1, 3], [2])]),
  (12, [(7, [2, 5, 24, 25, 26], [2, 5], [2, 3])]),
  (13, [(6, [1, 2, 4, 5], [1, 2, 4], [2, 3])]),
  (14, [(5, [2, 3, 5], [2, 3], [4]), (10, [2, 3, 6], [], [4])]),
  (15, [(5, [1, 3], [1], [2]), (10, [1, 4], [], [2])]),
  (17, [(6, [1, 2, 3, 4], [1, 2, 3], [2]), (12, [1, 2, 3, 6], [2, 3], [2])]),
  (21, [(6, [5, 10, 31, 32, 33], [5, 10], [8, 9]), (10, [5, 10, 11, 31, 32, 33, 51, 52, 53], [5, 10, 11, 31, 32, 33], [8, 9]), (16, [5, 10, 31, 32, 33, 77, 78, 79], [5, 10, 31, 32, 33], [8, 9]), (22, [10, 95, 96, 97], [10], [8, 9])]),
  (22, [(6, [5, 10, 11], [5, 10], [8, 9]), (10, [5, 10, 11, 12], [5, 10, 11], [8, 9]), (15, [5, 10, 11, 13], [5, 10, 11], [8, 9]), (19, [5, 10, 14], [10], [8, 9])]),
  (23, [(4, [1, 3, 17, 18, 19], [1, 3], [2]), (9, [3, 29, 30, 31], [3], [2])]),
  (24, [(4, [1, 3, 4], [1, 3], [2]), (8, [1, 3, 5], [3], [2])]),
  (25, [(8, [2, 3, 4, 8, 10, 11, 28, 29, 30], [2, 3, 4, 8, 10, 11], [8, 9])]),
  (26, [(7, [1, 2, 3, 4, 8, 10, 12, 13], [1, 2, 3, 4, 8, 10, 12], [8, 9]), (12, [1, 2, 3, 4, 8, 10, 12, 13, 14], [1, 2, 3, 4, 8, 10, 12, 13], [8, 9]), (20, [1, 2, 3, 4, 8, 10, 12, 13, 15, 16, 17], [1, 2, 3, 4, 8, 10, 12, 13, 16], [8, 9]), (26, [1, 2, 3, 4, 8, 10, 12, 18], [1, 2, 3, 4, 8, 10], [8, 9])]),
  (27, [(6, [2, 3, 4, 5, 9, 10], [2, 3, 4], [8])]),
  (29, [(6, [2, 3, 4, 5, 51, 52, 53], [], [8])]),
  (30, [(3, [2, 3, 8, 9], [3], [4])]),
  (32, [(3, [6, 7, 8], [], [2])]),
  (33, [(7, [1, 43, 44, 45], [1], [2]), (13, [1, 59, 60, 61], [], [2])]),
  (35, [(5, [1, 3], [], [2]), (11, [1, 3, 4, 5], [1, 3], [2])]),
  (36, [(5, [0, 1, 5], [], [4])]),
  (37, [(5, [0, 1, 5], [], [4])]),
  (38, [(4, [3, 6, 7, 8], [3], [2])]),
  (39, [(4, [3, 6, 7, 8], [3], [2])]),
  (40, [(5, [0, 1, 12, 13], [], [4])]),
  (41, [(5, [0, 1, 12, 13], [], [4])]),
  (42, [(5, [0, 1, 12, 13], [], [4])]),
  (44, [(6, [0, 1, 7, 38, 39], [1, 7], [])]),
  (45, [(4, [0, 5, 10, 11], [5], [4])]),
  (47, [(3, [0, 1, 5], [], [4])]),
  (48, [(5, [0, 1, 2, 3, 4, 11], [0, 1, 2], [10])]),
  (49, [(3, [0, 1, 2, 9, 10, 11], [0, 2], [6])]),
  (50, [(5, [0, 1, 2, 3, 4, 27, 28, 29], [0, 1, 2], [10])]),
  (51, [(6, [0, 1, 2, 29, 30, 31], [], [6])]),
  (55, [(5, [0, 1, 12, 13], [], [4])]),
  (58, [(4, [0, 1, 5, 6], [5], [4])]),
  (59, [(4, [1, 5, 8, 9, 10], [5], [4])]),
  (63, [(3, [0, 1, 5], [], [4])]),
  (65, [(3, [0, 1, 2, 3, 9], [0], [8])]),
  (68, [(3, [0, 1, 2, 3, 14, 15, 16], [0], [8])]),
  (70, [(5, [0, 4, 5, 6], [4, 5], [2, 3])]),
  (71, [(4, [4, 5, 11, 12, 13], [4, 5], [2, 3])]),
  (1000000, [])]
def inlT : List Nat := [
  56,
  45,
  44,
  43,
  67,
  1000000]
def upcT : List (Nat × List Nat) := [
  (1000000, [])]
def dynT : List (Nat × List Nat) := [
  (22, [16, 7]),
  (43, [0]),
  (44, [2, 1]),
  (1000000, [])]
def stkT : List (Nat × List Nat) := [
  (1000000, [])]
def cyT : List (Nat × List (Nat × List Nat)) := [
  (1000000, [])]
def objT : List (Nat × List Nat) := [
  (44, [7]),
  (22, [10]),
  (1000000, [])]
def arrT : List (Nat × List Nat) := [
  (34, [4]),
  (21, [27]),
  (45, [8]),
  (1000000, [])]
def upsT : List Nat := [
  12,
  25,
  17,
  13,
  1000000]
def adoT : List (Nat × List Nat) := [
  (16, [5]),
  (11, [37]),
  (3, [17]),
  (1000000, [])]
def orderT : List (Nat × List (Nat × List Nat)) := [
  (16, [(1, [0, 1, 3, 4, 6, 7, 9, 10, 2, 5, 8, 11, 12, 13])]),
  (1000000, [])]
def lookO : List (Nat × List (Nat × List Nat)) → Nat → List (Nat × List Nat)
  | [], _ => []
  | p :: l, f => match Nat.beq p.1 f with
    | true => p.2
    | false => lookO l f
def joinT : List (Nat × List (Nat × List Nat)) := [
  (1000000, [])]
def allT : List Nat := [
  2,
  3,
  4,
  5,
  6,
  7,
  8,
  9,
  10,
  11,
  12,
  13,
  14,
  15,
  16,
  17,
  18,
  19,
  20,
  21,
  22,
  23,
  24,
  25,
  26,
  27,
  28,
  29,
  30,
  31,
  32,
  33,
  34,
  35,
  36,
  37,
  38,
  39,
  40,
  41,
  42,
  43,
  44,
  45,
  46,
  47,
  48,
  49,
  50,
  51,
  52,
  53,
  54,
  55,
  56,
  57,
  58,
  59,
  60,
  61,
  62,
  63,
  64,
  65,
  66,
  67,
  68,
  69,
  70,
  71,
  72,
  73,
  74,
  75,
  76,
  77,
  78,
  79,
  80,
  81,
  82,
  83,
  ]
def plainT : List Nat := [
  2,
  3,
  4,
  5,
  6,
  7,
  8,
  9,
  10,
  11,
  12,
  13,
  14,
  15,
  16,
  17,
  18,
  19,
  20,
  21,
  22,
  23,
  24,
  25,
  26,
  27,
  28,
  29,
  30,
  31,
  32,
  33,
  34,
  35,
  36,
  37,
  38,
  39,
  40,
  41,
  42,
  43,
  44,
  45,
  46,
  47,
  48,
  49,
  50,
  51,
  52,
  53,
  54,
  55,
  56,
  57,
  58,
  59,
  60,
  61,
  62,
  63,
  64,
  65,
  66,
  67,
  68,
  69,
  70,
  71,
  72,
  73,
  74,
  75,
  76,
  77,
  78,
  79,
  80,
  81,
  82,
  83,
  ]
def HH : Hints := ⟨fun f k m => lookM (lookK keepT f) k m, fun _ g => hasN inlT g, fun f d => hasN (lookL objT f) d, fun f d => hasN (lookL arrT f) d, fun f => hasN upsT f, fun f d => hasN (lookL adoT f) d, fun f g => hasN (lookL upcT f) g, fun _ => true, fun f i => hasN (lookL dynT f) i, fun f i => lookL (lookO orderT f) i, fun f i => lookL (lookO joinT f) i, fun f d => hasN (lookL stkT f) d, fun f i => lookL (lookO cyT f) i, allT, plainT⟩

def goodB (P : Program) (g : FuncId) : Bool := match P.funcs[g]? with
  | some fn => !(fn.name == "runtime.NumGoroutine") && !fn.body.isNone
  | none => false
def plainB (P : Program) (H : Hints) (g : FuncId) : Bool := match P.funcs[g]? with
  | some fn => match fn.body with
    | some c => drawsC H g c
    | none => true
  | none => true
theorem goodH_of {P : Program} {H : Hints} (h : H.good.all (goodB P) = true) : GoodH P H := by
  intro g hg
  rw [List.all_eq_true] at h
  have := h g (by simpa using hg)
  unfold goodB at this
  cases hf : P.funcs[g]? with
  | none => rw [hf] at this; cases this
  | some fn =>
    rw [hf] at this
    simp only [Bool.and_eq_true, Bool.not_eq_true'] at this
    exact ⟨fn, hf, this.1, this.2⟩
theorem plain_of {P : Program} {H : Hints} (h : H.plain.all (plainB P H) = true) : ∀ g fn c, H.plain.contains g = true → P.funcs[g]? = some fn → fn.body = some c → drawsC H g c = true := by
  intro g fn c hg hf hb
  rw [List.all_eq_true] at h
  have := h g (by simpa using hg)
  unfold plainB at this
  rw [hf] at this
  simp only [hb] at this
  exact this
theorem goodHH : GoodH Try.prog HH := goodH_of (by kernel_rfl)
theorem plainHH : ∀ g fn c, HH.plain.contains g = true → Try.prog.funcs[g]? = some fn → fn.body = some c → drawsC HH g c = true := plain_of (by kernel_rfl)
theorem mixed : Try.prog.follows .mixedOrders = true := by kernel_rfl

/-- The interpreter of this program. -/
noncomputable abbrev cN (X : Ext) (n : Nat) : CallT := callS Try.prog HH X n
theorem cN_sound {X : Ext} (hX : SoundExt Try.prog X) (n : Nat) : SoundCall Try.prog HH (cN X n) := callS_sound mixed goodHH hX plainHH n
end Go.Proofs.Ytejkhpgahnncnaa
end

section
namespace Go.Proofs.Ytejkhpgahnncnaa
set_option linter.unusedVariables false

theorem callN_run {P : Program} {H : Hints} {X : Ext} {n : Nat} {f : FuncId} {args : List AV} {hp : Hp} (h : X f = none) : callN P H X (n + 1) f args hp = runFn P H (callS P H X n) n false f args hp := by
  simp only [callN, callS, h]
theorem runFn_eq {P : Program} {H : Hints} {call : CallT} {n : Nat} {f : FuncId} {args : List AV} {hp : Hp} {fn : Func} {c : Code} {r : Option (AV × Hp)} (hf : P.funcs[f]? = some fn) (hb : fn.body = some c) (hg : H.plain.contains f = true) (ha : args.length ≤ fn.ntmps)
    (h : runC P H call f n hp.length c (args ++ List.replicate (fn.ntmps - args.length) .junk) hp (fun e tm hp' => match e with
        | .exit _ => none
        | _ => resV P fn tm hp' fun v => some (wane hp.length hp' v, (waneHp hp.length hp').map (normOb P))) = r) : runFn P H call n false f args hp = r := by
  have : (H.plain.contains f && decide (args.length ≤ fn.ntmps)) = true := by rw [hg, decide_eq_true ha]; rfl
  simp only [runFn, hf, hb, this]
  exact h
/-- A call is its body's run. -/
theorem callN_eq {P : Program} {H : Hints} {X : Ext} {n : Nat} {f : FuncId} {args : List AV} {hp : Hp} {fn : Func} {c : Code} {r : Option (AV × Hp)} (hf : P.funcs[f]? = some fn) (hx : X f = none) (hb : fn.body = some c) (hg : H.plain.contains f = true) (ha : args.length ≤ fn.ntmps)
    (h : runC P H (callS P H X n) f n hp.length c (args ++ List.replicate (fn.ntmps - args.length) .junk) hp (fun e tm hp' => match e with
        | .exit _ => none
        | _ => resV P fn tm hp' fun v => some (wane hp.length hp' v, (waneHp hp.length hp').map (normOb P))) = r) : callN P H X (n + 1) f args hp = r := by
  rw [callN_run hx]; exact runFn_eq hf hb hg ha h
/-- The same, the callees under a name of their own. -/
theorem callN_eq' {P : Program} {H : Hints} {X : Ext} {n : Nat} {f : FuncId} {args : List AV} {hp : Hp} {fn : Func} {c : Code} {r : Option (AV × Hp)} (hf : P.funcs[f]? = some fn) (hx : X f = none) (hb : fn.body = some c) (hg : H.plain.contains f = true) (ha : args.length ≤ fn.ntmps)
    (h : ∀ call : CallT, (∀ g l h, call false g l h = callN P H X n g l h) → runC P H call f n hp.length c (args ++ List.replicate (fn.ntmps - args.length) .junk) hp (fun e tm hp' => match e with
        | .exit _ => none
        | _ => resV P fn tm hp' fun v => some (wane hp.length hp' v, (waneHp hp.length hp').map (normOb P))) = r) : callN P H X (n + 1) f args hp = r :=
  callN_eq hf hx hb hg ha (h _ fun _ _ _ => rfl)
theorem wrap64 {n : Int} (h : -9223372036854775808 ≤ n ∧ n ≤ 9223372036854775807) : IntKind.i64.wrap n = n := by
  simp only [IntKind.wrap, IntKind.bits, IntKind.signed, Bool.true_and]
  split <;> simp at * <;> omega
theorem wrap_succ (k : Nat) (h : k < 9223372036854775807) : IntKind.i64.wrap ((k : Int) + 1) = ((k + 1 : Nat) : Int) := by rw [wrap64 (by omega)]; omega
theorem wrap_pred (k : Nat) (h0 : 0 < k) (h : k < 9223372036854775807) : IntKind.i64.wrap ((k : Int) - 1) = ((k - 1 : Nat) : Int) := by rw [wrap64 (by omega)]; omega
/-- Slots by their numbers. -/
def slotAt (i : Nat) : List (Nat × AV) → AV
  | [] => .junk
  | p :: l => match Nat.beq p.1 i with
    | true => p.2
    | false => slotAt i l
def stFrom (l : List (Nat × AV)) (i : Nat) : Nat → Tm
  | 0 => []
  | n + 1 => slotAt i l :: stFrom l (i + 1) n
def stOf (n : Nat) (l : List (Nat × AV)) : Tm := stFrom l 0 n
end Go.Proofs.Ytejkhpgahnncnaa
end

