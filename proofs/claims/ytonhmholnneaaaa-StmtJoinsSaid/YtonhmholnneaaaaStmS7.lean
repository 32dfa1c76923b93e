/- Parts of the proofs: what they lean on. Conditions: none. -/
import Derived.Test.YtonhmholnneaaaaProg
import Derived.Test.YtonhmholnneaaaaStmS6
section
namespace Go.Proofs.Ytonhmholnneaaaa
set_option linter.unusedVariables false
set_option maxRecDepth 100000
def lookL : List (Nat × List Nat) → Nat → List Nat
  | [], _ => []
  | p :: l, f => match Nat.beq p.1 f with
    | true => p.2
    | false => lookL l f
def lookK : List (Nat × List (Nat × List Nat × List Nat × List Nat)) → Nat → List (Nat × List Nat × List Nat × List Nat)
  | [], _ => []
  | p :: l, f => match Nat.beq p.1 f with
    | true => p.2
    | false => lookK l f
def lookM : List (Nat × List Nat × List Nat × List Nat) → Nat → Nat → List Nat
  | [], _, _ => []
  | p :: l, k, m => match Nat.beq p.1 k with
    | true => match m with
      | 0 => p.2.1
      | 1 => p.2.2.1
      | _ => p.2.2.2
    | false => lookM l k m
def keepT : List (Nat × List (Nat × List Nat × List Nat × List Nat)) := [
  (6, [(5, [0, 3], [], [2])]),
  (7, [(6, [19, 20, 21], [], [2])]),
  (11, [(6, [1, 8, 25, 26, 27], [1, 8], [4, 5, 6, 7])]),
  (12, [(5, [0, 1, 2, 7], [], [6])]),
  (14, [(5, [0, 3], [], [2])]),
  (18, [(6, [0, 5, 6], [5], [2, 3, 4])]),
  (20, [(3, [0, 1, 5], [5], [4])]),
  (22, [(5, [0, 1, 2, 7], [], [6])]),
  (26, [(3, [1, 2, 8, 9], [], [4])]),
  (27, [(3, [0, 6], [0], [2])]),
  (29, [(3, [0, 6, 7, 8], [0], [2])]),
  (30, [(2, [0, 1, 2, 3], [], [8])]),
  (33, [(4, [3, 4, 5], [3], [2])]),
  (34, [(5, [1, 3, 5, 18, 19], [5], [2])]),
  (36, [(2, [0, 1], [1], [4]), (7, [0, 1], [0, 1], [4])]),
  (37, [(3, [0, 1, 4, 6], [0, 1, 4, 6], [4, 5]), (10, [0, 1, 4, 6, 7], [0, 1, 4, 6, 7], [4, 5]), (19, [0, 1, 4, 8, 9], [4], [4, 5])]),
  (39, [(13, [0, 1, 6, 8, 9, 84, 85], [0, 1, 6, 8], [4])]),
  (44, [(4, [3, 6, 7, 8], [3], [2])]),
  (45, [(5, [0, 20, 21, 22], [0], [2])]),
  (54, [(5, [0, 1, 5], [], [4])]),
  (56, [(5, [3, 4, 9, 10, 11], [4], [2]), (11, [3, 4, 9, 10, 11], [3, 4, 9, 10, 11], [2])]),
  (70, [(3, [0, 1, 2, 3, 9], [9], [8]), (6, [0, 1, 2, 3, 9, 10, 23, 24, 25], [0, 1, 2, 3, 9, 10], [8])]),
  (73, [(4, [5, 10, 11, 12], [5], [4])]),
  (1000000, [])]
def inlT : List Nat := [
  69,
  79,
  78,
  72,
  80,
  70,
  53,
  62,
  50,
  38,
  20,
  59,
  39,
  51,
  21,
  52,
  30,
  1000000]
def upcT : List (Nat × List Nat) := [
  (16, [30]),
  (1000000, [])]
def dynT : List (Nat × List Nat) := [
  (39, [3]),
  (20, [2]),
  (58, [0]),
  (60, [0]),
  (61, [0]),
  (63, [0]),
  (64, [0]),
  (1000000, [])]
def stkT : List (Nat × List Nat) := [
  (56, [3, 27, 47]),
  (1000000, [])]
def objT : List (Nat × List Nat) := [
  (73, [9]),
  (18, [5]),
  (44, [3]),
  (20, [5]),
  (39, [151]),
  (5, [45]),
  (1000000, [])]
def arrT : List (Nat × List Nat) := [
  (1000000, [])]
def upsT : List Nat := [
  1000000]
def adoT : List (Nat × List Nat) := [
  (39, [81]),
  (1000000, [])]
def orderT : List (Nat × List (Nat × List Nat)) := [
  (1000000, [])]
def lookO : List (Nat × List (Nat × List Nat)) → Nat → List (Nat × List Nat)
  | [], _ => []
  | p :: l, f => match Nat.beq p.1 f with
    | true => p.2
    | false => lookO l f
def allT : List Nat := [
  2,
  3,
  4,
  5,
  6,
  7,
  8,
  9,
  10,
  11,
  12,
  13,
  14,
  15,
  16,
  17,
  18,
  19,
  20,
  21,
  22,
  23,
  24,
  25,
  26,
  27,
  28,
  29,
  30,
  31,
  32,
  33,
  34,
  35,
  36,
  37,
  38,
  39,
  40,
  41,
  42,
  43,
  44,
  45,
  46,
  47,
  48,
  49,
  50,
  51,
  52,
  53,
  54,
  55,
  56,
  57,
  58,
  59,
  60,
  61,
  62,
  63,
  64,
  65,
  66,
  67,
  68,
  69,
  70,
  71,
  72,
  73,
  74,
  75,
  76,
  77,
  78,
  79,
  80,
  ]
def plainT : List Nat := [
  2,
  3,
  4,
  5,
  6,
  7,
  8,
  9,
  10,
  11,
  12,
  13,
  14,
  15,
  16,
  17,
  18,
  19,
  20,
  21,
  22,
  23,
  24,
  25,
  26,
  27,
  28,
  29,
  30,
  31,
  32,
  33,
  34,
  35,
  36,
  37,
  38,
  39,
  40,
  41,
  42,
  43,
  44,
  45,
  46,
  47,
  48,
  49,
  50,
  51,
  52,
  53,
  54,
  55,
  56,
  57,
  58,
  59,
  60,
  61,
  62,
  63,
  64,
  65,
  66,
  67,
  68,
  69,
  70,
  71,
  72,
  73,
  74,
  75,
  76,
  77,
  78,
  79,
  80,
  ]
def HH : Hints := ⟨fun f k m => lookM (lookK keepT f) k m, fun _ g => hasN inlT g, fun f d => hasN (lookL objT f) d, fun f d => hasN (lookL arrT f) d, fun f => hasN upsT f, fun f d => hasN (lookL adoT f) d, fun f g => hasN (lookL upcT f) g, fun _ => true, fun f i => hasN (lookL dynT f) i, fun f i => lookL (lookO orderT f) i, fun f d => hasN (lookL stkT f) d, allT, plainT⟩
def goodB (P : Program) (g : FuncId) : Bool := match P.funcs[g]? with
  | some fn => !(fn.name == "runtime.NumGoroutine") && !fn.body.isNone
  | none => false
def plainB (P : Program) (H : Hints) (g : FuncId) : Bool := match P.funcs[g]? with
  | some fn => match fn.body with
    | some c => drawsC H g c
    | none => true
  | none => true
theorem goodH_of {P : Program} {H : Hints} (h : H.good.all (goodB P) = true) : GoodH P H := by
  intro g hg
  rw [List.all_eq_true] at h
  have := h g (by simpa using hg)
  unfold goodB at this
  cases hf : P.funcs[g]? with
  | none => rw [hf] at this; cases this
  | some fn =>
    rw [hf] at this
    simp only [Bool.and_eq_true, Bool.not_eq_true'] at this
    exact ⟨fn, hf, this.1, this.2⟩
theorem plain_of {P : Program} {H : Hints} (h : H.plain.all (plainB P H) = true) : ∀ g fn c, H.plain.contains g = true → P.funcs[g]? = some fn → fn.body = some c → drawsC H g c = true := by
  intro g fn c hg hf hb
  rw [List.all_eq_true] at h
  have := h g (by simpa using hg)
  unfold plainB at this
  rw [hf] at this
  simp only [hb] at this
  exact this
theorem goodHH : GoodH Try.prog HH := goodH_of (by kernel_rfl)
theorem plainHH : ∀ g fn c, HH.plain.contains g = true → Try.prog.funcs[g]? = some fn → fn.body = some c → drawsC HH g c = true := plain_of (by kernel_rfl)
theorem mixed : Try.prog.follows .mixedOrders = true := by kernel_rfl
noncomputable abbrev cN (X : Ext) (n : Nat) : CallT := callS Try.prog HH X n
theorem cN_sound {X : Ext} (hX : SoundExt Try.prog X) (n : Nat) : SoundCall Try.prog HH (cN X n) := callS_sound mixed goodHH hX plainHH n
end Go.Proofs.Ytonhmholnneaaaa
end
section
namespace Go.Proofs.Ytonhmholnneaaaa
set_option linter.unusedVariables false
theorem callN_run {P : Program} {H : Hints} {X : Ext} {n : Nat} {f : FuncId} {args : List AV} {hp : Hp} (h : X f = none) : callN P H X (n + 1) f args hp = runFn P H (callS P H X n) n false f args hp := by
  simp only [callN, callS, h]
theorem runFn_eq {P : Program} {H : Hints} {call : CallT} {n : Nat} {f : FuncId} {args : List AV} {hp : Hp} {fn : Func} {c : Code} {r : Option (AV × Hp)} (hf : P.funcs[f]? = some fn) (hb : fn.body = some c) (hg : H.plain.contains f = true) (ha : args.length ≤ fn.ntmps)
    (h : runC P H call f n c (args ++ List.replicate (fn.ntmps - args.length) .junk) hp (fun e tm hp' => match e with
        | .exit _ => none
        | _ => resV P fn tm hp' fun v => some (wane hp.length hp' v, (waneHp hp.length hp').map (normOb P))) = r) : runFn P H call n false f args hp = r := by
  have : (H.plain.contains f && decide (args.length ≤ fn.ntmps)) = true := by rw [hg, decide_eq_true ha]; rfl
  simp only [runFn, hf, hb, this]
  exact h
theorem callN_eq {P : Program} {H : Hints} {X : Ext} {n : Nat} {f : FuncId} {args : List AV} {hp : Hp} {fn : Func} {c : Code} {r : Option (AV × Hp)} (hf : P.funcs[f]? = some fn) (hx : X f = none) (hb : fn.body = some c) (hg : H.plain.contains f = true) (ha : args.length ≤ fn.ntmps)
    (h : runC P H (callS P H X n) f n c (args ++ List.replicate (fn.ntmps - args.length) .junk) hp (fun e tm hp' => match e with
        | .exit _ => none
        | _ => resV P fn tm hp' fun v => some (wane hp.length hp' v, (waneHp hp.length hp').map (normOb P))) = r) : callN P H X (n + 1) f args hp = r := by
  rw [callN_run hx]; exact runFn_eq hf hb hg ha h
theorem callN_eq' {P : Program} {H : Hints} {X : Ext} {n : Nat} {f : FuncId} {args : List AV} {hp : Hp} {fn : Func} {c : Code} {r : Option (AV × Hp)} (hf : P.funcs[f]? = some fn) (hx : X f = none) (hb : fn.body = some c) (hg : H.plain.contains f = true) (ha : args.length ≤ fn.ntmps)
    (h : ∀ call : CallT, (∀ g l h, call false g l h = callN P H X n g l h) → runC P H call f n c (args ++ List.replicate (fn.ntmps - args.length) .junk) hp (fun e tm hp' => match e with
        | .exit _ => none
        | _ => resV P fn tm hp' fun v => some (wane hp.length hp' v, (waneHp hp.length hp').map (normOb P))) = r) : callN P H X (n + 1) f args hp = r :=
  callN_eq hf hx hb hg ha (h _ fun _ _ _ => rfl)
theorem callN_eqA {P : Program} {H : Hints} {X : Ext} {n : Nat} {f : FuncId} {args : List AV} {hp : Hp} {fn : Func} {c : Code} {r : Option (AV × Hp)} (hf : P.funcs[f]? = some fn) (hx : X f = none) (hb : fn.body = some c) (hg : H.plain.contains f = true) (ha : args.length ≤ fn.ntmps)
    (h : ∀ call : CallT, (∀ g l h, call false g l h = callN P H X n g l h) → (∀ g l h, call true g l h = callS P H X n true g l h) → runC P H call f n c (args ++ List.replicate (fn.ntmps - args.length) .junk) hp (fun e tm hp' => match e with
        | .exit _ => none
        | _ => resV P fn tm hp' fun v => some (wane hp.length hp' v, (waneHp hp.length hp').map (normOb P))) = r) : callN P H X (n + 1) f args hp = r :=
  callN_eq hf hx hb hg ha (h _ (fun _ _ _ => rfl) fun _ _ _ => rfl)
theorem callN_openA {P : Program} {H : Hints} {X : Ext} {n n1 : Nat} {call : CallT} {f : FuncId} {args : List AV} {hp : Hp} {fn : Func} {c : Code} (hc : ∀ g l h, call true g l h = callS P H X n true g l h) (hn : n = n1 + 1) (hf : P.funcs[f]? = some fn) (hx : X f = none) (hb : fn.body = some c) (hg : H.plain.contains f = true) (ha : args.length ≤ fn.ntmps) :
    ∃ call1 : CallT, (∀ g l h, call1 false g l h = callN P H X n1 g l h) ∧ call true f args hp = runC P H call1 f n1 c (args ++ List.replicate (fn.ntmps - args.length) .junk) hp (fun e tm hp' => match e with
        | .exit _ => none
        | _ => resV P fn tm hp' fun v => some (v, hp')) := by
  refine ⟨callS P H X n1, fun _ _ _ => rfl, ?_⟩
  rw [hc, hn]
  have : (H.plain.contains f && decide (args.length ≤ fn.ntmps)) = true := by rw [hg, decide_eq_true ha]; rfl
  simp only [callS, hx, runFn, hf, hb, this]
  rfl
def inlF {α : Type} : Nat → (Nat → Option α) → Option α
  | 0, _ => none
  | n + 1, f => f n
theorem inl_some {α : Type} {n : Nat} {f : Nat → Option α} {r : α} (h : inlF n f = some r) : ∃ k, n = k + 1 ∧ f k = some r := by
  cases n with
  | zero => cases h
  | succ n => exact ⟨n, rfl, h⟩
theorem wrap64 {n : Int} (h : -9223372036854775808 ≤ n ∧ n ≤ 9223372036854775807) : IntKind.i64.wrap n = n := by
  simp only [IntKind.wrap, IntKind.bits, IntKind.signed, Bool.true_and]
  split <;> simp at * <;> omega
theorem wrap_succ (k : Nat) (h : k < 9223372036854775807) : IntKind.i64.wrap ((k : Int) + 1) = ((k + 1 : Nat) : Int) := by rw [wrap64 (by omega)]; omega
def slotAt (i : Nat) : List (Nat × AV) → AV
  | [] => .junk
  | p :: l => match Nat.beq p.1 i with
    | true => p.2
    | false => slotAt i l
def stFrom (l : List (Nat × AV)) (i : Nat) : Nat → Tm
  | 0 => []
  | n + 1 => slotAt i l :: stFrom l (i + 1) n
def stOf (n : Nat) (l : List (Nat × AV)) : Tm := stFrom l 0 n
end Go.Proofs.Ytonhmholnneaaaa
end
