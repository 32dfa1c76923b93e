/- Parts of the proofs: what they lean on. Conditions: none. -/
import Derived.Test.YtpnhafdimkmbbaaProg
import Derived.Test.YtpnhafdimkmbbaaLegS6
section
namespace Go.Proofs.Ytpnhafdimkmbbaa
set_option linter.unusedVariables false
set_option maxRecDepth 100000
def lookL : List (Nat × List Nat) → Nat → List Nat
  | [], _ => []
  | p :: l, f => match Nat.beq p.1 f with
    | true => p.2
    | false => lookL l f
def lookK : List (Nat × List (Nat × List Nat × List Nat × List Nat)) → Nat → List (Nat × List Nat × List Nat × List Nat)
  | [], _ => []
  | p :: l, f => match Nat.beq p.1 f with
    | true => p.2
    | false => lookK l f
def lookM : List (Nat × List Nat × List Nat × List Nat) → Nat → Nat → List Nat
  | [], _, _ => []
  | p :: l, k, m => match Nat.beq p.1 k with
    | true => match m with
      | 0 => p.2.1
      | 1 => p.2.2.1
      | _ => p.2.2.2
    | false => lookM l k m
def keepT : List (Nat × List (Nat × List Nat × List Nat × List Nat)) := [
  (5, [(5, [1, 3], [1], [2]), (10, [1, 4], [1], [2]), (16, [1, 4, 5, 6], [1, 4], [2]), (21, [1, 7], [], [2])]),
  (11, [(9, [1, 4, 36, 37, 38], [1, 4], [2, 3]), (14, [4, 49, 50, 51], [4], [2, 3])]),
  (12, [(5, [0, 3], [], [2])]),
  (13, [(5, [0, 3], [], [2])]),
  (9, [(3, [1, 7, 8, 9], [], [4])]),
  (7, [(4, [3, 7, 8, 9], [3], [2])]),
  (17, [(2, [0, 8, 9, 10], [], [])]),
  (18, [(8, [0, 5, 7, 8, 43, 44, 45], [0, 5, 7, 8], [])]),
  (20, [(12, [2, 5, 8, 9], [2, 5, 8, 9], [2, 3, 4]), (20, [2, 5, 8, 9], [2, 5, 8, 9], [2, 3, 4]), (23, [2, 5, 8, 9], [2, 5, 8, 9], [2, 3, 4])]),
  (68, [(5, [0, 3], [], [2])]),
  (21, [(3, [1, 6, 7], [], [4])]),
  (23, [(3, [0, 6], [0], [2])]),
  (28, [(3, [1, 7, 8, 9], [1], [2])]),
  (29, [(5, [0, 5, 6, 7, 12, 13, 14], [], [])]),
  (30, [(2, [0, 2, 8, 9, 10], [], [])]),
  (8, [(4, [1, 3, 4], [3], [2])]),
  (10, [(3, [0, 1, 5], [], [4])]),
  (32, [(6, [0, 5, 6], [5], [2, 3, 4])]),
  (38, [(9, [0, 2, 3], [0, 2, 3], [2])]),
  (39, [(3, [0, 3], [], [2])]),
  (40, [(7, [0, 4, 5, 6, 7, 10], [0, 4, 5, 6, 7], [4])]),
  (79, [(4, [0, 3, 4], [], [2])]),
  (100, [(4, [0, 3, 4], [3], [2])]),
  (101, [(5, [0, 3], [0], [2])]),
  (44, [(6, [19, 20, 21], [], [2])]),
  (46, [(4, [3, 6, 7, 8], [3], [2])]),
  (48, [(5, [0, 20, 21, 22], [0], [2])]),
  (50, [(2, [0, 1], [1], [4]), (7, [0, 1], [0, 1], [4])]),
  (51, [(3, [0, 1, 4, 6], [0, 1, 4, 6], [4, 5]), (10, [0, 1, 4, 6, 7], [0, 1, 4, 6, 7], [4, 5]), (19, [0, 1, 4, 8, 9], [4], [4, 5])]),
  (99, [(4, [0, 3, 4], [0], [2])]),
  (88, [(6, [0, 5, 6], [], [4])]),
  (71, [(5, [0, 1, 5, 6, 7], [5], [4])]),
  (61, [(5, [0, 1, 5], [], [4])]),
  (63, [(5, [3, 4, 9, 10, 11], [4], [2]), (11, [3, 4, 9, 10, 11], [3, 4, 9, 10, 11], [2])]),
  (69, [(3, [0, 1, 2, 10], [1, 10], [6, 7, 8, 9])]),
  (70, [(5, [0, 2, 3, 8, 9], [8, 9], [8])]),
  (75, [(3, [1, 2, 8, 9], [], [4])]),
  (77, [(3, [0, 6, 7, 8], [0], [2])]),
  (80, [(3, [0, 1, 5], [], [4])]),
  (81, [(4, [0, 1, 5, 6, 10, 11], [1, 5, 6], [6, 7, 8, 9])]),
  (85, [(3, [0, 1, 2, 7], [], [6])]),
  (89, [(2, [0, 1, 2, 3], [], [8])]),
  (3, [(9, [1, 2, 7, 8, 9], [1, 2], [6])]),
  (4, [(14, [2, 7, 9, 10], [2, 7, 9], [4])]),
  (1000000, [])]
def inlT : List Nat := [
  29,
  19,
  16,
  30,
  18,
  17,
  40,
  56,
  33,
  39,
  37,
  35,
  36,
  38,
  34,
  21,
  89,
  1000000]
def upcT : List (Nat × List Nat) := [
  (1000000, [])]
def dynT : List (Nat × List Nat) := [
  (17, [4, 5]),
  (18, [10]),
  (20, [28]),
  (29, [13]),
  (30, [9, 5]),
  (31, [3, 2]),
  (38, [10, 7]),
  (1000000, [])]
def stkT : List (Nat × List Nat) := [
  (63, [3, 27, 47]),
  (1000000, [])]
def objT : List (Nat × List Nat) := [
  (8, [3]),
  (7, [3]),
  (32, [5]),
  (38, [46]),
  (69, [10]),
  (46, [3]),
  (100, [3]),
  (70, [61]),
  (84, [54]),
  (4, [29]),
  (1000000, [])]
def arrT : List (Nat × List Nat) := [
  (40, [40]),
  (1000000, [])]
def upsT : List Nat := [
  20,
  1000000]
def adoT : List (Nat × List Nat) := [
  (40, [40]),
  (1000000, [])]
def orderT : List (Nat × List (Nat × List Nat)) := [
  (1000000, [])]
def lookO : List (Nat × List (Nat × List Nat)) → Nat → List (Nat × List Nat)
  | [], _ => []
  | p :: l, f => match Nat.beq p.1 f with
    | true => p.2
    | false => lookO l f
def joinT : List (Nat × List (Nat × List Nat)) := [
  (1000000, [])]
def allT : List Nat := [
  2,
  5,
  6,
  11,
  14,
  12,
  13,
  9,
  7,
  15,
  16,
  17,
  18,
  19,
  20,
  68,
  21,
  22,
  23,
  24,
  25,
  26,
  27,
  28,
  29,
  30,
  31,
  8,
  10,
  32,
  33,
  34,
  35,
  36,
  37,
  38,
  39,
  40,
  64,
  79,
  65,
  100,
  101,
  41,
  42,
  43,
  44,
  45,
  46,
  47,
  48,
  49,
  50,
  51,
  52,
  53,
  54,
  55,
  56,
  57,
  58,
  93,
  99,
  82,
  88,
  102,
  71,
  59,
  60,
  61,
  62,
  63,
  66,
  67,
  69,
  70,
  87,
  72,
  73,
  74,
  75,
  76,
  77,
  78,
  80,
  81,
  83,
  84,
  85,
  86,
  89,
  90,
  91,
  92,
  94,
  95,
  96,
  97,
  98,
  3,
  4,
  ]
def plainT : List Nat := [
  2,
  5,
  6,
  11,
  14,
  12,
  13,
  9,
  7,
  15,
  16,
  17,
  18,
  19,
  20,
  68,
  21,
  22,
  23,
  24,
  25,
  26,
  27,
  28,
  29,
  30,
  31,
  8,
  10,
  32,
  33,
  34,
  35,
  36,
  37,
  38,
  39,
  40,
  64,
  79,
  65,
  100,
  101,
  41,
  42,
  43,
  44,
  45,
  46,
  47,
  48,
  49,
  50,
  51,
  52,
  53,
  54,
  55,
  56,
  57,
  58,
  93,
  99,
  82,
  88,
  102,
  71,
  59,
  60,
  61,
  62,
  63,
  66,
  67,
  69,
  70,
  87,
  72,
  73,
  74,
  75,
  76,
  77,
  78,
  80,
  81,
  83,
  84,
  85,
  86,
  89,
  90,
  91,
  92,
  94,
  95,
  96,
  97,
  98,
  3,
  4,
  ]
def HH : Hints := ⟨fun f k m => lookM (lookK keepT f) k m, fun _ g => hasN inlT g, fun f d => hasN (lookL objT f) d, fun f d => hasN (lookL arrT f) d, fun f => hasN upsT f, fun f d => hasN (lookL adoT f) d, fun f g => hasN (lookL upcT f) g, fun _ => true, fun f i => hasN (lookL dynT f) i, fun f i => lookL (lookO orderT f) i, fun f i => lookL (lookO joinT f) i, fun f d => hasN (lookL stkT f) d, allT, plainT⟩
def goodB (P : Program) (g : FuncId) : Bool := match P.funcs[g]? with
  | some fn => !(fn.name == "runtime.NumGoroutine") && !fn.body.isNone
  | none => false
def plainB (P : Program) (H : Hints) (g : FuncId) : Bool := match P.funcs[g]? with
  | some fn => match fn.body with
    | some c => drawsC H g c
    | none => true
  | none => true
theorem goodH_of {P : Program} {H : Hints} (h : H.good.all (goodB P) = true) : GoodH P H := by
  intro g hg
  rw [List.all_eq_true] at h
  have := h g (by simpa using hg)
  unfold goodB at this
  cases hf : P.funcs[g]? with
  | none => rw [hf] at this; cases this
  | some fn =>
    rw [hf] at this
    simp only [Bool.and_eq_true, Bool.not_eq_true'] at this
    exact ⟨fn, hf, this.1, this.2⟩
theorem plain_of {P : Program} {H : Hints} (h : H.plain.all (plainB P H) = true) : ∀ g fn c, H.plain.contains g = true → P.funcs[g]? = some fn → fn.body = some c → drawsC H g c = true := by
  intro g fn c hg hf hb
  rw [List.all_eq_true] at h
  have := h g (by simpa using hg)
  unfold plainB at this
  rw [hf] at this
  simp only [hb] at this
  exact this
theorem goodHH : GoodH Try.prog HH := goodH_of (by kernel_rfl)
theorem plainHH : ∀ g fn c, HH.plain.contains g = true → Try.prog.funcs[g]? = some fn → fn.body = some c → drawsC HH g c = true := plain_of (by kernel_rfl)
theorem mixed : Try.prog.follows .mixedOrders = true := by kernel_rfl
noncomputable abbrev cN (X : Ext) (n : Nat) : CallT := callS Try.prog HH X n
theorem cN_sound {X : Ext} (hX : SoundExt Try.prog X) (n : Nat) : SoundCall Try.prog HH (cN X n) := callS_sound mixed goodHH hX plainHH n
end Go.Proofs.Ytpnhafdimkmbbaa
end
section
namespace Go.Proofs.Ytpnhafdimkmbbaa
set_option linter.unusedVariables false
theorem callN_run {P : Program} {H : Hints} {X : Ext} {n : Nat} {f : FuncId} {args : List AV} {hp : Hp} (h : X f = none) : callN P H X (n + 1) f args hp = runFn P H (callS P H X n) n false f args hp := by
  simp only [callN, callS, h]
theorem runFn_eq {P : Program} {H : Hints} {call : CallT} {n : Nat} {f : FuncId} {args : List AV} {hp : Hp} {fn : Func} {c : Code} {r : Option (AV × Hp)} (hf : P.funcs[f]? = some fn) (hb : fn.body = some c) (hg : H.plain.contains f = true) (ha : args.length ≤ fn.ntmps)
    (h : runC P H call f n c (args ++ List.replicate (fn.ntmps - args.length) .junk) hp (fun e tm hp' => match e with
        | .exit _ => none
        | _ => resV P fn tm hp' fun v => some (wane hp.length hp' v, (waneHp hp.length hp').map (normOb P))) = r) : runFn P H call n false f args hp = r := by
  have : (H.plain.contains f && decide (args.length ≤ fn.ntmps)) = true := by rw [hg, decide_eq_true ha]; rfl
  simp only [runFn, hf, hb, this]
  exact h
theorem callN_eq {P : Program} {H : Hints} {X : Ext} {n : Nat} {f : FuncId} {args : List AV} {hp : Hp} {fn : Func} {c : Code} {r : Option (AV × Hp)} (hf : P.funcs[f]? = some fn) (hx : X f = none) (hb : fn.body = some c) (hg : H.plain.contains f = true) (ha : args.length ≤ fn.ntmps)
    (h : runC P H (callS P H X n) f n c (args ++ List.replicate (fn.ntmps - args.length) .junk) hp (fun e tm hp' => match e with
        | .exit _ => none
        | _ => resV P fn tm hp' fun v => some (wane hp.length hp' v, (waneHp hp.length hp').map (normOb P))) = r) : callN P H X (n + 1) f args hp = r := by
  rw [callN_run hx]; exact runFn_eq hf hb hg ha h
theorem callN_eq' {P : Program} {H : Hints} {X : Ext} {n : Nat} {f : FuncId} {args : List AV} {hp : Hp} {fn : Func} {c : Code} {r : Option (AV × Hp)} (hf : P.funcs[f]? = some fn) (hx : X f = none) (hb : fn.body = some c) (hg : H.plain.contains f = true) (ha : args.length ≤ fn.ntmps)
    (h : ∀ call : CallT, (∀ g l h, call false g l h = callN P H X n g l h) → runC P H call f n c (args ++ List.replicate (fn.ntmps - args.length) .junk) hp (fun e tm hp' => match e with
        | .exit _ => none
        | _ => resV P fn tm hp' fun v => some (wane hp.length hp' v, (waneHp hp.length hp').map (normOb P))) = r) : callN P H X (n + 1) f args hp = r :=
  callN_eq hf hx hb hg ha (h _ fun _ _ _ => rfl)
theorem wrap64 {n : Int} (h : -9223372036854775808 ≤ n ∧ n ≤ 9223372036854775807) : IntKind.i64.wrap n = n := by
  simp only [IntKind.wrap, IntKind.bits, IntKind.signed, Bool.true_and]
  split <;> simp at * <;> omega
theorem wrap_succ (k : Nat) (h : k < 9223372036854775807) : IntKind.i64.wrap ((k : Int) + 1) = ((k + 1 : Nat) : Int) := by rw [wrap64 (by omega)]; omega
def slotAt (i : Nat) : List (Nat × AV) → AV
  | [] => .junk
  | p :: l => match Nat.beq p.1 i with
    | true => p.2
    | false => slotAt i l
def stFrom (l : List (Nat × AV)) (i : Nat) : Nat → Tm
  | 0 => []
  | n + 1 => slotAt i l :: stFrom l (i + 1) n
def stOf (n : Nat) (l : List (Nat × AV)) : Tm := stFrom l 0 n
theorem kinds_map {α : Type} {p : List Nat} {f : α → List AV} (h : ∀ x, kindE p (f x) = true) (l : List α) : kindsE p (List.map f l) = true := by
  induction l with
  | nil => rfl
  | cons a l ih => simp only [kindsE, List.map_cons, List.all_cons, h, Bool.true_and]; exact ih
theorem adoCall_thaw {P : Program} {call : CallT} {g : FuncId} {size sz : Nat} {els els' : List (List AV)} {rest more : List AV} {fn : Func} {p q : List Nat} (hk : call false g (.sl sz els' :: more) [] = some (.tup (.sl size els :: rest), [])) (hf : P.funcs[g]? = some fn) (hp : elemK P (nth 0 fn.resultTypes.toList 0) = p) (hq : elemK P (nth 0 fn.params.toList 0) = q)
    (h1 : (apartK p q && (noZ p && noZ q)) = true) (h2 : (decide (size = p.length) && decide (sz = q.length)) = true) (h3 : (rest.all flat1 && more.all flat1) = true) (h4 : kindsE p els = true) (h5 : kindsE q els' = true) :
    adoCall P true call g (.sl sz els' :: more) = bif decide (els.length = 0) then some (.tup (.sl size els :: rest), []) else some (.tup (.own 0 0 els.length :: rest), [.arr size els]) := by
  simp only [Bool.and_eq_true] at h2 h3
  simp only [adoCall, thawR, hf, hk, hp, hq, h1, h2.1, h2.2, h3.1, h3.2, h4, h5, Bool.and_self, cond_true]
end Go.Proofs.Ytpnhafdimkmbbaa
end
