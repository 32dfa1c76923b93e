/- Parts of the proofs: what they lean on. Conditions: none. -/
import Derived.Test.YtmaklniljnbokaaProg
import Derived.Test.YtmaklniljnbokaaRpbS6
section
namespace Go.Proofs.Ytmaklniljnbokaa
set_option linter.unusedVariables false
set_option maxRecDepth 100000
def lookL : List (Nat × List Nat) → Nat → List Nat
  | [], _ => []
  | p :: l, f => match Nat.beq p.1 f with
    | true => p.2
    | false => lookL l f
def lookK : List (Nat × List (Nat × List Nat × List Nat × List Nat)) → Nat → List (Nat × List Nat × List Nat × List Nat)
  | [], _ => []
  | p :: l, f => match Nat.beq p.1 f with
    | true => p.2
    | false => lookK l f
def lookM : List (Nat × List Nat × List Nat × List Nat) → Nat → Nat → List Nat
  | [], _, _ => []
  | p :: l, k, m => match Nat.beq p.1 k with
    | true => match m with
      | 0 => p.2.1
      | 1 => p.2.2.1
      | _ => p.2.2.2
    | false => lookM l k m
def keepT : List (Nat × List (Nat × List Nat × List Nat × List Nat)) := [
  (5, [(5, [2, 3, 4, 7], [], [6])]),
  (6, [(5, [3, 5], [], [4])]),
  (8, [(5, [1, 3, 5, 32, 33, 34], [1, 3, 5], [6])]),
  (9, [(5, [1, 3, 5, 7], [], [6])]),
  (10, [(11, [7, 55, 56, 57], [7], [6])]),
  (11, [(6, [1, 3, 5, 7, 8], [7], [6])]),
  (12, [(5, [1, 3], [], [2]), (10, [1, 3, 4], [1, 3], [2])]),
  (13, [(5, [2, 6, 9, 10, 11, 18, 19], [2, 6, 9, 10, 11], [6, 7, 8])]),
  (14, [(5, [1, 2, 3, 6, 9, 10, 11], [6, 9, 10], [6, 7, 8]), (7, [1, 2, 3, 6, 9, 10, 11, 12], [1, 2, 3, 6, 9, 10, 11, 12], [6, 7, 8])]),
  (18, [(3, [1, 3, 11, 12, 13], [], [6]), (6, [1, 3, 11, 12, 13, 17, 18, 19], [1, 3, 11, 12, 13], [6])]),
  (19, [(3, [1, 2, 3, 7], [], [6])]),
  (20, [(2, [0, 10, 11, 12], [0], [])]),
  (28, [(5, [3, 7, 10, 12], [7, 10], [10, 11])]),
  (29, [(5, [0, 1, 5], [], [4])]),
  (30, [(5, [0, 1, 5], [], [4])]),
  (34, [(4, [1, 3, 7, 11, 12, 13], [7], [6])]),
  (35, [(4, [1, 2, 3, 7, 8], [7], [6])]),
  (36, [(5, [0, 4, 5, 6], [4], [2, 3])]),
  (37, [(3, [0, 6, 7, 8], [], [2, 3])]),
  (38, [(6, [0, 1, 2, 8, 24], [0, 1, 2, 8], [6, 7])]),
  (39, [(4, [0, 6, 10, 11, 12], [6], [4, 5])]),
  (41, [(6, [0, 1, 5, 6], [0, 1, 5], [4])]),
  (46, [(3, [2, 11, 12, 13], [], [6])]),
  (47, [(7, [1, 2, 3, 8, 9, 10], [8], [6, 7])]),
  (48, [(6, [1, 2, 5, 22, 23], [1, 2, 5], [4]), (11, [1, 2, 5, 34, 35], [5], [4]), (18, [1, 2, 5, 7, 34, 35, 51, 52], [1, 2, 5, 34, 35], [4])]),
  (49, [(5, [1, 3], [], [2]), (11, [1, 3, 4, 5], [1, 3], [2])]),
  (50, [(3, [1, 2, 3, 7], [], [6])]),
  (51, [(7, [1, 43, 44, 45], [1], [2]), (13, [1, 59, 60, 61], [], [2])]),
  (52, [(3, [0, 1, 5], [], [4])]),
  (55, [(6, [0, 1, 2, 29, 30, 31], [], [6])]),
  (58, [(3, [0, 1, 5], [], [4])]),
  (60, [(3, [0, 1, 2, 3, 9], [0], [8])]),
  (63, [(5, [0, 4, 5, 6], [4, 5], [2, 3])]),
  (66, [(3, [0, 1, 2, 3, 14, 15, 16], [0], [8])]),
  (68, [(4, [4, 5, 11, 12, 13], [4, 5], [2, 3])]),
  (1000000, [])]
def inlT : List Nat := [
  27,
  39,
  40,
  65,
  28,
  20,
  1000000]
def upcT : List (Nat × List Nat) := [
  (1000000, [])]
def dynT : List (Nat × List Nat) := [
  (10, [4]),
  (28, [14, 11, 8]),
  (14, [9]),
  (1000000, [])]
def stkT : List (Nat × List Nat) := [
  (10, [75]),
  (1000000, [])]
def upzT : List (Nat × List Nat) := [
  (13, [1]),
  (14, [1]),
  (1000000, [])]
def rawT : List Nat := [
  28,
  1000000]
def cyT : List (Nat × List (Nat × List Nat)) := [
  (1000000, [])]
def objT : List (Nat × List Nat) := [
  (36, [4]),
  (39, [6]),
  (47, [8]),
  (48, [5]),
  (10, [63]),
  (1000000, [])]
def arrT : List (Nat × List Nat) := [
  (10, [63]),
  (1000000, [])]
def upsT : List Nat := [
  13,
  14,
  1000000]
def adoT : List (Nat × List Nat) := [
  (1000000, [])]
def orderT : List (Nat × List (Nat × List Nat)) := [
  (1000000, [])]
def lookO : List (Nat × List (Nat × List Nat)) → Nat → List (Nat × List Nat)
  | [], _ => []
  | p :: l, f => match Nat.beq p.1 f with
    | true => p.2
    | false => lookO l f
def joinT : List (Nat × List (Nat × List Nat)) := [
  (1000000, [])]
def allT : List Nat := [
  2,
  3,
  4,
  5,
  6,
  7,
  8,
  9,
  10,
  11,
  12,
  13,
  14,
  15,
  16,
  17,
  18,
  19,
  20,
  21,
  22,
  23,
  24,
  25,
  26,
  27,
  28,
  29,
  30,
  31,
  32,
  33,
  34,
  35,
  36,
  37,
  38,
  39,
  40,
  41,
  42,
  43,
  44,
  45,
  46,
  47,
  48,
  49,
  50,
  51,
  52,
  53,
  54,
  55,
  56,
  57,
  58,
  59,
  60,
  61,
  62,
  63,
  64,
  65,
  66,
  67,
  68,
  69,
  70,
  71,
  72,
  73,
  74,
  75,
  76,
  77,
  78,
  79,
  80,
  98,
  99,
  102,
  ]
def plainT : List Nat := [
  2,
  3,
  4,
  5,
  6,
  7,
  8,
  9,
  10,
  11,
  12,
  13,
  14,
  15,
  16,
  17,
  18,
  19,
  20,
  21,
  22,
  23,
  24,
  25,
  26,
  27,
  28,
  29,
  30,
  31,
  32,
  33,
  34,
  35,
  36,
  37,
  38,
  39,
  40,
  41,
  42,
  43,
  44,
  45,
  46,
  47,
  48,
  49,
  50,
  51,
  52,
  53,
  54,
  55,
  56,
  57,
  58,
  59,
  60,
  61,
  62,
  63,
  64,
  65,
  66,
  67,
  68,
  69,
  70,
  71,
  72,
  73,
  74,
  75,
  76,
  77,
  78,
  79,
  80,
  98,
  99,
  102,
  ]
def HH : Hints := ⟨fun f k m => lookM (lookK keepT f) k m, fun _ g => hasN inlT g, fun f d => hasN (lookL objT f) d, fun f d => hasN (lookL arrT f) d, fun f => hasN upsT f, fun f d => hasN (lookL adoT f) d, fun f g => hasN (lookL upcT f) g, fun _ => true, fun f i => hasN (lookL dynT f) i, fun f i => lookL (lookO orderT f) i, fun f i => lookL (lookO joinT f) i, fun f d => hasN (lookL stkT f) d, fun f i => lookL (lookO cyT f) i, fun f k => hasN (lookL upzT f) k, fun g => hasN rawT g, allT, plainT⟩

def goodB (P : Program) (g : FuncId) : Bool := match P.funcs[g]? with
  | some fn => !(fn.name == "runtime.NumGoroutine") && !fn.body.isNone
  | none => false
def plainB (P : Program) (H : Hints) (g : FuncId) : Bool := match P.funcs[g]? with
  | some fn => match fn.body with
    | some c => drawsC H g c
    | none => true
  | none => true
theorem goodH_of {P : Program} {H : Hints} (h : H.good.all (goodB P) = true) : GoodH P H := by
  intro g hg
  rw [List.all_eq_true] at h
  have := h g (by simpa using hg)
  unfold goodB at this
  cases hf : P.funcs[g]? with
  | none => rw [hf] at this; cases this
  | some fn =>
    rw [hf] at this
    simp only [Bool.and_eq_true, Bool.not_eq_true'] at this
    exact ⟨fn, hf, this.1, this.2⟩
theorem plain_of {P : Program} {H : Hints} (h : H.plain.all (plainB P H) = true) : ∀ g fn c, H.plain.contains g = true → P.funcs[g]? = some fn → fn.body = some c → drawsC H g c = true := by
  intro g fn c hg hf hb
  rw [List.all_eq_true] at h
  have := h g (by simpa using hg)
  unfold plainB at this
  rw [hf] at this
  simp only [hb] at this
  exact this
theorem goodHH : GoodH Try.prog HH := goodH_of (by kernel_rfl)
theorem plainHH : ∀ g fn c, HH.plain.contains g = true → Try.prog.funcs[g]? = some fn → fn.body = some c → drawsC HH g c = true := plain_of (by kernel_rfl)
theorem mixed : Try.prog.follows .mixedOrders = true := by kernel_rfl

/-- The interpreter of this program. -/
noncomputable abbrev cN (X : Ext) (n : Nat) : CallT := callS Try.prog HH X n
theorem cN_sound {X : Ext} (hX : SoundExt Try.prog X) (n : Nat) : SoundCall Try.prog HH (cN X n) := callS_sound mixed goodHH hX plainHH n
end Go.Proofs.Ytmaklniljnbokaa
end

section
namespace Go.Proofs.Ytmaklniljnbokaa
set_option linter.unusedVariables false

theorem callN_run {P : Program} {H : Hints} {X : Ext} {n : Nat} {f : FuncId} {args : List AV} {hp : Hp} (h : X f = none) : callN P H X (n + 1) f args hp = runFn P H (callS P H X n) n false f args hp := by
  simp only [callN, callS, h]
theorem runFn_eq {P : Program} {H : Hints} {call : CallT} {n : Nat} {f : FuncId} {args : List AV} {hp : Hp} {fn : Func} {c : Code} {r : Option (AV × Hp)} (hf : P.funcs[f]? = some fn) (hb : fn.body = some c) (hg : H.plain.contains f = true) (ha : args.length ≤ fn.ntmps)
    (h : runC P H call f n hp.length c (args ++ List.replicate (fn.ntmps - args.length) .junk) hp (fun e tm hp' => match e with
        | .exit _ => none
        | _ => resV P fn tm hp' fun v => some (wane hp.length hp' v, (waneHp hp.length hp').map (normOb P))) = r) : runFn P H call n false f args hp = r := by
  have : (H.plain.contains f && decide (args.length ≤ fn.ntmps)) = true := by rw [hg, decide_eq_true ha]; rfl
  simp only [runFn, hf, hb, this]
  exact h
/-- A call is its body's run. -/
theorem callN_eq {P : Program} {H : Hints} {X : Ext} {n : Nat} {f : FuncId} {args : List AV} {hp : Hp} {fn : Func} {c : Code} {r : Option (AV × Hp)} (hf : P.funcs[f]? = some fn) (hx : X f = none) (hb : fn.body = some c) (hg : H.plain.contains f = true) (ha : args.length ≤ fn.ntmps)
    (h : runC P H (callS P H X n) f n hp.length c (args ++ List.replicate (fn.ntmps - args.length) .junk) hp (fun e tm hp' => match e with
        | .exit _ => none
        | _ => resV P fn tm hp' fun v => some (wane hp.length hp' v, (waneHp hp.length hp').map (normOb P))) = r) : callN P H X (n + 1) f args hp = r := by
  rw [callN_run hx]; exact runFn_eq hf hb hg ha h
/-- The same, the callees under a name of their own. -/
theorem callN_eq' {P : Program} {H : Hints} {X : Ext} {n : Nat} {f : FuncId} {args : List AV} {hp : Hp} {fn : Func} {c : Code} {r : Option (AV × Hp)} (hf : P.funcs[f]? = some fn) (hx : X f = none) (hb : fn.body = some c) (hg : H.plain.contains f = true) (ha : args.length ≤ fn.ntmps)
    (h : ∀ call : CallT, (∀ g l h, call false g l h = callN P H X n g l h) → runC P H call f n hp.length c (args ++ List.replicate (fn.ntmps - args.length) .junk) hp (fun e tm hp' => match e with
        | .exit _ => none
        | _ => resV P fn tm hp' fun v => some (wane hp.length hp' v, (waneHp hp.length hp').map (normOb P))) = r) : callN P H X (n + 1) f args hp = r :=
  callN_eq hf hx hb hg ha (h _ fun _ _ _ => rfl)
theorem some_pair {α β : Type} {a a' : α} {b b' : β} (h : a = a') (h2 : b = b') : some (a, b) = some (a', b') := by rw [h, h2]
theorem rounds_ind {ρ σ : Type} {body : Tm → Hp → (Ex → Tm → Hp → Option ρ) → Option ρ} {keep : Nat → List Nat} {h0 : Nat} {K : Ex → Tm → Hp → Option ρ} {r : Option ρ} (inv : σ → Prop) (tmOf : σ → Tm) (hpOf : σ → Hp) (μ : σ → Nat)
    (hround : ∀ s n, inv s → (∀ s' tm hp, inv s' → μ s' < μ s → tm = tmOf s' → hp = hpOf s' → rounds body keep h0 n tm hp K = r) →
      forceL force (fun tm => forceHp (fun hp => body tm hp (fun e tm hp => forceL force (fun tm => forceHp (fun hp => match e with
        | .normal => rounds body keep h0 n tm hp K
        | .exit id => K (.exit id) tm hp
        | .ret => K .ret tm hp) (waneHp h0 hp)) (keepTm (keep (exMode e)) h0 hp 0 tm))) (hpOf s)) (tmOf s) = r) :
    ∀ (n : Nat) (s : σ) (tm : Tm) (hp : Hp), inv s → μ s < n → tm = tmOf s → hp = hpOf s → rounds body keep h0 n tm hp K = r := by
  intro n
  induction n with
  | zero => intro s tm hp _ h; omega
  | succ n ih =>
    intro s tm hp hi hm h1 h2
    subst h1; subst h2
    unfold rounds
    have := hround s n hi fun s' tm' hp' hi' hm' h1' h2' => ih s' tm' hp' hi' (by omega) h1' h2'
    rw [forceL_eq force_eq, forceHp_eq] at this
    exact this
theorem wrap64 {n : Int} (h : -9223372036854775808 ≤ n ∧ n ≤ 9223372036854775807) : IntKind.i64.wrap n = n := by
  simp only [IntKind.wrap, IntKind.bits, IntKind.signed, Bool.true_and]
  split <;> simp at * <;> omega
theorem wrap_succ (k : Nat) (h : k < 9223372036854775807) : IntKind.i64.wrap ((k : Int) + 1) = ((k + 1 : Nat) : Int) := by rw [wrap64 (by omega)]; omega
theorem nth?_map {α : Type} (f : α → List AV) (l : List α) (i : Nat) (h : i < l.length) : nth? (l.map f) i = some (f l[i]) := by
  rw [nth?_eq, List.getElem?_map, List.getElem?_eq_getElem h]; rfl
theorem nth?_map' {α : Type} {f : α → List AV} {l : List α} {i : Nat} {x : α} (h : i < l.length) (hx : l[i] = x) : nth? (l.map f) i = some (f x) := by
  rw [nth?_map f l i h, hx]

/-- Slots by their numbers. -/
def slotAt (i : Nat) : List (Nat × AV) → AV
  | [] => .junk
  | p :: l => match Nat.beq p.1 i with
    | true => p.2
    | false => slotAt i l
def stFrom (l : List (Nat × AV)) (i : Nat) : Nat → Tm
  | 0 => []
  | n + 1 => slotAt i l :: stFrom l (i + 1) n
def stOf (n : Nat) (l : List (Nat × AV)) : Tm := stFrom l 0 n
end Go.Proofs.Ytmaklniljnbokaa
end

