/- How the interpreter is used. Parts of the proofs of the laws. Conditions: none. -/
import Derived.Test.YtaocgmkcjemecaaHints
namespace Go.Proofs.Ytaocgmkcjemecaa
set_option linter.unusedVariables false

theorem callN_run {P : Program} {H : Hints} {X : Ext} {n : Nat} {f : FuncId} {args : List AV} {hp : Hp} (h : X f = none) : callN P H X (n + 1) f args hp = runFn P H (callS P H X n) n false f args hp := by
  simp only [callN, callS, h]
theorem runFn_eq {P : Program} {H : Hints} {call : CallT} {n : Nat} {f : FuncId} {args : List AV} {hp : Hp} {fn : Func} {c : Code} {r : Option (AV × Hp)} (hf : P.funcs[f]? = some fn) (hb : fn.body = some c) (hg : H.plain.contains f = true) (ha : args.length ≤ fn.ntmps)
    (h : runC P H call f n c (args ++ List.replicate (fn.ntmps - args.length) .junk) hp (fun e tm hp' => match e with
        | .exit _ => none
        | _ => resV P fn tm hp' fun v => some (wane hp.length hp' v, waneHp hp.length hp')) = r) : runFn P H call n false f args hp = r := by
  have : (H.plain.contains f && decide (args.length ≤ fn.ntmps)) = true := by rw [hg, decide_eq_true ha]; rfl
  simp only [runFn, hf, hb, this]
  exact h
/-- A call is its body's run. -/
theorem callN_eq {P : Program} {H : Hints} {X : Ext} {n : Nat} {f : FuncId} {args : List AV} {hp : Hp} {fn : Func} {c : Code} {r : Option (AV × Hp)} (hf : P.funcs[f]? = some fn) (hx : X f = none) (hb : fn.body = some c) (hg : H.plain.contains f = true) (ha : args.length ≤ fn.ntmps)
    (h : runC P H (callS P H X n) f n c (args ++ List.replicate (fn.ntmps - args.length) .junk) hp (fun e tm hp' => match e with
        | .exit _ => none
        | _ => resV P fn tm hp' fun v => some (wane hp.length hp' v, waneHp hp.length hp')) = r) : callN P H X (n + 1) f args hp = r := by
  rw [callN_run hx]; exact runFn_eq hf hb hg ha h
/-- The same, the callees under a name of their own. -/
theorem callN_eq' {P : Program} {H : Hints} {X : Ext} {n : Nat} {f : FuncId} {args : List AV} {hp : Hp} {fn : Func} {c : Code} {r : Option (AV × Hp)} (hf : P.funcs[f]? = some fn) (hx : X f = none) (hb : fn.body = some c) (hg : H.plain.contains f = true) (ha : args.length ≤ fn.ntmps)
    (h : ∀ call : CallT, (∀ g l h, call false g l h = callN P H X n g l h) → runC P H call f n c (args ++ List.replicate (fn.ntmps - args.length) .junk) hp (fun e tm hp' => match e with
        | .exit _ => none
        | _ => resV P fn tm hp' fun v => some (wane hp.length hp' v, waneHp hp.length hp')) = r) : callN P H X (n + 1) f args hp = r :=
  callN_eq hf hx hb hg ha (h _ fun _ _ _ => rfl)
theorem some_pair {α β : Type} {a a' : α} {b b' : β} (h : a = a') (h2 : b = b') : some (a, b) = some (a', b') := by rw [h, h2]
theorem rounds_ind {ρ σ : Type} {body : Tm → Hp → (Ex → Tm → Hp → Option ρ) → Option ρ} {keep : Nat → List Nat} {h0 : Nat} {K : Ex → Tm → Hp → Option ρ} {r : Option ρ} (inv : σ → Prop) (tmOf : σ → Tm) (hpOf : σ → Hp) (μ : σ → Nat)
    (hround : ∀ s n, inv s → (∀ s' tm hp, inv s' → μ s' < μ s → tm = tmOf s' → hp = hpOf s' → rounds body keep h0 n tm hp K = r) →
      forceL force (fun tm => forceHp (fun hp => body tm hp (fun e tm hp => forceL force (fun tm => forceHp (fun hp => match e with
        | .normal => rounds body keep h0 n tm hp K
        | .exit id => K (.exit id) tm hp
        | .ret => K .ret tm hp) (waneHp h0 hp)) (keepTm (keep (exMode e)) h0 hp 0 tm))) (hpOf s)) (tmOf s) = r) :
    ∀ (n : Nat) (s : σ) (tm : Tm) (hp : Hp), inv s → μ s < n → tm = tmOf s → hp = hpOf s → rounds body keep h0 n tm hp K = r := by
  intro n
  induction n with
  | zero => intro s tm hp _ h; omega
  | succ n ih =>
    intro s tm hp hi hm h1 h2
    subst h1; subst h2
    unfold rounds
    have := hround s n hi fun s' tm' hp' hi' hm' h1' h2' => ih s' tm' hp' hi' (by omega) h1' h2'
    rw [forceL_eq force_eq, forceHp_eq] at this
    exact this
theorem wrap64 {n : Int} (h : -9223372036854775808 ≤ n ∧ n ≤ 9223372036854775807) : IntKind.i64.wrap n = n := by
  simp only [IntKind.wrap, IntKind.bits, IntKind.signed, Bool.true_and]
  split <;> simp at * <;> omega
theorem wrap_succ (k : Nat) (h : k < 9223372036854775807) : IntKind.i64.wrap ((k : Int) + 1) = ((k + 1 : Nat) : Int) := by rw [wrap64 (by omega)]; omega
theorem wrap_pred (k : Nat) (h0 : 0 < k) (h : k < 9223372036854775807) : IntKind.i64.wrap ((k : Int) - 1) = ((k - 1 : Nat) : Int) := by rw [wrap64 (by omega)]; omega
theorem nth?_map {α : Type} (f : α → List AV) (l : List α) (i : Nat) (h : i < l.length) : nth? (l.map f) i = some (f l[i]) := by
  rw [nth?_eq, List.getElem?_map, List.getElem?_eq_getElem h]; rfl
theorem nth?_map' {α : Type} {f : α → List AV} {l : List α} {i : Nat} {x : α} (h : i < l.length) (hx : l[i] = x) : nth? (l.map f) i = some (f x) := by
  rw [nth?_map f l i h, hx]

/-- Slots by their numbers. -/
def slotAt (i : Nat) : List (Nat × AV) → AV
  | [] => .junk
  | p :: l => match Nat.beq p.1 i with
    | true => p.2
    | false => slotAt i l
def stFrom (l : List (Nat × AV)) (i : Nat) : Nat → Tm
  | 0 => []
  | n + 1 => slotAt i l :: stFrom l (i + 1) n
def stOf (n : Nat) (l : List (Nat × AV)) : Tm := stFrom l 0 n
end Go.Proofs.Ytaocgmkcjemecaa
