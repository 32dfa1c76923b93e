/- How the interpreter is used, second part. Parts of the proofs of the laws. Conditions: none. -/
import Derived.Test.YtaocgmkcjemecaaAbsR
namespace Go.Proofs.Ytaocgmkcjemecaa
set_option linter.unusedVariables false

theorem bif_split {α : Type} {c : Bool} {a b r : α} (h1 : c = true → a = r) (h2 : c = false → b = r) : (bif c then a else b) = r := by
  cases c
  · exact h2 rfl
  · exact h1 rfl
/-- A loop: what follows a round stands under a name of its own. -/
theorem rounds_cont {ρ σ : Type} {body : Tm → Hp → (Ex → Tm → Hp → Option ρ) → Option ρ} {keep : Nat → List Nat} {h0 : Nat} {K : Ex → Tm → Hp → Option ρ} {r : Option ρ} (inv : σ → Prop) (tmOf : σ → Tm) (hpOf : σ → Hp) (μ : σ → Nat)
    (hround : ∀ s (cont : Tm → Hp → Option ρ), inv s → (∀ s', inv s' → μ s' < μ s → cont (tmOf s') (hpOf s') = r) →
      forceL force (fun tm => forceHp (fun hp => body tm hp (fun e tm hp => forceL force (fun tm => forceHp (fun hp => match e with
        | .normal => cont tm hp
        | .exit id => K (.exit id) tm hp
        | .ret => K .ret tm hp) (waneHp h0 hp)) (keepTm (keep (exMode e)) h0 hp 0 tm))) (hpOf s)) (tmOf s) = r) :
    ∀ (n : Nat) (s : σ) (tm : Tm) (hp : Hp), inv s → μ s < n → tm = tmOf s → hp = hpOf s → rounds body keep h0 n tm hp K = r :=
  rounds_ind inv tmOf hpOf μ fun s n hi ih => hround s (fun tm hp => rounds body keep h0 n tm hp K) hi fun s' hi' hm' => ih s' _ _ hi' hm' rfl rfl
theorem cont_eq {ρ : Type} {cont : Tm → Hp → Option ρ} {tm tm' : Tm} {hp hp' : Hp} {r : Option ρ} (h : cont tm' hp' = r) (h1 : tm = tm') (h2 : hp = hp') : cont tm hp = r := by rw [h1, h2]; exact h
theorem drop_cons {α : Type} {l : List α} {k : Nat} (h : k < l.length) : ∃ x, l[k]? = some x ∧ l[k] = x ∧ l.drop k = x :: l.drop (k + 1) := ⟨l[k], List.getElem?_eq_getElem h, rfl, List.drop_eq_getElem_cons h⟩
theorem drop_end {α : Type} {l : List α} {k : Nat} (h : k = l.length) : l.drop k = [] := by rw [h, List.drop_length]
theorem wrap_nat (k : Nat) (h : k < 9223372036854775807) : IntKind.i64.wrap (k : Int) = (k : Int) := wrap64 (by omega)
end Go.Proofs.Ytaocgmkcjemecaa
