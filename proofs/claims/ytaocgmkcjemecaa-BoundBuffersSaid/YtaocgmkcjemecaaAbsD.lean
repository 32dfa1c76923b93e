/- The interpreter is sound: more plain operations. Parts of the proofs of the laws. Conditions: none. -/
import Derived.Test.YtaocgmkcjemecaaAbsC
namespace Go.Proofs.Ytaocgmkcjemecaa
open Go.RowKit
set_option linter.unusedVariables false
set_option linter.unusedSimpArgs false

section
variable {S : Nat → Nat → Prop} {w : World} {hp : Hp} {φ : List Pl} {P : Program} {e : Operand → Value} {o : Oper} {tm : Tm} {ρ : Type} {r : ρ} {K : AV → Option ρ}

theorem bs_toList (s : List UInt8) : (bs s).toList = s := by rw [ByteArray.toList_eq]

theorem flatFrom_cons {n : Nat} {f : Field} {fs : List Field} (h : flatFrom n (f :: fs) = true) : f.name ≠ "_" ∧ f.offset = n ∧ flatFrom (n + 1) fs = true := by
  simp only [flatFrom, Bool.and_eq_true, decide_eq_true_eq] at h
  exact ⟨h.1.1, h.1.2, h.2⟩

theorem run_eqs {d : Nat} {X Y : List Value} : ∀ (fs : List Field) (n : Nat) (xs ys : List AV) (us vs : List Value) (C : Bool → Option ρ), X = X.take n ++ us → Y = Y.take n ++ vs → n ≤ X.length → n ≤ Y.length → flatFrom n fs = true → Reps S w hp φ xs us → Reps S w hp φ ys vs → eqs P C fs xs ys = some r →
    ∃ c, C c = some r ∧ (Op.eqFields (d + 1) X.toArray Y.toArray fs).run P w = .ok c w := by
  intro fs
  induction fs with
  | nil =>
    intro n xs ys us vs C _ _ _ _ _ hx hy h
    cases xs <;> cases ys <;> simp only [eqs] at h <;> first | (cases h; done) | skip
    exact ⟨true, h, by simp [Op.eqFields]⟩
  | cons f fs ih =>
    intro n xs ys us vs C hX hY hn1 hn2 hf hx hy h
    obtain ⟨h1, h2, h4⟩ := flatFrom_cons hf
    cases xs with
    | nil => simp [eqs] at h
    | cons x xs =>
    cases ys with
    | nil => simp [eqs] at h
    | cons y ys =>
    cases hx with
    | cons _ _ _ u _ us hx hxs =>
    cases hy with
    | cons _ _ _ v _ vs hy hys =>
    have gx : X[n]? = some u := by
      conv => lhs; rw [hX]
      rw [List.getElem?_append_right (by rw [List.length_take]; omega), List.length_take, Nat.min_eq_left hn1, Nat.sub_self]; rfl
    have gy : Y[n]? = some v := by
      conv => lhs; rw [hY]
      rw [List.getElem?_append_right (by rw [List.length_take]; omega), List.length_take, Nat.min_eq_left hn2, Nat.sub_self]; rfl
    have nx : X = X.take (n + 1) ++ us := by
      conv => lhs; rw [hX]
      rw [List.take_add_one, gx]; simp
    have ny : Y = Y.take (n + 1) ++ vs := by
      conv => lhs; rw [hY]
      rw [List.take_add_one, gy]; simp
    have lx : n + 1 ≤ X.length := (List.getElem?_eq_some_iff.1 gx).1
    have ly : n + 1 ≤ Y.length := (List.getElem?_eq_some_iff.1 gy).1
    have step : ∀ (b : Bool), aggOf P f.type = some false → (Op.equalIn (d + 1) f.type u v).run P w = .ok b w → eqs P (fun c => C (b && c)) fs xs ys = some r → ∃ c, C c = some r ∧ (Op.eqFields (d + 1) X.toArray Y.toArray (f :: fs)).run P w = .ok c w := by
      intro b hagg hb he
      have hag := run_isAgg (w := w) hagg
      have px : (part f.type X.toArray f.offset).run P w = .ok u w := by
        rw [h2]; simp [part, hag, gx]
      have py : (part f.type Y.toArray f.offset).run P w = .ok v w := by
        rw [h2]; simp [part, hag, gy]
      cases b with
      | true =>
        simp only [Bool.true_and] at he
        obtain ⟨c, hc1, hc2⟩ := ih (n + 1) xs ys us vs C nx ny lx ly h4 hxs hys he
        exact ⟨c, hc1, by simp [Op.eqFields, h1, px, py, hb, hc2]⟩
      | false =>
        simp only [Bool.false_and] at he
        obtain ⟨c, hc1, hc2⟩ := ih (n + 1) xs ys us vs (fun _ => C false) nx ny lx ly h4 hxs hys he
        exact ⟨false, hc1, by simp [Op.eqFields, h1, px, py, hb]⟩
    simp only [eqs] at h
    cases hu : P.underlying f.type with
    | none => rw [hu] at h; cases h
    | some dd =>
    rw [hu] at h
    have hagg : (dd = .bool ∨ (∃ k, dd = .int k) ∨ dd = .string) → aggOf P f.type = some false := by
      rintro (rfl | ⟨k, rfl⟩ | rfl) <;> simp [aggOf, hu]
    cases dd <;> simp only at h <;> first | (cases h; done) | skip
    case bool =>
      cases x <;> cases y <;> simp only at h <;> first | (cases h; done) | skip
      rename_i a b
      have e1 := hx.bool_inv; have e2 := hy.bool_inv; subst e1; subst e2
      exact step _ (hagg (.inl rfl)) (run_equalIn_bool' w d _ a b hu) h
    case int k2 =>
      cases x <;> cases y <;> simp only at h <;> first | (cases h; done) | skip
      rename_i k a k' b
      have e1 := hx.int_inv.1; have e2 := hy.int_inv.1; subst e1; subst e2
      split at h
      · rename_i hk
        have hk := of_decide_eq_true hk
        subst hk
        exact step _ (hagg (.inr (.inl ⟨_, rfl⟩))) (run_equalIn_int w d _ k k2 a b hu) h
      · cases h
    case string =>
      cases x <;> cases y <;> simp only at h <;> first | (cases h; done) | skip
      rename_i a b
      have e1 := hx.str_inv.1; have e2 := hy.str_inv.1; subst e1; subst e2
      exact step _ (hagg (.inr (.inr rfl))) (by rw [run_equalIn_string w d _ (bs a) (bs b) hu, bs_toList, bs_toList]) h

theorem gives_binop (ht : ∀ x, Rep S w hp φ (ev tm x) (e x)) {op : BinOp} {t t' : TypeId} {x y : Operand} (ho : o.op = .binOp op t x y t') (h : binop P t op K (ev tm x) (ev tm y) = some r) : ∃ v, K v = some r ∧ Gives P S w hp φ e o v := by
  have hx := ht x
  have hy := ht y
  generalize ev tm x = av at *
  generalize ev tm y = bv at *
  generalize hex : e x = ex at hx
  generalize hey : e y = ey at hy
  cases av <;> cases bv <;> simp only [binop] at h <;> first | (cases h; done) | skip
  case bool.bool a b =>
    have e1 := hx.bool_inv; have e2 := hy.bool_inv; subst e1; subst e2
    split at h
    · rename_i hu
      have hq : (Op.equal t (.bool a) (.bool b)).run P w = .ok (a == b) w := run_equalIn_bool' w 9999 t a b hu
      cases op <;> simp only at h <;> first | (cases h; done) | skip
      case eql => exact ⟨_, h, _, by simp only [execOp, ho, hex, hey, eqGuard, binOp, Sem.run_bind, Sem.run_pure, Result.andThen_ok, hq, Bool.not_true, Bool.false_eq_true, if_false], .bool _ _ _⟩
      case neq => exact ⟨_, h, _, by simp only [execOp, ho, hex, hey, eqGuard, binOp, Sem.run_bind, Sem.run_pure, Result.andThen_ok, hq, Bool.not_true, Bool.false_eq_true, if_false], .bool _ _ _⟩
    · cases h
  case int.int k m k' n =>
    have e1 := hx.int_inv; have e2 := hy.int_inv.1; obtain ⟨e1, hm⟩ := e1; subst e1; subst e2
    split at h
    · rename_i hk
      have hk := of_decide_eq_true hk
      subst hk
      exact gives_binInt op ho hex hey hm h
    · cases h
  case str.str s s' =>
    obtain ⟨e1, hs⟩ := hx.str_inv; obtain ⟨e2, hs'⟩ := hy.str_inv; subst e1; subst e2
    cases op <;> simp only at h <;> first | (cases h; done) | skip
    case add =>
      by_cases hl : s.length + s'.length ≤ 140737488355328
      · rw [decide_eq_true hl] at h
        refine ⟨_, h, .string (bs (s ++ s')), ?_, .str _ _ _ (by rw [List.length_append]; unfold maxLen; omega)⟩
        have h1 : (bs s).size = s.length := rfl
        have h2 : (bs s').size = s'.length := rfl
        have h3 : bs s ++ bs s' = bs (s ++ s') := by
          apply ByteArray.ext; simp
        have h4 : ¬ (((bs s).size + (bs s').size : Nat) : Int) > IntKind.i64.max := by rw [h1, h2]; simp [IntKind.max, IntKind.bits, IntKind.signed]; omega
        simp only [execOp, ho, hex, hey, eqGuard, binOp, Op.stringOp, Sem.run_bind, Sem.run_pure, Result.andThen_ok, if_neg h4, h3]
        rfl
      · rw [decide_eq_false hl] at h; cases h
    case eql => exact ⟨_, h, _, by simp [execOp, ho, hex, hey, eqGuard, binOp, go_sem, Op.stringOp, bs_toList], .bool _ _ _⟩
    case neq => exact ⟨_, h, _, by simp [execOp, ho, hex, hey, eqGuard, binOp, go_sem, Op.stringOp, bs_toList], .bool _ _ _⟩
  case agg.agg xs ys =>
    obtain ⟨us, hxs, h1, e1⟩ := hx.agg_inv; obtain ⟨vs, hys, h2, e2⟩ := hy.agg_inv; subst e1; subst e2
    cases hfl : flatT P t with
    | none => rw [hfl] at h; cases h
    | some fs =>
      rw [hfl] at h
      unfold flatT at hfl
      cases hu : P.underlying t with
      | none => rw [hu] at hfl; cases hfl
      | some dd =>
      rw [hu] at hfl
      cases dd <;> simp only at hfl <;> first | (cases hfl; done) | skip
      rename_i fs'
      split at hfl
      · rename_i hfl'
        cases hfl
        simp only [Bool.and_eq_true, Bool.not_eq_true'] at hfl'
        obtain ⟨⟨f1, f2⟩, f3⟩ := hfl'
        have hfo : P.fieldsOf t = fs' := by simp [Program.fieldsOf, hu]
        have hq := run_equalIn_struct w 9999 t us.toArray vs.toArray (by rw [hfo]; exact hu) f2
        have hg := fun op => run_eqGuard_agg w op t x y us.toArray vs.toArray f3
        rw [hfo] at hq
        cases op <;> simp only at h <;> first | (cases h; done) | skip
        case eql =>
          obtain ⟨c, hc, hrun⟩ := run_eqs (d := 9998) fs'.toList 0 xs ys us vs _ (X := us) (Y := vs) (by simp) (by simp) (by simp) (by simp) f1 hxs hys h
          exact ⟨_, hc, _, by simp only [execOp, ho, hex, hey, Sem.run_bind, hg, Result.andThen_ok, run_eql_struct, hq, hrun, Sem.run_pure], .bool _ _ _⟩
        case neq =>
          obtain ⟨c, hc, hrun⟩ := run_eqs (d := 9998) fs'.toList 0 xs ys us vs _ (X := us) (Y := vs) (by simp) (by simp) (by simp) (by simp) f1 hxs hys h
          exact ⟨_, hc, _, by simp only [execOp, ho, hex, hey, Sem.run_bind, hg, Result.andThen_ok, run_neq_struct, hq, hrun, Sem.run_pure], .bool _ _ _⟩
      · cases hfl
end
end Go.Proofs.Ytaocgmkcjemecaa
