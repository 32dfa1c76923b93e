/- ConfTells, ConfBegins: the laws' calls. Parts of the proofs of the laws. Conditions: none. -/
import Derived.Test.YtaocgmkcjemecaaConfB
namespace Go.Proofs.Ytaocgmkcjemecaa
set_option linter.unusedVariables false
set_option linter.unusedSimpArgs false

theorem rep_agg {α : Type} {r : Rd α} {enc : α → List AV} (he : Enc r enc) {W : World} {cs : Array Value} {x : α} (h : r.rel W cs.toList x) : Rep (SAll W) W [] [] (.agg (enc x)) (.agg cs) := by
  obtain ⟨h1, h2⟩ := he _ _ _ h
  cases cs
  exact .agg _ _ _ _ h1 h2
theorem wf64 {x : Int} (h : -9223372036854775808 ≤ x ∧ x ≤ 9223372036854775807) : (Lit.int .i64 x).wf = true := by
  simp [Lit.wf, IntKind.min, IntKind.max, IntKind.bits, IntKind.signed]; omega
theorem rep_arr3 {W : World} {a b c : Int} (ha : -9223372036854775808 ≤ a ∧ a ≤ 9223372036854775807) (hb : -9223372036854775808 ≤ b ∧ b ≤ 9223372036854775807) (hc : -9223372036854775808 ≤ c ∧ c ≤ 9223372036854775807) : Rep (SAll W) W [] [] (.agg [.int .i64 a, .int .i64 b, .int .i64 c]) (.agg #[.int .i64 a, .int .i64 b, .int .i64 c]) :=
  .agg _ _ _ [.int .i64 a, .int .i64 b, .int .i64 c] (.cons _ _ _ _ _ _ (.int _ _ _ _ (wf64 ha)) (.cons _ _ _ _ _ _ (.int _ _ _ _ (wf64 hb)) (.cons _ _ _ _ _ _ (.int _ _ _ _ (wf64 hc)) (.nil _ _)))) (by
    intro v hv
    simp only [List.mem_cons, List.not_mem_nil, or_false] at hv
    rcases hv with rfl | rfl | rfl <;> rfl)
theorem confTells_frame (W : World) (cs : Array Value) (u : UnitS) (hu : rUnit.rel W cs.toList u) (ds : Array Value) (c : ConfS) (hc : rConf.rel W ds.toList c) (x0 x1 x2 : Int) (b0 : -9223372036854775808 ≤ x0 ∧ x0 ≤ 9223372036854775807) (b1 : -9223372036854775808 ≤ x1 ∧ x1 ≤ 9223372036854775807) (b2 : -9223372036854775808 ≤ x2 ∧ x2 ≤ 9223372036854775807) :
    Calls Try.prog 9 #[.agg cs, .agg ds, .agg #[.int .i64 x0, .int .i64 x1, .int .i64 x2]] W (LawOk W) :=
  law_calls XT_sound (ok_law09_ConfTells 102 u c (x0, x1, x2) true (confTells_m u c _)) (.cons _ _ _ _ _ _ (rep_agg e_unit hu) (.cons _ _ _ _ _ _ (rep_agg e_conf hc) (.cons _ _ _ _ _ _ (rep_arr3 b0 b1 b2) (.nil _ _))))
theorem confBegins_frame (W : World) (cs : Array Value) (u : UnitS) (hu : rUnit.rel W cs.toList u) (a : Int) (ha : (Lit.int .u8 a).wf = true) (b : Int) (hb : (Lit.int .u8 b).wf = true) :
    Calls Try.prog 11 #[.agg cs, .int .u8 a, .int .u8 b] W (LawOk W) :=
  law_calls XT_sound (ok_law09_ConfBegins 102 u a b true (confBegins_m u a b ha hb)) (.cons _ _ _ _ _ _ (rep_agg e_unit hu) (.cons _ _ _ _ _ _ (.int _ _ _ _ ha) (.cons _ _ _ _ _ _ (.int _ _ _ _ hb) (.nil _ _))))
end Go.Proofs.Ytaocgmkcjemecaa
