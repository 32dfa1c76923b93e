/- The laws' fixed calls, by the interpreter. Parts of the proofs of the laws. Conditions: none. -/
import Derived.Test.YtaocgmkcjemecaaEncP
import Derived.Test.YtaocgmkcjemecaaLowOf
namespace Go.Proofs.Ytaocgmkcjemecaa
open Go.RowKit
set_option linter.unusedVariables false
set_option linter.unusedSimpArgs false
set_option maxRecDepth 100000

def needsAV : Option Needs → AV
  | none => .agg [.bool false, .bool false, .bool false, .bool false, .bool false, .bool false]
  | some n => .agg [.bool n.reg, .bool n.loc, .bool n.e, .bool n.f, .bool n.ne, .bool n.goal]
def ofK (args : List AV) : Option AV := match args with
  | [.int .i64 op] => some (.tup [needsAV (needsOf op), .bool (needsOf op).isSome])
  | _ => none
theorem reps_bools {S : Nat → Nat → Prop} {w : World} : ∀ l : List Bool, Reps S w [] [] (l.map AV.bool) (l.map Value.bool)
  | [] => .nil _ _
  | b :: l => .cons _ _ _ _ _ _ (.bool _ _ _) (reps_bools l)
theorem ones_bools (l : List Bool) : Ones (l.map Value.bool) := by
  intro v hv
  obtain ⟨b, _, rfl⟩ := List.mem_map.1 hv
  rfl
theorem sound_of : SoundK Try.prog 108 ofK := by
  intro args v h S w vs hS hr
  unfold ofK at h
  split at h
  · rename_i op
    cases h
    cases hr with | cons _ _ _ u _ _ h1 t => cases t with | nil =>
    obtain ⟨rfl, _⟩ := h1.int_inv
    refine (needs_any op w).mono ?_
    rintro e w' ⟨rfl, hb⟩
    obtain ⟨k1, k2⟩ := sext_below hS hb
    refine ⟨_, S, rfl, ?_, k2, k1, fun _ _ h => .inl h, hb⟩
    refine .tup _ _ _ [_, _] (.cons _ _ _ _ _ _ ?_ (.cons _ _ _ _ _ _ (.bool _ _ _) (.nil _ _)))
    cases needsOf op with
    | none => exact .agg _ _ _ [_, _, _, _, _, _] (reps_bools [false, false, false, false, false, false]) (ones_bools [false, false, false, false, false, false])
    | some n => exact .agg _ _ _ [_, _, _, _, _, _] (reps_bools [n.reg, n.loc, n.e, n.f, n.ne, n.goal]) (ones_bools [n.reg, n.loc, n.e, n.f, n.ne, n.goal])
  · cases h
def extK : ExtT := [(108, ofK), (1000000, fun _ => none)]
def XK : Ext := extOf extK
theorem extK_sound : SoundExt Try.prog XK := sound_extOf fun p hp => by
  simp only [extK, List.mem_cons, List.not_mem_nil, or_false] at hp
  rcases hp with rfl | rfl
  · exact sound_of
  · intro args v h; cases h
theorem known09_abs : callN Try.prog HH XK 300 30 [] [] = some (.bool true, []) := by kernel_rfl
theorem known09_any (w : World) : Calls Try.prog 30 #[] w (BoolBelow' true w) := law_calls extK_sound known09_abs (.nil _ _)
theorem known22k_abs : callN Try.prog HH XK 300 18 [] [] = some (.bool true, []) := by kernel_rfl
theorem known22k_any (w : World) : Calls Try.prog 18 #[] w (BoolBelow' true w) := law_calls extK_sound known22k_abs (.nil _ _)
end Go.Proofs.Ytaocgmkcjemecaa
