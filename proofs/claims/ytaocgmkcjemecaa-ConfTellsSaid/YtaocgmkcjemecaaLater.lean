/- Regions that draw their order, whose callees make memory: one walk. Parts of the proofs of the laws of layers 6 to 22. Conditions: none. -/
import Derived.Test.YtaocgmkcjemecaaRep
namespace Go.Proofs.Ytaocgmkcjemecaa
open Go.RowKit
set_option linter.unusedVariables false
set_option linter.unusedSimpArgs false

/-- A world in which all that was there is as it was. -/
structure Later (w : World) where
  world : World
  below : Below w.heap.size w world

def Later.self (w : World) : Later w := ⟨w, Below.refl _ _⟩
instance (w : World) : Nonempty (Later w) := ⟨Later.self w⟩
theorem Later.cell {w : World} {p : Addr} {v : Value} (h : w.cell? p = some v) : ∀ s : Later w, s.world.cell? p = some v := fun s => cell_later s.below h

theorem wp_region_later {P : Program} {id : Nat} {Q : Exit → Act → World → Prop} {a : Act} {w : World} {l : List Oper} (hm : P.follows .mixedOrders = true) (hB : Region.lexB .any l.toArray = true)
    (h : wpQuiet P l.toArray (fun w' => ∃ s : Later w, w' = s.world) (fun a => ∀ w', (∃ s : Later w, w' = s.world) → Q .normal a w') l a) : (Code.region id l.toArray true).wp P Q a w :=
  wp_region_quiet (C := fun w' => ∃ s : Later w, w' = s.world) hm hB ⟨⟨w.drew, (Below.refl _ _).drew⟩, rfl⟩ (by simpa using h)

theorem Calls.later {P : Program} {f : FuncId} {args : Array Value} {w : World} {s : Later w} {v : Value} {Post : Ending → World → Prop} (h : Calls P f args s.world Post) (hp : ∀ e w', Post e w' → e = .returned v ∧ Below s.world.heap.size s.world w') :
    Calls P f args s.world fun e w'' => e = .returned v ∧ ∃ t : Later w, w'' = t.world :=
  h.mono fun e w'' hpost => ⟨(hp e w'' hpost).1, ⟨w'', s.below.trans ((hp e w'' hpost).2.mono s.below.size)⟩, rfl⟩

theorem wpList_of_quiet {P : Program} {ops : Array Oper} {C : World → Prop} {Q : Exit → Act → World → Prop} {Q' : Act → Prop} (hQ : ∀ a, Q' a → ∀ w', C w' → Q .normal a w') : ∀ (l : List Oper) (a : Act) (w : World), C w → wpQuiet P ops C Q' l a → wpList P ops Q l a w
  | [], a, w, hw, h => hQ a h w hw
  | o :: rest, a, w, hw, h => by
    unfold wpQuiet at h
    unfold wpList
    split
    · rename_i hwt
      rw [if_pos hwt] at h
      exact .inl (Oper.wp_of_quiet hw (fun a' w' hw' h' => wpList_of_quiet hQ rest a' w' hw' h') h)
    · rename_i hwt
      rw [if_neg hwt] at h
      exact wpList_of_quiet hQ rest _ w hw h

/-- The same for a region in one order. -/
theorem wp_region_later' {P : Program} {id : Nat} {Q : Exit → Act → World → Prop} {a : Act} {w : World} {l : List Oper}
    (h : wpQuiet P l.toArray (fun w' => ∃ s : Later w, w' = s.world) (fun a => ∀ w', (∃ s : Later w, w' = s.world) → Q .normal a w') l a) : (Code.region id l.toArray false).wp P Q a w :=
  wp_region_lit (wpList_of_quiet (fun _ h => h) l a w ⟨Later.self w, rfl⟩ h)

end Go.Proofs.Ytaocgmkcjemecaa
