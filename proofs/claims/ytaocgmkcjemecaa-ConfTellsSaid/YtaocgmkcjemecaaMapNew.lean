/- A map that the call has just made: entries put in, and a look-up with ok. Conditions: none. -/
import Derived.Test.YtaocgmkcjemecaaRep
import Derived.MapKept
import Derived.WideMake
namespace Go.Proofs.Ytaocgmkcjemecaa
open Go.RowKit
set_option linter.unusedVariables false
set_option linter.unusedSimpArgs false

theorem heap_set_new (W : World) (o o' : Obj) : ({ W.alloc o with heap := (W.alloc o).heap.setIfInBounds W.heap.size o' } : World) = W.alloc o' := by
  simp only [World.alloc]
  congr 1
  apply Array.ext_getElem?
  intro i
  rw [Array.getElem?_setIfInBounds, Array.getElem?_push, Array.getElem?_push]
  by_cases h : W.heap.size = i
  · subst h; simp
  · rw [if_neg h, if_neg (by omega), if_neg (by omega)]

theorem wpList_makeMap {P : Program} {ops : Array Oper} {rest : List Oper} {o : Oper} {a : Act} {Q : Exit → Act → World → Prop} {w : World} (hg : o.guard = none) (t : TypeId) (hop : o.op = Op.makeMap t none)
    (hK : wpList P ops Q rest (a.put o.dst (.map (some w.heap.size))) (w.alloc (.map #[] 0))) : wpList P ops Q (o :: rest) a w := by
  refine wpList_plain hg fun K' hK' => ?_
  unfold Oper.wp
  simp [execOp, hop, run_makeMap_plain, Result.andThen]
  exact hK' _ _ hK

theorem wpList_insert_new {P : Program} {ops : Array Oper} {rest : List Oper} {o : Oper} {a : Act} {Q : Exit → Act → World → Prop} {W : World} {es : Array MapEntry} {clock : Nat}
    (hg : o.guard = none) (m x v : Operand) (t : TypeId) (hop : o.op = Op.insert t m x v) (k e : TypeId) (ht : P.underlying t = some (.map k e)) (q : IntKind) (hk : P.underlying k = some (.int q))
    (b : Nat) (hb : b = W.heap.size) (hm : a.eval m = .map (some b)) (n : Int) (val : Value) (hx : a.eval x = .int q n) (hv : a.eval v = val) (hf : Instr.findNow (.int q) (.int q n) es.toList 0 = some none)
    (hK : wpList P ops Q rest (a.put o.dst undef) (W.alloc (.map (es.push ⟨.int q n, val, clock⟩) (clock + 1)))) : wpList P ops Q (o :: rest) a (W.alloc (.map es clock)) := by
  subst hb
  have hb : (W.alloc (.map es clock)).heap[W.heap.size]? = some (.map es clock) := heap_alloc_new W _
  have hi : MapKept.IsKey (.int q) (.int q n) := rfl
  refine wpList_plain hg fun K' hK' => ?_
  unfold Oper.wp
  have hr : (Instr.mapUpdate t (.map (some W.heap.size)) (.int q n) val).run P (W.alloc (.map es clock)) = .ok () (W.alloc (.map (es.push ⟨.int q n, val, clock⟩) (clock + 1))) := by
    simp only [Instr.mapUpdate, Sem.run_bind, run_underlying ht, MapKept.run_getObj_map hb, MapKept.run_checkKey hk hi, MapKept.run_findKey hk hf, MapKept.run_setObj_map _ hb, Result.andThen, heap_set_new]
  simp [execOp, hop, hm, hx, hv, hr, Result.andThen]
  exact hK' _ _ hK

theorem wpList_lookup_ok {P : Program} {ops : Array Oper} {rest : List Oper} {o : Oper} {a : Act} {Q : Exit → Act → World → Prop} {w : World} {es : Array MapEntry} {clock : Nat}
    (hg : o.guard = none) (m x : Operand) (t : TypeId) (hop : o.op = Op.lookup t m x true) (k e : TypeId) (ht : P.underlying t = some (.map k e)) (q : IntKind) (hk : P.underlying k = some (.int q))
    (b : Nat) (hb : w.heap[b]? = some (.map es clock)) (hm : a.eval m = .map (some b)) (n : Int) (hx : a.eval x = .int q n) (z : Value) (hz : (zeroValue e).run P w = .ok z w) (v : Value) (ok : Bool)
    (hf : (∃ i, Instr.findNow (.int q) (.int q n) es.toList 0 = some (some (i, v)) ∧ ok = true) ∨ Instr.findNow (.int q) (.int q n) es.toList 0 = some none ∧ v = z ∧ ok = false)
    (hK : wpList P ops Q rest (a.put o.dst (.tuple #[v, .bool ok])) w) : wpList P ops Q (o :: rest) a w := by
  have hi : MapKept.IsKey (.int q) (.int q n) := rfl
  refine wpList_plain hg fun K' hK' => ?_
  unfold Oper.wp
  have hr : (Instr.lookup t (.map (some b)) (.int q n) true).run P w = .ok (.tuple #[v, .bool ok]) w := by
    rcases hf with ⟨i, hf, rfl⟩ | ⟨hf, rfl, rfl⟩
    · simp [Instr.lookup, run_underlying ht, MapKept.run_getObj_map hb, MapKept.run_checkKey hk hi, MapKept.run_findKey hk hf, Result.andThen]
    · simp [Instr.lookup, run_underlying ht, MapKept.run_getObj_map hb, MapKept.run_checkKey hk hi, MapKept.run_findKey hk hf, Result.andThen, hz]
  simp [execOp, hop, hm, hx, hr, Result.andThen]
  exact hK' _ _ hK

end Go.Proofs.Ytaocgmkcjemecaa
