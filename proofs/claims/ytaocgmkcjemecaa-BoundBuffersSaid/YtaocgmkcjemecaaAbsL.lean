/- The interpreter is sound: objects that are let go. Parts of the proofs of the laws. Conditions: none. -/
import Derived.Test.YtaocgmkcjemecaaAbsK
namespace Go.Proofs.Ytaocgmkcjemecaa
open Go.RowKit
set_option linter.unusedVariables false
set_option linter.unusedSimpArgs false

/-- The cells of arrays that are let go stay from now on. -/
def letGo (S : Nat → Nat → Prop) (w : World) (hp : Hp) (φ : List Pl) (h0 : Nat) : Nat → Nat → Prop := fun b o => S b o ∨ ∃ id size els, h0 ≤ id ∧ hp[id]? = some (.arr size els) ∧ φ[id]? = some (.blk b) ∧ ∃ v, w.cell? ⟨b, o, none⟩ = some v

section
variable {S : Nat → Nat → Prop} {w : World} {hp : Hp} {φ : List Pl} {P : Program} {base h0 : Nat}

theorem letGo_ext : SExt S w (letGo S w hp φ h0) w := fun b o h => ⟨.inl h, rfl⟩

theorem waneHp_at {id : Nat} (hid : id < h0) : (waneHp h0 hp)[id]? = (hp[id]?).map (waneOb h0 hp) := by
  simp [waneHp, List.getElem?_take, hid]
theorem take_at {id : Nat} (hid : id < h0) : (φ.take h0)[id]? = φ[id]? := by simp [List.getElem?_take, hid]

theorem wane1_rep (hs : Sim P base S w hp φ) {a : AV} {v : Value} (h : Rep S w hp φ a v) : Rep (letGo S w hp φ h0) w (waneHp h0 hp) (φ.take h0) (wane1 h0 hp a) v := by
  cases a <;> simp only [wane1] <;> first | exact .junk _ _ _ | skip
  case bool b => have := h.bool_inv; subst this; exact .bool _ _ _
  case int k n => obtain ⟨rfl, h1⟩ := h.int_inv; exact .int _ _ _ _ h1
  case str s => obtain ⟨rfl, h1⟩ := h.str_inv; exact .str _ _ _ h1
  case nilp => cases h; exact .nilp _ _
  case ptr id off =>
    obtain ⟨b, hb, rfl⟩ := h.ptr_inv
    by_cases hid : id < h0
    · rw [decide_eq_true hid]; exact .ptr _ _ id off b ((take_at hid).trans hb)
    · rw [decide_eq_false hid]; exact .junk _ _ _
  case pte id i off =>
    obtain ⟨b, size, els, hb, hob, rfl⟩ := h.pte_inv
    by_cases hid : id < h0
    · rw [decide_eq_true hid]
      exact .pte _ _ id i off b size els ((take_at hid).trans hb) (by rw [nth?_eq] at hob ⊢; rw [waneHp_at hid, hob]; rfl)
    · rw [decide_eq_false hid]; exact .junk _ _ _
  case rptr el off => obtain ⟨vs, b, ob, h1, h2, h3, rfl⟩ := h.rptr_inv; exact .rptr _ _ _ _ _ _ _ (Reps.mono letGo_ext h1 HpExt.nil) h2 fun j u hj => ⟨.inl (h3 j u hj).1, (h3 j u hj).2⟩
  case nils => have := h.nils_inv; subst this; exact .nils _ _
  case sl size els => obtain ⟨vss, a, cap, h1, h2, h3, rfl⟩ := h.sl_inv; exact .sl _ _ _ _ _ _ _ (Repss.mono letGo_ext h1) (h2.mono letGo_ext) h3
  case row id n =>
    obtain ⟨et, size, els, h1, h2, h3, h4⟩ := h.row_inv
    have h5 : Rep (letGo S w hp φ h0) w [] [] (.sl size (els.take n)) v := Rep.mono letGo_ext h3 HpExt.nil
    by_cases hid : id < h0
    · rw [decide_eq_true hid]
      exact .row _ _ id n v et size els (by rw [nth?_eq] at h1 ⊢; rw [waneHp_at hid, h1]; rfl) h2 h5 fun hn => (take_at hid).trans (h4 hn)
    · rw [decide_eq_false hid, h1]; exact h5.lift
  case own id off n =>
    obtain ⟨b, size, els, cap, ad, hb, hob, hle, had, hc, rfl⟩ := h.own_inv
    by_cases hid : id < h0
    · rw [decide_eq_true hid]
      exact .own _ _ id off n b size els cap ((take_at hid).trans hb) (by rw [nth?_eq] at hob ⊢; rw [waneHp_at hid, hob]; rfl) hle ad had hc
    · rw [decide_eq_false hid, hob]
      rw [nth?_eq] at hob
      obtain ⟨b', vss, ex, E', g1, g2, g3, g4, g5, g6⟩ := hs.obj id _ hob
      rw [hb] at g1; cases g1
      have hlen : ((els.drop off).take n).length = n := by rw [List.length_take, List.length_drop]; omega
      have := Rep.sl (S := letGo S w hp φ h0) (w := w) (waneHp h0 hp) (φ.take h0) size ((els.drop off).take n) ((vss.drop off).take n) ad cap (Repss.mono letGo_ext ((g4.drop off).take n)) ⟨fun vs hv => g5 vs (List.mem_of_mem_drop (List.mem_of_mem_take hv)), fun j vs t u hj hu => ?_⟩ (by rw [hlen]; exact hc)
      · rw [hlen] at this; exact this
      · rw [List.getElem?_take] at hj
        split at hj
        · rename_i hlt
          rw [List.getElem?_drop] at hj
          have htl : t < size := by rw [← g5 vs (List.mem_of_getElem? hj)]; exact nth?_lt hu
          have hf := flatten_at g5 hj htl
          rw [hu] at hf
          have hcell : w.cell? ⟨b, (off + j) * size + t, none⟩ = some u := by
            simp [World.cell?, g3]; simpa [List.getElem?_append_left (nth?_lt hf)] using hf
          have e1 : off * size + j * size + t = (off + j) * size + t := by rw [Nat.add_mul]
          exact ⟨b, off * size, had (by omega), .inr ⟨id, size, els, by omega, hob, hb, u, by rw [e1]; exact hcell⟩, by rw [e1]; exact hcell⟩
        · cases hj
  case func f x y =>
    cases x <;> cases y <;> simp only <;> first | exact .junk _ _ _ | skip
    obtain ⟨a, b, h1, h2, rfl⟩ := h.func_inv
    cases h1; cases h2
    exact .func _ _ _ _ _ _ _ (.nil _ _) (.nil _ _)
  case nilf => cases h; exact .nilf _ _
theorem reps_map {S' : Nat → Nat → Prop} {w' : World} {hp' : Hp} {φ' : List Pl} {g : AV → AV} (hg : ∀ a v, Rep S w hp φ a v → Rep S' w' hp' φ' (g a) v) {l : List AV} {vs : List Value} (h : Reps S w hp φ l vs) : Reps S' w' hp' φ' (l.map g) vs := by
  induction l generalizing vs with
  | nil => cases h; exact .nil _ _
  | cons a l ih => cases h with | cons _ _ _ v _ vs h t => exact .cons _ _ _ _ _ _ (hg a v h) (ih t)
theorem wane2_rep (hs : Sim P base S w hp φ) {a : AV} {v : Value} (h : Rep S w hp φ a v) : Rep (letGo S w hp φ h0) w (waneHp h0 hp) (φ.take h0) (wane2 h0 hp a) v := by
  cases a <;> simp only [wane2] <;> first | exact wane1_rep hs h | skip
  case agg cs =>
    obtain ⟨vs, h1, h2, rfl⟩ := h.agg_inv
    exact .agg _ _ _ _ (reps_map (fun a v h => wane1_rep hs h) h1) h2
  case func f x y =>
    obtain ⟨a, b, h1, h2, rfl⟩ := h.func_inv
    exact .func _ _ _ _ _ _ _ (reps_map (fun a v h => wane1_rep hs h) h1) (reps_map (fun a v h => wane1_rep hs h) h2)
theorem wane_rep (hs : Sim P base S w hp φ) {a : AV} {v : Value} (h : Rep S w hp φ a v) : Rep (letGo S w hp φ h0) w (waneHp h0 hp) (φ.take h0) (wane h0 hp a) v := by
  cases a <;> simp only [wane] <;> first | exact wane2_rep hs h | skip
  case tup cs =>
    obtain ⟨vs, h1, rfl⟩ := h.tup_inv
    exact .tup _ _ _ _ (reps_map (fun a v h => wane2_rep hs h) h1)
theorem keepTm_rep (hs : Sim P base S w hp φ) {keep : List Nat} {tm : Tm} {vs : List Value} (h : Reps S w hp φ tm vs) : ∀ i, Reps (letGo S w hp φ h0) w (waneHp h0 hp) (φ.take h0) (keepTm keep h0 hp i tm) vs := by
  induction tm generalizing vs with
  | nil => intro i; cases h; exact .nil _ _
  | cons a l ih => cases h with
    | cons _ _ _ v _ vs h t =>
      intro i
      refine .cons _ _ _ _ _ _ ?_ (ih t (i + 1))
      cases keep.contains i
      · exact .junk _ _ _
      · exact wane_rep hs h

theorem Sim.wane (hs : Sim P base S w hp φ) : Sim P base (letGo S w hp φ h0) w (waneHp h0 hp) (φ.take h0) := by
  have hat : ∀ i b, blockAt (φ.take h0) i = some b → i < h0 ∧ blockAt φ i = some b := by
    intro i b h
    unfold blockAt at h ⊢
    by_cases hi : i < h0
    · rw [take_at hi] at h; exact ⟨hi, h⟩
    · rw [List.getElem?_take, if_neg hi] at h; cases h
  have hno : ∀ i b, i < h0 → blockAt φ i = some b → ∀ o, letGo S w hp φ h0 b o ↔ S b o := by
    intro i b hi hb o
    refine ⟨fun h => ?_, .inl⟩
    rcases h with h | ⟨id, size, els, h1, h2, h3, _⟩
    · exact h
    · have := hs.apart i id b hb (by simp [blockAt, h3])
      omega
  refine ⟨by simp [waneHp, hs.len], hs.low, fun b o h => ?_, fun id o ho => ?_, fun i j b hi hj => hs.apart i j b (hat i b hi).2 (hat j b hj).2⟩
  · rcases h with h | ⟨_, _, _, _, _, _, h⟩
    · exact hs.cell b o h
    · exact h
  · have hid : id < h0 := by
      have := nth?_lt ho
      simp [waneHp] at this; omega
    rw [waneHp_at hid] at ho
    cases hob : hp[id]? with
    | none => rw [hob] at ho; simp at ho
    | some ob =>
      rw [hob] at ho
      simp only [Option.map_some, Option.some.injEq] at ho
      subst ho
      have hok := hs.obj id ob hob
      have hφ : (φ.take h0)[id]? = φ[id]? := take_at hid
      cases ob with
      | var t cs =>
        obtain ⟨b, vs, E, h1, h2, h3, h4, h5, h6⟩ := hok
        have hat' : blockAt φ id = some b := by simp [blockAt, h1]
        exact ⟨b, vs, E, hφ.trans h1, h2, h3, reps_map (fun a v h => wane2_rep hs h) h4, h5, fun o ho => h6 o ((hno id b hid hat' o).1 ho)⟩
      | arr size els =>
        obtain ⟨b, vss, ex, E, h1, h2, h3, h4, h5, h6⟩ := hok
        have hat' : blockAt φ id = some b := by simp [blockAt, h1]
        exact ⟨b, vss, ex, E, hφ.trans h1, h2, h3, Repss.mono letGo_ext h4, h5, fun o ho => h6 o ((hno id b hid hat' o).1 ho)⟩
      | row e size els =>
        obtain ⟨v, vss, h1, h2, h3, h4, h5, h6, h7⟩ := hok
        have hat' : ∀ g, v.ownBlock = some g → blockAt φ id = some g := fun g hg => by simp [blockAt, h1, hg]
        exact ⟨v, vss, hφ.trans h1, h2, Repss.mono letGo_ext h3, h4, h5, h6, fun g hg o => (hno id g hid (hat' g hg) o).trans (h7 g hg o)⟩

theorem Trans.wane {S0 : Nat → Nat → Prop} {w0 : World} {hp0 : Hp} {φ0 : List Pl} (hs : Sim P base S w hp φ) (h : Trans base S0 w0 hp0 φ0 S w hp φ) (h1 : hp0.length ≤ h0) (h2 : φ0.length = hp0.length) : Trans base S0 w0 hp0 φ0 (letGo S w hp φ h0) w (waneHp h0 hp) (φ.take h0) := by
  refine ⟨h.s.trans letGo_ext, ⟨fun id b hb => ?_, fun id size els he => ?_, fun id e size els he => ?_⟩, h.below, fun b o hb => ?_⟩
  · have := nth?_lt hb
    exact (take_at (by omega)).trans (h.hp.blk id b hb)
  · obtain ⟨els', e1, e2⟩ := h.hp.arr id size els he
    rw [nth?_eq] at he e1
    have := nth?_lt he
    exact ⟨els', by rw [nth?_eq, waneHp_at (by omega), e1]; rfl, e2⟩
  · obtain ⟨more, e1, e2⟩ := h.hp.row id e size els he
    rw [nth?_eq] at he e1
    have := nth?_lt he
    exact ⟨more, by rw [nth?_eq, waneHp_at (by omega), e1]; rfl, fun hm v hv => (take_at (by omega)).trans (e2 hm v hv)⟩
  · rcases hb with hb | ⟨id, size, els, _, hob, hφ, _⟩
    · exact h.new b o hb
    · exact .inr (hs.block_lt (id := id) (by simp [blockAt, hφ])).1
end
end Go.Proofs.Ytaocgmkcjemecaa
