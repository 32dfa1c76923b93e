/- Parts of the proofs: what they lean on. Conditions: none. -/
import Derived.Laws.BytesString
import Derived.Test.YtjobghbdfannfaaExprS2
section
namespace Go.Proofs.Ytjobghbdfannfaa
open Go.RowKit
set_option linter.unusedVariables false
set_option linter.unusedSimpArgs false

/-- Objects under other numbers. -/
structure RenOk (hp : Hp) (φ : List Pl) (hp' : Hp) (φ' : List Pl) (q : Nat → Option Nat) : Prop where
  pl : ∀ id k, q id = some k → φ'[k]? = φ[id]?
  ob : ∀ id k o, q id = some k → nth? hp id = some o → (∀ t cs, o ≠ .var t cs) → nth? hp' k = some o

section
variable {S : Nat → Nat → Prop} {w : World} {hp hp' : Hp} {φ φ' : List Pl} {P : Program} {base : Nat} {q : Nat → Option Nat}

theorem ren_list {g : AV → AV} (hg : ∀ a v, Rep S w hp φ a v → Rep S w hp' φ' (g a) v) {l : List AV} {vs : List Value} (h : Reps S w hp φ l vs) : Reps S w hp' φ' (l.map g) vs := by
  induction l generalizing vs with
  | nil => cases h; exact .nil _ _
  | cons a l ih => cases h with | cons _ _ _ v _ vs h t => exact .cons _ _ _ _ _ _ (hg a v h) (ih t)
theorem ren1_rep (hq : RenOk hp φ hp' φ' q) {a : AV} {v : Value} (h : Rep S w hp φ a v) : Rep S w hp' φ' (ren1 q a) v := by
  cases a <;> simp only [ren1] <;> first | exact .junk _ _ _ | skip
  case bool => cases h; exact .bool _ _ _
  case int => cases h; exact .int _ _ _ _ (by assumption)
  case str => cases h; exact .str _ _ _ (by assumption)
  case nilp => cases h; exact .nilp _ _
  case ptr id off =>
    obtain ⟨b, hb, rfl⟩ := h.ptr_inv
    cases hk : q id with
    | none => exact .junk _ _ _
    | some k => exact .ptr _ _ _ off b ((hq.pl id k hk).trans hb)
  case pte id i off =>
    obtain ⟨b, size, els, hb, hob, rfl⟩ := h.pte_inv
    cases hk : q id with
    | none => exact .junk _ _ _
    | some k => exact .pte _ _ _ i off b size els ((hq.pl id k hk).trans hb) (hq.ob id k _ hk hob fun _ _ e => by cases e)
  case rptr el off => obtain ⟨vs, b, ob, h1, h2, h3, rfl⟩ := h.rptr_inv; exact .rptr _ _ _ _ _ _ _ h1 h2 h3
  case nils => have := h.nils_inv; subst this; exact .nils _ _
  case sl size els => obtain ⟨vss, a, cap, h1, h2, h3, rfl⟩ := h.sl_inv; exact .sl _ _ _ _ _ _ _ h1 h2 h3
  case row id n =>
    obtain ⟨et, size, els, h1, h2, h3, h4⟩ := h.row_inv
    cases hk : q id with
    | none => exact .junk _ _ _
    | some k => exact .row _ _ _ n v et size els (hq.ob id k _ hk h1 fun _ _ e => by cases e) h2 h3 fun hn => (hq.pl id k hk).trans (h4 hn)
  case own id off n =>
    obtain ⟨b, size, els, cap, ad, hb, hob, hle, had, hc, rfl⟩ := h.own_inv
    cases hk : q id with
    | none => exact .junk _ _ _
    | some k => exact .own _ _ _ off n b size els cap ((hq.pl id k hk).trans hb) (hq.ob id k _ hk hob fun _ _ e => by cases e) hle ad had hc
  case stk id ver n =>
    obtain ⟨h0, ver', e, size, els, h1, h2, h3⟩ := h.stk_inv
    cases hk : q id with
    | none => exact .junk _ _ _
    | some k => exact .stk _ _ _ _ _ _ ⟨h0, ver', e, size, els, hq.ob id k _ hk h1 (fun _ _ e => by cases e), h2, fun hv => by
        obtain ⟨c1, v0, c2, c3⟩ := h3 hv
        exact ⟨c1, v0, (hq.pl id k hk).trans c2, c3⟩⟩
  case pts id ver i off =>
    obtain ⟨h0, ver', e, size, els, h1, h2, h3⟩ := h.pts_inv
    cases hk : q id with
    | none => exact .junk _ _ _
    | some k => exact .pts _ _ _ _ _ _ _ ⟨h0, ver', e, size, els, hq.ob id k _ hk h1 (fun _ _ e => by cases e), h2, fun hv => by
        obtain ⟨g, len, cap, c2, c3⟩ := h3 hv
        exact ⟨g, len, cap, (hq.pl id k hk).trans c2, c3⟩⟩
  case func f x y =>
    cases x <;> cases y <;> simp only [ren1] <;> first | exact .junk _ _ _ | skip
    obtain ⟨a, b, h1, h2, rfl⟩ := h.func_inv
    cases h1; cases h2
    exact .func _ _ _ _ _ _ _ (.nil _ _) (.nil _ _)
  case nilf => cases h; exact .nilf _ _
theorem ren2_rep (hq : RenOk hp φ hp' φ' q) {a : AV} {v : Value} (h : Rep S w hp φ a v) : Rep S w hp' φ' (ren2 q a) v := by
  cases a <;> simp only [ren2] <;> first | exact ren1_rep hq h | skip
  case agg cs =>
    obtain ⟨vs, h1, h2, rfl⟩ := h.agg_inv
    exact .agg _ _ _ _ (ren_list (fun a v h => ren1_rep hq h) h1) h2
  case func f x y =>
    obtain ⟨a, b, h1, h2, rfl⟩ := h.func_inv
    exact .func _ _ _ _ _ _ _ (ren_list (fun a v h => ren1_rep hq h) h1) (ren_list (fun a v h => ren1_rep hq h) h2)
theorem ren3_rep (hq : RenOk hp φ hp' φ' q) {a : AV} {v : Value} (h : Rep S w hp φ a v) : Rep S w hp' φ' (ren3 q a) v := by
  cases a <;> simp only [ren3] <;> first | exact ren2_rep hq h | skip
  case tup cs =>
    obtain ⟨vs, h1, rfl⟩ := h.tup_inv
    exact .tup _ _ _ _ (ren_list (fun a v h => ren2_rep hq h) h1)
theorem shut1_rep {a : AV} {v : Value} (h : Rep S w hp φ a v) : Rep S w hp φ (shut1 hp a) v := by
  cases a <;> simp only [shut1] <;> first | exact h | skip
  case row id n =>
    obtain ⟨et, size, els, h1, h2, h3, h4⟩ := h.row_inv
    rw [h1]; exact h3.lift
theorem shut2_rep {a : AV} {v : Value} (h : Rep S w hp φ a v) : Rep S w hp φ (shut2 hp a) v := by
  cases a <;> simp only [shut2] <;> first | exact shut1_rep h | skip
  case agg cs =>
    obtain ⟨vs, h1, h2, rfl⟩ := h.agg_inv
    exact .agg _ _ _ _ (ren_list (fun a v h => shut1_rep h) h1) h2
  case func f x y =>
    obtain ⟨a, b, h1, h2, rfl⟩ := h.func_inv
    exact .func _ _ _ _ _ _ _ (ren_list (fun a v h => shut1_rep h) h1) (ren_list (fun a v h => shut1_rep h) h2)

theorem ObOk.ren (hq : RenOk hp φ hp' φ' q) {id k : Nat} (hφ : φ'[k]? = φ[id]?) {o : Ob} (h : ObOk P base S w hp φ id o) : ObOk P base S w hp' φ' k (renOb P q o) := by
  cases o with
  | var t cs =>
    obtain ⟨b, vs, E, g1, g2, g3, g4, g5, g6⟩ := h
    exact ⟨b, vs, E, hφ.trans g1, g2, g3, norms_rep (ren_list (fun a v h => ren2_rep hq h) g4), g5, g6⟩
  | arr size els =>
    obtain ⟨b, vss, ex, E, g1, g2, g3, g4, g5, g6⟩ := h
    exact ⟨b, vss, ex, E, hφ.trans g1, g2, g3, g4, g5, g6⟩
  | row e size els =>
    obtain ⟨v, vss, g1, g2, g3, g4, g5, g6, g7⟩ := h
    exact ⟨v, vss, hφ.trans g1, g2, g3, g4, g5, g6, g7⟩
  | stk ver e size els =>
    obtain ⟨v, vss, g1, g2, g3, g4, g5, g6, g7⟩ := h
    exact ⟨v, vss, hφ.trans g1, g2, g3, g4, g5, g6, g7⟩
end

theorem hasN_iff (l : List Nat) (a : Nat) : hasN l a = true ↔ a ∈ l := by
  induction l with
  | nil => simp [hasN]
  | cons b l ih =>
    simp only [hasN, List.mem_cons]
    cases hb : Nat.beq b a with
    | true => have := Nat.eq_of_beq_eq_true hb; subst this; simp
    | false =>
      have : a ≠ b := fun e => by subst e; rw [Nat.beq_refl] at hb; cases hb
      simp [ih, this]
theorem findN_some : ∀ (l : List Nat) (i id k : Nat), findN l i id = some k → i ≤ k ∧ l[k - i]? = some id := by
  intro l
  induction l with
  | nil => intro i id k h; cases h
  | cons a l ih =>
    intro i id k h
    simp only [findN] at h
    cases hb : Nat.beq a id with
    | true => rw [hb] at h; cases h; have := Nat.eq_of_beq_eq_true hb; subst this; simp
    | false =>
      rw [hb] at h
      obtain ⟨h1, h2⟩ := ih (i + 1) id k h
      refine ⟨by omega, ?_⟩
      rw [show k - i = (k - (i + 1)) + 1 by omega, List.getElem?_cons_succ]; exact h2
theorem findN_at {l : List Nat} {id k : Nat} (h : findN l 0 id = some k) : l[k]? = some id := by simpa using (findN_some l 0 id k h).2
theorem nodup_at {l : List Nat} (hn : l.Nodup) {i j a : Nat} (hi : l[i]? = some a) (hj : l[j]? = some a) : i = j := by
  have h1 := nth?_lt hi
  have h2 := nth?_lt hj
  rw [List.getElem?_eq_getElem h1] at hi
  rw [List.getElem?_eq_getElem h2] at hj
  exact (List.getElem_inj hn).1 ((Option.some.inj hi).trans (Option.some.inj hj).symm)
theorem reach_ok (hp : Hp) : ∀ (n : Nat) (todo done ids : List Nat), reach hp n todo done = some ids → done.Nodup → (∀ id ∈ done, id < hp.length) → ids.Nodup ∧ (∀ id ∈ ids, id < hp.length) ∧ (∀ id ∈ done, id ∈ ids) ∧ ∀ hp2 : Hp, (∀ id ∈ ids, nth? hp2 id = nth? hp id) → reach hp2 n todo done = some ids := by
  intro n
  induction n with
  | zero => intro todo done ids h h1 h2; cases todo <;> cases h <;> exact ⟨h1, h2, fun _ h => h, fun _ _ => rfl⟩
  | succ n ih =>
    intro todo done ids h h1 h2
    cases todo with
    | nil => cases h; exact ⟨h1, h2, fun _ h => h, fun _ _ => rfl⟩
    | cons id todo =>
      simp only [reach] at h ⊢
      cases hh : hasN done id with
      | true => rw [hh] at h; exact ih _ _ _ h h1 h2
      | false =>
        rw [hh] at h
        simp only at h ⊢
        cases ho : nth? hp id with
        | none => rw [ho] at h; cases h
        | some o =>
          rw [ho] at h
          have hni : id ∉ done := fun h => by rw [(hasN_iff done id).2 h] at hh; cases hh
          obtain ⟨g1, g2, g3, g4⟩ := ih _ _ _ h (by
            rw [List.nodup_append]
            exact ⟨h1, by simp, fun a ha b hb e => by simp at hb; subst e; subst hb; exact hni ha⟩) (by
            intro a ha
            rcases List.mem_append.1 ha with ha | ha
            · exact h2 a ha
            · simp at ha; subst ha
              rw [nth?_eq] at ho; exact nth?_lt ho)
          refine ⟨g1, g2, fun a ha => g3 a (List.mem_append_left _ ha), fun hp2 hp2s => ?_⟩
          have := hp2s id (g3 id (List.mem_append_right _ (by simp)))
          rw [this, ho]
          exact g4 hp2 hp2s
theorem idB_lt {n : Nat} : ∀ {l : List Nat}, idB n l = true → ∀ id ∈ l, id < n
  | [], _, id, h => by cases h
  | a :: l, hb, id, h => by
    simp only [idB] at hb
    split at hb
    · rename_i hlt
      rcases List.mem_cons.1 h with rfl | h
      · exact Nat.lt_of_lt_of_le (Nat.lt_succ_self _) (Nat.le_of_ble_eq_true hlt)
      · exact idB_lt hb id h
    · cases hb

/-- Some places of a list written. -/
def backL {α : Type} : List Nat → List α → List α → List α
  | id :: l, x :: m, xs => backL l m (xs.set id x)
  | _, _, xs => xs
theorem backL_len {α : Type} : ∀ (l : List Nat) (m xs : List α), (backL l m xs).length = xs.length
  | [], m, xs => by cases m <;> rfl
  | id :: l, [], xs => rfl
  | id :: l, x :: m, xs => by rw [backL, backL_len l m]; simp
theorem backL_out {α : Type} : ∀ (l : List Nat) (m xs : List α) (j : Nat), j ∉ l → (backL l m xs)[j]? = xs[j]?
  | [], m, xs, j, h => by cases m <;> rfl
  | id :: l, [], xs, j, h => rfl
  | id :: l, x :: m, xs, j, h => by
    rw [backL, backL_out l m _ j fun h' => h (List.mem_cons_of_mem _ h'), List.getElem?_set_ne fun e => h (by rw [e]; exact List.mem_cons_self)]
theorem backL_in {α : Type} : ∀ (l : List Nat) (m xs : List α) (k j : Nat), l.Nodup → (∀ id ∈ l, id < xs.length) → l.length = m.length → l[k]? = some j → (backL l m xs)[j]? = m[k]?
  | [], m, xs, k, j, hn, hb, hl, h => by simp at h
  | id :: l, [], xs, k, j, hn, hb, hl, h => by simp at hl
  | id :: l, x :: m, xs, k, j, hn, hb, hl, h => by
    rw [backL]
    rw [List.nodup_cons] at hn
    cases k with
    | zero =>
      simp at h; subst h
      rw [backL_out l m _ _ hn.1, List.getElem?_set_self (hb _ List.mem_cons_self)]; rfl
    | succ k =>
      rw [List.getElem?_cons_succ] at h
      rw [backL_in l m _ k j hn.2 (fun a ha => by simpa using hb a (List.mem_cons_of_mem _ ha)) (by simpa using hl) h, List.getElem?_cons_succ]
theorem backHp_eq (P : Program) (ids : List Nat) : ∀ (l : List Nat) (hpn hp : Hp), backHp P ids l hpn hp = backL l (hpn.map (renOb P (nth? ids))) hp
  | [], hpn, hp => by cases hpn <;> rfl
  | id :: l, [], hp => rfl
  | id :: l, o :: hpn, hp => by rw [backHp, setNth_eq, backHp_eq P ids l, List.map_cons, backL]

theorem subHp_at (P : Program) (q : Nat → Option Nat) (hp : Hp) : ∀ (l : List Nat), (∀ id ∈ l, id < hp.length) → (subHp P q hp l).length = l.length ∧ ∀ (k id : Nat) (o : Ob), l[k]? = some id → hp[id]? = some o → (subHp P q hp l)[k]? = some (renOb P q o)
  | [], h => ⟨rfl, fun k id o h => by simp at h⟩
  | a :: l, h => by
    obtain ⟨h1, h2⟩ := subHp_at P q hp l fun id hid => h id (List.mem_cons_of_mem _ hid)
    have ha := h a List.mem_cons_self
    have : nth? hp a = some hp[a] := by rw [nth?_eq]; exact List.getElem?_eq_getElem ha
    simp only [subHp, this]
    refine ⟨by simp [h1], fun k id o hk ho => ?_⟩
    cases k with
    | zero =>
      simp at hk; subst hk
      rw [List.getElem?_eq_getElem ha] at ho
      rw [← Option.some.inj ho]; rfl
    | succ k =>
      rw [List.getElem?_cons_succ] at hk ⊢
      exact h2 k id o hk ho

section
variable {S : Nat → Nat → Prop} {w : World} {hp : Hp} {φ : List Pl} {P : Program} {base : Nat}

/-- Where some of the objects lie. -/
def subPl (φ : List Pl) (ids : List Nat) : List Pl := ids.map fun id => (φ[id]?).getD (.blk 0)
theorem subPl_at {ids : List Nat} (hin : ∀ id ∈ ids, id < φ.length) {k id : Nat} (h : ids[k]? = some id) : (subPl φ ids)[k]? = φ[id]? := by
  have hlt := hin id (List.mem_of_getElem? h)
  simp only [subPl, List.getElem?_map, h, Option.map_some, List.getElem?_eq_getElem hlt, Option.getD_some]
theorem subPl_block {ids : List Nat} (hin : ∀ id ∈ ids, id < φ.length) {k b : Nat} (h : blockAt (subPl φ ids) k = some b) : ∃ id, ids[k]? = some id ∧ blockAt φ id = some b := by
  cases hk : ids[k]? with
  | none =>
    have : (subPl φ ids)[k]? = none := by simp [subPl, List.getElem?_map, hk]
    simp [blockAt, this] at h
  | some id =>
    refine ⟨id, rfl, ?_⟩
    unfold blockAt at h ⊢
    rw [subPl_at hin hk] at h; exact h

theorem sub_ren {ids : List Nat} (hs : Sim P base S w hp φ) (hin : ∀ id ∈ ids, id < hp.length) : RenOk hp φ (subHp P (findN ids 0) hp ids) (subPl φ ids) (findN ids 0) := by
  refine ⟨fun id k hk => subPl_at (by rw [hs.len]; exact hin) (findN_at hk), fun id k o hk ho hne => ?_⟩
  rw [nth?_eq] at ho ⊢
  rw [(subHp_at P (findN ids 0) hp ids hin).2 k id o (findN_at hk) ho]
  cases o with
  | var t cs => exact absurd rfl (hne t cs)
  | _ => rfl
theorem Sim.sub (hs : Sim P base S w hp φ) {ids : List Nat} (hnd : ids.Nodup) (hin : ∀ id ∈ ids, id < hp.length) : Sim P base S w (subHp P (findN ids 0) hp ids) (subPl φ ids) := by
  have hin' : ∀ id ∈ ids, id < φ.length := by rw [hs.len]; exact hin
  have hsub := subHp_at P (findN ids 0) hp ids hin
  refine ⟨by rw [hsub.1]; simp [subPl], hs.low, hs.cell, fun k o ho => ?_, fun i j b hi hj => ?_⟩
  · have hlt := nth?_lt ho
    rw [hsub.1] at hlt
    have hk := List.getElem?_eq_getElem hlt
    have hid := hin _ (List.getElem_mem hlt)
    have ho2 := List.getElem?_eq_getElem hid
    rw [hsub.2 k _ _ hk ho2] at ho
    rw [← Option.some.inj ho]
    exact (hs.obj _ _ ho2).ren (sub_ren hs hin) (subPl_at hin' hk)
  · obtain ⟨a, ha1, ha2⟩ := subPl_block hin' hi
    obtain ⟨c, hc1, hc2⟩ := subPl_block hin' hj
    have := hs.apart a c b ha2 hc2
    subst this
    exact nodup_at hnd ha1 hc1

theorem Sim.back (hs : Sim P base S w hp φ) {ids : List Nat} (hnd : ids.Nodup) (hin : ∀ id ∈ ids, id < hp.length) {S' : Nat → Nat → Prop} {w' : World} {hpn : Hp} {φn : List Pl} (h2 : Sim P base S' w' hpn φn) (h3 : Trans base S w (subHp P (findN ids 0) hp ids) (subPl φ ids) S' w' hpn φn) (hl : hpn.length = ids.length) :
    ∃ φ', Sim P base S' w' (backHp P ids ids hpn hp) φ' ∧ Trans base S w hp φ S' w' (backHp P ids ids hpn hp) φ' ∧ RenOk hpn φn (backHp P ids ids hpn hp) φ' (nth? ids) := by
  have hin' : ∀ id ∈ ids, id < φ.length := by rw [hs.len]; exact hin
  have hsub := subHp_at P (findN ids 0) hp ids hin
  rw [backHp_eq]
  have hφl : ids.length = φn.length := by rw [h2.len, hl]
  have hpin : ∀ k j, ids[k]? = some j → (backL ids (hpn.map (renOb P (nth? ids))) hp)[j]? = (hpn[k]?).map (renOb P (nth? ids)) := fun k j h => by
    rw [backL_in ids _ hp k j hnd hin (by simp [hl]) h, List.getElem?_map]
  have hpout : ∀ j, j ∉ ids → (backL ids (hpn.map (renOb P (nth? ids))) hp)[j]? = hp[j]? := fun j h => backL_out ids _ hp j h
  have plin : ∀ k j, ids[k]? = some j → (backL ids φn φ)[j]? = φn[k]? := fun k j h => backL_in ids φn φ k j hnd hin' hφl h
  have plout : ∀ j, j ∉ ids → (backL ids φn φ)[j]? = φ[j]? := fun j h => backL_out ids φn φ j h
  have hren : RenOk hpn φn (backL ids (hpn.map (renOb P (nth? ids))) hp) (backL ids φn φ) (nth? ids) := by
    refine ⟨fun k j h => ?_, fun k j o h ho hne => ?_⟩
    · rw [nth?_eq] at h; exact plin k j h
    · rw [nth?_eq] at h ho ⊢
      rw [hpin k j h, ho]
      cases o with
      | var t cs => exact absurd rfl (hne t cs)
      | _ => rfl
  have hblk : ∀ j b, blockAt (backL ids φn φ) j = some b → (∃ k, ids[k]? = some j ∧ blockAt φn k = some b) ∨ (j ∉ ids ∧ blockAt φ j = some b) := by
    intro j b h
    by_cases hj : j ∈ ids
    · obtain ⟨k, hk⟩ := List.getElem?_of_mem hj
      refine .inl ⟨k, hk, ?_⟩
      unfold blockAt at h ⊢; rw [plin k j hk] at h; exact h
    · refine .inr ⟨hj, ?_⟩
      unfold blockAt at h ⊢; rw [plout j hj] at h; exact h
  have hmine : ∀ b, Mine w (subPl φ ids) b → Mine w φ b := fun b h => h.elim (fun ⟨k, hk⟩ => let ⟨id, _, h⟩ := subPl_block hin' hk; .inl ⟨id, h⟩) .inr
  -- the blocks of the other objects are as they were
  have hnot : ∀ j b, j ∉ ids → blockAt φ j = some b → ¬ Mine w (subPl φ ids) b := by
    rintro j b hj hb (⟨k, hk⟩ | h)
    · obtain ⟨id, h1, h4⟩ := subPl_block hin' hk
      have := hs.apart j id b hb h4
      subst this
      exact hj (List.mem_of_getElem? h1)
    · have := (hs.block_lt hb).2; omega
  have hold : ∀ j b, j ∉ ids → blockAt φ j = some b → w'.heap[b]? = w.heap[b]? ∧ ∀ o, S' b o ↔ S b o := fun j b hj hb => by
    have hn := hnot j b hj hb
    exact ⟨h3.keep b hn, fun o => ⟨fun h => (h3.mine b o h).elim (fun h => h) fun h => absurd h hn, fun h => (h3.s b o h).1⟩⟩
  have hE : HpExt hp φ (backL ids (hpn.map (renOb P (nth? ids))) hp) (backL ids φn φ) := by
    refine ⟨fun id b hb => ?_, fun id size els he => ?_, fun id e size els he => ?_, fun id ver e size els he => ?_⟩
    · by_cases hid : id ∈ ids
      · obtain ⟨k, hk⟩ := List.getElem?_of_mem hid
        rw [plin k id hk]
        exact h3.hp.blk k b ((subPl_at hin' hk).trans hb)
      · rw [plout id hid]; exact hb
    · rw [nth?_eq] at he
      simp only [nth?_eq]
      by_cases hid : id ∈ ids
      · obtain ⟨k, hk⟩ := List.getElem?_of_mem hid
        obtain ⟨els', e1, e2⟩ := h3.hp.arr k size els (by rw [nth?_eq, hsub.2 k id _ hk he]; rfl)
        rw [nth?_eq] at e1
        exact ⟨els', by rw [hpin k id hk, e1]; rfl, e2⟩
      · exact ⟨els, by rw [hpout id hid]; exact he, rfl⟩
    · rw [nth?_eq] at he
      simp only [nth?_eq]
      by_cases hid : id ∈ ids
      · obtain ⟨k, hk⟩ := List.getElem?_of_mem hid
        obtain ⟨more, e1, e2⟩ := h3.hp.row k e size els (by rw [nth?_eq, hsub.2 k id _ hk he]; rfl)
        rw [nth?_eq] at e1
        exact ⟨more, by rw [hpin k id hk, e1]; rfl, fun hm v hv => (plin k id hk).trans (e2 hm v ((subPl_at hin' hk).trans hv))⟩
      · exact ⟨[], by rw [hpout id hid, List.append_nil]; exact he, fun _ v hv => (plout id hid).trans hv⟩
    · rw [nth?_eq] at he
      simp only [nth?_eq]
      by_cases hid : id ∈ ids
      · obtain ⟨k, hk⟩ := List.getElem?_of_mem hid
        obtain ⟨ver', els', e1, e2, e3⟩ := h3.hp.stk k ver e size els (by rw [nth?_eq, hsub.2 k id _ hk he]; rfl)
        rw [nth?_eq] at e1
        exact ⟨ver', els', by rw [hpin k id hk, e1]; rfl, e2, fun hv => ⟨(e3 hv).1, (plin k id hk).trans ((e3 hv).2.trans (subPl_at hin' hk))⟩⟩
      · exact ⟨ver, els, by rw [hpout id hid]; exact he, Nat.le_refl _, fun _ => ⟨rfl, plout id hid⟩⟩
  refine ⟨backL ids φn φ, ⟨by rw [backL_len, backL_len]; exact hs.len, h2.low, h2.cell, fun j o ho => ?_, fun i j b hi hj => ?_⟩, ⟨h3.s, hE, h3.below, h3.new, fun b o h => (h3.mine b o h).elim .inl fun h => .inr (hmine b h), fun i b h => ?_, fun b h => h3.keep b fun h' => h (hmine b h')⟩, hren⟩
  · by_cases hj : j ∈ ids
    · obtain ⟨k, hk⟩ := List.getElem?_of_mem hj
      rw [hpin k j hk] at ho
      cases hq : hpn[k]? with
      | none => rw [hq] at ho; cases ho
      | some o' =>
        rw [hq] at ho
        rw [← Option.some.inj ho]
        exact (h2.obj k o' hq).ren hren (plin k j hk)
    · rw [hpout j hj] at ho
      exact (hs.obj j o ho).keep h3.s hE (plout j hj) fun b hb => hold j b hj hb
  · rcases hblk i b hi with ⟨k, i1, i2⟩ | ⟨i1, i2⟩ <;> rcases hblk j b hj with ⟨m, j1, j2⟩ | ⟨j1, j2⟩
    · have := h2.apart k m b i2 j2
      subst this
      rw [i1] at j1; exact Option.some.inj j1
    · exact absurd (h3.fr k b i2) (hnot j b j1 j2)
    · exact absurd (h3.fr m b j2) (hnot i b i1 i2)
    · exact hs.apart i j b i2 j2
  · rcases hblk i b h with ⟨k, _, i2⟩ | ⟨_, i2⟩
    · exact hmine b (h3.fr k b i2)
    · exact .inl ⟨i, i2⟩
variable {e : Operand → Value} {o : Oper} {tm : Tm} {ρ : Type} {r : ρ}
theorem run_loadCells_eq {ad : Addr} {cs : List Value} {n : Nat} (hn : cs.length = n) (h : ∀ j v, cs[j]? = some v → w.cell? (ad.add j) = some v) : (loadCells ad n).run P w = .ok cs.toArray w := by subst hn; exact run_loadCells_list (P := P) w ad cs h
theorem push_bs : ∀ (ns : List Int) (s : List UInt8), ns.foldl (fun (r : ByteArray) (n : Int) => r.push (UInt8.ofNat n.toNat)) (bs s) = bs (s ++ ns.map fun n => UInt8.ofNat n.toNat)
  | [], s => by simp
  | n :: ns, s => by
    have h1 : (bs s).push (UInt8.ofNat n.toNat) = bs (s ++ [UInt8.ofNat n.toNat]) := by
      apply ByteArray.ext
      apply Array.ext'
      simp [bs, ByteArray.push]
    rw [List.foldl_cons, h1, push_bs ns, List.map_cons, List.append_assoc]; rfl
theorem bytes_all {els : List (List AV)} {vss : List (List Value)} (h : Repss S w els vss) (hb : els.all isByte = true) : ∃ ns : List Int, vss.flatten = ns.map (Value.int .u8) ∧ els.map byteOf = ns.map (fun n => UInt8.ofNat n.toNat) := by
  induction els generalizing vss with
  | nil => cases h; exact ⟨[], rfl, rfl⟩
  | cons el l ih =>
    cases h with
    | cons _ vs _ vss h h1 t =>
      simp only [List.all_cons, Bool.and_eq_true] at hb
      obtain ⟨ns, e1, e2⟩ := ih t hb.2
      match el, hb.1, h with
      | [.int .u8 n], _, h =>
        cases h with
        | cons _ _ _ v _ vs ha ht =>
          cases ht
          obtain ⟨rfl, _⟩ := ha.int_inv
          exact ⟨n :: ns, by simp [e1], by simp [byteOf, e2]⟩
theorem gives_toStr (hs : Sim P base S w hp φ) (ht : ∀ x, Rep S w hp φ (ev tm x) (e x)) {s t et : TypeId} {x : Operand} (ho : o.op = .convert s t x) (hu : P.underlying t = some .string) (hsu : P.underlying s = some (.slice et)) (he : P.underlying et = some (.int .u8)) {els : List (List AV)} (hx : elsOf hp 1 (ev tm x) = some els) (hb : els.all isByte = true) (hl : els.length ≤ 140737488355328) : Gives P S w hp φ e o (.str (els.map byteOf)) := by
  obtain ⟨ad, c, vss, hxe, hr, hlen, hcell, hnone⟩ := src_of hs (ht x) hx
  obtain ⟨ns, e1, e2⟩ := bytes_all hr hb
  refine ⟨.string (bs (els.map byteOf)), ?_, .str _ _ _ (by rw [List.length_map]; unfold maxLen; omega)⟩
  have hfl : vss.flatten.length = els.length := by rw [flatten_len hlen, ← hr.length, Nat.mul_one]
  have hconv : (convert s t (e x)).run P w = .ok (.string (bs (els.map byteOf))) w := by
    rw [hxe, run_convert_bytes_string w s t et ad els.length c hsu he hu]
    cases ad with
    | none =>
      obtain ⟨e3, _⟩ := hnone rfl
      subst e3
      rfl
    | some a =>
      have hload := run_loadCells_eq (P := P) (w := w) (ad := a) hfl fun j u hj => by
        obtain ⟨a', e4, e5⟩ := hcell j u hj
        cases e4; exact e5
      rw [e1] at hload
      rw [run_bytesToString w a els.length c ns hload, e2]
      have := push_bs ns []
      rw [List.nil_append] at this
      rw [← this]; rfl
  simp only [execOp, ho, Sem.run_bind, Sem.run_pure, Result.andThen_ok, hconv]
theorem gives_rune (ht : ∀ x, Rep S w hp φ (ev tm x) (e x)) {s t : TypeId} {x : Operand} (ho : o.op = .convert s t x) (hu : P.underlying t = some .string) {k k' : IntKind} (hsu : P.underlying s = some (.int k)) {n : Int} (hx : ev tm x = .int k' n) (h0 : 0 ≤ n) (h1 : n < 128) : Gives P S w hp φ e o (.str [UInt8.ofNat n.toNat]) := by
  have h := ht x
  rw [hx] at h
  obtain ⟨he, _⟩ := h.int_inv
  refine ⟨.string (bs [UInt8.ofNat n.toNat]), ?_, .str _ _ _ (by unfold maxLen; simp)⟩
  have henc : Utf8.encode n = bs [UInt8.ofNat n.toNat] := by
    have hv : Utf8.valid n = true := by simp [Utf8.valid]; omega
    have hlt : n.toNat < 128 := by omega
    simp [Utf8.encode, hv, hlt, bs]
  simp only [execOp, ho, he, convert, Sem.run_bind, Sem.run_pure, Result.andThen_ok, run_underlying hu, run_underlying hsu, Conv.intToString, henc]

theorem flatten_drop {α : Type} {vss : List (List α)} {size : Nat} (h : ∀ vs ∈ vss, vs.length = size) (k : Nat) : (vss.drop k).flatten = vss.flatten.drop (k * size) := by
  induction vss generalizing k with
  | nil => simp
  | cons a t ih =>
    cases k with
    | zero => simp
    | succ k =>
      have ha := h a (by simp)
      rw [List.drop_succ_cons, List.flatten_cons, ih (fun vs hv => h vs (by simp [hv])), show (k + 1) * size = a.length + k * size by rw [ha, Nat.succ_mul]; omega, List.drop_append, show List.drop (a.length + k * size) a = [] from List.drop_of_length_le (by omega), List.nil_append, Nat.add_sub_cancel_left]
theorem flatten_splice {α : Type} {vss nvss : List (List α)} {size : Nat} (h : ∀ vs ∈ vss, vs.length = size) (hn : ∀ vs ∈ nvss, vs.length = size) (off k : Nat) :
    vss.flatten.take (off * size) ++ nvss.flatten.take (k * size) ++ vss.flatten.drop (off * size + k * size) = (vss.take off ++ (nvss.take k ++ vss.drop (off + k))).flatten := by
  rw [List.flatten_append, List.flatten_append, flatten_take h, flatten_take hn, ← Nat.add_mul, flatten_drop h, List.append_assoc]
theorem acts_copy (hs : Sim P base S w hp φ) (ht : ∀ x, Rep S w hp φ (ev tm x) (e x)) {t t' et : TypeId} {d x : Operand} (ho : o.op = .call { callee := .builtin .copy, args := #[d, x], argTypes := #[t, t'] }) (hu : P.underlying t = some (.slice et)) {id off n size : Nat} (hd : ev tm d = .own id off n) {els : List (List AV)} (hob : nth? hp id = some (.arr size els)) (hsz : size = P.cellsOf et) (hz : 0 < size)
    {news : List (List AV)} (hx : elsOf hp size (ev tm x) = some news) (hle : off + n ≤ els.length) :
    Acts P base S w hp φ e o (.int .i64 ((Nat.min news.length n : Nat) : Int)) (setNth hp id (.arr size (els.take off ++ (news.take n ++ els.drop (off + Nat.min news.length n))))) := by
  have hdd := ht d
  rw [hd] at hdd
  obtain ⟨b, size', els', cap, ad, hb, hob', hle', had, hcp, hde⟩ := hdd.own_inv
  rw [hob] at hob'; cases hob'
  obtain ⟨ad2, c, nvss, hxe, hnr, hnl, hncell, hnone⟩ := src_of hs (ht x) hx
  have hid : hp[id]? = some (.arr size els) := by rw [← nth?_eq]; exact hob
  obtain ⟨b', vss, ex, E, g1, g2, g3, g4, g5, g6⟩ := hs.obj id _ hid
  rw [hb] at g1; cases g1
  obtain ⟨k, hk⟩ : ∃ k, Nat.min news.length n = k := ⟨_, rfl⟩
  rw [hk]
  have hk1 : k ≤ news.length := by rw [← hk]; exact Nat.min_le_left _ _
  have hk2 : k ≤ n := by rw [← hk]; exact Nat.min_le_right _ _
  have hlv := g4.length
  have hln := hnr.length
  have hfl := flatten_len g5
  have hnfl := flatten_len hnl
  have hszr := run_sizeOf (P := P) (w := w) (t := et) (by omega)
  rw [← hsz] at hszr
  have hcsl : (nvss.flatten.take (k * size)).length = k * size := by
    rw [List.length_take, hnfl, ← hln]; exact Nat.min_eq_left (Nat.mul_le_mul_right _ hk1)
  have hfirst : (Builtin.firstCells size k (.slice ad2 news.length c)).run P w = .ok (nvss.flatten.take (k * size)).toArray w := by
    cases ad2 with
    | none =>
      obtain ⟨e1, _⟩ := hnone rfl
      subst e1
      have : nvss = [] := List.eq_nil_of_length_eq_zero (by simpa using hln.symm)
      subst this
      rw [run_firstCells_none w]; simp
    | some a =>
      refine run_firstCells_some w size k a _ _ _ hcsl fun j v hj => ?_
      rw [List.getElem?_take] at hj
      split at hj
      · obtain ⟨a', e1, e2⟩ := hncell j v hj
        cases e1; exact e2
      · cases hj
  have hk' : min news.length n = k := hk
  have hnews : news.take n = news.take k := by
    rcases Nat.le_total news.length n with h | h
    · rw [List.take_of_length_le h, List.take_of_length_le (by rw [← hk', Nat.min_eq_left h]; exact Nat.le_refl _)]
    · rw [← hk', Nat.min_eq_right h]
  rw [hnews, setNth_eq]
  have hint : Rep S w hp φ (.int .i64 ((k : Nat) : Int)) (.int .i64 ((k : Nat) : Int)) := .int _ _ _ _ (wf_len (by have := hcp.1; have := hcp.2.1; omega))
  have hrun : ∀ w', (∀ a, ad = some a → (storeCells a (nvss.flatten.take (k * size))).run P w = .ok () w') → (ad = none → w' = w) → (execOp e o).run P w = .ok (.value (.int .i64 ((k : Nat) : Int))) w' := by
    intro w' h1 h2
    have hl : (Builtin.lenOf (e x)).run P w = .ok news.length w := by rw [hxe]; rfl
    rw [← hxe] at hfirst
    have hcopy : (Builtin.copy_ #[t, t'] o.type #[e d, e x]).run P w = .ok (.int .i64 ((k : Nat) : Int)) w' := by
      rw [hde]
      cases ad with
      | none =>
        rw [h2 rfl]
        simp [Builtin.copy_, Sem.run_bind, run_underlying hu, hl, hk, hszr, hfirst, goInt]
      | some a => simp [Builtin.copy_, Sem.run_bind, run_underlying hu, hl, hk, hszr, hfirst, goInt, h1 a rfl]
    simp only [execOp, ho, resolve, invoke, builtin, Sem.run_bind, Sem.run_pure, Result.andThen_ok, List.map_toArray, List.map_cons, List.map_nil, hcopy]
  rcases Nat.eq_zero_or_pos n with hn0 | hn0
  · -- nothing is written
    have hk0 : k = 0 := by omega
    subst hk0
    have hsame : els.take off ++ (news.take 0 ++ els.drop (off + 0)) = els := by simp
    have hset : hp.set id (.arr size els) = hp := by
      have hlt := nth?_lt hid
      rw [List.getElem?_eq_getElem hlt] at hid
      rw [← Option.some.inj hid]; exact List.set_getElem_self hlt
    rw [hsame, hset]
    exact ⟨_, S, φ, w, .inl (hrun w (fun a ha => by rw [Nat.zero_mul, List.take_zero]; rfl) fun _ => rfl), hint, hs, .refl _ _ _ _ _⟩
  · have hadd := had hn0
    have hat : blockAt φ id = some b := by simp [blockAt, hb]
    have hnew : (els.take off ++ (news.take k ++ els.drop (off + k))).length = els.length := by
      simp only [List.length_append, List.length_take, List.length_drop]; omega
    have hE := hpExt_arr hp φ (els' := els.take off ++ (news.take k ++ els.drop (off + k))) hid hnew
    have hoff : off * size + k * size ≤ vss.flatten.length := by
      rw [hfl, ← hlv, ← Nat.add_mul]; exact Nat.mul_le_mul_right _ (by omega)
    have hones : Ones (nvss.flatten.take (k * size)) := by
      intro u hu
      obtain ⟨vs, hvs, hu⟩ := List.mem_flatten.1 (List.mem_of_mem_take hu)
      obtain ⟨j, hj, rfl⟩ := List.getElem_of_mem hvs
      obtain ⟨el, hel⟩ : ∃ el, news[j]? = some el := ⟨_, List.getElem?_eq_getElem (by omega)⟩
      obtain ⟨vs', e1, e2, e3⟩ := hnr.get hel
      rw [List.getElem?_eq_getElem hj] at e1; cases e1
      exact e3 u hu
    have hst := run_storeCells_at P b (off * size) E (nvss.flatten.take (k * size)) 0 (vss.flatten ++ ex).toArray w g3 (by simp only [hcsl, List.size_toArray, List.length_append]; omega) hones
    have hcs : ((vss.flatten ++ ex).toArray.toList.take (off * size + 0) ++ nvss.flatten.take (k * size) ++ (vss.flatten ++ ex).toArray.toList.drop (off * size + 0 + (nvss.flatten.take (k * size)).length)) = (vss.take off ++ (nvss.take k ++ vss.drop (off + k))).flatten ++ ex := by
      simp only [Nat.add_zero, hcsl]
      rw [← flatten_splice g5 hnl, List.take_append_of_le_length (by omega), List.drop_append_of_le_length hoff]
      simp [List.append_assoc]
    rw [hcs] at hst
    have hS : SExt S w S (w.setRow b ((vss.take off ++ (nvss.take k ++ vss.drop (off + k))).flatten ++ ex).toArray) := fun b' o' hb' => ⟨hb', cell_setRow_other w b _ ⟨b', o', none⟩ fun e1 => by
      have e1 : b' = b := e1
      subst e1; exact g6 o' hb'⟩
    obtain ⟨s1, s2⟩ := hs.write hat g6 ((vss.take off ++ (nvss.take k ++ vss.drop (off + k))).flatten ++ ex).toArray hE (nth?_lt hid) ⟨b, vss.take off ++ (nvss.take k ++ vss.drop (off + k)), ex, E, hb, g2, setRow_heap w b _ _ E (0, 0) g3, Repss.mono hS ((g4.take off).append ((hnr.take k).append (g4.drop (off + k)))), fun vs hv => by
      rcases List.mem_append.1 hv with hv | hv
      · exact g5 vs (List.mem_of_mem_take hv)
      · rcases List.mem_append.1 hv with hv | hv
        · exact hnl vs (List.mem_of_mem_take hv)
        · exact g5 vs (List.mem_of_mem_drop hv), g6⟩
    exact ⟨_, S, φ, _, .inl (hrun _ (fun a ha => by rw [hadd] at ha; cases ha; exact hst) fun ha => by rw [hadd] at ha; cases ha), .int _ _ _ _ (by obtain ⟨_, h⟩ := hint.int_inv; exact h), s1, s2⟩
end
end Go.Proofs.Ytjobghbdfannfaa
end

section
namespace Go.Proofs.Ytjobghbdfannfaa
open Go.RowKit
set_option linter.unusedVariables false
set_option linter.unusedSimpArgs false

section
variable {P : Program}

/-- Cells whose nil slices have become rows with numbers from a to b. -/
def Upped (a b : Nat) (l l' : List AV) : Prop := l'.length = l.length ∧ ∀ (i : Nat) (x : AV), l'[i]? = some x → l[i]? = some x ∨ (l[i]? = some AV.nils ∧ ∃ id, x = AV.row id 0 ∧ a ≤ id ∧ id < b)
theorem Upped.cons {a b : Nat} {l l' : List AV} {x y : AV} (h : Upped a b l l') (hx : y = x ∨ (x = .nils ∧ ∃ id, y = .row id 0 ∧ a ≤ id ∧ id < b)) : Upped a b (x :: l) (y :: l') := by
  refine ⟨by simp [h.1], fun i z hz => ?_⟩
  cases i with
  | zero =>
    simp at hz; subst hz
    rcases hx with rfl | ⟨rfl, h⟩
    · exact .inl rfl
    · exact .inr ⟨rfl, h⟩
  | succ i => simpa using h.2 i z (by simpa using hz)
theorem Upped.mono {a b a' b' : Nat} {l l' : List AV} (h : Upped a b l l') (ha : a' ≤ a) (hb : b ≤ b') : Upped a' b' l l' :=
  ⟨h.1, fun i x hx => (h.2 i x hx).imp id fun ⟨e, id, e1, e2, e3⟩ => ⟨e, id, e1, by omega, by omega⟩⟩
theorem Upped.refl (a b : Nat) (l : List AV) : Upped a b l l := ⟨rfl, fun i x h => .inl h⟩

def NilRows (P : Program) (l : List Ob) : Prop := ∀ o ∈ l, ∃ e, o = .row e (P.cellsOf e) [] ∧ 0 < P.cellsOf e

theorem upsCells_spec : ∀ (ts : List TypeId) (l : List AV) (n : Nat), Upped n (n + (upsCells P n ts l).2.length) l (upsCells P n ts l).1 ∧ NilRows P (upsCells P n ts l).2 := by
  intro ts
  induction ts with
  | nil => intro l n; cases l <;> exact ⟨.refl _ _ _, fun o h => by simp [upsCells] at h⟩
  | cons t ts ih =>
    intro l n
    cases l with
    | nil => exact ⟨.refl _ _ _, fun o h => by simp [upsCells] at h⟩
    | cons x l =>
      have other : (∀ y, x = y → upsCells P n (t :: ts) (x :: l) = (x :: (upsCells P n ts l).1, (upsCells P n ts l).2)) → Upped n (n + (upsCells P n (t :: ts) (x :: l)).2.length) (x :: l) (upsCells P n (t :: ts) (x :: l)).1 ∧ NilRows P (upsCells P n (t :: ts) (x :: l)).2 := fun h => by
        rw [h x rfl]
        exact ⟨(ih l n).1.cons (.inl rfl), (ih l n).2⟩
      cases x <;> first | exact other (fun _ _ => rfl) | skip
      cases he : elemOf P t with
      | none => exact other fun _ _ => by simp only [upsCells, he]
      | some e =>
        cases hz : decide (0 < P.cellsOf e) with
        | false => exact other fun _ _ => by simp only [upsCells, he, hz]
        | true =>
          have heq : upsCells P n (t :: ts) (.nils :: l) = (.row n 0 :: (upsCells P (n + 1) ts l).1, .row e (P.cellsOf e) [] :: (upsCells P (n + 1) ts l).2) := by simp only [upsCells, he, hz]
          rw [heq]
          obtain ⟨h1, h2⟩ := ih l (n + 1)
          refine ⟨(h1.mono (by omega) (by simp only [List.length_cons]; omega)).cons (.inr ⟨rfl, n, rfl, Nat.le_refl _, by simp only [List.length_cons]; omega⟩), fun o ho => ?_⟩
          rcases List.mem_cons.1 ho with rfl | ho
          · exact ⟨e, rfl, of_decide_eq_true hz⟩
          · exact h2 o ho

def UppedOb (a b : Nat) : Ob → Ob → Prop
  | .var t cs, o => ∃ cs', o = .var t cs' ∧ Upped a b cs cs'
  | o, o' => o' = o
theorem UppedOb.mono {a b a' b' : Nat} {o o' : Ob} (h : UppedOb a b o o') (ha : a' ≤ a) (hb : b ≤ b') : UppedOb a' b' o o' := by
  cases o with
  | var t cs => obtain ⟨cs', h1, h2⟩ := h; exact ⟨cs', h1, h2.mono ha hb⟩
  | row _ _ _ => exact h
  | arr _ _ => exact h
  | stk _ _ _ _ => exact h
theorem upsObs_spec : ∀ (l : List Ob) (n : Nat), (upsObs P n l).1.length = l.length ∧ (∀ (i : Nat) o', (upsObs P n l).1[i]? = some o' → ∃ o, l[i]? = some o ∧ UppedOb n (n + (upsObs P n l).2.length) o o') ∧ NilRows P (upsObs P n l).2 := by
  intro l
  induction l with
  | nil => intro n; exact ⟨rfl, fun i o h => by simp [upsObs] at h, fun o h => by simp [upsObs] at h⟩
  | cons o l ih =>
    intro n
    have other : upsObs P n (o :: l) = (o :: (upsObs P n l).1, (upsObs P n l).2) → UppedOb n (n + (upsObs P n (o :: l)).2.length) o o → (upsObs P n (o :: l)).1.length = (o :: l).length ∧ (∀ (i : Nat) o', (upsObs P n (o :: l)).1[i]? = some o' → ∃ q, (o :: l)[i]? = some q ∧ UppedOb n (n + (upsObs P n (o :: l)).2.length) q o') ∧ NilRows P (upsObs P n (o :: l)).2 := fun h hu => by
      rw [h] at hu ⊢
      obtain ⟨h1, h2, h3⟩ := ih n
      refine ⟨by simp [h1], fun i o' ho => ?_, h3⟩
      cases i with
      | zero => simp at ho; subst ho; exact ⟨_, rfl, hu⟩
      | succ i => exact h2 i o' (by simpa using ho)
    cases o with
    | row _ _ _ => exact other rfl rfl
    | arr _ _ => exact other rfl rfl
    | stk _ _ _ _ => exact other rfl rfl
    | var t cs =>
      obtain ⟨c1, c2⟩ := upsCells_spec (P := P) (cellTys P 6 t) cs n
      obtain ⟨h1, h2, h3⟩ := ih (n + (upsCells P n (cellTys P 6 t) cs).2.length)
      refine ⟨by simp [upsObs, h1], fun i o' ho => ?_, fun o ho => ?_⟩
      · cases i with
        | zero =>
          simp [upsObs] at ho; subst ho
          exact ⟨_, rfl, _, rfl, c1.mono (Nat.le_refl _) (by simp [upsObs])⟩
        | succ i =>
          obtain ⟨q, e1, e2⟩ := h2 i o' (by simpa [upsObs] using ho)
          exact ⟨q, e1, e2.mono (by omega) (by simp [upsObs]; omega)⟩
      · simp only [upsObs] at ho
        rcases List.mem_append.1 ho with ho | ho
        · exact c2 o ho
        · exact h3 o ho

theorem ups_sound {base : Nat} {S : Nat → Nat → Prop} {w : World} {hp : Hp} {φ : List Pl} (b : Bool) (hs : Sim P base S w hp φ) : ∃ φ', Sim P base S w (upsHp P b hp) φ' ∧ Trans base S w hp φ S w (upsHp P b hp) φ' := by
  cases b with
  | false => exact ⟨φ, hs, .refl _ _ _ _ _⟩
  | true =>
    obtain ⟨h1, h2, h3⟩ := upsObs_spec (P := P) hp hp.length
    simp only [upsHp]
    generalize (upsObs P hp.length hp).1 = L1 at *
    generalize (upsObs P hp.length hp).2 = L2 at *
    refine ⟨φ ++ L2.map fun _ => .sv (.slice none 0 0), ?_⟩
    have hφl := hs.len
    have old : ∀ id o', id < hp.length → (L1 ++ L2)[id]? = some o' → ∃ o, hp[id]? = some o ∧ UppedOb hp.length (hp.length + L2.length) o o' := fun id o' hid ho => by
      rw [List.getElem?_append_left (by omega)] at ho
      exact h2 id o' ho
    have new : ∀ id, hp.length ≤ id → id < hp.length + L2.length → ∃ e, (L1 ++ L2)[id]? = some (.row e (P.cellsOf e) []) ∧ 0 < P.cellsOf e ∧ (φ ++ L2.map fun _ => Pl.sv (.slice none 0 0))[id]? = some (.sv (.slice none 0 0)) := fun id i1 i2 => by
      have hlt : id - hp.length < L2.length := by omega
      obtain ⟨e, e1, e2⟩ := h3 L2[id - hp.length] (List.getElem_mem hlt)
      refine ⟨e, ?_, e2, ?_⟩
      · rw [List.getElem?_append_right (by omega), h1, List.getElem?_eq_getElem hlt, e1]
      · rw [List.getElem?_append_right (by omega), hφl, List.getElem?_map, List.getElem?_eq_getElem hlt]; rfl
    have hφold : ∀ id, id < hp.length → (φ ++ L2.map fun _ => Pl.sv (.slice none 0 0))[id]? = φ[id]? := fun id hid => List.getElem?_append_left (by omega)
    have same : ∀ id o, hp[id]? = some o → (∀ t cs, o ≠ Ob.var t cs) → (L1 ++ L2)[id]? = some o := fun id o ho hne => by
      have hid := nth?_lt ho
      obtain ⟨o', ho'⟩ : ∃ o', (L1 ++ L2)[id]? = some o' := ⟨_, List.getElem?_eq_getElem (by simp; omega)⟩
      obtain ⟨q, e1, e2⟩ := old id o' hid ho'
      rw [ho] at e1; cases e1
      cases o with
      | var t cs => exact absurd rfl (hne t cs)
      | row _ _ _ => rw [ho', show o' = _ from e2]
      | arr _ _ => rw [ho', show o' = _ from e2]
      | stk _ _ _ _ => rw [ho', show o' = _ from e2]
    have hE : HpExt hp φ (L1 ++ L2) (φ ++ L2.map fun _ => .sv (.slice none 0 0)) := by
      refine ⟨fun id b h => ?_, fun id size els h => ⟨els, ?_, rfl⟩, fun id e size els h => ⟨[], ?_, fun _ v hv => ?_⟩, fun id ver e size els h => ⟨ver, els, ?_, Nat.le_refl _, fun _ => ⟨rfl, ?_⟩⟩⟩
      · rw [hφold id (by have := nth?_lt h; omega)]; exact h
      · rw [nth?_eq] at h ⊢; exact same id _ h (fun _ _ e => by cases e)
      · rw [nth?_eq] at h ⊢; rw [List.append_nil]; exact same id _ h (fun _ _ e => by cases e)
      · rw [hφold id (by have := nth?_lt hv; omega)]; exact hv
      · rw [nth?_eq] at h ⊢; exact same id _ h (fun _ _ e => by cases e)
      · rw [nth?_eq] at h; exact hφold id (by have := nth?_lt h; omega)
    have hat : ∀ i b, blockAt (φ ++ L2.map fun _ => Pl.sv (.slice none 0 0)) i = some b → blockAt φ i = some b := by
      intro i b h
      unfold blockAt at h ⊢
      rcases Nat.lt_or_ge i hp.length with hi | hi
      · rw [hφold i hi] at h; exact h
      · rw [List.getElem?_append_right (by omega), List.getElem?_map] at h
        cases hL : L2[i - φ.length]? with
        | none => rw [hL] at h; simp at h
        | some q => rw [hL] at h; simp [Value.ownBlock] at h
    refine ⟨⟨by simp [hφl, h1], hs.low, hs.cell, fun id o' ho => ?_, fun i j b hi hj => hs.apart i j b (hat i b hi) (hat j b hj)⟩, ⟨.refl _ _, hE, .refl _ _, fun _ _ h => .inl h, fun _ _ h => .inl h, fun i b h => .inl ⟨i, hat i b h⟩, fun _ _ => rfl⟩⟩
    rcases Nat.lt_or_ge id hp.length with hid | hid
    · obtain ⟨o, e1, e2⟩ := old id o' hid ho
      have hok := (hs.obj id o e1).keep (S' := S) (w' := w) (.refl _ _) hE (hφold id hid) fun b hb => ⟨rfl, fun _ => .rfl⟩
      cases o with
      | row _ _ _ => rw [show o' = _ from e2]; exact hok
      | arr _ _ => rw [show o' = _ from e2]; exact hok
      | stk _ _ _ _ => rw [show o' = _ from e2]; exact hok
      | var t cs =>
        obtain ⟨cs', rfl, hu⟩ := e2
        obtain ⟨b, vs, E, g1, g2, g3, g4, g5, g6⟩ := hok
        refine ⟨b, vs, E, g1, g2, g3, Reps.of (by rw [hu.1, g4.length]) (fun i x v hx hv => ?_), g5, g6⟩
        rcases hu.2 i x hx with hx' | ⟨hx', rid, rfl, r1, r2⟩
        · obtain ⟨v', e1, e2⟩ := g4.get' hx'
          rw [hv] at e1; cases e1
          exact e2
        · obtain ⟨v', e1, e2⟩ := g4.get' hx'
          rw [hv] at e1; cases e1
          have := e2.nils_inv
          subst this
          obtain ⟨e, n1, n2, n3⟩ := new rid r1 r2
          exact .row _ _ rid 0 _ e (P.cellsOf e) [] (by rw [nth?_eq]; exact n1) (Nat.le_refl _) (.sl _ _ _ [] [] none 0 .nil ⟨by simp, fun j vs t u hj => by simp at hj⟩ ⟨Nat.le_refl _, by unfold maxLen; omega, fun _ => rfl⟩) fun _ => n3
    · obtain ⟨e, n1, n2, n3⟩ := new id hid (by have := nth?_lt ho; simp at this; omega)
      rw [ho] at n1; cases n1
      exact ⟨.slice none 0 0, [], n3, World.ownsRow_nil w base e _, .nil, by simp, n2, rfl, fun g hg => by simp [Value.ownBlock] at hg⟩
end
end Go.Proofs.Ytjobghbdfannfaa
end

section
namespace Go.Proofs.Ytjobghbdfannfaa
open Go.RowKit
set_option linter.unusedVariables false
set_option linter.unusedSimpArgs false

/-- A call that is what the interpreter says. -/
def SoundCall (P : Program) (H : Hints) (call : CallT) : Prop := ∀ (st : Bool) (g : FuncId) (args : List AV) (hp : Hp) (v : AV) (hp' : Hp), call st g args hp = some (v, hp') → ∀ (base : Nat) (S : Nat → Nat → Prop) (w : World) (φ : List Pl) (vs : List Value), Sim P base S w hp φ → Reps S w hp φ args vs →
  Calls P g vs.toArray w fun e w' => ∃ u S' φ', e = .returned u ∧ Rep S' w' hp' φ' v u ∧ Sim P base S' w' hp' φ' ∧ Trans base S w hp φ S' w' hp' φ'

def GoodFn (P : Program) (g : FuncId) : Prop := ∃ fn, P.funcs[g]? = some fn ∧ (fn.name == "runtime.NumGoroutine") = false ∧ fn.body.isNone = false
def GoodH (P : Program) (H : Hints) : Prop := ∀ g, H.good.contains g = true → GoodFn P g

section
variable {S : Nat → Nat → Prop} {w : World} {hp : Hp} {φ : List Pl} {P : Program} {base : Nat} {e : Operand → Value} {o : Oper} {tm : Tm} {ρ : Type} {r : ρ} {K : AV → Option ρ}

theorem norm_rep {t : TypeId} {a : AV} {v : Value} (h : Rep S w hp φ a v) : Rep S w hp φ (norm P t a) v := by
  cases a <;> simp only [norm] <;> first | exact h | skip
  case nils => exact norm1_rep h
  case agg cs =>
    obtain ⟨vs, h1, h2, rfl⟩ := h.agg_inv
    exact .agg _ _ _ _ (norms_rep h1) h2
theorem normArgs_rep {ts : List TypeId} {l : List AV} {vs : List Value} (h : Reps S w hp φ l vs) : Reps S w hp φ (normArgs P ts l) vs := by
  induction ts generalizing l vs with
  | nil => cases l <;> exact h
  | cons t ts ih => cases l with
    | nil => exact h
    | cons a l => cases h with | cons _ _ _ v _ vs h t' => exact .cons _ _ _ _ _ _ (norm_rep h) (ih t')
theorem evs_rep (ht : ∀ x, Rep S w hp φ (ev tm x) (e x)) (l : List Operand) : Reps S w hp φ (l.map (ev tm)) (l.map e) := by
  induction l with
  | nil => exact .nil _ _
  | cons x l ih => exact .cons _ _ _ _ _ _ (ht x) ih

theorem pure_sound (hs : Sim P base S w hp φ) (ht : ∀ x, Rep S w hp φ (ev tm x) (e x)) {op : Op} (ho : o.op = op) (h : pureOp P tm hp op K = some r) : ∃ v, K v = some r ∧ Acts P base S w hp φ e o v hp := by
  have fin : (∃ v, K v = some r ∧ Gives P S w hp φ e o v) → ∃ v, K v = some r ∧ Acts P base S w hp φ e o v hp := fun ⟨v, h1, h2⟩ => ⟨v, h1, h2.acts hs⟩
  unfold pureOp at h
  split at h
  case h_1 x => exact fin ⟨_, h, gives_move ht (.inl ho)⟩
  case h_2 x => exact fin ⟨_, h, gives_move ht (.inr ho)⟩
  case h_3 c x y =>
    split at h
    · rename_i t hc
      refine fin ⟨_, ?_, gives_pick ht ho hc⟩
      cases t <;> exact h
    · cases h
  case h_4 op t x y t' => exact fin (gives_binop ht ho h)
  case h_5 t x =>
    split at h
    · rename_i b hc; exact fin ⟨_, h, gives_not ht ho hc⟩
    · cases h
  case h_6 t x =>
    split at h
    · rename_i k n hc; exact fin ⟨_, h, gives_neg ht ho hc⟩
    · cases h
  case h_7 s t x =>
    split at h
    · rename_i k hu
      split at h
      · rename_i hs'
        split at h
        · rename_i k' n hx; exact fin ⟨_, h, gives_convert ht ho hu hs' hx⟩
        · cases h
      · cases h
    · rename_i hu
      split at h
      · rename_i k hsu
        split at h
        · rename_i k' n hx
          by_cases hq : (decide (0 ≤ n) && decide (n < 128)) = true
          · rw [hq] at h
            simp only [Bool.and_eq_true, decide_eq_true_eq] at hq
            exact fin ⟨_, h, gives_rune ht ho hu hsu hx hq.1 hq.2⟩
          · rw [Bool.not_eq_true] at hq; rw [hq] at h; cases h
        · cases h
      · rename_i et hsu
        split at h
        · rename_i he
          split at h
          · rename_i els hx
            by_cases hq : (els.all isByte && decide (els.length ≤ 140737488355328)) = true
            · rw [hq] at h
              simp only [Bool.and_eq_true, decide_eq_true_eq] at hq
              exact fin ⟨_, h, gives_toStr hs ht ho hu hsu he hx hq.1 hq.2⟩
            · rw [Bool.not_eq_true] at hq; rw [hq] at h; cases h
          · cases h
        · cases h
      · cases h
    · cases h
  case h_8 x => exact fin (gives_nilCheck ht ho h)
  case h_9 t ps =>
    split at h
    · rename_i fs hu
      split at h
      · rename_i hall
        split at h
        · rename_i z hz
          split at h
          · rename_i cs hcs; exact fin ⟨_, h, gives_build ht ho hu hall hz hcs⟩
          · cases h
        · cases h
      · cases h
    · rename_i et hu
      split at h
      · rename_i hall
        split at h
        · rename_i z hz
          split at h
          · rename_i cs hcs; exact fin ⟨_, h, gives_buildA ht ho hu hall hz hcs⟩
          · cases h
        · cases h
      · cases h
    · cases h
  case h_10 t n ps =>
    split at h
    · rename_i et he
      split at h
      · rename_i hc
        simp only [Bool.and_eq_true, decide_eq_true_eq] at hc
        obtain ⟨rfl, hsz⟩ := hc
        split at h
        · rename_i z hz
          split at h
          · rename_i hc
            simp only [Bool.and_eq_true, decide_eq_true_eq] at hc
            obtain ⟨⟨h1, h2⟩, h3⟩ := hc
            split at h
            · rename_i els hels; exact ⟨_, h, (fresh_buildSlice hs ht ho (elem_of he) h3 hsz hz h1 h2 hels).stay hs⟩
            · cases h
          · cases h
        · cases h
      · cases h
    · cases h
  case h_11 t n c =>
    split at h
    · rename_i et he
      split at h
      · rename_i l hn
        split at h
        · rename_i l' hc
          split at h
          · rename_i z hz
            split at h
            · rename_i hb
              simp only [Bool.and_eq_true, decide_eq_true_eq] at hb
              cases hzc : closeL [] (norms P (cellTys P 6 et) z.cells) with
              | none => rw [hzc] at h; cases h
              | some zc =>
              rw [hzc] at h
              simp only at h
              by_cases hq : ((decide (0 ≤ l) && decide (l = l')) && decide (P.bytesOf et * l ≤ 140737488355328)) = true
              · rw [hq] at h
                simp only [Bool.and_eq_true, decide_eq_true_eq] at hq
                obtain ⟨⟨q1, rfl⟩, q3⟩ := hq
                exact ⟨_, h, (fresh_makeSlice hs ht ho (elem_of he) hn hc q1 q3 hz hb.1 hb.2 hzc).stay hs⟩
              · rw [Bool.not_eq_true] at hq; rw [hq] at h; cases h
            · cases h
          · cases h
        · cases h
      · cases h
    · cases h
  case h_12 t x => exact fin (gives_load hs ht ho h)
  case h_13 t x f =>
    split at h
    · rename_i p hp'
      split at h
      · rename_i hz; exact fin (gives_fieldAddr ht ho hp' (of_decide_eq_true hz) h)
      · cases h
    · cases h
  case h_14 t x f =>
    split at h
    · rename_i p hp'
      split at h
      · rename_i cs hx; exact fin (gives_field ht ho hp' hx h)
      · cases h
    · cases h
  case h_15 t x y =>
    split at h
    · rename_i k i hi; exact fin (gives_indexAddr hs ht ho hi h)
    · cases h
  case h_16 t x y =>
    split at h
    · rename_i k i hi
      split at h
      · rename_i hu
        split at h
        · rename_i s hx
          by_cases hq : (decide (0 ≤ i) && decide (i < s.length)) = true
          · rw [hq] at h
            simp only [Bool.and_eq_true, decide_eq_true_eq] at hq
            simp only [cond_true] at h
            split at h
            · rename_i b hb; exact fin ⟨_, h, gives_index ht ho hi hu hx hq.1 hb⟩
            · cases h
          · rw [Bool.not_eq_true] at hq; rw [hq] at h; cases h
        · cases h
      · rename_i n et hu
        split at h
        · rename_i cs hx; exact fin (gives_indexAgg ht ho hi hu hx h)
        · cases h
      · cases h
    · cases h
  case h_17 t x lo hi =>
    split at h
    · rename_i hu
      split at h
      · rename_i s hx; exact fin (gives_cutStr ht ho hu hx h)
      · cases h
    · rename_i et hu
      split at h
      · rename_i hz; exact fin (gives_cutS hs ht ho hu (of_decide_eq_true hz) h)
      · cases h
    · cases h
  case h_18 x k =>
    split at h
    · rename_i cs hx
      split at h
      · rename_i v hv; exact fin ⟨_, h, gives_extract ht ho hx hv⟩
      · cases h
    · cases h
  case h_19 f a b => exact fin ⟨_, h, gives_makeFunc ht ho⟩
  case h_20 c =>
    obtain ⟨cal, args, ats⟩ := c
    simp only at h
    split at h
    · split at h
      · rename_i x
        split at h
        · rename_i t
          split at h
          · rename_i hu
            split at h
            · rename_i s hx; exact fin ⟨_, h, gives_len_str ht ho hu hx⟩
            · cases h
          · rename_i et hu; exact fin (gives_len_slice ht ho hu h)
          · cases h
        · cases h
      · cases h
    · split at h
      · rename_i x y
        split at h
        · rename_i k a hx
          split at h
          · rename_i k' b hy
            split at h
            · rename_i hk; exact fin ⟨_, h, gives_min ht ho hx hy (of_decide_eq_true hk)⟩
            · cases h
          · cases h
        · cases h
      · rename_i x y z
        split at h
        · rename_i k a hx
          split at h
          · rename_i k' b hy
            split at h
            · rename_i k2 c hz
              split at h
              · rename_i hk
                rw [Bool.and_eq_true] at hk
                exact fin ⟨_, h, gives_min3 ht ho hx hy hz (of_decide_eq_true hk.1) (of_decide_eq_true hk.2)⟩
              · cases h
            · cases h
          · cases h
        · cases h
      · cases h
    · split at h
      · rename_i x y
        split at h
        · rename_i k a hx
          split at h
          · rename_i k' b hy
            split at h
            · rename_i hk; exact fin ⟨_, h, gives_max ht ho hx hy (of_decide_eq_true hk)⟩
            · cases h
          · cases h
        · cases h
      · rename_i x y z
        split at h
        · rename_i k a hx
          split at h
          · rename_i k' b hy
            split at h
            · rename_i k2 c hz
              split at h
              · rename_i hk
                rw [Bool.and_eq_true] at hk
                exact fin ⟨_, h, gives_max3 ht ho hx hy hz (of_decide_eq_true hk.1) (of_decide_eq_true hk.2)⟩
              · cases h
            · cases h
          · cases h
        · cases h
      · cases h
    · cases h
  case h_21 => cases h

theorem pure_fresh (hs : Sim P base S w hp φ) (ht : ∀ x, Rep S w hp φ (ev tm x) (e x)) {op : Op} (ho : o.op = op) {t : TypeId} (hop : (∃ n ps, op = .buildSlice t n ps) ∨ (∃ n c, op = .makeSlice t n c)) (h : pureOp P tm hp op K = some r) :
    ∃ et els, elemOf P t = some et ∧ K (.sl (P.cellsOf et) els) = some r ∧ FreshS P S w e o et (P.cellsOf et) els := by
  rcases hop with ⟨n, ps, rfl⟩ | ⟨n, c, rfl⟩
  · simp only [pureOp] at h
    split at h
    · rename_i et he
      split at h
      · rename_i hc
        simp only [Bool.and_eq_true, decide_eq_true_eq] at hc
        obtain ⟨rfl, hsz⟩ := hc
        split at h
        · rename_i z hz
          split at h
          · rename_i hc
            simp only [Bool.and_eq_true, decide_eq_true_eq] at hc
            obtain ⟨⟨h1, h2⟩, h3⟩ := hc
            split at h
            · rename_i els hels; exact ⟨et, els, he, h, fresh_buildSlice hs ht ho (elem_of he) h3 hsz hz h1 h2 hels⟩
            · cases h
          · cases h
        · cases h
      · cases h
    · cases h
  · simp only [pureOp] at h
    split at h
    · rename_i et he
      split at h
      · rename_i l hn
        split at h
        · rename_i l' hc
          split at h
          · rename_i z hz
            split at h
            · rename_i hb
              simp only [Bool.and_eq_true, decide_eq_true_eq] at hb
              cases hzc : closeL [] (norms P (cellTys P 6 et) z.cells) with
              | none => rw [hzc] at h; cases h
              | some zc =>
              rw [hzc] at h
              simp only at h
              by_cases hq : ((decide (0 ≤ l) && decide (l = l')) && decide (P.bytesOf et * l ≤ 140737488355328)) = true
              · rw [hq] at h
                simp only [Bool.and_eq_true, decide_eq_true_eq] at hq
                obtain ⟨⟨q1, rfl⟩, q3⟩ := hq
                exact ⟨et, _, he, h, fresh_makeSlice hs ht ho (elem_of he) hn hc q1 q3 hz hb.1 hb.2 hzc⟩
              · rw [Bool.not_eq_true] at hq; rw [hq] at h; cases h
            · cases h
          · cases h
        · cases h
      · cases h
    · cases h
theorem asOb_acts (hs : Sim P base S w hp φ) {t et : TypeId} {els : List (List AV)} (he : elemOf P t = some et) (hf : FreshS P S w e o et (P.cellsOf et) els) {b1 b2 : Bool} {K : AV → Hp → Option ρ} (h : asOb P t b1 b2 hp K (.sl (P.cellsOf et) els) = some r) : ∃ v hp', K v hp' = some r ∧ Acts P base S w hp φ e o v hp' := by
  unfold asOb at h
  cases b1 with
  | true =>
    rw [he] at h
    simp only at h
    split at h
    · rename_i hq
      simp only [Bool.and_eq_true, decide_eq_true_eq] at hq
      rw [forceHp_eq] at h
      exact ⟨_, _, h, hf.row hs rfl hq.2⟩
    · cases h
  | false =>
    cases b2 with
    | true => simp only [forceHp_eq] at h; exact ⟨_, _, h, hf.arr hs⟩
    | false => exact ⟨_, _, h, hf.stay hs⟩

theorem Acts.wp {a : Act} {v : AV} {hp' : Hp} {next : Act → World → Prop} {Q : Exit → Act → World → Prop} (h : Acts P base S w hp φ a.eval o v hp') (hn : ∀ u S' φ' w', Rep S' w' hp' φ' v u → Sim P base S' w' hp' φ' → Trans base S w hp φ S' w' hp' φ' → next (a.put o.dst u) w') : o.wp P a w next Q := by
  obtain ⟨u, S', φ', w', h1, h2, h3, h4⟩ := h
  unfold Oper.wp
  rcases h1 with h1 | ⟨h1, rfl⟩
  · rw [h1]; exact hn u S' φ' w' h2 h3 h4
  · rw [h1]; exact hn undef S' φ' w' h2 h3 h4

theorem run_callFunc {g : FuncId} {args : Array Value} (hg : GoodFn P g) : (callFunc g args).run P w = .ok (.enter g args) w := by
  obtain ⟨fn, h1, h2, h3⟩ := hg
  simp only [callFunc, Sem.run_bind, run_program, Result.andThen_ok, h1, h2, h3, Bool.false_eq_true, if_false, Sem.run_pure]

theorem stepV_sound {H : Hints} {call : CallT} (hH : GoodH P H) (hc : SoundCall P H call) {f : FuncId} {a : Act} {K : AV → Hp → Option ρ} (hs : Sim P base S w hp φ) (ht : ∀ x, Rep S w hp φ (ev tm x) (a.eval x)) (h : stepV P H call f o tm hp K = some r)
    {next : Act → World → Prop} {Q : Exit → Act → World → Prop} (hn : ∀ v hp' u S' φ' w', K v hp' = some r → Rep S' w' hp' φ' v u → Sim P base S' w' hp' φ' → Trans base S w hp φ S' w' hp' φ' → next (a.put o.dst u) w') : o.wp P a w next Q := by
  have fin : (∃ v hp', K v hp' = some r ∧ Acts P base S w hp φ a.eval o v hp') → o.wp P a w next Q := fun ⟨v, hp', h1, h2⟩ => h2.wp fun u S' φ' w' h3 h4 h5 => hn v hp' u S' φ' w' h1 h3 h4 h5
  have pur : ∀ {op : Op}, o.op = op → pureOp P tm hp op (fun v => K v hp) = some r → o.wp P a w next Q := fun ho h => by
    obtain ⟨v, h1, h2⟩ := pure_sound hs ht ho h
    exact fin ⟨v, hp, h1, h2⟩
  unfold stepV at h
  split at h
  case h_1 x ho =>
    split at h
    · rename_i hx
      split at h
      · split at h
        · rename_i et he
          split at h
          · rename_i hz
            rw [forceHp_eq] at h
            exact fin ⟨_, _, h, acts_nil hs ht ho hx (of_decide_eq_true hz)⟩
          · cases h
        · cases h
      · split at h
        · split at h
          · rename_i et he
            split at h
            · rename_i hz
              rw [forceHp_eq] at h
              exact fin ⟨_, _, h, acts_nil_stk hs ht ho hx (of_decide_eq_true hz)⟩
            · cases h
          · cases h
        · exact fin ⟨_, _, h, by rw [← hx]; exact (gives_move ht (.inr ho)).acts hs⟩
    · exact fin ⟨_, _, h, (gives_move ht (.inr ho)).acts hs⟩
  case h_2 t n ps ho =>
    obtain ⟨et, els, he, hk, hf⟩ := pure_fresh hs ht ho (.inl ⟨_, _, rfl⟩) h
    exact fin (asOb_acts hs he hf hk)
  case h_3 t n c ho =>
    obtain ⟨et, els, he, hk, hf⟩ := pure_fresh hs ht ho (.inr ⟨_, _, rfl⟩) h
    exact fin (asOb_acts hs he hf hk)
  case h_4 t ho =>
    split at h
    · rename_i z hz
      split at h
      · rename_i hb
        simp only [Bool.and_eq_true, decide_eq_true_eq] at hb
        rw [forceHp_eq] at h
        exact fin ⟨_, _, h, acts_alloc hs ho hz hb.2⟩
      · cases h
    · cases h
  case h_5 t x ho =>
    split at h
    · rename_i hb
      rw [forceHp_eq] at h
      exact fin ⟨_, _, h, acts_box hs ht ho hb⟩
    · cases h
  case h_6 t y x ho =>
    split at h
    · rename_i hb
      simp only [Bool.and_eq_true, decide_eq_true_eq] at hb
      obtain ⟨⟨b1, b2⟩, b3⟩ := hb
      split at h
      · rename_i id off ha
        split at h
        · rename_i E cs hob
          by_cases hq : off + P.cellsOf t ≤ cs.length
          · rw [decide_eq_true hq] at h
            simp only [cond_true] at h
            rw [forceHp_eq] at h
            exact fin ⟨_, _, h, acts_store_var hs ht ho b1 b2 b3 ha hob hq⟩
          · rw [decide_eq_false hq] at h; cases h
        · cases h
      · rename_i id i off ha
        split at h
        · rename_i size els hob
          split at h
          · rename_i el hel
            split at h
            · rename_i c hcl
              by_cases hq : off + P.cellsOf t ≤ el.length
              · rw [decide_eq_true hq] at h
                simp only [cond_true] at h
                rw [forceHp_eq] at h
                exact fin ⟨_, _, h, acts_store_arr hs ht ho b1 b2 b3 ha hob hel hcl hq⟩
              · rw [decide_eq_false hq] at h; cases h
            · cases h
          · cases h
        · cases h
      · rename_i id ver i off ha
        split at h
        · rename_i v et size els hob
          split at h
          · rename_i hv
            have hv := of_decide_eq_true hv
            subst hv
            split at h
            · rename_i el hel
              split at h
              · rename_i c hcl
                by_cases hq : off + P.cellsOf t ≤ el.length
                · rw [decide_eq_true hq] at h
                  simp only [cond_true] at h
                  rw [forceHp_eq] at h
                  exact fin ⟨_, _, h, acts_store_stk hs ht ho b1 b2 b3 ha hob hel hcl hq⟩
                · rw [decide_eq_false hq] at h; cases h
              · cases h
            · cases h
          · cases h
        · cases h
      · cases h
    · cases h
  case h_7 c ho =>
    obtain ⟨cal, args, ats⟩ := c
    simp only at h
    split at h
    · rename_i fo
      split at h
      · rename_i g x y hg
        split at h
        · rename_i hgood
          have hgf := hH g hgood
          have hfo := ht fo
          rw [hg] at hfo
          obtain ⟨fa, fb, hx, hy, he⟩ := hfo.func_inv
          have hargs := evs_rep ht args.toList
          have hrun : (execOp a.eval o).run P w = .ok (.enter g (fa ++ args.toList.map a.eval ++ fb).toArray) w := by
            have e1 : (fa.toArray ++ args.map a.eval) ++ fb.toArray = (fa ++ args.toList.map a.eval ++ fb).toArray := by
              apply Array.ext'; simp
            simp only [execOp, ho, resolve, he, Deferred.ofValue, invoke, Sem.run_bind, Sem.run_pure, Result.andThen_ok, run_callFunc hgf, e1]
          split at h
          · rw [forceHp_eq] at h
            obtain ⟨φ1, hs1, ht1⟩ := ups_sound (P := P) (upcAt H f fo g) hs
            have hcl := ren_list (fun a v h => shut2_rep h) (Reps.mono ht1.s (Reps.append (Reps.append hx (normArgs_rep (P := P) (ts := ats.toList) hargs)) hy) ht1.hp)
            unfold callSub at h
            split at h
            rotate_left
            · cases h
            rw [forceL_eq force2_eq] at h
            split at h
            rotate_left
            · cases h
            rename_i ids hids
            rw [forceN_eq] at h
            obtain ⟨rnd, rin, _⟩ := reach_ok _ _ _ _ _ hids List.nodup_nil (fun id h => by cases h)
            unfold subCall at h
            rw [forceL_eq force2_eq, forceHp_eq] at h
            split at h
            · rename_i v hpn hcall
              split at h
              · rename_i hlen
                rw [forceHp_eq] at h
                have := hc _ _ _ _ v hpn hcall base S w _ _ (hs1.sub rnd rin) (ren_list (fun a v h => ren2_rep (sub_ren hs1 rin) h) hcl)
                unfold Oper.wp
                rw [hrun]
                refine this.mono ?_
                rintro e w' ⟨u, S', φ', rfl, h1, h2, h3⟩
                obtain ⟨φ2, k1, k2, k3⟩ := hs1.back rnd rin h2 h3 (of_decide_eq_true hlen)
                exact hn _ _ u S' φ2 w' h (ren3_rep k3 h1) k1 (ht1.trans k2)
              · cases h
            · cases h
          · split at h
            · split at h
              · rename_i as has
                split at h
                · rename_i v hpn hcall
                  rw [forceHp_eq] at h
                  have hcl := closeArgs_rep (Reps.append (Reps.append hx (normArgs_rep hargs)) hy) has
                  have hs0 : Sim P w.heap.size S w [] [] := ⟨rfl, Nat.le_refl _, hs.cell, fun id o ho => by simp at ho, fun i j b hi => by simp [blockAt] at hi⟩
                  have := hc true g as [] v hpn hcall w.heap.size S w [] _ hs0 hcl
                  unfold Oper.wp
                  rw [hrun]
                  refine this.mono ?_
                  rintro e w' ⟨u, S', φ', rfl, h1, h2, h3⟩
                  obtain ⟨k1, k2, k3⟩ := hs.adopt h1 h2 h3
                  exact hn _ _ u S' (φ ++ φ') w' h k1 k2 k3
                · cases h
              · cases h
            split at h
            · split at h
              · rename_i as has
                split at h
                · rename_i v hcall
                  have hcl := closeArgs_rep (Reps.append (Reps.append hx (normArgs_rep hargs)) hy) has
                  have hs0 : Sim P w.heap.size S w [] [] := ⟨rfl, Nat.le_refl _, hs.cell, fun id o ho => by simp at ho, fun i j b hi => by simp [blockAt] at hi⟩
                  have := hc false g as [] v [] hcall w.heap.size S w [] _ hs0 hcl
                  unfold Oper.wp
                  rw [hrun]
                  refine this.mono ?_
                  rintro e w' ⟨u, S', φ', rfl, h1, h2, h3⟩
                  have hφ : φ' = [] := List.eq_nil_of_length_eq_zero h2.len
                  subst hφ
                  have hkeep : Sim P base S' w' hp φ := hs.keep h3.s h3.below.size h2.cell fun id b hb => by
                    have hlt := (hs.block_lt hb).2
                    exact ⟨h3.below.block b hlt, fun o => ⟨fun h => (h3.new b o h).elim (fun h => h) fun h => by omega, fun h => (h3.s b o h).1⟩⟩
                  exact hn v hp u S' φ w' h h1.lift hkeep ⟨h3.s, .refl _ _, h3.below.mono hs.low, fun b o h => (h3.new b o h).elim .inl fun h => .inr (Nat.le_trans hs.low h), fun b o h => (h3.new b o h).elim .inl fun h => .inr (.inr h), fr_refl, fun b hb => h3.below.block b (not_mine hb).1⟩
                · cases h
              · cases h
            · split at h
              · rename_i as has
                split at h
                · rename_i v hcall
                  split at h
                  · rename_i hfl
                    have hcl := closeOArgs_rep hs (Reps.append (Reps.append hx (normArgs_rep hargs)) hy) has
                    have hs0 : Sim P w.heap.size (withArr S w hp φ) w [] [] := ⟨rfl, Nat.le_refl _, withArr_cell hs, fun id o ho => by simp at ho, fun i j b hi => by simp [blockAt] at hi⟩
                    have := hc false g as [] v [] hcall w.heap.size (withArr S w hp φ) w [] _ hs0 hcl
                    unfold Oper.wp
                    rw [hrun]
                    refine this.mono ?_
                    rintro e w' ⟨u, S', φ', rfl, h1, h2, h3⟩
                    have hS1 : SExt S w S w' := fun b o hb => ⟨hb, (h3.s b o (.inl hb)).2⟩
                    have hkeep : Sim P base S w' hp φ := hs.keep hS1 h3.below.size (fun b o hb => by
                      obtain ⟨u, hu⟩ := hs.cell b o hb
                      exact ⟨u, (hS1 b o hb).2.trans hu⟩) fun id b hb => ⟨h3.below.block b (hs.block_lt hb).2, fun o => .rfl⟩
                    exact hn v hp u S φ w' h (flat_rep hfl h1) hkeep ⟨hS1, .refl _ _, h3.below.mono hs.low, fun b o h => .inl h, fun b o h => .inl h, fr_refl, fun b hb => h3.below.block b (not_mine hb).1⟩
                  · cases h
                · cases h
              · cases h
        · cases h
      · cases h
    · split at h
      · rename_i d x
        split at h
        · rename_i t t'
          split at h
          · rename_i et he
            split at h
            · rename_i id off n hd
              split at h
              · rename_i size els hob
                split at h
                · rename_i hq
                  simp only [Bool.and_eq_true, decide_eq_true_eq] at hq
                  split at h
                  · rename_i news hnews
                    by_cases hq2 : off + n ≤ els.length
                    · rw [decide_eq_true hq2] at h
                      simp only [cond_true] at h
                      rw [forceHp_eq] at h
                      exact fin ⟨_, _, h, acts_copy hs ht ho (elem_of he) hd hob hq.1 hq.2 hnews hq2⟩
                    · rw [decide_eq_false hq2] at h; cases h
                  · cases h
                · cases h
              · cases h
            · cases h
          · cases h
        · cases h
      · cases h
    · split at h
      · rename_i s x
        split at h
        · rename_i t t'
          split at h
          · rename_i htt
            have htt := of_decide_eq_true htt
            subst htt
            split at h
            · rename_i et he
              split at h
              · rename_i z hz
                split at h
                · rename_i hb
                  simp only [Bool.and_eq_true, decide_eq_true_eq] at hb
                  obtain ⟨⟨b1, b2⟩, b3⟩ := hb
                  split at h
                  · rename_i news hnews
                    split at h
                    · rename_i hsv
                      by_cases hq : news.length * (P.bytesOf et + 1) ≤ 140737488355328
                      · rw [decide_eq_true hq] at h
                        simp only [cond_true] at h
                        split at h
                        · split at h
                          · exact fin ⟨_, _, h, acts_append_nil_val hs ht ho (elem_of he) b3 hz b1 b2 hnews hsv hq⟩
                          rw [forceHp_eq] at h
                          exact fin ⟨_, _, h, acts_append_nil hs ht ho (elem_of he) b3 hz b1 b2 hnews hsv hq⟩
                        · by_cases hq2 : news.length = 0
                          · rw [decide_eq_true hq2] at h
                            simp only [cond_true] at h
                            exact fin ⟨_, _, h, acts_append_nil_none hs ht ho (elem_of he) b3 hz b1 b2 hnews hsv hq2⟩
                          · rw [decide_eq_false hq2] at h
                            simp only [cond_false] at h
                            rw [forceHp_eq] at h
                            exact fin ⟨_, _, h, acts_append_nil_arr hs ht ho (elem_of he) b3 hz b1 b2 hnews hsv hq hq2⟩
                      · rw [decide_eq_false hq] at h; cases h
                    · rename_i id n hsv
                      split at h
                      · rename_i e' size els hob
                        split at h
                        · rename_i hq1
                          simp only [Bool.and_eq_true, decide_eq_true_eq] at hq1
                          obtain ⟨rfl, rfl⟩ := hq1
                          by_cases hq : (decide (n = els.length) && decide ((els.length + news.length) * (P.bytesOf e' + 1) ≤ 140737488355328)) = true
                          · rw [hq] at h
                            simp only [Bool.and_eq_true, decide_eq_true_eq] at hq
                            simp only [cond_true] at h
                            rw [forceHp_eq] at h
                            exact fin ⟨_, _, h, acts_append hs ht ho (elem_of he) b3 hz b1 b2 hnews hsv hob hq.1 hq.2⟩
                          · rw [Bool.not_eq_true] at hq; rw [hq] at h; cases h
                        · cases h
                      · cases h
                    · rename_i id ver n hsv
                      split at h
                      · rename_i v e' size els hob
                        split at h
                        · rename_i hq1
                          simp only [Bool.and_eq_true, decide_eq_true_eq] at hq1
                          obtain ⟨_, ⟨rfl, rfl⟩, rfl⟩ := hq1
                          by_cases hq : (decide (n = els.length) && decide ((els.length + news.length) * (P.bytesOf e' + 1) ≤ 140737488355328)) = true
                          · rw [hq] at h
                            simp only [Bool.and_eq_true, decide_eq_true_eq] at hq
                            simp only [cond_true] at h
                            rw [forceHp_eq] at h
                            exact fin ⟨_, _, h, acts_append_stk hs ht ho (elem_of he) b3 hz b1 b2 hnews hsv hob hq.1 hq.2⟩
                          · rw [Bool.not_eq_true] at hq; rw [hq] at h; cases h
                        · cases h
                      · cases h
                    · cases h
                  · cases h
                · cases h
              · cases h
            · cases h
          · cases h
        · cases h
      · cases h
    · rw [ho] at h; exact pur ho h
  case h_8 t x lo hi mx ho =>
    obtain ⟨v, h1, h2⟩ := pure_sound hs ht ho h
    unfold cutK at h1
    split at h1
    · exact fin ⟨v, hp, h1, h2⟩
    · split at h1
      · rename_i id ver n
        split at h1
        · rename_i vr et size els hob
          split at h1
          · rename_i hv
            have hv := of_decide_eq_true hv
            subst hv
            rw [forceHp_eq] at h1
            exact fin ⟨_, _, h1, acts_cut h2 hob⟩
          · cases h1
        · cases h1
      · cases h1
  case h_9 => exact pur rfl h
end
end Go.Proofs.Ytjobghbdfannfaa
end

section
namespace Go.Proofs.Ytjobghbdfannfaa
open Go.RowKit
set_option linter.unusedVariables false
set_option linter.unusedSimpArgs false

section
variable {S : Nat → Nat → Prop} {w : World} {hp : Hp} {φ : List Pl} {P : Program} {base : Nat} {H : Hints} {call : CallT} {f : FuncId} {ops : Array Oper} {tm : Tm} {ρ : Type} {r : ρ}

theorem reps_put {a : Act} (h : Reps S w hp φ tm a.tmps.toList) (d : Option Tmp) {v : AV} {u : Value} (hv : Rep S w hp φ v u) : Reps S w hp φ (put tm d v) (a.put d u).tmps.toList := by
  cases d with
  | none => exact h
  | some d =>
    simp only [put, Act.put, setNth_eq, Array.toList_setIfInBounds]
    exact h.set d hv
theorem put_defers (a : Act) (d : Option Tmp) (u : Value) : (a.put d u).defers = a.defers := by cases d <;> rfl

theorem yielded_of {a : Act} (h : Reps S w hp φ tm a.tmps.toList) {j t : Nat} (hj : (nth? ops.toList j).bind (·.dst) = some t) {b : Bool} (hb : nth .junk tm t = .bool b) : yielded ops a.tmps j = some b := by
  rw [nth?_eq] at hj
  have h1 : (ops[j]?).bind (·.dst) = some t := by simpa using hj
  rw [nth_eq] at hb
  cases ht : tm[t]? with
  | none => rw [ht] at hb; cases hb
  | some av =>
    rw [ht] at hb
    simp only [Option.getD_some] at hb
    subst hb
    obtain ⟨v, hv, hr⟩ := h.get' ht
    have := hr.bool_inv
    subst this
    have h2 : a.tmps[t]? = some (.bool b) := by simpa using hv
    simp [yielded, h1, h2]

theorem yielded_undef {a : Act} (h : Reps S w hp φ tm a.tmps.toList) {j t : Nat} (hj : (nth? ops.toList j).bind (·.dst) = some t) (hb : nth .junk tm t = .tup []) : yielded ops a.tmps j = none := by
  rw [nth?_eq] at hj
  have h1 : (ops[j]?).bind (·.dst) = some t := by simpa using hj
  rw [nth_eq] at hb
  cases ht : tm[t]? with
  | none => rw [ht] at hb; cases hb
  | some av =>
    rw [ht] at hb
    simp only [Option.getD_some] at hb
    subst hb
    obtain ⟨v, hv, hr⟩ := h.get' ht
    obtain ⟨vs, h3, rfl⟩ := hr.tup_inv
    cases h3
    have h2 : a.tmps[t]? = some (.tuple #[]) := by simpa using hv
    simp [yielded, h1, h2]

/-- One operation, with its guard. -/
theorem oper_sound (hH : GoodH P H) (hc : SoundCall P H call) {o : Oper} {a : Act} (hs : Sim P base S w hp φ) (ht : Reps S w hp φ tm a.tmps.toList) {C : Tm → Hp → Option ρ}
    (h : (match o.guard with
      | none => stepV P H call f o tm hp fun v hp => putK tm o.dst v fun tm => C tm hp
      | some (j, want) => match (nth? ops.toList j).bind (·.dst) with
        | none => none
        | some t => match nth .junk tm t with
          | .bool b => match want with
            | true => bif b then stepV P H call f o tm hp (fun v hp => putK tm o.dst v fun tm => C tm hp) else (putK tm o.dst (.tup []) fun tm => C tm hp)
            | false => bif b then (putK tm o.dst (.tup []) fun tm => C tm hp) else stepV P H call f o tm hp (fun v hp => putK tm o.dst v fun tm => C tm hp)
          | .tup [] => putK tm o.dst (.tup []) fun tm => C tm hp
          | _ => none) = some r)
    {next : Act → World → Prop} {Q : Exit → Act → World → Prop}
    (hn : ∀ tm' hp' S' φ' a' w', C tm' hp' = some r → Reps S' w' hp' φ' tm' a'.tmps.toList → Sim P base S' w' hp' φ' → Trans base S w hp φ S' w' hp' φ' → a'.defers = a.defers → next a' w') :
    if Region.wanted o (yielded ops a.tmps) then o.wp P a w next Q else next (a.put o.dst undef) w := by
  have hev := fun x => ev_rep ht x
  have yes : stepV P H call f o tm hp (fun v hp => putK tm o.dst v fun tm => C tm hp) = some r → o.wp P a w next Q := fun h => by
    refine stepV_sound hH hc hs hev h fun v hp' u S' φ' w' h1 h2 h3 h4 => ?_
    rw [putK_eq] at h1
    exact hn _ hp' S' φ' _ w' h1 (reps_put (Reps.mono h4.s ht h4.hp) o.dst h2) h3 h4 (put_defers _ _ _)
  have no : (putK tm o.dst (.tup []) fun tm => C tm hp) = some r → next (a.put o.dst undef) w := fun h => by
    rw [putK_eq] at h
    exact hn _ hp S φ _ w h (reps_put ht o.dst (.tup _ _ [] [] (.nil _ _))) hs (.refl _ _ _ _ _) (put_defers _ _ _)
  cases hg : o.guard with
  | none =>
    rw [hg] at h
    rw [if_pos (by simp [Region.wanted, hg])]
    exact yes h
  | some p =>
    obtain ⟨j, want⟩ := p
    rw [hg] at h
    simp only at h
    cases hj : (nth? ops.toList j).bind (·.dst) with
    | none => rw [hj] at h; cases h
    | some t =>
      rw [hj] at h
      simp only at h
      cases hb : nth .junk tm t <;> rw [hb] at h <;> first | (cases h; done) | skip
      case tup l =>
        cases l with
        | cons _ _ => cases h
        | nil =>
          have hy := yielded_undef (ops := ops) ht hj hb
          have hw : Region.wanted o (yielded ops a.tmps) = false := by simp [Region.wanted, hg, hy]
          rw [hw, if_neg (by decide)]
          exact no h
      simp only at h
      rename_i b
      have hy := yielded_of (ops := ops) ht hj hb
      have hw : Region.wanted o (yielded ops a.tmps) = (b == want) := by simp [Region.wanted, hg, hy]
      rw [hw]
      cases want <;> cases b <;> simp only [cond_true, cond_false] at h
      · rw [if_pos (by decide)]; exact yes h
      · rw [if_neg (by decide)]; exact no h
      · rw [if_neg (by decide)]; exact no h
      · rw [if_pos (by decide)]; exact yes h

theorem runOps_sound (hH : GoodH P H) (hc : SoundCall P H call) {Q : Exit → Act → World → Prop} : ∀ (l : List Oper) (S : Nat → Nat → Prop) (w : World) (hp : Hp) (φ : List Pl) (tm : Tm) (a : Act) (K : Tm → Hp → Option ρ), Sim P base S w hp φ → Reps S w hp φ tm a.tmps.toList → runOps P H call f ops.toList l tm hp K = some r →
    (∀ tm' hp' S' φ' a' w', K tm' hp' = some r → Reps S' w' hp' φ' tm' a'.tmps.toList → Sim P base S' w' hp' φ' → Trans base S w hp φ S' w' hp' φ' → a'.defers = a.defers → Q .normal a' w') → wpList P ops Q l a w
  | [], S, w, hp, φ, tm, a, K, hs, ht, h, hn => hn _ _ _ _ _ _ h ht hs (.refl _ _ _ _ _) rfl
  | o :: l, S, w, hp, φ, tm, a, K, hs, ht, h, hn => by
    have := oper_sound (ops := ops) (C := fun tm hp => runOps P H call f ops.toList l tm hp K) hH hc hs ht (by
      exact h) (next := wpList P ops Q l) (Q := Q) fun tm' hp' S' φ' a' w' h1 h2 h3 h4 h5 => runOps_sound hH hc l S' w' hp' φ' tm' a' K h3 h2 h1 fun tm'' hp'' S'' φ'' a'' w'' g1 g2 g3 g4 g5 => hn _ _ _ _ _ _ g1 g2 g3 (h4.trans g4) (g5.trans h5)
    unfold wpList
    split
    · rename_i hw; rw [if_pos hw] at this; exact .inl this
    · rename_i hw; rw [if_neg hw] at this; exact this
end
end Go.Proofs.Ytjobghbdfannfaa
end

section
namespace Go.Proofs.Ytjobghbdfannfaa
open Go.RowKit
set_option linter.unusedVariables false
set_option linter.unusedSimpArgs false

/-- The cells of arrays that are let go stay from now on. -/
def letGo (S : Nat → Nat → Prop) (w : World) (hp : Hp) (φ : List Pl) (h0 : Nat) : Nat → Nat → Prop := fun b o => S b o ∨ (∃ id size els, h0 ≤ id ∧ hp[id]? = some (.arr size els) ∧ φ[id]? = some (.blk b) ∧ ∃ v, w.cell? ⟨b, o, none⟩ = some v) ∨ ∃ id ver e size els, h0 ≤ id ∧ hp[id]? = some (.stk ver e size els) ∧ ∃ v0, φ[id]? = some (.sv v0) ∧ v0.ownBlock = some b ∧ ∃ v, w.cell? ⟨b, o, none⟩ = some v

section
variable {S : Nat → Nat → Prop} {w : World} {hp : Hp} {φ : List Pl} {P : Program} {base h0 : Nat}

theorem letGo_ext : SExt S w (letGo S w hp φ h0) w := fun b o h => ⟨.inl h, rfl⟩

theorem waneHp_at {id : Nat} (hid : id < h0) : (waneHp h0 hp)[id]? = (hp[id]?).map (waneOb h0 hp) := by
  simp [waneHp, List.getElem?_take, hid]
theorem take_at {id : Nat} (hid : id < h0) : (φ.take h0)[id]? = φ[id]? := by simp [List.getElem?_take, hid]

theorem wane1_rep (hs : Sim P base S w hp φ) {a : AV} {v : Value} (h : Rep S w hp φ a v) : Rep (letGo S w hp φ h0) w (waneHp h0 hp) (φ.take h0) (wane1 h0 hp a) v := by
  cases a <;> simp only [wane1] <;> first | exact .junk _ _ _ | skip
  case bool b => have := h.bool_inv; subst this; exact .bool _ _ _
  case int k n => obtain ⟨rfl, h1⟩ := h.int_inv; exact .int _ _ _ _ h1
  case str s => obtain ⟨rfl, h1⟩ := h.str_inv; exact .str _ _ _ h1
  case nilp => cases h; exact .nilp _ _
  case ptr id off =>
    obtain ⟨b, hb, rfl⟩ := h.ptr_inv
    by_cases hid : id < h0
    · rw [decide_eq_true hid]; exact .ptr _ _ id off b ((take_at hid).trans hb)
    · rw [decide_eq_false hid]; exact .junk _ _ _
  case pte id i off =>
    obtain ⟨b, size, els, hb, hob, rfl⟩ := h.pte_inv
    by_cases hid : id < h0
    · rw [decide_eq_true hid]
      exact .pte _ _ id i off b size els ((take_at hid).trans hb) (by rw [nth?_eq] at hob ⊢; rw [waneHp_at hid, hob]; rfl)
    · rw [decide_eq_false hid]; exact .junk _ _ _
  case rptr el off => obtain ⟨vs, b, ob, h1, h2, h3, rfl⟩ := h.rptr_inv; exact .rptr _ _ _ _ _ _ _ (Reps.mono letGo_ext h1 HpExt.nil) h2 fun j u hj => ⟨.inl (h3 j u hj).1, (h3 j u hj).2⟩
  case nils => have := h.nils_inv; subst this; exact .nils _ _
  case sl size els => obtain ⟨vss, a, cap, h1, h2, h3, rfl⟩ := h.sl_inv; exact .sl _ _ _ _ _ _ _ (Repss.mono letGo_ext h1) (h2.mono letGo_ext) h3
  case row id n =>
    obtain ⟨et, size, els, h1, h2, h3, h4⟩ := h.row_inv
    have h5 : Rep (letGo S w hp φ h0) w [] [] (.sl size (els.take n)) v := Rep.mono letGo_ext h3 HpExt.nil
    by_cases hid : id < h0
    · rw [decide_eq_true hid]
      exact .row _ _ id n v et size els (by rw [nth?_eq] at h1 ⊢; rw [waneHp_at hid, h1]; rfl) h2 h5 fun hn => (take_at hid).trans (h4 hn)
    · rw [decide_eq_false hid, h1]; exact h5.lift
  case own id off n =>
    obtain ⟨b, size, els, cap, ad, hb, hob, hle, had, hc, rfl⟩ := h.own_inv
    by_cases hid : id < h0
    · rw [decide_eq_true hid]
      exact .own _ _ id off n b size els cap ((take_at hid).trans hb) (by rw [nth?_eq] at hob ⊢; rw [waneHp_at hid, hob]; rfl) hle ad had hc
    · rw [decide_eq_false hid, hob]
      rw [nth?_eq] at hob
      obtain ⟨b', vss, ex, E', g1, g2, g3, g4, g5, g6⟩ := hs.obj id _ hob
      rw [hb] at g1; cases g1
      have hlen : ((els.drop off).take n).length = n := by rw [List.length_take, List.length_drop]; omega
      have := Rep.sl (S := letGo S w hp φ h0) (w := w) (waneHp h0 hp) (φ.take h0) size ((els.drop off).take n) ((vss.drop off).take n) ad cap (Repss.mono letGo_ext ((g4.drop off).take n)) ⟨fun vs hv => g5 vs (List.mem_of_mem_drop (List.mem_of_mem_take hv)), fun j vs t u hj hu => ?_⟩ (by rw [hlen]; exact hc)
      · rw [hlen] at this; exact this
      · rw [List.getElem?_take] at hj
        split at hj
        · rename_i hlt
          rw [List.getElem?_drop] at hj
          have htl : t < size := by rw [← g5 vs (List.mem_of_getElem? hj)]; exact nth?_lt hu
          have hf := flatten_at g5 hj htl
          rw [hu] at hf
          have hcell : w.cell? ⟨b, (off + j) * size + t, none⟩ = some u := by
            simp [World.cell?, g3]; simpa [List.getElem?_append_left (nth?_lt hf)] using hf
          have e1 : off * size + j * size + t = (off + j) * size + t := by rw [Nat.add_mul]
          exact ⟨b, off * size, had (by omega), .inr (.inl ⟨id, size, els, by omega, hob, hb, u, by rw [e1]; exact hcell⟩), by rw [e1]; exact hcell⟩
        · cases hj
  case stk id ver n =>
    have hst := h.stk_inv
    obtain ⟨⟨ad, cap, hv0, hcp⟩, ver', e, size, els, hob, hle, hcur⟩ := h.stk_inv
    by_cases hid : id < h0
    · rw [decide_eq_true hid]
      refine .stk _ _ _ _ _ _ ⟨⟨ad, cap, hv0, hcp⟩, ver', e, size, els, by rw [nth?_eq] at hob ⊢; rw [waneHp_at hid, hob]; rfl, hle, fun hv => ?_⟩
      obtain ⟨c1, v0, c2, c3⟩ := hcur hv
      exact ⟨c1, v0, (take_at hid).trans c2, c3⟩
    · rw [decide_eq_false hid, hob]
      simp only [cond_false]
      split
      · rename_i hv
        have hv := of_decide_eq_true hv
        subst hv
        obtain ⟨hn, v0, vss, c1, c2, c3, c4, c5, c6, c7, c8, c9⟩ := stk_cur hs hst hob
        have hlen : (els.take n).length = n := by rw [List.length_take]; omega
        have := Rep.sl (S := letGo S w hp φ h0) (w := w) (waneHp h0 hp) (φ.take h0) size (els.take n) (vss.take n) ad cap (Repss.mono letGo_ext (c4.take n)) ⟨fun vs hv => c5 vs (List.mem_of_mem_take hv), fun j vs t u hj hu => ?_⟩ (by rw [hlen]; exact hcp)
        · rw [hlen] at this; rw [hv0]; exact this
        · rw [List.getElem?_take] at hj
          split at hj
          · rename_i hlt
            obtain ⟨g, cap', k1, k2⟩ := c9 (by omega)
            rw [hv0] at k2
            simp only [Value.slice.injEq] at k2
            obtain ⟨rfl, _, rfl⟩ := k2
            have htl : t < size := by rw [← c5 vs (List.mem_of_getElem? hj)]; exact nth?_lt hu
            have hf := flatten_at c5 hj htl
            rw [hu] at hf
            have hcell := c3.cells (g := g) (by rw [k1]; rfl) _ _ hf
            rw [add_none, Nat.zero_add] at hcell
            rw [nth?_eq] at hob
            exact ⟨g, 0, rfl, .inr (.inr ⟨id, _, e, size, els, by omega, hob, v0, c1, by rw [k1]; rfl, u, by rw [Nat.zero_add]; exact hcell⟩), by rw [Nat.zero_add]; exact hcell⟩
          · cases hj
      · exact .junk _ _ _
  case pts id ver i off =>
    obtain ⟨h1, ver', e, size, els, hob, hle, hcur⟩ := h.pts_inv
    by_cases hid : id < h0
    · rw [decide_eq_true hid]
      refine .pts _ _ _ _ _ _ _ ⟨h1, ver', e, size, els, by rw [nth?_eq] at hob ⊢; rw [waneHp_at hid, hob]; rfl, hle, fun hv => ?_⟩
      obtain ⟨g, len, cap, c2, c3⟩ := hcur hv
      exact ⟨g, len, cap, (take_at hid).trans c2, c3⟩
    · rw [decide_eq_false hid]; exact .junk _ _ _
  case func f x y =>
    cases x <;> cases y <;> simp only <;> first | exact .junk _ _ _ | skip
    obtain ⟨a, b, h1, h2, rfl⟩ := h.func_inv
    cases h1; cases h2
    exact .func _ _ _ _ _ _ _ (.nil _ _) (.nil _ _)
  case nilf => cases h; exact .nilf _ _
theorem reps_map {S' : Nat → Nat → Prop} {w' : World} {hp' : Hp} {φ' : List Pl} {g : AV → AV} (hg : ∀ a v, Rep S w hp φ a v → Rep S' w' hp' φ' (g a) v) {l : List AV} {vs : List Value} (h : Reps S w hp φ l vs) : Reps S' w' hp' φ' (l.map g) vs := by
  induction l generalizing vs with
  | nil => cases h; exact .nil _ _
  | cons a l ih => cases h with | cons _ _ _ v _ vs h t => exact .cons _ _ _ _ _ _ (hg a v h) (ih t)
theorem wane2_rep (hs : Sim P base S w hp φ) {a : AV} {v : Value} (h : Rep S w hp φ a v) : Rep (letGo S w hp φ h0) w (waneHp h0 hp) (φ.take h0) (wane2 h0 hp a) v := by
  cases a <;> simp only [wane2] <;> first | exact wane1_rep hs h | skip
  case agg cs =>
    obtain ⟨vs, h1, h2, rfl⟩ := h.agg_inv
    exact .agg _ _ _ _ (reps_map (fun a v h => wane1_rep hs h) h1) h2
  case func f x y =>
    obtain ⟨a, b, h1, h2, rfl⟩ := h.func_inv
    exact .func _ _ _ _ _ _ _ (reps_map (fun a v h => wane1_rep hs h) h1) (reps_map (fun a v h => wane1_rep hs h) h2)
theorem wane_rep (hs : Sim P base S w hp φ) {a : AV} {v : Value} (h : Rep S w hp φ a v) : Rep (letGo S w hp φ h0) w (waneHp h0 hp) (φ.take h0) (wane h0 hp a) v := by
  cases a <;> simp only [wane] <;> first | exact wane2_rep hs h | skip
  case tup cs =>
    obtain ⟨vs, h1, rfl⟩ := h.tup_inv
    exact .tup _ _ _ _ (reps_map (fun a v h => wane2_rep hs h) h1)
theorem keepTm_rep (hs : Sim P base S w hp φ) {keep : List Nat} {tm : Tm} {vs : List Value} (h : Reps S w hp φ tm vs) : ∀ i, Reps (letGo S w hp φ h0) w (waneHp h0 hp) (φ.take h0) (keepTm keep h0 hp i tm) vs := by
  induction tm generalizing vs with
  | nil => intro i; cases h; exact .nil _ _
  | cons a l ih => cases h with
    | cons _ _ _ v _ vs h t =>
      intro i
      refine .cons _ _ _ _ _ _ ?_ (ih t (i + 1))
      cases keep.contains i
      · exact .junk _ _ _
      · exact wane_rep hs h

theorem Sim.wane (hs : Sim P base S w hp φ) : Sim P base (letGo S w hp φ h0) w (waneHp h0 hp) (φ.take h0) := by
  have hat : ∀ i b, blockAt (φ.take h0) i = some b → i < h0 ∧ blockAt φ i = some b := by
    intro i b h
    unfold blockAt at h ⊢
    by_cases hi : i < h0
    · rw [take_at hi] at h; exact ⟨hi, h⟩
    · rw [List.getElem?_take, if_neg hi] at h; cases h
  have hno : ∀ i b, i < h0 → blockAt φ i = some b → ∀ o, letGo S w hp φ h0 b o ↔ S b o := by
    intro i b hi hb o
    refine ⟨fun h => ?_, .inl⟩
    rcases h with h | ⟨id, size, els, h1, h2, h3, _⟩ | ⟨id, ver, e, size, els, h1, h2, v0, h3, h4, _⟩
    · exact h
    · have := hs.apart i id b hb (by simp [blockAt, h3])
      omega
    · have := hs.apart i id b hb (by simp [blockAt, h3, h4])
      omega
  refine ⟨by simp [waneHp, hs.len], hs.low, fun b o h => ?_, fun id o ho => ?_, fun i j b hi hj => hs.apart i j b (hat i b hi).2 (hat j b hj).2⟩
  · rcases h with h | ⟨_, _, _, _, _, _, h⟩ | ⟨_, _, _, _, _, _, _, _, _, _, h⟩
    · exact hs.cell b o h
    · exact h
    · exact h
  · have hid : id < h0 := by
      have := nth?_lt ho
      simp [waneHp] at this; omega
    rw [waneHp_at hid] at ho
    cases hob : hp[id]? with
    | none => rw [hob] at ho; simp at ho
    | some ob =>
      rw [hob] at ho
      simp only [Option.map_some, Option.some.injEq] at ho
      subst ho
      have hok := hs.obj id ob hob
      have hφ : (φ.take h0)[id]? = φ[id]? := take_at hid
      cases ob with
      | var t cs =>
        obtain ⟨b, vs, E, h1, h2, h3, h4, h5, h6⟩ := hok
        have hat' : blockAt φ id = some b := by simp [blockAt, h1]
        exact ⟨b, vs, E, hφ.trans h1, h2, h3, reps_map (fun a v h => wane2_rep hs h) h4, h5, fun o ho => h6 o ((hno id b hid hat' o).1 ho)⟩
      | arr size els =>
        obtain ⟨b, vss, ex, E, h1, h2, h3, h4, h5, h6⟩ := hok
        have hat' : blockAt φ id = some b := by simp [blockAt, h1]
        exact ⟨b, vss, ex, E, hφ.trans h1, h2, h3, Repss.mono letGo_ext h4, h5, fun o ho => h6 o ((hno id b hid hat' o).1 ho)⟩
      | row e size els =>
        obtain ⟨v, vss, h1, h2, h3, h4, h5, h6, h7⟩ := hok
        have hat' : ∀ g, v.ownBlock = some g → blockAt φ id = some g := fun g hg => by simp [blockAt, h1, hg]
        exact ⟨v, vss, hφ.trans h1, h2, Repss.mono letGo_ext h3, h4, h5, h6, fun g hg o => (hno id g hid (hat' g hg) o).trans (h7 g hg o)⟩
      | stk ver e size els =>
        obtain ⟨v, vss, h1, h2, h3, h4, h5, h6, h7⟩ := hok
        have hat' : ∀ g, v.ownBlock = some g → blockAt φ id = some g := fun g hg => by simp [blockAt, h1, hg]
        exact ⟨v, vss, hφ.trans h1, h2, Repss.mono letGo_ext h3, h4, h5, h6, fun g hg o ho => h7 g hg o ((hno id g hid (hat' g hg) o).1 ho)⟩

theorem Trans.wane {S0 : Nat → Nat → Prop} {w0 : World} {hp0 : Hp} {φ0 : List Pl} (hs : Sim P base S w hp φ) (h : Trans base S0 w0 hp0 φ0 S w hp φ) (h1 : hp0.length ≤ h0) (h2 : φ0.length = hp0.length) : Trans base S0 w0 hp0 φ0 (letGo S w hp φ h0) w (waneHp h0 hp) (φ.take h0) := by
  refine ⟨h.s.trans letGo_ext, ⟨fun id b hb => ?_, fun id size els he => ?_, fun id e size els he => ?_, fun id ver e size els he => ?_⟩, h.below, fun b o hb => ?_, fun b o hb => ?_, fun i b hb => h.fr i b (?_), h.keep⟩
  · have := nth?_lt hb
    exact (take_at (by omega)).trans (h.hp.blk id b hb)
  · obtain ⟨els', e1, e2⟩ := h.hp.arr id size els he
    rw [nth?_eq] at he e1
    have := nth?_lt he
    exact ⟨els', by rw [nth?_eq, waneHp_at (by omega), e1]; rfl, e2⟩
  · obtain ⟨more, e1, e2⟩ := h.hp.row id e size els he
    rw [nth?_eq] at he e1
    have := nth?_lt he
    exact ⟨more, by rw [nth?_eq, waneHp_at (by omega), e1]; rfl, fun hm v hv => (take_at (by omega)).trans (e2 hm v hv)⟩
  · obtain ⟨v2, els', e1, e2, e3⟩ := h.hp.stk id ver e size els he
    rw [nth?_eq] at he e1
    have := nth?_lt he
    exact ⟨v2, els', by rw [nth?_eq, waneHp_at (by omega), e1]; rfl, e2, fun hv => ⟨(e3 hv).1, (take_at (by omega)).trans (e3 hv).2⟩⟩
  · rcases hb with hb | ⟨id, size, els, _, hob, hφ, _⟩ | ⟨id, _, _, _, _, _, hob, v0, hφ, hv0, _⟩
    · exact h.new b o hb
    · exact .inr (hs.block_lt (id := id) (by simp [blockAt, hφ])).1
    · exact .inr (hs.block_lt (id := id) (by simp [blockAt, hφ, hv0])).1
  · rcases hb with hb | ⟨id, size, els, _, hob, hφ, _⟩ | ⟨id, _, _, _, _, _, hob, v0, hφ, hv0, _⟩
    · exact h.mine b o hb
    · exact .inr (h.fr id b (by simp [blockAt, hφ]))
    · exact .inr (h.fr id b (by simp [blockAt, hφ, hv0]))
  · unfold blockAt at hb ⊢
    by_cases hi : i < h0
    · rw [take_at hi] at hb; exact hb
    · rw [List.getElem?_take, if_neg hi] at hb; cases hb
end
end Go.Proofs.Ytjobghbdfannfaa
end

section
namespace Go.Proofs.Ytjobghbdfannfaa
open Go.RowKit
set_option linter.unusedVariables false
set_option linter.unusedSimpArgs false

section
variable {ρ : Type} {P : Program} {H : Hints} {call : CallT} {f : FuncId} {tm : Tm} {hp : Hp}

theorem bif_bind {α : Type} (c : Bool) (a b : Option α) (K : α → Option ρ) : (bif c then a else b).bind K = bif c then a.bind K else b.bind K := by cases c <;> rfl
theorem mkAgg_nat (b : Option Bool) (cs : List AV) (K : AV → Option ρ) : mkAgg b cs K = (mkAgg b cs some).bind K := by
  unfold mkAgg; split
  · rfl
  · split <;> rfl
  · rfl
theorem sub_nat (l : List AV) (off n : Nat) (C : List AV → Option AV) (K : AV → Option ρ) (C' : List AV → Option ρ) (h : ∀ l, C' l = (C l).bind K) : sub l off n C' = (sub l off n C).bind K := by
  unfold sub; rw [bif_bind, h]; rfl
theorem load_nat (t : TypeId) (a : AV) (K : AV → Option ρ) : load P hp t K a = (load P hp t some a).bind K := by
  cases a <;> simp only [load] <;> first | rfl | skip
  · split
    · exact sub_nat _ _ _ _ _ _ fun l => mkAgg_nat _ _ _
    · rfl
  · split
    · split
      · exact sub_nat _ _ _ _ _ _ fun l => mkAgg_nat _ _ _
      · rfl
    · rfl
  · exact sub_nat _ _ _ _ _ _ fun l => mkAgg_nat _ _ _
  · repeat' split
    all_goals first | rfl | exact sub_nat _ _ _ _ _ _ fun l => mkAgg_nat _ _ _
theorem splitI_nat (i : Int) (C : Nat → Option AV) (C' : Nat → Option ρ) (K : AV → Option ρ) (h : ∀ n, C' n = (C n).bind K) (n : Nat) : splitI i C' n = (splitI i C n).bind K := by
  rw [splitI_eq, splitI_eq, bif_bind, h]; rfl
theorem binInt_nat (op : BinOp) (k : IntKind) (a b : Int) (K : AV → Option ρ) : binInt op k a b K = (binInt op k a b some).bind K := by
  cases op <;> simp only [binInt, bif_bind] <;> rfl
theorem eqs_nat (C : Bool → Option AV) (C' : Bool → Option ρ) (K : AV → Option ρ) (h : ∀ c, C' c = (C c).bind K) (fs : List Field) : ∀ (xs ys : List AV), eqs P C' fs xs ys = (eqs P C fs xs ys).bind K := by
  induction fs generalizing C C' with
  | nil => intro xs ys; cases xs <;> cases ys <;> simp only [eqs] <;> first | exact h _ | rfl
  | cons g fs ih =>
    intro xs ys
    cases xs <;> cases ys <;> simp only [eqs] <;> first | rfl | skip
    repeat' split
    all_goals first | rfl | exact ih _ _ (fun c => h _) _ _
theorem binop_nat (t : TypeId) (op : BinOp) (a b : AV) (K : AV → Option ρ) : binop P t op K a b = (binop P t op some a b).bind K := by
  cases a <;> cases b <;> simp only [binop] <;> first | rfl | skip
  all_goals (repeat' split)
  all_goals first | rfl | exact binInt_nat _ _ _ _ _ | (rw [bif_bind]; rfl) | (refine eqs_nat _ _ _ (fun c => ?_) _ _ _; rfl)
theorem alen_nat (C : Nat → Option AV) (C' : Nat → Option ρ) (K : AV → Option ρ) (h : ∀ n, C' n = (C n).bind K) (a : AV) : alen C' a = (alen C a).bind K := by
  cases a <;> simp only [alen] <;> first | exact h _ | rfl
theorem shiftP_nat (a : AV) (n : Nat) (K : AV → Option ρ) : shiftP K a n = (shiftP some a n).bind K := by cases a <;> rfl
theorem elemAt_nat (size n : Nat) (els : List (List AV)) (i : Int) (sz : Nat) (K : AV → Option ρ) : elemAt size n els i sz K = (elemAt size n els i sz some).bind K := by
  unfold elemAt; split
  · rw [bif_bind]; congr 1; split <;> rfl
  · rfl
theorem indexA_nat (t : TypeId) (x : AV) (i : Int) (K : AV → Option ρ) : indexA P hp t x i K = (indexA P hp t x i some).bind K := by
  unfold indexA; split
  · split
    · split
      · exact splitI_nat _ _ _ _ (fun n => shiftP_nat _ _ _) _
      · rfl
    · rfl
  · cases x <;> simp only <;> first | rfl | exact elemAt_nat _ _ _ _ _ _ | skip
    · split
      · exact elemAt_nat _ _ _ _ _ _
      · rfl
    · split
      · split
        · rw [bif_bind]; rfl
        · rfl
      · rfl
    · split
      · split
        · rw [bif_bind]; rfl
        · rfl
      · rfl
theorem bounds_nat (n : Nat) (lo hi : Option AV) (C : Nat → Nat → Option AV) (C' : Nat → Nat → Option ρ) (K : AV → Option ρ) (h : ∀ l m, C' l m = (C l m).bind K) : bounds n lo hi C' = (bounds n lo hi C).bind K := by
  unfold bounds
  repeat' split
  all_goals first | rfl | exact h _ _ | (rw [bif_bind, h]; rfl)
theorem cutS_nat (x : AV) (sz : Nat) (lo hi : Option AV) (K : AV → Option ρ) : cutS hp x sz lo hi K = (cutS hp x sz lo hi some).bind K := by
  unfold cutS
  repeat' split
  all_goals first | rfl | exact bounds_nat _ _ _ _ _ _ fun l _ => by first | rfl | (cases l <;> rfl)
theorem pure_nat (op : Op) (K : AV → Option ρ) : pureOp P tm hp op K = (pureOp P tm hp op some).bind K := by
  unfold pureOp
  split
  case h_4 => exact binop_nat _ _ _ _ _
  case h_12 => exact load_nat _ _ _
  all_goals (repeat' split)
  all_goals first
    | rfl
    | (rw [bif_bind]; first | rfl | (congr 1; split <;> rfl))
    | exact shiftP_nat _ _ _
    | exact sub_nat _ _ _ _ _ _ (fun l => mkAgg_nat _ _ _)
    | exact indexA_nat _ _ _ _
    | exact splitI_nat _ _ _ _ (fun n => sub_nat _ _ _ _ _ _ (fun l => mkAgg_nat _ _ _)) _
    | exact bounds_nat _ _ _ _ _ _ (fun _ _ => rfl)
    | exact cutS_nat _ _ _ _ _
    | (refine alen_nat _ _ _ (fun _ => ?_) _; rfl)

/-- A step by itself. -/
def stepD (P : Program) (H : Hints) (call : CallT) (f : FuncId) (o : Oper) (tm : Tm) (hp : Hp) : Option (AV × Hp) := stepV P H call f o tm hp fun v hp => some (v, hp)

theorem asOb_nat (t : TypeId) (b1 b2 : Bool) (v : AV) (K : AV → Hp → Option ρ) : asOb P t b1 b2 hp K v = (asOb P t b1 b2 hp (fun v hp => some (v, hp)) v).bind fun p => K p.1 p.2 := by
  unfold asOb
  simp only [forceHp_eq]
  repeat' split
  all_goals rfl
theorem cutK_nat (b : Bool) (v : AV) (K : AV → Hp → Option ρ) : cutK b hp K v = (cutK b hp (fun v hp => some (v, hp)) v).bind fun p => K p.1 p.2 := by
  unfold cutK
  simp only [forceHp_eq]
  repeat' split
  all_goals rfl
theorem callSub_nat (g : FuncId) (raw : List AV) (hp : Hp) (K : AV → Hp → Option ρ) : callSub P call g raw hp K = (callSub P call g raw hp (fun v hp => some (v, hp))).bind fun p => K p.1 p.2 := by
  unfold callSub subCall
  simp only [forceHp_eq, forceL_eq force2_eq, forceN_eq]
  repeat' split
  all_goals rfl
theorem step_nat (o : Oper) (K : AV → Hp → Option ρ) : stepV P H call f o tm hp K = (stepD P H call f o tm hp).bind fun p => K p.1 p.2 := by
  have pu : ∀ op : Op, pureOp P tm hp op (fun v => K v hp) = (pureOp P tm hp op fun v => some (v, hp)).bind fun p => K p.1 p.2 := fun op => by
    rw [pure_nat, pure_nat (K := fun v => some (v, hp))]
    cases pureOp P tm hp op some <;> rfl
  have po : ∀ (op : Op) (t : TypeId) (b1 b2 : Bool), pureOp P tm hp op (fun v => asOb P t b1 b2 hp K v) = (pureOp P tm hp op fun v => asOb P t b1 b2 hp (fun v hp => some (v, hp)) v).bind fun p => K p.1 p.2 := fun op t b1 b2 => by
    rw [pure_nat, pure_nat (K := fun v => asOb P t b1 b2 hp (fun v hp => some (v, hp)) v)]
    cases pureOp P tm hp op some with
    | none => rfl
    | some v => exact asOb_nat _ _ _ _ _
  unfold stepD stepV
  simp only [forceHp_eq]
  split
  case h_2 => exact po _ _ _ _
  case h_3 => exact po _ _ _ _
  case h_8 t x lo hi mx _ =>
    rw [pure_nat, pure_nat (K := fun v => cutK (stkAt H f o.dst) hp (fun v hp => some (v, hp)) v)]
    cases pureOp P tm hp (.slice t x lo hi mx) some with
    | none => rfl
    | some v => exact cutK_nat _ _ _
  all_goals (repeat' split)
  all_goals first
    | rfl
    | exact pu _
    | exact callSub_nat _ _ _ _
    | (rw [bif_bind]; rfl)
    | (rw [bif_bind, bif_bind]; rfl)

/-- A step with its guard. -/
def stepG (P : Program) (H : Hints) (call : CallT) (f : FuncId) (ops : List Oper) (o : Oper) (tm : Tm) (hp : Hp) : Option (Tm × Hp) := match o.guard with
  | none => (stepD P H call f o tm hp).map fun p => (put tm o.dst p.1, p.2)
  | some (j, want) => match (nth? ops j).bind (·.dst) with
    | none => none
    | some t => match nth .junk tm t with
      | .bool b => if b = want then (stepD P H call f o tm hp).map fun p => (put tm o.dst p.1, p.2) else some (put tm o.dst (.tup []), hp)
      | .tup [] => some (put tm o.dst (.tup []), hp)
      | _ => none

def seqD (P : Program) (H : Hints) (call : CallT) (f : FuncId) (ops : List Oper) : List Oper → Tm → Hp → Option (Tm × Hp)
  | [], tm, hp => some (tm, hp)
  | o :: l, tm, hp => (stepG P H call f ops o tm hp).bind fun p => seqD P H call f ops l p.1 p.2

theorem guard_eq (ops : List Oper) (o : Oper) (C : Tm → Hp → Option ρ) : (match o.guard with
      | none => stepV P H call f o tm hp fun v hp => putK tm o.dst v fun tm => C tm hp
      | some (j, want) => match (nth? ops j).bind (·.dst) with
        | none => none
        | some t => match nth .junk tm t with
          | .bool b => match want with
            | true => bif b then stepV P H call f o tm hp (fun v hp => putK tm o.dst v fun tm => C tm hp) else (putK tm o.dst (.tup []) fun tm => C tm hp)
            | false => bif b then (putK tm o.dst (.tup []) fun tm => C tm hp) else stepV P H call f o tm hp (fun v hp => putK tm o.dst v fun tm => C tm hp)
          | .tup [] => putK tm o.dst (.tup []) fun tm => C tm hp
          | _ => none) = (stepG P H call f ops o tm hp).bind fun p => C p.1 p.2 := by
  have yes : (stepV P H call f o tm hp fun v hp => putK tm o.dst v fun tm => C tm hp) = ((stepD P H call f o tm hp).map fun p => (put tm o.dst p.1, p.2)).bind fun p => C p.1 p.2 := by
    rw [step_nat]
    simp only [putK_eq]
    cases stepD P H call f o tm hp <;> rfl
  unfold stepG
  cases o.guard with
  | none => exact yes
  | some p =>
    obtain ⟨j, want⟩ := p
    simp only
    split
    · rfl
    · split
      · rename_i b _
        simp only [putK_eq] at yes
        cases want <;> cases b <;> simp only [cond_true, cond_false, putK_eq]
        · rw [if_pos trivial]; exact yes
        · rfl
        · rfl
        · rw [if_pos trivial]; exact yes
      · simp only [putK_eq]; rfl
      · rfl

theorem runOps_eq (ops : List Oper) : ∀ (l : List Oper) (tm : Tm) (hp : Hp) (K : Tm → Hp → Option ρ), runOps P H call f ops l tm hp K = (seqD P H call f ops l tm hp).bind fun p => K p.1 p.2
  | [], tm, hp, K => rfl
  | o :: l, tm, hp, K => by
    rw [runOps_cons]
    have := guard_eq (P := P) (H := H) (call := call) (f := f) (tm := tm) (hp := hp) ops o (fun tm hp => runOps P H call f ops l tm hp K)
    refine this.trans ?_
    rw [seqD]
    cases stepG P H call f ops o tm hp with
    | none => rfl
    | some p => exact runOps_eq ops l p.1 p.2 K
end

def clsOk : Cls → Cls → Bool
  | .P, _ | _, .P => true
  | .R, .R | .R, .C | .C, .R | .C, .C | .R, .A | .C, .A | .R, .G => true
  | _, _ => false

/-- The objects that were there are there, and rows have grown at most. -/
def Grown (hp hp' : Hp) : Prop := ∀ id o, nth? hp id = some o → ∃ o', nth? hp' id = some o' ∧ (o' = o ∨ ∃ e size els more, o = .row e size els ∧ o' = .row e size (els ++ more))
def More (hp hp' : Hp) : Prop := ∀ id o, nth? hp id = some o → nth? hp' id = some o
theorem More.append (hp x : Hp) : More hp (hp ++ x) := fun id o h => by
  rw [nth?_eq] at h ⊢; rw [List.getElem?_append_left (nth?_lt h)]; exact h
theorem More.grown {hp hp' : Hp} (h : More hp hp') : Grown hp hp' := fun id o ho => ⟨o, h id o ho, .inl rfl⟩

section
variable {P : Program} {H : Hints} {call : CallT} {f : FuncId} {tm tm' : Tm} {hp hp' : Hp}

theorem bif_some {α : Type} {c : Bool} {a : Option α} {r : α} (h : (bif c then a else none) = some r) : c = true ∧ a = some r := by cases c <;> simp at h ⊢; exact h
theorem load_grown {t : TypeId} {a v : AV} (hg : Grown hp hp') (h : load P hp t some a = some v) : load P hp' t some a = some v := by
  cases a <;> simp only [load] at h ⊢ <;> first | exact h | skip
  case ptr id off =>
    cases ho : nth? hp id with
    | none => rw [ho] at h; cases h
    | some o =>
      obtain ⟨o', h1, h2⟩ := hg id o ho
      rw [ho] at h
      rcases h2 with rfl | ⟨e, size, els, more, rfl, rfl⟩
      · rw [h1]; exact h
      · cases h
  case pte id i off =>
    cases ho : nth? hp id with
    | none => rw [ho] at h; cases h
    | some o =>
      obtain ⟨o', h1, h2⟩ := hg id o ho
      rw [ho] at h
      rcases h2 with rfl | ⟨e, size, els, more, rfl, rfl⟩
      · rw [h1]; exact h
      · cases h
  case pts id ver i off =>
    cases ho : nth? hp id with
    | none => rw [ho] at h; cases h
    | some o =>
      obtain ⟨o', h1, h2⟩ := hg id o ho
      rw [ho] at h
      rcases h2 with rfl | ⟨e, size, els, more, rfl, rfl⟩
      · rw [h1]; exact h
      · cases h
theorem elemAt_grown {size n : Nat} {els more : List (List AV)} {i : Int} {sz : Nat} {v : AV} (h : elemAt size n els i sz some = some v) : elemAt size n (els ++ more) i sz some = some v := by
  obtain ⟨el, ⟨h1, h2⟩, h3, h4, h5, h6⟩ := elemAt_some h
  subst h1
  cases h6
  have hlt := nth?_lt h5
  simp only [elemAt, h2, h3, h4, decide_true, Bool.and_self, cond_true, nth?_eq, List.getElem?_append_left hlt, h5]
theorem indexA_grown {t : TypeId} {x v : AV} {i : Int} (hg : Grown hp hp') (h : indexA P hp t x i some = some v) : indexA P hp' t x i some = some v := by
  unfold indexA at h ⊢
  cases he : elemOf P t with
  | none => rw [he] at h; exact h
  | some e =>
    rw [he] at h
    cases x <;> simp only at h ⊢ <;> first | exact h | skip
    case row id n =>
      cases ho : nth? hp id with
      | none => rw [ho] at h; cases h
      | some o =>
        obtain ⟨o', h1, h2⟩ := hg id o ho
        rw [ho] at h
        rcases h2 with rfl | ⟨e', size, els, more, rfl, rfl⟩
        · rw [h1]; exact h
        · rw [h1]; exact elemAt_grown h
    case own id off n =>
      cases ho : nth? hp id with
      | none => rw [ho] at h; cases h
      | some o =>
        obtain ⟨o', h1, h2⟩ := hg id o ho
        rw [ho] at h
        rcases h2 with rfl | ⟨e', size, els, more, rfl, rfl⟩
        · rw [h1]; exact h
        · cases h
    case stk id ver n =>
      cases ho : nth? hp id with
      | none => rw [ho] at h; cases h
      | some o =>
        obtain ⟨o', h1, h2⟩ := hg id o ho
        rw [ho] at h
        rcases h2 with rfl | ⟨e', size, els, more, rfl, rfl⟩
        · rw [h1]; exact h
        · cases h
theorem elsOf_more {size : Nat} {a : AV} {els : List (List AV)} (hg : More hp hp') (h : elsOf hp size a = some els) : elsOf hp' size a = some els := by
  have key : ∀ id, (∃ o, nth? hp id = some o) → nth? hp' id = nth? hp id := fun id ⟨o, ho⟩ => by rw [ho]; exact hg id o ho
  cases a <;> simp only [elsOf] at h ⊢ <;> first | exact h | skip
  case row id n => rw [key id (by cases ho : nth? hp id with | none => rw [ho] at h; cases h | some o => exact ⟨o, rfl⟩)]; exact h
  case own id off n => rw [key id (by cases ho : nth? hp id with | none => rw [ho] at h; cases h | some o => exact ⟨o, rfl⟩)]; exact h
  case stk id ver n => rw [key id (by cases ho : nth? hp id with | none => rw [ho] at h; cases h | some o => exact ⟨o, rfl⟩)]; exact h
theorem close1_more {a v : AV} (hg : More hp hp') (h : close1 hp a = some v) : close1 hp' a = some v := by
  cases a <;> simp only [close1] at h ⊢ <;> first | exact h | skip
  case row id n =>
    cases ho : nth? hp id with
    | none => rw [ho] at h; cases h
    | some o => rw [ho] at h; rw [hg id o ho]; exact h
  case func f a b => cases a <;> cases b <;> simp only [close1] at h ⊢ <;> first | exact h | (cases h; done)
theorem closeL_more (hg : More hp hp') : ∀ {l l' : List AV}, closeL hp l = some l' → closeL hp' l = some l'
  | [], l', h => h
  | a :: l, l', h => by
    simp only [closeL] at h ⊢
    cases h1 : close1 hp a with
    | none => rw [h1] at h; cases h
    | some a' =>
      cases h2 : closeL hp l with
      | none => rw [h1, h2] at h; cases h
      | some l2 => rw [h1, h2] at h; rw [close1_more hg h1, closeL_more hg h2]; exact h
theorem close_more {a v : AV} (hg : More hp hp') (h : close hp a = some v) : close hp' a = some v := by
  by_cases ha : ∃ cs, a = .agg cs
  · obtain ⟨cs, rfl⟩ := ha
    simp only [close] at h ⊢
    cases h3 : closeL hp cs with
    | none => rw [h3] at h; cases h
    | some cs' => rw [h3] at h; rw [closeL_more hg h3]; exact h
  · have e1 : ∀ hp : Hp, close hp a = close1 hp a := fun hp => by cases a <;> first | rfl | exact absurd ⟨_, rfl⟩ ha
    rw [e1] at h ⊢
    exact close1_more hg h
theorem closeArgs_more (hg : More hp hp') : ∀ {l l' : List AV}, closeArgs hp l = some l' → closeArgs hp' l = some l'
  | [], l', h => h
  | a :: l, l', h => by
    simp only [closeArgs] at h ⊢
    cases h1 : close hp a with
    | none => rw [h1] at h; cases h
    | some a' =>
      cases h2 : closeArgs hp l with
      | none => rw [h1, h2] at h; cases h
      | some l2 => rw [h1, h2] at h; rw [close_more hg h1, closeArgs_more hg h2]; exact h
theorem closeO1_more {a v : AV} (hg : More hp hp') (h : closeO1 hp a = some v) : closeO1 hp' a = some v := by
  by_cases ha : isOwn a = true
  · cases a <;> first | (cases ha; done) | skip
    case own id off n =>
      simp only [closeO1] at h ⊢
      cases ho : nth? hp id with
      | none => rw [ho] at h; cases h
      | some o => rw [ho] at h; rw [hg id o ho]; exact h
    case stk id ver n =>
      simp only [closeO1] at h ⊢
      cases ho : nth? hp id with
      | none => rw [ho] at h; cases h
      | some o => rw [ho] at h; rw [hg id o ho]; exact h
  · have e1 : ∀ hp : Hp, closeO1 hp a = close1 hp a := fun hp => by cases a <;> first | rfl | exact absurd rfl ha
    rw [e1] at h ⊢
    exact close1_more hg h
theorem closeOL_more (hg : More hp hp') : ∀ {l l' : List AV}, closeOL hp l = some l' → closeOL hp' l = some l'
  | [], l', h => h
  | a :: l, l', h => by
    simp only [closeOL] at h ⊢
    cases h1 : closeO1 hp a with
    | none => rw [h1] at h; cases h
    | some a' =>
      cases h2 : closeOL hp l with
      | none => rw [h1, h2] at h; cases h
      | some l2 => rw [h1, h2] at h; rw [closeO1_more hg h1, closeOL_more hg h2]; exact h
theorem closeO_more {a v : AV} (hg : More hp hp') (h : closeO hp a = some v) : closeO hp' a = some v := by
  by_cases ha : ∃ cs, a = .agg cs
  · obtain ⟨cs, rfl⟩ := ha
    simp only [closeO] at h ⊢
    cases h3 : closeOL hp cs with
    | none => rw [h3] at h; cases h
    | some cs' => rw [h3] at h; rw [closeOL_more hg h3]; exact h
  · have e1 : ∀ hp : Hp, closeO hp a = closeO1 hp a := fun hp => by cases a <;> first | rfl | exact absurd ⟨_, rfl⟩ ha
    rw [e1] at h ⊢
    exact closeO1_more hg h
theorem closeOArgs_more (hg : More hp hp') : ∀ {l l' : List AV}, closeOArgs hp l = some l' → closeOArgs hp' l = some l'
  | [], l', h => h
  | a :: l, l', h => by
    simp only [closeOArgs] at h ⊢
    cases h1 : closeO hp a with
    | none => rw [h1] at h; cases h
    | some a' =>
      cases h2 : closeOArgs hp l with
      | none => rw [h1, h2] at h; cases h
      | some l2 => rw [h1, h2] at h; rw [closeO_more hg h1, closeOArgs_more hg h2]; exact h
theorem elems_more (hg : More hp hp') {size : Nat} {tys : List TypeId} : ∀ {ps : List (Nat × Operand)} {k : Nat} {els : List (List AV)}, elems P tys hp size tm k ps = some els → elems P tys hp' size tm k ps = some els
  | [], k, els, h => h
  | (i, x) :: rest, k, els, h => by
    simp only [elems] at h ⊢
    split at h
    · rename_i hc
      try rw [hc]
      try simp only
      cases h1 : closeL hp (norms P tys (ev tm x).cells) with
      | none => rw [h1] at h; cases h
      | some c =>
        cases h2 : elems P tys hp size tm (k + 1) rest with
        | none => rw [h1, h2] at h; cases h
        | some l => rw [h1, h2] at h; rw [closeL_more hg h1, elems_more hg h2]; exact h
    · cases h
theorem cutS_more {x v : AV} {sz : Nat} {lo hi : Option AV} (hg : More hp hp') (h : cutS hp x sz lo hi some = some v) : cutS hp' x sz lo hi some = some v := by
  cases x <;> simp only [cutS] at h ⊢ <;> first | exact h | skip
  case row id n =>
    cases ho : nth? hp id with
    | none => rw [ho] at h; cases h
    | some o => rw [ho] at h; rw [hg id o ho]; exact h
  case own id off n =>
    cases ho : nth? hp id with
    | none => rw [ho] at h; cases h
    | some o => rw [ho] at h; rw [hg id o ho]; exact h
  case stk id ver n =>
    cases ho : nth? hp id with
    | none => rw [ho] at h; cases h
    | some o => rw [ho] at h; rw [hg id o ho]; exact h

theorem inlAt_func {g g' : FuncId} : inlAt H f (.func g') g = H.inl f g := by simp [inlAt, isTmp]
theorem stepD_pure {o : Oper} {op : Op} (ho : o.op = op) (hst : ∀ hp, stepD P H call f o tm hp = pureOp P tm hp op fun v => some (v, hp)) {v : AV} {hp1 : Hp} (h : stepD P H call f o tm hp = some (v, hp1)) :
    hp1 = hp ∧ pureOp P tm hp op some = some v ∧ ∀ hp2, pureOp P tm hp2 op some = some v → stepD P H call f o tm hp2 = some (v, hp2) := by
  rw [hst, pure_nat] at h
  cases hv : pureOp P tm hp op some with
  | none => rw [hv] at h; cases h
  | some u =>
    rw [hv] at h
    cases h
    exact ⟨rfl, rfl, fun hp2 h2 => by rw [hst, pure_nat, h2]; rfl⟩

theorem step_P {o : Oper} (hc : cls H f o = .P) {v : AV} {hp1 : Hp} (h : stepD P H call f o tm hp = some (v, hp1)) : hp1 = hp ∧ ∀ hp2, stepD P H call f o tm hp2 = some (v, hp2) := by
  have fin : ∀ op : Op, o.op = op → (∀ hp, stepD P H call f o tm hp = pureOp P tm hp op fun v => some (v, hp)) → (∀ hp2, pureOp P tm hp op some = pureOp P tm hp2 op some) → hp1 = hp ∧ ∀ hp2, stepD P H call f o tm hp2 = some (v, hp2) := fun op ho hst hrfl => by
    obtain ⟨h1, h2, h3⟩ := stepD_pure ho hst h
    exact ⟨h1, fun hp2 => h3 hp2 (by rw [← hrfl hp2]; exact h2)⟩
  unfold cls at hc
  cases ho : o.op <;> rw [ho] at hc <;> simp only at hc <;> first | (cases hc; done) | ((repeat' split at hc) <;> (cases hc; done)) | skip
  case assign x =>
    have hob : objAt H f o.dst = false ∧ stkAt H f o.dst = false := by
      cases hob : objAt H f o.dst with
      | true => rw [hob] at hc; cases hc
      | false => cases hst : stkAt H f o.dst with
        | true => rw [hob, hst] at hc; cases hc
        | false => exact ⟨rfl, rfl⟩
    have hst : ∀ hp, stepD P H call f o tm hp = some (ev tm x, hp) := fun hp => by
      simp only [stepD, stepV, ho, hob.1, hob.2]
      split
      · rename_i hx; rw [hx]
      · rfl
    rw [hst] at h; cases h
    exact ⟨rfl, fun hp2 => hst hp2⟩
  case call c =>
    obtain ⟨cal, args, ats⟩ := c
    cases cal with
    | value x => cases x <;> simp only at hc <;> first | (cases hc; done) | ((repeat' split at hc) <;> (cases hc; done)) | skip
                 repeat' split at hc
                 all_goals cases hc
    | invoke _ _ => cases hc
    | builtin b =>
      cases b <;> simp only at hc <;> first | (cases hc; done) | ((repeat' split at hc) <;> (cases hc; done)) | skip
      all_goals exact fin _ ho (fun hp => by simp only [stepD, stepV, ho]) (fun _ => rfl)
  case makeSlice t n c =>
    have hob : objAt H f o.dst = false ∧ arrAt H f o.dst = false := by
      cases h1 : objAt H f o.dst <;> cases h2 : arrAt H f o.dst <;> rw [h1, h2] at hc <;> first | (cases hc; done) | exact ⟨rfl, rfl⟩
    exact fin _ ho (fun hp => by simp only [stepD, stepV, ho, hob.1, hob.2, asOb]) (fun _ => rfl)
  case unOp u t x => cases u <;> exact fin _ ho (fun hp => by simp only [stepD, stepV, ho]) (fun _ => rfl)
  case makeFunc fn x y => cases fn <;> exact fin _ ho (fun hp => by simp only [stepD, stepV, ho]) (fun _ => rfl)
  all_goals exact fin _ ho (fun hp => by simp only [stepD, stepV, ho]) (fun _ => rfl)
theorem step_R {o : Oper} (hc : cls H f o = .R) {v : AV} {hp1 : Hp} (h : stepD P H call f o tm hp = some (v, hp1)) : hp1 = hp ∧ ∀ hp2, Grown hp hp2 → stepD P H call f o tm hp2 = some (v, hp2) := by
  have fin : ∀ op : Op, o.op = op → (∀ hp, stepD P H call f o tm hp = pureOp P tm hp op fun v => some (v, hp)) → (∀ hp2, Grown hp hp2 → pureOp P tm hp op some = some v → pureOp P tm hp2 op some = some v) → hp1 = hp ∧ ∀ hp2, Grown hp hp2 → stepD P H call f o tm hp2 = some (v, hp2) := fun op ho hst hrfl => by
    obtain ⟨h1, h2, h3⟩ := stepD_pure ho hst h
    exact ⟨h1, fun hp2 hg => h3 hp2 (hrfl hp2 hg h2)⟩
  unfold cls at hc
  cases ho : o.op <;> rw [ho] at hc <;> simp only at hc <;> first | (cases hc; done) | ((repeat' split at hc) <;> (cases hc; done)) | skip
  case load t a => exact fin _ ho (fun hp => by simp only [stepD, stepV, ho]) (fun hp2 hg h => by simp only [pureOp] at h ⊢; exact load_grown hg h)
  case indexAddr t x y =>
    refine fin _ ho (fun hp => by simp only [stepD, stepV, ho]) (fun hp2 hg h => ?_)
    simp only [pureOp] at h ⊢
    cases hy : ev tm y <;> rw [hy] at h <;> simp only at h ⊢ <;> first | (cases h; done) | exact indexA_grown hg h
theorem nilApp_spec {o : Oper} {l : List Operand} {ats : Array TypeId} (ho : o.op = .call ⟨.builtin .append, ⟨.const (.slice none 0 0) :: l⟩, ats⟩) (hst : stkAt H f o.dst = false) (hob : objAt H f o.dst = false) (har : arrAt H f o.dst = false) {v : AV} {hp1 : Hp} (h : stepD P H call f o tm hp = some (v, hp1)) :
    hp1 = hp ∧ ∃ x sz news, x ∈ o.op.operands ∧ elsOf hp sz (ev tm x) = some news ∧ ∀ hp2, elsOf hp2 sz (ev tm x) = some news → stepD P H call f o tm hp2 = some (v, hp2) := by
  have hev : ev tm (.const (.slice none 0 0)) = .nils := rfl
  obtain ⟨ats⟩ := ats
  rcases l with _ | ⟨x, _ | ⟨y, l⟩⟩
  · simp only [stepD, stepV, ho] at h; cases h
  · rcases ats with _ | ⟨t, _ | ⟨t', _ | ⟨t2, ats⟩⟩⟩
    · simp only [stepD, stepV, ho] at h; cases h
    · simp only [stepD, stepV, ho] at h; cases h
    · cases htt : decide (t = t') with
      | false => simp only [stepD, stepV, ho, htt] at h; cases h
      | true =>
      cases he : elemOf P t with
      | none => simp only [stepD, stepV, ho, htt, he] at h; cases h
      | some e =>
      cases hz : zero P e with
      | none => simp only [stepD, stepV, ho, htt, he, hz] at h; cases h
      | some z =>
      cases hq : (decide (z.cells.length = P.cellsOf e) && z.cells.all AV.one && decide (0 < P.cellsOf e)) with
      | false => simp only [stepD, stepV, ho, htt, he, hz, hq] at h; cases h
      | true =>
      cases hx : elsOf hp (P.cellsOf e) (ev tm x) with
      | none => simp only [stepD, stepV, ho, htt, he, hz, hq, hx] at h; cases h
      | some news =>
      cases hb : decide (news.length * (P.bytesOf e + 1) ≤ 140737488355328) with
      | false => simp only [stepD, stepV, ho, htt, he, hz, hq, hx, hev, hb, cond_false] at h; cases h
      | true =>
      simp only [stepD, stepV, ho, htt, he, hz, hq, hx, hev, hb, cond_true, hob, har] at h
      cases h
      refine ⟨rfl, x, P.cellsOf e, news, by rw [ho]; simp [Op.operands, Call.operands], hx, fun hp2 h2 => ?_⟩
      simp only [stepD, stepV, ho, htt, he, hz, hq, h2, hev, hb, cond_true, hob, har]
    · simp only [stepD, stepV, ho] at h; cases h
  · simp only [stepD, stepV, ho] at h; cases h
theorem nilApp_of {o : Oper} {args : Array Operand} (hc : (match stkAt H f o.dst with
      | true => Cls.W
      | false => match objAt H f o.dst || arrAt H f o.dst || !nilArg args.toList with
        | true => .G
        | false => .C) = .C) : stkAt H f o.dst = false ∧ objAt H f o.dst = false ∧ arrAt H f o.dst = false ∧ ∃ l, args = ⟨.const (.slice none 0 0) :: l⟩ := by
  cases h1 : stkAt H f o.dst <;> rw [h1] at hc <;> simp only at hc
  · cases h2 : objAt H f o.dst <;> cases h3 : arrAt H f o.dst <;> rw [h2, h3] at hc <;> simp only [Bool.or_true, Bool.true_or, Bool.or_false, Bool.false_or, reduceCtorEq] at hc
    cases h4 : nilArg args.toList with
    | false => rw [h4] at hc; simp at hc
    | true =>
      refine ⟨rfl, rfl, rfl, ?_⟩
      obtain ⟨l⟩ := args
      unfold nilArg at h4
      split at h4
      · rename_i l' hl
        simp only at hl
        exact ⟨l', by rw [hl]⟩
      · cases h4
  · cases hc
theorem step_C {o : Oper} (hc : cls H f o = .C) {v : AV} {hp1 : Hp} (h : stepD P H call f o tm hp = some (v, hp1)) : hp1 = hp ∧ ∀ hp2, More hp hp2 → stepD P H call f o tm hp2 = some (v, hp2) := by
  have fin : ∀ op : Op, o.op = op → (∀ hp, stepD P H call f o tm hp = pureOp P tm hp op fun v => some (v, hp)) → (∀ hp2, More hp hp2 → pureOp P tm hp op some = some v → pureOp P tm hp2 op some = some v) → hp1 = hp ∧ ∀ hp2, More hp hp2 → stepD P H call f o tm hp2 = some (v, hp2) := fun op ho hst hrfl => by
    obtain ⟨h1, h2, h3⟩ := stepD_pure ho hst h
    exact ⟨h1, fun hp2 hg => h3 hp2 (hrfl hp2 hg h2)⟩
  unfold cls at hc
  cases ho : o.op <;> rw [ho] at hc <;> simp only at hc <;> first | (cases hc; done) | ((repeat' split at hc) <;> (cases hc; done)) | skip
  case buildSlice t n ps =>
    have hob : objAt H f o.dst = false ∧ arrAt H f o.dst = false := by
      cases h1 : objAt H f o.dst <;> cases h2 : arrAt H f o.dst <;> rw [h1, h2] at hc <;> first | (cases hc; done) | exact ⟨rfl, rfl⟩
    refine fin _ ho (fun hp => by simp only [stepD, stepV, ho, hob.1, hob.2, asOb]) (fun hp2 hg h => ?_)
    simp only [pureOp] at h ⊢
    repeat' split at h
    all_goals first | (cases h; done) | skip
    rename_i h1 _ h2 _ h3 _ h4 _ h5
    simp_all [elems_more hg h5]
  case slice t x lo hi mx =>
    have hst : stkAt H f o.dst = false := by
      cases hs : stkAt H f o.dst with
      | false => rfl
      | true => rw [hs] at hc; cases hc
    refine fin _ ho (fun hp => by simp only [stepD, stepV, ho, hst]; rfl) (fun hp2 hg h => ?_)
    cases mx with
    | some _ => simp only [pureOp] at h; cases h
    | none =>
      simp only [pureOp] at h ⊢
      cases hu : P.underlying t with
      | none => rw [hu] at h; cases h
      | some d =>
        rw [hu] at h
        cases d <;> simp only at h ⊢ <;> first | exact h | skip
        rename_i et
        cases hz : decide (0 < P.cellsOf et) with
        | false => rw [hz] at h; cases h
        | true => rw [hz] at h; exact cutS_more hg h
  case convert s t x =>
    refine fin _ ho (fun hp => by simp only [stepD, stepV, ho]) (fun hp2 hg h => ?_)
    simp only [pureOp] at h ⊢
    split at h
    · exact h
    · split at h
      · exact h
      · split at h
        · cases hx : elsOf hp 1 (ev tm x) with
          | none => rw [hx] at h; cases h
          | some els => rw [hx] at h; rw [elsOf_more hg hx]; exact h
        · exact h
      · exact h
    · exact h
  case call c =>
    obtain ⟨cal, args, ats⟩ := c
    cases cal with
    | value x =>
      cases x <;> simp only at hc <;> first | (cases hc; done) | ((repeat' split at hc) <;> (cases hc; done)) | skip
      rename_i g
      cases hi : H.inl f g with
      | true => rw [hi] at hc; simp only at hc; split at hc <;> cases hc
      | false =>
        cases had : adoAt H f o.dst with
        | true => rw [hi] at hc; simp only [had] at hc; cases hc
        | false =>
        simp only [stepD, stepV, ho, ev, inlAt_func, hi, had] at h ⊢
        cases hg : H.good.contains g with
        | false => rw [hg] at h; cases h
        | true =>
          rw [hg] at h
          simp only at h ⊢
          cases hown : anyOwn ([] ++ normArgs P ats.toList (args.toList.map (ev tm)) ++ []) with
          | false =>
            rw [hown] at h
            simp only at h ⊢
            cases ha : closeArgs hp ([] ++ normArgs P ats.toList (args.toList.map (ev tm)) ++ []) with
            | none => rw [ha] at h; cases h
            | some as =>
                rw [ha] at h
                simp only at h
                have key : ∀ r, call false g as [] = r → hp1 = hp ∧ ∀ hp2, More hp hp2 → (match closeArgs hp2 ([] ++ normArgs P ats.toList (args.toList.map (ev tm)) ++ []) with
                  | some as => match call false g as [] with
                    | some (v, []) => some (v, hp2)
                    | _ => none
                  | none => none) = some (v, hp2) := by
                  intro r hr
                  rw [hr] at h
                  match r, h with
                  | some (u, []), h =>
                    cases h
                    exact ⟨rfl, fun hp2 hm => by rw [closeArgs_more hm ha]; simp only [hr]⟩
                exact key _ rfl
          | true =>
            rw [hown] at h
            simp only at h ⊢
            cases ha : closeOArgs hp ([] ++ normArgs P ats.toList (args.toList.map (ev tm)) ++ []) with
            | none => rw [ha] at h; cases h
            | some as =>
                rw [ha] at h
                simp only at h
                have key : ∀ r, call false g as [] = r → hp1 = hp ∧ ∀ hp2, More hp hp2 → (match closeOArgs hp2 ([] ++ normArgs P ats.toList (args.toList.map (ev tm)) ++ []) with
                  | some as => match call false g as [] with
                    | some (v, []) => match flat v with
                      | true => some (v, hp2)
                      | false => none
                    | _ => none
                  | none => none) = some (v, hp2) := by
                  intro r hr
                  rw [hr] at h
                  match r, h with
                  | some (u, []), h =>
                    cases hfl : flat u with
                    | false => simp only [hfl] at h; cases h
                    | true =>
                      simp only [hfl] at h
                      cases h
                      exact ⟨rfl, fun hp2 hm => by rw [closeOArgs_more hm ha]; simp only [hr, hfl]⟩
                exact key _ rfl
    | invoke _ _ => cases hc
    | builtin b =>
      cases b <;> simp only at hc <;> first | (cases hc; done) | skip
      obtain ⟨hst, hob, har, l, rfl⟩ := nilApp_of hc
      obtain ⟨h1, x, sz, news, h2, h3, h4⟩ := nilApp_spec ho hst hob har h
      exact ⟨h1, fun hp2 hg => h4 hp2 (elsOf_more hg h3)⟩
theorem asOb_more {t : TypeId} {b1 b2 : Bool} {u v : AV} {hp1 : Hp} (h : asOb P t b1 b2 hp (fun v hp => some (v, hp)) u = some (v, hp1)) : More hp hp1 := by
  unfold asOb at h
  simp only [forceHp_eq] at h
  repeat' split at h
  all_goals first | (cases h; done) | (cases h; exact More.append _ _) | (cases h; exact fun _ _ h => h)
theorem step_A {o : Oper} (hc : cls H f o = .A) {v : AV} {hp1 : Hp} (h : stepD P H call f o tm hp = some (v, hp1)) : More hp hp1 := by
  unfold cls at hc
  cases ho : o.op <;> rw [ho] at hc <;> simp only at hc <;> first | (cases hc; done) | skip
  case assign x =>
    simp only [stepD, stepV, ho, forceHp_eq] at h
    repeat' split at h
    all_goals first | (cases h; done) | (cases h; exact More.append _ _) | (cases h; exact fun _ _ h => h)
  case slice t x lo hi mx => split at hc <;> cases hc
  case alloc t =>
    simp only [stepD, stepV, ho, forceHp_eq] at h
    repeat' split at h
    all_goals first | (cases h; done) | (cases h; exact More.append _ _)
  case buildSlice t n ps =>
    simp only [stepD, stepV, ho] at h
    rw [pure_nat] at h
    cases hv : pureOp P tm hp (.buildSlice t n ps) some with
    | none => rw [hv] at h; cases h
    | some u => rw [hv] at h; exact asOb_more h
  case makeSlice t n c =>
    simp only [stepD, stepV, ho] at h
    rw [pure_nat] at h
    cases hv : pureOp P tm hp (.makeSlice t n c) some with
    | none => rw [hv] at h; cases h
    | some u => rw [hv] at h; exact asOb_more h
  case box t x =>
    simp only [stepD, stepV, ho, forceHp_eq] at h
    repeat' split at h
    all_goals first | (cases h; done) | (cases h; exact More.append _ _)
  case call c =>
    obtain ⟨cal, args, ats⟩ := c
    cases cal with
    | value x =>
      cases x <;> simp only at hc <;> first | (cases hc; done) | ((repeat' split at hc) <;> (cases hc; done)) | skip
      rename_i g
      cases hi : H.inl f g with
      | true => rw [hi] at hc; simp only at hc; split at hc <;> cases hc
      | false =>
        cases had : adoAt H f o.dst with
        | false => rw [hi] at hc; simp only [had] at hc; cases hc
        | true =>
          simp only [stepD, stepV, ho, ev, inlAt_func, hi, had, forceHp_eq] at h
          repeat' split at h
          all_goals first | (cases h; done) | (cases h; exact More.append _ _)
    | invoke _ _ => cases hc
    | builtin b => cases b <;> simp only at hc <;> (repeat' split at hc) <;> cases hc
theorem grown_set {id e' size e sz : Nat} {els news : List (List AV)} {c : Bool} {k v : AV} {hp1 : Hp} (hob : nth? hp id = some (.row e' size els)) (hq : (decide (e' = e) && decide (size = sz)) = true) (h : (bif c then some (k, setNth hp id (.row e sz (els ++ news))) else none) = some (v, hp1)) : Grown hp hp1 := by
  obtain ⟨_, h⟩ := bif_some h
  cases h
  simp only [Bool.and_eq_true, decide_eq_true_eq] at hq
  obtain ⟨rfl, rfl⟩ := hq
  intro id' o' ho'
  rw [nth?_eq] at ho' hob
  by_cases hid : id' = id
  · subst hid
    rw [hob] at ho'; cases ho'
    exact ⟨_, by rw [nth?_eq, setNth_eq, List.getElem?_set_self (nth?_lt hob)], .inr ⟨_, _, _, _, rfl, rfl⟩⟩
  · exact ⟨o', by rw [nth?_eq, setNth_eq, List.getElem?_set_ne (Ne.symm hid)]; exact ho', .inl rfl⟩
theorem grown_or {c : Bool} {k k' v : AV} {o : Ob} {hp1 : Hp} (h : (bif c then some (k, hp) else some (k', hp ++ [o])) = some (v, hp1)) : Grown hp hp1 := by
  cases c with
  | true => cases h; exact More.grown fun _ _ h => h
  | false => cases h; exact (More.append _ _).grown
theorem step_G {o : Oper} (hc : cls H f o = .G) {v : AV} {hp1 : Hp} (h : stepD P H call f o tm hp = some (v, hp1)) : Grown hp hp1 := by
  unfold cls at hc
  cases ho : o.op <;> rw [ho] at hc <;> simp only at hc <;> first | (cases hc; done) | skip
  case assign x => (repeat' split at hc) <;> cases hc
  case buildSlice t n ps => split at hc <;> cases hc
  case makeSlice t n c => split at hc <;> cases hc
  case slice t x lo hi mx => split at hc <;> cases hc
  case call c =>
    obtain ⟨cal, args, ats⟩ := c
    cases cal with
    | value x => cases x <;> simp only at hc <;> first | (cases hc; done) | ((repeat' split at hc) <;> (cases hc; done)) | skip
                 repeat' split at hc
                 all_goals cases hc
    | invoke _ _ => cases hc
    | builtin b =>
      cases b <;> simp only at hc <;> first | (cases hc; done) | ((repeat' split at hc) <;> (cases hc; done)) | skip
      simp only [stepD, stepV, ho, forceHp_eq] at h
      repeat' split at h
      all_goals first
        | (cases h; done)
        | (obtain ⟨_, h⟩ := bif_some h; cases h; exact More.grown fun _ _ h => h)
        | (obtain ⟨_, h⟩ := bif_some h; cases h; exact (More.append _ _).grown)
        | (obtain ⟨_, h⟩ := bif_some h; exact grown_or h)
        | exact grown_set (by assumption) (by assumption) h
        | skip
      all_goals
        rename_i hq
        simp only [Bool.and_eq_true] at hq
        rw [hq.1] at hc; cases hc

theorem nth?_map_agree {hp2 : Hp} {raw : List AV} (h : ∀ id ∈ idsL ids2 raw, nth? hp2 id = nth? hp id) : raw.map (shut2 hp2) = raw.map (shut2 hp) := by
  have h1 : ∀ a, (∀ id ∈ ids1 a, nth? hp2 id = nth? hp id) → shut1 hp2 a = shut1 hp a := by
    intro a ha
    cases a <;> simp only [shut1]
    rw [ha _ (by simp [ids1])]
  have hL : ∀ l : List AV, (∀ id ∈ idsL ids1 l, nth? hp2 id = nth? hp id) → l.map (shut1 hp2) = l.map (shut1 hp) := by
    intro l
    induction l with
    | nil => intro _; rfl
    | cons a l ih =>
      intro hl
      rw [List.map_cons, List.map_cons, h1 a fun id hid => hl id (by simp only [idsL]; exact List.mem_append_left _ hid), ih fun id hid => hl id (by simp only [idsL]; exact List.mem_append_right _ hid)]
  induction raw with
  | nil => rfl
  | cons a l ih =>
    have ha : ∀ id ∈ ids2 a, nth? hp2 id = nth? hp id := fun id hid => h id (by simp only [idsL]; exact List.mem_append_left _ hid)
    rw [List.map_cons, List.map_cons, ih fun id hid => h id (by simp only [idsL]; exact List.mem_append_right _ hid)]
    congr 1
    cases a <;> simp only [shut2] <;> first | exact h1 _ ha | skip
    · rw [hL _ ha]
    · simp only [ids2] at ha
      rw [hL _ fun id hid => ha id (List.mem_append_left _ hid), hL _ fun id hid => ha id (List.mem_append_right _ hid)]
theorem subHp_agree {hp2 : Hp} (q : Nat → Option Nat) : ∀ (ids : List Nat), (∀ id ∈ ids, nth? hp2 id = nth? hp id) → subHp P q hp2 ids = subHp P q hp ids
  | [], _ => rfl
  | a :: l, h => by
    simp only [subHp, h a List.mem_cons_self, subHp_agree q l fun id hid => h id (List.mem_cons_of_mem _ hid)]
/-- What a call that sees objects does. -/
theorem callSub_spec {g : FuncId} {raw : List AV} {v : AV} {hp1 : Hp} (h : callSub P call g raw hp (fun v hp => some (v, hp)) = some (v, hp1)) :
    ∃ ids m, reach hp 64 (idsL ids2 (raw.map (shut2 hp))) [] = some ids ∧ ids.Nodup ∧ (∀ id ∈ ids, id < hp.length) ∧ (∀ id ∈ idsL ids2 raw, id < hp.length) ∧ ids.length = m.length ∧ hp1 = backL ids m hp ∧
      ∀ hp2 : Hp, (∀ id ∈ idsL ids2 raw ++ ids, nth? hp2 id = nth? hp id) → reach hp2 64 (idsL ids2 (raw.map (shut2 hp2))) [] = some ids ∧ callSub P call g raw hp2 (fun v hp => some (v, hp)) = some (v, backL ids m hp2) := by
  unfold callSub at h
  split at h
  · rename_i hB
    rw [forceL_eq force2_eq] at h
    split at h
    · rename_i ids hids
      obtain ⟨r1, r2, _, r4⟩ := reach_ok _ _ _ _ _ hids List.nodup_nil (fun id h => by cases h)
      rw [forceN_eq] at h
      unfold subCall at h
      rw [forceL_eq force2_eq, forceHp_eq] at h
      split at h
      · rename_i u hpn hcall
        split at h
        · rename_i hl
          rw [forceHp_eq] at h
          cases h
          refine ⟨ids, hpn.map (renOb P (nth? ids)), hids, r1, r2, idB_lt hB, by simp [of_decide_eq_true hl], backHp_eq P ids ids hpn hp, fun hp2 h2 => ?_⟩
          have e1 := nth?_map_agree (hp := hp) (hp2 := hp2) (raw := raw) fun id hid => h2 id (List.mem_append_left _ hid)
          have e2 := r4 hp2 fun id hid => h2 id (List.mem_append_right _ hid)
          rw [e1]
          refine ⟨e2, ?_⟩
          have hB2 : idB hp2.length (idsL ids2 raw) = true := by
            have : ∀ l : List Nat, (∀ id ∈ l, id < hp2.length) → idB hp2.length l = true := by
              intro l
              induction l with
              | nil => intro _; rfl
              | cons a l ih =>
                intro hl
                have ha : Nat.blt a hp2.length = true := Nat.ble_eq_true_of_le (hl a List.mem_cons_self)
                simp only [idB, ha]
                exact ih fun id hid => hl id (List.mem_cons_of_mem _ hid)
            refine this _ fun id hid => ?_
            have e3 := h2 id (List.mem_append_left _ hid)
            have e4 := idB_lt hB id hid
            rw [nth?_eq, nth?_eq, List.getElem?_eq_getElem e4] at e3
            exact nth?_lt e3
          unfold callSub
          rw [hB2]
          simp only
          rw [forceL_eq force2_eq, e1, e2]
          simp only
          rw [forceN_eq]
          unfold subCall
          rw [forceL_eq force2_eq, forceHp_eq, subHp_agree (hp := hp) (hp2 := hp2) (findN ids 0) ids fun id hid => h2 id (List.mem_append_right _ hid), hcall]
          simp only [hl]
          rw [forceHp_eq, backHp_eq]
        · cases h
      · cases h
    · cases h
  · cases h
theorem ids3_one {a : AV} {id : Nat} (h : id ∈ ids1 a) : id ∈ ids3 a := by cases a <;> simp [ids1] at h <;> simp [ids3, ids2, ids1, h]
theorem ids3_two {a : AV} {id : Nat} (h : id ∈ ids2 a) : id ∈ ids3 a := by cases a <;> first | exact h | (simp [ids2, ids1] at h)
theorem mem_idsL {g : AV → List Nat} {l : List AV} {a : AV} {id : Nat} (ha : a ∈ l) (h : id ∈ g a) : id ∈ idsL g l := by
  induction l with
  | nil => cases ha
  | cons b l ih =>
    simp only [idsL]
    rcases List.mem_cons.1 ha with rfl | ha
    · exact List.mem_append_left _ h
    · exact List.mem_append_right _ (ih ha)

theorem elsOf_agree {hp2 : Hp} {size : Nat} {a : AV} (hg : ∀ id ∈ ids1 a, nth? hp2 id = nth? hp id) : elsOf hp2 size a = elsOf hp size a := by
  cases a <;> simp only [elsOf] <;> rw [hg _ (by simp [ids1])]
theorem elsOf_ids {size : Nat} {a : AV} {els : List (List AV)} (h : elsOf hp size a = some els) : ids3 a = ids1 a ∧ ∀ id ∈ ids1 a, id < hp.length := by
  have key : ∀ id, (∃ o, nth? hp id = some o) → id < hp.length := fun id ⟨o, ho⟩ => by rw [nth?_eq] at ho; exact nth?_lt ho
  cases a <;> simp only [elsOf] at h <;> first | (cases h; done) | (refine ⟨rfl, ?_⟩; intro i hi; simp [ids1] at hi; done) | skip
  case row id n =>
    refine ⟨rfl, fun i hi => ?_⟩
    simp [ids1] at hi; subst hi
    exact key _ (by cases ho : nth? hp i with | none => rw [ho] at h; cases h | some o => exact ⟨o, rfl⟩)
  case own id off n =>
    refine ⟨rfl, fun i hi => ?_⟩
    simp [ids1] at hi; subst hi
    exact key _ (by cases ho : nth? hp i with | none => rw [ho] at h; cases h | some o => exact ⟨o, rfl⟩)
  case stk id ver n =>
    refine ⟨rfl, fun i hi => ?_⟩
    simp [ids1] at hi; subst hi
    exact key _ (by cases ho : nth? hp i with | none => rw [ho] at h; cases h | some o => exact ⟨o, rfl⟩)
theorem close1_agree {hp2 : Hp} {a : AV} (hg : ∀ id ∈ ids1 a, nth? hp2 id = nth? hp id) : close1 hp2 a = close1 hp a := by
  cases a <;> first | rfl | skip
  · simp only [close1]; rw [hg _ (by simp [ids1])]
  · rename_i f a b
    cases a <;> cases b <;> rfl
theorem close1_func {hp2 : Hp} {f : FuncId} {a b : List AV} : close1 hp2 (.func f a b) = close1 hp (.func f a b) := by cases a <;> cases b <;> rfl
theorem closeL_agree {hp2 : Hp} {l : List AV} (hg : ∀ id ∈ idsL ids1 l, nth? hp2 id = nth? hp id) : closeL hp2 l = closeL hp l := by
  induction l with
  | nil => rfl
  | cons a l ih => simp only [closeL]; rw [close1_agree fun id hid => hg id (by simp only [idsL]; exact List.mem_append_left _ hid), ih fun id hid => hg id (by simp only [idsL]; exact List.mem_append_right _ hid)]
theorem closeL_ids : ∀ {l c : List AV}, closeL hp l = some c → ∀ id ∈ idsL ids1 l, id < hp.length
  | [], c, _, id, h => by cases h
  | a :: l, c, hc, id, h => by
    simp only [closeL] at hc
    cases h1 : close1 hp a with
    | none => rw [h1] at hc; cases hc
    | some a' =>
      cases h2 : closeL hp l with
      | none => rw [h1, h2] at hc; cases hc
      | some l' =>
        simp only [idsL] at h
        rcases List.mem_append.1 h with h | h
        · cases a <;> simp only [close1] at h1 <;> first | (cases h1; done) | (simp [ids1] at h; done) | skip
          rename_i rid n
          simp [ids1] at h
          subst h
          cases ho : nth? hp id with
          | none => rw [ho] at h1; cases h1
          | some o => rw [nth?_eq] at ho; exact nth?_lt ho
        · exact closeL_ids h2 id h
/-- A step that is a call that sees objects. -/
theorem step_S {o : Oper} (hc : cls H f o = .S) {v : AV} {hp1 : Hp} (h : stepD P H call f o tm hp = some (v, hp1)) :
    ∃ ids m, ids.Nodup ∧ (∀ id ∈ ids, id ∈ foot P H f o tm hp) ∧ (∀ id ∈ foot P H f o tm hp, id < hp.length) ∧ ids.length = m.length ∧ hp1 = backL ids m hp ∧
      ∀ hp2 : Hp, (∀ id ∈ foot P H f o tm hp, nth? hp2 id = nth? hp id) → foot P H f o tm hp2 = foot P H f o tm hp ∧ stepD P H call f o tm hp2 = some (v, backL ids m hp2) := by
  have hc0 := hc
  unfold cls at hc
  cases ho : o.op <;> rw [ho] at hc <;> simp only at hc <;> first | (cases hc; done) | ((repeat' split at hc) <;> (cases hc; done)) | skip
  case store t a x =>
    have hft : ∀ hp2 : Hp, foot P H f o tm hp2 = match ev tm a with
      | .ptr id _ => [id]
      | _ => ids1 (ev tm a) ++ idsL ids1 (ev tm x).cells := fun hp2 => by simp only [foot, hc0, ho]; rfl
    simp only [stepD, stepV, ho, forceHp_eq] at h
    cases hq : (decide ((ev tm x).cells.length = P.cellsOf t) && decide (0 < P.cellsOf t) && (ev tm x).cells.all AV.one) with
    | false => rw [hq] at h; cases h
    | true =>
    rw [hq] at h
    simp only at h
    cases ha : ev tm a <;> rw [ha] at h <;> simp only at h <;> first | (cases h; done) | skip
    case ptr id off =>
      cases hob : nth? hp id with
      | none => rw [hob] at h; cases h
      | some ob =>
      rw [hob] at h
      cases ob <;> simp only at h <;> first | (cases h; done) | skip
      rename_i E cs
      obtain ⟨hle, h⟩ := bif_some h
      cases h
      have hlt : id < hp.length := by rw [nth?_eq] at hob; exact nth?_lt hob
      have hfl : ∀ hp2 : Hp, foot P H f o tm hp2 = [id] := fun hp2 => by rw [hft hp2, ha]
      rw [hfl]
      refine ⟨[id], [_], by simp, fun i hi => hi, fun i hi => by simp at hi; subst hi; exact hlt, rfl, by rw [setNth_eq]; rfl, fun hp2 h2 => ⟨hfl hp2, ?_⟩⟩
      have e1 : nth? hp2 id = some (.var E cs) := (h2 id List.mem_cons_self).trans hob
      simp only [stepD, stepV, ho, hq, ha, e1, hle, cond_true, forceHp_eq, setNth_eq, backL]
    case pte id i off =>
      cases hob : nth? hp id with
      | none => rw [hob] at h; cases h
      | some ob =>
      rw [hob] at h
      cases ob <;> simp only at h <;> first | (cases h; done) | skip
      rename_i size els
      cases hel : nth? els i with
      | none => rw [hel] at h; cases h
      | some el =>
      rw [hel] at h
      cases hcl : closeL hp (ev tm x).cells with
      | none => rw [hcl] at h; cases h
      | some c =>
      rw [hcl] at h
      simp only at h
      obtain ⟨hle, h⟩ := bif_some h
      cases h
      have hlt : id < hp.length := by rw [nth?_eq] at hob; exact nth?_lt hob
      have hfl : ∀ hp2 : Hp, foot P H f o tm hp2 = id :: idsL ids1 (ev tm x).cells := fun hp2 => by rw [hft hp2, ha]; rfl
      rw [hfl]
      refine ⟨[id], [_], by simp, fun i hi => by simp at hi; simp [hi], fun i hi => by
        rcases List.mem_cons.1 hi with rfl | hi
        · exact hlt
        · exact closeL_ids hcl i hi, rfl, by rw [setNth_eq]; rfl, fun hp2 h2 => ⟨hfl hp2, ?_⟩⟩
      have e1 : nth? hp2 id = some (.arr size els) := (h2 id List.mem_cons_self).trans hob
      have e2 : closeL hp2 (ev tm x).cells = some c := (closeL_agree fun i hi => h2 i (List.mem_cons_of_mem _ hi)).trans hcl
      simp only [stepD, stepV, ho, hq, ha, e1, hel, e2, hle, cond_true, forceHp_eq, setNth_eq, backL]
    case pts id ver i off =>
      cases hob : nth? hp id with
      | none => rw [hob] at h; cases h
      | some ob =>
      rw [hob] at h
      cases ob <;> simp only at h <;> first | (cases h; done) | skip
      rename_i v e size els
      cases hv : decide (v = ver) with
      | false => rw [hv] at h; cases h
      | true =>
      rw [hv] at h
      simp only at h
      cases hel : nth? els i with
      | none => rw [hel] at h; cases h
      | some el =>
      rw [hel] at h
      cases hcl : closeL hp (ev tm x).cells with
      | none => rw [hcl] at h; cases h
      | some c =>
      rw [hcl] at h
      simp only at h
      obtain ⟨hle, h⟩ := bif_some h
      cases h
      have hlt : id < hp.length := by rw [nth?_eq] at hob; exact nth?_lt hob
      have hfl : ∀ hp2 : Hp, foot P H f o tm hp2 = id :: idsL ids1 (ev tm x).cells := fun hp2 => by rw [hft hp2, ha]; rfl
      rw [hfl]
      refine ⟨[id], [_], by simp, fun i hi => by simp at hi; simp [hi], fun i hi => by
        rcases List.mem_cons.1 hi with rfl | hi
        · exact hlt
        · exact closeL_ids hcl i hi, rfl, by rw [setNth_eq]; rfl, fun hp2 h2 => ⟨hfl hp2, ?_⟩⟩
      have e1 : nth? hp2 id = some (.stk v e size els) := (h2 id List.mem_cons_self).trans hob
      have e2 : closeL hp2 (ev tm x).cells = some c := (closeL_agree fun i hi => h2 i (List.mem_cons_of_mem _ hi)).trans hcl
      simp only [stepD, stepV, ho, hq, ha, e1, hv, hel, e2, hle, cond_true, forceHp_eq, setNth_eq, backL]
  case call c =>
    obtain ⟨cal, args, ats⟩ := c
    cases cal with
    | invoke _ _ => cases hc
    | builtin b =>
      cases b <;> simp only at hc <;> first | (cases hc; done) | ((repeat' split at hc) <;> (cases hc; done)) | skip
      have hft : ∀ hp2 : Hp, foot P H f o tm hp2 = idsL ids3 ((Op.call ⟨.builtin .copy, args, ats⟩).operands.toList.map (ev tm)) := fun hp2 => by simp only [foot, hc0, ho]
      simp only [stepD, stepV, ho, forceHp_eq] at h
      split at h
      rotate_left
      · cases h
      rename_i d x
      split at h
      rotate_left
      · cases h
      rename_i t t'
      cases he : elemOf P t with
      | none => rw [he] at h; cases h
      | some e =>
      rw [he] at h
      simp only at h
      cases hd : ev tm d <;> rw [hd] at h <;> simp only at h <;> first | (cases h; done) | skip
      rename_i id off n
      cases hob : nth? hp id with
      | none => rw [hob] at h; cases h
      | some ob =>
      rw [hob] at h
      cases ob <;> simp only at h <;> first | (cases h; done) | skip
      rename_i size els
      cases hq : (decide (size = P.cellsOf e) && decide (0 < size)) with
      | false => rw [hq] at h; cases h
      | true =>
      rw [hq] at h
      simp only at h
      cases hx : elsOf hp size (ev tm x) with
      | none => rw [hx] at h; cases h
      | some news =>
      rw [hx] at h
      simp only at h
      obtain ⟨hle, h⟩ := bif_some h
      cases h
      have hlt : id < hp.length := by rw [nth?_eq] at hob; exact nth?_lt hob
      obtain ⟨x1, x2⟩ := elsOf_ids hx
      have hfl : ∀ hp2 : Hp, foot P H f o tm hp2 = id :: ids1 (ev tm x) := fun hp2 => by
        rw [hft hp2]
        simp [Op.operands, Call.operands, idsL, hd, x1]
        simp [ids3, ids2, ids1]
      rw [hfl]
      refine ⟨[id], [.arr size (els.take off ++ (news.take n ++ els.drop (off + Nat.min news.length n)))], by simp, fun i hi => by simp at hi; simp [hi], fun i hi => by
        rcases List.mem_cons.1 hi with rfl | hi
        · exact hlt
        · exact x2 i hi, rfl, by rw [setNth_eq]; rfl, fun hp2 h2 => ⟨hfl hp2, ?_⟩⟩
      have e1 : nth? hp2 id = some (.arr size els) := (h2 id List.mem_cons_self).trans hob
      have e2 : elsOf hp2 size (ev tm x) = some news := (elsOf_agree fun i hi => h2 i (List.mem_cons_of_mem _ hi)).trans hx
      simp only [stepD, stepV, ho, he, hd, e1, hq, e2, hle, cond_true, forceHp_eq, setNth_eq, backL]
    | value fo =>
      -- every such call goes the one way
      have hway : ∀ g, inlAt H f fo g = true → upcAt H f fo g = false → True := fun _ _ _ => trivial
      have key : (∀ g x y, ev tm fo = .func g x y → inlAt H f fo g = true ∧ upcAt H f fo g = false) → ∃ ids m, ids.Nodup ∧ (∀ id ∈ ids, id ∈ foot P H f o tm hp) ∧ (∀ id ∈ foot P H f o tm hp, id < hp.length) ∧ ids.length = m.length ∧ hp1 = backL ids m hp ∧
          ∀ hp2 : Hp, (∀ id ∈ foot P H f o tm hp, nth? hp2 id = nth? hp id) → foot P H f o tm hp2 = foot P H f o tm hp ∧ stepD P H call f o tm hp2 = some (v, backL ids m hp2) := by
        intro hw
        cases hev : ev tm fo <;> (simp only [stepD, stepV, ho, hev] at h) <;> first | (cases h; done) | skip
        rename_i g x y
        obtain ⟨w1, w2⟩ := hw g x y hev
        cases hgood : H.good.contains g with
        | false => simp only [hgood] at h; cases h
        | true =>
          simp only [hgood, w1, w2, upsHp, forceHp_eq] at h
          obtain ⟨ids, m, s1, s2, s3, s4, s5, s6, s7⟩ := callSub_spec h
          have hft : ∀ hp2 : Hp, reach hp2 64 (idsL ids2 ((x ++ normArgs P ats.toList (args.toList.map (ev tm)) ++ y).map (shut2 hp2))) [] = some ids → foot P H f o tm hp2 = idsL ids2 (x ++ normArgs P ats.toList (args.toList.map (ev tm)) ++ y) ++ ids := fun hp2 h2 => by
            simp only [foot, hc0, ho, hev, h2]
          have hft0 := hft hp s1
          rw [hft0]
          refine ⟨ids, m, s2, fun id hid => List.mem_append_right _ hid, fun id hid => (List.mem_append.1 hid).elim (s4 id) (s3 id), s5, s6, fun hp2 h2 => ?_⟩
          obtain ⟨t1, t2⟩ := s7 hp2 h2
          refine ⟨hft hp2 t1, ?_⟩
          simp only [stepD, stepV, ho, hev, hgood, w1, w2, upsHp, forceHp_eq]
          exact t2
      cases fo with
      | const _ => cases hc
      | global _ => cases hc
      | tmp s =>
        refine key fun g x y _ => ?_
        cases hi : H.ind f with
        | false => simp only [hi] at hc; cases hc
        | true => exact ⟨by simp [inlAt, isTmp, hi], by simp [upcAt, isTmp]⟩
      | func g0 =>
        refine key fun g x y hev => ?_
        simp only [ev, AV.func.injEq] at hev
        obtain ⟨rfl, _, _⟩ := hev
        simp only at hc
        cases hi : H.inl f g0 with
        | false => rw [hi] at hc; simp only at hc; (repeat' split at hc) <;> cases hc
        | true =>
          rw [hi] at hc
          simp only at hc
          cases hu : H.upc f g0 with
          | true => rw [hu] at hc; cases hc
          | false => exact ⟨by simp [inlAt, hi], by simp [upcAt, hu]⟩
section agree
variable {hp2 : Hp}
theorem load_agree {t : TypeId} {a v : AV} (hg : ∀ id ∈ ids1 a, nth? hp2 id = nth? hp id) (h : load P hp t some a = some v) : load P hp2 t some a = some v := by
  cases a <;> simp only [load] at h ⊢ <;> first | exact h | (rw [hg _ (by simp [ids1])]; exact h)
theorem indexA_agree {t : TypeId} {x v : AV} {i : Int} (hg : ∀ id ∈ ids1 x, nth? hp2 id = nth? hp id) (h : indexA P hp t x i some = some v) : indexA P hp2 t x i some = some v := by
  unfold indexA at h ⊢
  cases he : elemOf P t with
  | none => rw [he] at h; exact h
  | some e =>
    rw [he] at h
    cases x <;> simp only at h ⊢ <;> first | exact h | (rw [hg _ (by simp [ids1])]; exact h)
theorem close_agree {a : AV} (hg : ∀ id ∈ ids2 a, nth? hp2 id = nth? hp id) : close hp2 a = close hp a := by
  cases a <;> simp only [close] <;> first | exact close1_agree hg | rfl | exact close1_func | skip
  · rw [closeL_agree hg]
theorem closeArgs_agree {l : List AV} (hg : ∀ id ∈ idsL ids2 l, nth? hp2 id = nth? hp id) : closeArgs hp2 l = closeArgs hp l := by
  induction l with
  | nil => rfl
  | cons a l ih => simp only [closeArgs]; rw [close_agree fun id hid => hg id (by simp only [idsL]; exact List.mem_append_left _ hid), ih fun id hid => hg id (by simp only [idsL]; exact List.mem_append_right _ hid)]
theorem closeO1_agree {a : AV} (hg : ∀ id ∈ ids1 a, nth? hp2 id = nth? hp id) : closeO1 hp2 a = closeO1 hp a := by
  cases a <;> simp only [closeO1] <;> first | exact close1_agree hg | rfl | rw [hg _ (by simp [ids1])]
theorem closeOL_agree {l : List AV} (hg : ∀ id ∈ idsL ids1 l, nth? hp2 id = nth? hp id) : closeOL hp2 l = closeOL hp l := by
  induction l with
  | nil => rfl
  | cons a l ih => simp only [closeOL]; rw [closeO1_agree fun id hid => hg id (by simp only [idsL]; exact List.mem_append_left _ hid), ih fun id hid => hg id (by simp only [idsL]; exact List.mem_append_right _ hid)]
theorem closeO_agree {a : AV} (hg : ∀ id ∈ ids2 a, nth? hp2 id = nth? hp id) : closeO hp2 a = closeO hp a := by
  cases a <;> simp only [closeO] <;> first | exact closeO1_agree hg | rfl | exact close1_func | skip
  · rw [closeOL_agree hg]
theorem closeOArgs_agree {l : List AV} (hg : ∀ id ∈ idsL ids2 l, nth? hp2 id = nth? hp id) : closeOArgs hp2 l = closeOArgs hp l := by
  induction l with
  | nil => rfl
  | cons a l ih => simp only [closeOArgs]; rw [closeO_agree fun id hid => hg id (by simp only [idsL]; exact List.mem_append_left _ hid), ih fun id hid => hg id (by simp only [idsL]; exact List.mem_append_right _ hid)]
theorem ids_norm1 (t : TypeId) (a : AV) : ∀ id ∈ ids1 (norm1 P t a), id ∈ ids1 a := by
  intro id h
  cases a <;> simp only [norm1] at h <;> first | exact h | skip
  · split at h <;> simp [ids1] at h
theorem ids_norms : ∀ (ts : List TypeId) (l : List AV), ∀ id ∈ idsL ids1 (norms P ts l), id ∈ idsL ids1 l
  | [], l => fun id h => by cases l <;> exact h
  | t :: ts, [] => fun id h => h
  | t :: ts, a :: l => fun id h => by
    simp only [norms, idsL] at h ⊢
    rcases List.mem_append.1 h with h | h
    · exact List.mem_append_left _ (ids_norm1 t a id h)
    · exact List.mem_append_right _ (ids_norms ts l id h)
theorem ids_norm (t : TypeId) (a : AV) : ∀ id ∈ ids2 (norm P t a), id ∈ ids2 a := by
  intro id h
  cases a <;> simp only [norm] at h <;> first | exact h | skip
  · simp only [norm1] at h
    split at h <;> simp [ids2, ids1] at h
  · exact ids_norms _ _ id h
theorem ids_normArgs : ∀ (ts : List TypeId) (l : List AV), ∀ id ∈ idsL ids2 (normArgs P ts l), id ∈ idsL ids2 l
  | [], l => fun id h => by cases l <;> exact h
  | t :: ts, [] => fun id h => h
  | t :: ts, a :: l => fun id h => by
    simp only [normArgs, idsL] at h ⊢
    rcases List.mem_append.1 h with h | h
    · exact List.mem_append_left _ (ids_norm t a id h)
    · exact List.mem_append_right _ (ids_normArgs ts l id h)
theorem elems_agree {size : Nat} {tys : List TypeId} : ∀ {ps : List (Nat × Operand)} {k : Nat}, (∀ x ∈ ps.map (·.2), ∀ id ∈ idsL ids1 (ev tm x).cells, nth? hp2 id = nth? hp id) → elems P tys hp2 size tm k ps = elems P tys hp size tm k ps
  | [], k, h => rfl
  | (i, x) :: rest, k, h => by
    simp only [elems]
    rw [closeL_agree fun id hid => h x (by simp) id (ids_norms _ _ id hid), elems_agree fun y hy => h y (by simp only [List.map_cons, List.mem_cons]; exact .inr hy)]
theorem cutS_agree {x v : AV} {sz : Nat} {lo hi : Option AV} (hg : ∀ id ∈ ids1 x, nth? hp2 id = nth? hp id) (h : cutS hp x sz lo hi some = some v) : cutS hp2 x sz lo hi some = some v := by
  cases x <;> simp only [cutS] at h ⊢ <;> first | exact h | (rw [hg _ (by simp [ids1])]; exact h)
theorem ids_cells {a : AV} {id : Nat} (h : id ∈ idsL ids1 a.cells) : id ∈ ids3 a := by
  cases a <;> first | exact h | (simp [AV.cells, idsL, ids1] at h; simp [ids3, ids2, ids1, h]; done) | skip
  all_goals simp [AV.cells, idsL, ids1] at h
theorem step_RC {o : Oper} (hc : cls H f o = .R ∨ cls H f o = .C) {v : AV} {hp1 : Hp} (h : stepD P H call f o tm hp = some (v, hp1)) (hg : ∀ id ∈ idsL ids3 (o.op.operands.toList.map (ev tm)), nth? hp2 id = nth? hp id) : stepD P H call f o tm hp2 = some (v, hp2) := by
  have hop : ∀ x ∈ o.op.operands, ∀ id ∈ ids3 (ev tm x), nth? hp2 id = nth? hp id := fun x hx id hid => hg id (mem_idsL (List.mem_map.2 ⟨x, by simpa using hx, rfl⟩) hid)
  have fin : ∀ op : Op, o.op = op → (∀ hp, stepD P H call f o tm hp = pureOp P tm hp op fun v => some (v, hp)) → (pureOp P tm hp op some = some v → pureOp P tm hp2 op some = some v) → stepD P H call f o tm hp2 = some (v, hp2) := fun op ho hst hrfl => by
    obtain ⟨h1, h2, h3⟩ := stepD_pure ho hst h
    exact h3 hp2 (hrfl h2)
  unfold cls at hc
  cases ho : o.op <;> rw [ho] at hc hop <;> simp only [reduceCtorEq, or_self] at hc <;> first | (cases hc; done) | skip
  case assign x => (repeat' split at hc) <;> simp at hc
  case load t a => exact fin _ ho (fun hp => by simp only [stepD, stepV, ho]) (fun h => by simp only [pureOp] at h ⊢; exact load_agree (fun id hid => hop a (by simp [Op.operands]) id (ids3_one hid)) h)
  case indexAddr t x y =>
    refine fin _ ho (fun hp => by simp only [stepD, stepV, ho]) (fun h => ?_)
    simp only [pureOp] at h ⊢
    cases hy : ev tm y <;> rw [hy] at h <;> simp only at h ⊢ <;> first | (cases h; done) | exact indexA_agree (fun id hid => hop x (by simp [Op.operands]) id (ids3_one hid)) h
  case makeSlice t n c => split at hc <;> simp at hc
  case buildSlice t n ps =>
    have hob : objAt H f o.dst = false ∧ arrAt H f o.dst = false := by
      cases h1 : objAt H f o.dst <;> cases h2 : arrAt H f o.dst <;> rw [h1, h2] at hc <;> first | (simp at hc; done) | exact ⟨rfl, rfl⟩
    refine fin _ ho (fun hp => by simp only [stepD, stepV, ho, hob.1, hob.2, asOb]) (fun h => ?_)
    have he := fun (tys : List TypeId) (size k : Nat) => elems_agree (P := P) (hp := hp) (hp2 := hp2) (tm := tm) (tys := tys) (size := size) (k := k) (ps := ps.toList) fun x hx id hid => hop x (by simpa [Op.operands] using hx) id (ids_cells hid)
    simp only [pureOp] at h ⊢
    simp only [he]
    exact h
  case slice t x lo hi mx =>
    have hst : stkAt H f o.dst = false := by
      cases hs : stkAt H f o.dst with
      | false => rfl
      | true => rw [hs] at hc; simp at hc
    refine fin _ ho (fun hp => by simp only [stepD, stepV, ho, hst]; rfl) (fun h => ?_)
    cases mx with
    | some _ => simp only [pureOp] at h; cases h
    | none =>
      simp only [pureOp] at h ⊢
      cases hu : P.underlying t with
      | none => rw [hu] at h; cases h
      | some d =>
        rw [hu] at h
        cases d <;> simp only at h ⊢ <;> first | exact h | skip
        rename_i et
        cases hz : decide (0 < P.cellsOf et) with
        | false => rw [hz] at h; cases h
        | true => rw [hz] at h; exact cutS_agree (fun id hid => hop x (by simp [Op.operands]) id (ids3_one hid)) h
  case convert s t x =>
    refine fin _ ho (fun hp => by simp only [stepD, stepV, ho]) (fun h => ?_)
    simp only [pureOp] at h ⊢
    rw [elsOf_agree fun id hid => hop x (by simp [Op.operands]) id (ids3_one hid)]
    exact h
  case call c =>
    obtain ⟨cal, args, ats⟩ := c
    cases cal with
    | invoke _ _ => simp at hc
    | builtin b =>
      by_cases hb : b = .append
      · subst hb
        simp only at hc
        obtain ⟨hst, hob, har, l, rfl⟩ := nilApp_of (H := H) (f := f) (o := o) (args := args) (by
          rcases hc with hc | hc
          · exfalso
            cases h1 : stkAt H f o.dst <;> rw [h1] at hc <;> simp only at hc
            · cases h2 : objAt H f o.dst || arrAt H f o.dst || !nilArg args.toList <;> rw [h2] at hc <;> simp at hc
            · cases hc
          · exact hc)
        obtain ⟨h1, x, sz, news, h2, h3, h4⟩ := nilApp_spec ho hst hob har h
        exact h4 hp2 ((elsOf_agree fun id hid => hop x (by rw [ho] at h2; exact h2) id (ids3_one hid)).trans h3)
      · cases b <;> first | (exact absurd rfl hb) | (simp at hc; done) | (simp only [reduceCtorEq, or_self] at hc)
    | value x =>
      have hids : ∀ id ∈ idsL ids2 (normArgs P ats.toList (args.toList.map (ev tm))), nth? hp2 id = nth? hp id := fun id hid => by
        have h1 := ids_normArgs _ _ id hid
        have : ∀ l : List Operand, (∀ x ∈ l, x ∈ args.toList) → id ∈ idsL ids2 (l.map (ev tm)) → nth? hp2 id = nth? hp id := by
          intro l
          induction l with
          | nil => intro _ h; cases h
          | cons y l ih =>
            intro hl h
            simp only [List.map_cons, idsL] at h
            rcases List.mem_append.1 h with h | h
            · exact hop y (by simp only [Op.operands, Call.operands]; exact Array.mem_append.2 (.inr (by simpa using hl y List.mem_cons_self))) id (ids3_two h)
            · exact ih (fun z hz => hl z (List.mem_cons_of_mem _ hz)) h
        exact this args.toList (fun _ h => h) h1
      cases x with
      | const _ => simp at hc
      | global _ => simp at hc
      | tmp _ => cases hi : H.ind f <;> simp [hi] at hc
      | func g =>
      simp only at hc
      cases hi : H.inl f g with
      | true => rw [hi] at hc; simp only at hc; split at hc <;> simp at hc
      | false =>
        cases had : adoAt H f o.dst with
        | true => rw [hi] at hc; simp [had] at hc
        | false =>
        simp only [stepD, stepV, ho, ev, inlAt_func, hi, had] at h ⊢
        cases hgd : H.good.contains g with
        | false => rw [hgd] at h; cases h
        | true =>
          rw [hgd] at h
          simp only at h ⊢
          have e0 : ([] ++ normArgs P ats.toList (args.toList.map (ev tm)) ++ []) = normArgs P ats.toList (args.toList.map (ev tm)) := by simp
          rw [e0] at h ⊢
          rw [closeArgs_agree hids, closeOArgs_agree hids]
          repeat' split at h
          all_goals first | (cases h; done) | skip
          all_goals (cases h; simp_all)
/-- Steps that make an object, whatever the others are. -/
def newOnly (o : Oper) : Bool := match o.op with
  | .alloc _ | .box _ _ => true
  | _ => false
theorem step_N {o : Oper} (hn : newOnly o = true) {v : AV} {hp1 : Hp} (h : stepD P H call f o tm hp = some (v, hp1)) : ∃ x, hp1 = hp ++ [x] ∧ ∀ hp2 : Hp, hp2.length = hp.length → stepD P H call f o tm hp2 = some (v, hp2 ++ [x]) := by
  unfold newOnly at hn
  cases ho : o.op <;> rw [ho] at hn <;> simp only at hn <;> first | (cases hn; done) | skip
  case alloc t =>
    simp only [stepD, stepV, ho, forceHp_eq] at h ⊢
    repeat' split at h
    all_goals first | (cases h; done) | skip
    cases h
    exact ⟨_, rfl, fun hp2 h2 => by simp_all⟩
  case box t x =>
    simp only [stepD, stepV, ho, forceHp_eq] at h ⊢
    repeat' split at h
    all_goals first | (cases h; done) | skip
    cases h
    exact ⟨_, rfl, fun hp2 h2 => by simp_all⟩
end agree

theorem parts_congr {t : TypeId} : ∀ (ps : List (Nat × Operand)) (cs : List AV), (∀ x ∈ ps.map (·.2), ev tm x = ev tm' x) → parts P t tm cs ps = parts P t tm' cs ps
  | [], cs, h => rfl
  | (i, x) :: rest, cs, h => by
    have h1 := h x (by simp)
    have h2 := fun cs => parts_congr (t := t) rest cs fun y hy => h y (by simp only [List.map_cons, List.mem_cons]; exact .inr hy)
    simp only [parts, h1, h2]
theorem partsA_congr {sz : Nat} : ∀ (ps : List (Nat × Operand)) (cs : List AV), (∀ x ∈ ps.map (·.2), ev tm x = ev tm' x) → partsA sz tm cs ps = partsA sz tm' cs ps
  | [], cs, h => rfl
  | (i, x) :: rest, cs, h => by
    have h1 := h x (by simp)
    have h2 := fun cs => partsA_congr (sz := sz) rest cs fun y hy => h y (by simp only [List.map_cons, List.mem_cons]; exact .inr hy)
    simp only [partsA, h1, h2]
theorem elems_congr {size : Nat} {tys : List TypeId} : ∀ (ps : List (Nat × Operand)) (k : Nat), (∀ x ∈ ps.map (·.2), ev tm x = ev tm' x) → elems P tys hp size tm k ps = elems P tys hp size tm' k ps
  | [], k, h => rfl
  | (i, x) :: rest, k, h => by
    have h1 := h x (by simp)
    have h2 := fun k => elems_congr (size := size) (tys := tys) rest k fun y hy => h y (by simp only [List.map_cons, List.mem_cons]; exact .inr hy)
    simp only [elems, h1, h2]
theorem pure_congr {op : Op} {ρ : Type} (K : AV → Option ρ) (h : ∀ x ∈ op.operands, ev tm x = ev tm' x) : pureOp P tm hp op K = pureOp P tm' hp op K := by
  cases op <;> simp only [Op.operands] at h
  case build t ps =>
    have := fun cs => parts_congr (P := P) (t := t) ps.toList cs (fun x hx => h x (by simpa using hx))
    have hA := fun (sz : Nat) cs => partsA_congr (sz := sz) ps.toList cs (fun x hx => h x (by simpa using hx))
    simp only [pureOp, this, hA]
  case buildSlice t n ps =>
    have := fun (tys : List TypeId) (size k : Nat) => elems_congr (P := P) (tys := tys) (hp := hp) (size := size) ps.toList k (fun x hx => h x (by simpa using hx))
    simp only [pureOp, this]
  case makeFunc fn a b =>
    have h1 : a.toList.map (ev tm) = a.toList.map (ev tm') := List.map_congr_left fun x hx => h x (by simp; exact .inl (by simpa using hx))
    have h2 : b.toList.map (ev tm) = b.toList.map (ev tm') := List.map_congr_left fun x hx => h x (by simp; exact .inr (by simpa using hx))
    cases fn <;> simp only [pureOp, h1, h2]
  case slice t x lo hi mx =>
    have hx := h x (by simp)
    have h1 : lo.map (ev tm) = lo.map (ev tm') := by cases lo with | none => rfl | some y => simp [h y (by simp)]
    have h2 : hi.map (ev tm) = hi.map (ev tm') := by cases hi with | none => rfl | some y => simp [h y (by simp)]
    cases mx <;> simp only [pureOp, hx, h1, h2]
  case unOp u t x => cases u <;> simp only [pureOp, h x (by simp)]
  case call c =>
    obtain ⟨cal, args, ats⟩ := c
    have ha : ∀ x ∈ args, ev tm x = ev tm' x := fun x hx => h x (by simp only [Call.operands]; exact Array.mem_append.2 (.inr hx))
    cases cal <;> simp only [pureOp]
    rename_i b
    cases b <;> simp only
    all_goals (obtain ⟨l⟩ := args)
    all_goals
      rcases l with _ | ⟨x, _ | ⟨y, _ | ⟨z, _ | ⟨z2, l⟩⟩⟩⟩
    all_goals simp only
    all_goals first
      | rfl
      | (rw [ha x (by simp), ha y (by simp), ha z (by simp)]; done)
      | (rw [ha x (by simp), ha y (by simp)]; done)
      | (rw [ha x (by simp)]; done)
  all_goals simp_all [pureOp]
theorem step_congr (o : Oper) (h : ∀ x ∈ o.op.operands, ev tm x = ev tm' x) : stepD P H call f o tm hp = stepD P H call f o tm' hp := by
  unfold stepD
  have hp0 := fun K : AV → Option (AV × Hp) => pure_congr (P := P) (hp := hp) K h
  cases ho : o.op <;> rw [ho] at h hp0 <;> simp only [Op.operands] at h <;> simp only [stepV, ho]
  case assign x => rw [h x (by simp)]
  case box t x => rw [h x (by simp)]
  case store t a x => rw [h a (by simp), h x (by simp)]
  case call c =>
    obtain ⟨cal, args, ats⟩ := c
    have ha : ∀ x ∈ args, ev tm x = ev tm' x := fun x hx => h x (by simp only [Call.operands]; exact Array.mem_append.2 (.inr hx))
    have hm : args.toList.map (ev tm) = args.toList.map (ev tm') := List.map_congr_left fun x hx => ha x (by simpa using hx)
    cases cal <;> simp only
    · rename_i fo
      rw [h fo (by simp [Call.operands]), hm]
    · exact hp0 _
    · rename_i b
      cases b <;> simp only
      case append =>
        obtain ⟨l⟩ := args
        rcases l with _ | ⟨x, _ | ⟨y, _ | ⟨z, l⟩⟩⟩ <;> simp only
        rw [ha x (by simp), ha y (by simp)]
      case copy =>
        obtain ⟨l⟩ := args
        rcases l with _ | ⟨x, _ | ⟨y, _ | ⟨z, l⟩⟩⟩ <;> simp only
        rw [ha x (by simp), ha y (by simp)]
      all_goals exact hp0 _
  all_goals first
    | rfl
    | exact hp0 _
end
end Go.Proofs.Ytjobghbdfannfaa
end

