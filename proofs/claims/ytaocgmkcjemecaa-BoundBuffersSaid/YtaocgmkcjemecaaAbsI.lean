/- The interpreter is sound: append. Parts of the proofs of the laws. Conditions: none. -/
import Derived.Test.YtaocgmkcjemecaaAbsH
namespace Go.Proofs.Ytaocgmkcjemecaa
open Go.RowKit
set_option linter.unusedVariables false
set_option linter.unusedSimpArgs false

theorem flatten_inv {α : Type} {vss : List (List α)} {size : Nat} (h : ∀ vs ∈ vss, vs.length = size) {j : Nat} {u : α} (hj : vss.flatten[j]? = some u) : ∃ vs, vss[j / size]? = some vs ∧ vs[j % size]? = some u := by
  have hlt := nth?_lt hj
  rw [flatten_len h] at hlt
  have hz : 0 < size := Nat.pos_of_ne_zero fun h0 => by rw [h0, Nat.mul_zero] at hlt; omega
  have hd : j / size < vss.length := Nat.div_lt_of_lt_mul (by rw [Nat.mul_comm]; exact hlt)
  refine ⟨vss[j / size], List.getElem?_eq_getElem hd, ?_⟩
  have := flatten_at h (i := j / size) (j := j % size) (List.getElem?_eq_getElem hd) (Nat.mod_lt _ hz)
  rw [Nat.div_add_mod' j size, hj] at this
  exact this.symm

section
variable {S : Nat → Nat → Prop} {w : World} {hp : Hp} {φ : List Pl} {P : Program} {base : Nat} {e : Operand → Value} {o : Oper} {tm : Tm}

theorem laid_flat {a : Option Addr} {size : Nat} {vss : List (List Value)} (h : Laid S w a size vss) {j : Nat} {u : Value} (hj : vss.flatten[j]? = some u) : ∃ b ob, a = some ⟨b, ob, none⟩ ∧ S b (ob + j) ∧ w.cell? ⟨b, ob + j, none⟩ = some u := by
  obtain ⟨vs, h1, h2⟩ := flatten_inv h.1 hj
  obtain ⟨b, ob, e1, e2, e3⟩ := h.2 _ _ _ _ h1 h2
  have : ob + j / size * size + j % size = ob + j := by rw [Nat.add_assoc, Nat.div_add_mod']
  rw [this] at e2 e3
  exact ⟨b, ob, e1, e2, e3⟩

/-- What is appended, or copied. -/
theorem src_of (hs : Sim P base S w hp φ) {av : AV} {v : Value} {size : Nat} {news : List (List AV)} (h : Rep S w hp φ av v) (hn : elsOf hp size av = some news) :
    ∃ (ad : Option Addr) (c : Nat) (vss : List (List Value)), v = .slice ad news.length c ∧ Repss S w news vss ∧ (∀ vs ∈ vss, vs.length = size) ∧ (∀ j u, vss.flatten[j]? = some u → ∃ a, ad = some a ∧ w.cell? (a.add j) = some u) ∧ (ad = none → news = [] ∧ c = 0) := by
  have fin : ∀ (a : Option Addr) (cap : Nat) (els : List (List AV)) (vss : List (List Value)), Repss S w els vss → Laid S w a size vss → Cap a els.length cap → v = .slice a els.length cap →
      ∃ (ad : Option Addr) (c : Nat) (vss : List (List Value)), v = .slice ad els.length c ∧ Repss S w els vss ∧ (∀ vs ∈ vss, vs.length = size) ∧ (∀ j u, vss.flatten[j]? = some u → ∃ a, ad = some a ∧ w.cell? (a.add j) = some u) ∧ (ad = none → els = [] ∧ c = 0) := by
    intro a cap els vss hr hl hc he
    refine ⟨a, cap, vss, he, hr, hl.1, fun j u hj => ?_, fun ha => ?_⟩
    · obtain ⟨b, ob, e1, e2, e3⟩ := laid_flat hl hj
      exact ⟨_, e1, by rw [add_none]; exact e3⟩
    · have := hc.2.2 ha
      have := hc.1
      exact ⟨List.eq_nil_of_length_eq_zero (by omega), by omega⟩
  cases av <;> simp only [elsOf] at hn <;> first | (cases hn; done) | skip
  case nils => cases hn; exact ⟨none, 0, [], h.nils_inv, .nil, by simp, fun j u hj => by simp at hj, fun _ => ⟨rfl, rfl⟩⟩
  case sl s els =>
    split at hn
    · rename_i hq
      have hq := of_decide_eq_true hq
      subst hq; cases hn
      obtain ⟨vss, a, cap, hr, hl, hc, he⟩ := h.sl_inv
      exact fin a cap _ vss hr hl hc he
    · cases hn
  case row id n =>
    obtain ⟨et, s, els, h1, h2, h3, h4⟩ := h.row_inv
    rw [h1] at hn
    simp only at hn
    split at hn
    · rename_i hq
      have hq := of_decide_eq_true hq
      subst hq; cases hn
      obtain ⟨vss, a, cap, hr, hl, hc, he⟩ := h3.sl_inv
      exact fin a cap _ vss hr hl hc he
    · cases hn
  case own id off n =>
    obtain ⟨b, s, els, cap, ad, hb, hob, hle, had, hc, he⟩ := h.own_inv
    rw [hob] at hn
    simp only at hn
    split at hn
    · rename_i hq
      have hq := of_decide_eq_true hq
      subst hq; cases hn
      rw [nth?_eq] at hob
      obtain ⟨b', vss, ex, E', g1, g2, g3, g4, g5, g6⟩ := hs.obj id _ hob
      rw [hb] at g1; cases g1
      have hlen : ((els.drop off).take n).length = n := by rw [List.length_take, List.length_drop]; omega
      refine ⟨ad, cap, (vss.drop off).take n, by rw [hlen]; exact he, (g4.drop off).take n, fun vs hv => g5 vs (List.mem_of_mem_drop (List.mem_of_mem_take hv)), fun j u hj => ?_, fun ha => ?_⟩
      · obtain ⟨vs, e1, e2⟩ := flatten_inv (size := s) (fun vs hv => g5 vs (List.mem_of_mem_drop (List.mem_of_mem_take hv))) hj
        rw [List.getElem?_take] at e1
        split at e1
        · rename_i hlt
          rw [List.getElem?_drop] at e1
          have hvl := g5 vs (List.mem_of_getElem? e1)
          have hz : 0 < s := by rw [← hvl]; exact Nat.lt_of_le_of_lt (Nat.zero_le _) (nth?_lt e2)
          refine ⟨_, had (Nat.lt_of_le_of_lt (Nat.zero_le _) hlt), ?_⟩
          rw [add_none]
          have := flatten_at g5 e1 (j := j % s) (Nat.mod_lt _ hz)
          rw [e2, Nat.add_mul, Nat.add_assoc, Nat.div_add_mod'] at this
          simp [World.cell?, g3]
          have hx := List.getElem?_append_left (l₂ := ex) (List.getElem?_eq_some_iff.1 this).1
          rw [this] at hx
          simpa using hx
        · cases e1
      · have := hc.2.2 ha
        have := hc.1
        exact ⟨List.eq_nil_of_length_eq_zero (by omega), by omega⟩
    · cases hn

/-- append to a row that the call owns. -/
theorem append_own {t et : TypeId} (hu : P.underlying t = some (.slice et)) {size : Nat} (hsz : P.cellsOf et = size) (hz : 0 < size) {z : AV} (hzero : zero P et = some z) (hzl : z.cells.length = size) (hz1 : z.cells.all AV.one = true)
    {v : Value} {n : Nat} {xs : List Value} (hown : w.ownsRow base et size v n xs) (hbase : base ≤ w.heap.size) {ad : Option Addr} {m c : Nat} {news : List Value} (hl : news.length = m * size) (hnews : ∀ j u, news[j]? = some u → ∃ a, ad = some a ∧ w.cell? (a.add j) = some u) (hnone : ad = none → m = 0 ∧ c = 0) (h1 : Ones news)
    (hb : (n + m) * (P.bytesOf et + 1) ≤ 140737488355328) (ty : TypeId) :
    ∃ v' w', (Builtin.append_ #[t, t] ty #[v, .slice ad m c]).run P w = .ok v' w' ∧ w'.ownsRow base et size v' (n + m) (xs ++ news) ∧ w.grownBy w' v.ownBlock ∧ (∀ g, v.ownBlock = some g → ∀ ob, ob < n * size → w'.cell? ⟨g, ob, none⟩ = w.cell? ⟨g, ob, none⟩) ∧
      (v'.ownBlock = v.ownBlock ∨ ∃ g, v'.ownBlock = some g ∧ w.heap.size ≤ g) ∧ (m = 0 → v' = v) := by
  obtain ⟨i, zv, hi, hzv, hlit⟩ := zero_of hzero
  have hisz : i.size = size := by rw [← hsz]; simp [Program.cellsOf, hi]
  have hby : P.bytesOf et = i.bytes := by simp [Program.bytesOf, hi]
  rw [hby, Nat.mul_add, Nat.mul_one] at hb
  have hrep : Rep (fun _ _ => False) w [] [] z zv := by rw [hlit]; exact lit_rep zv
  have hzvl : zv.cells.size = size := by
    have := (hrep.cells_rep hz1).length
    rw [hzl] at this; simpa using this.symm
  cases ad with
  | none =>
    obtain ⟨rfl, rfl⟩ := hnone rfl
    have hnil : news = [] := List.eq_nil_of_length_eq_zero (by rw [hl]; simp)
    subst hnil
    have hrun := run_append_owned_none (P := P) (w := w) base t ty et i size hu hi v n xs hown
    exact ⟨v, w, hrun, by simpa using hown, ⟨rfl, rfl, rfl, Nat.le_refl _, fun _ _ _ => rfl⟩, fun _ _ _ _ => rfl, .inl rfl, fun _ => rfl⟩
  | some ad =>
    have hnews' : ∀ j u, news[j]? = some u → w.cell? (ad.add j) = some u := fun j u hj => by
      obtain ⟨a, e1, e2⟩ := hnews j u hj
      cases e1; exact e2
    obtain ⟨v', w', hr, h2, h3, h4⟩ := run_append_own (P := P) w base t ty et i zv size i.bytes hu hi hzv hisz rfl hzvl hz v n xs hown ad m c news hl hnews' h1 (by unfold maxLen; omega) (by omega) hbase
    refine ⟨v', w', hr, h2, h3, ?_⟩
    rcases hown.2 with ⟨rfl, rfl⟩ | ⟨g, cap, cur, rfl, hbg, hgg, hn, hcap, hcur, htake⟩
    · refine ⟨fun g hg => by simp [Value.ownBlock] at hg, ?_, fun hm => ?_⟩
      · by_cases hm : m = 0
        · have := h4.2 ⟨rfl, hm⟩
          subst this; exact .inl rfl
        · have := run_append_nil (P := P) w t ty et i zv hu hi hzv ad m c news (by rw [hisz]; exact hl) hnews' (by omega) (by rw [Nat.zero_add] at hb; omega) (by rw [Nat.zero_add] at hb; omega)
          rw [hr] at this
          injection this with e1 e2
          subst e1
          exact .inr ⟨_, rfl, Nat.le_refl _⟩
      · exact h4.2 ⟨rfl, hm⟩
    · by_cases hroom : n + m ≤ cap
      · have hfit : n * i.size + news.length ≤ cur.size := by
          rw [hisz, hl, hcur, ← Nat.add_mul]; exact Nat.mul_le_mul_right _ hroom
        have := run_append_room (P := P) w t ty et i hu hi g n cap cur hgg ad m c news (by rw [hisz]; exact hl) hnews' h1 hroom hfit
        rw [hr] at this
        injection this with e1 e2
        subst e1; subst e2
        refine ⟨fun g' hg' ob hob => ?_, .inl rfl, fun hm => by subst hm; rfl⟩
        have hg' : g = g' := by simpa [Value.ownBlock] using hg'
        subst hg'
        rw [cell_setRow_same w g ob cur _ et (0, 0) hgg]
        have h0 : w.cell? ⟨g, ob, none⟩ = cur[ob]? := by simp [World.cell?, hgg]
        rw [h0]
        simp only [List.getElem?_toArray, List.append_assoc]
        rw [hisz] at hfit ⊢
        rw [List.getElem?_append_left (by rw [List.length_take, Array.length_toList]; omega), List.getElem?_take, if_pos hob]
        simp
      · have hlo : xs.length = n * i.size := by rw [hisz]; exact hown.1
        have := run_append_grow (P := P) w t ty et i zv hu hi hzv ⟨g, 0, none⟩ n cap xs hlo (hown.cells rfl) ad m c news (by rw [hisz]; exact hl) hnews' (by omega) (by omega) (growslice_fits (by omega) (by omega))
        rw [hr] at this
        injection this with e1 e2
        subst e1; subst e2
        refine ⟨fun g' hg' ob hob => ?_, .inr ⟨_, rfl, Nat.le_refl _⟩, fun hm => by omega⟩
        have hg' : g = g' := by simpa [Value.ownBlock] using hg'
        subst hg'
        have hlt := (Array.getElem?_eq_some_iff.1 hgg).1
        exact cell_alloc_old w.drew _ hlt

theorem hpExt_row (hp : Hp) (φ : List Pl) {id : Nat} {et size : Nat} {els news : List (List AV)} {v v' : Value} (hob : hp[id]? = some (.row et size els)) (hv : φ[id]? = some (.sv v)) (hm : news = [] → v' = v) : HpExt hp φ (hp.set id (.row et size (els ++ news))) (φ.set id (.sv v')) := by
  have hid := nth?_lt hob
  have hidφ := nth?_lt hv
  refine ⟨fun j b h => ?_, fun j sz es h => ⟨es, ?_, rfl⟩, fun j e sz es h => ?_⟩
  · rw [List.getElem?_set_ne (fun e => by subst e; rw [hv] at h; cases h)]; exact h
  · rw [nth?_eq] at h ⊢
    rw [List.getElem?_set_ne (fun e => by subst e; rw [hob] at h; cases h)]; exact h
  · rw [nth?_eq] at h
    simp only [nth?_eq]
    by_cases hj : j = id
    · subst hj
      rw [hob] at h; cases h
      refine ⟨news, List.getElem?_set_self hid, fun hn u hu => ?_⟩
      rw [hv] at hu; cases hu
      rw [List.getElem?_set_self hidφ, hm hn]
    · refine ⟨[], by rw [List.getElem?_set_ne (Ne.symm hj), List.append_nil]; exact h, fun _ u hu => ?_⟩
      rw [List.getElem?_set_ne (Ne.symm hj)]; exact hu

theorem append_core (hs : Sim P base S w hp φ) {t et : TypeId} {s x : Operand} (ho : o.op = .call { callee := .builtin .append, args := #[s, x], argTypes := #[t, t] }) (hu : P.underlying t = some (.slice et)) (hz : 0 < P.cellsOf et) {z : AV} (hzero : zero P et = some z) (hzl : z.cells.length = P.cellsOf et) (hz1 : z.cells.all AV.one = true)
    {news : List (List AV)} {xv : AV} (hxr : Rep S w hp φ xv (e x)) (hx : elsOf hp (P.cellsOf et) xv = some news) {id : Nat} (hcur : φ[id]? = some (.sv (e s))) {els : List (List AV)} (hob : hp[id]? = some (.row et (P.cellsOf et) els)) (hb : (els.length + news.length) * (P.bytesOf et + 1) ≤ 140737488355328) :
    Acts P base S w hp φ e o (.row id (els.length + news.length)) (hp.set id (.row et (P.cellsOf et) (els ++ news))) := by
  obtain ⟨ad, c, nvss, hxe, hnr, hnl, hnc, hnn⟩ := src_of hs hxr hx
  obtain ⟨v, vss, g1, g2, g3, g4, g5, g6, g7⟩ := hs.obj id _ hob
  rw [hcur] at g1; cases g1
  have hlv := g3.length
  have hln := hnr.length
  have hno : Ones nvss.flatten := by
    intro u hu
    obtain ⟨vs, hvs, hu⟩ := List.mem_flatten.1 hu
    obtain ⟨k, hk, rfl⟩ := List.getElem_of_mem hvs
    obtain ⟨el, hel⟩ : ∃ el, news[k]? = some el := ⟨_, List.getElem?_eq_getElem (by omega)⟩
    obtain ⟨vs', e1, e2, e3⟩ := hnr.get hel
    rw [List.getElem?_eq_getElem hk] at e1; cases e1
    exact e3 u hu
  obtain ⟨v', w', hrun, hown', hgrow, hold, hblk, hm0⟩ := append_own (ty := o.type) hu rfl hz hzero hzl hz1 g2 hs.low (ad := ad) (m := news.length) (c := c) (news := nvss.flatten) (by rw [flatten_len hnl, hln]) hnc (fun ha => by obtain ⟨e1, e2⟩ := hnn ha; subst e1; exact ⟨rfl, e2⟩) hno hb
  have hat : ∀ g, (e s).ownBlock = some g → blockAt φ id = some g := fun g hg => by simp [blockAt, hcur, hg]
  have hvlt := hown'.lt
  have hnewblk : ∀ g, v'.ownBlock = some g → (e s).ownBlock = some g ∨ w.heap.size ≤ g := by
    intro g hg
    rcases hblk with h | ⟨g', h1, h2⟩
    · rw [h] at hg; exact .inl hg
    · rw [hg] at h1; cases h1; exact .inr h2
  let S' : Nat → Nat → Prop := fun b ob => S b ob ∨ (v'.ownBlock = some b ∧ ob < (els.length + news.length) * P.cellsOf et)
  have hcells : ∀ b ob, v'.ownBlock = some b → ob < (els.length + news.length) * P.cellsOf et → ∃ u, w'.cell? ⟨b, ob, none⟩ = some u ∧ (vss.flatten ++ nvss.flatten)[ob]? = some u := by
    intro b ob hb' hlt
    have hl : ob < (vss.flatten ++ nvss.flatten).length := by rw [hown'.1]; exact hlt
    refine ⟨_, ?_, List.getElem?_eq_getElem hl⟩
    have := hown'.cells hb' ob _ (List.getElem?_eq_getElem hl)
    rw [add_none, Nat.zero_add] at this
    exact this
  have hS : SExt S w S' w' := by
    intro b ob hb'
    refine ⟨.inl hb', ?_⟩
    by_cases hbe : (e s).ownBlock = some b
    · exact hold b hbe ob (((g7 b hbe) ob).1 hb')
    · obtain ⟨u, hu'⟩ := hs.cell b ob hb'
      exact World.cell?_of_block (a := ⟨b, ob, none⟩) (hgrow.block b (cell_lt hu') fun h => hbe h.symm)
  have hE := hpExt_row hp φ (news := news) (v' := v') hob hcur (fun hn => hm0 (by rw [hn]; rfl))
  have hidφ : id < φ.length := nth?_lt hcur
  have hbt : ∀ j b, blockAt (φ.set id (.sv v')) j = some b → (j = id ∧ v'.ownBlock = some b) ∨ (j ≠ id ∧ blockAt φ j = some b) := by
    intro j b hj
    unfold blockAt at hj ⊢
    by_cases hji : j = id
    · subst hji
      rw [List.getElem?_set_self hidφ] at hj
      exact .inl ⟨rfl, hj⟩
    · rw [List.getElem?_set_ne (Ne.symm hji)] at hj
      exact .inr ⟨hji, hj⟩
  have hclash : ∀ j b, j ≠ id → blockAt φ j = some b → v'.ownBlock ≠ some b := by
    intro j b hji hj hv'
    rcases hnewblk b hv' with h | h
    · exact hji (hs.apart j id b hj (hat b h))
    · have := (hs.block_lt hj).2; omega
  have hlen : (els ++ news).length = els.length + news.length := List.length_append
  have hsim : Sim P base S' w' (hp.set id (.row et (P.cellsOf et) (els ++ news))) (φ.set id (.sv v')) := by
    refine ⟨by simpa using hs.len, Nat.le_trans hs.low hgrow.size, fun b ob hb' => ?_, fun j oj hj => ?_, fun i j b hi hj => ?_⟩
    · rcases hb' with hb' | ⟨hb', hlt⟩
      · obtain ⟨u, hu'⟩ := hs.cell b ob hb'
        exact ⟨u, (hS b ob hb').2.trans hu'⟩
      · obtain ⟨u, hu', _⟩ := hcells b ob hb' hlt
        exact ⟨u, hu'⟩
    · by_cases hji : j = id
      · subst hji
        rw [List.getElem?_set_self (nth?_lt hob)] at hj
        cases hj
        refine ⟨v', vss ++ nvss, List.getElem?_set_self hidφ, by rw [hlen, List.flatten_append]; exact hown', (Repss.mono hS g3).append (Repss.mono hS hnr), fun vs hv => (List.mem_append.1 hv).elim (g4 vs) (hnl vs), hz, rfl, fun g hg ob => ?_⟩
        rw [hlen]
        constructor
        · rintro (h | ⟨_, h⟩)
          · rcases hnewblk g hg with h' | h'
            · have := ((g7 g h') ob).1 h
              rw [Nat.add_mul]; omega
            · obtain ⟨u, hu'⟩ := hs.cell g ob h
              have := cell_lt hu'; omega
          · exact h
        · exact fun h => .inr ⟨hg, h⟩
      · rw [List.getElem?_set_ne (Ne.symm hji)] at hj
        refine (hs.obj j oj hj).keep hS hE (List.getElem?_set_ne (Ne.symm hji)) fun b hb' => ⟨hgrow.block b (hs.block_lt hb').2 fun h => hji (hs.apart j id b hb' (hat b h.symm)), fun ob => ⟨fun h => h.elim (fun h => h) fun h => absurd h.1 (hclash j b hji hb'), .inl⟩⟩
    · rcases hbt i b hi with ⟨i1, i2⟩ | ⟨i1, i2⟩ <;> rcases hbt j b hj with ⟨j1, j2⟩ | ⟨j1, j2⟩
      · rw [i1, j1]
      · exact absurd i2 (hclash j b j1 j2)
      · exact absurd j2 (hclash i b i1 i2)
      · exact hs.apart i j b i2 j2
  have htr : Trans base S w hp φ S' w' (hp.set id (.row et (P.cellsOf et) (els ++ news))) (φ.set id (.sv v')) := by
    refine ⟨hS, hE, (Below.refl _ _).grown hgrow hs.low fun k hk => (g2.lt k hk).1, fun b ob h => ?_⟩
    rcases h with h | ⟨h, _⟩
    · exact .inl h
    · exact .inr (hvlt b h).1
  refine ⟨v', S', φ.set id (.sv v'), w', .inl ?_, ?_, hsim, htr⟩
  · simp only [execOp, ho, resolve, invoke, builtin, Sem.run_bind, Sem.run_pure, Result.andThen_ok, List.map_toArray, List.map_cons, List.map_nil, hxe, hrun]
  · refine .row _ _ id _ v' et (P.cellsOf et) (els ++ news) (by rw [nth?_eq]; exact List.getElem?_set_self (nth?_lt hob)) (by rw [hlen]; exact Nat.le_refl _) ?_ (fun _ => List.getElem?_set_self hidφ)
    rw [List.take_of_length_le (by rw [hlen]; exact Nat.le_refl _)]
    have hrr : Repss S' w' (els ++ news) (vss ++ nvss) := (Repss.mono hS g3).append (Repss.mono hS hnr)
    have hll : ∀ vs ∈ vss ++ nvss, vs.length = P.cellsOf et := fun vs hv => (List.mem_append.1 hv).elim (g4 vs) (hnl vs)
    rcases hown'.2 with ⟨hv', h0⟩ | ⟨g, cap, cur, hv', _, _, hc1, hc2, _⟩
    · have := Rep.sl (S := S') (w := w') [] [] (P.cellsOf et) (els ++ news) (vss ++ nvss) none 0 hrr ⟨hll, fun j vs t u hj hu => by
        have := nth?_lt hj
        rw [← hrr.length, hlen] at this; omega⟩ ⟨by omega, by unfold maxLen; omega, fun _ => rfl⟩
      rw [hlen, h0] at this
      rw [hv']; exact this
    · have := Rep.sl (S := S') (w := w') [] [] (P.cellsOf et) (els ++ news) (vss ++ nvss) (some ⟨g, 0, none⟩) cap hrr ⟨hll, fun j vs t u hj hu => by
        have htl : t < P.cellsOf et := by rw [← hll vs (List.mem_of_getElem? hj)]; exact nth?_lt hu
        have hf := flatten_at hll hj htl
        rw [hu, List.flatten_append] at hf
        have hlt : j * P.cellsOf et + t < (els.length + news.length) * P.cellsOf et := by
          have := nth?_lt hf
          rw [hown'.1] at this; exact this
        have hob' : v'.ownBlock = some g := by rw [hv']; rfl
        obtain ⟨u', e1, e2⟩ := hcells g _ hob' hlt
        rw [hf] at e2; cases e2
        exact ⟨g, 0, rfl, .inr ⟨hob', by rw [Nat.zero_add]; exact hlt⟩, by rw [Nat.zero_add]; exact e1⟩⟩ ⟨by rw [hlen]; exact hc1, hc2, fun h => by cases h⟩
      rw [hlen] at this
      rw [hv']; exact this

theorem elsOf_append {hp2 : Hp} {size : Nat} {av : AV} {news : List (List AV)} (h : elsOf hp size av = some news) : elsOf (hp ++ hp2) size av = some news := by
  have hn : ∀ id o, nth? hp id = some o → nth? (hp ++ hp2) id = some o := fun id o h => by
    rw [nth?_eq] at h ⊢; rw [List.getElem?_append_left (nth?_lt h)]; exact h
  cases av <;> simp only [elsOf] at h ⊢ <;> first | exact h | skip
  case row id n =>
    cases ho : nth? hp id with
    | none => rw [ho] at h; cases h
    | some o => rw [ho] at h; rw [hn id o ho]; exact h
  case own id off n =>
    cases ho : nth? hp id with
    | none => rw [ho] at h; cases h
    | some o => rw [ho] at h; rw [hn id o ho]; exact h

theorem acts_append (hs : Sim P base S w hp φ) (ht : ∀ x, Rep S w hp φ (ev tm x) (e x)) {t et : TypeId} {s x : Operand} (ho : o.op = .call { callee := .builtin .append, args := #[s, x], argTypes := #[t, t] }) (hu : P.underlying t = some (.slice et)) (hz : 0 < P.cellsOf et) {z : AV} (hzero : zero P et = some z) (hzl : z.cells.length = P.cellsOf et) (hz1 : z.cells.all AV.one = true)
    {news : List (List AV)} (hx : elsOf hp (P.cellsOf et) (ev tm x) = some news) {id n : Nat} (hsv : ev tm s = .row id n) {els : List (List AV)} (hob : nth? hp id = some (.row et (P.cellsOf et) els)) (hn : n = els.length) (hb : (els.length + news.length) * (P.bytesOf et + 1) ≤ 140737488355328) :
    Acts P base S w hp φ e o (.row id (els.length + news.length)) (setNth hp id (.row et (P.cellsOf et) (els ++ news))) := by
  have hse := ht s
  rw [hsv] at hse
  obtain ⟨et', size', els', r1, r2, r3, r4⟩ := hse.row_inv
  rw [hob] at r1; cases r1
  rw [nth?_eq] at hob
  rw [setNth_eq]
  exact append_core hs ho hu hz hzero hzl hz1 (ht x) hx (r4 hn) hob hb

theorem acts_append_nil (hs : Sim P base S w hp φ) (ht : ∀ x, Rep S w hp φ (ev tm x) (e x)) {t et : TypeId} {s x : Operand} (ho : o.op = .call { callee := .builtin .append, args := #[s, x], argTypes := #[t, t] }) (hu : P.underlying t = some (.slice et)) (hz : 0 < P.cellsOf et) {z : AV} (hzero : zero P et = some z) (hzl : z.cells.length = P.cellsOf et) (hz1 : z.cells.all AV.one = true)
    {news : List (List AV)} (hx : elsOf hp (P.cellsOf et) (ev tm x) = some news) (hsv : ev tm s = .nils) (hb : news.length * (P.bytesOf et + 1) ≤ 140737488355328) :
    Acts P base S w hp φ e o (.row hp.length news.length) (hp ++ [.row et (P.cellsOf et) news]) := by
  have hse := ht s
  rw [hsv] at hse
  obtain ⟨hs', htr⟩ := hs.nil_row et hz
  have := append_core (o := o) (id := hp.length) (els := []) hs' ho hu hz hzero hzl hz1 (Rep.mono htr.s (ht x) htr.hp) (elsOf_append hx) (by rw [← hs.len, hse.nils_inv]; simp) (by simp) (by simpa using hb)
  obtain ⟨u, S', φ', w', h1, h2, h3, h4⟩ := this
  have e1 : (hp ++ [Ob.row et (P.cellsOf et) []]).set hp.length (.row et (P.cellsOf et) ([] ++ news)) = hp ++ [.row et (P.cellsOf et) news] := by simp
  rw [e1] at h2 h3 h4
  refine ⟨u, S', φ', w', h1, ?_, h3, htr.trans h4⟩
  simpa using h2
theorem acts_append_nil_arr (hs : Sim P base S w hp φ) (ht : ∀ x, Rep S w hp φ (ev tm x) (e x)) {t et : TypeId} {s x : Operand} (ho : o.op = .call { callee := .builtin .append, args := #[s, x], argTypes := #[t, t] }) (hu : P.underlying t = some (.slice et)) (hz : 0 < P.cellsOf et) {z : AV} (hzero : zero P et = some z) (hzl : z.cells.length = P.cellsOf et) (hz1 : z.cells.all AV.one = true)
    {news : List (List AV)} (hx : elsOf hp (P.cellsOf et) (ev tm x) = some news) (hsv : ev tm s = .nils) (hb : news.length * (P.bytesOf et + 1) ≤ 140737488355328) (hne : news.length ≠ 0) :
    Acts P base S w hp φ e o (.own hp.length 0 news.length) (hp ++ [.arr (P.cellsOf et) news]) := by
  obtain ⟨ad, c, nvss, hxe, hnr, hnl, hnc, hnn⟩ := src_of hs (ht x) hx
  have hln := hnr.length
  have hno : Ones nvss.flatten := by
    intro u hu
    obtain ⟨vs, hvs, hu⟩ := List.mem_flatten.1 hu
    obtain ⟨k, hk, rfl⟩ := List.getElem_of_mem hvs
    obtain ⟨el, hel⟩ : ∃ el, news[k]? = some el := ⟨_, List.getElem?_eq_getElem (by omega)⟩
    obtain ⟨vs', e1, e2, e3⟩ := hnr.get hel
    rw [List.getElem?_eq_getElem hk] at e1; cases e1
    exact e3 u hu
  have hse := ht s
  rw [hsv] at hse
  have hse := hse.nils_inv
  cases ad with
  | none => exact absurd (by rw [(hnn rfl).1]; rfl) hne
  | some ad =>
    obtain ⟨i, zv, hi, hzv, hlit⟩ := zero_of hzero
    have hisz : i.size = P.cellsOf et := by simp [Program.cellsOf, hi]
    have hby : P.bytesOf et = i.bytes := by simp [Program.bytesOf, hi]
    have hb' := hb
    rw [hby, Nat.mul_add, Nat.mul_one] at hb'
    obtain ⟨v', w', hr, hown', _⟩ := append_own (ty := o.type) hu rfl hz hzero hzl hz1 (World.ownsRow_nil w base et (P.cellsOf et)) hs.low (ad := some ad) (m := news.length) (c := c) (news := nvss.flatten) (by rw [flatten_len hnl, hln]) hnc (fun ha => by cases ha) hno (by rw [Nat.zero_add]; exact hb)
    have hrun := run_append_nil (P := P) w t o.type et i zv hu hi hzv ad news.length c nvss.flatten (by rw [flatten_len hnl, hln, hisz]) (fun j u hj => by
      obtain ⟨a, e1, e2⟩ := hnc j u hj
      cases e1; exact e2) (by omega) (by omega) (by omega)
    rw [hrun] at hr
    injection hr with e1 e2
    subst e1
    rcases hown'.2 with ⟨h, _⟩ | ⟨g, cap, cur, hv', hbg, hgg, hn, hcap, _⟩
    · cases h
    · simp only [Value.slice.injEq] at hv'
      obtain ⟨_, _, rfl⟩ := hv'
      have hs1 := hs.drew
      have hnr1 : Repss S w.drew news nvss := Repss.mono (show SExt S w S w.drew from fun b o h => ⟨h, rfl⟩) hnr
      obtain ⟨g1, g2⟩ := hs1.alloc_arr (E := et) hnr1 hnl (Builtin.zeroCells zv.cells (grownCap w news.length 0 et - news.length)).toList
      have earr : (nvss.flatten ++ (Builtin.zeroCells zv.cells (grownCap w news.length 0 et - news.length)).toList).toArray = nvss.flatten.toArray ++ Builtin.zeroCells zv.cells (grownCap w news.length 0 et - news.length) := by
        apply Array.ext'; simp
      rw [earr] at g1 g2
      have hdr : Trans base S w hp φ S w.drew hp φ := ⟨fun b o h => ⟨h, rfl⟩, .refl _ _, (Below.refl _ _).drew, fun _ _ h => .inl h⟩
      rw [Nat.zero_add] at hn
      refine ⟨_, S, _, _, .inl ?_, .own _ _ hp.length 0 news.length w.heap.size (P.cellsOf et) news (grownCap w news.length 0 et) (by rw [← hs.len]; simp) (by rw [nth?_eq]; simp) (by omega) (some ⟨w.heap.size, 0, none⟩) (fun _ => by simp) ⟨hn, hcap, fun h => by cases h⟩, g1, hdr.trans g2⟩
      simp only [execOp, ho, resolve, invoke, builtin, Sem.run_bind, Sem.run_pure, Result.andThen_ok, List.map_toArray, List.map_cons, List.map_nil, hxe, hse, hrun]
theorem acts_append_nil_none (hs : Sim P base S w hp φ) (ht : ∀ x, Rep S w hp φ (ev tm x) (e x)) {t et : TypeId} {s x : Operand} (ho : o.op = .call { callee := .builtin .append, args := #[s, x], argTypes := #[t, t] }) (hu : P.underlying t = some (.slice et)) (hz : 0 < P.cellsOf et) {z : AV} (hzero : zero P et = some z) (hzl : z.cells.length = P.cellsOf et) (hz1 : z.cells.all AV.one = true)
    {news : List (List AV)} (hx : elsOf hp (P.cellsOf et) (ev tm x) = some news) (hsv : ev tm s = .nils) (he : news.length = 0) :
    Acts P base S w hp φ e o .nils hp := by
  obtain ⟨ad, c, nvss, hxe, hnr, hnl, hnc, hnn⟩ := src_of hs (ht x) hx
  have hln := hnr.length
  have hnv : nvss = [] := List.eq_nil_of_length_eq_zero (by omega)
  subst hnv
  have hse := ht s
  rw [hsv] at hse
  have hse := hse.nils_inv
  obtain ⟨v', w', hr, hown', hgrow, hold, hblk, hm0⟩ := append_own (ty := o.type) hu rfl hz hzero hzl hz1 (World.ownsRow_nil w base et (P.cellsOf et)) hs.low (ad := ad) (m := news.length) (c := c) (news := []) (by rw [he]; simp) (fun j u hj => by simp at hj) (fun ha => ⟨he, by obtain ⟨_, e2⟩ := hnn ha; exact e2⟩) (by intro v hv; simp at hv) (by rw [he]; omega)
  obtain rfl := hm0 he
  have hblock : ∀ b, b < w.heap.size → w'.heap[b]? = w.heap[b]? := fun b hb => hgrow.block b hb (by simp [Value.ownBlock])
  have hS1 : SExt S w S w' := fun b ob hb => ⟨hb, by
    obtain ⟨u, hu'⟩ := hs.cell b ob hb
    exact World.cell?_of_block (a := ⟨b, ob, none⟩) (hblock b (cell_lt hu'))⟩
  have hkeep : Sim P base S w' hp φ := hs.keep hS1 hgrow.size (fun b o hb => by
    obtain ⟨u, hu⟩ := hs.cell b o hb
    exact ⟨u, (hS1 b o hb).2.trans hu⟩) fun id b hb => ⟨hblock b (hs.block_lt hb).2, fun o => .rfl⟩
  refine ⟨_, S, φ, w', .inl ?_, .nils _ _, hkeep, ⟨hS1, .refl _ _, (Below.refl _ _).grown hgrow hs.low fun k hk => by simp [Value.ownBlock] at hk, fun _ _ h => .inl h⟩⟩
  simp only [execOp, ho, resolve, invoke, builtin, Sem.run_bind, Sem.run_pure, Result.andThen_ok, List.map_toArray, List.map_cons, List.map_nil, hxe, hse, hr]
end
end Go.Proofs.Ytaocgmkcjemecaa
