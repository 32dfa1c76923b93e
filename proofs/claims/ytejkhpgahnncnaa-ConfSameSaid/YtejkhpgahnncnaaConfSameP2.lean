/- Parts of the proofs: what they lean on. Conditions: none. -/
import Derived.Deep.AppendLies
import Derived.Test.YtejkhpgahnncnaaProg
import Derived.Test.YtejkhpgahnncnaaConfSameP1
section
namespace Go.Proofs.Ytejkhpgahnncnaa
open Go.RowKit
set_option linter.unusedVariables false
set_option linter.unusedSimpArgs false

theorem ownsR_block {w : World} {base : Nat} {e : TypeId} {size : Nat} {v : Value} {n : Nat} {xs : List Value} (h : w.ownsRow base e size v n xs) {b : Nat} (hb : v.ownBlock = some b) : base ≤ b ∧ b < w.heap.size := by
  rcases h.2 with ⟨rfl, _⟩ | ⟨g, cap, cur, rfl, hbg, hgg, _⟩
  · cases hb
  · obtain rfl : g = b := by simpa [Value.ownBlock] using hb
    exact ⟨hbg, (Array.getElem?_eq_some_iff.1 hgg).1⟩
theorem owns_heap {w w' : World} {base base' : Nat} {e : TypeId} {size : Nat} {v : Value} {n : Nat} {xs : List Value} (h : w.ownsRow base e size v n xs) (hb : ∀ b, v.ownBlock = some b → base' ≤ b ∧ w'.heap[b]? = w.heap[b]?) : w'.ownsRow base' e size v n xs := by
  refine ⟨h.1, ?_⟩
  rcases h.2 with hn | ⟨g, cap, cur, rfl, hbg, hgg, rest⟩
  · exact .inl hn
  · obtain ⟨h1, h2⟩ := hb g rfl
    exact .inr ⟨g, cap, cur, rfl, h1, h2.trans hgg, rest⟩
structure RowsAt (B : Nat) (w : World) (eT e : TypeId) (size : Nat) (v : Value) (vals : List Value) (rows : List (List Value)) : Prop where
  len : vals.length = rows.length
  own : w.ownsRow B eT 1 v rows.length vals
  row : ∀ (i : Nat) (x : Value) (r : List Value), vals[i]? = some x → rows[i]? = some r → ∃ m, w.ownsRow B e size x m r
  apart : ∀ (i : Nat) (x : Value) (b : Nat), vals[i]? = some x → x.ownBlock = some b → v.ownBlock ≠ some b
  dist : ∀ (i j : Nat) (x y : Value) (b : Nat), vals[i]? = some x → vals[j]? = some y → x.ownBlock = some b → y.ownBlock = some b → i = j
theorem RowsAt.nil (B : Nat) (w : World) (eT e : TypeId) (size : Nat) : RowsAt B w eT e size (.slice none 0 0) [] [] :=
  ⟨rfl, World.ownsRow_nil _ _ _ _, fun i x r h => by simp at h, fun i x b h => by simp at h, fun i j x y b h => by simp at h⟩
theorem RowsAt.lt {B : Nat} {w : World} {eT e : TypeId} {size : Nat} {v : Value} {vals : List Value} {rows : List (List Value)} (h : RowsAt B w eT e size v vals rows) {i : Nat} {x : Value} {b : Nat} (hx : vals[i]? = some x) (hb : x.ownBlock = some b) : B ≤ b ∧ b < w.heap.size := by
  have hi : i < rows.length := by rw [← h.len]; exact (List.getElem?_eq_some_iff.1 hx).1
  obtain ⟨m, hm⟩ := h.row i x _ hx (List.getElem?_eq_getElem hi)
  exact ownsR_block hm hb
theorem RowsAt.below {B : Nat} {w w' : World} {eT e : TypeId} {size : Nat} {v : Value} {vals : List Value} {rows : List (List Value)} (h : RowsAt B w eT e size v vals rows) (hb : Below w.heap.size w w') : RowsAt B w' eT e size v vals rows :=
  ⟨h.len, owns_below h.own hb, fun i x r h1 h2 => let ⟨m, hm⟩ := h.row i x r h1 h2; ⟨m, owns_below hm hb⟩, h.apart, h.dist⟩
theorem RowsAt.push {B : Nat} {w w1 w2 : World} {eT e : TypeId} {size : Nat} {v v' x : Value} {vals : List Value} {rows : List (List Value)} {m g : Nat} {r : List Value} (h : RowsAt B w eT e size v vals rows) (hB : B ≤ w.heap.size) (hb : Below w.heap.size w w1) (hx : w1.ownsRow w.heap.size e size x m r)
    (h2 : w2.ownsRow B eT 1 v' (rows.length + 1) (vals ++ [x])) (hg : w1.grownBy w2 v.ownBlock) (hloc : v.ownBlock = some g ∨ g = w1.heap.size) (hv' : v'.ownBlock = some g) : RowsAt B w2 eT e size v' (vals ++ [x]) (rows ++ [r]) := by
  have hsz := hb.size
  have old : ∀ (i : Nat) (y : Value) (b : Nat), vals[i]? = some y → y.ownBlock = some b → w2.heap[b]? = w.heap[b]? := by
    intro i y b hy hyb
    have hlt := (h.lt hy hyb).2
    exact (hg.block b (by omega) (fun e => h.apart i y b hy hyb e.symm)).trans (hb.block b hlt)
  refine ⟨by simp [h.len], by rw [List.length_append]; exact h2, fun i y r' hy hr' => ?_, fun i y b hy hyb => ?_, fun i j y z b hy hz hyb hzb => ?_⟩
  · rcases Nat.lt_or_ge i vals.length with hi | hi
    · rw [List.getElem?_append_left hi] at hy
      rw [List.getElem?_append_left (by rw [← h.len]; exact hi)] at hr'
      obtain ⟨m', hm'⟩ := h.row i y r' hy hr'
      exact ⟨m', owns_heap hm' fun b hb' => ⟨(h.lt hy hb').1, old i y b hy hb'⟩⟩
    · rw [List.getElem?_append_right hi] at hy
      rw [List.getElem?_append_right (by rw [← h.len]; exact hi), ← h.len] at hr'
      obtain hi0 : i - vals.length = 0 := by
        have := (List.getElem?_eq_some_iff.1 hy).1
        simp at this; omega
      rw [hi0] at hy hr'
      simp at hy hr'
      subst hy hr'
      refine ⟨m, owns_heap hx fun b hb' => ?_⟩
      obtain ⟨h3, h4⟩ := ownsR_block hx hb'
      refine ⟨by omega, hg.block b h4 fun e => ?_⟩
      have := (ownsR_block h.own e.symm).2
      omega
  · rw [hv']
    intro e
    obtain rfl : g = b := by simpa using e
    rcases Nat.lt_or_ge i vals.length with hi | hi
    · rw [List.getElem?_append_left hi] at hy
      rcases hloc with hl | hl
      · exact h.apart i y g hy hyb hl
      · have := (h.lt hy hyb).2; omega
    · rw [List.getElem?_append_right hi] at hy
      obtain hi0 : i - vals.length = 0 := by
        have := (List.getElem?_eq_some_iff.1 hy).1
        simp at this; omega
      rw [hi0] at hy
      simp at hy
      subst hy
      obtain ⟨h3, h4⟩ := ownsR_block hx hyb
      rcases hloc with hl | hl
      · have := (ownsR_block h.own hl).2; omega
      · omega
  · have key : ∀ (i : Nat) (y : Value), (vals ++ [x])[i]? = some y → y.ownBlock = some b → (i < vals.length ∧ vals[i]? = some y ∧ b < w.heap.size) ∨ (i = vals.length ∧ w.heap.size ≤ b) := by
      intro i y hy hyb
      rcases Nat.lt_or_ge i vals.length with hi | hi
      · rw [List.getElem?_append_left hi] at hy
        exact .inl ⟨hi, hy, (h.lt hy hyb).2⟩
      · rw [List.getElem?_append_right hi] at hy
        obtain hi0 : i - vals.length = 0 := by
          have := (List.getElem?_eq_some_iff.1 hy).1
          simp at this; omega
        rw [hi0] at hy
        simp at hy
        subst hy
        exact .inr ⟨by omega, (ownsR_block hx hyb).1⟩
    rcases key i y hy hyb with ⟨i1, i2, i3⟩ | ⟨i1, i2⟩ <;> rcases key j z hz hzb with ⟨j1, j2, j3⟩ | ⟨j1, j2⟩
    · exact h.dist i j y z b i2 j2 hyb hzb
    · omega
    · omega
    · omega
end Go.Proofs.Ytejkhpgahnncnaa
end

section
namespace Go.Proofs.Ytejkhpgahnncnaa
set_option linter.unusedVariables false
theorem ls : (∀ {α β : Type} {f : α → β} {l : List α}, (l.map f).length = l.length) ∧ (∀ {α β : Type} (f : α → β) (l : List α), List.take l.length (List.map f l) = List.map f l) ∧ Program.cellsOf Try.prog 38 = 1 ∧ Program.cellsOf Try.prog 52 = 1 ∧ Program.cellsOf Try.prog 22 = 1 ∧ Program.cellsOf Try.prog 40 = 2 ∧ Program.cellsOf Try.prog 55 = 7 ∧ Program.cellsOf Try.prog 99 = 3 ∧ Program.cellsOf Try.prog 3 = 1 ∧ Program.cellsOf Try.prog 5 = 1 :=
  ⟨List.length_map .., take_map_len, by kernel_rfl, by kernel_rfl, by kernel_rfl, by kernel_rfl, by kernel_rfl, by kernel_rfl, by kernel_rfl, by kernel_rfl⟩
theorem lt : (∀ {α β : Type} (f : α → β) (l : List α), List.take l.length (List.map f l) = List.map f l) ∧ Program.cellsOf Try.prog 38 = 1 ∧ Program.cellsOf Try.prog 52 = 1 ∧ Program.cellsOf Try.prog 22 = 1 ∧ Program.cellsOf Try.prog 40 = 2 ∧ Program.cellsOf Try.prog 55 = 7 ∧ Program.cellsOf Try.prog 99 = 3 ∧ Program.cellsOf Try.prog 3 = 1 ∧ Program.cellsOf Try.prog 5 = 1 :=
  ls.2
theorem cq {ρ : Type} {cont : Tm → Hp → Option ρ} {tm tm' : Tm} {hp hp' : Hp} {r : Option ρ} (h : cont tm' hp' = r) (h1 : tm = tm' := by first | rfl | (simp only [ls] <;> rfl) | (simp only [ls, List.map_append, List.map_cons, List.map_nil, List.append_nil, List.length_set, length_copyL] <;> rfl)) (h2 : hp = hp' := by first | rfl | (simp only [ls] <;> rfl) | (simp only [ls, List.map_append, List.map_cons, List.map_nil, List.append_nil, List.length_set, length_copyL] <;> rfl)) : cont tm hp = r := cont_eq h h1 h2
theorem kq {ρ : Type} {K : Ex → Tm → Hp → Option ρ} {e : Ex} {tm tm' : Tm} {hp hp' : Hp} {r : Option ρ} (h : K e tm' hp' = r) (h1 : tm = tm' := by first | rfl | (simp only [ls] <;> rfl) | (simp only [ls, List.map_append, List.map_cons, List.map_nil, List.append_nil, List.length_set, length_copyL] <;> rfl)) (h2 : hp = hp' := by first | rfl | (simp only [ls] <;> rfl) | (simp only [ls, List.map_append, List.map_cons, List.map_nil, List.append_nil, List.length_set, length_copyL] <;> rfl)) : K e tm hp = r := kont_eq h h1 h2
theorem fq {ρ : Type} {x y z : Option ρ} (h : x = y := by first | rfl | (simp only [length_copyL, List.length_set] <;> rfl) | (simp only [ls] <;> rfl) | ((conv => lhs; arg 1; arg 1; whnf); simp only [dec_self]; rfl)) (h2 : y = z := by first | rfl | (simp only [List.map_take, List.map_drop]; done) | (simp only [List.map_take, List.map_drop] <;> rfl) | (simp only [ls, List.drop_zero, List.length_set, length_copyL] <;> rfl)) : x = z := h.trans h2
theorem c0 : ((0 : Nat) : Int) = 0 := rfl
theorem rq {ρ : Type} {x z : Option ρ} (h : x = z := by first | rfl | (simp only [ls] <;> rfl)) : x = z := h
abbrev iA (x : Int) : AV := .int .i64 x
abbrev bA (x : Bool) : AV := .bool x
theorem sj {α : Type} {a r : α} (h : some a = some r) : a = r := Option.some.inj h
theorem lq {ρ σ τ ν : Type} {body : Tm → Hp → (Ex → Tm → Hp → Option ρ) → Option ρ} {keep : Nat → List Nat} {h0 : Nat} {K : Ex → Tm → Hp → Option ρ} {r : Option ρ} (id : Nat) (tmOf : σ → (Nat → Nat) → Tm) (hpOf : σ → (Nat → Nat) → Hp) (tmX : τ → (Nat → Nat) → Tm) (hpX : τ → (Nat → Nat) → Hp) (encR : ν → ρ) (L : Nat → σ → Option (LR τ ν)) (hL : ∀ s, L 0 s = none) (o : LR τ ν) (n : Nat) (s : σ) (a : Nat → Nat) {tm : Tm} {hp : Hp} (h : L n s = some o)
    (hround : ∀ (k : Nat) (s : σ) (a : Nat → Nat) (K' : Ex → Tm → Hp → Option ρ) (cont : Tm → Hp → Option ρ), (∀ tm hp, K' .ret tm hp = K .ret tm hp) → (∀ s' a', L k s' = some o → cont (tmOf s' a') (hpOf s' a') = r) → L (k + 1) s = some o → LRes K' id tmX hpX encR r o →
      forceL force (fun tm => forceHp (fun hp => body tm hp (fun e tm hp => forceL force (fun tm => forceHp (fun hp => match e with
        | .normal => cont tm hp
        | .exit id => K' (.exit id) tm hp
        | .ret => K' .ret tm hp) (waneHp h0 hp)) (keepTm (keep (exMode e)) h0 hp 0 tm))) (hpOf s a)) (tmOf s a) = r)
    (hx : LRes K id tmX hpX encR r o)
    (h1 : tm = tmOf s a := by first | rfl | (simp only [ls] <;> rfl) | (simp only [ls, List.map_append, List.map_cons, List.map_nil, List.append_nil, List.length_set, length_copyL] <;> rfl)) (h2 : hp = hpOf s a := by first | rfl | (simp only [ls] <;> rfl) | (simp only [ls, List.map_append, List.map_cons, List.map_nil, List.append_nil, List.length_set, length_copyL] <;> rfl)) : rounds body keep h0 n tm hp K = r :=
  rounds_sim id tmOf hpOf tmX hpX encR L hL o hround n s a tm hp h hx h1 h2
theorem lrc {ρ τ ν : Type} {K : Ex → Tm → Hp → Option ρ} {id : Nat} {tmX : τ → (Nat → Nat) → Tm} {hpX : τ → (Nat → Nat) → Hp} {encR : ν → ρ} {r : Option ρ} {o : LR τ ν} (h1 : ∀ v, o = .ret v → r = some (encR v)) (h2 : ∀ t a, o = .out t → K (.exit id) (tmX t a) (hpX t a) = r) : LRes K id tmX hpX encR r o := by
  cases o with
  | out t => exact fun a => h2 t a rfl
  | ret v => exact h1 v rfl
theorem nn {α : Type} {r : α} {P : Prop} : (none : Option α) = some r → P := fun h => by cases h
theorem chk_k {α : Type} {c : Bool} {a : Option α} {r : α} {G : Prop} (h1 : c = true → a = some r → G) : (bif c then a else none) = some r → G := fun h => chk_some2 h h1
theorem br {α ρ : Type} {c : Bool} {a b : Option α} {r : α} {L L1 L2 R : ρ} (k1 : a = some r → L1 = R) (k2 : b = some r → L2 = R) (w1 : c = true → L = L1 := by (intro hc; simp only [hc, ls]; (conv => lhs; whnf); try exact rfl)) (w2 : c = false → L = L2 := by (intro hc; simp only [hc, ls]; (conv => lhs; whnf); try exact rfl)) : (bif c then a else b) = some r → L = R := by
  cases c
  · exact fun h => (w2 rfl).trans (k2 h)
  · exact fun h => (w1 rfl).trans (k1 h)
theorem cp {α ρ : Type} {c : Bool} {a : Option α} {r : α} {L L1 R : ρ} (k1 : a = some r → L1 = R) (w1 : c = true → ∀ q, L1 = q → L = q := by (intro hc q hq; refine bif_pos hc ?_; (try simp only [ls]); (conv => lhs; whnf); exact hq)) : (bif c then a else none) = some r → L = R := chk_k fun hc h => w1 hc _ (k1 h)
theorem cn {α ρ : Type} {c : Bool} {a : Option α} {r : α} {L L1 R : ρ} (k1 : a = some r → L1 = R) (w1 : c = true → ∀ q, L1 = q → L = q := by (intro hc q hq; refine bif_pos (app_nil hc (by simp only [List.length_map, take_map_len]) (by kernel_rfl)) ?_; (try simp only [ls]); (conv => lhs; whnf); exact hq)) : (bif c then a else none) = some r → L = R := chk_k fun hc h => w1 hc _ (k1 h)
theorem sl {α : Type} (f : α → List AV) (l : List α) (i j : Nat) : List.drop i (List.take j (List.map f l)) = List.map f (List.drop i (List.take j l)) := by rw [List.map_drop, List.map_take]
theorem cs {α ρ : Type} {c : Bool} {a : Option α} {r : α} {E : Prop} {L L1 R : ρ} (e : E) (k1 : a = some r → L1 = R) (w1 : c = true → E → ∀ q, L1 = q → L = q := by (intro hc he q hq; (try simp only [ls]); refine bif_pos hc ?_; simp only [he, ls]; (conv => lhs; whnf); exact hq)) : (bif c then a else none) = some r → L = R := chk_k fun hc h => w1 hc e _ (k1 h)
theorem ix {α β ρ : Type} {l : List α} {i : Int} {g : α → Option β} {r : β} {L : ρ} {L1 : α → ρ} {R : ρ} (k : ∀ x, g x = some r → L1 x = R) (w : ∀ x, idx l i = some x → ∀ q, L1 x = q → L = q := by (intro x hx q hq; refine bif_pos (by first | exact idx_in hx | exact idx_in' hx | (have z := idx_in hx; simp only [ls] at z ⊢; exact z)) ?_; simp only [idx_nth hx, ls]; (conv => lhs; whnf); exact hq)) : (idx l i).bind g = some r → L = R := fun h => bind_some2 h fun x hx h2 => w x hx _ (k x h2)
theorem ca {α β ρ : Type} {P : Program} {H : Hints} {X : Ext} {call : CallT} {n : Nat} {m : Option α} {g : α → Option β} {r : β} {f : FuncId} {a : List AV} {p : Hp} {v : α → Option (AV × Hp)} {L : ρ} {L1 : α → ρ} {R : ρ} (hc : ∀ g l h, call false g l h = callN P H X n g l h) (hk : ∀ y, m = some y → callN P H X n f a p = v y) (k : ∀ y, g y = some r → L1 y = R) (w : ∀ y, call false f a p = v y → L = L1 y := by (intro y hk; (first | simp only [hk] | rewrite [hk] | (simp only [ls]; simp only [hk])); (conv => lhs; whnf); try exact rfl)) : m.bind g = some r → L = R := fun h => bind_some2 h fun y hy h2 => (w y ((hc _ _ _).trans (hk y hy))).trans (k y h2)
theorem nb {γ α ρ : Type} {l : List γ} {a b : Option α} {r : α} {L L1 L2 R : ρ} (k1 : a = some r → L1 = R) (k2 : b = some r → L2 = R) (w1 : l = [] → L = L1 := by (intro hc; simp only [hc, ls, List.map_nil]; (conv => lhs; whnf); try exact rfl)) (w2 : decide (l.length = 0) = false → L = L2 := by (intro hc; simp only [hc, ls]; (conv => lhs; whnf); try exact rfl)) : (bif decide (l.length = 0) then a else b) = some r → L = R := by
  by_cases h : l.length = 0
  · rw [decide_eq_true h]; exact fun e => (w1 (List.eq_nil_of_length_eq_zero h)).trans (k1 e)
  · rw [decide_eq_false h]; exact fun e => (w2 (decide_eq_false h)).trans (k2 e)
theorem cr {α β ρ : Type} {P : Program} {H : Hints} {X : Ext} {call : CallT} {n : Nat} {m : Option α} {g : α → Option β} {r : β} {f : FuncId} {a : List AV} {p : Hp} {v : α → Option (AV × Hp)} {L : ρ} {L1 : α → ρ} {R : ρ} (hc : ∀ g l h, call false g l h = callN P H X n g l h) (hk : ∀ y, m = some y → callN P H X n f a p = v y) (k : ∀ y, g y = some r → L1 y = R) (w : ∀ y, call false f a p = v y → L = L1 y := by (intro y hk; (try simp only [List.length_nil, List.map_nil] at hk); (try simp only [List.length_nil, List.map_nil]); (first | ((try simp only [ls]); simp only [hk]) | ((try simp only [List.drop_zero] at hk); (try simp only [List.drop_zero, ls]); simp only [hk]) | simp only [hk] | rewrite [hk]); (try simp only [ls]); (conv => lhs; whnf); try exact rfl)) : m.bind g = some r → L = R := ca hc hk k w
theorem ap {α : Type} (f : α → List AV) (a : List (List AV)) (l : List α) (y : List (List AV)) (m : List α) (ha : a = List.map f l := by rfl) (hy : y = List.map f m := by rfl) : a ++ y = List.map f (l ++ m) ∧ a.length + y.length = (l ++ m).length ∧ l.length + y.length = (l ++ m).length ∧ l.length + m.length = (l ++ m).length ∧ a.length + m.length = (l ++ m).length := by
  subst ha; subst hy; simp
theorem ar {α ρ : Type} {c : Bool} {a : Option α} {r : α} {E : Prop} {L L1 R : ρ} (e : E) (k1 : a = some r → L1 = R) (w1 : c = true → E → ∀ q, L1 = q → L = q := by (intro hc he q hq; (first | refine bif_pos (app_row hc (by first | rfl | simp only [List.length_map]) (by first | rfl | simp only [List.length_map]) (by first | rfl | simp only [List.length_map, take_map_len]) (by kernel_rfl)) ?_ | refine bif_pos (app_row2 hc (by first | rfl | simp only [List.length_map]) (by first | rfl | simp only [List.length_map, take_map_len]) (by kernel_rfl)) ?_ | skip); (try simp only [lt]); (try simp only [he]); (try simp only [ls, c0]); (try simp only [he]); (try simp only [ls]); (conv => lhs; whnf); exact hq)) : (bif c then a else none) = some r → L = R := chk_k fun hc h => w1 hc e _ (k1 h)
theorem rz {α ρ : Type} {a r : α} {L R : ρ} (k : a = r → L = R := by (intro e; cases e; first | rfl | (simp only [ls] <;> rfl))) : some a = some r → L = R := fun h => k (sj h)
end Go.Proofs.Ytejkhpgahnncnaa
end

section
namespace Go.Proofs.Ytejkhpgahnncnaa
set_option linter.unusedVariables false
set_option linter.unusedSimpArgs false
set_option maxRecDepth 100000
set_option maxHeartbeats 4000000

noncomputable abbrev CN := callN Try.prog HH XT
def ref07_Ints_L0 (n:Nat)  (v0_a:(List Int)) (v1_b:(List Int)):Nat→Int→Option (LR Unit Bool)
  | 0,_=>none
  | k3+1,s2=>(bif decide (s2<((v0_a.length:Nat):Int)) then ((idx v0_a s2).bind fun x12=>((idx v1_b s2).bind fun x13=>(bif (x12 != x13) then (some (.ret false)) else (ref07_Ints_L0 n v0_a v1_b k3 (IntKind.i64.wrap (s2+1)))))) else (some (.out ())))
def m_ref07_Ints:Nat→(List Int)→(List Int)→Option Bool
  | 0,_,_=>none
  | n+1,v0_a,v1_b=>(bif (((v0_a.length:Nat):Int) != ((v1_b.length:Nat):Int)) then (some false) else ((ref07_Ints_L0 n v0_a v1_b n 0).bind fun o10=>match o10 with|.out _=>(some true)|.ret v=>some v))

def ref08_Same_L0 (n:Nat)  (v0_a:(List EntryS)) (v1_b:(List EntryS)):Nat→Int→Option (LR Unit Bool)
  | 0,_=>none
  | k3+1,s2=>(bif decide (s2<((v0_a.length:Nat):Int)) then ((idx v0_a s2).bind fun x12=>((idx v1_b s2).bind fun x13=>(bif ((x12.loc==x13.loc)&&((x12.n==x13.n)&&true)) then (ref08_Same_L0 n v0_a v1_b k3 (IntKind.i64.wrap (s2+1))) else (some (.ret false))))) else (some (.out ())))
def m_ref08_Same:Nat→(List EntryS)→(List EntryS)→Option Bool
  | 0,_,_=>none
  | n+1,v0_a,v1_b=>(bif (((v0_a.length:Nat):Int) != ((v1_b.length:Nat):Int)) then (some false) else ((ref08_Same_L0 n v0_a v1_b n 0).bind fun o10=>match o10 with|.out _=>(some true)|.ret v=>some v))

def ref09_Light_L0 (n:Nat)  (v0_c:ConfS):Nat→Int→Option (LR Unit Bool)
  | 0,_=>none
  | k6+1,s5=>(bif decide (s5<(((v0_c.regs).length:Nat):Int)) then ((idx v0_c.regs s5).bind fun x15=>(bif decide (20<((x15.length:Nat):Int)) then (some (.ret false)) else (ref09_Light_L0 n v0_c k6 (IntKind.i64.wrap (s5+1))))) else (some (.out ())))
def ref09_Light_L1 (n:Nat)  (v0_c:ConfS):Nat→Int→Option (LR Unit Bool)
  | 0,_=>none
  | k19+1,s18=>(bif decide (s18<(((v0_c.buf).length:Nat):Int)) then ((idx v0_c.buf s18).bind fun x28=>(bif decide (60<((x28.length:Nat):Int)) then (some (.ret false)) else (ref09_Light_L1 n v0_c k19 (IntKind.i64.wrap (s18+1))))) else (some (.out ())))
def m_ref09_Light:Nat→ConfS→Option Bool
  | 0,_=>none
  | n+1,v0_c=>(bif decide (8<(((v0_c.pc).length:Nat):Int)) then (some false) else (bif decide (8<(((v0_c.regs).length:Nat):Int)) then (some false) else (bif decide (8<(((v0_c.buf).length:Nat):Int)) then (some false) else (bif decide (20<(((v0_c.mem).length:Nat):Int)) then (some false) else ((ref09_Light_L0 n v0_c n 0).bind fun o13=>match o13 with|.out _=>((ref09_Light_L1 n v0_c n 0).bind fun o26=>match o26 with|.out _=>(some true)|.ret v=>some v)|.ret v=>some v)))))

def ref09_Same_L0 (n:Nat)  (v0_a:ConfS) (v1_b:ConfS):Nat→Int→Option (LR Unit Bool)
  | 0,_=>none
  | k10+1,s9=>(bif decide (s9<(((v0_a.regs).length:Nat):Int)) then ((idx v0_a.regs s9).bind fun x19=>((idx v1_b.regs s9).bind fun x20=>((m_ref07_Ints n x19 x20).bind fun y21=>(bif y21 then (ref09_Same_L0 n v0_a v1_b k10 (IntKind.i64.wrap (s9+1))) else (some (.ret false)))))) else (some (.out ())))
def ref09_Same_L1 (n:Nat)  (v0_a:ConfS) (v1_b:ConfS):Nat→Int→Option (LR Unit Bool)
  | 0,_=>none
  | k26+1,s25=>(bif decide (s25<(((v0_a.buf).length:Nat):Int)) then ((idx v0_a.buf s25).bind fun x35=>((idx v1_b.buf s25).bind fun x36=>((m_ref08_Same n x35 x36).bind fun y37=>(bif y37 then (ref09_Same_L1 n v0_a v1_b k26 (IntKind.i64.wrap (s25+1))) else (some (.ret false)))))) else (some (.out ())))
def m_ref09_Same:Nat→ConfS→ConfS→Option Bool
  | 0,_,_=>none
  | n+1,v0_a,v1_b=>((m_ref07_Ints n v0_a.pc v1_b.pc).bind fun y1=>(bif y1 then ((m_ref07_Ints n v0_a.mem v1_b.mem).bind fun y4=>(bif y4 then (bif ((((v0_a.regs).length:Nat):Int) != (((v1_b.regs).length:Nat):Int)) then (some false) else (bif ((((v0_a.buf).length:Nat):Int) != (((v1_b.buf).length:Nat):Int)) then (some false) else ((ref09_Same_L0 n v0_a v1_b n 0).bind fun o17=>match o17 with|.out _=>((ref09_Same_L1 n v0_a v1_b n 0).bind fun o33=>match o33 with|.out _=>(some true)|.ret v=>some v)|.ret v=>some v))) else (some false))) else (some false)))

def ref09_Copy_L0 (n:Nat)  (v0_c:ConfS):Nat→Int→(List (List Int))→Option (LR (List (List Int)) ConfS)
  | 0,_,_=>none
  | k5+1,s3,s4=>(bif decide (s3<(((v0_c.regs).length:Nat):Int)) then ((idx v0_c.regs s3).bind fun x14=>(bif decide (x14.length * 9≤140737488355328) then (bif decide ((s4.length+1) * 25≤140737488355328) then (ref09_Copy_L0 n v0_c k5 (IntKind.i64.wrap (s3+1)) (s4++([x14]:List (List Int)))) else none) else none)) else (some (.out s4)))
def ref09_Copy_L1 (n:Nat)  (v0_c:ConfS):Nat→Int→(List (List EntryS))→Option (LR (List (List EntryS)) ConfS)
  | 0,_,_=>none
  | k22+1,s20,s21=>(bif decide (s20<(((v0_c.buf).length:Nat):Int)) then ((idx v0_c.buf s20).bind fun x31=>(bif decide (x31.length * 17≤140737488355328) then (bif decide ((s21.length+1) * 25≤140737488355328) then (ref09_Copy_L1 n v0_c k22 (IntKind.i64.wrap (s20+1)) (s21++([x31]:List (List EntryS)))) else none) else none)) else (some (.out s21)))
def m_ref09_Copy:Nat→ConfS→Option ConfS
  | 0,_=>none
  | n+1,v0_c=>(bif decide ((v0_c.pc).length * 9≤140737488355328) then (bif decide ((v0_c.mem).length * 9≤140737488355328) then ((ref09_Copy_L0 n v0_c n 0 ([]:List (List Int))).bind fun o12=>match o12 with|.out x19=>((ref09_Copy_L1 n v0_c n 0 ([]:List (List EntryS))).bind fun o29=>match o29 with|.out x36=>(some (⟨v0_c.pc,x19,v0_c.mem,x36⟩:ConfS))|.ret v=>some v)|.ret v=>some v) else none) else none)

def conf_same_api_Entry_L0 (n:Nat)  (v0_a:(List EntryS)) (v1_b:(List EntryS)):Nat→Int→Option (LR Unit Bool)
  | 0,_=>none
  | k3+1,s2=>(bif decide (s2<((v0_a.length:Nat):Int)) then ((idx v0_a s2).bind fun x12=>((idx v1_b s2).bind fun x13=>(bif ((x12.loc==x13.loc)&&((x12.n==x13.n)&&true)) then (conf_same_api_Entry_L0 n v0_a v1_b k3 (IntKind.i64.wrap (s2+1))) else (some (.ret false))))) else (some (.out ())))
def m_conf_same_api_Entry:Nat→(List EntryS)→(List EntryS)→Option Bool
  | 0,_,_=>none
  | n+1,v0_a,v1_b=>(bif (((v0_a.length:Nat):Int) != ((v1_b.length:Nat):Int)) then (some false) else ((conf_same_api_Entry_L0 n v0_a v1_b n 0).bind fun o10=>match o10 with|.out _=>(some true)|.ret v=>some v))

def conf_all_api_Entry_L0 (n:Nat)  (v0_a:(List (List EntryS))) (v1_b:(List (List EntryS))):Nat→Int→Option (LR Unit Bool)
  | 0,_=>none
  | k3+1,s2=>(bif decide (s2<((v0_a.length:Nat):Int)) then ((idx v0_a s2).bind fun x12=>((idx v1_b s2).bind fun x13=>((m_conf_same_api_Entry n x12 x13).bind fun y14=>(bif y14 then (conf_all_api_Entry_L0 n v0_a v1_b k3 (IntKind.i64.wrap (s2+1))) else (some (.ret false)))))) else (some (.out ())))
def m_conf_all_api_Entry:Nat→(List (List EntryS))→(List (List EntryS))→Option Bool
  | 0,_,_=>none
  | n+1,v0_a,v1_b=>(bif (((v0_a.length:Nat):Int) != ((v1_b.length:Nat):Int)) then (some false) else ((conf_all_api_Entry_L0 n v0_a v1_b n 0).bind fun o10=>match o10 with|.out _=>(some true)|.ret v=>some v))

def conf_same_int_L0 (n:Nat)  (v0_a:(List Int)) (v1_b:(List Int)):Nat→Int→Option (LR Unit Bool)
  | 0,_=>none
  | k3+1,s2=>(bif decide (s2<((v0_a.length:Nat):Int)) then ((idx v0_a s2).bind fun x12=>((idx v1_b s2).bind fun x13=>(bif (x12 != x13) then (some (.ret false)) else (conf_same_int_L0 n v0_a v1_b k3 (IntKind.i64.wrap (s2+1)))))) else (some (.out ())))
def m_conf_same_int:Nat→(List Int)→(List Int)→Option Bool
  | 0,_,_=>none
  | n+1,v0_a,v1_b=>(bif (((v0_a.length:Nat):Int) != ((v1_b.length:Nat):Int)) then (some false) else ((conf_same_int_L0 n v0_a v1_b n 0).bind fun o10=>match o10 with|.out _=>(some true)|.ret v=>some v))

def conf_all_int_L0 (n:Nat)  (v0_a:(List (List Int))) (v1_b:(List (List Int))):Nat→Int→Option (LR Unit Bool)
  | 0,_=>none
  | k3+1,s2=>(bif decide (s2<((v0_a.length:Nat):Int)) then ((idx v0_a s2).bind fun x12=>((idx v1_b s2).bind fun x13=>((m_conf_same_int n x12 x13).bind fun y14=>(bif y14 then (conf_all_int_L0 n v0_a v1_b k3 (IntKind.i64.wrap (s2+1))) else (some (.ret false)))))) else (some (.out ())))
def m_conf_all_int:Nat→(List (List Int))→(List (List Int))→Option Bool
  | 0,_,_=>none
  | n+1,v0_a,v1_b=>(bif (((v0_a.length:Nat):Int) != ((v1_b.length:Nat):Int)) then (some false) else ((conf_all_int_L0 n v0_a v1_b n 0).bind fun o10=>match o10 with|.out _=>(some true)|.ret v=>some v))

def m_conf_Same:Nat→ConfS→ConfS→Option Bool
  | 0,_,_=>none
  | n+1,v0_a,v1_b=>((m_conf_same_int n v0_a.pc v1_b.pc).bind fun y1=>(bif y1 then ((m_conf_same_int n v0_a.mem v1_b.mem).bind fun y4=>(bif y4 then ((m_conf_all_int n v0_a.regs v1_b.regs).bind fun y7=>(bif y7 then ((m_conf_all_api_Entry n v0_a.buf v1_b.buf).bind fun y10=>(some y10)) else (some false))) else (some false))) else (some false)))

end Go.Proofs.Ytejkhpgahnncnaa
end

section
namespace Go.Proofs.Ytejkhpgahnncnaa
set_option linter.unusedVariables false
set_option linter.unusedSimpArgs false

theorem idx_get {α : Type} {l : List α} {i : Nat} (h : i < l.length) : idx l (i : Int) = some l[i] := by rw [idx_nat, List.getElem?_eq_getElem h]
theorem wrap_one (k : Nat) (h : k < 4611686018427387904) : IntKind.i64.wrap ((k : Int) + 1) = ((k + 1 : Nat) : Int) := wrap_succ k (by omega)
theorem range_step {p : Nat → Bool} {i n : Nat} : (List.range' i (n + 1)).all p = (p i && (List.range' (i + 1) n).all p) := by
  rw [List.range'_succ, List.all_cons]
/-- A loop that looks for something that is not so. -/
theorem all_loop {L : Nat → Int → Option (LR Unit Bool)} (len : Nat) (p : Nat → Bool) (h1 : ∀ k i, i < len → L (k + 1) (i : Int) = bif p i then L k ((i + 1 : Nat) : Int) else some (.ret false)) (h2 : ∀ k, L (k + 1) (len : Int) = some (.out ())) : ∀ (m k i : Nat), i + m = len → m < k → L k (i : Int) = some (bif (List.range' i m).all p then .out () else .ret false) := by
  intro m
  induction m with
  | zero =>
    intro k i hi hk
    obtain ⟨k, rfl⟩ : ∃ j, k = j + 1 := ⟨k - 1, by omega⟩
    have : i = len := by omega
    subst this
    rw [h2]; rfl
  | succ m ih =>
    intro k i hi hk
    obtain ⟨k, rfl⟩ : ∃ j, k = j + 1 := ⟨k - 1, by omega⟩
    rw [h1 k i (by omega), range_step, ih k (i + 1) (by omega) (by omega)]
    cases p i <;> rfl
theorem all_loop0 {L : Nat → Int → Option (LR Unit Bool)} (len : Nat) (p : Nat → Bool) (h1 : ∀ k i, i < len → L (k + 1) (i : Int) = bif p i then L k ((i + 1 : Nat) : Int) else some (.ret false)) (h2 : ∀ k, L (k + 1) (len : Int) = some (.out ())) {k : Nat} (hk : len < k) : L k 0 = some (bif (List.range' 0 len).all p then .out () else .ret false) :=
  all_loop len p h1 h2 len k 0 (by omega) hk
theorem all_range_true {p : Nat → Bool} {m : Nat} (h : ∀ i, i < m → p i = true) : (List.range' 0 m).all p = true := by
  rw [List.all_eq_true]; intro i hi; exact h i (by simpa using hi)
theorem of_all_range {p : Nat → Bool} {m : Nat} (h : (List.range' 0 m).all p = true) {i : Nat} (hi : i < m) : p i = true := by
  rw [List.all_eq_true] at h; exact h i (by simpa using hi)
theorem bif_decide {α : Type} {p : Prop} [Decidable p] (h : p) (a b : α) : (bif decide p then a else b) = a := by rw [decide_eq_true h]; rfl
theorem bif_not {α : Type} {p : Prop} [Decidable p] (h : ¬ p) (a b : α) : (bif decide p then a else b) = b := by rw [decide_eq_false h]; rfl
theorem natEq (a b : Nat) : ((a : Int) == (b : Int)) = (a == b) := by
  by_cases h : a = b
  · subst h; simp
  · have : ¬ (a : Int) = (b : Int) := by omega
    rw [beq_eq_false_iff_ne.2 h, beq_eq_false_iff_ne.2 this]
theorem natNe (a b : Nat) : ((a : Int) != (b : Int)) = !(a == b) := by rw [← natEq]; rfl
end Go.Proofs.Ytejkhpgahnncnaa
end

section
namespace Go.Proofs.Ytejkhpgahnncnaa
set_option linter.unusedVariables false
set_option linter.unusedSimpArgs false

/-- A configuration whose lists are short. -/
structure LightC (c : ConfS) : Prop where
  pc : c.pc.length ≤ 8
  mem : c.mem.length ≤ 20
  regsN : c.regs.length ≤ 8
  bufN : c.buf.length ≤ 8
  regs : ∀ i (h : i < c.regs.length), c.regs[i].length ≤ 20
  buf : ∀ i (h : i < c.buf.length), c.buf[i].length ≤ 300
theorem light_m (n : Nat) (c : ConfS) (hn : 20 < n) : ∃ b, m_ref09_Light n c = some b ∧ (b = true → LightC c) := by
  obtain ⟨n, rfl⟩ : ∃ j, n = j + 1 := ⟨n - 1, by omega⟩
  simp only [m_ref09_Light]
  by_cases h1 : (8 : Int) < (c.pc.length : Int)
  · exact ⟨false, by rw [bif_decide h1], fun h => by cases h⟩
  by_cases h2 : (8 : Int) < (c.regs.length : Int)
  · exact ⟨false, by rw [bif_not h1, bif_decide h2], fun h => by cases h⟩
  by_cases h3 : (8 : Int) < (c.buf.length : Int)
  · exact ⟨false, by rw [bif_not h1, bif_not h2, bif_decide h3], fun h => by cases h⟩
  by_cases h4 : (20 : Int) < (c.mem.length : Int)
  · exact ⟨false, by rw [bif_not h1, bif_not h2, bif_not h3, bif_decide h4], fun h => by cases h⟩
  rw [bif_not h1, bif_not h2, bif_not h3, bif_not h4]
  have hL0 : ref09_Light_L0 n c n 0 = some (bif (List.range' 0 c.regs.length).all (fun i => match c.regs[i]? with | some r => !decide ((20 : Int) < (r.length : Int)) | none => false) then .out () else .ret false) := by
    refine all_loop0 (L := fun k i => ref09_Light_L0 n c k i) c.regs.length _ (fun k i hi => ?_) (fun k => ?_) (by omega)
    · have hlen : (i : Int) < (c.regs.length : Int) := by omega
      simp only [ref09_Light_L0, bif_decide hlen, idx_get hi, Option.bind_some, wrap_one i (by omega), List.getElem?_eq_getElem hi]
      cases decide ((20 : Int) < (c.regs[i].length : Int)) <;> rfl
    · simp only [ref09_Light_L0, bif_not (Int.lt_irrefl _)]
  have hL1 : ref09_Light_L1 n c n 0 = some (bif (List.range' 0 c.buf.length).all (fun i => match c.buf[i]? with | some r => !decide ((60 : Int) < (r.length : Int)) | none => false) then .out () else .ret false) := by
    refine all_loop0 (L := fun k i => ref09_Light_L1 n c k i) c.buf.length _ (fun k i hi => ?_) (fun k => ?_) (by omega)
    · have hlen : (i : Int) < (c.buf.length : Int) := by omega
      simp only [ref09_Light_L1, bif_decide hlen, idx_get hi, Option.bind_some, wrap_one i (by omega), List.getElem?_eq_getElem hi]
      cases decide ((60 : Int) < (c.buf[i].length : Int)) <;> rfl
    · simp only [ref09_Light_L1, bif_not (Int.lt_irrefl _)]
  rw [hL0, hL1]
  cases ha : (List.range' 0 c.regs.length).all (fun i => match c.regs[i]? with | some r => !decide ((20 : Int) < (r.length : Int)) | none => false) with
  | false => exact ⟨false, rfl, fun h => by cases h⟩
  | true =>
  cases hb : (List.range' 0 c.buf.length).all (fun i => match c.buf[i]? with | some r => !decide ((60 : Int) < (r.length : Int)) | none => false) with
  | false => exact ⟨false, rfl, fun h => by cases h⟩
  | true =>
  refine ⟨true, rfl, fun _ => ⟨by omega, by omega, by omega, by omega, fun i hi => ?_, fun i hi => ?_⟩⟩
  · have := of_all_range ha hi
    rw [List.getElem?_eq_getElem hi] at this
    simp only [Bool.not_eq_true', decide_eq_false_iff_not] at this
    omega
  · have := of_all_range hb hi
    rw [List.getElem?_eq_getElem hi] at this
    simp only [Bool.not_eq_true', decide_eq_false_iff_not] at this
    omega
end Go.Proofs.Ytejkhpgahnncnaa
end

section
namespace Go.Proofs.Ytejkhpgahnncnaa
set_option linter.unusedVariables false
set_option linter.unusedSimpArgs false

/-- A configuration's threads. -/
abbrev Thr := Int × List Int × List EntryS
def thrs (c : ConfS) : List Thr := c.pc.zip (c.regs.zip c.buf)
structure Even (c : ConfS) : Prop where
  r : c.regs.length = c.pc.length
  b : c.buf.length = c.pc.length
theorem Even.len {c : ConfS} (h : Even c) : (thrs c).length = c.pc.length := by
  have := h.r; have := h.b
  simp only [thrs, List.length_zip]; omega
theorem Even.at {c : ConfS} (h : Even c) {i : Nat} (hi : i < c.pc.length) : (thrs c)[i]? = some (c.pc[i], c.regs[i]'(by rw [h.r]; exact hi), c.buf[i]'(by rw [h.b]; exact hi)) := by
  have h1 := h.r; have h2 := h.b
  simp only [thrs, List.getElem?_zip_eq_some, List.getElem?_eq_getElem hi, List.getElem?_eq_getElem (show i < c.regs.length by omega), List.getElem?_eq_getElem (show i < c.buf.length by omega)]
  simp
end Go.Proofs.Ytejkhpgahnncnaa
end

section
namespace Go.Proofs.Ytejkhpgahnncnaa
set_option linter.unusedVariables false
set_option linter.unusedSimpArgs false

def eqAt {α : Type} [BEq α] (a b : List α) (i : Nat) : Bool := match a[i]?, b[i]? with
  | some x, some y => x == y
  | _, _ => false
theorem eqAt_all {α : Type} [BEq α] [LawfulBEq α] {a b : List α} (h : a.length = b.length) : (List.range' 0 a.length).all (eqAt a b) = (a == b) := by
  rw [Bool.eq_iff_iff, beq_iff_eq]
  constructor
  · intro hh
    apply List.ext_getElem h
    intro i h1 h2
    have := of_all_range hh h1
    simpa [eqAt, List.getElem?_eq_getElem h1, List.getElem?_eq_getElem h2] using this
  · rintro rfl
    refine all_range_true fun i hi => ?_
    simp [eqAt, List.getElem?_eq_getElem hi]
theorem beq_len {α : Type} [BEq α] [LawfulBEq α] {a b : List α} (h : (a.length == b.length) = false) : (a == b) = false := by
  rw [beq_eq_false_iff_ne] at h ⊢
  rintro rfl
  exact h rfl
theorem ints_m (n : Nat) (a b : List Int) (hn : a.length + 1 < n) (ha : a.length ≤ 1000000) : m_ref07_Ints n a b = some (a == b) := by
  obtain ⟨n, rfl⟩ : ∃ j, n = j + 1 := ⟨n - 1, by omega⟩
  simp only [m_ref07_Ints, natNe]
  cases hl : a.length == b.length with
  | false => rw [beq_len hl]; rfl
  | true =>
    have hl := eq_of_beq hl
    have hL : ref07_Ints_L0 n a b n 0 = some (bif (List.range' 0 a.length).all (eqAt a b) then .out () else .ret false) := by
      refine all_loop0 (L := fun k i => ref07_Ints_L0 n a b k i) a.length _ (fun k i hi => ?_) (fun k => ?_) (by omega)
      · have hlen : (i : Int) < (a.length : Int) := by omega
        have hi2 : i < b.length := by omega
        simp only [ref07_Ints_L0, bif_decide hlen, idx_get hi, idx_get hi2, Option.bind_some, wrap_one i (by omega), eqAt, List.getElem?_eq_getElem hi, List.getElem?_eq_getElem hi2, bne]
        cases a[i] == b[i] <;> rfl
      · simp only [ref07_Ints_L0, bif_not (Int.lt_irrefl _)]
    simp only [Bool.not_true, cond_false, hL, Option.bind_some, eqAt_all hl]
    cases a == b <;> rfl
theorem bsame_m (n : Nat) (a b : List EntryS) (hn : a.length + 1 < n) (ha : a.length ≤ 1000000) : m_ref08_Same n a b = some (a == b) := by
  obtain ⟨n, rfl⟩ : ∃ j, n = j + 1 := ⟨n - 1, by omega⟩
  simp only [m_ref08_Same, natNe]
  cases hl : a.length == b.length with
  | false => rw [beq_len hl]; rfl
  | true =>
    have hl := eq_of_beq hl
    have hL : ref08_Same_L0 n a b n 0 = some (bif (List.range' 0 a.length).all (eqAt a b) then .out () else .ret false) := by
      refine all_loop0 (L := fun k i => ref08_Same_L0 n a b k i) a.length _ (fun k i hi => ?_) (fun k => ?_) (by omega)
      · have hlen : (i : Int) < (a.length : Int) := by omega
        have hi2 : i < b.length := by omega
        have e : ∀ x y : EntryS, ((x.loc == y.loc) && ((x.n == y.n) && true)) = (x == y) := by
          intro x y
          rw [Bool.eq_iff_iff]
          cases x; cases y
          simp
        simp only [ref08_Same_L0, bif_decide hlen, idx_get hi, idx_get hi2, Option.bind_some, wrap_one i (by omega), eqAt, List.getElem?_eq_getElem hi, List.getElem?_eq_getElem hi2, e]
      · simp only [ref08_Same_L0, bif_not (Int.lt_irrefl _)]
    simp only [Bool.not_true, cond_false, hL, Option.bind_some, eqAt_all hl]
    cases a == b <;> rfl
theorem same_m (n : Nat) (a b : ConfS) (hn : 500 < n) (ha : LightC a) : m_ref09_Same n a b = some (a == b) := by
  obtain ⟨n, rfl⟩ : ∃ j, n = j + 1 := ⟨n - 1, by omega⟩
  have := ha.pc; have := ha.mem; have := ha.regsN; have := ha.bufN
  have hE : (a == b) = ((a.pc == b.pc) && ((a.mem == b.mem) && ((a.regs == b.regs) && (a.buf == b.buf)))) := by
    rw [Bool.eq_iff_iff]
    cases a; cases b
    simp only [beq_iff_eq, Bool.and_eq_true, ConfS.mk.injEq]
    constructor
    · rintro ⟨h1, h2, h3, h4⟩; exact ⟨h1, h3, h2, h4⟩
    · rintro ⟨h1, h2, h3, h4⟩; exact ⟨h1, h3, h2, h4⟩
  simp only [m_ref09_Same, ints_m n a.pc b.pc (by omega) (by omega), ints_m n a.mem b.mem (by omega) (by omega), Option.bind_some, natNe, hE]
  cases a.pc == b.pc with
  | false => rfl
  | true =>
  cases a.mem == b.mem with
  | false => rfl
  | true =>
  cases h1 : a.regs.length == b.regs.length with
  | false => rw [beq_len h1]; rfl
  | true =>
  cases h2 : a.buf.length == b.buf.length with
  | false => rw [beq_len h2]; simp
  | true =>
  have h1 := eq_of_beq h1
  have h2 := eq_of_beq h2
  have hL0 : ref09_Same_L0 n a b n 0 = some (bif (List.range' 0 a.regs.length).all (eqAt a.regs b.regs) then .out () else .ret false) := by
    refine all_loop0 (L := fun k i => ref09_Same_L0 n a b k i) a.regs.length _ (fun k i hi => ?_) (fun k => ?_) (by omega)
    · have hlen : (i : Int) < (a.regs.length : Int) := by omega
      have hi2 : i < b.regs.length := by omega
      have := ha.regs i hi
      simp only [ref09_Same_L0, bif_decide hlen, idx_get hi, idx_get hi2, Option.bind_some, wrap_one i (by omega), eqAt, List.getElem?_eq_getElem hi, List.getElem?_eq_getElem hi2, ints_m n a.regs[i] b.regs[i] (by omega) (by omega)]
    · simp only [ref09_Same_L0, bif_not (Int.lt_irrefl _)]
  have hL1 : ref09_Same_L1 n a b n 0 = some (bif (List.range' 0 a.buf.length).all (eqAt a.buf b.buf) then .out () else .ret false) := by
    refine all_loop0 (L := fun k i => ref09_Same_L1 n a b k i) a.buf.length _ (fun k i hi => ?_) (fun k => ?_) (by omega)
    · have hlen : (i : Int) < (a.buf.length : Int) := by omega
      have hi2 : i < b.buf.length := by omega
      have := ha.buf i hi
      simp only [ref09_Same_L1, bif_decide hlen, idx_get hi, idx_get hi2, Option.bind_some, wrap_one i (by omega), eqAt, List.getElem?_eq_getElem hi, List.getElem?_eq_getElem hi2, bsame_m n a.buf[i] b.buf[i] (by omega) (by omega)]
    · simp only [ref09_Same_L1, bif_not (Int.lt_irrefl _)]
  simp only [cond_true, Bool.not_true, cond_false, hL0, hL1, Option.bind_some, eqAt_all h1, eqAt_all h2, Bool.true_and]
  cases a.regs == b.regs <;> cases a.buf == b.buf <;> rfl

end Go.Proofs.Ytejkhpgahnncnaa
end

section
namespace Go.Proofs.Ytejkhpgahnncnaa
open Go.RowKit
set_option linter.unusedVariables false
set_option linter.unusedSimpArgs false


set_option maxRecDepth 100000 in
set_option maxHeartbeats 2000000 in
theorem owns_any (w : World) (v : Value) (l : List (List Int)) (hv : Sl rInts w v l) (hl : l.length ≤ 1000) (hl2 : ∀ r ∈ l, r.length ≤ 1000) : Calls Try.prog 38 #[v] w fun e w' => ∃ u vals, e = .returned u ∧ Below w.heap.size w w' ∧ RowsAt w.heap.size w' 22 3 1 u vals (l.map (List.map (Value.int .i64))) := by
  obtain ⟨a, cap, rfl, h1⟩ := slices_view hv
  have H1 := Lib.hid h1
  have H2 := Lib.hid hl2
  clear hv h1 hl2
  obtain ⟨n, hn⟩ : ∃ n, l.length = n := ⟨_, rfl⟩
  rw [hn] at hl ⊢
  have N1 := Lib.hid hn
  clear hn
  obtain ⟨j0, ji, ji0, ji1, ji2⟩ : ∃ i, Try.prog.info? 22 = some i ∧ i.zero = some (.slice none 0 0) ∧ i.size = 1 ∧ i.bytes = 24 := info_of (by kernel_rfl)
  go_enter Try.func38, Try.ntmps38
  go_wp2_with fail
  go_loopw [3, 8] (fun out i wr => ∃ (k : Nat) (vals : List Value), i = .int .i64 k ∧ k ≤ n ∧ Below w.heap.size w wr ∧ RowsAt w.heap.size wr 22 3 1 out vals ((l.take k).map (List.map (Value.int .i64)))) (fun _ i _ => n - (intOf i).toNat)
  case atStart => exact ⟨0, [], rfl, by omega, Below.refl _ _, RowsAt.nil _ _ _ _ _⟩
  case round =>
    obtain ⟨k, vals, rfl, hk, hb, hR⟩ := hrel
    have HB := Lib.hid hb; have HR := Lib.hid hR
    have hz := hb.size
    clear hb hR
    by_cases hlt : k < n
    · have hkl : k < l.length := by have := N1.out; omega
      obtain ⟨b, o, vr, rfl, x1, sr⟩ := H1.out k hkl
      have y1 := cell_later HB.out x1
      have SR := Lib.hid (sr.mono (mono_int _) HB.out)
      have HL := Lib.hid (H2.out _ (List.getElem_mem hkl))
      clear x1 sr
      go_wp2_with fail
      refine (own_any _ vr l[k] SR.out HL.out).mono ?_
      rintro e w1 ⟨x, rfl, hb1, hx⟩
      obtain ⟨xa, xn, xc, rfl⟩ : ∃ a n c, x = .slice a n c := by
        rcases hx.2 with ⟨rfl, _⟩ | ⟨g, cap, cur, rfl, _⟩
        · exact ⟨_, _, _, rfl⟩
        · exact ⟨_, _, _, rfl⟩
      have HB1 := Lib.hid hb1; have HX := Lib.hid hx
      have hz1 := hb1.size
      clear hb1 hx
      have hlk : ((l.take k).map (List.map (Value.int .i64))).length = k := by rw [List.length_map, List.length_take]; omega
      have hown := owns_below (owns_below HR.out.own HB1.out) ((Below.refl _ _).alloc (Nat.le_refl _) (.cells #[.slice xa xn xc] 22))
      rw [hlk] at hown
      have HO := Lib.hid hown
      have HLK := Lib.hid hlk
      clear hown hlk
      have hsz1 : (w1.alloc (.cells #[.slice xa xn xc] 22)).heap.size = w1.heap.size + 1 := World.size_alloc _ _
      go_wp2_with (at_builtin; refine wpList_append_lies _ rfl _ _ 28 rfl w.heap.size 22 j0 _ 1 24 Try.underlying28 ji ji0 ji1 ji2 rfl (by decide) _ k vals rfl HO.out _ 1 1 [.slice xa xn xc] rfl rfl (World.news_of_block (heap_alloc_new w1 _)) (by intro u hu; simp at hu; subst hu; rfl) (by decide) ?a1 ?a2 ?a3 _ rfl ?_)
      case a1 => unfold maxLen; omega
      case a2 => omega
      case a3 => rw [hsz1]; omega
      intro g cp w2 hw2 hgr hlc hlt2
      have hp := RowsAt.push (x := .slice xa xn xc) HR.out hz (HB1.out.trans ((Below.refl _ _).alloc hz1 (.cells #[.slice xa xn xc] 22))) (owns_below HX.out ((Below.refl _ _).alloc (Nat.le_refl _) _)) (by rw [HLK.out]; exact hw2) hgr (by rw [hsz1]; exact hlc) rfl
      have hbw2 : Below w.heap.size w w2 := (HB.out.trans ((HB1.out.trans ((Below.refl _ _).alloc hz1 (.cells #[.slice xa xn xc] 22))).mono hz)).grown hgr (by rw [hsz1]; omega) (fun b hb => (ownsR_block HO.out hb).1)
      have HP := Lib.hid hp; have HB2 := Lib.hid hbw2
      clear hp hbw2 hgr hlc hlt2 hsz1 hw2
      go_wp2_with fail
      go_round
      case rel => exact ⟨k + 1, _, by go_num, by omega, HB2.out, by rw [List.take_add_one, List.getElem?_eq_getElem hkl, Option.toList_some, List.map_append]; exact HP.out⟩
      case measure => simp [intOf]; omega
    · have hkn : k = n := by omega
      subst hkn
      go_wp2_with fail
      go_ret
      refine ⟨_, vals, rfl, HB.out, ?_⟩
      have := HR.out
      rwa [List.take_of_length_le (by rw [N1.out]; exact Nat.le_refl _)] at this

/-- An entry's cells. -/
def entC (x : EntryS) : List Value := [.int .i64 x.loc, .int .i64 x.n]
theorem entC_len (x : EntryS) : (entC x).length = 2 := rfl
theorem arr_entries {w : World} {v : Value} {l : List EntryS} (h : Sl rEntry w v l) : Arr w 2 v l.length (l.flatMap entC) := by
  obtain ⟨a, cap, h0, hp, h3⟩ := h
  obtain rfl : v = .slice a l.length cap := by simpa using h0
  refine ⟨flat_length entC 2 entC_len l, a, cap, rfl, hp, fun j u hj => ?_⟩
  have hjl : j < l.length * 2 := by rw [← flat_length entC 2 entC_len l]; exact (List.getElem?_eq_some_iff.1 hj).1
  have hk : j / 2 < l.length := by omega
  have e : j = j / 2 * 2 + j % 2 := by omega
  obtain ⟨b, off, cs', e1, e2, e3, e4⟩ := h3 (j / 2) hk
  obtain ⟨rfl, _, _⟩ := rEntry_rel e4
  refine ⟨b, off, e1, ?_⟩
  rw [e, flat_at entC 2 entC_len l (j / 2) hk (j % 2) (by omega)] at hj
  have := e3 (j % 2) u hj
  rw [show rEntry.size = 2 from rfl] at this
  rw [e, show off + (j / 2 * 2 + j % 2) = off + j / 2 * 2 + j % 2 by omega]
  exact this
theorem ones_entries (l : List EntryS) : Ones (l.flatMap entC) := by
  intro v hv
  obtain ⟨x, _, hx⟩ := List.mem_flatMap.1 hv
  simp only [entC, List.mem_cons, List.not_mem_nil, or_false] at hx
  rcases hx with rfl | rfl <;> rfl
set_option maxRecDepth 100000 in
set_option maxHeartbeats 1000000 in
theorem own_anyE (w : World) (v : Value) (l : List EntryS) (hv : Sl rEntry w v l) (hl : l.length ≤ 1000) : Calls Try.prog 54 #[v] w fun e w' => ∃ u, e = .returned u ∧ Below w.heap.size w w' ∧ w'.ownsRow w.heap.size 40 2 u l.length (l.flatMap entC) := by
  have HA := Lib.hid (arr_entries hv)
  obtain ⟨a, cap, rfl, _⟩ := entries_view hv
  clear hv
  obtain ⟨i0, hi, hi0, hi1, hi2⟩ : ∃ i, Try.prog.info? 40 = some i ∧ i.zero = some (.agg #[.int .i64 0, .int .i64 0]) ∧ i.size = 2 ∧ i.bytes = 16 := info_of (by kernel_rfl)
  go_enter Try.func54, Try.ntmps54
  go_wp2_with (at_builtin; refine wpList_append_arr rfl _ _ 38 rfl w.heap.size 40 i0 _ 2 16 Try.underlying38 hi hi0 hi1 hi2 rfl (by decide) _ 0 [] rfl (World.ownsRow_nil _ _ _ _) _ _ _ rfl HA.out (ones_entries _) ?a1 ?a2 ?a3 ?_)
  case a1 => unfold maxLen; omega
  case a2 => omega
  case a3 => exact Nat.le_refl _
  intro v' w' hown hg
  have HB := Lib.hid (show Below w.heap.size w w' from Below.grown (Below.refl _ _) hg (Nat.le_refl _) (by simp [Value.ownBlock]))
  try rw [Nat.zero_add, List.nil_append] at hown
  have HN := Lib.hid hown
  clear hown hg
  go_wp2_with fail
  go_ret
  exact ⟨_, rfl, HB.out, HN.out⟩

set_option maxRecDepth 100000 in
set_option maxHeartbeats 2000000 in
theorem owns_anyE (w : World) (v : Value) (l : List (List EntryS)) (hv : Sl rEntries w v l) (hl : l.length ≤ 1000) (hl2 : ∀ r ∈ l, r.length ≤ 1000) : Calls Try.prog 39 #[v] w fun e w' => ∃ u vals, e = .returned u ∧ Below w.heap.size w w' ∧ RowsAt w.heap.size w' 38 40 2 u vals (l.map (List.flatMap entC)) := by
  obtain ⟨a, cap, rfl, h1⟩ := slices_view hv
  have H1 := Lib.hid h1
  have H2 := Lib.hid hl2
  clear hv h1 hl2
  obtain ⟨n, hn⟩ : ∃ n, l.length = n := ⟨_, rfl⟩
  rw [hn] at hl ⊢
  have N1 := Lib.hid hn
  clear hn
  obtain ⟨j0, ji, ji0, ji1, ji2⟩ : ∃ i, Try.prog.info? 38 = some i ∧ i.zero = some (.slice none 0 0) ∧ i.size = 1 ∧ i.bytes = 24 := info_of (by kernel_rfl)
  go_enter Try.func39, Try.ntmps39
  go_wp2_with fail
  go_loopw [3, 8] (fun out i wr => ∃ (k : Nat) (vals : List Value), i = .int .i64 k ∧ k ≤ n ∧ Below w.heap.size w wr ∧ RowsAt w.heap.size wr 38 40 2 out vals ((l.take k).map (List.flatMap entC))) (fun _ i _ => n - (intOf i).toNat)
  case atStart => exact ⟨0, [], rfl, by omega, Below.refl _ _, RowsAt.nil _ _ _ _ _⟩
  case round =>
    obtain ⟨k, vals, rfl, hk, hb, hR⟩ := hrel
    have HB := Lib.hid hb; have HR := Lib.hid hR
    have hz := hb.size
    clear hb hR
    by_cases hlt : k < n
    · have hkl : k < l.length := by have := N1.out; omega
      obtain ⟨b, o, vr, rfl, x1, sr⟩ := H1.out k hkl
      have y1 := cell_later HB.out x1
      have SR := Lib.hid (sr.mono mono_entry HB.out)
      have HL := Lib.hid (H2.out _ (List.getElem_mem hkl))
      clear x1 sr
      go_wp2_with fail
      refine (own_anyE _ vr l[k] SR.out HL.out).mono ?_
      rintro e w1 ⟨x, rfl, hb1, hx⟩
      obtain ⟨xa, xn, xc, rfl⟩ : ∃ a n c, x = .slice a n c := by
        rcases hx.2 with ⟨rfl, _⟩ | ⟨g, cap, cur, rfl, _⟩
        · exact ⟨_, _, _, rfl⟩
        · exact ⟨_, _, _, rfl⟩
      have HB1 := Lib.hid hb1; have HX := Lib.hid hx
      have hz1 := hb1.size
      clear hb1 hx
      have hlk : ((l.take k).map (List.flatMap entC)).length = k := by rw [List.length_map, List.length_take]; omega
      have hown := owns_below (owns_below HR.out.own HB1.out) ((Below.refl _ _).alloc (Nat.le_refl _) (.cells #[.slice xa xn xc] 38))
      rw [hlk] at hown
      have HO := Lib.hid hown
      have HLK := Lib.hid hlk
      clear hown hlk
      have hsz1 : (w1.alloc (.cells #[.slice xa xn xc] 38)).heap.size = w1.heap.size + 1 := World.size_alloc _ _
      go_wp2_with (at_builtin; refine wpList_append_lies _ rfl _ _ 29 rfl w.heap.size 38 j0 _ 1 24 Try.underlying29 ji ji0 ji1 ji2 rfl (by decide) _ k vals rfl HO.out _ 1 1 [.slice xa xn xc] rfl rfl (World.news_of_block (heap_alloc_new w1 _)) (by intro u hu; simp at hu; subst hu; rfl) (by decide) ?a1 ?a2 ?a3 _ rfl ?_)
      case a1 => unfold maxLen; omega
      case a2 => omega
      case a3 => rw [hsz1]; omega
      intro g cp w2 hw2 hgr hlc hlt2
      have hp := RowsAt.push (x := .slice xa xn xc) HR.out hz (HB1.out.trans ((Below.refl _ _).alloc hz1 (.cells #[.slice xa xn xc] 38))) (owns_below HX.out ((Below.refl _ _).alloc (Nat.le_refl _) _)) (by rw [HLK.out]; exact hw2) hgr (by rw [hsz1]; exact hlc) rfl
      have hbw2 : Below w.heap.size w w2 := (HB.out.trans ((HB1.out.trans ((Below.refl _ _).alloc hz1 (.cells #[.slice xa xn xc] 38))).mono hz)).grown hgr (by rw [hsz1]; omega) (fun b hb => (ownsR_block HO.out hb).1)
      have HP := Lib.hid hp; have HB2 := Lib.hid hbw2
      clear hp hbw2 hgr hlc hlt2 hsz1 hw2
      go_wp2_with fail
      go_round
      case rel => exact ⟨k + 1, _, by go_num, by omega, HB2.out, by rw [List.take_add_one, List.getElem?_eq_getElem hkl, Option.toList_some, List.map_append]; exact HP.out⟩
      case measure => simp [intOf]; omega
    · have hkn : k = n := by omega
      subst hkn
      go_wp2_with fail
      go_ret
      refine ⟨_, vals, rfl, HB.out, ?_⟩
      have := HR.out
      rwa [List.take_of_length_le (by rw [N1.out]; exact Nat.le_refl _)] at this

theorem RowsAt.base {B B' : Nat} {w : World} {eT e : TypeId} {size : Nat} {v : Value} {vals : List Value} {rows : List (List Value)} (h : RowsAt B w eT e size v vals rows) (hB : B' ≤ B) : RowsAt B' w eT e size v vals rows :=
  ⟨h.len, owns_heap h.own fun b hb => ⟨Nat.le_trans hB (ownsR_block h.own hb).1, rfl⟩, fun i x r h1 h2 => let ⟨m, hm⟩ := h.row i x r h1 h2; ⟨m, owns_heap hm fun b hb => ⟨Nat.le_trans hB (ownsR_block hm hb).1, rfl⟩⟩, h.apart, h.dist⟩
theorem RowsAt.heap {B B' : Nat} {w w' : World} {eT e : TypeId} {size : Nat} {v : Value} {vals : List Value} {rows : List (List Value)} (h : RowsAt B w eT e size v vals rows) (hB : B' ≤ B) (hw : ∀ b, B ≤ b → w'.heap[b]? = w.heap[b]?) : RowsAt B' w' eT e size v vals rows :=
  ⟨h.len, owns_heap h.own fun b hb => ⟨Nat.le_trans hB (ownsR_block h.own hb).1, hw b (ownsR_block h.own hb).1⟩, fun i x r h1 h2 => let ⟨m, hm⟩ := h.row i x r h1 h2; ⟨m, owns_heap hm fun b hb => ⟨Nat.le_trans hB (ownsR_block hm hb).1, hw b (ownsR_block hm hb).1⟩⟩, h.apart, h.dist⟩
theorem blkOf_own {v : Value} {k : Nat} (h : blkOf v = some k) {w : World} {B : Nat} {e : TypeId} {size n : Nat} {xs : List Value} (ho : w.ownsRow B e size v n xs) : B ≤ k ∧ k < w.heap.size := by
  refine ownsR_block ho ?_
  rcases ho.2 with ⟨rfl, _⟩ | ⟨g, cap, cur, rfl, _⟩
  · cases h
  · exact h
/-- A copy whose rows are all one's own. -/
structure CopyIs (B : Nat) (w : World) (c : ConfS) (vp vr vm vb : Value) (xr xb : List Value) : Prop where
  pc : w.ownsRow B 3 1 vp c.pc.length (c.pc.map (Value.int .i64))
  regs : RowsAt B w 22 3 1 vr xr (c.regs.map (List.map (Value.int .i64)))
  mem : w.ownsRow B 3 1 vm c.mem.length (c.mem.map (Value.int .i64))
  buf : RowsAt B w 38 40 2 vb xb (c.buf.map (List.flatMap entC))
set_option maxRecDepth 100000 in
set_option maxHeartbeats 4000000 in
theorem ccopy_any (w : World) (v : Value) (c : ConfS) (hv : ConfV w v c) (hl : LightC c) : Calls Try.prog 16 #[v] w fun e w' => Below w.heap.size w w' ∧ ∃ vp vr vm vb xr xb, e = .returned (.agg #[vp, vr, vm, vb]) ∧ CopyIs w.heap.size w' c vp vr vm vb xr xb := by
  obtain ⟨vp, vr, vm, vb, rfl, s1, s2, s3, s4⟩ := hv
  have S1 := Lib.hid s1; have S2 := Lib.hid s2; have S3 := Lib.hid s3; have S4 := Lib.hid s4
  obtain ⟨l1, l2, l3, l4, l5, l6⟩ := hl
  have L5 := Lib.hid l5; have L6 := Lib.hid l6
  clear l5 l6
  obtain ⟨a1, c1, rfl, _⟩ := ints_view s1
  obtain ⟨a2, c2, rfl, _⟩ := slices_view s2
  obtain ⟨a3, c3, rfl, _⟩ := ints_view s3
  obtain ⟨a4, c4, rfl, _⟩ := slices_view s4
  clear s1 s2 s3 s4
  obtain ⟨np, hnp⟩ : ∃ n, c.pc.length = n := ⟨_, rfl⟩
  obtain ⟨nr, hnr⟩ : ∃ n, c.regs.length = n := ⟨_, rfl⟩
  obtain ⟨nm, hnm⟩ : ∃ n, c.mem.length = n := ⟨_, rfl⟩
  obtain ⟨nb, hnb⟩ : ∃ n, c.buf.length = n := ⟨_, rfl⟩
  rw [hnp] at S1; rw [hnr] at S2; rw [hnm] at S3; rw [hnb] at S4
  rw [hnp, hnr, hnm, hnb]
  have N1 := Lib.hid hnp; have N2 := Lib.hid hnr; have N3 := Lib.hid hnm; have N4 := Lib.hid hnb
  clear hnp hnr hnm hnb
  obtain ⟨W, hW⟩ : ∃ W, W = (w.alloc (.cells #[.slice a1 np c1, .slice a2 nr c2, .slice a3 nm c3, .slice a4 nb c4] 31)).alloc (.cells #[.slice none 0 0, .slice none 0 0, .slice none 0 0, .slice none 0 0] 31) := ⟨_, rfl⟩
  go_enter Try.func16, Try.ntmps16
  go_upto_region 1 with (fail)
  have hb0 : Below w.heap.size w W := hW ▸ ((Below.refl _ _).alloc (Nat.le_refl _) _).alloc (by simp) _
  have hsz : W.heap.size = w.heap.size + 1 + 1 := by rw [hW]; simp
  have z1 : W.cell? ⟨w.heap.size, 0, none⟩ = some (.slice a1 np c1) := by rw [hW]; exact cell_later ((Below.refl _ _).alloc (Nat.le_refl _) _) (new_cell w _ _ 0 _ rfl)
  have z2 : W.cell? ⟨w.heap.size, 1, none⟩ = some (.slice a2 nr c2) := by rw [hW]; exact cell_later ((Below.refl _ _).alloc (Nat.le_refl _) _) (new_cell w _ _ 1 _ rfl)
  have z3 : W.cell? ⟨w.heap.size, 2, none⟩ = some (.slice a3 nm c3) := by rw [hW]; exact cell_later ((Below.refl _ _).alloc (Nat.le_refl _) _) (new_cell w _ _ 2 _ rfl)
  have z4 : W.cell? ⟨w.heap.size, 3, none⟩ = some (.slice a4 nb c4) := by rw [hW]; exact cell_later ((Below.refl _ _).alloc (Nat.le_refl _) _) (new_cell w _ _ 3 _ rfl)
  have r0 : Fresh W (w.heap.size + 1) (.cells #[.slice none 0 0, .slice none 0 0, .slice none 0 0, .slice none 0 0] 31) := by
    have := heap_alloc_new (w.alloc (.cells #[.slice a1 np c1, .slice a2 nr c2, .slice a3 nm c3, .slice a4 nb c4] 31)) (.cells #[.slice none 0 0, .slice none 0 0, .slice none 0 0, .slice none 0 0] 31)
    rw [World.size_alloc] at this
    rw [hW]; exact this
  rw [← hW]
  have HB := Lib.hid hb0
  have HSZ := Lib.hid hsz
  have R0 := Lib.hid r0
  clear hb0 hW hsz r0
  have f1 := Later.cell z1; have f2 := Later.cell z2; have f3 := Later.cell z3; have f4 := Later.cell z4
  clear z1 z2 z3 z4
  refine wp_region_facts 12 [0, 1, 3, 4, 6, 7, 9, 10, 2, 5, 8, 11] [2, 5, 8, 11] (fun k => match k with
    | 2 => some fun _ v w' => w'.ownsRow W.heap.size 3 1 v np (c.pc.map (Value.int .i64))
    | 5 => some fun _ v w' => ∃ xr, RowsAt W.heap.size w' 22 3 1 v xr (c.regs.map (List.map (Value.int .i64)))
    | 8 => some fun _ v w' => w'.ownsRow W.heap.size 3 1 v nm (c.mem.map (Value.int .i64))
    | 11 => some fun _ v w' => ∃ xb, RowsAt W.heap.size w' 38 40 2 v xb (c.buf.map (List.flatMap entC))
    | _ => none) ?_ ?_ (by kernel_rfl) (by kernel_rfl) ?_
  · intro k ψ hk x v w' w'' hb h
    match k, hk with
    | 2, hk => cases hk; exact owns_below h hb
    | 5, hk => cases hk; obtain ⟨xr, h⟩ := h; exact ⟨xr, h.below hb⟩
    | 8, hk => cases hk; exact owns_below h hb
    | 11, hk => cases hk; obtain ⟨xr, h⟩ := h; exact ⟨xr, h.below hb⟩
    | 0, hk => cases hk
    | 1, hk => cases hk
    | 3, hk => cases hk
    | 4, hk => cases hk
    | 6, hk => cases hk
    | 7, hk => cases hk
    | 9, hk => cases hk
    | 10, hk => cases hk
    | k + 12, hk => cases hk
  · intro k
    match k with
    | 0 => simp
    | 1 => simp
    | 2 => simp
    | 3 => simp
    | 4 => simp
    | 5 => simp
    | 6 => simp
    | 7 => simp
    | 8 => simp
    | 9 => simp
    | 10 => simp
    | 11 => simp
    | k + 12 => simp
  iterate 8 (
    refine wpFacts_q rfl rfl (fun K hK => ?_)
    go_simp
    refine hK _ ?_
    clear hK K)
  refine wpFacts_s rfl rfl rfl (fun s => ?_) ?_
  · go_simp
    refine ⟨rfl, ?_⟩
    refine (own_any s.world (.slice a1 np c1) c.pc ?_ ?_).mono ?_
    · exact S1.out.mono (mono_int _) (HB.out.trans (s.below.mono HB.out.size))
    · have := N1.out; omega
    · rintro e w2 ⟨x, rfl, hb2, hx⟩
      rw [N1.out] at hx
      have hle := s.below.size
      exact ⟨_, rfl, hb2, owns_heap hx fun b hb => ⟨Nat.le_trans hle (ownsR_block hx hb).1, rfl⟩, fun k hk => blkOf_own hk hx⟩
  rintro v1 w' - n1
  refine wpFacts_s rfl rfl rfl (fun s => ?_) ?_
  · go_simp
    refine ⟨rfl, ?_⟩
    refine (owns_any s.world (.slice a2 nr c2) c.regs ?_ ?_ ?_).mono ?_
    · exact S2.out.mono mono_ints (HB.out.trans (s.below.mono HB.out.size))
    · have := N2.out; omega
    · intro r hr
      obtain ⟨i, hi, rfl⟩ := List.getElem_of_mem hr
      exact Nat.le_trans (L5.out i hi) (by decide)
    · rintro e w2 ⟨x, xr, rfl, hb2, hx⟩
      exact ⟨_, rfl, hb2, ⟨xr, hx.base s.below.size⟩, fun k hk => blkOf_own hk hx.own⟩
  rintro v2 w' - n2
  refine wpFacts_s rfl rfl rfl (fun s => ?_) ?_
  · go_simp
    refine ⟨rfl, ?_⟩
    refine (own_any s.world (.slice a3 nm c3) c.mem ?_ ?_).mono ?_
    · exact S3.out.mono (mono_int _) (HB.out.trans (s.below.mono HB.out.size))
    · have := N3.out; omega
    · rintro e w2 ⟨x, rfl, hb2, hx⟩
      rw [N3.out] at hx
      have hle := s.below.size
      exact ⟨_, rfl, hb2, owns_heap hx fun b hb => ⟨Nat.le_trans hle (ownsR_block hx hb).1, rfl⟩, fun k hk => blkOf_own hk hx⟩
  rintro v3 w' - n3
  refine wpFacts_s rfl rfl rfl (fun s => ?_) ?_
  · go_simp
    refine ⟨rfl, ?_⟩
    refine (owns_anyE s.world (.slice a4 nb c4) c.buf ?_ ?_ ?_).mono ?_
    · exact S4.out.mono mono_entries (HB.out.trans (s.below.mono HB.out.size))
    · have := N4.out; omega
    · intro r hr
      obtain ⟨i, hi, rfl⟩ := List.getElem_of_mem hr
      exact Nat.le_trans (L6.out i hi) (by decide)
    · rintro e w2 ⟨x, xr, rfl, hb2, hx⟩
      exact ⟨_, rfl, hb2, ⟨xr, hx.base s.below.size⟩, fun k hk => blkOf_own hk hx.own⟩
  rintro v4 w' - n4
  refine wpFacts_nil ?_
  intro w2 hb2 hf
  clear f1 f2 f3 f4 n1 n2 n3 n4
  obtain ⟨⟨⟨⟨_, q1⟩, xr, q2⟩, q3⟩, xb, q4⟩ := hf
  have form : ∀ {w : World} {B : Nat} {e : TypeId} {size n : Nat} {v : Value} {xs : List Value}, w.ownsRow B e size v n xs → ∃ a n c, v = .slice a n c := by
    intro w B e size n v xs h
    rcases h.2 with ⟨rfl, _⟩ | ⟨g, cap, cur, rfl, _⟩ <;> exact ⟨_, _, _, rfl⟩
  obtain ⟨b1, m1, k1, rfl⟩ := form q1
  obtain ⟨b2, m2, k2, rfl⟩ := form q2.own
  obtain ⟨b3, m3, k3, rfl⟩ := form q3
  obtain ⟨b4, m4, k4, rfl⟩ := form q4.own
  have hC := R0.out.later hb2
  have w0 : ∀ k, k < 4 → VarAt w2 (w.heap.size + 1) k (.slice none 0 0) := by
    intro k hk
    unfold Fresh at hC
    have : k = 0 ∨ k = 1 ∨ k = 2 ∨ k = 3 := by omega
    constructor
    · rcases this with rfl | rfl | rfl | rfl <;> simp [World.cell?, hC]
    · simp [World.frozen?, hC]
  obtain ⟨y0, y0'⟩ := w0 0 (by decide); obtain ⟨y1, y1'⟩ := w0 1 (by decide); obtain ⟨y2, y2'⟩ := w0 2 (by decide); obtain ⟨y3, y3'⟩ := w0 3 (by decide)
  clear w0 form
  have Q1 := Lib.hid q1; have Q2 := Lib.hid q2; have Q3 := Lib.hid q3; have Q4 := Lib.hid q4
  have HB2 := Lib.hid (HB.out.trans (hb2.mono HB.out.size))
  have FC := Lib.hid hC
  clear q1 q2 q3 q4 hb2 hC
  simp only [List.drop_succ_cons, List.drop_zero]
  go_wp2_with fail
  have hW4 : ∀ b, W.heap.size ≤ b → ((((w2.setCell ⟨w.heap.size + 1, 0, none⟩ (.slice b1 m1 k1)).setCell ⟨w.heap.size + 1, 1, none⟩ (.slice b2 m2 k2)).setCell ⟨w.heap.size + 1, 2, none⟩ (.slice b3 m3 k3)).setCell ⟨w.heap.size + 1, 3, none⟩ (.slice b4 m4 k4)).heap[b]? = w2.heap[b]? := by
    intro b hb
    have hne : b ≠ w.heap.size + 1 := by have := HSZ.out; omega
    exact (Below.heap_setCell _ ⟨w.heap.size + 1, 3, none⟩ _ b hne).trans ((Below.heap_setCell _ ⟨w.heap.size + 1, 2, none⟩ _ b hne).trans ((Below.heap_setCell _ ⟨w.heap.size + 1, 1, none⟩ _ b hne).trans (Below.heap_setCell _ ⟨w.heap.size + 1, 0, none⟩ _ b hne)))
  have hb4 := (((HB2.out.setCell (p := ⟨w.heap.size + 1, 0, none⟩) (by show _ ≤ w.heap.size + 1; omega) (.slice b1 m1 k1)).setCell (p := ⟨w.heap.size + 1, 1, none⟩) (by show _ ≤ w.heap.size + 1; omega) (.slice b2 m2 k2)).setCell (p := ⟨w.heap.size + 1, 2, none⟩) (by show _ ≤ w.heap.size + 1; omega) (.slice b3 m3 k3)).setCell (p := ⟨w.heap.size + 1, 3, none⟩) (by show _ ≤ w.heap.size + 1; omega) (.slice b4 m4 k4)
  have hle : w.heap.size ≤ W.heap.size := HB.out.size
  have own1 : ∀ {e : TypeId} {n : Nat} {v : Value} {xs : List Value}, w2.ownsRow W.heap.size e 1 v n xs → World.ownsRow _ w.heap.size e 1 v n xs := fun h => owns_heap h fun b hb => ⟨Nat.le_trans hle (ownsR_block h hb).1, hW4 b (ownsR_block h hb).1⟩
  have q1 := own1 Q1.out; have q3 := own1 Q3.out
  have q2 := Q2.out.heap hle hW4; have q4 := Q4.out.heap hle hW4
  have R1 := Lib.hid q1; have R2 := Lib.hid q2; have R3 := Lib.hid q3; have R4 := Lib.hid q4; have RB := Lib.hid hb4
  clear q1 q2 q3 q4 hb4 own1 hW4
  have hG : ((((w2.setCell ⟨w.heap.size + 1, 0, none⟩ (.slice b1 m1 k1)).setCell ⟨w.heap.size + 1, 1, none⟩ (.slice b2 m2 k2)).setCell ⟨w.heap.size + 1, 2, none⟩ (.slice b3 m3 k3)).setCell ⟨w.heap.size + 1, 3, none⟩ (.slice b4 m4 k4)).heap[w.heap.size + 1]? = some (.cells #[.slice b1 m1 k1, .slice b2 m2 k2, .slice b3 m3 k3, .slice b4 m4 k4] 31) := by
    have hC := FC.out
    unfold Fresh at hC
    simp [World.setCell, Array.getElem?_modify, hC]
  (try simp only [Exit.inBlock, Exit.then])
  refine bodyPost_ret (results_cell_row rfl _ _ (w.heap.size + 1) 31 #[.slice b1 m1 k1, .slice b2 m2 k2, .slice b3 m3 k3, .slice b4 m4 k4] (0, 0) _ rfl hG Try.underlying31 rfl (by kernel_rfl)) rfl ?_
  exact ⟨RB.out, _, _, _, _, rfl, xr, xb, by rw [N1.out]; exact R1.out, R2.out, by rw [N3.out]; exact R3.out, R4.out⟩
end Go.Proofs.Ytejkhpgahnncnaa
end

section
namespace Go.Proofs.Ytejkhpgahnncnaa
open Go.RowKit
set_option linter.unusedVariables false
set_option linter.unusedSimpArgs false

theorem sim_all {P : Program} (W : World) : Sim P W.heap.size (SAll W) W [] [] := ⟨rfl, Nat.le_refl _, fun _ _ ⟨u, hu⟩ => ⟨u, hu, fun hb => absurd (stay_lt hu) (by omega)⟩, fun id o ho => by simp at ho, fun i j b hi => by simp [blockAt] at hi⟩
end Go.Proofs.Ytejkhpgahnncnaa
end

section
namespace Go.Proofs.Ytejkhpgahnncnaa
set_option linter.unusedVariables false
set_option linter.unusedSimpArgs false
set_option maxRecDepth 100000
set_option maxHeartbeats 4000000

theorem ok_conf_same_api_Entry {n:Nat} ⦃v0_a:(List EntryS)⦄ ⦃v1_b:(List EntryS)⦄ ⦃r:Bool⦄:m_conf_same_api_Entry n v0_a v1_b=some r→CN n 55 [AV.sl 2 (List.map encE v0_a),AV.sl 2 (List.map encE v1_b)] []=some (bA r,[]):=by
 intro h;rcases n with _|n;cases h
 rw [m_conf_same_api_Entry] at h
 refine callN_eq' Try.func55 (by rfl) rfl rfl (Nat.le_of_ble_eq_true rfl) ?_
 intro call hc;conv=>lhs;whnf
 revert h
 refine br ?_ ?_
 exact rz
 intro h;refine bind_some2 h ?_;clear h;intro o10 ho10 h
 refine lq (σ:=Int) (τ:=Unit) (ν:=Bool) 0 (fun s2 a4=>stOf 26 [(0,AV.sl 2 (List.map encE v0_a)),(1,AV.sl 2 (List.map encE v1_b)),(12,iA (((v0_a.length:Nat):Int))),(13,iA s2)]) (fun s2 a4=>[]) (fun _ a16=>stOf 26 []) (fun _ a16=>[]) (fun v=>(bA v,[])) (fun k s=>conf_same_api_Entry_L0 n v0_a v1_b k s) (fun s=>rfl) o10 n 0 (fun _=>0) ho10 ?_ ?_
 intro k3 s2 a4 K5 cont6 hK7 hcont8 h hr9
 replace h:conf_same_api_Entry_L0 n v0_a v1_b (k3+1) s2=some o10:=h
 rw [conf_same_api_Entry_L0] at h
 conv=>lhs;whnf
 revert h
 refine br ?_ ?_
 refine ix ?_;intro x12
 refine ix ?_;intro x13
 intro h
 have hf15:flatT Try.prog 40=some (fieldsOf Try.prog 40):=by kernel_rfl
 simp only [hf15,List.length_map,take_map_len]
 conv=>lhs;whnf
 revert h
 refine br ?_ ?_
 exact fun h=>cq (hcont8 (IntKind.i64.wrap (s2+1)) (fun _=>0) h)
 intro h;cases sj h
 refine (hK7 _ _).trans ?_
 refine Eq.trans ?_ (Eq.symm (show _=some _ from hr9))
 conv=>lhs;whnf
 exact rq
 intro h;cases sj h
 exact kq (hr9 (fun _=>0))
 refine lrc ?_ ?_
 intro v e;subst e;cases sj h;rfl
 intro t a16 e;subst e
 dsimp only at h
 conv=>lhs;whnf
 revert h
 exact rz

theorem ok_conf_all_api_Entry {n:Nat} ⦃v0_a:(List (List EntryS))⦄ ⦃v1_b:(List (List EntryS))⦄ ⦃r:Bool⦄:m_conf_all_api_Entry n v0_a v1_b=some r→CN n 42 [AV.sl 1 (List.map encBuf v0_a),AV.sl 1 (List.map encBuf v1_b)] []=some (bA r,[]):=by
 intro h;rcases n with _|n;cases h
 rw [m_conf_all_api_Entry] at h
 refine callN_eq' Try.func42 (by rfl) rfl rfl (Nat.le_of_ble_eq_true rfl) ?_
 intro call hc;conv=>lhs;whnf
 revert h
 refine br ?_ ?_
 exact rz
 intro h;refine bind_some2 h ?_;clear h;intro o10 ho10 h
 refine lq (σ:=Int) (τ:=Unit) (ν:=Bool) 0 (fun s2 a4=>stOf 27 [(0,AV.sl 1 (List.map encBuf v0_a)),(1,AV.sl 1 (List.map encBuf v1_b)),(12,iA (((v0_a.length:Nat):Int))),(13,iA s2)]) (fun s2 a4=>[]) (fun _ a17=>stOf 27 []) (fun _ a17=>[]) (fun v=>(bA v,[])) (fun k s=>conf_all_api_Entry_L0 n v0_a v1_b k s) (fun s=>rfl) o10 n 0 (fun _=>0) ho10 ?_ ?_
 intro k3 s2 a4 K5 cont6 hK7 hcont8 h hr9
 replace h:conf_all_api_Entry_L0 n v0_a v1_b (k3+1) s2=some o10:=h
 rw [conf_all_api_Entry_L0] at h
 conv=>lhs;whnf
 revert h
 refine br ?_ ?_
 refine ix ?_;intro x12
 refine ix ?_;intro x13
 refine ca hc (fun _ h=>ok_conf_same_api_Entry h) ?_;intro y14
 refine br ?_ ?_
 exact fun h=>cq (hcont8 (IntKind.i64.wrap (s2+1)) (fun _=>0) h)
 intro h;cases sj h
 refine (hK7 _ _).trans ?_
 refine Eq.trans ?_ (Eq.symm (show _=some _ from hr9))
 conv=>lhs;whnf
 exact rq
 intro h;cases sj h
 exact kq (hr9 (fun _=>0))
 refine lrc ?_ ?_
 intro v e;subst e;cases sj h;rfl
 intro t a17 e;subst e
 dsimp only at h
 conv=>lhs;whnf
 revert h
 exact rz

theorem ok_conf_same_int {n:Nat} ⦃v0_a:(List Int)⦄ ⦃v1_b:(List Int)⦄ ⦃r:Bool⦄:m_conf_same_int n v0_a v1_b=some r→CN n 40 [AV.sl 1 (List.map encI v0_a),AV.sl 1 (List.map encI v1_b)] []=some (bA r,[]):=by
 intro h;rcases n with _|n;cases h
 rw [m_conf_same_int] at h
 refine callN_eq' Try.func40 (by rfl) rfl rfl (Nat.le_of_ble_eq_true rfl) ?_
 intro call hc;conv=>lhs;whnf
 revert h
 refine br ?_ ?_
 exact rz
 intro h;refine bind_some2 h ?_;clear h;intro o10 ho10 h
 refine lq (σ:=Int) (τ:=Unit) (ν:=Bool) 0 (fun s2 a4=>stOf 26 [(0,AV.sl 1 (List.map encI v0_a)),(1,AV.sl 1 (List.map encI v1_b)),(12,iA (((v0_a.length:Nat):Int))),(13,iA s2)]) (fun s2 a4=>[]) (fun _ a15=>stOf 26 []) (fun _ a15=>[]) (fun v=>(bA v,[])) (fun k s=>conf_same_int_L0 n v0_a v1_b k s) (fun s=>rfl) o10 n 0 (fun _=>0) ho10 ?_ ?_
 intro k3 s2 a4 K5 cont6 hK7 hcont8 h hr9
 replace h:conf_same_int_L0 n v0_a v1_b (k3+1) s2=some o10:=h
 rw [conf_same_int_L0] at h
 conv=>lhs;whnf
 revert h
 refine br ?_ ?_
 refine ix ?_;intro x12
 refine ix ?_;intro x13
 refine br ?_ ?_
 intro h;cases sj h
 refine (hK7 _ _).trans ?_
 refine Eq.trans ?_ (Eq.symm (show _=some _ from hr9))
 conv=>lhs;whnf
 exact rq
 exact fun h=>cq (hcont8 (IntKind.i64.wrap (s2+1)) (fun _=>0) h)
 intro h;cases sj h
 exact kq (hr9 (fun _=>0))
 refine lrc ?_ ?_
 intro v e;subst e;cases sj h;rfl
 intro t a15 e;subst e
 dsimp only at h
 conv=>lhs;whnf
 revert h
 exact rz

theorem ok_conf_all_int {n:Nat} ⦃v0_a:(List (List Int))⦄ ⦃v1_b:(List (List Int))⦄ ⦃r:Bool⦄:m_conf_all_int n v0_a v1_b=some r→CN n 41 [AV.sl 1 (List.map encRow v0_a),AV.sl 1 (List.map encRow v1_b)] []=some (bA r,[]):=by
 intro h;rcases n with _|n;cases h
 rw [m_conf_all_int] at h
 refine callN_eq' Try.func41 (by rfl) rfl rfl (Nat.le_of_ble_eq_true rfl) ?_
 intro call hc;conv=>lhs;whnf
 revert h
 refine br ?_ ?_
 exact rz
 intro h;refine bind_some2 h ?_;clear h;intro o10 ho10 h
 refine lq (σ:=Int) (τ:=Unit) (ν:=Bool) 0 (fun s2 a4=>stOf 27 [(0,AV.sl 1 (List.map encRow v0_a)),(1,AV.sl 1 (List.map encRow v1_b)),(12,iA (((v0_a.length:Nat):Int))),(13,iA s2)]) (fun s2 a4=>[]) (fun _ a17=>stOf 27 []) (fun _ a17=>[]) (fun v=>(bA v,[])) (fun k s=>conf_all_int_L0 n v0_a v1_b k s) (fun s=>rfl) o10 n 0 (fun _=>0) ho10 ?_ ?_
 intro k3 s2 a4 K5 cont6 hK7 hcont8 h hr9
 replace h:conf_all_int_L0 n v0_a v1_b (k3+1) s2=some o10:=h
 rw [conf_all_int_L0] at h
 conv=>lhs;whnf
 revert h
 refine br ?_ ?_
 refine ix ?_;intro x12
 refine ix ?_;intro x13
 refine ca hc (fun _ h=>ok_conf_same_int h) ?_;intro y14
 refine br ?_ ?_
 exact fun h=>cq (hcont8 (IntKind.i64.wrap (s2+1)) (fun _=>0) h)
 intro h;cases sj h
 refine (hK7 _ _).trans ?_
 refine Eq.trans ?_ (Eq.symm (show _=some _ from hr9))
 conv=>lhs;whnf
 exact rq
 intro h;cases sj h
 exact kq (hr9 (fun _=>0))
 refine lrc ?_ ?_
 intro v e;subst e;cases sj h;rfl
 intro t a17 e;subst e
 dsimp only at h
 conv=>lhs;whnf
 revert h
 exact rz

theorem ok_conf_Same {n:Nat} ⦃v0_a:ConfS⦄ ⦃v1_b:ConfS⦄ ⦃r:Bool⦄:m_conf_Same n v0_a v1_b=some r→CN n 18 [AV.agg [AV.sl 1 (List.map encI (v0_a.pc)),AV.sl 1 (List.map encRow (v0_a.regs)),AV.sl 1 (List.map encI (v0_a.mem)),AV.sl 1 (List.map encBuf (v0_a.buf))],AV.agg [AV.sl 1 (List.map encI (v1_b.pc)),AV.sl 1 (List.map encRow (v1_b.regs)),AV.sl 1 (List.map encI (v1_b.mem)),AV.sl 1 (List.map encBuf (v1_b.buf))]] []=some (bA r,[]):=by
 intro h;rcases n with _|n;cases h
 rw [m_conf_Same] at h
 refine callN_eq' Try.func18 (by rfl) rfl rfl (Nat.le_of_ble_eq_true rfl) ?_
 intro call hc;conv=>lhs;whnf
 revert h
 refine ca hc (fun _ h=>ok_conf_same_int h) ?_;intro y1
 refine br ?_ ?_
 refine ca hc (fun _ h=>ok_conf_same_int h) ?_;intro y4
 refine br ?_ ?_
 refine ca hc (fun _ h=>ok_conf_all_int h) ?_;intro y7
 refine br ?_ ?_
 refine ca hc (fun _ h=>ok_conf_all_api_Entry h) ?_;intro y10
 exact rz
 exact rz
 exact rz
 exact rz

end Go.Proofs.Ytejkhpgahnncnaa
end

section
namespace Go.Proofs.Ytejkhpgahnncnaa
set_option linter.unusedVariables false
set_option linter.unusedSimpArgs false
set_option maxRecDepth 100000
set_option maxHeartbeats 4000000

theorem ok_ref07_Ints {n:Nat} ⦃v0_a:(List Int)⦄ ⦃v1_b:(List Int)⦄ ⦃r:Bool⦄:m_ref07_Ints n v0_a v1_b=some r→CN n 36 [AV.sl 1 (List.map encI v0_a),AV.sl 1 (List.map encI v1_b)] []=some (bA r,[]):=by
 intro h;rcases n with _|n;cases h
 rw [m_ref07_Ints] at h
 refine callN_eq' Try.func36 (by rfl) rfl rfl (Nat.le_of_ble_eq_true rfl) ?_
 intro call hc;conv=>lhs;whnf
 revert h
 refine br ?_ ?_
 exact rz
 intro h;refine bind_some2 h ?_;clear h;intro o10 ho10 h
 refine lq (σ:=Int) (τ:=Unit) (ν:=Bool) 0 (fun s2 a4=>stOf 26 [(0,AV.sl 1 (List.map encI v0_a)),(1,AV.sl 1 (List.map encI v1_b)),(5,iA s2)]) (fun s2 a4=>[]) (fun _ a15=>stOf 26 []) (fun _ a15=>[]) (fun v=>(bA v,[])) (fun k s=>ref07_Ints_L0 n v0_a v1_b k s) (fun s=>rfl) o10 n 0 (fun _=>0) ho10 ?_ ?_
 intro k3 s2 a4 K5 cont6 hK7 hcont8 h hr9
 replace h:ref07_Ints_L0 n v0_a v1_b (k3+1) s2=some o10:=h
 rw [ref07_Ints_L0] at h
 conv=>lhs;whnf
 revert h
 refine br ?_ ?_
 refine ix ?_;intro x12
 refine ix ?_;intro x13
 refine br ?_ ?_
 intro h;cases sj h
 refine (hK7 _ _).trans ?_
 refine Eq.trans ?_ (Eq.symm (show _=some _ from hr9))
 conv=>lhs;whnf
 exact rq
 exact fun h=>cq (hcont8 (IntKind.i64.wrap (s2+1)) (fun _=>0) h)
 intro h;cases sj h
 exact kq (hr9 (fun _=>0))
 refine lrc ?_ ?_
 intro v e;subst e;cases sj h;rfl
 intro t a15 e;subst e
 dsimp only at h
 conv=>lhs;whnf
 revert h
 exact rz
end Go.Proofs.Ytejkhpgahnncnaa
end

section
namespace Go.Proofs.Ytejkhpgahnncnaa
set_option linter.unusedVariables false
set_option linter.unusedSimpArgs false
set_option maxRecDepth 100000
set_option maxHeartbeats 4000000

theorem ok_ref08_Same {n:Nat} ⦃v0_a:(List EntryS)⦄ ⦃v1_b:(List EntryS)⦄ ⦃r:Bool⦄:m_ref08_Same n v0_a v1_b=some r→CN n 37 [AV.sl 2 (List.map encE v0_a),AV.sl 2 (List.map encE v1_b)] []=some (bA r,[]):=by
 intro h;rcases n with _|n;cases h
 rw [m_ref08_Same] at h
 refine callN_eq' Try.func37 (by rfl) rfl rfl (Nat.le_of_ble_eq_true rfl) ?_
 intro call hc;conv=>lhs;whnf
 revert h
 refine br ?_ ?_
 exact rz
 intro h;refine bind_some2 h ?_;clear h;intro o10 ho10 h
 refine lq (σ:=Int) (τ:=Unit) (ν:=Bool) 0 (fun s2 a4=>stOf 26 [(0,AV.sl 2 (List.map encE v0_a)),(1,AV.sl 2 (List.map encE v1_b)),(5,iA s2)]) (fun s2 a4=>[]) (fun _ a16=>stOf 26 []) (fun _ a16=>[]) (fun v=>(bA v,[])) (fun k s=>ref08_Same_L0 n v0_a v1_b k s) (fun s=>rfl) o10 n 0 (fun _=>0) ho10 ?_ ?_
 intro k3 s2 a4 K5 cont6 hK7 hcont8 h hr9
 replace h:ref08_Same_L0 n v0_a v1_b (k3+1) s2=some o10:=h
 rw [ref08_Same_L0] at h
 conv=>lhs;whnf
 revert h
 refine br ?_ ?_
 refine ix ?_;intro x12
 refine ix ?_;intro x13
 intro h
 have hf15:flatT Try.prog 40=some (fieldsOf Try.prog 40):=by kernel_rfl
 simp only [hf15,List.length_map,take_map_len]
 conv=>lhs;whnf
 revert h
 refine br ?_ ?_
 exact fun h=>cq (hcont8 (IntKind.i64.wrap (s2+1)) (fun _=>0) h)
 intro h;cases sj h
 refine (hK7 _ _).trans ?_
 refine Eq.trans ?_ (Eq.symm (show _=some _ from hr9))
 conv=>lhs;whnf
 exact rq
 intro h;cases sj h
 exact kq (hr9 (fun _=>0))
 refine lrc ?_ ?_
 intro v e;subst e;cases sj h;rfl
 intro t a16 e;subst e
 dsimp only at h
 conv=>lhs;whnf
 revert h
 exact rz
end Go.Proofs.Ytejkhpgahnncnaa
end

section
namespace Go.Proofs.Ytejkhpgahnncnaa
set_option linter.unusedVariables false
set_option linter.unusedSimpArgs false
set_option maxRecDepth 100000
set_option maxHeartbeats 4000000

theorem ok_ref09_Light {n:Nat} ⦃v0_c:ConfS⦄ ⦃r:Bool⦄:m_ref09_Light n v0_c=some r→CN n 15 [AV.agg [AV.sl 1 (List.map encI (v0_c.pc)),AV.sl 1 (List.map encRow (v0_c.regs)),AV.sl 1 (List.map encI (v0_c.mem)),AV.sl 1 (List.map encBuf (v0_c.buf))]] []=some (bA r,[]):=by
 intro h;rcases n with _|n;cases h
 rw [m_ref09_Light] at h
 refine callN_eq' Try.func15 (by rfl) rfl rfl (Nat.le_of_ble_eq_true rfl) ?_
 intro call hc;conv=>lhs;whnf
 revert h
 refine br ?_ ?_
 exact rz
 refine br ?_ ?_
 exact rz
 refine br ?_ ?_
 exact rz
 refine br ?_ ?_
 exact rz
 intro h;refine bind_some2 h ?_;clear h;intro o13 ho13 h
 refine lq (σ:=Int) (τ:=Unit) (ν:=Bool) 0 (fun s5 a7=>stOf 55 [(1,AV.ptr 0 0),(3,iA s5)]) (fun s5 a7=>[Ob.var 31 [AV.sl 1 (List.map encI (v0_c.pc)),AV.sl 1 (List.map encRow (v0_c.regs)),AV.sl 1 (List.map encI (v0_c.mem)),AV.sl 1 (List.map encBuf (v0_c.buf))]]) (fun _ a17=>stOf 55 [(1,AV.ptr 0 0)]) (fun _ a17=>[Ob.var 31 [AV.sl 1 (List.map encI (v0_c.pc)),AV.sl 1 (List.map encRow (v0_c.regs)),AV.sl 1 (List.map encI (v0_c.mem)),AV.sl 1 (List.map encBuf (v0_c.buf))]]) (fun v=>(bA v,[])) (fun k s=>ref09_Light_L0 n v0_c k s) (fun s=>rfl) o13 n 0 (fun _=>0) ho13 ?_ ?_
 intro k6 s5 a7 K8 cont9 hK10 hcont11 h hr12
 replace h:ref09_Light_L0 n v0_c (k6+1) s5=some o13:=h
 rw [ref09_Light_L0] at h
 conv=>lhs;whnf
 revert h
 refine br ?_ ?_
 refine ix ?_;intro x15
 refine br ?_ ?_
 intro h;cases sj h
 refine (hK10 _ _).trans ?_
 refine Eq.trans ?_ (Eq.symm (show _=some _ from hr12))
 conv=>lhs;whnf
 exact rq
 exact fun h=>cq (hcont11 (IntKind.i64.wrap (s5+1)) (fun _=>0) h)
 intro h;cases sj h
 exact kq (hr12 (fun _=>0))
 refine lrc ?_ ?_
 intro v e;subst e;cases sj h;rfl
 intro t a17 e;subst e
 dsimp only at h
 conv=>lhs;whnf
 revert h
 intro h;refine bind_some2 h ?_;clear h;intro o26 ho26 h
 refine lq (σ:=Int) (τ:=Unit) (ν:=Bool) 2 (fun s18 a20=>stOf 55 [(1,AV.ptr 0 0),(4,iA s18)]) (fun s18 a20=>[Ob.var 31 [AV.sl 1 (List.map encI (v0_c.pc)),AV.sl 1 (List.map encRow (v0_c.regs)),AV.sl 1 (List.map encI (v0_c.mem)),AV.sl 1 (List.map encBuf (v0_c.buf))]]) (fun _ a30=>stOf 55 []) (fun _ a30=>[Ob.var 31 [AV.sl 1 (List.map encI (v0_c.pc)),AV.sl 1 (List.map encRow (v0_c.regs)),AV.sl 1 (List.map encI (v0_c.mem)),AV.sl 1 (List.map encBuf (v0_c.buf))]]) (fun v=>(bA v,[])) (fun k s=>ref09_Light_L1 n v0_c k s) (fun s=>rfl) o26 n 0 (fun _=>0) ho26 ?_ ?_
 intro k19 s18 a20 K21 cont22 hK23 hcont24 h hr25
 replace h:ref09_Light_L1 n v0_c (k19+1) s18=some o26:=h
 rw [ref09_Light_L1] at h
 conv=>lhs;whnf
 revert h
 refine br ?_ ?_
 refine ix ?_;intro x28
 refine br ?_ ?_
 intro h;cases sj h
 refine (hK23 _ _).trans ?_
 refine Eq.trans ?_ (Eq.symm (show _=some _ from hr25))
 conv=>lhs;whnf
 exact rq
 exact fun h=>cq (hcont24 (IntKind.i64.wrap (s18+1)) (fun _=>0) h)
 intro h;cases sj h
 exact kq (hr25 (fun _=>0))
 refine lrc ?_ ?_
 intro v e;subst e;cases sj h;rfl
 intro t a30 e;subst e
 dsimp only at h
 conv=>lhs;whnf
 revert h
 exact rz

theorem ok_ref09_Same {n:Nat} ⦃v0_a:ConfS⦄ ⦃v1_b:ConfS⦄ ⦃r:Bool⦄:m_ref09_Same n v0_a v1_b=some r→CN n 14 [AV.agg [AV.sl 1 (List.map encI (v0_a.pc)),AV.sl 1 (List.map encRow (v0_a.regs)),AV.sl 1 (List.map encI (v0_a.mem)),AV.sl 1 (List.map encBuf (v0_a.buf))],AV.agg [AV.sl 1 (List.map encI (v1_b.pc)),AV.sl 1 (List.map encRow (v1_b.regs)),AV.sl 1 (List.map encI (v1_b.mem)),AV.sl 1 (List.map encBuf (v1_b.buf))]] []=some (bA r,[]):=by
 intro h;rcases n with _|n;cases h
 rw [m_ref09_Same] at h
 refine callN_eq' Try.func14 (by rfl) rfl rfl (Nat.le_of_ble_eq_true rfl) ?_
 intro call hc;conv=>lhs;whnf
 revert h
 refine ca hc (fun _ h=>ok_ref07_Ints h) ?_;intro y1
 refine br ?_ ?_
 refine ca hc (fun _ h=>ok_ref07_Ints h) ?_;intro y4
 refine br ?_ ?_
 refine br ?_ ?_
 exact rz
 refine br ?_ ?_
 exact rz
 intro h;refine bind_some2 h ?_;clear h;intro o17 ho17 h
 refine lq (σ:=Int) (τ:=Unit) (ν:=Bool) 0 (fun s9 a11=>stOf 77 [(2,AV.ptr 0 0),(3,AV.ptr 1 0),(5,iA s9)]) (fun s9 a11=>[Ob.var 31 [AV.sl 1 (List.map encI (v0_a.pc)),AV.sl 1 (List.map encRow (v0_a.regs)),AV.sl 1 (List.map encI (v0_a.mem)),AV.sl 1 (List.map encBuf (v0_a.buf))],Ob.var 31 [AV.sl 1 (List.map encI (v1_b.pc)),AV.sl 1 (List.map encRow (v1_b.regs)),AV.sl 1 (List.map encI (v1_b.mem)),AV.sl 1 (List.map encBuf (v1_b.buf))]]) (fun _ a24=>stOf 77 [(2,AV.ptr 0 0),(3,AV.ptr 1 0)]) (fun _ a24=>[Ob.var 31 [AV.sl 1 (List.map encI (v0_a.pc)),AV.sl 1 (List.map encRow (v0_a.regs)),AV.sl 1 (List.map encI (v0_a.mem)),AV.sl 1 (List.map encBuf (v0_a.buf))],Ob.var 31 [AV.sl 1 (List.map encI (v1_b.pc)),AV.sl 1 (List.map encRow (v1_b.regs)),AV.sl 1 (List.map encI (v1_b.mem)),AV.sl 1 (List.map encBuf (v1_b.buf))]]) (fun v=>(bA v,[])) (fun k s=>ref09_Same_L0 n v0_a v1_b k s) (fun s=>rfl) o17 n 0 (fun _=>0) ho17 ?_ ?_
 intro k10 s9 a11 K12 cont13 hK14 hcont15 h hr16
 replace h:ref09_Same_L0 n v0_a v1_b (k10+1) s9=some o17:=h
 rw [ref09_Same_L0] at h
 conv=>lhs;whnf
 revert h
 refine br ?_ ?_
 refine ix ?_;intro x19
 refine ix ?_;intro x20
 refine ca hc (fun _ h=>ok_ref07_Ints h) ?_;intro y21
 refine br ?_ ?_
 exact fun h=>cq (hcont15 (IntKind.i64.wrap (s9+1)) (fun _=>0) h)
 intro h;cases sj h
 refine (hK14 _ _).trans ?_
 refine Eq.trans ?_ (Eq.symm (show _=some _ from hr16))
 conv=>lhs;whnf
 exact rq
 intro h;cases sj h
 exact kq (hr16 (fun _=>0))
 refine lrc ?_ ?_
 intro v e;subst e;cases sj h;rfl
 intro t a24 e;subst e
 dsimp only at h
 conv=>lhs;whnf
 revert h
 intro h;refine bind_some2 h ?_;clear h;intro o33 ho33 h
 refine lq (σ:=Int) (τ:=Unit) (ν:=Bool) 2 (fun s25 a27=>stOf 77 [(2,AV.ptr 0 0),(3,AV.ptr 1 0),(6,iA s25)]) (fun s25 a27=>[Ob.var 31 [AV.sl 1 (List.map encI (v0_a.pc)),AV.sl 1 (List.map encRow (v0_a.regs)),AV.sl 1 (List.map encI (v0_a.mem)),AV.sl 1 (List.map encBuf (v0_a.buf))],Ob.var 31 [AV.sl 1 (List.map encI (v1_b.pc)),AV.sl 1 (List.map encRow (v1_b.regs)),AV.sl 1 (List.map encI (v1_b.mem)),AV.sl 1 (List.map encBuf (v1_b.buf))]]) (fun _ a40=>stOf 77 []) (fun _ a40=>[Ob.var 31 [AV.sl 1 (List.map encI (v0_a.pc)),AV.sl 1 (List.map encRow (v0_a.regs)),AV.sl 1 (List.map encI (v0_a.mem)),AV.sl 1 (List.map encBuf (v0_a.buf))],Ob.var 31 [AV.sl 1 (List.map encI (v1_b.pc)),AV.sl 1 (List.map encRow (v1_b.regs)),AV.sl 1 (List.map encI (v1_b.mem)),AV.sl 1 (List.map encBuf (v1_b.buf))]]) (fun v=>(bA v,[])) (fun k s=>ref09_Same_L1 n v0_a v1_b k s) (fun s=>rfl) o33 n 0 (fun _=>0) ho33 ?_ ?_
 intro k26 s25 a27 K28 cont29 hK30 hcont31 h hr32
 replace h:ref09_Same_L1 n v0_a v1_b (k26+1) s25=some o33:=h
 rw [ref09_Same_L1] at h
 conv=>lhs;whnf
 revert h
 refine br ?_ ?_
 refine ix ?_;intro x35
 refine ix ?_;intro x36
 refine ca hc (fun _ h=>ok_ref08_Same h) ?_;intro y37
 refine br ?_ ?_
 exact fun h=>cq (hcont31 (IntKind.i64.wrap (s25+1)) (fun _=>0) h)
 intro h;cases sj h
 refine (hK30 _ _).trans ?_
 refine Eq.trans ?_ (Eq.symm (show _=some _ from hr32))
 conv=>lhs;whnf
 exact rq
 intro h;cases sj h
 exact kq (hr32 (fun _=>0))
 refine lrc ?_ ?_
 intro v e;subst e;cases sj h;rfl
 intro t a40 e;subst e
 dsimp only at h
 conv=>lhs;whnf
 revert h
 exact rz
 exact rz
 exact rz

theorem ok_ref09_Copy {n:Nat} ⦃v0_c:ConfS⦄ ⦃r:ConfS⦄:m_ref09_Copy n v0_c=some r→CN n 17 [AV.agg [AV.sl 1 (List.map encI (v0_c.pc)),AV.sl 1 (List.map encRow (v0_c.regs)),AV.sl 1 (List.map encI (v0_c.mem)),AV.sl 1 (List.map encBuf (v0_c.buf))]] []=some (AV.agg [AV.sl 1 (List.map encI (r.pc)),AV.sl 1 (List.map encRow (r.regs)),AV.sl 1 (List.map encI (r.mem)),AV.sl 1 (List.map encBuf (r.buf))],[]):=by
 intro h;rcases n with _|n;cases h
 rw [m_ref09_Copy] at h
 refine callN_eq' Try.func17 (by rfl) rfl rfl (Nat.le_of_ble_eq_true rfl) ?_
 intro call hc;conv=>lhs;whnf
 revert h
 refine cn ?_
 refine cn ?_
 intro h;refine bind_some2 h ?_;clear h;intro o12 ho12 h
 refine lq (σ:=(Int×(List (List Int)))) (τ:=(List (List Int))) (ν:=ConfS) 0 (fun (s3,s4) a6=>stOf 62 [(1,AV.ptr 0 0),(2,AV.ptr 1 0),(3,AV.ptr 2 0),(4,iA s3)]) (fun (s3,s4) a6=>[Ob.var 31 [AV.sl 1 (List.map encI (v0_c.pc)),AV.sl 1 (List.map encRow (v0_c.regs)),AV.sl 1 (List.map encI (v0_c.mem)),AV.sl 1 (List.map encBuf (v0_c.buf))],Ob.var 31 [AV.row 3 (List.length (([]:List Int))),AV.row 4 (List.length (([]:List (List Int)))),AV.row 5 (List.length (([]:List Int))),AV.row 6 (List.length (([]:List (List EntryS))))],Ob.var 31 [AV.sl 1 (List.map encI (v0_c.pc)),AV.row 7 (List.length s4),AV.sl 1 (List.map encI (v0_c.mem)),AV.row 8 (List.length (([]:List (List EntryS))))],Ob.row 3 1 ([]),Ob.row 22 1 ([]),Ob.row 3 1 ([]),Ob.row 38 1 ([]),Ob.row 22 1 (List.map encRow s4),Ob.row 38 1 ([])]) (fun x19 a18=>stOf 62 [(1,AV.ptr 0 0),(2,AV.ptr 1 0),(3,AV.ptr 2 0)]) (fun x19 a18=>[Ob.var 31 [AV.sl 1 (List.map encI (v0_c.pc)),AV.sl 1 (List.map encRow (v0_c.regs)),AV.sl 1 (List.map encI (v0_c.mem)),AV.sl 1 (List.map encBuf (v0_c.buf))],Ob.var 31 [AV.row 3 (List.length (([]:List Int))),AV.row 4 (List.length (([]:List (List Int)))),AV.row 5 (List.length (([]:List Int))),AV.row 6 (List.length (([]:List (List EntryS))))],Ob.var 31 [AV.sl 1 (List.map encI (v0_c.pc)),AV.row 7 (List.length x19),AV.sl 1 (List.map encI (v0_c.mem)),AV.row 8 (List.length (([]:List (List EntryS))))],Ob.row 3 1 ([]),Ob.row 22 1 ([]),Ob.row 3 1 ([]),Ob.row 38 1 ([]),Ob.row 22 1 (List.map encRow x19),Ob.row 38 1 ([])]) (fun v=>(AV.agg [AV.sl 1 (List.map encI (v.pc)),AV.sl 1 (List.map encRow (v.regs)),AV.sl 1 (List.map encI (v.mem)),AV.sl 1 (List.map encBuf (v.buf))],[])) (fun k s=>ref09_Copy_L0 n v0_c k s.1 s.2) (fun s=>rfl) o12 n (0,([]:List (List Int))) (fun _=>0) ho12 ?_ ?_
 intro k5 ss a6 K7 cont8 hK9 hcont10 h hr11
 obtain ⟨s3,s4⟩:=ss
 replace h:ref09_Copy_L0 n v0_c (k5+1) s3 s4=some o12:=h
 rw [ref09_Copy_L0] at h
 conv=>lhs;whnf
 revert h
 refine br ?_ ?_
 refine ix ?_;intro x14
 refine cn ?_
 refine ar (ap encRow (List.map encRow s4) s4 ([[AV.sl 1 (List.map encI x14)]]) ([x14]:List (List Int))) ?_
 exact fun h=>cq (hcont10 (IntKind.i64.wrap (s3+1),(s4++([x14]:List (List Int)))) (fun _=>0) h)
 intro h;cases sj h
 exact kq (hr11 (fun _=>0))
 refine lrc ?_ ?_
 intro v e;subst e;cases sj h;rfl
 intro x19 a18 e;subst e
 dsimp only at h
 conv=>lhs;whnf
 revert h
 intro h;refine bind_some2 h ?_;clear h;intro o29 ho29 h
 refine lq (σ:=(Int×(List (List EntryS)))) (τ:=(List (List EntryS))) (ν:=ConfS) 2 (fun (s20,s21) a23=>stOf 62 [(1,AV.ptr 0 0),(2,AV.ptr 1 0),(3,AV.ptr 2 0),(6,iA s20)]) (fun (s20,s21) a23=>[Ob.var 31 [AV.sl 1 (List.map encI (v0_c.pc)),AV.sl 1 (List.map encRow (v0_c.regs)),AV.sl 1 (List.map encI (v0_c.mem)),AV.sl 1 (List.map encBuf (v0_c.buf))],Ob.var 31 [AV.row 3 (List.length (([]:List Int))),AV.row 4 (List.length (([]:List (List Int)))),AV.row 5 (List.length (([]:List Int))),AV.row 6 (List.length (([]:List (List EntryS))))],Ob.var 31 [AV.sl 1 (List.map encI (v0_c.pc)),AV.row 7 (List.length x19),AV.sl 1 (List.map encI (v0_c.mem)),AV.row 8 (List.length s21)],Ob.row 3 1 ([]),Ob.row 22 1 ([]),Ob.row 3 1 ([]),Ob.row 38 1 ([]),Ob.row 22 1 (List.map encRow x19),Ob.row 38 1 (List.map encBuf s21)]) (fun x36 a35=>stOf 62 [(2,AV.ptr 1 0),(3,AV.ptr 2 0)]) (fun x36 a35=>[Ob.var 31 [AV.sl 1 (List.map encI (v0_c.pc)),AV.sl 1 (List.map encRow (v0_c.regs)),AV.sl 1 (List.map encI (v0_c.mem)),AV.sl 1 (List.map encBuf (v0_c.buf))],Ob.var 31 [AV.row 3 (List.length (([]:List Int))),AV.row 4 (List.length (([]:List (List Int)))),AV.row 5 (List.length (([]:List Int))),AV.row 6 (List.length (([]:List (List EntryS))))],Ob.var 31 [AV.sl 1 (List.map encI (v0_c.pc)),AV.row 7 (List.length x19),AV.sl 1 (List.map encI (v0_c.mem)),AV.row 8 (List.length x36)],Ob.row 3 1 ([]),Ob.row 22 1 ([]),Ob.row 3 1 ([]),Ob.row 38 1 ([]),Ob.row 22 1 (List.map encRow x19),Ob.row 38 1 (List.map encBuf x36)]) (fun v=>(AV.agg [AV.sl 1 (List.map encI (v.pc)),AV.sl 1 (List.map encRow (v.regs)),AV.sl 1 (List.map encI (v.mem)),AV.sl 1 (List.map encBuf (v.buf))],[])) (fun k s=>ref09_Copy_L1 n v0_c k s.1 s.2) (fun s=>rfl) o29 n (0,([]:List (List EntryS))) (fun _=>0) ho29 ?_ ?_
 intro k22 ss a23 K24 cont25 hK26 hcont27 h hr28
 obtain ⟨s20,s21⟩:=ss
 replace h:ref09_Copy_L1 n v0_c (k22+1) s20 s21=some o29:=h
 rw [ref09_Copy_L1] at h
 conv=>lhs;whnf
 revert h
 refine br ?_ ?_
 refine ix ?_;intro x31
 refine cn ?_
 refine ar (ap encBuf (List.map encBuf s21) s21 ([[AV.sl 2 (List.map encE x31)]]) ([x31]:List (List EntryS))) ?_
 exact fun h=>cq (hcont27 (IntKind.i64.wrap (s20+1),(s21++([x31]:List (List EntryS)))) (fun _=>0) h)
 intro h;cases sj h
 exact kq (hr28 (fun _=>0))
 refine lrc ?_ ?_
 intro v e;subst e;cases sj h;rfl
 intro x36 a35 e;subst e
 dsimp only at h
 conv=>lhs;whnf
 revert h
 intro h;cases sj h
 try simp only [ls]
 exact fq (y:=some (AV.agg [AV.sl 1 (List.map encI (v0_c.pc)),AV.sl 1 (List.take (List.length x19) (List.map encRow x19)),AV.sl 1 (List.map encI (v0_c.mem)),AV.sl 1 (List.take (List.length x36) (List.map encBuf x36))],[]))

end Go.Proofs.Ytejkhpgahnncnaa
end

section
namespace Go.Proofs.Ytejkhpgahnncnaa
set_option linter.unusedVariables false
set_option linter.unusedSimpArgs false

theorem cints_m (n : Nat) (a b : List Int) (hn : a.length + 1 < n) (ha : a.length ≤ 1000000) : m_conf_same_int n a b = some (a == b) := by
  obtain ⟨n, rfl⟩ : ∃ j, n = j + 1 := ⟨n - 1, by omega⟩
  simp only [m_conf_same_int, natNe]
  cases hl : a.length == b.length with
  | false => rw [beq_len hl]; rfl
  | true =>
    have hl := eq_of_beq hl
    have hL : conf_same_int_L0 n a b n 0 = some (bif (List.range' 0 a.length).all (eqAt a b) then .out () else .ret false) := by
      refine all_loop0 (L := fun k i => conf_same_int_L0 n a b k i) a.length _ (fun k i hi => ?_) (fun k => ?_) (by omega)
      · have hlen : (i : Int) < (a.length : Int) := by omega
        have hi2 : i < b.length := by omega
        simp only [conf_same_int_L0, bif_decide hlen, idx_get hi, idx_get hi2, Option.bind_some, wrap_one i (by omega), eqAt, List.getElem?_eq_getElem hi, List.getElem?_eq_getElem hi2, bne]
        cases a[i] == b[i] <;> rfl
      · simp only [conf_same_int_L0, bif_not (Int.lt_irrefl _)]
    simp only [Bool.not_true, cond_false, hL, Option.bind_some, eqAt_all hl]
    cases a == b <;> rfl
theorem cents_m (n : Nat) (a b : List EntryS) (hn : a.length + 1 < n) (ha : a.length ≤ 1000000) : m_conf_same_api_Entry n a b = some (a == b) := by
  obtain ⟨n, rfl⟩ : ∃ j, n = j + 1 := ⟨n - 1, by omega⟩
  simp only [m_conf_same_api_Entry, natNe]
  cases hl : a.length == b.length with
  | false => rw [beq_len hl]; rfl
  | true =>
    have hl := eq_of_beq hl
    have hL : conf_same_api_Entry_L0 n a b n 0 = some (bif (List.range' 0 a.length).all (eqAt a b) then .out () else .ret false) := by
      refine all_loop0 (L := fun k i => conf_same_api_Entry_L0 n a b k i) a.length _ (fun k i hi => ?_) (fun k => ?_) (by omega)
      · have hlen : (i : Int) < (a.length : Int) := by omega
        have hi2 : i < b.length := by omega
        have e : ∀ x y : EntryS, ((x.loc == y.loc) && ((x.n == y.n) && true)) = (x == y) := by
          intro x y
          rw [Bool.eq_iff_iff]
          cases x; cases y
          simp
        simp only [conf_same_api_Entry_L0, bif_decide hlen, idx_get hi, idx_get hi2, Option.bind_some, wrap_one i (by omega), eqAt, List.getElem?_eq_getElem hi, List.getElem?_eq_getElem hi2, e]
      · simp only [conf_same_api_Entry_L0, bif_not (Int.lt_irrefl _)]
    simp only [Bool.not_true, cond_false, hL, Option.bind_some, eqAt_all hl]
    cases a == b <;> rfl
theorem crows_m (n : Nat) (a b : List (List Int)) (hn : 500 < n) (h1 : a.length ≤ 8) (h2 : ∀ i (hi : i < a.length), a[i].length ≤ 20) : m_conf_all_int n a b = some (a == b) := by
  obtain ⟨n, rfl⟩ : ∃ j, n = j + 1 := ⟨n - 1, by omega⟩
  simp only [m_conf_all_int, natNe]
  cases hl : a.length == b.length with
  | false => rw [beq_len hl]; rfl
  | true =>
    have hl := eq_of_beq hl
    have hL : conf_all_int_L0 n a b n 0 = some (bif (List.range' 0 a.length).all (eqAt a b) then .out () else .ret false) := by
      refine all_loop0 (L := fun k i => conf_all_int_L0 n a b k i) a.length _ (fun k i hi => ?_) (fun k => ?_) (by omega)
      · have hlen : (i : Int) < (a.length : Int) := by omega
        have hi2 : i < b.length := by omega
        have := h2 i hi
        simp only [conf_all_int_L0, bif_decide hlen, idx_get hi, idx_get hi2, Option.bind_some, wrap_one i (by omega), eqAt, List.getElem?_eq_getElem hi, List.getElem?_eq_getElem hi2, cints_m n a[i] b[i] (by omega) (by omega)]
      · simp only [conf_all_int_L0, bif_not (Int.lt_irrefl _)]
    simp only [Bool.not_true, cond_false, hL, Option.bind_some, eqAt_all hl]
    cases a == b <;> rfl
theorem cbufs_m (n : Nat) (a b : List (List EntryS)) (hn : 500 < n) (h1 : a.length ≤ 8) (h2 : ∀ i (hi : i < a.length), a[i].length ≤ 300) : m_conf_all_api_Entry n a b = some (a == b) := by
  obtain ⟨n, rfl⟩ : ∃ j, n = j + 1 := ⟨n - 1, by omega⟩
  simp only [m_conf_all_api_Entry, natNe]
  cases hl : a.length == b.length with
  | false => rw [beq_len hl]; rfl
  | true =>
    have hl := eq_of_beq hl
    have hL : conf_all_api_Entry_L0 n a b n 0 = some (bif (List.range' 0 a.length).all (eqAt a b) then .out () else .ret false) := by
      refine all_loop0 (L := fun k i => conf_all_api_Entry_L0 n a b k i) a.length _ (fun k i hi => ?_) (fun k => ?_) (by omega)
      · have hlen : (i : Int) < (a.length : Int) := by omega
        have hi2 : i < b.length := by omega
        have := h2 i hi
        simp only [conf_all_api_Entry_L0, bif_decide hlen, idx_get hi, idx_get hi2, Option.bind_some, wrap_one i (by omega), eqAt, List.getElem?_eq_getElem hi, List.getElem?_eq_getElem hi2, cents_m n a[i] b[i] (by omega) (by omega)]
      · simp only [conf_all_api_Entry_L0, bif_not (Int.lt_irrefl _)]
    simp only [Bool.not_true, cond_false, hL, Option.bind_some, eqAt_all hl]
    cases a == b <;> rfl
theorem csame_m (n : Nat) (a b : ConfS) (hn : 501 < n) (ha : LightC a) : m_conf_Same n a b = some (a == b) := by
  obtain ⟨n, rfl⟩ : ∃ j, n = j + 1 := ⟨n - 1, by omega⟩
  have := ha.pc; have := ha.mem; have := ha.regsN; have := ha.bufN
  have hE : (a == b) = ((a.pc == b.pc) && ((a.mem == b.mem) && ((a.regs == b.regs) && (a.buf == b.buf)))) := by
    rw [Bool.eq_iff_iff]
    cases a; cases b
    simp only [beq_iff_eq, Bool.and_eq_true, ConfS.mk.injEq]
    constructor
    · rintro ⟨h1, h2, h3, h4⟩; exact ⟨h1, h3, h2, h4⟩
    · rintro ⟨h1, h2, h3, h4⟩; exact ⟨h1, h3, h2, h4⟩
  simp only [m_conf_Same, cints_m n a.pc b.pc (by omega) (by omega), cints_m n a.mem b.mem (by omega) (by omega), crows_m n a.regs b.regs (by omega) ha.regsN ha.regs, cbufs_m n a.buf b.buf (by omega) ha.bufN ha.buf, Option.bind_some, hE]
  cases a.pc == b.pc <;> cases a.mem == b.mem <;> cases a.regs == b.regs <;> cases a.buf == b.buf <;> rfl
theorem copy_L0 (n : Nat) (c : ConfS) (hc : LightC c) : ∀ (m k i : Nat) (acc : List (List Int)), i + m = c.regs.length → m < k → acc.length = i → ref09_Copy_L0 n c k (i : Int) acc = some (.out (acc ++ c.regs.drop i)) := by
  have := hc.regsN
  intro m
  induction m with
  | zero =>
    intro k i acc hi hk ha
    obtain ⟨k, rfl⟩ : ∃ j, k = j + 1 := ⟨k - 1, by omega⟩
    have hd : c.regs.drop i = [] := List.drop_of_length_le (by omega)
    have hge : ¬ ((i : Int) < (c.regs.length : Int)) := by omega
    rw [ref09_Copy_L0, bif_not hge, hd]
    simp
  | succ m ih =>
    intro k i acc hi hk ha
    obtain ⟨k, rfl⟩ : ∃ j, k = j + 1 := ⟨k - 1, by omega⟩
    have hlt : i < c.regs.length := by omega
    have hlt' : (i : Int) < (c.regs.length : Int) := by omega
    have h20 := hc.regs i hlt
    have c1 : c.regs[i].length * 9 ≤ 140737488355328 := by omega
    have c2 : (acc.length + 1) * 25 ≤ 140737488355328 := by omega
    have w1 := wrap_one i (by omega)
    rw [ref09_Copy_L0, bif_decide hlt', idx_get hlt, List.drop_eq_getElem_cons hlt]
    simp only [Option.bind_some, bif_decide c1, bif_decide c2, w1]
    rw [ih k (i + 1) _ (by omega) (by omega) (by simp [ha])]
    simp only [List.append_assoc, List.cons_append, List.nil_append]
theorem copy_L1 (n : Nat) (c : ConfS) (hc : LightC c) : ∀ (m k i : Nat) (acc : List (List EntryS)), i + m = c.buf.length → m < k → acc.length = i → ref09_Copy_L1 n c k (i : Int) acc = some (.out (acc ++ c.buf.drop i)) := by
  have := hc.bufN
  intro m
  induction m with
  | zero =>
    intro k i acc hi hk ha
    obtain ⟨k, rfl⟩ : ∃ j, k = j + 1 := ⟨k - 1, by omega⟩
    have hd : c.buf.drop i = [] := List.drop_of_length_le (by omega)
    have hge : ¬ ((i : Int) < (c.buf.length : Int)) := by omega
    rw [ref09_Copy_L1, bif_not hge, hd]
    simp
  | succ m ih =>
    intro k i acc hi hk ha
    obtain ⟨k, rfl⟩ : ∃ j, k = j + 1 := ⟨k - 1, by omega⟩
    have hlt : i < c.buf.length := by omega
    have hlt' : (i : Int) < (c.buf.length : Int) := by omega
    have h20 := hc.buf i hlt
    have c1 : c.buf[i].length * 17 ≤ 140737488355328 := by omega
    have c2 : (acc.length + 1) * 25 ≤ 140737488355328 := by omega
    have w1 := wrap_one i (by omega)
    rw [ref09_Copy_L1, bif_decide hlt', idx_get hlt, List.drop_eq_getElem_cons hlt]
    simp only [Option.bind_some, bif_decide c1, bif_decide c2, w1]
    rw [ih k (i + 1) _ (by omega) (by omega) (by simp [ha])]
    simp only [List.append_assoc, List.cons_append, List.nil_append]
theorem copy_m (n : Nat) (c : ConfS) (hn : 20 < n) (hc : LightC c) : m_ref09_Copy n c = some c := by
  obtain ⟨n, rfl⟩ : ∃ j, n = j + 1 := ⟨n - 1, by omega⟩
  have := hc.pc; have := hc.mem; have := hc.regsN; have := hc.bufN
  have h0 := copy_L0 n c hc c.regs.length n 0 [] (by omega) (by omega) rfl
  have h1 := copy_L1 n c hc c.buf.length n 0 [] (by omega) (by omega) rfl
  have h0 : ref09_Copy_L0 n c n 0 [] = _ := h0
  have h1 : ref09_Copy_L1 n c n 0 [] = _ := h1
  rw [m_ref09_Copy, bif_decide (show c.pc.length * 9 ≤ 140737488355328 by omega), bif_decide (show c.mem.length * 9 ≤ 140737488355328 by omega)]
  simp only [h0, h1, Option.bind_some, List.drop_zero, List.nil_append]
end Go.Proofs.Ytejkhpgahnncnaa
end

section
namespace Go.Proofs.Ytejkhpgahnncnaa
open Go.RowKit
set_option linter.unusedVariables false
set_option linter.unusedSimpArgs false

theorem conf_rep {w : World} {v : Value} {c : ConfS} (h : ConfV w v c) : Rep (SAll w) w [] [] (aC c) v := by
  obtain ⟨vp, vr, vm, vb, rfl, s1, s2, s3, s4⟩ := h
  have one : ∀ {a : AV} {v : Value}, (Reps (SAll w) w [] [] [a] [v] ∧ Ones [v]) → Rep (SAll w) w [] [] a v ∧ v.oneCell' = true := by
    rintro a v ⟨h1, h2⟩
    cases h1 with | cons _ _ _ _ _ _ h _ => exact ⟨h, h2 v (by simp)⟩
  obtain ⟨r1, o1⟩ := one (e_ints w [vp] c.pc s1)
  obtain ⟨r2, o2⟩ := one (e_rows w [vr] c.regs s2)
  obtain ⟨r3, o3⟩ := one (e_ints w [vm] c.mem s3)
  obtain ⟨r4, o4⟩ := one (e_bufs w [vb] c.buf s4)
  refine .agg _ _ _ [vp, vr, vm, vb] (.cons _ _ _ _ _ _ r1 (.cons _ _ _ _ _ _ r2 (.cons _ _ _ _ _ _ r3 (.cons _ _ _ _ _ _ r4 (.nil _ _))))) ?_
  intro x hx
  simp only [List.mem_cons, List.not_mem_nil, or_false] at hx
  rcases hx with rfl | rfl | rfl | rfl <;> assumption
theorem dec_confV {S : Nat → Nat → Prop} {w : World} {v : Value} {c : ConfS} (h : Rep S w [] [] (aC c) v) : ConfV w v c := by
  obtain ⟨vs, hr, _, rfl⟩ := h.agg_inv
  exact conf_of (cs := vs.toArray) (d_conf.2 _ _ _ _ hr)
theorem tell_call {g : FuncId} {args : List AV} {b : Bool} {n : Nat} (h : callN Try.prog HH XT n g args [] = some (.bool b, [])) {w : World} {vs : List Value} (hr : Reps (SAll w) w [] [] args vs) : Calls Try.prog g vs.toArray w (BoolBelow b w) := by
  refine (cN_sound XT_sound n false g args [] _ _ h w.heap.size (SAll w) w [] vs (sim_all w) hr).mono ?_
  rintro e w' ⟨u, S', φ', rfl, hu, _, ht⟩
  exact ⟨by rw [hu.bool_inv], ht.below⟩
theorem csame_any {w : World} {va vb : Value} {a b : ConfS} (ha : ConfV w va a) (hb : ConfV w vb b) (hl : LightC a) : Calls Try.prog 18 #[va, vb] w (BoolBelow (a == b) w) :=
  tell_call (ok_conf_Same (csame_m 600 a b (by decide) hl)) (.cons _ _ _ _ _ _ (conf_rep ha) (.cons _ _ _ _ _ _ (conf_rep hb) (.nil _ _)))
theorem rsame_any {w : World} {va vb : Value} {a b : ConfS} (ha : ConfV w va a) (hb : ConfV w vb b) (hl : LightC a) : Calls Try.prog 14 #[va, vb] w (BoolBelow (a == b) w) :=
  tell_call (ok_ref09_Same (same_m 600 a b (by decide) hl)) (.cons _ _ _ _ _ _ (conf_rep ha) (.cons _ _ _ _ _ _ (conf_rep hb) (.nil _ _)))
theorem clight_any (c : ConfS) : ∃ b : Bool, (b = true → LightC c) ∧ ∀ (w : World) (v : Value), ConfV w v c → Calls Try.prog 15 #[v] w (BoolBelow b w) := by
  obtain ⟨b, h, hl⟩ := light_m 600 c (by decide)
  exact ⟨b, hl, fun w v hv => tell_call (ok_ref09_Light h) (.cons _ _ _ _ _ _ (conf_rep hv) (.nil _ _))⟩
/-- The document's copy, made of what was there at a beginning: it lies there, or in what is new. -/
theorem rcopy_any {w0 w : World} {v : Value} {c : ConfS} (h : ConfV w0 v c) (hb : Below w0.heap.size w0 w) (hl : LightC c) : Calls Try.prog 17 #[v] w fun e w' => ∃ u, e = .returned u ∧ Below w.heap.size w w' ∧ (∃ vp vr vm vb, u = .agg #[vp, vr, vm, vb] ∧ vp.oneCell' = true ∧ vr.oneCell' = true ∧ vm.oneCell' = true ∧ vb.oneCell' = true) ∧ ∀ w2 : World, (∀ b, b < w0.heap.size ∨ w.heap.size ≤ b → b < w'.heap.size → w2.heap[b]? = w'.heap[b]?) → ConfV w2 u c := by
  have hs : Sim Try.prog w.heap.size (SAll w0) w [] [] := ⟨rfl, Nat.le_refl _, fun b o h => by
    have h1 := stay_below hb h
    obtain ⟨x, hx⟩ := h
    have := hb.size
    exact ⟨x, h1.trans hx, fun hb => absurd (cell_lt hx) (by omega)⟩, fun id o ho => by simp at ho, fun i j b hi => by simp [blockAt] at hi⟩
  have hr : Rep (SAll w0) w [] [] (aC c) v := Rep.mono (fun b o h => ⟨h, stay_below hb h⟩) (conf_rep h) (.refl _ _)
  refine (cN_sound XT_sound 600 false _ _ [] _ _ (ok_ref09_Copy (copy_m 600 c (by decide) hl)) w.heap.size (SAll w0) w [] [v] hs (.cons _ _ _ _ _ _ hr (.nil _ _))).mono ?_
  rintro e w' ⟨u, S', φ', rfl, hu, hs', ht⟩
  have hφ : φ' = [] := List.eq_nil_of_length_eq_zero hs'.len
  subst hφ
  refine ⟨u, rfl, ht.below, ?_, fun w2 h2 => ?_⟩
  · obtain ⟨vs, r, ho, rfl⟩ := hu.agg_inv
    cases r with | cons _ _ _ x0 _ _ _ r =>
    cases r with | cons _ _ _ x1 _ _ _ r =>
    cases r with | cons _ _ _ x2 _ _ h r =>
    cases r with | cons _ _ _ x3 _ _ _ r =>
    cases r
    exact ⟨x0, x1, x2, x3, rfl, ho x0 (by simp), ho x1 (by simp), ho x2 (by simp), ho x3 (by simp)⟩
  · refine dec_confV (S := S') (Rep.mono (fun b o h => ⟨h, stay_heap (h2 b ?_ ?_) o⟩) hu (.refl _ _))
    · rcases ht.new b o h with ⟨x, hx⟩ | h
      · exact .inl (cell_lt hx)
      · exact .inr h
    · obtain ⟨x, hx, _⟩ := hs'.cell b o h
      exact cell_lt hx

/-- A block of numbers, or of entries, between two bounds. -/
def LeafAt (lo hi : Nat) (w : World) (b : Nat) : Prop := lo ≤ b ∧ b < hi ∧ ∃ cs E, w.heap[b]? = some (.cells cs E (0, 0)) ∧ (E = 3 ∨ E = 40)
/-- What may have been spoilt: the cells of such blocks. -/
structure Sp (lo hi : Nat) (w5 w : World) : Prop where
  below : Below lo w5 w
  heap : ∀ b, ¬ LeafAt lo hi w5 b → w.heap[b]? = w5.heap[b]?
  shape : ∀ (b : Nat) cs E, w5.heap[b]? = some (.cells cs E (0, 0)) → ∃ cs', cs'.size = cs.size ∧ w.heap[b]? = some (.cells cs' E (0, 0))
theorem Sp.refl (lo hi : Nat) (w : World) : Sp lo hi w w := ⟨Below.refl _ _, fun _ _ => rfl, fun b cs E h => ⟨cs, rfl, h⟩⟩
theorem Sp.set {lo hi : Nat} {w5 w : World} (h : Sp lo hi w5 w) {p : Addr} (hl : LeafAt lo hi w5 p.block) (v : Value) : Sp lo hi w5 (w.setCell p v) := by
  refine ⟨h.below.setCell hl.1 v, fun b hb => ?_, fun b cs E hb => ?_⟩
  · have hne : b ≠ p.block := by rintro rfl; exact hb hl
    exact (Below.heap_setCell w p v b hne).trans (h.heap b hb)
  · obtain ⟨cs', e1, e2⟩ := h.shape b cs E hb
    by_cases hbp : b = p.block
    · subst hbp
      refine ⟨if p.spot.isSome then cs' else cs'.setIfInBounds p.off v, by split <;> simp [e1], ?_⟩
      simp [World.setCell, Array.getElem?_modify, e2]
    · exact ⟨cs', e1, (Below.heap_setCell w p v b hbp).trans e2⟩
theorem Sp.cell {lo hi : Nat} {w5 w : World} (h : Sp lo hi w5 w) {b o : Nat} {v : Value} (hb : ¬ LeafAt lo hi w5 b) (hv : w5.cell? ⟨b, o, none⟩ = some v) : w.cell? ⟨b, o, none⟩ = some v :=
  (World.cell?_of_block (a := ⟨b, o, none⟩) (h.heap b hb)).trans hv
theorem not_leaf {lo hi : Nat} {w : World} {b : Nat} {cs : Array Value} {E : TypeId} (h : w.heap[b]? = some (.cells cs E (0, 0))) (h1 : E ≠ 3) (h2 : E ≠ 40) : ¬ LeafAt lo hi w b := by
  rintro ⟨_, _, cs', E', h', hE⟩
  rw [h] at h'
  obtain ⟨_, rfl⟩ : cs = cs' ∧ E = E' := by simpa using h'
  exact hE.elim h1 h2
/-- A header's cell. -/
theorem Sp.head {lo hi : Nat} {w5 w : World} (h : Sp lo hi w5 w) {B : Nat} {e : TypeId} {n m cap : Nat} {a : Option Addr} {vals : List Value} (ho : w5.ownsRow B e 1 (.slice a m cap) n vals) (h1 : e ≠ 3) (h2 : e ≠ 40) {i : Nat} {x : Value} (hx : vals[i]? = some x) : m = n ∧ ∃ g, a = some ⟨g, 0, none⟩ ∧ w.cell? ⟨g, i, none⟩ = some x := by
  have hi : i < n := by have := (List.getElem?_eq_some_iff.1 hx).1; have := ho.1; omega
  rcases owns_split ho with ⟨_, h0⟩ | ⟨g, cap', ex, hv, hg, hgg, h3, h4, _⟩
  · omega
  · obtain ⟨rfl, rfl, rfl⟩ := Value.slice.inj hv
    refine ⟨rfl, g, rfl, h.cell (not_leaf hgg h1 h2) ?_⟩
    have h5 : (vals ++ ex)[i]? = some x := by rw [List.getElem?_append_left (List.getElem?_eq_some_iff.1 hx).1]; exact hx
    simp only [World.cell?, hgg]
    simpa using h5
/-- A row's cell that may be spoilt. -/
theorem Sp.live {lo hi : Nat} {w5 w : World} (h : Sp lo hi w5 w) {e : TypeId} {size n m cap : Nat} {a : Option Addr} {xs : List Value} (ho : w5.ownsRow lo e size (.slice a m cap) n xs) {i : Nat} (hi' : i < n * size) (hh : w5.heap.size ≤ hi ∨ ∀ g, (Value.slice a m cap).ownBlock = some g → g < hi) (he : e = 3 ∨ e = 40) :
    m = n ∧ ∃ g, a = some ⟨g, 0, none⟩ ∧ LeafAt lo hi w5 g ∧ ∃ old, w.cell? ⟨g, i, none⟩ = some old ∧ w.frozen? ⟨g, i, none⟩ = false := by
  rcases ho.2 with ⟨_, h0⟩ | ⟨g, cap', cur, hv, hg, hgg, h1, h2, h3, h4⟩
  · subst h0; omega
  · obtain ⟨rfl, rfl, rfl⟩ := Value.slice.inj hv
    have hlt : g < hi := by
      rcases hh with hh | hh
      · have := (Array.getElem?_eq_some_iff.1 hgg).1; omega
      · exact hh g rfl
    refine ⟨rfl, g, rfl, ⟨hg, hlt, cur, e, hgg, he⟩, ?_⟩
    obtain ⟨cs', e1, e2⟩ := h.shape g cur e hgg
    have hi2 : i < cs'.size := by rw [e1, h3]; exact Nat.lt_of_lt_of_le hi' (Nat.mul_le_mul_right _ h1)
    exact ⟨cs'[i], by simp [World.cell?, e2, hi2], by simp [World.frozen?, e2]⟩
theorem sl_owns {α : Type} {r : Rd α} {cells : α → List Value} (hlen : ∀ x, (cells x).length = r.size) {w : World} {B : Nat} {e : TypeId} {v : Value} {l : List α} (ho : w.ownsRow B e r.size v l.length (l.flatMap cells)) (hr : ∀ x ∈ l, r.rel w (cells x) x) : Sl r w v l := by
  rcases owns_split ho with ⟨rfl, h0⟩ | ⟨g, cap, ex, rfl, hg, hh, hc, hm, _⟩
  · exact ⟨none, 0, by rw [h0], ⟨by omega, by decide, fun _ => rfl⟩, fun k hk => by omega⟩
  · refine ⟨some ⟨g, 0, none⟩, cap, rfl, ⟨hc, hm, fun h => by cases h⟩, fun k hk => ⟨g, 0, cells l[k], rfl, hlen _, fun j u hj => ?_, hr _ (List.getElem_mem hk)⟩⟩
    have hjl : j < r.size := by rw [← hlen l[k]]; exact (List.getElem?_eq_some_iff.1 hj).1
    have h1 := flat_at cells r.size hlen l k hk j hjl
    rw [hj] at h1
    have h2 : (l.flatMap cells ++ ex)[k * r.size + j]? = some u := by rw [List.getElem?_append_left (List.getElem?_eq_some_iff.1 h1).1]; exact h1
    simp only [World.cell?, hh]
    rw [Nat.zero_add]
    simpa using h2
theorem sl_rows {α : Type} {r : Rd α} {w : World} {B : Nat} {eT e : TypeId} {size : Nat} {v : Value} {vals : List Value} {f : List α → List Value} {l : List (List α)} (h : RowsAt B w eT e size v vals (l.map f)) (hr : ∀ (k : Nat) (hk : k < l.length) (x : Value), vals[k]? = some x → (∃ m, w.ownsRow B e size x m (f l[k])) → Sl r w x l[k]) : Sl (rSlice r) w v l := by
  have hl := h.len
  rw [List.length_map] at hl
  have ho := h.own
  rw [List.length_map] at ho
  rcases owns_split ho with ⟨rfl, h0⟩ | ⟨g, cap, ex, rfl, hg, hh, hc, hm, _⟩
  · exact ⟨none, 0, by rw [h0], ⟨by omega, by decide, fun _ => rfl⟩, fun k hk => by omega⟩
  · refine ⟨some ⟨g, 0, none⟩, cap, rfl, ⟨hc, hm, fun h => by cases h⟩, fun k hk => ?_⟩
    have hk' : k < vals.length := by omega
    have hx : vals[k]? = some vals[k] := List.getElem?_eq_getElem hk'
    refine ⟨g, 0, [vals[k]], rfl, rfl, fun j u hj => ?_, ?_⟩
    · have hj0 : j = 0 := by have := (List.getElem?_eq_some_iff.1 hj).1; simpa using this
      subst hj0
      obtain rfl : vals[k] = u := by simpa using hj
      have h2 : (vals ++ ex)[k]? = some vals[k] := by rw [List.getElem?_append_left hk']; exact hx
      simp only [World.cell?, hh]
      rw [show 0 + k * (rSlice r).size + 0 = k by show 0 + k * 1 + 0 = k; omega]
      simpa using h2
    · exact hr k hk _ hx (h.row k _ _ hx (by rw [List.getElem?_map, List.getElem?_eq_getElem hk]; rfl))
theorem rI_rel {w : World} {x : Int} (h : -9223372036854775808 ≤ x ∧ x ≤ 9223372036854775807) : rI.rel w [.int .i64 x] x := by
  refine ⟨rfl, ?_⟩
  rw [Lit.wf, Bool.and_eq_true]
  exact ⟨decide_eq_true h.1, decide_eq_true h.2⟩
theorem owns_len {w : World} {B : Nat} {e : TypeId} {size n : Nat} {v : Value} {xs : List Value} (h : w.ownsRow B e size v n xs) (hs : 0 < size) {k : Nat} (hx : xs.length = k * size) : n = k := by
  have := h.1
  rw [hx] at this
  exact (Nat.eq_of_mul_eq_mul_right hs this).symm
theorem flat_one : ∀ l : List Int, l.flatMap (fun x => [Value.int .i64 x]) = l.map (Value.int .i64)
  | [] => rfl
  | x :: l => by simp [flat_one l]
/-- Such a copy reads as what was copied. -/
theorem CopyIs.conf {B : Nat} {w w0 : World} {c : ConfS} {vp vr vm vb v : Value} {xr xb : List Value} (h : CopyIs B w c vp vr vm vb xr xb) (hv : ConfV w0 v c) : ConfV w (.agg #[vp, vr, vm, vb]) c := by
  obtain ⟨_, _, _, _, _, s1, s2, s3, s4⟩ := hv
  have ints : ∀ {l : List Int} {v x : Value} {n : Nat}, Sl rI w0 v l → w.ownsRow B 3 1 x n (l.map (Value.int .i64)) → Sl rI w x l := by
    intro l v x n hs ho
    obtain rfl := owns_len ho (by decide) (k := l.length) (by simp)
    have e : l.flatMap (fun x => [Value.int .i64 x]) = l.map (Value.int .i64) := flat_one l
    refine sl_owns (cells := fun x => [Value.int .i64 x]) (fun _ => rfl) (by rw [e]; exact ho) fun x hx => ?_
    obtain ⟨i, hi, rfl⟩ := List.getElem_of_mem hx
    obtain ⟨a, cap, _, h1⟩ := ints_view hs
    obtain ⟨_, _, _, _, b1, b2⟩ := h1 i hi
    exact rI_rel ⟨b1, b2⟩
  have ents : ∀ {l : List EntryS} {v x : Value} {n : Nat}, Sl rEntry w0 v l → w.ownsRow B 40 2 x n (l.flatMap entC) → Sl rEntry w x l := by
    intro l v x n hs ho
    obtain rfl := owns_len ho (by decide) (k := l.length) (flat_length entC 2 entC_len l)
    refine sl_owns (r := rEntry) (cells := entC) (fun _ => rfl) ho fun x hx => ?_
    obtain ⟨i, hi, rfl⟩ := List.getElem_of_mem hx
    obtain ⟨a, cap, _, h1⟩ := entries_view hs
    obtain ⟨_, _, _, _, _, b1, b2⟩ := h1 i hi
    exact ⟨(l[i].loc, l[i].n), ⟨rI_rel b1, rI_rel b2⟩, rfl⟩
  refine ⟨vp, vr, vm, vb, rfl, ints s1 h.pc, sl_rows h.regs fun k hk x hx ⟨m, hm⟩ => ?_, ints s3 h.mem, sl_rows h.buf fun k hk x hx ⟨m, hm⟩ => ?_⟩
  · obtain ⟨a, cap, _, h1⟩ := slices_view s2
    obtain ⟨_, _, u, _, _, hu⟩ := h1 k hk
    exact ints hu hm
  · obtain ⟨a, cap, _, h1⟩ := slices_view s4
    obtain ⟨_, _, u, _, _, hu⟩ := h1 k hk
    exact ents hu hm
end Go.Proofs.Ytejkhpgahnncnaa
end

section
namespace Go.Proofs.Ytejkhpgahnncnaa
open Go.RowKit
set_option linter.unusedVariables false
set_option linter.unusedSimpArgs false

theorem owns_form {w : World} {B : Nat} {e : TypeId} {size n : Nat} {v : Value} {xs : List Value} (h : w.ownsRow B e size v n xs) : ∃ a c, v = .slice a n c := by
  rcases h.2 with ⟨rfl, rfl⟩ | ⟨g, cap, cur, rfl, _⟩ <;> exact ⟨_, _, rfl⟩
theorem CopyIs.below {B : Nat} {w w' : World} {c : ConfS} {vp vr vm vb : Value} {xr xb : List Value} (h : CopyIs B w c vp vr vm vb xr xb) (hb : Below w.heap.size w w') : CopyIs B w' c vp vr vm vb xr xb :=
  ⟨owns_below h.pc hb, h.regs.below hb, owns_below h.mem hb, h.buf.below hb⟩
theorem ConfV.form {w : World} {v : Value} {c : ConfS} (h : ConfV w v c) : ∃ a1 c1 a2 c2 a3 c3 a4 c4, v = .agg #[.slice a1 c.pc.length c1, .slice a2 c.regs.length c2, .slice a3 c.mem.length c3, .slice a4 c.buf.length c4] := by
  obtain ⟨vp, vr, vm, vq, rfl, s1, s2, s3, s4⟩ := h
  obtain ⟨a1, c1, rfl, _⟩ := ints_view s1
  obtain ⟨a2, c2, rfl, _⟩ := slices_view s2
  obtain ⟨a3, c3, rfl, _⟩ := ints_view s3
  obtain ⟨a4, c4, rfl, _⟩ := slices_view s4
  exact ⟨_, _, _, _, _, _, _, _, rfl⟩
theorem four_cells {w : World} {B : Nat} {x0 x1 x2 x3 : Value} {E : TypeId} (h : Fresh w B (.cells #[x0, x1, x2, x3] E)) : w.cell? ⟨B, 0, none⟩ = some x0 ∧ w.cell? ⟨B, 1, none⟩ = some x1 ∧ w.cell? ⟨B, 2, none⟩ = some x2 ∧ w.cell? ⟨B, 3, none⟩ = some x3 := by
  unfold Fresh at h
  simp [World.cell?, h]
set_option maxRecDepth 100000 in
set_option maxHeartbeats 8000000 in
theorem confSame_walk (W : World) (va vb : Value) (a b : ConfS) (ha : ConfV W va a) (hb : ConfV W vb b) : Calls Try.prog 4 #[va, vb] W (LawOk W) := by
  obtain ⟨la, hla, cla⟩ := clight_any a
  obtain ⟨lb, hlb, clb⟩ := clight_any b
  have HA := Lib.hid ha; have HB := Lib.hid hb
  have CA := Lib.hid cla; have CB := Lib.hid clb
  have LA := Lib.hid hla; have LB := Lib.hid hlb
  obtain ⟨vp, vr, vm, vq, rfl, s1, s2, s3, s4⟩ := ha
  obtain ⟨a1, c1, rfl, _⟩ := ints_view s1
  obtain ⟨a2, c2, rfl, _⟩ := slices_view s2
  obtain ⟨a3, c3, rfl, _⟩ := ints_view s3
  obtain ⟨a4, c4, rfl, _⟩ := slices_view s4
  clear s1 s2 s3 s4
  obtain ⟨vp, vr, vm, vq, rfl, s1, s2, s3, s4⟩ := hb
  obtain ⟨b1, d1, rfl, _⟩ := ints_view s1
  obtain ⟨b2, d2, rfl, _⟩ := slices_view s2
  obtain ⟨b3, d3, rfl, _⟩ := ints_view s3
  obtain ⟨b4, d4, rfl, _⟩ := slices_view s4
  clear s1 s2 s3 s4 cla clb hla hlb
  obtain ⟨n1, hn1⟩ : ∃ n, a.pc.length = n := ⟨_, rfl⟩
  obtain ⟨n2, hn2⟩ : ∃ n, a.regs.length = n := ⟨_, rfl⟩
  obtain ⟨n3, hn3⟩ : ∃ n, a.mem.length = n := ⟨_, rfl⟩
  obtain ⟨n4, hn4⟩ : ∃ n, a.buf.length = n := ⟨_, rfl⟩
  obtain ⟨m1, hm1⟩ : ∃ n, b.pc.length = n := ⟨_, rfl⟩
  obtain ⟨m2, hm2⟩ : ∃ n, b.regs.length = n := ⟨_, rfl⟩
  obtain ⟨m3, hm3⟩ : ∃ n, b.mem.length = n := ⟨_, rfl⟩
  obtain ⟨m4, hm4⟩ : ∃ n, b.buf.length = n := ⟨_, rfl⟩
  rw [hn1, hn2, hn3, hn4] at HA
  rw [hm1, hm2, hm3, hm4] at HB
  rw [hn1, hn2, hn3, hn4, hm1, hm2, hm3, hm4]
  have N1 := Lib.hid hn1; have N2 := Lib.hid hn2; have N3 := Lib.hid hn3; have N4 := Lib.hid hn4
  clear hn1 hn2 hn3 hn4 hm1 hm2 hm3 hm4
  obtain ⟨W0, hW0⟩ : ∃ w, w = (W.alloc (.cells #[.slice a1 n1 c1, .slice a2 n2 c2, .slice a3 n3 c3, .slice a4 n4 c4] 31)).alloc (.cells #[.slice b1 m1 d1, .slice b2 m2 d2, .slice b3 m3 d3, .slice b4 m4 d4] 31) := ⟨_, rfl⟩
  have hb0 : Below W.heap.size W W0 := hW0 ▸ ((Below.refl _ _).alloc (Nat.le_refl _) _).alloc (by simp) _
  have hsz : W0.heap.size = W.heap.size + 1 + 1 := by rw [hW0]; simp
  have fa : Fresh W0 W.heap.size (.cells #[.slice a1 n1 c1, .slice a2 n2 c2, .slice a3 n3 c3, .slice a4 n4 c4] 31) := by
    rw [hW0]; exact (Fresh.new W _).later ((Below.refl _ _).alloc (Nat.le_refl _) _)
  have fb : Fresh W0 (W.heap.size + 1) (.cells #[.slice b1 m1 d1, .slice b2 m2 d2, .slice b3 m3 d3, .slice b4 m4 d4] 31) := by
    have := heap_alloc_new (W.alloc (.cells #[.slice a1 n1 c1, .slice a2 n2 c2, .slice a3 n3 c3, .slice a4 n4 c4] 31)) (.cells #[.slice b1 m1 d1, .slice b2 m2 d2, .slice b3 m3 d3, .slice b4 m4 d4] 31)
    rw [World.size_alloc] at this
    rw [hW0]; exact this
  have HSZ := Lib.hid hsz
  have FA := Lib.hid fa; have FB := Lib.hid fb
  have H0 := Lib.hid hb0
  obtain ⟨ya0, ya1, ya2, ya3⟩ := four_cells fa
  obtain ⟨yb0, yb1, yb2, yb3⟩ := four_cells fb
  clear fa fb hsz hb0
  go_enter Try.func4, Try.ntmps4
  go_upto_region 1 with (fail)
  rw [← hW0]
  clear hW0
  go_wp2_with fail
  refine (CA.out _ _ (HA.out.mono H0.out)).mono ?_
  rintro e w1 ⟨rfl, hb1⟩
  have Hb1 := Lib.hid (H0.out.trans (hb1.mono H0.out.size))
  replace yb0 := cell_later hb1 yb0; replace yb1 := cell_later hb1 yb1; replace yb2 := cell_later hb1 yb2; replace yb3 := cell_later hb1 yb3
  replace FA := Lib.hid (FA.out.later hb1); replace FB := Lib.hid (FB.out.later hb1)
  have hz1 : W.heap.size + 1 + 1 ≤ w1.heap.size := by have := HSZ.out; have := hb1.size; omega
  clear hb1 ya0 ya1 ya2 ya3
  clear H0 HSZ
  clear W0
  cases la with
  | false =>
    go_wp2_with fail
    refine (known09_any _).mono ?_
    rintro e w2 ⟨rfl, hb2⟩
    have Hb2 := Lib.hid (Hb1.out.trans (hb2.mono Hb1.out.size))
    clear hb2
    go_wp2_with fail
    go_ret
    exact ⟨rfl, Hb2.out⟩
  | true =>
  have LA' := LA.out rfl
  clear LA
  go_wp2_with fail
  refine (CB.out _ _ (HB.out.mono Hb1.out)).mono ?_
  rintro e w2 ⟨rfl, hb2⟩
  have Hb2 := Lib.hid (Hb1.out.trans (hb2.mono Hb1.out.size))
  replace FA := Lib.hid (FA.out.later hb2); replace FB := Lib.hid (FB.out.later hb2)
  have hz2 : W.heap.size + 1 + 1 ≤ w2.heap.size := by have := hb2.size; omega
  clear hb2 yb0 yb1 yb2 yb3
  clear Hb1 hz1
  clear w1
  cases lb with
  | false =>
    go_wp2_with fail
    refine (known09_any _).mono ?_
    rintro e w3 ⟨rfl, hb3⟩
    have Hb3 := Lib.hid (Hb2.out.trans (hb3.mono Hb2.out.size))
    clear hb3
    go_wp2_with fail
    go_ret
    exact ⟨rfl, Hb3.out⟩
  | true =>
  have LB' := LB.out rfl
  clear LB CA CB
  obtain ⟨ya0, ya1, ya2, ya3⟩ := four_cells FA.out
  go_wp2_with fail
  refine (ccopy_any _ _ a (HA.out.mono Hb2.out) LA').mono ?_
  rintro e w3 ⟨hb3, vp, vr, vm, vq, xr, xb, rfl, hC⟩
  obtain ⟨p1, k1, rfl⟩ := owns_form hC.pc
  obtain ⟨p2, k2, rfl⟩ := owns_form hC.regs.own
  obtain ⟨p3, k3, rfl⟩ := owns_form hC.mem
  obtain ⟨p4, k4, rfl⟩ := owns_form hC.buf.own
  simp only [List.length_map, N1.out, N2.out, N3.out, N4.out] at hC ⊢
  have Hb3 := Lib.hid (Hb2.out.trans (hb3.mono Hb2.out.size))
  replace FA := Lib.hid (FA.out.later hb3); replace FB := Lib.hid (FB.out.later hb3)
  have hz3 : W.heap.size + 1 + 1 ≤ w3.heap.size := by have := hb3.size; omega
  replace hC : CopyIs W.heap.size w3 a (.slice p1 n1 k1) (.slice p2 n2 k2) (.slice p3 n3 k3) (.slice p4 n4 k4) xr xb := ⟨owns_heap hC.pc fun b hb => ⟨by have := (ownsR_block hC.pc hb).1; omega, rfl⟩, hC.regs.base (by omega), owns_heap hC.mem fun b hb => ⟨by have := (ownsR_block hC.mem hb).1; omega, rfl⟩, hC.buf.base (by omega)⟩
  have HC := Lib.hid hC
  have HC3 := Lib.hid hC
  clear hb3 hC ya0 ya1 ya2 ya3
  clear Hb2 hz2
  clear w2
  go_upto_region 4 with (fail)
  obtain ⟨W4, hW4⟩ : ∃ w, w = w3.alloc (.cells #[.slice p1 n1 k1, .slice p2 n2 k2, .slice p3 n3 k3, .slice p4 n4 k4] 31) := ⟨_, rfl⟩
  have hb4 : Below w3.heap.size w3 W4 := hW4 ▸ (Below.refl _ _).alloc (Nat.le_refl _) _
  have hs4 : W4.heap.size = w3.heap.size + 1 := by rw [hW4]; exact World.size_alloc _ _
  have fc : Fresh W4 w3.heap.size (.cells #[.slice p1 n1 k1, .slice p2 n2 k2, .slice p3 n3 k3, .slice p4 n4 k4] 31) := hW4 ▸ Fresh.new _ _
  rw [← hW4]
  have FC := Lib.hid fc
  replace HC := Lib.hid (HC.out.below hb4)
  replace FA := Lib.hid (FA.out.later hb4); replace FB := Lib.hid (FB.out.later hb4)
  have Hb4 := Lib.hid (Hb3.out.trans (hb4.mono Hb3.out.size))
  obtain ⟨ya0, ya1, ya2, ya3⟩ := four_cells FA.out
  have HS4 := Lib.hid hs4
  have H34 := Lib.hid hb4
  clear hW4 hb4 hs4 fc Hb3
  go_wp2_with fail
  refine (rcopy_any HA.out Hb4.out LA').mono ?_
  rintro e w5 ⟨u, rfl, hb5, _, hu⟩
  obtain ⟨q1, e1, q2, e2, q3, e3, q4, e4, rfl⟩ := (hu w5 (fun _ _ _ => rfl)).form
  simp only [N1.out, N2.out, N3.out, N4.out] at hu ⊢
  have HU := Lib.hid hu
  have Hb5 := Lib.hid (Hb4.out.trans (hb5.mono Hb4.out.size))
  replace FA := Lib.hid (FA.out.later hb5); replace FB := Lib.hid (FB.out.later hb5); replace FC := Lib.hid (FC.out.later hb5)
  replace HC := Lib.hid (HC.out.below hb5)
  have hz5 : w3.heap.size + 1 ≤ w5.heap.size := by have := hb5.size; have := HS4.out; omega
  have H35 := Lib.hid (H34.out.trans (hb5.mono (by have := HS4.out; omega)))
  clear hu hb5 ya0 ya1 ya2 ya3 Hb4
  go_upto_region 5 with (fail)
  obtain ⟨W6, hW6⟩ : ∃ w, w = w5.alloc (.cells #[.slice q1 n1 e1, .slice q2 n2 e2, .slice q3 n3 e3, .slice q4 n4 e4] 31) := ⟨_, rfl⟩
  have hb6 : Below w5.heap.size w5 W6 := hW6 ▸ (Below.refl _ _).alloc (Nat.le_refl _) _
  have hs6 : W6.heap.size = w5.heap.size + 1 := by rw [hW6]; exact World.size_alloc _ _
  have fd : Fresh W6 w5.heap.size (.cells #[.slice q1 n1 e1, .slice q2 n2 e2, .slice q3 n3 e3, .slice q4 n4 e4] 31) := hW6 ▸ Fresh.new _ _
  rw [← hW6]
  have FD := Lib.hid fd
  replace HC := Lib.hid (HC.out.below hb6)
  replace FA := Lib.hid (FA.out.later hb6); replace FB := Lib.hid (FB.out.later hb6); replace FC := Lib.hid (FC.out.later hb6)
  have Hb6 := Lib.hid (Hb5.out.trans (hb6.mono Hb5.out.size))
  have H56 := Lib.hid hb6
  have H36 := Lib.hid (H35.out.trans (hb6.mono (by omega)))
  have HS6 := Lib.hid hs6
  clear hW6 hb6 hs6 fd Hb5
  have HCV := Lib.hid (HC.out.conf HA.out)
  obtain ⟨ya0, ya1, ya2, ya3⟩ := four_cells FA.out
  obtain ⟨yb0, yb1, yb2, yb3⟩ := four_cells FB.out
  obtain ⟨yc0, yc1, yc2, yc3⟩ := four_cells FC.out
  have fa0 := Later.cell ya0; have fa1 := Later.cell ya1; have fa2 := Later.cell ya2; have fa3 := Later.cell ya3
  have fb0 := Later.cell yb0; have fb1 := Later.cell yb1; have fb2 := Later.cell yb2; have fb3 := Later.cell yb3
  have fc0 := Later.cell yc0; have fc1 := Later.cell yc1; have fc2 := Later.cell yc2; have fc3 := Later.cell yc3
  clear ya0 ya1 ya2 ya3 yb0 yb1 yb2 yb3 yc0 yc1 yc2 yc3
  have gc1 : ∀ s : Later W6, Calls Try.prog 18 #[.agg #[.slice a1 n1 c1, .slice a2 n2 c2, .slice a3 n3 c3, .slice a4 n4 c4], .agg #[.slice b1 m1 d1, .slice b2 m2 d2, .slice b3 m3 d3, .slice b4 m4 d4]] s.world (BoolBelow (a == b) s.world) := fun s => csame_any (HA.out.mono (Hb6.out.trans (s.below.mono Hb6.out.size))) (HB.out.mono (Hb6.out.trans (s.below.mono Hb6.out.size))) LA'
  have gc2 : ∀ s : Later W6, Calls Try.prog 14 #[.agg #[.slice a1 n1 c1, .slice a2 n2 c2, .slice a3 n3 c3, .slice a4 n4 c4], .agg #[.slice b1 m1 d1, .slice b2 m2 d2, .slice b3 m3 d3, .slice b4 m4 d4]] s.world (BoolBelow (a == b) s.world) := fun s => rsame_any (HA.out.mono (Hb6.out.trans (s.below.mono Hb6.out.size))) (HB.out.mono (Hb6.out.trans (s.below.mono Hb6.out.size))) LA'
  have gc3 : ∀ s : Later W6, Calls Try.prog 18 #[.agg #[.slice a1 n1 c1, .slice a2 n2 c2, .slice a3 n3 c3, .slice a4 n4 c4], .agg #[.slice a1 n1 c1, .slice a2 n2 c2, .slice a3 n3 c3, .slice a4 n4 c4]] s.world (BoolBelow true s.world) := fun s => by
    have := csame_any (HA.out.mono (Hb6.out.trans (s.below.mono Hb6.out.size))) (HA.out.mono (Hb6.out.trans (s.below.mono Hb6.out.size))) LA'
    rwa [beq_self_eq_true] at this
  have gc4 : ∀ s : Later W6, Calls Try.prog 18 #[.agg #[.slice p1 n1 k1, .slice p2 n2 k2, .slice p3 n3 k3, .slice p4 n4 k4], .agg #[.slice a1 n1 c1, .slice a2 n2 c2, .slice a3 n3 c3, .slice a4 n4 c4]] s.world (BoolBelow true s.world) := fun s => by
    have := csame_any (HCV.out.mono s.below) (HA.out.mono (Hb6.out.trans (s.below.mono Hb6.out.size))) LA'
    rwa [beq_self_eq_true] at this
  have gc5 : ∀ s : Later W6, Calls Try.prog 14 #[.agg #[.slice p1 n1 k1, .slice p2 n2 k2, .slice p3 n3 k3, .slice p4 n4 k4], .agg #[.slice a1 n1 c1, .slice a2 n2 c2, .slice a3 n3 c3, .slice a4 n4 c4]] s.world (BoolBelow true s.world) := fun s => by
    have := rsame_any (HCV.out.mono s.below) (HA.out.mono (Hb6.out.trans (s.below.mono Hb6.out.size))) LA'
    rwa [beq_self_eq_true] at this
  generalize (a == b) = eqr at gc1 gc2
  have C1 := Lib.hid gc1; have C2 := Lib.hid gc2; have C3 := Lib.hid gc3; have C4 := Lib.hid gc4; have C5 := Lib.hid gc5
  clear gc1 gc2 gc3 gc4 gc5
  cases eqr
  all_goals (
    refine wp_region_later (by kernel_rfl) (by kernel_rfl) ?_
    repeat (go_big_quiet_step (first
      | (go_at_call_of 18 (Value.slice b1 m1 d1); exact Calls.later (C1.out _) (fun _ _ h => h))
      | (go_at_call_of 14 (Value.slice b1 m1 d1); exact Calls.later (C2.out _) (fun _ _ h => h))
      | (go_at_call_of 18 (Value.slice p1 n1 k1); exact Calls.later (C4.out _) (fun _ _ h => h))
      | (go_at_call_of 14 (Value.slice p1 n1 k1); exact Calls.later (C5.out _) (fun _ _ h => h))
      | (go_at_call 18; exact Calls.later (C3.out _) (fun _ _ h => h))))
    refine wpQuiet_nil ?_
    rintro w7 ⟨⟨w8, hb8⟩, rfl⟩
    have H8 := Lib.hid (Hb6.out.trans (hb8.mono Hb6.out.size))
    have H58 := Lib.hid (H56.out.trans (hb8.mono H56.out.size))
    have H38 := Lib.hid (H36.out.trans (hb8.mono H36.out.size))
    replace FA := Lib.hid (FA.out.later hb8); replace FC := Lib.hid (FC.out.later hb8); replace FD := Lib.hid (FD.out.later hb8)
    clear hb8 fa0 fa1 fa2 fa3 fb0 fb1 fb2 fb3 fc0 fc1 fc2 fc3 FB HC Hb6 H34 H35 H36 H56 HCV C1 C2 C3 C4 C5 HS6
    replace hz3 : W.heap.size + 1 + 1 ≤ w3.heap.size := hz3
    have HC7 := Lib.hid (HC3.out.below H38.out)
    have hn1 : n1 ≤ 8 := by have := LA'.pc; rw [N1.out] at this; exact this
    have hn2 : n2 ≤ 8 := by have := LA'.regsN; rw [N2.out] at this; exact this
    have hn3 : n3 ≤ 20 := by have := LA'.mem; rw [N3.out] at this; exact this
    have hn4 : n4 ≤ 8 := by have := LA'.bufN; rw [N4.out] at this; exact this
    have NC : Hid (¬ LeafAt W.heap.size w3.heap.size w7 w3.heap.size) := not_leaf FC.out (by decide) (by decide)
    go_wp2_with fail
    go_loopw [8] (fun i wr => ∃ k : Nat, i = .int .i64 k ∧ k ≤ n1 ∧ Sp W.heap.size w3.heap.size w7 wr) (fun i _ => n1 - (intOf i).toNat)
    case atStart => exact ⟨0, rfl, by omega, Sp.refl _ _ _⟩
    case round =>
      obtain ⟨k, rfl, hk, hS⟩ := hrel
      have HS8 := Lib.hid hS
      have y0 := hS.cell NC.out (four_cells FC.out).1
      clear hS
      by_cases hlt : k < n1
      · obtain ⟨_, g, rfl, hleaf, old, l1, l2⟩ := HS8.out.live HC7.out.pc (i := k) (by simpa [N1.out] using hlt) (.inr fun g hg => (ownsR_block HC3.out.pc hg).2) (.inl rfl)
        have HLF := Lib.hid hleaf
        clear hleaf
        go_wp2_with fail
        go_round
        case rel => exact ⟨k + 1, by go_num, by omega, HS8.out.set HLF.out _⟩
        case measure => simp [intOf]; omega
      · go_wp2_with fail
        clear y0 hlt
        go_loopw [9] (fun i wr => ∃ k : Nat, i = .int .i64 k ∧ k ≤ n3 ∧ Sp W.heap.size w3.heap.size w7 wr) (fun i _ => n3 - (intOf i).toNat)
        case atStart => exact ⟨0, rfl, by omega, HS8.out⟩
        case round =>
          obtain ⟨k, rfl, hk, hS⟩ := hrel
          have HS9 := Lib.hid hS
          have y0 := hS.cell NC.out (four_cells FC.out).2.2.1
          clear hS
          by_cases hlt : k < n3
          · obtain ⟨_, g, rfl, hleaf, old, l1, l2⟩ := HS9.out.live HC7.out.mem (i := k) (by simpa [N3.out] using hlt) (.inr fun g hg => (ownsR_block HC3.out.mem hg).2) (.inl rfl)
            have HLF := Lib.hid hleaf
            clear hleaf
            go_wp2_with fail
            go_round
            case rel => exact ⟨k + 1, by go_num, by omega, HS9.out.set HLF.out _⟩
            case measure => simp [intOf]; omega
          · go_wp2_with fail
            clear y0 hlt
            go_loopw [10] (fun i wr => ∃ k : Nat, i = .int .i64 k ∧ k ≤ n2 ∧ Sp W.heap.size w3.heap.size w7 wr) (fun i _ => n2 - (intOf i).toNat)
            case atStart => exact ⟨0, rfl, by omega, HS9.out⟩
            case round =>
              obtain ⟨k, rfl, hk, hS⟩ := hrel
              have HS10 := Lib.hid hS
              have y0 := hS.cell NC.out (four_cells FC.out).2.1
              clear hS
              by_cases hlt : k < n2
              · obtain ⟨x, hx⟩ : ∃ x, xr[k]? = some x := ⟨_, List.getElem?_eq_getElem (by have := HC3.out.regs.len; rw [List.length_map] at this; have := N2.out; omega)⟩
                have hkl : k < a.regs.length := by have := N2.out; omega
                obtain ⟨m, hm⟩ := HC7.out.regs.row k x _ hx (by rw [List.getElem?_map, List.getElem?_eq_getElem hkl]; rfl)
                obtain ⟨m3, hm3⟩ := HC3.out.regs.row k x _ hx (by rw [List.getElem?_map, List.getElem?_eq_getElem hkl]; rfl)
                obtain ⟨ax, cx, rfl⟩ := owns_form hm
                obtain ⟨_, gh, rfl, hcell⟩ := HS10.out.head HC7.out.regs.own (by decide) (by decide) hx
                have hml : m ≤ 20 := by
                  have h1 := hm.1
                  have h2 := LA'.regs k hkl
                  rw [List.length_map] at h1
                  omega
                have HM := Lib.hid hm; have HM3 := Lib.hid hm3; have HX := Lib.hid hx
                clear hm hm3 hx
                go_wp2_with fail
                go_loopw [11] (fun i wr => ∃ j : Nat, i = .int .i64 j ∧ j ≤ m ∧ Sp W.heap.size w3.heap.size w7 wr) (fun i _ => m - (intOf i).toNat)
                case atStart => exact ⟨0, rfl, by omega, HS10.out⟩
                case round =>
                  obtain ⟨j, rfl, hj, hS⟩ := hrel
                  have HSI := Lib.hid hS
                  clear y0 hcell
                  have y0 := hS.cell NC.out (four_cells FC.out).2.1
                  obtain ⟨_, gh', hgh, hcell⟩ := hS.head HC7.out.regs.own (by decide) (by decide) HX.out
                  obtain rfl : gh = gh' := by simpa using hgh
                  clear hgh hS
                  by_cases hjl : j < m
                  · obtain ⟨_, g, rfl, hleaf, old, l1, l2⟩ := HSI.out.live HM.out (i := j * 1) (by omega) (.inr fun g hg => (ownsR_block HM3.out hg).2) (.inl rfl)
                    rw [Nat.mul_one] at l1 l2
                    have HLF := Lib.hid hleaf
                    clear hleaf
                    go_wp2_with fail
                    go_round
                    case rel => exact ⟨j + 1, by go_num, by omega, HSI.out.set HLF.out _⟩
                    case measure => simp [intOf]; omega
                  · go_wp2_with fail
                    go_round
                    case rel => exact ⟨k + 1, by go_num, by omega, HSI.out⟩
                    case measure => simp [intOf]; omega
              · skip
                go_wp2_with fail
                clear y0 hlt
                go_loopw [12] (fun i wr => ∃ k : Nat, i = .int .i64 k ∧ k ≤ n4 ∧ Sp W.heap.size w3.heap.size w7 wr) (fun i _ => n4 - (intOf i).toNat)
                case atStart => exact ⟨0, rfl, by omega, HS10.out⟩
                case round =>
                  obtain ⟨k, rfl, hk, hS⟩ := hrel
                  have HS12 := Lib.hid hS
                  have y0 := hS.cell NC.out (four_cells FC.out).2.2.2
                  clear hS
                  by_cases hlt : k < n4
                  · obtain ⟨x, hx⟩ : ∃ x, xb[k]? = some x := ⟨_, List.getElem?_eq_getElem (by have := HC3.out.buf.len; rw [List.length_map] at this; have := N4.out; omega)⟩
                    have hkl : k < a.buf.length := by have := N4.out; omega
                    obtain ⟨m, hm⟩ := HC7.out.buf.row k x _ hx (by rw [List.getElem?_map, List.getElem?_eq_getElem hkl]; rfl)
                    obtain ⟨m3, hm3⟩ := HC3.out.buf.row k x _ hx (by rw [List.getElem?_map, List.getElem?_eq_getElem hkl]; rfl)
                    obtain ⟨ax, cx, rfl⟩ := owns_form hm
                    obtain ⟨_, gh, rfl, hcell⟩ := HS12.out.head HC7.out.buf.own (by decide) (by decide) hx
                    have hml : m ≤ 300 := by
                      have h1 := hm.1
                      have h2 := LA'.buf k hkl
                      rw [flat_length entC 2 entC_len] at h1
                      omega
                    have HM := Lib.hid hm; have HM3 := Lib.hid hm3; have HX := Lib.hid hx
                    clear hm hm3 hx
                    go_wp2_with fail
                    go_loopw [13] (fun i wr => ∃ j : Nat, i = .int .i64 j ∧ j ≤ m ∧ Sp W.heap.size w3.heap.size w7 wr) (fun i _ => m - (intOf i).toNat)
                    case atStart => exact ⟨0, rfl, by omega, HS12.out⟩
                    case round =>
                      obtain ⟨j, rfl, hj, hS⟩ := hrel
                      have HSI := Lib.hid hS
                      clear y0 hcell
                      have y0 := hS.cell NC.out (four_cells FC.out).2.2.2
                      obtain ⟨_, gh', hgh, hcell⟩ := hS.head HC7.out.buf.own (by decide) (by decide) HX.out
                      obtain rfl : gh = gh' := by simpa using hgh
                      clear hgh hS
                      by_cases hjl : j < m
                      · obtain ⟨_, g, rfl, hleaf, old, l1, l2⟩ := HSI.out.live HM.out (i := j * 2 + 1) (by omega) (.inr fun g hg => (ownsR_block HM3.out hg).2) (.inr rfl)
                        skip
                        have HLF := Lib.hid hleaf
                        clear hleaf
                        go_wp2_with fail
                        go_round
                        case rel => exact ⟨j + 1, by go_num, by omega, HSI.out.set HLF.out _⟩
                        case measure => simp [intOf]; omega
                      · go_wp2_with fail
                        go_round
                        case rel => exact ⟨k + 1, by go_num, by omega, HSI.out⟩
                        case measure => simp [intOf]; omega
                  · have NA : ¬ LeafAt W.heap.size w3.heap.size w7 W.heap.size := not_leaf FA.out (by decide) (by decide)
                    have ND : ¬ LeafAt W.heap.size w3.heap.size w7 w5.heap.size := not_leaf FD.out (by decide) (by decide)
                    have ya0 := HS12.out.cell NA (four_cells FA.out).1; have ya1 := HS12.out.cell NA (four_cells FA.out).2.1; have ya2 := HS12.out.cell NA (four_cells FA.out).2.2.1; have ya3 := HS12.out.cell NA (four_cells FA.out).2.2.2
                    have yd0 := HS12.out.cell ND (four_cells FD.out).1; have yd1 := HS12.out.cell ND (four_cells FD.out).2.1; have yd2 := HS12.out.cell ND (four_cells FD.out).2.2.1; have yd3 := HS12.out.cell ND (four_cells FD.out).2.2.2
                    clear NA ND
                    go_wp2_with fail
                    clear y0 hlt
                    refine (rsame_any (HA.out.mono (H8.out.trans HS12.out.below)) (HU.out _ ?_) LA').mono ?_
                    · intro b hb hlt
                      have hnl : ¬ LeafAt W.heap.size w3.heap.size w7 b := by
                        rintro ⟨h1, h2, _⟩
                        have := HS4.out
                        omega
                      exact (HS12.out.heap b hnl).trans (H58.out.block b hlt)
                    rintro e wa ⟨rfl, hba⟩
                    have HBa := Lib.hid ((H8.out.trans HS12.out.below).trans (hba.mono (H8.out.trans HS12.out.below).size))
                    clear hba
                    go_wp2_with fail
                    refine (known09_any _).mono ?_
                    rintro e wb ⟨rfl, hbb⟩
                    have HBb := Lib.hid (HBa.out.trans (hbb.mono HBa.out.size))
                    clear hbb
                    go_wp2_with fail
                    go_ret
                    exact ⟨rfl, HBb.out⟩)
end Go.Proofs.Ytejkhpgahnncnaa
end

section
namespace Go.Proofs.Ytejkhpgahnncnaa
theorem confSame_frame (W : World) (cs : Array Value) (a : ConfS) (ha : rConf.rel W cs.toList a) (ds : Array Value) (b : ConfS) (hb : rConf.rel W ds.toList b) : Calls Try.prog 4 #[.agg cs, .agg ds] W (LawOk W) :=
  confSame_walk W _ _ a b (conf_of ha) (conf_of hb)
end Go.Proofs.Ytejkhpgahnncnaa
end

section
namespace Go.Proofs.Ytejkhpgahnncnaa
set_option linter.unusedVariables false
set_option linter.unusedSimpArgs false

theorem opens_rI : Opens Try.prog 3 rI := opens_int Try.underlying3 (by kernel_rfl)
theorem opens_ints : Opens Try.prog 22 rInts := opens_slice Try.underlying22 (by kernel_rfl) opens_rI (by decide)
theorem opens_entry : Opens Try.prog 40 rEntry := opens_map _ (opens_struct Try.underlying40 (by kernel_rfl) (fields_cons rfl opens_rI (fields_one rfl opens_rI) (by decide)))
theorem opens_entries : Opens Try.prog 38 rEntries := opens_slice Try.underlying38 (by kernel_rfl) opens_entry (by decide)
theorem opens_bufs : Opens Try.prog 29 rBufs := opens_slice Try.underlying29 (by kernel_rfl) opens_entries (by decide)
theorem opens_rows : Opens Try.prog 28 rRows := opens_slice Try.underlying28 (by kernel_rfl) opens_ints (by decide)
theorem opens_conf : Opens Try.prog 31 rConf := opens_map _ (opens_struct Try.underlying31 (by kernel_rfl) (fields_cons rfl opens_ints (fields_cons rfl opens_rows (fields_cons rfl opens_ints (fields_one rfl opens_bufs) (by decide)) (by decide)) (by decide)))

end Go.Proofs.Ytejkhpgahnncnaa
end

section
namespace Go.Proofs.Ytejkhpgahnncnaa
open Go.RowKit Go.WideShapes
set_option linter.unusedVariables false
set_option linter.unusedSimpArgs false

theorem okWide_struct' {P : Program} {w : World} {r : Reach} {base : Nat} {t : TypeId} {v : Value} {fs : Array Field} (ht : P.underlying t = some (.struct fs)) (h : Value.okWide P w r base t v) : ∃ cs, v = .agg cs := by
  simp only [Value.okWide, ht] at h
  obtain ⟨cs, rfl, _⟩ := h
  exact ⟨cs, rfl⟩
end Go.Proofs.Ytejkhpgahnncnaa
end

