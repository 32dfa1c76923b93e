/- Parts of the proofs: what they lean on. Conditions: none. -/
import Derived.Test.YtejkhpgahnncnaaProg
import Derived.StillTail
import Derived.OneCell
import Derived.Test.YtejkhpgahnncnaaPdcS12
section
namespace Go.Proofs.Ytejkhpgahnncnaa
open Go.RowKit Go.WideShapes
set_option linter.unusedVariables false
set_option linter.unusedSimpArgs false

def rArr (n : Nat) : Rd (List Int) := ⟨n, fun _ cs l => cs = l.map (Value.int .i64) ∧ l.length = n ∧ ∀ x ∈ l, (Lit.int .i64 x).wf = true⟩

theorem opens_arr {P : Program} {t e : TypeId} {n : Nat} (ht : P.underlying t = some (.array n e)) (he : P.underlying e = some (.int .i64)) (hc : P.cellsOf t = n) (hce : P.cellsOf e = 1) : Opens P t (rArr n) := by
  refine ⟨hc, fun H enc w base spare held fuel cs x h => ?_⟩
  obtain ⟨xs, m, _, _, h1, h2, h3⟩ := DataW.trod_array ht h
  rw [hce] at h3
  rw [hc] at h1
  obtain ⟨l, hl, hp⟩ := list_of (n := n) (p := fun i y => cs[i]? = some (Value.int .i64 y) ∧ (Lit.int .i64 y).wf = true) (fun i hi => by
    have h4 := h3 i hi
    rw [Nat.mul_one, List.getElem?_eq_getElem (by omega)] at h4
    obtain ⟨y, h5, _, h6⟩ := DataW.trod_int he h4
    refine ⟨y, ?_, h6⟩
    have := congrArg (fun l => l[0]?) h5
    simp only [List.getElem?_take, List.getElem?_drop] at this
    simpa using this)
  refine ⟨l, ?_, hl, fun x hx => ?_⟩
  · apply List.ext_getElem?
    intro i
    rcases Nat.lt_or_ge i n with hi | hi
    · have := (hp i (by omega)).1
      rw [this, List.getElem?_map, List.getElem?_eq_getElem (by omega)]
      rfl
    · rw [List.getElem?_eq_none (by omega), List.getElem?_eq_none (by simp; omega)]
  · obtain ⟨i, hi, rfl⟩ := List.getElem_of_mem hx
    exact (hp i hi).2

theorem okWide_struct' {P : Program} {w : World} {r : Reach} {base : Nat} {t : TypeId} {v : Value} {fs : Array Field} (ht : P.underlying t = some (.struct fs)) (h : Value.okWide P w r base t v) : ∃ cs, v = .agg cs := by
  simp only [Value.okWide, ht] at h
  obtain ⟨cs, rfl, _⟩ := h
  exact ⟨cs, rfl⟩
theorem okWide_array' {P : Program} {w : World} {r : Reach} {base : Nat} {t : TypeId} {v : Value} {n : Nat} {e : TypeId} (ht : P.underlying t = some (.array n e)) (h : Value.okWide P w r base t v) : ∃ cs, v = .agg cs := by
  simp only [Value.okWide, ht] at h
  obtain ⟨cs, rfl, _⟩ := h
  exact ⟨cs, rfl⟩

theorem arr2_of {w : World} {cs : Array Value} {l : List Int} (h : (rArr 2).rel w cs.toList l) : ∃ a b : Int, cs = #[.int .i64 a, .int .i64 b] ∧ (-9223372036854775808 ≤ a ∧ a ≤ 9223372036854775807) ∧ (-9223372036854775808 ≤ b ∧ b ≤ 9223372036854775807) := by
  obtain ⟨h1, h2, h3⟩ := h
  obtain ⟨cs⟩ := cs
  match l, h2 with
  | [a, b], _ => exact ⟨a, b, by simpa using h1, wf_i64 (h3 a (by simp)), wf_i64 (h3 b (by simp))⟩
end Go.Proofs.Ytejkhpgahnncnaa
end

section
namespace Go.Proofs.Ytejkhpgahnncnaa
set_option linter.unusedVariables false
theorem ls : (∀ {α β : Type} {f : α → β} {l : List α}, (l.map f).length = l.length) ∧ (∀ {α β : Type} (f : α → β) (l : List α), List.take l.length (List.map f l) = List.map f l) ∧ Program.cellsOf Try.prog 38 = 1 ∧ Program.cellsOf Try.prog 52 = 1 ∧ Program.cellsOf Try.prog 22 = 1 ∧ Program.cellsOf Try.prog 40 = 2 ∧ Program.cellsOf Try.prog 55 = 7 ∧ Program.cellsOf Try.prog 99 = 3 ∧ Program.cellsOf Try.prog 3 = 1 ∧ Program.cellsOf Try.prog 5 = 1 :=
  ⟨List.length_map .., take_map_len, by kernel_rfl, by kernel_rfl, by kernel_rfl, by kernel_rfl, by kernel_rfl, by kernel_rfl, by kernel_rfl, by kernel_rfl⟩
theorem lt : (∀ {α β : Type} (f : α → β) (l : List α), List.take l.length (List.map f l) = List.map f l) ∧ Program.cellsOf Try.prog 38 = 1 ∧ Program.cellsOf Try.prog 52 = 1 ∧ Program.cellsOf Try.prog 22 = 1 ∧ Program.cellsOf Try.prog 40 = 2 ∧ Program.cellsOf Try.prog 55 = 7 ∧ Program.cellsOf Try.prog 99 = 3 ∧ Program.cellsOf Try.prog 3 = 1 ∧ Program.cellsOf Try.prog 5 = 1 :=
  ls.2
theorem cq {ρ : Type} {cont : Tm → Hp → Option ρ} {tm tm' : Tm} {hp hp' : Hp} {r : Option ρ} (h : cont tm' hp' = r) (h1 : tm = tm' := by first | rfl | (simp only [ls] <;> rfl) | (simp only [ls, List.map_append, List.map_cons, List.map_nil, List.append_nil, List.length_set, length_copyL] <;> rfl)) (h2 : hp = hp' := by first | rfl | (simp only [ls] <;> rfl) | (simp only [ls, List.map_append, List.map_cons, List.map_nil, List.append_nil, List.length_set, length_copyL] <;> rfl)) : cont tm hp = r := cont_eq h h1 h2
theorem kq {ρ : Type} {K : Ex → Tm → Hp → Option ρ} {e : Ex} {tm tm' : Tm} {hp hp' : Hp} {r : Option ρ} (h : K e tm' hp' = r) (h1 : tm = tm' := by first | rfl | (simp only [ls] <;> rfl) | (simp only [ls, List.map_append, List.map_cons, List.map_nil, List.append_nil, List.length_set, length_copyL] <;> rfl)) (h2 : hp = hp' := by first | rfl | (simp only [ls] <;> rfl) | (simp only [ls, List.map_append, List.map_cons, List.map_nil, List.append_nil, List.length_set, length_copyL] <;> rfl)) : K e tm hp = r := kont_eq h h1 h2
theorem fq {ρ : Type} {x y z : Option ρ} (h : x = y := by first | rfl | (simp only [length_copyL, List.length_set] <;> rfl) | (simp only [ls] <;> rfl) | ((conv => lhs; arg 1; arg 1; whnf); simp only [dec_self]; rfl)) (h2 : y = z := by first | rfl | (simp only [List.map_take, List.map_drop]; done) | (simp only [List.map_take, List.map_drop] <;> rfl) | (simp only [ls, List.drop_zero, List.length_set, length_copyL] <;> rfl)) : x = z := h.trans h2
theorem c0 : ((0 : Nat) : Int) = 0 := rfl
theorem rq {ρ : Type} {x z : Option ρ} (h : x = z := by first | rfl | (simp only [ls] <;> rfl)) : x = z := h
abbrev iA (x : Int) : AV := .int .i64 x
abbrev bA (x : Bool) : AV := .bool x
abbrev sA (x : List UInt8) : AV := .str x
theorem sj {α : Type} {a r : α} (h : some a = some r) : a = r := Option.some.inj h
theorem lq {ρ σ τ ν : Type} {body : Tm → Hp → (Ex → Tm → Hp → Option ρ) → Option ρ} {keep : Nat → List Nat} {h0 : Nat} {K : Ex → Tm → Hp → Option ρ} {r : Option ρ} (id : Nat) (tmOf : σ → (Nat → Nat) → Tm) (hpOf : σ → (Nat → Nat) → Hp) (tmX : τ → (Nat → Nat) → Tm) (hpX : τ → (Nat → Nat) → Hp) (encR : ν → ρ) (L : Nat → σ → Option (LR τ ν)) (hL : ∀ s, L 0 s = none) (o : LR τ ν) (n : Nat) (s : σ) (a : Nat → Nat) {tm : Tm} {hp : Hp} (h : L n s = some o)
    (hround : ∀ (k : Nat) (s : σ) (a : Nat → Nat) (K' : Ex → Tm → Hp → Option ρ) (cont : Tm → Hp → Option ρ), (∀ tm hp, K' .ret tm hp = K .ret tm hp) → (∀ s' a', L k s' = some o → cont (tmOf s' a') (hpOf s' a') = r) → L (k + 1) s = some o → LRes K' id tmX hpX encR r o →
      forceL force (fun tm => forceHp (fun hp => body tm hp (fun e tm hp => forceL force (fun tm => forceHp (fun hp => match e with
        | .normal => cont tm hp
        | .exit id => K' (.exit id) tm hp
        | .ret => K' .ret tm hp) (waneHp h0 hp)) (keepTm (keep (exMode e)) h0 hp 0 tm))) (hpOf s a)) (tmOf s a) = r)
    (hx : LRes K id tmX hpX encR r o)
    (h1 : tm = tmOf s a := by first | rfl | (simp only [ls] <;> rfl) | (simp only [ls, List.map_append, List.map_cons, List.map_nil, List.append_nil, List.length_set, length_copyL] <;> rfl)) (h2 : hp = hpOf s a := by first | rfl | (simp only [ls] <;> rfl) | (simp only [ls, List.map_append, List.map_cons, List.map_nil, List.append_nil, List.length_set, length_copyL] <;> rfl)) : rounds body keep h0 n tm hp K = r :=
  rounds_sim id tmOf hpOf tmX hpX encR L hL o hround n s a tm hp h hx h1 h2
theorem lrc {ρ τ ν : Type} {K : Ex → Tm → Hp → Option ρ} {id : Nat} {tmX : τ → (Nat → Nat) → Tm} {hpX : τ → (Nat → Nat) → Hp} {encR : ν → ρ} {r : Option ρ} {o : LR τ ν} (h1 : ∀ v, o = .ret v → r = some (encR v)) (h2 : ∀ t a, o = .out t → K (.exit id) (tmX t a) (hpX t a) = r) : LRes K id tmX hpX encR r o := by
  cases o with
  | out t => exact fun a => h2 t a rfl
  | ret v => exact h1 v rfl
theorem nn {α : Type} {r : α} {P : Prop} : (none : Option α) = some r → P := fun h => by cases h
theorem chk_k {α : Type} {c : Bool} {a : Option α} {r : α} {G : Prop} (h1 : c = true → a = some r → G) : (bif c then a else none) = some r → G := fun h => chk_some2 h h1
theorem br {α ρ : Type} {c : Bool} {a b : Option α} {r : α} {L L1 L2 R : ρ} (k1 : a = some r → L1 = R) (k2 : b = some r → L2 = R) (w1 : c = true → L = L1 := by (intro hc; simp only [hc, ls]; (conv => lhs; whnf); try exact rfl)) (w2 : c = false → L = L2 := by (intro hc; simp only [hc, ls]; (conv => lhs; whnf); try exact rfl)) : (bif c then a else b) = some r → L = R := by
  cases c
  · exact fun h => (w2 rfl).trans (k2 h)
  · exact fun h => (w1 rfl).trans (k1 h)
theorem cp {α ρ : Type} {c : Bool} {a : Option α} {r : α} {L L1 R : ρ} (k1 : a = some r → L1 = R) (w1 : c = true → ∀ q, L1 = q → L = q := by (intro hc q hq; refine bif_pos hc ?_; (try simp only [ls]); (conv => lhs; whnf); exact hq)) : (bif c then a else none) = some r → L = R := chk_k fun hc h => w1 hc _ (k1 h)
theorem cn {α ρ : Type} {c : Bool} {a : Option α} {r : α} {L L1 R : ρ} (k1 : a = some r → L1 = R) (w1 : c = true → ∀ q, L1 = q → L = q := by (intro hc q hq; refine bif_pos (app_nil hc (by simp only [List.length_map, take_map_len]) (by kernel_rfl)) ?_; (try simp only [ls]); (conv => lhs; whnf); exact hq)) : (bif c then a else none) = some r → L = R := chk_k fun hc h => w1 hc _ (k1 h)
theorem sl {α : Type} (f : α → List AV) (l : List α) (i j : Nat) : List.drop i (List.take j (List.map f l)) = List.map f (List.drop i (List.take j l)) := by rw [List.map_drop, List.map_take]
theorem cs {α ρ : Type} {c : Bool} {a : Option α} {r : α} {E : Prop} {L L1 R : ρ} (e : E) (k1 : a = some r → L1 = R) (w1 : c = true → E → ∀ q, L1 = q → L = q := by (intro hc he q hq; (try simp only [ls]); refine bif_pos hc ?_; simp only [he, ls]; (conv => lhs; whnf); exact hq)) : (bif c then a else none) = some r → L = R := chk_k fun hc h => w1 hc e _ (k1 h)
theorem ixs {β ρ : Type} {l : List UInt8} {i : Int} {g : UInt8 → Option β} {r : β} {L : ρ} {L1 : UInt8 → ρ} {R : ρ} (k : ∀ x, g x = some r → L1 x = R) (w : ∀ x, idx l i = some x → ∀ q, L1 x = q → L = q := by (intro x hx q hq; refine bif_pos (idx_in hx) ?_; simp only [idx_str hx, ls]; (conv => lhs; whnf); exact hq)) : (idx l i).bind g = some r → L = R := fun h => bind_some2 h fun x hx h2 => w x hx _ (k x h2)
theorem ix {α β ρ : Type} {l : List α} {i : Int} {g : α → Option β} {r : β} {L : ρ} {L1 : α → ρ} {R : ρ} (k : ∀ x, g x = some r → L1 x = R) (w : ∀ x, idx l i = some x → ∀ q, L1 x = q → L = q := by (intro x hx q hq; refine bif_pos (by first | exact idx_in hx | exact idx_in' hx | (have z := idx_in hx; simp only [ls] at z ⊢; exact z)) ?_; simp only [idx_nth hx, ls]; (conv => lhs; whnf); exact hq)) : (idx l i).bind g = some r → L = R := fun h => bind_some2 h fun x hx h2 => w x hx _ (k x h2)
theorem ca {α β ρ : Type} {P : Program} {H : Hints} {X : Ext} {call : CallT} {n : Nat} {m : Option α} {g : α → Option β} {r : β} {f : FuncId} {a : List AV} {p : Hp} {v : α → Option (AV × Hp)} {L : ρ} {L1 : α → ρ} {R : ρ} (hc : ∀ g l h, call false g l h = callN P H X n g l h) (hk : ∀ y, m = some y → callN P H X n f a p = v y) (k : ∀ y, g y = some r → L1 y = R) (w : ∀ y, call false f a p = v y → L = L1 y := by (intro y hk; (first | simp only [hk] | rewrite [hk] | (simp only [ls]; simp only [hk])); (conv => lhs; whnf); try exact rfl)) : m.bind g = some r → L = R := fun h => bind_some2 h fun y hy h2 => (w y ((hc _ _ _).trans (hk y hy))).trans (k y h2)
theorem nb {γ α ρ : Type} {l : List γ} {a b : Option α} {r : α} {L L1 L2 R : ρ} (k1 : a = some r → L1 = R) (k2 : b = some r → L2 = R) (w1 : l = [] → L = L1 := by (intro hc; simp only [hc, ls, List.map_nil]; (conv => lhs; whnf); try exact rfl)) (w2 : decide (l.length = 0) = false → L = L2 := by (intro hc; simp only [hc, ls]; (conv => lhs; whnf); try exact rfl)) : (bif decide (l.length = 0) then a else b) = some r → L = R := by
  by_cases h : l.length = 0
  · rw [decide_eq_true h]; exact fun e => (w1 (List.eq_nil_of_length_eq_zero h)).trans (k1 e)
  · rw [decide_eq_false h]; exact fun e => (w2 (decide_eq_false h)).trans (k2 e)
theorem cr {α β ρ : Type} {P : Program} {H : Hints} {X : Ext} {call : CallT} {n : Nat} {m : Option α} {g : α → Option β} {r : β} {f : FuncId} {a : List AV} {p : Hp} {v : α → Option (AV × Hp)} {L : ρ} {L1 : α → ρ} {R : ρ} (hc : ∀ g l h, call false g l h = callN P H X n g l h) (hk : ∀ y, m = some y → callN P H X n f a p = v y) (k : ∀ y, g y = some r → L1 y = R) (w : ∀ y, call false f a p = v y → L = L1 y := by (intro y hk; (try simp only [List.length_nil, List.map_nil] at hk); (try simp only [List.length_nil, List.map_nil]); (first | ((try simp only [ls]); simp only [hk]) | ((try simp only [List.drop_zero] at hk); (try simp only [List.drop_zero, ls]); simp only [hk]) | simp only [hk] | rewrite [hk]); (try simp only [ls]); (conv => lhs; whnf); try exact rfl)) : m.bind g = some r → L = R := ca hc hk k w
theorem ap {α : Type} (f : α → List AV) (a : List (List AV)) (l : List α) (y : List (List AV)) (m : List α) (ha : a = List.map f l := by rfl) (hy : y = List.map f m := by rfl) : a ++ y = List.map f (l ++ m) ∧ a.length + y.length = (l ++ m).length ∧ l.length + y.length = (l ++ m).length ∧ l.length + m.length = (l ++ m).length ∧ a.length + m.length = (l ++ m).length := by
  subst ha; subst hy; simp
theorem ar {α ρ : Type} {c : Bool} {a : Option α} {r : α} {E : Prop} {L L1 R : ρ} (e : E) (k1 : a = some r → L1 = R) (w1 : c = true → E → ∀ q, L1 = q → L = q := by (intro hc he q hq; (first | refine bif_pos (app_row hc (by first | rfl | simp only [List.length_map]) (by first | rfl | simp only [List.length_map]) (by first | rfl | simp only [List.length_map, take_map_len]) (by kernel_rfl)) ?_ | refine bif_pos (app_row2 hc (by first | rfl | simp only [List.length_map]) (by first | rfl | simp only [List.length_map, take_map_len]) (by kernel_rfl)) ?_ | skip); (try simp only [lt]); (try simp only [he]); (try simp only [ls, c0]); (try simp only [he]); (try simp only [ls]); (conv => lhs; whnf); exact hq)) : (bif c then a else none) = some r → L = R := chk_k fun hc h => w1 hc e _ (k1 h)
theorem rz {α ρ : Type} {a r : α} {L R : ρ} (k : a = r → L = R := by (intro e; cases e; first | rfl | (simp only [ls] <;> rfl))) : some a = some r → L = R := fun h => k (sj h)
end Go.Proofs.Ytejkhpgahnncnaa
end

section
namespace Go.Proofs.Ytejkhpgahnncnaa
set_option linter.unusedVariables false
set_option linter.unusedSimpArgs false
theorem rep_agg {α : Type} {r : Rd α} {enc : α → List AV} (he : Enc r enc) {W : World} {cs : Array Value} {x : α} (h : r.rel W (Value.agg cs).cells.toList x) : Rep (SAll W) W [] [] (.agg (enc x)) (.agg cs) := by
  obtain ⟨h1, h2⟩ := he _ _ _ h
  cases cs
  exact .agg _ _ _ _ h1 h2
theorem bs_inj {a b : List UInt8} (h : bs a = bs b) : a = b := by
  have := congrArg (fun x : ByteArray => x.data.toList) h
  simpa [bs] using this
def rd_int_i64 : Rd Int := rInt .i64
theorem op_int_i64 : Opens Try.prog 3 rd_int_i64 := opens_int Try.underlying3 (by kernel_rfl)
theorem en_int_i64 : Enc rd_int_i64 encI := enc_int _
def rd_sl_int : Rd (List Int) := rSlice rd_int_i64
theorem op_sl_int : Opens Try.prog 22 rd_sl_int := opens_slice Try.underlying22 (by kernel_rfl) op_int_i64 (by decide)
theorem en_sl_int : Enc rd_sl_int (fun l => [AV.sl 1 (l.map encI)]) := enc_slice en_int_i64
def rd_api_Op : Rd OpS := rMap (fun x => ⟨x.1, x.2.1, x.2.2⟩) (rPair rd_int_i64 (rPair rd_int_i64 rd_int_i64))
theorem op_api_Op : Opens Try.prog 99 rd_api_Op := opens_map _ (opens_struct Try.underlying99 (by kernel_rfl) (fields_cons rfl op_int_i64 (fields_cons rfl op_int_i64 (fields_one rfl op_int_i64) (by decide)) (by decide)))
theorem en_api_Op : Enc rd_api_Op encOp := enc_map (fun _ => rfl) (enc_pair en_int_i64 (enc_pair en_int_i64 en_int_i64))
def rd_sl_api_Op : Rd (List OpS) := rSlice rd_api_Op
theorem op_sl_api_Op : Opens Try.prog 53 rd_sl_api_Op := opens_slice Try.underlying53 (by kernel_rfl) op_api_Op (by decide)
theorem en_sl_api_Op : Enc rd_sl_api_Op (fun l => [AV.sl 3 (l.map encOp)]) := enc_slice en_api_Op
def rd_bool : Rd Bool := rBool
theorem op_bool : Opens Try.prog 4 rd_bool := opens_bool Try.underlying4 (by kernel_rfl)
theorem en_bool : Enc rd_bool encBl := enc_bool
def rd_api_Instr : Rd InstrS := rMap (fun x => ⟨x.1, x.2.1, x.2.2.1, x.2.2.2.1, x.2.2.2.2.1, x.2.2.2.2.2.1, x.2.2.2.2.2.2⟩) (rPair rd_int_i64 (rPair rd_int_i64 (rPair rd_int_i64 (rPair rd_sl_api_Op (rPair rd_sl_api_Op (rPair rd_bool rd_int_i64))))))
theorem op_api_Instr : Opens Try.prog 55 rd_api_Instr := opens_map _ (opens_struct Try.underlying55 (by kernel_rfl) (fields_cons rfl op_int_i64 (fields_cons rfl op_int_i64 (fields_cons rfl op_int_i64 (fields_cons rfl op_sl_api_Op (fields_cons rfl op_sl_api_Op (fields_cons rfl op_bool (fields_one rfl op_int_i64) (by decide)) (by decide)) (by decide)) (by decide)) (by decide)) (by decide)))
theorem en_api_Instr : Enc rd_api_Instr encIn := enc_map (fun _ => rfl) (enc_pair en_int_i64 (enc_pair en_int_i64 (enc_pair en_int_i64 (enc_pair en_sl_api_Op (enc_pair en_sl_api_Op (enc_pair en_bool en_int_i64))))))
def rd_sl_api_Instr : Rd (List InstrS) := rSlice rd_api_Instr
theorem op_sl_api_Instr : Opens Try.prog 52 rd_sl_api_Instr := opens_slice Try.underlying52 (by kernel_rfl) op_api_Instr (by decide)
theorem en_sl_api_Instr : Enc rd_sl_api_Instr (fun l => [AV.sl 7 (l.map encIn)]) := enc_slice en_api_Instr
def rd_sl_sl_api_Instr : Rd (List (List InstrS)) := rSlice rd_sl_api_Instr
theorem op_sl_sl_api_Instr : Opens Try.prog 23 rd_sl_sl_api_Instr := opens_slice Try.underlying23 (by kernel_rfl) op_sl_api_Instr (by decide)
theorem en_sl_sl_api_Instr : Enc rd_sl_sl_api_Instr (fun l => [AV.sl 1 (l.map encThr)]) := enc_slice en_sl_api_Instr
def rd_api_Unit : Rd UnitS := rMap (fun x => ⟨x.1, x.2.1, x.2.2.1, x.2.2.2⟩) (rPair rd_int_i64 (rPair rd_sl_int (rPair rd_sl_int rd_sl_sl_api_Instr)))
theorem op_api_Unit : Opens Try.prog 25 rd_api_Unit := opens_map _ (opens_struct Try.underlying25 (by kernel_rfl) (fields_cons rfl op_int_i64 (fields_cons rfl op_sl_int (fields_cons rfl op_sl_int (fields_one rfl op_sl_sl_api_Instr) (by decide)) (by decide)) (by decide)))
theorem en_api_Unit : Enc rd_api_Unit cellsU := enc_map (fun _ => rfl) (enc_pair en_int_i64 (enc_pair en_sl_int (enc_pair en_sl_int en_sl_sl_api_Instr)))
def rd_string : Rd (List UInt8) := rStr
theorem op_string : Opens Try.prog 9 rd_string := opens_str Try.underlying9 (by kernel_rfl)
end Go.Proofs.Ytejkhpgahnncnaa
end

section
namespace Go.Proofs.Ytejkhpgahnncnaa
open Go.RowKit
set_option linter.unusedVariables false
set_option linter.unusedSimpArgs false

section
variable {P : Program} {ops : Array Oper} {md : Region.Mode} {w0 : World}

def Steady (Φ : World → Prop) : Prop := ∀ w w' : World, Below w.heap.size w w' → Φ w → Φ w'
theorem Steady.and {Φ Χ : World → Prop} (h : Steady Φ) (k : Steady Χ) : Steady fun w => Φ w ∧ Χ w := fun w w' hb hw => ⟨h w w' hb hw.1, k w w' hb hw.2⟩
/-- The block to which a value points. -/
def blkOf : Value → Option Nat
  | .slice (some ad) _ _ => some ad.block
  | .pointer (some ad) => some ad.block
  | _ => none
/-- What is known, and which blocks are new. -/
abbrev Fx := (World → Prop) × (Nat → Prop)
def Fx.upd (b : Fx) (φ : Value → World → Prop) (v : Value) : Fx := (fun w => b.1 w ∧ φ v w, fun k => b.2 k ∨ blkOf v = some k)
def Fx.free (b : Fx) (v : Value) : Prop := ∀ k, blkOf v = some k → ¬ b.2 k
def Fx.fin (b : Fx) : Prop := ∃ N, ∀ k, b.2 k → k < N
theorem Fx.comm (b : Fx) (φ χ : Value → World → Prop) (v u : Value) : (b.upd φ v).upd χ u = (b.upd χ u).upd φ v := by
  unfold Fx.upd
  congr 1
  · funext w; exact propext and_right_comm
  · funext k; exact propext or_right_comm
/-- An operation's run: what it hands back is so. -/
def RunsTo (P : Program) (w : World) (Φ : Value → World → Prop) : Result Next → Prop
  | .ok (.value u) w' => Below w.heap.size w w' ∧ Φ u w' ∧ ∀ k, blkOf u = some k → w.heap.size ≤ k ∧ k < w'.heap.size
  | .ok (.enter f args) w' => w' = w ∧ Calls P f args w fun e w'' => ∃ v, e = .returned v ∧ Below w.heap.size w w'' ∧ Φ v w'' ∧ ∀ k, blkOf v = some k → w.heap.size ≤ k ∧ k < w''.heap.size
  | _ => False

def SpecAt (P : Program) (ops : Array Oper) (w0 : World) (o : Oper) (ψ : Sem Next → Value → World → Prop) (a : Act) : Prop :=
  Region.wanted o (yielded ops a.tmps) = true ∧ ∀ s : Later w0, RunsTo P s.world (ψ (execOp a.eval o)) ((execOp a.eval o).run P s.world)
theorem SpecAt.of_same {o : Oper} {ψ : Sem Next → Value → World → Prop} {a a' : Act} (hy : SpecAt P ops w0 o ψ a) (he : execOp a'.eval o = execOp a.eval o)
    (hw : Region.wanted o (yielded ops a'.tmps) = Region.wanted o (yielded ops a.tmps)) : SpecAt P ops w0 o ψ a' := by
  unfold SpecAt at *
  rw [hw, he]; exact hy

variable {Ψ : Spec}

end
end Go.Proofs.Ytejkhpgahnncnaa
end

section
namespace Go.Proofs.Ytejkhpgahnncnaa
open Go.RowKit
set_option linter.unusedVariables false
set_option linter.unusedSimpArgs false

/-- Cells of new blocks. -/
def SNew (B : Nat) (w : World) (b o : Nat) : Prop := B ≤ b ∧ ∃ v, stay w b o = some v ∧ v.2.2 = (0, 0)
theorem sext_of {S : Nat → Nat → Prop} {w w' : World} (h : ∀ b o, S b o → w'.heap[b]? = w.heap[b]?) : SExt S w S w' := fun b o hs => ⟨hs, stay_heap (h b o hs) o⟩
theorem ones_ints (l : List Int) : Ones (l.map (Value.int .i64)) := by
  intro v hv
  obtain ⟨x, _, rfl⟩ := List.mem_map.1 hv
  rfl
/-- New numbers: the cells that hold them. -/
structure NumsAt (B : Nat) (w : World) (l : List Int) (v : Value) : Prop where
  is : ∃ S : Nat → Nat → Prop, Rep S w [] [] (aIs l) v ∧ ∀ b o, S b o → SNew B w b o ∧ ∃ x, w.cell? ⟨b, o, none⟩ = some (.int .i64 x)
theorem NumsAt.later {B : Nat} {w w' : World} {l : List Int} {v : Value} (h : NumsAt B w l v) (hb : Below w.heap.size w w') : NumsAt B w' l v := by
  obtain ⟨S, h1, h2⟩ := h.is
  have hx : ∀ b o, S b o → w'.heap[b]? = w.heap[b]? := fun b o hs => by
    obtain ⟨⟨_, u, hu, _⟩, _⟩ := h2 b o hs
    exact hb.block b (stay_lt hu)
  refine ⟨S, Rep.mono (sext_of hx) h1 (.refl _ _), fun b o hs => ?_⟩
  obtain ⟨⟨h3, u, hu, hf⟩, x, hc⟩ := h2 b o hs
  exact ⟨⟨h3, u, (stay_heap (hx b o hs) o).trans hu, hf⟩, x, cell_later hb hc⟩

end Go.Proofs.Ytejkhpgahnncnaa
end

