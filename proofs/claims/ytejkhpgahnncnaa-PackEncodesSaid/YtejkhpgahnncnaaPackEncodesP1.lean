/- Parts of the proofs: what they lean on. Conditions: none. -/
import Derived.Test.YtejkhpgahnncnaaProg
import Derived.Test.YtejkhpgahnncnaaPkS12
section
namespace Go.Proofs.Ytejkhpgahnncnaa
open Go.RowKit Go.WideShapes
set_option linter.unusedVariables false
set_option linter.unusedSimpArgs false

theorem okWide_struct' {P : Program} {w : World} {r : Reach} {base : Nat} {t : TypeId} {v : Value} {fs : Array Field} (ht : P.underlying t = some (.struct fs)) (h : Value.okWide P w r base t v) : ∃ cs, v = .agg cs := by
  simp only [Value.okWide, ht] at h
  obtain ⟨cs, rfl, _⟩ := h
  exact ⟨cs, rfl⟩
end Go.Proofs.Ytejkhpgahnncnaa
end

section
namespace Go.Proofs.Ytejkhpgahnncnaa
set_option linter.unusedVariables false
structure S_law12_Case where
  f_U : UnitS
  f_C : ConfS
  f_Model : Int
  f_Room : Int
  deriving DecidableEq
def c_law12_Case (x : S_law12_Case) : List AV := [AV.int .i64 (x.f_U.mod), AV.sl 1 (List.map encI (x.f_U.init)), AV.sl 1 (List.map encI (x.f_U.regs)), AV.sl 1 (List.map encThr (x.f_U.code)), AV.sl 1 (List.map encI (x.f_C.pc)), AV.sl 1 (List.map encRow (x.f_C.regs)), AV.sl 1 (List.map encI (x.f_C.mem)), AV.sl 1 (List.map encBuf (x.f_C.buf)), AV.int .i64 (x.f_Model), AV.int .i64 (x.f_Room)]
theorem ls : (∀ {α β : Type} {f : α → β} {l : List α}, (l.map f).length = l.length) ∧ (∀ {α β : Type} (f : α → β) (l : List α), List.take l.length (List.map f l) = List.map f l) ∧ Program.cellsOf Try.prog 38 = 1 ∧ Program.cellsOf Try.prog 52 = 1 ∧ Program.cellsOf Try.prog 22 = 1 ∧ Program.cellsOf Try.prog 40 = 2 ∧ Program.cellsOf Try.prog 55 = 7 ∧ Program.cellsOf Try.prog 99 = 3 ∧ Program.cellsOf Try.prog 3 = 1 ∧ Program.cellsOf Try.prog 5 = 1 :=
  ⟨List.length_map .., take_map_len, by kernel_rfl, by kernel_rfl, by kernel_rfl, by kernel_rfl, by kernel_rfl, by kernel_rfl, by kernel_rfl, by kernel_rfl⟩
theorem lt : (∀ {α β : Type} (f : α → β) (l : List α), List.take l.length (List.map f l) = List.map f l) ∧ Program.cellsOf Try.prog 38 = 1 ∧ Program.cellsOf Try.prog 52 = 1 ∧ Program.cellsOf Try.prog 22 = 1 ∧ Program.cellsOf Try.prog 40 = 2 ∧ Program.cellsOf Try.prog 55 = 7 ∧ Program.cellsOf Try.prog 99 = 3 ∧ Program.cellsOf Try.prog 3 = 1 ∧ Program.cellsOf Try.prog 5 = 1 :=
  ls.2
theorem cq {ρ : Type} {cont : Tm → Hp → Option ρ} {tm tm' : Tm} {hp hp' : Hp} {r : Option ρ} (h : cont tm' hp' = r) (h1 : tm = tm' := by first | rfl | (simp only [ls] <;> rfl) | (simp only [ls, List.map_append, List.map_cons, List.map_nil, List.append_nil, List.length_set, length_copyL] <;> rfl)) (h2 : hp = hp' := by first | rfl | (simp only [ls] <;> rfl) | (simp only [ls, List.map_append, List.map_cons, List.map_nil, List.append_nil, List.length_set, length_copyL] <;> rfl)) : cont tm hp = r := cont_eq h h1 h2
theorem kq {ρ : Type} {K : Ex → Tm → Hp → Option ρ} {e : Ex} {tm tm' : Tm} {hp hp' : Hp} {r : Option ρ} (h : K e tm' hp' = r) (h1 : tm = tm' := by first | rfl | (simp only [ls] <;> rfl) | (simp only [ls, List.map_append, List.map_cons, List.map_nil, List.append_nil, List.length_set, length_copyL] <;> rfl)) (h2 : hp = hp' := by first | rfl | (simp only [ls] <;> rfl) | (simp only [ls, List.map_append, List.map_cons, List.map_nil, List.append_nil, List.length_set, length_copyL] <;> rfl)) : K e tm hp = r := kont_eq h h1 h2
theorem fq {ρ : Type} {x y z : Option ρ} (h : x = y := by first | rfl | (simp only [length_copyL, List.length_set] <;> rfl) | (simp only [ls] <;> rfl) | ((conv => lhs; arg 1; arg 1; whnf); simp only [dec_self]; rfl)) (h2 : y = z := by first | rfl | (simp only [List.map_take, List.map_drop]; done) | (simp only [List.map_take, List.map_drop] <;> rfl) | (simp only [ls, List.drop_zero, List.length_set, length_copyL] <;> rfl)) : x = z := h.trans h2
theorem c0 : ((0 : Nat) : Int) = 0 := rfl
theorem rq {ρ : Type} {x z : Option ρ} (h : x = z := by first | rfl | (simp only [ls] <;> rfl)) : x = z := h
abbrev iA (x : Int) : AV := .int .i64 x
abbrev bA (x : Bool) : AV := .bool x
abbrev sA (x : List UInt8) : AV := .str x
theorem sj {α : Type} {a r : α} (h : some a = some r) : a = r := Option.some.inj h
theorem lq {ρ σ τ ν : Type} {body : Tm → Hp → (Ex → Tm → Hp → Option ρ) → Option ρ} {keep : Nat → List Nat} {h0 : Nat} {K : Ex → Tm → Hp → Option ρ} {r : Option ρ} (id : Nat) (tmOf : σ → (Nat → Nat) → Tm) (hpOf : σ → (Nat → Nat) → Hp) (tmX : τ → (Nat → Nat) → Tm) (hpX : τ → (Nat → Nat) → Hp) (encR : ν → ρ) (L : Nat → σ → Option (LR τ ν)) (hL : ∀ s, L 0 s = none) (o : LR τ ν) (n : Nat) (s : σ) (a : Nat → Nat) {tm : Tm} {hp : Hp} (h : L n s = some o)
    (hround : ∀ (k : Nat) (s : σ) (a : Nat → Nat) (K' : Ex → Tm → Hp → Option ρ) (cont : Tm → Hp → Option ρ), (∀ tm hp, K' .ret tm hp = K .ret tm hp) → (∀ s' a', L k s' = some o → cont (tmOf s' a') (hpOf s' a') = r) → L (k + 1) s = some o → LRes K' id tmX hpX encR r o →
      forceL force (fun tm => forceHp (fun hp => body tm hp (fun e tm hp => forceL force (fun tm => forceHp (fun hp => match e with
        | .normal => cont tm hp
        | .exit id => K' (.exit id) tm hp
        | .ret => K' .ret tm hp) (waneHp h0 hp)) (keepTm (keep (exMode e)) h0 hp 0 tm))) (hpOf s a)) (tmOf s a) = r)
    (hx : LRes K id tmX hpX encR r o)
    (h1 : tm = tmOf s a := by first | rfl | (simp only [ls] <;> rfl) | (simp only [ls, List.map_append, List.map_cons, List.map_nil, List.append_nil, List.length_set, length_copyL] <;> rfl)) (h2 : hp = hpOf s a := by first | rfl | (simp only [ls] <;> rfl) | (simp only [ls, List.map_append, List.map_cons, List.map_nil, List.append_nil, List.length_set, length_copyL] <;> rfl)) : rounds body keep h0 n tm hp K = r :=
  rounds_sim id tmOf hpOf tmX hpX encR L hL o hround n s a tm hp h hx h1 h2
theorem lrc {ρ τ ν : Type} {K : Ex → Tm → Hp → Option ρ} {id : Nat} {tmX : τ → (Nat → Nat) → Tm} {hpX : τ → (Nat → Nat) → Hp} {encR : ν → ρ} {r : Option ρ} {o : LR τ ν} (h1 : ∀ v, o = .ret v → r = some (encR v)) (h2 : ∀ t a, o = .out t → K (.exit id) (tmX t a) (hpX t a) = r) : LRes K id tmX hpX encR r o := by
  cases o with
  | out t => exact fun a => h2 t a rfl
  | ret v => exact h1 v rfl
theorem nn {α : Type} {r : α} {P : Prop} : (none : Option α) = some r → P := fun h => by cases h
theorem chk_k {α : Type} {c : Bool} {a : Option α} {r : α} {G : Prop} (h1 : c = true → a = some r → G) : (bif c then a else none) = some r → G := fun h => chk_some2 h h1
theorem br {α ρ : Type} {c : Bool} {a b : Option α} {r : α} {L L1 L2 R : ρ} (k1 : a = some r → L1 = R) (k2 : b = some r → L2 = R) (w1 : c = true → L = L1 := by (intro hc; simp only [hc, ls]; (conv => lhs; whnf); try exact rfl)) (w2 : c = false → L = L2 := by (intro hc; simp only [hc, ls]; (conv => lhs; whnf); try exact rfl)) : (bif c then a else b) = some r → L = R := by
  cases c
  · exact fun h => (w2 rfl).trans (k2 h)
  · exact fun h => (w1 rfl).trans (k1 h)
theorem cp {α ρ : Type} {c : Bool} {a : Option α} {r : α} {L L1 R : ρ} (k1 : a = some r → L1 = R) (w1 : c = true → ∀ q, L1 = q → L = q := by (intro hc q hq; refine bif_pos hc ?_; (try simp only [ls]); (conv => lhs; whnf); exact hq)) : (bif c then a else none) = some r → L = R := chk_k fun hc h => w1 hc _ (k1 h)
theorem sl {α : Type} (f : α → List AV) (l : List α) (i j : Nat) : List.drop i (List.take j (List.map f l)) = List.map f (List.drop i (List.take j l)) := by rw [List.map_drop, List.map_take]
theorem cs {α ρ : Type} {c : Bool} {a : Option α} {r : α} {E : Prop} {L L1 R : ρ} (e : E) (k1 : a = some r → L1 = R) (w1 : c = true → E → ∀ q, L1 = q → L = q := by (intro hc he q hq; (try simp only [ls]); refine bif_pos hc ?_; simp only [he, ls]; (conv => lhs; whnf); exact hq)) : (bif c then a else none) = some r → L = R := chk_k fun hc h => w1 hc e _ (k1 h)
theorem ix {α β ρ : Type} {l : List α} {i : Int} {g : α → Option β} {r : β} {L : ρ} {L1 : α → ρ} {R : ρ} (k : ∀ x, g x = some r → L1 x = R) (w : ∀ x, idx l i = some x → ∀ q, L1 x = q → L = q := by (intro x hx q hq; refine bif_pos (by first | exact idx_in hx | exact idx_in' hx | (have z := idx_in hx; simp only [ls] at z ⊢; exact z)) ?_; simp only [idx_nth hx, ls]; (conv => lhs; whnf); exact hq)) : (idx l i).bind g = some r → L = R := fun h => bind_some2 h fun x hx h2 => w x hx _ (k x h2)
theorem ca {α β ρ : Type} {P : Program} {H : Hints} {X : Ext} {call : CallT} {n : Nat} {m : Option α} {g : α → Option β} {r : β} {f : FuncId} {a : List AV} {p : Hp} {v : α → Option (AV × Hp)} {L : ρ} {L1 : α → ρ} {R : ρ} (hc : ∀ g l h, call false g l h = callN P H X n g l h) (hk : ∀ y, m = some y → callN P H X n f a p = v y) (k : ∀ y, g y = some r → L1 y = R) (w : ∀ y, call false f a p = v y → L = L1 y := by (intro y hk; (first | simp only [hk] | rewrite [hk] | (simp only [ls]; simp only [hk])); (conv => lhs; whnf); try exact rfl)) : m.bind g = some r → L = R := fun h => bind_some2 h fun y hy h2 => (w y ((hc _ _ _).trans (hk y hy))).trans (k y h2)
theorem cr {α β ρ : Type} {P : Program} {H : Hints} {X : Ext} {call : CallT} {n : Nat} {m : Option α} {g : α → Option β} {r : β} {f : FuncId} {a : List AV} {p : Hp} {v : α → Option (AV × Hp)} {L : ρ} {L1 : α → ρ} {R : ρ} (hc : ∀ g l h, call false g l h = callN P H X n g l h) (hk : ∀ y, m = some y → callN P H X n f a p = v y) (k : ∀ y, g y = some r → L1 y = R) (w : ∀ y, call false f a p = v y → L = L1 y := by (intro y hk; (try simp only [List.length_nil, List.map_nil] at hk); (try simp only [List.length_nil, List.map_nil]); (first | ((try simp only [ls]); simp only [hk]) | ((try simp only [List.drop_zero] at hk); (try simp only [List.drop_zero, ls]); simp only [hk]) | simp only [hk] | rewrite [hk]); (try simp only [ls]); (conv => lhs; whnf); try exact rfl)) : m.bind g = some r → L = R := ca hc hk k w
theorem ap {α : Type} (f : α → List AV) (a : List (List AV)) (l : List α) (y : List (List AV)) (m : List α) (ha : a = List.map f l := by rfl) (hy : y = List.map f m := by rfl) : a ++ y = List.map f (l ++ m) ∧ a.length + y.length = (l ++ m).length ∧ l.length + y.length = (l ++ m).length ∧ l.length + m.length = (l ++ m).length ∧ a.length + m.length = (l ++ m).length := by
  subst ha; subst hy; simp
theorem ar {α ρ : Type} {c : Bool} {a : Option α} {r : α} {E : Prop} {L L1 R : ρ} (e : E) (k1 : a = some r → L1 = R) (w1 : c = true → E → ∀ q, L1 = q → L = q := by (intro hc he q hq; (first | refine bif_pos (app_row hc (by first | rfl | simp only [List.length_map]) (by first | rfl | simp only [List.length_map]) (by first | rfl | simp only [List.length_map, take_map_len]) (by kernel_rfl)) ?_ | refine bif_pos (app_row2 hc (by first | rfl | simp only [List.length_map]) (by first | rfl | simp only [List.length_map, take_map_len]) (by kernel_rfl)) ?_ | skip); (try simp only [lt]); (try simp only [he]); (try simp only [ls, c0]); (try simp only [he]); (try simp only [ls]); (conv => lhs; whnf); exact hq)) : (bif c then a else none) = some r → L = R := chk_k fun hc h => w1 hc e _ (k1 h)
theorem rz {α ρ : Type} {a r : α} {L R : ρ} (k : a = r → L = R := by (intro e; cases e; first | rfl | (simp only [ls] <;> rfl))) : some a = some r → L = R := fun h => k (sj h)
end Go.Proofs.Ytejkhpgahnncnaa
end

section
namespace Go.Proofs.Ytejkhpgahnncnaa
set_option linter.unusedVariables false
set_option linter.unusedSimpArgs false
theorem rep_agg {α : Type} {r : Rd α} {enc : α → List AV} (he : Enc r enc) {W : World} {cs : Array Value} {x : α} (h : r.rel W (Value.agg cs).cells.toList x) : Rep (SAll W) W [] [] (.agg (enc x)) (.agg cs) := by
  obtain ⟨h1, h2⟩ := he _ _ _ h
  cases cs
  exact .agg _ _ _ _ h1 h2
theorem bs_inj {a b : List UInt8} (h : bs a = bs b) : a = b := by
  have := congrArg (fun x : ByteArray => x.data.toList) h
  simpa [bs] using this
def rd_int_i64 : Rd Int := rInt .i64
theorem op_int_i64 : Opens Try.prog 3 rd_int_i64 := opens_int Try.underlying3 (by kernel_rfl)
theorem en_int_i64 : Enc rd_int_i64 encI := enc_int _
def rd_sl_int : Rd (List Int) := rSlice rd_int_i64
theorem op_sl_int : Opens Try.prog 22 rd_sl_int := opens_slice Try.underlying22 (by kernel_rfl) op_int_i64 (by decide)
theorem en_sl_int : Enc rd_sl_int (fun l => [AV.sl 1 (l.map encI)]) := enc_slice en_int_i64
def rd_api_Op : Rd OpS := rMap (fun x => ⟨x.1, x.2.1, x.2.2⟩) (rPair rd_int_i64 (rPair rd_int_i64 rd_int_i64))
theorem op_api_Op : Opens Try.prog 99 rd_api_Op := opens_map _ (opens_struct Try.underlying99 (by kernel_rfl) (fields_cons rfl op_int_i64 (fields_cons rfl op_int_i64 (fields_one rfl op_int_i64) (by decide)) (by decide)))
theorem en_api_Op : Enc rd_api_Op encOp := enc_map (fun _ => rfl) (enc_pair en_int_i64 (enc_pair en_int_i64 en_int_i64))
def rd_sl_api_Op : Rd (List OpS) := rSlice rd_api_Op
theorem op_sl_api_Op : Opens Try.prog 53 rd_sl_api_Op := opens_slice Try.underlying53 (by kernel_rfl) op_api_Op (by decide)
theorem en_sl_api_Op : Enc rd_sl_api_Op (fun l => [AV.sl 3 (l.map encOp)]) := enc_slice en_api_Op
def rd_bool : Rd Bool := rBool
theorem op_bool : Opens Try.prog 4 rd_bool := opens_bool Try.underlying4 (by kernel_rfl)
theorem en_bool : Enc rd_bool encBl := enc_bool
def rd_api_Instr : Rd InstrS := rMap (fun x => ⟨x.1, x.2.1, x.2.2.1, x.2.2.2.1, x.2.2.2.2.1, x.2.2.2.2.2.1, x.2.2.2.2.2.2⟩) (rPair rd_int_i64 (rPair rd_int_i64 (rPair rd_int_i64 (rPair rd_sl_api_Op (rPair rd_sl_api_Op (rPair rd_bool rd_int_i64))))))
theorem op_api_Instr : Opens Try.prog 55 rd_api_Instr := opens_map _ (opens_struct Try.underlying55 (by kernel_rfl) (fields_cons rfl op_int_i64 (fields_cons rfl op_int_i64 (fields_cons rfl op_int_i64 (fields_cons rfl op_sl_api_Op (fields_cons rfl op_sl_api_Op (fields_cons rfl op_bool (fields_one rfl op_int_i64) (by decide)) (by decide)) (by decide)) (by decide)) (by decide)) (by decide)))
theorem en_api_Instr : Enc rd_api_Instr encIn := enc_map (fun _ => rfl) (enc_pair en_int_i64 (enc_pair en_int_i64 (enc_pair en_int_i64 (enc_pair en_sl_api_Op (enc_pair en_sl_api_Op (enc_pair en_bool en_int_i64))))))
def rd_sl_api_Instr : Rd (List InstrS) := rSlice rd_api_Instr
theorem op_sl_api_Instr : Opens Try.prog 52 rd_sl_api_Instr := opens_slice Try.underlying52 (by kernel_rfl) op_api_Instr (by decide)
theorem en_sl_api_Instr : Enc rd_sl_api_Instr (fun l => [AV.sl 7 (l.map encIn)]) := enc_slice en_api_Instr
def rd_sl_sl_api_Instr : Rd (List (List InstrS)) := rSlice rd_sl_api_Instr
theorem op_sl_sl_api_Instr : Opens Try.prog 23 rd_sl_sl_api_Instr := opens_slice Try.underlying23 (by kernel_rfl) op_sl_api_Instr (by decide)
theorem en_sl_sl_api_Instr : Enc rd_sl_sl_api_Instr (fun l => [AV.sl 1 (l.map encThr)]) := enc_slice en_sl_api_Instr
def rd_api_Unit : Rd UnitS := rMap (fun x => ⟨x.1, x.2.1, x.2.2.1, x.2.2.2⟩) (rPair rd_int_i64 (rPair rd_sl_int (rPair rd_sl_int rd_sl_sl_api_Instr)))
theorem op_api_Unit : Opens Try.prog 25 rd_api_Unit := opens_map _ (opens_struct Try.underlying25 (by kernel_rfl) (fields_cons rfl op_int_i64 (fields_cons rfl op_sl_int (fields_cons rfl op_sl_int (fields_one rfl op_sl_sl_api_Instr) (by decide)) (by decide)) (by decide)))
theorem en_api_Unit : Enc rd_api_Unit cellsU := enc_map (fun _ => rfl) (enc_pair en_int_i64 (enc_pair en_sl_int (enc_pair en_sl_int en_sl_sl_api_Instr)))
def rd_sl_sl_int : Rd (List (List Int)) := rSlice rd_sl_int
theorem op_sl_sl_int : Opens Try.prog 28 rd_sl_sl_int := opens_slice Try.underlying28 (by kernel_rfl) op_sl_int (by decide)
theorem en_sl_sl_int : Enc rd_sl_sl_int (fun l => [AV.sl 1 (l.map encRow)]) := enc_slice en_sl_int
def rd_api_Entry : Rd EntryS := rMap (fun x => ⟨x.1, x.2⟩) (rPair rd_int_i64 rd_int_i64)
theorem op_api_Entry : Opens Try.prog 40 rd_api_Entry := opens_map _ (opens_struct Try.underlying40 (by kernel_rfl) (fields_cons rfl op_int_i64 (fields_one rfl op_int_i64) (by decide)))
theorem en_api_Entry : Enc rd_api_Entry encE := enc_map (fun _ => rfl) (enc_pair en_int_i64 en_int_i64)
def rd_sl_api_Entry : Rd (List EntryS) := rSlice rd_api_Entry
theorem op_sl_api_Entry : Opens Try.prog 38 rd_sl_api_Entry := opens_slice Try.underlying38 (by kernel_rfl) op_api_Entry (by decide)
theorem en_sl_api_Entry : Enc rd_sl_api_Entry (fun l => [AV.sl 2 (l.map encE)]) := enc_slice en_api_Entry
def rd_sl_sl_api_Entry : Rd (List (List EntryS)) := rSlice rd_sl_api_Entry
theorem op_sl_sl_api_Entry : Opens Try.prog 29 rd_sl_sl_api_Entry := opens_slice Try.underlying29 (by kernel_rfl) op_sl_api_Entry (by decide)
theorem en_sl_sl_api_Entry : Enc rd_sl_sl_api_Entry (fun l => [AV.sl 1 (l.map encBuf)]) := enc_slice en_sl_api_Entry
def rd_api_Conf : Rd ConfS := rMap (fun x => ⟨x.1, x.2.1, x.2.2.1, x.2.2.2⟩) (rPair rd_sl_int (rPair rd_sl_sl_int (rPair rd_sl_int rd_sl_sl_api_Entry)))
theorem op_api_Conf : Opens Try.prog 31 rd_api_Conf := opens_map _ (opens_struct Try.underlying31 (by kernel_rfl) (fields_cons rfl op_sl_int (fields_cons rfl op_sl_sl_int (fields_cons rfl op_sl_int (fields_one rfl op_sl_sl_api_Entry) (by decide)) (by decide)) (by decide)))
theorem en_api_Conf : Enc rd_api_Conf cellsC := enc_map (fun _ => rfl) (enc_pair en_sl_int (enc_pair en_sl_sl_int (enc_pair en_sl_int en_sl_sl_api_Entry)))
def rd_law12_Case : Rd S_law12_Case := rMap (fun x => ⟨x.1, x.2.1, x.2.2.1, x.2.2.2⟩) (rPair rd_api_Unit (rPair rd_api_Conf (rPair rd_int_i64 rd_int_i64)))
theorem op_law12_Case : Opens Try.prog 42 rd_law12_Case := opens_map _ (opens_struct Try.underlying42 (by kernel_rfl) (fields_cons rfl op_api_Unit (fields_cons rfl op_api_Conf (fields_cons rfl op_int_i64 (fields_one rfl op_int_i64) (by decide)) (by decide)) (by decide)))
theorem en_law12_Case : Enc rd_law12_Case c_law12_Case := enc_map (fun _ => rfl) (enc_pair en_api_Unit (enc_pair en_api_Conf (enc_pair en_int_i64 en_int_i64)))
end Go.Proofs.Ytejkhpgahnncnaa
end

section
namespace Go.Proofs.Ytejkhpgahnncnaa
set_option linter.unusedVariables false
set_option linter.unusedSimpArgs false
set_option maxRecDepth 100000
set_option maxHeartbeats 4000000

noncomputable abbrev CN := callN Try.prog HH XT
def m_ref06_in:Nat→Int→Int→Option Bool
  | 0,_,_=>none
  | n+1,v0_n,v1_most=>(bif decide (0≤v0_n) then (some (decide (v0_n<v1_most))) else (some false))

def ref06_All_L0 (n:Nat)  (v0_l:(List Int)) (v1_mod:Int):Nat→Int→Option (LR Unit Bool)
  | 0,_=>none
  | k2+1,s1=>(bif decide (s1<((v0_l.length:Nat):Int)) then ((idx v0_l s1).bind fun x11=>((m_ref06_in n x11 v1_mod).bind fun y12=>(bif y12 then (ref06_All_L0 n v0_l v1_mod k2 (IntKind.i64.wrap (s1+1))) else (some (.ret false))))) else (some (.out ())))
def m_ref06_All:Nat→(List Int)→Int→Option Bool
  | 0,_,_=>none
  | n+1,v0_l,v1_mod=>((ref06_All_L0 n v0_l v1_mod n 0).bind fun o9=>match o9 with|.out _=>(some true)|.ret v=>some v)

def ref08_count_L0 (n:Nat)  (v0_b:(List EntryS)) (v1_loc:Int):Nat→Int→Int→Option (LR Int Int)
  | 0,_,_=>none
  | k3+1,s1,s2=>(bif decide (s2<((v0_b.length:Nat):Int)) then ((idx v0_b s2).bind fun x12=>(bif (x12.loc==v1_loc) then (ref08_count_L0 n v0_b v1_loc k3 (IntKind.i64.wrap (s1+1)) (IntKind.i64.wrap (s2+1))) else (ref08_count_L0 n v0_b v1_loc k3 s1 (IntKind.i64.wrap (s2+1))))) else (some (.out s1)))
def m_ref08_count:Nat→(List EntryS)→Int→Option Int
  | 0,_,_=>none
  | n+1,v0_b,v1_loc=>((ref08_count_L0 n v0_b v1_loc n 0 0).bind fun o10=>match o10 with|.out x15=>(some x15)|.ret v=>some v)

def ref08_Right_L0 (n:Nat)  (v0_b:(List EntryS)) (v1_model:Int) (v2_room:Int) (v3_mod:Int) (v4_locs:Int):Nat→Int→Option (LR Unit Bool)
  | 0,_=>none
  | k8+1,s7=>(bif decide (s7<((v0_b.length:Nat):Int)) then ((idx v0_b s7).bind fun x17=>(bif decide (x17.loc<0) then (some (.ret false)) else ((idx v0_b s7).bind fun x19=>(bif decide (v4_locs≤x19.loc) then (some (.ret false)) else ((idx v0_b s7).bind fun x21=>(bif decide (x21.n<0) then (some (.ret false)) else ((idx v0_b s7).bind fun x23=>(bif decide (v3_mod≤x23.n) then (some (.ret false)) else (bif (v1_model==3) then (bif decide (0<s7) then ((idx v0_b s7).bind fun x27=>((idx v0_b (IntKind.i64.wrap (s7 - 1))).bind fun x28=>(bif decide (x27.loc<x28.loc) then (some (.ret false)) else ((idx v0_b s7).bind fun x30=>((m_ref08_count n v0_b x30.loc).bind fun y31=>(bif decide (v2_room<y31) then (some (.ret false)) else (ref08_Right_L0 n v0_b v1_model v2_room v3_mod v4_locs k8 (IntKind.i64.wrap (s7+1))))))))) else ((idx v0_b s7).bind fun x34=>((m_ref08_count n v0_b x34.loc).bind fun y35=>(bif decide (v2_room<y35) then (some (.ret false)) else (ref08_Right_L0 n v0_b v1_model v2_room v3_mod v4_locs k8 (IntKind.i64.wrap (s7+1))))))) else (ref08_Right_L0 n v0_b v1_model v2_room v3_mod v4_locs k8 (IntKind.i64.wrap (s7+1)))))))))))) else (some (.out ())))
def m_ref08_Right:Nat→(List EntryS)→Int→Int→Int→Int→Option Bool
  | 0,_,_,_,_,_=>none
  | n+1,v0_b,v1_model,v2_room,v3_mod,v4_locs=>(bif decide (v1_model<1) then (some false) else (bif decide (3<v1_model) then (some false) else (bif decide (v2_room<1) then (some false) else (bif decide (4<v2_room) then (some false) else (bif decide (v3_mod<2) then (some false) else (bif decide (16<v3_mod) then (some false) else ((ref08_Right_L0 n v0_b v1_model v2_room v3_mod v4_locs n 0).bind fun o15=>match o15 with|.out _=>(bif (v1_model != 1) then (bif (v1_model==3) then (some true) else (bif decide (((v0_b.length:Nat):Int)≤v2_room) then (some true) else (some (((v0_b.length:Nat):Int)==0)))) else (some (((v0_b.length:Nat):Int)==0)))|.ret v=>some v)))))))

def store_count_L0 (n:Nat)  (v0_b:(List EntryS)) (v1_loc:Int):Nat→Int→Int→Option (LR Int Int)
  | 0,_,_=>none
  | k3+1,s1,s2=>(bif decide (s2<((v0_b.length:Nat):Int)) then ((idx v0_b s2).bind fun x12=>(bif (x12.loc==v1_loc) then (store_count_L0 n v0_b v1_loc k3 (IntKind.i64.wrap (s1+1)) (IntKind.i64.wrap (s2+1))) else (store_count_L0 n v0_b v1_loc k3 s1 (IntKind.i64.wrap (s2+1))))) else (some (.out s1)))
def m_store_count:Nat→(List EntryS)→Int→Option Int
  | 0,_,_=>none
  | n+1,v0_b,v1_loc=>((store_count_L0 n v0_b v1_loc n 0 0).bind fun o10=>match o10 with|.out x15=>(some x15)|.ret v=>some v)

def store_Right_L0 (n:Nat)  (v0_b:(List EntryS)) (v1_model:Int) (v2_room:Int) (v3_mod:Int) (v4_locs:Int):Nat→Int→Option (LR Unit Bool)
  | 0,_=>none
  | k6+1,s5=>(bif decide (s5<((v0_b.length:Nat):Int)) then ((idx v0_b s5).bind fun x15=>(bif decide (x15.loc<0) then (some (.ret false)) else (bif decide (v4_locs≤x15.loc) then (some (.ret false)) else (bif decide (x15.n<0) then (some (.ret false)) else (bif decide (v3_mod≤x15.n) then (some (.ret false)) else (bif (v1_model==3) then (bif decide (0<s5) then ((idx v0_b (IntKind.i64.wrap (s5 - 1))).bind fun x22=>(bif decide (x15.loc<x22.loc) then (some (.ret false)) else ((m_store_count n v0_b x15.loc).bind fun y24=>(bif decide (v2_room<y24) then (some (.ret false)) else (store_Right_L0 n v0_b v1_model v2_room v3_mod v4_locs k6 (IntKind.i64.wrap (s5+1))))))) else ((m_store_count n v0_b x15.loc).bind fun y27=>(bif decide (v2_room<y27) then (some (.ret false)) else (store_Right_L0 n v0_b v1_model v2_room v3_mod v4_locs k6 (IntKind.i64.wrap (s5+1)))))) else (store_Right_L0 n v0_b v1_model v2_room v3_mod v4_locs k6 (IntKind.i64.wrap (s5+1))))))))) else (some (.out ())))
def m_store_Right:Nat→(List EntryS)→Int→Int→Int→Int→Option Bool
  | 0,_,_,_,_,_=>none
  | n+1,v0_b,v1_model,v2_room,v3_mod,v4_locs=>(bif decide (v2_room<1) then (some false) else (bif decide (4<v2_room) then (some false) else (bif decide (v3_mod<2) then (some false) else (bif decide (16<v3_mod) then (some false) else ((store_Right_L0 n v0_b v1_model v2_room v3_mod v4_locs n 0).bind fun o13=>match o13 with|.out _=>(bif (v1_model==1) then (some (((v0_b.length:Nat):Int)==0)) else (bif (v1_model==2) then (some (decide (((v0_b.length:Nat):Int)≤v2_room))) else (some (v1_model==3))))|.ret v=>some v)))))

def ref09_Light_L0 (n:Nat)  (v0_c:ConfS):Nat→Int→Option (LR Unit Bool)
  | 0,_=>none
  | k6+1,s5=>(bif decide (s5<(((v0_c.regs).length:Nat):Int)) then ((idx v0_c.regs s5).bind fun x15=>(bif decide (20<((x15.length:Nat):Int)) then (some (.ret false)) else (ref09_Light_L0 n v0_c k6 (IntKind.i64.wrap (s5+1))))) else (some (.out ())))
def ref09_Light_L1 (n:Nat)  (v0_c:ConfS):Nat→Int→Option (LR Unit Bool)
  | 0,_=>none
  | k19+1,s18=>(bif decide (s18<(((v0_c.buf).length:Nat):Int)) then ((idx v0_c.buf s18).bind fun x28=>(bif decide (60<((x28.length:Nat):Int)) then (some (.ret false)) else (ref09_Light_L1 n v0_c k19 (IntKind.i64.wrap (s18+1))))) else (some (.out ())))
def m_ref09_Light:Nat→ConfS→Option Bool
  | 0,_=>none
  | n+1,v0_c=>(bif decide (8<(((v0_c.pc).length:Nat):Int)) then (some false) else (bif decide (8<(((v0_c.regs).length:Nat):Int)) then (some false) else (bif decide (8<(((v0_c.buf).length:Nat):Int)) then (some false) else (bif decide (20<(((v0_c.mem).length:Nat):Int)) then (some false) else ((ref09_Light_L0 n v0_c n 0).bind fun o13=>match o13 with|.out _=>((ref09_Light_L1 n v0_c n 0).bind fun o26=>match o26 with|.out _=>(some true)|.ret v=>some v)|.ret v=>some v)))))

def ref09_Right_L0 (n:Nat)  (v0_u:UnitS) (v1_c:ConfS) (v2_model:Int) (v3_room:Int):Nat→Int→Option (LR Unit Bool)
  | 0,_=>none
  | k12+1,s11=>(bif decide (s11<(((v0_u.regs).length:Nat):Int)) then ((idx v1_c.pc s11).bind fun x21=>(bif decide (x21<0) then (some (.ret false)) else ((idx v1_c.pc s11).bind fun x23=>((idx v0_u.code s11).bind fun x24=>(bif decide (((x24.length:Nat):Int)≤x23) then (some (.ret false)) else ((idx v1_c.regs s11).bind fun x26=>((idx v0_u.regs s11).bind fun x27=>(bif (((x26.length:Nat):Int) != x27) then (some (.ret false)) else ((idx v1_c.regs s11).bind fun x29=>((m_ref06_All n x29 v0_u.mod).bind fun y30=>(bif y30 then ((idx v1_c.buf s11).bind fun x33=>((m_ref08_Right n x33 v2_model v3_room v0_u.mod (((v0_u.init).length:Nat):Int)).bind fun y34=>(bif y34 then (ref09_Right_L0 n v0_u v1_c v2_model v3_room k12 (IntKind.i64.wrap (s11+1))) else (some (.ret false))))) else (some (.ret false))))))))))))) else (some (.out ())))
def m_ref09_Right:Nat→UnitS→ConfS→Int→Int→Option Bool
  | 0,_,_,_,_=>none
  | n+1,v0_u,v1_c,v2_model,v3_room=>((m_ref07_Right n v0_u).bind fun y1=>(bif y1 then (bif ((((v1_c.pc).length:Nat):Int) != (((v0_u.regs).length:Nat):Int)) then (some false) else (bif ((((v1_c.regs).length:Nat):Int) != (((v0_u.regs).length:Nat):Int)) then (some false) else (bif ((((v1_c.buf).length:Nat):Int) != (((v0_u.regs).length:Nat):Int)) then (some false) else (bif ((((v1_c.mem).length:Nat):Int) != (((v0_u.init).length:Nat):Int)) then (some false) else ((m_ref06_All n v1_c.mem v0_u.mod).bind fun y8=>(bif y8 then ((ref09_Right_L0 n v0_u v1_c v2_model v3_room n 0).bind fun o19=>match o19 with|.out _=>((m_ref08_Right n ([]:List EntryS) v2_model v3_room v0_u.mod (((v0_u.init).length:Nat):Int)).bind fun y38=>(some y38))|.ret v=>some v) else (some false))))))) else (some false)))

def conf_below_L0 (n:Nat)  (v0_l:(List Int)) (v1_mod:Int):Nat→Int→Option (LR Unit Bool)
  | 0,_=>none
  | k2+1,s1=>(bif decide (s1<((v0_l.length:Nat):Int)) then ((idx v0_l s1).bind fun x11=>(bif decide (x11<0) then (some (.ret false)) else (bif decide (v1_mod≤x11) then (some (.ret false)) else (conf_below_L0 n v0_l v1_mod k2 (IntKind.i64.wrap (s1+1)))))) else (some (.out ())))
def m_conf_below:Nat→(List Int)→Int→Int→Option Bool
  | 0,_,_,_=>none
  | n+1,v0_l,v1_mod,v2_many=>((conf_below_L0 n v0_l v1_mod n 0).bind fun o9=>match o9 with|.out _=>(some (((v0_l.length:Nat):Int)==v2_many))|.ret v=>some v)

def conf_Right_L0 (n:Nat)  (v0_u:UnitS) (v1_c:ConfS) (v2_model:Int) (v3_room:Int):Nat→Int→Option (LR Unit Bool)
  | 0,_=>none
  | k11+1,s10=>(bif decide (s10<(((v1_c.pc).length:Nat):Int)) then ((idx v1_c.pc s10).bind fun x20=>(bif decide (x20<0) then (some (.ret false)) else ((idx v0_u.code s10).bind fun x22=>(bif decide (((x22.length:Nat):Int)≤x20) then (some (.ret false)) else ((idx v1_c.regs s10).bind fun x24=>((idx v0_u.regs s10).bind fun x25=>((m_conf_below n x24 v0_u.mod x25).bind fun y26=>(bif y26 then ((idx v1_c.buf s10).bind fun x29=>((m_store_Right n x29 v2_model v3_room v0_u.mod (((v0_u.init).length:Nat):Int)).bind fun y30=>(bif y30 then (conf_Right_L0 n v0_u v1_c v2_model v3_room k11 (IntKind.i64.wrap (s10+1))) else (some (.ret false))))) else (some (.ret false)))))))))) else (some (.out ())))
def m_conf_Right:Nat→UnitS→ConfS→Int→Int→Option Bool
  | 0,_,_,_,_=>none
  | n+1,v0_u,v1_c,v2_model,v3_room=>((m_lower_Right n v0_u).bind fun y1=>(bif y1 then ((m_conf_below n v1_c.mem v0_u.mod (((v0_u.init).length:Nat):Int)).bind fun y4=>(bif y4 then (bif ((((v1_c.pc).length:Nat):Int) != (((v0_u.regs).length:Nat):Int)) then (some false) else (bif ((((v1_c.regs).length:Nat):Int) != (((v0_u.regs).length:Nat):Int)) then (some false) else (bif ((((v1_c.buf).length:Nat):Int) != (((v0_u.regs).length:Nat):Int)) then (some false) else ((conf_Right_L0 n v0_u v1_c v2_model v3_room n 0).bind fun o18=>match o18 with|.out _=>(some true)|.ret v=>some v)))) else (some false))) else (some false)))

def ref12_Encode_L1 (n:Nat)  (v1_c:ConfS) (s4:Int):Nat→Int→(List Int)→Option (LR (List Int) ((List UInt8)×Int))
  | 0,_,_=>none
  | k21+1,s19,s20=>((idx v1_c.regs s4).bind fun x29=>(bif decide (s19<((x29.length:Nat):Int)) then ((idx v1_c.regs s4).bind fun x31=>((idx x31 s19).bind fun x32=>(bif decide ((s20.length+1) * 2≤140737488355328) then (ref12_Encode_L1 n v1_c s4 k21 (IntKind.i64.wrap (s19+1)) (s20++([IntKind.u8.wrap x32]:List Int))) else none))) else (some (.out s20))))
def ref12_Encode_L2 (n:Nat)  (v1_c:ConfS) (s4:Int):Nat→Int→(List Int)→Option (LR (List Int) ((List UInt8)×Int))
  | 0,_,_=>none
  | k42+1,s40,s41=>((idx v1_c.buf s4).bind fun x50=>(bif decide (s40<((x50.length:Nat):Int)) then ((idx v1_c.buf s4).bind fun x52=>((idx x52 s40).bind fun x53=>((idx v1_c.buf s4).bind fun x54=>((idx x54 s40).bind fun x55=>(bif decide ((s41.length+2) * 2≤140737488355328) then (ref12_Encode_L2 n v1_c s4 k42 (IntKind.i64.wrap (s40+1)) (s41++([IntKind.u8.wrap (x53.loc),IntKind.u8.wrap (x55.n)]:List Int))) else none))))) else (some (.out s41))))
def ref12_Encode_L0 (n:Nat)  (v1_c:ConfS):Nat→Int→(List Int)→Option (LR (List Int) ((List UInt8)×Int))
  | 0,_,_=>none
  | k6+1,s4,s5=>(bif decide (s4<(((v1_c.pc).length:Nat):Int)) then ((idx v1_c.pc s4).bind fun x15=>((idx v1_c.pc s4).bind fun x16=>(bif decide ((s5.length+2) * 2≤140737488355328) then ((ref12_Encode_L1 n v1_c s4 n 0 (s5++([IntKind.u8.wrap (IntKind.i64.wrap (Int.tdiv x15 256)),IntKind.u8.wrap ((Int.tmod x16 256))]:List Int))).bind fun o28=>match o28 with|.out x36=>((idx v1_c.buf s4).bind fun x37=>(bif decide ((x36.length+1) * 2≤140737488355328) then ((ref12_Encode_L2 n v1_c s4 n 0 (x36++([IntKind.u8.wrap (((x37.length:Nat):Int))]:List Int))).bind fun o49=>match o49 with|.out x59=>(ref12_Encode_L0 n v1_c k6 (IntKind.i64.wrap (s4+1)) x59)|.ret v=>some (.ret v)) else none))|.ret v=>some (.ret v)) else none))) else (some (.out s5)))
def ref12_Encode_L3 (n:Nat)  (v1_c:ConfS):Nat→Int→(List Int)→Option (LR (List Int) ((List UInt8)×Int))
  | 0,_,_=>none
  | k66+1,s64,s65=>(bif decide (s64<(((v1_c.mem).length:Nat):Int)) then ((idx v1_c.mem s64).bind fun x75=>(bif decide ((s65.length+1) * 2≤140737488355328) then (ref12_Encode_L3 n v1_c k66 (IntKind.i64.wrap (s64+1)) (s65++([IntKind.u8.wrap x75]:List Int))) else none)) else (some (.out s65)))
def m_ref12_Encode:Nat→UnitS→ConfS→Int→Int→Option ((List UInt8)×Int)
  | 0,_,_,_,_=>none
  | n+1,v0_u,v1_c,v2_model,v3_room=>((m_ref09_Right n v0_u v1_c v2_model v3_room).bind fun y1=>(bif y1 then ((ref12_Encode_L0 n v1_c n 0 ([]:List Int)).bind fun o13=>match o13 with|.out x63=>((ref12_Encode_L3 n v1_c n 0 x63).bind fun o73=>match o73 with|.out x79=>(bif decide (x79.length≤140737488355328) then (some ((List.map u8of x79),0)) else none)|.ret v=>some v)|.ret v=>some v) else (some (([]:List UInt8),8))))

def ref12_Size_L0 (n:Nat)  (v0_c:ConfS):Nat→Int→Int→Option (LR Int Int)
  | 0,_,_=>none
  | k3+1,s1,s2=>(bif decide (s2<(((v0_c.regs).length:Nat):Int)) then ((idx v0_c.regs s2).bind fun x12=>(ref12_Size_L0 n v0_c k3 (IntKind.i64.wrap (s1+((x12.length:Nat):Int))) (IntKind.i64.wrap (s2+1)))) else (some (.out s1)))
def ref12_Size_L1 (n:Nat)  (v0_c:ConfS):Nat→Int→Int→Option (LR Int Int)
  | 0,_,_=>none
  | k17+1,s15,s16=>(bif decide (s16<(((v0_c.buf).length:Nat):Int)) then ((idx v0_c.buf s16).bind fun x26=>(ref12_Size_L1 n v0_c k17 (IntKind.i64.wrap (s15+(IntKind.i64.wrap (2 * ((x26.length:Nat):Int))))) (IntKind.i64.wrap (s16+1)))) else (some (.out s15)))
def m_ref12_Size:Nat→ConfS→Option Int
  | 0,_=>none
  | n+1,v0_c=>((ref12_Size_L0 n v0_c n (IntKind.i64.wrap ((IntKind.i64.wrap (3 * (((v0_c.pc).length:Nat):Int)))+(((v0_c.mem).length:Nat):Int))) 0).bind fun o10=>match o10 with|.out x14=>((ref12_Size_L1 n v0_c n x14 0).bind fun o24=>match o24 with|.out x28=>(some x28)|.ret v=>some v)|.ret v=>some v)

def pack_Size_L0 (n:Nat)  (v0_c:ConfS):Nat→Int→Int→Option (LR Int Int)
  | 0,_,_=>none
  | k3+1,s1,s2=>(bif decide (s2<(((v0_c.regs).length:Nat):Int)) then ((idx v0_c.regs s2).bind fun x12=>(pack_Size_L0 n v0_c k3 (IntKind.i64.wrap (s1+((x12.length:Nat):Int))) (IntKind.i64.wrap (s2+1)))) else (some (.out s1)))
def pack_Size_L1 (n:Nat)  (v0_c:ConfS):Nat→Int→Int→Option (LR Int Int)
  | 0,_,_=>none
  | k17+1,s15,s16=>(bif decide (s16<(((v0_c.buf).length:Nat):Int)) then ((idx v0_c.buf s16).bind fun x26=>(pack_Size_L1 n v0_c k17 (IntKind.i64.wrap (s15+(IntKind.i64.wrap (2 * ((x26.length:Nat):Int))))) (IntKind.i64.wrap (s16+1)))) else (some (.out s15)))
def m_pack_Size:Nat→ConfS→Option Int
  | 0,_=>none
  | n+1,v0_c=>((pack_Size_L0 n v0_c n (IntKind.i64.wrap ((IntKind.i64.wrap (3 * (((v0_c.pc).length:Nat):Int)))+(((v0_c.mem).length:Nat):Int))) 0).bind fun o10=>match o10 with|.out x14=>((pack_Size_L1 n v0_c n x14 0).bind fun o24=>match o24 with|.out x28=>(some x28)|.ret v=>some v)|.ret v=>some v)

def m_pack_writer_put:Nat→(List Int)→Int→(List Int)→Option (Int×(List Int))
  | 0,_,_,_=>none
  | n+1,v1_l,w_at,o1_a=>(bif (decide (0≤w_at)&&decide (w_at≤((o1_a.length:Nat):Int))) then (bif decide ((w_at.toNat)+(o1_a.length - w_at.toNat)≤o1_a.length) then (some (IntKind.i64.wrap (w_at+(((Nat.min (List.length v1_l) (o1_a.length - w_at.toNat)):Nat):Int)),(copyL o1_a (w_at.toNat) (o1_a.length - w_at.toNat) v1_l))) else none) else none)

def pack_Encode_L1 (n:Nat)  (x23:(List Int)):Nat→Int→(List Int)→Int→Option (LR (Int×(List Int)) ((List UInt8)×Int))
  | 0,_,_,_=>none
  | k27+1,s24,s25,s26=>(bif decide (s24<((x23.length:Nat):Int)) then ((idx x23 s24).bind fun x36=>((m_pack_writer_put n ([IntKind.u8.wrap x36]:List Int) s26 s25).bind fun y37=>(pack_Encode_L1 n x23 k27 (IntKind.i64.wrap (s24+1)) y37.2 y37.1))) else (some (.out (s26,s25))))
def pack_Encode_L2 (n:Nat)  (x45:(List EntryS)):Nat→Int→(List Int)→Int→Option (LR (Int×(List Int)) ((List UInt8)×Int))
  | 0,_,_,_=>none
  | k49+1,s46,s47,s48=>(bif decide (s46<((x45.length:Nat):Int)) then ((idx x45 s46).bind fun x58=>((m_pack_writer_put n ([IntKind.u8.wrap (x58.loc),IntKind.u8.wrap (x58.n)]:List Int) s48 s47).bind fun y59=>(pack_Encode_L2 n x45 k49 (IntKind.i64.wrap (s46+1)) y59.2 y59.1))) else (some (.out (s48,s47))))
def pack_Encode_L0 (n:Nat)  (v1_c:ConfS):Nat→Int→(List Int)→Int→Option (LR (Int×(List Int)) ((List UInt8)×Int))
  | 0,_,_,_=>none
  | k11+1,s8,s9,s10=>(bif decide (s8<(((v1_c.pc).length:Nat):Int)) then ((idx v1_c.pc s8).bind fun x20=>((m_pack_writer_put n ([IntKind.u8.wrap (IntKind.i64.wrap (Int.tdiv x20 256)),IntKind.u8.wrap ((Int.tmod x20 256))]:List Int) s10 s9).bind fun y21=>((idx v1_c.regs s8).bind fun x23=>((pack_Encode_L1 n x23 n 0 y21.2 y21.1).bind fun o34=>match o34 with|.out (x40,x41)=>((idx v1_c.buf s8).bind fun x42=>((m_pack_writer_put n ([IntKind.u8.wrap (((x42.length:Nat):Int))]:List Int) x40 x41).bind fun y43=>((idx v1_c.buf s8).bind fun x45=>((pack_Encode_L2 n x45 n 0 y43.2 y43.1).bind fun o56=>match o56 with|.out (x62,x63)=>(pack_Encode_L0 n v1_c k11 (IntKind.i64.wrap (s8+1)) x63 x62)|.ret v=>some (.ret v)))))|.ret v=>some (.ret v))))) else (some (.out (s10,s9))))
def pack_Encode_L3 (n:Nat)  (v1_c:ConfS):Nat→Int→(List Int)→Int→Option (LR (Int×(List Int)) ((List UInt8)×Int))
  | 0,_,_,_=>none
  | k72+1,s69,s70,s71=>(bif decide (s69<(((v1_c.mem).length:Nat):Int)) then ((idx v1_c.mem s69).bind fun x81=>((m_pack_writer_put n ([IntKind.u8.wrap x81]:List Int) s71 s70).bind fun y82=>(pack_Encode_L3 n v1_c k72 (IntKind.i64.wrap (s69+1)) y82.2 y82.1))) else (some (.out (s71,s70))))
def m_pack_Encode:Nat→UnitS→ConfS→Int→Int→Option ((List UInt8)×Int)
  | 0,_,_,_,_=>none
  | n+1,v0_u,v1_c,v2_model,v3_room=>((m_conf_Right n v0_u v1_c v2_model v3_room).bind fun y1=>(bif y1 then ((m_pack_Size n v1_c).bind fun y4=>(bif (decide (0≤y4)&&decide ((1:Int) * y4≤140737488355328)) then ((pack_Encode_L0 n v1_c n 0 (List.replicate y4.toNat 0:List Int) 0).bind fun o18=>match o18 with|.out (x67,x68)=>((pack_Encode_L3 n v1_c n 0 x68 x67).bind fun o79=>match o79 with|.out (x85,x86)=>(bif decide (x86.length≤140737488355328) then (some ((List.map u8of x86),0)) else none)|.ret v=>some v)|.ret v=>some v) else none)) else (some (([]:List UInt8),8))))

def m_law12_light:Nat→S_law12_Case→Option Bool
  | 0,_=>none
  | n+1,v0_c=>((m_ref07_Light n v0_c.f_U).bind fun y1=>(bif y1 then ((m_ref09_Light n v0_c.f_C).bind fun y4=>(some y4)) else (some false)))

def m_law12_PackEncodes:Nat→S_law12_Case→Option Bool
  | 0,_=>none
  | n+1,v0_c=>((m_law12_light n v0_c).bind fun y1=>(bif y1 then ((m_pack_Encode n v0_c.f_U v0_c.f_C v0_c.f_Model v0_c.f_Room).bind fun y4=>((m_ref12_Encode n v0_c.f_U v0_c.f_C v0_c.f_Model v0_c.f_Room).bind fun y6=>(bif (y4.1==y6.1) then (bif (y4.2==y6.2) then ((m_pack_Size n v0_c.f_C).bind fun y10=>((m_ref12_Size n v0_c.f_C).bind fun y12=>(bif (y10==y12) then ((m_law12_known n ).bind fun y15=>(some y15)) else (some false)))) else (some false)) else (some false)))) else ((m_law12_known n ).bind fun y17=>(some y17))))

end Go.Proofs.Ytejkhpgahnncnaa
end

section
namespace Go.Proofs.Ytejkhpgahnncnaa
set_option linter.unusedVariables false
set_option linter.unusedSimpArgs false

theorem idx_get {α : Type} {l : List α} {i : Nat} (h : i < l.length) : idx l (i : Int) = some l[i] := by rw [idx_nat, List.getElem?_eq_getElem h]
theorem wrap_one (k : Nat) (h : k < 4611686018427387904) : IntKind.i64.wrap ((k : Int) + 1) = ((k + 1 : Nat) : Int) := wrap_succ k (by omega)
theorem range_step {p : Nat → Bool} {i n : Nat} : (List.range' i (n + 1)).all p = (p i && (List.range' (i + 1) n).all p) := by
  rw [List.range'_succ, List.all_cons]
/-- A loop that looks for something that is not so. -/
theorem all_loop {L : Nat → Int → Option (LR Unit Bool)} (len : Nat) (p : Nat → Bool) (h1 : ∀ k i, i < len → L (k + 1) (i : Int) = bif p i then L k ((i + 1 : Nat) : Int) else some (.ret false)) (h2 : ∀ k, L (k + 1) (len : Int) = some (.out ())) : ∀ (m k i : Nat), i + m = len → m < k → L k (i : Int) = some (bif (List.range' i m).all p then .out () else .ret false) := by
  intro m
  induction m with
  | zero =>
    intro k i hi hk
    obtain ⟨k, rfl⟩ : ∃ j, k = j + 1 := ⟨k - 1, by omega⟩
    have : i = len := by omega
    subst this
    rw [h2]; rfl
  | succ m ih =>
    intro k i hi hk
    obtain ⟨k, rfl⟩ : ∃ j, k = j + 1 := ⟨k - 1, by omega⟩
    rw [h1 k i (by omega), range_step, ih k (i + 1) (by omega) (by omega)]
    cases p i <;> rfl
theorem all_loop0 {L : Nat → Int → Option (LR Unit Bool)} (len : Nat) (p : Nat → Bool) (h1 : ∀ k i, i < len → L (k + 1) (i : Int) = bif p i then L k ((i + 1 : Nat) : Int) else some (.ret false)) (h2 : ∀ k, L (k + 1) (len : Int) = some (.out ())) {k : Nat} (hk : len < k) : L k 0 = some (bif (List.range' 0 len).all p then .out () else .ret false) :=
  all_loop len p h1 h2 len k 0 (by omega) hk
theorem of_all_range {p : Nat → Bool} {m : Nat} (h : (List.range' 0 m).all p = true) {i : Nat} (hi : i < m) : p i = true := by
  rw [List.all_eq_true] at h; exact h i (by simpa using hi)
theorem bif_decide {α : Type} {p : Prop} [Decidable p] (h : p) (a b : α) : (bif decide p then a else b) = a := by rw [decide_eq_true h]; rfl
theorem bif_not {α : Type} {p : Prop} [Decidable p] (h : ¬ p) (a b : α) : (bif decide p then a else b) = b := by rw [decide_eq_false h]; rfl
theorem natEq (a b : Nat) : ((a : Int) == (b : Int)) = (a == b) := by
  by_cases h : a = b
  · subst h; simp
  · have : ¬ (a : Int) = (b : Int) := by omega
    rw [beq_eq_false_iff_ne.2 h, beq_eq_false_iff_ne.2 this]
theorem natEq0 (a : Nat) : ((a : Int) == 0) = (a == 0) := natEq a 0
theorem natNe (a b : Nat) : ((a : Int) != (b : Int)) = !(a == b) := by rw [← natEq]; rfl
end Go.Proofs.Ytejkhpgahnncnaa
end

section
namespace Go.Proofs.Ytejkhpgahnncnaa
set_option linter.unusedVariables false
set_option linter.unusedSimpArgs false

/-- How many entries of a location stand from a place on. -/
def cntB (b : List EntryS) (loc : Int) : Nat := (b.filter fun x => x.loc == loc).length
theorem cnt_L (n : Nat) (b : List EntryS) (loc : Int) : ∀ (m k i c : Nat), i + m = b.length → m < k → b.length < 1000000 → m + c < 1000001 → store_count_L0 n b loc k (c : Int) (i : Int) = some (.out ((c + cntB (b.drop i) loc : Nat) : Int)) := by
  intro m
  induction m with
  | zero =>
    intro k i c hi hk hb hc
    obtain ⟨k, rfl⟩ : ∃ j, k = j + 1 := ⟨k - 1, by omega⟩
    have hd : b.drop i = [] := List.drop_of_length_le (by omega)
    have hge : ¬ ((i : Int) < (b.length : Int)) := by omega
    rw [store_count_L0, bif_not hge, hd]
    rfl
  | succ m ih =>
    intro k i c hi hk hb hc
    obtain ⟨k, rfl⟩ : ∃ j, k = j + 1 := ⟨k - 1, by omega⟩
    have hlt : i < b.length := by omega
    have hlt' : (i : Int) < (b.length : Int) := by omega
    rw [store_count_L0, bif_decide hlt', idx_get hlt, List.drop_eq_getElem_cons hlt]
    have w1 := wrap_one i (by omega)
    have w2 := wrap_one c (by omega)
    simp only [Option.bind_some, w1, w2]
    cases hx : (b[i].loc == loc) with
    | true => simp only [cond_true]; rw [ih k (i + 1) (c + 1) (by omega) (by omega) hb (by omega)]; simp only [cntB, List.filter_cons, hx, if_true, List.length_cons]; congr 2; omega
    | false => simp only [cond_false]; rw [ih k (i + 1) c (by omega) (by omega) hb (by omega)]; simp only [cntB, List.filter_cons, hx, Bool.false_eq_true, if_false]
theorem cnt_m (n : Nat) (b : List EntryS) (loc : Int) (h : b.length + 2 < n) (hb : b.length < 1000000) : m_store_count n b loc = some (cntB b loc : Int) := by
  obtain ⟨n, rfl⟩ : ∃ j, n = j + 1 := ⟨n - 1, by omega⟩
  have := cnt_L n b loc b.length n 0 0 (by omega) (by omega) hb (by omega)
  rw [m_store_count, show (0 : Int) = ((0 : Nat) : Int) from rfl, this]
  simp
theorem cnt_same (n : Nat) (b : List EntryS) (loc : Int) : ∀ (k : Nat) (i c : Int), ref08_count_L0 n b loc k c i = store_count_L0 n b loc k c i := by
  intro k
  induction k with
  | zero => intro i c; rfl
  | succ k ih => intro i c; simp only [ref08_count_L0, store_count_L0, ih]
theorem cnt_ref (n : Nat) (b : List EntryS) (loc : Int) : m_ref08_count n b loc = m_store_count n b loc := by
  cases n with
  | zero => rfl
  | succ n => simp only [m_ref08_count, m_store_count, cnt_same]

/-- Is an entry right, at its place? -/
def entOk (b : List EntryS) (model room mod locs : Int) (i : Nat) : Bool := match b[i]? with
  | none => false
  | some x => !decide (x.loc < 0) && !decide (locs ≤ x.loc) && !decide (x.n < 0) && !decide (mod ≤ x.n) && (!(model == 3) || ((!decide (0 < i) || match b[i - 1]? with | some y => !decide (x.loc < y.loc) | none => false) && !decide (room < (cntB b x.loc : Int))))
def entsOk (b : List EntryS) (model room mod locs : Int) : Bool := (List.range' 0 b.length).all (entOk b model room mod locs)
def endOk (b : List EntryS) (model room : Int) : Bool := if model = 1 then b.length == 0 else if model = 2 then decide ((b.length : Int) ≤ room) else decide (model = 3)
def numsOk (room mod : Int) : Bool := !decide (room < 1) && !decide (4 < room) && !decide (mod < 2) && !decide (16 < mod)
def bufOk (b : List EntryS) (model room mod locs : Int) : Bool := numsOk room mod && entsOk b model room mod locs && endOk b model room

theorem sright_L (n : Nat) (b : List EntryS) (model room mod locs : Int) (hn : b.length + 3 < n) (hb : b.length < 1000000) {k : Nat} (hk : b.length < k) : store_Right_L0 n b model room mod locs k 0 = some (bif entsOk b model room mod locs then .out () else .ret false) := by
  refine all_loop0 (L := fun k i => store_Right_L0 n b model room mod locs k i) b.length _ (fun k i hi => ?_) (fun k => ?_) hk
  · have hlen : (i : Int) < (b.length : Int) := by omega
    have hw := wrap_one i (by omega)
    simp only [store_Right_L0, bif_decide hlen, idx_get hi, Option.bind_some, hw, entOk, List.getElem?_eq_getElem hi, cnt_m n b _ (by omega) hb]
    by_cases h0 : 0 < i
    · have hp := wrap_pred i h0 (by omega)
      have h0' : (0 : Int) < (i : Int) := by omega
      simp only [hp, idx_get (show i - 1 < b.length by omega), List.getElem?_eq_getElem (show i - 1 < b.length by omega), Option.bind_some, decide_eq_true h0, decide_eq_true h0']
      cases decide (b[i].loc < 0) <;> cases decide (locs ≤ b[i].loc) <;> cases decide (b[i].n < 0) <;> cases decide (mod ≤ b[i].n) <;> cases (model == 3) <;> cases decide (b[i].loc < b[i - 1].loc) <;> cases decide (room < (cntB b b[i].loc : Int)) <;> rfl
    · have h0' : ¬ (0 : Int) < (i : Int) := by omega
      simp only [decide_eq_false h0, decide_eq_false h0']
      cases decide (b[i].loc < 0) <;> cases decide (locs ≤ b[i].loc) <;> cases decide (b[i].n < 0) <;> cases decide (mod ≤ b[i].n) <;> cases (model == 3) <;> cases decide (room < (cntB b b[i].loc : Int)) <;> rfl
  · simp only [store_Right_L0, bif_not (Int.lt_irrefl _)]
theorem sright_m (n : Nat) (b : List EntryS) (model room mod locs : Int) (hn : b.length + 4 < n) (hb : b.length < 1000000) : m_store_Right n b model room mod locs = some (bufOk b model room mod locs) := by
  obtain ⟨n, rfl⟩ : ∃ j, n = j + 1 := ⟨n - 1, by omega⟩
  simp only [m_store_Right, sright_L n b model room mod locs (by omega) hb (by omega : b.length < n), bufOk, numsOk, Option.bind_some]
  cases decide (room < 1) <;> try rfl
  cases decide (4 < room) <;> try rfl
  cases decide (mod < 2) <;> try rfl
  cases decide (16 < mod) <;> try rfl
  cases entsOk b model room mod locs <;> try rfl
  simp only [cond_false, cond_true, endOk]
  by_cases h1 : model = 1
  · subst h1; simp [natEq0]
  · have e1 : (model == 1) = false := beq_eq_false_iff_ne.2 h1
    rw [e1, if_neg h1]
    by_cases h2 : model = 2
    · subst h2; simp
    · have e2 : (model == 2) = false := beq_eq_false_iff_ne.2 h2
      rw [e2, if_neg h2]
      by_cases h3 : model = 3
      · subst h3; simp
      · have e3 : (model == 3) = false := beq_eq_false_iff_ne.2 h3
        rw [e3, decide_eq_false h3]; rfl
theorem rright_L (n : Nat) (b : List EntryS) (model room mod locs : Int) (hn : b.length + 3 < n) (hb : b.length < 1000000) {k : Nat} (hk : b.length < k) : ref08_Right_L0 n b model room mod locs k 0 = some (bif entsOk b model room mod locs then .out () else .ret false) := by
  refine all_loop0 (L := fun k i => ref08_Right_L0 n b model room mod locs k i) b.length _ (fun k i hi => ?_) (fun k => ?_) hk
  · have hlen : (i : Int) < (b.length : Int) := by omega
    have hw := wrap_one i (by omega)
    simp only [ref08_Right_L0, bif_decide hlen, idx_get hi, Option.bind_some, hw, entOk, List.getElem?_eq_getElem hi, cnt_ref, cnt_m n b _ (by omega) hb]
    by_cases h0 : 0 < i
    · have hp := wrap_pred i h0 (by omega)
      have h0' : (0 : Int) < (i : Int) := by omega
      simp only [hp, idx_get (show i - 1 < b.length by omega), List.getElem?_eq_getElem (show i - 1 < b.length by omega), Option.bind_some, decide_eq_true h0, decide_eq_true h0']
      cases decide (b[i].loc < 0) <;> cases decide (locs ≤ b[i].loc) <;> cases decide (b[i].n < 0) <;> cases decide (mod ≤ b[i].n) <;> cases (model == 3) <;> cases decide (b[i].loc < b[i - 1].loc) <;> cases decide (room < (cntB b b[i].loc : Int)) <;> rfl
    · have h0' : ¬ (0 : Int) < (i : Int) := by omega
      simp only [decide_eq_false h0, decide_eq_false h0']
      cases decide (b[i].loc < 0) <;> cases decide (locs ≤ b[i].loc) <;> cases decide (b[i].n < 0) <;> cases decide (mod ≤ b[i].n) <;> cases (model == 3) <;> cases decide (room < (cntB b b[i].loc : Int)) <;> rfl
  · simp only [ref08_Right_L0, bif_not (Int.lt_irrefl _)]
/-- The document's way to say it. -/
theorem rright_m (n : Nat) (b : List EntryS) (model room mod locs : Int) (hn : b.length + 4 < n) (hb : b.length < 1000000) : m_ref08_Right n b model room mod locs = some (bufOk b model room mod locs) := by
  obtain ⟨n, rfl⟩ : ∃ j, n = j + 1 := ⟨n - 1, by omega⟩
  simp only [m_ref08_Right, rright_L n b model room mod locs (by omega) hb (by omega : b.length < n), Option.bind_some]
  by_cases hm : 1 ≤ model ∧ model ≤ 3
  · rw [bif_not (by omega), bif_not (by omega)]
    simp only [bufOk, numsOk]
    by_cases hr1 : room < 1
    · rw [bif_decide hr1, decide_eq_true hr1]; rfl
    rw [bif_not hr1, decide_eq_false hr1]
    cases decide (4 < room) <;> try rfl
    cases decide (mod < 2) <;> try rfl
    cases decide (16 < mod) <;> try rfl
    cases entsOk b model room mod locs <;> try rfl
    simp only [cond_false, cond_true, endOk]
    have : model = 1 ∨ model = 2 ∨ model = 3 := by omega
    rcases this with rfl | rfl | rfl
    · simp [natEq0]
    · by_cases hl : (b.length : Int) ≤ room
      · simp [hl]
      · have e0 : (b.length == 0) = false := beq_eq_false_iff_ne.2 (by omega)
        simp only [natEq0, e0, decide_eq_false hl]; rfl
    · simp
  · have : bufOk b model room mod locs = false := by
      have : endOk b model room = false := by
        unfold endOk
        rw [if_neg (by omega), if_neg (by omega)]
        exact decide_eq_false (by omega)
      rw [bufOk, this, Bool.and_false]
    rw [this]
    by_cases h1 : model < 1
    · rw [bif_decide h1]
    · rw [bif_not h1, bif_decide (by omega)]
theorem bufOk_nil {b : List EntryS} {model room mod locs : Int} (h : bufOk b model room mod locs = true) : bufOk [] model room mod locs = true := by
  simp only [bufOk, Bool.and_eq_true] at h ⊢
  refine ⟨⟨h.1.1, rfl⟩, ?_⟩
  have h2 := h.2
  have h1 := h.1.1
  simp only [numsOk, Bool.and_eq_true, Bool.not_eq_true', decide_eq_false_iff_not] at h1
  unfold endOk at h2 ⊢
  split
  · rfl
  · split
    · have : (0 : Int) ≤ room := by omega
      simpa using this
    · rename_i g1 g2
      rw [if_neg g1, if_neg g2] at h2; exact h2
end Go.Proofs.Ytejkhpgahnncnaa
end

section
namespace Go.Proofs.Ytejkhpgahnncnaa
set_option linter.unusedVariables false
set_option linter.unusedSimpArgs false

def numOk (l : List Int) (mod : Int) (i : Nat) : Bool := match l[i]? with
  | none => false
  | some x => !decide (x < 0) && !decide (mod ≤ x)
def allB (l : List Int) (mod : Int) : Bool := (List.range' 0 l.length).all (numOk l mod)
theorem below_m (n : Nat) (l : List Int) (mod many : Int) (hn : l.length + 2 < n) (hl : l.length < 1000000) : m_conf_below n l mod many = some (allB l mod && ((l.length : Int) == many)) := by
  obtain ⟨n, rfl⟩ : ∃ j, n = j + 1 := ⟨n - 1, by omega⟩
  have : conf_below_L0 n l mod n 0 = some (bif allB l mod then .out () else .ret false) := by
    refine all_loop0 (L := fun k i => conf_below_L0 n l mod k i) l.length _ (fun k i hi => ?_) (fun k => ?_) (by omega)
    · have hlen : (i : Int) < (l.length : Int) := by omega
      simp only [conf_below_L0, bif_decide hlen, idx_get hi, Option.bind_some, wrap_one i (by omega), numOk, List.getElem?_eq_getElem hi]
      cases decide (l[i] < 0) <;> cases decide (mod ≤ l[i]) <;> rfl
    · simp only [conf_below_L0, bif_not (Int.lt_irrefl _)]
  simp only [m_conf_below, this, Option.bind_some]
  cases allB l mod <;> rfl
theorem in_m (n : Nat) (x mod : Int) : m_ref06_in (n + 1) x mod = some (!decide (x < 0) && !decide (mod ≤ x)) := by
  simp only [m_ref06_in]
  by_cases h : 0 ≤ x
  · rw [bif_decide h, decide_eq_false (show ¬ x < 0 by omega)]
    by_cases h2 : x < mod
    · rw [decide_eq_true h2, decide_eq_false (show ¬ mod ≤ x by omega)]; rfl
    · rw [decide_eq_false h2, decide_eq_true (show mod ≤ x by omega)]; rfl
  · rw [bif_not h, decide_eq_true (show x < 0 by omega)]; rfl
theorem all_m (n : Nat) (l : List Int) (mod : Int) (hn : l.length + 3 < n) (hl : l.length < 1000000) : m_ref06_All n l mod = some (allB l mod) := by
  obtain ⟨n, rfl⟩ : ∃ j, n = j + 2 := ⟨n - 2, by omega⟩
  have : ref06_All_L0 (n + 1) l mod (n + 1) 0 = some (bif allB l mod then .out () else .ret false) := by
    refine all_loop0 (L := fun k i => ref06_All_L0 (n + 1) l mod k i) l.length _ (fun k i hi => ?_) (fun k => ?_) (by omega)
    · have hlen : (i : Int) < (l.length : Int) := by omega
      simp only [ref06_All_L0, bif_decide hlen, idx_get hi, Option.bind_some, in_m, wrap_one i (by omega), numOk, List.getElem?_eq_getElem hi]
    · simp only [ref06_All_L0, bif_not (Int.lt_irrefl _)]
  simp only [m_ref06_All, this, Option.bind_some]
  cases allB l mod <;> rfl

/-- Is a thread's state right? -/
def thrOk (u : UnitS) (c : ConfS) (model room : Int) (i : Nat) : Bool := match c.pc[i]?, u.code[i]?, c.regs[i]?, u.regs[i]?, c.buf[i]? with
  | some pc, some code, some r, some m, some b => !decide (pc < 0) && !decide ((code.length : Int) ≤ pc) && (allB r u.mod && ((r.length : Int) == m)) && bufOk b model room u.mod u.init.length
  | _, _, _, _, _ => false
def confOk (u : UnitS) (c : ConfS) (model room : Int) : Bool :=
  (allB c.mem u.mod && c.mem.length == u.init.length) && c.pc.length == u.regs.length && c.regs.length == u.regs.length && c.buf.length == u.regs.length && (List.range' 0 u.regs.length).all (thrOk u c model room)
/-- A configuration whose lists are short. -/
structure LightC (c : ConfS) : Prop where
  pc : c.pc.length ≤ 8
  mem : c.mem.length ≤ 20
  regsN : c.regs.length ≤ 8
  bufN : c.buf.length ≤ 8
  regs : ∀ i (h : i < c.regs.length), c.regs[i].length ≤ 20
  buf : ∀ i (h : i < c.buf.length), c.buf[i].length ≤ 300
theorem rightU_len {u : UnitS} (h : rightU u = true) : u.code.length = u.regs.length ∧ 1 ≤ u.regs.length ∧ u.regs.length ≤ 4 ∧ u.init.length ≤ 6 := by
  simp only [rightU, headOk, Bool.and_eq_true, decide_eq_true_eq] at h
  omega
theorem cright_m (n : Nat) (u : UnitS) (c : ConfS) (model room : Int) (hl : LightC c) (hn : 400 < n) : m_conf_Right n u c model room = some (rightU u && confOk u c model room) := by
  obtain ⟨n, rfl⟩ : ∃ j, n = j + 2 := ⟨n - 2, by omega⟩
  simp only [m_conf_Right, m_lower_Right, Option.bind_some]
  cases hr : rightU u with
  | false => rfl
  | true =>
  obtain ⟨u1, u2, u3, u4⟩ := rightU_len hr
  simp only [cond_true, below_m (n + 1) c.mem u.mod _ (by have := hl.mem; omega) (by have := hl.mem; omega), Option.bind_some, natEq, natNe, confOk, Bool.true_and]
  cases allB c.mem u.mod && c.mem.length == u.init.length with
  | false => rfl
  | true =>
  cases h1 : c.pc.length == u.regs.length with
  | false => rfl
  | true =>
  cases h2 : c.regs.length == u.regs.length with
  | false => rfl
  | true =>
  cases h3 : c.buf.length == u.regs.length with
  | false => rfl
  | true =>
  have h1 := eq_of_beq h1
  have h2 := eq_of_beq h2
  have h3 := eq_of_beq h3
  have hL : conf_Right_L0 (n + 1) u c model room (n + 1) 0 = some (bif (List.range' 0 u.regs.length).all (thrOk u c model room) then .out () else .ret false) := by
    refine all_loop0 (L := fun k i => conf_Right_L0 (n + 1) u c model room k i) u.regs.length _ (fun k i hi => ?_) (fun k => ?_) (by omega)
    · have hlen : (i : Int) < (c.pc.length : Int) := by omega
      have i1 : i < c.pc.length := by omega
      have i2 : i < u.code.length := by omega
      have i3 : i < c.regs.length := by omega
      have i4 : i < c.buf.length := by omega
      have k1 := hl.regs i i3
      have k2 := hl.buf i i4
      simp only [conf_Right_L0, bif_decide hlen, idx_get i1, idx_get i2, idx_get i3, idx_get i4, idx_get hi, Option.bind_some, wrap_one i (by omega), thrOk, List.getElem?_eq_getElem i1, List.getElem?_eq_getElem i2, List.getElem?_eq_getElem i3, List.getElem?_eq_getElem i4, List.getElem?_eq_getElem hi, below_m (n + 1) c.regs[i] u.mod _ (by omega) (by omega), sright_m (n + 1) c.buf[i] model room u.mod _ (by omega) (by omega)]
      cases decide (c.pc[i] < 0) <;> cases decide ((u.code[i].length : Int) ≤ c.pc[i]) <;> cases (allB c.regs[i] u.mod && ((c.regs[i].length : Int) == u.regs[i])) <;> cases bufOk c.buf[i] model room u.mod u.init.length <;> rfl
    · have : ¬ (u.regs.length : Int) < (c.pc.length : Int) := by omega
      simp only [conf_Right_L0, bif_not this]
  simp only [cond_true, Bool.not_true, cond_false, hL, Option.bind_some, Bool.and_true, Bool.true_and]
  cases (List.range' 0 u.regs.length).all (thrOk u c model room) <;> rfl
theorem rright9_m (n : Nat) (u : UnitS) (c : ConfS) (model room : Int) (hl : LightC c) (hn : 400 < n) : m_ref09_Right n u c model room = some (rightU u && confOk u c model room) := by
  obtain ⟨n, rfl⟩ : ∃ j, n = j + 2 := ⟨n - 2, by omega⟩
  simp only [m_ref09_Right, m_ref07_Right, Option.bind_some]
  cases hr : rightU u with
  | false => rfl
  | true =>
  obtain ⟨u1, u2, u3, u4⟩ := rightU_len hr
  simp only [cond_true, natEq, natNe, confOk, Bool.true_and]
  cases h1 : c.pc.length == u.regs.length with
  | false => simp
  | true =>
  cases h2 : c.regs.length == u.regs.length with
  | false => simp
  | true =>
  cases h3 : c.buf.length == u.regs.length with
  | false => simp
  | true =>
  cases h4 : c.mem.length == u.init.length with
  | false => simp
  | true =>
  have h1 := eq_of_beq h1
  have h2 := eq_of_beq h2
  have h3 := eq_of_beq h3
  have hL : ref09_Right_L0 (n + 1) u c model room (n + 1) 0 = some (bif (List.range' 0 u.regs.length).all (thrOk u c model room) then .out () else .ret false) := by
    refine all_loop0 (L := fun k i => ref09_Right_L0 (n + 1) u c model room k i) u.regs.length _ (fun k i hi => ?_) (fun k => ?_) (by omega)
    · have hlen : (i : Int) < (u.regs.length : Int) := by omega
      have i1 : i < c.pc.length := by omega
      have i2 : i < u.code.length := by omega
      have i3 : i < c.regs.length := by omega
      have i4 : i < c.buf.length := by omega
      have k1 := hl.regs i i3
      have k2 := hl.buf i i4
      simp only [ref09_Right_L0, bif_decide hlen, idx_get i1, idx_get i2, idx_get i3, idx_get i4, idx_get hi, Option.bind_some, wrap_one i (by omega), thrOk, List.getElem?_eq_getElem i1, List.getElem?_eq_getElem i2, List.getElem?_eq_getElem i3, List.getElem?_eq_getElem i4, List.getElem?_eq_getElem hi, all_m (n + 1) c.regs[i] u.mod (by omega) (by omega), rright_m (n + 1) c.buf[i] model room u.mod _ (by omega) (by omega), bne]
      cases decide (c.pc[i] < 0) <;> cases decide ((u.code[i].length : Int) ≤ c.pc[i]) <;> cases allB c.regs[i] u.mod <;> cases ((c.regs[i].length : Int) == u.regs[i]) <;> cases bufOk c.buf[i] model room u.mod u.init.length <;> rfl
    · simp only [ref09_Right_L0, bif_not (Int.lt_irrefl _)]
  simp only [cond_true, Bool.not_true, cond_false, hL, Option.bind_some, Bool.and_true, Bool.true_and, all_m (n + 1) c.mem u.mod (by have := hl.mem; omega) (by have := hl.mem; omega)]
  cases allB c.mem u.mod with
  | false => rfl
  | true =>
  cases ha : (List.range' 0 u.regs.length).all (thrOk u c model room) with
  | false => rfl
  | true =>
    have h0 := of_all_range ha (i := 0) (by omega)
    have hb : bufOk [] model room u.mod u.init.length = true := by
      unfold thrOk at h0
      split at h0
      · simp only [Bool.and_eq_true] at h0
        exact bufOk_nil h0.2
      · cases h0
    simp only [cond_true, Bool.and_self]
    rw [rright_m (n + 1) [] model room u.mod _ (by simp; omega) (by simp), hb]
    rfl
theorem light_m (n : Nat) (c : ConfS) (hn : 20 < n) : ∃ b, m_ref09_Light n c = some b ∧ (b = true → LightC c) := by
  obtain ⟨n, rfl⟩ : ∃ j, n = j + 1 := ⟨n - 1, by omega⟩
  simp only [m_ref09_Light]
  by_cases h1 : (8 : Int) < (c.pc.length : Int)
  · exact ⟨false, by rw [bif_decide h1], fun h => by cases h⟩
  by_cases h2 : (8 : Int) < (c.regs.length : Int)
  · exact ⟨false, by rw [bif_not h1, bif_decide h2], fun h => by cases h⟩
  by_cases h3 : (8 : Int) < (c.buf.length : Int)
  · exact ⟨false, by rw [bif_not h1, bif_not h2, bif_decide h3], fun h => by cases h⟩
  by_cases h4 : (20 : Int) < (c.mem.length : Int)
  · exact ⟨false, by rw [bif_not h1, bif_not h2, bif_not h3, bif_decide h4], fun h => by cases h⟩
  rw [bif_not h1, bif_not h2, bif_not h3, bif_not h4]
  have hL0 : ref09_Light_L0 n c n 0 = some (bif (List.range' 0 c.regs.length).all (fun i => match c.regs[i]? with | some r => !decide ((20 : Int) < (r.length : Int)) | none => false) then .out () else .ret false) := by
    refine all_loop0 (L := fun k i => ref09_Light_L0 n c k i) c.regs.length _ (fun k i hi => ?_) (fun k => ?_) (by omega)
    · have hlen : (i : Int) < (c.regs.length : Int) := by omega
      simp only [ref09_Light_L0, bif_decide hlen, idx_get hi, Option.bind_some, wrap_one i (by omega), List.getElem?_eq_getElem hi]
      cases decide ((20 : Int) < (c.regs[i].length : Int)) <;> rfl
    · simp only [ref09_Light_L0, bif_not (Int.lt_irrefl _)]
  have hL1 : ref09_Light_L1 n c n 0 = some (bif (List.range' 0 c.buf.length).all (fun i => match c.buf[i]? with | some r => !decide ((60 : Int) < (r.length : Int)) | none => false) then .out () else .ret false) := by
    refine all_loop0 (L := fun k i => ref09_Light_L1 n c k i) c.buf.length _ (fun k i hi => ?_) (fun k => ?_) (by omega)
    · have hlen : (i : Int) < (c.buf.length : Int) := by omega
      simp only [ref09_Light_L1, bif_decide hlen, idx_get hi, Option.bind_some, wrap_one i (by omega), List.getElem?_eq_getElem hi]
      cases decide ((60 : Int) < (c.buf[i].length : Int)) <;> rfl
    · simp only [ref09_Light_L1, bif_not (Int.lt_irrefl _)]
  rw [hL0, hL1]
  cases ha : (List.range' 0 c.regs.length).all (fun i => match c.regs[i]? with | some r => !decide ((20 : Int) < (r.length : Int)) | none => false) with
  | false => exact ⟨false, rfl, fun h => by cases h⟩
  | true =>
  cases hb : (List.range' 0 c.buf.length).all (fun i => match c.buf[i]? with | some r => !decide ((60 : Int) < (r.length : Int)) | none => false) with
  | false => exact ⟨false, rfl, fun h => by cases h⟩
  | true =>
  refine ⟨true, rfl, fun _ => ⟨by omega, by omega, by omega, by omega, fun i hi => ?_, fun i hi => ?_⟩⟩
  · have := of_all_range ha hi
    rw [List.getElem?_eq_getElem hi] at this
    simp only [Bool.not_eq_true', decide_eq_false_iff_not] at this
    omega
  · have := of_all_range hb hi
    rw [List.getElem?_eq_getElem hi] at this
    simp only [Bool.not_eq_true', decide_eq_false_iff_not] at this
    omega
end Go.Proofs.Ytejkhpgahnncnaa
end

section
namespace Go.Proofs.Ytejkhpgahnncnaa
set_option linter.unusedVariables false
set_option linter.unusedSimpArgs false

abbrev u8w (x : Int) : Int := IntKind.u8.wrap x
def hiB (pc : Int) : Int := u8w (IntKind.i64.wrap (Int.tdiv pc 256))
def loB (pc : Int) : Int := u8w (Int.tmod pc 256)
def entBy (e : EntryS) : List Int := [u8w e.loc, u8w e.n]
/-- A thread's bytes. -/
def encT (pc : Int) (r : List Int) (b : List EntryS) : List Int := [hiB pc, loB pc] ++ (r.map u8w ++ ([u8w (b.length : Int)] ++ b.flatMap entBy))
theorem encT_len (pc : Int) (r : List Int) (b : List EntryS) : (encT pc r b).length = 3 + r.length + 2 * b.length := by
  have : (b.flatMap entBy).length = 2 * b.length := by
    induction b with
    | nil => rfl
    | cons a b ih => simp only [List.flatMap_cons, List.length_append, ih, List.length_cons]; simp [entBy]; omega
  simp only [encT, List.length_append, List.length_map, this, List.length_cons, List.length_nil]; omega
/-- A configuration's threads. -/
abbrev Thr := Int × List Int × List EntryS
def thrs (c : ConfS) : List Thr := c.pc.zip (c.regs.zip c.buf)
def encTs (l : List Thr) : List Int := l.flatMap fun t => encT t.1 t.2.1 t.2.2
def encC (c : ConfS) : List Int := encTs (thrs c) ++ c.mem.map u8w
structure Even (c : ConfS) : Prop where
  r : c.regs.length = c.pc.length
  b : c.buf.length = c.pc.length
theorem Even.len {c : ConfS} (h : Even c) : (thrs c).length = c.pc.length := by
  have := h.r; have := h.b
  simp only [thrs, List.length_zip]; omega
theorem Even.at {c : ConfS} (h : Even c) {i : Nat} (hi : i < c.pc.length) : (thrs c)[i]? = some (c.pc[i], c.regs[i]'(by rw [h.r]; exact hi), c.buf[i]'(by rw [h.b]; exact hi)) := by
  have h1 := h.r; have h2 := h.b
  simp only [thrs, List.getElem?_zip_eq_some, List.getElem?_eq_getElem hi, List.getElem?_eq_getElem (show i < c.regs.length by omega), List.getElem?_eq_getElem (show i < c.buf.length by omega)]
  simp
def sumL {α : Type} (l : List (List α)) : Nat := (l.map List.length).sum
def sizeC (c : ConfS) : Nat := 3 * c.pc.length + c.mem.length + sumL c.regs + 2 * sumL c.buf
theorem zip_size : ∀ (p : List Int) (r : List (List Int)) (b : List (List EntryS)), r.length = p.length → b.length = p.length → (encTs (p.zip (r.zip b))).length = 3 * p.length + sumL r + 2 * sumL b
  | [], [], [], _, _ => rfl
  | p :: ps, r :: rs, b :: bs, h1, h2 => by
    have := zip_size ps rs bs (by simpa using h1) (by simpa using h2)
    simp only [List.zip_cons_cons, encTs, List.flatMap_cons, List.length_append, encT_len] at this ⊢
    rw [this]
    simp only [sumL, List.map_cons, List.sum_cons, List.length_cons]
    omega
  | [], r :: rs, _, h1, _ => by simp at h1
  | [], [], b :: bs, _, h2 => by simp at h2
  | p :: ps, [], _, h1, _ => by simp at h1
  | p :: ps, r :: rs, [], _, h2 => by simp at h2
theorem encC_len {c : ConfS} (h : Even c) : (encC c).length = sizeC c := by
  simp only [encC, List.length_append, List.length_map, thrs, zip_size _ _ _ h.r h.b, sizeC]; omega

theorem sumL_le {α : Type} {l : List (List α)} {k : Nat} (h : ∀ i (hi : i < l.length), l[i].length ≤ k) : sumL l ≤ k * l.length := by
  induction l with
  | nil => simp [sumL]
  | cons a l ih =>
    have h0 := h 0 (by simp)
    have := ih fun i hi => h (i + 1) (by simpa using hi)
    simp only [sumL, List.map_cons, List.sum_cons, List.length_cons, List.getElem_cons_zero] at *
    rw [Nat.mul_succ]; omega
theorem sumL_drop {α : Type} {l : List (List α)} {i : Nat} (hi : i < l.length) : sumL (l.drop i) = l[i].length + sumL (l.drop (i + 1)) := by
  unfold sumL
  rw [List.drop_eq_getElem_cons hi, List.map_cons, List.sum_cons]
theorem psize0 (n : Nat) (c : ConfS) : ∀ (m k i : Nat) (s : Nat), i + m = c.regs.length → m < k → s + sumL (c.regs.drop i) ≤ 1000000 → c.regs.length ≤ 1000000 → pack_Size_L0 n c k (s : Int) (i : Int) = some (.out ((s + sumL (c.regs.drop i) : Nat) : Int)) := by
  intro m
  induction m with
  | zero =>
    intro k i s hi hk hs h2
    obtain ⟨k, rfl⟩ : ∃ j, k = j + 1 := ⟨k - 1, by omega⟩
    have hge : ¬ ((i : Int) < (c.regs.length : Int)) := by omega
    rw [pack_Size_L0, bif_not hge, List.drop_of_length_le (by omega)]
    rfl
  | succ m ih =>
    intro k i s hi hk hs h2
    obtain ⟨k, rfl⟩ : ∃ j, k = j + 1 := ⟨k - 1, by omega⟩
    have hlt : i < c.regs.length := by omega
    have hlt' : (i : Int) < (c.regs.length : Int) := by omega
    rw [sumL_drop hlt] at hs ⊢
    have e : IntKind.i64.wrap ((s : Int) + (c.regs[i].length : Int)) = ((s + c.regs[i].length : Nat) : Int) := by rw [wrap64 (by omega)]; omega
    rw [pack_Size_L0, bif_decide hlt', idx_get hlt]
    simp only [Option.bind_some, e, wrap_one i (by omega)]
    rw [ih k (i + 1) _ (by omega) (by omega) (by omega) h2]
    congr 3; omega
theorem psize1 (n : Nat) (c : ConfS) : ∀ (m k i : Nat) (s : Nat), i + m = c.buf.length → m < k → s + 2 * sumL (c.buf.drop i) ≤ 1000000 → c.buf.length ≤ 1000000 → pack_Size_L1 n c k (s : Int) (i : Int) = some (.out ((s + 2 * sumL (c.buf.drop i) : Nat) : Int)) := by
  intro m
  induction m with
  | zero =>
    intro k i s hi hk hs h2
    obtain ⟨k, rfl⟩ : ∃ j, k = j + 1 := ⟨k - 1, by omega⟩
    have hge : ¬ ((i : Int) < (c.buf.length : Int)) := by omega
    rw [pack_Size_L1, bif_not hge, List.drop_of_length_le (by omega)]
    rfl
  | succ m ih =>
    intro k i s hi hk hs h2
    obtain ⟨k, rfl⟩ : ∃ j, k = j + 1 := ⟨k - 1, by omega⟩
    have hlt : i < c.buf.length := by omega
    have hlt' : (i : Int) < (c.buf.length : Int) := by omega
    rw [sumL_drop hlt] at hs ⊢
    have e0 : IntKind.i64.wrap (2 * (c.buf[i].length : Int)) = ((2 * c.buf[i].length : Nat) : Int) := by rw [wrap64 (by omega)]; omega
    have e : IntKind.i64.wrap ((s : Int) + ((2 * c.buf[i].length : Nat) : Int)) = ((s + 2 * c.buf[i].length : Nat) : Int) := by rw [wrap64 (by omega)]; omega
    rw [pack_Size_L1, bif_decide hlt', idx_get hlt]
    simp only [Option.bind_some, e0, e, wrap_one i (by omega)]
    rw [ih k (i + 1) _ (by omega) (by omega) (by omega) h2]
    congr 3; omega
theorem LightC.sums {c : ConfS} (h : LightC c) : sumL c.regs ≤ 160 ∧ sumL c.buf ≤ 2400 := by
  have h1 := sumL_le h.regs; have h2 := sumL_le h.buf
  have := h.regsN; have := h.bufN
  omega
theorem psize_m (n : Nat) (c : ConfS) (h : LightC c) (hn : 20 < n) : m_pack_Size n c = some (sizeC c : Int) := by
  obtain ⟨n, rfl⟩ : ∃ j, n = j + 1 := ⟨n - 1, by omega⟩
  have := h.pc; have := h.mem; have := h.regsN; have := h.bufN
  obtain ⟨s1, s2⟩ := h.sums
  have e0 : IntKind.i64.wrap (3 * (c.pc.length : Int)) = ((3 * c.pc.length : Nat) : Int) := by rw [wrap64 (by omega)]; omega
  have e : IntKind.i64.wrap (((3 * c.pc.length : Nat) : Int) + (c.mem.length : Int)) = ((3 * c.pc.length + c.mem.length : Nat) : Int) := by rw [wrap64 (by omega)]; omega
  have d1 : sumL (c.regs.drop 0) = sumL c.regs := by rw [List.drop_zero]
  have d2 : sumL (c.buf.drop 0) = sumL c.buf := by rw [List.drop_zero]
  have l0 : pack_Size_L0 n c n ((3 * c.pc.length + c.mem.length : Nat) : Int) 0 = _ := psize0 n c c.regs.length n 0 (3 * c.pc.length + c.mem.length) (by omega) (by omega) (by omega) (by omega)
  have l1 : pack_Size_L1 n c n ((3 * c.pc.length + c.mem.length + sumL (c.regs.drop 0) : Nat) : Int) 0 = _ := psize1 n c c.buf.length n 0 (3 * c.pc.length + c.mem.length + sumL (c.regs.drop 0)) (by omega) (by omega) (by omega) (by omega)
  rw [d1] at l0 l1
  rw [d2] at l1
  simp only [m_pack_Size, e0, e, l0, l1, Option.bind_some, sizeC]
theorem rsize0 (n : Nat) (c : ConfS) : ∀ (k : Nat) (s i : Int), ref12_Size_L0 n c k s i = pack_Size_L0 n c k s i := by
  intro k
  induction k with
  | zero => intro s i; rfl
  | succ k ih => intro s i; simp only [ref12_Size_L0, pack_Size_L0, ih]
theorem rsize1 (n : Nat) (c : ConfS) : ∀ (k : Nat) (s i : Int), ref12_Size_L1 n c k s i = pack_Size_L1 n c k s i := by
  intro k
  induction k with
  | zero => intro s i; rfl
  | succ k ih => intro s i; simp only [ref12_Size_L1, pack_Size_L1, ih]
theorem rsize_m (n : Nat) (c : ConfS) : m_ref12_Size n c = m_pack_Size n c := by
  cases n with
  | zero => rfl
  | succ n => simp only [m_ref12_Size, m_pack_Size, rsize0, rsize1]

theorem put_m (n : Nat) (E l : List Int) (k : Nat) (hl : l.length ≤ k) (hs : E.length + k ≤ 1000000) : m_pack_writer_put (n + 1) l (E.length : Int) (E ++ List.replicate k 0) = some (((E ++ l).length : Int), (E ++ l) ++ List.replicate (k - l.length) 0) := by
  have hlen : (E ++ List.replicate k (0 : Int)).length = E.length + k := by simp
  have c1 : (decide (0 ≤ (E.length : Int)) && decide ((E.length : Int) ≤ (((E ++ List.replicate k (0 : Int)).length : Nat) : Int))) = true := by
    rw [hlen, decide_eq_true (by omega), decide_eq_true (by omega)]; rfl
  have c2 : ((E.length : Int)).toNat + ((E ++ List.replicate k (0 : Int)).length - ((E.length : Int)).toNat) ≤ (E ++ List.replicate k (0 : Int)).length := by rw [hlen]; simp
  have e1 : (E ++ List.replicate k (0 : Int)).length - ((E.length : Int)).toNat = k := by rw [hlen]; simp
  have e2 : Nat.min l.length k = l.length := Nat.min_eq_left hl
  rw [e1] at c2
  simp only [m_pack_writer_put, c1, cond_true, e1, e2]
  rw [bif_decide c2]
  have e3 : IntKind.i64.wrap ((E.length : Int) + ((l.length : Nat) : Int)) = ((E ++ l).length : Int) := by rw [wrap64 (by omega), List.length_append]; omega
  have e4 : copyL (E ++ List.replicate k 0) ((E.length : Int)).toNat k l = (E ++ l) ++ List.replicate (k - l.length) 0 := by
    rw [show ((E.length : Int)).toNat = E.length from rfl, copyL, if_pos (by rw [hlen]; exact Nat.le_refl _), e2, List.take_left' rfl, List.take_of_length_le hl, List.drop_append, List.drop_of_length_le (by omega), List.drop_replicate, List.nil_append, List.append_assoc]
    congr 3; omega
  rw [e3, e4]
theorem pE1 (n : Nat) (r : List Int) (hr : r.length ≤ 1000000) : ∀ (m k i : Nat) (E : List Int) (z : Nat), i + m = r.length → m < k → m ≤ z → E.length + z ≤ 1000000 →
    pack_Encode_L1 (n + 1) r k (i : Int) (E ++ List.replicate z 0) (E.length : Int) = some (.out (((E ++ (r.drop i).map u8w).length : Int), (E ++ (r.drop i).map u8w) ++ List.replicate (z - m) 0)) := by
  intro m
  induction m with
  | zero =>
    intro k i E z hi hk hz hs
    obtain ⟨k, rfl⟩ : ∃ j, k = j + 1 := ⟨k - 1, by omega⟩
    have hge : ¬ ((i : Int) < (r.length : Int)) := by omega
    rw [pack_Encode_L1, bif_not hge, List.drop_of_length_le (by omega)]
    simp
  | succ m ih =>
    intro k i E z hi hk hz hs
    obtain ⟨k, rfl⟩ : ∃ j, k = j + 1 := ⟨k - 1, by omega⟩
    have hlt : i < r.length := by omega
    have hlt' : (i : Int) < (r.length : Int) := by omega
    rw [pack_Encode_L1, bif_decide hlt', idx_get hlt]
    have hp := put_m n E [u8w r[i]] z (by simp; omega) hs
    simp only [Option.bind_some, hp, wrap_one i (by omega)]
    have := ih k (i + 1) (E ++ [u8w r[i]]) (z - 1) (by omega) (by omega) (by omega) (by simp; omega)
    rw [show ([u8w r[i]] : List Int).length = 1 from rfl, this, List.drop_eq_getElem_cons hlt, List.map_cons]
    simp only [List.append_assoc, List.cons_append, List.nil_append]
    rw [show z - 1 - m = z - (m + 1) by omega]
theorem pE3 (n : Nat) (c : ConfS) (hr : c.mem.length ≤ 1000000) : ∀ (m k i : Nat) (E : List Int) (z : Nat), i + m = c.mem.length → m < k → m ≤ z → E.length + z ≤ 1000000 →
    pack_Encode_L3 (n + 1) c k (i : Int) (E ++ List.replicate z 0) (E.length : Int) = some (.out (((E ++ (c.mem.drop i).map u8w).length : Int), (E ++ (c.mem.drop i).map u8w) ++ List.replicate (z - m) 0)) := by
  intro m
  induction m with
  | zero =>
    intro k i E z hi hk hz hs
    obtain ⟨k, rfl⟩ : ∃ j, k = j + 1 := ⟨k - 1, by omega⟩
    have hge : ¬ ((i : Int) < (c.mem.length : Int)) := by omega
    rw [pack_Encode_L3, bif_not hge, List.drop_of_length_le (by omega)]
    simp
  | succ m ih =>
    intro k i E z hi hk hz hs
    obtain ⟨k, rfl⟩ : ∃ j, k = j + 1 := ⟨k - 1, by omega⟩
    have hlt : i < c.mem.length := by omega
    have hlt' : (i : Int) < (c.mem.length : Int) := by omega
    rw [pack_Encode_L3, bif_decide hlt', idx_get hlt]
    have hp := put_m n E [u8w c.mem[i]] z (by simp; omega) hs
    simp only [Option.bind_some, hp, wrap_one i (by omega)]
    have := ih k (i + 1) (E ++ [u8w c.mem[i]]) (z - 1) (by omega) (by omega) (by omega) (by simp; omega)
    rw [show ([u8w c.mem[i]] : List Int).length = 1 from rfl, this, List.drop_eq_getElem_cons hlt, List.map_cons]
    simp only [List.append_assoc, List.cons_append, List.nil_append]
    rw [show z - 1 - m = z - (m + 1) by omega]
theorem pE2 (n : Nat) (b : List EntryS) (hr : b.length ≤ 1000000) : ∀ (m k i : Nat) (E : List Int) (z : Nat), i + m = b.length → m < k → 2 * m ≤ z → E.length + z ≤ 1000000 →
    pack_Encode_L2 (n + 1) b k (i : Int) (E ++ List.replicate z 0) (E.length : Int) = some (.out (((E ++ (b.drop i).flatMap entBy).length : Int), (E ++ (b.drop i).flatMap entBy) ++ List.replicate (z - 2 * m) 0)) := by
  intro m
  induction m with
  | zero =>
    intro k i E z hi hk hz hs
    obtain ⟨k, rfl⟩ : ∃ j, k = j + 1 := ⟨k - 1, by omega⟩
    have hge : ¬ ((i : Int) < (b.length : Int)) := by omega
    rw [pack_Encode_L2, bif_not hge, List.drop_of_length_le (by omega)]
    simp
  | succ m ih =>
    intro k i E z hi hk hz hs
    obtain ⟨k, rfl⟩ : ∃ j, k = j + 1 := ⟨k - 1, by omega⟩
    have hlt : i < b.length := by omega
    have hlt' : (i : Int) < (b.length : Int) := by omega
    rw [pack_Encode_L2, bif_decide hlt', idx_get hlt]
    have hp := put_m n E (entBy b[i]) z (by simp [entBy]; omega) hs
    simp only [entBy] at hp
    simp only [Option.bind_some, hp, wrap_one i (by omega)]
    have := ih k (i + 1) (E ++ entBy b[i]) (z - 2) (by omega) (by omega) (by omega) (by simp [entBy]; omega)
    simp only [entBy] at this
    rw [show ([u8w b[i].loc, u8w b[i].n] : List Int).length = 2 from rfl, this, List.drop_eq_getElem_cons hlt, List.flatMap_cons]
    simp only [entBy, List.append_assoc, List.cons_append, List.nil_append]
    rw [show z - 2 - 2 * m = z - 2 * (m + 1) by omega]
end Go.Proofs.Ytejkhpgahnncnaa
end

section
namespace Go.Proofs.Ytejkhpgahnncnaa
set_option linter.unusedVariables false
set_option linter.unusedSimpArgs false

theorem thrs_drop {c : ConfS} (h : Even c) {i : Nat} (hi : i < c.pc.length) : (thrs c).drop i = (c.pc[i], c.regs[i]'(by rw [h.r]; exact hi), c.buf[i]'(by rw [h.b]; exact hi)) :: (thrs c).drop (i + 1) := by
  have hl : i < (thrs c).length := by rw [h.len]; exact hi
  rw [List.drop_eq_getElem_cons hl]
  congr 1
  have := h.at hi
  rw [List.getElem?_eq_getElem hl] at this
  exact Option.some.inj this
theorem pE0 (n : Nat) (c : ConfS) (h : Even c) (hr : ∀ i (hi : i < c.regs.length), c.regs[i].length ≤ n) (hb : ∀ i (hi : i < c.buf.length), c.buf[i].length ≤ n) (hp : c.pc.length ≤ 1000) : ∀ (m k i : Nat) (E : List Int) (z : Nat), i + m = c.pc.length → m < k → (encTs ((thrs c).drop i)).length ≤ z → E.length + z ≤ 1000000 →
    pack_Encode_L0 (n + 1) c k (i : Int) (E ++ List.replicate z 0) (E.length : Int) = some (.out (((E ++ encTs ((thrs c).drop i)).length : Int), (E ++ encTs ((thrs c).drop i)) ++ List.replicate (z - (encTs ((thrs c).drop i)).length) 0)) := by
  intro m
  induction m with
  | zero =>
    intro k i E z hi hk hz hs
    obtain ⟨k, rfl⟩ : ∃ j, k = j + 1 := ⟨k - 1, by omega⟩
    have hge : ¬ ((i : Int) < (c.pc.length : Int)) := by omega
    rw [pack_Encode_L0, bif_not hge, List.drop_of_length_le (by rw [h.len]; omega)]
    simp [encTs]
  | succ m ih =>
    intro k i E z hi hk hz hs
    obtain ⟨k, rfl⟩ : ∃ j, k = j + 1 := ⟨k - 1, by omega⟩
    have hlt : i < c.pc.length := by omega
    have hlt' : (i : Int) < (c.pc.length : Int) := by omega
    have i2 : i < c.regs.length := by rw [h.r]; exact hlt
    have i3 : i < c.buf.length := by rw [h.b]; exact hlt
    have k2 := hr i i2
    have k3 := hb i i3
    rw [thrs_drop h hlt] at hz ⊢
    have hlen : (encTs ((c.pc[i], c.regs[i], c.buf[i]) :: (thrs c).drop (i + 1))).length = 3 + c.regs[i].length + 2 * c.buf[i].length + (encTs ((thrs c).drop (i + 1))).length := by
      simp only [encTs, List.flatMap_cons, List.length_append, encT_len]
    rw [hlen] at hz
    rw [pack_Encode_L0, bif_decide hlt', idx_get hlt]
    have p1 := put_m n E [hiB c.pc[i], loB c.pc[i]] z (by simp; omega) hs
    have p2 := pE1 n c.regs[i] (by omega) c.regs[i].length (n + 1) 0 (E ++ [hiB c.pc[i], loB c.pc[i]]) (z - 2) (by omega) (by omega) (by omega) (by simp; omega)
    have p3 := put_m n (E ++ [hiB c.pc[i], loB c.pc[i]] ++ (c.regs[i].drop 0).map u8w) [u8w (c.buf[i].length : Int)] (z - 2 - c.regs[i].length) (by simp; omega) (by simp; omega)
    have p4 := pE2 n c.buf[i] (by omega) c.buf[i].length (n + 1) 0 (E ++ [hiB c.pc[i], loB c.pc[i]] ++ (c.regs[i].drop 0).map u8w ++ [u8w (c.buf[i].length : Int)]) (z - 2 - c.regs[i].length - 1) (by omega) (by omega) (by omega) (by simp; omega)
    rw [show ([hiB c.pc[i], loB c.pc[i]] : List Int).length = 2 from rfl] at p1
    rw [show ([u8w (c.buf[i].length : Int)] : List Int).length = 1 from rfl] at p3
    have p2 : pack_Encode_L1 (n + 1) c.regs[i] (n + 1) 0 _ _ = _ := p2
    have p4 : pack_Encode_L2 (n + 1) c.buf[i] (n + 1) 0 _ _ = _ := p4
    simp only [hiB, loB] at p1 p2 p3 p4
    simp only [Option.bind_some, p1, idx_get i2, idx_get i3, p2, p3, p4, wrap_one i (by omega)]
    have := ih k (i + 1) (E ++ [hiB c.pc[i], loB c.pc[i]] ++ (c.regs[i].drop 0).map u8w ++ [u8w (c.buf[i].length : Int)] ++ (c.buf[i].drop 0).flatMap entBy) (z - 2 - c.regs[i].length - 1 - 2 * c.buf[i].length) (by omega) (by omega) (by omega) (by
      have := encT_len c.pc[i] c.regs[i] c.buf[i]
      simp only [encT, List.length_append] at this
      simp only [List.drop_zero, List.length_append]
      simp only [List.length_map] at this ⊢
      simp at this ⊢
      omega)
    simp only [hiB, loB] at this
    rw [this]
    have hE : E ++ [hiB c.pc[i], loB c.pc[i]] ++ (c.regs[i].drop 0).map u8w ++ [u8w (c.buf[i].length : Int)] ++ (c.buf[i].drop 0).flatMap entBy ++ encTs ((thrs c).drop (i + 1)) = E ++ encTs ((c.pc[i], c.regs[i], c.buf[i]) :: (thrs c).drop (i + 1)) := by
      simp only [encTs, List.flatMap_cons, encT, List.drop_zero, List.append_assoc]
    simp only [hiB, loB] at hE
    rw [hE, hlen, show z - 2 - c.regs[i].length - 1 - 2 * c.buf[i].length - (encTs ((thrs c).drop (i + 1))).length = z - (3 + c.regs[i].length + 2 * c.buf[i].length + (encTs ((thrs c).drop (i + 1))).length) by omega]

/-- A configuration's bytes. -/
def encB (c : ConfS) : List UInt8 := (encC c).map u8of
theorem even_of {u : UnitS} {c : ConfS} {model room : Int} (h : confOk u c model room = true) : Even c ∧ c.pc.length = u.regs.length ∧ c.mem.length = u.init.length := by
  simp only [confOk, Bool.and_eq_true, beq_iff_eq] at h
  exact ⟨⟨by omega, by omega⟩, by omega, by omega⟩
theorem pencode_m (n : Nat) (u : UnitS) (c : ConfS) (model room : Int) (hl : LightC c) (hn : 402 < n) : m_pack_Encode n u c model room = some (if rightU u && confOk u c model room then (encB c, 0) else ([], 8)) := by
  obtain ⟨n, rfl⟩ : ∃ j, n = j + 2 := ⟨n - 2, by omega⟩
  simp only [m_pack_Encode, cright_m (n + 1) u c model room hl (by omega), Option.bind_some]
  cases hr : rightU u && confOk u c model room with
  | false => rfl
  | true =>
  rw [Bool.and_eq_true] at hr
  obtain ⟨hev, _, _⟩ := even_of hr.2
  have := hl.pc; have := hl.mem; have := hl.regsN; have := hl.bufN
  obtain ⟨s1, s2⟩ := hl.sums
  have hsz := encC_len hev
  have hS : sizeC c ≤ 1000000 := by simp only [sizeC]; omega
  have c1 : (decide (0 ≤ (sizeC c : Int)) && decide ((1 : Int) * (sizeC c : Int) ≤ 140737488355328)) = true := by
    rw [decide_eq_true (by omega), decide_eq_true (by omega)]; rfl
  have ht : (encTs (thrs c)).length + c.mem.length = sizeC c := by rw [← hsz]; simp [encC]
  have q0 := pE0 n c hev (fun i hi => by have := hl.regs i hi; omega) (fun i hi => by have := hl.buf i hi; omega) (by omega) c.pc.length (n + 1) 0 [] (sizeC c) (by omega) (by omega) (by rw [List.drop_zero]; omega) (by simp; omega)
  have q0 : pack_Encode_L0 (n + 1) c (n + 1) 0 (List.replicate (sizeC c) 0) 0 = _ := q0
  rw [List.drop_zero, List.nil_append] at q0
  have q3 := pE3 n c (by omega) c.mem.length (n + 1) 0 (encTs (thrs c)) (sizeC c - (encTs (thrs c)).length) (by omega) (by omega) (by omega) (by omega)
  have q3 : pack_Encode_L3 (n + 1) c (n + 1) 0 _ _ = _ := q3
  rw [List.drop_zero, show sizeC c - (encTs (thrs c)).length - c.mem.length = 0 by omega] at q3
  simp only [cond_true, psize_m (n + 1) c hl (by omega), Option.bind_some, c1, show ((sizeC c : Int)).toNat = sizeC c from rfl, q0, q3, List.replicate_zero, List.append_nil, if_true]
  rw [bif_decide (by rw [show encTs (thrs c) ++ c.mem.map u8w = encC c from rfl, hsz]; omega)]
  rfl
end Go.Proofs.Ytejkhpgahnncnaa
end

section
namespace Go.Proofs.Ytejkhpgahnncnaa
set_option linter.unusedVariables false
set_option linter.unusedSimpArgs false

theorem rE1 (n : Nat) (c : ConfS) (j : Nat) (hj : j < c.regs.length) (hr : c.regs[j].length ≤ 1000) : ∀ (m k i : Nat) (E : List Int), i + m = c.regs[j].length → m < k → E.length + m ≤ 1000000 →
    ref12_Encode_L1 n c (j : Int) k (i : Int) E = some (.out (E ++ (c.regs[j].drop i).map u8w)) := by
  intro m
  induction m with
  | zero =>
    intro k i E hi hk hs
    obtain ⟨k, rfl⟩ : ∃ q, k = q + 1 := ⟨k - 1, by omega⟩
    have hge : ¬ ((i : Int) < (c.regs[j].length : Int)) := by omega
    rw [ref12_Encode_L1, idx_get hj, Option.bind_some, bif_not hge, List.drop_of_length_le (by omega)]
    simp
  | succ m ih =>
    intro k i E hi hk hs
    obtain ⟨k, rfl⟩ : ∃ q, k = q + 1 := ⟨k - 1, by omega⟩
    have hlt : i < c.regs[j].length := by omega
    have hlt' : (i : Int) < (c.regs[j].length : Int) := by omega
    rw [ref12_Encode_L1, idx_get hj, Option.bind_some, bif_decide hlt', Option.bind_some, idx_get hlt, Option.bind_some, bif_decide (by omega), wrap_one i (by omega), ih k (i + 1) _ (by omega) (by omega) (by simp; omega), List.drop_eq_getElem_cons hlt, List.map_cons]
    simp only [List.append_assoc, List.cons_append, List.nil_append]
theorem rE2 (n : Nat) (c : ConfS) (j : Nat) (hj : j < c.buf.length) (hr : c.buf[j].length ≤ 1000) : ∀ (m k i : Nat) (E : List Int), i + m = c.buf[j].length → m < k → E.length + 2 * m ≤ 1000000 →
    ref12_Encode_L2 n c (j : Int) k (i : Int) E = some (.out (E ++ (c.buf[j].drop i).flatMap entBy)) := by
  intro m
  induction m with
  | zero =>
    intro k i E hi hk hs
    obtain ⟨k, rfl⟩ : ∃ q, k = q + 1 := ⟨k - 1, by omega⟩
    have hge : ¬ ((i : Int) < (c.buf[j].length : Int)) := by omega
    rw [ref12_Encode_L2, idx_get hj, Option.bind_some, bif_not hge, List.drop_of_length_le (by omega)]
    simp
  | succ m ih =>
    intro k i E hi hk hs
    obtain ⟨k, rfl⟩ : ∃ q, k = q + 1 := ⟨k - 1, by omega⟩
    have hlt : i < c.buf[j].length := by omega
    have hlt' : (i : Int) < (c.buf[j].length : Int) := by omega
    rw [ref12_Encode_L2, idx_get hj, Option.bind_some, bif_decide hlt', Option.bind_some, idx_get hlt, Option.bind_some, Option.bind_some, idx_get hlt, Option.bind_some, bif_decide (by omega), wrap_one i (by omega), ih k (i + 1) _ (by omega) (by omega) (by simp; omega), List.drop_eq_getElem_cons hlt, List.flatMap_cons]
    simp only [entBy, List.append_assoc, List.cons_append, List.nil_append]
theorem rE3 (n : Nat) (c : ConfS) (hr : c.mem.length ≤ 1000) : ∀ (m k i : Nat) (E : List Int), i + m = c.mem.length → m < k → E.length + m ≤ 1000000 →
    ref12_Encode_L3 n c k (i : Int) E = some (.out (E ++ (c.mem.drop i).map u8w)) := by
  intro m
  induction m with
  | zero =>
    intro k i E hi hk hs
    obtain ⟨k, rfl⟩ : ∃ q, k = q + 1 := ⟨k - 1, by omega⟩
    have hge : ¬ ((i : Int) < (c.mem.length : Int)) := by omega
    rw [ref12_Encode_L3, bif_not hge, List.drop_of_length_le (by omega)]
    simp
  | succ m ih =>
    intro k i E hi hk hs
    obtain ⟨k, rfl⟩ : ∃ q, k = q + 1 := ⟨k - 1, by omega⟩
    have hlt : i < c.mem.length := by omega
    have hlt' : (i : Int) < (c.mem.length : Int) := by omega
    rw [ref12_Encode_L3, bif_decide hlt', idx_get hlt, Option.bind_some, bif_decide (by omega), wrap_one i (by omega), ih k (i + 1) _ (by omega) (by omega) (by simp; omega), List.drop_eq_getElem_cons hlt, List.map_cons]
    simp only [List.append_assoc, List.cons_append, List.nil_append]
theorem rE0 (n : Nat) (c : ConfS) (h : Even c) (hr : ∀ i (hi : i < c.regs.length), c.regs[i].length < n ∧ c.regs[i].length ≤ 1000) (hb : ∀ i (hi : i < c.buf.length), c.buf[i].length < n ∧ c.buf[i].length ≤ 1000) (hp : c.pc.length ≤ 1000) : ∀ (m k i : Nat) (E : List Int), i + m = c.pc.length → m < k → E.length + (encTs ((thrs c).drop i)).length ≤ 1000000 →
    ref12_Encode_L0 n c k (i : Int) E = some (.out (E ++ encTs ((thrs c).drop i))) := by
  intro m
  induction m with
  | zero =>
    intro k i E hi hk hs
    obtain ⟨k, rfl⟩ : ∃ j, k = j + 1 := ⟨k - 1, by omega⟩
    have hge : ¬ ((i : Int) < (c.pc.length : Int)) := by omega
    rw [ref12_Encode_L0, bif_not hge, List.drop_of_length_le (by rw [h.len]; omega)]
    simp [encTs]
  | succ m ih =>
    intro k i E hi hk hs
    obtain ⟨k, rfl⟩ : ∃ j, k = j + 1 := ⟨k - 1, by omega⟩
    have hlt : i < c.pc.length := by omega
    have hlt' : (i : Int) < (c.pc.length : Int) := by omega
    have i2 : i < c.regs.length := by rw [h.r]; exact hlt
    have i3 : i < c.buf.length := by rw [h.b]; exact hlt
    have k2 := hr i i2
    have k3 := hb i i3
    rw [thrs_drop h hlt] at hs ⊢
    have hlen : (encTs ((c.pc[i], c.regs[i], c.buf[i]) :: (thrs c).drop (i + 1))).length = 3 + c.regs[i].length + 2 * c.buf[i].length + (encTs ((thrs c).drop (i + 1))).length := by
      simp only [encTs, List.flatMap_cons, List.length_append, encT_len]
    rw [hlen] at hs
    have p2 := rE1 n c i i2 k2.2 c.regs[i].length n 0 (E ++ [hiB c.pc[i], loB c.pc[i]]) (by omega) k2.1 (by simp; omega)
    have p4 := rE2 n c i i3 k3.2 c.buf[i].length n 0 (E ++ [hiB c.pc[i], loB c.pc[i]] ++ (c.regs[i].drop 0).map u8w ++ [u8w (c.buf[i].length : Int)]) (by omega) k3.1 (by simp; omega)
    have p2 : ref12_Encode_L1 n c (i : Int) n 0 _ = _ := p2
    have p4 : ref12_Encode_L2 n c (i : Int) n 0 _ = _ := p4
    simp only [hiB, loB] at p2 p4
    rw [ref12_Encode_L0, bif_decide hlt', idx_get hlt, Option.bind_some, Option.bind_some, bif_decide (by omega)]
    simp only [p2, Option.bind_some, idx_get i3]
    rw [bif_decide (by simp; omega)]
    simp only [p4, Option.bind_some, wrap_one i (show i < 4611686018427387904 by omega)]
    have := ih k (i + 1) (E ++ [hiB c.pc[i], loB c.pc[i]] ++ (c.regs[i].drop 0).map u8w ++ [u8w (c.buf[i].length : Int)] ++ (c.buf[i].drop 0).flatMap entBy) (by omega) (by omega) (by
      have := encT_len c.pc[i] c.regs[i] c.buf[i]
      simp only [encT, List.length_append] at this
      simp only [List.drop_zero, List.length_append]
      simp only [List.length_map] at this ⊢
      simp at this ⊢
      omega)
    simp only [hiB, loB] at this
    rw [this]
    have hE : E ++ [hiB c.pc[i], loB c.pc[i]] ++ (c.regs[i].drop 0).map u8w ++ [u8w (c.buf[i].length : Int)] ++ (c.buf[i].drop 0).flatMap entBy ++ encTs ((thrs c).drop (i + 1)) = E ++ encTs ((c.pc[i], c.regs[i], c.buf[i]) :: (thrs c).drop (i + 1)) := by
      simp only [encTs, List.flatMap_cons, encT, List.drop_zero, List.append_assoc]
    simp only [hiB, loB] at hE
    rw [hE]
theorem rencode_m (n : Nat) (u : UnitS) (c : ConfS) (model room : Int) (hl : LightC c) (hn : 402 < n) : m_ref12_Encode n u c model room = some (if rightU u && confOk u c model room then (encB c, 0) else ([], 8)) := by
  obtain ⟨n, rfl⟩ : ∃ j, n = j + 2 := ⟨n - 2, by omega⟩
  simp only [m_ref12_Encode, rright9_m (n + 1) u c model room hl (by omega), Option.bind_some]
  cases hr : rightU u && confOk u c model room with
  | false => rfl
  | true =>
  rw [Bool.and_eq_true] at hr
  obtain ⟨hev, _, _⟩ := even_of hr.2
  have := hl.pc; have := hl.mem; have := hl.regsN; have := hl.bufN
  obtain ⟨s1, s2⟩ := hl.sums
  have hsz := encC_len hev
  have hS : sizeC c ≤ 1000000 := by simp only [sizeC]; omega
  have ht : (encTs (thrs c)).length + c.mem.length = sizeC c := by rw [← hsz]; simp [encC]
  have q0 := rE0 (n + 1) c hev (fun i hi => by have := hl.regs i hi; omega) (fun i hi => by have := hl.buf i hi; omega) (by omega) c.pc.length (n + 1) 0 [] (by omega) (by omega) (by rw [List.drop_zero]; simp; omega)
  have q0 : ref12_Encode_L0 (n + 1) c (n + 1) 0 [] = _ := q0
  rw [List.drop_zero, List.nil_append] at q0
  have q3 := rE3 (n + 1) c (by omega) c.mem.length (n + 1) 0 (encTs (thrs c)) (by omega) (by omega) (by omega)
  have q3 : ref12_Encode_L3 (n + 1) c (n + 1) 0 _ = _ := q3
  rw [List.drop_zero] at q3
  simp only [cond_true, Option.bind_some, q0, q3, if_true]
  rw [bif_decide (by rw [show encTs (thrs c) ++ c.mem.map u8w = encC c from rfl, hsz]; omega)]
  rfl
theorem law_light (n : Nat) (q : S_law12_Case) (hn : 21 < n) : ∃ b, m_law12_light n q = some b ∧ (b = true → lightU q.f_U = true ∧ LightC q.f_C) := by
  obtain ⟨n, rfl⟩ : ∃ j, n = j + 2 := ⟨n - 2, by omega⟩
  simp only [m_law12_light, m_ref07_Light, Option.bind_some]
  cases h : lightU q.f_U with
  | false => exact ⟨false, rfl, fun h => by cases h⟩
  | true =>
    obtain ⟨b, hb, hl⟩ := light_m (n + 1) q.f_C (by omega)
    exact ⟨b, by simp only [cond_true, hb, Option.bind_some], fun h => ⟨rfl, hl h⟩⟩
theorem packEncodes_m (q : S_law12_Case) : m_law12_PackEncodes 1001 q = some true := by
  obtain ⟨b, hb, hl⟩ := law_light 1000 q (by omega)
  simp only [m_law12_PackEncodes, hb, Option.bind_some]
  cases b with
  | false => rfl
  | true =>
    obtain ⟨_, hl⟩ := hl rfl
    simp only [cond_true, pencode_m 1000 _ _ _ _ hl (by omega), rencode_m 1000 _ _ _ _ hl (by omega), psize_m 1000 _ hl (by omega), rsize_m, Option.bind_some, beq_self_eq_true, m_law12_known]
end Go.Proofs.Ytejkhpgahnncnaa
end

section
namespace Go.Proofs.Ytejkhpgahnncnaa
set_option linter.unusedVariables false
set_option linter.unusedSimpArgs false
set_option maxRecDepth 100000
set_option maxHeartbeats 4000000

theorem ok_store_count {n:Nat} ⦃v0_b:(List EntryS)⦄ ⦃v1_loc:Int⦄ ⦃r:Int⦄:m_store_count n v0_b v1_loc=some r→CN n 59 [AV.sl 2 (List.map encE v0_b),iA v1_loc] []=some (iA r,[]):=by
 intro h;rcases n with _|n;cases h
 rw [m_store_count] at h
 refine callN_eq' Try.func59 (by rfl) rfl rfl (Nat.le_of_ble_eq_true rfl) ?_
 intro call hc;conv=>lhs;whnf
 revert h
 intro h;refine bind_some2 h ?_;clear h;intro o10 ho10 h
 refine lq (σ:=(Int×Int)) (τ:=Int) (ν:=Int) 0 (fun (s1,s2) a4=>stOf 22 [(1,iA v1_loc),(5,iA s1),(8,AV.sl 2 (List.map encE v0_b)),(9,iA (((v0_b.length:Nat):Int))),(10,iA s2)]) (fun (s1,s2) a4=>[]) (fun x15 a14=>stOf 22 [(5,iA x15)]) (fun x15 a14=>[]) (fun v=>(iA v,[])) (fun k s=>store_count_L0 n v0_b v1_loc k s.1 s.2) (fun s=>rfl) o10 n (0,0) (fun _=>0) ho10 ?_ ?_
 intro k3 ss a4 K5 cont6 hK7 hcont8 h hr9
 obtain ⟨s1,s2⟩:=ss
 replace h:store_count_L0 n v0_b v1_loc (k3+1) s1 s2=some o10:=h
 rw [store_count_L0] at h
 conv=>lhs;whnf
 revert h
 refine br ?_ ?_
 refine ix ?_;intro x12
 refine br ?_ ?_
 exact fun h=>cq (hcont8 (IntKind.i64.wrap (s1+1),IntKind.i64.wrap (s2+1)) (fun _=>0) h)
 exact fun h=>cq (hcont8 (s1,IntKind.i64.wrap (s2+1)) (fun _=>0) h)
 intro h;cases sj h
 exact kq (hr9 (fun _=>0))
 refine lrc ?_ ?_
 intro v e;subst e;cases sj h;rfl
 intro x15 a14 e;subst e
 dsimp only at h
 conv=>lhs;whnf
 revert h
 exact rz

theorem ok_store_Right {n:Nat} ⦃v0_b:(List EntryS)⦄ ⦃v1_model:Int⦄ ⦃v2_room:Int⦄ ⦃v3_mod:Int⦄ ⦃v4_locs:Int⦄ ⦃r:Bool⦄:m_store_Right n v0_b v1_model v2_room v3_mod v4_locs=some r→CN n 50 [AV.sl 2 (List.map encE v0_b),iA v1_model,iA v2_room,iA v3_mod,iA v4_locs] []=some (bA r,[]):=by
 intro h;rcases n with _|n;cases h
 rw [m_store_Right] at h
 refine callN_eq' Try.func50 (by rfl) rfl rfl (Nat.le_of_ble_eq_true rfl) ?_
 intro call hc;conv=>lhs;whnf
 revert h
 refine br ?_ ?_
 exact rz
 refine br ?_ ?_
 exact rz
 refine br ?_ ?_
 exact rz
 refine br ?_ ?_
 exact rz
 intro h;refine bind_some2 h ?_;clear h;intro o13 ho13 h
 refine lq (σ:=Int) (τ:=Unit) (ν:=Bool) 0 (fun s5 a7=>stOf 96 [(0,AV.sl 2 (List.map encE v0_b)),(1,iA v1_model),(2,iA v2_room),(3,iA v3_mod),(4,iA v4_locs),(27,AV.sl 2 (List.map encE v0_b)),(28,iA (((v0_b.length:Nat):Int))),(29,iA s5)]) (fun s5 a7=>[]) (fun _ a30=>stOf 96 [(0,AV.sl 2 (List.map encE v0_b)),(1,iA v1_model),(2,iA v2_room)]) (fun _ a30=>[]) (fun v=>(bA v,[])) (fun k s=>store_Right_L0 n v0_b v1_model v2_room v3_mod v4_locs k s) (fun s=>rfl) o13 n 0 (fun _=>0) ho13 ?_ ?_
 intro k6 s5 a7 K8 cont9 hK10 hcont11 h hr12
 replace h:store_Right_L0 n v0_b v1_model v2_room v3_mod v4_locs (k6+1) s5=some o13:=h
 rw [store_Right_L0] at h
 conv=>lhs;whnf
 revert h
 refine br ?_ ?_
 refine ix ?_;intro x15
 refine br ?_ ?_
 intro h;cases sj h
 refine (hK10 _ _).trans ?_
 refine Eq.trans ?_ (Eq.symm (show _=some _ from hr12))
 conv=>lhs;whnf
 exact rq
 refine br ?_ ?_
 intro h;cases sj h
 refine (hK10 _ _).trans ?_
 refine Eq.trans ?_ (Eq.symm (show _=some _ from hr12))
 conv=>lhs;whnf
 exact rq
 refine br ?_ ?_
 intro h;cases sj h
 refine (hK10 _ _).trans ?_
 refine Eq.trans ?_ (Eq.symm (show _=some _ from hr12))
 conv=>lhs;whnf
 exact rq
 refine br ?_ ?_
 intro h;cases sj h
 refine (hK10 _ _).trans ?_
 refine Eq.trans ?_ (Eq.symm (show _=some _ from hr12))
 conv=>lhs;whnf
 exact rq
 refine br ?_ ?_
 refine br ?_ ?_
 refine ix ?_;intro x22
 refine br ?_ ?_
 intro h;cases sj h
 refine (hK10 _ _).trans ?_
 refine Eq.trans ?_ (Eq.symm (show _=some _ from hr12))
 conv=>lhs;whnf
 exact rq
 refine ca hc (fun _ h=>ok_store_count h) ?_;intro y24
 refine br ?_ ?_
 intro h;cases sj h
 refine (hK10 _ _).trans ?_
 refine Eq.trans ?_ (Eq.symm (show _=some _ from hr12))
 conv=>lhs;whnf
 exact rq
 exact fun h=>cq (hcont11 (IntKind.i64.wrap (s5+1)) (fun _=>0) h)
 refine ca hc (fun _ h=>ok_store_count h) ?_;intro y27
 refine br ?_ ?_
 intro h;cases sj h
 refine (hK10 _ _).trans ?_
 refine Eq.trans ?_ (Eq.symm (show _=some _ from hr12))
 conv=>lhs;whnf
 exact rq
 exact fun h=>cq (hcont11 (IntKind.i64.wrap (s5+1)) (fun _=>0) h)
 exact fun h=>cq (hcont11 (IntKind.i64.wrap (s5+1)) (fun _=>0) h)
 intro h;cases sj h
 exact kq (hr12 (fun _=>0))
 refine lrc ?_ ?_
 intro v e;subst e;cases sj h;rfl
 intro t a30 e;subst e
 dsimp only at h
 conv=>lhs;whnf
 revert h
 refine br ?_ ?_
 exact rz
 refine br ?_ ?_
 exact rz
 exact rz
end Go.Proofs.Ytejkhpgahnncnaa
end

section
namespace Go.Proofs.Ytejkhpgahnncnaa
set_option linter.unusedVariables false
set_option linter.unusedSimpArgs false
set_option maxRecDepth 100000
set_option maxHeartbeats 4000000

theorem ok_conf_below {n:Nat} ⦃v0_l:(List Int)⦄ ⦃v1_mod:Int⦄ ⦃v2_many:Int⦄ ⦃r:Bool⦄:m_conf_below n v0_l v1_mod v2_many=some r→CN n 49 [AV.sl 1 (List.map encI v0_l),iA v1_mod,iA v2_many] []=some (bA r,[]):=by
 intro h;rcases n with _|n;cases h
 rw [m_conf_below] at h
 refine callN_eq' Try.func49 (by rfl) rfl rfl (Nat.le_of_ble_eq_true rfl) ?_
 intro call hc;conv=>lhs;whnf
 revert h
 intro h;refine bind_some2 h ?_;clear h;intro o9 ho9 h
 refine lq (σ:=Int) (τ:=Unit) (ν:=Bool) 0 (fun s1 a3=>stOf 27 [(0,AV.sl 1 (List.map encI v0_l)),(1,iA v1_mod),(2,iA v2_many),(9,AV.sl 1 (List.map encI v0_l)),(10,iA (((v0_l.length:Nat):Int))),(11,iA s1)]) (fun s1 a3=>[]) (fun _ a14=>stOf 27 [(0,AV.sl 1 (List.map encI v0_l)),(2,iA v2_many)]) (fun _ a14=>[]) (fun v=>(bA v,[])) (fun k s=>conf_below_L0 n v0_l v1_mod k s) (fun s=>rfl) o9 n 0 (fun _=>0) ho9 ?_ ?_
 intro k2 s1 a3 K4 cont5 hK6 hcont7 h hr8
 replace h:conf_below_L0 n v0_l v1_mod (k2+1) s1=some o9:=h
 rw [conf_below_L0] at h
 conv=>lhs;whnf
 revert h
 refine br ?_ ?_
 refine ix ?_;intro x11
 refine br ?_ ?_
 intro h;cases sj h
 refine (hK6 _ _).trans ?_
 refine Eq.trans ?_ (Eq.symm (show _=some _ from hr8))
 conv=>lhs;whnf
 exact rq
 refine br ?_ ?_
 intro h;cases sj h
 refine (hK6 _ _).trans ?_
 refine Eq.trans ?_ (Eq.symm (show _=some _ from hr8))
 conv=>lhs;whnf
 exact rq
 exact fun h=>cq (hcont7 (IntKind.i64.wrap (s1+1)) (fun _=>0) h)
 intro h;cases sj h
 exact kq (hr8 (fun _=>0))
 refine lrc ?_ ?_
 intro v e;subst e;cases sj h;rfl
 intro t a14 e;subst e
 dsimp only at h
 conv=>lhs;whnf
 revert h
 exact rz

theorem ok_conf_Right {n:Nat} ⦃v0_u:UnitS⦄ ⦃v1_c:ConfS⦄ ⦃v2_model:Int⦄ ⦃v3_room:Int⦄ ⦃r:Bool⦄:m_conf_Right n v0_u v1_c v2_model v3_room=some r→CN n 29 [AV.agg [iA (v0_u.mod),AV.sl 1 (List.map encI (v0_u.init)),AV.sl 1 (List.map encI (v0_u.regs)),AV.sl 1 (List.map encThr (v0_u.code))],AV.agg [AV.sl 1 (List.map encI (v1_c.pc)),AV.sl 1 (List.map encRow (v1_c.regs)),AV.sl 1 (List.map encI (v1_c.mem)),AV.sl 1 (List.map encBuf (v1_c.buf))],iA v2_model,iA v3_room] []=some (bA r,[]):=by
 intro h;rcases n with _|n;cases h
 rw [m_conf_Right] at h
 refine callN_eq' Try.func29 (by rfl) rfl rfl (Nat.le_of_ble_eq_true rfl) ?_
 intro call hc;conv=>lhs;whnf
 revert h
 refine ca hc (fun _ h=>ok_lower_Right h) ?_;intro y1
 refine br ?_ ?_
 refine cr hc (fun _ h=>ok_conf_below h) ?_;intro y4
 refine br ?_ ?_
 refine br ?_ ?_
 exact rz
 refine br ?_ ?_
 exact rz
 refine br ?_ ?_
 exact rz
 intro h;refine bind_some2 h ?_;clear h;intro o18 ho18 h
 refine lq (σ:=Int) (τ:=Unit) (ν:=Bool) 0 (fun s10 a12=>stOf 103 [(2,iA v2_model),(3,iA v3_room),(4,AV.ptr 0 0),(5,AV.ptr 1 0),(51,AV.sl 1 (List.map encI (v1_c.pc))),(52,iA ((((v1_c.pc).length:Nat):Int))),(53,iA s10)]) (fun s10 a12=>[Ob.var 25 [iA (v0_u.mod),AV.sl 1 (List.map encI (v0_u.init)),AV.sl 1 (List.map encI (v0_u.regs)),AV.sl 1 (List.map encThr (v0_u.code))],Ob.var 31 [AV.sl 1 (List.map encI (v1_c.pc)),AV.sl 1 (List.map encRow (v1_c.regs)),AV.sl 1 (List.map encI (v1_c.mem)),AV.sl 1 (List.map encBuf (v1_c.buf))]]) (fun _ a33=>stOf 103 []) (fun _ a33=>[Ob.var 25 [iA (v0_u.mod),AV.sl 1 (List.map encI (v0_u.init)),AV.sl 1 (List.map encI (v0_u.regs)),AV.sl 1 (List.map encThr (v0_u.code))],Ob.var 31 [AV.sl 1 (List.map encI (v1_c.pc)),AV.sl 1 (List.map encRow (v1_c.regs)),AV.sl 1 (List.map encI (v1_c.mem)),AV.sl 1 (List.map encBuf (v1_c.buf))]]) (fun v=>(bA v,[])) (fun k s=>conf_Right_L0 n v0_u v1_c v2_model v3_room k s) (fun s=>rfl) o18 n 0 (fun _=>0) ho18 ?_ ?_
 intro k11 s10 a12 K13 cont14 hK15 hcont16 h hr17
 replace h:conf_Right_L0 n v0_u v1_c v2_model v3_room (k11+1) s10=some o18:=h
 rw [conf_Right_L0] at h
 conv=>lhs;whnf
 revert h
 refine br ?_ ?_
 refine ix ?_;intro x20
 refine br ?_ ?_
 intro h;cases sj h
 refine (hK15 _ _).trans ?_
 refine Eq.trans ?_ (Eq.symm (show _=some _ from hr17))
 conv=>lhs;whnf
 exact rq
 refine ix ?_;intro x22
 refine br ?_ ?_
 intro h;cases sj h
 refine (hK15 _ _).trans ?_
 refine Eq.trans ?_ (Eq.symm (show _=some _ from hr17))
 conv=>lhs;whnf
 exact rq
 refine ix ?_;intro x24
 refine ix ?_;intro x25
 refine ca hc (fun _ h=>ok_conf_below h) ?_;intro y26
 refine br ?_ ?_
 refine ix ?_;intro x29
 refine cr hc (fun _ h=>ok_store_Right h) ?_;intro y30
 refine br ?_ ?_
 exact fun h=>cq (hcont16 (IntKind.i64.wrap (s10+1)) (fun _=>0) h)
 intro h;cases sj h
 refine (hK15 _ _).trans ?_
 refine Eq.trans ?_ (Eq.symm (show _=some _ from hr17))
 conv=>lhs;whnf
 exact rq
 intro h;cases sj h
 refine (hK15 _ _).trans ?_
 refine Eq.trans ?_ (Eq.symm (show _=some _ from hr17))
 conv=>lhs;whnf
 exact rq
 intro h;cases sj h
 exact kq (hr17 (fun _=>0))
 refine lrc ?_ ?_
 intro v e;subst e;cases sj h;rfl
 intro t a33 e;subst e
 dsimp only at h
 conv=>lhs;whnf
 revert h
 exact rz
 exact rz
 exact rz

end Go.Proofs.Ytejkhpgahnncnaa
end

section
namespace Go.Proofs.Ytejkhpgahnncnaa
set_option linter.unusedVariables false
set_option linter.unusedSimpArgs false
set_option maxRecDepth 100000
set_option maxHeartbeats 4000000

theorem ok_pack_Size {n:Nat} ⦃v0_c:ConfS⦄ ⦃r:Int⦄:m_pack_Size n v0_c=some r→CN n 23 [AV.agg [AV.sl 1 (List.map encI (v0_c.pc)),AV.sl 1 (List.map encRow (v0_c.regs)),AV.sl 1 (List.map encI (v0_c.mem)),AV.sl 1 (List.map encBuf (v0_c.buf))]] []=some (iA r,[]):=by
 intro h;rcases n with _|n;cases h
 rw [m_pack_Size] at h
 refine callN_eq' Try.func23 (by rfl) rfl rfl (Nat.le_of_ble_eq_true rfl) ?_
 intro call hc;conv=>lhs;whnf
 revert h
 intro h;refine bind_some2 h ?_;clear h;intro o10 ho10 h
 refine lq (σ:=(Int×Int)) (τ:=Int) (ν:=Int) 0 (fun (s1,s2) a4=>stOf 42 [(1,AV.ptr 0 0),(3,iA s1),(17,AV.sl 1 (List.map encRow (v0_c.regs))),(18,iA ((((v0_c.regs).length:Nat):Int))),(19,iA s2)]) (fun (s1,s2) a4=>[Ob.var 31 [AV.sl 1 (List.map encI (v0_c.pc)),AV.sl 1 (List.map encRow (v0_c.regs)),AV.sl 1 (List.map encI (v0_c.mem)),AV.sl 1 (List.map encBuf (v0_c.buf))]]) (fun x14 a13=>stOf 42 [(1,AV.ptr 0 0),(3,iA x14)]) (fun x14 a13=>[Ob.var 31 [AV.sl 1 (List.map encI (v0_c.pc)),AV.sl 1 (List.map encRow (v0_c.regs)),AV.sl 1 (List.map encI (v0_c.mem)),AV.sl 1 (List.map encBuf (v0_c.buf))]]) (fun v=>(iA v,[])) (fun k s=>pack_Size_L0 n v0_c k s.1 s.2) (fun s=>rfl) o10 n (IntKind.i64.wrap ((IntKind.i64.wrap (3 * (((v0_c.pc).length:Nat):Int)))+(((v0_c.mem).length:Nat):Int)),0) (fun _=>0) ho10 ?_ ?_
 intro k3 ss a4 K5 cont6 hK7 hcont8 h hr9
 obtain ⟨s1,s2⟩:=ss
 replace h:pack_Size_L0 n v0_c (k3+1) s1 s2=some o10:=h
 rw [pack_Size_L0] at h
 conv=>lhs;whnf
 revert h
 refine br ?_ ?_
 refine ix ?_;intro x12
 exact fun h=>cq (hcont8 (IntKind.i64.wrap (s1+((x12.length:Nat):Int)),IntKind.i64.wrap (s2+1)) (fun _=>0) h)
 intro h;cases sj h
 exact kq (hr9 (fun _=>0))
 refine lrc ?_ ?_
 intro v e;subst e;cases sj h;rfl
 intro x14 a13 e;subst e
 dsimp only at h
 conv=>lhs;whnf
 revert h
 intro h;refine bind_some2 h ?_;clear h;intro o24 ho24 h
 refine lq (σ:=(Int×Int)) (τ:=Int) (ν:=Int) 2 (fun (s15,s16) a18=>stOf 42 [(3,iA s15),(29,AV.sl 1 (List.map encBuf (v0_c.buf))),(30,iA ((((v0_c.buf).length:Nat):Int))),(31,iA s16)]) (fun (s15,s16) a18=>[Ob.var 31 [AV.sl 1 (List.map encI (v0_c.pc)),AV.sl 1 (List.map encRow (v0_c.regs)),AV.sl 1 (List.map encI (v0_c.mem)),AV.sl 1 (List.map encBuf (v0_c.buf))]]) (fun x28 a27=>stOf 42 [(3,iA x28)]) (fun x28 a27=>[Ob.var 31 [AV.sl 1 (List.map encI (v0_c.pc)),AV.sl 1 (List.map encRow (v0_c.regs)),AV.sl 1 (List.map encI (v0_c.mem)),AV.sl 1 (List.map encBuf (v0_c.buf))]]) (fun v=>(iA v,[])) (fun k s=>pack_Size_L1 n v0_c k s.1 s.2) (fun s=>rfl) o24 n (x14,0) (fun _=>0) ho24 ?_ ?_
 intro k17 ss a18 K19 cont20 hK21 hcont22 h hr23
 obtain ⟨s15,s16⟩:=ss
 replace h:pack_Size_L1 n v0_c (k17+1) s15 s16=some o24:=h
 rw [pack_Size_L1] at h
 conv=>lhs;whnf
 revert h
 refine br ?_ ?_
 refine ix ?_;intro x26
 exact fun h=>cq (hcont22 (IntKind.i64.wrap (s15+(IntKind.i64.wrap (2 * ((x26.length:Nat):Int)))),IntKind.i64.wrap (s16+1)) (fun _=>0) h)
 intro h;cases sj h
 exact kq (hr23 (fun _=>0))
 refine lrc ?_ ?_
 intro v e;subst e;cases sj h;rfl
 intro x28 a27 e;subst e
 dsimp only at h
 conv=>lhs;whnf
 revert h
 exact rz

theorem ok_pack_writer_put {n:Nat} ⦃v1_l:(List Int)⦄ ⦃w_at:Int⦄ ⦃o1_a:(List Int)⦄ ⦃r:(Int×(List Int))⦄:m_pack_writer_put n v1_l w_at o1_a=some r→CN n 43 [AV.ptr 0 0,AV.sl 1 (List.map (encK .u8) v1_l)] [Ob.var 69 [AV.own 1 0 (List.length o1_a),iA w_at],Ob.arr 1 (List.map (encK .u8) o1_a)]=some (AV.tup [],[Ob.var 69 [AV.own 1 0 (List.length r.2),iA r.1],Ob.arr 1 (List.map (encK .u8) r.2)]):=by
 intro h;rcases n with _|n;cases h
 rw [m_pack_writer_put] at h
 refine callN_eq' Try.func43 (by rfl) rfl rfl (Nat.le_of_ble_eq_true rfl) ?_
 intro call hc;conv=>lhs;whnf
 revert h
 intro h
 refine chk_some2 h ?_;clear h;intro hc1 h
 try simp only [ls]
 refine bif_pos hc1 ?_
 simp only [Nat.zero_add,Nat.sub_zero,ls]
 conv=>lhs;whnf
 revert h
 intro h
 refine chk_some2 h ?_;clear h;intro hc5 h
 have hln4:List.length (List.map (encK .u8) v1_l:List (List AV))=List.length v1_l:=by simp only [List.length_map]<;>rfl
 have hcp3:(List.take (w_at.toNat) (List.map (encK .u8) o1_a)++(List.take (o1_a.length - w_at.toNat) (List.map (encK .u8) v1_l:List (List AV))++List.drop (w_at.toNat+Nat.min (List.length (List.map (encK .u8) v1_l:List (List AV))) (o1_a.length - w_at.toNat)) (List.map (encK .u8) o1_a)))=List.map (encK .u8) (copyL o1_a (w_at.toNat) (o1_a.length - w_at.toNat) v1_l):=by rw [copyL_eq hc5,hln4];first|(simp only [List.map_append,List.map_take,List.map_drop];done)|(simp only [List.map_append,List.map_take,List.map_drop,List.map_cons,List.map_nil]<;>rfl)
 have hcp3_b:(List.take (w_at.toNat) (List.map (encK .u8) o1_a)++(List.take (o1_a.length - w_at.toNat) (List.map (encK .u8) v1_l:List (List AV))++List.drop (w_at.toNat+Nat.min (List.length v1_l) (o1_a.length - w_at.toNat)) (List.map (encK .u8) o1_a)))=List.map (encK .u8) (copyL o1_a (w_at.toNat) (o1_a.length - w_at.toNat) v1_l):=by rw [copyL_eq hc5];first|(simp only [List.map_append,List.map_take,List.map_drop];done)|(simp only [List.map_append,List.map_take,List.map_drop,List.map_cons,List.map_nil]<;>rfl)
 try simp only [List.length_map]
 refine bif_pos (by first|exact hc5|(simp only [List.length_map];exact hc5)) ?_
 first|simp only [hcp3,hln4]|simp only [hcp3_b,hln4]|simp only [hcp3_b]
 try simp only [ls]
 conv=>lhs;whnf
 revert h
 intro h;cases sj h
 try simp only [ls]
 exact fq (y:=some (AV.tup [],[Ob.var 69 [AV.own 1 0 (List.length ((copyL o1_a (w_at.toNat) (o1_a.length - w_at.toNat) v1_l))),iA (IntKind.i64.wrap (w_at+(((Nat.min (List.length v1_l) (o1_a.length - w_at.toNat)):Nat):Int)))],Ob.arr 1 (List.map (encK .u8) (copyL o1_a (w_at.toNat) (o1_a.length - w_at.toNat) v1_l))]))

theorem ok_pack_Encode {n:Nat} ⦃v0_u:UnitS⦄ ⦃v1_c:ConfS⦄ ⦃v2_model:Int⦄ ⦃v3_room:Int⦄ ⦃r:((List UInt8)×Int)⦄:m_pack_Encode n v0_u v1_c v2_model v3_room=some r→CN n 21 [AV.agg [iA (v0_u.mod),AV.sl 1 (List.map encI (v0_u.init)),AV.sl 1 (List.map encI (v0_u.regs)),AV.sl 1 (List.map encThr (v0_u.code))],AV.agg [AV.sl 1 (List.map encI (v1_c.pc)),AV.sl 1 (List.map encRow (v1_c.regs)),AV.sl 1 (List.map encI (v1_c.mem)),AV.sl 1 (List.map encBuf (v1_c.buf))],iA v2_model,iA v3_room] []=some (AV.tup [sA r.1,iA r.2],[]):=by
 intro h;rcases n with _|n;cases h
 rw [m_pack_Encode] at h
 refine callN_eq' Try.func21 (by rfl) rfl rfl (Nat.le_of_ble_eq_true rfl) ?_
 intro call hc;conv=>lhs;whnf
 revert h
 refine ca hc (fun _ h=>ok_conf_Right h) ?_;intro y1
 refine br ?_ ?_
 refine ca hc (fun _ h=>ok_pack_Size h) ?_;intro y4
 intro h
 refine chk_some2 h ?_;clear h;intro hc7 h
 try simp only [ls]
 refine bif_pos (by first|exact make_ok (B:=1) hc7 rfl (by kernel_rfl)|exact make_ok2 (B:=1) hc7 (by kernel_rfl)) ?_
 have hr6:List.replicate y4.toNat [AV.int .u8 (0)]=List.map (encK .u8) (List.replicate y4.toNat 0:List Int):=by rw [List.map_replicate];rfl
 simp only [hr6,ls]
 conv=>lhs;whnf
 revert h
 intro h;refine bind_some2 h ?_;clear h;intro o18 ho18 h
 refine lq (σ:=(Int×(List Int)×Int)) (τ:=(Int×(List Int))) (ν:=((List UInt8)×Int)) 0 (fun (s8,s9,s10) a12=>stOf 112 [(5,AV.ptr 1 0),(10,AV.ptr 3 0),(31,AV.sl 1 (List.map encI (v1_c.pc))),(32,iA ((((v1_c.pc).length:Nat):Int))),(33,iA s8)]) (fun (s8,s9,s10) a12=>[Ob.var 25 [iA (v0_u.mod),AV.sl 1 (List.map encI (v0_u.init)),AV.sl 1 (List.map encI (v0_u.regs)),AV.sl 1 (List.map encThr (v0_u.code))],Ob.var 31 [AV.sl 1 (List.map encI (v1_c.pc)),AV.sl 1 (List.map encRow (v1_c.regs)),AV.sl 1 (List.map encI (v1_c.mem)),AV.sl 1 (List.map encBuf (v1_c.buf))],Ob.arr 1 (List.map (encK .u8) s9),Ob.var 69 [AV.own 2 0 (List.length s9),iA s10]]) (fun (x67,x68) a66=>stOf 112 [(5,AV.ptr 1 0),(10,AV.ptr 3 0)]) (fun (x67,x68) a66=>[Ob.var 25 [iA (v0_u.mod),AV.sl 1 (List.map encI (v0_u.init)),AV.sl 1 (List.map encI (v0_u.regs)),AV.sl 1 (List.map encThr (v0_u.code))],Ob.var 31 [AV.sl 1 (List.map encI (v1_c.pc)),AV.sl 1 (List.map encRow (v1_c.regs)),AV.sl 1 (List.map encI (v1_c.mem)),AV.sl 1 (List.map encBuf (v1_c.buf))],Ob.arr 1 (List.map (encK .u8) x68),Ob.var 69 [AV.own 2 0 (List.length x68),iA x67]]) (fun v=>(AV.tup [sA v.1,iA v.2],[])) (fun k s=>pack_Encode_L0 n v1_c k s.1 s.2.1 s.2.2) (fun s=>rfl) o18 n (0,(List.replicate y4.toNat 0:List Int),0) (fun _=>0) ho18 ?_ ?_
 intro k11 ss a12 K13 cont14 hK15 hcont16 h hr17
 obtain ⟨s8,s9,s10⟩:=ss
 replace h:pack_Encode_L0 n v1_c (k11+1) s8 s9 s10=some o18:=h
 rw [pack_Encode_L0] at h
 conv=>lhs;whnf
 revert h
 refine br ?_ ?_
 refine ix ?_;intro x20
 refine cr hc (fun y21 h=>(show CN n 43 [AV.ptr 0 0,AV.sl 1 [[AV.int .u8 (IntKind.u8.wrap (IntKind.i64.wrap (Int.tdiv x20 256)))],[AV.int .u8 (IntKind.u8.wrap ((Int.tmod x20 256)))]]] [Ob.var 69 [AV.own 1 0 (List.length s9),iA s10],Ob.arr 1 (List.map (encK .u8) s9)]=some (AV.tup [],[Ob.var 69 [AV.own 1 0 (List.length y21.2),iA y21.1],Ob.arr 1 (List.map (encK .u8) y21.2)]) from ok_pack_writer_put (r:=y21) h)) ?_;intro y21
 refine ix ?_;intro x23
 intro h;refine bind_some2 h ?_;clear h;intro o34 ho34 h
 refine lq (σ:=(Int×(List Int)×Int)) (τ:=(Int×(List Int))) (ν:=((List UInt8)×Int)) 2 (fun (s24,s25,s26) a28=>stOf 112 [(5,AV.ptr 1 0),(10,AV.ptr 3 0),(11,iA s8),(31,AV.sl 1 (List.map encI (v1_c.pc))),(32,iA ((((v1_c.pc).length:Nat):Int))),(33,iA s8),(51,AV.sl 1 (List.map encI x23)),(52,iA (((x23.length:Nat):Int))),(53,iA s24)]) (fun (s24,s25,s26) a28=>[Ob.var 25 [iA (v0_u.mod),AV.sl 1 (List.map encI (v0_u.init)),AV.sl 1 (List.map encI (v0_u.regs)),AV.sl 1 (List.map encThr (v0_u.code))],Ob.var 31 [AV.sl 1 (List.map encI (v1_c.pc)),AV.sl 1 (List.map encRow (v1_c.regs)),AV.sl 1 (List.map encI (v1_c.mem)),AV.sl 1 (List.map encBuf (v1_c.buf))],Ob.arr 1 (List.map (encK .u8) s25),Ob.var 69 [AV.own 2 0 (List.length s25),iA s26]]) (fun (x40,x41) a39=>stOf 112 [(5,AV.ptr 1 0),(10,AV.ptr 3 0),(11,iA s8),(31,AV.sl 1 (List.map encI (v1_c.pc))),(32,iA ((((v1_c.pc).length:Nat):Int))),(33,iA s8)]) (fun (x40,x41) a39=>[Ob.var 25 [iA (v0_u.mod),AV.sl 1 (List.map encI (v0_u.init)),AV.sl 1 (List.map encI (v0_u.regs)),AV.sl 1 (List.map encThr (v0_u.code))],Ob.var 31 [AV.sl 1 (List.map encI (v1_c.pc)),AV.sl 1 (List.map encRow (v1_c.regs)),AV.sl 1 (List.map encI (v1_c.mem)),AV.sl 1 (List.map encBuf (v1_c.buf))],Ob.arr 1 (List.map (encK .u8) x41),Ob.var 69 [AV.own 2 0 (List.length x41),iA x40]]) (fun v=>(AV.tup [sA v.1,iA v.2],[])) (fun k s=>pack_Encode_L1 n x23 k s.1 s.2.1 s.2.2) (fun s=>rfl) o34 n (0,y21.2,y21.1) (fun _=>0) ho34 ?_ ?_
 intro k27 ss a28 K29 cont30 hK31 hcont32 h hr33
 obtain ⟨s24,s25,s26⟩:=ss
 replace h:pack_Encode_L1 n x23 (k27+1) s24 s25 s26=some o34:=h
 rw [pack_Encode_L1] at h
 conv=>lhs;whnf
 revert h
 refine br ?_ ?_
 refine ix ?_;intro x36
 refine cr hc (fun y37 h=>(show CN n 43 [AV.ptr 0 0,AV.sl 1 [[AV.int .u8 (IntKind.u8.wrap x36)]]] [Ob.var 69 [AV.own 1 0 (List.length s25),iA s26],Ob.arr 1 (List.map (encK .u8) s25)]=some (AV.tup [],[Ob.var 69 [AV.own 1 0 (List.length y37.2),iA y37.1],Ob.arr 1 (List.map (encK .u8) y37.2)]) from ok_pack_writer_put (r:=y37) h)) ?_;intro y37
 exact fun h=>cq (hcont32 (IntKind.i64.wrap (s24+1),y37.2,y37.1) (fun _=>0) h)
 intro h;cases sj h
 exact kq (hr33 (fun _=>0))
 refine lrc ?_ ?_
 intro v e;subst e;cases sj h;exact hr17
 intro t a39 e;subst e
 obtain ⟨x40,x41⟩:=t
 dsimp only at h
 conv=>lhs;whnf
 revert h
 refine ix ?_;intro x42
 refine cr hc (fun y43 h=>(show CN n 43 [AV.ptr 0 0,AV.sl 1 [[AV.int .u8 (IntKind.u8.wrap (((x42.length:Nat):Int)))]]] [Ob.var 69 [AV.own 1 0 (List.length x41),iA x40],Ob.arr 1 (List.map (encK .u8) x41)]=some (AV.tup [],[Ob.var 69 [AV.own 1 0 (List.length y43.2),iA y43.1],Ob.arr 1 (List.map (encK .u8) y43.2)]) from ok_pack_writer_put (r:=y43) h)) ?_;intro y43
 refine ix ?_;intro x45
 intro h;refine bind_some2 h ?_;clear h;intro o56 ho56 h
 refine lq (σ:=(Int×(List Int)×Int)) (τ:=(Int×(List Int))) (ν:=((List UInt8)×Int)) 4 (fun (s46,s47,s48) a50=>stOf 112 [(5,AV.ptr 1 0),(10,AV.ptr 3 0),(31,AV.sl 1 (List.map encI (v1_c.pc))),(32,iA ((((v1_c.pc).length:Nat):Int))),(33,iA s8),(77,AV.sl 2 (List.map encE x45)),(78,iA (((x45.length:Nat):Int))),(79,iA s46)]) (fun (s46,s47,s48) a50=>[Ob.var 25 [iA (v0_u.mod),AV.sl 1 (List.map encI (v0_u.init)),AV.sl 1 (List.map encI (v0_u.regs)),AV.sl 1 (List.map encThr (v0_u.code))],Ob.var 31 [AV.sl 1 (List.map encI (v1_c.pc)),AV.sl 1 (List.map encRow (v1_c.regs)),AV.sl 1 (List.map encI (v1_c.mem)),AV.sl 1 (List.map encBuf (v1_c.buf))],Ob.arr 1 (List.map (encK .u8) s47),Ob.var 69 [AV.own 2 0 (List.length s47),iA s48]]) (fun (x62,x63) a61=>stOf 112 [(5,AV.ptr 1 0),(10,AV.ptr 3 0),(31,AV.sl 1 (List.map encI (v1_c.pc))),(32,iA ((((v1_c.pc).length:Nat):Int))),(33,iA s8)]) (fun (x62,x63) a61=>[Ob.var 25 [iA (v0_u.mod),AV.sl 1 (List.map encI (v0_u.init)),AV.sl 1 (List.map encI (v0_u.regs)),AV.sl 1 (List.map encThr (v0_u.code))],Ob.var 31 [AV.sl 1 (List.map encI (v1_c.pc)),AV.sl 1 (List.map encRow (v1_c.regs)),AV.sl 1 (List.map encI (v1_c.mem)),AV.sl 1 (List.map encBuf (v1_c.buf))],Ob.arr 1 (List.map (encK .u8) x63),Ob.var 69 [AV.own 2 0 (List.length x63),iA x62]]) (fun v=>(AV.tup [sA v.1,iA v.2],[])) (fun k s=>pack_Encode_L2 n x45 k s.1 s.2.1 s.2.2) (fun s=>rfl) o56 n (0,y43.2,y43.1) (fun _=>0) ho56 ?_ ?_
 intro k49 ss a50 K51 cont52 hK53 hcont54 h hr55
 obtain ⟨s46,s47,s48⟩:=ss
 replace h:pack_Encode_L2 n x45 (k49+1) s46 s47 s48=some o56:=h
 rw [pack_Encode_L2] at h
 conv=>lhs;whnf
 revert h
 refine br ?_ ?_
 refine ix ?_;intro x58
 refine cr hc (fun y59 h=>(show CN n 43 [AV.ptr 0 0,AV.sl 1 [[AV.int .u8 (IntKind.u8.wrap (x58.loc))],[AV.int .u8 (IntKind.u8.wrap (x58.n))]]] [Ob.var 69 [AV.own 1 0 (List.length s47),iA s48],Ob.arr 1 (List.map (encK .u8) s47)]=some (AV.tup [],[Ob.var 69 [AV.own 1 0 (List.length y59.2),iA y59.1],Ob.arr 1 (List.map (encK .u8) y59.2)]) from ok_pack_writer_put (r:=y59) h)) ?_;intro y59
 exact fun h=>cq (hcont54 (IntKind.i64.wrap (s46+1),y59.2,y59.1) (fun _=>0) h)
 intro h;cases sj h
 exact kq (hr55 (fun _=>0))
 refine lrc ?_ ?_
 intro v e;subst e;cases sj h;exact hr17
 intro t a61 e;subst e
 obtain ⟨x62,x63⟩:=t
 dsimp only at h
 conv=>lhs;whnf
 revert h
 exact fun h=>cq (hcont16 (IntKind.i64.wrap (s8+1),x63,x62) (fun _=>0) h)
 intro h;cases sj h
 exact kq (hr17 (fun _=>0))
 refine lrc ?_ ?_
 intro v e;subst e;cases sj h;rfl
 intro t a66 e;subst e
 obtain ⟨x67,x68⟩:=t
 dsimp only at h
 conv=>lhs;whnf
 revert h
 intro h;refine bind_some2 h ?_;clear h;intro o79 ho79 h
 refine lq (σ:=(Int×(List Int)×Int)) (τ:=(Int×(List Int))) (ν:=((List UInt8)×Int)) 6 (fun (s69,s70,s71) a73=>stOf 112 [(10,AV.ptr 3 0),(95,AV.sl 1 (List.map encI (v1_c.mem))),(96,iA ((((v1_c.mem).length:Nat):Int))),(97,iA s69)]) (fun (s69,s70,s71) a73=>[Ob.var 25 [iA (v0_u.mod),AV.sl 1 (List.map encI (v0_u.init)),AV.sl 1 (List.map encI (v0_u.regs)),AV.sl 1 (List.map encThr (v0_u.code))],Ob.var 31 [AV.sl 1 (List.map encI (v1_c.pc)),AV.sl 1 (List.map encRow (v1_c.regs)),AV.sl 1 (List.map encI (v1_c.mem)),AV.sl 1 (List.map encBuf (v1_c.buf))],Ob.arr 1 (List.map (encK .u8) s70),Ob.var 69 [AV.own 2 0 (List.length s70),iA s71]]) (fun (x85,x86) a84=>stOf 112 [(10,AV.ptr 3 0)]) (fun (x85,x86) a84=>[Ob.var 25 [iA (v0_u.mod),AV.sl 1 (List.map encI (v0_u.init)),AV.sl 1 (List.map encI (v0_u.regs)),AV.sl 1 (List.map encThr (v0_u.code))],Ob.var 31 [AV.sl 1 (List.map encI (v1_c.pc)),AV.sl 1 (List.map encRow (v1_c.regs)),AV.sl 1 (List.map encI (v1_c.mem)),AV.sl 1 (List.map encBuf (v1_c.buf))],Ob.arr 1 (List.map (encK .u8) x86),Ob.var 69 [AV.own 2 0 (List.length x86),iA x85]]) (fun v=>(AV.tup [sA v.1,iA v.2],[])) (fun k s=>pack_Encode_L3 n v1_c k s.1 s.2.1 s.2.2) (fun s=>rfl) o79 n (0,x68,x67) (fun _=>0) ho79 ?_ ?_
 intro k72 ss a73 K74 cont75 hK76 hcont77 h hr78
 obtain ⟨s69,s70,s71⟩:=ss
 replace h:pack_Encode_L3 n v1_c (k72+1) s69 s70 s71=some o79:=h
 rw [pack_Encode_L3] at h
 conv=>lhs;whnf
 revert h
 refine br ?_ ?_
 refine ix ?_;intro x81
 refine cr hc (fun y82 h=>(show CN n 43 [AV.ptr 0 0,AV.sl 1 [[AV.int .u8 (IntKind.u8.wrap x81)]]] [Ob.var 69 [AV.own 1 0 (List.length s70),iA s71],Ob.arr 1 (List.map (encK .u8) s70)]=some (AV.tup [],[Ob.var 69 [AV.own 1 0 (List.length y82.2),iA y82.1],Ob.arr 1 (List.map (encK .u8) y82.2)]) from ok_pack_writer_put (r:=y82) h)) ?_;intro y82
 exact fun h=>cq (hcont77 (IntKind.i64.wrap (s69+1),y82.2,y82.1) (fun _=>0) h)
 intro h;cases sj h
 exact kq (hr78 (fun _=>0))
 refine lrc ?_ ?_
 intro v e;subst e;cases sj h;rfl
 intro t a84 e;subst e
 obtain ⟨x85,x86⟩:=t
 dsimp only at h
 conv=>lhs;whnf
 revert h
 intro h
 refine chk_some2 h ?_;clear h;intro hc88 h
 have hb87:=str_ok (l:=x86) hc88
 try simp only [List.drop_zero,take_map_len]
 refine bif_pos hb87 ?_
 simp only [str_bytes,ls]
 conv=>lhs;whnf
 revert h
 exact rz
 exact rz
end Go.Proofs.Ytejkhpgahnncnaa
end

section
namespace Go.Proofs.Ytejkhpgahnncnaa
set_option linter.unusedVariables false
set_option linter.unusedSimpArgs false
set_option maxRecDepth 100000
set_option maxHeartbeats 4000000

theorem ok_ref06_in {n:Nat} ⦃v0_n:Int⦄ ⦃v1_most:Int⦄ ⦃r:Bool⦄:m_ref06_in n v0_n v1_most=some r→CN n 57 [iA v0_n,iA v1_most] []=some (bA r,[]):=by
 intro h;rcases n with _|n;cases h
 rw [m_ref06_in] at h
 refine callN_eq' Try.func57 (by rfl) rfl rfl (Nat.le_of_ble_eq_true rfl) ?_
 intro call hc;conv=>lhs;whnf
 revert h
 refine br ?_ ?_
 exact rz
 exact rz

theorem ok_ref06_All {n:Nat} ⦃v0_l:(List Int)⦄ ⦃v1_mod:Int⦄ ⦃r:Bool⦄:m_ref06_All n v0_l v1_mod=some r→CN n 47 [AV.sl 1 (List.map encI v0_l),iA v1_mod] []=some (bA r,[]):=by
 intro h;rcases n with _|n;cases h
 rw [m_ref06_All] at h
 refine callN_eq' Try.func47 (by rfl) rfl rfl (Nat.le_of_ble_eq_true rfl) ?_
 intro call hc;conv=>lhs;whnf
 revert h
 intro h;refine bind_some2 h ?_;clear h;intro o9 ho9 h
 refine lq (σ:=Int) (τ:=Unit) (ν:=Bool) 0 (fun s1 a3=>stOf 19 [(0,AV.sl 1 (List.map encI v0_l)),(1,iA v1_mod),(5,iA s1)]) (fun s1 a3=>[]) (fun _ a15=>stOf 19 []) (fun _ a15=>[]) (fun v=>(bA v,[])) (fun k s=>ref06_All_L0 n v0_l v1_mod k s) (fun s=>rfl) o9 n 0 (fun _=>0) ho9 ?_ ?_
 intro k2 s1 a3 K4 cont5 hK6 hcont7 h hr8
 replace h:ref06_All_L0 n v0_l v1_mod (k2+1) s1=some o9:=h
 rw [ref06_All_L0] at h
 conv=>lhs;whnf
 revert h
 refine br ?_ ?_
 refine ix ?_;intro x11
 refine ca hc (fun _ h=>ok_ref06_in h) ?_;intro y12
 refine br ?_ ?_
 exact fun h=>cq (hcont7 (IntKind.i64.wrap (s1+1)) (fun _=>0) h)
 intro h;cases sj h
 refine (hK6 _ _).trans ?_
 refine Eq.trans ?_ (Eq.symm (show _=some _ from hr8))
 conv=>lhs;whnf
 exact rq
 intro h;cases sj h
 exact kq (hr8 (fun _=>0))
 refine lrc ?_ ?_
 intro v e;subst e;cases sj h;rfl
 intro t a15 e;subst e
 dsimp only at h
 conv=>lhs;whnf
 revert h
 exact rz
end Go.Proofs.Ytejkhpgahnncnaa
end

section
namespace Go.Proofs.Ytejkhpgahnncnaa
set_option linter.unusedVariables false
set_option linter.unusedSimpArgs false
set_option maxRecDepth 100000
set_option maxHeartbeats 4000000

theorem ok_ref08_count {n:Nat} ⦃v0_b:(List EntryS)⦄ ⦃v1_loc:Int⦄ ⦃r:Int⦄:m_ref08_count n v0_b v1_loc=some r→CN n 58 [AV.sl 2 (List.map encE v0_b),iA v1_loc] []=some (iA r,[]):=by
 intro h;rcases n with _|n;cases h
 rw [m_ref08_count] at h
 refine callN_eq' Try.func58 (by rfl) rfl rfl (Nat.le_of_ble_eq_true rfl) ?_
 intro call hc;conv=>lhs;whnf
 revert h
 intro h;refine bind_some2 h ?_;clear h;intro o10 ho10 h
 refine lq (σ:=(Int×Int)) (τ:=Int) (ν:=Int) 0 (fun (s1,s2) a4=>stOf 23 [(0,AV.sl 2 (List.map encE v0_b)),(1,iA v1_loc),(5,iA s1),(6,iA s2)]) (fun (s1,s2) a4=>[]) (fun x15 a14=>stOf 23 [(5,iA x15)]) (fun x15 a14=>[]) (fun v=>(iA v,[])) (fun k s=>ref08_count_L0 n v0_b v1_loc k s.1 s.2) (fun s=>rfl) o10 n (0,0) (fun _=>0) ho10 ?_ ?_
 intro k3 ss a4 K5 cont6 hK7 hcont8 h hr9
 obtain ⟨s1,s2⟩:=ss
 replace h:ref08_count_L0 n v0_b v1_loc (k3+1) s1 s2=some o10:=h
 rw [ref08_count_L0] at h
 conv=>lhs;whnf
 revert h
 refine br ?_ ?_
 refine ix ?_;intro x12
 refine br ?_ ?_
 exact fun h=>cq (hcont8 (IntKind.i64.wrap (s1+1),IntKind.i64.wrap (s2+1)) (fun _=>0) h)
 exact fun h=>cq (hcont8 (s1,IntKind.i64.wrap (s2+1)) (fun _=>0) h)
 intro h;cases sj h
 exact kq (hr9 (fun _=>0))
 refine lrc ?_ ?_
 intro v e;subst e;cases sj h;rfl
 intro x15 a14 e;subst e
 dsimp only at h
 conv=>lhs;whnf
 revert h
 exact rz

theorem ok_ref08_Right {n:Nat} ⦃v0_b:(List EntryS)⦄ ⦃v1_model:Int⦄ ⦃v2_room:Int⦄ ⦃v3_mod:Int⦄ ⦃v4_locs:Int⦄ ⦃r:Bool⦄:m_ref08_Right n v0_b v1_model v2_room v3_mod v4_locs=some r→CN n 48 [AV.sl 2 (List.map encE v0_b),iA v1_model,iA v2_room,iA v3_mod,iA v4_locs] []=some (bA r,[]):=by
 intro h;rcases n with _|n;cases h
 rw [m_ref08_Right] at h
 refine callN_eq' Try.func48 (by rfl) rfl rfl (Nat.le_of_ble_eq_true rfl) ?_
 intro call hc;conv=>lhs;whnf
 revert h
 refine br ?_ ?_
 exact rz
 refine br ?_ ?_
 exact rz
 refine br ?_ ?_
 exact rz
 refine br ?_ ?_
 exact rz
 refine br ?_ ?_
 exact rz
 refine br ?_ ?_
 exact rz
 intro h;refine bind_some2 h ?_;clear h;intro o15 ho15 h
 refine lq (σ:=Int) (τ:=Unit) (ν:=Bool) 0 (fun s7 a9=>stOf 122 [(0,AV.sl 2 (List.map encE v0_b)),(1,iA v1_model),(2,iA v2_room),(3,iA v3_mod),(4,iA v4_locs),(11,iA s7)]) (fun s7 a9=>[]) (fun _ a38=>stOf 122 [(0,AV.sl 2 (List.map encE v0_b)),(1,iA v1_model),(2,iA v2_room)]) (fun _ a38=>[]) (fun v=>(bA v,[])) (fun k s=>ref08_Right_L0 n v0_b v1_model v2_room v3_mod v4_locs k s) (fun s=>rfl) o15 n 0 (fun _=>0) ho15 ?_ ?_
 intro k8 s7 a9 K10 cont11 hK12 hcont13 h hr14
 replace h:ref08_Right_L0 n v0_b v1_model v2_room v3_mod v4_locs (k8+1) s7=some o15:=h
 rw [ref08_Right_L0] at h
 conv=>lhs;whnf
 revert h
 refine br ?_ ?_
 refine ix ?_;intro x17
 refine br ?_ ?_
 intro h;cases sj h
 refine (hK12 _ _).trans ?_
 refine Eq.trans ?_ (Eq.symm (show _=some _ from hr14))
 conv=>lhs;whnf
 exact rq
 refine ix ?_;intro x19
 refine br ?_ ?_
 intro h;cases sj h
 refine (hK12 _ _).trans ?_
 refine Eq.trans ?_ (Eq.symm (show _=some _ from hr14))
 conv=>lhs;whnf
 exact rq
 refine ix ?_;intro x21
 refine br ?_ ?_
 intro h;cases sj h
 refine (hK12 _ _).trans ?_
 refine Eq.trans ?_ (Eq.symm (show _=some _ from hr14))
 conv=>lhs;whnf
 exact rq
 refine ix ?_;intro x23
 refine br ?_ ?_
 intro h;cases sj h
 refine (hK12 _ _).trans ?_
 refine Eq.trans ?_ (Eq.symm (show _=some _ from hr14))
 conv=>lhs;whnf
 exact rq
 refine br ?_ ?_
 refine br ?_ ?_
 refine ix ?_;intro x27
 refine ix ?_;intro x28
 refine br ?_ ?_
 intro h;cases sj h
 refine (hK12 _ _).trans ?_
 refine Eq.trans ?_ (Eq.symm (show _=some _ from hr14))
 conv=>lhs;whnf
 exact rq
 refine ix ?_;intro x30
 refine ca hc (fun _ h=>ok_ref08_count h) ?_;intro y31
 refine br ?_ ?_
 intro h;cases sj h
 refine (hK12 _ _).trans ?_
 refine Eq.trans ?_ (Eq.symm (show _=some _ from hr14))
 conv=>lhs;whnf
 exact rq
 exact fun h=>cq (hcont13 (IntKind.i64.wrap (s7+1)) (fun _=>0) h)
 refine ix ?_;intro x34
 refine ca hc (fun _ h=>ok_ref08_count h) ?_;intro y35
 refine br ?_ ?_
 intro h;cases sj h
 refine (hK12 _ _).trans ?_
 refine Eq.trans ?_ (Eq.symm (show _=some _ from hr14))
 conv=>lhs;whnf
 exact rq
 exact fun h=>cq (hcont13 (IntKind.i64.wrap (s7+1)) (fun _=>0) h)
 exact fun h=>cq (hcont13 (IntKind.i64.wrap (s7+1)) (fun _=>0) h)
 intro h;cases sj h
 exact kq (hr14 (fun _=>0))
 refine lrc ?_ ?_
 intro v e;subst e;cases sj h;rfl
 intro t a38 e;subst e
 dsimp only at h
 conv=>lhs;whnf
 revert h
 refine br ?_ ?_
 refine br ?_ ?_
 exact rz
 refine br ?_ ?_
 exact rz
 exact rz
 exact rz

end Go.Proofs.Ytejkhpgahnncnaa
end

section
namespace Go.Proofs.Ytejkhpgahnncnaa
set_option linter.unusedVariables false
set_option linter.unusedSimpArgs false
set_option maxRecDepth 100000
set_option maxHeartbeats 4000000

theorem ok_ref09_Light {n:Nat} ⦃v0_c:ConfS⦄ ⦃r:Bool⦄:m_ref09_Light n v0_c=some r→CN n 15 [AV.agg [AV.sl 1 (List.map encI (v0_c.pc)),AV.sl 1 (List.map encRow (v0_c.regs)),AV.sl 1 (List.map encI (v0_c.mem)),AV.sl 1 (List.map encBuf (v0_c.buf))]] []=some (bA r,[]):=by
 intro h;rcases n with _|n;cases h
 rw [m_ref09_Light] at h
 refine callN_eq' Try.func15 (by rfl) rfl rfl (Nat.le_of_ble_eq_true rfl) ?_
 intro call hc;conv=>lhs;whnf
 revert h
 refine br ?_ ?_
 exact rz
 refine br ?_ ?_
 exact rz
 refine br ?_ ?_
 exact rz
 refine br ?_ ?_
 exact rz
 intro h;refine bind_some2 h ?_;clear h;intro o13 ho13 h
 refine lq (σ:=Int) (τ:=Unit) (ν:=Bool) 0 (fun s5 a7=>stOf 55 [(1,AV.ptr 0 0),(3,iA s5)]) (fun s5 a7=>[Ob.var 31 [AV.sl 1 (List.map encI (v0_c.pc)),AV.sl 1 (List.map encRow (v0_c.regs)),AV.sl 1 (List.map encI (v0_c.mem)),AV.sl 1 (List.map encBuf (v0_c.buf))]]) (fun _ a17=>stOf 55 [(1,AV.ptr 0 0)]) (fun _ a17=>[Ob.var 31 [AV.sl 1 (List.map encI (v0_c.pc)),AV.sl 1 (List.map encRow (v0_c.regs)),AV.sl 1 (List.map encI (v0_c.mem)),AV.sl 1 (List.map encBuf (v0_c.buf))]]) (fun v=>(bA v,[])) (fun k s=>ref09_Light_L0 n v0_c k s) (fun s=>rfl) o13 n 0 (fun _=>0) ho13 ?_ ?_
 intro k6 s5 a7 K8 cont9 hK10 hcont11 h hr12
 replace h:ref09_Light_L0 n v0_c (k6+1) s5=some o13:=h
 rw [ref09_Light_L0] at h
 conv=>lhs;whnf
 revert h
 refine br ?_ ?_
 refine ix ?_;intro x15
 refine br ?_ ?_
 intro h;cases sj h
 refine (hK10 _ _).trans ?_
 refine Eq.trans ?_ (Eq.symm (show _=some _ from hr12))
 conv=>lhs;whnf
 exact rq
 exact fun h=>cq (hcont11 (IntKind.i64.wrap (s5+1)) (fun _=>0) h)
 intro h;cases sj h
 exact kq (hr12 (fun _=>0))
 refine lrc ?_ ?_
 intro v e;subst e;cases sj h;rfl
 intro t a17 e;subst e
 dsimp only at h
 conv=>lhs;whnf
 revert h
 intro h;refine bind_some2 h ?_;clear h;intro o26 ho26 h
 refine lq (σ:=Int) (τ:=Unit) (ν:=Bool) 2 (fun s18 a20=>stOf 55 [(1,AV.ptr 0 0),(4,iA s18)]) (fun s18 a20=>[Ob.var 31 [AV.sl 1 (List.map encI (v0_c.pc)),AV.sl 1 (List.map encRow (v0_c.regs)),AV.sl 1 (List.map encI (v0_c.mem)),AV.sl 1 (List.map encBuf (v0_c.buf))]]) (fun _ a30=>stOf 55 []) (fun _ a30=>[Ob.var 31 [AV.sl 1 (List.map encI (v0_c.pc)),AV.sl 1 (List.map encRow (v0_c.regs)),AV.sl 1 (List.map encI (v0_c.mem)),AV.sl 1 (List.map encBuf (v0_c.buf))]]) (fun v=>(bA v,[])) (fun k s=>ref09_Light_L1 n v0_c k s) (fun s=>rfl) o26 n 0 (fun _=>0) ho26 ?_ ?_
 intro k19 s18 a20 K21 cont22 hK23 hcont24 h hr25
 replace h:ref09_Light_L1 n v0_c (k19+1) s18=some o26:=h
 rw [ref09_Light_L1] at h
 conv=>lhs;whnf
 revert h
 refine br ?_ ?_
 refine ix ?_;intro x28
 refine br ?_ ?_
 intro h;cases sj h
 refine (hK23 _ _).trans ?_
 refine Eq.trans ?_ (Eq.symm (show _=some _ from hr25))
 conv=>lhs;whnf
 exact rq
 exact fun h=>cq (hcont24 (IntKind.i64.wrap (s18+1)) (fun _=>0) h)
 intro h;cases sj h
 exact kq (hr25 (fun _=>0))
 refine lrc ?_ ?_
 intro v e;subst e;cases sj h;rfl
 intro t a30 e;subst e
 dsimp only at h
 conv=>lhs;whnf
 revert h
 exact rz

theorem ok_ref09_Right {n:Nat} ⦃v0_u:UnitS⦄ ⦃v1_c:ConfS⦄ ⦃v2_model:Int⦄ ⦃v3_room:Int⦄ ⦃r:Bool⦄:m_ref09_Right n v0_u v1_c v2_model v3_room=some r→CN n 27 [AV.agg [iA (v0_u.mod),AV.sl 1 (List.map encI (v0_u.init)),AV.sl 1 (List.map encI (v0_u.regs)),AV.sl 1 (List.map encThr (v0_u.code))],AV.agg [AV.sl 1 (List.map encI (v1_c.pc)),AV.sl 1 (List.map encRow (v1_c.regs)),AV.sl 1 (List.map encI (v1_c.mem)),AV.sl 1 (List.map encBuf (v1_c.buf))],iA v2_model,iA v3_room] []=some (bA r,[]):=by
 intro h;rcases n with _|n;cases h
 rw [m_ref09_Right] at h
 refine callN_eq' Try.func27 (by rfl) rfl rfl (Nat.le_of_ble_eq_true rfl) ?_
 intro call hc;conv=>lhs;whnf
 revert h
 refine ca hc (fun _ h=>ok_ref07_Right h) ?_;intro y1
 refine br ?_ ?_
 refine br ?_ ?_
 exact rz
 refine br ?_ ?_
 exact rz
 refine br ?_ ?_
 exact rz
 refine br ?_ ?_
 exact rz
 refine ca hc (fun _ h=>ok_ref06_All h) ?_;intro y8
 refine br ?_ ?_
 intro h;refine bind_some2 h ?_;clear h;intro o19 ho19 h
 refine lq (σ:=Int) (τ:=Unit) (ν:=Bool) 0 (fun s11 a13=>stOf 129 [(2,iA v2_model),(3,iA v3_room),(4,AV.ptr 0 0),(5,AV.ptr 1 0),(9,iA ((((v0_u.regs).length:Nat):Int))),(10,iA s11)]) (fun s11 a13=>[Ob.var 25 [iA (v0_u.mod),AV.sl 1 (List.map encI (v0_u.init)),AV.sl 1 (List.map encI (v0_u.regs)),AV.sl 1 (List.map encThr (v0_u.code))],Ob.var 31 [AV.sl 1 (List.map encI (v1_c.pc)),AV.sl 1 (List.map encRow (v1_c.regs)),AV.sl 1 (List.map encI (v1_c.mem)),AV.sl 1 (List.map encBuf (v1_c.buf))]]) (fun _ a37=>stOf 129 [(2,iA v2_model),(3,iA v3_room),(4,AV.ptr 0 0)]) (fun _ a37=>[Ob.var 25 [iA (v0_u.mod),AV.sl 1 (List.map encI (v0_u.init)),AV.sl 1 (List.map encI (v0_u.regs)),AV.sl 1 (List.map encThr (v0_u.code))],Ob.var 31 [AV.sl 1 (List.map encI (v1_c.pc)),AV.sl 1 (List.map encRow (v1_c.regs)),AV.sl 1 (List.map encI (v1_c.mem)),AV.sl 1 (List.map encBuf (v1_c.buf))]]) (fun v=>(bA v,[])) (fun k s=>ref09_Right_L0 n v0_u v1_c v2_model v3_room k s) (fun s=>rfl) o19 n 0 (fun _=>0) ho19 ?_ ?_
 intro k12 s11 a13 K14 cont15 hK16 hcont17 h hr18
 replace h:ref09_Right_L0 n v0_u v1_c v2_model v3_room (k12+1) s11=some o19:=h
 rw [ref09_Right_L0] at h
 conv=>lhs;whnf
 revert h
 refine br ?_ ?_
 refine ix ?_;intro x21
 refine br ?_ ?_
 intro h;cases sj h
 refine (hK16 _ _).trans ?_
 refine Eq.trans ?_ (Eq.symm (show _=some _ from hr18))
 conv=>lhs;whnf
 exact rq
 refine ix ?_;intro x23
 refine ix ?_;intro x24
 refine br ?_ ?_
 intro h;cases sj h
 refine (hK16 _ _).trans ?_
 refine Eq.trans ?_ (Eq.symm (show _=some _ from hr18))
 conv=>lhs;whnf
 exact rq
 refine ix ?_;intro x26
 refine ix ?_;intro x27
 refine br ?_ ?_
 intro h;cases sj h
 refine (hK16 _ _).trans ?_
 refine Eq.trans ?_ (Eq.symm (show _=some _ from hr18))
 conv=>lhs;whnf
 exact rq
 refine ix ?_;intro x29
 refine ca hc (fun _ h=>ok_ref06_All h) ?_;intro y30
 refine br ?_ ?_
 refine ix ?_;intro x33
 refine cr hc (fun _ h=>ok_ref08_Right h) ?_;intro y34
 refine br ?_ ?_
 exact fun h=>cq (hcont17 (IntKind.i64.wrap (s11+1)) (fun _=>0) h)
 intro h;cases sj h
 refine (hK16 _ _).trans ?_
 refine Eq.trans ?_ (Eq.symm (show _=some _ from hr18))
 conv=>lhs;whnf
 exact rq
 intro h;cases sj h
 refine (hK16 _ _).trans ?_
 refine Eq.trans ?_ (Eq.symm (show _=some _ from hr18))
 conv=>lhs;whnf
 exact rq
 intro h;cases sj h
 exact kq (hr18 (fun _=>0))
 refine lrc ?_ ?_
 intro v e;subst e;cases sj h;rfl
 intro t a37 e;subst e
 dsimp only at h
 conv=>lhs;whnf
 revert h
 refine cr hc (fun y38 h=>(show CN n 48 [AV.sl 2 [],iA v2_model,iA v3_room,iA (v0_u.mod),iA ((((v0_u.init).length:Nat):Int))] []=some (bA y38,[]) from ok_ref08_Right (r:=y38) h)) ?_;intro y38
 exact rz
 exact rz
 exact rz

end Go.Proofs.Ytejkhpgahnncnaa
end

section
namespace Go.Proofs.Ytejkhpgahnncnaa
set_option linter.unusedVariables false
set_option linter.unusedSimpArgs false
set_option maxRecDepth 100000
set_option maxHeartbeats 4000000

theorem ok_law12_light {n:Nat} ⦃v0_c:S_law12_Case⦄ ⦃r:Bool⦄:m_law12_light n v0_c=some r→CN n 19 [AV.agg [iA (v0_c.f_U.mod),AV.sl 1 (List.map encI (v0_c.f_U.init)),AV.sl 1 (List.map encI (v0_c.f_U.regs)),AV.sl 1 (List.map encThr (v0_c.f_U.code)),AV.sl 1 (List.map encI (v0_c.f_C.pc)),AV.sl 1 (List.map encRow (v0_c.f_C.regs)),AV.sl 1 (List.map encI (v0_c.f_C.mem)),AV.sl 1 (List.map encBuf (v0_c.f_C.buf)),iA v0_c.f_Model,iA v0_c.f_Room]] []=some (bA r,[]):=by
 intro h;rcases n with _|n;cases h
 rw [m_law12_light] at h
 refine callN_eq' Try.func19 (by rfl) rfl rfl (Nat.le_of_ble_eq_true rfl) ?_
 intro call hc;conv=>lhs;whnf
 revert h
 refine ca hc (fun _ h=>ok_ref07_Light h) ?_;intro y1
 refine br ?_ ?_
 refine ca hc (fun _ h=>ok_ref09_Light h) ?_;intro y4
 exact rz
 exact rz
end Go.Proofs.Ytejkhpgahnncnaa
end

section
namespace Go.Proofs.Ytejkhpgahnncnaa
set_option linter.unusedVariables false
set_option linter.unusedSimpArgs false
set_option maxRecDepth 100000
set_option maxHeartbeats 4000000

theorem ok_ref12_Encode {n:Nat} ⦃v0_u:UnitS⦄ ⦃v1_c:ConfS⦄ ⦃v2_model:Int⦄ ⦃v3_room:Int⦄ ⦃r:((List UInt8)×Int)⦄:m_ref12_Encode n v0_u v1_c v2_model v3_room=some r→CN n 22 [AV.agg [iA (v0_u.mod),AV.sl 1 (List.map encI (v0_u.init)),AV.sl 1 (List.map encI (v0_u.regs)),AV.sl 1 (List.map encThr (v0_u.code))],AV.agg [AV.sl 1 (List.map encI (v1_c.pc)),AV.sl 1 (List.map encRow (v1_c.regs)),AV.sl 1 (List.map encI (v1_c.mem)),AV.sl 1 (List.map encBuf (v1_c.buf))],iA v2_model,iA v3_room] []=some (AV.tup [sA r.1,iA r.2],[]):=by
 intro h;rcases n with _|n;cases h
 rw [m_ref12_Encode] at h
 refine callN_eq' Try.func22 (by rfl) rfl rfl (Nat.le_of_ble_eq_true rfl) ?_
 intro call hc;conv=>lhs;whnf
 revert h
 refine ca hc (fun _ h=>ok_ref09_Right h) ?_;intro y1
 refine br ?_ ?_
 intro h;refine bind_some2 h ?_;clear h;intro o13 ho13 h
 refine lq (σ:=(Int×(List Int))) (τ:=(List Int)) (ν:=((List UInt8)×Int)) 0 (fun (s4,s5) a7=>stOf 128 [(5,AV.ptr 1 0),(10,AV.row 2 (List.length s5)),(11,iA s4)]) (fun (s4,s5) a7=>[Ob.var 25 [iA (v0_u.mod),AV.sl 1 (List.map encI (v0_u.init)),AV.sl 1 (List.map encI (v0_u.regs)),AV.sl 1 (List.map encThr (v0_u.code))],Ob.var 31 [AV.sl 1 (List.map encI (v1_c.pc)),AV.sl 1 (List.map encRow (v1_c.regs)),AV.sl 1 (List.map encI (v1_c.mem)),AV.sl 1 (List.map encBuf (v1_c.buf))],Ob.row 5 1 (List.map (encK .u8) s5)]) (fun x63 a62=>stOf 128 [(5,AV.ptr 1 0),(10,AV.row 2 (List.length x63))]) (fun x63 a62=>[Ob.var 25 [iA (v0_u.mod),AV.sl 1 (List.map encI (v0_u.init)),AV.sl 1 (List.map encI (v0_u.regs)),AV.sl 1 (List.map encThr (v0_u.code))],Ob.var 31 [AV.sl 1 (List.map encI (v1_c.pc)),AV.sl 1 (List.map encRow (v1_c.regs)),AV.sl 1 (List.map encI (v1_c.mem)),AV.sl 1 (List.map encBuf (v1_c.buf))],Ob.row 5 1 (List.map (encK .u8) x63)]) (fun v=>(AV.tup [sA v.1,iA v.2],[])) (fun k s=>ref12_Encode_L0 n v1_c k s.1 s.2) (fun s=>rfl) o13 n (0,([]:List Int)) (fun _=>0) ho13 ?_ ?_
 intro k6 ss a7 K8 cont9 hK10 hcont11 h hr12
 obtain ⟨s4,s5⟩:=ss
 replace h:ref12_Encode_L0 n v1_c (k6+1) s4 s5=some o13:=h
 rw [ref12_Encode_L0] at h
 conv=>lhs;whnf
 revert h
 refine br ?_ ?_
 refine ix ?_;intro x15
 refine ix ?_;intro x16
 refine ar (ap (encK .u8) (List.map (encK .u8) s5) s5 ([[AV.int .u8 (IntKind.u8.wrap (IntKind.i64.wrap (Int.tdiv x15 256)))],[AV.int .u8 (IntKind.u8.wrap ((Int.tmod x16 256)))]]) ([IntKind.u8.wrap (IntKind.i64.wrap (Int.tdiv x15 256)),IntKind.u8.wrap ((Int.tmod x16 256))]:List Int)) ?_
 intro h;refine bind_some2 h ?_;clear h;intro o28 ho28 h
 refine lq (σ:=(Int×(List Int))) (τ:=(List Int)) (ν:=((List UInt8)×Int)) 2 (fun (s19,s20) a22=>stOf 128 [(5,AV.ptr 1 0),(10,AV.row 2 (List.length s20)),(11,iA s4),(12,iA s19)]) (fun (s19,s20) a22=>[Ob.var 25 [iA (v0_u.mod),AV.sl 1 (List.map encI (v0_u.init)),AV.sl 1 (List.map encI (v0_u.regs)),AV.sl 1 (List.map encThr (v0_u.code))],Ob.var 31 [AV.sl 1 (List.map encI (v1_c.pc)),AV.sl 1 (List.map encRow (v1_c.regs)),AV.sl 1 (List.map encI (v1_c.mem)),AV.sl 1 (List.map encBuf (v1_c.buf))],Ob.row 5 1 (List.map (encK .u8) s20)]) (fun x36 a35=>stOf 128 [(5,AV.ptr 1 0),(10,AV.row 2 (List.length x36)),(11,iA s4)]) (fun x36 a35=>[Ob.var 25 [iA (v0_u.mod),AV.sl 1 (List.map encI (v0_u.init)),AV.sl 1 (List.map encI (v0_u.regs)),AV.sl 1 (List.map encThr (v0_u.code))],Ob.var 31 [AV.sl 1 (List.map encI (v1_c.pc)),AV.sl 1 (List.map encRow (v1_c.regs)),AV.sl 1 (List.map encI (v1_c.mem)),AV.sl 1 (List.map encBuf (v1_c.buf))],Ob.row 5 1 (List.map (encK .u8) x36)]) (fun v=>(AV.tup [sA v.1,iA v.2],[])) (fun k s=>ref12_Encode_L1 n v1_c s4 k s.1 s.2) (fun s=>rfl) o28 n (0,(s5++([IntKind.u8.wrap (IntKind.i64.wrap (Int.tdiv x15 256)),IntKind.u8.wrap ((Int.tmod x16 256))]:List Int))) (fun _=>0) ho28 ?_ ?_
 intro k21 ss a22 K23 cont24 hK25 hcont26 h hr27
 obtain ⟨s19,s20⟩:=ss
 replace h:ref12_Encode_L1 n v1_c s4 (k21+1) s19 s20=some o28:=h
 rw [ref12_Encode_L1] at h
 conv=>lhs;whnf
 revert h
 refine ix ?_;intro x29
 refine br ?_ ?_
 refine ix ?_;intro x31
 refine ix ?_;intro x32
 refine ar (ap (encK .u8) (List.map (encK .u8) s20) s20 ([[AV.int .u8 (IntKind.u8.wrap x32)]]) ([IntKind.u8.wrap x32]:List Int)) ?_
 exact fun h=>cq (hcont26 (IntKind.i64.wrap (s19+1),(s20++([IntKind.u8.wrap x32]:List Int))) (fun _=>0) h)
 intro h;cases sj h
 exact kq (hr27 (fun _=>0))
 refine lrc ?_ ?_
 intro v e;subst e;cases sj h;exact hr12
 intro x36 a35 e;subst e
 dsimp only at h
 conv=>lhs;whnf
 revert h
 refine ix ?_;intro x37
 refine ar (ap (encK .u8) (List.map (encK .u8) x36) x36 ([[AV.int .u8 (IntKind.u8.wrap (((x37.length:Nat):Int)))]]) ([IntKind.u8.wrap (((x37.length:Nat):Int))]:List Int)) ?_
 intro h;refine bind_some2 h ?_;clear h;intro o49 ho49 h
 refine lq (σ:=(Int×(List Int))) (τ:=(List Int)) (ν:=((List UInt8)×Int)) 4 (fun (s40,s41) a43=>stOf 128 [(5,AV.ptr 1 0),(10,AV.row 2 (List.length s41)),(11,iA s4),(13,iA s40)]) (fun (s40,s41) a43=>[Ob.var 25 [iA (v0_u.mod),AV.sl 1 (List.map encI (v0_u.init)),AV.sl 1 (List.map encI (v0_u.regs)),AV.sl 1 (List.map encThr (v0_u.code))],Ob.var 31 [AV.sl 1 (List.map encI (v1_c.pc)),AV.sl 1 (List.map encRow (v1_c.regs)),AV.sl 1 (List.map encI (v1_c.mem)),AV.sl 1 (List.map encBuf (v1_c.buf))],Ob.row 5 1 (List.map (encK .u8) s41)]) (fun x59 a58=>stOf 128 [(5,AV.ptr 1 0),(10,AV.row 2 (List.length x59)),(11,iA s4)]) (fun x59 a58=>[Ob.var 25 [iA (v0_u.mod),AV.sl 1 (List.map encI (v0_u.init)),AV.sl 1 (List.map encI (v0_u.regs)),AV.sl 1 (List.map encThr (v0_u.code))],Ob.var 31 [AV.sl 1 (List.map encI (v1_c.pc)),AV.sl 1 (List.map encRow (v1_c.regs)),AV.sl 1 (List.map encI (v1_c.mem)),AV.sl 1 (List.map encBuf (v1_c.buf))],Ob.row 5 1 (List.map (encK .u8) x59)]) (fun v=>(AV.tup [sA v.1,iA v.2],[])) (fun k s=>ref12_Encode_L2 n v1_c s4 k s.1 s.2) (fun s=>rfl) o49 n (0,(x36++([IntKind.u8.wrap (((x37.length:Nat):Int))]:List Int))) (fun _=>0) ho49 ?_ ?_
 intro k42 ss a43 K44 cont45 hK46 hcont47 h hr48
 obtain ⟨s40,s41⟩:=ss
 replace h:ref12_Encode_L2 n v1_c s4 (k42+1) s40 s41=some o49:=h
 rw [ref12_Encode_L2] at h
 conv=>lhs;whnf
 revert h
 refine ix ?_;intro x50
 refine br ?_ ?_
 refine ix ?_;intro x52
 refine ix ?_;intro x53
 refine ix ?_;intro x54
 refine ix ?_;intro x55
 refine ar (ap (encK .u8) (List.map (encK .u8) s41) s41 ([[AV.int .u8 (IntKind.u8.wrap (x53.loc))],[AV.int .u8 (IntKind.u8.wrap (x55.n))]]) ([IntKind.u8.wrap (x53.loc),IntKind.u8.wrap (x55.n)]:List Int)) ?_
 exact fun h=>cq (hcont47 (IntKind.i64.wrap (s40+1),(s41++([IntKind.u8.wrap (x53.loc),IntKind.u8.wrap (x55.n)]:List Int))) (fun _=>0) h)
 intro h;cases sj h
 exact kq (hr48 (fun _=>0))
 refine lrc ?_ ?_
 intro v e;subst e;cases sj h;exact hr12
 intro x59 a58 e;subst e
 dsimp only at h
 conv=>lhs;whnf
 revert h
 exact fun h=>cq (hcont11 (IntKind.i64.wrap (s4+1),x59) (fun _=>0) h)
 intro h;cases sj h
 exact kq (hr12 (fun _=>0))
 refine lrc ?_ ?_
 intro v e;subst e;cases sj h;rfl
 intro x63 a62 e;subst e
 dsimp only at h
 conv=>lhs;whnf
 revert h
 intro h;refine bind_some2 h ?_;clear h;intro o73 ho73 h
 refine lq (σ:=(Int×(List Int))) (τ:=(List Int)) (ν:=((List UInt8)×Int)) 6 (fun (s64,s65) a67=>stOf 128 [(5,AV.ptr 1 0),(10,AV.row 2 (List.length s65)),(14,iA s64)]) (fun (s64,s65) a67=>[Ob.var 25 [iA (v0_u.mod),AV.sl 1 (List.map encI (v0_u.init)),AV.sl 1 (List.map encI (v0_u.regs)),AV.sl 1 (List.map encThr (v0_u.code))],Ob.var 31 [AV.sl 1 (List.map encI (v1_c.pc)),AV.sl 1 (List.map encRow (v1_c.regs)),AV.sl 1 (List.map encI (v1_c.mem)),AV.sl 1 (List.map encBuf (v1_c.buf))],Ob.row 5 1 (List.map (encK .u8) s65)]) (fun x79 a78=>stOf 128 [(10,AV.row 2 (List.length x79))]) (fun x79 a78=>[Ob.var 25 [iA (v0_u.mod),AV.sl 1 (List.map encI (v0_u.init)),AV.sl 1 (List.map encI (v0_u.regs)),AV.sl 1 (List.map encThr (v0_u.code))],Ob.var 31 [AV.sl 1 (List.map encI (v1_c.pc)),AV.sl 1 (List.map encRow (v1_c.regs)),AV.sl 1 (List.map encI (v1_c.mem)),AV.sl 1 (List.map encBuf (v1_c.buf))],Ob.row 5 1 (List.map (encK .u8) x79)]) (fun v=>(AV.tup [sA v.1,iA v.2],[])) (fun k s=>ref12_Encode_L3 n v1_c k s.1 s.2) (fun s=>rfl) o73 n (0,x63) (fun _=>0) ho73 ?_ ?_
 intro k66 ss a67 K68 cont69 hK70 hcont71 h hr72
 obtain ⟨s64,s65⟩:=ss
 replace h:ref12_Encode_L3 n v1_c (k66+1) s64 s65=some o73:=h
 rw [ref12_Encode_L3] at h
 conv=>lhs;whnf
 revert h
 refine br ?_ ?_
 refine ix ?_;intro x75
 refine ar (ap (encK .u8) (List.map (encK .u8) s65) s65 ([[AV.int .u8 (IntKind.u8.wrap x75)]]) ([IntKind.u8.wrap x75]:List Int)) ?_
 exact fun h=>cq (hcont71 (IntKind.i64.wrap (s64+1),(s65++([IntKind.u8.wrap x75]:List Int))) (fun _=>0) h)
 intro h;cases sj h
 exact kq (hr72 (fun _=>0))
 refine lrc ?_ ?_
 intro v e;subst e;cases sj h;rfl
 intro x79 a78 e;subst e
 dsimp only at h
 conv=>lhs;whnf
 revert h
 intro h
 refine chk_some2 h ?_;clear h;intro hc81 h
 have hb80:=str_ok (l:=x79) hc81
 try simp only [List.drop_zero,take_map_len]
 refine bif_pos hb80 ?_
 simp only [str_bytes,ls]
 conv=>lhs;whnf
 revert h
 exact rz
 exact rz

theorem ok_ref12_Size {n:Nat} ⦃v0_c:ConfS⦄ ⦃r:Int⦄:m_ref12_Size n v0_c=some r→CN n 24 [AV.agg [AV.sl 1 (List.map encI (v0_c.pc)),AV.sl 1 (List.map encRow (v0_c.regs)),AV.sl 1 (List.map encI (v0_c.mem)),AV.sl 1 (List.map encBuf (v0_c.buf))]] []=some (iA r,[]):=by
 intro h;rcases n with _|n;cases h
 rw [m_ref12_Size] at h
 refine callN_eq' Try.func24 (by rfl) rfl rfl (Nat.le_of_ble_eq_true rfl) ?_
 intro call hc;conv=>lhs;whnf
 revert h
 intro h;refine bind_some2 h ?_;clear h;intro o10 ho10 h
 refine lq (σ:=(Int×Int)) (τ:=Int) (ν:=Int) 0 (fun (s1,s2) a4=>stOf 46 [(1,AV.ptr 0 0),(3,iA s1),(4,iA s2)]) (fun (s1,s2) a4=>[Ob.var 31 [AV.sl 1 (List.map encI (v0_c.pc)),AV.sl 1 (List.map encRow (v0_c.regs)),AV.sl 1 (List.map encI (v0_c.mem)),AV.sl 1 (List.map encBuf (v0_c.buf))]]) (fun x14 a13=>stOf 46 [(1,AV.ptr 0 0),(3,iA x14)]) (fun x14 a13=>[Ob.var 31 [AV.sl 1 (List.map encI (v0_c.pc)),AV.sl 1 (List.map encRow (v0_c.regs)),AV.sl 1 (List.map encI (v0_c.mem)),AV.sl 1 (List.map encBuf (v0_c.buf))]]) (fun v=>(iA v,[])) (fun k s=>ref12_Size_L0 n v0_c k s.1 s.2) (fun s=>rfl) o10 n (IntKind.i64.wrap ((IntKind.i64.wrap (3 * (((v0_c.pc).length:Nat):Int)))+(((v0_c.mem).length:Nat):Int)),0) (fun _=>0) ho10 ?_ ?_
 intro k3 ss a4 K5 cont6 hK7 hcont8 h hr9
 obtain ⟨s1,s2⟩:=ss
 replace h:ref12_Size_L0 n v0_c (k3+1) s1 s2=some o10:=h
 rw [ref12_Size_L0] at h
 conv=>lhs;whnf
 revert h
 refine br ?_ ?_
 refine ix ?_;intro x12
 exact fun h=>cq (hcont8 (IntKind.i64.wrap (s1+((x12.length:Nat):Int)),IntKind.i64.wrap (s2+1)) (fun _=>0) h)
 intro h;cases sj h
 exact kq (hr9 (fun _=>0))
 refine lrc ?_ ?_
 intro v e;subst e;cases sj h;rfl
 intro x14 a13 e;subst e
 dsimp only at h
 conv=>lhs;whnf
 revert h
 intro h;refine bind_some2 h ?_;clear h;intro o24 ho24 h
 refine lq (σ:=(Int×Int)) (τ:=Int) (ν:=Int) 2 (fun (s15,s16) a18=>stOf 46 [(1,AV.ptr 0 0),(3,iA s15),(5,iA s16)]) (fun (s15,s16) a18=>[Ob.var 31 [AV.sl 1 (List.map encI (v0_c.pc)),AV.sl 1 (List.map encRow (v0_c.regs)),AV.sl 1 (List.map encI (v0_c.mem)),AV.sl 1 (List.map encBuf (v0_c.buf))]]) (fun x28 a27=>stOf 46 [(3,iA x28)]) (fun x28 a27=>[Ob.var 31 [AV.sl 1 (List.map encI (v0_c.pc)),AV.sl 1 (List.map encRow (v0_c.regs)),AV.sl 1 (List.map encI (v0_c.mem)),AV.sl 1 (List.map encBuf (v0_c.buf))]]) (fun v=>(iA v,[])) (fun k s=>ref12_Size_L1 n v0_c k s.1 s.2) (fun s=>rfl) o24 n (x14,0) (fun _=>0) ho24 ?_ ?_
 intro k17 ss a18 K19 cont20 hK21 hcont22 h hr23
 obtain ⟨s15,s16⟩:=ss
 replace h:ref12_Size_L1 n v0_c (k17+1) s15 s16=some o24:=h
 rw [ref12_Size_L1] at h
 conv=>lhs;whnf
 revert h
 refine br ?_ ?_
 refine ix ?_;intro x26
 exact fun h=>cq (hcont22 (IntKind.i64.wrap (s15+(IntKind.i64.wrap (2 * ((x26.length:Nat):Int)))),IntKind.i64.wrap (s16+1)) (fun _=>0) h)
 intro h;cases sj h
 exact kq (hr23 (fun _=>0))
 refine lrc ?_ ?_
 intro v e;subst e;cases sj h;rfl
 intro x28 a27 e;subst e
 dsimp only at h
 conv=>lhs;whnf
 revert h
 exact rz
end Go.Proofs.Ytejkhpgahnncnaa
end

section
namespace Go.Proofs.Ytejkhpgahnncnaa
set_option linter.unusedVariables false
set_option linter.unusedSimpArgs false
set_option maxRecDepth 100000
set_option maxHeartbeats 4000000

theorem ok_law12_PackEncodes {n:Nat} ⦃v0_c:S_law12_Case⦄ ⦃r:Bool⦄:m_law12_PackEncodes n v0_c=some r→CN n 5 [AV.agg [iA (v0_c.f_U.mod),AV.sl 1 (List.map encI (v0_c.f_U.init)),AV.sl 1 (List.map encI (v0_c.f_U.regs)),AV.sl 1 (List.map encThr (v0_c.f_U.code)),AV.sl 1 (List.map encI (v0_c.f_C.pc)),AV.sl 1 (List.map encRow (v0_c.f_C.regs)),AV.sl 1 (List.map encI (v0_c.f_C.mem)),AV.sl 1 (List.map encBuf (v0_c.f_C.buf)),iA v0_c.f_Model,iA v0_c.f_Room]] []=some (bA r,[]):=by
 intro h;rcases n with _|n;cases h
 rw [m_law12_PackEncodes] at h
 refine callN_eq' Try.func5 (by rfl) rfl rfl (Nat.le_of_ble_eq_true rfl) ?_
 intro call hc;conv=>lhs;whnf
 revert h
 refine ca hc (fun _ h=>ok_law12_light h) ?_;intro y1
 refine br ?_ ?_
 refine ca hc (fun _ h=>ok_pack_Encode h) ?_;intro y4
 refine ca hc (fun _ h=>ok_ref12_Encode h) ?_;intro y6
 refine br ?_ ?_
 refine br ?_ ?_
 refine ca hc (fun _ h=>ok_pack_Size h) ?_;intro y10
 refine ca hc (fun _ h=>ok_ref12_Size h) ?_;intro y12
 refine br ?_ ?_
 refine ca hc (fun _ h=>ok_law12_known h) ?_;intro y15
 exact rz
 exact rz
 exact rz
 exact rz
 refine ca hc (fun _ h=>ok_law12_known h) ?_;intro y17
 exact rz
end Go.Proofs.Ytejkhpgahnncnaa
end

