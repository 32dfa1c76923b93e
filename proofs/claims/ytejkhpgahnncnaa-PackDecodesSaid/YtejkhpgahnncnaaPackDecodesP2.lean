/- Parts of the proofs: what they lean on. Conditions: none. -/
import Derived.Deep.AppendLies
import Derived.Test.YtejkhpgahnncnaaPackDecodesP1
section
namespace Go.Proofs.Ytejkhpgahnncnaa
open Go.RowKit
set_option linter.unusedVariables false
set_option linter.unusedSimpArgs false

theorem ownsR_block {w : World} {base : Nat} {e : TypeId} {size : Nat} {v : Value} {n : Nat} {xs : List Value} (h : w.ownsRow base e size v n xs) {b : Nat} (hb : v.ownBlock = some b) : base ≤ b ∧ b < w.heap.size := by
  rcases h.2 with ⟨rfl, _⟩ | ⟨g, cap, cur, rfl, hbg, hgg, _⟩
  · cases hb
  · obtain rfl : g = b := by simpa [Value.ownBlock] using hb
    exact ⟨hbg, (Array.getElem?_eq_some_iff.1 hgg).1⟩
theorem owns_heap {w w' : World} {base base' : Nat} {e : TypeId} {size : Nat} {v : Value} {n : Nat} {xs : List Value} (h : w.ownsRow base e size v n xs) (hb : ∀ b, v.ownBlock = some b → base' ≤ b ∧ w'.heap[b]? = w.heap[b]?) : w'.ownsRow base' e size v n xs := by
  refine ⟨h.1, ?_⟩
  rcases h.2 with hn | ⟨g, cap, cur, rfl, hbg, hgg, rest⟩
  · exact .inl hn
  · obtain ⟨h1, h2⟩ := hb g rfl
    exact .inr ⟨g, cap, cur, rfl, h1, h2.trans hgg, rest⟩
structure RowsAt (B : Nat) (w : World) (eT e : TypeId) (size : Nat) (v : Value) (vals : List Value) (rows : List (List Value)) : Prop where
  len : vals.length = rows.length
  own : w.ownsRow B eT 1 v rows.length vals
  row : ∀ (i : Nat) (x : Value) (r : List Value), vals[i]? = some x → rows[i]? = some r → ∃ m, w.ownsRow B e size x m r
  apart : ∀ (i : Nat) (x : Value) (b : Nat), vals[i]? = some x → x.ownBlock = some b → v.ownBlock ≠ some b
  dist : ∀ (i j : Nat) (x y : Value) (b : Nat), vals[i]? = some x → vals[j]? = some y → x.ownBlock = some b → y.ownBlock = some b → i = j
theorem RowsAt.nil (B : Nat) (w : World) (eT e : TypeId) (size : Nat) : RowsAt B w eT e size (.slice none 0 0) [] [] :=
  ⟨rfl, World.ownsRow_nil _ _ _ _, fun i x r h => by simp at h, fun i x b h => by simp at h, fun i j x y b h => by simp at h⟩
theorem RowsAt.lt {B : Nat} {w : World} {eT e : TypeId} {size : Nat} {v : Value} {vals : List Value} {rows : List (List Value)} (h : RowsAt B w eT e size v vals rows) {i : Nat} {x : Value} {b : Nat} (hx : vals[i]? = some x) (hb : x.ownBlock = some b) : B ≤ b ∧ b < w.heap.size := by
  have hi : i < rows.length := by rw [← h.len]; exact (List.getElem?_eq_some_iff.1 hx).1
  obtain ⟨m, hm⟩ := h.row i x _ hx (List.getElem?_eq_getElem hi)
  exact ownsR_block hm hb
theorem RowsAt.below {B : Nat} {w w' : World} {eT e : TypeId} {size : Nat} {v : Value} {vals : List Value} {rows : List (List Value)} (h : RowsAt B w eT e size v vals rows) (hb : Below w.heap.size w w') : RowsAt B w' eT e size v vals rows :=
  ⟨h.len, owns_below h.own hb, fun i x r h1 h2 => let ⟨m, hm⟩ := h.row i x r h1 h2; ⟨m, owns_below hm hb⟩, h.apart, h.dist⟩
theorem RowsAt.push {B : Nat} {w w1 w2 : World} {eT e : TypeId} {size : Nat} {v v' x : Value} {vals : List Value} {rows : List (List Value)} {m g : Nat} {r : List Value} (h : RowsAt B w eT e size v vals rows) (hB : B ≤ w.heap.size) (hb : Below w.heap.size w w1) (hx : w1.ownsRow w.heap.size e size x m r)
    (h2 : w2.ownsRow B eT 1 v' (rows.length + 1) (vals ++ [x])) (hg : w1.grownBy w2 v.ownBlock) (hloc : v.ownBlock = some g ∨ g = w1.heap.size) (hv' : v'.ownBlock = some g) : RowsAt B w2 eT e size v' (vals ++ [x]) (rows ++ [r]) := by
  have hsz := hb.size
  have old : ∀ (i : Nat) (y : Value) (b : Nat), vals[i]? = some y → y.ownBlock = some b → w2.heap[b]? = w.heap[b]? := by
    intro i y b hy hyb
    have hlt := (h.lt hy hyb).2
    exact (hg.block b (by omega) (fun e => h.apart i y b hy hyb e.symm)).trans (hb.block b hlt)
  refine ⟨by simp [h.len], by rw [List.length_append]; exact h2, fun i y r' hy hr' => ?_, fun i y b hy hyb => ?_, fun i j y z b hy hz hyb hzb => ?_⟩
  · rcases Nat.lt_or_ge i vals.length with hi | hi
    · rw [List.getElem?_append_left hi] at hy
      rw [List.getElem?_append_left (by rw [← h.len]; exact hi)] at hr'
      obtain ⟨m', hm'⟩ := h.row i y r' hy hr'
      exact ⟨m', owns_heap hm' fun b hb' => ⟨(h.lt hy hb').1, old i y b hy hb'⟩⟩
    · rw [List.getElem?_append_right hi] at hy
      rw [List.getElem?_append_right (by rw [← h.len]; exact hi), ← h.len] at hr'
      obtain hi0 : i - vals.length = 0 := by
        have := (List.getElem?_eq_some_iff.1 hy).1
        simp at this; omega
      rw [hi0] at hy hr'
      simp at hy hr'
      subst hy hr'
      refine ⟨m, owns_heap hx fun b hb' => ?_⟩
      obtain ⟨h3, h4⟩ := ownsR_block hx hb'
      refine ⟨by omega, hg.block b h4 fun e => ?_⟩
      have := (ownsR_block h.own e.symm).2
      omega
  · rw [hv']
    intro e
    obtain rfl : g = b := by simpa using e
    rcases Nat.lt_or_ge i vals.length with hi | hi
    · rw [List.getElem?_append_left hi] at hy
      rcases hloc with hl | hl
      · exact h.apart i y g hy hyb hl
      · have := (h.lt hy hyb).2; omega
    · rw [List.getElem?_append_right hi] at hy
      obtain hi0 : i - vals.length = 0 := by
        have := (List.getElem?_eq_some_iff.1 hy).1
        simp at this; omega
      rw [hi0] at hy
      simp at hy
      subst hy
      obtain ⟨h3, h4⟩ := ownsR_block hx hyb
      rcases hloc with hl | hl
      · have := (ownsR_block h.own hl).2; omega
      · omega
  · have key : ∀ (i : Nat) (y : Value), (vals ++ [x])[i]? = some y → y.ownBlock = some b → (i < vals.length ∧ vals[i]? = some y ∧ b < w.heap.size) ∨ (i = vals.length ∧ w.heap.size ≤ b) := by
      intro i y hy hyb
      rcases Nat.lt_or_ge i vals.length with hi | hi
      · rw [List.getElem?_append_left hi] at hy
        exact .inl ⟨hi, hy, (h.lt hy hyb).2⟩
      · rw [List.getElem?_append_right hi] at hy
        obtain hi0 : i - vals.length = 0 := by
          have := (List.getElem?_eq_some_iff.1 hy).1
          simp at this; omega
        rw [hi0] at hy
        simp at hy
        subst hy
        exact .inr ⟨by omega, (ownsR_block hx hyb).1⟩
    rcases key i y hy hyb with ⟨i1, i2, i3⟩ | ⟨i1, i2⟩ <;> rcases key j z hz hzb with ⟨j1, j2, j3⟩ | ⟨j1, j2⟩
    · exact h.dist i j y z b i2 j2 hyb hzb
    · omega
    · omega
    · omega
end Go.Proofs.Ytejkhpgahnncnaa
end

section
namespace Go.Proofs.Ytejkhpgahnncnaa
set_option linter.unusedVariables false
set_option linter.unusedSimpArgs false
set_option maxRecDepth 100000
set_option maxHeartbeats 4000000

noncomputable abbrev CN := callN Try.prog HH XT
def m_ref06_in:Nat→Int→Int→Option Bool
  | 0,_,_=>none
  | n+1,v0_n,v1_most=>(bif decide (0≤v0_n) then (some (decide (v0_n<v1_most))) else (some false))

def ref06_All_L0 (n:Nat)  (v0_l:(List Int)) (v1_mod:Int):Nat→Int→Option (LR Unit Bool)
  | 0,_=>none
  | k2+1,s1=>(bif decide (s1<((v0_l.length:Nat):Int)) then ((idx v0_l s1).bind fun x11=>((m_ref06_in n x11 v1_mod).bind fun y12=>(bif y12 then (ref06_All_L0 n v0_l v1_mod k2 (IntKind.i64.wrap (s1+1))) else (some (.ret false))))) else (some (.out ())))
def m_ref06_All:Nat→(List Int)→Int→Option Bool
  | 0,_,_=>none
  | n+1,v0_l,v1_mod=>((ref06_All_L0 n v0_l v1_mod n 0).bind fun o9=>match o9 with|.out _=>(some true)|.ret v=>some v)

def ref07_Ints_L0 (n:Nat)  (v0_a:(List Int)) (v1_b:(List Int)):Nat→Int→Option (LR Unit Bool)
  | 0,_=>none
  | k3+1,s2=>(bif decide (s2<((v0_a.length:Nat):Int)) then ((idx v0_a s2).bind fun x12=>((idx v1_b s2).bind fun x13=>(bif (x12 != x13) then (some (.ret false)) else (ref07_Ints_L0 n v0_a v1_b k3 (IntKind.i64.wrap (s2+1)))))) else (some (.out ())))
def m_ref07_Ints:Nat→(List Int)→(List Int)→Option Bool
  | 0,_,_=>none
  | n+1,v0_a,v1_b=>(bif (((v0_a.length:Nat):Int) != ((v1_b.length:Nat):Int)) then (some false) else ((ref07_Ints_L0 n v0_a v1_b n 0).bind fun o10=>match o10 with|.out _=>(some true)|.ret v=>some v))

def ref08_count_L0 (n:Nat)  (v0_b:(List EntryS)) (v1_loc:Int):Nat→Int→Int→Option (LR Int Int)
  | 0,_,_=>none
  | k3+1,s1,s2=>(bif decide (s2<((v0_b.length:Nat):Int)) then ((idx v0_b s2).bind fun x12=>(bif (x12.loc==v1_loc) then (ref08_count_L0 n v0_b v1_loc k3 (IntKind.i64.wrap (s1+1)) (IntKind.i64.wrap (s2+1))) else (ref08_count_L0 n v0_b v1_loc k3 s1 (IntKind.i64.wrap (s2+1))))) else (some (.out s1)))
def m_ref08_count:Nat→(List EntryS)→Int→Option Int
  | 0,_,_=>none
  | n+1,v0_b,v1_loc=>((ref08_count_L0 n v0_b v1_loc n 0 0).bind fun o10=>match o10 with|.out x15=>(some x15)|.ret v=>some v)

def ref08_Right_L0 (n:Nat)  (v0_b:(List EntryS)) (v1_model:Int) (v2_room:Int) (v3_mod:Int) (v4_locs:Int):Nat→Int→Option (LR Unit Bool)
  | 0,_=>none
  | k8+1,s7=>(bif decide (s7<((v0_b.length:Nat):Int)) then ((idx v0_b s7).bind fun x17=>(bif decide (x17.loc<0) then (some (.ret false)) else ((idx v0_b s7).bind fun x19=>(bif decide (v4_locs≤x19.loc) then (some (.ret false)) else ((idx v0_b s7).bind fun x21=>(bif decide (x21.n<0) then (some (.ret false)) else ((idx v0_b s7).bind fun x23=>(bif decide (v3_mod≤x23.n) then (some (.ret false)) else (bif (v1_model==3) then (bif decide (0<s7) then ((idx v0_b s7).bind fun x27=>((idx v0_b (IntKind.i64.wrap (s7 - 1))).bind fun x28=>(bif decide (x27.loc<x28.loc) then (some (.ret false)) else ((idx v0_b s7).bind fun x30=>((m_ref08_count n v0_b x30.loc).bind fun y31=>(bif decide (v2_room<y31) then (some (.ret false)) else (ref08_Right_L0 n v0_b v1_model v2_room v3_mod v4_locs k8 (IntKind.i64.wrap (s7+1))))))))) else ((idx v0_b s7).bind fun x34=>((m_ref08_count n v0_b x34.loc).bind fun y35=>(bif decide (v2_room<y35) then (some (.ret false)) else (ref08_Right_L0 n v0_b v1_model v2_room v3_mod v4_locs k8 (IntKind.i64.wrap (s7+1))))))) else (ref08_Right_L0 n v0_b v1_model v2_room v3_mod v4_locs k8 (IntKind.i64.wrap (s7+1)))))))))))) else (some (.out ())))
def m_ref08_Right:Nat→(List EntryS)→Int→Int→Int→Int→Option Bool
  | 0,_,_,_,_,_=>none
  | n+1,v0_b,v1_model,v2_room,v3_mod,v4_locs=>(bif decide (v1_model<1) then (some false) else (bif decide (3<v1_model) then (some false) else (bif decide (v2_room<1) then (some false) else (bif decide (4<v2_room) then (some false) else (bif decide (v3_mod<2) then (some false) else (bif decide (16<v3_mod) then (some false) else ((ref08_Right_L0 n v0_b v1_model v2_room v3_mod v4_locs n 0).bind fun o15=>match o15 with|.out _=>(bif (v1_model != 1) then (bif (v1_model==3) then (some true) else (bif decide (((v0_b.length:Nat):Int)≤v2_room) then (some true) else (some (((v0_b.length:Nat):Int)==0)))) else (some (((v0_b.length:Nat):Int)==0)))|.ret v=>some v)))))))

def ref08_Same_L0 (n:Nat)  (v0_a:(List EntryS)) (v1_b:(List EntryS)):Nat→Int→Option (LR Unit Bool)
  | 0,_=>none
  | k3+1,s2=>(bif decide (s2<((v0_a.length:Nat):Int)) then ((idx v0_a s2).bind fun x12=>((idx v1_b s2).bind fun x13=>(bif ((x12.loc==x13.loc)&&((x12.n==x13.n)&&true)) then (ref08_Same_L0 n v0_a v1_b k3 (IntKind.i64.wrap (s2+1))) else (some (.ret false))))) else (some (.out ())))
def m_ref08_Same:Nat→(List EntryS)→(List EntryS)→Option Bool
  | 0,_,_=>none
  | n+1,v0_a,v1_b=>(bif (((v0_a.length:Nat):Int) != ((v1_b.length:Nat):Int)) then (some false) else ((ref08_Same_L0 n v0_a v1_b n 0).bind fun o10=>match o10 with|.out _=>(some true)|.ret v=>some v))

def store_count_L0 (n:Nat)  (v0_b:(List EntryS)) (v1_loc:Int):Nat→Int→Int→Option (LR Int Int)
  | 0,_,_=>none
  | k3+1,s1,s2=>(bif decide (s2<((v0_b.length:Nat):Int)) then ((idx v0_b s2).bind fun x12=>(bif (x12.loc==v1_loc) then (store_count_L0 n v0_b v1_loc k3 (IntKind.i64.wrap (s1+1)) (IntKind.i64.wrap (s2+1))) else (store_count_L0 n v0_b v1_loc k3 s1 (IntKind.i64.wrap (s2+1))))) else (some (.out s1)))
def m_store_count:Nat→(List EntryS)→Int→Option Int
  | 0,_,_=>none
  | n+1,v0_b,v1_loc=>((store_count_L0 n v0_b v1_loc n 0 0).bind fun o10=>match o10 with|.out x15=>(some x15)|.ret v=>some v)

def store_Right_L0 (n:Nat)  (v0_b:(List EntryS)) (v1_model:Int) (v2_room:Int) (v3_mod:Int) (v4_locs:Int):Nat→Int→Option (LR Unit Bool)
  | 0,_=>none
  | k6+1,s5=>(bif decide (s5<((v0_b.length:Nat):Int)) then ((idx v0_b s5).bind fun x15=>(bif decide (x15.loc<0) then (some (.ret false)) else (bif decide (v4_locs≤x15.loc) then (some (.ret false)) else (bif decide (x15.n<0) then (some (.ret false)) else (bif decide (v3_mod≤x15.n) then (some (.ret false)) else (bif (v1_model==3) then (bif decide (0<s5) then ((idx v0_b (IntKind.i64.wrap (s5 - 1))).bind fun x22=>(bif decide (x15.loc<x22.loc) then (some (.ret false)) else ((m_store_count n v0_b x15.loc).bind fun y24=>(bif decide (v2_room<y24) then (some (.ret false)) else (store_Right_L0 n v0_b v1_model v2_room v3_mod v4_locs k6 (IntKind.i64.wrap (s5+1))))))) else ((m_store_count n v0_b x15.loc).bind fun y27=>(bif decide (v2_room<y27) then (some (.ret false)) else (store_Right_L0 n v0_b v1_model v2_room v3_mod v4_locs k6 (IntKind.i64.wrap (s5+1)))))) else (store_Right_L0 n v0_b v1_model v2_room v3_mod v4_locs k6 (IntKind.i64.wrap (s5+1))))))))) else (some (.out ())))
def m_store_Right:Nat→(List EntryS)→Int→Int→Int→Int→Option Bool
  | 0,_,_,_,_,_=>none
  | n+1,v0_b,v1_model,v2_room,v3_mod,v4_locs=>(bif decide (v2_room<1) then (some false) else (bif decide (4<v2_room) then (some false) else (bif decide (v3_mod<2) then (some false) else (bif decide (16<v3_mod) then (some false) else ((store_Right_L0 n v0_b v1_model v2_room v3_mod v4_locs n 0).bind fun o13=>match o13 with|.out _=>(bif (v1_model==1) then (some (((v0_b.length:Nat):Int)==0)) else (bif (v1_model==2) then (some (decide (((v0_b.length:Nat):Int)≤v2_room))) else (some (v1_model==3))))|.ret v=>some v)))))

def ref09_Right_L0 (n:Nat)  (v0_u:UnitS) (v1_c:ConfS) (v2_model:Int) (v3_room:Int):Nat→Int→Option (LR Unit Bool)
  | 0,_=>none
  | k12+1,s11=>(bif decide (s11<(((v0_u.regs).length:Nat):Int)) then ((idx v1_c.pc s11).bind fun x21=>(bif decide (x21<0) then (some (.ret false)) else ((idx v1_c.pc s11).bind fun x23=>((idx v0_u.code s11).bind fun x24=>(bif decide (((x24.length:Nat):Int)≤x23) then (some (.ret false)) else ((idx v1_c.regs s11).bind fun x26=>((idx v0_u.regs s11).bind fun x27=>(bif (((x26.length:Nat):Int) != x27) then (some (.ret false)) else ((idx v1_c.regs s11).bind fun x29=>((m_ref06_All n x29 v0_u.mod).bind fun y30=>(bif y30 then ((idx v1_c.buf s11).bind fun x33=>((m_ref08_Right n x33 v2_model v3_room v0_u.mod (((v0_u.init).length:Nat):Int)).bind fun y34=>(bif y34 then (ref09_Right_L0 n v0_u v1_c v2_model v3_room k12 (IntKind.i64.wrap (s11+1))) else (some (.ret false))))) else (some (.ret false))))))))))))) else (some (.out ())))
def m_ref09_Right:Nat→UnitS→ConfS→Int→Int→Option Bool
  | 0,_,_,_,_=>none
  | n+1,v0_u,v1_c,v2_model,v3_room=>((m_ref07_Right n v0_u).bind fun y1=>(bif y1 then (bif ((((v1_c.pc).length:Nat):Int) != (((v0_u.regs).length:Nat):Int)) then (some false) else (bif ((((v1_c.regs).length:Nat):Int) != (((v0_u.regs).length:Nat):Int)) then (some false) else (bif ((((v1_c.buf).length:Nat):Int) != (((v0_u.regs).length:Nat):Int)) then (some false) else (bif ((((v1_c.mem).length:Nat):Int) != (((v0_u.init).length:Nat):Int)) then (some false) else ((m_ref06_All n v1_c.mem v0_u.mod).bind fun y8=>(bif y8 then ((ref09_Right_L0 n v0_u v1_c v2_model v3_room n 0).bind fun o19=>match o19 with|.out _=>((m_ref08_Right n ([]:List EntryS) v2_model v3_room v0_u.mod (((v0_u.init).length:Nat):Int)).bind fun y38=>(some y38))|.ret v=>some v) else (some false))))))) else (some false)))

def ref09_Same_L0 (n:Nat)  (v0_a:ConfS) (v1_b:ConfS):Nat→Int→Option (LR Unit Bool)
  | 0,_=>none
  | k10+1,s9=>(bif decide (s9<(((v0_a.regs).length:Nat):Int)) then ((idx v0_a.regs s9).bind fun x19=>((idx v1_b.regs s9).bind fun x20=>((m_ref07_Ints n x19 x20).bind fun y21=>(bif y21 then (ref09_Same_L0 n v0_a v1_b k10 (IntKind.i64.wrap (s9+1))) else (some (.ret false)))))) else (some (.out ())))
def ref09_Same_L1 (n:Nat)  (v0_a:ConfS) (v1_b:ConfS):Nat→Int→Option (LR Unit Bool)
  | 0,_=>none
  | k26+1,s25=>(bif decide (s25<(((v0_a.buf).length:Nat):Int)) then ((idx v0_a.buf s25).bind fun x35=>((idx v1_b.buf s25).bind fun x36=>((m_ref08_Same n x35 x36).bind fun y37=>(bif y37 then (ref09_Same_L1 n v0_a v1_b k26 (IntKind.i64.wrap (s25+1))) else (some (.ret false)))))) else (some (.out ())))
def m_ref09_Same:Nat→ConfS→ConfS→Option Bool
  | 0,_,_=>none
  | n+1,v0_a,v1_b=>((m_ref07_Ints n v0_a.pc v1_b.pc).bind fun y1=>(bif y1 then ((m_ref07_Ints n v0_a.mem v1_b.mem).bind fun y4=>(bif y4 then (bif ((((v0_a.regs).length:Nat):Int) != (((v1_b.regs).length:Nat):Int)) then (some false) else (bif ((((v0_a.buf).length:Nat):Int) != (((v1_b.buf).length:Nat):Int)) then (some false) else ((ref09_Same_L0 n v0_a v1_b n 0).bind fun o17=>match o17 with|.out _=>((ref09_Same_L1 n v0_a v1_b n 0).bind fun o33=>match o33 with|.out _=>(some true)|.ret v=>some v)|.ret v=>some v))) else (some false))) else (some false)))

def ref09_Start_L0 (n:Nat)  (v0_u:UnitS):Nat→Int→(List Int)→(List (List Int))→(List (List EntryS))→Option (LR ((List Int)×(List (List Int))×(List (List EntryS))) (ConfS×Int))
  | 0,_,_,_,_=>none
  | k8+1,s4,s5,s6,s7=>(bif decide (s4<(((v0_u.regs).length:Nat):Int)) then (bif decide ((s5.length+1) * 9≤140737488355328) then ((idx v0_u.regs s4).bind fun x19=>(bif (decide (0≤x19)&&decide ((8:Int) * x19≤140737488355328)) then (bif decide ((s6.length+1) * 25≤140737488355328) then (bif decide ((s7.length+1) * 25≤140737488355328) then (ref09_Start_L0 n v0_u k8 (IntKind.i64.wrap (s4+1)) (s5++([0]:List Int)) (s6++([(List.replicate x19.toNat 0:List Int)]:List (List Int))) (s7++([([]:List EntryS)]:List (List EntryS)))) else none) else none) else none)) else none) else (some (.out (s5,s6,s7))))
def m_ref09_Start:Nat→UnitS→Option (ConfS×Int)
  | 0,_=>none
  | n+1,v0_u=>((m_ref07_Right n v0_u).bind fun y1=>(bif y1 then ((ref09_Start_L0 n v0_u n 0 ([]:List Int) ([]:List (List Int)) ([]:List (List EntryS))).bind fun o15=>match o15 with|.out (x27,x28,x29)=>(bif decide (((([]:List Int)).length+(v0_u.init).length) * 9≤140737488355328) then (some ((⟨x27,x28,(([]:List Int)++v0_u.init),x29⟩:ConfS),0)) else none)|.ret v=>some v) else (some ((⟨([]:List Int),([]:List (List Int)),([]:List Int),([]:List (List EntryS))⟩:ConfS),8))))

def conf_below_L0 (n:Nat)  (v0_l:(List Int)) (v1_mod:Int):Nat→Int→Option (LR Unit Bool)
  | 0,_=>none
  | k2+1,s1=>(bif decide (s1<((v0_l.length:Nat):Int)) then ((idx v0_l s1).bind fun x11=>(bif decide (x11<0) then (some (.ret false)) else (bif decide (v1_mod≤x11) then (some (.ret false)) else (conf_below_L0 n v0_l v1_mod k2 (IntKind.i64.wrap (s1+1)))))) else (some (.out ())))
def m_conf_below:Nat→(List Int)→Int→Int→Option Bool
  | 0,_,_,_=>none
  | n+1,v0_l,v1_mod,v2_many=>((conf_below_L0 n v0_l v1_mod n 0).bind fun o9=>match o9 with|.out _=>(some (((v0_l.length:Nat):Int)==v2_many))|.ret v=>some v)

def conf_Right_L0 (n:Nat)  (v0_u:UnitS) (v1_c:ConfS) (v2_model:Int) (v3_room:Int):Nat→Int→Option (LR Unit Bool)
  | 0,_=>none
  | k11+1,s10=>(bif decide (s10<(((v1_c.pc).length:Nat):Int)) then ((idx v1_c.pc s10).bind fun x20=>(bif decide (x20<0) then (some (.ret false)) else ((idx v0_u.code s10).bind fun x22=>(bif decide (((x22.length:Nat):Int)≤x20) then (some (.ret false)) else ((idx v1_c.regs s10).bind fun x24=>((idx v0_u.regs s10).bind fun x25=>((m_conf_below n x24 v0_u.mod x25).bind fun y26=>(bif y26 then ((idx v1_c.buf s10).bind fun x29=>((m_store_Right n x29 v2_model v3_room v0_u.mod (((v0_u.init).length:Nat):Int)).bind fun y30=>(bif y30 then (conf_Right_L0 n v0_u v1_c v2_model v3_room k11 (IntKind.i64.wrap (s10+1))) else (some (.ret false))))) else (some (.ret false)))))))))) else (some (.out ())))
def m_conf_Right:Nat→UnitS→ConfS→Int→Int→Option Bool
  | 0,_,_,_,_=>none
  | n+1,v0_u,v1_c,v2_model,v3_room=>((m_lower_Right n v0_u).bind fun y1=>(bif y1 then ((m_conf_below n v1_c.mem v0_u.mod (((v0_u.init).length:Nat):Int)).bind fun y4=>(bif y4 then (bif ((((v1_c.pc).length:Nat):Int) != (((v0_u.regs).length:Nat):Int)) then (some false) else (bif ((((v1_c.regs).length:Nat):Int) != (((v0_u.regs).length:Nat):Int)) then (some false) else (bif ((((v1_c.buf).length:Nat):Int) != (((v0_u.regs).length:Nat):Int)) then (some false) else ((conf_Right_L0 n v0_u v1_c v2_model v3_room n 0).bind fun o18=>match o18 with|.out _=>(some true)|.ret v=>some v)))) else (some false))) else (some false)))

def m_conf_own_int:Nat→(List Int)→Option (List Int)
  | 0,_=>none
  | n+1,v0_l=>(bif decide (v0_l.length * 9≤140737488355328) then (bif decide (v0_l.length=0) then (some ([]:List Int)) else (some v0_l)) else none)

def conf_Start_L0 (n:Nat)  (v0_u:UnitS):Nat→Int→(List (List Int))→Option (LR (List (List Int)) (ConfS×Int))
  | 0,_,_=>none
  | k12+1,s10,s11=>(bif decide (s10<(((v0_u.regs).length:Nat):Int)) then ((idx v0_u.regs s10).bind fun x21=>(bif (decide (0≤x21)&&decide ((8:Int) * x21≤140737488355328)) then (bif decide ((s11.length+1) * 25≤140737488355328) then (conf_Start_L0 n v0_u k12 (IntKind.i64.wrap (s10+1)) (s11++([(List.replicate x21.toNat 0:List Int)]:List (List Int)))) else none) else none)) else (some (.out s11)))
def m_conf_Start:Nat→UnitS→Option (ConfS×Int)
  | 0,_=>none
  | n+1,v0_u=>((m_lower_Right n v0_u).bind fun y1=>(bif y1 then (bif (decide (0≤(((v0_u.regs).length:Nat):Int))&&decide ((8:Int) * ((((v0_u.regs).length:Nat):Int))≤140737488355328)) then ((m_conf_own_int n v0_u.init).bind fun y6=>(bif (decide (0≤(((v0_u.regs).length:Nat):Int))&&decide ((24:Int) * ((((v0_u.regs).length:Nat):Int))≤140737488355328)) then ((conf_Start_L0 n v0_u n 0 ([]:List (List Int))).bind fun o19=>match o19 with|.out x27=>(some ((⟨(List.replicate ((((v0_u.regs).length:Nat):Int)).toNat 0:List Int),x27,y6,(List.replicate ((((v0_u.regs).length:Nat):Int)).toNat ([]:List EntryS):List (List EntryS))⟩:ConfS),0))|.ret v=>some v) else none)) else none) else (some ((⟨([]:List Int),([]:List (List Int)),([]:List Int),([]:List (List EntryS))⟩:ConfS),8))))

def ref12_Encode_L1 (n:Nat)  (v1_c:ConfS) (s4:Int):Nat→Int→(List Int)→Option (LR (List Int) ((List UInt8)×Int))
  | 0,_,_=>none
  | k21+1,s19,s20=>((idx v1_c.regs s4).bind fun x29=>(bif decide (s19<((x29.length:Nat):Int)) then ((idx v1_c.regs s4).bind fun x31=>((idx x31 s19).bind fun x32=>(bif decide ((s20.length+1) * 2≤140737488355328) then (ref12_Encode_L1 n v1_c s4 k21 (IntKind.i64.wrap (s19+1)) (s20++([IntKind.u8.wrap x32]:List Int))) else none))) else (some (.out s20))))
def ref12_Encode_L2 (n:Nat)  (v1_c:ConfS) (s4:Int):Nat→Int→(List Int)→Option (LR (List Int) ((List UInt8)×Int))
  | 0,_,_=>none
  | k42+1,s40,s41=>((idx v1_c.buf s4).bind fun x50=>(bif decide (s40<((x50.length:Nat):Int)) then ((idx v1_c.buf s4).bind fun x52=>((idx x52 s40).bind fun x53=>((idx v1_c.buf s4).bind fun x54=>((idx x54 s40).bind fun x55=>(bif decide ((s41.length+2) * 2≤140737488355328) then (ref12_Encode_L2 n v1_c s4 k42 (IntKind.i64.wrap (s40+1)) (s41++([IntKind.u8.wrap (x53.loc),IntKind.u8.wrap (x55.n)]:List Int))) else none))))) else (some (.out s41))))
def ref12_Encode_L0 (n:Nat)  (v1_c:ConfS):Nat→Int→(List Int)→Option (LR (List Int) ((List UInt8)×Int))
  | 0,_,_=>none
  | k6+1,s4,s5=>(bif decide (s4<(((v1_c.pc).length:Nat):Int)) then ((idx v1_c.pc s4).bind fun x15=>((idx v1_c.pc s4).bind fun x16=>(bif decide ((s5.length+2) * 2≤140737488355328) then ((ref12_Encode_L1 n v1_c s4 n 0 (s5++([IntKind.u8.wrap (IntKind.i64.wrap (Int.tdiv x15 256)),IntKind.u8.wrap ((Int.tmod x16 256))]:List Int))).bind fun o28=>match o28 with|.out x36=>((idx v1_c.buf s4).bind fun x37=>(bif decide ((x36.length+1) * 2≤140737488355328) then ((ref12_Encode_L2 n v1_c s4 n 0 (x36++([IntKind.u8.wrap (((x37.length:Nat):Int))]:List Int))).bind fun o49=>match o49 with|.out x59=>(ref12_Encode_L0 n v1_c k6 (IntKind.i64.wrap (s4+1)) x59)|.ret v=>some (.ret v)) else none))|.ret v=>some (.ret v)) else none))) else (some (.out s5)))
def ref12_Encode_L3 (n:Nat)  (v1_c:ConfS):Nat→Int→(List Int)→Option (LR (List Int) ((List UInt8)×Int))
  | 0,_,_=>none
  | k66+1,s64,s65=>(bif decide (s64<(((v1_c.mem).length:Nat):Int)) then ((idx v1_c.mem s64).bind fun x75=>(bif decide ((s65.length+1) * 2≤140737488355328) then (ref12_Encode_L3 n v1_c k66 (IntKind.i64.wrap (s64+1)) (s65++([IntKind.u8.wrap x75]:List Int))) else none)) else (some (.out s65)))
def m_ref12_Encode:Nat→UnitS→ConfS→Int→Int→Option ((List UInt8)×Int)
  | 0,_,_,_,_=>none
  | n+1,v0_u,v1_c,v2_model,v3_room=>((m_ref09_Right n v0_u v1_c v2_model v3_room).bind fun y1=>(bif y1 then ((ref12_Encode_L0 n v1_c n 0 ([]:List Int)).bind fun o13=>match o13 with|.out x63=>((ref12_Encode_L3 n v1_c n 0 x63).bind fun o73=>match o73 with|.out x79=>(bif decide (x79.length≤140737488355328) then (some ((List.map u8of x79),0)) else none)|.ret v=>some v)|.ret v=>some v) else (some (([]:List UInt8),8))))

def m_pack_reader_next:Nat→(List UInt8)→Bool→Option (Int×(List UInt8)×Bool)
  | 0,_,_=>none
  | n+1,r_s,r_bad=>(bif (r_s==([]:List UInt8)) then (some (0,r_s,true)) else ((idx r_s 0).bind fun x2=>(bif (decide (0≤1)&&decide (1≤((r_s.length:Nat):Int))) then (some (IntKind.i64.wrap ((x2.toNat:Int)),(List.drop ((1:Int).toNat) (List.take (r_s.length) r_s)),r_bad)) else none)))

def pack_reader_row_L0 (n:Nat)  (v1_n:Int):Nat→Int→(List UInt8)→Bool→(List Int)→Option (LR ((List UInt8)×Bool×(List Int)) ((List Int)×(List UInt8)×Bool))
  | 0,_,_,_,_=>none
  | k7+1,s3,s4,s5,s6=>(bif decide (s3<((((List.replicate v1_n.toNat 0:List Int)).length:Nat):Int)) then ((m_pack_reader_next n s4 s5).bind fun y16=>((idx s6 s3).bind fun x18=>(pack_reader_row_L0 n v1_n k7 (IntKind.i64.wrap (s3+1)) y16.2.1 y16.2.2 (List.set s6 s3.toNat y16.1)))) else (some (.out (s4,s5,s6))))
def m_pack_reader_row:Nat→Int→(List UInt8)→Bool→Option ((List Int)×(List UInt8)×Bool)
  | 0,_,_,_=>none
  | n+1,v1_n,r_s,r_bad=>(bif (decide (0≤v1_n)&&decide ((8:Int) * v1_n≤140737488355328)) then ((pack_reader_row_L0 n v1_n n 0 r_s r_bad (List.replicate v1_n.toNat 0:List Int)).bind fun o14=>match o14 with|.out (x21,x22,x23)=>(some (x23,x21,x22))|.ret v=>some v) else none)

def pack_reader_thread_L0 (n:Nat)  (y11:(Int×(List UInt8)×Bool)):Nat→Int→(List UInt8)→Bool→(List EntryS)→Option (LR ((List UInt8)×Bool×(List EntryS)) ((List UInt8)×Bool×(List Int)×(List (List Int))×(List (List EntryS))))
  | 0,_,_,_,_=>none
  | k17+1,s13,s14,s15,s16=>(bif decide (s13<y11.1) then ((m_pack_reader_next n s14 s15).bind fun y26=>((m_pack_reader_next n y26.2.1 y26.2.2).bind fun y28=>(bif decide ((s16.length+1) * 17≤140737488355328) then (pack_reader_thread_L0 n y11 k17 (IntKind.i64.wrap (s13+1)) y28.2.1 y28.2.2 (s16++([(⟨y26.1,y28.1⟩:EntryS)]:List EntryS))) else none))) else (some (.out (s14,s15,s16))))
def m_pack_reader_thread:Nat→Int→(List UInt8)→Bool→(List Int)→(List (List Int))→(List Int)→(List (List EntryS))→Option ((List UInt8)×Bool×(List Int)×(List (List Int))×(List (List EntryS)))
  | 0,_,_,_,_,_,_,_=>none
  | n+1,v2_regs,r_s,r_bad,c_Pc,c_Regs,c_Mem,c_Buf=>((m_pack_reader_next n r_s r_bad).bind fun y1=>((m_pack_reader_next n y1.2.1 y1.2.2).bind fun y3=>(bif decide ((c_Pc.length+1) * 9≤140737488355328) then ((m_pack_reader_row n v2_regs y3.2.1 y3.2.2).bind fun y7=>(bif decide ((c_Regs.length+1) * 25≤140737488355328) then ((m_pack_reader_next n y7.2.1 y7.2.2).bind fun y11=>((pack_reader_thread_L0 n y11 n 0 y11.2.1 y11.2.2 ([]:List EntryS)).bind fun o24=>match o24 with|.out (x33,x34,x35)=>(bif decide ((c_Buf.length+1) * 25≤140737488355328) then (some (x33,x34,(c_Pc++([IntKind.i64.wrap ((IntKind.i64.wrap (256 * y1.1))+y3.1)]:List Int)),(c_Regs++([y7.1]:List (List Int))),(c_Buf++([x35]:List (List EntryS))))) else none)|.ret v=>some v)) else none)) else none)))

def pack_Decode_L0 (n:Nat)  (v0_u:UnitS):Nat→Int→(List UInt8)→Bool→(List Int)→(List (List Int))→(List (List EntryS))→Option (LR ((List UInt8)×Bool×(List Int)×(List (List Int))×(List (List EntryS))) (ConfS×Int))
  | 0,_,_,_,_,_,_=>none
  | k10+1,s4,s5,s6,s7,s8,s9=>(bif decide (s4<(((v0_u.regs).length:Nat):Int)) then ((idx v0_u.regs s4).bind fun x19=>((m_pack_reader_thread n x19 s5 s6 s7 s8 ([]:List Int) s9).bind fun y20=>(pack_Decode_L0 n v0_u k10 (IntKind.i64.wrap (s4+1)) y20.1 y20.2.1 y20.2.2.1 y20.2.2.2.1 y20.2.2.2.2))) else (some (.out (s5,s6,s7,s8,s9))))
def m_pack_Decode:Nat→UnitS→(List UInt8)→Int→Int→Option (ConfS×Int)
  | 0,_,_,_,_=>none
  | n+1,v0_u,v1_s,v2_model,v3_room=>((m_conf_Start n v0_u).bind fun y1=>(bif (y1.2 != 0) then (some ((⟨([]:List Int),([]:List (List Int)),([]:List Int),([]:List (List EntryS))⟩:ConfS),8)) else ((pack_Decode_L0 n v0_u n 0 v1_s false ([]:List Int) ([]:List (List Int)) ([]:List (List EntryS))).bind fun o17=>match o17 with|.out (x23,x24,x25,x26,x27)=>((m_pack_reader_row n (((v0_u.init).length:Nat):Int) x23 x24).bind fun y28=>(bif y28.2.2 then (some ((⟨([]:List Int),([]:List (List Int)),([]:List Int),([]:List (List EntryS))⟩:ConfS),8)) else (bif (y28.2.1==([]:List UInt8)) then ((m_conf_Right n v0_u (⟨x25,x26,y28.1,x27⟩:ConfS) v2_model v3_room).bind fun y32=>(bif y32 then (some ((⟨x25,x26,y28.1,x27⟩:ConfS),0)) else (some ((⟨([]:List Int),([]:List (List Int)),([]:List Int),([]:List (List EntryS))⟩:ConfS),8)))) else (some ((⟨([]:List Int),([]:List (List Int)),([]:List Int),([]:List (List EntryS))⟩:ConfS),8)))))|.ret v=>some v)))

end Go.Proofs.Ytejkhpgahnncnaa
end

section
namespace Go.Proofs.Ytejkhpgahnncnaa
set_option linter.unusedVariables false
set_option linter.unusedSimpArgs false

theorem idx_get {α : Type} {l : List α} {i : Nat} (h : i < l.length) : idx l (i : Int) = some l[i] := by rw [idx_nat, List.getElem?_eq_getElem h]
theorem wrap_one (k : Nat) (h : k < 4611686018427387904) : IntKind.i64.wrap ((k : Int) + 1) = ((k + 1 : Nat) : Int) := wrap_succ k (by omega)
theorem range_step {p : Nat → Bool} {i n : Nat} : (List.range' i (n + 1)).all p = (p i && (List.range' (i + 1) n).all p) := by
  rw [List.range'_succ, List.all_cons]
/-- A loop that looks for something that is not so. -/
theorem all_loop {L : Nat → Int → Option (LR Unit Bool)} (len : Nat) (p : Nat → Bool) (h1 : ∀ k i, i < len → L (k + 1) (i : Int) = bif p i then L k ((i + 1 : Nat) : Int) else some (.ret false)) (h2 : ∀ k, L (k + 1) (len : Int) = some (.out ())) : ∀ (m k i : Nat), i + m = len → m < k → L k (i : Int) = some (bif (List.range' i m).all p then .out () else .ret false) := by
  intro m
  induction m with
  | zero =>
    intro k i hi hk
    obtain ⟨k, rfl⟩ : ∃ j, k = j + 1 := ⟨k - 1, by omega⟩
    have : i = len := by omega
    subst this
    rw [h2]; rfl
  | succ m ih =>
    intro k i hi hk
    obtain ⟨k, rfl⟩ : ∃ j, k = j + 1 := ⟨k - 1, by omega⟩
    rw [h1 k i (by omega), range_step, ih k (i + 1) (by omega) (by omega)]
    cases p i <;> rfl
theorem all_loop0 {L : Nat → Int → Option (LR Unit Bool)} (len : Nat) (p : Nat → Bool) (h1 : ∀ k i, i < len → L (k + 1) (i : Int) = bif p i then L k ((i + 1 : Nat) : Int) else some (.ret false)) (h2 : ∀ k, L (k + 1) (len : Int) = some (.out ())) {k : Nat} (hk : len < k) : L k 0 = some (bif (List.range' 0 len).all p then .out () else .ret false) :=
  all_loop len p h1 h2 len k 0 (by omega) hk
theorem all_range_true {p : Nat → Bool} {m : Nat} (h : ∀ i, i < m → p i = true) : (List.range' 0 m).all p = true := by
  rw [List.all_eq_true]; intro i hi; exact h i (by simpa using hi)
theorem of_all_range {p : Nat → Bool} {m : Nat} (h : (List.range' 0 m).all p = true) {i : Nat} (hi : i < m) : p i = true := by
  rw [List.all_eq_true] at h; exact h i (by simpa using hi)
theorem bif_decide {α : Type} {p : Prop} [Decidable p] (h : p) (a b : α) : (bif decide p then a else b) = a := by rw [decide_eq_true h]; rfl
theorem bif_not {α : Type} {p : Prop} [Decidable p] (h : ¬ p) (a b : α) : (bif decide p then a else b) = b := by rw [decide_eq_false h]; rfl
theorem natEq (a b : Nat) : ((a : Int) == (b : Int)) = (a == b) := by
  by_cases h : a = b
  · subst h; simp
  · have : ¬ (a : Int) = (b : Int) := by omega
    rw [beq_eq_false_iff_ne.2 h, beq_eq_false_iff_ne.2 this]
theorem natEq0 (a : Nat) : ((a : Int) == 0) = (a == 0) := natEq a 0
theorem natNe (a b : Nat) : ((a : Int) != (b : Int)) = !(a == b) := by rw [← natEq]; rfl
end Go.Proofs.Ytejkhpgahnncnaa
end

section
namespace Go.Proofs.Ytejkhpgahnncnaa
set_option linter.unusedVariables false
set_option linter.unusedSimpArgs false

/-- How many entries of a location stand from a place on. -/
def cntB (b : List EntryS) (loc : Int) : Nat := (b.filter fun x => x.loc == loc).length
theorem cnt_L (n : Nat) (b : List EntryS) (loc : Int) : ∀ (m k i c : Nat), i + m = b.length → m < k → b.length < 1000000 → m + c < 1000001 → store_count_L0 n b loc k (c : Int) (i : Int) = some (.out ((c + cntB (b.drop i) loc : Nat) : Int)) := by
  intro m
  induction m with
  | zero =>
    intro k i c hi hk hb hc
    obtain ⟨k, rfl⟩ : ∃ j, k = j + 1 := ⟨k - 1, by omega⟩
    have hd : b.drop i = [] := List.drop_of_length_le (by omega)
    have hge : ¬ ((i : Int) < (b.length : Int)) := by omega
    rw [store_count_L0, bif_not hge, hd]
    rfl
  | succ m ih =>
    intro k i c hi hk hb hc
    obtain ⟨k, rfl⟩ : ∃ j, k = j + 1 := ⟨k - 1, by omega⟩
    have hlt : i < b.length := by omega
    have hlt' : (i : Int) < (b.length : Int) := by omega
    rw [store_count_L0, bif_decide hlt', idx_get hlt, List.drop_eq_getElem_cons hlt]
    have w1 := wrap_one i (by omega)
    have w2 := wrap_one c (by omega)
    simp only [Option.bind_some, w1, w2]
    cases hx : (b[i].loc == loc) with
    | true => simp only [cond_true]; rw [ih k (i + 1) (c + 1) (by omega) (by omega) hb (by omega)]; simp only [cntB, List.filter_cons, hx, if_true, List.length_cons]; congr 2; omega
    | false => simp only [cond_false]; rw [ih k (i + 1) c (by omega) (by omega) hb (by omega)]; simp only [cntB, List.filter_cons, hx, Bool.false_eq_true, if_false]
theorem cnt_m (n : Nat) (b : List EntryS) (loc : Int) (h : b.length + 2 < n) (hb : b.length < 1000000) : m_store_count n b loc = some (cntB b loc : Int) := by
  obtain ⟨n, rfl⟩ : ∃ j, n = j + 1 := ⟨n - 1, by omega⟩
  have := cnt_L n b loc b.length n 0 0 (by omega) (by omega) hb (by omega)
  rw [m_store_count, show (0 : Int) = ((0 : Nat) : Int) from rfl, this]
  simp
theorem cnt_same (n : Nat) (b : List EntryS) (loc : Int) : ∀ (k : Nat) (i c : Int), ref08_count_L0 n b loc k c i = store_count_L0 n b loc k c i := by
  intro k
  induction k with
  | zero => intro i c; rfl
  | succ k ih => intro i c; simp only [ref08_count_L0, store_count_L0, ih]
theorem cnt_ref (n : Nat) (b : List EntryS) (loc : Int) : m_ref08_count n b loc = m_store_count n b loc := by
  cases n with
  | zero => rfl
  | succ n => simp only [m_ref08_count, m_store_count, cnt_same]

/-- Is an entry right, at its place? -/
def entOk (b : List EntryS) (model room mod locs : Int) (i : Nat) : Bool := match b[i]? with
  | none => false
  | some x => !decide (x.loc < 0) && !decide (locs ≤ x.loc) && !decide (x.n < 0) && !decide (mod ≤ x.n) && (!(model == 3) || ((!decide (0 < i) || match b[i - 1]? with | some y => !decide (x.loc < y.loc) | none => false) && !decide (room < (cntB b x.loc : Int))))
def entsOk (b : List EntryS) (model room mod locs : Int) : Bool := (List.range' 0 b.length).all (entOk b model room mod locs)
def endOk (b : List EntryS) (model room : Int) : Bool := if model = 1 then b.length == 0 else if model = 2 then decide ((b.length : Int) ≤ room) else decide (model = 3)
def numsOk (room mod : Int) : Bool := !decide (room < 1) && !decide (4 < room) && !decide (mod < 2) && !decide (16 < mod)
def bufOk (b : List EntryS) (model room mod locs : Int) : Bool := numsOk room mod && entsOk b model room mod locs && endOk b model room

theorem sright_L (n : Nat) (b : List EntryS) (model room mod locs : Int) (hn : b.length + 3 < n) (hb : b.length < 1000000) {k : Nat} (hk : b.length < k) : store_Right_L0 n b model room mod locs k 0 = some (bif entsOk b model room mod locs then .out () else .ret false) := by
  refine all_loop0 (L := fun k i => store_Right_L0 n b model room mod locs k i) b.length _ (fun k i hi => ?_) (fun k => ?_) hk
  · have hlen : (i : Int) < (b.length : Int) := by omega
    have hw := wrap_one i (by omega)
    simp only [store_Right_L0, bif_decide hlen, idx_get hi, Option.bind_some, hw, entOk, List.getElem?_eq_getElem hi, cnt_m n b _ (by omega) hb]
    by_cases h0 : 0 < i
    · have hp := wrap_pred i h0 (by omega)
      have h0' : (0 : Int) < (i : Int) := by omega
      simp only [hp, idx_get (show i - 1 < b.length by omega), List.getElem?_eq_getElem (show i - 1 < b.length by omega), Option.bind_some, decide_eq_true h0, decide_eq_true h0']
      cases decide (b[i].loc < 0) <;> cases decide (locs ≤ b[i].loc) <;> cases decide (b[i].n < 0) <;> cases decide (mod ≤ b[i].n) <;> cases (model == 3) <;> cases decide (b[i].loc < b[i - 1].loc) <;> cases decide (room < (cntB b b[i].loc : Int)) <;> rfl
    · have h0' : ¬ (0 : Int) < (i : Int) := by omega
      simp only [decide_eq_false h0, decide_eq_false h0']
      cases decide (b[i].loc < 0) <;> cases decide (locs ≤ b[i].loc) <;> cases decide (b[i].n < 0) <;> cases decide (mod ≤ b[i].n) <;> cases (model == 3) <;> cases decide (room < (cntB b b[i].loc : Int)) <;> rfl
  · simp only [store_Right_L0, bif_not (Int.lt_irrefl _)]
theorem sright_m (n : Nat) (b : List EntryS) (model room mod locs : Int) (hn : b.length + 4 < n) (hb : b.length < 1000000) : m_store_Right n b model room mod locs = some (bufOk b model room mod locs) := by
  obtain ⟨n, rfl⟩ : ∃ j, n = j + 1 := ⟨n - 1, by omega⟩
  simp only [m_store_Right, sright_L n b model room mod locs (by omega) hb (by omega : b.length < n), bufOk, numsOk, Option.bind_some]
  cases decide (room < 1) <;> try rfl
  cases decide (4 < room) <;> try rfl
  cases decide (mod < 2) <;> try rfl
  cases decide (16 < mod) <;> try rfl
  cases entsOk b model room mod locs <;> try rfl
  simp only [cond_false, cond_true, endOk]
  by_cases h1 : model = 1
  · subst h1; simp [natEq0]
  · have e1 : (model == 1) = false := beq_eq_false_iff_ne.2 h1
    rw [e1, if_neg h1]
    by_cases h2 : model = 2
    · subst h2; simp
    · have e2 : (model == 2) = false := beq_eq_false_iff_ne.2 h2
      rw [e2, if_neg h2]
      by_cases h3 : model = 3
      · subst h3; simp
      · have e3 : (model == 3) = false := beq_eq_false_iff_ne.2 h3
        rw [e3, decide_eq_false h3]; rfl
theorem rright_L (n : Nat) (b : List EntryS) (model room mod locs : Int) (hn : b.length + 3 < n) (hb : b.length < 1000000) {k : Nat} (hk : b.length < k) : ref08_Right_L0 n b model room mod locs k 0 = some (bif entsOk b model room mod locs then .out () else .ret false) := by
  refine all_loop0 (L := fun k i => ref08_Right_L0 n b model room mod locs k i) b.length _ (fun k i hi => ?_) (fun k => ?_) hk
  · have hlen : (i : Int) < (b.length : Int) := by omega
    have hw := wrap_one i (by omega)
    simp only [ref08_Right_L0, bif_decide hlen, idx_get hi, Option.bind_some, hw, entOk, List.getElem?_eq_getElem hi, cnt_ref, cnt_m n b _ (by omega) hb]
    by_cases h0 : 0 < i
    · have hp := wrap_pred i h0 (by omega)
      have h0' : (0 : Int) < (i : Int) := by omega
      simp only [hp, idx_get (show i - 1 < b.length by omega), List.getElem?_eq_getElem (show i - 1 < b.length by omega), Option.bind_some, decide_eq_true h0, decide_eq_true h0']
      cases decide (b[i].loc < 0) <;> cases decide (locs ≤ b[i].loc) <;> cases decide (b[i].n < 0) <;> cases decide (mod ≤ b[i].n) <;> cases (model == 3) <;> cases decide (b[i].loc < b[i - 1].loc) <;> cases decide (room < (cntB b b[i].loc : Int)) <;> rfl
    · have h0' : ¬ (0 : Int) < (i : Int) := by omega
      simp only [decide_eq_false h0, decide_eq_false h0']
      cases decide (b[i].loc < 0) <;> cases decide (locs ≤ b[i].loc) <;> cases decide (b[i].n < 0) <;> cases decide (mod ≤ b[i].n) <;> cases (model == 3) <;> cases decide (room < (cntB b b[i].loc : Int)) <;> rfl
  · simp only [ref08_Right_L0, bif_not (Int.lt_irrefl _)]
/-- The document's way to say it. -/
theorem rright_m (n : Nat) (b : List EntryS) (model room mod locs : Int) (hn : b.length + 4 < n) (hb : b.length < 1000000) : m_ref08_Right n b model room mod locs = some (bufOk b model room mod locs) := by
  obtain ⟨n, rfl⟩ : ∃ j, n = j + 1 := ⟨n - 1, by omega⟩
  simp only [m_ref08_Right, rright_L n b model room mod locs (by omega) hb (by omega : b.length < n), Option.bind_some]
  by_cases hm : 1 ≤ model ∧ model ≤ 3
  · rw [bif_not (by omega), bif_not (by omega)]
    simp only [bufOk, numsOk]
    by_cases hr1 : room < 1
    · rw [bif_decide hr1, decide_eq_true hr1]; rfl
    rw [bif_not hr1, decide_eq_false hr1]
    cases decide (4 < room) <;> try rfl
    cases decide (mod < 2) <;> try rfl
    cases decide (16 < mod) <;> try rfl
    cases entsOk b model room mod locs <;> try rfl
    simp only [cond_false, cond_true, endOk]
    have : model = 1 ∨ model = 2 ∨ model = 3 := by omega
    rcases this with rfl | rfl | rfl
    · simp [natEq0]
    · by_cases hl : (b.length : Int) ≤ room
      · simp [hl]
      · have e0 : (b.length == 0) = false := beq_eq_false_iff_ne.2 (by omega)
        simp only [natEq0, e0, decide_eq_false hl]; rfl
    · simp
  · have : bufOk b model room mod locs = false := by
      have : endOk b model room = false := by
        unfold endOk
        rw [if_neg (by omega), if_neg (by omega)]
        exact decide_eq_false (by omega)
      rw [bufOk, this, Bool.and_false]
    rw [this]
    by_cases h1 : model < 1
    · rw [bif_decide h1]
    · rw [bif_not h1, bif_decide (by omega)]
theorem bufOk_nil {b : List EntryS} {model room mod locs : Int} (h : bufOk b model room mod locs = true) : bufOk [] model room mod locs = true := by
  simp only [bufOk, Bool.and_eq_true] at h ⊢
  refine ⟨⟨h.1.1, rfl⟩, ?_⟩
  have h2 := h.2
  have h1 := h.1.1
  simp only [numsOk, Bool.and_eq_true, Bool.not_eq_true', decide_eq_false_iff_not] at h1
  unfold endOk at h2 ⊢
  split
  · rfl
  · split
    · have : (0 : Int) ≤ room := by omega
      simpa using this
    · rename_i g1 g2
      rw [if_neg g1, if_neg g2] at h2; exact h2
end Go.Proofs.Ytejkhpgahnncnaa
end

section
namespace Go.Proofs.Ytejkhpgahnncnaa
set_option linter.unusedVariables false
set_option linter.unusedSimpArgs false

def numOk (l : List Int) (mod : Int) (i : Nat) : Bool := match l[i]? with
  | none => false
  | some x => !decide (x < 0) && !decide (mod ≤ x)
def allB (l : List Int) (mod : Int) : Bool := (List.range' 0 l.length).all (numOk l mod)
theorem below_m (n : Nat) (l : List Int) (mod many : Int) (hn : l.length + 2 < n) (hl : l.length < 1000000) : m_conf_below n l mod many = some (allB l mod && ((l.length : Int) == many)) := by
  obtain ⟨n, rfl⟩ : ∃ j, n = j + 1 := ⟨n - 1, by omega⟩
  have : conf_below_L0 n l mod n 0 = some (bif allB l mod then .out () else .ret false) := by
    refine all_loop0 (L := fun k i => conf_below_L0 n l mod k i) l.length _ (fun k i hi => ?_) (fun k => ?_) (by omega)
    · have hlen : (i : Int) < (l.length : Int) := by omega
      simp only [conf_below_L0, bif_decide hlen, idx_get hi, Option.bind_some, wrap_one i (by omega), numOk, List.getElem?_eq_getElem hi]
      cases decide (l[i] < 0) <;> cases decide (mod ≤ l[i]) <;> rfl
    · simp only [conf_below_L0, bif_not (Int.lt_irrefl _)]
  simp only [m_conf_below, this, Option.bind_some]
  cases allB l mod <;> rfl
theorem in_m (n : Nat) (x mod : Int) : m_ref06_in (n + 1) x mod = some (!decide (x < 0) && !decide (mod ≤ x)) := by
  simp only [m_ref06_in]
  by_cases h : 0 ≤ x
  · rw [bif_decide h, decide_eq_false (show ¬ x < 0 by omega)]
    by_cases h2 : x < mod
    · rw [decide_eq_true h2, decide_eq_false (show ¬ mod ≤ x by omega)]; rfl
    · rw [decide_eq_false h2, decide_eq_true (show mod ≤ x by omega)]; rfl
  · rw [bif_not h, decide_eq_true (show x < 0 by omega)]; rfl
theorem all_m (n : Nat) (l : List Int) (mod : Int) (hn : l.length + 3 < n) (hl : l.length < 1000000) : m_ref06_All n l mod = some (allB l mod) := by
  obtain ⟨n, rfl⟩ : ∃ j, n = j + 2 := ⟨n - 2, by omega⟩
  have : ref06_All_L0 (n + 1) l mod (n + 1) 0 = some (bif allB l mod then .out () else .ret false) := by
    refine all_loop0 (L := fun k i => ref06_All_L0 (n + 1) l mod k i) l.length _ (fun k i hi => ?_) (fun k => ?_) (by omega)
    · have hlen : (i : Int) < (l.length : Int) := by omega
      simp only [ref06_All_L0, bif_decide hlen, idx_get hi, Option.bind_some, in_m, wrap_one i (by omega), numOk, List.getElem?_eq_getElem hi]
    · simp only [ref06_All_L0, bif_not (Int.lt_irrefl _)]
  simp only [m_ref06_All, this, Option.bind_some]
  cases allB l mod <;> rfl

/-- Is a thread's state right? -/
def thrOk (u : UnitS) (c : ConfS) (model room : Int) (i : Nat) : Bool := match c.pc[i]?, u.code[i]?, c.regs[i]?, u.regs[i]?, c.buf[i]? with
  | some pc, some code, some r, some m, some b => !decide (pc < 0) && !decide ((code.length : Int) ≤ pc) && (allB r u.mod && ((r.length : Int) == m)) && bufOk b model room u.mod u.init.length
  | _, _, _, _, _ => false
def confOk (u : UnitS) (c : ConfS) (model room : Int) : Bool :=
  (allB c.mem u.mod && c.mem.length == u.init.length) && c.pc.length == u.regs.length && c.regs.length == u.regs.length && c.buf.length == u.regs.length && (List.range' 0 u.regs.length).all (thrOk u c model room)
/-- A configuration whose lists are short. -/
structure LightC (c : ConfS) : Prop where
  pc : c.pc.length ≤ 8
  mem : c.mem.length ≤ 20
  regsN : c.regs.length ≤ 8
  bufN : c.buf.length ≤ 8
  regs : ∀ i (h : i < c.regs.length), c.regs[i].length ≤ 20
  buf : ∀ i (h : i < c.buf.length), c.buf[i].length ≤ 300
theorem rightU_len {u : UnitS} (h : rightU u = true) : u.code.length = u.regs.length ∧ 1 ≤ u.regs.length ∧ u.regs.length ≤ 4 ∧ u.init.length ≤ 6 := by
  simp only [rightU, headOk, Bool.and_eq_true, decide_eq_true_eq] at h
  omega
theorem cright_m (n : Nat) (u : UnitS) (c : ConfS) (model room : Int) (hl : LightC c) (hn : 400 < n) : m_conf_Right n u c model room = some (rightU u && confOk u c model room) := by
  obtain ⟨n, rfl⟩ : ∃ j, n = j + 2 := ⟨n - 2, by omega⟩
  simp only [m_conf_Right, m_lower_Right, Option.bind_some]
  cases hr : rightU u with
  | false => rfl
  | true =>
  obtain ⟨u1, u2, u3, u4⟩ := rightU_len hr
  simp only [cond_true, below_m (n + 1) c.mem u.mod _ (by have := hl.mem; omega) (by have := hl.mem; omega), Option.bind_some, natEq, natNe, confOk, Bool.true_and]
  cases allB c.mem u.mod && c.mem.length == u.init.length with
  | false => rfl
  | true =>
  cases h1 : c.pc.length == u.regs.length with
  | false => rfl
  | true =>
  cases h2 : c.regs.length == u.regs.length with
  | false => rfl
  | true =>
  cases h3 : c.buf.length == u.regs.length with
  | false => rfl
  | true =>
  have h1 := eq_of_beq h1
  have h2 := eq_of_beq h2
  have h3 := eq_of_beq h3
  have hL : conf_Right_L0 (n + 1) u c model room (n + 1) 0 = some (bif (List.range' 0 u.regs.length).all (thrOk u c model room) then .out () else .ret false) := by
    refine all_loop0 (L := fun k i => conf_Right_L0 (n + 1) u c model room k i) u.regs.length _ (fun k i hi => ?_) (fun k => ?_) (by omega)
    · have hlen : (i : Int) < (c.pc.length : Int) := by omega
      have i1 : i < c.pc.length := by omega
      have i2 : i < u.code.length := by omega
      have i3 : i < c.regs.length := by omega
      have i4 : i < c.buf.length := by omega
      have k1 := hl.regs i i3
      have k2 := hl.buf i i4
      simp only [conf_Right_L0, bif_decide hlen, idx_get i1, idx_get i2, idx_get i3, idx_get i4, idx_get hi, Option.bind_some, wrap_one i (by omega), thrOk, List.getElem?_eq_getElem i1, List.getElem?_eq_getElem i2, List.getElem?_eq_getElem i3, List.getElem?_eq_getElem i4, List.getElem?_eq_getElem hi, below_m (n + 1) c.regs[i] u.mod _ (by omega) (by omega), sright_m (n + 1) c.buf[i] model room u.mod _ (by omega) (by omega)]
      cases decide (c.pc[i] < 0) <;> cases decide ((u.code[i].length : Int) ≤ c.pc[i]) <;> cases (allB c.regs[i] u.mod && ((c.regs[i].length : Int) == u.regs[i])) <;> cases bufOk c.buf[i] model room u.mod u.init.length <;> rfl
    · have : ¬ (u.regs.length : Int) < (c.pc.length : Int) := by omega
      simp only [conf_Right_L0, bif_not this]
  simp only [cond_true, Bool.not_true, cond_false, hL, Option.bind_some, Bool.and_true, Bool.true_and]
  cases (List.range' 0 u.regs.length).all (thrOk u c model room) <;> rfl
theorem rright9_m (n : Nat) (u : UnitS) (c : ConfS) (model room : Int) (hl : LightC c) (hn : 400 < n) : m_ref09_Right n u c model room = some (rightU u && confOk u c model room) := by
  obtain ⟨n, rfl⟩ : ∃ j, n = j + 2 := ⟨n - 2, by omega⟩
  simp only [m_ref09_Right, m_ref07_Right, Option.bind_some]
  cases hr : rightU u with
  | false => rfl
  | true =>
  obtain ⟨u1, u2, u3, u4⟩ := rightU_len hr
  simp only [cond_true, natEq, natNe, confOk, Bool.true_and]
  cases h1 : c.pc.length == u.regs.length with
  | false => simp
  | true =>
  cases h2 : c.regs.length == u.regs.length with
  | false => simp
  | true =>
  cases h3 : c.buf.length == u.regs.length with
  | false => simp
  | true =>
  cases h4 : c.mem.length == u.init.length with
  | false => simp
  | true =>
  have h1 := eq_of_beq h1
  have h2 := eq_of_beq h2
  have h3 := eq_of_beq h3
  have hL : ref09_Right_L0 (n + 1) u c model room (n + 1) 0 = some (bif (List.range' 0 u.regs.length).all (thrOk u c model room) then .out () else .ret false) := by
    refine all_loop0 (L := fun k i => ref09_Right_L0 (n + 1) u c model room k i) u.regs.length _ (fun k i hi => ?_) (fun k => ?_) (by omega)
    · have hlen : (i : Int) < (u.regs.length : Int) := by omega
      have i1 : i < c.pc.length := by omega
      have i2 : i < u.code.length := by omega
      have i3 : i < c.regs.length := by omega
      have i4 : i < c.buf.length := by omega
      have k1 := hl.regs i i3
      have k2 := hl.buf i i4
      simp only [ref09_Right_L0, bif_decide hlen, idx_get i1, idx_get i2, idx_get i3, idx_get i4, idx_get hi, Option.bind_some, wrap_one i (by omega), thrOk, List.getElem?_eq_getElem i1, List.getElem?_eq_getElem i2, List.getElem?_eq_getElem i3, List.getElem?_eq_getElem i4, List.getElem?_eq_getElem hi, all_m (n + 1) c.regs[i] u.mod (by omega) (by omega), rright_m (n + 1) c.buf[i] model room u.mod _ (by omega) (by omega), bne]
      cases decide (c.pc[i] < 0) <;> cases decide ((u.code[i].length : Int) ≤ c.pc[i]) <;> cases allB c.regs[i] u.mod <;> cases ((c.regs[i].length : Int) == u.regs[i]) <;> cases bufOk c.buf[i] model room u.mod u.init.length <;> rfl
    · simp only [ref09_Right_L0, bif_not (Int.lt_irrefl _)]
  simp only [cond_true, Bool.not_true, cond_false, hL, Option.bind_some, Bool.and_true, Bool.true_and, all_m (n + 1) c.mem u.mod (by have := hl.mem; omega) (by have := hl.mem; omega)]
  cases allB c.mem u.mod with
  | false => rfl
  | true =>
  cases ha : (List.range' 0 u.regs.length).all (thrOk u c model room) with
  | false => rfl
  | true =>
    have h0 := of_all_range ha (i := 0) (by omega)
    have hb : bufOk [] model room u.mod u.init.length = true := by
      unfold thrOk at h0
      split at h0
      · simp only [Bool.and_eq_true] at h0
        exact bufOk_nil h0.2
      · cases h0
    simp only [cond_true, Bool.and_self]
    rw [rright_m (n + 1) [] model room u.mod _ (by simp; omega) (by simp), hb]
    rfl
/-- Where a unit begins. -/
def startC (u : UnitS) : ConfS := ⟨List.replicate u.regs.length 0, u.regs.map fun r => List.replicate r.toNat 0, u.init, List.replicate u.regs.length []⟩
theorem own_m (n : Nat) (l : List Int) (h : l.length ≤ 1000000) : m_conf_own_int (n + 1) l = some l := by
  simp only [m_conf_own_int, bif_decide (show l.length * 9 ≤ 140737488355328 by omega)]
  cases l with
  | nil => rfl
  | cons a l => rfl
theorem rightU_thread {u : UnitS} (h : rightU u = true) (i : Nat) (hi : i < u.regs.length) (hc : i < u.code.length) : (0 ≤ u.regs[i] ∧ u.regs[i] ≤ 6) ∧ rowOk u.code[i] u.regs[i] u.init.length = true := by
  simp only [rightU, Bool.and_eq_true, List.all_eq_true] at h
  have := h.2 i (by simpa using hi)
  rw [threadOk_of hi hc, Bool.and_eq_true, decide_eq_true_eq] at this
  exact this
theorem start_L (n : Nat) (u : UnitS) (hr : ∀ i (h : i < u.regs.length), 0 ≤ u.regs[i] ∧ u.regs[i] ≤ 6) (hN : u.regs.length ≤ 4) : ∀ (m k i : Nat) (acc : List (List Int)), i + m = u.regs.length → m < k → acc.length = i → conf_Start_L0 n u k (i : Int) acc = some (.out (acc ++ (u.regs.drop i).map fun r => List.replicate r.toNat 0)) := by
  intro m
  induction m with
  | zero =>
    intro k i acc hi hk ha
    obtain ⟨k, rfl⟩ : ∃ j, k = j + 1 := ⟨k - 1, by omega⟩
    have hd : u.regs.drop i = [] := List.drop_of_length_le (by omega)
    have hge : ¬ ((i : Int) < (u.regs.length : Int)) := by omega
    rw [conf_Start_L0, bif_not hge, hd]
    simp
  | succ m ih =>
    intro k i acc hi hk ha
    obtain ⟨k, rfl⟩ : ∃ j, k = j + 1 := ⟨k - 1, by omega⟩
    have hlt : i < u.regs.length := by omega
    have hlt' : (i : Int) < (u.regs.length : Int) := by omega
    have hx := hr i hlt
    have c1 : (decide (0 ≤ u.regs[i]) && decide ((8 : Int) * u.regs[i] ≤ 140737488355328)) = true := by
      rw [decide_eq_true hx.1, decide_eq_true (by omega)]; rfl
    have c2 : (acc.length + 1) * 25 ≤ 140737488355328 := by omega
    rw [conf_Start_L0, bif_decide hlt', idx_get hlt, List.drop_eq_getElem_cons hlt]
    have w1 := wrap_one i (by omega)
    simp only [Option.bind_some, c1, cond_true, bif_decide c2, w1]
    rw [ih k (i + 1) _ (by omega) (by omega) (by simp [ha])]
    simp only [List.map_cons, List.append_assoc, List.cons_append, List.nil_append]
theorem start_m (n : Nat) (u : UnitS) (h : rightU u = true) (hn : 20 < n) : m_conf_Start n u = some (startC u, 0) := by
  obtain ⟨n, rfl⟩ : ∃ j, n = j + 2 := ⟨n - 2, by omega⟩
  obtain ⟨u1, u2, u3, u4⟩ := rightU_len h
  have hr : ∀ i (h : i < u.regs.length), 0 ≤ u.regs[i] ∧ u.regs[i] ≤ 6 := fun i hi => (rightU_thread h i hi (by omega)).1
  have c1 : (decide (0 ≤ (u.regs.length : Int)) && decide ((8 : Int) * (u.regs.length : Int) ≤ 140737488355328)) = true := by
    rw [decide_eq_true (by omega), decide_eq_true (by omega)]; rfl
  have c2 : (decide (0 ≤ (u.regs.length : Int)) && decide ((24 : Int) * (u.regs.length : Int) ≤ 140737488355328)) = true := by
    rw [decide_eq_true (by omega), decide_eq_true (by omega)]; rfl
  have hL := start_L (n + 1) u hr u3 u.regs.length (n + 1) 0 [] (by omega) (by omega) rfl
  have hL : conf_Start_L0 (n + 1) u (n + 1) 0 [] = _ := hL
  simp only [m_conf_Start, m_lower_Right, h, Option.bind_some, cond_true, c1, c2, own_m n u.init (by omega), hL]
  simp [startC]
end Go.Proofs.Ytejkhpgahnncnaa
end

section
namespace Go.Proofs.Ytejkhpgahnncnaa
set_option linter.unusedVariables false
set_option linter.unusedSimpArgs false

abbrev u8w (x : Int) : Int := IntKind.u8.wrap x
def hiB (pc : Int) : Int := u8w (IntKind.i64.wrap (Int.tdiv pc 256))
def loB (pc : Int) : Int := u8w (Int.tmod pc 256)
def entBy (e : EntryS) : List Int := [u8w e.loc, u8w e.n]
/-- A thread's bytes. -/
def encT (pc : Int) (r : List Int) (b : List EntryS) : List Int := [hiB pc, loB pc] ++ (r.map u8w ++ ([u8w (b.length : Int)] ++ b.flatMap entBy))
theorem encT_len (pc : Int) (r : List Int) (b : List EntryS) : (encT pc r b).length = 3 + r.length + 2 * b.length := by
  have : (b.flatMap entBy).length = 2 * b.length := by
    induction b with
    | nil => rfl
    | cons a b ih => simp only [List.flatMap_cons, List.length_append, ih, List.length_cons]; simp [entBy]; omega
  simp only [encT, List.length_append, List.length_map, this, List.length_cons, List.length_nil]; omega
/-- A configuration's threads. -/
abbrev Thr := Int × List Int × List EntryS
def thrs (c : ConfS) : List Thr := c.pc.zip (c.regs.zip c.buf)
def encTs (l : List Thr) : List Int := l.flatMap fun t => encT t.1 t.2.1 t.2.2
def encC (c : ConfS) : List Int := encTs (thrs c) ++ c.mem.map u8w
structure Even (c : ConfS) : Prop where
  r : c.regs.length = c.pc.length
  b : c.buf.length = c.pc.length
theorem Even.len {c : ConfS} (h : Even c) : (thrs c).length = c.pc.length := by
  have := h.r; have := h.b
  simp only [thrs, List.length_zip]; omega
theorem Even.at {c : ConfS} (h : Even c) {i : Nat} (hi : i < c.pc.length) : (thrs c)[i]? = some (c.pc[i], c.regs[i]'(by rw [h.r]; exact hi), c.buf[i]'(by rw [h.b]; exact hi)) := by
  have h1 := h.r; have h2 := h.b
  simp only [thrs, List.getElem?_zip_eq_some, List.getElem?_eq_getElem hi, List.getElem?_eq_getElem (show i < c.regs.length by omega), List.getElem?_eq_getElem (show i < c.buf.length by omega)]
  simp
def sumL {α : Type} (l : List (List α)) : Nat := (l.map List.length).sum
def sizeC (c : ConfS) : Nat := 3 * c.pc.length + c.mem.length + sumL c.regs + 2 * sumL c.buf
theorem zip_size : ∀ (p : List Int) (r : List (List Int)) (b : List (List EntryS)), r.length = p.length → b.length = p.length → (encTs (p.zip (r.zip b))).length = 3 * p.length + sumL r + 2 * sumL b
  | [], [], [], _, _ => rfl
  | p :: ps, r :: rs, b :: bs, h1, h2 => by
    have := zip_size ps rs bs (by simpa using h1) (by simpa using h2)
    simp only [List.zip_cons_cons, encTs, List.flatMap_cons, List.length_append, encT_len] at this ⊢
    rw [this]
    simp only [sumL, List.map_cons, List.sum_cons, List.length_cons]
    omega
  | [], r :: rs, _, h1, _ => by simp at h1
  | [], [], b :: bs, _, h2 => by simp at h2
  | p :: ps, [], _, h1, _ => by simp at h1
  | p :: ps, r :: rs, [], _, h2 => by simp at h2
theorem encC_len {c : ConfS} (h : Even c) : (encC c).length = sizeC c := by
  simp only [encC, List.length_append, List.length_map, thrs, zip_size _ _ _ h.r h.b, sizeC]; omega

theorem sumL_le {α : Type} {l : List (List α)} {k : Nat} (h : ∀ i (hi : i < l.length), l[i].length ≤ k) : sumL l ≤ k * l.length := by
  induction l with
  | nil => simp [sumL]
  | cons a l ih =>
    have h0 := h 0 (by simp)
    have := ih fun i hi => h (i + 1) (by simpa using hi)
    simp only [sumL, List.map_cons, List.sum_cons, List.length_cons, List.getElem_cons_zero] at *
    rw [Nat.mul_succ]; omega
theorem LightC.sums {c : ConfS} (h : LightC c) : sumL c.regs ≤ 160 ∧ sumL c.buf ≤ 2400 := by
  have h1 := sumL_le h.regs; have h2 := sumL_le h.buf
  have := h.regsN; have := h.bufN
  omega
end Go.Proofs.Ytejkhpgahnncnaa
end

section
namespace Go.Proofs.Ytejkhpgahnncnaa
set_option linter.unusedVariables false
set_option linter.unusedSimpArgs false

theorem thrs_drop {c : ConfS} (h : Even c) {i : Nat} (hi : i < c.pc.length) : (thrs c).drop i = (c.pc[i], c.regs[i]'(by rw [h.r]; exact hi), c.buf[i]'(by rw [h.b]; exact hi)) :: (thrs c).drop (i + 1) := by
  have hl : i < (thrs c).length := by rw [h.len]; exact hi
  rw [List.drop_eq_getElem_cons hl]
  congr 1
  have := h.at hi
  rw [List.getElem?_eq_getElem hl] at this
  exact Option.some.inj this
/-- A configuration's bytes. -/
def encB (c : ConfS) : List UInt8 := (encC c).map u8of
theorem even_of {u : UnitS} {c : ConfS} {model room : Int} (h : confOk u c model room = true) : Even c ∧ c.pc.length = u.regs.length ∧ c.mem.length = u.init.length := by
  simp only [confOk, Bool.and_eq_true, beq_iff_eq] at h
  exact ⟨⟨by omega, by omega⟩, by omega, by omega⟩
end Go.Proofs.Ytejkhpgahnncnaa
end

section
namespace Go.Proofs.Ytejkhpgahnncnaa
set_option linter.unusedVariables false
set_option linter.unusedSimpArgs false

theorem rE1 (n : Nat) (c : ConfS) (j : Nat) (hj : j < c.regs.length) (hr : c.regs[j].length ≤ 1000) : ∀ (m k i : Nat) (E : List Int), i + m = c.regs[j].length → m < k → E.length + m ≤ 1000000 →
    ref12_Encode_L1 n c (j : Int) k (i : Int) E = some (.out (E ++ (c.regs[j].drop i).map u8w)) := by
  intro m
  induction m with
  | zero =>
    intro k i E hi hk hs
    obtain ⟨k, rfl⟩ : ∃ q, k = q + 1 := ⟨k - 1, by omega⟩
    have hge : ¬ ((i : Int) < (c.regs[j].length : Int)) := by omega
    rw [ref12_Encode_L1, idx_get hj, Option.bind_some, bif_not hge, List.drop_of_length_le (by omega)]
    simp
  | succ m ih =>
    intro k i E hi hk hs
    obtain ⟨k, rfl⟩ : ∃ q, k = q + 1 := ⟨k - 1, by omega⟩
    have hlt : i < c.regs[j].length := by omega
    have hlt' : (i : Int) < (c.regs[j].length : Int) := by omega
    rw [ref12_Encode_L1, idx_get hj, Option.bind_some, bif_decide hlt', Option.bind_some, idx_get hlt, Option.bind_some, bif_decide (by omega), wrap_one i (by omega), ih k (i + 1) _ (by omega) (by omega) (by simp; omega), List.drop_eq_getElem_cons hlt, List.map_cons]
    simp only [List.append_assoc, List.cons_append, List.nil_append]
theorem rE2 (n : Nat) (c : ConfS) (j : Nat) (hj : j < c.buf.length) (hr : c.buf[j].length ≤ 1000) : ∀ (m k i : Nat) (E : List Int), i + m = c.buf[j].length → m < k → E.length + 2 * m ≤ 1000000 →
    ref12_Encode_L2 n c (j : Int) k (i : Int) E = some (.out (E ++ (c.buf[j].drop i).flatMap entBy)) := by
  intro m
  induction m with
  | zero =>
    intro k i E hi hk hs
    obtain ⟨k, rfl⟩ : ∃ q, k = q + 1 := ⟨k - 1, by omega⟩
    have hge : ¬ ((i : Int) < (c.buf[j].length : Int)) := by omega
    rw [ref12_Encode_L2, idx_get hj, Option.bind_some, bif_not hge, List.drop_of_length_le (by omega)]
    simp
  | succ m ih =>
    intro k i E hi hk hs
    obtain ⟨k, rfl⟩ : ∃ q, k = q + 1 := ⟨k - 1, by omega⟩
    have hlt : i < c.buf[j].length := by omega
    have hlt' : (i : Int) < (c.buf[j].length : Int) := by omega
    rw [ref12_Encode_L2, idx_get hj, Option.bind_some, bif_decide hlt', Option.bind_some, idx_get hlt, Option.bind_some, Option.bind_some, idx_get hlt, Option.bind_some, bif_decide (by omega), wrap_one i (by omega), ih k (i + 1) _ (by omega) (by omega) (by simp; omega), List.drop_eq_getElem_cons hlt, List.flatMap_cons]
    simp only [entBy, List.append_assoc, List.cons_append, List.nil_append]
theorem rE3 (n : Nat) (c : ConfS) (hr : c.mem.length ≤ 1000) : ∀ (m k i : Nat) (E : List Int), i + m = c.mem.length → m < k → E.length + m ≤ 1000000 →
    ref12_Encode_L3 n c k (i : Int) E = some (.out (E ++ (c.mem.drop i).map u8w)) := by
  intro m
  induction m with
  | zero =>
    intro k i E hi hk hs
    obtain ⟨k, rfl⟩ : ∃ q, k = q + 1 := ⟨k - 1, by omega⟩
    have hge : ¬ ((i : Int) < (c.mem.length : Int)) := by omega
    rw [ref12_Encode_L3, bif_not hge, List.drop_of_length_le (by omega)]
    simp
  | succ m ih =>
    intro k i E hi hk hs
    obtain ⟨k, rfl⟩ : ∃ q, k = q + 1 := ⟨k - 1, by omega⟩
    have hlt : i < c.mem.length := by omega
    have hlt' : (i : Int) < (c.mem.length : Int) := by omega
    rw [ref12_Encode_L3, bif_decide hlt', idx_get hlt, Option.bind_some, bif_decide (by omega), wrap_one i (by omega), ih k (i + 1) _ (by omega) (by omega) (by simp; omega), List.drop_eq_getElem_cons hlt, List.map_cons]
    simp only [List.append_assoc, List.cons_append, List.nil_append]
theorem rE0 (n : Nat) (c : ConfS) (h : Even c) (hr : ∀ i (hi : i < c.regs.length), c.regs[i].length < n ∧ c.regs[i].length ≤ 1000) (hb : ∀ i (hi : i < c.buf.length), c.buf[i].length < n ∧ c.buf[i].length ≤ 1000) (hp : c.pc.length ≤ 1000) : ∀ (m k i : Nat) (E : List Int), i + m = c.pc.length → m < k → E.length + (encTs ((thrs c).drop i)).length ≤ 1000000 →
    ref12_Encode_L0 n c k (i : Int) E = some (.out (E ++ encTs ((thrs c).drop i))) := by
  intro m
  induction m with
  | zero =>
    intro k i E hi hk hs
    obtain ⟨k, rfl⟩ : ∃ j, k = j + 1 := ⟨k - 1, by omega⟩
    have hge : ¬ ((i : Int) < (c.pc.length : Int)) := by omega
    rw [ref12_Encode_L0, bif_not hge, List.drop_of_length_le (by rw [h.len]; omega)]
    simp [encTs]
  | succ m ih =>
    intro k i E hi hk hs
    obtain ⟨k, rfl⟩ : ∃ j, k = j + 1 := ⟨k - 1, by omega⟩
    have hlt : i < c.pc.length := by omega
    have hlt' : (i : Int) < (c.pc.length : Int) := by omega
    have i2 : i < c.regs.length := by rw [h.r]; exact hlt
    have i3 : i < c.buf.length := by rw [h.b]; exact hlt
    have k2 := hr i i2
    have k3 := hb i i3
    rw [thrs_drop h hlt] at hs ⊢
    have hlen : (encTs ((c.pc[i], c.regs[i], c.buf[i]) :: (thrs c).drop (i + 1))).length = 3 + c.regs[i].length + 2 * c.buf[i].length + (encTs ((thrs c).drop (i + 1))).length := by
      simp only [encTs, List.flatMap_cons, List.length_append, encT_len]
    rw [hlen] at hs
    have p2 := rE1 n c i i2 k2.2 c.regs[i].length n 0 (E ++ [hiB c.pc[i], loB c.pc[i]]) (by omega) k2.1 (by simp; omega)
    have p4 := rE2 n c i i3 k3.2 c.buf[i].length n 0 (E ++ [hiB c.pc[i], loB c.pc[i]] ++ (c.regs[i].drop 0).map u8w ++ [u8w (c.buf[i].length : Int)]) (by omega) k3.1 (by simp; omega)
    have p2 : ref12_Encode_L1 n c (i : Int) n 0 _ = _ := p2
    have p4 : ref12_Encode_L2 n c (i : Int) n 0 _ = _ := p4
    simp only [hiB, loB] at p2 p4
    rw [ref12_Encode_L0, bif_decide hlt', idx_get hlt, Option.bind_some, Option.bind_some, bif_decide (by omega)]
    simp only [p2, Option.bind_some, idx_get i3]
    rw [bif_decide (by simp; omega)]
    simp only [p4, Option.bind_some, wrap_one i (show i < 4611686018427387904 by omega)]
    have := ih k (i + 1) (E ++ [hiB c.pc[i], loB c.pc[i]] ++ (c.regs[i].drop 0).map u8w ++ [u8w (c.buf[i].length : Int)] ++ (c.buf[i].drop 0).flatMap entBy) (by omega) (by omega) (by
      have := encT_len c.pc[i] c.regs[i] c.buf[i]
      simp only [encT, List.length_append] at this
      simp only [List.drop_zero, List.length_append]
      simp only [List.length_map] at this ⊢
      simp at this ⊢
      omega)
    simp only [hiB, loB] at this
    rw [this]
    have hE : E ++ [hiB c.pc[i], loB c.pc[i]] ++ (c.regs[i].drop 0).map u8w ++ [u8w (c.buf[i].length : Int)] ++ (c.buf[i].drop 0).flatMap entBy ++ encTs ((thrs c).drop (i + 1)) = E ++ encTs ((c.pc[i], c.regs[i], c.buf[i]) :: (thrs c).drop (i + 1)) := by
      simp only [encTs, List.flatMap_cons, encT, List.drop_zero, List.append_assoc]
    simp only [hiB, loB] at hE
    rw [hE]
theorem rencode_m (n : Nat) (u : UnitS) (c : ConfS) (model room : Int) (hl : LightC c) (hn : 402 < n) : m_ref12_Encode n u c model room = some (if rightU u && confOk u c model room then (encB c, 0) else ([], 8)) := by
  obtain ⟨n, rfl⟩ : ∃ j, n = j + 2 := ⟨n - 2, by omega⟩
  simp only [m_ref12_Encode, rright9_m (n + 1) u c model room hl (by omega), Option.bind_some]
  cases hr : rightU u && confOk u c model room with
  | false => rfl
  | true =>
  rw [Bool.and_eq_true] at hr
  obtain ⟨hev, _, _⟩ := even_of hr.2
  have := hl.pc; have := hl.mem; have := hl.regsN; have := hl.bufN
  obtain ⟨s1, s2⟩ := hl.sums
  have hsz := encC_len hev
  have hS : sizeC c ≤ 1000000 := by simp only [sizeC]; omega
  have ht : (encTs (thrs c)).length + c.mem.length = sizeC c := by rw [← hsz]; simp [encC]
  have q0 := rE0 (n + 1) c hev (fun i hi => by have := hl.regs i hi; omega) (fun i hi => by have := hl.buf i hi; omega) (by omega) c.pc.length (n + 1) 0 [] (by omega) (by omega) (by rw [List.drop_zero]; simp; omega)
  have q0 : ref12_Encode_L0 (n + 1) c (n + 1) 0 [] = _ := q0
  rw [List.drop_zero, List.nil_append] at q0
  have q3 := rE3 (n + 1) c (by omega) c.mem.length (n + 1) 0 (encTs (thrs c)) (by omega) (by omega) (by omega)
  have q3 : ref12_Encode_L3 (n + 1) c (n + 1) 0 _ = _ := q3
  rw [List.drop_zero] at q3
  simp only [cond_true, Option.bind_some, q0, q3, if_true]
  rw [bif_decide (by rw [show encTs (thrs c) ++ c.mem.map u8w = encC c from rfl, hsz]; omega)]
  rfl
end Go.Proofs.Ytejkhpgahnncnaa
end

section
namespace Go.Proofs.Ytejkhpgahnncnaa
set_option linter.unusedVariables false
set_option linter.unusedSimpArgs false

def nextP : List UInt8 → Bool → Int × List UInt8 × Bool
  | [], _ => (0, [], true)
  | b :: t, bad => (b.toNat, t, bad)
theorem next_m (n : Nat) (s : List UInt8) (bad : Bool) (hs : s.length ≤ 1000000) : m_pack_reader_next (n + 1) s bad = some (nextP s bad) := by
  cases s with
  | nil => rfl
  | cons b t =>
    have hb : b.toNat < 256 := b.toNat_lt
    have c1 : (decide ((0 : Nat) ≤ 1) && decide ((1 : Int) ≤ (((b :: t).length : Nat) : Int))) = true := by
      rw [decide_eq_true (by omega), decide_eq_true (by simp only [List.length_cons]; omega)]; rfl
    have e : (b :: t == ([] : List UInt8)) = false := rfl
    simp only [m_pack_reader_next, e, cond_false, show idx (b :: t) 0 = some b from rfl, Option.bind_some, c1, cond_true, nextP, wrap_nat b.toNat (by omega), List.take_length, show (1 : Int).toNat = 1 from rfl, List.drop_succ_cons, List.drop_zero]
theorem nextP_le (s : List UInt8) (bad : Bool) : (nextP s bad).2.1.length ≤ s.length := by cases s <;> simp [nextP]
def rowP : Nat → List UInt8 → Bool → List Int × List UInt8 × Bool
  | 0, s, bad => ([], s, bad)
  | m + 1, s, bad => ((nextP s bad).1 :: (rowP m (nextP s bad).2.1 (nextP s bad).2.2).1, (rowP m (nextP s bad).2.1 (nextP s bad).2.2).2)
theorem rowP_len : ∀ (m : Nat) (s : List UInt8) (bad : Bool), (rowP m s bad).1.length = m
  | 0, _, _ => rfl
  | m + 1, s, bad => by simp [rowP, rowP_len m]
theorem rowP_le : ∀ (m : Nat) (s : List UInt8) (bad : Bool), (rowP m s bad).2.1.length ≤ s.length
  | 0, _, _ => Nat.le_refl _
  | m + 1, s, bad => by
    have := rowP_le m (nextP s bad).2.1 (nextP s bad).2.2
    have := nextP_le s bad
    simp only [rowP]; omega
theorem row_L (n : Nat) (N : Int) : ∀ (m k i : Nat) (s : List UInt8) (bad : Bool) (P : List Int), N = ((i + m : Nat) : Int) → P.length = i → m < k → s.length ≤ 1000000 → i + m ≤ 1000000 →
    pack_reader_row_L0 (n + 1) N k (i : Int) s bad (P ++ List.replicate m 0) = some (.out ((rowP m s bad).2.1, (rowP m s bad).2.2, P ++ (rowP m s bad).1)) := by
  intro m
  induction m with
  | zero =>
    intro k i s bad P hN hP hk hs hm
    obtain ⟨k, rfl⟩ : ∃ j, k = j + 1 := ⟨k - 1, by omega⟩
    have hge : ¬ ((i : Int) < (((List.replicate N.toNat (0 : Int)).length : Nat) : Int)) := by rw [List.length_replicate]; omega
    rw [pack_reader_row_L0, bif_not hge]
    rfl
  | succ m ih =>
    intro k i s bad P hN hP hk hs hm
    obtain ⟨k, rfl⟩ : ∃ j, k = j + 1 := ⟨k - 1, by omega⟩
    have hlt : ((i : Int) < (((List.replicate N.toNat (0 : Int)).length : Nat) : Int)) := by rw [List.length_replicate]; omega
    have hi : i < (P ++ List.replicate (m + 1) (0 : Int)).length := by simp; omega
    rw [pack_reader_row_L0, bif_decide hlt, next_m n s bad hs, Option.bind_some, idx_get hi, Option.bind_some, wrap_one i (by omega)]
    have e : List.set (P ++ List.replicate (m + 1) (0 : Int)) ((i : Int)).toNat (nextP s bad).1 = (P ++ [(nextP s bad).1]) ++ List.replicate m 0 := by
      rw [show ((i : Int)).toNat = i from rfl, List.set_append_right _ _ (by omega), show i - P.length = 0 by omega, List.replicate_succ, List.set_cons_zero, List.append_assoc]
      rfl
    have := nextP_le s bad
    rw [e, ih k (i + 1) _ _ _ (by rw [hN]; congr 1; omega) (by simp; omega) (by omega) (by omega) (by omega)]
    simp only [rowP, List.append_assoc, List.cons_append, List.nil_append]
theorem row_m (n m : Nat) (s : List UInt8) (bad : Bool) (hm : m ≤ n) (h2 : m ≤ 1000000) (hs : s.length ≤ 1000000) : m_pack_reader_row (n + 2) (m : Int) s bad = some (rowP m s bad) := by
  have c1 : (decide (0 ≤ (m : Int)) && decide ((8 : Int) * (m : Int) ≤ 140737488355328)) = true := by
    rw [decide_eq_true (by omega), decide_eq_true (by omega)]; rfl
  have q := row_L n (m : Int) m (n + 1) 0 s bad [] (by simp) rfl (by omega) hs (by omega)
  have q : pack_reader_row_L0 (n + 1) (m : Int) (n + 1) 0 s bad (List.replicate m 0) = _ := q
  simp only [m_pack_reader_row, c1, cond_true, show ((m : Int)).toNat = m from rfl, q, Option.bind_some]
  rfl
def entsP : Nat → List UInt8 → Bool → List EntryS × List UInt8 × Bool
  | 0, s, bad => ([], s, bad)
  | m + 1, s, bad => (⟨(nextP s bad).1, (nextP (nextP s bad).2.1 (nextP s bad).2.2).1⟩ :: (entsP m (nextP (nextP s bad).2.1 (nextP s bad).2.2).2.1 (nextP (nextP s bad).2.1 (nextP s bad).2.2).2.2).1,
      (entsP m (nextP (nextP s bad).2.1 (nextP s bad).2.2).2.1 (nextP (nextP s bad).2.1 (nextP s bad).2.2).2.2).2)
theorem entsP_len : ∀ (m : Nat) (s : List UInt8) (bad : Bool), (entsP m s bad).1.length = m
  | 0, _, _ => rfl
  | m + 1, s, bad => by simp [entsP, entsP_len m]
theorem entsP_le : ∀ (m : Nat) (s : List UInt8) (bad : Bool), (entsP m s bad).2.1.length ≤ s.length
  | 0, _, _ => Nat.le_refl _
  | m + 1, s, bad => by
    have := entsP_le m (nextP (nextP s bad).2.1 (nextP s bad).2.2).2.1 (nextP (nextP s bad).2.1 (nextP s bad).2.2).2.2
    have := nextP_le s bad
    have := nextP_le (nextP s bad).2.1 (nextP s bad).2.2
    simp only [entsP]; omega
theorem ents_L (n : Nat) (y : Int × List UInt8 × Bool) : ∀ (m k i : Nat) (s : List UInt8) (bad : Bool) (P : List EntryS), y.1 = ((i + m : Nat) : Int) → P.length = i → m < k → s.length ≤ 1000000 → i + m ≤ 1000000 →
    pack_reader_thread_L0 (n + 1) y k (i : Int) s bad P = some (.out ((entsP m s bad).2.1, (entsP m s bad).2.2, P ++ (entsP m s bad).1)) := by
  intro m
  induction m with
  | zero =>
    intro k i s bad P hN hP hk hs hm
    obtain ⟨k, rfl⟩ : ∃ j, k = j + 1 := ⟨k - 1, by omega⟩
    have hge : ¬ ((i : Int) < y.1) := by omega
    rw [pack_reader_thread_L0, bif_not hge]
    simp [entsP]
  | succ m ih =>
    intro k i s bad P hN hP hk hs hm
    obtain ⟨k, rfl⟩ : ∃ j, k = j + 1 := ⟨k - 1, by omega⟩
    have hlt : (i : Int) < y.1 := by omega
    have l1 := nextP_le s bad
    have l2 := nextP_le (nextP s bad).2.1 (nextP s bad).2.2
    rw [pack_reader_thread_L0, bif_decide hlt, next_m n s bad hs, Option.bind_some, next_m n _ _ (by omega), Option.bind_some, bif_decide (by omega), wrap_one i (by omega)]
    rw [ih k (i + 1) _ _ _ (by rw [hN]; congr 1; omega) (by simp; omega) (by omega) (by omega) (by omega)]
    simp only [entsP, List.append_assoc, List.cons_append, List.nil_append]
/-- A thread is read: with so many registers. -/
def thrP (m : Nat) (s : List UInt8) (bad : Bool) : Thr × List UInt8 × Bool :=
  let h := nextP s bad
  let l := nextP h.2.1 h.2.2
  let r := rowP m l.2.1 l.2.2
  let k := nextP r.2.1 r.2.2
  let e := entsP k.1.toNat k.2.1 k.2.2
  ((256 * h.1 + l.1, r.1, e.1), e.2)
theorem nextP_lt (s : List UInt8) (bad : Bool) : 0 ≤ (nextP s bad).1 ∧ (nextP s bad).1 < 256 := by
  cases s with
  | nil => simp [nextP]
  | cons b t => have hb : b.toNat < 256 := b.toNat_lt; simp only [nextP]; omega
theorem thr_m (n m : Nat) (s : List UInt8) (bad : Bool) (Pc : List Int) (Rg : List (List Int)) (Mm : List Int) (Bf : List (List EntryS)) (hn : 300 < n) (hm : m ≤ 200) (hs : s.length ≤ 1000000) (h1 : Pc.length ≤ 1000) (h2 : Rg.length ≤ 1000) (h3 : Bf.length ≤ 1000) :
    m_pack_reader_thread n (m : Int) s bad Pc Rg Mm Bf = some ((thrP m s bad).2.1, (thrP m s bad).2.2, Pc ++ [(thrP m s bad).1.1], Rg ++ [(thrP m s bad).1.2.1], Bf ++ [(thrP m s bad).1.2.2]) := by
  obtain ⟨n, rfl⟩ : ∃ j, n = j + 3 := ⟨n - 3, by omega⟩
  obtain ⟨hv, hh⟩ : ∃ v, nextP s bad = v := ⟨_, rfl⟩
  obtain ⟨lv, hl⟩ : ∃ v, nextP hv.2.1 hv.2.2 = v := ⟨_, rfl⟩
  obtain ⟨rv, hr⟩ : ∃ v, rowP m lv.2.1 lv.2.2 = v := ⟨_, rfl⟩
  obtain ⟨kv, hk⟩ : ∃ v, nextP rv.2.1 rv.2.2 = v := ⟨_, rfl⟩
  have s1 : hv.2.1.length ≤ s.length := hh ▸ nextP_le s bad
  have s2 : lv.2.1.length ≤ hv.2.1.length := hl ▸ nextP_le _ _
  have s3 : rv.2.1.length ≤ lv.2.1.length := hr ▸ rowP_le _ _ _
  have s4 : kv.2.1.length ≤ rv.2.1.length := hk ▸ nextP_le _ _
  have b1 : 0 ≤ hv.1 ∧ hv.1 < 256 := hh ▸ nextP_lt _ _
  have b2 : 0 ≤ lv.1 ∧ lv.1 < 256 := hl ▸ nextP_lt _ _
  have b3 : 0 ≤ kv.1 ∧ kv.1 < 256 := hk ▸ nextP_lt _ _
  have q := ents_L (n + 1) kv kv.1.toNat (n + 2) 0 kv.2.1 kv.2.2 [] (by omega) rfl (by omega) (by omega) (by omega)
  have q : pack_reader_thread_L0 (n + 2) kv (n + 2) 0 kv.2.1 kv.2.2 [] = _ := q
  have e1 : IntKind.i64.wrap (256 * hv.1) = 256 * hv.1 := wrap64 (by omega)
  have e2 : IntKind.i64.wrap (256 * hv.1 + lv.1) = 256 * hv.1 + lv.1 := wrap64 (by omega)
  simp only [m_pack_reader_thread, next_m (n + 1) s bad hs, hh, Option.bind_some, next_m (n + 1) hv.2.1 hv.2.2 (by omega), hl, bif_decide (show (Pc.length + 1) * 9 ≤ 140737488355328 by omega), row_m n m lv.2.1 lv.2.2 (by omega) (by omega) (by omega), hr,
    bif_decide (show (Rg.length + 1) * 25 ≤ 140737488355328 by omega), next_m (n + 1) rv.2.1 rv.2.2 (by omega), hk, q, bif_decide (show (Bf.length + 1) * 25 ≤ 140737488355328 by omega), List.nil_append, e1, e2, thrP]
/-- Threads, one behind the other. -/
def thrsP : List Int → List UInt8 → Bool → List Thr × List UInt8 × Bool
  | [], s, bad => ([], s, bad)
  | m :: ms, s, bad => ((thrP m.toNat s bad).1 :: (thrsP ms (thrP m.toNat s bad).2.1 (thrP m.toNat s bad).2.2).1, (thrsP ms (thrP m.toNat s bad).2.1 (thrP m.toNat s bad).2.2).2)
theorem thrP_le (m : Nat) (s : List UInt8) (bad : Bool) : (thrP m s bad).2.1.length ≤ s.length := by
  simp only [thrP]
  refine Nat.le_trans (entsP_le _ _ _) (Nat.le_trans (nextP_le _ _) (Nat.le_trans (rowP_le _ _ _) (Nat.le_trans (nextP_le _ _) (nextP_le _ _))))
theorem thrsP_len : ∀ (ms : List Int) (s : List UInt8) (bad : Bool), (thrsP ms s bad).1.length = ms.length
  | [], _, _ => rfl
  | m :: ms, s, bad => by simp [thrsP, thrsP_len ms]
theorem thrsP_le : ∀ (ms : List Int) (s : List UInt8) (bad : Bool), (thrsP ms s bad).2.1.length ≤ s.length
  | [], _, _ => Nat.le_refl _
  | m :: ms, s, bad => by simp only [thrsP]; exact Nat.le_trans (thrsP_le ms _ _) (thrP_le _ _ _)
theorem dec_L (n : Nat) (u : UnitS) (hn : 300 < n) (hr : ∀ i (h : i < u.regs.length), 0 ≤ u.regs[i] ∧ u.regs[i] ≤ 6) (hN : u.regs.length ≤ 4) : ∀ (m k i : Nat) (s : List UInt8) (bad : Bool) (Pc : List Int) (Rg : List (List Int)) (Bf : List (List EntryS)), i + m = u.regs.length → m < k → s.length ≤ 1000000 → Pc.length = i → Rg.length = i → Bf.length = i →
    pack_Decode_L0 n u k (i : Int) s bad Pc Rg Bf = some (.out ((thrsP (u.regs.drop i) s bad).2.1, (thrsP (u.regs.drop i) s bad).2.2, Pc ++ (thrsP (u.regs.drop i) s bad).1.map (·.1), Rg ++ (thrsP (u.regs.drop i) s bad).1.map (·.2.1), Bf ++ (thrsP (u.regs.drop i) s bad).1.map (·.2.2))) := by
  intro m
  induction m with
  | zero =>
    intro k i s bad Pc Rg Bf hi hk hs h1 h2 h3
    obtain ⟨k, rfl⟩ : ∃ j, k = j + 1 := ⟨k - 1, by omega⟩
    have hge : ¬ ((i : Int) < (u.regs.length : Int)) := by omega
    rw [pack_Decode_L0, bif_not hge, List.drop_of_length_le (by omega)]
    simp [thrsP]
  | succ m ih =>
    intro k i s bad Pc Rg Bf hi hk hs h1 h2 h3
    obtain ⟨k, rfl⟩ : ∃ j, k = j + 1 := ⟨k - 1, by omega⟩
    have hlt : i < u.regs.length := by omega
    have hlt' : (i : Int) < (u.regs.length : Int) := by omega
    have hx := hr i hlt
    have e : u.regs[i] = ((u.regs[i].toNat : Nat) : Int) := by omega
    have hT := thr_m n u.regs[i].toNat s bad Pc Rg [] Bf hn (by omega) hs (by omega) (by omega) (by omega)
    rw [← e] at hT
    have := thrP_le u.regs[i].toNat s bad
    rw [pack_Decode_L0, bif_decide hlt', idx_get hlt, Option.bind_some, hT, Option.bind_some, wrap_one i (by omega)]
    rw [ih k (i + 1) _ _ _ _ _ (by omega) (by omega) (by show (thrP _ s bad).2.1.length ≤ _; omega) (by simp; omega) (by simp; omega) (by simp; omega), List.drop_eq_getElem_cons hlt]
    simp only [thrsP, List.map_cons, List.append_assoc, List.cons_append, List.nil_append]
def zeroC : ConfS := ⟨[], [], [], []⟩
/-- What is read of bytes: a configuration, what is left, and whether there was too little. -/
def confP (u : UnitS) (s : List UInt8) : ConfS × List UInt8 × Bool :=
  let t := thrsP u.regs s false
  let m := rowP u.init.length t.2.1 t.2.2
  (⟨t.1.map (·.1), t.1.map (·.2.1), m.1, t.1.map (·.2.2)⟩, m.2)
end Go.Proofs.Ytejkhpgahnncnaa
end

section
namespace Go.Proofs.Ytejkhpgahnncnaa
set_option linter.unusedVariables false
set_option linter.unusedSimpArgs false

theorem light_mono {c : ConfS} (h1 : c.pc.length ≤ 8) (h2 : c.mem.length ≤ 20) (h3 : c.regs.length ≤ 8) (h4 : c.buf.length ≤ 8) (h5 : ∀ r ∈ c.regs, r.length ≤ 20) (h6 : ∀ b ∈ c.buf, b.length ≤ 300) : LightC c :=
  ⟨h1, h2, h3, h4, fun i hi => h5 _ (List.getElem_mem hi), fun i hi => h6 _ (List.getElem_mem hi)⟩
theorem thrP_parts (m : Nat) (s : List UInt8) (bad : Bool) : (thrP m s bad).1.2.1.length = m ∧ (thrP m s bad).1.2.2.length < 256 := by
  simp only [thrP, rowP_len, entsP_len, true_and]
  have := nextP_lt (rowP m (nextP (nextP s bad).2.1 (nextP s bad).2.2).2.1 (nextP (nextP s bad).2.1 (nextP s bad).2.2).2.2).2.1 (rowP m (nextP (nextP s bad).2.1 (nextP s bad).2.2).2.1 (nextP (nextP s bad).2.1 (nextP s bad).2.2).2.2).2.2
  omega
theorem thrsP_parts : ∀ (ms : List Int) (s : List UInt8) (bad : Bool) (hm : ∀ x ∈ ms, x ≤ 6), ∀ t ∈ (thrsP ms s bad).1, t.2.1.length ≤ 6 ∧ t.2.2.length < 256
  | [], s, bad, _, t, ht => by simp [thrsP] at ht
  | m :: ms, s, bad, hm, t, ht => by
    simp only [thrsP, List.mem_cons] at ht
    rcases ht with rfl | ht
    · have := thrP_parts m.toNat s bad
      have := hm m (by simp)
      omega
    · exact thrsP_parts ms _ _ (fun x hx => hm x (by simp [hx])) t ht
theorem confP_light (u : UnitS) (h : rightU u = true) (s : List UInt8) : LightC (confP u s).1 := by
  obtain ⟨u1, u2, u3, u4⟩ := rightU_len h
  have hm : ∀ x ∈ u.regs, x ≤ 6 := fun x hx => by
    obtain ⟨i, hi, rfl⟩ := List.getElem_of_mem hx
    exact (rightU_thread h i hi (by omega)).1.2
  have hp := thrsP_parts u.regs s false hm
  have hl := thrsP_len u.regs s false
  refine light_mono ?_ ?_ ?_ ?_ ?_ ?_
  · simp only [confP, List.length_map, hl]; omega
  · simp only [confP, rowP_len]; omega
  · simp only [confP, List.length_map, hl]; omega
  · simp only [confP, List.length_map, hl]; omega
  · intro r hr
    simp only [confP, List.mem_map] at hr
    obtain ⟨t, ht, rfl⟩ := hr
    have := (hp t ht).1; omega
  · intro b hb
    simp only [confP, List.mem_map] at hb
    obtain ⟨t, ht, rfl⟩ := hb
    have := (hp t ht).2; omega
theorem start_bad (n : Nat) (u : UnitS) (h : rightU u = false) : m_conf_Start (n + 2) u = some (zeroC, 8) := by
  simp only [m_conf_Start, m_lower_Right, h, Option.bind_some, cond_false]
  rfl
theorem decode_m (n : Nat) (u : UnitS) (s : List UInt8) (model room : Int) (hn : 450 < n) (hs : s.length ≤ 1000000) :
    m_pack_Decode n u s model room = some (if rightU u && (!(confP u s).2.2 && ((confP u s).2.1 == [] && confOk u (confP u s).1 model room)) then ((confP u s).1, 0) else (zeroC, 8)) := by
  obtain ⟨n, rfl⟩ : ∃ j, n = j + 3 := ⟨n - 3, by omega⟩
  cases hr : rightU u with
  | false =>
    simp only [m_pack_Decode, start_bad n u hr, Option.bind_some]
    rfl
  | true =>
    obtain ⟨u1, u2, u3, u4⟩ := rightU_len hr
    have hx : ∀ i (h : i < u.regs.length), 0 ≤ u.regs[i] ∧ u.regs[i] ≤ 6 := fun i hi => (rightU_thread hr i hi (by omega)).1
    have q := dec_L (n + 2) u (by omega) hx u3 u.regs.length (n + 2) 0 s false [] [] [] (by omega) (by omega) hs rfl rfl rfl
    have q : pack_Decode_L0 (n + 2) u (n + 2) 0 s false [] [] [] = _ := q
    rw [List.drop_zero] at q
    have hle := thrsP_le u.regs s false
    have hm := row_m n u.init.length (thrsP u.regs s false).2.1 (thrsP u.regs s false).2.2 (by omega) (by omega) (by omega)
    have hR := cright_m (n + 2) u (confP u s).1 model room (confP_light u hr s) (by omega)
    simp only [confP] at hR
    simp only [m_pack_Decode, start_m (n + 2) u hr (by omega), Option.bind_some, q, hm, List.nil_append, hR, hr, Bool.true_and, confP]
    have e0 : ((0 : Int) != 0) = false := rfl
    simp only [e0, cond_false]
    cases (rowP u.init.length (thrsP u.regs s false).2.1 (thrsP u.regs s false).2.2).2.2 with
    | true => rfl
    | false =>
      simp only [cond_false, Bool.not_false, Bool.true_and]
      cases (rowP u.init.length (thrsP u.regs s false).2.1 (thrsP u.regs s false).2.2).2.1 == [] with
      | false => rfl
      | true =>
        simp only [cond_true, Bool.true_and]
        cases confOk u _ model room <;> rfl

abbrev toB (x : Int) : UInt8 := u8of (u8w x)
theorem u8w_small {x : Int} (h0 : 0 ≤ x) (h1 : x < 256) : u8w x = x := by
  simp only [u8w, IntKind.wrap, IntKind.bits, IntKind.signed, Bool.false_and]
  simp
  omega
theorem toB_of {b : UInt8} : toB (b.toNat : Int) = b := by
  have hb : b.toNat < 256 := b.toNat_lt
  rw [toB, u8w_small (by omega) (by omega)]
  simp [u8of]
theorem toB_nat {x : Int} (h0 : 0 ≤ x) (h1 : x < 256) : ((toB x).toNat : Int) = x := by
  rw [toB, u8w_small h0 h1]
  simp only [u8of, UInt8.toNat_ofNat']
  omega
theorem nextP_ok {s : List UInt8} {bad : Bool} (h : (nextP s bad).2.2 = false) : bad = false ∧ s = toB (nextP s bad).1 :: (nextP s bad).2.1 := by
  cases s with
  | nil => cases h
  | cons b t => exact ⟨h, by simp only [nextP, toB_of]⟩
theorem rowP_ok : ∀ (m : Nat) {s : List UInt8} {bad : Bool}, (rowP m s bad).2.2 = false → bad = false ∧ s = (rowP m s bad).1.map toB ++ (rowP m s bad).2.1
  | 0, s, bad, h => ⟨h, rfl⟩
  | m + 1, s, bad, h => by
    obtain ⟨h1, h2⟩ := rowP_ok m (s := (nextP s bad).2.1) (bad := (nextP s bad).2.2) h
    obtain ⟨h3, h4⟩ := nextP_ok h1
    refine ⟨h3, ?_⟩
    refine h4.trans ?_
    simp only [rowP, List.map_cons, List.cons_append]
    rw [← h2]
theorem entsP_ok : ∀ (m : Nat) {s : List UInt8} {bad : Bool}, (entsP m s bad).2.2 = false → bad = false ∧ s = ((entsP m s bad).1.flatMap entBy).map u8of ++ (entsP m s bad).2.1
  | 0, s, bad, h => ⟨h, rfl⟩
  | m + 1, s, bad, h => by
    obtain ⟨h1, h2⟩ := entsP_ok m (s := (nextP (nextP s bad).2.1 (nextP s bad).2.2).2.1) (bad := (nextP (nextP s bad).2.1 (nextP s bad).2.2).2.2) h
    obtain ⟨h3, h4⟩ := nextP_ok h1
    obtain ⟨h5, h6⟩ := nextP_ok h3
    refine ⟨h5, ?_⟩
    have : s = toB (nextP s bad).1 :: toB (nextP (nextP s bad).2.1 (nextP s bad).2.2).1 :: (nextP (nextP s bad).2.1 (nextP s bad).2.2).2.1 := by rw [← h4]; exact h6
    refine this.trans ?_
    simp only [entsP, List.flatMap_cons, entBy, List.map_append, List.map_cons, List.map_nil, List.cons_append, List.nil_append]
    rw [← h2]
theorem hiB_of {h l : Int} (h0 : 0 ≤ h) (h1 : h < 256) (l0 : 0 ≤ l) (l1 : l < 256) : hiB (256 * h + l) = h ∧ loB (256 * h + l) = l := by
  have e1 : Int.tdiv (256 * h + l) 256 = h := by rw [Int.tdiv_eq_ediv_of_nonneg (by omega)]; omega
  have e2 : Int.tmod (256 * h + l) 256 = l := by rw [Int.tmod_eq_emod_of_nonneg (by omega)]; omega
  simp only [hiB, loB, e1, e2, wrap64 (show -9223372036854775808 ≤ h ∧ h ≤ 9223372036854775807 by omega), u8w_small h0 h1, u8w_small l0 l1, and_self]
theorem thrP_ok {m : Nat} {s : List UInt8} {bad : Bool} (h : (thrP m s bad).2.2 = false) : bad = false ∧ s = (encT (thrP m s bad).1.1 (thrP m s bad).1.2.1 (thrP m s bad).1.2.2).map u8of ++ (thrP m s bad).2.1 := by
  have l1 := nextP_lt s bad
  have l2 := nextP_lt (nextP s bad).2.1 (nextP s bad).2.2
  simp only [thrP] at h ⊢
  obtain ⟨v, hv⟩ : ∃ v, nextP s bad = v := ⟨_, rfl⟩
  rw [hv] at h l1 l2 ⊢
  obtain ⟨w, hw⟩ : ∃ w, nextP v.2.1 v.2.2 = w := ⟨_, rfl⟩
  rw [hw] at h l2 ⊢
  obtain ⟨r, hr⟩ : ∃ r, rowP m w.2.1 w.2.2 = r := ⟨_, rfl⟩
  rw [hr] at h ⊢
  obtain ⟨k, hk⟩ : ∃ k, nextP r.2.1 r.2.2 = k := ⟨_, rfl⟩
  have l3 := nextP_lt r.2.1 r.2.2
  rw [hk] at h l3 ⊢
  obtain ⟨e1, e2⟩ := entsP_ok k.1.toNat h
  obtain ⟨k1, k2⟩ := nextP_ok (s := r.2.1) (bad := r.2.2) (by rw [hk]; exact e1)
  obtain ⟨r1, r2⟩ := rowP_ok m (s := w.2.1) (bad := w.2.2) (by rw [hr]; exact k1)
  obtain ⟨w1, w2⟩ := nextP_ok (s := v.2.1) (bad := v.2.2) (by rw [hw]; exact r1)
  obtain ⟨v1, v2⟩ := nextP_ok (s := s) (bad := bad) (by rw [hv]; exact w1)
  refine ⟨v1, ?_⟩
  rw [hv] at v2; rw [hw] at w2; rw [hr] at r2; rw [hk] at k2
  obtain ⟨q1, q2⟩ := hiB_of l1.1 l1.2 l2.1 l2.2
  have q3 : ((entsP k.1.toNat k.2.1 k.2.2).1.length : Int) = k.1 := by rw [entsP_len]; omega
  simp only [encT, q1, q2, q3, List.map_append, List.map_cons, List.map_nil, List.map_map, List.cons_append, List.nil_append, List.append_assoc]
  have z1 : u8of v.1 = toB v.1 := by rw [toB, u8w_small l1.1 l1.2]
  have z2 : u8of w.1 = toB w.1 := by rw [toB, u8w_small l2.1 l2.2]
  rw [z1, z2, ← e2, ← k2]
  show s = toB v.1 :: toB w.1 :: (List.map toB r.1 ++ r.2.1)
  rw [← r2, ← w2]; exact v2
theorem thrsP_ok : ∀ (ms : List Int) {s : List UInt8} {bad : Bool}, (thrsP ms s bad).2.2 = false → bad = false ∧ s = (encTs (thrsP ms s bad).1).map u8of ++ (thrsP ms s bad).2.1
  | [], s, bad, h => ⟨h, rfl⟩
  | m :: ms, s, bad, h => by
    obtain ⟨h1, h2⟩ := thrsP_ok ms (s := (thrP m.toNat s bad).2.1) (bad := (thrP m.toNat s bad).2.2) h
    obtain ⟨h3, h4⟩ := thrP_ok h1
    refine ⟨h3, h4.trans ?_⟩
    simp only [thrsP, encTs, List.flatMap_cons, List.map_append, List.append_assoc]
    rw [show (thrsP ms (thrP m.toNat s bad).2.1 (thrP m.toNat s bad).2.2).1.flatMap (fun t => encT t.1 t.2.1 t.2.2) = encTs (thrsP ms (thrP m.toNat s bad).2.1 (thrP m.toNat s bad).2.2).1 from rfl, ← h2]
theorem zip_maps : ∀ l : List Thr, (l.map (·.1)).zip ((l.map (·.2.1)).zip (l.map (·.2.2))) = l
  | [] => rfl
  | t :: l => by simp only [List.map_cons, List.zip_cons_cons, zip_maps l]
theorem confP_ok {u : UnitS} {s : List UInt8} (h : (confP u s).2.2 = false) (h2 : (confP u s).2.1 = []) : encB (confP u s).1 = s := by
  simp only [confP] at h h2 ⊢
  obtain ⟨h3, h4⟩ := rowP_ok _ h
  obtain ⟨_, h6⟩ := thrsP_ok _ h3
  simp only [encB, encC, thrs, zip_maps, List.map_append, List.map_map]
  rw [h2, List.append_nil] at h4
  conv => rhs; rw [h6]
  rw [h4]
  congr 1
  exact congrArg _ (by rw [← h4])

theorem nextP_toB {x : Int} (h0 : 0 ≤ x) (h1 : x < 256) (s : List UInt8) (bad : Bool) : nextP (toB x :: s) bad = (x, s, bad) := by
  simp only [nextP, toB_nat h0 h1]
theorem rowP_toB : ∀ (r : List Int) (s : List UInt8) (bad : Bool), (∀ x ∈ r, 0 ≤ x ∧ x < 256) → rowP r.length (r.map toB ++ s) bad = (r, s, bad)
  | [], s, bad, _ => rfl
  | x :: r, s, bad, h => by
    have hx := h x (by simp)
    simp only [List.length_cons, rowP, List.map_cons, List.cons_append, nextP_toB hx.1 hx.2, rowP_toB r s bad fun y hy => h y (by simp [hy])]
theorem entsP_toB : ∀ (b : List EntryS) (s : List UInt8) (bad : Bool), (∀ e ∈ b, (0 ≤ e.loc ∧ e.loc < 256) ∧ 0 ≤ e.n ∧ e.n < 256) → entsP b.length ((b.flatMap entBy).map u8of ++ s) bad = (b, s, bad)
  | [], s, bad, _ => rfl
  | e :: b, s, bad, h => by
    have hx := h e (by simp)
    have := entsP_toB b s bad fun y hy => h y (by simp [hy])
    simp only [List.length_cons, entsP, List.flatMap_cons, entBy, List.map_append, List.map_cons, List.map_nil, List.cons_append, List.nil_append]
    rw [nextP_toB hx.1.1 hx.1.2]
    dsimp only
    rw [nextP_toB hx.2.1 hx.2.2]
    dsimp only
    rw [this]
def ThrOk (t : Thr) : Prop := (0 ≤ t.1 ∧ t.1 < 65536) ∧ (∀ x ∈ t.2.1, 0 ≤ x ∧ x < 256) ∧ t.2.2.length < 256 ∧ ∀ e ∈ t.2.2, (0 ≤ e.loc ∧ e.loc < 256) ∧ 0 ≤ e.n ∧ e.n < 256
theorem thrP_toB {t : Thr} (h : ThrOk t) (s : List UInt8) (bad : Bool) : thrP t.2.1.length ((encT t.1 t.2.1 t.2.2).map u8of ++ s) bad = (t, s, bad) := by
  obtain ⟨h1, h2, h3, h4⟩ := h
  obtain ⟨pc, r, b⟩ := t
  dsimp only at *
  have q0 : pc = 256 * (pc / 256) + pc % 256 := by omega
  have q1 := hiB_of (h := pc / 256) (l := pc % 256) (by omega) (by omega) (by omega) (by omega)
  rw [← q0] at q1
  have e1 : u8of (hiB pc) = toB (pc / 256) := by rw [q1.1, toB, u8w_small (by omega) (by omega)]
  have e2 : u8of (loB pc) = toB (pc % 256) := by rw [q1.2, toB, u8w_small (by omega) (by omega)]
  have e3 : u8of (u8w (b.length : Int)) = toB (b.length : Int) := rfl
  simp only [encT, List.map_append, List.map_cons, List.map_nil, List.map_map, List.cons_append, List.nil_append, List.append_assoc, e1, e2, e3]
  have g3 : rowP r.length (r.map (u8of ∘ u8w) ++ (toB (b.length : Int) :: ((b.flatMap entBy).map u8of ++ s))) bad = (r, toB (b.length : Int) :: ((b.flatMap entBy).map u8of ++ s), bad) := rowP_toB r _ bad h2
  have g5 := entsP_toB b s bad h4
  simp only [thrP]
  rw [nextP_toB (by omega) (by omega)]
  dsimp only
  rw [nextP_toB (by omega) (by omega)]
  dsimp only
  rw [g3]
  dsimp only
  rw [nextP_toB (by omega) (by omega)]
  dsimp only
  rw [show ((b.length : Int)).toNat = b.length from rfl, g5]
  dsimp only
  rw [← q0]
theorem thrsP_toB : ∀ (ts : List Thr) (ms : List Int) (s : List UInt8) (bad : Bool), (∀ t ∈ ts, ThrOk t) → ts.map (fun t => (t.2.1.length : Int)) = ms → thrsP ms ((encTs ts).map u8of ++ s) bad = (ts, s, bad)
  | [], ms, s, bad, _, h2 => by subst h2; rfl
  | t :: ts, ms, s, bad, h1, h2 => by
    subst h2
    have hx := h1 t (by simp)
    have ih := thrsP_toB ts _ s bad (fun y hy => h1 y (by simp [hy])) rfl
    simp only [List.map_cons, thrsP, encTs, List.flatMap_cons, List.map_append, List.append_assoc]
    rw [show (((t.2.1.length : Nat) : Int)).toNat = t.2.1.length from rfl, thrP_toB hx]
    dsimp only
    simp only [encTs] at ih
    rw [ih]
theorem allB_mem {l : List Int} {mod : Int} (h : allB l mod = true) : ∀ x ∈ l, 0 ≤ x ∧ x < mod := by
  intro x hx
  obtain ⟨i, hi, rfl⟩ := List.getElem_of_mem hx
  have := of_all_range h hi
  simp only [numOk, List.getElem?_eq_getElem hi, Bool.and_eq_true, Bool.not_eq_true', decide_eq_false_iff_not] at this
  omega
theorem ents_mem {b : List EntryS} {model room mod locs : Int} (h : bufOk b model room mod locs = true) : ∀ e ∈ b, (0 ≤ e.loc ∧ e.loc < locs) ∧ 0 ≤ e.n ∧ e.n < mod := by
  intro x hx
  obtain ⟨i, hi, rfl⟩ := List.getElem_of_mem hx
  simp only [bufOk, Bool.and_eq_true] at h
  have := of_all_range h.1.2 hi
  simp only [entOk, List.getElem?_eq_getElem hi, Bool.and_eq_true, Bool.not_eq_true', decide_eq_false_iff_not] at this
  omega
theorem thr_ok {u : UnitS} {c : ConfS} {model room : Int} (hu : rightU u = true) (h : confOk u c model room = true) (hl : ∀ i (hi : i < c.buf.length), c.buf[i].length ≤ 255) : (∀ t ∈ thrs c, ThrOk t) ∧ (thrs c).map (fun t => (t.2.1.length : Int)) = u.regs := by
  obtain ⟨hev, h2, h3⟩ := even_of h
  obtain ⟨u1, u2, u3, u4⟩ := rightU_len hu
  have hmod : 2 ≤ u.mod ∧ u.mod ≤ 16 := by
    simp only [rightU, headOk, Bool.and_eq_true, decide_eq_true_eq] at hu; omega
  have hb := hev.r; have hb2 := hev.b
  simp only [confOk, Bool.and_eq_true] at h
  have key : ∀ i (hi : i < c.pc.length), ThrOk (c.pc[i], c.regs[i], c.buf[i]) ∧ ((c.regs[i].length : Nat) : Int) = u.regs[i] := by
    intro i hi
    have ht := of_all_range h.2 (i := i) (by omega)
    have hc : i < u.code.length := by omega
    have hrg := rightU_thread hu i (by omega) hc
    simp only [thrOk, List.getElem?_eq_getElem hi, List.getElem?_eq_getElem hc, List.getElem?_eq_getElem (show i < c.regs.length by omega), List.getElem?_eq_getElem (show i < u.regs.length by omega), List.getElem?_eq_getElem (show i < c.buf.length by omega), Bool.and_eq_true, Bool.not_eq_true', decide_eq_false_iff_not, beq_iff_eq] at ht
    obtain ⟨⟨⟨t1, t2⟩, t3, t4⟩, t5⟩ := ht
    have hrow := hrg.2
    have hcl : u.code[i].length ≤ 1000 := by
      simp only [rowOk, Bool.and_eq_true, decide_eq_true_eq] at hrow; exact hrow.1.1.2
    refine ⟨⟨⟨?_, ?_⟩, ?_, ?_, ?_⟩, t4⟩
    · dsimp only; omega
    · dsimp only; omega
    · intro x hx
      have := allB_mem t3 x hx
      omega
    · have := hl i (by omega); dsimp only; omega
    · intro e he
      have := ents_mem t5 e he
      omega
  refine ⟨fun t ht => ?_, ?_⟩
  · obtain ⟨i, hi, rfl⟩ := List.getElem_of_mem ht
    rw [hev.len] at hi
    have := hev.at hi
    rw [List.getElem?_eq_getElem (by rw [hev.len]; exact hi)] at this
    rw [Option.some.inj this]
    exact (key i hi).1
  · apply List.ext_getElem?
    intro i
    by_cases hi : i < c.pc.length
    · rw [List.getElem?_map, hev.at hi, List.getElem?_eq_getElem (show i < u.regs.length by omega)]
      simp only [Option.map_some, (key i hi).2]
    · rw [List.getElem?_eq_none (by rw [List.length_map, hev.len]; omega), List.getElem?_eq_none (by omega)]
theorem unzip_pc : ∀ (p : List Int) (r : List (List Int)) (b : List (List EntryS)), r.length = p.length → b.length = p.length → (p.zip (r.zip b)).map (·.1) = p ∧ (p.zip (r.zip b)).map (·.2.1) = r ∧ (p.zip (r.zip b)).map (·.2.2) = b
  | [], [], [], _, _ => ⟨rfl, rfl, rfl⟩
  | p :: ps, r :: rs, b :: bs, h1, h2 => by
    obtain ⟨g1, g2, g3⟩ := unzip_pc ps rs bs (by simpa using h1) (by simpa using h2)
    simp only [List.zip_cons_cons, List.map_cons, g1, g2, g3, and_self]
  | [], r :: rs, _, h1, _ => by simp at h1
  | [], [], b :: bs, _, h2 => by simp at h2
  | p :: ps, [], _, h1, _ => by simp at h1
  | p :: ps, r :: rs, [], _, h2 => by simp at h2
theorem confP_encB {u : UnitS} {c : ConfS} {model room : Int} (hu : rightU u = true) (h : confOk u c model room = true) (hl : ∀ i (hi : i < c.buf.length), c.buf[i].length ≤ 255) : confP u (encB c) = (c, [], false) := by
  obtain ⟨hev, h2, h3⟩ := even_of h
  obtain ⟨t1, t2⟩ := thr_ok hu h hl
  have hmod : 2 ≤ u.mod ∧ u.mod ≤ 16 := by
    simp only [rightU, headOk, Bool.and_eq_true, decide_eq_true_eq] at hu; omega
  have hmem : ∀ x ∈ c.mem, 0 ≤ x ∧ x < 256 := fun x hx => by
    simp only [confOk, Bool.and_eq_true] at h
    have := allB_mem h.1.1.1.1.1 x hx
    omega
  have q := thrsP_toB (thrs c) u.regs (c.mem.map toB) false t1 t2
  have q2 := rowP_toB c.mem [] false hmem
  rw [List.append_nil] at q2
  have e : encB c = (encTs (thrs c)).map u8of ++ c.mem.map toB := by
    simp only [encB, encC, List.map_append, List.map_map]; rfl
  obtain ⟨g1, g2, g3⟩ := unzip_pc c.pc c.regs c.buf hev.r hev.b
  simp only [confP, e, q, ← h3, q2]
  show ((⟨(c.pc.zip (c.regs.zip c.buf)).map (·.1), (c.pc.zip (c.regs.zip c.buf)).map (·.2.1), c.mem, (c.pc.zip (c.regs.zip c.buf)).map (·.2.2)⟩ : ConfS), ([] : List UInt8), false) = _
  rw [g1, g2, g3]
end Go.Proofs.Ytejkhpgahnncnaa
end

section
namespace Go.Proofs.Ytejkhpgahnncnaa
set_option linter.unusedVariables false
set_option linter.unusedSimpArgs false

def eqAt {α : Type} [BEq α] (a b : List α) (i : Nat) : Bool := match a[i]?, b[i]? with
  | some x, some y => x == y
  | _, _ => false
theorem eqAt_all {α : Type} [BEq α] [LawfulBEq α] {a b : List α} (h : a.length = b.length) : (List.range' 0 a.length).all (eqAt a b) = (a == b) := by
  rw [Bool.eq_iff_iff, beq_iff_eq]
  constructor
  · intro hh
    apply List.ext_getElem h
    intro i h1 h2
    have := of_all_range hh h1
    simpa [eqAt, List.getElem?_eq_getElem h1, List.getElem?_eq_getElem h2] using this
  · rintro rfl
    refine all_range_true fun i hi => ?_
    simp [eqAt, List.getElem?_eq_getElem hi]
theorem beq_len {α : Type} [BEq α] [LawfulBEq α] {a b : List α} (h : (a.length == b.length) = false) : (a == b) = false := by
  rw [beq_eq_false_iff_ne] at h ⊢
  rintro rfl
  exact h rfl
theorem ints_m (n : Nat) (a b : List Int) (hn : a.length + 1 < n) (ha : a.length ≤ 1000000) : m_ref07_Ints n a b = some (a == b) := by
  obtain ⟨n, rfl⟩ : ∃ j, n = j + 1 := ⟨n - 1, by omega⟩
  simp only [m_ref07_Ints, natNe]
  cases hl : a.length == b.length with
  | false => rw [beq_len hl]; rfl
  | true =>
    have hl := eq_of_beq hl
    have hL : ref07_Ints_L0 n a b n 0 = some (bif (List.range' 0 a.length).all (eqAt a b) then .out () else .ret false) := by
      refine all_loop0 (L := fun k i => ref07_Ints_L0 n a b k i) a.length _ (fun k i hi => ?_) (fun k => ?_) (by omega)
      · have hlen : (i : Int) < (a.length : Int) := by omega
        have hi2 : i < b.length := by omega
        simp only [ref07_Ints_L0, bif_decide hlen, idx_get hi, idx_get hi2, Option.bind_some, wrap_one i (by omega), eqAt, List.getElem?_eq_getElem hi, List.getElem?_eq_getElem hi2, bne]
        cases a[i] == b[i] <;> rfl
      · simp only [ref07_Ints_L0, bif_not (Int.lt_irrefl _)]
    simp only [Bool.not_true, cond_false, hL, Option.bind_some, eqAt_all hl]
    cases a == b <;> rfl
theorem bsame_m (n : Nat) (a b : List EntryS) (hn : a.length + 1 < n) (ha : a.length ≤ 1000000) : m_ref08_Same n a b = some (a == b) := by
  obtain ⟨n, rfl⟩ : ∃ j, n = j + 1 := ⟨n - 1, by omega⟩
  simp only [m_ref08_Same, natNe]
  cases hl : a.length == b.length with
  | false => rw [beq_len hl]; rfl
  | true =>
    have hl := eq_of_beq hl
    have hL : ref08_Same_L0 n a b n 0 = some (bif (List.range' 0 a.length).all (eqAt a b) then .out () else .ret false) := by
      refine all_loop0 (L := fun k i => ref08_Same_L0 n a b k i) a.length _ (fun k i hi => ?_) (fun k => ?_) (by omega)
      · have hlen : (i : Int) < (a.length : Int) := by omega
        have hi2 : i < b.length := by omega
        have e : ∀ x y : EntryS, ((x.loc == y.loc) && ((x.n == y.n) && true)) = (x == y) := by
          intro x y
          rw [Bool.eq_iff_iff]
          cases x; cases y
          simp
        simp only [ref08_Same_L0, bif_decide hlen, idx_get hi, idx_get hi2, Option.bind_some, wrap_one i (by omega), eqAt, List.getElem?_eq_getElem hi, List.getElem?_eq_getElem hi2, e]
      · simp only [ref08_Same_L0, bif_not (Int.lt_irrefl _)]
    simp only [Bool.not_true, cond_false, hL, Option.bind_some, eqAt_all hl]
    cases a == b <;> rfl
theorem same_m (n : Nat) (a b : ConfS) (hn : 500 < n) (ha : LightC a) : m_ref09_Same n a b = some (a == b) := by
  obtain ⟨n, rfl⟩ : ∃ j, n = j + 1 := ⟨n - 1, by omega⟩
  have := ha.pc; have := ha.mem; have := ha.regsN; have := ha.bufN
  have hE : (a == b) = ((a.pc == b.pc) && ((a.mem == b.mem) && ((a.regs == b.regs) && (a.buf == b.buf)))) := by
    rw [Bool.eq_iff_iff]
    cases a; cases b
    simp only [beq_iff_eq, Bool.and_eq_true, ConfS.mk.injEq]
    constructor
    · rintro ⟨h1, h2, h3, h4⟩; exact ⟨h1, h3, h2, h4⟩
    · rintro ⟨h1, h2, h3, h4⟩; exact ⟨h1, h3, h2, h4⟩
  simp only [m_ref09_Same, ints_m n a.pc b.pc (by omega) (by omega), ints_m n a.mem b.mem (by omega) (by omega), Option.bind_some, natNe, hE]
  cases a.pc == b.pc with
  | false => rfl
  | true =>
  cases a.mem == b.mem with
  | false => rfl
  | true =>
  cases h1 : a.regs.length == b.regs.length with
  | false => rw [beq_len h1]; rfl
  | true =>
  cases h2 : a.buf.length == b.buf.length with
  | false => rw [beq_len h2]; simp
  | true =>
  have h1 := eq_of_beq h1
  have h2 := eq_of_beq h2
  have hL0 : ref09_Same_L0 n a b n 0 = some (bif (List.range' 0 a.regs.length).all (eqAt a.regs b.regs) then .out () else .ret false) := by
    refine all_loop0 (L := fun k i => ref09_Same_L0 n a b k i) a.regs.length _ (fun k i hi => ?_) (fun k => ?_) (by omega)
    · have hlen : (i : Int) < (a.regs.length : Int) := by omega
      have hi2 : i < b.regs.length := by omega
      have := ha.regs i hi
      simp only [ref09_Same_L0, bif_decide hlen, idx_get hi, idx_get hi2, Option.bind_some, wrap_one i (by omega), eqAt, List.getElem?_eq_getElem hi, List.getElem?_eq_getElem hi2, ints_m n a.regs[i] b.regs[i] (by omega) (by omega)]
    · simp only [ref09_Same_L0, bif_not (Int.lt_irrefl _)]
  have hL1 : ref09_Same_L1 n a b n 0 = some (bif (List.range' 0 a.buf.length).all (eqAt a.buf b.buf) then .out () else .ret false) := by
    refine all_loop0 (L := fun k i => ref09_Same_L1 n a b k i) a.buf.length _ (fun k i hi => ?_) (fun k => ?_) (by omega)
    · have hlen : (i : Int) < (a.buf.length : Int) := by omega
      have hi2 : i < b.buf.length := by omega
      have := ha.buf i hi
      simp only [ref09_Same_L1, bif_decide hlen, idx_get hi, idx_get hi2, Option.bind_some, wrap_one i (by omega), eqAt, List.getElem?_eq_getElem hi, List.getElem?_eq_getElem hi2, bsame_m n a.buf[i] b.buf[i] (by omega) (by omega)]
    · simp only [ref09_Same_L1, bif_not (Int.lt_irrefl _)]
  simp only [cond_true, Bool.not_true, cond_false, hL0, hL1, Option.bind_some, eqAt_all h1, eqAt_all h2, Bool.true_and]
  cases a.regs == b.regs <;> cases a.buf == b.buf <;> rfl

theorem zeroC_light : LightC zeroC := light_mono (by decide) (by decide) (by decide) (by decide) (by simp [zeroC]) (by simp [zeroC])
end Go.Proofs.Ytejkhpgahnncnaa
end

section
namespace Go.Proofs.Ytejkhpgahnncnaa
set_option linter.unusedVariables false
set_option linter.unusedSimpArgs false

theorem start_rbad (n : Nat) (u : UnitS) (h : rightU u = false) : m_ref09_Start (n + 2) u = some (zeroC, 8) := by
  simp only [m_ref09_Start, m_ref07_Right, h, Option.bind_some, cond_false]
  rfl
end Go.Proofs.Ytejkhpgahnncnaa
end

section
namespace Go.Proofs.Ytejkhpgahnncnaa
open Go.RowKit
set_option linter.unusedVariables false
set_option linter.unusedSimpArgs false


/-- An entry's cells. -/
def entC (x : EntryS) : List Value := [.int .i64 x.loc, .int .i64 x.n]
theorem entC_len (x : EntryS) : (entC x).length = 2 := rfl
theorem RowsAt.base {B B' : Nat} {w : World} {eT e : TypeId} {size : Nat} {v : Value} {vals : List Value} {rows : List (List Value)} (h : RowsAt B w eT e size v vals rows) (hB : B' ≤ B) : RowsAt B' w eT e size v vals rows :=
  ⟨h.len, owns_heap h.own fun b hb => ⟨Nat.le_trans hB (ownsR_block h.own hb).1, rfl⟩, fun i x r h1 h2 => let ⟨m, hm⟩ := h.row i x r h1 h2; ⟨m, owns_heap hm fun b hb => ⟨Nat.le_trans hB (ownsR_block hm hb).1, rfl⟩⟩, h.apart, h.dist⟩
theorem RowsAt.heap {B B' : Nat} {w w' : World} {eT e : TypeId} {size : Nat} {v : Value} {vals : List Value} {rows : List (List Value)} (h : RowsAt B w eT e size v vals rows) (hB : B' ≤ B) (hw : ∀ b, B ≤ b → w'.heap[b]? = w.heap[b]?) : RowsAt B' w' eT e size v vals rows :=
  ⟨h.len, owns_heap h.own fun b hb => ⟨Nat.le_trans hB (ownsR_block h.own hb).1, hw b (ownsR_block h.own hb).1⟩, fun i x r h1 h2 => let ⟨m, hm⟩ := h.row i x r h1 h2; ⟨m, owns_heap hm fun b hb => ⟨Nat.le_trans hB (ownsR_block hm hb).1, hw b (ownsR_block hm hb).1⟩⟩, h.apart, h.dist⟩
/-- A copy whose rows are all one's own. -/
structure CopyIs (B : Nat) (w : World) (c : ConfS) (vp vr vm vb : Value) (xr xb : List Value) : Prop where
  pc : w.ownsRow B 3 1 vp c.pc.length (c.pc.map (Value.int .i64))
  regs : RowsAt B w 22 3 1 vr xr (c.regs.map (List.map (Value.int .i64)))
  mem : w.ownsRow B 3 1 vm c.mem.length (c.mem.map (Value.int .i64))
  buf : RowsAt B w 38 40 2 vb xb (c.buf.map (List.flatMap entC))
end Go.Proofs.Ytejkhpgahnncnaa
end

section
namespace Go.Proofs.Ytejkhpgahnncnaa
open Go.RowKit
set_option linter.unusedVariables false
set_option linter.unusedSimpArgs false

theorem sim_all {P : Program} (W : World) : Sim P W.heap.size (SAll W) W [] [] := ⟨rfl, Nat.le_refl _, fun _ _ ⟨u, hu⟩ => ⟨u, hu, fun hb => absurd (stay_lt hu) (by omega)⟩, fun id o ho => by simp at ho, fun i j b hi => by simp [blockAt] at hi⟩
end Go.Proofs.Ytejkhpgahnncnaa
end

section
namespace Go.Proofs.Ytejkhpgahnncnaa
set_option linter.unusedVariables false
set_option linter.unusedSimpArgs false
set_option maxRecDepth 100000
set_option maxHeartbeats 4000000

theorem ok_store_count {n:Nat} ⦃v0_b:(List EntryS)⦄ ⦃v1_loc:Int⦄ ⦃r:Int⦄:m_store_count n v0_b v1_loc=some r→CN n 59 [AV.sl 2 (List.map encE v0_b),iA v1_loc] []=some (iA r,[]):=by
 intro h;rcases n with _|n;cases h
 rw [m_store_count] at h
 refine callN_eq' Try.func59 (by rfl) rfl rfl (Nat.le_of_ble_eq_true rfl) ?_
 intro call hc;conv=>lhs;whnf
 revert h
 intro h;refine bind_some2 h ?_;clear h;intro o10 ho10 h
 refine lq (σ:=(Int×Int)) (τ:=Int) (ν:=Int) 0 (fun (s1,s2) a4=>stOf 22 [(1,iA v1_loc),(5,iA s1),(8,AV.sl 2 (List.map encE v0_b)),(9,iA (((v0_b.length:Nat):Int))),(10,iA s2)]) (fun (s1,s2) a4=>[]) (fun x15 a14=>stOf 22 [(5,iA x15)]) (fun x15 a14=>[]) (fun v=>(iA v,[])) (fun k s=>store_count_L0 n v0_b v1_loc k s.1 s.2) (fun s=>rfl) o10 n (0,0) (fun _=>0) ho10 ?_ ?_
 intro k3 ss a4 K5 cont6 hK7 hcont8 h hr9
 obtain ⟨s1,s2⟩:=ss
 replace h:store_count_L0 n v0_b v1_loc (k3+1) s1 s2=some o10:=h
 rw [store_count_L0] at h
 conv=>lhs;whnf
 revert h
 refine br ?_ ?_
 refine ix ?_;intro x12
 refine br ?_ ?_
 exact fun h=>cq (hcont8 (IntKind.i64.wrap (s1+1),IntKind.i64.wrap (s2+1)) (fun _=>0) h)
 exact fun h=>cq (hcont8 (s1,IntKind.i64.wrap (s2+1)) (fun _=>0) h)
 intro h;cases sj h
 exact kq (hr9 (fun _=>0))
 refine lrc ?_ ?_
 intro v e;subst e;cases sj h;rfl
 intro x15 a14 e;subst e
 dsimp only at h
 conv=>lhs;whnf
 revert h
 exact rz

theorem ok_store_Right {n:Nat} ⦃v0_b:(List EntryS)⦄ ⦃v1_model:Int⦄ ⦃v2_room:Int⦄ ⦃v3_mod:Int⦄ ⦃v4_locs:Int⦄ ⦃r:Bool⦄:m_store_Right n v0_b v1_model v2_room v3_mod v4_locs=some r→CN n 50 [AV.sl 2 (List.map encE v0_b),iA v1_model,iA v2_room,iA v3_mod,iA v4_locs] []=some (bA r,[]):=by
 intro h;rcases n with _|n;cases h
 rw [m_store_Right] at h
 refine callN_eq' Try.func50 (by rfl) rfl rfl (Nat.le_of_ble_eq_true rfl) ?_
 intro call hc;conv=>lhs;whnf
 revert h
 refine br ?_ ?_
 exact rz
 refine br ?_ ?_
 exact rz
 refine br ?_ ?_
 exact rz
 refine br ?_ ?_
 exact rz
 intro h;refine bind_some2 h ?_;clear h;intro o13 ho13 h
 refine lq (σ:=Int) (τ:=Unit) (ν:=Bool) 0 (fun s5 a7=>stOf 96 [(0,AV.sl 2 (List.map encE v0_b)),(1,iA v1_model),(2,iA v2_room),(3,iA v3_mod),(4,iA v4_locs),(27,AV.sl 2 (List.map encE v0_b)),(28,iA (((v0_b.length:Nat):Int))),(29,iA s5)]) (fun s5 a7=>[]) (fun _ a30=>stOf 96 [(0,AV.sl 2 (List.map encE v0_b)),(1,iA v1_model),(2,iA v2_room)]) (fun _ a30=>[]) (fun v=>(bA v,[])) (fun k s=>store_Right_L0 n v0_b v1_model v2_room v3_mod v4_locs k s) (fun s=>rfl) o13 n 0 (fun _=>0) ho13 ?_ ?_
 intro k6 s5 a7 K8 cont9 hK10 hcont11 h hr12
 replace h:store_Right_L0 n v0_b v1_model v2_room v3_mod v4_locs (k6+1) s5=some o13:=h
 rw [store_Right_L0] at h
 conv=>lhs;whnf
 revert h
 refine br ?_ ?_
 refine ix ?_;intro x15
 refine br ?_ ?_
 intro h;cases sj h
 refine (hK10 _ _).trans ?_
 refine Eq.trans ?_ (Eq.symm (show _=some _ from hr12))
 conv=>lhs;whnf
 exact rq
 refine br ?_ ?_
 intro h;cases sj h
 refine (hK10 _ _).trans ?_
 refine Eq.trans ?_ (Eq.symm (show _=some _ from hr12))
 conv=>lhs;whnf
 exact rq
 refine br ?_ ?_
 intro h;cases sj h
 refine (hK10 _ _).trans ?_
 refine Eq.trans ?_ (Eq.symm (show _=some _ from hr12))
 conv=>lhs;whnf
 exact rq
 refine br ?_ ?_
 intro h;cases sj h
 refine (hK10 _ _).trans ?_
 refine Eq.trans ?_ (Eq.symm (show _=some _ from hr12))
 conv=>lhs;whnf
 exact rq
 refine br ?_ ?_
 refine br ?_ ?_
 refine ix ?_;intro x22
 refine br ?_ ?_
 intro h;cases sj h
 refine (hK10 _ _).trans ?_
 refine Eq.trans ?_ (Eq.symm (show _=some _ from hr12))
 conv=>lhs;whnf
 exact rq
 refine ca hc (fun _ h=>ok_store_count h) ?_;intro y24
 refine br ?_ ?_
 intro h;cases sj h
 refine (hK10 _ _).trans ?_
 refine Eq.trans ?_ (Eq.symm (show _=some _ from hr12))
 conv=>lhs;whnf
 exact rq
 exact fun h=>cq (hcont11 (IntKind.i64.wrap (s5+1)) (fun _=>0) h)
 refine ca hc (fun _ h=>ok_store_count h) ?_;intro y27
 refine br ?_ ?_
 intro h;cases sj h
 refine (hK10 _ _).trans ?_
 refine Eq.trans ?_ (Eq.symm (show _=some _ from hr12))
 conv=>lhs;whnf
 exact rq
 exact fun h=>cq (hcont11 (IntKind.i64.wrap (s5+1)) (fun _=>0) h)
 exact fun h=>cq (hcont11 (IntKind.i64.wrap (s5+1)) (fun _=>0) h)
 intro h;cases sj h
 exact kq (hr12 (fun _=>0))
 refine lrc ?_ ?_
 intro v e;subst e;cases sj h;rfl
 intro t a30 e;subst e
 dsimp only at h
 conv=>lhs;whnf
 revert h
 refine br ?_ ?_
 exact rz
 refine br ?_ ?_
 exact rz
 exact rz
end Go.Proofs.Ytejkhpgahnncnaa
end

section
namespace Go.Proofs.Ytejkhpgahnncnaa
set_option linter.unusedVariables false
set_option linter.unusedSimpArgs false
set_option maxRecDepth 100000
set_option maxHeartbeats 4000000

theorem ok_conf_below {n:Nat} ⦃v0_l:(List Int)⦄ ⦃v1_mod:Int⦄ ⦃v2_many:Int⦄ ⦃r:Bool⦄:m_conf_below n v0_l v1_mod v2_many=some r→CN n 49 [AV.sl 1 (List.map encI v0_l),iA v1_mod,iA v2_many] []=some (bA r,[]):=by
 intro h;rcases n with _|n;cases h
 rw [m_conf_below] at h
 refine callN_eq' Try.func49 (by rfl) rfl rfl (Nat.le_of_ble_eq_true rfl) ?_
 intro call hc;conv=>lhs;whnf
 revert h
 intro h;refine bind_some2 h ?_;clear h;intro o9 ho9 h
 refine lq (σ:=Int) (τ:=Unit) (ν:=Bool) 0 (fun s1 a3=>stOf 27 [(0,AV.sl 1 (List.map encI v0_l)),(1,iA v1_mod),(2,iA v2_many),(9,AV.sl 1 (List.map encI v0_l)),(10,iA (((v0_l.length:Nat):Int))),(11,iA s1)]) (fun s1 a3=>[]) (fun _ a14=>stOf 27 [(0,AV.sl 1 (List.map encI v0_l)),(2,iA v2_many)]) (fun _ a14=>[]) (fun v=>(bA v,[])) (fun k s=>conf_below_L0 n v0_l v1_mod k s) (fun s=>rfl) o9 n 0 (fun _=>0) ho9 ?_ ?_
 intro k2 s1 a3 K4 cont5 hK6 hcont7 h hr8
 replace h:conf_below_L0 n v0_l v1_mod (k2+1) s1=some o9:=h
 rw [conf_below_L0] at h
 conv=>lhs;whnf
 revert h
 refine br ?_ ?_
 refine ix ?_;intro x11
 refine br ?_ ?_
 intro h;cases sj h
 refine (hK6 _ _).trans ?_
 refine Eq.trans ?_ (Eq.symm (show _=some _ from hr8))
 conv=>lhs;whnf
 exact rq
 refine br ?_ ?_
 intro h;cases sj h
 refine (hK6 _ _).trans ?_
 refine Eq.trans ?_ (Eq.symm (show _=some _ from hr8))
 conv=>lhs;whnf
 exact rq
 exact fun h=>cq (hcont7 (IntKind.i64.wrap (s1+1)) (fun _=>0) h)
 intro h;cases sj h
 exact kq (hr8 (fun _=>0))
 refine lrc ?_ ?_
 intro v e;subst e;cases sj h;rfl
 intro t a14 e;subst e
 dsimp only at h
 conv=>lhs;whnf
 revert h
 exact rz

theorem ok_conf_Right {n:Nat} ⦃v0_u:UnitS⦄ ⦃v1_c:ConfS⦄ ⦃v2_model:Int⦄ ⦃v3_room:Int⦄ ⦃r:Bool⦄:m_conf_Right n v0_u v1_c v2_model v3_room=some r→CN n 29 [AV.agg [iA (v0_u.mod),AV.sl 1 (List.map encI (v0_u.init)),AV.sl 1 (List.map encI (v0_u.regs)),AV.sl 1 (List.map encThr (v0_u.code))],AV.agg [AV.sl 1 (List.map encI (v1_c.pc)),AV.sl 1 (List.map encRow (v1_c.regs)),AV.sl 1 (List.map encI (v1_c.mem)),AV.sl 1 (List.map encBuf (v1_c.buf))],iA v2_model,iA v3_room] []=some (bA r,[]):=by
 intro h;rcases n with _|n;cases h
 rw [m_conf_Right] at h
 refine callN_eq' Try.func29 (by rfl) rfl rfl (Nat.le_of_ble_eq_true rfl) ?_
 intro call hc;conv=>lhs;whnf
 revert h
 refine ca hc (fun _ h=>ok_lower_Right h) ?_;intro y1
 refine br ?_ ?_
 refine cr hc (fun _ h=>ok_conf_below h) ?_;intro y4
 refine br ?_ ?_
 refine br ?_ ?_
 exact rz
 refine br ?_ ?_
 exact rz
 refine br ?_ ?_
 exact rz
 intro h;refine bind_some2 h ?_;clear h;intro o18 ho18 h
 refine lq (σ:=Int) (τ:=Unit) (ν:=Bool) 0 (fun s10 a12=>stOf 103 [(2,iA v2_model),(3,iA v3_room),(4,AV.ptr 0 0),(5,AV.ptr 1 0),(51,AV.sl 1 (List.map encI (v1_c.pc))),(52,iA ((((v1_c.pc).length:Nat):Int))),(53,iA s10)]) (fun s10 a12=>[Ob.var 25 [iA (v0_u.mod),AV.sl 1 (List.map encI (v0_u.init)),AV.sl 1 (List.map encI (v0_u.regs)),AV.sl 1 (List.map encThr (v0_u.code))],Ob.var 31 [AV.sl 1 (List.map encI (v1_c.pc)),AV.sl 1 (List.map encRow (v1_c.regs)),AV.sl 1 (List.map encI (v1_c.mem)),AV.sl 1 (List.map encBuf (v1_c.buf))]]) (fun _ a33=>stOf 103 []) (fun _ a33=>[Ob.var 25 [iA (v0_u.mod),AV.sl 1 (List.map encI (v0_u.init)),AV.sl 1 (List.map encI (v0_u.regs)),AV.sl 1 (List.map encThr (v0_u.code))],Ob.var 31 [AV.sl 1 (List.map encI (v1_c.pc)),AV.sl 1 (List.map encRow (v1_c.regs)),AV.sl 1 (List.map encI (v1_c.mem)),AV.sl 1 (List.map encBuf (v1_c.buf))]]) (fun v=>(bA v,[])) (fun k s=>conf_Right_L0 n v0_u v1_c v2_model v3_room k s) (fun s=>rfl) o18 n 0 (fun _=>0) ho18 ?_ ?_
 intro k11 s10 a12 K13 cont14 hK15 hcont16 h hr17
 replace h:conf_Right_L0 n v0_u v1_c v2_model v3_room (k11+1) s10=some o18:=h
 rw [conf_Right_L0] at h
 conv=>lhs;whnf
 revert h
 refine br ?_ ?_
 refine ix ?_;intro x20
 refine br ?_ ?_
 intro h;cases sj h
 refine (hK15 _ _).trans ?_
 refine Eq.trans ?_ (Eq.symm (show _=some _ from hr17))
 conv=>lhs;whnf
 exact rq
 refine ix ?_;intro x22
 refine br ?_ ?_
 intro h;cases sj h
 refine (hK15 _ _).trans ?_
 refine Eq.trans ?_ (Eq.symm (show _=some _ from hr17))
 conv=>lhs;whnf
 exact rq
 refine ix ?_;intro x24
 refine ix ?_;intro x25
 refine ca hc (fun _ h=>ok_conf_below h) ?_;intro y26
 refine br ?_ ?_
 refine ix ?_;intro x29
 refine cr hc (fun _ h=>ok_store_Right h) ?_;intro y30
 refine br ?_ ?_
 exact fun h=>cq (hcont16 (IntKind.i64.wrap (s10+1)) (fun _=>0) h)
 intro h;cases sj h
 refine (hK15 _ _).trans ?_
 refine Eq.trans ?_ (Eq.symm (show _=some _ from hr17))
 conv=>lhs;whnf
 exact rq
 intro h;cases sj h
 refine (hK15 _ _).trans ?_
 refine Eq.trans ?_ (Eq.symm (show _=some _ from hr17))
 conv=>lhs;whnf
 exact rq
 intro h;cases sj h
 exact kq (hr17 (fun _=>0))
 refine lrc ?_ ?_
 intro v e;subst e;cases sj h;rfl
 intro t a33 e;subst e
 dsimp only at h
 conv=>lhs;whnf
 revert h
 exact rz
 exact rz
 exact rz

theorem ok_conf_own_int {n:Nat} ⦃v0_l:(List Int)⦄ ⦃r:(List Int)⦄:m_conf_own_int n v0_l=some r→CN n 34 [AV.sl 1 (List.map encI v0_l)] []=some (AV.sl 1 (List.map encI r),[]):=by
 intro h;rcases n with _|n;cases h
 rw [m_conf_own_int] at h
 refine callN_eq' Try.func34 (by rfl) rfl rfl (Nat.le_of_ble_eq_true rfl) ?_
 intro call hc;conv=>lhs;whnf
 revert h
 refine cn ?_
 refine br ?_ ?_
 exact rz
 intro h;obtain rfl:=sj h
 try simp only [ls]
 exact fq (y:=some (AV.sl 1 (List.take (List.length v0_l) (List.drop 0 (List.map encI v0_l))),[]))

theorem ok_conf_Start {n:Nat} ⦃v0_u:UnitS⦄ ⦃r:(ConfS×Int)⦄:m_conf_Start n v0_u=some r→CN n 12 [AV.agg [iA (v0_u.mod),AV.sl 1 (List.map encI (v0_u.init)),AV.sl 1 (List.map encI (v0_u.regs)),AV.sl 1 (List.map encThr (v0_u.code))]] []=some (AV.tup [AV.agg [AV.sl 1 (List.map encI (r.1.pc)),AV.sl 1 (List.map encRow (r.1.regs)),AV.sl 1 (List.map encI (r.1.mem)),AV.sl 1 (List.map encBuf (r.1.buf))],iA r.2],[]):=by
 intro h;rcases n with _|n;cases h
 rw [m_conf_Start] at h
 refine callN_eq' Try.func12 (by rfl) rfl rfl (Nat.le_of_ble_eq_true rfl) ?_
 intro call hc;conv=>lhs;whnf
 revert h
 refine ca hc (fun _ h=>ok_lower_Right h) ?_;intro y1
 refine br ?_ ?_
 intro h
 refine chk_some2 h ?_;clear h;intro hc5 h
 try simp only [ls]
 refine bif_pos (by first|exact make_ok (B:=8) hc5 rfl (by kernel_rfl)|exact make_ok2 (B:=8) hc5 (by kernel_rfl)) ?_
 have hr4:List.replicate ((((v0_u.regs).length:Nat):Int)).toNat [iA (0)]=List.map encI (List.replicate ((((v0_u.regs).length:Nat):Int)).toNat 0:List Int):=by rw [List.map_replicate];rfl
 simp only [hr4,ls]
 conv=>lhs;whnf
 revert h
 refine ca hc (fun _ h=>ok_conf_own_int h) ?_;intro y6
 intro h
 refine chk_some2 h ?_;clear h;intro hc9 h
 try simp only [ls]
 refine bif_pos (by first|exact make_ok (B:=24) hc9 rfl (by kernel_rfl)|exact make_ok2 (B:=24) hc9 (by kernel_rfl)) ?_
 have hr8:List.replicate ((((v0_u.regs).length:Nat):Int)).toNat [AV.sl 2 []]=List.map encBuf (List.replicate ((((v0_u.regs).length:Nat):Int)).toNat ([]:List EntryS):List (List EntryS)):=by rw [List.map_replicate];rfl
 simp only [hr8,ls]
 conv=>lhs;whnf
 revert h
 intro h;refine bind_some2 h ?_;clear h;intro o19 ho19 h
 refine lq (σ:=(Int×(List (List Int)))) (τ:=(List (List Int))) (ν:=(ConfS×Int)) 0 (fun (s10,s11) a13=>stOf 39 [(2,AV.ptr 1 0),(5,AV.ptr 2 0),(24,AV.sl 1 (List.map encI (v0_u.regs))),(25,iA ((((v0_u.regs).length:Nat):Int))),(26,iA s10)]) (fun (s10,s11) a13=>[Ob.var 25 [iA (v0_u.mod),AV.sl 1 (List.map encI (v0_u.init)),AV.sl 1 (List.map encI (v0_u.regs)),AV.sl 1 (List.map encThr (v0_u.code))],Ob.var 31 [AV.row 3 (List.length (([]:List Int))),AV.row 4 (List.length (([]:List (List Int)))),AV.row 5 (List.length (([]:List Int))),AV.row 6 (List.length (([]:List (List EntryS))))],Ob.var 31 [AV.sl 1 (List.map encI ((List.replicate ((((v0_u.regs).length:Nat):Int)).toNat 0:List Int))),AV.row 7 (List.length s11),AV.sl 1 (List.map encI y6),AV.sl 1 (List.map encBuf ((List.replicate ((((v0_u.regs).length:Nat):Int)).toNat ([]:List EntryS):List (List EntryS))))],Ob.row 3 1 ([]),Ob.row 22 1 ([]),Ob.row 3 1 ([]),Ob.row 38 1 ([]),Ob.row 22 1 (List.map encRow s11)]) (fun x27 a26=>stOf 39 [(2,AV.ptr 1 0),(5,AV.ptr 2 0)]) (fun x27 a26=>[Ob.var 25 [iA (v0_u.mod),AV.sl 1 (List.map encI (v0_u.init)),AV.sl 1 (List.map encI (v0_u.regs)),AV.sl 1 (List.map encThr (v0_u.code))],Ob.var 31 [AV.row 3 (List.length (([]:List Int))),AV.row 4 (List.length (([]:List (List Int)))),AV.row 5 (List.length (([]:List Int))),AV.row 6 (List.length (([]:List (List EntryS))))],Ob.var 31 [AV.sl 1 (List.map encI ((List.replicate ((((v0_u.regs).length:Nat):Int)).toNat 0:List Int))),AV.row 7 (List.length x27),AV.sl 1 (List.map encI y6),AV.sl 1 (List.map encBuf ((List.replicate ((((v0_u.regs).length:Nat):Int)).toNat ([]:List EntryS):List (List EntryS))))],Ob.row 3 1 ([]),Ob.row 22 1 ([]),Ob.row 3 1 ([]),Ob.row 38 1 ([]),Ob.row 22 1 (List.map encRow x27)]) (fun v=>(AV.tup [AV.agg [AV.sl 1 (List.map encI (v.1.pc)),AV.sl 1 (List.map encRow (v.1.regs)),AV.sl 1 (List.map encI (v.1.mem)),AV.sl 1 (List.map encBuf (v.1.buf))],iA v.2],[])) (fun k s=>conf_Start_L0 n v0_u k s.1 s.2) (fun s=>rfl) o19 n (0,([]:List (List Int))) (fun _=>0) ho19 ?_ ?_
 intro k12 ss a13 K14 cont15 hK16 hcont17 h hr18
 obtain ⟨s10,s11⟩:=ss
 replace h:conf_Start_L0 n v0_u (k12+1) s10 s11=some o19:=h
 rw [conf_Start_L0] at h
 conv=>lhs;whnf
 revert h
 refine br ?_ ?_
 refine ix ?_;intro x21
 intro h
 refine chk_some2 h ?_;clear h;intro hc23 h
 try simp only [ls]
 refine bif_pos (by first|exact make_ok (B:=8) hc23 rfl (by kernel_rfl)|exact make_ok2 (B:=8) hc23 (by kernel_rfl)) ?_
 have hr22:List.replicate x21.toNat [iA (0)]=List.map encI (List.replicate x21.toNat 0:List Int):=by rw [List.map_replicate];rfl
 simp only [hr22,ls]
 conv=>lhs;whnf
 revert h
 refine ar (ap encRow (List.map encRow s11) s11 ([[AV.sl 1 (List.map encI ((List.replicate x21.toNat 0:List Int)))]]) ([(List.replicate x21.toNat 0:List Int)]:List (List Int))) ?_
 exact fun h=>cq (hcont17 (IntKind.i64.wrap (s10+1),(s11++([(List.replicate x21.toNat 0:List Int)]:List (List Int)))) (fun _=>0) h)
 intro h;cases sj h
 exact kq (hr18 (fun _=>0))
 refine lrc ?_ ?_
 intro v e;subst e;cases sj h;rfl
 intro x27 a26 e;subst e
 dsimp only at h
 conv=>lhs;whnf
 revert h
 intro h;cases sj h
 try simp only [ls]
 exact fq (y:=some (AV.tup [AV.agg [AV.sl 1 (List.map encI ((List.replicate ((((v0_u.regs).length:Nat):Int)).toNat 0:List Int))),AV.sl 1 (List.take (List.length x27) (List.map encRow x27)),AV.sl 1 (List.map encI y6),AV.sl 1 (List.map encBuf ((List.replicate ((((v0_u.regs).length:Nat):Int)).toNat ([]:List EntryS):List (List EntryS))))],iA (0)],[]))
 exact rz
end Go.Proofs.Ytejkhpgahnncnaa
end

section
namespace Go.Proofs.Ytejkhpgahnncnaa
set_option linter.unusedVariables false
set_option linter.unusedSimpArgs false
set_option maxRecDepth 100000
set_option maxHeartbeats 4000000

theorem ok_ref06_in {n:Nat} ⦃v0_n:Int⦄ ⦃v1_most:Int⦄ ⦃r:Bool⦄:m_ref06_in n v0_n v1_most=some r→CN n 57 [iA v0_n,iA v1_most] []=some (bA r,[]):=by
 intro h;rcases n with _|n;cases h
 rw [m_ref06_in] at h
 refine callN_eq' Try.func57 (by rfl) rfl rfl (Nat.le_of_ble_eq_true rfl) ?_
 intro call hc;conv=>lhs;whnf
 revert h
 refine br ?_ ?_
 exact rz
 exact rz

theorem ok_ref06_All {n:Nat} ⦃v0_l:(List Int)⦄ ⦃v1_mod:Int⦄ ⦃r:Bool⦄:m_ref06_All n v0_l v1_mod=some r→CN n 47 [AV.sl 1 (List.map encI v0_l),iA v1_mod] []=some (bA r,[]):=by
 intro h;rcases n with _|n;cases h
 rw [m_ref06_All] at h
 refine callN_eq' Try.func47 (by rfl) rfl rfl (Nat.le_of_ble_eq_true rfl) ?_
 intro call hc;conv=>lhs;whnf
 revert h
 intro h;refine bind_some2 h ?_;clear h;intro o9 ho9 h
 refine lq (σ:=Int) (τ:=Unit) (ν:=Bool) 0 (fun s1 a3=>stOf 19 [(0,AV.sl 1 (List.map encI v0_l)),(1,iA v1_mod),(5,iA s1)]) (fun s1 a3=>[]) (fun _ a15=>stOf 19 []) (fun _ a15=>[]) (fun v=>(bA v,[])) (fun k s=>ref06_All_L0 n v0_l v1_mod k s) (fun s=>rfl) o9 n 0 (fun _=>0) ho9 ?_ ?_
 intro k2 s1 a3 K4 cont5 hK6 hcont7 h hr8
 replace h:ref06_All_L0 n v0_l v1_mod (k2+1) s1=some o9:=h
 rw [ref06_All_L0] at h
 conv=>lhs;whnf
 revert h
 refine br ?_ ?_
 refine ix ?_;intro x11
 refine ca hc (fun _ h=>ok_ref06_in h) ?_;intro y12
 refine br ?_ ?_
 exact fun h=>cq (hcont7 (IntKind.i64.wrap (s1+1)) (fun _=>0) h)
 intro h;cases sj h
 refine (hK6 _ _).trans ?_
 refine Eq.trans ?_ (Eq.symm (show _=some _ from hr8))
 conv=>lhs;whnf
 exact rq
 intro h;cases sj h
 exact kq (hr8 (fun _=>0))
 refine lrc ?_ ?_
 intro v e;subst e;cases sj h;rfl
 intro t a15 e;subst e
 dsimp only at h
 conv=>lhs;whnf
 revert h
 exact rz
end Go.Proofs.Ytejkhpgahnncnaa
end

section
namespace Go.Proofs.Ytejkhpgahnncnaa
set_option linter.unusedVariables false
set_option linter.unusedSimpArgs false
set_option maxRecDepth 100000
set_option maxHeartbeats 4000000

theorem ok_ref07_Ints {n:Nat} ⦃v0_a:(List Int)⦄ ⦃v1_b:(List Int)⦄ ⦃r:Bool⦄:m_ref07_Ints n v0_a v1_b=some r→CN n 36 [AV.sl 1 (List.map encI v0_a),AV.sl 1 (List.map encI v1_b)] []=some (bA r,[]):=by
 intro h;rcases n with _|n;cases h
 rw [m_ref07_Ints] at h
 refine callN_eq' Try.func36 (by rfl) rfl rfl (Nat.le_of_ble_eq_true rfl) ?_
 intro call hc;conv=>lhs;whnf
 revert h
 refine br ?_ ?_
 exact rz
 intro h;refine bind_some2 h ?_;clear h;intro o10 ho10 h
 refine lq (σ:=Int) (τ:=Unit) (ν:=Bool) 0 (fun s2 a4=>stOf 26 [(0,AV.sl 1 (List.map encI v0_a)),(1,AV.sl 1 (List.map encI v1_b)),(5,iA s2)]) (fun s2 a4=>[]) (fun _ a15=>stOf 26 []) (fun _ a15=>[]) (fun v=>(bA v,[])) (fun k s=>ref07_Ints_L0 n v0_a v1_b k s) (fun s=>rfl) o10 n 0 (fun _=>0) ho10 ?_ ?_
 intro k3 s2 a4 K5 cont6 hK7 hcont8 h hr9
 replace h:ref07_Ints_L0 n v0_a v1_b (k3+1) s2=some o10:=h
 rw [ref07_Ints_L0] at h
 conv=>lhs;whnf
 revert h
 refine br ?_ ?_
 refine ix ?_;intro x12
 refine ix ?_;intro x13
 refine br ?_ ?_
 intro h;cases sj h
 refine (hK7 _ _).trans ?_
 refine Eq.trans ?_ (Eq.symm (show _=some _ from hr9))
 conv=>lhs;whnf
 exact rq
 exact fun h=>cq (hcont8 (IntKind.i64.wrap (s2+1)) (fun _=>0) h)
 intro h;cases sj h
 exact kq (hr9 (fun _=>0))
 refine lrc ?_ ?_
 intro v e;subst e;cases sj h;rfl
 intro t a15 e;subst e
 dsimp only at h
 conv=>lhs;whnf
 revert h
 exact rz
end Go.Proofs.Ytejkhpgahnncnaa
end

section
namespace Go.Proofs.Ytejkhpgahnncnaa
set_option linter.unusedVariables false
set_option linter.unusedSimpArgs false
set_option maxRecDepth 100000
set_option maxHeartbeats 4000000

theorem ok_ref08_count {n:Nat} ⦃v0_b:(List EntryS)⦄ ⦃v1_loc:Int⦄ ⦃r:Int⦄:m_ref08_count n v0_b v1_loc=some r→CN n 58 [AV.sl 2 (List.map encE v0_b),iA v1_loc] []=some (iA r,[]):=by
 intro h;rcases n with _|n;cases h
 rw [m_ref08_count] at h
 refine callN_eq' Try.func58 (by rfl) rfl rfl (Nat.le_of_ble_eq_true rfl) ?_
 intro call hc;conv=>lhs;whnf
 revert h
 intro h;refine bind_some2 h ?_;clear h;intro o10 ho10 h
 refine lq (σ:=(Int×Int)) (τ:=Int) (ν:=Int) 0 (fun (s1,s2) a4=>stOf 23 [(0,AV.sl 2 (List.map encE v0_b)),(1,iA v1_loc),(5,iA s1),(6,iA s2)]) (fun (s1,s2) a4=>[]) (fun x15 a14=>stOf 23 [(5,iA x15)]) (fun x15 a14=>[]) (fun v=>(iA v,[])) (fun k s=>ref08_count_L0 n v0_b v1_loc k s.1 s.2) (fun s=>rfl) o10 n (0,0) (fun _=>0) ho10 ?_ ?_
 intro k3 ss a4 K5 cont6 hK7 hcont8 h hr9
 obtain ⟨s1,s2⟩:=ss
 replace h:ref08_count_L0 n v0_b v1_loc (k3+1) s1 s2=some o10:=h
 rw [ref08_count_L0] at h
 conv=>lhs;whnf
 revert h
 refine br ?_ ?_
 refine ix ?_;intro x12
 refine br ?_ ?_
 exact fun h=>cq (hcont8 (IntKind.i64.wrap (s1+1),IntKind.i64.wrap (s2+1)) (fun _=>0) h)
 exact fun h=>cq (hcont8 (s1,IntKind.i64.wrap (s2+1)) (fun _=>0) h)
 intro h;cases sj h
 exact kq (hr9 (fun _=>0))
 refine lrc ?_ ?_
 intro v e;subst e;cases sj h;rfl
 intro x15 a14 e;subst e
 dsimp only at h
 conv=>lhs;whnf
 revert h
 exact rz

theorem ok_ref08_Right {n:Nat} ⦃v0_b:(List EntryS)⦄ ⦃v1_model:Int⦄ ⦃v2_room:Int⦄ ⦃v3_mod:Int⦄ ⦃v4_locs:Int⦄ ⦃r:Bool⦄:m_ref08_Right n v0_b v1_model v2_room v3_mod v4_locs=some r→CN n 48 [AV.sl 2 (List.map encE v0_b),iA v1_model,iA v2_room,iA v3_mod,iA v4_locs] []=some (bA r,[]):=by
 intro h;rcases n with _|n;cases h
 rw [m_ref08_Right] at h
 refine callN_eq' Try.func48 (by rfl) rfl rfl (Nat.le_of_ble_eq_true rfl) ?_
 intro call hc;conv=>lhs;whnf
 revert h
 refine br ?_ ?_
 exact rz
 refine br ?_ ?_
 exact rz
 refine br ?_ ?_
 exact rz
 refine br ?_ ?_
 exact rz
 refine br ?_ ?_
 exact rz
 refine br ?_ ?_
 exact rz
 intro h;refine bind_some2 h ?_;clear h;intro o15 ho15 h
 refine lq (σ:=Int) (τ:=Unit) (ν:=Bool) 0 (fun s7 a9=>stOf 122 [(0,AV.sl 2 (List.map encE v0_b)),(1,iA v1_model),(2,iA v2_room),(3,iA v3_mod),(4,iA v4_locs),(11,iA s7)]) (fun s7 a9=>[]) (fun _ a38=>stOf 122 [(0,AV.sl 2 (List.map encE v0_b)),(1,iA v1_model),(2,iA v2_room)]) (fun _ a38=>[]) (fun v=>(bA v,[])) (fun k s=>ref08_Right_L0 n v0_b v1_model v2_room v3_mod v4_locs k s) (fun s=>rfl) o15 n 0 (fun _=>0) ho15 ?_ ?_
 intro k8 s7 a9 K10 cont11 hK12 hcont13 h hr14
 replace h:ref08_Right_L0 n v0_b v1_model v2_room v3_mod v4_locs (k8+1) s7=some o15:=h
 rw [ref08_Right_L0] at h
 conv=>lhs;whnf
 revert h
 refine br ?_ ?_
 refine ix ?_;intro x17
 refine br ?_ ?_
 intro h;cases sj h
 refine (hK12 _ _).trans ?_
 refine Eq.trans ?_ (Eq.symm (show _=some _ from hr14))
 conv=>lhs;whnf
 exact rq
 refine ix ?_;intro x19
 refine br ?_ ?_
 intro h;cases sj h
 refine (hK12 _ _).trans ?_
 refine Eq.trans ?_ (Eq.symm (show _=some _ from hr14))
 conv=>lhs;whnf
 exact rq
 refine ix ?_;intro x21
 refine br ?_ ?_
 intro h;cases sj h
 refine (hK12 _ _).trans ?_
 refine Eq.trans ?_ (Eq.symm (show _=some _ from hr14))
 conv=>lhs;whnf
 exact rq
 refine ix ?_;intro x23
 refine br ?_ ?_
 intro h;cases sj h
 refine (hK12 _ _).trans ?_
 refine Eq.trans ?_ (Eq.symm (show _=some _ from hr14))
 conv=>lhs;whnf
 exact rq
 refine br ?_ ?_
 refine br ?_ ?_
 refine ix ?_;intro x27
 refine ix ?_;intro x28
 refine br ?_ ?_
 intro h;cases sj h
 refine (hK12 _ _).trans ?_
 refine Eq.trans ?_ (Eq.symm (show _=some _ from hr14))
 conv=>lhs;whnf
 exact rq
 refine ix ?_;intro x30
 refine ca hc (fun _ h=>ok_ref08_count h) ?_;intro y31
 refine br ?_ ?_
 intro h;cases sj h
 refine (hK12 _ _).trans ?_
 refine Eq.trans ?_ (Eq.symm (show _=some _ from hr14))
 conv=>lhs;whnf
 exact rq
 exact fun h=>cq (hcont13 (IntKind.i64.wrap (s7+1)) (fun _=>0) h)
 refine ix ?_;intro x34
 refine ca hc (fun _ h=>ok_ref08_count h) ?_;intro y35
 refine br ?_ ?_
 intro h;cases sj h
 refine (hK12 _ _).trans ?_
 refine Eq.trans ?_ (Eq.symm (show _=some _ from hr14))
 conv=>lhs;whnf
 exact rq
 exact fun h=>cq (hcont13 (IntKind.i64.wrap (s7+1)) (fun _=>0) h)
 exact fun h=>cq (hcont13 (IntKind.i64.wrap (s7+1)) (fun _=>0) h)
 intro h;cases sj h
 exact kq (hr14 (fun _=>0))
 refine lrc ?_ ?_
 intro v e;subst e;cases sj h;rfl
 intro t a38 e;subst e
 dsimp only at h
 conv=>lhs;whnf
 revert h
 refine br ?_ ?_
 refine br ?_ ?_
 exact rz
 refine br ?_ ?_
 exact rz
 exact rz
 exact rz

theorem ok_ref08_Same {n:Nat} ⦃v0_a:(List EntryS)⦄ ⦃v1_b:(List EntryS)⦄ ⦃r:Bool⦄:m_ref08_Same n v0_a v1_b=some r→CN n 37 [AV.sl 2 (List.map encE v0_a),AV.sl 2 (List.map encE v1_b)] []=some (bA r,[]):=by
 intro h;rcases n with _|n;cases h
 rw [m_ref08_Same] at h
 refine callN_eq' Try.func37 (by rfl) rfl rfl (Nat.le_of_ble_eq_true rfl) ?_
 intro call hc;conv=>lhs;whnf
 revert h
 refine br ?_ ?_
 exact rz
 intro h;refine bind_some2 h ?_;clear h;intro o10 ho10 h
 refine lq (σ:=Int) (τ:=Unit) (ν:=Bool) 0 (fun s2 a4=>stOf 26 [(0,AV.sl 2 (List.map encE v0_a)),(1,AV.sl 2 (List.map encE v1_b)),(5,iA s2)]) (fun s2 a4=>[]) (fun _ a16=>stOf 26 []) (fun _ a16=>[]) (fun v=>(bA v,[])) (fun k s=>ref08_Same_L0 n v0_a v1_b k s) (fun s=>rfl) o10 n 0 (fun _=>0) ho10 ?_ ?_
 intro k3 s2 a4 K5 cont6 hK7 hcont8 h hr9
 replace h:ref08_Same_L0 n v0_a v1_b (k3+1) s2=some o10:=h
 rw [ref08_Same_L0] at h
 conv=>lhs;whnf
 revert h
 refine br ?_ ?_
 refine ix ?_;intro x12
 refine ix ?_;intro x13
 intro h
 have hf15:flatT Try.prog 40=some (fieldsOf Try.prog 40):=by kernel_rfl
 simp only [hf15,List.length_map,take_map_len]
 conv=>lhs;whnf
 revert h
 refine br ?_ ?_
 exact fun h=>cq (hcont8 (IntKind.i64.wrap (s2+1)) (fun _=>0) h)
 intro h;cases sj h
 refine (hK7 _ _).trans ?_
 refine Eq.trans ?_ (Eq.symm (show _=some _ from hr9))
 conv=>lhs;whnf
 exact rq
 intro h;cases sj h
 exact kq (hr9 (fun _=>0))
 refine lrc ?_ ?_
 intro v e;subst e;cases sj h;rfl
 intro t a16 e;subst e
 dsimp only at h
 conv=>lhs;whnf
 revert h
 exact rz
end Go.Proofs.Ytejkhpgahnncnaa
end

section
namespace Go.Proofs.Ytejkhpgahnncnaa
set_option linter.unusedVariables false
set_option linter.unusedSimpArgs false
set_option maxRecDepth 100000
set_option maxHeartbeats 4000000

theorem ok_ref09_Right {n:Nat} ⦃v0_u:UnitS⦄ ⦃v1_c:ConfS⦄ ⦃v2_model:Int⦄ ⦃v3_room:Int⦄ ⦃r:Bool⦄:m_ref09_Right n v0_u v1_c v2_model v3_room=some r→CN n 27 [AV.agg [iA (v0_u.mod),AV.sl 1 (List.map encI (v0_u.init)),AV.sl 1 (List.map encI (v0_u.regs)),AV.sl 1 (List.map encThr (v0_u.code))],AV.agg [AV.sl 1 (List.map encI (v1_c.pc)),AV.sl 1 (List.map encRow (v1_c.regs)),AV.sl 1 (List.map encI (v1_c.mem)),AV.sl 1 (List.map encBuf (v1_c.buf))],iA v2_model,iA v3_room] []=some (bA r,[]):=by
 intro h;rcases n with _|n;cases h
 rw [m_ref09_Right] at h
 refine callN_eq' Try.func27 (by rfl) rfl rfl (Nat.le_of_ble_eq_true rfl) ?_
 intro call hc;conv=>lhs;whnf
 revert h
 refine ca hc (fun _ h=>ok_ref07_Right h) ?_;intro y1
 refine br ?_ ?_
 refine br ?_ ?_
 exact rz
 refine br ?_ ?_
 exact rz
 refine br ?_ ?_
 exact rz
 refine br ?_ ?_
 exact rz
 refine ca hc (fun _ h=>ok_ref06_All h) ?_;intro y8
 refine br ?_ ?_
 intro h;refine bind_some2 h ?_;clear h;intro o19 ho19 h
 refine lq (σ:=Int) (τ:=Unit) (ν:=Bool) 0 (fun s11 a13=>stOf 129 [(2,iA v2_model),(3,iA v3_room),(4,AV.ptr 0 0),(5,AV.ptr 1 0),(9,iA ((((v0_u.regs).length:Nat):Int))),(10,iA s11)]) (fun s11 a13=>[Ob.var 25 [iA (v0_u.mod),AV.sl 1 (List.map encI (v0_u.init)),AV.sl 1 (List.map encI (v0_u.regs)),AV.sl 1 (List.map encThr (v0_u.code))],Ob.var 31 [AV.sl 1 (List.map encI (v1_c.pc)),AV.sl 1 (List.map encRow (v1_c.regs)),AV.sl 1 (List.map encI (v1_c.mem)),AV.sl 1 (List.map encBuf (v1_c.buf))]]) (fun _ a37=>stOf 129 [(2,iA v2_model),(3,iA v3_room),(4,AV.ptr 0 0)]) (fun _ a37=>[Ob.var 25 [iA (v0_u.mod),AV.sl 1 (List.map encI (v0_u.init)),AV.sl 1 (List.map encI (v0_u.regs)),AV.sl 1 (List.map encThr (v0_u.code))],Ob.var 31 [AV.sl 1 (List.map encI (v1_c.pc)),AV.sl 1 (List.map encRow (v1_c.regs)),AV.sl 1 (List.map encI (v1_c.mem)),AV.sl 1 (List.map encBuf (v1_c.buf))]]) (fun v=>(bA v,[])) (fun k s=>ref09_Right_L0 n v0_u v1_c v2_model v3_room k s) (fun s=>rfl) o19 n 0 (fun _=>0) ho19 ?_ ?_
 intro k12 s11 a13 K14 cont15 hK16 hcont17 h hr18
 replace h:ref09_Right_L0 n v0_u v1_c v2_model v3_room (k12+1) s11=some o19:=h
 rw [ref09_Right_L0] at h
 conv=>lhs;whnf
 revert h
 refine br ?_ ?_
 refine ix ?_;intro x21
 refine br ?_ ?_
 intro h;cases sj h
 refine (hK16 _ _).trans ?_
 refine Eq.trans ?_ (Eq.symm (show _=some _ from hr18))
 conv=>lhs;whnf
 exact rq
 refine ix ?_;intro x23
 refine ix ?_;intro x24
 refine br ?_ ?_
 intro h;cases sj h
 refine (hK16 _ _).trans ?_
 refine Eq.trans ?_ (Eq.symm (show _=some _ from hr18))
 conv=>lhs;whnf
 exact rq
 refine ix ?_;intro x26
 refine ix ?_;intro x27
 refine br ?_ ?_
 intro h;cases sj h
 refine (hK16 _ _).trans ?_
 refine Eq.trans ?_ (Eq.symm (show _=some _ from hr18))
 conv=>lhs;whnf
 exact rq
 refine ix ?_;intro x29
 refine ca hc (fun _ h=>ok_ref06_All h) ?_;intro y30
 refine br ?_ ?_
 refine ix ?_;intro x33
 refine cr hc (fun _ h=>ok_ref08_Right h) ?_;intro y34
 refine br ?_ ?_
 exact fun h=>cq (hcont17 (IntKind.i64.wrap (s11+1)) (fun _=>0) h)
 intro h;cases sj h
 refine (hK16 _ _).trans ?_
 refine Eq.trans ?_ (Eq.symm (show _=some _ from hr18))
 conv=>lhs;whnf
 exact rq
 intro h;cases sj h
 refine (hK16 _ _).trans ?_
 refine Eq.trans ?_ (Eq.symm (show _=some _ from hr18))
 conv=>lhs;whnf
 exact rq
 intro h;cases sj h
 exact kq (hr18 (fun _=>0))
 refine lrc ?_ ?_
 intro v e;subst e;cases sj h;rfl
 intro t a37 e;subst e
 dsimp only at h
 conv=>lhs;whnf
 revert h
 refine cr hc (fun y38 h=>(show CN n 48 [AV.sl 2 [],iA v2_model,iA v3_room,iA (v0_u.mod),iA ((((v0_u.init).length:Nat):Int))] []=some (bA y38,[]) from ok_ref08_Right (r:=y38) h)) ?_;intro y38
 exact rz
 exact rz
 exact rz

theorem ok_ref09_Same {n:Nat} ⦃v0_a:ConfS⦄ ⦃v1_b:ConfS⦄ ⦃r:Bool⦄:m_ref09_Same n v0_a v1_b=some r→CN n 14 [AV.agg [AV.sl 1 (List.map encI (v0_a.pc)),AV.sl 1 (List.map encRow (v0_a.regs)),AV.sl 1 (List.map encI (v0_a.mem)),AV.sl 1 (List.map encBuf (v0_a.buf))],AV.agg [AV.sl 1 (List.map encI (v1_b.pc)),AV.sl 1 (List.map encRow (v1_b.regs)),AV.sl 1 (List.map encI (v1_b.mem)),AV.sl 1 (List.map encBuf (v1_b.buf))]] []=some (bA r,[]):=by
 intro h;rcases n with _|n;cases h
 rw [m_ref09_Same] at h
 refine callN_eq' Try.func14 (by rfl) rfl rfl (Nat.le_of_ble_eq_true rfl) ?_
 intro call hc;conv=>lhs;whnf
 revert h
 refine ca hc (fun _ h=>ok_ref07_Ints h) ?_;intro y1
 refine br ?_ ?_
 refine ca hc (fun _ h=>ok_ref07_Ints h) ?_;intro y4
 refine br ?_ ?_
 refine br ?_ ?_
 exact rz
 refine br ?_ ?_
 exact rz
 intro h;refine bind_some2 h ?_;clear h;intro o17 ho17 h
 refine lq (σ:=Int) (τ:=Unit) (ν:=Bool) 0 (fun s9 a11=>stOf 77 [(2,AV.ptr 0 0),(3,AV.ptr 1 0),(5,iA s9)]) (fun s9 a11=>[Ob.var 31 [AV.sl 1 (List.map encI (v0_a.pc)),AV.sl 1 (List.map encRow (v0_a.regs)),AV.sl 1 (List.map encI (v0_a.mem)),AV.sl 1 (List.map encBuf (v0_a.buf))],Ob.var 31 [AV.sl 1 (List.map encI (v1_b.pc)),AV.sl 1 (List.map encRow (v1_b.regs)),AV.sl 1 (List.map encI (v1_b.mem)),AV.sl 1 (List.map encBuf (v1_b.buf))]]) (fun _ a24=>stOf 77 [(2,AV.ptr 0 0),(3,AV.ptr 1 0)]) (fun _ a24=>[Ob.var 31 [AV.sl 1 (List.map encI (v0_a.pc)),AV.sl 1 (List.map encRow (v0_a.regs)),AV.sl 1 (List.map encI (v0_a.mem)),AV.sl 1 (List.map encBuf (v0_a.buf))],Ob.var 31 [AV.sl 1 (List.map encI (v1_b.pc)),AV.sl 1 (List.map encRow (v1_b.regs)),AV.sl 1 (List.map encI (v1_b.mem)),AV.sl 1 (List.map encBuf (v1_b.buf))]]) (fun v=>(bA v,[])) (fun k s=>ref09_Same_L0 n v0_a v1_b k s) (fun s=>rfl) o17 n 0 (fun _=>0) ho17 ?_ ?_
 intro k10 s9 a11 K12 cont13 hK14 hcont15 h hr16
 replace h:ref09_Same_L0 n v0_a v1_b (k10+1) s9=some o17:=h
 rw [ref09_Same_L0] at h
 conv=>lhs;whnf
 revert h
 refine br ?_ ?_
 refine ix ?_;intro x19
 refine ix ?_;intro x20
 refine ca hc (fun _ h=>ok_ref07_Ints h) ?_;intro y21
 refine br ?_ ?_
 exact fun h=>cq (hcont15 (IntKind.i64.wrap (s9+1)) (fun _=>0) h)
 intro h;cases sj h
 refine (hK14 _ _).trans ?_
 refine Eq.trans ?_ (Eq.symm (show _=some _ from hr16))
 conv=>lhs;whnf
 exact rq
 intro h;cases sj h
 exact kq (hr16 (fun _=>0))
 refine lrc ?_ ?_
 intro v e;subst e;cases sj h;rfl
 intro t a24 e;subst e
 dsimp only at h
 conv=>lhs;whnf
 revert h
 intro h;refine bind_some2 h ?_;clear h;intro o33 ho33 h
 refine lq (σ:=Int) (τ:=Unit) (ν:=Bool) 2 (fun s25 a27=>stOf 77 [(2,AV.ptr 0 0),(3,AV.ptr 1 0),(6,iA s25)]) (fun s25 a27=>[Ob.var 31 [AV.sl 1 (List.map encI (v0_a.pc)),AV.sl 1 (List.map encRow (v0_a.regs)),AV.sl 1 (List.map encI (v0_a.mem)),AV.sl 1 (List.map encBuf (v0_a.buf))],Ob.var 31 [AV.sl 1 (List.map encI (v1_b.pc)),AV.sl 1 (List.map encRow (v1_b.regs)),AV.sl 1 (List.map encI (v1_b.mem)),AV.sl 1 (List.map encBuf (v1_b.buf))]]) (fun _ a40=>stOf 77 []) (fun _ a40=>[Ob.var 31 [AV.sl 1 (List.map encI (v0_a.pc)),AV.sl 1 (List.map encRow (v0_a.regs)),AV.sl 1 (List.map encI (v0_a.mem)),AV.sl 1 (List.map encBuf (v0_a.buf))],Ob.var 31 [AV.sl 1 (List.map encI (v1_b.pc)),AV.sl 1 (List.map encRow (v1_b.regs)),AV.sl 1 (List.map encI (v1_b.mem)),AV.sl 1 (List.map encBuf (v1_b.buf))]]) (fun v=>(bA v,[])) (fun k s=>ref09_Same_L1 n v0_a v1_b k s) (fun s=>rfl) o33 n 0 (fun _=>0) ho33 ?_ ?_
 intro k26 s25 a27 K28 cont29 hK30 hcont31 h hr32
 replace h:ref09_Same_L1 n v0_a v1_b (k26+1) s25=some o33:=h
 rw [ref09_Same_L1] at h
 conv=>lhs;whnf
 revert h
 refine br ?_ ?_
 refine ix ?_;intro x35
 refine ix ?_;intro x36
 refine ca hc (fun _ h=>ok_ref08_Same h) ?_;intro y37
 refine br ?_ ?_
 exact fun h=>cq (hcont31 (IntKind.i64.wrap (s25+1)) (fun _=>0) h)
 intro h;cases sj h
 refine (hK30 _ _).trans ?_
 refine Eq.trans ?_ (Eq.symm (show _=some _ from hr32))
 conv=>lhs;whnf
 exact rq
 intro h;cases sj h
 exact kq (hr32 (fun _=>0))
 refine lrc ?_ ?_
 intro v e;subst e;cases sj h;rfl
 intro t a40 e;subst e
 dsimp only at h
 conv=>lhs;whnf
 revert h
 exact rz
 exact rz
 exact rz

theorem ok_ref09_Start {n:Nat} ⦃v0_u:UnitS⦄ ⦃r:(ConfS×Int)⦄:m_ref09_Start n v0_u=some r→CN n 13 [AV.agg [iA (v0_u.mod),AV.sl 1 (List.map encI (v0_u.init)),AV.sl 1 (List.map encI (v0_u.regs)),AV.sl 1 (List.map encThr (v0_u.code))]] []=some (AV.tup [AV.agg [AV.sl 1 (List.map encI (r.1.pc)),AV.sl 1 (List.map encRow (r.1.regs)),AV.sl 1 (List.map encI (r.1.mem)),AV.sl 1 (List.map encBuf (r.1.buf))],iA r.2],[]):=by
 intro h;rcases n with _|n;cases h
 rw [m_ref09_Start] at h
 refine callN_eq' Try.func13 (by rfl) rfl rfl (Nat.le_of_ble_eq_true rfl) ?_
 intro call hc;conv=>lhs;whnf
 revert h
 refine ca hc (fun _ h=>ok_ref07_Right h) ?_;intro y1
 refine br ?_ ?_
 intro h;refine bind_some2 h ?_;clear h;intro o15 ho15 h
 refine lq (σ:=(Int×(List Int)×(List (List Int))×(List (List EntryS)))) (τ:=((List Int)×(List (List Int))×(List (List EntryS)))) (ν:=(ConfS×Int)) 0 (fun (s4,s5,s6,s7) a9=>stOf 46 [(1,AV.ptr 0 0),(2,AV.ptr 1 0),(4,AV.ptr 2 0),(5,iA s4)]) (fun (s4,s5,s6,s7) a9=>[Ob.var 25 [iA (v0_u.mod),AV.sl 1 (List.map encI (v0_u.init)),AV.sl 1 (List.map encI (v0_u.regs)),AV.sl 1 (List.map encThr (v0_u.code))],Ob.var 31 [AV.row 3 (List.length (([]:List Int))),AV.row 4 (List.length (([]:List (List Int)))),AV.row 5 (List.length (([]:List Int))),AV.row 6 (List.length (([]:List (List EntryS))))],Ob.var 31 [AV.row 7 (List.length s5),AV.row 8 (List.length s6),AV.row 9 (List.length (([]:List Int))),AV.row 10 (List.length s7)],Ob.row 3 1 ([]),Ob.row 22 1 ([]),Ob.row 3 1 ([]),Ob.row 38 1 ([]),Ob.row 3 1 (List.map encI s5),Ob.row 22 1 (List.map encRow s6),Ob.row 3 1 ([]),Ob.row 38 1 (List.map encBuf s7)]) (fun (x27,x28,x29) a26=>stOf 46 [(1,AV.ptr 0 0),(2,AV.ptr 1 0),(4,AV.ptr 2 0)]) (fun (x27,x28,x29) a26=>[Ob.var 25 [iA (v0_u.mod),AV.sl 1 (List.map encI (v0_u.init)),AV.sl 1 (List.map encI (v0_u.regs)),AV.sl 1 (List.map encThr (v0_u.code))],Ob.var 31 [AV.row 3 (List.length (([]:List Int))),AV.row 4 (List.length (([]:List (List Int)))),AV.row 5 (List.length (([]:List Int))),AV.row 6 (List.length (([]:List (List EntryS))))],Ob.var 31 [AV.row 7 (List.length x27),AV.row 8 (List.length x28),AV.row 9 (List.length (([]:List Int))),AV.row 10 (List.length x29)],Ob.row 3 1 ([]),Ob.row 22 1 ([]),Ob.row 3 1 ([]),Ob.row 38 1 ([]),Ob.row 3 1 (List.map encI x27),Ob.row 22 1 (List.map encRow x28),Ob.row 3 1 ([]),Ob.row 38 1 (List.map encBuf x29)]) (fun v=>(AV.tup [AV.agg [AV.sl 1 (List.map encI (v.1.pc)),AV.sl 1 (List.map encRow (v.1.regs)),AV.sl 1 (List.map encI (v.1.mem)),AV.sl 1 (List.map encBuf (v.1.buf))],iA v.2],[])) (fun k s=>ref09_Start_L0 n v0_u k s.1 s.2.1 s.2.2.1 s.2.2.2) (fun s=>rfl) o15 n (0,([]:List Int),([]:List (List Int)),([]:List (List EntryS))) (fun _=>0) ho15 ?_ ?_
 intro k8 ss a9 K10 cont11 hK12 hcont13 h hr14
 obtain ⟨s4,s5,s6,s7⟩:=ss
 replace h:ref09_Start_L0 n v0_u (k8+1) s4 s5 s6 s7=some o15:=h
 rw [ref09_Start_L0] at h
 conv=>lhs;whnf
 revert h
 refine br ?_ ?_
 refine ar (ap encI (List.map encI s5) s5 ([[iA (0)]]) ([0]:List Int)) ?_
 refine ix ?_;intro x19
 intro h
 refine chk_some2 h ?_;clear h;intro hc21 h
 try simp only [ls]
 refine bif_pos (by first|exact make_ok (B:=8) hc21 rfl (by kernel_rfl)|exact make_ok2 (B:=8) hc21 (by kernel_rfl)) ?_
 have hr20:List.replicate x19.toNat [iA (0)]=List.map encI (List.replicate x19.toNat 0:List Int):=by rw [List.map_replicate];rfl
 simp only [hr20,ls]
 conv=>lhs;whnf
 revert h
 refine ar (ap encRow (List.map encRow s6) s6 ([[AV.sl 1 (List.map encI ((List.replicate x19.toNat 0:List Int)))]]) ([(List.replicate x19.toNat 0:List Int)]:List (List Int))) ?_
 refine ar (ap encBuf (List.map encBuf s7) s7 ([[AV.sl 2 []]]) ([([]:List EntryS)]:List (List EntryS))) ?_
 exact fun h=>cq (hcont13 (IntKind.i64.wrap (s4+1),(s5++([0]:List Int)),(s6++([(List.replicate x19.toNat 0:List Int)]:List (List Int))),(s7++([([]:List EntryS)]:List (List EntryS)))) (fun _=>0) h)
 intro h;cases sj h
 exact kq (hr14 (fun _=>0))
 refine lrc ?_ ?_
 intro v e;subst e;cases sj h;rfl
 intro t a26 e;subst e
 obtain ⟨x27,x28,x29⟩:=t
 dsimp only at h
 conv=>lhs;whnf
 revert h
 refine ar (ap encI ([]) ([]:List Int) (List.map encI (v0_u.init)) v0_u.init) ?_
 intro h;cases sj h
 try simp only [ls]
 exact fq (y:=some (AV.tup [AV.agg [AV.sl 1 (List.take (List.length x27) (List.map encI x27)),AV.sl 1 (List.take (List.length x28) (List.map encRow x28)),AV.sl 1 (List.take (List.length ((([]:List Int)++v0_u.init))) (List.map encI (([]:List Int)++v0_u.init))),AV.sl 1 (List.take (List.length x29) (List.map encBuf x29))],iA (0)],[]))
 exact rz
end Go.Proofs.Ytejkhpgahnncnaa
end

section
namespace Go.Proofs.Ytejkhpgahnncnaa
open Go.RowKit
set_option linter.unusedVariables false
set_option linter.unusedSimpArgs false

theorem dec_confV {S : Nat → Nat → Prop} {w : World} {v : Value} {c : ConfS} (h : Rep S w [] [] (aC c) v) : ConfV w v c := by
  obtain ⟨vs, hr, _, rfl⟩ := h.agg_inv
  exact conf_of (cs := vs.toArray) (d_conf.2 _ _ _ _ hr)
/-- A block of numbers, or of entries, between two bounds. -/
def LeafAt (lo hi : Nat) (w : World) (b : Nat) : Prop := lo ≤ b ∧ b < hi ∧ ∃ cs E, w.heap[b]? = some (.cells cs E (0, 0)) ∧ (E = 3 ∨ E = 40)
/-- What may have been spoilt: the cells of such blocks. -/
structure Sp (lo hi : Nat) (w5 w : World) : Prop where
  below : Below lo w5 w
  heap : ∀ b, ¬ LeafAt lo hi w5 b → w.heap[b]? = w5.heap[b]?
  shape : ∀ (b : Nat) cs E, w5.heap[b]? = some (.cells cs E (0, 0)) → ∃ cs', cs'.size = cs.size ∧ w.heap[b]? = some (.cells cs' E (0, 0))
theorem Sp.refl (lo hi : Nat) (w : World) : Sp lo hi w w := ⟨Below.refl _ _, fun _ _ => rfl, fun b cs E h => ⟨cs, rfl, h⟩⟩
theorem Sp.set {lo hi : Nat} {w5 w : World} (h : Sp lo hi w5 w) {p : Addr} (hl : LeafAt lo hi w5 p.block) (v : Value) : Sp lo hi w5 (w.setCell p v) := by
  refine ⟨h.below.setCell hl.1 v, fun b hb => ?_, fun b cs E hb => ?_⟩
  · have hne : b ≠ p.block := by rintro rfl; exact hb hl
    exact (Below.heap_setCell w p v b hne).trans (h.heap b hb)
  · obtain ⟨cs', e1, e2⟩ := h.shape b cs E hb
    by_cases hbp : b = p.block
    · subst hbp
      refine ⟨if p.spot.isSome then cs' else cs'.setIfInBounds p.off v, by split <;> simp [e1], ?_⟩
      simp [World.setCell, Array.getElem?_modify, e2]
    · exact ⟨cs', e1, (Below.heap_setCell w p v b hbp).trans e2⟩
theorem Sp.cell {lo hi : Nat} {w5 w : World} (h : Sp lo hi w5 w) {b o : Nat} {v : Value} (hb : ¬ LeafAt lo hi w5 b) (hv : w5.cell? ⟨b, o, none⟩ = some v) : w.cell? ⟨b, o, none⟩ = some v :=
  (World.cell?_of_block (a := ⟨b, o, none⟩) (h.heap b hb)).trans hv
theorem not_leaf {lo hi : Nat} {w : World} {b : Nat} {cs : Array Value} {E : TypeId} (h : w.heap[b]? = some (.cells cs E (0, 0))) (h1 : E ≠ 3) (h2 : E ≠ 40) : ¬ LeafAt lo hi w b := by
  rintro ⟨_, _, cs', E', h', hE⟩
  rw [h] at h'
  obtain ⟨_, rfl⟩ : cs = cs' ∧ E = E' := by simpa using h'
  exact hE.elim h1 h2
/-- A header's cell. -/
theorem Sp.head {lo hi : Nat} {w5 w : World} (h : Sp lo hi w5 w) {B : Nat} {e : TypeId} {n m cap : Nat} {a : Option Addr} {vals : List Value} (ho : w5.ownsRow B e 1 (.slice a m cap) n vals) (h1 : e ≠ 3) (h2 : e ≠ 40) {i : Nat} {x : Value} (hx : vals[i]? = some x) : m = n ∧ ∃ g, a = some ⟨g, 0, none⟩ ∧ w.cell? ⟨g, i, none⟩ = some x := by
  have hi : i < n := by have := (List.getElem?_eq_some_iff.1 hx).1; have := ho.1; omega
  rcases owns_split ho with ⟨_, h0⟩ | ⟨g, cap', ex, hv, hg, hgg, h3, h4, _⟩
  · omega
  · obtain ⟨rfl, rfl, rfl⟩ := Value.slice.inj hv
    refine ⟨rfl, g, rfl, h.cell (not_leaf hgg h1 h2) ?_⟩
    have h5 : (vals ++ ex)[i]? = some x := by rw [List.getElem?_append_left (List.getElem?_eq_some_iff.1 hx).1]; exact hx
    simp only [World.cell?, hgg]
    simpa using h5
theorem sl_owns {α : Type} {r : Rd α} {cells : α → List Value} (hlen : ∀ x, (cells x).length = r.size) {w : World} {B : Nat} {e : TypeId} {v : Value} {l : List α} (ho : w.ownsRow B e r.size v l.length (l.flatMap cells)) (hr : ∀ x ∈ l, r.rel w (cells x) x) : Sl r w v l := by
  rcases owns_split ho with ⟨rfl, h0⟩ | ⟨g, cap, ex, rfl, hg, hh, hc, hm, _⟩
  · exact ⟨none, 0, by rw [h0], ⟨by omega, by decide, fun _ => rfl⟩, fun k hk => by omega⟩
  · refine ⟨some ⟨g, 0, none⟩, cap, rfl, ⟨hc, hm, fun h => by cases h⟩, fun k hk => ⟨g, 0, cells l[k], rfl, hlen _, fun j u hj => ?_, hr _ (List.getElem_mem hk)⟩⟩
    have hjl : j < r.size := by rw [← hlen l[k]]; exact (List.getElem?_eq_some_iff.1 hj).1
    have h1 := flat_at cells r.size hlen l k hk j hjl
    rw [hj] at h1
    have h2 : (l.flatMap cells ++ ex)[k * r.size + j]? = some u := by rw [List.getElem?_append_left (List.getElem?_eq_some_iff.1 h1).1]; exact h1
    simp only [World.cell?, hh]
    rw [Nat.zero_add]
    simpa using h2
theorem sl_rows {α : Type} {r : Rd α} {w : World} {B : Nat} {eT e : TypeId} {size : Nat} {v : Value} {vals : List Value} {f : List α → List Value} {l : List (List α)} (h : RowsAt B w eT e size v vals (l.map f)) (hr : ∀ (k : Nat) (hk : k < l.length) (x : Value), vals[k]? = some x → (∃ m, w.ownsRow B e size x m (f l[k])) → Sl r w x l[k]) : Sl (rSlice r) w v l := by
  have hl := h.len
  rw [List.length_map] at hl
  have ho := h.own
  rw [List.length_map] at ho
  rcases owns_split ho with ⟨rfl, h0⟩ | ⟨g, cap, ex, rfl, hg, hh, hc, hm, _⟩
  · exact ⟨none, 0, by rw [h0], ⟨by omega, by decide, fun _ => rfl⟩, fun k hk => by omega⟩
  · refine ⟨some ⟨g, 0, none⟩, cap, rfl, ⟨hc, hm, fun h => by cases h⟩, fun k hk => ?_⟩
    have hk' : k < vals.length := by omega
    have hx : vals[k]? = some vals[k] := List.getElem?_eq_getElem hk'
    refine ⟨g, 0, [vals[k]], rfl, rfl, fun j u hj => ?_, ?_⟩
    · have hj0 : j = 0 := by have := (List.getElem?_eq_some_iff.1 hj).1; simpa using this
      subst hj0
      obtain rfl : vals[k] = u := by simpa using hj
      have h2 : (vals ++ ex)[k]? = some vals[k] := by rw [List.getElem?_append_left hk']; exact hx
      simp only [World.cell?, hh]
      rw [show 0 + k * (rSlice r).size + 0 = k by show 0 + k * 1 + 0 = k; omega]
      simpa using h2
    · exact hr k hk _ hx (h.row k _ _ hx (by rw [List.getElem?_map, List.getElem?_eq_getElem hk]; rfl))
theorem rI_rel {w : World} {x : Int} (h : -9223372036854775808 ≤ x ∧ x ≤ 9223372036854775807) : rI.rel w [.int .i64 x] x := by
  refine ⟨rfl, ?_⟩
  rw [Lit.wf, Bool.and_eq_true]
  exact ⟨decide_eq_true h.1, decide_eq_true h.2⟩
theorem owns_len {w : World} {B : Nat} {e : TypeId} {size n : Nat} {v : Value} {xs : List Value} (h : w.ownsRow B e size v n xs) (hs : 0 < size) {k : Nat} (hx : xs.length = k * size) : n = k := by
  have := h.1
  rw [hx] at this
  exact (Nat.eq_of_mul_eq_mul_right hs this).symm
theorem flat_one : ∀ l : List Int, l.flatMap (fun x => [Value.int .i64 x]) = l.map (Value.int .i64)
  | [] => rfl
  | x :: l => by simp [flat_one l]
/-- Such a copy reads as what was copied. -/
theorem CopyIs.conf {B : Nat} {w w0 : World} {c : ConfS} {vp vr vm vb v : Value} {xr xb : List Value} (h : CopyIs B w c vp vr vm vb xr xb) (hv : ConfV w0 v c) : ConfV w (.agg #[vp, vr, vm, vb]) c := by
  obtain ⟨_, _, _, _, _, s1, s2, s3, s4⟩ := hv
  have ints : ∀ {l : List Int} {v x : Value} {n : Nat}, Sl rI w0 v l → w.ownsRow B 3 1 x n (l.map (Value.int .i64)) → Sl rI w x l := by
    intro l v x n hs ho
    obtain rfl := owns_len ho (by decide) (k := l.length) (by simp)
    have e : l.flatMap (fun x => [Value.int .i64 x]) = l.map (Value.int .i64) := flat_one l
    refine sl_owns (cells := fun x => [Value.int .i64 x]) (fun _ => rfl) (by rw [e]; exact ho) fun x hx => ?_
    obtain ⟨i, hi, rfl⟩ := List.getElem_of_mem hx
    obtain ⟨a, cap, _, h1⟩ := ints_view hs
    obtain ⟨_, _, _, _, b1, b2⟩ := h1 i hi
    exact rI_rel ⟨b1, b2⟩
  have ents : ∀ {l : List EntryS} {v x : Value} {n : Nat}, Sl rEntry w0 v l → w.ownsRow B 40 2 x n (l.flatMap entC) → Sl rEntry w x l := by
    intro l v x n hs ho
    obtain rfl := owns_len ho (by decide) (k := l.length) (flat_length entC 2 entC_len l)
    refine sl_owns (r := rEntry) (cells := entC) (fun _ => rfl) ho fun x hx => ?_
    obtain ⟨i, hi, rfl⟩ := List.getElem_of_mem hx
    obtain ⟨a, cap, _, h1⟩ := entries_view hs
    obtain ⟨_, _, _, _, _, b1, b2⟩ := h1 i hi
    exact ⟨(l[i].loc, l[i].n), ⟨rI_rel b1, rI_rel b2⟩, rfl⟩
  refine ⟨vp, vr, vm, vb, rfl, ints s1 h.pc, sl_rows h.regs fun k hk x hx ⟨m, hm⟩ => ?_, ints s3 h.mem, sl_rows h.buf fun k hk x hx ⟨m, hm⟩ => ?_⟩
  · obtain ⟨a, cap, _, h1⟩ := slices_view s2
    obtain ⟨_, _, u, _, _, hu⟩ := h1 k hk
    exact ints hu hm
  · obtain ⟨a, cap, _, h1⟩ := slices_view s4
    obtain ⟨_, _, u, _, _, hu⟩ := h1 k hk
    exact ents hu hm
end Go.Proofs.Ytejkhpgahnncnaa
end

section
namespace Go.Proofs.Ytejkhpgahnncnaa
open Go.RowKit
set_option linter.unusedVariables false
set_option linter.unusedSimpArgs false

/-- What a step leaves: all blocks but those of one kind. -/
def Keeps (E : TypeId) (w w' : World) : Prop := ∀ (b : Nat) cs E' f, w.heap[b]? = some (.cells cs E' f) → E' ≠ E → w'.heap[b]? = w.heap[b]?
theorem keeps_set {w : World} {D k : Nat} {cs : Array Value} {E : TypeId} {f : Nat × Nat} (h : w.heap[D]? = some (.cells cs E f)) (v : Value) : Keeps E w (w.setCell ⟨D, k, none⟩ v) := by
  intro b cs' E' f' hb hne
  refine Below.heap_setCell w ⟨D, k, none⟩ v b ?_
  rintro rfl
  rw [h] at hb
  cases hb
  exact hne rfl
theorem owns_keeps {w w' : World} {B : Nat} {e E : TypeId} {size n : Nat} {v : Value} {xs : List Value} (h : w.ownsRow B e size v n xs) (hk : Keeps E w w') (he : e ≠ E) : w'.ownsRow B e size v n xs := by
  refine ⟨h.1, ?_⟩
  rcases h.2 with hn | ⟨g, cap, cur, rfl, hbg, hgg, rest⟩
  · exact .inl hn
  · exact .inr ⟨g, cap, cur, rfl, hbg, (hk g _ _ _ hgg he).trans hgg, rest⟩
theorem RowsAt.keeps {B : Nat} {w w' : World} {eT e E : TypeId} {size : Nat} {v : Value} {vals : List Value} {rows : List (List Value)} (h : RowsAt B w eT e size v vals rows) (hk : Keeps E w w') (h1 : eT ≠ E) (h2 : e ≠ E) : RowsAt B w' eT e size v vals rows :=
  ⟨h.len, owns_keeps h.own hk h1, fun i x r a b => let ⟨m, hm⟩ := h.row i x r a b; ⟨m, owns_keeps hm hk h2⟩, h.apart, h.dist⟩
theorem Fresh.keeps {w w' : World} {b : Nat} {cs : Array Value} {E E' : TypeId} (h : Fresh w b (.cells cs E')) (hk : Keeps E w w') (he : E' ≠ E) : Fresh w' b (.cells cs E') := (hk b _ _ _ h he).trans h
theorem Fresh.put {w : World} {b k : Nat} {cs : Array Value} {E : TypeId} (h : Fresh w b (.cells cs E)) (v : Value) : Fresh (w.setCell ⟨b, k, none⟩ v) b (.cells (cs.setIfInBounds k v) E) := by
  unfold Fresh at h ⊢
  simp [World.setCell, Array.getElem?_modify, h]
theorem Fresh.open {w : World} {b k : Nat} {cs : Array Value} {E : TypeId} {v : Value} (h : Fresh w b (.cells cs E)) (hv : cs[k]? = some v) : w.cell? ⟨b, k, none⟩ = some v ∧ w.frozen? ⟨b, k, none⟩ = false := by
  unfold Fresh at h
  exact ⟨by simp [World.cell?, h, hv], by simp [World.frozen?, h]⟩
theorem arr_ints {w : World} {v : Value} {l : List Int} (hv : Sl rI w v l) : Arr w 1 v l.length (l.map (Value.int .i64)) := by
  obtain ⟨a', cap', h1, h2⟩ := ints_view hv
  obtain ⟨a, cap, h0, hp, _⟩ := hv
  obtain rfl : v = .slice a l.length cap := by simpa using h0
  refine ⟨by simp, a, cap, rfl, hp, fun j u hj => ?_⟩
  rw [List.getElem?_map] at hj
  cases hjl : l[j]? with
  | none => rw [hjl] at hj; cases hj
  | some x =>
    rw [hjl] at hj
    obtain rfl := Option.some.inj hj
    obtain ⟨hj', rfl⟩ := List.getElem?_eq_some_iff.1 hjl
    obtain ⟨b, off, h3, h4, _⟩ := h2 j hj'
    obtain ⟨rfl, _, rfl⟩ := Value.slice.inj h1
    exact ⟨b, off, h3, h4⟩

theorem ownsR_form {w : World} {B : Nat} {e : TypeId} {size n : Nat} {v : Value} {xs : List Value} (h : w.ownsRow B e size v n xs) : ∃ a m c, v = .slice a m c := by
  rcases h.2 with ⟨rfl, _⟩ | ⟨g, cap, cur, rfl, _⟩ <;> exact ⟨_, _, _, rfl⟩
theorem RowsAt.same {B B' : Nat} {w w' : World} {eT e : TypeId} {size : Nat} {v : Value} {vals : List Value} {rows : List (List Value)} (h : RowsAt B w eT e size v vals rows) (hB : B' ≤ B) (hw : ∀ b, B ≤ b → b < w.heap.size → w'.heap[b]? = w.heap[b]?) : RowsAt B' w' eT e size v vals rows :=
  ⟨h.len, owns_heap h.own fun b hb => ⟨Nat.le_trans hB (ownsR_block h.own hb).1, hw b (ownsR_block h.own hb).1 (ownsR_block h.own hb).2⟩, fun i x r h1 h2 => let ⟨m, hm⟩ := h.row i x r h1 h2; ⟨m, owns_heap hm fun b hb => ⟨Nat.le_trans hB (ownsR_block hm hb).1, hw b (ownsR_block hm hb).1 (ownsR_block hm hb).2⟩⟩, h.apart, h.dist⟩
theorem owns_same' {B B' : Nat} {w w' : World} {e : TypeId} {size n : Nat} {v : Value} {xs : List Value} (h : w.ownsRow B e size v n xs) (hB : B' ≤ B) (hw : ∀ b, B ≤ b → b < w.heap.size → w'.heap[b]? = w.heap[b]?) : w'.ownsRow B' e size v n xs :=
  owns_heap h fun b hb => ⟨Nat.le_trans hB (ownsR_block h hb).1, hw b (ownsR_block h hb).1 (ownsR_block h hb).2⟩
/-- A copy whose rows are all one's own, each in a block of its own. -/
structure OwnC (B : Nat) (w : World) (c : ConfS) (vp vr vm vb : Value) (xr xb : List Value) : Prop extends CopyIs B w c vp vr vm vb xr xb where
  pm : ∀ b, vp.ownBlock = some b → vm.ownBlock ≠ some b
  pr : ∀ (i : Nat) x b, xr[i]? = some x → x.ownBlock = some b → vp.ownBlock ≠ some b ∧ vm.ownBlock ≠ some b

end Go.Proofs.Ytejkhpgahnncnaa
end

section
namespace Go.Proofs.Ytejkhpgahnncnaa
open Go.RowKit
set_option linter.unusedVariables false
set_option linter.unusedSimpArgs false

theorem ownsR_get {w : World} {B : Nat} {e : TypeId} {size n : Nat} {v : Value} {xs : List Value} (h : w.ownsRow B e size v n xs) (h0 : 0 < n) : ∃ g cap cs, v = .slice (some ⟨g, 0, none⟩) n cap ∧ B ≤ g ∧ w.heap[g]? = some (.cells cs e (0, 0)) ∧ n ≤ cap ∧ cap ≤ maxLen ∧ cs.size = cap * size ∧ cs.toList.take (n * size) = xs := by
  rcases h.2 with ⟨_, rfl⟩ | h
  · omega
  · exact h
/-- A cell of a row is written. -/
theorem owns_set {w : World} {B : Nat} {e : TypeId} {size n : Nat} {v : Value} {xs : List Value} (h : w.ownsRow B e size v n xs) {g : Nat} (hg : v.ownBlock = some g) {k : Nat} (hk : k < n * size) (x : Value) : (w.setCell ⟨g, k, none⟩ x).ownsRow B e size v n (xs.set k x) := by
  refine ⟨by rw [List.length_set]; exact h.1, .inr ?_⟩
  rcases h.2 with ⟨rfl, _⟩ | ⟨g', cap, cs, rfl, h1, h2, h3, h4, h5, h6⟩
  · cases hg
  · obtain rfl : g' = g := by simpa [Value.ownBlock] using hg
    refine ⟨g', cap, cs.setIfInBounds k x, rfl, h1, by simp [World.setCell, Array.getElem?_modify, h2], h3, h4, by simp [h5], ?_⟩
    rw [← h6]
    simp only [Array.toList_setIfInBounds]
    rw [List.take_set]
/-- A row of rows: one row is put in another's place. -/
theorem RowsAt.put {B : Nat} {w w2 : World} {eT e : TypeId} {size : Nat} {v : Value} {vals : List Value} {rows : List (List Value)} (h : RowsAt B w eT e size v vals rows) (hne : e ≠ eT) {k : Nat} {x y : Value} {r : List Value} {m : Nat} (hx : vals[k]? = some x) (hk : Keeps e w w2)
    (hoth : ∀ b, b < w.heap.size → x.ownBlock ≠ some b → w2.heap[b]? = w.heap[b]?) (hy : w2.ownsRow B e size y m r) (hnew : ∀ b, y.ownBlock = some b → x.ownBlock = some b ∨ w.heap.size ≤ b) {g : Nat} (hg : v.ownBlock = some g) :
    RowsAt B (w2.setCell ⟨g, k, none⟩ y) eT e size v (vals.set k y) (rows.set k r) := by
  have hkv : k < vals.length := (List.getElem?_eq_some_iff.1 hx).1
  have hkr : k < rows.length := by rw [← h.len]; exact hkv
  obtain ⟨mx, hmx⟩ := h.row k x _ hx (List.getElem?_eq_getElem hkr)
  have ho2 := owns_keeps h.own hk (Ne.symm hne)
  obtain ⟨g', cap, cs, hv, _, hgg, _⟩ := ownsR_get ho2 (by omega : 0 < rows.length)
  obtain rfl : g' = g := by rw [hv] at hg; simpa [Value.ownBlock] using hg
  have hks : Keeps eT w2 (w2.setCell ⟨g', k, none⟩ y) := keeps_set hgg y
  have hgy : y.ownBlock ≠ some g' := fun e1 => by
    rcases hnew g' e1 with h1 | h1
    · exact h.apart k x g' hx h1 hg
    · have := (ownsR_block h.own hg).2; omega
  have key : ∀ (i : Nat) (z : Value), (vals.set k y)[i]? = some z → (i = k ∧ z = y) ∨ (i ≠ k ∧ vals[i]? = some z) := fun i z hz => by
    rw [List.getElem?_set] at hz
    split at hz
    · rename_i hki
      subst hki
      (try rw [if_pos hkv] at hz)
      exact .inl ⟨rfl, (Option.some.inj hz).symm⟩
    · rename_i hki
      exact .inr ⟨fun h => hki h.symm, hz⟩
  refine ⟨by rw [List.length_set, List.length_set]; exact h.len, ?_, fun i z r' hz hr' => ?_, fun i z b hz hb => ?_, fun i j z z' b hz hz' hb hb' => ?_⟩
  · have := owns_set ho2 hg (k := k) (by omega) y
    rwa [List.length_set]
  · rcases key i z hz with ⟨rfl, rfl⟩ | ⟨hik, hz⟩
    · obtain rfl : r = r' := by rw [List.getElem?_set_self hkr] at hr'; exact Option.some.inj hr'
      exact ⟨m, owns_keeps hy hks hne⟩
    · rw [List.getElem?_set_ne (Ne.symm hik)] at hr'
      obtain ⟨m', hm'⟩ := h.row i z r' hz hr'
      refine ⟨m', owns_keeps (owns_heap hm' fun b hb => ⟨(ownsR_block hm' hb).1, hoth b (ownsR_block hm' hb).2 fun e1 => hik (h.dist i k z x b hz hx hb e1)⟩) hks hne⟩
  · rcases key i z hz with ⟨rfl, rfl⟩ | ⟨hik, hz⟩
    · intro e1
      rw [hg] at e1
      cases e1
      exact hgy hb
    · exact h.apart i z b hz hb
  · rcases key i z hz with ⟨rfl, rfl⟩ | ⟨hik, hz2⟩ <;> rcases key j z' hz' with ⟨rfl, rfl⟩ | ⟨hjk, hz2'⟩
    · rfl
    · rcases hnew b hb with h1 | h1
      · exact absurd (h.dist j _ z' x b hz2' hx hb' h1) hjk
      · have := (h.lt hz2' hb').2; omega
    · rcases hnew b hb' with h1 | h1
      · exact absurd (h.dist i _ z x b hz2 hx hb h1) hik
      · have := (h.lt hz2 hb).2; omega
    · exact h.dist i j z z' b hz2 hz2' hb hb'
theorem keeps_below {E : TypeId} {w w' : World} (h : Below w.heap.size w w') : Keeps E w w' := fun b cs E' f hb _ => h.block b (Array.getElem?_eq_some_iff.1 hb).1

/-- Each row in its own block, whatever its elements. -/
theorem rep_ownedN {S : Nat → Nat → Prop} {w : World} {B : Nat} {e : TypeId} {size : Nat} {v : Value} {els : List (List AV)} {vss : List (List Value)} (h : w.ownsRow B e size v vss.length vss.flatten) (hr : Repss S w els vss) (hl : ∀ vs ∈ vss, vs.length = size)
    (hS : ∀ g cs o, B ≤ g → w.heap[g]? = some (.cells cs e (0, 0)) → o < cs.size → S g o) : Rep S w [] [] (.sl size els) v := by
  have hlen := hr.length
  rcases owns_split h with ⟨rfl, h0⟩ | ⟨g, cap, ex, rfl, hg, hh, hc, hm, hsz⟩
  · have : vss = [] := List.eq_nil_of_length_eq_zero h0
    subst this
    have : els = [] := List.eq_nil_of_length_eq_zero (by simpa using hlen)
    subst this
    exact Rep.sl [] [] size [] [] none 0 .nil ⟨by simp, fun j vs t x h2 h3 => by simp at h2⟩ ⟨Nat.le_refl _, by decide, fun _ => rfl⟩
  · have := Rep.sl (S := S) (w := w) [] [] size els vss (some ⟨g, 0, none⟩) cap hr ⟨hl, fun j vs t u h2 h3 => ?_⟩ ⟨by rw [hlen]; exact hc, hm, fun h => by cases h⟩
    · rw [hlen] at this; exact this
    · have ht : t < size := by
        have := (List.getElem?_eq_some_iff.1 h3).1
        rw [hl vs (List.mem_of_getElem? h2)] at this
        exact this
      have e1 := flatten_at hl h2 ht
      rw [h3] at e1
      have hlt := (List.getElem?_eq_some_iff.1 e1).1
      refine ⟨g, 0, rfl, hS g _ _ hg hh (by simp; simp at hlt; omega), ?_⟩
      rw [show 0 + j * size + t = j * size + t by omega]
      simp only [World.cell?, hh]
      have : (vss.flatten ++ ex)[j * size + t]? = some u := by rw [List.getElem?_append_left hlt]; exact e1
      simpa using this
theorem repss_map {α : Type} {S : Nat → Nat → Prop} {w : World} {f : α → List AV} {g : α → List Value} : ∀ (l : List α), (∀ x ∈ l, Reps S w [] [] (f x) (g x) ∧ Ones (g x)) → Repss S w (l.map f) (l.map g)
  | [], _ => .nil
  | x :: l, h => .cons _ _ _ _ (h x List.mem_cons_self).1 (h x List.mem_cons_self).2 (repss_map l fun y hy => h y (List.mem_cons_of_mem _ hy))
theorem repss_zip {α : Type} {S : Nat → Nat → Prop} {w : World} {f : α → AV} : ∀ (l : List α) (vals : List Value), vals.length = l.length → (∀ (i : Nat) x v, l[i]? = some x → vals[i]? = some v → Rep S w [] [] (f x) v ∧ v.oneCell' = true) → Repss S w (l.map fun x => [f x]) (vals.map fun v => [v])
  | [], [], _, _ => .nil
  | x :: l, v :: vals, hl, h => .cons _ _ _ _ (.cons _ _ _ _ _ _ (h 0 x v rfl rfl).1 (.nil _ _)) (fun u hu => by rw [List.mem_singleton] at hu; rw [hu]; exact (h 0 x v rfl rfl).2) (repss_zip l vals (by simpa using hl) fun i x v h1 h2 => h (i + 1) x v (by simpa using h1) (by simpa using h2))
  | [], _ :: _, hl, _ => by simp at hl
  | _ :: _, [], hl, _ => by simp at hl
abbrev okI (x : Int) : Prop := (Lit.int .i64 x).wf = true
/-- Its numbers are numbers of the machine's. -/
structure WfC (c : ConfS) : Prop where
  pc : ∀ x ∈ c.pc, okI x
  regs : ∀ r ∈ c.regs, ∀ x ∈ r, okI x
  mem : ∀ x ∈ c.mem, okI x
  buf : ∀ b ∈ c.buf, ∀ x ∈ b, okI x.loc ∧ okI x.n
theorem wf_ints {w : World} {v : Value} {l : List Int} (h : Sl rI w v l) : ∀ x ∈ l, okI x := by
  intro x hx
  obtain ⟨i, hi, rfl⟩ := List.getElem_of_mem hx
  obtain ⟨a, cap, _, h1⟩ := ints_view h
  obtain ⟨_, _, _, _, b1, b2⟩ := h1 i hi
  unfold okI
  rw [Lit.wf, Bool.and_eq_true]
  exact ⟨decide_eq_true b1, decide_eq_true b2⟩
theorem wf_ents {w : World} {v : Value} {l : List EntryS} (h : Sl rEntry w v l) : ∀ x ∈ l, okI x.loc ∧ okI x.n := by
  intro x hx
  obtain ⟨i, hi, rfl⟩ := List.getElem_of_mem hx
  obtain ⟨a, cap, _, h1⟩ := entries_view h
  obtain ⟨_, _, _, _, _, b1, b2⟩ := h1 i hi
  unfold okI
  rw [Lit.wf, Bool.and_eq_true, Lit.wf, Bool.and_eq_true]
  exact ⟨⟨decide_eq_true b1.1, decide_eq_true b1.2⟩, decide_eq_true b2.1, decide_eq_true b2.2⟩
theorem ConfV.wf {w : World} {v : Value} {c : ConfS} (h : ConfV w v c) : WfC c := by
  obtain ⟨_, _, _, _, _, s1, s2, s3, s4⟩ := h
  refine ⟨wf_ints s1, fun r hr => ?_, wf_ints s3, fun b hb => ?_⟩
  · obtain ⟨i, hi, rfl⟩ := List.getElem_of_mem hr
    obtain ⟨a, cap, _, h1⟩ := slices_view s2
    obtain ⟨_, _, u, _, _, hu⟩ := h1 i hi
    exact wf_ints hu
  · obtain ⟨i, hi, rfl⟩ := List.getElem_of_mem hb
    obtain ⟨a, cap, _, h1⟩ := slices_view s4
    obtain ⟨_, _, u, _, _, hu⟩ := h1 i hi
    exact wf_ents hu
theorem owns_one {w : World} {B : Nat} {e : TypeId} {size n : Nat} {v : Value} {xs : List Value} (h : w.ownsRow B e size v n xs) : v.oneCell' = true := by
  obtain ⟨a, m, c, rfl⟩ := ownsR_form h
  rfl
/-- Cells of the copy's own blocks. -/
abbrev LeafE (E : TypeId) : Prop := E = 3 ∨ E = 22 ∨ E = 40 ∨ E = 38
theorem CopyIs.rep {S : Nat → Nat → Prop} {B : Nat} {w : World} {c : ConfS} {vp vr vm vb : Value} {xr xb : List Value} (h : CopyIs B w c vp vr vm vb xr xb) (hw : WfC c)
    (hS : ∀ g cs E o, B ≤ g → w.heap[g]? = some (.cells cs E (0, 0)) → LeafE E → o < cs.size → S g o) : Rep S w [] [] (aC c) (.agg #[vp, vr, vm, vb]) := by
  have ints : ∀ {l : List Int} {x : Value} {n : Nat}, (∀ y ∈ l, okI y) → w.ownsRow B 3 1 x n (l.map (Value.int .i64)) → Rep S w [] [] (aIs l) x := by
    intro l x n hl ho
    obtain rfl := owns_len ho (by decide) (k := l.length) (by simp)
    refine rep_ownedN (vss := l.map fun y => [Value.int .i64 y]) (e := 3) (B := B) ?_ (repss_map (f := encI) l fun y hy => ⟨.cons _ _ _ _ _ _ (.int _ _ _ _ (hl y hy)) (.nil _ _), by intro u hu; simp at hu; subst hu; rfl⟩) (by intro vs hv; simp at hv; obtain ⟨y, _, rfl⟩ := hv; rfl) (fun g cs o h1 h2 h3 => hS g cs _ o h1 h2 (.inl rfl) h3)
    rw [List.length_map, ← List.flatMap_def, flat_one]
    exact ho
  have ents : ∀ {l : List EntryS} {x : Value} {n : Nat}, (∀ y ∈ l, okI y.loc ∧ okI y.n) → w.ownsRow B 40 2 x n (l.flatMap entC) → Rep S w [] [] (aEs l) x := by
    intro l x n hl ho
    obtain rfl := owns_len ho (by decide) (k := l.length) (flat_length entC 2 entC_len l)
    refine rep_ownedN (vss := l.map entC) (e := 40) (B := B) ?_ (repss_map (f := encE) l fun y hy => ⟨.cons _ _ _ _ _ _ (.int _ _ _ _ (hl y hy).1) (.cons _ _ _ _ _ _ (.int _ _ _ _ (hl y hy).2) (.nil _ _)), by intro u hu; simp [entC] at hu; rcases hu with rfl | rfl <;> rfl⟩) (by intro vs hv; simp at hv; obtain ⟨y, _, rfl⟩ := hv; rfl) (fun g cs o h1 h2 h3 => hS g cs _ o h1 h2 (.inr (.inr (.inl rfl))) h3)
    rw [List.length_map, ← List.flatMap_def]
    exact ho
  have rows : ∀ {α : Type} {l : List α} {f : α → AV} {r : α → List Value} {eT e : TypeId} {size : Nat} {v : Value} {vals : List Value}, RowsAt B w eT e size v vals (l.map r) → LeafE eT → (∀ (i : Nat) x u m, l[i]? = some x → w.ownsRow B e size u m (r x) → Rep S w [] [] (f x) u) → Rep S w [] [] (.sl 1 (l.map fun x => [f x])) v := by
    intro α l f r eT e size v vals hR hE hf
    have hl := hR.len
    rw [List.length_map] at hl
    have ho := hR.own
    rw [List.length_map] at ho
    refine rep_ownedN (vss := vals.map fun u => [u]) (e := eT) (B := B) ?_ (repss_zip l vals hl fun i x u h1 h2 => ?_) (by intro vs hv; simp at hv; obtain ⟨y, _, rfl⟩ := hv; rfl) (fun g cs o h1 h2 h3 => hS g cs _ o h1 h2 hE h3)
    · rw [List.length_map, hl]
      have e1 : ∀ l : List Value, (l.map fun u => [u]).flatten = l := fun l => by induction l <;> simp_all
      rw [e1]
      exact ho
    · obtain ⟨m, hm⟩ := hR.row i u (r x) h2 (by rw [List.getElem?_map, h1]; rfl)
      exact ⟨hf i x u m h1 hm, owns_one hm⟩
  refine .agg _ _ _ [vp, vr, vm, vb] (.cons _ _ _ _ _ _ (ints hw.pc h.pc) (.cons _ _ _ _ _ _ (rows h.regs (.inr (.inl rfl)) fun i x u m h1 h2 => ints (hw.regs x (List.mem_of_getElem? h1)) h2) (.cons _ _ _ _ _ _ (ints hw.mem h.mem) (.cons _ _ _ _ _ _ (rows h.buf (.inr (.inr (.inr rfl))) fun i x u m h1 h2 => ents (hw.buf x (List.mem_of_getElem? h1)) h2) (.nil _ _))))) ?_
  intro x hx
  simp only [List.mem_cons, List.not_mem_nil, or_false] at hx
  rcases hx with rfl | rfl | rfl | rfl
  · exact owns_one h.pc
  · exact owns_one h.regs.own
  · exact owns_one h.mem
  · exact owns_one h.buf.own
theorem own_cells {w : World} {B : Nat} {e : TypeId} {size n : Nat} {v : Value} {xs : List Value} (h : w.ownsRow B e size v n xs) {g : Nat} (hg : v.ownBlock = some g) : B ≤ g ∧ ∃ cs, w.heap[g]? = some (.cells cs e (0, 0)) := by
  rcases h.2 with ⟨rfl, _⟩ | ⟨g', cap, cs, rfl, h1, h2, _⟩
  · cases hg
  · obtain rfl : g' = g := by simpa [Value.ownBlock] using hg
    exact ⟨h1, cs, h2⟩
/-- A thread's waiting stores are put in the others' place. -/
theorem CopyIs.putBuf {B : Nat} {w w2 : World} {c : ConfS} {vp vr vm vb : Value} {xr xb : List Value} (h : CopyIs B w c vp vr vm vb xr xb) {k : Nat} {x y : Value} {b' : List EntryS} {m : Nat} (hx : xb[k]? = some x) (hk : Keeps 40 w w2)
    (hoth : ∀ b, b < w.heap.size → x.ownBlock ≠ some b → w2.heap[b]? = w.heap[b]?) (hy : w2.ownsRow B 40 2 y m (b'.flatMap entC)) (hnew : ∀ b, y.ownBlock = some b → x.ownBlock = some b ∨ w.heap.size ≤ b) {g : Nat} (hg : vb.ownBlock = some g) :
    CopyIs B (w2.setCell ⟨g, k, none⟩ y) { c with buf := c.buf.set k b' } vp vr vm vb xr (xb.set k y) := by
  obtain ⟨_, cs, hgg⟩ := own_cells (owns_keeps h.buf.own hk (by decide)) hg
  have hks : Keeps 38 w2 (w2.setCell ⟨g, k, none⟩ y) := keeps_set hgg y
  refine ⟨owns_keeps (owns_keeps h.pc hk (by decide)) hks (by decide), (h.regs.keeps hk (by decide) (by decide)).keeps hks (by decide) (by decide), owns_keeps (owns_keeps h.mem hk (by decide)) hks (by decide), ?_⟩
  have := h.buf.put (by decide) hx hk hoth hy hnew hg
  rwa [← List.map_set] at this
end Go.Proofs.Ytejkhpgahnncnaa
end

