/- Parts of the proofs of the laws of layer 1, scan (text ScanQ). Conditions: none. -/
import Derived.Test.YtnmlejjdofbaiaaScanP
import Derived.Test.YtnmlejjdofbaiaaScanF
import Derived.Test.YtnmlejjdofbaiaaScanH
import Derived.Test.YtnmlejjdofbaiaaScanJ
namespace Go.Proofs.Ytnmlejjdofbaiaa
open Go.RowKit

/-- Scan, at a text whose tokens are known. -/
def ScanAt (r : ScanRes) (w : World) (e : Ending) (w' : World) : Prop :=
  ∃ v, e = .returned (.tuple #[v, .int .i64 r.err, .int .i64 r.at']) ∧ Toks w' v r.toks ∧ Below w.heap.size w w'

theorem scan_at (l : List UInt8) (r : ScanRes) (w : World) (hr : scanL l = r) : Calls Try.prog 9 #[.string (bs l)] w (ScanAt r w) :=
  (scan_any (bs l) w).mono fun e w' ⟨v, he, ho, hb⟩ => by
    have e1 : (bs l).data.toList = l := rfl
    rw [e1, hr] at he ho
    exact ⟨v, he, Arr.of_owns ho, hb⟩

def knownToks : List Tok := [⟨1, [97], 0, 0⟩, ⟨3, [61], 0, 1⟩, ⟨1, [98], 0, 2⟩, ⟨3, [61, 61], 0, 3⟩, ⟨2, [49], 1, 5⟩]
theorem known1 : scanL [97, 61, 98, 61, 61, 49, 32, 35, 32, 110, 111] = ⟨knownToks, 0, 0⟩ := by rfl
theorem known2 : scanL [97, 32, 36] = ⟨[], 3, 2⟩ := by rfl
theorem known3 : scanL [32, 49, 48, 48, 48, 48] = ⟨[], 4, 1⟩ := by rfl

theorem name_at (l : List UInt8) (b : Bool) (w : World) (hs : l.length ≤ 1000) (hb : nameB l = b) : Calls Try.prog 14 #[.string (bs l)] w fun e w' => e = .returned (.bool b) ∧ Below w.heap.size w w' := by
  subst hb
  exact name_any (bs l) w (by show l.length ≤ _; omega)

theorem keyword_at (l : List UInt8) (b : Bool) (w : World) (hb : kwB l = b) : Calls Try.prog 12 #[.string (bs l)] w fun e w' => e = .returned (.bool b) ∧ w = w' := by
  subst hb
  exact keyword_any (bs l) w

def KnownPost (w : World) (e : Ending) (w' : World) : Prop := e = .returned (.bool true) ∧ Below w.heap.size w w'

set_option maxRecDepth 100000 in
set_option maxHeartbeats 4000000 in
theorem known_any (w : World) : Calls Try.prog 8 #[] w (KnownPost w) := by
  go_enter Try.func8, Try.ntmps8
  go_wp2_with fail
  refine (scan_at _ _ _ known1).mono ?_
  rintro e w1 ⟨v1, rfl, ht1, hb1⟩
  go_wp2_with fail
  refine (scan_at _ _ _ known2).mono ?_
  rintro e w2 ⟨v2, rfl, ht2, hb2⟩
  clear ht2
  go_wp2_with fail
  refine (scan_at _ _ _ known3).mono ?_
  rintro e w3 ⟨v3, rfl, ht3, hb3⟩
  clear ht3
  have h12 := hb2.mono hb1.size
  have hz1 := hb1.size; have hz2 := hb2.size; have hz3 := hb3.size
  have ht := (ht1.mono hb2).mono hb3
  have HB := Lib.hid (hb1.trans ((hb2.mono hz1).trans (hb3.mono (by omega))))
  clear h12 hb1 hb2 hb3 ht1
  have HT := Lib.hid ht
  rcases ht.cases with ⟨_, h0⟩ | ⟨b, off, cap, rfl, hc⟩
  · simp [knownToks] at h0
  have c1 := (hc 1 (by decide)).2.1
  have c3 := (hc 3 (by decide)).2.1
  obtain ⟨c40, c41, c42, c43⟩ := hc 4 (by decide)
  have hlen : knownToks.length = 5 := rfl
  clear ht hc
  simp only [knownToks, List.getElem_cons_succ, List.getElem_cons_zero] at c1 c3 c40 c41 c42 c43
  go_wp2_with fail
  refine (keyword_at _ true _ rfl).mono ?_
  rintro e w4 ⟨rfl, rfl⟩
  go_wp2_with fail
  refine (name_at _ false _ (by decide) rfl).mono ?_
  rintro e w4 ⟨rfl, hb4⟩
  go_wp2_with fail
  refine (name_at _ true _ (by decide) rfl).mono ?_
  rintro e w5 ⟨rfl, hb5⟩
  go_wp2_with fail
  refine (name_at _ false _ (by decide) rfl).mono ?_
  rintro e w6 ⟨rfl, hb6⟩
  have hz4 := hb4.size; have hz5 := hb5.size; have hz6 := hb6.size
  have HT2 := Lib.hid (((HT.out.mono hb4).mono hb5).mono hb6)
  have HB2 := Lib.hid (HB.out.trans ((hb4.mono (by omega)).trans ((hb5.mono (by omega)).trans (hb6.mono (by omega)))))
  clear hb4 hb5 hb6
  go_wp2_with fail
  refine (show_any knownToks _ 16 _ HT2.out (by decide) (by decide) (by decide)).mono ?_
  rintro e w7 ⟨rfl, hb7⟩
  have HB3 := Lib.hid (HB2.out.trans (hb7.mono (by omega)))
  have hsh : showB knownToks knownToks.length = [97, 32, 61, 32, 98, 32, 61, 61, 32, 49] := rfl
  rw [hsh]
  go_wp2
  go_ret
  exact ⟨rfl, HB3.out⟩

end Go.Proofs.Ytnmlejjdofbaiaa
