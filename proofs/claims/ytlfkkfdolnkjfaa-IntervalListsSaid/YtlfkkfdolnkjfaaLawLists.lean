/- The walk of the law IntervalLists. -/
import Derived.Test.YtlfkkfdolnkjfaaRLists
import Derived.Test.YtlfkkfdolnkjfaaKnown11
import Derived.Deep.DeepCutAuto
namespace Go.Proofs.Ytlfkkfdolnkjfaa
open Go.RowKit Go.Shelf Go.Sort
set_option linter.unusedSimpArgs false
set_option linter.unusedVariables false

/-- What Union gives: its list and its error. -/
def UC (zs us : List (Int × Int)) (er : Int) : Prop := (badS zs = true ∧ us = [] ∧ er = 3) ∨ (badS zs = false ∧ 64 < zs.length ∧ us = [] ∧ er = 8) ∨ (badS zs = false ∧ zs.length ≤ 64 ∧ er = 0 ∧ gapsS us ∧ (∀ z ∈ us, vS z.1 z.2 = true) ∧ ∀ t, anyIn t us = anyIn t zs)
theorem UC_uniq {zs us us' : List (Int × Int)} {er er' : Int} (h : UC zs us er) (h' : UC zs us' er') : us = us' ∧ er = er' := by
  rcases h with ⟨a, rfl, rfl⟩ | ⟨a, b, rfl, rfl⟩ | ⟨a, b, rfl, c, d, e⟩ <;> rcases h' with ⟨a', rfl, rfl⟩ | ⟨a', b', rfl, rfl⟩ | ⟨a', b', rfl, c', d', e'⟩
  · exact ⟨rfl, rfl⟩
  · rw [a] at a'; cases a'
  · rw [a] at a'; cases a'
  · rw [a] at a'; cases a'
  · exact ⟨rfl, rfl⟩
  · omega
  · rw [a] at a'; cases a'
  · omega
  · exact ⟨gaps_uniq _ _ c c' d d' (fun t => by rw [e, e']), rfl⟩
def UnX (w : World) (zs : List (Int × Int)) (e : Ending) (w' : World) : Prop := ∃ (us : List (Int × Int)) (A : Option Addr) (cap : Nat) (er : Int), e = .returned (.tuple #[.slice A us.length cap, .int .i64 er]) ∧ SpansAt w' A us.length us ∧ UC zs us er ∧ Below w.heap.size w w'
theorem spans_nil {w : World} {A : Option Addr} : SpansAt w A 0 [] := ⟨rfl, by omega, fun h => by omega⟩
theorem union_x {w w' : World} {zs : List (Int × Int)} {e : Ending} (h : UnionR w zs e w') : UnX w zs e w' := by
  obtain ⟨hb, ⟨h1, h2⟩ | ⟨h0, h1, h2⟩ | ⟨h0, h1, ds, A, cap, hs, he, hsp⟩⟩ := h
  · exact ⟨[], none, 0, 3, h2, spans_nil, .inl ⟨h1, rfl, rfl⟩, hb⟩
  · exact ⟨[], none, 0, 8, h2, spans_nil, .inr (.inl ⟨h0, h1, rfl, rfl⟩), hb⟩
  · have hv : ∀ z ∈ zs, vS z.1 z.2 = true := fun z hz' => by have h1 := List.any_eq_false.1 h0 z hz'; simpa using h1
    obtain ⟨g1, g2, g3⟩ := union_law hs hv
    exact ⟨mergeS ds, A, cap, 0, he, hsp, .inr (.inr ⟨h0, h1, rfl, g1, g2, g3⟩), hb⟩
theorem runion_x {w w' : World} {zs : List (Int × Int)} {e : Ending} (h : RUnionR w zs e w') : UnX w zs e w' := by
  obtain ⟨hb, ⟨h1, h2⟩ | ⟨h0, h1, h2⟩ | ⟨h0, h1, us, A, cap, he, hsp, -, g1, g2, g3⟩⟩ := h
  · exact ⟨[], none, 0, 3, h2, spans_nil, .inl ⟨h1, rfl, rfl⟩, hb⟩
  · exact ⟨[], none, 0, 8, h2, spans_nil, .inr (.inl ⟨h0, h1, rfl, rfl⟩), hb⟩
  · exact ⟨us, A, cap, 0, he, hsp, .inr (.inr ⟨h0, h1, rfl, g1, g2, g3⟩), hb⟩
theorem comV_form (zs : List (Int × Int)) : ∃ x y b, comV zs = .tuple #[.agg #[.int .i64 x, .int .i64 y], .bool b] := by
  unfold comV comVb; split <;> exact ⟨_, _, _, rfl⟩
set_option maxRecDepth 100000 in
set_option maxHeartbeats 2000000 in
theorem lists_core (A : Option Addr) (len cap : Nat) (zs : List (Int × Int)) (hN : A = none → cap = 0) (w : World) (h : SpansAt w A len zs) :
    Calls Try.prog 4 #[.slice A len cap] w (RB w (.bool true)) := by
  have hlm := h.2.1
  by_cases h70 : 70 < len
  · have g0 : decide (70 < (len : Int)) = true := decide_eq_true (by omega)
    have g0n : decide (70 < len) = true := decide_eq_true h70
    go_enter Try.func4, Try.ntmps4
    go_wp2_with fail
    refine (known11_any _).mono ?_
    rintro e w1 ⟨rfl, hb1⟩
    have K1 : Below w.heap.size w w1 := kept_call hb1 (by (repeat' (first | (with_reducible exact Below.refl _ _) | (with_reducible refine Below.setCell ?_ ?_ _) | (with_reducible refine Below.alloc ?_ ?_ _) | (with_reducible refine Below.drew ?_) | (with_reducible refine below_drewN ?_ _))) <;> (first | omega | (simp <;> omega)))
    have Z1 : w.heap.size ≤ w1.heap.size := K1.size
    clear hb1
    go_wp2
    go_ret
    exact ⟨rfl, (by (repeat' (first | (with_reducible exact K1) | (with_reducible refine Below.setCell ?_ ?_ _) | (with_reducible refine Below.alloc ?_ ?_ _) | (with_reducible refine Below.drew ?_) | (with_reducible refine below_drewN ?_ _))) <;> (first | omega | (simp <;> omega)))⟩
  have g0 : decide (70 < (len : Int)) = false := decide_eq_false (by omega)
  have g0n : decide (70 < len) = false := decide_eq_false h70
  obtain ⟨x, y, b, hc⟩ := comV_form zs
  have r1 := fun W (hW : Below w.heap.size w W) => hc ▸ common_any A len cap zs W (h.below hW)
  have r2 := fun W (hW : Below w.heap.size w W) => hc ▸ rcommon_any A len cap zs W (h.below hW)
  have r3 := fun W (hW : Below w.heap.size w W) => (union_any A len cap zs W (h.below hW)).mono fun _ _ h => union_x h
  have r4 := fun W (hW : Below w.heap.size w W) => (runion_any A len cap zs hN W (h.below hW)).mono fun _ _ h => runion_x h
  have R1 := Lib.hid r1; have R2 := Lib.hid r2; have R3 := Lib.hid r3; have R4 := Lib.hid r4
  clear r1 r2 r3 r4 hc h hN
  go_enter Try.func4, Try.ntmps4
  go_wp2_with fail
  refine (R1.out _ (by (repeat' (first | (with_reducible exact Below.refl _ _) | (with_reducible refine Below.setCell ?_ ?_ _) | (with_reducible refine Below.alloc ?_ ?_ _) | (with_reducible refine Below.drew ?_) | (with_reducible refine below_drewN ?_ _))) <;> (first | omega | (simp <;> omega)))).mono ?_
  rintro e w1 ⟨rfl, hb1⟩
  have K1 : Below w.heap.size w w1 := kept_call hb1 (by (repeat' (first | (with_reducible exact Below.refl _ _) | (with_reducible refine Below.setCell ?_ ?_ _) | (with_reducible refine Below.alloc ?_ ?_ _) | (with_reducible refine Below.drew ?_) | (with_reducible refine below_drewN ?_ _))) <;> (first | omega | (simp <;> omega)))
  have Z1 : w.heap.size ≤ w1.heap.size := K1.size
  clear hb1
  go_wp2_with fail
  refine (R2.out _ (by (repeat' (first | (with_reducible exact K1) | (with_reducible refine Below.setCell ?_ ?_ _) | (with_reducible refine Below.alloc ?_ ?_ _) | (with_reducible refine Below.drew ?_) | (with_reducible refine below_drewN ?_ _))) <;> (first | omega | (simp <;> omega)))).mono ?_
  rintro e w2 ⟨rfl, hb2⟩
  have K2 : Below w.heap.size w w2 := kept_call hb2 (by (repeat' (first | (with_reducible exact K1) | (with_reducible refine Below.setCell ?_ ?_ _) | (with_reducible refine Below.alloc ?_ ?_ _) | (with_reducible refine Below.drew ?_) | (with_reducible refine below_drewN ?_ _))) <;> (first | omega | (simp <;> omega)))
  have Z2 : w.heap.size ≤ w2.heap.size := K2.size
  have b2_0 := Blk.keep (g := w1.heap.size) hb2 (by (repeat' (first | ((with_reducible refine' Blk.newE ?_); first | rfl | (simp; done)) | (with_reducible refine' Blk.alloc ?_ _) | (with_reducible refine' Blk.drew ?_) | (with_reducible refine' Blk.drewN ?_ _) | (with_reducible refine' Blk.put ?_ ?_) | (with_reducible refine' Blk.far ?_ ?_ _) | exact rfl)) <;> (first | omega | (simp <;> omega)))
  (try simp only [List.setIfInBounds_toArray, List.set_cons_zero, List.set_cons_succ] at b2_0)
  clear hb2 K1
  obtain ⟨c2_0, f2_0, l2_0, e2_0, k2_0⟩ := Blk.facts b2_0
  have o2_0 := l2_0
  go_wp2_with fail
  refine (R3.out _ (by (repeat' (first | (with_reducible exact K2) | (with_reducible refine Below.setCell ?_ ?_ _) | (with_reducible refine Below.alloc ?_ ?_ _) | (with_reducible refine Below.drew ?_) | (with_reducible refine below_drewN ?_ _))) <;> (first | omega | (simp <;> omega)))).mono ?_
  rintro e w3 ⟨us, Au, cu, eu, rfl, hsu, hu, hb3⟩
  have K3 : Below w.heap.size w w3 := kept_call hb3 (by (repeat' (first | (with_reducible exact K2) | (with_reducible refine Below.setCell ?_ ?_ _) | (with_reducible refine Below.alloc ?_ ?_ _) | (with_reducible refine Below.drew ?_) | (with_reducible refine below_drewN ?_ _))) <;> (first | omega | (simp <;> omega)))
  have Z3 : w.heap.size ≤ w3.heap.size := K3.size
  have b2_0' := Blk.keep (g := w1.heap.size) hb3 (by (repeat' (first | (with_reducible refine' Blk.alloc ?_ _) | (with_reducible refine' Blk.drew ?_) | (with_reducible refine' Blk.drewN ?_ _) | (with_reducible refine' Blk.put ?_ ?_) | (with_reducible refine' Blk.far ?_ ?_ _) | exact b2_0 | exact rfl)) <;> (first | omega | (simp <;> omega)))
  (try simp only [List.setIfInBounds_toArray, List.set_cons_zero, List.set_cons_succ] at b2_0')
  have b3_0 := Blk.keep (g := w2.heap.size) hb3 (by (repeat' (first | ((with_reducible refine' Blk.newE ?_); first | rfl | (simp; done)) | (with_reducible refine' Blk.alloc ?_ _) | (with_reducible refine' Blk.drew ?_) | (with_reducible refine' Blk.drewN ?_ _) | (with_reducible refine' Blk.put ?_ ?_) | (with_reducible refine' Blk.far ?_ ?_ _) | exact rfl)) <;> (first | omega | (simp <;> omega)))
  (try simp only [List.setIfInBounds_toArray, List.set_cons_zero, List.set_cons_succ] at b3_0)
  clear hb3 K2
  clear b2_0 c2_0 f2_0 l2_0 e2_0 k2_0; have b2_0 := b2_0'; clear b2_0'
  obtain ⟨c2_0, f2_0, l2_0, e2_0, k2_0⟩ := Blk.facts b2_0
  obtain ⟨c3_0, f3_0, l3_0, e3_0, k3_0⟩ := Blk.facts b3_0
  have o3_0 := l3_0
  have SU := Lib.hid hsu; have HU := Lib.hid hu; clear hsu hu
  have K3' := K3
  go_wp2_with fail
  refine (R4.out _ (by (repeat' (first | (with_reducible exact K3) | (with_reducible refine Below.setCell ?_ ?_ _) | (with_reducible refine Below.alloc ?_ ?_ _) | (with_reducible refine Below.drew ?_) | (with_reducible refine below_drewN ?_ _))) <;> (first | omega | (simp <;> omega)))).mono ?_
  rintro e w4 ⟨vs, Av, cv, ev, rfl, hsv, hv, hb4⟩
  obtain ⟨rfl, rfl⟩ := UC_uniq HU.out hv
  have SU4 := Lib.hid (SU.out.below hb4); clear SU HU hv
  have K4 : Below w.heap.size w w4 := kept_call hb4 (by (repeat' (first | (with_reducible exact K3) | (with_reducible refine Below.setCell ?_ ?_ _) | (with_reducible refine Below.alloc ?_ ?_ _) | (with_reducible refine Below.drew ?_) | (with_reducible refine below_drewN ?_ _))) <;> (first | omega | (simp <;> omega)))
  have Z4 : w.heap.size ≤ w4.heap.size := K4.size
  have b2_0' := Blk.keep (g := w1.heap.size) hb4 (by (repeat' (first | (with_reducible refine' Blk.alloc ?_ _) | (with_reducible refine' Blk.drew ?_) | (with_reducible refine' Blk.drewN ?_ _) | (with_reducible refine' Blk.put ?_ ?_) | (with_reducible refine' Blk.far ?_ ?_ _) | exact b2_0 | exact rfl)) <;> (first | omega | (simp <;> omega)))
  (try simp only [List.setIfInBounds_toArray, List.set_cons_zero, List.set_cons_succ] at b2_0')
  have b3_0' := Blk.keep (g := w2.heap.size) hb4 (by (repeat' (first | (with_reducible refine' Blk.alloc ?_ _) | (with_reducible refine' Blk.drew ?_) | (with_reducible refine' Blk.drewN ?_ _) | (with_reducible refine' Blk.put ?_ ?_) | (with_reducible refine' Blk.far ?_ ?_ _) | exact b3_0 | exact rfl)) <;> (first | omega | (simp <;> omega)))
  (try simp only [List.setIfInBounds_toArray, List.set_cons_zero, List.set_cons_succ] at b3_0')
  clear hb4 K3
  clear b2_0 c2_0 f2_0 l2_0 e2_0 k2_0; have b2_0 := b2_0'; clear b2_0'
  clear b3_0 c3_0 f3_0 l3_0 e3_0 k3_0; have b3_0 := b3_0'; clear b3_0'
  obtain ⟨c2_0, f2_0, l2_0, e2_0, k2_0⟩ := Blk.facts b2_0
  obtain ⟨c3_0, f3_0, l3_0, e3_0, k3_0⟩ := Blk.facts b3_0
  have SV := Lib.hid hsv; clear hsv
  have RS := Lib.hid (fun W (hW : Below w4.heap.size w4 W) => (show decide (us = us) = true from decide_eq_true rfl) ▸ same_any Au Av us.length us.length cu cv us us W (SU4.out.below hW) (SV.out.below hW))
  clear SU4 SV K3'
  go_wp2_with fail
  refine (known11_any _).mono ?_
  rintro e w5 ⟨rfl, hb5⟩
  have K5 : Below w4.heap.size w4 w5 := kept_call hb5 (by (repeat' (first | (with_reducible exact Below.refl _ _) | (with_reducible refine Below.setCell ?_ ?_ _) | (with_reducible refine Below.alloc ?_ ?_ _) | (with_reducible refine Below.drew ?_) | (with_reducible refine below_drewN ?_ _))) <;> (first | omega | (simp <;> omega)))
  have Z5 : w4.heap.size ≤ w5.heap.size := K5.size
  have b2_0' := Blk.keep (g := w1.heap.size) hb5 (by (repeat' (first | (with_reducible refine' Blk.alloc ?_ _) | (with_reducible refine' Blk.drew ?_) | (with_reducible refine' Blk.drewN ?_ _) | (with_reducible refine' Blk.put ?_ ?_) | (with_reducible refine' Blk.far ?_ ?_ _) | exact b2_0 | exact rfl)) <;> (first | omega | (simp <;> omega)))
  (try simp only [List.setIfInBounds_toArray, List.set_cons_zero, List.set_cons_succ] at b2_0')
  have b3_0' := Blk.keep (g := w2.heap.size) hb5 (by (repeat' (first | (with_reducible refine' Blk.alloc ?_ _) | (with_reducible refine' Blk.drew ?_) | (with_reducible refine' Blk.drewN ?_ _) | (with_reducible refine' Blk.put ?_ ?_) | (with_reducible refine' Blk.far ?_ ?_ _) | exact b3_0 | exact rfl)) <;> (first | omega | (simp <;> omega)))
  (try simp only [List.setIfInBounds_toArray, List.set_cons_zero, List.set_cons_succ] at b3_0')
  clear hb5
  clear b2_0 c2_0 f2_0 l2_0 e2_0 k2_0; have b2_0 := b2_0'; clear b2_0'
  clear b3_0 c3_0 f3_0 l3_0 e3_0 k3_0; have b3_0 := b3_0'; clear b3_0'
  obtain ⟨c2_0, f2_0, l2_0, e2_0, k2_0⟩ := Blk.facts b2_0
  obtain ⟨c3_0, f3_0, l3_0, e3_0, k3_0⟩ := Blk.facts b3_0
  go_wp2_with fail
  refine (RS.out _ (by (repeat' (first | (with_reducible exact K5) | (with_reducible refine Below.setCell ?_ ?_ _) | (with_reducible refine Below.alloc ?_ ?_ _) | (with_reducible refine Below.drew ?_) | (with_reducible refine below_drewN ?_ _))) <;> (first | omega | (simp <;> omega)))).mono ?_
  rintro e w6 ⟨rfl, hb6⟩
  have K6 : Below w4.heap.size w4 w6 := kept_call hb6 (by (repeat' (first | (with_reducible exact K5) | (with_reducible refine Below.setCell ?_ ?_ _) | (with_reducible refine Below.alloc ?_ ?_ _) | (with_reducible refine Below.drew ?_) | (with_reducible refine below_drewN ?_ _))) <;> (first | omega | (simp <;> omega)))
  have Z6 : w4.heap.size ≤ w6.heap.size := K6.size
  have b2_0' := Blk.keep (g := w1.heap.size) hb6 (by (repeat' (first | (with_reducible refine' Blk.alloc ?_ _) | (with_reducible refine' Blk.drew ?_) | (with_reducible refine' Blk.drewN ?_ _) | (with_reducible refine' Blk.put ?_ ?_) | (with_reducible refine' Blk.far ?_ ?_ _) | exact b2_0 | exact rfl)) <;> (first | omega | (simp <;> omega)))
  (try simp only [List.setIfInBounds_toArray, List.set_cons_zero, List.set_cons_succ] at b2_0')
  have b3_0' := Blk.keep (g := w2.heap.size) hb6 (by (repeat' (first | (with_reducible refine' Blk.alloc ?_ _) | (with_reducible refine' Blk.drew ?_) | (with_reducible refine' Blk.drewN ?_ _) | (with_reducible refine' Blk.put ?_ ?_) | (with_reducible refine' Blk.far ?_ ?_ _) | exact b3_0 | exact rfl)) <;> (first | omega | (simp <;> omega)))
  (try simp only [List.setIfInBounds_toArray, List.set_cons_zero, List.set_cons_succ] at b3_0')
  clear hb6 K5
  clear b2_0 c2_0 f2_0 l2_0 e2_0 k2_0; have b2_0 := b2_0'; clear b2_0'
  clear b3_0 c3_0 f3_0 l3_0 e3_0 k3_0; have b3_0 := b3_0'; clear b3_0'
  obtain ⟨c2_0, f2_0, l2_0, e2_0, k2_0⟩ := Blk.facts b2_0
  obtain ⟨c3_0, f3_0, l3_0, e3_0, k3_0⟩ := Blk.facts b3_0
  go_wp2
  go_ret
  exact ⟨rfl, (kept_call (by (repeat' (first | (with_reducible exact K6) | (with_reducible refine Below.setCell ?_ ?_ _) | (with_reducible refine Below.alloc ?_ ?_ _) | (with_reducible refine Below.drew ?_) | (with_reducible refine below_drewN ?_ _))) <;> (first | omega | (simp <;> omega))) K4)⟩
theorem lists_walk (A : Option Addr) (len cap : Nat) (zs : List (Int × Int)) (hN : A = none → cap = 0) {w : World} (h : SpansAt w A len zs) (_ : ∀ z ∈ zs, IntIn z.1 ∧ IntIn z.2) (W : World) (hw : W = w) :
    Walked 4 #[.slice A len cap] W := by
  subst hw; exact lists_core A len cap zs hN W h
end Go.Proofs.Ytlfkkfdolnkjfaa
