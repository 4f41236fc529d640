/- The walk of the law SmearContains. -/
import Derived.Test.YtmebkbnildjfhaaLawNFalls
import Derived.Test.YtmebkbnildjfhaaLeapD
import Derived.Deep.DeepCutAuto
namespace Go.Proofs.Ytmebkbnildjfhaa
open Go.RowKit
set_option linter.unusedSimpArgs false
set_option linter.unusedVariables false

theorem sh_range {ls : List (Int × Int)} (h : WTab ls) {t : Int} (t0 : 536870912 ≤ t) (t1 : t ≤ 288230376151711744) : 268435456 ≤ shL 10 ls t ∧ (t ≤ 140842578116608 → shL 10 ls t ≤ 144115188075855872) := by
  have Y := shL_rate h.1 (t := 0) (d := t) (by omega)
  rw [Int.zero_add, shL_zero h] at Y
  omega
/-- What is known of the instants at which the clock shows what it shows at t. -/
theorem clear_at {ls : List (Int × Int)} (h : WTab ls) {t : Int} (t0 : 536870912 ≤ t) (t1 : t ≤ 140842578116608) : ∃ a b, a ≤ t ∧ t ≤ b ∧ b - a ≤ 1 ∧ ClearR 10 ls (shL 10 ls t) (.tuple #[.agg #[.int .i64 a, .int .i64 b], .int .i64 0]) ∧
    shL 10 ls a = shL 10 ls t ∧ shL 10 ls b = shL 10 ls t ∧ shL 10 ls (a - 1) < shL 10 ls t ∧ shL 10 ls t < shL 10 ls (b + 1) := by
  obtain ⟨s0, s1⟩ := sh_range h t0 (by omega)
  have s1 := s1 t1
  obtain ⟨a, ha⟩ := least_ex h.1 (shL 10 ls t)
  obtain ⟨b, hb⟩ := least_ex h.1 (shL 10 ls t + 1)
  have hA := ha; have hB := hb
  obtain ⟨a0, a1, a2, a3⟩ := ha
  obtain ⟨b0, b1, b2, b3⟩ := hb
  have c1 : a ≤ t := by
    by_cases e : a ≤ t
    · exact e
    · have := a2 t (by omega) (by omega); omega
  have c2 : t < b := by
    by_cases e : t < b
    · exact e
    · have := b3 t (by omega) (by omega); omega
  have c3 : b ≤ a + 2 := by
    by_cases e : b ≤ a + 2
    · exact e
    · have := a3 a (Int.le_refl _) (by omega)
      have := shL_two h.1 a
      have := b2 (a + 2) (by omega) (by omega)
      omega
  have d1 := a3 a (Int.le_refl _) (by omega)
  have d2 := b2 a (by omega) (by omega)
  have d3 := a3 (b - 1) (by omega) (by omega)
  have d4 := b2 (b - 1) (by omega) (by omega)
  have d5 := a2 (a - 1) (by omega) (by omega)
  have d6 := b3 b (Int.le_refl _) (by omega)
  exact ⟨a, b - 1, c1, by omega, by omega, clearR_in h.1 ⟨s0, s1⟩ hA hB (by omega), by omega, by omega, d5, by rw [Int.sub_add_cancel]; omega⟩
set_option maxRecDepth 100000 in
set_option maxHeartbeats 2000000 in
theorem ncont_core (A : Option Addr) (len cap : Nat) (zs : List Int) (v : Int) (hv : IntIn v) (w : World) (hA : IntsAt w A len zs) :
    Calls Try.prog 7 #[.slice A len cap, .int .i64 v] w (RB w (.bool true)) := by
  have H := Lib.hid hA; clear hA
  go_enter Try.func7, Try.ntmps7
  go_wp2_with fail
  refine (wleaps_any A len cap zs _ H.out).mono ?_
  rintro e w1 ⟨A1, c1, ls, rfl, hT, hP, hb1⟩
  have K1 : Below w.heap.size w w1 := kept_call hb1 (by (repeat' (first | (with_reducible exact Below.refl _ _) | (with_reducible refine Below.setCell ?_ ?_ _) | (with_reducible refine Below.alloc ?_ ?_ _) | (with_reducible refine Below.drew ?_) | (with_reducible refine below_drewN ?_ _))) <;> (first | omega | (simp <;> omega)))
  have Z1 : w.heap.size ≤ w1.heap.size := K1.size
  clear hb1
  have P := Lib.hid hP; have HT := Lib.hid hT; clear hP hT H
  go_wp2_with fail
  refine (near_any A1 ls.length c1 ls v HT.out rfl hv _ (P.out.below (by (repeat' (first | (with_reducible exact Below.refl _ _) | (with_reducible refine Below.setCell ?_ ?_ _) | (with_reducible refine Below.alloc ?_ ?_ _) | (with_reducible refine Below.drew ?_) | (with_reducible refine below_drewN ?_ _))) <;> (first | omega | (simp <;> omega))))).mono ?_
  rintro e w2 ⟨tt, rfl, t0, t1, hb2⟩
  have K2 : Below w1.heap.size w1 w2 := kept_call hb2 (by (repeat' (first | (with_reducible exact Below.refl _ _) | (with_reducible refine Below.setCell ?_ ?_ _) | (with_reducible refine Below.alloc ?_ ?_ _) | (with_reducible refine Below.drew ?_) | (with_reducible refine below_drewN ?_ _))) <;> (first | omega | (simp <;> omega)))
  have Z2 : w1.heap.size ≤ w2.heap.size := K2.size
  have b2_0 := Blk.keep (g := w1.heap.size) hb2 (by (repeat' (first | ((with_reducible refine' Blk.newE ?_); first | rfl | (simp; done)) | (with_reducible refine' Blk.alloc ?_ _) | (with_reducible refine' Blk.drew ?_) | (with_reducible refine' Blk.drewN ?_ _) | (with_reducible refine' Blk.put ?_ ?_) | (with_reducible refine' Blk.far ?_ ?_ _) | exact rfl)) <;> (first | omega | (simp <;> omega)))
  (try simp only [List.setIfInBounds_toArray, List.set_cons_zero, List.set_cons_succ] at b2_0)
  clear hb2
  obtain ⟨c2_0, f2_0, l2_0, e2_0, k2_0⟩ := Blk.facts b2_0
  have o2_0 := l2_0
  obtain ⟨a, b, h1, h2, h3, hC, h4, h5, h6, h7⟩ := clear_at HT.out (t := tt) t0 (by omega)
  have sm := fun x (x0 : 134217728 ≤ x) (x1 : x ≤ 288230376151711744) W (hW : Below w1.heap.size w1 W) => smV_in HT.out.1 (t := x) ⟨x0, x1⟩ ▸ smear_any 10 A1 ls.length c1 ls x W (P.out.below hW) HT.out.in_
  have cl := fun W (hW : Below w1.heap.size w1 W) => (show Calls _ _ _ _ (RB _ _) from (clear_any 10 A1 ls.length c1 ls (shL 10 ls tt) W (P.out.below hW) HT.out.in_).mono (fun _ _ ⟨v, e1, e2, e3⟩ => ⟨by rw [e1, clearR_uniq e2 hC], e3⟩))
  have m1 := sm tt (by omega) (by omega)
  have m2 := sm a (by omega) (by omega)
  have m3 := sm b (by omega) (by omega)
  have m4 := sm (a - 1) (by omega) (by omega)
  have m5 := sm (b + 1) (by omega) (by omega)
  rw [h4] at m2
  rw [h5] at m3
  clear sm hC h4 h5
  obtain ⟨s0, s1⟩ := sh_range HT.out t0 (by omega)
  have s1 := s1 (by omega)
  generalize shL 10 ls tt = s at *
  generalize shL 10 ls (a - 1) = x at *
  generalize shL 10 ls (b + 1) = y at *
  have M1 := Lib.hid m1; have M2 := Lib.hid m2; have M3 := Lib.hid m3; have M4 := Lib.hid m4; have M5 := Lib.hid m5; have MC := Lib.hid cl; clear m1 m2 m3 m4 m5 cl
  have u1 : IntKind.i64.wrap (b - a) = b - a := IntWalk.i64_in _ (by omega)
  have u2 : IntKind.i64.wrap (a - 1) = a - 1 := IntWalk.i64_in _ (by omega)
  have u3 : IntKind.i64.wrap (b + 1) = b + 1 := IntWalk.i64_in _ (by omega)
  have g1 : decide (tt < a) = false := decide_eq_false (by omega)
  have g2 : decide (b < tt) = false := decide_eq_false (by omega)
  have g3 : decide (1 < b - a) = false := decide_eq_false (by omega)
  have g4 : decide (x < s) = true := decide_eq_true h6
  have g5 : decide (s < y) = true := decide_eq_true h7
  go_wp2_with fail
  refine (M1.out _ (by (repeat' (first | (with_reducible exact K2) | (with_reducible refine Below.setCell ?_ ?_ _) | (with_reducible refine Below.alloc ?_ ?_ _) | (with_reducible refine Below.drew ?_) | (with_reducible refine below_drewN ?_ _))) <;> (first | omega | (simp <;> omega)))).mono ?_
  rintro e w3 ⟨rfl, hb3⟩
  have K3 : Below w1.heap.size w1 w3 := kept_call hb3 (by (repeat' (first | (with_reducible exact K2) | (with_reducible refine Below.setCell ?_ ?_ _) | (with_reducible refine Below.alloc ?_ ?_ _) | (with_reducible refine Below.drew ?_) | (with_reducible refine below_drewN ?_ _))) <;> (first | omega | (simp <;> omega)))
  have Z3 : w1.heap.size ≤ w3.heap.size := K3.size
  have b2_0' := Blk.keep (g := w1.heap.size) hb3 (by (repeat' (first | (with_reducible refine' Blk.alloc ?_ _) | (with_reducible refine' Blk.drew ?_) | (with_reducible refine' Blk.drewN ?_ _) | (with_reducible refine' Blk.put ?_ ?_) | (with_reducible refine' Blk.far ?_ ?_ _) | exact b2_0 | exact rfl)) <;> (first | omega | (simp <;> omega)))
  (try simp only [List.setIfInBounds_toArray, List.set_cons_zero, List.set_cons_succ] at b2_0')
  clear hb3 K2
  clear b2_0 c2_0 f2_0 l2_0 e2_0 k2_0; have b2_0 := b2_0'; clear b2_0'
  obtain ⟨c2_0, f2_0, l2_0, e2_0, k2_0⟩ := Blk.facts b2_0
  go_wp2_with fail
  refine (MC.out _ (by (repeat' (first | (with_reducible exact K3) | (with_reducible refine Below.setCell ?_ ?_ _) | (with_reducible refine Below.alloc ?_ ?_ _) | (with_reducible refine Below.drew ?_) | (with_reducible refine below_drewN ?_ _))) <;> (first | omega | (simp <;> omega)))).mono ?_
  rintro e w4 ⟨rfl, hb4⟩
  have K4 : Below w1.heap.size w1 w4 := kept_call hb4 (by (repeat' (first | (with_reducible exact K3) | (with_reducible refine Below.setCell ?_ ?_ _) | (with_reducible refine Below.alloc ?_ ?_ _) | (with_reducible refine Below.drew ?_) | (with_reducible refine below_drewN ?_ _))) <;> (first | omega | (simp <;> omega)))
  have Z4 : w1.heap.size ≤ w4.heap.size := K4.size
  have b2_0' := Blk.keep (g := w1.heap.size) hb4 (by (repeat' (first | (with_reducible refine' Blk.alloc ?_ _) | (with_reducible refine' Blk.drew ?_) | (with_reducible refine' Blk.drewN ?_ _) | (with_reducible refine' Blk.put ?_ ?_) | (with_reducible refine' Blk.far ?_ ?_ _) | exact b2_0 | exact rfl)) <;> (first | omega | (simp <;> omega)))
  (try simp only [List.setIfInBounds_toArray, List.set_cons_zero, List.set_cons_succ] at b2_0')
  clear hb4 K3
  clear b2_0 c2_0 f2_0 l2_0 e2_0 k2_0; have b2_0 := b2_0'; clear b2_0'
  obtain ⟨c2_0, f2_0, l2_0, e2_0, k2_0⟩ := Blk.facts b2_0
  go_wp2_with fail
  refine (M2.out _ (by (repeat' (first | (with_reducible exact K4) | (with_reducible refine Below.setCell ?_ ?_ _) | (with_reducible refine Below.alloc ?_ ?_ _) | (with_reducible refine Below.drew ?_) | (with_reducible refine below_drewN ?_ _))) <;> (first | omega | (simp <;> omega)))).mono ?_
  rintro e w5 ⟨rfl, hb5⟩
  have K5 : Below w1.heap.size w1 w5 := kept_call hb5 (by (repeat' (first | (with_reducible exact K4) | (with_reducible refine Below.setCell ?_ ?_ _) | (with_reducible refine Below.alloc ?_ ?_ _) | (with_reducible refine Below.drew ?_) | (with_reducible refine below_drewN ?_ _))) <;> (first | omega | (simp <;> omega)))
  have Z5 : w1.heap.size ≤ w5.heap.size := K5.size
  have b2_0' := Blk.keep (g := w1.heap.size) hb5 (by (repeat' (first | (with_reducible refine' Blk.alloc ?_ _) | (with_reducible refine' Blk.drew ?_) | (with_reducible refine' Blk.drewN ?_ _) | (with_reducible refine' Blk.put ?_ ?_) | (with_reducible refine' Blk.far ?_ ?_ _) | exact b2_0 | exact rfl)) <;> (first | omega | (simp <;> omega)))
  (try simp only [List.setIfInBounds_toArray, List.set_cons_zero, List.set_cons_succ] at b2_0')
  have b5_0 := Blk.keep (g := w4.heap.size) hb5 (by (repeat' (first | ((with_reducible refine' Blk.newE ?_); first | rfl | (simp; done)) | (with_reducible refine' Blk.alloc ?_ _) | (with_reducible refine' Blk.drew ?_) | (with_reducible refine' Blk.drewN ?_ _) | (with_reducible refine' Blk.put ?_ ?_) | (with_reducible refine' Blk.far ?_ ?_ _) | exact rfl)) <;> (first | omega | (simp <;> omega)))
  (try simp only [List.setIfInBounds_toArray, List.set_cons_zero, List.set_cons_succ] at b5_0)
  clear hb5 K4
  clear b2_0 c2_0 f2_0 l2_0 e2_0 k2_0; have b2_0 := b2_0'; clear b2_0'
  obtain ⟨c2_0, f2_0, l2_0, e2_0, k2_0⟩ := Blk.facts b2_0
  obtain ⟨c5_0, f5_0, l5_0, e5_0, k5_0⟩ := Blk.facts b5_0
  have o5_0 := l5_0
  go_wp2_with fail
  refine (M3.out _ (by (repeat' (first | (with_reducible exact K5) | (with_reducible refine Below.setCell ?_ ?_ _) | (with_reducible refine Below.alloc ?_ ?_ _) | (with_reducible refine Below.drew ?_) | (with_reducible refine below_drewN ?_ _))) <;> (first | omega | (simp <;> omega)))).mono ?_
  rintro e w6 ⟨rfl, hb6⟩
  have K6 : Below w1.heap.size w1 w6 := kept_call hb6 (by (repeat' (first | (with_reducible exact K5) | (with_reducible refine Below.setCell ?_ ?_ _) | (with_reducible refine Below.alloc ?_ ?_ _) | (with_reducible refine Below.drew ?_) | (with_reducible refine below_drewN ?_ _))) <;> (first | omega | (simp <;> omega)))
  have Z6 : w1.heap.size ≤ w6.heap.size := K6.size
  have b2_0' := Blk.keep (g := w1.heap.size) hb6 (by (repeat' (first | (with_reducible refine' Blk.alloc ?_ _) | (with_reducible refine' Blk.drew ?_) | (with_reducible refine' Blk.drewN ?_ _) | (with_reducible refine' Blk.put ?_ ?_) | (with_reducible refine' Blk.far ?_ ?_ _) | exact b2_0 | exact rfl)) <;> (first | omega | (simp <;> omega)))
  (try simp only [List.setIfInBounds_toArray, List.set_cons_zero, List.set_cons_succ] at b2_0')
  have b5_0' := Blk.keep (g := w4.heap.size) hb6 (by (repeat' (first | (with_reducible refine' Blk.alloc ?_ _) | (with_reducible refine' Blk.drew ?_) | (with_reducible refine' Blk.drewN ?_ _) | (with_reducible refine' Blk.put ?_ ?_) | (with_reducible refine' Blk.far ?_ ?_ _) | exact b5_0 | exact rfl)) <;> (first | omega | (simp <;> omega)))
  (try simp only [List.setIfInBounds_toArray, List.set_cons_zero, List.set_cons_succ] at b5_0')
  clear hb6 K5
  clear b2_0 c2_0 f2_0 l2_0 e2_0 k2_0; have b2_0 := b2_0'; clear b2_0'
  clear b5_0 c5_0 f5_0 l5_0 e5_0 k5_0; have b5_0 := b5_0'; clear b5_0'
  obtain ⟨c2_0, f2_0, l2_0, e2_0, k2_0⟩ := Blk.facts b2_0
  obtain ⟨c5_0, f5_0, l5_0, e5_0, k5_0⟩ := Blk.facts b5_0
  go_wp2_with fail
  refine (M4.out _ (by (repeat' (first | (with_reducible exact K6) | (with_reducible refine Below.setCell ?_ ?_ _) | (with_reducible refine Below.alloc ?_ ?_ _) | (with_reducible refine Below.drew ?_) | (with_reducible refine below_drewN ?_ _))) <;> (first | omega | (simp <;> omega)))).mono ?_
  rintro e w7 ⟨rfl, hb7⟩
  have K7 : Below w1.heap.size w1 w7 := kept_call hb7 (by (repeat' (first | (with_reducible exact K6) | (with_reducible refine Below.setCell ?_ ?_ _) | (with_reducible refine Below.alloc ?_ ?_ _) | (with_reducible refine Below.drew ?_) | (with_reducible refine below_drewN ?_ _))) <;> (first | omega | (simp <;> omega)))
  have Z7 : w1.heap.size ≤ w7.heap.size := K7.size
  have b2_0' := Blk.keep (g := w1.heap.size) hb7 (by (repeat' (first | (with_reducible refine' Blk.alloc ?_ _) | (with_reducible refine' Blk.drew ?_) | (with_reducible refine' Blk.drewN ?_ _) | (with_reducible refine' Blk.put ?_ ?_) | (with_reducible refine' Blk.far ?_ ?_ _) | exact b2_0 | exact rfl)) <;> (first | omega | (simp <;> omega)))
  (try simp only [List.setIfInBounds_toArray, List.set_cons_zero, List.set_cons_succ] at b2_0')
  have b5_0' := Blk.keep (g := w4.heap.size) hb7 (by (repeat' (first | (with_reducible refine' Blk.alloc ?_ _) | (with_reducible refine' Blk.drew ?_) | (with_reducible refine' Blk.drewN ?_ _) | (with_reducible refine' Blk.put ?_ ?_) | (with_reducible refine' Blk.far ?_ ?_ _) | exact b5_0 | exact rfl)) <;> (first | omega | (simp <;> omega)))
  (try simp only [List.setIfInBounds_toArray, List.set_cons_zero, List.set_cons_succ] at b5_0')
  clear hb7 K6
  clear b2_0 c2_0 f2_0 l2_0 e2_0 k2_0; have b2_0 := b2_0'; clear b2_0'
  clear b5_0 c5_0 f5_0 l5_0 e5_0 k5_0; have b5_0 := b5_0'; clear b5_0'
  obtain ⟨c2_0, f2_0, l2_0, e2_0, k2_0⟩ := Blk.facts b2_0
  obtain ⟨c5_0, f5_0, l5_0, e5_0, k5_0⟩ := Blk.facts b5_0
  go_wp2_with fail
  refine (M5.out _ (by (repeat' (first | (with_reducible exact K7) | (with_reducible refine Below.setCell ?_ ?_ _) | (with_reducible refine Below.alloc ?_ ?_ _) | (with_reducible refine Below.drew ?_) | (with_reducible refine below_drewN ?_ _))) <;> (first | omega | (simp <;> omega)))).mono ?_
  rintro e w8 ⟨rfl, hb8⟩
  have K8 : Below w1.heap.size w1 w8 := kept_call hb8 (by (repeat' (first | (with_reducible exact K7) | (with_reducible refine Below.setCell ?_ ?_ _) | (with_reducible refine Below.alloc ?_ ?_ _) | (with_reducible refine Below.drew ?_) | (with_reducible refine below_drewN ?_ _))) <;> (first | omega | (simp <;> omega)))
  have Z8 : w1.heap.size ≤ w8.heap.size := K8.size
  have b2_0' := Blk.keep (g := w1.heap.size) hb8 (by (repeat' (first | (with_reducible refine' Blk.alloc ?_ _) | (with_reducible refine' Blk.drew ?_) | (with_reducible refine' Blk.drewN ?_ _) | (with_reducible refine' Blk.put ?_ ?_) | (with_reducible refine' Blk.far ?_ ?_ _) | exact b2_0 | exact rfl)) <;> (first | omega | (simp <;> omega)))
  (try simp only [List.setIfInBounds_toArray, List.set_cons_zero, List.set_cons_succ] at b2_0')
  have b5_0' := Blk.keep (g := w4.heap.size) hb8 (by (repeat' (first | (with_reducible refine' Blk.alloc ?_ _) | (with_reducible refine' Blk.drew ?_) | (with_reducible refine' Blk.drewN ?_ _) | (with_reducible refine' Blk.put ?_ ?_) | (with_reducible refine' Blk.far ?_ ?_ _) | exact b5_0 | exact rfl)) <;> (first | omega | (simp <;> omega)))
  (try simp only [List.setIfInBounds_toArray, List.set_cons_zero, List.set_cons_succ] at b5_0')
  clear hb8 K7
  clear b2_0 c2_0 f2_0 l2_0 e2_0 k2_0; have b2_0 := b2_0'; clear b2_0'
  clear b5_0 c5_0 f5_0 l5_0 e5_0 k5_0; have b5_0 := b5_0'; clear b5_0'
  obtain ⟨c2_0, f2_0, l2_0, e2_0, k2_0⟩ := Blk.facts b2_0
  obtain ⟨c5_0, f5_0, l5_0, e5_0, k5_0⟩ := Blk.facts b5_0
  go_wp2_with fail
  refine (known13_any _).mono ?_
  rintro e w9 ⟨rfl, hb9⟩
  have K9 : Below w1.heap.size w1 w9 := kept_call hb9 (by (repeat' (first | (with_reducible exact K8) | (with_reducible refine Below.setCell ?_ ?_ _) | (with_reducible refine Below.alloc ?_ ?_ _) | (with_reducible refine Below.drew ?_) | (with_reducible refine below_drewN ?_ _))) <;> (first | omega | (simp <;> omega)))
  have Z9 : w1.heap.size ≤ w9.heap.size := K9.size
  have b2_0' := Blk.keep (g := w1.heap.size) hb9 (by (repeat' (first | (with_reducible refine' Blk.alloc ?_ _) | (with_reducible refine' Blk.drew ?_) | (with_reducible refine' Blk.drewN ?_ _) | (with_reducible refine' Blk.put ?_ ?_) | (with_reducible refine' Blk.far ?_ ?_ _) | exact b2_0 | exact rfl)) <;> (first | omega | (simp <;> omega)))
  (try simp only [List.setIfInBounds_toArray, List.set_cons_zero, List.set_cons_succ] at b2_0')
  have b5_0' := Blk.keep (g := w4.heap.size) hb9 (by (repeat' (first | (with_reducible refine' Blk.alloc ?_ _) | (with_reducible refine' Blk.drew ?_) | (with_reducible refine' Blk.drewN ?_ _) | (with_reducible refine' Blk.put ?_ ?_) | (with_reducible refine' Blk.far ?_ ?_ _) | exact b5_0 | exact rfl)) <;> (first | omega | (simp <;> omega)))
  (try simp only [List.setIfInBounds_toArray, List.set_cons_zero, List.set_cons_succ] at b5_0')
  clear hb9 K8
  clear b2_0 c2_0 f2_0 l2_0 e2_0 k2_0; have b2_0 := b2_0'; clear b2_0'
  clear b5_0 c5_0 f5_0 l5_0 e5_0 k5_0; have b5_0 := b5_0'; clear b5_0'
  obtain ⟨c2_0, f2_0, l2_0, e2_0, k2_0⟩ := Blk.facts b2_0
  obtain ⟨c5_0, f5_0, l5_0, e5_0, k5_0⟩ := Blk.facts b5_0
  go_wp2
  go_ret
  exact ⟨rfl, (kept_call (by (repeat' (first | (with_reducible exact K9) | (with_reducible refine Below.setCell ?_ ?_ _) | (with_reducible refine Below.alloc ?_ ?_ _) | (with_reducible refine Below.drew ?_) | (with_reducible refine below_drewN ?_ _))) <;> (first | omega | (simp <;> omega))) K1)⟩
theorem ncont_walk (A : Option Addr) (len cap : Nat) (zs : List Int) {w : World} (hA : IntsAt w A len zs) (v : Int) (hv : IntIn v) (W : World) (h : W = w) :
    Walked 7 #[.slice A len cap, .int .i64 v] W := by
  subst h; exact ncont_core A len cap zs v hv W hA
end Go.Proofs.Ytmebkbnildjfhaa
