/- Clear of both, for every table. -/
import Derived.Test.YtmebkbnildjfhaaLeapC
import Derived.Deep.RegionWith
namespace Go.Proofs.Ytmebkbnildjfhaa
open Go.RowKit
set_option linter.unusedSimpArgs false
set_option linter.unusedVariables false

theorem least_to {first : Int} {zs : List (Int × Int)} (hv : LVal first zs) (s : Int) : ∀ n : Nat, ∃ L : Int, 134217728 ≤ L ∧ L ≤ 134217728 + n ∧ (∀ t, 134217728 ≤ t → t < L → shL first zs t < s) ∧ (∀ t, L ≤ t → t < 134217728 + n → s ≤ shL first zs t)
  | 0 => ⟨134217728, by omega, by omega, fun t a b => by omega, fun t a b => by omega⟩
  | n + 1 => by
    obtain ⟨L, h1, h2, h3, h4⟩ := least_to hv s n
    by_cases e : L = 134217728 + n ∧ shL first zs (134217728 + n) < s
    · refine ⟨134217728 + n + 1, by omega, by omega, fun t a b => ?_, fun t a b => by omega⟩
      by_cases et : t = 134217728 + n
      · rw [et]; exact e.2
      · exact h3 t a (by omega)
    · refine ⟨L, h1, by omega, h3, fun t a b => ?_⟩
      by_cases et : t < 134217728 + n
      · exact h4 t a et
      · by_cases eL : L = 134217728 + n
        · have : t = 134217728 + n := by omega
          rw [this]; have : ¬ _ := fun h => e ⟨eL, h⟩; omega
        · have := h4 L (Int.le_refl _) (by omega)
          have := shL_mono hv a
          omega
theorem least_ex {first : Int} {zs : List (Int × Int)} (hv : LVal first zs) (s : Int) : ∃ L, LeastP first zs s L := by
  obtain ⟨L, h1, h2, h3, h4⟩ := least_to hv s 288230376017494017
  exact ⟨L, h1, by omega, h3, fun t a b => h4 t a (by omega)⟩
set_option maxRecDepth 100000 in
set_option maxHeartbeats 1000000 in
theorem clear_any (first : Int) (A : Option Addr) (len cap : Nat) (zs : List (Int × Int)) (s : Int) (w : World) (h : PrAt w A len zs) (hz : ∀ z ∈ zs, IntIn z.1 ∧ IntIn z.2) :
    Calls Try.prog 23 #[.agg #[.int .i64 first, .slice A len cap], .int .i64 s] w (fun e w' => ∃ v, e = .returned v ∧ ClearR first zs s v ∧ Below w.heap.size w w') := by
  by_cases hv : LVal first zs
  · have RV := Lib.hid (fun W (hW : Below w.heap.size w W) => bool_of (lvB_true.2 hv) (lvalid_any first A len cap zs W (h.below hW) hz))
    have H := Lib.hid h; have HV := Lib.hid hv; clear h hz
    by_cases h1 : 268435456 ≤ s ∧ s ≤ 144115188075855872
    · have g1 : decide (s < 268435456) = false := decide_eq_false (by omega)
      have g2 : decide (144115188075855872 < s) = false := decide_eq_false (by omega)
      obtain ⟨a, ha⟩ := least_ex hv s
      obtain ⟨b, hb⟩ := least_ex hv (s + 1)
      have hab := least_mono (show s ≤ s + 1 by omega) ha hb
      have a0 := ha.1; have a1 := ha.2.1; have b0 := hb.1; have b1 := hb.2.1
      clear hv
      have HA := Lib.hid ha; have HB := Lib.hid hb; clear ha hb
      have wb : IntKind.i64.wrap (b - 1) = b - 1 := IntWalk.i64_in _ (by omega)
      have wa : IntKind.i64.wrap (a - 1) = a - 1 := IntWalk.i64_in _ (by omega)
      have ws : IntKind.i64.wrap (s + 1) = s + 1 := IntWalk.i64_in _ (by omega)
      go_enter Try.func23, Try.ntmps23
      go_wp2_with fail
      refine (RV.out _ (by (repeat' (first | (with_reducible exact Below.refl _ _) | (with_reducible refine Below.setCell ?_ ?_ _) | (with_reducible refine Below.alloc ?_ ?_ _) | (with_reducible refine Below.drew ?_) | (with_reducible refine below_drewN ?_ _))) <;> (first | omega | (simp <;> omega)))).mono ?_
      rintro e w1 ⟨rfl, hb1⟩
      have K1 : Below w.heap.size w w1 := kept_call hb1 (by (repeat' (first | (with_reducible exact Below.refl _ _) | (with_reducible refine Below.setCell ?_ ?_ _) | (with_reducible refine Below.alloc ?_ ?_ _) | (with_reducible refine Below.drew ?_) | (with_reducible refine below_drewN ?_ _))) <;> (first | omega | (simp <;> omega)))
      have Z1 : w.heap.size ≤ w1.heap.size := K1.size
      have b1_0 := Blk.keep (g := w.heap.size) hb1 (by (repeat' (first | ((with_reducible refine' Blk.newE ?_); first | rfl | (simp; done)) | (with_reducible refine' Blk.alloc ?_ _) | (with_reducible refine' Blk.drew ?_) | (with_reducible refine' Blk.drewN ?_ _) | (with_reducible refine' Blk.put ?_ ?_) | (with_reducible refine' Blk.far ?_ ?_ _) | exact rfl)) <;> (first | omega | (simp <;> omega)))
      (try simp only [List.setIfInBounds_toArray, List.set_cons_zero, List.set_cons_succ] at b1_0)
      have b1_1 := Blk.keep (g := w.heap.size + 1) hb1 (by (repeat' (first | ((with_reducible refine' Blk.newE ?_); first | rfl | (simp; done)) | (with_reducible refine' Blk.alloc ?_ _) | (with_reducible refine' Blk.drew ?_) | (with_reducible refine' Blk.drewN ?_ _) | (with_reducible refine' Blk.put ?_ ?_) | (with_reducible refine' Blk.far ?_ ?_ _) | exact rfl)) <;> (first | omega | (simp <;> omega)))
      (try simp only [List.setIfInBounds_toArray, List.set_cons_zero, List.set_cons_succ] at b1_1)
      clear hb1
      obtain ⟨c1_0, f1_0, l1_0, e1_0, k1_0⟩ := Blk.facts b1_0
      obtain ⟨c1_1, f1_1, l1_1, e1_1, k1_1⟩ := Blk.facts b1_1
      have o1_0 := l1_0
      have o1_1 := l1_1
      go_wp2_with fail
      refine ((show Calls _ _ _ _ (RB _ (.int .i64 a)) from (first_any first A len cap zs HV.out w.heap.size (s) _ (H.out.below (by (repeat' (first | (with_reducible exact K1) | (with_reducible refine Below.setCell ?_ ?_ _) | (with_reducible refine Below.alloc ?_ ?_ _) | (with_reducible refine Below.drew ?_) | (with_reducible refine below_drewN ?_ _))) <;> (first | omega | (simp <;> omega)))) (by (repeat' (first | (with_reducible exact b1_0) | (with_reducible refine' Blk.alloc ?_ _) | (with_reducible refine' Blk.drew ?_) | (with_reducible refine' Blk.drewN ?_ _) | (with_reducible refine' Blk.put ?_ ?_) | (with_reducible refine' Blk.far ?_ ?_ _) | exact b1_0 | exact rfl)) <;> (first | omega | (simp <;> omega)))).mono (fun _ _ ⟨L, e1, e2, e3⟩ => ⟨by rw [e1, least_uniq e2 HA.out], e3⟩))).mono ?_
      rintro e w2 ⟨rfl, hb2⟩
      have K2 : Below w.heap.size w w2 := kept_call hb2 (by (repeat' (first | (with_reducible exact K1) | (with_reducible refine Below.setCell ?_ ?_ _) | (with_reducible refine Below.alloc ?_ ?_ _) | (with_reducible refine Below.drew ?_) | (with_reducible refine below_drewN ?_ _))) <;> (first | omega | (simp <;> omega)))
      have Z2 : w.heap.size ≤ w2.heap.size := K2.size
      have b1_0' := Blk.keep (g := w.heap.size) hb2 (by (repeat' (first | (with_reducible refine' Blk.alloc ?_ _) | (with_reducible refine' Blk.drew ?_) | (with_reducible refine' Blk.drewN ?_ _) | (with_reducible refine' Blk.put ?_ ?_) | (with_reducible refine' Blk.far ?_ ?_ _) | exact b1_0 | exact rfl)) <;> (first | omega | (simp <;> omega)))
      (try simp only [List.setIfInBounds_toArray, List.set_cons_zero, List.set_cons_succ] at b1_0')
      have b1_1' := Blk.keep (g := w.heap.size + 1) hb2 (by (repeat' (first | (with_reducible refine' Blk.alloc ?_ _) | (with_reducible refine' Blk.drew ?_) | (with_reducible refine' Blk.drewN ?_ _) | (with_reducible refine' Blk.put ?_ ?_) | (with_reducible refine' Blk.far ?_ ?_ _) | exact b1_1 | exact rfl)) <;> (first | omega | (simp <;> omega)))
      (try simp only [List.setIfInBounds_toArray, List.set_cons_zero, List.set_cons_succ] at b1_1')
      clear hb2 K1
      clear b1_0 c1_0 f1_0 l1_0 e1_0 k1_0; have b1_0 := b1_0'; clear b1_0'
      clear b1_1 c1_1 f1_1 l1_1 e1_1 k1_1; have b1_1 := b1_1'; clear b1_1'
      obtain ⟨c1_0, f1_0, l1_0, e1_0, k1_0⟩ := Blk.facts b1_0
      obtain ⟨c1_1, f1_1, l1_1, e1_1, k1_1⟩ := Blk.facts b1_1
      go_wp2_with fail
      refine ((show Calls _ _ _ _ (RB _ (.int .i64 b)) from (first_any first A len cap zs HV.out w.heap.size (s + 1) _ (H.out.below (by (repeat' (first | (with_reducible exact K2) | (with_reducible refine Below.setCell ?_ ?_ _) | (with_reducible refine Below.alloc ?_ ?_ _) | (with_reducible refine Below.drew ?_) | (with_reducible refine below_drewN ?_ _))) <;> (first | omega | (simp <;> omega)))) (by (repeat' (first | (with_reducible exact b1_0) | (with_reducible refine' Blk.alloc ?_ _) | (with_reducible refine' Blk.drew ?_) | (with_reducible refine' Blk.drewN ?_ _) | (with_reducible refine' Blk.put ?_ ?_) | (with_reducible refine' Blk.far ?_ ?_ _) | exact b1_0 | exact rfl)) <;> (first | omega | (simp <;> omega)))).mono (fun _ _ ⟨L, e1, e2, e3⟩ => ⟨by rw [e1, least_uniq e2 HB.out], e3⟩))).mono ?_
      rintro e w3 ⟨rfl, hb3⟩
      have K3 : Below w.heap.size w w3 := kept_call hb3 (by (repeat' (first | (with_reducible exact K2) | (with_reducible refine Below.setCell ?_ ?_ _) | (with_reducible refine Below.alloc ?_ ?_ _) | (with_reducible refine Below.drew ?_) | (with_reducible refine below_drewN ?_ _))) <;> (first | omega | (simp <;> omega)))
      have Z3 : w.heap.size ≤ w3.heap.size := K3.size
      have b1_0' := Blk.keep (g := w.heap.size) hb3 (by (repeat' (first | (with_reducible refine' Blk.alloc ?_ _) | (with_reducible refine' Blk.drew ?_) | (with_reducible refine' Blk.drewN ?_ _) | (with_reducible refine' Blk.put ?_ ?_) | (with_reducible refine' Blk.far ?_ ?_ _) | exact b1_0 | exact rfl)) <;> (first | omega | (simp <;> omega)))
      (try simp only [List.setIfInBounds_toArray, List.set_cons_zero, List.set_cons_succ] at b1_0')
      have b1_1' := Blk.keep (g := w.heap.size + 1) hb3 (by (repeat' (first | (with_reducible refine' Blk.alloc ?_ _) | (with_reducible refine' Blk.drew ?_) | (with_reducible refine' Blk.drewN ?_ _) | (with_reducible refine' Blk.put ?_ ?_) | (with_reducible refine' Blk.far ?_ ?_ _) | exact b1_1 | exact rfl)) <;> (first | omega | (simp <;> omega)))
      (try simp only [List.setIfInBounds_toArray, List.set_cons_zero, List.set_cons_succ] at b1_1')
      clear hb3 K2
      clear b1_0 c1_0 f1_0 l1_0 e1_0 k1_0; have b1_0 := b1_0'; clear b1_0'
      clear b1_1 c1_1 f1_1 l1_1 e1_1 k1_1; have b1_1 := b1_1'; clear b1_1'
      obtain ⟨c1_0, f1_0, l1_0, e1_0, k1_0⟩ := Blk.facts b1_0
      obtain ⟨c1_1, f1_1, l1_1, e1_1, k1_1⟩ := Blk.facts b1_1
      by_cases hab2 : a = b
      · have gab : decide (b - 1 < a) = true := decide_eq_true (by omega)
        go_wp2
        exact bodyPost_ret (v := .tuple #[.agg #[.int .i64 0, .int .i64 0], .int .i64 10]) (by simp [results, Try.results23, go_sem, *]) rfl ⟨_, rfl, by subst hab2; exact clearR_none HV.out h1 HA.out HB.out, by (repeat' (first | (with_reducible exact K3) | (with_reducible refine Below.setCell ?_ ?_ _) | (with_reducible refine Below.alloc ?_ ?_ _) | (with_reducible refine Below.drew ?_) | (with_reducible refine below_drewN ?_ _))) <;> (first | omega | (simp <;> omega))⟩
      · have gab : decide (b - 1 < a) = false := decide_eq_false (by omega)
        go_wp2
        exact bodyPost_ret (v := .tuple #[.agg #[.int .i64 a, .int .i64 (b - 1)], .int .i64 0]) (by simp [results, Try.results23, go_sem, *]) rfl ⟨_, rfl, clearR_in HV.out h1 HA.out HB.out (by omega), by (repeat' (first | (with_reducible exact K3) | (with_reducible refine Below.setCell ?_ ?_ _) | (with_reducible refine Below.alloc ?_ ?_ _) | (with_reducible refine Below.drew ?_) | (with_reducible refine below_drewN ?_ _))) <;> (first | omega | (simp <;> omega))⟩
    · by_cases h2 : s < 268435456
      · have g1 : decide (s < 268435456) = true := decide_eq_true h2
        go_enter Try.func23, Try.ntmps23
        go_wp2_with fail
        refine (RV.out _ (by (repeat' (first | (with_reducible exact Below.refl _ _) | (with_reducible refine Below.setCell ?_ ?_ _) | (with_reducible refine Below.alloc ?_ ?_ _) | (with_reducible refine Below.drew ?_) | (with_reducible refine below_drewN ?_ _))) <;> (first | omega | (simp <;> omega)))).mono ?_
        rintro e w1 ⟨rfl, hb1⟩
        have K1 : Below w.heap.size w w1 := kept_call hb1 (by (repeat' (first | (with_reducible exact Below.refl _ _) | (with_reducible refine Below.setCell ?_ ?_ _) | (with_reducible refine Below.alloc ?_ ?_ _) | (with_reducible refine Below.drew ?_) | (with_reducible refine below_drewN ?_ _))) <;> (first | omega | (simp <;> omega)))
        have Z1 : w.heap.size ≤ w1.heap.size := K1.size
        have b1_0 := Blk.keep (g := w.heap.size) hb1 (by (repeat' (first | ((with_reducible refine' Blk.newE ?_); first | rfl | (simp; done)) | (with_reducible refine' Blk.alloc ?_ _) | (with_reducible refine' Blk.drew ?_) | (with_reducible refine' Blk.drewN ?_ _) | (with_reducible refine' Blk.put ?_ ?_) | (with_reducible refine' Blk.far ?_ ?_ _) | exact rfl)) <;> (first | omega | (simp <;> omega)))
        (try simp only [List.setIfInBounds_toArray, List.set_cons_zero, List.set_cons_succ] at b1_0)
        have b1_1 := Blk.keep (g := w.heap.size + 1) hb1 (by (repeat' (first | ((with_reducible refine' Blk.newE ?_); first | rfl | (simp; done)) | (with_reducible refine' Blk.alloc ?_ _) | (with_reducible refine' Blk.drew ?_) | (with_reducible refine' Blk.drewN ?_ _) | (with_reducible refine' Blk.put ?_ ?_) | (with_reducible refine' Blk.far ?_ ?_ _) | exact rfl)) <;> (first | omega | (simp <;> omega)))
        (try simp only [List.setIfInBounds_toArray, List.set_cons_zero, List.set_cons_succ] at b1_1)
        clear hb1
        obtain ⟨c1_0, f1_0, l1_0, e1_0, k1_0⟩ := Blk.facts b1_0
        obtain ⟨c1_1, f1_1, l1_1, e1_1, k1_1⟩ := Blk.facts b1_1
        have o1_0 := l1_0
        have o1_1 := l1_1
        go_wp2
        exact bodyPost_ret (v := .tuple #[.agg #[.int .i64 0, .int .i64 0], .int .i64 4]) (by simp [results, Try.results23, go_sem, *]) rfl ⟨_, rfl, clearR_out HV.out h1, by (repeat' (first | (with_reducible exact K1) | (with_reducible refine Below.setCell ?_ ?_ _) | (with_reducible refine Below.alloc ?_ ?_ _) | (with_reducible refine Below.drew ?_) | (with_reducible refine below_drewN ?_ _))) <;> (first | omega | (simp <;> omega))⟩
      · have g1 : decide (s < 268435456) = false := decide_eq_false h2
        have g2 : decide (144115188075855872 < s) = true := decide_eq_true (by omega)
        go_enter Try.func23, Try.ntmps23
        go_wp2_with fail
        refine (RV.out _ (by (repeat' (first | (with_reducible exact Below.refl _ _) | (with_reducible refine Below.setCell ?_ ?_ _) | (with_reducible refine Below.alloc ?_ ?_ _) | (with_reducible refine Below.drew ?_) | (with_reducible refine below_drewN ?_ _))) <;> (first | omega | (simp <;> omega)))).mono ?_
        rintro e w1 ⟨rfl, hb1⟩
        have K1 : Below w.heap.size w w1 := kept_call hb1 (by (repeat' (first | (with_reducible exact Below.refl _ _) | (with_reducible refine Below.setCell ?_ ?_ _) | (with_reducible refine Below.alloc ?_ ?_ _) | (with_reducible refine Below.drew ?_) | (with_reducible refine below_drewN ?_ _))) <;> (first | omega | (simp <;> omega)))
        have Z1 : w.heap.size ≤ w1.heap.size := K1.size
        have b1_0 := Blk.keep (g := w.heap.size) hb1 (by (repeat' (first | ((with_reducible refine' Blk.newE ?_); first | rfl | (simp; done)) | (with_reducible refine' Blk.alloc ?_ _) | (with_reducible refine' Blk.drew ?_) | (with_reducible refine' Blk.drewN ?_ _) | (with_reducible refine' Blk.put ?_ ?_) | (with_reducible refine' Blk.far ?_ ?_ _) | exact rfl)) <;> (first | omega | (simp <;> omega)))
        (try simp only [List.setIfInBounds_toArray, List.set_cons_zero, List.set_cons_succ] at b1_0)
        have b1_1 := Blk.keep (g := w.heap.size + 1) hb1 (by (repeat' (first | ((with_reducible refine' Blk.newE ?_); first | rfl | (simp; done)) | (with_reducible refine' Blk.alloc ?_ _) | (with_reducible refine' Blk.drew ?_) | (with_reducible refine' Blk.drewN ?_ _) | (with_reducible refine' Blk.put ?_ ?_) | (with_reducible refine' Blk.far ?_ ?_ _) | exact rfl)) <;> (first | omega | (simp <;> omega)))
        (try simp only [List.setIfInBounds_toArray, List.set_cons_zero, List.set_cons_succ] at b1_1)
        clear hb1
        obtain ⟨c1_0, f1_0, l1_0, e1_0, k1_0⟩ := Blk.facts b1_0
        obtain ⟨c1_1, f1_1, l1_1, e1_1, k1_1⟩ := Blk.facts b1_1
        have o1_0 := l1_0
        have o1_1 := l1_1
        go_wp2
        exact bodyPost_ret (v := .tuple #[.agg #[.int .i64 0, .int .i64 0], .int .i64 4]) (by simp [results, Try.results23, go_sem, *]) rfl ⟨_, rfl, clearR_out HV.out h1, by (repeat' (first | (with_reducible exact K1) | (with_reducible refine Below.setCell ?_ ?_ _) | (with_reducible refine Below.alloc ?_ ?_ _) | (with_reducible refine Below.drew ?_) | (with_reducible refine below_drewN ?_ _))) <;> (first | omega | (simp <;> omega))⟩
  · have RV := Lib.hid (fun W (hW : Below w.heap.size w W) => bool_of (lvB_no hv) (lvalid_any first A len cap zs W (h.below hW) hz))
    have HV := Lib.hid hv
    clear h hz hv
    go_enter Try.func23, Try.ntmps23
    go_wp2_with fail
    refine (RV.out _ (by (repeat' (first | (with_reducible exact Below.refl _ _) | (with_reducible refine Below.setCell ?_ ?_ _) | (with_reducible refine Below.alloc ?_ ?_ _) | (with_reducible refine Below.drew ?_) | (with_reducible refine below_drewN ?_ _))) <;> (first | omega | (simp <;> omega)))).mono ?_
    rintro e w1 ⟨rfl, hb1⟩
    have K1 : Below w.heap.size w w1 := kept_call hb1 (by (repeat' (first | (with_reducible exact Below.refl _ _) | (with_reducible refine Below.setCell ?_ ?_ _) | (with_reducible refine Below.alloc ?_ ?_ _) | (with_reducible refine Below.drew ?_) | (with_reducible refine below_drewN ?_ _))) <;> (first | omega | (simp <;> omega)))
    have Z1 : w.heap.size ≤ w1.heap.size := K1.size
    have b1_0 := Blk.keep (g := w.heap.size) hb1 (by (repeat' (first | ((with_reducible refine' Blk.newE ?_); first | rfl | (simp; done)) | (with_reducible refine' Blk.alloc ?_ _) | (with_reducible refine' Blk.drew ?_) | (with_reducible refine' Blk.drewN ?_ _) | (with_reducible refine' Blk.put ?_ ?_) | (with_reducible refine' Blk.far ?_ ?_ _) | exact rfl)) <;> (first | omega | (simp <;> omega)))
    (try simp only [List.setIfInBounds_toArray, List.set_cons_zero, List.set_cons_succ] at b1_0)
    have b1_1 := Blk.keep (g := w.heap.size + 1) hb1 (by (repeat' (first | ((with_reducible refine' Blk.newE ?_); first | rfl | (simp; done)) | (with_reducible refine' Blk.alloc ?_ _) | (with_reducible refine' Blk.drew ?_) | (with_reducible refine' Blk.drewN ?_ _) | (with_reducible refine' Blk.put ?_ ?_) | (with_reducible refine' Blk.far ?_ ?_ _) | exact rfl)) <;> (first | omega | (simp <;> omega)))
    (try simp only [List.setIfInBounds_toArray, List.set_cons_zero, List.set_cons_succ] at b1_1)
    clear hb1
    obtain ⟨c1_0, f1_0, l1_0, e1_0, k1_0⟩ := Blk.facts b1_0
    obtain ⟨c1_1, f1_1, l1_1, e1_1, k1_1⟩ := Blk.facts b1_1
    have o1_0 := l1_0
    have o1_1 := l1_1
    go_wp2
    exact bodyPost_ret (v := .tuple #[.agg #[.int .i64 0, .int .i64 0], .int .i64 3]) (by simp [results, Try.results23, go_sem, *]) rfl ⟨_, rfl, clearR_no HV.out, by (repeat' (first | (with_reducible exact K1) | (with_reducible refine Below.setCell ?_ ?_ _) | (with_reducible refine Below.alloc ?_ ?_ _) | (with_reducible refine Below.drew ?_) | (with_reducible refine below_drewN ?_ _))) <;> (first | omega | (simp <;> omega))⟩
set_option maxRecDepth 100000 in
set_option maxHeartbeats 1000000 in
theorem rclear_any (first : Int) (A : Option Addr) (len cap : Nat) (zs : List (Int × Int)) (s : Int) (w : World) (h : PrAt w A len zs) (hz : ∀ z ∈ zs, IntIn z.1 ∧ IntIn z.2) :
    Calls Try.prog 39 #[.agg #[.int .i64 first, .slice A len cap], .int .i64 s] w (fun e w' => ∃ v, e = .returned v ∧ ClearR first zs s v ∧ Below w.heap.size w w') := by
  by_cases hv : LVal first zs
  · have RV := Lib.hid (fun W (hW : Below w.heap.size w W) => bool_of (lvB_true.2 hv) (rlvalid_any first A len cap zs W (h.below hW) hz))
    have H := Lib.hid h; have HV := Lib.hid hv; clear h hz
    by_cases h1 : 268435456 ≤ s ∧ s ≤ 144115188075855872
    · have g1 : decide (s < 268435456) = false := decide_eq_false (by omega)
      have g2 : decide (144115188075855872 < s) = false := decide_eq_false (by omega)
      obtain ⟨a, ha⟩ := least_ex hv s
      obtain ⟨b, hb⟩ := least_ex hv (s + 1)
      have hab := least_mono (show s ≤ s + 1 by omega) ha hb
      have a0 := ha.1; have a1 := ha.2.1; have b0 := hb.1; have b1 := hb.2.1
      clear hv
      have HA := Lib.hid ha; have HB := Lib.hid hb; clear ha hb
      have wb : IntKind.i64.wrap (b - 1) = b - 1 := IntWalk.i64_in _ (by omega)
      have wa : IntKind.i64.wrap (a - 1) = a - 1 := IntWalk.i64_in _ (by omega)
      have ws : IntKind.i64.wrap (s + 1) = s + 1 := IntWalk.i64_in _ (by omega)
      go_enter Try.func39, Try.ntmps39
      have QA := Lib.hid (fun W (hW : Below w.heap.size w W) => (show Calls _ _ _ _ (RB _ (.int .i64 a)) from (rleast_any first A len cap zs HV.out s W (H.out.below hW)).mono (fun _ _ ⟨L, e1, e2, e3⟩ => ⟨by rw [e1, least_uniq e2 HA.out], e3⟩)))
      have QB := Lib.hid (fun W (hW : Below w.heap.size w W) => (show Calls _ _ _ _ (RB _ (.int .i64 b)) from (rleast_any first A len cap zs HV.out (s + 1) W (H.out.below hW)).mono (fun _ _ ⟨L, e1, e2, e3⟩ => ⟨by rw [e1, least_uniq e2 HB.out], e3⟩)))
      go_wp2_with fail
      refine (RV.out _ (by (repeat' (first | (with_reducible exact Below.refl _ _) | (with_reducible refine Below.setCell ?_ ?_ _) | (with_reducible refine Below.alloc ?_ ?_ _) | (with_reducible refine Below.drew ?_) | (with_reducible refine below_drewN ?_ _))) <;> (first | omega | (simp <;> omega)))).mono ?_
      rintro e w1 ⟨rfl, hb1⟩
      have K1 : Below w.heap.size w w1 := kept_call hb1 (by (repeat' (first | (with_reducible exact Below.refl _ _) | (with_reducible refine Below.setCell ?_ ?_ _) | (with_reducible refine Below.alloc ?_ ?_ _) | (with_reducible refine Below.drew ?_) | (with_reducible refine below_drewN ?_ _))) <;> (first | omega | (simp <;> omega)))
      have Z1 : w.heap.size ≤ w1.heap.size := K1.size
      have b1_0 := Blk.keep (g := w.heap.size) hb1 (by (repeat' (first | ((with_reducible refine' Blk.newE ?_); first | rfl | (simp; done)) | (with_reducible refine' Blk.alloc ?_ _) | (with_reducible refine' Blk.drew ?_) | (with_reducible refine' Blk.drewN ?_ _) | (with_reducible refine' Blk.put ?_ ?_) | (with_reducible refine' Blk.far ?_ ?_ _) | exact rfl)) <;> (first | omega | (simp <;> omega)))
      (try simp only [List.setIfInBounds_toArray, List.set_cons_zero, List.set_cons_succ] at b1_0)
      have b1_1 := Blk.keep (g := w.heap.size + 1) hb1 (by (repeat' (first | ((with_reducible refine' Blk.newE ?_); first | rfl | (simp; done)) | (with_reducible refine' Blk.alloc ?_ _) | (with_reducible refine' Blk.drew ?_) | (with_reducible refine' Blk.drewN ?_ _) | (with_reducible refine' Blk.put ?_ ?_) | (with_reducible refine' Blk.far ?_ ?_ _) | exact rfl)) <;> (first | omega | (simp <;> omega)))
      (try simp only [List.setIfInBounds_toArray, List.set_cons_zero, List.set_cons_succ] at b1_1)
      clear hb1
      obtain ⟨c1_0, f1_0, l1_0, e1_0, k1_0⟩ := Blk.facts b1_0
      obtain ⟨c1_1, f1_1, l1_1, e1_1, k1_1⟩ := Blk.facts b1_1
      have o1_0 := l1_0
      have o1_1 := l1_1
      go_upto_region 5 with fail
      refine' wp_region_calm (by kernel_rfl) (fun _ _ w' => Below w.heap.size w w' ∧ Blk w' (w.heap.size) 25 #[.int .i64 first, .slice A len cap] ∧ Blk w' (w.heap.size + 1) 42 #[.int .i64 0, .int .i64 0]) (fun _ _ => True) [(Is _), (Is _), (Is _), (Is _), (Is _), (Is _), (Is _), (Is _), (Is _)] [[], [], [0, 1], [], [], [4], [3, 5], [2], [6]] [] [] rfl (by kernel_rfl) (fun u => by (simp only [calmPut, Act.put, List.setIfInBounds_toArray, List.set_cons_zero, List.set_cons_succ, Nat.zero_add, Nat.reduceAdd]; rfl)) ?_ (calmKeep_cons keep_is' (calmKeep_cons keep_is' (calmKeep_cons keep_is' (calmKeep_cons keep_is' (calmKeep_cons keep_is' (calmKeep_cons keep_is' (calmKeep_cons keep_is' (calmKeep_cons keep_is' (calmKeep_cons keep_is' (calmKeep_nil)))))))))) ?_ ?_
      · intro _
        exact ⟨(by (repeat' (first | (with_reducible exact K1) | (with_reducible refine Below.setCell ?_ ?_ _) | (with_reducible refine Below.alloc ?_ ?_ _) | (with_reducible refine Below.drew ?_) | (with_reducible refine below_drewN ?_ _))) <;> (first | omega | (simp <;> omega))), (by (repeat' (first | (with_reducible exact b1_0) | (with_reducible refine' Blk.alloc ?_ _) | (with_reducible refine' Blk.drew ?_) | (with_reducible refine' Blk.drewN ?_ _) | (with_reducible refine' Blk.put ?_ ?_) | (with_reducible refine' Blk.far ?_ ?_ _) | exact b1_0 | exact rfl)) <;> (first | omega | (simp <;> omega))), (by (repeat' (first | (with_reducible exact b1_1) | (with_reducible refine' Blk.alloc ?_ _) | (with_reducible refine' Blk.drew ?_) | (with_reducible refine' Blk.drewN ?_ _) | (with_reducible refine' Blk.put ?_ ?_) | (with_reducible refine' Blk.far ?_ ?_ _) | exact b1_1 | exact rfl)) <;> (first | omega | (simp <;> omega)))⟩
      rotate_left 9
      · skip
        refine calmSteps_cons (fun u wq n hn hn2 hC hk K hK => ?_) ?_
        · obtain ⟨hP, m1_0, m1_1⟩ := hC
          clear hk
          have z1_0 := m1_0.cell
          have z1_1 := m1_1.cell
          go_simp
          exact hK _ _ _ rfl ⟨hP, m1_0, m1_1⟩ trivial rfl
        refine calmSteps_cons (fun u wq n hn hn2 hC hk K hK => ?_) ?_
        · obtain ⟨hP, m1_0, m1_1⟩ := hC
          clear hk
          go_simp
          exact hK _ _ _ rfl ⟨hP, m1_0, m1_1⟩ trivial rfl
        refine calmSteps_cons (fun u wq n hn hn2 hC hk K hK => ?_) ?_
        · obtain ⟨hP, m1_0, m1_1⟩ := hC
          simp only [calmKnown, List.getElem?_cons_zero, List.getElem?_cons_succ, and_true, Is, Pure, Option.some.injEq, List.getD_cons_zero, List.getD_cons_succ, List.map_cons, List.map_nil] at hk
          obtain ⟨h0, h1⟩ := hk
          simp only [h0, h1] at hK ⊢
          have H0 := Lib.hid h0; clear h0; have H1 := Lib.hid h1; clear h1
          go_wp2_with fail
          first | (with_reducible refine (QA.out _ hP).mono ?_) | (with_reducible refine (QB.out _ hP).mono ?_)
          rintro e w2 ⟨rfl, hbl⟩
          exact hK _ _ _ rfl ⟨kept_call hbl hP, Blk.keep hbl m1_0, Blk.keep hbl m1_1⟩ trivial rfl
        refine calmSteps_cons (fun u wq n hn hn2 hC hk K hK => ?_) ?_
        · obtain ⟨hP, m1_0, m1_1⟩ := hC
          clear hk
          have z1_0 := m1_0.cell
          have z1_1 := m1_1.cell
          go_simp
          exact hK _ _ _ rfl ⟨hP, m1_0, m1_1⟩ trivial rfl
        refine calmSteps_cons (fun u wq n hn hn2 hC hk K hK => ?_) ?_
        · obtain ⟨hP, m1_0, m1_1⟩ := hC
          clear hk
          go_simp
          exact hK _ _ _ rfl ⟨hP, m1_0, m1_1⟩ trivial rfl
        refine calmSteps_cons (fun u wq n hn hn2 hC hk K hK => ?_) ?_
        · obtain ⟨hP, m1_0, m1_1⟩ := hC
          simp only [calmKnown, List.getElem?_cons_zero, List.getElem?_cons_succ, and_true, Is, Pure, Option.some.injEq, List.getD_cons_zero, List.getD_cons_succ, List.map_cons, List.map_nil] at hk
          have h4 := hk; clear hk
          simp only [h4] at hK ⊢
          have H4 := Lib.hid h4; clear h4
          go_simp
          exact hK _ _ _ rfl ⟨hP, m1_0, m1_1⟩ trivial rfl
        refine calmSteps_cons (fun u wq n hn hn2 hC hk K hK => ?_) ?_
        · obtain ⟨hP, m1_0, m1_1⟩ := hC
          simp only [calmKnown, List.getElem?_cons_zero, List.getElem?_cons_succ, and_true, Is, Pure, Option.some.injEq, List.getD_cons_zero, List.getD_cons_succ, List.map_cons, List.map_nil] at hk
          obtain ⟨h3, h5⟩ := hk
          simp only [h3, h5] at hK ⊢
          have H3 := Lib.hid h3; clear h3; have H5 := Lib.hid h5; clear h5
          go_wp2_with fail
          first | (with_reducible refine (QA.out _ hP).mono ?_) | (with_reducible refine (QB.out _ hP).mono ?_)
          rintro e w2 ⟨rfl, hbl⟩
          exact hK _ _ _ rfl ⟨kept_call hbl hP, Blk.keep hbl m1_0, Blk.keep hbl m1_1⟩ trivial rfl
        refine calmSteps_cons (fun u wq n hn hn2 hC hk K hK => ?_) ?_
        · obtain ⟨hP, m1_0, m1_1⟩ := hC
          simp only [calmKnown, List.getElem?_cons_zero, List.getElem?_cons_succ, and_true, Is, Pure, Option.some.injEq, List.getD_cons_zero, List.getD_cons_succ, List.map_cons, List.map_nil] at hk
          have h2 := hk; clear hk
          simp only [h2] at hK ⊢
          have H2 := Lib.hid h2; clear h2
          go_simp
          exact hK _ _ _ rfl ⟨hP, m1_0, m1_1⟩ trivial rfl
        refine calmSteps_cons (fun u wq n hn hn2 hC hk K hK => ?_) ?_
        · obtain ⟨hP, m1_0, m1_1⟩ := hC
          simp only [calmKnown, List.getElem?_cons_zero, List.getElem?_cons_succ, and_true, Is, Pure, Option.some.injEq, List.getD_cons_zero, List.getD_cons_succ, List.map_cons, List.map_nil] at hk
          have h6 := hk; clear hk
          simp only [h6] at hK ⊢
          have H6 := Lib.hid h6; clear h6
          go_simp
          exact hK _ _ _ rfl ⟨hP, m1_0, m1_1⟩ trivial rfl
        exact calmSteps_nil
      · intro u w2 hC hF
        obtain ⟨hP, m1_0, m1_1⟩ := hC
        simp only [calmFacts, Is, and_true] at hF
        obtain ⟨f0, f1, f2, f3, f4, f5, f6, f7, f8⟩ := hF
        simp only [f0, f1, f2, f3, f4, f5, f6, f7, f8]
        clear f0 f1 f2 f3 f4 f5 f6 f7 f8
        have K2 := hP
        have Z2 : w.heap.size ≤ w2.heap.size := K2.size
        clear hP K1
        clear b1_0 c1_0 f1_0 l1_0 e1_0 k1_0; have b1_0 := m1_0; clear m1_0
        obtain ⟨c1_0, f1_0, l1_0, e1_0, k1_0⟩ := Blk.facts b1_0
        clear b1_1 c1_1 f1_1 l1_1 e1_1 k1_1; have b1_1 := m1_1; clear m1_1
        obtain ⟨c1_1, f1_1, l1_1, e1_1, k1_1⟩ := Blk.facts b1_1
        by_cases hab2 : a = b
        · have gab : decide (a = b) = true := decide_eq_true hab2
          have gab3 : (a == b) = true := by simp [hab2]
          have HAB := Lib.hid hab2; clear hab2
          go_wp2
          exact bodyPost_ret (v := .tuple #[.agg #[.int .i64 0, .int .i64 0], .int .i64 10]) (by simp [results, Try.results39, go_sem, *]) rfl ⟨_, rfl, clearR_none HV.out h1 HA.out (by rw [HAB.out]; exact HB.out), by (repeat' (first | (with_reducible exact K2) | (with_reducible refine Below.setCell ?_ ?_ _) | (with_reducible refine Below.alloc ?_ ?_ _) | (with_reducible refine Below.drew ?_) | (with_reducible refine below_drewN ?_ _))) <;> (first | omega | (simp <;> omega))⟩
        · have gab : decide (a = b) = false := decide_eq_false hab2
          have gab3 : (a == b) = false := by simp [hab2]
          go_wp2
          exact bodyPost_ret (v := .tuple #[.agg #[.int .i64 a, .int .i64 (b - 1)], .int .i64 0]) (by simp [results, Try.results39, go_sem, *]) rfl ⟨_, rfl, clearR_in HV.out h1 HA.out HB.out (by omega), by (repeat' (first | (with_reducible exact K2) | (with_reducible refine Below.setCell ?_ ?_ _) | (with_reducible refine Below.alloc ?_ ?_ _) | (with_reducible refine Below.drew ?_) | (with_reducible refine below_drewN ?_ _))) <;> (first | omega | (simp <;> omega))⟩
    · by_cases h2 : s < 268435456
      · have g1 : decide (s < 268435456) = true := decide_eq_true h2
        go_enter Try.func39, Try.ntmps39
        go_wp2_with fail
        refine (RV.out _ (by (repeat' (first | (with_reducible exact Below.refl _ _) | (with_reducible refine Below.setCell ?_ ?_ _) | (with_reducible refine Below.alloc ?_ ?_ _) | (with_reducible refine Below.drew ?_) | (with_reducible refine below_drewN ?_ _))) <;> (first | omega | (simp <;> omega)))).mono ?_
        rintro e w1 ⟨rfl, hb1⟩
        have K1 : Below w.heap.size w w1 := kept_call hb1 (by (repeat' (first | (with_reducible exact Below.refl _ _) | (with_reducible refine Below.setCell ?_ ?_ _) | (with_reducible refine Below.alloc ?_ ?_ _) | (with_reducible refine Below.drew ?_) | (with_reducible refine below_drewN ?_ _))) <;> (first | omega | (simp <;> omega)))
        have Z1 : w.heap.size ≤ w1.heap.size := K1.size
        have b1_0 := Blk.keep (g := w.heap.size) hb1 (by (repeat' (first | ((with_reducible refine' Blk.newE ?_); first | rfl | (simp; done)) | (with_reducible refine' Blk.alloc ?_ _) | (with_reducible refine' Blk.drew ?_) | (with_reducible refine' Blk.drewN ?_ _) | (with_reducible refine' Blk.put ?_ ?_) | (with_reducible refine' Blk.far ?_ ?_ _) | exact rfl)) <;> (first | omega | (simp <;> omega)))
        (try simp only [List.setIfInBounds_toArray, List.set_cons_zero, List.set_cons_succ] at b1_0)
        have b1_1 := Blk.keep (g := w.heap.size + 1) hb1 (by (repeat' (first | ((with_reducible refine' Blk.newE ?_); first | rfl | (simp; done)) | (with_reducible refine' Blk.alloc ?_ _) | (with_reducible refine' Blk.drew ?_) | (with_reducible refine' Blk.drewN ?_ _) | (with_reducible refine' Blk.put ?_ ?_) | (with_reducible refine' Blk.far ?_ ?_ _) | exact rfl)) <;> (first | omega | (simp <;> omega)))
        (try simp only [List.setIfInBounds_toArray, List.set_cons_zero, List.set_cons_succ] at b1_1)
        clear hb1
        obtain ⟨c1_0, f1_0, l1_0, e1_0, k1_0⟩ := Blk.facts b1_0
        obtain ⟨c1_1, f1_1, l1_1, e1_1, k1_1⟩ := Blk.facts b1_1
        have o1_0 := l1_0
        have o1_1 := l1_1
        go_wp2
        exact bodyPost_ret (v := .tuple #[.agg #[.int .i64 0, .int .i64 0], .int .i64 4]) (by simp [results, Try.results39, go_sem, *]) rfl ⟨_, rfl, clearR_out HV.out h1, by (repeat' (first | (with_reducible exact K1) | (with_reducible refine Below.setCell ?_ ?_ _) | (with_reducible refine Below.alloc ?_ ?_ _) | (with_reducible refine Below.drew ?_) | (with_reducible refine below_drewN ?_ _))) <;> (first | omega | (simp <;> omega))⟩
      · have g1 : decide (s < 268435456) = false := decide_eq_false h2
        have g2 : decide (144115188075855872 < s) = true := decide_eq_true (by omega)
        go_enter Try.func39, Try.ntmps39
        go_wp2_with fail
        refine (RV.out _ (by (repeat' (first | (with_reducible exact Below.refl _ _) | (with_reducible refine Below.setCell ?_ ?_ _) | (with_reducible refine Below.alloc ?_ ?_ _) | (with_reducible refine Below.drew ?_) | (with_reducible refine below_drewN ?_ _))) <;> (first | omega | (simp <;> omega)))).mono ?_
        rintro e w1 ⟨rfl, hb1⟩
        have K1 : Below w.heap.size w w1 := kept_call hb1 (by (repeat' (first | (with_reducible exact Below.refl _ _) | (with_reducible refine Below.setCell ?_ ?_ _) | (with_reducible refine Below.alloc ?_ ?_ _) | (with_reducible refine Below.drew ?_) | (with_reducible refine below_drewN ?_ _))) <;> (first | omega | (simp <;> omega)))
        have Z1 : w.heap.size ≤ w1.heap.size := K1.size
        have b1_0 := Blk.keep (g := w.heap.size) hb1 (by (repeat' (first | ((with_reducible refine' Blk.newE ?_); first | rfl | (simp; done)) | (with_reducible refine' Blk.alloc ?_ _) | (with_reducible refine' Blk.drew ?_) | (with_reducible refine' Blk.drewN ?_ _) | (with_reducible refine' Blk.put ?_ ?_) | (with_reducible refine' Blk.far ?_ ?_ _) | exact rfl)) <;> (first | omega | (simp <;> omega)))
        (try simp only [List.setIfInBounds_toArray, List.set_cons_zero, List.set_cons_succ] at b1_0)
        have b1_1 := Blk.keep (g := w.heap.size + 1) hb1 (by (repeat' (first | ((with_reducible refine' Blk.newE ?_); first | rfl | (simp; done)) | (with_reducible refine' Blk.alloc ?_ _) | (with_reducible refine' Blk.drew ?_) | (with_reducible refine' Blk.drewN ?_ _) | (with_reducible refine' Blk.put ?_ ?_) | (with_reducible refine' Blk.far ?_ ?_ _) | exact rfl)) <;> (first | omega | (simp <;> omega)))
        (try simp only [List.setIfInBounds_toArray, List.set_cons_zero, List.set_cons_succ] at b1_1)
        clear hb1
        obtain ⟨c1_0, f1_0, l1_0, e1_0, k1_0⟩ := Blk.facts b1_0
        obtain ⟨c1_1, f1_1, l1_1, e1_1, k1_1⟩ := Blk.facts b1_1
        have o1_0 := l1_0
        have o1_1 := l1_1
        go_wp2
        exact bodyPost_ret (v := .tuple #[.agg #[.int .i64 0, .int .i64 0], .int .i64 4]) (by simp [results, Try.results39, go_sem, *]) rfl ⟨_, rfl, clearR_out HV.out h1, by (repeat' (first | (with_reducible exact K1) | (with_reducible refine Below.setCell ?_ ?_ _) | (with_reducible refine Below.alloc ?_ ?_ _) | (with_reducible refine Below.drew ?_) | (with_reducible refine below_drewN ?_ _))) <;> (first | omega | (simp <;> omega))⟩
  · have RV := Lib.hid (fun W (hW : Below w.heap.size w W) => bool_of (lvB_no hv) (rlvalid_any first A len cap zs W (h.below hW) hz))
    have HV := Lib.hid hv
    clear h hz hv
    go_enter Try.func39, Try.ntmps39
    go_wp2_with fail
    refine (RV.out _ (by (repeat' (first | (with_reducible exact Below.refl _ _) | (with_reducible refine Below.setCell ?_ ?_ _) | (with_reducible refine Below.alloc ?_ ?_ _) | (with_reducible refine Below.drew ?_) | (with_reducible refine below_drewN ?_ _))) <;> (first | omega | (simp <;> omega)))).mono ?_
    rintro e w1 ⟨rfl, hb1⟩
    have K1 : Below w.heap.size w w1 := kept_call hb1 (by (repeat' (first | (with_reducible exact Below.refl _ _) | (with_reducible refine Below.setCell ?_ ?_ _) | (with_reducible refine Below.alloc ?_ ?_ _) | (with_reducible refine Below.drew ?_) | (with_reducible refine below_drewN ?_ _))) <;> (first | omega | (simp <;> omega)))
    have Z1 : w.heap.size ≤ w1.heap.size := K1.size
    have b1_0 := Blk.keep (g := w.heap.size) hb1 (by (repeat' (first | ((with_reducible refine' Blk.newE ?_); first | rfl | (simp; done)) | (with_reducible refine' Blk.alloc ?_ _) | (with_reducible refine' Blk.drew ?_) | (with_reducible refine' Blk.drewN ?_ _) | (with_reducible refine' Blk.put ?_ ?_) | (with_reducible refine' Blk.far ?_ ?_ _) | exact rfl)) <;> (first | omega | (simp <;> omega)))
    (try simp only [List.setIfInBounds_toArray, List.set_cons_zero, List.set_cons_succ] at b1_0)
    have b1_1 := Blk.keep (g := w.heap.size + 1) hb1 (by (repeat' (first | ((with_reducible refine' Blk.newE ?_); first | rfl | (simp; done)) | (with_reducible refine' Blk.alloc ?_ _) | (with_reducible refine' Blk.drew ?_) | (with_reducible refine' Blk.drewN ?_ _) | (with_reducible refine' Blk.put ?_ ?_) | (with_reducible refine' Blk.far ?_ ?_ _) | exact rfl)) <;> (first | omega | (simp <;> omega)))
    (try simp only [List.setIfInBounds_toArray, List.set_cons_zero, List.set_cons_succ] at b1_1)
    clear hb1
    obtain ⟨c1_0, f1_0, l1_0, e1_0, k1_0⟩ := Blk.facts b1_0
    obtain ⟨c1_1, f1_1, l1_1, e1_1, k1_1⟩ := Blk.facts b1_1
    have o1_0 := l1_0
    have o1_1 := l1_1
    go_wp2
    exact bodyPost_ret (v := .tuple #[.agg #[.int .i64 0, .int .i64 0], .int .i64 3]) (by simp [results, Try.results39, go_sem, *]) rfl ⟨_, rfl, clearR_no HV.out, by (repeat' (first | (with_reducible exact K1) | (with_reducible refine Below.setCell ?_ ?_ _) | (with_reducible refine Below.alloc ?_ ?_ _) | (with_reducible refine Below.drew ?_) | (with_reducible refine below_drewN ?_ _))) <;> (first | omega | (simp <;> omega))⟩
end Go.Proofs.Ytmebkbnildjfhaa
