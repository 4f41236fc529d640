/- Smear and Window, of both, for every table. -/
import Derived.Test.YtmebkbnildjfhaaLeapR
import Derived.Deep.RegionWith
import Derived.Deep.QuietTactic
namespace Go.Proofs.Ytmebkbnildjfhaa
open Go.RowKit
set_option linter.unusedSimpArgs false
set_option linter.unusedVariables false

def smV (first : Int) (zs : List (Int × Int)) (t : Int) : Value := if lvB first zs then (if 134217728 ≤ t ∧ t ≤ 288230376151711744 then .tuple #[.int .i64 (shL first zs t), .int .i64 0] else .tuple #[.int .i64 0, .int .i64 4]) else .tuple #[.int .i64 0, .int .i64 3]
def wdV (first : Int) (zs : List (Int × Int)) (i : Int) : Value := if lvB first zs then (if 0 ≤ i ∧ i < zs.length then .tuple #[.agg #[.int .i64 (wsLo zs i.toNat), .int .i64 (wsHi zs i.toNat)], .agg #[.int .i64 (wiLo first zs i.toNat), .int .i64 (wiHi zs i.toNat)], .int .i64 0] else .tuple #[.agg #[.int .i64 0, .int .i64 0], .agg #[.int .i64 0, .int .i64 0], .int .i64 4]) else .tuple #[.agg #[.int .i64 0, .int .i64 0], .agg #[.int .i64 0, .int .i64 0], .int .i64 3]
section
variable {first : Int} {zs : List (Int × Int)} {t : Int}
theorem smV_no (h : ¬ LVal first zs) : smV first zs t = .tuple #[.int .i64 0, .int .i64 3] := by unfold smV; rw [lvB_no h]; rfl
theorem smV_out (h : LVal first zs) (h' : ¬ (134217728 ≤ t ∧ t ≤ 288230376151711744)) : smV first zs t = .tuple #[.int .i64 0, .int .i64 4] := by unfold smV; rw [lvB_true.2 h, if_pos rfl, if_neg h']
theorem smV_in (h : LVal first zs) (h' : 134217728 ≤ t ∧ t ≤ 288230376151711744) : smV first zs t = .tuple #[.int .i64 (shL first zs t), .int .i64 0] := by unfold smV; rw [lvB_true.2 h, if_pos rfl, if_pos h']
theorem wdV_no (h : ¬ LVal first zs) : wdV first zs t = .tuple #[.agg #[.int .i64 0, .int .i64 0], .agg #[.int .i64 0, .int .i64 0], .int .i64 3] := by unfold wdV; rw [lvB_no h]; rfl
theorem wdV_out (h : LVal first zs) (h' : ¬ (0 ≤ t ∧ t < zs.length)) : wdV first zs t = .tuple #[.agg #[.int .i64 0, .int .i64 0], .agg #[.int .i64 0, .int .i64 0], .int .i64 4] := by unfold wdV; rw [lvB_true.2 h, if_pos rfl, if_neg h']
theorem wdV_in (h : LVal first zs) (i : Nat) (h' : i < zs.length) : wdV first zs i = .tuple #[.agg #[.int .i64 (wsLo zs i), .int .i64 (wsHi zs i)], .agg #[.int .i64 (wiLo first zs i), .int .i64 (wiHi zs i)], .int .i64 0] := by unfold wdV; rw [lvB_true.2 h, if_pos rfl, if_pos ⟨by omega, by omega⟩]; rfl
end
theorem bool_of {b c : Bool} (h : b = c) {P : Program} {f : Nat} {args : Array Value} {w : World} (H : Calls P f args w (RB w (.bool b))) : Calls P f args w (RB w (.bool c)) := h ▸ H
set_option maxRecDepth 100000 in
set_option maxHeartbeats 1000000 in
theorem smear_any (first : Int) (A : Option Addr) (len cap : Nat) (zs : List (Int × Int)) (tt : Int) (w : World) (h : PrAt w A len zs) (hz : ∀ z ∈ zs, IntIn z.1 ∧ IntIn z.2) :
    Calls Try.prog 15 #[.agg #[.int .i64 first, .slice A len cap], .int .i64 tt] w (RB w (smV first zs tt)) := by
  by_cases hv : LVal first zs
  · have RV := Lib.hid (fun W (hW : Below w.heap.size w W) => bool_of (lvB_true.2 hv) (lvalid_any first A len cap zs W (h.below hW) hz))
    have H := Lib.hid h; have HV := Lib.hid hv; clear h hz
    by_cases h1 : 134217728 ≤ tt ∧ tt ≤ 288230376151711744
    · rw [smV_in hv h1]; clear hv
      have g1 : decide (tt < 134217728) = false := decide_eq_false (by omega)
      have g2 : decide (288230376151711744 < tt) = false := decide_eq_false (by omega)
      have RS := Lib.hid (fun W (hW : Below w.heap.size w W) => shows_any first A len cap zs tt HV.out (by omega) (by omega) W (H.out.below hW))
      go_enter Try.func15, Try.ntmps15
      go_wp2_with fail
      refine (RV.out _ (by (repeat' (first | (with_reducible exact Below.refl _ _) | (with_reducible refine Below.setCell ?_ ?_ _) | (with_reducible refine Below.alloc ?_ ?_ _) | (with_reducible refine Below.drew ?_) | (with_reducible refine below_drewN ?_ _))) <;> (first | omega | (simp <;> omega)))).mono ?_
      rintro e w1 ⟨rfl, hb1⟩
      have K1 : Below w.heap.size w w1 := kept_call hb1 (by (repeat' (first | (with_reducible exact Below.refl _ _) | (with_reducible refine Below.setCell ?_ ?_ _) | (with_reducible refine Below.alloc ?_ ?_ _) | (with_reducible refine Below.drew ?_) | (with_reducible refine below_drewN ?_ _))) <;> (first | omega | (simp <;> omega)))
      have Z1 : w.heap.size ≤ w1.heap.size := K1.size
      have b1_0 := Blk.keep (g := w.heap.size) hb1 (by (repeat' (first | ((with_reducible refine' Blk.newE ?_); first | rfl | (simp; done)) | (with_reducible refine' Blk.alloc ?_ _) | (with_reducible refine' Blk.drew ?_) | (with_reducible refine' Blk.drewN ?_ _) | (with_reducible refine' Blk.put ?_ ?_) | (with_reducible refine' Blk.far ?_ ?_ _) | exact rfl)) <;> (first | omega | (simp <;> omega)))
      (try simp only [List.setIfInBounds_toArray, List.set_cons_zero, List.set_cons_succ] at b1_0)
      clear hb1
      obtain ⟨c1_0, f1_0, l1_0, e1_0, k1_0⟩ := Blk.facts b1_0
      have o1_0 := l1_0
      go_wp2_with fail
      refine (RS.out _ (by (repeat' (first | (with_reducible exact K1) | (with_reducible refine Below.setCell ?_ ?_ _) | (with_reducible refine Below.alloc ?_ ?_ _) | (with_reducible refine Below.drew ?_) | (with_reducible refine below_drewN ?_ _))) <;> (first | omega | (simp <;> omega)))).mono ?_
      rintro e w2 ⟨rfl, hb2⟩
      have K2 : Below w.heap.size w w2 := kept_call hb2 (by (repeat' (first | (with_reducible exact K1) | (with_reducible refine Below.setCell ?_ ?_ _) | (with_reducible refine Below.alloc ?_ ?_ _) | (with_reducible refine Below.drew ?_) | (with_reducible refine below_drewN ?_ _))) <;> (first | omega | (simp <;> omega)))
      have Z2 : w.heap.size ≤ w2.heap.size := K2.size
      have b1_0' := Blk.keep (g := w.heap.size) hb2 (by (repeat' (first | (with_reducible refine' Blk.alloc ?_ _) | (with_reducible refine' Blk.drew ?_) | (with_reducible refine' Blk.drewN ?_ _) | (with_reducible refine' Blk.put ?_ ?_) | (with_reducible refine' Blk.far ?_ ?_ _) | exact b1_0 | exact rfl)) <;> (first | omega | (simp <;> omega)))
      (try simp only [List.setIfInBounds_toArray, List.set_cons_zero, List.set_cons_succ] at b1_0')
      clear hb2 K1
      clear b1_0 c1_0 f1_0 l1_0 e1_0 k1_0; have b1_0 := b1_0'; clear b1_0'
      obtain ⟨c1_0, f1_0, l1_0, e1_0, k1_0⟩ := Blk.facts b1_0
      go_wp2
      exact bodyPost_ret (v := .tuple #[.int .i64 (shL first zs tt), .int .i64 0]) (by simp [results, Try.results15, go_sem, *]) rfl ⟨rfl, by (repeat' (first | (with_reducible exact K2) | (with_reducible refine Below.setCell ?_ ?_ _) | (with_reducible refine Below.alloc ?_ ?_ _) | (with_reducible refine Below.drew ?_) | (with_reducible refine below_drewN ?_ _))) <;> (first | omega | (simp <;> omega))⟩
    · rw [smV_out hv h1]; clear hv
      by_cases h2 : tt < 134217728
      · have g1 : decide (tt < 134217728) = true := decide_eq_true h2
        go_enter Try.func15, Try.ntmps15
        go_wp2_with fail
        refine (RV.out _ (by (repeat' (first | (with_reducible exact Below.refl _ _) | (with_reducible refine Below.setCell ?_ ?_ _) | (with_reducible refine Below.alloc ?_ ?_ _) | (with_reducible refine Below.drew ?_) | (with_reducible refine below_drewN ?_ _))) <;> (first | omega | (simp <;> omega)))).mono ?_
        rintro e w1 ⟨rfl, hb1⟩
        have K1 : Below w.heap.size w w1 := kept_call hb1 (by (repeat' (first | (with_reducible exact Below.refl _ _) | (with_reducible refine Below.setCell ?_ ?_ _) | (with_reducible refine Below.alloc ?_ ?_ _) | (with_reducible refine Below.drew ?_) | (with_reducible refine below_drewN ?_ _))) <;> (first | omega | (simp <;> omega)))
        have Z1 : w.heap.size ≤ w1.heap.size := K1.size
        have b1_0 := Blk.keep (g := w.heap.size) hb1 (by (repeat' (first | ((with_reducible refine' Blk.newE ?_); first | rfl | (simp; done)) | (with_reducible refine' Blk.alloc ?_ _) | (with_reducible refine' Blk.drew ?_) | (with_reducible refine' Blk.drewN ?_ _) | (with_reducible refine' Blk.put ?_ ?_) | (with_reducible refine' Blk.far ?_ ?_ _) | exact rfl)) <;> (first | omega | (simp <;> omega)))
        (try simp only [List.setIfInBounds_toArray, List.set_cons_zero, List.set_cons_succ] at b1_0)
        clear hb1
        obtain ⟨c1_0, f1_0, l1_0, e1_0, k1_0⟩ := Blk.facts b1_0
        have o1_0 := l1_0
        go_wp2
        exact bodyPost_ret (v := .tuple #[.int .i64 0, .int .i64 4]) (by simp [results, Try.results15, go_sem, *]) rfl ⟨rfl, by (repeat' (first | (with_reducible exact K1) | (with_reducible refine Below.setCell ?_ ?_ _) | (with_reducible refine Below.alloc ?_ ?_ _) | (with_reducible refine Below.drew ?_) | (with_reducible refine below_drewN ?_ _))) <;> (first | omega | (simp <;> omega))⟩
      · have g1 : decide (tt < 134217728) = false := decide_eq_false h2
        have g2 : decide (288230376151711744 < tt) = true := decide_eq_true (by omega)
        go_enter Try.func15, Try.ntmps15
        go_wp2_with fail
        refine (RV.out _ (by (repeat' (first | (with_reducible exact Below.refl _ _) | (with_reducible refine Below.setCell ?_ ?_ _) | (with_reducible refine Below.alloc ?_ ?_ _) | (with_reducible refine Below.drew ?_) | (with_reducible refine below_drewN ?_ _))) <;> (first | omega | (simp <;> omega)))).mono ?_
        rintro e w1 ⟨rfl, hb1⟩
        have K1 : Below w.heap.size w w1 := kept_call hb1 (by (repeat' (first | (with_reducible exact Below.refl _ _) | (with_reducible refine Below.setCell ?_ ?_ _) | (with_reducible refine Below.alloc ?_ ?_ _) | (with_reducible refine Below.drew ?_) | (with_reducible refine below_drewN ?_ _))) <;> (first | omega | (simp <;> omega)))
        have Z1 : w.heap.size ≤ w1.heap.size := K1.size
        have b1_0 := Blk.keep (g := w.heap.size) hb1 (by (repeat' (first | ((with_reducible refine' Blk.newE ?_); first | rfl | (simp; done)) | (with_reducible refine' Blk.alloc ?_ _) | (with_reducible refine' Blk.drew ?_) | (with_reducible refine' Blk.drewN ?_ _) | (with_reducible refine' Blk.put ?_ ?_) | (with_reducible refine' Blk.far ?_ ?_ _) | exact rfl)) <;> (first | omega | (simp <;> omega)))
        (try simp only [List.setIfInBounds_toArray, List.set_cons_zero, List.set_cons_succ] at b1_0)
        clear hb1
        obtain ⟨c1_0, f1_0, l1_0, e1_0, k1_0⟩ := Blk.facts b1_0
        have o1_0 := l1_0
        go_wp2
        exact bodyPost_ret (v := .tuple #[.int .i64 0, .int .i64 4]) (by simp [results, Try.results15, go_sem, *]) rfl ⟨rfl, by (repeat' (first | (with_reducible exact K1) | (with_reducible refine Below.setCell ?_ ?_ _) | (with_reducible refine Below.alloc ?_ ?_ _) | (with_reducible refine Below.drew ?_) | (with_reducible refine below_drewN ?_ _))) <;> (first | omega | (simp <;> omega))⟩
  · have RV := Lib.hid (fun W (hW : Below w.heap.size w W) => bool_of (lvB_no hv) (lvalid_any first A len cap zs W (h.below hW) hz))
    rw [smV_no hv]; clear h hz hv
    go_enter Try.func15, Try.ntmps15
    go_wp2_with fail
    refine (RV.out _ (by (repeat' (first | (with_reducible exact Below.refl _ _) | (with_reducible refine Below.setCell ?_ ?_ _) | (with_reducible refine Below.alloc ?_ ?_ _) | (with_reducible refine Below.drew ?_) | (with_reducible refine below_drewN ?_ _))) <;> (first | omega | (simp <;> omega)))).mono ?_
    rintro e w1 ⟨rfl, hb1⟩
    have K1 : Below w.heap.size w w1 := kept_call hb1 (by (repeat' (first | (with_reducible exact Below.refl _ _) | (with_reducible refine Below.setCell ?_ ?_ _) | (with_reducible refine Below.alloc ?_ ?_ _) | (with_reducible refine Below.drew ?_) | (with_reducible refine below_drewN ?_ _))) <;> (first | omega | (simp <;> omega)))
    have Z1 : w.heap.size ≤ w1.heap.size := K1.size
    have b1_0 := Blk.keep (g := w.heap.size) hb1 (by (repeat' (first | ((with_reducible refine' Blk.newE ?_); first | rfl | (simp; done)) | (with_reducible refine' Blk.alloc ?_ _) | (with_reducible refine' Blk.drew ?_) | (with_reducible refine' Blk.drewN ?_ _) | (with_reducible refine' Blk.put ?_ ?_) | (with_reducible refine' Blk.far ?_ ?_ _) | exact rfl)) <;> (first | omega | (simp <;> omega)))
    (try simp only [List.setIfInBounds_toArray, List.set_cons_zero, List.set_cons_succ] at b1_0)
    clear hb1
    obtain ⟨c1_0, f1_0, l1_0, e1_0, k1_0⟩ := Blk.facts b1_0
    have o1_0 := l1_0
    go_wp2
    exact bodyPost_ret (v := .tuple #[.int .i64 0, .int .i64 3]) (by simp [results, Try.results15, go_sem, *]) rfl ⟨rfl, by (repeat' (first | (with_reducible exact K1) | (with_reducible refine Below.setCell ?_ ?_ _) | (with_reducible refine Below.alloc ?_ ?_ _) | (with_reducible refine Below.drew ?_) | (with_reducible refine below_drewN ?_ _))) <;> (first | omega | (simp <;> omega))⟩
set_option maxRecDepth 100000 in
set_option maxHeartbeats 1000000 in
theorem rsmearS_any (first : Int) (A : Option Addr) (len cap : Nat) (zs : List (Int × Int)) (tt : Int) (w : World) (h : PrAt w A len zs) (hz : ∀ z ∈ zs, IntIn z.1 ∧ IntIn z.2) :
    Calls Try.prog 38 #[.agg #[.int .i64 first, .slice A len cap], .int .i64 tt] w (RB w (smV first zs tt)) := by
  by_cases hv : LVal first zs
  · have RV := Lib.hid (fun W (hW : Below w.heap.size w W) => bool_of (lvB_true.2 hv) (rlvalid_any first A len cap zs W (h.below hW) hz))
    have H := Lib.hid h; have HV := Lib.hid hv; clear h hz
    by_cases h1 : 134217728 ≤ tt ∧ tt ≤ 288230376151711744
    · rw [smV_in hv h1]; clear hv
      have g1 : decide (tt < 134217728) = false := decide_eq_false (by omega)
      have g2 : decide (288230376151711744 < tt) = false := decide_eq_false (by omega)
      have RS := Lib.hid (fun W (hW : Below w.heap.size w W) => rsmear_any first A len cap zs tt HV.out (by omega) (by omega) W (H.out.below hW))
      go_enter Try.func38, Try.ntmps38
      go_wp2_with fail
      refine (RV.out _ (by (repeat' (first | (with_reducible exact Below.refl _ _) | (with_reducible refine Below.setCell ?_ ?_ _) | (with_reducible refine Below.alloc ?_ ?_ _) | (with_reducible refine Below.drew ?_) | (with_reducible refine below_drewN ?_ _))) <;> (first | omega | (simp <;> omega)))).mono ?_
      rintro e w1 ⟨rfl, hb1⟩
      have K1 : Below w.heap.size w w1 := kept_call hb1 (by (repeat' (first | (with_reducible exact Below.refl _ _) | (with_reducible refine Below.setCell ?_ ?_ _) | (with_reducible refine Below.alloc ?_ ?_ _) | (with_reducible refine Below.drew ?_) | (with_reducible refine below_drewN ?_ _))) <;> (first | omega | (simp <;> omega)))
      have Z1 : w.heap.size ≤ w1.heap.size := K1.size
      have b1_0 := Blk.keep (g := w.heap.size) hb1 (by (repeat' (first | ((with_reducible refine' Blk.newE ?_); first | rfl | (simp; done)) | (with_reducible refine' Blk.alloc ?_ _) | (with_reducible refine' Blk.drew ?_) | (with_reducible refine' Blk.drewN ?_ _) | (with_reducible refine' Blk.put ?_ ?_) | (with_reducible refine' Blk.far ?_ ?_ _) | exact rfl)) <;> (first | omega | (simp <;> omega)))
      (try simp only [List.setIfInBounds_toArray, List.set_cons_zero, List.set_cons_succ] at b1_0)
      clear hb1
      obtain ⟨c1_0, f1_0, l1_0, e1_0, k1_0⟩ := Blk.facts b1_0
      have o1_0 := l1_0
      go_wp2_with fail
      refine (RS.out _ (by (repeat' (first | (with_reducible exact K1) | (with_reducible refine Below.setCell ?_ ?_ _) | (with_reducible refine Below.alloc ?_ ?_ _) | (with_reducible refine Below.drew ?_) | (with_reducible refine below_drewN ?_ _))) <;> (first | omega | (simp <;> omega)))).mono ?_
      rintro e w2 ⟨rfl, hb2⟩
      have K2 : Below w.heap.size w w2 := kept_call hb2 (by (repeat' (first | (with_reducible exact K1) | (with_reducible refine Below.setCell ?_ ?_ _) | (with_reducible refine Below.alloc ?_ ?_ _) | (with_reducible refine Below.drew ?_) | (with_reducible refine below_drewN ?_ _))) <;> (first | omega | (simp <;> omega)))
      have Z2 : w.heap.size ≤ w2.heap.size := K2.size
      have b1_0' := Blk.keep (g := w.heap.size) hb2 (by (repeat' (first | (with_reducible refine' Blk.alloc ?_ _) | (with_reducible refine' Blk.drew ?_) | (with_reducible refine' Blk.drewN ?_ _) | (with_reducible refine' Blk.put ?_ ?_) | (with_reducible refine' Blk.far ?_ ?_ _) | exact b1_0 | exact rfl)) <;> (first | omega | (simp <;> omega)))
      (try simp only [List.setIfInBounds_toArray, List.set_cons_zero, List.set_cons_succ] at b1_0')
      clear hb2 K1
      clear b1_0 c1_0 f1_0 l1_0 e1_0 k1_0; have b1_0 := b1_0'; clear b1_0'
      obtain ⟨c1_0, f1_0, l1_0, e1_0, k1_0⟩ := Blk.facts b1_0
      go_wp2
      exact bodyPost_ret (v := .tuple #[.int .i64 (shL first zs tt), .int .i64 0]) (by simp [results, Try.results38, go_sem, *]) rfl ⟨rfl, by (repeat' (first | (with_reducible exact K2) | (with_reducible refine Below.setCell ?_ ?_ _) | (with_reducible refine Below.alloc ?_ ?_ _) | (with_reducible refine Below.drew ?_) | (with_reducible refine below_drewN ?_ _))) <;> (first | omega | (simp <;> omega))⟩
    · rw [smV_out hv h1]; clear hv
      by_cases h2 : tt < 134217728
      · have g1 : decide (tt < 134217728) = true := decide_eq_true h2
        go_enter Try.func38, Try.ntmps38
        go_wp2_with fail
        refine (RV.out _ (by (repeat' (first | (with_reducible exact Below.refl _ _) | (with_reducible refine Below.setCell ?_ ?_ _) | (with_reducible refine Below.alloc ?_ ?_ _) | (with_reducible refine Below.drew ?_) | (with_reducible refine below_drewN ?_ _))) <;> (first | omega | (simp <;> omega)))).mono ?_
        rintro e w1 ⟨rfl, hb1⟩
        have K1 : Below w.heap.size w w1 := kept_call hb1 (by (repeat' (first | (with_reducible exact Below.refl _ _) | (with_reducible refine Below.setCell ?_ ?_ _) | (with_reducible refine Below.alloc ?_ ?_ _) | (with_reducible refine Below.drew ?_) | (with_reducible refine below_drewN ?_ _))) <;> (first | omega | (simp <;> omega)))
        have Z1 : w.heap.size ≤ w1.heap.size := K1.size
        have b1_0 := Blk.keep (g := w.heap.size) hb1 (by (repeat' (first | ((with_reducible refine' Blk.newE ?_); first | rfl | (simp; done)) | (with_reducible refine' Blk.alloc ?_ _) | (with_reducible refine' Blk.drew ?_) | (with_reducible refine' Blk.drewN ?_ _) | (with_reducible refine' Blk.put ?_ ?_) | (with_reducible refine' Blk.far ?_ ?_ _) | exact rfl)) <;> (first | omega | (simp <;> omega)))
        (try simp only [List.setIfInBounds_toArray, List.set_cons_zero, List.set_cons_succ] at b1_0)
        clear hb1
        obtain ⟨c1_0, f1_0, l1_0, e1_0, k1_0⟩ := Blk.facts b1_0
        have o1_0 := l1_0
        go_wp2
        exact bodyPost_ret (v := .tuple #[.int .i64 0, .int .i64 4]) (by simp [results, Try.results38, go_sem, *]) rfl ⟨rfl, by (repeat' (first | (with_reducible exact K1) | (with_reducible refine Below.setCell ?_ ?_ _) | (with_reducible refine Below.alloc ?_ ?_ _) | (with_reducible refine Below.drew ?_) | (with_reducible refine below_drewN ?_ _))) <;> (first | omega | (simp <;> omega))⟩
      · have g1 : decide (tt < 134217728) = false := decide_eq_false h2
        have g2 : decide (288230376151711744 < tt) = true := decide_eq_true (by omega)
        go_enter Try.func38, Try.ntmps38
        go_wp2_with fail
        refine (RV.out _ (by (repeat' (first | (with_reducible exact Below.refl _ _) | (with_reducible refine Below.setCell ?_ ?_ _) | (with_reducible refine Below.alloc ?_ ?_ _) | (with_reducible refine Below.drew ?_) | (with_reducible refine below_drewN ?_ _))) <;> (first | omega | (simp <;> omega)))).mono ?_
        rintro e w1 ⟨rfl, hb1⟩
        have K1 : Below w.heap.size w w1 := kept_call hb1 (by (repeat' (first | (with_reducible exact Below.refl _ _) | (with_reducible refine Below.setCell ?_ ?_ _) | (with_reducible refine Below.alloc ?_ ?_ _) | (with_reducible refine Below.drew ?_) | (with_reducible refine below_drewN ?_ _))) <;> (first | omega | (simp <;> omega)))
        have Z1 : w.heap.size ≤ w1.heap.size := K1.size
        have b1_0 := Blk.keep (g := w.heap.size) hb1 (by (repeat' (first | ((with_reducible refine' Blk.newE ?_); first | rfl | (simp; done)) | (with_reducible refine' Blk.alloc ?_ _) | (with_reducible refine' Blk.drew ?_) | (with_reducible refine' Blk.drewN ?_ _) | (with_reducible refine' Blk.put ?_ ?_) | (with_reducible refine' Blk.far ?_ ?_ _) | exact rfl)) <;> (first | omega | (simp <;> omega)))
        (try simp only [List.setIfInBounds_toArray, List.set_cons_zero, List.set_cons_succ] at b1_0)
        clear hb1
        obtain ⟨c1_0, f1_0, l1_0, e1_0, k1_0⟩ := Blk.facts b1_0
        have o1_0 := l1_0
        go_wp2
        exact bodyPost_ret (v := .tuple #[.int .i64 0, .int .i64 4]) (by simp [results, Try.results38, go_sem, *]) rfl ⟨rfl, by (repeat' (first | (with_reducible exact K1) | (with_reducible refine Below.setCell ?_ ?_ _) | (with_reducible refine Below.alloc ?_ ?_ _) | (with_reducible refine Below.drew ?_) | (with_reducible refine below_drewN ?_ _))) <;> (first | omega | (simp <;> omega))⟩
  · have RV := Lib.hid (fun W (hW : Below w.heap.size w W) => bool_of (lvB_no hv) (rlvalid_any first A len cap zs W (h.below hW) hz))
    rw [smV_no hv]; clear h hz hv
    go_enter Try.func38, Try.ntmps38
    go_wp2_with fail
    refine (RV.out _ (by (repeat' (first | (with_reducible exact Below.refl _ _) | (with_reducible refine Below.setCell ?_ ?_ _) | (with_reducible refine Below.alloc ?_ ?_ _) | (with_reducible refine Below.drew ?_) | (with_reducible refine below_drewN ?_ _))) <;> (first | omega | (simp <;> omega)))).mono ?_
    rintro e w1 ⟨rfl, hb1⟩
    have K1 : Below w.heap.size w w1 := kept_call hb1 (by (repeat' (first | (with_reducible exact Below.refl _ _) | (with_reducible refine Below.setCell ?_ ?_ _) | (with_reducible refine Below.alloc ?_ ?_ _) | (with_reducible refine Below.drew ?_) | (with_reducible refine below_drewN ?_ _))) <;> (first | omega | (simp <;> omega)))
    have Z1 : w.heap.size ≤ w1.heap.size := K1.size
    have b1_0 := Blk.keep (g := w.heap.size) hb1 (by (repeat' (first | ((with_reducible refine' Blk.newE ?_); first | rfl | (simp; done)) | (with_reducible refine' Blk.alloc ?_ _) | (with_reducible refine' Blk.drew ?_) | (with_reducible refine' Blk.drewN ?_ _) | (with_reducible refine' Blk.put ?_ ?_) | (with_reducible refine' Blk.far ?_ ?_ _) | exact rfl)) <;> (first | omega | (simp <;> omega)))
    (try simp only [List.setIfInBounds_toArray, List.set_cons_zero, List.set_cons_succ] at b1_0)
    clear hb1
    obtain ⟨c1_0, f1_0, l1_0, e1_0, k1_0⟩ := Blk.facts b1_0
    have o1_0 := l1_0
    go_wp2
    exact bodyPost_ret (v := .tuple #[.int .i64 0, .int .i64 3]) (by simp [results, Try.results38, go_sem, *]) rfl ⟨rfl, by (repeat' (first | (with_reducible exact K1) | (with_reducible refine Below.setCell ?_ ?_ _) | (with_reducible refine Below.alloc ?_ ?_ _) | (with_reducible refine Below.drew ?_) | (with_reducible refine below_drewN ?_ _))) <;> (first | omega | (simp <;> omega))⟩
set_option maxRecDepth 100000 in
set_option maxHeartbeats 1000000 in
theorem windowS_any (first : Int) (A : Option Addr) (len cap : Nat) (zs : List (Int × Int)) (i : Int) (w : World) (h : PrAt w A len zs) (hz : ∀ z ∈ zs, IntIn z.1 ∧ IntIn z.2) :
    Calls Try.prog 29 #[.agg #[.int .i64 first, .slice A len cap], .int .i64 i] w (RB w (wdV first zs i)) := by
  have hzl := h.1
  by_cases hv : LVal first zs
  · have RV := Lib.hid (fun W (hW : Below w.heap.size w W) => bool_of (lvB_true.2 hv) (lvalid_any first A len cap zs W (h.below hW) hz))
    have H := Lib.hid h; have HV := Lib.hid hv; clear h hz
    by_cases h1 : 0 ≤ i ∧ i < zs.length
    · obtain ⟨k, rfl⟩ : ∃ k : Nat, i = k := ⟨i.toNat, by omega⟩
      have hk : k < len := by omega
      rw [wdV_in hv k (by omega)]; clear hv
      have g1 : decide ((k : Int) < 0) = false := decide_eq_false (by omega)
      have g2 : decide ((len : Int) ≤ (k : Int)) = false := decide_eq_false (by omega)
      have g3 : decide (len ≤ k) = false := decide_eq_false (by omega)
      have RS := Lib.hid (fun W (hW : Below w.heap.size w W) => window_any first A len cap zs k hk HV.out W (H.out.below hW))
      generalize wsLo zs k = sl at *
      generalize wsHi zs k = sh at *
      generalize wiLo first zs k = il at *
      generalize wiHi zs k = ih at *
      go_enter Try.func29, Try.ntmps29
      go_wp2_with fail
      refine (RV.out _ (by (repeat' (first | (with_reducible exact Below.refl _ _) | (with_reducible refine Below.setCell ?_ ?_ _) | (with_reducible refine Below.alloc ?_ ?_ _) | (with_reducible refine Below.drew ?_) | (with_reducible refine below_drewN ?_ _))) <;> (first | omega | (simp <;> omega)))).mono ?_
      rintro e w1 ⟨rfl, hb1⟩
      have K1 : Below w.heap.size w w1 := kept_call hb1 (by (repeat' (first | (with_reducible exact Below.refl _ _) | (with_reducible refine Below.setCell ?_ ?_ _) | (with_reducible refine Below.alloc ?_ ?_ _) | (with_reducible refine Below.drew ?_) | (with_reducible refine below_drewN ?_ _))) <;> (first | omega | (simp <;> omega)))
      have Z1 : w.heap.size ≤ w1.heap.size := K1.size
      have b1_0 := Blk.keep (g := w.heap.size) hb1 (by (repeat' (first | ((with_reducible refine' Blk.newE ?_); first | rfl | (simp; done)) | (with_reducible refine' Blk.alloc ?_ _) | (with_reducible refine' Blk.drew ?_) | (with_reducible refine' Blk.drewN ?_ _) | (with_reducible refine' Blk.put ?_ ?_) | (with_reducible refine' Blk.far ?_ ?_ _) | exact rfl)) <;> (first | omega | (simp <;> omega)))
      (try simp only [List.setIfInBounds_toArray, List.set_cons_zero, List.set_cons_succ] at b1_0)
      have b1_1 := Blk.keep (g := w.heap.size + 1) hb1 (by (repeat' (first | ((with_reducible refine' Blk.newE ?_); first | rfl | (simp; done)) | (with_reducible refine' Blk.alloc ?_ _) | (with_reducible refine' Blk.drew ?_) | (with_reducible refine' Blk.drewN ?_ _) | (with_reducible refine' Blk.put ?_ ?_) | (with_reducible refine' Blk.far ?_ ?_ _) | exact rfl)) <;> (first | omega | (simp <;> omega)))
      (try simp only [List.setIfInBounds_toArray, List.set_cons_zero, List.set_cons_succ] at b1_1)
      have b1_2 := Blk.keep (g := w.heap.size + 2) hb1 (by (repeat' (first | ((with_reducible refine' Blk.newE ?_); first | rfl | (simp; done)) | (with_reducible refine' Blk.alloc ?_ _) | (with_reducible refine' Blk.drew ?_) | (with_reducible refine' Blk.drewN ?_ _) | (with_reducible refine' Blk.put ?_ ?_) | (with_reducible refine' Blk.far ?_ ?_ _) | exact rfl)) <;> (first | omega | (simp <;> omega)))
      (try simp only [List.setIfInBounds_toArray, List.set_cons_zero, List.set_cons_succ] at b1_2)
      clear hb1
      obtain ⟨c1_0, f1_0, l1_0, e1_0, k1_0⟩ := Blk.facts b1_0
      obtain ⟨c1_1, f1_1, l1_1, e1_1, k1_1⟩ := Blk.facts b1_1
      obtain ⟨c1_2, f1_2, l1_2, e1_2, k1_2⟩ := Blk.facts b1_2
      have o1_0 := l1_0
      have o1_1 := l1_1
      have o1_2 := l1_2
      go_wp2_with fail
      refine (RS.out _ (by (repeat' (first | (with_reducible exact K1) | (with_reducible refine Below.setCell ?_ ?_ _) | (with_reducible refine Below.alloc ?_ ?_ _) | (with_reducible refine Below.drew ?_) | (with_reducible refine below_drewN ?_ _))) <;> (first | omega | (simp <;> omega)))).mono ?_
      rintro e w2 ⟨rfl, hb2⟩
      have K2 : Below w.heap.size w w2 := kept_call hb2 (by (repeat' (first | (with_reducible exact K1) | (with_reducible refine Below.setCell ?_ ?_ _) | (with_reducible refine Below.alloc ?_ ?_ _) | (with_reducible refine Below.drew ?_) | (with_reducible refine below_drewN ?_ _))) <;> (first | omega | (simp <;> omega)))
      have Z2 : w.heap.size ≤ w2.heap.size := K2.size
      have b1_0' := Blk.keep (g := w.heap.size) hb2 (by (repeat' (first | (with_reducible refine' Blk.alloc ?_ _) | (with_reducible refine' Blk.drew ?_) | (with_reducible refine' Blk.drewN ?_ _) | (with_reducible refine' Blk.put ?_ ?_) | (with_reducible refine' Blk.far ?_ ?_ _) | exact b1_0 | exact rfl)) <;> (first | omega | (simp <;> omega)))
      (try simp only [List.setIfInBounds_toArray, List.set_cons_zero, List.set_cons_succ] at b1_0')
      have b1_1' := Blk.keep (g := w.heap.size + 1) hb2 (by (repeat' (first | (with_reducible refine' Blk.alloc ?_ _) | (with_reducible refine' Blk.drew ?_) | (with_reducible refine' Blk.drewN ?_ _) | (with_reducible refine' Blk.put ?_ ?_) | (with_reducible refine' Blk.far ?_ ?_ _) | exact b1_1 | exact rfl)) <;> (first | omega | (simp <;> omega)))
      (try simp only [List.setIfInBounds_toArray, List.set_cons_zero, List.set_cons_succ] at b1_1')
      have b1_2' := Blk.keep (g := w.heap.size + 2) hb2 (by (repeat' (first | (with_reducible refine' Blk.alloc ?_ _) | (with_reducible refine' Blk.drew ?_) | (with_reducible refine' Blk.drewN ?_ _) | (with_reducible refine' Blk.put ?_ ?_) | (with_reducible refine' Blk.far ?_ ?_ _) | exact b1_2 | exact rfl)) <;> (first | omega | (simp <;> omega)))
      (try simp only [List.setIfInBounds_toArray, List.set_cons_zero, List.set_cons_succ] at b1_2')
      clear hb2 K1
      clear b1_0 c1_0 f1_0 l1_0 e1_0 k1_0; have b1_0 := b1_0'; clear b1_0'
      clear b1_1 c1_1 f1_1 l1_1 e1_1 k1_1; have b1_1 := b1_1'; clear b1_1'
      clear b1_2 c1_2 f1_2 l1_2 e1_2 k1_2; have b1_2 := b1_2'; clear b1_2'
      obtain ⟨c1_0, f1_0, l1_0, e1_0, k1_0⟩ := Blk.facts b1_0
      obtain ⟨c1_1, f1_1, l1_1, e1_1, k1_1⟩ := Blk.facts b1_1
      obtain ⟨c1_2, f1_2, l1_2, e1_2, k1_2⟩ := Blk.facts b1_2
      go_upto_region 6 with fail
      go_cut [6] (fun s6 wx => s6 = .int .i64 0 ∧ Blk wx (w.heap.size + 1) 42 #[.int .i64 sl, .int .i64 sh] ∧ Blk wx (w.heap.size + 2) 42 #[.int .i64 il, .int .i64 ih] ∧ Below w.heap.size w wx)
      case first =>
        go_region_with fail
        all_goals
          go_wp2_with fail
          go_meet
          exact ⟨rfl, by (repeat' (first | (with_reducible exact b1_1) | (with_reducible refine' Blk.alloc ?_ _) | (with_reducible refine' Blk.drew ?_) | (with_reducible refine' Blk.drewN ?_ _) | (with_reducible refine' Blk.put ?_ ?_) | (with_reducible refine' Blk.far ?_ ?_ _) | exact b1_1 | exact rfl)) <;> (first | omega | (simp <;> omega)), by (repeat' (first | (with_reducible exact b1_2) | (with_reducible refine' Blk.alloc ?_ _) | (with_reducible refine' Blk.drew ?_) | (with_reducible refine' Blk.drewN ?_ _) | (with_reducible refine' Blk.put ?_ ?_) | (with_reducible refine' Blk.far ?_ ?_ _) | exact b1_2 | exact rfl)) <;> (first | omega | (simp <;> omega)), by (repeat' (first | (with_reducible exact K2) | (with_reducible refine Below.setCell ?_ ?_ _) | (with_reducible refine Below.alloc ?_ ?_ _) | (with_reducible refine Below.drew ?_) | (with_reducible refine below_drewN ?_ _))) <;> (first | omega | (simp <;> omega))⟩
      case rest =>
        obtain ⟨rfl, bS, bI, KC⟩ := hcut
        have cS := bS.cell; have cI := bI.cell
        clear K2
        go_wp2
        exact bodyPost_ret (v := .tuple #[.agg #[.int .i64 sl, .int .i64 sh], .agg #[.int .i64 il, .int .i64 ih], .int .i64 0]) (by simp [results, Try.results29, go_sem, *]) rfl ⟨rfl, by (repeat' (first | (with_reducible exact KC) | (with_reducible refine Below.setCell ?_ ?_ _) | (with_reducible refine Below.alloc ?_ ?_ _) | (with_reducible refine Below.drew ?_) | (with_reducible refine below_drewN ?_ _))) <;> (first | omega | (simp <;> omega))⟩
    · rw [wdV_out hv h1]; clear hv
      by_cases h2 : i < 0
      · have g1 : decide (i < 0) = true := decide_eq_true h2
        go_enter Try.func29, Try.ntmps29
        go_wp2_with fail
        refine (RV.out _ (by (repeat' (first | (with_reducible exact Below.refl _ _) | (with_reducible refine Below.setCell ?_ ?_ _) | (with_reducible refine Below.alloc ?_ ?_ _) | (with_reducible refine Below.drew ?_) | (with_reducible refine below_drewN ?_ _))) <;> (first | omega | (simp <;> omega)))).mono ?_
        rintro e w1 ⟨rfl, hb1⟩
        have K1 : Below w.heap.size w w1 := kept_call hb1 (by (repeat' (first | (with_reducible exact Below.refl _ _) | (with_reducible refine Below.setCell ?_ ?_ _) | (with_reducible refine Below.alloc ?_ ?_ _) | (with_reducible refine Below.drew ?_) | (with_reducible refine below_drewN ?_ _))) <;> (first | omega | (simp <;> omega)))
        have Z1 : w.heap.size ≤ w1.heap.size := K1.size
        have b1_0 := Blk.keep (g := w.heap.size) hb1 (by (repeat' (first | ((with_reducible refine' Blk.newE ?_); first | rfl | (simp; done)) | (with_reducible refine' Blk.alloc ?_ _) | (with_reducible refine' Blk.drew ?_) | (with_reducible refine' Blk.drewN ?_ _) | (with_reducible refine' Blk.put ?_ ?_) | (with_reducible refine' Blk.far ?_ ?_ _) | exact rfl)) <;> (first | omega | (simp <;> omega)))
        (try simp only [List.setIfInBounds_toArray, List.set_cons_zero, List.set_cons_succ] at b1_0)
        have b1_1 := Blk.keep (g := w.heap.size + 1) hb1 (by (repeat' (first | ((with_reducible refine' Blk.newE ?_); first | rfl | (simp; done)) | (with_reducible refine' Blk.alloc ?_ _) | (with_reducible refine' Blk.drew ?_) | (with_reducible refine' Blk.drewN ?_ _) | (with_reducible refine' Blk.put ?_ ?_) | (with_reducible refine' Blk.far ?_ ?_ _) | exact rfl)) <;> (first | omega | (simp <;> omega)))
        (try simp only [List.setIfInBounds_toArray, List.set_cons_zero, List.set_cons_succ] at b1_1)
        have b1_2 := Blk.keep (g := w.heap.size + 2) hb1 (by (repeat' (first | ((with_reducible refine' Blk.newE ?_); first | rfl | (simp; done)) | (with_reducible refine' Blk.alloc ?_ _) | (with_reducible refine' Blk.drew ?_) | (with_reducible refine' Blk.drewN ?_ _) | (with_reducible refine' Blk.put ?_ ?_) | (with_reducible refine' Blk.far ?_ ?_ _) | exact rfl)) <;> (first | omega | (simp <;> omega)))
        (try simp only [List.setIfInBounds_toArray, List.set_cons_zero, List.set_cons_succ] at b1_2)
        clear hb1
        obtain ⟨c1_0, f1_0, l1_0, e1_0, k1_0⟩ := Blk.facts b1_0
        obtain ⟨c1_1, f1_1, l1_1, e1_1, k1_1⟩ := Blk.facts b1_1
        obtain ⟨c1_2, f1_2, l1_2, e1_2, k1_2⟩ := Blk.facts b1_2
        have o1_0 := l1_0
        have o1_1 := l1_1
        have o1_2 := l1_2
        go_wp2
        exact bodyPost_ret (v := .tuple #[.agg #[.int .i64 0, .int .i64 0], .agg #[.int .i64 0, .int .i64 0], .int .i64 4]) (by simp [results, Try.results29, go_sem, *]) rfl ⟨rfl, by (repeat' (first | (with_reducible exact K1) | (with_reducible refine Below.setCell ?_ ?_ _) | (with_reducible refine Below.alloc ?_ ?_ _) | (with_reducible refine Below.drew ?_) | (with_reducible refine below_drewN ?_ _))) <;> (first | omega | (simp <;> omega))⟩
      · have g1 : decide (i < 0) = false := decide_eq_false h2
        have g2 : decide ((len : Int) ≤ i) = true := decide_eq_true (by omega)
        go_enter Try.func29, Try.ntmps29
        go_wp2_with fail
        refine (RV.out _ (by (repeat' (first | (with_reducible exact Below.refl _ _) | (with_reducible refine Below.setCell ?_ ?_ _) | (with_reducible refine Below.alloc ?_ ?_ _) | (with_reducible refine Below.drew ?_) | (with_reducible refine below_drewN ?_ _))) <;> (first | omega | (simp <;> omega)))).mono ?_
        rintro e w1 ⟨rfl, hb1⟩
        have K1 : Below w.heap.size w w1 := kept_call hb1 (by (repeat' (first | (with_reducible exact Below.refl _ _) | (with_reducible refine Below.setCell ?_ ?_ _) | (with_reducible refine Below.alloc ?_ ?_ _) | (with_reducible refine Below.drew ?_) | (with_reducible refine below_drewN ?_ _))) <;> (first | omega | (simp <;> omega)))
        have Z1 : w.heap.size ≤ w1.heap.size := K1.size
        have b1_0 := Blk.keep (g := w.heap.size) hb1 (by (repeat' (first | ((with_reducible refine' Blk.newE ?_); first | rfl | (simp; done)) | (with_reducible refine' Blk.alloc ?_ _) | (with_reducible refine' Blk.drew ?_) | (with_reducible refine' Blk.drewN ?_ _) | (with_reducible refine' Blk.put ?_ ?_) | (with_reducible refine' Blk.far ?_ ?_ _) | exact rfl)) <;> (first | omega | (simp <;> omega)))
        (try simp only [List.setIfInBounds_toArray, List.set_cons_zero, List.set_cons_succ] at b1_0)
        have b1_1 := Blk.keep (g := w.heap.size + 1) hb1 (by (repeat' (first | ((with_reducible refine' Blk.newE ?_); first | rfl | (simp; done)) | (with_reducible refine' Blk.alloc ?_ _) | (with_reducible refine' Blk.drew ?_) | (with_reducible refine' Blk.drewN ?_ _) | (with_reducible refine' Blk.put ?_ ?_) | (with_reducible refine' Blk.far ?_ ?_ _) | exact rfl)) <;> (first | omega | (simp <;> omega)))
        (try simp only [List.setIfInBounds_toArray, List.set_cons_zero, List.set_cons_succ] at b1_1)
        have b1_2 := Blk.keep (g := w.heap.size + 2) hb1 (by (repeat' (first | ((with_reducible refine' Blk.newE ?_); first | rfl | (simp; done)) | (with_reducible refine' Blk.alloc ?_ _) | (with_reducible refine' Blk.drew ?_) | (with_reducible refine' Blk.drewN ?_ _) | (with_reducible refine' Blk.put ?_ ?_) | (with_reducible refine' Blk.far ?_ ?_ _) | exact rfl)) <;> (first | omega | (simp <;> omega)))
        (try simp only [List.setIfInBounds_toArray, List.set_cons_zero, List.set_cons_succ] at b1_2)
        clear hb1
        obtain ⟨c1_0, f1_0, l1_0, e1_0, k1_0⟩ := Blk.facts b1_0
        obtain ⟨c1_1, f1_1, l1_1, e1_1, k1_1⟩ := Blk.facts b1_1
        obtain ⟨c1_2, f1_2, l1_2, e1_2, k1_2⟩ := Blk.facts b1_2
        have o1_0 := l1_0
        have o1_1 := l1_1
        have o1_2 := l1_2
        go_wp2
        exact bodyPost_ret (v := .tuple #[.agg #[.int .i64 0, .int .i64 0], .agg #[.int .i64 0, .int .i64 0], .int .i64 4]) (by simp [results, Try.results29, go_sem, *]) rfl ⟨rfl, by (repeat' (first | (with_reducible exact K1) | (with_reducible refine Below.setCell ?_ ?_ _) | (with_reducible refine Below.alloc ?_ ?_ _) | (with_reducible refine Below.drew ?_) | (with_reducible refine below_drewN ?_ _))) <;> (first | omega | (simp <;> omega))⟩
  · have RV := Lib.hid (fun W (hW : Below w.heap.size w W) => bool_of (lvB_no hv) (lvalid_any first A len cap zs W (h.below hW) hz))
    rw [wdV_no hv]; clear h hz hv
    go_enter Try.func29, Try.ntmps29
    go_wp2_with fail
    refine (RV.out _ (by (repeat' (first | (with_reducible exact Below.refl _ _) | (with_reducible refine Below.setCell ?_ ?_ _) | (with_reducible refine Below.alloc ?_ ?_ _) | (with_reducible refine Below.drew ?_) | (with_reducible refine below_drewN ?_ _))) <;> (first | omega | (simp <;> omega)))).mono ?_
    rintro e w1 ⟨rfl, hb1⟩
    have K1 : Below w.heap.size w w1 := kept_call hb1 (by (repeat' (first | (with_reducible exact Below.refl _ _) | (with_reducible refine Below.setCell ?_ ?_ _) | (with_reducible refine Below.alloc ?_ ?_ _) | (with_reducible refine Below.drew ?_) | (with_reducible refine below_drewN ?_ _))) <;> (first | omega | (simp <;> omega)))
    have Z1 : w.heap.size ≤ w1.heap.size := K1.size
    have b1_0 := Blk.keep (g := w.heap.size) hb1 (by (repeat' (first | ((with_reducible refine' Blk.newE ?_); first | rfl | (simp; done)) | (with_reducible refine' Blk.alloc ?_ _) | (with_reducible refine' Blk.drew ?_) | (with_reducible refine' Blk.drewN ?_ _) | (with_reducible refine' Blk.put ?_ ?_) | (with_reducible refine' Blk.far ?_ ?_ _) | exact rfl)) <;> (first | omega | (simp <;> omega)))
    (try simp only [List.setIfInBounds_toArray, List.set_cons_zero, List.set_cons_succ] at b1_0)
    have b1_1 := Blk.keep (g := w.heap.size + 1) hb1 (by (repeat' (first | ((with_reducible refine' Blk.newE ?_); first | rfl | (simp; done)) | (with_reducible refine' Blk.alloc ?_ _) | (with_reducible refine' Blk.drew ?_) | (with_reducible refine' Blk.drewN ?_ _) | (with_reducible refine' Blk.put ?_ ?_) | (with_reducible refine' Blk.far ?_ ?_ _) | exact rfl)) <;> (first | omega | (simp <;> omega)))
    (try simp only [List.setIfInBounds_toArray, List.set_cons_zero, List.set_cons_succ] at b1_1)
    have b1_2 := Blk.keep (g := w.heap.size + 2) hb1 (by (repeat' (first | ((with_reducible refine' Blk.newE ?_); first | rfl | (simp; done)) | (with_reducible refine' Blk.alloc ?_ _) | (with_reducible refine' Blk.drew ?_) | (with_reducible refine' Blk.drewN ?_ _) | (with_reducible refine' Blk.put ?_ ?_) | (with_reducible refine' Blk.far ?_ ?_ _) | exact rfl)) <;> (first | omega | (simp <;> omega)))
    (try simp only [List.setIfInBounds_toArray, List.set_cons_zero, List.set_cons_succ] at b1_2)
    clear hb1
    obtain ⟨c1_0, f1_0, l1_0, e1_0, k1_0⟩ := Blk.facts b1_0
    obtain ⟨c1_1, f1_1, l1_1, e1_1, k1_1⟩ := Blk.facts b1_1
    obtain ⟨c1_2, f1_2, l1_2, e1_2, k1_2⟩ := Blk.facts b1_2
    have o1_0 := l1_0
    have o1_1 := l1_1
    have o1_2 := l1_2
    go_wp2
    exact bodyPost_ret (v := .tuple #[.agg #[.int .i64 0, .int .i64 0], .agg #[.int .i64 0, .int .i64 0], .int .i64 3]) (by simp [results, Try.results29, go_sem, *]) rfl ⟨rfl, by (repeat' (first | (with_reducible exact K1) | (with_reducible refine Below.setCell ?_ ?_ _) | (with_reducible refine Below.alloc ?_ ?_ _) | (with_reducible refine Below.drew ?_) | (with_reducible refine below_drewN ?_ _))) <;> (first | omega | (simp <;> omega))⟩
set_option maxRecDepth 100000 in
set_option maxHeartbeats 1000000 in
theorem rwindowS_any (first : Int) (A : Option Addr) (len cap : Nat) (zs : List (Int × Int)) (i : Int) (w : World) (h : PrAt w A len zs) (hz : ∀ z ∈ zs, IntIn z.1 ∧ IntIn z.2) :
    Calls Try.prog 37 #[.agg #[.int .i64 first, .slice A len cap], .int .i64 i] w (RB w (wdV first zs i)) := by
  have hzl := h.1
  by_cases hv : LVal first zs
  · have RV := Lib.hid (fun W (hW : Below w.heap.size w W) => bool_of (lvB_true.2 hv) (rlvalid_any first A len cap zs W (h.below hW) hz))
    have H := Lib.hid h; have HV := Lib.hid hv; clear h hz
    by_cases h1 : 0 ≤ i ∧ i < zs.length
    · obtain ⟨k, rfl⟩ : ∃ k : Nat, i = k := ⟨i.toNat, by omega⟩
      have hk : k < len := by omega
      rw [wdV_in hv k (by omega)]; clear hv
      have g1 : decide ((k : Int) < 0) = false := decide_eq_false (by omega)
      have g2 : decide ((len : Int) ≤ (k : Int)) = false := decide_eq_false (by omega)
      have g3 : decide (len ≤ k) = false := decide_eq_false (by omega)
      have RS := Lib.hid (fun W (hW : Below w.heap.size w W) => rwindow_any first A len cap zs k hk HV.out W (H.out.below hW))
      generalize wsLo zs k = sl at *
      generalize wsHi zs k = sh at *
      generalize wiLo first zs k = il at *
      generalize wiHi zs k = ih at *
      go_enter Try.func37, Try.ntmps37
      go_wp2_with fail
      refine (RV.out _ (by (repeat' (first | (with_reducible exact Below.refl _ _) | (with_reducible refine Below.setCell ?_ ?_ _) | (with_reducible refine Below.alloc ?_ ?_ _) | (with_reducible refine Below.drew ?_) | (with_reducible refine below_drewN ?_ _))) <;> (first | omega | (simp <;> omega)))).mono ?_
      rintro e w1 ⟨rfl, hb1⟩
      have K1 : Below w.heap.size w w1 := kept_call hb1 (by (repeat' (first | (with_reducible exact Below.refl _ _) | (with_reducible refine Below.setCell ?_ ?_ _) | (with_reducible refine Below.alloc ?_ ?_ _) | (with_reducible refine Below.drew ?_) | (with_reducible refine below_drewN ?_ _))) <;> (first | omega | (simp <;> omega)))
      have Z1 : w.heap.size ≤ w1.heap.size := K1.size
      have b1_0 := Blk.keep (g := w.heap.size) hb1 (by (repeat' (first | ((with_reducible refine' Blk.newE ?_); first | rfl | (simp; done)) | (with_reducible refine' Blk.alloc ?_ _) | (with_reducible refine' Blk.drew ?_) | (with_reducible refine' Blk.drewN ?_ _) | (with_reducible refine' Blk.put ?_ ?_) | (with_reducible refine' Blk.far ?_ ?_ _) | exact rfl)) <;> (first | omega | (simp <;> omega)))
      (try simp only [List.setIfInBounds_toArray, List.set_cons_zero, List.set_cons_succ] at b1_0)
      have b1_1 := Blk.keep (g := w.heap.size + 1) hb1 (by (repeat' (first | ((with_reducible refine' Blk.newE ?_); first | rfl | (simp; done)) | (with_reducible refine' Blk.alloc ?_ _) | (with_reducible refine' Blk.drew ?_) | (with_reducible refine' Blk.drewN ?_ _) | (with_reducible refine' Blk.put ?_ ?_) | (with_reducible refine' Blk.far ?_ ?_ _) | exact rfl)) <;> (first | omega | (simp <;> omega)))
      (try simp only [List.setIfInBounds_toArray, List.set_cons_zero, List.set_cons_succ] at b1_1)
      have b1_2 := Blk.keep (g := w.heap.size + 2) hb1 (by (repeat' (first | ((with_reducible refine' Blk.newE ?_); first | rfl | (simp; done)) | (with_reducible refine' Blk.alloc ?_ _) | (with_reducible refine' Blk.drew ?_) | (with_reducible refine' Blk.drewN ?_ _) | (with_reducible refine' Blk.put ?_ ?_) | (with_reducible refine' Blk.far ?_ ?_ _) | exact rfl)) <;> (first | omega | (simp <;> omega)))
      (try simp only [List.setIfInBounds_toArray, List.set_cons_zero, List.set_cons_succ] at b1_2)
      clear hb1
      obtain ⟨c1_0, f1_0, l1_0, e1_0, k1_0⟩ := Blk.facts b1_0
      obtain ⟨c1_1, f1_1, l1_1, e1_1, k1_1⟩ := Blk.facts b1_1
      obtain ⟨c1_2, f1_2, l1_2, e1_2, k1_2⟩ := Blk.facts b1_2
      have o1_0 := l1_0
      have o1_1 := l1_1
      have o1_2 := l1_2
      go_wp2_with fail
      refine (RS.out _ (by (repeat' (first | (with_reducible exact K1) | (with_reducible refine Below.setCell ?_ ?_ _) | (with_reducible refine Below.alloc ?_ ?_ _) | (with_reducible refine Below.drew ?_) | (with_reducible refine below_drewN ?_ _))) <;> (first | omega | (simp <;> omega)))).mono ?_
      rintro e w2 ⟨rfl, hb2⟩
      have K2 : Below w.heap.size w w2 := kept_call hb2 (by (repeat' (first | (with_reducible exact K1) | (with_reducible refine Below.setCell ?_ ?_ _) | (with_reducible refine Below.alloc ?_ ?_ _) | (with_reducible refine Below.drew ?_) | (with_reducible refine below_drewN ?_ _))) <;> (first | omega | (simp <;> omega)))
      have Z2 : w.heap.size ≤ w2.heap.size := K2.size
      have b1_0' := Blk.keep (g := w.heap.size) hb2 (by (repeat' (first | (with_reducible refine' Blk.alloc ?_ _) | (with_reducible refine' Blk.drew ?_) | (with_reducible refine' Blk.drewN ?_ _) | (with_reducible refine' Blk.put ?_ ?_) | (with_reducible refine' Blk.far ?_ ?_ _) | exact b1_0 | exact rfl)) <;> (first | omega | (simp <;> omega)))
      (try simp only [List.setIfInBounds_toArray, List.set_cons_zero, List.set_cons_succ] at b1_0')
      have b1_1' := Blk.keep (g := w.heap.size + 1) hb2 (by (repeat' (first | (with_reducible refine' Blk.alloc ?_ _) | (with_reducible refine' Blk.drew ?_) | (with_reducible refine' Blk.drewN ?_ _) | (with_reducible refine' Blk.put ?_ ?_) | (with_reducible refine' Blk.far ?_ ?_ _) | exact b1_1 | exact rfl)) <;> (first | omega | (simp <;> omega)))
      (try simp only [List.setIfInBounds_toArray, List.set_cons_zero, List.set_cons_succ] at b1_1')
      have b1_2' := Blk.keep (g := w.heap.size + 2) hb2 (by (repeat' (first | (with_reducible refine' Blk.alloc ?_ _) | (with_reducible refine' Blk.drew ?_) | (with_reducible refine' Blk.drewN ?_ _) | (with_reducible refine' Blk.put ?_ ?_) | (with_reducible refine' Blk.far ?_ ?_ _) | exact b1_2 | exact rfl)) <;> (first | omega | (simp <;> omega)))
      (try simp only [List.setIfInBounds_toArray, List.set_cons_zero, List.set_cons_succ] at b1_2')
      clear hb2 K1
      clear b1_0 c1_0 f1_0 l1_0 e1_0 k1_0; have b1_0 := b1_0'; clear b1_0'
      clear b1_1 c1_1 f1_1 l1_1 e1_1 k1_1; have b1_1 := b1_1'; clear b1_1'
      clear b1_2 c1_2 f1_2 l1_2 e1_2 k1_2; have b1_2 := b1_2'; clear b1_2'
      obtain ⟨c1_0, f1_0, l1_0, e1_0, k1_0⟩ := Blk.facts b1_0
      obtain ⟨c1_1, f1_1, l1_1, e1_1, k1_1⟩ := Blk.facts b1_1
      obtain ⟨c1_2, f1_2, l1_2, e1_2, k1_2⟩ := Blk.facts b1_2
      go_upto_region 6 with fail
      go_cut [6] (fun s6 wx => s6 = .int .i64 0 ∧ Blk wx (w.heap.size + 1) 42 #[.int .i64 sl, .int .i64 sh] ∧ Blk wx (w.heap.size + 2) 42 #[.int .i64 il, .int .i64 ih] ∧ Below w.heap.size w wx)
      case first =>
        go_region_with fail
        all_goals
          go_wp2_with fail
          go_meet
          exact ⟨rfl, by (repeat' (first | (with_reducible exact b1_1) | (with_reducible refine' Blk.alloc ?_ _) | (with_reducible refine' Blk.drew ?_) | (with_reducible refine' Blk.drewN ?_ _) | (with_reducible refine' Blk.put ?_ ?_) | (with_reducible refine' Blk.far ?_ ?_ _) | exact b1_1 | exact rfl)) <;> (first | omega | (simp <;> omega)), by (repeat' (first | (with_reducible exact b1_2) | (with_reducible refine' Blk.alloc ?_ _) | (with_reducible refine' Blk.drew ?_) | (with_reducible refine' Blk.drewN ?_ _) | (with_reducible refine' Blk.put ?_ ?_) | (with_reducible refine' Blk.far ?_ ?_ _) | exact b1_2 | exact rfl)) <;> (first | omega | (simp <;> omega)), by (repeat' (first | (with_reducible exact K2) | (with_reducible refine Below.setCell ?_ ?_ _) | (with_reducible refine Below.alloc ?_ ?_ _) | (with_reducible refine Below.drew ?_) | (with_reducible refine below_drewN ?_ _))) <;> (first | omega | (simp <;> omega))⟩
      case rest =>
        obtain ⟨rfl, bS, bI, KC⟩ := hcut
        have cS := bS.cell; have cI := bI.cell
        clear K2
        go_wp2
        exact bodyPost_ret (v := .tuple #[.agg #[.int .i64 sl, .int .i64 sh], .agg #[.int .i64 il, .int .i64 ih], .int .i64 0]) (by simp [results, Try.results37, go_sem, *]) rfl ⟨rfl, by (repeat' (first | (with_reducible exact KC) | (with_reducible refine Below.setCell ?_ ?_ _) | (with_reducible refine Below.alloc ?_ ?_ _) | (with_reducible refine Below.drew ?_) | (with_reducible refine below_drewN ?_ _))) <;> (first | omega | (simp <;> omega))⟩
    · rw [wdV_out hv h1]; clear hv
      by_cases h2 : i < 0
      · have g1 : decide (i < 0) = true := decide_eq_true h2
        go_enter Try.func37, Try.ntmps37
        go_wp2_with fail
        refine (RV.out _ (by (repeat' (first | (with_reducible exact Below.refl _ _) | (with_reducible refine Below.setCell ?_ ?_ _) | (with_reducible refine Below.alloc ?_ ?_ _) | (with_reducible refine Below.drew ?_) | (with_reducible refine below_drewN ?_ _))) <;> (first | omega | (simp <;> omega)))).mono ?_
        rintro e w1 ⟨rfl, hb1⟩
        have K1 : Below w.heap.size w w1 := kept_call hb1 (by (repeat' (first | (with_reducible exact Below.refl _ _) | (with_reducible refine Below.setCell ?_ ?_ _) | (with_reducible refine Below.alloc ?_ ?_ _) | (with_reducible refine Below.drew ?_) | (with_reducible refine below_drewN ?_ _))) <;> (first | omega | (simp <;> omega)))
        have Z1 : w.heap.size ≤ w1.heap.size := K1.size
        have b1_0 := Blk.keep (g := w.heap.size) hb1 (by (repeat' (first | ((with_reducible refine' Blk.newE ?_); first | rfl | (simp; done)) | (with_reducible refine' Blk.alloc ?_ _) | (with_reducible refine' Blk.drew ?_) | (with_reducible refine' Blk.drewN ?_ _) | (with_reducible refine' Blk.put ?_ ?_) | (with_reducible refine' Blk.far ?_ ?_ _) | exact rfl)) <;> (first | omega | (simp <;> omega)))
        (try simp only [List.setIfInBounds_toArray, List.set_cons_zero, List.set_cons_succ] at b1_0)
        have b1_1 := Blk.keep (g := w.heap.size + 1) hb1 (by (repeat' (first | ((with_reducible refine' Blk.newE ?_); first | rfl | (simp; done)) | (with_reducible refine' Blk.alloc ?_ _) | (with_reducible refine' Blk.drew ?_) | (with_reducible refine' Blk.drewN ?_ _) | (with_reducible refine' Blk.put ?_ ?_) | (with_reducible refine' Blk.far ?_ ?_ _) | exact rfl)) <;> (first | omega | (simp <;> omega)))
        (try simp only [List.setIfInBounds_toArray, List.set_cons_zero, List.set_cons_succ] at b1_1)
        have b1_2 := Blk.keep (g := w.heap.size + 2) hb1 (by (repeat' (first | ((with_reducible refine' Blk.newE ?_); first | rfl | (simp; done)) | (with_reducible refine' Blk.alloc ?_ _) | (with_reducible refine' Blk.drew ?_) | (with_reducible refine' Blk.drewN ?_ _) | (with_reducible refine' Blk.put ?_ ?_) | (with_reducible refine' Blk.far ?_ ?_ _) | exact rfl)) <;> (first | omega | (simp <;> omega)))
        (try simp only [List.setIfInBounds_toArray, List.set_cons_zero, List.set_cons_succ] at b1_2)
        clear hb1
        obtain ⟨c1_0, f1_0, l1_0, e1_0, k1_0⟩ := Blk.facts b1_0
        obtain ⟨c1_1, f1_1, l1_1, e1_1, k1_1⟩ := Blk.facts b1_1
        obtain ⟨c1_2, f1_2, l1_2, e1_2, k1_2⟩ := Blk.facts b1_2
        have o1_0 := l1_0
        have o1_1 := l1_1
        have o1_2 := l1_2
        go_wp2
        exact bodyPost_ret (v := .tuple #[.agg #[.int .i64 0, .int .i64 0], .agg #[.int .i64 0, .int .i64 0], .int .i64 4]) (by simp [results, Try.results37, go_sem, *]) rfl ⟨rfl, by (repeat' (first | (with_reducible exact K1) | (with_reducible refine Below.setCell ?_ ?_ _) | (with_reducible refine Below.alloc ?_ ?_ _) | (with_reducible refine Below.drew ?_) | (with_reducible refine below_drewN ?_ _))) <;> (first | omega | (simp <;> omega))⟩
      · have g1 : decide (i < 0) = false := decide_eq_false h2
        have g2 : decide ((len : Int) ≤ i) = true := decide_eq_true (by omega)
        go_enter Try.func37, Try.ntmps37
        go_wp2_with fail
        refine (RV.out _ (by (repeat' (first | (with_reducible exact Below.refl _ _) | (with_reducible refine Below.setCell ?_ ?_ _) | (with_reducible refine Below.alloc ?_ ?_ _) | (with_reducible refine Below.drew ?_) | (with_reducible refine below_drewN ?_ _))) <;> (first | omega | (simp <;> omega)))).mono ?_
        rintro e w1 ⟨rfl, hb1⟩
        have K1 : Below w.heap.size w w1 := kept_call hb1 (by (repeat' (first | (with_reducible exact Below.refl _ _) | (with_reducible refine Below.setCell ?_ ?_ _) | (with_reducible refine Below.alloc ?_ ?_ _) | (with_reducible refine Below.drew ?_) | (with_reducible refine below_drewN ?_ _))) <;> (first | omega | (simp <;> omega)))
        have Z1 : w.heap.size ≤ w1.heap.size := K1.size
        have b1_0 := Blk.keep (g := w.heap.size) hb1 (by (repeat' (first | ((with_reducible refine' Blk.newE ?_); first | rfl | (simp; done)) | (with_reducible refine' Blk.alloc ?_ _) | (with_reducible refine' Blk.drew ?_) | (with_reducible refine' Blk.drewN ?_ _) | (with_reducible refine' Blk.put ?_ ?_) | (with_reducible refine' Blk.far ?_ ?_ _) | exact rfl)) <;> (first | omega | (simp <;> omega)))
        (try simp only [List.setIfInBounds_toArray, List.set_cons_zero, List.set_cons_succ] at b1_0)
        have b1_1 := Blk.keep (g := w.heap.size + 1) hb1 (by (repeat' (first | ((with_reducible refine' Blk.newE ?_); first | rfl | (simp; done)) | (with_reducible refine' Blk.alloc ?_ _) | (with_reducible refine' Blk.drew ?_) | (with_reducible refine' Blk.drewN ?_ _) | (with_reducible refine' Blk.put ?_ ?_) | (with_reducible refine' Blk.far ?_ ?_ _) | exact rfl)) <;> (first | omega | (simp <;> omega)))
        (try simp only [List.setIfInBounds_toArray, List.set_cons_zero, List.set_cons_succ] at b1_1)
        have b1_2 := Blk.keep (g := w.heap.size + 2) hb1 (by (repeat' (first | ((with_reducible refine' Blk.newE ?_); first | rfl | (simp; done)) | (with_reducible refine' Blk.alloc ?_ _) | (with_reducible refine' Blk.drew ?_) | (with_reducible refine' Blk.drewN ?_ _) | (with_reducible refine' Blk.put ?_ ?_) | (with_reducible refine' Blk.far ?_ ?_ _) | exact rfl)) <;> (first | omega | (simp <;> omega)))
        (try simp only [List.setIfInBounds_toArray, List.set_cons_zero, List.set_cons_succ] at b1_2)
        clear hb1
        obtain ⟨c1_0, f1_0, l1_0, e1_0, k1_0⟩ := Blk.facts b1_0
        obtain ⟨c1_1, f1_1, l1_1, e1_1, k1_1⟩ := Blk.facts b1_1
        obtain ⟨c1_2, f1_2, l1_2, e1_2, k1_2⟩ := Blk.facts b1_2
        have o1_0 := l1_0
        have o1_1 := l1_1
        have o1_2 := l1_2
        go_wp2
        exact bodyPost_ret (v := .tuple #[.agg #[.int .i64 0, .int .i64 0], .agg #[.int .i64 0, .int .i64 0], .int .i64 4]) (by simp [results, Try.results37, go_sem, *]) rfl ⟨rfl, by (repeat' (first | (with_reducible exact K1) | (with_reducible refine Below.setCell ?_ ?_ _) | (with_reducible refine Below.alloc ?_ ?_ _) | (with_reducible refine Below.drew ?_) | (with_reducible refine below_drewN ?_ _))) <;> (first | omega | (simp <;> omega))⟩
  · have RV := Lib.hid (fun W (hW : Below w.heap.size w W) => bool_of (lvB_no hv) (rlvalid_any first A len cap zs W (h.below hW) hz))
    rw [wdV_no hv]; clear h hz hv
    go_enter Try.func37, Try.ntmps37
    go_wp2_with fail
    refine (RV.out _ (by (repeat' (first | (with_reducible exact Below.refl _ _) | (with_reducible refine Below.setCell ?_ ?_ _) | (with_reducible refine Below.alloc ?_ ?_ _) | (with_reducible refine Below.drew ?_) | (with_reducible refine below_drewN ?_ _))) <;> (first | omega | (simp <;> omega)))).mono ?_
    rintro e w1 ⟨rfl, hb1⟩
    have K1 : Below w.heap.size w w1 := kept_call hb1 (by (repeat' (first | (with_reducible exact Below.refl _ _) | (with_reducible refine Below.setCell ?_ ?_ _) | (with_reducible refine Below.alloc ?_ ?_ _) | (with_reducible refine Below.drew ?_) | (with_reducible refine below_drewN ?_ _))) <;> (first | omega | (simp <;> omega)))
    have Z1 : w.heap.size ≤ w1.heap.size := K1.size
    have b1_0 := Blk.keep (g := w.heap.size) hb1 (by (repeat' (first | ((with_reducible refine' Blk.newE ?_); first | rfl | (simp; done)) | (with_reducible refine' Blk.alloc ?_ _) | (with_reducible refine' Blk.drew ?_) | (with_reducible refine' Blk.drewN ?_ _) | (with_reducible refine' Blk.put ?_ ?_) | (with_reducible refine' Blk.far ?_ ?_ _) | exact rfl)) <;> (first | omega | (simp <;> omega)))
    (try simp only [List.setIfInBounds_toArray, List.set_cons_zero, List.set_cons_succ] at b1_0)
    have b1_1 := Blk.keep (g := w.heap.size + 1) hb1 (by (repeat' (first | ((with_reducible refine' Blk.newE ?_); first | rfl | (simp; done)) | (with_reducible refine' Blk.alloc ?_ _) | (with_reducible refine' Blk.drew ?_) | (with_reducible refine' Blk.drewN ?_ _) | (with_reducible refine' Blk.put ?_ ?_) | (with_reducible refine' Blk.far ?_ ?_ _) | exact rfl)) <;> (first | omega | (simp <;> omega)))
    (try simp only [List.setIfInBounds_toArray, List.set_cons_zero, List.set_cons_succ] at b1_1)
    have b1_2 := Blk.keep (g := w.heap.size + 2) hb1 (by (repeat' (first | ((with_reducible refine' Blk.newE ?_); first | rfl | (simp; done)) | (with_reducible refine' Blk.alloc ?_ _) | (with_reducible refine' Blk.drew ?_) | (with_reducible refine' Blk.drewN ?_ _) | (with_reducible refine' Blk.put ?_ ?_) | (with_reducible refine' Blk.far ?_ ?_ _) | exact rfl)) <;> (first | omega | (simp <;> omega)))
    (try simp only [List.setIfInBounds_toArray, List.set_cons_zero, List.set_cons_succ] at b1_2)
    clear hb1
    obtain ⟨c1_0, f1_0, l1_0, e1_0, k1_0⟩ := Blk.facts b1_0
    obtain ⟨c1_1, f1_1, l1_1, e1_1, k1_1⟩ := Blk.facts b1_1
    obtain ⟨c1_2, f1_2, l1_2, e1_2, k1_2⟩ := Blk.facts b1_2
    have o1_0 := l1_0
    have o1_1 := l1_1
    have o1_2 := l1_2
    go_wp2
    exact bodyPost_ret (v := .tuple #[.agg #[.int .i64 0, .int .i64 0], .agg #[.int .i64 0, .int .i64 0], .int .i64 3]) (by simp [results, Try.results37, go_sem, *]) rfl ⟨rfl, by (repeat' (first | (with_reducible exact K1) | (with_reducible refine Below.setCell ?_ ?_ _) | (with_reducible refine Below.alloc ?_ ?_ _) | (with_reducible refine Below.drew ?_) | (with_reducible refine below_drewN ?_ _))) <;> (first | omega | (simp <;> omega))⟩
end Go.Proofs.Ytmebkbnildjfhaa
