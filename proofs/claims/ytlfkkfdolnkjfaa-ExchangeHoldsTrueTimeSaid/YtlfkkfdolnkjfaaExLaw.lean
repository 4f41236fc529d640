/- Walks: exchange.Offset at a sample; law23.known, travel. -/
import Derived.Test.YtlfkkfdolnkjfaaExAt
import Derived.Test.YtlfkkfdolnkjfaaKitT
import Derived.Test.YtlfkkfdolnkjfaaFrame
namespace Go.Proofs.Ytlfkkfdolnkjfaa
open Go.RowKit

set_option maxHeartbeats 1000000 in
theorem spanned_ok (lo hi : Int) (h : vS lo hi = true) (w : World) :
    Calls Try.prog 103 #[.int .i64 lo, .int .i64 hi] w (RB w (.tuple #[.agg #[.int .i64 lo, .int .i64 hi], .int .i64 0])) := by
  go_enter Try.func103, Try.ntmps103
  go_wp2_with fail
  refine (svalid_any _ _ _).mono ?_
  rintro e wq1 ⟨rfl, rfl⟩
  rw [h]
  go_wp2
  exact bodyPost_ret (v := .tuple #[.agg #[.int .i64 lo, .int .i64 hi], .int .i64 0]) (by simp [results, Try.results103, go_sem, *]) rfl ⟨rfl, by (repeat' (first | (with_reducible exact Below.refl _ _) | (with_reducible refine Below.setCell ?_ ?_ _) | (with_reducible refine Below.alloc ?_ ?_ _) | (with_reducible refine Below.drew ?_) | (with_reducible refine below_drewN ?_ _))) <;> (first | omega | (simp <;> omega))⟩
set_option maxHeartbeats 1000000 in
theorem delay_in (t1 t2 t3 t4 err : Int) (b1 : -1152921504606846976 ≤ t1 ∧ t1 ≤ 1152921504606846976) (b2 : -1152921504606846976 ≤ t2 ∧ t2 ≤ 1152921504606846976) (b3 : -1152921504606846976 ≤ t3 ∧ t3 ≤ 1152921504606846976) (b4 : -1152921504606846976 ≤ t4 ∧ t4 ≤ 1152921504606846976) (w : World) :
    Calls Try.prog 102 #[.agg #[.int .i64 t1, .int .i64 t2, .int .i64 t3, .int .i64 t4, .int .i64 err]] w (RB w (.int .i64 (t4 - t1 - (t3 - t2)))) := by
  go_enter Try.func102, Try.ntmps102
  go_wp2
  go_ret
  exact ⟨rfl, by (repeat' (first | (with_reducible exact Below.refl _ _) | (with_reducible refine Below.setCell ?_ ?_ _) | (with_reducible refine Below.alloc ?_ ?_ _) | (with_reducible refine Below.drew ?_) | (with_reducible refine below_drewN ?_ _))) <;> (first | omega | (simp <;> omega))⟩
set_option maxHeartbeats 1000000 in
theorem offset_known  (w : World) :
    Calls Try.prog 62 #[.agg #[.int .i64 100, .int .i64 160, .int .i64 170, .int .i64 130, .int .i64 0]] w (RB w (.tuple #[.agg #[.int .i64 40, .int .i64 60], .int .i64 0])) := by
  have r1 := excheck_any 100 160 170 130 0
  rw [show exE 100 160 170 130 0 = 0 by decide +kernel] at r1
  have r2 := delay_in 100 160 170 130 0 (by omega) (by omega) (by omega) (by omega)
  have r3 := spanned_ok 40 60 (by decide +kernel)
  have R1 := Lib.hid r1; clear r1
  have R2 := Lib.hid r2; clear r2
  have R3 := Lib.hid r3; clear r3
  go_enter Try.func62, Try.ntmps62
  go_wp2_with fail
  refine (R1.out _).mono ?_
  rintro e w1 ⟨rfl, hb1⟩
  have K1 : Below w.heap.size w w1 := kept_call hb1 (by (repeat' (first | (with_reducible exact Below.refl _ _) | (with_reducible refine Below.setCell ?_ ?_ _) | (with_reducible refine Below.alloc ?_ ?_ _) | (with_reducible refine Below.drew ?_) | (with_reducible refine below_drewN ?_ _))) <;> (first | omega | (simp <;> omega)))
  have Z1 : w.heap.size ≤ w1.heap.size := K1.size
  have b1_0 := Blk.keep (g := w.heap.size) hb1 (by (repeat' (first | (with_reducible exact Blk.new _ _ _) | (with_reducible refine' Blk.alloc ?_ _) | (with_reducible refine' Blk.drew ?_) | (with_reducible refine' Blk.drewN ?_ _) | (with_reducible refine' Blk.set_ ?_ _ _) | (with_reducible refine' Blk.far ?_ ?_ _))) <;> (first | omega | (simp <;> omega)))
  have b1_1 := Blk.keep (g := w.heap.size + 1) hb1 (by (repeat' (first | (with_reducible exact Blk.new1 _ _ _ _) | (with_reducible refine' Blk.alloc ?_ _) | (with_reducible refine' Blk.drew ?_) | (with_reducible refine' Blk.drewN ?_ _) | (with_reducible refine' Blk.set_ ?_ _ _) | (with_reducible refine' Blk.far ?_ ?_ _))) <;> (first | omega | (simp <;> omega)))
  clear hb1
  obtain ⟨c1_0, f1_0, l1_0, e1_0, k1_0⟩ := Blk.facts b1_0
  obtain ⟨c1_1, f1_1, l1_1, e1_1, k1_1⟩ := Blk.facts b1_1
  go_wp2_with fail
  refine (R2.out _).mono ?_
  rintro e w2 ⟨rfl, hb2⟩
  have K2 : Below w.heap.size w w2 := kept_call hb2 (by (repeat' (first | (with_reducible exact K1) | (with_reducible refine Below.setCell ?_ ?_ _) | (with_reducible refine Below.alloc ?_ ?_ _) | (with_reducible refine Below.drew ?_) | (with_reducible refine below_drewN ?_ _))) <;> (first | omega | (simp <;> omega)))
  have Z2 : w.heap.size ≤ w2.heap.size := K2.size
  have b1_0' := Blk.keep (g := w.heap.size) hb2 (by (repeat' (first | (with_reducible refine' Blk.alloc ?_ _) | (with_reducible refine' Blk.drew ?_) | (with_reducible refine' Blk.drewN ?_ _) | (with_reducible refine' Blk.set_ ?_ _ _) | (with_reducible refine' Blk.far ?_ ?_ _) | exact b1_0)) <;> (first | omega | (simp <;> omega)))
  have b1_1' := Blk.keep (g := w.heap.size + 1) hb2 (by (repeat' (first | (with_reducible refine' Blk.alloc ?_ _) | (with_reducible refine' Blk.drew ?_) | (with_reducible refine' Blk.drewN ?_ _) | (with_reducible refine' Blk.set_ ?_ _ _) | (with_reducible refine' Blk.far ?_ ?_ _) | exact b1_1)) <;> (first | omega | (simp <;> omega)))
  clear hb2 K1
  clear b1_0 c1_0 f1_0 l1_0 e1_0 k1_0; have b1_0 := b1_0'; clear b1_0'
  clear b1_1 c1_1 f1_1 l1_1 e1_1 k1_1; have b1_1 := b1_1'; clear b1_1'
  obtain ⟨c1_0, f1_0, l1_0, e1_0, k1_0⟩ := Blk.facts b1_0
  obtain ⟨c1_1, f1_1, l1_1, e1_1, k1_1⟩ := Blk.facts b1_1
  go_wp2_with fail
  refine (R3.out _).mono ?_
  rintro e w3 ⟨rfl, hb3⟩
  have K3 : Below w.heap.size w w3 := kept_call hb3 (by (repeat' (first | (with_reducible exact K2) | (with_reducible refine Below.setCell ?_ ?_ _) | (with_reducible refine Below.alloc ?_ ?_ _) | (with_reducible refine Below.drew ?_) | (with_reducible refine below_drewN ?_ _))) <;> (first | omega | (simp <;> omega)))
  have Z3 : w.heap.size ≤ w3.heap.size := K3.size
  have b1_0' := Blk.keep (g := w.heap.size) hb3 (by (repeat' (first | (with_reducible refine' Blk.alloc ?_ _) | (with_reducible refine' Blk.drew ?_) | (with_reducible refine' Blk.drewN ?_ _) | (with_reducible refine' Blk.set_ ?_ _ _) | (with_reducible refine' Blk.far ?_ ?_ _) | exact b1_0)) <;> (first | omega | (simp <;> omega)))
  have b1_1' := Blk.keep (g := w.heap.size + 1) hb3 (by (repeat' (first | (with_reducible refine' Blk.alloc ?_ _) | (with_reducible refine' Blk.drew ?_) | (with_reducible refine' Blk.drewN ?_ _) | (with_reducible refine' Blk.set_ ?_ _ _) | (with_reducible refine' Blk.far ?_ ?_ _) | exact b1_1)) <;> (first | omega | (simp <;> omega)))
  clear hb3 K2
  clear b1_0 c1_0 f1_0 l1_0 e1_0 k1_0; have b1_0 := b1_0'; clear b1_0'
  clear b1_1 c1_1 f1_1 l1_1 e1_1 k1_1; have b1_1 := b1_1'; clear b1_1'
  obtain ⟨c1_0, f1_0, l1_0, e1_0, k1_0⟩ := Blk.facts b1_0
  obtain ⟨c1_1, f1_1, l1_1, e1_1, k1_1⟩ := Blk.facts b1_1
  go_wp2
  exact bodyPost_ret (v := .tuple #[.agg #[.int .i64 40, .int .i64 60], .int .i64 0]) (by simp [results, Try.results62, go_sem, *]) rfl ⟨rfl, by (repeat' (first | (with_reducible exact K3) | (with_reducible refine Below.setCell ?_ ?_ _) | (with_reducible refine Below.alloc ?_ ?_ _) | (with_reducible refine Below.drew ?_) | (with_reducible refine below_drewN ?_ _))) <;> (first | omega | (simp <;> omega))⟩
set_option maxHeartbeats 2000000 in
theorem known23_any  (w : World) :
    Calls Try.prog 18 #[] w (RB w (.bool true)) := by
  have r2 := at_any 100 160 170 130 0 0
  rw [show atV 100 160 170 130 0 0 = .tuple #[.agg #[.int .i64 170, .int .i64 190], .int .i64 0] by kernel_rfl] at r2
  have R2 := Lib.hid r2; clear r2
  go_enter Try.func18, Try.ntmps18
  go_wp2_with fail
  refine (offset_known _).mono ?_
  rintro e w1 ⟨rfl, hb1⟩
  have K1 : Below w.heap.size w w1 := kept_call hb1 (by (repeat' (first | (with_reducible exact Below.refl _ _) | (with_reducible refine Below.setCell ?_ ?_ _) | (with_reducible refine Below.alloc ?_ ?_ _) | (with_reducible refine Below.drew ?_) | (with_reducible refine below_drewN ?_ _))) <;> (first | omega | (simp <;> omega)))
  have Z1 : w.heap.size ≤ w1.heap.size := K1.size
  have b1_0 := Blk.keep (g := w.heap.size) hb1 (by (repeat' (first | (with_reducible exact Blk.new _ _ _) | (with_reducible refine' Blk.alloc ?_ _) | (with_reducible refine' Blk.drew ?_) | (with_reducible refine' Blk.drewN ?_ _) | (with_reducible refine' Blk.set_ ?_ _ _) | (with_reducible refine' Blk.far ?_ ?_ _))) <;> (first | omega | (simp <;> omega)))
  clear hb1
  obtain ⟨c1_0, f1_0, l1_0, e1_0, k1_0⟩ := Blk.facts b1_0
  go_wp2_with fail
  refine (R2.out _).mono ?_
  rintro e w2 ⟨rfl, hb2⟩
  have K2 : Below w.heap.size w w2 := kept_call hb2 (by (repeat' (first | (with_reducible exact K1) | (with_reducible refine Below.setCell ?_ ?_ _) | (with_reducible refine Below.alloc ?_ ?_ _) | (with_reducible refine Below.drew ?_) | (with_reducible refine below_drewN ?_ _))) <;> (first | omega | (simp <;> omega)))
  have Z2 : w.heap.size ≤ w2.heap.size := K2.size
  have b1_0' := Blk.keep (g := w.heap.size) hb2 (by (repeat' (first | (with_reducible refine' Blk.alloc ?_ _) | (with_reducible refine' Blk.drew ?_) | (with_reducible refine' Blk.drewN ?_ _) | (with_reducible refine' Blk.set_ ?_ _ _) | (with_reducible refine' Blk.far ?_ ?_ _) | exact b1_0)) <;> (first | omega | (simp <;> omega)))
  have b2_0 := Blk.keep (g := w1.heap.size) hb2 (by (repeat' (first | (with_reducible exact Blk.new _ _ _) | (with_reducible refine' Blk.alloc ?_ _) | (with_reducible refine' Blk.drew ?_) | (with_reducible refine' Blk.drewN ?_ _) | (with_reducible refine' Blk.set_ ?_ _ _) | (with_reducible refine' Blk.far ?_ ?_ _))) <;> (first | omega | (simp <;> omega)))
  clear hb2 K1
  clear b1_0 c1_0 f1_0 l1_0 e1_0 k1_0; have b1_0 := b1_0'; clear b1_0'
  obtain ⟨c1_0, f1_0, l1_0, e1_0, k1_0⟩ := Blk.facts b1_0
  obtain ⟨c2_0, f2_0, l2_0, e2_0, k2_0⟩ := Blk.facts b2_0
  go_wp2
  go_ret
  exact ⟨rfl, by (repeat' (first | (with_reducible exact K2) | (with_reducible refine Below.setCell ?_ ?_ _) | (with_reducible refine Below.alloc ?_ ?_ _) | (with_reducible refine Below.drew ?_) | (with_reducible refine below_drewN ?_ _))) <;> (first | omega | (simp <;> omega))⟩
/-- What travel returns: a sample of small numbers. -/
def TravelR (w : World) (e : Ending) (w' : World) : Prop := ∃ o s a h b : Int, e = .returned (.tuple #[.agg #[.int .i64 s, .int .i64 (s + a + o), .int .i64 (s + a + h + o), .int .i64 (s + a + h + b), .int .i64 0], .int .i64 o]) ∧
  (-5000 ≤ o ∧ o ≤ 5000 ∧ -5000 ≤ s ∧ s ≤ 5000 ∧ 0 ≤ a ∧ a < 3000 ∧ 0 ≤ h ∧ h < 100 ∧ 0 ≤ b ∧ b < 3000) ∧ Below w.heap.size w w'
end Go.Proofs.Ytlfkkfdolnkjfaa
