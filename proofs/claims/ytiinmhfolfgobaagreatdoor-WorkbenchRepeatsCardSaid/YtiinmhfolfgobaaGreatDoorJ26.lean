/- Texts joined: ExCheck, ExAt -/
import Derived.Test.YtiinmhfolfgobaaGreatDoorJ8
import Derived.Test.YtiinmhfolfgobaaGreatDoorJ6
import Derived.Test.YtiinmhfolfgobaaGreatDoorJ10
namespace Go.Proofs.YtiinmhfolfgobaaGreatDoor
open Go.RowKit

/-- What Check returns. -/
def exE (t1 t2 t3 t4 err : Int) : Int := if vT t1 && vT t2 && vT t3 && vT t4 && decide (0 ≤ err) && decide (err ≤ 1152921504606846976) then (if t4 < t1 ∨ t3 < t2 then 12 else 0) else 4
theorem exE_4 {t1 t2 t3 t4 err : Int} (h : vT t1 = false ∨ vT t2 = false ∨ vT t3 = false ∨ vT t4 = false ∨ err < 0 ∨ 1152921504606846976 < err) : exE t1 t2 t3 t4 err = 4 := by
  unfold exE
  rw [if_neg]
  intro q
  simp only [Bool.and_eq_true, decide_eq_true_eq] at q
  obtain ⟨⟨⟨⟨⟨q1, q2⟩, q3⟩, q4⟩, q5⟩, q6⟩ := q
  rw [q1, q2, q3, q4] at h
  simp at h
  omega
theorem exE_in {t1 t2 t3 t4 err : Int} (h1 : vT t1 = true) (h2 : vT t2 = true) (h3 : vT t3 = true) (h4 : vT t4 = true) (h5 : 0 ≤ err) (h6 : err ≤ 1152921504606846976) : exE t1 t2 t3 t4 err = if t4 < t1 ∨ t3 < t2 then 12 else 0 := by
  unfold exE
  rw [if_pos (by simp [h1, h2, h3, h4, h5, h6])]
theorem exE_12 {t1 t2 t3 t4 err : Int} (h1 : vT t1 = true) (h2 : vT t2 = true) (h3 : vT t3 = true) (h4 : vT t4 = true) (h5 : 0 ≤ err) (h6 : err ≤ 1152921504606846976) (h : t4 < t1 ∨ t3 < t2) : exE t1 t2 t3 t4 err = 12 := by rw [exE_in h1 h2 h3 h4 h5 h6, if_pos h]
theorem exE_0 {t1 t2 t3 t4 err : Int} (h1 : vT t1 = true) (h2 : vT t2 = true) (h3 : vT t3 = true) (h4 : vT t4 = true) (h5 : 0 ≤ err) (h6 : err ≤ 1152921504606846976) (h : t1 ≤ t4) (h' : t2 ≤ t3) : exE t1 t2 t3 t4 err = 0 := by rw [exE_in h1 h2 h3 h4 h5 h6, if_neg (by omega)]
def ExRel (t1 t2 t3 t4 : Int) (i : Value) : Prop := ∃ k : Nat, k ≤ 4 ∧ i = .int .i64 k ∧ (1 ≤ k → vT t1 = true) ∧ (2 ≤ k → vT t2 = true) ∧ (3 ≤ k → vT t3 = true) ∧ (4 ≤ k → vT t4 = true)

set_option maxRecDepth 100000 in
set_option maxHeartbeats 2000000 in
theorem excheck_any (t1 t2 t3 t4 err : Int) (w : World) :
    Calls Tryz.prog 45 #[.agg #[.int .i64 t1, .int .i64 t2, .int .i64 t3, .int .i64 t4, .int .i64 err]] w (RB w (.int .i64 (exE t1 t2 t3 t4 err))) := by
  go_enter Tryz.func45, Tryz.ntmps45
  go_wp2
  go_loop [15] (fun i => ExRel t1 t2 t3 t4 i) (fun i => (4 - intOf i).toNat)
  case atStart => exact ⟨0, by omega, rfl, by omega, by omega, by omega, by omega⟩
  case round =>
    obtain ⟨k, hk, rfl, q1, q2, q3, q4⟩ := hrel
    obtain rfl | rfl | rfl | rfl | rfl : k = 0 ∨ k = 1 ∨ k = 2 ∨ k = 3 ∨ k = 4 := by omega
    · have Q1 := Lib.hid q1; have Q2 := Lib.hid q2; have Q3 := Lib.hid q3; have Q4 := Lib.hid q4; clear q1 q2 q3 q4
      rcases h : vT t1
      · go_wp2_with (go_at_call 47; refine (tvalid_any _ _).mono ?_; rintro e w1 ⟨rfl, rfl⟩)
        rw [exE_4 (by simp [h])]
        go_ret
        exact ⟨rfl, by (repeat' (first | (with_reducible exact Below.refl _ _) | (with_reducible refine Below.setCell ?_ ?_ _) | (with_reducible refine Below.alloc ?_ ?_ _) | (with_reducible refine Below.drew ?_) | (with_reducible refine below_drewN ?_ _))) <;> (first | omega | (simp <;> omega))⟩
      · go_wp2_with (go_at_call 47; refine (tvalid_any _ _).mono ?_; rintro e w1 ⟨rfl, rfl⟩)
        go_round
        case rel => exact ⟨1, by omega, rfl, fun _ => h, by omega, by omega, by omega⟩
        case measure => simp [intOf]
    · have Q1 := Lib.hid q1; have Q2 := Lib.hid q2; have Q3 := Lib.hid q3; have Q4 := Lib.hid q4; clear q1 q2 q3 q4
      rcases h : vT t2
      · go_wp2_with (go_at_call 47; refine (tvalid_any _ _).mono ?_; rintro e w1 ⟨rfl, rfl⟩)
        rw [exE_4 (by simp [h])]
        go_ret
        exact ⟨rfl, by (repeat' (first | (with_reducible exact Below.refl _ _) | (with_reducible refine Below.setCell ?_ ?_ _) | (with_reducible refine Below.alloc ?_ ?_ _) | (with_reducible refine Below.drew ?_) | (with_reducible refine below_drewN ?_ _))) <;> (first | omega | (simp <;> omega))⟩
      · go_wp2_with (go_at_call 47; refine (tvalid_any _ _).mono ?_; rintro e w1 ⟨rfl, rfl⟩)
        go_round
        case rel => exact ⟨2, by omega, rfl, fun _ => Q1.out (by omega), fun _ => h, by omega, by omega⟩
        case measure => simp [intOf]
    · have Q1 := Lib.hid q1; have Q2 := Lib.hid q2; have Q3 := Lib.hid q3; have Q4 := Lib.hid q4; clear q1 q2 q3 q4
      rcases h : vT t3
      · go_wp2_with (go_at_call 47; refine (tvalid_any _ _).mono ?_; rintro e w1 ⟨rfl, rfl⟩)
        rw [exE_4 (by simp [h])]
        go_ret
        exact ⟨rfl, by (repeat' (first | (with_reducible exact Below.refl _ _) | (with_reducible refine Below.setCell ?_ ?_ _) | (with_reducible refine Below.alloc ?_ ?_ _) | (with_reducible refine Below.drew ?_) | (with_reducible refine below_drewN ?_ _))) <;> (first | omega | (simp <;> omega))⟩
      · go_wp2_with (go_at_call 47; refine (tvalid_any _ _).mono ?_; rintro e w1 ⟨rfl, rfl⟩)
        go_round
        case rel => exact ⟨3, by omega, rfl, fun _ => Q1.out (by omega), fun _ => Q2.out (by omega), fun _ => h, by omega⟩
        case measure => simp [intOf]
    · have Q1 := Lib.hid q1; have Q2 := Lib.hid q2; have Q3 := Lib.hid q3; have Q4 := Lib.hid q4; clear q1 q2 q3 q4
      rcases h : vT t4
      · go_wp2_with (go_at_call 47; refine (tvalid_any _ _).mono ?_; rintro e w1 ⟨rfl, rfl⟩)
        rw [exE_4 (by simp [h])]
        go_ret
        exact ⟨rfl, by (repeat' (first | (with_reducible exact Below.refl _ _) | (with_reducible refine Below.setCell ?_ ?_ _) | (with_reducible refine Below.alloc ?_ ?_ _) | (with_reducible refine Below.drew ?_) | (with_reducible refine below_drewN ?_ _))) <;> (first | omega | (simp <;> omega))⟩
      · go_wp2_with (go_at_call 47; refine (tvalid_any _ _).mono ?_; rintro e w1 ⟨rfl, rfl⟩)
        go_round
        case rel => exact ⟨4, by omega, rfl, fun _ => Q1.out (by omega), fun _ => Q2.out (by omega), fun _ => Q3.out (by omega), fun _ => h⟩
        case measure => simp [intOf]
    · have p1 := q1 (by omega); have p2 := q2 (by omega); have p3 := q3 (by omega); have p4 := q4 (by omega)
      clear q1 q2 q3 q4
      have P1 := Lib.hid p1; have P2 := Lib.hid p2; have P3 := Lib.hid p3; have P4 := Lib.hid p4; clear p1 p2 p3 p4
      by_cases h5 : err < 0
      · have h5' : decide (err < 0) = true := by simpa using h5
        go_wp2
        go_ret
        exact ⟨by rw [exE_4 (by omega)]; rfl, by (repeat' (first | (with_reducible exact Below.refl _ _) | (with_reducible refine Below.setCell ?_ ?_ _) | (with_reducible refine Below.alloc ?_ ?_ _) | (with_reducible refine Below.drew ?_) | (with_reducible refine below_drewN ?_ _))) <;> (first | omega | (simp <;> omega))⟩
      have h5' : decide (err < 0) = false := by simpa using h5
      by_cases h6 : 1152921504606846976 < err
      · have h6' : decide (1152921504606846976 < err) = true := by simpa using h6
        go_wp2
        go_ret
        exact ⟨by rw [exE_4 (by omega)]; rfl, by (repeat' (first | (with_reducible exact Below.refl _ _) | (with_reducible refine Below.setCell ?_ ?_ _) | (with_reducible refine Below.alloc ?_ ?_ _) | (with_reducible refine Below.drew ?_) | (with_reducible refine below_drewN ?_ _))) <;> (first | omega | (simp <;> omega))⟩
      have h6' : decide (1152921504606846976 < err) = false := by simpa using h6
      by_cases h7 : t4 < t1
      · have h7' : decide (t4 < t1) = true := by simpa using h7
        go_wp2
        go_ret
        exact ⟨by rw [exE_12 P1.out P2.out P3.out P4.out (by omega) (by omega) (by omega)]; rfl, by (repeat' (first | (with_reducible exact Below.refl _ _) | (with_reducible refine Below.setCell ?_ ?_ _) | (with_reducible refine Below.alloc ?_ ?_ _) | (with_reducible refine Below.drew ?_) | (with_reducible refine below_drewN ?_ _))) <;> (first | omega | (simp <;> omega))⟩
      have h7' : decide (t4 < t1) = false := by simpa using h7
      by_cases h8 : t3 < t2
      · have h8' : decide (t3 < t2) = true := by simpa using h8
        go_wp2
        go_ret
        exact ⟨by rw [exE_12 P1.out P2.out P3.out P4.out (by omega) (by omega) (by omega)]; rfl, by (repeat' (first | (with_reducible exact Below.refl _ _) | (with_reducible refine Below.setCell ?_ ?_ _) | (with_reducible refine Below.alloc ?_ ?_ _) | (with_reducible refine Below.drew ?_) | (with_reducible refine below_drewN ?_ _))) <;> (first | omega | (simp <;> omega))⟩
      have h8' : decide (t3 < t2) = false := by simpa using h8
      go_wp2
      go_ret
      exact ⟨by rw [exE_0 P1.out P2.out P3.out P4.out (by omega) (by omega) (by omega) (by omega)]; rfl, by (repeat' (first | (with_reducible exact Below.refl _ _) | (with_reducible refine Below.setCell ?_ ?_ _) | (with_reducible refine Below.alloc ?_ ?_ _) | (with_reducible refine Below.drew ?_) | (with_reducible refine below_drewN ?_ _))) <;> (first | omega | (simp <;> omega))⟩
end Go.Proofs.YtiinmhfolfgobaaGreatDoor
namespace Go.Proofs.YtiinmhfolfgobaaGreatDoor
open Go.RowKit

/-- What At returns. -/
def atV (t1 t2 t3 t4 err p : Int) : Value := if exE t1 t2 t3 t4 err = 0 then (if inD (t4 - t1) p && vT (t3 - err) && vT (t2 + err + elHi (t4 - t1) p) then (if (t2 + err + elHi (t4 - t1) p) < (t3 - err) then .tuple #[.agg #[.int .i64 0, .int .i64 0], .int .i64 20] else .tuple #[.agg #[.int .i64 (t3 - err), .int .i64 (t2 + err + elHi (t4 - t1) p)], .int .i64 0]) else .tuple #[.agg #[.int .i64 0, .int .i64 0], .int .i64 4]) else .tuple #[.agg #[.int .i64 0, .int .i64 0], .int .i64 (exE t1 t2 t3 t4 err)]
theorem exE_all {t1 t2 t3 t4 err : Int} (h : exE t1 t2 t3 t4 err = 0) : vT t1 = true ∧ vT t2 = true ∧ vT t3 = true ∧ vT t4 = true ∧ 0 ≤ err ∧ err ≤ 1152921504606846976 ∧ t1 ≤ t4 ∧ t2 ≤ t3 := by
  unfold exE at h
  split at h
  · rename_i q
    simp only [Bool.and_eq_true, decide_eq_true_eq] at q
    obtain ⟨⟨⟨⟨⟨q1, q2⟩, q3⟩, q4⟩, q5⟩, q6⟩ := q
    split at h
    · omega
    · exact ⟨q1, q2, q3, q4, q5, q6, by omega, by omega⟩
  · omega
theorem quo_up_le (d p : Int) (h0 : 0 ≤ d) (h1 : d ≤ 576460752303423488) (p0 : 0 ≤ p) (p1 : p ≤ 1000000) : 0 ≤ elHi d p ∧ elHi d p ≤ 1152921504606846977 := by
  have := scaled_le d 1000000000 (1000000000 - p) h0 h1 (by omega) (by omega) (by omega)
  unfold elHi; rw [quo_up _ _ _ (by omega)]; split <;> omega
theorem atV_e {t1 t2 t3 t4 err p : Int} (h : exE t1 t2 t3 t4 err ≠ 0) : atV t1 t2 t3 t4 err p = .tuple #[.agg #[.int .i64 0, .int .i64 0], .int .i64 (exE t1 t2 t3 t4 err)] := by unfold atV; rw [if_neg h]
theorem atV_4 {t1 t2 t3 t4 err p : Int} (h : exE t1 t2 t3 t4 err = 0) (h' : inD (t4 - t1) p = false ∨ vT (t3 - err) = false ∨ vT (t2 + err + elHi (t4 - t1) p) = false) : atV t1 t2 t3 t4 err p = .tuple #[.agg #[.int .i64 0, .int .i64 0], .int .i64 4] := by
  unfold atV; rw [if_pos h, if_neg]
  rcases h' with q | q | q <;> simp [q]
theorem atV_20 {t1 t2 t3 t4 err p : Int} (h : exE t1 t2 t3 t4 err = 0) (h1 : inD (t4 - t1) p = true) (h2 : vT (t3 - err) = true) (h3 : vT (t2 + err + elHi (t4 - t1) p) = true) (h4 : (t2 + err + elHi (t4 - t1) p) < (t3 - err)) : atV t1 t2 t3 t4 err p = .tuple #[.agg #[.int .i64 0, .int .i64 0], .int .i64 20] := by
  unfold atV; rw [if_pos h, if_pos (by simp [h1, h2, h3]), if_pos h4]
theorem atV_0 {t1 t2 t3 t4 err p : Int} (h : exE t1 t2 t3 t4 err = 0) (h1 : inD (t4 - t1) p = true) (h2 : vT (t3 - err) = true) (h3 : vT (t2 + err + elHi (t4 - t1) p) = true) (h4 : ¬ (t2 + err + elHi (t4 - t1) p) < (t3 - err)) : atV t1 t2 t3 t4 err p = .tuple #[.agg #[.int .i64 (t3 - err), .int .i64 (t2 + err + elHi (t4 - t1) p)], .int .i64 0] := by
  unfold atV; rw [if_pos h, if_pos (by simp [h1, h2, h3]), if_neg h4]
set_option maxRecDepth 100000 in
set_option maxHeartbeats 2000000 in
theorem at_e (t1 t2 t3 t4 err p : Int) (h : exE t1 t2 t3 t4 err ≠ 0) (w : World) :
    Calls Tryz.prog 20 #[.agg #[.int .i64 t1, .int .i64 t2, .int .i64 t3, .int .i64 t4, .int .i64 err], .int .i64 p] w (RB w (atV t1 t2 t3 t4 err p)) := by
  rw [atV_e h]
  have r := excheck_any t1 t2 t3 t4 err
  generalize exE t1 t2 t3 t4 err = x at *
  have hx : (x != 0) = true := by simpa using h
  have R := Lib.hid r; clear r h
  go_enter Tryz.func20, Tryz.ntmps20
  go_wp2_with fail
  refine (R.out _).mono ?_
  rintro e w1 ⟨rfl, hb1⟩
  have K1 : Below w.heap.size w w1 := kept_call hb1 (by (repeat' (first | (with_reducible exact Below.refl _ _) | (with_reducible refine Below.setCell ?_ ?_ _) | (with_reducible refine Below.alloc ?_ ?_ _) | (with_reducible refine Below.drew ?_) | (with_reducible refine below_drewN ?_ _))) <;> (first | omega | (simp <;> omega)))
  have Z1 : w.heap.size ≤ w1.heap.size := K1.size
  have b1_0 := Blk.keep (g := w.heap.size) hb1 (by (repeat' (first | (with_reducible exact Blk.new _ _ _) | (with_reducible refine' Blk.alloc ?_ _) | (with_reducible refine' Blk.drew ?_) | (with_reducible refine' Blk.drewN ?_ _) | (with_reducible refine' Blk.set_ ?_ _ _) | (with_reducible refine' Blk.far ?_ ?_ _))) <;> (first | omega | (simp <;> omega)))
  have b1_1 := Blk.keep (g := w.heap.size + 1) hb1 (by (repeat' (first | (with_reducible exact Blk.new1 _ _ _ _) | (with_reducible refine' Blk.alloc ?_ _) | (with_reducible refine' Blk.drew ?_) | (with_reducible refine' Blk.drewN ?_ _) | (with_reducible refine' Blk.set_ ?_ _ _) | (with_reducible refine' Blk.far ?_ ?_ _))) <;> (first | omega | (simp <;> omega)))
  clear hb1
  obtain ⟨c1_0, f1_0, l1_0, e1_0, k1_0⟩ := Blk.facts b1_0
  obtain ⟨c1_1, f1_1, l1_1, e1_1, k1_1⟩ := Blk.facts b1_1
  go_wp2
  exact bodyPost_ret (v := .tuple #[.agg #[.int .i64 0, .int .i64 0], .int .i64 x]) (by simp [results, Tryz.results20, go_sem, *]) rfl ⟨rfl, by (repeat' (first | (with_reducible exact K1) | (with_reducible refine Below.setCell ?_ ?_ _) | (with_reducible refine Below.alloc ?_ ?_ _) | (with_reducible refine Below.drew ?_) | (with_reducible refine below_drewN ?_ _))) <;> (first | omega | (simp <;> omega))⟩
set_option maxRecDepth 100000 in
set_option maxHeartbeats 2000000 in
theorem at_in (t1 t2 t3 t4 err p : Int) (h : exE t1 t2 t3 t4 err = 0) (h1 : inD (t4 - t1) p = false) (w : World) :
    Calls Tryz.prog 20 #[.agg #[.int .i64 t1, .int .i64 t2, .int .i64 t3, .int .i64 t4, .int .i64 err], .int .i64 p] w (RB w (atV t1 t2 t3 t4 err p)) := by
  rw [atV_4 h (.inl h1)]
  obtain ⟨v1, v2, v3, v4, e0, e1, o1, o2⟩ := exE_all h
  have r := excheck_any t1 t2 t3 t4 err
  rw [h] at r
  have R := Lib.hid r; clear r
  have w1 := vT_true.1 v1; have w2 := vT_true.1 v2; have w3 := vT_true.1 v3; have w4 := vT_true.1 v4
  clear v1 v2 v3 v4
  have q := elapsed_any (t4 - t1) p
  rw [outV_no h1] at q
  have Q := Lib.hid q; clear q h h1
  go_enter Tryz.func20, Tryz.ntmps20
  go_wp2_with fail
  refine (R.out _).mono ?_
  rintro e w1 ⟨rfl, hb1⟩
  have K1 : Below w.heap.size w w1 := kept_call hb1 (by (repeat' (first | (with_reducible exact Below.refl _ _) | (with_reducible refine Below.setCell ?_ ?_ _) | (with_reducible refine Below.alloc ?_ ?_ _) | (with_reducible refine Below.drew ?_) | (with_reducible refine below_drewN ?_ _))) <;> (first | omega | (simp <;> omega)))
  have Z1 : w.heap.size ≤ w1.heap.size := K1.size
  have b1_0 := Blk.keep (g := w.heap.size) hb1 (by (repeat' (first | (with_reducible exact Blk.new _ _ _) | (with_reducible refine' Blk.alloc ?_ _) | (with_reducible refine' Blk.drew ?_) | (with_reducible refine' Blk.drewN ?_ _) | (with_reducible refine' Blk.set_ ?_ _ _) | (with_reducible refine' Blk.far ?_ ?_ _))) <;> (first | omega | (simp <;> omega)))
  have b1_1 := Blk.keep (g := w.heap.size + 1) hb1 (by (repeat' (first | (with_reducible exact Blk.new1 _ _ _ _) | (with_reducible refine' Blk.alloc ?_ _) | (with_reducible refine' Blk.drew ?_) | (with_reducible refine' Blk.drewN ?_ _) | (with_reducible refine' Blk.set_ ?_ _ _) | (with_reducible refine' Blk.far ?_ ?_ _))) <;> (first | omega | (simp <;> omega)))
  clear hb1
  obtain ⟨c1_0, f1_0, l1_0, e1_0, k1_0⟩ := Blk.facts b1_0
  obtain ⟨c1_1, f1_1, l1_1, e1_1, k1_1⟩ := Blk.facts b1_1
  go_wp2_with fail
  refine (Q.out _).mono ?_
  rintro e w2 ⟨rfl, hb2⟩
  have K2 : Below w.heap.size w w2 := kept_call hb2 (by (repeat' (first | (with_reducible exact K1) | (with_reducible refine Below.setCell ?_ ?_ _) | (with_reducible refine Below.alloc ?_ ?_ _) | (with_reducible refine Below.drew ?_) | (with_reducible refine below_drewN ?_ _))) <;> (first | omega | (simp <;> omega)))
  have Z2 : w.heap.size ≤ w2.heap.size := K2.size
  have b1_0' := Blk.keep (g := w.heap.size) hb2 (by (repeat' (first | (with_reducible refine' Blk.alloc ?_ _) | (with_reducible refine' Blk.drew ?_) | (with_reducible refine' Blk.drewN ?_ _) | (with_reducible refine' Blk.set_ ?_ _ _) | (with_reducible refine' Blk.far ?_ ?_ _) | exact b1_0)) <;> (first | omega | (simp <;> omega)))
  have b1_1' := Blk.keep (g := w.heap.size + 1) hb2 (by (repeat' (first | (with_reducible refine' Blk.alloc ?_ _) | (with_reducible refine' Blk.drew ?_) | (with_reducible refine' Blk.drewN ?_ _) | (with_reducible refine' Blk.set_ ?_ _ _) | (with_reducible refine' Blk.far ?_ ?_ _) | exact b1_1)) <;> (first | omega | (simp <;> omega)))
  clear hb2 K1
  clear b1_0 c1_0 f1_0 l1_0 e1_0 k1_0; have b1_0 := b1_0'; clear b1_0'
  clear b1_1 c1_1 f1_1 l1_1 e1_1 k1_1; have b1_1 := b1_1'; clear b1_1'
  obtain ⟨c1_0, f1_0, l1_0, e1_0, k1_0⟩ := Blk.facts b1_0
  obtain ⟨c1_1, f1_1, l1_1, e1_1, k1_1⟩ := Blk.facts b1_1
  go_wp2
  exact bodyPost_ret (v := .tuple #[.agg #[.int .i64 0, .int .i64 0], .int .i64 4]) (by simp [results, Tryz.results20, go_sem, *]) rfl ⟨rfl, by (repeat' (first | (with_reducible exact K2) | (with_reducible refine Below.setCell ?_ ?_ _) | (with_reducible refine Below.alloc ?_ ?_ _) | (with_reducible refine Below.drew ?_) | (with_reducible refine below_drewN ?_ _))) <;> (first | omega | (simp <;> omega))⟩
set_option maxRecDepth 100000 in
set_option maxHeartbeats 2000000 in
theorem at_lo (t1 t2 t3 t4 err p : Int) (h : exE t1 t2 t3 t4 err = 0) (h1 : inD (t4 - t1) p = true) (h2 : vT (t3 - err) = false) (w : World) :
    Calls Tryz.prog 20 #[.agg #[.int .i64 t1, .int .i64 t2, .int .i64 t3, .int .i64 t4, .int .i64 err], .int .i64 p] w (RB w (atV t1 t2 t3 t4 err p)) := by
  rw [atV_4 h (.inr (.inl h2))]
  obtain ⟨v1, v2, v3, v4, e0, e1, o1, o2⟩ := exE_all h
  have r := excheck_any t1 t2 t3 t4 err
  rw [h] at r
  have R := Lib.hid r; clear r
  have w1 := vT_true.1 v1; have w2 := vT_true.1 v2; have w3 := vT_true.1 v3; have w4 := vT_true.1 v4
  clear v1 v2 v3 v4
  obtain ⟨d0, d1, p0, p1⟩ := inD_true.1 h1
  have hb := quo_up_le (t4 - t1) p d0 d1 p0 p1
  have q := elapsed_any (t4 - t1) p
  rw [outV_ok h1] at q
  generalize elHi (t4 - t1) p = hi at *
  generalize elLo (t4 - t1) p = lo at *
  have Q := Lib.hid q; clear q h h1
  have H2 := Lib.hid h2; clear h2
  go_enter Tryz.func20, Tryz.ntmps20
  go_wp2_with fail
  refine (R.out _).mono ?_
  rintro e w1 ⟨rfl, hb1⟩
  have K1 : Below w.heap.size w w1 := kept_call hb1 (by (repeat' (first | (with_reducible exact Below.refl _ _) | (with_reducible refine Below.setCell ?_ ?_ _) | (with_reducible refine Below.alloc ?_ ?_ _) | (with_reducible refine Below.drew ?_) | (with_reducible refine below_drewN ?_ _))) <;> (first | omega | (simp <;> omega)))
  have Z1 : w.heap.size ≤ w1.heap.size := K1.size
  have b1_0 := Blk.keep (g := w.heap.size) hb1 (by (repeat' (first | (with_reducible exact Blk.new _ _ _) | (with_reducible refine' Blk.alloc ?_ _) | (with_reducible refine' Blk.drew ?_) | (with_reducible refine' Blk.drewN ?_ _) | (with_reducible refine' Blk.set_ ?_ _ _) | (with_reducible refine' Blk.far ?_ ?_ _))) <;> (first | omega | (simp <;> omega)))
  have b1_1 := Blk.keep (g := w.heap.size + 1) hb1 (by (repeat' (first | (with_reducible exact Blk.new1 _ _ _ _) | (with_reducible refine' Blk.alloc ?_ _) | (with_reducible refine' Blk.drew ?_) | (with_reducible refine' Blk.drewN ?_ _) | (with_reducible refine' Blk.set_ ?_ _ _) | (with_reducible refine' Blk.far ?_ ?_ _))) <;> (first | omega | (simp <;> omega)))
  clear hb1
  obtain ⟨c1_0, f1_0, l1_0, e1_0, k1_0⟩ := Blk.facts b1_0
  obtain ⟨c1_1, f1_1, l1_1, e1_1, k1_1⟩ := Blk.facts b1_1
  go_wp2_with fail
  refine (Q.out _).mono ?_
  rintro e w2 ⟨rfl, hb2⟩
  have K2 : Below w.heap.size w w2 := kept_call hb2 (by (repeat' (first | (with_reducible exact K1) | (with_reducible refine Below.setCell ?_ ?_ _) | (with_reducible refine Below.alloc ?_ ?_ _) | (with_reducible refine Below.drew ?_) | (with_reducible refine below_drewN ?_ _))) <;> (first | omega | (simp <;> omega)))
  have Z2 : w.heap.size ≤ w2.heap.size := K2.size
  have b1_0' := Blk.keep (g := w.heap.size) hb2 (by (repeat' (first | (with_reducible refine' Blk.alloc ?_ _) | (with_reducible refine' Blk.drew ?_) | (with_reducible refine' Blk.drewN ?_ _) | (with_reducible refine' Blk.set_ ?_ _ _) | (with_reducible refine' Blk.far ?_ ?_ _) | exact b1_0)) <;> (first | omega | (simp <;> omega)))
  have b1_1' := Blk.keep (g := w.heap.size + 1) hb2 (by (repeat' (first | (with_reducible refine' Blk.alloc ?_ _) | (with_reducible refine' Blk.drew ?_) | (with_reducible refine' Blk.drewN ?_ _) | (with_reducible refine' Blk.set_ ?_ _ _) | (with_reducible refine' Blk.far ?_ ?_ _) | exact b1_1)) <;> (first | omega | (simp <;> omega)))
  clear hb2 K1
  clear b1_0 c1_0 f1_0 l1_0 e1_0 k1_0; have b1_0 := b1_0'; clear b1_0'
  clear b1_1 c1_1 f1_1 l1_1 e1_1 k1_1; have b1_1 := b1_1'; clear b1_1'
  obtain ⟨c1_0, f1_0, l1_0, e1_0, k1_0⟩ := Blk.facts b1_0
  obtain ⟨c1_1, f1_1, l1_1, e1_1, k1_1⟩ := Blk.facts b1_1
  go_wp2_with fail
  refine (tvalid_any _ _).mono ?_
  rintro e wq1 ⟨rfl, rfl⟩
  rw [H2.out]
  go_wp2
  exact bodyPost_ret (v := .tuple #[.agg #[.int .i64 0, .int .i64 0], .int .i64 4]) (by simp [results, Tryz.results20, go_sem, *]) rfl ⟨rfl, by (repeat' (first | (with_reducible exact K2) | (with_reducible refine Below.setCell ?_ ?_ _) | (with_reducible refine Below.alloc ?_ ?_ _) | (with_reducible refine Below.drew ?_) | (with_reducible refine below_drewN ?_ _))) <;> (first | omega | (simp <;> omega))⟩
set_option maxRecDepth 100000 in
set_option maxHeartbeats 2000000 in
theorem at_hi (t1 t2 t3 t4 err p : Int) (h : exE t1 t2 t3 t4 err = 0) (h1 : inD (t4 - t1) p = true) (h2 : vT (t3 - err) = true) (h3 : vT (t2 + err + elHi (t4 - t1) p) = false) (w : World) :
    Calls Tryz.prog 20 #[.agg #[.int .i64 t1, .int .i64 t2, .int .i64 t3, .int .i64 t4, .int .i64 err], .int .i64 p] w (RB w (atV t1 t2 t3 t4 err p)) := by
  rw [atV_4 h (.inr (.inr h3))]
  obtain ⟨v1, v2, v3, v4, e0, e1, o1, o2⟩ := exE_all h
  have r := excheck_any t1 t2 t3 t4 err
  rw [h] at r
  have R := Lib.hid r; clear r
  have w1 := vT_true.1 v1; have w2 := vT_true.1 v2; have w3 := vT_true.1 v3; have w4 := vT_true.1 v4
  clear v1 v2 v3 v4
  obtain ⟨d0, d1, p0, p1⟩ := inD_true.1 h1
  have hb := quo_up_le (t4 - t1) p d0 d1 p0 p1
  have q := elapsed_any (t4 - t1) p
  rw [outV_ok h1] at q
  generalize elHi (t4 - t1) p = hi at *
  generalize elLo (t4 - t1) p = lo at *
  have Q := Lib.hid q; clear q h h1
  have H2 := Lib.hid h2; clear h2
  have H3 := Lib.hid h3; clear h3
  go_enter Tryz.func20, Tryz.ntmps20
  go_wp2_with fail
  refine (R.out _).mono ?_
  rintro e w1 ⟨rfl, hb1⟩
  have K1 : Below w.heap.size w w1 := kept_call hb1 (by (repeat' (first | (with_reducible exact Below.refl _ _) | (with_reducible refine Below.setCell ?_ ?_ _) | (with_reducible refine Below.alloc ?_ ?_ _) | (with_reducible refine Below.drew ?_) | (with_reducible refine below_drewN ?_ _))) <;> (first | omega | (simp <;> omega)))
  have Z1 : w.heap.size ≤ w1.heap.size := K1.size
  have b1_0 := Blk.keep (g := w.heap.size) hb1 (by (repeat' (first | (with_reducible exact Blk.new _ _ _) | (with_reducible refine' Blk.alloc ?_ _) | (with_reducible refine' Blk.drew ?_) | (with_reducible refine' Blk.drewN ?_ _) | (with_reducible refine' Blk.set_ ?_ _ _) | (with_reducible refine' Blk.far ?_ ?_ _))) <;> (first | omega | (simp <;> omega)))
  have b1_1 := Blk.keep (g := w.heap.size + 1) hb1 (by (repeat' (first | (with_reducible exact Blk.new1 _ _ _ _) | (with_reducible refine' Blk.alloc ?_ _) | (with_reducible refine' Blk.drew ?_) | (with_reducible refine' Blk.drewN ?_ _) | (with_reducible refine' Blk.set_ ?_ _ _) | (with_reducible refine' Blk.far ?_ ?_ _))) <;> (first | omega | (simp <;> omega)))
  clear hb1
  obtain ⟨c1_0, f1_0, l1_0, e1_0, k1_0⟩ := Blk.facts b1_0
  obtain ⟨c1_1, f1_1, l1_1, e1_1, k1_1⟩ := Blk.facts b1_1
  go_wp2_with fail
  refine (Q.out _).mono ?_
  rintro e w2 ⟨rfl, hb2⟩
  have K2 : Below w.heap.size w w2 := kept_call hb2 (by (repeat' (first | (with_reducible exact K1) | (with_reducible refine Below.setCell ?_ ?_ _) | (with_reducible refine Below.alloc ?_ ?_ _) | (with_reducible refine Below.drew ?_) | (with_reducible refine below_drewN ?_ _))) <;> (first | omega | (simp <;> omega)))
  have Z2 : w.heap.size ≤ w2.heap.size := K2.size
  have b1_0' := Blk.keep (g := w.heap.size) hb2 (by (repeat' (first | (with_reducible refine' Blk.alloc ?_ _) | (with_reducible refine' Blk.drew ?_) | (with_reducible refine' Blk.drewN ?_ _) | (with_reducible refine' Blk.set_ ?_ _ _) | (with_reducible refine' Blk.far ?_ ?_ _) | exact b1_0)) <;> (first | omega | (simp <;> omega)))
  have b1_1' := Blk.keep (g := w.heap.size + 1) hb2 (by (repeat' (first | (with_reducible refine' Blk.alloc ?_ _) | (with_reducible refine' Blk.drew ?_) | (with_reducible refine' Blk.drewN ?_ _) | (with_reducible refine' Blk.set_ ?_ _ _) | (with_reducible refine' Blk.far ?_ ?_ _) | exact b1_1)) <;> (first | omega | (simp <;> omega)))
  clear hb2 K1
  clear b1_0 c1_0 f1_0 l1_0 e1_0 k1_0; have b1_0 := b1_0'; clear b1_0'
  clear b1_1 c1_1 f1_1 l1_1 e1_1 k1_1; have b1_1 := b1_1'; clear b1_1'
  obtain ⟨c1_0, f1_0, l1_0, e1_0, k1_0⟩ := Blk.facts b1_0
  obtain ⟨c1_1, f1_1, l1_1, e1_1, k1_1⟩ := Blk.facts b1_1
  go_wp2_with fail
  refine (tvalid_any _ _).mono ?_
  rintro e wq1 ⟨rfl, rfl⟩
  rw [H2.out]
  go_wp2_with fail
  refine (tvalid_any _ _).mono ?_
  rintro e wq2 ⟨rfl, rfl⟩
  rw [H3.out]
  go_wp2
  exact bodyPost_ret (v := .tuple #[.agg #[.int .i64 0, .int .i64 0], .int .i64 4]) (by simp [results, Tryz.results20, go_sem, *]) rfl ⟨rfl, by (repeat' (first | (with_reducible exact K2) | (with_reducible refine Below.setCell ?_ ?_ _) | (with_reducible refine Below.alloc ?_ ?_ _) | (with_reducible refine Below.drew ?_) | (with_reducible refine below_drewN ?_ _))) <;> (first | omega | (simp <;> omega))⟩
set_option maxRecDepth 100000 in
set_option maxHeartbeats 2000000 in
theorem at_20 (t1 t2 t3 t4 err p : Int) (h : exE t1 t2 t3 t4 err = 0) (h1 : inD (t4 - t1) p = true) (h2 : vT (t3 - err) = true) (h3 : vT (t2 + err + elHi (t4 - t1) p) = true) (h4 : (t2 + err + elHi (t4 - t1) p) < (t3 - err)) (w : World) :
    Calls Tryz.prog 20 #[.agg #[.int .i64 t1, .int .i64 t2, .int .i64 t3, .int .i64 t4, .int .i64 err], .int .i64 p] w (RB w (atV t1 t2 t3 t4 err p)) := by
  rw [atV_20 h h1 h2 h3 h4]
  obtain ⟨v1, v2, v3, v4, e0, e1, o1, o2⟩ := exE_all h
  have r := excheck_any t1 t2 t3 t4 err
  rw [h] at r
  have R := Lib.hid r; clear r
  have w1 := vT_true.1 v1; have w2 := vT_true.1 v2; have w3 := vT_true.1 v3; have w4 := vT_true.1 v4
  clear v1 v2 v3 v4
  obtain ⟨d0, d1, p0, p1⟩ := inD_true.1 h1
  have hb := quo_up_le (t4 - t1) p d0 d1 p0 p1
  have q := elapsed_any (t4 - t1) p
  rw [outV_ok h1] at q
  generalize elHi (t4 - t1) p = hi at *
  generalize elLo (t4 - t1) p = lo at *
  have Q := Lib.hid q; clear q h h1
  have H2 := Lib.hid h2; clear h2
  have H3 := Lib.hid h3; clear h3
  go_enter Tryz.func20, Tryz.ntmps20
  go_wp2_with fail
  refine (R.out _).mono ?_
  rintro e w1 ⟨rfl, hb1⟩
  have K1 : Below w.heap.size w w1 := kept_call hb1 (by (repeat' (first | (with_reducible exact Below.refl _ _) | (with_reducible refine Below.setCell ?_ ?_ _) | (with_reducible refine Below.alloc ?_ ?_ _) | (with_reducible refine Below.drew ?_) | (with_reducible refine below_drewN ?_ _))) <;> (first | omega | (simp <;> omega)))
  have Z1 : w.heap.size ≤ w1.heap.size := K1.size
  have b1_0 := Blk.keep (g := w.heap.size) hb1 (by (repeat' (first | (with_reducible exact Blk.new _ _ _) | (with_reducible refine' Blk.alloc ?_ _) | (with_reducible refine' Blk.drew ?_) | (with_reducible refine' Blk.drewN ?_ _) | (with_reducible refine' Blk.set_ ?_ _ _) | (with_reducible refine' Blk.far ?_ ?_ _))) <;> (first | omega | (simp <;> omega)))
  have b1_1 := Blk.keep (g := w.heap.size + 1) hb1 (by (repeat' (first | (with_reducible exact Blk.new1 _ _ _ _) | (with_reducible refine' Blk.alloc ?_ _) | (with_reducible refine' Blk.drew ?_) | (with_reducible refine' Blk.drewN ?_ _) | (with_reducible refine' Blk.set_ ?_ _ _) | (with_reducible refine' Blk.far ?_ ?_ _))) <;> (first | omega | (simp <;> omega)))
  clear hb1
  obtain ⟨c1_0, f1_0, l1_0, e1_0, k1_0⟩ := Blk.facts b1_0
  obtain ⟨c1_1, f1_1, l1_1, e1_1, k1_1⟩ := Blk.facts b1_1
  go_wp2_with fail
  refine (Q.out _).mono ?_
  rintro e w2 ⟨rfl, hb2⟩
  have K2 : Below w.heap.size w w2 := kept_call hb2 (by (repeat' (first | (with_reducible exact K1) | (with_reducible refine Below.setCell ?_ ?_ _) | (with_reducible refine Below.alloc ?_ ?_ _) | (with_reducible refine Below.drew ?_) | (with_reducible refine below_drewN ?_ _))) <;> (first | omega | (simp <;> omega)))
  have Z2 : w.heap.size ≤ w2.heap.size := K2.size
  have b1_0' := Blk.keep (g := w.heap.size) hb2 (by (repeat' (first | (with_reducible refine' Blk.alloc ?_ _) | (with_reducible refine' Blk.drew ?_) | (with_reducible refine' Blk.drewN ?_ _) | (with_reducible refine' Blk.set_ ?_ _ _) | (with_reducible refine' Blk.far ?_ ?_ _) | exact b1_0)) <;> (first | omega | (simp <;> omega)))
  have b1_1' := Blk.keep (g := w.heap.size + 1) hb2 (by (repeat' (first | (with_reducible refine' Blk.alloc ?_ _) | (with_reducible refine' Blk.drew ?_) | (with_reducible refine' Blk.drewN ?_ _) | (with_reducible refine' Blk.set_ ?_ _ _) | (with_reducible refine' Blk.far ?_ ?_ _) | exact b1_1)) <;> (first | omega | (simp <;> omega)))
  clear hb2 K1
  clear b1_0 c1_0 f1_0 l1_0 e1_0 k1_0; have b1_0 := b1_0'; clear b1_0'
  clear b1_1 c1_1 f1_1 l1_1 e1_1 k1_1; have b1_1 := b1_1'; clear b1_1'
  obtain ⟨c1_0, f1_0, l1_0, e1_0, k1_0⟩ := Blk.facts b1_0
  obtain ⟨c1_1, f1_1, l1_1, e1_1, k1_1⟩ := Blk.facts b1_1
  go_wp2_with fail
  refine (tvalid_any _ _).mono ?_
  rintro e wq1 ⟨rfl, rfl⟩
  rw [H2.out]
  go_wp2_with fail
  refine (tvalid_any _ _).mono ?_
  rintro e wq2 ⟨rfl, rfl⟩
  rw [H3.out]
  go_wp2
  exact bodyPost_ret (v := .tuple #[.agg #[.int .i64 0, .int .i64 0], .int .i64 20]) (by simp [results, Tryz.results20, go_sem, *]) rfl ⟨rfl, by (repeat' (first | (with_reducible exact K2) | (with_reducible refine Below.setCell ?_ ?_ _) | (with_reducible refine Below.alloc ?_ ?_ _) | (with_reducible refine Below.drew ?_) | (with_reducible refine below_drewN ?_ _))) <;> (first | omega | (simp <;> omega))⟩
set_option maxRecDepth 100000 in
set_option maxHeartbeats 2000000 in
theorem at_0 (t1 t2 t3 t4 err p : Int) (h : exE t1 t2 t3 t4 err = 0) (h1 : inD (t4 - t1) p = true) (h2 : vT (t3 - err) = true) (h3 : vT (t2 + err + elHi (t4 - t1) p) = true) (h4 : ¬ (t2 + err + elHi (t4 - t1) p) < (t3 - err)) (w : World) :
    Calls Tryz.prog 20 #[.agg #[.int .i64 t1, .int .i64 t2, .int .i64 t3, .int .i64 t4, .int .i64 err], .int .i64 p] w (RB w (atV t1 t2 t3 t4 err p)) := by
  rw [atV_0 h h1 h2 h3 h4]
  obtain ⟨v1, v2, v3, v4, e0, e1, o1, o2⟩ := exE_all h
  have r := excheck_any t1 t2 t3 t4 err
  rw [h] at r
  have R := Lib.hid r; clear r
  have w1 := vT_true.1 v1; have w2 := vT_true.1 v2; have w3 := vT_true.1 v3; have w4 := vT_true.1 v4
  clear v1 v2 v3 v4
  obtain ⟨d0, d1, p0, p1⟩ := inD_true.1 h1
  have hb := quo_up_le (t4 - t1) p d0 d1 p0 p1
  have q := elapsed_any (t4 - t1) p
  rw [outV_ok h1] at q
  generalize elHi (t4 - t1) p = hi at *
  generalize elLo (t4 - t1) p = lo at *
  have Q := Lib.hid q; clear q h h1
  have H2 := Lib.hid h2; clear h2
  have H3 := Lib.hid h3; clear h3
  go_enter Tryz.func20, Tryz.ntmps20
  go_wp2_with fail
  refine (R.out _).mono ?_
  rintro e w1 ⟨rfl, hb1⟩
  have K1 : Below w.heap.size w w1 := kept_call hb1 (by (repeat' (first | (with_reducible exact Below.refl _ _) | (with_reducible refine Below.setCell ?_ ?_ _) | (with_reducible refine Below.alloc ?_ ?_ _) | (with_reducible refine Below.drew ?_) | (with_reducible refine below_drewN ?_ _))) <;> (first | omega | (simp <;> omega)))
  have Z1 : w.heap.size ≤ w1.heap.size := K1.size
  have b1_0 := Blk.keep (g := w.heap.size) hb1 (by (repeat' (first | (with_reducible exact Blk.new _ _ _) | (with_reducible refine' Blk.alloc ?_ _) | (with_reducible refine' Blk.drew ?_) | (with_reducible refine' Blk.drewN ?_ _) | (with_reducible refine' Blk.set_ ?_ _ _) | (with_reducible refine' Blk.far ?_ ?_ _))) <;> (first | omega | (simp <;> omega)))
  have b1_1 := Blk.keep (g := w.heap.size + 1) hb1 (by (repeat' (first | (with_reducible exact Blk.new1 _ _ _ _) | (with_reducible refine' Blk.alloc ?_ _) | (with_reducible refine' Blk.drew ?_) | (with_reducible refine' Blk.drewN ?_ _) | (with_reducible refine' Blk.set_ ?_ _ _) | (with_reducible refine' Blk.far ?_ ?_ _))) <;> (first | omega | (simp <;> omega)))
  clear hb1
  obtain ⟨c1_0, f1_0, l1_0, e1_0, k1_0⟩ := Blk.facts b1_0
  obtain ⟨c1_1, f1_1, l1_1, e1_1, k1_1⟩ := Blk.facts b1_1
  go_wp2_with fail
  refine (Q.out _).mono ?_
  rintro e w2 ⟨rfl, hb2⟩
  have K2 : Below w.heap.size w w2 := kept_call hb2 (by (repeat' (first | (with_reducible exact K1) | (with_reducible refine Below.setCell ?_ ?_ _) | (with_reducible refine Below.alloc ?_ ?_ _) | (with_reducible refine Below.drew ?_) | (with_reducible refine below_drewN ?_ _))) <;> (first | omega | (simp <;> omega)))
  have Z2 : w.heap.size ≤ w2.heap.size := K2.size
  have b1_0' := Blk.keep (g := w.heap.size) hb2 (by (repeat' (first | (with_reducible refine' Blk.alloc ?_ _) | (with_reducible refine' Blk.drew ?_) | (with_reducible refine' Blk.drewN ?_ _) | (with_reducible refine' Blk.set_ ?_ _ _) | (with_reducible refine' Blk.far ?_ ?_ _) | exact b1_0)) <;> (first | omega | (simp <;> omega)))
  have b1_1' := Blk.keep (g := w.heap.size + 1) hb2 (by (repeat' (first | (with_reducible refine' Blk.alloc ?_ _) | (with_reducible refine' Blk.drew ?_) | (with_reducible refine' Blk.drewN ?_ _) | (with_reducible refine' Blk.set_ ?_ _ _) | (with_reducible refine' Blk.far ?_ ?_ _) | exact b1_1)) <;> (first | omega | (simp <;> omega)))
  clear hb2 K1
  clear b1_0 c1_0 f1_0 l1_0 e1_0 k1_0; have b1_0 := b1_0'; clear b1_0'
  clear b1_1 c1_1 f1_1 l1_1 e1_1 k1_1; have b1_1 := b1_1'; clear b1_1'
  obtain ⟨c1_0, f1_0, l1_0, e1_0, k1_0⟩ := Blk.facts b1_0
  obtain ⟨c1_1, f1_1, l1_1, e1_1, k1_1⟩ := Blk.facts b1_1
  go_wp2_with fail
  refine (tvalid_any _ _).mono ?_
  rintro e wq1 ⟨rfl, rfl⟩
  rw [H2.out]
  go_wp2_with fail
  refine (tvalid_any _ _).mono ?_
  rintro e wq2 ⟨rfl, rfl⟩
  rw [H3.out]
  go_wp2
  exact bodyPost_ret (v := .tuple #[.agg #[.int .i64 (t3 - err), .int .i64 (t2 + err + hi)], .int .i64 0]) (by simp [results, Tryz.results20, go_sem, *]) rfl ⟨rfl, by (repeat' (first | (with_reducible exact K2) | (with_reducible refine Below.setCell ?_ ?_ _) | (with_reducible refine Below.alloc ?_ ?_ _) | (with_reducible refine Below.drew ?_) | (with_reducible refine below_drewN ?_ _))) <;> (first | omega | (simp <;> omega))⟩
theorem at_any (t1 t2 t3 t4 err p : Int) (w : World) : Calls Tryz.prog 20 #[.agg #[.int .i64 t1, .int .i64 t2, .int .i64 t3, .int .i64 t4, .int .i64 err], .int .i64 p] w (RB w (atV t1 t2 t3 t4 err p)) := by
  by_cases h : exE t1 t2 t3 t4 err = 0
  · rcases h1 : inD (t4 - t1) p
    · exact at_in _ _ _ _ _ _ h h1 w
    rcases h2 : vT (t3 - err)
    · exact at_lo _ _ _ _ _ _ h h1 h2 w
    rcases h3 : vT (t2 + err + elHi (t4 - t1) p)
    · exact at_hi _ _ _ _ _ _ h h1 h2 h3 w
    by_cases h4 : (t2 + err + elHi (t4 - t1) p) < (t3 - err)
    · exact at_20 _ _ _ _ _ _ h h1 h2 h3 h4 w
    · exact at_0 _ _ _ _ _ _ h h1 h2 h3 h4 w
  · exact at_e _ _ _ _ _ _ h w
end Go.Proofs.YtiinmhfolfgobaaGreatDoor
