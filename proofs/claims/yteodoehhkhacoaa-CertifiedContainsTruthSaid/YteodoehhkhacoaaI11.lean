/- Contracts of the program's spans (interval), for every input: Holds, Inside, Middle, Meet. -/
import Derived.Test.YteodoehhkhacoaaR11
namespace Go.Proofs.Yteodoehhkhacoaa
open Go.RowKit

set_option maxHeartbeats 1000000 in
theorem iholds_all (lo hi t : Int) (w : World) :
    Calls Try.prog 43 #[.agg #[.int .i64 lo, .int .i64 hi], .int .i64 t] w (RB w (.bool (hdB lo hi t))) := by
  rcases h : vS lo hi
  · rw [show hdB lo hi t = false by simp [hdB, h]]
    go_enter Try.func43, Try.ntmps43
    go_wp2_with fail
    refine (svalid_any _ _ _).mono ?_
    rintro e wq1 ⟨rfl, rfl⟩
    rw [h]
    go_wp2
    go_ret
    exact ⟨rfl, by (repeat' (first | (with_reducible exact Below.refl _ _) | (with_reducible refine Below.setCell ?_ ?_ _) | (with_reducible refine Below.alloc ?_ ?_ _) | (with_reducible refine Below.drew ?_) | (with_reducible refine below_drewN ?_ _))) <;> (first | omega | (simp <;> omega))⟩
  · by_cases h1 : lo ≤ t
    · by_cases h2 : t ≤ hi
      · rw [show hdB lo hi t = true by simp [hdB, h, h1, h2]]
        go_enter Try.func43, Try.ntmps43
        go_wp2_with fail
        refine (svalid_any _ _ _).mono ?_
        rintro e wq2 ⟨rfl, rfl⟩
        rw [h]
        go_wp2
        go_ret
        exact ⟨rfl, by (repeat' (first | (with_reducible exact Below.refl _ _) | (with_reducible refine Below.setCell ?_ ?_ _) | (with_reducible refine Below.alloc ?_ ?_ _) | (with_reducible refine Below.drew ?_) | (with_reducible refine below_drewN ?_ _))) <;> (first | omega | (simp <;> omega))⟩
      · rw [show hdB lo hi t = false by simp [hdB, h, h1, h2]]
        have q2 : decide (t ≤ hi) = false := by simpa using h2
        go_enter Try.func43, Try.ntmps43
        go_wp2_with fail
        refine (svalid_any _ _ _).mono ?_
        rintro e wq3 ⟨rfl, rfl⟩
        rw [h]
        go_wp2
        go_ret
        exact ⟨rfl, by (repeat' (first | (with_reducible exact Below.refl _ _) | (with_reducible refine Below.setCell ?_ ?_ _) | (with_reducible refine Below.alloc ?_ ?_ _) | (with_reducible refine Below.drew ?_) | (with_reducible refine below_drewN ?_ _))) <;> (first | omega | (simp <;> omega))⟩
    · rw [show hdB lo hi t = false by simp [hdB, h, h1]]
      go_enter Try.func43, Try.ntmps43
      go_wp2_with fail
      refine (svalid_any _ _ _).mono ?_
      rintro e wq4 ⟨rfl, rfl⟩
      rw [h]
      go_wp2
      go_ret
      exact ⟨rfl, by (repeat' (first | (with_reducible exact Below.refl _ _) | (with_reducible refine Below.setCell ?_ ?_ _) | (with_reducible refine Below.alloc ?_ ?_ _) | (with_reducible refine Below.drew ?_) | (with_reducible refine below_drewN ?_ _))) <;> (first | omega | (simp <;> omega))⟩
set_option maxHeartbeats 1000000 in
theorem iinside_all (a b c d : Int) (w : World) :
    Calls Try.prog 42 #[.agg #[.int .i64 a, .int .i64 b], .agg #[.int .i64 c, .int .i64 d]] w (RB w (.bool (insB a b c d))) := by
  rcases h : vS a b
  · rw [show insB a b c d = false by simp [insB, h]]
    go_enter Try.func42, Try.ntmps42
    go_wp2_with fail
    refine (svalid_any _ _ _).mono ?_
    rintro e wq1 ⟨rfl, rfl⟩
    rw [h]
    go_wp2
    go_ret
    exact ⟨rfl, by (repeat' (first | (with_reducible exact Below.refl _ _) | (with_reducible refine Below.setCell ?_ ?_ _) | (with_reducible refine Below.alloc ?_ ?_ _) | (with_reducible refine Below.drew ?_) | (with_reducible refine below_drewN ?_ _))) <;> (first | omega | (simp <;> omega))⟩
  have hv := vS_true.1 h
  have r1 := iholds_all c d a
  have r2 := iholds_all c d b
  rcases h1 : hdB c d a
  · rw [show insB a b c d = false by
      rcases h' : vS c d
      · simp [insB, h']
      · have hv' := vS_true.1 h'
        simp only [hdB, h', Bool.true_and, Bool.and_eq_false_iff, decide_eq_false_iff_not] at h1
        simp only [insB, h, h', Bool.true_and, Bool.and_eq_false_iff, decide_eq_false_iff_not]; omega]
    rw [h1] at r1
    have R1 := Lib.hid r1; clear r1 r2 hv h1
    go_enter Try.func42, Try.ntmps42
    go_wp2_with fail
    refine (svalid_any _ _ _).mono ?_
    rintro e wq1 ⟨rfl, rfl⟩
    rw [h]
    go_wp2_with fail
    refine (R1.out _).mono ?_
    rintro e w1 ⟨rfl, hb1⟩
    have K1 : Below w.heap.size w w1 := kept_call hb1 (by (repeat' (first | (with_reducible exact Below.refl _ _) | (with_reducible refine Below.setCell ?_ ?_ _) | (with_reducible refine Below.alloc ?_ ?_ _) | (with_reducible refine Below.drew ?_) | (with_reducible refine below_drewN ?_ _))) <;> (first | omega | (simp <;> omega)))
    have Z1 : w.heap.size ≤ w1.heap.size := K1.size
    have b1_0 := Blk.keep (g := w.heap.size) hb1 (by (repeat' (first | ((with_reducible refine' Blk.newE ?_); first | rfl | (simp; done)) | (with_reducible refine' Blk.alloc ?_ _) | (with_reducible refine' Blk.drew ?_) | (with_reducible refine' Blk.drewN ?_ _) | (with_reducible refine' Blk.put ?_ ?_) | (with_reducible refine' Blk.far ?_ ?_ _) | exact rfl)) <;> (first | omega | (simp <;> omega)))
    (try simp only [List.setIfInBounds_toArray, List.set_cons_zero, List.set_cons_succ] at b1_0)
    have b1_1 := Blk.keep (g := w.heap.size + 1) hb1 (by (repeat' (first | ((with_reducible refine' Blk.newE ?_); first | rfl | (simp; done)) | (with_reducible refine' Blk.alloc ?_ _) | (with_reducible refine' Blk.drew ?_) | (with_reducible refine' Blk.drewN ?_ _) | (with_reducible refine' Blk.put ?_ ?_) | (with_reducible refine' Blk.far ?_ ?_ _) | exact rfl)) <;> (first | omega | (simp <;> omega)))
    (try simp only [List.setIfInBounds_toArray, List.set_cons_zero, List.set_cons_succ] at b1_1)
    clear hb1
    obtain ⟨c1_0, f1_0, l1_0, e1_0, k1_0⟩ := Blk.facts b1_0
    obtain ⟨c1_1, f1_1, l1_1, e1_1, k1_1⟩ := Blk.facts b1_1
    go_wp2
    go_ret
    exact ⟨rfl, by (repeat' (first | (with_reducible exact K1) | (with_reducible refine Below.setCell ?_ ?_ _) | (with_reducible refine Below.alloc ?_ ?_ _) | (with_reducible refine Below.drew ?_) | (with_reducible refine below_drewN ?_ _))) <;> (first | omega | (simp <;> omega))⟩
  · rcases h2 : hdB c d b
    · rw [show insB a b c d = false by
        rcases h' : vS c d
        · simp [insB, h']
        · have hv' := vS_true.1 h'
          simp only [hdB, h', Bool.true_and, Bool.and_eq_false_iff, decide_eq_false_iff_not] at h2
          simp only [hdB, h', Bool.true_and, Bool.and_eq_true, decide_eq_true_eq] at h1
          simp only [insB, h, h', Bool.true_and, Bool.and_eq_false_iff, decide_eq_false_iff_not]; omega]
      rw [h1] at r1
      rw [h2] at r2
      have R1 := Lib.hid r1; have R2 := Lib.hid r2; clear r1 r2 hv h1 h2
      go_enter Try.func42, Try.ntmps42
      go_wp2_with fail
      refine (svalid_any _ _ _).mono ?_
      rintro e wq1 ⟨rfl, rfl⟩
      rw [h]
      go_wp2_with fail
      refine (R1.out _).mono ?_
      rintro e w1 ⟨rfl, hb1⟩
      have K1 : Below w.heap.size w w1 := kept_call hb1 (by (repeat' (first | (with_reducible exact Below.refl _ _) | (with_reducible refine Below.setCell ?_ ?_ _) | (with_reducible refine Below.alloc ?_ ?_ _) | (with_reducible refine Below.drew ?_) | (with_reducible refine below_drewN ?_ _))) <;> (first | omega | (simp <;> omega)))
      have Z1 : w.heap.size ≤ w1.heap.size := K1.size
      have b1_0 := Blk.keep (g := w.heap.size) hb1 (by (repeat' (first | ((with_reducible refine' Blk.newE ?_); first | rfl | (simp; done)) | (with_reducible refine' Blk.alloc ?_ _) | (with_reducible refine' Blk.drew ?_) | (with_reducible refine' Blk.drewN ?_ _) | (with_reducible refine' Blk.put ?_ ?_) | (with_reducible refine' Blk.far ?_ ?_ _) | exact rfl)) <;> (first | omega | (simp <;> omega)))
      (try simp only [List.setIfInBounds_toArray, List.set_cons_zero, List.set_cons_succ] at b1_0)
      have b1_1 := Blk.keep (g := w.heap.size + 1) hb1 (by (repeat' (first | ((with_reducible refine' Blk.newE ?_); first | rfl | (simp; done)) | (with_reducible refine' Blk.alloc ?_ _) | (with_reducible refine' Blk.drew ?_) | (with_reducible refine' Blk.drewN ?_ _) | (with_reducible refine' Blk.put ?_ ?_) | (with_reducible refine' Blk.far ?_ ?_ _) | exact rfl)) <;> (first | omega | (simp <;> omega)))
      (try simp only [List.setIfInBounds_toArray, List.set_cons_zero, List.set_cons_succ] at b1_1)
      clear hb1
      obtain ⟨c1_0, f1_0, l1_0, e1_0, k1_0⟩ := Blk.facts b1_0
      obtain ⟨c1_1, f1_1, l1_1, e1_1, k1_1⟩ := Blk.facts b1_1
      go_wp2_with fail
      refine (R2.out _).mono ?_
      rintro e w2 ⟨rfl, hb2⟩
      have K2 : Below w.heap.size w w2 := kept_call hb2 (by (repeat' (first | (with_reducible exact K1) | (with_reducible refine Below.setCell ?_ ?_ _) | (with_reducible refine Below.alloc ?_ ?_ _) | (with_reducible refine Below.drew ?_) | (with_reducible refine below_drewN ?_ _))) <;> (first | omega | (simp <;> omega)))
      have Z2 : w.heap.size ≤ w2.heap.size := K2.size
      have b1_0' := Blk.keep (g := w.heap.size) hb2 (by (repeat' (first | (with_reducible refine' Blk.alloc ?_ _) | (with_reducible refine' Blk.drew ?_) | (with_reducible refine' Blk.drewN ?_ _) | (with_reducible refine' Blk.put ?_ ?_) | (with_reducible refine' Blk.far ?_ ?_ _) | exact b1_0 | exact rfl)) <;> (first | omega | (simp <;> omega)))
      (try simp only [List.setIfInBounds_toArray, List.set_cons_zero, List.set_cons_succ] at b1_0')
      have b1_1' := Blk.keep (g := w.heap.size + 1) hb2 (by (repeat' (first | (with_reducible refine' Blk.alloc ?_ _) | (with_reducible refine' Blk.drew ?_) | (with_reducible refine' Blk.drewN ?_ _) | (with_reducible refine' Blk.put ?_ ?_) | (with_reducible refine' Blk.far ?_ ?_ _) | exact b1_1 | exact rfl)) <;> (first | omega | (simp <;> omega)))
      (try simp only [List.setIfInBounds_toArray, List.set_cons_zero, List.set_cons_succ] at b1_1')
      clear hb2 K1
      clear b1_0 c1_0 f1_0 l1_0 e1_0 k1_0; have b1_0 := b1_0'; clear b1_0'
      clear b1_1 c1_1 f1_1 l1_1 e1_1 k1_1; have b1_1 := b1_1'; clear b1_1'
      obtain ⟨c1_0, f1_0, l1_0, e1_0, k1_0⟩ := Blk.facts b1_0
      obtain ⟨c1_1, f1_1, l1_1, e1_1, k1_1⟩ := Blk.facts b1_1
      go_wp2
      go_ret
      exact ⟨rfl, by (repeat' (first | (with_reducible exact K2) | (with_reducible refine Below.setCell ?_ ?_ _) | (with_reducible refine Below.alloc ?_ ?_ _) | (with_reducible refine Below.drew ?_) | (with_reducible refine below_drewN ?_ _))) <;> (first | omega | (simp <;> omega))⟩
    · rw [show insB a b c d = true by
        rcases h' : vS c d
        · simp [hdB, h'] at h1
        · simp only [hdB, h', Bool.true_and, Bool.and_eq_true, decide_eq_true_eq] at h1 h2
          simp only [insB, h, h', Bool.true_and, Bool.and_eq_true, decide_eq_true_eq]; omega]
      rw [h1] at r1
      rw [h2] at r2
      have R1 := Lib.hid r1; have R2 := Lib.hid r2; clear r1 r2 hv h1 h2
      go_enter Try.func42, Try.ntmps42
      go_wp2_with fail
      refine (svalid_any _ _ _).mono ?_
      rintro e wq1 ⟨rfl, rfl⟩
      rw [h]
      go_wp2_with fail
      refine (R1.out _).mono ?_
      rintro e w1 ⟨rfl, hb1⟩
      have K1 : Below w.heap.size w w1 := kept_call hb1 (by (repeat' (first | (with_reducible exact Below.refl _ _) | (with_reducible refine Below.setCell ?_ ?_ _) | (with_reducible refine Below.alloc ?_ ?_ _) | (with_reducible refine Below.drew ?_) | (with_reducible refine below_drewN ?_ _))) <;> (first | omega | (simp <;> omega)))
      have Z1 : w.heap.size ≤ w1.heap.size := K1.size
      have b1_0 := Blk.keep (g := w.heap.size) hb1 (by (repeat' (first | ((with_reducible refine' Blk.newE ?_); first | rfl | (simp; done)) | (with_reducible refine' Blk.alloc ?_ _) | (with_reducible refine' Blk.drew ?_) | (with_reducible refine' Blk.drewN ?_ _) | (with_reducible refine' Blk.put ?_ ?_) | (with_reducible refine' Blk.far ?_ ?_ _) | exact rfl)) <;> (first | omega | (simp <;> omega)))
      (try simp only [List.setIfInBounds_toArray, List.set_cons_zero, List.set_cons_succ] at b1_0)
      have b1_1 := Blk.keep (g := w.heap.size + 1) hb1 (by (repeat' (first | ((with_reducible refine' Blk.newE ?_); first | rfl | (simp; done)) | (with_reducible refine' Blk.alloc ?_ _) | (with_reducible refine' Blk.drew ?_) | (with_reducible refine' Blk.drewN ?_ _) | (with_reducible refine' Blk.put ?_ ?_) | (with_reducible refine' Blk.far ?_ ?_ _) | exact rfl)) <;> (first | omega | (simp <;> omega)))
      (try simp only [List.setIfInBounds_toArray, List.set_cons_zero, List.set_cons_succ] at b1_1)
      clear hb1
      obtain ⟨c1_0, f1_0, l1_0, e1_0, k1_0⟩ := Blk.facts b1_0
      obtain ⟨c1_1, f1_1, l1_1, e1_1, k1_1⟩ := Blk.facts b1_1
      go_wp2_with fail
      refine (R2.out _).mono ?_
      rintro e w2 ⟨rfl, hb2⟩
      have K2 : Below w.heap.size w w2 := kept_call hb2 (by (repeat' (first | (with_reducible exact K1) | (with_reducible refine Below.setCell ?_ ?_ _) | (with_reducible refine Below.alloc ?_ ?_ _) | (with_reducible refine Below.drew ?_) | (with_reducible refine below_drewN ?_ _))) <;> (first | omega | (simp <;> omega)))
      have Z2 : w.heap.size ≤ w2.heap.size := K2.size
      have b1_0' := Blk.keep (g := w.heap.size) hb2 (by (repeat' (first | (with_reducible refine' Blk.alloc ?_ _) | (with_reducible refine' Blk.drew ?_) | (with_reducible refine' Blk.drewN ?_ _) | (with_reducible refine' Blk.put ?_ ?_) | (with_reducible refine' Blk.far ?_ ?_ _) | exact b1_0 | exact rfl)) <;> (first | omega | (simp <;> omega)))
      (try simp only [List.setIfInBounds_toArray, List.set_cons_zero, List.set_cons_succ] at b1_0')
      have b1_1' := Blk.keep (g := w.heap.size + 1) hb2 (by (repeat' (first | (with_reducible refine' Blk.alloc ?_ _) | (with_reducible refine' Blk.drew ?_) | (with_reducible refine' Blk.drewN ?_ _) | (with_reducible refine' Blk.put ?_ ?_) | (with_reducible refine' Blk.far ?_ ?_ _) | exact b1_1 | exact rfl)) <;> (first | omega | (simp <;> omega)))
      (try simp only [List.setIfInBounds_toArray, List.set_cons_zero, List.set_cons_succ] at b1_1')
      clear hb2 K1
      clear b1_0 c1_0 f1_0 l1_0 e1_0 k1_0; have b1_0 := b1_0'; clear b1_0'
      clear b1_1 c1_1 f1_1 l1_1 e1_1 k1_1; have b1_1 := b1_1'; clear b1_1'
      obtain ⟨c1_0, f1_0, l1_0, e1_0, k1_0⟩ := Blk.facts b1_0
      obtain ⟨c1_1, f1_1, l1_1, e1_1, k1_1⟩ := Blk.facts b1_1
      go_wp2
      go_ret
      exact ⟨rfl, by (repeat' (first | (with_reducible exact K2) | (with_reducible refine Below.setCell ?_ ?_ _) | (with_reducible refine Below.alloc ?_ ?_ _) | (with_reducible refine Below.drew ?_) | (with_reducible refine below_drewN ?_ _))) <;> (first | omega | (simp <;> omega))⟩
set_option maxHeartbeats 1000000 in
theorem imiddle_all (lo hi : Int) (w : World) :
    Calls Try.prog 44 #[.agg #[.int .i64 lo, .int .i64 hi]] w (RB w (.int .i64 (midN lo hi))) := by
  rcases h : vS lo hi
  · rw [show midN lo hi = 0 by simp [midN, h]]
    go_enter Try.func44, Try.ntmps44
    go_wp2_with fail
    refine (svalid_any _ _ _).mono ?_
    rintro e wq1 ⟨rfl, rfl⟩
    rw [h]
    go_wp2
    go_ret
    exact ⟨rfl, by (repeat' (first | (with_reducible exact Below.refl _ _) | (with_reducible refine Below.setCell ?_ ?_ _) | (with_reducible refine Below.alloc ?_ ?_ _) | (with_reducible refine Below.drew ?_) | (with_reducible refine below_drewN ?_ _))) <;> (first | omega | (simp <;> omega))⟩
  · rw [show midN lo hi = (lo + hi) / 2 by simp [midN, h]]
    obtain ⟨x1, x2, x3⟩ := vS_true.1 h
    go_enter Try.func44, Try.ntmps44
    go_wp2_with fail
    refine (svalid_any _ _ _).mono ?_
    rintro e wq2 ⟨rfl, rfl⟩
    rw [h]
    go_wp2
    go_ret
    exact ⟨rfl, by (repeat' (first | (with_reducible exact Below.refl _ _) | (with_reducible refine Below.setCell ?_ ?_ _) | (with_reducible refine Below.alloc ?_ ?_ _) | (with_reducible refine Below.drew ?_) | (with_reducible refine below_drewN ?_ _))) <;> (first | omega | (simp <;> omega))⟩
set_option maxHeartbeats 2000000 in
theorem imeet_all (a b c d : Int) (w : World) :
    Calls Try.prog 40 #[.agg #[.int .i64 a, .int .i64 b], .agg #[.int .i64 c, .int .i64 d]] w (RB w (.tuple #[.agg #[.int .i64 (mtLo a b c d), .int .i64 (mtHi a b c d)], .bool (mtB a b c d)])) := by
  rcases h : vS a b
  · have hm : mtB a b c d = false := by simp [mtB, h]
    rw [mtLo_no hm, mtHi_no hm, hm]
    go_enter Try.func40, Try.ntmps40
    go_wp2_with fail
    refine (svalid_any _ _ _).mono ?_
    rintro e wq1 ⟨rfl, rfl⟩
    rw [h]
    go_wp2
    exact bodyPost_ret (v := .tuple #[.agg #[.int .i64 0, .int .i64 0], .bool false]) (by simp [results, Try.results40, go_sem, *]) rfl ⟨rfl, by (repeat' (first | (with_reducible exact Below.refl _ _) | (with_reducible refine Below.setCell ?_ ?_ _) | (with_reducible refine Below.alloc ?_ ?_ _) | (with_reducible refine Below.drew ?_) | (with_reducible refine below_drewN ?_ _))) <;> (first | omega | (simp <;> omega))⟩
  rcases h' : vS c d
  · have hm : mtB a b c d = false := by simp [mtB, h']
    rw [mtLo_no hm, mtHi_no hm, hm]
    go_enter Try.func40, Try.ntmps40
    go_wp2_with fail
    refine (svalid_any _ _ _).mono ?_
    rintro e wq2 ⟨rfl, rfl⟩
    rw [h]
    go_wp2_with fail
    refine (svalid_any _ _ _).mono ?_
    rintro e wq3 ⟨rfl, rfl⟩
    rw [h']
    go_wp2
    exact bodyPost_ret (v := .tuple #[.agg #[.int .i64 0, .int .i64 0], .bool false]) (by simp [results, Try.results40, go_sem, *]) rfl ⟨rfl, by (repeat' (first | (with_reducible exact Below.refl _ _) | (with_reducible refine Below.setCell ?_ ?_ _) | (with_reducible refine Below.alloc ?_ ?_ _) | (with_reducible refine Below.drew ?_) | (with_reducible refine below_drewN ?_ _))) <;> (first | omega | (simp <;> omega))⟩
  have hv1 := vS_true.1 h; have hv2 := vS_true.1 h'
  have hmx : vS (max a c) (min b d) = decide (max a c ≤ min b d) := by
    rw [Bool.eq_iff_iff, vS_true, decide_eq_true_eq]; omega
  rcases hm : mtB a b c d
  · have h2 : vS (max a c) (min b d) = false := by rw [hmx]; simpa [mtB, h, h'] using hm
    rw [mtLo_no hm, mtHi_no hm]
    have H := Lib.hid h; have H' := Lib.hid h'; have H2 := Lib.hid h2; clear h h' h2 hm hmx hv1 hv2
    go_enter Try.func40, Try.ntmps40
    go_wp2_with fail
    refine (svalid_any _ _ _).mono ?_
    rintro e wq1 ⟨rfl, rfl⟩
    rw [H.out]
    go_wp2_with fail
    refine (svalid_any _ _ _).mono ?_
    rintro e wq2 ⟨rfl, rfl⟩
    rw [H'.out]
    go_wp2_with fail
    refine (svalid_any _ _ _).mono ?_
    rintro e wq3 ⟨rfl, rfl⟩
    rw [H2.out]
    go_wp2
    exact bodyPost_ret (v := .tuple #[.agg #[.int .i64 0, .int .i64 0], .bool false]) (by simp [results, Try.results40, go_sem, *]) rfl ⟨rfl, by (repeat' (first | (with_reducible exact Below.refl _ _) | (with_reducible refine Below.setCell ?_ ?_ _) | (with_reducible refine Below.alloc ?_ ?_ _) | (with_reducible refine Below.drew ?_) | (with_reducible refine below_drewN ?_ _))) <;> (first | omega | (simp <;> omega))⟩
  · have h2 : vS (max a c) (min b d) = true := by rw [hmx]; simpa [mtB, h, h'] using hm
    rw [mtLo_yes hm, mtHi_yes hm]
    have H := Lib.hid h; have H' := Lib.hid h'; have H2 := Lib.hid h2; clear h h' h2 hm hmx hv1 hv2
    go_enter Try.func40, Try.ntmps40
    go_wp2_with fail
    refine (svalid_any _ _ _).mono ?_
    rintro e wq1 ⟨rfl, rfl⟩
    rw [H.out]
    go_wp2_with fail
    refine (svalid_any _ _ _).mono ?_
    rintro e wq2 ⟨rfl, rfl⟩
    rw [H'.out]
    go_wp2_with fail
    refine (svalid_any _ _ _).mono ?_
    rintro e wq3 ⟨rfl, rfl⟩
    rw [H2.out]
    go_wp2
    exact bodyPost_ret (v := .tuple #[.agg #[.int .i64 (max a c), .int .i64 (min b d)], .bool true]) (by simp [results, Try.results40, go_sem, *]) rfl ⟨rfl, by (repeat' (first | (with_reducible exact Below.refl _ _) | (with_reducible refine Below.setCell ?_ ?_ _) | (with_reducible refine Below.alloc ?_ ?_ _) | (with_reducible refine Below.drew ?_) | (with_reducible refine below_drewN ?_ _))) <;> (first | omega | (simp <;> omega))⟩
end Go.Proofs.Yteodoehhkhacoaa
