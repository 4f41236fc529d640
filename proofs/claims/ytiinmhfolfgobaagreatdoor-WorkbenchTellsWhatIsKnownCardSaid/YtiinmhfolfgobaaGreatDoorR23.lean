/- The reference's exchange: Check, At. -/
import Derived.Test.YtiinmhfolfgobaaGreatDoorJ8
import Derived.Test.YtiinmhfolfgobaaGreatDoorJ24
import Derived.Test.YtiinmhfolfgobaaGreatDoorJ32
namespace Go.Proofs.YtiinmhfolfgobaaGreatDoor
open Go.RowKit
set_option linter.unusedSimpArgs false
set_option linter.unusedVariables false

set_option maxRecDepth 100000 in
set_option maxHeartbeats 2000000 in
theorem rexcheck_any (t1 t2 t3 t4 err : Int) (w : World) :
    Calls Tryz.prog 38 #[.agg #[.int .i64 t1, .int .i64 t2, .int .i64 t3, .int .i64 t4, .int .i64 err]] w (RB w (.int .i64 (exE t1 t2 t3 t4 err))) := by
  rcases y0 : vT t1
  · rw [show exE t1 t2 t3 t4 err = 4 from by unfold exE; rw [if_neg]; simp only [y0]; simp]
    go_enter Tryz.func38, Tryz.ntmps38
    go_wp2_with fail
    refine (rvalid_any _ _).mono ?_
    rintro e wq1 ⟨rfl, rfl⟩
    rw [y0]
    go_wp2
    exact bodyPost_ret (v := .int .i64 4) (by simp [results, Tryz.results38, go_sem, *]) rfl ⟨rfl, (by (repeat' (first | (with_reducible exact Below.refl _ _) | (with_reducible refine Below.setCell ?_ ?_ _) | (with_reducible refine Below.alloc ?_ ?_ _) | (with_reducible refine Below.drew ?_) | (with_reducible refine below_drewN ?_ _))) <;> (first | omega | (simp <;> omega)))⟩
  rcases y1 : vT t2
  · rw [show exE t1 t2 t3 t4 err = 4 from by unfold exE; rw [if_neg]; simp only [y0, y1]; simp]
    go_enter Tryz.func38, Tryz.ntmps38
    go_wp2_with fail
    refine (rvalid_any _ _).mono ?_
    rintro e wq1 ⟨rfl, rfl⟩
    rw [y0]
    go_wp2_with fail
    refine (rvalid_any _ _).mono ?_
    rintro e wq2 ⟨rfl, rfl⟩
    rw [y1]
    go_wp2
    exact bodyPost_ret (v := .int .i64 4) (by simp [results, Tryz.results38, go_sem, *]) rfl ⟨rfl, (by (repeat' (first | (with_reducible exact Below.refl _ _) | (with_reducible refine Below.setCell ?_ ?_ _) | (with_reducible refine Below.alloc ?_ ?_ _) | (with_reducible refine Below.drew ?_) | (with_reducible refine below_drewN ?_ _))) <;> (first | omega | (simp <;> omega)))⟩
  rcases y2 : vT t3
  · rw [show exE t1 t2 t3 t4 err = 4 from by unfold exE; rw [if_neg]; simp only [y0, y1, y2]; simp]
    go_enter Tryz.func38, Tryz.ntmps38
    go_wp2_with fail
    refine (rvalid_any _ _).mono ?_
    rintro e wq1 ⟨rfl, rfl⟩
    rw [y0]
    go_wp2_with fail
    refine (rvalid_any _ _).mono ?_
    rintro e wq2 ⟨rfl, rfl⟩
    rw [y1]
    go_wp2_with fail
    refine (rvalid_any _ _).mono ?_
    rintro e wq3 ⟨rfl, rfl⟩
    rw [y2]
    go_wp2
    exact bodyPost_ret (v := .int .i64 4) (by simp [results, Tryz.results38, go_sem, *]) rfl ⟨rfl, (by (repeat' (first | (with_reducible exact Below.refl _ _) | (with_reducible refine Below.setCell ?_ ?_ _) | (with_reducible refine Below.alloc ?_ ?_ _) | (with_reducible refine Below.drew ?_) | (with_reducible refine below_drewN ?_ _))) <;> (first | omega | (simp <;> omega)))⟩
  rcases y3 : vT t4
  · rw [show exE t1 t2 t3 t4 err = 4 from by unfold exE; rw [if_neg]; simp only [y0, y1, y2, y3]; simp]
    go_enter Tryz.func38, Tryz.ntmps38
    go_wp2_with fail
    refine (rvalid_any _ _).mono ?_
    rintro e wq1 ⟨rfl, rfl⟩
    rw [y0]
    go_wp2_with fail
    refine (rvalid_any _ _).mono ?_
    rintro e wq2 ⟨rfl, rfl⟩
    rw [y1]
    go_wp2_with fail
    refine (rvalid_any _ _).mono ?_
    rintro e wq3 ⟨rfl, rfl⟩
    rw [y2]
    go_wp2_with fail
    refine (rvalid_any _ _).mono ?_
    rintro e wq4 ⟨rfl, rfl⟩
    rw [y3]
    go_wp2
    exact bodyPost_ret (v := .int .i64 4) (by simp [results, Tryz.results38, go_sem, *]) rfl ⟨rfl, (by (repeat' (first | (with_reducible exact Below.refl _ _) | (with_reducible refine Below.setCell ?_ ?_ _) | (with_reducible refine Below.alloc ?_ ?_ _) | (with_reducible refine Below.drew ?_) | (with_reducible refine below_drewN ?_ _))) <;> (first | omega | (simp <;> omega)))⟩
  rcases y4 : decide (0 ≤ err)
  · rw [show exE t1 t2 t3 t4 err = 4 from by unfold exE; rw [if_neg]; simp only [y0, y1, y2, y3, y4]; simp]
    have v4 := of_decide_eq_false y4
    have s4 : decide (err < 0) = true := decide_eq_true (by omega)
    go_enter Tryz.func38, Tryz.ntmps38
    go_wp2_with fail
    refine (rvalid_any _ _).mono ?_
    rintro e wq1 ⟨rfl, rfl⟩
    rw [y0]
    go_wp2_with fail
    refine (rvalid_any _ _).mono ?_
    rintro e wq2 ⟨rfl, rfl⟩
    rw [y1]
    go_wp2_with fail
    refine (rvalid_any _ _).mono ?_
    rintro e wq3 ⟨rfl, rfl⟩
    rw [y2]
    go_wp2_with fail
    refine (rvalid_any _ _).mono ?_
    rintro e wq4 ⟨rfl, rfl⟩
    rw [y3]
    go_wp2
    exact bodyPost_ret (v := .int .i64 4) (by simp [results, Tryz.results38, go_sem, *]) rfl ⟨rfl, (by (repeat' (first | (with_reducible exact Below.refl _ _) | (with_reducible refine Below.setCell ?_ ?_ _) | (with_reducible refine Below.alloc ?_ ?_ _) | (with_reducible refine Below.drew ?_) | (with_reducible refine below_drewN ?_ _))) <;> (first | omega | (simp <;> omega)))⟩
  have v4 := of_decide_eq_true y4
  have s4 : decide (err < 0) = false := decide_eq_false (by omega)
  rcases y5 : decide (err ≤ 1152921504606846976)
  · rw [show exE t1 t2 t3 t4 err = 4 from by unfold exE; rw [if_neg]; simp only [y0, y1, y2, y3, y4, y5]; simp]
    have v5 := of_decide_eq_false y5
    have s5 : decide (1152921504606846976 < err) = true := decide_eq_true (by omega)
    go_enter Tryz.func38, Tryz.ntmps38
    go_wp2_with fail
    refine (rvalid_any _ _).mono ?_
    rintro e wq1 ⟨rfl, rfl⟩
    rw [y0]
    go_wp2_with fail
    refine (rvalid_any _ _).mono ?_
    rintro e wq2 ⟨rfl, rfl⟩
    rw [y1]
    go_wp2_with fail
    refine (rvalid_any _ _).mono ?_
    rintro e wq3 ⟨rfl, rfl⟩
    rw [y2]
    go_wp2_with fail
    refine (rvalid_any _ _).mono ?_
    rintro e wq4 ⟨rfl, rfl⟩
    rw [y3]
    go_wp2
    exact bodyPost_ret (v := .int .i64 4) (by simp [results, Tryz.results38, go_sem, *]) rfl ⟨rfl, (by (repeat' (first | (with_reducible exact Below.refl _ _) | (with_reducible refine Below.setCell ?_ ?_ _) | (with_reducible refine Below.alloc ?_ ?_ _) | (with_reducible refine Below.drew ?_) | (with_reducible refine below_drewN ?_ _))) <;> (first | omega | (simp <;> omega)))⟩
  have v5 := of_decide_eq_true y5
  have s5 : decide (1152921504606846976 < err) = false := decide_eq_false (by omega)
  rw [show exE t1 t2 t3 t4 err = if t4 < t1 ∨ t3 < t2 then 12 else 0 from by unfold exE; rw [if_pos]; simp only [y0, y1, y2, y3, y4, y5]; simp]
  by_cases a0 : t4 < t1
  · rw [if_pos (by omega)]
    have a1 : decide (t4 < t1) = true := decide_eq_true a0
    go_enter Tryz.func38, Tryz.ntmps38
    go_wp2_with fail
    refine (rvalid_any _ _).mono ?_
    rintro e wq1 ⟨rfl, rfl⟩
    rw [y0]
    go_wp2_with fail
    refine (rvalid_any _ _).mono ?_
    rintro e wq2 ⟨rfl, rfl⟩
    rw [y1]
    go_wp2_with fail
    refine (rvalid_any _ _).mono ?_
    rintro e wq3 ⟨rfl, rfl⟩
    rw [y2]
    go_wp2_with fail
    refine (rvalid_any _ _).mono ?_
    rintro e wq4 ⟨rfl, rfl⟩
    rw [y3]
    go_wp2
    exact bodyPost_ret (v := .int .i64 12) (by simp [results, Tryz.results38, go_sem, *]) rfl ⟨rfl, (by (repeat' (first | (with_reducible exact Below.refl _ _) | (with_reducible refine Below.setCell ?_ ?_ _) | (with_reducible refine Below.alloc ?_ ?_ _) | (with_reducible refine Below.drew ?_) | (with_reducible refine below_drewN ?_ _))) <;> (first | omega | (simp <;> omega)))⟩
  have a1 : decide (t4 < t1) = false := decide_eq_false a0
  by_cases b0 : t3 < t2
  · rw [if_pos (by omega)]
    have b1 : decide (t3 < t2) = true := decide_eq_true b0
    go_enter Tryz.func38, Tryz.ntmps38
    go_wp2_with fail
    refine (rvalid_any _ _).mono ?_
    rintro e wq1 ⟨rfl, rfl⟩
    rw [y0]
    go_wp2_with fail
    refine (rvalid_any _ _).mono ?_
    rintro e wq2 ⟨rfl, rfl⟩
    rw [y1]
    go_wp2_with fail
    refine (rvalid_any _ _).mono ?_
    rintro e wq3 ⟨rfl, rfl⟩
    rw [y2]
    go_wp2_with fail
    refine (rvalid_any _ _).mono ?_
    rintro e wq4 ⟨rfl, rfl⟩
    rw [y3]
    go_wp2
    exact bodyPost_ret (v := .int .i64 12) (by simp [results, Tryz.results38, go_sem, *]) rfl ⟨rfl, (by (repeat' (first | (with_reducible exact Below.refl _ _) | (with_reducible refine Below.setCell ?_ ?_ _) | (with_reducible refine Below.alloc ?_ ?_ _) | (with_reducible refine Below.drew ?_) | (with_reducible refine below_drewN ?_ _))) <;> (first | omega | (simp <;> omega)))⟩
  have b1 : decide (t3 < t2) = false := decide_eq_false b0
  rw [if_neg (by omega)]
  go_enter Tryz.func38, Tryz.ntmps38
  go_wp2_with fail
  refine (rvalid_any _ _).mono ?_
  rintro e wq1 ⟨rfl, rfl⟩
  rw [y0]
  go_wp2_with fail
  refine (rvalid_any _ _).mono ?_
  rintro e wq2 ⟨rfl, rfl⟩
  rw [y1]
  go_wp2_with fail
  refine (rvalid_any _ _).mono ?_
  rintro e wq3 ⟨rfl, rfl⟩
  rw [y2]
  go_wp2_with fail
  refine (rvalid_any _ _).mono ?_
  rintro e wq4 ⟨rfl, rfl⟩
  rw [y3]
  go_wp2
  exact bodyPost_ret (v := .int .i64 0) (by simp [results, Tryz.results38, go_sem, *]) rfl ⟨rfl, (by (repeat' (first | (with_reducible exact Below.refl _ _) | (with_reducible refine Below.setCell ?_ ?_ _) | (with_reducible refine Below.alloc ?_ ?_ _) | (with_reducible refine Below.drew ?_) | (with_reducible refine below_drewN ?_ _))) <;> (first | omega | (simp <;> omega)))⟩
set_option maxRecDepth 100000 in
set_option maxHeartbeats 3000000 in
theorem rat_any (t1 t2 t3 t4 err p : Int) (w : World) :
    Calls Tryz.prog 15 #[.agg #[.int .i64 t1, .int .i64 t2, .int .i64 t3, .int .i64 t4, .int .i64 err], .int .i64 p] w (RB w (atV t1 t2 t3 t4 err p)) := by
  have RC := Lib.hid (rexcheck_any t1 t2 t3 t4 err)
  by_cases h0 : exE t1 t2 t3 t4 err = 0
  rotate_left
  · rw [atV_e h0]
    have HE := Lib.hid h0
    generalize exE t1 t2 t3 t4 err = er at *
    have e1 : (er == 0) = false := by simpa using h0
    have e2 : (er != 0) = true := by simpa using h0
    go_enter Tryz.func15, Tryz.ntmps15
    go_wp2_with fail
    refine (RC.out _).mono ?_
    rintro e w1 ⟨rfl, hb1⟩
    have K1 : Below w.heap.size w w1 := kept_call hb1 (by (repeat' (first | (with_reducible exact Below.refl _ _) | (with_reducible refine Below.setCell ?_ ?_ _) | (with_reducible refine Below.alloc ?_ ?_ _) | (with_reducible refine Below.drew ?_) | (with_reducible refine below_drewN ?_ _))) <;> (first | omega | (simp <;> omega)))
    have Z1 : w.heap.size ≤ w1.heap.size := K1.size
    have b1_0 := Blk.keep (g := w.heap.size) hb1 (by (repeat' (first | ((with_reducible refine' Blk.newE ?_); first | rfl | (simp; done)) | (with_reducible refine' Blk.alloc ?_ _) | (with_reducible refine' Blk.drew ?_) | (with_reducible refine' Blk.drewN ?_ _) | (with_reducible refine' Blk.put ?_ ?_) | (with_reducible refine' Blk.far ?_ ?_ _) | exact rfl)) <;> (first | omega | (simp <;> omega)))
    (try simp only [List.setIfInBounds_toArray, List.set_cons_zero, List.set_cons_succ] at b1_0)
    have b1_1 := Blk.keep (g := w.heap.size + 1) hb1 (by (repeat' (first | ((with_reducible refine' Blk.newE ?_); first | rfl | (simp; done)) | (with_reducible refine' Blk.alloc ?_ _) | (with_reducible refine' Blk.drew ?_) | (with_reducible refine' Blk.drewN ?_ _) | (with_reducible refine' Blk.put ?_ ?_) | (with_reducible refine' Blk.far ?_ ?_ _) | exact rfl)) <;> (first | omega | (simp <;> omega)))
    (try simp only [List.setIfInBounds_toArray, List.set_cons_zero, List.set_cons_succ] at b1_1)
    clear hb1
    obtain ⟨c1_0, f1_0, l1_0, e1_0, k1_0⟩ := Blk.facts b1_0
    obtain ⟨c1_1, f1_1, l1_1, e1_1, k1_1⟩ := Blk.facts b1_1
    have o1_0 := l1_0
    have o1_1 := l1_1
    go_wp2
    exact bodyPost_ret (v := .tuple #[.agg #[.int .i64 0, .int .i64 0], .int .i64 er]) (by simp [results, Tryz.results15, go_sem, *]) rfl ⟨rfl, (by (repeat' (first | (with_reducible exact K1) | (with_reducible refine Below.setCell ?_ ?_ _) | (with_reducible refine Below.alloc ?_ ?_ _) | (with_reducible refine Below.drew ?_) | (with_reducible refine below_drewN ?_ _))) <;> (first | omega | (simp <;> omega)))⟩
  rw [h0] at RC
  obtain ⟨v1, v2, v3, v4, v5, v6, v7, v8⟩ := exE_all h0
  have u1 := vT_true.1 v1; have u2 := vT_true.1 v2; have u3 := vT_true.1 v3; have u4 := vT_true.1 v4
  have wd : IntKind.i64.wrap (t4 - t1) = t4 - t1 := IntWalk.i64_in _ (by omega)
  have wl : IntKind.i64.wrap (t3 - err) = t3 - err := IntWalk.i64_in _ (by omega)
  have wm : IntKind.i64.wrap (t2 + err) = t2 + err := IntWalk.i64_in _ (by omega)
  have RE := Lib.hid (relapsed_any (t4 - t1) p)
  rcases hd : inD (t4 - t1) p
  · rw [atV_4 h0 (.inl hd)]
    rw [outV_no hd] at RE
    clear v1 v2 v3 v4 v5 v6 v7 v8
    go_enter Tryz.func15, Tryz.ntmps15
    go_wp2_with fail
    refine (RC.out _).mono ?_
    rintro e w1 ⟨rfl, hb1⟩
    have K1 : Below w.heap.size w w1 := kept_call hb1 (by (repeat' (first | (with_reducible exact Below.refl _ _) | (with_reducible refine Below.setCell ?_ ?_ _) | (with_reducible refine Below.alloc ?_ ?_ _) | (with_reducible refine Below.drew ?_) | (with_reducible refine below_drewN ?_ _))) <;> (first | omega | (simp <;> omega)))
    have Z1 : w.heap.size ≤ w1.heap.size := K1.size
    have b1_0 := Blk.keep (g := w.heap.size) hb1 (by (repeat' (first | ((with_reducible refine' Blk.newE ?_); first | rfl | (simp; done)) | (with_reducible refine' Blk.alloc ?_ _) | (with_reducible refine' Blk.drew ?_) | (with_reducible refine' Blk.drewN ?_ _) | (with_reducible refine' Blk.put ?_ ?_) | (with_reducible refine' Blk.far ?_ ?_ _) | exact rfl)) <;> (first | omega | (simp <;> omega)))
    (try simp only [List.setIfInBounds_toArray, List.set_cons_zero, List.set_cons_succ] at b1_0)
    have b1_1 := Blk.keep (g := w.heap.size + 1) hb1 (by (repeat' (first | ((with_reducible refine' Blk.newE ?_); first | rfl | (simp; done)) | (with_reducible refine' Blk.alloc ?_ _) | (with_reducible refine' Blk.drew ?_) | (with_reducible refine' Blk.drewN ?_ _) | (with_reducible refine' Blk.put ?_ ?_) | (with_reducible refine' Blk.far ?_ ?_ _) | exact rfl)) <;> (first | omega | (simp <;> omega)))
    (try simp only [List.setIfInBounds_toArray, List.set_cons_zero, List.set_cons_succ] at b1_1)
    clear hb1
    obtain ⟨c1_0, f1_0, l1_0, e1_0, k1_0⟩ := Blk.facts b1_0
    obtain ⟨c1_1, f1_1, l1_1, e1_1, k1_1⟩ := Blk.facts b1_1
    have o1_0 := l1_0
    have o1_1 := l1_1
    go_wp2_with fail
    refine (RE.out _).mono ?_
    rintro e w2 ⟨rfl, hb2⟩
    have K2 : Below w.heap.size w w2 := kept_call hb2 (by (repeat' (first | (with_reducible exact K1) | (with_reducible refine Below.setCell ?_ ?_ _) | (with_reducible refine Below.alloc ?_ ?_ _) | (with_reducible refine Below.drew ?_) | (with_reducible refine below_drewN ?_ _))) <;> (first | omega | (simp <;> omega)))
    have Z2 : w.heap.size ≤ w2.heap.size := K2.size
    have b1_0' := Blk.keep (g := w.heap.size) hb2 (by (repeat' (first | (with_reducible refine' Blk.alloc ?_ _) | (with_reducible refine' Blk.drew ?_) | (with_reducible refine' Blk.drewN ?_ _) | (with_reducible refine' Blk.put ?_ ?_) | (with_reducible refine' Blk.far ?_ ?_ _) | exact b1_0 | exact rfl)) <;> (first | omega | (simp <;> omega)))
    (try simp only [List.setIfInBounds_toArray, List.set_cons_zero, List.set_cons_succ] at b1_0')
    have b1_1' := Blk.keep (g := w.heap.size + 1) hb2 (by (repeat' (first | (with_reducible refine' Blk.alloc ?_ _) | (with_reducible refine' Blk.drew ?_) | (with_reducible refine' Blk.drewN ?_ _) | (with_reducible refine' Blk.put ?_ ?_) | (with_reducible refine' Blk.far ?_ ?_ _) | exact b1_1 | exact rfl)) <;> (first | omega | (simp <;> omega)))
    (try simp only [List.setIfInBounds_toArray, List.set_cons_zero, List.set_cons_succ] at b1_1')
    clear hb2 K1
    clear b1_0 c1_0 f1_0 l1_0 e1_0 k1_0; have b1_0 := b1_0'; clear b1_0'
    clear b1_1 c1_1 f1_1 l1_1 e1_1 k1_1; have b1_1 := b1_1'; clear b1_1'
    obtain ⟨c1_0, f1_0, l1_0, e1_0, k1_0⟩ := Blk.facts b1_0
    obtain ⟨c1_1, f1_1, l1_1, e1_1, k1_1⟩ := Blk.facts b1_1
    go_wp2
    exact bodyPost_ret (v := .tuple #[.agg #[.int .i64 0, .int .i64 0], .int .i64 4]) (by simp [results, Tryz.results15, go_sem, *]) rfl ⟨rfl, (by (repeat' (first | (with_reducible exact K2) | (with_reducible refine Below.setCell ?_ ?_ _) | (with_reducible refine Below.alloc ?_ ?_ _) | (with_reducible refine Below.drew ?_) | (with_reducible refine below_drewN ?_ _))) <;> (first | omega | (simp <;> omega)))⟩
  rw [outV_ok hd] at RE
  have hdd := inD_true.1 hd
  have X2 := hi_two hdd.1 hdd.2.2.1 hdd.2.2.2
  have X3 := le_hi hdd.1 hdd.2.2.1 hdd.2.2.2
  have wh : IntKind.i64.wrap (t2 + err + elHi (t4 - t1) p) = t2 + err + elHi (t4 - t1) p := IntWalk.i64_in _ (by omega)
  have A4 := fun h => atV_4 (p := p) h0 (.inr h)
  have A20 := fun a b c => atV_20 (p := p) h0 hd a b c
  have A0 := fun a b c => atV_0 (p := p) h0 hd a b c
  have HA4 := Lib.hid A4; have HA20 := Lib.hid A20; have HA0 := Lib.hid A0; clear A4 A20 A0
  clear v1 v2 v3 v4 v7 v8 X2 X3 hdd h0 hd u1 u2 u3 u4
  generalize atV t1 t2 t3 t4 err p = V at *
  generalize elLo (t4 - t1) p = xl at *
  generalize elHi (t4 - t1) p = xh at *
  obtain ⟨lo, hlo⟩ : ∃ lo, t3 - err = lo := ⟨_, rfl⟩
  obtain ⟨hi, hhi⟩ : ∃ hi, t2 + err + xh = hi := ⟨_, rfl⟩
  replace wl := wl.trans hlo
  replace wh := wh.trans hhi
  rw [hlo] at HA4 HA20 HA0
  rw [hhi] at HA4 HA20 HA0
  have HLO := Lib.hid hlo; have HHI := Lib.hid hhi; clear hlo hhi
  go_enter Tryz.func15, Tryz.ntmps15
  go_wp2_with fail
  refine (RC.out _).mono ?_
  rintro e w1 ⟨rfl, hb1⟩
  have K1 : Below w.heap.size w w1 := kept_call hb1 (by (repeat' (first | (with_reducible exact Below.refl _ _) | (with_reducible refine Below.setCell ?_ ?_ _) | (with_reducible refine Below.alloc ?_ ?_ _) | (with_reducible refine Below.drew ?_) | (with_reducible refine below_drewN ?_ _))) <;> (first | omega | (simp <;> omega)))
  have Z1 : w.heap.size ≤ w1.heap.size := K1.size
  have b1_0 := Blk.keep (g := w.heap.size) hb1 (by (repeat' (first | ((with_reducible refine' Blk.newE ?_); first | rfl | (simp; done)) | (with_reducible refine' Blk.alloc ?_ _) | (with_reducible refine' Blk.drew ?_) | (with_reducible refine' Blk.drewN ?_ _) | (with_reducible refine' Blk.put ?_ ?_) | (with_reducible refine' Blk.far ?_ ?_ _) | exact rfl)) <;> (first | omega | (simp <;> omega)))
  (try simp only [List.setIfInBounds_toArray, List.set_cons_zero, List.set_cons_succ] at b1_0)
  have b1_1 := Blk.keep (g := w.heap.size + 1) hb1 (by (repeat' (first | ((with_reducible refine' Blk.newE ?_); first | rfl | (simp; done)) | (with_reducible refine' Blk.alloc ?_ _) | (with_reducible refine' Blk.drew ?_) | (with_reducible refine' Blk.drewN ?_ _) | (with_reducible refine' Blk.put ?_ ?_) | (with_reducible refine' Blk.far ?_ ?_ _) | exact rfl)) <;> (first | omega | (simp <;> omega)))
  (try simp only [List.setIfInBounds_toArray, List.set_cons_zero, List.set_cons_succ] at b1_1)
  clear hb1
  obtain ⟨c1_0, f1_0, l1_0, e1_0, k1_0⟩ := Blk.facts b1_0
  obtain ⟨c1_1, f1_1, l1_1, e1_1, k1_1⟩ := Blk.facts b1_1
  have o1_0 := l1_0
  have o1_1 := l1_1
  go_wp2_with fail
  refine (RE.out _).mono ?_
  rintro e w2 ⟨rfl, hb2⟩
  have K2 : Below w.heap.size w w2 := kept_call hb2 (by (repeat' (first | (with_reducible exact K1) | (with_reducible refine Below.setCell ?_ ?_ _) | (with_reducible refine Below.alloc ?_ ?_ _) | (with_reducible refine Below.drew ?_) | (with_reducible refine below_drewN ?_ _))) <;> (first | omega | (simp <;> omega)))
  have Z2 : w.heap.size ≤ w2.heap.size := K2.size
  have b1_0' := Blk.keep (g := w.heap.size) hb2 (by (repeat' (first | (with_reducible refine' Blk.alloc ?_ _) | (with_reducible refine' Blk.drew ?_) | (with_reducible refine' Blk.drewN ?_ _) | (with_reducible refine' Blk.put ?_ ?_) | (with_reducible refine' Blk.far ?_ ?_ _) | exact b1_0 | exact rfl)) <;> (first | omega | (simp <;> omega)))
  (try simp only [List.setIfInBounds_toArray, List.set_cons_zero, List.set_cons_succ] at b1_0')
  have b1_1' := Blk.keep (g := w.heap.size + 1) hb2 (by (repeat' (first | (with_reducible refine' Blk.alloc ?_ _) | (with_reducible refine' Blk.drew ?_) | (with_reducible refine' Blk.drewN ?_ _) | (with_reducible refine' Blk.put ?_ ?_) | (with_reducible refine' Blk.far ?_ ?_ _) | exact b1_1 | exact rfl)) <;> (first | omega | (simp <;> omega)))
  (try simp only [List.setIfInBounds_toArray, List.set_cons_zero, List.set_cons_succ] at b1_1')
  clear hb2 K1
  clear b1_0 c1_0 f1_0 l1_0 e1_0 k1_0; have b1_0 := b1_0'; clear b1_0'
  clear b1_1 c1_1 f1_1 l1_1 e1_1 k1_1; have b1_1 := b1_1'; clear b1_1'
  obtain ⟨c1_0, f1_0, l1_0, e1_0, k1_0⟩ := Blk.facts b1_0
  obtain ⟨c1_1, f1_1, l1_1, e1_1, k1_1⟩ := Blk.facts b1_1
  go_upto_region 7 with fail
  refine' wp_region_calm (by kernel_rfl) (fun _ _ w' => Below w.heap.size w w' ∧ Blk w' (w.heap.size) 37 #[.int .i64 t1, .int .i64 t2, .int .i64 t3, .int .i64 t4, .int .i64 err] ∧ Blk w' (w.heap.size + 1) 40 #[.int .i64 0, .int .i64 0] ∧ Blk w' (w2.heap.size) 40 #[.int .i64 xl, .int .i64 xh]) (fun _ _ => True) [(Is _), (Is _), (Is _), (Is _), (Is _), (Is _), (Is _), (Is _), (Is _), (Is _), (Is _), (Is _), (Is _), (Is _), (Is _)] [[], [0], [], [2], [1, 3], [], [5], [], [7], [6, 8], [], [10], [9, 11], [4], [12]] [] [] rfl (by kernel_rfl) (fun u => by (simp only [calmPut, Act.put, List.setIfInBounds_toArray, List.set_cons_zero, List.set_cons_succ, Nat.zero_add, Nat.reduceAdd]; rfl)) ?_ (calmKeep_cons keep_is' (calmKeep_cons keep_is' (calmKeep_cons keep_is' (calmKeep_cons keep_is' (calmKeep_cons keep_is' (calmKeep_cons keep_is' (calmKeep_cons keep_is' (calmKeep_cons keep_is' (calmKeep_cons keep_is' (calmKeep_cons keep_is' (calmKeep_cons keep_is' (calmKeep_cons keep_is' (calmKeep_cons keep_is' (calmKeep_cons keep_is' (calmKeep_cons keep_is' (calmKeep_nil)))))))))))))))) ?_ ?_
  · intro _
    exact ⟨(by (repeat' (first | (with_reducible exact K2) | (with_reducible refine Below.setCell ?_ ?_ _) | (with_reducible refine Below.alloc ?_ ?_ _) | (with_reducible refine Below.drew ?_) | (with_reducible refine below_drewN ?_ _))) <;> (first | omega | (simp <;> omega))), (by (repeat' (first | (with_reducible exact b1_0) | (with_reducible refine' Blk.alloc ?_ _) | (with_reducible refine' Blk.drew ?_) | (with_reducible refine' Blk.drewN ?_ _) | (with_reducible refine' Blk.put ?_ ?_) | (with_reducible refine' Blk.far ?_ ?_ _) | exact b1_0 | exact rfl)) <;> (first | omega | (simp <;> omega))), (by (repeat' (first | (with_reducible exact b1_1) | (with_reducible refine' Blk.alloc ?_ _) | (with_reducible refine' Blk.drew ?_) | (with_reducible refine' Blk.drewN ?_ _) | (with_reducible refine' Blk.put ?_ ?_) | (with_reducible refine' Blk.far ?_ ?_ _) | exact b1_1 | exact rfl)) <;> (first | omega | (simp <;> omega))), (by (repeat' (first | ((with_reducible refine' Blk.newE ?_); first | rfl | (simp; done)) | (with_reducible refine' Blk.alloc ?_ _) | (with_reducible refine' Blk.drew ?_) | (with_reducible refine' Blk.drewN ?_ _) | (with_reducible refine' Blk.put ?_ ?_) | (with_reducible refine' Blk.far ?_ ?_ _) | exact rfl)) <;> (first | omega | (simp <;> omega)))⟩
  rotate_left 15
  · skip
    refine calmSteps_cons (fun u wq n hn hn2 hC hk K hK => ?_) ?_
    · obtain ⟨hP, m1_0, m1_1, mx⟩ := hC
      clear hk
      go_simp
      exact hK _ _ _ rfl ⟨hP, m1_0, m1_1, mx⟩ trivial rfl
    refine calmSteps_cons (fun u wq n hn hn2 hC hk K hK => ?_) ?_
    · obtain ⟨hP, m1_0, m1_1, mx⟩ := hC
      simp only [calmKnown, List.getElem?_cons_zero, List.getElem?_cons_succ, and_true, Is, Pure, Option.some.injEq, List.getD_cons_zero, List.getD_cons_succ, List.map_cons, List.map_nil] at hk
      have h0 := hk; clear hk
      simp only [h0] at hK ⊢
      have H0 := Lib.hid h0; clear h0
      have z1_0 := m1_0.cell
      have z1_1 := m1_1.cell
      have zx := mx.cell
      go_simp
      exact hK _ _ _ rfl ⟨hP, m1_0, m1_1, mx⟩ trivial rfl
    refine calmSteps_cons (fun u wq n hn hn2 hC hk K hK => ?_) ?_
    · obtain ⟨hP, m1_0, m1_1, mx⟩ := hC
      clear hk
      go_simp
      exact hK _ _ _ rfl ⟨hP, m1_0, m1_1, mx⟩ trivial rfl
    refine calmSteps_cons (fun u wq n hn hn2 hC hk K hK => ?_) ?_
    · obtain ⟨hP, m1_0, m1_1, mx⟩ := hC
      simp only [calmKnown, List.getElem?_cons_zero, List.getElem?_cons_succ, and_true, Is, Pure, Option.some.injEq, List.getD_cons_zero, List.getD_cons_succ, List.map_cons, List.map_nil] at hk
      have h2 := hk; clear hk
      simp only [h2] at hK ⊢
      have H2 := Lib.hid h2; clear h2
      have z1_0 := m1_0.cell
      have z1_1 := m1_1.cell
      have zx := mx.cell
      go_simp
      exact hK _ _ _ rfl ⟨hP, m1_0, m1_1, mx⟩ trivial rfl
    refine calmSteps_cons (fun u wq n hn hn2 hC hk K hK => ?_) ?_
    · obtain ⟨hP, m1_0, m1_1, mx⟩ := hC
      simp only [calmKnown, List.getElem?_cons_zero, List.getElem?_cons_succ, and_true, Is, Pure, Option.some.injEq, List.getD_cons_zero, List.getD_cons_succ, List.map_cons, List.map_nil] at hk
      obtain ⟨h1, h3⟩ := hk
      simp only [h1, h3] at hK ⊢
      have H1 := Lib.hid h1; clear h1; have H3 := Lib.hid h3; clear h3
      go_simp
      exact hK _ _ _ rfl ⟨hP, m1_0, m1_1, mx⟩ trivial rfl
    refine calmSteps_cons (fun u wq n hn hn2 hC hk K hK => ?_) ?_
    · obtain ⟨hP, m1_0, m1_1, mx⟩ := hC
      clear hk
      go_simp
      exact hK _ _ _ rfl ⟨hP, m1_0, m1_1, mx⟩ trivial rfl
    refine calmSteps_cons (fun u wq n hn hn2 hC hk K hK => ?_) ?_
    · obtain ⟨hP, m1_0, m1_1, mx⟩ := hC
      simp only [calmKnown, List.getElem?_cons_zero, List.getElem?_cons_succ, and_true, Is, Pure, Option.some.injEq, List.getD_cons_zero, List.getD_cons_succ, List.map_cons, List.map_nil] at hk
      have h5 := hk; clear hk
      simp only [h5] at hK ⊢
      have H5 := Lib.hid h5; clear h5
      have z1_0 := m1_0.cell
      have z1_1 := m1_1.cell
      have zx := mx.cell
      go_simp
      exact hK _ _ _ rfl ⟨hP, m1_0, m1_1, mx⟩ trivial rfl
    refine calmSteps_cons (fun u wq n hn hn2 hC hk K hK => ?_) ?_
    · obtain ⟨hP, m1_0, m1_1, mx⟩ := hC
      clear hk
      go_simp
      exact hK _ _ _ rfl ⟨hP, m1_0, m1_1, mx⟩ trivial rfl
    refine calmSteps_cons (fun u wq n hn hn2 hC hk K hK => ?_) ?_
    · obtain ⟨hP, m1_0, m1_1, mx⟩ := hC
      simp only [calmKnown, List.getElem?_cons_zero, List.getElem?_cons_succ, and_true, Is, Pure, Option.some.injEq, List.getD_cons_zero, List.getD_cons_succ, List.map_cons, List.map_nil] at hk
      have h7 := hk; clear hk
      simp only [h7] at hK ⊢
      have H7 := Lib.hid h7; clear h7
      have z1_0 := m1_0.cell
      have z1_1 := m1_1.cell
      have zx := mx.cell
      go_simp
      exact hK _ _ _ rfl ⟨hP, m1_0, m1_1, mx⟩ trivial rfl
    refine calmSteps_cons (fun u wq n hn hn2 hC hk K hK => ?_) ?_
    · obtain ⟨hP, m1_0, m1_1, mx⟩ := hC
      simp only [calmKnown, List.getElem?_cons_zero, List.getElem?_cons_succ, and_true, Is, Pure, Option.some.injEq, List.getD_cons_zero, List.getD_cons_succ, List.map_cons, List.map_nil] at hk
      obtain ⟨h6, h8⟩ := hk
      simp only [h6, h8] at hK ⊢
      have H6 := Lib.hid h6; clear h6; have H8 := Lib.hid h8; clear h8
      go_simp
      exact hK _ _ _ rfl ⟨hP, m1_0, m1_1, mx⟩ trivial rfl
    refine calmSteps_cons (fun u wq n hn hn2 hC hk K hK => ?_) ?_
    · obtain ⟨hP, m1_0, m1_1, mx⟩ := hC
      clear hk
      go_simp
      exact hK _ _ _ rfl ⟨hP, m1_0, m1_1, mx⟩ trivial rfl
    refine calmSteps_cons (fun u wq n hn hn2 hC hk K hK => ?_) ?_
    · obtain ⟨hP, m1_0, m1_1, mx⟩ := hC
      simp only [calmKnown, List.getElem?_cons_zero, List.getElem?_cons_succ, and_true, Is, Pure, Option.some.injEq, List.getD_cons_zero, List.getD_cons_succ, List.map_cons, List.map_nil] at hk
      have h10 := hk; clear hk
      simp only [h10] at hK ⊢
      have H10 := Lib.hid h10; clear h10
      have z1_0 := m1_0.cell
      have z1_1 := m1_1.cell
      have zx := mx.cell
      go_simp
      exact hK _ _ _ rfl ⟨hP, m1_0, m1_1, mx⟩ trivial rfl
    refine calmSteps_cons (fun u wq n hn hn2 hC hk K hK => ?_) ?_
    · obtain ⟨hP, m1_0, m1_1, mx⟩ := hC
      simp only [calmKnown, List.getElem?_cons_zero, List.getElem?_cons_succ, and_true, Is, Pure, Option.some.injEq, List.getD_cons_zero, List.getD_cons_succ, List.map_cons, List.map_nil] at hk
      obtain ⟨h9, h11⟩ := hk
      simp only [h9, h11] at hK ⊢
      have H9 := Lib.hid h9; clear h9; have H11 := Lib.hid h11; clear h11
      go_simp
      exact hK _ _ _ rfl ⟨hP, m1_0, m1_1, mx⟩ trivial rfl
    refine calmSteps_cons (fun u wq n hn hn2 hC hk K hK => ?_) ?_
    · obtain ⟨hP, m1_0, m1_1, mx⟩ := hC
      simp only [calmKnown, List.getElem?_cons_zero, List.getElem?_cons_succ, and_true, Is, Pure, Option.some.injEq, List.getD_cons_zero, List.getD_cons_succ, List.map_cons, List.map_nil] at hk
      have h4 := hk; clear hk
      simp only [h4] at hK ⊢
      have H4 := Lib.hid h4; clear h4
      go_simp
      exact hK _ _ _ rfl ⟨hP, m1_0, m1_1, mx⟩ trivial rfl
    refine calmSteps_cons (fun u wq n hn hn2 hC hk K hK => ?_) ?_
    · obtain ⟨hP, m1_0, m1_1, mx⟩ := hC
      simp only [calmKnown, List.getElem?_cons_zero, List.getElem?_cons_succ, and_true, Is, Pure, Option.some.injEq, List.getD_cons_zero, List.getD_cons_succ, List.map_cons, List.map_nil] at hk
      have h12 := hk; clear hk
      simp only [h12] at hK ⊢
      have H12 := Lib.hid h12; clear h12
      go_simp
      exact hK _ _ _ rfl ⟨hP, m1_0, m1_1, mx⟩ trivial rfl
    exact calmSteps_nil
  · intro u w3 hC hF
    obtain ⟨hP, m1_0, m1_1, mx⟩ := hC
    simp only [calmFacts, Is, and_true] at hF
    obtain ⟨f0, f1, f2, f3, f4, f5, f6, f7, f8, f9, f10, f11, f12, f13, f14⟩ := hF
    simp only [f0, f1, f2, f3, f4, f5, f6, f7, f8, f9, f10, f11, f12, f13, f14]
    clear f0 f1 f2 f3 f4 f5 f6 f7 f8 f9 f10 f11 f12 f13 f14
    have K3 := hP
    have Z3 : w.heap.size ≤ w3.heap.size := K3.size
    clear hP K2
    clear b1_0 c1_0 f1_0 l1_0 e1_0 k1_0; have b1_0 := m1_0; clear m1_0
    obtain ⟨c1_0, f1_0, l1_0, e1_0, k1_0⟩ := Blk.facts b1_0
    clear b1_1 c1_1 f1_1 l1_1 e1_1 k1_1; have b1_1 := m1_1; clear m1_1
    obtain ⟨c1_1, f1_1, l1_1, e1_1, k1_1⟩ := Blk.facts b1_1
    have bx := mx; clear mx
    obtain ⟨cx, fx, lx, ex, kx⟩ := Blk.facts bx
    try simp only [wl, wm, wh]
    rcases l0 : vT lo
    · skip
      go_wp2_with fail
      refine (rvalid_any _ _).mono ?_
      rintro e wq1 ⟨rfl, rfl⟩
      rw [l0]
      go_wp2
      exact bodyPost_ret (v := .tuple #[.agg #[.int .i64 0, .int .i64 0], .int .i64 4]) (by simp [results, Tryz.results15, go_sem, *]) rfl ⟨by rw [HA4.out (.inl l0)], (by (repeat' (first | (with_reducible exact K3) | (with_reducible refine Below.setCell ?_ ?_ _) | (with_reducible refine Below.alloc ?_ ?_ _) | (with_reducible refine Below.drew ?_) | (with_reducible refine below_drewN ?_ _))) <;> (first | omega | (simp <;> omega)))⟩
    rcases h0 : vT hi
    · skip
      go_wp2_with fail
      refine (rvalid_any _ _).mono ?_
      rintro e wq2 ⟨rfl, rfl⟩
      rw [l0]
      go_wp2_with fail
      refine (rvalid_any _ _).mono ?_
      rintro e wq3 ⟨rfl, rfl⟩
      rw [h0]
      go_wp2
      exact bodyPost_ret (v := .tuple #[.agg #[.int .i64 0, .int .i64 0], .int .i64 4]) (by simp [results, Tryz.results15, go_sem, *]) rfl ⟨by rw [HA4.out (.inr h0)], (by (repeat' (first | (with_reducible exact K3) | (with_reducible refine Below.setCell ?_ ?_ _) | (with_reducible refine Below.alloc ?_ ?_ _) | (with_reducible refine Below.drew ?_) | (with_reducible refine below_drewN ?_ _))) <;> (first | omega | (simp <;> omega)))⟩
    by_cases c0 : hi < lo
    · have c1 : decide (hi < lo) = true := decide_eq_true c0
      go_wp2_with fail
      refine (rvalid_any _ _).mono ?_
      rintro e wq4 ⟨rfl, rfl⟩
      rw [l0]
      go_wp2_with fail
      refine (rvalid_any _ _).mono ?_
      rintro e wq5 ⟨rfl, rfl⟩
      rw [h0]
      go_wp2
      exact bodyPost_ret (v := .tuple #[.agg #[.int .i64 0, .int .i64 0], .int .i64 20]) (by simp [results, Tryz.results15, go_sem, *]) rfl ⟨by rw [HA20.out l0 h0 c0], (by (repeat' (first | (with_reducible exact K3) | (with_reducible refine Below.setCell ?_ ?_ _) | (with_reducible refine Below.alloc ?_ ?_ _) | (with_reducible refine Below.drew ?_) | (with_reducible refine below_drewN ?_ _))) <;> (first | omega | (simp <;> omega)))⟩
    have c1 : decide (hi < lo) = false := decide_eq_false c0
    go_wp2_with fail
    refine (rvalid_any _ _).mono ?_
    rintro e wq6 ⟨rfl, rfl⟩
    rw [l0]
    go_wp2_with fail
    refine (rvalid_any _ _).mono ?_
    rintro e wq7 ⟨rfl, rfl⟩
    rw [h0]
    go_wp2
    exact bodyPost_ret (v := .tuple #[.agg #[.int .i64 lo, .int .i64 hi], .int .i64 0]) (by simp [results, Tryz.results15, go_sem, *]) rfl ⟨by rw [HA0.out l0 h0 c0], (by (repeat' (first | (with_reducible exact K3) | (with_reducible refine Below.setCell ?_ ?_ _) | (with_reducible refine Below.alloc ?_ ?_ _) | (with_reducible refine Below.drew ?_) | (with_reducible refine below_drewN ?_ _))) <;> (first | omega | (simp <;> omega)))⟩
end Go.Proofs.YtiinmhfolfgobaaGreatDoor
