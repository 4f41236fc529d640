/- Texts joined: R11, I11 -/
import Derived.Test.YtiinmhfolfgobaaGreatDoorJ6
import Derived.Test.YtiinmhfolfgobaaGreatDoorJ10
namespace Go.Proofs.YtiinmhfolfgobaaGreatDoor
open Go.RowKit

/-- A span that was made, or ErrRange. -/
def mkS (lo hi : Int) : Value := if vS lo hi then .tuple #[.agg #[.int .i64 lo, .int .i64 hi], .int .i64 0] else .tuple #[.agg #[.int .i64 0, .int .i64 0], .int .i64 4]
theorem mkS_ok {lo hi : Int} (h : vS lo hi = true) : mkS lo hi = .tuple #[.agg #[.int .i64 lo, .int .i64 hi], .int .i64 0] := by unfold mkS; rw [if_pos h]
theorem mkS_no {lo hi : Int} (h : vS lo hi = false) : mkS lo hi = .tuple #[.agg #[.int .i64 0, .int .i64 0], .int .i64 4] := by unfold mkS; rw [if_neg (by rw [h]; simp)]
theorem mkS_form (lo hi : Int) : ∃ x y e, mkS lo hi = .tuple #[.agg #[.int .i64 x, .int .i64 y], .int .i64 e] := by
  unfold mkS; split <;> exact ⟨_, _, _, rfl⟩

/-- A span holds an instant; a span lies inside of another; what two spans have in common. -/
def hdB (lo hi t : Int) : Bool := vS lo hi && (decide (lo ≤ t) && decide (t ≤ hi))
def mtB (a b c d : Int) : Bool := vS a b && (vS c d && decide (max a c ≤ min b d))
def mtLo (a b c d : Int) : Int := if mtB a b c d then max a c else 0
def mtHi (a b c d : Int) : Int := if mtB a b c d then min b d else 0
theorem mtLo_yes {a b c d : Int} (h : mtB a b c d = true) : mtLo a b c d = max a c := by unfold mtLo; rw [if_pos h]
theorem mtHi_yes {a b c d : Int} (h : mtB a b c d = true) : mtHi a b c d = min b d := by unfold mtHi; rw [if_pos h]
theorem mtLo_no {a b c d : Int} (h : mtB a b c d = false) : mtLo a b c d = 0 := by unfold mtLo; rw [if_neg (by rw [h]; simp)]
theorem mtHi_no {a b c d : Int} (h : mtB a b c d = false) : mtHi a b c d = 0 := by unfold mtHi; rw [if_neg (by rw [h]; simp)]
/-- A sum or a shift of valid spans, or ErrForm, or ErrRange. -/
def opV (ok in_ : Bool) (lo hi : Int) : Value := if ok then (if in_ then mkS lo hi else .tuple #[.agg #[.int .i64 0, .int .i64 0], .int .i64 4]) else .tuple #[.agg #[.int .i64 0, .int .i64 0], .int .i64 3]
theorem opV_3 {in_ : Bool} {lo hi : Int} : opV false in_ lo hi = .tuple #[.agg #[.int .i64 0, .int .i64 0], .int .i64 3] := rfl
theorem opV_4 {lo hi : Int} : opV true false lo hi = .tuple #[.agg #[.int .i64 0, .int .i64 0], .int .i64 4] := rfl
theorem opV_ok {lo hi : Int} : opV true true lo hi = mkS lo hi := rfl
theorem opV_form (ok in_ : Bool) (lo hi : Int) : ∃ x y e, opV ok in_ lo hi = .tuple #[.agg #[.int .i64 x, .int .i64 y], .int .i64 e] := by
  cases ok
  · exact ⟨_, _, _, rfl⟩
  · cases in_
    · exact ⟨_, _, _, rfl⟩
    · exact mkS_form lo hi
set_option maxHeartbeats 1000000 in
theorem rmade_all (lo hi : Int) (w : World) :
    Calls Tryz.prog 103 #[.int .i64 lo, .int .i64 hi] w (RB w (mkS lo hi)) := by
  rcases hv : vS lo hi
  · rw [mkS_no hv]
    go_enter Tryz.func103, Tryz.ntmps103
    go_wp2_with fail
    refine (rsvalid_any _ _ _).mono ?_
    rintro e wq1 ⟨rfl, rfl⟩
    rw [hv]
    go_wp2
    exact bodyPost_ret (v := .tuple #[.agg #[.int .i64 0, .int .i64 0], .int .i64 4]) (by simp [results, Tryz.results103, go_sem, *]) rfl ⟨rfl, by (repeat' (first | (with_reducible exact Below.refl _ _) | (with_reducible refine Below.setCell ?_ ?_ _) | (with_reducible refine Below.alloc ?_ ?_ _) | (with_reducible refine Below.drew ?_) | (with_reducible refine below_drewN ?_ _))) <;> (first | omega | (simp <;> omega))⟩
  · rw [mkS_ok hv]
    go_enter Tryz.func103, Tryz.ntmps103
    go_wp2_with fail
    refine (rsvalid_any _ _ _).mono ?_
    rintro e wq2 ⟨rfl, rfl⟩
    rw [hv]
    go_wp2
    exact bodyPost_ret (v := .tuple #[.agg #[.int .i64 lo, .int .i64 hi], .int .i64 0]) (by simp [results, Tryz.results103, go_sem, *]) rfl ⟨rfl, by (repeat' (first | (with_reducible exact Below.refl _ _) | (with_reducible refine Below.setCell ?_ ?_ _) | (with_reducible refine Below.alloc ?_ ?_ _) | (with_reducible refine Below.drew ?_) | (with_reducible refine below_drewN ?_ _))) <;> (first | omega | (simp <;> omega))⟩
set_option maxHeartbeats 2000000 in
theorem radd_all (a b c d : Int) (w : World) :
    Calls Tryz.prog 67 #[.agg #[.int .i64 a, .int .i64 b], .agg #[.int .i64 c, .int .i64 d]] w (RB w (opV (vS a b && vS c d) true (a + c) (b + d))) := by
  rcases h : vS a b
  · rw [show (false && vS c d) = false from rfl, opV_3]
    go_enter Tryz.func67, Tryz.ntmps67
    go_wp2_with fail
    refine (rsvalid_any _ _ _).mono ?_
    rintro e wq1 ⟨rfl, rfl⟩
    rw [h]
    go_wp2
    exact bodyPost_ret (v := .tuple #[.agg #[.int .i64 0, .int .i64 0], .int .i64 3]) (by simp [results, Tryz.results67, go_sem, *]) rfl ⟨rfl, by (repeat' (first | (with_reducible exact Below.refl _ _) | (with_reducible refine Below.setCell ?_ ?_ _) | (with_reducible refine Below.alloc ?_ ?_ _) | (with_reducible refine Below.drew ?_) | (with_reducible refine below_drewN ?_ _))) <;> (first | omega | (simp <;> omega))⟩
  rcases h' : vS c d
  · rw [show (true && false) = false from rfl, opV_3]
    go_enter Tryz.func67, Tryz.ntmps67
    go_wp2_with fail
    refine (rsvalid_any _ _ _).mono ?_
    rintro e wq2 ⟨rfl, rfl⟩
    rw [h]
    go_wp2_with fail
    refine (rsvalid_any _ _ _).mono ?_
    rintro e wq3 ⟨rfl, rfl⟩
    rw [h']
    go_wp2
    exact bodyPost_ret (v := .tuple #[.agg #[.int .i64 0, .int .i64 0], .int .i64 3]) (by simp [results, Tryz.results67, go_sem, *]) rfl ⟨rfl, by (repeat' (first | (with_reducible exact Below.refl _ _) | (with_reducible refine Below.setCell ?_ ?_ _) | (with_reducible refine Below.alloc ?_ ?_ _) | (with_reducible refine Below.drew ?_) | (with_reducible refine below_drewN ?_ _))) <;> (first | omega | (simp <;> omega))⟩
  · rw [show (true && true) = true from rfl, opV_ok]
    obtain ⟨x1, x2, x3⟩ := vS_true.1 h
    obtain ⟨y1, y2, y3⟩ := vS_true.1 h'
    obtain ⟨x, y, e, hv⟩ := mkS_form (a + c) (b + d)
    have Q := Lib.hid (rmade_all (a + c) (b + d))
    rw [hv] at Q ⊢
    clear hv
    have H1 := Lib.hid h; clear h
    have H2 := Lib.hid h'; clear h'
    go_enter Tryz.func67, Tryz.ntmps67
    go_wp2_with fail
    refine (rsvalid_any _ _ _).mono ?_
    rintro e wq1 ⟨rfl, rfl⟩
    rw [H1.out]
    go_wp2_with fail
    refine (rsvalid_any _ _ _).mono ?_
    rintro e wq2 ⟨rfl, rfl⟩
    rw [H2.out]
    go_wp2_with fail
    refine (Q.out _).mono ?_
    rintro e w1 ⟨rfl, hb1⟩
    have K1 : Below w.heap.size w w1 := kept_call hb1 (by (repeat' (first | (with_reducible exact Below.refl _ _) | (with_reducible refine Below.setCell ?_ ?_ _) | (with_reducible refine Below.alloc ?_ ?_ _) | (with_reducible refine Below.drew ?_) | (with_reducible refine below_drewN ?_ _))) <;> (first | omega | (simp <;> omega)))
    have Z1 : w.heap.size ≤ w1.heap.size := K1.size
    have b1_2 := Blk.keep (g := w.heap.size + 2) hb1 (by (repeat' (first | ((with_reducible refine' Blk.newE ?_); first | rfl | (simp; done)) | (with_reducible refine' Blk.alloc ?_ _) | (with_reducible refine' Blk.drew ?_) | (with_reducible refine' Blk.drewN ?_ _) | (with_reducible refine' Blk.put ?_ ?_) | (with_reducible refine' Blk.far ?_ ?_ _) | exact rfl)) <;> (first | omega | (simp <;> omega)))
    (try simp only [List.setIfInBounds_toArray, List.set_cons_zero, List.set_cons_succ] at b1_2)
    clear hb1
    obtain ⟨c1_2, f1_2, l1_2, e1_2, k1_2⟩ := Blk.facts b1_2
    go_wp2
    exact bodyPost_ret (v := .tuple #[.agg #[.int .i64 x, .int .i64 y], .int .i64 e]) (by simp [results, Tryz.results67, go_sem, *]) rfl ⟨rfl, by (repeat' (first | (with_reducible exact K1) | (with_reducible refine Below.setCell ?_ ?_ _) | (with_reducible refine Below.alloc ?_ ?_ _) | (with_reducible refine Below.drew ?_) | (with_reducible refine below_drewN ?_ _))) <;> (first | omega | (simp <;> omega))⟩
end Go.Proofs.YtiinmhfolfgobaaGreatDoor
namespace Go.Proofs.YtiinmhfolfgobaaGreatDoor
open Go.RowKit

set_option maxHeartbeats 1000000 in
theorem iholds_all (lo hi t : Int) (w : World) :
    Calls Tryz.prog 25 #[.agg #[.int .i64 lo, .int .i64 hi], .int .i64 t] w (RB w (.bool (hdB lo hi t))) := by
  rcases h : vS lo hi
  · rw [show hdB lo hi t = false by simp [hdB, h]]
    go_enter Tryz.func25, Tryz.ntmps25
    go_wp2_with fail
    refine (svalid_any _ _ _).mono ?_
    rintro e wq1 ⟨rfl, rfl⟩
    rw [h]
    go_wp2
    go_ret
    exact ⟨rfl, by (repeat' (first | (with_reducible exact Below.refl _ _) | (with_reducible refine Below.setCell ?_ ?_ _) | (with_reducible refine Below.alloc ?_ ?_ _) | (with_reducible refine Below.drew ?_) | (with_reducible refine below_drewN ?_ _))) <;> (first | omega | (simp <;> omega))⟩
  · by_cases h1 : lo ≤ t
    · by_cases h2 : t ≤ hi
      · rw [show hdB lo hi t = true by simp [hdB, h, h1, h2]]
        go_enter Tryz.func25, Tryz.ntmps25
        go_wp2_with fail
        refine (svalid_any _ _ _).mono ?_
        rintro e wq2 ⟨rfl, rfl⟩
        rw [h]
        go_wp2
        go_ret
        exact ⟨rfl, by (repeat' (first | (with_reducible exact Below.refl _ _) | (with_reducible refine Below.setCell ?_ ?_ _) | (with_reducible refine Below.alloc ?_ ?_ _) | (with_reducible refine Below.drew ?_) | (with_reducible refine below_drewN ?_ _))) <;> (first | omega | (simp <;> omega))⟩
      · rw [show hdB lo hi t = false by simp [hdB, h, h1, h2]]
        have q2 : decide (t ≤ hi) = false := by simpa using h2
        go_enter Tryz.func25, Tryz.ntmps25
        go_wp2_with fail
        refine (svalid_any _ _ _).mono ?_
        rintro e wq3 ⟨rfl, rfl⟩
        rw [h]
        go_wp2
        go_ret
        exact ⟨rfl, by (repeat' (first | (with_reducible exact Below.refl _ _) | (with_reducible refine Below.setCell ?_ ?_ _) | (with_reducible refine Below.alloc ?_ ?_ _) | (with_reducible refine Below.drew ?_) | (with_reducible refine below_drewN ?_ _))) <;> (first | omega | (simp <;> omega))⟩
    · rw [show hdB lo hi t = false by simp [hdB, h, h1]]
      go_enter Tryz.func25, Tryz.ntmps25
      go_wp2_with fail
      refine (svalid_any _ _ _).mono ?_
      rintro e wq4 ⟨rfl, rfl⟩
      rw [h]
      go_wp2
      go_ret
      exact ⟨rfl, by (repeat' (first | (with_reducible exact Below.refl _ _) | (with_reducible refine Below.setCell ?_ ?_ _) | (with_reducible refine Below.alloc ?_ ?_ _) | (with_reducible refine Below.drew ?_) | (with_reducible refine below_drewN ?_ _))) <;> (first | omega | (simp <;> omega))⟩
set_option maxHeartbeats 2000000 in
theorem imeet_all (a b c d : Int) (w : World) :
    Calls Tryz.prog 51 #[.agg #[.int .i64 a, .int .i64 b], .agg #[.int .i64 c, .int .i64 d]] w (RB w (.tuple #[.agg #[.int .i64 (mtLo a b c d), .int .i64 (mtHi a b c d)], .bool (mtB a b c d)])) := by
  rcases h : vS a b
  · have hm : mtB a b c d = false := by simp [mtB, h]
    rw [mtLo_no hm, mtHi_no hm, hm]
    go_enter Tryz.func51, Tryz.ntmps51
    go_wp2_with fail
    refine (svalid_any _ _ _).mono ?_
    rintro e wq1 ⟨rfl, rfl⟩
    rw [h]
    go_wp2
    exact bodyPost_ret (v := .tuple #[.agg #[.int .i64 0, .int .i64 0], .bool false]) (by simp [results, Tryz.results51, go_sem, *]) rfl ⟨rfl, by (repeat' (first | (with_reducible exact Below.refl _ _) | (with_reducible refine Below.setCell ?_ ?_ _) | (with_reducible refine Below.alloc ?_ ?_ _) | (with_reducible refine Below.drew ?_) | (with_reducible refine below_drewN ?_ _))) <;> (first | omega | (simp <;> omega))⟩
  rcases h' : vS c d
  · have hm : mtB a b c d = false := by simp [mtB, h']
    rw [mtLo_no hm, mtHi_no hm, hm]
    go_enter Tryz.func51, Tryz.ntmps51
    go_wp2_with fail
    refine (svalid_any _ _ _).mono ?_
    rintro e wq2 ⟨rfl, rfl⟩
    rw [h]
    go_wp2_with fail
    refine (svalid_any _ _ _).mono ?_
    rintro e wq3 ⟨rfl, rfl⟩
    rw [h']
    go_wp2
    exact bodyPost_ret (v := .tuple #[.agg #[.int .i64 0, .int .i64 0], .bool false]) (by simp [results, Tryz.results51, go_sem, *]) rfl ⟨rfl, by (repeat' (first | (with_reducible exact Below.refl _ _) | (with_reducible refine Below.setCell ?_ ?_ _) | (with_reducible refine Below.alloc ?_ ?_ _) | (with_reducible refine Below.drew ?_) | (with_reducible refine below_drewN ?_ _))) <;> (first | omega | (simp <;> omega))⟩
  have hv1 := vS_true.1 h; have hv2 := vS_true.1 h'
  have hmx : vS (max a c) (min b d) = decide (max a c ≤ min b d) := by
    rw [Bool.eq_iff_iff, vS_true, decide_eq_true_eq]; omega
  rcases hm : mtB a b c d
  · have h2 : vS (max a c) (min b d) = false := by rw [hmx]; simpa [mtB, h, h'] using hm
    rw [mtLo_no hm, mtHi_no hm]
    have H := Lib.hid h; have H' := Lib.hid h'; have H2 := Lib.hid h2; clear h h' h2 hm hmx hv1 hv2
    go_enter Tryz.func51, Tryz.ntmps51
    go_wp2_with fail
    refine (svalid_any _ _ _).mono ?_
    rintro e wq1 ⟨rfl, rfl⟩
    rw [H.out]
    go_wp2_with fail
    refine (svalid_any _ _ _).mono ?_
    rintro e wq2 ⟨rfl, rfl⟩
    rw [H'.out]
    go_wp2_with fail
    refine (svalid_any _ _ _).mono ?_
    rintro e wq3 ⟨rfl, rfl⟩
    rw [H2.out]
    go_wp2
    exact bodyPost_ret (v := .tuple #[.agg #[.int .i64 0, .int .i64 0], .bool false]) (by simp [results, Tryz.results51, go_sem, *]) rfl ⟨rfl, by (repeat' (first | (with_reducible exact Below.refl _ _) | (with_reducible refine Below.setCell ?_ ?_ _) | (with_reducible refine Below.alloc ?_ ?_ _) | (with_reducible refine Below.drew ?_) | (with_reducible refine below_drewN ?_ _))) <;> (first | omega | (simp <;> omega))⟩
  · have h2 : vS (max a c) (min b d) = true := by rw [hmx]; simpa [mtB, h, h'] using hm
    rw [mtLo_yes hm, mtHi_yes hm]
    have H := Lib.hid h; have H' := Lib.hid h'; have H2 := Lib.hid h2; clear h h' h2 hm hmx hv1 hv2
    go_enter Tryz.func51, Tryz.ntmps51
    go_wp2_with fail
    refine (svalid_any _ _ _).mono ?_
    rintro e wq1 ⟨rfl, rfl⟩
    rw [H.out]
    go_wp2_with fail
    refine (svalid_any _ _ _).mono ?_
    rintro e wq2 ⟨rfl, rfl⟩
    rw [H'.out]
    go_wp2_with fail
    refine (svalid_any _ _ _).mono ?_
    rintro e wq3 ⟨rfl, rfl⟩
    rw [H2.out]
    go_wp2
    exact bodyPost_ret (v := .tuple #[.agg #[.int .i64 (max a c), .int .i64 (min b d)], .bool true]) (by simp [results, Tryz.results51, go_sem, *]) rfl ⟨rfl, by (repeat' (first | (with_reducible exact Below.refl _ _) | (with_reducible refine Below.setCell ?_ ?_ _) | (with_reducible refine Below.alloc ?_ ?_ _) | (with_reducible refine Below.drew ?_) | (with_reducible refine below_drewN ?_ _))) <;> (first | omega | (simp <;> omega))⟩
end Go.Proofs.YtiinmhfolfgobaaGreatDoor
