/- Contracts of the program's spans (interval), for every input: Holds, Inside, Middle, Meet. -/
import Derived.Test.YtlfkkfdolnkjfaaR11
namespace Go.Proofs.Ytlfkkfdolnkjfaa
open Go.RowKit

set_option maxHeartbeats 1000000 in
theorem iholds_all (lo hi t : Int) (w : World) :
    Calls Try.prog 77 #[.agg #[.int .i64 lo, .int .i64 hi], .int .i64 t] w (RB w (.bool (hdB lo hi t))) := by
  rcases h : vS lo hi
  · rw [show hdB lo hi t = false by simp [hdB, h]]
    go_enter Try.func77, Try.ntmps77
    go_wp2_with fail
    refine (svalid_any _ _ _).mono ?_
    rintro e wq1 ⟨rfl, rfl⟩
    rw [h]
    go_wp2
    go_ret
    exact ⟨rfl, by (repeat' (first | (with_reducible exact Below.refl _ _) | (with_reducible refine Below.setCell ?_ ?_ _) | (with_reducible refine Below.alloc ?_ ?_ _) | (with_reducible refine Below.drew ?_) | (with_reducible refine below_drewN ?_ _))) <;> (first | omega | (simp <;> omega))⟩
  · by_cases h1 : lo ≤ t
    · by_cases h2 : t ≤ hi
      · rw [show hdB lo hi t = true by simp [hdB, h, h1, h2]]
        go_enter Try.func77, Try.ntmps77
        go_wp2_with fail
        refine (svalid_any _ _ _).mono ?_
        rintro e wq2 ⟨rfl, rfl⟩
        rw [h]
        go_wp2
        go_ret
        exact ⟨rfl, by (repeat' (first | (with_reducible exact Below.refl _ _) | (with_reducible refine Below.setCell ?_ ?_ _) | (with_reducible refine Below.alloc ?_ ?_ _) | (with_reducible refine Below.drew ?_) | (with_reducible refine below_drewN ?_ _))) <;> (first | omega | (simp <;> omega))⟩
      · rw [show hdB lo hi t = false by simp [hdB, h, h1, h2]]
        have q2 : decide (t ≤ hi) = false := by simpa using h2
        go_enter Try.func77, Try.ntmps77
        go_wp2_with fail
        refine (svalid_any _ _ _).mono ?_
        rintro e wq3 ⟨rfl, rfl⟩
        rw [h]
        go_wp2
        go_ret
        exact ⟨rfl, by (repeat' (first | (with_reducible exact Below.refl _ _) | (with_reducible refine Below.setCell ?_ ?_ _) | (with_reducible refine Below.alloc ?_ ?_ _) | (with_reducible refine Below.drew ?_) | (with_reducible refine below_drewN ?_ _))) <;> (first | omega | (simp <;> omega))⟩
    · rw [show hdB lo hi t = false by simp [hdB, h, h1]]
      go_enter Try.func77, Try.ntmps77
      go_wp2_with fail
      refine (svalid_any _ _ _).mono ?_
      rintro e wq4 ⟨rfl, rfl⟩
      rw [h]
      go_wp2
      go_ret
      exact ⟨rfl, by (repeat' (first | (with_reducible exact Below.refl _ _) | (with_reducible refine Below.setCell ?_ ?_ _) | (with_reducible refine Below.alloc ?_ ?_ _) | (with_reducible refine Below.drew ?_) | (with_reducible refine below_drewN ?_ _))) <;> (first | omega | (simp <;> omega))⟩
set_option maxHeartbeats 2000000 in
theorem imeet_all (a b c d : Int) (w : World) :
    Calls Try.prog 64 #[.agg #[.int .i64 a, .int .i64 b], .agg #[.int .i64 c, .int .i64 d]] w (RB w (.tuple #[.agg #[.int .i64 (mtLo a b c d), .int .i64 (mtHi a b c d)], .bool (mtB a b c d)])) := by
  rcases h : vS a b
  · have hm : mtB a b c d = false := by simp [mtB, h]
    rw [mtLo_no hm, mtHi_no hm, hm]
    go_enter Try.func64, Try.ntmps64
    go_wp2_with fail
    refine (svalid_any _ _ _).mono ?_
    rintro e wq1 ⟨rfl, rfl⟩
    rw [h]
    go_wp2
    exact bodyPost_ret (v := .tuple #[.agg #[.int .i64 0, .int .i64 0], .bool false]) (by simp [results, Try.results64, go_sem, *]) rfl ⟨rfl, by (repeat' (first | (with_reducible exact Below.refl _ _) | (with_reducible refine Below.setCell ?_ ?_ _) | (with_reducible refine Below.alloc ?_ ?_ _) | (with_reducible refine Below.drew ?_) | (with_reducible refine below_drewN ?_ _))) <;> (first | omega | (simp <;> omega))⟩
  rcases h' : vS c d
  · have hm : mtB a b c d = false := by simp [mtB, h']
    rw [mtLo_no hm, mtHi_no hm, hm]
    go_enter Try.func64, Try.ntmps64
    go_wp2_with fail
    refine (svalid_any _ _ _).mono ?_
    rintro e wq2 ⟨rfl, rfl⟩
    rw [h]
    go_wp2_with fail
    refine (svalid_any _ _ _).mono ?_
    rintro e wq3 ⟨rfl, rfl⟩
    rw [h']
    go_wp2
    exact bodyPost_ret (v := .tuple #[.agg #[.int .i64 0, .int .i64 0], .bool false]) (by simp [results, Try.results64, go_sem, *]) rfl ⟨rfl, by (repeat' (first | (with_reducible exact Below.refl _ _) | (with_reducible refine Below.setCell ?_ ?_ _) | (with_reducible refine Below.alloc ?_ ?_ _) | (with_reducible refine Below.drew ?_) | (with_reducible refine below_drewN ?_ _))) <;> (first | omega | (simp <;> omega))⟩
  have hv1 := vS_true.1 h; have hv2 := vS_true.1 h'
  have hmx : vS (max a c) (min b d) = decide (max a c ≤ min b d) := by
    rw [Bool.eq_iff_iff, vS_true, decide_eq_true_eq]; omega
  rcases hm : mtB a b c d
  · have h2 : vS (max a c) (min b d) = false := by rw [hmx]; simpa [mtB, h, h'] using hm
    rw [mtLo_no hm, mtHi_no hm]
    have H := Lib.hid h; have H' := Lib.hid h'; have H2 := Lib.hid h2; clear h h' h2 hm hmx hv1 hv2
    go_enter Try.func64, Try.ntmps64
    go_wp2_with fail
    refine (svalid_any _ _ _).mono ?_
    rintro e wq1 ⟨rfl, rfl⟩
    rw [H.out]
    go_wp2_with fail
    refine (svalid_any _ _ _).mono ?_
    rintro e wq2 ⟨rfl, rfl⟩
    rw [H'.out]
    go_wp2_with fail
    refine (svalid_any _ _ _).mono ?_
    rintro e wq3 ⟨rfl, rfl⟩
    rw [H2.out]
    go_wp2
    exact bodyPost_ret (v := .tuple #[.agg #[.int .i64 0, .int .i64 0], .bool false]) (by simp [results, Try.results64, go_sem, *]) rfl ⟨rfl, by (repeat' (first | (with_reducible exact Below.refl _ _) | (with_reducible refine Below.setCell ?_ ?_ _) | (with_reducible refine Below.alloc ?_ ?_ _) | (with_reducible refine Below.drew ?_) | (with_reducible refine below_drewN ?_ _))) <;> (first | omega | (simp <;> omega))⟩
  · have h2 : vS (max a c) (min b d) = true := by rw [hmx]; simpa [mtB, h, h'] using hm
    rw [mtLo_yes hm, mtHi_yes hm]
    have H := Lib.hid h; have H' := Lib.hid h'; have H2 := Lib.hid h2; clear h h' h2 hm hmx hv1 hv2
    go_enter Try.func64, Try.ntmps64
    go_wp2_with fail
    refine (svalid_any _ _ _).mono ?_
    rintro e wq1 ⟨rfl, rfl⟩
    rw [H.out]
    go_wp2_with fail
    refine (svalid_any _ _ _).mono ?_
    rintro e wq2 ⟨rfl, rfl⟩
    rw [H'.out]
    go_wp2_with fail
    refine (svalid_any _ _ _).mono ?_
    rintro e wq3 ⟨rfl, rfl⟩
    rw [H2.out]
    go_wp2
    exact bodyPost_ret (v := .tuple #[.agg #[.int .i64 (max a c), .int .i64 (min b d)], .bool true]) (by simp [results, Try.results64, go_sem, *]) rfl ⟨rfl, by (repeat' (first | (with_reducible exact Below.refl _ _) | (with_reducible refine Below.setCell ?_ ?_ _) | (with_reducible refine Below.alloc ?_ ?_ _) | (with_reducible refine Below.drew ?_) | (with_reducible refine below_drewN ?_ _))) <;> (first | omega | (simp <;> omega))⟩
end Go.Proofs.Ytlfkkfdolnkjfaa
