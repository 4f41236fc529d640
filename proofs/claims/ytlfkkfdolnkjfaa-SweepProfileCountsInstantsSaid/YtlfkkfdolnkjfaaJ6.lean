/- Texts joined: R11, I11 -/
import Derived.Test.YtlfkkfdolnkjfaaJ4
import Derived.Test.YtlfkkfdolnkjfaaNum
namespace Go.Proofs.Ytlfkkfdolnkjfaa
open Go.RowKit

/-- A span holds an instant; a span lies inside of another; what two spans have in common. -/
def hdB (lo hi t : Int) : Bool := vS lo hi && (decide (lo ≤ t) && decide (t ≤ hi))
set_option maxHeartbeats 1000000 in
theorem rholds_all (lo hi t : Int) (w : World) :
    Calls Try.prog 19 #[.agg #[.int .i64 lo, .int .i64 hi], .int .i64 t] w (RB w (.bool (hdB lo hi t))) := by
  rcases h : vS lo hi
  · rw [show hdB lo hi t = false by simp [hdB, h]]
    go_enter Try.func19, Try.ntmps19
    go_wp2_with fail
    refine (rsvalid_any _ _ _).mono ?_
    rintro e wq1 ⟨rfl, rfl⟩
    rw [h]
    go_wp2
    go_ret
    exact ⟨rfl, by (repeat' (first | (with_reducible exact Below.refl _ _) | (with_reducible refine Below.setCell ?_ ?_ _) | (with_reducible refine Below.alloc ?_ ?_ _) | (with_reducible refine Below.drew ?_) | (with_reducible refine below_drewN ?_ _))) <;> (first | omega | (simp <;> omega))⟩
  · by_cases h1 : lo ≤ t
    · by_cases h2 : t ≤ hi
      · rw [show hdB lo hi t = true by simp [hdB, h, h1, h2]]
        go_enter Try.func19, Try.ntmps19
        go_wp2_with fail
        refine (rsvalid_any _ _ _).mono ?_
        rintro e wq2 ⟨rfl, rfl⟩
        rw [h]
        go_wp2
        go_ret
        exact ⟨rfl, by (repeat' (first | (with_reducible exact Below.refl _ _) | (with_reducible refine Below.setCell ?_ ?_ _) | (with_reducible refine Below.alloc ?_ ?_ _) | (with_reducible refine Below.drew ?_) | (with_reducible refine below_drewN ?_ _))) <;> (first | omega | (simp <;> omega))⟩
      · rw [show hdB lo hi t = false by simp [hdB, h, h1, h2]]
        have q2 : decide (t ≤ hi) = false := by simpa using h2
        go_enter Try.func19, Try.ntmps19
        go_wp2_with fail
        refine (rsvalid_any _ _ _).mono ?_
        rintro e wq3 ⟨rfl, rfl⟩
        rw [h]
        go_wp2
        go_ret
        exact ⟨rfl, by (repeat' (first | (with_reducible exact Below.refl _ _) | (with_reducible refine Below.setCell ?_ ?_ _) | (with_reducible refine Below.alloc ?_ ?_ _) | (with_reducible refine Below.drew ?_) | (with_reducible refine below_drewN ?_ _))) <;> (first | omega | (simp <;> omega))⟩
    · rw [show hdB lo hi t = false by simp [hdB, h, h1]]
      go_enter Try.func19, Try.ntmps19
      go_wp2_with fail
      refine (rsvalid_any _ _ _).mono ?_
      rintro e wq4 ⟨rfl, rfl⟩
      rw [h]
      go_wp2
      go_ret
      exact ⟨rfl, by (repeat' (first | (with_reducible exact Below.refl _ _) | (with_reducible refine Below.setCell ?_ ?_ _) | (with_reducible refine Below.alloc ?_ ?_ _) | (with_reducible refine Below.drew ?_) | (with_reducible refine below_drewN ?_ _))) <;> (first | omega | (simp <;> omega))⟩
end Go.Proofs.Ytlfkkfdolnkjfaa
namespace Go.Proofs.Ytlfkkfdolnkjfaa
open Go.RowKit

set_option maxHeartbeats 1000000 in
theorem iholds_all (lo hi t : Int) (w : World) :
    Calls Try.prog 77 #[.agg #[.int .i64 lo, .int .i64 hi], .int .i64 t] w (RB w (.bool (hdB lo hi t))) := by
  rcases h : vS lo hi
  · rw [show hdB lo hi t = false by simp [hdB, h]]
    go_enter Try.func77, Try.ntmps77
    go_wp2_with fail
    refine (svalid_any _ _ _).mono ?_
    rintro e wq1 ⟨rfl, rfl⟩
    rw [h]
    go_wp2
    go_ret
    exact ⟨rfl, by (repeat' (first | (with_reducible exact Below.refl _ _) | (with_reducible refine Below.setCell ?_ ?_ _) | (with_reducible refine Below.alloc ?_ ?_ _) | (with_reducible refine Below.drew ?_) | (with_reducible refine below_drewN ?_ _))) <;> (first | omega | (simp <;> omega))⟩
  · by_cases h1 : lo ≤ t
    · by_cases h2 : t ≤ hi
      · rw [show hdB lo hi t = true by simp [hdB, h, h1, h2]]
        go_enter Try.func77, Try.ntmps77
        go_wp2_with fail
        refine (svalid_any _ _ _).mono ?_
        rintro e wq2 ⟨rfl, rfl⟩
        rw [h]
        go_wp2
        go_ret
        exact ⟨rfl, by (repeat' (first | (with_reducible exact Below.refl _ _) | (with_reducible refine Below.setCell ?_ ?_ _) | (with_reducible refine Below.alloc ?_ ?_ _) | (with_reducible refine Below.drew ?_) | (with_reducible refine below_drewN ?_ _))) <;> (first | omega | (simp <;> omega))⟩
      · rw [show hdB lo hi t = false by simp [hdB, h, h1, h2]]
        have q2 : decide (t ≤ hi) = false := by simpa using h2
        go_enter Try.func77, Try.ntmps77
        go_wp2_with fail
        refine (svalid_any _ _ _).mono ?_
        rintro e wq3 ⟨rfl, rfl⟩
        rw [h]
        go_wp2
        go_ret
        exact ⟨rfl, by (repeat' (first | (with_reducible exact Below.refl _ _) | (with_reducible refine Below.setCell ?_ ?_ _) | (with_reducible refine Below.alloc ?_ ?_ _) | (with_reducible refine Below.drew ?_) | (with_reducible refine below_drewN ?_ _))) <;> (first | omega | (simp <;> omega))⟩
    · rw [show hdB lo hi t = false by simp [hdB, h, h1]]
      go_enter Try.func77, Try.ntmps77
      go_wp2_with fail
      refine (svalid_any _ _ _).mono ?_
      rintro e wq4 ⟨rfl, rfl⟩
      rw [h]
      go_wp2
      go_ret
      exact ⟨rfl, by (repeat' (first | (with_reducible exact Below.refl _ _) | (with_reducible refine Below.setCell ?_ ?_ _) | (with_reducible refine Below.alloc ?_ ?_ _) | (with_reducible refine Below.drew ?_) | (with_reducible refine below_drewN ?_ _))) <;> (first | omega | (simp <;> omega))⟩
end Go.Proofs.Ytlfkkfdolnkjfaa
