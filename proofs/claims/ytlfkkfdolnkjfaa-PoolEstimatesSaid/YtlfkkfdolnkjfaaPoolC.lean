/- Walks: the reference's choose, Choose, Risk; the sanity check. -/
import Derived.Deep.AppendLies
import Derived.Deep.RegionHeld3
import Derived.Test.YtlfkkfdolnkjfaaJ22
namespace Go.Proofs.Ytlfkkfdolnkjfaa
open Go.RowKit

theorem known36_any (w : World) :
    Calls Try.prog 50 #[] w fun e w' => e = .returned (.bool true) ∧ Below w.heap.size w w' := by
  have e1 : chooseN 5 2 = (10, 0) := by decide
  have e2 : riskN 5 2 3 1 = (3, 10, 0) := by decide
  go_enter Try.func50, Try.ntmps50
  go_wp2_with (first | (go_at_call 90; refine (choose_any _ _ _).mono ?_; rintro e w1 ⟨rfl, hb1⟩) | (go_at_call 91; refine (risk_any _ _ _ _ _).mono ?_; rintro e w2 ⟨rfl, hb2⟩))
  go_ret
  exact ⟨rfl, hb1.trans (hb2.mono hb1.size)⟩

end Go.Proofs.Ytlfkkfdolnkjfaa
