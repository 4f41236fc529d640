/- Plain: what the check of sectimelaw34 knows. -/
import Derived.Test.YtlfkkfdolnkjfaaSweepN
namespace Go.Proofs.Ytlfkkfdolnkjfaa
open Go.RowKit Go.Shelf Go.Sort
set_option linter.unusedSimpArgs false
set_option linter.unusedVariables false

def zs34 : List (Int × Int) := [(1, 4), (3, 9), (10, 12)]
def ps34 : List Pc := [⟨1, 2, 1⟩, ⟨3, 4, 2⟩, ⟨5, 12, 1⟩]
theorem ck34 : ckE zs34 = 0 := by decide
theorem px34 : PX zs34 ps34 := by
  refine .inr ⟨ck34, ⟨?_, ?_⟩, fun t => ?_, by decide⟩
  · intro p hp
    simp only [ps34, List.mem_cons, List.not_mem_nil, or_false] at hp
    rcases hp with rfl | rfl | rfl <;> decide
  · intro i hi
    have : i = 0 ∨ i = 1 := by simp only [ps34, List.length_cons, List.length_nil] at hi; omega
    rcases this with rfl | rfl <;> decide
  · have e : ∀ lo hi : Int, vS lo hi = true → inS t (lo, hi) = decide (lo ≤ t ∧ t ≤ hi) := fun lo hi h => by
      rw [Bool.eq_iff_iff, inS_iff]; simp [h]
    unfold zs34 ps34 cntP cntS pcAt
    simp only [List.foldr_cons, List.foldr_nil]
    rw [e 1 4 (by decide), e 3 9 (by decide), e 10 12 (by decide)]
    simp only [decide_eq_true_eq]
    repeat' split
    all_goals omega
theorem most34 : mostP ps34 = 2 := by decide
theorem least34 : leastP 2 ps34 = [(3, 4)] := by decide
end Go.Proofs.Ytlfkkfdolnkjfaa
