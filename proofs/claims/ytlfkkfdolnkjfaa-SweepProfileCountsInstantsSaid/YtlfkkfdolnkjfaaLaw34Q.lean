/- Plain: the laws behind the statements of the sweep. -/
import Derived.Test.YtlfkkfdolnkjfaaJ11
import Derived.Test.YtlfkkfdolnkjfaaJ19
namespace Go.Proofs.Ytlfkkfdolnkjfaa
open Go.RowKit Go.Shelf Go.Sort
set_option linter.unusedSimpArgs false
set_option linter.unusedVariables false

theorem px_parts {zs : List (Int × Int)} {ps : List Pc} (h : PX zs ps) (hc : ckE zs = 0) : PCan ps ∧ (∀ t, cntP ps t = cntS zs t) ∧ ps.length ≤ 128 ∧ ∀ p ∈ ps, vS p.lo p.hi = true := by
  rcases h with ⟨h, -⟩ | ⟨-, h1, h2, h3⟩
  · exact absurd hc h
  · exact ⟨h1, h2, h3, pc_in h1 h2⟩
/-- What the last piece that holds an instant counts. -/
def nAt (t : Int) (ps : List Pc) : Int := ps.foldl (fun n p => if hdB p.lo p.hi t = true then p.n else n) 0
theorem nAt_snoc (t : Int) (ps : List Pc) (p : Pc) : nAt t (ps ++ [p]) = if hdB p.lo p.hi t = true then p.n else nAt t ps := by simp [nAt]
theorem nAt_rev (t : Int) : ∀ (qs : List Pc), PCan qs.reverse → (∀ p ∈ qs, vS p.lo p.hi = true) → nAt t qs.reverse = cntP qs.reverse t
  | [], _, _ => rfl
  | p :: qs, h, hv => by
    rw [List.reverse_cons] at h ⊢
    obtain ⟨h1, h2⟩ := h.init
    rw [nAt_snoc, cntP_app, show cntP [p] t = pcAt p t + 0 from rfl]
    have hp := hv p (by simp)
    have ih := nAt_rev t qs h1 (fun q hq => hv q (by simp [hq]))
    unfold pcAt
    by_cases c : p.lo ≤ t ∧ t ≤ p.hi
    · rw [if_pos (by unfold hdB; rw [hp]; simp [c]), if_pos c, cntP_above (fun q hq => by have := h2 q hq; omega)]; omega
    · rw [if_neg (by unfold hdB; rw [hp]; simp; omega), if_neg c, ih]; omega
theorem nAt_law {zs : List (Int × Int)} {ps : List Pc} (h : PX zs ps) (hc : ckE zs = 0) (t : Int) : nAt t ps = cntS zs t := by
  obtain ⟨h1, h2, -, h3⟩ := px_parts h hc
  have := nAt_rev t ps.reverse (by rw [List.reverse_reverse]; exact h1) (fun p hp => h3 p (by simpa using hp))
  rw [List.reverse_reverse] at this
  rw [this, h2]
end Go.Proofs.Ytlfkkfdolnkjfaa
