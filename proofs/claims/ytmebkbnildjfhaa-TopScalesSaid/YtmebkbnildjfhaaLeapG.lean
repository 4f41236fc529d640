/- Plain law of a smeared clock: how fast it goes. -/
import Derived.Test.YtmebkbnildjfhaaLeapP
namespace Go.Proofs.Ytmebkbnildjfhaa
open Go.RowKit
set_option linter.unusedSimpArgs false
set_option linter.unusedVariables false

/-- The clock that is smeared, without rounding, times 86401 * 86399. -/
def gAt (first : Int) (zs : List (Int × Int)) (t : Int) : Nat → Int
  | 0 => 7464959999 * (t - first * 1048576)
  | k + 1 => if wiHi zs k ≤ t then 7464959999 * (t - (zs.getD k (0, 0)).2 * 1048576) else if wiLo first zs k ≤ t then 7464959999 * wsLo zs k + (t - wiLo first zs k) * (if (zs.getD k (0, 0)).2 = oldL first zs k + 1 then 7464873600 else 7465046400) else gAt first zs t k
section
variable {first : Int} {zs : List (Int × Int)}
theorem win_len (i : Nat) : wiHi zs i - wiLo first zs i = (86400 + (zs.getD i (0, 0)).2 - oldL first zs i) * 1048576 ∧ wsHi zs i = wsLo zs i + 90596966400 ∧ wiLo first zs i = wsLo zs i + oldL first zs i * 1048576 ∧ wiHi zs i = wsHi zs i + (zs.getD i (0, 0)).2 * 1048576 := by
  unfold wiHi wiLo wsHi wsLo; omega
theorem shAt_g (hv : LVal first zs) (t : Int) : ∀ k, k ≤ zs.length → shAt first zs t k = gAt first zs t k / 7464959999
  | 0, _ => by unfold shAt gAt; omega
  | k + 1, hk => by
    have h5 := (hv.at_ (i := k) (by omega)).2.2.2.2
    have hr := shAt_g hv t k (by omega)
    unfold shAt gAt
    rw [quo_down]
    split
    · omega
    · split
      · rcases h5 with h5 | h5
        · rw [if_pos h5, show 86400 + (zs.getD k (0, 0)).2 - oldL first zs k = 86401 by omega]; omega
        · rw [if_neg (by omega), show 86400 + (zs.getD k (0, 0)).2 - oldL first zs k = 86399 by omega]; omega
      · exact hr
theorem gAt_lo (hv : LVal first zs) {t : Int} {k : Nat} (hk : k < zs.length) (h : wiLo first zs k ≤ t) : gAt first zs t k = 7464959999 * (t - oldL first zs k * 1048576) := by
  cases k with
  | zero => rfl
  | succ j =>
    have h2 := hv.asc hk
    unfold gAt
    rw [if_pos (by omega), oldL_succ]
/-- How fast it goes. -/
theorem gAt_step (hv : LVal first zs) : ∀ k, k ≤ zs.length → ∀ t u : Int, t ≤ u → 7464873600 * (u - t) ≤ gAt first zs u k - gAt first zs t k ∧ gAt first zs u k - gAt first zs t k ≤ 7465046400 * (u - t)
  | 0, _, t, u, h => by unfold gAt; omega
  | k + 1, hk, t, u, h => by
    have h5 := (hv.at_ (i := k) (by omega)).2.2.2.2
    have hw := hv.win (i := k) (by omega)
    obtain ⟨w1, w2, w3, w4⟩ := win_len (first := first) (zs := zs) k
    have gl := gAt_lo hv (t := wiLo first zs k) (k := k) (by omega) (by omega)
    have ih := gAt_step hv k (by omega)
    have i1 := ih t u h
    have i2 := ih t (wiLo first zs k)
    unfold gAt
    generalize gAt first zs t k = gt at *
    generalize gAt first zs u k = gu at *
    generalize gAt first zs (wiLo first zs k) k = gw at *
    generalize wiHi zs k = ih at *
    generalize wiLo first zs k = il at *
    generalize wsLo zs k = sl at *
    generalize wsHi zs k = sh at *
    generalize oldL first zs k = ov at *
    generalize (zs.getD k (0, 0)).2 = y at *
    have hc : ∃ c : Int, (if y = ov + 1 then (7464873600 : Int) else 7465046400) = c ∧ (c = 7464873600 ∧ y = ov + 1 ∨ c = 7465046400 ∧ y = ov - 1) := by
      rcases h5 with h5 | h5
      · exact ⟨_, if_pos h5, .inl ⟨rfl, h5⟩⟩
      · exact ⟨_, if_neg (by omega), .inr ⟨rfl, h5⟩⟩
    obtain ⟨c, hc, hcc⟩ := hc
    rw [hc]
    clear hc h5
    rcases hcc with ⟨rfl, rfl⟩ | ⟨rfl, rfl⟩
    · rw [show 86400 + (ov + 1) - ov = 86401 by omega] at w1
      repeat' split
      all_goals omega
    · rw [show 86400 + (ov - 1) - ov = 86399 by omega] at w1
      repeat' split
      all_goals omega
/-- What a smeared clock shows over a time. -/
theorem shL_step (hv : LVal first zs) {t u : Int} (h : t ≤ u) : ∃ g g' : Int, shL first zs t = g / 7464959999 ∧ shL first zs u = g' / 7464959999 ∧ 7464873600 * (u - t) ≤ g' - g ∧ g' - g ≤ 7465046400 * (u - t) :=
  ⟨_, _, shAt_g hv t _ (Nat.le_refl _), shAt_g hv u _ (Nat.le_refl _), gAt_step hv _ (Nat.le_refl _) t u h⟩
theorem shL_mono (hv : LVal first zs) {t u : Int} (h : t ≤ u) : shL first zs t ≤ shL first zs u := by
  obtain ⟨g, g', h1, h2, h3, h4⟩ := shL_step hv h; omega
theorem shL_two (hv : LVal first zs) (t : Int) : shL first zs t + 1 ≤ shL first zs (t + 2) := by
  obtain ⟨g, g', h1, h2, h3, h4⟩ := shL_step hv (show t ≤ t + 2 by omega); omega
theorem shL_rate (hv : LVal first zs) {t d : Int} (h : 0 ≤ d) : d - d / 86399 - 2 ≤ shL first zs (t + d) - shL first zs t ∧ shL first zs (t + d) - shL first zs t ≤ d + d / 86399 + 2 := by
  obtain ⟨g, g', h1, h2, h3, h4⟩ := shL_step hv (show t ≤ t + d by omega); omega
end
end Go.Proofs.Ytmebkbnildjfhaa
