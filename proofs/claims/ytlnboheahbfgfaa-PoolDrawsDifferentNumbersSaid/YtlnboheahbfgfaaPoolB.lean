/- Walks: pool.Choose, pool.Risk. -/
import Derived.Test.YtlnboheahbfgfaaPool
namespace Go.Proofs.Ytlnboheahbfgfaa
open Go.RowKit

theorem sets_any (n k : Int) (w : World) (h0 : 0 ≤ n) (h1 : n ≤ 60) :
    Calls Try.prog 21 #[.int .i64 n, .int .i64 k] w fun e w' => e = .returned (.int .i64 (setsN n k)) ∧ Below w.heap.size w w' := by
  by_cases h : k < 0 ∨ n < k
  · rw [setsN_out n k h]
    exact (sets_out n k w h).mono fun e w' ⟨a, b⟩ => ⟨a, b ▸ Below.refl _ _⟩
  · obtain ⟨n, rfl⟩ := Int.eq_ofNat_of_zero_le h0
    obtain ⟨k, rfl⟩ := Int.eq_ofNat_of_zero_le (show 0 ≤ k by omega)
    rw [setsN_in n k (by omega)]
    exact sets_in n k w (by omega) (by omega)

/-- Choose. -/
def chooseN (n k : Int) : Int × Int := if n < 0 ∨ 60 < n then (0, 4) else (setsN n k, 0)
theorem chooseN_out {n k : Int} (h : n < 0 ∨ 60 < n) : chooseN n k = (0, 4) := by unfold chooseN; rw [if_pos h]
theorem chooseN_in {n k : Int} (h0 : 0 ≤ n) (h1 : n ≤ 60) : chooseN n k = (setsN n k, 0) := by unfold chooseN; rw [if_neg (by omega)]

theorem choose_any (n k : Int) (w : World) :
    Calls Try.prog 11 #[.int .i64 n, .int .i64 k] w fun e w' => e = .returned (.tuple #[.int .i64 (chooseN n k).1, .int .i64 (chooseN n k).2]) ∧ Below w.heap.size w w' := by
  by_cases h0 : n < 0
  · rw [chooseN_out (k := k) (.inl h0)]
    go_enter Try.func11, Try.ntmps11
    go_wp2
    go_ret2
    exact ⟨rfl, Below.refl _ _⟩
  by_cases h1 : 60 < n
  · rw [chooseN_out (k := k) (.inr h1)]
    have h0' : decide (n < 0) = false := by simpa using h0
    go_enter Try.func11, Try.ntmps11
    go_wp2
    go_ret2
    exact ⟨rfl, Below.refl _ _⟩
  · rw [chooseN_in (k := k) (show 0 ≤ n by omega) (show n ≤ 60 by omega)]
    have h0' : decide (n < 0) = false := by simpa using h0
    have h1' : decide (60 < n) = false := by simpa using h1
    go_enter Try.func11, Try.ntmps11
    go_wp2_with (go_at_call 21; refine (sets_any _ _ _ (by omega) (by omega)).mono ?_; rintro e w' ⟨rfl, hb⟩)
    go_ret2
    exact ⟨rfl, hb⟩

/-- Risk. -/
def RiskBad (n bad k f : Int) : Prop := n < 0 ∨ 60 < n ∨ bad < 0 ∨ n < bad ∨ k < 0 ∨ n < k ∨ f < 0
instance (n bad k f : Int) : Decidable (RiskBad n bad k f) := by unfold RiskBad; infer_instance
def riskN (n bad k f : Int) : Int × Int × Int := if RiskBad n bad k f then (0, 0, 4) else (sumTo (limb n bad k f) (k + 1).toNat, setsN n k, 0)

theorem risk_bad (n bad k f : Int) (w : World) (h : RiskBad n bad k f) :
    Calls Try.prog 12 #[.int .i64 n, .int .i64 bad, .int .i64 k, .int .i64 f] w fun e w' => e = .returned (.tuple #[.int .i64 0, .int .i64 0, .int .i64 4]) ∧ Below w.heap.size w w' := by
  unfold RiskBad at h
  by_cases h0 : n < 0
  · clear h; go_enter Try.func12, Try.ntmps12
    go_wp2; go_ret3; exact ⟨rfl, Below.refl _ _⟩
  have h0' : decide (n < 0) = false := by simpa using h0
  by_cases h1 : 60 < n
  · clear h; go_enter Try.func12, Try.ntmps12
    go_wp2; go_ret3; exact ⟨rfl, Below.refl _ _⟩
  have h1' : decide (60 < n) = false := by simpa using h1
  by_cases h2 : bad < 0
  · clear h; go_enter Try.func12, Try.ntmps12
    go_wp2; go_ret3; exact ⟨rfl, Below.refl _ _⟩
  have h2' : decide (bad < 0) = false := by simpa using h2
  by_cases h3 : n < bad
  · clear h; go_enter Try.func12, Try.ntmps12
    go_wp2; go_ret3; exact ⟨rfl, Below.refl _ _⟩
  have h3' : decide (n < bad) = false := by simpa using h3
  by_cases h4 : k < 0
  · clear h; go_enter Try.func12, Try.ntmps12
    go_wp2; go_ret3; exact ⟨rfl, Below.refl _ _⟩
  have h4' : decide (k < 0) = false := by simpa using h4
  by_cases h5 : n < k
  · clear h; go_enter Try.func12, Try.ntmps12
    go_wp2; go_ret3; exact ⟨rfl, Below.refl _ _⟩
  have h5' : decide (n < k) = false := by simpa using h5
  have h6 : f < 0 := by omega
  clear h; go_enter Try.func12, Try.ntmps12
  go_wp2; go_ret3; exact ⟨rfl, Below.refl _ _⟩

set_option maxRecDepth 100000 in
set_option maxHeartbeats 400000 in
theorem risk_good (n bad k f : Int) (w : World) (h : ¬ RiskBad n bad k f) :
    Calls Try.prog 12 #[.int .i64 n, .int .i64 bad, .int .i64 k, .int .i64 f] w fun e w' =>
      e = .returned (.tuple #[.int .i64 (sumTo (limb n bad k f) (k + 1).toNat), .int .i64 (setsN n k), .int .i64 0]) ∧ Below w.heap.size w w' := by
  unfold RiskBad at h
  have h0 : 0 ≤ n := by omega
  have h1 : n ≤ 60 := by omega
  have h2 : 0 ≤ bad := by omega
  have h3 : bad ≤ n := by omega
  have h4 : 0 ≤ k := by omega
  have h5 : k ≤ n := by omega
  have h6 : 0 ≤ f := by omega
  clear h
  have h0' : decide (n < 0) = false := by simpa using h0
  have h1' : decide (60 < n) = false := by simpa using h1
  have h2' : decide (bad < 0) = false := by simpa using h2
  have h3' : decide (n < bad) = false := by simpa using h3
  have h4' : decide (k < 0) = false := by simpa using h4
  have h5' : decide (n < k) = false := by simpa using h5
  have h6' : decide (f < 0) = false := by simpa using h6
  go_enter Try.func12, Try.ntmps12
  go_wp2
  clear h0' h1' h2' h3' h4' h5' h6'
  go_loopw [8, 42] (fun o i wr => ∃ q : Nat, (q : Int) ≤ k + 1 ∧ i = .int .i64 q ∧ o = .int .i64 (sumTo (limb n bad k f) q) ∧ Below w.heap.size w wr) (fun _ i _ => (k + 1 - intOf i).toNat)
  case atStart => exact ⟨0, by omega, rfl, rfl, Below.refl _ _⟩
  case round =>
    obtain ⟨q, hq, rfl, rfl, hbel⟩ := hrel
    have s0 := sumTo_nonneg (limb n bad k f) (limb_nonneg n bad k f) q
    have s1 := over_le n bad k f h2 h3 h1 (q + 1)
    have s2 := limb_nonneg n bad k f q
    have s3 : sumTo (limb n bad k f) (q + 1) = sumTo (limb n bad k f) q + limb n bad k f q := rfl
    by_cases hlt : (q : Int) < k + 1
    · by_cases hf : f < q
      · have s4 : limb n bad k f q = setsN bad q * setsN (n - bad) (k - q) := by unfold limb; rw [if_pos hf]
        rw [s4] at s3 s2
        rw [s3] at s1
        have S3 := Lib.hid s3; clear s3 s4
        go_wp2_with (go_at_call 21; refine (sets_any _ _ _ (by omega) (by omega)).mono ?_; rintro e w' ⟨rfl, hb⟩; replace hbel := hbel.trans (hb.mono hbel.size); clear hb)
        go_roundw
        case rel => exact ⟨q + 1, by omega, by go_num, by rw [S3.out], hbel⟩
        case measure => simp [intOf]; omega
      · have s4 : limb n bad k f q = 0 := by unfold limb; rw [if_neg hf]
        have S3 : Hid (sumTo (limb n bad k f) (q + 1) = sumTo (limb n bad k f) q) := by rw [s3, s4]; exact Int.add_zero _
        clear s3 s4
        go_wp2
        go_roundw
        case rel => exact ⟨q + 1, by omega, by go_num, by rw [S3.out], hbel⟩
        case measure => simp [intOf]; omega
    · have hqk : (k + 1).toNat = q := by omega
      have HQ := Lib.hid hqk; clear hqk s3
      go_wp2_with (go_at_call 21; refine (sets_any _ _ _ (by omega) (by omega)).mono ?_; rintro e w' ⟨rfl, hb⟩)
      go_ret3
      exact ⟨by rw [HQ.out]; rfl, hbel.trans (hb.mono hbel.size)⟩
theorem risk_any (n bad k f : Int) (w : World) :
    Calls Try.prog 12 #[.int .i64 n, .int .i64 bad, .int .i64 k, .int .i64 f] w fun e w' =>
      e = .returned (.tuple #[.int .i64 (riskN n bad k f).1, .int .i64 (riskN n bad k f).2.1, .int .i64 (riskN n bad k f).2.2]) ∧ Below w.heap.size w w' := by
  by_cases h : RiskBad n bad k f
  · have e : riskN n bad k f = (0, 0, 4) := by unfold riskN; rw [if_pos h]
    rw [e]; exact risk_bad n bad k f w h
  · have e : riskN n bad k f = (sumTo (limb n bad k f) (k + 1).toNat, setsN n k, 0) := by unfold riskN; rw [if_neg h]
    rw [e]; exact risk_good n bad k f w h
end Go.Proofs.Ytlnboheahbfgfaa
