/- Plain law: the numbers of sets (Pascal's triangle). -/
import Derived.WalkKit
namespace Go.Proofs.YtlnboheahbfgfaaGreat

/-- The number of sets of k of n things. -/
def bin : Nat → Nat → Nat
  | _, 0 => 1
  | 0, _ + 1 => 0
  | n + 1, k + 1 => bin n k + bin n (k + 1)
theorem bin_zero (n : Nat) : bin n 0 = 1 := by cases n <;> rfl
theorem bin_succ (n k : Nat) : bin (n + 1) (k + 1) = bin n k + bin n (k + 1) := rfl
theorem bin_le (n : Nat) : ∀ k, bin n k + bin n (k + 1) ≤ 2 ^ (n + 1) ∧ bin n k ≤ 2 ^ n := by
  induction n with
  | zero => intro k; match k with
    | 0 => decide
    | k + 1 => simp [bin]
  | succ n ih =>
    have step : ∀ k, bin (n + 1) k ≤ 2 ^ (n + 1) := by
      intro k
      match k with
      | 0 => rw [bin_zero]; exact Nat.one_le_two_pow
      | k + 1 => exact (ih k).1
    intro k
    refine ⟨?_, step k⟩
    have := step k; have := step (k + 1)
    rw [Nat.pow_succ 2 (n + 1)]; omega
theorem bin_gt (n : Nat) : ∀ k, n < k → bin n k = 0 := by
  induction n with
  | zero => intro k h; match k, h with | k + 1, _ => rfl
  | succ n ih => intro k h; match k, h with
    | k + 1, h => rw [bin_succ, ih k (by omega), ih (k + 1) (by omega)]
theorem bin_60 (n k : Nat) (h : n ≤ 60) : (bin n k : Int) ≤ 1152921504606846976 := by
  have h1 := (bin_le n k).2
  have h2 : 2 ^ n ≤ 2 ^ 60 := Nat.pow_le_pow_right (by decide) h
  have : bin n k ≤ 1152921504606846976 := Nat.le_trans h1 h2
  omega
/-- The row in the middle of a round: places above j are of the next row. -/
def mid (i j m : Nat) : Nat := if j < m then bin (i + 1) m else bin i m
theorem mid_hit (i j : Nat) (h : 1 ≤ j) : mid i j j + mid i j (j - 1) = bin (i + 1) j := by
  obtain ⟨q, rfl⟩ : ∃ q, j = q + 1 := ⟨j - 1, by omega⟩
  have h1 : mid i (q + 1) (q + 1) = bin i (q + 1) := by unfold mid; rw [if_neg (by omega)]
  have h2 : mid i (q + 1) q = bin i q := by unfold mid; rw [if_neg (by omega)]
  rw [h1, show q + 1 - 1 = q from rfl, h2, bin_succ]; omega
theorem mid_other (i j m : Nat) (h : m ≠ j) (h1 : 1 ≤ j) : mid i (j - 1) m = mid i j m := by
  unfold mid; split <;> split <;> first | rfl | omega
theorem mid_eq (i j : Nat) (h1 : 1 ≤ j) : mid i (j - 1) j = bin (i + 1) j := by
  unfold mid; rw [if_pos (by omega)]
theorem mid_start (i k m : Nat) (h : m ≤ k) : mid i k m = bin i m := by unfold mid; rw [if_neg (by omega)]
theorem mid_end (i m : Nat) : mid i 0 m = bin (i + 1) m := by
  unfold mid; split
  · rfl
  · obtain rfl : m = 0 := by omega
    rw [bin_zero, bin_zero]

/-- sets, at whatever k. -/
def setsN (n k : Int) : Int := if k < 0 ∨ n < k then 0 else bin n.toNat k.toNat
theorem setsN_in (n k : Nat) (h : k ≤ n) : setsN n k = bin n k := by unfold setsN; rw [if_neg (by omega)]; rfl
theorem setsN_out (n k : Int) (h : k < 0 ∨ n < k) : setsN n k = 0 := by unfold setsN; rw [if_pos h]
theorem setsN_nonneg (n k : Int) : 0 ≤ setsN n k := by unfold setsN; split <;> omega
theorem setsN_le (n k : Int) : setsN n k ≤ 2 ^ n.toNat := by
  unfold setsN; split
  · exact Int.le_of_lt (Int.pow_pos (by decide))
  · have h := (bin_le n.toNat k.toNat).2
    have : ((2 ^ n.toNat : Nat) : Int) = 2 ^ n.toNat := by simp
    rw [← this]; omega
def sumTo (g : Nat → Int) : Nat → Int
  | 0 => 0
  | j + 1 => sumTo g j + g j
theorem sumTo_nonneg (g : Nat → Int) (h : ∀ j, 0 ≤ g j) : ∀ m, 0 ≤ sumTo g m
  | 0 => Int.le_refl _
  | m + 1 => by have := sumTo_nonneg g h m; have := h m; simp only [sumTo]; omega
theorem sumTo_mono (g g' : Nat → Int) (h : ∀ j, g j ≤ g' j) : ∀ m, sumTo g m ≤ sumTo g' m
  | 0 => Int.le_refl _
  | m + 1 => by have := sumTo_mono g g' h m; have := h m; simp only [sumTo]; omega
theorem sumTo_stop (g : Nat → Int) (m m' : Nat) (hm : m ≤ m') (h : ∀ j, m ≤ j → g j = 0) : sumTo g m' = sumTo g m := by
  obtain ⟨d, rfl⟩ := Nat.exists_eq_add_of_le hm
  clear hm
  induction d with
  | zero => rfl
  | succ q ih => have := h (m + q) (by omega); rw [← Nat.add_assoc]; simp only [sumTo]; omega
theorem sumTo_congr (g g' : Nat → Int) : ∀ m, (∀ j, j < m → g j = g' j) → sumTo g m = sumTo g' m
  | 0, _ => rfl
  | m + 1, h => by simp only [sumTo]; rw [sumTo_congr g g' m (fun j hj => h j (by omega)), h m (by omega)]
theorem sumTo_shift (g : Nat → Int) : ∀ m, sumTo g (m + 1) = g 0 + sumTo (fun j => g (j + 1)) m
  | 0 => by simp [sumTo]
  | m + 1 => by have := sumTo_shift g m; simp only [sumTo] at this ⊢; omega
theorem sumTo_add (g g' : Nat → Int) : ∀ m, sumTo (fun j => g j + g' j) m = sumTo g m + sumTo g' m
  | 0 => rfl
  | m + 1 => by have := sumTo_add g g' m; simp only [sumTo]; omega
theorem sumTo_mulc (g : Nat → Int) (c : Int) : ∀ m, sumTo (fun j => g j * c) m = sumTo g m * c
  | 0 => by simp [sumTo]
  | m + 1 => by have := sumTo_mulc g c m; simp only [sumTo]; rw [this, Int.add_mul]
theorem sum_bin_le (a : Nat) : ∀ m, sumTo (fun j => (bin a j : Int)) m ≤ 2 ^ a := by
  induction a with
  | zero =>
    intro m
    match m with
    | 0 => decide
    | m + 1 =>
      rw [sumTo_stop _ 1 (m + 1) (by omega) (fun j hj => by rw [bin_gt 0 j (by omega)]; rfl)]
      decide
  | succ a ih =>
    intro m
    match m with
    | 0 => exact Int.le_of_lt (Int.pow_pos (by decide))
    | m + 1 =>
      rw [sumTo_shift, bin_zero]
      have e : sumTo (fun j => (bin (a + 1) (j + 1) : Int)) m = sumTo (fun j => (bin a j : Int)) m + sumTo (fun j => (bin a (j + 1) : Int)) m := by
        rw [← sumTo_add]; exact sumTo_congr _ _ _ (fun j _ => by rw [bin_succ]; omega)
      rw [e]
      have h1 := ih m
      have h2 := ih (m + 1)
      rw [sumTo_shift, bin_zero] at h2
      rw [Int.pow_succ]; simp only [Int.natCast_one] at *; omega
/-- One limb of Risk's sum. -/
def limb (n bad k f : Int) (j : Nat) : Int := if f < j then setsN bad j * setsN (n - bad) (k - j) else 0
theorem limb_nonneg (n bad k f : Int) (j : Nat) : 0 ≤ limb n bad k f j := by
  unfold limb; split
  · exact Int.mul_nonneg (setsN_nonneg _ _) (setsN_nonneg _ _)
  · exact Int.le_refl _
theorem setsN_le_bin (b : Int) (j : Nat) (hb : 0 ≤ b) : setsN b j ≤ bin b.toNat j := by
  unfold setsN; split
  · omega
  · simp
theorem limb_le (n bad k f : Int) (hb : 0 ≤ bad) (j : Nat) : limb n bad k f j ≤ bin bad.toNat j * 2 ^ (n - bad).toNat := by
  have hp : (0 : Int) ≤ 2 ^ (n - bad).toNat := Int.le_of_lt (Int.pow_pos (by decide))
  unfold limb; split
  · exact Int.mul_le_mul (setsN_le_bin _ _ hb) (setsN_le _ _) (setsN_nonneg _ _) (by omega)
  · exact Int.mul_nonneg (by omega) hp
theorem over_le (n bad k f : Int) (hb : 0 ≤ bad) (hn : bad ≤ n) (h : n ≤ 60) (m : Nat) : sumTo (limb n bad k f) m ≤ 1152921504606846976 := by
  have hp : (0 : Int) ≤ 2 ^ (n - bad).toNat := Int.le_of_lt (Int.pow_pos (by decide))
  have h1 := sumTo_mono _ _ (limb_le n bad k f hb) m
  rw [sumTo_mulc] at h1
  have h2 := Int.mul_le_mul_of_nonneg_right (sum_bin_le bad.toNat m) hp
  have h3 : (2 : Int) ^ bad.toNat * 2 ^ (n - bad).toNat ≤ 1152921504606846976 := by
    rw [← Int.pow_add]
    have : (2 : Nat) ^ (bad.toNat + (n - bad).toNat) ≤ 2 ^ 60 := Nat.pow_le_pow_right (by decide) (by omega)
    have e : ((2 ^ (bad.toNat + (n - bad).toNat) : Nat) : Int) = 2 ^ (bad.toNat + (n - bad).toNat) := by simp
    rw [← e]; omega
  omega
end Go.Proofs.YtlnboheahbfgfaaGreat
