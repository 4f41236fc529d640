/- Plain law: counting all sets one by one. -/
import Derived.Test.YtnjogepllhjcjaaPlainA
namespace Go.Proofs.Ytnjogepllhjcjaa

/-- Bit i of a number. -/
def bitAt (s i : Nat) : Nat := s / 2 ^ i % 2
/-- The elements of a set among the first i; those that lie. -/
def szTo (s : Nat) : Nat → Nat
  | 0 => 0
  | i + 1 => szTo s i + bitAt s i
def liTo (bad s : Nat) : Nat → Nat
  | 0 => 0
  | i + 1 => liTo bad s i + if i < bad then bitAt s i else 0
theorem bitAt_lt (s i : Nat) : bitAt s i < 2 := Nat.mod_lt _ (by decide)
theorem szTo_le (s : Nat) : ∀ i, szTo s i ≤ i
  | 0 => Nat.le_refl _
  | i + 1 => by have := szTo_le s i; have := bitAt_lt s i; simp only [szTo]; omega
theorem liTo_le (bad s : Nat) : ∀ i, liTo bad s i ≤ i
  | 0 => Nat.le_refl _
  | i + 1 => by have := liTo_le bad s i; have := bitAt_lt s i; simp only [liTo]; split <;> omega
theorem bitAt_add (s n i : Nat) (h : i < n) : bitAt (2 ^ n + s) i = bitAt s i := by
  unfold bitAt
  obtain ⟨d, rfl⟩ : ∃ d, n = i + 1 + d := ⟨n - (i + 1), by omega⟩
  have e : 2 ^ (i + 1 + d) + s = s + 2 ^ i * (2 * 2 ^ d) := by rw [Nat.pow_add, Nat.pow_succ, Nat.mul_assoc, Nat.add_comm]
  rw [e, Nat.add_mul_div_left _ _ (Nat.two_pow_pos i), Nat.add_mul_mod_self_left]
theorem bitAt_top (s n : Nat) (h : s < 2 ^ n) : bitAt (2 ^ n + s) n = 1 ∧ bitAt s n = 0 := by
  unfold bitAt
  have hp := Nat.two_pow_pos n
  constructor
  · have : (2 ^ n + s) / 2 ^ n = 1 := by rw [Nat.add_div_left _ hp, Nat.div_eq_of_lt h]
    rw [this]
  · rw [Nat.div_eq_of_lt h]
theorem szTo_add (s n : Nat) : ∀ i, i ≤ n → szTo (2 ^ n + s) i = szTo s i
  | 0, _ => rfl
  | i + 1, h => by simp only [szTo]; rw [szTo_add s n i (by omega), bitAt_add s n i (by omega)]
theorem liTo_add (bad s n : Nat) : ∀ i, i ≤ n → liTo bad (2 ^ n + s) i = liTo bad s i
  | 0, _ => rfl
  | i + 1, h => by simp only [liTo]; rw [liTo_add bad s n i (by omega), bitAt_add s n i (by omega)]

/-- A weight of the size and the lies, summed over the first m sets of n. -/
def wt (bad n : Nat) (g : Nat → Nat → Int) (m : Nat) : Int := sumTo (fun s => g (szTo s n) (liTo bad s n)) m
theorem sumTo_split (g : Nat → Int) (a : Nat) : ∀ b, sumTo g (a + b) = sumTo g a + sumTo (fun i => g (a + i)) b
  | 0 => by simp [sumTo]
  | b + 1 => by have := sumTo_split g a b; rw [← Nat.add_assoc]; simp only [sumTo]; omega
theorem wt_succ (bad n : Nat) (g : Nat → Nat → Int) :
    wt bad (n + 1) g (2 ^ (n + 1)) = wt bad n g (2 ^ n) + wt bad n (fun a b => g (a + 1) (b + if n < bad then 1 else 0)) (2 ^ n) := by
  unfold wt
  rw [show 2 ^ (n + 1) = 2 ^ n + 2 ^ n by rw [Nat.pow_succ]; omega, sumTo_split]
  congr 1
  · refine sumTo_congr _ _ _ fun s hs => ?_
    simp only [szTo, liTo, (bitAt_top s n hs).2]; simp
  · refine sumTo_congr _ _ _ fun s hs => ?_
    simp only [szTo, liTo, szTo_add s n n (Nat.le_refl _), liTo_add bad s n n (Nat.le_refl _), (bitAt_top s n hs).1]

/-- The sum of h over the sizes, each as often as there are sets. -/
def tri (m : Nat) (h : Nat → Int) : Int := sumTo (fun i => bin m i * h i) (m + 1)
theorem tri_add (m : Nat) (h h' : Nat → Int) : tri m (fun i => h i + h' i) = tri m h + tri m h' := by
  unfold tri; rw [← sumTo_add]; exact sumTo_congr _ _ _ fun i _ => Int.mul_add _ _ _
theorem tri_congr (m : Nat) (h h' : Nat → Int) (e : ∀ i, i ≤ m → h i = h' i) : tri m h = tri m h' :=
  sumTo_congr _ _ _ fun i hi => by rw [e i (by omega)]
theorem tri_succ (m : Nat) (h : Nat → Int) : tri (m + 1) h = tri m h + tri m (fun i => h (i + 1)) := by
  unfold tri
  have z : (bin m (m + 1) : Int) * h (m + 1) = 0 := by rw [bin_gt m (m + 1) (by omega)]; simp
  have e1 : sumTo (fun i => bin m i * h i) (m + 1) = sumTo (fun i => bin m i * h i) (m + 2) := by
    show _ = sumTo (fun i => bin m i * h i) (m + 1) + _; simp only [z]; omega
  rw [e1, sumTo_shift (fun i => bin (m + 1) i * h i) (m + 1), sumTo_shift (fun i => bin m i * h i) (m + 1)]
  have e2 : sumTo (fun j => (bin (m + 1) (j + 1) : Int) * h (j + 1)) (m + 1) = sumTo (fun j => (bin m j : Int) * h (j + 1)) (m + 1) + sumTo (fun j => (bin m (j + 1) : Int) * h (j + 1)) (m + 1) := by
    rw [← sumTo_add]; exact sumTo_congr _ _ _ fun j _ => by rw [bin_succ, ← Int.add_mul]; simp
  rw [e2, bin_zero, bin_zero]; dsimp only; omega
theorem wt_all (bad : Nat) : ∀ n, n ≤ bad → ∀ g, wt bad n g (2 ^ n) = tri n (fun j => g j j)
  | 0, _, g => by simp [wt, tri, sumTo, szTo, liTo, bin]
  | n + 1, h, g => by
    rw [wt_succ, wt_all bad n (by omega), wt_all bad n (by omega), tri_succ, if_pos (by omega)]
theorem wt_more (bad : Nat) : ∀ m g, wt bad (bad + m) g (2 ^ (bad + m)) = tri bad (fun j => tri m (fun i => g (j + i) j))
  | 0, g => by
    rw [Nat.add_zero, wt_all bad bad (Nat.le_refl _)]
    exact tri_congr _ _ _ fun j _ => by simp [tri, sumTo, bin]
  | m + 1, g => by
    rw [← Nat.add_assoc, wt_succ, wt_more bad m, wt_more bad m, ← tri_add, if_neg (by omega)]
    exact tri_congr _ _ _ fun j _ => by rw [tri_succ]; rfl
/-- One size alone. -/
theorem tri_one (m : Nat) (k : Int) (c : Int) : tri m (fun i => if (i : Int) = k then c else 0) = setsN m k * c := by
  unfold tri
  by_cases hk : k < 0 ∨ (m : Int) < k
  · rw [setsN_out _ _ hk, Int.zero_mul, sumTo_congr _ (fun _ => 0) (m + 1) (fun i hi => by (try dsimp only); rw [if_neg (by omega), Int.mul_zero])]
    have := sumTo_stop (fun _ => 0) 0 (m + 1) (by omega) (fun _ _ => rfl)
    rw [this]; rfl
  · obtain ⟨q, rfl⟩ := Int.eq_ofNat_of_zero_le (show 0 ≤ k by omega)
    rw [setsN_in m q (by omega)]
    obtain ⟨d, rfl⟩ : ∃ d, m = q + d := ⟨m - q, by omega⟩
    rw [sumTo_stop _ (q + 1) (q + d + 1) (by omega) (fun i hi => by (try dsimp only); rw [if_neg (by omega), Int.mul_zero])]
    show sumTo _ q + _ = _
    have z : sumTo (fun i => (bin (q + d) i : Int) * if (i : Int) = (q : Int) then c else 0) q = 0 := by
      rw [sumTo_congr _ (fun _ => 0) q (fun i hi => by (try dsimp only); rw [if_neg (by omega), Int.mul_zero])]
      have := sumTo_stop (fun _ => 0) 0 q (by omega) (fun _ _ => rfl)
      rw [this]; rfl
    rw [z]; simp
/-- What the two counters hold behind m sets. -/
def allTo (n : Nat) (k : Int) (m : Nat) : Int := sumTo (fun s => if (szTo s n : Int) = k then 1 else 0) m
def overTo (n bad : Nat) (k f : Int) (m : Nat) : Int := sumTo (fun s => if (szTo s n : Int) = k ∧ f < liTo bad s n then 1 else 0) m
theorem allTo_is (n : Nat) (k : Int) : allTo n k (2 ^ n) = setsN n k := by
  have h := wt_all n n (Nat.le_refl _) (fun a _ => if (a : Int) = k then 1 else 0)
  rw [tri_one] at h
  simpa [allTo, wt] using h
theorem overTo_is (n bad : Nat) (k f : Int) (hb : bad ≤ n) (hk : 0 ≤ k) : overTo n bad k f (2 ^ n) = sumTo (limb n bad k f) (k + 1).toNat := by
  obtain ⟨m, rfl⟩ := Nat.exists_eq_add_of_le hb
  have h := wt_more bad m (fun a b => if (a : Int) = k ∧ f < b then 1 else 0)
  rw [over_same _ _ _ _ (by omega) hk, show (((bad : Nat) : Int) + 1).toNat = bad + 1 by omega]
  refine Eq.trans h ?_
  unfold tri
  refine sumTo_congr _ _ _ fun j hj => ?_
  have e : tri m (fun i => if ((j + i : Nat) : Int) = k ∧ f < (j : Int) then 1 else 0) = setsN m (k - j) * (if f < (j : Int) then 1 else 0) := by
    rw [← tri_one]
    refine tri_congr _ _ _ fun i _ => ?_
    by_cases h1 : f < (j : Int) <;> by_cases h2 : (i : Int) = k - j <;> simp [h1, h2] <;> omega
  show (bin bad j : Int) * tri m (fun i => if ((j + i : Nat) : Int) = k ∧ f < (j : Int) then 1 else 0) = limb _ _ _ _ j
  rw [e]; unfold limb
  have e3 : (((bad + m : Nat) : Int) - (bad : Int)) = m := by omega
  rw [e3]
  by_cases h1 : f < (j : Int)
  · rw [if_pos h1, if_pos h1, setsN_in bad j (by omega)]; simp
  · rw [if_neg h1, if_neg h1]; simp
theorem limb_mono (n bad k f : Int) (j : Nat) : limb n bad k (f + 1) j ≤ limb n bad k f j := by
  have h := limb_nonneg n bad k f j
  unfold limb at *
  split
  · rw [if_pos (by omega)]; exact Int.le_refl _
  · exact h
theorem over_mono (n bad k f : Int) (m : Nat) : sumTo (limb n bad k (f + 1)) m ≤ sumTo (limb n bad k f) m := sumTo_mono _ _ (limb_mono n bad k f) m
theorem allTo_le (n : Nat) (k : Int) : ∀ m, 0 ≤ allTo n k m ∧ allTo n k m ≤ m
  | 0 => by simp [allTo, sumTo]
  | m + 1 => by have := allTo_le n k m; simp only [allTo, sumTo] at *; split <;> omega
theorem overTo_le (n bad : Nat) (k f : Int) : ∀ m, 0 ≤ overTo n bad k f m ∧ overTo n bad k f m ≤ m
  | 0 => by simp [overTo, sumTo]
  | m + 1 => by have := overTo_le n bad k f m; simp only [overTo, sumTo] at *; split <;> omega
end Go.Proofs.Ytnjogepllhjcjaa
