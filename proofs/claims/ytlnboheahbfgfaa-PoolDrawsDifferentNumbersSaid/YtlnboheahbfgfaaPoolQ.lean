/- Plain: the numbers drawn are different, in their range; fewer are the beginning of more. -/
import Derived.Test.YtlnboheahbfgfaaDraw2
namespace Go.Proofs.Ytlnboheahbfgfaa
open Go.RowKit
set_option linter.unusedSimpArgs false
set_option linter.unusedVariables false

theorem take_getD (l : List Int) (n j : Nat) (h : j < n) : (l.take n).getD j 0 = l.getD j 0 := by
  rw [List.getD_eq_getElem?_getD, List.getD_eq_getElem?_getD, List.getElem?_take, if_pos h]
theorem ext_getD {a b : List Int} (hl : a.length = b.length) (h : ∀ j, j < a.length → a.getD j 0 = b.getD j 0) : a = b := by
  refine List.ext_getElem hl (fun i h1 h2 => ?_)
  have := h i h1
  rw [List.getD_eq_getElem?_getD, List.getD_eq_getElem?_getD, List.getElem?_eq_getElem h1, List.getElem?_eq_getElem h2] at this
  exact this
theorem drE_ok {sl m l : Nat} (h : sl = 32) (m1 : 1 ≤ m) (m2 : m ≤ 4096) (l1 : l ≤ m) (l2 : l ≤ 32) : drE sl (m : Int) (l : Int) = 0 := by
  unfold drE; rw [if_neg (by omega), if_neg (by omega)]
section
variable {seed : List Int} {m l : Nat} (h : seed.length = 32) (m1 : 1 ≤ m) (m2 : m ≤ 4096) (l1 : l ≤ m) (l2 : l ≤ 32)
include h m1 m2 l1 l2
theorem drL_eq : drL seed m l = (drS (drF seed m) m l).take l := by
  unfold drL; rw [if_pos (drE_ok h m1 m2 l1 l2)]; rfl
theorem drL_len : (drL seed m l).length = l := by
  rw [drL_eq h m1 m2 l1 l2, List.length_take, drS_length]; omega
theorem drL_get (j : Nat) (hj : j < l) : (drL seed m l).getD j 0 = (drS (drF seed m) m l).getD j 0 := by
  rw [drL_eq h m1 m2 l1 l2, take_getD _ _ _ hj]
theorem drL_rng (j : Nat) (hj : j < l) : 0 ≤ (drL seed m l).getD j 0 ∧ (drL seed m l).getD j 0 < m := by
  rw [drL_get h m1 m2 l1 l2 j hj]
  exact drS_in (drF_ok seed m l l1) l (Nat.le_refl _) j (by omega)
theorem drL_inj (i j : Nat) (hi : i < l) (hj : j < l) (e : (drL seed m l).getD i 0 = (drL seed m l).getD j 0) : i = j := by
  rw [drL_get h m1 m2 l1 l2 i hi, drL_get h m1 m2 l1 l2 j hj] at e
  exact drS_inj (drF_ok seed m l l1) l (Nat.le_refl _) i j (by omega) (by omega) e
theorem drL_pre (k : Nat) (hk : k ≤ l) : drL seed m k = (drL seed m l).take k := by
  have hl := drL_len h m1 m2 (show k ≤ m by omega) (show k ≤ 32 by omega)
  refine ext_getD (by rw [hl, List.length_take, drL_len h m1 m2 l1 l2]; omega) (fun j hj => ?_)
  rw [hl] at hj
  rw [take_getD _ _ _ hj, drL_get h m1 m2 (show k ≤ m by omega) (show k ≤ 32 by omega) j hj, drL_get h m1 m2 l1 l2 j (by omega)]
  have := drS_stay (drF_ok seed m l l1) k (l - k) (by omega) j hj
  rw [show k + (l - k) = l by omega] at this
  exact this.symm
end
end Go.Proofs.Ytlnboheahbfgfaa
