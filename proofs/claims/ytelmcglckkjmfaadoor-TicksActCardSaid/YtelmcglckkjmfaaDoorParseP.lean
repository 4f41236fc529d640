/- Parse undoes Format (plain). -/
import Derived.Test.YtelmcglckkjmfaaDoorParse
namespace Go.Proofs.YtelmcglckkjmfaaDoor
open Go.RowKit
set_option linter.unusedSimpArgs false
set_option linter.unusedVariables false

theorem index_dot (a b : List UInt8) (h : ∀ c ∈ a, c ≠ 46) : Lib.index (a ++ 46 :: b) [46] = a.length := by
  refine Lib.index_first (by simp) (by simp [Lib.occAt, List.isPrefixOf]) fun j hj => ?_
  unfold Lib.occAt
  rw [List.drop_append_of_le_length (by omega), List.drop_eq_getElem_cons hj]
  have := h _ (List.getElem_mem hj)
  simp only [List.cons_append, List.isPrefixOf, Bool.and_eq_false_iff, beq_eq_false_iff_ne]
  exact .inl (Ne.symm this)
theorem cut_dot (a b : List UInt8) (h : ∀ c ∈ a, c ≠ 46) : Lib.cut (a ++ 46 :: b) [46] = (a, b, true) := by
  unfold Lib.cut
  rw [index_dot a b h, if_pos (by omega)]
  simp
theorem dec_digit (u : Nat) : ∀ c ∈ Lib.decDigits u, 48 ≤ c.toNat ∧ c.toNat ≤ 57 := by
  induction u using Nat.strongRecOn with
  | ind u ih =>
    intro c hc
    unfold Lib.decDigits at hc
    split at hc
    · simp only [List.mem_singleton] at hc; subst hc; simp; omega
    · rcases List.mem_append.1 hc with hc | hc
      · exact ih (u / 10) (by omega) c hc
      · simp only [List.mem_singleton] at hc; subst hc; simp; omega
theorem numL_dec (u : Nat) : u ≤ 576460752303423488 → ∀ rest, numL (Lib.decDigits u ++ rest) 0 = numL rest u := by
  induction u using Nat.strongRecOn with
  | ind u ih =>
    intro hu rest
    unfold Lib.decDigits
    split
    · have e : (UInt8.ofNat (48 + u)).toNat = 48 + u := by simp; omega
      rw [List.singleton_append, numL_go (by rw [e]; omega), e]
      congr 1; omega
    · have e : (UInt8.ofNat (48 + u % 10)).toNat = 48 + u % 10 := by simp; omega
      rw [List.append_assoc, ih (u / 10) (by omega) (by omega), List.singleton_append, numL_go (by rw [e]; omega), e]
      congr 1; omega
theorem numL_zeros (rest : List UInt8) : ∀ k, numL (Lib.repeatL [48] k ++ rest) 0 = numL rest 0
  | 0 => by simp [Lib.repeatL]
  | k + 1 => by
    rw [Lib.repeatL, List.append_assoc, List.singleton_append, numL_go (by decide)]
    exact numL_zeros rest k
theorem parse_format (t : Int) (hv : vT t = true) : parT (fmtS t) = some t := by
  have hb := vT_true.1 hv
  have e : fmtS t = Lib.itoa (t / 1048576) ++ 46 :: (Lib.repeatL [48] (7 - (Lib.itoa (t % 1048576)).length) ++ Lib.itoa (t % 1048576)) := by simp [fmtS]
  have s0 : -1099511627776 ≤ t / 1048576 := by omega
  have s1 : t / 1048576 ≤ 1099511627776 := by omega
  have p0 : 0 ≤ t % 1048576 := by omega
  have p1 : t % 1048576 < 1048576 := by omega
  have es : t / 1048576 * 1048576 + t % 1048576 = t := by omega
  have hp : numL (Lib.repeatL [48] (7 - (Lib.itoa (t % 1048576)).length) ++ Lib.itoa (t % 1048576)) 0 = t % 1048576 := by
    rw [numL_zeros]
    have e2 : Lib.itoa (t % 1048576) = Lib.decDigits (t % 1048576).toNat ++ [] := by rw [Lib.itoa, if_neg (by omega), List.append_nil]
    rw [e2, numL_dec _ (by omega)]
    show ((t % 1048576).toNat : Int) = t % 1048576
    omega
  have fin : parK (t / 1048576) (t % 1048576) (fmtS t) = some t := by
    rw [parK_yes s0 s1 p1 (by rw [es]; exact hv) (by rw [es]), es]
  have no46 : ∀ c ∈ Lib.itoa (t / 1048576), c ≠ 46 := by
    intro c hc h46
    subst h46
    unfold Lib.itoa at hc
    split at hc
    · rcases List.mem_cons.1 hc with hc | hc
      · exact absurd hc (by decide)
      · have := (dec_digit _ _ hc).1; revert this; decide
    · have := (dec_digit _ _ hc).1; revert this; decide
  unfold parT
  rw [e, cut_dot _ _ no46]
  dsimp only
  rw [hp, ← e]
  by_cases hs : t / 1048576 < 0
  · have e3 : Lib.itoa (t / 1048576) = 45 :: Lib.decDigits (t / 1048576).natAbs := by rw [Lib.itoa, if_pos hs]
    have e4 : Lib.hasPrefix (Lib.itoa (t / 1048576)) [45] = true := by rw [e3]; simp [Lib.hasPrefix, List.isPrefixOf]
    have e5 : Lib.trimPrefix (Lib.itoa (t / 1048576)) [45] = Lib.decDigits (t / 1048576).natAbs ++ [] := by unfold Lib.trimPrefix; rw [e4, if_pos rfl, e3]; simp
    rw [e4, e5, if_pos rfl, numL_dec _ (by omega)]
    show parK (-((t / 1048576).natAbs : Int)) _ _ = _
    rw [show -((t / 1048576).natAbs : Int) = t / 1048576 by omega]
    exact fin
  · have e3 : Lib.itoa (t / 1048576) = Lib.decDigits (t / 1048576).toNat := by rw [Lib.itoa, if_neg hs]
    have e4 : Lib.hasPrefix (Lib.itoa (t / 1048576)) [45] = false := by
      rw [e3]
      have hd := dec_digit (t / 1048576).toNat
      cases hl : Lib.decDigits (t / 1048576).toNat with
      | nil => rfl
      | cons c l =>
        rw [hl] at hd
        have := (hd c (by simp)).1
        unfold Lib.hasPrefix
        simp only [List.isPrefixOf, Bool.and_true, beq_eq_false_iff_ne]
        intro h; subst h; revert this; decide
    have e5 : Lib.trimPrefix (Lib.itoa (t / 1048576)) [45] = Lib.decDigits (t / 1048576).toNat ++ [] := by unfold Lib.trimPrefix; rw [e4, if_neg (by decide), e3, List.append_nil]
    rw [e4, e5, if_neg (by decide), numL_dec _ (by omega)]
    show parK ((t / 1048576).toNat : Int) _ _ = _
    rw [show ((t / 1048576).toNat : Int) = t / 1048576 by omega]
    exact fin
theorem parK_some {k r : Int} {s : List UInt8} {t : Int} (h : parK k r s = some t) : vT t = true ∧ fmtS t = s := by
  unfold parK at h
  split at h
  · rename_i q
    injection h with h
    rw [h] at q
    exact ⟨q.2.2.2.1, q.2.2.2.2⟩
  · cases h
theorem parT_some {s : List UInt8} {t : Int} (h : parT s = some t) : vT t = true ∧ fmtS t = s := parK_some h

end Go.Proofs.YtelmcglckkjmfaaDoor
