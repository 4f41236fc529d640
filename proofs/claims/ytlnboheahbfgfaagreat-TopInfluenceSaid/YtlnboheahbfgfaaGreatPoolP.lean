/- Plain law of a drawn sample: what swapping i with a place at or behind i leaves. -/
set_option linter.unusedSimpArgs false
namespace Go.Proofs.YtlnboheahbfgfaaGreat
/-- Two places exchanged. -/
def swp (l : List Int) (i j : Nat) : List Int := (l.set i (l.getD j 0)).set j (l.getD i 0)
/-- The list behind so many draws. -/
def drS (f : Nat → Nat) (n : Nat) : Nat → List Int
  | 0 => (List.range n).map Int.ofNat
  | i + 1 => swp (drS f n i) i (i + f i)
theorem swp_length (l : List Int) (i j : Nat) : (swp l i j).length = l.length := by simp [swp]
theorem drS_length (f : Nat → Nat) (n : Nat) : ∀ i, (drS f n i).length = n
  | 0 => by simp [drS]
  | i + 1 => by rw [drS, swp_length, drS_length f n i]
theorem swp_get {l : List Int} {i j : Nat} (hi : i < l.length) (hj : j < l.length) (p : Nat) : (swp l i j).getD p 0 = if p = i then l.getD j 0 else if p = j then l.getD i 0 else l.getD p 0 := by
  unfold swp
  rw [List.getD_eq_getElem?_getD, List.getElem?_set, List.length_set]
  by_cases h1 : j = p
  · subst h1
    rw [if_pos rfl, if_pos hj]
    by_cases h2 : j = i
    · subst h2; rw [if_pos rfl]; rfl
    · rw [if_neg h2, if_pos rfl]; rfl
  · rw [if_neg h1, List.getElem?_set]
    by_cases h2 : i = p
    · subst h2; rw [if_pos rfl, if_pos hi, if_pos rfl]; rfl
    · rw [if_neg h2, if_neg (fun h => h2 h.symm), if_neg (fun h => h1 h.symm), List.getD_eq_getElem?_getD]
theorem drS_zero (f : Nat → Nat) (n p : Nat) (hp : p < n) : (drS f n 0).getD p 0 = p := by
  simp [drS, List.getD_eq_getElem?_getD, hp]
/-- The draws keep within. -/
def DrF (f : Nat → Nat) (n k : Nat) : Prop := ∀ i, i < k → i + f i < n
theorem drS_inj {f : Nat → Nat} {n k : Nat} (h : DrF f n k) : ∀ i, i ≤ k → ∀ p q, p < n → q < n → (drS f n i).getD p 0 = (drS f n i).getD q 0 → p = q
  | 0, _, p, q, hp, hq, e => by rw [drS_zero f n p hp, drS_zero f n q hq] at e; omega
  | i + 1, hi, p, q, hp, hq, e => by
    have h1 := h i (by omega)
    have hl := drS_length f n i
    have ih := drS_inj h i (by omega)
    rw [drS, swp_get (by omega) (by omega), swp_get (by omega) (by omega)] at e
    by_cases a1 : p = i <;> by_cases a2 : q = i <;> by_cases a3 : p = i + f i <;> by_cases a4 : q = i + f i <;> simp only [a1, a2, a3, a4, if_pos, if_neg, not_false_eq_true, if_true, if_false] at e <;> first | omega | (have := ih _ _ (by omega) (by omega) e; omega) | (repeat' split at e) <;> (have := ih _ _ (by omega) (by omega) e; omega)
theorem drS_in {f : Nat → Nat} {n k : Nat} (h : DrF f n k) : ∀ i, i ≤ k → ∀ p, p < n → 0 ≤ (drS f n i).getD p 0 ∧ (drS f n i).getD p 0 < n
  | 0, _, p, hp => by rw [drS_zero f n p hp]; omega
  | i + 1, hi, p, hp => by
    have h1 := h i (by omega)
    have hl := drS_length f n i
    have ih := drS_in h i (by omega)
    rw [drS, swp_get (by omega) (by omega)]
    split
    · exact ih _ (by omega)
    · split
      · exact ih _ (by omega)
      · exact ih _ hp
end Go.Proofs.YtlnboheahbfgfaaGreat
