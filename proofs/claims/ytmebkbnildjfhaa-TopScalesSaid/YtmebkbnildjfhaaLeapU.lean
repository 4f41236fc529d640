/- Plain law of UTC: the reading that leap.UTC finds is the only one. -/
import Derived.Test.YtmebkbnildjfhaaLeapP
namespace Go.Proofs.Ytmebkbnildjfhaa
open Go.RowKit
set_option linter.unusedSimpArgs false
set_option linter.unusedVariables false

/-- The offset at a second, by the first k elements. -/
def offAt (first : Int) (zs : List (Int × Int)) (s : Int) : Nat → Int
  | 0 => first
  | k + 1 => if (zs.getD k (0, 0)).1 ≤ s then (zs.getD k (0, 0)).2 else offAt first zs s k
def offL (first : Int) (zs : List (Int × Int)) (s : Int) : Int := offAt first zs s zs.length
def stepL (first : Int) (zs : List (Int × Int)) (s : Int) : Int := offL first zs (s + 1) - offL first zs s
def inS (s : Int) : Bool := decide (0 ≤ s) && decide (s ≤ 274877906944)
/-- The second of a reading, ahead of the look at an inserted one. -/
def utS (first : Int) (zs : List (Int × Int)) (tai : Int) : Nat → Int
  | 0 => tai - first
  | k + 1 => if (zs.getD k (0, 0)).1 ≤ tai - (zs.getD k (0, 0)).2 then tai - (zs.getD k (0, 0)).2 else utS first zs tai k
def utL (first : Int) (zs : List (Int × Int)) (tai : Int) : Int := utS first zs tai zs.length
def utB (first : Int) (zs : List (Int × Int)) (tai : Int) : Bool := inS (utL first zs tai - 1) && decide (stepL first zs (utL first zs tai - 1) = 1) && decide (tai - offL first zs (utL first zs tai - 1) = utL first zs tai)
def utN (first : Int) (zs : List (Int × Int)) (tai : Int) : Int := if utB first zs tai then utL first zs tai - 1 else utL first zs tai
/-- A reading is one of the instant's second. -/
def taiB (first : Int) (zs : List (Int × Int)) (tai c : Int) (l : Bool) : Bool := inS c && (!l || decide (stepL first zs c = 1)) && decide (stepL first zs c ≠ -1) && decide (c + offL first zs c + (if l then 1 else 0) = tai)
theorem inS_true {s : Int} : inS s = true ↔ 0 ≤ s ∧ s ≤ 274877906944 := by simp [inS]
section
variable {first : Int} {zs : List (Int × Int)}
theorem LVal.gap (h : LVal first zs) {i j : Nat} (hij : i < j) (hj : j < zs.length) : (zs.getD i (0, 0)).1 + 172800 ≤ (zs.getD j (0, 0)).1 := by
  induction j with
  | zero => omega
  | succ j ih =>
    have h2 := (h.2.2.2 (j + 1) hj).2.1
    rw [prevL_succ] at h2
    by_cases e : i = j
    · subst e; omega
    · have := ih (by omega) (by omega); omega
theorem LVal.near (h : LVal first zs) {i : Nat} (hi : i < zs.length) : (zs.getD i (0, 0)).2 = oldL first zs i + 1 ∨ (zs.getD i (0, 0)).2 = oldL first zs i - 1 := (h.at_ hi).2.2.2.2
theorem LVal.offs (h : LVal first zs) {i j : Nat} (hij : i < j) (hj : j < zs.length) : (zs.getD i (0, 0)).1 + (zs.getD i (0, 0)).2 + 172000 ≤ (zs.getD j (0, 0)).1 + (zs.getD j (0, 0)).2 := by
  have h1 := h.gap hij hj
  have h2 := (h.at_ (i := i) (by omega)).2.2
  have h3 := (h.at_ (i := j) (by omega)).2.2
  omega
/-- Where a number stands among numbers that ascend. -/
theorem place (f : Nat → Int) (s : Int) : ∀ n, (∀ i j, i < j → j < n → f i < f j) → ∃ k, k ≤ n ∧ (∀ j, j < k → f j ≤ s) ∧ ∀ j, k ≤ j → j < n → s < f j
  | 0, _ => ⟨0, by omega, by omega, by omega⟩
  | n + 1, hf => by
    obtain ⟨k, hk, h1, h2⟩ := place f s n (fun i j a b => hf i j a (by omega))
    by_cases hkn : k < n
    · have := h2 k (Nat.le_refl _) hkn
      have := hf k n hkn (by omega)
      exact ⟨k, by omega, h1, fun j a b => by
        by_cases e : j = n
        · subst e; omega
        · exact h2 j a (by omega)⟩
    · obtain rfl : k = n := by omega
      by_cases hs : f k ≤ s
      · exact ⟨k + 1, by omega, fun j a => by
          by_cases e : j = k
          · subst e; exact hs
          · exact h1 j (by omega), by omega⟩
      · exact ⟨k, by omega, h1, fun j a b => by
          obtain rfl : j = k := by omega
          omega⟩
theorem offAt_eq {s : Int} {k : Nat} : ∀ n, k ≤ n → (∀ j, k ≤ j → j < n → s < (zs.getD j (0, 0)).1) → (k = 0 ∨ (zs.getD (k - 1) (0, 0)).1 ≤ s) → offAt first zs s n = oldL first zs k
  | 0, hk, _, _ => by
    obtain rfl : k = 0 := by omega
    rfl
  | n + 1, hk, h1, h2 => by
    unfold offAt
    by_cases e : k = n + 1
    · subst e
      rw [if_pos (by rcases h2 with h2 | h2; omega; rwa [Nat.add_sub_cancel] at h2), oldL_succ]
    · rw [if_neg (by have := h1 n (by omega) (by omega); omega)]
      exact offAt_eq n (by omega) (fun j a b => h1 j a (by omega)) h2
/-- The offset between two elements. -/
theorem offL_eq (hv : LVal first zs) {s : Int} {k : Nat} (hk : k ≤ zs.length) (h1 : k < zs.length → s < (zs.getD k (0, 0)).1) (h2 : k = 0 ∨ (zs.getD (k - 1) (0, 0)).1 ≤ s) : offL first zs s = oldL first zs k := by
  refine offAt_eq _ hk (fun j a b => ?_) h2
  by_cases e : j = k
  · subst e; exact h1 b
  · have := hv.gap (i := k) (j := j) (by omega) b
    have := h1 (by omega)
    omega
theorem offL_place (hv : LVal first zs) (s : Int) : ∃ k, k ≤ zs.length ∧ offL first zs s = oldL first zs k ∧ (k < zs.length → s < (zs.getD k (0, 0)).1) ∧ (k = 0 ∨ (zs.getD (k - 1) (0, 0)).1 ≤ s) := by
  obtain ⟨k, hk, h1, h2⟩ := place (fun i => (zs.getD i (0, 0)).1) s zs.length (fun i j a b => by have := hv.gap a b; omega)
  have e1 : k < zs.length → s < (zs.getD k (0, 0)).1 := fun h => h2 k (Nat.le_refl _) h
  have e2 : k = 0 ∨ (zs.getD (k - 1) (0, 0)).1 ≤ s := by
    by_cases e : k = 0
    · exact .inl e
    · exact .inr (h1 (k - 1) (by omega))
  exact ⟨k, hk, offL_eq hv hk e1 e2, e1, e2⟩
/-- The step behind a second. -/
theorem stepL_cases (hv : LVal first zs) (s : Int) : ∃ k, k ≤ zs.length ∧ offL first zs s = oldL first zs k ∧ (k = 0 ∨ (zs.getD (k - 1) (0, 0)).1 ≤ s) ∧
    ((stepL first zs s = 0 ∧ (k < zs.length → s + 1 < (zs.getD k (0, 0)).1)) ∨ (k < zs.length ∧ s + 1 = (zs.getD k (0, 0)).1 ∧ stepL first zs s = (zs.getD k (0, 0)).2 - oldL first zs k)) := by
  obtain ⟨k, hk, h0, h1, h2⟩ := offL_place hv s
  refine ⟨k, hk, h0, h2, ?_⟩
  by_cases hs : k < zs.length ∧ (zs.getD k (0, 0)).1 ≤ s + 1
  · have h3 := h1 hs.1
    refine .inr ⟨hs.1, by omega, ?_⟩
    unfold stepL
    rw [h0, offL_eq hv (k := k + 1) (by omega) (fun h => by have := hv.gap (i := k) (j := k + 1) (by omega) h; omega) (.inr (by rw [Nat.add_sub_cancel]; exact hs.2)), oldL_succ]
  · have h3 : k < zs.length → s + 1 < (zs.getD k (0, 0)).1 := fun h => by omega
    refine .inl ⟨?_, h3⟩
    unfold stepL
    rw [h0, offL_eq hv hk h3 (by omega)]
    omega
theorem stepL_range (hv : LVal first zs) (s : Int) : stepL first zs s = 0 ∨ stepL first zs s = 1 ∨ stepL first zs s = -1 := by
  obtain ⟨k, hk, _, _, h | ⟨h1, h2, h3⟩⟩ := stepL_cases hv s
  · exact .inl h.1
  · have := hv.near h1; omega
theorem reading_mono (hv : LVal first zs) (c : Int) : ∀ n : Nat, c + offL first zs c ≤ c + n + offL first zs (c + n)
  | 0 => by simp
  | n + 1 => by
    have ih := reading_mono hv c n
    have h := stepL_range hv (c + n)
    unfold stepL at h
    rw [show c + ((n + 1 : Nat) : Int) = c + n + 1 by omega]
    omega
/-- .. whatever its range. -/
def taiP (first : Int) (zs : List (Int × Int)) (tai c : Int) (l : Bool) : Prop := (l = true → stepL first zs c = 1) ∧ stepL first zs c ≠ -1 ∧ c + offL first zs c + (if l then 1 else 0) = tai
theorem taiB_true {tai c : Int} {l : Bool} : taiB first zs tai c l = true ↔ inS c = true ∧ taiP first zs tai c l := by
  unfold taiB taiP
  simp only [Bool.and_eq_true, Bool.or_eq_true, decide_eq_true_eq, Bool.not_eq_true']
  cases l <;> simp [and_assoc]
theorem taiB_lt (hv : LVal first zs) {tai c c' : Int} {l l' : Bool} (h : taiP first zs tai c l) (h' : taiP first zs tai c' l') : ¬ c < c' := by
  intro hlt
  obtain ⟨a2, a3, a4⟩ := h
  obtain ⟨b2, b3, b4⟩ := h'
  have hs := stepL_range hv c
  obtain ⟨n, hn⟩ : ∃ n : Nat, c' = c + 1 + n := ⟨(c' - c - 1).toNat, by omega⟩
  have hm := reading_mono hv (c + 1) n
  rw [← hn] at hm
  have e : stepL first zs c = offL first zs (c + 1) - offL first zs c := rfl
  have hl : (if l then (1 : Int) else 0) ≤ stepL first zs c := by
    cases l
    · simp; omega
    · simp; have := a2 rfl; omega
  have hl' : (0 : Int) ≤ (if l' then (1 : Int) else 0) := by split <;> omega
  omega
theorem taiB_uniq (hv : LVal first zs) {tai c c' : Int} {l l' : Bool} (h : taiP first zs tai c l) (h' : taiP first zs tai c' l') : c = c' ∧ l = l' := by
  have h1 := taiB_lt hv h h'
  have h2 := taiB_lt hv h' h
  obtain rfl : c = c' := by omega
  obtain ⟨_, _, a4⟩ := h
  obtain ⟨_, _, b4⟩ := h'
  refine ⟨rfl, ?_⟩
  cases l <;> cases l' <;> simp at a4 b4 <;> first | rfl | omega
theorem utS_eq {tai : Int} {k : Nat} : ∀ n, k ≤ n → (∀ j, k ≤ j → j < n → tai < (zs.getD j (0, 0)).1 + (zs.getD j (0, 0)).2) → (k = 0 ∨ (zs.getD (k - 1) (0, 0)).1 + (zs.getD (k - 1) (0, 0)).2 ≤ tai) → utS first zs tai n = tai - oldL first zs k
  | 0, hk, _, _ => by
    obtain rfl : k = 0 := by omega
    rfl
  | n + 1, hk, h1, h2 => by
    unfold utS
    by_cases e : k = n + 1
    · subst e
      rw [if_pos (by rcases h2 with h2 | h2; omega; rw [Nat.add_sub_cancel] at h2; omega), oldL_succ]
    · rw [if_neg (by have := h1 n (by omega) (by omega); omega)]
      exact utS_eq n (by omega) (fun j a b => h1 j a (by omega)) h2
/-- What leap.UTC finds: the reading, and where it lies. -/
theorem ut_found (hv : LVal first zs) (tai : Int) : ∃ k, k ≤ zs.length ∧ utL first zs tai = tai - oldL first zs k ∧ (k = 0 ∨ (zs.getD (k - 1) (0, 0)).1 + (zs.getD (k - 1) (0, 0)).2 ≤ tai) ∧ (k < zs.length → tai < (zs.getD k (0, 0)).1 + (zs.getD k (0, 0)).2) ∧
    utB first zs tai = decide (k < zs.length ∧ (zs.getD k (0, 0)).2 = oldL first zs k + 1 ∧ tai - oldL first zs k = (zs.getD k (0, 0)).1) ∧ taiP first zs tai (utN first zs tai) (utB first zs tai) := by
  obtain ⟨k, hk, h1, h2⟩ := place (fun i => (zs.getD i (0, 0)).1 + (zs.getD i (0, 0)).2) tai zs.length (fun i j a b => by have := hv.offs a b; omega)
  have e1 : k < zs.length → tai < (zs.getD k (0, 0)).1 + (zs.getD k (0, 0)).2 := fun h => h2 k (Nat.le_refl _) h
  have e2 : k = 0 ∨ (zs.getD (k - 1) (0, 0)).1 + (zs.getD (k - 1) (0, 0)).2 ≤ tai := by
    by_cases e : k = 0
    · exact .inl e
    · exact .inr (h1 (k - 1) (by omega))
  have hS : utL first zs tai = tai - oldL first zs k := utS_eq _ hk h2 e2
  have e2' : k = 0 ∨ (zs.getD (k - 1) (0, 0)).1 ≤ tai - oldL first zs k := by
    by_cases e : k = 0
    · exact .inl e
    · have : oldL first zs k = (zs.getD (k - 1) (0, 0)).2 := by unfold oldL; rw [if_neg e]
      omega
  have gp : k ≠ 0 → k < zs.length → (zs.getD (k - 1) (0, 0)).1 + 172800 ≤ (zs.getD k (0, 0)).1 := fun a b => hv.gap (by omega) b
  refine ⟨k, hk, hS, e2, e1, ?_⟩
  by_cases hB : k < zs.length ∧ (zs.getD k (0, 0)).2 = oldL first zs k + 1 ∧ tai - oldL first zs k = (zs.getD k (0, 0)).1
  · obtain ⟨b1, b2, b3⟩ := hB
    have o1 : offL first zs (tai - oldL first zs k - 1) = oldL first zs k := offL_eq hv hk (fun _ => by omega) (by
      by_cases e : k = 0
      · exact .inl e
      · have := gp e b1; exact .inr (by omega))
    have o2 : offL first zs (tai - oldL first zs k) = (zs.getD k (0, 0)).2 := by
      rw [offL_eq hv (k := k + 1) (by omega) (fun h => by have := hv.gap (i := k) (j := k + 1) (by omega) h; omega) (.inr (by rw [Nat.add_sub_cancel]; omega)), oldL_succ]
    have st : stepL first zs (tai - oldL first zs k - 1) = 1 := by
      unfold stepL
      rw [show tai - oldL first zs k - 1 + 1 = tai - oldL first zs k by omega, o1, o2]; omega
    have hi : inS (tai - oldL first zs k - 1) = true := by
      have := (hv.at_ b1); rw [inS_true]; omega
    have hb : utB first zs tai = true := by
      unfold utB
      rw [hS, hi, st, o1]; simp only [Bool.true_and, decide_true, Bool.and_eq_true, decide_eq_true_eq]
    have hn : utN first zs tai = tai - oldL first zs k - 1 := by unfold utN; rw [if_pos hb, hS]
    refine ⟨by rw [hb]; exact (decide_eq_true ⟨b1, b2, b3⟩).symm, ?_⟩
    rw [hn, hb]
    refine ⟨fun _ => st, by omega, by rw [o1, if_pos rfl]; omega⟩
  · have s1 : k < zs.length → tai - oldL first zs k < (zs.getD k (0, 0)).1 := fun h => by
      have := hv.near h; have := e1 h; omega
    have o1 : offL first zs (tai - oldL first zs k) = oldL first zs k := offL_eq hv hk s1 e2'
    have st : stepL first zs (tai - oldL first zs k) ≠ -1 := by
      intro he
      unfold stepL at he
      rw [o1] at he
      by_cases hc : k < zs.length ∧ (zs.getD k (0, 0)).1 ≤ tai - oldL first zs k + 1
      · rw [offL_eq hv (k := k + 1) (by omega) (fun h => by have := hv.gap (i := k) (j := k + 1) (by omega) h; have := s1 hc.1; omega) (.inr (by rw [Nat.add_sub_cancel]; exact hc.2)), oldL_succ] at he
        have := e1 hc.1
        omega
      · rw [offL_eq hv hk (fun h => by omega) (by omega)] at he
        omega
    have hb : utB first zs tai = false := by
      cases hb : utB first zs tai with
      | false => rfl
      | true =>
        exfalso
        unfold utB at hb
        rw [hS] at hb
        simp only [Bool.and_eq_true, decide_eq_true_eq] at hb
        obtain ⟨⟨_, q1⟩, q2⟩ := hb
        unfold stepL at q1
        rw [show tai - oldL first zs k - 1 + 1 = tai - oldL first zs k by omega, o1] at q1
        omega
    have hn : utN first zs tai = tai - oldL first zs k := by unfold utN; rw [hb, hS]; rfl
    refine ⟨by rw [hb]; exact (decide_eq_false hB).symm, ?_⟩
    rw [hn, hb]
    exact ⟨fun h => (by cases h), st, by rw [o1]; simp⟩
/-- The only reading of an instant. -/
theorem taiB_only (hv : LVal first zs) (tai c : Int) (l : Bool) : taiB first zs tai c l = (inS (utN first zs tai) && decide (c = utN first zs tai ∧ l = utB first zs tai)) := by
  obtain ⟨k, hk, hS, h2, h1, hb, hf⟩ := ut_found hv tai
  by_cases hc : taiP first zs tai c l
  · obtain ⟨rfl, rfl⟩ := taiB_uniq hv hc hf
    have e : taiB first zs tai (utN first zs tai) (utB first zs tai) = inS (utN first zs tai) := by
      cases hi : inS (utN first zs tai) with
      | true => exact taiB_true.2 ⟨hi, hf⟩
      | false =>
        cases h : taiB first zs tai (utN first zs tai) (utB first zs tai) with
        | false => rfl
        | true => rw [(taiB_true.1 h).1] at hi; cases hi
    rw [e]; simp
  · have e : taiB first zs tai c l = false := by
      cases h : taiB first zs tai c l with
      | false => rfl
      | true => exact absurd (taiB_true.1 h).2 hc
    rw [e, show decide (c = utN first zs tai ∧ l = utB first zs tai) = false from decide_eq_false (by rintro ⟨rfl, rfl⟩; exact hc hf), Bool.and_false]
end
end Go.Proofs.Ytmebkbnildjfhaa
