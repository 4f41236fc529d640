/- The plain law of sweeps: what events make of it, one after the other. -/
import Derived.Test.YtlfkkfdolnkjfaaSweepP
namespace Go.Proofs.Ytlfkkfdolnkjfaa
open Go.RowKit Go.Shelf Go.Sort
set_option linter.unusedSimpArgs false
set_option linter.unusedVariables false

def psum (es : List (Int × Int)) : Int := es.foldr (fun e a => e.2 + a) 0
theorem psum_cons (e : Int × Int) (es : List (Int × Int)) : psum (e :: es) = e.2 + psum es := rfl
theorem psum_app (a b : List (Int × Int)) : psum (a ++ b) = psum a + psum b := by
  induction a with
  | nil => simp [psum]
  | cons p a ih => rw [List.cons_append, psum_cons, psum_cons, ih]; omega
theorem psum_perm {a b : List (Int × Int)} (h : a.Perm b) : psum a = psum b := by
  induction h with
  | nil => rfl
  | cons x _ ih => rw [psum_cons, psum_cons, ih]
  | swap x y l => simp only [psum_cons]; omega
  | trans _ _ h1 h2 => rw [h1, h2]
theorem psum_evs (zs : List (Int × Int)) : psum (evs zs) = 0 := by
  induction zs with
  | nil => rfl
  | cons z zs ih =>
    have e : evs (z :: zs) = (z.1, 1) :: (z.2 + 1, -1) :: evs zs := by simp [evs]
    rw [e, psum_cons, psum_cons, ih]; omega
theorem evs_length (zs : List (Int × Int)) : (evs zs).length = 2 * zs.length := by
  induction zs with
  | nil => rfl
  | cons z zs ih =>
    have e : evs (z :: zs) = (z.1, 1) :: (z.2 + 1, -1) :: evs zs := by simp [evs]
    rw [e, List.length_cons, List.length_cons, ih, List.length_cons]; omega
theorem evs_snoc (zs : List (Int × Int)) (z : Int × Int) : evs (zs ++ [z]) = evs zs ++ [(z.1, 1), (z.2 + 1, -1)] := by simp [evs]
theorem sumE_all {es : List (Int × Int)} {t : Int} (h : ∀ e ∈ es, e.1 ≤ t) : sumE es t = psum es := by
  induction es with
  | nil => rfl
  | cons e es ih => rw [sumE_cons, psum_cons, ih (fun x hx => h x (by simp [hx])), if_pos (h e (by simp))]
theorem sumE_none {es : List (Int × Int)} {t : Int} (h : ∀ e ∈ es, t < e.1) : sumE es t = 0 := by
  induction es with
  | nil => rfl
  | cons e es ih => rw [sumE_cons, ih (fun x hx => h x (by simp [hx])), if_neg (by have := h e (by simp); omega)]; rfl
/-- Between two neighbours, what the first ones have added up to. -/
theorem sumE_split {ds : List (Int × Int)} {k : Nat} {t : Int} (h1 : ∀ e ∈ ds.take k, e.1 ≤ t) (h2 : ∀ e ∈ ds.drop k, t < e.1) : sumE ds t = psum (ds.take k) := by
  conv => lhs; rw [← List.take_append_drop k ds]
  rw [sumE_app, sumE_all h1, sumE_none h2]; omega
theorem sorted_take {ds : List (Int × Int)} (h : ds.Pairwise fun x y => x.1 ≤ y.1) {k : Nat} (hk : k < ds.length) : ∀ e ∈ ds.take (k + 1), e.1 ≤ (ds.getD k (0, 0)).1 := by
  intro e he
  obtain ⟨i, hi, rfl⟩ := List.mem_iff_getElem.1 he
  rw [List.length_take] at hi
  rw [List.getElem_take, List.getD_eq_getElem?_getD, List.getElem?_eq_getElem hk]
  by_cases c : i = k
  · subst c; exact Int.le_refl _
  · exact (List.pairwise_iff_getElem.1 h) i k (by omega) hk (by omega)
theorem sorted_drop {ds : List (Int × Int)} (h : ds.Pairwise fun x y => x.1 ≤ y.1) {k : Nat} (hk : k < ds.length) : ∀ e ∈ ds.drop k, (ds.getD k (0, 0)).1 ≤ e.1 := by
  intro e he
  obtain ⟨i, hi, rfl⟩ := List.mem_iff_getElem.1 he
  rw [List.length_drop] at hi
  rw [List.getElem_drop, List.getD_eq_getElem?_getD, List.getElem?_eq_getElem hk]
  by_cases c : i = 0
  · subst c; exact Int.le_refl _
  · exact (List.pairwise_iff_getElem.1 h) k (k + i) hk (by omega) (by omega)
/-- The pieces, event after event. -/
def skipE (ds : List (Int × Int)) (k : Nat) : Prop := psum (ds.take (k + 1)) = 0 ∨ k + 1 = ds.length ∨ (ds.getD (k + 1) (0, 0)).1 = (ds.getD k (0, 0)).1
instance (ds : List (Int × Int)) (k : Nat) : Decidable (skipE ds k) := by unfold skipE; infer_instance
def pcsAt (ds : List (Int × Int)) : Nat → List Pc
  | 0 => []
  | k + 1 => if skipE ds k then pcsAt ds k else addP (pcsAt ds k) ⟨(ds.getD k (0, 0)).1, (ds.getD (k + 1) (0, 0)).1 - 1, psum (ds.take (k + 1))⟩
theorem pcsAt_length (ds : List (Int × Int)) : ∀ k, (pcsAt ds k).length ≤ k
  | 0 => Nat.le_refl _
  | k + 1 => by
    have ih := pcsAt_length ds k
    unfold pcsAt
    split
    · omega
    · have := addP_length (pcsAt ds k) ⟨(ds.getD k (0, 0)).1, (ds.getD (k + 1) (0, 0)).1 - 1, psum (ds.take (k + 1))⟩; omega
theorem pcsAt_law {ds : List (Int × Int)} (hs : ds.Pairwise fun x y => x.1 ≤ y.1) (h0 : psum ds = 0) (hn : ∀ t, 0 ≤ sumE ds t) : ∀ k, k ≤ ds.length → PCan (pcsAt ds k) ∧ (∀ q ∈ pcsAt ds k, k < ds.length → q.hi < (ds.getD k (0, 0)).1) ∧ ∀ t, (k < ds.length → t < (ds.getD k (0, 0)).1) → cntP (pcsAt ds k) t = sumE ds t
  | 0, _ => by
    refine ⟨PCan.nil, by simp [pcsAt], fun t ht => ?_⟩
    by_cases c : 0 < ds.length
    · rw [sumE_none (fun e he => by have := sorted_drop hs c e (by simpa using he); have := ht c; omega)]; rfl
    · rw [List.length_eq_zero_iff.1 (show ds.length = 0 by omega)]; rfl
  | k + 1, hk => by
    obtain ⟨i1, i2, i3⟩ := pcsAt_law hs h0 hn k (by omega)
    have i2 := fun q hq => i2 q hq (by omega)
    have i3 := fun t ht => i3 t (fun _ => ht)
    have tk := sorted_take hs (k := k) (by omega)
    -- behind the k-th event all earlier pieces have ended
    have past : ∀ t, (ds.getD k (0, 0)).1 ≤ t → cntP (pcsAt ds k) t = 0 := fun t ht => cntP_above (fun q hq => by have := i2 q hq; omega)
    by_cases c : k + 1 = ds.length
    · have e : pcsAt ds (k + 1) = pcsAt ds k := by
        show (if skipE ds k then _ else _) = _
        rw [if_pos (show skipE ds k from .inr (.inl c))]
      rw [e]
      refine ⟨i1, fun q hq h => by omega, fun t _ => ?_⟩
      by_cases ct : t < (ds.getD k (0, 0)).1
      · exact i3 t ct
      · rw [past t (by omega), ← h0]
        refine (sumE_all (fun x hx => ?_)).symm
        have := tk x (by rw [c, List.take_length]; exact hx)
        omega
    · have hk1 : k + 1 < ds.length := by omega
      have dr := sorted_drop hs (k := k + 1) hk1
      have xy : (ds.getD k (0, 0)).1 ≤ (ds.getD (k + 1) (0, 0)).1 := sorted_take hs (k := k + 1) hk1 (ds.getD k (0, 0)) (by
        rw [List.getD_eq_getElem?_getD, List.getElem?_eq_getElem (show k < ds.length by omega)]
        show ds[k] ∈ _
        exact List.mem_take_iff_getElem.2 ⟨k, by omega, rfl⟩)
      have mid : ∀ t, (ds.getD k (0, 0)).1 ≤ t → t < (ds.getD (k + 1) (0, 0)).1 → sumE ds t = psum (ds.take (k + 1)) := fun t h1 h2 =>
        sumE_split (fun e he => by have := tk e he; omega) (fun e he => by have := dr e he; omega)
      by_cases cs : skipE ds k
      · have e : pcsAt ds (k + 1) = pcsAt ds k := by
          show (if skipE ds k then _ else _) = _
          rw [if_pos cs]
        rw [e]
        refine ⟨i1, fun q hq _ => by have := i2 q hq; omega, fun t ht => ?_⟩
        have ht := ht hk1
        by_cases ct : t < (ds.getD k (0, 0)).1
        · exact i3 t ct
        · rcases cs with cs | cs | cs
          · rw [past t (by omega), mid t (by omega) ht, cs]
          · exact absurd cs c
          · omega
      · have e : pcsAt ds (k + 1) = addP (pcsAt ds k) ⟨(ds.getD k (0, 0)).1, (ds.getD (k + 1) (0, 0)).1 - 1, psum (ds.take (k + 1))⟩ := by
          show (if skipE ds k then _ else _) = _
          rw [if_neg cs]
        have c1 : psum (ds.take (k + 1)) ≠ 0 := fun h => cs (.inl h)
        have c2 : (ds.getD (k + 1) (0, 0)).1 ≠ (ds.getD k (0, 0)).1 := fun h => cs (.inr (.inr h))
        have c3 : 0 ≤ psum (ds.take (k + 1)) := by rw [← mid _ (Int.le_refl _) (by omega)]; exact hn _
        obtain ⟨a1, a2, a3⟩ := addP_law i1 (p := ⟨(ds.getD k (0, 0)).1, (ds.getD (k + 1) (0, 0)).1 - 1, psum (ds.take (k + 1))⟩) ⟨by simp only; omega, by simp only; omega⟩ i2
        rw [e]
        refine ⟨a1, fun q hq _ => by have := a2 q hq; simp only at this; omega, fun t ht => ?_⟩
        have ht := ht hk1
        rw [a3]
        unfold pcAt
        simp only
        by_cases ct : t < (ds.getD k (0, 0)).1
        · rw [i3 t ct, if_neg (by omega)]; omega
        · rw [past t (by omega), if_pos (by omega), mid t (by omega) ht]; omega
/-- The pieces of spans: their profile. -/
theorem pieces_law {zs ds : List (Int × Int)} (hv : ∀ z ∈ zs, vS z.1 z.2 = true) (h : SortedBy loC (evs zs) ds) : PCan (pcsAt ds ds.length) ∧ ∀ t, cntP (pcsAt ds ds.length) t = cntS zs t := by
  have hs := sorted_lo h
  have he : ∀ t, sumE ds t = cntS zs t := fun t => by rw [sumE_perm h.1, evs_sum hv]
  obtain ⟨a, _, b⟩ := pcsAt_law hs (by rw [psum_perm h.1, psum_evs]) (fun t => by rw [he]; exact (cntS_nonneg zs t).1) ds.length (Nat.le_refl _)
  exact ⟨a, fun t => by rw [b t (fun h => by omega), he]⟩
theorem pieces_step {zs ds : List (Int × Int)} (hv : ∀ z ∈ zs, vS z.1 z.2 = true) (h : SortedBy loC (evs zs) ds) (k : Nat) (hk : k ≤ ds.length) : PCan (pcsAt ds k) ∧ ∀ q ∈ pcsAt ds k, k < ds.length → q.hi < (ds.getD k (0, 0)).1 := by
  have hs := sorted_lo h
  have he : ∀ t, sumE ds t = cntS zs t := fun t => by rw [sumE_perm h.1, evs_sum hv]
  obtain ⟨a, b, _⟩ := pcsAt_law hs (by rw [psum_perm h.1, psum_evs]) (fun t => by rw [he]; exact (cntS_nonneg zs t).1) k hk
  exact ⟨a, b⟩
theorem addP_lo {out : List Pc} {p : Pc} {b : Int} (h : ∀ q ∈ out, b ≤ q.lo) (hp : b ≤ p.lo) : ∀ q ∈ addP out p, b ≤ q.lo := by
  intro q hq
  unfold addP at hq
  split at hq
  · next hc =>
    rcases List.mem_or_eq_of_mem_set hq with hq | rfl
    · exact h q hq
    · simp only
      refine h _ ?_
      rw [List.getD_eq_getElem?_getD, List.getElem?_eq_getElem (by omega)]
      exact List.getElem_mem _
  · rcases List.mem_append.1 hq with hq | hq
    · exact h q hq
    · rw [List.mem_singleton.1 hq]; exact hp
theorem pcs_lo {ds : List (Int × Int)} {b : Int} (h : ∀ e ∈ ds, b ≤ e.1) : ∀ k, k ≤ ds.length → ∀ q ∈ pcsAt ds k, b ≤ q.lo
  | 0, _ => by simp [pcsAt]
  | k + 1, hk => by
    have ih := pcs_lo h k (by omega)
    have hm := h (ds.getD k (0, 0)) (by rw [List.getD_eq_getElem?_getD, List.getElem?_eq_getElem (by omega)]; exact List.getElem_mem _)
    intro q hq
    unfold pcsAt at hq
    split at hq
    · exact ih q hq
    · exact addP_lo ih hm q hq
end Go.Proofs.Ytlfkkfdolnkjfaa
