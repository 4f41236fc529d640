/- The plain law of the reference's Union: one pass that joins what touches; lists with gaps that hold the same instants are the same. -/
import Derived.Test.YtlfkkfdolnkjfaaUnionP
namespace Go.Proofs.Ytlfkkfdolnkjfaa
open Go.RowKit Go.Shelf Go.Sort
set_option linter.unusedSimpArgs false
set_option linter.unusedVariables false

def stepP (st : Int × Bool × List (Int × Int)) (x : Int × Int) : Int × Bool × List (Int × Int) := if x.1 ≤ st.1 + 1 then (max st.1 x.2, st.2.1 || decide (st.1 < x.2), st.2.2) else (st.1, st.2.1, st.2.2 ++ [x])
/-- One pass: what touches the span up to hi is joined to it, the others are left. -/
def passP (hi : Int) (zs : List (Int × Int)) : Int × Bool × List (Int × Int) := zs.foldl stepP (hi, false, [])
theorem passP_snoc (hi : Int) (zs : List (Int × Int)) (x : Int × Int) : passP hi (zs ++ [x]) = stepP (passP hi zs) x := by simp [passP]
theorem anyIn_app (t : Int) (a b : List (Int × Int)) : anyIn t (a ++ b) = (anyIn t a || anyIn t b) := by simp [anyIn]
theorem anyIn_cons (t : Int) (x : Int × Int) (a : List (Int × Int)) : anyIn t (x :: a) = (inS t x || anyIn t a) := by simp [anyIn]
theorem inS_join {t lo hi a b : Int} (h0 : vS lo hi = true) (h1 : vS a b = true) (h2 : lo ≤ a) (h3 : a ≤ hi + 1) : inS t (lo, max hi b) = (inS t (lo, hi) || inS t (a, b)) := by
  have g0 := vS_true.1 h0
  have g1 := vS_true.1 h1
  have g2 : vS lo (max hi b) = true := vS_true.2 ⟨by omega, by omega, by omega⟩
  unfold inS
  simp only [h0, h1, g2, Bool.true_and]
  rw [Bool.eq_iff_iff]
  simp only [Bool.or_eq_true, Bool.and_eq_true, decide_eq_true_eq]
  omega
/-- What a pass does. -/
theorem pass_law (lo hi : Int) (h0 : vS lo hi = true) (zs : List (Int × Int)) (hv : ∀ x ∈ zs, vS x.1 x.2 = true ∧ lo ≤ x.1) :
    hi ≤ (passP hi zs).1 ∧ vS lo (passP hi zs).1 = true ∧ (∀ x ∈ (passP hi zs).2.2, x ∈ zs) ∧ (passP hi zs).2.2.length ≤ zs.length ∧ ((passP hi zs).2.1 = false → (passP hi zs).1 = hi ∧ ∀ x ∈ (passP hi zs).2.2, hi + 1 < x.1) ∧
      ((passP hi zs).2.1 = true ∨ (∃ x ∈ zs, x.1 ≤ hi + 1) → (passP hi zs).2.2.length < zs.length) ∧ ∀ t, (inS t (lo, (passP hi zs).1) || anyIn t (passP hi zs).2.2) = (inS t (lo, hi) || anyIn t zs) := by
  suffices H : ∀ n, ∀ zs : List (Int × Int), zs.length = n → (∀ x ∈ zs, vS x.1 x.2 = true ∧ lo ≤ x.1) → hi ≤ (passP hi zs).1 ∧ vS lo (passP hi zs).1 = true ∧ (∀ x ∈ (passP hi zs).2.2, x ∈ zs) ∧ (passP hi zs).2.2.length ≤ zs.length ∧ ((passP hi zs).2.1 = false → (passP hi zs).1 = hi ∧ ∀ x ∈ (passP hi zs).2.2, hi + 1 < x.1) ∧
      ((passP hi zs).2.1 = true ∨ (∃ x ∈ zs, x.1 ≤ hi + 1) → (passP hi zs).2.2.length < zs.length) ∧ ∀ t, (inS t (lo, (passP hi zs).1) || anyIn t (passP hi zs).2.2) = (inS t (lo, hi) || anyIn t zs) from H _ zs rfl hv
  intro n
  induction n with
  | zero =>
    intro zs hl _
    obtain rfl : zs = [] := List.length_eq_zero_iff.1 hl
    exact ⟨Int.le_refl _, h0, by simp [passP], by simp [passP], by simp [passP], by simp [passP], fun t => rfl⟩
  | succ n ih =>
    intro zs hl hv
    obtain ⟨l, x, rfl⟩ : ∃ l x, zs = l ++ [x] := by
      rcases List.eq_nil_or_concat zs with h | ⟨l, x, h⟩
      · rw [h] at hl; simp at hl
      · exact ⟨l, x, by rw [h, List.concat_eq_append]⟩
    have hvl : ∀ y ∈ l, vS y.1 y.2 = true ∧ lo ≤ y.1 := fun y hy => hv y (by simp [hy])
    obtain ⟨hx, hxl⟩ := hv x (by simp)
    obtain ⟨a1, a2, a3, a4, a5, a6, a7⟩ := ih l (by simp at hl; omega) hvl
    rw [passP_snoc]
    generalize passP hi l = st at *
    obtain ⟨h, a, lf⟩ := st
    obtain ⟨x0, x1⟩ := x
    dsimp only at *
    have g2 := vS_true.1 a2
    have gx := vS_true.1 hx
    unfold stepP
    dsimp only
    by_cases hc : x0 ≤ h + 1
    · rw [if_pos hc]
      dsimp only
      refine ⟨by omega, vS_true.2 ⟨by omega, by omega, by omega⟩, fun y hy => by simp [a3 y hy], by simp; omega, fun hf => ?_, fun _ => by simp; omega, fun t => ?_⟩
      · simp only [Bool.or_eq_false_iff, decide_eq_false_iff_not] at hf
        obtain ⟨b1, b2⟩ := a5 hf.1
        exact ⟨by omega, b2⟩
      · rw [inS_join a2 hx hxl hc, anyIn_app, Bool.or_assoc, Bool.or_comm (inS t (x0, x1)), ← Bool.or_assoc, a7 t, Bool.or_assoc]
        simp [anyIn]
    · rw [if_neg hc]
      dsimp only
      refine ⟨a1, a2, fun y hy => ?_, by simp; omega, fun hf => ?_, fun hf => ?_, fun t => ?_⟩
      · rcases List.mem_append.1 hy with hy | hy
        · simp [a3 y hy]
        · rw [List.mem_singleton.1 hy]; simp
      · obtain ⟨b1, b2⟩ := a5 hf
        refine ⟨b1, fun y hy => ?_⟩
        rcases List.mem_append.1 hy with hy | hy
        · exact b2 y hy
        · rw [List.mem_singleton.1 hy]; simp only; omega
      · have h6 : lf.length < l.length := a6 (by
          rcases hf with hf | ⟨y, hy, hy2⟩
          · exact .inl hf
          · rcases List.mem_append.1 hy with hy | hy
            · exact .inr ⟨y, hy, hy2⟩
            · rw [List.mem_singleton.1 hy] at hy2; simp only at hy2; exfalso; omega)
        simp; omega
      · rw [anyIn_app, anyIn_app, ← Bool.or_assoc, a7 t, Bool.or_assoc]
theorem gaps_cons {x : Int × Int} {l : List (Int × Int)} (h : gapsS (x :: l)) (hv : ∀ z ∈ x :: l, vS z.1 z.2 = true) : gapsS l ∧ ∀ y ∈ l, x.2 + 2 ≤ y.1 := by
  have hg : gapsS l := fun i hi => by
    have := h (i + 1) (by simp; omega)
    simpa using this
  refine ⟨hg, ?_⟩
  cases l with
  | nil => simp
  | cons y l =>
    have h0 := h 0 (by simp)
    simp at h0
    have hmin : ∀ (l : List (Int × Int)) (y : Int × Int), gapsS (y :: l) → (∀ z ∈ y :: l, vS z.1 z.2 = true) → ∀ z ∈ y :: l, y.1 ≤ z.1 := by
      intro l
      induction l with
      | nil => intro y _ _ z hz; simp at hz; subst hz; exact Int.le_refl _
      | cons u l ih =>
        intro y hg hv z hz
        have h1 := hg 0 (by simp)
        simp at h1
        have hy := vS_true.1 (hv y (by simp))
        rcases List.mem_cons.1 hz with rfl | hz
        · exact Int.le_refl _
        · have := ih u (fun i hi => by have := hg (i + 1) (by simp at hi ⊢; omega); simpa using this) (fun z hz => hv z (by simp at hz ⊢; exact .inr hz)) z hz
          omega
    intro z hz
    have := hmin l y hg (fun z hz => hv z (by simp at hz ⊢; exact .inr hz)) z hz
    omega
/-- A list with gaps is known by its instants. -/
theorem gaps_uniq : ∀ (a b : List (Int × Int)), gapsS a → gapsS b → (∀ z ∈ a, vS z.1 z.2 = true) → (∀ z ∈ b, vS z.1 z.2 = true) → (∀ t, anyIn t a = anyIn t b) → a = b
  | [], [], _, _, _, _, _ => rfl
  | [], y :: b, _, _, _, hb, h => by
    have := h y.1
    have hy := vS_true.1 (hb y (by simp))
    rw [anyIn_cons, inS_iff.2 ⟨hb y (by simp), by omega, by omega⟩] at this
    simp [anyIn] at this
  | x :: a, [], _, _, ha, _, h => by
    have := h x.1
    have hx := vS_true.1 (ha x (by simp))
    rw [anyIn_cons, inS_iff.2 ⟨ha x (by simp), by omega, by omega⟩] at this
    simp [anyIn] at this
  | x :: a, y :: b, ga, gb, ha, hb, h => by
    obtain ⟨ga', la⟩ := gaps_cons ga ha
    obtain ⟨gb', lb⟩ := gaps_cons gb hb
    have hvx := ha x (by simp)
    have hvy := hb y (by simp)
    have hx := vS_true.1 hvx
    have hy := vS_true.1 hvy
    -- an instant below the second element lies in the first one or in none
    have low : ∀ (x : Int × Int) (a : List (Int × Int)), (∀ z ∈ a, x.2 + 2 ≤ z.1) → ∀ t, t ≤ x.2 + 1 → anyIn t a = false := fun x a la t ht => by
      unfold anyIn
      rw [List.any_eq_false]
      intro z hz
      have := la z hz
      intro hi
      have := (inS_iff.1 hi).2
      omega
    have memx : ∀ t, x.1 ≤ t → t ≤ x.2 → inS t x = true := fun t h1 h2 => inS_iff.2 ⟨hvx, h1, h2⟩
    have memy : ∀ t, y.1 ≤ t → t ≤ y.2 → inS t y = true := fun t h1 h2 => inS_iff.2 ⟨hvy, h1, h2⟩
    have outx : ∀ t, ¬ (x.1 ≤ t ∧ t ≤ x.2) → inS t x = false := fun t h => by
      cases hh : inS t x with
      | false => rfl
      | true => exact absurd (inS_iff.1 hh).2 h
    have outy : ∀ t, ¬ (y.1 ≤ t ∧ t ≤ y.2) → inS t y = false := fun t h => by
      cases hh : inS t y with
      | false => rfl
      | true => exact absurd (inS_iff.1 hh).2 h
    have ht : ∀ t, (inS t x || anyIn t a) = (inS t y || anyIn t b) := fun t => by rw [← anyIn_cons, ← anyIn_cons]; exact h t
    have e1 : x.1 = y.1 := by
      rcases Int.lt_trichotomy x.1 y.1 with c | c | c
      · have := ht x.1
        rw [memx _ (by omega) (by omega), outy _ (by omega), low y b lb _ (by omega)] at this
        simp at this
      · exact c
      · have := ht y.1
        rw [memy _ (by omega) (by omega), outx _ (by omega), low x a la _ (by omega)] at this
        simp at this
    have e2 : x.2 = y.2 := by
      rcases Int.lt_trichotomy x.2 y.2 with c | c | c
      · have := ht (x.2 + 1)
        rw [outx _ (by omega), low x a la _ (by omega), memy _ (by omega) (by omega)] at this
        simp at this
      · exact c
      · have := ht (y.2 + 1)
        rw [outy _ (by omega), low y b lb _ (by omega), memx _ (by omega) (by omega)] at this
        simp at this
    have exy : x = y := Prod.ext e1 e2
    subst exy
    rw [gaps_uniq a b ga' gb' (fun z hz => ha z (by simp [hz])) (fun z hz => hb z (by simp [hz])) (fun t => by
      by_cases c : t ≤ x.2 + 1
      · rw [low x a la t c, low x b lb t c]
      · have := ht t
        rw [outx t (by omega)] at this
        simpa using this)]
theorem gaps_snoc {out : List (Int × Int)} {s : Int × Int} (h : gapsS out) (hl : ∀ o ∈ out, o.2 + 2 ≤ s.1) : gapsS (out ++ [s]) := fun i hi => by
  simp at hi
  by_cases e : i + 1 < out.length
  · have := h i e
    rw [List.getD_eq_getElem?_getD, List.getD_eq_getElem?_getD] at this ⊢
    rw [List.getElem?_append_left (by omega), List.getElem?_append_left (by omega)]
    exact this
  · have e2 : i + 1 = out.length := by omega
    have hm := hl (out.getD i (0, 0)) (by rw [List.getD_eq_getElem?_getD, List.getElem?_eq_getElem (by omega)]; exact List.getElem_mem _)
    rw [List.getD_eq_getElem?_getD, List.getD_eq_getElem?_getD] at *
    rw [List.getElem?_append_left (by omega), e2]
    simpa using hm
end Go.Proofs.Ytlfkkfdolnkjfaa
