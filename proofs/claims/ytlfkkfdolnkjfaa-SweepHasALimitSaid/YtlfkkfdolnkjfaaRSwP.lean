/- The plain law of the reference's profile: cuts, and what is counted between them. -/
import Derived.Test.YtlfkkfdolnkjfaaSweepL
namespace Go.Proofs.Ytlfkkfdolnkjfaa
open Go.RowKit Go.Shelf Go.Sort
set_option linter.unusedSimpArgs false
set_option linter.unusedVariables false

def AscI (cs : List Int) : Prop := cs.Pairwise (· < ·)
theorem AscI.get {cs : List Int} (h : AscI cs) {i j : Nat} (hij : i < j) (hj : j < cs.length) : cs.getD i 0 < cs.getD j 0 := by
  have := List.pairwise_iff_getElem.1 h i j (by omega) hj hij
  rw [List.getD_eq_getElem?_getD, List.getD_eq_getElem?_getD, List.getElem?_eq_getElem (by omega), List.getElem?_eq_getElem hj]
  exact this
theorem AscI.le {cs : List Int} (h : AscI cs) {i j : Nat} (hij : i ≤ j) (hj : j < cs.length) : cs.getD i 0 ≤ cs.getD j 0 := by
  by_cases e : i = j
  · subst e; exact Int.le_refl _
  · exact Int.le_of_lt (h.get (by omega) hj)
theorem mem_at {cs : List Int} {u : Int} (h : u ∈ cs) : ∃ i, i < cs.length ∧ cs.getD i 0 = u := by
  obtain ⟨i, hi, e⟩ := List.getElem_of_mem h
  exact ⟨i, hi, by rw [List.getD_eq_getElem?_getD, List.getElem?_eq_getElem hi]; exact e⟩
/-- xs with v put in. -/
def PutX (xs : List Int) (v : Int) (ys : List Int) : Prop := AscI ys ∧ (∀ u, u ∈ ys ↔ u = v ∨ u ∈ xs) ∧ ys.length ≤ xs.length + 1
/-- The cuts of spans. -/
def CutX (zs : List (Int × Int)) (cs : List Int) : Prop := AscI cs ∧ (∀ u, u ∈ cs ↔ ∃ z ∈ zs, u = z.1 ∨ u = z.2 + 1) ∧ cs.length ≤ 2 * zs.length
theorem CutX.nil : CutX [] [] := ⟨List.Pairwise.nil, by simp, by simp⟩
theorem CutX.snoc {zs : List (Int × Int)} {z : Int × Int} {a b c : List Int} (h : CutX zs a) (h1 : PutX a z.1 b) (h2 : PutX b (z.2 + 1) c) : CutX (zs ++ [z]) c := by
  refine ⟨h2.1, fun u => ?_, ?_⟩
  · rw [h2.2.1, h1.2.1, h.2.1]
    constructor
    · rintro (rfl | rfl | ⟨y, hy, e⟩)
      · exact ⟨z, by simp, .inr rfl⟩
      · exact ⟨z, by simp, .inl rfl⟩
      · exact ⟨y, by simp [hy], e⟩
    · rintro ⟨y, hy, e⟩
      rcases List.mem_append.1 hy with hy | hy
      · exact .inr (.inr ⟨y, hy, e⟩)
      · obtain rfl : y = z := by simpa using hy
        rcases e with e | e
        · exact .inr (.inl e)
        · exact .inl e
  · have := h.2.2; have := h1.2.2; have := h2.2.2
    simp; omega
/-- Putting a number in at its place. -/
theorem put_at {xs : List Int} {v : Int} {k : Nat} (h : AscI xs) (hk : k ≤ xs.length) (h1 : ∀ j, j < k → xs.getD j 0 < v) (h2 : k < xs.length → v < xs.getD k 0) : PutX xs v (xs.take k ++ v :: xs.drop k) := by
  have ht : ∀ u ∈ xs.take k, u < v := fun u hu => by
    obtain ⟨i, hi, e⟩ := List.getElem_of_mem hu
    rw [List.length_take] at hi
    have := h1 i (by omega)
    rw [List.getD_eq_getElem?_getD, List.getElem?_eq_getElem (by omega)] at this
    rw [List.getElem_take] at e
    rw [← e]; exact this
  have hd : ∀ u ∈ xs.drop k, v < u := fun u hu => by
    obtain ⟨i, hi, e⟩ := List.getElem_of_mem hu
    rw [List.length_drop] at hi
    rw [List.getElem_drop] at e
    have a1 := h2 (by omega)
    have a2 := h.le (i := k) (j := k + i) (by omega) (by omega)
    rw [List.getD_eq_getElem?_getD (i := k + i), List.getElem?_eq_getElem (by omega)] at a2
    simp only [Option.getD_some] at a2
    rw [← e]; omega
  refine ⟨?_, fun u => ?_, ?_⟩
  · unfold AscI at *
    rw [List.pairwise_append]
    refine ⟨h.sublist (List.take_sublist _ _), List.pairwise_cons.2 ⟨hd, h.sublist (List.drop_sublist _ _)⟩, fun a ha b hb => ?_⟩
    rcases List.mem_cons.1 hb with rfl | hb
    · exact ht a ha
    · have := ht a ha; have := hd b hb; omega
  · conv => rhs; rw [← List.take_append_drop k xs]
    simp only [List.mem_append, List.mem_cons]
    constructor
    · rintro (h | h | h)
      · exact .inr (.inl h)
      · exact .inl h
      · exact .inr (.inr h)
    · rintro (h | h | h)
      · exact .inr (.inl h)
      · exact .inl h
      · exact .inr (.inr h)
  · simp; omega
theorem put_in {xs : List Int} {v : Int} (h : AscI xs) (hm : v ∈ xs) : PutX xs v xs := ⟨h, fun u => ⟨fun hu => .inr hu, fun hu => by rcases hu with rfl | hu; exact hm; exact hu⟩, by omega⟩
theorem cnt_const {zs : List (Int × Int)} {a b : Int} (h : ∀ z ∈ zs, ¬ (a < z.1 ∧ z.1 < b) ∧ ¬ (a < z.2 + 1 ∧ z.2 + 1 < b)) {t : Int} (h1 : a ≤ t) (h2 : t < b) : cntS zs t = cntS zs a := by
  induction zs with
  | nil => rfl
  | cons z zs ih =>
    have hz := h z (by simp)
    rw [cntS_cons, cntS_cons, ih (fun y hy => h y (by simp [hy]))]
    have e : inS t z = inS a z := by
      rw [Bool.eq_iff_iff, inS_iff, inS_iff]
      constructor
      · rintro ⟨a1, a2, a3⟩; exact ⟨a1, by omega, by omega⟩
      · rintro ⟨a1, a2, a3⟩; exact ⟨a1, by omega, by omega⟩
    rw [e]
theorem cnt_zero {zs : List (Int × Int)} {t : Int} (h : ∀ z ∈ zs, t < z.1 ∨ z.2 < t) : cntS zs t = 0 := by
  induction zs with
  | nil => rfl
  | cons z zs ih =>
    have hz := h z (by simp)
    rw [cntS_cons, ih (fun y hy => h y (by simp [hy]))]
    have e : inS t z = false := by
      cases hh : inS t z with
      | false => rfl
      | true => have := (inS_iff.1 hh).2; omega
    rw [e]; rfl
/-- The profile that is made of the first k cuts. -/
def rpAt (zs : List (Int × Int)) (cs : List Int) : Nat → List Pc
  | 0 => []
  | k + 1 => if cntS zs (cs.getD k 0) = 0 then rpAt zs cs k else addP (rpAt zs cs k) ⟨cs.getD k 0, cs.getD (k + 1) 0 - 1, cntS zs (cs.getD k 0)⟩
theorem rpAt_length (zs : List (Int × Int)) (cs : List Int) : ∀ k, (rpAt zs cs k).length ≤ k
  | 0 => by simp [rpAt]
  | k + 1 => by
    have := rpAt_length zs cs k
    unfold rpAt
    split
    · omega
    · have := addP_length (rpAt zs cs k) ⟨cs.getD k 0, cs.getD (k + 1) 0 - 1, cntS zs (cs.getD k 0)⟩; omega
theorem rpAt_law {zs : List (Int × Int)} {cs : List Int} (h : CutX zs cs) : ∀ k, k < cs.length → PCan (rpAt zs cs k) ∧ (∀ q ∈ rpAt zs cs k, q.hi < cs.getD k 0) ∧ ∀ t, cntP (rpAt zs cs k) t = if t < cs.getD k 0 then cntS zs t else 0 := by
  intro k
  induction k with
  | zero =>
    intro hk
    refine ⟨PCan.nil, by simp [rpAt], fun t => ?_⟩
    rw [show cntP (rpAt zs cs 0) t = 0 from rfl]
    split
    · rename_i ht
      refine (cnt_zero (fun z hz => .inl ?_)).symm
      obtain ⟨i, hi, e⟩ := mem_at ((h.2.1 z.1).2 ⟨z, hz, .inl rfl⟩)
      have := h.1.le (i := 0) (j := i) (by omega) hi
      omega
    · rfl
  | succ k ih =>
    intro hk
    obtain ⟨i1, i2, i3⟩ := ih (by omega)
    have hab := h.1.get (i := k) (j := k + 1) (by omega) hk
    have hgap : ∀ u ∈ cs, ¬ (cs.getD k 0 < u ∧ u < cs.getD (k + 1) 0) := fun u hu => by
      obtain ⟨i, hi, e⟩ := mem_at hu
      by_cases c : i ≤ k
      · have := h.1.le c (by omega); omega
      · have := h.1.le (i := k + 1) (j := i) (by omega) hi; omega
    have hcn : ∀ t, cs.getD k 0 ≤ t → t < cs.getD (k + 1) 0 → cntS zs t = cntS zs (cs.getD k 0) := fun t h1 h2 => cnt_const (fun z hz => ⟨hgap _ ((h.2.1 _).2 ⟨z, hz, .inl rfl⟩), hgap _ ((h.2.1 _).2 ⟨z, hz, .inr rfl⟩)⟩) h1 h2
    unfold rpAt
    have hnn := cntS_nonneg zs (cs.getD k 0)
    generalize hA : cs.getD k 0 = a at *
    generalize hB : cs.getD (k + 1) 0 = b at *
    by_cases c : cntS zs a = 0
    · rw [if_pos c]
      refine ⟨i1, fun q hq => by have := i2 q hq; omega, fun t => ?_⟩
      rw [i3 t]
      by_cases c1 : t < a
      · rw [if_pos c1, if_pos (by omega)]
      · rw [if_neg c1]
        by_cases c2 : t < b
        · rw [if_pos c2, hcn t (by omega) c2, c]
        · rw [if_neg c2]
    · rw [if_neg c]
      obtain ⟨j1, j2, j3⟩ := addP_law (p := ⟨a, b - 1, cntS zs a⟩) i1 ⟨by show a ≤ b - 1; omega, by show 1 ≤ cntS zs a; omega⟩ i2
      refine ⟨j1, fun q hq => by have := j2 q hq; dsimp only at this; omega, fun t => ?_⟩
      rw [j3 t, i3 t]
      unfold pcAt
      dsimp only
      by_cases c1 : t < a
      · rw [if_pos c1, if_neg (by omega), if_pos (by omega)]; omega
      · rw [if_neg c1]
        by_cases c2 : t < b
        · rw [if_pos (by omega), if_pos c2, hcn t (by omega) c2]; omega
        · rw [if_neg (by omega), if_neg c2]; rfl
/-- The whole of it. -/
theorem rp_law {zs : List (Int × Int)} {cs : List Int} (h : CutX zs cs) : PCan (rpAt zs cs (cs.length - 1)) ∧ ∀ t, cntP (rpAt zs cs (cs.length - 1)) t = cntS zs t := by
  by_cases c : 0 < cs.length
  · obtain ⟨i1, -, i3⟩ := rpAt_law h (cs.length - 1) (by omega)
    refine ⟨i1, fun t => ?_⟩
    rw [i3 t]
    split
    · rfl
    · rename_i ht
      refine (cnt_zero (fun z hz => .inr ?_)).symm
      obtain ⟨i, hi, e⟩ := mem_at ((h.2.1 (z.2 + 1)).2 ⟨z, hz, .inr rfl⟩)
      have := h.1.le (i := i) (j := cs.length - 1) (by omega) (by omega)
      omega
  · have hz : zs = [] := by
      cases zs with
      | nil => rfl
      | cons z zs =>
        have := (h.2.1 z.1).2 ⟨z, by simp, .inl rfl⟩
        have := List.length_pos_of_mem this
        omega
    have hc : cs = [] := List.length_eq_zero_iff.1 (by omega)
    subst hz; subst hc
    exact ⟨PCan.nil, fun t => rfl⟩
end Go.Proofs.Ytlfkkfdolnkjfaa
