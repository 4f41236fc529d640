/- Texts joined: SweepL, RSwP -/
import Derived.Test.YtiinmhfolfgobaaGreatDoorJ14
namespace Go.Proofs.YtiinmhfolfgobaaGreatDoor
open Go.RowKit Go.Shelf Go.Sort
set_option linter.unusedSimpArgs false
set_option linter.unusedVariables false

def stepL (n : Int) (out : List (Int × Int)) (p : Pc) : List (Int × Int) := if p.n < n then out else if 0 < out.length ∧ (out.getD (out.length - 1) (0, 0)).2 + 1 = p.lo then out.set (out.length - 1) ((out.getD (out.length - 1) (0, 0)).1, p.hi) else out ++ [(p.lo, p.hi)]
def leastP (n : Int) (ps : List Pc) : List (Int × Int) := ps.foldl (stepL n) []
theorem leastP_snoc (n : Int) (ps : List Pc) (p : Pc) : leastP n (ps ++ [p]) = stepL n (leastP n ps) p := by simp [leastP]
theorem stepL_length (n : Int) (out : List (Int × Int)) (p : Pc) : (stepL n out p).length ≤ out.length + 1 := by
  unfold stepL
  split
  · omega
  · split <;> simp
theorem leastP_length (n : Int) (ps : List Pc) : (leastP n ps).length ≤ ps.length := by
  suffices H : ∀ (ps : List Pc) (out : List (Int × Int)), (ps.foldl (stepL n) out).length ≤ out.length + ps.length by
    have := H ps []; simpa [leastP] using this
  intro ps
  induction ps with
  | nil => simp
  | cons p ps ih =>
    intro out
    have := ih (stepL n out p)
    have := stepL_length n out p
    simp only [List.foldl_cons, List.length_cons] at *
    omega
theorem PCan.init {a : List Pc} {x : Pc} (h : PCan (a ++ [x])) : PCan a ∧ (∀ q ∈ a, q.hi < x.lo) := by
  refine ⟨⟨fun q hq => h.1 q (by simp [hq]), fun i hi => ?_⟩, ?_⟩
  · have := h.2 i (by simp; omega)
    simp only [List.getD_eq_getElem?_getD] at this ⊢
    rw [List.getElem?_append_left (by omega), List.getElem?_append_left (by omega)] at this
    exact this
  · have key : ∀ (a : List Pc) (x : Pc), PCan (a ++ [x]) → ∀ q ∈ a, q.hi < x.lo := by
      intro a
      induction a with
      | nil => intro x _ q hq; simp at hq
      | cons p a ih =>
        intro x h q hq
        rcases List.mem_cons.1 hq with rfl | hq
        · exact PCan.above (by simpa using h) x (by simp)
        · exact ih x (PCan.tail (by simpa using h)) q hq
    exact key a x h
theorem cntP_at : ∀ {ps : List Pc}, PCan ps → ∀ p ∈ ps, ∀ t, p.lo ≤ t → t ≤ p.hi → cntP ps t = p.n
  | [], _, p, hp, _, _, _ => by simp at hp
  | q :: ps, h, p, hp, t, h1, h2 => by
    rw [cntP_cons]
    rcases List.mem_cons.1 hp with rfl | hp
    · rw [cntP_below (fun r hr => by have := h.above r hr; omega)]
      unfold pcAt
      rw [if_pos ⟨h1, h2⟩]; omega
    · have := h.above p hp
      rw [cntP_at h.tail p hp t h1 h2]
      unfold pcAt
      rw [if_neg (by omega)]; omega
/-- The pieces of valid spans lie in the range of numbers. -/
theorem pc_in {zs : List (Int × Int)} {ps : List Pc} (h : PCan ps) (hc : ∀ t, cntP ps t = cntS zs t) : ∀ p ∈ ps, vS p.lo p.hi = true := by
  intro p hp
  have hp0 := h.1 p hp
  have inz : ∀ t, 1 ≤ cntS zs t → -1152921504606846976 ≤ t ∧ t ≤ 1152921504606846976 := fun t ht => by
    have h1 : anyIn t zs = true := by rw [cntS_any]; exact decide_eq_true ht
    obtain ⟨z, _, hz⟩ := List.any_eq_true.1 h1
    obtain ⟨a, b, c⟩ := inS_iff.1 hz
    have := vS_true.1 a
    omega
  have a1 := inz p.lo (by rw [← hc, cntP_at h p hp p.lo (Int.le_refl _) hp0.1]; exact hp0.2)
  have a2 := inz p.hi (by rw [← hc, cntP_at h p hp p.hi hp0.1 (Int.le_refl _)]; exact hp0.2)
  exact vS_true.2 ⟨by omega, by omega, by omega⟩
theorem least_law (n : Int) (hn : 1 ≤ n) (ps : List Pc) (h : PCan ps) (hv : ∀ p ∈ ps, vS p.lo p.hi = true) : gapsS (leastP n ps) ∧ (∀ z ∈ leastP n ps, vS z.1 z.2 = true ∧ ∃ p ∈ ps, z.2 = p.hi) ∧ ∀ t, anyIn t (leastP n ps) = decide (n ≤ cntP ps t) := by
  suffices H : ∀ k, ∀ ps : List Pc, ps.length = k → PCan ps → (∀ p ∈ ps, vS p.lo p.hi = true) → gapsS (leastP n ps) ∧ (∀ z ∈ leastP n ps, vS z.1 z.2 = true ∧ ∃ p ∈ ps, z.2 = p.hi) ∧ ∀ t, anyIn t (leastP n ps) = decide (n ≤ cntP ps t) from H _ ps rfl h hv
  intro k
  induction k with
  | zero =>
    intro ps hl _ _
    obtain rfl : ps = [] := List.length_eq_zero_iff.1 hl
    refine ⟨fun i hi => by simp [leastP] at hi, by simp [leastP], fun t => ?_⟩
    rw [show cntP [] t = 0 from rfl, decide_eq_false (by omega)]; rfl
  | succ k ih =>
    intro ps hl h hv
    obtain ⟨a, x, rfl⟩ := snoc_of (l := ps) (by omega)
    obtain ⟨ha, hax⟩ := h.init
    obtain ⟨g1, g2, g3⟩ := ih a (by simp at hl; omega) ha (fun p hp => hv p (by simp [hp]))
    have hx := h.1 x (by simp)
    have hvx := hv x (by simp)
    rw [leastP_snoc]
    generalize leastP n a = out at *
    -- all that is there ends ahead of x
    have hob : ∀ z ∈ out, z.2 < x.lo := fun z hz => by
      obtain ⟨_, p, hp, e⟩ := g2 z hz
      have := hax p hp; omega
    have ct : ∀ t, cntP (a ++ [x]) t = cntP a t + pcAt x t := fun t => by rw [cntP_app]; simp [cntP]
    have c0 : ∀ t, x.lo ≤ t → cntP a t = 0 := fun t ht => cntP_above (fun q hq => by have := hax q hq; omega)
    have o0 : ∀ t, x.lo ≤ t → anyIn t out = false := fun t ht => by
      unfold anyIn; rw [List.any_eq_false]; intro z hz hi
      have := hob z hz
      have := (inS_iff.1 hi).2; omega
    unfold stepL
    by_cases hc : x.n < n
    · rw [if_pos hc]
      refine ⟨g1, fun z hz => ⟨(g2 z hz).1, by obtain ⟨_, p, hp, e⟩ := g2 z hz; exact ⟨p, by simp [hp], e⟩⟩, fun t => ?_⟩
      rw [g3 t, ct]
      unfold pcAt
      by_cases c : x.lo ≤ t ∧ t ≤ x.hi
      · rw [if_pos c, c0 t c.1, decide_eq_false (by omega), decide_eq_false (by omega)]
      · rw [if_neg c, Int.add_zero]
    · rw [if_neg hc]
      by_cases hm : 0 < out.length ∧ (out.getD (out.length - 1) (0, 0)).2 + 1 = x.lo
      · rw [if_pos hm]
        obtain ⟨hm0, hm1⟩ := hm
        obtain ⟨b, y, rfl⟩ := snoc_of hm0
        have ey : (b ++ [y]).getD ((b ++ [y]).length - 1) (0, 0) = y := by simp [List.getD_eq_getElem?_getD]
        have es : ∀ u : Int × Int, (b ++ [y]).set ((b ++ [y]).length - 1) u = b ++ [u] := fun u => by
          rw [List.length_append, List.length_singleton, Nat.add_sub_cancel, List.set_append, if_neg (by omega), Nat.sub_self]; rfl
        rw [ey] at hm1 ⊢
        rw [es]
        obtain ⟨vy, py, hpy, ey2⟩ := g2 y (by simp)
        have gy := vS_true.1 vy
        have gx := vS_true.1 hvx
        have vn : vS y.1 x.hi = true := vS_true.2 ⟨by omega, by omega, by omega⟩
        refine ⟨fun i hi => ?_, fun z hz => ?_, fun t => ?_⟩
        · have g := g1 i (by simp at hi ⊢; omega)
          simp only [List.getD_eq_getElem?_getD] at g ⊢
          simp at hi
          rw [List.getElem?_append_left (by omega)] at g ⊢
          by_cases e : i + 1 < b.length
          · rw [List.getElem?_append_left e] at g ⊢; exact g
          · obtain e : i + 1 = b.length := by omega
            rw [e] at g ⊢
            simp only [List.getElem?_append_right (Nat.le_refl _), Nat.sub_self, List.getElem?_cons_zero, Option.getD_some] at g ⊢
            exact g
        · rcases List.mem_append.1 hz with hz | hz
          · obtain ⟨q1, p, hp, e⟩ := g2 z (by simp [hz])
            exact ⟨q1, p, by simp [hp], e⟩
          · rw [List.mem_singleton.1 hz]; exact ⟨vn, x, by simp, rfl⟩
        · have e3 := g3 t
          rw [anyIn_app] at e3 ⊢
          rw [ct]
          have ej : anyIn t [(y.1, x.hi)] = (anyIn t [y] || inS t (x.lo, x.hi)) := by
            have e1 : ∀ z : Int × Int, anyIn t [z] = inS t z := fun z => by simp [anyIn]
            rw [e1, e1]
            have := inS_join (t := t) (lo := y.1) (hi := y.2) (a := x.lo) (b := x.hi) vy hvx (by omega) (by omega)
            rw [show max y.2 x.hi = x.hi by omega] at this
            exact this
          rw [ej, ← Bool.or_assoc, e3]
          unfold pcAt inS
          simp only [hvx, Bool.true_and]
          by_cases c : x.lo ≤ t ∧ t ≤ x.hi
          · rw [if_pos c, c0 t c.1]; simp [c.1, c.2]; omega
          · rw [if_neg c, Int.add_zero]
            have : (decide (x.lo ≤ t) && decide (t ≤ x.hi)) = false := by simp; omega
            rw [this, Bool.or_false]
      · rw [if_neg hm]
        refine ⟨gaps_snoc g1 (fun o ho => ?_), fun z hz => ?_, fun t => ?_⟩
        · have h1 := hob o ho
          have hne : o.2 + 1 ≠ x.lo := fun e => by
            obtain ⟨b, y, rfl⟩ := snoc_of (List.length_pos_of_mem ho)
            have ey : (b ++ [y]).getD ((b ++ [y]).length - 1) (0, 0) = y := by simp [List.getD_eq_getElem?_getD]
            rw [ey] at hm
            rcases List.mem_append.1 ho with ho | ho
            · -- an earlier one ends ahead of the last one
              have hy := hob y (by simp)
              have hg : ∀ (b : List (Int × Int)) (y : Int × Int), gapsS (b ++ [y]) → (∀ z ∈ b ++ [y], vS z.1 z.2 = true) → ∀ o ∈ b, o.2 + 2 ≤ y.1 := by
                intro b
                induction b with
                | nil => intro y _ _ o ho; simp at ho
                | cons p b ihb =>
                  intro y hg hvv o ho
                  obtain ⟨t1, t2⟩ := gaps_cons (x := p) (l := b ++ [y]) (by simpa using hg) (by simpa using hvv)
                  rcases List.mem_cons.1 ho with rfl | ho
                  · exact t2 y (by simp)
                  · exact ihb y t1 (fun z hz => hvv z (by simp at hz ⊢; exact .inr hz)) o ho
              have := hg b y g1 (fun z hz => (g2 z hz).1) o ho
              have := vS_true.1 (g2 y (by simp)).1
              omega
            · rw [List.mem_singleton.1 ho] at e
              exact hm ⟨by simp, e⟩
          simp only; omega
        · rcases List.mem_append.1 hz with hz | hz
          · obtain ⟨q1, p, hp, e⟩ := g2 z hz
            exact ⟨q1, p, by simp [hp], e⟩
          · rw [List.mem_singleton.1 hz]; exact ⟨hvx, x, by simp, rfl⟩
        · rw [anyIn_app, g3 t, ct]
          have e1 : anyIn t [(x.lo, x.hi)] = inS t (x.lo, x.hi) := by simp [anyIn]
          rw [e1]
          unfold pcAt inS
          simp only [hvx, Bool.true_and]
          by_cases c : x.lo ≤ t ∧ t ≤ x.hi
          · rw [if_pos c, c0 t c.1]; simp [c.1, c.2]; omega
          · rw [if_neg c, Int.add_zero]
            have : (decide (x.lo ≤ t) && decide (t ≤ x.hi)) = false := by simp; omega
            rw [this, Bool.or_false]
end Go.Proofs.YtiinmhfolfgobaaGreatDoor
namespace Go.Proofs.YtiinmhfolfgobaaGreatDoor
open Go.RowKit Go.Shelf Go.Sort
set_option linter.unusedSimpArgs false
set_option linter.unusedVariables false

def AscI (cs : List Int) : Prop := cs.Pairwise (· < ·)
theorem AscI.get {cs : List Int} (h : AscI cs) {i j : Nat} (hij : i < j) (hj : j < cs.length) : cs.getD i 0 < cs.getD j 0 := by
  have := List.pairwise_iff_getElem.1 h i j (by omega) hj hij
  rw [List.getD_eq_getElem?_getD, List.getD_eq_getElem?_getD, List.getElem?_eq_getElem (by omega), List.getElem?_eq_getElem hj]
  exact this
theorem AscI.le {cs : List Int} (h : AscI cs) {i j : Nat} (hij : i ≤ j) (hj : j < cs.length) : cs.getD i 0 ≤ cs.getD j 0 := by
  by_cases e : i = j
  · subst e; exact Int.le_refl _
  · exact Int.le_of_lt (h.get (by omega) hj)
/-- The cuts of spans. -/
def CutX (zs : List (Int × Int)) (cs : List Int) : Prop := AscI cs ∧ (∀ u, u ∈ cs ↔ ∃ z ∈ zs, u = z.1 ∨ u = z.2 + 1) ∧ cs.length ≤ 2 * zs.length
theorem CutX.nil : CutX [] [] := ⟨List.Pairwise.nil, by simp, by simp⟩
end Go.Proofs.YtiinmhfolfgobaaGreatDoor
