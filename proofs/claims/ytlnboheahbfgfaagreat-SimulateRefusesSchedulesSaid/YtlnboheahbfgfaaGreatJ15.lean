/- Texts joined: SweepL, RSwP -/
import Derived.Test.YtlnboheahbfgfaaGreatJ9
namespace Go.Proofs.YtlnboheahbfgfaaGreat
open Go.RowKit Go.Shelf Go.Sort
set_option linter.unusedSimpArgs false
set_option linter.unusedVariables false

def stepL (n : Int) (out : List (Int × Int)) (p : Pc) : List (Int × Int) := if p.n < n then out else if 0 < out.length ∧ (out.getD (out.length - 1) (0, 0)).2 + 1 = p.lo then out.set (out.length - 1) ((out.getD (out.length - 1) (0, 0)).1, p.hi) else out ++ [(p.lo, p.hi)]
def leastP (n : Int) (ps : List Pc) : List (Int × Int) := ps.foldl (stepL n) []
theorem leastP_snoc (n : Int) (ps : List Pc) (p : Pc) : leastP n (ps ++ [p]) = stepL n (leastP n ps) p := by simp [leastP]
theorem stepL_length (n : Int) (out : List (Int × Int)) (p : Pc) : (stepL n out p).length ≤ out.length + 1 := by
 unfold stepL
 split
 ·omega
 ·split <;> simp
theorem leastP_length (n : Int) (ps : List Pc) : (leastP n ps).length ≤ ps.length := by
 suffices H : ∀ (ps : List Pc) (out : List (Int × Int)), (ps.foldl (stepL n) out).length ≤ out.length + ps.length by
  have := H ps []; simpa [leastP] using this
 intro ps
 induction ps with
 | nil => simp
 | cons p ps ih =>
  intro out
  have := ih (stepL n out p)
  have := stepL_length n out p
  simp only [List.foldl_cons, List.length_cons] at *
  omega
theorem PCan.init {a : List Pc} {x : Pc} (h : PCan (a ++ [x])) : PCan a ∧ (∀ q ∈ a, q.hi < x.lo) := by
 refine ⟨⟨fun q hq => h.1 q (by simp [hq]), fun i hi => ?_⟩, ?_⟩
 ·have := h.2 i (by simp; omega)
  simp only [List.getD_eq_getElem?_getD] at this ⊢
  rw [List.getElem?_append_left (by omega), List.getElem?_append_left (by omega)] at this
  exact this
 ·have key : ∀ (a : List Pc) (x : Pc), PCan (a ++ [x]) → ∀ q ∈ a, q.hi < x.lo := by
   intro a
   induction a with
   | nil => intro x _ q hq; simp at hq
   | cons p a ih =>
    intro x h q hq
    rcases List.mem_cons.1 hq with rfl | hq
    ·exact PCan.above (by simpa using h) x (by simp)
    ·exact ih x (PCan.tail (by simpa using h)) q hq
  exact key a x h
theorem cntP_at : ∀ {ps : List Pc}, PCan ps → ∀ p ∈ ps, ∀ t, p.lo ≤ t → t ≤ p.hi → cntP ps t = p.n
 | [], _, p, hp, _, _, _ => by simp at hp
 | q :: ps, h, p, hp, t, h1, h2 => by
  rw [cntP_cons]
  rcases List.mem_cons.1 hp with rfl | hp
  ·rw [cntP_below (fun r hr => by have := h.above r hr; omega)]
   unfold pcAt
   rw [if_pos ⟨h1, h2⟩]; omega
  ·have := h.above p hp
   rw [cntP_at h.tail p hp t h1 h2]
   unfold pcAt
   rw [if_neg (by omega)]; omega
theorem pc_in {zs : List (Int × Int)} {ps : List Pc} (h : PCan ps) (hc : ∀ t, cntP ps t = cntS zs t) : ∀ p ∈ ps, vS p.lo p.hi = true := by
 intro p hp
 have hp0 := h.1 p hp
 have inz : ∀ t, 1 ≤ cntS zs t → -1152921504606846976 ≤ t ∧ t ≤ 1152921504606846976 := fun t ht => by
  have h1 : anyIn t zs = true := by rw [cntS_any]; exact decide_eq_true ht
  obtain ⟨z, _, hz⟩ := List.any_eq_true.1 h1
  obtain ⟨a, b, c⟩ := inS_iff.1 hz
  have := vS_true.1 a
  omega
 have a1 := inz p.lo (by rw [← hc, cntP_at h p hp p.lo (Int.le_refl _) hp0.1]; exact hp0.2)
 have a2 := inz p.hi (by rw [← hc, cntP_at h p hp p.hi hp0.1 (Int.le_refl _)]; exact hp0.2)
 exact vS_true.2 ⟨by omega, by omega, by omega⟩
theorem least_law (n : Int) (hn : 1 ≤ n) (ps : List Pc) (h : PCan ps) (hv : ∀ p ∈ ps, vS p.lo p.hi = true) : gapsS (leastP n ps) ∧ (∀ z ∈ leastP n ps, vS z.1 z.2 = true ∧ ∃ p ∈ ps, z.2 = p.hi) ∧ ∀ t, anyIn t (leastP n ps) = decide (n ≤ cntP ps t) := by
 suffices H : ∀ k, ∀ ps : List Pc, ps.length = k → PCan ps → (∀ p ∈ ps, vS p.lo p.hi = true) → gapsS (leastP n ps) ∧ (∀ z ∈ leastP n ps, vS z.1 z.2 = true ∧ ∃ p ∈ ps, z.2 = p.hi) ∧ ∀ t, anyIn t (leastP n ps) = decide (n ≤ cntP ps t) from H _ ps rfl h hv
 intro k
 induction k with
 | zero =>
  intro ps hl _ _
  obtain rfl : ps = [] := List.length_eq_zero_iff.1 hl
  refine ⟨fun i hi => by simp [leastP] at hi, by simp [leastP], fun t => ?_⟩
  rw [show cntP [] t = 0 from rfl, decide_eq_false (by omega)]; rfl
 | succ k ih =>
  intro ps hl h hv
  obtain ⟨a, x, rfl⟩ := snoc_of (l := ps) (by omega)
  obtain ⟨ha, hax⟩ := h.init
  obtain ⟨g1, g2, g3⟩ := ih a (by simp at hl; omega) ha (fun p hp => hv p (by simp [hp]))
  have hx := h.1 x (by simp)
  have hvx := hv x (by simp)
  rw [leastP_snoc]
  generalize leastP n a = out at *
  -- all that is there ends ahead of x
  have hob : ∀ z ∈ out, z.2 < x.lo := fun z hz => by
   obtain ⟨_, p, hp, e⟩ := g2 z hz
   have := hax p hp; omega
  have ct : ∀ t, cntP (a ++ [x]) t = cntP a t + pcAt x t := fun t => by rw [cntP_app]; simp [cntP]
  have c0 : ∀ t, x.lo ≤ t → cntP a t = 0 := fun t ht => cntP_above (fun q hq => by have := hax q hq; omega)
  have o0 : ∀ t, x.lo ≤ t → anyIn t out = false := fun t ht => by
   unfold anyIn; rw [List.any_eq_false]; intro z hz hi
   have := hob z hz
   have := (inS_iff.1 hi).2; omega
  unfold stepL
  by_cases hc : x.n < n
  ·rw [if_pos hc]
   refine ⟨g1, fun z hz => ⟨(g2 z hz).1, by obtain ⟨_, p, hp, e⟩ := g2 z hz; exact ⟨p, by simp [hp], e⟩⟩, fun t => ?_⟩
   rw [g3 t, ct]
   unfold pcAt
   by_cases c : x.lo ≤ t ∧ t ≤ x.hi
   ·rw [if_pos c, c0 t c.1, decide_eq_false (by omega), decide_eq_false (by omega)]
   ·rw [if_neg c, Int.add_zero]
  ·rw [if_neg hc]
   by_cases hm : 0 < out.length ∧ (out.getD (out.length - 1) (0, 0)).2 + 1 = x.lo
   ·rw [if_pos hm]
    obtain ⟨hm0, hm1⟩ := hm
    obtain ⟨b, y, rfl⟩ := snoc_of hm0
    have ey : (b ++ [y]).getD ((b ++ [y]).length - 1) (0, 0) = y := by simp [List.getD_eq_getElem?_getD]
    have es : ∀ u : Int × Int, (b ++ [y]).set ((b ++ [y]).length - 1) u = b ++ [u] := fun u => by
     rw [List.length_append, List.length_singleton, Nat.add_sub_cancel, List.set_append, if_neg (by omega), Nat.sub_self]; rfl
    rw [ey] at hm1 ⊢
    rw [es]
    obtain ⟨vy, py, hpy, ey2⟩ := g2 y (by simp)
    have gy := vS_true.1 vy
    have gx := vS_true.1 hvx
    have vn : vS y.1 x.hi = true := vS_true.2 ⟨by omega, by omega, by omega⟩
    refine ⟨fun i hi => ?_, fun z hz => ?_, fun t => ?_⟩
    ·have g := g1 i (by simp at hi ⊢; omega)
     simp only [List.getD_eq_getElem?_getD] at g ⊢
     simp at hi
     rw [List.getElem?_append_left (by omega)] at g ⊢
     by_cases e : i + 1 < b.length
     ·rw [List.getElem?_append_left e] at g ⊢; exact g
     ·obtain e : i + 1 = b.length := by omega
      rw [e] at g ⊢
      simp only [List.getElem?_append_right (Nat.le_refl _), Nat.sub_self, lg0, Option.getD_some] at g ⊢
      exact g
    ·rcases List.mem_append.1 hz with hz | hz
     ·obtain ⟨q1, p, hp, e⟩ := g2 z (by simp [hz])
      exact ⟨q1, p, by simp [hp], e⟩
     ·rw [List.mem_singleton.1 hz]; exact ⟨vn, x, by simp, rfl⟩
    ·have e3 := g3 t
     rw [anyIn_app] at e3 ⊢
     rw [ct]
     have ej : anyIn t [(y.1, x.hi)] = (anyIn t [y] || inS t (x.lo, x.hi)) := by
      have e1 : ∀ z : Int × Int, anyIn t [z] = inS t z := fun z => by simp [anyIn]
      rw [e1, e1]
      have := inS_join (t := t) (lo := y.1) (hi := y.2) (a := x.lo) (b := x.hi) vy hvx (by omega) (by omega)
      rw [show max y.2 x.hi = x.hi by omega] at this
      exact this
     rw [ej, ← Bool.or_assoc, e3]
     unfold pcAt inS
     simp only [hvx, Bool.true_and]
     by_cases c : x.lo ≤ t ∧ t ≤ x.hi
     ·rw [if_pos c, c0 t c.1]; simp [c.1, c.2]; omega
     ·rw [if_neg c, Int.add_zero]
      have : (decide (x.lo ≤ t) && decide (t ≤ x.hi)) = false := by simp; omega
      rw [this, Bool.or_false]
   ·rw [if_neg hm]
    refine ⟨gaps_snoc g1 (fun o ho => ?_), fun z hz => ?_, fun t => ?_⟩
    ·have h1 := hob o ho
     have hne : o.2 + 1 ≠ x.lo := fun e => by
      obtain ⟨b, y, rfl⟩ := snoc_of (List.length_pos_of_mem ho)
      have ey : (b ++ [y]).getD ((b ++ [y]).length - 1) (0, 0) = y := by simp [List.getD_eq_getElem?_getD]
      rw [ey] at hm
      rcases List.mem_append.1 ho with ho | ho
      ·-- an earlier one ends ahead of the last one
       have hy := hob y (by simp)
       have hg : ∀ (b : List (Int × Int)) (y : Int × Int), gapsS (b ++ [y]) → (∀ z ∈ b ++ [y], vS z.1 z.2 = true) → ∀ o ∈ b, o.2 + 2 ≤ y.1 := by
        intro b
        induction b with
        | nil => intro y _ _ o ho; simp at ho
        | cons p b ihb =>
         intro y hg hvv o ho
         obtain ⟨t1, t2⟩ := gaps_cons (x := p) (l := b ++ [y]) (by simpa using hg) (by simpa using hvv)
         rcases List.mem_cons.1 ho with rfl | ho
         ·exact t2 y (by simp)
         ·exact ihb y t1 (fun z hz => hvv z (by simp at hz ⊢; exact .inr hz)) o ho
       have := hg b y g1 (fun z hz => (g2 z hz).1) o ho
       have := vS_true.1 (g2 y (by simp)).1
       omega
      ·rw [List.mem_singleton.1 ho] at e
       exact hm ⟨by simp, e⟩
     simp only; omega
    ·rcases List.mem_append.1 hz with hz | hz
     ·obtain ⟨q1, p, hp, e⟩ := g2 z hz
      exact ⟨q1, p, by simp [hp], e⟩
     ·rw [List.mem_singleton.1 hz]; exact ⟨hvx, x, by simp, rfl⟩
    ·rw [anyIn_app, g3 t, ct]
     have e1 : anyIn t [(x.lo, x.hi)] = inS t (x.lo, x.hi) := by simp [anyIn]
     rw [e1]
     unfold pcAt inS
     simp only [hvx, Bool.true_and]
     by_cases c : x.lo ≤ t ∧ t ≤ x.hi
     ·rw [if_pos c, c0 t c.1]; simp [c.1, c.2]; omega
     ·rw [if_neg c, Int.add_zero]
      have : (decide (x.lo ≤ t) && decide (t ≤ x.hi)) = false := by simp; omega
      rw [this, Bool.or_false]
end Go.Proofs.YtlnboheahbfgfaaGreat
namespace Go.Proofs.YtlnboheahbfgfaaGreat
open Go.RowKit Go.Shelf Go.Sort
set_option linter.unusedSimpArgs false
set_option linter.unusedVariables false

def AscI (cs : List Int) : Prop := cs.Pairwise (· < ·)
theorem AscI.get {cs : List Int} (h : AscI cs) {i j : Nat} (hij : i < j) (hj : j < cs.length) : cs.getD i 0 < cs.getD j 0 := by
 have := List.pairwise_iff_getElem.1 h i j (by omega) hj hij
 rw [List.getD_eq_getElem?_getD, List.getD_eq_getElem?_getD, List.getElem?_eq_getElem (by omega), List.getElem?_eq_getElem hj]
 exact this
theorem AscI.le {cs : List Int} (h : AscI cs) {i j : Nat} (hij : i ≤ j) (hj : j < cs.length) : cs.getD i 0 ≤ cs.getD j 0 := by
 by_cases e : i = j
 ·subst e; exact Int.le_refl _
 ·exact Int.le_of_lt (h.get (by omega) hj)
theorem mem_at {cs : List Int} {u : Int} (h : u ∈ cs) : ∃ i, i < cs.length ∧ cs.getD i 0 = u := by
 obtain ⟨i, hi, e⟩ := List.getElem_of_mem h
 exact ⟨i, hi, by rw [List.getD_eq_getElem?_getD, List.getElem?_eq_getElem hi]; exact e⟩
def PutX (xs : List Int) (v : Int) (ys : List Int) : Prop := AscI ys ∧ (∀ u, u ∈ ys ↔ u = v ∨ u ∈ xs) ∧ ys.length ≤ xs.length + 1
def CutX (zs : List (Int × Int)) (cs : List Int) : Prop := AscI cs ∧ (∀ u, u ∈ cs ↔ ∃ z ∈ zs, u = z.1 ∨ u = z.2 + 1) ∧ cs.length ≤ 2 * zs.length
theorem CutX.nil : CutX [] [] := ⟨List.Pairwise.nil, by simp, by simp⟩
theorem CutX.snoc {zs : List (Int × Int)} {z : Int × Int} {a b c : List Int} (h : CutX zs a) (h1 : PutX a z.1 b) (h2 : PutX b (z.2 + 1) c) : CutX (zs ++ [z]) c := by
 refine ⟨h2.1, fun u => ?_, ?_⟩
 ·rw [h2.2.1, h1.2.1, h.2.1]
  constructor
  ·rintro (rfl | rfl | ⟨y, hy, e⟩)
   ·exact ⟨z, by simp, .inr rfl⟩
   ·exact ⟨z, by simp, .inl rfl⟩
   ·exact ⟨y, by simp [hy], e⟩
  ·rintro ⟨y, hy, e⟩
   rcases List.mem_append.1 hy with hy | hy
   ·exact .inr (.inr ⟨y, hy, e⟩)
   ·obtain rfl : y = z := by simpa using hy
    rcases e with e | e
    ·exact .inr (.inl e)
    ·exact .inl e
 ·have := h.2.2; have := h1.2.2; have := h2.2.2
  simp; omega
theorem put_at {xs : List Int} {v : Int} {k : Nat} (h : AscI xs) (hk : k ≤ xs.length) (h1 : ∀ j, j < k → xs.getD j 0 < v) (h2 : k < xs.length → v < xs.getD k 0) : PutX xs v (xs.take k ++ v :: xs.drop k) := by
 have ht : ∀ u ∈ xs.take k, u < v := fun u hu => by
  obtain ⟨i, hi, e⟩ := List.getElem_of_mem hu
  rw [List.length_take] at hi
  have := h1 i (by omega)
  rw [List.getD_eq_getElem?_getD, List.getElem?_eq_getElem (by omega)] at this
  rw [List.getElem_take] at e
  rw [← e]; exact this
 have hd : ∀ u ∈ xs.drop k, v < u := fun u hu => by
  obtain ⟨i, hi, e⟩ := List.getElem_of_mem hu
  rw [List.length_drop] at hi
  rw [List.getElem_drop] at e
  have a1 := h2 (by omega)
  have a2 := h.le (i := k) (j := k + i) (by omega) (by omega)
  rw [List.getD_eq_getElem?_getD (i := k + i), List.getElem?_eq_getElem (by omega)] at a2
  simp only [Option.getD_some] at a2
  rw [← e]; omega
 refine ⟨?_, fun u => ?_, ?_⟩
 ·unfold AscI at *
  rw [List.pairwise_append]
  refine ⟨h.sublist (List.take_sublist _ _), List.pairwise_cons.2 ⟨hd, h.sublist (List.drop_sublist _ _)⟩, fun a ha b hb => ?_⟩
  rcases List.mem_cons.1 hb with rfl | hb
  ·exact ht a ha
  ·have := ht a ha; have := hd b hb; omega
 ·conv => rhs; rw [← List.take_append_drop k xs]
  simp only [List.mem_append, List.mem_cons]
  constructor
  ·rintro (h | h | h)
   ·exact .inr (.inl h)
   ·exact .inl h
   ·exact .inr (.inr h)
  ·rintro (h | h | h)
   ·exact .inr (.inl h)
   ·exact .inl h
   ·exact .inr (.inr h)
 ·simp; omega
theorem put_in {xs : List Int} {v : Int} (h : AscI xs) (hm : v ∈ xs) : PutX xs v xs := ⟨h, fun u => ⟨fun hu => .inr hu, fun hu => by rcases hu with rfl | hu; exact hm; exact hu⟩, by omega⟩
theorem cnt_const {zs : List (Int × Int)} {a b : Int} (h : ∀ z ∈ zs, ¬ (a < z.1 ∧ z.1 < b) ∧ ¬ (a < z.2 + 1 ∧ z.2 + 1 < b)) {t : Int} (h1 : a ≤ t) (h2 : t < b) : cntS zs t = cntS zs a := by
 induction zs with
 | nil => rfl
 | cons z zs ih =>
  have hz := h z (by simp)
  rw [cntS_cons, cntS_cons, ih (fun y hy => h y (by simp [hy]))]
  have e : inS t z = inS a z := by
   rw [Bool.eq_iff_iff, inS_iff, inS_iff]
   constructor
   ·rintro ⟨a1, a2, a3⟩; exact ⟨a1, by omega, by omega⟩
   ·rintro ⟨a1, a2, a3⟩; exact ⟨a1, by omega, by omega⟩
  rw [e]
theorem cnt_zero {zs : List (Int × Int)} {t : Int} (h : ∀ z ∈ zs, t < z.1 ∨ z.2 < t) : cntS zs t = 0 := by
 induction zs with
 | nil => rfl
 | cons z zs ih =>
  have hz := h z (by simp)
  rw [cntS_cons, ih (fun y hy => h y (by simp [hy]))]
  have e : inS t z = false := by
   cases hh : inS t z with
   | false => rfl
   | true => have := (inS_iff.1 hh).2; omega
  rw [e]; rfl
def rpAt (zs : List (Int × Int)) (cs : List Int) : Nat → List Pc
 | 0 => []
 | k + 1 => if cntS zs (cs.getD k 0) = 0 then rpAt zs cs k else addP (rpAt zs cs k) ⟨cs.getD k 0, cs.getD (k + 1) 0 - 1, cntS zs (cs.getD k 0)⟩
theorem rpAt_length (zs : List (Int × Int)) (cs : List Int) : ∀ k, (rpAt zs cs k).length ≤ k
 | 0 => by simp [rpAt]
 | k + 1 => by
  have := rpAt_length zs cs k
  unfold rpAt
  split
  ·omega
  ·have := addP_length (rpAt zs cs k) ⟨cs.getD k 0, cs.getD (k + 1) 0 - 1, cntS zs (cs.getD k 0)⟩; omega
theorem rpAt_law {zs : List (Int × Int)} {cs : List Int} (h : CutX zs cs) : ∀ k, k < cs.length → PCan (rpAt zs cs k) ∧ (∀ q ∈ rpAt zs cs k, q.hi < cs.getD k 0) ∧ ∀ t, cntP (rpAt zs cs k) t = if t < cs.getD k 0 then cntS zs t else 0 := by
 intro k
 induction k with
 | zero =>
  intro hk
  refine ⟨PCan.nil, by simp [rpAt], fun t => ?_⟩
  rw [show cntP (rpAt zs cs 0) t = 0 from rfl]
  split
  ·rename_i ht
   refine (cnt_zero (fun z hz => .inl ?_)).symm
   obtain ⟨i, hi, e⟩ := mem_at ((h.2.1 z.1).2 ⟨z, hz, .inl rfl⟩)
   have := h.1.le (i := 0) (j := i) (by omega) hi
   omega
  ·rfl
 | succ k ih =>
  intro hk
  obtain ⟨i1, i2, i3⟩ := ih (by omega)
  have hab := h.1.get (i := k) (j := k + 1) (by omega) hk
  have hgap : ∀ u ∈ cs, ¬ (cs.getD k 0 < u ∧ u < cs.getD (k + 1) 0) := fun u hu => by
   obtain ⟨i, hi, e⟩ := mem_at hu
   by_cases c : i ≤ k
   ·have := h.1.le c (by omega); omega
   ·have := h.1.le (i := k + 1) (j := i) (by omega) hi; omega
  have hcn : ∀ t, cs.getD k 0 ≤ t → t < cs.getD (k + 1) 0 → cntS zs t = cntS zs (cs.getD k 0) := fun t h1 h2 => cnt_const (fun z hz => ⟨hgap _ ((h.2.1 _).2 ⟨z, hz, .inl rfl⟩), hgap _ ((h.2.1 _).2 ⟨z, hz, .inr rfl⟩)⟩) h1 h2
  unfold rpAt
  have hnn := cntS_nonneg zs (cs.getD k 0)
  generalize hA : cs.getD k 0 = a at *
  generalize hB : cs.getD (k + 1) 0 = b at *
  by_cases c : cntS zs a = 0
  ·rw [if_pos c]
   refine ⟨i1, fun q hq => by have := i2 q hq; omega, fun t => ?_⟩
   rw [i3 t]
   by_cases c1 : t < a
   ·rw [if_pos c1, if_pos (by omega)]
   ·rw [if_neg c1]
    by_cases c2 : t < b
    ·rw [if_pos c2, hcn t (by omega) c2, c]
    ·rw [if_neg c2]
  ·rw [if_neg c]
   obtain ⟨j1, j2, j3⟩ := addP_law (p := ⟨a, b - 1, cntS zs a⟩) i1 ⟨by show a ≤ b - 1; omega, by show 1 ≤ cntS zs a; omega⟩ i2
   refine ⟨j1, fun q hq => by have := j2 q hq; dsimp only at this; omega, fun t => ?_⟩
   rw [j3 t, i3 t]
   unfold pcAt
   dsimp only
   by_cases c1 : t < a
   ·rw [if_pos c1, if_neg (by omega), if_pos (by omega)]; omega
   ·rw [if_neg c1]
    by_cases c2 : t < b
    ·rw [if_pos (by omega), if_pos c2, hcn t (by omega) c2]; omega
    ·rw [if_neg (by omega), if_neg c2]; rfl
theorem rp_law {zs : List (Int × Int)} {cs : List Int} (h : CutX zs cs) : PCan (rpAt zs cs (cs.length - 1)) ∧ ∀ t, cntP (rpAt zs cs (cs.length - 1)) t = cntS zs t := by
 by_cases c : 0 < cs.length
 ·obtain ⟨i1, -, i3⟩ := rpAt_law h (cs.length - 1) (by omega)
  refine ⟨i1, fun t => ?_⟩
  rw [i3 t]
  split
  ·rfl
  ·rename_i ht
   refine (cnt_zero (fun z hz => .inr ?_)).symm
   obtain ⟨i, hi, e⟩ := mem_at ((h.2.1 (z.2 + 1)).2 ⟨z, hz, .inr rfl⟩)
   have := h.1.le (i := i) (j := cs.length - 1) (by omega) (by omega)
   omega
 ·have hz : zs = [] := by
   cases zs with
   | nil => rfl
   | cons z zs =>
    have := (h.2.1 z.1).2 ⟨z, by simp, .inl rfl⟩
    have := List.length_pos_of_mem this
    omega
  have hc : cs = [] := List.length_eq_zero_iff.1 (by omega)
  subst hz; subst hc
  exact ⟨PCan.nil, fun t => rfl⟩
end Go.Proofs.YtlnboheahbfgfaaGreat
