/- The plain law of sweeps: a profile is known by the numbers that it tells; what events, in their order, make of it. -/
import Derived.Test.YtlfkkfdolnkjfaaRUnP
namespace Go.Proofs.Ytlfkkfdolnkjfaa
open Go.RowKit Go.Shelf Go.Sort
set_option linter.unusedSimpArgs false
set_option linter.unusedVariables false

/-- A piece: its span, its number. -/
structure Pc where
  (lo hi n : Int)
/-- In how many spans an instant lies; what a profile says; what events have added up to. -/
def cntS (zs : List (Int × Int)) (t : Int) : Int := zs.foldr (fun z a => (if inS t z then 1 else 0) + a) 0
def pcAt (p : Pc) (t : Int) : Int := if p.lo ≤ t ∧ t ≤ p.hi then p.n else 0
def cntP (ps : List Pc) (t : Int) : Int := ps.foldr (fun p a => pcAt p t + a) 0
def sumE (es : List (Int × Int)) (t : Int) : Int := es.foldr (fun e a => (if e.1 ≤ t then e.2 else 0) + a) 0
def evs (zs : List (Int × Int)) : List (Int × Int) := zs.flatMap fun z => [(z.1, 1), (z.2 + 1, -1)]
theorem cntS_cons (z : Int × Int) (zs : List (Int × Int)) (t : Int) : cntS (z :: zs) t = (if inS t z then 1 else 0) + cntS zs t := rfl
theorem cntP_cons (p : Pc) (ps : List Pc) (t : Int) : cntP (p :: ps) t = pcAt p t + cntP ps t := rfl
theorem sumE_cons (e : Int × Int) (es : List (Int × Int)) (t : Int) : sumE (e :: es) t = (if e.1 ≤ t then e.2 else 0) + sumE es t := rfl
theorem cntP_app (a b : List Pc) (t : Int) : cntP (a ++ b) t = cntP a t + cntP b t := by
  induction a with
  | nil => simp [cntP]
  | cons p a ih => rw [List.cons_append, cntP_cons, cntP_cons, ih]; omega
theorem sumE_app (a b : List (Int × Int)) (t : Int) : sumE (a ++ b) t = sumE a t + sumE b t := by
  induction a with
  | nil => simp [sumE]
  | cons p a ih => rw [List.cons_append, sumE_cons, sumE_cons, ih]; omega
theorem cntS_app (a b : List (Int × Int)) (t : Int) : cntS (a ++ b) t = cntS a t + cntS b t := by
  induction a with
  | nil => simp [cntS]
  | cons p a ih => rw [List.cons_append, cntS_cons, cntS_cons, ih]; omega
theorem sumE_perm {a b : List (Int × Int)} (h : a.Perm b) (t : Int) : sumE a t = sumE b t := by
  induction h with
  | nil => rfl
  | cons x _ ih => rw [sumE_cons, sumE_cons, ih]
  | swap x y l => simp only [sumE_cons]; omega
  | trans _ _ h1 h2 => rw [h1, h2]
theorem cntS_perm {a b : List (Int × Int)} (h : a.Perm b) (t : Int) : cntS a t = cntS b t := by
  induction h with
  | nil => rfl
  | cons x _ ih => rw [cntS_cons, cntS_cons, ih]
  | swap x y l => simp only [cntS_cons]; omega
  | trans _ _ h1 h2 => rw [h1, h2]
theorem cntS_nonneg (zs : List (Int × Int)) (t : Int) : 0 ≤ cntS zs t ∧ cntS zs t ≤ zs.length := by
  induction zs with
  | nil => simp [cntS]
  | cons z zs ih => rw [cntS_cons]; split <;> simp <;> omega
theorem cntS_any (zs : List (Int × Int)) (t : Int) : anyIn t zs = decide (1 ≤ cntS zs t) := by
  induction zs with
  | nil => rfl
  | cons z zs ih =>
    rw [anyIn_cons, cntS_cons, ih]
    have := (cntS_nonneg zs t).1
    cases inS t z <;> simp <;> omega
theorem evs_sum {zs : List (Int × Int)} (hv : ∀ z ∈ zs, vS z.1 z.2 = true) (t : Int) : sumE (evs zs) t = cntS zs t := by
  induction zs with
  | nil => rfl
  | cons z zs ih =>
    have e : evs (z :: zs) = (z.1, 1) :: (z.2 + 1, -1) :: evs zs := by simp [evs]
    have hz := hv z (by simp)
    have g := vS_true.1 hz
    rw [e, sumE_cons, sumE_cons, ih (fun z hz => hv z (by simp [hz])), cntS_cons]
    simp only [inS, hz, Bool.true_and]
    by_cases h1 : z.1 ≤ t <;> by_cases h2 : t ≤ z.2 <;> simp [h1, h2] <;> omega
/-- A profile: its pieces ascend, and neighbours differ. -/
def PCan (ps : List Pc) : Prop := (∀ p ∈ ps, p.lo ≤ p.hi ∧ 1 ≤ p.n) ∧ ∀ i, i + 1 < ps.length → (ps.getD i ⟨0, 0, 0⟩).hi < (ps.getD (i + 1) ⟨0, 0, 0⟩).lo ∧ ((ps.getD i ⟨0, 0, 0⟩).hi + 1 = (ps.getD (i + 1) ⟨0, 0, 0⟩).lo → (ps.getD i ⟨0, 0, 0⟩).n ≠ (ps.getD (i + 1) ⟨0, 0, 0⟩).n)
theorem PCan.nil : PCan [] := ⟨by simp, fun i hi => by simp at hi⟩
theorem PCan.tail {p : Pc} {l : List Pc} (h : PCan (p :: l)) : PCan l := ⟨fun q hq => h.1 q (by simp [hq]), fun i hi => by
  have := h.2 (i + 1) (by simp; omega)
  simpa using this⟩
theorem PCan.above {p : Pc} : ∀ {l : List Pc}, PCan (p :: l) → ∀ q ∈ l, p.hi < q.lo
  | [], _, q, hq => by simp at hq
  | r :: l, h, q, hq => by
    have h0 := (h.2 0 (by simp)).1
    simp at h0
    rcases List.mem_cons.1 hq with rfl | hq
    · exact h0
    · have := PCan.above h.tail q hq
      have := (h.1 r (by simp)).1
      omega
theorem cntP_below {l : List Pc} {t : Int} (h : ∀ q ∈ l, t < q.lo) : cntP l t = 0 := by
  induction l with
  | nil => rfl
  | cons q l ih =>
    have := h q (by simp)
    rw [cntP_cons, ih (fun q hq => h q (by simp [hq]))]
    unfold pcAt
    rw [if_neg (by omega)]; omega
theorem cntP_above {l : List Pc} {t : Int} (h : ∀ q ∈ l, q.hi < t) : cntP l t = 0 := by
  induction l with
  | nil => rfl
  | cons q l ih =>
    have := h q (by simp)
    rw [cntP_cons, ih (fun q hq => h q (by simp [hq]))]
    unfold pcAt
    rw [if_neg (by omega)]; omega
/-- A profile is known by what it says. -/
theorem pcan_uniq : ∀ (a b : List Pc), PCan a → PCan b → (∀ t, cntP a t = cntP b t) → a = b
  | [], [], _, _, _ => rfl
  | [], q :: b, _, hb, h => by
    exfalso
    have h1 := h q.lo
    have hq := hb.1 q (by simp)
    have e : cntP b q.lo = 0 := cntP_below (fun r hr => by have := hb.above r hr; omega)
    rw [cntP_cons q b, e] at h1
    unfold pcAt at h1
    rw [if_pos (by omega)] at h1
    simp [cntP] at h1
    omega
  | p :: a, [], ha, _, h => by
    exfalso
    have h1 := h p.lo
    have hp := ha.1 p (by simp)
    have e : cntP a p.lo = 0 := cntP_below (fun r hr => by have := ha.above r hr; omega)
    rw [cntP_cons p a, e] at h1
    unfold pcAt at h1
    rw [if_pos (by omega)] at h1
    simp [cntP] at h1
    omega
  | p :: a, q :: b, ha, hb, h => by
    have hp := ha.1 p (by simp)
    have hq := hb.1 q (by simp)
    have la := ha.above
    have lb := hb.above
    -- up to its end, a profile says what its first piece says
    have va : ∀ t, t ≤ p.hi → cntP (p :: a) t = pcAt p t := fun t ht => by
      rw [cntP_cons, cntP_below (fun r hr => by have := la r hr; omega)]; omega
    have vb : ∀ t, t ≤ q.hi → cntP (q :: b) t = pcAt q t := fun t ht => by
      rw [cntP_cons, cntP_below (fun r hr => by have := lb r hr; omega)]; omega
    have elo : p.lo = q.lo := by
      rcases Int.lt_trichotomy p.lo q.lo with c | c | c
      · have h1 := h p.lo
        rw [va _ (by omega), vb _ (by omega)] at h1
        unfold pcAt at h1
        rw [if_pos (by omega), if_neg (by omega)] at h1
        omega
      · exact c
      · have h1 := h q.lo
        rw [va _ (by omega), vb _ (by omega)] at h1
        unfold pcAt at h1
        rw [if_neg (by omega), if_pos (by omega)] at h1
        omega
    have en : p.n = q.n := by
      have h1 := h p.lo
      rw [va _ (by omega), vb _ (by omega)] at h1
      unfold pcAt at h1
      rw [if_pos (by omega), if_pos (by omega)] at h1
      exact h1
    -- behind its end, the first piece's number does not go on
    have nx : ∀ (p : Pc) (a : List Pc), PCan (p :: a) → cntP (p :: a) (p.hi + 1) ≠ p.n := fun p a ha he => by
      have hp := ha.1 p (by simp)
      rw [cntP_cons] at he
      unfold pcAt at he
      rw [if_neg (by omega)] at he
      cases a with
      | nil => simp [cntP] at he; omega
      | cons r a =>
        have h0 := ha.2 0 (by simp)
        simp at h0
        have hr := ha.1 r (by simp)
        rw [cntP_cons, cntP_below (fun s hs => by have := ha.tail.above s hs; omega)] at he
        unfold pcAt at he
        by_cases c : p.hi + 1 = r.lo
        · rw [if_pos (by omega)] at he
          have := h0.2 c
          omega
        · rw [if_neg (by omega)] at he
          omega
    have ehi : p.hi = q.hi := by
      rcases Int.lt_trichotomy p.hi q.hi with c | c | c
      · exfalso
        have h1 := h (p.hi + 1)
        rw [vb _ (by omega)] at h1
        unfold pcAt at h1
        rw [if_pos (by omega)] at h1
        exact nx p a ha (by omega)
      · exact c
      · exfalso
        have h1 := h (q.hi + 1)
        rw [va _ (by omega)] at h1
        unfold pcAt at h1
        rw [if_pos (by omega)] at h1
        exact nx q b hb (by omega)
    have epq : p = q := by
      cases p; cases q
      simp only at elo ehi en
      subst elo; subst ehi; subst en; rfl
    subst epq
    rw [pcan_uniq a b ha.tail hb.tail (fun t => by
      have h1 := h t
      rw [cntP_cons, cntP_cons] at h1
      omega)]
/-- One step of a profile: a piece is added at its end, or the last one goes on. -/
def addP (out : List Pc) (p : Pc) : List Pc := if 0 < out.length ∧ (out.getD (out.length - 1) ⟨0, 0, 0⟩).n = p.n ∧ (out.getD (out.length - 1) ⟨0, 0, 0⟩).hi + 1 = p.lo then out.set (out.length - 1) ⟨(out.getD (out.length - 1) ⟨0, 0, 0⟩).lo, p.hi, p.n⟩ else out ++ [p]
theorem snoc_of {α : Type} {l : List α} (h : 0 < l.length) : ∃ (a : List α) (x : α), l = a ++ [x] := by
  rcases List.eq_nil_or_concat l with e | ⟨a, x, e⟩
  · rw [e] at h; simp at h
  · exact ⟨a, x, by rw [e, List.concat_eq_append]⟩
theorem addP_length (out : List Pc) (p : Pc) : (addP out p).length ≤ out.length + 1 := by unfold addP; split <;> simp
theorem addP_law {out : List Pc} {p : Pc} (h : PCan out) (hp : p.lo ≤ p.hi ∧ 1 ≤ p.n) (hl : ∀ q ∈ out, q.hi < p.lo) : PCan (addP out p) ∧ (∀ q ∈ addP out p, q.hi ≤ p.hi) ∧ ∀ t, cntP (addP out p) t = cntP out t + pcAt p t := by
  unfold addP
  by_cases h0 : 0 < out.length
  · obtain ⟨a, x, rfl⟩ := snoc_of h0
    have ex : (a ++ [x]).getD ((a ++ [x]).length - 1) ⟨0, 0, 0⟩ = x := by simp [List.getD_eq_getElem?_getD]
    have es : ∀ y : Pc, (a ++ [x]).set ((a ++ [x]).length - 1) y = a ++ [y] := fun y => by
      rw [List.length_append, List.length_singleton, Nat.add_sub_cancel, List.set_append, if_neg (by omega), Nat.sub_self]; rfl
    rw [ex, es]
    have hx := h.1 x (by simp)
    have hxl := hl x (by simp)
    by_cases hc : 0 < (a ++ [x]).length ∧ x.n = p.n ∧ x.hi + 1 = p.lo
    · rw [if_pos hc]
      obtain ⟨-, c1, c2⟩ := hc
      refine ⟨⟨fun q hq => ?_, fun i hi => ?_⟩, fun q hq => ?_, fun t => ?_⟩
      · rcases List.mem_append.1 hq with hq | hq
        · exact h.1 q (by simp [hq])
        · rw [List.mem_singleton.1 hq]; simp only; omega
      · have h2 := h.2 i (by simp at hi ⊢; omega)
        simp only [List.getD_eq_getElem?_getD] at h2 ⊢
        simp at hi
        rw [List.getElem?_append_left (by omega)] at h2 ⊢
        by_cases e : i + 1 < a.length
        · rw [List.getElem?_append_left e] at h2 ⊢; exact h2
        · obtain e : i + 1 = a.length := by omega
          rw [e] at h2 ⊢
          simp only [List.getElem?_append_right (Nat.le_refl _), Nat.sub_self, List.getElem?_cons_zero, Option.getD_some] at h2 ⊢
          omega
      · rcases List.mem_append.1 hq with hq | hq
        · have := hl q (by simp [hq]); omega
        · rw [List.mem_singleton.1 hq]; simp only; omega
      · rw [cntP_app, cntP_app]
        simp only [cntP, List.foldr_cons, List.foldr_nil, pcAt]
        by_cases t1 : x.lo ≤ t <;> by_cases t2 : t ≤ x.hi <;> by_cases t3 : t ≤ p.hi <;> simp [t1, t2, t3] <;> (try split) <;> omega
    · rw [if_neg hc]
      refine ⟨⟨fun q hq => ?_, fun i hi => ?_⟩, fun q hq => ?_, fun t => ?_⟩
      · rcases List.mem_append.1 hq with hq | hq
        · exact h.1 q hq
        · rw [List.mem_singleton.1 hq]; exact hp
      · simp at hi
        simp only [List.getD_eq_getElem?_getD]
        rw [List.getElem?_append_left (by simp; omega)]
        by_cases e : i + 1 < (a ++ [x]).length
        · have h2 := h.2 i e
          simp only [List.getD_eq_getElem?_getD] at h2
          rw [List.getElem?_append_left e]; exact h2
        · obtain rfl : i = a.length := by simp at e; omega
          rw [show a.length + 1 = (a ++ [x]).length by simp]
          simp only [List.getElem?_append_right (Nat.le_refl _), Nat.sub_self, List.getElem?_cons_zero, Option.getD_some]
          exact ⟨hxl, fun e9 e8 => hc ⟨by simp, e8, e9⟩⟩
      · rcases List.mem_append.1 hq with hq | hq
        · have := hl q hq; omega
        · rw [List.mem_singleton.1 hq]; omega
      · rw [cntP_app]; simp [cntP]
  · obtain rfl : out = [] := List.length_eq_zero_iff.1 (by omega)
    rw [if_neg (by simp)]
    refine ⟨⟨fun q hq => by simp at hq; rw [hq]; exact hp, fun i hi => by simp at hi⟩, fun q hq => by simp at hq; rw [hq]; omega, fun t => by simp [cntP]⟩
end Go.Proofs.Ytlfkkfdolnkjfaa
