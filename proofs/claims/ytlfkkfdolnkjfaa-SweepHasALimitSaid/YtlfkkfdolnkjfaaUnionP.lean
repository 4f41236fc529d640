/- The plain law of Union: a merge of spans that ascend: it ascends with gaps, and holds the same instants. -/
import Derived.Test.YtlfkkfdolnkjfaaUnionW
import Derived.Test.YtlfkkfdolnkjfaaComS
namespace Go.Proofs.Ytlfkkfdolnkjfaa
open Go.RowKit Go.Shelf Go.Sort

def inS (t : Int) (z : Int × Int) : Bool := vS z.1 z.2 && (decide (z.1 ≤ t) && decide (t ≤ z.2))
def gapsS (out : List (Int × Int)) : Prop := ∀ i, i + 1 < out.length → (out.getD i (0, 0)).2 + 2 ≤ (out.getD (i + 1) (0, 0)).1
theorem inS_iff {t : Int} {z : Int × Int} : inS t z = true ↔ vS z.1 z.2 = true ∧ z.1 ≤ t ∧ t ≤ z.2 := by simp [inS]
theorem exists_getD {out : List (Int × Int)} {p : Int × Int → Prop} : (∃ z ∈ out, p z) ↔ ∃ i, i < out.length ∧ p (out.getD i (0, 0)) := by
  constructor
  · rintro ⟨z, hz, hp⟩
    obtain ⟨i, hi, rfl⟩ := List.mem_iff_getElem.1 hz
    exact ⟨i, hi, by rw [List.getD_eq_getElem?_getD, List.getElem?_eq_getElem hi]; exact hp⟩
  · rintro ⟨i, hi, hp⟩
    rw [List.getD_eq_getElem?_getD, List.getElem?_eq_getElem hi] at hp
    exact ⟨_, List.getElem_mem hi, hp⟩
theorem getD_set_ne {out : List (Int × Int)} {j i : Nat} (v : Int × Int) (h : i ≠ j) : (out.set j v).getD i (0, 0) = out.getD i (0, 0) := by
  rw [List.getD_eq_getElem?_getD, List.getD_eq_getElem?_getD, List.getElem?_set_ne (by omega)]
theorem getD_set_eq {out : List (Int × Int)} {j : Nat} (v : Int × Int) (h : j < out.length) : (out.set j v).getD j (0, 0) = v := by
  rw [List.getD_eq_getElem?_getD, List.getElem?_set_self h]; rfl
theorem step_gaps {out : List (Int × Int)} {s : Int × Int} (hg : gapsS out) (hl : 0 < out.length → (lastS out).1 ≤ s.1) : gapsS (stepS out s) := by
  intro i hi
  unfold stepS at hi ⊢
  split at hi
  · next hc =>
    rw [if_pos hc]
    rw [List.length_set] at hi
    rw [getD_set_ne _ (by omega)]
    by_cases h : i + 1 = out.length - 1
    · rw [h, getD_set_eq _ (by omega)]
      have := hg i hi
      rw [h] at this
      exact this
    · rw [getD_set_ne _ h]
      exact hg i hi
  · next hc =>
    rw [if_neg hc]
    simp only [List.length_append, List.length_cons, List.length_nil] at hi
    by_cases h : i + 1 < out.length
    · have h1 : (out ++ [s]).getD i (0, 0) = out.getD i (0, 0) := by rw [List.getD_eq_getElem?_getD, List.getD_eq_getElem?_getD, List.getElem?_append_left (by omega)]
      have h2 : (out ++ [s]).getD (i + 1) (0, 0) = out.getD (i + 1) (0, 0) := by rw [List.getD_eq_getElem?_getD, List.getD_eq_getElem?_getD, List.getElem?_append_left (by omega)]
      rw [h1, h2]; exact hg i h
    · have h0 : i + 1 = out.length := by omega
      have h1 : (out ++ [s]).getD i (0, 0) = lastS out := by rw [List.getD_eq_getElem?_getD, List.getElem?_append_left (by omega), ← List.getD_eq_getElem?_getD, show i = out.length - 1 by omega]; rfl
      have h2 : (out ++ [s]).getD (i + 1) (0, 0) = s := by rw [List.getD_eq_getElem?_getD, List.getElem?_append_right (by omega), show i + 1 - out.length = 0 by omega]; rfl
      rw [h1, h2]
      have : ¬ s.1 ≤ (lastS out).2 + 1 := fun h => hc ⟨by omega, h⟩
      omega
theorem step_last {out : List (Int × Int)} {s : Int × Int} (hl : 0 < out.length → (lastS out).1 ≤ s.1) : (lastS (stepS out s)).1 ≤ s.1 := by
  unfold stepS
  split
  · next hc =>
    unfold lastS
    rw [List.length_set, getD_set_eq _ (by omega)]
    exact hl hc.1
  · unfold lastS
    rw [List.getD_eq_getElem?_getD, List.length_append, List.length_singleton, Nat.add_sub_cancel, List.getElem?_append_right (by omega), Nat.sub_self]
    simp
theorem step_in {out : List (Int × Int)} {s : Int × Int} (ho : ∀ z ∈ out, vS z.1 z.2 = true) (hs : vS s.1 s.2 = true) (hl : 0 < out.length → (lastS out).1 ≤ s.1) (t : Int) :
    (∃ z ∈ stepS out s, inS t z = true) ↔ (∃ z ∈ out, inS t z = true) ∨ inS t s = true := by
  unfold stepS
  split
  · next hc =>
    obtain ⟨h0, hc⟩ := hc
    have h1 := vS_true.1 (ho _ (lastS_mem h0))
    have h2 := vS_true.1 hs
    have h3 := hl h0
    have hv : vS (lastS out).1 (max (lastS out).2 s.2) = true := vS_true.2 (by omega)
    rw [exists_getD, exists_getD, List.length_set]
    constructor
    · rintro ⟨i, hi, h⟩
      by_cases e : i = out.length - 1
      · rw [e, getD_set_eq _ (by omega)] at h
        have h4 := (inS_iff.1 h).2
        dsimp only at h4
        by_cases hh : t ≤ (lastS out).2
        · exact .inl ⟨out.length - 1, by omega, inS_iff.2 ⟨ho _ (lastS_mem h0), h4.1, hh⟩⟩
        · exact .inr (inS_iff.2 ⟨hs, by omega, by omega⟩)
      · rw [getD_set_ne _ e] at h
        exact .inl ⟨i, hi, h⟩
    · rintro (⟨i, hi, h⟩ | h)
      · by_cases e : i = out.length - 1
        · refine ⟨out.length - 1, by omega, ?_⟩
          rw [getD_set_eq _ (by omega)]
          rw [e] at h
          have h4 := (inS_iff.1 h).2
          refine inS_iff.2 ⟨hv, h4.1, ?_⟩
          have h5 : t ≤ (lastS out).2 := h4.2
          dsimp only
          omega
        · exact ⟨i, hi, by rw [getD_set_ne _ e]; exact h⟩
      · refine ⟨out.length - 1, by omega, ?_⟩
        rw [getD_set_eq _ (by omega)]
        have h4 := (inS_iff.1 h).2
        exact inS_iff.2 ⟨hv, by dsimp only; omega, by dsimp only; omega⟩
  · constructor
    · rintro ⟨z, hz, h⟩
      rcases List.mem_append.1 hz with hz | hz
      · exact .inl ⟨z, hz, h⟩
      · rw [List.mem_singleton.1 hz] at h; exact .inr h
    · rintro (⟨z, hz, h⟩ | h)
      · exact ⟨z, List.mem_append.2 (.inl hz), h⟩
      · exact ⟨s, by simp, h⟩
theorem merge_law (ds : List (Int × Int)) (hv : ∀ z ∈ ds, vS z.1 z.2 = true) (hp : ds.Pairwise fun x y => x.1 ≤ y.1) : gapsS (mergeS ds) ∧ ∀ t, (∃ z ∈ mergeS ds, inS t z = true) ↔ ∃ z ∈ ds, inS t z = true := by
  suffices H : ∀ ds out : List (Int × Int), gapsS out → (∀ z ∈ out, vS z.1 z.2 = true) → (0 < out.length → ∀ s ∈ ds, (lastS out).1 ≤ s.1) → (∀ z ∈ ds, vS z.1 z.2 = true) → (ds.Pairwise fun x y => x.1 ≤ y.1) →
      gapsS (ds.foldl stepS out) ∧ ∀ t, (∃ z ∈ ds.foldl stepS out, inS t z = true) ↔ (∃ z ∈ out, inS t z = true) ∨ ∃ z ∈ ds, inS t z = true by
    have := H ds [] (fun i hi => by simp at hi) (by simp) (by simp) hv hp
    refine ⟨this.1, fun t => ?_⟩
    have h2 := this.2 t
    simpa [mergeS] using h2
  intro ds
  induction ds with
  | nil => intro out hg _ _ _ _; exact ⟨hg, fun t => by simp⟩
  | cons s ds ih =>
    intro out hg ho hl hd hp
    have hls : 0 < out.length → (lastS out).1 ≤ s.1 := fun h => hl h s (by simp)
    obtain ⟨hp1, hp2⟩ := List.pairwise_cons.1 hp
    have := ih (stepS out s) (step_gaps hg hls) (stepS_ok ho (hd s (by simp))) (fun _ z hz => by have h1 := step_last hls; have h2 := hp1 z hz; omega) (fun z hz => hd z (by simp [hz])) hp2
    refine ⟨this.1, fun t => ?_⟩
    rw [List.foldl_cons, this.2 t, step_in ho (hd s (by simp)) hls t]
    simp only [List.mem_cons, exists_eq_or_imp, or_assoc]
theorem sorted_lo {zs ds : List (Int × Int)} (h : SortedBy loC zs ds) : ds.Pairwise fun x y => x.1 ≤ y.1 := by
  refine h.2.imp ?_
  intro a b hab
  have : decide (cmpI b.1 a.1 < 0) = false := hab
  rw [cmpI_lt] at this
  have := of_decide_eq_false this
  omega
def anyIn (t : Int) (zs : List (Int × Int)) : Bool := zs.any (inS t)
def allIn (t : Int) (zs : List (Int × Int)) : Bool := zs.all (inS t)
theorem union_law {zs ds : List (Int × Int)} (h : SortedBy loC zs ds) (hv : ∀ z ∈ zs, vS z.1 z.2 = true) : gapsS (mergeS ds) ∧ (∀ z ∈ mergeS ds, vS z.1 z.2 = true) ∧ ∀ t, anyIn t (mergeS ds) = anyIn t zs := by
  have hd : ∀ z ∈ ds, vS z.1 z.2 = true := fun z hz => hv z (h.1.mem_iff.1 hz)
  obtain ⟨h1, h2⟩ := merge_law ds hd (sorted_lo h)
  refine ⟨h1, (mergeS_inv ds hd).2, fun t => ?_⟩
  unfold anyIn
  rw [Bool.eq_iff_iff, List.any_eq_true, List.any_eq_true, h2 t]
  constructor
  · rintro ⟨z, hz, hh⟩; exact ⟨z, h.1.mem_iff.1 hz, hh⟩
  · rintro ⟨z, hz, hh⟩; exact ⟨z, h.1.mem_iff.2 hz, hh⟩

/-- What Common makes of a list. -/
theorem com_all (zs : List (Int × Int)) (hv : ∀ z ∈ zs, vS z.1 z.2 = true) (t : Int) : ((comS zs true).2 && inS t (comS zs true).1) = (decide (-1152921504606846976 ≤ t ∧ t ≤ 1152921504606846976) && allIn t zs) := by
  suffices H : ∀ zs (c : (Int × Int) × Bool), (c.2 = true → vS c.1.1 c.1.2 = true) → (∀ z ∈ zs, vS z.1 z.2 = true) → ((zs.foldl stepC c).2 && inS t (zs.foldl stepC c).1) = ((c.2 && inS t c.1) && allIn t zs) by
    have h := H zs ((-1152921504606846976, 1152921504606846976), true) (fun _ => by decide) hv
    unfold comS
    rw [h]
    simp [inS, show vS (-1152921504606846976) 1152921504606846976 = true by decide]
  intro zs
  induction zs with
  | nil => intro c _ _; simp [allIn]
  | cons z zs ih =>
    intro c hc hz
    have hvz := hz z (by simp)
    have e : allIn t (z :: zs) = (inS t z && allIn t zs) := by simp [allIn]
    rw [List.foldl_cons, e]
    rcases hb : c.2
    · have : stepC c z = c := by simp [stepC, hb]
      rw [this, ih c hc (fun y hy => hz y (by simp [hy])), hb]
      simp
    · have hs : stepC c z = ((mtLo c.1.1 c.1.2 z.1 z.2, mtHi c.1.1 c.1.2 z.1 z.2), mtB c.1.1 c.1.2 z.1 z.2) := by simp [stepC, hb]
      have hvc := vS_true.1 (hc hb)
      have hvz' := vS_true.1 hvz
      have hm : mtB c.1.1 c.1.2 z.1 z.2 = decide (max c.1.1 z.1 ≤ min c.1.2 z.2) := by simp [mtB, hc hb, hvz]
      rw [hs, ih _ (fun h => by
        have h' : mtB c.1.1 c.1.2 z.1 z.2 = true := h
        dsimp only
        rw [mtLo_yes h', mtHi_yes h']
        have := of_decide_eq_true (hm.symm.trans h')
        exact vS_true.2 (by omega)) (fun y hy => hz y (by simp [hy]))]
      rw [Bool.true_and, ← Bool.and_assoc]
      congr 1
      rw [Bool.eq_iff_iff, Bool.and_eq_true, Bool.and_eq_true, inS_iff, inS_iff, inS_iff]
      dsimp only
      constructor
      · rintro ⟨h, h2⟩
        rw [mtLo_yes h, mtHi_yes h] at h2
        exact ⟨⟨hc hb, by omega, by omega⟩, hvz, by omega, by omega⟩
      · rintro ⟨⟨_, h1, h2⟩, _, h3, h4⟩
        have h : mtB c.1.1 c.1.2 z.1 z.2 = true := hm.trans (decide_eq_true (by omega))
        rw [mtLo_yes h, mtHi_yes h]
        exact ⟨h, vS_true.2 (by omega), by omega, by omega⟩
end Go.Proofs.Ytlfkkfdolnkjfaa
