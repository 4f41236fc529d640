/- Texts joined: SimB, SimT, Sim5, Sim6 -/
import Derived.Laws.MakeOwn
import Derived.Test.YtiinmhfolfgobaaGreatDoorJ27
import Derived.Test.YtiinmhfolfgobaaGreatDoorJ32
namespace Go.Proofs.YtiinmhfolfgobaaGreatDoor
open Go.RowKit
set_option linter.unusedSimpArgs false
set_option linter.unusedVariables false

/-- What is known keeps these bounds (n: how much was learnt or refused). -/
def KB (P loc : Int) (n : Nat) (k : K6) : Prop := k.pp = P ∧ -3377699720527872 ≤ k.lo ∧ k.lo ≤ k.hi ∧ k.hi ≤ 303992974847508480 + 2 * (k.at_ - loc) ∧ loc ≤ k.at_ ∧ 0 ≤ k.le ∧ k.le ≤ n ∧ 0 ≤ k.re ∧ k.re ≤ n
theorem KB.more {P loc : Int} {n m : Nat} {k : K6} (h : KB P loc n k) (hm : n ≤ m) : KB P loc m k := by
  obtain ⟨a, b, c, d, e, f, g, i, j⟩ := h; exact ⟨a, b, c, d, e, f, by omega, i, by omega⟩
section
variable {P loc u : Int} {n : Nat} {k : K6}
theorem KB.kE (p0 : 0 ≤ P) (p1 : P ≤ 1000000) (l0 : -1125899906842624 ≤ loc) (l1 : loc ≤ 1125899906842624) (hn : n ≤ 64) (h : KB P loc n k) (hu : k.at_ ≤ loc + 288230376151711744) : kE k.at_ k.lo k.hi k.pp k.le k.re = 0 := by
  obtain ⟨a, b, c, d, e, f, g, i, j⟩ := h
  refine kE_0 (vS_true.2 ⟨by omega, by omega, by omega⟩) (vT_true.2 ⟨by omega, by omega⟩) (by omega) (by omega) (by simp [ctB]; omega) (by simp [ctB]; omega)
theorem KB.now (p0 : 0 ≤ P) (p1 : P ≤ 1000000) (l0 : -1125899906842624 ≤ loc) (l1 : loc ≤ 1125899906842624) (hn : n ≤ 64) (h : KB P loc n k) (ha : k.at_ ≤ u) (hu : u ≤ loc + 288230376151711744) :
    nowK u k = (k.lo + elLo (u - k.at_) P, k.hi + elHi (u - k.at_) P, 0) ∧ spK u k = (k.lo + elLo (u - k.at_) P, k.hi + elHi (u - k.at_) P) ∧ vS (k.lo + elLo (u - k.at_) P) (k.hi + elHi (u - k.at_) P) = true ∧ k.lo ≤ k.lo + elLo (u - k.at_) P ∧ k.lo + elLo (u - k.at_) P ≤ k.hi + elHi (u - k.at_) P ∧ k.hi + elHi (u - k.at_) P ≤ 303992974847508480 + 2 * (u - loc) := by
  have hk := h.kE p0 p1 l0 l1 hn (by omega)
  obtain ⟨a, b, c, d, e, f, g, i, j⟩ := h
  have d0 : 0 ≤ u - k.at_ := by omega
  have X1 := lo_pos d0 p0 p1
  have X2 := hi_two d0 p0 p1
  have X3 := le_hi d0 p0 p1
  have X4 := lo_le d0 p0 p1
  have hv : vS k.lo k.hi = true := vS_true.2 ⟨by omega, by omega, by omega⟩
  have hv2 : vS (k.lo + elLo (u - k.at_) P) (k.hi + elHi (u - k.at_) P) = true := vS_true.2 ⟨by omega, by omega, by omega⟩
  have hnow : nowK u k = (k.lo + elLo (u - k.at_) P, k.hi + elHi (u - k.at_) P, 0) := by
    unfold nowK
    rw [nowT_ok hk (by omega) (vT_true.2 ⟨by omega, by omega⟩), hv, a]
    unfold opT
    rw [inD_true.2 ⟨by omega, by omega, p0, p1⟩, hv2]
    rfl
  exact ⟨hnow, by unfold spK; rw [hnow], hv2, by omega, by omega, by omega⟩
/-- Learning: there is no error. -/
theorem KB.learn {x y : Int} (p0 : 0 ≤ P) (p1 : P ≤ 1000000) (l0 : -1125899906842624 ≤ loc) (l1 : loc ≤ 1125899906842624) (hn : n < 64) (h : KB P loc n k) (ha : k.at_ ≤ u) (hu : u ≤ loc + 288230376151711744) (hv : vS x y = true) :
    (lrnK k u x y).e = 0 ∧ KB P loc (n + 1) (kOf (lrnK k u x y)) ∧ (kOf (lrnK k u x y)).at_ ≤ u ∧
    ((kOf (lrnK k u x y) = ⟨u, max (k.lo + elLo (u - k.at_) P) x, min (k.hi + elHi (u - k.at_) P) y, P, k.le + 1, k.re⟩ ∧ max (k.lo + elLo (u - k.at_) P) x ≤ min (k.hi + elHi (u - k.at_) P) y) ∨ kOf (lrnK k u x y) = ⟨k.at_, k.lo, k.hi, k.pp, k.le, k.re + 1⟩) := by
  obtain ⟨hnow, -, hv2, b1, b2, b3⟩ := h.now p0 p1 l0 l1 (by omega) ha hu
  obtain ⟨a, b, c, d, e, f, g, i, j⟩ := h
  have v1 := vS_true.1 hv
  have v2 := vS_true.1 hv2
  unfold nowK at hnow
  unfold lrnK
  rcases hm : mtB (k.lo + elLo (u - k.at_) P) (k.hi + elHi (u - k.at_) P) x y
  · rw [lrn_no hnow hv hm]
    have em : min (k.re + 1) 1152921504606846976 = k.re + 1 := by omega
    refine ⟨rfl, ?_, ha, .inr (by simp only [kOf, em])⟩
    simp only [kOf, em]
    exact ⟨a, b, c, d, e, f, by simp only; omega, by simp only; omega, by simp only; omega⟩
  · rw [lrn_yes hnow hv hm]
    have em : min (k.le + 1) 1152921504606846976 = k.le + 1 := by omega
    simp only [mtB, Bool.and_eq_true, decide_eq_true_eq] at hm
    refine ⟨rfl, ?_, Int.le_refl _, .inl ⟨by simp only [kOf, em, a], by omega⟩⟩
    simp only [kOf, em]
    exact ⟨a, by simp only; omega, by simp only; omega, by simp only; omega, by simp only; omega, by simp only; omega, by simp only; omega, i, by simp only; omega⟩
theorem KB.begin {x y : Int} (p0 : 0 ≤ P) (p1 : P ≤ 1000000) (l0 : -1125899906842624 ≤ loc) (l1 : loc ≤ 1125899906842624) (ha : loc ≤ u) (hu : u ≤ loc + 288230376151711744) (hv : vS x y = true) (hx : -3377699720527872 ≤ x) (hy : y ≤ 303992974847508480 + 2 * (u - loc)) :
    begK u x y P = ⟨u, x, y, P, 0, 0⟩ ∧ KB P loc 0 (begK u x y P) := by
  have v1 := vS_true.1 hv
  have hk : Go.Proofs.YtiinmhfolfgobaaGreatDoor.kE u x y P 0 0 = 0 := kE_0 hv (vT_true.2 ⟨by omega, by omega⟩) p0 p1 (by simp [ctB]) (by simp [ctB])
  unfold begK
  rw [if_pos hk]
  exact ⟨rfl, rfl, hx, by simp only; omega, hy, ha, by simp, by simp, by simp, by simp⟩
end
/-- A source, or the client, keeps the bounds at the reading u. -/
def WB (P loc u : Int) (n : Nat) (k : Kw) : Prop := k.1 = true → KB P loc n k.2 ∧ k.2.at_ ≤ u
theorem WB.later {P loc u u' : Int} {n m : Nat} {k : Kw} (h : WB P loc u n k) (hu : u ≤ u') (hm : n ≤ m) : WB P loc u' m k := fun hk => ⟨(h hk).1.more hm, Int.le_trans (h hk).2 hu⟩
theorem WB.none {P loc u : Int} {n : Nat} : WB P loc u n (false, .zero) := fun h => by cases h
theorem WB.take {P loc u x y : Int} {n : Nat} {k : Kw} (p0 : 0 ≤ P) (p1 : P ≤ 1000000) (l0 : -1125899906842624 ≤ loc) (l1 : loc ≤ 1125899906842624) (hn : n < 64) (h : WB P loc u n k) (hl : loc ≤ u) (hu : u ≤ loc + 288230376151711744) (hv : vS x y = true) (hx : -3377699720527872 ≤ x) (hy : y ≤ 303992974847508480 + 2 * (u - loc)) :
    WB P loc u (n + 1) (takeK k u x y P) ∧ (takeK k u x y P).1 = true ∧ (k.1 = true → (lrnK k.2 u x y).e = 0) := by
  unfold takeK
  rcases hk : k.1
  · simp only [Bool.false_eq_true, if_false]
    obtain ⟨e, hb⟩ := KB.begin (P := P) p0 p1 l0 l1 hl hu hv hx hy
    exact ⟨fun _ => ⟨hb.more (by omega), by simp only [e]; omega⟩, trivial, by simp⟩
  · obtain ⟨e, hb, ha, -⟩ := (h hk).1.learn p0 p1 l0 l1 hn (h hk).2 hu hv
    rw [if_pos rfl, if_pos e]
    exact ⟨fun _ => ⟨hb, ha⟩, rfl, fun _ => e⟩
/-- The bounds of a state behind q steps. -/
def SInv (s : Sch) (q : Nat) (m : Sim) : Prop := s.sta ≤ m.t ∧ m.t ≤ s.sta + 4503599627370496 * q ∧ s.loc ≤ m.u ∧ m.u ≤ s.loc + 4503599627370496 * q ∧ m.by_.length = s.es.length ∧ (∀ i, i < s.es.length → WB s.p s.loc m.u q (m.by_.getD i (false, .zero))) ∧ WB s.p s.loc m.u q m.own
theorem Sch.rg_all {s : Sch} (h : s.rg = true) : (-1125899906842624 ≤ s.sta ∧ s.sta ≤ 1125899906842624) ∧ (-1125899906842624 ≤ s.loc ∧ s.loc ≤ 1125899906842624) ∧ 0 ≤ s.p ∧ s.p ≤ 1000000 ∧ 0 ≤ s.ai ∧ s.ai ≤ 1000 ∧ 0 ≤ s.li ∧ s.li ≤ s.es.length ∧ 2 * s.li < s.es.length ∧ ∀ e ∈ s.es, 0 ≤ e ∧ e ≤ 1125899906842624 := by
  unfold Sch.rg at h
  simp only [Bool.and_eq_true, decide_eq_true_eq, nearB_true, List.all_eq_true, lenB_true] at h
  obtain ⟨h1, h2, h3, h4, h5, h6, h7, h8, h9, h10⟩ := h
  exact ⟨h1, h2, h3, h4, h5, h6, h7, h8, h9, h10⟩
theorem chkE_0 {s : Sch} (h : chkE s = 0) : 1 ≤ s.es.length ∧ s.es.length ≤ 8 ∧ s.xs.length ≤ 64 ∧ s.rg = true ∧ ∀ x ∈ s.xs, stpE s.p s.es.length x = 0 := by
  unfold chkE at h
  split at h
  · simp at h
  · split at h
    · rename_i h1 h2
      exact ⟨by omega, by omega, by omega, h2, stpsE_all h⟩
    · simp at h
theorem stpE_0 {p n : Int} {x : Stp} (h : stpE p n x = 0) : x.rg n = true ∧ x.ft p = true := by
  unfold stpE at h
  split at h
  · split at h
    · exact ⟨by assumption, by assumption⟩
    · simp at h
  · simp at h
theorem Stp.rg_all {n : Int} {x : Stp} (h : x.rg n = true) : 0 ≤ x.src ∧ x.src < n ∧ (0 ≤ x.tr ∧ x.tr ≤ 1125899906842624) ∧ (0 ≤ x.lo ∧ x.lo ≤ 1125899906842624) ∧ (0 ≤ x.ou ∧ x.ou ≤ 1125899906842624) ∧ (0 ≤ x.ol ∧ x.ol ≤ 1125899906842624) ∧ (0 ≤ x.ho ∧ x.ho ≤ 1125899906842624) ∧ (0 ≤ x.hl ∧ x.hl ≤ 1125899906842624) ∧ (0 ≤ x.ba ∧ x.ba ≤ 1125899906842624) ∧ (0 ≤ x.bl ∧ x.bl ≤ 1125899906842624) ∧ (-1125899906842624 ≤ x.w2 ∧ x.w2 ≤ 1125899906842624) ∧ (-1125899906842624 ≤ x.w3 ∧ x.w3 ≤ 1125899906842624) := by
  unfold Stp.rg at h
  simp only [Bool.and_eq_true, decide_eq_true_eq, nearB_true, Stp.ls, List.all_cons, List.all_nil, lenB_true, and_true] at h
  obtain ⟨h0, h1, ⟨a, b, c, d, e, f, g, i⟩, j, k⟩ := h
  exact ⟨h0, h1, a, b, c, d, e, f, g, i, j, k⟩
theorem stp_get {s : Sch} {q : Nat} (hq : q < s.xs.length) : s.xs.getD q .zero ∈ s.xs := by
  rw [List.getD_eq_getElem?_getD, List.getElem?_eq_getElem hq]; exact List.getElem_mem _
theorem es_get {s : Sch} {i : Nat} (hi : i < s.es.length) : s.es.getD i 0 ∈ s.es := by
  rw [List.getD_eq_getElem?_getD, List.getElem?_eq_getElem hi]; exact List.getElem_mem _
theorem SInv.init {s : Sch} (h : chkE s = 0) : SInv s 0 s.init := by
  refine ⟨Int.le_refl _, by simp [Sch.init], Int.le_refl _, by simp [Sch.init], by simp [Sch.init], fun i hi => ?_, WB.none⟩
  have : (s.init.by_).getD i (false, K6.zero) = (false, K6.zero) := by
    simp only [Sch.init, List.getD_eq_getElem?_getD, List.getElem?_replicate]
    split <;> rfl
  rw [this]; exact WB.none
theorem cnt_mem {zs : List (Int × Int)} {t : Int} (h : 1 ≤ cntS zs t) : ∃ z ∈ zs, z.1 ≤ t ∧ t ≤ z.2 := by
  have := cntS_any zs t
  rw [decide_eq_true h] at this
  obtain ⟨z, hz, hi⟩ := anyIn_mem' this
  exact ⟨z, hz, (inS_iff.1 hi).2⟩
theorem knowns_mem {l : List Kw} {k : K6} (h : k ∈ knowns l) : (true, k) ∈ l := by
  unfold knowns at h
  obtain ⟨a, ha, rfl⟩ := List.mem_map.1 h
  obtain ⟨h1, h2⟩ := List.mem_filter.1 ha
  obtain ⟨b, c⟩ := a
  simp only at h2
  subst h2
  exact h1
/-- What the merge gives without an error lies within the bounds. -/
theorem MG_in {P loc u f x y : Int} {n : Nat} {ks : List K6} (p0 : 0 ≤ P) (p1 : P ≤ 1000000) (l0 : -1125899906842624 ≤ loc) (l1 : loc ≤ 1125899906842624) (hn : n ≤ 64) (hu : u ≤ loc + 288230376151711744) (hk : ∀ k ∈ ks, KB P loc n k ∧ k.at_ ≤ u) (h : MG ks u f x y 0) :
    vS x y = true ∧ -3377699720527872 ≤ x ∧ y ≤ 303992974847508480 + 2 * (u - loc) := by
  rcases h with ⟨-, -, -, h9⟩ | ⟨-, i, hi, -, h9, -, -, he⟩ | ⟨-, -, hax⟩
  · simp at h9
  · exact absurd he.symm h9
  · obtain ⟨hq, c1, c2, hv⟩ := AX_ends hax rfl
    obtain ⟨-, f0, f1⟩ := qE_parts hq
    obtain ⟨z, hz, z1, z2⟩ := cnt_mem (zs := ks.map (spK u)) (t := x) (by omega)
    obtain ⟨z', hz', z1', z2'⟩ := cnt_mem (zs := ks.map (spK u)) (t := y) (by omega)
    obtain ⟨k, hkm, rfl⟩ := List.mem_map.1 hz
    obtain ⟨k', hkm', rfl⟩ := List.mem_map.1 hz'
    obtain ⟨b, ba⟩ := hk k hkm
    obtain ⟨b', ba'⟩ := hk k' hkm'
    obtain ⟨-, s1, -, g1, -⟩ := b.now p0 p1 l0 l1 hn ba hu
    obtain ⟨-, s2, -, -, -, g2⟩ := b'.now p0 p1 l0 l1 hn ba' hu
    rw [s1] at z1; rw [s2] at z2'
    have := b.2.1
    exact ⟨hv, by omega, by omega⟩
/-- The span of an exchange lies within the bounds. -/
theorem ask_in {s : Sch} {q : Nat} {m : Sim} {x : Stp} (h : chkE s = 0) (hq : q < s.xs.length) (hx : s.xs.getD q .zero = x) (hi : SInv s q m) (he : (s.ask m x).2.2 = 0) :
    vS (s.ask m x).1 (s.ask m x).2.1 = true ∧ -3377699720527872 ≤ (s.ask m x).1 ∧ (s.ask m x).2.1 ≤ 303992974847508480 := by
  obtain ⟨c1, c2, c3, c4, c5⟩ := chkE_0 h
  obtain ⟨⟨a1, a2⟩, ⟨a3, a4⟩, a5, a6, -, -, -, -, -, a7⟩ := Sch.rg_all c4
  obtain ⟨b1, b2, b3, b4, b5, b6, b7, b8, b9, b10, b11, b12⟩ := Stp.rg_all (stpE_0 (c5 x (hx ▸ stp_get hq))).1
  obtain ⟨i1, i2, i3, i4, -⟩ := hi
  have hes := a7 _ (es_get (s := s) (i := x.src.toNat) (by omega))
  rcases ha : s.ask m x with ⟨lo, hi, er⟩
  rw [ha] at he
  simp only at he; subst he
  obtain ⟨e1, e2, e3, e4, e5, e6, e7⟩ := atT_0 (show atT _ _ _ _ _ _ = (lo, hi, 0) from ha)
  have d0 : 0 ≤ m.u + x.lo + x.ol + x.hl + x.bl - (m.u + x.lo) := by omega
  have X2 := hi_two d0 a5 a6
  have q64 : (q : Int) < 64 := by omega
  have v1 := vT_true.1 e6
  have v2 := vT_true.1 e7
  show vS lo hi = true ∧ -3377699720527872 ≤ lo ∧ hi ≤ 303992974847508480
  exact ⟨vS_true.2 ⟨by omega, by omega, by omega⟩, by omega, by omega⟩
theorem getD_set' {α : Type} (l : List α) (i : Nat) (v d : α) (j : Nat) : (l.set i v).getD j d = if j = i ∧ i < l.length then v else l.getD j d := by
  simp only [List.getD_eq_getElem?_getD, List.getElem?_set]
  by_cases h : i = j
  · subst h
    by_cases h2 : i < l.length
    · simp [h2]
    · simp [h2]
  · simp [h, Ne.symm h]
theorem SInv.hear {s : Sch} {q : Nat} {m : Sim} {x : Stp} (h : chkE s = 0) (hq : q < s.xs.length) (hx : s.xs.getD q .zero = x) (hi : SInv s q m) :
    (s.hear m x).length = s.es.length ∧ (∀ i, i < s.es.length → WB s.p s.loc (uAft m x) (q + 1) ((s.hear m x).getD i (false, .zero))) ∧ m.u ≤ uAft m x ∧ uAft m x ≤ m.u + 4503599627370496 ∧ m.t ≤ tAft m x ∧ tAft m x ≤ m.t + 4503599627370496 ∧
    ((s.ask m x).2.2 = 0 → (m.by_.getD x.src.toNat (false, .zero)).1 = true → (lrnK (m.by_.getD x.src.toNat (false, .zero)).2 (uAft m x) (s.ask m x).1 (s.ask m x).2.1).e = 0) := by
  have ha := ask_in h hq hx hi
  obtain ⟨c1, c2, c3, c4, c5⟩ := chkE_0 h
  obtain ⟨⟨a1, a2⟩, ⟨a3, a4⟩, a5, a6, -, -, -, -, -, a7⟩ := Sch.rg_all c4
  obtain ⟨b1, b2, b3, b4, b5, b6, b7, b8, b9, b10, b11, b12⟩ := Stp.rg_all (stpE_0 (c5 x (hx ▸ stp_get hq))).1
  obtain ⟨i1, i2, i3, i4, i5, i6, i7⟩ := hi
  have q64 : (q : Int) < 64 := by omega
  have hu0 : m.u ≤ uAft m x := by unfold uAft; omega
  have hu1 : uAft m x ≤ m.u + 4503599627370496 := by unfold uAft; omega
  have ht0 : m.t ≤ tAft m x := by unfold tAft; omega
  have ht1 : tAft m x ≤ m.t + 4503599627370496 := by unfold tAft; omega
  have hsrc : x.src.toNat < s.es.length := by omega
  have hold := fun i (hi : i < s.es.length) => (i6 i hi).later hu0 (Nat.le_succ q)
  refine ⟨?_, ?_, hu0, hu1, ht0, ht1, ?_⟩
  · unfold Sch.hear; split
    · rw [List.length_set]; exact i5
    · exact i5
  · intro i hi
    unfold Sch.hear
    split
    · rename_i he
      obtain ⟨v, w1, w2⟩ := ha he
      rw [getD_set']
      split
      · rename_i hj
        exact ((i6 _ hsrc).later hu0 (Nat.le_refl q)).take a5 a6 a3 a4 (by omega) (by omega) (by omega) v w1 (by omega) |>.1
      · exact hold i hi
    · exact hold i hi
  · intro he hs
    obtain ⟨v, w1, w2⟩ := ha he
    exact (((i6 _ hsrc).later hu0 (Nat.le_refl q)).take a5 a6 a3 a4 (by omega) (by omega) (by omega) v w1 (by omega)).2.2 hs
theorem SInv.next {s : Sch} {q : Nat} {m : Sim} {x : Stp} {a : Int × Int × Int} (h : chkE s = 0) (hq : q < s.xs.length) (hx : s.xs.getD q .zero = x) (hi : SInv s q m) (hm : MG (knowns (s.hear m x)) (uAft m x) s.li a.1 a.2.1 a.2.2) :
    SInv s (q + 1) (s.nxt m x a) ∧ (a.2.2 = 0 → m.own.1 = true → (lrnK m.own.2 (uAft m x) a.1 a.2.1).e = 0) ∧ (a.2.2 = 0 → vS a.1 a.2.1 = true ∧ -3377699720527872 ≤ a.1 ∧ a.2.1 ≤ 303992974847508480 + 2 * (uAft m x - s.loc)) := by
  obtain ⟨g1, g2, hu0, hu1, ht0, ht1, -⟩ := hi.hear h hq hx
  obtain ⟨c1, c2, c3, c4, c5⟩ := chkE_0 h
  obtain ⟨⟨a1, a2⟩, ⟨a3, a4⟩, a5, a6, -, -, -, -, -, a7⟩ := Sch.rg_all c4
  obtain ⟨i1, i2, i3, i4, i5, i6, i7⟩ := hi
  have q64 : (q : Int) < 64 := by omega
  have hks : ∀ k ∈ knowns (s.hear m x), KB s.p s.loc (q + 1) k ∧ k.at_ ≤ uAft m x := fun k hk => by
    obtain ⟨i, hi, e⟩ := List.getElem_of_mem (knowns_mem hk)
    have := g2 i (by omega)
    rw [List.getD_eq_getElem?_getD, List.getElem?_eq_getElem hi, Option.getD_some, e] at this
    exact this rfl
  have hin : a.2.2 = 0 → vS a.1 a.2.1 = true ∧ -3377699720527872 ≤ a.1 ∧ a.2.1 ≤ 303992974847508480 + 2 * (uAft m x - s.loc) := fun he => by
    rw [he] at hm
    exact MG_in a5 a6 a3 a4 (by omega) (by omega) hks hm
  have hold := i7.later hu0 (Nat.le_refl q)
  refine ⟨⟨?_, ?_, ?_, ?_, g1, g2, ?_⟩, fun he hs => ?_, hin⟩
  · show s.sta ≤ tAft m x; omega
  · show tAft m x ≤ _; omega
  · show s.loc ≤ uAft m x; omega
  · show uAft m x ≤ _; omega
  · show WB s.p s.loc (uAft m x) (q + 1) (s.own m x a)
    unfold Sch.own
    split
    · rename_i he
      obtain ⟨v, w1, w2⟩ := hin he
      exact (hold.take a5 a6 a3 a4 (by omega) (by omega) (by omega) v w1 w2).1
    · exact hold.later (Int.le_refl _) (Nat.le_succ q)
  · obtain ⟨v, w1, w2⟩ := hin he
    exact (hold.take a5 a6 a3 a4 (by omega) (by omega) (by omega) v w1 w2).2.2 hs
theorem RunN.inv {s : Sch} (h : chkE s = 0) : ∀ {q : Nat} {m : Sim} {rs : List Rep}, q ≤ s.xs.length → RunN s q m rs → SInv s q m
  | 0, _, _, _, ⟨h1, _⟩ => h1 ▸ SInv.init h
  | q + 1, _, _, hq, ⟨m0, r0, a, h1, h2, h3, h4⟩ => by
    subst h3
    exact ((RunN.inv h (by omega) h1).next h (by omega) rfl h2).1
end Go.Proofs.YtiinmhfolfgobaaGreatDoor
namespace Go.Proofs.YtiinmhfolfgobaaGreatDoor
open Go.RowKit
set_option linter.unusedSimpArgs false
set_option linter.unusedVariables false

/-- What is reported in a state. -/
def Sim.rep (m : Sim) : Rep := if m.own.1 then ⟨m.u, m.t, true, (spK m.u m.own.2).1, (spK m.u m.own.2).2, m.ck⟩ else ⟨m.u, m.t, false, 0, 0, .zero⟩
theorem rep_nxt (s : Sch) (m : Sim) (x : Stp) (a : Int × Int × Int) : s.rep m x a = (s.nxt m x a).rep := by
  show repOf _ _ _ _ = Sim.rep _
  unfold repOf Sim.rep
  show (if (s.own m x a).1 then _ else _) = (if (s.own m x a).1 then _ else _)
  split
  · rfl
  · rfl
/-- One step, and the reports at its ends. -/
theorem RunN.at {s : Sch} : ∀ {n : Nat} {m : Sim} {rs : List Rep}, RunN s n m rs → ∀ i, i < n → ∃ m0 r0 a, RunN s i m0 r0 ∧ MG (knowns (s.hear m0 (s.xs.getD i .zero))) (uAft m0 (s.xs.getD i .zero)) s.li a.1 a.2.1 a.2.2 ∧ rs.getD i .zero = (s.nxt m0 (s.xs.getD i .zero) a).rep ∧ (0 < i → rs.getD (i - 1) .zero = m0.rep)
  | 0, _, _, _, i, hi => by omega
  | n + 1, m, rs, ⟨m0, r0, a, h1, h2, h3, h4⟩, i, hi => by
    have hl := (RunN.len h1).1
    by_cases e : i = n
    · subst e
      refine ⟨m0, r0, a, h1, h2, ?_, fun h0 => ?_⟩
      · rw [h4, List.getD_eq_getElem?_getD, List.getElem?_append_right (by omega), hl, Nat.sub_self]
        exact rep_nxt _ _ _ _
      · rw [h4, List.getD_eq_getElem?_getD, List.getElem?_append_left (by omega), ← List.getD_eq_getElem?_getD]
        obtain ⟨j, rfl⟩ : ∃ j, i = j + 1 := ⟨i - 1, by omega⟩
        obtain ⟨m1, r1, b, k1, k2, k3, k4⟩ := h1
        have hl1 := (RunN.len k1).1
        rw [k4, show j + 1 - 1 = j by omega, List.getD_eq_getElem?_getD, List.getElem?_append_right (by omega), hl1, Nat.sub_self, k3]
        exact rep_nxt _ _ _ _
    · obtain ⟨m1, r1, b, k1, k2, k3, k4⟩ := RunN.at h1 i (by omega)
      refine ⟨m1, r1, b, k1, k2, ?_, fun h0 => ?_⟩
      · rw [h4, List.getD_eq_getElem?_getD, List.getElem?_append_left (by omega), ← List.getD_eq_getElem?_getD]; exact k3
      · rw [h4, List.getD_eq_getElem?_getD, List.getElem?_append_left (by omega), ← List.getD_eq_getElem?_getD]; exact k4 h0
/-- What the client knows behind a step, told by what it knew. -/
theorem own_next {s : Sch} {q : Nat} {m : Sim} {x : Stp} {a : Int × Int × Int} (h : chkE s = 0) (hq : q < s.xs.length) (hx : s.xs.getD q .zero = x) (hi : SInv s q m) (hm : MG (knowns (s.hear m x)) (uAft m x) s.li a.1 a.2.1 a.2.2) (ho : m.own.1 = true) :
    (s.own m x a).1 = true ∧ ((a.2.2 = 0 ∧ (s.own m x a).2 = ⟨uAft m x, max (m.own.2.lo + elLo (uAft m x - m.own.2.at_) s.p) a.1, min (m.own.2.hi + elHi (uAft m x - m.own.2.at_) s.p) a.2.1, s.p, m.own.2.le + 1, m.own.2.re⟩ ∧ max (m.own.2.lo + elLo (uAft m x - m.own.2.at_) s.p) a.1 ≤ min (m.own.2.hi + elHi (uAft m x - m.own.2.at_) s.p) a.2.1) ∨ ((s.own m x a).2.at_ = m.own.2.at_ ∧ (s.own m x a).2.lo = m.own.2.lo ∧ (s.own m x a).2.hi = m.own.2.hi)) := by
  obtain ⟨g1, g2, hu0, hu1, ht0, ht1, -⟩ := hi.hear h hq hx
  have hin := (hi.next h hq hx hm).2.2
  obtain ⟨c1, c2, c3, c4, c5⟩ := chkE_0 h
  obtain ⟨⟨a1, a2⟩, ⟨a3, a4⟩, a5, a6, -⟩ := Sch.rg_all c4
  obtain ⟨i1, i2, i3, i4, i5, i6, i7⟩ := hi
  have q64 : (q : Int) < 64 := by omega
  unfold Sch.own
  split
  · rename_i he
    obtain ⟨v, w1, w2⟩ := hin he
    have hb := i7 ho
    obtain ⟨e0, kb, ka, hc⟩ := hb.1.learn (u := uAft m x) a5 a6 a3 a4 (by omega) (by omega) (by omega) v
    unfold takeK
    rw [if_pos ho, if_pos e0]
    refine ⟨rfl, ?_⟩
    rcases hc with ⟨hc, hle⟩ | hc
    · exact .inl ⟨he, hc, hle⟩
    · exact .inr ⟨by rw [hc], by rw [hc], by rw [hc]⟩
  · exact ⟨ho, .inr ⟨rfl, rfl, rfl⟩⟩
/-- The Lo never falls; without drift the span never gets wider. -/
theorem lo_mono {s : Sch} {q : Nat} {m : Sim} {x : Stp} {a : Int × Int × Int} (h : chkE s = 0) (hq : q < s.xs.length) (hx : s.xs.getD q .zero = x) (hi : SInv s q m) (hm : MG (knowns (s.hear m x)) (uAft m x) s.li a.1 a.2.1 a.2.2) (ho : m.own.1 = true) :
    (s.own m x a).1 = true ∧ (spK m.u m.own.2).1 ≤ (spK (uAft m x) (s.own m x a).2).1 ∧ (s.p = 0 → (spK (uAft m x) (s.own m x a).2).2 - (spK (uAft m x) (s.own m x a).2).1 ≤ (spK m.u m.own.2).2 - (spK m.u m.own.2).1) := by
  obtain ⟨hs, hc⟩ := own_next h hq hx hi hm ho
  obtain ⟨g1, g2, hu0, hu1, ht0, ht1, -⟩ := hi.hear h hq hx
  have hn := (hi.next h hq hx hm).1
  obtain ⟨c1, c2, c3, c4, c5⟩ := chkE_0 h
  obtain ⟨⟨a1, a2⟩, ⟨a3, a4⟩, a5, a6, -⟩ := Sch.rg_all c4
  have hb := hi.2.2.2.2.2.2 ho
  have hb' := hn.2.2.2.2.2.2 hs
  obtain ⟨i1, i2, i3, i4, i5, i6, i7⟩ := hi
  obtain ⟨n1, n2, n3, n4, -⟩ := hn
  have q64 : (q : Int) < 64 := by omega
  obtain ⟨-, s0, -⟩ := hb.1.now a5 a6 a3 a4 (by omega) hb.2 (by omega)
  obtain ⟨-, s1, -⟩ := hb'.1.now a5 a6 a3 a4 (by omega) hb'.2 (show uAft m x ≤ _ by have : (s.nxt m x a).u = uAft m x := rfl; omega)
  have hu' : (s.nxt m x a).u = uAft m x := rfl
  have ho' : (s.nxt m x a).own = s.own m x a := rfl
  rw [hu', ho'] at s1
  have ha := hb.2
  have X := lo_longer (d := m.u - m.own.2.at_) (p := s.p) (by omega) a5 a6 (m := uAft m x - m.u) (by omega)
  rw [show m.u - m.own.2.at_ + (uAft m x - m.u) = uAft m x - m.own.2.at_ by omega] at X
  rw [s0, s1]
  refine ⟨hs, ?_, fun hp => ?_⟩
  · rcases hc with ⟨-, hc, hle⟩ | ⟨e1, e2, e3⟩
    · rw [hc]
      have := lo_pos (d := uAft m x - uAft m x) (p := s.p) (by omega) a5 a6
      simp only
      omega
    · rw [e1, e2]
      simp only
      omega
  · rw [hp] at hc ⊢
    simp only [(el_none).1, (el_none).2] at hc ⊢
    rcases hc with ⟨-, hc, hle⟩ | ⟨e1, e2, e3⟩
    · rw [hc]; simp only; omega
    · rw [e1, e2, e3]; omega
/-- The clock. -/
def CInv (s : Sch) (m : Sim) : Prop := m.ck.aim = s.ai ∧ m.ck.rate = 1000000 ∧ m.ck.set = m.own.1 ∧ vT m.ck.at_ = true ∧ vT m.ck.shown = true ∧ (m.own.1 = true → m.ck.at_ ≤ m.u ∧ (s.ai = 0 → m.ck.shown = (spK m.u m.own.2).1))
theorem CInv.init (s : Sch) : CInv s s.init := ⟨rfl, rfl, rfl, (by show vT 0 = true; decide), (by show vT 0 = true; decide), fun h => by cases h⟩
theorem aim_in {lo hi ai : Int} (h : lo ≤ hi) (h0 : 0 ≤ ai) (h1 : ai ≤ 1000) : lo ≤ lo + (hi - lo) * ai / 1000 ∧ lo + (hi - lo) * ai / 1000 ≤ hi := by
  have q0 : 0 ≤ (hi - lo) * ai := Int.mul_nonneg (by omega) h0
  have q1 : (hi - lo) * ai ≤ (hi - lo) * 1000 := Int.mul_le_mul_of_nonneg_left h1 (by omega)
  omega
theorem clock_next {s : Sch} {q : Nat} {m : Sim} {x : Stp} {a : Int × Int × Int} (h : chkE s = 0) (hq : q < s.xs.length) (hx : s.xs.getD q .zero = x) (hi : SInv s q m) (hm : MG (knowns (s.hear m x)) (uAft m x) s.li a.1 a.2.1 a.2.2) (hc : CInv s m) :
    CInv s (s.nxt m x a) ∧ ((s.own m x a).1 = true → ((s.nxt m x a).ck.held = false → (spK (uAft m x) (s.own m x a).2).1 ≤ (s.nxt m x a).ck.shown ∧ (s.nxt m x a).ck.shown ≤ (spK (uAft m x) (s.own m x a).2).2) ∧ (s.ai = 0 → (s.nxt m x a).ck.held = false) ∧ (m.own.1 = true → m.ck.shown ≤ (s.nxt m x a).ck.shown) ∧ vS (spK (uAft m x) (s.own m x a).2).1 (spK (uAft m x) (s.own m x a).2).2 = true) := by
  have hlo := fun ho => lo_mono h hq hx hi hm ho
  obtain ⟨g1, g2, hu0, hu1, ht0, ht1, -⟩ := hi.hear h hq hx
  have hn := (hi.next h hq hx hm).1
  obtain ⟨c1, c2, c3, c4, c5⟩ := chkE_0 h
  obtain ⟨⟨a1, a2⟩, ⟨a3, a4⟩, a5, a6, a7, a8, -⟩ := Sch.rg_all c4
  have hb' := hn.2.2.2.2.2.2
  have hu' : (s.nxt m x a).u = uAft m x := rfl
  have ho' : (s.nxt m x a).own = s.own m x a := rfl
  have hk' : (s.nxt m x a).ck = ckOf (s.own m x a) m.ck (uAft m x) := rfl
  obtain ⟨n1, n2, n3, n4, -⟩ := hn
  rw [hu'] at n3 n4 hb'
  rw [ho'] at hb'
  have q64 : (q : Int) < 64 := by omega
  obtain ⟨k1, k2, k3, k4, k5, k6⟩ := hc
  unfold CInv
  rw [hk', hu', ho']
  rcases hs : (s.own m x a).1
  · have h0 : m.own.1 = false := by
      rcases e : m.own.1
      · rfl
      · have := (hlo e).1; rw [hs] at this; cases this
    have : ckOf (s.own m x a) m.ck (uAft m x) = m.ck := by unfold ckOf; rw [hs]; rfl
    rw [this]
    exact ⟨⟨k1, k2, k3.trans h0, k4, k5, fun h => by cases h⟩, fun h => by cases h⟩
  · obtain ⟨-, s1, v1, -, -, -⟩ := (hb' hs).1.now a5 a6 a3 a4 (by omega) (hb' hs).2 (by omega)
    obtain ⟨lo, hlo'⟩ : ∃ lo, (spK (uAft m x) (s.own m x a).2).1 = lo := ⟨_, rfl⟩
    obtain ⟨hi', hhi'⟩ : ∃ hi', (spK (uAft m x) (s.own m x a).2).2 = hi' := ⟨_, rfl⟩
    have v1 : vS lo hi' = true := by
      have e : (spK (uAft m x) (s.own m x a).2) = (lo, hi') := Prod.ext hlo' hhi'
      rw [s1] at e
      injection e with e1 e2
      rw [← e1, ← e2]
      exact ((hb' hs).1.now a5 a6 a3 a4 (by omega) (hb' hs).2 (by omega)).2.2.1
    have v2 := vS_true.1 v1
    have v5 := vT_true.1 k5
    have v4 := vT_true.1 k4
    have hcc : chk m.ck.aim m.ck.rate m.ck.at_ m.ck.shown = 0 := by
      unfold chk
      rw [k1, k2, k4, k5, if_neg (by simp; omega)]
    have hE : rdE m.ck.aim m.ck.rate m.ck.set m.ck.at_ m.ck.shown (uAft m x) lo hi' = 0 := rdE_ok hcc v1 (vT_true.2 ⟨by omega, by omega⟩) (fun ⟨e1, e2⟩ => by rw [k3] at e1; have := (k6 e1).1; omega)
    have hR : ckOf (s.own m x a) m.ck (uAft m x) = ⟨m.ck.aim, m.ck.rate, true, rdHeld m.ck.set m.ck.shown hi', uAft m x, rdShown m.ck.aim m.ck.rate m.ck.set m.ck.at_ m.ck.shown (uAft m x) lo hi'⟩ := by
      unfold ckOf readK
      rw [hs, if_pos rfl, hlo', hhi', if_pos hE]
    rw [hR, hlo', hhi']
    have aim := aim_in (lo := lo) (hi := hi') (ai := m.ck.aim) (by omega) (by omega) (by omega)
    obtain ⟨tg, htg⟩ : ∃ tg, lo + (hi' - lo) * m.ck.aim / 1000 = tg := ⟨_, rfl⟩
    obtain ⟨ms, hms⟩ : ∃ ms, rdMost m.ck.rate m.ck.at_ m.ck.shown (uAft m x) = ms := ⟨_, rfl⟩
    have tg0 : s.ai = 0 → tg = lo := fun e => by rw [← htg, k1, e]; simp
    rw [htg] at aim
    have hsh : rdShown m.ck.aim m.ck.rate m.ck.set m.ck.at_ m.ck.shown (uAft m x) lo hi' = (if m.ck.set = false then tg else if hi' < m.ck.shown then m.ck.shown else max m.ck.shown (max lo (min tg ms))) := by unfold rdShown; rw [htg, hms]
    have hmono : m.own.1 = true → s.ai = 0 → m.ck.shown ≤ lo := fun e e0 => by rw [(k6 e).2 e0, ← hlo']; exact (hlo e).2.1
    simp only
    rw [hsh]
    unfold rdHeld
    rw [k3]
    rcases h0 : m.own.1
    · simp only [Bool.false_and, if_true]
      exact ⟨⟨k1, k2, trivial, vT_true.2 ⟨by omega, by omega⟩, vT_true.2 ⟨by omega, by omega⟩, fun _ => ⟨Int.le_refl _, tg0⟩⟩, fun _ => ⟨fun _ => aim, fun _ => trivial, (fun e => by cases e), v1⟩⟩
    · simp only [Bool.true_eq_false, if_false, Bool.true_and, decide_eq_false_iff_not]
      refine ⟨⟨k1, k2, trivial, vT_true.2 ⟨by omega, by omega⟩, vT_true.2 (by split <;> omega), fun _ => ⟨Int.le_refl _, fun e0 => ?_⟩⟩, fun _ => ⟨fun hh => ?_, fun e0 => ?_, fun _ => by split <;> omega, v1⟩⟩
      · have := hmono h0 e0; have := tg0 e0
        rw [if_neg (by omega)]; omega
      · rw [if_neg hh]; omega
      · have := hmono h0 e0; omega
theorem RunN.clock {s : Sch} (h : chkE s = 0) : ∀ {q : Nat} {m : Sim} {rs : List Rep}, q ≤ s.xs.length → RunN s q m rs → CInv s m
  | 0, _, _, _, ⟨h1, _⟩ => h1 ▸ CInv.init s
  | q + 1, _, _, hq, ⟨m0, r0, a, h1, h2, h3, h4⟩ => by
    subst h3
    exact (clock_next h (by omega) rfl (RunN.inv h (by omega) h1) h2 (RunN.clock h (by omega) h1)).1
/-- A schedule of small numbers in which the sources from li on are wrong by no more than they state. -/
def GoodS (s : Sch) : Prop := chkE s = 0 ∧ s.xs.length ≤ 20 ∧ -1000 ≤ s.sta ∧ s.sta ≤ 1000 ∧ -500 ≤ s.loc ∧ s.loc ≤ 500 ∧ (∀ e ∈ s.es, e ≤ 20) ∧ ∀ x ∈ s.xs, x.tr ≤ 3000000 ∧ x.ou ≤ 3000000 ∧ x.ho ≤ 50 ∧ x.ba ≤ 3000000 ∧ -4000 ≤ x.w2 ∧ x.w2 ≤ 4000 ∧ -4000 ≤ x.w3 ∧ x.w3 ≤ 4000 ∧ (s.li ≤ x.src → -(s.es.getD x.src.toNat 0) ≤ x.w2 ∧ x.w2 ≤ s.es.getD x.src.toNat 0 ∧ -(s.es.getD x.src.toNat 0) ≤ x.w3 ∧ x.w3 ≤ s.es.getD x.src.toNat 0)
/-- True time is in what is known. -/
def TW (P u t : Int) (hon : Prop) (k : Kw) : Prop := k.1 = true → -10000 ≤ k.2.lo ∧ (hon → TInv P u t k.2.at_ k.2.lo k.2.hi)
def TrI (s : Sch) (q : Nat) (m : Sim) : Prop := m.t ≤ s.sta + 9000050 * q ∧ (∀ i : Nat, i < s.es.length → TW s.p m.u m.t (s.li ≤ i) (m.by_.getD i (false, .zero))) ∧ TW s.p m.u m.t True m.own
theorem TInv.after {P u t k0 lo hi e d : Int} (h : TInv P u t k0 lo hi) (hf : fitsP e d P) (h1 : -10000 ≤ lo) (h2 : t ≤ 1000000000) (h3 : e ≤ 1000000000) : TInv P (u + d) (t + e) k0 lo hi := h.pass hf (by omega) h2 h3
theorem TW.take {P u t loc x y : Int} {n : Nat} {k : Kw} {hon : Prop} (p0 : 0 ≤ P) (p1 : P ≤ 1000000) (l0 : -1125899906842624 ≤ loc) (l1 : loc ≤ 1125899906842624) (hn : n < 64) (h : WB P loc u n k) (hl : loc ≤ u) (hu : u ≤ loc + 288230376151711744) (hv : vS x y = true) (hx : -10000 ≤ x) (hy : y ≤ 303992974847508480 + 2 * (u - loc)) (ht : TW P u t hon k) (hh : hon → x ≤ t ∧ t ≤ y) :
    TW P u t hon (takeK k u x y P) := by
  unfold takeK
  rcases hk : k.1
  · simp only [Bool.false_eq_true, if_false]
    obtain ⟨e, -⟩ := KB.begin (P := P) p0 p1 l0 l1 hl hu hv (by omega) hy
    rw [e]
    exact fun _ => ⟨hx, fun g => TInv.start p0 p1 (hh g).1 (hh g).2⟩
  · obtain ⟨e, hb, ha, hc⟩ := (h hk).1.learn p0 p1 l0 l1 hn (h hk).2 hu hv
    obtain ⟨-, -, -, b1, -⟩ := (h hk).1.now p0 p1 l0 l1 (by omega) (h hk).2 hu
    obtain ⟨t1, t2⟩ := ht hk
    rw [if_pos rfl, if_pos e]
    rcases hc with ⟨hc, hle⟩ | hc
    · rw [hc]
      refine fun _ => ⟨by simp only; omega, fun g => ?_⟩
      obtain ⟨q1, q2, -⟩ := (t2 g).holds
      have := hh g
      exact TInv.start p0 p1 (by simp only; omega) (by simp only; omega)
    · rw [hc]
      exact fun _ => ⟨t1, t2⟩
theorem cnt_all' {t : Int} : ∀ {zs : List (Int × Int)}, (∀ z ∈ zs, vS z.1 z.2 = true ∧ z.1 ≤ t ∧ t ≤ z.2) → cntS zs t = zs.length
  | [], _ => rfl
  | z :: zs, h => by
    rw [cntS_cons, cnt_all' (fun y hy => h y (by simp [hy])), if_pos (inS_iff.2 (h z (by simp)))]
    simp; omega
/-- Most of what is known contains true time. -/
theorem cnt_true {P u t loc : Int} {n : Nat} {li : Int} {l : List Kw} (p0 : 0 ≤ P) (p1 : P ≤ 1000000) (l0 : -1125899906842624 ≤ loc) (l1 : loc ≤ 1125899906842624) (hn : n ≤ 64) (hu : u ≤ loc + 288230376151711744) (h0 : 0 ≤ li) (hw : ∀ i, i < l.length → WB P loc u n (l.getD i (false, .zero))) (ht : ∀ i : Nat, i < l.length → TW P u t (li ≤ i) (l.getD i (false, .zero))) :
    ((knowns l).length : Int) - li ≤ cntS ((knowns l).map (spK u)) t := by
  obtain ⟨j, hj⟩ : ∃ j : Nat, li = j := ⟨li.toNat, by omega⟩
  have e : l = l.take j ++ l.drop j := (List.take_append_drop j l).symm
  have hd : ∀ z ∈ (knowns (l.drop j)).map (spK u), vS z.1 z.2 = true ∧ z.1 ≤ t ∧ t ≤ z.2 := fun z hz => by
    obtain ⟨k, hk, rfl⟩ := List.mem_map.1 hz
    obtain ⟨i, hi, ei⟩ := List.getElem_of_mem (knowns_mem hk)
    rw [List.getElem_drop] at ei
    have hi' : j + i < l.length := by rw [List.length_drop] at hi; omega
    have eg : l.getD (j + i) (false, .zero) = (true, k) := by rw [List.getD_eq_getElem?_getD, List.getElem?_eq_getElem hi', ei]; rfl
    have w := hw (j + i) hi'
    have tt := ht (j + i) hi'
    rw [eg] at w tt
    obtain ⟨wb, wa⟩ := w rfl
    obtain ⟨-, tt⟩ := tt rfl
    obtain ⟨-, s1, v1, -⟩ := wb.now p0 p1 l0 l1 hn wa hu
    obtain ⟨t1, t2, -⟩ := (tt (by omega)).holds
    rw [s1]
    exact ⟨v1, t1, t2⟩
  have h1 := cnt_all' hd
  have h2 := (cntS_nonneg ((knowns (l.take j)).map (spK u)) t).1
  have h3 := knowns_len (l.take j)
  rw [List.length_take] at h3
  rw [e, knowns_app, List.map_append, cntS_app, h1, List.length_append, List.length_map]
  omega
theorem MG_true {P loc u f x y t : Int} {ks : List K6} (h : MG ks u f x y 0) (hc : (ks.length : Int) - f ≤ cntS (ks.map (spK u)) t) : x ≤ t ∧ t ≤ y := by
  rcases h with ⟨-, -, -, h9⟩ | ⟨-, i, hi, -, h9, -, -, he⟩ | ⟨-, -, hax⟩
  · simp at h9
  · exact absurd he.symm h9
  · have hq := (AX_ends hax rfl).1
    obtain ⟨-, a, b, -⟩ := AX_truth hax hq (t := t) (by rw [List.length_map]; exact hc)
    exact ⟨a, b⟩
theorem TrI.init {s : Sch} : TrI s 0 s.init := by
  refine ⟨by simp [Sch.init], fun i hi => ?_, fun h => by cases h⟩
  have : (s.init.by_).getD i (false, K6.zero) = (false, K6.zero) := by
    simp only [Sch.init, List.getD_eq_getElem?_getD, List.getElem?_replicate]
    split <;> rfl
  rw [this]; exact fun h => by cases h
theorem TrI.next {s : Sch} {q : Nat} {m : Sim} {x : Stp} {a : Int × Int × Int} (g : GoodS s) (hq : q < s.xs.length) (hx : s.xs.getD q .zero = x) (hi : SInv s q m) (hm : MG (knowns (s.hear m x)) (uAft m x) s.li a.1 a.2.1 a.2.2) (ht : TrI s q m) : TrI s (q + 1) (s.nxt m x a) := by
  obtain ⟨h, gl, b1, b2, b3, b4, ges, gx⟩ := g
  have hxm : x ∈ s.xs := hx ▸ stp_get hq
  obtain ⟨x1, x2, x3, x4, w1, w2, w3, w4, hon⟩ := gx x hxm
  have hear := hi.hear h hq hx
  obtain ⟨g1, g2, hu0, hu1, ht0, ht1, -⟩ := hear
  have hin := (hi.next h hq hx hm).2.2
  have hask := ask_in h hq hx hi
  obtain ⟨c1, c2, c3, c4, c5⟩ := chkE_0 h
  obtain ⟨⟨a1, a2⟩, ⟨a3, a4⟩, a5, a6, -, -, l1, l2, l3, a7⟩ := Sch.rg_all c4
  have hst := stpE_0 (c5 x hxm)
  obtain ⟨y1, y2, y3, y4, y5, y6, y7, y8, y9, y10, y11, y12⟩ := Stp.rg_all hst.1
  have hft := hst.2
  unfold Stp.ft at hft
  simp only [Bool.and_eq_true, fitsB_true] at hft
  obtain ⟨f1, f2, f3, f4⟩ := hft
  obtain ⟨i1, i2, i3, i4, i5, i6, i7⟩ := hi
  obtain ⟨t1, t2, t3⟩ := ht
  have q64 : (q : Int) < 20 := by omega
  have hsrc : x.src.toNat < s.es.length := by omega
  have hf := fit_sum (fit_sum (fit_sum f1 f2 (by omega) (by omega)) f3 (by omega) (by omega)) f4 (by omega) (by omega)
  have eu : uAft m x = m.u + (x.lo + x.ol + x.hl + x.bl) := by unfold uAft; omega
  have et : tAft m x = m.t + (x.tr + x.ou + x.ho + x.ba) := by unfold tAft; omega
  have hpass : ∀ {hon : Prop} {k : Kw}, TW s.p m.u m.t hon k → TW s.p (uAft m x) (tAft m x) hon k := fun {hn k} h hk => by
    obtain ⟨q1, q2⟩ := h hk
    refine ⟨q1, fun hh => ?_⟩
    rw [eu, et]
    exact (q2 hh).after hf q1 (by omega) (by omega)
  -- the exchange
  have hes := a7 _ (es_get (s := s) (i := x.src.toNat) hsrc)
  have hes2 := ges _ (es_get (s := s) (i := x.src.toNat) hsrc)
  have hex : (s.ask m x).2.2 = 0 → -10000 ≤ (s.ask m x).1 ∧ (s.li ≤ x.src → (s.ask m x).1 ≤ tAft m x ∧ tAft m x ≤ (s.ask m x).2.1) := fun he => by
    rcases ha : s.ask m x with ⟨lo, hi, er⟩
    rw [ha] at he
    simp only at he; subst he
    obtain ⟨e1, e2, e3, e4, e5, e6, e7⟩ := atT_0 (show atT _ _ _ _ _ _ = (lo, hi, 0) from ha)
    refine ⟨by simp only; omega, fun hh => ?_⟩
    have hw := hon hh
    have fh := fit_holds (fit_sum (fit_sum f2 f3 (by omega) (by omega)) f4 (by omega) (by omega))
    rw [show m.u + x.lo + x.ol + x.hl + x.bl - (m.u + x.lo) = x.ol + x.hl + x.bl by omega] at e4
    simp only
    constructor <;> omega
  have hby : ∀ i : Nat, i < s.es.length → TW s.p (uAft m x) (tAft m x) (s.li ≤ i) ((s.hear m x).getD i (false, .zero)) := fun i hi => by
    unfold Sch.hear
    split
    · rename_i he
      obtain ⟨v, u1, u2⟩ := hask he
      obtain ⟨z1, z2⟩ := hex he
      rw [getD_set']
      split
      · rename_i hj
        have ej : (i : Int) = x.src := by omega
        have hp := hpass (t2 x.src.toNat hsrc)
        have er : ((x.src.toNat : Nat) : Int) = x.src := by omega
        rw [er] at hp
        rw [ej]
        exact TW.take a5 a6 a3 a4 (by omega) ((i6 _ hsrc).later hu0 (Nat.le_refl q)) (by omega) (by omega) v z1 (by omega) hp z2
      · exact hpass (t2 i hi)
    · exact hpass (t2 i hi)
  refine ⟨?_, hby, ?_⟩
  · show tAft m x ≤ _; omega
  · show TW s.p (uAft m x) (tAft m x) True (s.own m x a)
    unfold Sch.own
    split
    · rename_i he
      obtain ⟨v, u1, u2⟩ := hin he
      rw [he] at hm
      have hcnt := cnt_true (li := s.li) a5 a6 a3 a4 (show q + 1 ≤ 64 by omega) (show uAft m x ≤ _ by omega) l1 (fun i hi => g2 i (by rw [g1] at hi; exact hi)) (fun i hi => hby i (by rw [g1] at hi; exact hi))
      have hmt := MG_true (P := s.p) (loc := s.loc) hm hcnt
      have hlo : -10000 ≤ a.1 := by
        rcases hm with ⟨-, -, -, h9⟩ | ⟨-, i, hi, -, h9, -, -, he⟩ | ⟨-, -, hax⟩
        · simp at h9
        · exact absurd he.symm h9
        · obtain ⟨hqe, cx, -, -⟩ := AX_ends hax rfl
          obtain ⟨-, f0, f1⟩ := qE_parts hqe
          obtain ⟨z, hz, z1, z2⟩ := cnt_mem (zs := (knowns (s.hear m x)).map (spK (uAft m x))) (t := a.1) (by omega)
          obtain ⟨k, hkm, rfl⟩ := List.mem_map.1 hz
          obtain ⟨i, hi, ei⟩ := List.getElem_of_mem (knowns_mem hkm)
          have hi' : i < s.es.length := by rw [← g1]; exact hi
          have w := g2 i hi'
          have tt := hby i hi'
          rw [List.getD_eq_getElem?_getD, List.getElem?_eq_getElem hi, Option.getD_some, ei] at w tt
          obtain ⟨wb, wa⟩ := w rfl
          obtain ⟨-, s1, -, b9, -⟩ := wb.now a5 a6 a3 a4 (by omega) wa (by omega)
          rw [s1] at z1
          have := (tt rfl).1
          simp only at this z1 b9
          omega
      exact TW.take a5 a6 a3 a4 (by omega) (i7.later hu0 (Nat.le_refl q)) (by omega) (by omega) v hlo u2 (hpass t3) (fun _ => hmt)
    · exact hpass t3
end Go.Proofs.YtiinmhfolfgobaaGreatDoor
namespace Go.Proofs.YtiinmhfolfgobaaGreatDoor
open Go.RowKit Go.Shelf Go.Sort
set_option linter.unusedSimpArgs false
set_option linter.unusedVariables false

end Go.Proofs.YtiinmhfolfgobaaGreatDoor
namespace Go.Proofs.YtiinmhfolfgobaaGreatDoor
open Go.RowKit Go.Shelf Go.Sort
set_option linter.unusedSimpArgs false
set_option linter.unusedVariables false

theorem src_made (n : Nat) : SrcAt (madeCells #[.bool false, .int .i64 0, .int .i64 0, .int .i64 0, .int .i64 0, .int .i64 0, .int .i64 0] (n * 7)) (List.replicate n (false, .zero)) := by
  refine ⟨by simp [madeCells], fun j hj i hi => ?_⟩
  rw [List.length_replicate] at hj
  have hlt : j * 7 + i < n * 7 := by omega
  have e : (List.replicate n ((false, K6.zero) : Kw)).getD j (false, .zero) = (false, .zero) := by
    rw [List.getD_eq_getElem?_getD, List.getElem?_replicate, if_pos hj]; rfl
  rw [e]
  have hm : (j * 7 + i) % 7 = i := by omega
  obtain rfl | rfl | rfl | rfl | rfl | rfl | rfl : i = 0 ∨ i = 1 ∨ i = 2 ∨ i = 3 ∨ i = 4 ∨ i = 5 ∨ i = 6 := by omega
  all_goals (rw [Array.getElem?_eq_getElem (by simp [madeCells]; omega)]; simp only [madeCells, Array.getElem_map, Array.getElem_range]; simp only [List.size_toArray, List.length_cons, List.length_nil, Nat.reduceAdd, hm]; rfl)
theorem src_set {cur : Array Value} {l : List Kw} (h : SrcAt cur l) (q : Nat) (hq : q < l.length) (k : Kw) : SrcAt (setArr cur (q * 7) (kwC k)) (l.set q k) := by
  have hk : (kwC k).length = 7 := rfl
  refine ⟨by rw [setArr_size, List.length_set]; exact h.1, fun j hj i hi => ?_⟩
  rw [List.length_set] at hj
  rw [setArr_get _ _ _ _ (by rw [hk, h.1]; omega), hk, getD_set']
  by_cases e : j = q
  · subst e
    rw [if_pos (by omega), if_pos ⟨rfl, hq⟩]; congr 1; omega
  · rw [if_neg (by omega), if_neg (by simp [e])]; exact h.2 j hj i hi
end Go.Proofs.YtiinmhfolfgobaaGreatDoor
