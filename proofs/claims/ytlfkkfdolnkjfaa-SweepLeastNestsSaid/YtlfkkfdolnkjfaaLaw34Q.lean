/- Plain: the laws behind the statements of the sweep. -/
import Derived.Test.YtlfkkfdolnkjfaaJ12
import Derived.Test.YtlfkkfdolnkjfaaJ20
namespace Go.Proofs.Ytlfkkfdolnkjfaa
open Go.RowKit Go.Shelf Go.Sort
set_option linter.unusedSimpArgs false
set_option linter.unusedVariables false

theorem gaps_far2 : ∀ (l : List (Int × Int)), gapsS l → (∀ z ∈ l, vS z.1 z.2 = true) → ∀ x ∈ l, ∀ y ∈ l, x = y ∨ x.2 + 2 ≤ y.1 ∨ y.2 + 2 ≤ x.1
  | [], _, _, x, hx, _, _ => by simp at hx
  | z :: l, g, hv, x, hx, y, hy => by
    obtain ⟨g', hl⟩ := gaps_cons g hv
    rcases List.mem_cons.1 hx with e | hx'
    · rcases List.mem_cons.1 hy with e' | hy'
      · exact .inl (e.trans e'.symm)
      · exact .inr (.inl (by rw [e]; exact hl y hy'))
    · rcases List.mem_cons.1 hy with e' | hy'
      · exact .inr (.inr (by rw [e']; exact hl x hx'))
      · exact gaps_far2 l g' (fun z hz => hv z (by simp [hz])) x hx' y hy'
theorem anyIn_mem' {t : Int} {a : List (Int × Int)} (h : anyIn t a = true) : ∃ q ∈ a, inS t q = true := List.any_eq_true.1 h
theorem gaps_find {a : List (Int × Int)} (g : gapsS a) (hv : ∀ z ∈ a, vS z.1 z.2 = true) {z : Int × Int} (hz : vS z.1 z.2 = true) (h : ∀ t, z.1 ≤ t → t ≤ z.2 → anyIn t a = true) : ∃ q ∈ a, insB z.1 z.2 q.1 q.2 = true := by
  have hz' := vS_true.1 hz
  obtain ⟨q, hq, hi⟩ := anyIn_mem' (h z.1 (by omega) (by omega))
  have h1 := (inS_iff.1 hi).2
  refine ⟨q, hq, ?_⟩
  have h2 : z.2 ≤ q.2 := by
    by_cases c : z.2 ≤ q.2
    · exact c
    · obtain ⟨r, hr, hj⟩ := anyIn_mem' (h (q.2 + 1) (by omega) (by omega))
      have h3 := (inS_iff.1 hj).2
      rcases gaps_far2 a g hv q hq r hr with e | e | e
      · subst e; omega
      · omega
      · have := vS_true.1 (hv q hq); omega
  unfold insB
  rw [hz, hv q hq]
  simp only [Bool.true_and, Bool.and_eq_true, decide_eq_true_eq]
  omega
theorem px_parts {zs : List (Int × Int)} {ps : List Pc} (h : PX zs ps) (hc : ckE zs = 0) : PCan ps ∧ (∀ t, cntP ps t = cntS zs t) ∧ ps.length ≤ 128 ∧ ∀ p ∈ ps, vS p.lo p.hi = true := by
  rcases h with ⟨h, -⟩ | ⟨-, h1, h2, h3⟩
  · exact absurd hc h
  · exact ⟨h1, h2, h3, pc_in h1 h2⟩
theorem lx_parts {zs us : List (Int × Int)} {n : Int} (h : LX zs n us) (hc : ckE zs = 0) (hn : 1 ≤ n) : ∃ ps, PX zs ps ∧ us = leastP n ps := by
  rcases h with ⟨h, -⟩ | ⟨-, -, -, h⟩
  · exact absurd (lE_ok hc (by omega)) h
  · exact h
theorem mx_parts {zs us : List (Int × Int)} {m : Int} (h : MX zs m us) (hc : ckE zs = 0) : ∃ ps, PX zs ps ∧ m = mostP ps ∧ us = leastP m ps := by
  rcases h with ⟨h, -⟩ | ⟨-, h⟩
  · exact absurd hc h
  · exact h
theorem lx_law {zs us : List (Int × Int)} {n : Int} (h : LX zs n us) (hc : ckE zs = 0) (hn : 1 ≤ n) : gapsS us ∧ (∀ z ∈ us, vS z.1 z.2 = true) ∧ ∀ t, anyIn t us = decide (n ≤ cntS zs t) := by
  obtain ⟨ps, hp, rfl⟩ := lx_parts h hc hn
  obtain ⟨h1, h2, -, h3⟩ := px_parts hp hc
  obtain ⟨g, v, a⟩ := least_law n hn ps h1 h3
  exact ⟨g, fun z hz => (v z hz).1, fun t => by rw [a, h2]⟩
theorem lx_nests {zs a b : List (Int × Int)} {k : Int} (hc : ckE zs = 0) (hk : 1 ≤ k) (ha : LX zs k a) (hb : LX zs (k + 1) b) : ∀ z ∈ b, ∃ q ∈ a, insB z.1 z.2 q.1 q.2 = true := by
  intro z hz
  obtain ⟨ga, va, aa⟩ := lx_law ha hc hk
  obtain ⟨gb, vb, ab⟩ := lx_law hb hc (by omega)
  refine gaps_find ga va (vb z hz) (fun t h1 h2 => ?_)
  have : anyIn t b = true := List.any_eq_true.2 ⟨z, hz, inS_iff.2 ⟨vb z hz, h1, h2⟩⟩
  rw [ab] at this
  rw [aa]
  exact decide_eq_true (by have := of_decide_eq_true this; omega)
theorem lx_union {zs c us : List (Int × Int)} (hc : ckE zs = 0) (h : LX zs 1 c) (g : gapsS us) (v : ∀ z ∈ us, vS z.1 z.2 = true) (a : ∀ t, anyIn t us = anyIn t zs) : c = us := by
  obtain ⟨gc, vc, ac⟩ := lx_law h hc (by decide)
  exact gaps_uniq c us gc g vc v (fun t => by rw [ac, a, cntS_any])
theorem leastP_none {n : Int} {ps : List Pc} (h : ∀ p ∈ ps, p.n < n) : leastP n ps = [] := by
  suffices H : ∀ (ps : List Pc) (out : List (Int × Int)), (∀ p ∈ ps, p.n < n) → ps.foldl (stepL n) out = out from H ps [] h
  intro ps
  induction ps with
  | nil => intro out _; rfl
  | cons p ps ih =>
    intro out hp
    rw [List.foldl_cons, show stepL n out p = out from if_pos (hp p (by simp))]
    exact ih out (fun q hq => hp q (by simp [hq]))
theorem mx_law {zs d x : List (Int × Int)} {m : Int} (hc : ckE zs = 0) (h : MX zs m d) (hx : LX zs (m + 1) x) : 0 ≤ m ∧ m ≤ 64 ∧ x = [] ∧ (m = 0 → zs = [] ∧ d = []) ∧ (1 ≤ m → 0 < d.length ∧ LX zs m d) := by
  obtain ⟨ps, hp, rfl, rfl⟩ := mx_parts h hc
  obtain ⟨h1, h2, -, h3⟩ := px_parts hp hc
  have hz := ckE_ok hc
  have hn := pc_num h1 h2 hz.1
  obtain ⟨m0, m1, m2, m3, m4⟩ := mostP_in hn
  refine ⟨m0, m1, ?_, ?_, ?_⟩
  · obtain ⟨qs, hq, rfl⟩ := lx_parts hx hc (by omega)
    obtain rfl := PX_uniq hp hq
    exact leastP_none (fun p hp => by have := m2 p hp; omega)
  · intro e
    have hps := m3 e
    subst hps
    refine ⟨?_, rfl⟩
    cases zs with
    | nil => rfl
    | cons z zs =>
      have hv := vS_true.1 (hz.2 z (by simp))
      have := h2 z.1
      rw [cntS_cons, inS_iff.2 ⟨hz.2 z (by simp), by omega, by omega⟩, if_pos rfl, show cntP [] z.1 = 0 from rfl] at this
      have := (cntS_nonneg zs z.1).1
      omega
  · intro e
    refine ⟨?_, .inr ⟨lE_ok hc (by omega), hc, e, ps, hp, rfl⟩⟩
    have hl : 0 < ps.length := by
      cases ps with
      | nil => exact absurd e (by decide)
      | cons p ps => simp
    obtain ⟨p, hp1, hp2⟩ := m4 hl
    obtain ⟨-, -, a⟩ := least_law (mostP ps) e ps h1 h3
    have hpv := vS_true.1 (h3 p hp1)
    have ha := a p.lo
    rw [cntP_at h1 p hp1 p.lo (by omega) (by omega), hp2, decide_eq_true (Int.le_refl _)] at ha
    obtain ⟨q, hq, -⟩ := anyIn_mem' ha
    exact List.length_pos_of_mem hq
/-- What the last piece that holds an instant counts. -/
def nAt (t : Int) (ps : List Pc) : Int := ps.foldl (fun n p => if hdB p.lo p.hi t = true then p.n else n) 0
theorem nAt_snoc (t : Int) (ps : List Pc) (p : Pc) : nAt t (ps ++ [p]) = if hdB p.lo p.hi t = true then p.n else nAt t ps := by simp [nAt]
theorem nAt_rev (t : Int) : ∀ (qs : List Pc), PCan qs.reverse → (∀ p ∈ qs, vS p.lo p.hi = true) → nAt t qs.reverse = cntP qs.reverse t
  | [], _, _ => rfl
  | p :: qs, h, hv => by
    rw [List.reverse_cons] at h ⊢
    obtain ⟨h1, h2⟩ := h.init
    rw [nAt_snoc, cntP_app, show cntP [p] t = pcAt p t + 0 from rfl]
    have hp := hv p (by simp)
    have ih := nAt_rev t qs h1 (fun q hq => hv q (by simp [hq]))
    unfold pcAt
    by_cases c : p.lo ≤ t ∧ t ≤ p.hi
    · rw [if_pos (by unfold hdB; rw [hp]; simp [c]), if_pos c, cntP_above (fun q hq => by have := h2 q hq; omega)]; omega
    · rw [if_neg (by unfold hdB; rw [hp]; simp; omega), if_neg c, ih]; omega
theorem nAt_law {zs : List (Int × Int)} {ps : List Pc} (h : PX zs ps) (hc : ckE zs = 0) (t : Int) : nAt t ps = cntS zs t := by
  obtain ⟨h1, h2, -, h3⟩ := px_parts h hc
  have := nAt_rev t ps.reverse (by rw [List.reverse_reverse]; exact h1) (fun p hp => h3 p (by simpa using hp))
  rw [List.reverse_reverse] at this
  rw [this, h2]
theorem px_perm {zs os : List (Int × Int)} {ps : List Pc} (hp : os.Perm zs) (h : PX zs ps) (hc : ckE zs = 0) (ho : ckE os = 0) : PX os ps := by
  obtain ⟨h1, h2, h4, -⟩ := px_parts h hc
  exact .inr ⟨ho, h1, fun t => by rw [h2, cntS_perm hp], h4⟩
def mvS (d : Int) (z : Int × Int) : Int × Int := (z.1 + d, z.2 + d)
def mvP (d : Int) (p : Pc) : Pc := ⟨p.lo + d, p.hi + d, p.n⟩
theorem cntS_mv (d t : Int) (zs : List (Int × Int)) (h : ∀ z ∈ zs, vS z.1 z.2 = true ∧ vS (z.1 + d) (z.2 + d) = true) : cntS (zs.map (mvS d)) t = cntS zs (t - d) := by
  induction zs with
  | nil => rfl
  | cons z zs ih =>
    rw [List.map_cons, cntS_cons, cntS_cons, ih (fun y hy => h y (by simp [hy]))]
    have hz := h z (by simp)
    have : inS t (mvS d z) = inS (t - d) z := by
      rw [Bool.eq_iff_iff, inS_iff, inS_iff]
      show vS (z.1 + d) (z.2 + d) = true ∧ z.1 + d ≤ t ∧ t ≤ z.2 + d ↔ _
      rw [hz.1, hz.2]
      simp only [true_and]
      omega
    rw [this]
theorem cntP_mv (d t : Int) (ps : List Pc) : cntP (ps.map (mvP d)) t = cntP ps (t - d) := by
  induction ps with
  | nil => rfl
  | cons p ps ih =>
    rw [List.map_cons, cntP_cons, cntP_cons, ih]
    have : pcAt (mvP d p) t = pcAt p (t - d) := by
      unfold pcAt mvP
      dsimp only
      by_cases c : p.lo ≤ t - d ∧ t - d ≤ p.hi
      · rw [if_pos c, if_pos (by omega)]
      · rw [if_neg c, if_neg (by omega)]
    rw [this]
theorem getD_mv (d : Int) (ps : List Pc) (i : Nat) (hi : i < ps.length) : (ps.map (mvP d)).getD i ⟨0, 0, 0⟩ = mvP d (ps.getD i ⟨0, 0, 0⟩) := by
  simp [List.getD_eq_getElem?_getD, List.getElem?_map, List.getElem?_eq_getElem hi]
theorem px_move {zs : List (Int × Int)} {ps : List Pc} (d : Int) (h : PX zs ps) (hc : ckE zs = 0) (hm : ckE (zs.map (mvS d)) = 0) : PX (zs.map (mvS d)) (ps.map (mvP d)) := by
  obtain ⟨h1, h2, h4, -⟩ := px_parts h hc
  have hz := (ckE_ok hc).2
  have hy := (ckE_ok hm).2
  refine .inr ⟨hm, ⟨?_, ?_⟩, fun t => ?_, by rw [List.length_map]; exact h4⟩
  · intro p hp
    obtain ⟨q, hq, rfl⟩ := List.mem_map.1 hp
    have := h1.1 q hq
    exact ⟨by show q.lo + d ≤ q.hi + d; omega, this.2⟩
  · intro i hi
    rw [List.length_map] at hi
    rw [getD_mv d ps i (by omega), getD_mv d ps (i + 1) hi]
    have := h1.2 i hi
    refine ⟨by show (ps.getD i ⟨0, 0, 0⟩).hi + d < (ps.getD (i + 1) ⟨0, 0, 0⟩).lo + d; omega, fun e => this.2 ?_⟩
    have e : (ps.getD i ⟨0, 0, 0⟩).hi + d + 1 = (ps.getD (i + 1) ⟨0, 0, 0⟩).lo + d := e
    omega
  · rw [cntP_mv, h2, cntS_mv d t zs (fun z hz' => ⟨hz z hz', hy (mvS d z) (List.mem_map.2 ⟨z, hz', rfl⟩)⟩)]
end Go.Proofs.Ytlfkkfdolnkjfaa
