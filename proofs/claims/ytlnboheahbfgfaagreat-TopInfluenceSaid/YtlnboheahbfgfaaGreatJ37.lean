/- Texts joined: TopInfQ, TopHull -/
import Derived.Test.YtlnboheahbfgfaaGreatEstI
import Derived.Test.YtlnboheahbfgfaaGreatLaw34S
import Derived.Test.YtlnboheahbfgfaaGreatJ36
import Derived.Test.YtlnboheahbfgfaaGreatCalmP
import Derived.Test.YtlnboheahbfgfaaGreatJ6
namespace Go.Proofs.YtlnboheahbfgfaaGreat
open Go.RowKit Go.Shelf Go.Sort
set_option linter.unusedSimpArgs false
set_option linter.unusedVariables false

theorem cntS_snocJ (zs : List (Int × Int)) (z : Int × Int) (t : Int) : cntS (zs ++ [z]) t = cntS zs t + (if inS t z then 1 else 0) := by
  rw [cntS_app, cntS_cons]; simp [cntS]
/-- What is known of the first spans: so many lie, the hull of the others. -/
def HullJ (zs : List (Int × Int)) (t bad : Int) (first : Bool) (lo hi : Int) : Prop :=
  (zs.length : Int) ≤ cntS zs t + bad ∧ 0 ≤ bad ∧ bad ≤ zs.length ∧ (∀ u, bad < cntS zs u → first = false ∧ lo ≤ u ∧ u ≤ hi) ∧ (first = false → -100000 ≤ lo ∧ lo ≤ t ∧ t ≤ hi ∧ hi ≤ 100000)
theorem HullJ.nil (t : Int) : HullJ [] t 0 true 0 0 := ⟨by simp [cntS], by decide, by simp, fun u h => by simp [cntS] at h, fun h => by cases h⟩
theorem HullJ.lie {zs : List (Int × Int)} {t bad : Int} {first : Bool} {lo hi : Int} (h : HullJ zs t bad first lo hi) (z : Int × Int) : HullJ (zs ++ [z]) t (bad + 1) first lo hi := by
  obtain ⟨h1, h2, h3, h4, h5⟩ := h
  refine ⟨?_, by omega, by rw [List.length_append, List.length_singleton]; omega, fun u hu => h4 u ?_, h5⟩
  · rw [List.length_append, List.length_singleton, cntS_snocJ]; split <;> omega
  · rw [cntS_snocJ] at hu; split at hu <;> omega
theorem HullJ.one {zs : List (Int × Int)} {t bad : Int} {lo hi : Int} (h : HullJ zs t bad true lo hi) (z : Int × Int) (hz : z.1 ≤ t ∧ t ≤ z.2) (hb : -100000 ≤ z.1 ∧ z.2 ≤ 100000) : HullJ (zs ++ [z]) t bad false z.1 z.2 := by
  obtain ⟨h1, h2, h3, h4, h5⟩ := h
  have hv : vS z.1 z.2 = true := vS_true.2 (by omega)
  have hi' : ∀ u, (inS u z = true) ↔ (z.1 ≤ u ∧ u ≤ z.2) := fun u => by simp [inS, hv]
  refine ⟨?_, h2, by rw [List.length_append, List.length_singleton]; omega, fun u hu => ?_, fun _ => ⟨hb.1, hz.1, hz.2, hb.2⟩⟩
  · rw [List.length_append, List.length_singleton, cntS_snocJ, if_pos ((hi' t).2 hz)]; omega
  · rw [cntS_snocJ] at hu
    by_cases e : inS u z = true
    · exact ⟨rfl, (hi' u).1 e⟩
    · rw [if_neg e] at hu
      exact absurd (h4 u (by omega)).1 (by simp)
theorem HullJ.more {zs : List (Int × Int)} {t bad : Int} {lo hi : Int} (h : HullJ zs t bad false lo hi) (z : Int × Int) (hz : z.1 ≤ t ∧ t ≤ z.2) (hb : -100000 ≤ z.1 ∧ z.2 ≤ 100000) : HullJ (zs ++ [z]) t bad false (min lo z.1) (max hi z.2) := by
  obtain ⟨h1, h2, h3, h4, h5⟩ := h
  have hv : vS z.1 z.2 = true := vS_true.2 (by omega)
  have hi' : ∀ u, (inS u z = true) ↔ (z.1 ≤ u ∧ u ≤ z.2) := fun u => by simp [inS, hv]
  obtain ⟨b1, b2, b3, b4⟩ := h5 rfl
  refine ⟨?_, h2, by rw [List.length_append, List.length_singleton]; omega, fun u hu => ⟨rfl, ?_⟩, fun _ => by omega⟩
  · rw [List.length_append, List.length_singleton, cntS_snocJ, if_pos ((hi' t).2 hz)]; omega
  · rw [cntS_snocJ] at hu
    by_cases e : inS u z = true
    · have := (hi' u).1 e; omega
    · rw [if_neg e] at hu
      have := (h4 u (by omega)).2; omega
theorem HullJ.law {zs : List (Int × Int)} {t bad f x y er : Int} {first : Bool} {lo hi : Int} (h : HullJ zs t bad first lo hi) (hbf : bad ≤ f) (hf : 2 * f < zs.length) (hck : ckE zs = 0) (a : AX zs f x y er) :
    er = 0 ∧ x ≤ t ∧ t ≤ y ∧ first = false ∧ lo ≤ x ∧ y ≤ hi ∧ vS x y = true := by
  obtain ⟨h1, h2, h3, h4, h5⟩ := h
  have hE : qE zs f = 0 := by
    unfold qE
    rw [if_neg (by rw [hck]; simp), if_neg (by omega)]
  obtain ⟨rfl, a1, a2, a3⟩ := AX_truth (t := t) a hE (by omega)
  obtain ⟨-, c1, c2, -⟩ := AX_ends a rfl
  obtain ⟨e1, e2, -⟩ := h4 x (by omega)
  obtain ⟨-, -, e3⟩ := h4 y (by omega)
  exact ⟨rfl, a1, a2, e1, e2, e3, a3⟩
/-- The hull of some spans: whether there is none, its ends. -/
def hullF (zs : List (Int × Int)) : Bool × Int × Int := zs.foldl (fun a z => if a.1 then (false, z.1, z.2) else (false, min a.2.1 z.1, max a.2.2 z.2)) (true, 0, 0)
theorem hullF_snoc (zs : List (Int × Int)) (z : Int × Int) : hullF (zs ++ [z]) = if (hullF zs).1 then (false, z.1, z.2) else (false, min (hullF zs).2.1 z.1, max (hullF zs).2.2 z.2) := by
  unfold hullF; rw [List.foldl_append]; rfl
def lyS (dl : List Int) (bad : Int) : Nat := (dl.filter fun i => decide (i < bad)).length
def hoS (dl : List Int) (bad : Int) : List Int := dl.filter fun i => !decide (i < bad)
theorem ly_snoc (dl : List Int) (bad i : Int) : lyS (dl ++ [i]) bad = if i < bad then lyS dl bad + 1 else lyS dl bad := by
  unfold lyS
  rw [List.filter_append, List.length_append]
  by_cases h : i < bad
  · rw [if_pos h]; simp [h]
  · rw [if_neg h]; simp [h]
theorem ho_snoc (dl : List Int) (bad i : Int) : hoS (dl ++ [i]) bad = if i < bad then hoS dl bad else hoS dl bad ++ [i] := by
  unfold hoS
  rw [List.filter_append]
  by_cases h : i < bad
  · rw [if_pos h]; simp [h]
  · rw [if_neg h]; simp [h]
theorem ly_ho (dl : List Int) (bad : Int) : lyS dl bad + (hoS dl bad).length = dl.length := by
  unfold lyS hoS
  induction dl with
  | nil => rfl
  | cons x l ih =>
    by_cases h : x < bad
    · simp [h]; omega
    · simp [h]; omega
theorem filter_ne (a : Int) : ∀ l : List Int, l.Nodup → l.length ≤ (l.filter fun x => !decide (x = a)).length + 1
  | [], _ => by simp
  | x :: l, h => by
    obtain ⟨h1, h2⟩ := List.nodup_cons.1 h
    by_cases e : x = a
    · subst e
      have : (l.filter fun y => !decide (y = x)) = l := List.filter_eq_self.2 (fun y hy => by
        have : y ≠ x := fun e => h1 (e ▸ hy)
        simp [this])
      simp [this]
    · have := filter_ne a l h2
      simp [e]; omega
theorem pigeon : ∀ (m : Nat) (c : Int) (l : List Int), (∀ x ∈ l, c ≤ x ∧ x < c + m) → l.Nodup → l.length ≤ m
  | 0, c, l, h, _ => by
    cases l with
    | nil => simp
    | cons x l => have := h x (by simp); omega
  | m + 1, c, l, h, hn => by
    have h1 := filter_ne (c + m) l hn
    have h2 := pigeon m c (l.filter fun x => !decide (x = c + m)) (fun x hx => by
      obtain ⟨hx1, hx2⟩ := List.mem_filter.1 hx
      have := h x hx1
      have hne : x ≠ c + m := by simpa using hx2
      omega) (hn.filter _)
    omega
theorem nodup_of {l : List Int} (h : ∀ i j, i < l.length → j < l.length → l.getD i 0 = l.getD j 0 → i = j) : l.Nodup := by
  rw [List.nodup_iff_pairwise_ne, List.pairwise_iff_getElem]
  intro i j hi hj hij e
  have := h i j hi hj (by rw [List.getD_eq_getElem?_getD, List.getD_eq_getElem?_getD, List.getElem?_eq_getElem hi, List.getElem?_eq_getElem hj]; exact e)
  omega
theorem sample_in {dl : List Int} {n bad : Nat} (hb : bad ≤ n) (hr : ∀ j, j < dl.length → 0 ≤ dl.getD j 0 ∧ dl.getD j 0 < n) (hi : ∀ i j, i < dl.length → j < dl.length → dl.getD i 0 = dl.getD j 0 → i = j) :
    lyS dl bad ≤ bad ∧ dl.length - lyS dl bad ≤ n - bad := by
  have hnd := nodup_of hi
  have hm : ∀ x ∈ dl, 0 ≤ x ∧ x < n := fun x hx => by
    obtain ⟨j, hj, rfl⟩ := List.getElem_of_mem hx
    have := hr j hj
    rwa [List.getD_eq_getElem?_getD, List.getElem?_eq_getElem hj] at this
  have h1 := pigeon bad 0 (dl.filter fun i => decide (i < (bad : Int))) (fun x hx => by
    obtain ⟨hx1, hx2⟩ := List.mem_filter.1 hx
    have := hm x hx1
    have : x < bad := by simpa using hx2
    omega) (hnd.filter _)
  have h2 := pigeon (n - bad) bad (hoS dl bad) (fun x hx => by
    obtain ⟨hx1, hx2⟩ := List.mem_filter.1 hx
    have := hm x hx1
    have : ¬ x < bad := by simpa using hx2
    omega) (hnd.filter _)
  have h3 := ly_ho dl bad
  exact ⟨h1, by omega⟩
/-- What is known of a sample. -/
theorem sample_hull {ss : List (Int × Int)} {bad : Int} {t : Int} (hs : ∀ i : Nat, i < ss.length → ¬ (i : Int) < bad → (-100000 ≤ (ss.getD i (0, 0)).1 ∧ (ss.getD i (0, 0)).2 ≤ 100000) ∧ (ss.getD i (0, 0)).1 ≤ t ∧ t ≤ (ss.getD i (0, 0)).2)
    (dl : List Int) (hr : ∀ j, j < dl.length → 0 ≤ dl.getD j 0 ∧ dl.getD j 0 < ss.length) : ∀ q, q ≤ dl.length →
    HullJ (chS ss (dl.take q)) t (lyS (dl.take q) bad) (hullF (chS ss (hoS (dl.take q) bad))).1 (hullF (chS ss (hoS (dl.take q) bad))).2.1 (hullF (chS ss (hoS (dl.take q) bad))).2.2
  | 0, _ => HullJ.nil t
  | q + 1, hq => by
    have ih := sample_hull hs dl hr q (by omega)
    have hlt : q < dl.length := by omega
    have h1 := hr q hlt
    have e1 := chS_next ss dl q hlt
    have e2 : dl.take (q + 1) = dl.take q ++ [dl.getD q 0] := by
      rw [List.take_add_one, List.getElem?_eq_getElem hlt, List.getD_eq_getElem?_getD, List.getElem?_eq_getElem hlt]; rfl
    rw [e1, e2, ly_snoc, ho_snoc]
    obtain ⟨i, hi⟩ : ∃ i : Nat, dl.getD q 0 = (i : Int) := ⟨(dl.getD q 0).toNat, by omega⟩
    rw [hi]
    rw [hi] at h1
    rw [Int.toNat_natCast]
    by_cases h : (i : Int) < bad
    · rw [if_pos h, if_pos h]
      have := ih.lie (ss.getD i (0, 0))
      rw [show ((lyS (dl.take q) bad + 1 : Nat) : Int) = (lyS (dl.take q) bad : Int) + 1 from rfl]
      exact this
    · rw [if_neg h, if_neg h]
      obtain ⟨b1, b2⟩ := hs i (by omega) h
      have e3 : chS ss (hoS (dl.take q) bad ++ [(i : Int)]) = chS ss (hoS (dl.take q) bad) ++ [ss.getD i (0, 0)] := by
        unfold chS; rw [List.map_append]; rfl
      rw [e3, hullF_snoc]
      generalize hullF (chS ss (hoS (dl.take q) bad)) = r at ih ⊢
      obtain ⟨f, lo, hi'⟩ := r
      cases f with
      | true => exact ih.one _ b2 b1
      | false => exact ih.more _ b2 b1
end Go.Proofs.YtlnboheahbfgfaaGreat
namespace Go.Proofs.YtlnboheahbfgfaaGreat
open Go.RowKit Go.Shelf Go.Sort
set_option linter.unusedSimpArgs false
set_option linter.unusedVariables false

def hulQ (zs : List (Int × Int)) (q : Nat) : Int × Int := if q = 0 then zs.getD 0 (0, 0) else (hullF (zs.take q)).2
theorem hullF_first (zs : List (Int × Int)) (q : Nat) (hq : 0 < q) (hz : q ≤ zs.length) : (hullF (zs.take q)).1 = false := by
  obtain ⟨p, rfl⟩ : ∃ p, q = p + 1 := ⟨q - 1, by omega⟩
  rw [List.take_add_one, List.getElem?_eq_getElem (show p < zs.length by omega)]
  show (hullF (zs.take p ++ [zs[p]])).1 = false
  rw [hullF_snoc]; split <;> rfl
theorem hulQ_next (zs : List (Int × Int)) (q : Nat) (h : q < zs.length) : hulQ zs (q + 1) = (min (hulQ zs q).1 (zs.getD q (0, 0)).1, max (hulQ zs q).2 (zs.getD q (0, 0)).2) := by
  have e : zs.take (q + 1) = zs.take q ++ [zs.getD q (0, 0)] := by
    rw [List.take_add_one, List.getElem?_eq_getElem h, List.getD_eq_getElem?_getD, List.getElem?_eq_getElem h]; rfl
  unfold hulQ
  rw [if_neg (by omega), e, hullF_snoc]
  by_cases h0 : q = 0
  · subst h0
    rw [if_pos rfl, List.take_zero, show (hullF []).1 = true from rfl, if_pos rfl]
    simp
  · rw [if_neg h0, hullF_first zs q (by omega) (by omega), if_neg (by decide)]
set_option maxRecDepth 100000 in
set_option maxHeartbeats 4000000 in
theorem hull_any (A : Option Addr) (c : Nat) (zs : List (Int × Int)) (h0 : 0 < zs.length) (hm : zs.length ≤ 64) (w : World) (h : SpansAt w A zs.length zs) :
    Calls Tryz.prog 22 #[.slice A zs.length c] w (RB w (.agg #[.int .i64 (hullF zs).2.1, .int .i64 (hullF zs).2.2])) := by
  have HS := Lib.hid h; clear h
  have hlast : (hullF zs).2 = hulQ zs zs.length := by unfold hulQ; rw [if_neg (by omega), List.take_length]
  rw [hlast]
  clear hlast
  obtain ⟨bl, off, rfl, lbl, hcs⟩ := HS.out.2.2 h0
  obtain ⟨e0, e1⟩ := hcs 0 h0
  have HCS := Lib.hid hcs; clear hcs
  obtain ⟨z, hz⟩ : ∃ z, zs.getD 0 (0, 0) = z := ⟨_, rfl⟩
  rw [hz] at e0 e1
  have hz0 : hulQ zs 0 = z := by unfold hulQ; rw [if_pos rfl, hz]
  obtain ⟨zl, zh⟩ := z
  dsimp only at e0 e1
  simp only [Nat.zero_mul, Nat.add_zero] at e0 e1
  have HZ0 := Lib.hid hz0; clear hz hz0
  have HK := Lib.hid (show Kp w w from Below.refl _ _)
  go_enter Tryz.func22, Tryz.ntmps22
  go_upto_region 1 with fail
  go_cut [2, 3] (fun u v wx => u = .pointer (some ⟨w.heap.size, 0, none⟩) ∧ Blk wx w.heap.size 29 #[.int .i64 0, .int .i64 0] ∧ (∃ g, w.heap.size < g ∧ v = .pointer (some ⟨g, 0, none⟩) ∧ Blk wx g 29 #[.int .i64 zl, .int .i64 zh]) ∧ Below w.heap.size w wx)
  case first =>
    go_wp2_with fail
    go_meet
    exact ⟨rfl, by first | exact Blk.alloc (Blk.new _ _ _) _ | exact (Blk.new _ _ _).alloc _, ⟨w.heap.size + 1, by omega, rfl, by first | exact Blk.new1 _ _ _ _ | exact Blk.newE (by simp)⟩, (by (repeat' (first | (with_reducible exact Below.refl _ _) | (with_reducible refine Below.setCell ?_ ?_ _) | (with_reducible refine Below.alloc ?_ ?_ _) | (with_reducible refine Below.drew ?_) | (with_reducible refine below_drewN ?_ _))) <;> (first | omega | (simp <;> omega)))⟩
  case rest =>
    obtain ⟨rfl, hr, ⟨g, hg, rfl, hb⟩, KC⟩ := hcut
    have ZC := KC.size
    have lg := hb.lt; have lr := hr.lt
    have HR := Lib.hid hr; have HB := Lib.hid hb; have HC := Lib.hid KC
    clear hr hb KC e0 e1
    obtain ⟨w2, rfl⟩ : ∃ x : World, x = wc := ⟨_, rfl⟩
    go_wp2
    go_loopg [4] zs.length (fun G i wr => ∃ q : Nat, q ≤ zs.length ∧ G = zs.length - q ∧ i = .int .i64 q ∧ Blk wr g 29 #[.int .i64 (hulQ zs q).1, .int .i64 (hulQ zs q).2] ∧ Blk wr w.heap.size 29 #[.int .i64 0, .int .i64 0] ∧ Below w.heap.size w wr)
    case atStart => exact ⟨0, by omega, by omega, rfl, by rw [HZ0.out]; exact HB.out, HR.out, HC.out⟩
    case round =>
      obtain ⟨q, hq, rfl, rfl, hb, hr, KR⟩ := hrel
      have ZR := KR.size
      have lg := hb.lt; have lr := hr.lt
      clear HB HR
      have HB := Lib.hid hb; have HR := Lib.hid hr; have HKR := Lib.hid KR
      by_cases hlt : q < zs.length
      · have gq : decide ((q : Int) < (zs.length : Int)) = true := decide_eq_true (by omega)
        have gqn : decide (q < zs.length) = true := decide_eq_true hlt
        have wq : IntKind.i64.wrap ((q : Int) + 1) = ((q + 1 : Nat) : Int) := by rw [IntWalk.i64_in _ (by omega)]; omega
        obtain ⟨e0, e1⟩ := HCS.out q hlt
        have hst := hulQ_next zs q hlt
        obtain ⟨a, ha⟩ : ∃ a, (hulQ zs q).1 = a := ⟨_, rfl⟩
        obtain ⟨c9, hc9⟩ : ∃ a, (hulQ zs q).2 = a := ⟨_, rfl⟩
        rw [ha, hc9] at HB hst
        obtain ⟨y, hy⟩ : ∃ y, zs.getD q (0, 0) = y := ⟨_, rfl⟩
        rw [hy] at e0 e1 hst
        obtain ⟨yl, yh⟩ := y
        dsimp only at e0 e1 hst
        have HST := Lib.hid hst
        have E := Lib.hid (show ∀ W : World, Below w.heap.size w W → bl < W.heap.size ∧ W.cell? ⟨bl, off + q * 2, none⟩ = some (.int .i64 yl) ∧ W.cell? ⟨bl, off + q * 2 + 1, none⟩ = some (.int .i64 yh) from fun W hW => ⟨Nat.lt_of_lt_of_le lbl hW.size, cell_below hW e0, cell_below hW e1⟩)
        clear hst hy ha hc9 e0 e1 hb hr KR
        go_wp2_with fail
        refine' wp_region_calm (by kernel_rfl) (fun n _ w' => Below w.heap.size w w' ∧ Blk w' w.heap.size 29 #[.int .i64 0, .int .i64 0] ∧ (n = 0 → Blk w' g 29 #[.int .i64 a, .int .i64 c9]) ∧ (n = 1 → Blk w' g 29 #[.int .i64 (min a yl), .int .i64 c9]) ∧ (n = 2 → Blk w' g 29 #[.int .i64 (min a yl), .int .i64 (max c9 yh)])) (fun _ _ => True) [(Is _), (Is _), (Is _), (Is _), (Is _), (Is _), (Is _), (Is _), (Is _), (Is _), (Is _), (Is _), (Is _), (Is _), (Is _), (Is _), (Is _), (fun _ _ _ => True), (Is _), (fun _ _ _ => True)] [[], [0], [], [], [2, 3], [4], [5], [1, 6], [], [8], [], [], [10, 11], [12], [13], [9, 14], [], [16, 7], [], [18, 15]] [17, 19] [] rfl (by kernel_rfl) (fun u => by (simp only [calmPut, Act.put, List.setIfInBounds_toArray, List.set_cons_zero, List.set_cons_succ, Nat.zero_add, Nat.reduceAdd]; rfl)) ?_ (calmKeep_cons keep_is' (calmKeep_cons keep_is' (calmKeep_cons keep_is' (calmKeep_cons keep_is' (calmKeep_cons keep_is' (calmKeep_cons keep_is' (calmKeep_cons keep_is' (calmKeep_cons keep_is' (calmKeep_cons keep_is' (calmKeep_cons keep_is' (calmKeep_cons keep_is' (calmKeep_cons keep_is' (calmKeep_cons keep_is' (calmKeep_cons keep_is' (calmKeep_cons keep_is' (calmKeep_cons keep_is' (calmKeep_cons keep_is' (calmKeep_cons keep_triv (calmKeep_cons keep_is' (calmKeep_cons keep_triv (calmKeep_nil))))))))))))))))))))) ?_ ?_
        · intro _
          exact ⟨(by first | exact HKR.out | exact HKR.out.drew), Blk.below HR.out (by (repeat' (first | (with_reducible exact Below.refl _ _) | (with_reducible refine Below.setCell ?_ ?_ _) | (with_reducible refine Below.alloc ?_ ?_ _) | (with_reducible refine Below.drew ?_) | (with_reducible refine below_drewN ?_ _))) <;> (first | omega | (simp <;> omega))), (fun _ => Blk.below HB.out (by (repeat' (first | (with_reducible exact Below.refl _ _) | (with_reducible refine Below.setCell ?_ ?_ _) | (with_reducible refine Below.alloc ?_ ?_ _) | (with_reducible refine Below.drew ?_) | (with_reducible refine below_drewN ?_ _))) <;> (first | omega | (simp <;> omega)))), (fun h => absurd h (by decide)), (fun h => absurd h (by decide))⟩
        rotate_left 18
        · skip
          refine calmSteps_cons (fun u wq n hn hn2 hC hk K hK => ?_) ?_
          · obtain ⟨hP, hR0, h0', h1', h2'⟩ := hC
            clear hk
            go_simp
            exact hK _ _ _ rfl ⟨hP, hR0, h0', h1', h2'⟩ trivial rfl
          refine calmSteps_cons (fun u wq n hn hn2 hC hk K hK => ?_) ?_
          · obtain ⟨hP, hR0, h0', h1', h2'⟩ := hC
            simp only [calmKnown, List.getElem?_cons_zero, List.getElem?_cons_succ, and_true, Is, Pure, Option.some.injEq, List.getD_cons_zero, List.getD_cons_succ, List.map_cons, List.map_nil] at hk
            have h0 := hk; clear hk
            simp only [h0] at hK ⊢
            have H0 := Lib.hid h0; clear h0
            have hn0 : n = 0 := Nat.le_zero.1 (hn2 0 17 rfl (by kernel_rfl))
            have hH := h0' hn0
            have cH := hH.cell; have lH := hH.lt
            go_simp
            exact hK _ _ _ rfl ⟨hP, hR0, h0', h1', h2'⟩ trivial rfl
          refine calmSteps_cons (fun u wq n hn hn2 hC hk K hK => ?_) ?_
          · obtain ⟨hP, hR0, h0', h1', h2'⟩ := hC
            clear hk
            go_simp
            exact hK _ _ _ rfl ⟨hP, hR0, h0', h1', h2'⟩ trivial rfl
          refine calmSteps_cons (fun u wq n hn hn2 hC hk K hK => ?_) ?_
          · obtain ⟨hP, hR0, h0', h1', h2'⟩ := hC
            clear hk
            go_simp
            exact hK _ _ _ rfl ⟨hP, hR0, h0', h1', h2'⟩ trivial rfl
          refine calmSteps_cons (fun u wq n hn hn2 hC hk K hK => ?_) ?_
          · obtain ⟨hP, hR0, h0', h1', h2'⟩ := hC
            simp only [calmKnown, List.getElem?_cons_zero, List.getElem?_cons_succ, and_true, Is, Pure, Option.some.injEq, List.getD_cons_zero, List.getD_cons_succ, List.map_cons, List.map_nil] at hk
            obtain ⟨h2, h3⟩ := hk
            simp only [h2, h3] at hK ⊢
            have H2 := Lib.hid h2; clear h2; have H3 := Lib.hid h3; clear h3
            obtain ⟨x1, y0, y1⟩ := E.out _ hP
            go_simp
            exact hK _ _ _ rfl ⟨hP, hR0, h0', h1', h2'⟩ trivial rfl
          refine calmSteps_cons (fun u wq n hn hn2 hC hk K hK => ?_) ?_
          · obtain ⟨hP, hR0, h0', h1', h2'⟩ := hC
            simp only [calmKnown, List.getElem?_cons_zero, List.getElem?_cons_succ, and_true, Is, Pure, Option.some.injEq, List.getD_cons_zero, List.getD_cons_succ, List.map_cons, List.map_nil] at hk
            have h4 := hk; clear hk
            simp only [h4] at hK ⊢
            have H4 := Lib.hid h4; clear h4
            go_simp
            exact hK _ _ _ rfl ⟨hP, hR0, h0', h1', h2'⟩ trivial rfl
          refine calmSteps_cons (fun u wq n hn hn2 hC hk K hK => ?_) ?_
          · obtain ⟨hP, hR0, h0', h1', h2'⟩ := hC
            simp only [calmKnown, List.getElem?_cons_zero, List.getElem?_cons_succ, and_true, Is, Pure, Option.some.injEq, List.getD_cons_zero, List.getD_cons_succ, List.map_cons, List.map_nil] at hk
            have h5 := hk; clear hk
            simp only [h5] at hK ⊢
            have H5 := Lib.hid h5; clear h5
            obtain ⟨x1, y0, y1⟩ := E.out _ hP
            go_simp
            exact hK _ _ _ rfl ⟨hP, hR0, h0', h1', h2'⟩ trivial rfl
          refine calmSteps_cons (fun u wq n hn hn2 hC hk K hK => ?_) ?_
          · obtain ⟨hP, hR0, h0', h1', h2'⟩ := hC
            simp only [calmKnown, List.getElem?_cons_zero, List.getElem?_cons_succ, and_true, Is, Pure, Option.some.injEq, List.getD_cons_zero, List.getD_cons_succ, List.map_cons, List.map_nil] at hk
            obtain ⟨h1, h6⟩ := hk
            simp only [h1, h6] at hK ⊢
            have H1 := Lib.hid h1; clear h1; have H6 := Lib.hid h6; clear h6
            go_simp
            exact hK _ _ _ rfl ⟨hP, hR0, h0', h1', h2'⟩ trivial rfl
          refine calmSteps_cons (fun u wq n hn hn2 hC hk K hK => ?_) ?_
          · obtain ⟨hP, hR0, h0', h1', h2'⟩ := hC
            clear hk
            go_simp
            exact hK _ _ _ rfl ⟨hP, hR0, h0', h1', h2'⟩ trivial rfl
          refine calmSteps_cons (fun u wq n hn hn2 hC hk K hK => ?_) ?_
          · obtain ⟨hP, hR0, h0', h1', h2'⟩ := hC
            simp only [calmKnown, List.getElem?_cons_zero, List.getElem?_cons_succ, and_true, Is, Pure, Option.some.injEq, List.getD_cons_zero, List.getD_cons_succ, List.map_cons, List.map_nil] at hk
            have h8 := hk; clear hk
            simp only [h8] at hK ⊢
            have H8 := Lib.hid h8; clear h8
            have hn1 : n ≤ 1 := hn2 1 19 rfl (by kernel_rfl)
            have cH : g < wq.heap.size ∧ wq.cell? ⟨g, 1, none⟩ = some (.int .i64 c9) := by
              obtain rfl | rfl : n = 0 ∨ n = 1 := by omega
              · exact ⟨(h0' rfl).lt, (h0' rfl).cell 1⟩
              · exact ⟨(h1' rfl).lt, (h1' rfl).cell 1⟩
            obtain ⟨lH, cH⟩ := cH
            go_simp
            exact hK _ _ _ rfl ⟨hP, hR0, h0', h1', h2'⟩ trivial rfl
          refine calmSteps_cons (fun u wq n hn hn2 hC hk K hK => ?_) ?_
          · obtain ⟨hP, hR0, h0', h1', h2'⟩ := hC
            clear hk
            go_simp
            exact hK _ _ _ rfl ⟨hP, hR0, h0', h1', h2'⟩ trivial rfl
          refine calmSteps_cons (fun u wq n hn hn2 hC hk K hK => ?_) ?_
          · obtain ⟨hP, hR0, h0', h1', h2'⟩ := hC
            clear hk
            go_simp
            exact hK _ _ _ rfl ⟨hP, hR0, h0', h1', h2'⟩ trivial rfl
          refine calmSteps_cons (fun u wq n hn hn2 hC hk K hK => ?_) ?_
          · obtain ⟨hP, hR0, h0', h1', h2'⟩ := hC
            simp only [calmKnown, List.getElem?_cons_zero, List.getElem?_cons_succ, and_true, Is, Pure, Option.some.injEq, List.getD_cons_zero, List.getD_cons_succ, List.map_cons, List.map_nil] at hk
            obtain ⟨h10, h11⟩ := hk
            simp only [h10, h11] at hK ⊢
            have H10 := Lib.hid h10; clear h10; have H11 := Lib.hid h11; clear h11
            obtain ⟨x1, y0, y1⟩ := E.out _ hP
            go_simp
            exact hK _ _ _ rfl ⟨hP, hR0, h0', h1', h2'⟩ trivial rfl
          refine calmSteps_cons (fun u wq n hn hn2 hC hk K hK => ?_) ?_
          · obtain ⟨hP, hR0, h0', h1', h2'⟩ := hC
            simp only [calmKnown, List.getElem?_cons_zero, List.getElem?_cons_succ, and_true, Is, Pure, Option.some.injEq, List.getD_cons_zero, List.getD_cons_succ, List.map_cons, List.map_nil] at hk
            have h12 := hk; clear hk
            simp only [h12] at hK ⊢
            have H12 := Lib.hid h12; clear h12
            go_simp
            exact hK _ _ _ rfl ⟨hP, hR0, h0', h1', h2'⟩ trivial rfl
          refine calmSteps_cons (fun u wq n hn hn2 hC hk K hK => ?_) ?_
          · obtain ⟨hP, hR0, h0', h1', h2'⟩ := hC
            simp only [calmKnown, List.getElem?_cons_zero, List.getElem?_cons_succ, and_true, Is, Pure, Option.some.injEq, List.getD_cons_zero, List.getD_cons_succ, List.map_cons, List.map_nil] at hk
            have h13 := hk; clear hk
            simp only [h13] at hK ⊢
            have H13 := Lib.hid h13; clear h13
            obtain ⟨x1, y0, y1⟩ := E.out _ hP
            go_simp
            exact hK _ _ _ rfl ⟨hP, hR0, h0', h1', h2'⟩ trivial rfl
          refine calmSteps_cons (fun u wq n hn hn2 hC hk K hK => ?_) ?_
          · obtain ⟨hP, hR0, h0', h1', h2'⟩ := hC
            simp only [calmKnown, List.getElem?_cons_zero, List.getElem?_cons_succ, and_true, Is, Pure, Option.some.injEq, List.getD_cons_zero, List.getD_cons_succ, List.map_cons, List.map_nil] at hk
            obtain ⟨h9, h14⟩ := hk
            simp only [h9, h14] at hK ⊢
            have H9 := Lib.hid h9; clear h9; have H14 := Lib.hid h14; clear h14
            go_simp
            exact hK _ _ _ rfl ⟨hP, hR0, h0', h1', h2'⟩ trivial rfl
          refine calmSteps_cons (fun u wq n hn hn2 hC hk K hK => ?_) ?_
          · obtain ⟨hP, hR0, h0', h1', h2'⟩ := hC
            clear hk
            go_simp
            exact hK _ _ _ rfl ⟨hP, hR0, h0', h1', h2'⟩ trivial rfl
          refine calmSteps_cons (fun u wq n hn hn2 hC hk K hK => ?_) ?_
          · obtain ⟨hP, hR0, h0', h1', h2'⟩ := hC
            simp only [calmKnown, List.getElem?_cons_zero, List.getElem?_cons_succ, and_true, Is, Pure, Option.some.injEq, List.getD_cons_zero, List.getD_cons_succ, List.map_cons, List.map_nil] at hk
            obtain ⟨h16, h7⟩ := hk
            simp only [h16, h7] at hK ⊢
            have H16 := Lib.hid h16; clear h16; have H7 := Lib.hid h7; clear h7
            obtain rfl := hn 0 rfl
            have hH := h0' rfl
            clear h0' h1' h2'
            have cH := hH.cell; have lH := hH.lt; have fH := hH.frozen
            have hH2 := hH.set_ 0 (.int .i64 (min a yl))
            simp only [List.setIfInBounds_toArray, List.set_cons_zero, List.set_cons_succ] at hH2
            have hX2 := Blk.far hR0 (p := ⟨g, 0, none⟩) (by simp only; omega) (.int .i64 (min a yl))
            go_simp
            exact hK _ undef _ rfl ⟨hP.setCell (Nat.le_of_lt hg) _, hX2, (fun h => absurd h (by decide)), (fun _ => hH2), (fun h => absurd h (by decide))⟩ trivial trivial
          refine calmSteps_cons (fun u wq n hn hn2 hC hk K hK => ?_) ?_
          · obtain ⟨hP, hR0, h0', h1', h2'⟩ := hC
            clear hk
            go_simp
            exact hK _ _ _ rfl ⟨hP, hR0, h0', h1', h2'⟩ trivial rfl
          refine calmSteps_cons (fun u wq n hn hn2 hC hk K hK => ?_) ?_
          · obtain ⟨hP, hR0, h0', h1', h2'⟩ := hC
            simp only [calmKnown, List.getElem?_cons_zero, List.getElem?_cons_succ, and_true, Is, Pure, Option.some.injEq, List.getD_cons_zero, List.getD_cons_succ, List.map_cons, List.map_nil] at hk
            obtain ⟨h18, h15⟩ := hk
            simp only [h18, h15] at hK ⊢
            have H18 := Lib.hid h18; clear h18; have H15 := Lib.hid h15; clear h15
            obtain rfl := hn 1 rfl
            have hH := h1' rfl
            clear h0' h1' h2'
            have cH := hH.cell; have lH := hH.lt; have fH := hH.frozen
            have hH2 := hH.set_ 1 (.int .i64 (max c9 yh))
            simp only [List.setIfInBounds_toArray, List.set_cons_zero, List.set_cons_succ] at hH2
            have hX2 := Blk.far hR0 (p := ⟨g, 1, none⟩) (by simp only; omega) (.int .i64 (max c9 yh))
            go_simp
            exact hK _ undef _ rfl ⟨hP.setCell (Nat.le_of_lt hg) _, hX2, (fun h => absurd h (by decide)), (fun h => absurd h (by decide)), (fun _ => hH2)⟩ trivial trivial
          exact calmSteps_nil
        · intro u w4 hC hF
          obtain ⟨hP, hR0, -, -, h2'⟩ := hC
          have H4 := Lib.hid (And.intro hP (And.intro hR0 (h2' rfl)))
          clear hF h2' hP hR0
          go_wp2
          go_roundg (zs.length - (q + 1))
          case measure => omega
          case rel => exact ⟨q + 1, by omega, by omega, by go_num, by rw [HST.out]; exact H4.out.2.2, H4.out.2.1, H4.out.1⟩
      · obtain rfl : q = zs.length := by omega
        have gq : decide ((zs.length : Int) < (zs.length : Int)) = false := decide_eq_false (by omega)
        obtain ⟨a, ha⟩ : ∃ a, (hulQ zs zs.length).1 = a := ⟨_, rfl⟩
        obtain ⟨c9, hc9⟩ : ∃ a, (hulQ zs zs.length).2 = a := ⟨_, rfl⟩
        rw [ha, hc9] at HB ⊢
        clear hb hr KR
        obtain ⟨cb, fb, lb, eb, kb⟩ := Blk.facts HB.out
        obtain ⟨cr, fr, lr2, er, kr⟩ := Blk.facts HR.out
        go_wp2
        exact bodyPost_ret (v := .agg #[.int .i64 (hulQ zs zs.length).1, .int .i64 (hulQ zs zs.length).2]) (by simp [results, Tryz.results22, go_sem, ha, hc9, *]) rfl ⟨rfl, (by (repeat' (first | (with_reducible exact HKR.out) | (with_reducible refine Below.setCell ?_ ?_ _) | (with_reducible refine Below.alloc ?_ ?_ _) | (with_reducible refine Below.drew ?_) | (with_reducible refine below_drewN ?_ _))) <;> (first | omega | (simp <;> omega)))⟩
end Go.Proofs.YtlnboheahbfgfaaGreat
