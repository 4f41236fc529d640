/- Lemmas. -/
import Derived.ChangeAlike
import Derived.RegionTactic
import Derived.Test.YtiinmhfolfgobaaGreatDoorJ17
import Derived.Test.YtiinmhfolfgobaaGreatDoorJ19
import Derived.Test.YtiinmhfolfgobaaGreatDoorJ9
import Derived.Test.YtiinmhfolfgobaaGreatDoorJ11
set_option linter.unusedVariables false
set_option linter.unusedSimpArgs false
namespace Go.Proofs.YtiinmhfolfgobaaGreatDoor
open Go.RowKit Go.Shelf Go.Sort
set_option maxHeartbeats 8000000
set_option maxRecDepth 100000
theorem rqcheck_any (A : Option Addr) (len cap : Nat) (zs : List (Int × Int)) (f : Int) (w : World) (h : SpansAt w A len zs) :
  Calls Tryz.prog 191 #[.slice A len cap, .int .i64 f] w (RB w (.int .i64 (qE zs f))) := by
 obtain rfl := h.1
 have R := Yh (fun W (hW : Below w.heap.size w W) => rswcheck_any A zs.length cap zs W (h.below hW))
 clear h
 obtain ⟨ce, hce⟩ : ∃ ce, ckE zs = ce := ⟨_, rfl⟩
 rw [hce] at R
 by_cases h0 : ce = 0
 ·subst h0
  have hl := (ckE_ok hce).1
  by_cases h1 : f < 0 ∨ (zs.length : Int) ≤ 2 * f
  ·rw [qE_range hce h1]
   have HCE := Yh hce; clear hce
   by_cases h2 : f < 0
   ·have g1 : decide (f < 0) = true := decide_eq_true h2
    clear h1
    go_enter Tryz.func191, Tryz.ntmps191
    go_wp2_with fail
    refine (R.out _ bl0).mono ?_
    rintro e w1 ⟨rfl, hb1⟩
    have K1 : Below w.heap.size w w1 := Yc hb1 bl0
    have Z1 := K1.size
    clear hb1
    go_wp2
    go_ret
    exact ⟨rfl, bl1⟩
   ·have g1 : decide (f < 0) = false := decide_eq_false h2
    have h3 : (zs.length : Int) ≤ 2 * f := by omega
    clear h1
    by_cases h4 : (zs.length : Int) ≤ f
    ·have g2 : decide ((zs.length : Int) ≤ f) = true := decide_eq_true h4
     go_enter Tryz.func191, Tryz.ntmps191
     go_wp2_with fail
     refine (R.out _ bl0).mono ?_
     rintro e w1 ⟨rfl, hb1⟩
     have K1 : Below w.heap.size w w1 := Yc hb1 bl0
     have Z1 := K1.size
     clear hb1
     go_wp2
     go_ret
     exact ⟨rfl, bl1⟩
    ·have g2 : decide ((zs.length : Int) ≤ f) = false := decide_eq_false h4
     have wf : IntKind.i64.wrap (2 * f) = 2 * f := IntWalk.i64_in _ Yo
     have g3 : decide ((zs.length : Int) ≤ 2 * f) = true := decide_eq_true h3
     clear h3
     go_enter Tryz.func191, Tryz.ntmps191
     go_wp2_with fail
     refine (R.out _ bl0).mono ?_
     rintro e w1 ⟨rfl, hb1⟩
     have K1 : Below w.heap.size w w1 := Yc hb1 bl0
     have Z1 := K1.size
     clear hb1
     go_wp2
     go_ret
     exact ⟨rfl, bl1⟩
  ·rw [qE_ok hce h1]
   have HCE := Yh hce; clear hce
   have g1 : decide (f < 0) = false := Y3
   have g2 : decide ((zs.length : Int) ≤ f) = false := Y3
   have wf : IntKind.i64.wrap (2 * f) = 2 * f := IntWalk.i64_in _ Yo
   have g3 : decide ((zs.length : Int) ≤ 2 * f) = false := Y3
   clear h1
   go_enter Tryz.func191, Tryz.ntmps191
   go_wp2_with fail
   refine (R.out _ bl0).mono ?_
   rintro e w1 ⟨rfl, hb1⟩
   have K1 : Below w.heap.size w w1 := Yc hb1 bl0
   have Z1 := K1.size
   clear hb1
   go_wp2
   go_ret
   exact ⟨rfl, bl1⟩
 ·rw [qE_bad (by rw [hce]; exact h0), hce]
  have HCE := Yh hce; clear hce
  have g0 : decide (ce = 0) = false := decide_eq_false h0
  have g0b : (ce == 0) = false := by rw [beq_eq_false_iff_ne]; exact h0
  go_enter Tryz.func191, Tryz.ntmps191
  go_wp2_with fail
  refine (R.out _ bl0).mono ?_
  rintro e w1 ⟨rfl, hb1⟩
  have K1 : Below w.heap.size w w1 := Yc hb1 bl0
  have Z1 := K1.size
  clear hb1
  go_wp2
  go_ret
  exact ⟨rfl, bl1⟩
theorem rhull_any (A : Option Addr) (len cap : Nat) (zs : List (Int × Int)) (n : Int) (hc : ckE zs = 0) (hn : 1 ≤ n) (w : World) (h : SpansAt w A len zs) :
  Calls Tryz.prog 192 #[.slice A len cap, .int .i64 n] w (HuR w zs n hullE) := by
 have hle := lE_ok hc (show ¬ n < 1 by omega)
 have R := Yh (fun W (hW : Below w.heap.size w W) => rLeast_any A len cap zs n W (h.below hW))
 have HLE := Yh hle; clear h hle hc
 go_enter Tryz.func192, Tryz.ntmps192
 go_wp2_with fail
 refine (R.out _ bl0).mono ?_
 rintro e w1 ⟨A2, c2, us, rfl, hsp, hlx, hb1⟩
 have K1 : Below w.heap.size w w1 := Yc hb1 bl0
 have Z1 := K1.size
 have b1_0 := Yk (g := w.heap.size) hb1 bn0
 (try simp only [lst, ls0, ls1] at b1_0)
 clear hb1
 obtain ⟨c1_0, f1_0, l1_0, e1_0, k1_0⟩ := Yf b1_0
 have o1_0 := l1_0
 rw [HLE.out]
 have hul := hsp.2.1
 by_cases hu : us = []
 ·subst hu
  simp only [List.length_nil]
  go_wp2
  exact Yb (v := hullE 0 0 false) (by simp [results, Tryz.results192, go_sem, *, hullE]) rfl ⟨0, 0, false, rfl, ⟨[], hlx, .inl ⟨rfl, rfl, rfl, rfl⟩⟩, bl1⟩
 ·have hl0 : 0 < us.length := List.length_pos_iff.2 hu
  have g0 : decide ((us.length : Int) = 0) = false := Y3
  have g0b : ((us.length : Int) == 0) = false := Y5
  have g0n : decide (us.length = 0) = false := Y3
  have g0nb : (us.length == 0) = false := Y5
  have gu : us ≠ [] := hu
  obtain ⟨r, hr⟩ : ∃ r : Nat, us.length = r + 1 := ⟨us.length - 1, Yo⟩
  have wr1 : IntKind.i64.wrap ((us.length : Int) - 1) = (r : Int) := Y4
  obtain ⟨bl, off, rfl, hbl, hcs⟩ := hsp.2.2 hl0
  have e0 : w1.cell? ⟨bl, off, none⟩ = some (.int .i64 (us.getD 0 (0, 0)).1) := by simpa using (hcs 0 hl0).1
  have e1 := (hcs r Yo).2
  clear hcs hsp
  have hz1 : (lastS us).2 = (us.getD r (0, 0)).2 := by unfold lastS; rw [show us.length - 1 = r by omega]
  obtain ⟨x, hx⟩ : ∃ x, (us.getD 0 (0, 0)).1 = x := ⟨_, rfl⟩
  obtain ⟨y, hy⟩ : ∃ y, (us.getD r (0, 0)).2 = y := ⟨_, rfl⟩
  rw [hx] at e0
  rw [hy] at e1 hz1
  have grp : r < us.length := by omega
  have gr : decide ((r : Int) < (us.length : Int)) = true := Y2
  have grn : decide (r < us.length) = true := Y2
  have g00 : decide (0 < (us.length : Int)) = true := Y2
  have g00n : decide (0 < us.length) = true := decide_eq_true hl0
  have E := Yh (fun (W : World) (hW : Below w1.heap.size w1 W) => Ya hbl (Ya ((hW.cell (p := ⟨bl, off, none⟩) hbl).trans e0) ((hW.cell (p := ⟨bl, off + r * 2 + 1, none⟩) hbl).trans e1)))
  have HX := Yh hx; have HY := Yh hz1; have HR := Yh hr; have HLX := Yh hlx; clear hx hy hz1 hlx hr hu e0 e1
  have br := b1_0
  obtain ⟨cr, fr, lr, er, kr⟩ := Yf br
  have K1r := K1
  go_upto_region 6 with fail
  refine' wp_region_calm Yr (fun n _ w' => Below w.heap.size w w' ∧ (n = 0 → Below w1.heap.size w1 w' ∧ Blk w' (w.heap.size) 40 #[.int .i64 0, .int .i64 0]) ∧ (n = 1 → Blk w' (w.heap.size) 40 #[.int .i64 x, .int .i64 y])) (fun _ _ => True) [Is _, Is _, Is _, Is _, Is _, Is _, Is _, Is _, Is _, Is _, Is _, Is _, (fun _ _ _ => True), Is _] [[], [0], [1], [2], [], [], [5], [6], [4, 7], [8], [9], [3, 10], [11], []] [12] [] rfl Yr Yp ?_ (Y1 (Y1 (Y1 (Y1 (Y1 (Y1 (Y1 (Y1 (Y1 (Y1 (Y1 (Y1 (Y0 (Y1 Yn)))))))))))))) ?_ ?_
  ·intro _
   exact ⟨bl1, (fun _ => ⟨bl0, bn1⟩), Ye⟩
  rotate_left 13
  ·skip
   iterate 3 refine zq0 ?_
   refine zq1 (fun _ _ n _ hn2 ⟨_, hR0, _⟩ => have hn0 : n = 0 := Nat.le_zero.1 (hn2 0 12 rfl Yr); have hQ := (hR0 hn0).1; Ya hn0 (Ya hQ (E.out _ hQ))) ?_
   iterate 6 refine zq0 ?_
   refine zq1 (fun _ _ n _ hn2 ⟨_, hR0, _⟩ => have hn0 : n = 0 := Nat.le_zero.1 (hn2 0 12 rfl Yr); have hQ := (hR0 hn0).1; Ya hn0 (Ya hQ (E.out _ hQ))) ?_
   refine zq0 ?_
   refine Yz (fun u wq n hn hn2 hC hk K hK => ?_) ?_
   ·obtain ⟨hP, hR0, hR1⟩ := hC
    simp only [calmKnown, lg0, lg1, and_true, Is] at hk
    have h11 := hk; clear hk
    simp only [h11] at hK ⊢
    have H11 := Yh h11; clear h11
    obtain rfl := hn 0 rfl
    have hB := (hR0 rfl).2
    clear hR0 hR1
    have hz0 := hB.cell; have hf0 := hB.frozen; have hl0 := hB.lt
    have hB2 := setAll_blk [.int .i64 x, .int .i64 y] 0 wq _ hB
    simp only [setArr, lst, ls0, ls1, Nat.zero_add, Nat.reduceAdd] at hB2
    go_simp
    exact hK _ undef _ rfl ⟨bl1, Ye, (fun _ => hB2)⟩ trivial trivial
   refine zq0 ?_
   exact Yw
  ·intro u w2 hC hF
   obtain ⟨hP, hR0, hR1⟩ := hC
   simp only [calmFacts, Is, and_true, true_and] at hF
   obtain ⟨f0, f1, f2, f3, f4, f5, f6, f7, f8, f9, f10, f11, f13⟩ := hF
   simp only [f0, f1, f2, f3, f4, f5, f6, f7, f8, f9, f10, f11, f13]
   clear f0 f1 f2 f3 f4 f5 f6 f7 f8 f9 f10 f11 f13
   have br' := hR1 rfl
   clear hR0 hR1 br cr fr lr er kr; have br := br'; clear br'
   have K2 := hP; clear hP
   clear b1_0 c1_0 f1_0 l1_0 e1_0 k1_0
   obtain ⟨cr, fr, lr, er, kr⟩ := Yf br
   go_wp2
   exact Yb (v := hullE x y true) (by simp [results, Tryz.results192, go_sem, *, hullE]) rfl ⟨x, y, true, rfl, ⟨us, HLX.out, .inr ⟨hl0, HX.out.symm, HY.out.symm, rfl⟩⟩, bl1⟩
theorem rAgree_any (A : Option Addr) (len cap : Nat) (zs : List (Int × Int)) (f : Int) (w : World) (h : SpansAt w A len zs) :
  Calls Tryz.prog 159 #[.slice A len cap, .int .i64 f] w (AgR w zs f) := by
 obtain rfl := h.1
 have R := Yh (fun W (hW : Below w.heap.size w W) => rqcheck_any A zs.length cap zs f W (h.below hW))
 have Q := Yh (fun (h1 : ckE zs = 0) (h2 : 1 ≤ (zs.length : Int) - f) W (hW : Below w.heap.size w W) => rhull_any A zs.length cap zs ((zs.length : Int) - f) h1 h2 W (h.below hW))
 clear h
 obtain ⟨qe, hqe⟩ : ∃ qe, qE zs f = qe := ⟨_, rfl⟩
 rw [hqe] at R
 have HQE := Yh hqe; clear hqe
 go_enter Tryz.func159, Tryz.ntmps159
 go_wp2_with fail
 refine (R.out _ bl0).mono ?_
 rintro e w1 ⟨rfl, hb1⟩
 have K1 : Below w.heap.size w w1 := Yc hb1 bl0
 have Z1 := K1.size
 have b1_0 := Yk (g := w.heap.size) hb1 bn0
 (try simp only [lst, ls0, ls1] at b1_0)
 clear hb1
 obtain ⟨c1_0, f1_0, l1_0, e1_0, k1_0⟩ := Yf b1_0
 have o1_0 := l1_0
 by_cases h0 : qe = 0
 ·subst h0
  obtain ⟨hc0, hf0, hf1⟩ := qE_parts HQE.out
  have hl64 := (ckE_ok hc0).1
  have wlf : IntKind.i64.wrap ((zs.length : Int) - f) = (zs.length : Int) - f := IntWalk.i64_in _ Yo
  have HC0 := Yh hc0; clear hc0
  go_wp2_with fail
  refine (Q.out HC0.out Yo _ bl1).mono ?_
  rintro e w2 ⟨x, y, b, rfl, hhu, hb2⟩
  have K2 : Below w.heap.size w w2 := Yc hb2 bl1
  have Z2 := K2.size
  have b1_0' := Yk (g := w.heap.size) hb2 bn1
  (try simp only [lst, ls0, ls1] at b1_0')
  clear hb2 K1
  clear b1_0 c1_0 f1_0 l1_0 e1_0 k1_0; have b1_0 := b1_0'; clear b1_0'
  obtain ⟨c1_0, f1_0, l1_0, e1_0, k1_0⟩ := Yf b1_0
  have hax := hu_ax HQE.out hhu
  have HAX := Yh hax; clear hax hhu
  cases b with
  | true =>
   have HAX2 := HAX.out
   simp only [if_true, if_false, Bool.false_eq_true] at HAX2
   have HAX := Yh HAX2; clear HAX2
   unfold hullE
   simp only [if_true, if_false, Bool.false_eq_true]
   go_wp2
   exact Yb (v := .tuple #[.agg #[.int .i64 x, .int .i64 y], .int .i64 0]) (by simp [results, Tryz.results159, go_sem, *]) rfl ⟨x, y, 0, rfl, HAX.out, bl1⟩
  | false =>
   have HAX2 := HAX.out
   simp only [if_true, if_false, Bool.false_eq_true] at HAX2
   have HAX := Yh HAX2; clear HAX2
   unfold hullE
   simp only [if_true, if_false, Bool.false_eq_true]
   go_wp2
   exact Yb (v := .tuple #[.agg #[.int .i64 x, .int .i64 y], .int .i64 21]) (by simp [results, Tryz.results159, go_sem, *]) rfl ⟨x, y, 21, rfl, HAX.out, bl1⟩
 ·have g0 : decide (qe = 0) = false := decide_eq_false h0
  have g0b : (qe == 0) = false := by rw [beq_eq_false_iff_ne]; exact h0
  go_wp2
  exact Yb (v := .tuple #[.agg #[.int .i64 0, .int .i64 0], .int .i64 qe]) (by simp [results, Tryz.results159, go_sem, *]) rfl ⟨0, 0, qe, rfl, .inl ⟨by rw [HQE.out]; exact h0, rfl, rfl, HQE.out.symm⟩, bl1⟩
end Go.Proofs.YtiinmhfolfgobaaGreatDoor
namespace Go.Proofs.YtiinmhfolfgobaaGreatDoor
open Go.RowKit
theorem hi_ceil (x e p : Int) (he : 0 < e) : quo x 1000000000 e true ≤ p ↔ x * 1000000000 ≤ p * e := by
 show -(-(x * 1000000000) / e) ≤ p ↔ _
 have h : (-p ≤ -(x * 1000000000) / e) ↔ (-p * e ≤ -(x * 1000000000)) := Int.le_ediv_iff_mul_le he
 rw [Int.neg_mul] at h
 constructor
 ·intro k; have := h.1 Yo; omega
 ·intro k; have := h.2 Yo; omega
theorem lo_mul (d p : Int) (hp : 0 ≤ p) : elLo d p * (1000000000 + p) ≤ d * 1000000000 := by
 show d * 1000000000 / (1000000000 + p) * (1000000000 + p) ≤ _
 exact Int.ediv_mul_le _ Yo
theorem le_lo {d p q : Int} (hp : 0 ≤ p) (h : q * (1000000000 + p) ≤ d * 1000000000) : q ≤ elLo d p := by
 show q ≤ d * 1000000000 / (1000000000 + p)
 exact (Int.le_ediv_iff_mul_le Yo).2 h
theorem hi_mul (d p : Int) (hp : p ≤ 1000000) : d * 1000000000 ≤ elHi d p * (1000000000 - p) :=
 (hi_ceil d (1000000000 - p) (elHi d p) Yo).1 (Int.le_refl _)
theorem hi_le {d p q : Int} (hp : p ≤ 1000000) (h : d * 1000000000 ≤ q * (1000000000 - p)) : elHi d p ≤ q :=
 (hi_ceil d (1000000000 - p) q Yo).2 h
theorem lo_le_of {d p q : Int} (hp : 0 ≤ p) (h : d * 1000000000 ≤ q * (1000000000 + p)) : elLo d p ≤ q :=
 Int.le_of_mul_le_mul_right (Int.le_trans (lo_mul d p hp) h) Yo
theorem le_hi_of {d p q : Int} (hp : p ≤ 1000000) (h : q * (1000000000 - p) ≤ d * 1000000000) : q ≤ elHi d p :=
 Int.le_of_mul_le_mul_right (Int.le_trans h (hi_mul d p hp)) Yo
theorem lo_pos {d p : Int} (hd : 0 ≤ d) (hp : 0 ≤ p) (_ : p ≤ 1000000) : 0 ≤ elLo d p := le_lo hp Yo
theorem lo_le {d p : Int} (hd : 0 ≤ d) (hp : 0 ≤ p) (_ : p ≤ 1000000) : elLo d p ≤ d := lo_le_of hp (by rw [Int.mul_add]; have := Int.mul_nonneg hd hp; omega)
theorem le_hi {d p : Int} (hd : 0 ≤ d) (hp : 0 ≤ p) (hp1 : p ≤ 1000000) : d ≤ elHi d p := le_hi_of hp1 (by rw [Int.mul_sub]; have := Int.mul_nonneg hd hp; omega)
theorem hi_two {d p : Int} (hd : 0 ≤ d) (_ : 0 ≤ p) (hp1 : p ≤ 1000000) : elHi d p ≤ 2 * d := hi_le hp1 (by
 have : d * p ≤ d * 1000000 := Int.mul_le_mul_of_nonneg_left hp1 hd
 rw [Int.mul_assoc, Int.mul_sub]; omega)
theorem el_span {d p : Int} (hd : 0 ≤ d) (hp : 0 ≤ p) (hp1 : p ≤ 1000000) (hd1 : d ≤ 576460752303423488) : vS (elLo d p) (elHi d p) = true := by
 have := lo_pos hd hp hp1; have := lo_le hd hp hp1; have := le_hi hd hp hp1; have := hi_two hd hp hp1
 exact vS_true.2 ⟨Yo, Yo, Yo⟩
theorem el_none {d : Int} : elLo d 0 = d ∧ elHi d 0 = d := by
 constructor
 ·show d * 1000000000 / (1000000000 + 0) = d; omega
 ·show -(-(d * 1000000000) / (1000000000 - 0)) = d; omega
def ctB (n : Int) : Bool := decide (0 ≤ n ∧ n ≤ 1152921504606846976)
def kE (at_ lo hi ppb le re : Int) : Int := if vS lo hi = false then 3 else if vT at_ = true ∧ 0 ≤ ppb ∧ ppb ≤ 1000000 ∧ ctB le = true ∧ ctB re = true then 0 else 4
theorem kE_3 {at_ lo hi ppb le re : Int} (h : vS lo hi = false) : kE at_ lo hi ppb le re = 3 := by unfold kE; rw [if_pos h]
theorem kE_4 {at_ lo hi ppb le re : Int} (h : vS lo hi = true) (h' : ¬ (vT at_ = true ∧ 0 ≤ ppb ∧ ppb ≤ 1000000 ∧ ctB le = true ∧ ctB re = true)) : kE at_ lo hi ppb le re = 4 := by unfold kE; rw [if_neg (by rw [h]; simp), if_neg h']
theorem kE_0 {at_ lo hi ppb le re : Int} (h : vS lo hi = true) (h1 : vT at_ = true) (h2 : 0 ≤ ppb) (h3 : ppb ≤ 1000000) (h4 : ctB le = true) (h5 : ctB re = true) : kE at_ lo hi ppb le re = 0 := by unfold kE; rw [if_neg (by rw [h]; simp), if_pos ⟨h1, h2, h3, h4, h5⟩]
theorem kE_all {at_ lo hi ppb le re : Int} (h : kE at_ lo hi ppb le re = 0) : vS lo hi = true ∧ vT at_ = true ∧ 0 ≤ ppb ∧ ppb ≤ 1000000 ∧ ctB le = true ∧ ctB re = true := by
 unfold kE at h
 split at h
 ·omega
 ·rename_i q
  split at h
  ·rename_i q'
   exact ⟨by simpa using q, q'⟩
  ·omega
def V3 (x : Int × Int × Int) : Value := .tuple #[.agg #[.int .i64 x.1, .int .i64 x.2.1], .int .i64 x.2.2]
def opT (ok in_ : Bool) (lo hi : Int) : Int × Int × Int := if ok then (if in_ then (if vS lo hi then (lo, hi, 0) else (0, 0, 4)) else (0, 0, 4)) else (0, 0, 3)
theorem opV_opT (ok in_ : Bool) (lo hi : Int) : opV ok in_ lo hi = V3 (opT ok in_ lo hi) := by
 unfold opV opT mkS V3
 cases ok <;> cases in_ <;> simp
 split <;> rfl
def nowT (at_ lo hi ppb le re u : Int) : Int × Int × Int := if kE at_ lo hi ppb le re ≠ 0 then (0, 0, kE at_ lo hi ppb le re) else if u < at_ then (0, 0, 12) else if vT u = false then (0, 0, 4) else opT (vS lo hi) (inD (u - at_) ppb) (lo + elLo (u - at_) ppb) (hi + elHi (u - at_) ppb)
theorem nowT_e {at_ lo hi ppb le re u : Int} (h : kE at_ lo hi ppb le re ≠ 0) : nowT at_ lo hi ppb le re u = (0, 0, kE at_ lo hi ppb le re) := by unfold nowT; rw [if_pos h]
theorem nowT_12 {at_ lo hi ppb le re u : Int} (h : kE at_ lo hi ppb le re = 0) (h' : u < at_) : nowT at_ lo hi ppb le re u = (0, 0, 12) := by unfold nowT; rw [if_neg Yo, if_pos h']
theorem nowT_4 {at_ lo hi ppb le re u : Int} (h : kE at_ lo hi ppb le re = 0) (h' : ¬ u < at_) (h2 : vT u = false) : nowT at_ lo hi ppb le re u = (0, 0, 4) := by unfold nowT; rw [if_neg Yo, if_neg h', if_pos h2]
theorem nowT_ok {at_ lo hi ppb le re u : Int} (h : kE at_ lo hi ppb le re = 0) (h' : ¬ u < at_) (h2 : vT u = true) : nowT at_ lo hi ppb le re u = opT (vS lo hi) (inD (u - at_) ppb) (lo + elLo (u - at_) ppb) (hi + elHi (u - at_) ppb) := by
 unfold nowT; rw [if_neg Yo, if_neg h', if_neg (by rw [h2]; simp)]
def V6 (at_ lo hi ppb le re : Int) (ok : Bool) (e : Int) : Value := .tuple #[.agg #[.int .i64 at_, .int .i64 lo, .int .i64 hi, .int .i64 ppb, .int .i64 le, .int .i64 re], .bool ok, .int .i64 e]
structure Lrn where
 (at_ lo hi ppb le re : Int) (ok : Bool) (e : Int)
def Lrn.V (x : Lrn) : Value := V6 x.at_ x.lo x.hi x.ppb x.le x.re x.ok x.e
def lrn (at_ lo hi ppb le re u c d : Int) : Lrn :=
 if (nowT at_ lo hi ppb le re u).2.2 ≠ 0 then ⟨0, 0, 0, 0, 0, 0, false, (nowT at_ lo hi ppb le re u).2.2⟩ else if vS c d = false then ⟨0, 0, 0, 0, 0, 0, false, 3⟩ else
 if mtB (nowT at_ lo hi ppb le re u).1 (nowT at_ lo hi ppb le re u).2.1 c d then ⟨u, max (nowT at_ lo hi ppb le re u).1 c, min (nowT at_ lo hi ppb le re u).2.1 d, ppb, min (le + 1) 1152921504606846976, re, true, 0⟩
 else ⟨at_, lo, hi, ppb, le, min (re + 1) 1152921504606846976, false, 0⟩
section
variable {at_ lo hi ppb le re u c d x y : Int}
theorem lrn_e {e : Int} (h : nowT at_ lo hi ppb le re u = (x, y, e)) (he : e ≠ 0) : lrn at_ lo hi ppb le re u c d = ⟨0, 0, 0, 0, 0, 0, false, e⟩ := by unfold lrn; rw [h]; rw [if_pos he]
theorem lrn_3 (h : nowT at_ lo hi ppb le re u = (x, y, 0)) (h' : vS c d = false) : lrn at_ lo hi ppb le re u c d = ⟨0, 0, 0, 0, 0, 0, false, 3⟩ := by unfold lrn; rw [h]; rw [if_neg Ys, if_pos h']
theorem lrn_yes (h : nowT at_ lo hi ppb le re u = (x, y, 0)) (h' : vS c d = true) (hm : mtB x y c d = true) : lrn at_ lo hi ppb le re u c d = ⟨u, max x c, min y d, ppb, min (le + 1) 1152921504606846976, re, true, 0⟩ := by
 unfold lrn; rw [h]; rw [if_neg Ys, if_neg (by rw [h']; simp), if_pos hm]
theorem lrn_no (h : nowT at_ lo hi ppb le re u = (x, y, 0)) (h' : vS c d = true) (hm : mtB x y c d = false) : lrn at_ lo hi ppb le re u c d = ⟨at_, lo, hi, ppb, le, min (re + 1) 1152921504606846976, false, 0⟩ := by
 unfold lrn; rw [h]; rw [if_neg Ys, if_neg (by rw [h']; simp), if_neg (by rw [hm]; simp)]
theorem now_0 (h : nowT at_ lo hi ppb le re u = (x, y, 0)) : kE at_ lo hi ppb le re = 0 := by
 by_cases q : kE at_ lo hi ppb le re = 0
 ·exact q
 ·rw [nowT_e q] at h; injection h with _ h; injection h with _ h
end
def begV (at_ lo hi ppb : Int) : Value := if kE at_ lo hi ppb 0 0 = 0 then .tuple #[.agg #[.int .i64 at_, .int .i64 lo, .int .i64 hi, .int .i64 ppb, .int .i64 0, .int .i64 0], .int .i64 0] else .tuple #[.agg #[.int .i64 0, .int .i64 0, .int .i64 0, .int .i64 0, .int .i64 0, .int .i64 0], .int .i64 (kE at_ lo hi ppb 0 0)]
theorem begV_ok {at_ lo hi ppb : Int} (h : kE at_ lo hi ppb 0 0 = 0) : begV at_ lo hi ppb = .tuple #[.agg #[.int .i64 at_, .int .i64 lo, .int .i64 hi, .int .i64 ppb, .int .i64 0, .int .i64 0], .int .i64 0] := by unfold begV; rw [if_pos h]
theorem begV_e {at_ lo hi ppb : Int} (h : kE at_ lo hi ppb 0 0 ≠ 0) : begV at_ lo hi ppb = .tuple #[.agg #[.int .i64 0, .int .i64 0, .int .i64 0, .int .i64 0, .int .i64 0, .int .i64 0], .int .i64 (kE at_ lo hi ppb 0 0)] := by unfold begV; rw [if_neg h]
end Go.Proofs.YtiinmhfolfgobaaGreatDoor
namespace Go.Proofs.YtiinmhfolfgobaaGreatDoor
open Go.RowKit
set_option maxHeartbeats 12000000
theorem badS_two (a b c d : Int) : badS [(a, b), (c, d)] = !(vS a b && vS c d) := by simp [badS, anyS]
theorem spansAt_two {w : World} {g : Nat} {a b c d : Int} {t : TypeId} (h : Blk w g t #[.int .i64 a, .int .i64 b, .int .i64 c, .int .i64 d]) : SpansAt w (some ⟨g, 0, none⟩) 2 [(a, b), (c, d)] := by
 refine ⟨rfl, Yo, fun _ => ⟨g, 0, rfl, h.lt, fun j hj => ?_⟩⟩
 obtain rfl | rfl : j = 0 ∨ j = 1 := by omega
 ·exact ⟨by rw [h.cell]; rfl, by rw [h.cell]; rfl⟩
 ·exact ⟨by rw [h.cell]; rfl, by rw [h.cell]; rfl⟩
theorem iadd_f (P Q : Nat) (a b c d : Int) (h1 : vS a b = true) (h2 : vS c d = true) (w : World) (hp : Blk w P 40 #[.int .i64 a, .int .i64 b]) (hq : Blk w Q 40 #[.int .i64 c, .int .i64 d]) :
  Calls Tryz.prog 146 #[.pointer (some ⟨P, 0, none⟩), .pointer (some ⟨Q, 0, none⟩)] w (RB w (.agg #[.int .i64 (a + c), .int .i64 (b + d)])) := by
 obtain ⟨x1, x2, x3⟩ := vS_true.1 h1
 obtain ⟨y1, y2, y3⟩ := vS_true.1 h2
 clear h1 h2
 obtain ⟨cp, fp, lp, ep, kp⟩ := Yf hp
 obtain ⟨cq, fq, lq, eq, kq⟩ := Yf hq
 go_enter Tryz.func146, Tryz.ntmps146
 go_wp2
 exact Yb (v := .agg #[.int .i64 (a + c), .int .i64 (b + d)]) (by simp [results, Tryz.results146, go_sem, *]) rfl ⟨rfl, bl0⟩
theorem iadd_all (a b c d : Int) (w : World) :
  Calls Tryz.prog 112 #[.agg #[.int .i64 a, .int .i64 b], .agg #[.int .i64 c, .int .i64 d]] w (RB w (opV (vS a b && vS c d) true (a + c) (b + d))) := by
 rcases h : vS a b && vS c d
 ·rw [opV_3]
  have R := Yh (fun f w g (q : Blk w g 40 #[.int .i64 a, .int .i64 b, .int .i64 c, .int .i64 d]) => result_bad f (some ⟨g, 0, none⟩) 2 2 [(a, b), (c, d)] (by rw [badS_two, h]; rfl) w (spansAt_two q))
  go_enter Tryz.func112, Tryz.ntmps112
  go_wp2_with fail
  refine (R.out _ _ _ bn0).mono ?_
  rintro e w1 ⟨rfl, hb1⟩
  have K1 : Below w.heap.size w w1 := Yc hb1 bl0
  have Z1 := K1.size
  have b1_2 := Yk (g := w.heap.size + 2) hb1 bn0
  (try simp only [lst, ls0, ls1] at b1_2)
  clear hb1
  obtain ⟨c1_2, f1_2, l1_2, e1_2, k1_2⟩ := Yf b1_2
  go_wp2
  exact Yb (v := .tuple #[.agg #[.int .i64 0, .int .i64 0], .int .i64 3]) (by simp [results, Tryz.results112, go_sem, *]) rfl ⟨rfl, bl1⟩
 ·have hh := h
  rw [Bool.and_eq_true] at hh
  rw [opV_ok]
  obtain ⟨x, y, e, hv⟩ := mkS_form (a + c) (b + d)
  have R := Yh (fun P Q w g (q : Blk w g 40 #[.int .i64 a, .int .i64 b, .int .i64 c, .int .i64 d]) (p : Blk w P 40 #[.int .i64 a, .int .i64 b]) (r : Blk w Q 40 #[.int .i64 c, .int .i64 d]) => result_ok 146 (enters_of Tryz.func146 Yr rfl) #[.pointer (some ⟨P, 0, none⟩), .pointer (some ⟨Q, 0, none⟩)] (a + c) (b + d) (some ⟨g, 0, none⟩) 2 2 [(a, b), (c, d)] (by rw [badS_two, h]; rfl) w (spansAt_two q) (fun w' hb => iadd_f P Q a b c d hh.1 hh.2 w' (Yk hb p) (Yk hb r)))
  rw [hv] at R ⊢
  clear hv h hh
  go_enter Tryz.func112, Tryz.ntmps112
  go_wp2_with fail
  refine (R.out _ _ _ _ bn0 bn0 bn0).mono ?_
  rintro e w1 ⟨rfl, hb1⟩
  have K1 : Below w.heap.size w w1 := Yc hb1 bl0
  have Z1 := K1.size
  have b1_2 := Yk (g := w.heap.size + 2) hb1 bn0
  (try simp only [lst, ls0, ls1] at b1_2)
  clear hb1
  obtain ⟨c1_2, f1_2, l1_2, e1_2, k1_2⟩ := Yf b1_2
  go_wp2
  exact Yb (v := .tuple #[.agg #[.int .i64 x, .int .i64 y], .int .i64 e]) (by simp [results, Tryz.results112, go_sem, *]) rfl ⟨rfl, bl1⟩
set_option maxRecDepth 100000
theorem dmoved_3 (a b t p : Int) (f : Value) (h : vS a b = false) (w : World) :
  Calls Tryz.prog 110 #[.agg #[.int .i64 a, .int .i64 b], .int .i64 t, .int .i64 p, f] w (RB w (.tuple #[.agg #[.int .i64 0, .int .i64 0], .int .i64 3])) := by
 go_enter Tryz.func110, Tryz.ntmps110
 go_wp2_with fail
 refine (svalid_any _ _ _).mono ?_
 rintro e wq1 ⟨rfl, rfl⟩
 rw [h]
 go_wp2
 exact Yb (v := .tuple #[.agg #[.int .i64 0, .int .i64 0], .int .i64 3]) (by simp [results, Tryz.results110, go_sem, *]) rfl ⟨rfl, bl0⟩
theorem dmoved_4 (a b t p : Int) (f : Value) (h : vS a b = true) (h' : inD t p = false) (w : World) :
  Calls Tryz.prog 110 #[.agg #[.int .i64 a, .int .i64 b], .int .i64 t, .int .i64 p, f] w (RB w (.tuple #[.agg #[.int .i64 0, .int .i64 0], .int .i64 4])) := by
 have r := elapsed_any t p
 rw [outV_no h'] at r
 have R := Yh r; clear r
 go_enter Tryz.func110, Tryz.ntmps110
 go_wp2_with fail
 refine (svalid_any _ _ _).mono ?_
 rintro e wq1 ⟨rfl, rfl⟩
 rw [h]
 go_wp2_with fail
 refine (R.out _).mono ?_
 rintro e w1 ⟨rfl, hb1⟩
 have K1 : Below w.heap.size w w1 := Yc hb1 bl0
 have Z1 := K1.size
 have b1_1 := Yk (g := w.heap.size + 1) hb1 bn0
 (try simp only [lst, ls0, ls1] at b1_1)
 clear hb1
 obtain ⟨c1_1, f1_1, l1_1, e1_1, k1_1⟩ := Yf b1_1
 go_wp2
 exact Yb (v := .tuple #[.agg #[.int .i64 0, .int .i64 0], .int .i64 4]) (by simp [results, Tryz.results110, go_sem, *]) rfl ⟨rfl, bl1⟩
theorem dmoved_ok (a b t p : Int) (k : FuncId) (ek : ∀ args w, (callFunc k args).run Tryz.prog w = .ok (.enter k args) w) (P : Nat) (x y e : Int) (h : vS a b = true) (h' : inD t p = true) (w : World) (hk : ∀ w', Below w.heap.size w w' → Calls Tryz.prog k #[.agg #[.int .i64 (elLo t p), .int .i64 (elHi t p)], .pointer (some ⟨P, 0, none⟩)] w' (RB w' (.tuple #[.agg #[.int .i64 x, .int .i64 y], .int .i64 e]))) :
  Calls Tryz.prog 110 #[.agg #[.int .i64 a, .int .i64 b], .int .i64 t, .int .i64 p, .func (.func k) #[] #[.pointer (some ⟨P, 0, none⟩)]] w (RB w (.tuple #[.agg #[.int .i64 x, .int .i64 y], .int .i64 e])) := by
 have r := elapsed_any t p
 rw [outV_ok h'] at r
 have R := Yh r; clear r
 have HK := Yh hk; clear hk
 generalize elLo t p = lo at *
 generalize elHi t p = hi at *
 have H := Yh h; clear h
 go_enter Tryz.func110, Tryz.ntmps110
 go_wp2_with fail
 refine (svalid_any _ _ _).mono ?_
 rintro e wq1 ⟨rfl, rfl⟩
 rw [H.out]
 go_wp2_with fail
 refine (R.out _).mono ?_
 rintro e w1 ⟨rfl, hb1⟩
 have K1 : Below w.heap.size w w1 := Yc hb1 bl0
 have Z1 := K1.size
 have b1_0 := Yk (g := w.heap.size) hb1 bn0
 (try simp only [lst, ls0, ls1] at b1_0)
 have b1_1 := Yk (g := w.heap.size + 1) hb1 bn0
 (try simp only [lst, ls0, ls1] at b1_1)
 clear hb1
 obtain ⟨c1_0, f1_0, l1_0, e1_0, k1_0⟩ := Yf b1_0
 obtain ⟨c1_1, f1_1, l1_1, e1_1, k1_1⟩ := Yf b1_1
 go_wp2_with fail
 refine (HK.out _ bl1).mono ?_
 rintro e w2 ⟨rfl, hb2⟩
 have K2 : Below w.heap.size w w2 := Yc hb2 bl1
 have Z2 := K2.size
 have b1_0' := Yk (g := w.heap.size) hb2 bn1
 (try simp only [lst, ls0, ls1] at b1_0')
 have b1_1' := Yk (g := w.heap.size + 1) hb2 bn1
 (try simp only [lst, ls0, ls1] at b1_1')
 have b2_0 := Yk (g := w1.heap.size) hb2 bn0
 (try simp only [lst, ls0, ls1] at b2_0)
 clear hb2 K1
 clear b1_0 c1_0 f1_0 l1_0 e1_0 k1_0; have b1_0 := b1_0'; clear b1_0'
 clear b1_1 c1_1 f1_1 l1_1 e1_1 k1_1; have b1_1 := b1_1'; clear b1_1'
 obtain ⟨c1_0, f1_0, l1_0, e1_0, k1_0⟩ := Yf b1_0
 obtain ⟨c1_1, f1_1, l1_1, e1_1, k1_1⟩ := Yf b1_1
 obtain ⟨c2_0, f2_0, l2_0, e2_0, k2_0⟩ := Yf b2_0
 go_wp2
 exact Yb (v := .tuple #[.agg #[.int .i64 x, .int .i64 y], .int .i64 _]) (by simp [results, Tryz.results110, go_sem, *]) rfl ⟨rfl, bl1⟩
theorem dproj_f (P : Nat) (a b c d : Int) (w : World) (hp : Blk w P 40 #[.int .i64 a, .int .i64 b]) :
  Calls Tryz.prog 111 #[.agg #[.int .i64 c, .int .i64 d], .pointer (some ⟨P, 0, none⟩)] w (RB w (opV (vS a b && vS c d) true (a + c) (b + d))) := by
 have r := iadd_all a b c d
 obtain ⟨x, y, e, hv⟩ := opV_form (vS a b && vS c d) true (a + c) (b + d)
 rw [hv] at r ⊢
 have R := Yh r; clear r hv
 obtain ⟨cp, fp, lp, ep, kp⟩ := Yf hp
 go_enter Tryz.func111, Tryz.ntmps111
 go_wp2_with fail
 refine (R.out _).mono ?_
 rintro e w1 ⟨rfl, hb1⟩
 have K1 : Below w.heap.size w w1 := Yc hb1 bl0
 have Z1 := K1.size
 have b1_1 := Yk (g := w.heap.size + 1) hb1 bn0
 (try simp only [lst, ls0, ls1] at b1_1)
 clear hb1
 obtain ⟨c1_1, f1_1, l1_1, e1_1, k1_1⟩ := Yf b1_1
 go_wp2
 exact Yb (v := .tuple #[.agg #[.int .i64 x, .int .i64 y], .int .i64 _]) (by simp [results, Tryz.results111, go_sem, *]) rfl ⟨rfl, bl1⟩
theorem dproj_op (a b t p : Int) (w : World) :
  Calls Tryz.prog 73 #[.agg #[.int .i64 a, .int .i64 b], .int .i64 t, .int .i64 p] w (RB w (opV (vS a b) (inD t p) (a + elLo t p) (b + elHi t p))) := by
 rcases h : vS a b
 ·rw [opV_3]
  have R := Yh (fun f w => dmoved_3 a b t p f h w)
  go_enter Tryz.func73, Tryz.ntmps73
  go_wp2_with fail
  refine (R.out _ _).mono ?_
  rintro e w1 ⟨rfl, hb1⟩
  have K1 : Below w.heap.size w w1 := Yc hb1 bl0
  have Z1 := K1.size
  have b1_1 := Yk (g := w.heap.size + 1) hb1 bn0
  (try simp only [lst, ls0, ls1] at b1_1)
  clear hb1
  obtain ⟨c1_1, f1_1, l1_1, e1_1, k1_1⟩ := Yf b1_1
  go_wp2
  exact Yb (v := .tuple #[.agg #[.int .i64 0, .int .i64 0], .int .i64 3]) (by simp [results, Tryz.results73, go_sem, *]) rfl ⟨rfl, bl1⟩
 rcases h' : inD t p
 ·rw [opV_4]
  have R := Yh (fun f w => dmoved_4 a b t p f h h' w)
  go_enter Tryz.func73, Tryz.ntmps73
  go_wp2_with fail
  refine (R.out _ _).mono ?_
  rintro e w1 ⟨rfl, hb1⟩
  have K1 : Below w.heap.size w w1 := Yc hb1 bl0
  have Z1 := K1.size
  have b1_1 := Yk (g := w.heap.size + 1) hb1 bn0
  (try simp only [lst, ls0, ls1] at b1_1)
  clear hb1
  obtain ⟨c1_1, f1_1, l1_1, e1_1, k1_1⟩ := Yf b1_1
  go_wp2
  exact Yb (v := .tuple #[.agg #[.int .i64 0, .int .i64 0], .int .i64 4]) (by simp [results, Tryz.results73, go_sem, *]) rfl ⟨rfl, bl1⟩
 ·rw [opV_ok]
  obtain ⟨d0, d1, p0, p1⟩ := inD_true.1 h'
  have hs := el_span d0 p0 p1 d1
  obtain ⟨x, y, e, hv⟩ := mkS_form (a + elLo t p) (b + elHi t p)
  have q := fun P w hp => dproj_f P a b (elLo t p) (elHi t p) w hp
  rw [h, hs, show (true && true) = true from rfl, opV_ok, hv] at q
  have R := Yh (fun P w hp => dmoved_ok a b t p 111 (enters_of Tryz.func111 Yr rfl) P x y e h h' w (fun w' hb => q P w' (Yk hb hp)))
  rw [hv]
  clear hv q h h' hs d0 d1 p0 p1
  go_enter Tryz.func73, Tryz.ntmps73
  go_wp2_with fail
  refine (R.out _ _ bn0).mono ?_
  rintro e w1 ⟨rfl, hb1⟩
  have K1 : Below w.heap.size w w1 := Yc hb1 bl0
  have Z1 := K1.size
  have b1_1 := Yk (g := w.heap.size + 1) hb1 bn0
  (try simp only [lst, ls0, ls1] at b1_1)
  clear hb1
  obtain ⟨c1_1, f1_1, l1_1, e1_1, k1_1⟩ := Yf b1_1
  go_wp2
  exact Yb (v := .tuple #[.agg #[.int .i64 x, .int .i64 y], .int .i64 _]) (by simp [results, Tryz.results73, go_sem, *]) rfl ⟨rfl, bl1⟩
set_option maxHeartbeats 16000000
theorem counted_any (n : Int) (w : World) :
  Calls Tryz.prog 72 #[.int .i64 n] w fun e w' => e = .returned (.bool (ctB n)) ∧ w = w' := by
 by_cases h : 0 ≤ n
 ·by_cases h2 : n ≤ 1152921504606846976
  ·rw [show ctB n = true by simp [ctB, h, h2]]
   go_enter Tryz.func72, Tryz.ntmps72
   go_wp2; go_ret; exact ⟨rfl, rfl⟩
  ·rw [show ctB n = false by simp [ctB, h, h2]]
   go_enter Tryz.func72, Tryz.ntmps72
   go_wp2; go_ret; exact ⟨rfl, rfl⟩
 ·rw [show ctB n = false by simp [ctB, h]]
  go_enter Tryz.func72, Tryz.ntmps72
  go_wp2; go_ret; exact ⟨rfl, rfl⟩
theorem ikcheck_any (at_ lo hi ppb le re : Int) (w : World) :
  Calls Tryz.prog 48 #[.agg #[.int .i64 at_, .int .i64 lo, .int .i64 hi, .int .i64 ppb, .int .i64 le, .int .i64 re]] w (RB w (.int .i64 (kE at_ lo hi ppb le re))) := by
 rcases h : vS lo hi
 ·rw [kE_3 h]
  go_enter Tryz.func48, Tryz.ntmps48
  go_wp2_with fail
  refine (svalid_any _ _ _).mono ?_
  rintro e wq1 ⟨rfl, rfl⟩
  rw [h]
  go_wp2
  go_ret
  exact ⟨rfl, bl0⟩
 rcases h1 : vT at_
 ·rw [kE_4 h (by simp [h1])]
  go_enter Tryz.func48, Tryz.ntmps48
  go_wp2_with fail
  refine (svalid_any _ _ _).mono ?_
  rintro e wq2 ⟨rfl, rfl⟩
  rw [h]
  go_wp2_with fail
  refine (tvalid_any _ _).mono ?_
  rintro e wq3 ⟨rfl, rfl⟩
  rw [h1]
  go_wp2
  go_ret
  exact ⟨rfl, bl0⟩
 by_cases h2 : ppb < 0
 ·rw [kE_4 h Yo]
  go_enter Tryz.func48, Tryz.ntmps48
  go_wp2_with fail
  refine (svalid_any _ _ _).mono ?_
  rintro e wq4 ⟨rfl, rfl⟩
  rw [h]
  go_wp2_with fail
  refine (tvalid_any _ _).mono ?_
  rintro e wq5 ⟨rfl, rfl⟩
  rw [h1]
  go_wp2
  go_ret
  exact ⟨rfl, bl0⟩
 by_cases h3 : 1000000 < ppb
 ·rw [kE_4 h Yo]
  go_enter Tryz.func48, Tryz.ntmps48
  go_wp2_with fail
  refine (svalid_any _ _ _).mono ?_
  rintro e wq6 ⟨rfl, rfl⟩
  rw [h]
  go_wp2_with fail
  refine (tvalid_any _ _).mono ?_
  rintro e wq7 ⟨rfl, rfl⟩
  rw [h1]
  go_wp2
  go_ret
  exact ⟨rfl, bl0⟩
 rcases h4 : ctB le
 ·rw [kE_4 h (by simp [h4])]
  go_enter Tryz.func48, Tryz.ntmps48
  go_wp2_with fail
  refine (svalid_any _ _ _).mono ?_
  rintro e wq8 ⟨rfl, rfl⟩
  rw [h]
  go_wp2_with fail
  refine (tvalid_any _ _).mono ?_
  rintro e wq9 ⟨rfl, rfl⟩
  rw [h1]
  go_wp2_with fail
  refine (counted_any _ _).mono ?_
  rintro e wq10 ⟨rfl, rfl⟩
  rw [h4]
  go_wp2
  go_ret
  exact ⟨rfl, bl0⟩
 rcases h5 : ctB re
 ·rw [kE_4 h (by simp [h5])]
  go_enter Tryz.func48, Tryz.ntmps48
  go_wp2_with fail
  refine (svalid_any _ _ _).mono ?_
  rintro e wq11 ⟨rfl, rfl⟩
  rw [h]
  go_wp2_with fail
  refine (tvalid_any _ _).mono ?_
  rintro e wq12 ⟨rfl, rfl⟩
  rw [h1]
  go_wp2_with fail
  refine (counted_any _ _).mono ?_
  rintro e wq13 ⟨rfl, rfl⟩
  rw [h4]
  go_wp2_with fail
  refine (counted_any _ _).mono ?_
  rintro e wq14 ⟨rfl, rfl⟩
  rw [h5]
  go_wp2
  go_ret
  exact ⟨rfl, bl0⟩
 ·rw [kE_0 h h1 Yo Yo h4 h5]
  go_enter Tryz.func48, Tryz.ntmps48
  go_wp2_with fail
  refine (svalid_any _ _ _).mono ?_
  rintro e wq15 ⟨rfl, rfl⟩
  rw [h]
  go_wp2_with fail
  refine (tvalid_any _ _).mono ?_
  rintro e wq16 ⟨rfl, rfl⟩
  rw [h1]
  go_wp2_with fail
  refine (counted_any _ _).mono ?_
  rintro e wq17 ⟨rfl, rfl⟩
  rw [h4]
  go_wp2_with fail
  refine (counted_any _ _).mono ?_
  rintro e wq18 ⟨rfl, rfl⟩
  rw [h5]
  go_wp2
  go_ret
  exact ⟨rfl, bl0⟩
theorem ibegin_any (at_ lo hi ppb : Int) (w : World) :
  Calls Tryz.prog 21 #[.int .i64 at_, .agg #[.int .i64 lo, .int .i64 hi], .int .i64 ppb] w (RB w (begV at_ lo hi ppb)) := by
 have r := ikcheck_any at_ lo hi ppb 0 0
 by_cases h : kE at_ lo hi ppb 0 0 = 0
 ·rw [begV_ok h]
  rw [h] at r
  have R := Yh r; clear r
  go_enter Tryz.func21, Tryz.ntmps21
  go_wp2_with fail
  refine (R.out _).mono ?_
  rintro e w1 ⟨rfl, hb1⟩
  have K1 : Below w.heap.size w w1 := Yc hb1 bl0
  have Z1 := K1.size
  have b1_1 := Yk (g := w.heap.size + 1) hb1 bn0
  (try simp only [lst, ls0, ls1] at b1_1)
  have b1_2 := Yk (g := w.heap.size + 2) hb1 bn0
  (try simp only [lst, ls0, ls1] at b1_2)
  clear hb1
  obtain ⟨c1_1, f1_1, l1_1, e1_1, k1_1⟩ := Yf b1_1
  obtain ⟨c1_2, f1_2, l1_2, e1_2, k1_2⟩ := Yf b1_2
  go_wp2
  exact Yb (v := .tuple #[.agg #[.int .i64 at_, .int .i64 lo, .int .i64 hi, .int .i64 ppb, .int .i64 0, .int .i64 0], .int .i64 0]) (by simp [results, Tryz.results21, go_sem, *]) rfl ⟨rfl, bl1⟩
 ·rw [begV_e h]
  generalize kE at_ lo hi ppb 0 0 = x at *
  have hx : (x != 0) = true := by simpa using h
  have R := Yh r; clear r h
  go_enter Tryz.func21, Tryz.ntmps21
  go_wp2_with fail
  refine (R.out _).mono ?_
  rintro e w1 ⟨rfl, hb1⟩
  have K1 : Below w.heap.size w w1 := Yc hb1 bl0
  have Z1 := K1.size
  have b1_1 := Yk (g := w.heap.size + 1) hb1 bn0
  (try simp only [lst, ls0, ls1] at b1_1)
  have b1_2 := Yk (g := w.heap.size + 2) hb1 bn0
  (try simp only [lst, ls0, ls1] at b1_2)
  clear hb1
  obtain ⟨c1_1, f1_1, l1_1, e1_1, k1_1⟩ := Yf b1_1
  obtain ⟨c1_2, f1_2, l1_2, e1_2, k1_2⟩ := Yf b1_2
  go_wp2
  exact Yb (v := .tuple #[.agg #[.int .i64 0, .int .i64 0, .int .i64 0, .int .i64 0, .int .i64 0, .int .i64 0], .int .i64 x]) (by simp [results, Tryz.results21, go_sem, *]) rfl ⟨rfl, bl1⟩
theorem inow_any (at_ lo hi ppb le re u : Int) (w : World) :
  Calls Tryz.prog 49 #[.agg #[.int .i64 at_, .int .i64 lo, .int .i64 hi, .int .i64 ppb, .int .i64 le, .int .i64 re], .int .i64 u] w (RB w (V3 (nowT at_ lo hi ppb le re u))) := by
 have r := ikcheck_any at_ lo hi ppb le re
 by_cases h : kE at_ lo hi ppb le re = 0
 ·rw [h] at r
  have R := Yh r; clear r
  by_cases h1 : u < at_
  ·rw [nowT_12 h h1]
   go_enter Tryz.func49, Tryz.ntmps49
   go_wp2_with fail
   refine (R.out _).mono ?_
   rintro e w1 ⟨rfl, hb1⟩
   have K1 : Below w.heap.size w w1 := Yc hb1 bl0
   have Z1 := K1.size
   have b1_0 := Yk (g := w.heap.size) hb1 bn0
   (try simp only [lst, ls0, ls1] at b1_0)
   have b1_1 := Yk (g := w.heap.size + 1) hb1 bn0
   (try simp only [lst, ls0, ls1] at b1_1)
   clear hb1
   obtain ⟨c1_0, f1_0, l1_0, e1_0, k1_0⟩ := Yf b1_0
   obtain ⟨c1_1, f1_1, l1_1, e1_1, k1_1⟩ := Yf b1_1
   go_wp2
   exact Yb (v := .tuple #[.agg #[.int .i64 0, .int .i64 0], .int .i64 12]) (by simp [results, Tryz.results49, go_sem, *]) rfl ⟨rfl, bl1⟩
  rcases h2 : vT u
  ·rw [nowT_4 h h1 h2]
   go_enter Tryz.func49, Tryz.ntmps49
   go_wp2_with fail
   refine (R.out _).mono ?_
   rintro e w1 ⟨rfl, hb1⟩
   have K1 : Below w.heap.size w w1 := Yc hb1 bl0
   have Z1 := K1.size
   have b1_0 := Yk (g := w.heap.size) hb1 bn0
   (try simp only [lst, ls0, ls1] at b1_0)
   have b1_1 := Yk (g := w.heap.size + 1) hb1 bn0
   (try simp only [lst, ls0, ls1] at b1_1)
   clear hb1
   obtain ⟨c1_0, f1_0, l1_0, e1_0, k1_0⟩ := Yf b1_0
   obtain ⟨c1_1, f1_1, l1_1, e1_1, k1_1⟩ := Yf b1_1
   go_wp2_with fail
   refine (tvalid_any _ _).mono ?_
   rintro e wq1 ⟨rfl, rfl⟩
   rw [h2]
   go_wp2
   exact Yb (v := .tuple #[.agg #[.int .i64 0, .int .i64 0], .int .i64 4]) (by simp [results, Tryz.results49, go_sem, *]) rfl ⟨rfl, bl1⟩
  ·obtain ⟨q0, q1, q2, q3, q4, q5⟩ := kE_all h
   rw [nowT_ok h h1 h2]
   have q := dproj_op lo hi (u - at_) ppb
   rw [opV_opT] at q
   have v1 := vT_true.1 q1; have v2 := vT_true.1 h2
   generalize opT (vS lo hi) (inD (u - at_) ppb) (lo + elLo (u - at_) ppb) (hi + elHi (u - at_) ppb) = X at *
   obtain ⟨x, y, e⟩ := X
   unfold V3 at q ⊢
   dsimp only at q ⊢
   have Q := Yh q; clear q h q0 q1 q4 q5
   have H2 := Yh h2; clear h2
   go_enter Tryz.func49, Tryz.ntmps49
   go_wp2_with fail
   refine (R.out _).mono ?_
   rintro e w1 ⟨rfl, hb1⟩
   have K1 : Below w.heap.size w w1 := Yc hb1 bl0
   have Z1 := K1.size
   have b1_0 := Yk (g := w.heap.size) hb1 bn0
   (try simp only [lst, ls0, ls1] at b1_0)
   have b1_1 := Yk (g := w.heap.size + 1) hb1 bn0
   (try simp only [lst, ls0, ls1] at b1_1)
   clear hb1
   obtain ⟨c1_0, f1_0, l1_0, e1_0, k1_0⟩ := Yf b1_0
   obtain ⟨c1_1, f1_1, l1_1, e1_1, k1_1⟩ := Yf b1_1
   go_wp2_with fail
   refine (tvalid_any _ _).mono ?_
   rintro e wq1 ⟨rfl, rfl⟩
   rw [H2.out]
   go_wp2_with fail
   refine (Q.out _).mono ?_
   rintro e w2 ⟨rfl, hb2⟩
   have K2 : Below w.heap.size w w2 := Yc hb2 bl1
   have Z2 := K2.size
   have b1_0' := Yk (g := w.heap.size) hb2 bn1
   (try simp only [lst, ls0, ls1] at b1_0')
   have b1_1' := Yk (g := w.heap.size + 1) hb2 bn1
   (try simp only [lst, ls0, ls1] at b1_1')
   clear hb2 K1
   clear b1_0 c1_0 f1_0 l1_0 e1_0 k1_0; have b1_0 := b1_0'; clear b1_0'
   clear b1_1 c1_1 f1_1 l1_1 e1_1 k1_1; have b1_1 := b1_1'; clear b1_1'
   obtain ⟨c1_0, f1_0, l1_0, e1_0, k1_0⟩ := Yf b1_0
   obtain ⟨c1_1, f1_1, l1_1, e1_1, k1_1⟩ := Yf b1_1
   go_wp2
   exact Yb (v := .tuple #[.agg #[.int .i64 x, .int .i64 y], .int .i64 e]) (by simp [results, Tryz.results49, go_sem, *]) rfl ⟨rfl, bl1⟩
 ·rw [nowT_e h]
  generalize kE at_ lo hi ppb le re = x at *
  have hx : (x != 0) = true := by simpa using h
  have R := Yh r; clear r h
  go_enter Tryz.func49, Tryz.ntmps49
  go_wp2_with fail
  refine (R.out _).mono ?_
  rintro e w1 ⟨rfl, hb1⟩
  have K1 : Below w.heap.size w w1 := Yc hb1 bl0
  have Z1 := K1.size
  have b1_0 := Yk (g := w.heap.size) hb1 bn0
  (try simp only [lst, ls0, ls1] at b1_0)
  have b1_1 := Yk (g := w.heap.size + 1) hb1 bn0
  (try simp only [lst, ls0, ls1] at b1_1)
  clear hb1
  obtain ⟨c1_0, f1_0, l1_0, e1_0, k1_0⟩ := Yf b1_0
  obtain ⟨c1_1, f1_1, l1_1, e1_1, k1_1⟩ := Yf b1_1
  go_wp2
  exact Yb (v := .tuple #[.agg #[.int .i64 0, .int .i64 0], .int .i64 x]) (by simp [results, Tryz.results49, go_sem, *]) rfl ⟨rfl, bl1⟩
theorem ilearn_any (at_ lo hi ppb le re u c d : Int) (w : World) :
  Calls Tryz.prog 22 #[.agg #[.int .i64 at_, .int .i64 lo, .int .i64 hi, .int .i64 ppb, .int .i64 le, .int .i64 re], .int .i64 u, .agg #[.int .i64 c, .int .i64 d]] w (RB w (lrn at_ lo hi ppb le re u c d).V) := by
 have r := inow_any at_ lo hi ppb le re u
 rcases hn : nowT at_ lo hi ppb le re u with ⟨x, y, e⟩
 rw [hn] at r
 unfold V3 at r
 dsimp only at r
 by_cases h : e = 0
 ·subst h
  have hk := kE_all (now_0 hn)
  have R := Yh r; clear r
  rcases h1 : vS c d
  ·rw [lrn_3 hn h1]
   clear hn hk
   go_enter Tryz.func22, Tryz.ntmps22
   go_wp2_with fail
   refine (R.out _).mono ?_
   rintro e w1 ⟨rfl, hb1⟩
   have K1 : Below w.heap.size w w1 := Yc hb1 bl0
   have Z1 := K1.size
   have b1_0 := Yk (g := w.heap.size) hb1 bn0
   (try simp only [lst, ls0, ls1] at b1_0)
   have b1_1 := Yk (g := w.heap.size + 1) hb1 bn0
   (try simp only [lst, ls0, ls1] at b1_1)
   have b1_2 := Yk (g := w.heap.size + 2) hb1 bn0
   (try simp only [lst, ls0, ls1] at b1_2)
   clear hb1
   obtain ⟨c1_0, f1_0, l1_0, e1_0, k1_0⟩ := Yf b1_0
   obtain ⟨c1_1, f1_1, l1_1, e1_1, k1_1⟩ := Yf b1_1
   obtain ⟨c1_2, f1_2, l1_2, e1_2, k1_2⟩ := Yf b1_2
   go_wp2_with fail
   refine (svalid_any _ _ _).mono ?_
   rintro e wq1 ⟨rfl, rfl⟩
   rw [h1]
   go_wp2
   exact Yb (v := .tuple #[.agg #[.int .i64 0, .int .i64 0, .int .i64 0, .int .i64 0, .int .i64 0, .int .i64 0], .bool false, .int .i64 3]) (by simp [results, Tryz.results22, go_sem, *]) rfl ⟨rfl, bl1⟩
  have m := imeet_all x y c d
  rcases hm : mtB x y c d
  ·rw [lrn_no hn h1 hm]
   rw [mtLo_no hm, mtHi_no hm, hm] at m
   have Q := Yh m; clear m
   have c5 : 0 ≤ re ∧ re ≤ 1152921504606846976 := by simpa [ctB] using hk.2.2.2.2.2
   clear hn hk hm
   have H1 := Yh h1; clear h1
   go_enter Tryz.func22, Tryz.ntmps22
   go_wp2_with fail
   refine (R.out _).mono ?_
   rintro e w1 ⟨rfl, hb1⟩
   have K1 : Below w.heap.size w w1 := Yc hb1 bl0
   have Z1 := K1.size
   have b1_0 := Yk (g := w.heap.size) hb1 bn0
   (try simp only [lst, ls0, ls1] at b1_0)
   have b1_1 := Yk (g := w.heap.size + 1) hb1 bn0
   (try simp only [lst, ls0, ls1] at b1_1)
   have b1_2 := Yk (g := w.heap.size + 2) hb1 bn0
   (try simp only [lst, ls0, ls1] at b1_2)
   clear hb1
   obtain ⟨c1_0, f1_0, l1_0, e1_0, k1_0⟩ := Yf b1_0
   obtain ⟨c1_1, f1_1, l1_1, e1_1, k1_1⟩ := Yf b1_1
   obtain ⟨c1_2, f1_2, l1_2, e1_2, k1_2⟩ := Yf b1_2
   go_wp2_with fail
   refine (svalid_any _ _ _).mono ?_
   rintro e wq1 ⟨rfl, rfl⟩
   rw [H1.out]
   go_wp2_with fail
   refine (Q.out _).mono ?_
   rintro e w2 ⟨rfl, hb2⟩
   have K2 : Below w.heap.size w w2 := Yc hb2 bl1
   have Z2 := K2.size
   have b1_0' := Yk (g := w.heap.size) hb2 bn1
   (try simp only [lst, ls0, ls1] at b1_0')
   have b1_1' := Yk (g := w.heap.size + 1) hb2 bn1
   (try simp only [lst, ls0, ls1] at b1_1')
   have b1_2' := Yk (g := w.heap.size + 2) hb2 bn1
   (try simp only [lst, ls0, ls1] at b1_2')
   have b2_0 := Yk (g := w1.heap.size) hb2 bn0
   (try simp only [lst, ls0, ls1] at b2_0)
   clear hb2 K1
   clear b1_0 c1_0 f1_0 l1_0 e1_0 k1_0; have b1_0 := b1_0'; clear b1_0'
   clear b1_1 c1_1 f1_1 l1_1 e1_1 k1_1; have b1_1 := b1_1'; clear b1_1'
   clear b1_2 c1_2 f1_2 l1_2 e1_2 k1_2; have b1_2 := b1_2'; clear b1_2'
   obtain ⟨c1_0, f1_0, l1_0, e1_0, k1_0⟩ := Yf b1_0
   obtain ⟨c1_1, f1_1, l1_1, e1_1, k1_1⟩ := Yf b1_1
   obtain ⟨c1_2, f1_2, l1_2, e1_2, k1_2⟩ := Yf b1_2
   obtain ⟨c2_0, f2_0, l2_0, e2_0, k2_0⟩ := Yf b2_0
   go_wp2
   exact Yb (v := .tuple #[.agg #[.int .i64 at_, .int .i64 lo, .int .i64 hi, .int .i64 ppb, .int .i64 le, .int .i64 (min (re + 1) 1152921504606846976)], .bool false, .int .i64 0]) (by simp [results, Tryz.results22, go_sem, *]) rfl ⟨rfl, bl1⟩
  ·rw [lrn_yes hn h1 hm]
   rw [mtLo_yes hm, mtHi_yes hm, hm] at m
   have Q := Yh m; clear m
   have c5 : 0 ≤ le ∧ le ≤ 1152921504606846976 := by simpa [ctB] using hk.2.2.2.2.1
   clear hn hk hm
   have H1 := Yh h1; clear h1
   generalize max x c = X at *
   generalize min y d = Y at *
   go_enter Tryz.func22, Tryz.ntmps22
   go_wp2_with fail
   refine (R.out _).mono ?_
   rintro e w1 ⟨rfl, hb1⟩
   have K1 : Below w.heap.size w w1 := Yc hb1 bl0
   have Z1 := K1.size
   have b1_0 := Yk (g := w.heap.size) hb1 bn0
   (try simp only [lst, ls0, ls1] at b1_0)
   have b1_1 := Yk (g := w.heap.size + 1) hb1 bn0
   (try simp only [lst, ls0, ls1] at b1_1)
   have b1_2 := Yk (g := w.heap.size + 2) hb1 bn0
   (try simp only [lst, ls0, ls1] at b1_2)
   clear hb1
   obtain ⟨c1_0, f1_0, l1_0, e1_0, k1_0⟩ := Yf b1_0
   obtain ⟨c1_1, f1_1, l1_1, e1_1, k1_1⟩ := Yf b1_1
   obtain ⟨c1_2, f1_2, l1_2, e1_2, k1_2⟩ := Yf b1_2
   go_wp2_with fail
   refine (svalid_any _ _ _).mono ?_
   rintro e wq1 ⟨rfl, rfl⟩
   rw [H1.out]
   have ew : IntKind.i64.wrap (le + 1) = le + 1 := IntWalk.i64_in _ Yo
   go_wp2_with fail
   refine (Q.out _).mono ?_
   rintro e w2 ⟨rfl, hb2⟩
   have K2 : Below w.heap.size w w2 := Yc hb2 bl1
   have Z2 := K2.size
   have b1_0' := Yk (g := w.heap.size) hb2 bn1
   (try simp only [lst, ls0, ls1] at b1_0')
   have b1_1' := Yk (g := w.heap.size + 1) hb2 bn1
   (try simp only [lst, ls0, ls1] at b1_1')
   have b1_2' := Yk (g := w.heap.size + 2) hb2 bn1
   (try simp only [lst, ls0, ls1] at b1_2')
   have b2_0 := Yk (g := w1.heap.size) hb2 bn0
   (try simp only [lst, ls0, ls1] at b2_0)
   clear hb2 K1
   clear b1_0 c1_0 f1_0 l1_0 e1_0 k1_0; have b1_0 := b1_0'; clear b1_0'
   clear b1_1 c1_1 f1_1 l1_1 e1_1 k1_1; have b1_1 := b1_1'; clear b1_1'
   clear b1_2 c1_2 f1_2 l1_2 e1_2 k1_2; have b1_2 := b1_2'; clear b1_2'
   obtain ⟨c1_0, f1_0, l1_0, e1_0, k1_0⟩ := Yf b1_0
   obtain ⟨c1_1, f1_1, l1_1, e1_1, k1_1⟩ := Yf b1_1
   obtain ⟨c1_2, f1_2, l1_2, e1_2, k1_2⟩ := Yf b1_2
   obtain ⟨c2_0, f2_0, l2_0, e2_0, k2_0⟩ := Yf b2_0
   go_wp2_with fail
   go_region
   all_goals
    go_wp2
    exact Yb (v := .tuple #[.agg #[.int .i64 u, .int .i64 X, .int .i64 Y, .int .i64 ppb, .int .i64 (min (le + 1) 1152921504606846976), .int .i64 re], .bool true, .int .i64 0]) (by simp [results, Tryz.results22, go_sem, *]) rfl ⟨rfl, bl1⟩
 ·rw [lrn_e hn h]
  have hx : (e != 0) = true := by simpa using h
  have R := Yh r; clear r h hn
  go_enter Tryz.func22, Tryz.ntmps22
  go_wp2_with fail
  refine (R.out _).mono ?_
  rintro e w1 ⟨rfl, hb1⟩
  have K1 : Below w.heap.size w w1 := Yc hb1 bl0
  have Z1 := K1.size
  have b1_0 := Yk (g := w.heap.size) hb1 bn0
  (try simp only [lst, ls0, ls1] at b1_0)
  have b1_1 := Yk (g := w.heap.size + 1) hb1 bn0
  (try simp only [lst, ls0, ls1] at b1_1)
  have b1_2 := Yk (g := w.heap.size + 2) hb1 bn0
  (try simp only [lst, ls0, ls1] at b1_2)
  clear hb1
  obtain ⟨c1_0, f1_0, l1_0, e1_0, k1_0⟩ := Yf b1_0
  obtain ⟨c1_1, f1_1, l1_1, e1_1, k1_1⟩ := Yf b1_1
  obtain ⟨c1_2, f1_2, l1_2, e1_2, k1_2⟩ := Yf b1_2
  go_wp2
  exact Yb (v := .tuple #[.agg #[.int .i64 0, .int .i64 0, .int .i64 0, .int .i64 0, .int .i64 0, .int .i64 0], .bool false, .int .i64 e]) (by simp [results, Tryz.results22, go_sem, *]) rfl ⟨rfl, bl1⟩
end Go.Proofs.YtiinmhfolfgobaaGreatDoor
