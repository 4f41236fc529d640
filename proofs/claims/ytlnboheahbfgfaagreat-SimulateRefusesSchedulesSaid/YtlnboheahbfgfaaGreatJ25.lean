/- Texts joined: Qr, El, KnownP -/
import Derived.Test.YtlnboheahbfgfaaGreatJ21
import Derived.Test.YtlnboheahbfgfaaGreatJ24
import Derived.Test.YtlnboheahbfgfaaGreatJ17
import Derived.Test.YtlnboheahbfgfaaGreatJ4
namespace Go.Proofs.YtlnboheahbfgfaaGreat
open Go.RowKit Go.Shelf Go.Sort
set_option linter.unusedSimpArgs false
set_option linter.unusedVariables false

set_option maxRecDepth 100000 in
set_option maxHeartbeats 2000000 in
theorem rqcheck_any (A : Option Addr) (len cap : Nat) (zs : List (Int × Int)) (f : Int) (w : World) (h : SpansAt w A len zs) :
  Calls Tryz.prog 151 #[.slice A len cap, .int .i64 f] w (RB w (.int .i64 (qE zs f))) := by
 obtain rfl := h.1
 have R := hYd (fun W (hW : Below w.heap.size w W) => rswcheck_any A zs.length cap zs W (h.below hW))
 clear h
 obtain ⟨ce, hce⟩ : ∃ ce, ckE zs = ce := ⟨_, rfl⟩
 rw [hce] at R
 by_cases h0 : ce = 0
 ·subst h0
  have hl := (ckE_ok hce).1
  by_cases h1 : f < 0 ∨ (zs.length : Int) ≤ 2 * f
  ·rw [qE_range hce h1]
   have HCE := hYd hce; clear hce
   by_cases h2 : f < 0
   ·have g1 : decide (f < 0) = true := decide_eq_true h2
    clear h1
    go_enter Tryz.func151, Tryz.ntmps151
    go_wp2_with fail
    refine (R.out _ bl0).mono ?_
    rintro e w1 ⟨rfl, hb1⟩
    have K1 : Below w.heap.size w w1 := kept_call hb1 bl0
    have Z1 := K1.size
    clear hb1
    go_wp2
    go_ret
    exact ⟨rfl, bl1⟩
   ·have g1 : decide (f < 0) = false := decide_eq_false h2
    have h3 : (zs.length : Int) ≤ 2 * f := by omega
    clear h1
    by_cases h4 : (zs.length : Int) ≤ f
    ·have g2 : decide ((zs.length : Int) ≤ f) = true := decide_eq_true h4
     go_enter Tryz.func151, Tryz.ntmps151
     go_wp2_with fail
     refine (R.out _ bl0).mono ?_
     rintro e w1 ⟨rfl, hb1⟩
     have K1 : Below w.heap.size w w1 := kept_call hb1 bl0
     have Z1 := K1.size
     clear hb1
     go_wp2
     go_ret
     exact ⟨rfl, bl1⟩
    ·have g2 : decide ((zs.length : Int) ≤ f) = false := decide_eq_false h4
     have wf : IntKind.i64.wrap (2 * f) = 2 * f := IntWalk.i64_in _ (by omega)
     have g3 : decide ((zs.length : Int) ≤ 2 * f) = true := decide_eq_true h3
     clear h3
     go_enter Tryz.func151, Tryz.ntmps151
     go_wp2_with fail
     refine (R.out _ bl0).mono ?_
     rintro e w1 ⟨rfl, hb1⟩
     have K1 : Below w.heap.size w w1 := kept_call hb1 bl0
     have Z1 := K1.size
     clear hb1
     go_wp2
     go_ret
     exact ⟨rfl, bl1⟩
  ·rw [qE_ok hce h1]
   have HCE := hYd hce; clear hce
   have g1 : decide (f < 0) = false := decide_eq_false (by omega)
   have g2 : decide ((zs.length : Int) ≤ f) = false := decide_eq_false (by omega)
   have wf : IntKind.i64.wrap (2 * f) = 2 * f := IntWalk.i64_in _ (by omega)
   have g3 : decide ((zs.length : Int) ≤ 2 * f) = false := decide_eq_false (by omega)
   clear h1
   go_enter Tryz.func151, Tryz.ntmps151
   go_wp2_with fail
   refine (R.out _ bl0).mono ?_
   rintro e w1 ⟨rfl, hb1⟩
   have K1 : Below w.heap.size w w1 := kept_call hb1 bl0
   have Z1 := K1.size
   clear hb1
   go_wp2
   go_ret
   exact ⟨rfl, bl1⟩
 ·rw [qE_bad (by rw [hce]; exact h0), hce]
  have HCE := hYd hce; clear hce
  have g0 : decide (ce = 0) = false := decide_eq_false h0
  have g0b : (ce == 0) = false := by rw [beq_eq_false_iff_ne]; exact h0
  go_enter Tryz.func151, Tryz.ntmps151
  go_wp2_with fail
  refine (R.out _ bl0).mono ?_
  rintro e w1 ⟨rfl, hb1⟩
  have K1 : Below w.heap.size w w1 := kept_call hb1 bl0
  have Z1 := K1.size
  clear hb1
  go_wp2
  go_ret
  exact ⟨rfl, bl1⟩
set_option maxRecDepth 100000 in
set_option maxHeartbeats 2000000 in
theorem rhull_any (A : Option Addr) (len cap : Nat) (zs : List (Int × Int)) (n : Int) (hc : ckE zs = 0) (hn : 1 ≤ n) (w : World) (h : SpansAt w A len zs) :
  Calls Tryz.prog 152 #[.slice A len cap, .int .i64 n] w (HuR w zs n hullE) := by
 have hle := lE_ok hc (show ¬ n < 1 by omega)
 have R := hYd (fun W (hW : Below w.heap.size w W) => rLeast_any A len cap zs n W (h.below hW))
 have HLE := hYd hle; clear h hle hc
 go_enter Tryz.func152, Tryz.ntmps152
 go_wp2_with fail
 refine (R.out _ bl0).mono ?_
 rintro e w1 ⟨A2, c2, us, rfl, hsp, hlx, hb1⟩
 have K1 : Below w.heap.size w w1 := kept_call hb1 bl0
 have Z1 := K1.size
 have b1_0 := Blk.keep (g := w.heap.size) hb1 bn0
 (try simp only [lst, ls0, ls1] at b1_0)
 clear hb1
 obtain ⟨c1_0, f1_0, l1_0, e1_0, k1_0⟩ := Blk.facts b1_0
 have o1_0 := l1_0
 rw [HLE.out]
 have hul := hsp.2.1
 by_cases hu : us = []
 ·subst hu
  simp only [List.length_nil]
  go_wp2
  exact bodyPost_ret (v := hullE 0 0 false) (by simp [results, Tryz.results152, go_sem, *, hullE]) rfl ⟨0, 0, false, rfl, ⟨[], hlx, .inl ⟨rfl, rfl, rfl, rfl⟩⟩, bl1⟩
 ·have hl0 : 0 < us.length := List.length_pos_iff.2 hu
  have g0 : decide ((us.length : Int) = 0) = false := decide_eq_false (by omega)
  have g0b : ((us.length : Int) == 0) = false := by rw [beq_eq_false_iff_ne]; omega
  have g0n : decide (us.length = 0) = false := decide_eq_false (by omega)
  have g0nb : (us.length == 0) = false := by rw [beq_eq_false_iff_ne]; omega
  have gu : us ≠ [] := hu
  obtain ⟨r, hr⟩ : ∃ r : Nat, us.length = r + 1 := ⟨us.length - 1, by omega⟩
  have wr1 : IntKind.i64.wrap ((us.length : Int) - 1) = (r : Int) := by rw [IntWalk.i64_in _ (by omega)]; omega
  obtain ⟨bl, off, rfl, hbl, hcs⟩ := hsp.2.2 hl0
  have e0 : w1.cell? ⟨bl, off, none⟩ = some (.int .i64 (us.getD 0 (0, 0)).1) := by simpa using (hcs 0 hl0).1
  have e1 := (hcs r (by omega)).2
  clear hcs hsp
  have hz1 : (lastS us).2 = (us.getD r (0, 0)).2 := by unfold lastS; rw [show us.length - 1 = r by omega]
  obtain ⟨x, hx⟩ : ∃ x, (us.getD 0 (0, 0)).1 = x := ⟨_, rfl⟩
  obtain ⟨y, hy⟩ : ∃ y, (us.getD r (0, 0)).2 = y := ⟨_, rfl⟩
  rw [hx] at e0
  rw [hy] at e1 hz1
  have grp : r < us.length := by omega
  have gr : decide ((r : Int) < (us.length : Int)) = true := decide_eq_true (by omega)
  have grn : decide (r < us.length) = true := decide_eq_true (by omega)
  have g00 : decide (0 < (us.length : Int)) = true := decide_eq_true (by omega)
  have g00n : decide (0 < us.length) = true := decide_eq_true hl0
  have E := hYd (fun (W : World) (hW : Below w1.heap.size w1 W) => And.intro hbl (And.intro ((hW.cell (p := ⟨bl, off, none⟩) hbl).trans e0) ((hW.cell (p := ⟨bl, off + r * 2 + 1, none⟩) hbl).trans e1)))
  have HX := hYd hx; have HY := hYd hz1; have HR := hYd hr; have HLX := hYd hlx; clear hx hy hz1 hlx hr hu e0 e1
  have br := b1_0
  obtain ⟨cr, fr, lr, er, kr⟩ := Blk.facts br
  have K1r := K1
  go_upto_region 6 with fail
  refine' wp_region_calm (by kernel_rfl) (fun n _ w' => Below w.heap.size w w' ∧ (n = 0 → Below w1.heap.size w1 w' ∧ Blk w' (w.heap.size) 29 #[.int .i64 0, .int .i64 0]) ∧ (n = 1 → Blk w' (w.heap.size) 29 #[.int .i64 x, .int .i64 y])) (fun _ _ => True) [(Is _), (Is _), (Is _), (Is _), (Is _), (Is _), (Is _), (Is _), (Is _), (Is _), (Is _), (Is _), (fun _ _ _ => True), (Is _)] [[], [0], [1], [2], [], [], [5], [6], [4, 7], [8], [9], [3, 10], [11], []] [12] [] rfl (by kernel_rfl) (fun u => by (simp only [calmPut, Act.put, lst, ls0, ls1, Nat.zero_add, Nat.reduceAdd]; rfl)) ?_ (kcc keep_is' (kcc keep_is' (kcc keep_is' (kcc keep_is' (kcc keep_is' (kcc keep_is' (kcc keep_is' (kcc keep_is' (kcc keep_is' (kcc keep_is' (kcc keep_is' (kcc keep_is' (kcc keep_triv (kcc keep_is' (calmKeep_nil))))))))))))))) ?_ ?_
  ·intro _
   exact ⟨bl1, (fun _ => ⟨bl0, bn1⟩), (fun h => absurd h (by decide))⟩
  rotate_left 13
  ·skip
   refine calmSteps_cons (fun u wq n hn hn2 hC hk K hK => ?_) ?_
   ·obtain ⟨hP, hR0, hR1⟩ := hC
    clear hk
    go_simp
    exact hK _ _ _ rfl ⟨hP, hR0, hR1⟩ trivial rfl
   refine calmSteps_cons (fun u wq n hn hn2 hC hk K hK => ?_) ?_
   ·obtain ⟨hP, hR0, hR1⟩ := hC
    simp only [calmKnown, lg0, lg1, and_true, Is] at hk
    have h0 := hk; clear hk
    simp only [h0] at hK ⊢
    have H0 := hYd h0; clear h0
    go_simp
    exact hK _ _ _ rfl ⟨hP, hR0, hR1⟩ trivial rfl
   refine calmSteps_cons (fun u wq n hn hn2 hC hk K hK => ?_) ?_
   ·obtain ⟨hP, hR0, hR1⟩ := hC
    simp only [calmKnown, lg0, lg1, and_true, Is] at hk
    have h1 := hk; clear hk
    simp only [h1] at hK ⊢
    have H1 := hYd h1; clear h1
    go_simp
    exact hK _ _ _ rfl ⟨hP, hR0, hR1⟩ trivial rfl
   refine calmSteps_cons (fun u wq n hn hn2 hC hk K hK => ?_) ?_
   ·obtain ⟨hP, hR0, hR1⟩ := hC
    simp only [calmKnown, lg0, lg1, and_true, Is] at hk
    have h2 := hk; clear hk
    simp only [h2] at hK ⊢
    have H2 := hYd h2; clear h2
    have hn0 : n = 0 := Nat.le_zero.1 (hn2 0 12 rfl (by kernel_rfl))
    have hQ := (hR0 hn0).1
    obtain ⟨y8, y0, y1⟩ := E.out _ hQ
    go_simp
    exact hK _ _ _ rfl ⟨hP, hR0, hR1⟩ trivial rfl
   refine calmSteps_cons (fun u wq n hn hn2 hC hk K hK => ?_) ?_
   ·obtain ⟨hP, hR0, hR1⟩ := hC
    clear hk
    go_simp
    exact hK _ _ _ rfl ⟨hP, hR0, hR1⟩ trivial rfl
   refine calmSteps_cons (fun u wq n hn hn2 hC hk K hK => ?_) ?_
   ·obtain ⟨hP, hR0, hR1⟩ := hC
    clear hk
    go_simp
    exact hK _ _ _ rfl ⟨hP, hR0, hR1⟩ trivial rfl
   refine calmSteps_cons (fun u wq n hn hn2 hC hk K hK => ?_) ?_
   ·obtain ⟨hP, hR0, hR1⟩ := hC
    simp only [calmKnown, lg0, lg1, and_true, Is] at hk
    have h5 := hk; clear hk
    simp only [h5] at hK ⊢
    have H5 := hYd h5; clear h5
    go_simp
    exact hK _ _ _ rfl ⟨hP, hR0, hR1⟩ trivial rfl
   refine calmSteps_cons (fun u wq n hn hn2 hC hk K hK => ?_) ?_
   ·obtain ⟨hP, hR0, hR1⟩ := hC
    simp only [calmKnown, lg0, lg1, and_true, Is] at hk
    have h6 := hk; clear hk
    simp only [h6] at hK ⊢
    have H6 := hYd h6; clear h6
    go_simp
    exact hK _ _ _ rfl ⟨hP, hR0, hR1⟩ trivial rfl
   refine calmSteps_cons (fun u wq n hn hn2 hC hk K hK => ?_) ?_
   ·obtain ⟨hP, hR0, hR1⟩ := hC
    simp only [calmKnown, lg0, lg1, and_true, Is] at hk
    obtain ⟨h4, h7⟩ := hk
    simp only [h4, h7] at hK ⊢
    have H4 := hYd h4; clear h4; have H7 := hYd h7; clear h7
    go_simp
    exact hK _ _ _ rfl ⟨hP, hR0, hR1⟩ trivial rfl
   refine calmSteps_cons (fun u wq n hn hn2 hC hk K hK => ?_) ?_
   ·obtain ⟨hP, hR0, hR1⟩ := hC
    simp only [calmKnown, lg0, lg1, and_true, Is] at hk
    have h8 := hk; clear hk
    simp only [h8] at hK ⊢
    have H8 := hYd h8; clear h8
    go_simp
    exact hK _ _ _ rfl ⟨hP, hR0, hR1⟩ trivial rfl
   refine calmSteps_cons (fun u wq n hn hn2 hC hk K hK => ?_) ?_
   ·obtain ⟨hP, hR0, hR1⟩ := hC
    simp only [calmKnown, lg0, lg1, and_true, Is] at hk
    have h9 := hk; clear hk
    simp only [h9] at hK ⊢
    have H9 := hYd h9; clear h9
    have hn0 : n = 0 := Nat.le_zero.1 (hn2 0 12 rfl (by kernel_rfl))
    have hQ := (hR0 hn0).1
    obtain ⟨y8, y0, y1⟩ := E.out _ hQ
    go_simp
    exact hK _ _ _ rfl ⟨hP, hR0, hR1⟩ trivial rfl
   refine calmSteps_cons (fun u wq n hn hn2 hC hk K hK => ?_) ?_
   ·obtain ⟨hP, hR0, hR1⟩ := hC
    simp only [calmKnown, lg0, lg1, and_true, Is] at hk
    obtain ⟨h3, h10⟩ := hk
    simp only [h3, h10] at hK ⊢
    have H3 := hYd h3; clear h3; have H10 := hYd h10; clear h10
    go_simp
    exact hK _ _ _ rfl ⟨hP, hR0, hR1⟩ trivial rfl
   refine calmSteps_cons (fun u wq n hn hn2 hC hk K hK => ?_) ?_
   ·obtain ⟨hP, hR0, hR1⟩ := hC
    simp only [calmKnown, lg0, lg1, and_true, Is] at hk
    have h11 := hk; clear hk
    simp only [h11] at hK ⊢
    have H11 := hYd h11; clear h11
    obtain rfl := hn 0 rfl
    have hB := (hR0 rfl).2
    clear hR0 hR1
    have hz0 := hB.cell; have hf0 := hB.frozen; have hl0 := hB.lt
    have hB2 := setAll_blk [.int .i64 x, .int .i64 y] 0 wq _ hB
    simp only [setArr, lst, ls0, ls1, Nat.zero_add, Nat.reduceAdd] at hB2
    go_simp
    exact hK _ undef _ rfl ⟨bl1, (fun h => absurd h (by decide)), (fun _ => hB2)⟩ trivial trivial
   refine calmSteps_cons (fun u wq n hn hn2 hC hk K hK => ?_) ?_
   ·obtain ⟨hP, hR0, hR1⟩ := hC
    clear hk
    go_simp
    exact hK _ _ _ rfl ⟨hP, hR0, hR1⟩ trivial rfl
   exact calmSteps_nil
  ·intro u w2 hC hF
   obtain ⟨hP, hR0, hR1⟩ := hC
   simp only [calmFacts, Is, and_true, true_and] at hF
   obtain ⟨f0, f1, f2, f3, f4, f5, f6, f7, f8, f9, f10, f11, f13⟩ := hF
   simp only [f0, f1, f2, f3, f4, f5, f6, f7, f8, f9, f10, f11, f13]
   clear f0 f1 f2 f3 f4 f5 f6 f7 f8 f9 f10 f11 f13
   have br' := hR1 rfl
   clear hR0 hR1 br cr fr lr er kr; have br := br'; clear br'
   have K2 := hP; clear hP
   clear b1_0 c1_0 f1_0 l1_0 e1_0 k1_0
   obtain ⟨cr, fr, lr, er, kr⟩ := Blk.facts br
   go_wp2
   exact bodyPost_ret (v := hullE x y true) (by simp [results, Tryz.results152, go_sem, *, hullE]) rfl ⟨x, y, true, rfl, ⟨us, HLX.out, .inr ⟨hl0, HX.out.symm, HY.out.symm, rfl⟩⟩, bl1⟩
set_option maxRecDepth 100000 in
set_option maxHeartbeats 2000000 in
theorem rAgree_any (A : Option Addr) (len cap : Nat) (zs : List (Int × Int)) (f : Int) (w : World) (h : SpansAt w A len zs) :
  Calls Tryz.prog 132 #[.slice A len cap, .int .i64 f] w (AgR w zs f) := by
 obtain rfl := h.1
 have R := hYd (fun W (hW : Below w.heap.size w W) => rqcheck_any A zs.length cap zs f W (h.below hW))
 have Q := hYd (fun (h1 : ckE zs = 0) (h2 : 1 ≤ (zs.length : Int) - f) W (hW : Below w.heap.size w W) => rhull_any A zs.length cap zs ((zs.length : Int) - f) h1 h2 W (h.below hW))
 clear h
 obtain ⟨qe, hqe⟩ : ∃ qe, qE zs f = qe := ⟨_, rfl⟩
 rw [hqe] at R
 have HQE := hYd hqe; clear hqe
 go_enter Tryz.func132, Tryz.ntmps132
 go_wp2_with fail
 refine (R.out _ bl0).mono ?_
 rintro e w1 ⟨rfl, hb1⟩
 have K1 : Below w.heap.size w w1 := kept_call hb1 bl0
 have Z1 := K1.size
 have b1_0 := Blk.keep (g := w.heap.size) hb1 bn0
 (try simp only [lst, ls0, ls1] at b1_0)
 clear hb1
 obtain ⟨c1_0, f1_0, l1_0, e1_0, k1_0⟩ := Blk.facts b1_0
 have o1_0 := l1_0
 by_cases h0 : qe = 0
 ·subst h0
  obtain ⟨hc0, hf0, hf1⟩ := qE_parts HQE.out
  have hl64 := (ckE_ok hc0).1
  have wlf : IntKind.i64.wrap ((zs.length : Int) - f) = (zs.length : Int) - f := IntWalk.i64_in _ (by omega)
  have HC0 := hYd hc0; clear hc0
  go_wp2_with fail
  refine (Q.out HC0.out (by omega) _ bl1).mono ?_
  rintro e w2 ⟨x, y, b, rfl, hhu, hb2⟩
  have K2 : Below w.heap.size w w2 := kept_call hb2 bl1
  have Z2 := K2.size
  have b1_0' := Blk.keep (g := w.heap.size) hb2 bn1
  (try simp only [lst, ls0, ls1] at b1_0')
  clear hb2 K1
  clear b1_0 c1_0 f1_0 l1_0 e1_0 k1_0; have b1_0 := b1_0'; clear b1_0'
  obtain ⟨c1_0, f1_0, l1_0, e1_0, k1_0⟩ := Blk.facts b1_0
  have hax := hu_ax HQE.out hhu
  have HAX := hYd hax; clear hax hhu
  cases b with
  | true =>
   have HAX2 := HAX.out
   simp only [if_true, if_false, Bool.false_eq_true] at HAX2
   have HAX := hYd HAX2; clear HAX2
   unfold hullE
   simp only [if_true, if_false, Bool.false_eq_true]
   go_wp2
   exact bodyPost_ret (v := .tuple #[.agg #[.int .i64 x, .int .i64 y], .int .i64 0]) (by simp [results, Tryz.results132, go_sem, *]) rfl ⟨x, y, 0, rfl, HAX.out, bl1⟩
  | false =>
   have HAX2 := HAX.out
   simp only [if_true, if_false, Bool.false_eq_true] at HAX2
   have HAX := hYd HAX2; clear HAX2
   unfold hullE
   simp only [if_true, if_false, Bool.false_eq_true]
   go_wp2
   exact bodyPost_ret (v := .tuple #[.agg #[.int .i64 x, .int .i64 y], .int .i64 21]) (by simp [results, Tryz.results132, go_sem, *]) rfl ⟨x, y, 21, rfl, HAX.out, bl1⟩
 ·have g0 : decide (qe = 0) = false := decide_eq_false h0
  have g0b : (qe == 0) = false := by rw [beq_eq_false_iff_ne]; exact h0
  go_wp2
  exact bodyPost_ret (v := .tuple #[.agg #[.int .i64 0, .int .i64 0], .int .i64 qe]) (by simp [results, Tryz.results132, go_sem, *]) rfl ⟨0, 0, qe, rfl, .inl ⟨by rw [HQE.out]; exact h0, rfl, rfl, HQE.out.symm⟩, bl1⟩
end Go.Proofs.YtlnboheahbfgfaaGreat
namespace Go.Proofs.YtlnboheahbfgfaaGreat
open Go.RowKit

theorem hi_ceil (x e p : Int) (he : 0 < e) : quo x 1000000000 e true ≤ p ↔ x * 1000000000 ≤ p * e := by
 show -(-(x * 1000000000) / e) ≤ p ↔ _
 have h : (-p ≤ -(x * 1000000000) / e) ↔ (-p * e ≤ -(x * 1000000000)) := Int.le_ediv_iff_mul_le he
 rw [Int.neg_mul] at h
 constructor
 ·intro k; have := h.1 (by omega); omega
 ·intro k; have := h.2 (by omega); omega
theorem lo_mul (d p : Int) (hp : 0 ≤ p) : elLo d p * (1000000000 + p) ≤ d * 1000000000 := by
 show d * 1000000000 / (1000000000 + p) * (1000000000 + p) ≤ _
 exact Int.ediv_mul_le _ (by omega)
theorem le_lo {d p q : Int} (hp : 0 ≤ p) (h : q * (1000000000 + p) ≤ d * 1000000000) : q ≤ elLo d p := by
 show q ≤ d * 1000000000 / (1000000000 + p)
 exact (Int.le_ediv_iff_mul_le (by omega)).2 h
theorem hi_mul (d p : Int) (hp : p ≤ 1000000) : d * 1000000000 ≤ elHi d p * (1000000000 - p) :=
 (hi_ceil d (1000000000 - p) (elHi d p) (by omega)).1 (Int.le_refl _)
theorem hi_le {d p q : Int} (hp : p ≤ 1000000) (h : d * 1000000000 ≤ q * (1000000000 - p)) : elHi d p ≤ q :=
 (hi_ceil d (1000000000 - p) q (by omega)).2 h
theorem lo_le_of {d p q : Int} (hp : 0 ≤ p) (h : d * 1000000000 ≤ q * (1000000000 + p)) : elLo d p ≤ q :=
 Int.le_of_mul_le_mul_right (Int.le_trans (lo_mul d p hp) h) (by omega)
theorem le_hi_of {d p q : Int} (hp : p ≤ 1000000) (h : q * (1000000000 - p) ≤ d * 1000000000) : q ≤ elHi d p :=
 Int.le_of_mul_le_mul_right (Int.le_trans h (hi_mul d p hp)) (by omega)
theorem lo_pos {d p : Int} (hd : 0 ≤ d) (hp : 0 ≤ p) (_ : p ≤ 1000000) : 0 ≤ elLo d p := le_lo hp (by omega)
theorem lo_le {d p : Int} (hd : 0 ≤ d) (hp : 0 ≤ p) (_ : p ≤ 1000000) : elLo d p ≤ d := lo_le_of hp (by rw [Int.mul_add]; have := Int.mul_nonneg hd hp; omega)
theorem le_hi {d p : Int} (hd : 0 ≤ d) (hp : 0 ≤ p) (hp1 : p ≤ 1000000) : d ≤ elHi d p := le_hi_of hp1 (by rw [Int.mul_sub]; have := Int.mul_nonneg hd hp; omega)
theorem hi_two {d p : Int} (hd : 0 ≤ d) (_ : 0 ≤ p) (hp1 : p ≤ 1000000) : elHi d p ≤ 2 * d := hi_le hp1 (by
 have : d * p ≤ d * 1000000 := Int.mul_le_mul_of_nonneg_left hp1 hd
 rw [Int.mul_assoc, Int.mul_sub]; omega)
theorem el_span {d p : Int} (hd : 0 ≤ d) (hp : 0 ≤ p) (hp1 : p ≤ 1000000) (hd1 : d ≤ 576460752303423488) : vS (elLo d p) (elHi d p) = true := by
 have := lo_pos hd hp hp1; have := lo_le hd hp hp1; have := le_hi hd hp hp1; have := hi_two hd hp hp1
 exact vS_true.2 ⟨by omega, by omega, by omega⟩
theorem lo_longer {d p : Int} (_ : 0 ≤ d) (hp : 0 ≤ p) (_ : p ≤ 1000000) {m : Int} (h : 0 ≤ m) : elLo d p ≤ elLo (d + m) p := le_lo hp (by have := lo_mul d p hp; omega)
theorem el_none {d : Int} : elLo d 0 = d ∧ elHi d 0 = d := by
 constructor
 ·show d * 1000000000 / (1000000000 + 0) = d; omega
 ·show -(-(d * 1000000000) / (1000000000 - 0)) = d; omega
end Go.Proofs.YtlnboheahbfgfaaGreat
namespace Go.Proofs.YtlnboheahbfgfaaGreat
open Go.RowKit

def ctB (n : Int) : Bool := decide (0 ≤ n ∧ n ≤ 1152921504606846976)
def kE (at_ lo hi ppb le re : Int) : Int := if vS lo hi = false then 3 else if vT at_ = true ∧ 0 ≤ ppb ∧ ppb ≤ 1000000 ∧ ctB le = true ∧ ctB re = true then 0 else 4
theorem kE_3 {at_ lo hi ppb le re : Int} (h : vS lo hi = false) : kE at_ lo hi ppb le re = 3 := by unfold kE; rw [if_pos h]
theorem kE_4 {at_ lo hi ppb le re : Int} (h : vS lo hi = true) (h' : ¬ (vT at_ = true ∧ 0 ≤ ppb ∧ ppb ≤ 1000000 ∧ ctB le = true ∧ ctB re = true)) : kE at_ lo hi ppb le re = 4 := by unfold kE; rw [if_neg (by rw [h]; simp), if_neg h']
theorem kE_0 {at_ lo hi ppb le re : Int} (h : vS lo hi = true) (h1 : vT at_ = true) (h2 : 0 ≤ ppb) (h3 : ppb ≤ 1000000) (h4 : ctB le = true) (h5 : ctB re = true) : kE at_ lo hi ppb le re = 0 := by unfold kE; rw [if_neg (by rw [h]; simp), if_pos ⟨h1, h2, h3, h4, h5⟩]
theorem kE_all {at_ lo hi ppb le re : Int} (h : kE at_ lo hi ppb le re = 0) : vS lo hi = true ∧ vT at_ = true ∧ 0 ≤ ppb ∧ ppb ≤ 1000000 ∧ ctB le = true ∧ ctB re = true := by
 unfold kE at h
 split at h
 ·omega
 ·rename_i q
  split at h
  ·rename_i q'
   exact ⟨by simpa using q, q'⟩
  ·omega
def V3 (x : Int × Int × Int) : Value := .tuple #[.agg #[.int .i64 x.1, .int .i64 x.2.1], .int .i64 x.2.2]
def opT (ok in_ : Bool) (lo hi : Int) : Int × Int × Int := if ok then (if in_ then (if vS lo hi then (lo, hi, 0) else (0, 0, 4)) else (0, 0, 4)) else (0, 0, 3)
theorem opV_opT (ok in_ : Bool) (lo hi : Int) : opV ok in_ lo hi = V3 (opT ok in_ lo hi) := by
 unfold opV opT mkS V3
 cases ok <;> cases in_ <;> simp
 split <;> rfl
def nowT (at_ lo hi ppb le re u : Int) : Int × Int × Int := if kE at_ lo hi ppb le re ≠ 0 then (0, 0, kE at_ lo hi ppb le re) else if u < at_ then (0, 0, 12) else if vT u = false then (0, 0, 4) else opT (vS lo hi) (inD (u - at_) ppb) (lo + elLo (u - at_) ppb) (hi + elHi (u - at_) ppb)
theorem nowT_e {at_ lo hi ppb le re u : Int} (h : kE at_ lo hi ppb le re ≠ 0) : nowT at_ lo hi ppb le re u = (0, 0, kE at_ lo hi ppb le re) := by unfold nowT; rw [if_pos h]
theorem nowT_12 {at_ lo hi ppb le re u : Int} (h : kE at_ lo hi ppb le re = 0) (h' : u < at_) : nowT at_ lo hi ppb le re u = (0, 0, 12) := by unfold nowT; rw [if_neg (by omega), if_pos h']
theorem nowT_4 {at_ lo hi ppb le re u : Int} (h : kE at_ lo hi ppb le re = 0) (h' : ¬ u < at_) (h2 : vT u = false) : nowT at_ lo hi ppb le re u = (0, 0, 4) := by unfold nowT; rw [if_neg (by omega), if_neg h', if_pos h2]
theorem nowT_ok {at_ lo hi ppb le re u : Int} (h : kE at_ lo hi ppb le re = 0) (h' : ¬ u < at_) (h2 : vT u = true) : nowT at_ lo hi ppb le re u = opT (vS lo hi) (inD (u - at_) ppb) (lo + elLo (u - at_) ppb) (hi + elHi (u - at_) ppb) := by
 unfold nowT; rw [if_neg (by omega), if_neg h', if_neg (by rw [h2]; simp)]
def V6 (at_ lo hi ppb le re : Int) (ok : Bool) (e : Int) : Value := .tuple #[.agg #[.int .i64 at_, .int .i64 lo, .int .i64 hi, .int .i64 ppb, .int .i64 le, .int .i64 re], .bool ok, .int .i64 e]
structure Lrn where
 (at_ lo hi ppb le re : Int) (ok : Bool) (e : Int)
def Lrn.V (x : Lrn) : Value := V6 x.at_ x.lo x.hi x.ppb x.le x.re x.ok x.e
def lrn (at_ lo hi ppb le re u c d : Int) : Lrn :=
 if (nowT at_ lo hi ppb le re u).2.2 ≠ 0 then ⟨0, 0, 0, 0, 0, 0, false, (nowT at_ lo hi ppb le re u).2.2⟩ else if vS c d = false then ⟨0, 0, 0, 0, 0, 0, false, 3⟩ else
 if mtB (nowT at_ lo hi ppb le re u).1 (nowT at_ lo hi ppb le re u).2.1 c d then ⟨u, max (nowT at_ lo hi ppb le re u).1 c, min (nowT at_ lo hi ppb le re u).2.1 d, ppb, min (le + 1) 1152921504606846976, re, true, 0⟩
 else ⟨at_, lo, hi, ppb, le, min (re + 1) 1152921504606846976, false, 0⟩
section
variable {at_ lo hi ppb le re u c d x y : Int}
theorem lrn_e {e : Int} (h : nowT at_ lo hi ppb le re u = (x, y, e)) (he : e ≠ 0) : lrn at_ lo hi ppb le re u c d = ⟨0, 0, 0, 0, 0, 0, false, e⟩ := by unfold lrn; rw [h]; rw [if_pos he]
theorem lrn_3 (h : nowT at_ lo hi ppb le re u = (x, y, 0)) (h' : vS c d = false) : lrn at_ lo hi ppb le re u c d = ⟨0, 0, 0, 0, 0, 0, false, 3⟩ := by unfold lrn; rw [h]; rw [if_neg (by simp), if_pos h']
theorem lrn_yes (h : nowT at_ lo hi ppb le re u = (x, y, 0)) (h' : vS c d = true) (hm : mtB x y c d = true) : lrn at_ lo hi ppb le re u c d = ⟨u, max x c, min y d, ppb, min (le + 1) 1152921504606846976, re, true, 0⟩ := by
 unfold lrn; rw [h]; rw [if_neg (by simp), if_neg (by rw [h']; simp), if_pos hm]
theorem lrn_no (h : nowT at_ lo hi ppb le re u = (x, y, 0)) (h' : vS c d = true) (hm : mtB x y c d = false) : lrn at_ lo hi ppb le re u c d = ⟨at_, lo, hi, ppb, le, min (re + 1) 1152921504606846976, false, 0⟩ := by
 unfold lrn; rw [h]; rw [if_neg (by simp), if_neg (by rw [h']; simp), if_neg (by rw [hm]; simp)]
theorem now_0 (h : nowT at_ lo hi ppb le re u = (x, y, 0)) : kE at_ lo hi ppb le re = 0 := by
 by_cases q : kE at_ lo hi ppb le re = 0
 ·exact q
 ·rw [nowT_e q] at h; injection h with _ h; injection h with _ h
end

def begV (at_ lo hi ppb : Int) : Value := if kE at_ lo hi ppb 0 0 = 0 then .tuple #[.agg #[.int .i64 at_, .int .i64 lo, .int .i64 hi, .int .i64 ppb, .int .i64 0, .int .i64 0], .int .i64 0] else .tuple #[.agg #[.int .i64 0, .int .i64 0, .int .i64 0, .int .i64 0, .int .i64 0, .int .i64 0], .int .i64 (kE at_ lo hi ppb 0 0)]
theorem begV_ok {at_ lo hi ppb : Int} (h : kE at_ lo hi ppb 0 0 = 0) : begV at_ lo hi ppb = .tuple #[.agg #[.int .i64 at_, .int .i64 lo, .int .i64 hi, .int .i64 ppb, .int .i64 0, .int .i64 0], .int .i64 0] := by unfold begV; rw [if_pos h]
theorem begV_e {at_ lo hi ppb : Int} (h : kE at_ lo hi ppb 0 0 ≠ 0) : begV at_ lo hi ppb = .tuple #[.agg #[.int .i64 0, .int .i64 0, .int .i64 0, .int .i64 0, .int .i64 0, .int .i64 0], .int .i64 (kE at_ lo hi ppb 0 0)] := by unfold begV; rw [if_neg h]
end Go.Proofs.YtlnboheahbfgfaaGreat
