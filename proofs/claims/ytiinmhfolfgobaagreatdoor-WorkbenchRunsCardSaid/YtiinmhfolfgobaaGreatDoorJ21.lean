/- Lemmas. -/
import Derived.Test.YtiinmhfolfgobaaGreatDoorJ9
import Derived.Test.YtiinmhfolfgobaaGreatDoorJ20
import Derived.Test.YtiinmhfolfgobaaGreatDoorJ11
set_option linter.unusedVariables false
set_option linter.unusedSimpArgs false
namespace Go.Proofs.YtiinmhfolfgobaaGreatDoor
open Go.RowKit
set_option maxHeartbeats 8000000
theorem rproj_op (a b t p : Int) (w : World) :
  Calls Tryz.prog 42 #[.agg #[.int .i64 a, .int .i64 b], .int .i64 t, .int .i64 p] w (RB w (opV (vS a b) (inD t p) (a + elLo t p) (b + elHi t p))) := by
 rcases h : vS a b
 ·rw [opV_3]
  go_enter Tryz.func42, Tryz.ntmps42
  go_wp2_with fail
  refine (rsvalid_any _ _ _).mono ?_
  rintro e wq1 ⟨rfl, rfl⟩
  rw [h]
  go_wp2
  exact Yb (v := .tuple #[.agg #[.int .i64 0, .int .i64 0], .int .i64 3]) (by simp [results, Tryz.results42, go_sem, *]) rfl ⟨rfl, bl0⟩
 ·have r := relapsed_any t p
  rcases h' : inD t p
  ·rw [opV_4]
   rw [outV_no h'] at r
   have R := Yh r; clear r
   go_enter Tryz.func42, Tryz.ntmps42
   go_wp2_with fail
   refine (rsvalid_any _ _ _).mono ?_
   rintro e wq1 ⟨rfl, rfl⟩
   rw [h]
   go_wp2_with fail
   refine (R.out _).mono ?_
   rintro e w1 ⟨rfl, hb1⟩
   have K1 : Below w.heap.size w w1 := Yc hb1 bl0
   have Z1 := K1.size
   have b1_1 := Yk (g := w.heap.size + 1) hb1 bn0
   (try simp only [lst, ls0, ls1] at b1_1)
   clear hb1
   obtain ⟨c1_1, f1_1, l1_1, e1_1, k1_1⟩ := Yf b1_1
   go_wp2
   exact Yb (v := .tuple #[.agg #[.int .i64 0, .int .i64 0], .int .i64 4]) (by simp [results, Tryz.results42, go_sem, *]) rfl ⟨rfl, bl1⟩
  ·rw [opV_ok]
   rw [outV_ok h'] at r
   have R := Yh r; clear r
   obtain ⟨d0, d1, p0, p1⟩ := inD_true.1 h'
   have hs := el_span d0 p0 p1 d1
   have q := radd_all a b (elLo t p) (elHi t p)
   rw [h, hs, show (true && true) = true from rfl, opV_ok] at q
   obtain ⟨x, y, e, hv⟩ := mkS_form (a + elLo t p) (b + elHi t p)
   rw [hv] at q ⊢
   have Q := Yh q; clear q hv hs
   generalize elLo t p = lo at *
   generalize elHi t p = hi at *
   have H := Yh h; clear h
   go_enter Tryz.func42, Tryz.ntmps42
   go_wp2_with fail
   refine (rsvalid_any _ _ _).mono ?_
   rintro e wq1 ⟨rfl, rfl⟩
   rw [H.out]
   go_wp2_with fail
   refine (R.out _).mono ?_
   rintro e w1 ⟨rfl, hb1⟩
   have K1 : Below w.heap.size w w1 := Yc hb1 bl0
   have Z1 := K1.size
   have b1_0 := Yk (g := w.heap.size) hb1 bn0
   (try simp only [lst, ls0, ls1] at b1_0)
   have b1_1 := Yk (g := w.heap.size + 1) hb1 bn0
   (try simp only [lst, ls0, ls1] at b1_1)
   clear hb1
   obtain ⟨c1_0, f1_0, l1_0, e1_0, k1_0⟩ := Yf b1_0
   obtain ⟨c1_1, f1_1, l1_1, e1_1, k1_1⟩ := Yf b1_1
   go_wp2_with fail
   refine (Q.out _).mono ?_
   rintro e w2 ⟨rfl, hb2⟩
   have K2 : Below w.heap.size w w2 := Yc hb2 bl1
   have Z2 := K2.size
   have b1_0' := Yk (g := w.heap.size) hb2 bn1
   (try simp only [lst, ls0, ls1] at b1_0')
   have b1_1' := Yk (g := w.heap.size + 1) hb2 bn1
   (try simp only [lst, ls0, ls1] at b1_1')
   have b2_0 := Yk (g := w1.heap.size) hb2 bn0
   (try simp only [lst, ls0, ls1] at b2_0)
   clear hb2 K1
   clear b1_0 c1_0 f1_0 l1_0 e1_0 k1_0; have b1_0 := b1_0'; clear b1_0'
   clear b1_1 c1_1 f1_1 l1_1 e1_1 k1_1; have b1_1 := b1_1'; clear b1_1'
   obtain ⟨c1_0, f1_0, l1_0, e1_0, k1_0⟩ := Yf b1_0
   obtain ⟨c1_1, f1_1, l1_1, e1_1, k1_1⟩ := Yf b1_1
   obtain ⟨c2_0, f2_0, l2_0, e2_0, k2_0⟩ := Yf b2_0
   go_wp2
   exact Yb (v := .tuple #[.agg #[.int .i64 x, .int .i64 y], .int .i64 e]) (by simp [results, Tryz.results42, go_sem, *]) rfl ⟨rfl, bl1⟩
set_option maxHeartbeats 16000000
set_option maxRecDepth 100000
theorem counter_any (n : Int) (w : World) :
  Calls Tryz.prog 66 #[.int .i64 n] w fun e w' => e = .returned (.bool (ctB n)) ∧ w = w' := by
 by_cases h : 0 ≤ n
 ·by_cases h2 : n ≤ 1152921504606846976
  ·rw [show ctB n = true by simp [ctB, h, h2]]
   go_enter Tryz.func66, Tryz.ntmps66
   go_wp2; go_ret; exact ⟨rfl, rfl⟩
  ·rw [show ctB n = false by simp [ctB, h, h2]]
   go_enter Tryz.func66, Tryz.ntmps66
   go_wp2; go_ret; exact ⟨rfl, rfl⟩
 ·rw [show ctB n = false by simp [ctB, h]]
  go_enter Tryz.func66, Tryz.ntmps66
  go_wp2; go_ret; exact ⟨rfl, rfl⟩
theorem rkcheck_any (at_ lo hi ppb le re : Int) (w : World) :
  Calls Tryz.prog 41 #[.agg #[.int .i64 at_, .int .i64 lo, .int .i64 hi, .int .i64 ppb, .int .i64 le, .int .i64 re]] w (RB w (.int .i64 (kE at_ lo hi ppb le re))) := by
 rcases h : vS lo hi
 ·rw [kE_3 h]
  go_enter Tryz.func41, Tryz.ntmps41
  go_wp2_with fail
  refine (rsvalid_any _ _ _).mono ?_
  rintro e wq1 ⟨rfl, rfl⟩
  rw [h]
  go_wp2
  go_ret
  exact ⟨rfl, bl0⟩
 rcases h1 : vT at_
 ·rw [kE_4 h (by simp [h1])]
  go_enter Tryz.func41, Tryz.ntmps41
  go_wp2_with fail
  refine (rsvalid_any _ _ _).mono ?_
  rintro e wq2 ⟨rfl, rfl⟩
  rw [h]
  go_wp2_with fail
  refine (rvalid_any _ _).mono ?_
  rintro e wq3 ⟨rfl, rfl⟩
  rw [h1]
  go_wp2
  go_ret
  exact ⟨rfl, bl0⟩
 by_cases h2 : ppb < 0
 ·rw [kE_4 h Yo]
  go_enter Tryz.func41, Tryz.ntmps41
  go_wp2_with fail
  refine (rsvalid_any _ _ _).mono ?_
  rintro e wq4 ⟨rfl, rfl⟩
  rw [h]
  go_wp2_with fail
  refine (rvalid_any _ _).mono ?_
  rintro e wq5 ⟨rfl, rfl⟩
  rw [h1]
  go_wp2
  go_ret
  exact ⟨rfl, bl0⟩
 by_cases h3 : 1000000 < ppb
 ·rw [kE_4 h Yo]
  go_enter Tryz.func41, Tryz.ntmps41
  go_wp2_with fail
  refine (rsvalid_any _ _ _).mono ?_
  rintro e wq6 ⟨rfl, rfl⟩
  rw [h]
  go_wp2_with fail
  refine (rvalid_any _ _).mono ?_
  rintro e wq7 ⟨rfl, rfl⟩
  rw [h1]
  go_wp2
  go_ret
  exact ⟨rfl, bl0⟩
 rcases h4 : ctB le
 ·rw [kE_4 h (by simp [h4])]
  go_enter Tryz.func41, Tryz.ntmps41
  go_wp2_with fail
  refine (rsvalid_any _ _ _).mono ?_
  rintro e wq8 ⟨rfl, rfl⟩
  rw [h]
  go_wp2_with fail
  refine (rvalid_any _ _).mono ?_
  rintro e wq9 ⟨rfl, rfl⟩
  rw [h1]
  go_wp2_with fail
  refine (counter_any _ _).mono ?_
  rintro e wq10 ⟨rfl, rfl⟩
  rw [h4]
  go_wp2
  go_ret
  exact ⟨rfl, bl0⟩
 rcases h5 : ctB re
 ·rw [kE_4 h (by simp [h5])]
  go_enter Tryz.func41, Tryz.ntmps41
  go_wp2_with fail
  refine (rsvalid_any _ _ _).mono ?_
  rintro e wq11 ⟨rfl, rfl⟩
  rw [h]
  go_wp2_with fail
  refine (rvalid_any _ _).mono ?_
  rintro e wq12 ⟨rfl, rfl⟩
  rw [h1]
  go_wp2_with fail
  refine (counter_any _ _).mono ?_
  rintro e wq13 ⟨rfl, rfl⟩
  rw [h4]
  go_wp2_with fail
  refine (counter_any _ _).mono ?_
  rintro e wq14 ⟨rfl, rfl⟩
  rw [h5]
  go_wp2
  go_ret
  exact ⟨rfl, bl0⟩
 ·rw [kE_0 h h1 Yo Yo h4 h5]
  go_enter Tryz.func41, Tryz.ntmps41
  go_wp2_with fail
  refine (rsvalid_any _ _ _).mono ?_
  rintro e wq15 ⟨rfl, rfl⟩
  rw [h]
  go_wp2_with fail
  refine (rvalid_any _ _).mono ?_
  rintro e wq16 ⟨rfl, rfl⟩
  rw [h1]
  go_wp2_with fail
  refine (counter_any _ _).mono ?_
  rintro e wq17 ⟨rfl, rfl⟩
  rw [h4]
  go_wp2_with fail
  refine (counter_any _ _).mono ?_
  rintro e wq18 ⟨rfl, rfl⟩
  rw [h5]
  go_wp2
  go_ret
  exact ⟨rfl, bl0⟩
theorem rbegin_any (at_ lo hi ppb : Int) (w : World) :
  Calls Tryz.prog 16 #[.int .i64 at_, .agg #[.int .i64 lo, .int .i64 hi], .int .i64 ppb] w (RB w (begV at_ lo hi ppb)) := by
 have r := rkcheck_any at_ lo hi ppb 0 0
 by_cases h : kE at_ lo hi ppb 0 0 = 0
 ·rw [begV_ok h]
  rw [h] at r
  have R := Yh r; clear r
  go_enter Tryz.func16, Tryz.ntmps16
  go_wp2_with fail
  refine (R.out _).mono ?_
  rintro e w1 ⟨rfl, hb1⟩
  have K1 : Below w.heap.size w w1 := Yc hb1 bl0
  have Z1 := K1.size
  have b1_1 := Yk (g := w.heap.size + 1) hb1 bn0
  (try simp only [lst, ls0, ls1] at b1_1)
  have b1_2 := Yk (g := w.heap.size + 2) hb1 bn0
  (try simp only [lst, ls0, ls1] at b1_2)
  clear hb1
  obtain ⟨c1_1, f1_1, l1_1, e1_1, k1_1⟩ := Yf b1_1
  obtain ⟨c1_2, f1_2, l1_2, e1_2, k1_2⟩ := Yf b1_2
  go_wp2
  exact Yb (v := .tuple #[.agg #[.int .i64 at_, .int .i64 lo, .int .i64 hi, .int .i64 ppb, .int .i64 0, .int .i64 0], .int .i64 0]) (by simp [results, Tryz.results16, go_sem, *]) rfl ⟨rfl, bl1⟩
 ·rw [begV_e h]
  generalize kE at_ lo hi ppb 0 0 = x at *
  have hx : (x != 0) = true := by simpa using h
  have R := Yh r; clear r h
  go_enter Tryz.func16, Tryz.ntmps16
  go_wp2_with fail
  refine (R.out _).mono ?_
  rintro e w1 ⟨rfl, hb1⟩
  have K1 : Below w.heap.size w w1 := Yc hb1 bl0
  have Z1 := K1.size
  have b1_1 := Yk (g := w.heap.size + 1) hb1 bn0
  (try simp only [lst, ls0, ls1] at b1_1)
  have b1_2 := Yk (g := w.heap.size + 2) hb1 bn0
  (try simp only [lst, ls0, ls1] at b1_2)
  clear hb1
  obtain ⟨c1_1, f1_1, l1_1, e1_1, k1_1⟩ := Yf b1_1
  obtain ⟨c1_2, f1_2, l1_2, e1_2, k1_2⟩ := Yf b1_2
  go_wp2
  exact Yb (v := .tuple #[.agg #[.int .i64 0, .int .i64 0, .int .i64 0, .int .i64 0, .int .i64 0, .int .i64 0], .int .i64 x]) (by simp [results, Tryz.results16, go_sem, *]) rfl ⟨rfl, bl1⟩
theorem rnow_any (at_ lo hi ppb le re u : Int) (w : World) :
  Calls Tryz.prog 17 #[.agg #[.int .i64 at_, .int .i64 lo, .int .i64 hi, .int .i64 ppb, .int .i64 le, .int .i64 re], .int .i64 u] w (RB w (V3 (nowT at_ lo hi ppb le re u))) := by
 have r := rkcheck_any at_ lo hi ppb le re
 by_cases h : kE at_ lo hi ppb le re = 0
 ·rw [h] at r
  have R := Yh r; clear r
  by_cases h1 : u < at_
  ·rw [nowT_12 h h1]
   go_enter Tryz.func17, Tryz.ntmps17
   go_wp2_with fail
   refine (R.out _).mono ?_
   rintro e w1 ⟨rfl, hb1⟩
   have K1 : Below w.heap.size w w1 := Yc hb1 bl0
   have Z1 := K1.size
   have b1_0 := Yk (g := w.heap.size) hb1 bn0
   (try simp only [lst, ls0, ls1] at b1_0)
   have b1_1 := Yk (g := w.heap.size + 1) hb1 bn0
   (try simp only [lst, ls0, ls1] at b1_1)
   clear hb1
   obtain ⟨c1_0, f1_0, l1_0, e1_0, k1_0⟩ := Yf b1_0
   obtain ⟨c1_1, f1_1, l1_1, e1_1, k1_1⟩ := Yf b1_1
   go_wp2
   exact Yb (v := .tuple #[.agg #[.int .i64 0, .int .i64 0], .int .i64 12]) (by simp [results, Tryz.results17, go_sem, *]) rfl ⟨rfl, bl1⟩
  rcases h2 : vT u
  ·rw [nowT_4 h h1 h2]
   go_enter Tryz.func17, Tryz.ntmps17
   go_wp2_with fail
   refine (R.out _).mono ?_
   rintro e w1 ⟨rfl, hb1⟩
   have K1 : Below w.heap.size w w1 := Yc hb1 bl0
   have Z1 := K1.size
   have b1_0 := Yk (g := w.heap.size) hb1 bn0
   (try simp only [lst, ls0, ls1] at b1_0)
   have b1_1 := Yk (g := w.heap.size + 1) hb1 bn0
   (try simp only [lst, ls0, ls1] at b1_1)
   clear hb1
   obtain ⟨c1_0, f1_0, l1_0, e1_0, k1_0⟩ := Yf b1_0
   obtain ⟨c1_1, f1_1, l1_1, e1_1, k1_1⟩ := Yf b1_1
   go_wp2_with fail
   refine (rvalid_any _ _).mono ?_
   rintro e wq1 ⟨rfl, rfl⟩
   rw [h2]
   go_wp2
   exact Yb (v := .tuple #[.agg #[.int .i64 0, .int .i64 0], .int .i64 4]) (by simp [results, Tryz.results17, go_sem, *]) rfl ⟨rfl, bl1⟩
  ·obtain ⟨q0, q1, q2, q3, q4, q5⟩ := kE_all h
   rw [nowT_ok h h1 h2]
   have q := rproj_op lo hi (u - at_) ppb
   rw [opV_opT] at q
   have v1 := vT_true.1 q1; have v2 := vT_true.1 h2
   generalize opT (vS lo hi) (inD (u - at_) ppb) (lo + elLo (u - at_) ppb) (hi + elHi (u - at_) ppb) = X at *
   obtain ⟨x, y, e⟩ := X
   unfold V3 at q ⊢
   dsimp only at q ⊢
   have Q := Yh q; clear q h q0 q1 q4 q5
   have H2 := Yh h2; clear h2
   go_enter Tryz.func17, Tryz.ntmps17
   go_wp2_with fail
   refine (R.out _).mono ?_
   rintro e w1 ⟨rfl, hb1⟩
   have K1 : Below w.heap.size w w1 := Yc hb1 bl0
   have Z1 := K1.size
   have b1_0 := Yk (g := w.heap.size) hb1 bn0
   (try simp only [lst, ls0, ls1] at b1_0)
   have b1_1 := Yk (g := w.heap.size + 1) hb1 bn0
   (try simp only [lst, ls0, ls1] at b1_1)
   clear hb1
   obtain ⟨c1_0, f1_0, l1_0, e1_0, k1_0⟩ := Yf b1_0
   obtain ⟨c1_1, f1_1, l1_1, e1_1, k1_1⟩ := Yf b1_1
   go_wp2_with fail
   refine (rvalid_any _ _).mono ?_
   rintro e wq1 ⟨rfl, rfl⟩
   rw [H2.out]
   go_wp2_with fail
   refine (Q.out _).mono ?_
   rintro e w2 ⟨rfl, hb2⟩
   have K2 : Below w.heap.size w w2 := Yc hb2 bl1
   have Z2 := K2.size
   have b1_0' := Yk (g := w.heap.size) hb2 bn1
   (try simp only [lst, ls0, ls1] at b1_0')
   have b1_1' := Yk (g := w.heap.size + 1) hb2 bn1
   (try simp only [lst, ls0, ls1] at b1_1')
   clear hb2 K1
   clear b1_0 c1_0 f1_0 l1_0 e1_0 k1_0; have b1_0 := b1_0'; clear b1_0'
   clear b1_1 c1_1 f1_1 l1_1 e1_1 k1_1; have b1_1 := b1_1'; clear b1_1'
   obtain ⟨c1_0, f1_0, l1_0, e1_0, k1_0⟩ := Yf b1_0
   obtain ⟨c1_1, f1_1, l1_1, e1_1, k1_1⟩ := Yf b1_1
   go_wp2
   exact Yb (v := .tuple #[.agg #[.int .i64 x, .int .i64 y], .int .i64 e]) (by simp [results, Tryz.results17, go_sem, *]) rfl ⟨rfl, bl1⟩
 ·rw [nowT_e h]
  generalize kE at_ lo hi ppb le re = x at *
  have hx : (x != 0) = true := by simpa using h
  have R := Yh r; clear r h
  go_enter Tryz.func17, Tryz.ntmps17
  go_wp2_with fail
  refine (R.out _).mono ?_
  rintro e w1 ⟨rfl, hb1⟩
  have K1 : Below w.heap.size w w1 := Yc hb1 bl0
  have Z1 := K1.size
  have b1_0 := Yk (g := w.heap.size) hb1 bn0
  (try simp only [lst, ls0, ls1] at b1_0)
  have b1_1 := Yk (g := w.heap.size + 1) hb1 bn0
  (try simp only [lst, ls0, ls1] at b1_1)
  clear hb1
  obtain ⟨c1_0, f1_0, l1_0, e1_0, k1_0⟩ := Yf b1_0
  obtain ⟨c1_1, f1_1, l1_1, e1_1, k1_1⟩ := Yf b1_1
  go_wp2
  exact Yb (v := .tuple #[.agg #[.int .i64 0, .int .i64 0], .int .i64 x]) (by simp [results, Tryz.results17, go_sem, *]) rfl ⟨rfl, bl1⟩
theorem rlearn_any (at_ lo hi ppb le re u c d : Int) (w : World) :
  Calls Tryz.prog 121 #[.agg #[.int .i64 at_, .int .i64 lo, .int .i64 hi, .int .i64 ppb, .int .i64 le, .int .i64 re], .int .i64 u, .agg #[.int .i64 c, .int .i64 d]] w (RB w (lrn at_ lo hi ppb le re u c d).V) := by
 have r := rnow_any at_ lo hi ppb le re u
 rcases hn : nowT at_ lo hi ppb le re u with ⟨x, y, e⟩
 rw [hn] at r
 unfold V3 at r
 dsimp only at r
 by_cases h : e = 0
 ·subst h
  have hk := kE_all (now_0 hn)
  have R := Yh r; clear r
  rcases h1 : vS c d
  ·rw [lrn_3 hn h1]
   clear hn hk
   go_enter Tryz.func121, Tryz.ntmps121
   go_wp2_with fail
   refine (R.out _).mono ?_
   rintro e w1 ⟨rfl, hb1⟩
   have K1 : Below w.heap.size w w1 := Yc hb1 bl0
   have Z1 := K1.size
   have b1_0 := Yk (g := w.heap.size) hb1 bn0
   (try simp only [lst, ls0, ls1] at b1_0)
   have b1_1 := Yk (g := w.heap.size + 1) hb1 bn0
   (try simp only [lst, ls0, ls1] at b1_1)
   have b1_2 := Yk (g := w.heap.size + 2) hb1 bn0
   (try simp only [lst, ls0, ls1] at b1_2)
   clear hb1
   obtain ⟨c1_0, f1_0, l1_0, e1_0, k1_0⟩ := Yf b1_0
   obtain ⟨c1_1, f1_1, l1_1, e1_1, k1_1⟩ := Yf b1_1
   obtain ⟨c1_2, f1_2, l1_2, e1_2, k1_2⟩ := Yf b1_2
   go_wp2_with fail
   refine (rsvalid_any _ _ _).mono ?_
   rintro e wq1 ⟨rfl, rfl⟩
   rw [h1]
   go_wp2
   exact Yb (v := .tuple #[.agg #[.int .i64 0, .int .i64 0, .int .i64 0, .int .i64 0, .int .i64 0, .int .i64 0], .bool false, .int .i64 3]) (by simp [results, Tryz.results121, go_sem, *]) rfl ⟨rfl, bl1⟩
  have m := rmeet_all x y c d
  rcases hm : mtB x y c d
  ·rw [lrn_no hn h1 hm]
   rw [mtLo_no hm, mtHi_no hm, hm] at m
   have Q := Yh m; clear m
   have c5 : 0 ≤ re ∧ re ≤ 1152921504606846976 := by simpa [ctB] using hk.2.2.2.2.2
   clear hn hk hm
   have H1 := Yh h1; clear h1
   go_enter Tryz.func121, Tryz.ntmps121
   go_wp2_with fail
   refine (R.out _).mono ?_
   rintro e w1 ⟨rfl, hb1⟩
   have K1 : Below w.heap.size w w1 := Yc hb1 bl0
   have Z1 := K1.size
   have b1_0 := Yk (g := w.heap.size) hb1 bn0
   (try simp only [lst, ls0, ls1] at b1_0)
   have b1_1 := Yk (g := w.heap.size + 1) hb1 bn0
   (try simp only [lst, ls0, ls1] at b1_1)
   have b1_2 := Yk (g := w.heap.size + 2) hb1 bn0
   (try simp only [lst, ls0, ls1] at b1_2)
   clear hb1
   obtain ⟨c1_0, f1_0, l1_0, e1_0, k1_0⟩ := Yf b1_0
   obtain ⟨c1_1, f1_1, l1_1, e1_1, k1_1⟩ := Yf b1_1
   obtain ⟨c1_2, f1_2, l1_2, e1_2, k1_2⟩ := Yf b1_2
   go_wp2_with fail
   refine (rsvalid_any _ _ _).mono ?_
   rintro e wq1 ⟨rfl, rfl⟩
   rw [H1.out]
   go_wp2_with fail
   refine (Q.out _).mono ?_
   rintro e w2 ⟨rfl, hb2⟩
   have K2 : Below w.heap.size w w2 := Yc hb2 bl1
   have Z2 := K2.size
   have b1_0' := Yk (g := w.heap.size) hb2 bn1
   (try simp only [lst, ls0, ls1] at b1_0')
   have b1_1' := Yk (g := w.heap.size + 1) hb2 bn1
   (try simp only [lst, ls0, ls1] at b1_1')
   have b1_2' := Yk (g := w.heap.size + 2) hb2 bn1
   (try simp only [lst, ls0, ls1] at b1_2')
   have b2_0 := Yk (g := w1.heap.size) hb2 bn0
   (try simp only [lst, ls0, ls1] at b2_0)
   clear hb2 K1
   clear b1_0 c1_0 f1_0 l1_0 e1_0 k1_0; have b1_0 := b1_0'; clear b1_0'
   clear b1_1 c1_1 f1_1 l1_1 e1_1 k1_1; have b1_1 := b1_1'; clear b1_1'
   clear b1_2 c1_2 f1_2 l1_2 e1_2 k1_2; have b1_2 := b1_2'; clear b1_2'
   obtain ⟨c1_0, f1_0, l1_0, e1_0, k1_0⟩ := Yf b1_0
   obtain ⟨c1_1, f1_1, l1_1, e1_1, k1_1⟩ := Yf b1_1
   obtain ⟨c1_2, f1_2, l1_2, e1_2, k1_2⟩ := Yf b1_2
   obtain ⟨c2_0, f2_0, l2_0, e2_0, k2_0⟩ := Yf b2_0
   go_wp2
   exact Yb (v := .tuple #[.agg #[.int .i64 at_, .int .i64 lo, .int .i64 hi, .int .i64 ppb, .int .i64 le, .int .i64 (min (re + 1) 1152921504606846976)], .bool false, .int .i64 0]) (by simp [results, Tryz.results121, go_sem, *]) rfl ⟨rfl, bl1⟩
  ·rw [lrn_yes hn h1 hm]
   rw [mtLo_yes hm, mtHi_yes hm, hm] at m
   have Q := Yh m; clear m
   have c5 : 0 ≤ le ∧ le ≤ 1152921504606846976 := by simpa [ctB] using hk.2.2.2.2.1
   clear hn hk hm
   have H1 := Yh h1; clear h1
   generalize max x c = X at *
   generalize min y d = Y at *
   go_enter Tryz.func121, Tryz.ntmps121
   go_wp2_with fail
   refine (R.out _).mono ?_
   rintro e w1 ⟨rfl, hb1⟩
   have K1 : Below w.heap.size w w1 := Yc hb1 bl0
   have Z1 := K1.size
   have b1_0 := Yk (g := w.heap.size) hb1 bn0
   (try simp only [lst, ls0, ls1] at b1_0)
   have b1_1 := Yk (g := w.heap.size + 1) hb1 bn0
   (try simp only [lst, ls0, ls1] at b1_1)
   have b1_2 := Yk (g := w.heap.size + 2) hb1 bn0
   (try simp only [lst, ls0, ls1] at b1_2)
   clear hb1
   obtain ⟨c1_0, f1_0, l1_0, e1_0, k1_0⟩ := Yf b1_0
   obtain ⟨c1_1, f1_1, l1_1, e1_1, k1_1⟩ := Yf b1_1
   obtain ⟨c1_2, f1_2, l1_2, e1_2, k1_2⟩ := Yf b1_2
   go_wp2_with fail
   refine (rsvalid_any _ _ _).mono ?_
   rintro e wq1 ⟨rfl, rfl⟩
   rw [H1.out]
   go_wp2_with fail
   refine (Q.out _).mono ?_
   rintro e w2 ⟨rfl, hb2⟩
   have K2 : Below w.heap.size w w2 := Yc hb2 bl1
   have Z2 := K2.size
   have b1_0' := Yk (g := w.heap.size) hb2 bn1
   (try simp only [lst, ls0, ls1] at b1_0')
   have b1_1' := Yk (g := w.heap.size + 1) hb2 bn1
   (try simp only [lst, ls0, ls1] at b1_1')
   have b1_2' := Yk (g := w.heap.size + 2) hb2 bn1
   (try simp only [lst, ls0, ls1] at b1_2')
   have b2_0 := Yk (g := w1.heap.size) hb2 bn0
   (try simp only [lst, ls0, ls1] at b2_0)
   clear hb2 K1
   clear b1_0 c1_0 f1_0 l1_0 e1_0 k1_0; have b1_0 := b1_0'; clear b1_0'
   clear b1_1 c1_1 f1_1 l1_1 e1_1 k1_1; have b1_1 := b1_1'; clear b1_1'
   clear b1_2 c1_2 f1_2 l1_2 e1_2 k1_2; have b1_2 := b1_2'; clear b1_2'
   obtain ⟨c1_0, f1_0, l1_0, e1_0, k1_0⟩ := Yf b1_0
   obtain ⟨c1_1, f1_1, l1_1, e1_1, k1_1⟩ := Yf b1_1
   obtain ⟨c1_2, f1_2, l1_2, e1_2, k1_2⟩ := Yf b1_2
   obtain ⟨c2_0, f2_0, l2_0, e2_0, k2_0⟩ := Yf b2_0
   go_wp2
   exact Yb (v := .tuple #[.agg #[.int .i64 u, .int .i64 X, .int .i64 Y, .int .i64 ppb, .int .i64 (min (le + 1) 1152921504606846976), .int .i64 re], .bool true, .int .i64 0]) (by simp [results, Tryz.results121, go_sem, *]) rfl ⟨rfl, bl1⟩
 ·rw [lrn_e hn h]
  have hx : (e != 0) = true := by simpa using h
  have R := Yh r; clear r h hn
  go_enter Tryz.func121, Tryz.ntmps121
  go_wp2_with fail
  refine (R.out _).mono ?_
  rintro e w1 ⟨rfl, hb1⟩
  have K1 : Below w.heap.size w w1 := Yc hb1 bl0
  have Z1 := K1.size
  have b1_0 := Yk (g := w.heap.size) hb1 bn0
  (try simp only [lst, ls0, ls1] at b1_0)
  have b1_1 := Yk (g := w.heap.size + 1) hb1 bn0
  (try simp only [lst, ls0, ls1] at b1_1)
  have b1_2 := Yk (g := w.heap.size + 2) hb1 bn0
  (try simp only [lst, ls0, ls1] at b1_2)
  clear hb1
  obtain ⟨c1_0, f1_0, l1_0, e1_0, k1_0⟩ := Yf b1_0
  obtain ⟨c1_1, f1_1, l1_1, e1_1, k1_1⟩ := Yf b1_1
  obtain ⟨c1_2, f1_2, l1_2, e1_2, k1_2⟩ := Yf b1_2
  go_wp2
  exact Yb (v := .tuple #[.agg #[.int .i64 0, .int .i64 0, .int .i64 0, .int .i64 0, .int .i64 0, .int .i64 0], .bool false, .int .i64 e]) (by simp [results, Tryz.results121, go_sem, *]) rfl ⟨rfl, bl1⟩
end Go.Proofs.YtiinmhfolfgobaaGreatDoor
