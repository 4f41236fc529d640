/- Texts joined: I11O, D15P, C37 -/
import Derived.ChangeAlike
import Derived.RegionTactic
import Derived.Test.YtlnboheahbfgfaaGreatJ5
import Derived.Test.YtlnboheahbfgfaaGreatJ25
namespace Go.Proofs.YtlnboheahbfgfaaGreat
open Go.RowKit

theorem badS_two (a b c d : Int) : badS [(a, b), (c, d)] = !(vS a b && vS c d) := by simp [badS, anyS]
theorem spansAt_two {w : World} {g : Nat} {a b c d : Int} {t : TypeId} (h : Blk w g t #[.int .i64 a, .int .i64 b, .int .i64 c, .int .i64 d]) : SpansAt w (some ⟨g, 0, none⟩) 2 [(a, b), (c, d)] := by
 refine ⟨rfl, by omega, fun _ => ⟨g, 0, rfl, h.lt, fun j hj => ?_⟩⟩
 obtain rfl | rfl : j = 0 ∨ j = 1 := by omega
 ·exact ⟨by rw [h.cell]; rfl, by rw [h.cell]; rfl⟩
 ·exact ⟨by rw [h.cell]; rfl, by rw [h.cell]; rfl⟩
theorem Blk.under {w w' : World} {g : Nat} {t : TypeId} {cs : Array Value} (h : Blk w g t cs) (hb : Below w.heap.size w w') : Blk w' g t cs := Blk.keep hb h

set_option maxHeartbeats 1000000 in
theorem iadd_f (P Q : Nat) (a b c d : Int) (h1 : vS a b = true) (h2 : vS c d = true) (w : World) (hp : Blk w P 29 #[.int .i64 a, .int .i64 b]) (hq : Blk w Q 29 #[.int .i64 c, .int .i64 d]) :
  Calls Tryz.prog 147 #[.pointer (some ⟨P, 0, none⟩), .pointer (some ⟨Q, 0, none⟩)] w (RB w (.agg #[.int .i64 (a + c), .int .i64 (b + d)])) := by
 obtain ⟨x1, x2, x3⟩ := vS_true.1 h1
 obtain ⟨y1, y2, y3⟩ := vS_true.1 h2
 clear h1 h2
 obtain ⟨cp, fp, lp, ep, kp⟩ := Blk.facts hp
 obtain ⟨cq, fq, lq, eq, kq⟩ := Blk.facts hq
 go_enter Tryz.func147, Tryz.ntmps147
 go_wp2
 exact bodyPost_ret (v := .agg #[.int .i64 (a + c), .int .i64 (b + d)]) (by simp [results, Tryz.results147, go_sem, *]) rfl ⟨rfl, bl0⟩
set_option maxHeartbeats 3000000 in
theorem iadd_all (a b c d : Int) (w : World) :
  Calls Tryz.prog 124 #[.agg #[.int .i64 a, .int .i64 b], .agg #[.int .i64 c, .int .i64 d]] w (RB w (opV (vS a b && vS c d) true (a + c) (b + d))) := by
 rcases h : vS a b && vS c d
 ·rw [opV_3]
  have R := hYd (fun f w g (q : Blk w g 29 #[.int .i64 a, .int .i64 b, .int .i64 c, .int .i64 d]) => result_bad f (some ⟨g, 0, none⟩) 2 2 [(a, b), (c, d)] (by rw [badS_two, h]; rfl) w (spansAt_two q))
  go_enter Tryz.func124, Tryz.ntmps124
  go_wp2_with fail
  refine (R.out _ _ _ bn0).mono ?_
  rintro e w1 ⟨rfl, hb1⟩
  have K1 : Below w.heap.size w w1 := kept_call hb1 bl0
  have Z1 := K1.size
  have b1_2 := Blk.keep (g := w.heap.size + 2) hb1 bn0
  (try simp only [lst, ls0, ls1] at b1_2)
  clear hb1
  obtain ⟨c1_2, f1_2, l1_2, e1_2, k1_2⟩ := Blk.facts b1_2
  go_wp2
  exact bodyPost_ret (v := .tuple #[.agg #[.int .i64 0, .int .i64 0], .int .i64 3]) (by simp [results, Tryz.results124, go_sem, *]) rfl ⟨rfl, bl1⟩
 ·have hh := h
  rw [Bool.and_eq_true] at hh
  rw [opV_ok]
  obtain ⟨x, y, e, hv⟩ := mkS_form (a + c) (b + d)
  have R := hYd (fun P Q w g (q : Blk w g 29 #[.int .i64 a, .int .i64 b, .int .i64 c, .int .i64 d]) (p : Blk w P 29 #[.int .i64 a, .int .i64 b]) (r : Blk w Q 29 #[.int .i64 c, .int .i64 d]) => result_ok 147 (enters_of Tryz.func147 (by kernel_rfl) rfl) #[.pointer (some ⟨P, 0, none⟩), .pointer (some ⟨Q, 0, none⟩)] (a + c) (b + d) (some ⟨g, 0, none⟩) 2 2 [(a, b), (c, d)] (by rw [badS_two, h]; rfl) w (spansAt_two q) (fun w' hb => iadd_f P Q a b c d hh.1 hh.2 w' (Blk.keep hb p) (Blk.keep hb r)))
  rw [hv] at R ⊢
  clear hv h hh
  go_enter Tryz.func124, Tryz.ntmps124
  go_wp2_with fail
  refine (R.out _ _ _ _ bn0 bn0 bn0).mono ?_
  rintro e w1 ⟨rfl, hb1⟩
  have K1 : Below w.heap.size w w1 := kept_call hb1 bl0
  have Z1 := K1.size
  have b1_2 := Blk.keep (g := w.heap.size + 2) hb1 bn0
  (try simp only [lst, ls0, ls1] at b1_2)
  clear hb1
  obtain ⟨c1_2, f1_2, l1_2, e1_2, k1_2⟩ := Blk.facts b1_2
  go_wp2
  exact bodyPost_ret (v := .tuple #[.agg #[.int .i64 x, .int .i64 y], .int .i64 e]) (by simp [results, Tryz.results124, go_sem, *]) rfl ⟨rfl, bl1⟩
end Go.Proofs.YtlnboheahbfgfaaGreat
namespace Go.Proofs.YtlnboheahbfgfaaGreat
open Go.RowKit

set_option maxHeartbeats 1000000 in
theorem dmoved_3 (a b t p : Int) (f : Value) (h : vS a b = false) (w : World) :
  Calls Tryz.prog 122 #[.agg #[.int .i64 a, .int .i64 b], .int .i64 t, .int .i64 p, f] w (RB w (.tuple #[.agg #[.int .i64 0, .int .i64 0], .int .i64 3])) := by
 go_enter Tryz.func122, Tryz.ntmps122
 go_wp2_with fail
 refine (svalid_any _ _ _).mono ?_
 rintro e wq1 ⟨rfl, rfl⟩
 rw [h]
 go_wp2
 exact bodyPost_ret (v := .tuple #[.agg #[.int .i64 0, .int .i64 0], .int .i64 3]) (by simp [results, Tryz.results122, go_sem, *]) rfl ⟨rfl, bl0⟩
set_option maxHeartbeats 1000000 in
theorem dmoved_4 (a b t p : Int) (f : Value) (h : vS a b = true) (h' : inD t p = false) (w : World) :
  Calls Tryz.prog 122 #[.agg #[.int .i64 a, .int .i64 b], .int .i64 t, .int .i64 p, f] w (RB w (.tuple #[.agg #[.int .i64 0, .int .i64 0], .int .i64 4])) := by
 have r := elapsed_any t p
 rw [outV_no h'] at r
 have R := hYd r; clear r
 go_enter Tryz.func122, Tryz.ntmps122
 go_wp2_with fail
 refine (svalid_any _ _ _).mono ?_
 rintro e wq1 ⟨rfl, rfl⟩
 rw [h]
 go_wp2_with fail
 refine (R.out _).mono ?_
 rintro e w1 ⟨rfl, hb1⟩
 have K1 : Below w.heap.size w w1 := kept_call hb1 bl0
 have Z1 := K1.size
 have b1_1 := Blk.keep (g := w.heap.size + 1) hb1 bn0
 (try simp only [lst, ls0, ls1] at b1_1)
 clear hb1
 obtain ⟨c1_1, f1_1, l1_1, e1_1, k1_1⟩ := Blk.facts b1_1
 go_wp2
 exact bodyPost_ret (v := .tuple #[.agg #[.int .i64 0, .int .i64 0], .int .i64 4]) (by simp [results, Tryz.results122, go_sem, *]) rfl ⟨rfl, bl1⟩
set_option maxRecDepth 100000 in
set_option maxHeartbeats 2000000 in
theorem dmoved_ok (a b t p : Int) (k : FuncId) (ek : ∀ args w, (callFunc k args).run Tryz.prog w = .ok (.enter k args) w) (P : Nat) (x y e : Int) (h : vS a b = true) (h' : inD t p = true) (w : World) (hk : ∀ w', Below w.heap.size w w' → Calls Tryz.prog k #[.agg #[.int .i64 (elLo t p), .int .i64 (elHi t p)], .pointer (some ⟨P, 0, none⟩)] w' (RB w' (.tuple #[.agg #[.int .i64 x, .int .i64 y], .int .i64 e]))) :
  Calls Tryz.prog 122 #[.agg #[.int .i64 a, .int .i64 b], .int .i64 t, .int .i64 p, .func (.func k) #[] #[.pointer (some ⟨P, 0, none⟩)]] w (RB w (.tuple #[.agg #[.int .i64 x, .int .i64 y], .int .i64 e])) := by
 have r := elapsed_any t p
 rw [outV_ok h'] at r
 have R := hYd r; clear r
 have HK := hYd hk; clear hk
 generalize elLo t p = lo at *
 generalize elHi t p = hi at *
 have H := hYd h; clear h
 go_enter Tryz.func122, Tryz.ntmps122
 go_wp2_with fail
 refine (svalid_any _ _ _).mono ?_
 rintro e wq1 ⟨rfl, rfl⟩
 rw [H.out]
 go_wp2_with fail
 refine (R.out _).mono ?_
 rintro e w1 ⟨rfl, hb1⟩
 have K1 : Below w.heap.size w w1 := kept_call hb1 bl0
 have Z1 := K1.size
 have b1_0 := Blk.keep (g := w.heap.size) hb1 bn0
 (try simp only [lst, ls0, ls1] at b1_0)
 have b1_1 := Blk.keep (g := w.heap.size + 1) hb1 bn0
 (try simp only [lst, ls0, ls1] at b1_1)
 clear hb1
 obtain ⟨c1_0, f1_0, l1_0, e1_0, k1_0⟩ := Blk.facts b1_0
 obtain ⟨c1_1, f1_1, l1_1, e1_1, k1_1⟩ := Blk.facts b1_1
 go_wp2_with fail
 refine (HK.out _ bl1).mono ?_
 rintro e w2 ⟨rfl, hb2⟩
 have K2 : Below w.heap.size w w2 := kept_call hb2 bl1
 have Z2 := K2.size
 have b1_0' := Blk.keep (g := w.heap.size) hb2 bn1
 (try simp only [lst, ls0, ls1] at b1_0')
 have b1_1' := Blk.keep (g := w.heap.size + 1) hb2 bn1
 (try simp only [lst, ls0, ls1] at b1_1')
 have b2_0 := Blk.keep (g := w1.heap.size) hb2 bn0
 (try simp only [lst, ls0, ls1] at b2_0)
 clear hb2 K1
 clear b1_0 c1_0 f1_0 l1_0 e1_0 k1_0; have b1_0 := b1_0'; clear b1_0'
 clear b1_1 c1_1 f1_1 l1_1 e1_1 k1_1; have b1_1 := b1_1'; clear b1_1'
 obtain ⟨c1_0, f1_0, l1_0, e1_0, k1_0⟩ := Blk.facts b1_0
 obtain ⟨c1_1, f1_1, l1_1, e1_1, k1_1⟩ := Blk.facts b1_1
 obtain ⟨c2_0, f2_0, l2_0, e2_0, k2_0⟩ := Blk.facts b2_0
 go_wp2
 exact bodyPost_ret (v := .tuple #[.agg #[.int .i64 x, .int .i64 y], .int .i64 _]) (by simp [results, Tryz.results122, go_sem, *]) rfl ⟨rfl, bl1⟩
set_option maxHeartbeats 2000000 in
theorem dproj_f (P : Nat) (a b c d : Int) (w : World) (hp : Blk w P 29 #[.int .i64 a, .int .i64 b]) :
  Calls Tryz.prog 123 #[.agg #[.int .i64 c, .int .i64 d], .pointer (some ⟨P, 0, none⟩)] w (RB w (opV (vS a b && vS c d) true (a + c) (b + d))) := by
 have r := iadd_all a b c d
 obtain ⟨x, y, e, hv⟩ := opV_form (vS a b && vS c d) true (a + c) (b + d)
 rw [hv] at r ⊢
 have R := hYd r; clear r hv
 obtain ⟨cp, fp, lp, ep, kp⟩ := Blk.facts hp
 go_enter Tryz.func123, Tryz.ntmps123
 go_wp2_with fail
 refine (R.out _).mono ?_
 rintro e w1 ⟨rfl, hb1⟩
 have K1 : Below w.heap.size w w1 := kept_call hb1 bl0
 have Z1 := K1.size
 have b1_1 := Blk.keep (g := w.heap.size + 1) hb1 bn0
 (try simp only [lst, ls0, ls1] at b1_1)
 clear hb1
 obtain ⟨c1_1, f1_1, l1_1, e1_1, k1_1⟩ := Blk.facts b1_1
 go_wp2
 exact bodyPost_ret (v := .tuple #[.agg #[.int .i64 x, .int .i64 y], .int .i64 _]) (by simp [results, Tryz.results123, go_sem, *]) rfl ⟨rfl, bl1⟩
set_option maxHeartbeats 3000000 in
theorem dproj_op (a b t p : Int) (w : World) :
  Calls Tryz.prog 89 #[.agg #[.int .i64 a, .int .i64 b], .int .i64 t, .int .i64 p] w (RB w (opV (vS a b) (inD t p) (a + elLo t p) (b + elHi t p))) := by
 rcases h : vS a b
 ·rw [opV_3]
  have R := hYd (fun f w => dmoved_3 a b t p f h w)
  go_enter Tryz.func89, Tryz.ntmps89
  go_wp2_with fail
  refine (R.out _ _).mono ?_
  rintro e w1 ⟨rfl, hb1⟩
  have K1 : Below w.heap.size w w1 := kept_call hb1 bl0
  have Z1 := K1.size
  have b1_1 := Blk.keep (g := w.heap.size + 1) hb1 bn0
  (try simp only [lst, ls0, ls1] at b1_1)
  clear hb1
  obtain ⟨c1_1, f1_1, l1_1, e1_1, k1_1⟩ := Blk.facts b1_1
  go_wp2
  exact bodyPost_ret (v := .tuple #[.agg #[.int .i64 0, .int .i64 0], .int .i64 3]) (by simp [results, Tryz.results89, go_sem, *]) rfl ⟨rfl, bl1⟩
 rcases h' : inD t p
 ·rw [opV_4]
  have R := hYd (fun f w => dmoved_4 a b t p f h h' w)
  go_enter Tryz.func89, Tryz.ntmps89
  go_wp2_with fail
  refine (R.out _ _).mono ?_
  rintro e w1 ⟨rfl, hb1⟩
  have K1 : Below w.heap.size w w1 := kept_call hb1 bl0
  have Z1 := K1.size
  have b1_1 := Blk.keep (g := w.heap.size + 1) hb1 bn0
  (try simp only [lst, ls0, ls1] at b1_1)
  clear hb1
  obtain ⟨c1_1, f1_1, l1_1, e1_1, k1_1⟩ := Blk.facts b1_1
  go_wp2
  exact bodyPost_ret (v := .tuple #[.agg #[.int .i64 0, .int .i64 0], .int .i64 4]) (by simp [results, Tryz.results89, go_sem, *]) rfl ⟨rfl, bl1⟩
 ·rw [opV_ok]
  obtain ⟨d0, d1, p0, p1⟩ := inD_true.1 h'
  have hs := el_span d0 p0 p1 d1
  obtain ⟨x, y, e, hv⟩ := mkS_form (a + elLo t p) (b + elHi t p)
  have q := fun P w hp => dproj_f P a b (elLo t p) (elHi t p) w hp
  rw [h, hs, show (true && true) = true from rfl, opV_ok, hv] at q
  have R := hYd (fun P w hp => dmoved_ok a b t p 123 (enters_of Tryz.func123 (by kernel_rfl) rfl) P x y e h h' w (fun w' hb => q P w' (Blk.keep hb hp)))
  rw [hv]
  clear hv q h h' hs d0 d1 p0 p1
  go_enter Tryz.func89, Tryz.ntmps89
  go_wp2_with fail
  refine (R.out _ _ bn0).mono ?_
  rintro e w1 ⟨rfl, hb1⟩
  have K1 : Below w.heap.size w w1 := kept_call hb1 bl0
  have Z1 := K1.size
  have b1_1 := Blk.keep (g := w.heap.size + 1) hb1 bn0
  (try simp only [lst, ls0, ls1] at b1_1)
  clear hb1
  obtain ⟨c1_1, f1_1, l1_1, e1_1, k1_1⟩ := Blk.facts b1_1
  go_wp2
  exact bodyPost_ret (v := .tuple #[.agg #[.int .i64 x, .int .i64 y], .int .i64 _]) (by simp [results, Tryz.results89, go_sem, *]) rfl ⟨rfl, bl1⟩
end Go.Proofs.YtlnboheahbfgfaaGreat
namespace Go.Proofs.YtlnboheahbfgfaaGreat
open Go.RowKit

set_option maxHeartbeats 1000000 in
theorem counted_any (n : Int) (w : World) :
  Calls Tryz.prog 88 #[.int .i64 n] w fun e w' => e = .returned (.bool (ctB n)) ∧ w = w' := by
 by_cases h : 0 ≤ n
 ·by_cases h2 : n ≤ 1152921504606846976
  ·rw [show ctB n = true by simp [ctB, h, h2]]
   go_enter Tryz.func88, Tryz.ntmps88
   go_wp2; go_ret; exact ⟨rfl, rfl⟩
  ·rw [show ctB n = false by simp [ctB, h, h2]]
   go_enter Tryz.func88, Tryz.ntmps88
   go_wp2; go_ret; exact ⟨rfl, rfl⟩
 ·rw [show ctB n = false by simp [ctB, h]]
  go_enter Tryz.func88, Tryz.ntmps88
  go_wp2; go_ret; exact ⟨rfl, rfl⟩
set_option maxHeartbeats 2000000 in
theorem ikcheck_any (at_ lo hi ppb le re : Int) (w : World) :
  Calls Tryz.prog 51 #[.agg #[.int .i64 at_, .int .i64 lo, .int .i64 hi, .int .i64 ppb, .int .i64 le, .int .i64 re]] w (RB w (.int .i64 (kE at_ lo hi ppb le re))) := by
 rcases h : vS lo hi
 ·rw [kE_3 h]
  go_enter Tryz.func51, Tryz.ntmps51
  go_wp2_with fail
  refine (svalid_any _ _ _).mono ?_
  rintro e wq1 ⟨rfl, rfl⟩
  rw [h]
  go_wp2
  go_ret
  exact ⟨rfl, bl0⟩
 rcases h1 : vT at_
 ·rw [kE_4 h (by simp [h1])]
  go_enter Tryz.func51, Tryz.ntmps51
  go_wp2_with fail
  refine (svalid_any _ _ _).mono ?_
  rintro e wq2 ⟨rfl, rfl⟩
  rw [h]
  go_wp2_with fail
  refine (tvalid_any _ _).mono ?_
  rintro e wq3 ⟨rfl, rfl⟩
  rw [h1]
  go_wp2
  go_ret
  exact ⟨rfl, bl0⟩
 by_cases h2 : ppb < 0
 ·rw [kE_4 h (by omega)]
  go_enter Tryz.func51, Tryz.ntmps51
  go_wp2_with fail
  refine (svalid_any _ _ _).mono ?_
  rintro e wq4 ⟨rfl, rfl⟩
  rw [h]
  go_wp2_with fail
  refine (tvalid_any _ _).mono ?_
  rintro e wq5 ⟨rfl, rfl⟩
  rw [h1]
  go_wp2
  go_ret
  exact ⟨rfl, bl0⟩
 by_cases h3 : 1000000 < ppb
 ·rw [kE_4 h (by omega)]
  go_enter Tryz.func51, Tryz.ntmps51
  go_wp2_with fail
  refine (svalid_any _ _ _).mono ?_
  rintro e wq6 ⟨rfl, rfl⟩
  rw [h]
  go_wp2_with fail
  refine (tvalid_any _ _).mono ?_
  rintro e wq7 ⟨rfl, rfl⟩
  rw [h1]
  go_wp2
  go_ret
  exact ⟨rfl, bl0⟩
 rcases h4 : ctB le
 ·rw [kE_4 h (by simp [h4])]
  go_enter Tryz.func51, Tryz.ntmps51
  go_wp2_with fail
  refine (svalid_any _ _ _).mono ?_
  rintro e wq8 ⟨rfl, rfl⟩
  rw [h]
  go_wp2_with fail
  refine (tvalid_any _ _).mono ?_
  rintro e wq9 ⟨rfl, rfl⟩
  rw [h1]
  go_wp2_with fail
  refine (counted_any _ _).mono ?_
  rintro e wq10 ⟨rfl, rfl⟩
  rw [h4]
  go_wp2
  go_ret
  exact ⟨rfl, bl0⟩
 rcases h5 : ctB re
 ·rw [kE_4 h (by simp [h5])]
  go_enter Tryz.func51, Tryz.ntmps51
  go_wp2_with fail
  refine (svalid_any _ _ _).mono ?_
  rintro e wq11 ⟨rfl, rfl⟩
  rw [h]
  go_wp2_with fail
  refine (tvalid_any _ _).mono ?_
  rintro e wq12 ⟨rfl, rfl⟩
  rw [h1]
  go_wp2_with fail
  refine (counted_any _ _).mono ?_
  rintro e wq13 ⟨rfl, rfl⟩
  rw [h4]
  go_wp2_with fail
  refine (counted_any _ _).mono ?_
  rintro e wq14 ⟨rfl, rfl⟩
  rw [h5]
  go_wp2
  go_ret
  exact ⟨rfl, bl0⟩
 ·rw [kE_0 h h1 (by omega) (by omega) h4 h5]
  go_enter Tryz.func51, Tryz.ntmps51
  go_wp2_with fail
  refine (svalid_any _ _ _).mono ?_
  rintro e wq15 ⟨rfl, rfl⟩
  rw [h]
  go_wp2_with fail
  refine (tvalid_any _ _).mono ?_
  rintro e wq16 ⟨rfl, rfl⟩
  rw [h1]
  go_wp2_with fail
  refine (counted_any _ _).mono ?_
  rintro e wq17 ⟨rfl, rfl⟩
  rw [h4]
  go_wp2_with fail
  refine (counted_any _ _).mono ?_
  rintro e wq18 ⟨rfl, rfl⟩
  rw [h5]
  go_wp2
  go_ret
  exact ⟨rfl, bl0⟩
set_option maxHeartbeats 1000000 in
theorem ibegin_any (at_ lo hi ppb : Int) (w : World) :
  Calls Tryz.prog 18 #[.int .i64 at_, .agg #[.int .i64 lo, .int .i64 hi], .int .i64 ppb] w (RB w (begV at_ lo hi ppb)) := by
 have r := ikcheck_any at_ lo hi ppb 0 0
 by_cases h : kE at_ lo hi ppb 0 0 = 0
 ·rw [begV_ok h]
  rw [h] at r
  have R := hYd r; clear r
  go_enter Tryz.func18, Tryz.ntmps18
  go_wp2_with fail
  refine (R.out _).mono ?_
  rintro e w1 ⟨rfl, hb1⟩
  have K1 : Below w.heap.size w w1 := kept_call hb1 bl0
  have Z1 := K1.size
  have b1_1 := Blk.keep (g := w.heap.size + 1) hb1 bn0
  (try simp only [lst, ls0, ls1] at b1_1)
  have b1_2 := Blk.keep (g := w.heap.size + 2) hb1 bn0
  (try simp only [lst, ls0, ls1] at b1_2)
  clear hb1
  obtain ⟨c1_1, f1_1, l1_1, e1_1, k1_1⟩ := Blk.facts b1_1
  obtain ⟨c1_2, f1_2, l1_2, e1_2, k1_2⟩ := Blk.facts b1_2
  go_wp2
  exact bodyPost_ret (v := .tuple #[.agg #[.int .i64 at_, .int .i64 lo, .int .i64 hi, .int .i64 ppb, .int .i64 0, .int .i64 0], .int .i64 0]) (by simp [results, Tryz.results18, go_sem, *]) rfl ⟨rfl, bl1⟩
 ·rw [begV_e h]
  generalize kE at_ lo hi ppb 0 0 = x at *
  have hx : (x != 0) = true := by simpa using h
  have R := hYd r; clear r h
  go_enter Tryz.func18, Tryz.ntmps18
  go_wp2_with fail
  refine (R.out _).mono ?_
  rintro e w1 ⟨rfl, hb1⟩
  have K1 : Below w.heap.size w w1 := kept_call hb1 bl0
  have Z1 := K1.size
  have b1_1 := Blk.keep (g := w.heap.size + 1) hb1 bn0
  (try simp only [lst, ls0, ls1] at b1_1)
  have b1_2 := Blk.keep (g := w.heap.size + 2) hb1 bn0
  (try simp only [lst, ls0, ls1] at b1_2)
  clear hb1
  obtain ⟨c1_1, f1_1, l1_1, e1_1, k1_1⟩ := Blk.facts b1_1
  obtain ⟨c1_2, f1_2, l1_2, e1_2, k1_2⟩ := Blk.facts b1_2
  go_wp2
  exact bodyPost_ret (v := .tuple #[.agg #[.int .i64 0, .int .i64 0, .int .i64 0, .int .i64 0, .int .i64 0, .int .i64 0], .int .i64 x]) (by simp [results, Tryz.results18, go_sem, *]) rfl ⟨rfl, bl1⟩
set_option maxHeartbeats 3000000 in
theorem inow_any (at_ lo hi ppb le re u : Int) (w : World) :
  Calls Tryz.prog 52 #[.agg #[.int .i64 at_, .int .i64 lo, .int .i64 hi, .int .i64 ppb, .int .i64 le, .int .i64 re], .int .i64 u] w (RB w (V3 (nowT at_ lo hi ppb le re u))) := by
 have r := ikcheck_any at_ lo hi ppb le re
 by_cases h : kE at_ lo hi ppb le re = 0
 ·rw [h] at r
  have R := hYd r; clear r
  by_cases h1 : u < at_
  ·rw [nowT_12 h h1]
   go_enter Tryz.func52, Tryz.ntmps52
   go_wp2_with fail
   refine (R.out _).mono ?_
   rintro e w1 ⟨rfl, hb1⟩
   have K1 : Below w.heap.size w w1 := kept_call hb1 bl0
   have Z1 := K1.size
   have b1_0 := Blk.keep (g := w.heap.size) hb1 bn0
   (try simp only [lst, ls0, ls1] at b1_0)
   have b1_1 := Blk.keep (g := w.heap.size + 1) hb1 bn0
   (try simp only [lst, ls0, ls1] at b1_1)
   clear hb1
   obtain ⟨c1_0, f1_0, l1_0, e1_0, k1_0⟩ := Blk.facts b1_0
   obtain ⟨c1_1, f1_1, l1_1, e1_1, k1_1⟩ := Blk.facts b1_1
   go_wp2
   exact bodyPost_ret (v := .tuple #[.agg #[.int .i64 0, .int .i64 0], .int .i64 12]) (by simp [results, Tryz.results52, go_sem, *]) rfl ⟨rfl, bl1⟩
  rcases h2 : vT u
  ·rw [nowT_4 h h1 h2]
   go_enter Tryz.func52, Tryz.ntmps52
   go_wp2_with fail
   refine (R.out _).mono ?_
   rintro e w1 ⟨rfl, hb1⟩
   have K1 : Below w.heap.size w w1 := kept_call hb1 bl0
   have Z1 := K1.size
   have b1_0 := Blk.keep (g := w.heap.size) hb1 bn0
   (try simp only [lst, ls0, ls1] at b1_0)
   have b1_1 := Blk.keep (g := w.heap.size + 1) hb1 bn0
   (try simp only [lst, ls0, ls1] at b1_1)
   clear hb1
   obtain ⟨c1_0, f1_0, l1_0, e1_0, k1_0⟩ := Blk.facts b1_0
   obtain ⟨c1_1, f1_1, l1_1, e1_1, k1_1⟩ := Blk.facts b1_1
   go_wp2_with fail
   refine (tvalid_any _ _).mono ?_
   rintro e wq1 ⟨rfl, rfl⟩
   rw [h2]
   go_wp2
   exact bodyPost_ret (v := .tuple #[.agg #[.int .i64 0, .int .i64 0], .int .i64 4]) (by simp [results, Tryz.results52, go_sem, *]) rfl ⟨rfl, bl1⟩
  ·obtain ⟨q0, q1, q2, q3, q4, q5⟩ := kE_all h
   rw [nowT_ok h h1 h2]
   have q := dproj_op lo hi (u - at_) ppb
   rw [opV_opT] at q
   have v1 := vT_true.1 q1; have v2 := vT_true.1 h2
   generalize opT (vS lo hi) (inD (u - at_) ppb) (lo + elLo (u - at_) ppb) (hi + elHi (u - at_) ppb) = X at *
   obtain ⟨x, y, e⟩ := X
   unfold V3 at q ⊢
   dsimp only at q ⊢
   have Q := hYd q; clear q h q0 q1 q4 q5
   have H2 := hYd h2; clear h2
   go_enter Tryz.func52, Tryz.ntmps52
   go_wp2_with fail
   refine (R.out _).mono ?_
   rintro e w1 ⟨rfl, hb1⟩
   have K1 : Below w.heap.size w w1 := kept_call hb1 bl0
   have Z1 := K1.size
   have b1_0 := Blk.keep (g := w.heap.size) hb1 bn0
   (try simp only [lst, ls0, ls1] at b1_0)
   have b1_1 := Blk.keep (g := w.heap.size + 1) hb1 bn0
   (try simp only [lst, ls0, ls1] at b1_1)
   clear hb1
   obtain ⟨c1_0, f1_0, l1_0, e1_0, k1_0⟩ := Blk.facts b1_0
   obtain ⟨c1_1, f1_1, l1_1, e1_1, k1_1⟩ := Blk.facts b1_1
   go_wp2_with fail
   refine (tvalid_any _ _).mono ?_
   rintro e wq1 ⟨rfl, rfl⟩
   rw [H2.out]
   go_wp2_with fail
   refine (Q.out _).mono ?_
   rintro e w2 ⟨rfl, hb2⟩
   have K2 : Below w.heap.size w w2 := kept_call hb2 bl1
   have Z2 := K2.size
   have b1_0' := Blk.keep (g := w.heap.size) hb2 bn1
   (try simp only [lst, ls0, ls1] at b1_0')
   have b1_1' := Blk.keep (g := w.heap.size + 1) hb2 bn1
   (try simp only [lst, ls0, ls1] at b1_1')
   clear hb2 K1
   clear b1_0 c1_0 f1_0 l1_0 e1_0 k1_0; have b1_0 := b1_0'; clear b1_0'
   clear b1_1 c1_1 f1_1 l1_1 e1_1 k1_1; have b1_1 := b1_1'; clear b1_1'
   obtain ⟨c1_0, f1_0, l1_0, e1_0, k1_0⟩ := Blk.facts b1_0
   obtain ⟨c1_1, f1_1, l1_1, e1_1, k1_1⟩ := Blk.facts b1_1
   go_wp2
   exact bodyPost_ret (v := .tuple #[.agg #[.int .i64 x, .int .i64 y], .int .i64 e]) (by simp [results, Tryz.results52, go_sem, *]) rfl ⟨rfl, bl1⟩
 ·rw [nowT_e h]
  generalize kE at_ lo hi ppb le re = x at *
  have hx : (x != 0) = true := by simpa using h
  have R := hYd r; clear r h
  go_enter Tryz.func52, Tryz.ntmps52
  go_wp2_with fail
  refine (R.out _).mono ?_
  rintro e w1 ⟨rfl, hb1⟩
  have K1 : Below w.heap.size w w1 := kept_call hb1 bl0
  have Z1 := K1.size
  have b1_0 := Blk.keep (g := w.heap.size) hb1 bn0
  (try simp only [lst, ls0, ls1] at b1_0)
  have b1_1 := Blk.keep (g := w.heap.size + 1) hb1 bn0
  (try simp only [lst, ls0, ls1] at b1_1)
  clear hb1
  obtain ⟨c1_0, f1_0, l1_0, e1_0, k1_0⟩ := Blk.facts b1_0
  obtain ⟨c1_1, f1_1, l1_1, e1_1, k1_1⟩ := Blk.facts b1_1
  go_wp2
  exact bodyPost_ret (v := .tuple #[.agg #[.int .i64 0, .int .i64 0], .int .i64 x]) (by simp [results, Tryz.results52, go_sem, *]) rfl ⟨rfl, bl1⟩
set_option maxRecDepth 100000 in
set_option maxHeartbeats 4000000 in
theorem ilearn_any (at_ lo hi ppb le re u c d : Int) (w : World) :
  Calls Tryz.prog 19 #[.agg #[.int .i64 at_, .int .i64 lo, .int .i64 hi, .int .i64 ppb, .int .i64 le, .int .i64 re], .int .i64 u, .agg #[.int .i64 c, .int .i64 d]] w (RB w (lrn at_ lo hi ppb le re u c d).V) := by
 have r := inow_any at_ lo hi ppb le re u
 rcases hn : nowT at_ lo hi ppb le re u with ⟨x, y, e⟩
 rw [hn] at r
 unfold V3 at r
 dsimp only at r
 by_cases h : e = 0
 ·subst h
  have hk := kE_all (now_0 hn)
  have R := hYd r; clear r
  rcases h1 : vS c d
  ·rw [lrn_3 hn h1]
   clear hn hk
   go_enter Tryz.func19, Tryz.ntmps19
   go_wp2_with fail
   refine (R.out _).mono ?_
   rintro e w1 ⟨rfl, hb1⟩
   have K1 : Below w.heap.size w w1 := kept_call hb1 bl0
   have Z1 := K1.size
   have b1_0 := Blk.keep (g := w.heap.size) hb1 bn0
   (try simp only [lst, ls0, ls1] at b1_0)
   have b1_1 := Blk.keep (g := w.heap.size + 1) hb1 bn0
   (try simp only [lst, ls0, ls1] at b1_1)
   have b1_2 := Blk.keep (g := w.heap.size + 2) hb1 bn0
   (try simp only [lst, ls0, ls1] at b1_2)
   clear hb1
   obtain ⟨c1_0, f1_0, l1_0, e1_0, k1_0⟩ := Blk.facts b1_0
   obtain ⟨c1_1, f1_1, l1_1, e1_1, k1_1⟩ := Blk.facts b1_1
   obtain ⟨c1_2, f1_2, l1_2, e1_2, k1_2⟩ := Blk.facts b1_2
   go_wp2_with fail
   refine (svalid_any _ _ _).mono ?_
   rintro e wq1 ⟨rfl, rfl⟩
   rw [h1]
   go_wp2
   exact bodyPost_ret (v := .tuple #[.agg #[.int .i64 0, .int .i64 0, .int .i64 0, .int .i64 0, .int .i64 0, .int .i64 0], .bool false, .int .i64 3]) (by simp [results, Tryz.results19, go_sem, *]) rfl ⟨rfl, bl1⟩
  have m := imeet_all x y c d
  rcases hm : mtB x y c d
  ·rw [lrn_no hn h1 hm]
   rw [mtLo_no hm, mtHi_no hm, hm] at m
   have Q := hYd m; clear m
   have c5 : 0 ≤ re ∧ re ≤ 1152921504606846976 := by simpa [ctB] using hk.2.2.2.2.2
   clear hn hk hm
   have H1 := hYd h1; clear h1
   go_enter Tryz.func19, Tryz.ntmps19
   go_wp2_with fail
   refine (R.out _).mono ?_
   rintro e w1 ⟨rfl, hb1⟩
   have K1 : Below w.heap.size w w1 := kept_call hb1 bl0
   have Z1 := K1.size
   have b1_0 := Blk.keep (g := w.heap.size) hb1 bn0
   (try simp only [lst, ls0, ls1] at b1_0)
   have b1_1 := Blk.keep (g := w.heap.size + 1) hb1 bn0
   (try simp only [lst, ls0, ls1] at b1_1)
   have b1_2 := Blk.keep (g := w.heap.size + 2) hb1 bn0
   (try simp only [lst, ls0, ls1] at b1_2)
   clear hb1
   obtain ⟨c1_0, f1_0, l1_0, e1_0, k1_0⟩ := Blk.facts b1_0
   obtain ⟨c1_1, f1_1, l1_1, e1_1, k1_1⟩ := Blk.facts b1_1
   obtain ⟨c1_2, f1_2, l1_2, e1_2, k1_2⟩ := Blk.facts b1_2
   go_wp2_with fail
   refine (svalid_any _ _ _).mono ?_
   rintro e wq1 ⟨rfl, rfl⟩
   rw [H1.out]
   go_wp2_with fail
   refine (Q.out _).mono ?_
   rintro e w2 ⟨rfl, hb2⟩
   have K2 : Below w.heap.size w w2 := kept_call hb2 bl1
   have Z2 := K2.size
   have b1_0' := Blk.keep (g := w.heap.size) hb2 bn1
   (try simp only [lst, ls0, ls1] at b1_0')
   have b1_1' := Blk.keep (g := w.heap.size + 1) hb2 bn1
   (try simp only [lst, ls0, ls1] at b1_1')
   have b1_2' := Blk.keep (g := w.heap.size + 2) hb2 bn1
   (try simp only [lst, ls0, ls1] at b1_2')
   have b2_0 := Blk.keep (g := w1.heap.size) hb2 bn0
   (try simp only [lst, ls0, ls1] at b2_0)
   clear hb2 K1
   clear b1_0 c1_0 f1_0 l1_0 e1_0 k1_0; have b1_0 := b1_0'; clear b1_0'
   clear b1_1 c1_1 f1_1 l1_1 e1_1 k1_1; have b1_1 := b1_1'; clear b1_1'
   clear b1_2 c1_2 f1_2 l1_2 e1_2 k1_2; have b1_2 := b1_2'; clear b1_2'
   obtain ⟨c1_0, f1_0, l1_0, e1_0, k1_0⟩ := Blk.facts b1_0
   obtain ⟨c1_1, f1_1, l1_1, e1_1, k1_1⟩ := Blk.facts b1_1
   obtain ⟨c1_2, f1_2, l1_2, e1_2, k1_2⟩ := Blk.facts b1_2
   obtain ⟨c2_0, f2_0, l2_0, e2_0, k2_0⟩ := Blk.facts b2_0
   go_wp2
   exact bodyPost_ret (v := .tuple #[.agg #[.int .i64 at_, .int .i64 lo, .int .i64 hi, .int .i64 ppb, .int .i64 le, .int .i64 (min (re + 1) 1152921504606846976)], .bool false, .int .i64 0]) (by simp [results, Tryz.results19, go_sem, *]) rfl ⟨rfl, bl1⟩
  ·rw [lrn_yes hn h1 hm]
   rw [mtLo_yes hm, mtHi_yes hm, hm] at m
   have Q := hYd m; clear m
   have c5 : 0 ≤ le ∧ le ≤ 1152921504606846976 := by simpa [ctB] using hk.2.2.2.2.1
   clear hn hk hm
   have H1 := hYd h1; clear h1
   generalize max x c = X at *
   generalize min y d = Y at *
   go_enter Tryz.func19, Tryz.ntmps19
   go_wp2_with fail
   refine (R.out _).mono ?_
   rintro e w1 ⟨rfl, hb1⟩
   have K1 : Below w.heap.size w w1 := kept_call hb1 bl0
   have Z1 := K1.size
   have b1_0 := Blk.keep (g := w.heap.size) hb1 bn0
   (try simp only [lst, ls0, ls1] at b1_0)
   have b1_1 := Blk.keep (g := w.heap.size + 1) hb1 bn0
   (try simp only [lst, ls0, ls1] at b1_1)
   have b1_2 := Blk.keep (g := w.heap.size + 2) hb1 bn0
   (try simp only [lst, ls0, ls1] at b1_2)
   clear hb1
   obtain ⟨c1_0, f1_0, l1_0, e1_0, k1_0⟩ := Blk.facts b1_0
   obtain ⟨c1_1, f1_1, l1_1, e1_1, k1_1⟩ := Blk.facts b1_1
   obtain ⟨c1_2, f1_2, l1_2, e1_2, k1_2⟩ := Blk.facts b1_2
   go_wp2_with fail
   refine (svalid_any _ _ _).mono ?_
   rintro e wq1 ⟨rfl, rfl⟩
   rw [H1.out]
   have ew : IntKind.i64.wrap (le + 1) = le + 1 := IntWalk.i64_in _ (by omega)
   go_wp2_with fail
   refine (Q.out _).mono ?_
   rintro e w2 ⟨rfl, hb2⟩
   have K2 : Below w.heap.size w w2 := kept_call hb2 bl1
   have Z2 := K2.size
   have b1_0' := Blk.keep (g := w.heap.size) hb2 bn1
   (try simp only [lst, ls0, ls1] at b1_0')
   have b1_1' := Blk.keep (g := w.heap.size + 1) hb2 bn1
   (try simp only [lst, ls0, ls1] at b1_1')
   have b1_2' := Blk.keep (g := w.heap.size + 2) hb2 bn1
   (try simp only [lst, ls0, ls1] at b1_2')
   have b2_0 := Blk.keep (g := w1.heap.size) hb2 bn0
   (try simp only [lst, ls0, ls1] at b2_0)
   clear hb2 K1
   clear b1_0 c1_0 f1_0 l1_0 e1_0 k1_0; have b1_0 := b1_0'; clear b1_0'
   clear b1_1 c1_1 f1_1 l1_1 e1_1 k1_1; have b1_1 := b1_1'; clear b1_1'
   clear b1_2 c1_2 f1_2 l1_2 e1_2 k1_2; have b1_2 := b1_2'; clear b1_2'
   obtain ⟨c1_0, f1_0, l1_0, e1_0, k1_0⟩ := Blk.facts b1_0
   obtain ⟨c1_1, f1_1, l1_1, e1_1, k1_1⟩ := Blk.facts b1_1
   obtain ⟨c1_2, f1_2, l1_2, e1_2, k1_2⟩ := Blk.facts b1_2
   obtain ⟨c2_0, f2_0, l2_0, e2_0, k2_0⟩ := Blk.facts b2_0
   go_wp2_with fail
   go_region
   all_goals
    go_wp2
    exact bodyPost_ret (v := .tuple #[.agg #[.int .i64 u, .int .i64 X, .int .i64 Y, .int .i64 ppb, .int .i64 (min (le + 1) 1152921504606846976), .int .i64 re], .bool true, .int .i64 0]) (by simp [results, Tryz.results19, go_sem, *]) rfl ⟨rfl, bl1⟩
 ·rw [lrn_e hn h]
  have hx : (e != 0) = true := by simpa using h
  have R := hYd r; clear r h hn
  go_enter Tryz.func19, Tryz.ntmps19
  go_wp2_with fail
  refine (R.out _).mono ?_
  rintro e w1 ⟨rfl, hb1⟩
  have K1 : Below w.heap.size w w1 := kept_call hb1 bl0
  have Z1 := K1.size
  have b1_0 := Blk.keep (g := w.heap.size) hb1 bn0
  (try simp only [lst, ls0, ls1] at b1_0)
  have b1_1 := Blk.keep (g := w.heap.size + 1) hb1 bn0
  (try simp only [lst, ls0, ls1] at b1_1)
  have b1_2 := Blk.keep (g := w.heap.size + 2) hb1 bn0
  (try simp only [lst, ls0, ls1] at b1_2)
  clear hb1
  obtain ⟨c1_0, f1_0, l1_0, e1_0, k1_0⟩ := Blk.facts b1_0
  obtain ⟨c1_1, f1_1, l1_1, e1_1, k1_1⟩ := Blk.facts b1_1
  obtain ⟨c1_2, f1_2, l1_2, e1_2, k1_2⟩ := Blk.facts b1_2
  go_wp2
  exact bodyPost_ret (v := .tuple #[.agg #[.int .i64 0, .int .i64 0, .int .i64 0, .int .i64 0, .int .i64 0, .int .i64 0], .bool false, .int .i64 e]) (by simp [results, Tryz.results19, go_sem, *]) rfl ⟨rfl, bl1⟩
end Go.Proofs.YtlnboheahbfgfaaGreat
