/- Texts joined: R41C, NewD, CalmR -/
import Derived.Test.YtlnboheahbfgfaaGreatR41
import Derived.Test.YtlnboheahbfgfaaGreatJ32
import Derived.Test.YtlnboheahbfgfaaGreatCalmD
import Derived.Test.YtlnboheahbfgfaaGreatKitG
import Derived.Test.YtlnboheahbfgfaaGreatJ10
namespace Go.Proofs.YtlnboheahbfgfaaGreat
open Go.RowKit
set_option linter.unusedSimpArgs false
set_option linter.unusedVariables false

set_option maxRecDepth 100000 in
set_option maxHeartbeats 3000000 in
theorem rcheck_any (s : Sch) (A SA : Option Addr) (c sc : Nat) (w : World) (h : SchAt w s A SA) :
  Calls Tryz.prog 33 #[.agg #[.int .i64 s.sta, .int .i64 s.loc, .int .i64 s.p, .int .i64 s.li, .int .i64 s.ai, .slice A s.es.length c, .slice SA s.xs.length sc]] w (RB w (.int .i64 (chkE s))) := by
 have HH := hYd h
 have hel := h.1.2.1
 have hxl := h.2.2.1
 clear h
 obtain ⟨sta, loc, p, li, ai, es, xs⟩ := s
 dsimp only at *
 obtain ⟨n, hn⟩ : ∃ n, n = es.length := ⟨_, rfl⟩
 obtain ⟨m, hm⟩ : ∃ m, m = xs.length := ⟨_, rfl⟩
 have hE : SchAt w ⟨sta, loc, p, li, ai, es, xs⟩ A SA = (NsAt w A n es ∧ StpsAt w SA m xs) := by rw [hn, hm]; rfl
 rw [hE] at HH
 clear hE
 have HN := hYd hn; have HM := hYd hm
 rw [← hn] at hel
 rw [← hm] at hxl
 have c8 : (n < 1 ∨ 8 < n ∨ 64 < m) → chkE ⟨sta, loc, p, li, ai, es, xs⟩ = 8 := fun h => by unfold chkE; simp only; rw [← hn, ← hm, if_pos h]
 have c4 : ¬ (n < 1 ∨ 8 < n ∨ 64 < m) → Sch.rg ⟨sta, loc, p, li, ai, es, xs⟩ = false → chkE ⟨sta, loc, p, li, ai, es, xs⟩ = 4 := fun h h' => by unfold chkE; simp only; rw [← hn, ← hm, if_neg h, if_neg (by rw [h']; simp)]
 have c0 : ¬ (n < 1 ∨ 8 < n ∨ 64 < m) → Sch.rg ⟨sta, loc, p, li, ai, es, xs⟩ = true → chkE ⟨sta, loc, p, li, ai, es, xs⟩ = stpsE p n xs := fun h h' => by unfold chkE; simp only; rw [← hn, ← hm, if_neg h, if_pos h']
 simp only [← hn, ← hm]
 clear hn hm
 by_cases h1 : n < 1
 ·rw [c8 (.inl h1)]
  have g1 : decide ((n : Int) < 1) = true := decide_eq_true (by omega)
  have g1n : decide (n < 1) = true := decide_eq_true h1
  clear c8 c4 c0
  go_enter Tryz.func33, Tryz.ntmps33
  go_wp2
  exact bodyPost_ret (v := .int .i64 8) (by simp [results, Tryz.results33, go_sem, *]) rfl ⟨rfl, bl0⟩
 have g1 : decide ((n : Int) < 1) = false := decide_eq_false (by omega)
 have g1n : decide (n < 1) = false := decide_eq_false h1
 by_cases h2 : 8 < n
 ·rw [c8 (.inr (.inl h2))]
  have g2 : decide ((8 : Int) < (n : Int)) = true := decide_eq_true (by omega)
  have g2n : decide (8 < n) = true := decide_eq_true h2
  clear c8 c4 c0
  go_enter Tryz.func33, Tryz.ntmps33
  go_wp2
  exact bodyPost_ret (v := .int .i64 8) (by simp [results, Tryz.results33, go_sem, *]) rfl ⟨rfl, bl0⟩
 have g2 : decide ((8 : Int) < (n : Int)) = false := decide_eq_false (by omega)
 have g2n : decide (8 < n) = false := decide_eq_false h2
 by_cases h3 : 64 < m
 ·rw [c8 (.inr (.inr h3))]
  have g3 : decide ((64 : Int) < (m : Int)) = true := decide_eq_true (by omega)
  have g3n : decide (64 < m) = true := decide_eq_true h3
  clear c8 c4 c0
  go_enter Tryz.func33, Tryz.ntmps33
  go_wp2
  exact bodyPost_ret (v := .int .i64 8) (by simp [results, Tryz.results33, go_sem, *]) rfl ⟨rfl, bl0⟩
 have g3 : decide ((64 : Int) < (m : Int)) = false := decide_eq_false (by omega)
 have g3n : decide (64 < m) = false := decide_eq_false h3
 have hL : ¬ (n < 1 ∨ 8 < n ∨ 64 < m) := by omega
 clear c8
 replace c4 := c4 hL
 replace c0 := c0 hL
 have E4 := hYd c4; have E0 := hYd c0; clear c4 c0 hL
 unfold Sch.rg at E4 E0
 simp only [← HN.out] at E4 E0
 have nb8 : (n : Int) ≤ 8 := by omega
 rcases t0 : nearB sta
 ·rw [E4.out (by simp only [t0]; simp)]
  clear E4 E0
  go_enter Tryz.func33, Tryz.ntmps33
  go_wp2_with fail
  refine (rnear_any _ _).mono ?_
  rintro e w1 ⟨rfl, hb1⟩
  have K1 : Below w.heap.size w w1 := kept_call hb1 bl0
  have Z1 := K1.size
  have b1_0 := Blk.keep (g := w.heap.size) hb1 bn0
  (try simp only [lst, ls0, ls1] at b1_0)
  clear hb1
  obtain ⟨c1_0, f1_0, l1_0, e1_0, k1_0⟩ := Blk.facts b1_0
  have o1_0 := l1_0
  rw [t0]
  go_wp2
  exact bodyPost_ret (v := .int .i64 4) (by simp [results, Tryz.results33, go_sem, *]) rfl ⟨rfl, bl1⟩
 rcases t1 : nearB loc
 ·rw [E4.out (by simp only [t0, t1]; simp)]
  clear E4 E0
  go_enter Tryz.func33, Tryz.ntmps33
  go_wp2_with fail
  refine (rnear_any _ _).mono ?_
  rintro e w1 ⟨rfl, hb1⟩
  have K1 : Below w.heap.size w w1 := kept_call hb1 bl0
  have Z1 := K1.size
  have b1_0 := Blk.keep (g := w.heap.size) hb1 bn0
  (try simp only [lst, ls0, ls1] at b1_0)
  clear hb1
  obtain ⟨c1_0, f1_0, l1_0, e1_0, k1_0⟩ := Blk.facts b1_0
  have o1_0 := l1_0
  rw [t0]
  go_wp2_with fail
  refine (rnear_any _ _).mono ?_
  rintro e w2 ⟨rfl, hb2⟩
  have K2 : Below w.heap.size w w2 := kept_call hb2 bl1
  have Z2 := K2.size
  have b1_0' := Blk.keep (g := w.heap.size) hb2 bn1
  (try simp only [lst, ls0, ls1] at b1_0')
  clear hb2 K1
  clear b1_0 c1_0 f1_0 l1_0 e1_0 k1_0; have b1_0 := b1_0'; clear b1_0'
  obtain ⟨c1_0, f1_0, l1_0, e1_0, k1_0⟩ := Blk.facts b1_0
  rw [t1]
  go_wp2
  exact bodyPost_ret (v := .int .i64 4) (by simp [results, Tryz.results33, go_sem, *]) rfl ⟨rfl, bl1⟩
 rcases t2 : decide (0 ≤ p)
 ·rw [E4.out (by simp only [t0, t1, t2]; simp)]
  clear E4 E0
  have v2 := of_decide_eq_false t2
  have s2 : decide (p < 0) = true := decide_eq_true (by omega)
  go_enter Tryz.func33, Tryz.ntmps33
  go_wp2_with fail
  refine (rnear_any _ _).mono ?_
  rintro e w1 ⟨rfl, hb1⟩
  have K1 : Below w.heap.size w w1 := kept_call hb1 bl0
  have Z1 := K1.size
  have b1_0 := Blk.keep (g := w.heap.size) hb1 bn0
  (try simp only [lst, ls0, ls1] at b1_0)
  clear hb1
  obtain ⟨c1_0, f1_0, l1_0, e1_0, k1_0⟩ := Blk.facts b1_0
  have o1_0 := l1_0
  rw [t0]
  go_wp2_with fail
  refine (rnear_any _ _).mono ?_
  rintro e w2 ⟨rfl, hb2⟩
  have K2 : Below w.heap.size w w2 := kept_call hb2 bl1
  have Z2 := K2.size
  have b1_0' := Blk.keep (g := w.heap.size) hb2 bn1
  (try simp only [lst, ls0, ls1] at b1_0')
  clear hb2 K1
  clear b1_0 c1_0 f1_0 l1_0 e1_0 k1_0; have b1_0 := b1_0'; clear b1_0'
  obtain ⟨c1_0, f1_0, l1_0, e1_0, k1_0⟩ := Blk.facts b1_0
  rw [t1]
  go_wp2
  exact bodyPost_ret (v := .int .i64 4) (by simp [results, Tryz.results33, go_sem, *]) rfl ⟨rfl, bl1⟩
 have v2 := of_decide_eq_true t2
 have s2 : decide (p < 0) = false := decide_eq_false (by omega)
 rcases t3 : decide (p ≤ 1000000)
 ·rw [E4.out (by simp only [t0, t1, t2, t3]; simp)]
  clear E4 E0
  have v3 := of_decide_eq_false t3
  have s3 : decide (1000000 < p) = true := decide_eq_true (by omega)
  go_enter Tryz.func33, Tryz.ntmps33
  go_wp2_with fail
  refine (rnear_any _ _).mono ?_
  rintro e w1 ⟨rfl, hb1⟩
  have K1 : Below w.heap.size w w1 := kept_call hb1 bl0
  have Z1 := K1.size
  have b1_0 := Blk.keep (g := w.heap.size) hb1 bn0
  (try simp only [lst, ls0, ls1] at b1_0)
  clear hb1
  obtain ⟨c1_0, f1_0, l1_0, e1_0, k1_0⟩ := Blk.facts b1_0
  have o1_0 := l1_0
  rw [t0]
  go_wp2_with fail
  refine (rnear_any _ _).mono ?_
  rintro e w2 ⟨rfl, hb2⟩
  have K2 : Below w.heap.size w w2 := kept_call hb2 bl1
  have Z2 := K2.size
  have b1_0' := Blk.keep (g := w.heap.size) hb2 bn1
  (try simp only [lst, ls0, ls1] at b1_0')
  clear hb2 K1
  clear b1_0 c1_0 f1_0 l1_0 e1_0 k1_0; have b1_0 := b1_0'; clear b1_0'
  obtain ⟨c1_0, f1_0, l1_0, e1_0, k1_0⟩ := Blk.facts b1_0
  rw [t1]
  go_wp2
  exact bodyPost_ret (v := .int .i64 4) (by simp [results, Tryz.results33, go_sem, *]) rfl ⟨rfl, bl1⟩
 have v3 := of_decide_eq_true t3
 have s3 : decide (1000000 < p) = false := decide_eq_false (by omega)
 rcases t4 : decide (0 ≤ ai)
 ·rw [E4.out (by simp only [t0, t1, t2, t3, t4]; simp)]
  clear E4 E0
  have v4 := of_decide_eq_false t4
  have s4 : decide (ai < 0) = true := decide_eq_true (by omega)
  go_enter Tryz.func33, Tryz.ntmps33
  go_wp2_with fail
  refine (rnear_any _ _).mono ?_
  rintro e w1 ⟨rfl, hb1⟩
  have K1 : Below w.heap.size w w1 := kept_call hb1 bl0
  have Z1 := K1.size
  have b1_0 := Blk.keep (g := w.heap.size) hb1 bn0
  (try simp only [lst, ls0, ls1] at b1_0)
  clear hb1
  obtain ⟨c1_0, f1_0, l1_0, e1_0, k1_0⟩ := Blk.facts b1_0
  have o1_0 := l1_0
  rw [t0]
  go_wp2_with fail
  refine (rnear_any _ _).mono ?_
  rintro e w2 ⟨rfl, hb2⟩
  have K2 : Below w.heap.size w w2 := kept_call hb2 bl1
  have Z2 := K2.size
  have b1_0' := Blk.keep (g := w.heap.size) hb2 bn1
  (try simp only [lst, ls0, ls1] at b1_0')
  clear hb2 K1
  clear b1_0 c1_0 f1_0 l1_0 e1_0 k1_0; have b1_0 := b1_0'; clear b1_0'
  obtain ⟨c1_0, f1_0, l1_0, e1_0, k1_0⟩ := Blk.facts b1_0
  rw [t1]
  go_wp2
  exact bodyPost_ret (v := .int .i64 4) (by simp [results, Tryz.results33, go_sem, *]) rfl ⟨rfl, bl1⟩
 have v4 := of_decide_eq_true t4
 have s4 : decide (ai < 0) = false := decide_eq_false (by omega)
 rcases t5 : decide (ai ≤ 1000)
 ·rw [E4.out (by simp only [t0, t1, t2, t3, t4, t5]; simp)]
  clear E4 E0
  have v5 := of_decide_eq_false t5
  have s5 : decide (1000 < ai) = true := decide_eq_true (by omega)
  go_enter Tryz.func33, Tryz.ntmps33
  go_wp2_with fail
  refine (rnear_any _ _).mono ?_
  rintro e w1 ⟨rfl, hb1⟩
  have K1 : Below w.heap.size w w1 := kept_call hb1 bl0
  have Z1 := K1.size
  have b1_0 := Blk.keep (g := w.heap.size) hb1 bn0
  (try simp only [lst, ls0, ls1] at b1_0)
  clear hb1
  obtain ⟨c1_0, f1_0, l1_0, e1_0, k1_0⟩ := Blk.facts b1_0
  have o1_0 := l1_0
  rw [t0]
  go_wp2_with fail
  refine (rnear_any _ _).mono ?_
  rintro e w2 ⟨rfl, hb2⟩
  have K2 : Below w.heap.size w w2 := kept_call hb2 bl1
  have Z2 := K2.size
  have b1_0' := Blk.keep (g := w.heap.size) hb2 bn1
  (try simp only [lst, ls0, ls1] at b1_0')
  clear hb2 K1
  clear b1_0 c1_0 f1_0 l1_0 e1_0 k1_0; have b1_0 := b1_0'; clear b1_0'
  obtain ⟨c1_0, f1_0, l1_0, e1_0, k1_0⟩ := Blk.facts b1_0
  rw [t1]
  go_wp2
  exact bodyPost_ret (v := .int .i64 4) (by simp [results, Tryz.results33, go_sem, *]) rfl ⟨rfl, bl1⟩
 have v5 := of_decide_eq_true t5
 have s5 : decide (1000 < ai) = false := decide_eq_false (by omega)
 rcases t6 : decide (0 ≤ li)
 ·rw [E4.out (by simp only [t0, t1, t2, t3, t4, t5, t6]; simp)]
  clear E4 E0
  have v6 := of_decide_eq_false t6
  have s6 : decide (li < 0) = true := decide_eq_true (by omega)
  go_enter Tryz.func33, Tryz.ntmps33
  go_wp2_with fail
  refine (rnear_any _ _).mono ?_
  rintro e w1 ⟨rfl, hb1⟩
  have K1 : Below w.heap.size w w1 := kept_call hb1 bl0
  have Z1 := K1.size
  have b1_0 := Blk.keep (g := w.heap.size) hb1 bn0
  (try simp only [lst, ls0, ls1] at b1_0)
  clear hb1
  obtain ⟨c1_0, f1_0, l1_0, e1_0, k1_0⟩ := Blk.facts b1_0
  have o1_0 := l1_0
  rw [t0]
  go_wp2_with fail
  refine (rnear_any _ _).mono ?_
  rintro e w2 ⟨rfl, hb2⟩
  have K2 : Below w.heap.size w w2 := kept_call hb2 bl1
  have Z2 := K2.size
  have b1_0' := Blk.keep (g := w.heap.size) hb2 bn1
  (try simp only [lst, ls0, ls1] at b1_0')
  clear hb2 K1
  clear b1_0 c1_0 f1_0 l1_0 e1_0 k1_0; have b1_0 := b1_0'; clear b1_0'
  obtain ⟨c1_0, f1_0, l1_0, e1_0, k1_0⟩ := Blk.facts b1_0
  rw [t1]
  go_wp2
  exact bodyPost_ret (v := .int .i64 4) (by simp [results, Tryz.results33, go_sem, *]) rfl ⟨rfl, bl1⟩
 have v6 := of_decide_eq_true t6
 have s6 : decide (li < 0) = false := decide_eq_false (by omega)
 rcases t7 : decide (li ≤ 8)
 ·have tn : decide (li ≤ (n : Int)) = false := decide_eq_false (by have := of_decide_eq_false t7; omega)
  rw [E4.out (by simp only [t0, t1, t2, t3, t4, t5, t6, tn]; simp)]
  clear E4 E0 tn
  have v7 := of_decide_eq_false t7
  have s7 : decide (8 < li) = true := decide_eq_true (by omega)
  go_enter Tryz.func33, Tryz.ntmps33
  go_wp2_with fail
  refine (rnear_any _ _).mono ?_
  rintro e w1 ⟨rfl, hb1⟩
  have K1 : Below w.heap.size w w1 := kept_call hb1 bl0
  have Z1 := K1.size
  have b1_0 := Blk.keep (g := w.heap.size) hb1 bn0
  (try simp only [lst, ls0, ls1] at b1_0)
  clear hb1
  obtain ⟨c1_0, f1_0, l1_0, e1_0, k1_0⟩ := Blk.facts b1_0
  have o1_0 := l1_0
  rw [t0]
  go_wp2_with fail
  refine (rnear_any _ _).mono ?_
  rintro e w2 ⟨rfl, hb2⟩
  have K2 : Below w.heap.size w w2 := kept_call hb2 bl1
  have Z2 := K2.size
  have b1_0' := Blk.keep (g := w.heap.size) hb2 bn1
  (try simp only [lst, ls0, ls1] at b1_0')
  clear hb2 K1
  clear b1_0 c1_0 f1_0 l1_0 e1_0 k1_0; have b1_0 := b1_0'; clear b1_0'
  obtain ⟨c1_0, f1_0, l1_0, e1_0, k1_0⟩ := Blk.facts b1_0
  rw [t1]
  go_wp2
  exact bodyPost_ret (v := .int .i64 4) (by simp [results, Tryz.results33, go_sem, *]) rfl ⟨rfl, bl1⟩
 have v7 := of_decide_eq_true t7
 have s7 : decide (8 < li) = false := decide_eq_false (by omega)
 have wl : IntKind.i64.wrap (2 * li) = 2 * li := IntWalk.i64_in _ (by omega)
 rcases t8 : decide (2 * li < (n : Int))
 ·rw [E4.out (by simp only [t0, t1, t2, t3, t4, t5, t6, t7, t8]; simp)]
  clear E4 E0
  have v8 := of_decide_eq_false t8
  have s8 : decide ((n : Int) ≤ 2 * li) = true := decide_eq_true (by omega)
  go_enter Tryz.func33, Tryz.ntmps33
  go_wp2_with fail
  refine (rnear_any _ _).mono ?_
  rintro e w1 ⟨rfl, hb1⟩
  have K1 : Below w.heap.size w w1 := kept_call hb1 bl0
  have Z1 := K1.size
  have b1_0 := Blk.keep (g := w.heap.size) hb1 bn0
  (try simp only [lst, ls0, ls1] at b1_0)
  clear hb1
  obtain ⟨c1_0, f1_0, l1_0, e1_0, k1_0⟩ := Blk.facts b1_0
  have o1_0 := l1_0
  rw [t0]
  go_wp2_with fail
  refine (rnear_any _ _).mono ?_
  rintro e w2 ⟨rfl, hb2⟩
  have K2 : Below w.heap.size w w2 := kept_call hb2 bl1
  have Z2 := K2.size
  have b1_0' := Blk.keep (g := w.heap.size) hb2 bn1
  (try simp only [lst, ls0, ls1] at b1_0')
  clear hb2 K1
  clear b1_0 c1_0 f1_0 l1_0 e1_0 k1_0; have b1_0 := b1_0'; clear b1_0'
  obtain ⟨c1_0, f1_0, l1_0, e1_0, k1_0⟩ := Blk.facts b1_0
  rw [t1]
  go_wp2
  exact bodyPost_ret (v := .int .i64 4) (by simp [results, Tryz.results33, go_sem, *]) rfl ⟨rfl, bl1⟩
 have v8 := of_decide_eq_true t8
 have s8 : decide ((n : Int) ≤ 2 * li) = false := decide_eq_false (by omega)
 have tn : decide (li ≤ (n : Int)) = true := decide_eq_true (by omega)
 have hall4 : es.all lenB = false → chkE ⟨sta, loc, p, li, ai, es, xs⟩ = 4 := fun h => E4.out (by simp only [h]; simp)
 have hall0 : es.all lenB = true → chkE ⟨sta, loc, p, li, ai, es, xs⟩ = stpsE p n xs := fun h => E0.out (by simp only [t0, t1, t2, t3, t4, t5, t6, t8, tn, h]; rfl)
 obtain ⟨r, hr⟩ : ∃ r, chkE ⟨sta, loc, p, li, ai, es, xs⟩ = r := ⟨_, rfl⟩
 rw [hr] at hall4 hall0 ⊢
 clear hr E4 E0 tn
 have HA4 := hYd hall4; have HA0 := hYd hall0; clear hall4 hall0
 go_enter Tryz.func33, Tryz.ntmps33
 go_wp2_with fail
 refine (rnear_any _ _).mono ?_
 rintro e w1 ⟨rfl, hb1⟩
 have K1 : Below w.heap.size w w1 := kept_call hb1 bl0
 have Z1 := K1.size
 have b1_0 := Blk.keep (g := w.heap.size) hb1 bn0
 (try simp only [lst, ls0, ls1] at b1_0)
 clear hb1
 obtain ⟨c1_0, f1_0, l1_0, e1_0, k1_0⟩ := Blk.facts b1_0
 have o1_0 := l1_0
 rw [t0]
 go_wp2_with fail
 refine (rnear_any _ _).mono ?_
 rintro e w2 ⟨rfl, hb2⟩
 have K2 : Below w.heap.size w w2 := kept_call hb2 bl1
 have Z2 := K2.size
 have b1_0' := Blk.keep (g := w.heap.size) hb2 bn1
 (try simp only [lst, ls0, ls1] at b1_0')
 clear hb2 K1
 clear b1_0 c1_0 f1_0 l1_0 e1_0 k1_0; have b1_0 := b1_0'; clear b1_0'
 obtain ⟨c1_0, f1_0, l1_0, e1_0, k1_0⟩ := Blk.facts b1_0
 rw [t1]
 clear t0 t1 t2 t3 t4 t5 t6 t7 t8
 go_wp2
 go_loopg [3] n (fun G i wr => ∃ q : Nat, q ≤ n ∧ G = n - q ∧ i = .int .i64 (q : Int) ∧ (∀ j, j < q → lenB (es.getD j 0) = true) ∧ Blk wr w.heap.size 54 #[.int .i64 sta, .int .i64 loc, .int .i64 p, .int .i64 li, .int .i64 ai, .slice A n c, .slice SA m sc] ∧ Below w.heap.size w wr)
 case atStart => exact ⟨0, by omega, by omega, rfl, fun j hj => by omega, b1_0, K2⟩
 case round =>
  obtain ⟨q, hq, rfl, rfl, hall, bA0, KR⟩ := hrel
  have ZR := KR.size
  have HAL := hYd hall; clear hall
  clear b1_0 c1_0 f1_0 l1_0 e1_0 k1_0
  clear K2
  obtain ⟨cA0, fA0, lA0, eA0, kA0⟩ := Blk.facts bA0
  by_cases hlt : q < n
  ·have gq : decide ((q : Int) < (n : Int)) = true := decide_eq_true (by omega)
   have gqn : decide (q < n) = true := decide_eq_true hlt
   have wq : IntKind.i64.wrap ((q : Int) + 1) = ((q + 1 : Nat) : Int) := by rw [IntWalk.i64_in _ (by omega)]; omega
   obtain ⟨bl, off, rfl, lbl, hcs⟩ := (HH.out.1.below KR).2.2 (by omega)
   have d0 := hcs q hlt
   clear hcs
   obtain ⟨v, hv⟩ : ∃ v, es.getD q 0 = v := ⟨_, rfl⟩
   rw [hv] at d0
   have HV := hYd hv; clear hv
   rcases hlv : lenB v
   ·have hr := HA4.out (by
     rcases h : es.all lenB
     ·rfl
     ·have := all_getD.1 h q (by rw [← HN.out]; exact hlt); rw [HV.out, hlv] at this; cases this)
    subst hr
    have RL := hYd (fun W => hlv ▸ rlen_any v W)
    clear hlv HA4 HA0
    go_wp2_with fail
    refine (RL.out _).mono ?_
    rintro e w41 ⟨rfl, hb41⟩
    have K41 : Below w.heap.size w w41 := kept_call hb41 bl1
    have Z41 := K41.size
    have bA0' := Blk.keep (g := w.heap.size) hb41 bn1
    (try simp only [lst, ls0, ls1] at bA0')
    clear hb41 KR
    clear bA0 cA0 fA0 lA0 eA0 kA0; have bA0 := bA0'; clear bA0'
    obtain ⟨cA0, fA0, lA0, eA0, kA0⟩ := Blk.facts bA0
    go_wp2
    exact bodyPost_ret (v := .int .i64 4) (by simp [results, Tryz.results33, go_sem, *]) rfl ⟨rfl, bl1⟩
   ·have HLV := hYd hlv
    have RL := hYd (fun W => hlv ▸ rlen_any v W)
    clear hlv
    go_wp2_with fail
    refine (RL.out _).mono ?_
    rintro e w41 ⟨rfl, hb41⟩
    have K41 : Below w.heap.size w w41 := kept_call hb41 bl1
    have Z41 := K41.size
    have bA0' := Blk.keep (g := w.heap.size) hb41 bn1
    (try simp only [lst, ls0, ls1] at bA0')
    clear hb41 KR
    clear bA0 cA0 fA0 lA0 eA0 kA0; have bA0 := bA0'; clear bA0'
    obtain ⟨cA0, fA0, lA0, eA0, kA0⟩ := Blk.facts bA0
    go_wp2
    go_roundg (n - (q + 1))
    case measure => omega
    case rel =>
     refine ⟨q + 1, by omega, by omega, by go_num, fun j hj => ?_, bA0, bl1⟩
     by_cases e : j = q
     ·subst e; rw [HV.out]; exact HLV.out
     ·exact HAL.out j (by omega)
  ·obtain rfl : q = n := by omega
   have gq : decide ((q : Int) < (q : Int)) = false := decide_eq_false (by omega)
   have gqn : decide (q < q) = false := decide_eq_false (by omega)
   have hr0 := HA0.out (all_getD.2 (fun j hj => HAL.out j (by rw [HN.out]; exact hj)))
   clear HA4 HA0 HAL
   have HR0 := hYd hr0; clear hr0
   go_wp2
   go_loopg [4] m (fun G i wr => ∃ z : Nat, z ≤ m ∧ G = m - z ∧ i = .int .i64 (z : Int) ∧ (∀ j, j < z → stpE p q (xs.getD j .zero) = 0) ∧ Blk wr w.heap.size 54 #[.int .i64 sta, .int .i64 loc, .int .i64 p, .int .i64 li, .int .i64 ai, .slice A q c, .slice SA m sc] ∧ Below w.heap.size w wr)
   case atStart => exact ⟨0, by omega, by omega, rfl, fun j hj => by omega, bn1, bl1⟩
   case round =>
    obtain ⟨z, hz, rfl, rfl, hall, bB0, KR2⟩ := hrel
    have ZR2 := KR2.size
    have HAL := hYd hall; clear hall bA0 cA0 fA0 lA0 eA0 kA0 KR
    obtain ⟨cB0, fB0, lB0, eB0, kB0⟩ := Blk.facts bB0
    by_cases hlt : z < m
    ·have gz : decide ((z : Int) < (m : Int)) = true := decide_eq_true (by omega)
     have gzn : decide (z < m) = true := decide_eq_true hlt
     have wz1 : IntKind.i64.wrap ((z : Int) + 1) = ((z + 1 : Nat) : Int) := by rw [IntWalk.i64_in _ (by omega)]; omega
     obtain ⟨bl, off, rfl, lbl, d0, d1, d2, d3, d4, d5, d6, d7, d8, d9, d10⟩ := (HH.out.2.below KR2).cells hlt
     obtain ⟨x, hx⟩ : ∃ x, xs.getD z .zero = x := ⟨_, rfl⟩
     simp only [hx] at d0 d1 d2 d3 d4 d5 d6 d7 d8 d9 d10
     have HX := hYd hx; clear hx
     obtain ⟨er, her⟩ : ∃ er, stpE p q x = er := ⟨_, rfl⟩
     have RS := hYd (fun W => rstep_any ⟨sta, loc, p, li, ai, es, xs⟩ A (some ⟨bl, off, none⟩) c sc x W)
     dsimp only at RS
     rw [← HN.out, ← HM.out, her] at RS
     have HER := hYd her; clear her
     have DD := hYd (And.intro d0 (And.intro d1 (And.intro d2 (And.intro d3 (And.intro d4 (And.intro d5 (And.intro d6 (And.intro d7 (And.intro d8 (And.intro d9 (d10)))))))))))
     clear d0 d1 d2 d3 d4 d5 d6 d7 d8 d9 d10
     go_upto_region 13 with fail
     refine' wp_region_calmD (by kernel_rfl) (fun D u9 w' => Below wr.heap.size wr w' ∧ Blk w' w.heap.size 54 #[.int .i64 sta, .int .i64 loc, .int .i64 p, .int .i64 li, .int .i64 ai, .slice A q c, .slice (some ⟨bl, off, none⟩) m sc]) (fun _ _ => True) [(Is _), (Is _), (Is _), (Is _), (Is _), (Is _), (Is _), (Is _)] [[], [], [1], [], [2, 3], [4], [0, 5], [6]] rfl (by kernel_rfl) (fun u => by (simp only [calmPut, Act.put, lst, ls0, ls1, Nat.zero_add, Nat.reduceAdd]; rfl)) ?_ (kcc keep_is' (kcc keep_is' (kcc keep_is' (kcc keep_is' (kcc keep_is' (kcc keep_is' (kcc keep_is' (kcc keep_is' (calmKeep_nil))))))))) ?_ ?_
     ·exact ⟨(Below.refl _ _).drew, bB0.drew⟩
     rotate_left 8
     ·skip
      refine dc0 (fun uu wq D hC K hK => ?_) ?_
      ·obtain ⟨hP, mB⟩ := hC
       obtain ⟨d0, d1, d2, d3, d4, d5, d6, d7, d8, d9, d10⟩ := DD.out
       have d0 := (hP.cell (p := ⟨bl, off + z * 11, none⟩) lbl).trans d0
       have d1 := (hP.cell (p := ⟨bl, off + z * 11 + 1, none⟩) lbl).trans d1
       have d2 := (hP.cell (p := ⟨bl, off + z * 11 + 2, none⟩) lbl).trans d2
       have d3 := (hP.cell (p := ⟨bl, off + z * 11 + 3, none⟩) lbl).trans d3
       have d4 := (hP.cell (p := ⟨bl, off + z * 11 + 4, none⟩) lbl).trans d4
       have d5 := (hP.cell (p := ⟨bl, off + z * 11 + 5, none⟩) lbl).trans d5
       have d6 := (hP.cell (p := ⟨bl, off + z * 11 + 6, none⟩) lbl).trans d6
       have d7 := (hP.cell (p := ⟨bl, off + z * 11 + 7, none⟩) lbl).trans d7
       have d8 := (hP.cell (p := ⟨bl, off + z * 11 + 8, none⟩) lbl).trans d8
       have d9 := (hP.cell (p := ⟨bl, off + z * 11 + 9, none⟩) lbl).trans d9
       have d10 := (hP.cell (p := ⟨bl, off + z * 11 + 10, none⟩) lbl).trans d10
       have cB := mB.cell; have lB := mB.lt
       go_simp
       exact hK _ _ _ rfl ⟨hP, mB⟩ trivial rfl
      refine dc0 (fun uu wq D hC K hK => ?_) ?_
      ·obtain ⟨hP, mB⟩ := hC
       go_simp
       exact hK _ _ _ rfl ⟨hP, mB⟩ trivial rfl
      refine dc1 (fun uu wq D hC hk K hK => ?_) ?_
      ·obtain ⟨hP, mB⟩ := hC
       simp only [calmKnown, lg0, lg1, and_true, Is] at hk
       have h1 := hk; clear hk
       simp only [h1] at hK ⊢
       have H1 := hYd h1; clear h1
       obtain ⟨d0, d1, d2, d3, d4, d5, d6, d7, d8, d9, d10⟩ := DD.out
       have d0 := (hP.cell (p := ⟨bl, off + z * 11, none⟩) lbl).trans d0
       have d1 := (hP.cell (p := ⟨bl, off + z * 11 + 1, none⟩) lbl).trans d1
       have d2 := (hP.cell (p := ⟨bl, off + z * 11 + 2, none⟩) lbl).trans d2
       have d3 := (hP.cell (p := ⟨bl, off + z * 11 + 3, none⟩) lbl).trans d3
       have d4 := (hP.cell (p := ⟨bl, off + z * 11 + 4, none⟩) lbl).trans d4
       have d5 := (hP.cell (p := ⟨bl, off + z * 11 + 5, none⟩) lbl).trans d5
       have d6 := (hP.cell (p := ⟨bl, off + z * 11 + 6, none⟩) lbl).trans d6
       have d7 := (hP.cell (p := ⟨bl, off + z * 11 + 7, none⟩) lbl).trans d7
       have d8 := (hP.cell (p := ⟨bl, off + z * 11 + 8, none⟩) lbl).trans d8
       have d9 := (hP.cell (p := ⟨bl, off + z * 11 + 9, none⟩) lbl).trans d9
       have d10 := (hP.cell (p := ⟨bl, off + z * 11 + 10, none⟩) lbl).trans d10
       have cB := mB.cell; have lB := mB.lt
       go_simp
       exact hK _ _ _ rfl ⟨hP, mB⟩ trivial rfl
      refine dc0 (fun uu wq D hC K hK => ?_) ?_
      ·obtain ⟨hP, mB⟩ := hC
       go_simp
       exact hK _ _ _ rfl ⟨hP, mB⟩ trivial rfl
      refine dc1 (fun uu wq D hC hk K hK => ?_) ?_
      ·obtain ⟨hP, mB⟩ := hC
       simp only [calmKnown, lg0, lg1, and_true, Is] at hk
       obtain ⟨h2, h3⟩ := hk
       simp only [h2, h3] at hK ⊢
       have H2 := hYd h2; clear h2; have H3 := hYd h3; clear h3
       go_simp
       exact hK _ _ _ rfl ⟨hP, mB⟩ trivial rfl
      refine dc1 (fun uu wq D hC hk K hK => ?_) ?_
      ·obtain ⟨hP, mB⟩ := hC
       simp only [calmKnown, lg0, lg1, and_true, Is] at hk
       have h4 := hk; clear hk
       simp only [h4] at hK ⊢
       have H4 := hYd h4; clear h4
       obtain ⟨d0, d1, d2, d3, d4, d5, d6, d7, d8, d9, d10⟩ := DD.out
       have d0 := (hP.cell (p := ⟨bl, off + z * 11, none⟩) lbl).trans d0
       have d1 := (hP.cell (p := ⟨bl, off + z * 11 + 1, none⟩) lbl).trans d1
       have d2 := (hP.cell (p := ⟨bl, off + z * 11 + 2, none⟩) lbl).trans d2
       have d3 := (hP.cell (p := ⟨bl, off + z * 11 + 3, none⟩) lbl).trans d3
       have d4 := (hP.cell (p := ⟨bl, off + z * 11 + 4, none⟩) lbl).trans d4
       have d5 := (hP.cell (p := ⟨bl, off + z * 11 + 5, none⟩) lbl).trans d5
       have d6 := (hP.cell (p := ⟨bl, off + z * 11 + 6, none⟩) lbl).trans d6
       have d7 := (hP.cell (p := ⟨bl, off + z * 11 + 7, none⟩) lbl).trans d7
       have d8 := (hP.cell (p := ⟨bl, off + z * 11 + 8, none⟩) lbl).trans d8
       have d9 := (hP.cell (p := ⟨bl, off + z * 11 + 9, none⟩) lbl).trans d9
       have d10 := (hP.cell (p := ⟨bl, off + z * 11 + 10, none⟩) lbl).trans d10
       have cB := mB.cell; have lB := mB.lt
       go_simp
       exact hK _ _ _ rfl ⟨hP, mB⟩ trivial rfl
      refine dc1 (fun uu wq D hC hk K hK => ?_) ?_
      ·obtain ⟨hP, mB⟩ := hC
       simp only [calmKnown, lg0, lg1, and_true, Is] at hk
       obtain ⟨h0, h5⟩ := hk
       simp only [h0, h5] at hK ⊢
       have H0 := hYd h0; clear h0; have H5 := hYd h5; clear h5
       first
        | (refine' calm_op ?_ ?_; rfl; go_simp; (first | (with_reducible refine (RS.out _).mono ?_)); rintro e w2 ⟨rfl, hbl⟩; exact hK _ _ _ rfl ⟨kept_call hbl hP, Blk.keep hbl mB⟩ trivial rfl)
        | (go_simp; exact hK _ _ _ rfl ⟨hP, mB⟩ trivial rfl)
      refine dc1 (fun uu wq D hC hk K hK => ?_) ?_
      ·obtain ⟨hP, mB⟩ := hC
       simp only [calmKnown, lg0, lg1, and_true, Is] at hk
       have h6 := hk; clear hk
       simp only [h6] at hK ⊢
       have H6 := hYd h6; clear h6
       go_simp
       exact hK _ _ _ rfl ⟨hP, mB⟩ trivial rfl
      exact dSteps_nil
     ·intro uu wz D hD hC hF
      obtain ⟨hP, mB⟩ := hC
      simp only [calmFacts, Is, and_true, true_and] at hF
      obtain ⟨f0, f1, f2, f3, f4, f5, f6, f7⟩ := hF
      simp only [f0, f1, f2, f3, f4, f5, f6, f7]
      have KZ := kept_call hP KR2
      have HKZ := hYd KZ
      clear hD KZ
      have HMB := hYd mB; clear mB
      by_cases e0 : er = 0
      ·subst e0
       go_wp2
       go_roundg (m - (z + 1))
       case measure => omega
       case rel =>
        refine ⟨z + 1, by omega, by omega, by go_num, fun j hj => ?_, HMB.out, HKZ.out⟩
        by_cases e : j = z
        ·subst e; rw [HX.out]; exact HER.out
        ·exact HAL.out j (by omega)
      ·have e1 : (er == 0) = false := by simpa using e0
       have e2 : (er != 0) = true := by simpa using e0
       have hr : r = er := by
        rw [HR0.out, stpsE_first (q := z) (by rw [← HM.out]; exact hlt) HAL.out (by rw [HX.out, HER.out]; exact e0), HX.out]; exact HER.out
       subst hr
       go_wp2
       refine bodyPost_ret (v := .int .i64 r) (by simp [results, Tryz.results33, go_sem, *]) rfl ⟨rfl, HKZ.out⟩
    ·obtain rfl : z = m := by omega
     have gz : decide ((z : Int) < (z : Int)) = false := decide_eq_false (by omega)
     have gzn : decide (z < z) = false := decide_eq_false (by omega)
     have hr : r = 0 := by
      rw [HR0.out]
      refine stpsE_none fun x hx => ?_
      obtain ⟨j, hj, rfl⟩ := List.getElem_of_mem hx
      have := HAL.out j (by rw [HM.out]; exact hj)
      rwa [List.getD_eq_getElem?_getD, List.getElem?_eq_getElem hj] at this
     subst hr
     go_wp2
     exact bodyPost_ret (v := .int .i64 0) (by simp [results, Tryz.results33, go_sem, *]) rfl ⟨rfl, bl1⟩
end Go.Proofs.YtlnboheahbfgfaaGreat
namespace Go.Proofs.YtlnboheahbfgfaaGreat
open Go.RowKit
def NewD (base : Nat) (T : TypeId) (zs vs : Array Value) (d e : Bool) (p : Value) (w' : World) : Prop := d = true → ∃ g, p = .pointer (some ⟨g, 0, none⟩) ∧ base ≤ g ∧ g < w'.heap.size ∧ (e = false → Blk w' g T zs) ∧ (e = true → Blk w' g T vs)
section
variable {base : Nat} {T : TypeId} {zs vs : Array Value} {d e : Bool} {p : Value} {w w' : World}
theorem NewD.start (p : Value) : NewD base T zs vs false e p w := fun h => by cases h
theorem NewD.below (h : NewD base T zs vs d e p w) (hb : Below w.heap.size w w') : NewD base T zs vs d e p w' := fun hd => by
 obtain ⟨g, a, b, c, f, k⟩ := h hd
 exact ⟨g, a, b, Nat.lt_of_lt_of_le c hb.size, fun h => Blk.keep hb (f h), fun h => Blk.keep hb (k h)⟩
theorem NewD.past {X : List Nat} (h : NewD base T zs vs d e p w) (hp : Past X w w') (hX : ∀ x ∈ X, x < base) : NewD base T zs vs d e p w' := fun hd => by
 obtain ⟨g, a, b, c, f, k⟩ := h hd
 have hn : g ∉ X := fun hm => by have := hX g hm; omega
 exact ⟨g, a, b, Nat.lt_of_lt_of_le c hp.1, fun h => hp.blk (f h) hn, fun h => hp.blk (k h) hn⟩
theorem NewD.set (h : NewD base T zs vs d e p w) {q : Addr} (hq : q.block < base) (v : Value) : NewD base T zs vs d e p (w.setCell q v) :=
 h.past (X := [q.block]) (Past.set (by simp) v) (fun x hx => by simp at hx; omega)
theorem NewD.made (hb : base ≤ w.heap.size) (he : e = false) : NewD base T zs vs d e (.pointer (some ⟨w.heap.size, 0, none⟩)) (w.alloc (.cells zs T)) :=
 fun _ => ⟨_, rfl, hb, (by simp), (fun _ => Blk.new _ _ _), (fun h => by rw [he] at h; cases h)⟩
theorem NewD.one (h : NewD base T zs vs d e p w) (hd : d = true) (he : e = false) : ∃ g, p = .pointer (some ⟨g, 0, none⟩) ∧ base ≤ g ∧ g < w.heap.size ∧ Blk w g T zs := by
 obtain ⟨g, a, b, c, f, k⟩ := h hd; exact ⟨g, a, b, c, f he⟩
theorem NewD.stored {g : Nat} (hb : base ≤ g) (h : Blk w g T vs) : NewD base T zs vs d true (.pointer (some ⟨g, 0, none⟩)) w := fun _ => ⟨g, rfl, hb, h.lt, (fun h => by cases h), (fun _ => h)⟩
theorem NewD.last (h : NewD base T zs vs d e p w) (hd : d = true) (he : e = true) : ∃ g, p = .pointer (some ⟨g, 0, none⟩) ∧ base ≤ g ∧ g < w.heap.size ∧ Blk w g T vs := by
 obtain ⟨g, a, b, c, f, k⟩ := h hd; exact ⟨g, a, b, c, k he⟩
end
theorem setAll_below' {b g : Nat} {W : World} (hg : b ≤ g) : ∀ (l : List Value) (i : Nat) (w : World), Below b W w → Below b W (setAll w g i l)
 | [], _, _, h => h
 | _ :: l, i, w, h => setAll_below' hg l (i + 1) _ (h.setCell hg _)
end Go.Proofs.YtlnboheahbfgfaaGreat
namespace Go.Proofs.YtlnboheahbfgfaaGreat
open Go Go.RowKit
end Go.Proofs.YtlnboheahbfgfaaGreat
