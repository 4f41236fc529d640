/- Texts joined: Num, R11, I11 -/
import Derived.Test.YtlnboheahbfgfaaGreatJ3
namespace Go.Proofs.YtlnboheahbfgfaaGreat
open Go.RowKit

def vT (t : Int) : Bool := decide (-1152921504606846976 ≤ t ∧ t ≤ 1152921504606846976)
theorem vT_true {t : Int} : vT t = true ↔ -1152921504606846976 ≤ t ∧ t ≤ 1152921504606846976 := by simp [vT]
theorem vT_false {t : Int} : vT t = false ↔ t < -1152921504606846976 ∨ 1152921504606846976 < t := by simp [vT]; omega
def vS (lo hi : Int) : Bool := vT lo && vT hi && decide (lo ≤ hi)
theorem vS_true {lo hi : Int} : vS lo hi = true ↔ (-1152921504606846976 ≤ lo ∧ lo ≤ hi ∧ hi ≤ 1152921504606846976) := by simp [vS, vT]; omega

theorem tvalid_any (t : Int) (w : World) : Calls Tryz.prog 82 #[.int .i64 t] w fun e w' => e = .returned (.bool (vT t)) ∧ w = w' := by
 by_cases h1 : -1152921504606846976 ≤ t
 ·by_cases h2 : t ≤ 1152921504606846976
  ·rw [vT_true.2 ⟨h1, h2⟩]
   go_enter Tryz.func82, Tryz.ntmps82
   go_wp2; go_ret; exact ⟨rfl, rfl⟩
  ·rw [vT_false.2 (.inr (by omega))]
   go_enter Tryz.func82, Tryz.ntmps82
   go_wp2; go_ret; exact ⟨rfl, rfl⟩
 ·rw [vT_false.2 (.inl (by omega))]
  go_enter Tryz.func82, Tryz.ntmps82
  go_wp2; go_ret; exact ⟨rfl, rfl⟩
theorem rvalid_any (t : Int) (w : World) : Calls Tryz.prog 96 #[.int .i64 t] w fun e w' => e = .returned (.bool (vT t)) ∧ w = w' := by
 by_cases h1 : -1152921504606846976 ≤ t
 ·by_cases h2 : t ≤ 1152921504606846976
  ·rw [vT_true.2 ⟨h1, h2⟩]
   go_enter Tryz.func96, Tryz.ntmps96
   go_wp2; go_ret; exact ⟨rfl, rfl⟩
  ·rw [vT_false.2 (.inr (by omega))]
   go_enter Tryz.func96, Tryz.ntmps96
   go_wp2; go_ret; exact ⟨rfl, rfl⟩
 ·rw [vT_false.2 (.inl (by omega))]
  go_enter Tryz.func96, Tryz.ntmps96
  go_wp2; go_ret; exact ⟨rfl, rfl⟩

theorem svalid_any (lo hi : Int) (w : World) : Calls Tryz.prog 53 #[.agg #[.int .i64 lo, .int .i64 hi]] w fun e w' => e = .returned (.bool (vS lo hi)) ∧ w' = w.alloc (.cells #[.int .i64 lo, .int .i64 hi] 29) := by
 have hs : vS lo hi = (vT lo && vT hi && decide (lo ≤ hi)) := rfl
 rcases h1 : vT lo
 ·rw [hs, h1]
  go_enter Tryz.func53, Tryz.ntmps53
  go_wp2_with (go_at_call 82; refine (tvalid_any _ _).mono ?_; rintro e w1 ⟨rfl, rfl⟩)
  go_ret; exact ⟨rfl, rfl⟩
 ·rcases h2 : vT hi
  ·rw [hs, h1, h2]
   go_enter Tryz.func53, Tryz.ntmps53
   go_wp2_with (go_at_call 82; refine (tvalid_any _ _).mono ?_; rintro e w1 ⟨rfl, rfl⟩)
   go_ret; exact ⟨rfl, rfl⟩
  ·rw [hs, h1, h2]
   go_enter Tryz.func53, Tryz.ntmps53
   go_wp2_with (go_at_call 82; refine (tvalid_any _ _).mono ?_; rintro e w1 ⟨rfl, rfl⟩)
   go_ret; exact ⟨by simp, rfl⟩
theorem rsvalid_any (lo hi : Int) (w : World) : Calls Tryz.prog 61 #[.agg #[.int .i64 lo, .int .i64 hi]] w fun e w' => e = .returned (.bool (vS lo hi)) ∧ w' = w.alloc (.cells #[.int .i64 lo, .int .i64 hi] 29) := by
 have hs : vS lo hi = (vT lo && vT hi && decide (lo ≤ hi)) := rfl
 rcases h1 : vT lo
 ·rw [hs, h1]
  go_enter Tryz.func61, Tryz.ntmps61
  go_wp2_with (go_at_call 96; refine (rvalid_any _ _).mono ?_; rintro e w1 ⟨rfl, rfl⟩)
  go_ret; exact ⟨rfl, rfl⟩
 ·rcases h2 : vT hi
  ·rw [hs, h1, h2]
   go_enter Tryz.func61, Tryz.ntmps61
   go_wp2_with (go_at_call 96; refine (rvalid_any _ _).mono ?_; rintro e w1 ⟨rfl, rfl⟩)
   go_ret; exact ⟨rfl, rfl⟩
  ·rw [hs, h1, h2]
   go_enter Tryz.func61, Tryz.ntmps61
   go_wp2_with (go_at_call 96; refine (rvalid_any _ _).mono ?_; rintro e w1 ⟨rfl, rfl⟩)
   go_ret; exact ⟨by simp, rfl⟩

def wid (lo hi : Int) : Int := if vS lo hi then hi - lo else 0
theorem width_any (lo hi : Int) (w : World) : Calls Tryz.prog 150 #[.agg #[.int .i64 lo, .int .i64 hi]] w fun e w' => e = .returned (.int .i64 (wid lo hi)) ∧ Below w.heap.size w w' := by
 rcases h : vS lo hi
 ·have e1 : wid lo hi = 0 := by unfold wid; rw [h]; rfl
  rw [e1]
  go_enter Tryz.func150, Tryz.ntmps150
  go_wp2_with (go_at_call 53; refine (svalid_any _ _ _).mono ?_; rintro e w1 ⟨rfl, rfl⟩)
  go_ret; exact ⟨rfl, ((Below.refl _ _).alloc (Nat.le_refl _) _).alloc (by simp) _⟩
 ·have e1 : wid lo hi = hi - lo := by unfold wid; rw [h]; rfl
  have b := vS_true.1 h
  rw [e1]
  go_enter Tryz.func150, Tryz.ntmps150
  go_wp2_with (go_at_call 53; refine (svalid_any _ _ _).mono ?_; rintro e w1 ⟨rfl, rfl⟩)
  go_ret; exact ⟨rfl, ((Below.refl _ _).alloc (Nat.le_refl _) _).alloc (by simp) _⟩
theorem rwidth_any (lo hi : Int) (w : World) : Calls Tryz.prog 27 #[.agg #[.int .i64 lo, .int .i64 hi]] w fun e w' => e = .returned (.int .i64 (wid lo hi)) ∧ Below w.heap.size w w' := by
 rcases h : vS lo hi
 ·have e1 : wid lo hi = 0 := by unfold wid; rw [h]; rfl
  rw [e1]
  go_enter Tryz.func27, Tryz.ntmps27
  go_wp2_with (go_at_call 61; refine (rsvalid_any _ _ _).mono ?_; rintro e w1 ⟨rfl, rfl⟩)
  go_ret; exact ⟨rfl, ((Below.refl _ _).alloc (Nat.le_refl _) _).alloc (by simp) _⟩
 ·have e1 : wid lo hi = hi - lo := by unfold wid; rw [h]; rfl
  have b := vS_true.1 h
  rw [e1]
  go_enter Tryz.func27, Tryz.ntmps27
  go_wp2_with (go_at_call 61; refine (rsvalid_any _ _ _).mono ?_; rintro e w1 ⟨rfl, rfl⟩)
  go_ret; exact ⟨rfl, ((Below.refl _ _).alloc (Nat.le_refl _) _).alloc (by simp) _⟩

theorem wdown_any (a b c : Int) (w : World) (ha : 0 ≤ a) (ha1 : a ≤ 9223372036854775807) (hb : 0 ≤ b) (hb1 : b ≤ 9223372036854775807) (hc : 0 < c) (hc1 : c ≤ 9223372036854775807) (hq : a * b / c ≤ 9223372036854775807) :
  Calls Tryz.prog 128 #[.int .i64 a, .int .i64 b, .int .i64 c] w fun e w' => e = .returned (.int .i64 (a * b / c)) ∧ ∃ n, w' = w.drewN n := by
 have p0 : 0 ≤ a * b := Int.mul_nonneg ha hb
 have q0 : 0 ≤ a * b / c := Int.ediv_nonneg p0 (by omega)
 have p1 : a * b < (a * b / c + 1) * c := by
  have := Int.lt_ediv_add_one_mul_self (a * b) hc
  exact this
 have p2 : (a * b / c + 1) * c ≤ 9223372036854775808 * c := Int.mul_le_mul_of_nonneg_right (by omega) (by omega)
 have p3 : a * b / 18446744073709551616 < c := by omega
 have p4 : 0 ≤ a * b / 18446744073709551616 := by omega
 have p5 : 0 ≤ a * b % 18446744073709551616 ∧ a * b % 18446744073709551616 < 18446744073709551616 := by omega
 have p6 : a * b / 18446744073709551616 * 18446744073709551616 + a * b % 18446744073709551616 = a * b := by omega
 have H6 := Lib.hid p6; clear p6
 clear p1 p2
 go_enter Tryz.func128, Tryz.ntmps128
 go_wp2_with fail
 refine (mul64_any a b ha hb (by omega) (by omega) _).mono ?_
 rintro e w1 ⟨rfl, rfl⟩
 go_wp2_with fail
 refine (div64_any _ _ c p4 p3 p5.1 p5.2 (by omega) _).mono ?_
 rintro e w1 ⟨rfl, n, rfl⟩
 rw [H6.out]
 go_wp2
 go_ret
 exact ⟨rfl, n, rfl⟩
end Go.Proofs.YtlnboheahbfgfaaGreat
namespace Go.Proofs.YtlnboheahbfgfaaGreat
open Go.RowKit

def mkS (lo hi : Int) : Value := if vS lo hi then .tuple #[.agg #[.int .i64 lo, .int .i64 hi], .int .i64 0] else .tuple #[.agg #[.int .i64 0, .int .i64 0], .int .i64 4]
theorem mkS_ok {lo hi : Int} (h : vS lo hi = true) : mkS lo hi = .tuple #[.agg #[.int .i64 lo, .int .i64 hi], .int .i64 0] := by unfold mkS; rw [if_pos h]
theorem mkS_no {lo hi : Int} (h : vS lo hi = false) : mkS lo hi = .tuple #[.agg #[.int .i64 0, .int .i64 0], .int .i64 4] := by unfold mkS; rw [if_neg (by rw [h]; simp)]
theorem mkS_form (lo hi : Int) : ∃ x y e, mkS lo hi = .tuple #[.agg #[.int .i64 x, .int .i64 y], .int .i64 e] := by
 unfold mkS; split <;> exact ⟨_, _, _, rfl⟩

def hdB (lo hi t : Int) : Bool := vS lo hi && (decide (lo ≤ t) && decide (t ≤ hi))
def mtB (a b c d : Int) : Bool := vS a b && (vS c d && decide (max a c ≤ min b d))
def mtLo (a b c d : Int) : Int := if mtB a b c d then max a c else 0
def mtHi (a b c d : Int) : Int := if mtB a b c d then min b d else 0
theorem mtLo_yes {a b c d : Int} (h : mtB a b c d = true) : mtLo a b c d = max a c := by unfold mtLo; rw [if_pos h]
theorem mtHi_yes {a b c d : Int} (h : mtB a b c d = true) : mtHi a b c d = min b d := by unfold mtHi; rw [if_pos h]
theorem mtLo_no {a b c d : Int} (h : mtB a b c d = false) : mtLo a b c d = 0 := by unfold mtLo; rw [if_neg (by rw [h]; simp)]
theorem mtHi_no {a b c d : Int} (h : mtB a b c d = false) : mtHi a b c d = 0 := by unfold mtHi; rw [if_neg (by rw [h]; simp)]
def opV (ok in_ : Bool) (lo hi : Int) : Value := if ok then (if in_ then mkS lo hi else .tuple #[.agg #[.int .i64 0, .int .i64 0], .int .i64 4]) else .tuple #[.agg #[.int .i64 0, .int .i64 0], .int .i64 3]
theorem opV_3 {in_ : Bool} {lo hi : Int} : opV false in_ lo hi = .tuple #[.agg #[.int .i64 0, .int .i64 0], .int .i64 3] := rfl
theorem opV_4 {lo hi : Int} : opV true false lo hi = .tuple #[.agg #[.int .i64 0, .int .i64 0], .int .i64 4] := rfl
theorem opV_ok {lo hi : Int} : opV true true lo hi = mkS lo hi := rfl
theorem opV_form (ok in_ : Bool) (lo hi : Int) : ∃ x y e, opV ok in_ lo hi = .tuple #[.agg #[.int .i64 x, .int .i64 y], .int .i64 e] := by
 cases ok
 ·exact ⟨_, _, _, rfl⟩
 ·cases in_
  ·exact ⟨_, _, _, rfl⟩
  ·exact mkS_form lo hi
set_option maxHeartbeats 1000000 in
theorem rholds_all (lo hi t : Int) (w : World) :
  Calls Tryz.prog 25 #[.agg #[.int .i64 lo, .int .i64 hi], .int .i64 t] w (RB w (.bool (hdB lo hi t))) := by
 rcases h : vS lo hi
 ·rw [show hdB lo hi t = false by simp [hdB, h]]
  go_enter Tryz.func25, Tryz.ntmps25
  go_wp2_with fail
  refine (rsvalid_any _ _ _).mono ?_
  rintro e wq1 ⟨rfl, rfl⟩
  rw [h]
  go_wp2
  go_ret
  exact ⟨rfl, bl0⟩
 ·by_cases h1 : lo ≤ t
  ·by_cases h2 : t ≤ hi
   ·rw [show hdB lo hi t = true by simp [hdB, h, h1, h2]]
    go_enter Tryz.func25, Tryz.ntmps25
    go_wp2_with fail
    refine (rsvalid_any _ _ _).mono ?_
    rintro e wq2 ⟨rfl, rfl⟩
    rw [h]
    go_wp2
    go_ret
    exact ⟨rfl, bl0⟩
   ·rw [show hdB lo hi t = false by simp [hdB, h, h1, h2]]
    have q2 : decide (t ≤ hi) = false := by simpa using h2
    go_enter Tryz.func25, Tryz.ntmps25
    go_wp2_with fail
    refine (rsvalid_any _ _ _).mono ?_
    rintro e wq3 ⟨rfl, rfl⟩
    rw [h]
    go_wp2
    go_ret
    exact ⟨rfl, bl0⟩
  ·rw [show hdB lo hi t = false by simp [hdB, h, h1]]
   go_enter Tryz.func25, Tryz.ntmps25
   go_wp2_with fail
   refine (rsvalid_any _ _ _).mono ?_
   rintro e wq4 ⟨rfl, rfl⟩
   rw [h]
   go_wp2
   go_ret
   exact ⟨rfl, bl0⟩
set_option maxHeartbeats 1000000 in
theorem rmeet_all (a b c d : Int) (w : World) :
  Calls Tryz.prog 131 #[.agg #[.int .i64 a, .int .i64 b], .agg #[.int .i64 c, .int .i64 d]] w (RB w (.tuple #[.agg #[.int .i64 (mtLo a b c d), .int .i64 (mtHi a b c d)], .bool (mtB a b c d)])) := by
 rcases h : vS a b
 ·have hm : mtB a b c d = false := by simp [mtB, h]
  rw [mtLo_no hm, mtHi_no hm, hm]
  go_enter Tryz.func131, Tryz.ntmps131
  go_wp2_with fail
  refine (rsvalid_any _ _ _).mono ?_
  rintro e wq1 ⟨rfl, rfl⟩
  rw [h]
  go_wp2
  exact bodyPost_ret (v := .tuple #[.agg #[.int .i64 0, .int .i64 0], .bool false]) (by simp [results, Tryz.results131, go_sem, *]) rfl ⟨rfl, bl0⟩
 rcases h' : vS c d
 ·have hm : mtB a b c d = false := by simp [mtB, h']
  rw [mtLo_no hm, mtHi_no hm, hm]
  go_enter Tryz.func131, Tryz.ntmps131
  go_wp2_with fail
  refine (rsvalid_any _ _ _).mono ?_
  rintro e wq2 ⟨rfl, rfl⟩
  rw [h]
  go_wp2_with fail
  refine (rsvalid_any _ _ _).mono ?_
  rintro e wq3 ⟨rfl, rfl⟩
  rw [h']
  go_wp2
  exact bodyPost_ret (v := .tuple #[.agg #[.int .i64 0, .int .i64 0], .bool false]) (by simp [results, Tryz.results131, go_sem, *]) rfl ⟨rfl, bl0⟩
 by_cases h1 : min b d < max a c
 ·have hm : mtB a b c d = false := by simp only [mtB, h, h', Bool.true_and, decide_eq_false_iff_not]; omega
  rw [mtLo_no hm, mtHi_no hm, hm]
  have h2 : decide (min b d < max a c) = true := by simpa using h1
  clear h1 hm
  go_enter Tryz.func131, Tryz.ntmps131
  go_wp2_with fail
  refine (rsvalid_any _ _ _).mono ?_
  rintro e wq4 ⟨rfl, rfl⟩
  rw [h]
  go_wp2_with fail
  refine (rsvalid_any _ _ _).mono ?_
  rintro e wq5 ⟨rfl, rfl⟩
  rw [h']
  go_wp2
  exact bodyPost_ret (v := .tuple #[.agg #[.int .i64 0, .int .i64 0], .bool false]) (by simp [results, Tryz.results131, go_sem, *]) rfl ⟨rfl, bl0⟩
 ·have hm : mtB a b c d = true := by simp only [mtB, h, h', Bool.true_and, decide_eq_true_eq]; omega
  rw [mtLo_yes hm, mtHi_yes hm, hm]
  have h2 : decide (min b d < max a c) = false := by simpa using h1
  clear h1 hm
  have hmx : ∃ x, max a c = x := ⟨_, rfl⟩
  have hmn : ∃ x, min b d = x := ⟨_, rfl⟩
  go_enter Tryz.func131, Tryz.ntmps131
  go_wp2_with fail
  refine (rsvalid_any _ _ _).mono ?_
  rintro e wq6 ⟨rfl, rfl⟩
  rw [h]
  go_wp2_with fail
  refine (rsvalid_any _ _ _).mono ?_
  rintro e wq7 ⟨rfl, rfl⟩
  rw [h']
  go_wp2
  exact bodyPost_ret (v := .tuple #[.agg #[.int .i64 (max a c), .int .i64 (min b d)], .bool true]) (by simp [results, Tryz.results131, go_sem, *]) rfl ⟨rfl, bl0⟩
set_option maxHeartbeats 1000000 in
theorem rmade_all (lo hi : Int) (w : World) :
  Calls Tryz.prog 153 #[.int .i64 lo, .int .i64 hi] w (RB w (mkS lo hi)) := by
 rcases hv : vS lo hi
 ·rw [mkS_no hv]
  go_enter Tryz.func153, Tryz.ntmps153
  go_wp2_with fail
  refine (rsvalid_any _ _ _).mono ?_
  rintro e wq1 ⟨rfl, rfl⟩
  rw [hv]
  go_wp2
  exact bodyPost_ret (v := .tuple #[.agg #[.int .i64 0, .int .i64 0], .int .i64 4]) (by simp [results, Tryz.results153, go_sem, *]) rfl ⟨rfl, bl0⟩
 ·rw [mkS_ok hv]
  go_enter Tryz.func153, Tryz.ntmps153
  go_wp2_with fail
  refine (rsvalid_any _ _ _).mono ?_
  rintro e wq2 ⟨rfl, rfl⟩
  rw [hv]
  go_wp2
  exact bodyPost_ret (v := .tuple #[.agg #[.int .i64 lo, .int .i64 hi], .int .i64 0]) (by simp [results, Tryz.results153, go_sem, *]) rfl ⟨rfl, bl0⟩
set_option maxHeartbeats 2000000 in
theorem radd_all (a b c d : Int) (w : World) :
  Calls Tryz.prog 134 #[.agg #[.int .i64 a, .int .i64 b], .agg #[.int .i64 c, .int .i64 d]] w (RB w (opV (vS a b && vS c d) true (a + c) (b + d))) := by
 rcases h : vS a b
 ·rw [show (false && vS c d) = false from rfl, opV_3]
  go_enter Tryz.func134, Tryz.ntmps134
  go_wp2_with fail
  refine (rsvalid_any _ _ _).mono ?_
  rintro e wq1 ⟨rfl, rfl⟩
  rw [h]
  go_wp2
  exact bodyPost_ret (v := .tuple #[.agg #[.int .i64 0, .int .i64 0], .int .i64 3]) (by simp [results, Tryz.results134, go_sem, *]) rfl ⟨rfl, bl0⟩
 rcases h' : vS c d
 ·rw [show (true && false) = false from rfl, opV_3]
  go_enter Tryz.func134, Tryz.ntmps134
  go_wp2_with fail
  refine (rsvalid_any _ _ _).mono ?_
  rintro e wq2 ⟨rfl, rfl⟩
  rw [h]
  go_wp2_with fail
  refine (rsvalid_any _ _ _).mono ?_
  rintro e wq3 ⟨rfl, rfl⟩
  rw [h']
  go_wp2
  exact bodyPost_ret (v := .tuple #[.agg #[.int .i64 0, .int .i64 0], .int .i64 3]) (by simp [results, Tryz.results134, go_sem, *]) rfl ⟨rfl, bl0⟩
 ·rw [show (true && true) = true from rfl, opV_ok]
  obtain ⟨x1, x2, x3⟩ := vS_true.1 h
  obtain ⟨y1, y2, y3⟩ := vS_true.1 h'
  obtain ⟨x, y, e, hv⟩ := mkS_form (a + c) (b + d)
  have Q := hYd (rmade_all (a + c) (b + d))
  rw [hv] at Q ⊢
  clear hv
  have H1 := hYd h; clear h
  have H2 := hYd h'; clear h'
  go_enter Tryz.func134, Tryz.ntmps134
  go_wp2_with fail
  refine (rsvalid_any _ _ _).mono ?_
  rintro e wq1 ⟨rfl, rfl⟩
  rw [H1.out]
  go_wp2_with fail
  refine (rsvalid_any _ _ _).mono ?_
  rintro e wq2 ⟨rfl, rfl⟩
  rw [H2.out]
  go_wp2_with fail
  refine (Q.out _).mono ?_
  rintro e w1 ⟨rfl, hb1⟩
  have K1 : Below w.heap.size w w1 := kept_call hb1 bl0
  have Z1 := K1.size
  have b1_2 := Blk.keep (g := w.heap.size + 2) hb1 bn0
  (try simp only [lst, ls0, ls1] at b1_2)
  clear hb1
  obtain ⟨c1_2, f1_2, l1_2, e1_2, k1_2⟩ := Blk.facts b1_2
  go_wp2
  exact bodyPost_ret (v := .tuple #[.agg #[.int .i64 x, .int .i64 y], .int .i64 e]) (by simp [results, Tryz.results134, go_sem, *]) rfl ⟨rfl, bl1⟩
end Go.Proofs.YtlnboheahbfgfaaGreat
namespace Go.Proofs.YtlnboheahbfgfaaGreat
open Go.RowKit

set_option maxHeartbeats 1000000 in
theorem iholds_all (lo hi t : Int) (w : World) :
  Calls Tryz.prog 20 #[.agg #[.int .i64 lo, .int .i64 hi], .int .i64 t] w (RB w (.bool (hdB lo hi t))) := by
 rcases h : vS lo hi
 ·rw [show hdB lo hi t = false by simp [hdB, h]]
  go_enter Tryz.func20, Tryz.ntmps20
  go_wp2_with fail
  refine (svalid_any _ _ _).mono ?_
  rintro e wq1 ⟨rfl, rfl⟩
  rw [h]
  go_wp2
  go_ret
  exact ⟨rfl, bl0⟩
 ·by_cases h1 : lo ≤ t
  ·by_cases h2 : t ≤ hi
   ·rw [show hdB lo hi t = true by simp [hdB, h, h1, h2]]
    go_enter Tryz.func20, Tryz.ntmps20
    go_wp2_with fail
    refine (svalid_any _ _ _).mono ?_
    rintro e wq2 ⟨rfl, rfl⟩
    rw [h]
    go_wp2
    go_ret
    exact ⟨rfl, bl0⟩
   ·rw [show hdB lo hi t = false by simp [hdB, h, h1, h2]]
    have q2 : decide (t ≤ hi) = false := by simpa using h2
    go_enter Tryz.func20, Tryz.ntmps20
    go_wp2_with fail
    refine (svalid_any _ _ _).mono ?_
    rintro e wq3 ⟨rfl, rfl⟩
    rw [h]
    go_wp2
    go_ret
    exact ⟨rfl, bl0⟩
  ·rw [show hdB lo hi t = false by simp [hdB, h, h1]]
   go_enter Tryz.func20, Tryz.ntmps20
   go_wp2_with fail
   refine (svalid_any _ _ _).mono ?_
   rintro e wq4 ⟨rfl, rfl⟩
   rw [h]
   go_wp2
   go_ret
   exact ⟨rfl, bl0⟩
set_option maxHeartbeats 2000000 in
theorem imeet_all (a b c d : Int) (w : World) :
  Calls Tryz.prog 54 #[.agg #[.int .i64 a, .int .i64 b], .agg #[.int .i64 c, .int .i64 d]] w (RB w (.tuple #[.agg #[.int .i64 (mtLo a b c d), .int .i64 (mtHi a b c d)], .bool (mtB a b c d)])) := by
 rcases h : vS a b
 ·have hm : mtB a b c d = false := by simp [mtB, h]
  rw [mtLo_no hm, mtHi_no hm, hm]
  go_enter Tryz.func54, Tryz.ntmps54
  go_wp2_with fail
  refine (svalid_any _ _ _).mono ?_
  rintro e wq1 ⟨rfl, rfl⟩
  rw [h]
  go_wp2
  exact bodyPost_ret (v := .tuple #[.agg #[.int .i64 0, .int .i64 0], .bool false]) (by simp [results, Tryz.results54, go_sem, *]) rfl ⟨rfl, bl0⟩
 rcases h' : vS c d
 ·have hm : mtB a b c d = false := by simp [mtB, h']
  rw [mtLo_no hm, mtHi_no hm, hm]
  go_enter Tryz.func54, Tryz.ntmps54
  go_wp2_with fail
  refine (svalid_any _ _ _).mono ?_
  rintro e wq2 ⟨rfl, rfl⟩
  rw [h]
  go_wp2_with fail
  refine (svalid_any _ _ _).mono ?_
  rintro e wq3 ⟨rfl, rfl⟩
  rw [h']
  go_wp2
  exact bodyPost_ret (v := .tuple #[.agg #[.int .i64 0, .int .i64 0], .bool false]) (by simp [results, Tryz.results54, go_sem, *]) rfl ⟨rfl, bl0⟩
 have hv1 := vS_true.1 h; have hv2 := vS_true.1 h'
 have hmx : vS (max a c) (min b d) = decide (max a c ≤ min b d) := by
  rw [Bool.eq_iff_iff, vS_true, decide_eq_true_eq]; omega
 rcases hm : mtB a b c d
 ·have h2 : vS (max a c) (min b d) = false := by rw [hmx]; simpa [mtB, h, h'] using hm
  rw [mtLo_no hm, mtHi_no hm]
  have H := hYd h; have H' := hYd h'; have H2 := hYd h2; clear h h' h2 hm hmx hv1 hv2
  go_enter Tryz.func54, Tryz.ntmps54
  go_wp2_with fail
  refine (svalid_any _ _ _).mono ?_
  rintro e wq1 ⟨rfl, rfl⟩
  rw [H.out]
  go_wp2_with fail
  refine (svalid_any _ _ _).mono ?_
  rintro e wq2 ⟨rfl, rfl⟩
  rw [H'.out]
  go_wp2_with fail
  refine (svalid_any _ _ _).mono ?_
  rintro e wq3 ⟨rfl, rfl⟩
  rw [H2.out]
  go_wp2
  exact bodyPost_ret (v := .tuple #[.agg #[.int .i64 0, .int .i64 0], .bool false]) (by simp [results, Tryz.results54, go_sem, *]) rfl ⟨rfl, bl0⟩
 ·have h2 : vS (max a c) (min b d) = true := by rw [hmx]; simpa [mtB, h, h'] using hm
  rw [mtLo_yes hm, mtHi_yes hm]
  have H := hYd h; have H' := hYd h'; have H2 := hYd h2; clear h h' h2 hm hmx hv1 hv2
  go_enter Tryz.func54, Tryz.ntmps54
  go_wp2_with fail
  refine (svalid_any _ _ _).mono ?_
  rintro e wq1 ⟨rfl, rfl⟩
  rw [H.out]
  go_wp2_with fail
  refine (svalid_any _ _ _).mono ?_
  rintro e wq2 ⟨rfl, rfl⟩
  rw [H'.out]
  go_wp2_with fail
  refine (svalid_any _ _ _).mono ?_
  rintro e wq3 ⟨rfl, rfl⟩
  rw [H2.out]
  go_wp2
  exact bodyPost_ret (v := .tuple #[.agg #[.int .i64 (max a c), .int .i64 (min b d)], .bool true]) (by simp [results, Tryz.results54, go_sem, *]) rfl ⟨rfl, bl0⟩
end Go.Proofs.YtlnboheahbfgfaaGreat
