/- Walks: a steered clock: Check, Target, Read, of the program and of the reference. -/
import Derived.Test.YtnjogepllhjcjaaNum
import Derived.Deep.RegionHeld3
namespace Go.Proofs.Ytnjogepllhjcjaa
open Go.RowKit

theorem mul_div_split (v n d : Int) (hd : 0 < d) : v * n / d = v / d * n + v % d * n / d := by
  have e := Int.ediv_mul_add_emod v d
  have e2 : v * n = v % d * n + v / d * n * d := by
    conv => lhs; rw [← e]
    rw [Int.add_mul, Int.mul_assoc, Int.mul_comm d n, ← Int.mul_assoc]; omega
  rw [e2, Int.add_mul_ediv_right _ _ (by omega)]; omega
theorem share_le (v n d : Int) (hv : 0 ≤ v) (hn : 0 ≤ n) (hnd : n ≤ d) (hd : 0 < d) : 0 ≤ v * n / d ∧ v * n / d ≤ v := by
  refine ⟨Int.ediv_nonneg (Int.mul_nonneg hv hn) (by omega), ?_⟩
  have : v * n ≤ v * d := Int.mul_le_mul_of_nonneg_left hnd hv
  have := Int.ediv_le_ediv hd this
  rwa [Int.mul_ediv_cancel _ (by omega)] at this

theorem share_any (v n d : Int) (w : World) (hv : 0 ≤ v) (hv1 : v ≤ 2305843009213693952) (hn : 0 ≤ n) (hnd : n ≤ d) (hd : 0 < d) (hd1 : d ≤ 1000000000) :
    Calls Try.prog 46 #[.int .i64 v, .int .i64 n, .int .i64 d] w fun e w' => e = .returned (.int .i64 (v * n / d)) ∧ ∃ m, w' = w.drewN m := by
  rw [mul_div_split v n d hd]
  have s := share_le v n d hv hn hnd hd
  rw [mul_div_split v n d hd] at s
  have e := Int.ediv_mul_add_emod v d
  have r0 := Int.emod_nonneg v (show d ≠ 0 by omega)
  have r1 := Int.emod_lt_of_pos v hd
  have q0 : 0 ≤ v / d := Int.ediv_nonneg hv (by omega)
  have q1 : 0 ≤ v / d * d := Int.mul_nonneg q0 (by omega)
  have q2 : v / d * d ≤ v := by omega
  have q3 : v - v / d * d = v % d := by omega
  have m0 : 0 ≤ v % d * n := Int.mul_nonneg r0 hn
  have m1 : v % d * n ≤ d * n := Int.mul_le_mul_of_nonneg_right (by omega) hn
  have m2 : d * n ≤ 1000000000 * n := Int.mul_le_mul_of_nonneg_right hd1 hn
  have m3 : v % d * n ≤ 1000000000000000000 := by omega
  have n0 : 0 ≤ v / d * n := Int.mul_nonneg q0 hn
  have n1 : 0 ≤ v % d * n / d := Int.ediv_nonneg m0 (by omega)
  have n2 : v / d * n ≤ v := by omega
  clear m1 m2 e
  go_enter Try.func46, Try.ntmps46
  go_wp2
  go_ret
  exact ⟨rfl, 0, rfl⟩

/-- The error of a clock. -/
def chk (aim rate at_ shown : Int) : Int := if aim < 0 ∨ 1000 < aim ∨ rate < 0 ∨ 1000000000 < rate ∨ vT at_ = false ∨ vT shown = false then 4 else 0
theorem chk_bad {aim rate at_ shown : Int} (h : aim < 0 ∨ 1000 < aim ∨ rate < 0 ∨ 1000000000 < rate ∨ vT at_ = false ∨ vT shown = false) : chk aim rate at_ shown = 4 := by unfold chk; rw [if_pos h]
theorem chk_ok {aim rate at_ shown : Int} (h : ¬ (aim < 0 ∨ 1000 < aim ∨ rate < 0 ∨ 1000000000 < rate ∨ vT at_ = false ∨ vT shown = false)) : chk aim rate at_ shown = 0 := by unfold chk; rw [if_neg h]
theorem chk_zero {aim rate at_ shown : Int} (h : chk aim rate at_ shown = 0) : 0 ≤ aim ∧ aim ≤ 1000 ∧ 0 ≤ rate ∧ rate ≤ 1000000000 ∧ vT at_ = true ∧ vT shown = true := by
  unfold chk at h; split at h
  · omega
  · rename_i hc; simp only [not_or, Bool.not_eq_false] at hc; exact ⟨by omega, by omega, by omega, by omega, hc.2.2.2.2.1, hc.2.2.2.2.2⟩
theorem chk_cases (aim rate at_ shown : Int) : chk aim rate at_ shown = 0 ∨ chk aim rate at_ shown = 4 := by unfold chk; split <;> simp

theorem scheck_any (aim rate at_ shown : Int) (set held : Bool) (w : World) : Calls Try.prog 23 #[.agg #[.int .i64 aim, .int .i64 rate, .bool set, .bool held, .int .i64 at_, .int .i64 shown]] w fun e w' => e = .returned (.int .i64 (chk aim rate at_ shown)) ∧ w' = w.alloc (.cells #[.int .i64 aim, .int .i64 rate, .bool set, .bool held, .int .i64 at_, .int .i64 shown] 33) := by
  by_cases h1 : aim < 0
  · rw [chk_bad (.inl h1)]
    go_enter Try.func23, Try.ntmps23
    go_wp2_with (go_at_call 42; refine (tvalid_any _ _).mono ?_; rintro e w1 ⟨rfl, rfl⟩)
    go_ret; exact ⟨rfl, rfl⟩
  have h1' : decide (aim < 0) = false := by simpa using h1
  by_cases h2 : 1000 < aim
  · rw [chk_bad (.inr (.inl h2))]
    go_enter Try.func23, Try.ntmps23
    go_wp2_with (go_at_call 42; refine (tvalid_any _ _).mono ?_; rintro e w1 ⟨rfl, rfl⟩)
    go_ret; exact ⟨rfl, rfl⟩
  have h2' : decide (1000 < aim) = false := by simpa using h2
  by_cases h3 : rate < 0
  · rw [chk_bad (.inr (.inr (.inl h3)))]
    go_enter Try.func23, Try.ntmps23
    go_wp2_with (go_at_call 42; refine (tvalid_any _ _).mono ?_; rintro e w1 ⟨rfl, rfl⟩)
    go_ret; exact ⟨rfl, rfl⟩
  have h3' : decide (rate < 0) = false := by simpa using h3
  by_cases h4 : 1000000000 < rate
  · rw [chk_bad (.inr (.inr (.inr (.inl h4))))]
    go_enter Try.func23, Try.ntmps23
    go_wp2_with (go_at_call 42; refine (tvalid_any _ _).mono ?_; rintro e w1 ⟨rfl, rfl⟩)
    go_ret; exact ⟨rfl, rfl⟩
  have h4' : decide (1000000000 < rate) = false := by simpa using h4
  rcases h5 : vT at_
  · rw [chk_bad (.inr (.inr (.inr (.inr (.inl h5)))))]
    go_enter Try.func23, Try.ntmps23
    go_wp2_with (go_at_call 42; refine (tvalid_any _ _).mono ?_; rintro e w1 ⟨rfl, rfl⟩)
    go_ret; exact ⟨rfl, rfl⟩
  rcases h6 : vT shown
  · rw [chk_bad (.inr (.inr (.inr (.inr (.inr h6)))))]
    go_enter Try.func23, Try.ntmps23
    go_wp2_with (go_at_call 42; refine (tvalid_any _ _).mono ?_; rintro e w1 ⟨rfl, rfl⟩)
    go_ret; exact ⟨rfl, rfl⟩
  rw [chk_ok (by simp only [not_or, Bool.not_eq_false]; exact ⟨h1, h2, h3, h4, h5, h6⟩)]
  go_enter Try.func23, Try.ntmps23
  go_wp2_with (go_at_call 42; refine (tvalid_any _ _).mono ?_; rintro e w1 ⟨rfl, rfl⟩)
  go_ret; exact ⟨rfl, rfl⟩

theorem rscheck_any (aim rate at_ shown : Int) (set held : Bool) (w : World) : Calls Try.prog 24 #[.agg #[.int .i64 aim, .int .i64 rate, .bool set, .bool held, .int .i64 at_, .int .i64 shown]] w fun e w' => e = .returned (.int .i64 (chk aim rate at_ shown)) ∧ w' = w.alloc (.cells #[.int .i64 aim, .int .i64 rate, .bool set, .bool held, .int .i64 at_, .int .i64 shown] 33) := by
  by_cases h1 : aim < 0
  · rw [chk_bad (.inl h1)]
    go_enter Try.func24, Try.ntmps24
    go_wp2_with (go_at_call 45; refine (rvalid_any _ _).mono ?_; rintro e w1 ⟨rfl, rfl⟩)
    go_ret; exact ⟨rfl, rfl⟩
  have h1' : decide (aim < 0) = false := by simpa using h1
  by_cases h2 : 1000 < aim
  · rw [chk_bad (.inr (.inl h2))]
    go_enter Try.func24, Try.ntmps24
    go_wp2_with (go_at_call 45; refine (rvalid_any _ _).mono ?_; rintro e w1 ⟨rfl, rfl⟩)
    go_ret; exact ⟨rfl, rfl⟩
  have h2' : decide (1000 < aim) = false := by simpa using h2
  by_cases h3 : rate < 0
  · rw [chk_bad (.inr (.inr (.inl h3)))]
    go_enter Try.func24, Try.ntmps24
    go_wp2_with (go_at_call 45; refine (rvalid_any _ _).mono ?_; rintro e w1 ⟨rfl, rfl⟩)
    go_ret; exact ⟨rfl, rfl⟩
  have h3' : decide (rate < 0) = false := by simpa using h3
  by_cases h4 : 1000000000 < rate
  · rw [chk_bad (.inr (.inr (.inr (.inl h4))))]
    go_enter Try.func24, Try.ntmps24
    go_wp2_with (go_at_call 45; refine (rvalid_any _ _).mono ?_; rintro e w1 ⟨rfl, rfl⟩)
    go_ret; exact ⟨rfl, rfl⟩
  have h4' : decide (1000000000 < rate) = false := by simpa using h4
  rcases h5 : vT at_
  · rw [chk_bad (.inr (.inr (.inr (.inr (.inl h5)))))]
    go_enter Try.func24, Try.ntmps24
    go_wp2_with (go_at_call 45; refine (rvalid_any _ _).mono ?_; rintro e w1 ⟨rfl, rfl⟩)
    go_ret; exact ⟨rfl, rfl⟩
  rcases h6 : vT shown
  · rw [chk_bad (.inr (.inr (.inr (.inr (.inr h6)))))]
    go_enter Try.func24, Try.ntmps24
    go_wp2_with (go_at_call 45; refine (rvalid_any _ _).mono ?_; rintro e w1 ⟨rfl, rfl⟩)
    go_ret; exact ⟨rfl, rfl⟩
  rw [chk_ok (by simp only [not_or, Bool.not_eq_false]; exact ⟨h1, h2, h3, h4, h5, h6⟩)]
  go_enter Try.func24, Try.ntmps24
  go_wp2_with (go_at_call 45; refine (rvalid_any _ _).mono ?_; rintro e w1 ⟨rfl, rfl⟩)
  go_ret; exact ⟨rfl, rfl⟩


/-- The instant that a clock aims at, and the error. -/
def tgt (lo hi aim : Int) : Int × Int := if vS lo hi = false then (0, 3) else if aim < 0 ∨ 1000 < aim then (0, 4) else (lo + (hi - lo) * aim / 1000, 0)
theorem tgt_form {lo hi aim : Int} (h : vS lo hi = false) : tgt lo hi aim = (0, 3) := by unfold tgt; rw [if_pos h]
theorem tgt_range {lo hi aim : Int} (h : vS lo hi = true) (ha : aim < 0 ∨ 1000 < aim) : tgt lo hi aim = (0, 4) := by unfold tgt; rw [if_neg (by rw [h]; simp), if_pos ha]
theorem tgt_ok {lo hi aim : Int} (h : vS lo hi = true) (h0 : 0 ≤ aim) (h1 : aim ≤ 1000) : tgt lo hi aim = (lo + (hi - lo) * aim / 1000, 0) := by unfold tgt; rw [if_neg (by rw [h]; simp), if_neg (by omega)]
theorem wid_ok {lo hi : Int} (h : vS lo hi = true) : wid lo hi = hi - lo := by unfold wid; rw [h]; rfl

set_option maxRecDepth 100000 in
set_option maxHeartbeats 1000000 in
theorem target_any (lo hi aim : Int) (w : World) : Calls Try.prog 20 #[.agg #[.int .i64 lo, .int .i64 hi], .int .i64 aim] w fun e w' => e = .returned (.tuple #[.int .i64 (tgt lo hi aim).1, .int .i64 (tgt lo hi aim).2]) ∧ Below w.heap.size w w' := by
  rcases h1 : vS lo hi
  · rw [tgt_form h1]
    go_enter Try.func20, Try.ntmps20
    go_wp2_with (go_at_call 41; refine (svalid_any _ _ _).mono ?_; rintro e w1 ⟨rfl, rfl⟩)
    go_ret2; exact ⟨rfl, ((Below.refl _ _).alloc (Nat.le_refl _) _).alloc (by simp) _⟩
  by_cases h2 : aim < 0
  · rw [tgt_range h1 (.inl h2)]
    go_enter Try.func20, Try.ntmps20
    go_wp2_with (go_at_call 41; refine (svalid_any _ _ _).mono ?_; rintro e w1 ⟨rfl, rfl⟩)
    go_ret2; exact ⟨rfl, ((Below.refl _ _).alloc (Nat.le_refl _) _).alloc (by simp) _⟩
  have h2' : decide (aim < 0) = false := by simpa using h2
  by_cases h3 : 1000 < aim
  · rw [tgt_range h1 (.inr h3)]
    go_enter Try.func20, Try.ntmps20
    go_wp2_with (go_at_call 41; refine (svalid_any _ _ _).mono ?_; rintro e w1 ⟨rfl, rfl⟩)
    go_ret2; exact ⟨rfl, ((Below.refl _ _).alloc (Nat.le_refl _) _).alloc (by simp) _⟩
  have h3' : decide (1000 < aim) = false := by simpa using h3
  rw [tgt_ok h1 (by omega) (by omega)]
  have b := vS_true.1 h1
  have hw := wid_ok h1
  have s := share_le (hi - lo) aim 1000 (by omega) (by omega) (by omega) (by omega)
  have ew : IntKind.i64.wrap (lo + (hi - lo) * aim / 1000) = lo + (hi - lo) * aim / 1000 := IntWalk.i64_in _ (by omega)
  go_enter Try.func20, Try.ntmps20
  go_wp2_with (go_at_call 41; refine (svalid_any _ _ _).mono ?_; rintro e w1 ⟨rfl, rfl⟩)
  go_region_held3 (fun w' => w'.cell? ⟨w.heap.size, 0, none⟩ = some (.int .i64 lo) ∧ w'.cell? ⟨w.heap.size, 1, none⟩ = some (.int .i64 hi) ∧ Below w.heap.size w w')
    ((go_split_ands; refine ⟨?_, ?_, ?_⟩ <;> first | exact cell_below hb (by assumption) | exact kept_call hb (by assumption) | (simp [go_sem]; done) | exact (((Below.refl _ _).alloc (Nat.le_refl _) _).alloc (by simp) _).drew))
    (first | (go_at_call 47; refine (width_any _ _ _).mono ?_; rintro e w' ⟨rfl, hb⟩) | (go_at_call 43; refine (wdown_any _ _ _ _ (by omega) (by omega) (by omega) (by omega) (by omega) (by omega) (by omega)).mono ?_; rintro e w' ⟨rfl, hq⟩; have hb := below_q hq; clear hq))
  go_wp2
  go_ret2
  exact ⟨rfl, by go_split_ands; assumption⟩

set_option maxRecDepth 100000 in
set_option maxHeartbeats 1000000 in
theorem rtarget_any (lo hi aim : Int) (w : World) : Calls Try.prog 21 #[.agg #[.int .i64 lo, .int .i64 hi], .int .i64 aim] w fun e w' => e = .returned (.tuple #[.int .i64 (tgt lo hi aim).1, .int .i64 (tgt lo hi aim).2]) ∧ Below w.heap.size w w' := by
  rcases h1 : vS lo hi
  · rw [tgt_form h1]
    go_enter Try.func21, Try.ntmps21
    go_wp2_with (go_at_call 44; refine (rsvalid_any _ _ _).mono ?_; rintro e w1 ⟨rfl, rfl⟩)
    go_ret2; exact ⟨rfl, ((Below.refl _ _).alloc (Nat.le_refl _) _).alloc (by simp) _⟩
  by_cases h2 : aim < 0
  · rw [tgt_range h1 (.inl h2)]
    go_enter Try.func21, Try.ntmps21
    go_wp2_with (go_at_call 44; refine (rsvalid_any _ _ _).mono ?_; rintro e w1 ⟨rfl, rfl⟩)
    go_ret2; exact ⟨rfl, ((Below.refl _ _).alloc (Nat.le_refl _) _).alloc (by simp) _⟩
  have h2' : decide (aim < 0) = false := by simpa using h2
  by_cases h3 : 1000 < aim
  · rw [tgt_range h1 (.inr h3)]
    go_enter Try.func21, Try.ntmps21
    go_wp2_with (go_at_call 44; refine (rsvalid_any _ _ _).mono ?_; rintro e w1 ⟨rfl, rfl⟩)
    go_ret2; exact ⟨rfl, ((Below.refl _ _).alloc (Nat.le_refl _) _).alloc (by simp) _⟩
  have h3' : decide (1000 < aim) = false := by simpa using h3
  rw [tgt_ok h1 (by omega) (by omega)]
  have b := vS_true.1 h1
  have hw := wid_ok h1
  have s := share_le (hi - lo) aim 1000 (by omega) (by omega) (by omega) (by omega)
  have ew : IntKind.i64.wrap (lo + (hi - lo) * aim / 1000) = lo + (hi - lo) * aim / 1000 := IntWalk.i64_in _ (by omega)
  go_enter Try.func21, Try.ntmps21
  go_wp2_with (go_at_call 44; refine (rsvalid_any _ _ _).mono ?_; rintro e w1 ⟨rfl, rfl⟩)
  go_region_held3 (fun w' => w'.cell? ⟨w.heap.size, 0, none⟩ = some (.int .i64 lo) ∧ w'.cell? ⟨w.heap.size, 1, none⟩ = some (.int .i64 hi) ∧ Below w.heap.size w w')
    ((go_split_ands; refine ⟨?_, ?_, ?_⟩ <;> first | exact cell_below hb (by assumption) | exact kept_call hb (by assumption) | (simp [go_sem]; done) | exact (((Below.refl _ _).alloc (Nat.le_refl _) _).alloc (by simp) _).drew))
    (first | (go_at_call 48; refine (rwidth_any _ _ _).mono ?_; rintro e w' ⟨rfl, hb⟩) | (go_at_call 46; refine (share_any _ _ _ _ (by omega) (by omega) (by omega) (by omega) (by omega) (by omega)).mono ?_; rintro e w' ⟨rfl, hq⟩; have hb := below_q hq; clear hq))
  go_wp2
  go_ret2
  exact ⟨rfl, by go_split_ands; assumption⟩

end Go.Proofs.Ytnjogepllhjcjaa
