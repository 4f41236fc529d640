/- Lemmas. -/
import Derived.Deep.RegionHeld3
import Derived.BigQuiet
import Derived.Deep.QuietTactic
import Derived.Test.YtiinmhfolfgobaaGreatDoorJ11
import Derived.Test.YtiinmhfolfgobaaGreatDoorJ9
import Derived.Test.YtiinmhfolfgobaaGreatDoorJ7
set_option linter.unusedVariables false
set_option linter.unusedSimpArgs false
namespace Go.Proofs.YtiinmhfolfgobaaGreatDoor
open Go.RowKit
set_option maxHeartbeats 8000000
set_option maxRecDepth 100000
theorem mul_div_split (v n d : Int) (hd : 0 < d) : v * n / d = v / d * n + v % d * n / d := by
 have e := Int.ediv_mul_add_emod v d
 have e2 : v * n = v % d * n + v / d * n * d := by
  conv => lhs; rw [← e]
  rw [Int.add_mul, Int.mul_assoc, Int.mul_comm d n, ← Int.mul_assoc]; omega
 rw [e2, Int.add_mul_ediv_right _ _ Yo]; omega
theorem share_le (v n d : Int) (hv : 0 ≤ v) (hn : 0 ≤ n) (hnd : n ≤ d) (hd : 0 < d) : 0 ≤ v * n / d ∧ v * n / d ≤ v := by
 refine ⟨Int.ediv_nonneg (Int.mul_nonneg hv hn) Yo, ?_⟩
 have : v * n ≤ v * d := Int.mul_le_mul_of_nonneg_left hnd hv
 have := Int.ediv_le_ediv hd this
 rwa [Int.mul_ediv_cancel _ Yo] at this
theorem share_any (v n d : Int) (w : World) (hv : 0 ≤ v) (hv1 : v ≤ 2305843009213693952) (hn : 0 ≤ n) (hnd : n ≤ d) (hd : 0 < d) (hd1 : d ≤ 1000000000) :
  Calls Tryz.prog 152 #[.int .i64 v, .int .i64 n, .int .i64 d] w fun e w' => e = .returned (.int .i64 (v * n / d)) ∧ ∃ m, w' = w.drewN m := by
 rw [mul_div_split v n d hd]
 have s := share_le v n d hv hn hnd hd
 rw [mul_div_split v n d hd] at s
 have e := Int.ediv_mul_add_emod v d
 have r0 := Int.emod_nonneg v (show d ≠ 0 by omega)
 have r1 := Int.emod_lt_of_pos v hd
 have q0 : 0 ≤ v / d := Int.ediv_nonneg hv Yo
 have q1 : 0 ≤ v / d * d := Int.mul_nonneg q0 Yo
 have q2 : v / d * d ≤ v := by omega
 have q3 : v - v / d * d = v % d := by omega
 have m0 : 0 ≤ v % d * n := Int.mul_nonneg r0 hn
 have m1 : v % d * n ≤ d * n := Int.mul_le_mul_of_nonneg_right Yo hn
 have m2 : d * n ≤ 1000000000 * n := Int.mul_le_mul_of_nonneg_right hd1 hn
 have m3 : v % d * n ≤ 1000000000000000000 := by omega
 have n0 : 0 ≤ v / d * n := Int.mul_nonneg q0 hn
 have n1 : 0 ≤ v % d * n / d := Int.ediv_nonneg m0 Yo
 have n2 : v / d * n ≤ v := by omega
 clear m1 m2 e
 go_enter Tryz.func152, Tryz.ntmps152
 go_wp2
 go_ret
 exact ⟨rfl, 0, rfl⟩
def chk (aim rate at_ shown : Int) : Int := if aim < 0 ∨ 1000 < aim ∨ rate < 0 ∨ 1000000000 < rate ∨ vT at_ = false ∨ vT shown = false then 4 else 0
theorem chk_bad {aim rate at_ shown : Int} (h : aim < 0 ∨ 1000 < aim ∨ rate < 0 ∨ 1000000000 < rate ∨ vT at_ = false ∨ vT shown = false) : chk aim rate at_ shown = 4 := by unfold chk; rw [if_pos h]
theorem chk_ok {aim rate at_ shown : Int} (h : ¬ (aim < 0 ∨ 1000 < aim ∨ rate < 0 ∨ 1000000000 < rate ∨ vT at_ = false ∨ vT shown = false)) : chk aim rate at_ shown = 0 := by unfold chk; rw [if_neg h]
theorem chk_zero {aim rate at_ shown : Int} (h : chk aim rate at_ shown = 0) : 0 ≤ aim ∧ aim ≤ 1000 ∧ 0 ≤ rate ∧ rate ≤ 1000000000 ∧ vT at_ = true ∧ vT shown = true := by
 unfold chk at h; split at h
 ·omega
 ·rename_i hc; simp only [not_or, Bool.not_eq_false] at hc; exact ⟨Yo, Yo, Yo, Yo, hc.2.2.2.2.1, hc.2.2.2.2.2⟩
theorem chk_cases (aim rate at_ shown : Int) : chk aim rate at_ shown = 0 ∨ chk aim rate at_ shown = 4 := by unfold chk; split <;> simp
theorem scheck_any (aim rate at_ shown : Int) (set held : Bool) (w : World) : Calls Tryz.prog 166 #[.agg #[.int .i64 aim, .int .i64 rate, .bool set, .bool held, .int .i64 at_, .int .i64 shown]] w fun e w' => e = .returned (.int .i64 (chk aim rate at_ shown)) ∧ w' = w.alloc (.cells #[.int .i64 aim, .int .i64 rate, .bool set, .bool held, .int .i64 at_, .int .i64 shown] 70) := by
 by_cases h1 : aim < 0
 ·rw [chk_bad (.inl h1)]
  go_enter Tryz.func166, Tryz.ntmps166
  go_wp2_with (go_at_call 47; refine (tvalid_any _ _).mono ?_; rintro e w1 ⟨rfl, rfl⟩)
  go_ret; exact ⟨rfl, rfl⟩
 have h1' : decide (aim < 0) = false := by simpa using h1
 by_cases h2 : 1000 < aim
 ·rw [chk_bad (.inr (.inl h2))]
  go_enter Tryz.func166, Tryz.ntmps166
  go_wp2_with (go_at_call 47; refine (tvalid_any _ _).mono ?_; rintro e w1 ⟨rfl, rfl⟩)
  go_ret; exact ⟨rfl, rfl⟩
 have h2' : decide (1000 < aim) = false := by simpa using h2
 by_cases h3 : rate < 0
 ·rw [chk_bad (.inr (.inr (.inl h3)))]
  go_enter Tryz.func166, Tryz.ntmps166
  go_wp2_with (go_at_call 47; refine (tvalid_any _ _).mono ?_; rintro e w1 ⟨rfl, rfl⟩)
  go_ret; exact ⟨rfl, rfl⟩
 have h3' : decide (rate < 0) = false := by simpa using h3
 by_cases h4 : 1000000000 < rate
 ·rw [chk_bad (.inr (.inr (.inr (.inl h4))))]
  go_enter Tryz.func166, Tryz.ntmps166
  go_wp2_with (go_at_call 47; refine (tvalid_any _ _).mono ?_; rintro e w1 ⟨rfl, rfl⟩)
  go_ret; exact ⟨rfl, rfl⟩
 have h4' : decide (1000000000 < rate) = false := by simpa using h4
 rcases h5 : vT at_
 ·rw [chk_bad (.inr (.inr (.inr (.inr (.inl h5)))))]
  go_enter Tryz.func166, Tryz.ntmps166
  go_wp2_with (go_at_call 47; refine (tvalid_any _ _).mono ?_; rintro e w1 ⟨rfl, rfl⟩)
  go_ret; exact ⟨rfl, rfl⟩
 rcases h6 : vT shown
 ·rw [chk_bad (.inr (.inr (.inr (.inr (.inr h6)))))]
  go_enter Tryz.func166, Tryz.ntmps166
  go_wp2_with (go_at_call 47; refine (tvalid_any _ _).mono ?_; rintro e w1 ⟨rfl, rfl⟩)
  go_ret; exact ⟨rfl, rfl⟩
 rw [chk_ok (by simp only [not_or, Bool.not_eq_false]; exact ⟨h1, h2, h3, h4, h5, h6⟩)]
 go_enter Tryz.func166, Tryz.ntmps166
 go_wp2_with (go_at_call 47; refine (tvalid_any _ _).mono ?_; rintro e w1 ⟨rfl, rfl⟩)
 go_ret; exact ⟨rfl, rfl⟩
theorem rscheck_any (aim rate at_ shown : Int) (set held : Bool) (w : World) : Calls Tryz.prog 150 #[.agg #[.int .i64 aim, .int .i64 rate, .bool set, .bool held, .int .i64 at_, .int .i64 shown]] w fun e w' => e = .returned (.int .i64 (chk aim rate at_ shown)) ∧ w' = w.alloc (.cells #[.int .i64 aim, .int .i64 rate, .bool set, .bool held, .int .i64 at_, .int .i64 shown] 70) := by
 by_cases h1 : aim < 0
 ·rw [chk_bad (.inl h1)]
  go_enter Tryz.func150, Tryz.ntmps150
  go_wp2_with (go_at_call 40; refine (rvalid_any _ _).mono ?_; rintro e w1 ⟨rfl, rfl⟩)
  go_ret; exact ⟨rfl, rfl⟩
 have h1' : decide (aim < 0) = false := by simpa using h1
 by_cases h2 : 1000 < aim
 ·rw [chk_bad (.inr (.inl h2))]
  go_enter Tryz.func150, Tryz.ntmps150
  go_wp2_with (go_at_call 40; refine (rvalid_any _ _).mono ?_; rintro e w1 ⟨rfl, rfl⟩)
  go_ret; exact ⟨rfl, rfl⟩
 have h2' : decide (1000 < aim) = false := by simpa using h2
 by_cases h3 : rate < 0
 ·rw [chk_bad (.inr (.inr (.inl h3)))]
  go_enter Tryz.func150, Tryz.ntmps150
  go_wp2_with (go_at_call 40; refine (rvalid_any _ _).mono ?_; rintro e w1 ⟨rfl, rfl⟩)
  go_ret; exact ⟨rfl, rfl⟩
 have h3' : decide (rate < 0) = false := by simpa using h3
 by_cases h4 : 1000000000 < rate
 ·rw [chk_bad (.inr (.inr (.inr (.inl h4))))]
  go_enter Tryz.func150, Tryz.ntmps150
  go_wp2_with (go_at_call 40; refine (rvalid_any _ _).mono ?_; rintro e w1 ⟨rfl, rfl⟩)
  go_ret; exact ⟨rfl, rfl⟩
 have h4' : decide (1000000000 < rate) = false := by simpa using h4
 rcases h5 : vT at_
 ·rw [chk_bad (.inr (.inr (.inr (.inr (.inl h5)))))]
  go_enter Tryz.func150, Tryz.ntmps150
  go_wp2_with (go_at_call 40; refine (rvalid_any _ _).mono ?_; rintro e w1 ⟨rfl, rfl⟩)
  go_ret; exact ⟨rfl, rfl⟩
 rcases h6 : vT shown
 ·rw [chk_bad (.inr (.inr (.inr (.inr (.inr h6)))))]
  go_enter Tryz.func150, Tryz.ntmps150
  go_wp2_with (go_at_call 40; refine (rvalid_any _ _).mono ?_; rintro e w1 ⟨rfl, rfl⟩)
  go_ret; exact ⟨rfl, rfl⟩
 rw [chk_ok (by simp only [not_or, Bool.not_eq_false]; exact ⟨h1, h2, h3, h4, h5, h6⟩)]
 go_enter Tryz.func150, Tryz.ntmps150
 go_wp2_with (go_at_call 40; refine (rvalid_any _ _).mono ?_; rintro e w1 ⟨rfl, rfl⟩)
 go_ret; exact ⟨rfl, rfl⟩
def tgt (lo hi aim : Int) : Int × Int := if vS lo hi = false then (0, 3) else if aim < 0 ∨ 1000 < aim then (0, 4) else (lo + (hi - lo) * aim / 1000, 0)
theorem tgt_form {lo hi aim : Int} (h : vS lo hi = false) : tgt lo hi aim = (0, 3) := by unfold tgt; rw [if_pos h]
theorem tgt_range {lo hi aim : Int} (h : vS lo hi = true) (ha : aim < 0 ∨ 1000 < aim) : tgt lo hi aim = (0, 4) := by unfold tgt; rw [if_neg (by rw [h]; simp), if_pos ha]
theorem tgt_ok {lo hi aim : Int} (h : vS lo hi = true) (h0 : 0 ≤ aim) (h1 : aim ≤ 1000) : tgt lo hi aim = (lo + (hi - lo) * aim / 1000, 0) := by unfold tgt; rw [if_neg (by rw [h]; simp), if_neg Yo]
theorem wid_ok {lo hi : Int} (h : vS lo hi = true) : wid lo hi = hi - lo := by unfold wid; rw [h]; rfl
theorem target_any (lo hi aim : Int) (w : World) : Calls Tryz.prog 167 #[.agg #[.int .i64 lo, .int .i64 hi], .int .i64 aim] w fun e w' => e = .returned (.tuple #[.int .i64 (tgt lo hi aim).1, .int .i64 (tgt lo hi aim).2]) ∧ Below w.heap.size w w' := by
 rcases h1 : vS lo hi
 ·rw [tgt_form h1]
  go_enter Tryz.func167, Tryz.ntmps167
  go_wp2_with (go_at_call 50; refine (svalid_any _ _ _).mono ?_; rintro e w1 ⟨rfl, rfl⟩)
  go_ret2; exact ⟨rfl, ((Below.refl _ _).alloc (Nat.le_refl _) _).alloc Ys _⟩
 by_cases h2 : aim < 0
 ·rw [tgt_range h1 (.inl h2)]
  go_enter Tryz.func167, Tryz.ntmps167
  go_wp2_with (go_at_call 50; refine (svalid_any _ _ _).mono ?_; rintro e w1 ⟨rfl, rfl⟩)
  go_ret2; exact ⟨rfl, ((Below.refl _ _).alloc (Nat.le_refl _) _).alloc Ys _⟩
 have h2' : decide (aim < 0) = false := by simpa using h2
 by_cases h3 : 1000 < aim
 ·rw [tgt_range h1 (.inr h3)]
  go_enter Tryz.func167, Tryz.ntmps167
  go_wp2_with (go_at_call 50; refine (svalid_any _ _ _).mono ?_; rintro e w1 ⟨rfl, rfl⟩)
  go_ret2; exact ⟨rfl, ((Below.refl _ _).alloc (Nat.le_refl _) _).alloc Ys _⟩
 have h3' : decide (1000 < aim) = false := by simpa using h3
 rw [tgt_ok h1 Yo Yo]
 have b := vS_true.1 h1
 have hw := wid_ok h1
 have s := share_le (hi - lo) aim 1000 Yo Yo Yo Yo
 have ew : IntKind.i64.wrap (lo + (hi - lo) * aim / 1000) = lo + (hi - lo) * aim / 1000 := IntWalk.i64_in _ Yo
 go_enter Tryz.func167, Tryz.ntmps167
 go_wp2_with (go_at_call 50; refine (svalid_any _ _ _).mono ?_; rintro e w1 ⟨rfl, rfl⟩)
 go_region_held3 (fun w' => w'.cell? ⟨w.heap.size, 0, none⟩ = some (.int .i64 lo) ∧ w'.cell? ⟨w.heap.size, 1, none⟩ = some (.int .i64 hi) ∧ Below w.heap.size w w')
  ((go_split_ands; refine ⟨?_, ?_, ?_⟩ <;> first | exact cell_below hb (by assumption) | exact kept_call hb (by assumption) | (simp [go_sem]; done) | exact (((Below.refl _ _).alloc (Nat.le_refl _) _).alloc Ys _).drew))
  (first | (go_at_call 196; refine (width_any _ _ _).mono ?_; rintro e w' ⟨rfl, hb⟩) | (go_at_call 168; refine (wdown_any _ _ _ _ Yo Yo Yo Yo Yo Yo Yo).mono ?_; rintro e w' ⟨rfl, hq⟩; have hb := below_q hq; clear hq))
 go_wp2
 go_ret2
 exact ⟨rfl, by go_split_ands; assumption⟩
theorem rtarget_any (lo hi aim : Int) (w : World) : Calls Tryz.prog 151 #[.agg #[.int .i64 lo, .int .i64 hi], .int .i64 aim] w fun e w' => e = .returned (.tuple #[.int .i64 (tgt lo hi aim).1, .int .i64 (tgt lo hi aim).2]) ∧ Below w.heap.size w w' := by
 rcases h1 : vS lo hi
 ·rw [tgt_form h1]
  go_enter Tryz.func151, Tryz.ntmps151
  go_wp2_with (go_at_call 65; refine (rsvalid_any _ _ _).mono ?_; rintro e w1 ⟨rfl, rfl⟩)
  go_ret2; exact ⟨rfl, ((Below.refl _ _).alloc (Nat.le_refl _) _).alloc Ys _⟩
 by_cases h2 : aim < 0
 ·rw [tgt_range h1 (.inl h2)]
  go_enter Tryz.func151, Tryz.ntmps151
  go_wp2_with (go_at_call 65; refine (rsvalid_any _ _ _).mono ?_; rintro e w1 ⟨rfl, rfl⟩)
  go_ret2; exact ⟨rfl, ((Below.refl _ _).alloc (Nat.le_refl _) _).alloc Ys _⟩
 have h2' : decide (aim < 0) = false := by simpa using h2
 by_cases h3 : 1000 < aim
 ·rw [tgt_range h1 (.inr h3)]
  go_enter Tryz.func151, Tryz.ntmps151
  go_wp2_with (go_at_call 65; refine (rsvalid_any _ _ _).mono ?_; rintro e w1 ⟨rfl, rfl⟩)
  go_ret2; exact ⟨rfl, ((Below.refl _ _).alloc (Nat.le_refl _) _).alloc Ys _⟩
 have h3' : decide (1000 < aim) = false := by simpa using h3
 rw [tgt_ok h1 Yo Yo]
 have b := vS_true.1 h1
 have hw := wid_ok h1
 have s := share_le (hi - lo) aim 1000 Yo Yo Yo Yo
 have ew : IntKind.i64.wrap (lo + (hi - lo) * aim / 1000) = lo + (hi - lo) * aim / 1000 := IntWalk.i64_in _ Yo
 go_enter Tryz.func151, Tryz.ntmps151
 go_wp2_with (go_at_call 65; refine (rsvalid_any _ _ _).mono ?_; rintro e w1 ⟨rfl, rfl⟩)
 go_region_held3 (fun w' => w'.cell? ⟨w.heap.size, 0, none⟩ = some (.int .i64 lo) ∧ w'.cell? ⟨w.heap.size, 1, none⟩ = some (.int .i64 hi) ∧ Below w.heap.size w w')
  ((go_split_ands; refine ⟨?_, ?_, ?_⟩ <;> first | exact cell_below hb (by assumption) | exact kept_call hb (by assumption) | (simp [go_sem]; done) | exact (((Below.refl _ _).alloc (Nat.le_refl _) _).alloc Ys _).drew))
  (first | (go_at_call 187; refine (rwidth_any _ _ _).mono ?_; rintro e w' ⟨rfl, hb⟩) | (go_at_call 152; refine (share_any _ _ _ _ Yo Yo Yo Yo Yo Yo).mono ?_; rintro e w' ⟨rfl, hq⟩; have hb := below_q hq; clear hq))
 go_wp2
 go_ret2
 exact ⟨rfl, by go_split_ands; assumption⟩
def rdE (aim rate : Int) (set : Bool) (at_ shown t lo hi : Int) : Int :=
 if chk aim rate at_ shown ≠ 0 then 4 else if vS lo hi = false then 3 else if vT t = false then 4 else if set = true ∧ t < at_ then 12 else 0
def rdHeld (set : Bool) (shown hi : Int) : Bool := set && decide (hi < shown)
def rdMost (rate at_ shown t : Int) : Int := min 1152921504606846976 (shown + (t - at_) + (t - at_) * rate / 1000000000)
def rdShown (aim rate : Int) (set : Bool) (at_ shown t lo hi : Int) : Int :=
 if set = false then lo + (hi - lo) * aim / 1000 else if hi < shown then shown else max shown (max lo (min (lo + (hi - lo) * aim / 1000) (rdMost rate at_ shown t)))
def zeroClk : Value := .agg #[.int .i64 0, .int .i64 0, .bool false, .bool false, .int .i64 0, .int .i64 0]
def rdV (aim rate : Int) (set : Bool) (at_ shown t lo hi : Int) : Value :=
 if rdE aim rate set at_ shown t lo hi = 0 then .agg #[.int .i64 aim, .int .i64 rate, .bool true, .bool (rdHeld set shown hi), .int .i64 t, .int .i64 (rdShown aim rate set at_ shown t lo hi)] else zeroClk
section
variable {aim rate at_ shown t lo hi : Int} {set : Bool}
theorem rdE_1 (h : chk aim rate at_ shown = 4) : rdE aim rate set at_ shown t lo hi = 4 := by unfold rdE; rw [if_pos Yo]
theorem rdE_2 (h : chk aim rate at_ shown = 0) (h2 : vS lo hi = false) : rdE aim rate set at_ shown t lo hi = 3 := by unfold rdE; rw [if_neg Yo, if_pos h2]
theorem rdE_3 (h : chk aim rate at_ shown = 0) (h2 : vS lo hi = true) (h3 : vT t = false) : rdE aim rate set at_ shown t lo hi = 4 := by unfold rdE; rw [if_neg Yo, if_neg (by rw [h2]; simp), if_pos h3]
theorem rdE_4 (h : chk aim rate at_ shown = 0) (h2 : vS lo hi = true) (h3 : vT t = true) (h4 : set = true ∧ t < at_) : rdE aim rate set at_ shown t lo hi = 12 := by
 unfold rdE; rw [if_neg Yo, if_neg (by rw [h2]; simp), if_neg (by rw [h3]; simp), if_pos h4]
theorem rdE_ok (h : chk aim rate at_ shown = 0) (h2 : vS lo hi = true) (h3 : vT t = true) (h4 : ¬ (set = true ∧ t < at_)) : rdE aim rate set at_ shown t lo hi = 0 := by
 unfold rdE; rw [if_neg Yo, if_neg (by rw [h2]; simp), if_neg (by rw [h3]; simp), if_neg h4]
theorem rdV_err (h : rdE aim rate set at_ shown t lo hi ≠ 0) : rdV aim rate set at_ shown t lo hi = zeroClk := by unfold rdV; rw [if_neg h]
theorem rdV_ok (h : rdE aim rate set at_ shown t lo hi = 0) : rdV aim rate set at_ shown t lo hi = .agg #[.int .i64 aim, .int .i64 rate, .bool true, .bool (rdHeld set shown hi), .int .i64 t, .int .i64 (rdShown aim rate set at_ shown t lo hi)] := by
 unfold rdV; rw [if_pos h]
end
def ReadPost (w : World) (v : Value) (n : Int) (e : Ending) (w' : World) : Prop := e = .returned (.tuple #[v, .int .i64 n]) ∧ Below w.heap.size w w'
theorem read_e1 (aim rate : Int) (set held : Bool) (at_ shown t lo hi : Int) (w : World) (h : chk aim rate at_ shown = 4) : Calls Tryz.prog 136 #[.agg #[.int .i64 aim, .int .i64 rate, .bool set, .bool held, .int .i64 at_, .int .i64 shown], .int .i64 t, .agg #[.int .i64 lo, .int .i64 hi]] w (ReadPost w (rdV aim rate set at_ shown t lo hi) (rdE aim rate set at_ shown t lo hi)) := by
 have e1 : rdE aim rate set at_ shown t lo hi = 4 := rdE_1 h
 rw [rdV_err (by rw [e1]; decide), e1]
 clear e1
 go_enter Tryz.func136, Tryz.ntmps136
 go_wp2_with (first | (go_at_call 166; refine (scheck_any _ _ _ _ _ _ _).mono ?_; rintro e w1 ⟨rfl, rfl⟩) | (go_at_call 50; refine (svalid_any _ _ _).mono ?_; rintro e w1 ⟨rfl, rfl⟩) | (go_at_call 47; refine (tvalid_any _ _).mono ?_; rintro e w1 ⟨rfl, rfl⟩) | (go_at_call 167; refine (target_any _ _ _ _).mono ?_; rintro e w1 ⟨rfl, hb⟩; obtain ⟨hc, hf⟩ := bcell hb; have hz := hb.size; simp at hz; have z0 : w.heap.size < w1.heap.size := Yo; have z1 : w.heap.size + 1 < w1.heap.size := Yo; have z2 : w.heap.size + 1 + 1 < w1.heap.size := Yo))
 exact bodyPost_ret (v := .tuple #[zeroClk, .int .i64 4]) (by simp [results, Tryz.results136, go_sem, zeroClk]) rfl ⟨rfl, by repeat (first | (refine Below.setCell ?_ Y7 _) | (refine Below.alloc ?_ Y7 _) | exact Below.refl _ _)⟩
theorem read_e2 (aim rate : Int) (set held : Bool) (at_ shown t lo hi : Int) (w : World) (h : chk aim rate at_ shown = 0) (h2 : vS lo hi = false) : Calls Tryz.prog 136 #[.agg #[.int .i64 aim, .int .i64 rate, .bool set, .bool held, .int .i64 at_, .int .i64 shown], .int .i64 t, .agg #[.int .i64 lo, .int .i64 hi]] w (ReadPost w (rdV aim rate set at_ shown t lo hi) (rdE aim rate set at_ shown t lo hi)) := by
 have e1 : rdE aim rate set at_ shown t lo hi = 3 := rdE_2 h h2
 rw [rdV_err (by rw [e1]; decide), e1]
 clear e1
 go_enter Tryz.func136, Tryz.ntmps136
 go_wp2_with (first | (go_at_call 166; refine (scheck_any _ _ _ _ _ _ _).mono ?_; rintro e w1 ⟨rfl, rfl⟩) | (go_at_call 50; refine (svalid_any _ _ _).mono ?_; rintro e w1 ⟨rfl, rfl⟩) | (go_at_call 47; refine (tvalid_any _ _).mono ?_; rintro e w1 ⟨rfl, rfl⟩) | (go_at_call 167; refine (target_any _ _ _ _).mono ?_; rintro e w1 ⟨rfl, hb⟩; obtain ⟨hc, hf⟩ := bcell hb; have hz := hb.size; simp at hz; have z0 : w.heap.size < w1.heap.size := Yo; have z1 : w.heap.size + 1 < w1.heap.size := Yo; have z2 : w.heap.size + 1 + 1 < w1.heap.size := Yo))
 exact bodyPost_ret (v := .tuple #[zeroClk, .int .i64 3]) (by simp [results, Tryz.results136, go_sem, zeroClk]) rfl ⟨rfl, by repeat (first | (refine Below.setCell ?_ Y7 _) | (refine Below.alloc ?_ Y7 _) | exact Below.refl _ _)⟩
theorem read_e3 (aim rate : Int) (set held : Bool) (at_ shown t lo hi : Int) (w : World) (h : chk aim rate at_ shown = 0) (h2 : vS lo hi = true) (h3 : vT t = false) : Calls Tryz.prog 136 #[.agg #[.int .i64 aim, .int .i64 rate, .bool set, .bool held, .int .i64 at_, .int .i64 shown], .int .i64 t, .agg #[.int .i64 lo, .int .i64 hi]] w (ReadPost w (rdV aim rate set at_ shown t lo hi) (rdE aim rate set at_ shown t lo hi)) := by
 have e1 : rdE aim rate set at_ shown t lo hi = 4 := rdE_3 h h2 h3
 rw [rdV_err (by rw [e1]; decide), e1]
 clear e1
 go_enter Tryz.func136, Tryz.ntmps136
 go_wp2_with (first | (go_at_call 166; refine (scheck_any _ _ _ _ _ _ _).mono ?_; rintro e w1 ⟨rfl, rfl⟩) | (go_at_call 50; refine (svalid_any _ _ _).mono ?_; rintro e w1 ⟨rfl, rfl⟩) | (go_at_call 47; refine (tvalid_any _ _).mono ?_; rintro e w1 ⟨rfl, rfl⟩) | (go_at_call 167; refine (target_any _ _ _ _).mono ?_; rintro e w1 ⟨rfl, hb⟩; obtain ⟨hc, hf⟩ := bcell hb; have hz := hb.size; simp at hz; have z0 : w.heap.size < w1.heap.size := Yo; have z1 : w.heap.size + 1 < w1.heap.size := Yo; have z2 : w.heap.size + 1 + 1 < w1.heap.size := Yo))
 exact bodyPost_ret (v := .tuple #[zeroClk, .int .i64 4]) (by simp [results, Tryz.results136, go_sem, zeroClk]) rfl ⟨rfl, by repeat (first | (refine Below.setCell ?_ Y7 _) | (refine Below.alloc ?_ Y7 _) | exact Below.refl _ _)⟩
theorem read_e4 (aim rate : Int) (held : Bool) (at_ shown t lo hi : Int) (w : World) (h : chk aim rate at_ shown = 0) (h2 : vS lo hi = true) (h3 : vT t = true) (h4 : t < at_) : Calls Tryz.prog 136 #[.agg #[.int .i64 aim, .int .i64 rate, .bool true, .bool held, .int .i64 at_, .int .i64 shown], .int .i64 t, .agg #[.int .i64 lo, .int .i64 hi]] w (ReadPost w (rdV aim rate true at_ shown t lo hi) (rdE aim rate true at_ shown t lo hi)) := by
 have e1 : rdE aim rate true at_ shown t lo hi = 12 := rdE_4 h h2 h3 ⟨rfl, h4⟩
 rw [rdV_err (by rw [e1]; decide), e1]
 clear e1
 go_enter Tryz.func136, Tryz.ntmps136
 go_wp2_with (first | (go_at_call 166; refine (scheck_any _ _ _ _ _ _ _).mono ?_; rintro e w1 ⟨rfl, rfl⟩) | (go_at_call 50; refine (svalid_any _ _ _).mono ?_; rintro e w1 ⟨rfl, rfl⟩) | (go_at_call 47; refine (tvalid_any _ _).mono ?_; rintro e w1 ⟨rfl, rfl⟩) | (go_at_call 167; refine (target_any _ _ _ _).mono ?_; rintro e w1 ⟨rfl, hb⟩; obtain ⟨hc, hf⟩ := bcell hb; have hz := hb.size; simp at hz; have z0 : w.heap.size < w1.heap.size := Yo; have z1 : w.heap.size + 1 < w1.heap.size := Yo; have z2 : w.heap.size + 1 + 1 < w1.heap.size := Yo))
 exact bodyPost_ret (v := .tuple #[zeroClk, .int .i64 12]) (by simp [results, Tryz.results136, go_sem, zeroClk]) rfl ⟨rfl, by repeat (first | (refine Below.setCell ?_ Y7 _) | (refine Below.alloc ?_ Y7 _) | exact Below.refl _ _)⟩
theorem read_unset (aim rate : Int) (held : Bool) (at_ shown t lo hi : Int) (w : World) (h : chk aim rate at_ shown = 0) (h2 : vS lo hi = true) (h3 : vT t = true) : Calls Tryz.prog 136 #[.agg #[.int .i64 aim, .int .i64 rate, .bool false, .bool held, .int .i64 at_, .int .i64 shown], .int .i64 t, .agg #[.int .i64 lo, .int .i64 hi]] w (ReadPost w (rdV aim rate false at_ shown t lo hi) (rdE aim rate false at_ shown t lo hi)) := by
 have e1 : rdE aim rate false at_ shown t lo hi = 0 := rdE_ok h h2 h3 Ys
 rw [rdV_ok e1, e1, show rdHeld false shown hi = false from rfl, show rdShown aim rate false at_ shown t lo hi = lo + (hi - lo) * aim / 1000 from rfl]
 clear e1
 have hk := chk_zero h
 have ht := tgt_ok h2 hk.1 hk.2.1
 go_enter Tryz.func136, Tryz.ntmps136
 go_wp2_with (first | (go_at_call 166; refine (scheck_any _ _ _ _ _ _ _).mono ?_; rintro e w1 ⟨rfl, rfl⟩) | (go_at_call 50; refine (svalid_any _ _ _).mono ?_; rintro e w1 ⟨rfl, rfl⟩) | (go_at_call 47; refine (tvalid_any _ _).mono ?_; rintro e w1 ⟨rfl, rfl⟩) | (go_at_call 167; refine (target_any _ _ _ _).mono ?_; rintro e w1 ⟨rfl, hb⟩; obtain ⟨hc, hf⟩ := bcell hb; have hz := hb.size; simp at hz; have z0 : w.heap.size < w1.heap.size := Yo; have z1 : w.heap.size + 1 < w1.heap.size := Yo; have z2 : w.heap.size + 1 + 1 < w1.heap.size := Yo))
 have hB : Below w.heap.size w w1 := kept_call hb (by repeat (first | (refine Below.alloc ?_ Y7 _) | exact Below.refl _ _))
 exact bodyPost_ret (v := .tuple #[.agg #[.int .i64 aim, .int .i64 rate, .bool true, .bool false, .int .i64 t, .int .i64 (lo + (hi - lo) * aim / 1000)], .int .i64 0]) (by simp [results, Tryz.results136, go_sem, hc, hf, z0, z1, z2]) rfl ⟨rfl, by repeat (first | (refine Below.setCell ?_ Y7 _) | (refine Below.drew ?_) | exact hB)⟩
end Go.Proofs.YtiinmhfolfgobaaGreatDoor
namespace Go.Proofs.YtiinmhfolfgobaaGreatDoor
open Go.RowKit
set_option maxHeartbeats 8000000
set_option maxRecDepth 100000
theorem read_set (aim rate : Int) (held : Bool) (at_ shown t lo hi : Int) (w : World) (h : chk aim rate at_ shown = 0) (h2 : vS lo hi = true) (h3 : vT t = true) (h4 : at_ ≤ t) :
  Calls Tryz.prog 136 #[.agg #[.int .i64 aim, .int .i64 rate, .bool true, .bool held, .int .i64 at_, .int .i64 shown], .int .i64 t, .agg #[.int .i64 lo, .int .i64 hi]] w (ReadPost w (rdV aim rate true at_ shown t lo hi) (rdE aim rate true at_ shown t lo hi)) := by
 have e1 : rdE aim rate true at_ shown t lo hi = 0 := rdE_ok h h2 h3 Yo
 rw [rdV_ok e1, e1]
 clear e1
 have hk := chk_zero h
 obtain ⟨k1, k2, k3, k4, k5, k6⟩ := hk
 have ht := tgt_ok h2 k1 k2
 have b1 := vS_true.1 h2
 have b2 := vT_true.1 h3
 have b3 := vT_true.1 k5
 have b4 := vT_true.1 k6
 have s1 := share_le (t - at_) rate 1000000000 Yo k3 k4 Yo
 have s2 := share_le (hi - lo) aim 1000 Yo k1 k2 Yo
 have h4' : decide (t < at_) = false := by simp; omega
 by_cases h5 : hi < shown
 ·rw [show rdHeld true shown hi = true by simp [rdHeld, h5], show rdShown aim rate true at_ shown t lo hi = shown by simp [rdShown, h5]]
  go_enter Tryz.func136, Tryz.ntmps136
  go_wp2_with (first | (go_at_call 166; refine (scheck_any _ _ _ _ _ _ _).mono ?_; rintro e w1 ⟨rfl, rfl⟩) | (go_at_call 50; refine (svalid_any _ _ _).mono ?_; rintro e w1 ⟨rfl, rfl⟩) | (go_at_call 47; refine (tvalid_any _ _).mono ?_; rintro e w1 ⟨rfl, rfl⟩) | (go_at_call 167; refine (target_any _ _ _ _).mono ?_; rintro e w1 ⟨rfl, hb⟩; obtain ⟨hc, hf⟩ := bcell hb; have hz := hb.size; simp at hz; have z0 : w.heap.size < w1.heap.size := Yo; have z1 : w.heap.size + 1 < w1.heap.size := Yo; have z2 : w.heap.size + 1 + 1 < w1.heap.size := Yo))
  go_quiet ((go_at_call 168; refine Calls.quiet_of (wdown_any _ _ _ _ Yo Yo Yo Yo Yo Yo Yo)))
  go_wp2
  have hB : Below w.heap.size w w1 := kept_call hb (by repeat (first | (refine Below.alloc ?_ Y7 _) | exact Below.refl _ _))
  exact bodyPost_ret (v := .tuple #[.agg #[.int .i64 aim, .int .i64 rate, .bool true, .bool true, .int .i64 t, .int .i64 shown], .int .i64 0]) (by simp [results, Tryz.results136, go_sem, hc, hf, z0, z1, z2]) rfl ⟨rfl, by repeat (first | (refine Below.setCell ?_ Y7 _) | (refine Below.drew ?_) | (refine below_drewN ?_ _) | exact hB)⟩
 ·rw [show rdHeld true shown hi = false by simp [rdHeld, h5], show rdShown aim rate true at_ shown t lo hi = max shown (max lo (min (lo + (hi - lo) * aim / 1000) (rdMost rate at_ shown t))) by simp [rdShown, h5]]
  go_enter Tryz.func136, Tryz.ntmps136
  go_wp2_with (first | (go_at_call 166; refine (scheck_any _ _ _ _ _ _ _).mono ?_; rintro e w1 ⟨rfl, rfl⟩) | (go_at_call 50; refine (svalid_any _ _ _).mono ?_; rintro e w1 ⟨rfl, rfl⟩) | (go_at_call 47; refine (tvalid_any _ _).mono ?_; rintro e w1 ⟨rfl, rfl⟩) | (go_at_call 167; refine (target_any _ _ _ _).mono ?_; rintro e w1 ⟨rfl, hb⟩; obtain ⟨hc, hf⟩ := bcell hb; have hz := hb.size; simp at hz; have z0 : w.heap.size < w1.heap.size := Yo; have z1 : w.heap.size + 1 < w1.heap.size := Yo; have z2 : w.heap.size + 1 + 1 < w1.heap.size := Yo))
  go_quiet ((go_at_call 168; refine Calls.quiet_of (wdown_any _ _ _ _ Yo Yo Yo Yo Yo Yo Yo)))
  go_wp2
  all_goals
   have hB : Below w.heap.size w w1 := kept_call hb (by repeat (first | (refine Below.alloc ?_ Y7 _) | exact Below.refl _ _))
   refine bodyPost_ret (v := .tuple #[.agg #[.int .i64 aim, .int .i64 rate, .bool true, .bool false, .int .i64 t, .int .i64 (max shown (max lo (min (lo + (hi - lo) * aim / 1000) (rdMost rate at_ shown t))))], .int .i64 0]) ?_ rfl ⟨rfl, by repeat (first | (refine Below.setCell ?_ Y7 _) | (refine Below.drew ?_) | (refine below_drewN ?_ _) | exact hB)⟩
   simp [results, Tryz.results136, go_sem, hc, hf, z0, z1, z2]
   clear hc hf hb
   unfold rdMost
   omega
def exE (t1 t2 t3 t4 err : Int) : Int := if vT t1 && vT t2 && vT t3 && vT t4 && decide (0 ≤ err) && decide (err ≤ 1152921504606846976) then (if t4 < t1 ∨ t3 < t2 then 12 else 0) else 4
theorem exE_4 {t1 t2 t3 t4 err : Int} (h : vT t1 = false ∨ vT t2 = false ∨ vT t3 = false ∨ vT t4 = false ∨ err < 0 ∨ 1152921504606846976 < err) : exE t1 t2 t3 t4 err = 4 := by
 unfold exE
 rw [if_neg]
 intro q
 simp only [Bool.and_eq_true, decide_eq_true_eq] at q
 obtain ⟨⟨⟨⟨⟨q1, q2⟩, q3⟩, q4⟩, q5⟩, q6⟩ := q
 rw [q1, q2, q3, q4] at h
 simp at h
 omega
theorem exE_in {t1 t2 t3 t4 err : Int} (h1 : vT t1 = true) (h2 : vT t2 = true) (h3 : vT t3 = true) (h4 : vT t4 = true) (h5 : 0 ≤ err) (h6 : err ≤ 1152921504606846976) : exE t1 t2 t3 t4 err = if t4 < t1 ∨ t3 < t2 then 12 else 0 := by
 unfold exE
 rw [if_pos (by simp [h1, h2, h3, h4, h5, h6])]
theorem exE_12 {t1 t2 t3 t4 err : Int} (h1 : vT t1 = true) (h2 : vT t2 = true) (h3 : vT t3 = true) (h4 : vT t4 = true) (h5 : 0 ≤ err) (h6 : err ≤ 1152921504606846976) (h : t4 < t1 ∨ t3 < t2) : exE t1 t2 t3 t4 err = 12 := by rw [exE_in h1 h2 h3 h4 h5 h6, if_pos h]
theorem exE_0 {t1 t2 t3 t4 err : Int} (h1 : vT t1 = true) (h2 : vT t2 = true) (h3 : vT t3 = true) (h4 : vT t4 = true) (h5 : 0 ≤ err) (h6 : err ≤ 1152921504606846976) (h : t1 ≤ t4) (h' : t2 ≤ t3) : exE t1 t2 t3 t4 err = 0 := by rw [exE_in h1 h2 h3 h4 h5 h6, if_neg Yo]
def ExRel (t1 t2 t3 t4 : Int) (i : Value) : Prop := ∃ k : Nat, k ≤ 4 ∧ i = .int .i64 k ∧ (1 ≤ k → vT t1 = true) ∧ (2 ≤ k → vT t2 = true) ∧ (3 ≤ k → vT t3 = true) ∧ (4 ≤ k → vT t4 = true)
theorem excheck_any (t1 t2 t3 t4 err : Int) (w : World) :
  Calls Tryz.prog 45 #[.agg #[.int .i64 t1, .int .i64 t2, .int .i64 t3, .int .i64 t4, .int .i64 err]] w (RB w (.int .i64 (exE t1 t2 t3 t4 err))) := by
 go_enter Tryz.func45, Tryz.ntmps45
 go_wp2
 go_loop [15] (fun i => ExRel t1 t2 t3 t4 i) (fun i => (4 - intOf i).toNat)
 case atStart => exact ⟨0, Yo, rfl, Yo, Yo, Yo, Yo⟩
 case round =>
  obtain ⟨k, hk, rfl, q1, q2, q3, q4⟩ := hrel
  obtain rfl | rfl | rfl | rfl | rfl : k = 0 ∨ k = 1 ∨ k = 2 ∨ k = 3 ∨ k = 4 := by omega
  ·have Q1 := Yh q1; have Q2 := Yh q2; have Q3 := Yh q3; have Q4 := Yh q4; clear q1 q2 q3 q4
   rcases h : vT t1
   ·go_wp2_with (go_at_call 47; refine (tvalid_any _ _).mono ?_; rintro e w1 ⟨rfl, rfl⟩)
    rw [exE_4 (by simp [h])]
    go_ret
    exact ⟨rfl, bl0⟩
   ·go_wp2_with (go_at_call 47; refine (tvalid_any _ _).mono ?_; rintro e w1 ⟨rfl, rfl⟩)
    go_round
    case rel => exact ⟨1, Yo, rfl, fun _ => h, Yo, Yo, Yo⟩
    case measure => simp [intOf]
  ·have Q1 := Yh q1; have Q2 := Yh q2; have Q3 := Yh q3; have Q4 := Yh q4; clear q1 q2 q3 q4
   rcases h : vT t2
   ·go_wp2_with (go_at_call 47; refine (tvalid_any _ _).mono ?_; rintro e w1 ⟨rfl, rfl⟩)
    rw [exE_4 (by simp [h])]
    go_ret
    exact ⟨rfl, bl0⟩
   ·go_wp2_with (go_at_call 47; refine (tvalid_any _ _).mono ?_; rintro e w1 ⟨rfl, rfl⟩)
    go_round
    case rel => exact ⟨2, Yo, rfl, fun _ => Q1.out Yo, fun _ => h, Yo, Yo⟩
    case measure => simp [intOf]
  ·have Q1 := Yh q1; have Q2 := Yh q2; have Q3 := Yh q3; have Q4 := Yh q4; clear q1 q2 q3 q4
   rcases h : vT t3
   ·go_wp2_with (go_at_call 47; refine (tvalid_any _ _).mono ?_; rintro e w1 ⟨rfl, rfl⟩)
    rw [exE_4 (by simp [h])]
    go_ret
    exact ⟨rfl, bl0⟩
   ·go_wp2_with (go_at_call 47; refine (tvalid_any _ _).mono ?_; rintro e w1 ⟨rfl, rfl⟩)
    go_round
    case rel => exact ⟨3, Yo, rfl, fun _ => Q1.out Yo, fun _ => Q2.out Yo, fun _ => h, Yo⟩
    case measure => simp [intOf]
  ·have Q1 := Yh q1; have Q2 := Yh q2; have Q3 := Yh q3; have Q4 := Yh q4; clear q1 q2 q3 q4
   rcases h : vT t4
   ·go_wp2_with (go_at_call 47; refine (tvalid_any _ _).mono ?_; rintro e w1 ⟨rfl, rfl⟩)
    rw [exE_4 (by simp [h])]
    go_ret
    exact ⟨rfl, bl0⟩
   ·go_wp2_with (go_at_call 47; refine (tvalid_any _ _).mono ?_; rintro e w1 ⟨rfl, rfl⟩)
    go_round
    case rel => exact ⟨4, Yo, rfl, fun _ => Q1.out Yo, fun _ => Q2.out Yo, fun _ => Q3.out Yo, fun _ => h⟩
    case measure => simp [intOf]
  ·have p1 := q1 Yo; have p2 := q2 Yo; have p3 := q3 Yo; have p4 := q4 Yo
   clear q1 q2 q3 q4
   have P1 := Yh p1; have P2 := Yh p2; have P3 := Yh p3; have P4 := Yh p4; clear p1 p2 p3 p4
   by_cases h5 : err < 0
   ·have h5' : decide (err < 0) = true := by simpa using h5
    go_wp2
    go_ret
    exact ⟨by rw [exE_4 Yo]; rfl, bl0⟩
   have h5' : decide (err < 0) = false := by simpa using h5
   by_cases h6 : 1152921504606846976 < err
   ·have h6' : decide (1152921504606846976 < err) = true := by simpa using h6
    go_wp2
    go_ret
    exact ⟨by rw [exE_4 Yo]; rfl, bl0⟩
   have h6' : decide (1152921504606846976 < err) = false := by simpa using h6
   by_cases h7 : t4 < t1
   ·have h7' : decide (t4 < t1) = true := by simpa using h7
    go_wp2
    go_ret
    exact ⟨by rw [exE_12 P1.out P2.out P3.out P4.out Yo Yo Yo]; rfl, bl0⟩
   have h7' : decide (t4 < t1) = false := by simpa using h7
   by_cases h8 : t3 < t2
   ·have h8' : decide (t3 < t2) = true := by simpa using h8
    go_wp2
    go_ret
    exact ⟨by rw [exE_12 P1.out P2.out P3.out P4.out Yo Yo Yo]; rfl, bl0⟩
   have h8' : decide (t3 < t2) = false := by simpa using h8
   go_wp2
   go_ret
   exact ⟨by rw [exE_0 P1.out P2.out P3.out P4.out Yo Yo Yo Yo]; rfl, bl0⟩
def atV (t1 t2 t3 t4 err p : Int) : Value := if exE t1 t2 t3 t4 err = 0 then (if inD (t4 - t1) p && vT (t3 - err) && vT (t2 + err + elHi (t4 - t1) p) then (if (t2 + err + elHi (t4 - t1) p) < (t3 - err) then .tuple #[.agg #[.int .i64 0, .int .i64 0], .int .i64 20] else .tuple #[.agg #[.int .i64 (t3 - err), .int .i64 (t2 + err + elHi (t4 - t1) p)], .int .i64 0]) else .tuple #[.agg #[.int .i64 0, .int .i64 0], .int .i64 4]) else .tuple #[.agg #[.int .i64 0, .int .i64 0], .int .i64 (exE t1 t2 t3 t4 err)]
theorem exE_all {t1 t2 t3 t4 err : Int} (h : exE t1 t2 t3 t4 err = 0) : vT t1 = true ∧ vT t2 = true ∧ vT t3 = true ∧ vT t4 = true ∧ 0 ≤ err ∧ err ≤ 1152921504606846976 ∧ t1 ≤ t4 ∧ t2 ≤ t3 := by
 unfold exE at h
 split at h
 ·rename_i q
  simp only [Bool.and_eq_true, decide_eq_true_eq] at q
  obtain ⟨⟨⟨⟨⟨q1, q2⟩, q3⟩, q4⟩, q5⟩, q6⟩ := q
  split at h
  ·omega
  ·exact ⟨q1, q2, q3, q4, q5, q6, Yo, Yo⟩
 ·omega
theorem quo_up_le (d p : Int) (h0 : 0 ≤ d) (h1 : d ≤ 576460752303423488) (p0 : 0 ≤ p) (p1 : p ≤ 1000000) : 0 ≤ elHi d p ∧ elHi d p ≤ 1152921504606846977 := by
 have := scaled_le d 1000000000 (1000000000 - p) h0 h1 Yo Yo Yo
 unfold elHi; rw [quo_up _ _ _ Yo]; split <;> omega
theorem atV_e {t1 t2 t3 t4 err p : Int} (h : exE t1 t2 t3 t4 err ≠ 0) : atV t1 t2 t3 t4 err p = .tuple #[.agg #[.int .i64 0, .int .i64 0], .int .i64 (exE t1 t2 t3 t4 err)] := by unfold atV; rw [if_neg h]
theorem atV_4 {t1 t2 t3 t4 err p : Int} (h : exE t1 t2 t3 t4 err = 0) (h' : inD (t4 - t1) p = false ∨ vT (t3 - err) = false ∨ vT (t2 + err + elHi (t4 - t1) p) = false) : atV t1 t2 t3 t4 err p = .tuple #[.agg #[.int .i64 0, .int .i64 0], .int .i64 4] := by
 unfold atV; rw [if_pos h, if_neg]
 rcases h' with q | q | q <;> simp [q]
theorem atV_20 {t1 t2 t3 t4 err p : Int} (h : exE t1 t2 t3 t4 err = 0) (h1 : inD (t4 - t1) p = true) (h2 : vT (t3 - err) = true) (h3 : vT (t2 + err + elHi (t4 - t1) p) = true) (h4 : (t2 + err + elHi (t4 - t1) p) < (t3 - err)) : atV t1 t2 t3 t4 err p = .tuple #[.agg #[.int .i64 0, .int .i64 0], .int .i64 20] := by
 unfold atV; rw [if_pos h, if_pos (by simp [h1, h2, h3]), if_pos h4]
theorem atV_0 {t1 t2 t3 t4 err p : Int} (h : exE t1 t2 t3 t4 err = 0) (h1 : inD (t4 - t1) p = true) (h2 : vT (t3 - err) = true) (h3 : vT (t2 + err + elHi (t4 - t1) p) = true) (h4 : ¬ (t2 + err + elHi (t4 - t1) p) < (t3 - err)) : atV t1 t2 t3 t4 err p = .tuple #[.agg #[.int .i64 (t3 - err), .int .i64 (t2 + err + elHi (t4 - t1) p)], .int .i64 0] := by
 unfold atV; rw [if_pos h, if_pos (by simp [h1, h2, h3]), if_neg h4]
theorem at_e (t1 t2 t3 t4 err p : Int) (h : exE t1 t2 t3 t4 err ≠ 0) (w : World) :
  Calls Tryz.prog 20 #[.agg #[.int .i64 t1, .int .i64 t2, .int .i64 t3, .int .i64 t4, .int .i64 err], .int .i64 p] w (RB w (atV t1 t2 t3 t4 err p)) := by
 rw [atV_e h]
 have r := excheck_any t1 t2 t3 t4 err
 generalize exE t1 t2 t3 t4 err = x at *
 have hx : (x != 0) = true := by simpa using h
 have R := Yh r; clear r h
 go_enter Tryz.func20, Tryz.ntmps20
 go_wp2_with fail
 refine (R.out _).mono ?_
 rintro e w1 ⟨rfl, hb1⟩
 have K1 : Below w.heap.size w w1 := Yc hb1 bl0
 have Z1 := K1.size
 have b1_0 := Yk (g := w.heap.size) hb1 bs2
 have b1_1 := Yk (g := w.heap.size + 1) hb1 bs2
 clear hb1
 obtain ⟨c1_0, f1_0, l1_0, e1_0, k1_0⟩ := Yf b1_0
 obtain ⟨c1_1, f1_1, l1_1, e1_1, k1_1⟩ := Yf b1_1
 go_wp2
 exact Yb (v := .tuple #[.agg #[.int .i64 0, .int .i64 0], .int .i64 x]) (by simp [results, Tryz.results20, go_sem, *]) rfl ⟨rfl, bl1⟩
theorem at_in (t1 t2 t3 t4 err p : Int) (h : exE t1 t2 t3 t4 err = 0) (h1 : inD (t4 - t1) p = false) (w : World) :
  Calls Tryz.prog 20 #[.agg #[.int .i64 t1, .int .i64 t2, .int .i64 t3, .int .i64 t4, .int .i64 err], .int .i64 p] w (RB w (atV t1 t2 t3 t4 err p)) := by
 rw [atV_4 h (.inl h1)]
 obtain ⟨v1, v2, v3, v4, e0, e1, o1, o2⟩ := exE_all h
 have r := excheck_any t1 t2 t3 t4 err
 rw [h] at r
 have R := Yh r; clear r
 have w1 := vT_true.1 v1; have w2 := vT_true.1 v2; have w3 := vT_true.1 v3; have w4 := vT_true.1 v4
 clear v1 v2 v3 v4
 have q := elapsed_any (t4 - t1) p
 rw [outV_no h1] at q
 have Q := Yh q; clear q h h1
 go_enter Tryz.func20, Tryz.ntmps20
 go_wp2_with fail
 refine (R.out _).mono ?_
 rintro e w1 ⟨rfl, hb1⟩
 have K1 : Below w.heap.size w w1 := Yc hb1 bl0
 have Z1 := K1.size
 have b1_0 := Yk (g := w.heap.size) hb1 bs2
 have b1_1 := Yk (g := w.heap.size + 1) hb1 bs2
 clear hb1
 obtain ⟨c1_0, f1_0, l1_0, e1_0, k1_0⟩ := Yf b1_0
 obtain ⟨c1_1, f1_1, l1_1, e1_1, k1_1⟩ := Yf b1_1
 go_wp2_with fail
 refine (Q.out _).mono ?_
 rintro e w2 ⟨rfl, hb2⟩
 have K2 : Below w.heap.size w w2 := Yc hb2 bl1
 have Z2 := K2.size
 have b1_0' := Yk (g := w.heap.size) hb2 bs1
 have b1_1' := Yk (g := w.heap.size + 1) hb2 bs1
 clear hb2 K1
 clear b1_0 c1_0 f1_0 l1_0 e1_0 k1_0; have b1_0 := b1_0'; clear b1_0'
 clear b1_1 c1_1 f1_1 l1_1 e1_1 k1_1; have b1_1 := b1_1'; clear b1_1'
 obtain ⟨c1_0, f1_0, l1_0, e1_0, k1_0⟩ := Yf b1_0
 obtain ⟨c1_1, f1_1, l1_1, e1_1, k1_1⟩ := Yf b1_1
 go_wp2
 exact Yb (v := .tuple #[.agg #[.int .i64 0, .int .i64 0], .int .i64 4]) (by simp [results, Tryz.results20, go_sem, *]) rfl ⟨rfl, bl1⟩
theorem at_lo (t1 t2 t3 t4 err p : Int) (h : exE t1 t2 t3 t4 err = 0) (h1 : inD (t4 - t1) p = true) (h2 : vT (t3 - err) = false) (w : World) :
  Calls Tryz.prog 20 #[.agg #[.int .i64 t1, .int .i64 t2, .int .i64 t3, .int .i64 t4, .int .i64 err], .int .i64 p] w (RB w (atV t1 t2 t3 t4 err p)) := by
 rw [atV_4 h (.inr (.inl h2))]
 obtain ⟨v1, v2, v3, v4, e0, e1, o1, o2⟩ := exE_all h
 have r := excheck_any t1 t2 t3 t4 err
 rw [h] at r
 have R := Yh r; clear r
 have w1 := vT_true.1 v1; have w2 := vT_true.1 v2; have w3 := vT_true.1 v3; have w4 := vT_true.1 v4
 clear v1 v2 v3 v4
 obtain ⟨d0, d1, p0, p1⟩ := inD_true.1 h1
 have hb := quo_up_le (t4 - t1) p d0 d1 p0 p1
 have q := elapsed_any (t4 - t1) p
 rw [outV_ok h1] at q
 generalize elHi (t4 - t1) p = hi at *
 generalize elLo (t4 - t1) p = lo at *
 have Q := Yh q; clear q h h1
 have H2 := Yh h2; clear h2
 go_enter Tryz.func20, Tryz.ntmps20
 go_wp2_with fail
 refine (R.out _).mono ?_
 rintro e w1 ⟨rfl, hb1⟩
 have K1 : Below w.heap.size w w1 := Yc hb1 bl0
 have Z1 := K1.size
 have b1_0 := Yk (g := w.heap.size) hb1 bs2
 have b1_1 := Yk (g := w.heap.size + 1) hb1 bs2
 clear hb1
 obtain ⟨c1_0, f1_0, l1_0, e1_0, k1_0⟩ := Yf b1_0
 obtain ⟨c1_1, f1_1, l1_1, e1_1, k1_1⟩ := Yf b1_1
 go_wp2_with fail
 refine (Q.out _).mono ?_
 rintro e w2 ⟨rfl, hb2⟩
 have K2 : Below w.heap.size w w2 := Yc hb2 bl1
 have Z2 := K2.size
 have b1_0' := Yk (g := w.heap.size) hb2 bs1
 have b1_1' := Yk (g := w.heap.size + 1) hb2 bs1
 clear hb2 K1
 clear b1_0 c1_0 f1_0 l1_0 e1_0 k1_0; have b1_0 := b1_0'; clear b1_0'
 clear b1_1 c1_1 f1_1 l1_1 e1_1 k1_1; have b1_1 := b1_1'; clear b1_1'
 obtain ⟨c1_0, f1_0, l1_0, e1_0, k1_0⟩ := Yf b1_0
 obtain ⟨c1_1, f1_1, l1_1, e1_1, k1_1⟩ := Yf b1_1
 go_wp2_with fail
 refine (tvalid_any _ _).mono ?_
 rintro e wq1 ⟨rfl, rfl⟩
 rw [H2.out]
 go_wp2
 exact Yb (v := .tuple #[.agg #[.int .i64 0, .int .i64 0], .int .i64 4]) (by simp [results, Tryz.results20, go_sem, *]) rfl ⟨rfl, bl1⟩
theorem at_hi (t1 t2 t3 t4 err p : Int) (h : exE t1 t2 t3 t4 err = 0) (h1 : inD (t4 - t1) p = true) (h2 : vT (t3 - err) = true) (h3 : vT (t2 + err + elHi (t4 - t1) p) = false) (w : World) :
  Calls Tryz.prog 20 #[.agg #[.int .i64 t1, .int .i64 t2, .int .i64 t3, .int .i64 t4, .int .i64 err], .int .i64 p] w (RB w (atV t1 t2 t3 t4 err p)) := by
 rw [atV_4 h (.inr (.inr h3))]
 obtain ⟨v1, v2, v3, v4, e0, e1, o1, o2⟩ := exE_all h
 have r := excheck_any t1 t2 t3 t4 err
 rw [h] at r
 have R := Yh r; clear r
 have w1 := vT_true.1 v1; have w2 := vT_true.1 v2; have w3 := vT_true.1 v3; have w4 := vT_true.1 v4
 clear v1 v2 v3 v4
 obtain ⟨d0, d1, p0, p1⟩ := inD_true.1 h1
 have hb := quo_up_le (t4 - t1) p d0 d1 p0 p1
 have q := elapsed_any (t4 - t1) p
 rw [outV_ok h1] at q
 generalize elHi (t4 - t1) p = hi at *
 generalize elLo (t4 - t1) p = lo at *
 have Q := Yh q; clear q h h1
 have H2 := Yh h2; clear h2
 have H3 := Yh h3; clear h3
 go_enter Tryz.func20, Tryz.ntmps20
 go_wp2_with fail
 refine (R.out _).mono ?_
 rintro e w1 ⟨rfl, hb1⟩
 have K1 : Below w.heap.size w w1 := Yc hb1 bl0
 have Z1 := K1.size
 have b1_0 := Yk (g := w.heap.size) hb1 bs2
 have b1_1 := Yk (g := w.heap.size + 1) hb1 bs2
 clear hb1
 obtain ⟨c1_0, f1_0, l1_0, e1_0, k1_0⟩ := Yf b1_0
 obtain ⟨c1_1, f1_1, l1_1, e1_1, k1_1⟩ := Yf b1_1
 go_wp2_with fail
 refine (Q.out _).mono ?_
 rintro e w2 ⟨rfl, hb2⟩
 have K2 : Below w.heap.size w w2 := Yc hb2 bl1
 have Z2 := K2.size
 have b1_0' := Yk (g := w.heap.size) hb2 bs1
 have b1_1' := Yk (g := w.heap.size + 1) hb2 bs1
 clear hb2 K1
 clear b1_0 c1_0 f1_0 l1_0 e1_0 k1_0; have b1_0 := b1_0'; clear b1_0'
 clear b1_1 c1_1 f1_1 l1_1 e1_1 k1_1; have b1_1 := b1_1'; clear b1_1'
 obtain ⟨c1_0, f1_0, l1_0, e1_0, k1_0⟩ := Yf b1_0
 obtain ⟨c1_1, f1_1, l1_1, e1_1, k1_1⟩ := Yf b1_1
 go_wp2_with fail
 refine (tvalid_any _ _).mono ?_
 rintro e wq1 ⟨rfl, rfl⟩
 rw [H2.out]
 go_wp2_with fail
 refine (tvalid_any _ _).mono ?_
 rintro e wq2 ⟨rfl, rfl⟩
 rw [H3.out]
 go_wp2
 exact Yb (v := .tuple #[.agg #[.int .i64 0, .int .i64 0], .int .i64 4]) (by simp [results, Tryz.results20, go_sem, *]) rfl ⟨rfl, bl1⟩
theorem at_20 (t1 t2 t3 t4 err p : Int) (h : exE t1 t2 t3 t4 err = 0) (h1 : inD (t4 - t1) p = true) (h2 : vT (t3 - err) = true) (h3 : vT (t2 + err + elHi (t4 - t1) p) = true) (h4 : (t2 + err + elHi (t4 - t1) p) < (t3 - err)) (w : World) :
  Calls Tryz.prog 20 #[.agg #[.int .i64 t1, .int .i64 t2, .int .i64 t3, .int .i64 t4, .int .i64 err], .int .i64 p] w (RB w (atV t1 t2 t3 t4 err p)) := by
 rw [atV_20 h h1 h2 h3 h4]
 obtain ⟨v1, v2, v3, v4, e0, e1, o1, o2⟩ := exE_all h
 have r := excheck_any t1 t2 t3 t4 err
 rw [h] at r
 have R := Yh r; clear r
 have w1 := vT_true.1 v1; have w2 := vT_true.1 v2; have w3 := vT_true.1 v3; have w4 := vT_true.1 v4
 clear v1 v2 v3 v4
 obtain ⟨d0, d1, p0, p1⟩ := inD_true.1 h1
 have hb := quo_up_le (t4 - t1) p d0 d1 p0 p1
 have q := elapsed_any (t4 - t1) p
 rw [outV_ok h1] at q
 generalize elHi (t4 - t1) p = hi at *
 generalize elLo (t4 - t1) p = lo at *
 have Q := Yh q; clear q h h1
 have H2 := Yh h2; clear h2
 have H3 := Yh h3; clear h3
 go_enter Tryz.func20, Tryz.ntmps20
 go_wp2_with fail
 refine (R.out _).mono ?_
 rintro e w1 ⟨rfl, hb1⟩
 have K1 : Below w.heap.size w w1 := Yc hb1 bl0
 have Z1 := K1.size
 have b1_0 := Yk (g := w.heap.size) hb1 bs2
 have b1_1 := Yk (g := w.heap.size + 1) hb1 bs2
 clear hb1
 obtain ⟨c1_0, f1_0, l1_0, e1_0, k1_0⟩ := Yf b1_0
 obtain ⟨c1_1, f1_1, l1_1, e1_1, k1_1⟩ := Yf b1_1
 go_wp2_with fail
 refine (Q.out _).mono ?_
 rintro e w2 ⟨rfl, hb2⟩
 have K2 : Below w.heap.size w w2 := Yc hb2 bl1
 have Z2 := K2.size
 have b1_0' := Yk (g := w.heap.size) hb2 bs1
 have b1_1' := Yk (g := w.heap.size + 1) hb2 bs1
 clear hb2 K1
 clear b1_0 c1_0 f1_0 l1_0 e1_0 k1_0; have b1_0 := b1_0'; clear b1_0'
 clear b1_1 c1_1 f1_1 l1_1 e1_1 k1_1; have b1_1 := b1_1'; clear b1_1'
 obtain ⟨c1_0, f1_0, l1_0, e1_0, k1_0⟩ := Yf b1_0
 obtain ⟨c1_1, f1_1, l1_1, e1_1, k1_1⟩ := Yf b1_1
 go_wp2_with fail
 refine (tvalid_any _ _).mono ?_
 rintro e wq1 ⟨rfl, rfl⟩
 rw [H2.out]
 go_wp2_with fail
 refine (tvalid_any _ _).mono ?_
 rintro e wq2 ⟨rfl, rfl⟩
 rw [H3.out]
 go_wp2
 exact Yb (v := .tuple #[.agg #[.int .i64 0, .int .i64 0], .int .i64 20]) (by simp [results, Tryz.results20, go_sem, *]) rfl ⟨rfl, bl1⟩
theorem at_0 (t1 t2 t3 t4 err p : Int) (h : exE t1 t2 t3 t4 err = 0) (h1 : inD (t4 - t1) p = true) (h2 : vT (t3 - err) = true) (h3 : vT (t2 + err + elHi (t4 - t1) p) = true) (h4 : ¬ (t2 + err + elHi (t4 - t1) p) < (t3 - err)) (w : World) :
  Calls Tryz.prog 20 #[.agg #[.int .i64 t1, .int .i64 t2, .int .i64 t3, .int .i64 t4, .int .i64 err], .int .i64 p] w (RB w (atV t1 t2 t3 t4 err p)) := by
 rw [atV_0 h h1 h2 h3 h4]
 obtain ⟨v1, v2, v3, v4, e0, e1, o1, o2⟩ := exE_all h
 have r := excheck_any t1 t2 t3 t4 err
 rw [h] at r
 have R := Yh r; clear r
 have w1 := vT_true.1 v1; have w2 := vT_true.1 v2; have w3 := vT_true.1 v3; have w4 := vT_true.1 v4
 clear v1 v2 v3 v4
 obtain ⟨d0, d1, p0, p1⟩ := inD_true.1 h1
 have hb := quo_up_le (t4 - t1) p d0 d1 p0 p1
 have q := elapsed_any (t4 - t1) p
 rw [outV_ok h1] at q
 generalize elHi (t4 - t1) p = hi at *
 generalize elLo (t4 - t1) p = lo at *
 have Q := Yh q; clear q h h1
 have H2 := Yh h2; clear h2
 have H3 := Yh h3; clear h3
 go_enter Tryz.func20, Tryz.ntmps20
 go_wp2_with fail
 refine (R.out _).mono ?_
 rintro e w1 ⟨rfl, hb1⟩
 have K1 : Below w.heap.size w w1 := Yc hb1 bl0
 have Z1 := K1.size
 have b1_0 := Yk (g := w.heap.size) hb1 bs2
 have b1_1 := Yk (g := w.heap.size + 1) hb1 bs2
 clear hb1
 obtain ⟨c1_0, f1_0, l1_0, e1_0, k1_0⟩ := Yf b1_0
 obtain ⟨c1_1, f1_1, l1_1, e1_1, k1_1⟩ := Yf b1_1
 go_wp2_with fail
 refine (Q.out _).mono ?_
 rintro e w2 ⟨rfl, hb2⟩
 have K2 : Below w.heap.size w w2 := Yc hb2 bl1
 have Z2 := K2.size
 have b1_0' := Yk (g := w.heap.size) hb2 bs1
 have b1_1' := Yk (g := w.heap.size + 1) hb2 bs1
 clear hb2 K1
 clear b1_0 c1_0 f1_0 l1_0 e1_0 k1_0; have b1_0 := b1_0'; clear b1_0'
 clear b1_1 c1_1 f1_1 l1_1 e1_1 k1_1; have b1_1 := b1_1'; clear b1_1'
 obtain ⟨c1_0, f1_0, l1_0, e1_0, k1_0⟩ := Yf b1_0
 obtain ⟨c1_1, f1_1, l1_1, e1_1, k1_1⟩ := Yf b1_1
 go_wp2_with fail
 refine (tvalid_any _ _).mono ?_
 rintro e wq1 ⟨rfl, rfl⟩
 rw [H2.out]
 go_wp2_with fail
 refine (tvalid_any _ _).mono ?_
 rintro e wq2 ⟨rfl, rfl⟩
 rw [H3.out]
 go_wp2
 exact Yb (v := .tuple #[.agg #[.int .i64 (t3 - err), .int .i64 (t2 + err + hi)], .int .i64 0]) (by simp [results, Tryz.results20, go_sem, *]) rfl ⟨rfl, bl1⟩
theorem at_any (t1 t2 t3 t4 err p : Int) (w : World) : Calls Tryz.prog 20 #[.agg #[.int .i64 t1, .int .i64 t2, .int .i64 t3, .int .i64 t4, .int .i64 err], .int .i64 p] w (RB w (atV t1 t2 t3 t4 err p)) := by
 by_cases h : exE t1 t2 t3 t4 err = 0
 ·rcases h1 : inD (t4 - t1) p
  ·exact at_in _ _ _ _ _ _ h h1 w
  rcases h2 : vT (t3 - err)
  ·exact at_lo _ _ _ _ _ _ h h1 h2 w
  rcases h3 : vT (t2 + err + elHi (t4 - t1) p)
  ·exact at_hi _ _ _ _ _ _ h h1 h2 h3 w
  by_cases h4 : (t2 + err + elHi (t4 - t1) p) < (t3 - err)
  ·exact at_20 _ _ _ _ _ _ h h1 h2 h3 h4 w
  ·exact at_0 _ _ _ _ _ _ h h1 h2 h3 h4 w
 ·exact at_e _ _ _ _ _ _ h w
end Go.Proofs.YtiinmhfolfgobaaGreatDoor
