/- Texts joined: Steer, SteerB, SteerC -/
import Derived.Deep.RegionHeld3
import Derived.BigQuiet
import Derived.Deep.QuietTactic
import Derived.Test.YtiinmhfolfgobaaGreatDoorJ10
namespace Go.Proofs.YtiinmhfolfgobaaGreatDoor
open Go.RowKit

theorem share_le (v n d : Int) (hv : 0 ≤ v) (hn : 0 ≤ n) (hnd : n ≤ d) (hd : 0 < d) : 0 ≤ v * n / d ∧ v * n / d ≤ v := by
  refine ⟨Int.ediv_nonneg (Int.mul_nonneg hv hn) (by omega), ?_⟩
  have : v * n ≤ v * d := Int.mul_le_mul_of_nonneg_left hnd hv
  have := Int.ediv_le_ediv hd this
  rwa [Int.mul_ediv_cancel _ (by omega)] at this

/-- The error of a clock. -/
def chk (aim rate at_ shown : Int) : Int := if aim < 0 ∨ 1000 < aim ∨ rate < 0 ∨ 1000000000 < rate ∨ vT at_ = false ∨ vT shown = false then 4 else 0
theorem chk_bad {aim rate at_ shown : Int} (h : aim < 0 ∨ 1000 < aim ∨ rate < 0 ∨ 1000000000 < rate ∨ vT at_ = false ∨ vT shown = false) : chk aim rate at_ shown = 4 := by unfold chk; rw [if_pos h]
theorem chk_ok {aim rate at_ shown : Int} (h : ¬ (aim < 0 ∨ 1000 < aim ∨ rate < 0 ∨ 1000000000 < rate ∨ vT at_ = false ∨ vT shown = false)) : chk aim rate at_ shown = 0 := by unfold chk; rw [if_neg h]
theorem chk_zero {aim rate at_ shown : Int} (h : chk aim rate at_ shown = 0) : 0 ≤ aim ∧ aim ≤ 1000 ∧ 0 ≤ rate ∧ rate ≤ 1000000000 ∧ vT at_ = true ∧ vT shown = true := by
  unfold chk at h; split at h
  · omega
  · rename_i hc; simp only [not_or, Bool.not_eq_false] at hc; exact ⟨by omega, by omega, by omega, by omega, hc.2.2.2.2.1, hc.2.2.2.2.2⟩
theorem chk_cases (aim rate at_ shown : Int) : chk aim rate at_ shown = 0 ∨ chk aim rate at_ shown = 4 := by unfold chk; split <;> simp

theorem scheck_any (aim rate at_ shown : Int) (set held : Bool) (w : World) : Calls Tryz.prog 166 #[.agg #[.int .i64 aim, .int .i64 rate, .bool set, .bool held, .int .i64 at_, .int .i64 shown]] w fun e w' => e = .returned (.int .i64 (chk aim rate at_ shown)) ∧ w' = w.alloc (.cells #[.int .i64 aim, .int .i64 rate, .bool set, .bool held, .int .i64 at_, .int .i64 shown] 70) := by
  by_cases h1 : aim < 0
  · rw [chk_bad (.inl h1)]
    go_enter Tryz.func166, Tryz.ntmps166
    go_wp2_with (go_at_call 47; refine (tvalid_any _ _).mono ?_; rintro e w1 ⟨rfl, rfl⟩)
    go_ret; exact ⟨rfl, rfl⟩
  have h1' : decide (aim < 0) = false := by simpa using h1
  by_cases h2 : 1000 < aim
  · rw [chk_bad (.inr (.inl h2))]
    go_enter Tryz.func166, Tryz.ntmps166
    go_wp2_with (go_at_call 47; refine (tvalid_any _ _).mono ?_; rintro e w1 ⟨rfl, rfl⟩)
    go_ret; exact ⟨rfl, rfl⟩
  have h2' : decide (1000 < aim) = false := by simpa using h2
  by_cases h3 : rate < 0
  · rw [chk_bad (.inr (.inr (.inl h3)))]
    go_enter Tryz.func166, Tryz.ntmps166
    go_wp2_with (go_at_call 47; refine (tvalid_any _ _).mono ?_; rintro e w1 ⟨rfl, rfl⟩)
    go_ret; exact ⟨rfl, rfl⟩
  have h3' : decide (rate < 0) = false := by simpa using h3
  by_cases h4 : 1000000000 < rate
  · rw [chk_bad (.inr (.inr (.inr (.inl h4))))]
    go_enter Tryz.func166, Tryz.ntmps166
    go_wp2_with (go_at_call 47; refine (tvalid_any _ _).mono ?_; rintro e w1 ⟨rfl, rfl⟩)
    go_ret; exact ⟨rfl, rfl⟩
  have h4' : decide (1000000000 < rate) = false := by simpa using h4
  rcases h5 : vT at_
  · rw [chk_bad (.inr (.inr (.inr (.inr (.inl h5)))))]
    go_enter Tryz.func166, Tryz.ntmps166
    go_wp2_with (go_at_call 47; refine (tvalid_any _ _).mono ?_; rintro e w1 ⟨rfl, rfl⟩)
    go_ret; exact ⟨rfl, rfl⟩
  rcases h6 : vT shown
  · rw [chk_bad (.inr (.inr (.inr (.inr (.inr h6)))))]
    go_enter Tryz.func166, Tryz.ntmps166
    go_wp2_with (go_at_call 47; refine (tvalid_any _ _).mono ?_; rintro e w1 ⟨rfl, rfl⟩)
    go_ret; exact ⟨rfl, rfl⟩
  rw [chk_ok (by simp only [not_or, Bool.not_eq_false]; exact ⟨h1, h2, h3, h4, h5, h6⟩)]
  go_enter Tryz.func166, Tryz.ntmps166
  go_wp2_with (go_at_call 47; refine (tvalid_any _ _).mono ?_; rintro e w1 ⟨rfl, rfl⟩)
  go_ret; exact ⟨rfl, rfl⟩

/-- The instant that a clock aims at, and the error. -/
def tgt (lo hi aim : Int) : Int × Int := if vS lo hi = false then (0, 3) else if aim < 0 ∨ 1000 < aim then (0, 4) else (lo + (hi - lo) * aim / 1000, 0)
theorem tgt_form {lo hi aim : Int} (h : vS lo hi = false) : tgt lo hi aim = (0, 3) := by unfold tgt; rw [if_pos h]
theorem tgt_range {lo hi aim : Int} (h : vS lo hi = true) (ha : aim < 0 ∨ 1000 < aim) : tgt lo hi aim = (0, 4) := by unfold tgt; rw [if_neg (by rw [h]; simp), if_pos ha]
theorem tgt_ok {lo hi aim : Int} (h : vS lo hi = true) (h0 : 0 ≤ aim) (h1 : aim ≤ 1000) : tgt lo hi aim = (lo + (hi - lo) * aim / 1000, 0) := by unfold tgt; rw [if_neg (by rw [h]; simp), if_neg (by omega)]
theorem wid_ok {lo hi : Int} (h : vS lo hi = true) : wid lo hi = hi - lo := by unfold wid; rw [h]; rfl

set_option maxRecDepth 100000 in
set_option maxHeartbeats 1000000 in
theorem target_any (lo hi aim : Int) (w : World) : Calls Tryz.prog 167 #[.agg #[.int .i64 lo, .int .i64 hi], .int .i64 aim] w fun e w' => e = .returned (.tuple #[.int .i64 (tgt lo hi aim).1, .int .i64 (tgt lo hi aim).2]) ∧ Below w.heap.size w w' := by
  rcases h1 : vS lo hi
  · rw [tgt_form h1]
    go_enter Tryz.func167, Tryz.ntmps167
    go_wp2_with (go_at_call 50; refine (svalid_any _ _ _).mono ?_; rintro e w1 ⟨rfl, rfl⟩)
    go_ret2; exact ⟨rfl, ((Below.refl _ _).alloc (Nat.le_refl _) _).alloc (by simp) _⟩
  by_cases h2 : aim < 0
  · rw [tgt_range h1 (.inl h2)]
    go_enter Tryz.func167, Tryz.ntmps167
    go_wp2_with (go_at_call 50; refine (svalid_any _ _ _).mono ?_; rintro e w1 ⟨rfl, rfl⟩)
    go_ret2; exact ⟨rfl, ((Below.refl _ _).alloc (Nat.le_refl _) _).alloc (by simp) _⟩
  have h2' : decide (aim < 0) = false := by simpa using h2
  by_cases h3 : 1000 < aim
  · rw [tgt_range h1 (.inr h3)]
    go_enter Tryz.func167, Tryz.ntmps167
    go_wp2_with (go_at_call 50; refine (svalid_any _ _ _).mono ?_; rintro e w1 ⟨rfl, rfl⟩)
    go_ret2; exact ⟨rfl, ((Below.refl _ _).alloc (Nat.le_refl _) _).alloc (by simp) _⟩
  have h3' : decide (1000 < aim) = false := by simpa using h3
  rw [tgt_ok h1 (by omega) (by omega)]
  have b := vS_true.1 h1
  have hw := wid_ok h1
  have s := share_le (hi - lo) aim 1000 (by omega) (by omega) (by omega) (by omega)
  have ew : IntKind.i64.wrap (lo + (hi - lo) * aim / 1000) = lo + (hi - lo) * aim / 1000 := IntWalk.i64_in _ (by omega)
  go_enter Tryz.func167, Tryz.ntmps167
  go_wp2_with (go_at_call 50; refine (svalid_any _ _ _).mono ?_; rintro e w1 ⟨rfl, rfl⟩)
  go_region_held3 (fun w' => w'.cell? ⟨w.heap.size, 0, none⟩ = some (.int .i64 lo) ∧ w'.cell? ⟨w.heap.size, 1, none⟩ = some (.int .i64 hi) ∧ Below w.heap.size w w')
    ((go_split_ands; refine ⟨?_, ?_, ?_⟩ <;> first | exact cell_below hb (by assumption) | exact kept_call hb (by assumption) | (simp [go_sem]; done) | exact (((Below.refl _ _).alloc (Nat.le_refl _) _).alloc (by simp) _).drew))
    (first | (go_at_call 196; refine (width_any _ _ _).mono ?_; rintro e w' ⟨rfl, hb⟩) | (go_at_call 168; refine (wdown_any _ _ _ _ (by omega) (by omega) (by omega) (by omega) (by omega) (by omega) (by omega)).mono ?_; rintro e w' ⟨rfl, hq⟩; have hb := below_q hq; clear hq))
  go_wp2
  go_ret2
  exact ⟨rfl, by go_split_ands; assumption⟩

end Go.Proofs.YtiinmhfolfgobaaGreatDoor
namespace Go.Proofs.YtiinmhfolfgobaaGreatDoor
open Go.RowKit

/-- The error of a reading. -/
def rdE (aim rate : Int) (set : Bool) (at_ shown t lo hi : Int) : Int :=
  if chk aim rate at_ shown ≠ 0 then 4 else if vS lo hi = false then 3 else if vT t = false then 4 else if set = true ∧ t < at_ then 12 else 0
def rdHeld (set : Bool) (shown hi : Int) : Bool := set && decide (hi < shown)
def rdMost (rate at_ shown t : Int) : Int := min 1152921504606846976 (shown + (t - at_) + (t - at_) * rate / 1000000000)
def rdShown (aim rate : Int) (set : Bool) (at_ shown t lo hi : Int) : Int :=
  if set = false then lo + (hi - lo) * aim / 1000 else if hi < shown then shown else max shown (max lo (min (lo + (hi - lo) * aim / 1000) (rdMost rate at_ shown t)))
def zeroClk : Value := .agg #[.int .i64 0, .int .i64 0, .bool false, .bool false, .int .i64 0, .int .i64 0]
def rdV (aim rate : Int) (set : Bool) (at_ shown t lo hi : Int) : Value :=
  if rdE aim rate set at_ shown t lo hi = 0 then .agg #[.int .i64 aim, .int .i64 rate, .bool true, .bool (rdHeld set shown hi), .int .i64 t, .int .i64 (rdShown aim rate set at_ shown t lo hi)] else zeroClk
section
variable {aim rate at_ shown t lo hi : Int} {set : Bool}
theorem rdE_1 (h : chk aim rate at_ shown = 4) : rdE aim rate set at_ shown t lo hi = 4 := by unfold rdE; rw [if_pos (by omega)]
theorem rdE_2 (h : chk aim rate at_ shown = 0) (h2 : vS lo hi = false) : rdE aim rate set at_ shown t lo hi = 3 := by unfold rdE; rw [if_neg (by omega), if_pos h2]
theorem rdE_3 (h : chk aim rate at_ shown = 0) (h2 : vS lo hi = true) (h3 : vT t = false) : rdE aim rate set at_ shown t lo hi = 4 := by unfold rdE; rw [if_neg (by omega), if_neg (by rw [h2]; simp), if_pos h3]
theorem rdE_4 (h : chk aim rate at_ shown = 0) (h2 : vS lo hi = true) (h3 : vT t = true) (h4 : set = true ∧ t < at_) : rdE aim rate set at_ shown t lo hi = 12 := by
  unfold rdE; rw [if_neg (by omega), if_neg (by rw [h2]; simp), if_neg (by rw [h3]; simp), if_pos h4]
theorem rdE_ok (h : chk aim rate at_ shown = 0) (h2 : vS lo hi = true) (h3 : vT t = true) (h4 : ¬ (set = true ∧ t < at_)) : rdE aim rate set at_ shown t lo hi = 0 := by
  unfold rdE; rw [if_neg (by omega), if_neg (by rw [h2]; simp), if_neg (by rw [h3]; simp), if_neg h4]
theorem rdV_err (h : rdE aim rate set at_ shown t lo hi ≠ 0) : rdV aim rate set at_ shown t lo hi = zeroClk := by unfold rdV; rw [if_neg h]
theorem rdV_ok (h : rdE aim rate set at_ shown t lo hi = 0) : rdV aim rate set at_ shown t lo hi = .agg #[.int .i64 aim, .int .i64 rate, .bool true, .bool (rdHeld set shown hi), .int .i64 t, .int .i64 (rdShown aim rate set at_ shown t lo hi)] := by
  unfold rdV; rw [if_pos h]
end

def ReadPost (w : World) (v : Value) (n : Int) (e : Ending) (w' : World) : Prop := e = .returned (.tuple #[v, .int .i64 n]) ∧ Below w.heap.size w w'
set_option maxRecDepth 100000 in
set_option maxHeartbeats 1000000 in
theorem read_e1 (aim rate : Int) (set held : Bool) (at_ shown t lo hi : Int) (w : World) (h : chk aim rate at_ shown = 4) : Calls Tryz.prog 136 #[.agg #[.int .i64 aim, .int .i64 rate, .bool set, .bool held, .int .i64 at_, .int .i64 shown], .int .i64 t, .agg #[.int .i64 lo, .int .i64 hi]] w (ReadPost w (rdV aim rate set at_ shown t lo hi) (rdE aim rate set at_ shown t lo hi)) := by
  have e1 : rdE aim rate set at_ shown t lo hi = 4 := rdE_1 h
  rw [rdV_err (by rw [e1]; decide), e1]
  clear e1
  go_enter Tryz.func136, Tryz.ntmps136
  go_wp2_with (first | (go_at_call 166; refine (scheck_any _ _ _ _ _ _ _).mono ?_; rintro e w1 ⟨rfl, rfl⟩) | (go_at_call 50; refine (svalid_any _ _ _).mono ?_; rintro e w1 ⟨rfl, rfl⟩) | (go_at_call 47; refine (tvalid_any _ _).mono ?_; rintro e w1 ⟨rfl, rfl⟩) | (go_at_call 167; refine (target_any _ _ _ _).mono ?_; rintro e w1 ⟨rfl, hb⟩; obtain ⟨hc, hf⟩ := bcell hb; have hz := hb.size; simp at hz; have z0 : w.heap.size < w1.heap.size := (by omega); have z1 : w.heap.size + 1 < w1.heap.size := (by omega); have z2 : w.heap.size + 1 + 1 < w1.heap.size := (by omega)))
  exact bodyPost_ret (v := .tuple #[zeroClk, .int .i64 4]) (by simp [results, Tryz.results136, go_sem, zeroClk]) rfl ⟨rfl, by repeat (first | (refine Below.setCell ?_ (by simp <;> omega) _) | (refine Below.alloc ?_ (by simp <;> omega) _) | exact Below.refl _ _)⟩
set_option maxRecDepth 100000 in
set_option maxHeartbeats 1000000 in
theorem read_e2 (aim rate : Int) (set held : Bool) (at_ shown t lo hi : Int) (w : World) (h : chk aim rate at_ shown = 0) (h2 : vS lo hi = false) : Calls Tryz.prog 136 #[.agg #[.int .i64 aim, .int .i64 rate, .bool set, .bool held, .int .i64 at_, .int .i64 shown], .int .i64 t, .agg #[.int .i64 lo, .int .i64 hi]] w (ReadPost w (rdV aim rate set at_ shown t lo hi) (rdE aim rate set at_ shown t lo hi)) := by
  have e1 : rdE aim rate set at_ shown t lo hi = 3 := rdE_2 h h2
  rw [rdV_err (by rw [e1]; decide), e1]
  clear e1
  go_enter Tryz.func136, Tryz.ntmps136
  go_wp2_with (first | (go_at_call 166; refine (scheck_any _ _ _ _ _ _ _).mono ?_; rintro e w1 ⟨rfl, rfl⟩) | (go_at_call 50; refine (svalid_any _ _ _).mono ?_; rintro e w1 ⟨rfl, rfl⟩) | (go_at_call 47; refine (tvalid_any _ _).mono ?_; rintro e w1 ⟨rfl, rfl⟩) | (go_at_call 167; refine (target_any _ _ _ _).mono ?_; rintro e w1 ⟨rfl, hb⟩; obtain ⟨hc, hf⟩ := bcell hb; have hz := hb.size; simp at hz; have z0 : w.heap.size < w1.heap.size := (by omega); have z1 : w.heap.size + 1 < w1.heap.size := (by omega); have z2 : w.heap.size + 1 + 1 < w1.heap.size := (by omega)))
  exact bodyPost_ret (v := .tuple #[zeroClk, .int .i64 3]) (by simp [results, Tryz.results136, go_sem, zeroClk]) rfl ⟨rfl, by repeat (first | (refine Below.setCell ?_ (by simp <;> omega) _) | (refine Below.alloc ?_ (by simp <;> omega) _) | exact Below.refl _ _)⟩
set_option maxRecDepth 100000 in
set_option maxHeartbeats 1000000 in
theorem read_e3 (aim rate : Int) (set held : Bool) (at_ shown t lo hi : Int) (w : World) (h : chk aim rate at_ shown = 0) (h2 : vS lo hi = true) (h3 : vT t = false) : Calls Tryz.prog 136 #[.agg #[.int .i64 aim, .int .i64 rate, .bool set, .bool held, .int .i64 at_, .int .i64 shown], .int .i64 t, .agg #[.int .i64 lo, .int .i64 hi]] w (ReadPost w (rdV aim rate set at_ shown t lo hi) (rdE aim rate set at_ shown t lo hi)) := by
  have e1 : rdE aim rate set at_ shown t lo hi = 4 := rdE_3 h h2 h3
  rw [rdV_err (by rw [e1]; decide), e1]
  clear e1
  go_enter Tryz.func136, Tryz.ntmps136
  go_wp2_with (first | (go_at_call 166; refine (scheck_any _ _ _ _ _ _ _).mono ?_; rintro e w1 ⟨rfl, rfl⟩) | (go_at_call 50; refine (svalid_any _ _ _).mono ?_; rintro e w1 ⟨rfl, rfl⟩) | (go_at_call 47; refine (tvalid_any _ _).mono ?_; rintro e w1 ⟨rfl, rfl⟩) | (go_at_call 167; refine (target_any _ _ _ _).mono ?_; rintro e w1 ⟨rfl, hb⟩; obtain ⟨hc, hf⟩ := bcell hb; have hz := hb.size; simp at hz; have z0 : w.heap.size < w1.heap.size := (by omega); have z1 : w.heap.size + 1 < w1.heap.size := (by omega); have z2 : w.heap.size + 1 + 1 < w1.heap.size := (by omega)))
  exact bodyPost_ret (v := .tuple #[zeroClk, .int .i64 4]) (by simp [results, Tryz.results136, go_sem, zeroClk]) rfl ⟨rfl, by repeat (first | (refine Below.setCell ?_ (by simp <;> omega) _) | (refine Below.alloc ?_ (by simp <;> omega) _) | exact Below.refl _ _)⟩
set_option maxRecDepth 100000 in
set_option maxHeartbeats 1000000 in
theorem read_e4 (aim rate : Int) (held : Bool) (at_ shown t lo hi : Int) (w : World) (h : chk aim rate at_ shown = 0) (h2 : vS lo hi = true) (h3 : vT t = true) (h4 : t < at_) : Calls Tryz.prog 136 #[.agg #[.int .i64 aim, .int .i64 rate, .bool true, .bool held, .int .i64 at_, .int .i64 shown], .int .i64 t, .agg #[.int .i64 lo, .int .i64 hi]] w (ReadPost w (rdV aim rate true at_ shown t lo hi) (rdE aim rate true at_ shown t lo hi)) := by
  have e1 : rdE aim rate true at_ shown t lo hi = 12 := rdE_4 h h2 h3 ⟨rfl, h4⟩
  rw [rdV_err (by rw [e1]; decide), e1]
  clear e1
  go_enter Tryz.func136, Tryz.ntmps136
  go_wp2_with (first | (go_at_call 166; refine (scheck_any _ _ _ _ _ _ _).mono ?_; rintro e w1 ⟨rfl, rfl⟩) | (go_at_call 50; refine (svalid_any _ _ _).mono ?_; rintro e w1 ⟨rfl, rfl⟩) | (go_at_call 47; refine (tvalid_any _ _).mono ?_; rintro e w1 ⟨rfl, rfl⟩) | (go_at_call 167; refine (target_any _ _ _ _).mono ?_; rintro e w1 ⟨rfl, hb⟩; obtain ⟨hc, hf⟩ := bcell hb; have hz := hb.size; simp at hz; have z0 : w.heap.size < w1.heap.size := (by omega); have z1 : w.heap.size + 1 < w1.heap.size := (by omega); have z2 : w.heap.size + 1 + 1 < w1.heap.size := (by omega)))
  exact bodyPost_ret (v := .tuple #[zeroClk, .int .i64 12]) (by simp [results, Tryz.results136, go_sem, zeroClk]) rfl ⟨rfl, by repeat (first | (refine Below.setCell ?_ (by simp <;> omega) _) | (refine Below.alloc ?_ (by simp <;> omega) _) | exact Below.refl _ _)⟩
set_option maxRecDepth 100000 in
set_option maxHeartbeats 1000000 in
theorem read_unset (aim rate : Int) (held : Bool) (at_ shown t lo hi : Int) (w : World) (h : chk aim rate at_ shown = 0) (h2 : vS lo hi = true) (h3 : vT t = true) : Calls Tryz.prog 136 #[.agg #[.int .i64 aim, .int .i64 rate, .bool false, .bool held, .int .i64 at_, .int .i64 shown], .int .i64 t, .agg #[.int .i64 lo, .int .i64 hi]] w (ReadPost w (rdV aim rate false at_ shown t lo hi) (rdE aim rate false at_ shown t lo hi)) := by
  have e1 : rdE aim rate false at_ shown t lo hi = 0 := rdE_ok h h2 h3 (by simp)
  rw [rdV_ok e1, e1, show rdHeld false shown hi = false from rfl, show rdShown aim rate false at_ shown t lo hi = lo + (hi - lo) * aim / 1000 from rfl]
  clear e1
  have hk := chk_zero h
  have ht := tgt_ok h2 hk.1 hk.2.1
  go_enter Tryz.func136, Tryz.ntmps136
  go_wp2_with (first | (go_at_call 166; refine (scheck_any _ _ _ _ _ _ _).mono ?_; rintro e w1 ⟨rfl, rfl⟩) | (go_at_call 50; refine (svalid_any _ _ _).mono ?_; rintro e w1 ⟨rfl, rfl⟩) | (go_at_call 47; refine (tvalid_any _ _).mono ?_; rintro e w1 ⟨rfl, rfl⟩) | (go_at_call 167; refine (target_any _ _ _ _).mono ?_; rintro e w1 ⟨rfl, hb⟩; obtain ⟨hc, hf⟩ := bcell hb; have hz := hb.size; simp at hz; have z0 : w.heap.size < w1.heap.size := (by omega); have z1 : w.heap.size + 1 < w1.heap.size := (by omega); have z2 : w.heap.size + 1 + 1 < w1.heap.size := (by omega)))
  have hB : Below w.heap.size w w1 := kept_call hb (by repeat (first | (refine Below.alloc ?_ (by simp <;> omega) _) | exact Below.refl _ _))
  exact bodyPost_ret (v := .tuple #[.agg #[.int .i64 aim, .int .i64 rate, .bool true, .bool false, .int .i64 t, .int .i64 (lo + (hi - lo) * aim / 1000)], .int .i64 0]) (by simp [results, Tryz.results136, go_sem, hc, hf, z0, z1, z2]) rfl ⟨rfl, by repeat (first | (refine Below.setCell ?_ (by simp <;> omega) _) | (refine Below.drew ?_) | exact hB)⟩

end Go.Proofs.YtiinmhfolfgobaaGreatDoor
namespace Go.Proofs.YtiinmhfolfgobaaGreatDoor
open Go.RowKit

set_option maxRecDepth 100000 in
set_option maxHeartbeats 1000000 in
theorem read_set (aim rate : Int) (held : Bool) (at_ shown t lo hi : Int) (w : World) (h : chk aim rate at_ shown = 0) (h2 : vS lo hi = true) (h3 : vT t = true) (h4 : at_ ≤ t) :
    Calls Tryz.prog 136 #[.agg #[.int .i64 aim, .int .i64 rate, .bool true, .bool held, .int .i64 at_, .int .i64 shown], .int .i64 t, .agg #[.int .i64 lo, .int .i64 hi]] w (ReadPost w (rdV aim rate true at_ shown t lo hi) (rdE aim rate true at_ shown t lo hi)) := by
  have e1 : rdE aim rate true at_ shown t lo hi = 0 := rdE_ok h h2 h3 (by omega)
  rw [rdV_ok e1, e1]
  clear e1
  have hk := chk_zero h
  obtain ⟨k1, k2, k3, k4, k5, k6⟩ := hk
  have ht := tgt_ok h2 k1 k2
  have b1 := vS_true.1 h2
  have b2 := vT_true.1 h3
  have b3 := vT_true.1 k5
  have b4 := vT_true.1 k6
  have s1 := share_le (t - at_) rate 1000000000 (by omega) k3 k4 (by omega)
  have s2 := share_le (hi - lo) aim 1000 (by omega) k1 k2 (by omega)
  have h4' : decide (t < at_) = false := by simp; omega
  by_cases h5 : hi < shown
  · rw [show rdHeld true shown hi = true by simp [rdHeld, h5], show rdShown aim rate true at_ shown t lo hi = shown by simp [rdShown, h5]]
    go_enter Tryz.func136, Tryz.ntmps136
    go_wp2_with (first | (go_at_call 166; refine (scheck_any _ _ _ _ _ _ _).mono ?_; rintro e w1 ⟨rfl, rfl⟩) | (go_at_call 50; refine (svalid_any _ _ _).mono ?_; rintro e w1 ⟨rfl, rfl⟩) | (go_at_call 47; refine (tvalid_any _ _).mono ?_; rintro e w1 ⟨rfl, rfl⟩) | (go_at_call 167; refine (target_any _ _ _ _).mono ?_; rintro e w1 ⟨rfl, hb⟩; obtain ⟨hc, hf⟩ := bcell hb; have hz := hb.size; simp at hz; have z0 : w.heap.size < w1.heap.size := (by omega); have z1 : w.heap.size + 1 < w1.heap.size := (by omega); have z2 : w.heap.size + 1 + 1 < w1.heap.size := (by omega)))
    go_quiet ((go_at_call 168; refine Calls.quiet_of (wdown_any _ _ _ _ (by omega) (by omega) (by omega) (by omega) (by omega) (by omega) (by omega))))
    go_wp2
    have hB : Below w.heap.size w w1 := kept_call hb (by repeat (first | (refine Below.alloc ?_ (by simp <;> omega) _) | exact Below.refl _ _))
    exact bodyPost_ret (v := .tuple #[.agg #[.int .i64 aim, .int .i64 rate, .bool true, .bool true, .int .i64 t, .int .i64 shown], .int .i64 0]) (by simp [results, Tryz.results136, go_sem, hc, hf, z0, z1, z2]) rfl ⟨rfl, by repeat (first | (refine Below.setCell ?_ (by simp <;> omega) _) | (refine Below.drew ?_) | (refine below_drewN ?_ _) | exact hB)⟩
  · rw [show rdHeld true shown hi = false by simp [rdHeld, h5], show rdShown aim rate true at_ shown t lo hi = max shown (max lo (min (lo + (hi - lo) * aim / 1000) (rdMost rate at_ shown t))) by simp [rdShown, h5]]
    go_enter Tryz.func136, Tryz.ntmps136
    go_wp2_with (first | (go_at_call 166; refine (scheck_any _ _ _ _ _ _ _).mono ?_; rintro e w1 ⟨rfl, rfl⟩) | (go_at_call 50; refine (svalid_any _ _ _).mono ?_; rintro e w1 ⟨rfl, rfl⟩) | (go_at_call 47; refine (tvalid_any _ _).mono ?_; rintro e w1 ⟨rfl, rfl⟩) | (go_at_call 167; refine (target_any _ _ _ _).mono ?_; rintro e w1 ⟨rfl, hb⟩; obtain ⟨hc, hf⟩ := bcell hb; have hz := hb.size; simp at hz; have z0 : w.heap.size < w1.heap.size := (by omega); have z1 : w.heap.size + 1 < w1.heap.size := (by omega); have z2 : w.heap.size + 1 + 1 < w1.heap.size := (by omega)))
    go_quiet ((go_at_call 168; refine Calls.quiet_of (wdown_any _ _ _ _ (by omega) (by omega) (by omega) (by omega) (by omega) (by omega) (by omega))))
    go_wp2
    all_goals
      have hB : Below w.heap.size w w1 := kept_call hb (by repeat (first | (refine Below.alloc ?_ (by simp <;> omega) _) | exact Below.refl _ _))
      refine bodyPost_ret (v := .tuple #[.agg #[.int .i64 aim, .int .i64 rate, .bool true, .bool false, .int .i64 t, .int .i64 (max shown (max lo (min (lo + (hi - lo) * aim / 1000) (rdMost rate at_ shown t))))], .int .i64 0]) ?_ rfl ⟨rfl, by repeat (first | (refine Below.setCell ?_ (by simp <;> omega) _) | (refine Below.drew ?_) | (refine below_drewN ?_ _) | exact hB)⟩
      simp [results, Tryz.results136, go_sem, hc, hf, z0, z1, z2]
      clear hc hf hb
      unfold rdMost
      omega
end Go.Proofs.YtiinmhfolfgobaaGreatDoor
