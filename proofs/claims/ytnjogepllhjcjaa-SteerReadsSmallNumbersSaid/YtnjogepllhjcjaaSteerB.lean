/- Walks: the reading of a steered clock, of the program and of the reference. -/
import Derived.Test.YtnjogepllhjcjaaSteer
import Derived.Deep.QuietTactic
import Derived.BigQuiet
namespace Go.Proofs.Ytnjogepllhjcjaa
open Go.RowKit

/-- The error of a reading. -/
def rdE (aim rate : Int) (set : Bool) (at_ shown t lo hi : Int) : Int :=
  if chk aim rate at_ shown ≠ 0 then 4 else if vS lo hi = false then 3 else if vT t = false then 4 else if set = true ∧ t < at_ then 12 else 0
def rdHeld (set : Bool) (shown hi : Int) : Bool := set && decide (hi < shown)
def rdMost (rate at_ shown t : Int) : Int := min 1152921504606846976 (shown + (t - at_) + (t - at_) * rate / 1000000000)
def rdShown (aim rate : Int) (set : Bool) (at_ shown t lo hi : Int) : Int :=
  if set = false then lo + (hi - lo) * aim / 1000 else if hi < shown then shown else max shown (max lo (min (lo + (hi - lo) * aim / 1000) (rdMost rate at_ shown t)))
def zeroClk : Value := .agg #[.int .i64 0, .int .i64 0, .bool false, .bool false, .int .i64 0, .int .i64 0]
def rdV (aim rate : Int) (set : Bool) (at_ shown t lo hi : Int) : Value :=
  if rdE aim rate set at_ shown t lo hi = 0 then .agg #[.int .i64 aim, .int .i64 rate, .bool true, .bool (rdHeld set shown hi), .int .i64 t, .int .i64 (rdShown aim rate set at_ shown t lo hi)] else zeroClk
section
variable {aim rate at_ shown t lo hi : Int} {set : Bool}
theorem rdE_1 (h : chk aim rate at_ shown = 4) : rdE aim rate set at_ shown t lo hi = 4 := by unfold rdE; rw [if_pos (by omega)]
theorem rdE_2 (h : chk aim rate at_ shown = 0) (h2 : vS lo hi = false) : rdE aim rate set at_ shown t lo hi = 3 := by unfold rdE; rw [if_neg (by omega), if_pos h2]
theorem rdE_3 (h : chk aim rate at_ shown = 0) (h2 : vS lo hi = true) (h3 : vT t = false) : rdE aim rate set at_ shown t lo hi = 4 := by unfold rdE; rw [if_neg (by omega), if_neg (by rw [h2]; simp), if_pos h3]
theorem rdE_4 (h : chk aim rate at_ shown = 0) (h2 : vS lo hi = true) (h3 : vT t = true) (h4 : set = true ∧ t < at_) : rdE aim rate set at_ shown t lo hi = 12 := by
  unfold rdE; rw [if_neg (by omega), if_neg (by rw [h2]; simp), if_neg (by rw [h3]; simp), if_pos h4]
theorem rdE_ok (h : chk aim rate at_ shown = 0) (h2 : vS lo hi = true) (h3 : vT t = true) (h4 : ¬ (set = true ∧ t < at_)) : rdE aim rate set at_ shown t lo hi = 0 := by
  unfold rdE; rw [if_neg (by omega), if_neg (by rw [h2]; simp), if_neg (by rw [h3]; simp), if_neg h4]
theorem rdV_err (h : rdE aim rate set at_ shown t lo hi ≠ 0) : rdV aim rate set at_ shown t lo hi = zeroClk := by unfold rdV; rw [if_neg h]
theorem rdV_ok (h : rdE aim rate set at_ shown t lo hi = 0) : rdV aim rate set at_ shown t lo hi = .agg #[.int .i64 aim, .int .i64 rate, .bool true, .bool (rdHeld set shown hi), .int .i64 t, .int .i64 (rdShown aim rate set at_ shown t lo hi)] := by
  unfold rdV; rw [if_pos h]
end

def ReadPost (w : World) (v : Value) (n : Int) (e : Ending) (w' : World) : Prop := e = .returned (.tuple #[v, .int .i64 n]) ∧ Below w.heap.size w w'
set_option maxRecDepth 100000 in
set_option maxHeartbeats 1000000 in
theorem read_e1 (aim rate : Int) (set held : Bool) (at_ shown t lo hi : Int) (w : World) (h : chk aim rate at_ shown = 4) : Calls Try.prog 18 #[.agg #[.int .i64 aim, .int .i64 rate, .bool set, .bool held, .int .i64 at_, .int .i64 shown], .int .i64 t, .agg #[.int .i64 lo, .int .i64 hi]] w (ReadPost w (rdV aim rate set at_ shown t lo hi) (rdE aim rate set at_ shown t lo hi)) := by
  have e1 : rdE aim rate set at_ shown t lo hi = 4 := rdE_1 h
  rw [rdV_err (by rw [e1]; decide), e1]
  clear e1
  go_enter Try.func18, Try.ntmps18
  go_wp2_with (first | (go_at_call 23; refine (scheck_any _ _ _ _ _ _ _).mono ?_; rintro e w1 ⟨rfl, rfl⟩) | (go_at_call 41; refine (svalid_any _ _ _).mono ?_; rintro e w1 ⟨rfl, rfl⟩) | (go_at_call 42; refine (tvalid_any _ _).mono ?_; rintro e w1 ⟨rfl, rfl⟩) | (go_at_call 20; refine (target_any _ _ _ _).mono ?_; rintro e w1 ⟨rfl, hb⟩; obtain ⟨hc, hf⟩ := bcell hb; have hz := hb.size; simp at hz; have z0 : w.heap.size < w1.heap.size := (by omega); have z1 : w.heap.size + 1 < w1.heap.size := (by omega); have z2 : w.heap.size + 1 + 1 < w1.heap.size := (by omega)))
  exact bodyPost_ret (v := .tuple #[zeroClk, .int .i64 4]) (by simp [results, Try.results18, go_sem, zeroClk]) rfl ⟨rfl, by repeat (first | (refine Below.setCell ?_ (by simp <;> omega) _) | (refine Below.alloc ?_ (by simp <;> omega) _) | exact Below.refl _ _)⟩
set_option maxRecDepth 100000 in
set_option maxHeartbeats 1000000 in
theorem read_e2 (aim rate : Int) (set held : Bool) (at_ shown t lo hi : Int) (w : World) (h : chk aim rate at_ shown = 0) (h2 : vS lo hi = false) : Calls Try.prog 18 #[.agg #[.int .i64 aim, .int .i64 rate, .bool set, .bool held, .int .i64 at_, .int .i64 shown], .int .i64 t, .agg #[.int .i64 lo, .int .i64 hi]] w (ReadPost w (rdV aim rate set at_ shown t lo hi) (rdE aim rate set at_ shown t lo hi)) := by
  have e1 : rdE aim rate set at_ shown t lo hi = 3 := rdE_2 h h2
  rw [rdV_err (by rw [e1]; decide), e1]
  clear e1
  go_enter Try.func18, Try.ntmps18
  go_wp2_with (first | (go_at_call 23; refine (scheck_any _ _ _ _ _ _ _).mono ?_; rintro e w1 ⟨rfl, rfl⟩) | (go_at_call 41; refine (svalid_any _ _ _).mono ?_; rintro e w1 ⟨rfl, rfl⟩) | (go_at_call 42; refine (tvalid_any _ _).mono ?_; rintro e w1 ⟨rfl, rfl⟩) | (go_at_call 20; refine (target_any _ _ _ _).mono ?_; rintro e w1 ⟨rfl, hb⟩; obtain ⟨hc, hf⟩ := bcell hb; have hz := hb.size; simp at hz; have z0 : w.heap.size < w1.heap.size := (by omega); have z1 : w.heap.size + 1 < w1.heap.size := (by omega); have z2 : w.heap.size + 1 + 1 < w1.heap.size := (by omega)))
  exact bodyPost_ret (v := .tuple #[zeroClk, .int .i64 3]) (by simp [results, Try.results18, go_sem, zeroClk]) rfl ⟨rfl, by repeat (first | (refine Below.setCell ?_ (by simp <;> omega) _) | (refine Below.alloc ?_ (by simp <;> omega) _) | exact Below.refl _ _)⟩
set_option maxRecDepth 100000 in
set_option maxHeartbeats 1000000 in
theorem read_e3 (aim rate : Int) (set held : Bool) (at_ shown t lo hi : Int) (w : World) (h : chk aim rate at_ shown = 0) (h2 : vS lo hi = true) (h3 : vT t = false) : Calls Try.prog 18 #[.agg #[.int .i64 aim, .int .i64 rate, .bool set, .bool held, .int .i64 at_, .int .i64 shown], .int .i64 t, .agg #[.int .i64 lo, .int .i64 hi]] w (ReadPost w (rdV aim rate set at_ shown t lo hi) (rdE aim rate set at_ shown t lo hi)) := by
  have e1 : rdE aim rate set at_ shown t lo hi = 4 := rdE_3 h h2 h3
  rw [rdV_err (by rw [e1]; decide), e1]
  clear e1
  go_enter Try.func18, Try.ntmps18
  go_wp2_with (first | (go_at_call 23; refine (scheck_any _ _ _ _ _ _ _).mono ?_; rintro e w1 ⟨rfl, rfl⟩) | (go_at_call 41; refine (svalid_any _ _ _).mono ?_; rintro e w1 ⟨rfl, rfl⟩) | (go_at_call 42; refine (tvalid_any _ _).mono ?_; rintro e w1 ⟨rfl, rfl⟩) | (go_at_call 20; refine (target_any _ _ _ _).mono ?_; rintro e w1 ⟨rfl, hb⟩; obtain ⟨hc, hf⟩ := bcell hb; have hz := hb.size; simp at hz; have z0 : w.heap.size < w1.heap.size := (by omega); have z1 : w.heap.size + 1 < w1.heap.size := (by omega); have z2 : w.heap.size + 1 + 1 < w1.heap.size := (by omega)))
  exact bodyPost_ret (v := .tuple #[zeroClk, .int .i64 4]) (by simp [results, Try.results18, go_sem, zeroClk]) rfl ⟨rfl, by repeat (first | (refine Below.setCell ?_ (by simp <;> omega) _) | (refine Below.alloc ?_ (by simp <;> omega) _) | exact Below.refl _ _)⟩
set_option maxRecDepth 100000 in
set_option maxHeartbeats 1000000 in
theorem read_e4 (aim rate : Int) (held : Bool) (at_ shown t lo hi : Int) (w : World) (h : chk aim rate at_ shown = 0) (h2 : vS lo hi = true) (h3 : vT t = true) (h4 : t < at_) : Calls Try.prog 18 #[.agg #[.int .i64 aim, .int .i64 rate, .bool true, .bool held, .int .i64 at_, .int .i64 shown], .int .i64 t, .agg #[.int .i64 lo, .int .i64 hi]] w (ReadPost w (rdV aim rate true at_ shown t lo hi) (rdE aim rate true at_ shown t lo hi)) := by
  have e1 : rdE aim rate true at_ shown t lo hi = 12 := rdE_4 h h2 h3 ⟨rfl, h4⟩
  rw [rdV_err (by rw [e1]; decide), e1]
  clear e1
  go_enter Try.func18, Try.ntmps18
  go_wp2_with (first | (go_at_call 23; refine (scheck_any _ _ _ _ _ _ _).mono ?_; rintro e w1 ⟨rfl, rfl⟩) | (go_at_call 41; refine (svalid_any _ _ _).mono ?_; rintro e w1 ⟨rfl, rfl⟩) | (go_at_call 42; refine (tvalid_any _ _).mono ?_; rintro e w1 ⟨rfl, rfl⟩) | (go_at_call 20; refine (target_any _ _ _ _).mono ?_; rintro e w1 ⟨rfl, hb⟩; obtain ⟨hc, hf⟩ := bcell hb; have hz := hb.size; simp at hz; have z0 : w.heap.size < w1.heap.size := (by omega); have z1 : w.heap.size + 1 < w1.heap.size := (by omega); have z2 : w.heap.size + 1 + 1 < w1.heap.size := (by omega)))
  exact bodyPost_ret (v := .tuple #[zeroClk, .int .i64 12]) (by simp [results, Try.results18, go_sem, zeroClk]) rfl ⟨rfl, by repeat (first | (refine Below.setCell ?_ (by simp <;> omega) _) | (refine Below.alloc ?_ (by simp <;> omega) _) | exact Below.refl _ _)⟩
set_option maxRecDepth 100000 in
set_option maxHeartbeats 1000000 in
theorem read_unset (aim rate : Int) (held : Bool) (at_ shown t lo hi : Int) (w : World) (h : chk aim rate at_ shown = 0) (h2 : vS lo hi = true) (h3 : vT t = true) : Calls Try.prog 18 #[.agg #[.int .i64 aim, .int .i64 rate, .bool false, .bool held, .int .i64 at_, .int .i64 shown], .int .i64 t, .agg #[.int .i64 lo, .int .i64 hi]] w (ReadPost w (rdV aim rate false at_ shown t lo hi) (rdE aim rate false at_ shown t lo hi)) := by
  have e1 : rdE aim rate false at_ shown t lo hi = 0 := rdE_ok h h2 h3 (by simp)
  rw [rdV_ok e1, e1, show rdHeld false shown hi = false from rfl, show rdShown aim rate false at_ shown t lo hi = lo + (hi - lo) * aim / 1000 from rfl]
  clear e1
  have hk := chk_zero h
  have ht := tgt_ok h2 hk.1 hk.2.1
  go_enter Try.func18, Try.ntmps18
  go_wp2_with (first | (go_at_call 23; refine (scheck_any _ _ _ _ _ _ _).mono ?_; rintro e w1 ⟨rfl, rfl⟩) | (go_at_call 41; refine (svalid_any _ _ _).mono ?_; rintro e w1 ⟨rfl, rfl⟩) | (go_at_call 42; refine (tvalid_any _ _).mono ?_; rintro e w1 ⟨rfl, rfl⟩) | (go_at_call 20; refine (target_any _ _ _ _).mono ?_; rintro e w1 ⟨rfl, hb⟩; obtain ⟨hc, hf⟩ := bcell hb; have hz := hb.size; simp at hz; have z0 : w.heap.size < w1.heap.size := (by omega); have z1 : w.heap.size + 1 < w1.heap.size := (by omega); have z2 : w.heap.size + 1 + 1 < w1.heap.size := (by omega)))
  have hB : Below w.heap.size w w1 := kept_call hb (by repeat (first | (refine Below.alloc ?_ (by simp <;> omega) _) | exact Below.refl _ _))
  exact bodyPost_ret (v := .tuple #[.agg #[.int .i64 aim, .int .i64 rate, .bool true, .bool false, .int .i64 t, .int .i64 (lo + (hi - lo) * aim / 1000)], .int .i64 0]) (by simp [results, Try.results18, go_sem, hc, hf, z0, z1, z2]) rfl ⟨rfl, by repeat (first | (refine Below.setCell ?_ (by simp <;> omega) _) | (refine Below.drew ?_) | exact hB)⟩

end Go.Proofs.Ytnjogepllhjcjaa
