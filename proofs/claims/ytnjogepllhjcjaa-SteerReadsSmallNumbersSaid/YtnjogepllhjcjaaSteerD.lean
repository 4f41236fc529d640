/- Walks: the reading of a steered clock, of the reference. -/
import Derived.Test.YtnjogepllhjcjaaSteerB
namespace Go.Proofs.Ytnjogepllhjcjaa
open Go.RowKit

set_option maxRecDepth 100000 in
set_option maxHeartbeats 1000000 in
theorem rread_e1 (aim rate : Int) (set held : Bool) (at_ shown t lo hi : Int) (w : World) (h : chk aim rate at_ shown = 4) : Calls Try.prog 19 #[.agg #[.int .i64 aim, .int .i64 rate, .bool set, .bool held, .int .i64 at_, .int .i64 shown], .int .i64 t, .agg #[.int .i64 lo, .int .i64 hi]] w (ReadPost w (rdV aim rate set at_ shown t lo hi) (rdE aim rate set at_ shown t lo hi)) := by
  have e1 : rdE aim rate set at_ shown t lo hi = 4 := rdE_1 h
  rw [rdV_err (by rw [e1]; decide), e1]
  clear e1
  go_enter Try.func19, Try.ntmps19
  go_wp2_with (first | (go_at_call 24; refine (rscheck_any _ _ _ _ _ _ _).mono ?_; rintro e w1 ⟨rfl, rfl⟩) | (go_at_call 44; refine (rsvalid_any _ _ _).mono ?_; rintro e w1 ⟨rfl, rfl⟩) | (go_at_call 45; refine (rvalid_any _ _).mono ?_; rintro e w1 ⟨rfl, rfl⟩) | (go_at_call 21; refine (rtarget_any _ _ _ _).mono ?_; rintro e w1 ⟨rfl, hb⟩; obtain ⟨hc, hf⟩ := bcell hb; have hz := hb.size; simp at hz; have z0 : w.heap.size < w1.heap.size := (by omega); have z1 : w.heap.size + 1 < w1.heap.size := (by omega); have z2 : w.heap.size + 1 + 1 < w1.heap.size := (by omega)))
  exact bodyPost_ret (v := .tuple #[zeroClk, .int .i64 4]) (by simp [results, Try.results19, go_sem, zeroClk]) rfl ⟨rfl, by repeat (first | (refine Below.setCell ?_ (by simp <;> omega) _) | (refine Below.alloc ?_ (by simp <;> omega) _) | exact Below.refl _ _)⟩
set_option maxRecDepth 100000 in
set_option maxHeartbeats 1000000 in
theorem rread_e2 (aim rate : Int) (set held : Bool) (at_ shown t lo hi : Int) (w : World) (h : chk aim rate at_ shown = 0) (h2 : vS lo hi = false) : Calls Try.prog 19 #[.agg #[.int .i64 aim, .int .i64 rate, .bool set, .bool held, .int .i64 at_, .int .i64 shown], .int .i64 t, .agg #[.int .i64 lo, .int .i64 hi]] w (ReadPost w (rdV aim rate set at_ shown t lo hi) (rdE aim rate set at_ shown t lo hi)) := by
  have e1 : rdE aim rate set at_ shown t lo hi = 3 := rdE_2 h h2
  rw [rdV_err (by rw [e1]; decide), e1]
  clear e1
  go_enter Try.func19, Try.ntmps19
  go_wp2_with (first | (go_at_call 24; refine (rscheck_any _ _ _ _ _ _ _).mono ?_; rintro e w1 ⟨rfl, rfl⟩) | (go_at_call 44; refine (rsvalid_any _ _ _).mono ?_; rintro e w1 ⟨rfl, rfl⟩) | (go_at_call 45; refine (rvalid_any _ _).mono ?_; rintro e w1 ⟨rfl, rfl⟩) | (go_at_call 21; refine (rtarget_any _ _ _ _).mono ?_; rintro e w1 ⟨rfl, hb⟩; obtain ⟨hc, hf⟩ := bcell hb; have hz := hb.size; simp at hz; have z0 : w.heap.size < w1.heap.size := (by omega); have z1 : w.heap.size + 1 < w1.heap.size := (by omega); have z2 : w.heap.size + 1 + 1 < w1.heap.size := (by omega)))
  exact bodyPost_ret (v := .tuple #[zeroClk, .int .i64 3]) (by simp [results, Try.results19, go_sem, zeroClk]) rfl ⟨rfl, by repeat (first | (refine Below.setCell ?_ (by simp <;> omega) _) | (refine Below.alloc ?_ (by simp <;> omega) _) | exact Below.refl _ _)⟩
set_option maxRecDepth 100000 in
set_option maxHeartbeats 1000000 in
theorem rread_e3 (aim rate : Int) (set held : Bool) (at_ shown t lo hi : Int) (w : World) (h : chk aim rate at_ shown = 0) (h2 : vS lo hi = true) (h3 : vT t = false) : Calls Try.prog 19 #[.agg #[.int .i64 aim, .int .i64 rate, .bool set, .bool held, .int .i64 at_, .int .i64 shown], .int .i64 t, .agg #[.int .i64 lo, .int .i64 hi]] w (ReadPost w (rdV aim rate set at_ shown t lo hi) (rdE aim rate set at_ shown t lo hi)) := by
  have e1 : rdE aim rate set at_ shown t lo hi = 4 := rdE_3 h h2 h3
  rw [rdV_err (by rw [e1]; decide), e1]
  clear e1
  go_enter Try.func19, Try.ntmps19
  go_wp2_with (first | (go_at_call 24; refine (rscheck_any _ _ _ _ _ _ _).mono ?_; rintro e w1 ⟨rfl, rfl⟩) | (go_at_call 44; refine (rsvalid_any _ _ _).mono ?_; rintro e w1 ⟨rfl, rfl⟩) | (go_at_call 45; refine (rvalid_any _ _).mono ?_; rintro e w1 ⟨rfl, rfl⟩) | (go_at_call 21; refine (rtarget_any _ _ _ _).mono ?_; rintro e w1 ⟨rfl, hb⟩; obtain ⟨hc, hf⟩ := bcell hb; have hz := hb.size; simp at hz; have z0 : w.heap.size < w1.heap.size := (by omega); have z1 : w.heap.size + 1 < w1.heap.size := (by omega); have z2 : w.heap.size + 1 + 1 < w1.heap.size := (by omega)))
  exact bodyPost_ret (v := .tuple #[zeroClk, .int .i64 4]) (by simp [results, Try.results19, go_sem, zeroClk]) rfl ⟨rfl, by repeat (first | (refine Below.setCell ?_ (by simp <;> omega) _) | (refine Below.alloc ?_ (by simp <;> omega) _) | exact Below.refl _ _)⟩
set_option maxRecDepth 100000 in
set_option maxHeartbeats 1000000 in
theorem rread_e4 (aim rate : Int) (held : Bool) (at_ shown t lo hi : Int) (w : World) (h : chk aim rate at_ shown = 0) (h2 : vS lo hi = true) (h3 : vT t = true) (h4 : t < at_) : Calls Try.prog 19 #[.agg #[.int .i64 aim, .int .i64 rate, .bool true, .bool held, .int .i64 at_, .int .i64 shown], .int .i64 t, .agg #[.int .i64 lo, .int .i64 hi]] w (ReadPost w (rdV aim rate true at_ shown t lo hi) (rdE aim rate true at_ shown t lo hi)) := by
  have e1 : rdE aim rate true at_ shown t lo hi = 12 := rdE_4 h h2 h3 ⟨rfl, h4⟩
  rw [rdV_err (by rw [e1]; decide), e1]
  clear e1
  go_enter Try.func19, Try.ntmps19
  go_wp2_with (first | (go_at_call 24; refine (rscheck_any _ _ _ _ _ _ _).mono ?_; rintro e w1 ⟨rfl, rfl⟩) | (go_at_call 44; refine (rsvalid_any _ _ _).mono ?_; rintro e w1 ⟨rfl, rfl⟩) | (go_at_call 45; refine (rvalid_any _ _).mono ?_; rintro e w1 ⟨rfl, rfl⟩) | (go_at_call 21; refine (rtarget_any _ _ _ _).mono ?_; rintro e w1 ⟨rfl, hb⟩; obtain ⟨hc, hf⟩ := bcell hb; have hz := hb.size; simp at hz; have z0 : w.heap.size < w1.heap.size := (by omega); have z1 : w.heap.size + 1 < w1.heap.size := (by omega); have z2 : w.heap.size + 1 + 1 < w1.heap.size := (by omega)))
  exact bodyPost_ret (v := .tuple #[zeroClk, .int .i64 12]) (by simp [results, Try.results19, go_sem, zeroClk]) rfl ⟨rfl, by repeat (first | (refine Below.setCell ?_ (by simp <;> omega) _) | (refine Below.alloc ?_ (by simp <;> omega) _) | exact Below.refl _ _)⟩
end Go.Proofs.Ytnjogepllhjcjaa
