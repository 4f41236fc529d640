/- Walks: the reading of a steered clock, of the reference, where no error is. -/
import Derived.Test.YtnjogepllhjcjaaSteerD
namespace Go.Proofs.Ytnjogepllhjcjaa
open Go.RowKit

set_option maxRecDepth 100000 in
set_option maxHeartbeats 1000000 in
theorem rread_unset (aim rate : Int) (held : Bool) (at_ shown t lo hi : Int) (w : World) (h : chk aim rate at_ shown = 0) (h2 : vS lo hi = true) (h3 : vT t = true) : Calls Try.prog 19 #[.agg #[.int .i64 aim, .int .i64 rate, .bool false, .bool held, .int .i64 at_, .int .i64 shown], .int .i64 t, .agg #[.int .i64 lo, .int .i64 hi]] w (ReadPost w (rdV aim rate false at_ shown t lo hi) (rdE aim rate false at_ shown t lo hi)) := by
  have e1 : rdE aim rate false at_ shown t lo hi = 0 := rdE_ok h h2 h3 (by simp)
  rw [rdV_ok e1, e1, show rdHeld false shown hi = false from rfl, show rdShown aim rate false at_ shown t lo hi = lo + (hi - lo) * aim / 1000 from rfl]
  clear e1
  have hk := chk_zero h
  have ht := tgt_ok h2 hk.1 hk.2.1
  go_enter Try.func19, Try.ntmps19
  go_wp2_with (first | (go_at_call 24; refine (rscheck_any _ _ _ _ _ _ _).mono ?_; rintro e w1 ⟨rfl, rfl⟩) | (go_at_call 44; refine (rsvalid_any _ _ _).mono ?_; rintro e w1 ⟨rfl, rfl⟩) | (go_at_call 45; refine (rvalid_any _ _).mono ?_; rintro e w1 ⟨rfl, rfl⟩) | (go_at_call 21; refine (rtarget_any _ _ _ _).mono ?_; rintro e w1 ⟨rfl, hb⟩; obtain ⟨hc, hf⟩ := bcell hb; have hz := hb.size; simp at hz; have z0 : w.heap.size < w1.heap.size := (by omega); have z1 : w.heap.size + 1 < w1.heap.size := (by omega); have z2 : w.heap.size + 1 + 1 < w1.heap.size := (by omega)))
  have hB : Below w.heap.size w w1 := kept_call hb (by repeat (first | (refine Below.alloc ?_ (by simp <;> omega) _) | exact Below.refl _ _))
  refine bodyPost_ret (v := .tuple #[.agg #[.int .i64 aim, .int .i64 rate, .bool true, .bool false, .int .i64 t, .int .i64 (lo + (hi - lo) * aim / 1000)], .int .i64 0]) (by simp [results, Try.results19, go_sem, hc, hf, z0, z1, z2]) rfl ⟨rfl, by (repeat' (first | (with_reducible exact hB) | (with_reducible refine Below.setCell ?_ ?_ _) | (with_reducible refine Below.alloc ?_ ?_ _) | (with_reducible refine Below.drew ?_) | (with_reducible refine below_drewN ?_ _))) <;> (first | omega | (simp <;> omega))⟩

set_option maxRecDepth 100000 in
set_option maxHeartbeats 1000000 in
theorem rread_set (aim rate : Int) (held : Bool) (at_ shown t lo hi : Int) (w : World) (h : chk aim rate at_ shown = 0) (h2 : vS lo hi = true) (h3 : vT t = true) (h4 : at_ ≤ t) :
    Calls Try.prog 19 #[.agg #[.int .i64 aim, .int .i64 rate, .bool true, .bool held, .int .i64 at_, .int .i64 shown], .int .i64 t, .agg #[.int .i64 lo, .int .i64 hi]] w (ReadPost w (rdV aim rate true at_ shown t lo hi) (rdE aim rate true at_ shown t lo hi)) := by
  have e1 : rdE aim rate true at_ shown t lo hi = 0 := rdE_ok h h2 h3 (by omega)
  rw [rdV_ok e1, e1]
  clear e1
  have hk := chk_zero h
  obtain ⟨k1, k2, k3, k4, k5, k6⟩ := hk
  have ht := tgt_ok h2 k1 k2
  have b1 := vS_true.1 h2
  have b2 := vT_true.1 h3
  have b3 := vT_true.1 k5
  have b4 := vT_true.1 k6
  have s1 := share_le (t - at_) rate 1000000000 (by omega) k3 k4 (by omega)
  have s2 := share_le (hi - lo) aim 1000 (by omega) k1 k2 (by omega)
  have h4' : decide (t < at_) = false := by simp; omega
  by_cases h5 : hi < shown
  · rw [show rdHeld true shown hi = true by simp [rdHeld, h5], show rdShown aim rate true at_ shown t lo hi = shown by simp [rdShown, h5]]
    go_enter Try.func19, Try.ntmps19
    go_wp2_with (first | (go_at_call 24; refine (rscheck_any _ _ _ _ _ _ _).mono ?_; rintro e w1 ⟨rfl, rfl⟩) | (go_at_call 44; refine (rsvalid_any _ _ _).mono ?_; rintro e w1 ⟨rfl, rfl⟩) | (go_at_call 45; refine (rvalid_any _ _).mono ?_; rintro e w1 ⟨rfl, rfl⟩) | (go_at_call 21; refine (rtarget_any _ _ _ _).mono ?_; rintro e w1 ⟨rfl, hb⟩; obtain ⟨hc, hf⟩ := bcell hb; have hz := hb.size; simp at hz; have z0 : w.heap.size < w1.heap.size := (by omega); have z1 : w.heap.size + 1 < w1.heap.size := (by omega); have z2 : w.heap.size + 1 + 1 < w1.heap.size := (by omega)))
    have hB : Below w.heap.size w w1 := kept_call hb (by repeat (first | (refine Below.alloc ?_ (by simp <;> omega) _) | exact Below.refl _ _))
    exact bodyPost_ret (v := .tuple #[.agg #[.int .i64 aim, .int .i64 rate, .bool true, .bool true, .int .i64 t, .int .i64 shown], .int .i64 0]) (by simp [results, Try.results19, go_sem, hc, hf, z0, z1, z2]) rfl ⟨rfl, by (repeat' (first | (with_reducible exact hB) | (with_reducible refine Below.setCell ?_ ?_ _) | (with_reducible refine Below.alloc ?_ ?_ _) | (with_reducible refine Below.drew ?_) | (with_reducible refine below_drewN ?_ _))) <;> (first | omega | (simp <;> omega))⟩
  · rw [show rdHeld true shown hi = false by simp [rdHeld, h5], show rdShown aim rate true at_ shown t lo hi = max shown (max lo (min (lo + (hi - lo) * aim / 1000) (rdMost rate at_ shown t))) by simp [rdShown, h5]]
    go_enter Try.func19, Try.ntmps19
    go_wp2_with (first | (go_at_call 24; refine (rscheck_any _ _ _ _ _ _ _).mono ?_; rintro e w1 ⟨rfl, rfl⟩) | (go_at_call 44; refine (rsvalid_any _ _ _).mono ?_; rintro e w1 ⟨rfl, rfl⟩) | (go_at_call 45; refine (rvalid_any _ _).mono ?_; rintro e w1 ⟨rfl, rfl⟩) | (go_at_call 21; refine (rtarget_any _ _ _ _).mono ?_; rintro e w1 ⟨rfl, hb⟩; obtain ⟨hc, hf⟩ := bcell hb; have hz := hb.size; simp at hz; have z0 : w.heap.size < w1.heap.size := (by omega); have z1 : w.heap.size + 1 < w1.heap.size := (by omega); have z2 : w.heap.size + 1 + 1 < w1.heap.size := (by omega)))
    go_quiet ((go_at_call 46; refine Calls.quiet_of (share_any _ _ _ _ (by omega) (by omega) (by omega) (by omega) (by omega) (by omega))))
    go_wp2
    all_goals
      have hB : Below w.heap.size w w1 := kept_call hb (by repeat (first | (refine Below.alloc ?_ (by simp <;> omega) _) | exact Below.refl _ _))
      refine bodyPost_ret (v := .tuple #[.agg #[.int .i64 aim, .int .i64 rate, .bool true, .bool false, .int .i64 t, .int .i64 (max shown (max lo (min (lo + (hi - lo) * aim / 1000) (rdMost rate at_ shown t))))], .int .i64 0]) ?_ rfl ⟨rfl, by (repeat' (first | (with_reducible exact hB) | (with_reducible refine Below.setCell ?_ ?_ _) | (with_reducible refine Below.alloc ?_ ?_ _) | (with_reducible refine Below.drew ?_) | (with_reducible refine below_drewN ?_ _))) <;> (first | omega | (simp <;> omega))⟩
      simp [results, Try.results19, go_sem, hc, hf, z0, z1, z2]
      clear hc hf hb
      unfold rdMost
      omega
end Go.Proofs.Ytnjogepllhjcjaa
