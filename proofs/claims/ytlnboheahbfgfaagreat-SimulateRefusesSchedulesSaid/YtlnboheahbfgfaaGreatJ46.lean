/- Texts joined: SteerD, SteerE, SteerR -/
import Derived.Test.YtlnboheahbfgfaaGreatJ30
namespace Go.Proofs.YtlnboheahbfgfaaGreat
open Go.RowKit

set_option maxRecDepth 100000 in
set_option maxHeartbeats 1000000 in
theorem rread_e1 (aim rate : Int) (set held : Bool) (at_ shown t lo hi : Int) (w : World) (h : chk aim rate at_ shown = 4) : Calls Tryz.prog 68 #[.agg #[.int .i64 aim, .int .i64 rate, .bool set, .bool held, .int .i64 at_, .int .i64 shown], .int .i64 t, .agg #[.int .i64 lo, .int .i64 hi]] w (ReadPost w (rdV aim rate set at_ shown t lo hi) (rdE aim rate set at_ shown t lo hi)) := by
 have e1 : rdE aim rate set at_ shown t lo hi = 4 := rdE_1 h
 rw [rdV_err (by rw [e1]; decide), e1]
 clear e1
 go_enter Tryz.func68, Tryz.ntmps68
 go_wp2_with (first | (go_at_call 104; refine (rscheck_any _ _ _ _ _ _ _).mono ?_; rintro e w1 ⟨rfl, rfl⟩) | (go_at_call 61; refine (rsvalid_any _ _ _).mono ?_; rintro e w1 ⟨rfl, rfl⟩) | (go_at_call 96; refine (rvalid_any _ _).mono ?_; rintro e w1 ⟨rfl, rfl⟩) | (go_at_call 105; refine (rtarget_any _ _ _ _).mono ?_; rintro e w1 ⟨rfl, hb⟩; obtain ⟨hc, hf⟩ := bcell hb; have hz := hb.size; simp at hz; have z0 : w.heap.size < w1.heap.size := (by omega); have z1 : w.heap.size + 1 < w1.heap.size := (by omega); have z2 : w.heap.size + 1 + 1 < w1.heap.size := (by omega)))
 exact bodyPost_ret (v := .tuple #[zeroClk, .int .i64 4]) (by simp [results, Tryz.results68, go_sem, zeroClk]) rfl ⟨rfl, by repeat (first | (refine Below.setCell ?_ (by simp <;> omega) _) | (refine Below.alloc ?_ (by simp <;> omega) _) | exact Below.refl _ _)⟩
set_option maxRecDepth 100000 in
set_option maxHeartbeats 1000000 in
theorem rread_e2 (aim rate : Int) (set held : Bool) (at_ shown t lo hi : Int) (w : World) (h : chk aim rate at_ shown = 0) (h2 : vS lo hi = false) : Calls Tryz.prog 68 #[.agg #[.int .i64 aim, .int .i64 rate, .bool set, .bool held, .int .i64 at_, .int .i64 shown], .int .i64 t, .agg #[.int .i64 lo, .int .i64 hi]] w (ReadPost w (rdV aim rate set at_ shown t lo hi) (rdE aim rate set at_ shown t lo hi)) := by
 have e1 : rdE aim rate set at_ shown t lo hi = 3 := rdE_2 h h2
 rw [rdV_err (by rw [e1]; decide), e1]
 clear e1
 go_enter Tryz.func68, Tryz.ntmps68
 go_wp2_with (first | (go_at_call 104; refine (rscheck_any _ _ _ _ _ _ _).mono ?_; rintro e w1 ⟨rfl, rfl⟩) | (go_at_call 61; refine (rsvalid_any _ _ _).mono ?_; rintro e w1 ⟨rfl, rfl⟩) | (go_at_call 96; refine (rvalid_any _ _).mono ?_; rintro e w1 ⟨rfl, rfl⟩) | (go_at_call 105; refine (rtarget_any _ _ _ _).mono ?_; rintro e w1 ⟨rfl, hb⟩; obtain ⟨hc, hf⟩ := bcell hb; have hz := hb.size; simp at hz; have z0 : w.heap.size < w1.heap.size := (by omega); have z1 : w.heap.size + 1 < w1.heap.size := (by omega); have z2 : w.heap.size + 1 + 1 < w1.heap.size := (by omega)))
 exact bodyPost_ret (v := .tuple #[zeroClk, .int .i64 3]) (by simp [results, Tryz.results68, go_sem, zeroClk]) rfl ⟨rfl, by repeat (first | (refine Below.setCell ?_ (by simp <;> omega) _) | (refine Below.alloc ?_ (by simp <;> omega) _) | exact Below.refl _ _)⟩
set_option maxRecDepth 100000 in
set_option maxHeartbeats 1000000 in
theorem rread_e3 (aim rate : Int) (set held : Bool) (at_ shown t lo hi : Int) (w : World) (h : chk aim rate at_ shown = 0) (h2 : vS lo hi = true) (h3 : vT t = false) : Calls Tryz.prog 68 #[.agg #[.int .i64 aim, .int .i64 rate, .bool set, .bool held, .int .i64 at_, .int .i64 shown], .int .i64 t, .agg #[.int .i64 lo, .int .i64 hi]] w (ReadPost w (rdV aim rate set at_ shown t lo hi) (rdE aim rate set at_ shown t lo hi)) := by
 have e1 : rdE aim rate set at_ shown t lo hi = 4 := rdE_3 h h2 h3
 rw [rdV_err (by rw [e1]; decide), e1]
 clear e1
 go_enter Tryz.func68, Tryz.ntmps68
 go_wp2_with (first | (go_at_call 104; refine (rscheck_any _ _ _ _ _ _ _).mono ?_; rintro e w1 ⟨rfl, rfl⟩) | (go_at_call 61; refine (rsvalid_any _ _ _).mono ?_; rintro e w1 ⟨rfl, rfl⟩) | (go_at_call 96; refine (rvalid_any _ _).mono ?_; rintro e w1 ⟨rfl, rfl⟩) | (go_at_call 105; refine (rtarget_any _ _ _ _).mono ?_; rintro e w1 ⟨rfl, hb⟩; obtain ⟨hc, hf⟩ := bcell hb; have hz := hb.size; simp at hz; have z0 : w.heap.size < w1.heap.size := (by omega); have z1 : w.heap.size + 1 < w1.heap.size := (by omega); have z2 : w.heap.size + 1 + 1 < w1.heap.size := (by omega)))
 exact bodyPost_ret (v := .tuple #[zeroClk, .int .i64 4]) (by simp [results, Tryz.results68, go_sem, zeroClk]) rfl ⟨rfl, by repeat (first | (refine Below.setCell ?_ (by simp <;> omega) _) | (refine Below.alloc ?_ (by simp <;> omega) _) | exact Below.refl _ _)⟩
set_option maxRecDepth 100000 in
set_option maxHeartbeats 1000000 in
theorem rread_e4 (aim rate : Int) (held : Bool) (at_ shown t lo hi : Int) (w : World) (h : chk aim rate at_ shown = 0) (h2 : vS lo hi = true) (h3 : vT t = true) (h4 : t < at_) : Calls Tryz.prog 68 #[.agg #[.int .i64 aim, .int .i64 rate, .bool true, .bool held, .int .i64 at_, .int .i64 shown], .int .i64 t, .agg #[.int .i64 lo, .int .i64 hi]] w (ReadPost w (rdV aim rate true at_ shown t lo hi) (rdE aim rate true at_ shown t lo hi)) := by
 have e1 : rdE aim rate true at_ shown t lo hi = 12 := rdE_4 h h2 h3 ⟨rfl, h4⟩
 rw [rdV_err (by rw [e1]; decide), e1]
 clear e1
 go_enter Tryz.func68, Tryz.ntmps68
 go_wp2_with (first | (go_at_call 104; refine (rscheck_any _ _ _ _ _ _ _).mono ?_; rintro e w1 ⟨rfl, rfl⟩) | (go_at_call 61; refine (rsvalid_any _ _ _).mono ?_; rintro e w1 ⟨rfl, rfl⟩) | (go_at_call 96; refine (rvalid_any _ _).mono ?_; rintro e w1 ⟨rfl, rfl⟩) | (go_at_call 105; refine (rtarget_any _ _ _ _).mono ?_; rintro e w1 ⟨rfl, hb⟩; obtain ⟨hc, hf⟩ := bcell hb; have hz := hb.size; simp at hz; have z0 : w.heap.size < w1.heap.size := (by omega); have z1 : w.heap.size + 1 < w1.heap.size := (by omega); have z2 : w.heap.size + 1 + 1 < w1.heap.size := (by omega)))
 exact bodyPost_ret (v := .tuple #[zeroClk, .int .i64 12]) (by simp [results, Tryz.results68, go_sem, zeroClk]) rfl ⟨rfl, by repeat (first | (refine Below.setCell ?_ (by simp <;> omega) _) | (refine Below.alloc ?_ (by simp <;> omega) _) | exact Below.refl _ _)⟩
end Go.Proofs.YtlnboheahbfgfaaGreat
namespace Go.Proofs.YtlnboheahbfgfaaGreat
open Go.RowKit

set_option maxRecDepth 100000 in
set_option maxHeartbeats 1000000 in
theorem rread_unset (aim rate : Int) (held : Bool) (at_ shown t lo hi : Int) (w : World) (h : chk aim rate at_ shown = 0) (h2 : vS lo hi = true) (h3 : vT t = true) : Calls Tryz.prog 68 #[.agg #[.int .i64 aim, .int .i64 rate, .bool false, .bool held, .int .i64 at_, .int .i64 shown], .int .i64 t, .agg #[.int .i64 lo, .int .i64 hi]] w (ReadPost w (rdV aim rate false at_ shown t lo hi) (rdE aim rate false at_ shown t lo hi)) := by
 have e1 : rdE aim rate false at_ shown t lo hi = 0 := rdE_ok h h2 h3 (by simp)
 rw [rdV_ok e1, e1, show rdHeld false shown hi = false from rfl, show rdShown aim rate false at_ shown t lo hi = lo + (hi - lo) * aim / 1000 from rfl]
 clear e1
 have hk := chk_zero h
 have ht := tgt_ok h2 hk.1 hk.2.1
 go_enter Tryz.func68, Tryz.ntmps68
 go_wp2_with (first | (go_at_call 104; refine (rscheck_any _ _ _ _ _ _ _).mono ?_; rintro e w1 ⟨rfl, rfl⟩) | (go_at_call 61; refine (rsvalid_any _ _ _).mono ?_; rintro e w1 ⟨rfl, rfl⟩) | (go_at_call 96; refine (rvalid_any _ _).mono ?_; rintro e w1 ⟨rfl, rfl⟩) | (go_at_call 105; refine (rtarget_any _ _ _ _).mono ?_; rintro e w1 ⟨rfl, hb⟩; obtain ⟨hc, hf⟩ := bcell hb; have hz := hb.size; simp at hz; have z0 : w.heap.size < w1.heap.size := (by omega); have z1 : w.heap.size + 1 < w1.heap.size := (by omega); have z2 : w.heap.size + 1 + 1 < w1.heap.size := (by omega)))
 have hB : Below w.heap.size w w1 := kept_call hb (by repeat (first | (refine Below.alloc ?_ (by simp <;> omega) _) | exact Below.refl _ _))
 refine bodyPost_ret (v := .tuple #[.agg #[.int .i64 aim, .int .i64 rate, .bool true, .bool false, .int .i64 t, .int .i64 (lo + (hi - lo) * aim / 1000)], .int .i64 0]) (by simp [results, Tryz.results68, go_sem, hc, hf, z0, z1, z2]) rfl ⟨rfl, by (repeat' (first | (with_reducible exact hB) | (with_reducible refine Below.setCell ?_ ?_ _) | (with_reducible refine Below.alloc ?_ ?_ _) | (with_reducible refine Below.drew ?_) | (with_reducible refine below_drewN ?_ _))) <;> (first | omega | (simp <;> omega))⟩

set_option maxRecDepth 100000 in
set_option maxHeartbeats 1000000 in
theorem rread_set (aim rate : Int) (held : Bool) (at_ shown t lo hi : Int) (w : World) (h : chk aim rate at_ shown = 0) (h2 : vS lo hi = true) (h3 : vT t = true) (h4 : at_ ≤ t) :
  Calls Tryz.prog 68 #[.agg #[.int .i64 aim, .int .i64 rate, .bool true, .bool held, .int .i64 at_, .int .i64 shown], .int .i64 t, .agg #[.int .i64 lo, .int .i64 hi]] w (ReadPost w (rdV aim rate true at_ shown t lo hi) (rdE aim rate true at_ shown t lo hi)) := by
 have e1 : rdE aim rate true at_ shown t lo hi = 0 := rdE_ok h h2 h3 (by omega)
 rw [rdV_ok e1, e1]
 clear e1
 have hk := chk_zero h
 obtain ⟨k1, k2, k3, k4, k5, k6⟩ := hk
 have ht := tgt_ok h2 k1 k2
 have b1 := vS_true.1 h2
 have b2 := vT_true.1 h3
 have b3 := vT_true.1 k5
 have b4 := vT_true.1 k6
 have s1 := share_le (t - at_) rate 1000000000 (by omega) k3 k4 (by omega)
 have s2 := share_le (hi - lo) aim 1000 (by omega) k1 k2 (by omega)
 have h4' : decide (t < at_) = false := by simp; omega
 by_cases h5 : hi < shown
 ·rw [show rdHeld true shown hi = true by simp [rdHeld, h5], show rdShown aim rate true at_ shown t lo hi = shown by simp [rdShown, h5]]
  go_enter Tryz.func68, Tryz.ntmps68
  go_wp2_with (first | (go_at_call 104; refine (rscheck_any _ _ _ _ _ _ _).mono ?_; rintro e w1 ⟨rfl, rfl⟩) | (go_at_call 61; refine (rsvalid_any _ _ _).mono ?_; rintro e w1 ⟨rfl, rfl⟩) | (go_at_call 96; refine (rvalid_any _ _).mono ?_; rintro e w1 ⟨rfl, rfl⟩) | (go_at_call 105; refine (rtarget_any _ _ _ _).mono ?_; rintro e w1 ⟨rfl, hb⟩; obtain ⟨hc, hf⟩ := bcell hb; have hz := hb.size; simp at hz; have z0 : w.heap.size < w1.heap.size := (by omega); have z1 : w.heap.size + 1 < w1.heap.size := (by omega); have z2 : w.heap.size + 1 + 1 < w1.heap.size := (by omega)))
  have hB : Below w.heap.size w w1 := kept_call hb (by repeat (first | (refine Below.alloc ?_ (by simp <;> omega) _) | exact Below.refl _ _))
  exact bodyPost_ret (v := .tuple #[.agg #[.int .i64 aim, .int .i64 rate, .bool true, .bool true, .int .i64 t, .int .i64 shown], .int .i64 0]) (by simp [results, Tryz.results68, go_sem, hc, hf, z0, z1, z2]) rfl ⟨rfl, by (repeat' (first | (with_reducible exact hB) | (with_reducible refine Below.setCell ?_ ?_ _) | (with_reducible refine Below.alloc ?_ ?_ _) | (with_reducible refine Below.drew ?_) | (with_reducible refine below_drewN ?_ _))) <;> (first | omega | (simp <;> omega))⟩
 ·rw [show rdHeld true shown hi = false by simp [rdHeld, h5], show rdShown aim rate true at_ shown t lo hi = max shown (max lo (min (lo + (hi - lo) * aim / 1000) (rdMost rate at_ shown t))) by simp [rdShown, h5]]
  go_enter Tryz.func68, Tryz.ntmps68
  go_wp2_with (first | (go_at_call 104; refine (rscheck_any _ _ _ _ _ _ _).mono ?_; rintro e w1 ⟨rfl, rfl⟩) | (go_at_call 61; refine (rsvalid_any _ _ _).mono ?_; rintro e w1 ⟨rfl, rfl⟩) | (go_at_call 96; refine (rvalid_any _ _).mono ?_; rintro e w1 ⟨rfl, rfl⟩) | (go_at_call 105; refine (rtarget_any _ _ _ _).mono ?_; rintro e w1 ⟨rfl, hb⟩; obtain ⟨hc, hf⟩ := bcell hb; have hz := hb.size; simp at hz; have z0 : w.heap.size < w1.heap.size := (by omega); have z1 : w.heap.size + 1 < w1.heap.size := (by omega); have z2 : w.heap.size + 1 + 1 < w1.heap.size := (by omega)))
  go_quiet ((go_at_call 106; refine Calls.quiet_of (share_any _ _ _ _ (by omega) (by omega) (by omega) (by omega) (by omega) (by omega))))
  go_wp2
  all_goals
   have hB : Below w.heap.size w w1 := kept_call hb (by repeat (first | (refine Below.alloc ?_ (by simp <;> omega) _) | exact Below.refl _ _))
   refine bodyPost_ret (v := .tuple #[.agg #[.int .i64 aim, .int .i64 rate, .bool true, .bool false, .int .i64 t, .int .i64 (max shown (max lo (min (lo + (hi - lo) * aim / 1000) (rdMost rate at_ shown t))))], .int .i64 0]) ?_ rfl ⟨rfl, by (repeat' (first | (with_reducible exact hB) | (with_reducible refine Below.setCell ?_ ?_ _) | (with_reducible refine Below.alloc ?_ ?_ _) | (with_reducible refine Below.drew ?_) | (with_reducible refine below_drewN ?_ _))) <;> (first | omega | (simp <;> omega))⟩
   simp [results, Tryz.results68, go_sem, hc, hf, z0, z1, z2]
   clear hc hf hb
   unfold rdMost
   omega
end Go.Proofs.YtlnboheahbfgfaaGreat
namespace Go.Proofs.YtlnboheahbfgfaaGreat
open Go.RowKit

theorem read_any (aim rate : Int) (set held : Bool) (at_ shown t lo hi : Int) (w : World) :
  Calls Tryz.prog 95 #[.agg #[.int .i64 aim, .int .i64 rate, .bool set, .bool held, .int .i64 at_, .int .i64 shown], .int .i64 t, .agg #[.int .i64 lo, .int .i64 hi]] w (ReadPost w (rdV aim rate set at_ shown t lo hi) (rdE aim rate set at_ shown t lo hi)) := by
 rcases chk_cases aim rate at_ shown with h | h
 ·rcases h2 : vS lo hi
  ·exact read_e2 aim rate set held at_ shown t lo hi w h h2
  ·rcases h3 : vT t
   ·exact read_e3 aim rate set held at_ shown t lo hi w h h2 h3
   ·cases set
    ·exact read_unset aim rate held at_ shown t lo hi w h h2 h3
    ·by_cases h4 : t < at_
     ·exact read_e4 aim rate held at_ shown t lo hi w h h2 h3 h4
     ·exact read_set aim rate held at_ shown t lo hi w h h2 h3 (by omega)
 ·exact read_e1 aim rate set held at_ shown t lo hi w h
theorem rread_any (aim rate : Int) (set held : Bool) (at_ shown t lo hi : Int) (w : World) :
  Calls Tryz.prog 68 #[.agg #[.int .i64 aim, .int .i64 rate, .bool set, .bool held, .int .i64 at_, .int .i64 shown], .int .i64 t, .agg #[.int .i64 lo, .int .i64 hi]] w (ReadPost w (rdV aim rate set at_ shown t lo hi) (rdE aim rate set at_ shown t lo hi)) := by
 rcases chk_cases aim rate at_ shown with h | h
 ·rcases h2 : vS lo hi
  ·exact rread_e2 aim rate set held at_ shown t lo hi w h h2
  ·rcases h3 : vT t
   ·exact rread_e3 aim rate set held at_ shown t lo hi w h h2 h3
   ·cases set
    ·exact rread_unset aim rate held at_ shown t lo hi w h h2 h3
    ·by_cases h4 : t < at_
     ·exact rread_e4 aim rate held at_ shown t lo hi w h h2 h3 h4
     ·exact rread_set aim rate held at_ shown t lo hi w h h2 h3 (by omega)
 ·exact rread_e1 aim rate set held at_ shown t lo hi w h
end Go.Proofs.YtlnboheahbfgfaaGreat
