/- Walks: drift.Project, drift.Back where the span and the advance are in range. -/
import Derived.Test.YtfffhdcdkdaijaaMoved
namespace Go.Proofs.Ytfffhdcdkdaijaa
open Go.RowKit

set_option maxHeartbeats 1000000 in
theorem proj_any (a b t p : Int) (w : World) (h1 : vS a b = true) (h2 : inD t p = true) :
    Calls Try.prog 42 #[.agg #[.int .i64 a, .int .i64 b], .int .i64 t, .int .i64 p] w (RB w (mkV (a + elLo t p) (b + elHi t p))) := by
  have C := Lib.hid (fun P w q0 q1 => projm_any P a b t p w h1 h2 q0 q1)
  have hv : (∃ x y e, mkV (a + elLo t p) (b + elHi t p) = .tuple #[.agg #[.int .i64 x, .int .i64 y], .int .i64 e]) := by
    unfold mkV; split
    · exact ⟨_, _, _, rfl⟩
    · exact ⟨_, _, _, rfl⟩
  obtain ⟨x, y, e, hv⟩ := hv
  rw [hv] at C ⊢
  clear hv h1 h2
  go_enter Try.func42, Try.ntmps42
  go_wp2_with fail
  refine (C.out _ _ (by simp [go_sem]) (by simp [go_sem])).mono ?_
  rintro e w1 ⟨rfl, hb⟩
  have hB := kept_call hb (((Below.refl w.heap.size w).alloc (Nat.le_refl _) _).alloc (by simp) _)
  obtain ⟨hc, hf⟩ := bcell hb
  have z1 := hb.size
  simp at z1
  have z2 : w.heap.size + 1 < w1.heap.size := by omega
  have z3 : w.heap.size < w1.heap.size := by omega
  clear hb
  go_wp2
  exact bodyPost_ret (v := .tuple #[.agg #[.int .i64 x, .int .i64 y], .int .i64 _]) (by simp [results, Try.results42, go_sem, *]) rfl ⟨rfl, by (repeat' (first | (with_reducible exact hB) | (with_reducible refine Below.setCell ?_ ?_ _) | (with_reducible refine Below.alloc ?_ ?_ _))) <;> (first | omega | (simp <;> omega))⟩

set_option maxHeartbeats 1000000 in
theorem back_any (a b t p : Int) (w : World) (h1 : vS a b = true) (h2 : inD t p = true) :
    Calls Try.prog 43 #[.agg #[.int .i64 a, .int .i64 b], .int .i64 t, .int .i64 p] w (RB w (mkV (a - elHi t p) (b - elLo t p))) := by
  have C := Lib.hid (fun P w q0 q1 => backm_any P a b t p w h1 h2 q0 q1)
  have hv : (∃ x y e, mkV (a - elHi t p) (b - elLo t p) = .tuple #[.agg #[.int .i64 x, .int .i64 y], .int .i64 e]) := by
    unfold mkV; split
    · exact ⟨_, _, _, rfl⟩
    · exact ⟨_, _, _, rfl⟩
  obtain ⟨x, y, e, hv⟩ := hv
  rw [hv] at C ⊢
  clear hv h1 h2
  go_enter Try.func43, Try.ntmps43
  go_wp2_with fail
  refine (C.out _ _ (by simp [go_sem]) (by simp [go_sem])).mono ?_
  rintro e w1 ⟨rfl, hb⟩
  have hB := kept_call hb (((Below.refl w.heap.size w).alloc (Nat.le_refl _) _).alloc (by simp) _)
  obtain ⟨hc, hf⟩ := bcell hb
  have z1 := hb.size
  simp at z1
  have z2 : w.heap.size + 1 < w1.heap.size := by omega
  have z3 : w.heap.size < w1.heap.size := by omega
  clear hb
  go_wp2
  exact bodyPost_ret (v := .tuple #[.agg #[.int .i64 x, .int .i64 y], .int .i64 _]) (by simp [results, Try.results43, go_sem, *]) rfl ⟨rfl, by (repeat' (first | (with_reducible exact hB) | (with_reducible refine Below.setCell ?_ ?_ _) | (with_reducible refine Below.alloc ?_ ?_ _))) <;> (first | omega | (simp <;> omega))⟩
end Go.Proofs.Ytfffhdcdkdaijaa
