/- Walks: interval.Add, interval.Sub of two valid spans. -/
import Derived.Test.YtfffhdcdkdaijaaSpanOps
namespace Go.Proofs.Ytfffhdcdkdaijaa
open Go.RowKit

set_option maxHeartbeats 1000000 in
theorem add_good (a b c d : Int) (w : World) (h1 : vS a b = true) (h2 : vS c d = true) :
    Calls Try.prog 80 #[.agg #[.int .i64 a, .int .i64 b], .agg #[.int .i64 c, .int .i64 d]] w (RB w (mkV (a + c) (b + d))) := by
  have C := Lib.hid (fun B P Q w h p0 p1 q0 q1 => addr_good B P Q a b c d w h h1 h2 p0 p1 q0 q1)
  clear h1 h2
  have hv : (∃ x y e, mkV (a + c) (b + d) = .tuple #[.agg #[.int .i64 x, .int .i64 y], .int .i64 e]) := by
    unfold mkV; split
    · exact ⟨_, _, _, rfl⟩
    · exact ⟨_, _, _, rfl⟩
  obtain ⟨x, y, e, hv⟩ := hv
  rw [hv] at C ⊢
  clear hv
  go_enter Try.func80, Try.ntmps80
  go_wp2_with fail
  refine (C.out _ _ _ _ ⟨by simp [go_sem], by simp [go_sem], by simp [go_sem], by simp [go_sem]⟩ (by simp [go_sem]) (by simp [go_sem]) (by simp [go_sem]) (by simp [go_sem])).mono ?_
  rintro e w1 ⟨rfl, hb⟩
  have hA := kept_call hb (((((Below.refl w.heap.size w).alloc (Nat.le_refl _) _).alloc (by simp) _).alloc (by simp; omega) _).alloc (by simp; omega) _)
  obtain ⟨hc, hf⟩ := bcell hb
  have z1 := hb.size
  simp at z1
  have z2 : w.heap.size + 1 + 1 < w1.heap.size := by omega
  clear hb
  go_wp2
  have hB := hA
  exact bodyPost_ret (v := .tuple #[.agg #[.int .i64 x, .int .i64 y], .int .i64 _]) (by simp [results, Try.results80, go_sem, *]) rfl ⟨rfl, by (repeat' (first | (with_reducible exact hB) | (with_reducible refine Below.setCell ?_ ?_ _) | (with_reducible refine Below.alloc ?_ ?_ _))) <;> (first | omega | (simp <;> omega))⟩

set_option maxHeartbeats 1000000 in
theorem sub_good (a b c d : Int) (w : World) (h1 : vS a b = true) (h2 : vS c d = true) :
    Calls Try.prog 29 #[.agg #[.int .i64 a, .int .i64 b], .agg #[.int .i64 c, .int .i64 d]] w (RB w (mkV (a - d) (b - c))) := by
  have C := Lib.hid (fun B P Q w h p0 p1 q0 q1 => subr_good B P Q a b c d w h h1 h2 p0 p1 q0 q1)
  clear h1 h2
  have hv : (∃ x y e, mkV (a - d) (b - c) = .tuple #[.agg #[.int .i64 x, .int .i64 y], .int .i64 e]) := by
    unfold mkV; split
    · exact ⟨_, _, _, rfl⟩
    · exact ⟨_, _, _, rfl⟩
  obtain ⟨x, y, e, hv⟩ := hv
  rw [hv] at C ⊢
  clear hv
  go_enter Try.func29, Try.ntmps29
  go_wp2_with fail
  refine (C.out _ _ _ _ ⟨by simp [go_sem], by simp [go_sem], by simp [go_sem], by simp [go_sem]⟩ (by simp [go_sem]) (by simp [go_sem]) (by simp [go_sem]) (by simp [go_sem])).mono ?_
  rintro e w1 ⟨rfl, hb⟩
  have hA := kept_call hb (((((Below.refl w.heap.size w).alloc (Nat.le_refl _) _).alloc (by simp) _).alloc (by simp; omega) _).alloc (by simp; omega) _)
  obtain ⟨hc, hf⟩ := bcell hb
  have z1 := hb.size
  simp at z1
  have z2 : w.heap.size + 1 + 1 < w1.heap.size := by omega
  clear hb
  go_wp2
  have hB := hA
  exact bodyPost_ret (v := .tuple #[.agg #[.int .i64 x, .int .i64 y], .int .i64 _]) (by simp [results, Try.results29, go_sem, *]) rfl ⟨rfl, by (repeat' (first | (with_reducible exact hB) | (with_reducible refine Below.setCell ?_ ?_ _) | (with_reducible refine Below.alloc ?_ ?_ _))) <;> (first | omega | (simp <;> omega))⟩
end Go.Proofs.Ytfffhdcdkdaijaa
