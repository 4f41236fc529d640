/- Walks: drift.Project, drift.Back where the span and the advance are in range. -/
import Derived.Test.YtfffhdcdkdaijaaSpanAdd
import Derived.Test.YtfffhdcdkdaijaaElPlain
namespace Go.Proofs.Ytfffhdcdkdaijaa
open Go.RowKit

set_option maxHeartbeats 1000000 in
theorem projf_any (P : Nat) (a b c d : Int) (w : World) (h1 : vS a b = true) (h2 : vS c d = true) (hp0 : w.cell? ⟨P, 0, none⟩ = some (.int .i64 a)) (hp1 : w.cell? ⟨P, 1, none⟩ = some (.int .i64 b)) :
    Calls Try.prog 79 #[.agg #[.int .i64 c, .int .i64 d], .pointer (some ⟨P, 0, none⟩)] w (RB w (mkV (a + c) (b + d))) := by
  have C := Lib.hid (fun w => add_good a b c d w h1 h2)
  have z0 := World.block_lt_of_cell? w _ hp0
  clear h1 h2
  have hv : (∃ x y e, mkV (a + c) (b + d) = .tuple #[.agg #[.int .i64 x, .int .i64 y], .int .i64 e]) := by
    unfold mkV; split
    · exact ⟨_, _, _, rfl⟩
    · exact ⟨_, _, _, rfl⟩
  obtain ⟨x, y, e, hv⟩ := hv
  rw [hv] at C ⊢
  clear hv
  go_enter Try.func79, Try.ntmps79
  go_wp2_with fail
  refine (C.out _).mono ?_
  rintro e w1 ⟨rfl, hb⟩
  have hB := kept_call hb (((Below.refl w.heap.size w).alloc (Nat.le_refl _) _).alloc (by simp) _)
  obtain ⟨hc, hf⟩ := bcell hb
  have z1 := hb.size
  simp at z1
  have z2 : w.heap.size + 1 < w1.heap.size := by omega
  have z3 : w.heap.size < w1.heap.size := by omega
  clear hb
  go_wp2
  exact bodyPost_ret (v := .tuple #[.agg #[.int .i64 x, .int .i64 y], .int .i64 _]) (by simp [results, Try.results79, go_sem, *]) rfl ⟨rfl, by (repeat' (first | (with_reducible exact hB) | (with_reducible refine Below.setCell ?_ ?_ _) | (with_reducible refine Below.alloc ?_ ?_ _))) <;> (first | omega | (simp <;> omega))⟩

set_option maxHeartbeats 1000000 in
theorem backf_any (P : Nat) (a b c d : Int) (w : World) (h1 : vS a b = true) (h2 : vS c d = true) (hp0 : w.cell? ⟨P, 0, none⟩ = some (.int .i64 a)) (hp1 : w.cell? ⟨P, 1, none⟩ = some (.int .i64 b)) :
    Calls Try.prog 81 #[.agg #[.int .i64 c, .int .i64 d], .pointer (some ⟨P, 0, none⟩)] w (RB w (mkV (a - d) (b - c))) := by
  have C := Lib.hid (fun w => sub_good a b c d w h1 h2)
  have z0 := World.block_lt_of_cell? w _ hp0
  clear h1 h2
  have hv : (∃ x y e, mkV (a - d) (b - c) = .tuple #[.agg #[.int .i64 x, .int .i64 y], .int .i64 e]) := by
    unfold mkV; split
    · exact ⟨_, _, _, rfl⟩
    · exact ⟨_, _, _, rfl⟩
  obtain ⟨x, y, e, hv⟩ := hv
  rw [hv] at C ⊢
  clear hv
  go_enter Try.func81, Try.ntmps81
  go_wp2_with fail
  refine (C.out _).mono ?_
  rintro e w1 ⟨rfl, hb⟩
  have hB := kept_call hb (((Below.refl w.heap.size w).alloc (Nat.le_refl _) _).alloc (by simp) _)
  obtain ⟨hc, hf⟩ := bcell hb
  have z1 := hb.size
  simp at z1
  have z2 : w.heap.size + 1 < w1.heap.size := by omega
  have z3 : w.heap.size < w1.heap.size := by omega
  clear hb
  go_wp2
  exact bodyPost_ret (v := .tuple #[.agg #[.int .i64 x, .int .i64 y], .int .i64 _]) (by simp [results, Try.results81, go_sem, *]) rfl ⟨rfl, by (repeat' (first | (with_reducible exact hB) | (with_reducible refine Below.setCell ?_ ?_ _) | (with_reducible refine Below.alloc ?_ ?_ _))) <;> (first | omega | (simp <;> omega))⟩
end Go.Proofs.Ytfffhdcdkdaijaa
