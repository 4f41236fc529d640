/- Walks: drift.moved, drift.Project, drift.Back where the span and the advance are in range. -/
import Derived.Test.YtfffhdcdkdaijaaProject
namespace Go.Proofs.Ytfffhdcdkdaijaa
open Go.RowKit

set_option maxHeartbeats 1000000 in
theorem projm_any (P : Nat) (a b t p : Int) (w : World) (h1 : vS a b = true) (h2 : inD t p = true) (hp0 : w.cell? ⟨P, 0, none⟩ = some (.int .i64 a)) (hp1 : w.cell? ⟨P, 1, none⟩ = some (.int .i64 b)) :
    Calls Try.prog 78 #[.agg #[.int .i64 a, .int .i64 b], .int .i64 t, .int .i64 p, .func (.func 79) #[] #[.pointer (some ⟨P, 0, none⟩)]] w (RB w (mkV (a + elLo t p) (b + elHi t p))) := by
  obtain ⟨d0, d1, p0, p1⟩ := inD_true.1 h2
  have hs := el_span d0 p0 p1 d1
  have r := elapsed_any t p
  rw [outV_ok h2] at r
  have R := Lib.hid r; clear r
  have C := Lib.hid (fun w q0 q1 => projf_any P a b (elLo t p) (elHi t p) w h1 hs q0 q1)
  have hv : (∃ x y e, mkV (a + elLo t p) (b + elHi t p) = .tuple #[.agg #[.int .i64 x, .int .i64 y], .int .i64 e]) := by
    unfold mkV; split
    · exact ⟨_, _, _, rfl⟩
    · exact ⟨_, _, _, rfl⟩
  obtain ⟨x, y, e, hv⟩ := hv
  rw [hv] at C ⊢
  clear hv hs
  generalize elLo t p = lo at *
  generalize elHi t p = hi at *
  go_enter Try.func78, Try.ntmps78
  go_wp2_with (go_at_call 67; refine (svalid_any _ _ _).mono ?_; rintro e w1 ⟨rfl, rfl⟩)
  refine (R.out _).mono ?_
  rintro e w1 ⟨rfl, hb⟩
  have hA := kept_call hb ((((Below.refl w.heap.size w).alloc (Nat.le_refl _) _).alloc (by simp) _).alloc (by simp; omega) _)
  obtain ⟨hc, hf⟩ := bcell hb
  have z1 := hb.size
  simp at z1
  have z2 : w.heap.size + 1 < w1.heap.size := by omega
  have z3 : w.heap.size < w1.heap.size := by omega
  clear hb
  go_wp2_with fail
  refine (C.out _ (by first | exact cell_below hA hp0 | exact cell_below (hA.alloc hA.size _) hp0) (by first | exact cell_below hA hp1 | exact cell_below (hA.alloc hA.size _) hp1)).mono ?_
  rintro e w2 ⟨rfl, hb2⟩
  have hB : Below w.heap.size w w2 := by first | exact kept_call hb2 hA | exact kept_call hb2 (hA.alloc hA.size _)
  obtain ⟨hc2, hf2⟩ := bcell hb2
  have z4 := hb2.size
  simp at z4
  have z5 : w.heap.size + 1 < w2.heap.size := by omega
  have z6 : w.heap.size < w2.heap.size := by omega
  clear hb2
  go_wp2
  exact bodyPost_ret (v := .tuple #[.agg #[.int .i64 x, .int .i64 y], .int .i64 _]) (by simp [results, Try.results78, go_sem, *]) rfl ⟨rfl, by (repeat' (first | (with_reducible exact hB) | (with_reducible refine Below.setCell ?_ ?_ _) | (with_reducible refine Below.alloc ?_ ?_ _))) <;> (first | omega | (simp <;> omega))⟩

set_option maxHeartbeats 1000000 in
theorem backm_any (P : Nat) (a b t p : Int) (w : World) (h1 : vS a b = true) (h2 : inD t p = true) (hp0 : w.cell? ⟨P, 0, none⟩ = some (.int .i64 a)) (hp1 : w.cell? ⟨P, 1, none⟩ = some (.int .i64 b)) :
    Calls Try.prog 78 #[.agg #[.int .i64 a, .int .i64 b], .int .i64 t, .int .i64 p, .func (.func 81) #[] #[.pointer (some ⟨P, 0, none⟩)]] w (RB w (mkV (a - elHi t p) (b - elLo t p))) := by
  obtain ⟨d0, d1, p0, p1⟩ := inD_true.1 h2
  have hs := el_span d0 p0 p1 d1
  have r := elapsed_any t p
  rw [outV_ok h2] at r
  have R := Lib.hid r; clear r
  have C := Lib.hid (fun w q0 q1 => backf_any P a b (elLo t p) (elHi t p) w h1 hs q0 q1)
  have hv : (∃ x y e, mkV (a - elHi t p) (b - elLo t p) = .tuple #[.agg #[.int .i64 x, .int .i64 y], .int .i64 e]) := by
    unfold mkV; split
    · exact ⟨_, _, _, rfl⟩
    · exact ⟨_, _, _, rfl⟩
  obtain ⟨x, y, e, hv⟩ := hv
  rw [hv] at C ⊢
  clear hv hs
  generalize elLo t p = lo at *
  generalize elHi t p = hi at *
  go_enter Try.func78, Try.ntmps78
  go_wp2_with (go_at_call 67; refine (svalid_any _ _ _).mono ?_; rintro e w1 ⟨rfl, rfl⟩)
  refine (R.out _).mono ?_
  rintro e w1 ⟨rfl, hb⟩
  have hA := kept_call hb ((((Below.refl w.heap.size w).alloc (Nat.le_refl _) _).alloc (by simp) _).alloc (by simp; omega) _)
  obtain ⟨hc, hf⟩ := bcell hb
  have z1 := hb.size
  simp at z1
  have z2 : w.heap.size + 1 < w1.heap.size := by omega
  have z3 : w.heap.size < w1.heap.size := by omega
  clear hb
  go_wp2_with fail
  refine (C.out _ (by first | exact cell_below hA hp0 | exact cell_below (hA.alloc hA.size _) hp0) (by first | exact cell_below hA hp1 | exact cell_below (hA.alloc hA.size _) hp1)).mono ?_
  rintro e w2 ⟨rfl, hb2⟩
  have hB : Below w.heap.size w w2 := by first | exact kept_call hb2 hA | exact kept_call hb2 (hA.alloc hA.size _)
  obtain ⟨hc2, hf2⟩ := bcell hb2
  have z4 := hb2.size
  simp at z4
  have z5 : w.heap.size + 1 < w2.heap.size := by omega
  have z6 : w.heap.size < w2.heap.size := by omega
  clear hb2
  go_wp2
  exact bodyPost_ret (v := .tuple #[.agg #[.int .i64 x, .int .i64 y], .int .i64 _]) (by simp [results, Try.results78, go_sem, *]) rfl ⟨rfl, by (repeat' (first | (with_reducible exact hB) | (with_reducible refine Below.setCell ?_ ?_ _) | (with_reducible refine Below.alloc ?_ ?_ _))) <;> (first | omega | (simp <;> omega))⟩
end Go.Proofs.Ytfffhdcdkdaijaa
