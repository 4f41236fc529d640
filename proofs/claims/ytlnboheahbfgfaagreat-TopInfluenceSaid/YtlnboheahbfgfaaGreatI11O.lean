/- Contracts: interval.Hull, Add, Sub, Shift, Grow, for every input. -/
import Derived.Test.YtlnboheahbfgfaaGreatJ22
namespace Go.Proofs.YtlnboheahbfgfaaGreat
open Go.RowKit

theorem badS_two (a b c d : Int) : badS [(a, b), (c, d)] = !(vS a b && vS c d) := by simp [badS, anyS]
theorem spansAt_two {w : World} {g : Nat} {a b c d : Int} {t : TypeId} (h : Blk w g t #[.int .i64 a, .int .i64 b, .int .i64 c, .int .i64 d]) : SpansAt w (some ⟨g, 0, none⟩) 2 [(a, b), (c, d)] := by
  refine ⟨rfl, by omega, fun _ => ⟨g, 0, rfl, h.lt, fun j hj => ?_⟩⟩
  obtain rfl | rfl : j = 0 ∨ j = 1 := by omega
  · exact ⟨by rw [h.cell]; rfl, by rw [h.cell]; rfl⟩
  · exact ⟨by rw [h.cell]; rfl, by rw [h.cell]; rfl⟩
/-- What stands beneath a call that only adds blocks. -/
theorem Blk.under {w w' : World} {g : Nat} {t : TypeId} {cs : Array Value} (h : Blk w g t cs) (hb : Below w.heap.size w w') : Blk w' g t cs := Blk.keep hb h

set_option maxHeartbeats 1000000 in
theorem iadd_f (P Q : Nat) (a b c d : Int) (h1 : vS a b = true) (h2 : vS c d = true) (w : World) (hp : Blk w P 29 #[.int .i64 a, .int .i64 b]) (hq : Blk w Q 29 #[.int .i64 c, .int .i64 d]) :
    Calls Tryz.prog 147 #[.pointer (some ⟨P, 0, none⟩), .pointer (some ⟨Q, 0, none⟩)] w (RB w (.agg #[.int .i64 (a + c), .int .i64 (b + d)])) := by
  obtain ⟨x1, x2, x3⟩ := vS_true.1 h1
  obtain ⟨y1, y2, y3⟩ := vS_true.1 h2
  clear h1 h2
  obtain ⟨cp, fp, lp, ep, kp⟩ := Blk.facts hp
  obtain ⟨cq, fq, lq, eq, kq⟩ := Blk.facts hq
  go_enter Tryz.func147, Tryz.ntmps147
  go_wp2
  exact bodyPost_ret (v := .agg #[.int .i64 (a + c), .int .i64 (b + d)]) (by simp [results, Tryz.results147, go_sem, *]) rfl ⟨rfl, by (repeat' (first | (with_reducible exact Below.refl _ _) | (with_reducible refine Below.setCell ?_ ?_ _) | (with_reducible refine Below.alloc ?_ ?_ _) | (with_reducible refine Below.drew ?_) | (with_reducible refine below_drewN ?_ _))) <;> (first | omega | (simp <;> omega))⟩
set_option maxHeartbeats 3000000 in
theorem iadd_all (a b c d : Int) (w : World) :
    Calls Tryz.prog 124 #[.agg #[.int .i64 a, .int .i64 b], .agg #[.int .i64 c, .int .i64 d]] w (RB w (opV (vS a b && vS c d) true (a + c) (b + d))) := by
  rcases h : vS a b && vS c d
  · rw [opV_3]
    have R := Lib.hid (fun f w g (q : Blk w g 29 #[.int .i64 a, .int .i64 b, .int .i64 c, .int .i64 d]) => result_bad f (some ⟨g, 0, none⟩) 2 2 [(a, b), (c, d)] (by rw [badS_two, h]; rfl) w (spansAt_two q))
    go_enter Tryz.func124, Tryz.ntmps124
    go_wp2_with fail
    refine (R.out _ _ _ (by (repeat' (first | ((with_reducible refine' Blk.newE ?_); first | rfl | (simp; done)) | (with_reducible refine' Blk.alloc ?_ _) | (with_reducible refine' Blk.drew ?_) | (with_reducible refine' Blk.drewN ?_ _) | (with_reducible refine' Blk.put ?_ ?_) | (with_reducible refine' Blk.far ?_ ?_ _) | exact rfl)) <;> (first | omega | (simp <;> omega)))).mono ?_
    rintro e w1 ⟨rfl, hb1⟩
    have K1 : Below w.heap.size w w1 := kept_call hb1 (by (repeat' (first | (with_reducible exact Below.refl _ _) | (with_reducible refine Below.setCell ?_ ?_ _) | (with_reducible refine Below.alloc ?_ ?_ _) | (with_reducible refine Below.drew ?_) | (with_reducible refine below_drewN ?_ _))) <;> (first | omega | (simp <;> omega)))
    have Z1 : w.heap.size ≤ w1.heap.size := K1.size
    have b1_2 := Blk.keep (g := w.heap.size + 2) hb1 (by (repeat' (first | ((with_reducible refine' Blk.newE ?_); first | rfl | (simp; done)) | (with_reducible refine' Blk.alloc ?_ _) | (with_reducible refine' Blk.drew ?_) | (with_reducible refine' Blk.drewN ?_ _) | (with_reducible refine' Blk.put ?_ ?_) | (with_reducible refine' Blk.far ?_ ?_ _) | exact rfl)) <;> (first | omega | (simp <;> omega)))
    (try simp only [List.setIfInBounds_toArray, List.set_cons_zero, List.set_cons_succ] at b1_2)
    clear hb1
    obtain ⟨c1_2, f1_2, l1_2, e1_2, k1_2⟩ := Blk.facts b1_2
    go_wp2
    exact bodyPost_ret (v := .tuple #[.agg #[.int .i64 0, .int .i64 0], .int .i64 3]) (by simp [results, Tryz.results124, go_sem, *]) rfl ⟨rfl, by (repeat' (first | (with_reducible exact K1) | (with_reducible refine Below.setCell ?_ ?_ _) | (with_reducible refine Below.alloc ?_ ?_ _) | (with_reducible refine Below.drew ?_) | (with_reducible refine below_drewN ?_ _))) <;> (first | omega | (simp <;> omega))⟩
  · have hh := h
    rw [Bool.and_eq_true] at hh
    rw [opV_ok]
    obtain ⟨x, y, e, hv⟩ := mkS_form (a + c) (b + d)
    have R := Lib.hid (fun P Q w g (q : Blk w g 29 #[.int .i64 a, .int .i64 b, .int .i64 c, .int .i64 d]) (p : Blk w P 29 #[.int .i64 a, .int .i64 b]) (r : Blk w Q 29 #[.int .i64 c, .int .i64 d]) => result_ok 147 (enters_of Tryz.func147 (by kernel_rfl) rfl) #[.pointer (some ⟨P, 0, none⟩), .pointer (some ⟨Q, 0, none⟩)] (a + c) (b + d) (some ⟨g, 0, none⟩) 2 2 [(a, b), (c, d)] (by rw [badS_two, h]; rfl) w (spansAt_two q) (fun w' hb => iadd_f P Q a b c d hh.1 hh.2 w' (Blk.keep hb p) (Blk.keep hb r)))
    rw [hv] at R ⊢
    clear hv h hh
    go_enter Tryz.func124, Tryz.ntmps124
    go_wp2_with fail
    refine (R.out _ _ _ _ (by (repeat' (first | ((with_reducible refine' Blk.newE ?_); first | rfl | (simp; done)) | (with_reducible refine' Blk.alloc ?_ _) | (with_reducible refine' Blk.drew ?_) | (with_reducible refine' Blk.drewN ?_ _) | (with_reducible refine' Blk.put ?_ ?_) | (with_reducible refine' Blk.far ?_ ?_ _) | exact rfl)) <;> (first | omega | (simp <;> omega))) (by (repeat' (first | ((with_reducible refine' Blk.newE ?_); first | rfl | (simp; done)) | (with_reducible refine' Blk.alloc ?_ _) | (with_reducible refine' Blk.drew ?_) | (with_reducible refine' Blk.drewN ?_ _) | (with_reducible refine' Blk.put ?_ ?_) | (with_reducible refine' Blk.far ?_ ?_ _) | exact rfl)) <;> (first | omega | (simp <;> omega))) (by (repeat' (first | ((with_reducible refine' Blk.newE ?_); first | rfl | (simp; done)) | (with_reducible refine' Blk.alloc ?_ _) | (with_reducible refine' Blk.drew ?_) | (with_reducible refine' Blk.drewN ?_ _) | (with_reducible refine' Blk.put ?_ ?_) | (with_reducible refine' Blk.far ?_ ?_ _) | exact rfl)) <;> (first | omega | (simp <;> omega)))).mono ?_
    rintro e w1 ⟨rfl, hb1⟩
    have K1 : Below w.heap.size w w1 := kept_call hb1 (by (repeat' (first | (with_reducible exact Below.refl _ _) | (with_reducible refine Below.setCell ?_ ?_ _) | (with_reducible refine Below.alloc ?_ ?_ _) | (with_reducible refine Below.drew ?_) | (with_reducible refine below_drewN ?_ _))) <;> (first | omega | (simp <;> omega)))
    have Z1 : w.heap.size ≤ w1.heap.size := K1.size
    have b1_2 := Blk.keep (g := w.heap.size + 2) hb1 (by (repeat' (first | ((with_reducible refine' Blk.newE ?_); first | rfl | (simp; done)) | (with_reducible refine' Blk.alloc ?_ _) | (with_reducible refine' Blk.drew ?_) | (with_reducible refine' Blk.drewN ?_ _) | (with_reducible refine' Blk.put ?_ ?_) | (with_reducible refine' Blk.far ?_ ?_ _) | exact rfl)) <;> (first | omega | (simp <;> omega)))
    (try simp only [List.setIfInBounds_toArray, List.set_cons_zero, List.set_cons_succ] at b1_2)
    clear hb1
    obtain ⟨c1_2, f1_2, l1_2, e1_2, k1_2⟩ := Blk.facts b1_2
    go_wp2
    exact bodyPost_ret (v := .tuple #[.agg #[.int .i64 x, .int .i64 y], .int .i64 e]) (by simp [results, Tryz.results124, go_sem, *]) rfl ⟨rfl, by (repeat' (first | (with_reducible exact K1) | (with_reducible refine Below.setCell ?_ ?_ _) | (with_reducible refine Below.alloc ?_ ?_ _) | (with_reducible refine Below.drew ?_) | (with_reducible refine below_drewN ?_ _))) <;> (first | omega | (simp <;> omega))⟩
end Go.Proofs.YtlnboheahbfgfaaGreat
