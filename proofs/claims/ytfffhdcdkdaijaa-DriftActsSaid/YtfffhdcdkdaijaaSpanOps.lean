/- Walks: interval.Add, interval.Sub and the reference's; drift.Project, drift.Back. -/
import Derived.Test.YtfffhdcdkdaijaaNum
import Derived.Test.YtfffhdcdkdaijaaDrift
namespace Go.Proofs.Ytfffhdcdkdaijaa
open Go.RowKit

theorem notvalid_any (lo hi : Int) (w : World) : Calls Try.prog 100 #[.agg #[.int .i64 lo, .int .i64 hi]] w fun e w' => e = .returned (.bool (!vS lo hi)) ∧ Below w.heap.size w w' := by
  go_enter Try.func100, Try.ntmps100
  go_wp2_with (go_at_call 67; refine (svalid_any _ _ _).mono ?_; rintro e w1 ⟨rfl, rfl⟩)
  go_ret
  exact ⟨rfl, ((Below.refl _ _).alloc (Nat.le_refl _) _).alloc (by simp) _⟩
/-- Four cells: two spans. -/
def TwoAt (w : World) (B : Nat) (a b c d : Int) : Prop := w.cell? ⟨B, 0, none⟩ = some (.int .i64 a) ∧ w.cell? ⟨B, 1, none⟩ = some (.int .i64 b) ∧ w.cell? ⟨B, 2, none⟩ = some (.int .i64 c) ∧ w.cell? ⟨B, 3, none⟩ = some (.int .i64 d)
set_option maxHeartbeats 1000000 in
theorem idx_good (B : Nat) (a b c d : Int) (w : World) (h : TwoAt w B a b c d) (h1 : vS a b = true) (h2 : vS c d = true) :
    Calls Try.prog 116 #[.slice (some ⟨B, 0, none⟩) 2 2, .func (.func 100) #[] #[]] w fun e w' => e = .returned (.int .i64 (-1)) ∧ Below w.heap.size w w' := by
  have H := Lib.hid h; clear h
  go_enter Try.func116, Try.ntmps116
  go_wp2_with fail
  go_loopw [8] (fun i wr => ∃ q : Nat, q ≤ 2 ∧ i = .int .i64 q ∧ Below w.heap.size w wr) (fun i _ => (2 - intOf i).toNat)
  case atStart => exact ⟨0, by omega, rfl, Below.refl _ _⟩
  case round =>
    obtain ⟨q, hq, rfl, hbel⟩ := hrel
    obtain ⟨c0, c1, c2, c3⟩ := H.out
    replace c0 := (hbel.cell (p := ⟨B, 0, none⟩) (World.block_lt_of_cell? w _ c0)).trans c0
    replace c1 := (hbel.cell (p := ⟨B, 1, none⟩) (World.block_lt_of_cell? w _ c1)).trans c1
    replace c2 := (hbel.cell (p := ⟨B, 2, none⟩) (World.block_lt_of_cell? w _ c2)).trans c2
    replace c3 := (hbel.cell (p := ⟨B, 3, none⟩) (World.block_lt_of_cell? w _ c3)).trans c3
    by_cases q0 : q = 0
    · subst q0
      go_wp2_with fail
      refine (notvalid_any a b _).mono ?_
      rintro e w1 ⟨rfl, hb⟩
      go_wp2
      go_round
      case rel => exact ⟨1, by omega, by go_num, kept_call hb hbel⟩
      case measure => simp [intOf]
    · by_cases q1 : q = 1
      · subst q1
        clear q0
        go_wp2_with fail
        refine (notvalid_any c d _).mono ?_
        rintro e w1 ⟨rfl, hb⟩
        go_wp2
        go_round
        case rel => exact ⟨2, by omega, by go_num, kept_call hb hbel⟩
        case measure => simp [intOf]
      · obtain rfl : q = 2 := by omega
        clear q0 q1
        go_wp2
        go_ret
        exact ⟨rfl, hbel⟩
theorem cont_good (B : Nat) (a b c d : Int) (w : World) (h : TwoAt w B a b c d) (h1 : vS a b = true) (h2 : vS c d = true) :
    Calls Try.prog 99 #[.slice (some ⟨B, 0, none⟩) 2 2, .func (.func 100) #[] #[]] w fun e w' => e = .returned (.bool false) ∧ Below w.heap.size w w' := by
  have H := Lib.hid (idx_good B a b c d w h h1 h2); clear h
  go_enter Try.func99, Try.ntmps99
  go_wp2_with fail
  refine H.out.mono ?_
  rintro e w1 ⟨rfl, hb⟩
  go_wp2
  go_ret
  exact ⟨rfl, hb⟩
/-- A span that was made, or ErrRange. -/
def mkV (lo hi : Int) : Value := if vS lo hi then .tuple #[.agg #[.int .i64 lo, .int .i64 hi], .int .i64 0] else .tuple #[.agg #[.int .i64 0, .int .i64 0], .int .i64 4]
theorem mkV_ok {lo hi : Int} (h : vS lo hi = true) : mkV lo hi = .tuple #[.agg #[.int .i64 lo, .int .i64 hi], .int .i64 0] := by unfold mkV; rw [if_pos h]
theorem mkV_no {lo hi : Int} (h : vS lo hi = false) : mkV lo hi = .tuple #[.agg #[.int .i64 0, .int .i64 0], .int .i64 4] := by unfold mkV; rw [if_neg (by rw [h]; simp)]
/-! ### generated -/

theorem addf_any (P Q : Nat) (a b c d : Int) (w : World) (h1 : vS a b = true) (h2 : vS c d = true)
    (hp0 : w.cell? ⟨P, 0, none⟩ = some (.int .i64 a)) (hp1 : w.cell? ⟨P, 1, none⟩ = some (.int .i64 b)) (hq0 : w.cell? ⟨Q, 0, none⟩ = some (.int .i64 c)) (hq1 : w.cell? ⟨Q, 1, none⟩ = some (.int .i64 d)) :
    Calls Try.prog 105 #[.pointer (some ⟨P, 0, none⟩), .pointer (some ⟨Q, 0, none⟩)] w (RB w (.agg #[.int .i64 (a + c), .int .i64 (b + d)])) := by
  obtain ⟨x1, x2, x3⟩ := vS_true.1 h1
  obtain ⟨y1, y2, y3⟩ := vS_true.1 h2
  have z1 := World.block_lt_of_cell? w _ hp0
  have z2 := World.block_lt_of_cell? w _ hq0
  clear h1 h2
  go_enter Try.func105, Try.ntmps105
  go_wp2
  have hB := Below.refl w.heap.size w
  exact bodyPost_ret (v := .agg #[.int .i64 (a + c), .int .i64 (b + d)]) (by simp [results, Try.results105, go_sem, *]) rfl ⟨rfl, by (repeat' (first | (with_reducible exact hB) | (with_reducible refine Below.setCell ?_ ?_ _) | (with_reducible refine Below.alloc ?_ ?_ _) | (with_reducible refine Below.drew ?_) | (with_reducible refine below_drewN ?_ _))) <;> (first | omega | (simp <;> omega))⟩
set_option maxHeartbeats 1000000 in
theorem addr_good (B P Q : Nat) (a b c d : Int) (w : World) (h : TwoAt w B a b c d) (h1 : vS a b = true) (h2 : vS c d = true)
    (hp0 : w.cell? ⟨P, 0, none⟩ = some (.int .i64 a)) (hp1 : w.cell? ⟨P, 1, none⟩ = some (.int .i64 b)) (hq0 : w.cell? ⟨Q, 0, none⟩ = some (.int .i64 c)) (hq1 : w.cell? ⟨Q, 1, none⟩ = some (.int .i64 d)) :
    Calls Try.prog 65 #[.func (.func 105) #[] #[.pointer (some ⟨P, 0, none⟩), .pointer (some ⟨Q, 0, none⟩)], .slice (some ⟨B, 0, none⟩) 2 2] w (RB w (mkV (a + c) (b + d))) := by
  have H := Lib.hid h; clear h
  have k := fun w hp0 hp1 hq0 hq1 => addf_any P Q a b c d w h1 h2 hp0 hp1 hq0 hq1
  have K := Lib.hid k; clear k
  have C := Lib.hid (fun w h => cont_good B a b c d w h h1 h2)
  clear h1 h2
  have hE : mkV (a + c) (b + d) = mkV (a + c) (b + d) := rfl
  rcases hv : vS (a + c) (b + d)
  · rw [mkV_no hv]; clear hE
    generalize a + c = lo at *
    generalize b + d = hi at *
    go_enter Try.func65, Try.ntmps65
    go_wp2_with fail
    refine (C.out _ (by obtain ⟨k0, k1, k2, k3⟩ := H.out; refine ⟨?_, ?_, ?_, ?_⟩ <;> exact cell_below ((Below.refl _ _).alloc (Nat.le_refl _) _) (by assumption))).mono ?_
    rintro e w1 ⟨rfl, hb⟩
    obtain ⟨hc1, hf1⟩ := bcell hb
    have y1 := hb.size
    simp at y1
    have y2 : w.heap.size < w1.heap.size := by omega
    have hA : Below w.heap.size w w1 := kept_call hb ((Below.refl _ _).alloc (Nat.le_refl _) _)
    go_wp2_with fail
    refine (K.out _ (cell_below hA hp0) (cell_below hA hp1) (cell_below hA hq0) (cell_below hA hq1)).mono ?_
    rintro e w2 ⟨rfl, hb2⟩
    obtain ⟨hc2, hf2⟩ := bcell hb2
    have y3 := hb2.size
    have y4 : w.heap.size < w2.heap.size := by omega
    have hB := kept_call hb2 hA
    clear hb hb2 hA
    go_wp2_with fail
    refine (svalid_any _ _ _).mono ?_
    rintro e w3 ⟨rfl, rfl⟩
    rw [hv]
    go_wp2
    exact bodyPost_ret (v := .tuple #[.agg #[.int .i64 0, .int .i64 0], .int .i64 4]) (by simp [results, Try.results65, go_sem, *]) rfl ⟨rfl, by (repeat' (first | (with_reducible exact hB) | (with_reducible refine Below.setCell ?_ ?_ _) | (with_reducible refine Below.alloc ?_ ?_ _) | (with_reducible refine Below.drew ?_) | (with_reducible refine below_drewN ?_ _))) <;> (first | omega | (simp <;> omega))⟩
  · rw [mkV_ok hv]; clear hE
    generalize a + c = lo at *
    generalize b + d = hi at *
    go_enter Try.func65, Try.ntmps65
    go_wp2_with fail
    refine (C.out _ (by obtain ⟨k0, k1, k2, k3⟩ := H.out; refine ⟨?_, ?_, ?_, ?_⟩ <;> exact cell_below ((Below.refl _ _).alloc (Nat.le_refl _) _) (by assumption))).mono ?_
    rintro e w1 ⟨rfl, hb⟩
    obtain ⟨hc1, hf1⟩ := bcell hb
    have y1 := hb.size
    simp at y1
    have y2 : w.heap.size < w1.heap.size := by omega
    have hA : Below w.heap.size w w1 := kept_call hb ((Below.refl _ _).alloc (Nat.le_refl _) _)
    go_wp2_with fail
    refine (K.out _ (cell_below hA hp0) (cell_below hA hp1) (cell_below hA hq0) (cell_below hA hq1)).mono ?_
    rintro e w2 ⟨rfl, hb2⟩
    obtain ⟨hc2, hf2⟩ := bcell hb2
    have y3 := hb2.size
    have y4 : w.heap.size < w2.heap.size := by omega
    have hB := kept_call hb2 hA
    clear hb hb2 hA
    go_wp2_with fail
    refine (svalid_any _ _ _).mono ?_
    rintro e w3 ⟨rfl, rfl⟩
    rw [hv]
    go_wp2
    exact bodyPost_ret (v := .tuple #[.agg #[.int .i64 lo, .int .i64 hi], .int .i64 0]) (by simp [results, Try.results65, go_sem, *]) rfl ⟨rfl, by (repeat' (first | (with_reducible exact hB) | (with_reducible refine Below.setCell ?_ ?_ _) | (with_reducible refine Below.alloc ?_ ?_ _) | (with_reducible refine Below.drew ?_) | (with_reducible refine below_drewN ?_ _))) <;> (first | omega | (simp <;> omega))⟩

theorem subf_any (P Q : Nat) (a b c d : Int) (w : World) (h1 : vS a b = true) (h2 : vS c d = true)
    (hp0 : w.cell? ⟨P, 0, none⟩ = some (.int .i64 a)) (hp1 : w.cell? ⟨P, 1, none⟩ = some (.int .i64 b)) (hq0 : w.cell? ⟨Q, 0, none⟩ = some (.int .i64 c)) (hq1 : w.cell? ⟨Q, 1, none⟩ = some (.int .i64 d)) :
    Calls Try.prog 66 #[.pointer (some ⟨P, 0, none⟩), .pointer (some ⟨Q, 0, none⟩)] w (RB w (.agg #[.int .i64 (a - d), .int .i64 (b - c)])) := by
  obtain ⟨x1, x2, x3⟩ := vS_true.1 h1
  obtain ⟨y1, y2, y3⟩ := vS_true.1 h2
  have z1 := World.block_lt_of_cell? w _ hp0
  have z2 := World.block_lt_of_cell? w _ hq0
  clear h1 h2
  go_enter Try.func66, Try.ntmps66
  go_wp2
  have hB := Below.refl w.heap.size w
  exact bodyPost_ret (v := .agg #[.int .i64 (a - d), .int .i64 (b - c)]) (by simp [results, Try.results66, go_sem, *]) rfl ⟨rfl, by (repeat' (first | (with_reducible exact hB) | (with_reducible refine Below.setCell ?_ ?_ _) | (with_reducible refine Below.alloc ?_ ?_ _) | (with_reducible refine Below.drew ?_) | (with_reducible refine below_drewN ?_ _))) <;> (first | omega | (simp <;> omega))⟩
set_option maxHeartbeats 1000000 in
theorem subr_good (B P Q : Nat) (a b c d : Int) (w : World) (h : TwoAt w B a b c d) (h1 : vS a b = true) (h2 : vS c d = true)
    (hp0 : w.cell? ⟨P, 0, none⟩ = some (.int .i64 a)) (hp1 : w.cell? ⟨P, 1, none⟩ = some (.int .i64 b)) (hq0 : w.cell? ⟨Q, 0, none⟩ = some (.int .i64 c)) (hq1 : w.cell? ⟨Q, 1, none⟩ = some (.int .i64 d)) :
    Calls Try.prog 65 #[.func (.func 66) #[] #[.pointer (some ⟨P, 0, none⟩), .pointer (some ⟨Q, 0, none⟩)], .slice (some ⟨B, 0, none⟩) 2 2] w (RB w (mkV (a - d) (b - c))) := by
  have H := Lib.hid h; clear h
  have k := fun w hp0 hp1 hq0 hq1 => subf_any P Q a b c d w h1 h2 hp0 hp1 hq0 hq1
  have K := Lib.hid k; clear k
  have C := Lib.hid (fun w h => cont_good B a b c d w h h1 h2)
  clear h1 h2
  have hE : mkV (a - d) (b - c) = mkV (a - d) (b - c) := rfl
  rcases hv : vS (a - d) (b - c)
  · rw [mkV_no hv]; clear hE
    generalize a - d = lo at *
    generalize b - c = hi at *
    go_enter Try.func65, Try.ntmps65
    go_wp2_with fail
    refine (C.out _ (by obtain ⟨k0, k1, k2, k3⟩ := H.out; refine ⟨?_, ?_, ?_, ?_⟩ <;> exact cell_below ((Below.refl _ _).alloc (Nat.le_refl _) _) (by assumption))).mono ?_
    rintro e w1 ⟨rfl, hb⟩
    obtain ⟨hc1, hf1⟩ := bcell hb
    have y1 := hb.size
    simp at y1
    have y2 : w.heap.size < w1.heap.size := by omega
    have hA : Below w.heap.size w w1 := kept_call hb ((Below.refl _ _).alloc (Nat.le_refl _) _)
    go_wp2_with fail
    refine (K.out _ (cell_below hA hp0) (cell_below hA hp1) (cell_below hA hq0) (cell_below hA hq1)).mono ?_
    rintro e w2 ⟨rfl, hb2⟩
    obtain ⟨hc2, hf2⟩ := bcell hb2
    have y3 := hb2.size
    have y4 : w.heap.size < w2.heap.size := by omega
    have hB := kept_call hb2 hA
    clear hb hb2 hA
    go_wp2_with fail
    refine (svalid_any _ _ _).mono ?_
    rintro e w3 ⟨rfl, rfl⟩
    rw [hv]
    go_wp2
    exact bodyPost_ret (v := .tuple #[.agg #[.int .i64 0, .int .i64 0], .int .i64 4]) (by simp [results, Try.results65, go_sem, *]) rfl ⟨rfl, by (repeat' (first | (with_reducible exact hB) | (with_reducible refine Below.setCell ?_ ?_ _) | (with_reducible refine Below.alloc ?_ ?_ _) | (with_reducible refine Below.drew ?_) | (with_reducible refine below_drewN ?_ _))) <;> (first | omega | (simp <;> omega))⟩
  · rw [mkV_ok hv]; clear hE
    generalize a - d = lo at *
    generalize b - c = hi at *
    go_enter Try.func65, Try.ntmps65
    go_wp2_with fail
    refine (C.out _ (by obtain ⟨k0, k1, k2, k3⟩ := H.out; refine ⟨?_, ?_, ?_, ?_⟩ <;> exact cell_below ((Below.refl _ _).alloc (Nat.le_refl _) _) (by assumption))).mono ?_
    rintro e w1 ⟨rfl, hb⟩
    obtain ⟨hc1, hf1⟩ := bcell hb
    have y1 := hb.size
    simp at y1
    have y2 : w.heap.size < w1.heap.size := by omega
    have hA : Below w.heap.size w w1 := kept_call hb ((Below.refl _ _).alloc (Nat.le_refl _) _)
    go_wp2_with fail
    refine (K.out _ (cell_below hA hp0) (cell_below hA hp1) (cell_below hA hq0) (cell_below hA hq1)).mono ?_
    rintro e w2 ⟨rfl, hb2⟩
    obtain ⟨hc2, hf2⟩ := bcell hb2
    have y3 := hb2.size
    have y4 : w.heap.size < w2.heap.size := by omega
    have hB := kept_call hb2 hA
    clear hb hb2 hA
    go_wp2_with fail
    refine (svalid_any _ _ _).mono ?_
    rintro e w3 ⟨rfl, rfl⟩
    rw [hv]
    go_wp2
    exact bodyPost_ret (v := .tuple #[.agg #[.int .i64 lo, .int .i64 hi], .int .i64 0]) (by simp [results, Try.results65, go_sem, *]) rfl ⟨rfl, by (repeat' (first | (with_reducible exact hB) | (with_reducible refine Below.setCell ?_ ?_ _) | (with_reducible refine Below.alloc ?_ ?_ _) | (with_reducible refine Below.drew ?_) | (with_reducible refine below_drewN ?_ _))) <;> (first | omega | (simp <;> omega))⟩
end Go.Proofs.Ytfffhdcdkdaijaa
