/- Windows of a table: smear.old, smear.window and the reference's. -/
import Derived.Test.YtmebkbnildjfhaaLeapV
import Derived.Test.YtmebkbnildjfhaaCalmP
import Derived.Deep.DeepCutAuto
namespace Go.Proofs.Ytmebkbnildjfhaa
open Go.RowKit
set_option linter.unusedSimpArgs false
set_option linter.unusedVariables false

set_option maxRecDepth 100000 in
set_option maxHeartbeats 1000000 in
theorem old_any (first : Int) (A : Option Addr) (len cap : Nat) (zs : List (Int × Int)) (i : Nat) (hi : i < len) (w : World) (h : PrAt w A len zs) :
    Calls Try.prog 77 #[.agg #[.int .i64 first, .slice A len cap], .int .i64 (i : Int)] w (RB w (.int .i64 (oldL first zs i))) := by
  obtain ⟨hzl, hlm, hA⟩ := h
  obtain ⟨bl, off, rfl, hb, hcs⟩ := hA (by omega)
  by_cases h0 : i = 0
  · rw [show oldL first zs i = first by simp [oldL, h0]]
    have g0 : decide ((i : Int) = 0) = true := decide_eq_true (by omega)
    have g0n : decide (i = 0) = true := decide_eq_true h0
    have gb : ((i : Int) == 0) = true := by simp; omega
    clear h0 hcs
    go_enter Try.func77, Try.ntmps77
    go_wp2
    go_ret
    exact ⟨rfl, by (repeat' (first | (with_reducible exact Below.refl _ _) | (with_reducible refine Below.setCell ?_ ?_ _) | (with_reducible refine Below.alloc ?_ ?_ _) | (with_reducible refine Below.drew ?_) | (with_reducible refine below_drewN ?_ _))) <;> (first | omega | (simp <;> omega))⟩
  · rw [show oldL first zs i = (zs.getD (i - 1) (0, 0)).2 by simp [oldL, h0]]
    have g0 : decide ((i : Int) = 0) = false := decide_eq_false (by omega)
    have g0n : decide (i = 0) = false := decide_eq_false h0
    have gb : ((i : Int) == 0) = false := by simp; omega
    have e1 := (hcs (i - 1) (by omega)).2
    have wi : IntKind.i64.wrap ((i : Int) - 1) = ((i - 1 : Nat) : Int) := by rw [IntWalk.i64_in _ (by omega)]; omega
    have hi1 : i - 1 < len := by omega
    generalize (zs.getD (i - 1) (0, 0)).2 = y at *
    clear hcs
    go_enter Try.func77, Try.ntmps77
    go_wp2
    go_ret
    exact ⟨rfl, by (repeat' (first | (with_reducible exact Below.refl _ _) | (with_reducible refine Below.setCell ?_ ?_ _) | (with_reducible refine Below.alloc ?_ ?_ _) | (with_reducible refine Below.drew ?_) | (with_reducible refine below_drewN ?_ _))) <;> (first | omega | (simp <;> omega))⟩
set_option maxRecDepth 100000 in
set_option maxHeartbeats 1000000 in
theorem rold_any (first : Int) (A : Option Addr) (len cap : Nat) (zs : List (Int × Int)) (i : Nat) (hi : i < len) (w : World) (h : PrAt w A len zs) :
    Calls Try.prog 97 #[.agg #[.int .i64 first, .slice A len cap], .int .i64 (i : Int)] w (RB w (.int .i64 (oldL first zs i))) := by
  obtain ⟨hzl, hlm, hA⟩ := h
  obtain ⟨bl, off, rfl, hb, hcs⟩ := hA (by omega)
  by_cases h0 : i = 0
  · rw [show oldL first zs i = first by simp [oldL, h0]]
    have g0 : decide ((i : Int) = 0) = true := decide_eq_true (by omega)
    have g0n : decide (i = 0) = true := decide_eq_true h0
    have gb : ((i : Int) == 0) = true := by simp; omega
    clear h0 hcs
    go_enter Try.func97, Try.ntmps97
    go_wp2
    go_ret
    exact ⟨rfl, by (repeat' (first | (with_reducible exact Below.refl _ _) | (with_reducible refine Below.setCell ?_ ?_ _) | (with_reducible refine Below.alloc ?_ ?_ _) | (with_reducible refine Below.drew ?_) | (with_reducible refine below_drewN ?_ _))) <;> (first | omega | (simp <;> omega))⟩
  · rw [show oldL first zs i = (zs.getD (i - 1) (0, 0)).2 by simp [oldL, h0]]
    have g0 : decide ((i : Int) = 0) = false := decide_eq_false (by omega)
    have g0n : decide (i = 0) = false := decide_eq_false h0
    have gb : ((i : Int) == 0) = false := by simp; omega
    have e1 := (hcs (i - 1) (by omega)).2
    have wi : IntKind.i64.wrap ((i : Int) - 1) = ((i - 1 : Nat) : Int) := by rw [IntWalk.i64_in _ (by omega)]; omega
    have hi1 : i - 1 < len := by omega
    generalize (zs.getD (i - 1) (0, 0)).2 = y at *
    clear hcs
    go_enter Try.func97, Try.ntmps97
    go_wp2
    go_ret
    exact ⟨rfl, by (repeat' (first | (with_reducible exact Below.refl _ _) | (with_reducible refine Below.setCell ?_ ?_ _) | (with_reducible refine Below.alloc ?_ ?_ _) | (with_reducible refine Below.drew ?_) | (with_reducible refine below_drewN ?_ _))) <;> (first | omega | (simp <;> omega))⟩
set_option maxRecDepth 100000 in
set_option maxHeartbeats 1000000 in
theorem window_any (first : Int) (A : Option Addr) (len cap : Nat) (zs : List (Int × Int)) (i : Nat) (hi : i < len) (hv : LVal first zs) (w : World) (h : PrAt w A len zs) :
    Calls Try.prog 60 #[.agg #[.int .i64 first, .slice A len cap], .int .i64 (i : Int)] w (RB w (.tuple #[.agg #[.int .i64 (wsLo zs i), .int .i64 (wsHi zs i)], .agg #[.int .i64 (wiLo first zs i), .int .i64 (wiHi zs i)]])) := by
  have HO := Lib.hid (fun W (hW : Below w.heap.size w W) => old_any first A len cap zs i hi W (h.below hW))
  obtain ⟨hzl, hlm, hA⟩ := h
  obtain ⟨a1, a2, a3, a4, -⟩ := hv.at_ (i := i) (by omega)
  obtain ⟨b1, b2⟩ := hv.off (i := i) (by omega)
  clear hv
  obtain ⟨bl, off, rfl, hb, hcs⟩ := hA (by omega)
  obtain ⟨e0, e1⟩ := hcs i hi
  clear hcs
  have hbk : ∀ k, bl < w.heap.size + k := fun k => by omega
  have n0 : bl ≠ w.heap.size := by omega
  have n1 : bl ≠ w.heap.size + 1 := by omega
  have n2 : bl ≠ w.heap.size + 1 + 1 := by omega
  have n3 : bl ≠ w.heap.size + 2 := by omega
  have n4 : bl ≠ w.heap.size + 3 := by omega
  have n5 : bl < w.heap.size + 1 := by omega
  have n6 : bl < w.heap.size + 1 + 1 := by omega
  unfold wiLo wiHi wsLo wsHi
  generalize zs.getD i (0, 0) = z at *
  obtain ⟨x, y⟩ := z
  dsimp only at *
  generalize oldL first zs i = ov at *
  have w1 : IntKind.i64.wrap (x - 43200) = x - 43200 := IntWalk.i64_in _ (by omega)
  have w2 : IntKind.i64.wrap (x + 43200) = x + 43200 := IntWalk.i64_in _ (by omega)
  obtain ⟨p, hp⟩ : ∃ p, p = x - 43200 := ⟨_, rfl⟩
  obtain ⟨q, hq⟩ : ∃ q, q = x + 43200 := ⟨_, rfl⟩
  rw [← hp, ← hq]
  rw [← hp] at w1
  rw [← hq] at w2
  have w3 : IntKind.i64.wrap (p * 1048576) = p * 1048576 := IntWalk.i64_in _ (by omega)
  have w4 : IntKind.i64.wrap (q * 1048576) = q * 1048576 := IntWalk.i64_in _ (by omega)
  have w5 : IntKind.i64.wrap (ov * 1048576) = ov * 1048576 := IntWalk.i64_in _ (by omega)
  have w6 : IntKind.i64.wrap (y * 1048576) = y * 1048576 := IntWalk.i64_in _ (by omega)
  have w7 : IntKind.i64.wrap (p * 1048576 + ov * 1048576) = p * 1048576 + ov * 1048576 := IntWalk.i64_in _ (by omega)
  have w8 : IntKind.i64.wrap (q * 1048576 + y * 1048576) = q * 1048576 + y * 1048576 := IntWalk.i64_in _ (by omega)
  have v1 : IntKind.i64.wrap (x - 43200) = p := by rw [IntWalk.i64_in _ (by omega)]; exact hp.symm
  have v2 : IntKind.i64.wrap (x + 43200) = q := by rw [IntWalk.i64_in _ (by omega)]; exact hq.symm
  clear w1 w2
  have HS := Lib.hid (And.intro hp hq); clear hp hq
  go_enter Try.func60, Try.ntmps60
  go_wp2_with fail
  refine' wp_region_calm (by kernel_rfl) (fun n _ w' => Below w.heap.size w w' ∧ Blk w' (w.heap.size) 25 #[.int .i64 first, .slice (some ⟨bl, off, none⟩) len cap] ∧ Blk w' (w.heap.size + 1) 42 #[.int .i64 (p * 1048576), .int .i64 (q * 1048576)] ∧ Blk w' (w.heap.size + 3) 67 #[.int .i64 (x), .int .i64 (y)] ∧ (n = 0 → Blk w' (w.heap.size + 2) 42 #[.int .i64 (0), .int .i64 (0)]) ∧ (n = 1 → Blk w' (w.heap.size + 2) 42 #[.int .i64 (p * 1048576 + ov * 1048576), .int .i64 (q * 1048576 + y * 1048576)])) (fun _ _ => True) [(Is _), (Is _), (Is _), (Is _), (Is _), (Is _), (Is _), (Is _), (Is _), (Is _), (Is _), (Is _), (Is _), (Is _), (Is _), (fun _ _ _ => True), (fun _ _ _ => True)] [[], [], [1], [], [], [3, 4], [5], [2, 6], [], [8], [], [10], [11], [9, 12], [7, 13], [0], [14]] [16] [] rfl (by kernel_rfl) (fun u => by (simp only [calmPut, Act.put, List.setIfInBounds_toArray, List.set_cons_zero, List.set_cons_succ, Nat.zero_add, Nat.reduceAdd]; rfl)) ?_ (calmKeep_cons keep_is' (calmKeep_cons keep_is' (calmKeep_cons keep_is' (calmKeep_cons keep_is' (calmKeep_cons keep_is' (calmKeep_cons keep_is' (calmKeep_cons keep_is' (calmKeep_cons keep_is' (calmKeep_cons keep_is' (calmKeep_cons keep_is' (calmKeep_cons keep_is' (calmKeep_cons keep_is' (calmKeep_cons keep_is' (calmKeep_cons keep_is' (calmKeep_cons keep_is' (calmKeep_cons keep_triv (calmKeep_cons keep_triv (calmKeep_nil)))))))))))))))))) ?_ ?_
  · intro _
    refine ⟨?_, ?_, ?_, ?_, fun _ => ?_, fun h => absurd h (by decide)⟩
    exact (by (repeat' (first | (with_reducible exact Below.refl _ _) | (with_reducible refine Below.setCell ?_ ?_ _) | (with_reducible refine Below.alloc ?_ ?_ _) | (with_reducible refine Below.drew ?_) | (with_reducible refine below_drewN ?_ _))) <;> (first | omega | (simp <;> omega)))
    exact (by (repeat' (first | ((with_reducible refine' Blk.newE ?_); first | rfl | (simp; done)) | (with_reducible refine' Blk.alloc ?_ _) | (with_reducible refine' Blk.drew ?_) | (with_reducible refine' Blk.drewN ?_ _) | (with_reducible refine' Blk.put ?_ ?_) | (with_reducible refine' Blk.far ?_ ?_ _) | exact rfl)) <;> (first | omega | (simp <;> omega)))
    exact (by (repeat' (first | ((with_reducible refine' Blk.newE ?_); first | rfl | (simp; done)) | (with_reducible refine' Blk.alloc ?_ _) | (with_reducible refine' Blk.drew ?_) | (with_reducible refine' Blk.drewN ?_ _) | (with_reducible refine' Blk.put ?_ ?_) | (with_reducible refine' Blk.far ?_ ?_ _) | exact rfl)) <;> (first | omega | (simp <;> omega)))
    exact (by (repeat' (first | ((with_reducible refine' Blk.newE ?_); first | rfl | (simp; done)) | (with_reducible refine' Blk.alloc ?_ _) | (with_reducible refine' Blk.drew ?_) | (with_reducible refine' Blk.drewN ?_ _) | (with_reducible refine' Blk.put ?_ ?_) | (with_reducible refine' Blk.far ?_ ?_ _) | exact rfl)) <;> (first | omega | (simp <;> omega)))
    exact (by (repeat' (first | ((with_reducible refine' Blk.newE ?_); first | rfl | (simp; done)) | (with_reducible refine' Blk.alloc ?_ _) | (with_reducible refine' Blk.drew ?_) | (with_reducible refine' Blk.drewN ?_ _) | (with_reducible refine' Blk.put ?_ ?_) | (with_reducible refine' Blk.far ?_ ?_ _) | exact rfl)) <;> (first | omega | (simp <;> omega)))
  rotate_left 15
  · skip
    refine calmSteps_cons (fun u wq n hn hn2 hC hk K hK => ?_) ?_
    · obtain ⟨hP, m0, m1, m3, v20, v21⟩ := hC
      clear hk
      have z0 := m0.cell
      have z1 := m1.cell
      have z3 := m3.cell
      go_simp
      exact hK _ _ _ rfl ⟨hP, m0, m1, m3, (fun h => (v20 h)), (fun h => (v21 h))⟩ trivial rfl
    refine calmSteps_cons (fun u wq n hn hn2 hC hk K hK => ?_) ?_
    · obtain ⟨hP, m0, m1, m3, v20, v21⟩ := hC
      clear hk
      go_simp
      exact hK _ _ _ rfl ⟨hP, m0, m1, m3, (fun h => (v20 h)), (fun h => (v21 h))⟩ trivial rfl
    refine calmSteps_cons (fun u wq n hn hn2 hC hk K hK => ?_) ?_
    · obtain ⟨hP, m0, m1, m3, v20, v21⟩ := hC
      simp only [calmKnown, List.getElem?_cons_zero, List.getElem?_cons_succ, and_true, Is, Pure, Option.some.injEq, List.getD_cons_zero, List.getD_cons_succ, List.map_cons, List.map_nil] at hk
      have h1 := hk; clear hk
      simp only [h1] at hK ⊢
      have H1 := Lib.hid h1; clear h1
      have z0 := m0.cell
      have z1 := m1.cell
      have z3 := m3.cell
      go_simp
      exact hK _ _ _ rfl ⟨hP, m0, m1, m3, (fun h => (v20 h)), (fun h => (v21 h))⟩ trivial rfl
    refine calmSteps_cons (fun u wq n hn hn2 hC hk K hK => ?_) ?_
    · obtain ⟨hP, m0, m1, m3, v20, v21⟩ := hC
      clear hk
      have z0 := m0.cell
      have z1 := m1.cell
      have z3 := m3.cell
      go_simp
      exact hK _ _ _ rfl ⟨hP, m0, m1, m3, (fun h => (v20 h)), (fun h => (v21 h))⟩ trivial rfl
    refine calmSteps_cons (fun u wq n hn hn2 hC hk K hK => ?_) ?_
    · obtain ⟨hP, m0, m1, m3, v20, v21⟩ := hC
      clear hk
      go_simp
      exact hK _ _ _ rfl ⟨hP, m0, m1, m3, (fun h => (v20 h)), (fun h => (v21 h))⟩ trivial rfl
    refine calmSteps_cons (fun u wq n hn hn2 hC hk K hK => ?_) ?_
    · obtain ⟨hP, m0, m1, m3, v20, v21⟩ := hC
      simp only [calmKnown, List.getElem?_cons_zero, List.getElem?_cons_succ, and_true, Is, Pure, Option.some.injEq, List.getD_cons_zero, List.getD_cons_succ, List.map_cons, List.map_nil] at hk
      obtain ⟨h3, h4⟩ := hk
      simp only [h3, h4] at hK ⊢
      have H3 := Lib.hid h3; clear h3; have H4 := Lib.hid h4; clear h4
      go_wp2_with fail
      first | (with_reducible refine (HO.out _ hP).mono ?_)
      rintro e wz ⟨rfl, hbl⟩
      exact hK _ _ _ rfl ⟨(kept_call hbl hP), (Blk.keep hbl m0), (Blk.keep hbl m1), (Blk.keep hbl m3), (fun h => (Blk.keep hbl (v20 h))), (fun h => (Blk.keep hbl (v21 h)))⟩ trivial rfl
    refine calmSteps_cons (fun u wq n hn hn2 hC hk K hK => ?_) ?_
    · obtain ⟨hP, m0, m1, m3, v20, v21⟩ := hC
      simp only [calmKnown, List.getElem?_cons_zero, List.getElem?_cons_succ, and_true, Is, Pure, Option.some.injEq, List.getD_cons_zero, List.getD_cons_succ, List.map_cons, List.map_nil] at hk
      have h5 := hk; clear hk
      simp only [h5] at hK ⊢
      have H5 := Lib.hid h5; clear h5
      go_simp
      exact hK _ _ _ rfl ⟨hP, m0, m1, m3, (fun h => (v20 h)), (fun h => (v21 h))⟩ trivial rfl
    refine calmSteps_cons (fun u wq n hn hn2 hC hk K hK => ?_) ?_
    · obtain ⟨hP, m0, m1, m3, v20, v21⟩ := hC
      simp only [calmKnown, List.getElem?_cons_zero, List.getElem?_cons_succ, and_true, Is, Pure, Option.some.injEq, List.getD_cons_zero, List.getD_cons_succ, List.map_cons, List.map_nil] at hk
      obtain ⟨h2, h6⟩ := hk
      simp only [h2, h6] at hK ⊢
      have H2 := Lib.hid h2; clear h2; have H6 := Lib.hid h6; clear h6
      go_simp
      exact hK _ _ _ rfl ⟨hP, m0, m1, m3, (fun h => (v20 h)), (fun h => (v21 h))⟩ trivial rfl
    refine calmSteps_cons (fun u wq n hn hn2 hC hk K hK => ?_) ?_
    · obtain ⟨hP, m0, m1, m3, v20, v21⟩ := hC
      clear hk
      go_simp
      exact hK _ _ _ rfl ⟨hP, m0, m1, m3, (fun h => (v20 h)), (fun h => (v21 h))⟩ trivial rfl
    refine calmSteps_cons (fun u wq n hn hn2 hC hk K hK => ?_) ?_
    · obtain ⟨hP, m0, m1, m3, v20, v21⟩ := hC
      simp only [calmKnown, List.getElem?_cons_zero, List.getElem?_cons_succ, and_true, Is, Pure, Option.some.injEq, List.getD_cons_zero, List.getD_cons_succ, List.map_cons, List.map_nil] at hk
      have h8 := hk; clear hk
      simp only [h8] at hK ⊢
      have H8 := Lib.hid h8; clear h8
      have z0 := m0.cell
      have z1 := m1.cell
      have z3 := m3.cell
      go_simp
      exact hK _ _ _ rfl ⟨hP, m0, m1, m3, (fun h => (v20 h)), (fun h => (v21 h))⟩ trivial rfl
    refine calmSteps_cons (fun u wq n hn hn2 hC hk K hK => ?_) ?_
    · obtain ⟨hP, m0, m1, m3, v20, v21⟩ := hC
      clear hk
      go_simp
      exact hK _ _ _ rfl ⟨hP, m0, m1, m3, (fun h => (v20 h)), (fun h => (v21 h))⟩ trivial rfl
    refine calmSteps_cons (fun u wq n hn hn2 hC hk K hK => ?_) ?_
    · obtain ⟨hP, m0, m1, m3, v20, v21⟩ := hC
      simp only [calmKnown, List.getElem?_cons_zero, List.getElem?_cons_succ, and_true, Is, Pure, Option.some.injEq, List.getD_cons_zero, List.getD_cons_succ, List.map_cons, List.map_nil] at hk
      have h10 := hk; clear hk
      simp only [h10] at hK ⊢
      have H10 := Lib.hid h10; clear h10
      have z0 := m0.cell
      have z1 := m1.cell
      have z3 := m3.cell
      go_simp
      exact hK _ _ _ rfl ⟨hP, m0, m1, m3, (fun h => (v20 h)), (fun h => (v21 h))⟩ trivial rfl
    refine calmSteps_cons (fun u wq n hn hn2 hC hk K hK => ?_) ?_
    · obtain ⟨hP, m0, m1, m3, v20, v21⟩ := hC
      simp only [calmKnown, List.getElem?_cons_zero, List.getElem?_cons_succ, and_true, Is, Pure, Option.some.injEq, List.getD_cons_zero, List.getD_cons_succ, List.map_cons, List.map_nil] at hk
      have h11 := hk; clear hk
      simp only [h11] at hK ⊢
      have H11 := Lib.hid h11; clear h11
      go_simp
      exact hK _ _ _ rfl ⟨hP, m0, m1, m3, (fun h => (v20 h)), (fun h => (v21 h))⟩ trivial rfl
    refine calmSteps_cons (fun u wq n hn hn2 hC hk K hK => ?_) ?_
    · obtain ⟨hP, m0, m1, m3, v20, v21⟩ := hC
      simp only [calmKnown, List.getElem?_cons_zero, List.getElem?_cons_succ, and_true, Is, Pure, Option.some.injEq, List.getD_cons_zero, List.getD_cons_succ, List.map_cons, List.map_nil] at hk
      obtain ⟨h9, h12⟩ := hk
      simp only [h9, h12] at hK ⊢
      have H9 := Lib.hid h9; clear h9; have H12 := Lib.hid h12; clear h12
      go_simp
      exact hK _ _ _ rfl ⟨hP, m0, m1, m3, (fun h => (v20 h)), (fun h => (v21 h))⟩ trivial rfl
    refine calmSteps_cons (fun u wq n hn hn2 hC hk K hK => ?_) ?_
    · obtain ⟨hP, m0, m1, m3, v20, v21⟩ := hC
      simp only [calmKnown, List.getElem?_cons_zero, List.getElem?_cons_succ, and_true, Is, Pure, Option.some.injEq, List.getD_cons_zero, List.getD_cons_succ, List.map_cons, List.map_nil] at hk
      obtain ⟨h7, h13⟩ := hk
      simp only [h7, h13] at hK ⊢
      have H7 := Lib.hid h7; clear h7; have H13 := Lib.hid h13; clear h13
      go_simp
      exact hK _ _ _ rfl ⟨hP, m0, m1, m3, (fun h => (v20 h)), (fun h => (v21 h))⟩ trivial rfl
    refine calmSteps_cons (fun u wq n hn hn2 hC hk K hK => ?_) ?_
    · obtain ⟨hP, m0, m1, m3, v20, v21⟩ := hC
      simp only [calmKnown, List.getElem?_cons_zero, List.getElem?_cons_succ, and_true, Is, Pure, Option.some.injEq, List.getD_cons_zero, List.getD_cons_succ, List.map_cons, List.map_nil] at hk
      have h0 := hk; clear hk
      simp only [h0] at hK ⊢
      have H0 := Lib.hid h0; clear h0
      have hx := m1
      have zx := hx.cell
      have fx := hx.frozen
      have lx := hx.lt
      have hx2 : Blk _ _ _ _ := ((hx.set_ 0 (.int .i64 (p * 1048576))).set_ 1 (.int .i64 (q * 1048576)))
      simp only [List.setIfInBounds_toArray, List.set_cons_zero, List.set_cons_succ] at hx2
      go_simp
      exact hK _ undef _ rfl ⟨((hP.setCell (by first | omega | (simp; done) | (simp; omega)) _).setCell (by first | omega | (simp; done) | (simp; omega)) _), ((m0.far (by first | omega | (simp; done) | (simp; omega)) _).far (by first | omega | (simp; done) | (simp; omega)) _), hx2, ((m3.far (by first | omega | (simp; done) | (simp; omega)) _).far (by first | omega | (simp; done) | (simp; omega)) _), (fun h => (((v20 h).far (by first | omega | (simp; done) | (simp; omega)) _).far (by first | omega | (simp; done) | (simp; omega)) _)), (fun h => (((v21 h).far (by first | omega | (simp; done) | (simp; omega)) _).far (by first | omega | (simp; done) | (simp; omega)) _))⟩ trivial trivial
    refine calmSteps_cons (fun u wq n hn hn2 hC hk K hK => ?_) ?_
    · obtain ⟨hP, m0, m1, m3, v20, v21⟩ := hC
      simp only [calmKnown, List.getElem?_cons_zero, List.getElem?_cons_succ, and_true, Is, Pure, Option.some.injEq, List.getD_cons_zero, List.getD_cons_succ, List.map_cons, List.map_nil] at hk
      have h14 := hk; clear hk
      simp only [h14] at hK ⊢
      have H14 := Lib.hid h14; clear h14
      obtain rfl := hn 0 rfl
      have hx := v20 rfl
      have zx := hx.cell
      have fx := hx.frozen
      have lx := hx.lt
      have hx2 : Blk _ _ _ _ := ((hx.set_ 0 (.int .i64 (p * 1048576 + ov * 1048576))).set_ 1 (.int .i64 (q * 1048576 + y * 1048576)))
      simp only [List.setIfInBounds_toArray, List.set_cons_zero, List.set_cons_succ] at hx2
      go_simp
      exact hK _ undef _ rfl ⟨((hP.setCell (by first | omega | (simp; done) | (simp; omega)) _).setCell (by first | omega | (simp; done) | (simp; omega)) _), ((m0.far (by first | omega | (simp; done) | (simp; omega)) _).far (by first | omega | (simp; done) | (simp; omega)) _), ((m1.far (by first | omega | (simp; done) | (simp; omega)) _).far (by first | omega | (simp; done) | (simp; omega)) _), ((m3.far (by first | omega | (simp; done) | (simp; omega)) _).far (by first | omega | (simp; done) | (simp; omega)) _), (fun h => absurd h (by decide)), (fun _ => hx2)⟩ trivial trivial
    exact calmSteps_nil
  · intro u w9 hC hF
    obtain ⟨hP, m0, m1, m3, v20, v21⟩ := hC
    clear hF
    have hx := v21 rfl
    have c1 := m1.cell; have c2 := hx.cell
    clear v20 v21
    go_wp2
    exact bodyPost_ret (v := .tuple #[.agg #[.int .i64 (p * 1048576), .int .i64 (q * 1048576)], .agg #[.int .i64 (p * 1048576 + ov * 1048576), .int .i64 (q * 1048576 + y * 1048576)]]) (by simp [results, Try.results60, go_sem, *]) rfl ⟨rfl, by (repeat' (first | (with_reducible exact hP) | (with_reducible refine Below.setCell ?_ ?_ _) | (with_reducible refine Below.alloc ?_ ?_ _) | (with_reducible refine Below.drew ?_) | (with_reducible refine below_drewN ?_ _))) <;> (first | omega | (simp <;> omega))⟩
set_option maxRecDepth 100000 in
set_option maxHeartbeats 1000000 in
theorem rwindow_any (first : Int) (A : Option Addr) (len cap : Nat) (zs : List (Int × Int)) (i : Nat) (hi : i < len) (hv : LVal first zs) (w : World) (h : PrAt w A len zs) :
    Calls Try.prog 71 #[.agg #[.int .i64 first, .slice A len cap], .int .i64 (i : Int)] w (RB w (.tuple #[.agg #[.int .i64 (wsLo zs i), .int .i64 (wsHi zs i)], .agg #[.int .i64 (wiLo first zs i), .int .i64 (wiHi zs i)]])) := by
  have HO := Lib.hid (fun W (hW : Below w.heap.size w W) => rold_any first A len cap zs i hi W (h.below hW))
  obtain ⟨hzl, hlm, hA⟩ := h
  obtain ⟨a1, a2, a3, a4, -⟩ := hv.at_ (i := i) (by omega)
  obtain ⟨b1, b2⟩ := hv.off (i := i) (by omega)
  clear hv
  obtain ⟨bl, off, rfl, hb, hcs⟩ := hA (by omega)
  obtain ⟨e0, e1⟩ := hcs i hi
  clear hcs
  have E0 : ∀ W, Below w.heap.size w W → W.cell? ⟨bl, off + i * 2, none⟩ = some (.int .i64 (zs.getD i (0, 0)).1) := fun W h => (h.cell (p := ⟨bl, off + i * 2, none⟩) hb).trans e0
  have E1 : ∀ W, Below w.heap.size w W → W.cell? ⟨bl, off + i * 2 + 1, none⟩ = some (.int .i64 (zs.getD i (0, 0)).2) := fun W h => (h.cell (p := ⟨bl, off + i * 2 + 1, none⟩) hb).trans e1
  have hbk : ∀ k, bl < w.heap.size + k := fun k => by omega
  have n0 : bl ≠ w.heap.size := by omega
  have n1 : bl ≠ w.heap.size + 1 := by omega
  have n2 : bl ≠ w.heap.size + 1 + 1 := by omega
  have n3 : bl ≠ w.heap.size + 2 := by omega
  have n4 : bl ≠ w.heap.size + 3 := by omega
  have n5 : bl < w.heap.size + 1 := by omega
  have n6 : bl < w.heap.size + 1 + 1 := by omega
  unfold wiLo wiHi wsLo wsHi
  generalize zs.getD i (0, 0) = z at *
  obtain ⟨x, y⟩ := z
  dsimp only at *
  generalize oldL first zs i = ov at *
  rw [show (x - 43200) * 1048576 + ov * 1048576 = (x - 43200 + ov) * 1048576 by omega, show (x + 43200) * 1048576 + y * 1048576 = (x + 43200 + y) * 1048576 by omega]
  obtain ⟨p, hp⟩ : ∃ p, p = x - 43200 := ⟨_, rfl⟩
  obtain ⟨q, hq⟩ : ∃ q, q = x + 43200 := ⟨_, rfl⟩
  rw [← hp, ← hq]
  have v1 : IntKind.i64.wrap (x - 43200) = p := by rw [IntWalk.i64_in _ (by omega)]; exact hp.symm
  have v2 : IntKind.i64.wrap (x + 43200) = q := by rw [IntWalk.i64_in _ (by omega)]; exact hq.symm
  have w3 : IntKind.i64.wrap (p * 1048576) = p * 1048576 := IntWalk.i64_in _ (by omega)
  have w4 : IntKind.i64.wrap (q * 1048576) = q * 1048576 := IntWalk.i64_in _ (by omega)
  have w5 : IntKind.i64.wrap (p + ov) = p + ov := IntWalk.i64_in _ (by omega)
  have w6 : IntKind.i64.wrap (q + y) = q + y := IntWalk.i64_in _ (by omega)
  have w7 : IntKind.i64.wrap ((p + ov) * 1048576) = (p + ov) * 1048576 := IntWalk.i64_in _ (by omega)
  have w8 : IntKind.i64.wrap ((q + y) * 1048576) = (q + y) * 1048576 := IntWalk.i64_in _ (by omega)
  have HS := Lib.hid (And.intro hp hq); clear hp hq
  go_enter Try.func71, Try.ntmps71
  go_wp2_with fail
  go_quiet (fail)
  clear e0 e1
  go_wp2_with fail
  refine' wp_region_calm (by kernel_rfl) (fun n _ w' => Below w.heap.size w w' ∧ Blk w' (w.heap.size) 25 #[.int .i64 first, .slice (some ⟨bl, off, none⟩) len cap] ∧ (n = 0 → Blk w' (w.heap.size + 1) 42 #[.int .i64 (0), .int .i64 (0)]) ∧ (n = 1 → Blk w' (w.heap.size + 1) 42 #[.int .i64 (p * 1048576), .int .i64 (q * 1048576)]) ∧ (n = 2 → Blk w' (w.heap.size + 1) 42 #[.int .i64 (p * 1048576), .int .i64 (q * 1048576)]) ∧ (n = 0 → Blk w' (w.heap.size + 2) 42 #[.int .i64 (0), .int .i64 (0)]) ∧ (n = 1 → Blk w' (w.heap.size + 2) 42 #[.int .i64 (0), .int .i64 (0)]) ∧ (n = 2 → Blk w' (w.heap.size + 2) 42 #[.int .i64 ((p + ov) * 1048576), .int .i64 ((q + y) * 1048576)])) (fun _ _ => True) [(Is _), (Is _), (Is _), (Is _), (Is _), (Is _), (Is _), (Is _), (Is _), (Is _), (Is _), (Is _), (Is _), (Is _), (Is _), (Is _), (Is _), (Is _), (Is _), (Is _), (Is _), (fun _ _ _ => True), (fun _ _ _ => True)] [[], [0], [], [2], [1, 3], [], [], [], [6, 7], [5, 8], [9], [], [], [12], [], [13, 14], [15], [16], [11, 17], [18], [10, 19], [4], [20]] [21, 22] [] rfl (by kernel_rfl) (fun u => by (simp only [calmPut, Act.put, List.setIfInBounds_toArray, List.set_cons_zero, List.set_cons_succ, Nat.zero_add, Nat.reduceAdd]; rfl)) ?_ (calmKeep_cons keep_is' (calmKeep_cons keep_is' (calmKeep_cons keep_is' (calmKeep_cons keep_is' (calmKeep_cons keep_is' (calmKeep_cons keep_is' (calmKeep_cons keep_is' (calmKeep_cons keep_is' (calmKeep_cons keep_is' (calmKeep_cons keep_is' (calmKeep_cons keep_is' (calmKeep_cons keep_is' (calmKeep_cons keep_is' (calmKeep_cons keep_is' (calmKeep_cons keep_is' (calmKeep_cons keep_is' (calmKeep_cons keep_is' (calmKeep_cons keep_is' (calmKeep_cons keep_is' (calmKeep_cons keep_is' (calmKeep_cons keep_is' (calmKeep_cons keep_triv (calmKeep_cons keep_triv (calmKeep_nil)))))))))))))))))))))))) ?_ ?_
  · intro _
    exact ⟨by (repeat' (first | (with_reducible exact Below.refl _ _) | (with_reducible refine Below.setCell ?_ ?_ _) | (with_reducible refine Below.alloc ?_ ?_ _) | (with_reducible refine Below.drew ?_) | (with_reducible refine below_drewN ?_ _))) <;> (first | omega | (simp <;> omega)), (by (repeat' (first | ((with_reducible refine' Blk.newE ?_); first | rfl | (simp; done)) | (with_reducible refine' Blk.alloc ?_ _) | (with_reducible refine' Blk.drew ?_) | (with_reducible refine' Blk.drewN ?_ _) | (with_reducible refine' Blk.put ?_ ?_) | (with_reducible refine' Blk.far ?_ ?_ _) | exact rfl)) <;> (first | omega | (simp <;> omega))), fun _ => (by (repeat' (first | ((with_reducible refine' Blk.newE ?_); first | rfl | (simp; done)) | (with_reducible refine' Blk.alloc ?_ _) | (with_reducible refine' Blk.drew ?_) | (with_reducible refine' Blk.drewN ?_ _) | (with_reducible refine' Blk.put ?_ ?_) | (with_reducible refine' Blk.far ?_ ?_ _) | exact rfl)) <;> (first | omega | (simp <;> omega))), fun h => absurd h (by decide), fun h => absurd h (by decide), fun _ => (by (repeat' (first | ((with_reducible refine' Blk.newE ?_); first | rfl | (simp; done)) | (with_reducible refine' Blk.alloc ?_ _) | (with_reducible refine' Blk.drew ?_) | (with_reducible refine' Blk.drewN ?_ _) | (with_reducible refine' Blk.put ?_ ?_) | (with_reducible refine' Blk.far ?_ ?_ _) | exact rfl)) <;> (first | omega | (simp <;> omega))), fun h => absurd h (by decide), fun h => absurd h (by decide)⟩
  rotate_left 21
  · skip
    refine calmSteps_cons (fun u wq n hn hn2 hC hk K hK => ?_) ?_
    · obtain ⟨hP, m0, v10, v11, v12, v20, v21, v22⟩ := hC
      clear hk
      go_simp
      exact hK _ _ _ rfl ⟨hP, m0, (fun h => (v10 h)), (fun h => (v11 h)), (fun h => (v12 h)), (fun h => (v20 h)), (fun h => (v21 h)), (fun h => (v22 h))⟩ trivial rfl
    refine calmSteps_cons (fun u wq n hn hn2 hC hk K hK => ?_) ?_
    · obtain ⟨hP, m0, v10, v11, v12, v20, v21, v22⟩ := hC
      simp only [calmKnown, List.getElem?_cons_zero, List.getElem?_cons_succ, and_true, Is, Pure, Option.some.injEq, List.getD_cons_zero, List.getD_cons_succ, List.map_cons, List.map_nil] at hk
      have h0 := hk; clear hk
      simp only [h0] at hK ⊢
      have H0 := Lib.hid h0; clear h0
      go_simp
      exact hK _ _ _ rfl ⟨hP, m0, (fun h => (v10 h)), (fun h => (v11 h)), (fun h => (v12 h)), (fun h => (v20 h)), (fun h => (v21 h)), (fun h => (v22 h))⟩ trivial rfl
    refine calmSteps_cons (fun u wq n hn hn2 hC hk K hK => ?_) ?_
    · obtain ⟨hP, m0, v10, v11, v12, v20, v21, v22⟩ := hC
      clear hk
      go_simp
      exact hK _ _ _ rfl ⟨hP, m0, (fun h => (v10 h)), (fun h => (v11 h)), (fun h => (v12 h)), (fun h => (v20 h)), (fun h => (v21 h)), (fun h => (v22 h))⟩ trivial rfl
    refine calmSteps_cons (fun u wq n hn hn2 hC hk K hK => ?_) ?_
    · obtain ⟨hP, m0, v10, v11, v12, v20, v21, v22⟩ := hC
      simp only [calmKnown, List.getElem?_cons_zero, List.getElem?_cons_succ, and_true, Is, Pure, Option.some.injEq, List.getD_cons_zero, List.getD_cons_succ, List.map_cons, List.map_nil] at hk
      have h2 := hk; clear hk
      simp only [h2] at hK ⊢
      have H2 := Lib.hid h2; clear h2
      go_simp
      exact hK _ _ _ rfl ⟨hP, m0, (fun h => (v10 h)), (fun h => (v11 h)), (fun h => (v12 h)), (fun h => (v20 h)), (fun h => (v21 h)), (fun h => (v22 h))⟩ trivial rfl
    refine calmSteps_cons (fun u wq n hn hn2 hC hk K hK => ?_) ?_
    · obtain ⟨hP, m0, v10, v11, v12, v20, v21, v22⟩ := hC
      simp only [calmKnown, List.getElem?_cons_zero, List.getElem?_cons_succ, and_true, Is, Pure, Option.some.injEq, List.getD_cons_zero, List.getD_cons_succ, List.map_cons, List.map_nil] at hk
      obtain ⟨h1, h3⟩ := hk
      simp only [h1, h3] at hK ⊢
      have H1 := Lib.hid h1; clear h1; have H3 := Lib.hid h3; clear h3
      go_simp
      exact hK _ _ _ rfl ⟨hP, m0, (fun h => (v10 h)), (fun h => (v11 h)), (fun h => (v12 h)), (fun h => (v20 h)), (fun h => (v21 h)), (fun h => (v22 h))⟩ trivial rfl
    refine calmSteps_cons (fun u wq n hn hn2 hC hk K hK => ?_) ?_
    · obtain ⟨hP, m0, v10, v11, v12, v20, v21, v22⟩ := hC
      clear hk
      go_simp
      exact hK _ _ _ rfl ⟨hP, m0, (fun h => (v10 h)), (fun h => (v11 h)), (fun h => (v12 h)), (fun h => (v20 h)), (fun h => (v21 h)), (fun h => (v22 h))⟩ trivial rfl
    refine calmSteps_cons (fun u wq n hn hn2 hC hk K hK => ?_) ?_
    · obtain ⟨hP, m0, v10, v11, v12, v20, v21, v22⟩ := hC
      clear hk
      have z0 := m0.cell; have y0 := E0 _ hP; have y1 := E1 _ hP
      go_simp
      exact hK _ _ _ rfl ⟨hP, m0, (fun h => (v10 h)), (fun h => (v11 h)), (fun h => (v12 h)), (fun h => (v20 h)), (fun h => (v21 h)), (fun h => (v22 h))⟩ trivial rfl
    refine calmSteps_cons (fun u wq n hn hn2 hC hk K hK => ?_) ?_
    · obtain ⟨hP, m0, v10, v11, v12, v20, v21, v22⟩ := hC
      clear hk
      go_simp
      exact hK _ _ _ rfl ⟨hP, m0, (fun h => (v10 h)), (fun h => (v11 h)), (fun h => (v12 h)), (fun h => (v20 h)), (fun h => (v21 h)), (fun h => (v22 h))⟩ trivial rfl
    refine calmSteps_cons (fun u wq n hn hn2 hC hk K hK => ?_) ?_
    · obtain ⟨hP, m0, v10, v11, v12, v20, v21, v22⟩ := hC
      simp only [calmKnown, List.getElem?_cons_zero, List.getElem?_cons_succ, and_true, Is, Pure, Option.some.injEq, List.getD_cons_zero, List.getD_cons_succ, List.map_cons, List.map_nil] at hk
      obtain ⟨h6, h7⟩ := hk
      simp only [h6, h7] at hK ⊢
      have H6 := Lib.hid h6; clear h6; have H7 := Lib.hid h7; clear h7
      go_wp2_with fail
      first | (with_reducible refine (HO.out _ hP).mono ?_)
      rintro e wz ⟨rfl, hbl⟩
      exact hK _ _ _ rfl ⟨(kept_call hbl hP), (Blk.keep hbl m0), (fun h => (Blk.keep hbl (v10 h))), (fun h => (Blk.keep hbl (v11 h))), (fun h => (Blk.keep hbl (v12 h))), (fun h => (Blk.keep hbl (v20 h))), (fun h => (Blk.keep hbl (v21 h))), (fun h => (Blk.keep hbl (v22 h)))⟩ trivial rfl
    refine calmSteps_cons (fun u wq n hn hn2 hC hk K hK => ?_) ?_
    · obtain ⟨hP, m0, v10, v11, v12, v20, v21, v22⟩ := hC
      simp only [calmKnown, List.getElem?_cons_zero, List.getElem?_cons_succ, and_true, Is, Pure, Option.some.injEq, List.getD_cons_zero, List.getD_cons_succ, List.map_cons, List.map_nil] at hk
      obtain ⟨h5, h8⟩ := hk
      simp only [h5, h8] at hK ⊢
      have H5 := Lib.hid h5; clear h5; have H8 := Lib.hid h8; clear h8
      go_simp
      exact hK _ _ _ rfl ⟨hP, m0, (fun h => (v10 h)), (fun h => (v11 h)), (fun h => (v12 h)), (fun h => (v20 h)), (fun h => (v21 h)), (fun h => (v22 h))⟩ trivial rfl
    refine calmSteps_cons (fun u wq n hn hn2 hC hk K hK => ?_) ?_
    · obtain ⟨hP, m0, v10, v11, v12, v20, v21, v22⟩ := hC
      simp only [calmKnown, List.getElem?_cons_zero, List.getElem?_cons_succ, and_true, Is, Pure, Option.some.injEq, List.getD_cons_zero, List.getD_cons_succ, List.map_cons, List.map_nil] at hk
      have h9 := hk; clear hk
      simp only [h9] at hK ⊢
      have H9 := Lib.hid h9; clear h9
      go_simp
      exact hK _ _ _ rfl ⟨hP, m0, (fun h => (v10 h)), (fun h => (v11 h)), (fun h => (v12 h)), (fun h => (v20 h)), (fun h => (v21 h)), (fun h => (v22 h))⟩ trivial rfl
    refine calmSteps_cons (fun u wq n hn hn2 hC hk K hK => ?_) ?_
    · obtain ⟨hP, m0, v10, v11, v12, v20, v21, v22⟩ := hC
      clear hk
      go_simp
      exact hK _ _ _ rfl ⟨hP, m0, (fun h => (v10 h)), (fun h => (v11 h)), (fun h => (v12 h)), (fun h => (v20 h)), (fun h => (v21 h)), (fun h => (v22 h))⟩ trivial rfl
    refine calmSteps_cons (fun u wq n hn hn2 hC hk K hK => ?_) ?_
    · obtain ⟨hP, m0, v10, v11, v12, v20, v21, v22⟩ := hC
      clear hk
      go_simp
      exact hK _ _ _ rfl ⟨hP, m0, (fun h => (v10 h)), (fun h => (v11 h)), (fun h => (v12 h)), (fun h => (v20 h)), (fun h => (v21 h)), (fun h => (v22 h))⟩ trivial rfl
    refine calmSteps_cons (fun u wq n hn hn2 hC hk K hK => ?_) ?_
    · obtain ⟨hP, m0, v10, v11, v12, v20, v21, v22⟩ := hC
      simp only [calmKnown, List.getElem?_cons_zero, List.getElem?_cons_succ, and_true, Is, Pure, Option.some.injEq, List.getD_cons_zero, List.getD_cons_succ, List.map_cons, List.map_nil] at hk
      have h12 := hk; clear hk
      simp only [h12] at hK ⊢
      have H12 := Lib.hid h12; clear h12
      have z0 := m0.cell; have y0 := E0 _ hP; have y1 := E1 _ hP
      go_simp
      exact hK _ _ _ rfl ⟨hP, m0, (fun h => (v10 h)), (fun h => (v11 h)), (fun h => (v12 h)), (fun h => (v20 h)), (fun h => (v21 h)), (fun h => (v22 h))⟩ trivial rfl
    refine calmSteps_cons (fun u wq n hn hn2 hC hk K hK => ?_) ?_
    · obtain ⟨hP, m0, v10, v11, v12, v20, v21, v22⟩ := hC
      clear hk
      go_simp
      exact hK _ _ _ rfl ⟨hP, m0, (fun h => (v10 h)), (fun h => (v11 h)), (fun h => (v12 h)), (fun h => (v20 h)), (fun h => (v21 h)), (fun h => (v22 h))⟩ trivial rfl
    refine calmSteps_cons (fun u wq n hn hn2 hC hk K hK => ?_) ?_
    · obtain ⟨hP, m0, v10, v11, v12, v20, v21, v22⟩ := hC
      simp only [calmKnown, List.getElem?_cons_zero, List.getElem?_cons_succ, and_true, Is, Pure, Option.some.injEq, List.getD_cons_zero, List.getD_cons_succ, List.map_cons, List.map_nil] at hk
      obtain ⟨h13, h14⟩ := hk
      simp only [h13, h14] at hK ⊢
      have H13 := Lib.hid h13; clear h13; have H14 := Lib.hid h14; clear h14
      go_simp
      exact hK _ _ _ rfl ⟨hP, m0, (fun h => (v10 h)), (fun h => (v11 h)), (fun h => (v12 h)), (fun h => (v20 h)), (fun h => (v21 h)), (fun h => (v22 h))⟩ trivial rfl
    refine calmSteps_cons (fun u wq n hn hn2 hC hk K hK => ?_) ?_
    · obtain ⟨hP, m0, v10, v11, v12, v20, v21, v22⟩ := hC
      simp only [calmKnown, List.getElem?_cons_zero, List.getElem?_cons_succ, and_true, Is, Pure, Option.some.injEq, List.getD_cons_zero, List.getD_cons_succ, List.map_cons, List.map_nil] at hk
      have h15 := hk; clear hk
      simp only [h15] at hK ⊢
      have H15 := Lib.hid h15; clear h15
      go_simp
      exact hK _ _ _ rfl ⟨hP, m0, (fun h => (v10 h)), (fun h => (v11 h)), (fun h => (v12 h)), (fun h => (v20 h)), (fun h => (v21 h)), (fun h => (v22 h))⟩ trivial rfl
    refine calmSteps_cons (fun u wq n hn hn2 hC hk K hK => ?_) ?_
    · obtain ⟨hP, m0, v10, v11, v12, v20, v21, v22⟩ := hC
      simp only [calmKnown, List.getElem?_cons_zero, List.getElem?_cons_succ, and_true, Is, Pure, Option.some.injEq, List.getD_cons_zero, List.getD_cons_succ, List.map_cons, List.map_nil] at hk
      have h16 := hk; clear hk
      simp only [h16] at hK ⊢
      have H16 := Lib.hid h16; clear h16
      have z0 := m0.cell; have y0 := E0 _ hP; have y1 := E1 _ hP
      go_simp
      exact hK _ _ _ rfl ⟨hP, m0, (fun h => (v10 h)), (fun h => (v11 h)), (fun h => (v12 h)), (fun h => (v20 h)), (fun h => (v21 h)), (fun h => (v22 h))⟩ trivial rfl
    refine calmSteps_cons (fun u wq n hn hn2 hC hk K hK => ?_) ?_
    · obtain ⟨hP, m0, v10, v11, v12, v20, v21, v22⟩ := hC
      simp only [calmKnown, List.getElem?_cons_zero, List.getElem?_cons_succ, and_true, Is, Pure, Option.some.injEq, List.getD_cons_zero, List.getD_cons_succ, List.map_cons, List.map_nil] at hk
      obtain ⟨h11, h17⟩ := hk
      simp only [h11, h17] at hK ⊢
      have H11 := Lib.hid h11; clear h11; have H17 := Lib.hid h17; clear h17
      go_simp
      exact hK _ _ _ rfl ⟨hP, m0, (fun h => (v10 h)), (fun h => (v11 h)), (fun h => (v12 h)), (fun h => (v20 h)), (fun h => (v21 h)), (fun h => (v22 h))⟩ trivial rfl
    refine calmSteps_cons (fun u wq n hn hn2 hC hk K hK => ?_) ?_
    · obtain ⟨hP, m0, v10, v11, v12, v20, v21, v22⟩ := hC
      simp only [calmKnown, List.getElem?_cons_zero, List.getElem?_cons_succ, and_true, Is, Pure, Option.some.injEq, List.getD_cons_zero, List.getD_cons_succ, List.map_cons, List.map_nil] at hk
      have h18 := hk; clear hk
      simp only [h18] at hK ⊢
      have H18 := Lib.hid h18; clear h18
      go_simp
      exact hK _ _ _ rfl ⟨hP, m0, (fun h => (v10 h)), (fun h => (v11 h)), (fun h => (v12 h)), (fun h => (v20 h)), (fun h => (v21 h)), (fun h => (v22 h))⟩ trivial rfl
    refine calmSteps_cons (fun u wq n hn hn2 hC hk K hK => ?_) ?_
    · obtain ⟨hP, m0, v10, v11, v12, v20, v21, v22⟩ := hC
      simp only [calmKnown, List.getElem?_cons_zero, List.getElem?_cons_succ, and_true, Is, Pure, Option.some.injEq, List.getD_cons_zero, List.getD_cons_succ, List.map_cons, List.map_nil] at hk
      obtain ⟨h10, h19⟩ := hk
      simp only [h10, h19] at hK ⊢
      have H10 := Lib.hid h10; clear h10; have H19 := Lib.hid h19; clear h19
      go_simp
      exact hK _ _ _ rfl ⟨hP, m0, (fun h => (v10 h)), (fun h => (v11 h)), (fun h => (v12 h)), (fun h => (v20 h)), (fun h => (v21 h)), (fun h => (v22 h))⟩ trivial rfl
    refine calmSteps_cons (fun u wq n hn hn2 hC hk K hK => ?_) ?_
    · obtain ⟨hP, m0, v10, v11, v12, v20, v21, v22⟩ := hC
      simp only [calmKnown, List.getElem?_cons_zero, List.getElem?_cons_succ, and_true, Is, Pure, Option.some.injEq, List.getD_cons_zero, List.getD_cons_succ, List.map_cons, List.map_nil] at hk
      have h4 := hk; clear hk
      simp only [h4] at hK ⊢
      have H4 := Lib.hid h4; clear h4
      obtain rfl := hn 0 rfl
      have hx := v10 rfl
      have zx := hx.cell
      have fx := hx.frozen
      have lx := hx.lt
      have hx2 : Blk _ _ _ _ := ((hx.set_ 0 (.int .i64 (p * 1048576))).set_ 1 (.int .i64 (q * 1048576)))
      simp only [List.setIfInBounds_toArray, List.set_cons_zero, List.set_cons_succ] at hx2
      go_simp
      exact hK _ undef _ rfl ⟨((hP.setCell (by first | omega | (simp; done) | (simp; omega)) _).setCell (by first | omega | (simp; done) | (simp; omega)) _), ((m0.far (by first | omega | (simp; done) | (simp; omega)) _).far (by first | omega | (simp; done) | (simp; omega)) _), (fun h => absurd h (by decide)), (fun _ => hx2), (fun h => absurd h (by decide)), (fun h => absurd h (by decide)), (fun _ => (((v20 rfl).far (by first | omega | (simp; done) | (simp; omega)) _).far (by first | omega | (simp; done) | (simp; omega)) _)), (fun h => absurd h (by decide))⟩ trivial trivial
    refine calmSteps_cons (fun u wq n hn hn2 hC hk K hK => ?_) ?_
    · obtain ⟨hP, m0, v10, v11, v12, v20, v21, v22⟩ := hC
      simp only [calmKnown, List.getElem?_cons_zero, List.getElem?_cons_succ, and_true, Is, Pure, Option.some.injEq, List.getD_cons_zero, List.getD_cons_succ, List.map_cons, List.map_nil] at hk
      have h20 := hk; clear hk
      simp only [h20] at hK ⊢
      have H20 := Lib.hid h20; clear h20
      obtain rfl := hn 1 rfl
      have hx := v21 rfl
      have zx := hx.cell
      have fx := hx.frozen
      have lx := hx.lt
      have hx2 : Blk _ _ _ _ := ((hx.set_ 0 (.int .i64 ((p + ov) * 1048576))).set_ 1 (.int .i64 ((q + y) * 1048576)))
      simp only [List.setIfInBounds_toArray, List.set_cons_zero, List.set_cons_succ] at hx2
      go_simp
      exact hK _ undef _ rfl ⟨((hP.setCell (by first | omega | (simp; done) | (simp; omega)) _).setCell (by first | omega | (simp; done) | (simp; omega)) _), ((m0.far (by first | omega | (simp; done) | (simp; omega)) _).far (by first | omega | (simp; done) | (simp; omega)) _), (fun h => absurd h (by decide)), (fun h => absurd h (by decide)), (fun _ => (((v11 rfl).far (by first | omega | (simp; done) | (simp; omega)) _).far (by first | omega | (simp; done) | (simp; omega)) _)), (fun h => absurd h (by decide)), (fun h => absurd h (by decide)), (fun _ => hx2)⟩ trivial trivial
    exact calmSteps_nil
  · intro u w9 hC hF
    obtain ⟨hP, m0, v10, v11, v12, v20, v21, v22⟩ := hC
    clear hF
    have hx := v12 rfl; have hy := v22 rfl
    have c1 := hx.cell; have c2 := hy.cell
    clear v10 v11 v12 v20 v21 v22
    go_wp2
    exact bodyPost_ret (v := .tuple #[.agg #[.int .i64 (p * 1048576), .int .i64 (q * 1048576)], .agg #[.int .i64 ((p + ov) * 1048576), .int .i64 ((q + y) * 1048576)]]) (by simp [results, Try.results71, go_sem, *]) rfl ⟨rfl, by (repeat' (first | (with_reducible exact hP) | (with_reducible refine Below.setCell ?_ ?_ _) | (with_reducible refine Below.alloc ?_ ?_ _) | (with_reducible refine Below.drew ?_) | (with_reducible refine below_drewN ?_ _))) <;> (first | omega | (simp <;> omega))⟩
end Go.Proofs.Ytmebkbnildjfhaa
