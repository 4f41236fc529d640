/- leap.Number, era.Only, interval.Width; the sanity check of the layers 10 to 15. -/
import Derived.Test.YtmebkbnildjfhaaLawNUTC
import Derived.Test.YtmebkbnildjfhaaI11O
import Derived.Test.YtmebkbnildjfhaaD15P
import Derived.Test.YtmebkbnildjfhaaCommon
import Derived.Deep.DeepCutAuto
import Derived.Deep.LoopGhost
import Derived.Deep.AppendLies
namespace Go.Proofs.Ytmebkbnildjfhaa
open Go.RowKit
set_option linter.unusedSimpArgs false
set_option linter.unusedVariables false

theorem svalidB (lo hi : Int) (w : World) : Calls Try.prog 59 #[.agg #[.int .i64 lo, .int .i64 hi]] w (RB w (.bool (vS lo hi))) :=
  (svalid_any lo hi w).mono (fun _ _ hh => ⟨hh.1, hh.2 ▸ (Below.refl _ _).alloc (Nat.le_refl _) _⟩)
set_option maxRecDepth 100000 in
set_option maxHeartbeats 1000000 in
theorem check_ok (first : Int) (A : Option Addr) (len cap : Nat) (zs : List (Int × Int)) (hv : LVal first zs) (c : Int) (hc : inS c = true) (w : World) (h : PrAt w A len zs) (hz : ∀ z ∈ zs, IntIn z.1 ∧ IntIn z.2) :
    Calls Try.prog 92 #[.agg #[.int .i64 first, .slice A len cap], .int .i64 c] w (RB w (.int .i64 0)) := by
  have RV := Lib.hid (fun W (hW : Below w.heap.size w W) => bool_of (lvB_true.2 hv) (lvalid_any first A len cap zs W (h.below hW) hz))
  have RI := Lib.hid (fun W => hc ▸ leapin_any c W)
  clear h hz hv hc
  go_enter Try.func92, Try.ntmps92
  go_wp2_with fail
  refine (RV.out _ (by (repeat' (first | (with_reducible exact Below.refl _ _) | (with_reducible refine Below.setCell ?_ ?_ _) | (with_reducible refine Below.alloc ?_ ?_ _) | (with_reducible refine Below.drew ?_) | (with_reducible refine below_drewN ?_ _))) <;> (first | omega | (simp <;> omega)))).mono ?_
  rintro e w1 ⟨rfl, hb1⟩
  have K1 : Below w.heap.size w w1 := kept_call hb1 (by (repeat' (first | (with_reducible exact Below.refl _ _) | (with_reducible refine Below.setCell ?_ ?_ _) | (with_reducible refine Below.alloc ?_ ?_ _) | (with_reducible refine Below.drew ?_) | (with_reducible refine below_drewN ?_ _))) <;> (first | omega | (simp <;> omega)))
  have Z1 : w.heap.size ≤ w1.heap.size := K1.size
  have b1_0 := Blk.keep (g := w.heap.size) hb1 (by (repeat' (first | ((with_reducible refine' Blk.newE ?_); first | rfl | (simp; done)) | (with_reducible refine' Blk.alloc ?_ _) | (with_reducible refine' Blk.drew ?_) | (with_reducible refine' Blk.drewN ?_ _) | (with_reducible refine' Blk.put ?_ ?_) | (with_reducible refine' Blk.far ?_ ?_ _) | exact rfl)) <;> (first | omega | (simp <;> omega)))
  (try simp only [List.setIfInBounds_toArray, List.set_cons_zero, List.set_cons_succ] at b1_0)
  clear hb1
  obtain ⟨c1_0, f1_0, l1_0, e1_0, k1_0⟩ := Blk.facts b1_0
  have o1_0 := l1_0
  go_wp2_with fail
  refine (RI.out _).mono ?_
  rintro e w2 ⟨rfl, hb2⟩
  have K2 : Below w.heap.size w w2 := kept_call hb2 (by (repeat' (first | (with_reducible exact K1) | (with_reducible refine Below.setCell ?_ ?_ _) | (with_reducible refine Below.alloc ?_ ?_ _) | (with_reducible refine Below.drew ?_) | (with_reducible refine below_drewN ?_ _))) <;> (first | omega | (simp <;> omega)))
  have Z2 : w.heap.size ≤ w2.heap.size := K2.size
  have b1_0' := Blk.keep (g := w.heap.size) hb2 (by (repeat' (first | (with_reducible refine' Blk.alloc ?_ _) | (with_reducible refine' Blk.drew ?_) | (with_reducible refine' Blk.drewN ?_ _) | (with_reducible refine' Blk.put ?_ ?_) | (with_reducible refine' Blk.far ?_ ?_ _) | exact b1_0 | exact rfl)) <;> (first | omega | (simp <;> omega)))
  (try simp only [List.setIfInBounds_toArray, List.set_cons_zero, List.set_cons_succ] at b1_0')
  clear hb2 K1
  clear b1_0 c1_0 f1_0 l1_0 e1_0 k1_0; have b1_0 := b1_0'; clear b1_0'
  obtain ⟨c1_0, f1_0, l1_0, e1_0, k1_0⟩ := Blk.facts b1_0
  go_wp2
  go_ret
  exact ⟨rfl, (by (repeat' (first | (with_reducible exact K2) | (with_reducible refine Below.setCell ?_ ?_ _) | (with_reducible refine Below.alloc ?_ ?_ _) | (with_reducible refine Below.drew ?_) | (with_reducible refine below_drewN ?_ _))) <;> (first | omega | (simp <;> omega)))⟩
set_option maxRecDepth 100000 in
set_option maxHeartbeats 2000000 in
theorem tai_ok (first : Int) (A : Option Addr) (len cap : Nat) (zs : List (Int × Int)) (hv : LVal first zs) (c p : Int) (hc : inS c = true) (hs : stepL first zs c ≠ -1) (p0 : 0 ≤ p) (p1 : p < 1048576) (w : World) (h : PrAt w A len zs) (hz : ∀ z ∈ zs, IntIn z.1 ∧ IntIn z.2) :
    Calls Try.prog 66 #[.agg #[.int .i64 first, .slice A len cap], .agg #[.int .i64 c, .bool false, .int .i64 p]] w (RB w (.tuple #[.int .i64 ((c + offL first zs c) * 1048576 + p), .int .i64 0])) := by
  have hcb := inS_true.1 hc
  have RC := Lib.hid (fun W (hW : Below w.heap.size w W) => check_ok first A len cap zs hv c hc W (h.below hW) hz)
  have RO := Lib.hid (fun W (hW : Below w.heap.size w W) => offset_any first A len cap zs c W (h.below hW))
  have RS := Lib.hid (fun W (hW : Below w.heap.size w W) => step_any first A len cap zs hv c (by omega) (by omega) W (h.below hW))
  have ob := offL_in hv c
  have sb := stepL_range hv c
  clear h hz hv
  have g1 : decide (p < 0) = false := decide_eq_false (by omega)
  have g2 : decide (1048576 ≤ p) = false := decide_eq_false (by omega)
  generalize offL first zs c = ov at *
  generalize stepL first zs c = sv at *
  have g3 : decide (sv = -1) = false := decide_eq_false hs
  have g4 : (sv == -1) = false := by simpa using hs
  have w1 : IntKind.i64.wrap (c + ov) = c + ov := IntWalk.i64_in _ (by omega)
  have w2 : IntKind.i64.wrap ((c + ov) * 1048576) = (c + ov) * 1048576 := IntWalk.i64_in _ (by omega)
  have w3 : IntKind.i64.wrap ((c + ov) * 1048576 + p) = (c + ov) * 1048576 + p := IntWalk.i64_in _ (by omega)
  go_enter Try.func66, Try.ntmps66
  go_wp2_with fail
  refine (RC.out _ (by (repeat' (first | (with_reducible exact Below.refl _ _) | (with_reducible refine Below.setCell ?_ ?_ _) | (with_reducible refine Below.alloc ?_ ?_ _) | (with_reducible refine Below.drew ?_) | (with_reducible refine below_drewN ?_ _))) <;> (first | omega | (simp <;> omega)))).mono ?_
  rintro e w1 ⟨rfl, hb1⟩
  have K1 : Below w.heap.size w w1 := kept_call hb1 (by (repeat' (first | (with_reducible exact Below.refl _ _) | (with_reducible refine Below.setCell ?_ ?_ _) | (with_reducible refine Below.alloc ?_ ?_ _) | (with_reducible refine Below.drew ?_) | (with_reducible refine below_drewN ?_ _))) <;> (first | omega | (simp <;> omega)))
  have Z1 : w.heap.size ≤ w1.heap.size := K1.size
  have b1_0 := Blk.keep (g := w.heap.size) hb1 (by (repeat' (first | ((with_reducible refine' Blk.newE ?_); first | rfl | (simp; done)) | (with_reducible refine' Blk.alloc ?_ _) | (with_reducible refine' Blk.drew ?_) | (with_reducible refine' Blk.drewN ?_ _) | (with_reducible refine' Blk.put ?_ ?_) | (with_reducible refine' Blk.far ?_ ?_ _) | exact rfl)) <;> (first | omega | (simp <;> omega)))
  (try simp only [List.setIfInBounds_toArray, List.set_cons_zero, List.set_cons_succ] at b1_0)
  have b1_1 := Blk.keep (g := w.heap.size + 1) hb1 (by (repeat' (first | ((with_reducible refine' Blk.newE ?_); first | rfl | (simp; done)) | (with_reducible refine' Blk.alloc ?_ _) | (with_reducible refine' Blk.drew ?_) | (with_reducible refine' Blk.drewN ?_ _) | (with_reducible refine' Blk.put ?_ ?_) | (with_reducible refine' Blk.far ?_ ?_ _) | exact rfl)) <;> (first | omega | (simp <;> omega)))
  (try simp only [List.setIfInBounds_toArray, List.set_cons_zero, List.set_cons_succ] at b1_1)
  clear hb1
  obtain ⟨c1_0, f1_0, l1_0, e1_0, k1_0⟩ := Blk.facts b1_0
  obtain ⟨c1_1, f1_1, l1_1, e1_1, k1_1⟩ := Blk.facts b1_1
  have o1_0 := l1_0
  have o1_1 := l1_1
  go_upto_region 6 with fail
  refine' wp_region_calm (by kernel_rfl) (fun _ _ w' => Below w.heap.size w w' ∧ Blk w' (w.heap.size) 25 #[.int .i64 first, .slice A len cap] ∧ Blk w' (w.heap.size + 1) 52 #[.int .i64 c, .bool false, .int .i64 p]) (fun _ _ => True) [(Is _), (Is _), (Is _), (Is _), (Is _), (Is _), (Is _), (Is _)] [[], [0], [], [], [3], [2, 4], [1, 5], [6]] [] [] rfl (by kernel_rfl) (fun u => by (simp only [calmPut, Act.put, List.setIfInBounds_toArray, List.set_cons_zero, List.set_cons_succ, Nat.zero_add, Nat.reduceAdd]; rfl)) ?_ (calmKeep_cons keep_is' (calmKeep_cons keep_is' (calmKeep_cons keep_is' (calmKeep_cons keep_is' (calmKeep_cons keep_is' (calmKeep_cons keep_is' (calmKeep_cons keep_is' (calmKeep_cons keep_is' (calmKeep_nil))))))))) ?_ ?_
  · intro _
    exact ⟨(by (repeat' (first | (with_reducible exact K1) | (with_reducible refine Below.setCell ?_ ?_ _) | (with_reducible refine Below.alloc ?_ ?_ _) | (with_reducible refine Below.drew ?_) | (with_reducible refine below_drewN ?_ _))) <;> (first | omega | (simp <;> omega))), (by (repeat' (first | (with_reducible exact b1_0) | (with_reducible refine' Blk.alloc ?_ _) | (with_reducible refine' Blk.drew ?_) | (with_reducible refine' Blk.drewN ?_ _) | (with_reducible refine' Blk.put ?_ ?_) | (with_reducible refine' Blk.far ?_ ?_ _) | exact b1_0 | exact rfl)) <;> (first | omega | (simp <;> omega))), (by (repeat' (first | (with_reducible exact b1_1) | (with_reducible refine' Blk.alloc ?_ _) | (with_reducible refine' Blk.drew ?_) | (with_reducible refine' Blk.drewN ?_ _) | (with_reducible refine' Blk.put ?_ ?_) | (with_reducible refine' Blk.far ?_ ?_ _) | exact b1_1 | exact rfl)) <;> (first | omega | (simp <;> omega)))⟩
  rotate_left 8
  · skip
    refine calmSteps_cons (fun u wq n hn hn2 hC hk K hK => ?_) ?_
    · obtain ⟨hP, m1_0, m1_1⟩ := hC
      clear hk
      go_simp
      exact hK _ _ _ rfl ⟨hP, m1_0, m1_1⟩ trivial rfl
    refine calmSteps_cons (fun u wq n hn hn2 hC hk K hK => ?_) ?_
    · obtain ⟨hP, m1_0, m1_1⟩ := hC
      simp only [calmKnown, List.getElem?_cons_zero, List.getElem?_cons_succ, and_true, Is, Pure, Option.some.injEq, List.getD_cons_zero, List.getD_cons_succ, List.map_cons, List.map_nil] at hk
      have h0 := hk; clear hk
      simp only [h0] at hK ⊢
      have H0 := Lib.hid h0; clear h0
      have z1_0 := m1_0.cell
      have z1_1 := m1_1.cell
      go_simp
      exact hK _ _ _ rfl ⟨hP, m1_0, m1_1⟩ trivial rfl
    refine calmSteps_cons (fun u wq n hn hn2 hC hk K hK => ?_) ?_
    · obtain ⟨hP, m1_0, m1_1⟩ := hC
      clear hk
      have z1_0 := m1_0.cell
      have z1_1 := m1_1.cell
      go_simp
      exact hK _ _ _ rfl ⟨hP, m1_0, m1_1⟩ trivial rfl
    refine calmSteps_cons (fun u wq n hn hn2 hC hk K hK => ?_) ?_
    · obtain ⟨hP, m1_0, m1_1⟩ := hC
      clear hk
      go_simp
      exact hK _ _ _ rfl ⟨hP, m1_0, m1_1⟩ trivial rfl
    refine calmSteps_cons (fun u wq n hn hn2 hC hk K hK => ?_) ?_
    · obtain ⟨hP, m1_0, m1_1⟩ := hC
      simp only [calmKnown, List.getElem?_cons_zero, List.getElem?_cons_succ, and_true, Is, Pure, Option.some.injEq, List.getD_cons_zero, List.getD_cons_succ, List.map_cons, List.map_nil] at hk
      have h3 := hk; clear hk
      simp only [h3] at hK ⊢
      have H3 := Lib.hid h3; clear h3
      have z1_0 := m1_0.cell
      have z1_1 := m1_1.cell
      go_simp
      exact hK _ _ _ rfl ⟨hP, m1_0, m1_1⟩ trivial rfl
    refine calmSteps_cons (fun u wq n hn hn2 hC hk K hK => ?_) ?_
    · obtain ⟨hP, m1_0, m1_1⟩ := hC
      simp only [calmKnown, List.getElem?_cons_zero, List.getElem?_cons_succ, and_true, Is, Pure, Option.some.injEq, List.getD_cons_zero, List.getD_cons_succ, List.map_cons, List.map_nil] at hk
      obtain ⟨h2, h4⟩ := hk
      simp only [h2, h4] at hK ⊢
      have H2 := Lib.hid h2; clear h2; have H4 := Lib.hid h4; clear h4
      go_wp2_with fail
      first | (with_reducible refine (RO.out _ hP).mono ?_)
      rintro e w2 ⟨rfl, hbl⟩
      exact hK _ _ _ rfl ⟨kept_call hbl hP, Blk.keep hbl m1_0, Blk.keep hbl m1_1⟩ trivial rfl
    refine calmSteps_cons (fun u wq n hn hn2 hC hk K hK => ?_) ?_
    · obtain ⟨hP, m1_0, m1_1⟩ := hC
      simp only [calmKnown, List.getElem?_cons_zero, List.getElem?_cons_succ, and_true, Is, Pure, Option.some.injEq, List.getD_cons_zero, List.getD_cons_succ, List.map_cons, List.map_nil] at hk
      obtain ⟨h1, h5⟩ := hk
      simp only [h1, h5] at hK ⊢
      have H1 := Lib.hid h1; clear h1; have H5 := Lib.hid h5; clear h5
      go_simp
      exact hK _ _ _ rfl ⟨hP, m1_0, m1_1⟩ trivial rfl
    refine calmSteps_cons (fun u wq n hn hn2 hC hk K hK => ?_) ?_
    · obtain ⟨hP, m1_0, m1_1⟩ := hC
      simp only [calmKnown, List.getElem?_cons_zero, List.getElem?_cons_succ, and_true, Is, Pure, Option.some.injEq, List.getD_cons_zero, List.getD_cons_succ, List.map_cons, List.map_nil] at hk
      have h6 := hk; clear hk
      simp only [h6] at hK ⊢
      have H6 := Lib.hid h6; clear h6
      go_simp
      exact hK _ _ _ rfl ⟨hP, m1_0, m1_1⟩ trivial rfl
    exact calmSteps_nil
  · intro u w2 hC hF
    obtain ⟨hP, m1_0, m1_1⟩ := hC
    simp only [calmFacts, Is, and_true] at hF
    obtain ⟨f0, f1, f2, f3, f4, f5, f6, f7⟩ := hF
    simp only [f0, f1, f2, f3, f4, f5, f6, f7]
    clear f0 f1 f2 f3 f4 f5 f6 f7
    have K2 := hP
    have Z2 : w.heap.size ≤ w2.heap.size := K2.size
    clear hP K1
    clear b1_0 c1_0 f1_0 l1_0 e1_0 k1_0; have b1_0 := m1_0; clear m1_0
    obtain ⟨c1_0, f1_0, l1_0, e1_0, k1_0⟩ := Blk.facts b1_0
    clear b1_1 c1_1 f1_1 l1_1 e1_1 k1_1; have b1_1 := m1_1; clear m1_1
    obtain ⟨c1_1, f1_1, l1_1, e1_1, k1_1⟩ := Blk.facts b1_1
    go_wp2_with fail
    refine (RS.out _ (by (repeat' (first | (with_reducible exact K2) | (with_reducible refine Below.setCell ?_ ?_ _) | (with_reducible refine Below.alloc ?_ ?_ _) | (with_reducible refine Below.drew ?_) | (with_reducible refine below_drewN ?_ _))) <;> (first | omega | (simp <;> omega)))).mono ?_
    rintro e w3 ⟨rfl, hb3⟩
    have K3 : Below w.heap.size w w3 := kept_call hb3 (by (repeat' (first | (with_reducible exact K2) | (with_reducible refine Below.setCell ?_ ?_ _) | (with_reducible refine Below.alloc ?_ ?_ _) | (with_reducible refine Below.drew ?_) | (with_reducible refine below_drewN ?_ _))) <;> (first | omega | (simp <;> omega)))
    have Z3 : w.heap.size ≤ w3.heap.size := K3.size
    have b1_0' := Blk.keep (g := w.heap.size) hb3 (by (repeat' (first | (with_reducible refine' Blk.alloc ?_ _) | (with_reducible refine' Blk.drew ?_) | (with_reducible refine' Blk.drewN ?_ _) | (with_reducible refine' Blk.put ?_ ?_) | (with_reducible refine' Blk.far ?_ ?_ _) | exact b1_0 | exact rfl)) <;> (first | omega | (simp <;> omega)))
    (try simp only [List.setIfInBounds_toArray, List.set_cons_zero, List.set_cons_succ] at b1_0')
    have b1_1' := Blk.keep (g := w.heap.size + 1) hb3 (by (repeat' (first | (with_reducible refine' Blk.alloc ?_ _) | (with_reducible refine' Blk.drew ?_) | (with_reducible refine' Blk.drewN ?_ _) | (with_reducible refine' Blk.put ?_ ?_) | (with_reducible refine' Blk.far ?_ ?_ _) | exact b1_1 | exact rfl)) <;> (first | omega | (simp <;> omega)))
    (try simp only [List.setIfInBounds_toArray, List.set_cons_zero, List.set_cons_succ] at b1_1')
    clear hb3 K2
    clear b1_0 c1_0 f1_0 l1_0 e1_0 k1_0; have b1_0 := b1_0'; clear b1_0'
    clear b1_1 c1_1 f1_1 l1_1 e1_1 k1_1; have b1_1 := b1_1'; clear b1_1'
    obtain ⟨c1_0, f1_0, l1_0, e1_0, k1_0⟩ := Blk.facts b1_0
    obtain ⟨c1_1, f1_1, l1_1, e1_1, k1_1⟩ := Blk.facts b1_1
    go_wp2
    exact bodyPost_ret (v := .tuple #[.int .i64 ((c + ov) * 1048576 + p), .int .i64 0]) (by simp [results, Try.results66, go_sem, *]) rfl ⟨rfl, (by (repeat' (first | (with_reducible exact K3) | (with_reducible refine Below.setCell ?_ ?_ _) | (with_reducible refine Below.alloc ?_ ?_ _) | (with_reducible refine Below.drew ?_) | (with_reducible refine below_drewN ?_ _))) <;> (first | omega | (simp <;> omega)))⟩
/-- The instants of a reading's number. -/
theorem num_at {first : Int} {zs : List (Int × Int)} (hv : LVal first zs) (t : Int) : stepL first zs (utN first zs (t / 1048576)) ≠ -1 ∧ ((stepL first zs (utN first zs (t / 1048576)) ≠ 1 ∧ (utN first zs (t / 1048576) + offL first zs (utN first zs (t / 1048576))) * 1048576 + t % 1048576 = t) ∨ (stepL first zs (utN first zs (t / 1048576)) = 1 ∧ (utN first zs (t / 1048576) + offL first zs (utN first zs (t / 1048576))) * 1048576 + t % 1048576 ≤ t ∧ t ≤ (utN first zs (t / 1048576) + offL first zs (utN first zs (t / 1048576))) * 1048576 + t % 1048576 + 1048576)) := by
  obtain ⟨k, hk, hU, h2, h1, -, hf⟩ := ut_found hv (t / 1048576)
  obtain ⟨f1, f2, f3⟩ := hf
  refine ⟨f2, ?_⟩
  generalize utN first zs (t / 1048576) = N at *
  generalize utB first zs (t / 1048576) = B at *
  by_cases hs : stepL first zs N = 1
  · refine .inr ⟨hs, ?_⟩
    cases B <;> simp at f3 <;> omega
  · refine .inl ⟨hs, ?_⟩
    cases B with
    | true => exact absurd (f1 rfl) hs
    | false => simp at f3; omega
set_option maxRecDepth 100000 in
set_option maxHeartbeats 2000000 in
theorem number_ok (first : Int) (A : Option Addr) (len cap : Nat) (zs : List (Int × Int)) (hv : LVal first zs) (tt : Int) (hin : inS (utN first zs (tt / 1048576)) = true) (w : World) (h : PrAt w A len zs) (hz : ∀ z ∈ zs, IntIn z.1 ∧ IntIn z.2) :
    Calls Try.prog 32 #[.agg #[.int .i64 first, .slice A len cap], .int .i64 (utN first zs (tt / 1048576)), .int .i64 (tt % 1048576)] w (fun e w' => ∃ a b : Int, e = .returned (.tuple #[.agg #[.int .i64 a, .int .i64 b], .int .i64 0]) ∧ a ≤ tt ∧ tt ≤ b ∧ -1152921504606846976 ≤ a ∧ b ≤ 1152921504606846976 ∧ Below w.heap.size w w') := by
  obtain ⟨hs, hn⟩ := num_at hv tt
  have hcb := inS_true.1 hin
  have ob := offL_in hv (utN first zs (tt / 1048576))
  have RT := Lib.hid (fun W (hW : Below w.heap.size w W) => tai_ok first A len cap zs hv (utN first zs (tt / 1048576)) (tt % 1048576) hin hs (by omega) (by omega) W (h.below hW) hz)
  have RS := Lib.hid (fun W (hW : Below w.heap.size w W) => step_any first A len cap zs hv (utN first zs (tt / 1048576)) (by omega) (by omega) W (h.below hW))
  clear h hz hv hin hs
  obtain ⟨L, hL⟩ : ∃ L, (utN first zs (tt / 1048576) + offL first zs (utN first zs (tt / 1048576))) * 1048576 + tt % 1048576 = L := ⟨_, rfl⟩
  have bL : -1152921504606846976 ≤ L ∧ L + 1048576 ≤ 1152921504606846976 := by omega
  rw [hL] at RT hn
  clear hL hcb ob
  generalize stepL first zs (utN first zs (tt / 1048576)) = sv at *
  generalize utN first zs (tt / 1048576) = N at *
  generalize tt % 1048576 = p at *
  have wL : IntKind.i64.wrap (L + 1048576) = L + 1048576 := IntWalk.i64_in _ (by omega)
  rcases hn with ⟨n1, n2⟩ | ⟨n1, n2, n3⟩
  · have g3 : decide (sv = 1) = false := decide_eq_false n1
    have g4 : (sv == 1) = false := by simpa using n1
    have HN2 := Lib.hid n2; clear n2
    go_enter Try.func32, Try.ntmps32
    go_wp2_with fail
    refine (RT.out _ (by (repeat' (first | (with_reducible exact Below.refl _ _) | (with_reducible refine Below.setCell ?_ ?_ _) | (with_reducible refine Below.alloc ?_ ?_ _) | (with_reducible refine Below.drew ?_) | (with_reducible refine below_drewN ?_ _))) <;> (first | omega | (simp <;> omega)))).mono ?_
    rintro e w1 ⟨rfl, hb1⟩
    have K1 : Below w.heap.size w w1 := kept_call hb1 (by (repeat' (first | (with_reducible exact Below.refl _ _) | (with_reducible refine Below.setCell ?_ ?_ _) | (with_reducible refine Below.alloc ?_ ?_ _) | (with_reducible refine Below.drew ?_) | (with_reducible refine below_drewN ?_ _))) <;> (first | omega | (simp <;> omega)))
    have Z1 : w.heap.size ≤ w1.heap.size := K1.size
    have b1_0 := Blk.keep (g := w.heap.size) hb1 (by (repeat' (first | ((with_reducible refine' Blk.newE ?_); first | rfl | (simp; done)) | (with_reducible refine' Blk.alloc ?_ _) | (with_reducible refine' Blk.drew ?_) | (with_reducible refine' Blk.drewN ?_ _) | (with_reducible refine' Blk.put ?_ ?_) | (with_reducible refine' Blk.far ?_ ?_ _) | exact rfl)) <;> (first | omega | (simp <;> omega)))
    (try simp only [List.setIfInBounds_toArray, List.set_cons_zero, List.set_cons_succ] at b1_0)
    have b1_1 := Blk.keep (g := w.heap.size + 1) hb1 (by (repeat' (first | ((with_reducible refine' Blk.newE ?_); first | rfl | (simp; done)) | (with_reducible refine' Blk.alloc ?_ _) | (with_reducible refine' Blk.drew ?_) | (with_reducible refine' Blk.drewN ?_ _) | (with_reducible refine' Blk.put ?_ ?_) | (with_reducible refine' Blk.far ?_ ?_ _) | exact rfl)) <;> (first | omega | (simp <;> omega)))
    (try simp only [List.setIfInBounds_toArray, List.set_cons_zero, List.set_cons_succ] at b1_1)
    clear hb1
    obtain ⟨c1_0, f1_0, l1_0, e1_0, k1_0⟩ := Blk.facts b1_0
    obtain ⟨c1_1, f1_1, l1_1, e1_1, k1_1⟩ := Blk.facts b1_1
    have o1_0 := l1_0
    have o1_1 := l1_1
    go_wp2_with fail
    refine (RS.out _ (by (repeat' (first | (with_reducible exact K1) | (with_reducible refine Below.setCell ?_ ?_ _) | (with_reducible refine Below.alloc ?_ ?_ _) | (with_reducible refine Below.drew ?_) | (with_reducible refine below_drewN ?_ _))) <;> (first | omega | (simp <;> omega)))).mono ?_
    rintro e w2 ⟨rfl, hb2⟩
    have K2 : Below w.heap.size w w2 := kept_call hb2 (by (repeat' (first | (with_reducible exact K1) | (with_reducible refine Below.setCell ?_ ?_ _) | (with_reducible refine Below.alloc ?_ ?_ _) | (with_reducible refine Below.drew ?_) | (with_reducible refine below_drewN ?_ _))) <;> (first | omega | (simp <;> omega)))
    have Z2 : w.heap.size ≤ w2.heap.size := K2.size
    have b1_0' := Blk.keep (g := w.heap.size) hb2 (by (repeat' (first | (with_reducible refine' Blk.alloc ?_ _) | (with_reducible refine' Blk.drew ?_) | (with_reducible refine' Blk.drewN ?_ _) | (with_reducible refine' Blk.put ?_ ?_) | (with_reducible refine' Blk.far ?_ ?_ _) | exact b1_0 | exact rfl)) <;> (first | omega | (simp <;> omega)))
    (try simp only [List.setIfInBounds_toArray, List.set_cons_zero, List.set_cons_succ] at b1_0')
    have b1_1' := Blk.keep (g := w.heap.size + 1) hb2 (by (repeat' (first | (with_reducible refine' Blk.alloc ?_ _) | (with_reducible refine' Blk.drew ?_) | (with_reducible refine' Blk.drewN ?_ _) | (with_reducible refine' Blk.put ?_ ?_) | (with_reducible refine' Blk.far ?_ ?_ _) | exact b1_1 | exact rfl)) <;> (first | omega | (simp <;> omega)))
    (try simp only [List.setIfInBounds_toArray, List.set_cons_zero, List.set_cons_succ] at b1_1')
    have b2_0 := Blk.keep (g := w1.heap.size) hb2 (by (repeat' (first | ((with_reducible refine' Blk.newE ?_); first | rfl | (simp; done)) | (with_reducible refine' Blk.alloc ?_ _) | (with_reducible refine' Blk.drew ?_) | (with_reducible refine' Blk.drewN ?_ _) | (with_reducible refine' Blk.put ?_ ?_) | (with_reducible refine' Blk.far ?_ ?_ _) | exact rfl)) <;> (first | omega | (simp <;> omega)))
    (try simp only [List.setIfInBounds_toArray, List.set_cons_zero, List.set_cons_succ] at b2_0)
    clear hb2 K1
    clear b1_0 c1_0 f1_0 l1_0 e1_0 k1_0; have b1_0 := b1_0'; clear b1_0'
    clear b1_1 c1_1 f1_1 l1_1 e1_1 k1_1; have b1_1 := b1_1'; clear b1_1'
    obtain ⟨c1_0, f1_0, l1_0, e1_0, k1_0⟩ := Blk.facts b1_0
    obtain ⟨c1_1, f1_1, l1_1, e1_1, k1_1⟩ := Blk.facts b1_1
    obtain ⟨c2_0, f2_0, l2_0, e2_0, k2_0⟩ := Blk.facts b2_0
    have o2_0 := l2_0
    go_wp2
    exact bodyPost_ret (v := .tuple #[.agg #[.int .i64 L, .int .i64 L], .int .i64 0]) (by simp [results, Try.results32, go_sem, *]) rfl ⟨L, L, rfl, by have := HN2.out; omega, by have := HN2.out; omega, by omega, by omega, by (repeat' (first | (with_reducible exact K2) | (with_reducible refine Below.setCell ?_ ?_ _) | (with_reducible refine Below.alloc ?_ ?_ _) | (with_reducible refine Below.drew ?_) | (with_reducible refine below_drewN ?_ _))) <;> (first | omega | (simp <;> omega))⟩
  · subst n1
    go_enter Try.func32, Try.ntmps32
    go_wp2_with fail
    refine (RT.out _ (by (repeat' (first | (with_reducible exact Below.refl _ _) | (with_reducible refine Below.setCell ?_ ?_ _) | (with_reducible refine Below.alloc ?_ ?_ _) | (with_reducible refine Below.drew ?_) | (with_reducible refine below_drewN ?_ _))) <;> (first | omega | (simp <;> omega)))).mono ?_
    rintro e w1 ⟨rfl, hb1⟩
    have K1 : Below w.heap.size w w1 := kept_call hb1 (by (repeat' (first | (with_reducible exact Below.refl _ _) | (with_reducible refine Below.setCell ?_ ?_ _) | (with_reducible refine Below.alloc ?_ ?_ _) | (with_reducible refine Below.drew ?_) | (with_reducible refine below_drewN ?_ _))) <;> (first | omega | (simp <;> omega)))
    have Z1 : w.heap.size ≤ w1.heap.size := K1.size
    have b1_0 := Blk.keep (g := w.heap.size) hb1 (by (repeat' (first | ((with_reducible refine' Blk.newE ?_); first | rfl | (simp; done)) | (with_reducible refine' Blk.alloc ?_ _) | (with_reducible refine' Blk.drew ?_) | (with_reducible refine' Blk.drewN ?_ _) | (with_reducible refine' Blk.put ?_ ?_) | (with_reducible refine' Blk.far ?_ ?_ _) | exact rfl)) <;> (first | omega | (simp <;> omega)))
    (try simp only [List.setIfInBounds_toArray, List.set_cons_zero, List.set_cons_succ] at b1_0)
    have b1_1 := Blk.keep (g := w.heap.size + 1) hb1 (by (repeat' (first | ((with_reducible refine' Blk.newE ?_); first | rfl | (simp; done)) | (with_reducible refine' Blk.alloc ?_ _) | (with_reducible refine' Blk.drew ?_) | (with_reducible refine' Blk.drewN ?_ _) | (with_reducible refine' Blk.put ?_ ?_) | (with_reducible refine' Blk.far ?_ ?_ _) | exact rfl)) <;> (first | omega | (simp <;> omega)))
    (try simp only [List.setIfInBounds_toArray, List.set_cons_zero, List.set_cons_succ] at b1_1)
    clear hb1
    obtain ⟨c1_0, f1_0, l1_0, e1_0, k1_0⟩ := Blk.facts b1_0
    obtain ⟨c1_1, f1_1, l1_1, e1_1, k1_1⟩ := Blk.facts b1_1
    have o1_0 := l1_0
    have o1_1 := l1_1
    go_wp2_with fail
    refine (RS.out _ (by (repeat' (first | (with_reducible exact K1) | (with_reducible refine Below.setCell ?_ ?_ _) | (with_reducible refine Below.alloc ?_ ?_ _) | (with_reducible refine Below.drew ?_) | (with_reducible refine below_drewN ?_ _))) <;> (first | omega | (simp <;> omega)))).mono ?_
    rintro e w2 ⟨rfl, hb2⟩
    have K2 : Below w.heap.size w w2 := kept_call hb2 (by (repeat' (first | (with_reducible exact K1) | (with_reducible refine Below.setCell ?_ ?_ _) | (with_reducible refine Below.alloc ?_ ?_ _) | (with_reducible refine Below.drew ?_) | (with_reducible refine below_drewN ?_ _))) <;> (first | omega | (simp <;> omega)))
    have Z2 : w.heap.size ≤ w2.heap.size := K2.size
    have b1_0' := Blk.keep (g := w.heap.size) hb2 (by (repeat' (first | (with_reducible refine' Blk.alloc ?_ _) | (with_reducible refine' Blk.drew ?_) | (with_reducible refine' Blk.drewN ?_ _) | (with_reducible refine' Blk.put ?_ ?_) | (with_reducible refine' Blk.far ?_ ?_ _) | exact b1_0 | exact rfl)) <;> (first | omega | (simp <;> omega)))
    (try simp only [List.setIfInBounds_toArray, List.set_cons_zero, List.set_cons_succ] at b1_0')
    have b1_1' := Blk.keep (g := w.heap.size + 1) hb2 (by (repeat' (first | (with_reducible refine' Blk.alloc ?_ _) | (with_reducible refine' Blk.drew ?_) | (with_reducible refine' Blk.drewN ?_ _) | (with_reducible refine' Blk.put ?_ ?_) | (with_reducible refine' Blk.far ?_ ?_ _) | exact b1_1 | exact rfl)) <;> (first | omega | (simp <;> omega)))
    (try simp only [List.setIfInBounds_toArray, List.set_cons_zero, List.set_cons_succ] at b1_1')
    have b2_0 := Blk.keep (g := w1.heap.size) hb2 (by (repeat' (first | ((with_reducible refine' Blk.newE ?_); first | rfl | (simp; done)) | (with_reducible refine' Blk.alloc ?_ _) | (with_reducible refine' Blk.drew ?_) | (with_reducible refine' Blk.drewN ?_ _) | (with_reducible refine' Blk.put ?_ ?_) | (with_reducible refine' Blk.far ?_ ?_ _) | exact rfl)) <;> (first | omega | (simp <;> omega)))
    (try simp only [List.setIfInBounds_toArray, List.set_cons_zero, List.set_cons_succ] at b2_0)
    clear hb2 K1
    clear b1_0 c1_0 f1_0 l1_0 e1_0 k1_0; have b1_0 := b1_0'; clear b1_0'
    clear b1_1 c1_1 f1_1 l1_1 e1_1 k1_1; have b1_1 := b1_1'; clear b1_1'
    obtain ⟨c1_0, f1_0, l1_0, e1_0, k1_0⟩ := Blk.facts b1_0
    obtain ⟨c1_1, f1_1, l1_1, e1_1, k1_1⟩ := Blk.facts b1_1
    obtain ⟨c2_0, f2_0, l2_0, e2_0, k2_0⟩ := Blk.facts b2_0
    have o2_0 := l2_0
    go_wp2
    exact bodyPost_ret (v := .tuple #[.agg #[.int .i64 L, .int .i64 (L + 1048576)], .int .i64 0]) (by simp [results, Try.results32, go_sem, *]) rfl ⟨L, L + 1048576, rfl, by omega, by omega, by omega, by omega, by (repeat' (first | (with_reducible exact K2) | (with_reducible refine Below.setCell ?_ ?_ _) | (with_reducible refine Below.alloc ?_ ?_ _) | (with_reducible refine Below.drew ?_) | (with_reducible refine below_drewN ?_ _))) <;> (first | omega | (simp <;> omega))⟩
theorem up_exact {t : Int} : upNK (t * 4096) = t := by unfold upNK; rw [if_pos (by omega)]; omega
theorem down_exact {t : Int} : t * 4096 / 4096 = t := by omega
set_option maxHeartbeats 1000000 in
theorem stamp0 (tt : Int) (t0 : 0 ≤ tt) (t1 : tt < 4503599627370496) (w : World) :
    Calls Try.prog 95 #[.int .i64 0, .int .u64 (tt * 4096)] w (RB w (.agg #[.int .i64 tt, .int .i64 tt])) := by
  have RD := Lib.hid (fun W => (show Calls _ _ _ _ (RB W _) from (down_exact (t := tt) ▸ down_anyK (tt * 4096) (by omega) (by omega) W).mono (fun _ _ hh => ⟨hh.1, hh.2 ▸ Below.refl _ _⟩)))
  have RU := Lib.hid (fun W => (show Calls _ _ _ _ (RB W _) from (up_exact (t := tt) ▸ up_anyK (tt * 4096) (by omega) (by omega) W).mono (fun _ _ hh => ⟨hh.1, hh.2 ▸ Below.refl _ _⟩)))
  have w1 : IntKind.i64.wrap tt = tt := IntWalk.i64_in _ (by omega)
  go_enter Try.func95, Try.ntmps95
  go_wp2_with fail
  refine (RD.out _).mono ?_
  rintro e w1 ⟨rfl, hb1⟩
  have K1 : Below w.heap.size w w1 := kept_call hb1 (by (repeat' (first | (with_reducible exact Below.refl _ _) | (with_reducible refine Below.setCell ?_ ?_ _) | (with_reducible refine Below.alloc ?_ ?_ _) | (with_reducible refine Below.drew ?_) | (with_reducible refine below_drewN ?_ _))) <;> (first | omega | (simp <;> omega)))
  have Z1 : w.heap.size ≤ w1.heap.size := K1.size
  have b1_0 := Blk.keep (g := w.heap.size) hb1 (by (repeat' (first | ((with_reducible refine' Blk.newE ?_); first | rfl | (simp; done)) | (with_reducible refine' Blk.alloc ?_ _) | (with_reducible refine' Blk.drew ?_) | (with_reducible refine' Blk.drewN ?_ _) | (with_reducible refine' Blk.put ?_ ?_) | (with_reducible refine' Blk.far ?_ ?_ _) | exact rfl)) <;> (first | omega | (simp <;> omega)))
  (try simp only [List.setIfInBounds_toArray, List.set_cons_zero, List.set_cons_succ] at b1_0)
  clear hb1
  obtain ⟨c1_0, f1_0, l1_0, e1_0, k1_0⟩ := Blk.facts b1_0
  have o1_0 := l1_0
  go_wp2_with fail
  refine (RU.out _).mono ?_
  rintro e w2 ⟨rfl, hb2⟩
  have K2 : Below w.heap.size w w2 := kept_call hb2 (by (repeat' (first | (with_reducible exact K1) | (with_reducible refine Below.setCell ?_ ?_ _) | (with_reducible refine Below.alloc ?_ ?_ _) | (with_reducible refine Below.drew ?_) | (with_reducible refine below_drewN ?_ _))) <;> (first | omega | (simp <;> omega)))
  have Z2 : w.heap.size ≤ w2.heap.size := K2.size
  have b1_0' := Blk.keep (g := w.heap.size) hb2 (by (repeat' (first | (with_reducible refine' Blk.alloc ?_ _) | (with_reducible refine' Blk.drew ?_) | (with_reducible refine' Blk.drewN ?_ _) | (with_reducible refine' Blk.put ?_ ?_) | (with_reducible refine' Blk.far ?_ ?_ _) | exact b1_0 | exact rfl)) <;> (first | omega | (simp <;> omega)))
  (try simp only [List.setIfInBounds_toArray, List.set_cons_zero, List.set_cons_succ] at b1_0')
  clear hb2 K1
  clear b1_0 c1_0 f1_0 l1_0 e1_0 k1_0; have b1_0 := b1_0'; clear b1_0'
  obtain ⟨c1_0, f1_0, l1_0, e1_0, k1_0⟩ := Blk.facts b1_0
  go_wp2
  exact bodyPost_ret (v := .agg #[.int .i64 tt, .int .i64 tt]) (by simp [results, Try.results95, go_sem, *]) rfl ⟨rfl, (by (repeat' (first | (with_reducible exact K2) | (with_reducible refine Below.setCell ?_ ?_ _) | (with_reducible refine Below.alloc ?_ ?_ _) | (with_reducible refine Below.drew ?_) | (with_reducible refine below_drewN ?_ _))) <;> (first | omega | (simp <;> omega)))⟩
theorem infoSpE : (Try.prog.info? 42).map (fun i => (i.zero, i.size, i.bytes)) = some (some (.agg #[.int .i64 0, .int .i64 0]), 2, 16) := by kernel_rfl
def UfRel (w : World) (tt lo hi : Int) (G : Nat) (v i : Value) (wr : World) : Prop := Blk wr w.heap.size 42 #[.int .i64 lo, .int .i64 hi] ∧ Below w.heap.size w wr ∧ ((G = 1 ∧ i = .int .i64 0 ∧ v = .slice none 0 0) ∨ (G = 0 ∧ i = .int .i64 1 ∧ ∃ g cap, v = .slice (some ⟨g, 0, none⟩) 1 cap ∧ wr.ownsRow (w.heap.size + 1) 42 2 (.slice (some ⟨g, 0, none⟩) 1 cap) 1 [.int .i64 tt, .int .i64 tt]))
set_option maxRecDepth 100000 in
set_option maxHeartbeats 2000000 in
theorem unfold1 (lo hi tt : Int) (t0 : 0 ≤ tt) (t1 : tt < 4503599627370496) (h1 : lo ≤ tt) (h2 : tt ≤ hi) (h3 : tt - lo ≤ 2251799813685248) (h4 : hi - tt ≤ 2251799813685248) (w : World) :
    Calls Try.prog 68 #[.agg #[.int .i64 lo, .int .i64 hi], .int .u64 (tt * 4096)] w (fun e w' => ∃ (g cap : Nat), e = .returned (.tuple #[.slice (some ⟨g, 0, none⟩) 1 cap, .int .i64 0]) ∧ g < w'.heap.size ∧ w.heap.size ≤ g ∧ w'.cell? ⟨g, 0, none⟩ = some (.int .i64 tt) ∧ w'.cell? ⟨g, 1, none⟩ = some (.int .i64 tt) ∧ Below w.heap.size w w') := by
  have hvs : vS lo hi = true := vS_true.2 ⟨by omega, by omega, by omega⟩
  have RV := Lib.hid (fun W => hvs ▸ svalidB lo hi W)
  have RD := Lib.hid (fun W => (show Calls _ _ _ _ (RB W _) from (down_exact (t := tt) ▸ down_anyK (tt * 4096) (by omega) (by omega) W).mono (fun _ _ hh => ⟨hh.1, hh.2 ▸ Below.refl _ _⟩)))
  have RU := Lib.hid (fun W => (show Calls _ _ _ _ (RB W _) from (up_exact (t := tt) ▸ up_anyK (tt * 4096) (by omega) (by omega) W).mono (fun _ _ hh => ⟨hh.1, hh.2 ▸ Below.refl _ _⟩)))
  have RST := Lib.hid (fun W => stamp0 tt t0 t1 W)
  have w1 : IntKind.i64.wrap (lo - tt) = lo - tt := IntWalk.i64_in _ (by omega)
  have w2 : IntKind.i64.wrap (lo - tt + 4503599627370496) = lo - tt + 4503599627370496 := IntWalk.i64_in _ (by omega)
  have w3 : IntKind.i64.wrap (lo - tt + 4503599627370496 - 1) = lo - tt + 4503599627370496 - 1 := IntWalk.i64_in _ (by omega)
  have w4 : (lo - tt + 4503599627370496 - 1) / 4503599627370496 = 0 := by omega
  have w5 : IntKind.i64.wrap (hi - tt) = hi - tt := IntWalk.i64_in _ (by omega)
  have w6 : (hi - tt) / 4503599627370496 = 0 := by omega
  have HB := Lib.hid (And.intro t0 (And.intro t1 (And.intro h1 h2)))
  clear hvs
  go_enter Try.func68, Try.ntmps68
  go_wp2_with fail
  refine (RV.out _).mono ?_
  rintro e w1 ⟨rfl, hb1⟩
  have K1 : Below w.heap.size w w1 := kept_call hb1 (by (repeat' (first | (with_reducible exact Below.refl _ _) | (with_reducible refine Below.setCell ?_ ?_ _) | (with_reducible refine Below.alloc ?_ ?_ _) | (with_reducible refine Below.drew ?_) | (with_reducible refine below_drewN ?_ _))) <;> (first | omega | (simp <;> omega)))
  have Z1 : w.heap.size ≤ w1.heap.size := K1.size
  have b1_0 := Blk.keep (g := w.heap.size) hb1 (by (repeat' (first | ((with_reducible refine' Blk.newE ?_); first | rfl | (simp; done)) | (with_reducible refine' Blk.alloc ?_ _) | (with_reducible refine' Blk.drew ?_) | (with_reducible refine' Blk.drewN ?_ _) | (with_reducible refine' Blk.put ?_ ?_) | (with_reducible refine' Blk.far ?_ ?_ _) | exact rfl)) <;> (first | omega | (simp <;> omega)))
  (try simp only [List.setIfInBounds_toArray, List.set_cons_zero, List.set_cons_succ] at b1_0)
  clear hb1
  obtain ⟨c1_0, f1_0, l1_0, e1_0, k1_0⟩ := Blk.facts b1_0
  have o1_0 := l1_0
  go_upto_region 3 with fail
  refine' wp_region_calm (by kernel_rfl) (fun _ _ w' => Below w.heap.size w w' ∧ Blk w' (w.heap.size) 42 #[.int .i64 lo, .int .i64 hi]) (fun _ _ => True) [(Is _), (Is _), (Is _), (Is _), (Is _), (Is _), (Is _), (Is _), (Is _), (Is _), (Is _), (Is _), (Is _), (Is _), (Is _), (Is _)] [[], [0], [], [2], [1, 3], [4], [5], [6], [], [8], [], [10], [9, 11], [12], [7], [13]] [] [] rfl (by kernel_rfl) (fun u => by (simp only [calmPut, Act.put, List.setIfInBounds_toArray, List.set_cons_zero, List.set_cons_succ, Nat.zero_add, Nat.reduceAdd]; rfl)) ?_ (calmKeep_cons keep_is' (calmKeep_cons keep_is' (calmKeep_cons keep_is' (calmKeep_cons keep_is' (calmKeep_cons keep_is' (calmKeep_cons keep_is' (calmKeep_cons keep_is' (calmKeep_cons keep_is' (calmKeep_cons keep_is' (calmKeep_cons keep_is' (calmKeep_cons keep_is' (calmKeep_cons keep_is' (calmKeep_cons keep_is' (calmKeep_cons keep_is' (calmKeep_cons keep_is' (calmKeep_cons keep_is' (calmKeep_nil))))))))))))))))) ?_ ?_
  · intro _
    exact ⟨(by (repeat' (first | (with_reducible exact K1) | (with_reducible refine Below.setCell ?_ ?_ _) | (with_reducible refine Below.alloc ?_ ?_ _) | (with_reducible refine Below.drew ?_) | (with_reducible refine below_drewN ?_ _))) <;> (first | omega | (simp <;> omega))), (by (repeat' (first | (with_reducible exact b1_0) | (with_reducible refine' Blk.alloc ?_ _) | (with_reducible refine' Blk.drew ?_) | (with_reducible refine' Blk.drewN ?_ _) | (with_reducible refine' Blk.put ?_ ?_) | (with_reducible refine' Blk.far ?_ ?_ _) | exact b1_0 | exact rfl)) <;> (first | omega | (simp <;> omega)))⟩
  rotate_left 16
  · skip
    refine calmSteps_cons (fun u wq n hn hn2 hC hk K hK => ?_) ?_
    · obtain ⟨hP, m1_0⟩ := hC
      clear hk
      go_simp
      exact hK _ _ _ rfl ⟨hP, m1_0⟩ trivial rfl
    refine calmSteps_cons (fun u wq n hn hn2 hC hk K hK => ?_) ?_
    · obtain ⟨hP, m1_0⟩ := hC
      simp only [calmKnown, List.getElem?_cons_zero, List.getElem?_cons_succ, and_true, Is, Pure, Option.some.injEq, List.getD_cons_zero, List.getD_cons_succ, List.map_cons, List.map_nil] at hk
      have h0 := hk; clear hk
      simp only [h0] at hK ⊢
      have H0 := Lib.hid h0; clear h0
      have z1_0 := m1_0.cell
      go_simp
      exact hK _ _ _ rfl ⟨hP, m1_0⟩ trivial rfl
    refine calmSteps_cons (fun u wq n hn hn2 hC hk K hK => ?_) ?_
    · obtain ⟨hP, m1_0⟩ := hC
      clear hk
      go_simp
      exact hK _ _ _ rfl ⟨hP, m1_0⟩ trivial rfl
    refine calmSteps_cons (fun u wq n hn hn2 hC hk K hK => ?_) ?_
    · obtain ⟨hP, m1_0⟩ := hC
      simp only [calmKnown, List.getElem?_cons_zero, List.getElem?_cons_succ, and_true, Is, Pure, Option.some.injEq, List.getD_cons_zero, List.getD_cons_succ, List.map_cons, List.map_nil] at hk
      have h2 := hk; clear hk
      simp only [h2] at hK ⊢
      have H2 := Lib.hid h2; clear h2
      go_wp2_with fail
      first | (with_reducible refine (RD.out _).mono ?_) | (with_reducible refine (RU.out _).mono ?_)
      rintro e w2 ⟨rfl, hbl⟩
      exact hK _ _ _ rfl ⟨kept_call hbl hP, Blk.keep hbl m1_0⟩ trivial rfl
    refine calmSteps_cons (fun u wq n hn hn2 hC hk K hK => ?_) ?_
    · obtain ⟨hP, m1_0⟩ := hC
      simp only [calmKnown, List.getElem?_cons_zero, List.getElem?_cons_succ, and_true, Is, Pure, Option.some.injEq, List.getD_cons_zero, List.getD_cons_succ, List.map_cons, List.map_nil] at hk
      obtain ⟨h1, h3⟩ := hk
      simp only [h1, h3] at hK ⊢
      have H1 := Lib.hid h1; clear h1; have H3 := Lib.hid h3; clear h3
      go_simp
      exact hK _ _ _ rfl ⟨hP, m1_0⟩ trivial rfl
    refine calmSteps_cons (fun u wq n hn hn2 hC hk K hK => ?_) ?_
    · obtain ⟨hP, m1_0⟩ := hC
      simp only [calmKnown, List.getElem?_cons_zero, List.getElem?_cons_succ, and_true, Is, Pure, Option.some.injEq, List.getD_cons_zero, List.getD_cons_succ, List.map_cons, List.map_nil] at hk
      have h4 := hk; clear hk
      simp only [h4] at hK ⊢
      have H4 := Lib.hid h4; clear h4
      go_simp
      exact hK _ _ _ rfl ⟨hP, m1_0⟩ trivial rfl
    refine calmSteps_cons (fun u wq n hn hn2 hC hk K hK => ?_) ?_
    · obtain ⟨hP, m1_0⟩ := hC
      simp only [calmKnown, List.getElem?_cons_zero, List.getElem?_cons_succ, and_true, Is, Pure, Option.some.injEq, List.getD_cons_zero, List.getD_cons_succ, List.map_cons, List.map_nil] at hk
      have h5 := hk; clear hk
      simp only [h5] at hK ⊢
      have H5 := Lib.hid h5; clear h5
      go_simp
      exact hK _ _ _ rfl ⟨hP, m1_0⟩ trivial rfl
    refine calmSteps_cons (fun u wq n hn hn2 hC hk K hK => ?_) ?_
    · obtain ⟨hP, m1_0⟩ := hC
      simp only [calmKnown, List.getElem?_cons_zero, List.getElem?_cons_succ, and_true, Is, Pure, Option.some.injEq, List.getD_cons_zero, List.getD_cons_succ, List.map_cons, List.map_nil] at hk
      have h6 := hk; clear hk
      simp only [h6] at hK ⊢
      have H6 := Lib.hid h6; clear h6
      go_simp
      exact hK _ _ _ rfl ⟨hP, m1_0⟩ trivial rfl
    refine calmSteps_cons (fun u wq n hn hn2 hC hk K hK => ?_) ?_
    · obtain ⟨hP, m1_0⟩ := hC
      clear hk
      go_simp
      exact hK _ _ _ rfl ⟨hP, m1_0⟩ trivial rfl
    refine calmSteps_cons (fun u wq n hn hn2 hC hk K hK => ?_) ?_
    · obtain ⟨hP, m1_0⟩ := hC
      simp only [calmKnown, List.getElem?_cons_zero, List.getElem?_cons_succ, and_true, Is, Pure, Option.some.injEq, List.getD_cons_zero, List.getD_cons_succ, List.map_cons, List.map_nil] at hk
      have h8 := hk; clear hk
      simp only [h8] at hK ⊢
      have H8 := Lib.hid h8; clear h8
      have z1_0 := m1_0.cell
      go_simp
      exact hK _ _ _ rfl ⟨hP, m1_0⟩ trivial rfl
    refine calmSteps_cons (fun u wq n hn hn2 hC hk K hK => ?_) ?_
    · obtain ⟨hP, m1_0⟩ := hC
      clear hk
      go_simp
      exact hK _ _ _ rfl ⟨hP, m1_0⟩ trivial rfl
    refine calmSteps_cons (fun u wq n hn hn2 hC hk K hK => ?_) ?_
    · obtain ⟨hP, m1_0⟩ := hC
      simp only [calmKnown, List.getElem?_cons_zero, List.getElem?_cons_succ, and_true, Is, Pure, Option.some.injEq, List.getD_cons_zero, List.getD_cons_succ, List.map_cons, List.map_nil] at hk
      have h10 := hk; clear hk
      simp only [h10] at hK ⊢
      have H10 := Lib.hid h10; clear h10
      go_wp2_with fail
      first | (with_reducible refine (RD.out _).mono ?_) | (with_reducible refine (RU.out _).mono ?_)
      rintro e w2 ⟨rfl, hbl⟩
      exact hK _ _ _ rfl ⟨kept_call hbl hP, Blk.keep hbl m1_0⟩ trivial rfl
    refine calmSteps_cons (fun u wq n hn hn2 hC hk K hK => ?_) ?_
    · obtain ⟨hP, m1_0⟩ := hC
      simp only [calmKnown, List.getElem?_cons_zero, List.getElem?_cons_succ, and_true, Is, Pure, Option.some.injEq, List.getD_cons_zero, List.getD_cons_succ, List.map_cons, List.map_nil] at hk
      obtain ⟨h9, h11⟩ := hk
      simp only [h9, h11] at hK ⊢
      have H9 := Lib.hid h9; clear h9; have H11 := Lib.hid h11; clear h11
      go_simp
      exact hK _ _ _ rfl ⟨hP, m1_0⟩ trivial rfl
    refine calmSteps_cons (fun u wq n hn hn2 hC hk K hK => ?_) ?_
    · obtain ⟨hP, m1_0⟩ := hC
      simp only [calmKnown, List.getElem?_cons_zero, List.getElem?_cons_succ, and_true, Is, Pure, Option.some.injEq, List.getD_cons_zero, List.getD_cons_succ, List.map_cons, List.map_nil] at hk
      have h12 := hk; clear hk
      simp only [h12] at hK ⊢
      have H12 := Lib.hid h12; clear h12
      go_simp
      exact hK _ _ _ rfl ⟨hP, m1_0⟩ trivial rfl
    refine calmSteps_cons (fun u wq n hn hn2 hC hk K hK => ?_) ?_
    · obtain ⟨hP, m1_0⟩ := hC
      simp only [calmKnown, List.getElem?_cons_zero, List.getElem?_cons_succ, and_true, Is, Pure, Option.some.injEq, List.getD_cons_zero, List.getD_cons_succ, List.map_cons, List.map_nil] at hk
      have h7 := hk; clear hk
      simp only [h7] at hK ⊢
      have H7 := Lib.hid h7; clear h7
      go_simp
      exact hK _ _ _ rfl ⟨hP, m1_0⟩ trivial rfl
    refine calmSteps_cons (fun u wq n hn hn2 hC hk K hK => ?_) ?_
    · obtain ⟨hP, m1_0⟩ := hC
      simp only [calmKnown, List.getElem?_cons_zero, List.getElem?_cons_succ, and_true, Is, Pure, Option.some.injEq, List.getD_cons_zero, List.getD_cons_succ, List.map_cons, List.map_nil] at hk
      have h13 := hk; clear hk
      simp only [h13] at hK ⊢
      have H13 := Lib.hid h13; clear h13
      go_simp
      exact hK _ _ _ rfl ⟨hP, m1_0⟩ trivial rfl
    exact calmSteps_nil
  · intro u w2 hC hF
    obtain ⟨hP, m1_0⟩ := hC
    simp only [calmFacts, Is, and_true] at hF
    obtain ⟨f0, f1, f2, f3, f4, f5, f6, f7, f8, f9, f10, f11, f12, f13, f14, f15⟩ := hF
    simp only [f0, f1, f2, f3, f4, f5, f6, f7, f8, f9, f10, f11, f12, f13, f14, f15]
    clear f0 f1 f2 f3 f4 f5 f6 f7 f8 f9 f10 f11 f12 f13 f14 f15
    have K2 := hP
    have Z2 : w.heap.size ≤ w2.heap.size := K2.size
    clear hP K1
    clear b1_0 c1_0 f1_0 l1_0 e1_0 k1_0; have b1_0 := m1_0; clear m1_0
    obtain ⟨c1_0, f1_0, l1_0, e1_0, k1_0⟩ := Blk.facts b1_0
    go_wp2
    go_loopg [8, 35] 1 (fun G v i wr => UfRel w tt lo hi G v i wr)
    case atStart => exact ⟨by (repeat' (first | (with_reducible exact b1_0) | (with_reducible refine' Blk.alloc ?_ _) | (with_reducible refine' Blk.drew ?_) | (with_reducible refine' Blk.drewN ?_ _) | (with_reducible refine' Blk.put ?_ ?_) | (with_reducible refine' Blk.far ?_ ?_ _) | exact b1_0 | exact rfl)) <;> (first | omega | (simp <;> omega)), by (repeat' (first | (with_reducible exact K2) | (with_reducible refine Below.setCell ?_ ?_ _) | (with_reducible refine Below.alloc ?_ ?_ _) | (with_reducible refine Below.drew ?_) | (with_reducible refine below_drewN ?_ _))) <;> (first | omega | (simp <;> omega)), .inl ⟨rfl, rfl, rfl⟩⟩
    case round =>
      obtain ⟨b0, KR, hrr⟩ := hrel
      clear K2 b1_0 c1_0 f1_0 l1_0 e1_0 k1_0
      have ZR := KR.size
      rcases hrr with ⟨rfl, rfl, rfl⟩ | ⟨rfl, rfl, g, cp, rfl, hown⟩
      obtain ⟨c0, f0, l0, e0, k0⟩ := Blk.facts b0
      · obtain ⟨i0, hif, hz0, hz1, hz2⟩ := info_parts infoSpE
        go_wp2_with fail
        refine (RST.out _).mono ?_
        rintro e w3 ⟨rfl, hb3⟩
        have K3 : Below w.heap.size w w3 := kept_call hb3 (by (repeat' (first | (with_reducible exact KR) | (with_reducible refine Below.setCell ?_ ?_ _) | (with_reducible refine Below.alloc ?_ ?_ _) | (with_reducible refine Below.drew ?_) | (with_reducible refine below_drewN ?_ _))) <;> (first | omega | (simp <;> omega)))
        have Z3 : w.heap.size ≤ w3.heap.size := K3.size
        have b0' := Blk.keep (g := w.heap.size) hb3 (by (repeat' (first | (with_reducible refine' Blk.alloc ?_ _) | (with_reducible refine' Blk.drew ?_) | (with_reducible refine' Blk.drewN ?_ _) | (with_reducible refine' Blk.put ?_ ?_) | (with_reducible refine' Blk.far ?_ ?_ _) | exact b0 | exact rfl)) <;> (first | omega | (simp <;> omega)))
        (try simp only [List.setIfInBounds_toArray, List.set_cons_zero, List.set_cons_succ] at b0')
        clear hb3 KR
        clear b0 c0 f0 l0 e0 k0; have b0 := b0'; clear b0'
        obtain ⟨c0, f0, l0, e0, k0⟩ := Blk.facts b0
        go_wp2_with (at_builtin; refine wpList_append_lies _ rfl _ _ 63 rfl (w.heap.size + 1) 42 i0 (.agg #[.int .i64 0, .int .i64 0]) 2 16 Try.underlying63 hif hz0 hz1 hz2 rfl (by decide) _ 0 [] rfl (World.ownsRow_nil _ _ _ _) ⟨_, 0, none⟩ 1 1 [.int .i64 tt, .int .i64 tt] rfl rfl (World.news_of_block (t := 42) (fr := (0, 0)) (Blk.new _ _ _)) ?c2 (by decide) ?c3 ?c4 ?c5 _ rfl ?_)
        case c2 => intro u hu; simp at hu; rcases hu with rfl | rfl <;> rfl
        case c3 => unfold maxLen; omega
        case c4 => omega
        case c5 => simp; omega
        intro g cp w7 hown hgrow hlie hglt
        have bO2 : Blk w7 w.heap.size 42 #[.int .i64 lo, .int .i64 hi] := (hgrow.block _ (by simp; omega) (fun e => by cases e)).trans (b0.alloc _)
        have K7 : Below w.heap.size w w7 := ((K3).alloc (by omega) _).grown hgrow (by simp; omega) (fun k hk => by cases hk)
        have HOWN := Lib.hid hown; clear hown hgrow
        go_wp2
        go_roundg 0
        case measure => omega
        case rel => exact ⟨bO2, K7, .inr ⟨rfl, rfl, g, cp, rfl, HOWN.out⟩⟩
      · have HOWN := Lib.hid hown
        have hgb := (hown.lt g (by simp [Value.ownBlock]))
        have hc0 := hown.cellAt 0 (by omega)
        have hc1 := hown.cellAt 1 (by omega)
        clear hown
        go_wp2
        exact bodyPost_ret (v := .tuple #[.slice (some ⟨g, 0, none⟩) 1 cp, .int .i64 0]) (by simp [results, Try.results68, go_sem, *]) rfl ⟨g, cp, rfl, hgb.2, by omega, hc0, hc1, by (repeat' (first | (with_reducible exact KR) | (with_reducible refine Below.setCell ?_ ?_ _) | (with_reducible refine Below.alloc ?_ ?_ _) | (with_reducible refine Below.drew ?_) | (with_reducible refine below_drewN ?_ _))) <;> (first | omega | (simp <;> omega))⟩
set_option maxRecDepth 100000 in
set_option maxHeartbeats 2000000 in
theorem only1 (lo hi tt : Int) (t0 : 0 ≤ tt) (t1 : tt < 4503599627370496) (h1 : lo ≤ tt) (h2 : tt ≤ hi) (h3 : tt - lo ≤ 2251799813685248) (h4 : hi - tt ≤ 2251799813685248) (w : World) :
    Calls Try.prog 34 #[.agg #[.int .i64 lo, .int .i64 hi], .int .u64 (tt * 4096)] w (RB w (.tuple #[.agg #[.int .i64 tt, .int .i64 tt], .int .i64 0])) := by
  have HU := Lib.hid (fun W => unfold1 lo hi tt t0 t1 h1 h2 h3 h4 W)
  clear t0 t1 h1 h2 h3 h4
  go_enter Try.func34, Try.ntmps34
  go_wp2_with fail
  refine (HU.out _).mono ?_
  rintro e w1 ⟨g, cp, rfl, hg1, hg2, hc0, hc1, hb1⟩
  simp only [World.size_alloc] at hg2
  have K1 : Below w.heap.size w w1 := kept_call hb1 (by (repeat' (first | (with_reducible exact Below.refl _ _) | (with_reducible refine Below.setCell ?_ ?_ _) | (with_reducible refine Below.alloc ?_ ?_ _) | (with_reducible refine Below.drew ?_) | (with_reducible refine below_drewN ?_ _))) <;> (first | omega | (simp <;> omega)))
  have Z1 : w.heap.size ≤ w1.heap.size := K1.size
  have b1_0 := Blk.keep (g := w.heap.size) hb1 (by (repeat' (first | ((with_reducible refine' Blk.newE ?_); first | rfl | (simp; done)) | (with_reducible refine' Blk.alloc ?_ _) | (with_reducible refine' Blk.drew ?_) | (with_reducible refine' Blk.drewN ?_ _) | (with_reducible refine' Blk.put ?_ ?_) | (with_reducible refine' Blk.far ?_ ?_ _) | exact rfl)) <;> (first | omega | (simp <;> omega)))
  (try simp only [List.setIfInBounds_toArray, List.set_cons_zero, List.set_cons_succ] at b1_0)
  have b1_1 := Blk.keep (g := w.heap.size + 1) hb1 (by (repeat' (first | ((with_reducible refine' Blk.newE ?_); first | rfl | (simp; done)) | (with_reducible refine' Blk.alloc ?_ _) | (with_reducible refine' Blk.drew ?_) | (with_reducible refine' Blk.drewN ?_ _) | (with_reducible refine' Blk.put ?_ ?_) | (with_reducible refine' Blk.far ?_ ?_ _) | exact rfl)) <;> (first | omega | (simp <;> omega)))
  (try simp only [List.setIfInBounds_toArray, List.set_cons_zero, List.set_cons_succ] at b1_1)
  clear hb1
  obtain ⟨c1_0, f1_0, l1_0, e1_0, k1_0⟩ := Blk.facts b1_0
  obtain ⟨c1_1, f1_1, l1_1, e1_1, k1_1⟩ := Blk.facts b1_1
  have o1_0 := l1_0
  have o1_1 := l1_1
  have ng1 : g ≠ w.heap.size := by omega
  have ng2 : g ≠ w.heap.size + 1 := by omega
  go_wp2
  exact bodyPost_ret (v := .tuple #[.agg #[.int .i64 tt, .int .i64 tt], .int .i64 0]) (by simp [results, Try.results34, go_sem, *]) rfl ⟨rfl, (by (repeat' (first | (with_reducible exact K1) | (with_reducible refine Below.setCell ?_ ?_ _) | (with_reducible refine Below.alloc ?_ ?_ _) | (with_reducible refine Below.drew ?_) | (with_reducible refine below_drewN ?_ _))) <;> (first | omega | (simp <;> omega)))⟩
set_option maxHeartbeats 1000000 in
theorem width_ok (lo hi : Int) (hv : vS lo hi = true) (w : World) :
    Calls Try.prog 27 #[.agg #[.int .i64 lo, .int .i64 hi]] w (RB w (.int .i64 (hi - lo))) := by
  have hb := vS_true.1 hv
  have RV := Lib.hid (fun W => hv ▸ svalidB lo hi W)
  have w1 : IntKind.i64.wrap (hi - lo) = hi - lo := IntWalk.i64_in _ (by omega)
  clear hv
  go_enter Try.func27, Try.ntmps27
  go_wp2_with fail
  refine (RV.out _).mono ?_
  rintro e w1 ⟨rfl, hb1⟩
  have K1 : Below w.heap.size w w1 := kept_call hb1 (by (repeat' (first | (with_reducible exact Below.refl _ _) | (with_reducible refine Below.setCell ?_ ?_ _) | (with_reducible refine Below.alloc ?_ ?_ _) | (with_reducible refine Below.drew ?_) | (with_reducible refine below_drewN ?_ _))) <;> (first | omega | (simp <;> omega)))
  have Z1 : w.heap.size ≤ w1.heap.size := K1.size
  have b1_0 := Blk.keep (g := w.heap.size) hb1 (by (repeat' (first | ((with_reducible refine' Blk.newE ?_); first | rfl | (simp; done)) | (with_reducible refine' Blk.alloc ?_ _) | (with_reducible refine' Blk.drew ?_) | (with_reducible refine' Blk.drewN ?_ _) | (with_reducible refine' Blk.put ?_ ?_) | (with_reducible refine' Blk.far ?_ ?_ _) | exact rfl)) <;> (first | omega | (simp <;> omega)))
  (try simp only [List.setIfInBounds_toArray, List.set_cons_zero, List.set_cons_succ] at b1_0)
  clear hb1
  obtain ⟨c1_0, f1_0, l1_0, e1_0, k1_0⟩ := Blk.facts b1_0
  have o1_0 := l1_0
  go_wp2
  go_ret
  exact ⟨rfl, (by (repeat' (first | (with_reducible exact K1) | (with_reducible refine Below.setCell ?_ ?_ _) | (with_reducible refine Below.alloc ?_ ?_ _) | (with_reducible refine Below.drew ?_) | (with_reducible refine below_drewN ?_ _))) <;> (first | omega | (simp <;> omega)))⟩
theorem proj_known : opV (vS 5242880 5242880) (inD 1048576 1000) (5242880 + elLo 1048576 1000) (5242880 + elHi 1048576 1000) = .tuple #[.agg #[.int .i64 6291454, .int .i64 6291458], .int .i64 0] := by kernel_rfl
set_option maxRecDepth 100000 in
set_option maxHeartbeats 2000000 in
theorem roused_any  (w : World) :
    Calls Try.prog 25 #[] w (RB w (.bool true)) := by
  have RW := Lib.hid (fun W => (show Calls _ _ _ _ (RB W _) from (wire_anyK 5242880 (by decide) W).mono (fun _ _ hh => ⟨hh.1, hh.2 ▸ Below.refl _ _⟩)))
  have RO := Lib.hid (fun W => only1 0 9437184 5242880 (by omega) (by omega) (by omega) (by omega) (by omega) (by omega) W)
  have RP := Lib.hid (fun W => proj_known ▸ dproj_op 5242880 5242880 1048576 1000 W)
  have RH := Lib.hid (fun W => (show hdB 6291454 6291458 6291456 = true by decide) ▸ iholds_all 6291454 6291458 6291456 W)
  go_enter Try.func25, Try.ntmps25
  go_wp2_with fail
  refine (RW.out _).mono ?_
  rintro e w1 ⟨rfl, hb1⟩
  have K1 : Below w.heap.size w w1 := kept_call hb1 (by (repeat' (first | (with_reducible exact Below.refl _ _) | (with_reducible refine Below.setCell ?_ ?_ _) | (with_reducible refine Below.alloc ?_ ?_ _) | (with_reducible refine Below.drew ?_) | (with_reducible refine below_drewN ?_ _))) <;> (first | omega | (simp <;> omega)))
  have Z1 : w.heap.size ≤ w1.heap.size := K1.size
  clear hb1
  go_wp2_with fail
  refine (RO.out _).mono ?_
  rintro e w2 ⟨rfl, hb2⟩
  have K2 : Below w.heap.size w w2 := kept_call hb2 (by (repeat' (first | (with_reducible exact K1) | (with_reducible refine Below.setCell ?_ ?_ _) | (with_reducible refine Below.alloc ?_ ?_ _) | (with_reducible refine Below.drew ?_) | (with_reducible refine below_drewN ?_ _))) <;> (first | omega | (simp <;> omega)))
  have Z2 : w.heap.size ≤ w2.heap.size := K2.size
  clear hb2 K1
  go_wp2_with fail
  refine (RP.out _).mono ?_
  rintro e w3 ⟨rfl, hb3⟩
  have K3 : Below w.heap.size w w3 := kept_call hb3 (by (repeat' (first | (with_reducible exact K2) | (with_reducible refine Below.setCell ?_ ?_ _) | (with_reducible refine Below.alloc ?_ ?_ _) | (with_reducible refine Below.drew ?_) | (with_reducible refine below_drewN ?_ _))) <;> (first | omega | (simp <;> omega)))
  have Z3 : w.heap.size ≤ w3.heap.size := K3.size
  have b3_0 := Blk.keep (g := w2.heap.size) hb3 (by (repeat' (first | ((with_reducible refine' Blk.newE ?_); first | rfl | (simp; done)) | (with_reducible refine' Blk.alloc ?_ _) | (with_reducible refine' Blk.drew ?_) | (with_reducible refine' Blk.drewN ?_ _) | (with_reducible refine' Blk.put ?_ ?_) | (with_reducible refine' Blk.far ?_ ?_ _) | exact rfl)) <;> (first | omega | (simp <;> omega)))
  (try simp only [List.setIfInBounds_toArray, List.set_cons_zero, List.set_cons_succ] at b3_0)
  clear hb3 K2
  obtain ⟨c3_0, f3_0, l3_0, e3_0, k3_0⟩ := Blk.facts b3_0
  have o3_0 := l3_0
  go_wp2_with fail
  refine (RH.out _).mono ?_
  rintro e w4 ⟨rfl, hb4⟩
  have K4 : Below w.heap.size w w4 := kept_call hb4 (by (repeat' (first | (with_reducible exact K3) | (with_reducible refine Below.setCell ?_ ?_ _) | (with_reducible refine Below.alloc ?_ ?_ _) | (with_reducible refine Below.drew ?_) | (with_reducible refine below_drewN ?_ _))) <;> (first | omega | (simp <;> omega)))
  have Z4 : w.heap.size ≤ w4.heap.size := K4.size
  have b3_0' := Blk.keep (g := w2.heap.size) hb4 (by (repeat' (first | (with_reducible refine' Blk.alloc ?_ _) | (with_reducible refine' Blk.drew ?_) | (with_reducible refine' Blk.drewN ?_ _) | (with_reducible refine' Blk.put ?_ ?_) | (with_reducible refine' Blk.far ?_ ?_ _) | exact b3_0 | exact rfl)) <;> (first | omega | (simp <;> omega)))
  (try simp only [List.setIfInBounds_toArray, List.set_cons_zero, List.set_cons_succ] at b3_0')
  have b4_0 := Blk.keep (g := w3.heap.size) hb4 (by (repeat' (first | ((with_reducible refine' Blk.newE ?_); first | rfl | (simp; done)) | (with_reducible refine' Blk.alloc ?_ _) | (with_reducible refine' Blk.drew ?_) | (with_reducible refine' Blk.drewN ?_ _) | (with_reducible refine' Blk.put ?_ ?_) | (with_reducible refine' Blk.far ?_ ?_ _) | exact rfl)) <;> (first | omega | (simp <;> omega)))
  (try simp only [List.setIfInBounds_toArray, List.set_cons_zero, List.set_cons_succ] at b4_0)
  clear hb4 K3
  clear b3_0 c3_0 f3_0 l3_0 e3_0 k3_0; have b3_0 := b3_0'; clear b3_0'
  obtain ⟨c3_0, f3_0, l3_0, e3_0, k3_0⟩ := Blk.facts b3_0
  obtain ⟨c4_0, f4_0, l4_0, e4_0, k4_0⟩ := Blk.facts b4_0
  have o4_0 := l4_0
  go_wp2
  go_ret
  exact ⟨rfl, (by (repeat' (first | (with_reducible exact K4) | (with_reducible refine Below.setCell ?_ ?_ _) | (with_reducible refine Below.alloc ?_ ?_ _) | (with_reducible refine Below.drew ?_) | (with_reducible refine below_drewN ?_ _))) <;> (first | omega | (simp <;> omega)))⟩
end Go.Proofs.Ytmebkbnildjfhaa
