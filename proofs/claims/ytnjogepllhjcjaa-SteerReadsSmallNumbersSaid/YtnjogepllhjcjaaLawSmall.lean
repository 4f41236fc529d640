/- The walk of the law SteerReadsSmallNumbers. -/
import Derived.Test.YtnjogepllhjcjaaSteerF
import Derived.Test.YtnjogepllhjcjaaLawSteerReads
import Derived.Test.YtnjogepllhjcjaaCalmP
import Derived.Test.YtnjogepllhjcjaaLawKeeps
import Derived.Deep.DeepCutAuto
namespace Go.Proofs.Ytnjogepllhjcjaa
open Go.RowKit

set_option maxRecDepth 100000 in
set_option maxHeartbeats 8000000 in
theorem steerSmall_core (A : Option Addr) (len cap : Nat) (zs : List Int) (w : World) (hA : IntsAt w A len zs) :
    Calls Try.prog 6 #[.slice A len cap] w (RB w (.bool true)) := by
  have H := Lib.hid hA; clear hA
  go_enter Try.func6, Try.ntmps6
  go_wp2_with fail
  refine (new_any A len cap zs _ H.out).mono ?_
  rintro e w1 ⟨rfl, ht1, hb1⟩
  have K1 : Below w.heap.size w w1 := kept_call hb1 (by (repeat' (first | (with_reducible exact Below.refl _ _) | (with_reducible refine Below.setCell ?_ ?_ _) | (with_reducible refine Below.alloc ?_ ?_ _) | (with_reducible refine Below.drew ?_) | (with_reducible refine below_drewN ?_ _))) <;> (first | omega | (simp <;> omega)))
  have Z1 : w.heap.size ≤ w1.heap.size := K1.size
  clear hb1
  have T1 := ht1.lt
  have HT := Lib.hid ht1; clear ht1
  have HB : w.heap.size ≤ w.heap.size := Nat.le_refl _
  go_wp2_with fail
  refine wp_region_calm (by kernel_rfl) (fun n us w' => TapeAt w' w.heap.size ∧ Past [w.heap.size] w1 w' ∧ NewC w1.heap.size 33 #[.int .i64 0, .int .i64 0, .bool false, .bool false, .int .i64 0, .int .i64 0] n us w') (PastN 33 [w.heap.size]) [(Is (.pointer (some ⟨w.heap.size, 0, none⟩))), (InR 0 1002), (SliceN [w.heap.size] 3 4 #[.int .i64 0, .int .i64 500000, .int .i64 1000000000, .int .i64 1000000001]), (Is (.pointer (some ⟨w.heap.size, 0, none⟩))), (InR 0 4), (PtrN [w.heap.size] 3 4 #[.int .i64 0, .int .i64 500000, .int .i64 1000000000, .int .i64 1000000001]), (InR 0 1000000002), (Is (.pointer (some ⟨w.heap.size, 0, none⟩))), (Pure fun _ v => ∃ b : Bool, v = .bool b), (Pure fun _ v => ∃ b : Bool, v = .bool b), (Is (.pointer (some ⟨w.heap.size, 0, none⟩))), (Pure fun _ v => ∃ b : Bool, v = .bool b), (Is (.pointer (some ⟨w.heap.size, 0, none⟩))), (InR 0 50), (Is (.pointer (some ⟨w.heap.size, 0, none⟩))), (InR (-100) 201), (Pure fun _ v => ∃ (a r : Int) (s h : Bool) (t n : Int), v = .agg #[.int .i64 a, .int .i64 r, .bool s, .bool h, .int .i64 t, .int .i64 n]), (fun _ _ _ => True), (fun _ _ _ => True)] [[], [0], [], [], [3], [2, 4], [5], [], [7], [8], [], [10], [], [12], [], [14], [1, 6, 9, 11, 13, 15], [], [16]] [17, 18] [17, 16] rfl (by kernel_rfl) (fun u => by (simp only [calmPut, Act.put, List.setIfInBounds_toArray, List.set_cons_zero, List.set_cons_succ, Nat.zero_add, Nat.reduceAdd]; rfl)) ?_ (calmKeep_cons keep_is' (calmKeep_cons keep_inR (calmKeep_cons (keep_sliceT (show 3 ≠ 33 from by decide)) (calmKeep_cons keep_is' (calmKeep_cons keep_inR (calmKeep_cons (keep_ptrT (show 3 ≠ 33 from by decide)) (calmKeep_cons keep_inR (calmKeep_cons keep_is' (calmKeep_cons keep_pure (calmKeep_cons keep_pure (calmKeep_cons keep_is' (calmKeep_cons keep_pure (calmKeep_cons keep_is' (calmKeep_cons keep_inR (calmKeep_cons keep_is' (calmKeep_cons keep_inR (calmKeep_cons keep_pure (calmKeep_cons keep_triv (calmKeep_cons keep_triv (calmKeep_nil)))))))))))))))))))) ?_ ?_
  · intro _
    exact ⟨HT.out.drew, (Past.refl _ _).drew, .inl rfl⟩
  · skip
    refine calmSteps_cons (fun u wq n hn hn2 hC hk K hK => ?_) ?_
    · obtain ⟨hT, hP, hN⟩ := hC
      clear hk
      have HT := Lib.hid hT; have HP := Lib.hid hP; clear hT hP
      go_simp
      exact hK _ _ _ rfl ⟨HT.out, HP.out, hN⟩ (PastN.refl _ _ _) rfl
    refine calmSteps_cons (fun u wq n hn hn2 hC hk K hK => ?_) ?_
    · obtain ⟨hT, hP, hN⟩ := hC
      simp only [calmKnown, List.getElem?_cons_zero, List.getElem?_cons_succ, and_true, Is, Pure, Option.some.injEq, List.getD_cons_zero, List.getD_cons_succ, List.map_cons, List.map_nil] at hk
      have h0 := hk; clear hk
      simp only [h0] at hK ⊢
      have H0 := Lib.hid h0; clear h0
      have HT := Lib.hid hT; have HP := Lib.hid hP; clear hT hP
      go_wp2_with fail
      refine (int_any _ 1002 _ HT.out (by omega) (by omega)).mono ?_
      rintro e w2 ⟨v, rfl, v0, v1, ht, hgr⟩
      have hq := Past.grown (X := [w.heap.size]) hgr (by simp)
      exact hK _ _ _ rfl ⟨ht, HP.out.trans hq, hN.keep hq (by first | omega | (simp <;> omega))⟩ (PastN.past hq) ⟨v, rfl, v0, v1⟩
    refine calmSteps_cons (fun u wq n hn hn2 hC hk K hK => ?_) ?_
    · obtain ⟨hT, hP, hN⟩ := hC
      clear hk
      have HT := Lib.hid hT; have HP := Lib.hid hP; clear hT hP
      have hw := HP.out.1
      go_simp
      exact hK _ _ _ rfl ⟨HT.out.alloc _, HP.out.trans (Past.alloc _ _ _), hN.keep (Past.alloc _ _ _) (by first | omega | (simp <;> omega))⟩ (PastN.past (Past.alloc _ _ _)) ⟨wq.heap.size, rfl, (by simp; omega), Blk.new _ _ _⟩
    refine calmSteps_cons (fun u wq n hn hn2 hC hk K hK => ?_) ?_
    · obtain ⟨hT, hP, hN⟩ := hC
      clear hk
      have HT := Lib.hid hT; have HP := Lib.hid hP; clear hT hP
      go_simp
      exact hK _ _ _ rfl ⟨HT.out, HP.out, hN⟩ (PastN.refl _ _ _) rfl
    refine calmSteps_cons (fun u wq n hn hn2 hC hk K hK => ?_) ?_
    · obtain ⟨hT, hP, hN⟩ := hC
      simp only [calmKnown, List.getElem?_cons_zero, List.getElem?_cons_succ, and_true, Is, Pure, Option.some.injEq, List.getD_cons_zero, List.getD_cons_succ, List.map_cons, List.map_nil] at hk
      have h3 := hk; clear hk
      simp only [h3] at hK ⊢
      have H3 := Lib.hid h3; clear h3
      have HT := Lib.hid hT; have HP := Lib.hid hP; clear hT hP
      go_wp2_with fail
      refine (int_any _ 4 _ HT.out (by omega) (by omega)).mono ?_
      rintro e w2 ⟨v, rfl, v0, v1, ht, hgr⟩
      have hq := Past.grown (X := [w.heap.size]) hgr (by simp)
      exact hK _ _ _ rfl ⟨ht, HP.out.trans hq, hN.keep hq (by first | omega | (simp <;> omega))⟩ (PastN.past hq) ⟨v, rfl, v0, v1⟩
    refine calmSteps_cons (fun u wq n hn hn2 hC hk K hK => ?_) ?_
    · obtain ⟨hT, hP, hN⟩ := hC
      simp only [calmKnown, List.getElem?_cons_zero, List.getElem?_cons_succ, and_true, Is, Pure, Option.some.injEq, List.getD_cons_zero, List.getD_cons_succ, List.map_cons, List.map_nil] at hk
      obtain ⟨⟨g, h2, gn, gb⟩, ⟨x4, h4, p4, q4⟩⟩ := hk
      simp only [h2, h4] at hK ⊢
      have H2 := Lib.hid h2; clear h2; have H4 := Lib.hid h4; clear h4
      have HT := Lib.hid hT; have HP := Lib.hid hP; clear hT hP
      obtain rfl | rfl | rfl | rfl : x4 = 0 ∨ x4 = 1 ∨ x4 = 2 ∨ x4 = 3 := by omega
      all_goals
        go_simp
        exact hK _ _ _ rfl ⟨HT.out, HP.out, hN⟩ (PastN.refl _ _ _) ⟨g, _, rfl, by omega, gn, gb⟩
    refine calmSteps_cons (fun u wq n hn hn2 hC hk K hK => ?_) ?_
    · obtain ⟨hT, hP, hN⟩ := hC
      simp only [calmKnown, List.getElem?_cons_zero, List.getElem?_cons_succ, and_true, Is, Pure, Option.some.injEq, List.getD_cons_zero, List.getD_cons_succ, List.map_cons, List.map_nil] at hk
      obtain ⟨g, k, h5, hk, gn, gb⟩ := hk
      simp only [h5] at hK ⊢
      have H5 := Lib.hid h5; clear h5
      have HT := Lib.hid hT; have HP := Lib.hid hP; clear hT hP
      have hc := gb.cell
      obtain rfl | rfl | rfl | rfl : k = 0 ∨ k = 1 ∨ k = 2 ∨ k = 3 := by omega
      all_goals
        go_simp
        exact hK _ _ _ rfl ⟨HT.out, HP.out, hN⟩ (PastN.refl _ _ _) ⟨_, rfl, by omega, by omega⟩
    refine calmSteps_cons (fun u wq n hn hn2 hC hk K hK => ?_) ?_
    · obtain ⟨hT, hP, hN⟩ := hC
      clear hk
      have HT := Lib.hid hT; have HP := Lib.hid hP; clear hT hP
      go_simp
      exact hK _ _ _ rfl ⟨HT.out, HP.out, hN⟩ (PastN.refl _ _ _) rfl
    refine calmSteps_cons (fun u wq n hn hn2 hC hk K hK => ?_) ?_
    · obtain ⟨hT, hP, hN⟩ := hC
      simp only [calmKnown, List.getElem?_cons_zero, List.getElem?_cons_succ, and_true, Is, Pure, Option.some.injEq, List.getD_cons_zero, List.getD_cons_succ, List.map_cons, List.map_nil] at hk
      have h7 := hk; clear hk
      simp only [h7] at hK ⊢
      have H7 := Lib.hid h7; clear h7
      have HT := Lib.hid hT; have HP := Lib.hid hP; clear hT hP
      go_wp2_with fail
      refine (tbool_any _ 4 _ HT.out (by omega) (by omega)).mono ?_
      rintro e w2 ⟨v, rfl, ht, hgr⟩
      have hq := Past.grown (X := [w.heap.size]) hgr (by simp)
      exact hK _ _ _ rfl ⟨ht, HP.out.trans hq, hN.keep hq (by first | omega | (simp <;> omega))⟩ (PastN.past hq) ⟨v, rfl⟩
    refine calmSteps_cons (fun u wq n hn hn2 hC hk K hK => ?_) ?_
    · obtain ⟨hT, hP, hN⟩ := hC
      simp only [calmKnown, List.getElem?_cons_zero, List.getElem?_cons_succ, and_true, Is, Pure, Option.some.injEq, List.getD_cons_zero, List.getD_cons_succ, List.map_cons, List.map_nil] at hk
      obtain ⟨x8, h8⟩ := hk
      simp only [h8] at hK ⊢
      have H8 := Lib.hid h8; clear h8
      have HT := Lib.hid hT; have HP := Lib.hid hP; clear hT hP
      go_simp
      exact hK _ _ _ rfl ⟨HT.out, HP.out, hN⟩ (PastN.refl _ _ _) ⟨_, rfl⟩
    refine calmSteps_cons (fun u wq n hn hn2 hC hk K hK => ?_) ?_
    · obtain ⟨hT, hP, hN⟩ := hC
      clear hk
      have HT := Lib.hid hT; have HP := Lib.hid hP; clear hT hP
      go_simp
      exact hK _ _ _ rfl ⟨HT.out, HP.out, hN⟩ (PastN.refl _ _ _) rfl
    refine calmSteps_cons (fun u wq n hn hn2 hC hk K hK => ?_) ?_
    · obtain ⟨hT, hP, hN⟩ := hC
      simp only [calmKnown, List.getElem?_cons_zero, List.getElem?_cons_succ, and_true, Is, Pure, Option.some.injEq, List.getD_cons_zero, List.getD_cons_succ, List.map_cons, List.map_nil] at hk
      have h10 := hk; clear hk
      simp only [h10] at hK ⊢
      have H10 := Lib.hid h10; clear h10
      have HT := Lib.hid hT; have HP := Lib.hid hP; clear hT hP
      go_wp2_with fail
      refine (tbool_any _ 2 _ HT.out (by omega) (by omega)).mono ?_
      rintro e w2 ⟨v, rfl, ht, hgr⟩
      have hq := Past.grown (X := [w.heap.size]) hgr (by simp)
      exact hK _ _ _ rfl ⟨ht, HP.out.trans hq, hN.keep hq (by first | omega | (simp <;> omega))⟩ (PastN.past hq) ⟨v, rfl⟩
    refine calmSteps_cons (fun u wq n hn hn2 hC hk K hK => ?_) ?_
    · obtain ⟨hT, hP, hN⟩ := hC
      clear hk
      have HT := Lib.hid hT; have HP := Lib.hid hP; clear hT hP
      go_simp
      exact hK _ _ _ rfl ⟨HT.out, HP.out, hN⟩ (PastN.refl _ _ _) rfl
    refine calmSteps_cons (fun u wq n hn hn2 hC hk K hK => ?_) ?_
    · obtain ⟨hT, hP, hN⟩ := hC
      simp only [calmKnown, List.getElem?_cons_zero, List.getElem?_cons_succ, and_true, Is, Pure, Option.some.injEq, List.getD_cons_zero, List.getD_cons_succ, List.map_cons, List.map_nil] at hk
      have h12 := hk; clear hk
      simp only [h12] at hK ⊢
      have H12 := Lib.hid h12; clear h12
      have HT := Lib.hid hT; have HP := Lib.hid hP; clear hT hP
      go_wp2_with fail
      refine (int_any _ 50 _ HT.out (by omega) (by omega)).mono ?_
      rintro e w2 ⟨v, rfl, v0, v1, ht, hgr⟩
      have hq := Past.grown (X := [w.heap.size]) hgr (by simp)
      exact hK _ _ _ rfl ⟨ht, HP.out.trans hq, hN.keep hq (by first | omega | (simp <;> omega))⟩ (PastN.past hq) ⟨v, rfl, v0, v1⟩
    refine calmSteps_cons (fun u wq n hn hn2 hC hk K hK => ?_) ?_
    · obtain ⟨hT, hP, hN⟩ := hC
      clear hk
      have HT := Lib.hid hT; have HP := Lib.hid hP; clear hT hP
      go_simp
      exact hK _ _ _ rfl ⟨HT.out, HP.out, hN⟩ (PastN.refl _ _ _) rfl
    refine calmSteps_cons (fun u wq n hn hn2 hC hk K hK => ?_) ?_
    · obtain ⟨hT, hP, hN⟩ := hC
      simp only [calmKnown, List.getElem?_cons_zero, List.getElem?_cons_succ, and_true, Is, Pure, Option.some.injEq, List.getD_cons_zero, List.getD_cons_succ, List.map_cons, List.map_nil] at hk
      have h14 := hk; clear hk
      simp only [h14] at hK ⊢
      have H14 := Lib.hid h14; clear h14
      have HT := Lib.hid hT; have HP := Lib.hid hP; clear hT hP
      go_wp2_with fail
      refine (range_any _ (-100) 200 _ HT.out (by omega) (by omega) (by omega)).mono ?_
      rintro e w2 ⟨v, rfl, v0, v1, ht, hgr⟩
      have hq := Past.grown (X := [w.heap.size]) hgr (by simp)
      exact hK _ _ _ rfl ⟨ht, HP.out.trans hq, hN.keep hq (by first | omega | (simp <;> omega))⟩ (PastN.past hq) ⟨v, rfl, v0, by omega⟩
    refine calmSteps_cons (fun u wq n hn hn2 hC hk K hK => ?_) ?_
    · obtain ⟨hT, hP, hN⟩ := hC
      simp only [calmKnown, List.getElem?_cons_zero, List.getElem?_cons_succ, and_true, Is, Pure, Option.some.injEq, List.getD_cons_zero, List.getD_cons_succ, List.map_cons, List.map_nil] at hk
      obtain ⟨⟨x1, h1, p1, q1⟩, ⟨x6, h6, p6, q6⟩, ⟨x9, h9⟩, ⟨x11, h11⟩, ⟨x13, h13, p13, q13⟩, ⟨x15, h15, p15, q15⟩⟩ := hk
      simp only [h1, h6, h9, h11, h13, h15] at hK ⊢
      have H1 := Lib.hid h1; clear h1; have H6 := Lib.hid h6; clear h6; have H9 := Lib.hid h9; clear h9; have H11 := Lib.hid h11; clear h11; have H13 := Lib.hid h13; clear h13; have H15 := Lib.hid h15; clear h15
      have HT := Lib.hid hT; have HP := Lib.hid hP; clear hT hP
      have hn1 := hn2 1 18 rfl (by kernel_rfl)
      go_simp
      exact hK _ _ _ rfl ⟨HT.out, HP.out, NewC.val (show NewC _ _ _ n [u 17, u 16] wq from hN) hn1⟩ (PastN.refl _ _ _) ⟨x1, x6, x9, x11, x13, x15, rfl⟩
    refine calmSteps_cons (fun u wq n hn hn2 hC hk K hK => ?_) ?_
    · obtain ⟨hT, hP, hN⟩ := hC
      clear hk
      obtain rfl := hn 0 rfl
      have HT := Lib.hid hT; have HP := Lib.hid hP; clear hT hP
      go_simp
      exact hK _ _ _ rfl ⟨HT.out.alloc _, HP.out.trans (Past.alloc _ _ _), NewC.made (x := u 16) HP.out.1⟩ (PastN.past (Past.alloc _ _ _)) trivial
    refine calmSteps_cons (fun u wq n hn hn2 hC hk K hK => ?_) ?_
    · obtain ⟨hT, hP, hN⟩ := hC
      simp only [calmKnown, List.getElem?_cons_zero, List.getElem?_cons_succ, and_true, Is, Pure, Option.some.injEq, List.getD_cons_zero, List.getD_cons_succ, List.map_cons, List.map_nil] at hk
      obtain ⟨a, r, s, h, t, m, h16⟩ := hk
      simp only [h16] at hK ⊢
      have H16 := Lib.hid h16; clear h16
      obtain rfl := hn 1 rfl
      obtain ⟨g, h17, gb, gl, hB⟩ := NewC.one (show NewC _ _ _ 1 [u 17, u 16] wq from hN)
      simp only [h17] at hK ⊢
      have H17 := Lib.hid h17; clear h17 hN
      have gT : w.heap.size < g := by omega
      have HT := Lib.hid hT; have HP := Lib.hid hP; clear hT hP
      have hf := hB.frozen
      have hc := hB.cell
      go_simp
      have hB2 := ((((((hB.set_ 0 (.int .i64 a)).set_ 1 (.int .i64 r)).set_ 2 (.bool s)).set_ 3 (.bool h)).set_ 4 (.int .i64 t)).set_ 5 (.int .i64 m))
      exact hK _ undef _ rfl ⟨((((((HT.out.set gT _).set gT _).set gT _).set gT _).set gT _).set gT _), (Past.far (Past.far (Past.far (Past.far (Past.far (Past.far HP.out gb _) gb _) gb _) gb _) gb _) gb _), (show NewC _ _ _ 2 [u 17, u 16] _ from by rw [H17.out, H16.out]; exact NewC.stored gb hB2)⟩ (PastN.sets hB (fun k hk => by repeat' rw [Below.heap_setCell _ _ _ _ (show k ≠ (⟨g, _, none⟩ : Addr).block from hk)])) trivial
    exact calmSteps_nil
  · intro u w2 hC hF
    obtain ⟨ht2, hP, hN⟩ := hC
    obtain ⟨g, cs5, g9, gb, g6, hB⟩ := NewC.last (show NewC _ _ _ 2 [u 17, u 16] w2 from hN)
    simp only [calmFacts, Pure, Is, List.map_cons, List.map_nil, and_true, Nat.zero_add, Nat.reduceAdd] at hF
    obtain ⟨-, -, -, -, -, -, -, -, -, -, -, -, -, -, -, -, ⟨a, r, s, h, t, n, h16⟩⟩ := hF
    rw [g6] at h16
    obtain rfl : cs5 = _ := by injection h16
    clear h16 hN g6
    simp only [g9]
    clear g9
    have K2 : Below w.heap.size w w2 := Past.below' (by (repeat' (first | (with_reducible exact K1) | (with_reducible refine Below.setCell ?_ ?_ _) | (with_reducible refine Below.alloc ?_ ?_ _) | (with_reducible refine Below.drew ?_) | (with_reducible refine below_drewN ?_ _))) <;> (first | omega | (simp <;> omega))) hP (by first | omega | (simp <;> omega))
    have Z2 : w.heap.size ≤ w2.heap.size := K2.size
    clear HT; have T2 := ht2.lt; have HT := Lib.hid ht2; clear ht2
    clear hP K1
    have bC := hB; clear hB
    obtain ⟨cC, fC, lC, eC, kC⟩ := Blk.facts bC
    go_wp2_with fail
    refine (tspan_any _ 100 _ (by (repeat' (first | (with_reducible exact HT.out) | (with_reducible refine' TapeAt.alloc ?_ _) | (with_reducible refine' TapeAt.drew ?_) | (with_reducible refine' TapeAt.drewN ?_ _) | (with_reducible refine' TapeAt.set ?_ ?_ _))) <;> (first | omega | (simp <;> omega))) (by omega) (by omega)).mono ?_
    rintro e w3 ⟨c, d, rfl, d1, d2, d3, d4, ht3, hg3⟩
    have K3 : Below w.heap.size w w3 := below_grown2 (by (repeat' (first | (with_reducible exact K2) | (with_reducible refine Below.setCell ?_ ?_ _) | (with_reducible refine Below.alloc ?_ ?_ _) | (with_reducible refine Below.drew ?_) | (with_reducible refine below_drewN ?_ _))) <;> (first | omega | (simp <;> omega))) hg3 (by first | omega | (simp <;> omega))
    have Z3 : w.heap.size ≤ w3.heap.size := K3.size
    have bC' := Blk.keepG (g := g) hg3 (by (repeat' (first | (with_reducible refine' Blk.alloc ?_ _) | (with_reducible refine' Blk.drew ?_) | (with_reducible refine' Blk.drewN ?_ _) | (with_reducible refine' Blk.put ?_ ?_) | (with_reducible refine' Blk.far ?_ ?_ _) | exact bC | exact rfl)) <;> (first | omega | (simp <;> omega))) (by first | omega | (simp <;> omega))
    (try simp only [List.setIfInBounds_toArray, List.set_cons_zero, List.set_cons_succ] at bC')
    clear HT; have T3 := ht3.lt; have HT := Lib.hid ht3; clear ht3
    clear hg3 K2
    clear bC cC fC lC eC kC; have bC := bC'; clear bC'
    obtain ⟨cC, fC, lC, eC, kC⟩ := Blk.facts bC
    go_wp2_with fail
    refine (int_any _ 90 _ (by (repeat' (first | (with_reducible exact HT.out) | (with_reducible refine' TapeAt.alloc ?_ _) | (with_reducible refine' TapeAt.drew ?_) | (with_reducible refine' TapeAt.drewN ?_ _) | (with_reducible refine' TapeAt.set ?_ ?_ _))) <;> (first | omega | (simp <;> omega))) (by omega) (by omega)).mono ?_
    rintro e w4 ⟨v, rfl, v0, v1, ht4, hg4⟩
    have K4 : Below w.heap.size w w4 := below_grown2 (by (repeat' (first | (with_reducible exact K3) | (with_reducible refine Below.setCell ?_ ?_ _) | (with_reducible refine Below.alloc ?_ ?_ _) | (with_reducible refine Below.drew ?_) | (with_reducible refine below_drewN ?_ _))) <;> (first | omega | (simp <;> omega))) hg4 (by first | omega | (simp <;> omega))
    have Z4 : w.heap.size ≤ w4.heap.size := K4.size
    have bC' := Blk.keepG (g := g) hg4 (by (repeat' (first | (with_reducible refine' Blk.alloc ?_ _) | (with_reducible refine' Blk.drew ?_) | (with_reducible refine' Blk.drewN ?_ _) | (with_reducible refine' Blk.put ?_ ?_) | (with_reducible refine' Blk.far ?_ ?_ _) | exact bC | exact rfl)) <;> (first | omega | (simp <;> omega))) (by first | omega | (simp <;> omega))
    (try simp only [List.setIfInBounds_toArray, List.set_cons_zero, List.set_cons_succ] at bC')
    clear HT; have T4 := ht4.lt; have HT := Lib.hid ht4; clear ht4
    clear hg4 K3
    clear bC cC fC lC eC kC; have bC := bC'; clear bC'
    obtain ⟨cC, fC, lC, eC, kC⟩ := Blk.facts bC
    obtain ⟨a0, a1, a2, a3, a4, a5, E, _, r1, r2⟩ := reads_letters a r s h t n v c d
    have r3 := target_any c d a
    have r4 := rtarget_any c d a
    clear d1 d2 d3 d4 v0 v1
    have R1 := Lib.hid r1; have R2 := Lib.hid r2; have R3 := Lib.hid r3; have R4 := Lib.hid r4; clear r1 r2 r3 r4
    go_wp2_with fail
    refine (R1.out _).mono ?_
    rintro e w5 ⟨rfl, hb5⟩
    have K5 : Below w.heap.size w w5 := kept_call hb5 (by (repeat' (first | (with_reducible exact K4) | (with_reducible refine Below.setCell ?_ ?_ _) | (with_reducible refine Below.alloc ?_ ?_ _) | (with_reducible refine Below.drew ?_) | (with_reducible refine below_drewN ?_ _))) <;> (first | omega | (simp <;> omega)))
    have Z5 : w.heap.size ≤ w5.heap.size := K5.size
    have bC' := Blk.keep (g := g) hb5 (by (repeat' (first | (with_reducible refine' Blk.alloc ?_ _) | (with_reducible refine' Blk.drew ?_) | (with_reducible refine' Blk.drewN ?_ _) | (with_reducible refine' Blk.put ?_ ?_) | (with_reducible refine' Blk.far ?_ ?_ _) | exact bC | exact rfl)) <;> (first | omega | (simp <;> omega)))
    (try simp only [List.setIfInBounds_toArray, List.set_cons_zero, List.set_cons_succ] at bC')
    have b5_0 := Blk.keep (g := w4.heap.size) hb5 (by (repeat' (first | ((with_reducible refine' Blk.newE ?_); first | rfl | (simp; done)) | (with_reducible refine' Blk.alloc ?_ _) | (with_reducible refine' Blk.drew ?_) | (with_reducible refine' Blk.drewN ?_ _) | (with_reducible refine' Blk.put ?_ ?_) | (with_reducible refine' Blk.far ?_ ?_ _) | exact rfl)) <;> (first | omega | (simp <;> omega)))
    (try simp only [List.setIfInBounds_toArray, List.set_cons_zero, List.set_cons_succ] at b5_0)
    have ht5 := TapeAt.below (by (repeat' (first | (with_reducible exact HT.out) | (with_reducible refine' TapeAt.alloc ?_ _) | (with_reducible refine' TapeAt.drew ?_) | (with_reducible refine' TapeAt.drewN ?_ _) | (with_reducible refine' TapeAt.set ?_ ?_ _))) <;> (first | omega | (simp <;> omega))) hb5
    clear HT; have T5 := ht5.lt; have HT := Lib.hid ht5; clear ht5
    clear hb5 K4
    clear bC cC fC lC eC kC; have bC := bC'; clear bC'
    obtain ⟨cC, fC, lC, eC, kC⟩ := Blk.facts bC
    obtain ⟨c5_0, f5_0, l5_0, e5_0, k5_0⟩ := Blk.facts b5_0
    have o5_0 := l5_0
    go_wp2_with fail
    refine (R2.out _).mono ?_
    rintro e w6 ⟨rfl, hb6⟩
    have K6 : Below w.heap.size w w6 := kept_call hb6 (by (repeat' (first | (with_reducible exact K5) | (with_reducible refine Below.setCell ?_ ?_ _) | (with_reducible refine Below.alloc ?_ ?_ _) | (with_reducible refine Below.drew ?_) | (with_reducible refine below_drewN ?_ _))) <;> (first | omega | (simp <;> omega)))
    have Z6 : w.heap.size ≤ w6.heap.size := K6.size
    have bC' := Blk.keep (g := g) hb6 (by (repeat' (first | (with_reducible refine' Blk.alloc ?_ _) | (with_reducible refine' Blk.drew ?_) | (with_reducible refine' Blk.drewN ?_ _) | (with_reducible refine' Blk.put ?_ ?_) | (with_reducible refine' Blk.far ?_ ?_ _) | exact bC | exact rfl)) <;> (first | omega | (simp <;> omega)))
    (try simp only [List.setIfInBounds_toArray, List.set_cons_zero, List.set_cons_succ] at bC')
    have b5_0' := Blk.keep (g := w4.heap.size) hb6 (by (repeat' (first | (with_reducible refine' Blk.alloc ?_ _) | (with_reducible refine' Blk.drew ?_) | (with_reducible refine' Blk.drewN ?_ _) | (with_reducible refine' Blk.put ?_ ?_) | (with_reducible refine' Blk.far ?_ ?_ _) | exact b5_0 | exact rfl)) <;> (first | omega | (simp <;> omega)))
    (try simp only [List.setIfInBounds_toArray, List.set_cons_zero, List.set_cons_succ] at b5_0')
    have b6_0 := Blk.keep (g := w5.heap.size) hb6 (by (repeat' (first | ((with_reducible refine' Blk.newE ?_); first | rfl | (simp; done)) | (with_reducible refine' Blk.alloc ?_ _) | (with_reducible refine' Blk.drew ?_) | (with_reducible refine' Blk.drewN ?_ _) | (with_reducible refine' Blk.put ?_ ?_) | (with_reducible refine' Blk.far ?_ ?_ _) | exact rfl)) <;> (first | omega | (simp <;> omega)))
    (try simp only [List.setIfInBounds_toArray, List.set_cons_zero, List.set_cons_succ] at b6_0)
    have ht6 := TapeAt.below (by (repeat' (first | (with_reducible exact HT.out) | (with_reducible refine' TapeAt.alloc ?_ _) | (with_reducible refine' TapeAt.drew ?_) | (with_reducible refine' TapeAt.drewN ?_ _) | (with_reducible refine' TapeAt.set ?_ ?_ _))) <;> (first | omega | (simp <;> omega))) hb6
    clear HT; have T6 := ht6.lt; have HT := Lib.hid ht6; clear ht6
    clear hb6 K5
    clear bC cC fC lC eC kC; have bC := bC'; clear bC'
    clear b5_0 c5_0 f5_0 l5_0 e5_0 k5_0; have b5_0 := b5_0'; clear b5_0'
    obtain ⟨cC, fC, lC, eC, kC⟩ := Blk.facts bC
    obtain ⟨c5_0, f5_0, l5_0, e5_0, k5_0⟩ := Blk.facts b5_0
    obtain ⟨c6_0, f6_0, l6_0, e6_0, k6_0⟩ := Blk.facts b6_0
    have o6_0 := l6_0
    go_wp2_with fail
    refine (R3.out _).mono ?_
    rintro e w7 ⟨rfl, hb7⟩
    have K7 : Below w.heap.size w w7 := kept_call hb7 (by (repeat' (first | (with_reducible exact K6) | (with_reducible refine Below.setCell ?_ ?_ _) | (with_reducible refine Below.alloc ?_ ?_ _) | (with_reducible refine Below.drew ?_) | (with_reducible refine below_drewN ?_ _))) <;> (first | omega | (simp <;> omega)))
    have Z7 : w.heap.size ≤ w7.heap.size := K7.size
    have bC' := Blk.keep (g := g) hb7 (by (repeat' (first | (with_reducible refine' Blk.alloc ?_ _) | (with_reducible refine' Blk.drew ?_) | (with_reducible refine' Blk.drewN ?_ _) | (with_reducible refine' Blk.put ?_ ?_) | (with_reducible refine' Blk.far ?_ ?_ _) | exact bC | exact rfl)) <;> (first | omega | (simp <;> omega)))
    (try simp only [List.setIfInBounds_toArray, List.set_cons_zero, List.set_cons_succ] at bC')
    have b5_0' := Blk.keep (g := w4.heap.size) hb7 (by (repeat' (first | (with_reducible refine' Blk.alloc ?_ _) | (with_reducible refine' Blk.drew ?_) | (with_reducible refine' Blk.drewN ?_ _) | (with_reducible refine' Blk.put ?_ ?_) | (with_reducible refine' Blk.far ?_ ?_ _) | exact b5_0 | exact rfl)) <;> (first | omega | (simp <;> omega)))
    (try simp only [List.setIfInBounds_toArray, List.set_cons_zero, List.set_cons_succ] at b5_0')
    have b6_0' := Blk.keep (g := w5.heap.size) hb7 (by (repeat' (first | (with_reducible refine' Blk.alloc ?_ _) | (with_reducible refine' Blk.drew ?_) | (with_reducible refine' Blk.drewN ?_ _) | (with_reducible refine' Blk.put ?_ ?_) | (with_reducible refine' Blk.far ?_ ?_ _) | exact b6_0 | exact rfl)) <;> (first | omega | (simp <;> omega)))
    (try simp only [List.setIfInBounds_toArray, List.set_cons_zero, List.set_cons_succ] at b6_0')
    have b7_0 := Blk.keep (g := w6.heap.size) hb7 (by (repeat' (first | ((with_reducible refine' Blk.newE ?_); first | rfl | (simp; done)) | (with_reducible refine' Blk.alloc ?_ _) | (with_reducible refine' Blk.drew ?_) | (with_reducible refine' Blk.drewN ?_ _) | (with_reducible refine' Blk.put ?_ ?_) | (with_reducible refine' Blk.far ?_ ?_ _) | exact rfl)) <;> (first | omega | (simp <;> omega)))
    (try simp only [List.setIfInBounds_toArray, List.set_cons_zero, List.set_cons_succ] at b7_0)
    have ht7 := TapeAt.below (by (repeat' (first | (with_reducible exact HT.out) | (with_reducible refine' TapeAt.alloc ?_ _) | (with_reducible refine' TapeAt.drew ?_) | (with_reducible refine' TapeAt.drewN ?_ _) | (with_reducible refine' TapeAt.set ?_ ?_ _))) <;> (first | omega | (simp <;> omega))) hb7
    clear HT; have T7 := ht7.lt; have HT := Lib.hid ht7; clear ht7
    clear hb7 K6
    clear bC cC fC lC eC kC; have bC := bC'; clear bC'
    clear b5_0 c5_0 f5_0 l5_0 e5_0 k5_0; have b5_0 := b5_0'; clear b5_0'
    clear b6_0 c6_0 f6_0 l6_0 e6_0 k6_0; have b6_0 := b6_0'; clear b6_0'
    obtain ⟨cC, fC, lC, eC, kC⟩ := Blk.facts bC
    obtain ⟨c5_0, f5_0, l5_0, e5_0, k5_0⟩ := Blk.facts b5_0
    obtain ⟨c6_0, f6_0, l6_0, e6_0, k6_0⟩ := Blk.facts b6_0
    obtain ⟨c7_0, f7_0, l7_0, e7_0, k7_0⟩ := Blk.facts b7_0
    have o7_0 := l7_0
    go_wp2_with fail
    refine (R4.out _).mono ?_
    rintro e w8 ⟨rfl, hb8⟩
    have K8 : Below w.heap.size w w8 := kept_call hb8 (by (repeat' (first | (with_reducible exact K7) | (with_reducible refine Below.setCell ?_ ?_ _) | (with_reducible refine Below.alloc ?_ ?_ _) | (with_reducible refine Below.drew ?_) | (with_reducible refine below_drewN ?_ _))) <;> (first | omega | (simp <;> omega)))
    have Z8 : w.heap.size ≤ w8.heap.size := K8.size
    have bC' := Blk.keep (g := g) hb8 (by (repeat' (first | (with_reducible refine' Blk.alloc ?_ _) | (with_reducible refine' Blk.drew ?_) | (with_reducible refine' Blk.drewN ?_ _) | (with_reducible refine' Blk.put ?_ ?_) | (with_reducible refine' Blk.far ?_ ?_ _) | exact bC | exact rfl)) <;> (first | omega | (simp <;> omega)))
    (try simp only [List.setIfInBounds_toArray, List.set_cons_zero, List.set_cons_succ] at bC')
    have b5_0' := Blk.keep (g := w4.heap.size) hb8 (by (repeat' (first | (with_reducible refine' Blk.alloc ?_ _) | (with_reducible refine' Blk.drew ?_) | (with_reducible refine' Blk.drewN ?_ _) | (with_reducible refine' Blk.put ?_ ?_) | (with_reducible refine' Blk.far ?_ ?_ _) | exact b5_0 | exact rfl)) <;> (first | omega | (simp <;> omega)))
    (try simp only [List.setIfInBounds_toArray, List.set_cons_zero, List.set_cons_succ] at b5_0')
    have b6_0' := Blk.keep (g := w5.heap.size) hb8 (by (repeat' (first | (with_reducible refine' Blk.alloc ?_ _) | (with_reducible refine' Blk.drew ?_) | (with_reducible refine' Blk.drewN ?_ _) | (with_reducible refine' Blk.put ?_ ?_) | (with_reducible refine' Blk.far ?_ ?_ _) | exact b6_0 | exact rfl)) <;> (first | omega | (simp <;> omega)))
    (try simp only [List.setIfInBounds_toArray, List.set_cons_zero, List.set_cons_succ] at b6_0')
    have b7_0' := Blk.keep (g := w6.heap.size) hb8 (by (repeat' (first | (with_reducible refine' Blk.alloc ?_ _) | (with_reducible refine' Blk.drew ?_) | (with_reducible refine' Blk.drewN ?_ _) | (with_reducible refine' Blk.put ?_ ?_) | (with_reducible refine' Blk.far ?_ ?_ _) | exact b7_0 | exact rfl)) <;> (first | omega | (simp <;> omega)))
    (try simp only [List.setIfInBounds_toArray, List.set_cons_zero, List.set_cons_succ] at b7_0')
    have ht8 := TapeAt.below (by (repeat' (first | (with_reducible exact HT.out) | (with_reducible refine' TapeAt.alloc ?_ _) | (with_reducible refine' TapeAt.drew ?_) | (with_reducible refine' TapeAt.drewN ?_ _) | (with_reducible refine' TapeAt.set ?_ ?_ _))) <;> (first | omega | (simp <;> omega))) hb8
    clear HT; have T8 := ht8.lt; have HT := Lib.hid ht8; clear ht8
    clear hb8 K7
    clear bC cC fC lC eC kC; have bC := bC'; clear bC'
    clear b5_0 c5_0 f5_0 l5_0 e5_0 k5_0; have b5_0 := b5_0'; clear b5_0'
    clear b6_0 c6_0 f6_0 l6_0 e6_0 k6_0; have b6_0 := b6_0'; clear b6_0'
    clear b7_0 c7_0 f7_0 l7_0 e7_0 k7_0; have b7_0 := b7_0'; clear b7_0'
    obtain ⟨cC, fC, lC, eC, kC⟩ := Blk.facts bC
    obtain ⟨c5_0, f5_0, l5_0, e5_0, k5_0⟩ := Blk.facts b5_0
    obtain ⟨c6_0, f6_0, l6_0, e6_0, k6_0⟩ := Blk.facts b6_0
    obtain ⟨c7_0, f7_0, l7_0, e7_0, k7_0⟩ := Blk.facts b7_0
    go_wp2_with fail
    refine (known38_any _).mono ?_
    rintro e w9 ⟨rfl, hb9⟩
    have K9 : Below w.heap.size w w9 := kept_call hb9 (by (repeat' (first | (with_reducible exact K8) | (with_reducible refine Below.setCell ?_ ?_ _) | (with_reducible refine Below.alloc ?_ ?_ _) | (with_reducible refine Below.drew ?_) | (with_reducible refine below_drewN ?_ _))) <;> (first | omega | (simp <;> omega)))
    have Z9 : w.heap.size ≤ w9.heap.size := K9.size
    have bC' := Blk.keep (g := g) hb9 (by (repeat' (first | (with_reducible refine' Blk.alloc ?_ _) | (with_reducible refine' Blk.drew ?_) | (with_reducible refine' Blk.drewN ?_ _) | (with_reducible refine' Blk.put ?_ ?_) | (with_reducible refine' Blk.far ?_ ?_ _) | exact bC | exact rfl)) <;> (first | omega | (simp <;> omega)))
    (try simp only [List.setIfInBounds_toArray, List.set_cons_zero, List.set_cons_succ] at bC')
    have b5_0' := Blk.keep (g := w4.heap.size) hb9 (by (repeat' (first | (with_reducible refine' Blk.alloc ?_ _) | (with_reducible refine' Blk.drew ?_) | (with_reducible refine' Blk.drewN ?_ _) | (with_reducible refine' Blk.put ?_ ?_) | (with_reducible refine' Blk.far ?_ ?_ _) | exact b5_0 | exact rfl)) <;> (first | omega | (simp <;> omega)))
    (try simp only [List.setIfInBounds_toArray, List.set_cons_zero, List.set_cons_succ] at b5_0')
    have b6_0' := Blk.keep (g := w5.heap.size) hb9 (by (repeat' (first | (with_reducible refine' Blk.alloc ?_ _) | (with_reducible refine' Blk.drew ?_) | (with_reducible refine' Blk.drewN ?_ _) | (with_reducible refine' Blk.put ?_ ?_) | (with_reducible refine' Blk.far ?_ ?_ _) | exact b6_0 | exact rfl)) <;> (first | omega | (simp <;> omega)))
    (try simp only [List.setIfInBounds_toArray, List.set_cons_zero, List.set_cons_succ] at b6_0')
    have b7_0' := Blk.keep (g := w6.heap.size) hb9 (by (repeat' (first | (with_reducible refine' Blk.alloc ?_ _) | (with_reducible refine' Blk.drew ?_) | (with_reducible refine' Blk.drewN ?_ _) | (with_reducible refine' Blk.put ?_ ?_) | (with_reducible refine' Blk.far ?_ ?_ _) | exact b7_0 | exact rfl)) <;> (first | omega | (simp <;> omega)))
    (try simp only [List.setIfInBounds_toArray, List.set_cons_zero, List.set_cons_succ] at b7_0')
    have ht9 := TapeAt.below (by (repeat' (first | (with_reducible exact HT.out) | (with_reducible refine' TapeAt.alloc ?_ _) | (with_reducible refine' TapeAt.drew ?_) | (with_reducible refine' TapeAt.drewN ?_ _) | (with_reducible refine' TapeAt.set ?_ ?_ _))) <;> (first | omega | (simp <;> omega))) hb9
    clear HT; have T9 := ht9.lt; have HT := Lib.hid ht9; clear ht9
    clear hb9 K8
    clear bC cC fC lC eC kC; have bC := bC'; clear bC'
    clear b5_0 c5_0 f5_0 l5_0 e5_0 k5_0; have b5_0 := b5_0'; clear b5_0'
    clear b6_0 c6_0 f6_0 l6_0 e6_0 k6_0; have b6_0 := b6_0'; clear b6_0'
    clear b7_0 c7_0 f7_0 l7_0 e7_0 k7_0; have b7_0 := b7_0'; clear b7_0'
    obtain ⟨cC, fC, lC, eC, kC⟩ := Blk.facts bC
    obtain ⟨c5_0, f5_0, l5_0, e5_0, k5_0⟩ := Blk.facts b5_0
    obtain ⟨c6_0, f6_0, l6_0, e6_0, k6_0⟩ := Blk.facts b6_0
    obtain ⟨c7_0, f7_0, l7_0, e7_0, k7_0⟩ := Blk.facts b7_0
    go_wp2
    go_ret
    exact ⟨by simp, by (repeat' (first | (with_reducible exact K9) | (with_reducible refine Below.setCell ?_ ?_ _) | (with_reducible refine Below.alloc ?_ ?_ _) | (with_reducible refine Below.drew ?_) | (with_reducible refine below_drewN ?_ _))) <;> (first | omega | (simp <;> omega))⟩
theorem steerSmall_walk (A : Option Addr) (len cap : Nat) (zs : List Int) {w : World} (hA : IntsAt w A len zs) (W : World) (h : W = w) :
    Walked 6 #[.slice A len cap] W := by
  subst h; exact steerSmall_core A len cap zs W hA
end Go.Proofs.Ytnjogepllhjcjaa
