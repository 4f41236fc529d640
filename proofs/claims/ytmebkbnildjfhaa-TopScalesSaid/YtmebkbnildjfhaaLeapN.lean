/- world.NearLeap: the instants of the laws. -/
import Derived.Test.YtmebkbnildjfhaaLeapL
import Derived.Test.YtmebkbnildjfhaaCalmP
import Derived.Deep.RegionWith
namespace Go.Proofs.Ytmebkbnildjfhaa
open Go.RowKit
set_option linter.unusedSimpArgs false
set_option linter.unusedVariables false

theorem tdiv_in {v k : Int} (hk : 1 ≤ k) (h : IntIn v) : -9223372036854775808 ≤ v.tdiv k ∧ v.tdiv k ≤ 9223372036854775807 := by
  unfold IntIn at h
  rcases Int.le_total 0 v with h0 | h0
  · rw [Int.tdiv_eq_ediv_of_nonneg h0]
    have h1 := Int.ediv_nonneg h0 (show 0 ≤ k by omega)
    have h2 := Int.ediv_le_self k h0
    omega
  · obtain ⟨u, rfl⟩ : ∃ u, v = -u := ⟨-v, by omega⟩
    rw [Int.neg_tdiv, Int.tdiv_eq_ediv_of_nonneg (by omega)]
    have h1 := Int.ediv_nonneg (show 0 ≤ u by omega) (show 0 ≤ k by omega)
    have h2 := Int.ediv_le_self k (show 0 ≤ u by omega)
    omega
def WNear (w : World) (e : Ending) (w' : World) : Prop := ∃ t : Int, e = .returned (.int .i64 t) ∧ 536870912 ≤ t ∧ t ≤ 140737488355328 ∧ Below w.heap.size w w'
set_option maxRecDepth 100000 in
set_option maxHeartbeats 2000000 in
theorem near_any (A : Option Addr) (len cap : Nat) (ls : List (Int × Int)) (v : Int) (hT : WTab ls) (hl : ls.length = len) (hv : IntIn v) (w : World) (h : PrAt w A len ls) :
    Calls Try.prog 13 #[.agg #[.int .i64 10, .slice A len cap], .int .i64 v] w (WNear w) := by
  have r0 : 0 ≤ v % 4 ∧ v % 4 < 4 := by omega
  have HT := Lib.hid hT; have H := Lib.hid h; have HV := Lib.hid hv; have HLL := Lib.hid hl; clear hT h hv hl
  have R4 := Lib.hid (fun W => wwithinW v 4 W (by omega) (by omega))
  go_enter Try.func13, Try.ntmps13
  by_cases hlen : 0 < len
  · have g0 : decide (0 < (len : Int)) = true := decide_eq_true (by omega)
    have g0n : decide (0 < len) = true := decide_eq_true hlen
    go_wp2_with fail
    refine (R4.out _).mono ?_
    rintro e wq ⟨rfl, rfl⟩
    generalize hr : v % 4 = r at *
    clear hr
    by_cases hr : 0 < r
    · have g1 : decide (0 < r) = true := decide_eq_true hr
      obtain ⟨bl, off, rfl, hb, hcs⟩ := H.out.2.2 hlen
      have m0 : 0 ≤ v.tdiv 4 % (len : Int) ∧ v.tdiv 4 % (len : Int) < (len : Int) := ⟨Int.emod_nonneg _ (by omega), Int.emod_lt_of_pos _ (by omega)⟩
      have hl64 : len ≤ 4 := by have := HT.out.2.1; rw [HLL.out] at this; exact this
      obtain ⟨k, hk⟩ : ∃ k : Nat, v.tdiv 4 % (len : Int) = (k : Int) := ⟨(v.tdiv 4 % (len : Int)).toNat, by omega⟩
      have hkl : k < len := by omega
      obtain ⟨e0, e1⟩ := hcs k hkl
      clear hcs
      have hz := HT.out.2.2.2.2.2 (ls.getD k (0, 0)) (by rw [List.getD_eq_getElem?_getD, List.getElem?_eq_getElem (by rw [HLL.out]; exact hkl)]; exact List.getElem_mem _)
      have hv4 := tdiv_in (v := v) (k := 4) (by omega) HV.out
      have hv16 := tdiv_in (v := v) (k := 16) (by omega) HV.out
      have hv64 := tdiv_in (v := v) (k := 64) (by omega) HV.out
      obtain ⟨v4, ev4⟩ : ∃ a, v.tdiv 4 = a := ⟨_, rfl⟩
      have wd4 : IntKind.i64.wrap (v.tdiv 4) = v4 := by rw [IntWalk.i64_in _ (by omega)]; exact ev4
      rw [ev4] at hv4
      obtain ⟨v16, ev16⟩ : ∃ a, v.tdiv 16 = a := ⟨_, rfl⟩
      have wd16 : IntKind.i64.wrap (v.tdiv 16) = v16 := by rw [IntWalk.i64_in _ (by omega)]; exact ev16
      rw [ev16] at hv16
      obtain ⟨v64, ev64⟩ : ∃ a, v.tdiv 64 = a := ⟨_, rfl⟩
      have wd64 : IntKind.i64.wrap (v.tdiv 64) = v64 := by rw [IntWalk.i64_in _ (by omega)]; exact ev64
      rw [ev64] at hv64
      rw [ev4] at m0 hk
      have RK := Lib.hid (fun W => (show Calls Try.prog 14 #[.int .i64 v4, .int .i64 (len : Int)] W (RB W (.int .i64 (k : Int))) from hk ▸ (wwithinW v4 len W (by omega) (by omega)).mono (fun _ _ hh => ⟨hh.1, hh.2 ▸ Below.refl _ _⟩)))
      clear hk m0 ev4 ev16 ev64
      generalize ls.getD k (0, 0) = z at *
      obtain ⟨x, y⟩ := z
      dsimp only at e0 e1 hz
      have E0 : ∀ W, Below w.heap.size w W → W.cell? ⟨bl, off + k * 2, none⟩ = some (.int .i64 x) := fun W h => (h.cell (p := ⟨bl, off + k * 2, none⟩) hb).trans e0
      have E1 : ∀ W, Below w.heap.size w W → W.cell? ⟨bl, off + k * 2 + 1, none⟩ = some (.int .i64 y) := fun W h => (h.cell (p := ⟨bl, off + k * 2 + 1, none⟩) hb).trans e1
      clear e0 e1
      go_upto_region 2 with fail
      have b0 : Blk (w.alloc (.cells #[.int .i64 10, .slice (some ⟨bl, off, none⟩) len cap] 25)) w.heap.size 25 #[.int .i64 10, .slice (some ⟨bl, off, none⟩) len cap] := Blk.new _ _ _
      have K0 : Below w.heap.size w (w.alloc (.cells #[.int .i64 10, .slice (some ⟨bl, off, none⟩) len cap] 25)) := (Below.refl _ w).alloc (Nat.le_refl _) _
      have s0 : w.heap.size < (w.alloc (.cells #[.int .i64 10, .slice (some ⟨bl, off, none⟩) len cap] 25)).heap.size := by simp
      generalize (w.alloc (.cells #[.int .i64 10, .slice (some ⟨bl, off, none⟩) len cap] 25)) = W0 at *
      refine wp_region_calm (by kernel_rfl) (fun n us w' => Below w.heap.size w w' ∧ Blk w' w.heap.size 25 #[.int .i64 10, .slice (some ⟨bl, off, none⟩) len cap] ∧ W0.heap.size ≤ w'.heap.size ∧ NewC W0.heap.size 67 #[.int .i64 0, .int .i64 0] n us w') (fun _ _ => True) [(Is (.pointer (some ⟨w.heap.size, 1, none⟩))), (Is (.slice (some ⟨bl, off, none⟩) len cap)), (Is (.int .i64 v)), (Is (.int .i64 v4)), (Is (.pointer (some ⟨w.heap.size, 1, none⟩))), (Is (.slice (some ⟨bl, off, none⟩) len cap)), (Is (.int .i64 (len : Int))), (Is (.int .i64 (k : Int))), (Is (.pointer (some ⟨bl, off + k * 2, none⟩))), (Is (.agg #[.int .i64 x, .int .i64 y])), (fun _ _ _ => True), (fun _ _ _ => True)] [[], [0], [], [2], [], [4], [5], [3, 6], [1, 7], [8], [], [9]] [10, 11] [10, 9] rfl (by kernel_rfl) (fun u => by (simp only [calmPut, Act.put, List.setIfInBounds_toArray, List.set_cons_zero, List.set_cons_succ, Nat.zero_add, Nat.reduceAdd]; rfl)) ?_ (calmKeep_cons keep_is' (calmKeep_cons keep_is' (calmKeep_cons keep_is' (calmKeep_cons keep_is' (calmKeep_cons keep_is' (calmKeep_cons keep_is' (calmKeep_cons keep_is' (calmKeep_cons keep_is' (calmKeep_cons keep_is' (calmKeep_cons keep_is' (calmKeep_cons keep_triv (calmKeep_cons keep_triv (calmKeep_nil))))))))))))) ?_ ?_
      · intro _
        exact ⟨K0.drew, b0.drew, Nat.le_refl _, .inl rfl⟩
      · skip
        refine calmSteps_cons (fun u wq n hn hn2 hC hk K hK => ?_) ?_
        · obtain ⟨hP, m0, hS, hN⟩ := hC
          clear hk
          have z0 := m0.cell
          go_simp
          exact hK _ _ _ rfl ⟨hP, m0, hS, hN⟩ trivial rfl
        refine calmSteps_cons (fun u wq n hn hn2 hC hk K hK => ?_) ?_
        · obtain ⟨hP, m0, hS, hN⟩ := hC
          simp only [calmKnown, List.getElem?_cons_zero, List.getElem?_cons_succ, and_true, Is, Pure, Option.some.injEq, List.getD_cons_zero, List.getD_cons_succ, List.map_cons, List.map_nil] at hk
          have h0 := hk; clear hk
          simp only [h0] at hK ⊢
          have H0 := Lib.hid h0; clear h0
          have z0 := m0.cell
          go_simp
          exact hK _ _ _ rfl ⟨hP, m0, hS, hN⟩ trivial rfl
        refine calmSteps_cons (fun u wq n hn hn2 hC hk K hK => ?_) ?_
        · obtain ⟨hP, m0, hS, hN⟩ := hC
          clear hk
          have z0 := m0.cell
          go_simp
          exact hK _ _ _ rfl ⟨hP, m0, hS, hN⟩ trivial rfl
        refine calmSteps_cons (fun u wq n hn hn2 hC hk K hK => ?_) ?_
        · obtain ⟨hP, m0, hS, hN⟩ := hC
          simp only [calmKnown, List.getElem?_cons_zero, List.getElem?_cons_succ, and_true, Is, Pure, Option.some.injEq, List.getD_cons_zero, List.getD_cons_succ, List.map_cons, List.map_nil] at hk
          have h2 := hk; clear hk
          simp only [h2] at hK ⊢
          have H2 := Lib.hid h2; clear h2
          have z0 := m0.cell
          go_simp
          exact hK _ _ _ rfl ⟨hP, m0, hS, hN⟩ trivial rfl
        refine calmSteps_cons (fun u wq n hn hn2 hC hk K hK => ?_) ?_
        · obtain ⟨hP, m0, hS, hN⟩ := hC
          clear hk
          have z0 := m0.cell
          go_simp
          exact hK _ _ _ rfl ⟨hP, m0, hS, hN⟩ trivial rfl
        refine calmSteps_cons (fun u wq n hn hn2 hC hk K hK => ?_) ?_
        · obtain ⟨hP, m0, hS, hN⟩ := hC
          simp only [calmKnown, List.getElem?_cons_zero, List.getElem?_cons_succ, and_true, Is, Pure, Option.some.injEq, List.getD_cons_zero, List.getD_cons_succ, List.map_cons, List.map_nil] at hk
          have h4 := hk; clear hk
          simp only [h4] at hK ⊢
          have H4 := Lib.hid h4; clear h4
          have z0 := m0.cell
          go_simp
          exact hK _ _ _ rfl ⟨hP, m0, hS, hN⟩ trivial rfl
        refine calmSteps_cons (fun u wq n hn hn2 hC hk K hK => ?_) ?_
        · obtain ⟨hP, m0, hS, hN⟩ := hC
          simp only [calmKnown, List.getElem?_cons_zero, List.getElem?_cons_succ, and_true, Is, Pure, Option.some.injEq, List.getD_cons_zero, List.getD_cons_succ, List.map_cons, List.map_nil] at hk
          have h5 := hk; clear hk
          simp only [h5] at hK ⊢
          have H5 := Lib.hid h5; clear h5
          have z0 := m0.cell
          go_simp
          exact hK _ _ _ rfl ⟨hP, m0, hS, hN⟩ trivial rfl
        refine calmSteps_cons (fun u wq n hn hn2 hC hk K hK => ?_) ?_
        · obtain ⟨hP, m0, hS, hN⟩ := hC
          simp only [calmKnown, List.getElem?_cons_zero, List.getElem?_cons_succ, and_true, Is, Pure, Option.some.injEq, List.getD_cons_zero, List.getD_cons_succ, List.map_cons, List.map_nil] at hk
          obtain ⟨h3, h6⟩ := hk
          simp only [h3, h6] at hK ⊢
          have H3 := Lib.hid h3; clear h3; have H6 := Lib.hid h6; clear h6
          go_wp2_with fail
          refine (RK.out _).mono ?_
          rintro e w2 ⟨rfl, hbl⟩
          exact hK _ _ _ rfl ⟨kept_call hbl hP, Blk.keep hbl m0, Nat.le_trans hS hbl.size, NewC.keep hN (Past.below (X := [w.heap.size]) hbl) (by omega)⟩ trivial rfl
        refine calmSteps_cons (fun u wq n hn hn2 hC hk K hK => ?_) ?_
        · obtain ⟨hP, m0, hS, hN⟩ := hC
          simp only [calmKnown, List.getElem?_cons_zero, List.getElem?_cons_succ, and_true, Is, Pure, Option.some.injEq, List.getD_cons_zero, List.getD_cons_succ, List.map_cons, List.map_nil] at hk
          obtain ⟨h1, h7⟩ := hk
          simp only [h1, h7] at hK ⊢
          have H1 := Lib.hid h1; clear h1; have H7 := Lib.hid h7; clear h7
          have z0 := m0.cell
          go_simp
          exact hK _ _ _ rfl ⟨hP, m0, hS, hN⟩ trivial rfl
        refine calmSteps_cons (fun u wq n hn hn2 hC hk K hK => ?_) ?_
        · obtain ⟨hP, m0, hS, hN⟩ := hC
          simp only [calmKnown, List.getElem?_cons_zero, List.getElem?_cons_succ, and_true, Is, Pure, Option.some.injEq, List.getD_cons_zero, List.getD_cons_succ, List.map_cons, List.map_nil] at hk
          have h8 := hk; clear hk
          simp only [h8] at hK ⊢
          have H8 := Lib.hid h8; clear h8
          have hn1 := hn2 1 11 rfl (by kernel_rfl)
          have y0 := E0 _ hP; have y1 := E1 _ hP
          go_simp
          exact hK _ _ _ rfl ⟨hP, m0, hS, NewC.val (show NewC _ _ _ n [u 10, u 9] wq from hN) hn1⟩ trivial rfl
        refine calmSteps_cons (fun u wq n hn hn2 hC hk K hK => ?_) ?_
        · obtain ⟨hP, m0, hS, hN⟩ := hC
          clear hk
          obtain rfl := hn 0 rfl
          go_simp
          exact hK _ _ _ rfl ⟨hP.alloc hP.size _, m0.alloc _, by simp; omega, NewC.made (x := u 9) hS⟩ trivial trivial
        refine calmSteps_cons (fun u wq n hn hn2 hC hk K hK => ?_) ?_
        · obtain ⟨hP, m0, hS, hN⟩ := hC
          simp only [calmKnown, List.getElem?_cons_zero, List.getElem?_cons_succ, and_true, Is, Pure, Option.some.injEq, List.getD_cons_zero, List.getD_cons_succ, List.map_cons, List.map_nil] at hk
          have h9 := hk; clear hk
          simp only [h9] at hK ⊢
          have H9 := Lib.hid h9; clear h9
          obtain rfl := hn 1 rfl
          obtain ⟨g, h10, gb, gl, hB⟩ := NewC.one (show NewC _ _ _ 1 [u 10, u 9] wq from hN)
          simp only [h10] at hK ⊢
          have H10 := Lib.hid h10; clear h10 hN
          have hz0 := hB.cell; have hf0 := hB.frozen; have hl0 := hB.lt
          have hB2 : Blk _ _ _ _ := ((hB.set_ 0 (.int .i64 x)).set_ 1 (.int .i64 y))
          simp only [List.setIfInBounds_toArray, List.set_cons_zero, List.set_cons_succ] at hB2
          have nb : w.heap.size ≠ g := by omega
          go_simp
          exact hK _ undef _ rfl ⟨(hP.setCell (by simp; omega) _).setCell (by simp; omega) _, (m0.far nb _).far nb _, by simp; omega, (show NewC _ _ _ 2 [u 10, u 9] _ from by rw [H10.out, H9.out]; exact NewC.stored gb hB2)⟩ trivial trivial
        exact calmSteps_nil
      · intro u w2 hC hF
        obtain ⟨hP, m0, hS, hN⟩ := hC
        obtain ⟨g, cs5, g9, gb, g6, hB⟩ := NewC.last (show NewC _ _ _ 2 [u 10, u 9] w2 from hN)
        simp only [calmFacts, Pure, Is, List.map_cons, List.map_nil, and_true, Nat.zero_add, Nat.reduceAdd] at hF
        obtain ⟨-, -, -, -, -, -, -, -, -, h9⟩ := hF
        rw [g6] at h9
        obtain rfl : cs5 = _ := by injection h9
        simp only [g9]
        clear h9 g6 g9 hN
        have c2 := hB.cell; have f2 := hB.frozen; have l2 := hB.lt
        have w1 : IntKind.i64.wrap (x + y) = x + y := IntWalk.i64_in _ (by omega)
        have wsh : IntKind.i64.wrap ((x + y) * 1048576) = (x + y) * 1048576 := IntWalk.i64_in _ (by omega)
        clear b0 m0 E0 E1
        go_wp2_with fail
        refine (wwithinW v16 4 _ (by omega) (by omega)).mono ?_
        rintro e wq2 ⟨rfl, rfl⟩
        have q0 : 0 ≤ v16 % 4 ∧ v16 % 4 < 4 := by omega
        generalize v16 % 4 = q at *
        by_cases q1 : q = 0
        · have gq1 : decide (q = 0) = true := decide_eq_true q1
          have mm : 0 ≤ v64 % 5242880 ∧ v64 % 5242880 < 5242880 := by omega
          have RM := Lib.hid (fun W => wwithinW v64 5242880 W (by omega) (by omega))
          generalize v64 % 5242880 = m at *
          have u0 : IntKind.i64.wrap ((x + y) * 1048576 + m) = ((x + y) * 1048576 + m) := IntWalk.i64_in _ (by omega)
          have u1 : IntKind.i64.wrap ((x + y) * 1048576 + m - 3145728) = ((x + y) * 1048576 + m - 3145728) := IntWalk.i64_in _ (by omega)
          go_wp2_with fail
          refine (RM.out _).mono ?_
          rintro e wq3 ⟨rfl, rfl⟩
          go_wp2
          go_ret
          exact ⟨_, rfl, by omega, by omega, by (repeat' (first | (with_reducible exact hP) | (with_reducible refine Below.setCell ?_ ?_ _) | (with_reducible refine Below.alloc ?_ ?_ _) | (with_reducible refine Below.drew ?_) | (with_reducible refine below_drewN ?_ _))) <;> (first | omega | (simp <;> omega))⟩
        have gq1 : decide (q = 0) = false := decide_eq_false q1
        by_cases q2 : q = 1
        · have gq2 : decide (q = 1) = true := decide_eq_true q2
          have mm : 0 ≤ v64 % 7 ∧ v64 % 7 < 7 := by omega
          have RM := Lib.hid (fun W => wwithinW v64 7 W (by omega) (by omega))
          generalize v64 % 7 = m at *
          have u0 : IntKind.i64.wrap ((x + y) * 1048576 + m) = ((x + y) * 1048576 + m) := IntWalk.i64_in _ (by omega)
          have u1 : IntKind.i64.wrap ((x + y) * 1048576 + m - 3) = ((x + y) * 1048576 + m - 3) := IntWalk.i64_in _ (by omega)
          go_wp2_with fail
          refine (RM.out _).mono ?_
          rintro e wq3 ⟨rfl, rfl⟩
          go_wp2
          go_ret
          exact ⟨_, rfl, by omega, by omega, by (repeat' (first | (with_reducible exact hP) | (with_reducible refine Below.setCell ?_ ?_ _) | (with_reducible refine Below.alloc ?_ ?_ _) | (with_reducible refine Below.drew ?_) | (with_reducible refine below_drewN ?_ _))) <;> (first | omega | (simp <;> omega))⟩
        have gq2 : decide (q = 1) = false := decide_eq_false q2
        by_cases q3 : q = 2
        · have gq3 : decide (q = 2) = true := decide_eq_true q3
          have mm : 0 ≤ v64 % 7 ∧ v64 % 7 < 7 := by omega
          have RM := Lib.hid (fun W => wwithinW v64 7 W (by omega) (by omega))
          generalize v64 % 7 = m at *
          have u0 : IntKind.i64.wrap ((x + y) * 1048576 - 1048576) = ((x + y) * 1048576 - 1048576) := IntWalk.i64_in _ (by omega)
          have u1 : IntKind.i64.wrap ((x + y) * 1048576 - 1048576 + m) = ((x + y) * 1048576 - 1048576 + m) := IntWalk.i64_in _ (by omega)
          have u2 : IntKind.i64.wrap ((x + y) * 1048576 - 1048576 + m - 3) = ((x + y) * 1048576 - 1048576 + m - 3) := IntWalk.i64_in _ (by omega)
          go_wp2_with fail
          refine (RM.out _).mono ?_
          rintro e wq3 ⟨rfl, rfl⟩
          go_wp2
          go_ret
          exact ⟨_, rfl, by omega, by omega, by (repeat' (first | (with_reducible exact hP) | (with_reducible refine Below.setCell ?_ ?_ _) | (with_reducible refine Below.alloc ?_ ?_ _) | (with_reducible refine Below.drew ?_) | (with_reducible refine below_drewN ?_ _))) <;> (first | omega | (simp <;> omega))⟩
        have gq3 : decide (q = 2) = false := decide_eq_false q3
        have mm : 0 ≤ v64 % 94371840000 ∧ v64 % 94371840000 < 94371840000 := by omega
        have RM := Lib.hid (fun W => wwithinW v64 94371840000 W (by omega) (by omega))
        generalize v64 % 94371840000 = m at *
        have u0 : IntKind.i64.wrap ((x + y) * 1048576 + m) = ((x + y) * 1048576 + m) := IntWalk.i64_in _ (by omega)
        have u1 : IntKind.i64.wrap ((x + y) * 1048576 + m - 47185920000) = ((x + y) * 1048576 + m - 47185920000) := IntWalk.i64_in _ (by omega)
        go_wp2_with fail
        refine (RM.out _).mono ?_
        rintro e wq3 ⟨rfl, rfl⟩
        go_wp2
        go_ret
        exact ⟨_, rfl, by omega, by omega, by (repeat' (first | (with_reducible exact hP) | (with_reducible refine Below.setCell ?_ ?_ _) | (with_reducible refine Below.alloc ?_ ?_ _) | (with_reducible refine Below.drew ?_) | (with_reducible refine below_drewN ?_ _))) <;> (first | omega | (simp <;> omega))⟩
    · have g1 : decide (0 < r) = false := decide_eq_false hr
      have mm : 0 ≤ v % 35184372088832 ∧ v % 35184372088832 < 35184372088832 := by omega
      have RM := Lib.hid (fun W => wwithinW v 35184372088832 W (by omega) (by omega))
      generalize v % 35184372088832 = m at *
      have u0 : IntKind.i64.wrap (536870912 + m) = 536870912 + m := IntWalk.i64_in _ (by omega)
      go_wp2_with fail
      refine (RM.out _).mono ?_
      rintro e wq3 ⟨rfl, rfl⟩
      go_wp2
      go_ret
      exact ⟨_, rfl, by omega, by omega, by (repeat' (first | (with_reducible exact Below.refl _ _) | (with_reducible refine Below.setCell ?_ ?_ _) | (with_reducible refine Below.alloc ?_ ?_ _) | (with_reducible refine Below.drew ?_) | (with_reducible refine below_drewN ?_ _))) <;> (first | omega | (simp <;> omega))⟩
  · have g0 : decide (0 < (len : Int)) = false := decide_eq_false (by omega)
    have g0n : decide (0 < len) = false := decide_eq_false hlen
    have mm : 0 ≤ v % 35184372088832 ∧ v % 35184372088832 < 35184372088832 := by omega
    have RM := Lib.hid (fun W => wwithinW v 35184372088832 W (by omega) (by omega))
    generalize v % 35184372088832 = m at *
    have u0 : IntKind.i64.wrap (536870912 + m) = 536870912 + m := IntWalk.i64_in _ (by omega)
    go_wp2_with fail
    refine (RM.out _).mono ?_
    rintro e wq3 ⟨rfl, rfl⟩
    go_wp2
    go_ret
    exact ⟨_, rfl, by omega, by omega, by (repeat' (first | (with_reducible exact Below.refl _ _) | (with_reducible refine Below.setCell ?_ ?_ _) | (with_reducible refine Below.alloc ?_ ?_ _) | (with_reducible refine Below.drew ?_) | (with_reducible refine below_drewN ?_ _))) <;> (first | omega | (simp <;> omega))⟩
end Go.Proofs.Ytmebkbnildjfhaa
