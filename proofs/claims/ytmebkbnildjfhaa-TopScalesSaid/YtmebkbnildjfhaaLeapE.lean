/- Error of both, for every table. -/
import Derived.Test.YtmebkbnildjfhaaLeapY
import Derived.Test.YtmebkbnildjfhaaLeapZ
namespace Go.Proofs.Ytmebkbnildjfhaa
open Go.RowKit
set_option linter.unusedSimpArgs false
set_option linter.unusedVariables false

def erV (first : Int) (zs : List (Int × Int)) (t : Int) : Int × Int := if lvB first zs then (if 134217728 ≤ t ∧ t ≤ 288230376151711744 then (if inS (utN first zs (t / 1048576)) then (shL first zs t - ((utN first zs (t / 1048576) + (if utB first zs (t / 1048576) then 1 else 0)) * 1048576 + t % 1048576), 0) else (0, 9)) else (0, 4)) else (0, 3)
section
variable {first : Int} {zs : List (Int × Int)} {t : Int}
theorem erV_no (h : ¬ LVal first zs) : erV first zs t = (0, 3) := by unfold erV; rw [lvB_no h]; rfl
theorem erV_out (h : LVal first zs) (h' : ¬ (134217728 ≤ t ∧ t ≤ 288230376151711744)) : erV first zs t = (0, 4) := by unfold erV; rw [lvB_true.2 h, if_pos rfl, if_neg h']
theorem erV_9 (h : LVal first zs) (h' : 134217728 ≤ t ∧ t ≤ 288230376151711744) (h2 : ¬ inS (utN first zs (t / 1048576)) = true) : erV first zs t = (0, 9) := by unfold erV; rw [lvB_true.2 h, if_pos rfl, if_pos h', if_neg h2]
theorem erV_in (h : LVal first zs) (h' : 134217728 ≤ t ∧ t ≤ 288230376151711744) (h2 : inS (utN first zs (t / 1048576)) = true) : erV first zs t = (shL first zs t - ((utN first zs (t / 1048576) + (if utB first zs (t / 1048576) then 1 else 0)) * 1048576 + t % 1048576), 0) := by unfold erV; rw [lvB_true.2 h, if_pos rfl, if_pos h', if_pos h2]
theorem sh_wide (hv : LVal first zs) (h' : 134217728 ≤ t ∧ t ≤ 288230376151711744) : -1152921504606846976 ≤ shL first zs t ∧ shL first zs t ≤ 1152921504606846976 := by
  have Y := shL_rate hv (t := 0) (d := t) (by omega)
  have e : ∀ k, k ≤ zs.length → shAt first zs 0 k = - (first * 1048576) := by
    intro k
    induction k with
    | zero => intro _; unfold shAt; omega
    | succ k ih =>
      intro hk
      have ha := hv.at_ (i := k) (by omega)
      have ho := hv.off (i := k) (by omega)
      have hw := win_len (first := first) (zs := zs) k
      have e1 : wsLo zs k = ((zs.getD k (0, 0)).1 - 43200) * 1048576 := rfl
      rw [shAt, if_neg (by omega), if_neg (by omega)]
      exact ih (by omega)
  have e0 : shL first zs 0 = - (first * 1048576) := e _ (Nat.le_refl _)
  have f0 := hv.1; have f1 := hv.2.1
  rw [Int.zero_add, e0] at Y
  omega
end
set_option maxRecDepth 100000 in
set_option maxHeartbeats 2000000 in
theorem err_any (first : Int) (A : Option Addr) (len cap : Nat) (zs : List (Int × Int)) (tt : Int) (w : World) (h : PrAt w A len zs) (hz : ∀ z ∈ zs, IntIn z.1 ∧ IntIn z.2) :
    Calls Try.prog 28 #[.agg #[.int .i64 first, .slice A len cap], .int .i64 tt] w (RB w (.tuple #[.int .i64 (erV first zs tt).1, .int .i64 (erV first zs tt).2])) := by
  have sm := fun W (hW : Below w.heap.size w W) => smear_any first A len cap zs tt W (h.below hW) hz
  by_cases hv : LVal first zs
  · by_cases h1 : 134217728 ≤ tt ∧ tt ≤ 288230376151711744
    · have UT := Lib.hid (fun W (hW : Below w.heap.size w W) => utc_any first A len cap zs tt hv (by omega) (by omega) W (h.below hW) hz)
      rw [smV_in hv h1] at sm
      have shb := sh_wide hv h1
      have SM := Lib.hid sm; clear sm
      clear h hz
      by_cases h2 : inS (utN first zs (tt / 1048576)) = true
      · rw [erV_in hv h1 h2]
        rw [utV_in h2] at UT
        rw [inS_true] at h2
        have p01 : 0 ≤ tt % 1048576 ∧ tt % 1048576 < 1048576 := by omega
        clear hv
        generalize shL first zs tt = s at *
        generalize utN first zs (tt / 1048576) = N at *
        generalize tt % 1048576 = p at *
        generalize utB first zs (tt / 1048576) = B at *
        have w1 : IntKind.i64.wrap (N + 1) = N + 1 := IntWalk.i64_in _ (by omega)
        have w2 : IntKind.i64.wrap (N * 1048576) = N * 1048576 := IntWalk.i64_in _ (by omega)
        have w3 : IntKind.i64.wrap ((N + 1) * 1048576) = (N + 1) * 1048576 := IntWalk.i64_in _ (by omega)
        have w4 : IntKind.i64.wrap (N * 1048576 + p) = N * 1048576 + p := IntWalk.i64_in _ (by omega)
        have w5 : IntKind.i64.wrap ((N + 1) * 1048576 + p) = (N + 1) * 1048576 + p := IntWalk.i64_in _ (by omega)
        have w6 : IntKind.i64.wrap (s - (N * 1048576 + p)) = s - (N * 1048576 + p) := IntWalk.i64_in _ (by omega)
        have w7 : IntKind.i64.wrap (s - ((N + 1) * 1048576 + p)) = s - ((N + 1) * 1048576 + p) := IntWalk.i64_in _ (by omega)
        cases B with
        | false =>
          rw [show (N + (if false = true then (1 : Int) else 0)) = N by simp]
          dsimp only
          go_enter Try.func28, Try.ntmps28
          go_wp2_with fail
          refine (SM.out _ (by (repeat' (first | (with_reducible exact Below.refl _ _) | (with_reducible refine Below.setCell ?_ ?_ _) | (with_reducible refine Below.alloc ?_ ?_ _) | (with_reducible refine Below.drew ?_) | (with_reducible refine below_drewN ?_ _))) <;> (first | omega | (simp <;> omega)))).mono ?_
          rintro e w1 ⟨rfl, hb1⟩
          have K1 : Below w.heap.size w w1 := kept_call hb1 (by (repeat' (first | (with_reducible exact Below.refl _ _) | (with_reducible refine Below.setCell ?_ ?_ _) | (with_reducible refine Below.alloc ?_ ?_ _) | (with_reducible refine Below.drew ?_) | (with_reducible refine below_drewN ?_ _))) <;> (first | omega | (simp <;> omega)))
          have Z1 : w.heap.size ≤ w1.heap.size := K1.size
          have b1_0 := Blk.keep (g := w.heap.size) hb1 (by (repeat' (first | ((with_reducible refine' Blk.newE ?_); first | rfl | (simp; done)) | (with_reducible refine' Blk.alloc ?_ _) | (with_reducible refine' Blk.drew ?_) | (with_reducible refine' Blk.drewN ?_ _) | (with_reducible refine' Blk.put ?_ ?_) | (with_reducible refine' Blk.far ?_ ?_ _) | exact rfl)) <;> (first | omega | (simp <;> omega)))
          (try simp only [List.setIfInBounds_toArray, List.set_cons_zero, List.set_cons_succ] at b1_0)
          clear hb1
          obtain ⟨c1_0, f1_0, l1_0, e1_0, k1_0⟩ := Blk.facts b1_0
          have o1_0 := l1_0
          go_wp2_with fail
          refine (UT.out _ (by (repeat' (first | (with_reducible exact K1) | (with_reducible refine Below.setCell ?_ ?_ _) | (with_reducible refine Below.alloc ?_ ?_ _) | (with_reducible refine Below.drew ?_) | (with_reducible refine below_drewN ?_ _))) <;> (first | omega | (simp <;> omega)))).mono ?_
          rintro e w2 ⟨rfl, hb2⟩
          have K2 : Below w.heap.size w w2 := kept_call hb2 (by (repeat' (first | (with_reducible exact K1) | (with_reducible refine Below.setCell ?_ ?_ _) | (with_reducible refine Below.alloc ?_ ?_ _) | (with_reducible refine Below.drew ?_) | (with_reducible refine below_drewN ?_ _))) <;> (first | omega | (simp <;> omega)))
          have Z2 : w.heap.size ≤ w2.heap.size := K2.size
          have b1_0' := Blk.keep (g := w.heap.size) hb2 (by (repeat' (first | (with_reducible refine' Blk.alloc ?_ _) | (with_reducible refine' Blk.drew ?_) | (with_reducible refine' Blk.drewN ?_ _) | (with_reducible refine' Blk.put ?_ ?_) | (with_reducible refine' Blk.far ?_ ?_ _) | exact b1_0 | exact rfl)) <;> (first | omega | (simp <;> omega)))
          (try simp only [List.setIfInBounds_toArray, List.set_cons_zero, List.set_cons_succ] at b1_0')
          clear hb2 K1
          clear b1_0 c1_0 f1_0 l1_0 e1_0 k1_0; have b1_0 := b1_0'; clear b1_0'
          obtain ⟨c1_0, f1_0, l1_0, e1_0, k1_0⟩ := Blk.facts b1_0
          go_wp2
          exact bodyPost_ret (v := .tuple #[.int .i64 (s - (N * 1048576 + p)), .int .i64 0]) (by simp [results, Try.results28, go_sem, *]) rfl ⟨rfl, (by (repeat' (first | (with_reducible exact K2) | (with_reducible refine Below.setCell ?_ ?_ _) | (with_reducible refine Below.alloc ?_ ?_ _) | (with_reducible refine Below.drew ?_) | (with_reducible refine below_drewN ?_ _))) <;> (first | omega | (simp <;> omega)))⟩
        | true =>
          rw [show (N + (if true = true then (1 : Int) else 0)) = (N + 1) by simp]
          dsimp only
          go_enter Try.func28, Try.ntmps28
          go_wp2_with fail
          refine (SM.out _ (by (repeat' (first | (with_reducible exact Below.refl _ _) | (with_reducible refine Below.setCell ?_ ?_ _) | (with_reducible refine Below.alloc ?_ ?_ _) | (with_reducible refine Below.drew ?_) | (with_reducible refine below_drewN ?_ _))) <;> (first | omega | (simp <;> omega)))).mono ?_
          rintro e w1 ⟨rfl, hb1⟩
          have K1 : Below w.heap.size w w1 := kept_call hb1 (by (repeat' (first | (with_reducible exact Below.refl _ _) | (with_reducible refine Below.setCell ?_ ?_ _) | (with_reducible refine Below.alloc ?_ ?_ _) | (with_reducible refine Below.drew ?_) | (with_reducible refine below_drewN ?_ _))) <;> (first | omega | (simp <;> omega)))
          have Z1 : w.heap.size ≤ w1.heap.size := K1.size
          have b1_0 := Blk.keep (g := w.heap.size) hb1 (by (repeat' (first | ((with_reducible refine' Blk.newE ?_); first | rfl | (simp; done)) | (with_reducible refine' Blk.alloc ?_ _) | (with_reducible refine' Blk.drew ?_) | (with_reducible refine' Blk.drewN ?_ _) | (with_reducible refine' Blk.put ?_ ?_) | (with_reducible refine' Blk.far ?_ ?_ _) | exact rfl)) <;> (first | omega | (simp <;> omega)))
          (try simp only [List.setIfInBounds_toArray, List.set_cons_zero, List.set_cons_succ] at b1_0)
          clear hb1
          obtain ⟨c1_0, f1_0, l1_0, e1_0, k1_0⟩ := Blk.facts b1_0
          have o1_0 := l1_0
          go_wp2_with fail
          refine (UT.out _ (by (repeat' (first | (with_reducible exact K1) | (with_reducible refine Below.setCell ?_ ?_ _) | (with_reducible refine Below.alloc ?_ ?_ _) | (with_reducible refine Below.drew ?_) | (with_reducible refine below_drewN ?_ _))) <;> (first | omega | (simp <;> omega)))).mono ?_
          rintro e w2 ⟨rfl, hb2⟩
          have K2 : Below w.heap.size w w2 := kept_call hb2 (by (repeat' (first | (with_reducible exact K1) | (with_reducible refine Below.setCell ?_ ?_ _) | (with_reducible refine Below.alloc ?_ ?_ _) | (with_reducible refine Below.drew ?_) | (with_reducible refine below_drewN ?_ _))) <;> (first | omega | (simp <;> omega)))
          have Z2 : w.heap.size ≤ w2.heap.size := K2.size
          have b1_0' := Blk.keep (g := w.heap.size) hb2 (by (repeat' (first | (with_reducible refine' Blk.alloc ?_ _) | (with_reducible refine' Blk.drew ?_) | (with_reducible refine' Blk.drewN ?_ _) | (with_reducible refine' Blk.put ?_ ?_) | (with_reducible refine' Blk.far ?_ ?_ _) | exact b1_0 | exact rfl)) <;> (first | omega | (simp <;> omega)))
          (try simp only [List.setIfInBounds_toArray, List.set_cons_zero, List.set_cons_succ] at b1_0')
          clear hb2 K1
          clear b1_0 c1_0 f1_0 l1_0 e1_0 k1_0; have b1_0 := b1_0'; clear b1_0'
          obtain ⟨c1_0, f1_0, l1_0, e1_0, k1_0⟩ := Blk.facts b1_0
          go_wp2
          exact bodyPost_ret (v := .tuple #[.int .i64 (s - ((N + 1) * 1048576 + p)), .int .i64 0]) (by simp [results, Try.results28, go_sem, *]) rfl ⟨rfl, (by (repeat' (first | (with_reducible exact K2) | (with_reducible refine Below.setCell ?_ ?_ _) | (with_reducible refine Below.alloc ?_ ?_ _) | (with_reducible refine Below.drew ?_) | (with_reducible refine below_drewN ?_ _))) <;> (first | omega | (simp <;> omega)))⟩
      · rw [erV_9 hv h1 h2]
        rw [utV_out h2] at UT
        clear hv h2
        generalize shL first zs tt = s at *
        dsimp only
        go_enter Try.func28, Try.ntmps28
        go_wp2_with fail
        refine (SM.out _ (by (repeat' (first | (with_reducible exact Below.refl _ _) | (with_reducible refine Below.setCell ?_ ?_ _) | (with_reducible refine Below.alloc ?_ ?_ _) | (with_reducible refine Below.drew ?_) | (with_reducible refine below_drewN ?_ _))) <;> (first | omega | (simp <;> omega)))).mono ?_
        rintro e w1 ⟨rfl, hb1⟩
        have K1 : Below w.heap.size w w1 := kept_call hb1 (by (repeat' (first | (with_reducible exact Below.refl _ _) | (with_reducible refine Below.setCell ?_ ?_ _) | (with_reducible refine Below.alloc ?_ ?_ _) | (with_reducible refine Below.drew ?_) | (with_reducible refine below_drewN ?_ _))) <;> (first | omega | (simp <;> omega)))
        have Z1 : w.heap.size ≤ w1.heap.size := K1.size
        have b1_0 := Blk.keep (g := w.heap.size) hb1 (by (repeat' (first | ((with_reducible refine' Blk.newE ?_); first | rfl | (simp; done)) | (with_reducible refine' Blk.alloc ?_ _) | (with_reducible refine' Blk.drew ?_) | (with_reducible refine' Blk.drewN ?_ _) | (with_reducible refine' Blk.put ?_ ?_) | (with_reducible refine' Blk.far ?_ ?_ _) | exact rfl)) <;> (first | omega | (simp <;> omega)))
        (try simp only [List.setIfInBounds_toArray, List.set_cons_zero, List.set_cons_succ] at b1_0)
        clear hb1
        obtain ⟨c1_0, f1_0, l1_0, e1_0, k1_0⟩ := Blk.facts b1_0
        have o1_0 := l1_0
        go_wp2_with fail
        refine (UT.out _ (by (repeat' (first | (with_reducible exact K1) | (with_reducible refine Below.setCell ?_ ?_ _) | (with_reducible refine Below.alloc ?_ ?_ _) | (with_reducible refine Below.drew ?_) | (with_reducible refine below_drewN ?_ _))) <;> (first | omega | (simp <;> omega)))).mono ?_
        rintro e w2 ⟨rfl, hb2⟩
        have K2 : Below w.heap.size w w2 := kept_call hb2 (by (repeat' (first | (with_reducible exact K1) | (with_reducible refine Below.setCell ?_ ?_ _) | (with_reducible refine Below.alloc ?_ ?_ _) | (with_reducible refine Below.drew ?_) | (with_reducible refine below_drewN ?_ _))) <;> (first | omega | (simp <;> omega)))
        have Z2 : w.heap.size ≤ w2.heap.size := K2.size
        have b1_0' := Blk.keep (g := w.heap.size) hb2 (by (repeat' (first | (with_reducible refine' Blk.alloc ?_ _) | (with_reducible refine' Blk.drew ?_) | (with_reducible refine' Blk.drewN ?_ _) | (with_reducible refine' Blk.put ?_ ?_) | (with_reducible refine' Blk.far ?_ ?_ _) | exact b1_0 | exact rfl)) <;> (first | omega | (simp <;> omega)))
        (try simp only [List.setIfInBounds_toArray, List.set_cons_zero, List.set_cons_succ] at b1_0')
        clear hb2 K1
        clear b1_0 c1_0 f1_0 l1_0 e1_0 k1_0; have b1_0 := b1_0'; clear b1_0'
        obtain ⟨c1_0, f1_0, l1_0, e1_0, k1_0⟩ := Blk.facts b1_0
        go_wp2
        exact bodyPost_ret (v := .tuple #[.int .i64 0, .int .i64 9]) (by simp [results, Try.results28, go_sem, *]) rfl ⟨rfl, (by (repeat' (first | (with_reducible exact K2) | (with_reducible refine Below.setCell ?_ ?_ _) | (with_reducible refine Below.alloc ?_ ?_ _) | (with_reducible refine Below.drew ?_) | (with_reducible refine below_drewN ?_ _))) <;> (first | omega | (simp <;> omega)))⟩
    · rw [erV_out hv h1]
      rw [smV_out hv h1] at sm
      have SM := Lib.hid sm; clear sm h hz hv
      dsimp only
      go_enter Try.func28, Try.ntmps28
      go_wp2_with fail
      refine (SM.out _ (by (repeat' (first | (with_reducible exact Below.refl _ _) | (with_reducible refine Below.setCell ?_ ?_ _) | (with_reducible refine Below.alloc ?_ ?_ _) | (with_reducible refine Below.drew ?_) | (with_reducible refine below_drewN ?_ _))) <;> (first | omega | (simp <;> omega)))).mono ?_
      rintro e w1 ⟨rfl, hb1⟩
      have K1 : Below w.heap.size w w1 := kept_call hb1 (by (repeat' (first | (with_reducible exact Below.refl _ _) | (with_reducible refine Below.setCell ?_ ?_ _) | (with_reducible refine Below.alloc ?_ ?_ _) | (with_reducible refine Below.drew ?_) | (with_reducible refine below_drewN ?_ _))) <;> (first | omega | (simp <;> omega)))
      have Z1 : w.heap.size ≤ w1.heap.size := K1.size
      have b1_0 := Blk.keep (g := w.heap.size) hb1 (by (repeat' (first | ((with_reducible refine' Blk.newE ?_); first | rfl | (simp; done)) | (with_reducible refine' Blk.alloc ?_ _) | (with_reducible refine' Blk.drew ?_) | (with_reducible refine' Blk.drewN ?_ _) | (with_reducible refine' Blk.put ?_ ?_) | (with_reducible refine' Blk.far ?_ ?_ _) | exact rfl)) <;> (first | omega | (simp <;> omega)))
      (try simp only [List.setIfInBounds_toArray, List.set_cons_zero, List.set_cons_succ] at b1_0)
      clear hb1
      obtain ⟨c1_0, f1_0, l1_0, e1_0, k1_0⟩ := Blk.facts b1_0
      have o1_0 := l1_0
      go_wp2
      exact bodyPost_ret (v := .tuple #[.int .i64 0, .int .i64 4]) (by simp [results, Try.results28, go_sem, *]) rfl ⟨rfl, (by (repeat' (first | (with_reducible exact K1) | (with_reducible refine Below.setCell ?_ ?_ _) | (with_reducible refine Below.alloc ?_ ?_ _) | (with_reducible refine Below.drew ?_) | (with_reducible refine below_drewN ?_ _))) <;> (first | omega | (simp <;> omega)))⟩
  · rw [erV_no hv]
    rw [smV_no hv] at sm
    have SM := Lib.hid sm; clear sm h hz hv
    dsimp only
    go_enter Try.func28, Try.ntmps28
    go_wp2_with fail
    refine (SM.out _ (by (repeat' (first | (with_reducible exact Below.refl _ _) | (with_reducible refine Below.setCell ?_ ?_ _) | (with_reducible refine Below.alloc ?_ ?_ _) | (with_reducible refine Below.drew ?_) | (with_reducible refine below_drewN ?_ _))) <;> (first | omega | (simp <;> omega)))).mono ?_
    rintro e w1 ⟨rfl, hb1⟩
    have K1 : Below w.heap.size w w1 := kept_call hb1 (by (repeat' (first | (with_reducible exact Below.refl _ _) | (with_reducible refine Below.setCell ?_ ?_ _) | (with_reducible refine Below.alloc ?_ ?_ _) | (with_reducible refine Below.drew ?_) | (with_reducible refine below_drewN ?_ _))) <;> (first | omega | (simp <;> omega)))
    have Z1 : w.heap.size ≤ w1.heap.size := K1.size
    have b1_0 := Blk.keep (g := w.heap.size) hb1 (by (repeat' (first | ((with_reducible refine' Blk.newE ?_); first | rfl | (simp; done)) | (with_reducible refine' Blk.alloc ?_ _) | (with_reducible refine' Blk.drew ?_) | (with_reducible refine' Blk.drewN ?_ _) | (with_reducible refine' Blk.put ?_ ?_) | (with_reducible refine' Blk.far ?_ ?_ _) | exact rfl)) <;> (first | omega | (simp <;> omega)))
    (try simp only [List.setIfInBounds_toArray, List.set_cons_zero, List.set_cons_succ] at b1_0)
    clear hb1
    obtain ⟨c1_0, f1_0, l1_0, e1_0, k1_0⟩ := Blk.facts b1_0
    have o1_0 := l1_0
    go_wp2
    exact bodyPost_ret (v := .tuple #[.int .i64 0, .int .i64 3]) (by simp [results, Try.results28, go_sem, *]) rfl ⟨rfl, (by (repeat' (first | (with_reducible exact K1) | (with_reducible refine Below.setCell ?_ ?_ _) | (with_reducible refine Below.alloc ?_ ?_ _) | (with_reducible refine Below.drew ?_) | (with_reducible refine below_drewN ?_ _))) <;> (first | omega | (simp <;> omega)))⟩
set_option maxRecDepth 100000 in
set_option maxHeartbeats 2000000 in
theorem rerr_any (first : Int) (A : Option Addr) (len cap : Nat) (zs : List (Int × Int)) (tt : Int) (w : World) (h : PrAt w A len zs) (hz : ∀ z ∈ zs, IntIn z.1 ∧ IntIn z.2) :
    Calls Try.prog 40 #[.agg #[.int .i64 first, .slice A len cap], .int .i64 tt] w (RB w (.tuple #[.int .i64 (erV first zs tt).1, .int .i64 (erV first zs tt).2])) := by
  have sm := fun W (hW : Below w.heap.size w W) => rsmearS_any first A len cap zs tt W (h.below hW) hz
  by_cases hv : LVal first zs
  · by_cases h1 : 134217728 ≤ tt ∧ tt ≤ 288230376151711744
    · have UT := Lib.hid (fun W (hW : Below w.heap.size w W) => rutc_any first A len cap zs tt hv (by omega) (by omega) W (h.below hW) hz)
      rw [smV_in hv h1] at sm
      have shb := sh_wide hv h1
      have SM := Lib.hid sm; clear sm
      clear h hz
      by_cases h2 : inS (utN first zs (tt / 1048576)) = true
      · rw [erV_in hv h1 h2]
        rw [utV_in h2] at UT
        rw [inS_true] at h2
        have p01 : 0 ≤ tt % 1048576 ∧ tt % 1048576 < 1048576 := by omega
        clear hv
        generalize shL first zs tt = s at *
        generalize utN first zs (tt / 1048576) = N at *
        generalize tt % 1048576 = p at *
        generalize utB first zs (tt / 1048576) = B at *
        have w1 : IntKind.i64.wrap (N + 1) = N + 1 := IntWalk.i64_in _ (by omega)
        have w2 : IntKind.i64.wrap (N * 1048576) = N * 1048576 := IntWalk.i64_in _ (by omega)
        have w3 : IntKind.i64.wrap ((N + 1) * 1048576) = (N + 1) * 1048576 := IntWalk.i64_in _ (by omega)
        have w4 : IntKind.i64.wrap (N * 1048576 + p) = N * 1048576 + p := IntWalk.i64_in _ (by omega)
        have w5 : IntKind.i64.wrap ((N + 1) * 1048576 + p) = (N + 1) * 1048576 + p := IntWalk.i64_in _ (by omega)
        have w6 : IntKind.i64.wrap (s - (N * 1048576 + p)) = s - (N * 1048576 + p) := IntWalk.i64_in _ (by omega)
        have w7 : IntKind.i64.wrap (s - ((N + 1) * 1048576 + p)) = s - ((N + 1) * 1048576 + p) := IntWalk.i64_in _ (by omega)
        cases B with
        | false =>
          rw [show (N + (if false = true then (1 : Int) else 0)) = N by simp]
          dsimp only
          go_enter Try.func40, Try.ntmps40
          go_wp2_with fail
          refine (SM.out _ (by (repeat' (first | (with_reducible exact Below.refl _ _) | (with_reducible refine Below.setCell ?_ ?_ _) | (with_reducible refine Below.alloc ?_ ?_ _) | (with_reducible refine Below.drew ?_) | (with_reducible refine below_drewN ?_ _))) <;> (first | omega | (simp <;> omega)))).mono ?_
          rintro e w1 ⟨rfl, hb1⟩
          have K1 : Below w.heap.size w w1 := kept_call hb1 (by (repeat' (first | (with_reducible exact Below.refl _ _) | (with_reducible refine Below.setCell ?_ ?_ _) | (with_reducible refine Below.alloc ?_ ?_ _) | (with_reducible refine Below.drew ?_) | (with_reducible refine below_drewN ?_ _))) <;> (first | omega | (simp <;> omega)))
          have Z1 : w.heap.size ≤ w1.heap.size := K1.size
          have b1_0 := Blk.keep (g := w.heap.size) hb1 (by (repeat' (first | ((with_reducible refine' Blk.newE ?_); first | rfl | (simp; done)) | (with_reducible refine' Blk.alloc ?_ _) | (with_reducible refine' Blk.drew ?_) | (with_reducible refine' Blk.drewN ?_ _) | (with_reducible refine' Blk.put ?_ ?_) | (with_reducible refine' Blk.far ?_ ?_ _) | exact rfl)) <;> (first | omega | (simp <;> omega)))
          (try simp only [List.setIfInBounds_toArray, List.set_cons_zero, List.set_cons_succ] at b1_0)
          clear hb1
          obtain ⟨c1_0, f1_0, l1_0, e1_0, k1_0⟩ := Blk.facts b1_0
          have o1_0 := l1_0
          go_wp2_with fail
          refine (UT.out _ (by (repeat' (first | (with_reducible exact K1) | (with_reducible refine Below.setCell ?_ ?_ _) | (with_reducible refine Below.alloc ?_ ?_ _) | (with_reducible refine Below.drew ?_) | (with_reducible refine below_drewN ?_ _))) <;> (first | omega | (simp <;> omega)))).mono ?_
          rintro e w2 ⟨rfl, hb2⟩
          have K2 : Below w.heap.size w w2 := kept_call hb2 (by (repeat' (first | (with_reducible exact K1) | (with_reducible refine Below.setCell ?_ ?_ _) | (with_reducible refine Below.alloc ?_ ?_ _) | (with_reducible refine Below.drew ?_) | (with_reducible refine below_drewN ?_ _))) <;> (first | omega | (simp <;> omega)))
          have Z2 : w.heap.size ≤ w2.heap.size := K2.size
          have b1_0' := Blk.keep (g := w.heap.size) hb2 (by (repeat' (first | (with_reducible refine' Blk.alloc ?_ _) | (with_reducible refine' Blk.drew ?_) | (with_reducible refine' Blk.drewN ?_ _) | (with_reducible refine' Blk.put ?_ ?_) | (with_reducible refine' Blk.far ?_ ?_ _) | exact b1_0 | exact rfl)) <;> (first | omega | (simp <;> omega)))
          (try simp only [List.setIfInBounds_toArray, List.set_cons_zero, List.set_cons_succ] at b1_0')
          clear hb2 K1
          clear b1_0 c1_0 f1_0 l1_0 e1_0 k1_0; have b1_0 := b1_0'; clear b1_0'
          obtain ⟨c1_0, f1_0, l1_0, e1_0, k1_0⟩ := Blk.facts b1_0
          go_wp2
          exact bodyPost_ret (v := .tuple #[.int .i64 (s - (N * 1048576 + p)), .int .i64 0]) (by simp [results, Try.results40, go_sem, *]) rfl ⟨rfl, (by (repeat' (first | (with_reducible exact K2) | (with_reducible refine Below.setCell ?_ ?_ _) | (with_reducible refine Below.alloc ?_ ?_ _) | (with_reducible refine Below.drew ?_) | (with_reducible refine below_drewN ?_ _))) <;> (first | omega | (simp <;> omega)))⟩
        | true =>
          rw [show (N + (if true = true then (1 : Int) else 0)) = (N + 1) by simp]
          dsimp only
          go_enter Try.func40, Try.ntmps40
          go_wp2_with fail
          refine (SM.out _ (by (repeat' (first | (with_reducible exact Below.refl _ _) | (with_reducible refine Below.setCell ?_ ?_ _) | (with_reducible refine Below.alloc ?_ ?_ _) | (with_reducible refine Below.drew ?_) | (with_reducible refine below_drewN ?_ _))) <;> (first | omega | (simp <;> omega)))).mono ?_
          rintro e w1 ⟨rfl, hb1⟩
          have K1 : Below w.heap.size w w1 := kept_call hb1 (by (repeat' (first | (with_reducible exact Below.refl _ _) | (with_reducible refine Below.setCell ?_ ?_ _) | (with_reducible refine Below.alloc ?_ ?_ _) | (with_reducible refine Below.drew ?_) | (with_reducible refine below_drewN ?_ _))) <;> (first | omega | (simp <;> omega)))
          have Z1 : w.heap.size ≤ w1.heap.size := K1.size
          have b1_0 := Blk.keep (g := w.heap.size) hb1 (by (repeat' (first | ((with_reducible refine' Blk.newE ?_); first | rfl | (simp; done)) | (with_reducible refine' Blk.alloc ?_ _) | (with_reducible refine' Blk.drew ?_) | (with_reducible refine' Blk.drewN ?_ _) | (with_reducible refine' Blk.put ?_ ?_) | (with_reducible refine' Blk.far ?_ ?_ _) | exact rfl)) <;> (first | omega | (simp <;> omega)))
          (try simp only [List.setIfInBounds_toArray, List.set_cons_zero, List.set_cons_succ] at b1_0)
          clear hb1
          obtain ⟨c1_0, f1_0, l1_0, e1_0, k1_0⟩ := Blk.facts b1_0
          have o1_0 := l1_0
          go_wp2_with fail
          refine (UT.out _ (by (repeat' (first | (with_reducible exact K1) | (with_reducible refine Below.setCell ?_ ?_ _) | (with_reducible refine Below.alloc ?_ ?_ _) | (with_reducible refine Below.drew ?_) | (with_reducible refine below_drewN ?_ _))) <;> (first | omega | (simp <;> omega)))).mono ?_
          rintro e w2 ⟨rfl, hb2⟩
          have K2 : Below w.heap.size w w2 := kept_call hb2 (by (repeat' (first | (with_reducible exact K1) | (with_reducible refine Below.setCell ?_ ?_ _) | (with_reducible refine Below.alloc ?_ ?_ _) | (with_reducible refine Below.drew ?_) | (with_reducible refine below_drewN ?_ _))) <;> (first | omega | (simp <;> omega)))
          have Z2 : w.heap.size ≤ w2.heap.size := K2.size
          have b1_0' := Blk.keep (g := w.heap.size) hb2 (by (repeat' (first | (with_reducible refine' Blk.alloc ?_ _) | (with_reducible refine' Blk.drew ?_) | (with_reducible refine' Blk.drewN ?_ _) | (with_reducible refine' Blk.put ?_ ?_) | (with_reducible refine' Blk.far ?_ ?_ _) | exact b1_0 | exact rfl)) <;> (first | omega | (simp <;> omega)))
          (try simp only [List.setIfInBounds_toArray, List.set_cons_zero, List.set_cons_succ] at b1_0')
          clear hb2 K1
          clear b1_0 c1_0 f1_0 l1_0 e1_0 k1_0; have b1_0 := b1_0'; clear b1_0'
          obtain ⟨c1_0, f1_0, l1_0, e1_0, k1_0⟩ := Blk.facts b1_0
          go_wp2
          exact bodyPost_ret (v := .tuple #[.int .i64 (s - ((N + 1) * 1048576 + p)), .int .i64 0]) (by simp [results, Try.results40, go_sem, *]) rfl ⟨rfl, (by (repeat' (first | (with_reducible exact K2) | (with_reducible refine Below.setCell ?_ ?_ _) | (with_reducible refine Below.alloc ?_ ?_ _) | (with_reducible refine Below.drew ?_) | (with_reducible refine below_drewN ?_ _))) <;> (first | omega | (simp <;> omega)))⟩
      · rw [erV_9 hv h1 h2]
        rw [utV_out h2] at UT
        clear hv h2
        generalize shL first zs tt = s at *
        dsimp only
        go_enter Try.func40, Try.ntmps40
        go_wp2_with fail
        refine (SM.out _ (by (repeat' (first | (with_reducible exact Below.refl _ _) | (with_reducible refine Below.setCell ?_ ?_ _) | (with_reducible refine Below.alloc ?_ ?_ _) | (with_reducible refine Below.drew ?_) | (with_reducible refine below_drewN ?_ _))) <;> (first | omega | (simp <;> omega)))).mono ?_
        rintro e w1 ⟨rfl, hb1⟩
        have K1 : Below w.heap.size w w1 := kept_call hb1 (by (repeat' (first | (with_reducible exact Below.refl _ _) | (with_reducible refine Below.setCell ?_ ?_ _) | (with_reducible refine Below.alloc ?_ ?_ _) | (with_reducible refine Below.drew ?_) | (with_reducible refine below_drewN ?_ _))) <;> (first | omega | (simp <;> omega)))
        have Z1 : w.heap.size ≤ w1.heap.size := K1.size
        have b1_0 := Blk.keep (g := w.heap.size) hb1 (by (repeat' (first | ((with_reducible refine' Blk.newE ?_); first | rfl | (simp; done)) | (with_reducible refine' Blk.alloc ?_ _) | (with_reducible refine' Blk.drew ?_) | (with_reducible refine' Blk.drewN ?_ _) | (with_reducible refine' Blk.put ?_ ?_) | (with_reducible refine' Blk.far ?_ ?_ _) | exact rfl)) <;> (first | omega | (simp <;> omega)))
        (try simp only [List.setIfInBounds_toArray, List.set_cons_zero, List.set_cons_succ] at b1_0)
        clear hb1
        obtain ⟨c1_0, f1_0, l1_0, e1_0, k1_0⟩ := Blk.facts b1_0
        have o1_0 := l1_0
        go_wp2_with fail
        refine (UT.out _ (by (repeat' (first | (with_reducible exact K1) | (with_reducible refine Below.setCell ?_ ?_ _) | (with_reducible refine Below.alloc ?_ ?_ _) | (with_reducible refine Below.drew ?_) | (with_reducible refine below_drewN ?_ _))) <;> (first | omega | (simp <;> omega)))).mono ?_
        rintro e w2 ⟨rfl, hb2⟩
        have K2 : Below w.heap.size w w2 := kept_call hb2 (by (repeat' (first | (with_reducible exact K1) | (with_reducible refine Below.setCell ?_ ?_ _) | (with_reducible refine Below.alloc ?_ ?_ _) | (with_reducible refine Below.drew ?_) | (with_reducible refine below_drewN ?_ _))) <;> (first | omega | (simp <;> omega)))
        have Z2 : w.heap.size ≤ w2.heap.size := K2.size
        have b1_0' := Blk.keep (g := w.heap.size) hb2 (by (repeat' (first | (with_reducible refine' Blk.alloc ?_ _) | (with_reducible refine' Blk.drew ?_) | (with_reducible refine' Blk.drewN ?_ _) | (with_reducible refine' Blk.put ?_ ?_) | (with_reducible refine' Blk.far ?_ ?_ _) | exact b1_0 | exact rfl)) <;> (first | omega | (simp <;> omega)))
        (try simp only [List.setIfInBounds_toArray, List.set_cons_zero, List.set_cons_succ] at b1_0')
        clear hb2 K1
        clear b1_0 c1_0 f1_0 l1_0 e1_0 k1_0; have b1_0 := b1_0'; clear b1_0'
        obtain ⟨c1_0, f1_0, l1_0, e1_0, k1_0⟩ := Blk.facts b1_0
        go_wp2
        exact bodyPost_ret (v := .tuple #[.int .i64 0, .int .i64 9]) (by simp [results, Try.results40, go_sem, *]) rfl ⟨rfl, (by (repeat' (first | (with_reducible exact K2) | (with_reducible refine Below.setCell ?_ ?_ _) | (with_reducible refine Below.alloc ?_ ?_ _) | (with_reducible refine Below.drew ?_) | (with_reducible refine below_drewN ?_ _))) <;> (first | omega | (simp <;> omega)))⟩
    · rw [erV_out hv h1]
      rw [smV_out hv h1] at sm
      have SM := Lib.hid sm; clear sm h hz hv
      dsimp only
      go_enter Try.func40, Try.ntmps40
      go_wp2_with fail
      refine (SM.out _ (by (repeat' (first | (with_reducible exact Below.refl _ _) | (with_reducible refine Below.setCell ?_ ?_ _) | (with_reducible refine Below.alloc ?_ ?_ _) | (with_reducible refine Below.drew ?_) | (with_reducible refine below_drewN ?_ _))) <;> (first | omega | (simp <;> omega)))).mono ?_
      rintro e w1 ⟨rfl, hb1⟩
      have K1 : Below w.heap.size w w1 := kept_call hb1 (by (repeat' (first | (with_reducible exact Below.refl _ _) | (with_reducible refine Below.setCell ?_ ?_ _) | (with_reducible refine Below.alloc ?_ ?_ _) | (with_reducible refine Below.drew ?_) | (with_reducible refine below_drewN ?_ _))) <;> (first | omega | (simp <;> omega)))
      have Z1 : w.heap.size ≤ w1.heap.size := K1.size
      have b1_0 := Blk.keep (g := w.heap.size) hb1 (by (repeat' (first | ((with_reducible refine' Blk.newE ?_); first | rfl | (simp; done)) | (with_reducible refine' Blk.alloc ?_ _) | (with_reducible refine' Blk.drew ?_) | (with_reducible refine' Blk.drewN ?_ _) | (with_reducible refine' Blk.put ?_ ?_) | (with_reducible refine' Blk.far ?_ ?_ _) | exact rfl)) <;> (first | omega | (simp <;> omega)))
      (try simp only [List.setIfInBounds_toArray, List.set_cons_zero, List.set_cons_succ] at b1_0)
      clear hb1
      obtain ⟨c1_0, f1_0, l1_0, e1_0, k1_0⟩ := Blk.facts b1_0
      have o1_0 := l1_0
      go_wp2
      exact bodyPost_ret (v := .tuple #[.int .i64 0, .int .i64 4]) (by simp [results, Try.results40, go_sem, *]) rfl ⟨rfl, (by (repeat' (first | (with_reducible exact K1) | (with_reducible refine Below.setCell ?_ ?_ _) | (with_reducible refine Below.alloc ?_ ?_ _) | (with_reducible refine Below.drew ?_) | (with_reducible refine below_drewN ?_ _))) <;> (first | omega | (simp <;> omega)))⟩
  · rw [erV_no hv]
    rw [smV_no hv] at sm
    have SM := Lib.hid sm; clear sm h hz hv
    dsimp only
    go_enter Try.func40, Try.ntmps40
    go_wp2_with fail
    refine (SM.out _ (by (repeat' (first | (with_reducible exact Below.refl _ _) | (with_reducible refine Below.setCell ?_ ?_ _) | (with_reducible refine Below.alloc ?_ ?_ _) | (with_reducible refine Below.drew ?_) | (with_reducible refine below_drewN ?_ _))) <;> (first | omega | (simp <;> omega)))).mono ?_
    rintro e w1 ⟨rfl, hb1⟩
    have K1 : Below w.heap.size w w1 := kept_call hb1 (by (repeat' (first | (with_reducible exact Below.refl _ _) | (with_reducible refine Below.setCell ?_ ?_ _) | (with_reducible refine Below.alloc ?_ ?_ _) | (with_reducible refine Below.drew ?_) | (with_reducible refine below_drewN ?_ _))) <;> (first | omega | (simp <;> omega)))
    have Z1 : w.heap.size ≤ w1.heap.size := K1.size
    have b1_0 := Blk.keep (g := w.heap.size) hb1 (by (repeat' (first | ((with_reducible refine' Blk.newE ?_); first | rfl | (simp; done)) | (with_reducible refine' Blk.alloc ?_ _) | (with_reducible refine' Blk.drew ?_) | (with_reducible refine' Blk.drewN ?_ _) | (with_reducible refine' Blk.put ?_ ?_) | (with_reducible refine' Blk.far ?_ ?_ _) | exact rfl)) <;> (first | omega | (simp <;> omega)))
    (try simp only [List.setIfInBounds_toArray, List.set_cons_zero, List.set_cons_succ] at b1_0)
    clear hb1
    obtain ⟨c1_0, f1_0, l1_0, e1_0, k1_0⟩ := Blk.facts b1_0
    have o1_0 := l1_0
    go_wp2
    exact bodyPost_ret (v := .tuple #[.int .i64 0, .int .i64 3]) (by simp [results, Try.results40, go_sem, *]) rfl ⟨rfl, (by (repeat' (first | (with_reducible exact K1) | (with_reducible refine Below.setCell ?_ ?_ _) | (with_reducible refine Below.alloc ?_ ?_ _) | (with_reducible refine Below.drew ?_) | (with_reducible refine below_drewN ?_ _))) <;> (first | omega | (simp <;> omega)))⟩
end Go.Proofs.Ytmebkbnildjfhaa
