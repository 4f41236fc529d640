/- The walk of the law SteerKeepsItsRate. -/
import Derived.Test.YtnjogepllhjcjaaSteerF
import Derived.Test.YtnjogepllhjcjaaTape
namespace Go.Proofs.Ytnjogepllhjcjaa
open Go.RowKit

theorem share_in {lo hi aim : Int} (h : lo ≤ hi) (a0 : 0 ≤ aim) (a1 : aim ≤ 1000) : lo ≤ lo + (hi - lo) * aim / 1000 ∧ lo + (hi - lo) * aim / 1000 ≤ hi := by
  have h1 : 0 ≤ (hi - lo) * aim := Int.mul_nonneg (by omega) a0
  have h2 : (hi - lo) * aim ≤ (hi - lo) * 1000 := Int.mul_le_mul_of_nonneg_left a1 (by omega)
  omega
theorem read_first {aim rate t lo hi : Int} (a0 : 0 ≤ aim) (a1 : aim ≤ 1000) (r0 : 0 ≤ rate) (r1 : rate ≤ 1000000000) (ht : vT t = true) (hs : vS lo hi = true) (held : Bool) (w : World) :
    Calls Try.prog 18 #[.agg #[.int .i64 aim, .int .i64 rate, .bool false, .bool held, .int .i64 0, .int .i64 0], .int .i64 t, .agg #[.int .i64 lo, .int .i64 hi]] w
      (RetBelow w (.tuple #[.agg #[.int .i64 aim, .int .i64 rate, .bool true, .bool false, .int .i64 t, .int .i64 (lo + (hi - lo) * aim / 1000)], .int .i64 0])) := by
  have h := read_any aim rate false held 0 0 t lo hi w
  have e := rdE_ok (set := false) (chk_ok (aim := aim) (rate := rate) (at_ := 0) (shown := 0) (by simp [vT]; omega)) hs ht (by simp)
  rw [rdV_ok e, e] at h
  exact h
theorem read_next {aim rate at_ shown t lo hi : Int} (hc : chk aim rate at_ shown = 0) (ht : vT t = true) (h : at_ ≤ t) (hs : vS lo hi = true) (held : Bool) (w : World) :
    Calls Try.prog 18 #[.agg #[.int .i64 aim, .int .i64 rate, .bool true, .bool held, .int .i64 at_, .int .i64 shown], .int .i64 t, .agg #[.int .i64 lo, .int .i64 hi]] w
      (RetBelow w (.tuple #[.agg #[.int .i64 aim, .int .i64 rate, .bool true, .bool (rdHeld true shown hi), .int .i64 t, .int .i64 (rdShown aim rate true at_ shown t lo hi)], .int .i64 0])) := by
  have h' := read_any aim rate true held at_ shown t lo hi w
  have e := rdE_ok (set := true) hc hs ht (by simp; omega)
  rw [rdV_ok e, e] at h'
  exact h'
theorem keeps_plain {aim rate at_ shown t lo hi : Int} (h : at_ ≤ t) (r0 : 0 ≤ rate) : rdShown aim rate true at_ shown t lo hi ≤ shown + (t - at_) + (t - at_) * rate / 1000000000 ∨ rdShown aim rate true at_ shown t lo hi = lo := by
  have p : 0 ≤ (t - at_) * rate / 1000000000 := Int.ediv_nonneg (Int.mul_nonneg (by omega) r0) (by omega)
  unfold rdShown rdMost
  rw [if_neg (by simp)]
  split
  · left; omega
  · generalize lo + (hi - lo) * aim / 1000 = x
    generalize (t - at_) * rate / 1000000000 = y at *
    omega

set_option maxRecDepth 100000 in
set_option maxHeartbeats 4000000 in
theorem keeps_core (A : Option Addr) (len cap : Nat) (zs : List Int) (aim step : Int) (w : World) (hA : IntsAt w A len zs) :
    Calls Try.prog 8 #[.slice A len cap, .int .i64 aim, .int .i64 step] w (RetBelow w (.bool true)) := by
  have H := Lib.hid hA; clear hA
  go_enter Try.func8, Try.ntmps8
  go_wp2_with fail
  refine (new_any A len cap zs _ H.out).mono ?_
  rintro e w1 ⟨rfl, ht1, hb1⟩
  have hl1 := ht1.lt
  have HT := Lib.hid ht1; clear ht1
  obtain ⟨M, hM⟩ : ∃ M, aim % 1001 = M := ⟨_, rfl⟩
  have M0 : 0 ≤ M ∧ M ≤ 1000 := by omega
  obtain ⟨D, hD⟩ : ∃ D, step % 400 = D := ⟨_, rfl⟩
  have D0 : 0 ≤ D ∧ D ≤ 399 := by omega
  go_wp2_with fail
  refine (within_any _ _ _ (by omega) (by omega)).mono ?_
  rintro e w2 ⟨rfl, rfl⟩
  rw [hM]
  clear hM
  go_wp2_with fail
  refine (int_any _ _ _ HT.out (by omega) (by omega)).mono ?_
  rintro e w2 ⟨v, rfl, v1, v2, ht2, hg2⟩
  have hb2 := below_grown hb1 hg2 (Nat.le_refl _) hb1.size
  clear hb1 hg2 HT
  have HT := Lib.hid ht2; clear ht2
  go_wp2_with fail
  refine (tspan_any _ _ _ HT.out (by omega) (by omega)).mono ?_
  rintro e w3 ⟨lo, hi, rfl, s1, s2, s3, s4, ht3, hg3⟩
  have hb3 := below_grown hb2 hg3 (Nat.le_refl _) hb2.size
  clear hb2 hg3 HT
  have HT := Lib.hid ht3; clear ht3
  have hs : vS lo hi = true := vS_true.2 ⟨by omega, by omega, by omega⟩
  obtain ⟨q1, q2⟩ := share_in s3 M0.1 M0.2
  have R1 := Lib.hid (read_first (rate := 1000 * v) (t := 5) M0.1 M0.2 (by omega) (by omega) (by decide) hs false)
  clear hs
  generalize lo + (hi - lo) * M / 1000 = S0 at *
  go_wp2_with fail
  refine (R1.out _).mono ?_
  rintro e w4 ⟨rfl, hb4⟩
  have ht4 := HT.out.below hb4
  have hbb := kept_call hb4 hb3
  have z4 := ht4.lt
  clear hb4 HT R1
  have HT := Lib.hid ht4; clear ht4
  go_wp2_with fail
  refine (tspan_any _ _ _ (by (repeat' (first | (with_reducible exact HT.out) | (with_reducible refine TapeAt.alloc ?_ _) | (with_reducible refine TapeAt.drew ?_) | (with_reducible refine TapeAt.set ?_ ?_ _))) <;> (simp; omega)) (by omega) (by omega)).mono ?_
  rintro e w5 ⟨lo2, hi2, rfl, t1, t2, t3, t4, ht5, hg5⟩
  have hbc := hbb.alloc hbb.size (Obj.cells #[.int .i64 M, .int .i64 (1000 * v), .bool true, .bool false, .int .i64 5, .int .i64 S0] 33)
  have hb5 := below_grown hbc hg5 (Nat.le_refl _) hbc.size
  have cS : w5.cell? ⟨w4.heap.size, 0, none⟩ = some (.int .i64 M) ∧ w5.cell? ⟨w4.heap.size, 1, none⟩ = some (.int .i64 (1000 * v)) ∧ w5.cell? ⟨w4.heap.size, 2, none⟩ = some (.bool true) ∧ w5.cell? ⟨w4.heap.size, 3, none⟩ = some (.bool false) ∧ w5.cell? ⟨w4.heap.size, 4, none⟩ = some (.int .i64 5) ∧ w5.cell? ⟨w4.heap.size, 5, none⟩ = some (.int .i64 S0) := by
    refine ⟨?_, ?_, ?_, ?_, ?_, ?_⟩ <;> exact cell_grown hg5 (by simp; omega) (by simp [go_sem])
  have z5 := hg5.size
  simp at z5
  have z45 : w4.heap.size < w5.heap.size := by omega
  clear hb3 hbb hbc hg5 HT
  have HT := Lib.hid ht5; clear ht5
  go_split_ands
  go_wp2_with fail
  refine (within_any _ _ _ (by omega) (by omega)).mono ?_
  rintro e w6 ⟨rfl, rfl⟩
  rw [hD]
  clear hD
  have hs2 : vS lo2 hi2 = true := vS_true.2 ⟨by omega, by omega, by omega⟩
  have hck : chk M (1000 * v) 5 S0 = 0 := chk_ok (by simp [vT]; omega)
  have R2 := Lib.hid (fun h => read_next (t := 5 + D) hck (by simp [vT]; omega) (by omega) hs2 h)
  have P2 := keeps_plain (aim := M) (rate := 1000 * v) (at_ := 5) (shown := S0) (t := 5 + D) (lo := lo2) (hi := hi2) (by omega) (by omega)
  rw [show 5 + D - 5 = D by omega] at P2
  replace P2 := Lib.hid P2
  clear hs2 hck
  generalize rdShown M (1000 * v) true 5 S0 (5 + D) lo2 hi2 = S1 at *
  generalize rdHeld true S0 hi2 = H1 at *
  go_wp2_with fail
  refine (R2.out _ _).mono ?_
  rintro e w7 ⟨rfl, hb7⟩
  obtain ⟨hc7, hf7⟩ := bcell hb7
  have hb6 := hb5.alloc hb5.size (Obj.cells #[.int .i64 lo2, .int .i64 hi2] 35)
  have z7 := hb7.size
  simp at z7
  have z57 : w5.heap.size < w7.heap.size := by omega
  have z47 : w4.heap.size < w7.heap.size := by omega
  have hB := kept_call hb7 hb6
  have cS : w7.cell? ⟨w4.heap.size, 0, none⟩ = some (.int .i64 M) ∧ w7.cell? ⟨w4.heap.size, 1, none⟩ = some (.int .i64 (1000 * v)) ∧ w7.cell? ⟨w4.heap.size, 5, none⟩ = some (.int .i64 S0) ∧ w7.cell? ⟨w5.heap.size, 0, none⟩ = some (.int .i64 lo2) ∧ w7.cell? ⟨w5.heap.size, 1, none⟩ = some (.int .i64 hi2) := by
    refine ⟨?_, ?_, ?_, ?_, ?_⟩ <;> (rw [hc7 _ _ (by simp <;> omega)]; simp [go_sem, z45, *])
  clear hc7 hf7 hb6 hb7 hb5 R2 HT
  go_split_ands
  have p0 : 0 ≤ D * (1000 * v) := Int.mul_nonneg (by omega) (by omega)
  have p1 : D * (1000 * v) ≤ 399 * (1000 * v) := Int.mul_le_mul_of_nonneg_right (by omega) (by omega)
  have HP := Lib.hid p1
  generalize hX : D * (1000 * v) = X at *
  go_wp2_with fail
  have hBn := hB.alloc hB.size (Obj.cells #[.int .i64 M, .int .i64 (1000 * v), .bool true, .bool H1, .int .i64 (5 + D), .int .i64 S1] 33)
  refine (known38_any _).mono ?_
  rintro e w8 ⟨rfl, hb8⟩
  have hB8 := kept_call hb8 hBn
  have n5 : w8.cell? ⟨w7.heap.size, 5, none⟩ = some (.int .i64 S1) := cell_below hb8 (by simp [go_sem])
  have n0 : w8.cell? ⟨w5.heap.size, 0, none⟩ = some (.int .i64 lo2) := cell_below hb8 (by simp [go_sem, z57, *])
  have z8 := hb8.size
  simp at z8
  clear hb8 hBn hB
  by_cases hm : S1 ≤ S0 + D + X / 1000000000
  · clear P2
    go_wp2
    go_ret
    exact ⟨rfl, hB8⟩
  · have hm' : decide (S1 ≤ S0 + D + X / 1000000000) = false := by simpa using hm
    have hl : S1 = lo2 := by
      rcases P2.out with q | q
      · exact absurd q hm
      · exact q
    clear P2 hm
    subst hl
    go_wp2
    go_ret
    exact ⟨rfl, hB8⟩
theorem keeps_walk (A : Option Addr) (len cap : Nat) (zs : List Int) {w : World} (hA : IntsAt w A len zs) (aim : Int) (_ : IntIn aim) (step : Int) (_ : IntIn step) (W : World) (h : W = w) :
    Walked 8 #[.slice A len cap, .int .i64 aim, .int .i64 step] W := by
  subst h; exact keeps_core A len cap zs aim step W hA
end Go.Proofs.Ytnjogepllhjcjaa
