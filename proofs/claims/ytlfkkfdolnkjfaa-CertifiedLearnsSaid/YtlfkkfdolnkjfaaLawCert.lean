/- The walks of law37.known and of the law CertifiedActs. -/
import Derived.Deep.DeepCutAuto
import Derived.Deep.DrawnRows
import Derived.Deep.RegionHeld3
import Derived.Test.YtlfkkfdolnkjfaaC37
import Derived.Test.YtlfkkfdolnkjfaaJ0
import Derived.Test.YtlfkkfdolnkjfaaR37
namespace Go.Proofs.Ytlfkkfdolnkjfaa
open Go.RowKit

set_option maxRecDepth 100000 in
set_option maxHeartbeats 2000000 in
theorem known37_any  (w : World) :
    Calls Try.prog 47 #[] w (RB w (.bool true)) := by
  have r1 := ibegin_any 10 100 120 0
  have r2 := inow_any 10 100 120 0 0 0 15
  have r3 := ilearn_any 10 100 120 0 0 0 15 110 200
  rw [show begV 10 100 120 0 = .tuple #[.agg #[.int .i64 10, .int .i64 100, .int .i64 120, .int .i64 0, .int .i64 0, .int .i64 0], .int .i64 0] by kernel_rfl] at r1
  rw [show V3 (nowT 10 100 120 0 0 0 15) = .tuple #[.agg #[.int .i64 105, .int .i64 125], .int .i64 0] by kernel_rfl] at r2
  rw [show (lrn 10 100 120 0 0 0 15 110 200).V = .tuple #[.agg #[.int .i64 15, .int .i64 110, .int .i64 125, .int .i64 0, .int .i64 1, .int .i64 0], .bool true, .int .i64 0] by kernel_rfl] at r3
  have pk := partK
  have R1 := Lib.hid r1; have R2 := Lib.hid r2; have R3 := Lib.hid r3; clear r1 r2 r3
  go_enter Try.func47, Try.ntmps47
  go_wp2_with fail
  refine (R1.out _).mono ?_
  rintro e w1 ⟨rfl, hb1⟩
  have K1 : Below w.heap.size w w1 := kept_call hb1 (by (repeat' (first | (with_reducible exact Below.refl _ _) | (with_reducible refine Below.setCell ?_ ?_ _) | (with_reducible refine Below.alloc ?_ ?_ _) | (with_reducible refine Below.drew ?_) | (with_reducible refine below_drewN ?_ _))) <;> (first | omega | (simp <;> omega)))
  have Z1 : w.heap.size ≤ w1.heap.size := K1.size
  clear hb1
  go_wp2_with fail
  refine (R2.out _).mono ?_
  rintro e w2 ⟨rfl, hb2⟩
  have K2 : Below w.heap.size w w2 := kept_call hb2 (by (repeat' (first | (with_reducible exact K1) | (with_reducible refine Below.setCell ?_ ?_ _) | (with_reducible refine Below.alloc ?_ ?_ _) | (with_reducible refine Below.drew ?_) | (with_reducible refine below_drewN ?_ _))) <;> (first | omega | (simp <;> omega)))
  have Z2 : w.heap.size ≤ w2.heap.size := K2.size
  have b2_0 := Blk.keep (g := w1.heap.size) hb2 (by (repeat' (first | ((with_reducible refine' Blk.newE ?_); first | rfl | (simp; done)) | (with_reducible refine' Blk.alloc ?_ _) | (with_reducible refine' Blk.drew ?_) | (with_reducible refine' Blk.drewN ?_ _) | (with_reducible refine' Blk.put ?_ ?_) | (with_reducible refine' Blk.far ?_ ?_ _) | exact rfl)) <;> (first | omega | (simp <;> omega)))
  (try simp only [List.setIfInBounds_toArray, List.set_cons_zero, List.set_cons_succ] at b2_0)
  clear hb2 K1
  obtain ⟨c2_0, f2_0, l2_0, e2_0, k2_0⟩ := Blk.facts b2_0
  have o2_0 := l2_0
  go_upto_region 3 with fail
  go_cut [5, 6] (fun s5 s6 wx => s5 = .bool true ∧ s6 = .int .i64 0 ∧ Blk wx w1.heap.size 72 #[.int .i64 15, .int .i64 110, .int .i64 125, .int .i64 0, .int .i64 1, .int .i64 0] ∧ Blk wx w2.heap.size 35 #[.int .i64 105, .int .i64 125] ∧ Below w.heap.size w wx)
  case first =>
    go_wp2_with fail
    refine (R3.out _).mono ?_
    rintro e w3 ⟨rfl, hb3⟩
    have K3 : Below w.heap.size w w3 := kept_call hb3 (by (repeat' (first | (with_reducible exact K2) | (with_reducible refine Below.setCell ?_ ?_ _) | (with_reducible refine Below.alloc ?_ ?_ _) | (with_reducible refine Below.drew ?_) | (with_reducible refine below_drewN ?_ _))) <;> (first | omega | (simp <;> omega)))
    have Z3 : w.heap.size ≤ w3.heap.size := K3.size
    have b2_0' := Blk.keep (g := w1.heap.size) hb3 (by (repeat' (first | (with_reducible refine' Blk.alloc ?_ _) | (with_reducible refine' Blk.drew ?_) | (with_reducible refine' Blk.drewN ?_ _) | (with_reducible refine' Blk.put ?_ ?_) | (with_reducible refine' Blk.far ?_ ?_ _) | exact b2_0 | exact rfl)) <;> (first | omega | (simp <;> omega)))
    (try simp only [List.setIfInBounds_toArray, List.set_cons_zero, List.set_cons_succ] at b2_0')
    have b3_0 := Blk.keep (g := w2.heap.size) hb3 (by (repeat' (first | ((with_reducible refine' Blk.newE ?_); first | rfl | (simp; done)) | (with_reducible refine' Blk.alloc ?_ _) | (with_reducible refine' Blk.drew ?_) | (with_reducible refine' Blk.drewN ?_ _) | (with_reducible refine' Blk.put ?_ ?_) | (with_reducible refine' Blk.far ?_ ?_ _) | exact rfl)) <;> (first | omega | (simp <;> omega)))
    (try simp only [List.setIfInBounds_toArray, List.set_cons_zero, List.set_cons_succ] at b3_0)
    clear hb3 K2
    clear b2_0 c2_0 f2_0 l2_0 e2_0 k2_0; have b2_0 := b2_0'; clear b2_0'
    obtain ⟨c2_0, f2_0, l2_0, e2_0, k2_0⟩ := Blk.facts b2_0
    obtain ⟨c3_0, f3_0, l3_0, e3_0, k3_0⟩ := Blk.facts b3_0
    have o3_0 := l3_0
    go_wp2_with fail
    go_meet
    exact ⟨rfl, rfl, by (repeat' (first | (with_reducible refine' Blk.alloc ?_ _) | (with_reducible refine' Blk.drew ?_) | (with_reducible refine' Blk.drewN ?_ _) | (with_reducible refine' Blk.put ?_ ?_) | (with_reducible refine' Blk.far ?_ ?_ _) | exact b2_0 | exact rfl)) <;> (first | omega | (simp <;> omega)), by (repeat' (first | (with_reducible refine' Blk.alloc ?_ _) | (with_reducible refine' Blk.drew ?_) | (with_reducible refine' Blk.drewN ?_ _) | (with_reducible refine' Blk.put ?_ ?_) | (with_reducible refine' Blk.far ?_ ?_ _) | exact b3_0 | exact rfl)) <;> (first | omega | (simp <;> omega)), by (repeat' (first | (with_reducible exact K3) | (with_reducible refine Below.setCell ?_ ?_ _) | (with_reducible refine Below.alloc ?_ ?_ _) | (with_reducible refine Below.drew ?_) | (with_reducible refine below_drewN ?_ _))) <;> (first | omega | (simp <;> omega))⟩
  case rest =>
    obtain ⟨rfl, rfl, bk, bs, KC⟩ := hcut
    clear K2 Z2 b2_0 c2_0 f2_0 l2_0 e2_0 k2_0
    have ZC := KC.size
    obtain ⟨ck, fk, lk, ek, kk⟩ := Blk.facts bk
    obtain ⟨cs, fs, ls, es, ks⟩ := Blk.facts bs
    go_wp2
    go_ret
    exact ⟨rfl, by (repeat' (first | (with_reducible exact KC) | (with_reducible refine Below.setCell ?_ ?_ _) | (with_reducible refine Below.alloc ?_ ?_ _) | (with_reducible refine Below.drew ?_) | (with_reducible refine below_drewN ?_ _))) <;> (first | omega | (simp <;> omega))⟩
attribute [local go_sem ↓] Go.wp_at_zero Go.wp_at_succ
end Go.Proofs.Ytlfkkfdolnkjfaa
