/- The walk of the law CertifiedKeepsWhatItKnows. -/
import Derived.Test.YteodoehhkhacoaaMade37
import Derived.Test.YteodoehhkhacoaaLawCert
import Derived.Test.YteodoehhkhacoaaR11
import Derived.Deep.DeepCutAuto
namespace Go.Proofs.Yteodoehhkhacoaa
open Go.RowKit

/-- Now and Learn at small numbers (plain). -/
theorem now_near {P u ka klo khi le re : Int} (p0 : 0 ≤ P) (p1 : P ≤ 1000000) (a0 : 0 ≤ ka) (a1 : ka ≤ u) (hu : u ≤ 100000) (h0 : -100000 ≤ klo) (h1 : klo ≤ khi) (h2 : khi ≤ 1000000) (le0 : 0 ≤ le) (le1 : le ≤ 100000) (re0 : 0 ≤ re) (re1 : re ≤ 100000) :
    nowT ka klo khi P le re u = (klo + elLo (u - ka) P, khi + elHi (u - ka) P, 0) ∧ vS (klo + elLo (u - ka) P) (khi + elHi (u - ka) P) = true ∧ klo ≤ klo + elLo (u - ka) P ∧ khi ≤ khi + elHi (u - ka) P ∧ khi + elHi (u - ka) P ≤ khi + 2 * (u - ka) ∧ klo + elLo (u - ka) P ≤ khi + elHi (u - ka) P := by
  have d0 : 0 ≤ u - ka := by omega
  have X1 := lo_pos d0 p0 p1
  have X2 := hi_two d0 p0 p1
  have X3 := le_hi d0 p0 p1
  have X4 := lo_le d0 p0 p1
  have hv : vS klo khi = true := vS_true.2 ⟨by omega, by omega, by omega⟩
  have hv2 : vS (klo + elLo (u - ka) P) (khi + elHi (u - ka) P) = true := vS_true.2 ⟨by omega, by omega, by omega⟩
  have hk : kE ka klo khi P le re = 0 := kE_0 hv (vT_true.2 ⟨by omega, by omega⟩) p0 p1 (by simp [ctB]; omega) (by simp [ctB]; omega)
  refine ⟨?_, hv2, by omega, by omega, by omega, by omega⟩
  rw [nowT_ok hk (by omega) (vT_true.2 ⟨by omega, by omega⟩), hv]
  unfold opT
  rw [inD_true.2 ⟨by omega, by omega, p0, p1⟩, hv2]
  rfl
theorem el_zero (p : Int) (p0 : 0 ≤ p) (p1 : p ≤ 1000000) : elLo 0 p = 0 ∧ elHi 0 p = 0 := by
  have X1 := lo_pos (d := 0) (by omega) p0 p1
  have X2 := hi_two (d := 0) (by omega) p0 p1
  have X3 := le_hi (d := 0) (by omega) p0 p1
  have X4 := lo_le (d := 0) (by omega) p0 p1
  omega

set_option maxRecDepth 100000 in
set_option maxHeartbeats 8000000 in
theorem keeps37_core (A : Option Addr) (len cap : Nat) (zs : List Int) (v : Int) (w : World) (hA : IntsAt w A len zs) :
    Calls Try.prog 6 #[.slice A len cap, .int .i64 v] w (RB w (.bool true)) := by
  have H := Lib.hid hA; clear hA
  have r0 := fun w => (within_any v 500 w (by omega) (by omega)).mono fun _ _ h => (⟨h.1, h.2.symm⟩ : _ ∧ _)
  have m1 : 0 ≤ v % 500 := by omega
  have m2 : v % 500 < 500 := by omega
  generalize v % 500 = m at *
  have R0 := Lib.hid r0; clear r0
  go_enter Try.func6, Try.ntmps6
  go_wp2_with fail
  refine (new_any A len cap zs _ H.out).mono ?_
  rintro e w1 ⟨rfl, ht1, hb1⟩
  have K1 : Below w.heap.size w w1 := kept_call hb1 (by (repeat' (first | (with_reducible exact Below.refl _ _) | (with_reducible refine Below.setCell ?_ ?_ _) | (with_reducible refine Below.alloc ?_ ?_ _) | (with_reducible refine Below.drew ?_) | (with_reducible refine below_drewN ?_ _))) <;> (first | omega | (simp <;> omega)))
  have Z1 : w.heap.size ≤ w1.heap.size := K1.size
  clear hb1
  have T1 := ht1.lt
  have HT := Lib.hid ht1; clear ht1
  have HB : w.heap.size ≤ w.heap.size := Nat.le_refl _
  go_wp2_with fail
  refine (made_any _ _ (by (repeat' (first | (with_reducible exact HT.out) | (with_reducible refine' TapeAt.alloc ?_ _) | (with_reducible refine' TapeAt.drew ?_) | (with_reducible refine' TapeAt.drewN ?_ _) | (with_reducible refine' TapeAt.set ?_ ?_ _))) <;> (first | omega | (simp <;> omega)))).mono ?_
  rintro e w2 ⟨ka, klo, khi, kp, kl, kr, rfl, kin, ht2, hg2⟩
  have K2 : Below w.heap.size w w2 := below_grown2 (by (repeat' (first | (with_reducible exact K1) | (with_reducible refine Below.setCell ?_ ?_ _) | (with_reducible refine Below.alloc ?_ ?_ _) | (with_reducible refine Below.drew ?_) | (with_reducible refine below_drewN ?_ _))) <;> (first | omega | (simp <;> omega))) hg2 (by first | omega | (simp <;> omega))
  have Z2 : w.heap.size ≤ w2.heap.size := K2.size
  clear HT; have T2 := ht2.lt; have HT := Lib.hid ht2; clear ht2
  clear hg2 K1
  obtain ⟨a0, a1, l0, l1, h1, p0, p1, c0, c1, e0, e1⟩ := kin
  obtain ⟨n, hn⟩ : ∃ n, n = ka + m := ⟨_, rfl⟩
  have v1 : IntKind.i64.wrap (ka + m) = n := by rw [IntWalk.i64_in _ (by omega)]; exact hn.symm
  obtain ⟨N1, N2, N3, N4, N5, N6⟩ := now_near (P := kp) (u := n) (ka := ka) (klo := klo) (khi := khi) (le := kl) (re := kr) (by omega) (by omega) (by omega) (by omega) (by omega) (by omega) (by omega) (by omega) (by omega) (by omega) (by omega) (by omega)
  have N7 := (now_near (P := kp) (u := n) (ka := ka) (klo := klo) (khi := khi) (le := kl) (re := kr + 1) (by omega) (by omega) (by omega) (by omega) (by omega) (by omega) (by omega) (by omega) (by omega) (by omega) (by omega) (by omega)).1
  have z0 := el_zero kp (by omega) (by omega)
  generalize klo + elLo (n - ka) kp = x at *
  generalize khi + elHi (n - ka) kp = y at *
  have HN1 := Lib.hid N1; have HN7 := Lib.hid N7; have HZ := Lib.hid z0; have HN2 := Lib.hid N2; have Hn := Lib.hid hn; clear N1 N7 z0 N2 hn
  go_wp2_with fail
  go_quiet ((go_at_call 28; (with_reducible exact Calls.quiet_of_same (R0.out _))))
  go_wp2_with fail
  refine (tspan_any _ 300 _ (by (repeat' (first | (with_reducible exact HT.out) | (with_reducible refine' TapeAt.alloc ?_ _) | (with_reducible refine' TapeAt.drew ?_) | (with_reducible refine' TapeAt.drewN ?_ _) | (with_reducible refine' TapeAt.set ?_ ?_ _))) <;> (first | omega | (simp <;> omega))) (by omega) (by omega)).mono ?_
  rintro e w3 ⟨c, d, rfl, x1, x2, x3, x4, ht3, hg3⟩
  have K3 : Below w.heap.size w w3 := below_grown2 (by (repeat' (first | (with_reducible exact K2) | (with_reducible refine Below.setCell ?_ ?_ _) | (with_reducible refine Below.alloc ?_ ?_ _) | (with_reducible refine Below.drew ?_) | (with_reducible refine below_drewN ?_ _))) <;> (first | omega | (simp <;> omega))) hg3 (by first | omega | (simp <;> omega))
  have Z3 : w.heap.size ≤ w3.heap.size := K3.size
  have b3_0 := Blk.keepG (g := w2.heap.size) hg3 (by (repeat' (first | ((with_reducible refine' Blk.newE ?_); first | rfl | (simp; done)) | (with_reducible refine' Blk.alloc ?_ _) | (with_reducible refine' Blk.drew ?_) | (with_reducible refine' Blk.drewN ?_ _) | (with_reducible refine' Blk.put ?_ ?_) | (with_reducible refine' Blk.far ?_ ?_ _) | exact rfl)) <;> (first | omega | (simp <;> omega))) (by first | omega | (simp <;> omega))
  (try simp only [List.setIfInBounds_toArray, List.set_cons_zero, List.set_cons_succ] at b3_0)
  clear HT; have T3 := ht3.lt; have HT := Lib.hid ht3; clear ht3
  clear hg3 K2
  obtain ⟨c3_0, f3_0, l3_0, e3_0, k3_0⟩ := Blk.facts b3_0
  have o3_0 := l3_0
  have hs : vS c d = true := vS_true.2 ⟨by omega, by omega, by omega⟩
  have HS := Lib.hid hs; clear hs
  have hn := Hn.out
  have v2 : IntKind.i64.wrap (kr + 2) = kr + 2 := IntWalk.i64_in _ (by omega)
  have v3 : IntKind.i64.wrap (kl + 2) = kl + 2 := IntWalk.i64_in _ (by omega)
  clear v1
  rcases hm : mtB x y c d
  · have r1 := ilearn_any ka klo khi kp kl kr n c d
    rw [lrn_no HN1.out HS.out hm, show min (kr + 1) 1152921504606846976 = kr + 1 by omega] at r1
    have r2 := ilearn_any ka klo khi kp kl (kr + 1) n c d
    rw [lrn_no HN7.out HS.out hm, show min (kr + 1 + 1) 1152921504606846976 = kr + 2 by omega] at r2
    have pk := partK
    unfold Lrn.V V6 at r1 r2
    dsimp only at r1 r2
    have R1 := Lib.hid r1; have R2 := Lib.hid r2; clear r1 r2 hm hn
    go_wp2_with fail
    refine (R1.out _).mono ?_
    rintro e w4 ⟨rfl, hb4⟩
    have K4 : Below w.heap.size w w4 := kept_call hb4 (by (repeat' (first | (with_reducible exact K3) | (with_reducible refine Below.setCell ?_ ?_ _) | (with_reducible refine Below.alloc ?_ ?_ _) | (with_reducible refine Below.drew ?_) | (with_reducible refine below_drewN ?_ _))) <;> (first | omega | (simp <;> omega)))
    have Z4 : w.heap.size ≤ w4.heap.size := K4.size
    have b3_0' := Blk.keep (g := w2.heap.size) hb4 (by (repeat' (first | (with_reducible refine' Blk.alloc ?_ _) | (with_reducible refine' Blk.drew ?_) | (with_reducible refine' Blk.drewN ?_ _) | (with_reducible refine' Blk.put ?_ ?_) | (with_reducible refine' Blk.far ?_ ?_ _) | exact b3_0 | exact rfl)) <;> (first | omega | (simp <;> omega)))
    (try simp only [List.setIfInBounds_toArray, List.set_cons_zero, List.set_cons_succ] at b3_0')
    have b4_0 := Blk.keep (g := w3.heap.size) hb4 (by (repeat' (first | ((with_reducible refine' Blk.newE ?_); first | rfl | (simp; done)) | (with_reducible refine' Blk.alloc ?_ _) | (with_reducible refine' Blk.drew ?_) | (with_reducible refine' Blk.drewN ?_ _) | (with_reducible refine' Blk.put ?_ ?_) | (with_reducible refine' Blk.far ?_ ?_ _) | exact rfl)) <;> (first | omega | (simp <;> omega)))
    (try simp only [List.setIfInBounds_toArray, List.set_cons_zero, List.set_cons_succ] at b4_0)
    have ht4 := TapeAt.below (by (repeat' (first | (with_reducible exact HT.out) | (with_reducible refine' TapeAt.alloc ?_ _) | (with_reducible refine' TapeAt.drew ?_) | (with_reducible refine' TapeAt.drewN ?_ _) | (with_reducible refine' TapeAt.set ?_ ?_ _))) <;> (first | omega | (simp <;> omega))) hb4
    clear HT; have T4 := ht4.lt; have HT := Lib.hid ht4; clear ht4
    clear hb4 K3
    clear b3_0 c3_0 f3_0 l3_0 e3_0 k3_0; have b3_0 := b3_0'; clear b3_0'
    obtain ⟨c3_0, f3_0, l3_0, e3_0, k3_0⟩ := Blk.facts b3_0
    obtain ⟨c4_0, f4_0, l4_0, e4_0, k4_0⟩ := Blk.facts b4_0
    have o4_0 := l4_0
    go_wp2_with fail
    refine (R2.out _).mono ?_
    rintro e w5 ⟨rfl, hb5⟩
    have K5 : Below w.heap.size w w5 := kept_call hb5 (by (repeat' (first | (with_reducible exact K4) | (with_reducible refine Below.setCell ?_ ?_ _) | (with_reducible refine Below.alloc ?_ ?_ _) | (with_reducible refine Below.drew ?_) | (with_reducible refine below_drewN ?_ _))) <;> (first | omega | (simp <;> omega)))
    have Z5 : w.heap.size ≤ w5.heap.size := K5.size
    have b3_0' := Blk.keep (g := w2.heap.size) hb5 (by (repeat' (first | (with_reducible refine' Blk.alloc ?_ _) | (with_reducible refine' Blk.drew ?_) | (with_reducible refine' Blk.drewN ?_ _) | (with_reducible refine' Blk.put ?_ ?_) | (with_reducible refine' Blk.far ?_ ?_ _) | exact b3_0 | exact rfl)) <;> (first | omega | (simp <;> omega)))
    (try simp only [List.setIfInBounds_toArray, List.set_cons_zero, List.set_cons_succ] at b3_0')
    have b4_0' := Blk.keep (g := w3.heap.size) hb5 (by (repeat' (first | (with_reducible refine' Blk.alloc ?_ _) | (with_reducible refine' Blk.drew ?_) | (with_reducible refine' Blk.drewN ?_ _) | (with_reducible refine' Blk.put ?_ ?_) | (with_reducible refine' Blk.far ?_ ?_ _) | exact b4_0 | exact rfl)) <;> (first | omega | (simp <;> omega)))
    (try simp only [List.setIfInBounds_toArray, List.set_cons_zero, List.set_cons_succ] at b4_0')
    have b5_0 := Blk.keep (g := w4.heap.size) hb5 (by (repeat' (first | ((with_reducible refine' Blk.newE ?_); first | rfl | (simp; done)) | (with_reducible refine' Blk.alloc ?_ _) | (with_reducible refine' Blk.drew ?_) | (with_reducible refine' Blk.drewN ?_ _) | (with_reducible refine' Blk.put ?_ ?_) | (with_reducible refine' Blk.far ?_ ?_ _) | exact rfl)) <;> (first | omega | (simp <;> omega)))
    (try simp only [List.setIfInBounds_toArray, List.set_cons_zero, List.set_cons_succ] at b5_0)
    have ht5 := TapeAt.below (by (repeat' (first | (with_reducible exact HT.out) | (with_reducible refine' TapeAt.alloc ?_ _) | (with_reducible refine' TapeAt.drew ?_) | (with_reducible refine' TapeAt.drewN ?_ _) | (with_reducible refine' TapeAt.set ?_ ?_ _))) <;> (first | omega | (simp <;> omega))) hb5
    clear HT; have T5 := ht5.lt; have HT := Lib.hid ht5; clear ht5
    clear hb5 K4
    clear b3_0 c3_0 f3_0 l3_0 e3_0 k3_0; have b3_0 := b3_0'; clear b3_0'
    clear b4_0 c4_0 f4_0 l4_0 e4_0 k4_0; have b4_0 := b4_0'; clear b4_0'
    obtain ⟨c3_0, f3_0, l3_0, e3_0, k3_0⟩ := Blk.facts b3_0
    obtain ⟨c4_0, f4_0, l4_0, e4_0, k4_0⟩ := Blk.facts b4_0
    obtain ⟨c5_0, f5_0, l5_0, e5_0, k5_0⟩ := Blk.facts b5_0
    have o5_0 := l5_0
    go_wp2_with fail
    refine (known37_any _).mono ?_
    rintro e w6 ⟨rfl, hb6⟩
    have K6 : Below w.heap.size w w6 := kept_call hb6 (by (repeat' (first | (with_reducible exact K5) | (with_reducible refine Below.setCell ?_ ?_ _) | (with_reducible refine Below.alloc ?_ ?_ _) | (with_reducible refine Below.drew ?_) | (with_reducible refine below_drewN ?_ _))) <;> (first | omega | (simp <;> omega)))
    have Z6 : w.heap.size ≤ w6.heap.size := K6.size
    have b3_0' := Blk.keep (g := w2.heap.size) hb6 (by (repeat' (first | (with_reducible refine' Blk.alloc ?_ _) | (with_reducible refine' Blk.drew ?_) | (with_reducible refine' Blk.drewN ?_ _) | (with_reducible refine' Blk.put ?_ ?_) | (with_reducible refine' Blk.far ?_ ?_ _) | exact b3_0 | exact rfl)) <;> (first | omega | (simp <;> omega)))
    (try simp only [List.setIfInBounds_toArray, List.set_cons_zero, List.set_cons_succ] at b3_0')
    have b4_0' := Blk.keep (g := w3.heap.size) hb6 (by (repeat' (first | (with_reducible refine' Blk.alloc ?_ _) | (with_reducible refine' Blk.drew ?_) | (with_reducible refine' Blk.drewN ?_ _) | (with_reducible refine' Blk.put ?_ ?_) | (with_reducible refine' Blk.far ?_ ?_ _) | exact b4_0 | exact rfl)) <;> (first | omega | (simp <;> omega)))
    (try simp only [List.setIfInBounds_toArray, List.set_cons_zero, List.set_cons_succ] at b4_0')
    have b5_0' := Blk.keep (g := w4.heap.size) hb6 (by (repeat' (first | (with_reducible refine' Blk.alloc ?_ _) | (with_reducible refine' Blk.drew ?_) | (with_reducible refine' Blk.drewN ?_ _) | (with_reducible refine' Blk.put ?_ ?_) | (with_reducible refine' Blk.far ?_ ?_ _) | exact b5_0 | exact rfl)) <;> (first | omega | (simp <;> omega)))
    (try simp only [List.setIfInBounds_toArray, List.set_cons_zero, List.set_cons_succ] at b5_0')
    have b6_0 := Blk.keep (g := w5.heap.size) hb6 (by (repeat' (first | ((with_reducible refine' Blk.newE ?_); first | rfl | (simp; done)) | (with_reducible refine' Blk.alloc ?_ _) | (with_reducible refine' Blk.drew ?_) | (with_reducible refine' Blk.drewN ?_ _) | (with_reducible refine' Blk.put ?_ ?_) | (with_reducible refine' Blk.far ?_ ?_ _) | exact rfl)) <;> (first | omega | (simp <;> omega)))
    (try simp only [List.setIfInBounds_toArray, List.set_cons_zero, List.set_cons_succ] at b6_0)
    have b6_1 := Blk.keep (g := w5.heap.size + 1) hb6 (by (repeat' (first | ((with_reducible refine' Blk.newE ?_); first | rfl | (simp; done)) | (with_reducible refine' Blk.alloc ?_ _) | (with_reducible refine' Blk.drew ?_) | (with_reducible refine' Blk.drewN ?_ _) | (with_reducible refine' Blk.put ?_ ?_) | (with_reducible refine' Blk.far ?_ ?_ _) | exact rfl)) <;> (first | omega | (simp <;> omega)))
    (try simp only [List.setIfInBounds_toArray, List.set_cons_zero, List.set_cons_succ] at b6_1)
    have ht6 := TapeAt.below (by (repeat' (first | (with_reducible exact HT.out) | (with_reducible refine' TapeAt.alloc ?_ _) | (with_reducible refine' TapeAt.drew ?_) | (with_reducible refine' TapeAt.drewN ?_ _) | (with_reducible refine' TapeAt.set ?_ ?_ _))) <;> (first | omega | (simp <;> omega))) hb6
    clear HT; have T6 := ht6.lt; have HT := Lib.hid ht6; clear ht6
    clear hb6 K5
    clear b3_0 c3_0 f3_0 l3_0 e3_0 k3_0; have b3_0 := b3_0'; clear b3_0'
    clear b4_0 c4_0 f4_0 l4_0 e4_0 k4_0; have b4_0 := b4_0'; clear b4_0'
    clear b5_0 c5_0 f5_0 l5_0 e5_0 k5_0; have b5_0 := b5_0'; clear b5_0'
    obtain ⟨c3_0, f3_0, l3_0, e3_0, k3_0⟩ := Blk.facts b3_0
    obtain ⟨c4_0, f4_0, l4_0, e4_0, k4_0⟩ := Blk.facts b4_0
    obtain ⟨c5_0, f5_0, l5_0, e5_0, k5_0⟩ := Blk.facts b5_0
    obtain ⟨c6_0, f6_0, l6_0, e6_0, k6_0⟩ := Blk.facts b6_0
    obtain ⟨c6_1, f6_1, l6_1, e6_1, k6_1⟩ := Blk.facts b6_1
    have o6_0 := l6_0
    have o6_1 := l6_1
    go_wp2
    go_ret
    exact ⟨by simp, by (repeat' (first | (with_reducible exact K6) | (with_reducible refine Below.setCell ?_ ?_ _) | (with_reducible refine Below.alloc ?_ ?_ _) | (with_reducible refine Below.drew ?_) | (with_reducible refine below_drewN ?_ _))) <;> (first | omega | (simp <;> omega))⟩
  · have r1 := ilearn_any ka klo khi kp kl kr n c d
    rw [lrn_yes HN1.out HS.out hm, show min (kl + 1) 1152921504606846976 = kl + 1 by omega] at r1
    have hm2 : max x c ≤ min y d := by simp [mtB, HN2.out, HS.out] at hm; omega
    obtain ⟨X, hX⟩ : ∃ X, X = max x c := ⟨_, rfl⟩
    obtain ⟨Y, hY⟩ : ∃ Y, Y = min y d := ⟨_, rfl⟩
    rw [← hX, ← hY] at r1
    have N8 := now_near (P := kp) (u := n) (ka := n) (klo := X) (khi := Y) (le := kl + 1) (re := kr) (by omega) (by omega) (by omega) (by omega) (by omega) (by omega) (by omega) (by omega) (by omega) (by omega) (by omega) (by omega)
    rw [show n - n = 0 by omega, HZ.out.1, HZ.out.2, Int.add_zero, Int.add_zero] at N8
    have vx : vS X Y = true := N8.2.1
    have r2 := ilearn_any n X Y kp (kl + 1) kr n c d
    have hm3 : mtB X Y c d = true := by simp [mtB, vx, HS.out]; omega
    rw [lrn_yes N8.1 HS.out hm3, show min (kl + 1 + 1) 1152921504606846976 = kl + 2 by omega, show max X c = X by omega, show min Y d = Y by omega] at r2
    have r3 := rinside_all X Y c d
    rw [show insB X Y c d = true by simp [insB, vx, HS.out]; omega] at r3
    have pk := partK
    unfold Lrn.V V6 at r1 r2
    dsimp only at r1 r2
    have R1 := Lib.hid r1; have R2 := Lib.hid r2; have R3 := Lib.hid r3; clear r1 r2 r3 hm hm2 hm3 hX hY N8 vx hn
    go_wp2_with fail
    refine (R1.out _).mono ?_
    rintro e w4 ⟨rfl, hb4⟩
    have K4 : Below w.heap.size w w4 := kept_call hb4 (by (repeat' (first | (with_reducible exact K3) | (with_reducible refine Below.setCell ?_ ?_ _) | (with_reducible refine Below.alloc ?_ ?_ _) | (with_reducible refine Below.drew ?_) | (with_reducible refine below_drewN ?_ _))) <;> (first | omega | (simp <;> omega)))
    have Z4 : w.heap.size ≤ w4.heap.size := K4.size
    have b3_0' := Blk.keep (g := w2.heap.size) hb4 (by (repeat' (first | (with_reducible refine' Blk.alloc ?_ _) | (with_reducible refine' Blk.drew ?_) | (with_reducible refine' Blk.drewN ?_ _) | (with_reducible refine' Blk.put ?_ ?_) | (with_reducible refine' Blk.far ?_ ?_ _) | exact b3_0 | exact rfl)) <;> (first | omega | (simp <;> omega)))
    (try simp only [List.setIfInBounds_toArray, List.set_cons_zero, List.set_cons_succ] at b3_0')
    have b4_0 := Blk.keep (g := w3.heap.size) hb4 (by (repeat' (first | ((with_reducible refine' Blk.newE ?_); first | rfl | (simp; done)) | (with_reducible refine' Blk.alloc ?_ _) | (with_reducible refine' Blk.drew ?_) | (with_reducible refine' Blk.drewN ?_ _) | (with_reducible refine' Blk.put ?_ ?_) | (with_reducible refine' Blk.far ?_ ?_ _) | exact rfl)) <;> (first | omega | (simp <;> omega)))
    (try simp only [List.setIfInBounds_toArray, List.set_cons_zero, List.set_cons_succ] at b4_0)
    have ht4 := TapeAt.below (by (repeat' (first | (with_reducible exact HT.out) | (with_reducible refine' TapeAt.alloc ?_ _) | (with_reducible refine' TapeAt.drew ?_) | (with_reducible refine' TapeAt.drewN ?_ _) | (with_reducible refine' TapeAt.set ?_ ?_ _))) <;> (first | omega | (simp <;> omega))) hb4
    clear HT; have T4 := ht4.lt; have HT := Lib.hid ht4; clear ht4
    clear hb4 K3
    clear b3_0 c3_0 f3_0 l3_0 e3_0 k3_0; have b3_0 := b3_0'; clear b3_0'
    obtain ⟨c3_0, f3_0, l3_0, e3_0, k3_0⟩ := Blk.facts b3_0
    obtain ⟨c4_0, f4_0, l4_0, e4_0, k4_0⟩ := Blk.facts b4_0
    have o4_0 := l4_0
    go_wp2_with fail
    refine (R2.out _).mono ?_
    rintro e w5 ⟨rfl, hb5⟩
    have K5 : Below w.heap.size w w5 := kept_call hb5 (by (repeat' (first | (with_reducible exact K4) | (with_reducible refine Below.setCell ?_ ?_ _) | (with_reducible refine Below.alloc ?_ ?_ _) | (with_reducible refine Below.drew ?_) | (with_reducible refine below_drewN ?_ _))) <;> (first | omega | (simp <;> omega)))
    have Z5 : w.heap.size ≤ w5.heap.size := K5.size
    have b3_0' := Blk.keep (g := w2.heap.size) hb5 (by (repeat' (first | (with_reducible refine' Blk.alloc ?_ _) | (with_reducible refine' Blk.drew ?_) | (with_reducible refine' Blk.drewN ?_ _) | (with_reducible refine' Blk.put ?_ ?_) | (with_reducible refine' Blk.far ?_ ?_ _) | exact b3_0 | exact rfl)) <;> (first | omega | (simp <;> omega)))
    (try simp only [List.setIfInBounds_toArray, List.set_cons_zero, List.set_cons_succ] at b3_0')
    have b4_0' := Blk.keep (g := w3.heap.size) hb5 (by (repeat' (first | (with_reducible refine' Blk.alloc ?_ _) | (with_reducible refine' Blk.drew ?_) | (with_reducible refine' Blk.drewN ?_ _) | (with_reducible refine' Blk.put ?_ ?_) | (with_reducible refine' Blk.far ?_ ?_ _) | exact b4_0 | exact rfl)) <;> (first | omega | (simp <;> omega)))
    (try simp only [List.setIfInBounds_toArray, List.set_cons_zero, List.set_cons_succ] at b4_0')
    have b5_0 := Blk.keep (g := w4.heap.size) hb5 (by (repeat' (first | ((with_reducible refine' Blk.newE ?_); first | rfl | (simp; done)) | (with_reducible refine' Blk.alloc ?_ _) | (with_reducible refine' Blk.drew ?_) | (with_reducible refine' Blk.drewN ?_ _) | (with_reducible refine' Blk.put ?_ ?_) | (with_reducible refine' Blk.far ?_ ?_ _) | exact rfl)) <;> (first | omega | (simp <;> omega)))
    (try simp only [List.setIfInBounds_toArray, List.set_cons_zero, List.set_cons_succ] at b5_0)
    have ht5 := TapeAt.below (by (repeat' (first | (with_reducible exact HT.out) | (with_reducible refine' TapeAt.alloc ?_ _) | (with_reducible refine' TapeAt.drew ?_) | (with_reducible refine' TapeAt.drewN ?_ _) | (with_reducible refine' TapeAt.set ?_ ?_ _))) <;> (first | omega | (simp <;> omega))) hb5
    clear HT; have T5 := ht5.lt; have HT := Lib.hid ht5; clear ht5
    clear hb5 K4
    clear b3_0 c3_0 f3_0 l3_0 e3_0 k3_0; have b3_0 := b3_0'; clear b3_0'
    clear b4_0 c4_0 f4_0 l4_0 e4_0 k4_0; have b4_0 := b4_0'; clear b4_0'
    obtain ⟨c3_0, f3_0, l3_0, e3_0, k3_0⟩ := Blk.facts b3_0
    obtain ⟨c4_0, f4_0, l4_0, e4_0, k4_0⟩ := Blk.facts b4_0
    obtain ⟨c5_0, f5_0, l5_0, e5_0, k5_0⟩ := Blk.facts b5_0
    have o5_0 := l5_0
    go_wp2_with fail
    refine (known37_any _).mono ?_
    rintro e w6 ⟨rfl, hb6⟩
    have K6 : Below w.heap.size w w6 := kept_call hb6 (by (repeat' (first | (with_reducible exact K5) | (with_reducible refine Below.setCell ?_ ?_ _) | (with_reducible refine Below.alloc ?_ ?_ _) | (with_reducible refine Below.drew ?_) | (with_reducible refine below_drewN ?_ _))) <;> (first | omega | (simp <;> omega)))
    have Z6 : w.heap.size ≤ w6.heap.size := K6.size
    have b3_0' := Blk.keep (g := w2.heap.size) hb6 (by (repeat' (first | (with_reducible refine' Blk.alloc ?_ _) | (with_reducible refine' Blk.drew ?_) | (with_reducible refine' Blk.drewN ?_ _) | (with_reducible refine' Blk.put ?_ ?_) | (with_reducible refine' Blk.far ?_ ?_ _) | exact b3_0 | exact rfl)) <;> (first | omega | (simp <;> omega)))
    (try simp only [List.setIfInBounds_toArray, List.set_cons_zero, List.set_cons_succ] at b3_0')
    have b4_0' := Blk.keep (g := w3.heap.size) hb6 (by (repeat' (first | (with_reducible refine' Blk.alloc ?_ _) | (with_reducible refine' Blk.drew ?_) | (with_reducible refine' Blk.drewN ?_ _) | (with_reducible refine' Blk.put ?_ ?_) | (with_reducible refine' Blk.far ?_ ?_ _) | exact b4_0 | exact rfl)) <;> (first | omega | (simp <;> omega)))
    (try simp only [List.setIfInBounds_toArray, List.set_cons_zero, List.set_cons_succ] at b4_0')
    have b5_0' := Blk.keep (g := w4.heap.size) hb6 (by (repeat' (first | (with_reducible refine' Blk.alloc ?_ _) | (with_reducible refine' Blk.drew ?_) | (with_reducible refine' Blk.drewN ?_ _) | (with_reducible refine' Blk.put ?_ ?_) | (with_reducible refine' Blk.far ?_ ?_ _) | exact b5_0 | exact rfl)) <;> (first | omega | (simp <;> omega)))
    (try simp only [List.setIfInBounds_toArray, List.set_cons_zero, List.set_cons_succ] at b5_0')
    have b6_0 := Blk.keep (g := w5.heap.size) hb6 (by (repeat' (first | ((with_reducible refine' Blk.newE ?_); first | rfl | (simp; done)) | (with_reducible refine' Blk.alloc ?_ _) | (with_reducible refine' Blk.drew ?_) | (with_reducible refine' Blk.drewN ?_ _) | (with_reducible refine' Blk.put ?_ ?_) | (with_reducible refine' Blk.far ?_ ?_ _) | exact rfl)) <;> (first | omega | (simp <;> omega)))
    (try simp only [List.setIfInBounds_toArray, List.set_cons_zero, List.set_cons_succ] at b6_0)
    have ht6 := TapeAt.below (by (repeat' (first | (with_reducible exact HT.out) | (with_reducible refine' TapeAt.alloc ?_ _) | (with_reducible refine' TapeAt.drew ?_) | (with_reducible refine' TapeAt.drewN ?_ _) | (with_reducible refine' TapeAt.set ?_ ?_ _))) <;> (first | omega | (simp <;> omega))) hb6
    clear HT; have T6 := ht6.lt; have HT := Lib.hid ht6; clear ht6
    clear hb6 K5
    clear b3_0 c3_0 f3_0 l3_0 e3_0 k3_0; have b3_0 := b3_0'; clear b3_0'
    clear b4_0 c4_0 f4_0 l4_0 e4_0 k4_0; have b4_0 := b4_0'; clear b4_0'
    clear b5_0 c5_0 f5_0 l5_0 e5_0 k5_0; have b5_0 := b5_0'; clear b5_0'
    obtain ⟨c3_0, f3_0, l3_0, e3_0, k3_0⟩ := Blk.facts b3_0
    obtain ⟨c4_0, f4_0, l4_0, e4_0, k4_0⟩ := Blk.facts b4_0
    obtain ⟨c5_0, f5_0, l5_0, e5_0, k5_0⟩ := Blk.facts b5_0
    obtain ⟨c6_0, f6_0, l6_0, e6_0, k6_0⟩ := Blk.facts b6_0
    have o6_0 := l6_0
    go_wp2_with fail
    refine (R3.out _).mono ?_
    rintro e w7 ⟨rfl, hb7⟩
    have K7 : Below w.heap.size w w7 := kept_call hb7 (by (repeat' (first | (with_reducible exact K6) | (with_reducible refine Below.setCell ?_ ?_ _) | (with_reducible refine Below.alloc ?_ ?_ _) | (with_reducible refine Below.drew ?_) | (with_reducible refine below_drewN ?_ _))) <;> (first | omega | (simp <;> omega)))
    have Z7 : w.heap.size ≤ w7.heap.size := K7.size
    have b3_0' := Blk.keep (g := w2.heap.size) hb7 (by (repeat' (first | (with_reducible refine' Blk.alloc ?_ _) | (with_reducible refine' Blk.drew ?_) | (with_reducible refine' Blk.drewN ?_ _) | (with_reducible refine' Blk.put ?_ ?_) | (with_reducible refine' Blk.far ?_ ?_ _) | exact b3_0 | exact rfl)) <;> (first | omega | (simp <;> omega)))
    (try simp only [List.setIfInBounds_toArray, List.set_cons_zero, List.set_cons_succ] at b3_0')
    have b4_0' := Blk.keep (g := w3.heap.size) hb7 (by (repeat' (first | (with_reducible refine' Blk.alloc ?_ _) | (with_reducible refine' Blk.drew ?_) | (with_reducible refine' Blk.drewN ?_ _) | (with_reducible refine' Blk.put ?_ ?_) | (with_reducible refine' Blk.far ?_ ?_ _) | exact b4_0 | exact rfl)) <;> (first | omega | (simp <;> omega)))
    (try simp only [List.setIfInBounds_toArray, List.set_cons_zero, List.set_cons_succ] at b4_0')
    have b5_0' := Blk.keep (g := w4.heap.size) hb7 (by (repeat' (first | (with_reducible refine' Blk.alloc ?_ _) | (with_reducible refine' Blk.drew ?_) | (with_reducible refine' Blk.drewN ?_ _) | (with_reducible refine' Blk.put ?_ ?_) | (with_reducible refine' Blk.far ?_ ?_ _) | exact b5_0 | exact rfl)) <;> (first | omega | (simp <;> omega)))
    (try simp only [List.setIfInBounds_toArray, List.set_cons_zero, List.set_cons_succ] at b5_0')
    have b6_0' := Blk.keep (g := w5.heap.size) hb7 (by (repeat' (first | (with_reducible refine' Blk.alloc ?_ _) | (with_reducible refine' Blk.drew ?_) | (with_reducible refine' Blk.drewN ?_ _) | (with_reducible refine' Blk.put ?_ ?_) | (with_reducible refine' Blk.far ?_ ?_ _) | exact b6_0 | exact rfl)) <;> (first | omega | (simp <;> omega)))
    (try simp only [List.setIfInBounds_toArray, List.set_cons_zero, List.set_cons_succ] at b6_0')
    have ht7 := TapeAt.below (by (repeat' (first | (with_reducible exact HT.out) | (with_reducible refine' TapeAt.alloc ?_ _) | (with_reducible refine' TapeAt.drew ?_) | (with_reducible refine' TapeAt.drewN ?_ _) | (with_reducible refine' TapeAt.set ?_ ?_ _))) <;> (first | omega | (simp <;> omega))) hb7
    clear HT; have T7 := ht7.lt; have HT := Lib.hid ht7; clear ht7
    clear hb7 K6
    clear b3_0 c3_0 f3_0 l3_0 e3_0 k3_0; have b3_0 := b3_0'; clear b3_0'
    clear b4_0 c4_0 f4_0 l4_0 e4_0 k4_0; have b4_0 := b4_0'; clear b4_0'
    clear b5_0 c5_0 f5_0 l5_0 e5_0 k5_0; have b5_0 := b5_0'; clear b5_0'
    clear b6_0 c6_0 f6_0 l6_0 e6_0 k6_0; have b6_0 := b6_0'; clear b6_0'
    obtain ⟨c3_0, f3_0, l3_0, e3_0, k3_0⟩ := Blk.facts b3_0
    obtain ⟨c4_0, f4_0, l4_0, e4_0, k4_0⟩ := Blk.facts b4_0
    obtain ⟨c5_0, f5_0, l5_0, e5_0, k5_0⟩ := Blk.facts b5_0
    obtain ⟨c6_0, f6_0, l6_0, e6_0, k6_0⟩ := Blk.facts b6_0
    go_wp2
    go_ret
    exact ⟨by simp, by (repeat' (first | (with_reducible exact K7) | (with_reducible refine Below.setCell ?_ ?_ _) | (with_reducible refine Below.alloc ?_ ?_ _) | (with_reducible refine Below.drew ?_) | (with_reducible refine below_drewN ?_ _))) <;> (first | omega | (simp <;> omega))⟩
theorem keeps37_walk (A : Option Addr) (len cap : Nat) (zs : List Int) {w : World} (hA : IntsAt w A len zs) (v : Int) (_ : IntIn v) (W : World) (h : W = w) :
    Walked 6 #[.slice A len cap, .int .i64 v] W := by
  subst h; exact keeps37_core A len cap zs v W hA
end Go.Proofs.Yteodoehhkhacoaa
