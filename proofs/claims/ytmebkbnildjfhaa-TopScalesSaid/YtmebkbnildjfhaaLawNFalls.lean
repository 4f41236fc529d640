/- The walk of the law SmearNeverFalls. -/
import Derived.Test.YtmebkbnildjfhaaLaw13
import Derived.Test.YtmebkbnildjfhaaLeapU
import Derived.Deep.DeepCutAuto
namespace Go.Proofs.Ytmebkbnildjfhaa
open Go.RowKit
set_option linter.unusedSimpArgs false
set_option linter.unusedVariables false

theorem shL_zero {ls : List (Int × Int)} (h : WTab ls) : shL 10 ls 0 = -10485760 := by
  unfold shL
  have e : ∀ k, k ≤ ls.length → shAt 10 ls 0 k = -10485760 := by
    intro k
    induction k with
    | zero => intro _; rfl
    | succ k ih =>
      intro hk
      have hz := h.2.2.2.2.2 (ls.getD k (0, 0)) (by rw [List.getD_eq_getElem?_getD, List.getElem?_eq_getElem (by omega)]; exact List.getElem_mem _)
      have ho := h.1.off (i := k) (by omega)
      have hw := win_len (first := 10) (zs := ls) k
      have e1 : wsLo ls k = ((ls.getD k (0, 0)).1 - 43200) * 1048576 := rfl
      have hn := h.1.near (i := k) (by omega)
      rw [shAt, if_neg (by omega), if_neg (by omega)]
      exact ih (by omega)
  exact e _ (Nat.le_refl _)
set_option maxRecDepth 100000 in
set_option maxHeartbeats 2000000 in
theorem nfalls_core (A : Option Addr) (len cap : Nat) (zs : List Int) (v d : Int) (hv : IntIn v) (w : World) (hA : IntsAt w A len zs) :
    Calls Try.prog 3 #[.slice A len cap, .int .i64 v, .int .i64 d] w (RB w (.bool true)) := by
  have H := Lib.hid hA; clear hA
  obtain ⟨D, hD⟩ : ∃ x, d % 209715200000 = x := ⟨_, rfl⟩
  have bD : 0 ≤ D ∧ D < 209715200000 := by omega
  have RD := Lib.hid (fun W => hD ▸ wwithinW d 209715200000 W (by omega) (by omega)); clear hD
  go_enter Try.func3, Try.ntmps3
  go_wp2_with fail
  refine (wleaps_any A len cap zs _ H.out).mono ?_
  rintro e w1 ⟨A1, c1, ls, rfl, hT, hP, hb1⟩
  have K1 : Below w.heap.size w w1 := kept_call hb1 (by (repeat' (first | (with_reducible exact Below.refl _ _) | (with_reducible refine Below.setCell ?_ ?_ _) | (with_reducible refine Below.alloc ?_ ?_ _) | (with_reducible refine Below.drew ?_) | (with_reducible refine below_drewN ?_ _))) <;> (first | omega | (simp <;> omega)))
  have Z1 : w.heap.size ≤ w1.heap.size := K1.size
  clear hb1
  have P := Lib.hid hP; have HT := Lib.hid hT; clear hP hT H
  go_wp2_with fail
  refine (near_any A1 ls.length c1 ls v HT.out rfl hv _ (P.out.below (by (repeat' (first | (with_reducible exact Below.refl _ _) | (with_reducible refine Below.setCell ?_ ?_ _) | (with_reducible refine Below.alloc ?_ ?_ _) | (with_reducible refine Below.drew ?_) | (with_reducible refine below_drewN ?_ _))) <;> (first | omega | (simp <;> omega))))).mono ?_
  rintro e w2 ⟨tt, rfl, t0, t1, hb2⟩
  have K2 : Below w1.heap.size w1 w2 := kept_call hb2 (by (repeat' (first | (with_reducible exact Below.refl _ _) | (with_reducible refine Below.setCell ?_ ?_ _) | (with_reducible refine Below.alloc ?_ ?_ _) | (with_reducible refine Below.drew ?_) | (with_reducible refine below_drewN ?_ _))) <;> (first | omega | (simp <;> omega)))
  have Z2 : w1.heap.size ≤ w2.heap.size := K2.size
  have b2_0 := Blk.keep (g := w1.heap.size) hb2 (by (repeat' (first | ((with_reducible refine' Blk.newE ?_); first | rfl | (simp; done)) | (with_reducible refine' Blk.alloc ?_ _) | (with_reducible refine' Blk.drew ?_) | (with_reducible refine' Blk.drewN ?_ _) | (with_reducible refine' Blk.put ?_ ?_) | (with_reducible refine' Blk.far ?_ ?_ _) | exact rfl)) <;> (first | omega | (simp <;> omega)))
  (try simp only [List.setIfInBounds_toArray, List.set_cons_zero, List.set_cons_succ] at b2_0)
  clear hb2
  obtain ⟨c2_0, f2_0, l2_0, e2_0, k2_0⟩ := Blk.facts b2_0
  have o2_0 := l2_0
  go_wp2_with fail
  refine (RD.out _).mono ?_
  rintro e wq ⟨rfl, rfl⟩
  have X := shL_mono HT.out.1 (t := tt) (u := tt + D) (by omega)
  have Y := shL_rate HT.out.1 (t := tt) (d := D) bD.1
  have Y0 := shL_rate HT.out.1 (t := 0) (d := tt) (by omega)
  have s1 := fun W (hW : Below w1.heap.size w1 W) => smV_in HT.out.1 (t := tt) ⟨by omega, by omega⟩ ▸ smear_any 10 A1 ls.length c1 ls tt W (P.out.below hW) HT.out.in_
  have s2 := fun W (hW : Below w1.heap.size w1 W) => smV_in HT.out.1 (t := tt + D) ⟨by omega, by omega⟩ ▸ smear_any 10 A1 ls.length c1 ls (tt + D) W (P.out.below hW) HT.out.in_
  have S1 := Lib.hid s1; have S2 := Lib.hid s2; clear s1 s2
  have z0 : -200000000 ≤ shL 10 ls 0 ∧ shL 10 ls 0 ≤ 200000000 := by have h := shL_zero HT.out; omega
  rw [Int.zero_add] at Y0
  generalize shL 10 ls tt = a at *
  generalize shL 10 ls (tt + D) = b at *
  generalize shL 10 ls 0 = c at *
  have u0 : IntKind.i64.wrap (tt + D) = tt + D := IntWalk.i64_in _ (by omega)
  have gb : decide (b < a) = false := decide_eq_false (by omega)
  have u1 : IntKind.i64.wrap (b - a) = b - a := IntWalk.i64_in _ (by omega)
  have q0 : D.tdiv 86399 = D / 86399 := Int.tdiv_eq_ediv_of_nonneg bD.1
  obtain ⟨q, hq⟩ : ∃ q, D / 86399 = q := ⟨_, rfl⟩
  rw [hq] at q0 Y
  have bq : 0 ≤ q ∧ q ≤ D := by omega
  have u2 : IntKind.i64.wrap (D.tdiv 86399) = q := by rw [q0]; exact IntWalk.i64_in _ (by omega)
  have u3 : IntKind.i64.wrap (D - q) = D - q := IntWalk.i64_in _ (by omega)
  have u4 : IntKind.i64.wrap (D - q - 2) = D - q - 2 := IntWalk.i64_in _ (by omega)
  have u5 : IntKind.i64.wrap (D + q) = D + q := IntWalk.i64_in _ (by omega)
  have u6 : IntKind.i64.wrap (D + q + 2) = D + q + 2 := IntWalk.i64_in _ (by omega)
  have gc : decide (D - q - 2 ≤ b - a) = true := decide_eq_true (by omega)
  have gd : decide (b - a ≤ D + q + 2) = true := decide_eq_true (by omega)
  clear X Y Y0 z0 hq q0
  go_wp2_with fail
  refine (S1.out _ (by (repeat' (first | (with_reducible exact K2) | (with_reducible refine Below.setCell ?_ ?_ _) | (with_reducible refine Below.alloc ?_ ?_ _) | (with_reducible refine Below.drew ?_) | (with_reducible refine below_drewN ?_ _))) <;> (first | omega | (simp <;> omega)))).mono ?_
  rintro e w3 ⟨rfl, hb3⟩
  have K3 : Below w1.heap.size w1 w3 := kept_call hb3 (by (repeat' (first | (with_reducible exact K2) | (with_reducible refine Below.setCell ?_ ?_ _) | (with_reducible refine Below.alloc ?_ ?_ _) | (with_reducible refine Below.drew ?_) | (with_reducible refine below_drewN ?_ _))) <;> (first | omega | (simp <;> omega)))
  have Z3 : w1.heap.size ≤ w3.heap.size := K3.size
  have b2_0' := Blk.keep (g := w1.heap.size) hb3 (by (repeat' (first | (with_reducible refine' Blk.alloc ?_ _) | (with_reducible refine' Blk.drew ?_) | (with_reducible refine' Blk.drewN ?_ _) | (with_reducible refine' Blk.put ?_ ?_) | (with_reducible refine' Blk.far ?_ ?_ _) | exact b2_0 | exact rfl)) <;> (first | omega | (simp <;> omega)))
  (try simp only [List.setIfInBounds_toArray, List.set_cons_zero, List.set_cons_succ] at b2_0')
  clear hb3 K2
  clear b2_0 c2_0 f2_0 l2_0 e2_0 k2_0; have b2_0 := b2_0'; clear b2_0'
  obtain ⟨c2_0, f2_0, l2_0, e2_0, k2_0⟩ := Blk.facts b2_0
  go_wp2_with fail
  refine (S2.out _ (by (repeat' (first | (with_reducible exact K3) | (with_reducible refine Below.setCell ?_ ?_ _) | (with_reducible refine Below.alloc ?_ ?_ _) | (with_reducible refine Below.drew ?_) | (with_reducible refine below_drewN ?_ _))) <;> (first | omega | (simp <;> omega)))).mono ?_
  rintro e w4 ⟨rfl, hb4⟩
  have K4 : Below w1.heap.size w1 w4 := kept_call hb4 (by (repeat' (first | (with_reducible exact K3) | (with_reducible refine Below.setCell ?_ ?_ _) | (with_reducible refine Below.alloc ?_ ?_ _) | (with_reducible refine Below.drew ?_) | (with_reducible refine below_drewN ?_ _))) <;> (first | omega | (simp <;> omega)))
  have Z4 : w1.heap.size ≤ w4.heap.size := K4.size
  have b2_0' := Blk.keep (g := w1.heap.size) hb4 (by (repeat' (first | (with_reducible refine' Blk.alloc ?_ _) | (with_reducible refine' Blk.drew ?_) | (with_reducible refine' Blk.drewN ?_ _) | (with_reducible refine' Blk.put ?_ ?_) | (with_reducible refine' Blk.far ?_ ?_ _) | exact b2_0 | exact rfl)) <;> (first | omega | (simp <;> omega)))
  (try simp only [List.setIfInBounds_toArray, List.set_cons_zero, List.set_cons_succ] at b2_0')
  clear hb4 K3
  clear b2_0 c2_0 f2_0 l2_0 e2_0 k2_0; have b2_0 := b2_0'; clear b2_0'
  obtain ⟨c2_0, f2_0, l2_0, e2_0, k2_0⟩ := Blk.facts b2_0
  go_wp2_with fail
  refine (known13_any _).mono ?_
  rintro e w5 ⟨rfl, hb5⟩
  have K5 : Below w1.heap.size w1 w5 := kept_call hb5 (by (repeat' (first | (with_reducible exact K4) | (with_reducible refine Below.setCell ?_ ?_ _) | (with_reducible refine Below.alloc ?_ ?_ _) | (with_reducible refine Below.drew ?_) | (with_reducible refine below_drewN ?_ _))) <;> (first | omega | (simp <;> omega)))
  have Z5 : w1.heap.size ≤ w5.heap.size := K5.size
  have b2_0' := Blk.keep (g := w1.heap.size) hb5 (by (repeat' (first | (with_reducible refine' Blk.alloc ?_ _) | (with_reducible refine' Blk.drew ?_) | (with_reducible refine' Blk.drewN ?_ _) | (with_reducible refine' Blk.put ?_ ?_) | (with_reducible refine' Blk.far ?_ ?_ _) | exact b2_0 | exact rfl)) <;> (first | omega | (simp <;> omega)))
  (try simp only [List.setIfInBounds_toArray, List.set_cons_zero, List.set_cons_succ] at b2_0')
  clear hb5 K4
  clear b2_0 c2_0 f2_0 l2_0 e2_0 k2_0; have b2_0 := b2_0'; clear b2_0'
  obtain ⟨c2_0, f2_0, l2_0, e2_0, k2_0⟩ := Blk.facts b2_0
  go_wp2
  go_ret
  exact ⟨rfl, (kept_call (by (repeat' (first | (with_reducible exact K5) | (with_reducible refine Below.setCell ?_ ?_ _) | (with_reducible refine Below.alloc ?_ ?_ _) | (with_reducible refine Below.drew ?_) | (with_reducible refine below_drewN ?_ _))) <;> (first | omega | (simp <;> omega))) K1)⟩
theorem nfalls_walk (A : Option Addr) (len cap : Nat) (zs : List Int) {w : World} (hA : IntsAt w A len zs) (v : Int) (hv : IntIn v) (d : Int) (_ : IntIn d) (W : World) (h : W = w) :
    Walked 3 #[.slice A len cap, .int .i64 v, .int .i64 d] W := by
  subst h; exact nfalls_core A len cap zs v d hv W hA
end Go.Proofs.Ytmebkbnildjfhaa
