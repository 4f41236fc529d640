/- The walks of the laws TopSmearedSources and TopScales. -/
import Derived.Test.YtmebkbnildjfhaaLeapTop
import Derived.Deep.DeepCutAuto
namespace Go.Proofs.Ytmebkbnildjfhaa
open Go.RowKit
set_option linter.unusedSimpArgs false
set_option linter.unusedVariables false

theorem clear_in {P : Program} {f : Nat} {args : Array Value} {w : World} {first : Int} {zs : List (Int × Int)} {s : Int} {v : Value} (hv : ClearR first zs s v) (h : Calls P f args w fun e w' => ∃ v, e = .returned v ∧ ClearR first zs s v ∧ Below w.heap.size w w') : Calls P f args w (RB w v) :=
  h.mono fun _ _ ⟨v', e1, e2, e3⟩ => ⟨by rw [e1, clearR_uniq e2 hv], e3⟩
theorem spans3 {w : World} {g : Nat} {a b c d e f : Int} {t : TypeId} (h : Blk w g t #[.int .i64 a, .int .i64 b, .int .i64 c, .int .i64 d, .int .i64 e, .int .i64 f]) : SpansAt w (some ⟨g, 0, none⟩) 3 [(a, b), (c, d), (e, f)] := by
  refine ⟨rfl, by omega, fun _ => ⟨g, 0, rfl, h.lt, fun j hj => ?_⟩⟩
  match j, hj with
  | 0, _ => exact ⟨h.cell 0, h.cell 1⟩
  | 1, _ => exact ⟨h.cell 2, h.cell 3⟩
  | 2, _ => exact ⟨h.cell 4, h.cell 5⟩
theorem common3 {a0 a1 b0 b1 t : Int} (h1 : a0 ≤ t) (h2 : t ≤ a1) (h3 : b0 ≤ t) (h4 : t ≤ b1) (h5 : -1152921504606846976 ≤ a0) (h6 : a1 ≤ 1152921504606846976) (h7 : -1152921504606846976 ≤ b0) (h8 : b1 ≤ 1152921504606846976) :
    comV [(a0, a1), (b0, b1), (t, t)] = .tuple #[.agg #[.int .i64 t, .int .i64 t], .bool true] := by
  have m1 : mtB (-1152921504606846976) 1152921504606846976 a0 a1 = true := by
    unfold mtB; rw [vS_true.2 ⟨by omega, by omega, by omega⟩, vS_true.2 ⟨by omega, by omega, by omega⟩]; simp; omega
  have m2 : mtB a0 a1 b0 b1 = true := by
    unfold mtB; rw [vS_true.2 ⟨by omega, by omega, by omega⟩, vS_true.2 ⟨by omega, by omega, by omega⟩]; simp; omega
  have m3 : mtB (max a0 b0) (min a1 b1) t t = true := by
    unfold mtB; rw [vS_true.2 ⟨by omega, by omega, by omega⟩, vS_true.2 ⟨by omega, by omega, by omega⟩]; simp; omega
  have e : comS [(a0, a1), (b0, b1), (t, t)] true = ((t, t), true) := by
    unfold comS
    simp only [List.foldl_cons, List.foldl_nil, stepC, if_true]
    rw [show mtLo (-1152921504606846976) 1152921504606846976 a0 a1 = a0 by unfold mtLo; rw [m1, if_pos rfl]; omega, show mtHi (-1152921504606846976) 1152921504606846976 a0 a1 = a1 by unfold mtHi; rw [m1, if_pos rfl]; omega, m1]
    simp only [if_true]
    rw [show mtLo a0 a1 b0 b1 = max a0 b0 by unfold mtLo; rw [m2, if_pos rfl], show mtHi a0 a1 b0 b1 = min a1 b1 by unfold mtHi; rw [m2, if_pos rfl], m2]
    simp only [if_true]
    rw [show mtLo (max a0 b0) (min a1 b1) t t = t by unfold mtLo; rw [m3, if_pos rfl]; omega, show mtHi (max a0 b0) (min a1 b1) t t = t by unfold mtHi; rw [m3, if_pos rfl]; omega, m3]
  unfold comV comVb
  rw [show decide (0 < ([(a0, a1), (b0, b1), (t, t)] : List (Int × Int)).length) = true by simp, e]
  rfl
set_option maxRecDepth 100000 in
set_option maxHeartbeats 4000000 in
theorem smsrc_core (A : Option Addr) (len cap : Nat) (zs : List Int) (v wt : Int) (hv : IntIn v) (w : World) (hA : IntsAt w A len zs) :
    Calls Try.prog 6 #[.slice A len cap, .int .i64 v, .int .i64 wt] w (RB w (.bool true)) := by
  have H := Lib.hid hA; clear hA
  obtain ⟨D, hD⟩ : ∃ x, wt % 104857600 = x := ⟨_, rfl⟩
  have bD : 0 ≤ D ∧ D < 104857600 := by omega
  have RD := Lib.hid (fun W => hD ▸ wwithinW wt 104857600 W (by omega) (by omega)); clear hD
  go_enter Try.func6, Try.ntmps6
  go_wp2_with fail
  refine (wleaps_any A len cap zs _ H.out).mono ?_
  rintro e w1 ⟨A1, c1, ls, rfl, hT, hP, hb1⟩
  have K1 : Below w.heap.size w w1 := kept_call hb1 (by (repeat' (first | (with_reducible exact Below.refl _ _) | (with_reducible refine Below.setCell ?_ ?_ _) | (with_reducible refine Below.alloc ?_ ?_ _) | (with_reducible refine Below.drew ?_) | (with_reducible refine below_drewN ?_ _))) <;> (first | omega | (simp <;> omega)))
  have Z1 : w.heap.size ≤ w1.heap.size := K1.size
  clear hb1
  have P := Lib.hid hP; have HT := Lib.hid hT; clear hP hT H
  go_wp2_with fail
  refine (near_any A1 ls.length c1 ls v HT.out rfl hv _ (P.out.below (by (repeat' (first | (with_reducible exact Below.refl _ _) | (with_reducible refine Below.setCell ?_ ?_ _) | (with_reducible refine Below.alloc ?_ ?_ _) | (with_reducible refine Below.drew ?_) | (with_reducible refine below_drewN ?_ _))) <;> (first | omega | (simp <;> omega))))).mono ?_
  rintro e w2 ⟨tt, rfl, t0, t1, hb2⟩
  have K2 : Below w1.heap.size w1 w2 := kept_call hb2 (by (repeat' (first | (with_reducible exact Below.refl _ _) | (with_reducible refine Below.setCell ?_ ?_ _) | (with_reducible refine Below.alloc ?_ ?_ _) | (with_reducible refine Below.drew ?_) | (with_reducible refine below_drewN ?_ _))) <;> (first | omega | (simp <;> omega)))
  have Z2 : w1.heap.size ≤ w2.heap.size := K2.size
  have b2_0 := Blk.keep (g := w1.heap.size) hb2 (by (repeat' (first | ((with_reducible refine' Blk.newE ?_); first | rfl | (simp; done)) | (with_reducible refine' Blk.alloc ?_ _) | (with_reducible refine' Blk.drew ?_) | (with_reducible refine' Blk.drewN ?_ _) | (with_reducible refine' Blk.put ?_ ?_) | (with_reducible refine' Blk.far ?_ ?_ _) | exact rfl)) <;> (first | omega | (simp <;> omega)))
  (try simp only [List.setIfInBounds_toArray, List.set_cons_zero, List.set_cons_succ] at b2_0)
  clear hb2
  obtain ⟨c2_0, f2_0, l2_0, e2_0, k2_0⟩ := Blk.facts b2_0
  have o2_0 := l2_0
  have hz := HT.out.in_
  have h := P.out
  have sm := fun x (x0 : 134217728 ≤ x) (x1 : x ≤ 288230376151711744) W (hW : Below w1.heap.size w1 W) => smV_in HT.out.1 (t := x) ⟨x0, x1⟩ ▸ smear_any 10 A1 ls.length c1 ls x W (h.below hW) hz
  go_wp2_with fail
  refine (RD.out _).mono ?_
  rintro e wq ⟨rfl, rfl⟩
  obtain ⟨x0, x1, hx1, hx2, hx3, hC, -, -, -, -⟩ := clear_at HT.out (t := tt) t0 (by omega)
  obtain ⟨y0, y1, hy1, hy2, hy3, hE, -, -, -, -⟩ := clear_at HT.out (t := tt + D) (by omega) (by omega)
  have m1 := sm tt (by omega) (by omega)
  have m2 := sm (tt + D) (by omega) (by omega)
  have m3 := fun W (hW : Below w1.heap.size w1 W) => clear_in hC (clear_any 10 A1 ls.length c1 ls (shL 10 ls tt) W (h.below hW) hz)
  have m4 := fun W (hW : Below w1.heap.size w1 W) => clear_in hE (clear_any 10 A1 ls.length c1 ls (shL 10 ls (tt + D)) W (h.below hW) hz)
  clear sm hC hE h hz
  have v1 : vS y0 y1 = true := vS_true.2 ⟨by omega, by omega, by omega⟩
  have v2 : vS x0 x1 = true := vS_true.2 ⟨by omega, by omega, by omega⟩
  have v3 : vS (y0 - x1) (y1 - x0) = true := vS_true.2 ⟨by omega, by omega, by omega⟩
  have r5 := fun (W : World) => (show opV (vS y0 y1 && vS x0 x1) true (y0 - x1) (y1 - x0) = Value.tuple #[.agg #[.int .i64 (y0 - x1), .int .i64 (y1 - x0)], .int .i64 0] by rw [v1, v2, Bool.and_true, opV_ok]; unfold mkS; rw [v3]; rfl) ▸ isub_all y0 y1 x0 x1 W
  have r6 := fun (W : World) => (show hdB (y0 - x1) (y1 - x0) D = true by unfold hdB; rw [v3]; simp; omega) ▸ iholds_all (y0 - x1) (y1 - x0) D W
  have r7 := fun (W : World) => width_ok (y0 - x1) (y1 - x0) v3 W
  have u0 : IntKind.i64.wrap (tt + D) = tt + D := IntWalk.i64_in _ (by omega)
  have g1 : decide (y1 - x0 - (y0 - x1) ≤ 2) = true := decide_eq_true (by omega)
  generalize shL 10 ls tt = a at *
  generalize shL 10 ls (tt + D) = b at *
  have M1 := Lib.hid m1; have M2 := Lib.hid m2; have M3 := Lib.hid m3; have M4 := Lib.hid m4; have M5 := Lib.hid r5; have M6 := Lib.hid r6; have M7 := Lib.hid r7
  clear m1 m2 m3 m4 r5 r6 r7 v1 v2 v3
  obtain ⟨c2_0, f2_0, l2_0, e2_0, k2_0⟩ := Blk.facts b2_0
  go_wp2_with fail
  refine (M1.out _ (by (repeat' (first | (with_reducible exact K2) | (with_reducible refine Below.setCell ?_ ?_ _) | (with_reducible refine Below.alloc ?_ ?_ _) | (with_reducible refine Below.drew ?_) | (with_reducible refine below_drewN ?_ _))) <;> (first | omega | (simp <;> omega)))).mono ?_
  rintro e w3 ⟨rfl, hb3⟩
  have K3 : Below w1.heap.size w1 w3 := kept_call hb3 (by (repeat' (first | (with_reducible exact K2) | (with_reducible refine Below.setCell ?_ ?_ _) | (with_reducible refine Below.alloc ?_ ?_ _) | (with_reducible refine Below.drew ?_) | (with_reducible refine below_drewN ?_ _))) <;> (first | omega | (simp <;> omega)))
  have Z3 : w1.heap.size ≤ w3.heap.size := K3.size
  have b2_0' := Blk.keep (g := w1.heap.size) hb3 (by (repeat' (first | (with_reducible refine' Blk.alloc ?_ _) | (with_reducible refine' Blk.drew ?_) | (with_reducible refine' Blk.drewN ?_ _) | (with_reducible refine' Blk.put ?_ ?_) | (with_reducible refine' Blk.far ?_ ?_ _) | exact b2_0 | exact rfl)) <;> (first | omega | (simp <;> omega)))
  (try simp only [List.setIfInBounds_toArray, List.set_cons_zero, List.set_cons_succ] at b2_0')
  clear hb3 K2
  clear b2_0 c2_0 f2_0 l2_0 e2_0 k2_0; have b2_0 := b2_0'; clear b2_0'
  obtain ⟨c2_0, f2_0, l2_0, e2_0, k2_0⟩ := Blk.facts b2_0
  go_wp2_with fail
  refine (M2.out _ (by (repeat' (first | (with_reducible exact K3) | (with_reducible refine Below.setCell ?_ ?_ _) | (with_reducible refine Below.alloc ?_ ?_ _) | (with_reducible refine Below.drew ?_) | (with_reducible refine below_drewN ?_ _))) <;> (first | omega | (simp <;> omega)))).mono ?_
  rintro e w4 ⟨rfl, hb4⟩
  have K4 : Below w1.heap.size w1 w4 := kept_call hb4 (by (repeat' (first | (with_reducible exact K3) | (with_reducible refine Below.setCell ?_ ?_ _) | (with_reducible refine Below.alloc ?_ ?_ _) | (with_reducible refine Below.drew ?_) | (with_reducible refine below_drewN ?_ _))) <;> (first | omega | (simp <;> omega)))
  have Z4 : w1.heap.size ≤ w4.heap.size := K4.size
  have b2_0' := Blk.keep (g := w1.heap.size) hb4 (by (repeat' (first | (with_reducible refine' Blk.alloc ?_ _) | (with_reducible refine' Blk.drew ?_) | (with_reducible refine' Blk.drewN ?_ _) | (with_reducible refine' Blk.put ?_ ?_) | (with_reducible refine' Blk.far ?_ ?_ _) | exact b2_0 | exact rfl)) <;> (first | omega | (simp <;> omega)))
  (try simp only [List.setIfInBounds_toArray, List.set_cons_zero, List.set_cons_succ] at b2_0')
  clear hb4 K3
  clear b2_0 c2_0 f2_0 l2_0 e2_0 k2_0; have b2_0 := b2_0'; clear b2_0'
  obtain ⟨c2_0, f2_0, l2_0, e2_0, k2_0⟩ := Blk.facts b2_0
  go_wp2_with fail
  refine (M3.out _ (by (repeat' (first | (with_reducible exact K4) | (with_reducible refine Below.setCell ?_ ?_ _) | (with_reducible refine Below.alloc ?_ ?_ _) | (with_reducible refine Below.drew ?_) | (with_reducible refine below_drewN ?_ _))) <;> (first | omega | (simp <;> omega)))).mono ?_
  rintro e w5 ⟨rfl, hb5⟩
  have K5 : Below w1.heap.size w1 w5 := kept_call hb5 (by (repeat' (first | (with_reducible exact K4) | (with_reducible refine Below.setCell ?_ ?_ _) | (with_reducible refine Below.alloc ?_ ?_ _) | (with_reducible refine Below.drew ?_) | (with_reducible refine below_drewN ?_ _))) <;> (first | omega | (simp <;> omega)))
  have Z5 : w1.heap.size ≤ w5.heap.size := K5.size
  have b2_0' := Blk.keep (g := w1.heap.size) hb5 (by (repeat' (first | (with_reducible refine' Blk.alloc ?_ _) | (with_reducible refine' Blk.drew ?_) | (with_reducible refine' Blk.drewN ?_ _) | (with_reducible refine' Blk.put ?_ ?_) | (with_reducible refine' Blk.far ?_ ?_ _) | exact b2_0 | exact rfl)) <;> (first | omega | (simp <;> omega)))
  (try simp only [List.setIfInBounds_toArray, List.set_cons_zero, List.set_cons_succ] at b2_0')
  clear hb5 K4
  clear b2_0 c2_0 f2_0 l2_0 e2_0 k2_0; have b2_0 := b2_0'; clear b2_0'
  obtain ⟨c2_0, f2_0, l2_0, e2_0, k2_0⟩ := Blk.facts b2_0
  go_wp2_with fail
  refine (M4.out _ (by (repeat' (first | (with_reducible exact K5) | (with_reducible refine Below.setCell ?_ ?_ _) | (with_reducible refine Below.alloc ?_ ?_ _) | (with_reducible refine Below.drew ?_) | (with_reducible refine below_drewN ?_ _))) <;> (first | omega | (simp <;> omega)))).mono ?_
  rintro e w6 ⟨rfl, hb6⟩
  have K6 : Below w1.heap.size w1 w6 := kept_call hb6 (by (repeat' (first | (with_reducible exact K5) | (with_reducible refine Below.setCell ?_ ?_ _) | (with_reducible refine Below.alloc ?_ ?_ _) | (with_reducible refine Below.drew ?_) | (with_reducible refine below_drewN ?_ _))) <;> (first | omega | (simp <;> omega)))
  have Z6 : w1.heap.size ≤ w6.heap.size := K6.size
  have b2_0' := Blk.keep (g := w1.heap.size) hb6 (by (repeat' (first | (with_reducible refine' Blk.alloc ?_ _) | (with_reducible refine' Blk.drew ?_) | (with_reducible refine' Blk.drewN ?_ _) | (with_reducible refine' Blk.put ?_ ?_) | (with_reducible refine' Blk.far ?_ ?_ _) | exact b2_0 | exact rfl)) <;> (first | omega | (simp <;> omega)))
  (try simp only [List.setIfInBounds_toArray, List.set_cons_zero, List.set_cons_succ] at b2_0')
  have b6_0 := Blk.keep (g := w5.heap.size) hb6 (by (repeat' (first | ((with_reducible refine' Blk.newE ?_); first | rfl | (simp; done)) | (with_reducible refine' Blk.alloc ?_ _) | (with_reducible refine' Blk.drew ?_) | (with_reducible refine' Blk.drewN ?_ _) | (with_reducible refine' Blk.put ?_ ?_) | (with_reducible refine' Blk.far ?_ ?_ _) | exact rfl)) <;> (first | omega | (simp <;> omega)))
  (try simp only [List.setIfInBounds_toArray, List.set_cons_zero, List.set_cons_succ] at b6_0)
  clear hb6 K5
  clear b2_0 c2_0 f2_0 l2_0 e2_0 k2_0; have b2_0 := b2_0'; clear b2_0'
  obtain ⟨c2_0, f2_0, l2_0, e2_0, k2_0⟩ := Blk.facts b2_0
  obtain ⟨c6_0, f6_0, l6_0, e6_0, k6_0⟩ := Blk.facts b6_0
  have o6_0 := l6_0
  go_wp2_with fail
  refine (M5.out _).mono ?_
  rintro e w7 ⟨rfl, hb7⟩
  have K7 : Below w1.heap.size w1 w7 := kept_call hb7 (by (repeat' (first | (with_reducible exact K6) | (with_reducible refine Below.setCell ?_ ?_ _) | (with_reducible refine Below.alloc ?_ ?_ _) | (with_reducible refine Below.drew ?_) | (with_reducible refine below_drewN ?_ _))) <;> (first | omega | (simp <;> omega)))
  have Z7 : w1.heap.size ≤ w7.heap.size := K7.size
  have b2_0' := Blk.keep (g := w1.heap.size) hb7 (by (repeat' (first | (with_reducible refine' Blk.alloc ?_ _) | (with_reducible refine' Blk.drew ?_) | (with_reducible refine' Blk.drewN ?_ _) | (with_reducible refine' Blk.put ?_ ?_) | (with_reducible refine' Blk.far ?_ ?_ _) | exact b2_0 | exact rfl)) <;> (first | omega | (simp <;> omega)))
  (try simp only [List.setIfInBounds_toArray, List.set_cons_zero, List.set_cons_succ] at b2_0')
  have b6_0' := Blk.keep (g := w5.heap.size) hb7 (by (repeat' (first | (with_reducible refine' Blk.alloc ?_ _) | (with_reducible refine' Blk.drew ?_) | (with_reducible refine' Blk.drewN ?_ _) | (with_reducible refine' Blk.put ?_ ?_) | (with_reducible refine' Blk.far ?_ ?_ _) | exact b6_0 | exact rfl)) <;> (first | omega | (simp <;> omega)))
  (try simp only [List.setIfInBounds_toArray, List.set_cons_zero, List.set_cons_succ] at b6_0')
  have b7_0 := Blk.keep (g := w6.heap.size) hb7 (by (repeat' (first | ((with_reducible refine' Blk.newE ?_); first | rfl | (simp; done)) | (with_reducible refine' Blk.alloc ?_ _) | (with_reducible refine' Blk.drew ?_) | (with_reducible refine' Blk.drewN ?_ _) | (with_reducible refine' Blk.put ?_ ?_) | (with_reducible refine' Blk.far ?_ ?_ _) | exact rfl)) <;> (first | omega | (simp <;> omega)))
  (try simp only [List.setIfInBounds_toArray, List.set_cons_zero, List.set_cons_succ] at b7_0)
  clear hb7 K6
  clear b2_0 c2_0 f2_0 l2_0 e2_0 k2_0; have b2_0 := b2_0'; clear b2_0'
  clear b6_0 c6_0 f6_0 l6_0 e6_0 k6_0; have b6_0 := b6_0'; clear b6_0'
  obtain ⟨c2_0, f2_0, l2_0, e2_0, k2_0⟩ := Blk.facts b2_0
  obtain ⟨c6_0, f6_0, l6_0, e6_0, k6_0⟩ := Blk.facts b6_0
  obtain ⟨c7_0, f7_0, l7_0, e7_0, k7_0⟩ := Blk.facts b7_0
  have o7_0 := l7_0
  go_wp2_with fail
  refine (roused_any _).mono ?_
  rintro e w8 ⟨rfl, hb8⟩
  have K8 : Below w1.heap.size w1 w8 := kept_call hb8 (by (repeat' (first | (with_reducible exact K7) | (with_reducible refine Below.setCell ?_ ?_ _) | (with_reducible refine Below.alloc ?_ ?_ _) | (with_reducible refine Below.drew ?_) | (with_reducible refine below_drewN ?_ _))) <;> (first | omega | (simp <;> omega)))
  have Z8 : w1.heap.size ≤ w8.heap.size := K8.size
  have b2_0' := Blk.keep (g := w1.heap.size) hb8 (by (repeat' (first | (with_reducible refine' Blk.alloc ?_ _) | (with_reducible refine' Blk.drew ?_) | (with_reducible refine' Blk.drewN ?_ _) | (with_reducible refine' Blk.put ?_ ?_) | (with_reducible refine' Blk.far ?_ ?_ _) | exact b2_0 | exact rfl)) <;> (first | omega | (simp <;> omega)))
  (try simp only [List.setIfInBounds_toArray, List.set_cons_zero, List.set_cons_succ] at b2_0')
  have b6_0' := Blk.keep (g := w5.heap.size) hb8 (by (repeat' (first | (with_reducible refine' Blk.alloc ?_ _) | (with_reducible refine' Blk.drew ?_) | (with_reducible refine' Blk.drewN ?_ _) | (with_reducible refine' Blk.put ?_ ?_) | (with_reducible refine' Blk.far ?_ ?_ _) | exact b6_0 | exact rfl)) <;> (first | omega | (simp <;> omega)))
  (try simp only [List.setIfInBounds_toArray, List.set_cons_zero, List.set_cons_succ] at b6_0')
  have b7_0' := Blk.keep (g := w6.heap.size) hb8 (by (repeat' (first | (with_reducible refine' Blk.alloc ?_ _) | (with_reducible refine' Blk.drew ?_) | (with_reducible refine' Blk.drewN ?_ _) | (with_reducible refine' Blk.put ?_ ?_) | (with_reducible refine' Blk.far ?_ ?_ _) | exact b7_0 | exact rfl)) <;> (first | omega | (simp <;> omega)))
  (try simp only [List.setIfInBounds_toArray, List.set_cons_zero, List.set_cons_succ] at b7_0')
  have b8_0 := Blk.keep (g := w7.heap.size) hb8 (by (repeat' (first | ((with_reducible refine' Blk.newE ?_); first | rfl | (simp; done)) | (with_reducible refine' Blk.alloc ?_ _) | (with_reducible refine' Blk.drew ?_) | (with_reducible refine' Blk.drewN ?_ _) | (with_reducible refine' Blk.put ?_ ?_) | (with_reducible refine' Blk.far ?_ ?_ _) | exact rfl)) <;> (first | omega | (simp <;> omega)))
  (try simp only [List.setIfInBounds_toArray, List.set_cons_zero, List.set_cons_succ] at b8_0)
  clear hb8 K7
  clear b2_0 c2_0 f2_0 l2_0 e2_0 k2_0; have b2_0 := b2_0'; clear b2_0'
  clear b6_0 c6_0 f6_0 l6_0 e6_0 k6_0; have b6_0 := b6_0'; clear b6_0'
  clear b7_0 c7_0 f7_0 l7_0 e7_0 k7_0; have b7_0 := b7_0'; clear b7_0'
  obtain ⟨c2_0, f2_0, l2_0, e2_0, k2_0⟩ := Blk.facts b2_0
  obtain ⟨c6_0, f6_0, l6_0, e6_0, k6_0⟩ := Blk.facts b6_0
  obtain ⟨c7_0, f7_0, l7_0, e7_0, k7_0⟩ := Blk.facts b7_0
  obtain ⟨c8_0, f8_0, l8_0, e8_0, k8_0⟩ := Blk.facts b8_0
  have o8_0 := l8_0
  go_wp2_with fail
  refine (M6.out _).mono ?_
  rintro e w9 ⟨rfl, hb9⟩
  have K9 : Below w1.heap.size w1 w9 := kept_call hb9 (by (repeat' (first | (with_reducible exact K8) | (with_reducible refine Below.setCell ?_ ?_ _) | (with_reducible refine Below.alloc ?_ ?_ _) | (with_reducible refine Below.drew ?_) | (with_reducible refine below_drewN ?_ _))) <;> (first | omega | (simp <;> omega)))
  have Z9 : w1.heap.size ≤ w9.heap.size := K9.size
  have b2_0' := Blk.keep (g := w1.heap.size) hb9 (by (repeat' (first | (with_reducible refine' Blk.alloc ?_ _) | (with_reducible refine' Blk.drew ?_) | (with_reducible refine' Blk.drewN ?_ _) | (with_reducible refine' Blk.put ?_ ?_) | (with_reducible refine' Blk.far ?_ ?_ _) | exact b2_0 | exact rfl)) <;> (first | omega | (simp <;> omega)))
  (try simp only [List.setIfInBounds_toArray, List.set_cons_zero, List.set_cons_succ] at b2_0')
  have b6_0' := Blk.keep (g := w5.heap.size) hb9 (by (repeat' (first | (with_reducible refine' Blk.alloc ?_ _) | (with_reducible refine' Blk.drew ?_) | (with_reducible refine' Blk.drewN ?_ _) | (with_reducible refine' Blk.put ?_ ?_) | (with_reducible refine' Blk.far ?_ ?_ _) | exact b6_0 | exact rfl)) <;> (first | omega | (simp <;> omega)))
  (try simp only [List.setIfInBounds_toArray, List.set_cons_zero, List.set_cons_succ] at b6_0')
  have b7_0' := Blk.keep (g := w6.heap.size) hb9 (by (repeat' (first | (with_reducible refine' Blk.alloc ?_ _) | (with_reducible refine' Blk.drew ?_) | (with_reducible refine' Blk.drewN ?_ _) | (with_reducible refine' Blk.put ?_ ?_) | (with_reducible refine' Blk.far ?_ ?_ _) | exact b7_0 | exact rfl)) <;> (first | omega | (simp <;> omega)))
  (try simp only [List.setIfInBounds_toArray, List.set_cons_zero, List.set_cons_succ] at b7_0')
  have b8_0' := Blk.keep (g := w7.heap.size) hb9 (by (repeat' (first | (with_reducible refine' Blk.alloc ?_ _) | (with_reducible refine' Blk.drew ?_) | (with_reducible refine' Blk.drewN ?_ _) | (with_reducible refine' Blk.put ?_ ?_) | (with_reducible refine' Blk.far ?_ ?_ _) | exact b8_0 | exact rfl)) <;> (first | omega | (simp <;> omega)))
  (try simp only [List.setIfInBounds_toArray, List.set_cons_zero, List.set_cons_succ] at b8_0')
  clear hb9 K8
  clear b2_0 c2_0 f2_0 l2_0 e2_0 k2_0; have b2_0 := b2_0'; clear b2_0'
  clear b6_0 c6_0 f6_0 l6_0 e6_0 k6_0; have b6_0 := b6_0'; clear b6_0'
  clear b7_0 c7_0 f7_0 l7_0 e7_0 k7_0; have b7_0 := b7_0'; clear b7_0'
  clear b8_0 c8_0 f8_0 l8_0 e8_0 k8_0; have b8_0 := b8_0'; clear b8_0'
  obtain ⟨c2_0, f2_0, l2_0, e2_0, k2_0⟩ := Blk.facts b2_0
  obtain ⟨c6_0, f6_0, l6_0, e6_0, k6_0⟩ := Blk.facts b6_0
  obtain ⟨c7_0, f7_0, l7_0, e7_0, k7_0⟩ := Blk.facts b7_0
  obtain ⟨c8_0, f8_0, l8_0, e8_0, k8_0⟩ := Blk.facts b8_0
  go_wp2_with fail
  refine (M7.out _).mono ?_
  rintro e w10 ⟨rfl, hb10⟩
  have K10 : Below w1.heap.size w1 w10 := kept_call hb10 (by (repeat' (first | (with_reducible exact K9) | (with_reducible refine Below.setCell ?_ ?_ _) | (with_reducible refine Below.alloc ?_ ?_ _) | (with_reducible refine Below.drew ?_) | (with_reducible refine below_drewN ?_ _))) <;> (first | omega | (simp <;> omega)))
  have Z10 : w1.heap.size ≤ w10.heap.size := K10.size
  have b2_0' := Blk.keep (g := w1.heap.size) hb10 (by (repeat' (first | (with_reducible refine' Blk.alloc ?_ _) | (with_reducible refine' Blk.drew ?_) | (with_reducible refine' Blk.drewN ?_ _) | (with_reducible refine' Blk.put ?_ ?_) | (with_reducible refine' Blk.far ?_ ?_ _) | exact b2_0 | exact rfl)) <;> (first | omega | (simp <;> omega)))
  (try simp only [List.setIfInBounds_toArray, List.set_cons_zero, List.set_cons_succ] at b2_0')
  have b6_0' := Blk.keep (g := w5.heap.size) hb10 (by (repeat' (first | (with_reducible refine' Blk.alloc ?_ _) | (with_reducible refine' Blk.drew ?_) | (with_reducible refine' Blk.drewN ?_ _) | (with_reducible refine' Blk.put ?_ ?_) | (with_reducible refine' Blk.far ?_ ?_ _) | exact b6_0 | exact rfl)) <;> (first | omega | (simp <;> omega)))
  (try simp only [List.setIfInBounds_toArray, List.set_cons_zero, List.set_cons_succ] at b6_0')
  have b7_0' := Blk.keep (g := w6.heap.size) hb10 (by (repeat' (first | (with_reducible refine' Blk.alloc ?_ _) | (with_reducible refine' Blk.drew ?_) | (with_reducible refine' Blk.drewN ?_ _) | (with_reducible refine' Blk.put ?_ ?_) | (with_reducible refine' Blk.far ?_ ?_ _) | exact b7_0 | exact rfl)) <;> (first | omega | (simp <;> omega)))
  (try simp only [List.setIfInBounds_toArray, List.set_cons_zero, List.set_cons_succ] at b7_0')
  have b8_0' := Blk.keep (g := w7.heap.size) hb10 (by (repeat' (first | (with_reducible refine' Blk.alloc ?_ _) | (with_reducible refine' Blk.drew ?_) | (with_reducible refine' Blk.drewN ?_ _) | (with_reducible refine' Blk.put ?_ ?_) | (with_reducible refine' Blk.far ?_ ?_ _) | exact b8_0 | exact rfl)) <;> (first | omega | (simp <;> omega)))
  (try simp only [List.setIfInBounds_toArray, List.set_cons_zero, List.set_cons_succ] at b8_0')
  clear hb10 K9
  clear b2_0 c2_0 f2_0 l2_0 e2_0 k2_0; have b2_0 := b2_0'; clear b2_0'
  clear b6_0 c6_0 f6_0 l6_0 e6_0 k6_0; have b6_0 := b6_0'; clear b6_0'
  clear b7_0 c7_0 f7_0 l7_0 e7_0 k7_0; have b7_0 := b7_0'; clear b7_0'
  clear b8_0 c8_0 f8_0 l8_0 e8_0 k8_0; have b8_0 := b8_0'; clear b8_0'
  obtain ⟨c2_0, f2_0, l2_0, e2_0, k2_0⟩ := Blk.facts b2_0
  obtain ⟨c6_0, f6_0, l6_0, e6_0, k6_0⟩ := Blk.facts b6_0
  obtain ⟨c7_0, f7_0, l7_0, e7_0, k7_0⟩ := Blk.facts b7_0
  obtain ⟨c8_0, f8_0, l8_0, e8_0, k8_0⟩ := Blk.facts b8_0
  go_wp2
  go_ret
  exact ⟨rfl, (kept_call (by (repeat' (first | (with_reducible exact K10) | (with_reducible refine Below.setCell ?_ ?_ _) | (with_reducible refine Below.alloc ?_ ?_ _) | (with_reducible refine Below.drew ?_) | (with_reducible refine below_drewN ?_ _))) <;> (first | omega | (simp <;> omega))) K1)⟩
theorem smsrc_walk (A : Option Addr) (len cap : Nat) (zs : List Int) {w : World} (hA : IntsAt w A len zs) (v : Int) (hv : IntIn v) (d : Int) (_ : IntIn d) (W : World) (h : W = w) :
    Walked 6 #[.slice A len cap, .int .i64 v, .int .i64 d] W := by
  subst h; exact smsrc_core A len cap zs v d hv W hA
set_option maxRecDepth 100000 in
set_option maxHeartbeats 4000000 in
theorem scales_core (A : Option Addr) (len cap : Nat) (zs : List Int) (v bf bh : Int) (hv : IntIn v) (w : World) (hA : IntsAt w A len zs) :
    Calls Try.prog 9 #[.slice A len cap, .int .i64 v, .int .i64 bf, .int .i64 bh] w (RB w (.bool true)) := by
  have H := Lib.hid hA; clear hA
  obtain ⟨D, hD⟩ : ∃ x, bf % 2251799813685246 = x := ⟨_, rfl⟩
  have bD : 0 ≤ D ∧ D < 2251799813685246 := by omega
  have RD := Lib.hid (fun W => hD ▸ wwithinW bf 2251799813685246 W (by omega) (by omega)); clear hD
  obtain ⟨E, hE⟩ : ∃ x, bh % 2251799813685246 = x := ⟨_, rfl⟩
  have bE : 0 ≤ E ∧ E < 2251799813685246 := by omega
  have RE := Lib.hid (fun W => hE ▸ wwithinW bh 2251799813685246 W (by omega) (by omega)); clear hE
  go_enter Try.func9, Try.ntmps9
  go_wp2_with fail
  refine (wleaps_any A len cap zs _ H.out).mono ?_
  rintro e w1 ⟨A1, c1, ls, rfl, hT, hP, hb1⟩
  have K1 : Below w.heap.size w w1 := kept_call hb1 (by (repeat' (first | (with_reducible exact Below.refl _ _) | (with_reducible refine Below.setCell ?_ ?_ _) | (with_reducible refine Below.alloc ?_ ?_ _) | (with_reducible refine Below.drew ?_) | (with_reducible refine below_drewN ?_ _))) <;> (first | omega | (simp <;> omega)))
  have Z1 : w.heap.size ≤ w1.heap.size := K1.size
  clear hb1
  have P := Lib.hid hP; have HT := Lib.hid hT; clear hP hT H
  go_wp2_with fail
  refine (near_any A1 ls.length c1 ls v HT.out rfl hv _ (P.out.below (by (repeat' (first | (with_reducible exact Below.refl _ _) | (with_reducible refine Below.setCell ?_ ?_ _) | (with_reducible refine Below.alloc ?_ ?_ _) | (with_reducible refine Below.drew ?_) | (with_reducible refine below_drewN ?_ _))) <;> (first | omega | (simp <;> omega))))).mono ?_
  rintro e w2 ⟨tt, rfl, t0, t1, hb2⟩
  have K2 : Below w1.heap.size w1 w2 := kept_call hb2 (by (repeat' (first | (with_reducible exact Below.refl _ _) | (with_reducible refine Below.setCell ?_ ?_ _) | (with_reducible refine Below.alloc ?_ ?_ _) | (with_reducible refine Below.drew ?_) | (with_reducible refine below_drewN ?_ _))) <;> (first | omega | (simp <;> omega)))
  have Z2 : w1.heap.size ≤ w2.heap.size := K2.size
  have b2_0 := Blk.keep (g := w1.heap.size) hb2 (by (repeat' (first | ((with_reducible refine' Blk.newE ?_); first | rfl | (simp; done)) | (with_reducible refine' Blk.alloc ?_ _) | (with_reducible refine' Blk.drew ?_) | (with_reducible refine' Blk.drewN ?_ _) | (with_reducible refine' Blk.put ?_ ?_) | (with_reducible refine' Blk.far ?_ ?_ _) | exact rfl)) <;> (first | omega | (simp <;> omega)))
  (try simp only [List.setIfInBounds_toArray, List.set_cons_zero, List.set_cons_succ] at b2_0)
  clear hb2
  obtain ⟨c2_0, f2_0, l2_0, e2_0, k2_0⟩ := Blk.facts b2_0
  have o2_0 := l2_0
  have hz := HT.out.in_
  have h := P.out
  have sm := fun x (x0 : 134217728 ≤ x) (x1 : x ≤ 288230376151711744) W (hW : Below w1.heap.size w1 W) => smV_in HT.out.1 (t := x) ⟨x0, x1⟩ ▸ smear_any 10 A1 ls.length c1 ls x W (h.below hW) hz
  have hin := ut_in HT.out t0 t1
  obtain ⟨x0, x1, hx1, hx2, hx3, hC, -, -, -, -⟩ := clear_at HT.out (t := tt) t0 (by omega)
  have m1 := fun W (hW : Below w1.heap.size w1 W) => utV_in hin ▸ utc_any 10 A1 ls.length c1 ls tt HT.out.1 (by omega) (by omega) W (h.below hW) hz
  have m2 := fun W (hW : Below w1.heap.size w1 W) => number_ok 10 A1 ls.length c1 ls HT.out.1 tt hin W (h.below hW) hz
  have m3 := sm tt (by omega) (by omega)
  have m4 := fun W (hW : Below w1.heap.size w1 W) => clear_in hC (clear_any 10 A1 ls.length c1 ls (shL 10 ls tt) W (h.below hW) hz)
  have m5 := fun (W : World) => (show tt * 4096 % 18446744073709551616 = tt * 4096 by omega) ▸ (wire_anyK tt (vT_true.2 ⟨by omega, by omega⟩) W)
  have m6 := fun (W : World) => only1 (tt - D) (tt + E) tt (by omega) (by omega) (by omega) (by omega) (by omega) (by omega) W
  have v1 : vS x0 x1 = true := vS_true.2 ⟨by omega, by omega, by omega⟩
  have v2 : vS tt tt = true := vS_true.2 ⟨by omega, by omega, by omega⟩
  have r7 := fun (W : World) => (show hdB x0 x1 tt = true by unfold hdB; rw [v1]; simp; omega) ▸ rholds_all x0 x1 tt W
  have r8 := fun (W : World) => (show hdB tt tt tt = true by unfold hdB; rw [v2]; simp) ▸ rholds_all tt tt tt W
  clear sm hC h hz hin v1 v2
  generalize shL 10 ls tt = a at *
  generalize utN 10 ls (tt / 1048576) = N at *
  generalize utB 10 ls (tt / 1048576) = B at *
  generalize tt % 1048576 = part at *
  have u0 : IntKind.i64.wrap (tt - D) = tt - D := IntWalk.i64_in _ (by omega)
  have u1 : IntKind.i64.wrap (tt + E) = tt + E := IntWalk.i64_in _ (by omega)
  have M1 := Lib.hid m1; have M2 := Lib.hid m2; have M3 := Lib.hid m3; have M4 := Lib.hid m4; have M5 := Lib.hid m5; have M6 := Lib.hid m6; have M7 := Lib.hid r7; have M8 := Lib.hid r8
  clear m1 m2 m3 m4 m5 m6 r7 r8
  obtain ⟨c2_0, f2_0, l2_0, e2_0, k2_0⟩ := Blk.facts b2_0
  go_wp2_with fail
  refine (M1.out _ (by (repeat' (first | (with_reducible exact K2) | (with_reducible refine Below.setCell ?_ ?_ _) | (with_reducible refine Below.alloc ?_ ?_ _) | (with_reducible refine Below.drew ?_) | (with_reducible refine below_drewN ?_ _))) <;> (first | omega | (simp <;> omega)))).mono ?_
  rintro e w3 ⟨rfl, hb3⟩
  have K3 : Below w1.heap.size w1 w3 := kept_call hb3 (by (repeat' (first | (with_reducible exact K2) | (with_reducible refine Below.setCell ?_ ?_ _) | (with_reducible refine Below.alloc ?_ ?_ _) | (with_reducible refine Below.drew ?_) | (with_reducible refine below_drewN ?_ _))) <;> (first | omega | (simp <;> omega)))
  have Z3 : w1.heap.size ≤ w3.heap.size := K3.size
  have b2_0' := Blk.keep (g := w1.heap.size) hb3 (by (repeat' (first | (with_reducible refine' Blk.alloc ?_ _) | (with_reducible refine' Blk.drew ?_) | (with_reducible refine' Blk.drewN ?_ _) | (with_reducible refine' Blk.put ?_ ?_) | (with_reducible refine' Blk.far ?_ ?_ _) | exact b2_0 | exact rfl)) <;> (first | omega | (simp <;> omega)))
  (try simp only [List.setIfInBounds_toArray, List.set_cons_zero, List.set_cons_succ] at b2_0')
  clear hb3 K2
  clear b2_0 c2_0 f2_0 l2_0 e2_0 k2_0; have b2_0 := b2_0'; clear b2_0'
  obtain ⟨c2_0, f2_0, l2_0, e2_0, k2_0⟩ := Blk.facts b2_0
  go_wp2_with fail
  refine (M2.out _ (by (repeat' (first | (with_reducible exact K3) | (with_reducible refine Below.setCell ?_ ?_ _) | (with_reducible refine Below.alloc ?_ ?_ _) | (with_reducible refine Below.drew ?_) | (with_reducible refine below_drewN ?_ _))) <;> (first | omega | (simp <;> omega)))).mono ?_
  rintro e w4 ⟨a0, a1, rfl, ha1, ha2, ha3, ha4, hb4⟩
  have K4 : Below w1.heap.size w1 w4 := kept_call hb4 (by (repeat' (first | (with_reducible exact K3) | (with_reducible refine Below.setCell ?_ ?_ _) | (with_reducible refine Below.alloc ?_ ?_ _) | (with_reducible refine Below.drew ?_) | (with_reducible refine below_drewN ?_ _))) <;> (first | omega | (simp <;> omega)))
  have Z4 : w1.heap.size ≤ w4.heap.size := K4.size
  have b2_0' := Blk.keep (g := w1.heap.size) hb4 (by (repeat' (first | (with_reducible refine' Blk.alloc ?_ _) | (with_reducible refine' Blk.drew ?_) | (with_reducible refine' Blk.drewN ?_ _) | (with_reducible refine' Blk.put ?_ ?_) | (with_reducible refine' Blk.far ?_ ?_ _) | exact b2_0 | exact rfl)) <;> (first | omega | (simp <;> omega)))
  (try simp only [List.setIfInBounds_toArray, List.set_cons_zero, List.set_cons_succ] at b2_0')
  have b4_0 := Blk.keep (g := w3.heap.size) hb4 (by (repeat' (first | ((with_reducible refine' Blk.newE ?_); first | rfl | (simp; done)) | (with_reducible refine' Blk.alloc ?_ _) | (with_reducible refine' Blk.drew ?_) | (with_reducible refine' Blk.drewN ?_ _) | (with_reducible refine' Blk.put ?_ ?_) | (with_reducible refine' Blk.far ?_ ?_ _) | exact rfl)) <;> (first | omega | (simp <;> omega)))
  (try simp only [List.setIfInBounds_toArray, List.set_cons_zero, List.set_cons_succ] at b4_0)
  clear hb4 K3
  clear b2_0 c2_0 f2_0 l2_0 e2_0 k2_0; have b2_0 := b2_0'; clear b2_0'
  obtain ⟨c2_0, f2_0, l2_0, e2_0, k2_0⟩ := Blk.facts b2_0
  obtain ⟨c4_0, f4_0, l4_0, e4_0, k4_0⟩ := Blk.facts b4_0
  have o4_0 := l4_0
  have va : vS a0 a1 = true := vS_true.2 ⟨by omega, by omega, by omega⟩
  have r9 := fun (W : World) => (show hdB a0 a1 tt = true by unfold hdB; rw [va]; simp; omega) ▸ rholds_all a0 a1 tt W
  have M9 := Lib.hid r9; clear r9 va
  have CM := Lib.hid (common3 ha1 ha2 hx1 hx2 ha3 ha4 (by omega) (by omega))
  go_wp2_with fail
  refine (M3.out _ (by (repeat' (first | (with_reducible exact K4) | (with_reducible refine Below.setCell ?_ ?_ _) | (with_reducible refine Below.alloc ?_ ?_ _) | (with_reducible refine Below.drew ?_) | (with_reducible refine below_drewN ?_ _))) <;> (first | omega | (simp <;> omega)))).mono ?_
  rintro e w5 ⟨rfl, hb5⟩
  have K5 : Below w1.heap.size w1 w5 := kept_call hb5 (by (repeat' (first | (with_reducible exact K4) | (with_reducible refine Below.setCell ?_ ?_ _) | (with_reducible refine Below.alloc ?_ ?_ _) | (with_reducible refine Below.drew ?_) | (with_reducible refine below_drewN ?_ _))) <;> (first | omega | (simp <;> omega)))
  have Z5 : w1.heap.size ≤ w5.heap.size := K5.size
  have b2_0' := Blk.keep (g := w1.heap.size) hb5 (by (repeat' (first | (with_reducible refine' Blk.alloc ?_ _) | (with_reducible refine' Blk.drew ?_) | (with_reducible refine' Blk.drewN ?_ _) | (with_reducible refine' Blk.put ?_ ?_) | (with_reducible refine' Blk.far ?_ ?_ _) | exact b2_0 | exact rfl)) <;> (first | omega | (simp <;> omega)))
  (try simp only [List.setIfInBounds_toArray, List.set_cons_zero, List.set_cons_succ] at b2_0')
  have b4_0' := Blk.keep (g := w3.heap.size) hb5 (by (repeat' (first | (with_reducible refine' Blk.alloc ?_ _) | (with_reducible refine' Blk.drew ?_) | (with_reducible refine' Blk.drewN ?_ _) | (with_reducible refine' Blk.put ?_ ?_) | (with_reducible refine' Blk.far ?_ ?_ _) | exact b4_0 | exact rfl)) <;> (first | omega | (simp <;> omega)))
  (try simp only [List.setIfInBounds_toArray, List.set_cons_zero, List.set_cons_succ] at b4_0')
  have b5_0 := Blk.keep (g := w4.heap.size) hb5 (by (repeat' (first | ((with_reducible refine' Blk.newE ?_); first | rfl | (simp; done)) | (with_reducible refine' Blk.alloc ?_ _) | (with_reducible refine' Blk.drew ?_) | (with_reducible refine' Blk.drewN ?_ _) | (with_reducible refine' Blk.put ?_ ?_) | (with_reducible refine' Blk.far ?_ ?_ _) | exact rfl)) <;> (first | omega | (simp <;> omega)))
  (try simp only [List.setIfInBounds_toArray, List.set_cons_zero, List.set_cons_succ] at b5_0)
  clear hb5 K4
  clear b2_0 c2_0 f2_0 l2_0 e2_0 k2_0; have b2_0 := b2_0'; clear b2_0'
  clear b4_0 c4_0 f4_0 l4_0 e4_0 k4_0; have b4_0 := b4_0'; clear b4_0'
  obtain ⟨c2_0, f2_0, l2_0, e2_0, k2_0⟩ := Blk.facts b2_0
  obtain ⟨c4_0, f4_0, l4_0, e4_0, k4_0⟩ := Blk.facts b4_0
  obtain ⟨c5_0, f5_0, l5_0, e5_0, k5_0⟩ := Blk.facts b5_0
  have o5_0 := l5_0
  go_wp2_with fail
  refine (M4.out _ (by (repeat' (first | (with_reducible exact K5) | (with_reducible refine Below.setCell ?_ ?_ _) | (with_reducible refine Below.alloc ?_ ?_ _) | (with_reducible refine Below.drew ?_) | (with_reducible refine below_drewN ?_ _))) <;> (first | omega | (simp <;> omega)))).mono ?_
  rintro e w6 ⟨rfl, hb6⟩
  have K6 : Below w1.heap.size w1 w6 := kept_call hb6 (by (repeat' (first | (with_reducible exact K5) | (with_reducible refine Below.setCell ?_ ?_ _) | (with_reducible refine Below.alloc ?_ ?_ _) | (with_reducible refine Below.drew ?_) | (with_reducible refine below_drewN ?_ _))) <;> (first | omega | (simp <;> omega)))
  have Z6 : w1.heap.size ≤ w6.heap.size := K6.size
  have b2_0' := Blk.keep (g := w1.heap.size) hb6 (by (repeat' (first | (with_reducible refine' Blk.alloc ?_ _) | (with_reducible refine' Blk.drew ?_) | (with_reducible refine' Blk.drewN ?_ _) | (with_reducible refine' Blk.put ?_ ?_) | (with_reducible refine' Blk.far ?_ ?_ _) | exact b2_0 | exact rfl)) <;> (first | omega | (simp <;> omega)))
  (try simp only [List.setIfInBounds_toArray, List.set_cons_zero, List.set_cons_succ] at b2_0')
  have b4_0' := Blk.keep (g := w3.heap.size) hb6 (by (repeat' (first | (with_reducible refine' Blk.alloc ?_ _) | (with_reducible refine' Blk.drew ?_) | (with_reducible refine' Blk.drewN ?_ _) | (with_reducible refine' Blk.put ?_ ?_) | (with_reducible refine' Blk.far ?_ ?_ _) | exact b4_0 | exact rfl)) <;> (first | omega | (simp <;> omega)))
  (try simp only [List.setIfInBounds_toArray, List.set_cons_zero, List.set_cons_succ] at b4_0')
  have b5_0' := Blk.keep (g := w4.heap.size) hb6 (by (repeat' (first | (with_reducible refine' Blk.alloc ?_ _) | (with_reducible refine' Blk.drew ?_) | (with_reducible refine' Blk.drewN ?_ _) | (with_reducible refine' Blk.put ?_ ?_) | (with_reducible refine' Blk.far ?_ ?_ _) | exact b5_0 | exact rfl)) <;> (first | omega | (simp <;> omega)))
  (try simp only [List.setIfInBounds_toArray, List.set_cons_zero, List.set_cons_succ] at b5_0')
  clear hb6 K5
  clear b2_0 c2_0 f2_0 l2_0 e2_0 k2_0; have b2_0 := b2_0'; clear b2_0'
  clear b4_0 c4_0 f4_0 l4_0 e4_0 k4_0; have b4_0 := b4_0'; clear b4_0'
  clear b5_0 c5_0 f5_0 l5_0 e5_0 k5_0; have b5_0 := b5_0'; clear b5_0'
  obtain ⟨c2_0, f2_0, l2_0, e2_0, k2_0⟩ := Blk.facts b2_0
  obtain ⟨c4_0, f4_0, l4_0, e4_0, k4_0⟩ := Blk.facts b4_0
  obtain ⟨c5_0, f5_0, l5_0, e5_0, k5_0⟩ := Blk.facts b5_0
  go_wp2_with fail
  refine (M5.out _).mono ?_
  rintro e wz ⟨rfl, rfl⟩
  go_wp2_with fail
  refine (RD.out _).mono ?_
  rintro e wz ⟨rfl, rfl⟩
  go_wp2_with fail
  refine (RE.out _).mono ?_
  rintro e wz ⟨rfl, rfl⟩
  go_wp2_with fail
  refine (M6.out _).mono ?_
  rintro e w7 ⟨rfl, hb7⟩
  have K7 : Below w1.heap.size w1 w7 := kept_call hb7 (by (repeat' (first | (with_reducible exact K6) | (with_reducible refine Below.setCell ?_ ?_ _) | (with_reducible refine Below.alloc ?_ ?_ _) | (with_reducible refine Below.drew ?_) | (with_reducible refine below_drewN ?_ _))) <;> (first | omega | (simp <;> omega)))
  have Z7 : w1.heap.size ≤ w7.heap.size := K7.size
  have b2_0' := Blk.keep (g := w1.heap.size) hb7 (by (repeat' (first | (with_reducible refine' Blk.alloc ?_ _) | (with_reducible refine' Blk.drew ?_) | (with_reducible refine' Blk.drewN ?_ _) | (with_reducible refine' Blk.put ?_ ?_) | (with_reducible refine' Blk.far ?_ ?_ _) | exact b2_0 | exact rfl)) <;> (first | omega | (simp <;> omega)))
  (try simp only [List.setIfInBounds_toArray, List.set_cons_zero, List.set_cons_succ] at b2_0')
  have b4_0' := Blk.keep (g := w3.heap.size) hb7 (by (repeat' (first | (with_reducible refine' Blk.alloc ?_ _) | (with_reducible refine' Blk.drew ?_) | (with_reducible refine' Blk.drewN ?_ _) | (with_reducible refine' Blk.put ?_ ?_) | (with_reducible refine' Blk.far ?_ ?_ _) | exact b4_0 | exact rfl)) <;> (first | omega | (simp <;> omega)))
  (try simp only [List.setIfInBounds_toArray, List.set_cons_zero, List.set_cons_succ] at b4_0')
  have b5_0' := Blk.keep (g := w4.heap.size) hb7 (by (repeat' (first | (with_reducible refine' Blk.alloc ?_ _) | (with_reducible refine' Blk.drew ?_) | (with_reducible refine' Blk.drewN ?_ _) | (with_reducible refine' Blk.put ?_ ?_) | (with_reducible refine' Blk.far ?_ ?_ _) | exact b5_0 | exact rfl)) <;> (first | omega | (simp <;> omega)))
  (try simp only [List.setIfInBounds_toArray, List.set_cons_zero, List.set_cons_succ] at b5_0')
  have b7_0 := Blk.keep (g := w6.heap.size) hb7 (by (repeat' (first | ((with_reducible refine' Blk.newE ?_); first | rfl | (simp; done)) | (with_reducible refine' Blk.alloc ?_ _) | (with_reducible refine' Blk.drew ?_) | (with_reducible refine' Blk.drewN ?_ _) | (with_reducible refine' Blk.put ?_ ?_) | (with_reducible refine' Blk.far ?_ ?_ _) | exact rfl)) <;> (first | omega | (simp <;> omega)))
  (try simp only [List.setIfInBounds_toArray, List.set_cons_zero, List.set_cons_succ] at b7_0)
  clear hb7 K6
  clear b2_0 c2_0 f2_0 l2_0 e2_0 k2_0; have b2_0 := b2_0'; clear b2_0'
  clear b4_0 c4_0 f4_0 l4_0 e4_0 k4_0; have b4_0 := b4_0'; clear b4_0'
  clear b5_0 c5_0 f5_0 l5_0 e5_0 k5_0; have b5_0 := b5_0'; clear b5_0'
  obtain ⟨c2_0, f2_0, l2_0, e2_0, k2_0⟩ := Blk.facts b2_0
  obtain ⟨c4_0, f4_0, l4_0, e4_0, k4_0⟩ := Blk.facts b4_0
  obtain ⟨c5_0, f5_0, l5_0, e5_0, k5_0⟩ := Blk.facts b5_0
  obtain ⟨c7_0, f7_0, l7_0, e7_0, k7_0⟩ := Blk.facts b7_0
  have o7_0 := l7_0
  go_wp2_with fail
  refine (CM.out ▸ common_any (some ⟨w7.heap.size + 1, 0, none⟩) 3 3 [(a0, a1), (x0, x1), (tt, tt)] _ (spans3 (by (repeat' (first | ((with_reducible refine' Blk.newE ?_); first | rfl | (simp; done)) | (with_reducible refine' Blk.alloc ?_ _) | (with_reducible refine' Blk.drew ?_) | (with_reducible refine' Blk.drewN ?_ _) | (with_reducible refine' Blk.put ?_ ?_) | (with_reducible refine' Blk.far ?_ ?_ _) | exact rfl)) <;> (first | omega | (simp <;> omega))))).mono ?_
  rintro e w8 ⟨rfl, hb8⟩
  have K8 : Below w1.heap.size w1 w8 := kept_call hb8 (by (repeat' (first | (with_reducible exact K7) | (with_reducible refine Below.setCell ?_ ?_ _) | (with_reducible refine Below.alloc ?_ ?_ _) | (with_reducible refine Below.drew ?_) | (with_reducible refine below_drewN ?_ _))) <;> (first | omega | (simp <;> omega)))
  have Z8 : w1.heap.size ≤ w8.heap.size := K8.size
  have b2_0' := Blk.keep (g := w1.heap.size) hb8 (by (repeat' (first | (with_reducible refine' Blk.alloc ?_ _) | (with_reducible refine' Blk.drew ?_) | (with_reducible refine' Blk.drewN ?_ _) | (with_reducible refine' Blk.put ?_ ?_) | (with_reducible refine' Blk.far ?_ ?_ _) | exact b2_0 | exact rfl)) <;> (first | omega | (simp <;> omega)))
  (try simp only [List.setIfInBounds_toArray, List.set_cons_zero, List.set_cons_succ] at b2_0')
  have b4_0' := Blk.keep (g := w3.heap.size) hb8 (by (repeat' (first | (with_reducible refine' Blk.alloc ?_ _) | (with_reducible refine' Blk.drew ?_) | (with_reducible refine' Blk.drewN ?_ _) | (with_reducible refine' Blk.put ?_ ?_) | (with_reducible refine' Blk.far ?_ ?_ _) | exact b4_0 | exact rfl)) <;> (first | omega | (simp <;> omega)))
  (try simp only [List.setIfInBounds_toArray, List.set_cons_zero, List.set_cons_succ] at b4_0')
  have b5_0' := Blk.keep (g := w4.heap.size) hb8 (by (repeat' (first | (with_reducible refine' Blk.alloc ?_ _) | (with_reducible refine' Blk.drew ?_) | (with_reducible refine' Blk.drewN ?_ _) | (with_reducible refine' Blk.put ?_ ?_) | (with_reducible refine' Blk.far ?_ ?_ _) | exact b5_0 | exact rfl)) <;> (first | omega | (simp <;> omega)))
  (try simp only [List.setIfInBounds_toArray, List.set_cons_zero, List.set_cons_succ] at b5_0')
  have b7_0' := Blk.keep (g := w6.heap.size) hb8 (by (repeat' (first | (with_reducible refine' Blk.alloc ?_ _) | (with_reducible refine' Blk.drew ?_) | (with_reducible refine' Blk.drewN ?_ _) | (with_reducible refine' Blk.put ?_ ?_) | (with_reducible refine' Blk.far ?_ ?_ _) | exact b7_0 | exact rfl)) <;> (first | omega | (simp <;> omega)))
  (try simp only [List.setIfInBounds_toArray, List.set_cons_zero, List.set_cons_succ] at b7_0')
  have b8_0 := Blk.keep (g := w7.heap.size) hb8 (by (repeat' (first | ((with_reducible refine' Blk.newE ?_); first | rfl | (simp; done)) | (with_reducible refine' Blk.alloc ?_ _) | (with_reducible refine' Blk.drew ?_) | (with_reducible refine' Blk.drewN ?_ _) | (with_reducible refine' Blk.put ?_ ?_) | (with_reducible refine' Blk.far ?_ ?_ _) | exact rfl)) <;> (first | omega | (simp <;> omega)))
  (try simp only [List.setIfInBounds_toArray, List.set_cons_zero, List.set_cons_succ] at b8_0)
  have b8_1 := Blk.keep (g := w7.heap.size + 1) hb8 (by (repeat' (first | ((with_reducible refine' Blk.newE ?_); first | rfl | (simp; done)) | (with_reducible refine' Blk.alloc ?_ _) | (with_reducible refine' Blk.drew ?_) | (with_reducible refine' Blk.drewN ?_ _) | (with_reducible refine' Blk.put ?_ ?_) | (with_reducible refine' Blk.far ?_ ?_ _) | exact rfl)) <;> (first | omega | (simp <;> omega)))
  (try simp only [List.setIfInBounds_toArray, List.set_cons_zero, List.set_cons_succ] at b8_1)
  clear hb8 K7
  clear b2_0 c2_0 f2_0 l2_0 e2_0 k2_0; have b2_0 := b2_0'; clear b2_0'
  clear b4_0 c4_0 f4_0 l4_0 e4_0 k4_0; have b4_0 := b4_0'; clear b4_0'
  clear b5_0 c5_0 f5_0 l5_0 e5_0 k5_0; have b5_0 := b5_0'; clear b5_0'
  clear b7_0 c7_0 f7_0 l7_0 e7_0 k7_0; have b7_0 := b7_0'; clear b7_0'
  obtain ⟨c2_0, f2_0, l2_0, e2_0, k2_0⟩ := Blk.facts b2_0
  obtain ⟨c4_0, f4_0, l4_0, e4_0, k4_0⟩ := Blk.facts b4_0
  obtain ⟨c5_0, f5_0, l5_0, e5_0, k5_0⟩ := Blk.facts b5_0
  obtain ⟨c7_0, f7_0, l7_0, e7_0, k7_0⟩ := Blk.facts b7_0
  obtain ⟨c8_0, f8_0, l8_0, e8_0, k8_0⟩ := Blk.facts b8_0
  obtain ⟨c8_1, f8_1, l8_1, e8_1, k8_1⟩ := Blk.facts b8_1
  have o8_0 := l8_0
  have o8_1 := l8_1
  go_wp2_with fail
  refine (roused_any _).mono ?_
  rintro e w9 ⟨rfl, hb9⟩
  have K9 : Below w1.heap.size w1 w9 := kept_call hb9 (by (repeat' (first | (with_reducible exact K8) | (with_reducible refine Below.setCell ?_ ?_ _) | (with_reducible refine Below.alloc ?_ ?_ _) | (with_reducible refine Below.drew ?_) | (with_reducible refine below_drewN ?_ _))) <;> (first | omega | (simp <;> omega)))
  have Z9 : w1.heap.size ≤ w9.heap.size := K9.size
  have b2_0' := Blk.keep (g := w1.heap.size) hb9 (by (repeat' (first | (with_reducible refine' Blk.alloc ?_ _) | (with_reducible refine' Blk.drew ?_) | (with_reducible refine' Blk.drewN ?_ _) | (with_reducible refine' Blk.put ?_ ?_) | (with_reducible refine' Blk.far ?_ ?_ _) | exact b2_0 | exact rfl)) <;> (first | omega | (simp <;> omega)))
  (try simp only [List.setIfInBounds_toArray, List.set_cons_zero, List.set_cons_succ] at b2_0')
  have b4_0' := Blk.keep (g := w3.heap.size) hb9 (by (repeat' (first | (with_reducible refine' Blk.alloc ?_ _) | (with_reducible refine' Blk.drew ?_) | (with_reducible refine' Blk.drewN ?_ _) | (with_reducible refine' Blk.put ?_ ?_) | (with_reducible refine' Blk.far ?_ ?_ _) | exact b4_0 | exact rfl)) <;> (first | omega | (simp <;> omega)))
  (try simp only [List.setIfInBounds_toArray, List.set_cons_zero, List.set_cons_succ] at b4_0')
  have b5_0' := Blk.keep (g := w4.heap.size) hb9 (by (repeat' (first | (with_reducible refine' Blk.alloc ?_ _) | (with_reducible refine' Blk.drew ?_) | (with_reducible refine' Blk.drewN ?_ _) | (with_reducible refine' Blk.put ?_ ?_) | (with_reducible refine' Blk.far ?_ ?_ _) | exact b5_0 | exact rfl)) <;> (first | omega | (simp <;> omega)))
  (try simp only [List.setIfInBounds_toArray, List.set_cons_zero, List.set_cons_succ] at b5_0')
  have b7_0' := Blk.keep (g := w6.heap.size) hb9 (by (repeat' (first | (with_reducible refine' Blk.alloc ?_ _) | (with_reducible refine' Blk.drew ?_) | (with_reducible refine' Blk.drewN ?_ _) | (with_reducible refine' Blk.put ?_ ?_) | (with_reducible refine' Blk.far ?_ ?_ _) | exact b7_0 | exact rfl)) <;> (first | omega | (simp <;> omega)))
  (try simp only [List.setIfInBounds_toArray, List.set_cons_zero, List.set_cons_succ] at b7_0')
  have b8_0' := Blk.keep (g := w7.heap.size) hb9 (by (repeat' (first | (with_reducible refine' Blk.alloc ?_ _) | (with_reducible refine' Blk.drew ?_) | (with_reducible refine' Blk.drewN ?_ _) | (with_reducible refine' Blk.put ?_ ?_) | (with_reducible refine' Blk.far ?_ ?_ _) | exact b8_0 | exact rfl)) <;> (first | omega | (simp <;> omega)))
  (try simp only [List.setIfInBounds_toArray, List.set_cons_zero, List.set_cons_succ] at b8_0')
  have b8_1' := Blk.keep (g := w7.heap.size + 1) hb9 (by (repeat' (first | (with_reducible refine' Blk.alloc ?_ _) | (with_reducible refine' Blk.drew ?_) | (with_reducible refine' Blk.drewN ?_ _) | (with_reducible refine' Blk.put ?_ ?_) | (with_reducible refine' Blk.far ?_ ?_ _) | exact b8_1 | exact rfl)) <;> (first | omega | (simp <;> omega)))
  (try simp only [List.setIfInBounds_toArray, List.set_cons_zero, List.set_cons_succ] at b8_1')
  have b9_0 := Blk.keep (g := w8.heap.size) hb9 (by (repeat' (first | ((with_reducible refine' Blk.newE ?_); first | rfl | (simp; done)) | (with_reducible refine' Blk.alloc ?_ _) | (with_reducible refine' Blk.drew ?_) | (with_reducible refine' Blk.drewN ?_ _) | (with_reducible refine' Blk.put ?_ ?_) | (with_reducible refine' Blk.far ?_ ?_ _) | exact rfl)) <;> (first | omega | (simp <;> omega)))
  (try simp only [List.setIfInBounds_toArray, List.set_cons_zero, List.set_cons_succ] at b9_0)
  clear hb9 K8
  clear b2_0 c2_0 f2_0 l2_0 e2_0 k2_0; have b2_0 := b2_0'; clear b2_0'
  clear b4_0 c4_0 f4_0 l4_0 e4_0 k4_0; have b4_0 := b4_0'; clear b4_0'
  clear b5_0 c5_0 f5_0 l5_0 e5_0 k5_0; have b5_0 := b5_0'; clear b5_0'
  clear b7_0 c7_0 f7_0 l7_0 e7_0 k7_0; have b7_0 := b7_0'; clear b7_0'
  clear b8_0 c8_0 f8_0 l8_0 e8_0 k8_0; have b8_0 := b8_0'; clear b8_0'
  clear b8_1 c8_1 f8_1 l8_1 e8_1 k8_1; have b8_1 := b8_1'; clear b8_1'
  obtain ⟨c2_0, f2_0, l2_0, e2_0, k2_0⟩ := Blk.facts b2_0
  obtain ⟨c4_0, f4_0, l4_0, e4_0, k4_0⟩ := Blk.facts b4_0
  obtain ⟨c5_0, f5_0, l5_0, e5_0, k5_0⟩ := Blk.facts b5_0
  obtain ⟨c7_0, f7_0, l7_0, e7_0, k7_0⟩ := Blk.facts b7_0
  obtain ⟨c8_0, f8_0, l8_0, e8_0, k8_0⟩ := Blk.facts b8_0
  obtain ⟨c8_1, f8_1, l8_1, e8_1, k8_1⟩ := Blk.facts b8_1
  obtain ⟨c9_0, f9_0, l9_0, e9_0, k9_0⟩ := Blk.facts b9_0
  have o9_0 := l9_0
  go_wp2_with fail
  refine (M9.out _).mono ?_
  rintro e w10 ⟨rfl, hb10⟩
  have K10 : Below w1.heap.size w1 w10 := kept_call hb10 (by (repeat' (first | (with_reducible exact K9) | (with_reducible refine Below.setCell ?_ ?_ _) | (with_reducible refine Below.alloc ?_ ?_ _) | (with_reducible refine Below.drew ?_) | (with_reducible refine below_drewN ?_ _))) <;> (first | omega | (simp <;> omega)))
  have Z10 : w1.heap.size ≤ w10.heap.size := K10.size
  have b2_0' := Blk.keep (g := w1.heap.size) hb10 (by (repeat' (first | (with_reducible refine' Blk.alloc ?_ _) | (with_reducible refine' Blk.drew ?_) | (with_reducible refine' Blk.drewN ?_ _) | (with_reducible refine' Blk.put ?_ ?_) | (with_reducible refine' Blk.far ?_ ?_ _) | exact b2_0 | exact rfl)) <;> (first | omega | (simp <;> omega)))
  (try simp only [List.setIfInBounds_toArray, List.set_cons_zero, List.set_cons_succ] at b2_0')
  have b4_0' := Blk.keep (g := w3.heap.size) hb10 (by (repeat' (first | (with_reducible refine' Blk.alloc ?_ _) | (with_reducible refine' Blk.drew ?_) | (with_reducible refine' Blk.drewN ?_ _) | (with_reducible refine' Blk.put ?_ ?_) | (with_reducible refine' Blk.far ?_ ?_ _) | exact b4_0 | exact rfl)) <;> (first | omega | (simp <;> omega)))
  (try simp only [List.setIfInBounds_toArray, List.set_cons_zero, List.set_cons_succ] at b4_0')
  have b5_0' := Blk.keep (g := w4.heap.size) hb10 (by (repeat' (first | (with_reducible refine' Blk.alloc ?_ _) | (with_reducible refine' Blk.drew ?_) | (with_reducible refine' Blk.drewN ?_ _) | (with_reducible refine' Blk.put ?_ ?_) | (with_reducible refine' Blk.far ?_ ?_ _) | exact b5_0 | exact rfl)) <;> (first | omega | (simp <;> omega)))
  (try simp only [List.setIfInBounds_toArray, List.set_cons_zero, List.set_cons_succ] at b5_0')
  have b7_0' := Blk.keep (g := w6.heap.size) hb10 (by (repeat' (first | (with_reducible refine' Blk.alloc ?_ _) | (with_reducible refine' Blk.drew ?_) | (with_reducible refine' Blk.drewN ?_ _) | (with_reducible refine' Blk.put ?_ ?_) | (with_reducible refine' Blk.far ?_ ?_ _) | exact b7_0 | exact rfl)) <;> (first | omega | (simp <;> omega)))
  (try simp only [List.setIfInBounds_toArray, List.set_cons_zero, List.set_cons_succ] at b7_0')
  have b8_0' := Blk.keep (g := w7.heap.size) hb10 (by (repeat' (first | (with_reducible refine' Blk.alloc ?_ _) | (with_reducible refine' Blk.drew ?_) | (with_reducible refine' Blk.drewN ?_ _) | (with_reducible refine' Blk.put ?_ ?_) | (with_reducible refine' Blk.far ?_ ?_ _) | exact b8_0 | exact rfl)) <;> (first | omega | (simp <;> omega)))
  (try simp only [List.setIfInBounds_toArray, List.set_cons_zero, List.set_cons_succ] at b8_0')
  have b8_1' := Blk.keep (g := w7.heap.size + 1) hb10 (by (repeat' (first | (with_reducible refine' Blk.alloc ?_ _) | (with_reducible refine' Blk.drew ?_) | (with_reducible refine' Blk.drewN ?_ _) | (with_reducible refine' Blk.put ?_ ?_) | (with_reducible refine' Blk.far ?_ ?_ _) | exact b8_1 | exact rfl)) <;> (first | omega | (simp <;> omega)))
  (try simp only [List.setIfInBounds_toArray, List.set_cons_zero, List.set_cons_succ] at b8_1')
  have b9_0' := Blk.keep (g := w8.heap.size) hb10 (by (repeat' (first | (with_reducible refine' Blk.alloc ?_ _) | (with_reducible refine' Blk.drew ?_) | (with_reducible refine' Blk.drewN ?_ _) | (with_reducible refine' Blk.put ?_ ?_) | (with_reducible refine' Blk.far ?_ ?_ _) | exact b9_0 | exact rfl)) <;> (first | omega | (simp <;> omega)))
  (try simp only [List.setIfInBounds_toArray, List.set_cons_zero, List.set_cons_succ] at b9_0')
  clear hb10 K9
  clear b2_0 c2_0 f2_0 l2_0 e2_0 k2_0; have b2_0 := b2_0'; clear b2_0'
  clear b4_0 c4_0 f4_0 l4_0 e4_0 k4_0; have b4_0 := b4_0'; clear b4_0'
  clear b5_0 c5_0 f5_0 l5_0 e5_0 k5_0; have b5_0 := b5_0'; clear b5_0'
  clear b7_0 c7_0 f7_0 l7_0 e7_0 k7_0; have b7_0 := b7_0'; clear b7_0'
  clear b8_0 c8_0 f8_0 l8_0 e8_0 k8_0; have b8_0 := b8_0'; clear b8_0'
  clear b8_1 c8_1 f8_1 l8_1 e8_1 k8_1; have b8_1 := b8_1'; clear b8_1'
  clear b9_0 c9_0 f9_0 l9_0 e9_0 k9_0; have b9_0 := b9_0'; clear b9_0'
  obtain ⟨c2_0, f2_0, l2_0, e2_0, k2_0⟩ := Blk.facts b2_0
  obtain ⟨c4_0, f4_0, l4_0, e4_0, k4_0⟩ := Blk.facts b4_0
  obtain ⟨c5_0, f5_0, l5_0, e5_0, k5_0⟩ := Blk.facts b5_0
  obtain ⟨c7_0, f7_0, l7_0, e7_0, k7_0⟩ := Blk.facts b7_0
  obtain ⟨c8_0, f8_0, l8_0, e8_0, k8_0⟩ := Blk.facts b8_0
  obtain ⟨c8_1, f8_1, l8_1, e8_1, k8_1⟩ := Blk.facts b8_1
  obtain ⟨c9_0, f9_0, l9_0, e9_0, k9_0⟩ := Blk.facts b9_0
  go_wp2_with fail
  refine (M7.out _).mono ?_
  rintro e w11 ⟨rfl, hb11⟩
  have K11 : Below w1.heap.size w1 w11 := kept_call hb11 (by (repeat' (first | (with_reducible exact K10) | (with_reducible refine Below.setCell ?_ ?_ _) | (with_reducible refine Below.alloc ?_ ?_ _) | (with_reducible refine Below.drew ?_) | (with_reducible refine below_drewN ?_ _))) <;> (first | omega | (simp <;> omega)))
  have Z11 : w1.heap.size ≤ w11.heap.size := K11.size
  have b2_0' := Blk.keep (g := w1.heap.size) hb11 (by (repeat' (first | (with_reducible refine' Blk.alloc ?_ _) | (with_reducible refine' Blk.drew ?_) | (with_reducible refine' Blk.drewN ?_ _) | (with_reducible refine' Blk.put ?_ ?_) | (with_reducible refine' Blk.far ?_ ?_ _) | exact b2_0 | exact rfl)) <;> (first | omega | (simp <;> omega)))
  (try simp only [List.setIfInBounds_toArray, List.set_cons_zero, List.set_cons_succ] at b2_0')
  have b4_0' := Blk.keep (g := w3.heap.size) hb11 (by (repeat' (first | (with_reducible refine' Blk.alloc ?_ _) | (with_reducible refine' Blk.drew ?_) | (with_reducible refine' Blk.drewN ?_ _) | (with_reducible refine' Blk.put ?_ ?_) | (with_reducible refine' Blk.far ?_ ?_ _) | exact b4_0 | exact rfl)) <;> (first | omega | (simp <;> omega)))
  (try simp only [List.setIfInBounds_toArray, List.set_cons_zero, List.set_cons_succ] at b4_0')
  have b5_0' := Blk.keep (g := w4.heap.size) hb11 (by (repeat' (first | (with_reducible refine' Blk.alloc ?_ _) | (with_reducible refine' Blk.drew ?_) | (with_reducible refine' Blk.drewN ?_ _) | (with_reducible refine' Blk.put ?_ ?_) | (with_reducible refine' Blk.far ?_ ?_ _) | exact b5_0 | exact rfl)) <;> (first | omega | (simp <;> omega)))
  (try simp only [List.setIfInBounds_toArray, List.set_cons_zero, List.set_cons_succ] at b5_0')
  have b7_0' := Blk.keep (g := w6.heap.size) hb11 (by (repeat' (first | (with_reducible refine' Blk.alloc ?_ _) | (with_reducible refine' Blk.drew ?_) | (with_reducible refine' Blk.drewN ?_ _) | (with_reducible refine' Blk.put ?_ ?_) | (with_reducible refine' Blk.far ?_ ?_ _) | exact b7_0 | exact rfl)) <;> (first | omega | (simp <;> omega)))
  (try simp only [List.setIfInBounds_toArray, List.set_cons_zero, List.set_cons_succ] at b7_0')
  have b8_0' := Blk.keep (g := w7.heap.size) hb11 (by (repeat' (first | (with_reducible refine' Blk.alloc ?_ _) | (with_reducible refine' Blk.drew ?_) | (with_reducible refine' Blk.drewN ?_ _) | (with_reducible refine' Blk.put ?_ ?_) | (with_reducible refine' Blk.far ?_ ?_ _) | exact b8_0 | exact rfl)) <;> (first | omega | (simp <;> omega)))
  (try simp only [List.setIfInBounds_toArray, List.set_cons_zero, List.set_cons_succ] at b8_0')
  have b8_1' := Blk.keep (g := w7.heap.size + 1) hb11 (by (repeat' (first | (with_reducible refine' Blk.alloc ?_ _) | (with_reducible refine' Blk.drew ?_) | (with_reducible refine' Blk.drewN ?_ _) | (with_reducible refine' Blk.put ?_ ?_) | (with_reducible refine' Blk.far ?_ ?_ _) | exact b8_1 | exact rfl)) <;> (first | omega | (simp <;> omega)))
  (try simp only [List.setIfInBounds_toArray, List.set_cons_zero, List.set_cons_succ] at b8_1')
  have b9_0' := Blk.keep (g := w8.heap.size) hb11 (by (repeat' (first | (with_reducible refine' Blk.alloc ?_ _) | (with_reducible refine' Blk.drew ?_) | (with_reducible refine' Blk.drewN ?_ _) | (with_reducible refine' Blk.put ?_ ?_) | (with_reducible refine' Blk.far ?_ ?_ _) | exact b9_0 | exact rfl)) <;> (first | omega | (simp <;> omega)))
  (try simp only [List.setIfInBounds_toArray, List.set_cons_zero, List.set_cons_succ] at b9_0')
  clear hb11 K10
  clear b2_0 c2_0 f2_0 l2_0 e2_0 k2_0; have b2_0 := b2_0'; clear b2_0'
  clear b4_0 c4_0 f4_0 l4_0 e4_0 k4_0; have b4_0 := b4_0'; clear b4_0'
  clear b5_0 c5_0 f5_0 l5_0 e5_0 k5_0; have b5_0 := b5_0'; clear b5_0'
  clear b7_0 c7_0 f7_0 l7_0 e7_0 k7_0; have b7_0 := b7_0'; clear b7_0'
  clear b8_0 c8_0 f8_0 l8_0 e8_0 k8_0; have b8_0 := b8_0'; clear b8_0'
  clear b8_1 c8_1 f8_1 l8_1 e8_1 k8_1; have b8_1 := b8_1'; clear b8_1'
  clear b9_0 c9_0 f9_0 l9_0 e9_0 k9_0; have b9_0 := b9_0'; clear b9_0'
  obtain ⟨c2_0, f2_0, l2_0, e2_0, k2_0⟩ := Blk.facts b2_0
  obtain ⟨c4_0, f4_0, l4_0, e4_0, k4_0⟩ := Blk.facts b4_0
  obtain ⟨c5_0, f5_0, l5_0, e5_0, k5_0⟩ := Blk.facts b5_0
  obtain ⟨c7_0, f7_0, l7_0, e7_0, k7_0⟩ := Blk.facts b7_0
  obtain ⟨c8_0, f8_0, l8_0, e8_0, k8_0⟩ := Blk.facts b8_0
  obtain ⟨c8_1, f8_1, l8_1, e8_1, k8_1⟩ := Blk.facts b8_1
  obtain ⟨c9_0, f9_0, l9_0, e9_0, k9_0⟩ := Blk.facts b9_0
  go_wp2_with fail
  refine (M8.out _).mono ?_
  rintro e w12 ⟨rfl, hb12⟩
  have K12 : Below w1.heap.size w1 w12 := kept_call hb12 (by (repeat' (first | (with_reducible exact K11) | (with_reducible refine Below.setCell ?_ ?_ _) | (with_reducible refine Below.alloc ?_ ?_ _) | (with_reducible refine Below.drew ?_) | (with_reducible refine below_drewN ?_ _))) <;> (first | omega | (simp <;> omega)))
  have Z12 : w1.heap.size ≤ w12.heap.size := K12.size
  have b2_0' := Blk.keep (g := w1.heap.size) hb12 (by (repeat' (first | (with_reducible refine' Blk.alloc ?_ _) | (with_reducible refine' Blk.drew ?_) | (with_reducible refine' Blk.drewN ?_ _) | (with_reducible refine' Blk.put ?_ ?_) | (with_reducible refine' Blk.far ?_ ?_ _) | exact b2_0 | exact rfl)) <;> (first | omega | (simp <;> omega)))
  (try simp only [List.setIfInBounds_toArray, List.set_cons_zero, List.set_cons_succ] at b2_0')
  have b4_0' := Blk.keep (g := w3.heap.size) hb12 (by (repeat' (first | (with_reducible refine' Blk.alloc ?_ _) | (with_reducible refine' Blk.drew ?_) | (with_reducible refine' Blk.drewN ?_ _) | (with_reducible refine' Blk.put ?_ ?_) | (with_reducible refine' Blk.far ?_ ?_ _) | exact b4_0 | exact rfl)) <;> (first | omega | (simp <;> omega)))
  (try simp only [List.setIfInBounds_toArray, List.set_cons_zero, List.set_cons_succ] at b4_0')
  have b5_0' := Blk.keep (g := w4.heap.size) hb12 (by (repeat' (first | (with_reducible refine' Blk.alloc ?_ _) | (with_reducible refine' Blk.drew ?_) | (with_reducible refine' Blk.drewN ?_ _) | (with_reducible refine' Blk.put ?_ ?_) | (with_reducible refine' Blk.far ?_ ?_ _) | exact b5_0 | exact rfl)) <;> (first | omega | (simp <;> omega)))
  (try simp only [List.setIfInBounds_toArray, List.set_cons_zero, List.set_cons_succ] at b5_0')
  have b7_0' := Blk.keep (g := w6.heap.size) hb12 (by (repeat' (first | (with_reducible refine' Blk.alloc ?_ _) | (with_reducible refine' Blk.drew ?_) | (with_reducible refine' Blk.drewN ?_ _) | (with_reducible refine' Blk.put ?_ ?_) | (with_reducible refine' Blk.far ?_ ?_ _) | exact b7_0 | exact rfl)) <;> (first | omega | (simp <;> omega)))
  (try simp only [List.setIfInBounds_toArray, List.set_cons_zero, List.set_cons_succ] at b7_0')
  have b8_0' := Blk.keep (g := w7.heap.size) hb12 (by (repeat' (first | (with_reducible refine' Blk.alloc ?_ _) | (with_reducible refine' Blk.drew ?_) | (with_reducible refine' Blk.drewN ?_ _) | (with_reducible refine' Blk.put ?_ ?_) | (with_reducible refine' Blk.far ?_ ?_ _) | exact b8_0 | exact rfl)) <;> (first | omega | (simp <;> omega)))
  (try simp only [List.setIfInBounds_toArray, List.set_cons_zero, List.set_cons_succ] at b8_0')
  have b8_1' := Blk.keep (g := w7.heap.size + 1) hb12 (by (repeat' (first | (with_reducible refine' Blk.alloc ?_ _) | (with_reducible refine' Blk.drew ?_) | (with_reducible refine' Blk.drewN ?_ _) | (with_reducible refine' Blk.put ?_ ?_) | (with_reducible refine' Blk.far ?_ ?_ _) | exact b8_1 | exact rfl)) <;> (first | omega | (simp <;> omega)))
  (try simp only [List.setIfInBounds_toArray, List.set_cons_zero, List.set_cons_succ] at b8_1')
  have b9_0' := Blk.keep (g := w8.heap.size) hb12 (by (repeat' (first | (with_reducible refine' Blk.alloc ?_ _) | (with_reducible refine' Blk.drew ?_) | (with_reducible refine' Blk.drewN ?_ _) | (with_reducible refine' Blk.put ?_ ?_) | (with_reducible refine' Blk.far ?_ ?_ _) | exact b9_0 | exact rfl)) <;> (first | omega | (simp <;> omega)))
  (try simp only [List.setIfInBounds_toArray, List.set_cons_zero, List.set_cons_succ] at b9_0')
  clear hb12 K11
  clear b2_0 c2_0 f2_0 l2_0 e2_0 k2_0; have b2_0 := b2_0'; clear b2_0'
  clear b4_0 c4_0 f4_0 l4_0 e4_0 k4_0; have b4_0 := b4_0'; clear b4_0'
  clear b5_0 c5_0 f5_0 l5_0 e5_0 k5_0; have b5_0 := b5_0'; clear b5_0'
  clear b7_0 c7_0 f7_0 l7_0 e7_0 k7_0; have b7_0 := b7_0'; clear b7_0'
  clear b8_0 c8_0 f8_0 l8_0 e8_0 k8_0; have b8_0 := b8_0'; clear b8_0'
  clear b8_1 c8_1 f8_1 l8_1 e8_1 k8_1; have b8_1 := b8_1'; clear b8_1'
  clear b9_0 c9_0 f9_0 l9_0 e9_0 k9_0; have b9_0 := b9_0'; clear b9_0'
  obtain ⟨c2_0, f2_0, l2_0, e2_0, k2_0⟩ := Blk.facts b2_0
  obtain ⟨c4_0, f4_0, l4_0, e4_0, k4_0⟩ := Blk.facts b4_0
  obtain ⟨c5_0, f5_0, l5_0, e5_0, k5_0⟩ := Blk.facts b5_0
  obtain ⟨c7_0, f7_0, l7_0, e7_0, k7_0⟩ := Blk.facts b7_0
  obtain ⟨c8_0, f8_0, l8_0, e8_0, k8_0⟩ := Blk.facts b8_0
  obtain ⟨c8_1, f8_1, l8_1, e8_1, k8_1⟩ := Blk.facts b8_1
  obtain ⟨c9_0, f9_0, l9_0, e9_0, k9_0⟩ := Blk.facts b9_0
  go_wp2
  go_ret
  exact ⟨rfl, (kept_call (by (repeat' (first | (with_reducible exact K12) | (with_reducible refine Below.setCell ?_ ?_ _) | (with_reducible refine Below.alloc ?_ ?_ _) | (with_reducible refine Below.drew ?_) | (with_reducible refine below_drewN ?_ _))) <;> (first | omega | (simp <;> omega))) K1)⟩
theorem scales_walk (A : Option Addr) (len cap : Nat) (zs : List Int) {w : World} (hA : IntsAt w A len zs) (v : Int) (hv : IntIn v) (b : Int) (_ : IntIn b) (c : Int) (_ : IntIn c) (W : World) (h : W = w) :
    Walked 9 #[.slice A len cap, .int .i64 v, .int .i64 b, .int .i64 c] W := by
  subst h; exact scales_core A len cap zs v b c hv W hA
end Go.Proofs.Ytmebkbnildjfhaa
